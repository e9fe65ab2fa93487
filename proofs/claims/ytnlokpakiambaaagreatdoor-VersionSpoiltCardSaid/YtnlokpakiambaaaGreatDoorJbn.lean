/- The walks and laws that the claim leans on, part 40. -/
import Derived.Test.YtnlokpakiambaaaGreatDoorJbm
set_option maxRecDepth 100000
set_option maxHeartbeats 16000000
namespace Go.Proofs.YtnlokpakiambaaaGreatDoor
open Go.Lib (hid)
section
open Go.RowKit Go.Maps
def ckS (B:Nat→Nat) (q:Nat) (_p:Nat) (v:Nat × Bool × Nat × Nat):Nat × Bool :=
 if v.2.1=false∧B v.2.2.1≠0 then (11,false) else (q,decide (q=0))
section
variable {a:DA} {L T s n K:Nat} {x:HA} {cs:Nat→CS} {f:Nat→Option Nat} {N m b0:Nat} {S:Fp} {cur:Nat→Nat} {w:World} {d r:Nat}
theorem vck1_any {W:World} (h:SD a L T s n K x cs f N m b0 S cur W d r) (p sp:Nat) (dl:Bool) (dt ol gs gb q:Nat) (hdt:dt < 18446744073709551616) (hs:Blk W gs 124 #[.iface 43 (.pointer (some ⟨d,0,none⟩))]) (hb:Blk W gb 37 #[.int .i64 (q:Int)]) (hne:gs≠gb) :
  Calls Tryz.prog 61 #[.int .u64 (p:Int), .agg #[.int .u64 (sp:Int), .bool dl, .int .u64 (dt:Int), .int .u64 (ol:Int)], .pointer (some ⟨gs,0,none⟩), .pointer (some ⟨gb,0,none⟩)] W fun e w'=>e = .returned (.bool (ckS (fun z=>(walkR L cur (fun q=>chkR s K cs q 1) z).1) q p (sp,dl,dt,ol)).2)∧(Blk w' gs 124 #[.iface 43 (.pointer (some ⟨d,0,none⟩))]∧Blk w' gb 37 #[.int .i64 ((ckS (fun z=>(walkR L cur (fun q=>chkR s K cs q 1) z).1) q p (sp,dl,dt,ol)).1:Int)])∧Chg (fun k=>k=gb) W w':=by
 obtain ⟨W1,hW1⟩:∃ W1,W.alloc (.cells #[.int .u64 (sp:Int), .bool dl, .int .u64 (dt:Int), .int .u64 (ol:Int)] 36)=W1:=⟨_,rfl⟩
 have hbx:=Blk.new W 36 #[.int .u64 (sp:Int), .bool dl, .int .u64 (dt:Int), .int .u64 (ol:Int)]
 have hB1:Below W.heap.size W (W.alloc (.cells #[.int .u64 (sp:Int), .bool dl, .int .u64 (dt:Int), .int .u64 (ol:Int)] 36)):=(Below.refl _ _).alloc (Nat.le_refl _) _
 rw [hW1] at hbx hB1
 have HW1:=hid hW1
 have hs1:=hs.below hB1 hs.lt
 have hb1:=hb.below hB1 hb.lt
 have HCh0:Hid (Chg (fun k=>k=gb) W W1):=hid (Chg.of_below hB1)
 have HCk:=hid (bcheck_any (h.below hB1) dt hdt rfl)
 have HDm:Hid (∀ W',Below W.heap.size W W'→Calls Tryz.prog 63 #[.iface 43 (.pointer (some ⟨d,0,none⟩))] W' fun e w'=>e = .returned (.int .i64 11)∧W'=w'):=hid (fun W' hW=>vdamaged_any (h.below hW))
 unfold dirV at HCk
 obtain ⟨ev,hev⟩:∃ ev,(walkR L cur (fun q=>chkR s K cs q 1) dt).1=ev:=⟨_,rfl⟩
 rw [hev] at HCk
 have HCS:Hid (ckS (fun z=>(walkR L cur (fun q=>chkR s K cs q 1) z).1) q p (sp,dl,dt,ol)=if dl=false∧ev≠0 then (11,false) else (q,decide (q=0))):=hid (by rw [← hev];rfl)
 generalize ckS (fun z=>(walkR L cur (fun q=>chkR s K cs q 1) z).1) q p (sp,dl,dt,ol)=Y at *
 have v1:W1.cell? ⟨W.heap.size,1,none⟩=some (.bool dl):=hbx.cell 1
 have v2:W1.cell? ⟨W.heap.size,2,none⟩=some (.int .u64 (dt:Int)):=hbx.cell 2
 have s1:W1.cell? ⟨gs,0,none⟩=some (.iface 43 (.pointer (some ⟨d,0,none⟩))):=hs1.cell 0
 have b1:W1.cell? ⟨gb,0,none⟩=some (.int .i64 (q:Int)):=hb1.cell 0
 have HS1:=hid hs1
 have HBb:=hid hb1
 have HNe:=hid hne
 have HB1:=hid hB1
 have hq:((q:Int) == 0)=decide (q=0):=by
  by_cases h:q=0
  ·subst h;rfl
  ·rw [decide_eq_false h,beq_eq_false_iff_ne];omega
 generalize decide (q=0)=qz at *
 clear h hs hb hne hbx hB1 hs1 hb1 hW1 hev hdt
 by_cases hbad:dl=false∧ev≠0
 ·obtain ⟨rfl,hev⟩:=hbad
  have HY:Hid (Y=(11,false)):=hid (by rw [HCS.out,if_pos ⟨rfl,hev⟩])
  have d1:((ev:Int) != 0)=true:=by rw [bne,beq_eq_false_iff_ne.2 (by omega)];rfl
  clear HCS
  go_enter Tryz.func61,Tryz.ntmps61
  go_upto_region 1 with fail
  rw [HW1.out]
  go_wp2_with (go_at_call 62;refine HCk.out.mono ?_;rintro e w2 ⟨rfl,hb2⟩;have HB2:=hid hb2;clear hb2;refine stop ?_)
  unfold Stop
  have hs2:=HS1.out.below HB2.out HS1.out.lt
  have hb2:=HBb.out.below HB2.out HBb.out.lt
  have s2:w2.cell? ⟨gs,0,none⟩=some (.iface 43 (.pointer (some ⟨d,0,none⟩))):=hs2.cell 0
  have b2:w2.cell? ⟨gb,0,none⟩=some (.int .i64 (q:Int)):=hb2.cell 0
  have z2:w2.frozen? ⟨gb,0,none⟩=false:=hb2.frozen 0
  have hlt2:gb < w2.heap.size:=hb2.lt
  have HD2:=hid (HDm.out w2 (HB1.out.trans (HB2.out.mono HB1.out.size)))
  have HS2:=hid hs2
  have HBb2:=hid hb2
  have HCh2:Hid (Chg (fun k=>k=gb) W w2):=hid (HCh0.out.trans (Chg.of_below HB2.out) (Grew.refl _ _))
  clear hs2 hb2
  go_wp2_with (go_at_call 63;refine HD2.out.mono ?_;rintro e w3 ⟨rfl,rfl⟩)
  go_ret
  rw [HY.out]
  have hch:Chg (fun k=>k=gb) W (w2.setCell ⟨gb,0,none⟩ (.int .i64 11)):=HCh2.out.setCell (p:=⟨gb,0,none⟩) (.inl rfl) _
  have hch2:Chg (fun k=>k=gb) w2 (w2.setCell ⟨gb,0,none⟩ (.int .i64 11)):=(Chg.refl (fun k=>k=gb) w2).setCell (p:=⟨gb,0,none⟩) (.inl rfl) _
  exact ⟨rfl,⟨hch2.blk HS2.out HNe.out,HBb2.out.set_ 0 (.int .i64 11)⟩,hch⟩
 ·have HY:Hid (Y=(q,qz)):=hid (by rw [HCS.out,if_neg hbad])
  clear HCS
  cases dl
  ·have hev:ev=0:=Classical.not_not.1 (fun h=>hbad ⟨rfl,h⟩)
   subst hev
   rw [show ((0:Nat):Int)=0 from rfl] at HCk
   clear hbad
   go_enter Tryz.func61,Tryz.ntmps61
   go_upto_region 1 with fail
   rw [HW1.out]
   go_wp2_with (go_at_call 62;refine HCk.out.mono ?_;rintro e w2 ⟨rfl,hb2⟩;have HB2:=hid hb2;clear hb2;refine stop ?_)
   unfold Stop
   have hs2:=HS1.out.below HB2.out HS1.out.lt
   have hb2:=HBb.out.below HB2.out HBb.out.lt
   have b2:w2.cell? ⟨gb,0,none⟩=some (.int .i64 (q:Int)):=hb2.cell 0
   have HS2:=hid hs2
   have HBb2:=hid hb2
   have HCh2:Hid (Chg (fun k=>k=gb) W w2):=hid (HCh0.out.trans (Chg.of_below HB2.out) (Grew.refl _ _))
   clear hs2 hb2
   go_wp2
   go_ret
   rw [HY.out]
   exact ⟨rfl,⟨HS2.out,HBb2.out⟩,HCh2.out⟩
  ·clear hbad
   go_enter Tryz.func61,Tryz.ntmps61
   go_upto_region 1 with fail
   rw [HW1.out]
   go_wp2
   go_ret
   rw [HY.out]
   exact ⟨rfl,⟨HS1.out,HBb.out⟩,HCh0.out⟩
def vckR (rd:Nat→Nat × Nat × Bool × Nat × Nat) (B:Nat→Nat) (head:Nat):Nat :=
 if (folW rd (ckS B) 4097 head 4611686018427387904 0 0).1≠0 then (folW rd (ckS B) 4097 head 4611686018427387904 0 0).1 else (folW rd (ckS B) 4097 head 4611686018427387904 0 0).2
def CkR (d gs gb:Nat) (q:Nat) (W:World):Prop:=Blk W gs 124 #[.iface 43 (.pointer (some ⟨d,0,none⟩))]∧Blk W gb 37 #[.int .i64 (q:Int)]
theorem ck_body (h:SD a L T s n K x cs f N m b0 S cur w d r) (gs gb:Nat) (h1:gs≠gb):Body 61 #[.pointer (some ⟨gs,0,none⟩), .pointer (some ⟨gb,0,none⟩)] w (fun _ _=>True) (fun _ _ k=>k=gb) (CkR d gs gb) (ckS (fun z=>(walkR L cur (fun q=>chkR s K cs q 1) z).1)):=by
 intro q _ p sp dl dt ol W _ _ hR hW _ _ _ hdt _
 obtain ⟨r1,r2⟩:=hR
 have e:(#[Value.int .u64 (p:Int), .agg #[.int .u64 (sp:Int), .bool dl, .int .u64 (dt:Int), .int .u64 (ol:Int)]]++#[Value.pointer (some ⟨gs,0,none⟩), .pointer (some ⟨gb,0,none⟩)])=#[.int .u64 (p:Int), .agg #[.int .u64 (sp:Int), .bool dl, .int .u64 (dt:Int), .int .u64 (ol:Int)], .pointer (some ⟨gs,0,none⟩), .pointer (some ⟨gb,0,none⟩)]:=by simp
 rw [e]
 exact vck1_any (h.below hW) p sp dl dt ol gs gb q hdt r1 r2 h1
theorem vcheck_any (h:SD a L T s n K x cs f N m b0 S cur w d r) (head:Nat) (hh:head < 18446744073709551616) :
  Calls Tryz.prog 22 #[.iface 43 (.pointer (some ⟨d,0,none⟩)), .int .u64 (head:Int)] w fun e w'=>e = .returned (.int .i64 (vckR (verR cur (fun q=>chkR s K cs q 7)) (fun z=>(walkR L cur (fun q=>chkR s K cs q 1) z).1) head:Int))∧Below w.heap.size w w':=by
 obtain ⟨W1,hW1⟩:∃ W1,(w.alloc (.cells #[.iface 43 (.pointer (some ⟨d,0,none⟩))] 124)).alloc (.cells #[.int .i64 0] 37)=W1:=⟨_,rfl⟩
 have HW1:=hid hW1
 have sz1:(w.alloc (.cells #[.iface 43 (.pointer (some ⟨d,0,none⟩))] 124)).heap.size=w.heap.size+1:=by simp
 have hb:Below w.heap.size w W1:=by
  rw [← hW1]
  exact ((Below.refl _ _).alloc (Nat.le_refl _) _).alloc (by simp) _
 have hR0:CkR d w.heap.size (w.heap.size+1) 0 W1:=by
  rw [← hW1]
  refine ⟨(Blk.new w 124 #[.iface 43 (.pointer (some ⟨d,0,none⟩))]).alloc _,?_⟩
  have h1:=Blk.new (w.alloc (.cells #[.iface 43 (.pointer (some ⟨d,0,none⟩))] 124)) 37 #[.int .i64 0]
  rw [sz1] at h1
  exact h1
 have HFo:=hid (vfollow_any h hb head hh 61 #[.pointer (some ⟨w.heap.size,0,none⟩), .pointer (some ⟨w.heap.size+1,0,none⟩)] (fun _ _=>True) (fun _ _ k=>k=w.heap.size+1) (CkR d w.heap.size (w.heap.size+1)) (ckS (fun z=>(walkR L cur (fun q=>chkR s K cs q 1) z).1)) 0
  (fun s W hR k hk=>by
   subst hk
   exact ⟨by omega,hR.2.lt⟩) (fun _ _ _ _ _ _ hk=>hk) trivial (fun _ _ _ _ _ _=>trivial) hR0 (fun s W W' hR hW=>⟨hR.1.below hW hR.1.lt,hR.2.below hW hR.2.lt⟩) (fun args w=>by kernel_rfl) (ck_body h _ _ (by omega)))
 have HCk:Hid (vckR (verR cur (fun q=>chkR s K cs q 7)) (fun z=>(walkR L cur (fun q=>chkR s K cs q 1) z).1) head=if (folW (verR cur (fun q=>chkR s K cs q 7)) (ckS (fun z=>(walkR L cur (fun q=>chkR s K cs q 1) z).1)) 4097 head 4611686018427387904 0 0).1≠0 then (folW (verR cur (fun q=>chkR s K cs q 7)) (ckS (fun z=>(walkR L cur (fun q=>chkR s K cs q 1) z).1)) 4097 head 4611686018427387904 0 0).1 else (folW (verR cur (fun q=>chkR s K cs q 7)) (ckS (fun z=>(walkR L cur (fun q=>chkR s K cs q 1) z).1)) 4097 head 4611686018427387904 0 0).2):=hid rfl
 generalize folW (verR cur (fun q=>chkR s K cs q 7)) (ckS (fun z=>(walkR L cur (fun q=>chkR s K cs q 1) z).1)) 4097 head 4611686018427387904 0 0=X at *
 generalize vckR (verR cur (fun q=>chkR s K cs q 7)) (fun z=>(walkR L cur (fun q=>chkR s K cs q 1) z).1) head=Y at *
 have c1:W1.cell? ⟨w.heap.size,0,none⟩=some (.iface 43 (.pointer (some ⟨d,0,none⟩))):=hR0.1.cell 0
 have hmf:∀ (fn:Fn) (first cap:Array Value) (w:World),(Instr.makeFunc fn first cap).run Tryz.prog w = .ok (.func fn first cap) w:=fun _ _ _ _=>rfl
 clear h hW1 hb hR0 hh
 go_enter Tryz.func22,Tryz.ntmps22
 go_upto_region 2 with fail
 rw [HW1.out]
 go_wp2_with fail
 refine HFo.out.mono ?_
 rintro e w2 ⟨rfl,⟨r1,r2⟩,hb2⟩
 obtain ⟨ev,q⟩:=X
 dsimp only at r2 HCk
 have HB2:=hid hb2
 have b2:w2.cell? ⟨w.heap.size+1,0,none⟩=some (.int .i64 (q:Int)):=r2.cell 0
 clear r1 r2 hb2 HW1 HFo sz1 c1
 by_cases hev:ev=0
 ·subst hev
  rw [show ((0:Nat):Int)=0 from rfl]
  have HY:Hid (Y=q):=hid (by rw [HCk.out];rfl)
  go_wp2
  go_ret
  rw [HY.out]
  exact ⟨rfl,HB2.out⟩
 ·have HY:Hid (Y=ev):=hid (by rw [HCk.out,if_pos hev])
  have d1:((ev:Int) != 0)=true:=by rw [bne,beq_eq_false_iff_ne.2 (by omega)];rfl
  clear hev HCk
  go_wp2
  go_ret
  rw [HY.out]
  exact ⟨rfl,HB2.out⟩
end
end
section
open Go.RowKit Go.Maps
section
variable {a:DA} {L T n K:Nat} {x:HA} {cs cs2:Nat→CS} {f f2:Nat→Option Nat} {N m b0:Nat} {S:Fp} {cur cur2:Nat→Nat} {w:World} {ks keep free:List Nat} {V:Nat→Nat} {cm d r:Nat}
theorem sfp_new (h:SD a L T 53 n K x cs f N m b0 S cur w d r):¬ sfp S x w.heap.size:=by
 rintro (e | e)
 ·exact Nat.lt_irrefl _ (h.ds.dev.lt _ e)
 ·have h1:=h.lo
  have h2:=h1.pl
  have h3:=h1.mr
  have h4:=h1.mh
  have e':w.heap.size=x.pl∨w.heap.size=x.mr∨w.heap.size=x.mh:=e
  omega
theorem lit_cells (W:World) (C:Array Value) (t:TypeId) (l:List Nat) (h:C.toList=uCells l):Reads (W.alloc (.cells C t)) (W.alloc (.cells C t)).heap.size 1 (some ⟨W.heap.size,0,none⟩) l.length (uCells l):=by
 refine ⟨by simp [uCells],fun _=>⟨_,rfl,by simp,fun j u hu=>?_⟩⟩
 have hh:(W.alloc (.cells C t)).heap[W.heap.size]?=some (.cells C t):=heap_alloc_new W _
 have ha:(⟨W.heap.size,0,none⟩:Addr).add j=⟨W.heap.size,j,none⟩:=by unfold Addr.add;split <;> simp_all
 rw [ha,cell_of_row _ _ _ _ _ _ hh,← Array.getElem?_toList,h]
 exact hu
variable {y:WA}
end
end
section
open Go.RowKit Go.Maps
theorem raw_any (A:Option Addr) (n c:Nat) (l:List Nat) (w:World) (hr:Reads w w.heap.size 1 A n (uCells l)) (hn:n≤100000) :
  Calls Tryz.prog 20 #[.slice A n c] w fun e w'=>∃ A' c',e = .returned (.slice A' n c')∧w'.ownsRow w.heap.size 23 1 (.slice A' n c') n (uCells l)∧Below w.heap.size w w':=by
 have hl:l.length=n:=by have h1:=hr.1;simpa [uCells] using h1
 obtain ⟨i0,hi0,hz0,hz1,hz2⟩:=info_parts infoU64
 have HR:=hid hr
 have HB0:Hid (Below w.heap.size w w):=Below.refl _ _
 have HO0:Hid (w.ownsRow w.heap.size 23 1 (.slice none 0 0) 0 (uCells (l.take 0))):=World.ownsRow_nil _ _ _ _
 have HL:=hid hl
 clear hr hl
 go_enter Tryz.func20,Tryz.ntmps20
 go_wp2
 go_loopw [3,8] (fun p i wr=>∃ (k:Nat) (A1:Option Addr) (c1:Nat),k≤n∧i = .int .i64 (k:Int)∧p = .slice A1 k c1∧Hid (wr.ownsRow w.heap.size 23 1 (.slice A1 k c1) k (uCells (l.take k)))∧Hid (Below w.heap.size w wr)) (fun _ i _=>n - (Go.RowKit.intOf i).toNat)
 case atStart=>exact ⟨0,_,_,Nat.zero_le _,rfl,rfl,HO0,HB0⟩
 case round =>
  clear HB0 HO0
  obtain ⟨k,A1,c1,hk,rfl,rfl,HO,H⟩:=hrel
  by_cases hlt:k < n
  ·obtain ⟨hkl,gb,go,hA3,_,fk⟩:=u_facts ((HR.out.below H.out).more H.out.size) (k:=k) hlt
   subst hA3
   have hz5:(0:Int)≤(k:Int):=by omega
   have hz6:(k:Int) < (n:Int):=by omega
   have HT:Hid (uCells (l.take k)++[.int .u64 (l[k]:Int)]=uCells (l.take (k+1))):=hid (by
    rw [List.take_succ_eq_append_getElem hkl]
    unfold uCells
    rw [List.map_append]
    rfl)
   generalize l[k]=v at *
   have HLE:=hid H.out.size
   have HOD:=hid (HO.out.alloc (.cells #[.int .u64 (v:Int)] 23))
   have HBD:=hid (H.out.alloc H.out.size (.cells #[.int .u64 (v:Int)] 23))
   clear H HO hkl
   go_wp2_with (at_builtin;refine wpList_app _ (.tmp 12) (.tmp 14) 33 rfl rfl w.heap.size 23 i0 _ 1 8 Tryz.underlying33 hi0 hz0 hz1 hz2 rfl Nat.one_pos (.slice A1 k c1) k (uCells (l.take k)) rfl HOD.out (wr.heap.size+1) (some ⟨wr.heap.size,0,none⟩) 1 1 [.int .u64 (v:Int)] rfl ?q5 ?q6 ?q2 ?q3 ?q4 ?_;(case q5=>exact row_reads_at _ _ rfl _ 1 1 23 _ rfl rfl);(case q6=>(intro u hu;simp at hu;subst hu;rfl));(case q2=>(unfold maxLen;omega));(case q3=>omega);(case q4=>(have:=HLE.out;simp;omega));intro A3 n3 c3 w8 hn3 ho3 hg3 hb3;have HN3:=hid hn3;have HO3:=hid ho3;have HB3:=hid (HBD.out.trans hb3);clear hn3 ho3 hg3 hb3;refine stop ?_)
   unfold Stop
   have hn3:=HN3.out
   subst hn3
   have HO4:Hid (w8.ownsRow w.heap.size 23 1 (.slice A3 (k+1) c3) (k+1) (uCells (l.take (k+1)))):=hid (by have h:=HO3.out;rw [HT.out] at h;exact h)
   clear HO3 HN3
   go_wp2
   go_roundw
   case rel =>
    first
     | exact ⟨k+1,_,_,by omega,by go_num,rfl,HO4,HB3⟩
     | (
       repeat apply Exists.intro
       refine ⟨?_,rfl⟩
       exact ⟨k+1,_,_,by omega,by go_num,rfl,HO4,HB3⟩)
   case measure=>simp [Go.RowKit.intOf];omega
  ·obtain rfl:n=k:=by omega
   go_wp2
   go_ret
   refine ⟨_,_,rfl,?_,H.out⟩
   have h:=HO.out
   rw [List.take_of_length_le (Nat.le_of_eq HL.out)] at h
   exact h
end
section
open Go.RowKit Go.Maps
theorem linked_any {a:DA} {L T K:Nat} {x:HA} {y:WA} {cs:Nat→CS} {f:Nat→Option Nat} {N m b0:Nat} {S:Fp} {cur:Nat→Nat} {w:World} (h:BW a L T K x y cs f N m b0 S cur w) (i:Nat) (hi:i < 8) :
  Calls Tryz.prog 13 #[.pointer (some ⟨y.g,0,none⟩), .int .i64 (i:Int)] w fun e w'=>e = .returned (.int .u64 (cur (416+i):Int))∧w'=w.drew:=by
 have HLk:=hid (linkB_any i hi)
 have hL:=h.size
 have HLd:Hid (∀ W,W=w.drew→Calls Tryz.prog 53 #[.pointer (some ⟨a.th 0,0,none⟩), .int .u64 ((3328+8 * i:Nat):Int)] W (fun e w'=>e = .returned (.int .u64 (cur (416+i):Int))∧W=w')):=hid (fun W hW=>by
  subst hW
  exact load_at h.sd.ds.dev (3328+8 * i) _ (by omega) (by omega) (by congr 1;omega) _ (Below.refl _ _).drew)
 have g1:w.cell? ⟨y.g,1,none⟩=some (.pointer (some ⟨a.th 0,0,none⟩)):=h.blk.cell 1
 generalize 3328+8 * i=O at *
 generalize cur (416+i)=V at *
 clear h
 go_enter Tryz.func13,Tryz.ntmps13
 go_upto_region 1 with fail
 refine wp_region_scriptH (fun w'=>w'.cell? ⟨y.g,1,none⟩=some (.pointer (some ⟨a.th 0,0,none⟩))) 8 [] [(1,0),(1,1),(1,2),(1,3),(1,4),(0,5),(0,6),(1,7)] (by kernel_rfl) (by kernel_rfl) g1 ?_
 refine wpScriptH_take (.pointer (some ⟨y.g,0,none⟩)) (by rfl) (by rfl) (fun w' hS=>?_) ?_
 ·go_simp
 simp only [zA,zB,Act.put,zD,zE,zF]
 refine wpScriptH_take (.pointer (some ⟨y.g,0,none⟩)) (by rfl) (by rfl) (fun w' hS=>?_) ?_
 ·go_simp
 simp only [zA,zB,zC,Act.put,zD,zE,zF]
 refine wpScriptH_take (.pointer (some ⟨y.g,1,none⟩)) (by rfl) (by rfl) (fun w' hS=>?_) ?_
 ·go_simp
 simp only [zA,zB,zC,Act.put,zD,zE,zF]
 refine wpScriptH_take (.pointer (some ⟨a.th 0,0,none⟩)) (by rfl) (by rfl) (fun w' hS=>?_) ?_
 ·go_simp
 simp only [zA,zB,zC,Act.put,zD,zE,zF]
 refine wpScriptH_take (.int .i64 (i:Int)) (by rfl) (by rfl) (fun w' hS=>?_) ?_
 ·go_simp
 simp only [zA,zB,zC,Act.put,zD,zE,zF]
 refine wpScriptH_do (by rfl) ?_
 go_wp2_with (go_at_call 54;refine (HLk.out _).mono ?_;rintro e w1 ⟨rfl,rfl⟩)
 refine ⟨g1,?_⟩
 refine wpScriptH_do (by rfl) ?_
 go_wp2_with (go_at_call 53;refine (HLd.out _ rfl).mono ?_;rintro e w1 ⟨rfl,rfl⟩)
 refine ⟨g1,?_⟩
 refine wpScriptH_take (.int .u64 (V:Int)) (by rfl) (by rfl) (fun w' hS=>?_) ?_
 ·go_simp
 simp only [zA,zB,zC,Act.put,zD,zE,zF]
 show wpList _ _ _ _ _ _
 simp only [List.drop_succ_cons,List.drop_zero]
 refine NoPanic.normal ?_
 go_wp2_with fail
 go_ret
 exact ⟨rfl,rfl⟩
end
end Go.Proofs.YtnlokpakiambaaaGreatDoor
