/- The walks and laws that the claim leans on, part 35. -/
import Derived.Test.YtfkjjoglnmeciaaGreatDoorJbe
import Derived.Test.YtfkjjoglnmeciaaGreatDoorJbf
import Derived.Test.YtfkjjoglnmeciaaGreatDoorJbh
import Derived.Lib.ConvBytes
set_option maxRecDepth 100000
set_option maxHeartbeats 16000000
namespace Go.Proofs.YtfkjjoglnmeciaaGreatDoor
open Go.Lib (hid)
section
open Go.RowKit
def RetAct (w:World) (ln cl:Nat) (bs:Nat→BK) (take:List (Nat × Nat)) (drop:List Nat) (e:Ending) (w':World):Prop :=
 ∃ A m c V',e = .returned (.tuple #[.slice A m c, .int .i64 0])∧Bits V' cl (actB bs take drop)∧w'.ownsRow w.heap.size 114 2 (.slice A m c) m (wrCells (chgW ln cl bs take drop V'))∧Below w.heap.size w w'
section
variable {a:DA} {L T:Nat} {w:World} {S:Fp} {cur:Nat→Nat} {F:Nat}
theorem chActions_any (h:Dev a L T w S cur F) (ht:Tab w) (hp:Pay w) (ln cl g V:Nat) (bs:Nat→BK) (hl:ln+32≤L) (hC:ChW cur ln cl g V bs)
  (A1 A2 A3:Option Addr) (n1 c1 c2 n3 c3:Nat) (take:List (Nat × Nat)) (drop:List Nat) (h1:Reads w w.heap.size 1 A1 n1 (jCells (take.map (·.1)))) (h2:Reads w w.heap.size 1 A2 n1 (u8s (take.map (·.2)))) (h3:Reads w w.heap.size 1 A3 n3 (jCells drop))
  (hn:(take.map (·.1)++drop).Nodup) (hi1:∀ e∈take,e.1 < perC cl∧(bs e.1).st=176∧0 < e.2∧e.2 < 128) (hi3:∀ i∈drop,i < perC cl∧(bs i).st=177) (hne:0 < n1∨0 < n3) (hn1:n1≤100) (hn3:n3≤100) :
  Calls Tryz.prog 240 #[chV a ln cl 0 g, .slice A1 n1 c1, .slice A2 n1 c2, .slice A3 n3 c3] w (RetAct w ln cl bs take drop):=by
 have hb0:Below w.heap.size w (w.alloc (.cells (chCells a ln cl g) 306)):=(Below.refl _ _).alloc (Nat.le_refl _) _
 have HB0:=hid hb0
 have HK:=hid (Blk.new w 306 (chCells a ln cl g))
 have HOn:Hid (∀ W bl,Below w.heap.size w W→Blk W bl 34 #[.slice A1 n1 c1, .slice A3 n3 c3]→Calls Tryz.prog 318 #[chV a ln cl 0 g, .slice (some ⟨bl,0,none⟩) 2 2] W fun e w'=>e = .returned (.bool true)∧Below W.heap.size W w'):=hid (fun W bl hW hB=>once_any a ln cl g hC.cls A1 A3 n1 c1 n3 c3 (take.map (·.1)) drop W (hp.below hW) bl hB ((h1.below hW).more hW.size) ((h3.below hW).more hW.size) hn (fun i hi=>by
  rcases List.mem_append.1 hi with hi | hi
  ·obtain ⟨e,he,rfl⟩:=List.mem_map.1 hi
   exact (hi1 e he).1
  ·exact (hi3 i hi).1) (by omega) (by omega))
 have HEr:Hid (∀ W,Below w.heap.size w W→Calls Tryz.prog 112 #[.pointer (some ⟨a.th 0,0,none⟩)] W fun e w'=>e = .returned (.int .i64 0)∧W=w'):=hid (fun W hW=>thErr (h.below hW))
 have HCh:Hid (∀ W,Below w.heap.size w W→Calls Tryz.prog 319 #[chV a ln cl 0 g, .slice A1 n1 c1, .slice A2 n1 c2, .slice A3 n3 c3] W (RetChg W ln cl bs take drop)):=hid (fun W hW=>changes_any (h.below hW) (ht.below hW) (hp.below hW) ln cl g V bs hl hC A1 A2 A3 n1 c1 c2 n3 c3 take drop ((h1.below hW).more hW.size) ((h2.below hW).more hW.size) ((h3.below hW).more hW.size) hn hi1 hi3 hne hn1 hn3)
 have HR2:=hid h2
 have HI1:=hid hi1
 have HL2:=hid (show take.length=n1 by have:=h2.1;simp [u8s] at this;omega)
 have hm:=methErr (some ⟨a.th 0,0,none⟩)
 have hq:=eqMem (some ⟨a.th 0,0,none⟩)
 clear h ht hp hl hC h1 h2 h3 hn hi1 hi3 hne hb0
 unfold chV at *
 unfold chCells memV at *
 generalize hW:w.alloc (.cells #[.iface 58 (.pointer (some ⟨a.th 0,0,none⟩)), .int .i64 (ln:Int), .int .i64 (cl:Int), .int .i64 0, .int .u16 (g:Int)] 306)=W at *
 have HWe:=hid hW.symm
 clear hW
 go_enter Tryz.func240,Tryz.ntmps240
 go_wp2
 rw [← HWe.out]
 go_loopw [23] (fun i wr=>∃ (k:Nat),k≤n1∧i = .int .i64 k∧Hid (W=wr)) (fun i _=>n1 - (Go.RowKit.intOf i).toNat)
 case atStart=>exact ⟨0,Nat.zero_le _,rfl,hid rfl⟩
 case round =>
  obtain ⟨k,hk,rfl,hw⟩:=hrel
  have hw:=hw.out
  subst hw
  by_cases hlt:k < n1
  ·obtain ⟨hl2,b2,off2,hA2,hbB2,fk⟩:=k_facts (HR2.out.below HB0.out) hlt
   subst hA2
   have e2:(take.map (·.2))[k]=(take[k]'(by rw [HL2.out];exact hlt)).2:=by simp
   rw [e2] at fk
   obtain ⟨_,_,hk0,hk8⟩:=HI1.out (take[k]'(by rw [HL2.out];exact hlt)) (List.getElem_mem _)
   generalize (take[k]'(by rw [HL2.out];exact hlt)).2=kd at *
   have d1:((kd:Int) == 0)=false:=by rw [beq_eq_false_iff_ne];omega
   have d2:decide ((127:Int) < (kd:Int))=false:=decide_eq_false (by omega)
   have d2n:decide (127 < kd)=false:=decide_eq_false (by omega)
   have hz5:(0:Int)≤(k:Int):=by omega
   have hz6:(k:Int) < (n1:Int):=by omega
   clear e2 hl2
   go_wp2
   go_roundw
   case rel =>
    first
     | exact ⟨k+1,by omega,by go_num,hid trivial⟩
     | exact ⟨k+1,by omega,by go_num,hid rfl⟩
     | (
       repeat apply Exists.intro
       refine ⟨?_,rfl⟩
       exact ⟨k+1,by omega,by go_num,hid rfl⟩)
   case measure=>simp [Go.RowKit.intOf];omega
  ·have hkn:k=n1:=by omega
   subst hkn
   clear hlt hk
   have hd0:W.cell? ⟨w.heap.size,0,none⟩=some (.iface 58 (.pointer (some ⟨a.th 0,0,none⟩))):=HK.out.cell 0
   have hd1:W.cell? ⟨w.heap.size,1,none⟩=some (.int .i64 (ln:Int)):=HK.out.cell 1
   have hd2:W.cell? ⟨w.heap.size,2,none⟩=some (.int .i64 (cl:Int)):=HK.out.cell 2
   have hd3:W.cell? ⟨w.heap.size,3,none⟩=some (.int .i64 0):=HK.out.cell 3
   have hd4:W.cell? ⟨w.heap.size,4,none⟩=some (.int .u16 (g:Int)):=HK.out.cell 4
   have HBs:=hid (HB0.out.alloc HB0.out.size (.cells #[.slice A1 k c1, .slice A3 n3 c3] 34))
   have HKs:=hid (Blk.new W 34 #[.slice A1 k c1, .slice A3 n3 c3])
   have HOs:=hid (HOn.out _ _ HBs.out HKs.out)
   have HKc:=hid (HK.out.alloc (.cells #[.slice A1 k c1, .slice A3 n3 c3] 34))
   clear HOn HKs
   go_wp2_with (go_at_call 318;refine HOs.out.mono ?_;rintro e w2 ⟨rfl,hb2⟩;refine stop ?_)
   unfold Stop
   have HB2:=hid (HBs.out.trans (hb2.mono HBs.out.size))
   have HK2:=hid (HKc.out.below hb2 HKc.out.lt)
   clear hb2 hd0 hd1 hd2 hd3 hd4 HOs HBs HKc
   have hd0:w2.cell? ⟨w.heap.size,0,none⟩=some (.iface 58 (.pointer (some ⟨a.th 0,0,none⟩))):=HK2.out.cell 0
   have hd1:w2.cell? ⟨w.heap.size,1,none⟩=some (.int .i64 (ln:Int)):=HK2.out.cell 1
   have hd2:w2.cell? ⟨w.heap.size,2,none⟩=some (.int .i64 (cl:Int)):=HK2.out.cell 2
   have hd3:w2.cell? ⟨w.heap.size,3,none⟩=some (.int .i64 0):=HK2.out.cell 3
   have hd4:w2.cell? ⟨w.heap.size,4,none⟩=some (.int .u16 (g:Int)):=HK2.out.cell 4
   have HC2:=hid (HCh.out w2 HB2.out)
   have HE2:=hid (HEr.out w2 HB2.out)
   go_wp2_with (first
    | (go_at_call 112;refine HE2.out.mono ?_;rintro e w3 ⟨rfl,rfl⟩)
    | (go_at_call 319;refine HC2.out.mono ?_;rintro e w3 ⟨A,m,c,V',rfl,hbt,ho,hb3⟩;refine stop ?_))
   unfold Stop
   have HB3:=hid (HB2.out.trans (hb3.mono HB2.out.size))
   have HK3:=hid (HK2.out.below hb3 HK2.out.lt)
   have HBt:=hid hbt
   have HO3:=hid (own_le (base':=w.heap.size) ho HB2.out.size)
   have HE3:=hid (HEr.out w3 HB3.out)
   have hx0:w3.cell? ⟨w.heap.size,0,none⟩=some (.iface 58 (.pointer (some ⟨a.th 0,0,none⟩))):=HK3.out.cell 0
   clear hb3 hbt ho hd0 hd1 hd2 hd3 hd4 HC2 HE2 HCh
   go_wp2_with (go_at_call 112;refine HE3.out.mono ?_;rintro e w4 ⟨rfl,rfl⟩)
   go_ret2
   exact ⟨_,_,_,V',rfl,HBt.out,HO3.out,HB3.out⟩
end
end
section
open Go.RowKit Go.Maps
section
variable {a:DA} {L T s n K:Nat} {x:HA} {cs:Nat→CS} {f:Nat→Option Nat} {N m b0:Nat} {S:Fp} {cur:Nat→Nat} {w w':World} {k:Nat}
theorem DS.rel (h:DS a L T s n K x cs f N m b0 S cur w) {o p:Nat} (hf:f o=some p) (ho:o < 18446744073709551616) (hk:k < K) (hN:N < maxLen) :
  ∃ (w1 w2 w3:World) (c c2:Int),
   (Builtin.delete_ #[190,32] 0 #[.map (some x.mr), .int .u64 (o:Int)]).run Tryz.prog w.drew = .ok (.tuple #[]) w1 ∧
   (Instr.lookup 191 (.map (some x.mh)) (.int .i64 ((s+32 * k:Nat):Int)) false).run Tryz.prog w1 = .ok (.int .i64 c) w1 ∧
   (Instr.mapUpdate 191 (.map (some x.mh)) (.int .i64 ((s+32 * k:Nat):Int)) (.int .i64 (wrap64 (c - 1)))).run Tryz.prog w1 = .ok () w2 ∧
   (Instr.lookup 191 (.map (some x.mh)) (.int .i64 ((s+32 * k:Nat):Int)) false).run Tryz.prog w2 = .ok (.int .i64 c2) w2 ∧
   (Builtin.delete_ #[191,3] 0 #[.map (some x.mh), .int .i64 ((s+32 * k:Nat):Int)]).run Tryz.prog w2 = .ok (.tuple #[]) w3 ∧
   Blk w1 x.h 194 (heapCells a s n x.gs x.mr x.mh false)∧Blk w2 x.h 194 (heapCells a s n x.gs x.mr x.mh false)∧Blk w3 x.h 194 (heapCells a s n x.gs x.mr x.mh false)∧Plc a s K x.p cs w3 ∧
   (DS a L T s n K x cs (updF f o none) (N+1) (m - 1) b0 S cur w2∧Chg x.fp w w2) ∧
   ∀ w4,Plc a s K x.p cs w4→Chg (fun j=>j=x.pl) w3 w4→DS a L T s n K x cs (updF f o none) (N+1) (m - 1) b0 S cur w4∧Chg x.fp w w4:=by
 obtain ⟨n1,n2,n3,n4,n5,n6,n7,n8⟩:=h.hs.pl_ne
 have hfew:=h.few
 have hd:Chg Fp.no w w.drew:=(Chg.refl _ _).drew
 have hs:=h.hs.chg hd (fun h=>h) (fun h=>h) (fun h=>h) (fun h=>h) (fun h=>h)
 obtain ⟨w1,r1,p1,g1⟩:=hs.res.del ho hf
 have c1:Chg (fun j=>j=x.mr) w.drew w1:=grown_chg g1 rfl
 have hm1:=hs.held.chg c1 (fun e=>hs.ne e.symm)
 obtain ⟨c,r2,hwc⟩:=hm1.look (x:=s+32 * k) (by omega)
 obtain ⟨w2,r3,p2,g2⟩:=hm1.put hN (x:=s+32 * k) (by omega) (wrap64_wf (c - 1))
 have c2:Chg (fun j=>j=x.mh) w1 w2:=grown_chg g2 rfl
 obtain ⟨cc,r4,hwc2⟩:=p2.look (x:=s+32 * k) (by omega)
 obtain ⟨w3,r5,p3,g3⟩:=p2.del (x:=s+32 * k) (by omega)
 have c3:Chg (fun j=>j=x.mh) w2 w3:=grown_chg g3 rfl
 have b1:=c1.blk hs.heap n5
 have b2:=c2.blk b1 n6
 have b3:=c3.blk b2 n6
 have l2:=(hs.plc.chg c1 n3 n1).chg c2 n4 n2
 have l3:=l2.chg c3 n4 n2
 have f2:Chg x.fp w w2:=(((Chg.refl x.fp w).drew).trans (S':=fun j=>j=x.mr) c1 (fun j hj => .inl (.inr (.inl hj)))).trans (S':=fun j=>j=x.mh) c2 (fun j hj => .inl (.inr (.inr hj)))
 have hres:∀ o' p',updF f o none o'=some p'→ResLoc s K cs o' p':=fun o' p' hop=>by
  unfold updF at hop
  split at hop
  ·cases hop
  ·exact h.res o' p' hop
 have q2:=(p1.mono (Nat.le_succ N)).chg c2 h.hs.ne
 refine ⟨w1,w2,w3,c,cc,r1,r2,r3,r4,r5,b1,b2,b3,l3,⟨h.own_ ⟨b2,l2,q2,p2,h.hs.ne⟩ f2 h.ok hres,f2⟩,fun w4 l4 c4=>?_⟩
 have f4:Chg x.fp w w4:=(f2.trans (S':=fun j=>j=x.mh) c3 (fun j hj => .inl (.inr (.inr hj)))).trans (S':=fun j=>j=x.pl) c4 (fun j hj => .inl (.inl hj))
 exact ⟨h.own_ ⟨c4.blk b3 n8,l4,(q2.chg c3 h.hs.ne).chg c4 (fun e=>n1 e.symm),p3.chg c4 (fun e=>n2 e.symm),h.hs.ne⟩ f4 h.ok hres,f4⟩
end
def RetRel (a:DA) (L T s n K:Nat) (x:HA) (cs:Nat→CS) (f:Nat→Option Nat) (N m b0:Nat) (S:Fp) (cur:Nat→Nat) (w:World) (v:Value) (e:Ending) (w':World):Prop:=e = .returned v∧DS a L T s n K x cs f N m b0 S cur w'∧Chg x.fp w w'
section
variable {a:DA} {L T s n K:Nat} {x:HA} {cs:Nat→CS} {f:Nat→Option Nat} {N m b0:Nat} {S:Fp} {cur:Nat→Nat} {w w':World}
theorem release_any (h:DS a L T s n K x cs f N m b0 S cur w) (p:Nat) (hf:f (pOff p)=some p) (hN:N < 1000000000) :
  Calls Tryz.prog 245 #[.pointer (some ⟨x.h,0,none⟩), .int .u64 (p:Int)] w (RetRel a L T s n K x cs (updF f (pOff p) none) (N+1) (m - 1) b0 S cur w (.tuple #[])):=by
 obtain ⟨k,i,hk,hd,hi,hoo,_⟩:=h.res _ _ hf
 have hho:homeOf s K (pOff p)=some k:=by rw [hoo];exact homeOf_blk hk hi
 have ho64:pOff p < 18446744073709551616:=by unfold pOff;omega
 obtain ⟨w1,w2,w3,c,c2,r1,r2,r3,r4,r5,b1,b2,b3,l3,hA,hB⟩:=h.rel hf ho64 hk (by unfold maxLen;omega)
 have hfew:=h.few
 have HOf:=hid (off_any p)
 have hn4:n≤4096:=by have:=h.hK;have:=h.hL;omega
 have HHm:=hid (home_any b1 hfew.2 hn4 h.hK.1 (pOff p) ho64)
 have HHo:=hid (holdP_any l3 hfew.1 (by omega) hk hd false)
 have HDA:=hid hA
 have HDB:=hid hB
 have HHO:=hid hho
 have y0:w.cell? ⟨x.h,4,none⟩=some (.map (some x.mr)):=h.hs.heap.cell 4
 have y1:w1.cell? ⟨x.h,5,none⟩=some (.map (some x.mh)):=b1.cell 5
 have y2:w2.cell? ⟨x.h,5,none⟩=some (.map (some x.mh)):=b2.cell 5
 have y3:w3.cell? ⟨x.h,3,none⟩=some (.pointer (some ⟨x.gs,0,none⟩)):=b3.cell 3
 clear h hoo hf hA hB hho b1 b2 b3 l3 hd hi
 unfold HA.p RetHold at HHo
 dsimp only at HHo
 unfold RetRel
 generalize pOff p=o at *
 obtain ⟨v,hv⟩:∃ v:Int,((s+32 * k:Nat):Int)=v:=⟨_,rfl⟩
 rw [hv] at r2 r3 r4 r5 HHo
 have HVV:=hid hv
 clear hv
 go_enter Tryz.func245,Tryz.ntmps245
 go_wp2_with fail
 go_region_with (go_at_call 135;refine (HOf.out _).mono ?_;rintro e wz ⟨rfl,rfl⟩)
 all_goals
  go_wp2_with (first
   | (go_at_call 135;refine (HOf.out _).mono ?_;rintro e wz ⟨rfl,rfl⟩)
   | (go_at_call 194;refine HHm.out.mono ?_;rintro e wz ⟨l1,bb,rfl,hP,rfl⟩;refine stop ?_))
  unfold Stop
  have hlb:((l1:Nat):Int)=v∧bb=true:=by
   rcases hP with ⟨h1,_,_⟩ | ⟨k',h1,_,h3,h4⟩
   ·rw [HHO.out] at h1;cases h1
   ·rw [HHO.out] at h1
    injection h1 with h1
    subst h1
    exact ⟨by rw [h3];exact HVV.out,h4⟩
  obtain ⟨hl1,rfl⟩:=hlb
  rw [hl1]
  clear hP hl1 HHm HHO
  by_cases hc2:c2≤0
  ·have e1:decide (c2≤0)=true:=decide_eq_true hc2
   clear hc2
   go_wp2_with (go_at_call 320;refine HHo.out.mono ?_;rintro e w4 ⟨rfl,l4,c4⟩;have HE:=hid (HDB.out w4 l4 c4);clear l4 c4)
   go_end0
   exact ⟨rfl,HE.out.1,HE.out.2⟩
  ·have e1:decide (c2≤0)=false:=decide_eq_false hc2
   go_wp2
   go_end0
   exact ⟨rfl,HDA.out.1,HDA.out.2⟩
end
end
section
open Go.RowKit Go.Maps
def chR:Value→Option (DataW Unit × List MemPlace)
 | .pointer (some ⟨g,0,none⟩)=>some (.lit (.int .i64 (g:Int)),[])
 | .pointer none=>some (.lit (.bool false),[])
 | _=>none
def chD:Option Nat→DataW Unit
 | some g => .lit (.int .i64 (g:Int))
 | none => .lit (.bool false)
def chV':Option Nat→Value
 | some g => .pointer (some ⟨g,0,none⟩)
 | none => .pointer none
theorem chR_mk (o:Option Nat):chR (chV' o)=some (chD o,[]):=by cases o <;> rfl
theorem chR_inv {v:Value} {o:Option Nat} {ps:List MemPlace} (h:chR v=some (chD o,ps)):v=chV' o:=by
 unfold chR at h
 split at h
 ·rename_i g
  cases o with
  | none=>simp [chD] at h
  | some g' =>
         simp [chD] at h;obtain ⟨h1,_⟩:=h;have:g=g':=by omega
         subst this;rfl
 ·cases o with
  | none=>rfl
  | some g'=>simp [chD] at h
 ·cases h
def lineK (s k:Nat):Lit := .int .i64 ((s+32 * k:Nat):Int)
theorem lineK_key (s k:Nat):WideAt.IsKeyLit (lineK s k):=by simp [WideAt.IsKeyLit,lineK]
theorem lineK_ne {s k k':Nat} (h:k'≠k):lineK s k'≠lineK s k:=by
 intro e
 unfold lineK at e
 injection e with _ e
 omega
structure ChMD (D:DataW Unit) (s K:Nat) (cb:Nat→Option Nat):Prop where
 at_:∀ k,k < K→D.atKey (lineK s k) (.lit (.bool false))=chD (cb k)
 has:∀ x:Int,Maps.has D (.int .i64 x)=true↔∃ k,k < K∧x=((s+32 * k:Nat):Int)∧(cb k).isSome=true
def ChM (w:World) (mb N s K:Nat) (cb:Nat→Option Nat):Prop:=∃ D:DataW Unit,w.ownsMap Tryz.prog 3 chR mb N D∧ChMD D s K cb
def updO (cb:Nat→Option Nat) (k:Nat) (v:Option Nat):Nat→Option Nat:=fun j=>if j=k then v else cb j
section
variable {w w':World} {mb N s K:Nat} {cb:Nat→Option Nat} {k:Nat}
theorem ChM.look (h:ChM w mb N s K cb) (hk:k < K) (hs:s+32 * k < 9000000000):(Instr.lookup 335 (.map (some mb)) (.int .i64 ((s+32 * k:Nat):Int)) false).run Tryz.prog w = .ok (chV' (cb k)) w:=by
 obtain ⟨D,ho,hd⟩:=h
 obtain ⟨v,ps,hrun,hv⟩:=ho.lookup keyedN Tryz.underlying335 (z := .pointer none) (by kernel_rfl) (show chR (.pointer none)=some (.lit (.bool false),[]) from rfl) (keyI hs)
 have he:=hd.at_ k hk
 unfold lineK at he
 rw [he] at hv
 rw [hrun,chR_inv hv]
theorem ChM.put (h:ChM w mb N s K cb) (hN:N < maxLen) (hk:k < K) (hs:s+32 * k < 9000000000) (g:Nat) :
  ∃ w',(Instr.mapUpdate 335 (.map (some mb)) (.int .i64 ((s+32 * k:Nat):Int)) (.pointer (some ⟨g,0,none⟩))).run Tryz.prog w = .ok () w'∧ChM w' mb (N+1) s K (updO cb k (some g))∧w.grownBy w' (some mb):=by
 obtain ⟨D,ho,hd⟩:=h
 obtain ⟨w',hrun,ho',hg⟩:=ho.update keyedN Tryz.underlying335 hN (keyI hs) (chR_mk (some g))
 refine ⟨w',hrun,⟨_,ho',fun j hj=>?_,fun y=>?_⟩,hg⟩
 ·unfold updO
  by_cases e:j=k
  ·subst e
   rw [if_pos rfl]
   exact atKey_put_same ho.isMap (lineK_key s j) _ _
  ·rw [if_neg e]
   exact (atKey_put_other (lineK_ne e) _ _).trans (hd.at_ j hj)
 ·by_cases e:y=((s+32 * k:Nat):Int)
  ·subst e
   have h1:=has_put_same ho.isMap (lineK_key s k) (chD (some g))
   unfold lineK at h1
   rw [h1]
   exact ⟨fun _=>⟨k,hk,rfl,by simp [updO]⟩,fun _=>rfl⟩
  ·have h1:Maps.has (D.put (lineK s k) (chD (some g))) (.int .i64 y)=Maps.has D (.int .i64 y):=has_put_other (fun e'=>by unfold lineK at e';injection e' with _ e';exact e e') _
   unfold lineK at h1
   rw [h1,hd.has y]
   constructor
   ·rintro ⟨j,hj,hy,hs⟩
    exact ⟨j,hj,hy,by unfold updO;rw [if_neg (fun e'=>e (by rw [hy,e']))];exact hs⟩
   ·rintro ⟨j,hj,hy,hs⟩
    refine ⟨j,hj,hy,?_⟩
    unfold updO at hs
    rw [if_neg (fun e'=>e (by rw [hy,e']))] at hs
    exact hs
theorem ChM.new (w:World) (s K:Nat):ChM (w.alloc (.map #[] 0)) w.heap.size 0 s K (fun _=>none):=⟨_,World.ownsMap_made w _ _ _,fun k _=>by simp [DataW.atKey,chD],fun x=>by simp [Maps.has]⟩
theorem ChM.chg {Z:Fp} (h:ChM w mb N s K cb) (hc:Chg Z w w') (hb:¬ Z mb):ChM w' mb N s K cb:=by
 obtain ⟨D,ho,hd⟩:=h
 exact ⟨D,hc.map ho hb,hd⟩
theorem ChM.lt (h:ChM w mb N s K cb):mb < w.heap.size:=by
 obtain ⟨D,ho,hd⟩:=h
 exact ho.lt
theorem ChM.mono {N':Nat} (h:ChM w mb N s K cb) (hN:N≤N'):ChM w mb N' s K cb:=by
 obtain ⟨D,ho,hd⟩:=h
 exact ⟨D,ho.mono hN,hd⟩
end
def RetAt (w:World) (mb N s K:Nat) (cb:Nat→Option Nat) (k:Nat) (e:Ending) (w':World):Prop :=
 (∃ g,cb k=some g∧e = .returned (.pointer (some ⟨g,0,none⟩))∧w=w') ∨
 (cb k=none∧e = .returned (.pointer (some ⟨w.heap.size,0,none⟩))∧ChM w' mb (N+1) s K (updO cb k (some w.heap.size))∧Blk w' w.heap.size 338 #[.slice none 0 0, .slice none 0 0, .slice none 0 0]∧Chg (fun j=>j=mb) w w')
theorem chAt_any {w:World} {mb N s K:Nat} {cb:Nat→Option Nat} (h:ChM w mb N s K cb) (k:Nat) (hk:k < K) (hs:s+32 * k < 9000000000) (hN:N < 1000000000) (vb:Nat) (hv:w.cell? ⟨vb,0,none⟩=some (.map (some mb))) :
  Calls Tryz.prog 236 #[.int .i64 ((s+32 * k:Nat):Int), .pointer (some ⟨vb,0,none⟩)] w (RetAt w mb N s K cb k):=by
 have hlk:=h.look hk hs
 have hvl:=World.block_lt_of_cell? _ _ hv
 have hml:=h.lt
 cases hc:cb k with
 | some g =>
  rw [hc] at hlk
  have hlk2:(Instr.lookup 335 (.map (some mb)) (.int .i64 ((s+32 * k:Nat):Int)) false).run Tryz.prog w = .ok (.pointer (some ⟨g,0,none⟩)) w:=hlk
  have HC:=hid hc
  clear hlk hc h
  generalize ((s+32 * k:Nat):Int)=v at *
  go_enter Tryz.func236,Tryz.ntmps236
  go_wp2
  go_ret
  exact .inl ⟨g,HC.out,rfl,rfl⟩
 | none =>
  rw [hc] at hlk
  have hlk2:(Instr.lookup 335 (.map (some mb)) (.int .i64 ((s+32 * k:Nat):Int)) false).run Tryz.prog w = .ok (.pointer none) w:=hlk
  have h1:=h.chg ((Chg.refl Fp.no w).alloc (.cells #[.slice none 0 0, .slice none 0 0, .slice none 0 0] 338)) (fun h=>h)
  obtain ⟨w2,r2,h2,g2⟩:=h1.put (by unfold maxLen;omega) hk hs w.heap.size
  have HE:=hid (show ChM w2 mb (N+1) s K (updO cb k (some w.heap.size))∧Blk w2 w.heap.size 338 #[.slice none 0 0, .slice none 0 0, .slice none 0 0]∧Chg (fun j=>j=mb) w w2 from ⟨h2,(Blk.new w _ _).grown g2 (fun e=>by injection e with e;omega),((Chg.refl (fun j=>j=mb) w).alloc _).trans (grown_chg (Z:=fun j=>j=mb) g2 rfl) (Grew.refl _ _)⟩)
  have HC:=hid hc
  clear hlk hc h h1 h2 g2
  generalize ((s+32 * k:Nat):Int)=v at *
  go_enter Tryz.func236,Tryz.ntmps236
  go_wp2
  go_ret
  exact .inr ⟨HC.out,rfl,HE.out.1,HE.out.2.1,HE.out.2.2⟩
end
section
open Go.RowKit Go.Maps
def relF (f:Nat→Option Nat) (l:List Nat):Nat→Option Nat:=l.foldl (fun g p=>updF g (pOff p) none) f
theorem relF_snoc (f:Nat→Option Nat) (l:List Nat) (p:Nat):relF f (l++[p])=updF (relF f l) (pOff p) none:=by simp [relF]
theorem relF_out:∀ (l:List Nat) (f:Nat→Option Nat) (o:Nat),o ∉ l.map pOff→relF f l o=f o
 | [],_,_,_=>rfl
 | p :: l,f,o,h=>by
  show relF (updF f (pOff p) none) l o=f o
  rw [relF_out l _ o (fun hh=>h (by simp at hh ⊢;exact .inr hh))]
  unfold updF
  rw [if_neg (fun hh=>h (by simp [hh]))]
section
variable {a:DA} {L T s n K:Nat} {x:HA} {cs:Nat→CS} {f:Nat→Option Nat} {N m b0:Nat} {S:Fp} {cur:Nat→Nat} {w w':World}
theorem settle_any (h:DS a L T s n K x cs f N m b0 S cur w) (A1:Option Addr) (n1 c1:Nat) (keep:List Nat) (h1:Reads w w.heap.size 1 A1 n1 (uCells keep)) (hA:∀ ad,A1=some ad→¬ x.fp ad.block) (hf:∀ p∈keep,f (pOff p)=some p) (hn:(keep.map pOff).Nodup) (hN:N+n1≤1000000000) (hn1:n1≤1000000) (v2:Value) :
  Calls Tryz.prog 125 #[.pointer (some ⟨x.h,0,none⟩), .slice A1 n1 c1,v2] w (RetRel a L T s n K x cs (relF f keep) (N+n1) (m - n1) b0 S cur w (.tuple #[])):=by
 have HR:=hid h1
 have HAd:=hid hA
 have HF:=hid hf
 have HNd:=hid hn
 have HL1:=hid (show keep.length=n1 by have:=h1.1;simp [uCells] at this;omega)
 have HI0:Hid (DS a L T s n K x cs (relF f (keep.take 0)) (N+0) (m - 0) b0 S cur w∧Chg x.fp w w):=hid ⟨h,Chg.refl _ _⟩
 clear h h1 hA hf hn
 go_enter Tryz.func125,Tryz.ntmps125
 go_wp2
 go_loopw [12] (fun i wr=>∃ (k:Nat),k≤n1∧i = .int .i64 k∧Hid (DS a L T s n K x cs (relF f (keep.take k)) (N+k) (m - k) b0 S cur wr∧Chg x.fp w wr)) (fun i _=>n1 - (Go.RowKit.intOf i).toNat)
 case atStart=>exact ⟨0,Nat.zero_le _,rfl,HI0⟩
 case round =>
  clear HI0
  obtain ⟨k,hk,rfl,H⟩:=hrel
  by_cases hlt:k < n1
  ·obtain ⟨hl,b,off,hA,hbB,f0⟩:=p_facts (H.out.2.reads HR.out (Nat.le_refl _) HAd.out) hlt
   subst hA
   have hnk:pOff keep[k] ∉ (keep.take k).map pOff:=fun hh=>by
    obtain ⟨q,hq,he⟩:=List.mem_map.1 hh
    obtain ⟨j,hj,hje⟩:=List.getElem_of_mem hq
    have hj2:j < k:=by simp at hj;omega
    have he2:pOff keep[j]=pOff keep[k]:=by rw [← he,← hje];simp
    exact (List.pairwise_iff_getElem.1 HNd.out) j k (by simp;omega) (by simpa using hl) hj2 (by simpa using he2)
   have hfk:relF f (keep.take k) (pOff keep[k])=some keep[k]:=by rw [relF_out _ _ _ hnk];exact HF.out _ (List.getElem_mem hl)
   have HHo:=hid (holds_any H.out.1.hs keep[k])
   rw [decide_eq_true hfk] at HHo
   have HRl:Hid (∀ W,Below wr.heap.size wr W→Calls Tryz.prog 245 #[.pointer (some ⟨x.h,0,none⟩), .int .u64 (keep[k]:Int)] W (RetRel a L T s n K x cs (relF f (keep.take (k+1))) (N+(k+1)) (m - (k+1)) b0 S cur W (.tuple #[]))):=hid (fun W hW=>by
    have h2:=release_any (H.out.1.below hW) keep[k] hfk (by omega)
    rw [← relF_snoc,← List.take_succ_eq_append_getElem hl,show m - k - 1=m - (k+1) by omega] at h2
    exact h2)
   clear hfk hnk
   have HC:=hid H.out.2
   generalize keep[k]=p at *
   have hz5:(0:Int)≤(k:Int):=by omega
   have hz6:(k:Int) < (n1:Int):=by omega
   go_wp2_with (go_at_call 235;refine HHo.out.mono ?_;rintro e w2 ⟨rfl,hb2⟩;refine stop ?_)
   unfold Stop
   have HR2:=hid (HRl.out w2 hb2)
   have HB2:=hid hb2
   clear hb2 HRl HHo H
   unfold RetRel at HR2
   go_wp2_with (go_at_call 245;refine HR2.out.mono ?_;rintro e w3 ⟨rfl,hd3,hc3⟩;have HN3:Hid (DS a L T s n K x cs (relF f (keep.take (k+1))) (N+(k+1)) (m - (k+1)) b0 S cur w3∧Chg x.fp w w3):=hid ⟨hd3,(HC.out.below HB2.out).trans hc3 (Grew.refl _ _)⟩;clear hd3 hc3)
   go_roundw
   case rel =>
    first
     | exact ⟨k+1,by omega,by go_num,HN3⟩
     | (
       repeat apply Exists.intro
       refine ⟨?_,rfl⟩
       exact ⟨k+1,by omega,by go_num,HN3⟩)
   case measure=>simp [Go.RowKit.intOf];omega
  ·have hkn:n1=k:=by omega
   subst hkn
   have HE:Hid (DS a L T s n K x cs (relF f keep) (N+n1) (m - n1) b0 S cur wr∧Chg x.fp w wr):=hid (by
    have h:=H.out
    rw [List.take_of_length_le (by rw [HL1.out];exact Nat.le_refl _)] at h
    exact h)
   go_wp2
   go_end0
   exact ⟨rfl,HE.out.1,HE.out.2⟩
end
end
section
open Go.RowKit Go.Maps
def updX {α:Type} (f:Nat→α) (k:Nat) (v:α):Nat→α:=fun j=>if j=k then v else f j
theorem updX_same {α:Type} (f:Nat→α) (k:Nat) (v:α):updX f k v k=v:=by simp [updX]
theorem updX_other {α:Type} {f:Nat→α} {k j:Nat} {v:α} (h:j≠k):updX f k v j=f j:=by simp [updX,h]
structure CI where
 cb:Nat→Option Nat
 tA:Nat→Option Addr
 tc:Nat→Nat
 kA:Nat→Option Addr
 kc:Nat→Nat
 dA:Nat→Option Addr
 dc:Nat→Nat
 tl:Nat→List (Nat × Nat)
 dl:Nat→List Nat
def CI.tv (c:CI) (k:Nat):Value := .slice (c.tA k) (c.tl k).length (c.tc k)
def CI.kv (c:CI) (k:Nat):Value := .slice (c.kA k) (c.tl k).length (c.kc k)
def CI.dv (c:CI) (k:Nat):Value := .slice (c.dA k) (c.dl k).length (c.dc k)
structure ChI (w:World) (base mb N s K:Nat) (c:CI):Prop where
 map:ChM w mb N s K c.cb
 mbb:mb < base
 blk:∀ k g,k < K→c.cb k=some g→Blk w g 338 #[c.tv k,c.kv k,c.dv k]∧base≤g
 o1:∀ k,k < K→w.ownsRow base 3 1 (c.tv k) (c.tl k).length (jCells ((c.tl k).map (·.1)))
 o2:∀ k,k < K→w.ownsRow base 5 1 (c.kv k) (c.tl k).length (u8s ((c.tl k).map (·.2)))
 o3:∀ k,k < K→w.ownsRow base 3 1 (c.dv k) (c.dl k).length (jCells (c.dl k))
 a1:∀ k k' g,k < K→k' < K→(c.tv k).ownBlock=some g→(c.tv k').ownBlock=some g→k=k'
 a2:∀ k k' g,k < K→k' < K→(c.kv k).ownBlock=some g→(c.kv k').ownBlock=some g→k=k'
 a3:∀ k k' g,k < K→k' < K→(c.dv k).ownBlock=some g→(c.dv k').ownBlock=some g→k=k'
 a13:∀ k k' g,k < K→k' < K→(c.tv k).ownBlock=some g→(c.dv k').ownBlock≠some g
 ac:∀ k k' g,k < K→k' < K→c.cb k=some g→c.cb k'=some g→k=k'
 none_:∀ k,k < K→c.cb k=none→c.tl k=[]∧c.dl k=[]∧c.tv k = .slice none 0 0∧c.kv k = .slice none 0 0∧c.dv k = .slice none 0 0
section
variable {w w':World} {base mb N s K:Nat} {c:CI} {k g:Nat}
theorem ChI.chg {Z:Fp} (h:ChI w base mb N s K c) (hc:Chg Z w w') (hZ:∀ g,base≤g→¬ Z g) (hm:¬ Z mb):ChI w' base mb N s K c :=
 {h with
  map:=h.map.chg hc hm
  blk:=fun k g hk hg=>⟨hc.blk (h.blk k g hk hg).1 (hZ _ (h.blk k g hk hg).2),(h.blk k g hk hg).2⟩
  o1:=fun k hk=>hc.own (h.o1 k hk) (fun g hg=>hZ _ ((h.o1 k hk).lt g hg).1)
  o2:=fun k hk=>hc.own (h.o2 k hk) (fun g hg=>hZ _ ((h.o2 k hk).lt g hg).1)
  o3:=fun k hk=>hc.own (h.o3 k hk) (fun g hg=>hZ _ ((h.o3 k hk).lt g hg).1) }
theorem ChI.below (h:ChI w base mb N s K c) (hb:Below w.heap.size w w'):ChI w' base mb N s K c:=h.chg (Chg.of_below (S:=Fp.no) hb) (fun _ _ h=>h) (fun h=>h)
theorem ChI.made (h:ChI w base mb N s K c) (hk:k < K) (hn:c.cb k=none) (hb:base≤w.heap.size) (hm:ChM w' mb (N+1) s K (updO c.cb k (some w.heap.size))) (hB:Blk w' w.heap.size 338 #[.slice none 0 0, .slice none 0 0, .slice none 0 0]) (hc:Chg (fun j=>j=mb) w w') :
  ChI w' base mb (N+1) s K { c with cb:=updO c.cb k (some w.heap.size) }:=by
 have hmm:∀ {t:TypeId} {e:TypeId} {size n:Nat} {v:Value} {xs:List Value} {g:Nat},w.ownsRow base e size v n xs→v.ownBlock=some g→¬ g=mb:=fun {_ _ _ _ _ _ g} ho hg e=>by
  obtain ⟨D,hD,_⟩:=h.map
  exact map_ne_own hD ho (by rw [hg,e])
 obtain ⟨n1,n2,n3,n4,n5⟩:=h.none_ k hk hn
 refine ⟨hm,h.mbb,fun j g' hj hg'=>?_,fun j hj=>hc.own (h.o1 j hj) (fun g hg=>hmm (t:=3) (h.o1 j hj) hg),fun j hj=>hc.own (h.o2 j hj) (fun g hg=>hmm (t:=3) (h.o2 j hj) hg),fun j hj=>hc.own (h.o3 j hj) (fun g hg=>hmm (t:=3) (h.o3 j hj) hg),h.a1,h.a2,h.a3,h.a13,fun i j g' hi hj h1 h2=>?_,fun j hj hj0=>?_⟩
 ·dsimp only at hg'
  unfold updO at hg'
  by_cases e:j=k
  ·rw [if_pos e] at hg'
   injection hg' with hg'
   subst hg'
   subst e
   refine ⟨?_,hb⟩
   show Blk w' w.heap.size _ #[c.tv j,c.kv j,c.dv j]
   rw [n3,n4,n5]
   exact hB
  ·rw [if_neg e] at hg'
   obtain ⟨b1,b2⟩:=h.blk j g' hj hg'
   refine ⟨hc.blk b1 (fun e'=>?_),b2⟩
   obtain ⟨D,hD,_⟩:=h.map
   exact blk_ne_map hD b1 e'
 ·dsimp only at h1 h2
  unfold updO at h1 h2
  by_cases e1:i=k
  ·by_cases e2:j=k
   ·rw [e1,e2]
   ·rw [if_pos e1] at h1
    rw [if_neg e2] at h2
    injection h1 with h1
    have:=(h.blk j g' hj h2).1.lt
    omega
  ·by_cases e2:j=k
   ·rw [if_neg e1] at h1
    rw [if_pos e2] at h2
    injection h2 with h2
    have:=(h.blk i g' hi h1).1.lt
    omega
   ·rw [if_neg e1] at h1
    rw [if_neg e2] at h2
    exact h.ac i j g' hi hj h1 h2
 ·dsimp only at hj0
  unfold updO at hj0
  by_cases e:j=k
  ·rw [if_pos e] at hj0;cases hj0
  ·rw [if_neg e] at hj0
   exact h.none_ j hj hj0
def CI.take (c:CI) (k:Nat) (A2:Option Addr) (c2:Nat) (A4:Option Addr) (c4:Nat) (i kd:Nat):CI :=
 { c with tA:=updX c.tA k A2,tc:=updX c.tc k c2,kA:=updX c.kA k A4,kc:=updX c.kc k c4,tl:=updX c.tl k (c.tl k++[(i,kd)]) }
theorem ChI.take {w1 w2 w3 w4:World} {A2 A4:Option Addr} {n2 c2 n4 c4 i kd:Nat} (h:ChI w base mb N s K c) (hk:k < K) (hg:c.cb k=some g)
  (e1:Chg Fp.no w w1) (g2:w1.grownBy w2 (c.tv k).ownBlock) (r2:w2.ownsRow base 3 1 (.slice A2 n2 c2) n2 (jCells ((c.tl k).map (·.1))++[.int .i64 (i:Int)])) (hn2:n2=(c.tl k).length+1) (b2:(Value.slice A2 n2 c2).ownBlock=(c.tv k).ownBlock∨(Value.slice A2 n2 c2).ownBlock=some w1.heap.size)
  (e3:Chg Fp.no w2 w3) (g4:w3.grownBy w4 (c.kv k).ownBlock) (r4:w4.ownsRow base 5 1 (.slice A4 n4 c4) n4 (u8s ((c.tl k).map (·.2))++[.int .u8 (kd:Int)])) (hn4:n4=(c.tl k).length+1) (b4:(Value.slice A4 n4 c4).ownBlock=(c.kv k).ownBlock∨(Value.slice A4 n4 c4).ownBlock=some w3.heap.size) :
  ChI ((w4.setCell ⟨g,0,none⟩ (.slice A2 n2 c2)).setCell ⟨g,1,none⟩ (.slice A4 n4 c4)) base mb N s K (c.take k A2 c2 A4 c4 i kd)∧Chg (fun j=>base≤j) w ((w4.setCell ⟨g,0,none⟩ (.slice A2 n2 c2)).setCell ⟨g,1,none⟩ (.slice A4 n4 c4)):=by
 obtain ⟨hgB,hgb⟩:=h.blk k g hk hg
 have z2:(w2.heap.size) ≥ w1.heap.size:=g2.size
 have z1:=e1.size
 have z3:=e3.size
 have hZ:Chg (fun j=>j=g∨(c.tv k).ownBlock=some j∨(c.kv k).ownBlock=some j) w ((w4.setCell ⟨g,0,none⟩ (.slice A2 n2 c2)).setCell ⟨g,1,none⟩ (.slice A4 n4 c4)):=by
  have q1:Chg (fun j=>j=g∨(c.tv k).ownBlock=some j∨(c.kv k).ownBlock=some j) w w1:=e1.mono (fun _ h=>h.elim)
  have q2:=q1.grown g2 (fun g' hg' => .inl (.inr (.inl hg')))
  have q3:=q2.trans e3 (fun _ h=>h.elim)
  have q4:=q3.grown g4 (fun g' hg' => .inl (.inr (.inr hg')))
  exact (q4.setCell (.inl (.inl rfl)) _).setCell (.inl (.inl rfl)) _
 obtain ⟨D,hD,_⟩:=id h.map
 have nt:∀ j,j < K→j≠k→∀ g',(c.tv j).ownBlock=some g'→¬ (g'=g∨(c.tv k).ownBlock=some g'∨(c.kv k).ownBlock=some g'):=fun j hj hjk g' hg' hz=>by
  rcases hz with e | e | e
  ·subst e;exact own_blk_ne (h.o1 j hj) hgB (by decide) hg'
  ·exact hjk (h.a1 j k g' hj hk hg' e)
  ·rcases own_own_ne (h.o1 j hj) (h.o2 k hk) (by decide) with e2 | e2
   ·rw [e2] at hg';cases hg'
   ·exact e2 (by rw [hg',e])
 have nk:∀ j,j < K→j≠k→∀ g',(c.kv j).ownBlock=some g'→¬ (g'=g∨(c.tv k).ownBlock=some g'∨(c.kv k).ownBlock=some g'):=fun j hj hjk g' hg' hz=>by
  rcases hz with e | e | e
  ·subst e;exact own_blk_ne (h.o2 j hj) hgB (by decide) hg'
  ·rcases own_own_ne (h.o2 j hj) (h.o1 k hk) (by decide) with e2 | e2
   ·rw [e2] at hg';cases hg'
   ·exact e2 (by rw [hg',e])
  ·exact hjk (h.a2 j k g' hj hk hg' e)
 have nd:∀ j,j < K→∀ g',(c.dv j).ownBlock=some g'→¬ (g'=g∨(c.tv k).ownBlock=some g'∨(c.kv k).ownBlock=some g'):=fun j hj g' hg' hz=>by
  rcases hz with e | e | e
  ·subst e;exact own_blk_ne (h.o3 j hj) hgB (by decide) hg'
  ·exact h.a13 k j g' hk hj e hg'
  ·rcases own_own_ne (h.o3 j hj) (h.o2 k hk) (by decide) with e2 | e2
   ·rw [e2] at hg';cases hg'
   ·exact e2 (by rw [hg',e])
 have fresh1:∀ g',g' < w.heap.size→(Value.slice A2 n2 c2).ownBlock=some g'→(c.tv k).ownBlock=some g':=fun g' hlt hg'=>by
  rcases b2 with e | e
  ·rw [← e];exact hg'
  ·rw [e] at hg';injection hg' with hg';omega
 have fresh2:∀ g',g' < w.heap.size→(Value.slice A4 n4 c4).ownBlock=some g'→(c.kv k).ownBlock=some g':=fun g' hlt hg'=>by
  rcases b4 with e | e
  ·rw [← e];exact hg'
  ·rw [e] at hg';injection hg' with hg';omega
 have hgl:=hgB.lt
 have k1:=e1.blk hgB (fun h=>h)
 have k2:=k1.grown g2 (fun e=>own_blk_ne (h.o1 k hk) hgB (by decide) e.symm)
 have k3:=e3.blk k2 (fun h=>h)
 have k4:=k3.grown g4 (fun e=>own_blk_ne (h.o2 k hk) hgB (by decide) e.symm)
 have k5:=(k4.set_ 0 (.slice A2 n2 c2)).set_ 1 (.slice A4 n4 c4)
 have hne2:∀ u,(Value.slice A2 n2 c2).ownBlock=some u→u≠g:=fun u hu e=>by
  rw [e] at hu
  exact own_blk_ne r2 k2 (by decide) hu
 have hne4:∀ u,(Value.slice A4 n4 c4).ownBlock=some u→u≠g:=fun u hu e=>by
  rw [e] at hu
  exact own_blk_ne r4 k4 (by decide) hu
 have r3:=e3.own r2 (fun _ _ h=>h)
 have o2':=e3.own ((e1.own (h.o2 k hk) (fun _ _ h=>h)).kept g2 (own_own_ne (h.o2 k hk) (h.o1 k hk) (by decide))) (fun _ _ h=>h)
 have r2':=r3.kept g4 (own_own_ne r3 o2' (by decide))
 have s2:=ownsRow_setCell_other (ownsRow_setCell_other r2' (a:=⟨g,0,none⟩) (fun e=>hne2 g e rfl) (.slice A2 n2 c2)) (a:=⟨g,1,none⟩) (fun e=>hne2 g e rfl) (.slice A4 n4 c4)
 have s4:=ownsRow_setCell_other (ownsRow_setCell_other r4 (a:=⟨g,0,none⟩) (fun e=>hne4 g e rfl) (.slice A2 n2 c2)) (a:=⟨g,1,none⟩) (fun e=>hne4 g e rfl) (.slice A4 n4 c4)
 have tvk:(c.take k A2 c2 A4 c4 i kd).tv k = .slice A2 n2 c2:=by
  show Value.slice (updX c.tA k A2 k) (updX c.tl k (c.tl k++[(i,kd)]) k).length (updX c.tc k c2 k)=_
  rw [updX_same,updX_same,updX_same,List.length_append,hn2];rfl
 have kvk:(c.take k A2 c2 A4 c4 i kd).kv k = .slice A4 n4 c4:=by
  show Value.slice (updX c.kA k A4 k) (updX c.tl k (c.tl k++[(i,kd)]) k).length (updX c.kc k c4 k)=_
  rw [updX_same,updX_same,updX_same,List.length_append,hn4];rfl
 have tvj:∀ j,j≠k→(c.take k A2 c2 A4 c4 i kd).tv j=c.tv j:=fun j hj=>by
  show Value.slice (updX c.tA k A2 j) (updX c.tl k (c.tl k++[(i,kd)]) j).length (updX c.tc k c2 j)=_
  rw [updX_other hj,updX_other hj,updX_other hj];rfl
 have kvj:∀ j,j≠k→(c.take k A2 c2 A4 c4 i kd).kv j=c.kv j:=fun j hj=>by
  show Value.slice (updX c.kA k A4 j) (updX c.tl k (c.tl k++[(i,kd)]) j).length (updX c.kc k c4 j)=_
  rw [updX_other hj,updX_other hj,updX_other hj];rfl
 have tlj:∀ j,j≠k→(c.take k A2 c2 A4 c4 i kd).tl j=c.tl j:=fun j hj=>updX_other hj
 have tlk:(c.take k A2 c2 A4 c4 i kd).tl k=c.tl k++[(i,kd)]:=updX_same _ _ _
 have dvj:∀ j,(c.take k A2 c2 A4 c4 i kd).dv j=c.dv j:=fun j=>rfl
 have hmb:¬ (mb=g∨(c.tv k).ownBlock=some mb∨(c.kv k).ownBlock=some mb):=fun hz=>by
  rcases hz with e | e | e
  ·exact blk_ne_map hD hgB e.symm
  ·exact map_ne_own hD (h.o1 k hk) e.symm
  ·exact map_ne_own hD (h.o2 k hk) e.symm
 refine ⟨⟨h.map.chg hZ hmb,h.mbb,fun j g' hj hg'=>?_,fun j hj=>?_,fun j hj=>?_,fun j hj=>?_,fun i' j g' hi hj h1 h2=>?_,fun i' j g' hi hj h1 h2=>?_,h.a3,fun i' j g' hi hj h1=>?_,h.ac,fun j hj hj0=>?_⟩,hZ.mono (fun j hj=>?_)⟩
 ·by_cases e:j=k
  ·subst e
   have hgg:g'=g:=by
    have h9:c.cb j=some g':=hg'
    rw [hg] at h9
    injection h9 with h9
    exact h9.symm
   subst hgg
   refine ⟨?_,hgb⟩
   rw [tvk,kvk,dvj]
   simpa using k5
  ·obtain ⟨b1,b2'⟩:=h.blk j g' hj hg'
   refine ⟨?_,b2'⟩
   rw [tvj j e,kvj j e,dvj]
   refine hZ.blk b1 (fun hz=>?_)
   rcases hz with e' | e' | e'
   ·subst e';exact e (h.ac j k g' hj hk hg' hg)
   ·exact own_blk_ne (h.o1 k hk) b1 (by decide) e'
   ·exact own_blk_ne (h.o2 k hk) b1 (by decide) e'
 ·by_cases e:j=k
  ·subst e
   rw [tvk,tlk,List.map_append,show jCells ((c.tl j).map (·.1)++[(i,kd)].map (·.1))=jCells ((c.tl j).map (·.1))++[.int .i64 (i:Int)] by simp [jCells],List.length_append]
   rw [show (c.tl j).length+[(i,kd)].length=n2 by rw [hn2];rfl]
   exact s2
  ·rw [tvj j e,tlj j e]
   exact hZ.own (h.o1 j hj) (nt j hj e)
 ·by_cases e:j=k
  ·subst e
   rw [kvk,tlk,List.map_append,show u8s ((c.tl j).map (·.2)++[(i,kd)].map (·.2))=u8s ((c.tl j).map (·.2))++[.int .u8 (kd:Int)] by simp [u8s],List.length_append]
   rw [show (c.tl j).length+[(i,kd)].length=n4 by rw [hn4];rfl]
   exact s4
  ·rw [kvj j e,tlj j e]
   exact hZ.own (h.o2 j hj) (nk j hj e)
 ·exact hZ.own (h.o3 j hj) (nd j hj)
 ·by_cases e1':i'=k
  ·by_cases e2':j=k
   ·rw [e1',e2']
   ·rw [e1',tvk] at h1
    rw [tvj j e2'] at h2
    exact absurd (h.a1 j k g' hj hk h2 (fresh1 g' ((h.o1 j hj).lt g' h2).2 h1)) e2'
  ·by_cases e2':j=k
   ·rw [e2',tvk] at h2
    rw [tvj i' e1'] at h1
    exact absurd (h.a1 i' k g' hi hk h1 (fresh1 g' ((h.o1 i' hi).lt g' h1).2 h2)) e1'
   ·rw [tvj i' e1'] at h1
    rw [tvj j e2'] at h2
    exact h.a1 i' j g' hi hj h1 h2
 ·by_cases e1':i'=k
  ·by_cases e2':j=k
   ·rw [e1',e2']
   ·rw [e1',kvk] at h1
    rw [kvj j e2'] at h2
    exact absurd (h.a2 j k g' hj hk h2 (fresh2 g' ((h.o2 j hj).lt g' h2).2 h1)) e2'
  ·by_cases e2':j=k
   ·rw [e2',kvk] at h2
    rw [kvj i' e1'] at h1
    exact absurd (h.a2 i' k g' hi hk h1 (fresh2 g' ((h.o2 i' hi).lt g' h1).2 h2)) e1'
   ·rw [kvj i' e1'] at h1
    rw [kvj j e2'] at h2
    exact h.a2 i' j g' hi hj h1 h2
 ·intro h2
  rw [dvj] at h2
  by_cases e1':i'=k
  ·rw [e1',tvk] at h1
   exact h.a13 k j g' hk hj (fresh1 g' ((h.o3 j hj).lt g' h2).2 h1) h2
  ·rw [tvj i' e1'] at h1
   exact h.a13 i' j g' hi hj h1 h2
 ·have hjk:j≠k:=fun e=>by
   have h9:c.cb j=none:=hj0
   rw [e,hg] at h9
   cases h9
  rw [tlj j hjk,tvj j hjk,kvj j hjk,dvj]
  exact h.none_ j hj hj0
 ·rcases hj with e | e | e
  ·rw [e];exact hgb
  ·exact ((h.o1 k hk).lt j e).1
  ·exact ((h.o2 k hk).lt j e).1
end
end
section
open Go.RowKit Go.Maps Go.Shelf Go.Sort
def snCmp (a b:ByteArray):Int:=Lib.compareBytes a.data.toList b.data.toList
theorem snBcmp_any (a b:ByteArray) (w:World):Calls Tryz.prog 332 #[.string a, .string b] w fun e w'=>e = .returned (.int .i64 (snCmp a b))∧w=w':=by
 go_enter Tryz.func332,Tryz.ntmps332
 go_wp2_with fail
 rw [run_callFunc_extern Tryz.func372 (by kernel_rfl) (by kernel_rfl) (by kernel_rfl) (e:=Extern.BytealgCompare.compare) (by kernel_rfl),Lib.run_compareString]
 simp only [Result.andThen]
 rw [Oper.upon_value]
 go_wp2_with fail
 go_ret
 exact ⟨rfl,rfl⟩
theorem snScmp_any (a b:ByteArray) (w:World):Calls Tryz.prog 266 #[.string a, .string b] w fun e w'=>e = .returned (.int .i64 (snCmp a b))∧w=w':=by
 have H:=hid (fun W=>snBcmp_any a b W)
 generalize snCmp a b=r at *
 go_enter Tryz.func266,Tryz.ntmps266
 go_wp2_with (go_at_call 332;refine (H.out _).mono ?_;rintro e w' ⟨rfl,rfl⟩)
 go_ret
 exact ⟨rfl,rfl⟩
theorem snList1_any (a b:ByteArray) (u v:Nat) (w:World):Calls Tryz.prog 265 #[.agg #[.string a, .int .u64 (u:Int)], .agg #[.string b, .int .u64 (v:Int)]] w fun e w'=>e = .returned (.int .i64 (snCmp a b))∧∃ q os',w'=grow (w.drewN q) os':=by
 have H:=hid (fun W=>snScmp_any a b W)
 generalize snCmp a b=r at *
 go_enter Tryz.func265,Tryz.ntmps265
 go_wp2_with (go_at_call 266;refine (H.out _).mono ?_;rintro e w' ⟨rfl,rfl⟩)
 go_ret
 exact ⟨rfl,0,_,by rw [alloc_eq_grow,alloc_eq_grow,grow_grow];rfl⟩
end
end Go.Proofs.YtfkjjoglnmeciaaGreatDoor
