/- The walks and laws that the claim leans on, part 44. -/
import Derived.Test.YtnlokpakiambaaaGreatDoorJbp
set_option maxRecDepth 100000
set_option maxHeartbeats 16000000
namespace Go.Proofs.YtnlokpakiambaaaGreatDoor
open Go.Lib (hid)
section
open Go.RowKit Go.Maps
structure BlR (d gs ga gb:Nat) (s:List Nat × Nat) (A:Option Addr) (m c:Nat) (W:World):Prop where
 sp:Blk W gs 124 #[.iface 43 (.pointer (some ⟨d,0,none⟩))]
 all:Blk W ga 51 #[.slice A m c]
 bad:Blk W gb 37 #[.int .i64 (s.2:Int)]
 own:W.ownsRow (gb+1) 27 1 (.slice A m c) m (uCells s.1)
def BlRs (d gs ga gb:Nat) (s:List Nat × Nat) (W:World):Prop:=∃ A m c,BlR d gs ga gb s A m c W
def BlZ (ga gb:Nat) (W:World):Fp:=fun k=>k=ga∨k=gb∨∃ A m c,W.cell? ⟨ga,0,none⟩=some (.slice A m c)∧(Value.slice A m c).ownBlock=some k
theorem BlR.below {d gs ga gb:Nat} {s:List Nat × Nat} {A:Option Addr} {m c:Nat} {W W':World} (h:BlR d gs ga gb s A m c W) (hb:Below W.heap.size W W'):BlR d gs ga gb s A m c W' :=
 ⟨h.sp.below hb h.sp.lt,h.all.below hb h.all.lt,h.bad.below hb h.bad.lt,own_below h.own hb⟩
theorem BlR.z {d gs ga gb:Nat} {s:List Nat × Nat} {A:Option Addr} {m c:Nat} {W:World} (h:BlR d gs ga gb s A m c W) {k:Nat} (hz:BlZ ga gb W k):(k=ga∨k=gb∨(Value.slice A m c).ownBlock=some k):=by
 rcases hz with e | e | ⟨A2,m2,c2,h1,h2⟩
 ·exact .inl e
 ·exact .inr (.inl e)
 ·have h3:=h.all.cell 0
  rw [h1] at h3
  have h4:Value.slice A2 m2 c2 = .slice A m c:=by injection h3
  rw [h4] at h2
  exact .inr (.inr h2)
theorem BlR.zin {d gs ga gb:Nat} {s:List Nat × Nat} {A:Option Addr} {m c:Nat} {W:World} (h:BlR d gs ga gb s A m c W) {k:Nat} (hk:k=ga∨k=gb∨(Value.slice A m c).ownBlock=some k):BlZ ga gb W k:=by
 rcases hk with e | e | e
 ·exact .inl e
 ·exact .inr (.inl e)
 ·exact .inr (.inr ⟨A,m,c,h.all.cell 0,e⟩)
section
variable {a:DA} {L T s n K:Nat} {x:HA} {cs:Nat→CS} {f:Nat→Option Nat} {N m b0:Nat} {S:Fp} {cur:Nat→Nat} {w:World} {d r:Nat}
theorem vbl1_any {W:World} (h:SD a L T s n K x cs f N m b0 S cur W d r) (p sp:Nat) (dl:Bool) (dt ol gs ga gb:Nat) (q:List Nat × Nat) (hdt:dt < 18446744073709551616) (hR:BlRs d gs ga gb q W) (hlt:gs < ga∧ga < gb) (hfew:q.1.length≤100000) :
  Calls Tryz.prog 59 #[.int .u64 (p:Int), .agg #[.int .u64 (sp:Int), .bool dl, .int .u64 (dt:Int), .int .u64 (ol:Int)], .pointer (some ⟨gs,0,none⟩), .pointer (some ⟨ga,0,none⟩), .pointer (some ⟨gb,0,none⟩)] W fun e w'=>e = .returned (.bool (blS (walkR L cur (fun q=>chkR s K cs q 1)) q p (sp,dl,dt,ol)).2)∧BlRs d gs ga gb (blS (walkR L cur (fun q=>chkR s K cs q 1)) q p (sp,dl,dt,ol)).1 w'∧Chg (BlZ ga gb W) W w':=by
 obtain ⟨A,mm,c,hR⟩:=hR
 obtain ⟨ql,qb⟩:=q
 have hlm:ql.length=mm:=by have h1:=hR.own.1;simpa [uCells] using h1
 have hbx:=Blk.new W 36 #[.int .u64 (sp:Int), .bool dl, .int .u64 (dt:Int), .int .u64 (ol:Int)]
 have hB1:Below W.heap.size W (W.alloc (.cells #[.int .u64 (sp:Int), .bool dl, .int .u64 (dt:Int), .int .u64 (ol:Int)] 36)):=(Below.refl _ _).alloc (Nat.le_refl _) _
 have HBf:=hid (vbof_any (h.below hB1) p sp dl dt ol hdt)
 have HLn:Hid ((bofR (walkR L cur (fun q=>chkR s K cs q 1)) p dl dt).1.length≤7):=hid (bofR_len _ _ _ _ _ _)
 have HY:Hid (blS (walkR L cur (fun q=>chkR s K cs q 1)) (ql,qb) p (sp,dl,dt,ol)=((ql++(bofR (walkR L cur (fun q=>chkR s K cs q 1)) p dl dt).1,(bofR (walkR L cur (fun q=>chkR s K cs q 1)) p dl dt).2),decide ((bofR (walkR L cur (fun q=>chkR s K cs q 1)) p dl dt).2=0))):=hid rfl
 generalize blS (walkR L cur (fun q=>chkR s K cs q 1)) (ql,qb) p (sp,dl,dt,ol)=Y at *
 generalize bofR (walkR L cur (fun q=>chkR s K cs q 1)) p dl dt=X at *
 obtain ⟨xl,xe⟩:=X
 dsimp only at HLn HY hfew
 have v0:(W.alloc (.cells #[.int .u64 (sp:Int), .bool dl, .int .u64 (dt:Int), .int .u64 (ol:Int)] 36)).cell? ⟨W.heap.size,0,none⟩=some (.int .u64 (sp:Int)):=hbx.cell 0
 have v1:(W.alloc (.cells #[.int .u64 (sp:Int), .bool dl, .int .u64 (dt:Int), .int .u64 (ol:Int)] 36)).cell? ⟨W.heap.size,1,none⟩=some (.bool dl):=hbx.cell 1
 have v2:(W.alloc (.cells #[.int .u64 (sp:Int), .bool dl, .int .u64 (dt:Int), .int .u64 (ol:Int)] 36)).cell? ⟨W.heap.size,2,none⟩=some (.int .u64 (dt:Int)):=hbx.cell 2
 have v3:(W.alloc (.cells #[.int .u64 (sp:Int), .bool dl, .int .u64 (dt:Int), .int .u64 (ol:Int)] 36)).cell? ⟨W.heap.size,3,none⟩=some (.int .u64 (ol:Int)):=hbx.cell 3
 have s1:(W.alloc (.cells #[.int .u64 (sp:Int), .bool dl, .int .u64 (dt:Int), .int .u64 (ol:Int)] 36)).cell? ⟨gs,0,none⟩=some (.iface 43 (.pointer (some ⟨d,0,none⟩))):=(hR.below hB1).sp.cell 0
 have HB1:=hid hB1
 have HR:=hid hR
 have HLt:=hid hlt
 have HFw:=hid (show mm≤100000 by omega)
 have HLm:=hid hlm
 have hq:((xe:Int) == 0)=decide (xe=0):=by
  by_cases h:xe=0
  ·subst h;rfl
  ·rw [decide_eq_false h,beq_eq_false_iff_ne];omega
 generalize decide (xe=0)=qz at *
 obtain ⟨i0,hi0,hz0,hz1,hz2⟩:=info_parts infoPtr
 clear h hbx hB1 hR hlt hfew hlm hdt
 go_enter Tryz.func59,Tryz.ntmps59
 go_wp2_with (go_at_call 60;refine HBf.out.mono ?_;rintro e w2 ⟨A2,m2,c2,rfl,hm2,hr2,hc2,hb2⟩;have HM2:=hid hm2;have HR2:=hid hr2;have HB2:=hid (HB1.out.trans (hb2.mono HB1.out.size));clear hm2 hr2 hc2 hb2;refine stop ?_)
 unfold Stop
 have HRb:=hid (HR.out.below HB2.out)
 have f1:w2.cell? ⟨ga,0,none⟩=some (.slice A mm c):=HRb.out.all.cell 0
 clear v0 v1 v2 v3 s1
 go_wp2_with (at_builtin;refine wpList_app3 _ (.tmp 17) (.tmp 18) 51 rfl rfl (gb+1) 27 i0 _ 1 8 Tryz.underlying51 hi0 hz0 hz1 hz2 rfl Nat.one_pos (.slice A mm c) mm (uCells ql) rfl HRb.out.own _ A2 m2 c2 (uCells xl) rfl HR2.out (uCells_one _) ?q1 ?q2 ?q3 ?_;(case q1=>(have h1:=HLn.out;have h2:=HM2.out;have h3:=HFw.out;unfold maxLen;omega));(case q2=>(have h1:=HLn.out;have h2:=HM2.out;have h3:=HFw.out;omega));(case q3=>(have h1:=HRb.out.bad.lt;omega));intro A3 n3 c3 w3 hn3 ho3 hg3 hv3;have HN3:=hid hn3;have HO3:=hid ho3;have HG3:=hid hg3;have HV3:=hid hv3;clear hn3 ho3 hg3 hv3;refine stop ?_)
 unfold Stop
 have hlt3:=HRb.out.own.lt
 have hk0:=HRb.out.sp.grown HG3.out (fun e=>by have h1:=(hlt3 _ e.symm).1;have h2:=HLt.out;omega)
 have hk1:=HRb.out.all.grown HG3.out (fun e=>by have h1:=(hlt3 _ e.symm).1;have h2:=HLt.out;omega)
 have hk2:=HRb.out.bad.grown HG3.out (fun e=>by have h1:=(hlt3 _ e.symm).1;omega)
 have z1:w3.frozen? ⟨ga,0,none⟩=false:=hk1.frozen 0
 have z2:w3.frozen? ⟨gb,0,none⟩=false:=hk2.frozen 0
 have y1:w3.cell? ⟨ga,0,none⟩=some (.slice A mm c):=hk1.cell 0
 have y2:w3.cell? ⟨gb,0,none⟩=some (.int .i64 (qb:Int)):=hk2.cell 0
 have hne:ga≠gb:=by have h2:=HLt.out;omega
 have hne0:gs≠ga∧gs≠gb:=by have h2:=HLt.out;omega
 have HK0:=hid hk0
 have HK1:=hid hk1
 have HK2:=hid hk2
 have HNe:=hid (And.intro hne hne0)
 have HCh:Hid (Chg (BlZ ga gb W) W w3):=hid ((Chg.of_below HB2.out).grown HG3.out (fun g hg => .inl (HR.out.zin (.inr (.inr hg)))))
 clear hk0 hk1 hk2 hlt3 f1
 go_wp2
 go_ret
 rw [HY.out]
 have hne:=HNe.out.1
 have k1:=(HK1.out.set_ 0 (.slice A3 n3 c3))
 have hchA:Chg (fun k=>k=ga) w3 (w3.setCell ⟨ga,0,none⟩ (.slice A3 n3 c3)):=(Chg.refl (fun k=>k=ga) w3).setCell (p:=⟨ga,0,none⟩) (.inl rfl) _
 have hchB:Chg (fun k=>k=gb) (w3.setCell ⟨ga,0,none⟩ (.slice A3 n3 c3)) ((w3.setCell ⟨ga,0,none⟩ (.slice A3 n3 c3)).setCell ⟨gb,0,none⟩ (.int .i64 (xe:Int))):=(Chg.refl (fun k=>k=gb) _).setCell (p:=⟨gb,0,none⟩) (.inl rfl) _
 have hown3:=HO3.out.lt
 refine ⟨rfl,⟨A3,n3,c3,⟨hchB.blk (hchA.blk HK0.out HNe.out.2.1) HNe.out.2.2,hchB.blk k1 hne,?_,?_⟩⟩,?_⟩
 ·exact (hchA.blk HK2.out hne.symm).set_ 0 _
 ·have e1:uCells (ql++xl)=uCells ql++uCells xl:=by simp [uCells]
  show World.ownsRow _ _ _ _ _ n3 (uCells (ql++xl))
  rw [e1]
  exact hchB.own (hchA.own HO3.out (fun g hg e=>by have h1:=(hown3 g hg).1;have h2:=HLt.out;omega)) (fun g hg e=>by have h1:=(hown3 g hg).1;omega)
 ·exact (HCh.out.setCell (p:=⟨ga,0,none⟩) (.inl (.inl rfl)) _).setCell (p:=⟨gb,0,none⟩) (.inl (.inr (.inl rfl))) _
theorem bl_body (h:SD a L T s n K x cs f N m b0 S cur w d r) (gs ga gb:Nat) (hlt:gs < ga∧ga < gb):Body 59 #[.pointer (some ⟨gs,0,none⟩), .pointer (some ⟨ga,0,none⟩), .pointer (some ⟨gb,0,none⟩)] w (fun n q=>q.1.length≤7 * n) (fun _=>BlZ ga gb) (BlRs d gs ga gb) (blS (walkR L cur (fun q=>chkR s K cs q 1))):=by
 intro q n p sp dl dt ol W hn hI hR hW _ _ _ hdt _
 have e:(#[Value.int .u64 (p:Int), .agg #[.int .u64 (sp:Int), .bool dl, .int .u64 (dt:Int), .int .u64 (ol:Int)]]++#[Value.pointer (some ⟨gs,0,none⟩), .pointer (some ⟨ga,0,none⟩), .pointer (some ⟨gb,0,none⟩)])=#[.int .u64 (p:Int), .agg #[.int .u64 (sp:Int), .bool dl, .int .u64 (dt:Int), .int .u64 (ol:Int)], .pointer (some ⟨gs,0,none⟩), .pointer (some ⟨ga,0,none⟩), .pointer (some ⟨gb,0,none⟩)]:=by simp
 rw [e]
 exact vbl1_any (h.below hW) p sp dl dt ol gs ga gb q hdt hR hlt (by omega)
def RetVbl (w:World) (R:Nat × List Nat) (e:Ending) (w':World):Prop:=∃ A m c,e = .returned (.tuple #[.slice A m c, .int .i64 (R.1:Int)])∧m=R.2.length∧Reads w' w'.heap.size 1 A m (uCells R.2)∧m≤c∧Below w.heap.size w w'
theorem vblocks_any (h:SD a L T s n K x cs f N m b0 S cur w d r) (head:Nat) (hh:head < 18446744073709551616) :
  Calls Tryz.prog 18 #[.iface 43 (.pointer (some ⟨d,0,none⟩)), .int .u64 (head:Int)] w (RetVbl w (vblR (verR cur (fun q=>chkR s K cs q 7)) (walkR L cur (fun q=>chkR s K cs q 1)) head)):=by
 obtain ⟨W1,hW1⟩:∃ W1,((w.alloc (.cells #[.iface 43 (.pointer (some ⟨d,0,none⟩))] 124)).alloc (.cells #[.slice none 0 0] 51)).alloc (.cells #[.int .i64 0] 37)=W1:=⟨_,rfl⟩
 have HW1:=hid hW1
 have sz1:(w.alloc (.cells #[.iface 43 (.pointer (some ⟨d,0,none⟩))] 124)).heap.size=w.heap.size+1:=by simp
 have sz2:((w.alloc (.cells #[.iface 43 (.pointer (some ⟨d,0,none⟩))] 124)).alloc (.cells #[.slice none 0 0] 51)).heap.size=w.heap.size+2:=by simp
 have hb:Below w.heap.size w W1:=by
  rw [← hW1]
  exact (((Below.refl _ _).alloc (Nat.le_refl _) _).alloc (by simp) _).alloc (by rw [sz2];omega) _
 have hR0:BlR d w.heap.size (w.heap.size+1) (w.heap.size+2) ([],0) none 0 0 W1:=by
  rw [← hW1]
  refine ⟨((Blk.new w 124 #[.iface 43 (.pointer (some ⟨d,0,none⟩))]).alloc _).alloc _,?_,?_,World.ownsRow_nil _ _ _ _⟩
  ·have h1:=(Blk.new (w.alloc (.cells #[.iface 43 (.pointer (some ⟨d,0,none⟩))] 124)) 51 #[.slice none 0 0]).alloc (.cells #[.int .i64 0] 37)
   rw [sz1] at h1
   exact h1
  ·have h1:=Blk.new ((w.alloc (.cells #[.iface 43 (.pointer (some ⟨d,0,none⟩))] 124)).alloc (.cells #[.slice none 0 0] 51)) 37 #[.int .i64 0]
   rw [sz2] at h1
   exact h1
 have HFo:=hid (vfollow_any h hb head hh 59 #[.pointer (some ⟨w.heap.size,0,none⟩), .pointer (some ⟨w.heap.size+1,0,none⟩), .pointer (some ⟨w.heap.size+2,0,none⟩)] (fun n q=>q.1.length≤7 * n) (fun _=>BlZ (w.heap.size+1) (w.heap.size+2)) (BlRs d w.heap.size (w.heap.size+1) (w.heap.size+2)) (blS (walkR L cur (fun q=>chkR s K cs q 1))) ([],0)
  (fun s W hR k hk=>by
   obtain ⟨A,m,c,hR⟩:=hR
   rcases hR.z hk with e | e | e
   ·exact ⟨by omega,by rw [e];exact hR.all.lt⟩
   ·exact ⟨by omega,by rw [e];exact hR.bad.lt⟩
   ·have h1:=hR.own.lt k e
    exact ⟨by omega,h1.2⟩) (fun s W W' k hR hW hk=>by
   obtain ⟨A,m,c,hR⟩:=hR
   exact hR.zin ((hR.below hW).z hk)) (Nat.zero_le _) (fun nn sg p v hn hI=>by
   have h1:=bofR_len L cur (fun q=>chkR s K cs q 1) p v.2.1 v.2.2.1
   have h2:sg.1.length≤7 * nn:=hI
   have h3:(blS (walkR L cur (fun q=>chkR s K cs q 1)) sg p v).1.1.length=sg.1.length+(bofR (walkR L cur (fun q=>chkR s K cs q 1)) p v.2.1 v.2.2.1).1.length:=List.length_append
   rw [h3]
   omega) ⟨none,0,0,hR0⟩ (fun s W W' hR hW=>by
   obtain ⟨A,m,c,hR⟩:=hR
   exact ⟨A,m,c,hR.below hW⟩) (fun args w=>by kernel_rfl) (bl_body h _ _ _ (by omega)))
 have HBk:Hid (vblR (verR cur (fun q=>chkR s K cs q 7)) (walkR L cur (fun q=>chkR s K cs q 1)) head=if (folW (verR cur (fun q=>chkR s K cs q 7)) (blS (walkR L cur (fun q=>chkR s K cs q 1))) 4097 head 4611686018427387904 0 ([],0)).1≠0 then ((folW (verR cur (fun q=>chkR s K cs q 7)) (blS (walkR L cur (fun q=>chkR s K cs q 1))) 4097 head 4611686018427387904 0 ([],0)).1,[]) else if (folW (verR cur (fun q=>chkR s K cs q 7)) (blS (walkR L cur (fun q=>chkR s K cs q 1))) 4097 head 4611686018427387904 0 ([],0)).2.2≠0 then ((folW (verR cur (fun q=>chkR s K cs q 7)) (blS (walkR L cur (fun q=>chkR s K cs q 1))) 4097 head 4611686018427387904 0 ([],0)).2.2,[]) else (0,(folW (verR cur (fun q=>chkR s K cs q 7)) (blS (walkR L cur (fun q=>chkR s K cs q 1))) 4097 head 4611686018427387904 0 ([],0)).2.1)):=hid rfl
 generalize folW (verR cur (fun q=>chkR s K cs q 7)) (blS (walkR L cur (fun q=>chkR s K cs q 1))) 4097 head 4611686018427387904 0 ([],0)=X at *
 generalize vblR (verR cur (fun q=>chkR s K cs q 7)) (walkR L cur (fun q=>chkR s K cs q 1)) head=Y at *
 have c1:W1.cell? ⟨w.heap.size,0,none⟩=some (.iface 43 (.pointer (some ⟨d,0,none⟩))):=hR0.sp.cell 0
 have hmf:∀ (fn:Fn) (first cap:Array Value) (w:World),(Instr.makeFunc fn first cap).run Tryz.prog w = .ok (.func fn first cap) w:=fun _ _ _ _=>rfl
 clear h hW1 hb hR0 hh
 go_enter Tryz.func18,Tryz.ntmps18
 go_upto_region 3 with fail
 rw [HW1.out]
 go_wp2_with fail
 refine HFo.out.mono ?_
 rintro e w2 ⟨rfl,⟨A2,m2,k2,hR2⟩,hb2⟩
 obtain ⟨ev,ql,q⟩:=X
 dsimp only at hR2 HBk
 have HB2:=hid hb2
 have HR2:=hid hR2
 have b2:w2.cell? ⟨w.heap.size+2,0,none⟩=some (.int .i64 (q:Int)):=hR2.bad.cell 0
 have b1:w2.cell? ⟨w.heap.size+1,0,none⟩=some (.slice A2 m2 k2):=hR2.all.cell 0
 clear hR2 hb2 HW1 HFo sz1 sz2 c1
 by_cases hev:ev=0
 ·subst hev
  rw [show ((0:Nat):Int)=0 from rfl]
  by_cases hq:q=0
  ·subst hq
   have HY:Hid (Y=(0,ql)):=hid (by rw [HBk.out];rfl)
   have hq2:w2.cell? ⟨w.heap.size+2,0,none⟩=some (.int .i64 0):=b2
   clear b2
   go_wp2
   go_ret2
   unfold RetVbl
   rw [HY.out]
   have h1:=HR2.out.own
   exact ⟨A2,m2,k2,rfl,by have h2:(uCells ql).length=m2 * 1:=h1.1;simp only [uCells,List.length_map] at h2;show m2=ql.length;omega,Reads.of_own h1,(own_cap h1).1,HB2.out⟩
  ·have HY:Hid (Y=(q,[])):=hid (by rw [HBk.out,if_neg (by simp),if_pos hq])
   have d1:((q:Int) != 0)=true:=by rw [bne,beq_eq_false_iff_ne.2 (by omega)];rfl
   clear hq HBk
   go_wp2
   go_ret2
   unfold RetVbl
   rw [HY.out]
   exact ⟨none,0,0,rfl,rfl,⟨rfl,fun h=>absurd h (Nat.lt_irrefl 0)⟩,Nat.le_refl _,HB2.out⟩
 ·have HY:Hid (Y=(ev,[])):=hid (by rw [HBk.out,if_pos hev])
  have d0:((ev:Int) == 0)=false:=beq_eq_false_iff_ne.2 (by omega)
  have d1:((ev:Int) != 0)=true:=by rw [bne,d0];rfl
  clear hev HBk
  go_wp2
  go_ret2
  unfold RetVbl
  rw [HY.out]
  exact ⟨none,0,0,rfl,rfl,⟨rfl,fun h=>absurd h (Nat.lt_irrefl 0)⟩,Nat.le_refl _,HB2.out⟩
end
end
end Go.Proofs.YtnlokpakiambaaaGreatDoor
