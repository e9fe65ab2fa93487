/- The walks and laws that the claim leans on, part 47. -/
import Derived.Test.YtnlokpakiambaaaGreatDoorJbr
import Derived.Test.YtnlokpakiambaaaGreatDoorJbs
set_option maxRecDepth 100000
set_option maxHeartbeats 16000000
namespace Go.Proofs.YtnlokpakiambaaaGreatDoor
open Go.Lib (hid)
section
open Go.RowKit Go.Maps
theorem hist_at {K:Nat} {cs:Nat→CS} {cur:Nat→Nat}:∀ {rl:List RV},HistA K cs cur (vvs rl)→∀ i (h:i < rl.length),VerA K cs cur (rl[i]).v (hdQ (vvs (rl.drop (i+1))))
 | r :: t,hh,0,_=>hh.1
 | r :: t,hh,i+1,h=>hist_at (rl:=t) hh.2.1 i (by simpa using h)
theorem hdQ_drop (rl:List RV) (i:Nat):hdQ (vvs (rl.drop i))=((rl[i]?).map fun r=>r.v.q).getD 0:=by
 cases h:rl[i]? with
 | none =>
  have h1:=List.getElem?_eq_none_iff.1 h
  rw [List.drop_of_length_le h1]
  rfl
 | some r =>
  obtain ⟨h1,h2⟩:=List.getElem?_eq_some_iff.1 h
  rw [List.drop_eq_getElem_cons h1,h2]
  rfl
section
variable {w0 w:World} {k gh:Nat} {rl:List RV} {z:HP}
theorem same_any (hj:HsJ w0 k gh rl (vvs rl) z w) (i:Nat) (hi:i < rl.length) (st:Nat) (dl:Bool) (dt ol:Nat) (hk:rl.length≤1000) (h1:st=(rl[i]).v.st) (h2:dl=(rl[i]).v.dl) (h3:dt=(rl[i]).v.dt) (h4:ol=hdQ (vvs (rl.drop (i+1)))) :
  Calls Tryz.prog 17 #[.pointer (some ⟨gh,0,none⟩),vAgg st dl dt ol, .int .i64 (i:Int)] w fun e w'=>e = .returned (.bool true)∧Below w.heap.size w w':=by
 have hl:=rv_len hj.rd
 obtain ⟨W1,hW1⟩:∃ W1,w.alloc (.cells #[.int .u64 (st:Int), .bool dl, .int .u64 (dt:Int), .int .u64 (ol:Int)] 36)=W1:=⟨_,rfl⟩
 have hbx:=Blk.new w 36 #[.int .u64 (st:Int), .bool dl, .int .u64 (dt:Int), .int .u64 (ol:Int)]
 have hB1:Below w.heap.size w (w.alloc (.cells #[.int .u64 (st:Int), .bool dl, .int .u64 (dt:Int), .int .u64 (ol:Int)] 36)):=(Below.refl _ _).alloc (Nat.le_refl _) _
 rw [hW1] at hbx hB1
 have hj1:=hj.below_ hB1
 obtain ⟨hil,gb,go,hA3,hgb,f0,f1,f2,f3,f4⟩:=rv_facts hj1.rd (k:=i) (by omega)
 have hv:=hist_at hj.hist i hi
 have hdtz:=hv.dtz
 have b1:W1.cell? ⟨gh,1,none⟩=some (.slice z.A z.n z.c):=hj1.blk.cell 1
 obtain ⟨An,hAn⟩:∃ An,z.A=An:=⟨_,rfl⟩
 obtain ⟨n,hn⟩:∃ n,z.n=n:=⟨_,rfl⟩
 obtain ⟨c,hc⟩:∃ c,z.c=c:=⟨_,rfl⟩
 rw [hAn,hn,hc] at b1
 rw [hn] at hl
 rw [hAn] at hA3
 have HNx:Hid ((i+1 < n∧W1.cell? ⟨gb,go+(i+1) * 5+2,none⟩=some (.int .u64 (ol:Int)))∨(¬ i+1 < n∧ol=0)):=hid (by
  by_cases h5:i+1 < n
  ·obtain ⟨hil',gb',go',hA3',_,_,_,e2,_⟩:=rv_facts hj1.rd (k:=i+1) (by omega)
   rw [hAn,hA3] at hA3'
   injection hA3' with e1
   injection e1 with e1 e3
   subst e1 e3
   refine .inl ⟨h5,?_⟩
   rw [h4,hdQ_drop,List.getElem?_eq_getElem hil']
   exact e2
  ·refine .inr ⟨h5,?_⟩
   rw [h4,hdQ_drop,List.getElem?_eq_none (by omega)]
   rfl)
 have HDt:Hid (dl=false→∃ db dof:Nat,(rl[i]).B=some ⟨db,dof,none⟩∧0 < (rl[i]).nb∧db < W1.heap.size∧W1.cell? ⟨db,dof,none⟩=some (.int .u64 (dt:Int))):=hid (fun hdl=>by
  have h5:=hv.blen
  rw [← h2,hdl,if_neg (by decide)] at h5
  have h6:=nBlk_drop (rl[i]).v.p
  obtain ⟨r1,_⟩:=hj1.rin (rl[i]) (List.getElem_mem hi)
  have h7:(rl[i]).v.bl.length=(rl[i]).nb:=by have:=r1.1;simpa [uCells] using this
  obtain ⟨hl0,db,dof,e1,e2,e3⟩:=u_facts r1 (k:=0) (by omega)
  refine ⟨db,dof,e1,by omega,e2,?_⟩
  rw [Nat.add_zero] at e3
  have e0:(rl[i]).v.dt=(rl[i]).v.bl[0]:=by
   exact headD_get _ hl0
  rw [h3,e0]
  exact e3)
 have HDz:Hid (dl=true→dt=0):=hid (fun hdl=>by
  rw [← h2,hdl,← h3] at hdtz
  exact of_decide_eq_true hdtz.symm)
 rw [← h1] at f0
 rw [← h2] at f1
 generalize rl[i]=r at *
 obtain ⟨v,B,nb,cb,D,nd,cd⟩:=r
 dsimp only at f0 f1 f2 f3 f4 HDt
 generalize v.q=q at *
 subst hA3
 have v0:=hbx
 have HW1:=hid hW1
 have HB1:=hid hB1
 have HK1:=hid hbx
 have hghl:gh < w.heap.size:=hj.blk.lt
 clear hv hdtz h1 h2 h3 h4 hj hj1 hbx hB1 hW1 v0 hAn hc
 have hz0:(0:Int)≤(i:Int):=by omega
 have hz1:(i:Int) < (n:Int):=by omega
 unfold vAgg
 obtain ⟨W2,hW2⟩:∃ W2,W1.alloc (.cells #[.int .u64 (st:Int), .bool dl, .int .u64 (q:Int), .slice B nb cb, .slice D nd cd] 62)=W2:=⟨_,rfl⟩
 have hb2:=Blk.new W1 62 #[.int .u64 (st:Int), .bool dl, .int .u64 (q:Int), .slice B nb cb, .slice D nd cd]
 have hB2:Below W1.heap.size W1 (W1.alloc (.cells #[.int .u64 (st:Int), .bool dl, .int .u64 (q:Int), .slice B nb cb, .slice D nd cd] 62)):=(Below.refl _ _).alloc (Nat.le_refl _) _
 go_enter Tryz.func17,Tryz.ntmps17
 go_upto_region 1 with fail
 rw [HW1.out]
 rw [hW2] at hb2 hB2
 have HW2:=hid hW2
 have g0:W2.cell? ⟨W1.heap.size,0,none⟩=some (.int .u64 (st:Int)):=hb2.cell 0
 have g1:W2.cell? ⟨W1.heap.size,1,none⟩=some (.bool dl):=hb2.cell 1
 have g3:W2.cell? ⟨W1.heap.size,3,none⟩=some (.slice B nb cb):=hb2.cell 3
 have hv2:=HK1.out.below hB2 HK1.out.lt
 have v0:W2.cell? ⟨w.heap.size,0,none⟩=some (.int .u64 (st:Int)):=hv2.cell 0
 have v1:W2.cell? ⟨w.heap.size,1,none⟩=some (.bool dl):=hv2.cell 1
 have v2:W2.cell? ⟨w.heap.size,2,none⟩=some (.int .u64 (dt:Int)):=hv2.cell 2
 have v3:W2.cell? ⟨w.heap.size,3,none⟩=some (.int .u64 (ol:Int)):=hv2.cell 3
 have hgl:gh < W1.heap.size:=Nat.lt_of_lt_of_le hghl HB1.out.size
 have b2:W2.cell? ⟨gh,1,none⟩=some (.slice (some ⟨gb,go,none⟩) n c):=by
  rw [← b1]
  exact hB2.cell (p:=⟨gh,1,none⟩) hgl
 have HB2:=hid (HB1.out.trans (hB2.mono HB1.out.size))
 have HN2:Hid ((i+1 < n∧W2.cell? ⟨gb,go+(i+1) * 5+2,none⟩=some (.int .u64 (ol:Int)))∨(¬ i+1 < n∧ol=0)):=hid (HNx.out.imp (fun h=>⟨h.1,by rw [← h.2];exact hB2.cell (p:=⟨gb,go+(i+1) * 5+2,none⟩) hgb⟩) id)
 have HD2:Hid (dl=false→∃ db dof:Nat,B=some ⟨db,dof,none⟩∧0 < nb∧W2.cell? ⟨db,dof,none⟩=some (.int .u64 (dt:Int))):=hid (fun h=>by
  obtain ⟨db,dof,e1,e2,e3,e4⟩:=HDt.out h
  refine ⟨db,dof,e1,e2,?_⟩
  rw [← e4]
  exact hB2.cell (p:=⟨db,dof,none⟩) e3)
 have hneq:wrap64 ((i:Int)+1)=(i:Int)+1:=by rw [IntWalk.wrap64_in _ (by omega)]
 clear hb2 hB2 hv2 hgl hW2 HDt HNx
 go_upto_region 2 with fail
 rw [HW2.out]
 clear f0 f1 f2 f3 f4 b1
 go_upto_if 24 with fail
 go_cut [8] from 25 to 33 (fun v wx=>v = .int .u64 (ol:Int)∧Hid (wx=W2))
 case first =>
  rcases HN2.out with ⟨h5,h6⟩ | ⟨h5,h6⟩
  ·have d1:(i:Int)+1 < (n:Int):=by omega
   have d2:(0:Int)≤(i:Int)+1:=by omega
   have d3:((i:Int)+1).toNat=i+1:=by omega
   go_wp2_with fail
   go_meet
   exact ⟨rfl,hid rfl⟩
  ·have d1:¬ (i:Int)+1 < (n:Int):=by omega
   subst h6
   go_wp2_with fail
   go_meet
   exact ⟨rfl,hid rfl⟩
 case rest =>
  obtain ⟨rfl,hwc⟩:=hcut
  have hw:=hwc.out.symm
  subst hw
  clear hwc HN2
  cases dl
  ·obtain ⟨db,dof,rfl,hnb,hdc⟩:=HD2.out rfl
   have d1:(0:Int) < (nb:Int):=by omega
   go_wp2
   go_ret
   exact ⟨by simp,HB2.out⟩
  ·have hdt:=HDz.out rfl
   subst hdt
   go_wp2
   go_ret
   exact ⟨by simp,HB2.out⟩
end
end
section
open Go.RowKit Go.Maps
structure PrS where
 found:Bool
 cut:Nat
 l:List Nat
 bad:Nat
def prS (old:Nat) (walk:Nat→Nat × List Nat × List Nat) (s:PrS) (p:Nat) (v:Nat × Bool × Nat × Nat):PrS × Bool :=
 if s.found=false∧(decide (v.1≤old)=false∨v.2.1=false) then (⟨decide (v.1≤old),p,s.l,s.bad⟩,true)
 else (⟨true,s.cut,s.l++(bofR walk p v.2.1 v.2.2.1).1,(bofR walk p v.2.1 v.2.2.1).2⟩,decide ((bofR walk p v.2.1 v.2.2.1).2=0))
structure PrR (d g old:Nat) (s:PrS) (A:Option Addr) (m c:Nat) (W:World):Prop where
 sp:Blk W g 124 #[.iface 43 (.pointer (some ⟨d,0,none⟩))]
 od:Blk W (g+1) 23 #[.int .u64 (old:Int)]
 all:Blk W (g+2) 51 #[.slice A m c]
 cu:Blk W (g+3) 27 #[.int .u64 (s.cut:Int)]
 fo:Blk W (g+4) 4 #[.bool s.found]
 bad:Blk W (g+5) 37 #[.int .i64 (s.bad:Int)]
 own:W.ownsRow (g+6) 27 1 (.slice A m c) m (uCells s.l)
def PrRs (d g old:Nat) (s:PrS) (W:World):Prop:=∃ A m c,PrR d g old s A m c W
def PrZ (g:Nat) (W:World):Fp:=fun k=>k=g+2∨k=g+3∨k=g+4∨k=g+5∨∃ A m c,W.cell? ⟨g+2,0,none⟩=some (.slice A m c)∧(Value.slice A m c).ownBlock=some k
theorem PrR.below {d g old:Nat} {s:PrS} {A:Option Addr} {m c:Nat} {W W':World} (h:PrR d g old s A m c W) (hb:Below W.heap.size W W'):PrR d g old s A m c W' :=
 ⟨h.sp.below hb h.sp.lt,h.od.below hb h.od.lt,h.all.below hb h.all.lt,h.cu.below hb h.cu.lt,h.fo.below hb h.fo.lt,h.bad.below hb h.bad.lt,own_below h.own hb⟩
theorem PrR.z {d g old:Nat} {s:PrS} {A:Option Addr} {m c:Nat} {W:World} (h:PrR d g old s A m c W) {k:Nat} (hz:PrZ g W k):k=g+2∨k=g+3∨k=g+4∨k=g+5∨(Value.slice A m c).ownBlock=some k:=by
 rcases hz with e | e | e | e | ⟨A2,m2,c2,h1,h2⟩
 ·exact .inl e
 ·exact .inr (.inl e)
 ·exact .inr (.inr (.inl e))
 ·exact .inr (.inr (.inr (.inl e)))
 ·have h3:=h.all.cell 0
  rw [h1] at h3
  have h4:Value.slice A2 m2 c2 = .slice A m c:=by injection h3
  rw [h4] at h2
  exact .inr (.inr (.inr (.inr h2)))
theorem PrR.zin {d g old:Nat} {s:PrS} {A:Option Addr} {m c:Nat} {W:World} (h:PrR d g old s A m c W) {k:Nat} (hk:k=g+2∨k=g+3∨k=g+4∨k=g+5∨(Value.slice A m c).ownBlock=some k):PrZ g W k:=by
 rcases hk with e | e | e | e | e
 ·exact .inl e
 ·exact .inr (.inl e)
 ·exact .inr (.inr (.inl e))
 ·exact .inr (.inr (.inr (.inl e)))
 ·exact .inr (.inr (.inr (.inr ⟨A,m,c,h.all.cell 0,e⟩)))
theorem PrR.setF {d g old:Nat} {s:PrS} {A:Option Addr} {m c:Nat} {W:World} (h:PrR d g old s A m c W) (b:Bool):PrR d g old ⟨b,s.cut,s.l,s.bad⟩ A m c (W.setCell ⟨g+4,0,none⟩ (.bool b)):=by
 have hc:Chg (fun k=>k=g+4) W (W.setCell ⟨g+4,0,none⟩ (.bool b)):=(Chg.refl (fun k=>k=g+4) W).setCell (p:=⟨g+4,0,none⟩) (.inl rfl) _
 exact ⟨hc.blk h.sp (by omega),hc.blk h.od (by omega),hc.blk h.all (by omega),hc.blk h.cu (by omega),h.fo.set_ 0 _,hc.blk h.bad (by omega),hc.own h.own (fun k hk e=>by have h1:=(h.own.lt k hk).1;omega)⟩
theorem PrR.setC {d g old:Nat} {s:PrS} {A:Option Addr} {m c:Nat} {W:World} (h:PrR d g old s A m c W) (p:Nat):PrR d g old ⟨s.found,p,s.l,s.bad⟩ A m c (W.setCell ⟨g+3,0,none⟩ (.int .u64 (p:Int))):=by
 have hc:Chg (fun k=>k=g+3) W (W.setCell ⟨g+3,0,none⟩ (.int .u64 (p:Int))):=(Chg.refl (fun k=>k=g+3) W).setCell (p:=⟨g+3,0,none⟩) (.inl rfl) _
 exact ⟨hc.blk h.sp (by omega),hc.blk h.od (by omega),hc.blk h.all (by omega),h.cu.set_ 0 _,hc.blk h.fo (by omega),hc.blk h.bad (by omega),hc.own h.own (fun k hk e=>by have h1:=(h.own.lt k hk).1;omega)⟩
theorem PrZ.setF {d g old:Nat} {s:PrS} {A:Option Addr} {m c:Nat} {W:World} (h:PrR d g old s A m c W) (b:Bool):Chg (PrZ g W) W (W.setCell ⟨g+4,0,none⟩ (.bool b)) :=
 (Chg.refl (PrZ g W) W).setCell (p:=⟨g+4,0,none⟩) (.inl (h.zin (.inr (.inr (.inl rfl))))) _
theorem PrZ.setC {d g old:Nat} {s:PrS} {A:Option Addr} {m c:Nat} {W:World} (h:PrR d g old s A m c W) (p:Nat):Chg (PrZ g W) W (W.setCell ⟨g+3,0,none⟩ (.int .u64 (p:Int))) :=
 (Chg.refl (PrZ g W) W).setCell (p:=⟨g+3,0,none⟩) (.inl (h.zin (.inr (.inl rfl)))) _
section
variable {a:DA} {L T s n K:Nat} {x:HA} {cs:Nat→CS} {f:Nat→Option Nat} {N m b0:Nat} {S:Fp} {cur:Nat→Nat} {w:World} {d r:Nat}
theorem vpr1_any {W:World} (old p sp:Nat) (dl:Bool) (dt ol g:Nat) (h:SD a L T s n K x cs f N m b0 S cur w d r) (hW:Below w.heap.size w W) (hg:w.heap.size≤g) (q:PrS) (hp:p < 18446744073709551616) (hdt:dt < 18446744073709551616) (hR:PrRs d g old q W) (hfew:q.l.length≤100000) :
  Calls Tryz.prog 71 #[.int .u64 (p:Int), .agg #[.int .u64 (sp:Int), .bool dl, .int .u64 (dt:Int), .int .u64 (ol:Int)], .pointer (some ⟨g+4,0,none⟩), .pointer (some ⟨g+1,0,none⟩), .pointer (some ⟨g+3,0,none⟩), .pointer (some ⟨g,0,none⟩), .pointer (some ⟨g+2,0,none⟩), .pointer (some ⟨g+5,0,none⟩)] W fun e w'=>e = .returned (.bool (prS old (walkR L cur (fun q=>chkR s K cs q 1)) q p (sp,dl,dt,ol)).2)∧PrRs d g old (prS old (walkR L cur (fun q=>chkR s K cs q 1)) q p (sp,dl,dt,ol)).1 w'∧Chg (PrZ g W) W w':=by
 obtain ⟨A,mm,c,hR⟩:=hR
 obtain ⟨qf,qc,ql,qb⟩:=q
 have hlm:ql.length=mm:=by have h1:=hR.own.1;simpa [uCells] using h1
 obtain ⟨W1,hW1⟩:∃ W1,W.alloc (.cells #[.int .u64 (sp:Int), .bool dl, .int .u64 (dt:Int), .int .u64 (ol:Int)] 36)=W1:=⟨_,rfl⟩
 have hbx:=Blk.new W 36 #[.int .u64 (sp:Int), .bool dl, .int .u64 (dt:Int), .int .u64 (ol:Int)]
 have hB1:Below W.heap.size W (W.alloc (.cells #[.int .u64 (sp:Int), .bool dl, .int .u64 (dt:Int), .int .u64 (ol:Int)] 36)):=(Below.refl _ _).alloc (Nat.le_refl _) _
 rw [hW1] at hbx hB1
 have HW1:=hid hW1
 have HBx:=hid hbx
 have HB1:=hid hB1
 have HR:=hid hR
 have HR1:=hid (hR.below hB1)
 have HSd:=hid (fun W (hW:Below w.heap.size w W)=>vbof_any (h.below hW) p sp dl dt ol hdt)
 have HWb:=hid (And.intro hW hg)
 have HFw:=hid (show mm≤100000 by have h2:ql.length≤100000:=hfew;omega)
 have HLm:=hid hlm
 have v0:W1.cell? ⟨W.heap.size,0,none⟩=some (.int .u64 (sp:Int)):=hbx.cell 0
 have v1:W1.cell? ⟨W.heap.size,1,none⟩=some (.bool dl):=hbx.cell 1
 have b0:W1.cell? ⟨g+4,0,none⟩=some (.bool qf):=HR1.out.fo.cell 0
 have b1:W1.cell? ⟨g+1,0,none⟩=some (.int .u64 (old:Int)):=HR1.out.od.cell 0
 have b2:W1.frozen? ⟨g+4,0,none⟩=false:=HR1.out.fo.frozen 0
 have b3:W1.cell? ⟨g+3,0,none⟩=some (.int .u64 (qc:Int)):=HR1.out.cu.cell 0
 have b4:W1.frozen? ⟨g+3,0,none⟩=false:=HR1.out.cu.frozen 0
 obtain ⟨Y,hY⟩:∃ Y,prS old (walkR L cur (fun q=>chkR s K cs q 1)) ⟨qf,qc,ql,qb⟩ p (sp,dl,dt,ol)=Y:=⟨_,rfl⟩
 have HYa:Hid (qf=false→(decide (sp≤old)=false∨dl=false)→Y=(⟨decide (sp≤old),p,ql,qb⟩,true)):=hid (fun h1 h2=>by rw [← hY];unfold prS;rw [if_pos ⟨h1,h2⟩])
 have HYb:Hid (¬ (qf=false∧(decide (sp≤old)=false∨dl=false))→Y=(⟨true,qc,ql++(bofR (walkR L cur (fun q=>chkR s K cs q 1)) p dl dt).1,(bofR (walkR L cur (fun q=>chkR s K cs q 1)) p dl dt).2⟩,decide ((bofR (walkR L cur (fun q=>chkR s K cs q 1)) p dl dt).2=0))):=hid (fun h1=>by rw [← hY];unfold prS;rw [if_neg h1])
 rw [hY]
 have HLn:Hid ((bofR (walkR L cur (fun q=>chkR s K cs q 1)) p dl dt).1.length≤7):=hid (bofR_len _ _ _ _ _ _)
 clear h hbx hB1 hR hlm hfew hW1 hY hW hg hdt
 go_enter Tryz.func71,Tryz.ntmps71
 go_upto_region 1 with fail
 rw [HW1.out]
 go_upto_if 14 with fail
 go_cut [14] from 13 to 25 (fun _ wx=>Hid (PrR d g old ⟨true,qc,ql,qb⟩ A mm c wx)∧Hid (Chg (PrZ g W) W wx)∧Hid (Blk wx W.heap.size 36 #[.int .u64 (sp:Int), .bool dl, .int .u64 (dt:Int), .int .u64 (ol:Int)])∧Hid (¬ (qf=false∧(decide (sp≤old)=false∨dl=false))))
 case first =>
  cases qf
  ·by_cases hs:sp≤old
   ·have hsi:(sp:Int)≤(old:Int):=by omega
    have HS:Hid (decide (sp≤old)=true):=hid (decide_eq_true hs)
    clear hs
    cases dl
    ·go_wp2_with fail
     go_ret
     rw [HYa.out (by simp) (.inr (by simp)),HS.out]
     have h1:=HR1.out.setF true
     exact ⟨rfl,⟨A,mm,c,h1.setC p⟩,((Chg.of_below HB1.out).trans (PrZ.setF HR1.out true) (fun k hk => .inl (HR.out.zin (HR1.out.z hk)))).trans (PrZ.setC h1 p) (fun k hk => .inl (HR.out.zin (h1.z hk)))⟩
    ·go_wp2_with fail
     go_meet
     have h1:=HR1.out.setF true
     exact ⟨hid h1,hid ((Chg.of_below HB1.out).trans (PrZ.setF HR1.out true) (fun k hk => .inl (HR.out.zin (HR1.out.z hk)))),hid (((Chg.refl (fun k=>k=g+4) _).setCell (p:=⟨g+4,0,none⟩) (.inl rfl) _).blk HBx.out (by have h2:=HR.out.fo.lt;omega)),hid (fun h=>by rw [HS.out] at h;simp at h)⟩
   ·have hsi:(old:Int) < (sp:Int):=by omega
    have HS:Hid (decide (sp≤old)=false):=hid (decide_eq_false hs)
    clear hs
    go_wp2_with fail
    go_ret
    rw [HYa.out (by simp) (.inl HS.out),HS.out]
    have h1:=HR1.out.setF false
    exact ⟨rfl,⟨A,mm,c,h1.setC p⟩,((Chg.of_below HB1.out).trans (PrZ.setF HR1.out false) (fun k hk => .inl (HR.out.zin (HR1.out.z hk)))).trans (PrZ.setC h1 p) (fun k hk => .inl (HR.out.zin (h1.z hk)))⟩
  ·go_wp2_with fail
   go_meet
   exact ⟨HR1,hid (Chg.of_below HB1.out),HBx,hid (fun h=>by simp at h)⟩
 case rest =>
 obtain ⟨HRc,HCc,HVc,HNc⟩:=hcut
 have HY:Hid (Y=(⟨true,qc,ql++(bofR (walkR L cur (fun q=>chkR s K cs q 1)) p dl dt).1,(bofR (walkR L cur (fun q=>chkR s K cs q 1)) p dl dt).2⟩,decide ((bofR (walkR L cur (fun q=>chkR s K cs q 1)) p dl dt).2=0))):=hid (HYb.out HNc.out)
 have HBw:Hid (Below w.heap.size w wc):=hid (HWb.out.1.trans (HCc.out.toBelow HWb.out.1.size (fun k hk=>by
  have h2:=HWb.out.2
  rcases HR.out.z hk with e | e | e | e | e
  ·omega
  ·omega
  ·omega
  ·omega
  ·have h1:=(HR.out.own.lt k e).1
   omega)))
 have HBf:=hid (HSd.out wc HBw.out)
 clear HYa HYb HNc HSd HR1 HBx HB1 HW1 v0 v1 b0 b1 b2 b3 b4
 generalize bofR (walkR L cur (fun q=>chkR s K cs q 1)) p dl dt=X at *
 obtain ⟨xl,xe⟩:=X
 dsimp only at HLn HY
 have v0:wc.cell? ⟨W.heap.size,0,none⟩=some (.int .u64 (sp:Int)):=HVc.out.cell 0
 have v1:wc.cell? ⟨W.heap.size,1,none⟩=some (.bool dl):=HVc.out.cell 1
 have v2:wc.cell? ⟨W.heap.size,2,none⟩=some (.int .u64 (dt:Int)):=HVc.out.cell 2
 have v3:wc.cell? ⟨W.heap.size,3,none⟩=some (.int .u64 (ol:Int)):=HVc.out.cell 3
 have s1:wc.cell? ⟨g,0,none⟩=some (.iface 43 (.pointer (some ⟨d,0,none⟩))):=HRc.out.sp.cell 0
 have hq:((xe:Int) == 0)=decide (xe=0):=by
  by_cases h:xe=0
  ·subst h;rfl
  ·rw [decide_eq_false h,beq_eq_false_iff_ne];omega
 generalize decide (xe=0)=qz at *
 obtain ⟨i0,hi0,hz0,hz1,hz2⟩:=info_parts infoPtr
 go_wp2_with (go_at_call 60;refine HBf.out.mono ?_;rintro e w2 ⟨A2,m2,c2,rfl,hm2,hr2,hc2,hb2⟩;have HM2:=hid hm2;have HR2:=hid hr2;have HB2:=hid hb2;clear hm2 hr2 hc2 hb2;refine stop ?_)
 unfold Stop
 have HRb:=hid (HRc.out.below HB2.out)
 have f1:w2.cell? ⟨g+2,0,none⟩=some (.slice A mm c):=HRb.out.all.cell 0
 clear v0 v1 v2 v3 s1
 go_wp2_with (at_builtin;refine wpList_app3 _ (.tmp 34) (.tmp 35) 51 rfl rfl (g+6) 27 i0 _ 1 8 Tryz.underlying51 hi0 hz0 hz1 hz2 rfl Nat.one_pos (.slice A mm c) mm (uCells ql) rfl HRb.out.own _ A2 m2 c2 (uCells xl) rfl HR2.out (uCells_one _) ?q1 ?q2 ?q3 ?_;(case q1=>(have h1:=HLn.out;have h2:=HM2.out;have h3:=HFw.out;unfold maxLen;omega));(case q2=>(have h1:=HLn.out;have h2:=HM2.out;have h3:=HFw.out;omega));(case q3=>(have h1:=HRb.out.bad.lt;omega));intro A3 n3 c3 w3 hn3 ho3 hg3 hv3;have HN3:=hid hn3;have HO3:=hid ho3;have HG3:=hid hg3;have HV3:=hid hv3;clear hn3 ho3 hg3 hv3;refine stop ?_)
 unfold Stop
 have hlt3:=HRb.out.own.lt
 have hk0:=HRb.out.sp.grown HG3.out (fun e=>by have h1:=(hlt3 _ e.symm).1;omega)
 have hk1:=HRb.out.od.grown HG3.out (fun e=>by have h1:=(hlt3 _ e.symm).1;omega)
 have hk2:=HRb.out.all.grown HG3.out (fun e=>by have h1:=(hlt3 _ e.symm).1;omega)
 have hk3:=HRb.out.cu.grown HG3.out (fun e=>by have h1:=(hlt3 _ e.symm).1;omega)
 have hk4:=HRb.out.fo.grown HG3.out (fun e=>by have h1:=(hlt3 _ e.symm).1;omega)
 have hk5:=HRb.out.bad.grown HG3.out (fun e=>by have h1:=(hlt3 _ e.symm).1;omega)
 have z1:w3.frozen? ⟨g+2,0,none⟩=false:=hk2.frozen 0
 have z2:w3.frozen? ⟨g+5,0,none⟩=false:=hk5.frozen 0
 have y1:w3.cell? ⟨g+2,0,none⟩=some (.slice A mm c):=hk2.cell 0
 have y2:w3.cell? ⟨g+5,0,none⟩=some (.int .i64 (qb:Int)):=hk5.cell 0
 have HK0:=hid hk0
 have HK1:=hid hk1
 have HK2:=hid hk2
 have HK3:=hid hk3
 have HK4:=hid hk4
 have HK5:=hid hk5
 have HCh:Hid (Chg (PrZ g W) W w3):=hid ((HCc.out.below HB2.out).grown HG3.out (fun k hk => .inl (HR.out.zin (.inr (.inr (.inr (.inr hk)))))))
 clear hk0 hk1 hk2 hk3 hk4 hk5 hlt3 f1
 go_wp2
 go_ret
 rw [HY.out]
 have k1:=(HK2.out.set_ 0 (.slice A3 n3 c3))
 have hchA:Chg (fun k=>k=g+2) w3 (w3.setCell ⟨g+2,0,none⟩ (.slice A3 n3 c3)):=(Chg.refl (fun k=>k=g+2) w3).setCell (p:=⟨g+2,0,none⟩) (.inl rfl) _
 have hchB:Chg (fun k=>k=g+5) (w3.setCell ⟨g+2,0,none⟩ (.slice A3 n3 c3)) ((w3.setCell ⟨g+2,0,none⟩ (.slice A3 n3 c3)).setCell ⟨g+5,0,none⟩ (.int .i64 (xe:Int))):=(Chg.refl (fun k=>k=g+5) _).setCell (p:=⟨g+5,0,none⟩) (.inl rfl) _
 have hown3:=HO3.out.lt
 refine ⟨rfl,⟨A3,n3,c3,⟨hchB.blk (hchA.blk HK0.out (by omega)) (by omega),hchB.blk (hchA.blk HK1.out (by omega)) (by omega),hchB.blk k1 (by omega),hchB.blk (hchA.blk HK3.out (by omega)) (by omega),hchB.blk (hchA.blk HK4.out (by omega)) (by omega),?_,?_⟩⟩,?_⟩
 ·exact (hchA.blk HK5.out (by omega)).set_ 0 _
 ·have e1:uCells (ql++xl)=uCells ql++uCells xl:=by simp [uCells]
  show World.ownsRow _ _ _ _ _ n3 (uCells (ql++xl))
  rw [e1]
  exact hchB.own (hchA.own HO3.out (fun k hk e=>by have h1:=(hown3 k hk).1;omega)) (fun k hk e=>by have h1:=(hown3 k hk).1;omega)
 ·exact (HCh.out.setCell (p:=⟨g+2,0,none⟩) (.inl (HR.out.zin (.inl rfl))) _).setCell (p:=⟨g+5,0,none⟩) (.inl (HR.out.zin (.inr (.inr (.inr (.inl rfl)))))) _
end
end
section
open Go.RowKit Go.Maps
theorem HsJ.start {a:DA} {T:Nat} {x:HA} {y:WA} {S:Fp} {w w':World} {gh:Nat} (h:BW a 373 T 10 x y (fun _=>csN) (fun _=>none) 0 0 w.heap.size S (curB 10) w') (hT:T≤100) (hb:Below w.heap.size w w') (hblk:Blk w' gh 31 #[.pointer (some ⟨y.g,0,none⟩), .slice none 0 0]) (hgh:w.heap.size≤gh) (hoff:¬ sfp S x gh) (hord:LoS x y.d y.r w.heap.size gh∧y.g < gh∧y.u < gh∧y.m < gh) :
  HsJ w 0 gh [] (vvs []) ⟨a,T,x,y,fun _=>csN,fun _=>none,0,0,w.heap.size,S,curB 10,none,0,0,[]⟩ w':=by
 refine ⟨h,hblk,⟨rfl,fun h=>absurd h (Nat.lt_irrefl 0)⟩,Nat.le_refl _,fun r hr=>absurd hr (by simp),fun r hr=>absurd hr (by simp),fun h=>absurd h (Nat.lt_irrefl 0),hoff,trivial,?_,Cap.new (fun _ _=>rfl),RoomV.nil,hT,Nat.le_refl _,fun i hi=>?_,hgh,hord,hb⟩
 ·show curB 10 416=0
  unfold curB
  rw [(arC_at _ 53 10).2 416 (by omega)]
  rfl
 ·obtain ⟨_,_,_,_,l5,l6,l7,l8⟩:=h.sd.ds.lo
  rcases hi with e | e
  ·exact l8 i e
  ·rcases e with e | e | e <;> rw [e] <;> assumption
def BgS (w0:World) (l:List DR) (k gh:Nat) (w:World):Prop:=∃ rl z,HsJ w0 k gh rl (vvs rl) z w∧BgIs l k rl∧∀ u∈vvs rl,u.st≤stP l k
section
variable {w:World}
theorem vbegin_any (A:Option Addr) (n c:Nat) (l:List DR) (hin:DrsIn w A n c l) (ht:Tab w) (hpy:Pay w) :
  Calls Tryz.prog 12 #[.slice A n c] w fun e w'=>∃ gh:Nat,e = .returned (.pointer (some ⟨gh,0,none⟩))∧Hid (BgS w l (min n 8) gh w'):=by
 have HBg:=hid (beginB_any 10 (by decide) (by decide) w ht hpy)
 have HIn:=hid hin
 have HL:=hid (dr_len hin.1)
 obtain ⟨M,hM⟩:∃ M,min n 8=M:=⟨_,rfl⟩
 have HM:=hid (show M≤8∧M≤n∧(n≤8→M=n)∧(8≤n→M=8) by omega)
 rw [hM]
 clear hin ht hpy hM
 go_enter Tryz.func12,Tryz.ntmps12
 go_wp2_with (go_at_call 51;refine HBg.out.mono ?_;rintro e w1 ⟨a,T,x,y,S,rfl,hbw,hT,hb⟩;have HBw:=hid hbw;have HT:=hid hT;have HB:=hid hb;clear hbw hT hb;refine stop ?_)
 unfold Stop
 have hbh:=Blk.new w1 31 #[.pointer (some ⟨y.g,0,none⟩), .slice none 0 0]
 have HJ0:Hid (HsJ w 0 w1.heap.size [] (vvs []) ⟨a,T,x,y,fun _=>csN,fun _=>none,0,0,w.heap.size,S,curB 10,none,0,0,[]⟩ (w1.alloc (.cells #[.pointer (some ⟨y.g,0,none⟩), .slice none 0 0] 31))):=hid (HsJ.start (HBw.out.below ((Below.refl _ _).alloc (Nat.le_refl _) _)) HT.out (HB.out.alloc HB.out.size _) hbh HB.out.size (sfp_new HBw.out.sd) ⟨HBw.out.sd.lo,HBw.out.blk.lt,HBw.out.und.lt,HBw.out.mgr.lt⟩)
 have f0:(w1.alloc (.cells #[.pointer (some ⟨y.g,0,none⟩), .slice none 0 0] 31)).cell? ⟨w1.heap.size,0,none⟩=some (.pointer (some ⟨y.g,0,none⟩)):=hbh.cell 0
 clear hbh
 go_upto_region 5 with fail
 have hMi:(if (8:Int) < (n:Int) then (8:Int) else (n:Int))=(M:Int):=by
  obtain ⟨m1,m2,m3,m4⟩:=HM.out
  split <;> omega
 have hM0:(0:Int)≤(M:Int):=by omega
 have hMc:(M:Int)≤(c:Int):=by have h1:=HIn.out.2.1;have h2:=HM.out;omega
 have HJ1:Hid (BgS w l 0 w1.heap.size (w1.alloc (.cells #[.pointer (some ⟨y.g,0,none⟩), .slice none 0 0] 31))):=hid ⟨_,_,HJ0.out,BgIs.nil l,fun u hu=>absurd hu (by simp [vvs])⟩
 clear HJ0 f0
 go_wp2_with fail
 go_loopw [4,21] (fun v4 vi wr=>∃ k s:Nat,k≤M∧v4 = .int .u64 (s:Int)∧vi = .int .i64 (k:Int)∧Hid (s=stP l k)∧Hid (BgS w l k w1.heap.size wr)) (fun _ vi _=>M - (Go.RowKit.intOf vi).toNat)
 case atStart=>exact ⟨0,0,Nat.zero_le _,rfl,rfl,hid rfl,HJ1⟩
 case round =>
  clear HJ1 hMi
  obtain ⟨k,s,hk,rfl,rfl,HS,HJ⟩:=hrel
  by_cases hlt:k < M
  ·have hkn:k < n:=by have:=HM.out;omega
   have hbw:Below w.heap.size w wr:=by obtain ⟨rl,z,h1,_⟩:=HJ.out;exact h1.below
   obtain ⟨hkl,gb,go,hA3,_,f0,f1,f2⟩:=dr_facts ((HIn.out.1.below hbw).more hbw.size) (k:=k) hkn
   subst hA3
   have HR:=hid (HIn.out.2.2.2 (l[k]) (List.getElem_mem hkl))
   have HNx:Hid (stP l (k+1)=s+(l[k]).gap+(if k=0 then 0 else 1)):=hid (by
    rw [HS.out]
    conv=>lhs;unfold stP
    rw [List.getElem?_eq_getElem hkl]
    rfl)
   have HDl:Hid (∀ rl r,BgIs l k rl→r.v.st=stP l (k+1)→r.v.dl=(l[k]).dl→r.v.p=(if (l[k]).dl=true then [] else (l[k]).p.take 500)→BgIs l (k+1) (r :: rl)):=hid (fun rl r h h1 h2 h3=>h.add hkl h1 h2 h3)
   have HLe:Hid (stP l k≤256 * k):=hid (stP_le l (fun r hr=>(HIn.out.2.2.2 r hr).2.2.2.2) k)
   generalize l[k]=r at *
   obtain ⟨gap,dl,D,nd,cd,p⟩:=r
   dsimp only at f0 f1 f2 HR HNx HDl
   obtain ⟨W2,hW2⟩:∃ W2,wr.alloc (.cells #[.int .u8 (gap:Int), .bool dl, .slice D nd cd] 74)=W2:=⟨_,rfl⟩
   have hbn:=Blk.new wr 74 #[.int .u8 (gap:Int), .bool dl, .slice D nd cd]
   have hB2:Below wr.heap.size wr (wr.alloc (.cells #[.int .u8 (gap:Int), .bool dl, .slice D nd cd] 74)):=(Below.refl _ _).alloc (Nat.le_refl _) _
   rw [hW2] at hbn hB2
   have HW2:=hid hW2
   have d0:W2.cell? ⟨wr.heap.size,0,none⟩=some (.int .u8 (gap:Int)):=hbn.cell 0
   have d1:W2.cell? ⟨wr.heap.size,1,none⟩=some (.bool dl):=hbn.cell 1
   have d2:W2.cell? ⟨wr.heap.size,2,none⟩=some (.slice D nd cd):=hbn.cell 2
   obtain ⟨s2,hs2⟩:∃ s2,stP l (k+1)=s2:=⟨_,rfl⟩
   rw [hs2] at HNx
   have HAdd:Hid (Calls Tryz.prog 52 #[.pointer (some ⟨w1.heap.size,0,none⟩), .int .u64 (s2:Int), .agg #[.int .u8 (gap:Int), .bool dl, .slice D nd cd]] W2 fun e w'=>e = .returned (.bool true)∧Hid (BgS w l (k+1) w1.heap.size w')):=hid (by
    obtain ⟨rl,z,hj,hbg,hle⟩:=HJ.out
    have hk8:k < 8:=by have:=HM.out;omega
    have h0:=add_any (hj.below_ hB2) hk8 (by rw [hbg.1];omega) s2 (by have h1:=HLe.out;have h2:=HS.out;have h3:=HNx.out;have h4:gap < 256:=HR.out.2.2.2.2;have h5:(if k=0 then 0 else 1)≤1:=(by split <;> omega);omega) (fun u hu=>by
     have h1:=hle u hu
     have h2:=HNx.out
     have h3:=HS.out
     have h4:k≠0:=fun e=>by
      subst e
      have:=hbg.1
      have h5:rl=[]:=List.eq_nil_of_length_eq_zero this
      rw [h5] at hu
      exact absurd hu (by simp [vvs])
     rw [if_neg h4] at h2
     omega) gap dl D nd cd p HR.out.1 HR.out.2.1 HR.out.2.2.1 HR.out.2.2.2.1
    refine h0.mono (fun e w' h=>⟨h.1,hid ?_⟩)
    obtain ⟨r,z',q1,q2,q3,q4,q5,q6⟩:=h.2.out
    refine ⟨r :: rl,z',q1,HDl.out rl r hbg (by rw [q2,hs2]) q3 q4,fun u hu=>?_⟩
    rw [hs2]
    rcases List.mem_cons.1 hu with e | e
    ·subst e
     exact Nat.le_of_eq q2
    ·have h1:=hle u e
     have h2:=HNx.out
     have h3:=HS.out
     omega)
   have HSb:Hid (s≤2048∧gap < 256):=hid (by have:=HLe.out;have:=HS.out;have:=HM.out;exact ⟨by omega,HR.out.2.2.2.2⟩)
   have hz5:(0:Int)≤(k:Int):=by omega
   have hz6:(k:Int) < (M:Int):=by omega
   obtain ⟨s1,hs1⟩:∃ s1,s+gap=s1:=⟨_,rfl⟩
   have HS1:=hid hs1
   have e1:IntKind.u64.wrap ((s:Int)+(gap:Int))=(s1:Int):=by have:=HSb.out;rw [wraps_u64 _ (by omega) (by omega)];omega
   have e0:IntKind.u64.wrap (gap:Int)=(gap:Int):=by have:=HSb.out;exact wraps_u64 _ (by omega) (by omega)
   have HS2:Hid (s2=stP l (k+1)):=hid hs2.symm
   have hB9:M≤8:=HM.out.1
   clear hbn hB2 hW2 hbw hkl hs2 hs1 HR HDl
   go_upto_region 8 with fail
   rw [HW2.out]
   go_upto_if 32 with fail
   go_cut [4] from 33 to 34 (fun v wx=>v = .int .u64 (s2:Int)∧Hid (wx=W2))
   case first =>
    by_cases hk0:k=0
    ·have e3:s1=s2:=by have h:=HNx.out;have h2:=HS1.out;rw [if_pos hk0] at h;omega
     have e4:decide ((0:Int) < (k:Int))=false:=decide_eq_false (by omega)
     subst e3
     go_wp2_with fail
     go_meet
     exact ⟨rfl,hid rfl⟩
    ·have e3:s1+1=s2:=by have h:=HNx.out;have h2:=HS1.out;rw [if_neg hk0] at h;omega
     have e4:decide ((0:Int) < (k:Int))=true:=decide_eq_true (by omega)
     have e5:IntKind.u64.wrap ((s1:Int)+1)=(s2:Int):=by have:=HSb.out;have h2:=HS1.out;rw [wraps_u64 _ (by omega) (by omega)];omega
     clear e3
     go_wp2_with fail
     go_meet
     exact ⟨rfl,hid rfl⟩
   case rest =>
    obtain ⟨rfl,hwc⟩:=hcut
    have hw:=hwc.out.symm
    subst hw
    clear hwc
    go_wp2_with (go_at_call 52;refine HAdd.out.mono ?_;rintro e w3 ⟨rfl,hj3⟩;have HJ3:=hid hj3.out;clear hj3)
    go_roundw
    case rel =>
     first
      | exact ⟨k+1,s2,by omega,rfl,by go_num,HS2,HJ3⟩
      | (
        repeat apply Exists.intro
        refine ⟨?_,rfl⟩
        exact ⟨k+1,s2,by omega,rfl,by go_num,HS2,HJ3⟩)
    case measure=>simp [Go.RowKit.intOf];omega
  ·obtain rfl:M=k:=by omega
   go_wp2
   go_ret
   exact ⟨_,rfl,HJ⟩
end
end
end Go.Proofs.YtnlokpakiambaaaGreatDoor
