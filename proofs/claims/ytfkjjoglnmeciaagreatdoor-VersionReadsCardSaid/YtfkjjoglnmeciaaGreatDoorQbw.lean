/- The walks and laws that the claim leans on, part 49. -/
import Derived.Test.YtfkjjoglnmeciaaGreatDoorQbu
set_option maxRecDepth 100000
set_option maxHeartbeats 16000000
namespace Go.Proofs.YtfkjjoglnmeciaaGreatDoor
open Go.Lib (hid)
section
open Go.RowKit Go.Maps
theorem KeepsFrom.of_chg {Z:Fp} {B:Nat} {W W':World} (h:Chg Z W W') (hZ:∀ k,Z k→k < B):KeepsFrom B W W' :=
 ⟨h.size,fun i o hB hi _=>(h.block i (Array.getElem?_eq_some_iff.1 hi).1 (fun hz=>by have:=hZ i hz;omega)).trans hi⟩
theorem KpC.of_chg {n:Nat} {Zb:Fp} {A B:World} (h:Chg Zb A B) (hn:n≤A.heap.size) (hZ:∀ k,Zb k→n≤k):KpC n Zb A B :=
 ⟨h.toBelow hn hZ,fun k o ho _ hz=>(h.block k (Array.getElem?_eq_some_iff.1 ho).1 hz).trans ho⟩
theorem vs_slots (p0:Tmp) (x:Nat × Bool × Nat × Nat) (t:Array Value):(#[p0].zip (vEnc x)).foldl (fun t (p,v)=>t.setIfInBounds p v) t=t.setIfInBounds p0 (.agg (vArr x)):=by
 simp [vEnc,vArr,Array.zip]
end
section
open Go.RowKit Go.Maps
section
variable {w0 w:World} {k gh:Nat} {rl:List RV} {z:HP}
theorem same_gen (hj:HsJ w0 k gh rl (vvs rl) z w) (i:Nat) (hi:i < rl.length) (xs:Nat) (xd:Bool) (xt xo:Nat) (st:Nat) (dl:Bool) (dt ol:Nat) (hk:rl.length≤1000) (h1:st=(rl[i]).v.st) (h2:dl=(rl[i]).v.dl) (h3:dt=(rl[i]).v.dt) (h4:ol=hdQ (vvs (rl.drop (i+1)))) :
  Calls Tryz.prog 42 #[.pointer (some ⟨gh,0,none⟩),vAgg xs xd xt xo, .int .i64 (i:Int)] w fun e w'=>e = .returned (.bool (decide (xs=st∧xd=dl∧xt=dt∧xo=ol)))∧Below w.heap.size w w':=by
 have hl:=rv_len hj.rd;obtain ⟨bb,hbb⟩:∃ bb,decide (xs=st∧xd=dl∧xt=dt∧xo=ol)=bb:=⟨_,rfl⟩
 have HT:Hid ((xs=st∧xd=dl∧xt=dt∧xo=ol)→bb=true):=hid (fun h=>by rw [← hbb];exact decide_eq_true h);have HF:Hid (¬ (xs=st∧xd=dl∧xt=dt∧xo=ol)→bb=false):=hid (fun h=>by rw [← hbb];exact decide_eq_false h);rw [hbb];clear hbb;obtain ⟨W1,hW1⟩:∃ W1,w.alloc (.cells #[.int .u64 (xs:Int), .bool xd, .int .u64 (xt:Int), .int .u64 (xo:Int)] 97)=W1:=⟨_,rfl⟩
 have hbx:=Blk.new w 97 #[.int .u64 (xs:Int), .bool xd, .int .u64 (xt:Int), .int .u64 (xo:Int)];have hB1:Below w.heap.size w (w.alloc (.cells #[.int .u64 (xs:Int), .bool xd, .int .u64 (xt:Int), .int .u64 (xo:Int)] 97)):=(Below.refl _ _).alloc (nL _) _;rw [hW1] at hbx hB1;have hj1:=hj.below_ hB1;obtain ⟨hil,gb,go,hA3,hgb,f0,f1,f2,f3,f4⟩:=rv_facts hj1.rd (k:=i) oM;have hv:=hist_at hj.hist i hi;have hdtz:=hv.dtz;have b1:W1.cell? ⟨gh,1,none⟩=some (.slice z.A z.n z.c):=hj1.blk.cell 1;obtain ⟨An,hAn⟩:∃ An,z.A=An:=⟨_,rfl⟩
 obtain ⟨n,hn⟩:∃ n,z.n=n:=⟨_,rfl⟩
 obtain ⟨c,hc⟩:∃ c,z.c=c:=⟨_,rfl⟩
 rw [hAn,hn,hc] at b1;rw [hn] at hl;rw [hAn] at hA3;have HNx:Hid ((i+1 < n∧W1.cell? ⟨gb,go+(i+1) * 5+2,none⟩=some (.int .u64 (ol:Int)))∨(¬ i+1 < n∧ol=0)):=hid (by
  by_cases h5:i+1 < n
  ·obtain ⟨hil',gb',go',hA3',_,_,_,e2,_⟩:=rv_facts hj1.rd (k:=i+1) oM
   rw [hAn,hA3] at hA3';injection hA3' with e1
   injection e1 with e1 e3
   subst e1 e3;refine .inl ⟨h5,?_⟩;rw [h4,hdQ_drop,List.getElem?_eq_getElem hil'];exact e2
  ·refine .inr ⟨h5,?_⟩
   rw [h4,hdQ_drop,List.getElem?_eq_none oM];rfl)
 have HDt:Hid (dl=false→∃ db dof:Nat,(rl[i]).B=some ⟨db,dof,none⟩∧0 < (rl[i]).nb∧db < W1.heap.size∧W1.cell? ⟨db,dof,none⟩=some (.int .u64 (dt:Int))):=hid (fun hdl=>by
  have h5:=hv.blen;rw [← h2,hdl,if_neg (by decide)] at h5;have h6:=nBlk_drop (rl[i]).v.p;obtain ⟨r1,_⟩:=hj1.rin (rl[i]) (List.getElem_mem hi);have h7:(rl[i]).v.bl.length=(rl[i]).nb:=by have:=r1.1;simpa [uCells] using this
  obtain ⟨hl0,db,dof,e1,e2,e3⟩:=u_facts r1 (k:=0) oM;refine ⟨db,dof,e1,oM,e2,?_⟩;rw [Nat.add_zero] at e3;have e0:(rl[i]).v.dt=(rl[i]).v.bl[0]:=by
   exact headD_get _ hl0
  rw [h3,e0];exact e3)
 have HDz:Hid (dl=true→dt=0):=hid (fun hdl=>by
  rw [← h2,hdl,← h3] at hdtz;exact of_decide_eq_true hdtz.symm)
 rw [← h1] at f0;rw [← h2] at f1;generalize rl[i]=r at *;obtain ⟨v,B,nb,cb,D,nd,cd⟩:=r;dsimp only at f0 f1 f2 f3 f4 HDt;generalize v.q=q at *;subst hA3;have v0:=hbx;have HW1:=hid hW1;have HB1:=hid hB1;have HK1:=hid hbx;have hghl:gh < w.heap.size:=hj.blk.lt;clear hv hdtz h1 h2 h3 h4 hj hj1 hbx hB1 hW1 v0 hAn hc;have hz0:(0:Int)≤(i:Int):=oM;have hz1:(i:Int) < (n:Int):=oM;unfold vAgg;obtain ⟨W2,hW2⟩:∃ W2,W1.alloc (.cells #[.int .u64 (st:Int), .bool dl, .int .u64 (q:Int), .slice B nb cb, .slice D nd cd] 101)=W2:=⟨_,rfl⟩
 have hb2:=Blk.new W1 101 #[.int .u64 (st:Int), .bool dl, .int .u64 (q:Int), .slice B nb cb, .slice D nd cd];have hB2:Below W1.heap.size W1 (W1.alloc (.cells #[.int .u64 (st:Int), .bool dl, .int .u64 (q:Int), .slice B nb cb, .slice D nd cd] 101)):=(Below.refl _ _).alloc (nL _) _;go_enter Tryz.func42,Tryz.ntmps42
 go_upto_region 1 with fail
 rw [HW1.out];rw [hW2] at hb2 hB2;have HW2:=hid hW2;have g0:W2.cell? ⟨W1.heap.size,0,none⟩=some (.int .u64 (st:Int)):=hb2.cell 0;have g1:W2.cell? ⟨W1.heap.size,1,none⟩=some (.bool dl):=hb2.cell 1;have g3:W2.cell? ⟨W1.heap.size,3,none⟩=some (.slice B nb cb):=hb2.cell 3;have hv2:=HK1.out.below hB2 HK1.out.lt;have v0:W2.cell? ⟨w.heap.size,0,none⟩=some (.int .u64 (xs:Int)):=hv2.cell 0;have v1:W2.cell? ⟨w.heap.size,1,none⟩=some (.bool xd):=hv2.cell 1;have v2:W2.cell? ⟨w.heap.size,2,none⟩=some (.int .u64 (xt:Int)):=hv2.cell 2;have v3:W2.cell? ⟨w.heap.size,3,none⟩=some (.int .u64 (xo:Int)):=hv2.cell 3;have hgl:gh < W1.heap.size:=Nat.lt_of_lt_of_le hghl HB1.out.size;have b2:W2.cell? ⟨gh,1,none⟩=some (.slice (some ⟨gb,go,none⟩) n c):=by
  rw [← b1];exact hB2.cell (p:=⟨gh,1,none⟩) hgl
 have HB2:=hid (HB1.out.trans (hB2.mono HB1.out.size));have HN2:Hid ((i+1 < n∧W2.cell? ⟨gb,go+(i+1) * 5+2,none⟩=some (.int .u64 (ol:Int)))∨(¬ i+1 < n∧ol=0)):=hid (HNx.out.imp (fun h=>⟨h.1,by rw [← h.2];exact hB2.cell (p:=⟨gb,go+(i+1) * 5+2,none⟩) hgb⟩) id);have HD2:Hid (dl=false→∃ db dof:Nat,B=some ⟨db,dof,none⟩∧0 < nb∧W2.cell? ⟨db,dof,none⟩=some (.int .u64 (dt:Int))):=hid (fun h=>by
  obtain ⟨db,dof,e1,e2,e3,e4⟩:=HDt.out h;refine ⟨db,dof,e1,e2,?_⟩;rw [← e4];exact hB2.cell (p:=⟨db,dof,none⟩) e3)
 have hneq:wrap64 ((i:Int)+1)=(i:Int)+1:=by rw [IntWalk.wrap64_in _ oM]
 clear hb2 hB2 hv2 hgl hW2 HDt HNx;go_upto_region 2 with fail
 rw [HW2.out];clear f0 f1 f2 f3 f4 b1;go_upto_if 24 with fail
 go_cut [8] from 25 to 33 (fun v wx=>v = .int .u64 (ol:Int)∧Hid (wx=W2))
 case first =>
  rcases HN2.out with ⟨h5,h6⟩ | ⟨h5,h6⟩
  ·have d1:(i:Int)+1 < (n:Int):=oM
   have d2:(0:Int)≤(i:Int)+1:=oM;have d3:((i:Int)+1).toNat=i+1:=oM;go_wp2_with fail
   go_meet;exact ⟨rfl,hid rfl⟩
  ·have d1:¬ (i:Int)+1 < (n:Int):=oM
   subst h6;go_wp2_with fail
   go_meet;exact ⟨rfl,hid rfl⟩
 case rest =>
  obtain ⟨rfl,hwc⟩:=hcut;have hw:=hwc.out.symm;subst hw;clear hwc HN2;cases dl
  ·obtain ⟨db,dof,rfl,hnb,hdc⟩:=HD2.out rfl
   have d1:(0:Int) < (nb:Int):=oM;clear HD2 HDz;go_wp2;all_goals
    go_ret;refine ⟨?_,HB2.out⟩;first
     | exact congrArg (fun b=>Ending.returned (.bool b)) (HT.out (by refine ⟨oM,by first | assumption | (cases xd <;> simp_all),oM,oM⟩)).symm
     | exact congrArg (fun b=>Ending.returned (.bool b)) (HF.out (by rintro ⟨q1,q2,q3,q4⟩;first | omega | (cases xd <;> simp_all))).symm
  ·have hdt:=HDz.out rfl
   subst hdt;clear HD2 HDz;go_wp2;all_goals
    go_ret;refine ⟨?_,HB2.out⟩;first
     | exact congrArg (fun b=>Ending.returned (.bool b)) (HT.out (by refine ⟨oM,by first | assumption | (cases xd <;> simp_all),oM,oM⟩)).symm
     | exact congrArg (fun b=>Ending.returned (.bool b)) (HF.out (by rintro ⟨q1,q2,q3,q4⟩;first | omega | (cases xd <;> simp_all))).symm
end
end
section
open Go.RowKit Go.Maps
theorem chL_at:∀ (rl:List RV) (i:Nat) (h:i < rl.length) (h2:i < (chL (vvs rl)).length),(chL (vvs rl))[i]=((rl[i]).v.st,(rl[i]).v.dl,(rl[i]).v.dt,hdQ (vvs (rl.drop (i+1))))
 | r :: t,0,_,_=>rfl
 | r :: t,i+1,h,h2=>chL_at t i (by simpa using h) (by simpa [vvs,chL] using h2)
structure VrW (gw d:Nat) (rl:List RV) (wc:World):Prop where
 h3:∀ W,Below wc.heap.size wc W→W.cell? ⟨gw,3,none⟩=some (.pointer (some ⟨d,0,none⟩))
 lk:∀ W,Below wc.heap.size wc W→Calls Tryz.prog 33 #[.pointer (some ⟨gw,0,none⟩), .int .i64 0] W fun e w'=>e = .returned (.int .u64 (hdQ (vvs rl):Int))∧w'=W.drew
 ch:∀ W,Below wc.heap.size wc W→∀ (gs gp:Nat),Blk W gs 83 #[.iface 59 (.pointer (some ⟨d,0,none⟩))]→Blk W gp 54 #[.int .u64 (hdQ (vvs rl):Int)]→∀ (Zb:Fp),(∀ k,Zb k→k < W.heap.size) →
  SeqStopsK Fence.wide 6 Tryz.prog 127 #[.pointer (some ⟨gs,0,none⟩), .pointer (some ⟨gp,0,none⟩)] vEnc (KpC wc.heap.size Zb) (fun xs=>xs=chL (vvs rl)) (fun pre=>pre <+: chL (vvs rl)) 4096 W
 rd:∀ W,Below wc.heap.size wc W→∀ i (hi:i < rl.length),Calls Tryz.prog 43 #[.iface 59 (.pointer (some ⟨d,0,none⟩)), .int .u64 ((rl[i]).v.q:Int)] W fun e w'=>e = .returned (.tuple #[vAgg (rl[i]).v.st (rl[i]).v.dl (rl[i]).v.dt (hdQ (vvs (rl.drop (i+1)))), .int .i64 0])∧Below W.heap.size W w'
 pl:∀ W,Below wc.heap.size wc W→∀ i (hi:i < rl.length),Calls Tryz.prog 45 #[.pointer (some ⟨gw,0,none⟩), .int .u64 ((rl[i]).v.q:Int)] W (RetPy W [wSt (rl[i]).v.st (rl[i]).v.dl,(rl[i]).v.dt,hdQ (vvs (rl.drop (i+1)))])
section
variable {a:DA} {L T K:Nat} {x:HA} {y:WA} {cs:Nat→CS} {f:Nat→Option Nat} {N m b0:Nat} {S:Fp} {cur:Nat→Nat} {wc:World} {rl:List RV}
theorem vrW_of (h:BW a L T K x y cs f N m b0 S cur wc) (hist:HistA K cs cur (vvs rl)) (hlink:cur 416=hdQ (vvs rl)) (hlen:rl.length≤4096):VrW y.g y.d rl wc:=by
 refine ⟨fun W hW=>(h.below hW).blk.cell 3,fun W hW=>?_,fun W hW gs gp hs hp Zb hZ=>chain_hist h.sd hW hist (by unfold vvs;rw [List.length_map];exact hlen) _ rfl gs gp hs hp Zb hZ,fun W hW i hi=>?_,fun W hW i hi=>?_⟩
 ·have h2:=linked_any (h.below hW) 0 (by decide)
  rw [show 416+0=416 from rfl,hlink] at h2;exact h2
 ·have hv:=hist_at hist i hi
  have h2:=vread_any (h.below hW).sd (rl[i]).v.q hv.nz.2;rw [hv.rd] at h2;exact h2
 ·have hv:=hist_at hist i hi
  obtain ⟨k,ii,h1,h0⟩:=hv.live;have h2:=payload_any (h.below hW) h1;rw [h0] at h2;have e:((List.range (payW 0)).map fun j=>cur (pOff (rl[i]).v.q / 8+j))=[wSt (rl[i]).v.st (rl[i]).v.dl,(rl[i]).v.dt,hdQ (vvs (rl.drop (i+1)))]:=by
   have w0:=hv.words 0 (by simp);have w1:=hv.words 1 (by simp);have w2:=hv.words 2 (by simp);show [cur (pOff (rl[i]).v.q / 8+0),cur (pOff (rl[i]).v.q / 8+1),cur (pOff (rl[i]).v.q / 8+2)]=_;rw [w0,w1,w2];rfl
  rw [e] at h2;exact h2
end
theorem HsJ.crash {w0 w:World} {k gh:Nat} {rl:List RV} {z:HP} (h:HsJ w0 k gh rl (vvs rl) z w) (hlen:rl.length≤4096) (A:Option Addr) (n c:Nat) :
  Calls Tryz.prog 29 #[.pointer (some ⟨z.y.g,0,none⟩), .slice A n c, .int .i64 (-1)] w fun e w'=>∃ gw d,e = .returned (.pointer (some ⟨gw,0,none⟩))∧VrW gw d rl w'∧Below w.heap.size w w':=by
 refine (worldCrash_any h.bw z.b0 ⟨nL _,Nat.le_trans h.ord.1.b (Nat.le_of_lt h.blk.lt)⟩ A n c).mono ?_;rintro e w' ⟨a',S',x',y',rfl,hbw,hb⟩;exact ⟨y'.g,y'.d,rfl,vrW_of hbw h.hist h.link hlen,hb⟩
section
theorem refWord_any (st:Nat) (dl:Bool) (q:Nat) (B D:Option Addr) (nb cb nd cd:Nat) (w:World) (hst:st≤4611686018427387903) :
  Calls Tryz.prog 46 #[.agg #[.int .u64 (st:Int), .bool dl, .int .u64 (q:Int), .slice B nb cb, .slice D nd cd]] w fun e w'=>e = .returned (.int .u64 (wSt st dl:Int))∧Below w.heap.size w w':=by
 have hb1:Below w.heap.size w (w.alloc (.cells #[.int .u64 (st:Int), .bool dl, .int .u64 (q:Int), .slice B nb cb, .slice D nd cd] 101)):=(Below.refl _ _).alloc (nL _) _;have HB1:=hid hb1;have u1:IntKind.u64.wrap (2 * (st:Int))=2 * (st:Int):=by rw [IntKind.wrap_u64];omega
 have u2:IntKind.u64.wrap (2 * (st:Int)+1)=2 * (st:Int)+1:=by rw [IntKind.wrap_u64];omega
 clear hb1;have HW:Hid ((wSt st true:Int)=2 * (st:Int)+1∧(wSt st false:Int)=2 * (st:Int)):=hid (by unfold wSt;simp);cases dl
 ·go_enter Tryz.func46,Tryz.ntmps46
  go_wp2;go_ret;exact ⟨(congrArg (fun z:Int=>Ending.returned (.int .u64 z)) HW.out.2).symm,HB1.out⟩
 ·go_enter Tryz.func46,Tryz.ntmps46
  go_wp2;go_ret;exact ⟨(congrArg (fun z:Int=>Ending.returned (.int .u64 z)) HW.out.1).symm,HB1.out⟩
end
end
end Go.Proofs.YtfkjjoglnmeciaaGreatDoor
