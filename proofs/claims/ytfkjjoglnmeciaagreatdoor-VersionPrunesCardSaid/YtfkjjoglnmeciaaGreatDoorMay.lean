/- part 25 -/
import Derived.Test.YtfkjjoglnmeciaaGreatDoorMax
set_option maxRecDepth 100000
set_option maxHeartbeats 16000000
namespace Go.Proofs.YtfkjjoglnmeciaaGreatDoor
open Go.Lib (hid)
section
open Go.RowKit Go.Maps
section
variable {a:DA} {L T s n K:Nat} {x:HA} {cs:Nat->CS} {f:Nat->Option Nat} {N m b0:Nat} {S:Fp} {cur:Nat->Nat} {w w':World} {d r:Nat}
theorem w7p {p kind:Nat} (hc:chkR s K cs p kind=0):(∃ k i,At s K cs p k i)/\p≠0:=by
 unfold chkR at hc;by_cases h0:p=0
 ·rw [if_pos h0] at hc
  cases hc
 rw [if_neg h0] at hc;by_cases h1:p / 72057594037927936≠0
 ·rw [if_pos h1] at hc
  cases hc
 rw [if_neg h1] at hc;cases hh:z3m s K (pOff p) with
 | none=>rw [hh] at hc;cases hc
 | some k =>
  rw [hh] at hc;by_cases h2:(cs k).dv=true
  ·have Ga:(if (blkR (s+32 * k) (cs k).cl (cs k).bs p).2≠0 then (blkR (s+32 * k) (cs k).cl (cs k).bs p).2 else if kind≠0/\kind≠z1t p then 13 else 0)=0:=by
    have h3:(if (cs k).dv=true then (if (blkR (s+32 * k) (cs k).cl (cs k).bs p).2≠0 then (blkR (s+32 * k) (cs k).cl (cs k).bs p).2 else if kind≠0/\kind≠z1t p then 13 else 0) else 2)=0:=hc;rw [if_pos h2] at h3;exact h3
   by_cases h4:(blkR (s+32 * k) (cs k).cl (cs k).bs p).2≠0
   ·rw [if_pos h4] at Ga
    exact absurd Ga h4
   ·unfold blkR at h4
    rw [if_neg h0] at h4;cases hf:fndC (s+32 * k) (cs k).cl (pOff p) with
    | none=>rw [hf] at h4;exact absurd (show (2:Nat)≠0 by decide) h4
    | some i =>
     obtain ⟨g1,g2,g3⟩:=y6p hf;refine ⟨⟨k,i,(y9d hh).1,h2,g1,?_⟩,h0⟩;have h8:pOff p % 8=0:=by unfold pOff;omega
     unfold offO blkO;omega
  ·have h3:(if (cs k).dv=true then (if (blkR (s+32 * k) (cs k).cl (cs k).bs p).2≠0 then (blkR (s+32 * k) (cs k).cl (cs k).bs p).2 else if kind≠0/\kind≠z1t p then 13 else 0) else 2)=0:=hc
   rw [if_neg h2] at h3;cases h3
def verR (cur:Nat->Nat) (chk:Nat->Nat) (p:Nat):Nat × Nat × Bool × Nat × Nat :=
 if chk p≠0 then (chk p,0,false,0,0) else
 if z4p (cur (pOff p / 8) / 2) (decide (cur (pOff p / 8) % 2=1)) (cur (pOff p / 8+1))=true then (0,cur (pOff p / 8) / 2,decide (cur (pOff p / 8) % 2=1),cur (pOff p / 8+1),cur (pOff p / 8+2)) else (11,0,false,0,0)
def z5g (w:World) (R:Nat × Nat × Bool × Nat × Nat) (e:Ending) (w':World):Prop:=e=.returned (.tuple #[vAgg R.2.1 R.2.2.1 R.2.2.2.1 R.2.2.2.2,.int .i64 R.1])/\Blw w w'
theorem y8o (p : Addr) (w : World) : (nilAhead 640 59 (.pointer (some p)) "Load").run Tryz.prog w=.ok (some false) w := by kernel_rfl
theorem x9n (h:SD a L T s n K x cs f N m b0 S cur w d r) (p:Nat) (hp64:p < 18446744073709551616) (hc:chkR s K cs p 7≠0) :
  Calls Tryz.prog 43 #[.iface 59 (.pointer (some ⟨d,0,none⟩)),.int .u64 p] w fun e w'=>e=.returned (.tuple #[vAgg 0 false 0 0,.int .i64 (chkR s K cs p 7:Int)])/\Blw w w':=by
 have Gb:Hid (Blw w (w.alloc (.cells #[.int .u64 0,.bool false,.int .u64 0,.int .u64 0] 97))):=hid ((Below.refl _ _).alloc (nL _) _);have Ge:=hid (Blk.new w 97 #[.int .u64 0,.bool false,.int .u64 0,.int .u64 0]);have HC:=hid (x0y (h.below Gb.out) p 7 hp64 oM);rw [show ((7:Nat):Int)=7 from rfl] at HC;have Gd:=hid (errD (h.below Gb.out).ds.dev ((h.below Gb.out).dir));have Gk:=z3b (some ⟨d,0,none⟩);have Gj:=z6h (some ⟨d,0,none⟩);have Gi:∀ W,(binOp .eql 83 (.iface 59 (.pointer (some ⟨d,0,none⟩))) .nilIface).run Tryz.prog W=.ok (.bool false) W:=fun W=>by rfl
 obtain ⟨v,hv⟩:∃ v,chkR s K cs p 7=v:=⟨_,rfl⟩
 rw [hv] at HC hc ⊢;have d1:((v:Int) != 0)=true:=by rw [bne,beq_eq_false_iff_ne.2 oM];rfl
 clear h hv hc;unfold vAgg;go_enter Tryz.func43,Tryz.ntmps43
 go_wp2_with (first
  | (go_at_call 432;refine Gd.out.mono ?_;rintro e w1 ⟨rfl,rfl⟩)
  | (go_at_call 431;refine HC.out.mono ?_;rintro e w1 ⟨rfl,Gf⟩;have Gc:=hid Gf;clear Gf;refine stop ?_))
 unfold Stop;have Ga:=Ge.out.below Gc.out Ge.out.lt;have Gg:=hid (Gb.out.trans (Gc.out.mono Gb.out.size));have c0:w1.cell? ⟨w.heap.size,0,none⟩=some (.int .u64 0):=Ga.cell 0;have z0:w1.frozen? ⟨w.heap.size,0,none⟩=false:=Ga.frozen 0;have c1:w1.cell? ⟨w.heap.size,1,none⟩=some (.bool false):=Ga.cell 1;have z1:w1.frozen? ⟨w.heap.size,1,none⟩=false:=Ga.frozen 1;have c2:w1.cell? ⟨w.heap.size,2,none⟩=some (.int .u64 0):=Ga.cell 2;have z2:w1.frozen? ⟨w.heap.size,2,none⟩=false:=Ga.frozen 2;have c3:w1.cell? ⟨w.heap.size,3,none⟩=some (.int .u64 0):=Ga.cell 3;have z3:w1.frozen? ⟨w.heap.size,3,none⟩=false:=Ga.frozen 3;have Gh:w.heap.size < w1.heap.size:=Ga.lt;clear Ga HC Gd;go_wp2;have Gl:(⟨w.heap.size,0,none⟩:Addr)≠⟨w.heap.size,1,none⟩:=by simp
 have Gm:(⟨w.heap.size,0,none⟩:Addr)≠⟨w.heap.size,2,none⟩:=by simp
 have Gn:(⟨w.heap.size,0,none⟩:Addr)≠⟨w.heap.size,3,none⟩:=by simp
 have Go:(⟨w.heap.size,1,none⟩:Addr)≠⟨w.heap.size,2,none⟩:=by simp
 have Gp:(⟨w.heap.size,1,none⟩:Addr)≠⟨w.heap.size,3,none⟩:=by simp
 have Gq:(⟨w.heap.size,2,none⟩:Addr)≠⟨w.heap.size,3,none⟩:=by simp
 refine bodyPost_ret (v := .tuple #[.agg #[.int .u64 0,.bool false,.int .u64 0,.int .u64 0],.int .i64 v]) (by simp [results,Tryz.results43,go_sem,c0,c1,c2,c3,Gh]) rfl ⟨rfl,?_⟩;have h1:=((((Gg.out.setCell (p:=⟨w.heap.size,0,none⟩) (nL _) (.int .u64 0)).setCell (p:=⟨w.heap.size,1,none⟩) (nL _) (.bool false)).setCell (p:=⟨w.heap.size,2,none⟩) (nL _) (.int .u64 0)).setCell (p:=⟨w.heap.size,3,none⟩) (nL _) (.int .u64 0))
 first | exact h1 | exact h1.alloc h1.size _
theorem w4r (x:Nat) (hx:x < 18446744073709551616):bits .and .u64 (x:Int) 1=((x % 2:Nat):Int):=by
 have h1:=u64_and_nat x 1 hx oM;rw [show ((1:Nat):Int)=1 from rfl] at h1;rw [h1,show (1:Nat)=2 ^ 1 - 1 from rfl,Nat.and_two_pow_sub_one_eq_mod]
theorem w3i (h:SD a L T s n K x cs f N m b0 S cur w d r) (p:Nat) (hp64:p < 18446744073709551616) (hc:chkR s K cs p 7=0) :
  Calls Tryz.prog 43 #[.iface 59 (.pointer (some ⟨d,0,none⟩)),.int .u64 p] w (z5g w (verR cur (fun q=>chkR s K cs q 7) p)):=by
 have Gk:Hid (Blw w (w.alloc (.cells #[.int .u64 0,.bool false,.int .u64 0,.int .u64 0] 97))):=hid ((Below.refl _ _).alloc (nL _) _);have G4:=hid (Blk.new w 97 #[.int .u64 0,.bool false,.int .u64 0,.int .u64 0]);have HC:=hid (x0y (h.below Gk.out) p 7 hp64 oM);rw [show ((7:Nat):Int)=7 from rfl,hc,show ((0:Nat):Int)=0 from rfl] at HC;have G2:Hid (∀ W,Blw w W->Calls Tryz.prog 432 #[.pointer (some ⟨d,0,none⟩)] W fun e w'=>e=.returned (.int .i64 0)/\W=w'):=hid (fun W hW=>errD (h.below hW).ds.dev ((h.below hW).dir));have G1:=hid (G2.out _ Gk.out);obtain ⟨⟨k,i,G7⟩,hp0⟩:=w7p hc;have GG:=G7.inL h.ds;have GJ:3<=payW (cs k).cl:=by
  rcases (cs k).cl with _ | _ | _ | _ | _ <;> simp [payW]
 have Gj:Hid (∀ (y:Nat) (W:World),y < 3->Calls Tryz.prog 49 #[.int .u64 p,.int .i64 y] W fun e w'=>e=.returned (.int .u64 ((pOff p+8 * y:Nat):Int))/\W=w'):=hid (fun y W hy=>by
  have h1:=z8w p y oM W;have h2:pAt p y=pOff p+8 * y:=by unfold pAt;rw [if_neg oM]
  rw [h2] at h1;exact h1)
 have Gm:Hid (∀ (y:Nat) (W:World),y < 3->Blw w W->Calls Tryz.prog 435 #[.pointer (some ⟨d,0,none⟩),.int .u64 ((pOff p+8 * y:Nat):Int)] W (fun e w'=>e=.returned (.int .u64 (cur (pOff p / 8+y):Int))/\W=w')):=hid (fun y W hy hW=>w8e (h.below hW).ds.dev ((h.below hW).dir) (pOff p+8 * y) _ oM oM (by congr 1;omega));have Gp:Hid (∀ W,Calls Tryz.prog 49 #[.int .u64 p,.int .i64 0] W fun e w'=>e=.returned (.int .u64 ((pOff p+8 * 0:Nat):Int))/\W=w'):=hid (fun W=>Gj.out 0 W oM);have Gq:Hid (∀ W,Calls Tryz.prog 49 #[.int .u64 p,.int .i64 1] W fun e w'=>e=.returned (.int .u64 ((pOff p+8 * 1:Nat):Int))/\W=w'):=hid (fun W=>Gj.out 1 W oM);have Gg:Hid (∀ W,Calls Tryz.prog 49 #[.int .u64 p,.int .i64 2] W fun e w'=>e=.returned (.int .u64 ((pOff p+8 * 2:Nat):Int))/\W=w'):=hid (fun W=>Gj.out 2 W oM);obtain ⟨v0,Go⟩:∃ v0,cur (pOff p / 8)=v0:=⟨_,rfl⟩
 obtain ⟨v1,Gy⟩:∃ v1,cur (pOff p / 8+1)=v1:=⟨_,rfl⟩
 obtain ⟨v2,Gz⟩:∃ v2,cur (pOff p / 8+2)=v2:=⟨_,rfl⟩
 have Gi:v0 < 18446744073709551616:=by rw [<- Go];exact h.ds.bnd _
 have Gu:Hid (∀ W,Blw w W->Calls Tryz.prog 435 #[.pointer (some ⟨d,0,none⟩),.int .u64 ((pOff p+8 * 0:Nat):Int)] W (fun e w'=>e=.returned (.int .u64 v0)/\W=w')):=hid (fun W hW=>by have h1:=Gm.out 0 W oM hW;rw [show cur (pOff p / 8+0)=v0 from Go] at h1;exact h1);have Gl:Hid (∀ W,Blw w W->Calls Tryz.prog 435 #[.pointer (some ⟨d,0,none⟩),.int .u64 ((pOff p+8 * 1:Nat):Int)] W (fun e w'=>e=.returned (.int .u64 v1)/\W=w')):=hid (fun W hW=>by have h1:=Gm.out 1 W oM hW;rw [Gy] at h1;exact h1);have Gf:Hid (∀ W,Blw w W->Calls Tryz.prog 435 #[.pointer (some ⟨d,0,none⟩),.int .u64 ((pOff p+8 * 2:Nat):Int)] W (fun e w'=>e=.returned (.int .u64 v2)/\W=w')):=hid (fun W hW=>by have h1:=Gm.out 2 W oM hW;rw [Gz] at h1;exact h1);generalize pOff p+8 * 0=o0 at Gp Gu;generalize pOff p+8 * 1=o1 at Gq Gl;generalize pOff p+8 * 2=o2 at Gg Gf;have HR:Hid (verR cur (fun q=>chkR s K cs q 7) p=if z4p (v0 / 2) (decide (v0 % 2=1)) v1=true then (0,v0 / 2,decide (v0 % 2=1),v1,v2) else (11,0,false,0,0)):=hid (by
  unfold verR;rw [if_neg (fun hn=>hn hc),Go,Gy,Gz])
 have GM:=z3b (some ⟨d,0,none⟩);have GH:=z6h (some ⟨d,0,none⟩);have GN:=y7j (some ⟨d,0,none⟩);have GP:=y8o ⟨d,0,none⟩;have GO:∀ (fn:Fn) (first cap:Array Value) (w:World),(Instr.makeFunc fn first cap).run Tryz.prog w=.ok (.func fn first cap) w:=fun _ _ _ _=>rfl
 have GI:∀ W,(binOp .eql 83 (.iface 59 (.pointer (some ⟨d,0,none⟩))) .nilIface).run Tryz.prog W=.ok (.bool false) W:=fun W=>by rfl
 clear h hc G7 hp0 GG GJ Go Gy Gz Gj Gm;go_enter Tryz.func43,Tryz.ntmps43
 go_wp2_with (first
  | (go_at_call 432;refine G1.out.mono ?_;rintro e w1 ⟨rfl,rfl⟩)
  | (go_at_call 431;refine HC.out.mono ?_;rintro e w1 ⟨rfl,Gw⟩;have Gr:=hid (Gk.out.trans (Gw.mono Gk.out.size));have G5:=hid (G4.out.below Gw G4.out.lt);clear Gw;refine stop ?_))
 unfold Stop;go_upto_region 9 with fail
 refine z0g (fun w'=>w'=w1.drew) 8 [] [(1,0),(1,1),(1,3),(1,4),(1,5),(0,2),(0,6),(1,7)] (by kernel_rfl) (by kernel_rfl) rfl ?_;refine tkG (.iface 59 (.pointer (some ⟨d,0,none⟩))) ?_;refine tkG (.int .u64 p) ?_;refine tkH (.func (.method "Load") #[.iface 59 (.pointer (some ⟨d, 0, none⟩))] #[]) (fun w' hS => ?_) ?_
 ·go_simp
 refine tkH (.func (.method "Load") #[.iface 59 (.pointer (some ⟨d, 0, none⟩))] #[]) (fun w' hS => ?_) ?_
 ·go_simp
 refine tkG (.iface 59 (.pointer (some ⟨d,0,none⟩))) ?_;refine z0b (by rfl) ?_;go_wp2_with (go_at_call 49;refine (Gp.out _).mono ?_;rintro e w2 ⟨rfl,rfl⟩)
 refine ⟨rfl,?_⟩;refine z0b (by rfl) ?_;go_wp2_with (go_at_call 435;refine (Gu.out _ Gr.out.drew).mono ?_;rintro e w2 ⟨rfl,rfl⟩)
 refine ⟨rfl,?_⟩;refine tkG (.int .u64 v0) ?_;show wpList _ _ _ _ _ _;simp only [List.drop_succ_cons,List.drop_zero];go_wp2_with fail
 refine NoPanic.normal ?_;have Ga:=hid Gr.out.drew;have Gt:=hid G5.out.drew;clear G5 Gr HC G1 GH Gp Gu;generalize w1.drew=w2 at *;obtain ⟨sp,GE⟩:∃ sp,v0 / 2=sp:=⟨_,rfl⟩
 obtain ⟨b2,G8⟩:∃ b2,v0 % 2=b2:=⟨_,rfl⟩
 have Gv:=w4r v0 Gi;have GQ:(v0:Int) / 2=(sp:Int):=oM;obtain ⟨bb,Gx⟩:∃ bb,decide (b2=1)=bb:=⟨_,rfl⟩
 have GF:((b2:Int) == 1)=bb:=by
  rw [<- Gx];by_cases h1:b2=1
  ·rw [decide_eq_true h1,beq_iff_eq];omega
  ·rw [decide_eq_false h1,beq_eq_false_iff_ne];omega
 rw [G8] at Gv HR;rw [Gx,GE] at HR;clear GE G8 Gx Gi;have GK:Hid (Blw w (w2.alloc (.cells #[.int .u64 0,.bool false,.int .u64 0,.int .u64 0] 97))):=hid (Ga.out.alloc Ga.out.size _);have Gb:=Blk.new w2 97 #[.int .u64 0,.bool false,.int .u64 0,.int .u64 0];have n0:(w2.alloc (.cells #[.int .u64 0,.bool false,.int .u64 0,.int .u64 0] 97)).frozen? ⟨w2.heap.size,0,none⟩=false:=Gb.frozen 0;have n1:(w2.alloc (.cells #[.int .u64 0,.bool false,.int .u64 0,.int .u64 0] 97)).frozen? ⟨w2.heap.size,1,none⟩=false:=Gb.frozen 1;have n2:(w2.alloc (.cells #[.int .u64 0,.bool false,.int .u64 0,.int .u64 0] 97)).frozen? ⟨w2.heap.size,2,none⟩=false:=Gb.frozen 2;have n3:(w2.alloc (.cells #[.int .u64 0,.bool false,.int .u64 0,.int .u64 0] 97)).frozen? ⟨w2.heap.size,3,none⟩=false:=Gb.frozen 3;clear Gb;have Gd:Blw w2 (w2.alloc (.cells #[.int .u64 sp,.bool bb,.int .u64 v1,.int .u64 v2] 97)).drew:=((Below.refl w2.heap.size w2).alloc (nL _) _).drew
 have HQ:Hid (Blk (w2.alloc (.cells #[.int .u64 sp,.bool bb,.int .u64 v1,.int .u64 v2] 97)).drew w2.heap.size 97 #[.int .u64 sp,.bool bb,.int .u64 v1,.int .u64 v2]/\w.heap.size < w2.heap.size/\Blk (w2.alloc (.cells #[.int .u64 sp,.bool bb,.int .u64 v1,.int .u64 v2] 97)).drew w.heap.size 97 #[.int .u64 0,.bool false,.int .u64 0,.int .u64 0]/\Blw w (w2.alloc (.cells #[.int .u64 sp,.bool bb,.int .u64 v1,.int .u64 v2] 97)).drew):=hid ⟨(Blk.new w2 97 #[.int .u64 sp,.bool bb,.int .u64 v1,.int .u64 v2]).drew,Gt.out.lt,Gt.out.below Gd Gt.out.lt,Ga.out.trans (Gd.mono Ga.out.size)⟩;clear Gd;go_upto_region 10 with fail
 go_cut [9] from 34 to 53 (fun v wx=>∃ g9,v=.pointer (some ⟨g9,0,none⟩)/\Hid (Blk wx g9 97 #[.int .u64 sp,.bool bb,.int .u64 v1,.int .u64 v2]/\w.heap.size < g9/\Blk wx w.heap.size 97 #[.int .u64 0,.bool false,.int .u64 0,.int .u64 0]/\Blw w wx))
 case first =>
  refine z2g (fun _=>True) 22 7 [0,1,2,3,4,5,6,8,9,10,12,13,15,16,17] (by kernel_rfl) (by kernel_rfl) (by rfl) (by rfl) trivial ?_;intro ops HO;refine z0e HO.out (.int .u64 v0) (by rfl) (by rfl) (fun w' hS=>?_) ?_
  ·go_simp
  simp only [Act.put,zD,zE,zF];refine z0e HO.out (.int .u64 sp) (by rfl) (by rfl) (fun w' hS=>?_) ?_
  ·go_simp
  simp only [Act.put,zD,zE,zF];refine z0e HO.out (.int .u64 v0) (by rfl) (by rfl) (fun w' hS=>?_) ?_
  ·go_simp
  simp only [Act.put,zD,zE,zF];refine z0e HO.out (.int .u64 b2) (by rfl) (by rfl) (fun w' hS=>?_) ?_
  ·go_simp
  simp only [Act.put,zD,zE,zF];refine z0e HO.out (.bool bb) (by rfl) (by rfl) (fun w' hS=>?_) ?_
  ·go_simp
  simp only [Act.put,zD,zE,zF];refine z0e HO.out (.iface 59 (.pointer (some ⟨d,0,none⟩))) (by rfl) (by rfl) (fun w' hS=>?_) ?_
  ·go_simp
  simp only [Act.put,zD,zE,zF];refine z0e HO.out (.int .u64 p) (by rfl) (by rfl) (fun w' hS=>?_) ?_
  ·go_simp
  simp only [Act.put,zD,zE,zF];refine z0e HO.out (.func (.method "Load") #[.iface 59 (.pointer (some ⟨d, 0, none⟩))] #[]) (by rfl) (by rfl) (fun w' hS => ?_) ?_
  ·go_simp
  simp only [Act.put,zD,zE,zF];refine z0e HO.out (.func (.method "Load") #[.iface 59 (.pointer (some ⟨d, 0, none⟩))] #[]) (by rfl) (by rfl) (fun w' hS => ?_) ?_
  ·go_simp
  simp only [Act.put,zD,zE,zF];refine z0e HO.out (.iface 59 (.pointer (some ⟨d,0,none⟩))) (by rfl) (by rfl) (fun w' hS=>?_) ?_
  ·go_simp
  simp only [Act.put,zD,zE,zF];refine z0e HO.out (.iface 59 (.pointer (some ⟨d,0,none⟩))) (by rfl) (by rfl) (fun w' hS=>?_) ?_
  ·go_simp
  simp only [Act.put,zD,zE,zF];refine z0e HO.out (.int .u64 p) (by rfl) (by rfl) (fun w' hS=>?_) ?_
  ·go_simp
  simp only [Act.put,zD,zE,zF];refine z0e HO.out (.func (.method "Load") #[.iface 59 (.pointer (some ⟨d, 0, none⟩))] #[]) (by rfl) (by rfl) (fun w' hS => ?_) ?_
  ·go_simp
  simp only [Act.put,zD,zE,zF];refine z0e HO.out (.func (.method "Load") #[.iface 59 (.pointer (some ⟨d, 0, none⟩))] #[]) (by rfl) (by rfl) (fun w' hS => ?_) ?_
  ·go_simp
  simp only [Act.put,zD,zE,zF];refine z0e HO.out (.iface 59 (.pointer (some ⟨d,0,none⟩))) (by rfl) (by rfl) (fun w' hS=>?_) ?_
  ·go_simp
  simp only [Act.put,zD,zE,zF];refine z1n HO.out (i:=7) (j:=20) (by kernel_rfl) (by rfl) (by rfl) ?_ ?_
  ·go_wp2_with (go_at_call 49;refine (Gq.out _).mono ?_;rintro e w3 ⟨rfl,rfl⟩)
   refine ⟨trivial,?_⟩;refine z1n HO.out (i:=11) (j:=20) (by kernel_rfl) (by rfl) (by rfl) ?_ ?_
   ·go_wp2_with (go_at_call 435;refine (Gl.out _ Ga.out.drew).mono ?_;rintro e w3 ⟨rfl,rfl⟩)
    refine ⟨trivial,?_⟩;refine z1n HO.out (i:=14) (j:=20) (by kernel_rfl) (by rfl) (by rfl) ?_ ?_
    ·go_wp2_with (go_at_call 49;refine (Gg.out _).mono ?_;rintro e w3 ⟨rfl,rfl⟩)
     refine ⟨trivial,?_⟩;refine z1n HO.out (i:=18) (j:=20) (by kernel_rfl) (by rfl) (by rfl) ?_ ?_
     ·go_wp2_with (go_at_call 435;refine (Gf.out _ Ga.out.drew).mono ?_;rintro e w3 ⟨rfl,rfl⟩)
      refine ⟨trivial,?_⟩;refine z1n HO.out (i:=19) (j:=20) (by kernel_rfl) (by rfl) (by rfl) ?_ ?_
      ·go_wp2_with fail
       refine ⟨trivial,?_⟩;refine z0f HO.out (i:=20) (by kernel_rfl) (by rfl) ?_;go_wp2_with fail
       refine ⟨trivial,?_⟩;refine z0f HO.out (i:=21) (by kernel_rfl) (by rfl) ?_;go_wp2_with fail
       refine ⟨trivial,?_⟩;refine z1a HO.out (by kernel_rfl) ?_;refine NoPanic.normal ?_;go_wp2_with fail
       go_meet;exact ⟨_,rfl,HQ⟩
      ·go_wp2_with fail
       refine ⟨trivial,?_⟩;refine z0f HO.out (i:=19) (by kernel_rfl) (by rfl) ?_;go_wp2_with fail
       refine ⟨trivial,?_⟩;refine z0f HO.out (i:=21) (by kernel_rfl) (by rfl) ?_;go_wp2_with fail
       refine ⟨trivial,?_⟩;refine z1a HO.out (by kernel_rfl) ?_;refine NoPanic.normal ?_;go_wp2_with fail
       go_meet;exact ⟨_,rfl,HQ⟩
     ·go_wp2_with fail
      refine ⟨trivial,?_⟩;refine z0f HO.out (i:=18) (by kernel_rfl) (by rfl) ?_;go_wp2_with (go_at_call 435;refine (Gf.out _ (Ga.out.drew.alloc Ga.out.drew.size _)).mono ?_;rintro e w3 ⟨rfl,rfl⟩)
      refine ⟨trivial,?_⟩;refine z0f HO.out (i:=19) (by kernel_rfl) (by rfl) ?_;go_wp2_with fail
      refine ⟨trivial,?_⟩;refine z0f HO.out (i:=21) (by kernel_rfl) (by rfl) ?_;go_wp2_with fail
      refine ⟨trivial,?_⟩;refine z1a HO.out (by kernel_rfl) ?_;refine NoPanic.normal ?_;go_wp2_with fail
      go_meet;exact ⟨_,rfl,HQ⟩
    ·go_wp2_with fail
     refine ⟨trivial,?_⟩;refine z0f HO.out (i:=14) (by kernel_rfl) (by rfl) ?_;go_wp2_with (go_at_call 49;refine (Gg.out _).mono ?_;rintro e w3 ⟨rfl,rfl⟩)
     refine ⟨trivial,?_⟩;refine z0f HO.out (i:=18) (by kernel_rfl) (by rfl) ?_;go_wp2_with (go_at_call 435;refine (Gf.out _ (Ga.out.drew.alloc Ga.out.drew.size _)).mono ?_;rintro e w3 ⟨rfl,rfl⟩)
     refine ⟨trivial,?_⟩;refine z0f HO.out (i:=19) (by kernel_rfl) (by rfl) ?_;go_wp2_with fail
     refine ⟨trivial,?_⟩;refine z0f HO.out (i:=21) (by kernel_rfl) (by rfl) ?_;go_wp2_with fail
     refine ⟨trivial,?_⟩;refine z1a HO.out (by kernel_rfl) ?_;refine NoPanic.normal ?_;go_wp2_with fail
     go_meet;exact ⟨_,rfl,HQ⟩
   ·go_wp2_with fail
    refine ⟨trivial,?_⟩;refine z0f HO.out (i:=11) (by kernel_rfl) (by rfl) ?_;go_wp2_with (go_at_call 435;refine (Gl.out _ (Ga.out.drew.alloc Ga.out.drew.size _)).mono ?_;rintro e w3 ⟨rfl,rfl⟩)
    refine ⟨trivial,?_⟩;refine z0f HO.out (i:=14) (by kernel_rfl) (by rfl) ?_;go_wp2_with (go_at_call 49;refine (Gg.out _).mono ?_;rintro e w3 ⟨rfl,rfl⟩)
    refine ⟨trivial,?_⟩;refine z0f HO.out (i:=18) (by kernel_rfl) (by rfl) ?_;go_wp2_with (go_at_call 435;refine (Gf.out _ (Ga.out.drew.alloc Ga.out.drew.size _)).mono ?_;rintro e w3 ⟨rfl,rfl⟩)
    refine ⟨trivial,?_⟩;refine z0f HO.out (i:=19) (by kernel_rfl) (by rfl) ?_;go_wp2_with fail
    refine ⟨trivial,?_⟩;refine z0f HO.out (i:=21) (by kernel_rfl) (by rfl) ?_;go_wp2_with fail
    refine ⟨trivial,?_⟩;refine z1a HO.out (by kernel_rfl) ?_;refine NoPanic.normal ?_;go_wp2_with fail
    go_meet;exact ⟨_,rfl,HQ⟩
  ·go_wp2_with fail
   refine ⟨trivial,?_⟩;refine z0f HO.out (i:=7) (by kernel_rfl) (by rfl) ?_;go_wp2_with (go_at_call 49;refine (Gq.out _).mono ?_;rintro e w3 ⟨rfl,rfl⟩)
   refine ⟨trivial,?_⟩;refine z0f HO.out (i:=11) (by kernel_rfl) (by rfl) ?_;go_wp2_with (go_at_call 435;refine (Gl.out _ (Ga.out.drew.alloc Ga.out.drew.size _)).mono ?_;rintro e w3 ⟨rfl,rfl⟩)
   refine ⟨trivial,?_⟩;refine z0f HO.out (i:=14) (by kernel_rfl) (by rfl) ?_;go_wp2_with (go_at_call 49;refine (Gg.out _).mono ?_;rintro e w3 ⟨rfl,rfl⟩)
   refine ⟨trivial,?_⟩;refine z0f HO.out (i:=18) (by kernel_rfl) (by rfl) ?_;go_wp2_with (go_at_call 435;refine (Gf.out _ (Ga.out.drew.alloc Ga.out.drew.size _)).mono ?_;rintro e w3 ⟨rfl,rfl⟩)
   refine ⟨trivial,?_⟩;refine z0f HO.out (i:=19) (by kernel_rfl) (by rfl) ?_;go_wp2_with fail
   refine ⟨trivial,?_⟩;refine z0f HO.out (i:=21) (by kernel_rfl) (by rfl) ?_;go_wp2_with fail
   refine ⟨trivial,?_⟩;refine z1a HO.out (by kernel_rfl) ?_;refine NoPanic.normal ?_;go_wp2_with fail
   go_meet;exact ⟨_,rfl,HQ⟩
 case rest =>
  obtain ⟨g9,rfl,hh⟩:=hcut;obtain ⟨GB,GA,GC,G9⟩:=hh.out;have Ge:=hid GB;have G6:=hid GC;have Gs:=hid G9;have GL:=hid GA;clear hh GB GC G9 GA;have c0:_=some (Value.int .u64 sp):=Ge.out.cell 0;have c1:_=some (Value.bool bb):=Ge.out.cell 1;have c2:_=some (Value.int .u64 v1):=Ge.out.cell 2;have c3:_=some (Value.int .u64 v2):=Ge.out.cell 3;have G3:=hid (G2.out _ Gs.out);have HV:Hid (∀ W,Calls Tryz.prog 130 #[.agg #[.int .u64 sp,.bool bb,.int .u64 v1,.int .u64 v2]] W fun e w'=>e=.returned (.bool (z4p sp bb v1))/\Blw W w'):=hid (fun W=>y3m sp bb v1 v2 W);generalize z4p sp bb v1=ok at *;go_wp2_with (first
   | (go_at_call 432;refine G3.out.mono ?_;rintro e w4 ⟨rfl,rfl⟩)
   | (go_at_call 130;refine (HV.out _).mono ?_;rintro e w5 ⟨rfl,Gn⟩;have G0:=hid (Gs.out.trans (Gn.mono Gs.out.size));have Gh:=hid (Ge.out.below Gn Ge.out.lt);have Gc:=hid (G6.out.below Gn G6.out.lt);clear Gn;refine stop ?_))
  unfold Stop;have k0:w5.cell? ⟨g9,0,none⟩=some (.int .u64 sp):=Gh.out.cell 0;have k1:w5.cell? ⟨g9,1,none⟩=some (.bool bb):=Gh.out.cell 1;have k2:w5.cell? ⟨g9,2,none⟩=some (.int .u64 v1):=Gh.out.cell 2;have k3:w5.cell? ⟨g9,3,none⟩=some (.int .u64 v2):=Gh.out.cell 3;have y0:w5.cell? ⟨w.heap.size,0,none⟩=some (.int .u64 0):=Gc.out.cell 0;have z0:w5.frozen? ⟨w.heap.size,0,none⟩=false:=Gc.out.frozen 0;have y1:w5.cell? ⟨w.heap.size,1,none⟩=some (.bool false):=Gc.out.cell 1;have z1:w5.frozen? ⟨w.heap.size,1,none⟩=false:=Gc.out.frozen 1;have y2:w5.cell? ⟨w.heap.size,2,none⟩=some (.int .u64 0):=Gc.out.cell 2;have z2:w5.frozen? ⟨w.heap.size,2,none⟩=false:=Gc.out.frozen 2;have y3:w5.cell? ⟨w.heap.size,3,none⟩=some (.int .u64 0):=Gc.out.cell 3;have z3:w5.frozen? ⟨w.heap.size,3,none⟩=false:=Gc.out.frozen 3;have GD:w.heap.size < w5.heap.size:=Gc.out.lt;have GR:(⟨w.heap.size,0,none⟩:Addr)≠⟨w.heap.size,1,none⟩:=by simp
  have GS:(⟨w.heap.size,0,none⟩:Addr)≠⟨w.heap.size,2,none⟩:=by simp
  have GT:(⟨w.heap.size,0,none⟩:Addr)≠⟨w.heap.size,3,none⟩:=by simp
  have GU:(⟨w.heap.size,1,none⟩:Addr)≠⟨w.heap.size,2,none⟩:=by simp
  have GV:(⟨w.heap.size,1,none⟩:Addr)≠⟨w.heap.size,3,none⟩:=by simp
  have GW:(⟨w.heap.size,2,none⟩:Addr)≠⟨w.heap.size,3,none⟩:=by simp
  clear Gh Gc HV G3 c0 c1 c2 c3;cases ok
  ·go_wp2
   refine bodyPost_ret (v := .tuple #[.agg #[.int .u64 0,.bool false,.int .u64 0,.int .u64 0],.int .i64 11]) (by simp [results,Tryz.results43,go_sem,y0,y1,y2,y3,GD]) rfl ?_;unfold z5g;rw [HR.out];refine ⟨rfl,?_⟩;have h1:=((((G0.out.setCell (p:=⟨w.heap.size,0,none⟩) (nL _) (.int .u64 0)).setCell (p:=⟨w.heap.size,1,none⟩) (nL _) (.bool false)).setCell (p:=⟨w.heap.size,2,none⟩) (nL _) (.int .u64 0)).setCell (p:=⟨w.heap.size,3,none⟩) (nL _) (.int .u64 0))
   first | exact h1 | exact h1.alloc h1.size _
  ·go_wp2
   refine bodyPost_ret (v := .tuple #[.agg #[.int .u64 sp,.bool bb,.int .u64 v1,.int .u64 v2],.int .i64 0]) (by simp [results,Tryz.results43,go_sem,y0,y1,y2,y3,GD]) rfl ?_;unfold z5g;rw [HR.out];refine ⟨rfl,?_⟩;have h1:=((((G0.out.setCell (p:=⟨w.heap.size,0,none⟩) (nL _) (.int .u64 sp)).setCell (p:=⟨w.heap.size,1,none⟩) (nL _) (.bool bb)).setCell (p:=⟨w.heap.size,2,none⟩) (nL _) (.int .u64 v1)).setCell (p:=⟨w.heap.size,3,none⟩) (nL _) (.int .u64 v2))
   first | exact h1 | exact h1.alloc h1.size _
theorem x9m (h:SD a L T s n K x cs f N m b0 S cur w d r) (p:Nat) (hp64:p < 18446744073709551616) :
  Calls Tryz.prog 43 #[.iface 59 (.pointer (some ⟨d,0,none⟩)),.int .u64 p] w (z5g w (verR cur (fun q=>chkR s K cs q 7) p)):=by
 by_cases hc:chkR s K cs p 7=0
 ·exact w3i h p hp64 hc
 ·refine (x9n h p hp64 hc).mono (fun e w' h1=>?_)
  unfold z5g verR;rw [if_pos hc];exact h1
end
end
section
open Go.RowKit Go.Maps
structure BkA (K:Nat) (cs:Nat->CS) (cur:Nat->Nat) (q next:Nat) (p:List Nat):Prop where
 live:∃ k i,z3z 53 K cs q 1 k i/\payW (cs k).cl=z1c p.length
 words:z2t cur q (payL next p)
section
variable {a:DA} {L T n K:Nat} {x:HA} {cs:Nat->CS} {f:Nat->Option Nat} {N m b0:Nat} {S:Fp} {cur:Nat->Nat} {w:World} {ks free:List Nat} {V:Nat->Nat} {cm:Nat}
theorem w0o (hd:DS a L T 53 n K x cs f N m b0 S cur w) {bl p:List Nat} (hlen:bl.length=nBlk p.length) (hp:p.length<=2000) (h:∀ j (hj:j < bl.length),BkA K cs cur bl[j] (bl.getD (j+1) 0) (p.drop (456 * j))):y5p L cur (fun q=>chkR 53 K cs q 1) bl p:=by
 have h1:=y8w (L:=L) (chk:=fun q=>chkR 53 K cs q 1) hlen hp (fun j hj=>(h j hj).words) (fun j hj=>by
  obtain ⟨k,i2,h1,h2⟩:=(h j hj).live;have h5:=(h1.at_.inL hd).1;rw [List.length_drop] at h2;exact ⟨oM,h1.nz,h1.lt,(Live.chk ⟨k,i2,h1⟩).1⟩) (bl.length - 1) 0 (by have:=z4h p;omega)
 simpa using h1
theorem x5k.bk {bl2:List Nat} {cs':Nat->CS} {cur':Nat->Nat} (h:x5k K cs cur bl2 cs' cur') {q next:Nat} {p:List Nat} (hb:BkA K cs cur q next p):BkA K cs' cur' q next p/\pOff q ∉ bl2.map pOff:=by
 obtain ⟨k,i,h1,h2⟩:=hb.live;obtain ⟨g1,g2,g3,g4⟩:=h q 1 k i h1;refine ⟨⟨⟨k,i,g1,by rw [g2];exact h2⟩,fun y hy=>?_⟩,g3⟩;have h3:=hb.words y hy;rw [z3n] at hy;rw [g4 y oM];exact h3
theorem z3z.freeOk {q kind k i:Nat} (h:z3z 53 K cs q kind k i):y2c 53 K cs q :=
 ⟨⟨k,i,h.at_.1,h.at_.2.1,h.at_.2.2.1,h.at_.2.2.2,by rw [h.bk]⟩,(Live.chk ⟨k,i,h⟩).2,h.nz,h.lt⟩
theorem At.notLook {q k i y:Nat} (h:At 53 K cs q k i) (hy:y < payW (cs k).cl) {k':Nat} (_hk':k' < K):¬ z4b 53 cs k' (8 * (53+32 * k)+offB (cs k).cl i+1+y):=fun hl=>by
 obtain ⟨_,p2,p3,p4⟩:=y4y (ln:=53+32 * k) h.2.2.1 hy;have h9:=z2h (cs k).cl i;unfold z4b at hl;by_cases e:k'=k
 ·subst e
  rw [h.2.1,if_pos rfl] at hl;exact p4 hl
 ·split at hl
  ·have:=z9s hl
   omega
  ·omega
end
end
section
open Go.RowKit Go.Maps
theorem w9v (o:Nat) (h:o<=100000):IntKind.i64.wrap (o:Int)=(o:Int):=by rw [IntKind.wrap_i64];omega
def subA (A:Option Addr) (c l:Nat):Option Addr:=if c=l then A else A.map (·.add l)
theorem x0a {w:World} {B n c:Nat} {A:Option Addr} {p:List Nat} (h:z0c w B 1 A n (u8s p)) {o:Nat} (ho:o<=n) (hc:n<=c):z0c w B 1 (subA A c o) (n - o) (u8s (p.drop o)):=by
 have hl:p.length=n:=by have:=h.1;simp [u8s] at this;omega
 refine ⟨by simp [u8s];omega,fun hn=>?_⟩;obtain ⟨ad,hA,hb,Ga⟩:=h.2 oM;have e:(ad.add o).block=ad.block:=by unfold Addr.add;split <;> rfl
 refine ⟨ad.add o,by unfold subA;rw [if_neg oM,hA];rfl,by rw [e];exact hb,fun j u hu=>?_⟩;rw [Addr.add_add];refine Ga (o+j) u ?_;rw [<- hu];simp [u8s]
theorem x3f {w w1:World} {S:Fp} {B size n:Nat} {A:Option Addr} {xs:List Value} (h:Chg S w w1) (hr:z0c w B size A n xs) (hB:B<=w.heap.size) (hS:0 < n->∀ ad,A=some ad->¬ S ad.block):z0c w1 B size A n xs:=by
 rcases Nat.eq_zero_or_pos n with h0 | h0
 ·exact ⟨hr.1,fun h1=>absurd h1 oM⟩
 ·exact h.reads hr hB (hS h0)
theorem w5t (n j:Nat) (h:j+1<=nBlk n):456 * j<=n:=by
 unfold nBlk at h;split at h <;> omega
theorem x7x (n j:Nat) (h:j+1<=nBlk n) (hr:n - 456 * j<=456):j+1=nBlk n:=by
 unfold nBlk at h ⊢;split at h
 ·rw [if_pos oM];omega
 ·rw [if_neg oM];omega
theorem x7y (n j:Nat) (hr:¬ n - 456 * j<=456):j+1+1<=nBlk n:=by
 unfold nBlk;rw [if_neg oM];omega
theorem w2b (n:Nat) (h:n<=2000):nBlk n<=5:=by
 unfold nBlk;split <;> omega
section
variable {a:DA} {L T s n K:Nat} {x:HA} {N m b0:Nat} {S0:Fp} {d r:Nat} {w wr w':World} {A:Option Addr} {mm c:Nat} {bl:List Nat} {cs:Nat->CS} {f:Nat->Option Nat} {S:Fp} {cur:Nat->Nat}
theorem WrI.cgr {w8:World} {o:Obj} (h:WrI a L T s n K x N m b0 S0 d r w wr A mm c bl cs f S cur) (hg:(wr.alloc o).grownBy w8 (Value.slice A mm c).ownBlock):Blk w8 (w.heap.size+1) 40 #[.slice A mm c]:=by
 have Ga:=h.own.lt;exact (h.below ((Below.refl _ wr).alloc (nL _) o)).cell.grown hg (fun e=>by have:=(Ga _ e.symm).1;omega)
def x5s (a:DA) (L T s n K:Nat) (x:HA) (cs:Nat->CS) (f:Nat->Option Nat) (N m b0:Nat) (S:Fp) (cur:Nat->Nat) (w:World) (d r:Nat) (al p:List Nat) (e:Ending) (w':World):Prop :=
 ∃ bl A' m' c' cs' f' S' cur',e=.returned (.tuple #[.int .u64 (bl.headD 0:Int),.slice A' m' c',.int .i64 0])/\bl.length=nBlk p.length/\m'=bl.length/\z0c w' w'.heap.size 1 A' m' (z0a bl)/\(∀ ad,A'=some ad->w.heap.size<=ad.block/\¬ sfp S' x ad.block) /\
  W2 s K cs f cur al p cs' f' cur' bl bl.length/\SD a L (T+3000) s n K x cs' f' (N+bl.length) (m+bl.length) b0 S' cur' w' d r/\Chg (sfp S x) w w'/\Grew S S' w/\m'<=c'/\w'.ownsRow (w.heap.size+2) 54 1 (.slice A' m' c') m' (z0a bl)
theorem x9r (h:SD a L T s n K x cs f N m b0 S cur w d r) (al:List Nat) (hcap:Cap s K cs f al) (A:Option Addr) (n0 c0:Nat) (p:List Nat) (hr:z0c w w.heap.size 1 A n0 (u8s p)) (hA:0 < n0->∀ ad,A=some ad->¬ sfp S x ad.block) (hp:∀ y∈p,y < 256) (hn:n0<=2000) (hc:n0<=c0) (hc2:c0<=9223372036854775807) (hroom:room (alW n0 al (nBlk n0))<=K) (hN:N+10<=1000000000) (hT:T+3000<=1000000000) :
  Calls Tryz.prog 21 #[dirV d,.slice A n0 c0] w (x5s a L T s n K x cs f N m b0 S cur w d r al p):=by
 have G9:p.length=n0:=by have:=hr.1;simp [u8s] at this;omega
 have Gm:=hid h.lo;have G8:Blw w ((w.alloc (.cells #[dirV d] 83)).alloc (.cells #[.slice none 0 0] 40)):=((Below.refl _ _).alloc (nL _) _).alloc (by simp) _;have Df:(w.alloc (.cells #[dirV d] 83)).heap.size=w.heap.size+1:=by simp
 have GS:Hid (WrI a L T s n K x N m b0 S d r w ((w.alloc (.cells #[dirV d] 83)).alloc (.cells #[.slice none 0 0] 40)) none 0 0 [] cs f S cur):=hid (by
  have hS:∀ k,S k->k < w.heap.size:=h.ds.dev.lt;refine ⟨h.below G8,Chg.of_below G8,Grew.refl _ _,(Blk.new w _ _).alloc _,?_,World.ownsRow_nil _ _ _ _,rfl,⟨fun hs=>by have:=hS _ hs;omega,fun hs=>by have:=hS _ hs;omega,fun g hg=>by cases hg⟩⟩;have h1:=Blk.new (w.alloc (.cells #[dirV d] 83)) 40 #[.slice none 0 0];rw [Df] at h1;exact h1)
 have Dd:Hid (W1 s K cs f cur al n0 cs f cur []):=hid (W1.start n0 hcap);have DL:=z3b (some ⟨d,0,none⟩);have DK:=x4f (some ⟨d,0,none⟩);have DO:=y8n ⟨d,0,none⟩;have DN:∀ (fn:Fn) (first cap:Array Value) (w:World),(Instr.makeFunc fn first cap).run Tryz.prog w=.ok (.func fn first cap) w:=fun _ _ _ _=>rfl
 have GP:∀ W,(binOp .eql 83 (.iface 59 (.pointer (some ⟨d,0,none⟩))) .nilIface).run Tryz.prog W=.ok (.bool false) W:=fun W=>by rfl
 have GR:Hid (∀ W,Blw w W->Calls Tryz.prog 432 #[.pointer (some ⟨d,0,none⟩)] W fun e w'=>e=.returned (.int .i64 0)/\W=w'):=hid (fun W hW=>errD (h.ds.dev.below hW) (h.dir.below hW h.dir.lt));have Ds:=hid G8;have Dw:=hid hr;have Dr:=hid hA;have Da:=hid hp;have Db:=hid hroom;have Gq:=hid G9;have G4:=hid (And.intro hN hT);have D0:=w2b n0 hn;have GM:1<=nBlk n0:=by unfold nBlk;split <;> omega
 obtain ⟨M,hM⟩:∃ M,nBlk n0=M:=⟨_,rfl⟩
 have HM:=hid hM;rw [hM] at D0 GM Db;have dn:decide ((2000:Int) < (n0:Int))=false:=dF;have DG:(n0:Int)<=(c0:Int):=oM;obtain ⟨i0,D4,DC,DD,DE⟩:=info_parts z8c;clear h hcap hr hA hp hroom hN hT G8 Df G9 hM;unfold dirV at *;go_enter Tryz.func21,Tryz.ntmps21
 go_upto_region 10 with (go_at_call 432;refine (GR.out _ ((Below.refl _ _).alloc (nL _) _)).mono ?_;rintro e w1 ⟨rfl,rfl⟩)
 generalize (w.alloc (.cells #[.iface 59 (.pointer (some ⟨d,0,none⟩))] 83)).alloc (.cells #[.slice none 0 0] 40)=W0 at *;clear dn GP GR;go_wp2_with fail
 go_loopw [10] (fun v wr=>∃ (j:Nat) (A1:Option Addr) (m1 c1:Nat) (bl:List Nat) (GL:Nat->CS) (f1:Nat->Option Nat) (S1:Fp) (Gk:Nat->Nat),j+1<=M/\v=.int .i64 ((n0 - 456 * j:Nat):Int)/\Hid (bl.length=j)/\Hid (WrI a L (T+400 * j) s n K x (N+j) (m+j) b0 S d r w wr A1 m1 c1 bl GL f1 S1 Gk)/\Hid (W1 s K cs f cur al n0 GL f1 Gk bl)) (fun v _=>(Go.RowKit.intOf v).toNat)
 case atStart=>exact ⟨0,none,0,0,[],cs,f,S,cur,GM,rfl,hid rfl,GS,Dd⟩
 case round =>
  clear GS Dd Ds GM;obtain ⟨j,A1,m1,c1,bl,GL,f1,S1,Gk,hj,rfl,Gp,HI,HW⟩:=hrel;have HJ:=hid hj;have D5:j<=4:=oM;obtain ⟨rs,GD⟩:∃ rs,n0 - 456 * j=rs:=⟨_,rfl⟩
  have Gx:rs<=2000:=oM;have GJ:=hid (y0h rs oM wr.drew (HI.out.sd.ds.pay.below (Below.refl _ _).drew));have D2:=z4q rs;have G0:=hid (w3x (HI.out.sd.below (Below.refl _ _).drew) (z1c rs) 1 oM oM oM oM (by have:=G4.out;omega) (by have:=G4.out;omega) (HW.out.cap.has (z7g _) (by
   have h1:=w0f n0 al (j:=j+1) (k:=M) oM;have h2:alW n0 al (j+1)=z1e (z1c rs) :: alW n0 al j:=by rw [<- GD];rfl
   rw [Gp.out,<- h2];exact Nat.le_trans h1 Db.out)))
  rw [show ((1:Nat):Int)=1 from rfl] at G0;obtain ⟨bz,GN⟩:∃ bz,z1c rs=bz:=⟨_,rfl⟩
  rw [GN] at GJ G0;have Gj:=hid GD;have GF:=hid GN;rw [GD];have fs:wr.cell? ⟨w.heap.size,0,none⟩=some (.iface 59 (.pointer (some ⟨d,0,none⟩))):=HI.out.spc.cell 0;have Dz:=hid HI.out.spc;clear GD D2 GN hj;go_upto_region 12 with fail
  refine z0g (fun w'=>w'.cell? ⟨w.heap.size,0,none⟩=some (.iface 59 (.pointer (some ⟨d,0,none⟩)))) 11 [] [(1,0),(1,1),(1,3),(1,4),(1,5),(0,2),(0,6),(1,7),(1,8),(1,9),(1,10)] (by kernel_rfl) (by kernel_rfl) fs ?_;refine tkG (.iface 59 (.pointer (some ⟨d,0,none⟩))) ?_;refine tkG (.int .i64 rs) ?_;refine tkH (.func (.method "Alloc") #[.iface 59 (.pointer (some ⟨d, 0, none⟩))] #[]) (fun w' hS => ?_) ?_
  ·go_simp
  refine tkH (.func (.method "Alloc") #[.iface 59 (.pointer (some ⟨d, 0, none⟩))] #[]) (fun w' hS => ?_) ?_
  ·go_simp
  refine tkG (.iface 59 (.pointer (some ⟨d,0,none⟩))) ?_;refine z0b (by rfl) ?_;go_wp2_with (go_at_call 104;refine GJ.out.mono ?_;rintro e w1 ⟨rfl,rfl⟩)
  refine ⟨fs,?_⟩;refine z0b (by rfl) ?_;go_wp2_with (go_at_call 429;refine G0.out.mono ?_;rintro e w2 ⟨k2,i2,S2,Gc,Ge,rfl,Do,Gy,Gv,Gw⟩;have GZ:=hid Do;have G3:=hid ((HI.out.below (Below.refl _ _).drew).sdo Gm.out Gy Gv Gw);clear Do Gy Gv Gw)
  refine ⟨G3.out.spc.cell 0,?_⟩;have G6:=hid (HW.out.step HI.out.sd.ds (k:=k2) (i:=i2) (cs':=Gc) (cur':=Ge) (by rw [Gp.out,Gj.out,GF.out];exact GZ.out) G3.out.sd.ds);generalize updF f1 (offO s Gc k2 i2) (some (fptr s Gc 1 k2 i2))=f2 at *;generalize fptr s Gc 1 k2 i2=q at *;have Gb:Hid (WrI a L (T+400 * (j+1)) s n K x (N+(j+1)) (m+(j+1)) b0 S d r w w2 A1 m1 c1 bl Gc f2 S2 Ge):=by
   rw [show T+400 * (j+1)=T+400 * j+400 by omega];exact G3
  clear G0 GJ HI HW GZ G3 Dz fs;refine tkG (.tuple #[.int .u64 q,.int .i64 0]) ?_;refine tkG (.int .u64 q) ?_;refine tkG (.int .i64 0) ?_;refine tkG (.int .u64 q) ?_;show wpList _ _ _ _ _ _;simp only [List.drop_succ_cons,List.drop_zero];go_wp2_with fail
  refine NoPanic.normal ?_;have D6:m1<=10:=by have h1:=Gb.out.len;have h2:=Gp.out;omega
  have GY:=hid (Gb.out.own.alloc (.cells #[.int .u64 q] 54));have fc:w2.cell? ⟨w.heap.size+1,0,none⟩=some (.slice A1 m1 c1):=Gb.out.cell.cell 0;go_upto_region 16 with (at_builtin;refine z3y _ (.tmp 51) (.tmp 53) 40 rfl rfl (w.heap.size+2) 54 i0 _ 1 8 Tryz.underlying40 D4 DC DD DE rfl ?q1 (.slice A1 m1 c1) m1 (z0a bl) rfl GY.out (w2.heap.size+1) (some ⟨w2.heap.size,0,none⟩) 1 1 [.int .u64 q] rfl ?q5 ?q6 ?q2 ?q3 ?q4 ?_;(case q1=>omega);(case q5=>exact z0m _ _ rfl _ 1 1 54 _ rfl rfl);(case q6=>(intro u hu;simp at hu;subst hu;rfl));(case q2=>(unfold maxLen;omega));(case q3=>omega);(case q4=>(have:=Gb.out.size;simp;omega));intro A3 n3 c3 w8 hn3 ho3 hg3 hv3;have z8:=(Gb.out.cgr hg3).frozen 0;have c8:w8.cell? ⟨w.heap.size+1,0,none⟩=some (.slice A1 m1 c1):=(Gb.out.cgr hg3).cell 0;have Gi:=hid (Gb.out.push Gm.out rfl hn3 ho3 hg3 hv3);have Du:=hid hn3;clear hn3 ho3 hg3 hv3)
  clear c8 z8 fc GY Gb;generalize w8.setCell ⟨w.heap.size+1,0,none⟩ (.slice A3 n3 c3)=w9 at *;have Ga:Hid ((bl++[q]).length=j+1):=hid (by rw [List.length_append,Gp.out];rfl);generalize bl++[q]=bl1 at *;clear Gp Du D6;by_cases hlast:rs<=456
  ·have d1:decide ((rs:Int)<=456)=true:=dT
   have Dk:j+1=M:=by rw [<- HM.out];exact x7x n0 j (by rw [HM.out];exact HJ.out) (by rw [Gj.out];exact hlast)
   rw [Dk] at Gi Ga;clear hlast Dk HJ Gj GF Gx D5;have c9:w9.cell? ⟨w.heap.size+1,0,none⟩=some (.slice A3 n3 c3):=Gi.out.cell.cell 0;have De:Hid (W2 s K cs f cur al p Gc f2 Ge bl1 0):=hid ⟨by rw [Gq.out];exact G6.out,fun j _ h=>absurd h (Nat.not_lt_zero j)⟩;have GW:Hid (n3=M):=hid (Gi.out.len.trans Ga.out);have D7:n3=M:=GW.out;subst D7;clear G6 GW;go_wp2_with fail
   go_loopw [59] (fun v wr=>∃ (k:Nat) (S3:Fp) (Gd:Nat->Nat),k<=n3/\v=.int .i64 k/\Hid (WrI a L (T+400 * n3+200 * k) s n K x (N+n3) (m+n3) b0 S d r w wr A3 n3 c3 bl1 Gc f2 S3 Gd)/\Hid (W2 s K cs f cur al p Gc f2 Gd bl1 k)) (fun v _=>n3 - (Go.RowKit.intOf v).toNat)
   case atStart=>exact ⟨0,S2,Ge,Nat.zero_le _,rfl,Gi,De⟩
   case round =>
    clear Gi De c9;obtain ⟨k,S3,Gd,hk,rfl,HI,HX⟩:=hrel;have c8:wr.cell? ⟨w.heap.size+1,0,none⟩=some (.slice A3 n3 c3):=HI.out.cell.cell 0;by_cases hlt:k < n3
    ·have GO:k < bl1.length:=by have:=Ga.out;omega
     obtain ⟨_,gb,go,G7,_,fk⟩:=z2b (z0c.of_own HI.out.own) (k:=k) hlt;obtain ⟨nx,GA⟩:∃ nx,bl1.getD (k+1) 0=nx:=⟨_,rfl⟩
     have HQ:=hid (HX.out.w1.rq k GO);have GG:Hid ((k+1 < n3/\wr.cell? ⟨gb,go+(k+1),none⟩=some (.int .u64 nx)/\nx < 18446744073709551616)\/(¬ k+1 < n3/\nx=0)):=hid (by
      by_cases h1:k+1 < n3
      ·obtain ⟨Dl,DH,DI,Gt,_,Dg⟩:=z2b (z0c.of_own HI.out.own) (k:=k+1) h1
       rw [G7] at Gt;injection Gt with e1
       injection e1 with e1 e2
       subst e1 e2;have e3:nx=bl1[k+1]:=by rw [<- GA,List.getD_eq_getElem?_getD,List.getElem?_eq_getElem Dl];rfl
       exact .inl ⟨h1,by rw [e3];exact Dg,by rw [e3];exact (HX.out.w1.rq (k+1) Dl).keep.nz.2⟩
      ·exact .inr ⟨h1,by rw [<- GA,List.getD_eq_getElem?_getD,List.getElem?_eq_none (by have:=Ga.out;omega)];rfl⟩)
     have Gf:nx < 18446744073709551616:=by
      rcases GG.out with ⟨_,_,h⟩ | ⟨_,h⟩
      ·exact h
      ·omega
     have Gs:Hid (W2 s K cs f cur al p Gc f2 (wrS Gd (pwW (pOff bl1[k]) (payL nx (p.drop (456 * k))))) bl1 (k+1)):=hid (by
      have h:=HX.out.step GO;rw [GA] at h;exact h)
     obtain ⟨o,ho⟩:∃ o,456 * k=o:=⟨_,rfl⟩
     have Dp:o<=n0:=by rw [<- ho];exact w5t n0 k (by rw [HM.out];omega)
     have DJ:k<=4:=oM;have GB:wrap64 ((k:Int) * 456)=(o:Int):=by rw [IntWalk.wrap64_in _ oM];omega
     have GC:(k:Int) * 456=(o:Int):=oM;have GX:=hid (And.intro GB GC);clear GB GC;rw [ho] at Gs;have GI:Hid (Rq s K Gc f2 1 bl1[k] (z1e (z1c (n0 - o)))):=hid (by have h:=HQ.out;rw [Gq.out,ho] at h;exact h);generalize bl1[k]=b at *;have Gu:=GI.out.keep.nz;have G2:=hid (y6f b nx (subA A c0 o) (n0 - o) (c0 - o) (p.drop o) wr.drew (((x0a (x3f HI.out.chg Dw.out (nL _) Dr.out) Dp hc).below (Below.refl _ _).drew).more (by have:=HI.out.size;simp;omega)) (fun y hy=>Da.out y (List.mem_of_mem_drop hy)) oM oM Gf Gu.1 (HI.out.sd.ds.tab.below (Below.refl _ _).drew) (HI.out.sd.ds.pay.below (Below.refl _ _).drew));obtain ⟨pl,GQ⟩:∃ pl,payL nx (p.drop o)=pl:=⟨_,rfl⟩
     have G5:Hid (pl.length=z1c (n0 - o)/\∀ y∈pl,y < 18446744073709551616):=hid (by
      rw [<- GQ,z3n,List.length_drop,Gq.out];exact ⟨rfl,x8h Gf (fun y hy=>Da.out y (List.mem_of_mem_drop hy)) (by rw [List.length_drop,Gq.out];omega)⟩)
     rw [GQ] at G2 Gs;obtain ⟨ws,Gz⟩:∃ ws,pwW (pOff b) pl=ws:=⟨_,rfl⟩
     have GK:Hid (0 < ws.length/\ws.length<=60/\∀ e∈ws,e.1 < 18446744073709551616):=hid (by
      have h1:=z4q (n0 - o);have h2:=G5.out.1;rw [<- Gz,y1f];refine ⟨oM,oM,fun e he=>?_⟩;obtain ⟨y,hy,rfl⟩:=y1g he;show pOff b+8 * y < _;unfold pOff;omega)
     have Gr:Hid (∀ (W W2:World) (A9:Option Addr) (m9 c9:Nat) (pp:List Ins),Blw wr W->Blw wr W2->W2.ownsRow W.heap.size 284 3 (.slice A9 m9 c9) m9 (z0j pp)->z0y ws pp->Calls Tryz.prog 78 #[.slice A9 m9 c9,.iface 59 (.pointer (some ⟨d,0,none⟩))] W2 (x5p a L (T+400 * n3+200 * k+200) s n K x Gc f2 (N+n3) (m+n3) b0 S3 (wrS Gd ws) W2 d r)):=hid (fun W W2 A9 m9 c9 pp hW hW2 Gl GE=>by
      obtain ⟨kk,ii,D1,D3,_⟩:=GI.out.cls;have h1:=(HI.out.sd.below hW2).paid D1 (l:=pl) (by rw [D3,z5q];exact G5.out.1) G5.out.2 Gl (fun g hg=>Nat.lt_of_lt_of_le (HI.out.sd.ds.dev.lt g hg) hW.size) (by rw [Gz];exact GE) (by have:=G4.out;omega);rw [Gz] at h1;exact h1)
     rw [Gz] at G2 Gs;have fs:wr.cell? ⟨w.heap.size,0,none⟩=some (.iface 59 (.pointer (some ⟨d,0,none⟩))):=HI.out.spc.cell 0;have DP:(0:Int)<=(k:Int):=oM;have DF:(k:Int) < (n3:Int):=oM;subst G7;clear GO GA HQ HX ho GQ Gz Gf Gu G5 GI;go_upto_if 68 with fail
     go_cut [15] from 69 to 74 (fun v wx=>v=.int .u64 nx/\Hid (wx=wr))
     case first =>
      rcases GG.out with ⟨h1,Dg,_⟩ | ⟨h1,h2⟩
      ·have d1:decide ((k:Int)+1 < (n3:Int))=true:=dT
       have d2:(k:Int)+1 < (n3:Int):=oM;go_wp2_with fail
       go_meet;exact ⟨rfl,hid rfl⟩
      ·have d1:decide ((k:Int)+1 < (n3:Int))=false:=dF
       have H2:=hid h2;clear h2;go_wp2_with fail
       go_meet;exact ⟨by rw [H2.out];rfl,hid rfl⟩
     case rest =>
      obtain ⟨rfl,Dq⟩:=hcut;have hw:=Dq.out.symm;subst hw;clear Dq GG;have D8:(o:Int)<=(n0:Int):=oM;have D9:(0:Int)<=(o:Int):=oM;have GB:=GX.out.1;have GC:=GX.out.2;have DB:IntKind.i64.wrap (o:Int)=(o:Int):=w9v o (Nat.le_trans Dp (Nat.le_trans hn (by decide)));go_upto_region 23 with fail
      refine z0g (fun w'=>w'.cell? ⟨w.heap.size,0,none⟩=some (.iface 59 (.pointer (some ⟨d,0,none⟩)))) 9 [] [(1,0),(1,1),(1,2),(1,3),(1,4),(1,5),(1,8),(0,6),(0,7)] (by kernel_rfl) (by kernel_rfl) fs ?_;refine tkG (.int .u64 b) ?_;refine tkG (.int .u64 nx) ?_;refine tkG (.slice A n0 c0) ?_;refine tkG (.int .i64 k) ?_;refine tkG (.int .i64 o) ?_;refine tkH (.slice (subA A c0 o) (n0 - o) (c0 - o)) (fun w' hS=>?_) ?_
      ·unfold subA
       go_simp
      refine tkG (.iface 59 (.pointer (some ⟨d,0,none⟩))) ?_;clear GB GC D8 D9 DB;refine z0b (by rfl) ?_;go_wp2_with (go_at_call 106;refine G2.out.mono ?_;rintro e w3 ⟨A4,m4,c4,rfl,Dm,Gg,Dh⟩;have GV:=hid Dm;have GH:=hid Gg;have Gn:Hid (Blw wr w3):=hid ((Below.refl _ wr).drew.trans Dh);clear Dm Gg Dh)
      refine ⟨(HI.out.spc.below Gn.out HI.out.spc.lt).cell 0,?_⟩;have Dc:=hid (z1q A4 m4 c4 ws w3 (z0c.of_own GH.out) (by rw [GV.out];exact GK.out.1) (by rw [GV.out];exact Nat.le_trans GK.out.2.1 (by decide)) GK.out.2.2);refine z0b (by rfl) ?_;go_wp2_with (go_at_call 105;refine Dc.out.mono ?_;rintro e w5 ⟨A6,m6,c6,pp,rfl,GE,Gh,Di⟩;have Dy:=hid GE;have Dv:=hid Gh;have G1:Hid (Blw wr w5):=hid (Gn.out.trans (Di.mono Gn.out.size));clear GE Gh Di)
      refine ⟨(HI.out.spc.below G1.out HI.out.spc.lt).cell 0,?_⟩;have Dx:=hid (Gr.out w3 w5 A6 m6 c6 pp Gn.out G1.out Dv.out Dy.out);clear Dc Gr G2;show wpList _ _ _ _ _ _;simp only [List.drop_succ_cons,List.drop_zero];go_wp2_with (go_at_call 78;refine Dx.out.mono ?_;rintro e w6 ⟨rfl,S4,Gy,Gv,Gw⟩;have GT:=hid ((HI.out.below G1.out).sdo Gm.out Gy (Gv.mono (fun _ h => .inl h)) Gw);clear Gy Gv Gw)
      refine NoPanic.normal ?_;have GU:Hid (WrI a L (T+400 * n3+200 * (k+1)) s n K x (N+n3) (m+n3) b0 S d r w w6 (some ⟨gb,go,none⟩) n3 c3 bl1 Gc f2 S4 (wrS Gd ws)):=by
       rw [show T+400 * n3+200 * (k+1)=T+400 * n3+200 * k+200 by omega];exact GT
      clear HI GT G1 Gn;go_wp2_with fail
      go_roundw
      case rel =>
       first
        | exact ⟨k+1,S4,_,oM,by go_num,GU,Gs⟩
        | (
          repeat apply Exists.intro
          refine ⟨?_,rfl⟩;exact ⟨k+1,S4,_,oM,by go_num,GU,Gs⟩)
      case measure=>simp [Go.RowKit.intOf];omega
    ·obtain rfl:n3=k:=oM
     have h0:0 < n3:=by have:=HM.out;unfold nBlk at this;split at this <;> omega
     obtain ⟨G9,gb,go,G7,_,fk⟩:=z2b (z0c.of_own HI.out.own) (k:=0) h0;rw [Nat.add_zero] at fk;have DF:(0:Int) < (n3:Int):=oM;have Dt:Hid (x5s a L T s n K x cs f N m b0 S cur w d r al p (.returned (.tuple #[.int .u64 (bl1[0]:Int),.slice A3 n3 c3,.int .i64 0])) wr.drew):=hid (by
      have Gl:=HI.out.own.lt;have e0:bl1.headD 0=bl1[0]:=by cases bl1 with | nil=>simp at G9 | cons y t=>rfl
      refine ⟨bl1,A3,n3,c3,Gc,f2,S3,Gd,by rw [e0],by rw [Ga.out,Gq.out,HM.out],Ga.out.symm,?_,fun ad had=>?_,by rw [Ga.out];exact HX.out,?_,HI.out.chg.drew,HI.out.grew,(z4z HI.out.own).1,z0r HI.out.own (Below.refl _ _).drew⟩
      ·exact ((z0c.of_own HI.out.own).below (Below.refl _ _).drew)
      ·have Dn:(Value.slice A3 n3 c3).ownBlock=some ad.block:=by rw [had];rfl
       have h1:=Gl ad.block Dn;refine ⟨oM,?_⟩;rintro (e | e)
       ·exact HI.out.off.2.2 _ Dn e
       ·have:=Gm.out.pl
        have:=Gm.out.mr;have:=Gm.out.mh;rcases e with e | e | e <;> omega
      ·rw [Ga.out]
       exact (HI.out.sd.below (Below.refl _ _).drew).more oM (by have:=G4.out;omega))
     generalize bl1[0]=b at *;subst G7;clear hlt hk HX HI h0;go_upto_region 28 with fail
     go_region;go_wp2_with fail
     go_ret3
     exact Dt.out
  ·have d1:decide ((rs:Int)<=456)=false:=dF
   have Dj:j+1+1<=M:=by rw [<- HM.out];exact x7y n0 j (by rw [Gj.out];exact hlast)
   have HE:Hid (wrap64 ((rs:Int) - 456)=((n0 - 456 * (j+1):Nat):Int)):=hid (by rw [IntWalk.wrap64_in _ oM];have:=Gj.out;omega);have DM:n0 - 456 * (j+1) < rs:=by have:=Gj.out;omega
   clear hlast HJ Gj GF Gx;go_wp2_with fail
   go_roundw
   case rel =>
    first
     | exact ⟨j+1,A3,n3,c3,bl1,Gc,f2,S2,Ge,Dj,by rw [HE.out],Ga,Gi,G6⟩
     | (
       repeat apply Exists.intro
       refine ⟨?_,rfl⟩;exact ⟨j+1,A3,n3,c3,bl1,Gc,f2,S2,Ge,Dj,by rw [HE.out],Ga,Gi,G6⟩)
   case measure =>
    rw [HE.out];simp [Go.RowKit.intOf];omega
end
end
section
open Go.RowKit Go.Maps
theorem y7k (p : Option Addr) (w : World) : (method 640 59 (.pointer p) "Publish").run Tryz.prog w=.ok (54,.pointer p) w := by kernel_rfl
theorem y3w (p : Addr) (w : World) : (nilAhead 640 59 (.pointer (some p)) "Publish").run Tryz.prog w=.ok (some false) w := by kernel_rfl
theorem y0w (n:Nat) (hn:n < 8) (w:World):Calls Tryz.prog 53 #[.int .i64 n] w fun e w'=>e=.returned (.int .u64 ((3328+8 * n:Nat):Int))/\w=w':=by
 have hc:n=0\/n=1\/n=2\/n=3\/n=4\/n=5\/n=6\/n=7:=oM;rcases hc with rfl | rfl | rfl | rfl | rfl | rfl | rfl | rfl
 all_goals
  go_enter Tryz.func53,Tryz.ntmps53
  go_wp2;go_ret;exact ⟨rfl,rfl⟩
section
variable {a:DA} {L T s n K:Nat} {x:HA} {cs:Nat->CS} {f:Nat->Option Nat} {N m b0:Nat} {S:Fp} {cur:Nat->Nat} {w w':World} {d r:Nat}
theorem z7c.back {us:List (Nat × Nat)} {keep free:List Nat} {n1:Nat} {e:Ending} {W:World} (hW:Blw w W) (h:z7c a L T s n K x cs f N m b0 S cur W d r us keep free n1 e w'):z7c a L T s n K x cs f N m b0 S cur w d r us keep free n1 e w':=by
 obtain ⟨ks,V,cm,S',h1,h2,h3,h4,h5,h6,h7,h8⟩:=h;exact ⟨ks,V,cm,S',h1,h2,h3,h4,h5,h6,(Chg.of_below hW).trans h7 (fun j hj => .inl hj),fun k hk=>(h8 k hk).imp id (fun h=>Nat.le_trans hW.size h)⟩
theorem z9r {ln cl i:Nat} (h:z9j ln cl i):8 * ln<=i:=by
 rcases h with h | ⟨j,_,h⟩ <;> omega
theorem y9m (hd:DS a L T 53 n K x cs f N m b0 S cur w) (i q:Nat) (hi:i < 8) (hq:q < 18446744073709551616):UOk L 0 53 K cs [(3328+8 * i,q)]:=by
 have hK:=hd.hK;refine ⟨fun e he=>?_,fun e he=>?_,fun e he k hk hl=>?_,by simp⟩
 ·simp at he
  subst he;exact ⟨by show (3328+8 * i) % 8=0;omega,by show 3328+8 * i < 64 * L;omega,.inr (by show 64 * 0+64 * 26<=3328+8 * i;omega)⟩
 ·simp at he
  subst he;exact hq
 ·simp at he
  subst he;have Ga:z4b 53 cs k ((3328+8 * i) / 8):=hl;unfold z4b at Ga;split at Ga
  ·have:=z9r Ga
   omega
  ·omega
theorem w6h (h:SD a L T 53 n K x cs f N m b0 S cur w d r) (hK12:K<=12) (g i q:Nat) (hi:i < 8) (hq:q < 18446744073709551616) (A1:Option Addr) (n1 c1:Nat) (keep:List Nat) (h1:z0c w w.heap.size 1 A1 n1 (z0a keep)) (hA1:∀ ad,A1=some ad->¬ sfp S x ad.block) (hk:∀ p∈keep,y0b 53 K cs f p) (hn:(keep.map pOff).Nodup) (hlen:keep.length<=20) (hT:T+800<=1000000000) (hN:N+n1<=1000000000) :
  Calls Tryz.prog 36 #[.pointer (some ⟨g,0,none⟩),dirV d,.int .i64 i,.int .u64 q,.slice A1 n1 c1] w (z7c a L T 53 n K x cs f N m b0 S cur w d r [(3328+8 * i,q)] keep [] n1):=by
 have Gb:=hid (y0w i hi);have Gc:Hid (∀ (W W':World),W=w.drew->W'=W.alloc (.cells #[.int .u64 ((3328+8 * i:Nat):Int),.int .u64 q] 114)->Calls Tryz.prog 54 #[.pointer (some ⟨d,0,none⟩),.slice (some ⟨W.heap.size,0,none⟩) 1 1,.slice A1 n1 c1,.slice none 0 0] W' (z7c a L T 53 n K x cs f N m b0 S cur w d r [(3328+8 * i,q)] keep [] n1)):=hid (fun W W' hW hW'=>by
  subst hW hW';have hb:Blw w (w.drew.alloc (.cells #[.int .u64 ((3328+8 * i:Nat):Int),.int .u64 q] 114)):=(Below.refl _ _).drew.alloc (nL _) _;have h0:=x2a (h.below hb) hK12 (some ⟨w.drew.heap.size,0,none⟩) A1 none 1 1 n1 c1 0 0 [(3328+8 * i,q)] keep [] (z4i w.drew _ q) (fun h=>by cases h) ((h1.below hb).more hb.size) ⟨rfl,fun h=>absurd h (Nat.lt_irrefl 0)⟩ hA1 hk (fun p hp=>absurd hp (by simp)) (by rw [List.append_nil];exact hn) (y9m h.ds i q hi hq) (by simp;omega) hT hN;exact h0.mono (fun e w' h=>z7c.back hb h))
 have hm:=y7k (some ⟨d,0,none⟩);have Ge:=y3w ⟨d,0,none⟩;have Gd:∀ (fn:Fn) (first cap:Array Value) (w:World),(Instr.makeFunc fn first cap).run Tryz.prog w=.ok (.func fn first cap) w:=fun _ _ _ _=>rfl
 generalize 3328+8 * i=O at *;clear h h1 hA1 hk hn;unfold dirV;go_enter Tryz.func36,Tryz.ntmps36
 go_upto_region 1 with fail
 refine z0g (fun _=>True) 10 [] [(1,0),(1,1),(1,3),(1,6),(1,7),(1,8),(1,9),(0,2),(1,4),(0,5)] (by kernel_rfl) (by kernel_rfl) trivial ?_;refine tkG (.iface 59 (.pointer (some ⟨d,0,none⟩))) ?_;refine tkG (.int .i64 i) ?_;refine tkG (.int .u64 q) ?_;refine tkG (.slice A1 n1 c1) ?_;refine tkH (.func (.method "Publish") #[.iface 59 (.pointer (some ⟨d, 0, none⟩))] #[]) (fun w' hS => ?_) ?_
 ·go_simp
 refine tkH (.func (.method "Publish") #[.iface 59 (.pointer (some ⟨d, 0, none⟩))] #[]) (fun w' hS => ?_) ?_
 ·go_simp
 refine tkG (.iface 59 (.pointer (some ⟨d,0,none⟩))) ?_;refine z0b (by rfl) ?_;go_wp2_with (go_at_call 53;refine (Gb.out _).mono ?_;rintro e w1 ⟨rfl,rfl⟩)
 refine ⟨trivial,?_⟩;refine tkG (.agg #[.int .u64 O,.int .u64 q]) ?_;refine z0b (by rfl) ?_;go_wp2_with fail
 refine ⟨trivial,?_⟩;show wpList _ _ _ _ _ _;simp only [List.drop_succ_cons,List.drop_zero];go_wp2_with (go_at_call 54;refine (Gc.out _ _ rfl rfl).mono ?_;intro e w2 h2;have Ga:=hid h2;clear h2;obtain ⟨ks,V,cm,S',rfl,q2,q3,q4,q5,q6,q7,q8⟩:=Ga.out;clear q2 q3 q4 q5 q6 q7 q8)
 refine NoPanic.normal ?_;go_wp2_with fail
 go_ret;exact Ga.out
end
end
section
open Go.RowKit Go.Maps
section
variable {a:DA} {L T K:Nat} {x:HA} {y:WA} {cs:Nat->CS} {f:Nat->Option Nat} {N m b0:Nat} {S:Fp} {cur:Nat->Nat} {w w':World}
theorem BW.keep {T' N' m':Nat} {cs':Nat->CS} {f':Nat->Option Nat} {S':Fp} {cur':Nat->Nat} (h:BW a L T K x y cs f N m b0 S cur w) (hsd:SD a L T' 53 (32 * K) K x cs' f' N' m' b0 S' cur' w' y.d y.r) (hc:Chg (sfp S x) w w') (hg:Grew S S' w) (hu:cur' (8 * 26)=0):BW a L T' K x y cs' f' N' m' b0 S' cur' w':=by
 have hn:∀ {g:Nat} {t:TypeId} {vs:Array Value},Blk w g t vs->¬ S g->t≠408->¬ sfp S x g:=fun hB hS ht e=>e.elim hS (h.sd.ds.fp_ne hB ht)
 exact ⟨hsd,hc.blk h.blk (hn h.blk h.off.1 (by decide)),hc.blk h.und (hn h.und h.off.2.1 (by decide)),hc.blk h.mgr (hn h.mgr h.off.2.2 (by decide)),hu,⟨hg.off ⟨h.blk.lt,h.off.1⟩,hg.off ⟨h.und.lt,h.off.2.1⟩,hg.off ⟨h.mgr.lt,h.off.2.2⟩⟩,h.new,h.size,h.few,h.rest⟩
theorem BW.below (h:BW a L T K x y cs f N m b0 S cur w) (hb:Blw w w'):BW a L T K x y cs f N m b0 S cur w' :=
 h.keep (h.sd.below hb) (Chg.of_below hb) (Grew.refl _ _) h.uid
end
end
section
open Go.RowKit Go.Maps
section
variable {a:DA} {L T s n K:Nat} {x:HA} {cs:Nat->CS} {f:Nat->Option Nat} {N m b0:Nat} {S:Fp} {cur:Nat->Nat} {w w':World} {d r:Nat}
def x9z (w:World) (R:Nat × List Nat × List Nat) (e:Ending) (w':World):Prop :=
 if R.1=0 then ∃ A m c,e=.returned (.tuple #[.slice A m c,.int .i64 0])/\m=R.2.2.length/\z0c w' w'.heap.size 1 A m (u8s R.2.2)/\(∀ ad,A=some ad->w.heap.size<=ad.block)/\m<=c/\Blw w w'
 else e=.returned (.tuple #[.slice none 0 0,.int .i64 R.1])/\Blw w w'
theorem x6e (h:SD a L T s n K x cs f N m b0 S cur w d r) (p:Nat) (hp64:p < 18446744073709551616) :
  Calls Tryz.prog 30 #[dirV d,.int .u64 p] w (x9z w (z1b L cur (fun q=>chkR s K cs q 1) p)):=by
 have HW:=hid (y5k h p hp64);clear h;generalize z1b L cur (fun q=>chkR s K cs q 1) p=R at *;unfold dirV at *;by_cases hR:R.1=0
 ·have Ga:Hid (Calls Tryz.prog 110 #[.iface 59 (.pointer (some ⟨d,0,none⟩)),.int .u64 p] w fun e w'=>∃ A m c A2 m2 c2,e=.returned (.tuple #[.slice A m c,.slice A2 m2 c2,.int .i64 0])/\m2=R.2.2.length/\z0c w' w'.heap.size 1 A2 m2 (u8s R.2.2)/\(∀ ad,A2=some ad->w.heap.size<=ad.block)/\m2<=c2/\Blw w w'):=hid (HW.out.mono (fun e w' h=>by
   unfold y3t at h;rw [if_pos hR] at h;obtain ⟨A,m,c,A2,m2,c2,h1,h2,h3,h4,h5,h6,h7,h8,h9⟩:=h;exact ⟨A,m,c,A2,m2,c2,h1,h3,h5,h7,h8.2,h9⟩))
  have HR:=hid hR;clear HW hR;go_enter Tryz.func30,Tryz.ntmps30
  go_wp2_with (go_at_call 110;refine Ga.out.mono ?_;rintro e w1 ⟨A,m1,c,A2,m2,c2,rfl,h1,h2,h3,h4,h5⟩;have HE:=hid (show _/\_/\_/\_/\_ from ⟨h1,h2,h3,h4,h5⟩);clear h1 h2 h3 h4 h5)
  go_ret2;unfold x9z;rw [if_pos HR.out];exact ⟨A2,m2,c2,rfl,HE.out.1,HE.out.2.1,HE.out.2.2.1,HE.out.2.2.2.1,HE.out.2.2.2.2⟩
 ·have Ga:Hid (Calls Tryz.prog 110 #[.iface 59 (.pointer (some ⟨d,0,none⟩)),.int .u64 p] w fun e w'=>e=.returned (.tuple #[.slice none 0 0,.slice none 0 0,.int .i64 R.1])/\Blw w w'):=hid (HW.out.mono (fun e w' h=>by
   unfold y3t at h;rw [if_neg hR] at h;exact h))
  have HR:=hid hR;clear HW hR;go_enter Tryz.func30,Tryz.ntmps30
  go_wp2_with (go_at_call 110;refine Ga.out.mono ?_;rintro e w1 ⟨rfl,h1⟩;have HE:=hid h1;clear h1)
  go_ret2;unfold x9z;rw [if_neg HR.out];exact ⟨rfl,HE.out⟩
end
end
section
open Go.RowKit Go.Maps
structure InB (w:World) (A:Option Addr) (n c:Nat) (l:List Nat):Prop where
 b:∀ z∈l,z < 256
 r:z0c w w.heap.size 1 A n (u8s l)
 le:n<=c
 cap:c<=9223372036854775807
end
end Go.Proofs.YtfkjjoglnmeciaaGreatDoor
