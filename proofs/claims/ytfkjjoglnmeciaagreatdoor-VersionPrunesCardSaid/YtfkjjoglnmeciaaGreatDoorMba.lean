/- part 27 -/
import Derived.Test.YtfkjjoglnmeciaaGreatDoorMaz
set_option maxRecDepth 100000
set_option maxHeartbeats 16000000
namespace Go.Proofs.YtfkjjoglnmeciaaGreatDoor
open Go.Lib (hid)
section
open Go.RowKit Go.Maps
section
variable {a:DA} {L T n K:Nat} {x:HA} {cs:Nat->CS} {f:Nat->Option Nat} {N m b0:Nat} {S:Fp} {cur:Nat->Nat} {w:World} {d r:Nat}
def wSt (st:Nat) (dl:Bool):Nat:=2 * st+(if dl=true then 1 else 0)
def x5r (a:DA) (L T n K:Nat) (x:HA) (cs:Nat->CS) (f:Nat->Option Nat) (N m b0:Nat) (S:Fp) (cur:Nat->Nat) (w:World) (d r st:Nat) (dl:Bool) (dt ol:Nat) (e:Ending) (w':World):Prop :=
 ∃ k i S' cs' cur',e=.returned (.tuple #[.int .u64 (fptr 53 cs' 7 k i:Int),.int .i64 0])/\z9g 53 K cs f cur 0 cs' cur' k i/\SD a L (T+400+200) 53 n K x cs' (updF f (offO 53 cs' k i) (some (fptr 53 cs' 7 k i))) (N+1) (m+1) b0 S' (wrS cur' (pwW (pOff (fptr 53 cs' 7 k i)) [wSt st dl,dt,ol])) w' d r/\Chg (sfp S x) w w'/\Grew S S' w/\Rq 53 K cs' (updF f (offO 53 cs' k i) (some (fptr 53 cs' 7 k i))) 7 (fptr 53 cs' 7 k i) 0/\At 53 K cs' (fptr 53 cs' 7 k i) k i
theorem x0k (w:World) (o0 v0 o1 v1 o2 v2:Nat):z0c (w.alloc (.cells #[.int .u64 o0,.int .u64 v0,.int .u64 o1,.int .u64 v1,.int .u64 o2,.int .u64 v2] 114)) (w.alloc (.cells #[.int .u64 o0,.int .u64 v0,.int .u64 o1,.int .u64 v1,.int .u64 o2,.int .u64 v2] 114)).heap.size 2 (some ⟨w.heap.size,0,none⟩) 3 (z0d [(o0,v0),(o1,v1),(o2,v2)]):=by
 rw [show (w.alloc (.cells #[.int .u64 o0,.int .u64 v0,.int .u64 o1,.int .u64 v1,.int .u64 o2,.int .u64 v2] 114)).heap.size=w.heap.size+1 by simp];exact z0m w _ rfl _ 3 2 114 _ rfl rfl
theorem y9r (p : Option Addr) (w : World) : (method 640 59 (.pointer p) "Alloc").run Tryz.prog w=.ok (429,.pointer p) w := by kernel_rfl
theorem w3g (h:SD a L T 53 n K x cs f N m b0 S cur w d r) (st:Nat) (dl:Bool) (dt ol:Nat) (hok:z4p st dl dt=true) (hst:st<=4611686018427387903) (hdt:dt < 18446744073709551616) (hol:ol < 18446744073709551616) (hN:N < 1000000000) (hT:T+600<=1000000000)
  (hcap:(∃ k i,Vac 53 K cs f (z1e 3) k i)\/∃ k,k < K/\(cs k).dv=false) :
  Calls Tryz.prog 246 #[.iface 59 (.pointer (some ⟨d,0,none⟩)),.agg #[.int .u64 st,.bool dl,.int .u64 dt,.int .u64 ol]] w (x5r a L T n K x cs f N m b0 S cur w d r st dl dt ol):=by
 have HV:Hid (∀ W,Calls Tryz.prog 130 #[.agg #[.int .u64 st,.bool dl,.int .u64 dt,.int .u64 ol]] W fun e w'=>e=.returned (.bool true)/\Blw W w'):=hid (fun W=>by
  have h:=y3m st dl dt ol W;rw [hok] at h;exact h)
 have GN:Hid (Blw w (w.alloc (.cells #[.int .u64 st,.bool dl,.int .u64 dt,.int .u64 ol] 97))):=hid ((Below.refl _ _).alloc (nL _) _);have G0:=Blk.new w 97 #[.int .u64 st,.bool dl,.int .u64 dt,.int .u64 ol];have GP:=hid G0;have GS:Hid (¬ sfp S x w.heap.size):=hid (x8y h);have GZ:=hid h;have GM:Hid (∀ W,Blw w W->Calls Tryz.prog 429 #[.pointer (some ⟨d,0,none⟩),.int .i64 3,.int .u8 7] W (w6q a L T 53 n K x cs f N m b0 S cur W d r (z1e 3) 7)):=hid (fun W hW=>w3x (h.below hW) 3 7 oM oM oM oM hN oM hcap);have GX:Hid (∀ W,Blw w W->Calls Tryz.prog 432 #[.pointer (some ⟨d,0,none⟩)] W fun e w'=>e=.returned (.int .i64 0)/\W=w'):=hid (fun W hW=>errD (h.below hW).ds.dev ((h.below hW).dir));have Gd:=hid (show st<=4611686018427387903/\dt < 18446744073709551616/\ol < 18446744073709551616/\N < 1000000000/\T+600<=1000000000 from ⟨hst,hdt,hol,hN,hT⟩);have c0:(w.alloc (.cells #[.int .u64 st,.bool dl,.int .u64 dt,.int .u64 ol] 97)).cell? ⟨w.heap.size,0,none⟩=some (.int .u64 st):=G0.cell 0;have c1:(w.alloc (.cells #[.int .u64 st,.bool dl,.int .u64 dt,.int .u64 ol] 97)).cell? ⟨w.heap.size,1,none⟩=some (.bool dl):=G0.cell 1;have c2:(w.alloc (.cells #[.int .u64 st,.bool dl,.int .u64 dt,.int .u64 ol] 97)).cell? ⟨w.heap.size,2,none⟩=some (.int .u64 dt):=G0.cell 2;have c3:(w.alloc (.cells #[.int .u64 st,.bool dl,.int .u64 dt,.int .u64 ol] 97)).cell? ⟨w.heap.size,3,none⟩=some (.int .u64 ol):=G0.cell 3
 have GY:∀ W,(binOp .eql 83 (.iface 59 (.pointer (some ⟨d,0,none⟩))) .nilIface).run Tryz.prog W=.ok (.bool false) W:=fun W=>by rfl
 have Db:=z3b (some ⟨d,0,none⟩);have Da:=y9r (some ⟨d,0,none⟩);clear h G0 hok hst hdt hol hN hT hcap;go_enter Tryz.func246,Tryz.ntmps246
 go_wp2_with (go_at_call 130;refine (HV.out _).mono ?_;rintro e w2 ⟨rfl,GJ⟩;have Gh:=hid (GN.out.trans (GJ.mono GN.out.size));have GQ:=hid (GP.out.below GJ GP.out.lt);clear GJ;refine stop ?_)
 unfold Stop;have GO:=hid (GX.out w2 Gh.out);have GL:=hid (GM.out w2 Gh.out);clear c0 c1 c2 c3;go_wp2_with (first
  | (go_at_call 432;refine GO.out.mono ?_;rintro e w3 ⟨rfl,rfl⟩)
  | (go_at_call 429;refine GL.out.mono ?_;rintro e w3 ⟨k,i,S3,GB,G5,rfl,GC,Gz,Gw,Gx⟩;refine stop ?_))
 unfold Stop;obtain ⟨G6,GI⟩:=Rq.new Gz.ds (kind:=7) ⟨oM,oM⟩ GC rfl;have GW:(GB k).cl=0:=GC.vac.2.2.1;obtain ⟨q,hq⟩:∃ q,fptr 53 GB 7 k i=q:=⟨_,rfl⟩
 have HQ:=hid hq;rw [hq] at GI G6 ⊢;have GK:=G6.keep.nz.2;have G1:=Gw.blk GQ.out GS.out;have GR:Hid (¬ S3 w.heap.size):=hid (fun hz=>(Gx _ hz).elim (fun h=>GS.out (.inl h)) (fun h=>absurd GQ.out.lt (Nat.not_lt.2 h)));have G9:=hid G1;have Gl:=hid Gz;have GT:=hid GC;have Gi:=hid Gw;have Gj:=hid Gx;have Gb:=hid (And.intro GI GW);have GU:=hid G6;have G8:Hid (∀ (y:Nat) (W:World),y < 3->Calls Tryz.prog 49 #[.int .u64 q,.int .i64 y] W fun e w'=>e=.returned (.int .u64 ((pOff q+8 * y:Nat):Int))/\W=w'):=hid (fun y W hy=>by
  have h1:=z8w q y oM W;have h2:pAt q y=pOff q+8 * y:=by unfold pAt;rw [if_neg (by have:=G6.keep.nz.1;omega)]
  rw [h2] at h1;exact h1)
 have Gk:Hid (∀ y,y < 3->pOff q+8 * y < 18446744073709551616):=hid (fun y hy=>by unfold pOff;omega);obtain ⟨hst,hdt,hol,hN,hT⟩:=Gd.out;obtain ⟨sv,GD⟩:∃ sv,wSt st dl=sv:=⟨_,rfl⟩
 have Gn:sv < 18446744073709551616:=by rw [<- GD];unfold wSt;split <;> omega
 have GA:=hid (And.intro GD Gn);have G4:Hid (pwW (pOff q) [sv,dt,ol]=[(pOff q+8 * 0,sv),(pOff q+8 * 1,dt),(pOff q+8 * 2,ol)]):=hid rfl;have f0:w3.cell? ⟨w.heap.size,0,none⟩=some (.int .u64 st):=G1.cell 0;have f1:w3.cell? ⟨w.heap.size,1,none⟩=some (.bool dl):=G1.cell 1;have f2:w3.cell? ⟨w.heap.size,2,none⟩=some (.int .u64 dt):=G1.cell 2;have f3:w3.cell? ⟨w.heap.size,3,none⟩=some (.int .u64 ol):=G1.cell 3;have GE:Hid (∀ W,Calls Tryz.prog 49 #[.int .u64 q,.int .i64 0] W fun e w'=>e=.returned (.int .u64 ((pOff q+8 * 0:Nat):Int))/\W=w'):=hid (fun W=>G8.out 0 W oM);have GF:Hid (∀ W,Calls Tryz.prog 49 #[.int .u64 q,.int .i64 1] W fun e w'=>e=.returned (.int .u64 ((pOff q+8 * 1:Nat):Int))/\W=w'):=hid (fun W=>G8.out 1 W oM);have Go:Hid (∀ W,Calls Tryz.prog 49 #[.int .u64 q,.int .i64 2] W fun e w'=>e=.returned (.int .u64 ((pOff q+8 * 2:Nat):Int))/\W=w'):=hid (fun W=>G8.out 2 W oM);have HO:Hid ((pOff q+8 * 0 < 18446744073709551616/\pOff q+8 * 1 < 18446744073709551616/\pOff q+8 * 2 < 18446744073709551616)):=hid ⟨Gk.out 0 oM,Gk.out 1 oM,Gk.out 2 oM⟩;generalize pOff q+8 * 0=o0 at GE G4 HO;generalize pOff q+8 * 1=o1 at GF G4 HO;generalize pOff q+8 * 2=o2 at Go G4 HO
 have GV:Hid (∀ W:World,Calls Tryz.prog 105 #[.slice (some ⟨W.heap.size,0,none⟩) 3 3] (W.alloc (.cells #[.int .u64 o0,.int .u64 sv,.int .u64 o1,.int .u64 dt,.int .u64 o2,.int .u64 ol] 114)) (z2s (W.alloc (.cells #[.int .u64 o0,.int .u64 sv,.int .u64 o1,.int .u64 dt,.int .u64 o2,.int .u64 ol] 114)) (z0y [(o0,sv),(o1,dt),(o2,ol)]))):=hid (fun W=>z1q _ 3 3 _ _ (x0k W o0 sv o1 dt o2 ol) oM oM (fun e he=>by
  simp only [List.mem_cons,List.not_mem_nil,or_false] at he;obtain ⟨g0,g1,g2⟩:=HO.out;rcases he with rfl | rfl | rfl
  ·exact g0
  ·exact g1
  ·exact g2))
 have G7:(if dl=true then (2 * (st:Int)+1) else 2 * (st:Int))=(sv:Int):=by
  rw [<- GD];unfold wSt;split <;> omega
 have e1:IntKind.u64.wrap (2 * (st:Int))=2 * (st:Int):=wraps_u64 _ oM oM;have e2:IntKind.u64.wrap (2 * (st:Int)+1)=2 * (st:Int)+1:=wraps_u64 _ oM oM;have e4:IntKind.u64.wrap (sv:Int)=(sv:Int):=wraps_u64 _ oM oM;clear GC Gz Gw Gx G6 GI GW hq GK G1 hst hdt hol hN hT GD Gn G8 Gk GO GL GM HV;go_upto_region 10 with fail
 cases dl
 ·have e3:2 * (st:Int)=(sv:Int):=G7
  go_upto_region 12 with fail
  refine z0g (fun w'=>w'.cell? ⟨w.heap.size,2,none⟩=some (.int .u64 dt)/\w'.cell? ⟨w.heap.size,3,none⟩=some (.int .u64 ol)) 19 [] [(1,0),(1,2),(1,4),(1,6),(1,7),(1,9),(1,11),(1,12),(1,16),(0,1),(1,3),(0,5),(1,8),(0,10),(1,13),(0,14),(0,15),(0,17),(1,18)] (by kernel_rfl) (by kernel_rfl) ⟨f2,f3⟩ ?_;refine tkG (.int .u64 q) ?_;refine tkG (.int .u64 sv) ?_;refine tkG (.int .u64 q) ?_;refine tkG (.pointer (some ⟨w.heap.size,2,none⟩)) ?_;refine tkH (.int .u64 dt) (fun w' hS=>?_) ?_
  ·obtain ⟨s1,s2⟩:=hS
   go_simp
  refine tkG (.int .u64 q) ?_;refine tkG (.pointer (some ⟨w.heap.size,3,none⟩)) ?_;refine tkH (.int .u64 ol) (fun w' hS=>?_) ?_
  ·obtain ⟨s1,s2⟩:=hS
   go_simp
  refine tkG (.iface 59 (.pointer (some ⟨d,0,none⟩))) ?_;refine z0b (by rfl) ?_;go_wp2_with (go_at_call 49;refine (GE.out _).mono ?_;rintro e w4 ⟨rfl,rfl⟩)
  refine ⟨⟨f2,f3⟩,?_⟩;refine tkG (.agg #[.int .u64 o0,.int .u64 sv]) ?_;refine z0b (by rfl) ?_;go_wp2_with (go_at_call 49;refine (GF.out _).mono ?_;rintro e w4 ⟨rfl,rfl⟩)
  refine ⟨⟨f2,f3⟩,?_⟩;refine tkG (.agg #[.int .u64 o1,.int .u64 dt]) ?_;refine z0b (by rfl) ?_;go_wp2_with (go_at_call 49;refine (Go.out _).mono ?_;rintro e w4 ⟨rfl,rfl⟩)
  refine ⟨⟨f2,f3⟩,?_⟩;refine tkG (.agg #[.int .u64 o2,.int .u64 ol]) ?_;refine z0b (by rfl) ?_;go_wp2_with fail
  have Gu:Blw w3 (w3.drew.alloc (.cells #[.int .u64 o0,.int .u64 sv,.int .u64 o1,.int .u64 dt,.int .u64 o2,.int .u64 ol] 114)):=(Below.refl w3.heap.size w3).drew.alloc (nL _) _;have Gm:=G9.out.below Gu G9.out.lt;have Gp:=hid Gu;have G2:=hid Gm;clear Gu;refine ⟨⟨Gm.cell 2,Gm.cell 3⟩,?_⟩;clear Gm;refine z0b (by rfl) ?_;go_wp2_with (go_at_call 105;refine (GV.out w3.drew).mono ?_;rintro e w5 ⟨A5,m5,c5,pp,rfl,hst,Ga,Gv⟩;have GH:=hid hst;have GG:=hid Ga;have Gq:Hid (Blw w3 w5):=hid (Gp.out.trans (Gv.mono Gp.out.size));have Gs:=hid (G2.out.below Gv G2.out.lt);clear hst Ga Gv)
  refine ⟨⟨Gs.out.cell 2,Gs.out.cell 3⟩,?_⟩;have G3:=hid ((Gl.out.below Gq.out).paid Gb.out.1 (l:=[sv,dt,ol]) (by rw [Gb.out.2];rfl) (fun y hy=>by simp only [List.mem_cons,List.not_mem_nil,or_false] at hy;have h1:=GA.out.2;have h2:=Gd.out;rcases hy with e | e | e <;> omega) GG.out (fun g hg=>Nat.lt_of_lt_of_le (Gl.out.ds.dev.lt g hg) Gp.out.size) (by rw [G4.out];exact GH.out) (by have:=Gd.out;omega));unfold dirV at G3;refine z0b (by rfl) ?_;go_wp2_with (go_at_call 78;refine G3.out.mono ?_;rintro e w6 ⟨rfl,S6,Gg,Ge,Gf⟩;have Gt:=hid Gg;have Gc:=hid Ge;have Gr:=hid Gf;clear Gg Ge Gf)
  have Gy:=Gc.out.blk Gs.out GR.out;refine ⟨⟨Gy.cell 2,Gy.cell 3⟩,?_⟩;clear Gy;refine tkG (.int .i64 0) ?_;show wpList _ _ _ _ _ _;simp only [List.drop_succ_cons,List.drop_zero];go_wp2_with fail
  refine NoPanic.normal ?_;clear f0 f1 f2 f3;go_wp2;go_ret2;unfold x5r;refine ⟨k,i,S6,GB,G5,by rw [HQ.out];rfl,GT.out,by rw [GA.out.1];have h6:=Gt.out;rw [<- HQ.out] at h6;exact h6,?_,?_,by rw [HQ.out];exact GU.out,by rw [HQ.out];exact Gb.out.1⟩
  ·have h1:=(Chg.of_below Gh.out).trans Gi.out (Grew.refl (sfp S x) w)
   have h2:=h1.trans ((Chg.of_below Gq.out).trans (Gc.out.mono (fun _ h => .inl h)) (Grew.refl (sfp S3 x) _)) (fun z hz=>hz.elim (fun h=>(Gj.out z h).elim (fun h => .inl (.inl h)) (fun h => .inr (Nat.le_trans Gh.out.size h))) (fun h => .inl (.inr h)));exact h2
  ·exact fun z hz=>(Gr.out z hz).elim (fun h=>(Gj.out z h).imp id (fun h=>Nat.le_trans Gh.out.size h)) (fun h => .inr (Nat.le_trans (Nat.le_trans Gh.out.size Gi.out.size) (Nat.le_trans Gq.out.size h)))
 ·have e3:2 * (st:Int)+1=(sv:Int):=G7
  go_upto_region 12 with fail
  refine z0g (fun w'=>w'.cell? ⟨w.heap.size,2,none⟩=some (.int .u64 dt)/\w'.cell? ⟨w.heap.size,3,none⟩=some (.int .u64 ol)) 19 [] [(1,0),(1,2),(1,4),(1,6),(1,7),(1,9),(1,11),(1,12),(1,16),(0,1),(1,3),(0,5),(1,8),(0,10),(1,13),(0,14),(0,15),(0,17),(1,18)] (by kernel_rfl) (by kernel_rfl) ⟨f2,f3⟩ ?_;refine tkG (.int .u64 q) ?_;refine tkG (.int .u64 sv) ?_;refine tkG (.int .u64 q) ?_;refine tkG (.pointer (some ⟨w.heap.size,2,none⟩)) ?_;refine tkH (.int .u64 dt) (fun w' hS=>?_) ?_
  ·obtain ⟨s1,s2⟩:=hS
   go_simp
  refine tkG (.int .u64 q) ?_;refine tkG (.pointer (some ⟨w.heap.size,3,none⟩)) ?_;refine tkH (.int .u64 ol) (fun w' hS=>?_) ?_
  ·obtain ⟨s1,s2⟩:=hS
   go_simp
  refine tkG (.iface 59 (.pointer (some ⟨d,0,none⟩))) ?_;refine z0b (by rfl) ?_;go_wp2_with (go_at_call 49;refine (GE.out _).mono ?_;rintro e w4 ⟨rfl,rfl⟩)
  refine ⟨⟨f2,f3⟩,?_⟩;refine tkG (.agg #[.int .u64 o0,.int .u64 sv]) ?_;refine z0b (by rfl) ?_;go_wp2_with (go_at_call 49;refine (GF.out _).mono ?_;rintro e w4 ⟨rfl,rfl⟩)
  refine ⟨⟨f2,f3⟩,?_⟩;refine tkG (.agg #[.int .u64 o1,.int .u64 dt]) ?_;refine z0b (by rfl) ?_;go_wp2_with (go_at_call 49;refine (Go.out _).mono ?_;rintro e w4 ⟨rfl,rfl⟩)
  refine ⟨⟨f2,f3⟩,?_⟩;refine tkG (.agg #[.int .u64 o2,.int .u64 ol]) ?_;refine z0b (by rfl) ?_;go_wp2_with fail
  have Gu:Blw w3 (w3.drew.alloc (.cells #[.int .u64 o0,.int .u64 sv,.int .u64 o1,.int .u64 dt,.int .u64 o2,.int .u64 ol] 114)):=(Below.refl w3.heap.size w3).drew.alloc (nL _) _;have Gm:=G9.out.below Gu G9.out.lt;have Gp:=hid Gu;have G2:=hid Gm;clear Gu;refine ⟨⟨Gm.cell 2,Gm.cell 3⟩,?_⟩;clear Gm;refine z0b (by rfl) ?_;go_wp2_with (go_at_call 105;refine (GV.out w3.drew).mono ?_;rintro e w5 ⟨A5,m5,c5,pp,rfl,hst,Ga,Gv⟩;have GH:=hid hst;have GG:=hid Ga;have Gq:Hid (Blw w3 w5):=hid (Gp.out.trans (Gv.mono Gp.out.size));have Gs:=hid (G2.out.below Gv G2.out.lt);clear hst Ga Gv)
  refine ⟨⟨Gs.out.cell 2,Gs.out.cell 3⟩,?_⟩;have G3:=hid ((Gl.out.below Gq.out).paid Gb.out.1 (l:=[sv,dt,ol]) (by rw [Gb.out.2];rfl) (fun y hy=>by simp only [List.mem_cons,List.not_mem_nil,or_false] at hy;have h1:=GA.out.2;have h2:=Gd.out;rcases hy with e | e | e <;> omega) GG.out (fun g hg=>Nat.lt_of_lt_of_le (Gl.out.ds.dev.lt g hg) Gp.out.size) (by rw [G4.out];exact GH.out) (by have:=Gd.out;omega));unfold dirV at G3;refine z0b (by rfl) ?_;go_wp2_with (go_at_call 78;refine G3.out.mono ?_;rintro e w6 ⟨rfl,S6,Gg,Ge,Gf⟩;have Gt:=hid Gg;have Gc:=hid Ge;have Gr:=hid Gf;clear Gg Ge Gf)
  have Gy:=Gc.out.blk Gs.out GR.out;refine ⟨⟨Gy.cell 2,Gy.cell 3⟩,?_⟩;clear Gy;refine tkG (.int .i64 0) ?_;show wpList _ _ _ _ _ _;simp only [List.drop_succ_cons,List.drop_zero];go_wp2_with fail
  refine NoPanic.normal ?_;clear f0 f1 f2 f3;go_wp2;go_ret2;unfold x5r;refine ⟨k,i,S6,GB,G5,by rw [HQ.out];rfl,GT.out,by rw [GA.out.1];have h6:=Gt.out;rw [<- HQ.out] at h6;exact h6,?_,?_,by rw [HQ.out];exact GU.out,by rw [HQ.out];exact Gb.out.1⟩
  ·have h1:=(Chg.of_below Gh.out).trans Gi.out (Grew.refl (sfp S x) w)
   have h2:=h1.trans ((Chg.of_below Gq.out).trans (Gc.out.mono (fun _ h => .inl h)) (Grew.refl (sfp S3 x) _)) (fun z hz=>hz.elim (fun h=>(Gj.out z h).elim (fun h => .inl (.inl h)) (fun h => .inr (Nat.le_trans Gh.out.size h))) (fun h => .inl (.inr h)));exact h2
  ·exact fun z hz=>(Gr.out z hz).elim (fun h=>(Gj.out z h).imp id (fun h=>Nat.le_trans Gh.out.size h)) (fun h => .inr (Nat.le_trans (Nat.le_trans Gh.out.size Gi.out.size) (Nat.le_trans Gq.out.size h)))
end
end
section
open Go.RowKit Go.Maps
structure VV where
 st:Nat
 dl:Bool
 q:Nat
 bl:List Nat
 p:List Nat
def VV.dt (v:VV):Nat:=v.bl.headD 0
def hdQ:List VV->Nat
 | []=>0
 | v :: _=>v.q
structure VerA (K:Nat) (cs:Nat->CS) (cur:Nat->Nat) (v:VV) (older:Nat):Prop where
 live:∃ k i,z3z 53 K cs v.q 7 k i/\(cs k).cl=0
 words:z2t cur v.q [wSt v.st v.dl,v.dt,older]
 blen:v.bl.length=if v.dl=true then 0 else nBlk v.p.length
 bk:∀ j (hj:j < v.bl.length),BkA K cs cur v.bl[j] (v.bl.getD (j+1) 0) (v.p.drop (456 * j))
 pb:∀ b∈v.p,b < 256
 pl:v.p.length<=2000
 sp:v.st<=4611686018427387903
def z2r (K:Nat) (cs:Nat->CS) (cur:Nat->Nat):List VV->Prop
 | []=>True
 | v :: t=>VerA K cs cur v (hdQ t)/\z2r K cs cur t/\∀ u∈t,u.st < v.st
theorem z5s:∀ (l:List Nat) (h:0 < l.length),l.headD 0=l[0]
 | [],h=>absurd h (Nat.lt_irrefl 0)
 | _ :: _,_=>rfl
theorem x1w (c:Nat):3<=payW c:=by
 rcases c with _ | _ | _ | _ | _ <;> simp [payW]
section
variable {K:Nat} {cs cs':Nat->CS} {cur cur':Nat->Nat} {v:VV} {older:Nat}
theorem VerA.dtz (h:VerA K cs cur v older):v.dl=decide (v.dt=0):=by
 cases hd:v.dl with
 | true =>
  have h1:=h.blen;rw [hd,if_pos rfl] at h1;have h2:v.bl=[]:=List.eq_nil_of_length_eq_zero h1;unfold VV.dt;rw [h2];rfl
 | false =>
  have h1:=h.blen;rw [hd,if_neg (by decide)] at h1;have h2:=z4h v.p;have h3:0 < v.bl.length:=oM;obtain ⟨k,i,g1,_⟩:=(h.bk 0 h3).live;have e0:v.bl.headD 0=v.bl[0]:=z5s _ h3;unfold VV.dt;rw [e0,decide_eq_false g1.nz]
theorem y5j (st:Nat) (dl:Bool):wSt st dl / 2=st/\decide (wSt st dl % 2=1)=dl:=by
 unfold wSt;cases dl
 ·rw [if_neg (by decide)]
  exact ⟨oM,dF⟩
 ·rw [if_pos rfl]
  exact ⟨oM,dT⟩
theorem VerA.rd (h:VerA K cs cur v older):verR cur (fun q=>chkR 53 K cs q 7) v.q=(0,v.st,v.dl,v.dt,older):=by
 obtain ⟨k,i,h1,_⟩:=h.live;have hc:=(Live.chk ⟨k,i,h1⟩).1;have w0:=h.words 0 (by simp);have w1:=h.words 1 (by simp);have w2:=h.words 2 (by simp);rw [Nat.add_zero] at w0;have e0:cur (pOff v.q / 8)=wSt v.st v.dl:=w0;have e1:cur (pOff v.q / 8+1)=v.dt:=w1;have e2:cur (pOff v.q / 8+2)=older:=w2;have Ga:z4p v.st v.dl v.dt=true:=by
  unfold z4p;rw [decide_eq_true h.sp,Bool.true_and,<- h.dtz];simp
 unfold verR;rw [if_neg (fun hn=>hn hc),e0,e1,e2,(y5j v.st v.dl).1,(y5j v.st v.dl).2,if_pos Ga]
theorem VerA.nz (h:VerA K cs cur v older):v.q≠0/\v.q < 18446744073709551616:=by
 obtain ⟨k,i,h1,_⟩:=h.live;exact ⟨h1.nz,h1.lt⟩
theorem z2r.hd64 {l:List VV} (h:z2r K cs cur l):hdQ l < 18446744073709551616:=by
 match l,h with
 | [],_=>exact show (0:Nat) < 18446744073709551616 by omega
 | v :: t,h=>exact h.1.nz.2
theorem VerA.keep {bl2:List Nat} (hk:x5k K cs cur bl2 cs' cur') (h:VerA K cs cur v older):VerA K cs' cur' v older:=by
 obtain ⟨k,i,h1,h0⟩:=h.live;obtain ⟨g1,g2,g3,g4⟩:=hk v.q 7 k i h1;refine ⟨⟨k,i,g1,g2.trans h0⟩,fun y hy=>?_,h.blen,fun j hj=>(hk.bk (h.bk j hj)).1,h.pb,h.pl,h.sp⟩;have h3:=x1w (cs k).cl;have Ga:y < 3:=hy;rw [g4 y oM];exact h.words y hy
theorem z2r.keep {bl2:List Nat} (hk:x5k K cs cur bl2 cs' cur'):∀ {l:List VV},z2r K cs cur l->z2r K cs' cur' l
 | [],_=>trivial
 | _ :: _,h=>⟨h.1.keep hk,z2r.keep hk h.2.1,h.2.2⟩
end
def z7m {σ:Type} (st:σ->Nat->Nat × Bool × Nat × Nat->σ × Bool):List VV->σ->σ
 | [],s=>s
 | v :: t,s=>if (st s v.q (v.st,v.dl,v.dt,hdQ t)).2=false then (st s v.q (v.st,v.dl,v.dt,hdQ t)).1 else z7m st t (st s v.q (v.st,v.dl,v.dt,hdQ t)).1
theorem y6q {σ:Type} {K:Nat} {cs:Nat->CS} {cur:Nat->Nat} (st:σ->Nat->Nat × Bool × Nat × Nat->σ × Bool):∀ (l:List VV) (k last n:Nat) (s:σ),z2r K cs cur l->(∀ v∈l,v.st < last)->l.length < k->n+l.length<=4096 ->
  folW (verR cur (fun q=>chkR 53 K cs q 7)) st k (hdQ l) last n s=(0,z7m st l s)
 | [],0,_,_,_,_,_,h,_=>absurd h (Nat.lt_irrefl 0)
 | [],k+1,last,n,s,_,_,_,_=>by
  unfold folW;rw [show hdQ []=0 from rfl,if_pos rfl];rfl
 | v :: t,0,_,_,_,_,_,h,_=>absurd h (Nat.not_lt_zero _)
 | v :: t,k+1,last,n,s,hh,hl,hk,hn=>by
  have hr:=hh.1.rd;rw [List.length_cons] at hk hn;unfold folW;rw [show hdQ (v :: t)=v.q from rfl,if_neg hh.1.nz.1,hr,if_neg (by
   rintro (h | h | h)
   ·exact h rfl
   ·omega
   ·have:=hl v (by simp)
    have h':last<=v.st:=h;omega)]
  show (if (st s v.q (v.st,v.dl,v.dt,hdQ t)).2=false then (0,(st s v.q (v.st,v.dl,v.dt,hdQ t)).1) else folW (verR cur (fun q=>chkR 53 K cs q 7)) st k (hdQ t) v.st (n+1) (st s v.q (v.st,v.dl,v.dt,hdQ t)).1)=_;unfold z7m;by_cases h1:(st s v.q (v.st,v.dl,v.dt,hdQ t)).2=false
  ·rw [if_pos h1,if_pos h1]
  ·rw [if_neg h1,if_neg h1]
   exact y6q st t k v.st (n+1) _ hh.2.1 hh.2.2 oM oM
section
variable {a:DA} {L T n K:Nat} {x:HA} {cs0 cs cs' cs2:Nat->CS} {f0 f f2:Nat->Option Nat} {N m b0:Nat} {S:Fp} {cur0 cur cur' cur2:Nat->Nat} {w:World} {al p bl ks:List Nat} {V:Nat->Nat} {cm i:Nat}
theorem VerA.blob {v:VV} {older:Nat} (h:VerA K cs cur v older) (hd:DS a L T 53 n K x cs f N m b0 S cur w) (hdl:v.dl=false):z1b L cur (fun q=>chkR 53 K cs q 1) v.dt=(0,v.bl,v.p):=by
 have h1:=h.blen;rw [hdl,if_neg (by decide)] at h1;exact x3d (w0o hd h1 h.pl h.bk) h.pb h.pl
structure Prep (K:Nat) (cs0:Nat->CS) (f0:Nat->Option Nat) (cur0:Nat->Nat) (cs:Nat->CS) (f:Nat->Option Nat) (cur:Nat->Nat) (bl:List Nat):Prop where
 fr:Fr 53 K cs0 f0 cur0 cs f cur
 rq:∀ q∈bl,∃ kind c,kind < 128/\Rq 53 K cs f kind q c
 nd:(bl.map pOff).Nodup
 fresh:∀ q∈bl,y2d 53 K cs0 f0 q
theorem Prep.nil:Prep K cs f cur cs f cur []:=⟨Fr.refl,fun q h=>absurd h (by simp),List.nodup_nil,fun q h=>absurd h (by simp)⟩
theorem Prep.of2 (hw:W2 53 K cs f cur al p cs2 f2 cur2 bl bl.length):Prep K cs f cur cs2 f2 cur2 bl :=
 ⟨hw.w1.fr,fun q hq=>by
  obtain ⟨j,hj,e⟩:=List.getElem_of_mem hq;subst e;exact ⟨1,_,oM,hw.w1.rq j hj⟩,hw.w1.nd,hw.w1.fresh⟩
theorem Fr.paid {q k i:Nat} {l:List Nat} (hF:Fr 53 K cs0 f0 cur0 cs f cur) (hat:At 53 K cs q k i) (hl:l.length<=payW (cs k).cl) (hfr:y2d 53 K cs0 f0 q):Fr 53 K cs0 f0 cur0 cs f (wrS cur (pwW (pOff q) l)):=by
 refine ⟨fun y hy=>?_,hF.chunk,hF.map,fun k3 i3 hk hdv hi3 hn j hj=>?_,hF.neu⟩
 ·rw [z4l hat hl (fun j hj=>oM)]
  exact hF.head y hy
 ·rw [z4l hat hl (fun j2 hj2=>?_)]
  ·exact hF.held k3 i3 hk hdv hi3 hn j hj
  ·have e3:=hF.chunk k3 hk hdv
   have h4:=z4k (s:=53) (cs:=cs) (k:=k3) (i:=i3) (k':=k) (i':=i) (j:=j) (j':=j2) (by rw [e3];exact hi3) hat.2.2.1 (by rw [e3];exact hj) hj2 (fun ⟨q1,q2⟩=>by
    subst q1 q2;refine hn (hfr k3 i3 ⟨hk,hdv,hi3,?_⟩);rw [hat.2.2.2,hF.off hk hdv])
   rw [e3] at h4;exact h4
theorem Rq.words {kind q c:Nat} {l:List Nat} {f':Nat->Option Nat} (h:Rq 53 K cs f kind q c) (hF:Fr 53 K cs f cur cs' f' cur') (hl:l.length<=payW c) (hw:z2t cur q l):z2t cur' q l:=fun y hy=>by
 obtain ⟨k,i,Ga,hc,_⟩:=h.cls;have h5:=hw y hy;have h1:=Ga.lines.1;rw [h1] at h5 ⊢;refine (hF.held k i Ga.1 Ga.2.1 Ga.2.2.1 (fun hv=>?_) y (by rw [hc];omega)).trans h5;have hr:=h.keep.res;rw [Ga.2.2.2,hv.2.2.2.2.2] at hr;cases hr
theorem Prep.add {cl k i kind q:Nat} {l:List Nat} (h:Prep K cs0 f0 cur0 cs f cur bl) (hd:DS a L T 53 n K x cs f N m b0 S cur w) (ho:z9g 53 K cs f cur cl cs' cur' k i) (hcl:cl < 5) (hk:kind < 128) (hq:fptr 53 cs' kind k i=q) (hr:Rq 53 K cs' (updF f (offO 53 cs' k i) (some q)) kind q cl) (hat:At 53 K cs' q k i) (hl:l.length<=payW (cs' k).cl) :
  Prep K cs0 f0 cur0 cs' (updF f (offO 53 cs' k i) (some q)) (wrS cur' (pwW (pOff q) l)) (bl++[q])/\Fr 53 K cs f cur cs' (updF f (offO 53 cs' k i) (some q)) (wrS cur' (pwW (pOff q) l)):=by
 have hF:=Fr.alloc (v:=q) hd hcl ho;have Ga:y2d 53 K cs0 f0 q:=y4i (_cur':=cur') h.fr hF.chunk ho.vac hat;have Gb:y2d 53 K cs f q:=y4i (_cur':=cur') (Fr.refl (cur:=cur)) hF.chunk ho.vac hat;refine ⟨⟨(h.fr.trans hF).paid hat hl Ga,fun z hz=>?_,?_,fun z hz=>?_⟩,hF.paid hat hl Gb⟩
 ·rcases List.mem_append.1 hz with h1 | h1
  ·obtain ⟨kd,c,h2,h3⟩:=h.rq z h1
   exact ⟨kd,c,h2,(h3.step hd hcl ho).1⟩
  ·rw [List.mem_singleton.1 h1]
   exact ⟨kind,cl,hk,hr⟩
 ·rw [List.map_append,List.nodup_append]
  refine ⟨h.nd,by simp,fun u hu v hv=>?_⟩;obtain ⟨z,hz,rfl⟩:=List.mem_map.1 hu;have Gc:v=pOff q:=by
   rw [List.map_cons,List.map_nil,List.mem_singleton] at hv;exact hv
  obtain ⟨kd,c,h2,h3⟩:=h.rq z hz;rw [Gc,hat.2.2.2];exact (h3.step (v:=0) hd hcl ho).2
 ·rcases List.mem_append.1 hz with h1 | h1
  ·exact h.fresh z h1
  ·rw [List.mem_singleton.1 h1]
   exact Ga
theorem Prep.keepL (hd:DS a L T 53 n K x cs2 f2 N m b0 S cur2 w) (hP:Prep K cs f cur cs2 f2 cur2 bl) {v:Nat} (hA:AOk 53 K cs2 ks (tlOf 53 cs2 bl) (dlOf 53 cs2 []) V)
  (h96:([(3328+8 * i,v)]++ks.flatMap (acW 53 cs2 (tlOf 53 cs2 bl) (dlOf 53 cs2 []) V)).length<=96) (hi:i < 8) :
  x5k K cs cur bl (acC cs2 ks (tlOf 53 cs2 bl) (dlOf 53 cs2 []) V) (rdG 0 cur2 ([(3328+8 * i,v)]++ks.flatMap (acW 53 cs2 (tlOf 53 cs2 bl) (dlOf 53 cs2 []) V)) cm):=by
 intro q kind k i2 hl;have Ga:=hl.at_;have e1:=hP.fr.chunk k Ga.1 Ga.2.1;have Gg:((cs k).bs i2).st=177:=by rw [hl.bk]
 have Gf:¬ Vac 53 K cs f (cs k).cl k i2:=fun hv=>by
  have:=hv.2.2.2.2.1;omega
 have Gb:z3z 53 K cs2 q kind k i2:=⟨⟨Ga.1,by rw [e1];exact Ga.2.1,by rw [e1];exact Ga.2.2.1,by rw [Ga.2.2.2];unfold offO;rw [e1]⟩,by rw [e1];exact hl.bk,hl.kind_,hl.nz,hl.lt,hl.top⟩
 have Ge:∀ r∈bl,pOff r≠pOff q:=fun r hr e=>Gf (hP.fresh r hr k i2 ⟨Ga.1,Ga.2.1,Ga.2.2.1,e.trans Ga.2.2.2⟩)
 have Gc:∀ r∈bl,∃ k i,At 53 K cs2 r k i:=fun r hr=>by
  obtain ⟨kd,c,_,h3⟩:=hP.rq r hr;obtain ⟨k3,i3,h4,_⟩:=h3.cls;exact ⟨k3,i3,h4⟩
 refine ⟨z9x Gc (fun r hr=>absurd hr (by simp)) Gb Ge (fun r hr=>absurd hr (by simp)),?_,?_,fun j hj=>?_⟩
 ·obtain ⟨_,e2,_⟩:=z5o cs2 ks (tlOf 53 cs2 bl) (dlOf 53 cs2 []) V k
  rw [e2,e1]
 ·intro hm
  obtain ⟨r,hr,e⟩:=List.mem_map.1 hm;exact Ge r hr e
 ·have Gd:=Gb.at_.lines.1
  have h5:=hP.fr.held k i2 Ga.1 Ga.2.1 Ga.2.2.1 Gf j hj;have h6:=y9y (s0:=0) (cm:=cm) (j:=j) hd oM hA h96 Gb.at_.1 Gb.at_.2.1 Gb.at_.2.2.1 (by rw [e1];exact hj) (fun e he=>by
   simp at he;subst he;show (3328+8 * i) / 8≠_;omega)
  rw [e1] at h6 Gd;rw [Gd];exact h6.trans h5
theorem y7v (hd:DS a L T 53 n K x cs2 f2 N m b0 S cur2 w) {v q kind c:Nat} {l:List Nat} (hA:AOk 53 K cs2 ks (tlOf 53 cs2 bl) (dlOf 53 cs2 []) V) (hks:∀ k,k∈ks↔k < K/\(tlOf 53 cs2 bl k≠[]\/dlOf 53 cs2 [] k≠[]))
  (h96:([(3328+8 * i,v)]++ks.flatMap (acW 53 cs2 (tlOf 53 cs2 bl) (dlOf 53 cs2 []) V)).length<=96) (hi:i < 8) (hr:Rq 53 K cs2 f2 kind q c) (hq:q∈bl) (h128:kind < 128) (hl:l.length<=payW c) (hw:z2t cur2 q l) :
  (∃ k i2,z3z 53 K (acC cs2 ks (tlOf 53 cs2 bl) (dlOf 53 cs2 []) V) q kind k i2/\(acC cs2 ks (tlOf 53 cs2 bl) (dlOf 53 cs2 []) V k).cl=c)/\z2t (rdG 0 cur2 ([(3328+8 * i,v)]++ks.flatMap (acW 53 cs2 (tlOf 53 cs2 bl) (dlOf 53 cs2 []) V)) cm) q l:=by
 obtain ⟨k,i2,h1,h2,h3⟩:=y4z hA hks hr hq h128;obtain ⟨_,e2,_⟩:=z5o cs2 ks (tlOf 53 cs2 bl) (dlOf 53 cs2 []) V k;refine ⟨⟨k,i2,h1,by rw [e2,h2]⟩,fun y hy=>?_⟩;have h5:=hw y hy;have Ga:=h3.lines.1;rw [Ga] at h5 ⊢;refine (y9y hd oM hA h96 h3.1 h3.2.1 h3.2.2.1 (by rw [h2];omega) (fun e he=>?_)).trans h5;simp at he;subst he;show (3328+8 * i) / 8≠_;omega
theorem w2o (hd:DS a L T 53 n K x cs2 f2 N m b0 S cur2 w) {v:Nat} (hA:AOk 53 K cs2 ks (tlOf 53 cs2 bl) (dlOf 53 cs2 []) V) (hi:i < 8) (hv:v < 18446744073709551616):rdG 0 cur2 ([(3328+8 * i,v)]++ks.flatMap (acW 53 cs2 (tlOf 53 cs2 bl) (dlOf 53 cs2 []) V)) cm (416+i)=v:=by
 have hu:=y9m hd i v hi hv;have h:=y5a (cur:=cur2) (cm:=cm) (z8j hd oM hu hA) (z5z hu hA) (e:=(3328+8 * i,v)) (by simp);have e:(3328+8 * i) / 8=416+i:=oM;rw [<- e];exact h
end
end
end Go.Proofs.YtfkjjoglnmeciaaGreatDoor
