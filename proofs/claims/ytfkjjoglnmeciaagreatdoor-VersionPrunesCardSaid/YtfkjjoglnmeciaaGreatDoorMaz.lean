/- part 26 -/
import Derived.Test.YtfkjjoglnmeciaaGreatDoorMay
set_option maxRecDepth 100000
set_option maxHeartbeats 16000000
namespace Go.Proofs.YtfkjjoglnmeciaaGreatDoor
open Go.Lib (hid)
section
open Go.RowKit Go.Maps
def folW {σ:Type} (rd:Nat->Nat × Nat × Bool × Nat × Nat) (st:σ->Nat->Nat × Bool × Nat × Nat->σ × Bool):Nat->Nat->Nat->Nat->σ->Nat × σ
 | 0,_,_,_,s=>(11,s)
 | k+1,p,last,n,s =>
  if p=0 then (0,s) else
  if (rd p).1≠0\/n=4096\/last<=(rd p).2.1 then (11,s) else
  if (st s p (rd p).2).2=false then (0,(st s p (rd p).2).1) else
  folW rd st k (rd p).2.2.2.2 (rd p).2.1 (n+1) (st s p (rd p).2).1
def Body {σ:Type} (fn:Nat) (caps:Array Value) (w0:World) (I:Nat->σ->Prop) (Z:σ->World->Fp) (R:σ->World->Prop) (st:σ->Nat->Nat × Bool × Nat × Nat->σ × Bool):Prop :=
 ∀ (s:σ) (n p sp:Nat) (dl:Bool) (dt ol:Nat) (W:World),n < 4096->I n s->R s W->Blw w0 W->z4p sp dl dt=true->p < 18446744073709551616->sp<=4611686018427387903->dt < 18446744073709551616->ol < 18446744073709551616 ->
  Calls Tryz.prog fn (#[.int .u64 p,.agg #[.int .u64 sp,.bool dl,.int .u64 dt,.int .u64 ol]]++caps) W fun e w'=>e=.returned (.bool (st s p (sp,dl,dt,ol)).2)/\R (st s p (sp,dl,dt,ol)).1 w'/\Chg (Z s W) W w'
theorem w6m {cur:Nat->Nat} {chk:Nat->Nat} {p sp dt ol:Nat} {bb:Bool} (hb:∀ i,cur i < 18446744073709551616) (h:verR cur chk p=(0,sp,bb,dt,ol)):z4p sp bb dt=true/\sp<=4611686018427387903/\dt < 18446744073709551616/\ol < 18446744073709551616:=by
 unfold verR at h;by_cases h1:chk p≠0
 ·rw [if_pos h1] at h
  exact absurd (congrArg Prod.fst h) h1
 rw [if_neg h1] at h;split at h
 ·rename_i h2
  injection h with _ h
  injection h with e1 h
  injection h with e2 h
  injection h with e3 e4
  subst e1 e2 e3 e4;have h3:=h2;unfold z4p at h3;rw [Bool.and_eq_true] at h3;exact ⟨h2,of_decide_eq_true h3.1,hb _,hb _⟩
 ·exact absurd (congrArg Prod.fst h) (show ¬ (11:Nat)=0 by decide)
section
variable {a:DA} {L T s n K:Nat} {x:HA} {cs:Nat->CS} {f:Nat->Option Nat} {N m b0:Nat} {S:Fp} {cur:Nat->Nat} {w w0:World} {d r:Nat}
theorem z6b (h:SD a L T s n K x cs f N m b0 S cur w d r) :
  Calls Tryz.prog 143 #[.iface 59 (.pointer (some ⟨d,0,none⟩))] w fun e w'=>e=.returned (.int .i64 11)/\w=w':=by
 have Ga:=hid (errD h.ds.dev h.dir);have Gb:=z3b (some ⟨d,0,none⟩);clear h;go_enter Tryz.func143,Tryz.ntmps143
 go_wp2_with (go_at_call 432;refine Ga.out.mono ?_;rintro e w1 ⟨rfl,rfl⟩)
 go_ret;exact ⟨rfl,rfl⟩
def y2e {σ:Type} (w0:World) (R:σ->World->Prop) (X:Nat × σ) (e:Ending) (w':World):Prop:=e=.returned (.int .i64 X.1)/\R X.2 w'/\Blw w0 w'
theorem z6z {σ:Type} (h:SD a L T s n K x cs f N m b0 S cur w0 d r) (hw:Blw w0 w) (head:Nat) (hh:head < 18446744073709551616) (fn:Nat) (caps:Array Value) (I:Nat->σ->Prop) (Z:σ->World->Fp) (R:σ->World->Prop) (st:σ->Nat->Nat × Bool × Nat × Nat->σ × Bool) (s0:σ) (hZ:∀ s W,R s W->∀ k,Z s W k->w0.heap.size<=k/\k < W.heap.size) (hZm:∀ s W W' k,R s W->Blw W W'->Z s W' k->Z s W k) (hI0:I 0 s0) (hIs:∀ n s p v,n < 4096->I n s->I (n+1) (st s p v).1) (hR0:R s0 w) (hRb:∀ s W W',R s W->Blw W W'->R s W')
  (heg:∀ args w,(callFunc fn args).run Tryz.prog w=.ok (.enter fn args) w) (hbody:Body fn caps w0 I Z R st) :
  Calls Tryz.prog 128 #[.iface 59 (.pointer (some ⟨d,0,none⟩)),.int .u64 head,.func (.func fn) #[] caps] w (y2e w0 R (folW (verR cur (fun q=>chkR s K cs q 7)) st 4097 head 4611686018427387904 0 s0)):=by
 have GH:Hid (∀ (p:Nat) (W:World),p < 18446744073709551616->Blw w0 W->Calls Tryz.prog 43 #[.iface 59 (.pointer (some ⟨d,0,none⟩)),.int .u64 p] W (z5g W (verR cur (fun q=>chkR s K cs q 7) p))):=hid (fun p W hp hW=>x9m (h.below hW) p hp);have GA:Hid (∀ W,Blw w0 W->Calls Tryz.prog 432 #[.pointer (some ⟨d,0,none⟩)] W fun e w'=>e=.returned (.int .i64 0)/\W=w'):=hid (fun W hW=>errD (h.below hW).ds.dev ((h.below hW).dir));have G8:Hid (∀ W,Blw w0 W->Calls Tryz.prog 143 #[.iface 59 (.pointer (some ⟨d,0,none⟩))] W fun e w'=>e=.returned (.int .i64 11)/\W=w'):=hid (fun W hW=>z6b (h.below hW));have GF:Hid (∀ p sp bb dt ol,verR cur (fun q=>chkR s K cs q 7) p=(0,sp,bb,dt,ol)->z4p sp bb dt=true/\sp<=4611686018427387903/\dt < 18446744073709551616/\ol < 18446744073709551616):=hid (fun p sp bb dt ol he=>w6m h.ds.bnd he);generalize verR cur (fun q=>chkR s K cs q 7)=rd at *;have G9:=hid (GA.out w hw);have G6:=hid hw;have GG:=hid hR0;have Gq:=hid hRb;have G7:=hid hbody;have GB:=hid hh;have HZ:=hid hZ;have G2:=hid hZm;have GC:=hid hI0;have GD:=hid hIs;obtain ⟨X,hX⟩:∃ X,folW rd st 4097 head 4611686018427387904 0 s0=X:=⟨_,rfl⟩
 rw [hX];have HX:=hid hX;have GP:=z3b (some ⟨d,0,none⟩);have GK:∀ W,(binOp .eql 83 (.iface 59 (.pointer (some ⟨d,0,none⟩))) .nilIface).run Tryz.prog W=.ok (.bool false) W:=fun W=>by rfl
 clear h hw hR0 hRb hbody hh hX hZ hZm hI0 hIs;go_enter Tryz.func128,Tryz.ntmps128
 go_wp2_with (go_at_call 432;refine G9.out.mono ?_;rintro e w1 ⟨rfl,rfl⟩)
 go_loopw [8,9,10] (fun vl vp vn wr=>∃ (p Ga n:Nat) (sg:σ),vl=.int .u64 Ga/\vp=.int .u64 p/\vn=.int .i64 n/\p < 18446744073709551616/\n<=4096/\Hid (folW rd st (4097 - n) p Ga n sg=X)/\Hid (R sg wr)/\Hid (Blw w0 wr)/\Hid (I n sg)) (fun _ _ vn _=>4097 - (Go.RowKit.intOf vn).toNat)
 case atStart=>exact ⟨head,4611686018427387904,0,s0,rfl,rfl,rfl,GB.out,oM,HX,GG,G6,GC⟩
 case round =>
  obtain ⟨p,Ga,nn,sg,rfl,rfl,rfl,hp,hn,HF,Ge,HB,Gz⟩:=hrel;by_cases hp0:p=0
  ·subst hp0
   have Gb:Hid (X=(0,sg)):=hid (by
    rw [<- HF.out,show 4097 - nn=(4096 - nn)+1 by omega];unfold folW;rw [if_pos rfl])
   rw [show ((0:Nat):Int)=0 from rfl];go_wp2_with fail
   go_ret;unfold y2e;rw [Gb.out];exact ⟨rfl,Ge.out,HB.out⟩
  ·obtain ⟨ev,sp,bb,dt,ol,hR⟩:∃ ev sp bb dt ol,rd p=(ev,sp,bb,dt,ol):=⟨_,_,_,_,_,rfl⟩
   have d0:((p:Int) != 0)=true:=by rw [bne,beq_eq_false_iff_ne.2 oM];rfl
   have Gr:Hid (Calls Tryz.prog 43 #[.iface 59 (.pointer (some ⟨d,0,none⟩)),.int .u64 p] wr fun e w'=>e=.returned (.tuple #[.agg #[.int .u64 sp,.bool bb,.int .u64 dt,.int .u64 ol],.int .i64 ev])/\Blw wr w'):=hid (by
    have h:=GH.out p wr hp HB.out;rw [hR] at h;exact h)
   have Gm:Hid (X=if ev≠0\/nn=4096\/Ga<=sp then (11,sg) else if (st sg p (sp,bb,dt,ol)).2=false then (0,(st sg p (sp,bb,dt,ol)).1) else folW rd st (4096 - nn) ol sp (nn+1) (st sg p (sp,bb,dt,ol)).1):=hid (by
    rw [<- HF.out,show 4097 - nn=(4096 - nn)+1 by omega];conv=>lhs;unfold folW
    rw [if_neg hp0,hR])
   have HR:=hid hR;have GO:=hid hp0;clear hR hp0 HF;by_cases hbad:ev≠0\/nn=4096\/Ga<=sp
   ·have Gb:Hid (X=(11,sg)):=hid (by rw [Gm.out,if_pos hbad])
    have Gn:=hid hbad;clear hbad Gm;go_wp2_with (go_at_call 43;refine Gr.out.mono ?_;rintro e w1 ⟨rfl,Gk⟩;have Gf:=hid Gk;clear Gk;refine stop ?_)
    unfold Stop;have c0:(w1.alloc (.cells #[.int .u64 sp,.bool bb,.int .u64 dt,.int .u64 ol] 97)).cell? ⟨w1.heap.size,0,none⟩=some (.int .u64 sp):=(Blk.new w1 97 #[.int .u64 sp,.bool bb,.int .u64 dt,.int .u64 ol]).cell 0;have Gc:Blw wr (w1.alloc (.cells #[.int .u64 sp,.bool bb,.int .u64 dt,.int .u64 ol] 97)):=Gf.out.alloc Gf.out.size _;have Gd:=hid (HB.out.trans (Gc.mono HB.out.size));have Gp:=hid (G8.out _ Gd.out);have Gi:=hid (Gq.out _ _ _ Ge.out Gc);clear Gc;by_cases hev:ev=0
    ·subst hev
     rw [show ((0:Nat):Int)=0 from rfl];by_cases Gg:nn=4096
     ·subst Gg
      go_wp2_with (go_at_call 143;refine Gp.out.mono ?_;rintro e w2 ⟨rfl,rfl⟩)
      go_ret;unfold y2e;rw [Gb.out];exact ⟨rfl,Gi.out,Gd.out⟩
     ·have e1:((nn:Int) == 4096)=false:=beq_eq_false_iff_ne.2 oM
      have e2:Ga<=sp:=by have:=Gn.out;omega
      go_wp2_with (go_at_call 143;refine Gp.out.mono ?_;rintro e w2 ⟨rfl,rfl⟩)
      go_ret;unfold y2e;rw [Gb.out];exact ⟨rfl,Gi.out,Gd.out⟩
    ·have e1:((ev:Int) != 0)=true:=by rw [bne,beq_eq_false_iff_ne.2 oM];rfl
     go_wp2_with (go_at_call 143;refine Gp.out.mono ?_;rintro e w2 ⟨rfl,rfl⟩)
     go_ret;unfold y2e;rw [Gb.out];exact ⟨rfl,Gi.out,Gd.out⟩
   ·obtain rfl:ev=0:=oM
    have Gg:nn < 4096:=oM;have GJ:sp < Ga:=oM;obtain ⟨GL,GM,GN,Gu⟩:=GF.out p sp bb dt ol HR.out;have Gl:Hid (X=if (st sg p (sp,bb,dt,ol)).2=false then (0,(st sg p (sp,bb,dt,ol)).1) else folW rd st (4096 - nn) ol sp (nn+1) (st sg p (sp,bb,dt,ol)).1):=hid (by rw [Gm.out,if_neg hbad]);rw [show ((0:Nat):Int)=0 from rfl] at Gr;have e1:((nn:Int) == 4096)=false:=beq_eq_false_iff_ne.2 oM;have e2:¬ Ga<=sp:=oM;clear hbad Gm;go_wp2_with (go_at_call 43;refine Gr.out.mono ?_;rintro e w1 ⟨rfl,Gk⟩;have Gf:=hid Gk;clear Gk;refine stop ?_)
    unfold Stop;have hk:=Blk.new w1 97 #[.int .u64 sp,.bool bb,.int .u64 dt,.int .u64 ol];have Gc:Blw wr (w1.alloc (.cells #[.int .u64 sp,.bool bb,.int .u64 dt,.int .u64 ol] 97)):=Gf.out.alloc Gf.out.size _;have Gd:=hid (HB.out.trans (Gc.mono HB.out.size));have Gi:=hid (Gq.out _ _ _ Ge.out Gc);have Gw:=hid (G7.out sg nn p sp bb dt ol _ Gg Gz.out Gi.out Gd.out GL hp GM GN Gu);have HK:=hid hk;have GE:Hid (¬ Z sg (w1.alloc (.cells #[.int .u64 sp,.bool bb,.int .u64 dt,.int .u64 ol] 97)) w1.heap.size):=hid (fun hz=>by have h1:=(HZ.out sg wr Ge.out _ (G2.out sg wr _ _ Ge.out Gc hz)).2;have h2:=Gf.out.size;omega);have GI:Hid (∀ k,Z sg (w1.alloc (.cells #[.int .u64 sp,.bool bb,.int .u64 dt,.int .u64 ol] 97)) k->w0.heap.size<=k):=hid (fun k hz=>(HZ.out sg wr Ge.out k (G2.out sg wr _ _ Ge.out Gc hz)).1);clear Gc;have c0:(w1.alloc (.cells #[.int .u64 sp,.bool bb,.int .u64 dt,.int .u64 ol] 97)).cell? ⟨w1.heap.size,0,none⟩=some (.int .u64 sp):=hk.cell 0;have c1:(w1.alloc (.cells #[.int .u64 sp,.bool bb,.int .u64 dt,.int .u64 ol] 97)).cell? ⟨w1.heap.size,1,none⟩=some (.bool bb):=hk.cell 1;have c2:(w1.alloc (.cells #[.int .u64 sp,.bool bb,.int .u64 dt,.int .u64 ol] 97)).cell? ⟨w1.heap.size,2,none⟩=some (.int .u64 dt):=hk.cell 2;have c3:(w1.alloc (.cells #[.int .u64 sp,.bool bb,.int .u64 dt,.int .u64 ol] 97)).cell? ⟨w1.heap.size,3,none⟩=some (.int .u64 ol):=hk.cell 3;clear hk;obtain ⟨go,G4⟩:∃ go,(st sg p (sp,bb,dt,ol)).2=go:=⟨_,rfl⟩
    obtain ⟨s2,Gt⟩:∃ s2,(st sg p (sp,bb,dt,ol)).1=s2:=⟨_,rfl⟩
    have Gy:Hid (I (nn+1) s2):=hid (by rw [<- Gt];exact GD.out nn sg p (sp,bb,dt,ol) Gg Gz.out);rw [G4,Gt] at Gw Gl;clear G4 Gt;go_wp2_with (go_at_fn fn;refine Gw.out.mono ?_;rintro e w3 ⟨rfl,G5,G3⟩;have G1:=hid G5;have Gx:=hid G3;clear G5 G3;refine stop ?_)
    unfold Stop;have Gs:=Gx.out.blk HK.out GE.out;have Gv:Hid (Blw w0 w3):=hid (Gd.out.trans (Gx.out.toBelow Gd.out.size GI.out));have f0:w3.cell? ⟨w1.heap.size,0,none⟩=some (.int .u64 sp):=Gs.cell 0;have f3:w3.cell? ⟨w1.heap.size,3,none⟩=some (.int .u64 ol):=Gs.cell 3;have Gj:Hid (R s2 w3.drew):=hid (Gq.out _ _ _ G1.out (Below.refl _ _).drew);clear Gs c0 c1 c2 c3;cases go
    ·have Gb:Hid (X=(0,s2)):=hid (by rw [Gl.out,if_pos rfl])
     go_wp2_with fail
     go_ret;unfold y2e;rw [Gb.out];exact ⟨rfl,G1.out,Gv.out⟩
    ·have Gb:Hid (folW rd st (4097 - (nn+1)) ol sp (nn+1) s2=X):=hid (by rw [Gl.out,if_neg (by decide),show 4096 - nn=4097 - (nn+1) by omega])
     have e4:wrap64 ((nn:Int)+1)=((nn+1:Nat):Int):=by rw [IntWalk.wrap64_in _ oM];omega
     have G0:=hid Gg;have Gh:=hid Gv.out.drew;clear Gl GJ e2 Gg;go_wp2_with fail
     go_region;go_wp2_with fail
     go_roundw
     case rel =>
      first
       | exact ⟨ol,sp,nn+1,s2,rfl,rfl,by go_num,Gu,by have:=G0.out;omega,Gb,Gj,Gh,Gy⟩
       | exact ⟨ol,sp,nn+1,s2,rfl,rfl,by rw [e4],Gu,by have:=G0.out;omega,Gb,Gj,Gh,Gy⟩
     case measure=>simp [Go.RowKit.intOf];omega
end
end
section
open Go.RowKit Go.Maps
def bStr (l:List Nat):ByteArray:=⟨(l.map UInt8.ofNat).toArray⟩
theorem x2e (w:World) {B n c:Nat} {A:Option Addr} {l:List Nat} (h:z0c w B 1 A n (u8s l)) (hb:∀ b∈l,b < 256):(convert 24 9 (.slice A n c)).run Tryz.prog w=.ok (.string (bStr l)) w:=by
 have hl:l.length=n:=by have:=h.1;simp [u8s] at this;omega
 cases A with
 | none =>
  have h0:n=0:=by
   rcases Nat.eq_zero_or_pos n with h0 | h0
   ·exact h0
   ·obtain ⟨ad,hA,_⟩:=h.2 h0
    cases hA
  have hn:l=[]:=List.eq_nil_of_length_eq_zero oM;subst hn;subst h0;rw [run_convert_bytes_string w 24 9 5 none 0 c Tryz.underlying24 Tryz.underlying5 Tryz.underlying9];rfl
 | some ad =>
  have h1:=run_convert_bytes_back w 24 9 5 ad c (l.map UInt8.ofNat) Tryz.underlying24 Tryz.underlying5 Tryz.underlying9 (fun j hj=>by
   have Gb:j < l.length:=by simpa using hj
   obtain ⟨Gc,Ga,_,hc⟩:=h.2 oM;injection Ga with Ga
   subst Ga;have h2:=hc j (.int .u8 (l[j]:Int)) (by simp [u8s,Gb]);rw [h2,List.getElem_map,UInt8.toNat_ofNat_of_lt' (hb _ (List.getElem_mem Gb))])
  rw [List.length_map,hl] at h1;exact h1
theorem y5w (A A2:Option Addr) (n c n2 c2 B B2:Nat) (l:List Nat) (w:World) (h:z0c w B 1 A n (u8s l)) (h2:z0c w B2 1 A2 n2 (u8s l)) (hl:∀ b∈l,b < 256) :
  Calls Tryz.prog 32 #[.slice A n c,.slice A2 n2 c2] w fun e w'=>e=.returned (.bool true)/\w=w':=by
 have k1:=x2e (c:=c) w h hl;have k2:=x2e (c:=c2) w h2 hl;generalize bStr l=s at *;clear h h2 hl;go_enter Tryz.func32,Tryz.ntmps32
 go_wp2;go_ret;exact ⟨rfl,rfl⟩
section
variable {a:DA} {L T s n K:Nat} {x:HA} {cs:Nat->CS} {f:Nat->Option Nat} {N m b0:Nat} {S:Fp} {cur:Nat->Nat} {w w':World} {d r:Nat}
def x5n (w:World) (R:Nat × List Nat × List Nat) (e:Ending) (w':World):Prop :=
 if R.1=0 then ∃ A m c,e=.returned (.tuple #[.slice A m c,.int .i64 0])/\m=R.2.1.length/\z0c w' w'.heap.size 1 A m (z0a R.2.1)/\m<=c/\Blw w w'
 else e=.returned (.tuple #[.slice none 0 0,.int .i64 R.1])/\Blw w w'
theorem y8q (h:SD a L T s n K x cs f N m b0 S cur w d r) (p:Nat) (hp64:p < 18446744073709551616) :
  Calls Tryz.prog 31 #[dirV d,.int .u64 p] w (x5n w (z1b L cur (fun q=>chkR s K cs q 1) p)):=by
 have HW:=hid (y5k h p hp64);clear h;generalize z1b L cur (fun q=>chkR s K cs q 1) p=R at *;unfold dirV at *;by_cases hR:R.1=0
 ·have Ga:Hid (Calls Tryz.prog 110 #[.iface 59 (.pointer (some ⟨d,0,none⟩)),.int .u64 p] w fun e w'=>∃ A m c A2 m2 c2,e=.returned (.tuple #[.slice A m c,.slice A2 m2 c2,.int .i64 0])/\m=R.2.1.length/\z0c w' w'.heap.size 1 A m (z0a R.2.1)/\m<=c/\Blw w w'):=hid (HW.out.mono (fun e w' h=>by
   unfold y3t at h;rw [if_pos hR] at h;obtain ⟨A,m,c,A2,m2,c2,h1,h2,h3,h4,h5,h6,h7,h8,h9⟩:=h;exact ⟨A,m,c,A2,m2,c2,h1,h2,h4,h8.1,h9⟩))
  have HR:=hid hR;clear HW hR;go_enter Tryz.func31,Tryz.ntmps31
  go_wp2_with (go_at_call 110;refine Ga.out.mono ?_;rintro e w1 ⟨A,m1,c,A2,m2,c2,rfl,h1,h2,h4,h5⟩;have HE:=hid (show _/\_/\_/\_ from ⟨h1,h2,h4,h5⟩);clear h1 h2 h4 h5)
  go_ret2;unfold x5n;rw [if_pos HR.out];exact ⟨A,m1,c,rfl,HE.out.1,HE.out.2.1,HE.out.2.2.1,HE.out.2.2.2⟩
 ·have Ga:Hid (Calls Tryz.prog 110 #[.iface 59 (.pointer (some ⟨d,0,none⟩)),.int .u64 p] w fun e w'=>e=.returned (.tuple #[.slice none 0 0,.slice none 0 0,.int .i64 R.1])/\Blw w w'):=hid (HW.out.mono (fun e w' h=>by
   unfold y3t at h;rw [if_neg hR] at h;exact h))
  have HR:=hid hR;clear HW hR;go_enter Tryz.func31,Tryz.ntmps31
  go_wp2_with (go_at_call 110;refine Ga.out.mono ?_;rintro e w1 ⟨rfl,h1⟩;have HE:=hid h1;clear h1)
  go_ret2;unfold x5n;rw [if_neg HR.out];exact ⟨rfl,HE.out⟩
theorem x2u (h:SD a L T s n K x cs f N m b0 S cur w d r) (p:Nat) (hp64:p < 18446744073709551616) {e0:Nat} (he:(z1b L cur (fun q=>chkR s K cs q 1) p).1=e0) :
  Calls Tryz.prog 34 #[dirV d,.int .u64 p] w fun e w'=>e=.returned (.int .i64 e0)/\Blw w w':=by
 have HW:=hid (y5k h p hp64);clear h;generalize z1b L cur (fun q=>chkR s K cs q 1) p=R at *;subst he;unfold dirV at *;have Ga:Hid (Calls Tryz.prog 110 #[.iface 59 (.pointer (some ⟨d,0,none⟩)),.int .u64 p] w fun e w'=>∃ (A:Option Addr) (m c:Nat) (A2:Option Addr) (m2 c2:Nat),e=.returned (.tuple #[.slice A m c,.slice A2 m2 c2,.int .i64 R.1])/\Hid (Blw w w')):=hid (HW.out.mono (fun e w' h=>by
  unfold y3t at h;split at h
  ·rename_i hR
   obtain ⟨A,m,c,A2,m2,c2,h1,h2,h3,h4,h5,h6,h7,h8,h9⟩:=h;rw [hR];exact ⟨A,m,c,A2,m2,c2,h1,hid h9⟩
  ·exact ⟨none,0,0,none,0,0,h.1,hid h.2⟩))
 clear HW;generalize R.1=e0 at *;go_enter Tryz.func34,Tryz.ntmps34
 go_wp2_with (go_at_call 110;refine Ga.out.mono ?_;rintro e w1 ⟨A,m1,c,A2,m2,c2,rfl,hh⟩)
 go_ret;exact ⟨rfl,hh.out⟩
end
end
section
open Go.RowKit Go.Maps
theorem x3d {L:Nat} {cur:Nat->Nat} {chk:Nat->Nat} {bl p:List Nat} (hc:y5p L cur chk bl p) (hp:∀ b∈p,b < 256) (hn:p.length<=2000):z1b L cur chk (bl.headD 0)=(0,bl,p):=by
 cases bl with
 | nil=>exact absurd hc (by simp [y5p])
 | cons q t =>
  have Ga:chk q=0:=hc.2.2.2.2.2.2.1;show z1b L cur _ q=_;unfold z1b;rw [if_neg (fun h=>h Ga),x5d 6 q t p [] [] (-1) hc hp (.inl oM) oM oM];rfl
section
variable {a a2:DA} {L T T2 n K:Nat} {x x2:HA} {cs:Nat->CS} {f f2:Nat->Option Nat} {N N2 m m2 b0 b02:Nat} {S S2:Fp} {cur:Nat->Nat} {w w2:World} {ks:List Nat} {V:Nat->Nat} {cm:Nat}
end
end
section
open Go.RowKit
theorem z7k (A A2:Option Addr) (n c c2:Nat) (l:List Nat) (w:World) (h:z0c w w.heap.size 1 A n (z0a l)) (h2:z0c w w.heap.size 1 A2 n (z0a l)) (hn:n<=1000) :
  Calls Tryz.prog 44 #[.slice A n c,.slice A2 n c2] w fun e w'=>e=.returned (.bool true)/\Blw w w':=by
 have HR:=hid h;have Gc:=hid h2;have d0:((n:Int) != (n:Int))=false:=by rw [bne,beq_self_eq_true];rfl
 clear h h2;go_enter Tryz.func44,Tryz.ntmps44
 go_wp2_with fail
 go_loopw [13] (fun i wr=>∃ k:Nat,k<=n/\i=.int .i64 k/\Hid (Blw w wr)) (fun i _=>n - (Go.RowKit.intOf i).toNat)
 case atStart=>exact ⟨0,Nat.zero_le _,rfl,hid (Below.refl _ _)⟩
 case round =>
  obtain ⟨k,hk,rfl,HB⟩:=hrel;by_cases hlt:k < n
  ·obtain ⟨Gg,b,Gk,hA,Ge,f0⟩:=z2b (HR.out.below HB.out) hlt
   obtain ⟨Gh,b2,Gf,Gd,Ga,f2⟩:=z2b (Gc.out.below HB.out) hlt;have Gi:(0:Int)<=(k:Int):=oM;have Gj:(k:Int) < (n:Int):=oM;subst hA Gd;generalize l[k]=u at *;have d3:((u:Int) != (u:Int))=false:=by rw [bne,beq_self_eq_true];rfl
   clear Ge Ga;go_upto_region 6 with fail
   go_quiet (fail)
   have Gb:=hid (z3t HB.out nq);go_wp2_with fail
   go_roundw
   case rel =>
    first
     | exact ⟨k+1,oM,by go_num,Gb⟩
     | (
       repeat apply Exists.intro
       refine ⟨?_,rfl⟩;exact ⟨k+1,oM,by go_num,Gb⟩)
   case measure=>simp [Go.RowKit.intOf];omega
  ·obtain rfl:n=k:=oM
   go_wp2_with fail
   go_ret;exact ⟨rfl,HB.out⟩
theorem x6q (A A2:Option Addr) (n c c2:Nat) (l:List (Nat × Nat)) (w:World) (h:z0c w w.heap.size 2 A n (z0d l)) (h2:z0c w w.heap.size 2 A2 n (z0d l)) (hn:n<=1000) :
  Calls Tryz.prog 50 #[.slice A n c,.slice A2 n c2] w fun e w'=>e=.returned (.bool true)/\Blw w w':=by
 have HR:=hid h;have Gc:=hid h2;have d0:((n:Int) != (n:Int))=false:=by rw [bne,beq_self_eq_true];rfl
 clear h h2;go_enter Tryz.func50,Tryz.ntmps50
 go_wp2_with fail
 go_loopw [13] (fun i wr=>∃ k:Nat,k<=n/\i=.int .i64 k/\Hid (Blw w wr)) (fun i _=>n - (Go.RowKit.intOf i).toNat)
 case atStart=>exact ⟨0,Nat.zero_le _,rfl,hid (Below.refl _ _)⟩
 case round =>
  obtain ⟨k,hk,rfl,HB⟩:=hrel;by_cases hlt:k < n
  ·obtain ⟨Gg,b,Gk,hA,Ge,f0,f1⟩:=z5f (HR.out.below HB.out) hlt
   obtain ⟨Gh,b2,Gf,Gd,Ga,f2,f3⟩:=z5f (Gc.out.below HB.out) hlt;have Gi:(0:Int)<=(k:Int):=oM;have Gj:(k:Int) < (n:Int):=oM;subst hA Gd;generalize l[k]=u at *;obtain ⟨u1,u2⟩:=u;clear Ge Ga;go_upto_region 6 with fail
   go_quiet (fail)
   have Gb:=hid (z3t HB.out nq);go_wp2_with fail
   go_roundw
   case rel =>
    first
     | exact ⟨k+1,oM,by go_num,Gb⟩
     | (
       repeat apply Exists.intro
       refine ⟨?_,rfl⟩;exact ⟨k+1,oM,by go_num,Gb⟩)
   case measure=>simp [Go.RowKit.intOf];omega
  ·obtain rfl:n=k:=oM
   go_wp2_with fail
   go_ret;exact ⟨rfl,HB.out⟩
end
section
open Go.RowKit Go.Maps
theorem y0y {s k:Nat} {c:CS} {q:Nat}:∀ n,q∈lvI s k c n↔∃ i,i < n/\(c.bs i).st=177/\q=pMk (64 * (s+32 * k)+8 * offB c.cl i+8) (c.bs i).gen (c.bs i).kind
 | 0=>by simp [lvI]
 | n+1=>by
  rw [z9u,List.mem_append,y0y n];unfold lvB;constructor
  ·rintro (⟨i,h1,h2,h3⟩ | h)
   ·exact ⟨i,oM,h2,h3⟩
   ·split at h
    ·exact ⟨n,oM,by assumption,by simpa using h⟩
    ·simp at h
  ·rintro ⟨i,h1,h2,h3⟩
   by_cases e:i=n
   ·subst e
    right
    rw [if_pos h2];simpa using h3
   ·exact .inl ⟨i,oM,h2,h3⟩
theorem y9q {s:Nat} {cs:Nat->CS} {q:Nat}:∀ K,q∈lvK s cs K↔∃ k i,k < K/\(cs k).dv=true/\i < perC (cs k).cl/\((cs k).bs i).st=177/\q=pMk (offO s cs k i) ((cs k).bs i).gen ((cs k).bs i).kind
 | 0=>by simp [lvK]
 | K+1=>by
  rw [z9v,List.mem_append,y9q K];unfold lvC;constructor
  ·rintro (⟨k,i,h1,h2⟩ | h)
   ·exact ⟨k,i,oM,h2⟩
   ·split at h
    ·obtain ⟨i,h1,h2,h3⟩:=(y0y _).1 h
     exact ⟨K,i,oM,by assumption,h1,h2,h3⟩
    ·simp at h
  ·rintro ⟨k,i,h1,h2,h3,h4,h5⟩
   by_cases e:k=K
   ·subst e
    right
    rw [if_pos h2];exact (y0y _).2 ⟨i,h3,h4,h5⟩
   ·exact .inl ⟨k,i,oM,h2,h3,h4,h5⟩
theorem y9s {s K:Nat} {cs:Nat->CS} {k i:Nat} (hs:s<=4096) (hK:K<=128) (hk:k < K) (hi:i < perC (cs k).cl):offO s cs k i < 34359738368/\offO s cs k i % 8=0:=by
 have h1:=off_lt hi;unfold offO blkO;omega
section
variable {a:DA} {L T s n K:Nat} {x:HA} {cs:Nat->CS} {f:Nat->Option Nat} {N m b0:Nat} {S:Fp} {cur:Nat->Nat} {w:World}
theorem x5t (h:DS a L T s n K x cs f N m b0 S cur w) {q:Nat}:q∈lvK s cs K↔x2p s K cs q:=by
 have hf:=h.few;rw [y9q];constructor
 ·rintro ⟨k,i,h1,h2,h3,h4,rfl⟩
  have hC:=h.chw h1 h2;have hg:=hC.good i h3;have Ga:=hC.inn i h3;unfold BK.good at hg;rw [if_neg oM,if_pos h4] at hg;simp at hg;obtain ⟨o1,o2⟩:=y9s (s:=s) hf.2 hf.1 h1 h3;obtain ⟨l1,l2⟩:=x1s (gen:=((cs k).bs i).gen) (kind:=((cs k).bs i).kind) o1 Ga.g oM;refine ⟨((cs k).bs i).kind,k,i,⟨h1,h2,h3,z8i o2 o1⟩,?_,x1r o1 Ga.g oM,x8e oM,l1,l2⟩;rw [x8d o1 Ga.g];cases hb:(cs k).bs i;rw [hb] at h4;cases h4;rfl
 ·rintro ⟨kind,k,i,hl⟩
  refine ⟨k,i,hl.at_.1,hl.at_.2.1,hl.at_.2.2.1,by rw [hl.bk],?_⟩;rw [hl.bk];have h1:=y1b hl.top;rw [hl.at_.2.2.2,hl.kind_] at h1;exact h1
theorem x7s (h:DS a L T s n K x cs f N m b0 S cur w):((lvK s cs K).map pOff).Nodup:=by
 have hf:=h.few;have Ga:∀ k,k < K->(cs k).dv=true->∀ i,i < perC (cs k).cl->((cs k).bs i).st=177->pOff (pMk (64 * (s+32 * k)+8 * offB (cs k).cl i+8) ((cs k).bs i).gen ((cs k).bs i).kind)=offO s cs k i:=fun k hk hd i hi hs=>by
  obtain ⟨o1,o2⟩:=y9s (s:=s) (cs:=cs) hf.2 hf.1 hk hi;exact z8i o2 o1
 have hI:∀ k,k < K->(cs k).dv=true->∀ j,j<=perC (cs k).cl->((lvI s k (cs k) j).map pOff).Nodup:=fun k hk hd j=>by
  induction j with
  | zero=>intro _;simp [lvI]
  | succ j ih =>
   intro hj;rw [z9u,List.map_append,List.nodup_append];refine ⟨ih oM,?_,?_⟩
   ·unfold lvB;split <;> simp
   ·intro u hu v hv e
    subst e;obtain ⟨q,hq,rfl⟩:=List.mem_map.1 hu;obtain ⟨i,h1,h2,h3⟩:=(y0y _).1 hq;obtain ⟨p,hp,Gb⟩:=List.mem_map.1 hv;unfold lvB at hp;split at hp
    ·simp at hp
     subst hp;rw [h3,Ga k hk hd i oM h2,Ga k hk hd j oM (by assumption)] at Gb;have:=z7u (s:=s) (cs:=cs) (k:=k) (k':=k) oM oM Gb;omega
    ·simp at hp
 have hK:∀ j,j<=K->((lvK s cs j).map pOff).Nodup:=fun j=>by
  induction j with
  | zero=>intro _;simp [lvK]
  | succ j ih =>
   intro hj;rw [z9v,List.map_append,List.nodup_append];refine ⟨ih oM,?_,?_⟩
   ·unfold lvC
    split
    ·exact hI j oM (by assumption) _ (nL _)
    ·simp
   ·intro u hu v hv e
    subst e;obtain ⟨q,hq,rfl⟩:=List.mem_map.1 hu;obtain ⟨k,i,h1,h2,h3,h4,rfl⟩:=(y9q _).1 hq;obtain ⟨p,hp,Gb⟩:=List.mem_map.1 hv;unfold lvC at hp;split at hp
    ·obtain ⟨i',g1,g2,rfl⟩:=(y0y _).1 hp
     rw [Ga j oM (by assumption) i' g1 g2] at Gb;obtain ⟨o1,o2⟩:=y9s (s:=s) (cs:=cs) hf.2 hf.1 (show k < K by omega) h3;rw [z8i o2 o1] at Gb;have:=z7u (s:=s) (cs:=cs) g1 h3 Gb;omega
    ·simp at hp
 exact hK K (nL _)
theorem z9e {l:List Nat} (h:(l.map pOff).Nodup):l.Nodup:=by
 rw [List.nodup_iff_pairwise_ne] at h ⊢;rw [List.pairwise_map] at h;exact h.imp (fun hne e=>hne (congrArg pOff e))
theorem y9u {l l':List Nat} (h:l.Nodup) (h':l'.Nodup) (e:∀ q,q∈l↔q∈l'):l.Perm l':=by
 rw [List.perm_iff_count];intro q;rw [h.count,h'.count];simp [e q]
end
end
section
open Go.ChangeShapes Go.WideShapes Go.ChangeAt Go.RowKit
theorem gPay : Tryz.prog.globalNamed "bedrock/sizeclass.payload" = some 0 := by kernel_rfl
theorem w1g:(Tryz.prog.globals[0]?).map (·.type)=some 409:=by kernel_rfl
theorem w0k:Tryz.prog.cellsOf 409=5:=by kernel_rfl
theorem w0j:Tryz.prog.cellsOf 3=1:=by kernel_rfl
theorem w9n {W:World} (h:laidMetH Tryz.prog x1k W):Pay W:=by
 have h2 : laidMetH Tryz.prog [("bedrock/sizeclass.payload", Rows.laid_bedrock_sizeclass_payload)] W := laidMetH.filter (fun x => x.1 == "bedrock/sizeclass.payload") h;have ht : Lib.TabIs Tryz.prog W "bedrock/sizeclass.payload" .i64 [3, 7, 15, 31, 60] :=
  Lib.tabIs_of_head (rest:=[]) gPay w1g Tryz.underlying409 Tryz.underlying3 w0j w0k h2
 intro i hi;have hc:=ht.cell gPay i hi;rw [hc];have:i=0\/i=1\/i=2\/i=3\/i=4:=oM;rcases this with rfl | rfl | rfl | rfl | rfl <;> rfl
theorem w5m {H:Type} {enc:TypeId × Value->H} {W:World} {base:Nat} {sp:Nat->Bool} {held:Bool} {t e:TypeId} {k:IntKind} {a:Option Addr} {len cap:Nat} {d:DataW H} {p:List MemPlace}
  (ht:Tryz.prog.underlying t=some (.slice e)) (he:Tryz.prog.underlying e=some (.int k)) (hc:Tryz.prog.cellsOf e=1)
  (h:DataW.Trod enc Tryz.prog W base sp held t (.slice a len cap) d p) :
  ∃ zs:List Int,z0c W W.heap.size 1 a len (zs.map (Value.int k))/\len<=cap/\cap<=maxLen/\∀ n∈zs,(Lit.int k n).wf=true:=by
 obtain ⟨Gb,hf⟩:=h;rcases open_ints ht he hc hf with ⟨hcs,_⟩ | ⟨x,l,c,zs,hcs,_,hl,hm,hz,hx,hcell,hwz⟩
 ·simp [Value.cells] at hcs
  obtain ⟨rfl,rfl,rfl⟩:=hcs;exact ⟨[],⟨rfl,fun h=>absurd h (Nat.lt_irrefl 0)⟩,nL _,Nat.zero_le _,fun _ hn=>by cases hn⟩
 ·simp [Value.cells] at hcs
  obtain ⟨rfl,rfl,rfl⟩:=hcs;have Gc:len<=zs.length:=by rw [hz];split <;> omega
  refine ⟨zs.take len,⟨by rw [List.length_map,List.length_take];omega,fun hn=>⟨_,rfl,?_,fun j u hu=>?_⟩⟩,hl,hm,fun n hn=>hwz n (List.mem_of_mem_take hn)⟩
  ·have:=World.block_lt_of_cell? _ _ (hcell 0 oM)
   rw [z3e] at this;exact this
  ·simp only [List.getElem?_map,Option.map_eq_some_iff] at hu
   obtain ⟨z,Ga,rfl⟩:=hu;rw [List.getElem?_take] at Ga;split at Ga
   ·obtain ⟨hj,rfl⟩:=List.getElem?_eq_some_iff.1 Ga
    rw [hcell j hj];simp [List.getD,hj]
   ·cases Ga
theorem x0x {H:Type} {enc:TypeId × Value->H} {W:World} {base:Nat} {sp:Nat->Bool} {held:Bool} {a:Option Addr} {len cap:Nat} {d:DataW H} {p:List MemPlace}
  (h:DataW.Trod enc Tryz.prog W base sp held 24 (.slice a len cap) d p):∃ l,InB W a len cap l:=by
 obtain ⟨zs,hr,hl,hm,Gc⟩:=w5m Tryz.underlying24 Tryz.underlying5 (by kernel_rfl) h;have hb:∀ z∈zs,0<=z/\z<=255:=fun z hz=>by
  have hw:=Gc z hz;have Ga:IntKind.u8.min=0:=by decide
  have Gb:IntKind.u8.max=255:=by decide
  simp only [Lit.wf,Ga,Gb,Bool.and_eq_true,decide_eq_true_eq] at hw;omega
 refine ⟨zs.map Int.toNat,?_,?_,hl,hm⟩
 ·intro b hbm
  obtain ⟨z,hz,rfl⟩:=List.mem_map.1 hbm;have:=hb z hz;omega
 ·have:u8s (zs.map Int.toNat)=zs.map (Value.int .u8):=by
   simp only [u8s,List.map_map];refine List.map_congr_left fun z hz=>?_
   have:=hb z hz;simp only [Function.comp];rw [Int.toNat_of_nonneg this.1]
  rw [this];exact hr
end
section
open Go.RowKit Go.Maps
def vArr (s:Nat × Bool × Nat × Nat):Array Value:=#[.int .u64 s.1,.bool s.2.1,.int .u64 s.2.2.1,.int .u64 s.2.2.2]
def atS (stamp:Nat) (s:Nat × Bool × Nat × Nat) (_p:Nat) (v:Nat × Bool × Nat × Nat):(Nat × Bool × Nat × Nat) × Bool:=if stamp < v.1 then (s,true) else (v,false)
theorem w3d (stamp p sp:Nat) (dl:Bool) (dt ol gs gf:Nat) (s:Nat × Bool × Nat × Nat) (W:World) (hs:Blk W gs 32 #[.int .u64 stamp]) (hf:Blk W gf 97 (vArr s)) (hne:gs≠gf) :
  Calls Tryz.prog 140 #[.int .u64 p,.agg #[.int .u64 sp,.bool dl,.int .u64 dt,.int .u64 ol],.pointer (some ⟨gs,0,none⟩),.pointer (some ⟨gf,0,none⟩)] W fun e w'=>e=.returned (.bool (atS stamp s p (sp,dl,dt,ol)).2)/\(Blk w' gs 32 #[.int .u64 stamp]/\Blk w' gf 97 (vArr (atS stamp s p (sp,dl,dt,ol)).1))/\Chg (fun k=>k=gf) W w':=by
 have Ga:=Blk.new W 97 #[.int .u64 sp,.bool dl,.int .u64 dt,.int .u64 ol];have c0:(W.alloc (.cells #[.int .u64 sp,.bool dl,.int .u64 dt,.int .u64 ol] 97)).cell? ⟨W.heap.size,0,none⟩=some (.int .u64 sp):=Ga.cell 0;have c1:(W.alloc (.cells #[.int .u64 sp,.bool dl,.int .u64 dt,.int .u64 ol] 97)).cell? ⟨W.heap.size,1,none⟩=some (.bool dl):=Ga.cell 1;have c2:(W.alloc (.cells #[.int .u64 sp,.bool dl,.int .u64 dt,.int .u64 ol] 97)).cell? ⟨W.heap.size,2,none⟩=some (.int .u64 dt):=Ga.cell 2;have c3:(W.alloc (.cells #[.int .u64 sp,.bool dl,.int .u64 dt,.int .u64 ol] 97)).cell? ⟨W.heap.size,3,none⟩=some (.int .u64 ol):=Ga.cell 3;have s0:W.cell? ⟨gs,0,none⟩=some (.int .u64 stamp):=hs.cell 0;have Gc:=(hs.alloc (.cells #[.int .u64 sp,.bool dl,.int .u64 dt,.int .u64 ol] 97))
 have Gf:=(hf.alloc (.cells #[.int .u64 sp,.bool dl,.int .u64 dt,.int .u64 ol] 97))
 have s1:(W.alloc (.cells #[.int .u64 sp,.bool dl,.int .u64 dt,.int .u64 ol] 97)).cell? ⟨gs,0,none⟩=some (.int .u64 stamp):=Gc.cell 0;have k0:W.cell? ⟨gf,0,none⟩=some (.int .u64 s.1):=hf.cell 0;have k1:W.cell? ⟨gf,1,none⟩=some (.bool s.2.1):=hf.cell 1;have k2:W.cell? ⟨gf,2,none⟩=some (.int .u64 s.2.2.1):=hf.cell 2;have k3:W.cell? ⟨gf,3,none⟩=some (.int .u64 s.2.2.2):=hf.cell 3;have z0:W.frozen? ⟨gf,0,none⟩=false:=hf.frozen 0;have z1:W.frozen? ⟨gf,1,none⟩=false:=hf.frozen 1;have z2:W.frozen? ⟨gf,2,none⟩=false:=hf.frozen 2;have z3:W.frozen? ⟨gf,3,none⟩=false:=hf.frozen 3;have Gh:gf < W.heap.size:=hf.lt;have Gi:gs < W.heap.size:=hs.lt;have HS:=hid hs;have HF:=hid hf;have Ge:=hid hne;clear Ga Gc Gf hs hf;by_cases hc:stamp < sp
 ·have Gb:Hid (atS stamp s p (sp,dl,dt,ol)=(s,true)):=hid (by unfold atS;rw [if_pos hc])
  generalize atS stamp s p (sp,dl,dt,ol)=z at *;go_enter Tryz.func140,Tryz.ntmps140
  go_wp2;go_ret;rw [Gb.out];exact ⟨rfl,⟨HS.out.alloc _,HF.out.alloc _⟩,(Chg.refl _ _).alloc _⟩
 ·have Gb:Hid (atS stamp s p (sp,dl,dt,ol)=((sp,dl,dt,ol),false)):=hid (by unfold atS;rw [if_neg hc])
  generalize atS stamp s p (sp,dl,dt,ol)=z at *;go_enter Tryz.func140,Tryz.ntmps140
  go_wp2;go_ret;rw [Gb.out];have Gd:Chg (fun k=>k=gf) W (((((W.setCell ⟨gf,0,none⟩ (.int .u64 sp)).setCell ⟨gf,1,none⟩ (.bool dl)).setCell ⟨gf,2,none⟩ (.int .u64 dt)).setCell ⟨gf,3,none⟩ (.int .u64 ol)).alloc (.cells #[.int .u64 sp,.bool dl,.int .u64 dt,.int .u64 ol] 97)) :=
   (((((Chg.refl (fun k=>k=gf) W).setCell (p:=⟨gf,0,none⟩) (.inl rfl) _).setCell (p:=⟨gf,1,none⟩) (.inl rfl) _).setCell (p:=⟨gf,2,none⟩) (.inl rfl) _).setCell (p:=⟨gf,3,none⟩) (.inl rfl) _).alloc _
  have Gg:=((((HF.out.set_ 0 (.int .u64 sp)).set_ 1 (.bool dl)).set_ 2 (.int .u64 dt)).set_ 3 (.int .u64 ol)).alloc (.cells #[.int .u64 sp,.bool dl,.int .u64 dt,.int .u64 ol] 97);exact ⟨rfl,⟨Gd.blk HS.out Ge.out,Gg⟩,Gd⟩
section
variable {a:DA} {L T s n K:Nat} {x:HA} {cs:Nat->CS} {f:Nat->Option Nat} {N m b0:Nat} {S:Fp} {cur:Nat->Nat} {w:World} {d r:Nat}
def atR (rd:Nat->Nat × Nat × Bool × Nat × Nat) (head stamp:Nat):Nat × Nat × Bool × Nat × Nat :=
 if (folW rd (atS stamp) 4097 head 4611686018427387904 0 (0,true,0,0)).1≠0 then ((folW rd (atS stamp) 4097 head 4611686018427387904 0 (0,true,0,0)).1,0,false,0,0) else
 if (folW rd (atS stamp) 4097 head 4611686018427387904 0 (0,true,0,0)).2.2.1=true then (5,0,false,0,0) else (0,(folW rd (atS stamp) 4097 head 4611686018427387904 0 (0,true,0,0)).2)
def AtR (stamp gs g6 gf:Nat) (s:Nat × Bool × Nat × Nat) (W:World):Prop:=Blk W gs 32 #[.int .u64 stamp]/\Blk W gf 97 (vArr s)/\Blk W g6 97 #[.int .u64 0,.bool false,.int .u64 0,.int .u64 0]
theorem w4s (stamp gs g6 gf:Nat) (w0:World) (h1:gs≠gf) (h2:g6≠gf):Body 140 #[.pointer (some ⟨gs,0,none⟩),.pointer (some ⟨gf,0,none⟩)] w0 (fun _ _=>True) (fun _ _ k=>k=gf) (AtR stamp gs g6 gf) (atS stamp):=by
 intro s _ p sp dl dt ol W _ _ hR _ _ _ _ _ _;obtain ⟨r1,r2,r3⟩:=hR;have e:(#[Value.int .u64 p,.agg #[.int .u64 sp,.bool dl,.int .u64 dt,.int .u64 ol]]++#[Value.pointer (some ⟨gs,0,none⟩),.pointer (some ⟨gf,0,none⟩)])=#[.int .u64 p,.agg #[.int .u64 sp,.bool dl,.int .u64 dt,.int .u64 ol],.pointer (some ⟨gs,0,none⟩),.pointer (some ⟨gf,0,none⟩)]:=by simp
 rw [e];refine (w3d stamp p sp dl dt ol gs gf s W r1 r2 h1).mono (fun e w' h=>?_);obtain ⟨q1,⟨q2,q3⟩,q4⟩:=h;exact ⟨q1,⟨q2,q3,q4.blk r3 h2⟩,q4⟩
theorem x9l (h:SD a L T s n K x cs f N m b0 S cur w d r) (head stamp:Nat) (hh:head < 18446744073709551616) :
  Calls Tryz.prog 57 #[.iface 59 (.pointer (some ⟨d,0,none⟩)),.int .u64 head,.int .u64 stamp] w (z5g w (atR (verR cur (fun q=>chkR s K cs q 7)) head stamp)):=by
 obtain ⟨W1,Gb⟩:∃ W1,((w.alloc (.cells #[.int .u64 stamp] 32)).alloc (.cells #[.int .u64 0,.bool false,.int .u64 0,.int .u64 0] 97)).alloc (.cells #[.int .u64 0,.bool true,.int .u64 0,.int .u64 0] 97)=W1:=⟨_,rfl⟩
 have Gg:=hid Gb;have Gi:(w.alloc (.cells #[.int .u64 stamp] 32)).heap.size=w.heap.size+1:=by simp
 have Ge:((w.alloc (.cells #[.int .u64 stamp] 32)).alloc (.cells #[.int .u64 0,.bool false,.int .u64 0,.int .u64 0] 97)).heap.size=w.heap.size+2:=by simp
 have hb:Blw w W1:=by
  rw [<- Gb];exact (((Below.refl _ _).alloc (nL _) _).alloc (by simp) _).alloc (by rw [Ge];omega) _
 have Gh:AtR stamp w.heap.size (w.heap.size+1) (w.heap.size+2) (0,true,0,0) W1:=by
  rw [<- Gb];refine ⟨((Blk.new w 32 #[.int .u64 stamp]).alloc _).alloc _,?_,?_⟩
  ·have h1:=Blk.new ((w.alloc (.cells #[.int .u64 stamp] 32)).alloc (.cells #[.int .u64 0,.bool false,.int .u64 0,.int .u64 0] 97)) 97 #[.int .u64 0,.bool true,.int .u64 0,.int .u64 0]
   rw [Ge] at h1;exact h1
  ·have h1:=(Blk.new (w.alloc (.cells #[.int .u64 stamp] 32)) 97 #[.int .u64 0,.bool false,.int .u64 0,.int .u64 0]).alloc (.cells #[.int .u64 0,.bool true,.int .u64 0,.int .u64 0] 97)
   rw [Gi] at h1;exact h1
 have Gf:=hid (z6z h hb head hh 140 #[.pointer (some ⟨w.heap.size,0,none⟩),.pointer (some ⟨w.heap.size+2,0,none⟩)] (fun _ _=>True) (fun _ _ k=>k=w.heap.size+2) (AtR stamp w.heap.size (w.heap.size+1) (w.heap.size+2)) (atS stamp) (0,true,0,0)
  (fun s W hR k hk=>by
   subst hk;exact ⟨oM,hR.2.1.lt⟩) (fun _ _ _ _ _ _ hk=>hk) trivial (fun _ _ _ _ _ _=>trivial) Gh (fun s W W' hR hW=>⟨hR.1.below hW hR.1.lt,hR.2.1.below hW hR.2.1.lt,hR.2.2.below hW hR.2.2.lt⟩) (fun args w=>by kernel_rfl) (w4s stamp _ _ _ w oM oM))
 have Ga:Hid (atR (verR cur (fun q=>chkR s K cs q 7)) head stamp=if (folW (verR cur (fun q=>chkR s K cs q 7)) (atS stamp) 4097 head 4611686018427387904 0 (0,true,0,0)).1≠0 then ((folW (verR cur (fun q=>chkR s K cs q 7)) (atS stamp) 4097 head 4611686018427387904 0 (0,true,0,0)).1,0,false,0,0) else if (folW (verR cur (fun q=>chkR s K cs q 7)) (atS stamp) 4097 head 4611686018427387904 0 (0,true,0,0)).2.2.1=true then (5,0,false,0,0) else (0,(folW (verR cur (fun q=>chkR s K cs q 7)) (atS stamp) 4097 head 4611686018427387904 0 (0,true,0,0)).2)):=hid rfl;generalize folW (verR cur (fun q=>chkR s K cs q 7)) (atS stamp) 4097 head 4611686018427387904 0 (0,true,0,0)=X at *;generalize atR (verR cur (fun q=>chkR s K cs q 7)) head stamp=Y at *;have Gk:∀ (fn:Fn) (first cap:Array Value) (w:World),(Instr.makeFunc fn first cap).run Tryz.prog w=.ok (.func fn first cap) w:=fun _ _ _ _=>rfl
 clear h Gb hb Gh hh;go_enter Tryz.func57,Tryz.ntmps57
 go_wp2_with fail
 rw [Gg.out];refine Gf.out.mono ?_;rintro e w2 ⟨rfl,⟨r1,r2,r3⟩,hb2⟩;obtain ⟨ev,st,bb,dt,ol⟩:=X;dsimp only at r2 Ga;have Gj:=hid hb2;have k0:w2.cell? ⟨w.heap.size+2,0,none⟩=some (.int .u64 st):=r2.cell 0;have k1:w2.cell? ⟨w.heap.size+2,1,none⟩=some (.bool bb):=r2.cell 1;have k2:w2.cell? ⟨w.heap.size+2,2,none⟩=some (.int .u64 dt):=r2.cell 2;have k3:w2.cell? ⟨w.heap.size+2,3,none⟩=some (.int .u64 ol):=r2.cell 3;have y0:w2.cell? ⟨w.heap.size+1,0,none⟩=some (.int .u64 0):=r3.cell 0;have z0:w2.frozen? ⟨w.heap.size+1,0,none⟩=false:=r3.frozen 0;have y1:w2.cell? ⟨w.heap.size+1,1,none⟩=some (.bool false):=r3.cell 1;have z1:w2.frozen? ⟨w.heap.size+1,1,none⟩=false:=r3.frozen 1;have y2:w2.cell? ⟨w.heap.size+1,2,none⟩=some (.int .u64 0):=r3.cell 2;have z2:w2.frozen? ⟨w.heap.size+1,2,none⟩=false:=r3.frozen 2;have y3:w2.cell? ⟨w.heap.size+1,3,none⟩=some (.int .u64 0):=r3.cell 3;have z3:w2.frozen? ⟨w.heap.size+1,3,none⟩=false:=r3.frozen 3;have Gd:w.heap.size+1 < w2.heap.size:=r3.lt;have Gc:w.heap.size<=w.heap.size+1:=oM;have Gl:(⟨w.heap.size+1,0,none⟩:Addr)≠⟨w.heap.size+1,1,none⟩:=by simp
 have Gm:(⟨w.heap.size+1,0,none⟩:Addr)≠⟨w.heap.size+1,2,none⟩:=by simp
 have Gn:(⟨w.heap.size+1,0,none⟩:Addr)≠⟨w.heap.size+1,3,none⟩:=by simp
 have Go:(⟨w.heap.size+1,1,none⟩:Addr)≠⟨w.heap.size+1,2,none⟩:=by simp
 have Gp:(⟨w.heap.size+1,1,none⟩:Addr)≠⟨w.heap.size+1,3,none⟩:=by simp
 have Gq:(⟨w.heap.size+1,2,none⟩:Addr)≠⟨w.heap.size+1,3,none⟩:=by simp
 have hz:∀ (v0 v1 v2 v3:Value),Blw w ((((w2.setCell ⟨w.heap.size+1,0,none⟩ v0).setCell ⟨w.heap.size+1,1,none⟩ v1).setCell ⟨w.heap.size+1,2,none⟩ v2).setCell ⟨w.heap.size+1,3,none⟩ v3):=fun v0 v1 v2 v3=>((((Gj.out.setCell (p:=⟨w.heap.size+1,0,none⟩) Gc v0).setCell (p:=⟨w.heap.size+1,1,none⟩) Gc v1).setCell (p:=⟨w.heap.size+1,2,none⟩) Gc v2).setCell (p:=⟨w.heap.size+1,3,none⟩) Gc v3)
 have HZ:=hid hz;clear r1 r2 r3 hb2 Gg Gf Gi Ge hz;by_cases hev:ev=0
 ·subst hev
  rw [show ((0:Nat):Int)=0 from rfl];cases bb
  ·have HY:Hid (Y=(0,st,false,dt,ol)):=hid (by rw [Ga.out];rfl)
   go_wp2;refine bodyPost_ret (v := .tuple #[.agg #[.int .u64 st,.bool false,.int .u64 dt,.int .u64 ol],.int .i64 0]) (by simp [results,Tryz.results57,go_sem,y0,y1,y2,y3,Gd]) rfl ?_;unfold z5g;rw [HY.out];exact ⟨rfl,HZ.out _ _ _ _⟩
  ·have HY:Hid (Y=(5,0,false,0,0)):=hid (by rw [Ga.out];rfl)
   go_wp2;refine bodyPost_ret (v := .tuple #[.agg #[.int .u64 0,.bool false,.int .u64 0,.int .u64 0],.int .i64 5]) (by simp [results,Tryz.results57,go_sem,y0,y1,y2,y3,Gd]) rfl ?_;unfold z5g;rw [HY.out];exact ⟨rfl,HZ.out _ _ _ _⟩
 ·have HY:Hid (Y=(ev,0,false,0,0)):=hid (by rw [Ga.out,if_pos hev])
  have d1:((ev:Int) != 0)=true:=by rw [bne,beq_eq_false_iff_ne.2 oM];rfl
  clear hev Ga;go_wp2;refine bodyPost_ret (v := .tuple #[.agg #[.int .u64 0,.bool false,.int .u64 0,.int .u64 0],.int .i64 ev]) (by simp [results,Tryz.results57,go_sem,y0,y1,y2,y3,Gd]) rfl ?_;unfold z5g;rw [HY.out];exact ⟨rfl,HZ.out _ _ _ _⟩
end
end
section
open Go.RowKit Go.Maps
def ckS (B:Nat->Nat) (q:Nat) (_p:Nat) (v:Nat × Bool × Nat × Nat):Nat × Bool :=
 if v.2.1=false/\B v.2.2.1≠0 then (11,false) else (q,decide (q=0))
section
variable {a:DA} {L T s n K:Nat} {x:HA} {cs:Nat->CS} {f:Nat->Option Nat} {N m b0:Nat} {S:Fp} {cur:Nat->Nat} {w:World} {d r:Nat}
theorem w3f {W:World} (h:SD a L T s n K x cs f N m b0 S cur W d r) (p sp:Nat) (dl:Bool) (dt ol gs gb q:Nat) (hdt:dt < 18446744073709551616) (hs:Blk W gs 83 #[.iface 59 (.pointer (some ⟨d,0,none⟩))]) (hb:Blk W gb 55 #[.int .i64 q]) (hne:gs≠gb) :
  Calls Tryz.prog 142 #[.int .u64 p,.agg #[.int .u64 sp,.bool dl,.int .u64 dt,.int .u64 ol],.pointer (some ⟨gs,0,none⟩),.pointer (some ⟨gb,0,none⟩)] W fun e w'=>e=.returned (.bool (ckS (fun z=>(z1b L cur (fun q=>chkR s K cs q 1) z).1) q p (sp,dl,dt,ol)).2)/\(Blk w' gs 83 #[.iface 59 (.pointer (some ⟨d,0,none⟩))]/\Blk w' gb 55 #[.int .i64 ((ckS (fun z=>(z1b L cur (fun q=>chkR s K cs q 1) z).1) q p (sp,dl,dt,ol)).1:Int)])/\Chg (fun k=>k=gb) W w':=by
 obtain ⟨W1,Gp⟩:∃ W1,W.alloc (.cells #[.int .u64 sp,.bool dl,.int .u64 dt,.int .u64 ol] 97)=W1:=⟨_,rfl⟩
 have Gm:=Blk.new W 97 #[.int .u64 sp,.bool dl,.int .u64 dt,.int .u64 ol];have Gf:Blw W (W.alloc (.cells #[.int .u64 sp,.bool dl,.int .u64 dt,.int .u64 ol] 97)):=(Below.refl _ _).alloc (nL _) _;rw [Gp] at Gm Gf;have Go:=hid Gp;have Gs:=hs.below Gf hs.lt;have Gq:=hb.below Gf hb.lt;have Gd:Hid (Chg (fun k=>k=gb) W W1):=hid (Chg.of_below Gf);have Gj:=hid (x2u (h.below Gf) dt hdt rfl);have Gv:Hid (∀ W',Blw W W'->Calls Tryz.prog 143 #[.iface 59 (.pointer (some ⟨d,0,none⟩))] W' fun e w'=>e=.returned (.int .i64 11)/\W'=w'):=hid (fun W' hW=>z6b (h.below hW));unfold dirV at Gj;obtain ⟨ev,Gg⟩:∃ ev,(z1b L cur (fun q=>chkR s K cs q 1) dt).1=ev:=⟨_,rfl⟩
 rw [Gg] at Gj;have Gl:Hid (ckS (fun z=>(z1b L cur (fun q=>chkR s K cs q 1) z).1) q p (sp,dl,dt,ol)=if dl=false/\ev≠0 then (11,false) else (q,decide (q=0))):=hid (by rw [<- Gg];rfl);generalize ckS (fun z=>(z1b L cur (fun q=>chkR s K cs q 1) z).1) q p (sp,dl,dt,ol)=Y at *;have v1:W1.cell? ⟨W.heap.size,1,none⟩=some (.bool dl):=Gm.cell 1;have v2:W1.cell? ⟨W.heap.size,2,none⟩=some (.int .u64 dt):=Gm.cell 2;have s1:W1.cell? ⟨gs,0,none⟩=some (.iface 59 (.pointer (some ⟨d,0,none⟩))):=Gs.cell 0;have b1:W1.cell? ⟨gb,0,none⟩=some (.int .i64 q):=Gq.cell 0;have Gk:=hid Gs;have Gi:=hid Gq;have Gw:=hid hne;have Gt:=hid Gf;have hq:((q:Int) == 0)=decide (q=0):=by
  by_cases h:q=0
  ·subst h;rfl
  ·rw [decide_eq_false h,beq_eq_false_iff_ne];omega
 generalize decide (q=0)=qz at *;clear h hs hb hne Gm Gf Gs Gq Gp Gg hdt;by_cases hbad:dl=false/\ev≠0
 ·obtain ⟨rfl,Gg⟩:=hbad
  have HY:Hid (Y=(11,false)):=hid (by rw [Gl.out,if_pos ⟨rfl,Gg⟩]);have d1:((ev:Int) != 0)=true:=by rw [bne,beq_eq_false_iff_ne.2 oM];rfl
  clear Gl;go_enter Tryz.func142,Tryz.ntmps142
  go_upto_region 1 with fail
  rw [Go.out];go_wp2_with (go_at_call 34;refine Gj.out.mono ?_;rintro e w2 ⟨rfl,Ga⟩;have Gb:=hid Ga;clear Ga;refine stop ?_)
  unfold Stop;have Gh:=Gk.out.below Gb.out Gk.out.lt;have Ga:=Gi.out.below Gb.out Gi.out.lt;have s2:w2.cell? ⟨gs,0,none⟩=some (.iface 59 (.pointer (some ⟨d,0,none⟩))):=Gh.cell 0;have b2:w2.cell? ⟨gb,0,none⟩=some (.int .i64 q):=Ga.cell 0;have z2:w2.frozen? ⟨gb,0,none⟩=false:=Ga.frozen 0;have Gy:gb < w2.heap.size:=Ga.lt;have Gu:=hid (Gv.out w2 (Gt.out.trans (Gb.out.mono Gt.out.size)));have Gn:=hid Gh;have Gc:=hid Ga;have Ge:Hid (Chg (fun k=>k=gb) W w2):=hid (Gd.out.trans (Chg.of_below Gb.out) (Grew.refl _ _));clear Gh Ga;go_wp2_with (go_at_call 143;refine Gu.out.mono ?_;rintro e w3 ⟨rfl,rfl⟩)
  go_ret;rw [HY.out];have Gx:Chg (fun k=>k=gb) W (w2.setCell ⟨gb,0,none⟩ (.int .i64 11)):=Ge.out.setCell (p:=⟨gb,0,none⟩) (.inl rfl) _;have Gr:Chg (fun k=>k=gb) w2 (w2.setCell ⟨gb,0,none⟩ (.int .i64 11)):=(Chg.refl (fun k=>k=gb) w2).setCell (p:=⟨gb,0,none⟩) (.inl rfl) _;exact ⟨rfl,⟨Gr.blk Gn.out Gw.out,Gc.out.set_ 0 (.int .i64 11)⟩,Gx⟩
 ·have HY:Hid (Y=(q,qz)):=hid (by rw [Gl.out,if_neg hbad])
  clear Gl;cases dl
  ·have Gg:ev=0:=Classical.not_not.1 (fun h=>hbad ⟨rfl,h⟩)
   subst Gg;rw [show ((0:Nat):Int)=0 from rfl] at Gj;clear hbad;go_enter Tryz.func142,Tryz.ntmps142
   go_upto_region 1 with fail
   rw [Go.out];go_wp2_with (go_at_call 34;refine Gj.out.mono ?_;rintro e w2 ⟨rfl,Ga⟩;have Gb:=hid Ga;clear Ga;refine stop ?_)
   unfold Stop;have Gh:=Gk.out.below Gb.out Gk.out.lt;have Ga:=Gi.out.below Gb.out Gi.out.lt;have b2:w2.cell? ⟨gb,0,none⟩=some (.int .i64 q):=Ga.cell 0;have Gn:=hid Gh;have Gc:=hid Ga;have Ge:Hid (Chg (fun k=>k=gb) W w2):=hid (Gd.out.trans (Chg.of_below Gb.out) (Grew.refl _ _));clear Gh Ga;go_wp2;go_ret;rw [HY.out];exact ⟨rfl,⟨Gn.out,Gc.out⟩,Ge.out⟩
  ·clear hbad
   go_enter Tryz.func142,Tryz.ntmps142
   go_upto_region 1 with fail
   rw [Go.out];go_wp2;go_ret;rw [HY.out];exact ⟨rfl,⟨Gk.out,Gi.out⟩,Gd.out⟩
def vckR (rd:Nat->Nat × Nat × Bool × Nat × Nat) (B:Nat->Nat) (head:Nat):Nat :=
 if (folW rd (ckS B) 4097 head 4611686018427387904 0 0).1≠0 then (folW rd (ckS B) 4097 head 4611686018427387904 0 0).1 else (folW rd (ckS B) 4097 head 4611686018427387904 0 0).2
def CkR (d gs gb:Nat) (q:Nat) (W:World):Prop:=Blk W gs 83 #[.iface 59 (.pointer (some ⟨d,0,none⟩))]/\Blk W gb 55 #[.int .i64 q]
theorem w5a (h:SD a L T s n K x cs f N m b0 S cur w d r) (gs gb:Nat) (h1:gs≠gb):Body 142 #[.pointer (some ⟨gs,0,none⟩),.pointer (some ⟨gb,0,none⟩)] w (fun _ _=>True) (fun _ _ k=>k=gb) (CkR d gs gb) (ckS (fun z=>(z1b L cur (fun q=>chkR s K cs q 1) z).1)):=by
 intro q _ p sp dl dt ol W _ _ hR hW _ _ _ hdt _;obtain ⟨r1,r2⟩:=hR;have e:(#[Value.int .u64 p,.agg #[.int .u64 sp,.bool dl,.int .u64 dt,.int .u64 ol]]++#[Value.pointer (some ⟨gs,0,none⟩),.pointer (some ⟨gb,0,none⟩)])=#[.int .u64 p,.agg #[.int .u64 sp,.bool dl,.int .u64 dt,.int .u64 ol],.pointer (some ⟨gs,0,none⟩),.pointer (some ⟨gb,0,none⟩)]:=by simp
 rw [e];exact w3f (h.below hW) p sp dl dt ol gs gb q hdt r1 r2 h1
theorem y3l (h:SD a L T s n K x cs f N m b0 S cur w d r) (head:Nat) (hh:head < 18446744073709551616) :
  Calls Tryz.prog 59 #[.iface 59 (.pointer (some ⟨d,0,none⟩)),.int .u64 head] w fun e w'=>e=.returned (.int .i64 (vckR (verR cur (fun q=>chkR s K cs q 7)) (fun z=>(z1b L cur (fun q=>chkR s K cs q 1) z).1) head:Int))/\Blw w w':=by
 obtain ⟨W1,Gb⟩:∃ W1,(w.alloc (.cells #[.iface 59 (.pointer (some ⟨d,0,none⟩))] 83)).alloc (.cells #[.int .i64 0] 55)=W1:=⟨_,rfl⟩
 have Gf:=hid Gb;have Gg:(w.alloc (.cells #[.iface 59 (.pointer (some ⟨d,0,none⟩))] 83)).heap.size=w.heap.size+1:=by simp
 have hb:Blw w W1:=by
  rw [<- Gb];exact ((Below.refl _ _).alloc (nL _) _).alloc (by simp) _
 have Gc:CkR d w.heap.size (w.heap.size+1) 0 W1:=by
  rw [<- Gb];refine ⟨(Blk.new w 83 #[.iface 59 (.pointer (some ⟨d,0,none⟩))]).alloc _,?_⟩;have h1:=Blk.new (w.alloc (.cells #[.iface 59 (.pointer (some ⟨d,0,none⟩))] 83)) 55 #[.int .i64 0];rw [Gg] at h1;exact h1
 have Ge:=hid (z6z h hb head hh 142 #[.pointer (some ⟨w.heap.size,0,none⟩),.pointer (some ⟨w.heap.size+1,0,none⟩)] (fun _ _=>True) (fun _ _ k=>k=w.heap.size+1) (CkR d w.heap.size (w.heap.size+1)) (ckS (fun z=>(z1b L cur (fun q=>chkR s K cs q 1) z).1)) 0
  (fun s W hR k hk=>by
   subst hk;exact ⟨oM,hR.2.lt⟩) (fun _ _ _ _ _ _ hk=>hk) trivial (fun _ _ _ _ _ _=>trivial) Gc (fun s W W' hR hW=>⟨hR.1.below hW hR.1.lt,hR.2.below hW hR.2.lt⟩) (fun args w=>by kernel_rfl) (w5a h _ _ oM))
 have Ga:Hid (vckR (verR cur (fun q=>chkR s K cs q 7)) (fun z=>(z1b L cur (fun q=>chkR s K cs q 1) z).1) head=if (folW (verR cur (fun q=>chkR s K cs q 7)) (ckS (fun z=>(z1b L cur (fun q=>chkR s K cs q 1) z).1)) 4097 head 4611686018427387904 0 0).1≠0 then (folW (verR cur (fun q=>chkR s K cs q 7)) (ckS (fun z=>(z1b L cur (fun q=>chkR s K cs q 1) z).1)) 4097 head 4611686018427387904 0 0).1 else (folW (verR cur (fun q=>chkR s K cs q 7)) (ckS (fun z=>(z1b L cur (fun q=>chkR s K cs q 1) z).1)) 4097 head 4611686018427387904 0 0).2):=hid rfl;generalize folW (verR cur (fun q=>chkR s K cs q 7)) (ckS (fun z=>(z1b L cur (fun q=>chkR s K cs q 1) z).1)) 4097 head 4611686018427387904 0 0=X at *;generalize vckR (verR cur (fun q=>chkR s K cs q 7)) (fun z=>(z1b L cur (fun q=>chkR s K cs q 1) z).1) head=Y at *;have c1:W1.cell? ⟨w.heap.size,0,none⟩=some (.iface 59 (.pointer (some ⟨d,0,none⟩))):=Gc.1.cell 0;have Gh:∀ (fn:Fn) (first cap:Array Value) (w:World),(Instr.makeFunc fn first cap).run Tryz.prog w=.ok (.func fn first cap) w:=fun _ _ _ _=>rfl
 clear h Gb hb Gc hh;go_enter Tryz.func59,Tryz.ntmps59
 go_upto_region 2 with fail
 rw [Gf.out];go_wp2_with fail
 refine Ge.out.mono ?_;rintro e w2 ⟨rfl,⟨r1,r2⟩,hb2⟩;obtain ⟨ev,q⟩:=X;dsimp only at r2 Ga;have Gd:=hid hb2;have b2:w2.cell? ⟨w.heap.size+1,0,none⟩=some (.int .i64 q):=r2.cell 0;clear r1 r2 hb2 Gf Ge Gg c1;by_cases hev:ev=0
 ·subst hev
  rw [show ((0:Nat):Int)=0 from rfl];have HY:Hid (Y=q):=hid (by rw [Ga.out];rfl);go_wp2;go_ret;rw [HY.out];exact ⟨rfl,Gd.out⟩
 ·have HY:Hid (Y=ev):=hid (by rw [Ga.out,if_pos hev])
  have d1:((ev:Int) != 0)=true:=by rw [bne,beq_eq_false_iff_ne.2 oM];rfl
  clear hev Ga;go_wp2;go_ret;rw [HY.out];exact ⟨rfl,Gd.out⟩
end
end
section
open Go.RowKit Go.Maps
section
variable {a:DA} {L T n K:Nat} {x:HA} {cs cs2:Nat->CS} {f f2:Nat->Option Nat} {N m b0:Nat} {S:Fp} {cur cur2:Nat->Nat} {w:World} {ks keep free:List Nat} {V:Nat->Nat} {cm d r:Nat}
theorem x8y (h:SD a L T 53 n K x cs f N m b0 S cur w d r):¬ sfp S x w.heap.size:=by
 rintro (e | e)
 ·exact Nat.lt_irrefl _ (h.ds.dev.lt _ e)
 ·have h1:=h.lo
  have h2:=h1.pl;have h3:=h1.mr;have h4:=h1.mh;have e':w.heap.size=x.pl\/w.heap.size=x.mr\/w.heap.size=x.mh:=e;omega
theorem y0x (W:World) (C:Array Value) (t:TypeId) (l:List Nat) (h:C.toList=z0a l):z0c (W.alloc (.cells C t)) (W.alloc (.cells C t)).heap.size 1 (some ⟨W.heap.size,0,none⟩) l.length (z0a l):=by
 refine ⟨by simp [z0a],fun _=>⟨_,rfl,by simp,fun j u hu=>?_⟩⟩;have hh:(W.alloc (.cells C t)).heap[W.heap.size]?=some (.cells C t):=heap_alloc_new W _;have ha:(⟨W.heap.size,0,none⟩:Addr).add j=⟨W.heap.size,j,none⟩:=by unfold Addr.add;split <;> simp_all
 rw [ha,cell_of_row _ _ _ _ _ _ hh,<- Array.getElem?_toList,h];exact hu
variable {y:WA}
end
end
section
open Go.RowKit Go.Maps
theorem y9z (A:Option Addr) (n c:Nat) (l:List Nat) (w:World) (hr:z0c w w.heap.size 1 A n (z0a l)) (hn:n<=100000) :
  Calls Tryz.prog 51 #[.slice A n c] w fun e w'=>∃ A' c',e=.returned (.slice A' n c')/\w'.ownsRow w.heap.size 32 1 (.slice A' n c') n (z0a l)/\Blw w w':=by
 have hl:l.length=n:=by have h1:=hr.1;simpa [z0a] using h1
 obtain ⟨i0,Gm,Gn,Gp,Gq⟩:=info_parts z5t;have HR:=hid hr;have Gb:Hid (Blw w w):=Below.refl _ _;have Ge:Hid (w.ownsRow w.heap.size 32 1 (.slice none 0 0) 0 (z0a (l.take 0))):=World.ownsRow_nil _ _ _ _;have HL:=hid hl;clear hr hl;go_enter Tryz.func51,Tryz.ntmps51
 go_wp2;go_loopw [3,8] (fun p i wr=>∃ (k:Nat) (A1:Option Addr) (c1:Nat),k<=n/\i=.int .i64 k/\p=.slice A1 k c1/\Hid (wr.ownsRow w.heap.size 32 1 (.slice A1 k c1) k (z0a (l.take k)))/\Hid (Blw w wr)) (fun _ i _=>n - (Go.RowKit.intOf i).toNat)
 case atStart=>exact ⟨0,_,_,Nat.zero_le _,rfl,rfl,Ge,Gb⟩
 case round =>
  clear Gb Ge;obtain ⟨k,A1,c1,hk,rfl,rfl,HO,H⟩:=hrel;by_cases hlt:k < n
  ·obtain ⟨Gh,gb,go,Gl,_,fk⟩:=z2b ((HR.out.below H.out).more H.out.size) (k:=k) hlt
   subst Gl;have Gr:(0:Int)<=(k:Int):=oM;have Gs:(k:Int) < (n:Int):=oM;have HT:Hid (z0a (l.take k)++[.int .u64 (l[k]:Int)]=z0a (l.take (k+1))):=hid (by
    rw [List.take_succ_eq_append_getElem Gh];unfold z0a;rw [List.map_append];rfl)
   generalize l[k]=v at *;have Gj:=hid H.out.size;have Gk:=hid (HO.out.alloc (.cells #[.int .u64 v] 32));have Gi:=hid (H.out.alloc H.out.size (.cells #[.int .u64 v] 32));clear H HO Gh;go_wp2_with (at_builtin;refine z0p _ (.tmp 12) (.tmp 14) 99 rfl rfl w.heap.size 32 i0 _ 1 8 Tryz.underlying99 Gm Gn Gp Gq rfl Nat.one_pos (.slice A1 k c1) k (z0a (l.take k)) rfl Gk.out (wr.heap.size+1) (some ⟨wr.heap.size,0,none⟩) 1 1 [.int .u64 v] rfl ?q5 ?q6 ?q2 ?q3 ?q4 ?_;(case q5=>exact z0m _ _ rfl _ 1 1 32 _ rfl rfl);(case q6=>(intro u hu;simp at hu;subst hu;rfl));(case q2=>(unfold maxLen;omega));(case q3=>omega);(case q4=>(have:=Gj.out;simp;omega));intro A3 n3 c3 w8 Ga ho3 hg3 hb3;have Gd:=hid Ga;have Gf:=hid ho3;have Gc:=hid (Gi.out.trans hb3);clear Ga ho3 hg3 hb3;refine stop ?_)
   unfold Stop;have Ga:=Gd.out;subst Ga;have Gg:Hid (w8.ownsRow w.heap.size 32 1 (.slice A3 (k+1) c3) (k+1) (z0a (l.take (k+1)))):=hid (by have h:=Gf.out;rw [HT.out] at h;exact h);clear Gf Gd;go_wp2;go_roundw
   case rel =>
    first
     | exact ⟨k+1,_,_,oM,by go_num,rfl,Gg,Gc⟩
     | (
       repeat apply Exists.intro
       refine ⟨?_,rfl⟩;exact ⟨k+1,_,_,oM,by go_num,rfl,Gg,Gc⟩)
   case measure=>simp [Go.RowKit.intOf];omega
  ·obtain rfl:n=k:=oM
   go_wp2;go_ret;refine ⟨_,_,rfl,?_,H.out⟩;have h:=HO.out;rw [List.take_of_length_le (Nat.le_of_eq HL.out)] at h;exact h
theorem z8d {a:DA} {L T K:Nat} {x:HA} {y:WA} {cs:Nat->CS} {f:Nat->Option Nat} {N m b0:Nat} {S:Fp} {cur:Nat->Nat} {w:World} (h:BW a L T K x y cs f N m b0 S cur w) (i:Nat) (hi:i < 8) :
  Calls Tryz.prog 33 #[.pointer (some ⟨y.g,0,none⟩),.int .i64 i] w fun e w'=>e=.returned (.int .u64 (cur (416+i):Int))/\w'=w.drew:=by
 have Gb:=hid (y0w i hi);have hL:=h.size;have Ga:Hid (∀ W,W=w.drew->Calls Tryz.prog 65 #[.pointer (some ⟨a.th 0,0,none⟩),.int .u64 ((3328+8 * i:Nat):Int)] W (fun e w'=>e=.returned (.int .u64 (cur (416+i):Int))/\W=w')):=hid (fun W hW=>by
  subst hW;exact z3v h.sd.ds.dev (3328+8 * i) _ oM oM (by congr 1;omega) _ (Below.refl _ _).drew)
 have g1:w.cell? ⟨y.g,1,none⟩=some (.pointer (some ⟨a.th 0,0,none⟩)):=h.blk.cell 1;generalize 3328+8 * i=O at *;generalize cur (416+i)=V at *;clear h;go_enter Tryz.func33,Tryz.ntmps33
 go_upto_region 1 with fail
 refine z0g (fun w'=>w'.cell? ⟨y.g,1,none⟩=some (.pointer (some ⟨a.th 0,0,none⟩))) 8 [] [(1,0),(1,1),(1,2),(1,3),(1,4),(0,5),(0,6),(1,7)] (by kernel_rfl) (by kernel_rfl) g1 ?_;refine tkG (.pointer (some ⟨y.g,0,none⟩)) ?_;refine tkG (.pointer (some ⟨y.g,0,none⟩)) ?_;refine tkG (.pointer (some ⟨y.g,1,none⟩)) ?_;refine tkG (.pointer (some ⟨a.th 0,0,none⟩)) ?_;refine tkG (.int .i64 i) ?_;refine z0b (by rfl) ?_;go_wp2_with (go_at_call 53;refine (Gb.out _).mono ?_;rintro e w1 ⟨rfl,rfl⟩)
 refine ⟨g1,?_⟩;refine z0b (by rfl) ?_;go_wp2_with (go_at_call 65;refine (Ga.out _ rfl).mono ?_;rintro e w1 ⟨rfl,rfl⟩)
 refine ⟨g1,?_⟩;refine tkG (.int .u64 V) ?_;show wpList _ _ _ _ _ _;simp only [List.drop_succ_cons,List.drop_zero];refine NoPanic.normal ?_;go_wp2_with fail
 go_ret;exact ⟨rfl,rfl⟩
end
end Go.Proofs.YtfkjjoglnmeciaaGreatDoor
