/- part 29 -/
import Derived.Test.YtfkjjoglnmeciaaGreatDoorMbb
set_option maxRecDepth 100000
set_option maxHeartbeats 16000000
namespace Go.Proofs.YtfkjjoglnmeciaaGreatDoor
open Go.Lib (hid)
section
open Go.RowKit Go.Maps
theorem z0c.takeR {w:World} {B size n m:Nat} {A:Option Addr} {xs:List Value} (h:z0c w B size A n xs) (hm:m<=n):z0c w B size A m (xs.take (m * size)):=by
 obtain ⟨h1,h2⟩:=h;have h3:m * size<=n * size:=Nat.mul_le_mul_right _ hm;refine ⟨by rw [List.length_take];omega,fun hp=>?_⟩;obtain ⟨ad,e,hb,hc⟩:=h2 oM;refine ⟨ad,e,hb,fun j u hu=>hc j u ?_⟩;rw [List.getElem?_take] at hu;split at hu
 ·exact hu
 ·cases hu
theorem z6a:∀ (l:List RV) (m:Nat),m<=l.length->(z0u l).take (m * 5)=z0u (l.take m)
 | l,0,_=>by simp [z0u]
 | [],m+1,h=>absurd h (by simp)
 | r :: l,m+1,h=>by
  have ih:=z6a l m (by simpa using h);show (r.cells++z0u l).take ((m+1) * 5)=r.cells++z0u (l.take m);rw [<- ih,show (m+1) * 5=r.cells.length+m * 5 by show (m+1) * 5=5+m * 5;omega,List.take_length_add_append]
theorem z2r.desc {K:Nat} {cs:Nat->CS} {cur:Nat->Nat}:∀ {rl:List RV},z2r K cs cur (vvs rl)->Desc rl
 | [],_,i,h=>absurd h (Nat.not_lt_zero _)
 | [r],_,i,h=>absurd h (by simp)
 | r :: r2 :: t,hh,0,_=>hh.2.2 r2.v (by simp [vvs])
 | r :: r2 :: t,hh,i+1,h=>z2r.desc (rl:=r2 :: t) hh.2.1 i (by simpa using h)
theorem Desc.take {l:List RV} (h:Desc l) (m:Nat):Desc (l.take m):=fun i hi=>by
 rw [List.length_take] at hi;rw [List.getElem_take,List.getElem_take];exact h i oM
def y5b (x:Nat) (l:List VV):Nat × Nat:=match l[newI x l]? with
 | some v=>if v.dl=true then (0,5) else (newI x l,0)
 | none=>(0,5)
theorem x8o (A:Option Addr) (n c:Nat) (l:List RV) (x:Nat) (w:World) (hr:z0c w w.heap.size 5 A n (z0u l)) (hn:n<=100000) (hc:n<=c) (hd:Desc l) :
  Calls Tryz.prog 56 #[.slice A n c,.int .u64 x] w fun e w'=>e=.returned (.tuple #[.int .i64 ((y5b x (vvs l)).1:Int),.int .i64 ((y5b x (vvs l)).2:Int)])/\Blw w w':=by
 have hl:=z5l hr;have Gl:=hid (y3b A n c l x w hr hn);have Gj:=y4t x (vvs l);have Gg:(vvs l).length=n:=by unfold vvs;rw [List.length_map,hl]
 rw [Gg] at Gj;have Ga:Hid (y5b x (vvs l)=match (vvs l)[newI x (vvs l)]? with | some v=>if v.dl=true then (0,5) else (newI x (vvs l),0) | none=>(0,5)):=hid rfl;generalize y5b x (vvs l)=R at *;generalize newI x (vvs l)=i at *;have HR:=hid hr;by_cases hi:i < n
 ·obtain ⟨Go,gb,go,Gn,_,f0,f1,f2,f3,f4⟩:=z2n hr hi
  have Gd:Hid (R=if (l[i]).v.dl=true then (0,5) else (i,0)):=hid (by
   rw [Ga.out,List.getElem?_eq_getElem (by rw [Gg];exact hi)];unfold vvs;rw [List.getElem_map])
  have Gi:Hid (∀ W,Blw w W->Calls Tryz.prog 139 #[.slice A (i+1) c] W fun e w'=>e=.returned (.bool true)/\Blw W w'):=hid (fun W hW=>by
   refine z9b A (i+1) c (l.take (i+1)) W ?_ oM (hd.take _);have h1:=((hr.below hW).more hW.size).takeR (m:=i+1) oM;rw [z6a l (i+1) oM] at h1;exact h1)
  generalize l[i]=r at *;obtain ⟨v,B,nb,cb,D,nd,cd⟩:=r;obtain ⟨st,dl,q,bl,p⟩:=v;dsimp only at f0 f1 f2 f3 f4 Gd;subst Gn;have e1:wrap64 ((i:Int)+1)=((i+1:Nat):Int):=by rw [IntWalk.wrap64_in _ oM];omega
  have e2:min ((i:Int)+1) (n:Int)=(i:Int)+1:=oM;have e3:min (((i+1:Nat)):Int) (n:Int)=((i+1:Nat):Int):=oM;have e4:((i:Int) == (n:Int))=false:=beq_eq_false_iff_ne.2 oM;have Gs:(0:Int)<=(i:Int):=oM;have Gt:(i:Int) < (n:Int):=oM;clear hr hl hd Gg Gj Ga Go;go_enter Tryz.func56,Tryz.ntmps56
  go_upto_region 2 with (go_at_call 134;refine Gl.out.mono ?_;rintro e w1 ⟨rfl,Ge⟩;have Gb:=hid Ge;clear Ge;refine stop ?_)
  unfold Stop;have Gh:=hid (Gi.out w1 Gb.out);have d1:¬ (n:Int) < (i:Int)+1:=oM;have d2:((i:Int)+1).toNat=i+1:=oM;have d3:(i:Int)+1<=(c:Int):=oM;have d4:(0:Int)<=(i:Int)+1:=oM;go_wp2_with (go_at_call 139;refine Gh.out.mono ?_;rintro e w2 ⟨rfl,Gf⟩;have Gc:=hid (Gb.out.trans (Gf.mono Gb.out.size));clear Gf;refine stop ?_)
  unfold Stop;obtain ⟨Gk,Gq,Gr,Gm,_, -,k1, -, -, -⟩:=z2n ((HR.out.below Gc.out).more Gc.out.size) hi;injection Gm with e5
  injection e5 with e5 e6
  subst e5 e6;have Gu:w2.cell? ⟨gb,go+i * 5+1,none⟩=some (.bool dl):=by
   have h1:=Gc.out.cell (p:=⟨gb,go+i * 5+1,none⟩) (by assumption);exact h1.trans f1
  clear k1 Gk d1 d2 d3 d4 f0 f1 f2 f3 f4 e1 e2 e3;cases dl
  ·have HF:Hid (R=(i,0)):=hid (by rw [Gd.out,if_neg (by decide)])
   go_wp2;go_ret2;rw [HF.out];exact ⟨rfl,Gc.out⟩
  ·have HF:Hid (R=(0,5)):=hid (by rw [Gd.out,if_pos rfl])
   go_wp2;go_ret2;rw [HF.out];exact ⟨rfl,Gc.out⟩
 ·have Gp:i=n:=oM
  have Gd:Hid (R=(0,5)):=hid (by
   rw [Ga.out,List.getElem?_eq_none (by rw [Gg];omega)])
  have Gi:Hid (∀ W,Blw w W->Calls Tryz.prog 139 #[.slice A n c] W fun e w'=>e=.returned (.bool true)/\Blw W w'):=hid (fun W hW=>z9b A n c l W ((hr.below hW).more hW.size) hn hd);subst Gp;have d1:(i:Int) < (i:Int)+1:=oM;have d2:((i:Int) == (i:Int))=true:=beq_self_eq_true _;have d3:(i:Int)<=(c:Int):=oM;have e1:wrap64 ((i:Int)+1)=(i:Int)+1:=by rw [IntWalk.wrap64_in _ oM]
  clear hr hl hd Gg Gj Ga hi;go_enter Tryz.func56,Tryz.ntmps56
  go_upto_region 2 with (go_at_call 134;refine Gl.out.mono ?_;rintro e w1 ⟨rfl,Ge⟩;have Gb:=hid Ge;clear Ge;refine stop ?_)
  unfold Stop;have Gh:=hid (Gi.out w1 Gb.out);go_wp2_with (go_at_call 139;refine Gh.out.mono ?_;rintro e w2 ⟨rfl,Gf⟩;have Gc:=hid (Gb.out.trans (Gf.mono Gb.out.size));clear Gf)
  go_ret2;rw [Gd.out];exact ⟨rfl,Gc.out⟩
theorem x7g {K:Nat} {cs:Nat->CS} {cur:Nat->Nat}:∀ {rl:List RV},z2r K cs cur (vvs rl)->∀ i (h:i < rl.length),VerA K cs cur (rl[i]).v (hdQ (vvs (rl.drop (i+1))))
 | r :: t,hh,0,_=>hh.1
 | r :: t,hh,i+1,h=>x7g (rl:=t) hh.2.1 i (by simpa using h)
theorem x1h (rl:List RV) (i:Nat):hdQ (vvs (rl.drop i))=((rl[i]?).map fun r=>r.v.q).getD 0:=by
 cases h:rl[i]? with
 | none =>
  have h1:=List.getElem?_eq_none_iff.1 h;rw [List.drop_of_length_le h1];rfl
 | some r =>
  obtain ⟨h1,h2⟩:=List.getElem?_eq_some_iff.1 h;rw [List.drop_eq_getElem_cons h1,h2];rfl
section
variable {w0 w:World} {k gh:Nat} {rl:List RV} {z:HP}
theorem w2u (hj:HsJ w0 k gh rl (vvs rl) z w) (i:Nat) (hi:i < rl.length) (st:Nat) (dl:Bool) (dt ol:Nat) (hk:rl.length<=1000) (h1:st=(rl[i]).v.st) (h2:dl=(rl[i]).v.dl) (h3:dt=(rl[i]).v.dt) (h4:ol=hdQ (vvs (rl.drop (i+1)))) :
  Calls Tryz.prog 42 #[.pointer (some ⟨gh,0,none⟩),vAgg st dl dt ol,.int .i64 i] w fun e w'=>e=.returned (.bool true)/\Blw w w':=by
 have hl:=z5l hj.rd;obtain ⟨W1,Gn⟩:∃ W1,w.alloc (.cells #[.int .u64 st,.bool dl,.int .u64 dt,.int .u64 ol] 97)=W1:=⟨_,rfl⟩
 have Gj:=Blk.new w 97 #[.int .u64 st,.bool dl,.int .u64 dt,.int .u64 ol];have Gi:Blw w (w.alloc (.cells #[.int .u64 st,.bool dl,.int .u64 dt,.int .u64 ol] 97)):=(Below.refl _ _).alloc (nL _) _;rw [Gn] at Gj Gi;have Gf:=hj.below_ Gi;obtain ⟨G8,gb,go,Gm,G2,f0,f1,f2,f3,f4⟩:=z2n Gf.rd (k:=i) oM;have hv:=x7g hj.hist i hi;have Gc:=hv.dtz;have b1:W1.cell? ⟨gh,1,none⟩=some (.slice z.A z.n z.c):=Gf.blk.cell 1;obtain ⟨An,Gh⟩:∃ An,z.A=An:=⟨_,rfl⟩
 obtain ⟨n,hn⟩:∃ n,z.n=n:=⟨_,rfl⟩
 obtain ⟨c,hc⟩:∃ c,z.c=c:=⟨_,rfl⟩
 rw [Gh,hn,hc] at b1;rw [hn] at hl;rw [Gh] at Gm;have Gu:Hid ((i+1 < n/\W1.cell? ⟨gb,go+(i+1) * 5+2,none⟩=some (.int .u64 ol))\/(¬ i+1 < n/\ol=0)):=hid (by
  by_cases h5:i+1 < n
  ·obtain ⟨Gq,G5,G6,Gd,_,_,_,e2,_⟩:=z2n Gf.rd (k:=i+1) oM
   rw [Gh,Gm] at Gd;injection Gd with e1
   injection e1 with e1 e3
   subst e1 e3;refine .inl ⟨h5,?_⟩;rw [h4,x1h,List.getElem?_eq_getElem Gq];exact e2
  ·refine .inr ⟨h5,?_⟩
   rw [h4,x1h,List.getElem?_eq_none oM];rfl)
 have Gl:Hid (dl=false->∃ db Ga:Nat,(rl[i]).B=some ⟨db,Ga,none⟩/\0 < (rl[i]).nb/\db < W1.heap.size/\W1.cell? ⟨db,Ga,none⟩=some (.int .u64 dt)):=hid (fun hdl=>by
  have h5:=hv.blen;rw [<- h2,hdl,if_neg (by decide)] at h5;have h6:=z4h (rl[i]).v.p;obtain ⟨r1,_⟩:=Gf.rin (rl[i]) (List.getElem_mem hi);have h7:(rl[i]).v.bl.length=(rl[i]).nb:=by have:=r1.1;simpa [z0a] using this
  obtain ⟨G3,db,Ga,e1,e2,e3⟩:=z2b r1 (k:=0) oM;refine ⟨db,Ga,e1,oM,e2,?_⟩;rw [Nat.add_zero] at e3;have e0:(rl[i]).v.dt=(rl[i]).v.bl[0]:=by
   exact z5s _ G3
  rw [h3,e0];exact e3)
 have Gy:Hid (dl=true->dt=0):=hid (fun hdl=>by
  rw [<- h2,hdl,<- h3] at Gc;exact of_decide_eq_true Gc.symm)
 rw [<- h1] at f0;rw [<- h2] at f1;generalize rl[i]=r at *;obtain ⟨v,B,nb,cb,D,nd,cd⟩:=r;dsimp only at f0 f1 f2 f3 f4 Gl;generalize v.q=q at *;subst Gm;have v0:=Gj;have Gz:=hid Gn;have Gk:=hid Gi;have Gs:=hid Gj;have Gp:gh < w.heap.size:=hj.blk.lt;clear hv Gc h1 h2 h3 h4 hj Gf Gj Gi Gn v0 Gh hc;have GA:(0:Int)<=(i:Int):=oM;have GB:(i:Int) < (n:Int):=oM;unfold vAgg;obtain ⟨W2,Go⟩:∃ W2,W1.alloc (.cells #[.int .u64 st,.bool dl,.int .u64 q,.slice B nb cb,.slice D nd cd] 101)=W2:=⟨_,rfl⟩
 have Ge:=Blk.new W1 101 #[.int .u64 st,.bool dl,.int .u64 q,.slice B nb cb,.slice D nd cd];have Gb:Blw W1 (W1.alloc (.cells #[.int .u64 st,.bool dl,.int .u64 q,.slice B nb cb,.slice D nd cd] 101)):=(Below.refl _ _).alloc (nL _) _;go_enter Tryz.func42,Tryz.ntmps42
 go_upto_region 1 with fail
 rw [Gz.out];rw [Go] at Ge Gb;have G0:=hid Go;have g0:W2.cell? ⟨W1.heap.size,0,none⟩=some (.int .u64 st):=Ge.cell 0;have g1:W2.cell? ⟨W1.heap.size,1,none⟩=some (.bool dl):=Ge.cell 1;have g3:W2.cell? ⟨W1.heap.size,3,none⟩=some (.slice B nb cb):=Ge.cell 3;have Gg:=Gs.out.below Gb Gs.out.lt;have v0:W2.cell? ⟨w.heap.size,0,none⟩=some (.int .u64 st):=Gg.cell 0;have v1:W2.cell? ⟨w.heap.size,1,none⟩=some (.bool dl):=Gg.cell 1;have v2:W2.cell? ⟨w.heap.size,2,none⟩=some (.int .u64 dt):=Gg.cell 2;have v3:W2.cell? ⟨w.heap.size,3,none⟩=some (.int .u64 ol):=Gg.cell 3;have Gv:gh < W1.heap.size:=Nat.lt_of_lt_of_le Gp Gk.out.size;have b2:W2.cell? ⟨gh,1,none⟩=some (.slice (some ⟨gb,go,none⟩) n c):=by
  rw [<- b1];exact Gb.cell (p:=⟨gh,1,none⟩) Gv
 have Gr:=hid (Gk.out.trans (Gb.mono Gk.out.size));have Gt:Hid ((i+1 < n/\W2.cell? ⟨gb,go+(i+1) * 5+2,none⟩=some (.int .u64 ol))\/(¬ i+1 < n/\ol=0)):=hid (Gu.out.imp (fun h=>⟨h.1,by rw [<- h.2];exact Gb.cell (p:=⟨gb,go+(i+1) * 5+2,none⟩) G2⟩) id);have Gx:Hid (dl=false->∃ db Ga:Nat,B=some ⟨db,Ga,none⟩/\0 < nb/\W2.cell? ⟨db,Ga,none⟩=some (.int .u64 dt)):=hid (fun h=>by
  obtain ⟨db,Ga,e1,e2,e3,e4⟩:=Gl.out h;refine ⟨db,Ga,e1,e2,?_⟩;rw [<- e4];exact Gb.cell (p:=⟨db,Ga,none⟩) e3)
 have G4:wrap64 ((i:Int)+1)=(i:Int)+1:=by rw [IntWalk.wrap64_in _ oM]
 clear Ge Gb Gg Gv Go Gl Gu;go_upto_region 2 with fail
 rw [G0.out];clear f0 f1 f2 f3 f4 b1;go_upto_if 24 with fail
 go_cut [8] from 25 to 33 (fun v wx=>v=.int .u64 ol/\Hid (wx=W2))
 case first =>
  rcases Gt.out with ⟨h5,h6⟩ | ⟨h5,h6⟩
  ·have d1:(i:Int)+1 < (n:Int):=oM
   have d2:(0:Int)<=(i:Int)+1:=oM;have d3:((i:Int)+1).toNat=i+1:=oM;go_wp2_with fail
   go_meet;exact ⟨rfl,hid rfl⟩
  ·have d1:¬ (i:Int)+1 < (n:Int):=oM
   subst h6;go_wp2_with fail
   go_meet;exact ⟨rfl,hid rfl⟩
 case rest =>
  obtain ⟨rfl,Gw⟩:=hcut;have hw:=Gw.out.symm;subst hw;clear Gw Gt;cases dl
  ·obtain ⟨db,Ga,rfl,G9,G7⟩:=Gx.out rfl
   have d1:(0:Int) < (nb:Int):=oM;go_wp2;go_ret;exact ⟨by simp,Gr.out⟩
  ·have G1:=Gy.out rfl
   subst G1;go_wp2;go_ret;exact ⟨by simp,Gr.out⟩
end
end
section
open Go.RowKit Go.Maps
theorem w6c (L:Nat) (cur:Nat->Nat) (chk:Nat->Nat) (old:Nat) (s:PrS) (p:Nat) (v:Nat × Bool × Nat × Nat):(prS old (z1b L cur chk) s p v).1.l.length<=s.l.length+7:=by
 have h1:=x0w L cur chk p v.2.1 v.2.2.1;unfold prS;split
 ·show s.l.length<=_
  omega
 ·show (s.l++_).length<=_
  rw [List.length_append];omega
section
variable {a:DA} {L T s n K:Nat} {x:HA} {cs:Nat->CS} {f:Nat->Option Nat} {N m b0:Nat} {S:Fp} {cur:Nat->Nat} {w:World} {d r:Nat}
theorem w6d (h:SD a L T s n K x cs f N m b0 S cur w d r) (old g:Nat) (hg:w.heap.size<=g):Body 132 #[.pointer (some ⟨g+4,0,none⟩),.pointer (some ⟨g+1,0,none⟩),.pointer (some ⟨g+3,0,none⟩),.pointer (some ⟨g,0,none⟩),.pointer (some ⟨g+2,0,none⟩),.pointer (some ⟨g+5,0,none⟩)] w (fun n q=>q.l.length<=7 * n) (fun _=>PrZ g) (PrRs d g old) (prS old (z1b L cur (fun q=>chkR s K cs q 1))):=by
 intro q n p sp dl dt ol W hn hI hR hW _ hp _ hdt _;have e:(#[Value.int .u64 p,.agg #[.int .u64 sp,.bool dl,.int .u64 dt,.int .u64 ol]]++#[Value.pointer (some ⟨g+4,0,none⟩),.pointer (some ⟨g+1,0,none⟩),.pointer (some ⟨g+3,0,none⟩),.pointer (some ⟨g,0,none⟩),.pointer (some ⟨g+2,0,none⟩),.pointer (some ⟨g+5,0,none⟩)])=#[.int .u64 p,.agg #[.int .u64 sp,.bool dl,.int .u64 dt,.int .u64 ol],.pointer (some ⟨g+4,0,none⟩),.pointer (some ⟨g+1,0,none⟩),.pointer (some ⟨g+3,0,none⟩),.pointer (some ⟨g,0,none⟩),.pointer (some ⟨g+2,0,none⟩),.pointer (some ⟨g+5,0,none⟩)]:=by simp
 rw [e];have Ga:q.l.length<=7 * n:=hI;exact w3h old p sp dl dt ol g h hW hg q hp hdt hR oM
end
end
section
open Go.RowKit Go.Maps
def z0t (x:Nat):List VV->Nat
 | []=>0
 | v :: t=>if v.st<=x then (if v.dl=true then 0 else 1) else z0t x t+1
def cutV (x c:Nat):List VV->Nat
 | []=>c
 | v :: t=>if v.st<=x then (if v.dl=true then c else v.q) else cutV x v.q t
theorem y4h (old:Nat) (B:Nat->Nat × List Nat × List Nat):∀ (l:List VV) (c:Nat) (s:List Nat),(∀ v∈l,bofR B v.q v.dl v.dt=(v.q :: v.bl,0))->z7m (prS old B) l ⟨true,c,s,0⟩=⟨true,c,s++z0h l,0⟩
 | [],c,s,_=>by simp [z7m,z0h]
 | v :: t,c,s,h=>by
  unfold z7m;have e1:prS old B ⟨true,c,s,0⟩ v.q (v.st,v.dl,v.dt,hdQ t)=(⟨true,c,s++(v.q :: v.bl),0⟩,true):=by
   unfold prS;rw [if_neg (by rintro ⟨h1,_⟩;cases h1)];show (PrS.mk true c (s++(bofR B v.q v.dl v.dt).1) (bofR B v.q v.dl v.dt).2,decide ((bofR B v.q v.dl v.dt).2=0))=_;rw [h v (by simp)];rfl
  rw [e1,if_neg (by simp),y4h old B t _ _ (fun u hu=>h u (by simp [hu])),z2e,List.append_assoc]
theorem x6z (old:Nat) (B:Nat->Nat × List Nat × List Nat):∀ (l:List VV) (c:Nat) (s:List Nat),(∀ v∈l,bofR B v.q v.dl v.dt=(v.q :: v.bl,0))->∃ b,z7m (prS old B) l ⟨false,c,s,0⟩=⟨b,cutV old c l,s++z0h (l.drop (z0t old l)),0⟩
 | [],c,s,_=>⟨false,by simp [z7m,z0h,cutV]⟩
 | v :: t,c,s,h=>by
  have ht:∀ u∈t,bofR B u.q u.dl u.dt=(u.q :: u.bl,0):=fun u hu=>h u (by simp [hu])
  unfold z7m cutV z0t;by_cases hs:v.st<=old
  ·cases hd:v.dl with
   | false =>
    have e1:prS old B ⟨false,c,s,0⟩ v.q (v.st,false,v.dt,hdQ t)=(⟨true,v.q,s,0⟩,true):=by
     unfold prS;rw [if_pos ⟨rfl,.inr rfl⟩,decide_eq_true hs]
    rw [e1,if_neg (by simp),y4h old B t _ _ ht,if_pos hs,if_pos hs,if_neg (by simp),if_neg (by simp)];exact ⟨true,rfl⟩
   | true =>
    have e1:prS old B ⟨false,c,s,0⟩ v.q (v.st,true,v.dt,hdQ t)=(⟨true,c,s++(v.q :: v.bl),0⟩,true):=by
     unfold prS;rw [if_neg (by rintro ⟨_,h1 | h1⟩ <;> simp [hs] at h1)];have h1:=h v (by simp);rw [hd] at h1;show (PrS.mk true c (s++(bofR B v.q true v.dt).1) (bofR B v.q true v.dt).2,decide ((bofR B v.q true v.dt).2=0))=_;rw [h1];rfl
    rw [e1,if_neg (by simp),y4h old B t _ _ ht,if_pos hs,if_pos hs,if_pos rfl,if_pos rfl,List.drop_zero,z2e,List.append_assoc];exact ⟨true,rfl⟩
  ·have e1:prS old B ⟨false,c,s,0⟩ v.q (v.st,v.dl,v.dt,hdQ t)=(⟨false,v.q,s,0⟩,true):=by
    unfold prS;rw [if_pos ⟨rfl,.inl (decide_eq_false hs)⟩,decide_eq_false hs]
   rw [e1,if_neg (by simp),if_neg hs,if_neg hs];exact x6z old B t v.q s ht
theorem z7r (x:Nat):∀ l,z0t x l<=l.length
 | []=>nL _
 | v :: t=>by
  have:=z7r x t;unfold z0t;rw [List.length_cons];split
  ·split <;> omega
  ·omega
theorem x6n (x:Nat):∀ (l:List VV) (c:Nat),(z0t x l=0->cutV x c l=c)/\∀ h:0 < z0t x l,cutV x c l=(l[z0t x l - 1]'(by have:=z7r x l;omega)).q
 | [],c=>⟨fun _=>rfl,fun h=>absurd h (Nat.lt_irrefl 0)⟩
 | v :: t,c=>by
  by_cases hs:v.st<=x
  ·by_cases hd:v.dl=true
   ·have e:z0t x (v :: t)=0:=by unfold z0t;rw [if_pos hs,if_pos hd]
    refine ⟨fun _=>by unfold cutV;rw [if_pos hs,if_pos hd],fun h=>absurd h oM⟩
   ·have e:z0t x (v :: t)=1:=by unfold z0t;rw [if_pos hs,if_neg hd]
    refine ⟨fun h=>oM,fun h=>?_⟩;simp only [e];unfold cutV;rw [if_pos hs,if_neg hd];rfl
  ·have e:z0t x (v :: t)=z0t x t+1:=by rw [z0t,if_neg hs]
   have e2:cutV x c (v :: t)=cutV x v.q t:=by rw [cutV,if_neg hs]
   refine ⟨fun h=>oM,fun h=>?_⟩;obtain ⟨g1,g2⟩:=x6n x t v.q;rw [e2];simp only [e];by_cases h0:z0t x t=0
   ·rw [g1 h0]
    simp only [h0];rfl
   ·rw [g2 oM]
    obtain ⟨j,hj⟩:∃ j,z0t x t=j+1:=⟨z0t x t - 1,oM⟩
    simp only [hj,Nat.add_sub_cancel];rfl
theorem z7q {K:Nat} {cs:Nat->CS} {cur:Nat->Nat}:∀ {l:List VV},z2r K cs cur l↔(∀ i (h:i < l.length),VerA K cs cur l[i] (hdQ (l.drop (i+1))))/\l.Pairwise (fun u v=>v.st < u.st)
 | []=>⟨fun _=>⟨fun i h=>absurd h (Nat.not_lt_zero i),List.Pairwise.nil⟩,fun _=>trivial⟩
 | v :: t=>by
  constructor
  ·rintro ⟨h1,h2,h3⟩
   obtain ⟨g1,g2⟩:=z7q.1 h2;refine ⟨fun i h=>?_,List.pairwise_cons.2 ⟨h3,g2⟩⟩;cases i with
   | zero=>exact h1
   | succ i=>exact g1 i (Nat.lt_of_succ_lt_succ h)
  ·rintro ⟨h1,h2⟩
   obtain ⟨g1,g2⟩:=List.pairwise_cons.1 h2;exact ⟨h1 0 (Nat.zero_lt_succ _),z7q.2 ⟨fun i h=>h1 (i+1) (Nat.succ_lt_succ h),g2⟩,g1⟩
section
variable {a:DA} {L T n K:Nat} {x:HA} {cs:Nat->CS} {f:Nat->Option Nat} {N m b0:Nat} {S:Fp} {cur:Nat->Nat} {w:World} {ks free:List Nat} {V:Nat->Nat} {cm:Nat} {us:List (Nat × Nat)}
theorem x3z {q r kq kr k i k' i' j j':Nat} (h:z3z 53 K cs q kq k i) (h':z3z 53 K cs r kr k' i') (hne:pOff q≠pOff r) (hj:j < payW (cs k).cl) (hj':j' < payW (cs k').cl):pOff q / 8+j≠pOff r / 8+j':=by
 have e1:=h.at_.lines.1;have e2:=h'.at_.lines.1;rw [e1,e2];exact z4k h.at_.2.2.1 h'.at_.2.2.1 hj hj' (fun ⟨g1,g2⟩=>by
  subst g1 g2;exact hne (h.at_.2.2.2.trans h'.at_.2.2.2.symm))
def y5q (K:Nat) (cs:Nat->CS) (us:List (Nat × Nat)) (r:Nat):Prop:=∀ e∈us,∀ kind k i,z3z 53 K cs r kind k i->∀ j,j < payW (cs k).cl->e.1 / 8≠pOff r / 8+j
theorem y4p (hd:DS a L T 53 n K x cs f N m b0 S cur w) (hA:AOk 53 K cs ks (tlOf 53 cs []) (dlOf 53 cs free) V) (h96:(us++ks.flatMap (acW 53 cs (tlOf 53 cs []) (dlOf 53 cs free) V)).length<=96) {q kind k i j:Nat} (h:z3z 53 K cs q kind k i) (hj:j < payW (cs k).cl) (h1:∀ e∈us,e.1 / 8≠pOff q / 8+j) :
  rdG 0 cur (us++ks.flatMap (acW 53 cs (tlOf 53 cs []) (dlOf 53 cs free) V)) cm (pOff q / 8+j)=cur (pOff q / 8+j):=by
 have hl:=h.at_.lines.1;rw [hl] at h1 ⊢;exact y9y hd oM hA h96 h.at_.1 h.at_.2.1 h.at_.2.2.1 hj h1
theorem w4v (hd:DS a L T 53 n K x cs f N m b0 S cur w) (hA:AOk 53 K cs ks (tlOf 53 cs []) (dlOf 53 cs free) V) (hfr:∀ r∈free,∃ k i,At 53 K cs r k i) (h96:(us++ks.flatMap (acW 53 cs (tlOf 53 cs []) (dlOf 53 cs free) V)).length<=96) {q next:Nat} {p:List Nat} (hb:BkA K cs cur q next p) (hnf:∀ z∈free,pOff z≠pOff q) (hus:y5q K cs us q) :
  BkA K (acC cs ks (tlOf 53 cs []) (dlOf 53 cs free) V) (rdG 0 cur (us++ks.flatMap (acW 53 cs (tlOf 53 cs []) (dlOf 53 cs free) V)) cm) q next p:=by
 obtain ⟨k,i,g1,g2⟩:=hb.live;refine ⟨⟨k,i,z9x (fun z hz=>absurd hz (by simp)) hfr g1 (fun z hz=>absurd hz (by simp)) hnf,?_⟩,fun y hy=>?_⟩
 ·rw [(z5o cs ks (tlOf 53 cs []) (dlOf 53 cs free) V k).2.1]
  exact g2
 ·have h5:=hb.words y hy
  rw [z3n] at hy;exact (y4p hd hA h96 g1 oM (fun e he=>hus e he 1 k i g1 y oM)).trans h5
theorem x2l (hd:DS a L T 53 n K x cs f N m b0 S cur w) (hA:AOk 53 K cs ks (tlOf 53 cs []) (dlOf 53 cs free) V) (hfr:∀ r∈free,∃ k i,At 53 K cs r k i) (h96:(us++ks.flatMap (acW 53 cs (tlOf 53 cs []) (dlOf 53 cs free) V)).length<=96) (hu:UOk L 0 53 K cs us) {v:VV} {older older':Nat} (h:VerA K cs cur v older)
  (hnf:∀ r∈v.q :: v.bl,∀ z∈free,pOff z≠pOff r) (hbl:∀ r∈v.bl,y5q K cs us r) (hq:(older'=older/\y5q K cs us v.q)\/us=[(pOff v.q+16,older')]) :
  VerA K (acC cs ks (tlOf 53 cs []) (dlOf 53 cs free) V) (rdG 0 cur (us++ks.flatMap (acW 53 cs (tlOf 53 cs []) (dlOf 53 cs free) V)) cm) v older':=by
 obtain ⟨k,i,g1,g2⟩:=h.live;have Ga:=x1w (cs k).cl;refine ⟨⟨k,i,z9x (fun z hz=>absurd hz (by simp)) hfr g1 (fun z hz=>absurd hz (by simp)) (hnf v.q (by simp)),?_⟩,fun y hy=>?_,h.blen,fun j hj=>w4v hd hA hfr h96 (h.bk j hj) (hnf _ (List.mem_cons_of_mem _ (List.getElem_mem hj))) (hbl _ (List.getElem_mem hj)),h.pb,h.pl,h.sp⟩
 ·rw [(z5o cs ks (tlOf 53 cs []) (dlOf 53 cs free) V k).2.1]
  exact g2
 ·have Gb:y < 3:=hy
  have h5:=h.words y hy;rcases hq with ⟨rfl,hf⟩ | rfl
  ·exact (y4p hd hA h96 g1 oM (fun e he=>hf e he 7 k i g1 y oM)).trans h5
  ·have h8:=g1.at_.lines.2
   by_cases y2:y=2
   ·subst y2
    have h6:=y5a (cur:=cur) (cm:=cm) (z8j hd oM hu hA) (z5z hu hA) (e:=(pOff v.q+16,older')) (by simp);rw [show (pOff v.q+16,older').1 / 8=pOff v.q / 8+2 by show (pOff v.q+16) / 8=_;omega] at h6;exact h6
   ·rw [y4p hd hA h96 g1 (show y < payW (cs k).cl by omega) (fun e he=>by
     rw [List.mem_singleton] at he;subst he;show (pOff v.q+16) / 8≠_;omega),h5]
    have:y=0\/y=1:=oM;rcases this with rfl | rfl <;> rfl
def cutU (l:List VV) (k:Nat):List (Nat × Nat) :=
 if k < l.length then (if k=0 then [(3328,0)] else [(pOff ((l[k - 1]?.map VV.q).getD 0)+16,0)]) else []
theorem w0u (l:List VV) (k:Nat):(cutU l k).length<=1:=by
 unfold cutU;split
 ·split <;> simp
 ·simp
theorem y8r (l l':List VV):z0h (l++l')=z0h l++z0h l':=by
 unfold z0h;rw [List.flatMap_append]
theorem z4r (l:List VV) (k:Nat):z0h l=z0h (l.take k)++z0h (l.drop k):=by
 rw [<- y8r,List.take_append_drop]
theorem z6v {l:List VV} {r:Nat}:r∈z0h l↔∃ v∈l,r∈v.q :: v.bl:=by
 unfold z0h;rw [List.mem_flatMap]
theorem w3j (hd:DS a L T 53 n K x cs f N m b0 S cur w) {q kind k i y v:Nat} (h:z3z 53 K cs q kind k i) (hy:y < payW (cs k).cl) (hv:v < 18446744073709551616):UOk L 0 53 K cs [(pOff q+8 * y,v)]:=by
 have Gb:=(h.at_.inL hd).1;have hl:=h.at_.lines;have Gc:=h.at_.lo;have e8:(pOff q+8 * y) / 8=pOff q / 8+y:=oM;refine ⟨fun e he=>?_,fun e he=>?_,fun e he k' hk' hlk=>?_,by simp⟩
 ·rw [List.mem_singleton] at he
  subst he;exact ⟨by show (pOff q+8 * y) % 8=0;omega,by show pOff q+8 * y < 64 * L;omega,.inr (by show 64 * 0+64 * 26<=pOff q+8 * y;omega)⟩
 ·rw [List.mem_singleton] at he
  subst he;exact hv
 ·rw [List.mem_singleton] at he
  subst he;have Ga:z4b 53 cs k' ((pOff q+8 * y) / 8):=hlk;rw [e8,hl.1] at Ga;exact h.at_.notLook hy hk' Ga
theorem x2k {l:List VV} (h:z2r K cs cur l) {r:Nat} (hr:r∈z0h l):∃ kind k i,z3z 53 K cs r kind k i:=by
 obtain ⟨v,hv,hm⟩:=z6v.1 hr;obtain ⟨Ga,h1⟩:=h.ver v hv;rcases List.mem_cons.1 hm with rfl | hm
 ·obtain ⟨k,i,h2,_⟩:=h1.live
  exact ⟨7,k,i,h2⟩
 ·obtain ⟨j,hj,rfl⟩:=List.getElem_of_mem hm
  obtain ⟨k,i,h2,_⟩:=(h1.bk j hj).live;exact ⟨1,k,i,h2⟩
theorem x6o (hd:DS a L T 53 n K x cs f N m b0 S cur w) {l:List VV} (h:z2r K cs cur l) (k:Nat):UOk L 0 53 K cs (cutU l k):=by
 unfold cutU;split
 ·rename_i hk
  split
  ·exact y9m hd 0 0 (by decide) (by decide)
  ·have Ga:k - 1 < l.length:=oM
   have e:(l[k - 1]?.map VV.q).getD 0=(l[k - 1]).q:=by rw [List.getElem?_eq_getElem Ga];rfl
   rw [e];obtain ⟨Gb,h1⟩:=h.ver _ (List.getElem_mem Ga);obtain ⟨k2,i2,h2,_⟩:=h1.live;exact w3j (y:=2) hd h2 (by have:=x1w (cs k2).cl;omega) (by decide)
 ·exact ⟨fun e he=>absurd he (by simp),fun e he=>absurd he (by simp),fun e he=>absurd he (by simp),by simp⟩
theorem w1n (hd:DS a L T 53 n K x cs f N m b0 S cur w) {l:List VV} (h:z2r K cs cur l) (hal:AlV K cs l) (hlink:cur 416=hdQ l) {k:Nat} (hkl:k<=l.length)
  (hA:AOk 53 K cs ks (tlOf 53 cs []) (dlOf 53 cs (z0h (l.drop k))) V) (hks:∀ j,j∈ks↔j < K/\(tlOf 53 cs [] j≠[]\/dlOf 53 cs (z0h (l.drop k)) j≠[]))
  (h96:(cutU l k++ks.flatMap (acW 53 cs (tlOf 53 cs []) (dlOf 53 cs (z0h (l.drop k))) V)).length<=96) :
  z2r K (acC cs ks (tlOf 53 cs []) (dlOf 53 cs (z0h (l.drop k))) V) (rdG 0 cur (cutU l k++ks.flatMap (acW 53 cs (tlOf 53 cs []) (dlOf 53 cs (z0h (l.drop k))) V)) cm) (l.take k) /\
   rdG 0 cur (cutU l k++ks.flatMap (acW 53 cs (tlOf 53 cs []) (dlOf 53 cs (z0h (l.drop k))) V)) cm 416=hdQ (l.take k)/\AlV K (acC cs ks (tlOf 53 cs []) (dlOf 53 cs (z0h (l.drop k))) V) (l.take k):=by
 have hu:=x6o hd h k;obtain ⟨g1,g2⟩:=z7q.1 h;have Gf:=z4r l k;have Gm:=hal.2;rw [Gf,List.map_append,List.nodup_append] at Gm;obtain ⟨n1,n2,n3⟩:=Gm;have Gj:∀ r∈z0h (l.take k),∀ z∈z0h (l.drop k),pOff z≠pOff r:=fun r hr z hz e=>n3 _ (List.mem_map_of_mem hr) _ (List.mem_map_of_mem hz) e.symm
 have Ge:∀ r∈z0h (l.drop k),∃ k i,At 53 K cs r k i:=fun r hr=>by
  obtain ⟨Gk,k2,i2,h2⟩:=x2k h (Gf ▸ List.mem_append.2 (.inr hr));exact ⟨k2,i2,h2.at_⟩
 have Gd:∀ i,i < k->∀ (hi:i < l.length),∀ r∈(l[i]).q :: (l[i]).bl,r∈z0h (l.take k):=fun i Gg hi r hr=>z6v.2 ⟨l[i],by
  have:i < (l.take k).length:=by rw [List.length_take];omega
  have e:(l.take k)[i]=l[i]:=List.getElem_take;rw [<- e];exact List.getElem_mem this,hr⟩
 have Gc:∀ r∈z0h l,(k < l.length->0 < k->∀ (Ga:k - 1 < l.length),r≠(l[k - 1]).q)->y5q K cs (cutU l k) r:=fun r hr Gh e he Gk kk ii hlv j hj=>by
  unfold cutU at he;split at he
  ·rename_i hkl2
   split at he
   ·rw [List.mem_singleton] at he
    subst he;have hl:=hlv.at_.lines.1;show 3328 / 8≠_;omega
   ·have Ga:k - 1 < l.length:=oM
    have e2:(l[k - 1]?.map VV.q).getD 0=(l[k - 1]).q:=by rw [List.getElem?_eq_getElem Ga];rfl
    rw [e2,List.mem_singleton] at he;subst he;obtain ⟨Gn,h1⟩:=h.ver _ (List.getElem_mem Ga);obtain ⟨k2,i2,h2,_⟩:=h1.live;have h8:=h2.at_.lines.2;have Gi:pOff (l[k - 1]).q≠pOff r:=fun e=>Gh hkl2 oM Ga (h2.same hlv e.symm)
    have h3:=x3z (j:=2) (j':=j) h2 hlv Gi (by have:=x1w (cs k2).cl;omega) hj;show (pOff (l[k - 1]).q+16) / 8≠_;omega
  ·exact absurd he (by simp)
 have Go:∀ i (hi:i < l.length) (r:Nat),r∈(l[i]).bl->∀ j (hj:j < l.length),r≠(l[j]).q:=fun i hi r hr j hj e=>by
  obtain ⟨m,hm,rfl⟩:=List.getElem_of_mem hr;obtain ⟨k2,i2,h2,_⟩:=((g1 i hi).bk m hm).live;obtain ⟨k3,i3,h3,_⟩:=(g1 j hj).live;have e1:=h2.kind_;have e2:=h3.kind_;rw [e] at e1;omega
 have Gl:∀ i (hi:i < l.length) (r:Nat),r∈(l[i]).q :: (l[i]).bl->r∈z0h l:=fun i hi r hr=>z6v.2 ⟨l[i],List.getElem_mem hi,hr⟩
 refine ⟨z7q.2 ⟨fun i hi=>?_,g2.sublist (List.take_sublist k l)⟩,?_,fun r=>?_,?_⟩
 ·have Gp:i < k/\i < l.length:=by rw [List.length_take] at hi;omega
  obtain ⟨Gg,Gb⟩:=Gp;have e:(l.take k)[i]=l[i]:=List.getElem_take;rw [e];have hF:∀ r∈(l[i]).bl,y5q K cs (cutU l k) r:=fun r hr=>Gc r (Gl i Gb r (List.mem_cons_of_mem _ hr)) (fun _ _ Ga=>Go i Gb r hr _ Ga)
  by_cases hlast:i+1=k/\k < l.length
  ·obtain ⟨Gr,Gq⟩:=hlast
   have e0:(l.take k).drop (i+1)=[]:=List.drop_of_length_le (by rw [List.length_take];omega);rw [e0];refine x2l hd hA Ge h96 hu (g1 i Gb) (fun r hr=>Gj r (Gd i Gg Gb r hr)) hF (.inr ?_);have Ga:k - 1 < l.length:=oM;unfold cutU;rw [if_pos Gq,if_neg oM,List.getElem?_eq_getElem Ga];have e3:l[k - 1]=l[i]:=by congr 1;omega
   rw [e3];rfl
  ·refine x2l hd hA Ge h96 hu (g1 i Gb) (fun r hr=>Gj r (Gd i Gg Gb r hr)) hF (.inl ⟨?_,Gc _ (Gl i Gb _ (by simp)) (fun hkl2 _ Ga=>?_)⟩)
   ·by_cases h2:i+1=l.length
    ·rw [List.drop_of_length_le (by rw [List.length_take];omega),List.drop_of_length_le oM]
    ·have h3:i+1 < l.length:=oM
     have h4:i+1 < (l.take k).length:=by rw [List.length_take];omega
     rw [List.drop_eq_getElem_cons h3,List.drop_eq_getElem_cons h4];show ((l.take k)[i+1]).q=_;rw [List.getElem_take];rfl
   ·intro e4
    have Gh:i < k - 1:=oM;have h5:=(List.pairwise_iff_getElem.1 g2) i (k - 1) Gb Ga Gh;have w1:=(g1 i Gb).words 0 (by simp);have w2:=(g1 (k - 1) Ga).words 0 (by simp);rw [<- e4,w1] at w2;have w3:wSt (l[i]).st (l[i]).dl=wSt (l[k - 1]).st (l[k - 1]).dl:=w2;have s1:=(y5j (l[i]).st (l[i]).dl).1;have s2:=(y5j (l[k - 1]).st (l[k - 1]).dl).1;rw [w3,s2] at s1;omega
 ·by_cases h0:k < l.length/\k=0
  ·obtain ⟨h1,rfl⟩:=h0
   have h6:=y5a (cur:=cur) (cm:=cm) (z8j hd oM hu hA) (z5z hu hA) (e:=(3328,0)) (List.mem_append.2 (.inl (by unfold cutU;rw [if_pos h1,if_pos rfl];simp)));exact h6
  ·have e1:hdQ (l.take k)=hdQ l:=by
    cases l with
    | nil=>simp
    | cons v t =>
     obtain ⟨j,rfl⟩:∃ j,k=j+1:=⟨k - 1,by simp at h0;omega⟩
     rfl
   rw [e1,<- hlink];refine z5b hd oM hA h96 (.inr oM) (fun e he=>?_) (fun j hj e he heq=>?_)
   ·unfold cutU at he
    split at he
    ·rename_i h7
     rw [if_neg oM,List.mem_singleton] at he;subst he;have Ga:k - 1 < l.length:=oM;obtain ⟨k2,i2,h2,_⟩:=(g1 (k - 1) Ga).live;have hl:=h2.at_.lines.1;rw [List.getElem?_eq_getElem Ga];show (pOff (l[k - 1]).q+16) / 8≠_;omega
    ·exact absurd he (by simp)
   ·obtain ⟨_,h2,_,h4,_⟩:=hA.at_ hj he
    have:=z9r h2;omega
 ·constructor
  ·intro hr
   rcases x1z (f:=f) hA hks (fun p hp=>absurd hp (by simp)) Ge hr with h1 | ⟨h1,h2⟩
   ·exact absurd h1 (by simp)
   ·have h3:=(hal.1 r).1 h1
    rw [Gf] at h3;rcases List.mem_append.1 h3 with h4 | h4
    ·exact h4
    ·exact absurd rfl (h2 r h4)
  ·intro hr
   obtain ⟨kd,k2,i2,h2⟩:=(hal.1 r).2 (by rw [Gf];exact List.mem_append.2 (.inl hr));exact ⟨kd,k2,i2,z9x (fun z hz=>absurd hz (by simp)) Ge h2 (fun z hz=>absurd hz (by simp)) (Gj r hr)⟩
 ·exact n1
end
end
section
open Go.RowKit Go.Maps
theorem y5v (l:List RV) (r:RV):z0h (vvs (l++[r]))=z0h (vvs l)++([r.v.q]++r.v.bl):=by
 unfold z0h vvs;rw [List.map_append,List.flatMap_append];simp
theorem y1h (A:Option Addr) (n c:Nat) (l:List RV) (w:World) (hr:z0c w w.heap.size 5 A n (z0u l)) (hn:n<=100) (hbl:∀ r∈l,z0c w w.heap.size 1 r.B r.nb (z0a r.v.bl)/\r.v.bl.length<=5) :
  Calls Tryz.prog 52 #[.slice A n c] w fun e w'=>∃ A' m' c',e=.returned (.slice A' m' c')/\m'=(z0h (vvs l)).length/\w'.ownsRow w.heap.size 32 1 (.slice A' m' c') m' (z0a (z0h (vvs l)))/\Blw w w':=by
 have hl:=z5l hr;obtain ⟨i0,G4,G6,G7,G8⟩:=info_parts z5t;have HR:=hid hr;have G9:=hid hbl;have Gu:Hid (Blw w w):=Below.refl _ _;have Gz:Hid (w.ownsRow w.heap.size 32 1 (.slice none 0 0) 0 (z0a (z0h (vvs (l.take 0))))):=World.ownsRow_nil _ _ _ _;have HL:=hid hl;clear hr hl hbl;go_enter Tryz.func52,Tryz.ntmps52
 go_wp2;go_loopw [3,8] (fun p i wr=>∃ (k m:Nat) (A1:Option Addr) (c1:Nat),k<=n/\m<=6 * k/\i=.int .i64 k/\p=.slice A1 m c1/\Hid (wr.ownsRow w.heap.size 32 1 (.slice A1 m c1) m (z0a (z0h (vvs (l.take k)))))/\Hid (Blw w wr)) (fun _ i _=>n - (Go.RowKit.intOf i).toNat)
 case atStart=>exact ⟨0,0,_,_,Nat.zero_le _,nL _,rfl,rfl,Gz,Gu⟩
 case round =>
  clear Gu Gz;obtain ⟨k,m,A1,c1,hk,hm,rfl,rfl,HO,H⟩:=hrel;by_cases hlt:k < n
  ·obtain ⟨Gt,gb,go,GE,_,f0,f1,f2,f3,f4⟩:=z2n ((HR.out.below H.out).more H.out.size) (k:=k) hlt
   subst GE;have GH:(0:Int)<=(k:Int):=oM;have GI:(k:Int) < (n:Int):=oM;have HT:Hid (z0h (vvs (l.take k))++([(l[k]).v.q]++(l[k]).v.bl)=z0h (vvs (l.take (k+1)))):=hid (by
    rw [List.take_succ_eq_append_getElem Gt,y5v])
   have Gh:=hid (G9.out (l[k]) (List.getElem_mem Gt));generalize l[k]=r at *;obtain ⟨v,B,nb,cb,D,nd,cd⟩:=r;obtain ⟨st,dl,q,bl,p⟩:=v;dsimp only at f0 f1 f2 f3 f4 HT Gh;have GF:=hid H.out.size;obtain ⟨W2,Gi⟩:∃ W2,wr.alloc (.cells #[.int .u64 st,.bool dl,.int .u64 q,.slice B nb cb,.slice D nd cd] 101)=W2:=⟨_,rfl⟩
   have Gg:=Blk.new wr 101 #[.int .u64 st,.bool dl,.int .u64 q,.slice B nb cb,.slice D nd cd];rw [Gi] at Gg;have GD:=hid Gi;have Gx:=hid Gg;have Gs:Blw wr W2:=by rw [<- Gi];exact (Below.refl _ _).alloc (nL _) _
   have Gv:=hid (H.out.trans (Gs.mono H.out.size));have GB:=hid (z0r HO.out Gs);have g2:W2.cell? ⟨wr.heap.size,2,none⟩=some (.int .u64 q):=Gg.cell 2;have g3:W2.cell? ⟨wr.heap.size,3,none⟩=some (.slice B nb cb):=Gg.cell 3;have Gp:Hid (bl.length=nb/\nb<=5):=hid (by
    have h1:=Gh.out.1.1;simp only [z0a,List.length_map] at h1;have h2:=Gh.out.2;omega)
   have Ge:Hid (∀ g,(Value.slice A1 m c1).ownBlock=some g->g < wr.heap.size):=hid (fun g hg=>(HO.out.lt g hg).2);clear Gt Gg Gs Gi H HO;go_upto_region 5 with fail
   rw [GD.out];refine z0g (fun w'=>w'.cell? ⟨wr.heap.size,2,none⟩=some (.int .u64 q)/\w'.cell? ⟨wr.heap.size,3,none⟩=some (.slice B nb cb)) 9 [] [(1,0),(1,1),(1,2),(1,5),(1,6),(0,3),(0,4),(0,7),(1,8)] (by kernel_rfl) (by kernel_rfl) ⟨g2,g3⟩ ?_;refine tkG (.slice A1 m c1) ?_;refine tkG (.pointer (some ⟨wr.heap.size,2,none⟩)) ?_;refine tkH (.int .u64 q) (fun w' hS=>?_) ?_
   ·obtain ⟨s0,s1⟩:=hS
    go_simp
   refine tkG (.pointer (some ⟨wr.heap.size,3,none⟩)) ?_;refine tkH (.slice B nb cb) (fun w' hS=>?_) ?_
   ·obtain ⟨s0,s1⟩:=hS
    go_simp
   refine z0b (by rfl) ?_;go_wp2_with fail
   have Gf:Blw W2 (W2.alloc (.cells #[.int .u64 q] 32)).drew:=((Below.refl _ _).alloc (nL _) _).drew;have Ga:=Gx.out.below Gf Gx.out.lt;have G5:z0c (W2.alloc (.cells #[.int .u64 q] 32)).drew (W2.alloc (.cells #[.int .u64 q] 32)).drew.heap.size 1 (some ⟨W2.heap.size,0,none⟩) 1 (z0a [q]):=(y0x W2 #[.int .u64 q] 32 [q] rfl).below (Below.refl _ _).drew;have GC:=hid G5;have Gl:=hid (Gv.out.trans (Gf.mono Gv.out.size));have G0:=hid (z0r GB.out Gf);have GG:=hid Gf.size;have Gd:=hid Ga;refine ⟨⟨Ga.cell 2,Ga.cell 3⟩,?_⟩;clear Gf Ga G5 g2 g3 f0 f1 f2 f3 f4;generalize hW3:(W2.alloc (.cells #[.int .u64 q] 32)).drew=w3 at *;clear hW3;refine z0b (by rfl) ?_;refine z3y _ (.tmp 12) (.tmp 15) 99 rfl rfl w.heap.size 32 i0 _ 1 8 Tryz.underlying99 G4 G6 G7 G8 rfl Nat.one_pos (.slice A1 m c1) m (z0a (z0h (vvs (l.take k)))) rfl G0.out _ (some ⟨W2.heap.size,0,none⟩) 1 1 (z0a [q]) rfl GC.out (z2z _) ?_ ?_ ?_ ?_
   ·unfold maxLen;omega
   ·omega
   ·exact Gl.out.size
   intro A4 n4 c4 w4 Gk ho4 hg4 hv4;have Gb:=Gd.out.grown hg4 (fun e=>by have:=Ge.out _ e.symm;omega);have G1:Hid (w4.ownsRow w.heap.size 32 1 (.slice A4 n4 c4) n4 (z0a (z0h (vvs (l.take k))++[q]))):=hid (by rw [z8o];exact ho4);have Gj:Blw w w4:=Gl.out.trans ((Below.refl _ _).grown hg4 Gl.out.size (fun j hj=>(G0.out.lt j hj).1));have Gm:=hid Gj;have Gn:=hid Gb;have GA:Hid (n4=m+1):=hid Gk;have Gr:Hid (z0c w4 w4.heap.size 1 B nb (z0a bl)):=hid ((Gh.out.1.below Gj).more Gj.size);have Gq:Hid (∀ g,(Value.slice A4 n4 c4).ownBlock=some g->g≠wr.heap.size):=hid (fun g hg e=>by
    rcases hv4 with e1 | e1
    ·rw [hg] at e1
     have:=Ge.out g e1.symm;omega
    ·rw [hg] at e1
     injection e1 with e1
     have:=Gd.out.lt;omega)
   clear Gk ho4 hg4 hv4;go_wp2_with fail
   refine ⟨⟨Gb.cell 2,Gb.cell 3⟩,?_⟩;clear Gb Gj;have Gk:=GA.out;refine z0b (by rfl) ?_;refine z3y _ (.tmp 16) (.tmp 18) 99 rfl rfl w.heap.size 32 i0 _ 1 8 Tryz.underlying99 G4 G6 G7 G8 rfl Nat.one_pos (.slice A4 n4 c4) n4 (z0a (z0h (vvs (l.take k))++[q])) rfl G1.out _ B nb cb (z0a bl) rfl Gr.out (z2z _) ?_ ?_ ?_ ?_
   ·have:=Gp.out;unfold maxLen;omega
   ·have:=Gp.out;omega
   ·exact Gm.out.size
   intro A5 n5 c5 w5 hn5 ho5 hg5 hv5;have Gc:=Gn.out.grown hg5 (fun e=>Gq.out _ e.symm rfl);have G2:Hid (w5.ownsRow w.heap.size 32 1 (.slice A5 n5 c5) n5 (z0a (z0h (vvs (l.take (k+1)))))):=hid (by
    rw [<- HT.out,<- List.append_assoc,z8o];exact ho5)
   have Gw:Hid (Blw w w5):=hid (Gm.out.trans ((Below.refl _ _).grown hg5 Gm.out.size (fun j hj=>(G1.out.lt j hj).1)));have Gy:Hid (n5<=6 * (k+1)):=hid (by have:=Gp.out;omega);clear hn5 ho5 hg5 hv5 Gk;go_wp2_with fail
   refine ⟨⟨Gc.cell 2,Gc.cell 3⟩,?_⟩;clear Gc;refine tkG (.slice A5 n5 c5) ?_;show wpList _ _ _ _ _ _;simp only [List.drop_succ_cons,List.drop_zero];refine NoPanic.normal ?_;go_wp2_with fail
   go_roundw
   case rel =>
    first
     | exact ⟨k+1,n5,_,_,oM,Gy.out,by go_num,rfl,G2,Gw⟩
     | (
       repeat apply Exists.intro
       refine ⟨?_,rfl⟩;exact ⟨k+1,n5,_,_,oM,Gy.out,by go_num,rfl,G2,Gw⟩)
   case measure=>simp [Go.RowKit.intOf];omega
  ·obtain rfl:n=k:=oM
   have G3:Hid (wr.ownsRow w.heap.size 32 1 (.slice A1 m c1) m (z0a (z0h (vvs l)))):=hid (by
    have h:=HO.out;rw [List.take_of_length_le (Nat.le_of_eq HL.out)] at h;exact h)
   go_wp2;go_ret;refine ⟨_,_,_,rfl,?_,G3.out,H.out⟩;have h1:=G3.out.1;simp only [z0a,List.length_map] at h1;omega
end
end Go.Proofs.YtfkjjoglnmeciaaGreatDoor
