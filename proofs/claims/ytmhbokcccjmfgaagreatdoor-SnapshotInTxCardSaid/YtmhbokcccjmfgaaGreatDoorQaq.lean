/- part 17 -/
import Derived.Test.YtmhbokcccjmfgaaGreatDoorQap
set_option maxRecDepth 100000
set_option maxHeartbeats 16000000
namespace Go.Proofs.YtmhbokcccjmfgaaGreatDoor
open Go.Lib (hid)
section
open Go.RowKit Go.Maps
structure y5k(s K:Nat)(cs:Nat->CS)(f:Nat->Option Nat)(cur:Nat->Nat)(cl:Nat)(cs':Nat->CS)(cur':Nat->Nat)(k i:Nat):Prop where
 vac:Vac s K cs' f cl k i
 how:(cs'=cs/\cur'=wrS cur (zerW (offO s cs' k i) (payW cl)))\/∃k0,k0<K/\(cs k0).dv=false/\(∀k i,¬Vac s K cs f cl k i)/\cs'=updC cs k0 (newC cl (cs k0).g)/\cur'=wrS (fmtR cur (s+32*k0) cl (cs k0).g) (zerW (offO s cs' k i) (payW cl))
def w7x(a:DA)(L T s n K:Nat)(x:HA)(cs:Nat->CS)(f:Nat->Option Nat)(N m b0:Nat)(S:Fp)(cur:Nat->Nat)(w:World)(cl kind:Nat)(e:Ending)(w':World):Prop :=
 ∃k i S' cs' cur',e=.returned (.tuple #[(fptr s cs' kind k i),()])/\y5k s K cs f cur cl cs' cur' k i/\DS a L (T+400) s n K x cs' (updF f (offO s cs' k i) (some (fptr s cs' kind k i))) (N+1) (m+1) b0 S' cur' w'/\Chg (fun j=>S j\/x.fp j) w w'/\Grew S S' w
section
theorem z8h n kind (h1:1<=n) (h60:n<=60) (hk0:0<kind) (hk8:kind<128) w :
  () 275 #[(),[n],[[kind]]] w fun e w'=>e=.returned ()/\w=w':=by
 have d1:decide ((n:Int)<1)=false:=dF;have d2:decide ((60:Int)<(n:Int))=false:=dF;have d3:((kind:Int)==0)=false:=by rw[beq_eq_false_iff_ne];omega
 have d4:decide ((127:Int)<(kind:Int))=false:=dF;go_enter Tryz.func275,Tryz.ntmps275
 go_wp2;go_ret;exact⟨rfl,rfl⟩
variable{a:DA}{L T s n K:Nat}{x:HA}{cs:Nat->CS}{f:Nat->Option Nat}{N m b0:Nat}{S:Fp}{cur:Nat->Nat}{w w':World}
theorem x2e{T':Nat}{S':Fp}{cur':Nat->Nat}{cl k:Nat}(h:DS a L T s n K x cs f N m b0 S cur w)(hk:k<K)(hd:(cs k).dv=false)(i:Nat)(hi:i<perC cl)(hc:cl<5):f (offO s (updC cs k (newC cl (cs k).g)) k i)=none:=by
 cases hf:f (offO s (updC cs k (newC cl (cs k).g)) k i)with
 |none=>rfl
 |some p =>
  exfalso
  obtain⟨j,i',hj,Ga,Gb,ho,_⟩:=h.res _ p hf;have Gd:j≠k:=fun e=>by rw[e,hd]at Ga;cases Ga
  have e:(updC cs k (newC cl (cs k).g) k)=newC cl (cs k).g:=by unfold updC;rw[if_pos rfl]
  unfold offO at ho;rw[e]at ho;have h1:=off_lt hi;have h2:=off_lt Gb;have h3:=z2y cl i;have h4:=z2y (cs j).cl i';have Gc:blkO (s+32*k) cl i=blkO (s+32*j) (cs j).cl i':=ho;unfold blkO at Gc;omega
theorem x3i(h:DS a L T s n K x cs f N m b0 S cur w)(nw kind:Nat)(h1:1<=nw)(h60:nw<=60)(hk0:0<kind)(hk8:kind<128)(hN:N<1000000000)(hT:T+400<=1000000000)
  (hcap:(∃k i,Vac s K cs f (z3h nw) k i)\/∃k,k<K/\(cs k).dv=false) :
  () 227 #[(x.h,()),(),[nw],[[kind]]] w (w7x a L T s n K x cs f N m b0 S cur w (z3h nw) kind):=by
 have G5:=hid (z8h nw kind h1 h60 hk0 hk8 w);have G8:=hid (z9u h.dev);have G7:=hid (w0i nw h1 h60 w h.pay);have GA:=hid (x8j h (z3h nw) kind hk0 hk8);have hm:=z1x (some (a.th 0,()));have HD:=hid h;have Ga:=hid (show 0<kind/\kind<128/\N<maxLen/\T+400<=1000000000/\z3h nw<5 from⟨hk0,hk8,by unfold maxLen;omega,hT,x4j nw⟩);have Gy:=hid hcap;have Gw:w.cell? (x.h,())=some (.iface 57 (a.th 0,())):=h.hs.heap.cell 0;have GJ:(0:Int)<=((z3h nw:Nat):Int):=oM;clear h hcap hk0 hk8 hN hT h1 h60;unfold w7x;generalize z3h nw=cl at*;go_enter Tryz.func227,Tryz.ntmps227
 go_wp2_with (first
  |(go_at_call 275;refine G5.out.mono ?_;rintro e w1⟨rfl,rfl⟩)
  |(go_at_call 76;refine G8.out.mono ?_;rintro e w1⟨rfl,rfl⟩)
  |(go_at_call 158;refine G7.out.mono ?_;rintro e w1⟨rfl,rfl⟩)
  |(go_at_call 276;refine GA.out.mono ?_;rintro e w2⟨v,rfl,hP,GB⟩;refine stop ?_))
 unfold Stop;have Gm:=hid GB;clear GB G5 G8 G7 GA Gw;rcases hP with ⟨rfl,hno⟩|⟨k,i,hv,rfl⟩
 ·have hf:∃k,k<K/\(cs k).dv=false:=Gy.out.elim (fun⟨k,i,hv⟩=>absurd hv (hno k i)) id
  have GF:=hid (HD.out.below Gm.out);have Gz:=hid (x7a GF.out cl Ga.out.2.2.2.2 hf (by have:=Ga.out.2.2.2.1;omega));have GH:=hid hno;clear hf hno;unfold z8b at Gz;go_wp2_with (go_at_call 277;refine Gz.out.mono ?_;rintro e w3⟨k0,S3,hk0,G4,rfl,Gk,GC,GE⟩;generalize hv0:((s+32*k0:Nat):Int)=v0 at*;refine stop ?_)
  unfold Stop;have GG:=hid Gk;have G6:=hid (show Chg (fun j=>S j\/x.fp j) w2 w3/\Grew S S3 w2 from⟨GC,GE⟩);have G0:=hid (show k0<K/\(cs k0).dv=false from⟨hk0,G4⟩);have GD:(updC cs k0 (newC cl (cs k0).g) k0).dv=true:=by unfold updC;rw[if_pos rfl];rfl
  have G2:=hid (y5h Gk hk0 GD kind Ga.out.1 Ga.out.2.1);have G9:Hid (f (offO s (updC cs k0 (newC cl (cs k0).g)) k0 0)=none):=hid (x2e (T':=T) (S':=S) (cur':=cur) HD.out hk0 G4 0 (by have:=z3b cl;omega) Ga.out.2.2.2.2);clear Gk GC GE hk0 G4 GD Gz;have GI:=hid hv0;rw[hv0]at G2;clear hv0;go_wp2_with (go_at_call 278;refine G2.out.mono ?_;rintro e w5⟨v,rfl,hP,G3⟩;refine stop ?_)
  unfold Stop;have Gb:=hid (GG.out.below G3);have Gf:Hid (Chg (fun j=>S j\/x.fp j) w w5/\Grew S S3 w):=hid ⟨((Chg.of_below Gm.out).trans (S':=fun j=>S j\/x.fp j) G6.out.1 (Grew.refl _ _)).below G3,fun j hj=>(G6.out.2 j hj).imp id (fun h=>Nat.le_trans Gm.out.size h)⟩;clear G3 G2;rcases hP with ⟨rfl,hnone⟩|⟨i,hi,hst,hfi,rfl⟩
  ·exfalso
   refine hnone 0 ?_ ?_ G9.out
   ·have e:(updC cs k0 (newC cl (cs k0).g) k0).cl=cl:=by unfold updC;rw[if_pos rfl];rfl
    rw[e];have:=z3b cl;omega
   ·unfold updC;rw[if_pos rfl];rfl
  ·have Gi:Vac s K (updC cs k0 (newC cl (cs k0).g)) f cl k0 i:=by
    have e1:updC cs k0 (newC cl (cs k0).g) k0=newC cl (cs k0).g:=by unfold updC;rw[if_pos rfl]
    rw[e1]at hi hst;exact⟨G0.out.1,by rw[e1];rfl,by rw[e1];rfl,hi,by rw[e1];exact hst,hfi⟩
   clear hi hst hfi G9;have Gv:=GI.out;generalize hcs5:updC cs k0 (newC cl (cs k0).g)=cs5 at*;have Gx:=hid hcs5;clear hcs5;have Gh:=hid Gi;obtain⟨q1,q2,q3,q4,q5,q6,q7,q8⟩:=Gb.out.vac_facts Gi kind Ga.out.2.1;have Gt:=hid (x5v Gb.out.dev Gb.out.pay x.h _ Gb.out.hs.heap rfl Gb.out.off.1 (fptr s cs5 kind k0 i) cl (offO s cs5 k0 i) q1 q5 q4 q3 (by have:=Ga.out.2.2.2.1;omega));have G1:Hid (∀W,() 143 #[(fptr s cs5 kind k0 i)] W fun e w'=>e=.returned (offO s cs5 k0 i)/\W=w'):=hid (fun W=>by have h2:=z4o (fptr s cs5 kind k0 i) W;rw[q4]at h2;exact h2);have Gs:Hid (∀w6 S6,Dev a L ((T+200)+200) w6 S6 (wrS (fmtR cur (s+32*k0) cl (cs k0).g) (zerW (offO s cs5 k0 i) (payW cl))) 0->Chg S3 w5 w6->Grew S3 S6 w5->DS a L ((T+200)+200) s n K x cs5 f N m b0 S6 (wrS (fmtR cur (s+32*k0) cl (cs k0).g) (zerW (offO s cs5 k0 i) (payW cl))) w6):=hid (fun w6 S6 hd hc hg=>Gb.out.zeroed Gi hd hc hg);have Gw:w5.cell? (x.h,())=some (.iface 57 (a.th 0,())):=Gb.out.hs.heap.cell 0;clear q1 q2 q3 q4 q5 q6 q7 q8 Gi;generalize hfp:fptr s cs5 kind k0 i=fp at*;generalize hof:offO s cs5 k0 i=o at*;rw[<- Gv];clear Gv;generalize hvv:((s+32*k0:Nat):Int)=v at*;have Gp:=hid hfp;have Gq:=hid hof;have Gr:=hid hvv;clear hfp hof hvv;go_wp2_with (go_at_call 279;refine Gt.out.mono ?_;rintro e w6⟨rfl,S6,Gu,Gj,Gl⟩;refine stop ?_)
   unfold Stop;have Gg:=hid (Gs.out w6 S6 Gu Gj Gl);have Gn:=hid (show Chg S3 w5 w6/\Grew S3 S6 w5 from⟨Gj,Gl⟩);obtain⟨w7,w8,c,r7,r8,r9,b7,b8,l8,Ge⟩:=Gg.out.rsv Gh.out kind Ga.out.1 Ga.out.2.1 Ga.out.2.2.1;rw[Gq.out,Gp.out]at r7;rw[Gr.out]at r8 r9;have Gc:=hid Ge;have Gd:=hid (y2o l8 Gg.out.few.1 (by have:=Gg.out.few.2;omega) Gh.out.1 Gh.out.2.1 true);rw[Gr.out]at Gd;unfold HA.p y5l at Gd;dsimp only at Gd;have y4:w6.cell? ⟨x.h,4,none⟩=some (.map (some x.mr)):=Gg.out.hs.heap.cell 4;have y5:w7.cell? ⟨x.h,5,none⟩=some (.map (some x.mh)):=b7.cell 5;have y3:w8.cell? ⟨x.h,3,none⟩=some (x.gs,()):=b8.cell 3;clear Gu Gj Gl Ge b7 b8 l8 Gt Gs Gw;go_wp2_with fail
   go_region_with (go_at_call 143;refine(G1.out _).mono ?_;rintro e w1⟨rfl,rfl⟩)
   all_goals
    go_wp2_with (go_at_call 253;refine Gd.out.mono ?_;rintro e w9⟨rfl,l9,c9⟩;refine stop ?_)
    unfold Stop;have HE:=hid (Gc.out w9 l9 c9);clear l9 c9 Gd Gc r7 r8 r9 y3 y4 y5;go_wp2;go_ret2;refine⟨k0,i,S6,_,_,by rw[Gp.out];rfl,⟨Gh.out,.inr ⟨k0,G0.out.1,G0.out.2,GH.out,Gx.out.symm,by rw[Gq.out]⟩⟩,HE.out.1.more oM Ga.out.2.2.2.1,?_,?_⟩
    ·exact(Gf.out.1.trans (S':=S3) Gn.out.1 (fun j hj=>(Gf.out.2 j hj).imp .inl id)).trans (S':=x.fp) HE.out.2 (fun j hj => .inl (.inr hj))
    ·exact Gf.out.2.trans Gn.out.2 Gf.out.1.size
 ·have Gi:=hv
  clear hv;have Gb:=hid (HD.out.below Gm.out);have Gf:Hid (Chg (fun j=>S j\/x.fp j) w w2/\Grew S S w):=hid ⟨Chg.of_below Gm.out,Grew.refl _ _⟩;have Gh:=hid Gi;obtain⟨q1,q2,q3,q4,q5,q6,q7,q8⟩:=Gb.out.vac_facts Gi kind Ga.out.2.1;have Gt:=hid (x5v Gb.out.dev Gb.out.pay x.h _ Gb.out.hs.heap rfl Gb.out.off.1 (fptr s cs kind k i) cl (offO s cs k i) q1 q5 q4 q3 (by have:=Ga.out.2.2.2.1;omega));have G1:Hid (∀W,() 143 #[(fptr s cs kind k i)] W fun e w'=>e=.returned (offO s cs k i)/\W=w'):=hid (fun W=>by have h2:=z4o (fptr s cs kind k i) W;rw[q4]at h2;exact h2);have Gs:Hid (∀w6 S6,Dev a L (T+200) w6 S6 (wrS cur (zerW (offO s cs k i) (payW cl))) 0->Chg S w2 w6->Grew S S6 w2->DS a L (T+200) s n K x cs f N m b0 S6 (wrS cur (zerW (offO s cs k i) (payW cl))) w6):=hid (fun w6 S6 hd hc hg=>Gb.out.zeroed Gi hd hc hg);have Gw:w2.cell? (x.h,())=some (.iface 57 (a.th 0,())):=Gb.out.hs.heap.cell 0;clear q1 q2 q3 q4 q5 q6 q7 q8 Gi;generalize hfp:fptr s cs kind k i=fp at*;generalize hof:offO s cs k i=o at*;generalize hvv:((s+32*k:Nat):Int)=v at*;have Gp:=hid hfp;have Gq:=hid hof;have Gr:=hid hvv;clear hfp hof hvv;go_wp2_with (go_at_call 279;refine Gt.out.mono ?_;rintro e w6⟨rfl,S6,Gu,Gj,Gl⟩;refine stop ?_)
  unfold Stop;have Gg:=hid (Gs.out w6 S6 Gu Gj Gl);have Gn:=hid (show Chg S w2 w6/\Grew S S6 w2 from⟨Gj,Gl⟩);obtain⟨w7,w8,c,r7,r8,r9,b7,b8,l8,Ge⟩:=Gg.out.rsv Gh.out kind Ga.out.1 Ga.out.2.1 Ga.out.2.2.1;rw[Gq.out,Gp.out]at r7;rw[Gr.out]at r8 r9;have Gc:=hid Ge;have Gd:=hid (y2o l8 Gg.out.few.1 (by have:=Gg.out.few.2;omega) Gh.out.1 Gh.out.2.1 true);rw[Gr.out]at Gd;unfold HA.p y5l at Gd;dsimp only at Gd;have y4:w6.cell? ⟨x.h,4,none⟩=some (.map (some x.mr)):=Gg.out.hs.heap.cell 4;have y5:w7.cell? ⟨x.h,5,none⟩=some (.map (some x.mh)):=b7.cell 5;have y3:w8.cell? ⟨x.h,3,none⟩=some (x.gs,()):=b8.cell 3;clear Gu Gj Gl Ge b7 b8 l8 Gt Gs Gw;go_wp2_with fail
  go_region_with (go_at_call 143;refine(G1.out _).mono ?_;rintro e w1⟨rfl,rfl⟩)
  all_goals
   go_wp2_with (go_at_call 253;refine Gd.out.mono ?_;rintro e w9⟨rfl,l9,c9⟩;refine stop ?_)
   unfold Stop;have HE:=hid (Gc.out w9 l9 c9);clear l9 c9 Gd Gc r7 r8 r9 y3 y4 y5;go_wp2;go_ret2;refine⟨k,i,S6,_,_,by rw[Gp.out];rfl,⟨Gh.out,.inl ⟨rfl,by rw[Gq.out]⟩⟩,HE.out.1.more oM Ga.out.2.2.2.1,?_,?_⟩
   ·exact(Gf.out.1.trans (S':=S) Gn.out.1 (fun j hj=>(Gf.out.2 j hj).imp .inl id)).trans (S':=x.fp) HE.out.2 (fun j hj => .inl (.inr hj))
   ·exact Gf.out.2.trans Gn.out.2 Gf.out.1.size
end
end
section
open Go.RowKit
def z2r(s:Nat)(cs:Nat->CS)(k:Nat):List Value:=(List.range k).flatMap fun j=>[[s+32*j],.int .i64 (cs j).cls,.int .i64 (cs j).own,false]
theorem z5n s (cs:Nat->CS) k:z2r s cs (k+1)=z2r s cs k++[.int .i64 ((s+32*k:Nat):Int),.int .i64 (cs k).cls,.int .i64 (cs k).own,.bool false]:=by simp[z2r,List.range_succ]
theorem y2y s (cs:Nat->CS):∀(n k:Nat),k<n->(z2r s cs n)[k*4]?=some (.int .i64 ((s+32*k:Nat):Int))/\(z2r s cs n)[k*4+1]?=some (.int .i64 (cs k).cls)/\(z2r s cs n)[k*4+2]?=some (.int .i64 (cs k).own)/\(z2r s cs n)[k*4+3]?=some (.bool false)
 |n+1,k,h=>by
  have hl:(z2r s cs n).length=n*4:=by
   clear h;induction n with
   |zero=>rfl
   |succ n ih=>rw[z5n,List.length_append,ih];simp;omega
  rw[z5n];by_cases hk:k<n
  ·obtain⟨h0,h1,h2,h3⟩:=y2y s cs n k hk
   refine⟨?_,?_,?_,?_⟩<;>rw[List.getElem?_append_left oM]<;>assumption
  ·obtain rfl:k=n:=oM
   refine⟨?_,?_,?_,?_⟩<;>rw[List.getElem?_append_right oM,hl]<;>simp
def w7y(a:DA)(s:Nat)(cs:Nat->CS)(k:Nat)(w:World)(base g:Nat):Prop:=∃A m c,Blk w g 340 #[memV a,.slice A m c]/\m=k/\w.ownsRow base 342 4 (.slice A m c) m (z2r s cs k)
def v1t(v1 v2:Int)(w w1:World)(A:Option Addr)(m c:Nat)(w':World):Prop:=w'.cell? (w,1)=some (.slice A m c)/\w'.cell? (w1,0)=some ↑[v1]/\w'.cell? (w1,1)=some ↑[v2]
structure w8n(a:DA)(w wr:World)(s:Nat)(cs:Nat->CS)(k:Nat)(A:Option Addr)(m c:Nat):Prop where
 below:Blw w wr
 set_:Blk wr w 340 #[memV a,.slice A m c]
 own:wr.ownsRow (w+1) 342 4 (.slice A m c) m (z2r s cs k)
 hm:m=k
theorem v0g{a L T w S cur F}(h:Dev a L T w S cur F)(ht:Tab w)(hp:Pay w) c (hc:c+32<=L) {k}(hk:CSok cur c k) :
  () 229 #[memV a,[c]] w fun e w'=>e=.returned (.tuple #[.agg #[[k.cls],[k.own],#[k.g]],()])/\Blw w w':=by
 unfold CSok at hk;unfold CS.cls CS.own;by_cases hd:k.dv=true
 ·rw[if_pos hd]at hk
  rw[if_pos hd,if_pos hd];exact x5g h ht hp c k.cl k.g hc hk.cls hk.g0 hk.g1 hk.hdr
 ·rw[if_neg hd]at hk
  rw[if_neg hd,if_neg hd];exact z9k h ht c k.g hc hk.2.1 hk.2.2 hk.1
theorem y3u{a L T w S cur F}(cs:Nat->CS)(h:Dev a L T w S cur F)(ht:Tab w)(hp:Pay w) s n K (hn:32<=n) (hs:s+n<=L) (hK:n/32=K) (hv:∀k,k<K->CSok cur (s+32*k) (cs k)) :
  () 224 #[memV a,[s],[n]] w fun e w'=>e=.returned (.tuple #[(w,0),()])/\w7y a s cs K w' (w+1) w/\Blw w w':=by
 have HV:=hid (z7g h s n hn hs);have HD:=hid h;have HT:=hid ht;have G2:=hid hp;have G4:=hid hv;obtain⟨i0,G6,G8,G9,GA⟩:=info_parts w1g;have Gp:Hid (w8n a w (w.alloc (.cells #[memV a,((),())] 340)) s cs 0 none 0 0):=⟨(Below.refl _ _).alloc (nL _) _,Blk.new _ _ _,World.ownsRow_nil _ _ _ _,rfl⟩
 obtain⟨ls,GC,GG,GB,GF,Gk,G7⟩:=h;have hL:=Gk.hL;obtain⟨f0,_,_,_,g2⟩:=Gk.facts (j:=0) oM;have GD:=z1x (some (a.th 0,0));have d2:(n:Int).tdiv 32=(K:Int):=by rw[Int.tdiv_eq_ediv_of_nonneg oM];omega
 have d3:(n:Int)/32=(K:Int):=oM;have G5:K*32<=n:=oM;clear Gk G7 ht hp hK hv;unfold memV at*;go_enter Tryz.func224,Tryz.ntmps224
 go_wp2_with (first
  |(go_at_call 218;refine HV.out.mono ?_;rintro e w1⟨rfl,rfl⟩)
  |go_in)
 clear f0 g2 HV;go_loopw [29] (fun i wr=>∃(k:Nat)(A:Option Addr)(m c:Nat),k<=K/\i=↑[k]/\Hid (w8n a w wr s cs k A m c)) (fun i _=>K-(RowKit.intOf i).toNat)
 case atStart=>exact⟨0,_,_,_,Nat.zero_le _,rfl,Gp⟩
 case round =>
  clear Gp;obtain⟨k,A,m,c,hk,rfl,H⟩:=hrel;by_cases hlt:k<K
  ·have Gh:=hid (v0g (HD.out.below H.out.below) (HT.out.below H.out.below) (G2.out.below H.out.below) (s+32*k) oM (G4.out k hlt))
   obtain⟨v1,Gl⟩:∃v1,(cs k).cls=v1:=⟨_,rfl⟩
   obtain⟨v2,Gm⟩:∃v2,(cs k).own=v2:=⟨_,rfl⟩
   obtain⟨v3,Gv⟩:∃v3,(cs k).g=v3:=⟨_,rfl⟩
   have Gb:=hid (And.intro Gl Gm);have e7:((s+32*k:Nat):Int)=(s:Int)+(k:Int)*32:=oM;rw[e7,Gl,Gm,Gv]at Gh;clear Gl Gm Gv;unfold memV at Gh;have hz:(s:Int)+(k:Int)*32<=4096:=oM;go_wp2_with (first
    |(go_at_call 229;refine Gh.out.mono ?_;rintro e w1⟨rfl,Gu⟩;have Gc:=hid Gu;clear Gu)
    |go_in)
   have Gg:=hid ((H.out.set_.below Gc.out H.out.set_.lt).alloc (.cells #[[v1],[v2],#[v3]] 249));have Gf:=hid (Blk.new w1 249 #[[v1],[v2],#[v3]]);have Gd:=hid ((H.out.below.trans (Gc.out.mono H.out.below.size)).alloc (Nat.le_trans H.out.below.size Gc.out.size) (.cells #[[v1],[v2],#[v3]] 249));have Gs:=hid ((z0r H.out.own Gc.out).alloc (.cells #[[v1],[v2],#[v3]] 249));generalize w1.alloc (.cells #[[v1],[v2],#[v3]] 249)=W at*;have Gt:Hid (v1t v1 v2 w w1 A m c W.drew):=hid ⟨Gg.out.cell 1,Gf.out.cell 0,Gf.out.cell 1⟩;refine z0f (v1t v1 v2 w w1 A m c) 13 [(true,0),(true,1),(true,2),(true,3),(true,4),(true,5),(true,6),(true,7),(true,8),(true,9),(true,10),(false,11),(false,12)] (by kernel_rfl) (by kernel_rfl) Gt.out ?_;refine tkS (w,0) (fun w' hS=>?_) ?_
   ·go_simp
   refine tkS (w,0) (fun w' hS=>?_) ?_
   ·go_simp
   refine tkS (w,0) (fun w' hS=>?_) ?_
   ·go_simp
   refine tkS (w,1) (fun w' hS=>?_) ?_
   ·go_simp
   refine tkS (.slice A m c) (fun w' hS=>?_) ?_
   ·have f1:=hS.1
    go_simp
   refine tkS (.int .i64 ((s:Int)+(k:Int)*32)) (fun w' hS=>?_) ?_
   ·go_simp
   refine tkS (w1,0) (fun w' hS=>?_) ?_
   ·go_simp
   refine tkS [v1] (fun w' hS=>?_) ?_
   ·have f1:=hS.2.1
    go_simp
   refine tkS (w1,1) (fun w' hS=>?_) ?_
   ·go_simp
   refine tkS [v2] (fun w' hS=>?_) ?_
   ·have f1:=hS.2.2
    go_simp
   refine tkS (.agg #[.int .i64 ((s:Int)+(k:Int)*32),[v1],[v2],false]) (fun w' hS=>?_) ?_
   ·go_simp
   have GE:m<=128:=by have:=H.out.hm;omega
   have G0:=hid Gd.out.size;have Gq:=hid Gg.out.lt;refine z0k (by rfl) ?_;go_wp2;have Gj:=hid ((Gg.out.alloc (.cells #[.int .i64 ((s:Int)+(k:Int)*32),[v1],[v2],false] 342)).drew);have Ge:=hid ((Gf.out.alloc (.cells #[.int .i64 ((s:Int)+(k:Int)*32),[v1],[v2],false] 342)).drew);have Gi:=hid ((Gs.out.alloc (.cells #[.int .i64 ((s:Int)+(k:Int)*32),[v1],[v2],false] 342)).drew);have G3:Hid (z0d (W.alloc (.cells #[.int .i64 ((s:Int)+(k:Int)*32),[v1],[v2],false] 342)).drew (W+1) 4 (some (W,0)) 1 [.int .i64 ((s:Int)+(k:Int)*32),[v1],[v2],false]):=hid (z0j W W rfl [.int .i64 ((s:Int)+(k:Int)*32),[v1],[v2],false] 1 4 342 _ rfl rfl);have Gx:=hid ((Gd.out.alloc Gd.out.size (.cells #[.int .i64 ((s:Int)+(k:Int)*32),[v1],[v2],false] 342)).drew);have Gz:Hid (w+1<=(W.alloc (.cells #[.int .i64 ((s:Int)+(k:Int)*32),[v1],[v2],false] 342)).drew.heap.size):=hid (by have:=Gq.out;simp;omega);generalize (W.alloc (.cells #[.int .i64 ((s:Int)+(k:Int)*32),[v1],[v2],false] 342)).drew=WA at*;clear Gg Gf Gs Gd Gt G0 Gq;refine⟨⟨Gj.out.cell 1,Ge.out.cell 0,Ge.out.cell 1⟩,?_⟩;refine z0k (by rfl) ?_;refine z0m _ (.tmp 49) (.tmp 56) 338 rfl rfl (w+1) 342 i0 _ 4 32 Tryz.underlying338 G6 G8 G9 GA rfl oM (.slice A m c) m (z2r s cs k) rfl Gi.out (W+1) (some (W,0)) 1 1 [.int .i64 ((s:Int)+(k:Int)*32),[v1],[v2],false] rfl G3.out (by intro u hu;simp at hu;rcases hu with rfl|rfl|rfl|rfl<;>rfl) (by unfold maxLen;omega) oM Gz.out ?_;intro A3 n3 c3 w8 hn3 ho3 hg3 hb3;have G1:=hid hn3
   have Gr:=hid ho3;have Ga:=hid ((Gj.out.grown hg3 (fun e=>z0l Gi.out Gj.out (by decide) e.symm)):Blk w8 w 340 #[memV a,.slice A m c]);have Gn:=hid (Ge.out.grown hg3 (fun e=>z0l Gi.out Ge.out (by decide) e.symm));have Gw:=hid ((Gx.out.trans (hb3.mono (Nat.le_succ _))):Blw w w8);have z1:w8.frozen? (w,1)=false:=Ga.out.frozen 1;have c1:w8.cell? (w,1)=some (.slice A m c):=Ga.out.cell 1;clear hn3 ho3 hg3 hb3;refine⟨⟨Ga.out.cell 1,Gn.out.cell 0,Gn.out.cell 1⟩,?_⟩;show wpList _ _ _ _ _ _;simp only[List.drop_succ_cons,List.drop_zero];go_wp2;refine NoPanic.normal ?_;go_wp2;have Gy:Hid (w8n a w (w8.setCell (w,1) (.slice A3 n3 c3)) s cs (k+1) A3 n3 c3):=by
    refine⟨Gw.out.setCell (nL _) _,Ga.out.set_ 1 _,?_,?_⟩
    ·rw[z5n,e7,Gb.out.1,Gb.out.2]
     exact ownsRow_setCell_other Gr.out (a:=⟨w.heap.size,1,none⟩) (z0l Gr.out Ga.out (by decide)) _
    ·have:=G1.out;have:=H.out.hm;omega
   go_roundw
   case rel =>
    repeat apply Exists.intro
    refine⟨?_,rfl⟩;exact⟨k+1,_,_,_,oM,by go_num,Gy⟩
   case measure=>simp[RowKit.intOf];omega
  ·obtain rfl:k=K:=oM
   go_wp2;go_ret2;exact⟨rfl,⟨A,m,c,H.out.set_,H.out.hm,H.out.own⟩,H.out.below⟩
theorem w1k{w B n A l}(h:z0d w B 1 A n (u8s l)){k}(hk:k<n):
  ∃(hl:k<l.length)(b off:Nat),A=some (b,off)/\b<B/\w.cell? (b,off+k)=some ↑[[l[k]]]:=by
 have hl:k<l.length:=by have:=h.1;simp[u8s]at this;omega
 obtain⟨b,off,hA,hb,hc⟩:=h.plain oM oM;exact⟨hl,b,off,hA,hb,hc k _ (by simp[u8s,hl])⟩
def w7t(w:World)(ln cl:Nat)(bs:Nat->BK)(take:List (Nat×Nat))(drop:List Nat)(e:Ending)(w':World):Prop :=
 ∃A m c V',e=.returned (.tuple #[.slice A m c,true])/\Bits V' cl (actB bs take drop)/\w'.ownsRow w 117 2 (.slice A m c) m (z0a (chgW ln cl bs take drop V'))/\Blw w w'
theorem w7o ln cl (bs:Nat->BK) l (e:Nat×Nat):tkW ln cl bs (l++[e])=tkW ln cl bs l++[(64*ln+8*offB cl e.1,(z3c (bs e.1) e.2).w)]:=by simp[tkW]
theorem w5e ln cl (bs:Nat->BK) l i:drW ln cl bs (l++[i])=drW ln cl bs l++[(64*ln+8*offB cl i,(z2c (bs i)).w)]:=by simp[drW]
section
variable{a:DA}{L T:Nat}{w:World}{S:Fp}{cur:Nat->Nat}{F:Nat}
theorem x2d(h:Dev a L T w S cur F)(ht:Tab w)(hp:Pay w) ln cl g V (bs:Nat->BK) (hl:ln+32<=L) (hC:ChW cur ln cl g V bs)
  A1 A2 A3 n1 c1 c2 n3 c3 take drop (h1:z0d w w 1 A1 n1 (z1f (take.map (·.1)))) (h2:z0d w w 1 A2 n1 (u8s (take.map (·.2)))) (h3:z0d w w 1 A3 n3 (z1f drop))
  (hn:(take.map (·.1)++drop).Nodup) (hi1:∀e∈take,e.1<perC cl/\(bs e.1).st=176/\0<e.2/\e.2<128) (hi3:∀i∈drop,i<perC cl/\(bs i).st=177) (hne:0<n1\/0<n3) (hn1:n1<=100) (hn3:n3<=100) :
  () 252 #[chV a ln cl 0 g,.slice A1 n1 c1,.slice A2 n1 c2,.slice A3 n3 c3] w (w7t w ln cl bs take drop):=by
 obtain⟨_,_,_,_,_,D6,_⟩:=id h;have hL:=D6.hL;clear D6;obtain⟨j0,Do,Dt,Du,Dv⟩:=info_parts z1l;have Dg:Blw w (w.alloc (.cells (z0w a ln cl g) 251)):=(Below.refl _ _).alloc (nL _) _;have Gf:=hid Dg;have HK:=hid (Blk.new w 251 (z0w a ln cl g));have DB:=hid (y0s (h.below Dg) ln cl g V hl hC.bits);have Dd:Hid (∀i,i<perC cl->∀W,Blw w W->() 231 #[chV a ln cl 0 g,[i]] W fun e w'=>e=.returned (.tuple #[(bs i).v,true,(z1z V i)])/\Blw W w'):=hid (fun i hi W hW=>y7d (h.below hW) (ht.below hW) (hp.below hW) ln cl g V i (bs i) (hC.inn i hi) hl hC.cls hi hC.v64 hC.bits (hC.word i hi));have GY:Hid (∀i,i<perC cl->∀W,Blw w W->() 244 #[chV a ln cl 0 g,[i]] W fun e w'=>e=.returned (64*ln+8*offB cl i:Nat)/\Blw W w'):=hid (fun i hi W hW=>z8i ln cl g i oM hC.cls hi W (hp.below hW));have De:Hid (∀b:BK,b.In->∀W,Blw w W->() 301 #[b.v] W fun e w'=>e=.returned b.w/\Blw W w'):=hid (fun b hb W hW=>y4h b hb W (ht.below hW));have Dz:Hid (∀b:BK,b.In->b.good=true->∀W,Blw w W->() 242 #[b.v] W fun e w'=>e=.returned true/\Blw W w'):=hid (fun b hb hg W _=>by
  have h:=y6o b hb W;rw[hg]at h;exact h)
 have Dy:Hid (∀b:BK,b.In->∀W,Blw w W->() 302 #[b.v] W fun e w'=>e=.returned (z2c b).v/\Blw W w'):=hid (fun b hb W _=>w0z b hb W);have DM:=hid (z5c ln oM);have DJ:=hid h1;have DK:=hid h2;have DL:=hid h3;have Dc:=hid (show take.length=n1 by have:=h1.1;simp[z1f]at this;omega);have D0:=hid (show drop.length=n3 by have:=h3.1;simp[z1f]at this;omega);have HC:=hid hC;have DG:=hid hn;have DD:=hid hi1;have DE:=hid hi3;have GN:=hid (z3b cl).2;have DN:Hid (Bits V cl bs):=hid ⟨hC.v64,hC.bit,hC.top⟩;have GC:(((n1:Int)==0)&&((n3:Int)==0))=false:=by
  rw[Bool.and_eq_false_iff,beq_eq_false_iff_ne,beq_eq_false_iff_ne];omega
 have DF:=hid (show ln<=4096 by omega);clear h ht hp hl hC h1 h2 h3 hn hi1 hi3 hne Dg;unfold chV at*;unfold z0w memV at*;generalize hW:w.alloc (.cells #[.iface 57 (a.th 0,()),[ln],[cl],(),#[g]] 251)=W at*;have DO:=hid hW.symm;clear hW;go_enter Tryz.func252,Tryz.ntmps252
 go_upto_region 1 with fail
 go_cut [29]from 22 to 135 (fun v wx=>v=↑false/\Hid (wx=W))
 case first =>
  rw[<- DO.out];by_cases h0:n1=0
  ·have e1:((n1:Int)==0)=true:=by rw[beq_iff_eq];omega
   have e3:((n3:Int)==0)=false:=by rw[e1]at GC;simpa using GC
   clear h0;go_wp2_with fail
   go_meet;exact⟨rfl,hid rfl⟩
  ·have e1:((n1:Int)==0)=false:=by rw[beq_eq_false_iff_ne];omega
   clear h0;go_wp2_with fail
   go_meet;exact⟨rfl,hid rfl⟩
 case rest =>
  obtain⟨rfl,D8⟩:=hcut;have hw:=D8.out;subst hw;clear GC D8;have DV:wc.cell? (w,())=some (.iface 57 (a.th 0,())):=HK.out.cell 0;have DW:wc.cell? ⟨w.heap.size,1,none⟩=some ↑[ln]:=HK.out.cell 1;have DX:wc.cell? ⟨w.heap.size,2,none⟩=some ↑[cl]:=HK.out.cell 2;have DY:wc.cell? ⟨w.heap.size,3,none⟩=some ↑():=HK.out.cell 3;have DZ:wc.cell? ⟨w.heap.size,4,none⟩=some ↑#[g]:=HK.out.cell 4;go_wp2_with (go_at_call 281;refine DB.out.mono ?_;rintro e w1⟨rfl,D4⟩;have Dx:=hid D4;clear D4)
  clear DV DW DX DY DZ;have GK:Hid (w1.ownsRow wc 117 2 ((),()) 0 (z0a (tkW ln cl bs (take.take 0)))):=World.ownsRow_nil _ _ _ _;have GO:Hid (Bits V cl (tkB bs (take.take 0))):=DN;go_loopw [10,11,34] (fun ws v i wr=>∃(k V' m4 c4:Nat)(A4:Option Addr),k<=n1/\i=↑[k]/\v=↑V'/\ws=.slice A4 m4 c4/\m4=k/\Hid (Bits V' cl (tkB bs (take.take k)))/\Hid (wr.ownsRow wc 117 2 (.slice A4 m4 c4) m4 (z0a (tkW ln cl bs (take.take k))))/\Hid (Blw wc wr)) (fun _ _ i _=>n1-(Go.RowKit.intOf i).toNat)
  case atStart=>exact⟨0,V,0,0,none,Nat.zero_le _,rfl,rfl,rfl,rfl,GO,GK,Dx⟩
  case round =>
   clear GO GK Dx;obtain⟨k,V',m4,c4,A4,hk,rfl,rfl,rfl,GX,HS,HO,H⟩:=hrel;by_cases hlt:k<n1
   ·have G5:=hid (Gf.out.trans (H.out.mono Gf.out.size))
    obtain⟨hl,b,Fg,hA,DU,f0⟩:=y6v (DJ.out.below G5.out) hlt;obtain⟨Fd,b2,Dw,DT,GT,fk⟩:=w1k (DK.out.below G5.out) hlt;subst hA;subst DT;have GE:k<take.length:=by rw[Dc.out];exact hlt
    have e1:(take.map (·.1))[k]=(take[k]).1:=by simp
    have e2:(take.map (·.2))[k]=(take[k]).2:=by simp
    rw[e1]at f0;rw[e2]at fk;obtain⟨hi,G1,Fh,Fi⟩:=DD.out take[k] (List.getElem_mem GE);have DR:=GN.out;have Gm:Hid (Bits (V'|||2^(take[k]).1) cl (tkB bs (take.take (k+1)))):=hid (by rw[List.take_succ_eq_append_getElem GE,w7n];exact HS.out.take hi);have GV:Hid (tkW ln cl bs (take.take (k+1))=tkW ln cl bs (take.take k)++[(64*ln+8*offB cl (take[k]).1,(z3c (bs (take[k]).1) (take[k]).2).w)]):=hid (by rw[List.take_succ_eq_append_getElem GE,w7o]);have GB:=HS.out.lt;generalize take[k]=e0 at*;obtain⟨i0,kd⟩:=e0;dsimp only at*;have GD:=HC.out.inn i0 hi;have D7:=HC.out.good i0 hi;have Gr:z1z V i0=false:=by rw[HC.out.bit i0 hi,G1];rfl
    have Gx:=hid (Dd.out i0 hi wr G5.out);rw[Gr]at Gx;have Db:=hid (Dz.out (bs i0) GD D7);have GF:=hid (GY.out i0 hi);have GP:=hid (De.out (z3c (bs i0) kd) (y3g GD oM));have u2:=y3e (i:=i0) oM;have u3:=u64_or_nat V' (2^i0) GB (z4m oM);have Dn:(i0:Int)<62:=oM;clear e1 e2 hl Fd Gr D7 HS;unfold z3c at*;generalize hbw:(BK.mk (bs i0).gen kd 177).w=bw at*;generalize GC:bs i0=bb at*;obtain⟨bg,Gy,DP⟩:=bb;dsimp only at G1 GD;subst G1;unfold BK.v at*;dsimp only at*;have u1:IntKind.u64.wrap (i0:Int)=(i0:Int):=by rw[IntKind.wrap_u64];omega
    have GZ:Hid (z0a (tkW ln cl bs (take.take k))++[.int .u64 ((64*ln+8*offB cl i0:Nat):Int),.int .u64 bw]=z0a (tkW ln cl bs (take.take (k+1)))):=hid (by rw[GV.out];simp[z0a,GC,hbw]);generalize 64*ln+8*offB cl i0=y at*;have Fe:(0:Int)<=(k:Int):=oM;have Ff:(k:Int)<(n1:Int):=oM;have Fb:(0:Int)<=(i0:Int):=oM;have Dq:m4<=100:=oM;have HM:=hid GX;clear GX;generalize (V'|||2^i0)=V2 at*;generalize (2^i0:Nat)=q2 at*;have Ga:=HK.out.below H.out HK.out.lt;have Di:wr.cell? (w,())=some (.iface 57 (a.th 0,())):=Ga.cell 0;have Dj:wr.cell? ⟨w.heap.size,1,none⟩=some ↑[ln]:=Ga.cell 1;have Dk:wr.cell? ⟨w.heap.size,2,none⟩=some ↑[cl]:=Ga.cell 2;have Dl:wr.cell? ⟨w.heap.size,3,none⟩=some ↑():=Ga.cell 3;have Dm:wr.cell? ⟨w.heap.size,4,none⟩=some ↑#[g]:=Ga.cell 4;clear Ga;have Gh:((176:Nat):Int)=176:=rfl;rw[Gh]at Gx Db;clear Gh;go_wp2_with (go_at_call 231;refine Gx.out.mono ?_;rintro e w2⟨rfl,Gq⟩;refine stop ?_)
    unfold Stop;clear Di Dj Dk Dl Dm;have Gu:=hid ((H.out.trans (Gq.mono H.out.size)).alloc (Nat.le_trans H.out.size Gq.size) (.cells #[#[bg],[[Gy]],.int .u8 176] 335));have Gg:=hid (Gf.out.trans (Gu.out.mono Gf.out.size));have GL:=hid ((z0r HO.out Gq).alloc (.cells #[#[bg],[[Gy]],.int .u8 176] 335));have G6:=hid (Blk.new w2 335 #[#[bg],[[Gy]],.int .u8 176]);have Gw:=hid (Nat.le_trans H.out.size Gq.size);clear Gq Gx H HO;go_wp2_with (go_at_call 242;refine(Db.out _ Gg.out).mono ?_;rintro e w3⟨rfl,Gt⟩;refine stop ?_)
    unfold Stop;have G3:=hid (Gu.out.trans (Gt.mono Gu.out.size));have GG:=hid (Gg.out.trans (Gt.mono Gg.out.size));have G9:=hid (z0r GL.out Gt);have Gd:=hid (G6.out.below Gt G6.out.lt);have x1:w3.cell? ⟨w2.heap.size,1,none⟩=some ↑[[Gy]]:=Gd.out.cell 1;have x2:w3.cell? ⟨w2.heap.size,2,none⟩=some (.int .u8 176):=Gd.out.cell 2;have y1:w3.frozen? ⟨w2.heap.size,1,none⟩=false:=Gd.out.frozen 1;have y2:w3.frozen? ⟨w2.heap.size,2,none⟩=false:=Gd.out.frozen 2;have DQ:w3.cell? (b2,Dw+k)=some ↑[[kd]]:=(GG.out.cell (Nat.lt_of_lt_of_le GT (nL _))).trans (((G5.out.cell (Nat.lt_of_lt_of_le GT (nL _))).symm.trans fk));clear Gt Gu Gg GL G6 Db f0 fk;go_wp2_with fail
    have Df:=(Gd.out.set_ 1 [[kd]]).set_ 2 (.int .u8 177);have G7:=hid (((HK.out.below G3.out HK.out.lt).far (p:=⟨w2.heap.size,1,none⟩) (by have:=HK.out.lt;have:=Gw.out;show w.heap.size≠w2.heap.size;omega) [[kd]]).far (p:=⟨w2.heap.size,2,none⟩) (by have:=HK.out.lt;have:=Gw.out;show w.heap.size≠w2.heap.size;omega) (.int .u8 177));have Ge:(Value.slice A4 m4 c4).ownBlock≠some w2.heap.size:=fun e=>z0l G9.out Gd.out (by decide) e
    have GM:=hid (ownsRow_setCell_other (ownsRow_setCell_other G9.out (a:=⟨w2.heap.size,1,none⟩) Ge [[kd]]) (a:=⟨w2.heap.size,2,none⟩) Ge (.int .u8 177));have Gb:=hid ((G3.out.setCell (p:=⟨w2.heap.size,1,none⟩) Gw.out [[kd]]).setCell (p:=⟨w2.heap.size,2,none⟩) Gw.out (.int .u8 177));have Gc:=hid (Gf.out.trans (Gb.out.mono Gf.out.size));clear x1 x2 y1 y2 DQ Ge G3 GG G9 Gd;generalize (w3.setCell ⟨w2.heap.size,1,none⟩ [[kd]]).setCell ⟨w2.heap.size,2,none⟩ (.int .u8 177)=wk at*;generalize w2.heap.size=p2 at*;have Gv:=hid Df;refine z0f (fun w'=>Blw wk w') 8 [(true,0),(true,1),(true,2),(true,4),(false,3),(false,5),(true,6),(false,7)] (by kernel_rfl) (by kernel_rfl) (Below.refl _ _).drew ?_;refine tkS (.slice A4 m4 c4) (fun w' hS=>?_) ?_
    ·go_simp
    refine tkS (.agg #[.iface 57 (a.th 0,()),[ln],[cl],(),#[g]]) (fun w' hS=>?_) ?_
    ·have Ga:=G7.out.below hS G7.out.lt
     have f0:w'.cell? (w,())=some (.iface 57 (a.th 0,())):=Ga.cell 0;have f1:w'.cell? ⟨w.heap.size,1,none⟩=some ↑[ln]:=Ga.cell 1;have f2:w'.cell? ⟨w.heap.size,2,none⟩=some ↑[cl]:=Ga.cell 2;have f3:w'.cell? ⟨w.heap.size,3,none⟩=some ↑():=Ga.cell 3;have f4:w'.cell? ⟨w.heap.size,4,none⟩=some ↑#[g]:=Ga.cell 4;go_simp
    refine tkS [i0] (fun w' hS=>?_) ?_
    ·go_simp
    refine tkS (.agg #[#[bg],[[kd]],.int .u8 177]) (fun w' hS=>?_) ?_
    ·have Ga:=Gv.out.below hS Gv.out.lt
     have f0:w'.cell? (p2,())=some ↑#[bg]:=Ga.cell 0;have f1:w'.cell? ⟨p2,1,none⟩=some ↑[[kd]]:=Ga.cell 1;have f2:w'.cell? ⟨p2,2,none⟩=some (.int .u8 177):=Ga.cell 2;go_simp
    refine z0k (by rfl) ?_;go_wp2_with fail
    refine(GF.out _ Gc.out.drew).mono ?_;rintro e w4⟨rfl,GR⟩;have Gn:=hid ((Below.refl wk wk).drew.trans GR);have Gp:=hid (Gc.out.trans (Gn.out.mono Gc.out.size));clear GR;go_wp2_with fail
    refine⟨Gn.out,?_⟩;refine z0k (by rfl) ?_;go_wp2_with fail
    refine(GP.out _ Gp.out).mono ?_;rintro e w5⟨rfl,GS⟩;have Gi:=hid (Gn.out.trans (GS.mono Gn.out.size));clear GS Gp;go_wp2_with fail
    refine⟨Gi.out,?_⟩;refine tkS (.agg #[y,bw]) (fun w' hS=>?_) ?_
    ·go_simp
    refine z0k (by rfl) ?_;go_wp2_with fail
    have Gs:=hid (Gi.out.alloc Gi.out.size (.cells #[y,bw] 117));have Gj:=hid ((z0r GM.out Gi.out).alloc (.cells #[y,bw] 117));have GI:=hid (Gb.out.trans (Gs.out.mono Gb.out.size));have GJ:=hid Gi.out.size;have G8:=hid Gb.out.size;refine⟨Gs.out,?_⟩;show wpList _ _ _ _ _ _;simp only[List.drop_succ_cons,List.drop_zero];clear Gn Gi Gs Gv G7 GM Gb Gc GF GP;go_wp2_with (at_builtin;refine z0m _ (.tmp 67) (.tmp 74) 118 rfl rfl wc 117 j0 _ 2 16 Tryz.underlying118 Do Dt Du Dv rfl ?q1 (.slice A4 m4 c4) m4 (z0a (tkW ln cl bs (take.take k))) rfl Gj.out (w5+1) (some (w5,())) 1 1 [y,bw] rfl ?q5 ?q6 ?q2 ?q3 ?q4 ?_;(case q1=>omega);(case q5=>exact z0j _ _ rfl _ 1 2 117 _ rfl rfl);(case q6=>(intro u hu;simp at hu;rcases hu with rfl|rfl<;>rfl));(case q2=>(unfold maxLen;omega));(case q3=>omega);(case q4=>(have:=GJ.out;have:=G8.out;simp;omega));intro A7 n7 c7 w8 Gl ho7 hg7 hb7;have GU:=hid Gl;have G2:=hid ho7;have G4:=hid (GI.out.trans hb7);have G0:=hg7;clear Gl ho7 hg7 hb7)
    have GA:Hid (w8.ownsRow wc 117 2 (.slice A7 n7 c7) n7 (z0a (tkW ln cl bs (take.take (k+1))))):=hid (by have h:=G2.out;rw[GZ.out]at h;exact h);clear G2 Gj GI;clear G0;refine NoPanic.normal ?_;have Gl:n7=k+1:=by have:=GU.out;have:=HM.out;omega
    go_wp2;go_roundw
    case rel =>
     first
      |exact⟨k+1,V2,n7,c7,A7,oM,by go_num,rfl,rfl,Gl,Gm,GA,G4⟩
      |(
        repeat apply Exists.intro
        refine⟨?_,rfl⟩;exact⟨k+1,V2,n7,c7,A7,oM,by go_num,rfl,rfl,Gl,Gm,GA,G4⟩)
    case measure=>simp[Go.RowKit.intOf];omega
   ·have Dp:k=n1:=oM
    subst Dp;have GO:Hid (Bits V' cl (drB bs (tkB bs take) (drop.take 0))):=hid (by
     have h:=HS.out;rw[List.take_of_length_le (by rw[Dc.out];exact nL _)]at h;exact h)
    have GK:Hid (wr.ownsRow wc 117 2 (.slice A4 m4 c4) m4 (z0a (tkW ln cl bs take++drW ln cl bs (drop.take 0)))):=hid (by
     have h:=HO.out;rw[List.take_of_length_le (by rw[Dc.out];exact nL _)]at h;simpa[drW] using h)
    have D1:=hid GX;clear HS HO hk hlt GX;go_wp2;go_loopw [10,11,84] (fun ws v i wr=>∃(k V' m5 c5:Nat)(A5:Option Addr),k<=n3/\i=↑[k]/\v=↑V'/\ws=.slice A5 m5 c5/\m5=m4+k/\Hid (Bits V' cl (drB bs (tkB bs take) (drop.take k)))/\Hid (wr.ownsRow wc 117 2 (.slice A5 m5 c5) m5 (z0a (tkW ln cl bs take++drW ln cl bs (drop.take k))))/\Hid (Blw wc wr)) (fun _ _ i _=>n3-(Go.RowKit.intOf i).toNat)
    case atStart=>exact⟨0,V',m4,c4,A4,Nat.zero_le _,rfl,rfl,rfl,rfl,GO,GK,H⟩
    case round =>
     clear GO GK H;obtain⟨k3,V3,m5,c5,A5,hk,rfl,rfl,rfl,Dr,HS,HO,H⟩:=hrel;by_cases hlt:k3<n3
     ·have G5:=hid (Gf.out.trans (H.out.mono Gf.out.size))
      obtain⟨hl,b,Fg,hA,DU,f0⟩:=y6v (DL.out.below G5.out) hlt;subst hA;obtain⟨hi,G1⟩:=DE.out drop[k3] (List.getElem_mem hl);have DR:=GN.out;have Ds:=List.nodup_append.1 DG.out;have Dh:(drB bs (tkB bs take) (drop.take k3)) drop[k3]=bs drop[k3]:=by
       unfold drB;rw[z4c (fun i=>i) (fun i=>z2c (bs i)) drop[k3] (drop.take k3) (tkB bs take) ?_]
       ·exact z4c (fun e:Nat×Nat=>e.1) (fun e=>z3c (bs e.1) e.2) drop[k3] take bs (fun hh=>Ds.2.2 _ hh _ (List.getElem_mem hl) rfl)
       ·intro hh
        rw[List.map_id']at hh;obtain⟨j,hj,he⟩:=List.getElem_of_mem hh;have Fc:j<k3:=by simp at hj;omega
        have Fa:drop[j]=drop[k3]:=by rw[<- he];simp
        exact(List.pairwise_iff_getElem.1 Ds.2.1) j k3 oM hl Fc Fa
      have Gm:Hid (Bits (if (z2c (bs drop[k3])).st=176 then V3^^^2^drop[k3]else V3) cl (drB bs (tkB bs take) (drop.take (k3+1)))):=hid (by rw[List.take_succ_eq_append_getElem hl,w5d];exact HS.out.drop hi (by rw[Dh];exact G1));have GV:Hid (drW ln cl bs (drop.take (k3+1))=drW ln cl bs (drop.take k3)++[(64*ln+8*offB cl drop[k3],(z2c (bs drop[k3])).w)]):=hid (by rw[List.take_succ_eq_append_getElem hl,w5e]);have GB:=HS.out.lt;have D5:z1z V3 drop[k3]=true:=by rw[HS.out.bit _ hi,Dh,G1];rfl
      clear Dh Ds HS;generalize drop[k3]=i0 at*;have GD:=HC.out.inn i0 hi;have Gr:z1z V i0=true:=by rw[HC.out.bit i0 hi,G1];rfl
      have Gx:=hid (Dd.out i0 hi wr G5.out);rw[Gr]at Gx;have Da:=hid (Dy.out (bs i0) GD);have GF:=hid (GY.out i0 hi);have GP:=hid (De.out (z2c (bs i0)) (y2l GD));have u2:=y3e (i:=i0) oM;have u3:=y4c V3 i0 GB oM D5;have Dn:(i0:Int)<62:=oM;clear hl Gr D5;generalize hfb:z2c (bs i0)=fb at*;generalize hbw:fb.w=bw at*;generalize GC:bs i0=bb at*;obtain⟨GW,Gy,DP⟩:=bb;obtain⟨bg,bk,Gk⟩:=fb;dsimp only at G1 GD Gm;subst G1;unfold BK.v at*;dsimp only at*;have u1:IntKind.u64.wrap (i0:Int)=(i0:Int):=by rw[IntKind.wrap_u64];omega
      have GZ:Hid (z0a (tkW ln cl bs take++drW ln cl bs (drop.take k3))++[.int .u64 ((64*ln+8*offB cl i0:Nat):Int),.int .u64 bw]=z0a (tkW ln cl bs take++drW ln cl bs (drop.take (k3+1)))):=hid (by rw[GV.out];simp[z0a]);generalize 64*ln+8*offB cl i0=y at*;have Fe:(0:Int)<=(k3:Int):=oM;have Ff:(k3:Int)<(n3:Int):=oM;have Fb:(0:Int)<=(i0:Int):=oM;have Dq:m5<=200:=by have:=D1.out;omega
      have HM:=hid Dr;clear Dr;generalize (V3^^^2^i0)=V2 at*;generalize (2^i0:Nat)=q2 at*;clear GV hfb hbw GC;have Ga:=HK.out.below H.out HK.out.lt;have Di:wr.cell? (w,())=some (.iface 57 (a.th 0,())):=Ga.cell 0;have Dj:wr.cell? ⟨w.heap.size,1,none⟩=some ↑[ln]:=Ga.cell 1;have Dk:wr.cell? ⟨w.heap.size,2,none⟩=some ↑[cl]:=Ga.cell 2;have Dl:wr.cell? ⟨w.heap.size,3,none⟩=some ↑():=Ga.cell 3;have Dm:wr.cell? ⟨w.heap.size,4,none⟩=some ↑#[g]:=Ga.cell 4;clear Ga;have GQ:((177:Nat):Int)=177:=rfl;rw[GQ]at Gx Da;clear GQ;go_wp2_with (go_at_call 231;refine Gx.out.mono ?_;rintro e w2⟨rfl,Gq⟩;refine stop ?_)
      unfold Stop;clear Di Dj Dk Dl Dm;have Gu:=hid ((H.out.trans (Gq.mono H.out.size)).alloc (Nat.le_trans H.out.size Gq.size) (.cells #[#[GW],[[Gy]],.int .u8 177] 335));have Gg:=hid (Gf.out.trans (Gu.out.mono Gf.out.size));have GL:=hid ((z0r HO.out Gq).alloc (.cells #[#[GW],[[Gy]],.int .u8 177] 335));have G6:=hid (Blk.new w2 335 #[#[GW],[[Gy]],.int .u8 177]);have Gw:=hid (Nat.le_trans H.out.size Gq.size);clear Gq Gx H HO;go_wp2_with (go_at_call 302;refine(Da.out _ Gg.out).mono ?_;rintro e w3⟨rfl,Gt⟩;refine stop ?_)
      unfold Stop;have G3:=hid (Gu.out.trans (Gt.mono Gu.out.size));have G9:=hid (z0r GL.out Gt);have Gd:=hid (G6.out.below Gt G6.out.lt);have x0:w3.cell? (w2,())=some ↑#[GW]:=Gd.out.cell 0;have x1:w3.cell? ⟨w2.heap.size,1,none⟩=some ↑[[Gy]]:=Gd.out.cell 1;have x2:w3.cell? ⟨w2.heap.size,2,none⟩=some (.int .u8 177):=Gd.out.cell 2;have y0:w3.frozen? (w2,())=false:=Gd.out.frozen 0;have y1:w3.frozen? ⟨w2.heap.size,1,none⟩=false:=Gd.out.frozen 1;have y2:w3.frozen? ⟨w2.heap.size,2,none⟩=false:=Gd.out.frozen 2;clear Gt Gu Gg GL G6 Da f0;go_wp2_with fail
      have Df:=((Gd.out.set_ 0 #[bg]).set_ 1 [[bk]]).set_ 2 [[Gk]];have Gz:w.heap.size≠w2.heap.size:=by have:=HK.out.lt;have:=Gw.out;omega
      have G7:=hid ((((HK.out.below G3.out HK.out.lt).far (p:=⟨w2.heap.size,0,none⟩) Gz #[bg]).far (p:=⟨w2.heap.size,1,none⟩) Gz [[bk]]).far (p:=⟨w2.heap.size,2,none⟩) Gz [[Gk]]);have Ge:(Value.slice A5 m5 c5).ownBlock≠some w2.heap.size:=fun e=>z0l G9.out Gd.out (by decide) e
      have GM:=hid (ownsRow_setCell_other (ownsRow_setCell_other (ownsRow_setCell_other G9.out (a:=⟨w2.heap.size,0,none⟩) Ge #[bg]) (a:=⟨w2.heap.size,1,none⟩) Ge [[bk]]) (a:=⟨w2.heap.size,2,none⟩) Ge [[Gk]]);have Gb:=hid (((G3.out.setCell (p:=⟨w2.heap.size,0,none⟩) Gw.out #[bg]).setCell (p:=⟨w2.heap.size,1,none⟩) Gw.out [[bk]]).setCell (p:=⟨w2.heap.size,2,none⟩) Gw.out [[Gk]]);have Gc:=hid (Gf.out.trans (Gb.out.mono Gf.out.size));clear x0 x1 x2 y0 y1 y2 Ge Gz G3 G9 Gd;generalize ((w3.setCell (w2,()) #[bg]).setCell ⟨w2.heap.size,1,none⟩ [[bk]]).setCell ⟨w2.heap.size,2,none⟩ [[Gk]]=wk at*;generalize w2.heap.size=p2 at*;have Gv:=hid Df;refine z0f (fun w'=>Blw wk w') 8 [(true,0),(true,1),(true,2),(true,4),(false,3),(false,5),(true,6),(false,7)] (by kernel_rfl) (by kernel_rfl) (Below.refl _ _).drew ?_;refine tkS (.slice A5 m5 c5) (fun w' hS=>?_) ?_
      ·go_simp
      refine tkS (.agg #[.iface 57 (a.th 0,()),[ln],[cl],(),#[g]]) (fun w' hS=>?_) ?_
      ·have Ga:=G7.out.below hS G7.out.lt
       have f0:w'.cell? (w,())=some (.iface 57 (a.th 0,())):=Ga.cell 0;have f1:w'.cell? ⟨w.heap.size,1,none⟩=some ↑[ln]:=Ga.cell 1;have f2:w'.cell? ⟨w.heap.size,2,none⟩=some ↑[cl]:=Ga.cell 2;have f3:w'.cell? ⟨w.heap.size,3,none⟩=some ↑():=Ga.cell 3;have f4:w'.cell? ⟨w.heap.size,4,none⟩=some ↑#[g]:=Ga.cell 4;go_simp
      refine tkS [i0] (fun w' hS=>?_) ?_
      ·go_simp
      refine tkS (.agg #[#[bg],[[bk]],[[Gk]]]) (fun w' hS=>?_) ?_
      ·have Ga:=Gv.out.below hS Gv.out.lt
       have f0:w'.cell? (p2,())=some ↑#[bg]:=Ga.cell 0;have f1:w'.cell? ⟨p2,1,none⟩=some ↑[[bk]]:=Ga.cell 1;have f2:w'.cell? ⟨p2,2,none⟩=some ↑[[Gk]]:=Ga.cell 2;go_simp
      refine z0k (by rfl) ?_;go_wp2_with fail
      refine(GF.out _ Gc.out.drew).mono ?_;rintro e w4⟨rfl,GR⟩;have Gn:=hid ((Below.refl wk wk).drew.trans GR);have Gp:=hid (Gc.out.trans (Gn.out.mono Gc.out.size));clear GR;go_wp2_with fail
      refine⟨Gn.out,?_⟩;refine z0k (by rfl) ?_;go_wp2_with fail
      refine(GP.out _ Gp.out).mono ?_;rintro e w5⟨rfl,GS⟩;have Gi:=hid (Gn.out.trans (GS.mono Gn.out.size));clear GS Gp;go_wp2_with fail
      refine⟨Gi.out,?_⟩;refine tkS (.agg #[y,bw]) (fun w' hS=>?_) ?_
      ·go_simp
      refine z0k (by rfl) ?_;go_wp2_with fail
      have Gs:=hid (Gi.out.alloc Gi.out.size (.cells #[y,bw] 117));have Gj:=hid ((z0r GM.out Gi.out).alloc (.cells #[y,bw] 117));have GI:=hid (Gb.out.trans (Gs.out.mono Gb.out.size));have GJ:=hid Gi.out.size;have G8:=hid Gb.out.size;refine⟨Gs.out,?_⟩;show wpList _ _ _ _ _ _;simp only[List.drop_succ_cons,List.drop_zero];have GH:=hid (Gv.out.below Gs.out Gv.out.lt);have D2:Hid (some p2≠(Value.slice A5 m5 c5).ownBlock):=hid (fun e=>z0l Gj.out GH.out (by decide) e.symm);clear Gn Gi Gs Gv G7 GM Gb Gc GF GP;go_wp2_with (at_builtin;refine z0m _ (.tmp 108) (.tmp 115) 118 rfl rfl wc 117 j0 _ 2 16 Tryz.underlying118 Do Dt Du Dv rfl ?q1 (.slice A5 m5 c5) m5 (z0a (tkW ln cl bs take++drW ln cl bs (drop.take k3))) rfl Gj.out (w5+1) (some (w5,())) 1 1 [y,bw] rfl ?q5 ?q6 ?q2 ?q3 ?q4 ?_;(case q1=>omega);(case q5=>exact z0j _ _ rfl _ 1 2 117 _ rfl rfl);(case q6=>(intro u hu;simp at hu;rcases hu with rfl|rfl<;>rfl));(case q2=>(unfold maxLen;omega));(case q3=>omega);(case q4=>(have:=GJ.out;have:=G8.out;simp;omega));intro A7 n7 c7 w8 Gl ho7 hg7 hb7;have GU:=hid Gl;have G2:=hid ho7;have G4:=hid (GI.out.trans hb7);have G0:=hg7;clear Gl ho7 hg7 hb7)
      have GA:Hid (w8.ownsRow wc 117 2 (.slice A7 n7 c7) n7 (z0a (tkW ln cl bs take++drW ln cl bs (drop.take (k3+1))))):=hid (by have h:=G2.out;rw[GZ.out]at h;exact h);clear G2 Gj GI;have Gl:n7=m4+(k3+1):=by have:=GU.out;have:=HM.out;omega
      clear GU;refine NoPanic.normal ?_;have x2:w8.cell? ⟨p2,2,none⟩=some ↑[[Gk]]:=(GH.out.grown G0 D2.out).cell 2;clear G0 D2;by_cases Gh:Gk=176
      ·rw[if_pos Gh]at Gm
       have e5:((Gk:Int)==176)=true:=by rw[beq_iff_eq];omega
       have e6:(Gk:Int)=176:=oM;clear Gh;go_wp2;go_roundw
       case rel =>
        first
         |exact⟨k3+1,V2,n7,c7,A7,oM,by go_num,rfl,rfl,Gl,Gm,GA,G4⟩
         |(
           repeat apply Exists.intro
           refine⟨?_,rfl⟩;exact⟨k3+1,V2,n7,c7,A7,oM,by go_num,rfl,rfl,Gl,Gm,GA,G4⟩)
       case measure=>simp[Go.RowKit.intOf];omega
      ·rw[if_neg Gh]at Gm
       have e5:((Gk:Int)==176)=false:=by rw[beq_eq_false_iff_ne];omega
       have e6:¬(Gk:Int)=176:=oM;clear Gh;go_wp2;go_roundw
       case rel =>
        first
         |exact⟨k3+1,V3,n7,c7,A7,oM,by go_num,rfl,rfl,Gl,Gm,GA,G4⟩
         |(
           repeat apply Exists.intro
           refine⟨?_,rfl⟩;exact⟨k3+1,V3,n7,c7,A7,oM,by go_num,rfl,rfl,Gl,Gm,GA,G4⟩)
       case measure=>simp[Go.RowKit.intOf];omega
     ·have Dp:k3=n3:=oM
      subst Dp;have Gm:Hid (Bits V3 cl (actB bs take drop)):=hid (by
       have h:=HS.out;rw[List.take_of_length_le (by rw[D0.out];exact nL _)]at h;exact h)
      have D3:Hid (wr.ownsRow wc 117 2 (.slice A5 m5 c5) m5 (z0a (tkW ln cl bs take++drW ln cl bs drop))):=hid (by
       have h:=HO.out;rw[List.take_of_length_le (by rw[D0.out];exact nL _)]at h;exact h)
      have Fk:m5<=200:=by have:=D1.out;omega
      have GJ:=hid H.out.size;have Fl:wr.cell? ⟨w.heap.size,1,none⟩=some ↑[ln]:=(HK.out.below H.out HK.out.lt).cell 1;have DC:Hid (z0a (tkW ln cl bs take++drW ln cl bs drop)++[.int .u64 ((64*ln+8:Nat):Int),.int .u64 V3]=z0a (chgW ln cl bs take drop V3)):=hid (by unfold chgW;simp[z0a]);have Fj:=DF.out;have u1:IntKind.u64.wrap (((64*ln:Nat):Int)+8)=((64*ln+8:Nat):Int):=by rw[IntKind.wrap_u64];omega
      have Fm:64*ln+8<9000000000:=oM;generalize 64*ln+8=z8 at*;generalize 64*ln=z at*;have DI:=hid (D3.out.alloc (.cells #[z8,V3] 117));have D9:=hid (H.out.alloc H.out.size (.cells #[z8,V3] 117));clear HS HO D3 H hk hlt Dr Dd GY De Dz Dy;go_wp2_with (first
       |(go_at_call 269;refine(DM.out _).mono ?_;rintro e w3⟨rfl,rfl⟩)
       |(at_builtin;refine z0m _ (.tmp 126) (.tmp 133) 118 rfl rfl wc 117 j0 _ 2 16 Tryz.underlying118 Do Dt Du Dv rfl ?q1 (.slice A5 m5 c5) m5 (z0a (tkW ln cl bs take++drW ln cl bs drop)) rfl DI.out (wr+1) (some (wr,())) 1 1 [z8,V3] rfl ?q5 ?q6 ?q2 ?q3 ?q4 ?_;(case q1=>omega);(case q5=>exact z0j _ _ rfl _ 1 2 117 _ rfl rfl);(case q6=>(intro u hu;simp at hu;rcases hu with rfl|rfl<;>rfl));(case q2=>(unfold maxLen;omega));(case q3=>omega);(case q4=>(have:=GJ.out;simp;omega));intro A6 n6 c6 w8 hn6 ho6 hg6 hb6;have DH:=hid ho6;have Gs:=hid (D9.out.trans hb6);clear hn6 ho6 hg6 hb6)
       |go_in)
      go_ret2;have G2:=z2u (base':=w.heap.size) DH.out Gf.out.size;rw[DC.out]at G2;exact⟨_,_,_,V3,rfl,Gm.out,G2,Gf.out.trans (Gs.out.mono Gf.out.size)⟩
end
end
end Go.Proofs.YtmhbokcccjmfgaaGreatDoor
