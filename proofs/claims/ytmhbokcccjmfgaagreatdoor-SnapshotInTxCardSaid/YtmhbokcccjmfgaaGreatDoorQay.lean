/- part 25 -/
import Derived.Test.YtmhbokcccjmfgaaGreatDoorQax
set_option maxRecDepth 100000
set_option maxHeartbeats 16000000
namespace Go.Proofs.YtmhbokcccjmfgaaGreatDoor
open Go.Lib (hid)
section
open Go.RowKit Go.Maps Go.Sort Go.Shelf
def YApS(g m r:Nat)(t:TX)(w':World):Prop:=w'.cell? (g,6)=some (m,0)/\w'.cell? (m,1)=some (r,0)/\w'.cell? (g,0)=some (.map (some t.words))/\w'.cell? (g,1)=some (.map (some t.inner))/\w'.cell? (g,2)=some (.map (some t.own))/\w'.cell? (g,3)=some (.map (some t.freed))/\w'.cell? (g,4)=some ↑t.outside/\w'.cell? (g,5)=some ↑t.surplus
theorem YApS.of{c g w S t D n cur T}(h:YTxS c g w S t D n cur T):YApS g c.x.m c.x.r t w:=⟨h.tx.cell 6,h.base.sys.m.cell 1,h.tx.cell 0,h.tx.cell 1,h.tx.cell 2,h.tx.cell 3,h.tx.cell 4,h.tx.cell 5⟩
theorem x9k{D ks}(h:ks.Nodup):Diff (chW D ks):=by
 intro i j hi hj hij e;have Ga:i<ks.length:=by simpa[chW] using hi
 have Gb:j<ks.length:=by simpa[chW] using hj
 have e1:(chW D ks)[i].1=ks[i]:=by simp[chW]
 have e2:(chW D ks)[j].1=ks[j]:=by simp[chW]
 rw[e1,e2]at e;exact hij ((List.getElem_inj h).1 e)
theorem x0y{c g w S t D n cur T f k}(h:YTxS c g w S t D n cur T)(hmode:t.mode=1)(hd:z3t c 1 cur D f k)(hk:k<=96)(hidle:cur (8*c.s0)=0)(hT:T<=1000000):
  () 94 #[(g,0),((),())] w fun e w'=>∃cur',(∃ks cm,ks.Perm (z2w D)/\cm<18446744073709551616/\cur'=rdG c.s0 cur (chW D ks) cm)/\x3y c g w S t D n cur' (T+800) () e w':=by
 obtain⟨i0,Gy,G1,G2,G3⟩:=info_parts z1l;have c7:w.cell? (g,7)=some (.int .u8 1):=(h.tx.cell 7).trans (by simp[z1c,hmode]);have HX:=hid h;have Gi:Hid (YApS g c.x.m c.x.r t w.drew):=hid (show YApS g c.x.m c.x.r t w from YApS.of h);have Gf:=hid (y7u w.drew t.words t.inner t.own t.freed t.outside t.surplus D n h.maps.words (by rw[hd.size];omega));have Gl:Hid (YTxS c g w.drew S t D n cur T):=hid (h.more_ (Below.refl _ _).drew);have Gu:=hid (fun o=>y6p h.maps.words o);have Gt:=hid (z5q h.maps.words);have Gw:=hid ((z7c h.maps.words).trans hd.size);have Gq:=hid hd;have Gs:=hid hidle;clear h hmode hd hidle;go_enter Tryz.func94,Tryz.ntmps94
 go_wp2_with fail
 refine z0f (YApS g c.x.m c.x.r t) 14 [(true,0),(true,1),(true,2),(true,3),(true,4),(true,5),(true,6),(true,7),(true,8),(true,9),(true,10),(true,12),(false,11),(false,13)] (by kernel_rfl) (by kernel_rfl) Gi.out ?_;refine tkS (g,0) (fun w' hS=>?_) ?_
 ·go_simp
 refine tkS (g,0) (fun w' hS=>?_) ?_
 ·go_simp
 refine tkS (g,6) (fun w' hS=>?_) ?_
 ·go_simp
 refine tkS (c.x.m,0) (fun w' hS=>?_) ?_
 ·have f1:=hS.1
  go_simp
 refine tkS (c.x.m,0) (fun w' hS=>?_) ?_
 ·go_simp
 refine tkS (c.x.m,1) (fun w' hS=>?_) ?_
 ·go_simp
 refine tkS (c.x.r,0) (fun w' hS=>?_) ?_
 ·have f1:=hS.2.1
  go_simp
 refine tkS (g,0) (fun w' hS=>?_) ?_
 ·go_simp
 refine tkS (g,0) (fun w' hS=>?_) ?_
 ·go_simp
 refine tkS (g,0) (fun w' hS=>?_) ?_
 ·go_simp
 refine tkS (stV t.words t.inner t.own t.freed t.outside t.surplus) (fun w' hS=>?_) ?_
 ·(obtain⟨_,_,f0,f1,f2,f3,f4,f5⟩:=hS;unfold stV)
  go_simp
 refine tkS ((),()) (fun w' hS=>?_) ?_
 ·go_simp
 refine z0k (by rfl) ?_;go_wp2_with fail
 refine Gf.out.mono ?_;rintro e W1⟨ks,hp,A,m,c1,rfl,hm,ho,hb⟩;have Gk:=hid (Gl.out.more_ hb);have Ge:Hid (Blw w W1):=hid ((Below.refl _ w).drew.trans hb);have G0:w.drew.heap.size<=W1.heap.size:=hb.size;have Gz:ks.length<=96:=by rw[hp.length_eq,Gw.out];exact hk
 have G5:m<=96:=by rw[hm];simpa[chW] using Gz
 have HP:=hid hp;have Gh:=hid ho;have G4:=hid hm;have Gj:=hid (YApS.of Gk.out);clear hp ho hm hb Gf Gi Gl;go_wp2_with fail
 refine⟨Gj.out,?_⟩;refine z0k (by rfl) ?_;refine z0m _ (.tmp 26) (.tmp 27) 118 rfl rfl w.drew.heap.size 117 i0 _ 2 16 Tryz.underlying118 Gy G1 G2 G3 rfl oM (.slice A m c1) m (z0a (chW D ks)) rfl Gh.out W1.heap.size none 0 0 [] rfl ⟨rfl,fun h=>absurd h oM⟩ (fun u hu=>by simp at hu) (by unfold maxLen;omega) oM G0 ?_;intro A3 n3 c3 w8 hn3 ho3 hg3 hb3;have Ga:Blw w w8:=Ge.out.trans hb3;have Gp:=hid Ga;have Gc:=hid (HX.out.more_ Ga);have Gv:=hid (YApS.of Gc.out);have Gd:∀o,o∈ks↔has D (kU o)=true:=fun o=>by rw[Gu.out o];exact HP.out.mem_iff
 have Gn:ks.Nodup:=HP.out.nodup_iff.2 Gt.out;rw[List.append_nil]at ho3;have Gb:∀e∈chW D ks,z3q c e.1/\e.2<18446744073709551616:=fun e he=>Gq.out.chW_good Gd he
 have Gg:=hid (y2f Gc.out.base.dev c.x.r Gc.out.base.sys.r A3 n3 c3 (chW D ks) (z0d.of_own ho3) (x9k Gn) (fun e he=>(Gb e he).1.r) (fun e he=>(Gb e he).2) oM Gs.out Gc.out.base.sys.tab (by have:=c.hpl;omega) oM);clear hn3 ho3 hg3 hb3 Ga Gh Gk Ge Gj Gd Gn Gb;refine⟨Gv.out,?_⟩;show wpList _ _ _ _ _ _;simp only[List.drop_succ_cons,List.drop_zero];go_wp2_with fail
 refine Gg.out.mono ?_;rintro e W9⟨cm,Gx,h9⟩;obtain⟨rfl,Gm⟩:=YStI.step Gc.out (Chg.of_below (S:=S) Gp.out) (Grew.refl _ _) h9;have Gr:=hid Gm;clear h9 Gm Gg;go_wp2;refine NoPanic.normal ?_;go_wp2;go_ret;exact⟨_,⟨ks,cm,HP.out,Gx,rfl⟩,rfl,Gr.out⟩
theorem x1m{c g w S t D n cur T}(h:YTxS c g w S t D n cur T){ws}(hl:LogU cur c.s1 ws)(hw:x0w c ws)(hT:T<=1000000):
  () 85 #[(g,0)] w (x3y c g w S t D n (YrbC c.s1 cur ws) (T+240) ()):=by
 have c6:w.cell? (g,6)=some (c.x.m,0):=h.tx.cell 6;have m0:w.cell? (c.x.m,0)=some (c.a.th 0,0):=h.base.sys.m.cell 0;have m2:w.cell? (c.x.m,2)=some (c.x.u,0):=h.base.sys.m.cell 2;have HE:=hid (z7q h.base.dev (j:=0) oM);have HR:=hid (y3s h.base.dev c.x.u h.base.sys.u ws hl hw oM);have HX:=hid h;clear h hl hw;go_enter Tryz.func85,Tryz.ntmps85
 go_wp2_with fail
 refine HE.out.mono ?_;rintro e w1⟨rfl,rfl⟩;go_wp2_with fail
 refine HR.out.mono ?_;intro e W1 h1;obtain⟨rfl,S1,Ga,Gc,Gd⟩:=HX.out.step h1;have Gf:=hid Ga;have HI:=hid (show YStI c g w W1 S t D n (YrbC c.s1 cur ws) (T+240)from⟨S1,Ga,Gc,Gd⟩);have k1:W1.cell? (g,1)=some (.map (some t.inner)):=Ga.tx.cell 1;have Gb:=hid (v3t W1 t.inner Ga.maps.inner);clear h1 Ga Gc Gd c6 m0 m2 HE HR;go_wp2_with fail
 refine(w1l _ _).mono ?_;rintro e w1⟨rfl,rfl⟩;go_wp2_with fail
 refine Gb.out.mono ?_;rintro e W5⟨⟨A5,c5,rfl⟩,hb5⟩;have hb:Blw W1 W5:=((Below.refl _ W1).alloc (nL _) _).trans (hb5.mono (by simp));have Ge:=hid (HI.out.below hb);clear hb hb5 Gb HI Gf k1;go_wp2_with fail
 refine wp_loop_rounds 1 ?_;rw[rounds_succ];go_wp2;go_ret;exact⟨rfl,Ge.out⟩
theorem y5q{c g w S t D n cur T}(h:YTxS c g w S t D n cur T)(hop:t.open_=true)(hmode:t.mode=2){ws}(hl:LogU cur c.s1 ws)(hw:x0w c ws)(hT:T<=1000000):
  () 22 #[(g,0)] w (y0q c g w S t (YrbC c.s1 cur ws) (T+240) ()):=by
 have c8:w.cell? (g,8)=some ↑true:=(h.tx.cell 8).trans (by simp[z1c,hop]);have c7:w.cell? (g,7)=some (.int .u8 2):=(h.tx.cell 7).trans (by simp[z1c,hmode]);have HR:=hid (x1m h hl hw hT);clear h hl hw hop hmode;go_enter Tryz.func22,Tryz.ntmps22
 go_wp2_with (first
  |(go_at_call 85;refine stop ?_)
  |go_in)
 unfold Stop;refine HR.out.mono ?_;rintro e W1⟨rfl,S1,Ge,Gc,Gd⟩;have Gb:=hid (x9l Ge);have Gi:Hid (Chg (YZC c g S) w W1):=hid (Gc.mono (fun _ h => .inl h));have Gg:=hid Gd;clear Ge Gc Gd HR c8 c7;go_wp2_with fail
 refine Gb.out.mono ?_;rintro e W2⟨rfl,Ga,Gf⟩;have Gh:=hid Ga;have Gj:=hid (Gi.out.trans (Gf.mono (T:=YZC c g S) (fun _ h => .inr h)) (Grew.refl _ _));have k6:W2.cell? (g,6)=some (c.x.m,0):=Ga.tx.cell 6;have m0:W2.cell? (c.x.m,0)=some (c.a.th 0,0):=Ga.base.sys.m.cell 0;have HE:=hid (z7q Ga.base.dev (j:=0) oM);clear Ga Gf Gb;go_wp2_with fail
 refine HE.out.mono ?_;rintro e w1⟨rfl,rfl⟩;go_wp2;go_ret;exact⟨S1,rfl,Gh.out,Gj.out,Gg.out⟩
theorem y5p{c g w S t D n cur T}(h:YTxS c g w S t D n cur T)(hop:t.open_=true)(hmode:t.mode=1):
  () 22 #[(g,0)] w (y0q c g w S t cur T ()):=by
 have c8:w.cell? (g,8)=some ↑true:=(h.tx.cell 8).trans (by simp[z1c,hop]);have c7:w.cell? (g,7)=some (.int .u8 1):=(h.tx.cell 7).trans (by simp[z1c,hmode]);have Gb:=hid (x9l h);clear h hop hmode;go_enter Tryz.func22,Tryz.ntmps22
 go_wp2_with (first
  |(go_at_call 86;refine stop ?_)
  |go_in)
 unfold Stop;refine Gb.out.mono ?_;rintro e W2⟨rfl,Ga,Gc⟩;have Gd:=hid Ga;have Ge:Hid (Chg (YZC c g S) w W2):=hid (Gc.mono (T:=YZC c g S) (fun _ h => .inr h));have k6:W2.cell? (g,6)=some (c.x.m,0):=Ga.tx.cell 6;have m0:W2.cell? (c.x.m,0)=some (c.a.th 0,0):=Ga.base.sys.m.cell 0;have HE:=hid (z7q Ga.base.dev (j:=0) oM);clear Ga Gc Gb;go_wp2_with fail
 refine HE.out.mono ?_;rintro e w1⟨rfl,rfl⟩;go_wp2;go_ret;exact⟨S,rfl,Gd.out,Ge.out,Grew.refl _ _⟩
end
section
open Go.RowKit Go.Maps
theorem v3x(cur:Nat->Nat){o k j}(h8:o%8=0)(hj:j<k):wrS cur (zerW o k) (o/8+j)=0:=by
 have hm:(o+8*j,0)∈zerW o k:=List.mem_map.2 ⟨j,List.mem_range.2 hj,rfl⟩;have hn:((zerW o k).map (·.1)).Nodup:=by
  unfold zerW;rw[List.map_map];have e:((fun u:Nat×Nat=>u.1)∘fun j=>(o+8*j,0))=fun j=>o+8*j:=rfl
  rw[e];exact(List.nodup_range (n:=k)).map _ (fun a b hab h2=>hab oM)
 have h1:=z5s (zerW o k) cur hn (fun x hx=>by
  obtain⟨j',_,rfl⟩:=z5t hx;show(o+8*j')%8=0;omega) (o+8*j,0) hm
 have e:(o+8*j)/8=o/8+j:=oM;rw[<- e];exact h1
section
variable{a:DA}{L T n K:Nat}{x:HA}{y:WA}{cs cs':Nat->CS}{f:Nat->Option Nat}{N m b0:Nat}{S:Fp}{cur cur':Nat->Nat}{w w':World}
theorem x2l{q k i}(ho:y5k 53 K cs f cur 4 cs' cur' k i)(hA:At 53 K cs' q k i):z2l cur' q (List.replicate 34 0):=fun j hj=>by
 rw[List.length_replicate]at hj;have hl:=hA.lines.2;have h4:pOff q=offO 53 cs' k i:=hA.2.2.2;have Ga:payW 4=60:=rfl;rw[List.getD_eq_getElem?_getD,List.getElem?_replicate,if_pos hj];show cur' (pOff q/8+j)=0;rcases ho.how with ⟨_,h⟩|⟨k0,_,_,_,_,h⟩<;>rw[h,<- h4,Ga]<;>exact v3x _ hl oM
structure RgS(a:DA)(L T K:Nat)(x:HA)(y:WA)(cs:Nat->CS)(f:Nat->Option Nat)(N m b0:Nat)(S:Fp)(cur:Nat->Nat)(q st:Nat)(l:List (List Nat×Nat))(w:World):Prop where
 bw:BW a L T K x y cs f N m b0 S cur w
 live:∃k i,x5y 53 K cs q 8 k i/\(cs k).cl=4
 words:z2l cur q (st::encA l)
 ok:LOk st l
 link:cur 416=q
theorem RgS.set{q m1 e}(h:BW a L T K x y cs f N m b0 S cur w)(hr:Rq 53 K cs f 8 q 4)(hw:z2l cur q (List.replicate 34 0))(hT:T+800<=1000000000)(hp:z6a a L T 53 (32*K) K x cs f N m b0 S cur w y.d y.r [(3328+8*0,q)] [q] [] m1 e w'):
  e=.returned ()/\∃cs3 f3 S3 cur3,RgS a L (T+800) K x y cs3 f3 (N+m1) (m-m1) b0 S3 cur3 q 0 [] w'/\Chg (sfp S x) w w'/\Grew S S3 w:=by
 obtain⟨ks,V,cm,S3,he,Gc,Gg,Gi,Gf,Ge,Ga,Gb⟩:=hp;obtain⟨⟨k,i,g1,g2⟩,g3⟩:=w2n (i:=0) (cm:=cm) h.sd.ds Gc Gg Gf (by decide) hr (List.mem_singleton.2 rfl) (by decide) (by rw[List.length_replicate];decide) hw;have Gh:=w6z (cm:=cm) (i:=0) h.sd.ds (v:=q) Gc (by decide) hr.keep.nz.2;have Gd:rdG 0 cur ([(3328+8*0,q)]++ks.flatMap (acW 53 cs (tlOf 53 cs [q]) (dlOf 53 cs []) V)) cm (8*26)=0:=by
  refine(z8x h.sd.ds oM Gc Gf (.inr oM) (fun e he=>?_) (fun k hk e he heq=>?_)).trans h.uid
  ·simp at he
   subst he;show(3328+8*0)/8≠_;omega
  ·obtain⟨_,h2,_,h4,_⟩:=Gc.at_ hk he
   have:=x4w h2;omega
 exact⟨he,_,_,S3,_,⟨h.keep Ge Ga Gb Gd,⟨k,i,g1,g2⟩,g3,LOk.nil,Gh⟩,Ga,Gb⟩
end
end
section
open Go.RowKit Go.Maps Go.Shelf
def YInC(c:YCX)(j:Nat):Prop:=j=c.x.r\/j=c.x.u\/j=c.x.h\/j=c.x.m\/j=c.x.gs\/j=c.x.pl\/j=c.x.mr\/j=c.x.mh
structure YCov(c:YCX)(g:Nat)(S:Fp)(t:TX)(Z:Fp):Prop where
 dev:∀j,S j->Z j
 one:∀j,j=g\/j=t.words\/j=t.inner\/j=t.own\/j=t.freed\/j=t.held\/j=t.cover->Z j
 sys:∀j,YInC c j->Z j
structure z4s(c:YCX)(g mode:Nat)(m:Nat->Nat)(f:YFm)(k:Nat)(B:Nat)(w:World)(S:Fp)(t:TX)(D:DataW Unit)(n:Nat)(cur base:Nat->Nat)(T:Nat)(ws:List (Nat×Nat)):Prop where
 tx:YTxS c g w S t D n cur T
 op:t.open_=true
 mo:t.mode=mode
 out:t.outside=false
 sur:t.surplus=false
 dr:z3t c mode base D f k
 n:n<=B
 T:T<=1000*B+1000
 redo:mode=1->cur=base
 undo:mode=2->z4i c cur base D ws
 tail:mode=2->(t.tail=↑((),())/\ws=[])\/y4d t.tail
 idle:base (8*c.s0)=0/\base (8*c.s1)=0
 bnd:∀i,base i<18446744073709551616
 few:k<=96
 agree:∀i,z4j c i->base i=m i
def z2n(c:YCX)(g mode:Nat)(m:Nat->Nat)(f:YFm)(k B:Nat)(Z:Fp)(w:World):Prop :=
 ∃S t D n cur base T ws,z4s c g mode m f k B w S t D n cur base T ws/\YCov c g S t Z/\∀j,Z j->j<w.heap.size
def z3z(c:YCX)(g mode:Nat)(m:Nat->Nat)(f:YFm)(k B:Nat)(Z:Fp)(w w':World):Prop:=∃Z',z2n c g mode m f k B Z' w'/\Chg Z w w'/\Grew Z Z' w
def YZN(Z:Fp)(w w':World):Fp:=fun j=>Z j\/(w<=j/\j<w')
theorem YZN.grew Z w w':Grew Z (YZN Z w w') w:=fun _ h=>h.imp id (fun h=>h.1)
theorem x9i{c:YCX}{w:World}{S Z Y:Fp}{lk:Bool}{last:Option Addr}{cur:Nat->Nat}{T:Nat}(h:z1y c w S lk last cur T)(hs:∀j,YInC c j->Z j)(hy:∀j,Y j->¬Z j/\c.b0<=j):z5v Y c:=by
 have Ga:∀j,YInC c j->¬Y j:=fun j hj h=>(hy j h).1 (hs j hj)
 have Gb:=h.low;refine⟨Ga _ ?_,Ga _ ?_,Ga _ ?_,Ga _ ?_,Ga _ ?_,Ga _ ?_,Ga _ ?_,Ga _ ?_,fun hh=>?_,fun hh=>?_⟩;iterate 8 (unfold YInC;simp)
 ·have:=(hy _ hh).2;omega
 ·have:=(hy _ hh).2;omega
section
variable{c:YCX}{g mode:Nat}{m:Nat->Nat}{f:YFm}{k B:Nat}{w w':World}{S:Fp}{t:TX}{D:DataW Unit}{n:Nat}{cur base:Nat->Nat}{T:Nat}{ws:List (Nat×Nat)}{Z:Fp}
theorem YCov.next(hl:∀j,Z j->j<w.heap.size)(hs:w.heap.size<=w'.heap.size):∀j,YZN Z w w' j->j<w'.heap.size:=fun j h=>h.elim (fun h=>Nat.lt_of_lt_of_le (hl j h) hs) (fun h=>h.2)
theorem YCov.same{S' t'}(h:YCov c g S t Z)(hx:YTxS c g w' S' t' D n cur T)(hS:Grew S S' w)(e:t'.words=t.words/\t'.inner=t.inner/\t'.own=t.own/\t'.freed=t.freed/\t'.held=t.held/\t'.cover=t.cover):YCov c g S' t' (YZN Z w w'):=by
 obtain⟨e1,e2,e3,e4,e5,e6⟩:=e;refine⟨fun j hj=>?_,fun j hj => .inl (h.one j ?_),fun j hj => .inl (h.sys j hj)⟩
 ·exact(hS j hj).elim (fun e => .inl (h.dev j e)) (fun e => .inr ⟨e,hx.base.dev.lt j hj⟩)
 ·rwa[e1,e2,e3,e4,e5,e6]at hj
theorem z4s.chg{Y:Fp}(h:z4s c g mode m f k B w S t D n cur base T ws)(hv:YCov c g S t Z)(hc:Chg Y w w')(hy:∀j,Y j->¬Z j/\c.b0<=j):z4s c g mode m f k B w' S t D n cur base T ws:=by
 have Ga:∀j,Z j->¬Y j:=fun j hz h=>(hy j h).1 hz
 have hx:=h.tx;exact { h with
  tx:={ hx with
   base:=hx.base.chg hc (fun k hk=>Ga k (hv.dev k hk)) (x9i hx.base hv.sys hy)
   tx:=hc.blk hx.tx (Ga _ (hv.one _ (.inl rfl)))
   maps:=hx.maps.chg hc ⟨Ga _ (hv.one _ (.inr (.inl rfl))),Ga _ (hv.one _ (.inr (.inr (.inl rfl)))),Ga _ (hv.one _ (.inr (.inr (.inr (.inl rfl))))),Ga _ (hv.one _ (.inr (.inr (.inr (.inr (.inl rfl)))))),Ga _ (hv.one _ (.inr (.inr (.inr (.inr (.inr (.inl rfl))))))),Ga _ (hv.one _ (.inr (.inr (.inr (.inr (.inr (.inr rfl)))))))⟩ } }
theorem z2n.chg{Y}(h:z2n c g mode m f k B Z w)(hc:Chg Y w w')(hy:∀j,Y j->¬Z j/\c.b0<=j):z2n c g mode m f k B Z w':=by
 obtain⟨S,t,D,n,Gb,Ga,T,ws,hi,hv,hl⟩:=h;exact⟨S,t,D,n,Gb,Ga,T,ws,hi.chg hv hc hy,hv,fun j hj=>Nat.lt_of_lt_of_le (hl j hj) hc.size⟩
theorem z2n.below(h:z2n c g mode m f k B Z w)(hb:Blw w w'):z2n c g mode m f k B Z w':=h.chg (Chg.of_below (S:=Fp.no) hb) (fun _ h=>h.elim)
theorem z2n.more{B'}(h:z2n c g mode m f k B Z w)(hB:B<=B'):z2n c g mode m f k B' Z w:=by
 obtain⟨S,t,D,n,Gb,Ga,T,ws,hi,hv,hl⟩:=h;exact⟨S,t,D,n,Gb,Ga,T,ws,{ hi with n:=Nat.le_trans hi.n hB,T:=by have:=hi.T;omega },hv,hl⟩
theorem x1a(base:Nat->Nat) o v:z8c 1 base o v=z2g v 0 false:=by simp[z8c]
theorem x1b(base:Nat->Nat) o v:z8c 2 base o v=z2g v (base (o/8)) true:=by simp[z8c]
end
theorem x1l{c g mode m f k B Z w}(h:z2n c g mode m f k B Z w)(hmo:mode=1\/mode=2)(o v:Nat)(ho:z3q c o)(hv:v<18446744073709551616)(hk:(f o).isSome=true\/k<95)(hB:B<=900):
  () 34 #[(g,()),o,v] w fun e w'=>e=.returned (.tuple #[])/\z3z c g mode m (f.put o v) (y7v f k o) (B+1) Z w w':=by
 obtain⟨S,t,D,n,Gf,Ga,T,ws,hi,Gc,hl⟩:=h;have hn:=hi.n;have hT:=hi.T;have Gl:Z g:=Gc.one _ (.inl rfl);have Ge:Z t.words:=Gc.one _ (.inr (.inl rfl));cases hf:f o with
 |some v0 =>
  have Gi:y7v f k o=k:=by simp[y7v,hf]
  have hD:=hi.dr.hasS hf;have Gd:=hi.dr.cell _ _ hf;have Gb:=hi.dr.put ho hv;rcases hmo with rfl|rfl
  ·rw[x1a]at Gd
   rw[x1a]at Gb;refine(y1u hi.tx hi.op o v ho.al ho.lt v0 hD Gd oM).mono ?_;rintro e w'⟨rfl,hx,hz⟩;exact⟨rfl,YZN Z w w',⟨S,t,_,_,Gf,Ga,T,ws,{ hi with tx:=hx,dr:=Gb,n:=oM,T:=oM,undo:=oM,tail:=oM,few:=by rw[Gi];exact hi.few },Gc.same hx (Grew.refl _ _) ⟨rfl,rfl,rfl,rfl,rfl,rfl⟩,YCov.next hl hz.size⟩,hz.mono (fun j hj=>hj▸Ge),YZN.grew _ _ _⟩
  ·have hu:=hi.undo rfl
   have Gg:=hi.dr.lenU hu hi.tx.maps.words;have Gp:=hi.few;rw[x1b]at Gd;rw[x1b]at Gb;refine(x6l hi.tx hi.op o v v0 _ ho.u hD Gd oM oM).mono ?_;rintro e w'⟨S',rfl,hx,hz,hg⟩;exact⟨rfl,YZN Z w w',⟨S',t,_,_,_,Ga,_,ws,{ hi with tx:=hx,dr:=Gb,n:=oM,T:=oM,redo:=oM,undo:=fun _=>hu.put_old hD hv oM,few:=by rw[Gi];exact hi.few },Gc.same hx hg ⟨rfl,rfl,rfl,rfl,rfl,rfl⟩,YCov.next hl hz.size⟩,hz.mono (fun j hj=>hj.elim (Gc.dev j) (fun h=>h▸Ge)),YZN.grew _ _ _⟩
 |none =>
  have hD:=hi.dr.none_ hf;have Gr:k<95:=hk.elim (fun h=>by rw[hf]at h;cases h) id;have Gq:y7v f k o=k+1:=by simp[y7v,hf]
  have Gb:=hi.dr.put ho hv;have Gs:=hi.dr.size;rcases hmo with rfl|rfl
  ·rw[x1a]at Gb
   refine(y1t hi.tx hi.op hi.mo o v ho.al ho.lt hD oM oM).mono ?_;rintro e w'⟨rfl,hx,hz⟩;exact⟨rfl,YZN Z w w',⟨S,t,_,_,Gf,Ga,T,ws,{ hi with tx:=hx,dr:=Gb,n:=oM,T:=oM,undo:=oM,tail:=oM,few:=by omega },Gc.same hx (Grew.refl _ _) ⟨rfl,rfl,rfl,rfl,rfl,rfl⟩,YCov.next hl hz.size⟩,hz.mono (fun j hj=>hj▸Ge),YZN.grew _ _ _⟩
  ·have hu:=hi.undo rfl
   have Gg:=hi.dr.lenU hu hi.tx.maps.words;have Gk:Gf (o/8)=Ga (o/8):=hu.rest _ ho.div.log (by rw[show 8*(o/8)=o by have:=ho.al;omega];exact hD);have Gm:o∉ws.map (·.1):=fun hm=>by rw[(hu.keys o).2 hm]at hD;cases hD
   have Gn:=hi.tail rfl;have Gj:=hu.put_new ho.u hD hv oM;rw[x1b]at Gb;have hc:=x6k hi.tx hi.op hi.mo Gn o v ho.u hD oM oM hu.log (fun e he=>by have:=(hu.off e he).lt;have:=c.hpl;omega) Gm oM hu.bnd oM;rw[Gk]at hc Gj;refine hc.mono ?_;rintro e w'⟨tl,S',rfl,hx,Gh,hz,hg⟩;exact⟨rfl,YZN Z w w',⟨S',_,_,_,_,Ga,_,_,{ hi with tx:=hx,op:=hi.op,mo:=hi.mo,dr:=Gb,out:=hi.out,sur:=hi.sur,n:=oM,T:=oM,redo:=oM,undo:=fun _=>Gj,tail:=fun _ => .inr Gh,few:=by omega },Gc.same hx hg ⟨rfl,rfl,rfl,rfl,rfl,rfl⟩,YCov.next hl hz.size⟩,hz.mono (fun j hj=>hj.elim (fun h=>h.elim (Gc.dev j) (fun h=>h▸Gl)) (fun h=>h▸Ge)),YZN.grew _ _ _⟩
theorem x6h{c g mode m f k B Z w}(h:z2n c g mode m f k B Z w)(hmo:mode=1\/mode=2) o (ho:z3q c o) :
  () 36 #[(g,0),o] w fun e w'=>e=.returned (Yvw f m (o/8))/\Blw w w':=by
 obtain⟨S,t,D,n,Gc,Gd,T,ws,hi,Gf,hl⟩:=h;have Ga:8*(o/8)=o:=by have:=ho.al;omega
 cases hf:f o with
 |some v0 =>
  have Ge:=hi.dr.cell _ _ hf;have Gb:Yvw f m (o/8)=v0:=by unfold Yvw;rw[Ga,hf];rfl
  rw[Gb];exact x1g hi.tx hi.op o v0 _ _ (by have:=ho.lt;have:=c.hpl;omega) (hi.dr.hasS hf) Ge
 |none =>
  have Gb:Yvw f m (o/8)=Gc (o/8):=by
   unfold Yvw;rw[Ga,hf];show m (o/8)=Gc (o/8);rw[<- hi.agree _ ho.div];rcases hmo with rfl|rfl
   ·rw[hi.redo rfl]
   ·exact((hi.undo rfl).rest _ ho.div.log (by rw[Ga];exact hi.dr.none_ hf)).symm
  rw[Gb];exact x1f hi.tx hi.op o ho.al ho.lt (hi.dr.none_ hf)
structure v2r(c:YCX)(g:Nat)(m:Nat->Nat)(B:Nat)(Z:Fp)(w:World)(S:Fp)(t:TX)(cur:Nat->Nat)(T:Nat):Prop where
 tx:YTxE c g w S t cur T
 T:T<=1000*B+1000
 idle:cur (8*c.s0)=0/\cur (8*c.s1)=0
 bnd:∀i,cur i<18446744073709551616
 agree:∀i,z4j c i->cur i=m i
 dev:∀j,S j->Z j
 lt:∀j,Z j->j<w.heap.size
def v4c(c:YCX)(g:Nat)(m:Nat->Nat)(B:Nat)(Z:Fp)(w:World):Prop:=∃S t cur T,v2r c g m B Z w S t cur T
def y5o(c:YCX)(g:Nat)(m:Nat->Nat)(B:Nat)(Z:Fp)(w w':World):Prop:=∃Z',v4c c g m B Z' w'/\Chg Z w w'/\Grew Z Z' w
theorem y0r{c g mode m m' f k B Z w w' S t D n cur base T ws}(_:z4s c g mode m f k B w S t D n cur base T ws)(hcv:YCov c g S t Z)(hl:∀j,Z j->j<w.heap.size)
  {cur' T' v e}(h:y0q c g w S t cur' T' v e w') (hT:T'<=1000*(B+1)+1000) (h0:cur' (8*c.s0)=0/\cur' (8*c.s1)=0) (hb:∀i,cur' i<18446744073709551616) (ha:∀i,z4j c i->cur' i=m' i):e=.returned v/\y5o c g m' (B+1) Z w w':=by
 obtain⟨S',rfl,hx,hz,hg⟩:=h;have Ga:Z g:=hcv.one _ (.inl rfl);refine⟨rfl,YZN Z w w',⟨S',t,cur',T',hx,hT,h0,hb,ha,fun j hj=>(hg j hj).elim (fun e => .inl (hcv.dev j e)) (fun e => .inr ⟨e,hx.base.dev.lt j hj⟩),YCov.next hl hz.size⟩,hz.mono (fun j hj=>?_),YZN.grew _ _ _⟩;rcases hj with hj|hj|hj
 ·exact hcv.dev j hj
 ·exact hj▸Ga
 ·exact hcv.sys j (by rw[hj];unfold YInC;simp)
theorem z4s.c0{c g m f k B w S t D n cur base T ws}(hi:z4s c g 2 m f k B w S t D n cur base T ws):cur (8*c.s0)=0:=by
 have hpl:=c.hpl;rw[(hi.undo rfl).rest (8*c.s0) (by unfold z2x;omega) (by
  cases hf:f (8*(8*c.s0))with
  |none=>exact hi.dr.none_ hf
  |some v=>have:=(hi.dr.good _ _ hf).1.out;omega)]
 exact hi.idle.1
theorem x1k{c g mode m f k B Z w}(h:z2n c g mode m f k B Z w)(hmo:mode=1\/mode=2)(hB:B<=900):
  () 22 #[(g,0)] w fun e w'=>e=.returned ()/\y5o c g m (B+1) Z w w':=by
 obtain⟨S,t,D,n,Gf,Gb,T,ws,hi,Ga,hl⟩:=h;have hT:=hi.T;have hpl:=c.hpl;rcases hmo with rfl|rfl
 ·have Gc:=hi.redo rfl
  subst Gc;exact(y5p hi.tx hi.op hi.mo).mono (fun e w' hr=>y0r hi Ga hl hr oM hi.idle hi.bnd hi.agree)
 ·have hu:=hi.undo rfl
  have Ge:=hi.dr.lenU hu hi.tx.maps.words;have Gd:=hi.few;refine(y5q hi.tx hi.op hi.mo hu.log ⟨hu.off,hu.val,oM⟩ oM).mono (fun e w' hr=>y0r hi Ga hl hr oM ⟨?_,(w4h hu.log).count⟩ hu.rbnd (fun i hi'=>(hu.back hi'.log).trans (hi.agree i hi')));rw[hu.back (show z2x c (8*c.s0) by unfold z2x;omega)];exact hi.idle.1
theorem y8f{c f base m}(h:∀i,z4j c i->base i=m i){i}(hi:z4j c i):Yvw f base i=Yvw f m i:=by
 unfold Yvw;rw[h i hi]
theorem y8c{c g mode m f k B Z w}(h:z2n c g mode m f k B Z w)(hmo:mode=1\/mode=2)(hB:B<=900):
  () 25 #[(g,0)] w fun e w'=>e=.returned ()/\y5o c g (Yvw f m) (B+1) Z w w':=by
 obtain⟨S,t,D,n,Gd,Gf,T,ws,hi,Ge,hl⟩:=h;have hT:=hi.T;have Gm:=hi.dr.size;have Gi:=hi.few;have hpl:=c.hpl;rcases hmo with rfl|rfl
 ·have Gg:=hi.redo rfl
  subst Gg;have hw:=hi.tx.maps.words;refine(y7y (fun Ga=>∃ks cm,ks.Perm (z2w D)/\cm<18446744073709551616/\Ga=rdG c.s0 Gd (chW D ks) cm) hi.tx hi.op hi.out hi.sur oM oM (T':=T+800) (fun S5 W5 hx5=>x0y hx5 hi.mo hi.dr hi.few hi.idle.1 oM)).mono ?_;rintro e w'⟨Ga,⟨ks,cm,hp,Gc,rfl⟩,hr⟩;have Gb:∀o,o∈ks↔has D (kU o)=true:=fun o=>by rw[y6p hw o];exact hp.mem_iff
  have Gl:ks.Nodup:=hp.nodup_iff.2 (z5q hw);have Gj:ks.length<=96:=by rw[hp.length_eq,z7c hw];omega
  have Gh:(chW D ks).length<=96:=by simp[chW];omega
  have hg:∀e∈chW D ks,z3q c e.1:=fun e he=>(hi.dr.chW_good Gb he).1
  refine y0r hi Ge hl hr oM ⟨x5h hi.idle.1,?_⟩ (w2q hi.bnd (fun e he=>⟨by have:=(hg e he).lt;omega,(hi.dr.chW_good Gb he).2⟩) Gc) (fun i hi'=>(hi.dr.curR Gb Gl Gj hi').trans (y8f hi.agree hi'));rw[y8d Gh (.inr rfl) (fun e he hc=>by have:=(hg e he).div;unfold z4j at this;omega)];exact hi.idle.2
 ·have hu:=hi.undo rfl
  have Gk:=hi.dr.lenU hu hi.tx.maps.words;refine(y7y (fun Ga=>Ga=YcmC c.s1 Gd ws) hi.tx hi.op hi.out hi.sur oM oM (T':=T+480) (fun S5 W5 hx5=>(x0z hx5 hi.mo hu.allIn hu.log ⟨hu.off,hu.val,oM⟩ oM hu.bnd).mono (fun e w' hr=>⟨_,rfl,hr⟩))).mono ?_;rintro e w'⟨Ga,rfl,hr⟩;have Gc:∀i,i≠8*c.s1->YcmC c.s1 Gd ws i=Gd i:=fun i hne=>by
   unfold YcmC;split
   ·rfl
   ·rw[z3m,if_neg oM]
  refine y0r hi Ge hl hr oM ⟨by rw[Gc _ oM];exact hi.c0,?_⟩ (fun i=>?_) (fun i hi'=>by
   rw[Gc i (by unfold z4j at hi';omega),hi.dr.curU hu hi'];exact y8f hi.agree hi')
  ·unfold YcmC
   split
   ·rename_i h0
    have:=hu.log.count;rw[h0]at this;exact this
   ·rw[z3m,if_pos oM]
  ·by_cases h2:i=8*c.s1
   ·subst h2
    unfold YcmC;split
    ·exact hu.bnd _
    ·rw[z3m,if_pos oM]
     omega
   ·rw[Gc i h2];exact hu.bnd i
theorem x9q{c w S last cur m T B Z}(hb:z1y c w S false last cur T)(hT:T<=1000*B+1000)(hid:cur (8*c.s0)=0/\cur (8*c.s1)=0)(hbn:∀i,cur i<18446744073709551616)(ha:∀i,z4j c i->cur i=m i)(hd:∀j,S j->Z j)(hs:∀j,YInC c j->Z j)(hl:∀j,Z j->j<w.heap.size) mode (hmo:mode=1\/mode=2) :
  () 17 #[(c.x.m,0),[[mode]]] w fun e w'=>∃g,e=.returned (.tuple #[(g,0),()])/\z3z c g mode m YFm.no 0 B Z w w':=by
 refine(w4f hb mode hmo).mono ?_;rintro e w'⟨g,t,rfl,hf,hx,hz,Gb⟩;refine⟨g,rfl,YZN Z w w',⟨S,t,_,0,cur,cur,T,[],{ tx:=hx,op:=hf.open_,mo:=hf.mode,out:=hf.outside,sur:=hf.surplus,dr:=z3t.start _ _,n:=Nat.zero_le _,T:=hT,redo:=fun _=>rfl,undo:=fun _=>z4i.start hid.2 hbn,tail:=fun _ => .inl ⟨hf.tail,rfl⟩,idle:=hid,bnd:=hbn,few:=Nat.zero_le _,agree:=ha },⟨fun j hj => .inl (hd j hj),fun j hj=>?_,fun j hj => .inl (hs j hj)⟩,YCov.next hl hz.size⟩,hz.mono (fun j hj=>hs j (by unfold YInC;rcases hj with h|h<;>simp[h])),YZN.grew _ _ _⟩;obtain⟨n1,n2,n3,n4,n5,n6,n7⟩:=Gb;have Ga:=hx.maps;rcases hj with rfl|rfl|rfl|rfl|rfl|rfl|rfl
 ·exact .inr ⟨n1,hx.tx.lt⟩
 ·exact .inr ⟨n2,Ga.words.lt⟩
 ·exact .inr ⟨n3,Ga.inner.lt⟩
 ·exact .inr ⟨n4,Ga.own.lt⟩
 ·exact .inr ⟨n5,Ga.freed.lt⟩
 ·exact .inr ⟨n6,Ga.held.lt⟩
 ·exact .inr ⟨n7,Ga.cover.lt⟩
end
end Go.Proofs.YtmhbokcccjmfgaaGreatDoor
