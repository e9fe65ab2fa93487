/- part 26 -/
import Derived.Test.YtmhbokcccjmfgaaGreatDoorQay
set_option maxRecDepth 100000
set_option maxHeartbeats 16000000
namespace Go.Proofs.YtmhbokcccjmfgaaGreatDoor
open Go.Lib (hid)
section
open Go.RowKit Go.Maps
theorem v0z{w:World}{g q:Nat}(h:Blk w g 64 #[q]):z0d w w 1 (some (g,())) 1 (z0g [q]):=by
 refine⟨rfl,fun _=>⟨_,rfl,h.lt,fun j u hu=>?_⟩⟩;rw[add_plain,Nat.zero_add,h.cell];have hj:j<1:=(List.getElem?_eq_some_iff.1 hu).1;obtain rfl:j=0:=oM;exact hu
theorem x3k{a L T n K x cs f N m b0 S cur w d r}(h:SD a L T 53 n K x cs f N m b0 S cur w d r){i}(hi:sfp S x i):b0<=i:=by
 obtain⟨_,_,_,_,l5,l6,l7,l8⟩:=h.ds.lo;rcases hi with e|e
 ·exact l8 i e
 ·rcases e with e|e|e<;>rw[e]<;>assumption
theorem RgS.below{a L T K x y cs f N m b0 S cur q st l w w'}(h:RgS a L T K x y cs f N m b0 S cur q st l w)(hb:Blw w w'):RgS a L T K x y cs f N m b0 S cur q st l w':={ h with bw:=h.bw.below hb }
def w8p(w:World)(e:Ending)(w':World):Prop:=∃a T x y cs f N m S cur q gr,e=.returned (.tuple #[(y.g,0),(gr,0)])/\RgS a 149 T 3 x y cs f N m w.heap.size S cur q 0 [] w'/\Blk w' gr 202 #[q]/\¬sfp S x gr/\q<18446744073709551616/\T<=3000/\N<=10/\Blw w w'
section
variable{w:World}
theorem x1y(ht:Tab w)(hpy:Pay w):Calls Tryz.prog 29 #[] w (w8p w):=by
 have G4:=hid (x6q 3 (by decide) (by decide) w ht hpy);clear ht hpy;go_enter Tryz.func29,Tryz.ntmps29
 go_wp2_with (go_at_call 16;refine G4.out.mono ?_;rintro e w1⟨a,T,x,y,S,rfl,G7,hT,hb⟩;have Ge:=hid G7;have HT:=hid hT;have HB:=hid hb;clear G7 hT hb;refine stop ?_)
 unfold Stop;have g3:w1.cell? ⟨y.g,3,none⟩=some (.pointer (some ⟨y.d,0,none⟩)):=Ge.out.blk.cell 3;have G5:=hid (x0f Ge.out.sd (by decide) (by have:=HT.out;omega) (.inr ⟨0,by decide,rfl⟩));go_upto_region 5 with (go_at_call 103;refine G5.out.mono ?_;rintro e w2⟨k,i,S2,Gx,Gj,g2,rfl,GC,Gn,hk,GA,Gz,Gf⟩;refine stop ?_)
 unfold Stop;have Gb:y5k 53 3 (fun _=>csN) (fun _=>none) (curB 3) 4 Gx Gj k i:=GC;obtain⟨Gg,Gy⟩:=Rq.new Gn.ds (kind:=8) ⟨by decide,by decide⟩ Gb rfl;have G0:=x2l Gb Gy;have GD:Gj (8*26)=0:=((Fr.alloc (v:=fptr 53 Gx 8 k i) Ge.out.sd.ds (by decide) Gb).head _ oM).trans Ge.out.uid;have Ga:=Ge.out.keep Gn Gz Gf GD;obtain⟨q,hq⟩:∃q,fptr 53 Gx 8 k i=q:=⟨_,rfl⟩
 rw[hq]at Gg Gy G0 hk Ga Gn⊢;have Gd:=Gg.keep.nz.2;have G6:=hid (v1l Gn (by decide) y.g 0 q (by decide) Gd (some ⟨g2,0,none⟩) 1 1 [q] (v0z hk) (fun ad h=>by injection h with h;subst h;exact GA) (fun p hp=>by
  rw[List.mem_singleton.1 hp];exact Gg.keep) (by simp) (by simp) (by have:=HT.out;omega) (by decide))
 have Gw:Hid (Calls Tryz.prog 19 #[.pointer (some ⟨y.g,0,none⟩),.iface 58 (.pointer (some ⟨y.d,0,none⟩)),.int .i64 0,.int .u64 q,.slice (some ⟨g2,0,none⟩) 1 1] w2 fun e w3=>e=.returned (.int .i64 0)/\∃Gp f3 S3 Gc,RgS a 149 (T+400+800) 3 x y Gp f3 (0+1+1) (0+1-1) w.heap.size S3 Gc q 0 [] w3/\Chg (sfp S2 x) w2 w3/\Grew S2 S3 w2):=hid (G6.out.mono (fun e w' h=>RgS.set Ga Gg G0 (by have:=HT.out;omega) h));have G3:=hid (HB.out);have Gq:=hid Ga;have Gh:=hid Gd;have Gs:=hid Gz;have Gt:=hid Gf;have f3:w2.cell? ⟨y.g,3,none⟩=some (.pointer (some ⟨y.d,0,none⟩)):=Ga.blk.cell 3;have fk:w2.cell? ⟨g2,0,none⟩=some (.int .u64 q):=hk.cell 0;have GG:Hid (∀W,Calls Tryz.prog 104 #[.int .u64 q] W fun e w'=>e=.returned (.int .u8 8)/\W=w'):=hid (fun W=>by
  have h1:=y1b q W;rw[Gg.kind_]at h1;exact h1)
 have d3:((q:Int) != (q:Int))=false:=by rw[bne,beq_self_eq_true];rfl
 clear GC Gb Gg Gy G0 GD Ga hq Gd Gn hk GA Gz Gf G6 G5 g3 G4;go_upto_region 7 with (first
  |(go_at_call 104;refine(GG.out _).mono ?_;rintro e w9⟨rfl,rfl⟩)
  |(go_at_call 19;refine Gw.out.mono ?_;rintro e w3⟨rfl,Gp,GI,S3,Gc,GB,Gl,Gm⟩;have Gi:=hid GB;have Gr:=hid Gl;have GF:=hid Gm;clear GB Gl Gm))
 have GK:w3.cell? ⟨y.g,3,none⟩=some (.pointer (some ⟨y.d,0,none⟩)):=Gi.out.bw.blk.cell 3;have Gu:=hid (x8m Gi.out.bw.sd q Gh.out);have G8:chkR 53 3 Gp q 8=0:=by
  obtain⟨k',i',h1,_⟩:=Gi.out.live;exact(Live.chk ⟨k',i',h1⟩).1
 rw[G8]at Gu;have Gv:Hid (Calls Tryz.prog 32 #[.iface 58 (.pointer (some ⟨y.d,0,none⟩)),.int .u64 q] w3 fun e w'=>(∃gr:Nat,w3.heap.size<=gr/\e=.returned (.tuple #[.pointer (some ⟨gr,0,none⟩),.int .i64 0])/\Blk w' gr 202 #[.int .u64 q])/\Blw w3 w'):=Gu;clear f3 fk Gu G8 d3;go_wp2_with (go_at_call 32;refine Gv.out.mono ?_;rintro e w4⟨⟨gr,Gf,rfl,G9⟩,hb4⟩;have GE:=hid Gf;have GH:=hid G9;have G2:=hid hb4;clear Gf G9 hb4)
 go_ret2;have GJ:=Gq.out.sd;have Gk:Blw w w3:=by
  have h1:=Gs.out.trans Gr.out (fun j hj=>by
   rcases hj with hj|hj
   ·rcases Gt.out j hj with h|h
    ·exact .inl (.inl h)
    ·exact .inr h
   ·exact .inl (.inr hj))
  exact G3.out.trans (h1.toBelow G3.out.size (fun j hj=>x3k Ge.out.sd hj))
 have G1:=Gk.size;refine⟨a,T+400+800,x,y,Gp,GI,0+1+1,0+1-1,S3,Gc,q,gr,rfl,Gi.out.below G2.out,GH.out,fun hz=>?_,Gh.out,by have:=HT.out;omega,by decide,Gk.trans (G2.out.mono G1)⟩;have h1:=w8j Gi.out.bw.sd hz;have h2:=GE.out;omega
end
end
section
open Go.RowKit Go.Maps
section
variable{a:DA}{L T K:Nat}{x:HA}{y:WA}{cs:Nat->CS}{f:Nat->Option Nat}{N m b0:Nat}{S:Fp}{cur:Nat->Nat}{q st:Nat}{l:List (List Nat×Nat)}{w w':World}
theorem RgS.pay(h:RgS a L T K x y cs f N m b0 S cur q st l w)(hL:64*L<=900000):w3r L 53 K cs q:=by
 obtain⟨k,i,h1,h2⟩:=h.live;exact w6o h.bw.sd.ds h1 h2 hL
theorem RgS.chk(h:RgS a L T K x y cs f N m b0 S cur q st l w):chkR 53 K cs q 8=0:=by
 obtain⟨k,i,h1,_⟩:=h.live;exact(Live.chk ⟨k,i,h1⟩).1
theorem RgS.lo(h:RgS a L T K x y cs f N m b0 S cur q st l w):3400<=pOff q/\q<18446744073709551616:=by
 obtain⟨k,i,h1,_⟩:=h.live;have:=h1.at_.lo;exact⟨oM,h1.lt⟩
theorem RgS.rgR(h:RgS a L T K x y cs f N m b0 S cur q st l w):rgR cur (fun p=>chkR 53 K cs p 8) q=(some (st,l),0):=by
 have Ga:=z6s h.ok.len (fun p hp=>(h.ok.by_ p hp).1);have hw:rgW cur (pOff q/8+1)=encA l:=by
  unfold rgW;apply List.ext_getElem
  ·rw[List.length_map,List.length_range,Ga]
  ·intro j h1 h2
   rw[List.getElem_map,List.getElem_range];have h3:=h.words (j+1) (by rw[List.length_cons];omega);rw[show pOff q/8+1+j=pOff q/8+(j+1) by omega,h3,List.getD_eq_getElem?_getD,List.getElem?_cons_succ,List.getElem?_eq_getElem h2];rfl
 have h0:cur (pOff q/8)=st:=h.words 0 (by rw[List.length_cons];omega);show(if chkR 53 K cs q 8≠0 then (none,12)else match decA (rgW cur (pOff q/8+1))with
  |none=>(none,11)
  |some l=>if sndP (cur (pOff q/8)) l=true then (some (cur (pOff q/8),l),0)else (none,11))=_
 rw[if_neg (fun hn=>hn h.chk),hw,y6i h.ok.len h.ok.by_,h0];show(if sndP st l=true then (some (st,l),0)else (none,11))=_;rw[if_pos h.ok.snd]
theorem RgS.rd(h:RgS a L T K x y cs f N m b0 S cur q st l w)(hL:64*L<=900000){g}(hg:Blk w g 202 #[q]):RdC (g,0) (58,y.d,0) w (some (st,l),0):=by
 have hp:=h.pay hL;have h1:=y5a h.bw.sd g q hg h.lo.2 (fun _=>⟨hp.ne,hp.al,hp.inl⟩);rw[h.rgR]at h1;exact h1
theorem RgS.rgOk(h:RgS a L T K x y cs f N m b0 S cur q st l w):RgOk (some (st,l),0):=by
 have h1:=Go.Proofs.YtmhbokcccjmfgaaGreatDoor.rgOk cur (fun p=>chkR 53 K cs p 8) q;rw[h.rgR]at h1;exact h1
theorem RgS.list(h:RgS a L T K x y cs f N m b0 S cur q st l w)(hL:64*L<=900000){l'}(hok:LOk st l'){e}(hp:x6b a L T 53 (32*K) K x cs f N m b0 S cur w y.d y.r (flW cur (plOf (pOff q+8) (encA l'))) e w'):
  e=.returned ()/\∃S' cur',RgS a L (T+800) K x y cs f N m b0 S' cur' q st l' w'/\Chg (sfp S x) w w'/\Grew S S' w:=by
 obtain⟨cm,S',he,Gg,Ge,Gc,Gd⟩:=hp;have hP:=h.pay hL;have Gh:=h.lo.1;have Gf:=hP.al;have hv:∀v∈encA l',v<18446744073709551616:=y0v hok.len (fun p hp=>⟨(hok.by_ p hp).1,(hok.by_ p hp).2,by have h1:=(hok.nm p hp).2;have h2:=hok.top;omega⟩);have hu:=hP.uok _ hv;have h8:(pOff q+8)%8=0:=oM;have Gb:=z6s hok.len (fun p hp=>(hok.by_ p hp).1);have Ga:=fun i hi ho=>w6w (cm:=cm) (cur:=cur) (xs:=encA l') h8 (i:=i) hi ho
 refine⟨he,S',_,⟨h.bw.keep Ge Gc Gd ?_,h.live,fun j hj=>?_,hok,?_⟩,Gc,Gd⟩
 ·rw[Ga (8*26) oM (.inl oM)]
  exact h.bw.uid
 ·rw[List.length_cons,Gb]at hj
  rcases j with _|j
  ·rw[Nat.add_zero,Ga _ oM (.inl oM)]
   exact h.words 0 (by rw[List.length_cons];omega)
  ·have h1:=w6v (cm:=cm) (cur:=cur) hu h8 (j:=j) oM
   rw[show pOff q/8+(j+1)=(pOff q+8)/8+j by omega,h1,List.getD_cons_succ]
 ·rw[Ga 416 oM (.inl oM)]
  exact h.link
theorem RgS.next(h:RgS a L T K x y cs f N m b0 S cur q st l w)(hs:st<4611686018427387903){e}(hp:x6b a L T 53 (32*K) K x cs f N m b0 S cur w y.d y.r [(pOff q,st+1)] e w')(hal:pOff q%8=0)(hin:pOff q<64*L):
  e=.returned ()/\∃S' cur',RgS a L (T+800) K x y cs f N m b0 S' cur' q (st+1) l w'/\Chg (sfp S x) w w'/\Grew S S' w:=by
 obtain⟨cm,S',he,Gf,Ge,Gc,Gd⟩:=hp;have Gg:=h.lo.1;have Ga:∀i,208<=i->i≠pOff q/8->rdG 0 cur [(pOff q,st+1)] cm i=cur i:=fun i hi ho=>y1e (by simp) (.inr oM) (fun e he heq=>by
  have e1:=List.mem_singleton.1 he;subst e1;exact ho heq.symm)
 have Gb:rdG 0 cur [(pOff q,st+1)] cm (pOff q/8)=st+1:=y7c (L:=L) (e:=(pOff q,st+1)) (fun e he=>by
  have e1:=List.mem_singleton.1 he;subst e1;exact⟨hal,hin,.inr (by show 64*0+64*26<=pOff q;omega)⟩) (by simp) (List.mem_singleton.2 rfl)
 refine⟨he,S',_,⟨h.bw.keep Ge Gc Gd ?_,h.live,fun j hj=>?_,h.ok.next hs,?_⟩,Gc,Gd⟩
 ·rw[Ga (8*26) oM oM]
  exact h.bw.uid
 ·rcases j with _|j
  ·exact Gb
  ·have h1:=h.words (j+1) (by rw[List.length_cons]at hj⊢;exact hj)
   rw[Ga _ oM oM,h1];rfl
 ·rw[Ga 416 oM oM]
  exact h.link
end
end
section
open Go.RowKit Go.Maps Go.Shelf
theorem y5w w g b cs (hB:Blk w g 150 cs) (h11:cs[11]?=some (.map (some b))) (ho:w.ownsMap Tryz.prog 32 oneR b 0 (.map [])) :
  () 119 #[(g,0)] w fun e w'=>e=.returned (.tuple #[])/\Blw w w':=by
 have Ga:w.cell? (g,11)=some (.map (some b)):=(hB.cell 11).trans h11;have HM:=hid (ho.alloc (.cells #[(g,0)] 31));have Gb:g<w:=hB.lt;have HB:=hid ((Below.refl _ w).alloc (nL _) (.cells #[(g,0)] 31));clear hB ho h11;go_enter Tryz.func119,Tryz.ntmps119
 go_wp2_with (first
  |(at_range;refine wpList_range_own _ rfl _ 143 rfl 32 173 z1g Tryz.underlying143 _ b 0 (.map []) rfl HM.out ?_;intro w0 hrg0 hg0 hs0;have HR:=hid hrg0;have HG:=hid (HB.out.grown hg0 HB.out.size (fun k e=>by cases e));clear hrg0 hg0 hs0)
  |go_in)
 refine wp_loop_rounds 1 ?_;rw[rounds_succ];go_wp2_with (first
  |(at_next;refine wpList_next_ranges _ rfl _ rfl 32 z1g oneR encW id (fun key kl hk=>by obtain⟨x,hx,_⟩:=z1h Tryz.underlying32 hk;exact⟨x,hx⟩) (fun v _ _=>⟨v,rfl⟩) b _ 0 _ _ _ rfl HR.out ?_ ?_)
  |go_in)
 ·intro _ _
  go_wp2;go_end0;exact⟨rfl,HG.out⟩
 ·intro x c kl yd yp w2 cnt2 hkey hlk
  exact absurd (show(false:Bool)=true from hlk) (by decide)
theorem w4j{c g w S t D n cur T}(h:YTxS c g w S t D n cur T)(hop:t.open_=true):
  () 40 #[(g,0)] w fun e w'=>e=.returned true/\w=w':=by
 have c8:w.cell? (g,8)=some ↑true:=(h.tx.cell 8).trans (by simp[z1c,hop]);clear h hop;go_enter Tryz.func40,Tryz.ntmps40
 go_wp2;go_ret;exact⟨rfl,rfl⟩
def w4d(c:YCX)(f:YFm):Prop:=∀o v,f o=some v->∀k,k<c.K->8*(c.s+32*k)<=o/8->o/8<8*(c.s+32*k)+256->(c.cs k).dv=true/\¬z8q (c.s+32*k) (c.cs k).cl (o/8)
structure YCok(c:YCX)(m:Nat->Nat):Prop where
 ok:∀k,k<c.K->CSok m (c.s+32*k) (c.cs k)
 res:∀o p,c.f o=some p->x3w c.s c.K c.cs o p
section
variable{c:YCX}{g mode:Nat}{m:Nat->Nat}{f:YFm}{k B:Nat}{w w':World}{S:Fp}{t:TX}{D:DataW Unit}{n:Nat}{cur base:Nat->Nat}{T:Nat}{ws:List (Nat×Nat)}{Z:Fp}
theorem z4s.at_(hi:z4s c g mode m f k B w S t D n cur base T ws)(hmo:mode=1\/mode=2){i}(hb:z4j c i)(hf:f (8*i)=none):cur i=m i:=by
 rcases hmo with rfl|rfl
 ·rw[hi.redo rfl];exact hi.agree i hb
 ·rw[hi.dr.curU (hi.undo rfl) hb]
  unfold Yvw;rw[hf];exact hi.agree i hb
theorem z4s.curb(hi:z4s c g mode m f k B w S t D n cur base T ws)(hmo:mode=1\/mode=2) i:cur i<18446744073709551616:=by
 rcases hmo with rfl|rfl
 ·rw[hi.redo rfl];exact hi.bnd i
 ·exact(hi.undo rfl).bnd i
theorem YCok.same{m'}(h:YCok c m)(hf:w4d c f)(he:∀i,z4j c i->f (8*i)=none->m' i=m i):YCok c m':=by
 refine⟨fun k hk=>(h.ok k hk).same fun i h1 h2 h3=>?_,h.res⟩;have hpl:=c.hpl;refine he i (by unfold z4j;omega) ?_;cases hfi:f (8*i)with
 |none=>rfl
 |some v =>
  have h4:=hf _ v hfi k hk oM oM;rw[show 8*i/8=i by omega]at h4;exact absurd (h3 h4.1) h4.2
theorem z1y.ds{lk last}(h:z1y c w S lk last cur T)(hc:YCok c cur)(hb:∀i,cur i<18446744073709551616):DS c.a c.L T c.s c.n c.K (c.x.hh lk) c.cs c.f c.N c.k c.b0 S cur w:=by
 obtain⟨n1,n2,n3,n4,n5,n6,n7,n8⟩:=h.news;have hpl:=c.hpl;exact⟨h.dev,h.sys.hs,hc.ok,hb,hc.res,h.sys.tab,h.sys.pay,⟨h.low.1,h.low.2,n3,n5,n6,n7,n8,h.old⟩,⟨h.apart.h,h.apart.gs,h.apart.pl,h.apart.mr,h.apart.mh⟩,oM⟩
theorem z4s.ds(hi:z4s c g mode m f k B w S t D n cur base T ws)(hmo:mode=1\/mode=2)(hc:YCok c m)(hf:w4d c f):DS c.a c.L T c.s c.n c.K (c.x.hh true) c.cs c.f c.N c.k c.b0 S cur w :=
 hi.tx.base.ds (hc.same hf (fun i hb hn=>hi.at_ hmo hb hn)) (hi.curb hmo)
theorem x1r(h:z2n c g mode m f k B Z w):
  () 141 #[(g,0)] w fun e w'=>e=.returned ()/\w=w':=by
 obtain⟨S,t,D,n,Gb,Ga,T,ws,hi,hv,hl⟩:=h;have HE:=hid (y1v hi.tx);rw[show y8a t=0 by simp[y8a,hi.out,hi.sur]]at HE;have HO:=hid (w4j hi.tx hi.op);clear hi;go_enter Tryz.func141,Tryz.ntmps141
 go_wp2_with (first
  |(go_at_call 40;refine HO.out.mono ?_;rintro e w1⟨rfl,rfl⟩)
  |(go_at_call 50;refine HE.out.mono ?_;rintro e w1⟨rfl,rfl⟩))
 go_ret;exact⟨rfl,rfl⟩
theorem z6q(h:z2n c g mode m f k B Z w):
  () 50 #[(g,0)] w fun e w'=>e=.returned ()/\w=w':=by
 obtain⟨S,t,D,n,Gb,Ga,T,ws,hi,hv,hl⟩:=h;have HE:=y1v hi.tx;rw[show y8a t=0 by simp[y8a,hi.out,hi.sur]]at HE;exact HE
theorem x6n(h:z2n c g mode m f k B Z w):
  () 206 #[(g,0)] w fun e w'=>e=.returned (64*c.L:Nat)/\w=w':=by
 obtain⟨S,t,D,n,Gc,base,T,ws,hi,hv,hl⟩:=h;have c6:w.cell? (g,6)=some (c.x.m,0):=hi.tx.tx.cell 6;have m0:w.cell? (c.x.m,0)=some (c.a.th 0,0):=hi.tx.base.sys.m.cell 0;obtain⟨ls,Gd,Gf,cs,Ge,Ga,Gb⟩:=hi.tx.base.dev;obtain⟨f0,f2,_,_,f4⟩:=Ga.facts (j:=0) oM;have hL:=c.hpl;have u1:IntKind.u64.wrap (c.L:Int)=(c.L:Int):=by rw[IntKind.wrap_u64];omega
 have u2:IntKind.u64.wrap ((c.L:Int)*64)=((64*c.L:Nat):Int):=by rw[IntKind.wrap_u64];omega
 clear Ga Gb hi;go_enter Tryz.func206,Tryz.ntmps206
 go_wp2;go_ret;exact⟨by first|rfl|(rw[u1,u2]),rfl⟩
end
end
section
open Go.RowKit Go.Maps
def tkL(nm:ByteArray)(st:Nat)(l:List (List Nat×Nat)):List (List Nat×Nat):=if (tkR nm (some (st,l),0)).1.2=0 then (tkR nm (some (st,l),0)).2 else l
def dpL(nm:ByteArray)(st:Nat)(l:List (List Nat×Nat)):List (List Nat×Nat):=if (drpR nm (some (st,l),0)).1=0 then (drpR nm (some (st,l),0)).2 else l
theorem w8k{nm st l}(h:(tkR nm (some (st,l),0)).1.2=0):nmOk nm=true/\fndS nm 0 l<0/\l.length≠8/\tkR nm (some (st,l),0)=((st,0),l++[(z1d nm,st)]):=by
 cases hn:nmOk nm with
 |false =>
  unfold tkR at h;rw[if_pos hn]at h;exact absurd h (by decide)
 |true =>
  have e:tkR nm (some (st,l),0)=if 0<=fndS nm 0 l then ((0,6),[])else if l.length=8 then ((0,4),[])else ((st,0),l++[(z1d nm,st)]):=by
   unfold tkR;rw[if_neg (by rw[hn];decide)]
  rw[e]at h⊢;by_cases hf:0<=fndS nm 0 l
  ·rw[if_pos hf]at h
   exact absurd h (by decide)
  ·rw[if_neg hf]at h⊢
   by_cases h8:l.length=8
   ·rw[if_pos h8]at h
    exact absurd h (by decide)
   ·exact⟨rfl,oM,h8,if_neg h8⟩
theorem w0o{nm st l}(h:(drpR nm (some (st,l),0)).1=0):¬fndS nm 0 l<0/\drpR nm (some (st,l),0)=(0,z3i nm l):=by
 have e:drpR nm (some (st,l),0)=if fndS nm 0 l<0 then (5,[])else (0,z3i nm l):=rfl
 rw[e]at h⊢;by_cases hf:fndS nm 0 l<0
 ·rw[if_pos hf]at h
  exact absurd h (by decide)
 ·exact⟨hf,if_neg hf⟩
section
variable{a:DA}{L T K:Nat}{x:HA}{y:WA}{cs:Nat->CS}{f:Nat->Option Nat}{N m b0:Nat}{S:Fp}{cur:Nat->Nat}{q st:Nat}{l:List (List Nat×Nat)}{w w':World}
def RgTo(a:DA)(L T K:Nat)(x:HA)(y:WA)(cs:Nat->CS)(f:Nat->Option Nat)(N m b0:Nat)(S:Fp)(w:World)(q st:Nat)(l:List (List Nat×Nat))(w':World):Prop:=∃S' cur',RgS a L (T+800) K x y cs f N m b0 S' cur' q st l w'/\Chg (sfp S x) w w'/\Grew S S' w
theorem RgS.stay(h:RgS a L T K x y cs f N m b0 S cur q st l w)(hT:T+800<=1000000000)(hb:Blw w w'):RgTo a L T K x y cs f N m b0 S w q st l w' :=
 ⟨S,cur,{ h with bw:=(h.bw.below hb).more oM hT (nL _) },Chg.of_below hb,Grew.refl _ _⟩
theorem RgS.take_(h:RgS a L T K x y cs f N m b0 S cur q st l w)(hL:64*L<=900000){g}(hg:Blk w g 202 #[q]) nm (hs:nm.size<=9223372036854775807) (hT:T+800<=1000000000) (hN:N<=1000000000) :
  () 100 #[(g,0),(58,y.d,0),.string nm] w fun e w'=>e=.returned (.tuple #[.int .u64 ((tkR nm (some (st,l),0)).1.1:Int),.int .i64 ((tkR nm (some (st,l),0)).1.2:Int)])/\RgTo a L T K x y cs f N m b0 S w q st (tkL nm st l) w':=by
 have Gc:=h.rd hL hg;by_cases he:(tkR nm (some (st,l),0)).1.2=0
 ·obtain⟨h1,h2,h3,h4⟩:=w8k he
  have h5:tkL nm st l=l++[(z1d nm,st)]:=by
   unfold tkL;rw[if_pos he,h4]
  rw[h4,h5];refine(v1p h.bw.sd h.bw.few g q hg (h.pay hL) st l Gc h.rgOk nm h1 h2 h3 hT hN).mono ?_;rintro e w'⟨cm,S',rfl,q1,q2,q3,q4⟩;obtain⟨_,S2,Ga,g1,g2,g3⟩:=h.list hL (h.ok.take h1 h2 h3) (e := .returned ()) ⟨cm,S',rfl,q1,q2,q3,q4⟩;exact⟨rfl,S2,Ga,g1,g2,g3⟩
 ·have h5:tkL nm st l=l:=by
   unfold tkL;rw[if_neg he]
  have h6:(tkR nm (some (st,l),0)).1.1=0:=by
   unfold tkR at he⊢;split
   ·rfl
   ·rename_i hn
    rw[if_neg hn]at he;show((if 0<=fndS nm 0 l then ((0,6),[])else if l.length=8 then ((0,4),[])else ((st,0),l++[(z1d nm,st)])):(Nat×Nat)×List (List Nat×Nat)).1.1=0;have Gb:((if 0<=fndS nm 0 l then ((0,6),[])else if l.length=8 then ((0,4),[])else ((st,0),l++[(z1d nm,st)])):(Nat×Nat)×List (List Nat×Nat)).1.2≠0:=he;split
    ·rfl
    ·rename_i hf
     rw[if_neg hf]at Gb;split
     ·rfl
     ·rename_i h8
      rw[if_neg h8]at Gb;exact absurd rfl Gb
  rw[h5,h6];exact(x5q Gc h.rgOk nm hs he).mono (fun e w' h2=>⟨h2.1,h.stay hT h2.2⟩)
theorem RgS.drop_(h:RgS a L T K x y cs f N m b0 S cur q st l w)(hL:64*L<=900000){g}(hg:Blk w g 202 #[q]) nm (hT:T+800<=1000000000) (hN:N<=1000000000) :
  () 106 #[(g,0),(58,y.d,0),.string nm] w fun e w'=>e=.returned (.int .i64 ((drpR nm (some (st,l),0)).1:Int))/\RgTo a L T K x y cs f N m b0 S w q st (dpL nm st l) w':=by
 have Gb:=h.rd hL hg;by_cases he:(drpR nm (some (st,l),0)).1=0
 ·obtain⟨h1,h4⟩:=w0o he
  have h5:dpL nm st l=z3i nm l:=by
   unfold dpL;rw[if_pos he,h4]
  rw[h4,h5];refine(w9u h.bw.sd h.bw.few g q hg (h.pay hL) st l Gb h.rgOk nm h1 hT hN).mono ?_;intro e w' hp;obtain⟨g0,S2,Ga,g1,g2,g3⟩:=h.list hL (h.ok.drop h1) hp;exact⟨g0,S2,Ga,g1,g2,g3⟩
 ·have h5:dpL nm st l=l:=by
   unfold dpL;rw[if_neg he]
  rw[h5];exact(x4n Gb h.rgOk nm he).mono (fun e w' h2=>⟨h2.1,h.stay hT h2.2⟩)
end
end
section
open Go.RowKit Go.Maps Go.Shelf
theorem x1i{H:Type}{w:World}{P:Program}{k:TypeId}{R R':Value->Option (DataW H×List MemPlace)}{b:Nat}(h:w.ownsMap P k R b 0 (.map [])):w.ownsMap P k R' b 0 (.map []):=by
 obtain⟨es,Ga,hb,F,hs,hD⟩:=h;have he:es=#[]:=Array.eq_empty_of_size_eq_zero oM;subst he;exact⟨#[],Ga,hb,⟨by simp,F.stamped,by simp⟩,nL _,rfl⟩
theorem y4f{w:World}{b:Nat}{tm te:TypeId}(h:w.ownsMap Tryz.prog 32 oneR b 0 (.map []))(ht:Tryz.prog.underlying tm=some (.map 32 te)){z:Value}(hz:(zeroValue te).run Tryz.prog w=.ok z w){o:Nat}(ho:o<18446744073709551616):
  (Instr.lookup tm (.map (some b)) (.int .u64 o) true).run Tryz.prog w=.ok (.tuple #[z,.bool false]) w:=by
 classical
 obtain⟨v,ps,Ga,hv⟩:=(x1i (R':=fun v=>if v=z then some (.lit (.bool true),[])else none) h).look_ok z1g ht hz (zd := .lit (.bool true)) (zp:=[]) (by simp) (keyU ho);have e:v=z:=by
  by_cases e:v=z
  ·exact e
  ·simp[e]at hv
 rw[Ga,e];rfl
section
variable{c:YCX}{g mode:Nat}{m:Nat->Nat}{f:YFm}{k B:Nat}{w w':World}{S:Fp}{t:TX}{D:DataW Unit}{n:Nat}{cur base:Nat->Nat}{T:Nat}{ws:List (Nat×Nat)}{Z:Fp}
theorem x1q(h:z2n c g mode m f k B Z w)(hmo:mode=1\/mode=2)(hc:YCok c m)(hf:w4d c f)(p kind:Nat)(hp64:p<18446744073709551616)(hp0:p≠0)(htop:p/72057594037927936=0)(hk:kind<256):
  () 68 #[(g,()),p,[[kind]]] w fun e w'=>e=.returned [chkR c.s c.K c.cs p kind]/\Blw w w':=by
 obtain⟨S,t,D,n,Gr,base,T,ws,hi,hv,hl⟩:=h;have Gj:Hid (∀W,Blw w W->() 64 #[(c.x.h,()),p,[[kind]]] W fun e w'=>e=.returned [chkR c.s c.K c.cs p kind]/\Blw W w'):=hid (fun W hW=>y2e ((hi.ds hmo hc hf).below hW) p kind hp64 hk);have Gf:=hid (z9m p w);have Gc:=hid (fun W=>z4o p W);have Gk:=hid (z9u hi.tx.base.dev);have Gb:=hid hi.tx.tx;have Ge:=hid hi.tx.base.sys.m;have Gn:=hid hi.tx.maps.own;have Gl:=hid hi.tx.maps.freed;have Gd:Hid (∀W,Blw w W->(Instr.lookup 143 (.map (some t.own)) (pOff p) true).run Tryz.prog W=.ok (.tuple #[.agg #[[()],(),false],false]) W):=hid (fun W hW=>y4f ((Chg.of_below (S:=Fp.no) hW).map Gn.out (fun h=>h)) Tryz.underlying143 (by kernel_rfl) (by unfold pOff;omega));have Gm:Hid (∀W,Blw w W->(Instr.lookup 144 (.map (some t.freed)) (pOff p) true).run Tryz.prog W=.ok (.tuple #[[()],false]) W):=hid (fun W hW=>y4f ((Chg.of_below (S:=Fp.no) hW).map Gl.out (fun h=>h)) Tryz.underlying144 (by kernel_rfl) (by unfold pOff;omega));have Gp:pOff p<18446744073709551616:=by unfold pOff;omega
 have c8:w.cell? ⟨g,8,none⟩=some ↑true:=(hi.tx.tx.cell 8).trans (by simp[z1c,hi.op]);have c6:w.cell? ⟨g,6,none⟩=some (c.x.m,()):=hi.tx.tx.cell 6;have m0:w.cell? (c.x.m,())=some (c.a.th 0,()):=hi.tx.base.sys.m.cell 0;have m3:w.cell? ⟨c.x.m,3,none⟩=some (c.x.h,()):=hi.tx.base.sys.m.cell 3;have d0:decide (p=0)=false:=decide_eq_false hp0;have q1:((p:Int)/72057594037927936 != 0)=false:=by
  have e:(p:Int)/72057594037927936=0:=oM;rw[e];rfl
 have Gq:Hid (Blw w w):=hid (Below.refl _ _);rw[d0]at Gf;clear hi hv hl hc hf hmo d0;go_enter Tryz.func68,Tryz.ntmps68
 go_upto_region 10 with (first
  |(go_at_call 72;refine Gf.out.mono ?_;rintro e w1⟨rfl,rfl⟩)
  |(go_at_call 68;refine stop ?_)
  |(go_at_call 76;refine Gk.out.mono ?_;rintro e w1⟨rfl,rfl⟩))
 go_upto_region 12 with fail
 go_cut [9]from 56 to 66 (fun v9 wx=>v9=↑false/\Hid (Blw w wx))
 case first =>
  refine z5d (fun w'=>Blw w w') 14 8 [0,1,2,3,4,5] (by kernel_rfl) (by kernel_rfl) (by rfl) (by rfl) ((Below.refl _ _).drew) ?_;intro ops HO;refine z1b HO.out (g,()) (by rfl) (by rfl) (fun w' hS=>?_) ?_
  ·go_simp
  simp only[Act.put,zD,zE,zF];refine z1b HO.out (g,()) (by rfl) (by rfl) (fun w' hS=>?_) ?_
  ·go_simp
  simp only[Act.put,zD,zE,zF];refine z1b HO.out (g,()) (by rfl) (by rfl) (fun w' hS=>?_) ?_
  ·go_simp
  simp only[Act.put,zD,zE,zF];refine z1b HO.out (.pointer (some ⟨g,2,none⟩)) (by rfl) (by rfl) (fun w' hS=>?_) ?_
  ·go_simp
  simp only[Act.put,zD,zE,zF];refine z1b HO.out (.map (some t.own)) (by rfl) (by rfl) (fun w' hS=>?_) ?_
  ·have f0:w'.cell? ⟨g,2,none⟩=some (.map (some t.own)):=(Gb.out.below hS Gb.out.lt).cell 2
   go_simp
  simp only[Act.put,zD,zE,zF];refine z1b HO.out p (by rfl) (by rfl) (fun w' hS=>?_) ?_
  ·go_simp
  simp only[Act.put,zD,zE,zF];refine z7d HO.out (i:=6) (j:=11) (by kernel_rfl) (by rfl) (by rfl) ?_ ?_
  ·go_wp2_with (go_at_call 143;refine(Gc.out _).mono ?_;rintro e w1⟨rfl,rfl⟩)
   refine⟨(Below.refl _ _).drew,?_⟩;refine z0v HO.out (i:=7) (.tuple #[.agg #[[()],(),false],false]) (by rfl) (by kernel_rfl) (by rfl) (fun w' hS=>?_) ((Below.refl _ _).drew) ?_
   ·have Gh:=Gd.out w' hS;go_simp
   simp only[Act.put,zD,zE,zF];refine z0v HO.out (i:=8) (.tuple #[.agg #[[()],(),false],false]) (by rfl) (by kernel_rfl) (by rfl) (fun w' hS=>?_) ((Below.refl _ _).drew) ?_
   ·go_simp
   simp only[Act.put,zD,zE,zF];refine z0v HO.out (i:=9) (.agg #[[()],(),false]) (by rfl) (by kernel_rfl) (by rfl) (fun w' hS=>?_) ((Below.refl _ _).drew) ?_
   ·go_simp
   simp only[Act.put,zD,zE,zF];refine z0v HO.out (i:=10) false (by rfl) (by kernel_rfl) (by rfl) (fun w' hS=>?_) ((Below.refl _ _).drew) ?_
   ·go_simp
   simp only[Act.put,zD,zE,zF];refine z0z HO.out (i:=11) (by kernel_rfl) (by rfl) ?_;go_wp2_with fail
   refine⟨((Below.refl _ w).alloc (nL _) (.cells #[[()],(),false] 173)).drew,?_⟩;refine z0z HO.out (i:=12) (by kernel_rfl) (by rfl) ?_;go_wp2_with fail
   refine⟨((Below.refl _ w).alloc (nL _) (.cells #[[()],(),false] 173)).drew,?_⟩;refine z0z HO.out (i:=13) (by kernel_rfl) (by rfl) ?_;go_wp2_with fail
   refine⟨((Below.refl _ w).alloc (nL _) (.cells #[[()],(),false] 173)).drew,?_⟩;refine z3y HO.out (by kernel_rfl) ?_;refine NoPanic.normal ?_;go_wp2_with fail
   go_meet;exact⟨rfl,hid (((Below.refl _ w).alloc (nL _) (.cells #[[()],(),false] 173)).drew)⟩
  ·go_wp2_with fail
   refine⟨((Below.refl _ w).alloc (nL _) (.cells #[[()],(),false] 173)).drew,?_⟩;refine z0z HO.out (i:=6) (by kernel_rfl) (by rfl) ?_;go_wp2_with (go_at_call 143;refine(Gc.out _).mono ?_;rintro e w1⟨rfl,rfl⟩)
   refine⟨((Below.refl _ w).alloc (nL _) (.cells #[[()],(),false] 173)).drew,?_⟩;refine z0v HO.out (i:=7) (.tuple #[.agg #[[()],(),false],false]) (by rfl) (by kernel_rfl) (by rfl) (fun w' hS=>?_) (((Below.refl _ w).alloc (nL _) (.cells #[[()],(),false] 173)).drew) ?_
   ·have Gh:=Gd.out w' hS;go_simp
   simp only[Act.put,zD,zE,zF];refine z0v HO.out (i:=8) (.tuple #[.agg #[[()],(),false],false]) (by rfl) (by kernel_rfl) (by rfl) (fun w' hS=>?_) (((Below.refl _ w).alloc (nL _) (.cells #[[()],(),false] 173)).drew) ?_
   ·go_simp
   simp only[Act.put,zD,zE,zF];refine z0v HO.out (i:=9) (.agg #[[()],(),false]) (by rfl) (by kernel_rfl) (by rfl) (fun w' hS=>?_) (((Below.refl _ w).alloc (nL _) (.cells #[[()],(),false] 173)).drew) ?_
   ·go_simp
   simp only[Act.put,zD,zE,zF];refine z0v HO.out (i:=10) false (by rfl) (by kernel_rfl) (by rfl) (fun w' hS=>?_) (((Below.refl _ w).alloc (nL _) (.cells #[[()],(),false] 173)).drew) ?_
   ·go_simp
   simp only[Act.put,zD,zE,zF];refine z0z HO.out (i:=12) (by kernel_rfl) (by rfl) ?_;go_wp2_with fail
   refine⟨((Below.refl _ w).alloc (nL _) (.cells #[[()],(),false] 173)).drew,?_⟩;refine z0z HO.out (i:=13) (by kernel_rfl) (by rfl) ?_;go_wp2_with fail
   refine⟨((Below.refl _ w).alloc (nL _) (.cells #[[()],(),false] 173)).drew,?_⟩;refine z3y HO.out (by kernel_rfl) ?_;refine NoPanic.normal ?_;go_wp2_with fail
   go_meet;exact⟨rfl,hid (((Below.refl _ w).alloc (nL _) (.cells #[[()],(),false] 173)).drew)⟩
 case rest =>
 obtain⟨rfl,Ga⟩:=hcut;go_upto_region 19 with fail
 refine z0e (fun w'=>Blw w w') 13 [] [(1,0),(1,1),(1,2),(1,3),(1,4),(1,5),(0,6),(1,7),(1,8),(1,9),(1,10),(1,11),(1,12)] (by kernel_rfl) (by kernel_rfl) Ga.out.drew ?_;refine tkG (g,()) ?_;refine tkG (g,()) ?_;refine tkG (g,()) ?_;refine tkG (.pointer (some ⟨g,3,none⟩)) ?_;refine tkH (.map (some t.freed)) (fun w' hS=>?_) ?_
 ·have f0:w'.cell? ⟨g,3,none⟩=some (.map (some t.freed)):=(Gb.out.below hS Gb.out.lt).cell 3
  go_simp
 refine tkG p ?_;refine z0c (by rfl) ?_;go_wp2_with (go_at_call 143;refine(Gc.out _).mono ?_;rintro e w1⟨rfl,rfl⟩)
 refine⟨Ga.out.drew,?_⟩;refine tkH (.tuple #[[()],false]) (fun w' hS=>?_) ?_
 ·have Gh:=Gm.out w' hS
  go_simp
 refine tkG (.tuple #[[()],false]) ?_;refine tkG [()] ?_;refine tkG false ?_;refine tkG [()] ?_;refine tkG false ?_;show wpList _ _ _ _ _ _;simp only[List.drop_succ_cons,List.drop_zero];refine NoPanic.normal ?_;have k6:wc.drew.cell? ⟨g,6,none⟩=some (c.x.m,()):=(Gb.out.below Ga.out.drew Gb.out.lt).cell 6;have k3:wc.drew.cell? ⟨c.x.m,3,none⟩=some (c.x.h,()):=(Ge.out.below Ga.out.drew Ge.out.lt).cell 3;go_wp2_with (go_at_call 64;refine(Gj.out _ Ga.out.drew).mono ?_;rintro e w2⟨rfl,Gg⟩;have Gi:=hid Gg;clear Gg)
 go_ret;exact⟨rfl,Ga.out.drew.trans (Gi.out.mono Ga.out.drew.size)⟩
end
end
section
open Go.RowKit Go.Maps Go.Shelf
def z7e(f:YFm)(us:List (Nat×Nat)):YFm:=us.foldl (fun f e=>f.put e.1 e.2) f
theorem x6j(f:YFm)(us:List (Nat×Nat))(k:Nat)(h:k<us.length):z7e f (us.take (k+1))=(z7e f (us.take k)).put us[k].1 us[k].2:=by
 unfold z7e;rw[List.take_succ_eq_append_getElem h,List.foldl_append];rfl
theorem y1s{f:YFm}{dom:List Nat}:∀{us:List (Nat×Nat)}{f:YFm},(∀o v,f o=some v->o∈dom)->(∀e∈us,e.1∈dom)->∀o v,z7e f us o=some v->o∈dom
 |[],_,h,_,o,v,hv=>h o v hv
 |e::us,f,h,hu,o,v,hv=>by
  refine y1s (f:=f.put e.1 e.2) (us:=us) (fun o v hv=>?_) (fun x hx=>hu x (by simp[hx])) o v hv;by_cases e1:o=e.1
  ·rw[e1];exact hu e (by simp)
  ·simp[YFm.put,e1]at hv
   exact h o v hv
theorem w4l{l dom:List Nat}(hn:l.Nodup)(hs:∀x∈l,x∈dom):l.length<=dom.length:=by
 induction l generalizing dom with
 |nil=>exact Nat.zero_le _
 |cons a l ih =>
  obtain⟨h1,h2⟩:=List.nodup_cons.1 hn;have ha:=hs a (by simp);have h3:=ih h2 (dom:=dom.erase a) (fun x hx=>(List.mem_erase_of_ne (fun e=>by subst e;exact h1 hx)).2 (hs x (by simp[hx])));rw[List.length_erase_of_mem ha]at h3;have:=List.length_pos_of_mem ha;rw[List.length_cons];omega
section
variable{c:YCX}{g mode:Nat}{m:Nat->Nat}{f:YFm}{k B:Nat}{w w':World}{Z:Fp}
theorem z2n.cnt_le(h:z2n c g mode m f k B Z w){dom:List Nat}(hd:∀o v,f o=some v->o∈dom):k<=dom.length:=by
 obtain⟨S,t,D,n,Gb,Ga,T,ws,hi,hv,hl⟩:=h;have hw:=hi.tx.maps.words;have h1:=w4l (dom:=dom) (z5q hw) (fun x hx=>by
  obtain⟨v,hv⟩:=hi.dr.some_ ((y6p hw x).2 hx);exact hd x v hv)
 rw[z7c hw,hi.dr.size]at h1;exact h1
theorem z2n.wordOk(h:z2n c g mode m f k B Z w){o}(ho:z3q c o):
  () 111 #[(g,0),o] w fun e w'=>e=.returned true/\w=w':=by
 obtain⟨S,t,D,n,Gb,Ga,T,ws,hi,hv,hl⟩:=h;exact z8f hi.tx o ho.al ho.lt
theorem y3t(h:z2n c g mode m f k B Z w) A n c0 us (hr:z0d w w 2 A n (z0a us)) (hn:n<=1000) (hg:∀e∈us,z3q c e.1) :
  () 142 #[(g,0),.slice A n c0,((),()),((),())] w fun e w'=>e=.returned ()/\Blw w w':=by
 have HX:=hid h;have HR:=hid hr;have Gd:us.length=n:=by have:=hr.1;rw[z1a]at this;omega
 have Gg:=hid Gd;have HG:=hid hg;have Ga:Hid (Blw w w):=hid (Below.refl _ _);have Gl:∀W,(Instr.makeMap 330 none).run Tryz.prog W=.ok (.map (some W.heap.size)) (W.alloc (.map #[] 0)):=fun _=>rfl
 clear h hr Gd hg;go_enter Tryz.func142,Tryz.ntmps142
 go_wp2_with fail
 go_loopw [24] (fun i wr=>∃j:Nat,j<=n/\i=↑[j]/\Hid (Blw w wr)) (fun i _=>n-(RowKit.intOf i).toNat)
 case atStart=>exact⟨0,Nat.zero_le _,rfl,Ga⟩
 case round =>
  clear Ga;obtain⟨j,hj,rfl,HB⟩:=hrel;by_cases hlt:j<n
  ·have Gi:j<us.length:=by have:=Gg.out;omega
   have Gm:(j:Int)<(n:Int):=oM;obtain⟨_,b,Gn,rfl,Gj,f1,f2⟩:=z3a (HR.out.below HB.out) hlt;have Gh:=HG.out _ (List.getElem_mem Gi);generalize us[j]=e at*;have Gf:Hid (∀W,Blw w W->() 111 #[(g,0),e.1] W fun e w'=>e=.returned true/\W=w'):=hid (fun W hW=>(HX.out.below hW).wordOk Gh);have Gc:Blw w (wr.alloc (.cells #[e.1,e.2] 117)):=HB.out.alloc HB.out.size _;have Gb:=hid Gc;clear Gc;go_wp2_with (go_at_call 111;refine(Gf.out _ Gb.out).mono ?_;rintro e1 w1⟨rfl,rfl⟩)
   go_roundw
   case rel=>exact⟨j+1,oM,by go_num,Gb⟩
   case measure=>simp[RowKit.intOf];omega
  ·have Gk:j=n:=oM
   have Ge:=hid ((HB.out.alloc HB.out.size (.map #[] 0)).alloc (by simp;have:=HB.out.size;omega) (.map #[] 0));go_wp2_with fail
   refine wp_loop_rounds 1 ?_;rw[rounds_succ];go_wp2_with fail
   refine wp_loop_rounds 1 ?_;rw[rounds_succ];go_wp2_with fail
   refine wp_loop_rounds 1 ?_;rw[rounds_succ];go_wp2;go_ret;exact⟨rfl,Ge.out⟩
theorem z6c(h:z2n c g mode m f k B Z w)(hmo:mode=1\/mode=2)(A:Option Addr)(n c0:Nat)(us:List (Nat×Nat))(hr:z0d w w.heap.size 2 A n (z0a us))(hro:∀ad,A=some ad->¬Z ad.block)(hn:n<=90)(hg:∀e∈us,z3q c e.1)(hv:∀e∈us,e.2<18446744073709551616)
  {dom:List Nat}(hd:∀o v,f o=some v->o∈dom) (hu:∀e∈us,e.1∈dom) (hl:dom.length<=94) (hB:B+n<=900) :
  () 52 #[(g,()),.slice A n c0,((),()),((),())] w fun e w'=>e=.returned ()/\∃k',z3z c g mode m (z7e f us) k' (B+n) Z w w':=by
 have HR:=hid hr;have Gz:us.length=n:=by have:=hr.1;rw[z1a]at this;omega
 have Gg:=hid Gz;have Gq:=hid (x1r h);have Gp:=hid (y3t h A n c0 us hr oM hg);have Ge:Hid (∀W,Blw w W->∃k' Z',z2n c g mode m (z7e f (us.take 0)) k' (B+0) Z' W/\Chg Z w W/\Grew Z Z' w):=hid (fun W hW=>⟨k,Z,h.below hW,Chg.of_below hW,Grew.refl _ _⟩);have Gs:Hid (∀W,Chg Z w W->z0d W w.heap.size 2 A n (z0a us)):=hid (fun W hW=>hW.reads hr (nL _) hro);have Gf:Hid (∀j (hj:j<us.length) k' Z' W,z2n c g mode m (z7e f (us.take j)) k' (B+j) Z' W->() 34 #[(g,()),.int .u64 (us[j].1:Int),.int .u64 (us[j].2:Int)] W fun e w'=>e=.returned (.tuple #[])/\z3z c g mode m (z7e f (us.take (j+1))) (y7v (z7e f (us.take j)) k' us[j].1) (B+(j+1)) Z' W w'):=hid (fun j hj k' Z' W hW=>by
  have G1:=hW.cnt_le (dom:=dom) (y1s (f:=f) hd (fun e he=>hu e (List.mem_of_mem_take he)));rw[x6j f us j hj];exact x1l hW hmo _ _ (hg _ (List.getElem_mem hj)) (hv _ (List.getElem_mem hj)) (.inr oM) oM)
 have Gl:Hid (∀f' k' B' Z' W,z2n c g mode m f' k' B' Z' W->() 50 #[(g,())] W fun e w'=>e=.returned ()/\W=w'):=hid (fun f' k' B' Z' W hW=>z6q hW);have Gr:Hid (∀f' k' B' Z' W,z2n c g mode m f' k' B' Z' W->() 119 #[(g,())] W fun e w'=>e=.returned (.tuple #[])/\Blw W w'):=hid (fun f' k' B' Z' W hW=>by
  obtain⟨S,t,D,n,G0,Gv,T,ws,hi,hv,hl⟩:=hW;exact y5w W g t.held _ hi.tx.tx rfl hi.tx.maps.held)
 clear h hr hro hg hv hd hu;go_enter Tryz.func52,Tryz.ntmps52
 go_wp2_with (first
  |(go_at_call 141;refine Gq.out.mono ?_;rintro e w1⟨rfl,rfl⟩)
  |(go_at_call 142;refine Gp.out.mono ?_;rintro e w1⟨rfl,Gh⟩;have Gk:=hid Gh;clear Gh))
 have Gd:=hid (Ge.out _ Gk.out);clear Ge;go_loopw [35] (fun i wr=>∃j:Nat,j<=n/\i=↑[j]/\Hid (∃k' Z',z2n c g mode m (z7e f (us.take j)) k' (B+j) Z' wr/\Chg Z w wr/\Grew Z Z' w)) (fun i _=>n-(RowKit.intOf i).toNat)
 case atStart=>exact⟨0,Nat.zero_le _,rfl,Gd⟩
 case round =>
  clear Gd;obtain⟨j,hj,rfl,HI⟩:=hrel;obtain⟨k',Z',ho,hc,Gj⟩:=HI.out;have HO:=hid ho;have HC:=hid hc;have HG:=hid Gj;clear ho hc Gj HI;by_cases hlt:j<n
  ·have Gy:j<us.length:=by have:=Gg.out;omega
   have G2:(j:Int)<(n:Int):=oM;obtain⟨_,b,G3,rfl,Gw,f1,f2⟩:=z3a (Gs.out _ HC.out) hlt;have Gx:b<wr.heap.size:=Nat.lt_of_lt_of_le Gw HC.out.size;have Gu:=hid (Gf.out j Gy k' Z');clear Gf;generalize us[j]=e at*;have Gi:Blw wr (wr.alloc (.cells #[e.1,e.2] 117)):=(Below.refl _ _).alloc (nL _) _;have Ga:=hid Gi;clear Gi;go_wp2_with (go_at_call 34;refine(Gu.out _ (HO.out.below Ga.out)).mono ?_;rintro e1 w2⟨rfl,h2⟩;have H2:=hid h2;clear h2)
   have Gn:Hid (∃k' Z',z2n c g mode m (z7e f (us.take (j+1))) k' (B+(j+1)) Z' w2/\Chg Z w w2/\Grew Z Z' w):=by
    obtain⟨Z2,h3,h4,h5⟩:=H2.out;exact hid ⟨_,Z2,h3,(HC.out.trans (Chg.of_below Ga.out) HG.out).trans h4 (HG.out.trans (Grew.refl _ _) HC.out.size),HG.out.trans (fun x hx=>(h5 x hx).imp id (fun h=>Nat.le_trans Ga.out.size h)) HC.out.size⟩
   go_roundw
   case rel=>exact⟨j+1,oM,by go_num,Gn⟩
   case measure=>simp[RowKit.intOf];omega
  ·obtain rfl:j=n:=oM
   have Gt:=hid (Gr.out _ _ _ _ _ HO.out);go_wp2_with fail
   refine wp_loop_rounds 1 ?_;rw[rounds_succ];go_wp2_with fail
   refine wp_loop_rounds 1 ?_;rw[rounds_succ];go_wp2_with (go_at_call 119;refine Gt.out.mono ?_;rintro e w3⟨rfl,Gb⟩;have Gc:=hid Gb;have Gm:=hid (Gl.out _ _ _ _ _ (HO.out.below Gb));clear Gb)
   go_wp2_with (go_at_call 50;refine Gm.out.mono ?_;rintro e w4⟨rfl,rfl⟩)
   go_ret;have ho:=HO.out.below Gc.out;rw[List.take_of_length_le (by have:=Gg.out;omega)]at ho;exact⟨rfl,k',Z',ho,HC.out.trans (Chg.of_below Gc.out) HG.out,HG.out⟩
end
end
section
open Go.RowKit Go.Maps
theorem x6g p w : (method 585 31 (.pointer p) "Size").run Tryz.prog w=.ok (206,.pointer p) w := by kernel_rfl
theorem y1q p w : (method 585 31 (.pointer p) "Err").run Tryz.prog w=.ok (50,.pointer p) w := by kernel_rfl
theorem z9c p w : (method 585 31 (.pointer p) "Load").run Tryz.prog w=.ok (36,.pointer p) w := by kernel_rfl
theorem x1h p w : (method 585 31 (.pointer p) "Check").run Tryz.prog w=.ok (68,.pointer p) w := by kernel_rfl
theorem z8e p w : (method 585 31 (.pointer p) "Publish").run Tryz.prog w=.ok (52,.pointer p) w := by kernel_rfl
theorem y7s p w : (nilAhead 585 31 (.pointer (some p)) "Check").run Tryz.prog w=.ok (some false) w := by kernel_rfl
theorem y1o p w : (nilAhead 585 31 (.pointer (some p)) "Load").run Tryz.prog w=.ok (some false) w := by kernel_rfl
theorem y3o p w : (nilAhead 585 31 (.pointer (some p)) "Publish").run Tryz.prog w=.ok (some false) w := by kernel_rfl
structure YTxR(c:YCX)(d mode:Nat)(m:Nat->Nat)(f:YFm)(k B:Nat)(Z:Fp)(w:World)(cur:Nat->Nat):Prop where
 op:z2n c d mode m f k B Z w
 mo:mode=1\/mode=2
 ok:YCok c m
 pay:w4d c f
 eq:cur=Yvw f m
 bnd:∀i,cur i<18446744073709551616
section
variable{c:YCX}{d mode:Nat}{m:Nat->Nat}{f:YFm}{k0 B:Nat}{Z:Fp}{cur:Nat->Nat}{w w':World}
theorem YTxR.below(h:YTxR c d mode m f k0 B Z w cur)(hb:Blw w w'):YTxR c d mode m f k0 B Z w' cur:={ h with op:=h.op.below hb }
theorem YTxR.load(h:YTxR c d mode m f k0 B Z w cur) o (ho:z3q c o) i (hi:o/8=i) :
  () 36 #[(d,0),o] w fun e w'=>e=.returned (cur i)/\Blw w w':=by
 rw[h.eq,<- hi];exact x6h h.op h.mo o ho
end
section
variable{c:YCX}{d mode:Nat}{m:Nat->Nat}{f:YFm}{k0 B:Nat}{Z:Fp}{cur:Nat->Nat}{w:World}
theorem x1s(h:YTxR c d mode m f k0 B Z w cur) off (h8:off%8=0) (hlt:off+264<=64*c.L) (hgd:∀k,k<33->z3q c (off+8*k)) :
  () 254 #[(31,d,0),off,arI] w (w3x w (decA (rgW cur (off/8)))):=by
 have hL:c.L<=4096:=c.hpl.2.2.2.1;have Gt:=hid (fun W (hW:Blw w W)=>x6n (h.below hW).op);have Gq:Hid (∀W,Blw w W->() 50 #[(d,0)] W fun e w'=>e=.returned ()/\W=w'):=hid (fun W hW=>z6q (h.below hW).op);have G0:Hid (∀k,k<33->∀W,Blw w W->() 36 #[(d,0),(off+8*k:Nat)] W fun e w'=>e=.returned (cur (off/8+k))/\Blw W w'):=hid (fun k hk W hW=>(h.below hW).load _ (hgd k hk) _ oM);have Gk:=h.bnd;have G6:=x6g (some (d,0));have G7:=y1q (some (d,0));have G8:=z9c (some (d,0));have G9:=w1u;have Gl:∀W,(binOp .eql 163 (31,d,0) .nilIface).run Tryz.prog W=.ok false W:=fun W=>by rfl
 have Gg:∀y∈rgW cur (off/8),y<18446744073709551616:=fun y hy=>by
  unfold rgW at hy;obtain⟨j,_,rfl⟩:=List.mem_map.1 hy;exact Gk _
 have Gx:=hid Gg;obtain⟨M,hM⟩:∃M,64*c.L=M:=⟨_,rfl⟩
 rw[hM]at Gt;obtain⟨q,hq⟩:∃q,M-off=q:=⟨_,rfl⟩
 have e1:IntKind.u64.wrap ((M:Int)-(off:Int))=(q:Int):=by rw[IntKind.wrap_u64];omega
 have e2:(33:Int)<=(q:Int)/8:=oM;have e9:IntKind.u64.wrap ((q:Int)/8)=(q:Int)/8:=by rw[IntKind.wrap_u64];omega
 have e3:(off:Int)<=(M:Int):=oM;have e4:((off:Int)%8 != 0)=false:=by rw[bne,beq_iff_eq.2 oM];rfl
 have G4:=hid (And.intro h8 (show off+264<=262144 by omega));have Gd:=x7x 33 (by decide);rw[show madeCells #[[()]] 33=uA (ldL cur (off/8) 33 0) by rw[x5b];apply Array.ext';rw[toList_madeCells_one];unfold uA z0g;simp]at Gd;rw[show((33:Nat):Int)=33 from rfl]at Gd;have G5:=Gk;clear h Gk Gg hL hlt hM hq h8 hgd;unfold arI;go_enter Tryz.func254,Tryz.ntmps254
 go_upto_region 12 with (first
  |(go_at_call 303;refine(z9f w).mono ?_;rintro e w1⟨rfl,Gu⟩;have Ge:=hid Gu;clear Gu)
  |(go_at_call 206;refine(Gt.out w1 Ge.out).mono ?_;rintro e w2⟨rfl,rfl⟩)
  |(go_at_call 50;refine(Gq.out w1 Ge.out).mono ?_;rintro e w2⟨rfl,rfl⟩))
 have Ga:Hid (Blk (w1.alloc (.cells (uA (ldL cur (off/8) 33 0)) 32)) w1.heap.size 32 (uA (ldL cur (off/8) 33 0))):=hid (Blk.new w1 _ _);have Gb:Hid (Blw w1 (w1.alloc (.cells (uA (ldL cur (off/8) 33 0)) 32))):=hid ((Below.refl _ _).alloc (nL _) _);clear Gd e1 e2 e3 e4 e9 Gl;go_wp2_with fail
 go_loopw [56] (fun i wr=>∃k:Nat,k<=33/\i=↑[k]/\Hid (Blk wr w1.heap.size 32 (uA (ldL cur (off/8) 33 k)))/\Hid (Blw w1 wr)) (fun i _=>33-(Go.RowKit.intOf i).toNat)
 case atStart=>exact⟨0,Nat.zero_le _,rfl,Ga,Gb⟩
 case round =>
  clear Ga Gb;obtain⟨k,hk,rfl,Ga,Gb⟩:=hrel;by_cases hlt:k<33
  ·have Gc:=hid (Ge.out.trans (Gb.out.mono Ge.out.size))
   have Gr:=hid (G0.out k hlt wr Gc.out);have G2:Hid (∀W,Blw wr W->Blk (W.setCell (w1,k) (cur (off/8+k))) w1.heap.size 32 (uA (ldL cur (off/8) 33 (k+1)))):=hid (fun W hW=>by
    have h1:=(Ga.out.below hW Ga.out.lt).set_ k (cur (off/8+k));rw[y0k,w1o]at h1;exact h1)
   have Gy:Hid (∀W,Blw wr W->Blw w1 (W.setCell (w1,k) (cur (off/8+k)))):=hid (fun W hW=>(Gb.out.trans (hW.mono Gb.out.size)).setCell (nL _) _);have GA:(0:Int)<=(k:Int):=oM;have GB:(k:Int)<33:=oM;have Gz:Hid (∀W,Blw wr W->W.cell? (w1,k)=some (.int .u64 (((ldL cur (off/8) 33 k)[k]'(by rw[z9j];exact hlt):Nat):Int))/\W.frozen? (w1,k)=false):=hid (fun W hW=>⟨by rw[(Ga.out.below hW Ga.out.lt).cell];exact x3q (by rw[z9j];exact hlt),(Ga.out.below hW Ga.out.lt).frozen k⟩);generalize (ldL cur (off/8) 33 k)[k]'(by rw[z9j];exact hlt)=old at*;generalize cur (off/8+k)=vk at*;have ho:=G4.out.2;have e5:IntKind.u64.wrap (k:Int)=(k:Int):=by rw[IntKind.wrap_u64];omega
   have e6:IntKind.u64.wrap ((k:Int)*8)=(k:Int)*8:=by rw[IntKind.wrap_u64];omega
   have e7:IntKind.u64.wrap ((off:Int)+(k:Int)*8)=((off+8*k:Nat):Int):=by rw[IntKind.wrap_u64];omega
   generalize off+8*k=ok at Gr e7;clear Ga Gb ho;go_wp2_with (go_at_call 36;refine Gr.out.mono ?_;rintro e w2⟨rfl,Gh⟩;obtain⟨c9,z9⟩:=Gz.out w2 Gh;have Gs:=hid (G2.out w2 Gh);have Gn:=hid (Gy.out w2 Gh);clear Gh)
   go_roundw
   case rel =>
    first
     |exact⟨k+1,oM,by go_num,Gs,Gn⟩
     |(
       repeat apply Exists.intro
       refine⟨?_,rfl⟩;exact⟨k+1,oM,by go_num,Gs,Gn⟩)
   case measure=>simp[Go.RowKit.intOf];omega
  ·obtain rfl:k=33:=oM
   have Gc:=hid (Ge.out.trans (Gb.out.mono Ge.out.size));have Gp:=hid (Gq.out wr Gc.out);have Gm:Hid (() 386 #[.agg arC0,(w1,0,33,33)] wr (x0v wr (decA (rgW cur (off/8))))):=hid (by
    have h1:=Ga.out;rw[w1n]at h1;have h2:z0d wr wr.heap.size 1 (some (w1,0)) 33 (z0g (rgW cur (off/8))):=by
     have h3:=y1h h1;rw[show((List.range 33).map fun j=>cur (off/8+j)).length=33 by simp]at h3;exact h3
    exact y8k _ 33 rfl _ wr h2 Gx.out)
   clear Ga Gb hlt hk;generalize decA (rgW cur (off/8))=R at*;rcases R with _|l
   ·have Gi:Hid (() 386 #[.agg arC0,(w1,0,33,33)] wr fun e w'=>e=.returned (.tuple #[((),()),false])/\Blw wr w'):=Gm
    rw[show((33:Nat):Int)=33 from rfl];go_wp2_with (first
     |(go_at_call 50;refine Gp.out.mono ?_;rintro e w5⟨rfl,rfl⟩)
     |(go_at_call 386;refine Gi.out.mono ?_;rintro e w6⟨rfl,Gf⟩;have Gj:=hid (Gc.out.trans (Gf.mono Gc.out.size));clear Gf))
    go_ret2;exact⟨rfl,Gj.out⟩
   ·have Gi:Hid (() 386 #[.agg arC0,(w1,0,33,33)] wr fun e w'=>(∃A m c,e=.returned (.tuple #[.slice A m c,true])/\m=l.length/\w'.ownsRow wr.heap.size 299 2 (.slice A m c) m (z0b l))/\Blw wr w'):=Gm
    rw[show((33:Nat):Int)=33 from rfl];go_wp2_with (first
     |(go_at_call 50;refine Gp.out.mono ?_;rintro e w5⟨rfl,rfl⟩)
     |(go_at_call 386;refine Gi.out.mono ?_;rintro e w6⟨⟨A6,m6,c6,rfl,Gv,Gw⟩,Gf⟩;have Gj:=hid (Gc.out.trans (Gf.mono Gc.out.size));have G1:=hid Gv;have G3:=hid Gw;clear Gf Gv Gw))
    go_ret2;exact⟨⟨_,_,_,rfl,G1.out,z2u G3.out Gc.out.size⟩,Gj.out⟩
end
end
section
open Go.RowKit Go.Maps
section
variable{a:DA}{L T n K:Nat}{x:HA}{y:WA}{cs:Nat->CS}{f:Nat->Option Nat}{N m b0:Nat}{S:Fp}{cur:Nat->Nat}{q st:Nat}{l:List (List Nat×Nat)}{w w':World}
theorem RgS.next_(h:RgS a L T K x y cs f N m b0 S cur q st l w)(hL:64*L<=900000){g}(hg:Blk w g 202 #[q]):
  () 97 #[(g,0),(58,y.d,0)] w (w3w w (if st=4611686018427387903 then (0,[])else (st+1,[(pOff q,st+1)]))) :=
 y9v g q (h.rd hL hg) h.rgOk hg (by intro hn;cases hn) (h.pay hL).ne
theorem w3b(hd:DS a L T 53 n K x cs f N m b0 S cur w){k i v}(h:x5y 53 K cs q 8 k i)(hc:(cs k).cl=4)(hv:v<18446744073709551616):UOk L 0 53 K cs [(pOff q,v)]:=by
 have Gc:=(h.at_.inL hd).1;have hl:=h.at_.lines;have Gd:=h.at_.lo;rw[hc]at Gc;have Gb:payW 4=60:=rfl;rw[Gb]at Gc;refine⟨fun e he=>?_,fun e he=>?_,fun e he k' hk' hlk=>?_,by simp⟩
 ·have e1:=List.mem_singleton.1 he
  subst e1;exact⟨hl.2,by show pOff q<64*L;omega,.inr (by show 64*0+64*26<=pOff q;omega)⟩
 ·have e1:=List.mem_singleton.1 he
  subst e1;exact hv
 ·have e1:=List.mem_singleton.1 he
  subst e1;have h4:=h.at_.notLook (y:=0) (by rw[hc,Gb];omega) hk';have Ga:z4d 53 cs k' (pOff q/8):=hlk;rw[hl.1]at Ga;exact h4 Ga
theorem RgS.pubNext(h:RgS a L T K x y cs f N m b0 S cur q st l w)(hL:64*L<=900000)(hs:st<4611686018427387903){g}(hg:Blk w g 117 #[.int .u64 (pOff q:Int),.int .u64 ((st+1:Nat):Int)])(hT:T+800<=1000000000)(hN:N<=1000000000):
  Calls Tryz.prog 99 #[.pointer (some ⟨y.d,0,none⟩),.slice (some ⟨g,0,none⟩) 1 1,.slice none 0 0,.slice none 0 0] w fun e w'=>e=.returned (.int .i64 0)/\RgTo a L T K x y cs f N m b0 S w q (st+1) l w':=by
 have hP:=h.pay hL;have Gb:=hP.inl;obtain⟨k,i,Gc,hc⟩:=h.live;have hr:z0d w w.heap.size 2 (some ⟨g,0,none⟩) 1 (z0a [(pOff q,st+1)]):=by
  refine⟨rfl,fun _=>⟨_,rfl,hg.lt,fun j u hu=>?_⟩⟩;rw[add_plain,Nat.zero_add,hg.cell];have e:z0a [(pOff q,st+1)]=[.int .u64 (pOff q:Int),.int .u64 ((st+1:Nat):Int)]:=rfl;rw[e]at hu;rw[List.getElem?_toArray];exact hu
 have h1:=y7b h.bw.sd h.bw.few (some ⟨g,0,none⟩) none none 1 1 0 0 0 0 [(pOff q,st+1)] [] [] hr (fun h=>by cases h) ⟨rfl,fun h=>absurd h (Nat.lt_irrefl 0)⟩ ⟨rfl,fun h=>absurd h (Nat.lt_irrefl 0)⟩ (fun ad h=>by cases h) (fun p hp=>absurd hp (by simp)) (fun p hp=>absurd hp (by simp)) (by simp) (w3b h.bw.sd.ds Gc hc oM) (by simp) hT oM;refine h1.mono (fun e w' hp=>?_);obtain⟨g0,S2,Ga,g1,g2,g3⟩:=h.next hs hp.words hP.al oM;exact⟨g0,S2,Ga,g1,g2,g3⟩
end
end
section
open Go.RowKit Go.Maps
section
variable{c:YCX}{d mode:Nat}{m:Nat->Nat}{f:YFm}{k0 B:Nat}{Z:Fp}{cur:Nat->Nat}{w:World}
theorem y8g(h:YTxR c d mode m f k0 B Z w cur)(g p:Nat)(hg:Blk w g 202 #[p])(hp:p<18446744073709551616)(hp0:p≠0)(htop:p/72057594037927936=0)(hp8:pOff p%8=0)(hpL:pOff p+272<=64*c.L)(hgd:∀j,j<34->z3q c (pOff p+8*j)):
  () 193 #[(g,()),.iface 31 (d,())] w (y1k w (rgR cur (fun q=>chkR c.s c.K c.cs q 8) p)):=by
 have Gi:Hid (∀W,Blw w W->() 50 #[(d,())] W fun e w'=>e=.returned ()/\W=w'):=hid (fun W hW=>z6q (h.below hW).op);have HC:Hid (∀W,Blw w W->() 68 #[(d,()),p,.int .u8 8] W fun e w'=>e=.returned [chkR c.s c.K c.cs p 8]/\Blw W w'):=hid (fun W hW=>x1q (h.below hW).op h.mo h.ok h.pay p 8 hp hp0 htop (by decide));have HG:Hid (∀W,Blw w W->W.cell? (g,())=some ↑p):=hid (fun W hW=>(hg.below hW hg.lt).cell 0);have GH:=x1h (some (d,()));have GK:=y1q (some (d,()));have GL:=z9c (some (d,()));have GM:∀(fn:Fn)(first cap:Array Value)(w:World),(Instr.makeFunc fn first cap).run Tryz.prog w=.ok (.func fn first cap) w:=fun _ _ _ _=>rfl
 have GI:∀W,(binOp .eql 63 (.iface 31 (d,())) .nilIface).run Tryz.prog W=.ok false W:=fun W=>by rfl
 have GG:=y7s (d,());have GJ:=y1o (d,());have g0:w.cell? (g,())=some ↑p:=hg.cell 0;have Gd:Hid (rgR cur (fun q=>chkR c.s c.K c.cs q 8) p=if chkR c.s c.K c.cs p 8≠0 then (none,12)else match decA (rgW cur (pOff p/8+1))with
  |none=>(none,11)
  |some l=>if sndP (cur (pOff p/8)) l=true then (some (cur (pOff p/8),l),0)else (none,11)):=hid rfl
 have Gw:=hid h;have G3:=hid (And.intro hp0 (And.intro hp8 (And.intro hpL hgd)));generalize rgR cur (fun q=>chkR c.s c.K c.cs q 8) p=Y at*;generalize chkR c.s c.K c.cs p 8=ck at*;have Gt:Hid (Blw w w.drew):=hid (Below.refl _ _).drew;have Gz:=hid (Gi.out w (Below.refl _ _));clear h hg hp0 hp8 hpL hgd;go_enter Tryz.func193,Tryz.ntmps193
 go_upto_region 7 with (go_at_call 50;refine Gz.out.mono ?_;rintro e w1⟨rfl,rfl⟩)
 go_cut [33]from 24 to 33 (fun v wx=>v=↑(decide (ck=0))/\Hid (Blw w wx))
 case first =>
  refine z0e (fun w'=>w'.cell? (g,())=some ↑p) 10 [] [(1,0),(1,1),(1,2),(1,3),(1,4),(1,5),(1,6),(1,7),(0,8),(1,9)] (by kernel_rfl) (by kernel_rfl) g0 ?_;refine tkG (.iface 31 (d,())) ?_;refine tkG (g,()) ?_;refine tkG (g,()) ?_;refine tkG (g,()) ?_;refine tkG p ?_;refine tkH (.func (.method "Check") #[.iface 31 (d,())] #[]) (fun w' hS => ?_) ?_
  ·go_simp
  refine tkH (.func (.method "Check") #[.iface 31 (d,())] #[]) (fun w' hS => ?_) ?_
  ·go_simp
  refine tkG (.iface 31 (d,())) ?_;refine z0c (by rfl) ?_;go_wp2_with (go_at_call 68;refine(HC.out _ Gt.out).mono ?_;rintro e w2⟨rfl,G5⟩;have Gb:=hid (Gt.out.trans (G5.mono Gt.out.size));clear G5)
  refine⟨HG.out _ Gb.out,?_⟩;have Ge:((ck:Int)==0)=decide (ck=0):=by
   by_cases h:ck=0
   ·subst h;rfl
   ·rw[decide_eq_false h,beq_eq_false_iff_ne];omega
  refine tkG (decide (ck=0)) ?_;show wpList _ _ _ _ _ _;simp only[List.drop_succ_cons,List.drop_zero];refine NoPanic.normal ?_;go_wp2_with fail
  go_meet;exact⟨rfl,Gb⟩
 case rest =>
 obtain⟨rfl,Gb⟩:=hcut;clear g0 Gz HC GH GG;by_cases Ge:ck=0
 ·rw[decide_eq_true Ge]
  rw[if_neg (fun hn=>hn Ge)]at Gd;obtain⟨hp0,hp8,hpL,hgd⟩:=G3.out;have Gs:Hid (∀W,() 65 #[p,.int .i64 1] W fun e w'=>e=.returned (pOff p+8:Nat)/\W=w'):=hid (fun W=>by
   have h1:=y0d p 1 oM W;rw[show pAt p 1=pOff p+8 by unfold pAt;rw[if_neg oM]]at h1;exact h1)
  have Gy:Hid (∀W,() 65 #[p,()] W fun e w'=>e=.returned (pOff p)/\W=w'):=hid (fun W=>by
   have h1:=y0d p 0 oM W;rw[show pAt p 0=pOff p by unfold pAt;rw[if_neg oM];omega]at h1;exact h1)
  have Gk:Hid (∀W,Blw w W->() 254 #[.iface 31 (d,()),(pOff p+8:Nat),arI] W (w3x W (decA (rgW cur (pOff p/8+1))))):=hid (fun W hW=>by
   have h1:=x1s (Gw.out.below hW) (pOff p+8) oM oM (fun k hk=>by have:=hgd (k+1) oM;rw[show pOff p+8+8*k=pOff p+8*(k+1) by omega];exact this);rw[show(pOff p+8)/8=pOff p/8+1 by omega]at h1;exact h1)
  have G1:Hid (∀W,Blw w W->() 36 #[(d,()),(pOff p)] W fun e w'=>e=.returned (cur (pOff p/8))/\Blw W w'):=hid (fun W hW=>(Gw.out.below hW).load (pOff p) (hgd 0 oM) _ rfl);have Gj:Hid (∀l,decA (rgW cur (pOff p/8+1))=some l->l.length<=8/\∀q∈l,(strN q.1).size<=9223372036854775807):=hid (fun l hl=>by
   obtain⟨g1,g2⟩:=y6j hl;exact⟨g1,fun q hq=>by rw[x0k];have:=(g2 q hq).1;omega⟩)
  generalize cur (pOff p/8)=st at*;generalize decA (rgW cur (pOff p/8+1))=R at*;generalize pOff p+8=o1 at Gs Gk;generalize pOff p=o0 at Gy G1;clear Ge hp0 hp8 hpL hgd G3 Gw;have GF:wc.cell? (g,())=some ↑p:=HG.out wc Gb.out;rcases R with _|l
  ·have HY:Hid (Y=(none,11)):=hid Gd.out
   have Gl:Hid (∀W,Blw w W->() 254 #[.iface 31 (d,()),o1,arI] W fun e w'=>e=.returned (.tuple #[((),()),.int .i64 11])/\Blw W w'):=Gk;clear Gd Gk;unfold arI at Gl;go_wp2_with (first
    |(go_at_call 65;refine(Gs.out _).mono ?_;rintro e w3⟨rfl,rfl⟩)
    |(go_at_call 202;refine(z4b wc).mono ?_;rintro e w4⟨rfl,Gm⟩;have Gc:=hid (Gb.out.trans (Gm.mono Gb.out.size));clear Gm)
    |(go_at_call 254;refine(Gl.out w4 Gc.out).mono ?_;rintro e w5⟨rfl,Gn⟩;have Gh:=hid (Gc.out.trans (Gn.mono Gc.out.size));clear Gn;have GB:=hid (Gi.out w5 Gh.out))
    |(go_at_call 50;refine GB.out.mono ?_;rintro e w6⟨rfl,rfl⟩))
   go_ret3
   unfold y1k;rw[HY.out];exact⟨rfl,Gh.out⟩
  ·obtain⟨G6,Gp⟩:=Gj.out l rfl
   have Gl:Hid (∀W,Blw w W->() 254 #[.iface 31 (d,()),o1,arI] W fun e w'=>(∃A m c,e=.returned (.tuple #[.slice A m c,()])/\m=l.length/\w'.ownsRow W.heap.size 299 2 (.slice A m c) m (z0b l))/\Blw W w'):=Gk;have Gr:Hid (Y=if sndP st l=true then (some (st,l),0)else (none,11)):=hid Gd.out;have G9:=hid Gp;have H8:=hid G6;clear Gd Gk Gj Gp G6;unfold arI at Gl;go_upto_region 11 with (first
    |(go_at_call 65;refine(Gs.out _).mono ?_;rintro e w3⟨rfl,rfl⟩)
    |(go_at_call 202;refine(z4b wc).mono ?_;rintro e w4⟨rfl,Gm⟩;have Gc:=hid (Gb.out.trans (Gm.mono Gb.out.size));clear Gm)
    |(go_at_call 254;refine(Gl.out w4 Gc.out).mono ?_;rintro e w5⟨⟨A5,m5,c5,rfl,G7,G8⟩,Gn⟩;have Gh:=hid (Gc.out.trans (Gn.mono Gc.out.size));have G2:=hid G7;have GD:=hid (z2u G8 Gc.out.size);clear Gn G7 G8))
   have g5:=HG.out w5 Gh.out;have Ga:=hid Gh.out.drew;clear GF;refine z0e (fun w'=>Blw w w') 11 [] [(1,0),(1,1),(1,2),(1,3),(1,4),(1,6),(1,7),(1,8),(0,5),(0,9),(1,10)] (by kernel_rfl) (by kernel_rfl) Ga.out ?_;refine tkG (.iface 31 (d,())) ?_;refine tkG (g,()) ?_;refine tkG (g,()) ?_;refine tkG (g,()) ?_;refine tkH p (fun w' hS=>?_) ?_
   ·have g6:=HG.out w' hS
    go_simp
   refine tkH (.func (.method "Load") #[.iface 31 (d,())] #[]) (fun w' hS => ?_) ?_
   ·go_simp
   refine tkH (.func (.method "Load") #[.iface 31 (d,())] #[]) (fun w' hS => ?_) ?_
   ·go_simp
   refine tkG (.iface 31 (d,())) ?_;refine z0c (by rfl) ?_;go_wp2_with (go_at_call 65;refine(Gy.out _).mono ?_;rintro e w6⟨rfl,rfl⟩)
   refine⟨Ga.out,?_⟩;refine z0c (by rfl) ?_;go_wp2_with (go_at_call 36;refine(G1.out _ Ga.out).mono ?_;rintro e w6⟨rfl,Gx⟩;have Gu:Hid (Blw w5 w6):=hid ((Below.refl _ _).drew.trans Gx);have Gf:=hid (Ga.out.trans (Gx.mono Ga.out.size));clear Gx)
   refine⟨Gf.out,?_⟩;refine tkG st ?_;show wpList _ _ _ _ _ _;simp only[List.drop_succ_cons,List.drop_zero];refine NoPanic.normal ?_;have Gv:Hid (w6.ownsRow w.heap.size 299 2 (.slice A5 m5 c5) m5 (z0b l)):=hid (z0r GD.out Gu.out);have G4:=hid (x0h A5 m5 c5 st l w6 (z0d.of_own Gv.out) (z4p Gv.out).1 (by rw[G2.out];exact H8.out) G9.out);have G0:=hid (Gi.out w6 Gf.out);generalize sndP st l=ok at*;cases ok
   ·have HY:Hid (Y=(none,11)):=hid (by rw[Gr.out,if_neg (by decide)])
    clear Gr;go_wp2_with (first
     |(go_at_call 255;refine G4.out.mono ?_;rintro e w7⟨rfl,Gg⟩;have Gq:=hid (Gf.out.trans (Gg.mono Gf.out.size));clear Gg;have GC:=hid (Gi.out w7 Gq.out))
     |(go_at_call 50;first|refine G0.out.mono ?_;rintro e w8⟨rfl,rfl⟩|refine GC.out.mono ?_;rintro e w8⟨rfl,rfl⟩))
    go_ret3
    unfold y1k;rw[HY.out];exact⟨rfl,Gq.out⟩
   ·have HY:Hid (Y=(some (st,l),0)):=hid (by rw[Gr.out,if_pos rfl])
    clear Gr;go_wp2_with (first
     |(go_at_call 255;refine G4.out.mono ?_;rintro e w7⟨rfl,Gg⟩;have Gq:=hid (Gf.out.trans (Gg.mono Gf.out.size));have GE:=hid (z0r Gv.out Gg);clear Gg)
     |(go_at_call 50;refine G0.out.mono ?_;rintro e w8⟨rfl,rfl⟩))
    go_ret3
    unfold y1k;rw[HY.out];exact⟨⟨_,_,_,rfl,G2.out,GE.out⟩,Gq.out⟩
 ·rw[decide_eq_false Ge]
  have HY:Hid (Y=(none,12)):=hid (by rw[Gd.out,if_pos Ge]);clear Gd Ge;have GA:=hid (Gi.out wc Gb.out);go_wp2_with (go_at_call 50;refine GA.out.mono ?_;rintro e w3⟨rfl,rfl⟩)
  go_ret3
  unfold y1k;rw[HY.out];exact⟨rfl,Gb.out⟩
end
end
end Go.Proofs.YtmhbokcccjmfgaaGreatDoor
