/- part 19 -/
import Derived.Test.YtmhbokcccjmfgaaGreatDoorQar
set_option maxRecDepth 100000
set_option maxHeartbeats 16000000
namespace Go.Proofs.YtmhbokcccjmfgaaGreatDoor
open Go.Lib (hid)
section
open Go.RowKit Go.Maps Go.Sort Go.Shelf
theorem y3p w b (hB:Blk w b 40 #[((),()),((),())]) :
  () 180 #[(b,0,2,2)] w fun e w'=>e=.returned true/\Blw w w':=by
 have Ga:∀W,(Instr.makeMap 330 none).run Tryz.prog W=.ok (.map (some W.heap.size)) (W.alloc (.map #[] 0)):=fun _=>rfl
 have c0:(w.alloc (.map #[] 0)).cell? (b,0)=some ↑((),()):=(hB.alloc _).cell 0;have c1:(w.alloc (.map #[] 0)).cell? (b,1)=some ↑((),()):=(hB.alloc _).cell 1;have HB:=hid ((Below.refl _ w).alloc (nL _) (.map #[] 0));clear hB;go_enter Tryz.func180,Tryz.ntmps180
 go_wp2;refine wp_loop_rounds 3 ?_;rw[rounds_succ];go_wp2;refine wp_loop_rounds 1 ?_;rw[rounds_succ];go_wp2;rw[rounds_succ];go_wp2;refine wp_loop_rounds 1 ?_;rw[rounds_succ];go_wp2;rw[rounds_succ];go_wp2;go_ret;exact⟨rfl,HB.out⟩
theorem y5r{c w S lk last cur T}(h:z1y c w S lk last cur T):
  () 93 #[(c.x.h,0),((),()),((),())] w fun e w'=>e=.returned (.tuple #[((),()),()])/\Blw w w':=by
 have hm:=z1x (some (c.a.th 0,0));have Gl:∀W,(Instr.makeMap 271 none).run Tryz.prog W=.ok (.map (some W.heap.size)) (W.alloc (.map #[] 0)):=fun _=>rfl
 have Gk:Blw w (w.alloc (.cells #[((),()),((),())] 40)):=(Below.refl _ w).alloc (nL _) _;have HX:=hid h;have Ge:=hid (y3p _ _ (Blk.new w 40 #[((),()),((),())]));have HB:=hid Gk;clear h Gk;go_enter Tryz.func93,Tryz.ntmps93
 go_wp2_with fail
 refine Ge.out.mono ?_;rintro e W⟨rfl,hb⟩;have Ga:=hid (HB.out.trans (hb.mono HB.out.size));have Gc:=hid (HX.out.more_ Ga.out);have k0:W.cell? (c.x.h,0)=some (memV c.a):=Gc.out.sys.h.cell 0;have HE:=hid (z7q Gc.out.dev (j:=0) oM);unfold memV at k0;clear hb Ge HB;go_wp2_with fail
 refine HE.out.mono ?_;rintro e W1⟨rfl,rfl⟩;go_wp2_with fail
 refine wp_loop_rounds 1 ?_;rw[rounds_succ];go_wp2_with fail
 refine wp_loop_rounds 1 ?_;rw[rounds_succ];go_wp2_with fail
 refine wp_loop_rounds 1 ?_;rw[rounds_succ];go_wp2_with fail
 refine wp_loop_rounds 1 ?_;rw[rounds_succ];go_wp2_with fail
 have Gi:Blw W ((W.alloc (.map #[] 0)).alloc (.cells #[.map (some W.heap.size)] 271)):=((Below.refl _ W).alloc (nL _) _).alloc (by simp) _;have Gf:Hid (((W.alloc (.map #[] 0)).alloc (.cells #[.map (some W.heap.size)] 271)).ownsMap Tryz.prog 3 oneR W 0 (.map [])):=hid ((World.ownsMap_made W _ _ _).alloc _);have Gg:=hid (v3s _ W (.map []) rfl Gf.out (by simp[Maps.size]));have Gb:=hid (Ga.out.trans (Gi.mono Ga.out.size));clear Gi Gf HE;generalize ((W.alloc (.map #[] 0)).alloc (.cells #[.map (some W.heap.size)] 271))=W2 at*;refine(y2t _ _).mono ?_;rintro e w1⟨rfl,rfl⟩;go_wp2_with fail
 refine Gg.out.mono ?_;rintro e W3⟨rfl,Gj⟩;have Gd:=hid (Gb.out.trans ((((Below.refl _ W2).alloc (nL _) _).trans (Gj.mono (by simp))).mono Gb.out.size));have Gh:=hid (HX.out.more_ Gd.out);have k0:W3.cell? (c.x.h,0)=some (memV c.a):=Gh.out.sys.h.cell 0;have HE:=hid (z7q Gh.out.dev (j:=0) oM);unfold memV at k0;clear Gj Gg Gb Ga Gc;go_wp2_with fail
 refine wp_loop_rounds 1 ?_;rw[rounds_succ];go_wp2_with fail
 refine HE.out.mono ?_;rintro e W4⟨rfl,rfl⟩;go_wp2;go_ret2;exact⟨rfl,Gd.out⟩
theorem y8e(h:Nat)(w:World):() 96 #[(h,()),((),()),((),())] w fun e w'=>e=.returned (.tuple #[])/\w=w':=by
 go_enter Tryz.func96,Tryz.ntmps96
 go_wp2;refine wp_loop_rounds 1 ?_;rw[rounds_succ];go_wp2;go_end0;exact⟨rfl,rfl⟩
end
section
open Go.RowKit Go.Maps Go.Shelf
structure YTxE(c:YCX)(g:Nat)(w:World)(S:Fp)(t:TX)(cur:Nat->Nat)(T:Nat):Prop where
 base:z1y c w S false (some (g,0)) cur T
 tx:Blk w g 150 (z8m c.x.m t)
 outg:¬S g
 newg:c.b0<=g
theorem x6e{c g w S t D n cur T}(h:YTxS c g w S t D n cur T):
  z1y c (endW w g) S true (some (g,0)) cur T/\Blk (endW w g) g 150 (z8m c.x.m t):=by
 have hb:=h.base;refine⟨hb.chg (x4p w g) (fun k hk e=>h.outg (e▸hk)) (hb.apart1 h.tx h.newg (by unfold y1n;decide)),w5h h.tx⟩
theorem YTxE.of{c g w S t D n cur T}(h:YTxS c g w S t D n cur T):YTxE c g ((endW w g).setCell (c.x.h,7) false) S t cur T:=by
 obtain⟨h1,h2⟩:=x6e h;exact⟨h1.lock false,(Chg.refl (fun j=>j=c.x.h) (endW w g)).setCell (p:=⟨c.x.h,7,none⟩) (.inl rfl) false |>.blk h2 (h2.ne_ h1.sys.h (by decide)),h.outg,h.newg⟩
def YZE(c:YCX)(g:Nat):Fp:=fun j=>j=g\/j=c.x.h
def w4e(c:YCX)(g:Nat)(w:World)(S:Fp)(t:TX)(cur:Nat->Nat)(T:Nat)(v:Value)(e:Ending)(w':World):Prop:=e=.returned v/\YTxE c g w' S t cur T/\Chg (YZE c g) w w'
theorem x9l{c g w S t D n cur T}(h:YTxS c g w S t D n cur T):
  () 86 #[(g,0)] w (w4e c g w S t cur T (.tuple #[])):=by
 have Gc:w.cell? (g,11)=some (.map (some t.held)):=h.tx.cell 11;have HM:=hid h.maps.held;have HX:=hid h;clear h;go_enter Tryz.func86,Tryz.ntmps86
 go_wp2_with (first
  |(at_range;refine wpList_range_own _ rfl _ 143 rfl 32 173 z1g Tryz.underlying143 _ t.held 0 (.map []) rfl HM.out ?_;intro w0 hrg0 hg0 hs0;have HR:=hid hrg0;have Ga:=hid (HX.out.more_ ((Below.refl _ w).grown hg0 (nL _) (fun k e=>by cases e)));have Gb:=hid (Chg.of_below (S:=YZE c g) ((Below.refl _ w).grown hg0 (nL _) (fun k e=>by cases e)));clear hrg0 hg0 hs0)
  |go_in)
 have z8:w0.frozen? (g,8)=false:=Ga.out.tx.frozen 8;have z9:w0.frozen? (g,9)=false:=Ga.out.tx.frozen 9;have Gh:w0.frozen? (g,11)=false:=Ga.out.tx.frozen 11;have Gi:w0.frozen? (g,12)=false:=Ga.out.tx.frozen 12;have z0:w0.frozen? (g,0)=false:=Ga.out.tx.frozen 0;have z1:w0.frozen? (g,1)=false:=Ga.out.tx.frozen 1;have z2:w0.frozen? (g,2)=false:=Ga.out.tx.frozen 2;have z3:w0.frozen? (g,3)=false:=Ga.out.tx.frozen 3;have y8:w0.cell? (g,8)=some ↑t.open_:=Ga.out.tx.cell 8;have y9:w0.cell? (g,9)=some t.marks:=Ga.out.tx.cell 9;have Gf:w0.cell? (g,11)=some (.map (some t.held)):=Ga.out.tx.cell 11;have Gg:w0.cell? (g,12)=some (.map (some t.cover)):=Ga.out.tx.cell 12;have y0:w0.cell? (g,0)=some (.map (some t.words)):=Ga.out.tx.cell 0;have y1:w0.cell? (g,1)=some (.map (some t.inner)):=Ga.out.tx.cell 1;have y2:w0.cell? (g,2)=some (.map (some t.own)):=Ga.out.tx.cell 2;have y3:w0.cell? (g,3)=some (.map (some t.freed)):=Ga.out.tx.cell 3;have y6:w0.cell? (g,6)=some (c.x.m,0):=Ga.out.tx.cell 6;have m3:w0.cell? (c.x.m,3)=some (c.x.h,0):=Ga.out.base.sys.m.cell 3;have h7:w0.cell? (c.x.h,7)=some ↑true:=Ga.out.base.sys.h.cell 7;have zh:w0.frozen? (c.x.h,7)=false:=Ga.out.base.sys.h.frozen 7;have Gd:c.x.m≠g:=fun e=>Ga.out.base.sys.m.ne_ Ga.out.tx (by decide) e
 have Ge:c.x.h≠g:=fun e=>Ga.out.base.sys.h.ne_ Ga.out.tx (by decide) e
 have HE:=hid (YTxE.of Ga.out);have HZ:=hid ((Gb.out.trans ((x4p w0 g).mono (T:=YZE c g) (fun _ h => .inl h)) (Grew.refl _ _)).setCell (p:=⟨c.x.h,7,none⟩) (.inl (.inr rfl)) false);unfold endW at HE HZ;clear HX Ga Gb Gc HM;refine wp_loop_rounds 1 ?_;rw[rounds_succ];go_wp2_with (first
  |(at_next;refine wpList_next_ranges _ rfl _ rfl 32 z1g oneR encW id (fun key kl hk=>by obtain⟨x,hx,_⟩:=z1h Tryz.underlying32 hk;exact⟨x,hx⟩) (fun v _ _=>⟨v,rfl⟩) t.held _ 0 _ _ _ rfl HR.out ?_ ?_)
  |go_in)
 ·intro _ _
  go_wp2;go_end0;go_wp2;go_end0;exact⟨rfl,HE.out,HZ.out⟩
 ·intro x c kl yd yp w2 cnt2 hkey hlk
  exact absurd (show(false:Bool)=true from hlk) (by decide)
end
section
open Go.RowKit Go.Maps
theorem x1f{c g w S t D n cur T}(h:YTxS c g w S t D n cur T)(hop:t.open_=true) o (h8:o%8=0) (hlt:o<64*c.L) (hD:has D (kU o)=false) :
  () 36 #[(g,0),o] w fun e w'=>e=.returned (cur (o/8))/\Blw w w':=by
 have Gc:o<18446744073709551616:=by have:=c.hpl;omega
 obtain⟨v1,x1,p1,Gb,_⟩:=z5a h.maps.words Gc;rw[hD]at Gb;have c8:w.cell? (g,8)=some ↑true:=(h.tx.cell 8).trans (by simp[z1c,hop]);have c0:w.cell? (g,0)=some (.map (some t.words)):=h.tx.cell 0;have Ga:Blw w (w.alloc (.cells #[v1,x1,p1] 182)):=(Below.refl _ w).alloc (nL _) _;have hx:=h.more_ Ga;obtain⟨v2,Gd⟩:=y9r (tm:=142) (te:=32) hx.maps.inner Tryz.underlying142 (z := .int .u64 0) (by kernel_rfl) Gc;have d1:(w.alloc (.cells #[v1,x1,p1] 182)).cell? (g,1)=some (.map (some t.inner)):=hx.tx.cell 1;have d6:(w.alloc (.cells #[v1,x1,p1] 182)).cell? (g,6)=some (c.x.m,0):=hx.tx.cell 6;have m0:(w.alloc (.cells #[v1,x1,p1] 182)).cell? (c.x.m,0)=some (c.a.th 0,0):=hx.base.sys.m.cell 0;have HL:=hid (w6b hx.base.dev (j:=0) oM o h8 hlt);have HB:=hid Ga;have Ge:g<w.heap.size:=h.tx.lt;have Gf:c.x.m<w.heap.size:=h.base.sys.m.lt;clear h hop hD hx Ga h8 hlt;generalize cur (o/8)=vv at*;unfold z2o at Gb;go_enter Tryz.func36,Tryz.ntmps36
 go_wp2_with fail
 refine HL.out.mono ?_;rintro e w1⟨rfl,rfl⟩;go_wp2;go_ret;exact⟨rfl,HB.out⟩
def updX{α:Type}(f:Nat->α)(k:Nat)(v:α):Nat->α:=fun j=>if j=k then v else f j
theorem z1u{α:Type}(f:Nat->α) k (v:α):updX f k v k=v:=by simp[updX]
theorem z1j{α:Type}{f:Nat->α}{k j:Nat}{v:α}(h:j≠k):updX f k v j=f j:=by simp[updX,h]
structure CI where
 cb:Nat->Option Nat
 tA:Nat->Option Addr
 tc:Nat->Nat
 kA:Nat->Option Addr
 kc:Nat->Nat
 dA:Nat->Option Addr
 dc:Nat->Nat
 tl:Nat->List (Nat×Nat)
 dl:Nat->List Nat
def CI.tv(c:CI)(k:Nat):Value := .slice (c.tA k) (c.tl k).length (c.tc k)
def CI.kv(c:CI)(k:Nat):Value := .slice (c.kA k) (c.tl k).length (c.kc k)
def CI.dv(c:CI)(k:Nat):Value := .slice (c.dA k) (c.dl k).length (c.dc k)
structure ChI(w:World)(base mb N s K:Nat)(c:CI):Prop where
 map:ChM w mb N s K c.cb
 mbb:mb<base
 blk:∀k g,k<K->c.cb k=some g->Blk w g 274 #[c.tv k,c.kv k,c.dv k]/\base<=g
 o1:∀k,k<K->w.ownsRow base 3 1 (c.tv k) (c.tl k).length (z1f ((c.tl k).map (·.1)))
 o2:∀k,k<K->w.ownsRow base 5 1 (c.kv k) (c.tl k).length (u8s ((c.tl k).map (·.2)))
 o3:∀k,k<K->w.ownsRow base 3 1 (c.dv k) (c.dl k).length (z1f (c.dl k))
 a1:∀k k' g,k<K->k'<K->(c.tv k).ownBlock=some g->(c.tv k').ownBlock=some g->k=k'
 a2:∀k k' g,k<K->k'<K->(c.kv k).ownBlock=some g->(c.kv k').ownBlock=some g->k=k'
 a3:∀k k' g,k<K->k'<K->(c.dv k).ownBlock=some g->(c.dv k').ownBlock=some g->k=k'
 a13:∀k k' g,k<K->k'<K->(c.tv k).ownBlock=some g->(c.dv k').ownBlock≠some g
 ac:∀k k' g,k<K->k'<K->c.cb k=some g->c.cb k'=some g->k=k'
 none_:∀k,k<K->c.cb k=none->c.tl k=[]/\c.dl k=[]/\c.tv k=↑((),())/\c.kv k=↑((),())/\c.dv k=↑((),())
section
variable{w w':World}{base mb N s K:Nat}{c:CI}{k g:Nat}
theorem ChI.chg{Z}(h:ChI w base mb N s K c)(hc:Chg Z w w')(hZ:∀g,base<=g->¬Z g)(hm:¬Z mb):ChI w' base mb N s K c :=
 {h with
  map:=h.map.chg hc hm
  blk:=fun k g hk hg=>⟨hc.blk (h.blk k g hk hg).1 (hZ _ (h.blk k g hk hg).2),(h.blk k g hk hg).2⟩
  o1:=fun k hk=>hc.own (h.o1 k hk) (fun g hg=>hZ _ ((h.o1 k hk).lt g hg).1)
  o2:=fun k hk=>hc.own (h.o2 k hk) (fun g hg=>hZ _ ((h.o2 k hk).lt g hg).1)
  o3:=fun k hk=>hc.own (h.o3 k hk) (fun g hg=>hZ _ ((h.o3 k hk).lt g hg).1) }
theorem ChI.below(h:ChI w base mb N s K c)(hb:Blw w w'):ChI w' base mb N s K c:=h.chg (Chg.of_below (S:=Fp.no) hb) (fun _ _ h=>h) (fun h=>h)
theorem ChI.made(h:ChI w base mb N s K c)(hk:k<K)(hn:c.cb k=none)(hb:base<=w)(hm:ChM w' mb (N+1) s K (updO c.cb k (some w.heap.size)))(hB:Blk w' w 274 #[((),()),((),()),((),())])(hc:Chg (fun j=>j=mb) w w'):
  ChI w' base mb (N+1) s K { c with cb:=updO c.cb k (some w.heap.size) }:=by
 have Ga:∀{t:TypeId}{e:TypeId}{size n:Nat}{v:Value}{xs:List Value}{g:Nat},w.ownsRow base e size v n xs->v.ownBlock=some g->¬g=mb:=fun {_ _ _ _ _ _ g} ho hg e=>by
  obtain⟨D,hD,_⟩:=h.map;exact z2j hD ho (by rw[hg,e])
 obtain⟨n1,n2,n3,n4,n5⟩:=h.none_ k hk hn;refine⟨hm,h.mbb,fun j g' hj hg'=>?_,fun j hj=>hc.own (h.o1 j hj) (fun g hg=>Ga (t:=3) (h.o1 j hj) hg),fun j hj=>hc.own (h.o2 j hj) (fun g hg=>Ga (t:=3) (h.o2 j hj) hg),fun j hj=>hc.own (h.o3 j hj) (fun g hg=>Ga (t:=3) (h.o3 j hj) hg),h.a1,h.a2,h.a3,h.a13,fun i j g' hi hj h1 h2=>?_,fun j hj hj0=>?_⟩
 ·dsimp only at hg'
  unfold updO at hg';by_cases e:j=k
  ·rw[if_pos e]at hg'
   injection hg' with hg'
   subst hg';subst e;refine⟨?_,hb⟩;show Blk w' w _ #[c.tv j,c.kv j,c.dv j];rw[n3,n4,n5];exact hB
  ·rw[if_neg e]at hg'
   obtain⟨b1,b2⟩:=h.blk j g' hj hg';refine⟨hc.blk b1 (fun e'=>?_),b2⟩;obtain⟨D,hD,_⟩:=h.map;exact z4t hD b1 e'
 ·dsimp only at h1 h2
  unfold updO at h1 h2;by_cases e1:i=k
  ·by_cases e2:j=k
   ·rw[e1,e2]
   ·rw[if_pos e1]at h1
    rw[if_neg e2]at h2;injection h1 with h1
    have:=(h.blk j g' hj h2).1.lt;omega
  ·by_cases e2:j=k
   ·rw[if_neg e1]at h1
    rw[if_pos e2]at h2;injection h2 with h2
    have:=(h.blk i g' hi h1).1.lt;omega
   ·rw[if_neg e1]at h1
    rw[if_neg e2]at h2;exact h.ac i j g' hi hj h1 h2
 ·dsimp only at hj0
  unfold updO at hj0;by_cases e:j=k
  ·rw[if_pos e]at hj0;cases hj0
  ·rw[if_neg e]at hj0
   exact h.none_ j hj hj0
def CI.take(c:CI)(k:Nat)(A2:Option Addr)(c2:Nat)(A4:Option Addr)(c4:Nat)(i kd:Nat):CI :=
 { c with tA:=updX c.tA k A2,tc:=updX c.tc k c2,kA:=updX c.kA k A4,kc:=updX c.kc k c4,tl:=updX c.tl k (c.tl k++[(i,kd)]) }
theorem ChI.take{w1 w2 w3 w4 A2 A4 n2 c2 n4 c4 i kd}(h:ChI w base mb N s K c)(hk:k<K)(hg:c.cb k=some g)
  (e1:Chg Fp.no w w1) (g2:w1.grownBy w2 (c.tv k).ownBlock) (r2:w2.ownsRow base 3 1 (.slice A2 n2 c2) n2 (z1f ((c.tl k).map (·.1))++[.int .i64 i])) (hn2:n2=(c.tl k).length+1) (b2:(Value.slice A2 n2 c2).ownBlock=(c.tv k).ownBlock\/(Value.slice A2 n2 c2).ownBlock=some w1.heap.size)
  (e3:Chg Fp.no w2 w3) (g4:w3.grownBy w4 (c.kv k).ownBlock) (r4:w4.ownsRow base 5 1 (.slice A4 n4 c4) n4 (u8s ((c.tl k).map (·.2))++[.int .u8 kd])) (hn4:n4=(c.tl k).length+1) (b4:(Value.slice A4 n4 c4).ownBlock=(c.kv k).ownBlock\/(Value.slice A4 n4 c4).ownBlock=some w3.heap.size) :
  ChI ((w4.setCell (g,()) (.slice A2 n2 c2)).setCell ⟨g,1,none⟩ (.slice A4 n4 c4)) base mb N s K (c.take k A2 c2 A4 c4 i kd)/\Chg (fun j=>base<=j) w ((w4.setCell (g,()) (.slice A2 n2 c2)).setCell ⟨g,1,none⟩ (.slice A4 n4 c4)):=by
 obtain⟨Gc,Gm⟩:=h.blk k g hk hg;have z2:(w2.heap.size)≥w1.heap.size:=g2.size;have z1:=e1.size;have z3:=e3.size;have hZ:Chg (fun j=>j=g\/(c.tv k).ownBlock=some j\/(c.kv k).ownBlock=some j) w ((w4.setCell (g,()) (.slice A2 n2 c2)).setCell ⟨g,1,none⟩ (.slice A4 n4 c4)):=by
  have q1:Chg (fun j=>j=g\/(c.tv k).ownBlock=some j\/(c.kv k).ownBlock=some j) w w1:=e1.mono (fun _ h=>h.elim);have q2:=q1.grown g2 (fun g' hg' => .inl (.inr (.inl hg')));have q3:=q2.trans e3 (fun _ h=>h.elim);have q4:=q3.grown g4 (fun g' hg' => .inl (.inr (.inr hg')));exact(q4.setCell (.inl (.inl rfl)) _).setCell (.inl (.inl rfl)) _
 obtain⟨D,hD,_⟩:=id h.map;have nt:∀j,j<K->j≠k->∀g',(c.tv j).ownBlock=some g'->¬(g'=g\/(c.tv k).ownBlock=some g'\/(c.kv k).ownBlock=some g'):=fun j hj Ge g' hg' hz=>by
  rcases hz with e|e|e
  ·subst e;exact z0l (h.o1 j hj) Gc (by decide) hg'
  ·exact Ge (h.a1 j k g' hj hk hg' e)
  ·rcases z1v (h.o1 j hj) (h.o2 k hk) (by decide)with e2|e2
   ·rw[e2]at hg';cases hg'
   ·exact e2 (by rw[hg',e])
 have nk:∀j,j<K->j≠k->∀g',(c.kv j).ownBlock=some g'->¬(g'=g\/(c.tv k).ownBlock=some g'\/(c.kv k).ownBlock=some g'):=fun j hj Ge g' hg' hz=>by
  rcases hz with e|e|e
  ·subst e;exact z0l (h.o2 j hj) Gc (by decide) hg'
  ·rcases z1v (h.o2 j hj) (h.o1 k hk) (by decide)with e2|e2
   ·rw[e2]at hg';cases hg'
   ·exact e2 (by rw[hg',e])
  ·exact Ge (h.a2 j k g' hj hk hg' e)
 have nd:∀j,j<K->∀g',(c.dv j).ownBlock=some g'->¬(g'=g\/(c.tv k).ownBlock=some g'\/(c.kv k).ownBlock=some g'):=fun j hj g' hg' hz=>by
  rcases hz with e|e|e
  ·subst e;exact z0l (h.o3 j hj) Gc (by decide) hg'
  ·exact h.a13 k j g' hk hj e hg'
  ·rcases z1v (h.o3 j hj) (h.o2 k hk) (by decide)with e2|e2
   ·rw[e2]at hg';cases hg'
   ·exact e2 (by rw[hg',e])
 have Ga:∀g',g'<w.heap.size->(Value.slice A2 n2 c2).ownBlock=some g'->(c.tv k).ownBlock=some g':=fun g' hlt hg'=>by
  rcases b2 with e|e
  ·rw[<- e];exact hg'
  ·rw[e]at hg';injection hg' with hg';omega
 have Gb:∀g',g'<w.heap.size->(Value.slice A4 n4 c4).ownBlock=some g'->(c.kv k).ownBlock=some g':=fun g' hlt hg'=>by
  rcases b4 with e|e
  ·rw[<- e];exact hg'
  ·rw[e]at hg';injection hg' with hg';omega
 have Gu:=Gc.lt;have k1:=e1.blk Gc (fun h=>h);have k2:=k1.grown g2 (fun e=>z0l (h.o1 k hk) Gc (by decide) e.symm);have k3:=e3.blk k2 (fun h=>h);have k4:=k3.grown g4 (fun e=>z0l (h.o2 k hk) Gc (by decide) e.symm);have k5:=(k4.set_ 0 (.slice A2 n2 c2)).set_ 1 (.slice A4 n4 c4);have Gg:∀u,(Value.slice A2 n2 c2).ownBlock=some u->u≠g:=fun u hu e=>by
  rw[e]at hu;exact z0l r2 k2 (by decide) hu
 have Gh:∀u,(Value.slice A4 n4 c4).ownBlock=some u->u≠g:=fun u hu e=>by
  rw[e]at hu;exact z0l r4 k4 (by decide) hu
 have r3:=e3.own r2 (fun _ _ h=>h);have Gs:=e3.own ((e1.own (h.o2 k hk) (fun _ _ h=>h)).kept g2 (z1v (h.o2 k hk) (h.o1 k hk) (by decide))) (fun _ _ h=>h);have Gt:=r3.kept g4 (z1v r3 Gs (by decide));have s2:=ownsRow_setCell_other (ownsRow_setCell_other Gt (a:=⟨g,0,none⟩) (fun e=>Gg g e rfl) (.slice A2 n2 c2)) (a:=⟨g,1,none⟩) (fun e=>Gg g e rfl) (.slice A4 n4 c4);have s4:=ownsRow_setCell_other (ownsRow_setCell_other r4 (a:=⟨g,0,none⟩) (fun e=>Gh g e rfl) (.slice A2 n2 c2)) (a:=⟨g,1,none⟩) (fun e=>Gh g e rfl) (.slice A4 n4 c4);have Gi:(c.take k A2 c2 A4 c4 i kd).tv k=.slice A2 n2 c2:=by
  show Value.slice (updX c.tA k A2 k) (updX c.tl k (c.tl k++[(i,kd)]) k).length (updX c.tc k c2 k)=_;rw[z1u,z1u,z1u,List.length_append,hn2];rfl
 have Gk:(c.take k A2 c2 A4 c4 i kd).kv k=.slice A4 n4 c4:=by
  show Value.slice (updX c.kA k A4 k) (updX c.tl k (c.tl k++[(i,kd)]) k).length (updX c.kc k c4 k)=_;rw[z1u,z1u,z1u,List.length_append,hn4];rfl
 have Gd:∀j,j≠k->(c.take k A2 c2 A4 c4 i kd).tv j=c.tv j:=fun j hj=>by
  show Value.slice (updX c.tA k A2 j) (updX c.tl k (c.tl k++[(i,kd)]) j).length (updX c.tc k c2 j)=_;rw[z1j hj,z1j hj,z1j hj];rfl
 have Gf:∀j,j≠k->(c.take k A2 c2 A4 c4 i kd).kv j=c.kv j:=fun j hj=>by
  show Value.slice (updX c.kA k A4 j) (updX c.tl k (c.tl k++[(i,kd)]) j).length (updX c.kc k c4 j)=_;rw[z1j hj,z1j hj,z1j hj];rfl
 have Gl:∀j,j≠k->(c.take k A2 c2 A4 c4 i kd).tl j=c.tl j:=fun j hj=>z1j hj
 have Gn:(c.take k A2 c2 A4 c4 i kd).tl k=c.tl k++[(i,kd)]:=z1u _ _ _;have Gj:∀j,(c.take k A2 c2 A4 c4 i kd).dv j=c.dv j:=fun j=>rfl
 have Gr:¬(mb=g\/(c.tv k).ownBlock=some mb\/(c.kv k).ownBlock=some mb):=fun hz=>by
  rcases hz with e|e|e
  ·exact z4t hD Gc e.symm
  ·exact z2j hD (h.o1 k hk) e.symm
  ·exact z2j hD (h.o2 k hk) e.symm
 refine⟨⟨h.map.chg hZ Gr,h.mbb,fun j g' hj hg'=>?_,fun j hj=>?_,fun j hj=>?_,fun j hj=>?_,fun i' j g' hi hj h1 h2=>?_,fun i' j g' hi hj h1 h2=>?_,h.a3,fun i' j g' hi hj h1=>?_,h.ac,fun j hj hj0=>?_⟩,hZ.mono (fun j hj=>?_)⟩
 ·by_cases e:j=k
  ·subst e
   have Gq:g'=g:=by
    have h9:c.cb j=some g':=hg';rw[hg]at h9;injection h9 with h9
    exact h9.symm
   subst Gq;refine⟨?_,Gm⟩;rw[Gi,Gk,Gj];simpa using k5
  ·obtain⟨b1,Gp⟩:=h.blk j g' hj hg'
   refine⟨?_,Gp⟩;rw[Gd j e,Gf j e,Gj];refine hZ.blk b1 (fun hz=>?_);rcases hz with e'|e'|e'
   ·subst e';exact e (h.ac j k g' hj hk hg' hg)
   ·exact z0l (h.o1 k hk) b1 (by decide) e'
   ·exact z0l (h.o2 k hk) b1 (by decide) e'
 ·by_cases e:j=k
  ·subst e
   rw[Gi,Gn,List.map_append,show z1f ((c.tl j).map (·.1)++[(i,kd)].map (·.1))=z1f ((c.tl j).map (·.1))++[.int .i64 i] by simp[z1f],List.length_append];rw[show(c.tl j).length+[(i,kd)].length=n2 by rw[hn2];rfl];exact s2
  ·rw[Gd j e,Gl j e]
   exact hZ.own (h.o1 j hj) (nt j hj e)
 ·by_cases e:j=k
  ·subst e
   rw[Gk,Gn,List.map_append,show u8s ((c.tl j).map (·.2)++[(i,kd)].map (·.2))=u8s ((c.tl j).map (·.2))++[.int .u8 kd] by simp[u8s],List.length_append];rw[show(c.tl j).length+[(i,kd)].length=n4 by rw[hn4];rfl];exact s4
  ·rw[Gf j e,Gl j e]
   exact hZ.own (h.o2 j hj) (nk j hj e)
 ·exact hZ.own (h.o3 j hj) (nd j hj)
 ·by_cases e1':i'=k
  ·by_cases e2':j=k
   ·rw[e1',e2']
   ·rw[e1',Gi]at h1
    rw[Gd j e2']at h2;exact absurd (h.a1 j k g' hj hk h2 (Ga g' ((h.o1 j hj).lt g' h2).2 h1)) e2'
  ·by_cases e2':j=k
   ·rw[e2',Gi]at h2
    rw[Gd i' e1']at h1;exact absurd (h.a1 i' k g' hi hk h1 (Ga g' ((h.o1 i' hi).lt g' h1).2 h2)) e1'
   ·rw[Gd i' e1']at h1
    rw[Gd j e2']at h2;exact h.a1 i' j g' hi hj h1 h2
 ·by_cases e1':i'=k
  ·by_cases e2':j=k
   ·rw[e1',e2']
   ·rw[e1',Gk]at h1
    rw[Gf j e2']at h2;exact absurd (h.a2 j k g' hj hk h2 (Gb g' ((h.o2 j hj).lt g' h2).2 h1)) e2'
  ·by_cases e2':j=k
   ·rw[e2',Gk]at h2
    rw[Gf i' e1']at h1;exact absurd (h.a2 i' k g' hi hk h1 (Gb g' ((h.o2 i' hi).lt g' h1).2 h2)) e1'
   ·rw[Gf i' e1']at h1
    rw[Gf j e2']at h2;exact h.a2 i' j g' hi hj h1 h2
 ·intro h2
  rw[Gj]at h2;by_cases e1':i'=k
  ·rw[e1',Gi]at h1
   exact h.a13 k j g' hk hj (Ga g' ((h.o3 j hj).lt g' h2).2 h1) h2
  ·rw[Gd i' e1']at h1
   exact h.a13 i' j g' hi hj h1 h2
 ·have Ge:j≠k:=fun e=>by
   have h9:c.cb j=none:=hj0;rw[e,hg]at h9;cases h9
  rw[Gl j Ge,Gd j Ge,Gf j Ge,Gj];exact h.none_ j hj hj0
 ·rcases hj with e|e|e
  ·rw[e];exact Gm
  ·exact((h.o1 k hk).lt j e).1
  ·exact((h.o2 k hk).lt j e).1
end
end
section
open Go.RowKit Go.Maps Go.Shelf Go.Sort
def z7z(a b:ByteArray):Int:=Lib.compareBytes a.data.toList b.data.toList
theorem x8l a b w:() 262 #[.string a,.string b] w fun e w'=>e=.returned [z7z a b]/\w=w':=by
 go_enter Tryz.func262,Tryz.ntmps262
 go_wp2_with fail
 rw[run_callFunc_extern Tryz.func312 (by kernel_rfl) (by kernel_rfl) (by kernel_rfl) (e:=Extern.BytealgCompare.compare) (by kernel_rfl),Lib.run_compareString];simp only[Result.andThen];rw[Oper.upon_value];go_wp2_with fail
 go_ret;exact⟨rfl,rfl⟩
theorem x8n a b w:() 201 #[.string a,.string b] w fun e w'=>e=.returned [z7z a b]/\w=w':=by
 have H:=hid (fun W=>x8l a b W);generalize z7z a b=r at*;go_enter Tryz.func201,Tryz.ntmps201
 go_wp2_with (go_at_call 262;refine(H.out _).mono ?_;rintro e w'⟨rfl,rfl⟩)
 go_ret;exact⟨rfl,rfl⟩
theorem x3l(a b:ByteArray)(u v:Nat)(w:World):() 200 #[.agg #[.string a,u],.agg #[.string b,v]] w fun e w'=>e=.returned [z7z a b]/\∃q os',w'=grow (w.drewN q) os':=by
 have H:=hid (fun W=>x8n a b W);generalize z7z a b=r at*;go_enter Tryz.func200,Tryz.ntmps200
 go_wp2_with (go_at_call 201;refine(H.out _).mono ?_;rintro e w'⟨rfl,rfl⟩)
 go_ret;exact⟨rfl,0,_,by rw[alloc_eq_grow,alloc_eq_grow,grow_grow];rfl⟩
end
section
open Go.RowKit Go.Maps
section
variable{w w':World}{base mb N s K:Nat}{c:CI}{k g:Nat}
def CI.zero:CI:=⟨fun _=>none,fun _=>none,fun _=>0,fun _=>none,fun _=>0,fun _=>none,fun _=>0,fun _=>[],fun _=>[]⟩
theorem ChI.zero(hm:ChM w mb N s K (fun _=>none))(hb:mb<base):ChI w base mb N s K CI.zero:=by
 refine⟨hm,hb,fun k g hk hg=>?_,fun k _=>World.ownsRow_nil _ _ _ _,fun k _=>World.ownsRow_nil _ _ _ _,fun k _=>World.ownsRow_nil _ _ _ _,fun k k' g _ _ h=>?_,fun k k' g _ _ h=>?_,fun k k' g _ _ h=>?_,fun k k' g _ _ h=>?_,fun k k' g _ _ h=>?_,fun k _ _=>⟨rfl,rfl,rfl,rfl,rfl⟩⟩
 ·cases hg
 ·cases h
 ·cases h
 ·cases h
 ·cases h
 ·cases h
def CI.drop(c:CI)(k:Nat)(A2:Option Addr)(c2:Nat)(i:Nat):CI :=
 { c with dA:=updX c.dA k A2,dc:=updX c.dc k c2,dl:=updX c.dl k (c.dl k++[i]) }
theorem ChI.drop{w1 w2 A2 n2 c2 i}(h:ChI w base mb N s K c)(hk:k<K)(hg:c.cb k=some g)
  (e1:Chg Fp.no w w1) (g2:w1.grownBy w2 (c.dv k).ownBlock) (r2:w2.ownsRow base 3 1 (.slice A2 n2 c2) n2 (z1f (c.dl k)++[.int .i64 i])) (hn2:n2=(c.dl k).length+1) (b2:(Value.slice A2 n2 c2).ownBlock=(c.dv k).ownBlock\/(Value.slice A2 n2 c2).ownBlock=some w1.heap.size) :
  ChI (w2.setCell (g,2) (.slice A2 n2 c2)) base mb N s K (c.drop k A2 c2 i)/\Chg (fun j=>base<=j) w (w2.setCell (g,2) (.slice A2 n2 c2)):=by
 obtain⟨Gc,Gi⟩:=h.blk k g hk hg;have z2:(w2.heap.size)≥w1.heap.size:=g2.size;have z1:=e1.size;have hZ:Chg (fun j=>j=g\/(c.dv k).ownBlock=some j) w (w2.setCell (g,2) (.slice A2 n2 c2)):=by
  have q1:Chg (fun j=>j=g\/(c.dv k).ownBlock=some j) w w1:=e1.mono (fun _ h=>h.elim);exact(q1.grown g2 (fun g' hg' => .inl (.inr hg'))).setCell (.inl (.inl rfl)) _
 obtain⟨D,hD,_⟩:=id h.map;have nt:∀j,j<K->∀g',(c.tv j).ownBlock=some g'->¬(g'=g\/(c.dv k).ownBlock=some g'):=fun j hj g' hg' hz=>by
  rcases hz with e|e
  ·subst e;exact z0l (h.o1 j hj) Gc (by decide) hg'
  ·exact h.a13 j k g' hj hk hg' e
 have nk:∀j,j<K->∀g',(c.kv j).ownBlock=some g'->¬(g'=g\/(c.dv k).ownBlock=some g'):=fun j hj g' hg' hz=>by
  rcases hz with e|e
  ·subst e;exact z0l (h.o2 j hj) Gc (by decide) hg'
  ·rcases z1v (h.o2 j hj) (h.o3 k hk) (by decide)with e2|e2
   ·rw[e2]at hg';cases hg'
   ·exact e2 (by rw[hg',e])
 have nd:∀j,j<K->j≠k->∀g',(c.dv j).ownBlock=some g'->¬(g'=g\/(c.dv k).ownBlock=some g'):=fun j hj Ge g' hg' hz=>by
  rcases hz with e|e
  ·subst e;exact z0l (h.o3 j hj) Gc (by decide) hg'
  ·exact Ge (h.a3 j k g' hj hk hg' e)
 have Ga:∀g',g'<w.heap.size->(Value.slice A2 n2 c2).ownBlock=some g'->(c.dv k).ownBlock=some g':=fun g' hlt hg'=>by
  rcases b2 with e|e
  ·rw[<- e];exact hg'
  ·rw[e]at hg';injection hg' with hg';omega
 have k1:=e1.blk Gc (fun h=>h);have k2:=k1.grown g2 (fun e=>z0l (h.o3 k hk) Gc (by decide) e.symm);have k5:=k2.set_ 2 (.slice A2 n2 c2);have Gf:∀u,(Value.slice A2 n2 c2).ownBlock=some u->u≠g:=fun u hu e=>by
  rw[e]at hu;exact z0l r2 k2 (by decide) hu
 have s2:=ownsRow_setCell_other r2 (a:=⟨g,2,none⟩) (fun e=>Gf g e rfl) (.slice A2 n2 c2);have Gd:(c.drop k A2 c2 i).dv k=.slice A2 n2 c2:=by
  show Value.slice (updX c.dA k A2 k) (updX c.dl k (c.dl k++[i]) k).length (updX c.dc k c2 k)=_;rw[z1u,z1u,z1u,List.length_append,hn2];rfl
 have Gb:∀j,j≠k->(c.drop k A2 c2 i).dv j=c.dv j:=fun j hj=>by
  show Value.slice (updX c.dA k A2 j) (updX c.dl k (c.dl k++[i]) j).length (updX c.dc k c2 j)=_;rw[z1j hj,z1j hj,z1j hj];rfl
 have Gh:∀j,j≠k->(c.drop k A2 c2 i).dl j=c.dl j:=fun j hj=>z1j hj
 have Gl:(c.drop k A2 c2 i).dl k=c.dl k++[i]:=z1u _ _ _;have Gg:∀j,(c.drop k A2 c2 i).tv j=c.tv j:=fun j=>rfl
 have Gj:∀j,(c.drop k A2 c2 i).kv j=c.kv j:=fun j=>rfl
 have Gn:¬(mb=g\/(c.dv k).ownBlock=some mb):=fun hz=>by
  rcases hz with e|e
  ·exact z4t hD Gc e.symm
  ·exact z2j hD (h.o3 k hk) e.symm
 refine⟨⟨h.map.chg hZ Gn,h.mbb,fun j g' hj hg'=>?_,fun j hj=>hZ.own (h.o1 j hj) (nt j hj),fun j hj=>hZ.own (h.o2 j hj) (nk j hj),fun j hj=>?_,h.a1,h.a2,fun i' j g' hi hj h1 h2=>?_,fun i' j g' hi hj h1=>?_,h.ac,fun j hj hj0=>?_⟩,hZ.mono (fun j hj=>?_)⟩
 ·by_cases e:j=k
  ·subst e
   have Gm:g'=g:=by
    have h9:c.cb j=some g':=hg';rw[hg]at h9;injection h9 with h9
    exact h9.symm
   subst Gm;refine⟨?_,Gi⟩;rw[Gg,Gj,Gd];simpa using k5
  ·obtain⟨b1,Gk⟩:=h.blk j g' hj hg'
   refine⟨?_,Gk⟩;rw[Gg,Gj,Gb j e];refine hZ.blk b1 (fun hz=>?_);rcases hz with e'|e'
   ·subst e';exact e (h.ac j k g' hj hk hg' hg)
   ·exact z0l (h.o3 k hk) b1 (by decide) e'
 ·by_cases e:j=k
  ·subst e
   rw[Gd,Gl,show z1f (c.dl j++[i])=z1f (c.dl j)++[.int .i64 i] by simp[z1f],List.length_append];rw[show(c.dl j).length+[i].length=n2 by rw[hn2];rfl];exact s2
  ·rw[Gb j e,Gh j e]
   exact hZ.own (h.o3 j hj) (nd j hj e)
 ·by_cases e1':i'=k
  ·by_cases e2':j=k
   ·rw[e1',e2']
   ·rw[e1',Gd]at h1
    rw[Gb j e2']at h2;exact absurd (h.a3 j k g' hj hk h2 (Ga g' ((h.o3 j hj).lt g' h2).2 h1)) e2'
  ·by_cases e2':j=k
   ·rw[e2',Gd]at h2
    rw[Gb i' e1']at h1;exact absurd (h.a3 i' k g' hi hk h1 (Ga g' ((h.o3 i' hi).lt g' h1).2 h2)) e1'
   ·rw[Gb i' e1']at h1
    rw[Gb j e2']at h2;exact h.a3 i' j g' hi hj h1 h2
 ·intro h2
  rw[Gg]at h1;by_cases e2':j=k
  ·rw[e2',Gd]at h2
   exact h.a13 i' k g' hi hk h1 (Ga g' ((h.o1 i' hi).lt g' h1).2 h2)
  ·rw[Gb j e2']at h2
   exact h.a13 i' j g' hi hj h1 h2
 ·have Ge:j≠k:=fun e=>by
   have h9:c.cb j=none:=hj0;rw[e,hg]at h9;cases h9
  rw[Gh j Ge,Gb j Ge];exact h.none_ j hj hj0
 ·rcases hj with e|e
  ·rw[e];exact Gi
  ·exact((h.o3 k hk).lt j e).1
theorem y8o(h:ChI w base mb N s K c)(hk:k<K)(hs:s+32*k<9000000000)(hN:N<1000000000)(hb:base<=w)(vb:Nat)(hv:w.cell? (vb,())=some (.map (some mb))):
  () 182 #[[s+32*k],(vb,())] w fun e w'=>∃g c1,e=.returned (g,())/\ChI w' base mb (N+1) s K c1/\c1.cb k=some g/\c1.tl=c.tl/\c1.dl=c.dl/\(∀j,j≠k->c1.cb j=c.cb j)/\Chg (fun j=>j=mb) w w':=by
 refine(w4w h.map k hk hs hN vb hv).mono ?_;rintro e w' (⟨g,hg,he,rfl⟩|⟨hn,he,hm,hB,hc⟩)
 ·exact⟨g,c,he,{ h with map:=h.map.mono (Nat.le_succ N) },hg,rfl,rfl,fun _ _=>rfl,Chg.refl _ _⟩
 ·exact⟨w.heap.size,{ c with cb:=updO c.cb k (some w.heap.size) },he,h.made hk hn hb hm hB hc,by simp[updO],rfl,rfl,fun j hj=>by simp[updO,hj],hc⟩
end
end
section
open Go.RowKit Go.Maps
structure SD(a:DA)(L T s n K:Nat)(x:HA)(cs:Nat->CS)(f:Nat->Option Nat)(N m b0:Nat)(S:Fp)(cur:Nat->Nat)(w:World)(d r:Nat):Prop where
 ds:DS a L T s n K x cs f N m b0 S cur w
 dir:Blk w d 292 (z2p a x.h r)
 log:Blk w r 316 (z1q a 0 26)
 idle:cur (8*0)=0
 offd:¬S d
 offr:¬S r
 ln:0+26<=s
 ul:x.lk=false
section
variable{a:DA}{L T s n K:Nat}{x:HA}{cs:Nat->CS}{f:Nat->Option Nat}{N m b0:Nat}{S:Fp}{cur:Nat->Nat}{w w':World}{d r:Nat}
theorem SD.below(h:SD a L T s n K x cs f N m b0 S cur w d r)(hb:Blw w w'):SD a L T s n K x cs f N m b0 S cur w' d r :=
 { h with ds:=h.ds.below hb,dir:=h.dir.below hb h.dir.lt,log:=h.log.below hb h.log.lt }
theorem SD.more{T'}(h:SD a L T s n K x cs f N m b0 S cur w d r)(hT:T<=T')(hT':T'<=1000000000):SD a L T' s n K x cs f N m b0 S cur w d r:={ h with ds:=h.ds.more hT hT' }
theorem DS.fp_ne(h:DS a L T s n K x cs f N m b0 S cur w){g}{t:TypeId}{vs}(hB:Blk w g t vs)(hne:t≠342):¬x.fp g:=fun hz=>by
 obtain⟨h1,Ga,hp,hk⟩:=h.hs.plc;obtain⟨m1,m2⟩:=h.hs.map_ne hB;rcases hz with e|e|e
 ·exact hB.ne_ hp hne e
 ·exact m1 e
 ·exact m2 e
theorem DS.drewS(h:DS a L T s n K x cs f N m b0 S cur w):DS a L T s n K x cs f N m b0 S cur w.drew:=h.below (Below.refl _ _).drew
def sfp(S:Fp)(x:HA):Fp:=fun j=>S j\/x.fp j
theorem SD.keep{T' N' m' cs' f' S' cur'}(h:SD a L T s n K x cs f N m b0 S cur w d r)(hd:DS a L T' s n K x cs' f' N' m' b0 S' cur' w')(hc:Chg (sfp S x) w w')(hg:Grew S S' w)(hi:cur' (8*0)=0):SD a L T' s n K x cs' f' N' m' b0 S' cur' w' d r:=by
 refine⟨hd,hc.blk h.dir ?_,hc.blk h.log ?_,hi,hg.off ⟨h.dir.lt,h.offd⟩,hg.off ⟨h.log.lt,h.offr⟩,h.ln,h.ul⟩
 ·rintro (e|e)
  ·exact h.offd e
  ·exact h.ds.fp_ne h.dir (by decide) e
 ·rintro (e|e)
  ·exact h.offr e
  ·exact h.ds.fp_ne h.log (by decide) e
theorem y5k.ahead{cl k i cs' cur'}(h:y5k s K cs f cur cl cs' cur' k i)(hd:DS a L T s n K x cs f N m b0 S cur w)(hcl:cl<5){j}(hj:j<8*s):cur' j=cur j:=by
 obtain⟨v1,v2,v3,v4,v5,v6⟩:=h.vac;have hz:∀c:Nat->Nat,wrS c (zerW (offO s cs' k i) (payW cl)) j=c j:=fun c=>z1s _ _ _ (fun e he=>by
  obtain⟨q,hq,rfl⟩:=z5t he;have:offO s cs' k i=blkO (s+32*k) cl i:=by unfold offO;rw[v3]
  show(offO s cs' k i+8*q)/8≠j;rw[this];unfold blkO;omega)
 rcases h.how with ⟨_,e⟩|⟨k0,hk0,hd0,_,_,e⟩
 ·rw[e,hz]
 ·rw[e,hz]
  have Ga:=hd.ok k0 hk0;unfold CSok at Ga;rw[hd0]at Ga;exact y0z hcl Ga.2.2 (.inl oM)
theorem w8c(h:SD a L T s n K x cs f N m b0 S cur w d r)(p kind:Nat)(hp64:p<18446744073709551616)(hk:kind<256):
  () 378 #[(d,()),p,[[kind]]] w fun e w'=>e=.returned [chkR s K cs p kind]/\Blw w w':=by
 have HC:=hid (y2e h.ds p kind hp64 hk);have c0:w.cell? (d,())=some (x.h,()):=h.dir.cell 0;clear h;go_enter Tryz.func378,Tryz.ntmps378
 go_wp2_with fail
 refine HC.out.mono ?_;rintro e w1⟨rfl,hb⟩;have HB:=hid hb;clear hb;go_wp2;go_ret;exact⟨rfl,HB.out⟩
theorem thID(h:Dev a L T w S cur 0):
  () 228 #[(a.th 0,0)] w fun e w'=>e=.returned ()/\w=w':=by
 obtain⟨ls,Gc,Ge,cs,Gd,Ga,Gb⟩:=h;have f0:w.cell? (a.th 0,1)=some ↑():=(Ga.thr 0 oM).cell 1;clear Ga Gb;go_enter Tryz.func228,Tryz.ntmps228
 go_wp2;go_ret;exact⟨rfl,rfl⟩
def v1x(a:DA)(L T s n K:Nat)(x:HA)(cs:Nat->CS)(f:Nat->Option Nat)(N m b0:Nat)(S:Fp)(cur:Nat->Nat)(w:World)(d r:Nat)(cl kind:Nat)(e:Ending)(w':World):Prop :=
 ∃k i S' cs' cur',e=.returned (.tuple #[(fptr s cs' kind k i),()])/\y5k s K cs f cur cl cs' cur' k i/\SD a L (T+400) s n K x cs' (updF f (offO s cs' k i) (some (fptr s cs' kind k i))) (N+1) (m+1) b0 S' cur' w' d r/\Chg (sfp S x) w w'/\Grew S S' w
theorem v2u(h:SD a L T s n K x cs f N m b0 S cur w d r) nw kind (h1:1<=nw) (h60:nw<=60) (hk0:0<kind) (hk8:kind<128) (hN:N<1000000000) (hT:T+400<=1000000000)
  (hcap:(∃k i,Vac s K cs f (z3h nw) k i)\/∃k,k<K/\(cs k).dv=false) :
  () 376 #[(d,0),[nw],[[kind]]] w (v1x a L T s n K x cs f N m b0 S cur w d r (z3h nw) kind):=by
 have HR:=hid (x3i h.ds.drewS nw kind h1 h60 hk0 hk8 hN hT hcap);have Gg:=hid (z8h nw kind h1 h60 hk0 hk8);have Gi:=hid (z9u h.ds.dev);have Gd:Hid (∀W,Blw w W->() 228 #[(a.th 0,0)] W fun e w'=>e=.returned ()/\W=w'):=hid (fun W hW=>thID (h.ds.dev.below hW));have hm:=z1x (some (a.th 0,0));have HS:=hid h;have Gh:=hid (x4j nw);have Gj:w.cell? (x.h,0)=some ↑(57,a.th 0,0):=h.ds.hs.heap.cell 0;have Gk:w.cell? (x.h,7)=some ↑false:=(h.ds.hs.heap.cell 7).trans (congrArg (fun b=>some (Value.bool b)) h.ul);have c0:w.cell? (d,0)=some (x.h,0):=h.dir.cell 0;have c1:w.cell? (d,1)=some (a.th 0,0):=h.dir.cell 1;clear h hcap;generalize z3h nw=cl at*;go_enter Tryz.func376,Tryz.ntmps376
 go_upto_region 14 with (first
  |(go_at_call 275;refine(Gg.out _).mono ?_;rintro e w1⟨rfl,rfl⟩)
  |(go_at_call 228;refine(Gd.out _ (Below.refl _ _)).mono ?_;rintro e w1⟨rfl,rfl⟩)
  |(go_at_call 76;refine Gi.out.mono ?_;rintro e w1⟨rfl,rfl⟩))
 refine z0e (fun w'=>Blk w' d 292 (z2p a x.h r)) 14 [12,13] [(1,0),(1,1),(1,2),(1,3),(1,4),(1,5),(1,6),(1,7),(1,9),(1,10),(0,8),(0,11),(2,12),(2,13)] (by kernel_rfl) (by kernel_rfl) HS.out.dir.drew ?_;refine tkG (d,0) ?_;refine tkG (d,0) ?_;refine tkG (d,0) ?_;refine tkH (x.h,0) (fun w' hS=>?_) ?_
 ·have f1:w'.cell? (d,0)=some (x.h,0):=Blk.cell hS 0
  go_simp
 refine tkG (d,0) ?_;refine tkG (d,0) ?_;refine tkG (d,1) ?_;refine tkH (a.th 0,0) (fun w' hS=>?_) ?_
 ·have f1:w'.cell? (d,1)=some (a.th 0,0):=Blk.cell hS 1
  go_simp
 refine tkG [nw] ?_;refine tkG [[kind]] ?_;refine z0c (by rfl) ?_;go_wp2_with (go_at_call 228;refine(Gd.out _ (Below.refl _ _).drew).mono ?_;rintro e w1⟨rfl,rfl⟩)
 refine⟨HS.out.dir.drew,?_⟩;refine z0c (by rfl) ?_;go_wp2_with (go_at_call 227;refine HR.out.mono ?_;rintro e w2⟨k,i,S',Ga,Gb,rfl,Gc,Gf,hc,hg⟩)
 have HK:Hid (SD a L (T+400) s n K x Ga (updF f (offO s Ga k i) (some (fptr s Ga kind k i))) (N+1) (m+1) b0 S' Gb w2 d r/\Chg (sfp S x) w w2/\Grew S S' w):=hid (by
  have Ge:Chg (sfp S x) w w2:=((Chg.refl (sfp S x) w).drew).trans hc (fun j hj => .inl hj);exact⟨HS.out.keep Gf Ge hg ((Gc.ahead HS.out.ds Gh.out (by have:=HS.out.ln;omega)).trans HS.out.idle),Ge,hg⟩)
 have HO:=hid Gc;clear Gc Gf hc hg;refine⟨HK.out.1.dir,?_⟩;refine z1t (fptr s Ga kind k i) (by rfl) (by rfl) (fun w' hS=>?_) ?_
 ·go_simp
 simp only[zA,zB,zC,Act.put,zD,zE,zF];refine z1t () (by rfl) (by rfl) (fun w' hS=>?_) ?_
 ·go_simp
 simp only[zA,zB,zC,Act.put,zD,zE,zF];show wpList _ _ _ _ _ _;simp only[List.drop_succ_cons,List.drop_zero];go_wp2;refine NoPanic.normal ?_;go_wp2;go_ret2;exact⟨k,i,S',Ga,Gb,rfl,HO.out,HK.out.1,HK.out.2.1,HK.out.2.2⟩
end
end
section
open Go.RowKit Go.Maps
structure CapD(s K:Nat)(cs:Nat->CS)(f:Nat->Option Nat)(al:List Nat)(dl:Nat->List Nat)(nv:Nat->List (Nat×Nat)):Prop where
 nd:∀c,(dl c).Nodup
 of:∀c k,k∈dl c->k<K/\(cs k).dv=true/\(cs k).cl=c
 all:∀k,k<K->(cs k).dv=true->(cs k).cl<5/\k∈dl (cs k).cl
 non:∀k i,k<K->(cs k).dv=true->i<perC (cs k).cl->¬Vac s K cs f (cs k).cl k i->(k,i)∈nv (cs k).cl
 few:∀c,(nv c).length<=al.count c
 chk:∀c,dl c≠[]->((dl c).length-1)*perC c+1<=al.count c
def Cap(s K:Nat)(cs:Nat->CS)(f:Nat->Option Nat)(al:List Nat):Prop:=∃dl nv,CapD s K cs f al dl nv
section
variable{s K:Nat}{cs cs':Nat->CS}{f f':Nat->Option Nat}{al:List Nat}
end
section
variable{a:DA}{L T s n K:Nat}{x:HA}{cs:Nat->CS}{f:Nat->Option Nat}{N m b0:Nat}{S:Fp}{cur:Nat->Nat}{w:World}
end
end
section
open Go.RowKit Go.Maps
def wrA(l:List (Nat×Nat)):Array Value:=(z0a l).toArray
theorem y3m:∀(l:List (Nat×Nat))(k a b:Nat),k<l.length->((z0a l).set (k*2) a).set (k*2+1) b=z0a (l.set k (a,b))
 |x::l,0,a,b,_=>rfl
 |x::l,k+1,a,b,h=>by
  have ih:=y3m l k a b (by simpa using h);have e:z0a (x::l)=.int .u64 x.1:: .int .u64 x.2::z0a l:=rfl;rw[e,show(k+1)*2=k*2+1+1 by omega];simp only[List.set_cons_succ];rw[ih];rfl
theorem w7p l:(wrA l).size=2*l.length:=by
 unfold wrA;rw[List.size_toArray];induction l with
 |nil=>rfl
 |cons x t ih =>
  have e:z0a (x::t)=.int .u64 x.1:: .int .u64 x.2::z0a t:=rfl;rw[e,List.length_cons,List.length_cons,ih,List.length_cons];omega
theorem v1r{l:List (Nat×Nat)}{k a b:Nat}(h:k<l.length):((wrA l).setIfInBounds (k*2) a).setIfInBounds (k*2+1) b=wrA (l.set k (a,b)):=by
 unfold wrA;rw[List.setIfInBounds_toArray,List.setIfInBounds_toArray,y3m l k a b h]
def plK(off:Nat)(xs:List Nat)(k:Nat):List (Nat×Nat):=(List.range 33).map fun j=>if j<k then (off+8*j,xs.getD j 0)else (0,0)
def plOf(off:Nat)(xs:List Nat):List (Nat×Nat):=(List.range 33).map fun j=>(off+8*j,xs.getD j 0)
theorem w2j off xs k:(plK off xs k).length=33:=by simp[plK]
theorem v1g off xs k:(plK off xs k).set k (off+8*k,xs.getD k 0)=plK off xs (k+1):=by
 apply List.ext_getElem
 ·simp[plK]
 ·intro i h1 h2
  rw[List.getElem_set];simp only[plK,List.getElem_map,List.getElem_range];by_cases e:k=i
  ·subst e
   rw[if_pos rfl,if_pos oM]
  ·rw[if_neg e]
   by_cases h:i<k
   ·rw[if_pos h,if_pos oM]
   ·rw[if_neg h,if_neg oM]
theorem v1f off xs:plK off xs 33=plOf off xs:=by
 unfold plK plOf;apply List.map_congr_left;intro j hj;rw[if_pos (List.mem_range.1 hj)]
theorem v0h W:(Instr.makeSlice 118 (.int .i64 33) (.int .i64 33)).run Tryz.prog W=.ok (W,0,33,33) (W.alloc (.cells (madeCells #[[()],[()]] (33*2)) 117)):=by
 obtain⟨j0,Gb,Gc,Ga,Gd⟩:=info_parts z1l;have h:=run_makeSlice (P:=Tryz.prog) W 118 117 j0 (.agg #[[()],[()]]) Tryz.underlying118 Gb Gc .i64 .i64 33 33 oM oM (by rw[Ga];decide) (by rw[Gd];decide) oM;rw[Ga]at h;exact h
theorem v3h:madeCells #[Value.int .u64 0,[()]] (33*2)=wrA (List.replicate 33 (0,0)):=by kernel_rfl
def x9g(w:World)(ws:List (Nat×Nat))(e:Ending)(w':World):Prop:=∃g:Nat,w<=g/\e=.returned (.tuple #[(g,0,33,33),()])/\Blk w' g 117 (wrA ws)/\Blw w w'
theorem x0c(off:Nat)(A:Option Addr)(n cc:Nat)(l:List (List Nat×Nat))(w:World)(h8:off%8=0)(hoff:off<=1000000)(hr:z0d w w 2 A n (z0b l))(hn:n<=8)(hl:∀p∈l,p.1.length<=16/\∀b∈p.1,b<256):
  () 260 #[off,arI,.slice A n cc] w (x9g w (plOf off (encA l))):=by
 have GH:l.length=n:=by have:=hr.1;rw[z0q]at this;omega
 have Gw:Hid ((encA l).length=33):=hid (by unfold encA;exact y7m (fun p hp=>(hl p hp).1) (nL _) oM);have GD:=hid hr;have GB:=hid hl;have HN:=hid (And.intro hoff hn);have hm:=v0j;have e4:((off:Int)%8 != 0)=false:=by rw[bne,beq_iff_eq.2 oM];rfl
 have GI:(off:Int)<=1000000:=oM;have Gc:=x7x 33 (by decide);rw[x2x]at Gc;rw[show((33:Nat):Int)=33 from rfl]at Gc;obtain⟨Z,hZ⟩:∃Z:List Nat,Z=List.replicate 33 0:=⟨_,rfl⟩
 rw[<- hZ]at Gc;have HZ:=hid hZ;have Ge:=v0h;rw[v3h]at Ge;obtain⟨Zw,Gp⟩:∃Zw:List (Nat×Nat),Zw=List.replicate 33 (0,0):=⟨_,rfl⟩
 rw[<- Gp]at Ge;have GG:=hid Gp;clear hZ Gp hr hl GH h8;unfold arI;go_enter Tryz.func260,Tryz.ntmps260
 go_upto_region 4 with (go_at_call 303;refine(z9f w).mono ?_;rintro e w1⟨rfl,Gx⟩;have Gl:=hid Gx;clear Gx)
 go_upto_region 5 with fail
 obtain⟨ge,Ga⟩:∃ge,w1.heap.size=ge:=⟨_,rfl⟩
 obtain⟨W4,Gj⟩:∃W4,w1.alloc (.cells (uA Z) 32)=W4:=⟨_,rfl⟩
 have Gk:Blw w W4:=by rw[<- Gj];exact Gl.out.alloc Gl.out.size _
 have G2:Blk W4 ge 32 (uA Z):=by rw[<- Gj,<- Ga];exact Blk.new _ _ _
 have G0:w<=ge:=by rw[<- Ga];exact Gl.out.size
 have Gn:=hid Ga;have G9:=hid G0;have GE:=hid Gj;have G5:=hid Gk;have G8:=hid (w0a A n cc l ge 0 Z W4 ((GD.out.below Gk).more Gk.size) HN.out.2 GB.out G2 (by rw[HZ.out];decide));have GC:Hid (putW Z 0 (encA l)=encA l):=hid (by
  unfold putW;rw[Gw.out,HZ.out];simp)
 clear Gj Gk G2 G0 Ga Gc;rw[GE.out,Gn.out];go_upto_region 7 with (go_at_call 387;refine G8.out.mono ?_;rintro e w5⟨rfl,Gq,Gy⟩;rw[GC.out]at Gq;have Gt:=hid Gq;have Gi:=hid (G5.out.trans (Gy.mono G9.out));clear Gq Gy)
 go_upto_region 8 with fail
 obtain⟨gq,Gb⟩:∃gq,w5.heap.size=gq:=⟨_,rfl⟩
 obtain⟨W7,Gg⟩:∃W7,w5.alloc (.cells (wrA Zw) 117)=W7:=⟨_,rfl⟩
 have Gz:Blw w W7:=by rw[<- Gg];exact Gi.out.alloc Gi.out.size _
 have G3:Blk W7 gq 117 (wrA Zw):=by rw[<- Gg,<- Gb];exact Blk.new _ _ _
 have Gh:Blk W7 ge 32 (uA (encA l)):=by rw[<- Gg];exact Gt.out.alloc _
 have G1:ge<gq:=by rw[<- Gb];exact Gt.out.lt
 have Gd:=hid Gb;have Gn:=hid G1;have GF:=hid Gg;have G6:=hid Gz;have Gu:Hid (Blk W7 gq 117 (wrA (plK off (encA l) 0))):=hid (by
  have e:plK off (encA l) 0=Zw:=by
   rw[GG.out];unfold plK;simp only[Nat.not_lt_zero,if_false];rfl
  rw[e];exact G3)
 have GA:=hid Gh;have Gs:Hid (Below gq W7 W7):=hid (Below.refl _ _);clear Gg Gz G3 Gh G1 Gb Ge;rw[GF.out,Gd.out];generalize encA l=xs at*;go_wp2_with fail
 go_loopw [41] (fun i wr=>∃k:Nat,k<=33/\i=↑[k]/\Hid (Blk wr gq 117 (wrA (plK off xs k)))/\Hid (Below gq W7 wr)) (fun i _=>33-(Go.RowKit.intOf i).toNat)
 case atStart=>exact⟨0,Nat.zero_le _,rfl,Gu,Gs⟩
 case round =>
  clear Gs Gu;obtain⟨k,hk,rfl,Gf,Gm⟩:=hrel;by_cases hlt:k<33
  ·have Gr:k<xs.length:=by rw[Gw.out];exact hlt
   have hc:wr.cell? (ge,k)=some ↑(xs[k]):=by
    rw[Gm.out.cell (p:=⟨ge,k,none⟩) Gn.out,GA.out.cell];exact x3q Gr
   have HS:=hid (v1g off xs k);have G4:xs.getD k 0=xs[k]:=by simp[Gr]
   rw[G4]at HS;have Gv:=hid ((Gf.out.set_ (k*2) (off+8*k:Nat)).set_ (k*2+1) (xs[k]));rw[v1r (by rw[w2j];exact hlt),HS.out]at Gv;have G7:=hid ((Gm.out.setCell (p:=⟨gq,k*2,none⟩) (nL _) (off+8*k:Nat)).setCell (p:=⟨gq,k*2+1,none⟩) (nL _) (xs[k]));have GJ:(0:Int)<=(k:Int):=oM;have GK:(k:Int)<33:=oM;generalize xs[k]=x at*;have z0:wr.frozen? (gq,k*2)=false:=Gf.out.frozen _;have z1:wr.frozen? (gq,k*2+1)=false:=Gf.out.frozen _;obtain⟨u0,u1,y0,y1⟩:∃u0 u1:Value,wr.cell? (gq,k*2)=some u0/\wr.cell? (gq,k*2+1)=some u1:=by
    have hs:(wrA (plK off xs k)).size=2*33:=by rw[w7p,w2j]
    exact⟨_,_,(Gf.out.cell _).trans (Array.getElem?_eq_getElem oM),(Gf.out.cell _).trans (Array.getElem?_eq_getElem oM)⟩
   clear Gr G4 HS;go_wp2_with fail
   go_roundw;rw[show(off:Int)+(k:Int)*8=((off+8*k:Nat):Int) by omega]
   case rel=>exact⟨k+1,oM,by go_num,Gv,G7⟩
   case measure=>simp[Go.RowKit.intOf];omega
  ·obtain rfl:k=33:=oM
   go_wp2_with fail
   go_ret2;refine⟨gq,?_,rfl,?_,?_⟩
   ·have h1:=Gi.out.size
    rw[Gd.out]at h1;exact h1
   ·have h1:=Gf.out
    rw[v1f]at h1;exact h1
   ·refine G6.out.trans (Gm.out.mono ?_)
    have h1:=Gi.out.size;rw[Gd.out]at h1;exact h1
end
section
open Go.RowKit Go.Maps Go.Shelf Go.Sort
theorem z7o x y (a b:List UInt8):Lib.compareBytes (x::a) (y::b)=if x.toNat<y.toNat then-1 else if y.toNat<x.toNat then 1 else Lib.compareBytes a b:=by
 rw[Lib.compareBytes];simp only[UInt8.lt_iff_toNat_lt]
theorem x1z:∀a:List UInt8,Lib.compareBytes a a=0
 |[]=>rfl
 |x::a=>by rw[z7o,if_neg (Nat.lt_irrefl _),if_neg (Nat.lt_irrefl _),x1z a]
theorem z5g y (b:List UInt8):Lib.compareBytes [] (y::b)= -1:=rfl
theorem z4a y (b:List UInt8):Lib.compareBytes (y::b) []=1:=rfl
theorem y6e:∀a b c:List UInt8,Lib.compareBytes a b<0->Lib.compareBytes b c<0->Lib.compareBytes a c<0
 |[],[],_,h1,_=>absurd h1 (by decide)
 |[],_::_,[],_,h2=>absurd h2 (by rw[z4a];decide)
 |[],_::_,_::_,_,_=>by rw[z5g];decide
 |_::_,[],_,h1,_=>absurd h1 (by rw[z4a];decide)
 |_::_,_::_,[],_,h2=>absurd h2 (by rw[z4a];decide)
 |x::a,y::b,z::c,h1,h2=>by
  have ih:=y6e a b c;rw[z7o]at h1 h2⊢;split at h1<;>split at h2<;>split<;>try split
  all_goals first
   |omega
   |(split at h1<;>split at h2<;>first|omega|exact ih (by assumption) (by assumption))
   |(split at h1<;>omega)
   |(split at h2<;>omega)
theorem y8n:∀a b c:List UInt8,0<=Lib.compareBytes a b->0<=Lib.compareBytes b c->0<=Lib.compareBytes a c
 |[],[],_,_,h2=>h2
 |[],_::_,_,h1,_=>absurd h1 (by rw[z5g];decide)
 |_::_,_,[],_,_=>by rw[z4a];decide
 |_::_,[],_::_,_,h2=>absurd h2 (by rw[z5g];decide)
 |x::a,y::b,z::c,h1,h2=>by
  have ih:=y8n a b c;rw[z7o]at h1 h2⊢;split at h1<;>split at h2<;>split<;>try split
  all_goals first
   |omega
   |(split at h1<;>split at h2<;>first|omega|exact ih (by assumption) (by assumption))
   |(split at h1<;>omega)
   |(split at h2<;>omega)
theorem w9i:∀a b:List UInt8,Lib.compareBytes a b=0->a=b
 |[],[],_=>rfl
 |[],_::_,h=>absurd h (by rw[z5g];decide)
 |_::_,[],h=>absurd h (by rw[z4a];decide)
 |x::a,y::b,h=>by
  rw[z7o]at h;split at h
  ·omega
  ·split at h
   ·omega
   ·have e:x=y:=UInt8.toNat_inj.1 oM
    rw[e,w9i a b h]
def nmCf(x y:List Nat×Nat):Int:=z7z (strN x.1) (strN y.1)
theorem v4h:SWO (fun x y:List Nat×Nat=>decide (nmCf x y<0)) where
 irrefl x:=decide_eq_false (by unfold nmCf z7z;rw[x1z];decide)
 trans x y z h1 h2:=decide_eq_true (y6e _ _ _ (of_decide_eq_true h1) (of_decide_eq_true h2))
 ntrans x y z h1 h2:=decide_eq_false (by
  have g1:=of_decide_eq_false h1;have g2:=of_decide_eq_false h2;have g3:=y8n _ _ _ (show 0<=nmCf x y by omega) (show 0<=nmCf y z by omega);have g4:0<=nmCf x z:=g3;omega)
end
section
open Go.RowKit Go.Maps
theorem v3d:(Tryz.prog.info? 5).map (fun i=>(i.zero,i.size,i.bytes))=some (some (.int .u8 0),1,1):=by kernel_rfl
def kOf(s p:Nat):Nat:=(pOff p-64*s)/2048
def iOf(s:Nat)(cs:Nat->CS)(p:Nat):Nat:=((pOff p-64*(s+32*kOf s p)-8)/8-8)/(payW (cs (kOf s p)).cl+1)
theorem y2s{s cs k i p}(hi:i<perC (cs k).cl)(hp:pOff p=offO s cs k i):kOf s p=k/\iOf s cs p=i:=by
 have h1:=off_lt hi;have h2:=z7i (cs k).cl;have hk:kOf s p=k:=by unfold kOf;rw[hp];unfold offO blkO;omega
 refine⟨hk,?_⟩;unfold iOf;rw[hk,hp];unfold offO blkO;have e:(64*(s+32*k)+8*offB (cs k).cl i+8-64*(s+32*k)-8)/8-8=i*(payW (cs k).cl+1):=by unfold offB;omega
 rw[e,Nat.mul_div_cancel _ oM]
def tlOf(s:Nat)(cs:Nat->CS)(l:List Nat)(k:Nat):List (Nat×Nat):=(l.filter fun p=>kOf s p==k).map fun p=>(iOf s cs p,z2h p)
def dlOf(s:Nat)(cs:Nat->CS)(l:List Nat)(k:Nat):List Nat:=(l.filter fun p=>kOf s p==k).map fun p=>iOf s cs p
theorem y3h s (cs:Nat->CS) l p k:tlOf s cs (l++[p]) k=if k=kOf s p then tlOf s cs l k++[(iOf s cs p,z2h p)]else tlOf s cs l k:=by
 unfold tlOf;rw[List.filter_append,List.map_append];by_cases h:k=kOf s p
 ·rw[if_pos h];simp[h]
 ·rw[if_neg h]
  have:(kOf s p==k)=false:=by rw[beq_eq_false_iff_ne];exact fun e=>h e.symm
  simp[this]
theorem y2h s (cs:Nat->CS) l p k:dlOf s cs (l++[p]) k=if k=kOf s p then dlOf s cs l k++[iOf s cs p]else dlOf s cs l k:=by
 unfold dlOf;rw[List.filter_append,List.map_append];by_cases h:k=kOf s p
 ·rw[if_pos h];simp[h]
 ·rw[if_neg h]
  have:(kOf s p==k)=false:=by rw[beq_eq_false_iff_ne];exact fun e=>h e.symm
  simp[this]
theorem y9x{g:Nat->Nat}{l:List Nat}(h:(l.map g).Nodup):l.Nodup:=(List.pairwise_map.1 h).imp (fun hne e=>hne (congrArg g e))
structure ActI(w wr:World)(mb NN s K:Nat)(cs:Nat->CS)(kl fl:List Nat)(c:CI):Prop where
 chi:ChI wr (mb+2) mb NN s K c
 tl:∀k,k<K->c.tl k=tlOf s cs kl k
 dl:∀k,k<K->c.dl k=dlOf s cs fl k
 cbs:∀k,k<K->((c.cb k).isSome=true↔tlOf s cs kl k≠[]\/dlOf s cs fl k≠[])
 vb:Blk wr (mb+1) 271 #[.map (some mb)]
 below:Blw w wr
 mbl:w<=mb
 size:mb+2<=wr.heap.size
structure ActM(w wr:World)(mb NN s K:Nat)(cs:Nat->CS)(kl fl:List Nat)(c:CI)(k g:Nat):Prop where
 chi:ChI wr (mb+2) mb NN s K c
 tl:∀j,j<K->c.tl j=tlOf s cs kl j
 dl:∀j,j<K->c.dl j=dlOf s cs fl j
 cbs:∀j,j<K->j≠k->((c.cb j).isSome=true↔tlOf s cs kl j≠[]\/dlOf s cs fl j≠[])
 cg:c.cb k=some g
 vb:Blk wr (mb+1) 271 #[.map (some mb)]
 below:Blw w wr
 mbl:w<=mb
 size:mb+2<=wr.heap.size
theorem ActI.mid{w wr w3 w4 mb NN s K cs kl fl c c1 k g}(h:ActI w wr mb NN s K cs kl fl c)(hb3:Blw wr w3)(hci:ChI w4 (mb+2) mb (NN+1) s K c1)(hcg:c1.cb k=some g)(htl:c1.tl=c.tl)(hdl:c1.dl=c.dl)(hcb:∀j,j≠k->c1.cb j=c.cb j)(hch:Chg (fun j=>j=mb) w3 w4):
  ActM w w4 mb (NN+1) s K cs kl fl c1 k g:=by
 have b4:Below w w3 w4:=hch.toBelow (Nat.le_trans h.below.size hb3.size) (fun j hj=>by have:=h.mbl;omega);refine⟨hci,fun j hj=>by rw[htl];exact h.tl j hj,fun j hj=>by rw[hdl];exact h.dl j hj,fun j hj hne=>by rw[hcb j hne];exact h.cbs j hj,hcg,?_,(h.below.trans (hb3.mono h.below.size)).trans b4,h.mbl,Nat.le_trans h.size (Nat.le_trans hb3.size hch.size)⟩;exact hch.blk (h.vb.below hb3 h.vb.lt) (fun e=>oM)
theorem ActM.take{w wr w4 mb NN s K cs kl fl c k g p A2 A4 c2 c4}(h:ActM w wr mb NN s K cs kl fl c k g)(hk:k<K)(hko:kOf s p=k)(hi:ChI w4 (mb+2) mb NN s K (c.take k A2 c2 A4 c4 (iOf s cs p) (z2h p)))(hc:Chg (fun j=>mb+2<=j) wr w4):
  ActI w w4 mb NN s K cs (kl++[p]) fl (c.take k A2 c2 A4 c4 (iOf s cs p) (z2h p)):=by
 have e:∀j,j<K->(c.take k A2 c2 A4 c4 (iOf s cs p) (z2h p)).tl j=tlOf s cs (kl++[p]) j:=fun j hj=>by
  rw[y3h,hko];show updX c.tl k (c.tl k++[(iOf s cs p,z2h p)]) j=_;by_cases hjk:j=k
  ·subst hjk
   rw[if_pos rfl,z1u,h.tl j hj]
  ·rw[if_neg hjk,z1j hjk,h.tl j hj]
 refine⟨hi,e,h.dl,fun j hj=>?_,hc.blk h.vb (fun e=>oM),h.below.trans (hc.toBelow h.below.size (fun j hj=>by have:=h.mbl;omega)),h.mbl,Nat.le_trans h.size hc.size⟩;by_cases hjk:j=k
 ·subst hjk
  refine⟨fun _ => .inl ?_,fun _=>?_⟩
  ·rw[y3h,hko,if_pos rfl];simp
  ·show(c.cb j).isSome=true
   rw[h.cg];rfl
 ·rw[y3h,hko,if_neg hjk]
  exact h.cbs j hj hjk
theorem ActM.drop{w wr w4 mb NN s K cs kl fl c k g p A2 c2}(h:ActM w wr mb NN s K cs kl fl c k g)(hk:k<K)(hko:kOf s p=k)(hi:ChI w4 (mb+2) mb NN s K (c.drop k A2 c2 (iOf s cs p)))(hc:Chg (fun j=>mb+2<=j) wr w4):
  ActI w w4 mb NN s K cs kl (fl++[p]) (c.drop k A2 c2 (iOf s cs p)):=by
 have e:∀j,j<K->(c.drop k A2 c2 (iOf s cs p)).dl j=dlOf s cs (fl++[p]) j:=fun j hj=>by
  rw[y2h,hko];show updX c.dl k (c.dl k++[iOf s cs p]) j=_;by_cases hjk:j=k
  ·subst hjk
   rw[if_pos rfl,z1u,h.dl j hj]
  ·rw[if_neg hjk,z1j hjk,h.dl j hj]
 refine⟨hi,h.tl,e,fun j hj=>?_,hc.blk h.vb (fun e=>oM),h.below.trans (hc.toBelow h.below.size (fun j hj=>by have:=h.mbl;omega)),h.mbl,Nat.le_trans h.size hc.size⟩;by_cases hjk:j=k
 ·subst hjk
  refine⟨fun _ => .inr ?_,fun _=>?_⟩
  ·rw[y2h,hko,if_pos rfl];simp
  ·show(c.cb j).isSome=true
   rw[h.cg];rfl
 ·rw[y2h,hko,if_neg hjk]
  exact h.cbs j hj hjk
theorem y7k s (cs:Nat->CS) l k:(tlOf s cs l k).length<=l.length:=by
 unfold tlOf;rw[List.length_map];exact List.length_filter_le _ _
theorem y6l s (cs:Nat->CS) l k:(dlOf s cs l k).length<=l.length:=by
 unfold dlOf;rw[List.length_map];exact List.length_filter_le _ _
structure y7p(s K:Nat)(cs:Nat->CS)(f:Nat->Option Nat)(p:Nat):Prop where
 loc:∃k i,k<K/\(cs k).dv=true/\i<perC (cs k).cl/\pOff p=offO s cs k i/\((cs k).bs i).st=176
 res:f (pOff p)=some p
 kind:0<z2h p/\z2h p<128
 nz:p≠0/\p<18446744073709551616
structure x9b(s K:Nat)(cs:Nat->CS)(p:Nat):Prop where
 loc:∃k i,k<K/\(cs k).dv=true/\i<perC (cs k).cl/\pOff p=offO s cs k i/\((cs k).bs i).st=177
 chk:chkR s K cs p 0=0
 nz:p≠0/\p<18446744073709551616
def x0u(w:World)(s K:Nat)(cs:Nat->CS)(keep free:List Nat)(e:Ending)(w':World):Prop :=
 ∃A m c,∃ks:List Nat,∃V:Nat->Nat,e=.returned (.tuple #[.slice A m c,()])/\ks.Nodup/\(∀k,k∈ks↔k<K/\(tlOf s cs keep k≠[]\/dlOf s cs free k≠[]))/\(∀k∈ks,Bits (V k) (cs k).cl (actB (cs k).bs (tlOf s cs keep k) (dlOf s cs free k))) /\
  w'.ownsRow w 117 2 (.slice A m c) m (z0a (ks.flatMap fun k=>chgW (s+32*k) (cs k).cl (cs k).bs (tlOf s cs keep k) (dlOf s cs free k) (V k)))/\Blw w w'
theorem w5x{w B n A l}(h:z0d w B 1 A n (z1f l)){k}(hk:k<n):
  ∃(hl:k<l.length)(b off:Nat),A=some (b,off)/\b<B/\w.cell? (b,off+k)=some ↑[l[k]]:=by
 have hl:k<l.length:=by have:=h.1;simp[z1f]at this;omega
 obtain⟨b,off,hA,hb,hc⟩:=h.plain oM oM;exact⟨hl,b,off,hA,hb,hc k _ (by simp[z1f,hl])⟩
theorem y6g ln cl (bs:Nat->BK) take drop V:(chgW ln cl bs take drop V).length=take.length+drop.length+1:=by
 simp[chgW,tkW,drW];omega
theorem z8a ws:∀u∈z0a ws,u.oneCell'=true:=by
 intro u hu;obtain⟨p,_,hp⟩:=List.mem_flatMap.1 hu;simp only[List.mem_cons,List.not_mem_nil,or_false]at hp;rcases hp with rfl|rfl<;>rfl
theorem y0j{f g:Nat->List (Nat×Nat)}:∀(l:List Nat),(∀x∈l,f x=g x)->l.flatMap f=l.flatMap g
 |[],_=>rfl
 |x::l,h=>by
  rw[List.flatMap_cons,List.flatMap_cons,h x (by simp),y0j l (fun y hy=>h y (by simp[hy]))]
theorem y2k{f:Nat->List (Nat×Nat)}{B:Nat}:∀(l:List Nat),(∀x∈l,(f x).length<=B)->(l.flatMap f).length<=B*l.length
 |[],_=>by simp
 |x::l,h=>by
  rw[List.flatMap_cons,List.length_append,List.length_cons];have h1:=h x (by simp);have h2:=y2k l (fun y hy=>h y (by simp[hy]));rw[Nat.mul_succ];omega
theorem x4e{s K cs f keep free}(hk:∀p∈keep,y7p s K cs f p)(hfr:∀p∈free,x9b s K cs p)(hn:((keep++free).map pOff).Nodup){k}(hne:tlOf s cs keep k≠[]\/dlOf s cs free k≠[]):
  (cs k).dv=true/\((tlOf s cs keep k).map (·.1)++dlOf s cs free k).Nodup/\(∀e∈tlOf s cs keep k,e.1<perC (cs k).cl/\((cs k).bs e.1).st=176/\0<e.2/\e.2<128)/\∀i∈dlOf s cs free k,i<perC (cs k).cl/\((cs k).bs i).st=177:=by
 have h1:∀p∈keep,kOf s p=k->(cs k).dv=true/\iOf s cs p<perC (cs k).cl/\pOff p=offO s cs k (iOf s cs p)/\((cs k).bs (iOf s cs p)).st=176:=fun p hp he=>by
  obtain⟨k',i,Gf,hd,hi,Gb,Ge⟩:=(hk p hp).loc;obtain⟨e1,e2⟩:=y2s hi Gb;rw[he]at e1;subst e1;subst e2;exact⟨hd,hi,Gb,Ge⟩
 have h2:∀p∈free,kOf s p=k->(cs k).dv=true/\iOf s cs p<perC (cs k).cl/\pOff p=offO s cs k (iOf s cs p)/\((cs k).bs (iOf s cs p)).st=177:=fun p hp he=>by
  obtain⟨k',i,Gf,hd,hi,Gb,Ge⟩:=(hfr p hp).loc;obtain⟨e1,e2⟩:=y2s hi Gb;rw[he]at e1;subst e1;subst e2;exact⟨hd,hi,Gb,Ge⟩
 have m1:∀e∈tlOf s cs keep k,∃p∈keep,kOf s p=k/\e=(iOf s cs p,z2h p):=fun e he=>by
  obtain⟨p,hp,rfl⟩:=List.mem_map.1 he;obtain⟨Gc,Gd⟩:=List.mem_filter.1 hp;exact⟨p,Gc,by simpa using Gd,rfl⟩
 have m2:∀i∈dlOf s cs free k,∃p∈free,kOf s p=k/\i=iOf s cs p:=fun e he=>by
  obtain⟨p,hp,rfl⟩:=List.mem_map.1 he;obtain⟨Gc,Gd⟩:=List.mem_filter.1 hp;exact⟨p,Gc,by simpa using Gd,rfl⟩
 refine⟨?_,?_,fun e he=>?_,fun i hi=>?_⟩
 ·rcases hne with h|h
  ·obtain⟨e,he⟩:=List.exists_mem_of_ne_nil _ h
   obtain⟨p,hp,Ga,_⟩:=m1 e he;exact(h1 p hp Ga).1
  ·obtain⟨e,he⟩:=List.exists_mem_of_ne_nil _ h
   obtain⟨p,hp,Ga,_⟩:=m2 e he;exact(h2 p hp Ga).1
 ·have e:(tlOf s cs keep k).map (·.1)++dlOf s cs free k=((keep++free).filter fun p=>kOf s p==k).map (iOf s cs):=by
   rw[List.filter_append,List.map_append];unfold tlOf dlOf;rw[List.map_map];rfl
  rw[e];refine List.pairwise_map.2 ?_;have hp:(keep++free).Pairwise fun p q=>pOff p≠pOff q:=List.pairwise_map.1 hn
  refine(hp.filter _).imp_of_mem (fun {p q} hp hq hne e=>hne ?_);obtain⟨p1,p2⟩:=List.mem_filter.1 hp;obtain⟨q1,q2⟩:=List.mem_filter.1 hq;have p3:kOf s p=k:=by simpa using p2
  have q3:kOf s q=k:=by simpa using q2
  have pe:pOff p=offO s cs k (iOf s cs p):=by
   rcases List.mem_append.1 p1 with h|h
   ·exact(h1 p h p3).2.2.1
   ·exact(h2 p h p3).2.2.1
  have qe:pOff q=offO s cs k (iOf s cs q):=by
   rcases List.mem_append.1 q1 with h|h
   ·exact(h1 q h q3).2.2.1
   ·exact(h2 q h q3).2.2.1
  rw[pe,qe,e]
 ·obtain⟨p,hp,Ga,rfl⟩:=m1 e he
  obtain⟨_,a2,_,a4⟩:=h1 p hp Ga;exact⟨a2,a4,(hk p hp).kind⟩
 ·obtain⟨p,hp,Ga,rfl⟩:=m2 i hi
  obtain⟨_,a2,_,a4⟩:=h2 p hp Ga;exact⟨a2,a4⟩
def v4b(W:World)(s K:Nat)(cb:Nat->Option Nat)(e:Ending)(w':World):Prop :=
 ∃A m c,∃ks:List Nat,e=.returned (.slice A m c)/\ks.Nodup/\(∀k,k∈ks↔k<K/\(cb k).isSome=true)/\ks.length=m/\m<=K/\w'.ownsRow W 3 1 (.slice A m c) m (z1f (ks.map fun k=>s+32*k))/\Blw W w'
theorem v4f{s ls ks0}(h:ls.Perm (ks0.map fun k=>s+32*k)):∃ks:List Nat,ks.Perm ks0/\ls=ks.map fun k=>s+32*k:=by
 refine⟨ls.map fun y=>(y-s)/32,?_,?_⟩
 ·have h1:=h.map fun y=>(y-s)/32
  rw[List.map_map]at h1;have e:(ks0.map ((fun y=>(y-s)/32)∘fun k=>s+32*k))=ks0:=by
   have:((fun y=>(y-s)/32)∘fun k=>s+32*k)=id:=by
    funext k
    simp
   rw[this,List.map_id]
  rw[e]at h1;exact h1
 ·rw[List.map_map]
  have e:ls.map ((fun k=>s+32*k)∘fun y=>(y-s)/32)=ls.map id:=List.map_congr_left (fun y hy=>by
   obtain⟨k,_,rfl⟩:=List.mem_map.1 (h.mem_iff.1 hy);simp)
  rw[e,List.map_id]
theorem y8q{w mb N s K cb}(h:ChM w mb N s K cb)(hK:K<=12)(_hN:N<=1000000):
  () 184 #[.func (.func 250) #[] #[(w,0)]] (w.alloc (.cells #[.map (some mb)] 271)) (v4b (w.alloc (.cells #[.map (some mb)] 271)) s K cb):=by
 obtain⟨D,ho,hd⟩:=h;have hp:((((List.range K).filter fun k=>(cb k).isSome).map fun k=>s+32*k).map Int.ofNat).Perm (intKeys D):=by
  have hc:CollectedI D (fun _=>false) ((((List.range K).filter fun k=>(cb k).isSome).map fun k=>s+32*k).map Int.ofNat):=by
   refine⟨?_,fun x=>?_⟩
   ·refine List.pairwise_map.2 (List.pairwise_map.2 ?_)
    exact(List.nodup_range.filter _).imp (fun hne e=>hne (by have e':((s+32*_:Nat):Int)=((s+32*_:Nat):Int):=e;omega))
   ·rw[hd.has x]
    simp only[List.mem_map,List.mem_filter,List.mem_range];constructor
    ·rintro⟨a,⟨k,⟨hk,hs⟩,rfl⟩,rfl⟩
     exact⟨⟨k,hk,rfl,hs⟩,trivial⟩
    ·rintro⟨⟨k,hk,rfl,hs⟩,_⟩
     exact⟨_,⟨k,⟨hk,hs⟩,rfl⟩,rfl⟩
  exact hc.perm ho y9l Tryz.underlying3 (fun _=>rfl)
 have Gc:Maps.size D<=12:=by
  obtain⟨es,hD,_⟩:=ho.entries y9l;subst hD;have h1:=hp.length_eq;rw[List.length_map,List.length_map]at h1;have h2:=List.length_filter_le (fun k=>(cb k).isSome) (List.range K);rw[List.length_range]at h2;have h3:(intKeys (.map es)).length=Maps.size (.map es):=by
   show(es.map _).length=_;rw[List.length_map];rfl
  omega
 have hg:=z8t 9 w.heap.size mb N D (w.alloc (.cells #[.map (some mb)] 271)) (by simp) ((Blk.new w 271 #[.map (some mb)]).cell 0) (ho.alloc _) oM;have he:(fun ss:List Int=>ss.Perm (intKeys D))=fun ss=>ss.Perm ((((List.range K).filter fun k=>(cb k).isSome).map fun k=>s+32*k).map Int.ofNat):=by
  funext ss
  exact propext ⟨fun h=>h.trans hp.symm,fun h=>h.trans hp⟩
 rw[he]at hg;refine(x8o _ _ (enters_of Tryz.func250 (by kernel_rfl) rfl) _ (Maps.size D) Gc _ hg).mono ?_;rintro e w'⟨A,m,c,ys,rfl,Gd,rfl,Gb,hb⟩;obtain⟨ks,Ga,rfl⟩:=v4f Gd;refine⟨A,_,c,ks,rfl,Ga.nodup_iff.2 (List.nodup_range.filter _),fun k=>?_,by simp,?_,Gb,hb⟩
 ·rw[Ga.mem_iff]
  simp
 ·have h1:=Ga.length_eq
  have h2:=List.length_filter_le (fun k=>(cb k).isSome) (List.range K);rw[List.length_range]at h2;rw[List.length_map];omega
end
end Go.Proofs.YtmhbokcccjmfgaaGreatDoor
