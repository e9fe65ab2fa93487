/- part 20 -/
import Derived.Test.YtmhbokcccjmfgaaGreatDoorQam
set_option maxRecDepth 100000
set_option maxHeartbeats 16000000
namespace Go.Proofs.YtmhbokcccjmfgaaGreatDoor
open Go.Lib (hid)
section
open Go.RowKit Go.Maps
theorem x6d w:() 78 #[] w (w3u w):=by
 have Ga:∀W,(Instr.makeMap 141 none).run Tryz.prog W=.ok (.map (some W.heap.size)) (W.alloc (.map #[] 0)):=fun _=>rfl
 have Gb:∀W,(Instr.makeMap 142 none).run Tryz.prog W=.ok (.map (some W.heap.size)) (W.alloc (.map #[] 0)):=fun _=>rfl
 have Gc:∀W,(Instr.makeMap 143 none).run Tryz.prog W=.ok (.map (some W.heap.size)) (W.alloc (.map #[] 0)):=fun _=>rfl
 have Gd:∀W,(Instr.makeMap 144 none).run Tryz.prog W=.ok (.map (some W.heap.size)) (W.alloc (.map #[] 0)):=fun _=>rfl
 go_enter Tryz.func78,Tryz.ntmps78
 go_wp2;exact bodyPost_ret (v := .agg #[.map (some (w+1)),.map (some (w+1+1)),.map (some (w+1+2)),.map (some (w+1+3)),false,false]) (by simp[results,Tryz.results78,go_sem]) rfl ⟨w+1,rfl,w5k w _⟩
def x6c(c:YCX)(w:World)(S:Fp)(cur:Nat->Nat)(T mode:Nat)(e:Ending)(w':World):Prop:=∃g t,e=.returned (.tuple #[(g,0),()])/\v1u t mode/\YTxS c g w' S t (.map []) 0 cur T/\Chg (fun j=>j=c.x.h\/j=c.x.m) w w'/\NewT w g t
theorem y4e{c w W1 W2 S last cur T b mode}(h:z1y c w S true last cur T)(h4:Four w W1 b)(hW:W2=((W1.alloc (.map #[] 0)).alloc (.map #[] 0)).alloc (.cells (z1c c.x.m ⟨b,b+1,b+2,b+3,W1.heap.size,W1.heap.size+1,false,false,true,mode,((),()),0,((),())⟩) 150)):
  ∃t,v1u t mode/\YTxS c (W1.heap.size+2) (W2.setCell (c.x.m,4) (W1.heap.size+2,0)) S t (.map []) 0 cur T/\Chg (fun j=>j=c.x.h\/j=c.x.m) w (W2.setCell (c.x.m,4) (W1.heap.size+2,0))/\NewT w (W1.heap.size+2) t:=by
 have Gi:w.heap.size<=W1.heap.size:=h4.below.size;have Gf:b+3<W1.heap.size:=(h4.at3 oneR).lt;have hS:∀k,w.heap.size<=k->¬S k:=fun k hk hs=>by have:=h.dev.lt _ hs;omega
 have Gh:=h.sz;have Gg:c.x.mr<w.heap.size/\c.x.mh<w.heap.size:=⟨h.sys.hs.lt.2.2.2.1,h.sys.hs.lt.2.2.2.2⟩
 have Gd:Chg (fun j=>j=c.x.h\/j=c.x.m) w (W2.setCell (c.x.m,4) (W1.heap.size+2,0)):=by
  rw[hW];exact(Chg.of_below (((h4.below.alloc h4.below.size _).alloc (by simp;omega) _).alloc (by simp;omega) _)).setCell (p:=⟨c.x.m,4,none⟩) (.inl (.inr rfl)) _
 have Ga:z1y c W2 S true last cur T:=by
  rw[hW];exact h.more_ (((h4.below.alloc h4.below.size _).alloc (by simp;omega) _).alloc (by simp;omega) _)
 have Gc:=Ga.setLast (some (W1.heap.size+2,0));have e1:((W1.alloc (.map #[] 0)).alloc (.map #[] 0)).heap.size=W1.heap.size+2:=by simp
 have e2:(W1.alloc (.map #[] 0)).heap.size=W1.heap.size+1:=by simp
 have Gb:Blk W2 (W1.heap.size+2) 150 (z1c c.x.m ⟨b,b+1,b+2,b+3,W1.heap.size,W1.heap.size+1,false,false,true,mode,((),()),0,((),())⟩):=by
  rw[hW,<- e1];exact Blk.new _ _ _
 have hc:Chg (fun j=>j=c.x.m) W2 (W2.setCell (c.x.m,4) (W1.heap.size+2,0)):=(Chg.refl (fun j=>j=c.x.m) W2).setCell (p:=⟨c.x.m,4,none⟩) (.inl rfl) _;have hm:∀{R:Value->Option (DataW Unit×List MemPlace)}{k:Nat},W1.ownsMap Tryz.prog 32 R k 0 (.map [])->(W2.setCell (c.x.m,4) (W1.heap.size+2,0)).ownsMap Tryz.prog 32 R k 0 (.map []):=fun {R k} hk=>by
  have h1:W2.ownsMap Tryz.prog 32 R k 0 (.map []):=by rw[hW];exact((hk.alloc _).alloc _).alloc _
  exact hc.map h1 (z0p h1 Ga.sys.m)
 have hh:∀R:Value->Option (DataW Unit×List MemPlace),(W2.setCell (c.x.m,4) (W1.heap.size+2,0)).ownsMap Tryz.prog 32 R W1 0 (.map []):=fun R=>by
  have h1:W2.ownsMap Tryz.prog 32 R W1 0 (.map []):=by rw[hW];exact((World.ownsMap_made W1 _ _ R).alloc _).alloc _
  exact hc.map h1 (z0p h1 Ga.sys.m)
 have hv:∀R:Value->Option (DataW Unit×List MemPlace),(W2.setCell (c.x.m,4) (W1.heap.size+2,0)).ownsMap Tryz.prog 32 R (W1.heap.size+1) 0 (.map []):=fun R=>by
  have h1:W2.ownsMap Tryz.prog 32 R (W1.heap.size+1) 0 (.map []):=by
   have h0:=World.ownsMap_made (W1.alloc (.map #[] 0)) Tryz.prog 32 R;rw[e2]at h0;rw[hW];exact h0.alloc _
  exact hc.map h1 (z0p h1 Ga.sys.m)
 have Ge:=h4.new;refine⟨⟨b,b+1,b+2,b+3,W1.heap.size,W1.heap.size+1,false,false,true,mode,((),()),0,((),())⟩,⟨rfl,rfl,rfl,rfl,rfl,rfl,rfl⟩,⟨Gc,hc.blk Gb (Gb.ne_ Ga.sys.m (by decide)),⟨hm (h4.at0 _),hm (h4.at1 _),hm (h4.at2 _),hm (h4.at3 _),hh _,hv _,?_⟩,hS _ oM,⟨hS _ (by simp;omega),hS _ (by simp;omega),hS _ (by simp;omega),hS _ (by simp;omega),hS _ (by simp;omega),hS _ (by simp;omega)⟩,oM,by simp;omega,⟨by simp;omega,by simp;omega⟩⟩,?_,?_⟩
 ·simp only
  omega
 ·exact Gd
 ·refine⟨oM,?_,?_,?_,?_,?_,?_⟩<;>simp only<;>omega
theorem w4f{c w S last cur T}(h:z1y c w S false last cur T) mode (hmo:mode=1\/mode=2) :
  () 17 #[(c.x.m,0),[[mode]]] w (x6c c w S cur T mode):=by
 have HB:=hid h;have Gd:=hid (w1s _ _ _ _ _ _ _ w h.sys.h);have Gb:=hid (h.lock true);have Gc:=hid (x6d (w.setCell (c.x.h,7) true));have Ge:Hid (Chg (fun j=>j=c.x.h\/j=c.x.m) w (w.setCell (c.x.h,7) true)):=hid ((Chg.refl _ w).setCell (p:=⟨c.x.h,7,none⟩) (.inl (.inl rfl)) _);have m0:w.cell? (c.x.m,0)=some (c.a.th 0,0):=h.sys.m.cell 0;have m1:w.cell? (c.x.m,1)=some (c.x.r,0):=h.sys.m.cell 1;have m2:w.cell? (c.x.m,2)=some (c.x.u,0):=h.sys.m.cell 2;have m3:w.cell? (c.x.m,3)=some (c.x.h,0):=h.sys.m.cell 3;have v0:w.cell? (c.x.u,0)=some (memV c.a):=h.sys.u.cell 0;have v2:w.cell? (c.x.u,2)=some (.int .i64 26):=h.sys.u.cell 2;have hq:=z7p (some (c.a.th 0,0));have Gk:∀W,(Instr.makeMap 142 none).run Tryz.prog W=.ok (.map (some W.heap.size)) (W.alloc (.map #[] 0)):=fun _=>rfl
 have Gl:∀W,(Instr.makeMap 143 none).run Tryz.prog W=.ok (.map (some W.heap.size)) (W.alloc (.map #[] 0)):=fun _=>rfl
 obtain⟨ls,Gj,Gn,cs,Gm,Gh,Ga⟩:=h.dev;obtain⟨f0,_,_,_,f4⟩:=Gh.facts (j:=0) oM;clear Gh Ga h;unfold memV at v0;rcases hmo with rfl|rfl
 ·go_enter Tryz.func17,Tryz.ntmps17
  go_wp2_with (first
   |(go_at_call 77;refine Gd.out.mono ?_;rintro e w1⟨rfl,rfl⟩)
   |(go_at_call 78;refine stop ?_)
   |go_in)
  unfold Stop;generalize w.setCell (c.x.h,7) true=W at*;refine Gc.out.mono ?_;rintro e W1⟨b,rfl,h4⟩;have HE:=hid (y4e (mode:=1) Gb.out h4 rfl);have hk:=Gb.out.more_ h4.below;have z4:∀o1 o2 o3,(((W1.alloc o1).alloc o2).alloc o3).frozen? (c.x.m,4)=false:=fun _ _ _=>(((hk.sys.m.alloc _).alloc _).alloc _).frozen 4
  have c4:∀o1 o2 o3,(((W1.alloc o1).alloc o2).alloc o3).cell? (c.x.m,4)=some (.pointer last):=fun _ _ _=>(((hk.sys.m.alloc _).alloc _).alloc _).cell 4
  have Gi:c.x.m<W1.heap.size:=hk.sys.m.lt;clear h4 hk Gc Gd m0 m1 m2 m3 v0 v2 f0 f4;go_wp2;go_ret2;obtain⟨t,ht,Gg,Gf,Ga⟩:=HE.out;exact⟨_,t,rfl,ht,Gg,Ge.out.trans Gf (Grew.refl _ _),Ga.mono Ge.out.size⟩
 ·go_enter Tryz.func17,Tryz.ntmps17
  go_wp2_with (first
   |(go_at_call 77;refine Gd.out.mono ?_;rintro e w1⟨rfl,rfl⟩)
   |(go_at_call 78;refine stop ?_)
   |go_in)
  unfold Stop;generalize w.setCell (c.x.h,7) true=W at*;refine Gc.out.mono ?_;rintro e W1⟨b,rfl,h4⟩;have HE:=hid (y4e (mode:=2) Gb.out h4 rfl);have hk:=Gb.out.more_ h4.below;have z4:∀o1 o2 o3,(((W1.alloc o1).alloc o2).alloc o3).frozen? (c.x.m,4)=false:=fun _ _ _=>(((hk.sys.m.alloc _).alloc _).alloc _).frozen 4
  have c4:∀o1 o2 o3,(((W1.alloc o1).alloc o2).alloc o3).cell? (c.x.m,4)=some (.pointer last):=fun _ _ _=>(((hk.sys.m.alloc _).alloc _).alloc _).cell 4
  have Gi:c.x.m<W1.heap.size:=hk.sys.m.lt;clear h4 hk Gc Gd m0 m1 m2 m3 v0 v2 f0 f4;go_wp2;go_ret2;obtain⟨t,ht,Gg,Gf,Ga⟩:=HE.out;exact⟨_,t,rfl,ht,Gg,Ge.out.trans Gf (Grew.refl _ _),Ga.mono Ge.out.size⟩
theorem z6p{c g w S t D n cur T}(h:YTxS c g w S t D n cur T)(o:Nat)(ho:o<18446744073709551616):
  () 112 #[(g,()),o] w fun e w'=>e=.returned false/\w=w':=by
 have Ga:w.cell? ⟨g,12,none⟩=some (.map (some t.cover)):=h.tx.cell 12;obtain⟨v,Gb⟩:=y9r h.maps.cover Tryz.underlying142 (z := .int .u64 0) (by kernel_rfl) ho;clear h;go_enter Tryz.func112,Tryz.ntmps112
 go_wp2;go_ret;exact⟨rfl,rfl⟩
theorem z8f{c g w S t D n cur T}(h:YTxS c g w S t D n cur T) o (h8:o%8=0) (hlt:o<64*c.L) :
  () 111 #[(g,0),o] w fun e w'=>e=.returned true/\w=w':=by
 have c6:w.cell? (g,6)=some (c.x.m,0):=h.tx.cell 6;have m0:w.cell? (c.x.m,0)=some (c.a.th 0,0):=h.base.sys.m.cell 0;obtain⟨ls,Gd,Gf,cs,Ge,Ga,Gb⟩:=h.base.dev;obtain⟨f0,f2,_,_,f4⟩:=Ga.facts (j:=0) oM;have e1:((o:Int)%8==0)=true:=by rw[beq_iff_eq];omega
 have Gc:(o:Int)%8=0:=oM;have hL:=c.hpl;have u1:IntKind.u64.wrap (c.L:Int)=(c.L:Int):=by rw[IntKind.wrap_u64];omega
 have u2:IntKind.u64.wrap ((c.L:Int)*64)=(c.L:Int)*64:=by rw[IntKind.wrap_u64];omega
 have e2:decide ((o:Int)<(c.L:Int)*64)=true:=dT;have e3:decide (o<c.L*64)=true:=dT;clear Ga Gb h;go_enter Tryz.func111,Tryz.ntmps111
 go_wp2;go_ret;exact⟨rfl,rfl⟩
theorem x1n{c g W S t D n cur T}(h:YTxS c g W S t D n cur T){A0 N c0 T' cur'}(hs:() 214 #[(c.x.u,0),.slice A0 N c0] W (z0x c.a c.L T' W S cur' 0 ())):
  () 189 #[(g,0),.slice A0 N c0] W (z0x c.a c.L T' W S cur' 0 ()):=by
 have c6:W.cell? (g,6)=some (c.x.m,0):=h.tx.cell 6;have m2:W.cell? (c.x.m,2)=some (c.x.u,0):=h.base.sys.m.cell 2;have HS:=hid hs;clear h hs;go_enter Tryz.func189,Tryz.ntmps189
 go_wp2_with fail
 refine HS.out.mono ?_;rintro e w1⟨rfl,h1⟩;have HZ:=hid h1;clear h1 HS;go_wp2;go_ret;exact⟨rfl,HZ.out⟩
def y1m(c:YCX)(g:Nat)(w:World)(S:Fp)(t:TX)(D:DataW Unit)(n:Nat)(cur':Nat->Nat)(T':Nat)(v:Value)(e:Ending)(w':World):Prop :=
 ∃S' tl,e=.returned v/\YTxS c g w' S' { t with tail:=tl } D n cur' T'/\Chg (SG S g) w w'/\Grew S S' w/\y4d tl
theorem x1d{c g w S t D n cur T}(h:YTxS c g w S t D n cur T)(hmode:t.mode=2)(htail:t.tail=↑((),())) o (ho:z3e c.L c.s1 26 o) (hl:LogU cur c.s1 []) (hcv:∀i,cur i<18446744073709551616) (hT:T<=1000000) :
  () 113 #[(g,0),o] w (y1m c g w S t D n (svC cur (64*c.s1) 0 [o]) (T+8) (z2o 0 (cur (o/8)) true)):=by
 have HX:=hid h;have Ga:=hid h.lts;have GP:=hid ho;have Gz:=hid (z2m h.base.dev o (cur (o/8)) ho.al ho.lt rfl);have Gs:Hid (∀k,w.heap.size<=k->¬S k):=fun k hk hs=>by have:=h.base.dev.lt _ hs;omega
 have G1:Hid (∀W A0 c0,Blw w W->z0d W W.heap.size 1 A0 1 (z0g [o])->() 214 #[(c.x.u,0),.slice A0 1 c0] W (z0x c.a c.L (T+8) W S (svC cur (64*c.s1) 0 [o]) 0 ())):=fun W A0 c0 hW hr=>by
  have hx:=h.more_ hW;exact y3d hx.base.dev c.x.u c.s1 26 hx.base.sys.u (by have:=c.hpl;omega) (by have:=c.hpl;omega) [] hl (fun e he=>by simp at he) A0 1 c0 [o] [o] (v2z o) hr (fun q hq=>by simp at hq;subst hq;exact ho) (by simp) oM (by simp) (fun i _=>hcv i) (by simp;omega)
 have GC:=hid (y9p hl [o]);have GD:Hid (∀W S1,YTxS c g W S1 t D n (svC cur (64*c.s1) 0 [o]) (T+8)->() 207 #[(c.x.u,0)] W (y5m W (IsFl (frW cur [o]) [(64*c.s1,0)]))):=fun W S1 hx =>
  z7j hx.base.dev c.x.u c.s1 26 hx.base.sys.u (by have:=c.hpl;omega) (by have:=c.hpl;omega) (frW cur [o]) GC.out ⟨fun e he=>by simp[frW]at he;subst he;exact ho,fun e he=>by simp[frW]at he;subst he;exact hcv _,by simp[frW],by simp[frW]⟩
 have c7:w.cell? (g,7)=some (.int .u8 2):=(h.tx.cell 7).trans (by simp[z1c,hmode]);have c6:w.cell? (g,6)=some (c.x.m,0):=h.tx.cell 6;have m0:w.cell? (c.x.m,0)=some (c.a.th 0,0):=h.base.sys.m.cell 0;have GE:=hid htail;have GV:g<w.heap.size:=h.tx.lt;have GW:c.x.m<w.heap.size:=h.base.sys.m.lt;clear h ho hl hcv hmode htail;generalize cur (o/8)=old at*;go_enter Tryz.func113,Tryz.ntmps113
 go_wp2_with fail
 refine(Gz.out _ ((Below.refl _ _).alloc (nL _) _)).mono ?_;rintro e w1⟨rfl,rfl⟩;go_wp2_with fail
 have Gp:Blw w (((w.alloc (.cells #[[()],[()],false] 182)).alloc (.cells #[[()],old,false] 182)).alloc (.cells #[o] 32)):=(((Below.refl _ w).alloc (nL _) _).alloc (by simp) _).alloc (by simp;omega) _;have Gt:=hid (HX.out.more_ Gp);have Gb:=hid (((Blk.new w 182 #[[()],[()],false]).alloc (.cells #[[()],old,false] 182)).alloc (.cells #[o] 32));have Gg:=hid ((Blk.new2 w (.cells #[[()],[()],false] 182) 182 #[[()],old,false]).alloc (.cells #[o] 32));have Gd:=hid (x1n Gt.out (G1.out _ (some (w.heap.size+1+1,0)) 1 Gp (v3l _ o _ (by simp))));have G4:Hid (Chg (SG S g) w (((w.alloc (.cells #[[()],[()],false] 182)).alloc (.cells #[[()],old,false] 182)).alloc (.cells #[o] 32))):=Chg.of_below Gp;have Gy:Hid (w.heap.size+3<=(((w.alloc (.cells #[[()],[()],false] 182)).alloc (.cells #[[()],old,false] 182)).alloc (.cells #[o] 32)).heap.size):=hid (by simp);generalize ((w.alloc (.cells #[[()],[()],false] 182)).alloc (.cells #[[()],old,false] 182)).alloc (.cells #[o] 32)=W at*;clear Gp G1 Gz HX c6 c7 m0;refine Gd.out.mono ?_;intro e W1 h1;obtain⟨rfl,S1,GA,Gq,Gv⟩:=Gt.out.step h1;have G2:=hid GA;have Gk:=hid (Gq.blk Gb.out (Gs.out _ (nL _)));have Gc:=hid (Gq.blk Gg.out (Gs.out _ (Nat.le_succ _)));have G5:=hid (G4.out.trans Gq (fun k hk => .inl (.inl hk)));have GB:Hid (Grew S S1 w):=fun k hk=>(Gv k hk).elim .inl (fun h => .inr (by have:=Gy.out;omega))
 have G0:Hid (∀k,w.heap.size<=k->k<w.heap.size+2->¬S1 k):=fun k hk hk2 hs=>(Gv k hs).elim (Gs.out k hk) (fun h=>by have:=Gy.out;omega)
 clear h1 GA Gq Gv Gd Gb Gg Gt G4;have z2:W1.frozen? (w.heap.size+1,2)=false:=Gc.out.frozen 2;have d2:W1.cell? (w.heap.size+1,2)=some ↑false:=Gc.out.cell 2;have Gj:=hid (G2.out.other Ga.out (Nat.le_succ _) (G0.out _ (Nat.le_succ _) oM) 2 true);have Ge:=hid ((Chg.refl (fun j=>j=w.heap.size+1) W1).setCell (p:=⟨w.heap.size+1,2,none⟩) (.inl rfl) true |>.blk Gk.out oM);have Gh:Hid (Blk (W1.setCell (w.heap.size+1,2) true) (w.heap.size+1) 182 #[[()],old,true]):=hid (Gc.out.set_ 2 true);have G6:=hid (G5.out.setCell (p:=⟨w.heap.size+1,2,none⟩) (.inr (Nat.le_succ _)) true);have G8:(W1.setCell (w.heap.size+1,2) true).cell? (g,13)=some ↑((),()):=(Gj.out.tx.cell 13).trans (by simp[z1c,GE.out]);have c6:(W1.setCell (w.heap.size+1,2) true).cell? (g,6)=some (c.x.m,0):=Gj.out.tx.cell 6;have m2:(W1.setCell (w.heap.size+1,2) true).cell? (c.x.m,2)=some (c.x.u,0):=Gj.out.base.sys.m.cell 2;have GM:∀W,(binOp .eql 103 ((),()) ((),())).run Tryz.prog W=.ok true W:=fun W=>by kernel_rfl
 go_wp2_with fail
 generalize W1.setCell (w.heap.size+1,2) true=W2 at*;clear z2 d2 G2 Gk Gc G5;refine(GD.out W2 S1 Gj.out).mono ?_;rintro e W3⟨A1,m1,c1,p1,rfl,G9,Gn,Gl⟩;obtain⟨GN,GO⟩:=w5w G9 rfl (by simp[frW]);have GL:p1.length=m1:=by have:=Gn.1;rw[z0o]at this;omega
 obtain⟨k,hk⟩:∃k,m1=k+3:=⟨m1-3,oM⟩
 subst hk;obtain⟨gb,GT,hv,GU,GX⟩:=Gn.form oM;injection hv with hv1 hv2 hv3
 subst hv1;have GK:k+3<=c1:=by
  rcases Gn.2 with ⟨_,h0⟩|⟨g',cap',cs,hv',_,_,hle,_⟩
  ·omega
  ·injection hv' with _ _ h3
   omega
 have Gw:=y4z (z0d.of_own Gn) k oM;rw[Nat.zero_add,show k+3-k=3 by omega]at Gw;have Gx:=hid (x7d _ 3 (c1-k) _ W3 Gw oM oM);have G3:=hid (Gj.out.more_ Gl);have Gf:=hid (Ge.out.below Gl Ge.out.lt);have Gi:=hid (Gh.out.below Gl Gh.out.lt);have G7:=hid (G6.out.below Gl);have q1:(k:Int)+3<=(c1:Int):=oM;have q2:k<c1:=oM;have q3:¬(c1-k=0):=oM;have q4:(k:Int)<(c1:Int):=oM;have q5:k<=1000:=oM;have q6:¬(c1=k):=oM;have q7:¬(k=c1):=oM;have q8:k+3-k=3:=oM;clear G9 Gn Gl GN GO GL Gw hv2 hv3 Gj Ge Gh G6 G8 c6 m2;go_wp2_with fail
 refine Gx.out.mono ?_;rintro e W4⟨A4,m4,c4,rfl,Gm⟩;have Gr:=G3.out.more_ Gm;have GY:W4.frozen? (g,13)=false:=Gr.tx.frozen 13;have G8:W4.cell? (g,13)=some t.tail:=Gr.tx.cell 13;have GF:=hid (Gr.set 13 (.slice (some A4) m4 c4) { t with tail := .slice (some A4) m4 c4 } rfl ⟨rfl,rfl,rfl,rfl,rfl,rfl⟩);have Gu:Chg (fun j=>j=g) W4 (W4.setCell (g,13) (.slice (some A4) m4 c4)):=(Chg.refl (fun j=>j=g) W4).setCell (p:=⟨g,13,none⟩) (.inl rfl) _;have Gb:=hid (Gu.blk (Gf.out.below Gm Gf.out.lt) oM);have Gg:=hid (Gu.blk (Gi.out.below Gm Gi.out.lt) oM);have GG:=hid ((G7.out.below Gm).setCell (p:=⟨g,13,none⟩) (.inl (.inr rfl)) (.slice (some A4) m4 c4));have GQ:(W4.setCell (g,13) (.slice (some A4) m4 c4)).cell? (w.heap.size+1,0)=some ↑[()]:=Gg.out.cell 0;have GR:(W4.setCell (g,13) (.slice (some A4) m4 c4)).cell? (w.heap.size+1,1)=some ↑old:=Gg.out.cell 1;have GS:(W4.setCell (g,13) (.slice (some A4) m4 c4)).cell? (w.heap.size+1,2)=some ↑true:=Gg.out.cell 2;have GH:(W4.setCell (g,13) (.slice (some A4) m4 c4)).cell? (w,0)=some ↑[()]:=Gb.out.cell 0;have GI:(W4.setCell (g,13) (.slice (some A4) m4 c4)).cell? (w,1)=some ↑[()]:=Gb.out.cell 1;have GJ:(W4.setCell (g,13) (.slice (some A4) m4 c4)).cell? (w,2)=some ↑false:=Gb.out.cell 2;have GZ:(W4.setCell (g,13) (.slice (some A4) m4 c4)).frozen? (w,0)=false:=Gb.out.frozen 0;have Da:(W4.setCell (g,13) (.slice (some A4) m4 c4)).frozen? (w,1)=false:=Gb.out.frozen 1;have Db:(W4.setCell (g,13) (.slice (some A4) m4 c4)).frozen? (w,2)=false:=Gb.out.frozen 2
 clear Gm Gr Gu Gx G3 Gf Gi G7 Gb Gg;go_wp2;refine bodyPost_ret (v:=z2o 0 old true) (by simp[results,Tryz.results113,go_sem,z2o,GH,GI,GJ]) rfl ⟨S1,.slice (some A4) m4 c4,rfl,?_,?_,GB.out,A4,m4,c4,rfl⟩
 ·have hl:x0x c g { t with tail := .slice (some A4) m4 c4 } w.heap.size:=⟨Ga.out.r,Ga.out.u,Ga.out.h,Ga.out.m,Ga.out.gs,Ga.out.pl,Ga.out.mr,Ga.out.mh,Ga.out.t1,Ga.out.t2,Ga.out.g,Ga.out.words,Ga.out.inner,Ga.out.own,Ga.out.freed,Ga.out.held,Ga.out.cover⟩
  have hs:=G0.out _ (nL _) oM;exact(((GF.out.other hl (nL _) hs 0 _).other hl (nL _) hs 1 _).other hl (nL _) hs 2 _)
 ·exact((GG.out.setCell (p:=⟨w.heap.size,0,none⟩) (.inr (nL _)) _).setCell (p:=⟨w.heap.size,1,none⟩) (.inr (nL _)) _).setCell (p:=⟨w.heap.size,2,none⟩) (.inr (nL _)) _
theorem y7z{c g w S t D n cur T}(h:YTxS c g w S t D n cur T)(hmode:t.mode=2)(htail:y4d t.tail){ws} o (ho:z3e c.L c.s1 26 o) (hl:LogU cur c.s1 ws) (hwv:∀e∈ws,e.1<18446744073709551616) (hno:o∉ws.map (·.1)) (hc:ws.length+1<=100) (hcv:∀i,cur i<18446744073709551616) (hT:T<=1000000) :
  () 113 #[(g,0),o] w (y1m c g w S t D n (svC cur (64*c.s1) ws.length [o]) (T+8) (z2o 0 (cur (o/8)) true)):=by
 have HX:=hid h;have Gf:=hid h.lts;have G5:=hid ho;have Gq:=hid (z2m h.base.dev o (cur (o/8)) ho.al ho.lt rfl);have Gj:Hid (∀k,w.heap.size<=k->¬S k):=fun k hk hs=>by have:=h.base.dev.lt _ hs;omega
 have Gs:Hid (∀W A0 c0,Blw w W->z0d W W.heap.size 1 A0 1 (z0g [o])->() 214 #[(c.x.u,0),.slice A0 1 c0] W (z0x c.a c.L (T+8) W S (svC cur (64*c.s1) ws.length [o]) 0 ())):=fun W A0 c0 hW hr=>by
  have hx:=h.more_ hW;exact y3d hx.base.dev c.x.u c.s1 26 hx.base.sys.u (by have:=c.hpl;omega) (by have:=c.hpl;omega) ws hl hwv A0 1 c0 [o] [o] (by simp[fr,z5w,hno]) hr (fun q hq=>by simp at hq;subst hq;exact ho) (by simp;omega) oM (by simp) (fun i _=>hcv i) (by simp;omega)
 have c7:w.cell? (g,7)=some (.int .u8 2):=(h.tx.cell 7).trans (by simp[z1c,hmode]);have c6:w.cell? (g,6)=some (c.x.m,0):=h.tx.cell 6;have m0:w.cell? (c.x.m,0)=some (c.a.th 0,0):=h.base.sys.m.cell 0;obtain⟨ta,tm,tc,Gx⟩:=htail;have Gt:=hid Gx;have GA:g<w.heap.size:=h.tx.lt;have GB:c.x.m<w.heap.size:=h.base.sys.m.lt;clear h ho hl hwv hno hc hcv hmode Gx;generalize cur (o/8)=old at*;go_enter Tryz.func113,Tryz.ntmps113
 go_wp2_with fail
 refine(Gq.out _ ((Below.refl _ _).alloc (nL _) _)).mono ?_;rintro e w1⟨rfl,rfl⟩;go_wp2_with fail
 have Gh:Blw w (((w.alloc (.cells #[[()],[()],false] 182)).alloc (.cells #[[()],old,false] 182)).alloc (.cells #[o] 32)):=(((Below.refl _ w).alloc (nL _) _).alloc (by simp) _).alloc (by simp;omega) _;have Gk:=hid (HX.out.more_ Gh);have Gm:=hid (((Blk.new w 182 #[[()],[()],false]).alloc (.cells #[[()],old,false] 182)).alloc (.cells #[o] 32));have Gn:=hid ((Blk.new2 w (.cells #[[()],[()],false] 182) 182 #[[()],old,false]).alloc (.cells #[o] 32));have Gd:=hid (x1n Gk.out (Gs.out _ (some (w.heap.size+1+1,0)) 1 Gh (v3l _ o _ (by simp))));have Gv:Hid (Chg (SG S g) w (((w.alloc (.cells #[[()],[()],false] 182)).alloc (.cells #[[()],old,false] 182)).alloc (.cells #[o] 32))):=Chg.of_below Gh;have Gp:Hid (w.heap.size+3<=(((w.alloc (.cells #[[()],[()],false] 182)).alloc (.cells #[[()],old,false] 182)).alloc (.cells #[o] 32)).heap.size):=hid (by simp);generalize ((w.alloc (.cells #[[()],[()],false] 182)).alloc (.cells #[[()],old,false] 182)).alloc (.cells #[o] 32)=W at*;clear Gh Gs Gq HX c6 c7 m0;refine Gd.out.mono ?_;intro e W1 h1;obtain⟨rfl,S1,Gy,Gi,Gl⟩:=Gk.out.step h1;have Gu:=hid Gy;have Ge:=hid (Gi.blk Gm.out (Gj.out _ (nL _)));have Gb:=hid (Gi.blk Gn.out (Gj.out _ (Nat.le_succ _)));have Gw:=hid (Gv.out.trans Gi (fun k hk => .inl (.inl hk)));have Gz:Hid (Grew S S1 w):=fun k hk=>(Gl k hk).elim .inl (fun h => .inr (by have:=Gp.out;omega))
 have Gr:Hid (∀k,w.heap.size<=k->k<w.heap.size+2->¬S1 k):=fun k hk hk2 hs=>(Gl k hs).elim (Gj.out k hk) (fun h=>by have:=Gp.out;omega)
 clear h1 Gy Gi Gl Gd Gm Gn Gk Gv;have z2:W1.frozen? (w.heap.size+1,2)=false:=Gb.out.frozen 2;have d2:W1.cell? (w.heap.size+1,2)=some ↑false:=Gb.out.cell 2;have Gg:=hid (Gu.out.other Gf.out (Nat.le_succ _) (Gr.out _ (Nat.le_succ _) oM) 2 true);have Ga:=hid ((Chg.refl (fun j=>j=w.heap.size+1) W1).setCell (p:=⟨w.heap.size+1,2,none⟩) (.inl rfl) true |>.blk Ge.out oM);have Gc:Hid (Blk (W1.setCell (w.heap.size+1,2) true) (w.heap.size+1) 182 #[[()],old,true]):=hid (Gb.out.set_ 2 true);have G0:=hid (Gw.out.setCell (p:=⟨w.heap.size+1,2,none⟩) (.inr (Nat.le_succ _)) true);have G9:(W1.setCell (w.heap.size+1,2) true).cell? (g,13)=some (.slice (some ta) tm tc):=(Gg.out.tx.cell 13).trans (by simp[z1c,Gt.out]);have c6:(W1.setCell (w.heap.size+1,2) true).cell? (g,6)=some (c.x.m,0):=Gg.out.tx.cell 6;have m2:(W1.setCell (w.heap.size+1,2) true).cell? (c.x.m,2)=some (c.x.u,0):=Gg.out.base.sys.m.cell 2;have G4:∀W,(binOp .eql 103 (.slice (some ta) tm tc) ((),())).run Tryz.prog W=.ok false W:=fun W=>Lib.run_eql_slice_some_nil W _ _ _ Tryz.underlying103
 have G6:(W1.setCell (w.heap.size+1,2) true).cell? (w.heap.size+1,0)=some ↑[()]:=Gc.out.cell 0;have G7:(W1.setCell (w.heap.size+1,2) true).cell? (w.heap.size+1,1)=some ↑old:=Gc.out.cell 1;have G8:(W1.setCell (w.heap.size+1,2) true).cell? (w.heap.size+1,2)=some ↑true:=Gc.out.cell 2;have G1:(W1.setCell (w.heap.size+1,2) true).cell? (w,0)=some ↑[()]:=Ga.out.cell 0;have G2:(W1.setCell (w.heap.size+1,2) true).cell? (w,1)=some ↑[()]:=Ga.out.cell 1;have G3:(W1.setCell (w.heap.size+1,2) true).cell? (w,2)=some ↑false:=Ga.out.cell 2;have GC:(W1.setCell (w.heap.size+1,2) true).frozen? (w,0)=false:=Ga.out.frozen 0;have GD:(W1.setCell (w.heap.size+1,2) true).frozen? (w,1)=false:=Ga.out.frozen 1;have GE:(W1.setCell (w.heap.size+1,2) true).frozen? (w,2)=false:=Ga.out.frozen 2;clear Gu Ge Gb Gw Ga Gc c6 m2;go_wp2;refine bodyPost_ret (v:=z2o 0 old true) (by simp[results,Tryz.results113,go_sem,z2o,G1,G2,G3]) rfl ⟨S1,t.tail,rfl,?_,?_,Gz.out,ta,tm,tc,Gt.out⟩
 ·have hs:=Gr.out _ (nL _) oM
  exact(((Gg.out.other Gf.out (nL _) hs 0 _).other Gf.out (nL _) hs 1 _).other Gf.out (nL _) hs 2 _)
 ·exact((G0.out.setCell (p:=⟨w.heap.size,0,none⟩) (.inr (nL _)) _).setCell (p:=⟨w.heap.size,1,none⟩) (.inr (nL _)) _).setCell (p:=⟨w.heap.size,2,none⟩) (.inr (nL _)) _
theorem x6f{c g w S t D n cur T}(h:YTxS c g w S t D n cur T)(hmode:t.mode=2){ws}(htail:(t.tail=↑((),())/\ws=[])\/y4d t.tail) o (ho:z3e c.L c.s1 26 o) (hl:LogU cur c.s1 ws) (hwv:∀e∈ws,e.1<18446744073709551616) (hno:o∉ws.map (·.1)) (hc:ws.length+1<=100) (hcv:∀i,cur i<18446744073709551616) (hT:T<=1000000) :
  () 113 #[(g,0),o] w (y1m c g w S t D n (svC cur (64*c.s1) ws.length [o]) (T+8) (z2o 0 (cur (o/8)) true)):=by
 rcases htail with ⟨h1,rfl⟩|h1
 ·exact x1d h hmode h1 o ho hl hcv hT
 ·exact y7z h hmode h1 o ho hl hwv hno hc hcv hT
def w8x(c:YCX)(g:Nat)(w:World)(S:Fp)(t:TX)(D:DataW Unit)(n:Nat)(cur':Nat->Nat)(T':Nat)(v:Value)(e:Ending)(w':World):Prop :=
 ∃tl S',e=.returned v/\YTxS c g w' S' { t with tail:=tl } D n cur' T'/\y4d tl/\Chg (SGW S g t.words) w w'/\Grew S S' w
theorem YTxS.put4{c g W S t D n cur T N}(h:YTxS c g W S t D n cur T)(hl:x0x c g t N){b}(hb:N<=b)(hS:¬S b) v old:YTxS c g (put4 W b v old) S t D n cur T :=
 (((h.other hl hb hS 0 _).other hl hb hS 1 _).other hl hb hS 2 _).other hl hb hS 0 _
theorem x6k{c g w S t D n cur T}(h:YTxS c g w S t D n cur T)(hop:t.open_=true)(hmode:t.mode=2){ws}(htail:(t.tail=↑((),())/\ws=[])\/y4d t.tail)(o v:Nat)(ho:z3e c.L c.s1 26 o)(hD:has D (kU o)=false)(hsz:Maps.size D<=95)(hn:n<=1000)(hl:LogU cur c.s1 ws)(hwv:∀e∈ws,e.1<18446744073709551616)(hno:o∉ws.map (·.1))(hc:ws.length+1<=100)(hcv:∀i,cur i<18446744073709551616)(hT:T<=1000000):
  () 34 #[(g,()),o,v] w (w8x c g w S t (D.put (kU o) (z2g v (cur (o/8)) true)) (n+1) (upd (svC cur (64*c.s1) ws.length [o]) (o/8) v) (T+9) (.tuple #[])):=by
 have HX:=hid h;have Gb:=hid h.lts;have Gl:o<18446744073709551616:=by have:=ho.lt;have:=c.hpl;omega
 have Gw:=hid (z8f h o ho.al ho.lt);have Gr:=hid (z6p h o Gl);have Gu:Hid (∀k,w.heap.size<=k->¬S k):=fun k hk hs=>by have:=h.base.dev.lt _ hs;omega
 obtain⟨v1,x1,p1,G0,_⟩:=z5a h.maps.words Gl;rw[hD]at G0;have Gh:Blw w (w.alloc (.cells #[v1,x1,p1] 182)):=(Below.refl _ w).alloc (nL _) _;have Gg:=h.more_ Gh;have G5:=hid (x6f Gg hmode htail o ho hl hwv hno hc hcv hT);have GH:∀ty,(Builtin.len_ #[141] ty #[.map (some t.words)]).run Tryz.prog (w.alloc (.cells #[v1,x1,p1] 182))=.ok [Maps.size D] (w.alloc (.cells #[v1,x1,p1] 182)):=fun ty=>Gg.maps.words.len Tryz.underlying141 ty
 have GI:decide (96<=(Maps.size D:Int))=false:=dF;have Gp:=hid (Blk.new w 182 #[v1,x1,p1]);have c8:w.cell? ⟨g,8,none⟩=some ↑true:=(h.tx.cell 8).trans (by simp[z1c,hop]);have c0:w.cell? (g,())=some (.map (some t.words)):=h.tx.cell 0;have d0:(w.alloc (.cells #[v1,x1,p1] 182)).cell? (g,())=some (.map (some t.words)):=Gg.tx.cell 0;have GJ:g<w.heap.size:=h.tx.lt;have Gs:=hid ho;have G8:=hid (show w.heap.size<=(w.alloc (.cells #[v1,x1,p1] 182)).heap.size from by simp);have GF:Hid (Chg (SGW S g t.words) w (w.alloc (.cells #[v1,x1,p1] 182))):=hid (Chg.of_below Gh);clear h Gg Gh ho hl hwv hno hc hcv hop hmode htail hD;unfold z2o at G0;go_enter Tryz.func34,Tryz.ntmps34
 go_wp2_with (first
  |(go_at_call 111;refine Gw.out.mono ?_;rintro e w1⟨rfl,rfl⟩)
  |(go_at_call 112;refine Gr.out.mono ?_;rintro e w1⟨rfl,rfl⟩)
  |(go_at_call 113;refine stop ?_)
  |go_in)
 unfold Stop;refine G5.out.mono ?_;generalize cur (o/8)=old at*;rintro e W1⟨S1,tl,rfl,G3,Gn,Gj,G2⟩;have G9:=hid G2;have Gq:Hid (Grew S S1 w):=hid (fun k hk=>(Gj k hk).elim .inl (fun h => .inr (Nat.le_trans G8.out h)));have GC:=hid (GF.out.trans Gn (fun k hk => .inl (.inl hk)));clear G2;unfold z2o;have Gx:=hid G3;have Ga:=hid (Gn.blk Gp.out (by rintro (h|h)<;>first|exact Gu.out _ (nL _) h|omega));have Gt:Hid (¬S1 w.heap.size):=fun h=>(Gj _ h).elim (Gu.out _ (nL _)) (fun h=>by simp at h;omega)
 clear G3 Gn Gj Gp HX Gw Gr;have b0:W1.cell? (w,())=some ↑v1:=Ga.out.cell 0;have b1:W1.cell? ⟨w.heap.size,1,none⟩=some ↑x1:=Ga.out.cell 1;have b2:W1.cell? ⟨w.heap.size,2,none⟩=some ↑p1:=Ga.out.cell 2;have z0:W1.frozen? (w,())=false:=Ga.out.frozen 0;have z1:W1.frozen? ⟨w.heap.size,1,none⟩=false:=Ga.out.frozen 1;have z2:W1.frozen? ⟨w.heap.size,2,none⟩=false:=Ga.out.frozen 2;have GG:x0x c g { t with tail:=tl } w.heap.size:=⟨Gb.out.r,Gb.out.u,Gb.out.h,Gb.out.m,Gb.out.gs,Gb.out.pl,Gb.out.mr,Gb.out.mh,Gb.out.t1,Gb.out.t2,Gb.out.g,Gb.out.words,Gb.out.inner,Gb.out.own,Gb.out.freed,Gb.out.held,Gb.out.cover⟩
 have Gf:=hid (Gx.out.put4 GG (nL _) Gt.out v old);have Ge:=hid (w4p Ga.out v old);have Gy:=hid (GC.out.trans (w7a W1 w.heap.size v old) (fun k hk => .inr (by rw[hk];exact nL _)));have Gv:Hid (put4 W1 w.heap.size v old=(((W1.setCell (w,()) [()]).setCell ⟨w.heap.size,1,none⟩ old).setCell ⟨w.heap.size,2,none⟩ true).setCell (w,()) v):=hid rfl;have k6:((((W1.setCell (w,()) [()]).setCell ⟨w.heap.size,1,none⟩ old).setCell ⟨w.heap.size,2,none⟩ true).setCell (w,()) v).cell? ⟨g,6,none⟩=some (c.x.m,()):=Gf.out.tx.cell 6;have k0:((((W1.setCell (w,()) [()]).setCell ⟨w.heap.size,1,none⟩ old).setCell ⟨w.heap.size,2,none⟩ true).setCell (w,()) v).cell? (c.x.m,())=some (c.a.th 0,()):=Gf.out.base.sys.m.cell 0;go_wp2_with fail
 rw[<- Gv.out];generalize put4 W1 w.heap.size v old=W2 at*;clear k6 k0 b0 b1 b2 z0 z1 z2 Gx Ga Gv;refine(x0j Gf.out.base.dev o v (c.hdr _) Gs.out.al Gs.out.lt oM).mono ?_;intro e W3 h3;obtain⟨rfl,S3,G4,Gi,Gz⟩:=Gf.out.step h3;have GA:=hid G4;have Gc:=hid (Gi.blk Ge.out Gt.out);have GD:=hid (Gy.out.trans Gi (fun k hk=>(Gq.out k hk).elim (fun h => .inl (.inl (.inl h))) .inr));have G6:Hid (Grew S S3 w):=hid (fun k hk=>(Gz k hk).elim (Gq.out k) (fun h => .inr (Nat.le_trans Gy.out.size h)));clear h3 G4 Gi Gz Gf Ge;go_wp2;have Gd:Hid (YTxS c g W3.drew S3 { t with tail:=tl } D n (upd (svC cur (64*c.s1) ws.length [o]) (o/8) v) (T+8+1)):=hid (GA.out.more_ (Below.refl _ _).drew);obtain⟨w3,Gm,G1,Gk⟩:=Gd.out.maps.words.update z1g Tryz.underlying141 (by unfold maxLen;omega) (keyU Gl) (z6r v old true);have GB:=hid (Gd.out.put Gk G1);have GE:=hid (GD.out.drew.grown Gk (fun g hg => .inl (.inr (by cases hg;rfl))));unfold z2o at Gm;clear G1 Gk;have G7:Hid (W3.drew.cell? (g,())=some (.map (some t.words))/\W3.drew.cell? (w,())=some ↑v/\W3.drew.cell? ⟨w.heap.size,1,none⟩=some ↑old/\W3.drew.cell? ⟨w.heap.size,2,none⟩=some ↑true):=hid ⟨Gd.out.tx.cell 0,Gc.out.cell 0,Gc.out.cell 1,Gc.out.cell 2⟩;refine z0f (fun w'=>w'.cell? (g,())=some (.map (some t.words))/\w'.cell? (w,())=some ↑v/\w'.cell? ⟨w.heap.size,1,none⟩=some ↑old/\w'.cell? ⟨w.heap.size,2,none⟩=some ↑true) 7 [(true,0),(true,1),(true,2),(true,3),(true,4),(true,5),(true,6)] (by kernel_rfl) (by kernel_rfl) G7.out ?_
 refine tkS (g,()) (fun w' hS=>?_) ?_
 ·go_simp
 refine tkS (g,()) (fun w' hS=>?_) ?_
 ·go_simp
 refine tkS (g,()) (fun w' hS=>?_) ?_
 ·go_simp
 refine tkS (g,()) (fun w' hS=>?_) ?_
 ·go_simp
 refine tkS (.map (some t.words)) (fun w' hS=>?_) ?_
 ·obtain⟨f1,_,_,_⟩:=hS
  go_simp
 refine tkS o (fun w' hS=>?_) ?_
 ·go_simp
 refine tkS (.agg #[v,old,true]) (fun w' hS=>?_) ?_
 ·obtain⟨_,f1,f2,f3⟩:=hS
  go_simp
 show wpList _ _ _ _ _ _;simp only[List.drop_succ_cons,List.drop_zero];go_wp2;refine NoPanic.normal ?_;go_wp2;go_end0;exact⟨tl,S3,rfl,GB.out,G9.out,GE.out,G6.out⟩
def w8w(c:YCX)(g:Nat)(w:World)(S Z:Fp)(t:TX)(D:DataW Unit)(n:Nat)(cur':Nat->Nat)(T':Nat)(v:Value)(e:Ending)(w':World):Prop :=
 ∃S',e=.returned v/\YTxS c g w' S' t D n cur' T'/\Chg Z w w'/\Grew S S' w
theorem x6l{c g w S t D n cur T}(h:YTxS c g w S t D n cur T)(hop:t.open_=true)(o v v0 old:Nat)(ho:z3e c.L c.s1 26 o)(hD:has D (kU o)=true)(hat:D.atKey (kU o) (z2g 0 0 false)=z2g v0 old true)(hn:n<=1000)(hT:T<=1000000):
  () 34 #[(g,()),o,v] w (w8w c g w S (SG S t.words) t (D.put (kU o) (z2g v old true)) (n+1) (upd cur (o/8) v) (T+1) (.tuple #[])):=by
 have Gx:=hid h.lts;have Gh:o<18446744073709551616:=by have:=ho.lt;have:=c.hpl;omega
 have Gm:=hid (z8f h o ho.al ho.lt);have Gj:=hid (z6p h o Gh);have Gl:Hid (∀k,w.heap.size<=k->¬S k):=fun k hk hs=>by have:=h.base.dev.lt _ hs;omega
 obtain⟨v1,x1,p1,Gs,hc⟩:=z5a h.maps.words Gh;rw[hat]at hc;obtain⟨rfl,rfl,rfl⟩:=z8j hc;rw[hD]at Gs;have Gq:Blw w (w.alloc (.cells #[v0,old,true] 182)):=(Below.refl _ w).alloc (nL _) _;have Gn:=hid (h.more_ Gq);have Ge:=hid (Blk.new w 182 #[v0,old,true]);have c8:w.cell? ⟨g,8,none⟩=some ↑true:=(h.tx.cell 8).trans (by simp[z1c,hop]);have c0:w.cell? (g,())=some (.map (some t.words)):=h.tx.cell 0;have Gd:=hid (Gn.out.other Gx.out (nL _) (Gl.out _ (nL _)) 0 v);have Ga:Hid (Blk ((w.alloc (.cells #[v0,old,true] 182)).setCell (w,()) v) w.heap.size 182 #[v,old,true]):=hid (Ge.out.set_ 0 v);have Gp:(w.alloc (.cells #[v0,old,true] 182)).setCell (w,()) v=w.alloc (.cells #[v,old,true] 182):=by simp[go_sem]
 rw[Gp]at Gd Ga;have k6:(w.alloc (.cells #[v,old,true] 182)).cell? ⟨g,6,none⟩=some (c.x.m,()):=Gd.out.tx.cell 6;have k0:(w.alloc (.cells #[v,old,true] 182)).cell? (c.x.m,())=some (c.a.th 0,()):=Gd.out.base.sys.m.cell 0;have G5:g<w.heap.size:=h.tx.lt;have Gk:=hid ho;have Gz:=hid (Gl.out _ (nL _));have G2:Hid (Chg (SG S t.words) w (w.alloc (.cells #[v,old,true] 182))):=Chg.of_below ((Below.refl _ w).alloc (nL _) _);have Gw:Hid (w.heap.size<=(w.alloc (.cells #[v,old,true] 182)).heap.size):=hid (by simp);clear h Gq ho hop hD hat hc Gp;unfold z2o at Gs;go_enter Tryz.func34,Tryz.ntmps34
 go_wp2_with (first
  |(go_at_call 111;refine Gm.out.mono ?_;rintro e w1⟨rfl,rfl⟩)
  |(go_at_call 112;refine Gj.out.mono ?_;rintro e w1⟨rfl,rfl⟩)
  |(go_at_call 44;refine stop ?_)
  |go_in)
 unfold Stop;generalize w.alloc (.cells #[v,old,true] 182)=W2 at*;clear k6 k0 Gn Ge Gm Gj;refine(x0j Gd.out.base.dev o v (c.hdr _) Gk.out.al Gk.out.lt oM).mono ?_;intro e W3 h3;obtain⟨rfl,S3,Gu,Gf,Gr⟩:=Gd.out.step h3;have G0:=hid Gu;have Gb:=hid (Gf.blk Ga.out Gz.out);have G3:=hid (G2.out.trans Gf (fun k hk => .inl (.inl hk)));have Gv:Hid (Grew S S3 w):=fun k hk=>(Gr k hk).elim .inl (fun h => .inr (Nat.le_trans Gw.out h))
 clear h3 Gu Gf Gr Gd Ga;go_wp2;have Gc:Hid (YTxS c g W3.drew S3 t D n (upd cur (o/8) v) (T+1)):=hid (G0.out.more_ (Below.refl _ _).drew);obtain⟨w3,Gi,Gt,Gg⟩:=Gc.out.maps.words.update z1g Tryz.underlying141 (by unfold maxLen;omega) (keyU Gh) (z6r v old true);have G1:=hid (Gc.out.put Gg Gt);have G4:=hid (G3.out.drew.grown Gg (fun g hg => .inl (.inr (by cases hg;rfl))));unfold z2o at Gi;clear Gt Gg;have Gy:Hid (W3.drew.cell? (g,())=some (.map (some t.words))/\W3.drew.cell? (w,())=some ↑v/\W3.drew.cell? ⟨w.heap.size,1,none⟩=some ↑old/\W3.drew.cell? ⟨w.heap.size,2,none⟩=some ↑true):=hid ⟨Gc.out.tx.cell 0,Gb.out.cell 0,Gb.out.cell 1,Gb.out.cell 2⟩;refine z0f (fun w'=>w'.cell? (g,())=some (.map (some t.words))/\w'.cell? (w,())=some ↑v/\w'.cell? ⟨w.heap.size,1,none⟩=some ↑old/\w'.cell? ⟨w.heap.size,2,none⟩=some ↑true) 7 [(true,0),(true,1),(true,2),(true,3),(true,4),(true,5),(true,6)] (by kernel_rfl) (by kernel_rfl) Gy.out ?_;refine tkS (g,()) (fun w' hS=>?_) ?_
 ·go_simp
 refine tkS (g,()) (fun w' hS=>?_) ?_
 ·go_simp
 refine tkS (g,()) (fun w' hS=>?_) ?_
 ·go_simp
 refine tkS (g,()) (fun w' hS=>?_) ?_
 ·go_simp
 refine tkS (.map (some t.words)) (fun w' hS=>?_) ?_
 ·obtain⟨f1,_,_,_⟩:=hS
  go_simp
 refine tkS o (fun w' hS=>?_) ?_
 ·go_simp
 refine tkS (.agg #[v,old,true]) (fun w' hS=>?_) ?_
 ·obtain⟨_,f1,f2,f3⟩:=hS
  go_simp
 show wpList _ _ _ _ _ _;simp only[List.drop_succ_cons,List.drop_zero];go_wp2;refine NoPanic.normal ?_;go_wp2;go_end0;exact⟨S3,rfl,G1.out,G4.out,Gv.out⟩
theorem x1g{c g w S t D n cur T}(h:YTxS c g w S t D n cur T)(hop:t.open_=true) o v0 old p0 (hov:o<18446744073709551616) (hD:has D (kU o)=true) (hat:D.atKey (kU o) (z2g 0 0 false)=z2g v0 old p0) :
  () 36 #[(g,0),o] w fun e w'=>e=.returned v0/\Blw w w':=by
 obtain⟨v1,x1,p1,Ga,hc⟩:=z5a h.maps.words hov;rw[hat]at hc;obtain⟨rfl,rfl,rfl⟩:=z8j hc;rw[hD]at Ga;have c8:w.cell? (g,8)=some ↑true:=(h.tx.cell 8).trans (by simp[z1c,hop]);have c0:w.cell? (g,0)=some (.map (some t.words)):=h.tx.cell 0;have Gb:Hid (∀o,Blw w (w.alloc o)):=fun o=>(Below.refl _ w).alloc (nL _) o
 clear h hop hD hat hc;unfold z2o at Ga;go_enter Tryz.func36,Tryz.ntmps36
 go_wp2;go_ret;exact⟨rfl,Gb.out _⟩
end
end Go.Proofs.YtmhbokcccjmfgaaGreatDoor
