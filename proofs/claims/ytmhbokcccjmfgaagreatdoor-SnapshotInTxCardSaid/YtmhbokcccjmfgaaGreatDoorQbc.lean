/- part 29 -/
import Derived.Test.YtmhbokcccjmfgaaGreatDoorQbb
set_option maxRecDepth 100000
set_option maxHeartbeats 16000000
namespace Go.Proofs.YtmhbokcccjmfgaaGreatDoor
open Go.Lib (hid)
section
open Go.RowKit Go.Maps
section
variable{bs:List Nat}{c:YCX}{d mode:Nat}{m:Nat->Nat}{q gr T st:Nat}{l:List (List Nat×Nat)}{w w':World}
theorem YRtX.stay(h:YRtX bs c d mode m q gr T st l w)(hb:Blw w w'):YRtX bs c d mode m q gr (T+800) st l w'/\Below c.b0 w w'/\z1i bs w w' :=
 ⟨(h.below hb).more (Nat.le_add_right _ _),hb.mono h.size,z1i.of_below hb h.lts⟩
theorem YRtX.take_(h:YRtX bs c d mode m q gr T st l w) nm (hs:nm.size<=9223372036854775807) (hT:T+800<=18000) :
  () 100 #[(gr,0),(31,d,0),.string nm] w fun e w'=>e=.returned (.tuple #[.int .u64 ((tkR nm (some (st,l),0)).1.1:Int),.int .i64 ((tkR nm (some (st,l),0)).1.2:Int)])/\YRtX bs c d mode m q gr (T+800) st (tkL nm st l) w'/\Below c.b0 w w'/\z1i bs w w':=by
 obtain⟨Ga,Gb⟩:=h.rd;by_cases he:(tkR nm (some (st,l),0)).1.2=0
 ·obtain⟨h1,h2,h3,h4⟩:=w8k he
  have h5:tkL nm st l=l++[(z1d nm,st)]:=by
   unfold tkL;rw[if_pos he,h4]
  rw[h4,h5];exact x5r (fun w'=>YRtX bs c d mode m q gr (T+800) st (l++[(z1d nm,st)]) w'/\Below c.b0 w w'/\z1i bs w w') gr st l Ga Gb nm h1 h2 h3 (fun W A k0 c0 hW hr hk0 _ _=>h.pubL (nm:=nm) hT (h.ok.take h1 h2 h3) W A k0 c0 hW hr hk0)
 ·have h5:tkL nm st l=l:=by
   unfold tkL;rw[if_neg he]
  have h6:(tkR nm (some (st,l),0)).1.1=0:=by
   unfold tkR at he⊢;split
   ·rfl
   ·rename_i hn
    rw[if_neg hn]at he;show(if 0<=fndS nm 0 l then (((0,6),[]):(Nat×Nat)×List (List Nat×Nat))else if l.length=8 then ((0,4),[])else ((st,0),l++[(z1d nm,st)])).1.1=0;split
    ·rfl
    ·rename_i h1
     split
     ·rfl
     ·rename_i h2
      exfalso
      apply he;show(if 0<=fndS nm 0 l then (((0,6),[]):(Nat×Nat)×List (List Nat×Nat))else if l.length=8 then ((0,4),[])else ((st,0),l++[(z1d nm,st)])).1.2=0;rw[if_neg h1,if_neg h2]
  rw[h5,h6];exact(x5q Ga Gb nm hs he).mono (fun e w' g=>⟨g.1,h.stay g.2⟩)
theorem YRtX.drop_(h:YRtX bs c d mode m q gr T st l w) nm (hT:T+800<=18000) :
  () 106 #[(gr,0),(31,d,0),.string nm] w fun e w'=>e=.returned (.int .i64 ((drpR nm (some (st,l),0)).1:Int))/\YRtX bs c d mode m q gr (T+800) st (dpL nm st l) w'/\Below c.b0 w w'/\z1i bs w w':=by
 obtain⟨Ga,Gb⟩:=h.rd;by_cases he:(drpR nm (some (st,l),0)).1=0
 ·obtain⟨h1,h2⟩:=w0o he
  have h5:dpL nm st l=z3i nm l:=by
   unfold dpL;rw[if_pos he,h2]
  rw[h2,h5];exact x4o (fun w'=>YRtX bs c d mode m q gr (T+800) st (z3i nm l) w'/\Below c.b0 w w'/\z1i bs w w') gr st l Ga Gb nm h1 (fun W A k0 c0 hW hr hk0 _ _=>h.pubL (nm:=nm) hT (h.ok.drop h1) W A k0 c0 hW hr hk0)
 ·have h5:dpL nm st l=l:=by
   unfold dpL;rw[if_neg he]
  rw[h5];exact(x4n Ga Gb nm he).mono (fun e w' g=>⟨g.1,h.stay g.2⟩)
theorem YRtX.next_(h:YRtX bs c d mode m q gr T st l w):
  () 97 #[(gr,0),(31,d,0)] w (w3w w (if st=4611686018427387903 then (0,[])else (st+1,[(pOff q,st+1)]))):=by
 have Ga:=h.rd;obtain⟨f,k,B,Z,h1,h2,h3,h4,h5,h6,h7,h8⟩:=h;exact y9v gr q Ga.1 Ga.2 h7 (by intro hn;cases hn) h6.ne
theorem YRtX.pubNext(h:YRtX bs c d mode m q gr T st l w)(hs:st<4611686018427387903){g}(hgb:g∈bs)(hg:Blk w g 117 #[(pOff q),(st+1:Nat)])(hT:T+800<=18000):
  () 52 #[(d,()),.slice (some (g,())) 1 1,((),()),((),())] w fun e w'=>e=.returned ()/\YRtX bs c d mode m q gr (T+800) (st+1) l w'/\Below c.b0 w w'/\z1i bs w w':=by
 obtain⟨f,k,B,Z,h1,h2,h3,h4,h5,h6,h7,h8,h9,Gc,Ga⟩:=h;have Gd:=h6.al;have Gb:pOff q∈y5s q:=z6b.2 ⟨0,oM,rfl⟩;have hr:z0d w w 2 (some (g,())) 1 (z0a [(pOff q,st+1)]):=by
  refine⟨rfl,fun _=>⟨_,rfl,hg.lt,fun j u hu=>?_⟩⟩;have hj:j=0\/j=1:=by
   have:=(List.getElem?_eq_some_iff.1 hu).1;simp[z0a]at this;omega
  rcases hj with rfl|rfl
  ·rw[show((g,()):Addr).add 0=(g,())from rfl,hg.cell 0];exact hu
  ·rw[show((g,()):Addr).add 1=⟨g,1,none⟩from rfl,hg.cell 1];exact hu
 refine(z6c h2.op h2.mo (some (g,())) 1 1 [(pOff q,st+1)] hr (fun ad ha hz=>?_) oM (fun e he=>?_) (fun e he=>?_) h3 (fun e he=>?_) (by simp[y5s]) oM).mono ?_
 ·cases ha;exact(Ga g hgb).2 hz
 ·simp at he;subst he;exact h6.gd 0 oM
 ·simp at he;subst he;show st+1<_;omega
 ·simp at he;subst he;exact Gb
 ·rintro e w'⟨he,k',hp⟩
  refine⟨he,YRtX.pub_ h1 oM h2 h3 h6 h7 h8 h9 Gc Ga (fun e he=>?_) ?_ (h5.next hs) hp⟩
  ·simp at he;subst he;exact⟨Gb,by show st+1<_;omega⟩
  ·exact x1p h4
theorem YRtX.isP:(h:YRtX bs c d mode m q gr T st l w)->YIsP gr (31,d,0) st l (YRtX bs c d mode m q gr T st l):=fun h=>⟨h.ok,fun h hb=>h.below hb,fun h=>h.rd⟩
end
end
section
open Go.RowKit Go.Maps
section
variable{B G:Nat}{bs:List Nat}{a:DA}{x:HA}{y:WA}{q gr T N st:Nat}{l rl:List (List Nat×Nat)}{w w':World}
theorem z2z{Z A n k b xs}(h:z0d w b k A n xs)(hc:Chg Z w w')(hb:b<=w)(hn:∀ad,A=some ad->¬Z ad.block):z0d w' b k A n xs:=by
 refine⟨h.1,fun hp=>?_⟩;obtain⟨ad,hA,Ga,Gb⟩:=h.2 hp;refine⟨ad,hA,Ga,fun j u hu=>?_⟩;rw[<- Gb j u hu];exact World.cell?_of_block (by
  rw[z2f];exact hc.block _ (Nat.lt_of_lt_of_le Ga hb) (hn ad hA))
theorem y1f{w0 W1:World}{A:Option Addr}{R:List (List Nat×Nat)×Nat}{rl4:List (List Nat×Nat)}{cd:Nat}{e:Ending}(hat:∀ad,A=some ad->ad.block∈bs)(hsz:w0.heap.size<=W1.heap.size)(hR:R=(rl4,cd))(h:x9h W1 A st R e w'):
  ∃(A':Option Addr)(n' c':Nat),e=.returned (.tuple #[.agg #[st,.slice A' n' c'],[cd]])/\Hid (n'<=c'/\c'<=9223372036854775807/\z0d w' w' 2 A' n' (z0b rl4)/\(∃E:List Nat,(∀g∈E,w0<=g/\g<w')/\∀ad,A'=some ad->ad.block∈E++bs/\(ad.block∈bs\/W1<=ad.block))/\Blw W1 w'/\(A'=A\/∀ad,A'=some ad->W1<=ad.block)):=by
 subst hR;obtain⟨A',n',c',h1,h2,h3,h4,h5,h6⟩:=h;refine⟨A',n',c',h1,hid ⟨h2,h3,h4,?_,h6,h5.imp id (fun h ad hA=>(h ad hA).1)⟩⟩;rcases h5 with h5|h5
 ·exact⟨[],(fun g hg=>by cases hg),fun ad hA=>by rw[List.nil_append];exact⟨hat ad (h5▸hA),.inl (hat ad (h5▸hA))⟩⟩
 ·cases A' with
  |none=>exact⟨[],(fun g hg=>by cases hg),fun ad hA=>by cases hA⟩
  |some ad =>
   obtain⟨g1,g2⟩:=h5 ad rfl;refine⟨[ad.block],fun g hg=>?_,fun ad' hA=>?_⟩
   ·rw[List.mem_singleton.1 hg]
    exact⟨Nat.le_trans hsz g1,g2⟩
   ·injection hA with hA
    subst hA;exact⟨by simp,.inr g1⟩
theorem w9q(h:RgX B bs a x y q gr T N st l w)(hs:y7r B x y gr G)(hG:G<=w.heap.size)(hrl:RLk l rl) A n c (hr:RlIn bs A n c rl w) kd nm (hkd:kd<256) (h0:kd%4=3) (hs9:nm.size<=9223372036854775807) (hT:T+800<=1000000000) (hN:N<=1000000000) :
  () 30 #[(gr,()),.iface 58 (y.d,()),.agg #[st,.slice A n c],.agg #[[[kd]],.string nm]] w (w3t B bs A a x y q gr T N st w):=by
 obtain⟨W1,Gi⟩:∃W1,((w.alloc (.cells #[st,.slice A n c] 87)).alloc (.cells #[[[kd]],.string nm] 79)).alloc (.cells #[[()],((),())] 87)=W1:=⟨_,rfl⟩
 have Gm:Blw w W1:=by rw[<- Gi];exact(((Below.refl _ _).alloc (nL _) _).alloc (by simp) _).alloc (by simp;omega) _
 have Gg:Blk W1 w 87 #[st,.slice A n c]:=by rw[<- Gi];exact((Blk.new _ _ _).alloc _).alloc _
 have Ge:Blk W1 (w.heap.size+1) 79 #[[[kd]],.string nm]:=by
  rw[<- Gi];refine Blk.alloc ?_ _;have h1:=Blk.new (w.alloc (.cells #[st,.slice A n c] 87)) 79 #[[[kd]],.string nm];rw[show(w.alloc (.cells #[st,.slice A n c] 87)).heap.size=w.heap.size+1 by simp]at h1;exact h1
 have GD:Blk W1 (w.heap.size+2) 87 #[[()],((),())]:=by
  rw[<- Gi];have h1:=Blk.new ((w.alloc (.cells #[st,.slice A n c] 87)).alloc (.cells #[[[kd]],.string nm] 79)) 87 #[[()],((),())];rw[show((w.alloc (.cells #[st,.slice A n c] 87)).alloc (.cells #[[[kd]],.string nm] 79)).heap.size=w.heap.size+2 by simp]at h1;exact h1
 have HX:=hid h;have Db:=hid hr;have Da:=hid hrl;have Gr:=hid Gm;have GL:=hid Gi;have GZ:=hid Gg;have Gt:=hid GD;have HT:=hid (And.intro hT hN);have G9:=hid hs;have G6:=hid hG;obtain⟨cd,G0⟩:∃cd,(rfD nm rl).2=cd:=⟨_,rfl⟩
 obtain⟨Gq,Gh⟩:∃z,(rfD nm rl).1=z:=⟨_,rfl⟩
 have G5:Hid (() 105 #[.agg #[st,.slice A n c],.string nm] W1 fun e w'=>∃(A':Option Addr)(n' c':Nat),e=.returned (.tuple #[.agg #[st,.slice A' n' c'],[cd]])/\Hid (n'<=c'/\c'<=9223372036854775807/\z0d w' w' 2 A' n' (z0b Gq)/\(∃E:List Nat,(∀g∈E,w.heap.size<=g/\g<w'.heap.size)/\∀ad,A'=some ad->ad.block∈E++bs/\(ad.block∈bs\/W1.heap.size<=ad.block))/\Blw W1 w'/\(A'=A\/∀ad,A'=some ad->W1.heap.size<=ad.block))):=hid ((y3b st A n c rl nm W1 ((hr.rd.below Gm).more Gm.size) (by have h1:=hrl.perm.length_eq;have h2:=h.rgW.ok.len;have h3:=hr.len;omega) hr.cap).mono (fun e w' h=>y1f hr.at_ Gm.size (by rw[<- G0,<- Gh]) h));have Gs:=hid (hrl.drop (st:=st) h.rgW.ok.nd nm);rw[G0,Gh]at Gs;have G7:=hid Ge;have GT:=Gg.cell 0;have GU:=Gg.cell 1;have GV:=Ge.cell 0;have GW:=Ge.cell 1;have e0:((kd:Int)%4==0)=false:=by rw[beq_eq_false_iff_ne];omega
 have e3:((kd:Int)%4==3)=true:=by rw[beq_iff_eq];omega
 clear h hrl hr Gm Gg Ge GD Gi hT hN hs hG;go_enter Tryz.func30,Tryz.ntmps30
 go_upto_region 1 with fail
 rw[GL.out];clear G0 Gh;go_upto_region 8 with (go_at_call 105;refine G5.out.mono ?_;rintro e w4⟨A4,n4,c4,rfl,hq⟩;have G8:=hid hq.out;clear hq)
 obtain⟨q1,q2,q3,⟨E,q4,q5⟩,q6,q7⟩:=G8.out;have GK:Hid (A4=A\/∀ad,A4=some ad->w.heap.size<=ad.block):=hid (q7.imp id (fun h ad hA=>Nat.le_trans Gr.out.size (h ad hA)));have Gy:Blw w w4:=Gr.out.trans (q6.mono Gr.out.size);have Gz:Blw w (w4.alloc (.cells #[st,.slice A4 n4 c4] 87)).drew:=(Gy.alloc Gy.size _).drew;have GS:(w4.alloc (.cells #[st,.slice A4 n4 c4] 87)).drew.heap.size=w4.heap.size+1:=by simp
 have GF:=Gt.out.lt;have GE:=q6.size;have GM:Hid (RgX B (([w.heap.size,w.heap.size+1,w.heap.size+2,w4.heap.size]++E)++bs) a x y q gr T N st l (w4.alloc (.cells #[st,.slice A4 n4 c4] 87)).drew):=hid (HX.out.news Gz _ (fun g hg=>by
  rcases List.mem_append.1 hg with hg|hg
  ·simp at hg
   omega
  ·have:=q4 g hg
   omega))
 have Gw:Hid (RlIn (([w.heap.size,w.heap.size+1,w.heap.size+2,w4.heap.size]++E)++bs) A4 n4 c4 Gq (w4.alloc (.cells #[st,.slice A4 n4 c4] 87)).drew):=hid ⟨⟨q1,q2⟩,(q3.alloc (nL _) _).more (by simp),fun ad hA=>by
  have:=(q5 ad hA).1;simp at this⊢;rcases this with h|h
  ·exact .inr (.inr (.inr (.inr (.inl h))))
  ·exact .inr (.inr (.inr (.inr (.inr h))))⟩
 have G1:=hid Gz;have Gj:Hid (Blk (w4.alloc (.cells #[st,.slice A4 n4 c4] 87)).drew (w.heap.size+1) 79 #[[[kd]],.string nm]):=hid ((G7.out.below q6 G7.out.lt).alloc _).drew;have Gu:Hid (Blk (w4.alloc (.cells #[st,.slice A4 n4 c4] 87)).drew (w.heap.size+2) 87 #[[()],((),())]):=hid ((Gt.out.below q6 Gt.out.lt).alloc _).drew;have Gf:Hid (Blk (w4.alloc (.cells #[st,.slice A4 n4 c4] 87)).drew w4 87 #[st,.slice A4 n4 c4]):=hid (Blk.new _ _ _).drew;have GJ:Hid (∀ad,A4=some ad->ad.block≠w.heap.size+2):=hid (fun ad hA e=>by
  rcases (q5 ad hA).2 with h|h
  ·have:=HX.out.lts _ h
   omega
  ·omega)
 have Gl:Hid (w.heap.size+2<w4.heap.size):=hid (Nat.lt_of_lt_of_le GF GE);clear q1 q2 q3 q4 q5 q6 q7 Gy Gz GS GF GE G8 G5 GT GU GV GW;refine z0e (fun w'=>(w'.cell? (w4,())=some ↑st/\w'.cell? ⟨w4.heap.size,1,none⟩=some (.slice A4 n4 c4))/\w'.cell? ⟨w.heap.size+1,1,none⟩=some (.string nm)) 10 [] [(1,0),(1,1),(1,2),(1,3),(1,4),(1,6),(0,5),(1,7),(0,8),(1,9)] (by kernel_rfl) (by kernel_rfl) ⟨⟨Gf.out.cell 0,Gf.out.cell 1⟩,Gj.out.cell 1⟩ ?_;generalize (w4.alloc (.cells #[st,.slice A4 n4 c4] 87)).drew=w5 at*;have G4:=hid (GM.out.drop_ nm HT.out.1 HT.out.2);rw[Gs.out.1]at G4;generalize w4.heap.size=g12 at*;refine tkH (.agg #[st,.slice A4 n4 c4]) (fun w' hS=>?_) ?_
 ·obtain⟨⟨s0,s1⟩,s2⟩:=hS
  go_simp
 refine tkG (gr,()) ?_;refine tkG (.iface 58 (y.d,())) ?_;refine tkG (.pointer (some ⟨w.heap.size+1,1,none⟩)) ?_;refine tkH (.string nm) (fun w' hS=>?_) ?_
 ·obtain⟨⟨s0,s1⟩,s2⟩:=hS
  go_simp
 refine tkG [cd] ?_;refine z0c (by rfl) ?_;go_wp2_with (go_at_call 106;refine G4.out.mono ?_;rintro e w6⟨rfl,GH,GB,Gg⟩;have GN:=hid GH;have G2:=hid GB;have Gc:=hid Gg;clear GH GB Gg)
 have Gb:=hid (Gc.out.blk Gf.out (by simp));have Gk:=hid (Gc.out.blk Gj.out (by simp));have Ga:=Gc.out.blk Gu.out (by simp);have Gv:=hid Ga;refine⟨⟨⟨Gb.out.cell 0,Gb.out.cell 1⟩,Gk.out.cell 1⟩,?_⟩;refine tkG true ?_;have GP:=Ga.cell 0;have GQ:=Ga.cell 1;have GX:=Ga.frozen 0;have GY:=Ga.frozen 1;clear Ga;refine z0c (by rfl) ?_;go_wp2_with fail
 have GI:RgX B (([w.heap.size,w.heap.size+1,w.heap.size+2,g12]++E)++bs) a x y q gr (T+800) N st (dpL nm st l) ((w6.setCell (w.heap.size+2,()) st).setCell ⟨w.heap.size+2,1,none⟩ (.slice A4 n4 c4)):=(GN.out.setCell G9.out (by show G<=w.heap.size+2;have:=G6.out;omega) (by simp) _).setCell G9.out (by show G<=w.heap.size+2;have:=G6.out;omega) (by simp) _;have Ge:Blk ((w6.setCell (w.heap.size+2,()) st).setCell ⟨w.heap.size+2,1,none⟩ (.slice A4 n4 c4)) (w.heap.size+2) 87 #[st,.slice A4 n4 c4]:=(Gv.out.set_ 0 _).set_ 1 _;have GG:g12≠w.heap.size+2:=by have:=Gl.out;omega
 have Gd:Blk ((w6.setCell (w.heap.size+2,()) st).setCell ⟨w.heap.size+2,1,none⟩ (.slice A4 n4 c4)) g12 87 #[st,.slice A4 n4 c4]:=(Gb.out.far GG _).far GG _;have Gn:Blk ((w6.setCell (w.heap.size+2,()) st).setCell ⟨w.heap.size+2,1,none⟩ (.slice A4 n4 c4)) (w.heap.size+1) 79 #[[[kd]],.string nm]:=(Gk.out.far (by simp) _).far (by simp) _;have GC:Below w w6 ((w6.setCell (w.heap.size+2,()) st).setCell ⟨w.heap.size+2,1,none⟩ (.slice A4 n4 c4)):=((Below.refl _ _).setCell (by simp) _).setCell (by simp) _;have GO:=hid GI;have G3:=hid GC;have d0:=Ge.cell 0;have d1:=Ge.cell 1;refine⟨⟨⟨Gd.cell 0,Gd.cell 1⟩,Gn.cell 1⟩,?_⟩;have Gx:Hid (RlIn (([w.heap.size,w.heap.size+1,w.heap.size+2,g12]++E)++bs) A4 n4 c4 Gq ((w6.setCell (w.heap.size+2,()) st).setCell ⟨w.heap.size+2,1,none⟩ (.slice A4 n4 c4))):=hid (by
  have h6:=Gw.out.kept Gc.out G2.out.size;have hc:Chg (fun k=>k=w.heap.size+2) w6 ((w6.setCell (w.heap.size+2,()) st).setCell ⟨w.heap.size+2,1,none⟩ (.slice A4 n4 c4)):=((Chg.refl (fun k=>k=w.heap.size+2) w6).setCell (p:=⟨w.heap.size+2,0,none⟩) (.inl rfl) _).setCell (p:=⟨w.heap.size+2,1,none⟩) (.inl rfl) _;exact⟨h6.cap,(z2z h6.rd hc (nL _) GJ.out).more hc.size,h6.at_⟩)
 clear GI Ge Gd Gn GC GP GQ GX GY;generalize ((w6.setCell (w.heap.size+2,()) st).setCell ⟨w.heap.size+2,1,none⟩ (.slice A4 n4 c4))=w7 at*;refine tkG true ?_;show wpList _ _ _ _ _ _;simp only[List.drop_succ_cons,List.drop_zero];refine NoPanic.normal ?_;go_wp2_with fail
 have Gp:∀g∈bs,g∈(([w.heap.size,w.heap.size+1,w.heap.size+2,g12]++E)++bs):=fun g hg=>List.mem_append_right _ hg
 have GR:z1i bs w w7:=((z0u G1.out HX.out.lts).trans (Gc.out.less Gp)).trans (z0u G3.out HX.out.lts);have GA:B<=w.heap.size:=HX.out.rgW.size;refine bodyPost_ret (v := .tuple #[.agg #[st,.slice A4 n4 c4],true]) (by simp[results,Tryz.results30,go_sem,d0,d1]) rfl ⟨A4,n4,c4,st,_,Gq,_,rfl,hid ⟨Nat.le_succ _,GO.out,Gs.out.2,Gx.out,Gp,(G1.out.mono GA).trans (G2.out.trans (G3.out.mono GA)),GR,GK.out⟩⟩
end
end
section
open Go.RowKit Go.Maps
theorem z0n{P ops Q S rest i r a w o}(ho:ops[i]?=some o)(hw:Region.wanted o (yielded ops a.tmps)=false)(h:z1e P ops Q S rest r (a.put o.dst undef) w):z1e P ops Q S rest ((1,i)::r) a w :=
 ⟨o,undef,ho,.inr ⟨hw,rfl⟩,h⟩
section
variable{B G:Nat}{bs:List Nat}{a:DA}{x:HA}{y:WA}{q gr T N st:Nat}{l rl:List (List Nat×Nat)}{w w':World}
theorem w9t(h:RgX B bs a x y q gr T N st l w)(hs:y7r B x y gr G)(hG:G<=w.heap.size)(hrl:RLk l rl) A n c (hr:RlIn bs A n c rl w) kd nm (hkd:kd<256) (h0:kd%4≠0) (h3:kd%4≠3) (hs9:nm.size<=9223372036854775807) (hT:T+800<=1000000000) (hN:N<=1000000000) :
  () 30 #[(gr,0),(58,y.d,0),.agg #[st,.slice A n c],.agg #[[[kd]],.string nm]] w (w3t B bs A a x y q gr T N st w):=by
 obtain⟨W1,Gr⟩:∃W1,((w.alloc (.cells #[st,.slice A n c] 87)).alloc (.cells #[[[kd]],.string nm] 79)).alloc (.cells #[[()],((),())] 87)=W1:=⟨_,rfl⟩
 have G2:Blw w W1:=by rw[<- Gr];exact(((Below.refl _ _).alloc (nL _) _).alloc (by simp) _).alloc (by simp;omega) _
 have Gk:Blk W1 w 87 #[st,.slice A n c]:=by rw[<- Gr];exact((Blk.new _ _ _).alloc _).alloc _
 have Gf:Blk W1 (w.heap.size+1) 79 #[[[kd]],.string nm]:=by
  rw[<- Gr];refine Blk.alloc ?_ _;have h1:=Blk.new (w.alloc (.cells #[st,.slice A n c] 87)) 79 #[[[kd]],.string nm];rw[show(w.alloc (.cells #[st,.slice A n c] 87)).heap.size=w.heap.size+1 by simp]at h1;exact h1
 have GV:Blk W1 (w.heap.size+2) 87 #[[()],((),())]:=by
  rw[<- Gr];have h1:=Blk.new ((w.alloc (.cells #[st,.slice A n c] 87)).alloc (.cells #[[[kd]],.string nm] 79)) 87 #[[()],((),())];rw[show((w.alloc (.cells #[st,.slice A n c] 87)).alloc (.cells #[[[kd]],.string nm] 79)).heap.size=w.heap.size+2 by simp]at h1;exact h1
 have HX:=hid h;have Dh:=hid hr;have Dg:=hid hrl;have GC:=hid G2;have GZ:=hid Gr;have GP:=hid Gk;have GE:=hid GV;have HT:=hid (And.intro hT hN);have GY:=hid hs9;have GB:=hid hs;have GA:=hid hG;obtain⟨cd,GK⟩:∃cd,(rfT nm st rl).2=cd:=⟨_,rfl⟩
 obtain⟨Gs,Gq⟩:∃z,(rfT nm st rl).1=z:=⟨_,rfl⟩
 have GO:Hid (() 107 #[.agg #[st,.slice A n c],.string nm] W1 fun e w'=>∃(A':Option Addr)(n' c':Nat),e=.returned (.tuple #[.agg #[st,.slice A' n' c'],[cd]])/\Hid (n'<=c'/\c'<=9223372036854775807/\z0d w' w' 2 A' n' (z0b Gs)/\(∃E:List Nat,(∀g∈E,w.heap.size<=g/\g<w'.heap.size)/\∀ad,A'=some ad->ad.block∈E++bs/\(ad.block∈bs\/W1.heap.size<=ad.block))/\Blw W1 w'/\(A'=A\/∀ad,A'=some ad->W1.heap.size<=ad.block))):=hid ((y3c st A n c rl nm W1 ((hr.rd.below G2).more G2.size) (by have h1:=hrl.perm.length_eq;have h2:=h.rgW.ok.len;have h3:=hr.len;omega) hr.cap (by have:=h.rgW.ok.top;omega) hs9).mono (fun e w' h=>y1f hr.at_ G2.size (by rw[<- GK,<- Gq]) h));have G9:=hid (hrl.take (st:=st) nm);rw[GK,Gq]at G9;have GQ:=hid Gf;have Dc:=Gk.cell 0;have Dd:=Gk.cell 1;have De:=Gf.cell 0;have Df:=Gf.cell 1;have e0:((kd:Int)%4==0)=false:=by rw[beq_eq_false_iff_ne];omega
 have e3:((kd:Int)%4==3)=false:=by rw[beq_eq_false_iff_ne];omega
 clear h hrl hr G2 Gk Gf GV Gr hT hN hs hG;go_enter Tryz.func30,Tryz.ntmps30
 go_upto_region 1 with fail
 rw[GZ.out];clear GK Gq;go_upto_region 10 with (go_at_call 107;refine GO.out.mono ?_;rintro e w4⟨A4,n4,c4,rfl,hq⟩;have GS:=hid hq.out;clear hq)
 obtain⟨q1,q2,q3,⟨E,q4,q5⟩,q6,q7⟩:=GS.out;have GT:Hid (A4=A\/∀ad,A4=some ad->w.heap.size<=ad.block):=hid (q7.imp id (fun h ad hA=>Nat.le_trans GC.out.size (h ad hA)));have GI:Blw w w4:=GC.out.trans (q6.mono GC.out.size);have GJ:Blw w (w4.alloc (.cells #[st,.slice A4 n4 c4] 87)):=GI.alloc GI.size _;have Db:(w4.alloc (.cells #[st,.slice A4 n4 c4] 87)).heap.size=w4.heap.size+1:=by simp
 have GX:=GE.out.lt;have GW:=q6.size;have Da:Hid (RgX B (([w.heap.size,w.heap.size+1,w.heap.size+2,w4.heap.size]++E)++bs) a x y q gr T N st l (w4.alloc (.cells #[st,.slice A4 n4 c4] 87))):=hid (HX.out.news GJ _ (fun g hg=>by
  rcases List.mem_append.1 hg with hg|hg
  ·simp at hg
   omega
  ·have:=q4 g hg
   omega))
 have Gy:Hid (RlIn (([w.heap.size,w.heap.size+1,w.heap.size+2,w4.heap.size]++E)++bs) A4 n4 c4 Gs (w4.alloc (.cells #[st,.slice A4 n4 c4] 87))):=hid ⟨⟨q1,q2⟩,(q3.alloc (nL _) _).more (by simp),fun ad hA=>by
  have:=(q5 ad hA).1;simp at this⊢;rcases this with h|h
  ·exact .inr (.inr (.inr (.inr (.inl h))))
  ·exact .inr (.inr (.inr (.inr (.inr h))))⟩
 have G8:=hid GJ;have GD:Hid (Blk (w4.alloc (.cells #[st,.slice A4 n4 c4] 87)) (w.heap.size+1) 79 #[[[kd]],.string nm]):=hid ((GQ.out.below q6 GQ.out.lt).alloc _);have Gx:Hid (Blk (w4.alloc (.cells #[st,.slice A4 n4 c4] 87)) (w.heap.size+2) 87 #[[()],((),())]):=hid ((GE.out.below q6 GE.out.lt).alloc _);have Gv:Hid (Blk (w4.alloc (.cells #[st,.slice A4 n4 c4] 87)) w4 87 #[st,.slice A4 n4 c4]):=hid (Blk.new _ _ _);have Gw:Hid (Blk (w4.alloc (.cells #[st,.slice A4 n4 c4] 87)) w 87 #[st,.slice A n c]):=hid ((GP.out.below q6 GP.out.lt).alloc _);have GR:Hid (∀ad,A4=some ad->ad.block≠w.heap.size+2):=hid (fun ad hA e=>by
  rcases (q5 ad hA).2 with h|h
  ·have:=HX.out.lts _ h
   omega
  ·omega)
 have Gl:Hid (w.heap.size+2<w4.heap.size):=hid (Nat.lt_of_lt_of_le GX GW);clear q1 q2 q3 q4 q5 q6 q7 GI GJ Db GX GW GS GO Dc Dd De Df;generalize w4.alloc (.cells #[st,.slice A4 n4 c4] 87)=w5 at*;have Gz:=hid (Da.out.take_ nm GY.out HT.out.1 HT.out.2);rw[G9.out.1]at Gz;generalize w4.heap.size=g12 at*;have GU:=GD.out.cell 1;by_cases hc0:cd=0
 ·subst hc0
  have Gn:Hid (() 100 #[(gr,0),(58,y.d,0),.string nm] w5 fun e w'=>e=.returned (.tuple #[st,()])/\RgX B (([w.heap.size,w.heap.size+1,w.heap.size+2,g12]++E)++bs) a x y q gr (T+800) N st (tkL nm st l) w'/\Below B w5 w'/\z1i (([w.heap.size,w.heap.size+1,w.heap.size+2,g12]++E)++bs) w5 w'):=Gz;clear Gz;go_upto_region 11 with (go_at_call 100;refine Gn.out.mono ?_;rintro e w6⟨rfl,G6,G3,Gk⟩;have G0:=hid G6;have Gt:=hid G3;have Gc:=hid Gk;clear G6 G3 Gk)
  have Ga:Hid (Blk w6.drew g12 87 #[st,.slice A4 n4 c4]):=hid (Gc.out.blk Gv.out (by simp)).drew;have Gh:Hid (Blk w6.drew w 87 #[st,.slice A n c]):=hid (Gc.out.blk Gw.out (by simp)).drew;have Gb:Hid (Blk w6.drew (w.heap.size+2) 87 #[[()],((),())]):=hid (Gc.out.blk Gx.out (by simp)).drew;have Gp:=hid (G0.out.below (Below.refl _ _).drew);have Gg:Hid (Below B w5 w6.drew):=hid Gt.out.drew;have Ge:Hid (z1i (([w.heap.size,w.heap.size+1,w.heap.size+2,g12]++E)++bs) w5 w6.drew):=hid Gc.out;clear GU G0 Gt Gc;refine z0e (fun w'=>(w'.cell? (g12,0)=some ↑st/\w'.cell? (g12,1)=some (.slice A4 n4 c4))/\w'.cell? (w,0)=some ↑st) 24 [] [(1,0),(1,1),(1,2),(1,3),(1,4),(1,5),(1,6),(1,7),(1,8),(1,9),(1,10),(1,11),(1,12),(1,13),(1,14),(1,15),(1,16),(1,17),(1,18),(1,19),(1,20),(1,21),(0,22),(1,23)] (by kernel_rfl) (by kernel_rfl) ⟨⟨Ga.out.cell 0,Ga.out.cell 1⟩,Gh.out.cell 0⟩ ?_;generalize w6.drew=w6d at*;refine tkH (.agg #[st,.slice A4 n4 c4]) (fun w' hS=>?_) ?_
  ·obtain⟨⟨s0,s1⟩,s2⟩:=hS
   go_simp
  refine tkG () ?_;refine tkG () ?_;refine tkG true ?_;refine tkG true ?_;refine tkG () ?_;refine tkG false ?_;refine tkG false ?_;refine z0n (by rfl) (by rfl) ?_;simp only[zA,zB,zC,Act.put,zD,zE,zF];refine z0n (by rfl) (by rfl) ?_;simp only[zA,zB,zC,Act.put,zD,zE,zF];refine tkG false ?_;refine tkG false ?_;refine tkG () ?_;refine tkG true ?_;refine tkG true ?_;refine tkG st ?_;refine tkG (w,0) ?_;refine tkH st (fun w' hS=>?_) ?_
  ·obtain⟨⟨s0,s1⟩,s2⟩:=hS
   go_simp
  refine tkG true ?_;refine tkG true ?_;refine tkG true ?_;refine tkG true ?_;have GG:=Gb.out.cell 0;have GH:=Gb.out.cell 1;have GM:=Gb.out.frozen 0;have GN:=Gb.out.frozen 1;refine z0c (by rfl) ?_;go_wp2_with fail
  try rw[show w.heap.size+1+1=w.heap.size+2 from rfl]
  have G7:RgX B (([w.heap.size,w.heap.size+1,w.heap.size+2,g12]++E)++bs) a x y q gr (T+800) N st (tkL nm st l) ((w6d.setCell (w.heap.size+2,0) st).setCell (w.heap.size+2,1) (.slice A4 n4 c4)):=(Gp.out.setCell GB.out (by show G<=w.heap.size+2;have:=GA.out;omega) (by simp) _).setCell GB.out (by show G<=w.heap.size+2;have:=GA.out;omega) (by simp) _;have Gf:Blk ((w6d.setCell (w.heap.size+2,0) st).setCell (w.heap.size+2,1) (.slice A4 n4 c4)) (w.heap.size+2) 87 #[st,.slice A4 n4 c4]:=(Gb.out.set_ 0 _).set_ 1 _;have G5:g12≠w.heap.size+2:=by have:=Gl.out;omega
  have Gd:Blk ((w6d.setCell (w.heap.size+2,0) st).setCell (w.heap.size+2,1) (.slice A4 n4 c4)) g12 87 #[st,.slice A4 n4 c4]:=(Ga.out.far G5 _).far G5 _;have Gi:Blk ((w6d.setCell (w.heap.size+2,0) st).setCell (w.heap.size+2,1) (.slice A4 n4 c4)) w 87 #[st,.slice A n c]:=(Gh.out.far (by simp) _).far (by simp) _;have G4:Below w w6d ((w6d.setCell (w.heap.size+2,0) st).setCell (w.heap.size+2,1) (.slice A4 n4 c4)):=((Below.refl _ _).setCell (by simp) _).setCell (by simp) _;have GF:=hid G7;have Gu:=hid G4;have d0:=Gf.cell 0;have d1:=Gf.cell 1;refine⟨⟨⟨Gd.cell 0,Gd.cell 1⟩,Gi.cell 0⟩,?_⟩;have Gm:Hid (RlIn (([w.heap.size,w.heap.size+1,w.heap.size+2,g12]++E)++bs) A4 n4 c4 Gs ((w6d.setCell (w.heap.size+2,0) st).setCell (w.heap.size+2,1) (.slice A4 n4 c4))):=hid (by
   have h6:=Gy.out.kept Ge.out Gg.out.size;have hc:Chg (fun k=>k=w.heap.size+2) w6d ((w6d.setCell (w.heap.size+2,0) st).setCell (w.heap.size+2,1) (.slice A4 n4 c4)):=((Chg.refl (fun k=>k=w.heap.size+2) w6d).setCell (p:=⟨w.heap.size+2,0,none⟩) (.inl rfl) _).setCell (p:=⟨w.heap.size+2,1,none⟩) (.inl rfl) _;exact⟨h6.cap,(z2z h6.rd hc (nL _) GR.out).more hc.size,h6.at_⟩)
  clear G7 Gf Gd Gi G4 GG GH GM GN;generalize ((w6d.setCell (w.heap.size+2,0) st).setCell (w.heap.size+2,1) (.slice A4 n4 c4))=w7 at*;refine tkG true ?_;show wpList _ _ _ _ _ _;simp only[List.drop_succ_cons,List.drop_zero];refine NoPanic.normal ?_;go_wp2_with fail
  have Gj:∀g∈bs,g∈(([w.heap.size,w.heap.size+1,w.heap.size+2,g12]++E)++bs):=fun g hg=>List.mem_append_right _ hg
  have GL:z1i bs w w7:=((z0u G8.out HX.out.lts).trans (Ge.out.less Gj)).trans (z0u Gu.out HX.out.lts);have G1:B<=w.heap.size:=HX.out.rgW.size;exact bodyPost_ret (v := .tuple #[.agg #[st,.slice A4 n4 c4],true]) (by simp[results,Tryz.results30,go_sem,d0,d1]) rfl ⟨A4,n4,c4,st,_,Gs,_,rfl,hid ⟨Nat.le_succ _,GF.out,G9.out.2,Gm.out,Gj,(G8.out.mono G1).trans (Gg.out.trans (Gu.out.mono G1)),GL,GT.out⟩⟩
 ·have Gn:Hid (() 100 #[(gr,0),(58,y.d,0),.string nm] w5 fun e w'=>e=.returned (.tuple #[[()],[cd]])/\RgX B (([w.heap.size,w.heap.size+1,w.heap.size+2,g12]++E)++bs) a x y q gr (T+800) N st (tkL nm st l) w'/\Below B w5 w'/\z1i (([w.heap.size,w.heap.size+1,w.heap.size+2,g12]++E)++bs) w5 w'):=hid (by
   have h1:=Gz.out;rw[if_neg hc0]at h1;exact h1)
  have dc:((cd:Int) != 0)=true:=by rw[bne,beq_eq_false_iff_ne.2 oM];rfl
  clear Gz hc0;go_upto_region 11 with (go_at_call 100;refine Gn.out.mono ?_;rintro e w6⟨rfl,G6,G3,Gk⟩;have G0:=hid G6;have Gt:=hid G3;have Gc:=hid Gk;clear G6 G3 Gk)
  have Ga:Hid (Blk w6.drew g12 87 #[st,.slice A4 n4 c4]):=hid (Gc.out.blk Gv.out (by simp)).drew;have Gh:Hid (Blk w6.drew w 87 #[st,.slice A n c]):=hid (Gc.out.blk Gw.out (by simp)).drew;have Gb:Hid (Blk w6.drew (w.heap.size+2) 87 #[[()],((),())]):=hid (Gc.out.blk Gx.out (by simp)).drew;have Gp:=hid (G0.out.below (Below.refl _ _).drew);have Gg:Hid (Below B w5 w6.drew):=hid Gt.out.drew;have Ge:Hid (z1i (([w.heap.size,w.heap.size+1,w.heap.size+2,g12]++E)++bs) w5 w6.drew):=hid Gc.out;clear GU G0 Gt Gc;refine z0e (fun w'=>(w'.cell? (g12,0)=some ↑st/\w'.cell? (g12,1)=some (.slice A4 n4 c4))/\w'.cell? (w,0)=some ↑st) 24 [] [(1,0),(1,1),(1,2),(1,3),(1,4),(1,5),(1,6),(1,7),(1,8),(1,9),(1,10),(1,11),(1,12),(1,13),(1,14),(1,15),(1,16),(1,17),(1,18),(1,19),(1,20),(1,21),(0,22),(1,23)] (by kernel_rfl) (by kernel_rfl) ⟨⟨Ga.out.cell 0,Ga.out.cell 1⟩,Gh.out.cell 0⟩ ?_;generalize w6.drew=w6d at*;refine tkH (.agg #[st,.slice A4 n4 c4]) (fun w' hS=>?_) ?_
  ·obtain⟨⟨s0,s1⟩,s2⟩:=hS
   go_simp
  refine tkG [cd] ?_;refine tkG [cd] ?_;refine tkG true ?_;refine tkG true ?_;refine tkG [cd] ?_;refine tkG true ?_;refine tkG true ?_;refine tkG [()] ?_;refine tkG true ?_;refine tkG true ?_;refine tkG true ?_;refine z0n (by rfl) (by rfl) ?_;simp only[zA,zB,zC,Act.put,zD,zE,zF];refine z0n (by rfl) (by rfl) ?_;simp only[zA,zB,zC,Act.put,zD,zE,zF];refine z0n (by rfl) (by rfl) ?_;simp only[zA,zB,zC,Act.put,zD,zE,zF];refine z0n (by rfl) (by rfl) ?_;simp only[zA,zB,zC,Act.put,zD,zE,zF];refine z0n (by rfl) (by rfl) ?_;simp only[zA,zB,zC,Act.put,zD,zE,zF];refine z0n (by rfl) (by rfl) ?_;simp only[zA,zB,zC,Act.put,zD,zE,zF];refine z0n (by rfl) (by rfl) ?_;simp only[zA,zB,zC,Act.put,zD,zE,zF];refine z0n (by rfl) (by rfl) ?_;simp only[zA,zB,zC,Act.put,zD,zE,zF];refine tkG true ?_;refine tkG true ?_;have GG:=Gb.out.cell 0;have GH:=Gb.out.cell 1;have GM:=Gb.out.frozen 0;have GN:=Gb.out.frozen 1;refine z0c (by rfl) ?_;go_wp2_with fail
  try rw[show w.heap.size+1+1=w.heap.size+2 from rfl]
  have G7:RgX B (([w.heap.size,w.heap.size+1,w.heap.size+2,g12]++E)++bs) a x y q gr (T+800) N st (tkL nm st l) ((w6d.setCell (w.heap.size+2,0) st).setCell (w.heap.size+2,1) (.slice A4 n4 c4)):=(Gp.out.setCell GB.out (by show G<=w.heap.size+2;have:=GA.out;omega) (by simp) _).setCell GB.out (by show G<=w.heap.size+2;have:=GA.out;omega) (by simp) _;have Gf:Blk ((w6d.setCell (w.heap.size+2,0) st).setCell (w.heap.size+2,1) (.slice A4 n4 c4)) (w.heap.size+2) 87 #[st,.slice A4 n4 c4]:=(Gb.out.set_ 0 _).set_ 1 _;have G5:g12≠w.heap.size+2:=by have:=Gl.out;omega
  have Gd:Blk ((w6d.setCell (w.heap.size+2,0) st).setCell (w.heap.size+2,1) (.slice A4 n4 c4)) g12 87 #[st,.slice A4 n4 c4]:=(Ga.out.far G5 _).far G5 _;have Gi:Blk ((w6d.setCell (w.heap.size+2,0) st).setCell (w.heap.size+2,1) (.slice A4 n4 c4)) w 87 #[st,.slice A n c]:=(Gh.out.far (by simp) _).far (by simp) _;have G4:Below w w6d ((w6d.setCell (w.heap.size+2,0) st).setCell (w.heap.size+2,1) (.slice A4 n4 c4)):=((Below.refl _ _).setCell (by simp) _).setCell (by simp) _;have GF:=hid G7;have Gu:=hid G4;have d0:=Gf.cell 0;have d1:=Gf.cell 1;refine⟨⟨⟨Gd.cell 0,Gd.cell 1⟩,Gi.cell 0⟩,?_⟩;have Gm:Hid (RlIn (([w.heap.size,w.heap.size+1,w.heap.size+2,g12]++E)++bs) A4 n4 c4 Gs ((w6d.setCell (w.heap.size+2,0) st).setCell (w.heap.size+2,1) (.slice A4 n4 c4))):=hid (by
   have h6:=Gy.out.kept Ge.out Gg.out.size;have hc:Chg (fun k=>k=w.heap.size+2) w6d ((w6d.setCell (w.heap.size+2,0) st).setCell (w.heap.size+2,1) (.slice A4 n4 c4)):=((Chg.refl (fun k=>k=w.heap.size+2) w6d).setCell (p:=⟨w.heap.size+2,0,none⟩) (.inl rfl) _).setCell (p:=⟨w.heap.size+2,1,none⟩) (.inl rfl) _;exact⟨h6.cap,(z2z h6.rd hc (nL _) GR.out).more hc.size,h6.at_⟩)
  clear G7 Gf Gd Gi G4 GG GH GM GN;generalize ((w6d.setCell (w.heap.size+2,0) st).setCell (w.heap.size+2,1) (.slice A4 n4 c4))=w7 at*;refine tkG true ?_;show wpList _ _ _ _ _ _;simp only[List.drop_succ_cons,List.drop_zero];refine NoPanic.normal ?_;go_wp2_with fail
  have Gj:∀g∈bs,g∈(([w.heap.size,w.heap.size+1,w.heap.size+2,g12]++E)++bs):=fun g hg=>List.mem_append_right _ hg
  have GL:z1i bs w w7:=((z0u G8.out HX.out.lts).trans (Ge.out.less Gj)).trans (z0u Gu.out HX.out.lts);have G1:B<=w.heap.size:=HX.out.rgW.size;exact bodyPost_ret (v := .tuple #[.agg #[st,.slice A4 n4 c4],true]) (by simp[results,Tryz.results30,go_sem,d0,d1]) rfl ⟨A4,n4,c4,st,_,Gs,_,rfl,hid ⟨Nat.le_succ _,GF.out,G9.out.2,Gm.out,Gj,(G8.out.mono G1).trans (Gg.out.trans (Gu.out.mono G1)),GL,GT.out⟩⟩
end
end
section
open Go.RowKit Go.Maps
section
variable{G:Nat}{bs:List Nat}{cX:YCX}{dX moX:Nat}{mX:Nat->Nat}{q gr T st:Nat}{l rl:List (List Nat×Nat)}{w w':World}
def x3x(bs:List Nat)(A:Option Addr)(cX:YCX)(dX moX:Nat)(mX:Nat->Nat)(q gr T st:Nat)(w:World)(e:Ending)(w':World):Prop :=
 ∃(A':Option Addr)(n' c' st':Nat)(l' rl':List (List Nat×Nat))(bs':List Nat),e=.returned (.tuple #[.agg #[st',.slice A' n' c'],true])/\Hid (st'<=st+1/\YRtX bs' cX dX moX mX q gr (T+800) st' l' w'/\RLk l' rl'/\RlIn bs' A' n' c' rl' w'/\(∀g∈bs,g∈bs')/\Below cX.b0 w w'/\z1i bs w w'/\(A'=A\/∀ad,A'=some ad->w<=ad.block))
theorem x9t(h:YRtX bs cX dX moX mX q gr T st l w)(hs:gr<G/\cX.b0<=G)(hG:G<=w.heap.size)(hrl:RLk l rl) A n c (hr:RlIn bs A n c rl w) kd nm (hkd:kd<256) (h0:kd%4=0) (hst:st<1000) (hT:T+800<=18000) :
  () 30 #[(gr,0),(31,dX,0),.agg #[st,.slice A n c],.agg #[[[kd]],.string nm]] w (x3x bs A cX dX moX mX q gr T st w):=by
 obtain⟨W1,Gh⟩:∃W1,((w.alloc (.cells #[st,.slice A n c] 87)).alloc (.cells #[[[kd]],.string nm] 79)).alloc (.cells #[[()],((),())] 87)=W1:=⟨_,rfl⟩
 have Gw:Blw w W1:=by rw[<- Gh];exact(((Below.refl _ _).alloc (nL _) _).alloc (by simp) _).alloc (by simp;omega) _
 have Gb:Blk W1 w 87 #[st,.slice A n c]:=by rw[<- Gh];exact((Blk.new _ _ _).alloc _).alloc _
 have Gi:Blk W1 (w.heap.size+1) 79 #[[[kd]],.string nm]:=by
  rw[<- Gh];refine Blk.alloc ?_ _;have h1:=Blk.new (w.alloc (.cells #[st,.slice A n c] 87)) 79 #[[[kd]],.string nm];rw[show(w.alloc (.cells #[st,.slice A n c] 87)).heap.size=w.heap.size+1 by simp]at h1;exact h1
 have G8:Blk W1 (w.heap.size+2) 87 #[[()],((),())]:=by
  rw[<- Gh];have h1:=Blk.new ((w.alloc (.cells #[st,.slice A n c] 87)).alloc (.cells #[[[kd]],.string nm] 79)) 87 #[[()],((),())];rw[show((w.alloc (.cells #[st,.slice A n c] 87)).alloc (.cells #[[[kd]],.string nm] 79)).heap.size=w.heap.size+2 by simp]at h1;exact h1
 have HX:=hid h;have GG:=hid hr;have GE:=hid hrl;have Gj:=hid Gw;have GI:=hid Gh;have Gu:=hid Gb;have G0:=hid G8;have HT:=hid hT;have G3:=hid hs;have Gz:=hid hG;have G2:Hid (() 97 #[(gr,0),(31,dX,0)] W1 fun e w'=>(∃g:Nat,W1.heap.size<=g/\e=.returned (.tuple #[(st+1:Nat),(g,0,1,1)])/\Blk w' g 117 #[(pOff q),(st+1:Nat)])/\Blw W1 w'):=hid (by
  have h1:=(h.below Gw).next_;rw[if_neg oM]at h1;exact h1)
 have GT:=Gi.cell 0;have e0:((kd:Int)%4==0)=true:=by rw[beq_iff_eq];omega
 have hw:IntKind.u64.wrap ((st:Int)+1)=(st:Int)+1:=by rw[IntKind.wrap_u64];omega
 clear h hrl hr Gw Gb Gi G8 Gh hT hs hG;go_enter Tryz.func30,Tryz.ntmps30
 go_upto_region 1 with fail
 rw[GI.out];go_upto_region 4 with (go_at_call 97;refine G2.out.mono ?_;rintro e w4⟨⟨gn,G7,rfl,G9⟩,hb4⟩;have G1:=hid G9;have Gt:=hid G7;have Gk:=hid hb4;clear G9 G7 hb4)
 have GJ:=hid (HX.out.below (Gj.out.trans (Gk.out.mono Gj.out.size)));have Gl:=hid (Gj.out.trans (Gk.out.mono Gj.out.size));have Gb:=Gu.out.below Gk.out Gu.out.lt;have Gm:=hid Gb;have Gn:=hid (G0.out.below Gk.out G0.out.lt);have GN:=Gb.cell 0;have GO:=Gb.cell 1;have GU:=Gb.frozen 0;clear Gb GT G2;go_upto_region 5 with fail
 have Gx:Blw w (w4.setCell (w,0) (.int .u64 ((st:Int)+1))).drew:=(Gl.out.setCell (nL _) _).drew;have Gr:=hid Gx;have Gc:Hid (Blk (w4.setCell (w,0) (.int .u64 ((st:Int)+1))).drew w 87 #[.int .u64 ((st:Int)+1),.slice A n c]):=hid (Gm.out.set_ 0 _).drew;have Gp:Hid (Blk (w4.setCell (w,0) (.int .u64 ((st:Int)+1))).drew (w.heap.size+2) 87 #[[()],((),())]):=hid (Gn.out.far (by simp) _).drew;have Gq:Hid (Blk (w4.setCell (w,0) (.int .u64 ((st:Int)+1))).drew gn 117 #[(pOff q),(st+1:Nat)]):=hid (G1.out.far (by
  show gn≠w.heap.size;have h1:=Gu.out.lt;have h2:=Gt.out;omega) _).drew
 have GH:Hid (w.heap.size+2<(w4.setCell (w,0) (.int .u64 ((st:Int)+1))).drew.heap.size):=hid Gp.out.lt;have GK:Hid (YRtX ([w.heap.size,w.heap.size+1,w.heap.size+2,gn]++bs) cX dX moX mX q gr T st l (w4.setCell (w,0) (.int .u64 ((st:Int)+1))).drew):=hid (HX.out.news Gx _ (fun g hg=>by
  have h1:=GH.out;have h2:=Gq.out.lt;have h3:=Gt.out;have h4:=Gj.out.size;simp at hg;omega))
 clear Gx G1 Gm Gn GJ Gl Gk Gt GN GO GU;have GD:Hid (w4.setCell (w,0) (.int .u64 ((st:Int)+1))=w4.setCell (w,0) (.int .u64 ((st:Int)+1))):=hid rfl;refine z0e (fun w'=>w'.cell? (w,0)=some (.int .u64 ((st:Int)+1))/\w'.cell? (w,1)=some (.slice A n c)) 18 [] [(1,0),(1,1),(1,2),(1,3),(1,4),(1,5),(1,6),(1,7),(1,8),(1,9),(1,10),(1,11),(1,12),(0,13),(1,14),(1,15),(0,16),(1,17)] (by kernel_rfl) (by kernel_rfl) ⟨Gc.out.cell 0,Gc.out.cell 1⟩ ?_;generalize (w4.setCell (w,0) (.int .u64 ((st:Int)+1))).drew=w5 at*;clear GD;have GF:=hid (GK.out.pubNext oM (by simp) Gq.out HT.out);refine tkH (.agg #[.int .u64 ((st:Int)+1),.slice A n c]) (fun w' hS=>?_) ?_
 ·obtain⟨s0,s1⟩:=hS
  go_simp
 refine tkG (.int .u64 ((st:Int)+1)) ?_;refine tkG (w,0) ?_;refine tkH (.int .u64 ((st:Int)+1)) (fun w' hS=>?_) ?_
 ·obtain⟨s0,s1⟩:=hS
  go_simp
 refine tkG true ?_;refine tkG true ?_;refine tkG (gn,0,1,1) ?_;refine tkG (.int .i64 1) ?_;refine tkG true ?_;refine tkG true ?_;refine tkG true ?_;refine tkG (31,dX,0) ?_;refine tkG (gn,0,1,1) ?_;have hm:=z8e (some (dX,0));have GR:=y3o (dX,0);refine z0c (by rfl) ?_;go_wp2_with (go_at_call 52;refine GF.out.mono ?_;rintro e w6⟨rfl,GB,G5,Gb⟩;have GL:=hid GB;have Gy:=hid G5;have Ge:=hid Gb;clear GB G5 Gb)
 have Gd:=hid (Ge.out.blk Gc.out (by simp));have Ga:=Ge.out.blk Gp.out (by simp);have Gv:=hid Ga;refine⟨⟨Gd.out.cell 0,Gd.out.cell 1⟩,?_⟩;refine tkG true ?_;refine tkG true ?_;have GP:=Ga.cell 0;have GQ:=Ga.cell 1;have GV:=Ga.frozen 0;have GW:=Ga.frozen 1;clear Ga hm GR;refine z0c (by rfl) ?_;go_wp2_with fail
 have GC:YRtX ([w.heap.size,w.heap.size+1,w.heap.size+2,gn]++bs) cX dX moX mX q gr (T+800) (st+1) l ((w6.setCell (w.heap.size+2,0) (.int .u64 ((st:Int)+1))).setCell (w.heap.size+2,1) (.slice A n c)):=(GL.out.setCell G3.out (by show G<=w.heap.size+2;have:=Gz.out;omega) (by simp) _).setCell G3.out (by show G<=w.heap.size+2;have:=Gz.out;omega) (by simp) _;have Gi:Blk ((w6.setCell (w.heap.size+2,0) (.int .u64 ((st:Int)+1))).setCell (w.heap.size+2,1) (.slice A n c)) (w.heap.size+2) 87 #[.int .u64 ((st:Int)+1),.slice A n c]:=(Gv.out.set_ 0 _).set_ 1 _;have Gf:Blk ((w6.setCell (w.heap.size+2,0) (.int .u64 ((st:Int)+1))).setCell (w.heap.size+2,1) (.slice A n c)) w 87 #[.int .u64 ((st:Int)+1),.slice A n c]:=(Gd.out.far (by simp) _).far (by simp) _;have G6:Below w w6 ((w6.setCell (w.heap.size+2,0) (.int .u64 ((st:Int)+1))).setCell (w.heap.size+2,1) (.slice A n c)):=((Below.refl _ _).setCell (by simp) _).setCell (by simp) _;have GM:=hid GC;have Gs:=hid G6;have d0:=Gi.cell 0;have d1:=Gi.cell 1;refine⟨⟨Gf.cell 0,Gf.cell 1⟩,?_⟩;clear GC Gi Gf G6 GP GQ GV GW;generalize ((w6.setCell (w.heap.size+2,0) (.int .u64 ((st:Int)+1))).setCell (w.heap.size+2,1) (.slice A n c))=w7 at*;refine tkG true ?_;show wpList _ _ _ _ _ _;simp only[List.drop_succ_cons,List.drop_zero];refine NoPanic.normal ?_;go_wp2_with fail
 have Gg:∀g∈bs,g∈([w.heap.size,w.heap.size+1,w.heap.size+2,gn]++bs):=fun g hg=>List.mem_append_right _ hg
 have GA:z1i bs w w7:=((z0u Gr.out HX.out.lts).trans (Ge.out.less Gg)).trans (z0u Gs.out HX.out.lts);have GS:w.heap.size<=w7.heap.size:=Nat.le_trans Gr.out.size (Nat.le_trans Gy.out.size Gs.out.size);have G4:cX.b0<=w.heap.size:=HX.out.size;refine bodyPost_ret (v := .tuple #[.agg #[.int .u64 ((st:Int)+1),.slice A n c],true]) (by simp[results,Tryz.results30,go_sem,d0,d1]) rfl ⟨A,n,c,st+1,l,rl,_,rfl,hid ⟨nL _,GM.out,GE.out,(GG.out.kept GA GS).more Gg,Gg,(Gr.out.mono G4).trans (Gy.out.trans (Gs.out.mono G4)),GA,.inl rfl⟩⟩
end
end
section
open Go.RowKit Go.Maps
def DA.all(a:DA):DA:={ a with dirty:=fun _=>True }
theorem DevC.all{a L T w S cur s exe per cs ls}(h:DevC a L T w S cur s exe per cs ls):DevC a.all L T w S cur s exe per cs ls:=by
 cases h;constructor<;>assumption
theorem Dev.all{a L T w S cur F}(h:Dev a L T w S cur F):Dev a.all L T w S cur F:=by
 obtain⟨s,Ga,Gb,cs,ls,h1,h2,h3⟩:=h;exact⟨s,Ga,Gb,cs,ls,h1.all,h2,h3.mono (fun _ _=>trivial)⟩
theorem HS.all{a s n K x cs f N m w}(h:HS a s n K x cs f N m w):HS a.all s n K x cs f N m w :=
 ⟨h.heap,⟨h.plc.set_,h.plc.pls⟩,h.res,h.held,h.ne⟩
def z8d(B:Nat)(a:DA)(x:HA)(y:WA)(cs:Nat->CS)(f:Nat->Option Nat)(N m:Nat):YCX :=
 { b0:=B,a:=a.all,x:=⟨y.r,y.u,x.h,x.gs,x.pl,x.po,x.mr,x.mh,y.m⟩,L:=149,s0:=0,s1:=26,s:=53,n:=96,K:=3,cs:=cs,f:=f,N:=N,k:=m,hpl:=by decide,hdr:=fun _=>trivial }
section
variable{B:Nat}{bs:List Nat}{a:DA}{x:HA}{y:WA}{q gr T N st:Nat}{l:List (List Nat×Nat)}{w w':World}{cs:Nat->CS}{f:Nat->Option Nat}{m:Nat}{S:Fp}{cur:Nat->Nat}
theorem BW.base(h:BW a 149 T 3 x y cs f N m B S cur w):z1y (z8d B a x y cs f N m) w S false none cur T:=by
 have hs:=h.sd;have hd:=hs.ds;obtain⟨o1,o2,o3,o4,o5⟩:=hd.off;obtain⟨l1,l2,l3,l4,l5,l6,l7,l8⟩:=hd.lo;obtain⟨n1,n2,n3,n4,n5⟩:=h.new;obtain⟨g1,g2,g3⟩:=h.off;have hx:(z8d B a x y cs f N m).x.hh false=x:=by
  have:=hs.ul;cases x;simp only at this;subst this;rfl
 refine⟨hd.dev.all,⟨hs.log,h.und,?_,h.mgr,?_,hd.tab,hd.pay⟩,⟨hs.offr,g2,o1,g3,o2,o3,o4,o5,fun hz=>?_,fun hz=>?_⟩,l8,⟨n3,n4,l3,n5,l4,l5,l6,l7⟩,l1,l2⟩
 ·have h1:=hd.hs.heap
  rw[hs.ul]at h1;exact h1
 ·rw[hx];exact hd.hs.all
 ·have:=l8 _ hz;omega
 ·have:=l8 _ hz;omega
theorem RgS.qok(h:RgS a 149 T 3 x y cs f N m B S cur q st l w):YQOk (z8d B a x y cs f N m) q:=by
 have hp:=h.pay (by decide);have hl:=h.lo;obtain⟨k,i,h1,h2⟩:=h.live;have Gb:=(h1.at_.inL h.bw.sd.ds).1;have Ge:=h1.at_.lines;have Gd:=h1.at_.lo;rw[h2]at Gb;have Ga:payW 4=60:=rfl;rw[Ga]at Gb;refine⟨h1.nz,h1.lt,h1.top,hp.al,hp.inl,hp.le,fun j hj=>⟨by have:=hp.al;omega,?_,.inr (.inr ?_)⟩,(Live.chk ⟨k,i,h1⟩).1,fun j hj k' hk' a1 a2=>?_⟩
 ·have:=hp.inl
  show pOff q+8*j<64*149;omega
 ·show 64*26+1664<=pOff q+8*j
  omega
 ·have Gc:=y1d (ln:=53+32*k) h1.at_.2.2.1 (j:=j) (by rw[h2,Ga];omega)
  have e:8*(53+32*k)+offB (cs k).cl i+1+j=pOff q/8+j:=by
   have h4:pOff q=blkO (53+32*k) (cs k).cl i:=h1.at_.2.2.2;rw[h4];unfold blkO;omega
  rw[e]at Gc;obtain⟨_,p2,p3,p4⟩:=Gc;have b1:8*(53+32*k')<=pOff q/8+j:=a1;have b2:pOff q/8+j<8*(53+32*k')+256:=a2;obtain rfl:k'=k:=oM;exact⟨h1.at_.2.1,p4⟩
structure YTxG(cX:YCX)(yd gr q st:Nat)(l:List (List Nat×Nat))(mX:Nat->Nat)(w:World):Prop where
 s0:cX.s0=0
 ok:YCok cX mX
 words:z2l mX q (st::encA l)
 lok:LOk st l
 dir:Blk w yd 292 (z2p cX.a cX.x.h cX.x.r)
 few:cX.L=149
theorem z1y.notIn{c w S lk last cur T}(h:z1y c w S lk last cur T){g}{t:TypeId}{vs}(hB:Blk w g t vs)(ht:y1n t):¬YInC c g:=fun hi=>by
 obtain⟨k1,k2⟩:=h.sys.hs.map_ne hB;obtain⟨⟨c',hs⟩,pcs,hp,_⟩:=h.sys.hs.plc;obtain⟨t1,t2,t3,t4,t5,t6⟩:=ht;rcases hi with e|e|e|e|e|e|e|e
 ·exact h.sys.r.ne_ hB (Ne.symm t1) e.symm
 ·exact h.sys.u.ne_ hB (Ne.symm t2) e.symm
 ·exact h.sys.h.ne_ hB (Ne.symm t3) e.symm
 ·exact h.sys.m.ne_ hB (Ne.symm t4) e.symm
 ·exact hs.ne_ hB (Ne.symm t5) e.symm
 ·exact hp.ne_ hB (Ne.symm t6) e.symm
 ·exact k1 e
 ·exact k2 e
theorem RgX.begin{G}(h:RgX B bs a x y q gr T N st l w)(hs:y7r B x y gr G)(hbs:∀g∈bs,G<=g) mode (hmo:mode=1\/mode=2) (hT:T<=40000) :
  () 17 #[(y.m,0),[[mode]]] w fun e w'=>∃d cX mX,e=.returned (.tuple #[(d,0),()])/\cX.b0=B/\YRtX (y.d::y.g::bs) cX d mode mX q gr 800 st l w'/\YTxG cX y.d gr q st l mX w'/\cX.a.th=a.th/\Below B w w'/\z1i (y.d::y.g::bs) w w':=by
 obtain⟨cs,f,m,S,Gc,h1,h2,h3,h4,h5⟩:=h;have hb:=h1.bw.base;have Ga:=h1.bw.sd;have Gg:Gc (8*0)=0:=Ga.idle;have Gk:=h1.bw.uid;have Gu:¬sfp S x y.d:=fun hz=>by
  rcases hz with hz|hz
  ·exact Ga.offd hz
  ·exact Ga.ds.fp_ne Ga.dir (by decide) hz
 have Gj:∀j,YInC (z8d B a x y cs f N m) j->j<w.heap.size/\B<=j:=fun j hj=>by
  obtain⟨z1,z2,z3,z4,z5⟩:=hb.sys.hs.lt;obtain⟨n1,n2,n3,n4,n5,n6,n7,n8⟩:=hb.news;rcases hj with rfl|rfl|rfl|rfl|rfl|rfl|rfl|rfl
  ·exact⟨hb.sys.r.lt,n1⟩
  ·exact⟨hb.sys.u.lt,n2⟩
  ·exact⟨hb.sys.h.lt,n3⟩
  ·exact⟨hb.sys.m.lt,n4⟩
  ·exact⟨z2,n5⟩
  ·exact⟨z3,n6⟩
  ·exact⟨z4,n7⟩
  ·exact⟨z5,n8⟩
 have Ge:YCok (z8d B a x y cs f N m) Gc:=⟨Ga.ds.ok,Ga.ds.res⟩
 refine(x9q (m:=Gc) (B:=40) (Z:=fun j=>S j\/YInC (z8d B a x y cs f N m) j) hb oM ⟨Gg,Gk⟩ Ga.ds.bnd (fun _ _=>rfl) (fun j hj => .inl hj) (fun j hj => .inr hj) (fun j hj=>hj.elim (hb.dev.lt j) (fun h=>(Gj j h).1)) mode hmo).mono ?_;rintro e w'⟨d,rfl,Z',Gq,Gd,Gm⟩;have Gp:∀g,g<w.heap.size->¬(S g\/YInC (z8d B a x y cs f N m) g)->¬Z' g:=fun g hg hz hz'=>(Gm g hz').elim hz (fun e=>oM)
 have Gs:¬(S y.g\/YInC (z8d B a x y cs f N m) y.g):=fun hz=>hz.elim h1.bw.off.1 (hb.notIn h1.bw.blk (by unfold y1n;decide))
 have Gl:¬(S y.d\/YInC (z8d B a x y cs f N m) y.d):=fun hz=>hz.elim Ga.offd (hb.notIn Ga.dir (by unfold y1n;decide))
 have Gf:¬(S gr\/YInC (z8d B a x y cs f N m) gr):=fun hz=>hz.elim (fun e=>h3 (.inl e)) (hb.notIn h2 (by unfold y1n;decide))
 have Gi:∀g∈bs,¬(S g\/YInC (z8d B a x y cs f N m) g):=fun g hg hz=>by
  have hG:=hbs g hg;rcases hz with hz|hz
  ·exact(h5 g hg).2 (.inl hz)
  ·obtain⟨k1,k2,k3,k4,k5,k6,k7,k8⟩:=hs.lo
   have u1:=hs.u;have u2:=hs.m;rcases hz with e|e|e|e|e|e|e|e<;>(have e2:g=_:=e;simp only[z8d]at e2;omega)
 have Gb:∀g∈y.d::y.g::bs,g<w.heap.size/\¬(S g\/YInC (z8d B a x y cs f N m) g):=fun g hg=>by
  rcases List.mem_cons.1 hg with rfl|hg
  ·exact⟨Ga.dir.lt,Gl⟩
  rcases List.mem_cons.1 hg with rfl|hg
  ·exact⟨h1.bw.blk.lt,Gs⟩
  exact⟨(h5 g hg).1,Gi g hg⟩
 have Gr:∀j,Z' j->j<w'.heap.size:=by
  obtain⟨_,_,_,_,_,_,_,_,_,_,hl⟩:=Gq;exact hl
 have Gh:Below B w w':=Gd.toBelow h4 (fun j hj=>hj.elim (hb.old j) (fun h=>(Gj j h).2));have Gt:Yvw YFm.no Gc=Gc:=rfl;have Gn:z1i (y.d::y.g::bs) w w':=fun g hg=>Gd.block g (Gb g hg).1 (Gb g hg).2
 refine⟨d,z8d B a x y cs f N m,Gc,rfl,rfl,⟨YFm.no,0,40,Z',oM,⟨Gq,hmo,Ge,(fun o v hv=>by cases hv),rfl,Ga.ds.bnd⟩,(fun o v hv=>by cases hv),h1.words,h1.ok,h1.qok,Gd.blk h2 Gf,Gp gr h2.lt Gf,fun j hj=>⟨?_,Gr j hj⟩,Nat.le_trans h4 Gd.size,fun g hg=>⟨Nat.lt_of_lt_of_le (Gb g hg).1 Gd.size,Gp g (Gb g hg).1 (Gb g hg).2⟩⟩,⟨rfl,Ge,h1.words,h1.ok,Gn.blk Ga.dir (by simp),rfl⟩,rfl,Gh,Gn⟩;rcases Gm j hj with e|e
 ·exact e.elim (hb.old j) (fun h=>(Gj j h).2)
 ·exact Nat.le_trans h4 e
def YAfX(cX:YCX)(yd q gr st:Nat)(l:List (List Nat×Nat))(w:World):Prop:=∃S last cur T,z1y cX w S false last cur T/\cur (8*cX.s0)=0/\(∀i,cur i<18446744073709551616)/\YCok cX cur/\z2l cur q (st::encA l)/\LOk st l/\YQOk cX q/\cX.s0=0/\Blk w yd 292 (z2p cX.a cX.x.h cX.x.r)/\¬S yd/\Blk w gr 202 #[q]
theorem YAfX.isP{cX yd}(h:YAfX cX yd q gr st l w):YIsP gr (58,yd,0) st l (YAfX cX yd q gr st l):=by
 obtain⟨_,_,_,_,_,_,_,_,_,Gg,_⟩:=h;refine⟨Gg,fun {w w'} h hb=>?_,fun {w} h=>?_⟩
 ·obtain⟨S,Gc,Ga,T,h1,h2,h3,h4,h5,h6,h7,h8,h9,Ge,Gd⟩:=h
  exact⟨S,Gc,Ga,T,h1.more_ hb,h2,h3,h4,h5,h6,h7,h8,h9.below hb h9.lt,Ge,Gd.below hb Gd.lt⟩
 ·obtain⟨S,Gc,Ga,T,h1,h2,h3,h4,h5,h6,h7,h8,h9,Ge,Gd⟩:=h
  have hpl:=cX.hpl;have Gb:=h1.sys.r;rw[h8]at h2 Gb hpl;have Gh:SD cX.a cX.L T cX.s cX.n cX.K (cX.x.hh false) cX.cs cX.f cX.N cX.k cX.b0 S Ga w yd cX.x.r:=⟨h1.ds h4 h3,h9,Gb,h2,Ge,h1.apart.r,oM,rfl⟩
  have Gf:=z6s h6.len (fun p hp=>(h6.by_ p hp).1);have hw:rgW Ga (pOff q/8+1)=encA l:=by
   unfold rgW;apply List.ext_getElem
   ·rw[List.length_map,List.length_range,Gf]
   ·intro j g1 g2
    rw[List.getElem_map,List.getElem_range];have g3:=h5 (j+1) (by rw[List.length_cons];omega);rw[show pOff q/8+1+j=pOff q/8+(j+1) by omega,g3,List.getD_eq_getElem?_getD,List.getElem?_cons_succ,List.getElem?_eq_getElem g2];rfl
  have h0:Ga (pOff q/8)=st:=h5 0 (by rw[List.length_cons];omega);have hR:rgR Ga (fun p=>chkR cX.s cX.K cX.cs p 8) q=(some (st,l),0):=by
   show(if chkR cX.s cX.K cX.cs q 8≠0 then (none,12)else match decA (rgW Ga (pOff q/8+1))with
    |none=>(none,11)
    |some l=>if sndP (Ga (pOff q/8)) l=true then (some (Ga (pOff q/8),l),0)else (none,11))=_
   rw[if_neg (fun hn=>hn h7.chk),hw,y6i h6.len h6.by_,h0];show(if sndP st l=true then (some (st,l),0)else (none,11))=_;rw[if_pos h6.snd]
  have g1:=y5a Gh gr q Gd h7.lt (fun _=>⟨h7.ne,h7.al,h7.inl⟩);have g2:=Go.Proofs.YtmhbokcccjmfgaaGreatDoor.rgOk Ga (fun p=>chkR cX.s cX.K cX.cs p 8) q;rw[hR]at g1 g2;exact⟨g1,g2⟩
theorem YRtX.done{cX:YCX}{d mode B0:Nat}{mX m':Nat->Nat}{yd st':Nat}{l':List (List Nat×Nat)}{Z:Fp}(h7:Blk w gr 202 #[q])(h8:¬Z gr)(hdir:Blk w yd 292 (z2p cX.a cX.x.h cX.x.r))(hyd:¬Z yd)(hs0:cX.s0=0)(hq:YQOk cX q)(hok:YCok cX m')(hw:z2l m' q (st'::encA l'))(hl:LOk st' l')(hd:y5o cX d m' B0 Z w w'):YAfX cX yd q gr st' l' w':=by
 obtain⟨Z',⟨S,t,Gb,T,hi⟩,hch,hgr⟩:=hd;have hpl:=cX.hpl;have Gc:∀j,j<34->z4j cX (pOff q/8+j):=fun j hj=>by
  have h1:=(hq.gd j hj).div;rw[show(pOff q+8*j)/8=pOff q/8+j by omega]at h1;exact h1
 refine⟨S,_,Gb,T,hi.tx.base,hi.idle.1,hi.bnd,hok.same (f:=YFm.no) (fun o v hv=>by cases hv) (fun i hb _=>hi.agree i hb),fun j hj=>?_,hl,hq,hs0,hch.blk hdir hyd,fun hz=>?_,hch.blk h7 h8⟩
 ·have Ga:=z6s hl.len (fun p hp=>(hl.by_ p hp).1)
  rw[List.length_cons,Ga]at hj;rw[hi.agree _ (Gc j hj)];exact hw j (by rw[List.length_cons,Ga];exact hj)
 ·rcases hgr _ (hi.dev _ hz)with e|e
  ·exact hyd e
  ·exact absurd hdir.lt (Nat.not_lt.2 e)
section
variable{cX:YCX}{d mode:Nat}{mX:Nat->Nat}{yd st0:Nat}{l0:List (List Nat×Nat)}
theorem YRtX.abort(h:YRtX bs cX d mode mX q gr T st l w)(hyd:yd∈bs)(hT:T<=18000)(hs0:cX.s0=0)(hok:YCok cX mX)(hw:z2l mX q (st0::encA l0))(hl:LOk st0 l0)(hdir:Blk w yd 292 (z2p cX.a cX.x.h cX.x.r)):
  () 22 #[(d,())] w fun e w'=>e=.returned ()/\YAfX cX yd q gr st0 l0 w'/\Below cX.b0 w w'/\z1i bs w w':=by
 obtain⟨f,k,B,Z,h1,h2,h3,h4,h5,h6,h7,h8,h9,Gc,Gb⟩:=h;refine(x1k h2.op h2.mo oM).mono ?_;rintro e w'⟨he,hd⟩;have Ga:Chg Z w w':=by obtain⟨_,_,Ga,_⟩:=hd;exact Ga
 exact⟨he,YRtX.done (mode:=mode) (mX:=mX) h7 h8 hdir (Gb yd hyd).2 hs0 h6 hok hw hl hd,Ga.toBelow Gc (fun j hj=>(h9 j hj).1),fun g hg=>Ga.block g (Gb g hg).1 (Gb g hg).2⟩
theorem YRtX.commit(h:YRtX bs cX d mode mX q gr T st l w)(hyd:yd∈bs)(hT:T<=18000)(hs0:cX.s0=0)(hdir:Blk w yd 292 (z2p cX.a cX.x.h cX.x.r)):
  () 25 #[(d,())] w fun e w'=>e=.returned ()/\YAfX cX yd q gr st l w'/\Below cX.b0 w w'/\z1i bs w w':=by
 obtain⟨f,k,B,Z,h1,h2,h3,h4,h5,h6,h7,h8,h9,Gc,Gb⟩:=h;refine(y8c h2.op h2.mo oM).mono ?_;rintro e w'⟨he,hd⟩;have Ga:Chg Z w w':=by obtain⟨_,_,Ga,_⟩:=hd;exact Ga
 have Gd:YCok cX (Yvw f mX):=h2.ok.same h2.pay (fun i hb hn=>by unfold Yvw;rw[hn];rfl);exact⟨he,YRtX.done (mode:=mode) (mX:=mX) h7 h8 hdir (Gb yd hyd).2 hs0 h6 Gd h4 h5 hd,Ga.toBelow Gc (fun j hj=>(h9 j hj).1),fun g hg=>Ga.block g (Gb g hg).1 (Gb g hg).2⟩
end
end
end
end Go.Proofs.YtmhbokcccjmfgaaGreatDoor
