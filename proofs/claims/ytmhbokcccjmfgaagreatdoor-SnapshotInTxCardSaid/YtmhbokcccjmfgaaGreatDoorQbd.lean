/- part 30 -/
import Derived.Test.YtmhbokcccjmfgaaGreatDoorQbc
set_option maxRecDepth 100000
set_option maxHeartbeats 16000000
namespace Go.Proofs.YtmhbokcccjmfgaaGreatDoor
open Go.Lib (hid)
section
open Go.RowKit Go.Maps
section
variable{G:Nat}{bs:List Nat}{cX:YCX}{dX moX:Nat}{mX:Nat->Nat}{q gr T st:Nat}{l rl:List (List Nat×Nat)}{w w':World}
theorem x9r(h:YRtX bs cX dX moX mX q gr T st l w)(hs:gr<G/\cX.b0<=G)(hG:G<=w.heap.size)(hrl:RLk l rl) A n c (hr:RlIn bs A n c rl w) kd nm (hkd:kd<256) (h0:kd%4=3) (hs9:nm.size<=9223372036854775807) (hT:T+800<=18000) :
  () 30 #[(gr,0),(31,dX,0),.agg #[st,.slice A n c],.agg #[[[kd]],.string nm]] w (x3x bs A cX dX moX mX q gr T st w):=by
 obtain⟨W1,Gi⟩:∃W1,((w.alloc (.cells #[st,.slice A n c] 87)).alloc (.cells #[[[kd]],.string nm] 79)).alloc (.cells #[[()],((),())] 87)=W1:=⟨_,rfl⟩
 have Gm:Blw w W1:=by rw[<- Gi];exact(((Below.refl _ _).alloc (nL _) _).alloc (by simp) _).alloc (by simp;omega) _
 have Gg:Blk W1 w 87 #[st,.slice A n c]:=by rw[<- Gi];exact((Blk.new _ _ _).alloc _).alloc _
 have Ge:Blk W1 (w.heap.size+1) 79 #[[[kd]],.string nm]:=by
  rw[<- Gi];refine Blk.alloc ?_ _;have h1:=Blk.new (w.alloc (.cells #[st,.slice A n c] 87)) 79 #[[[kd]],.string nm];rw[show(w.alloc (.cells #[st,.slice A n c] 87)).heap.size=w.heap.size+1 by simp]at h1;exact h1
 have GD:Blk W1 (w.heap.size+2) 87 #[[()],((),())]:=by
  rw[<- Gi];have h1:=Blk.new ((w.alloc (.cells #[st,.slice A n c] 87)).alloc (.cells #[[[kd]],.string nm] 79)) 87 #[[()],((),())];rw[show((w.alloc (.cells #[st,.slice A n c] 87)).alloc (.cells #[[[kd]],.string nm] 79)).heap.size=w.heap.size+2 by simp]at h1;exact h1
 have HX:=hid h;have Db:=hid hr;have Da:=hid hrl;have Gr:=hid Gm;have GL:=hid Gi;have GZ:=hid Gg;have Gt:=hid GD;have HT:=hid hT;have G9:=hid hs;have G6:=hid hG;obtain⟨cd,G0⟩:∃cd,(rfD nm rl).2=cd:=⟨_,rfl⟩
 obtain⟨Gq,Gh⟩:∃z,(rfD nm rl).1=z:=⟨_,rfl⟩
 have G5:Hid (() 105 #[.agg #[st,.slice A n c],.string nm] W1 fun e w'=>∃(A':Option Addr)(n' c':Nat),e=.returned (.tuple #[.agg #[st,.slice A' n' c'],[cd]])/\Hid (n'<=c'/\c'<=9223372036854775807/\z0d w' w' 2 A' n' (z0b Gq)/\(∃E:List Nat,(∀g∈E,w.heap.size<=g/\g<w'.heap.size)/\∀ad,A'=some ad->ad.block∈E++bs/\(ad.block∈bs\/W1.heap.size<=ad.block))/\Blw W1 w'/\(A'=A\/∀ad,A'=some ad->W1.heap.size<=ad.block))):=hid ((y3b st A n c rl nm W1 ((hr.rd.below Gm).more Gm.size) (by have h1:=hrl.perm.length_eq;have h2:=h.ok.len;have h3:=hr.len;omega) hr.cap).mono (fun e w' h=>y1f hr.at_ Gm.size (by rw[<- G0,<- Gh]) h));have Gs:=hid (hrl.drop (st:=st) h.ok.nd nm);rw[G0,Gh]at Gs;have G7:=hid Ge;have GT:=Gg.cell 0;have GU:=Gg.cell 1;have GV:=Ge.cell 0;have GW:=Ge.cell 1;have e0:((kd:Int)%4==0)=false:=by rw[beq_eq_false_iff_ne];omega
 have e3:((kd:Int)%4==3)=true:=by rw[beq_iff_eq];omega
 clear h hrl hr Gm Gg Ge GD Gi hT hs hG;go_enter Tryz.func30,Tryz.ntmps30
 go_upto_region 1 with fail
 rw[GL.out];clear G0 Gh;go_upto_region 8 with (go_at_call 105;refine G5.out.mono ?_;rintro e w4⟨A4,n4,c4,rfl,hq⟩;have G8:=hid hq.out;clear hq)
 obtain⟨q1,q2,q3,⟨E,q4,q5⟩,q6,q7⟩:=G8.out;have GK:Hid (A4=A\/∀ad,A4=some ad->w.heap.size<=ad.block):=hid (q7.imp id (fun h ad hA=>Nat.le_trans Gr.out.size (h ad hA)));have Gy:Blw w w4:=Gr.out.trans (q6.mono Gr.out.size);have Gz:Blw w (w4.alloc (.cells #[st,.slice A4 n4 c4] 87)).drew:=(Gy.alloc Gy.size _).drew;have GS:(w4.alloc (.cells #[st,.slice A4 n4 c4] 87)).drew.heap.size=w4.heap.size+1:=by simp
 have GF:=Gt.out.lt;have GE:=q6.size;have GM:Hid (YRtX (([w.heap.size,w.heap.size+1,w.heap.size+2,w4.heap.size]++E)++bs) cX dX moX mX q gr T st l (w4.alloc (.cells #[st,.slice A4 n4 c4] 87)).drew):=hid (HX.out.news Gz _ (fun g hg=>by
  rcases List.mem_append.1 hg with hg|hg
  ·simp at hg
   omega
  ·have:=q4 g hg
   omega))
 have Gw:Hid (RlIn (([w.heap.size,w.heap.size+1,w.heap.size+2,w4.heap.size]++E)++bs) A4 n4 c4 Gq (w4.alloc (.cells #[st,.slice A4 n4 c4] 87)).drew):=hid ⟨⟨q1,q2⟩,(q3.alloc (nL _) _).more (by simp),fun ad hA=>by
  have:=(q5 ad hA).1;simp at this⊢;rcases this with h|h
  ·exact .inr (.inr (.inr (.inr (.inl h))))
  ·exact .inr (.inr (.inr (.inr (.inr h))))⟩
 have G1:=hid Gz;have Gj:Hid (Blk (w4.alloc (.cells #[st,.slice A4 n4 c4] 87)).drew (w.heap.size+1) 79 #[[[kd]],.string nm]):=hid ((G7.out.below q6 G7.out.lt).alloc _).drew;have Gu:Hid (Blk (w4.alloc (.cells #[st,.slice A4 n4 c4] 87)).drew (w.heap.size+2) 87 #[[()],((),())]):=hid ((Gt.out.below q6 Gt.out.lt).alloc _).drew;have Gf:Hid (Blk (w4.alloc (.cells #[st,.slice A4 n4 c4] 87)).drew w4 87 #[st,.slice A4 n4 c4]):=hid (Blk.new _ _ _).drew;have GJ:Hid (∀ad,A4=some ad->ad.block≠w.heap.size+2):=hid (fun ad hA e=>by
  rcases (q5 ad hA).2 with h|h
  ·have:=HX.out.lts _ h
   omega
  ·omega)
 have Gl:Hid (w.heap.size+2<w4.heap.size):=hid (Nat.lt_of_lt_of_le GF GE);clear q1 q2 q3 q4 q5 q6 q7 Gy Gz GS GF GE G8 G5 GT GU GV GW;refine z0e (fun w'=>(w'.cell? (w4,0)=some ↑st/\w'.cell? (w4,1)=some (.slice A4 n4 c4))/\w'.cell? (w.heap.size+1,1)=some (.string nm)) 10 [] [(1,0),(1,1),(1,2),(1,3),(1,4),(1,6),(0,5),(1,7),(0,8),(1,9)] (by kernel_rfl) (by kernel_rfl) ⟨⟨Gf.out.cell 0,Gf.out.cell 1⟩,Gj.out.cell 1⟩ ?_;generalize (w4.alloc (.cells #[st,.slice A4 n4 c4] 87)).drew=w5 at*;have G4:=hid (GM.out.drop_ nm HT.out);rw[Gs.out.1]at G4;generalize w4.heap.size=g12 at*;refine tkH (.agg #[st,.slice A4 n4 c4]) (fun w' hS=>?_) ?_
 ·obtain⟨⟨s0,s1⟩,s2⟩:=hS
  go_simp
 refine tkG (gr,0) ?_;refine tkG (31,dX,0) ?_;refine tkG (w.heap.size+1,1) ?_;refine tkH (.string nm) (fun w' hS=>?_) ?_
 ·obtain⟨⟨s0,s1⟩,s2⟩:=hS
  go_simp
 refine tkG [cd] ?_;refine z0c (by rfl) ?_;go_wp2_with (go_at_call 106;refine G4.out.mono ?_;rintro e w6⟨rfl,GH,GB,Gg⟩;have GN:=hid GH;have G2:=hid GB;have Gc:=hid Gg;clear GH GB Gg)
 have Gb:=hid (Gc.out.blk Gf.out (by simp));have Gk:=hid (Gc.out.blk Gj.out (by simp));have Ga:=Gc.out.blk Gu.out (by simp);have Gv:=hid Ga;refine⟨⟨⟨Gb.out.cell 0,Gb.out.cell 1⟩,Gk.out.cell 1⟩,?_⟩;refine tkG true ?_;have GP:=Ga.cell 0;have GQ:=Ga.cell 1;have GX:=Ga.frozen 0;have GY:=Ga.frozen 1;clear Ga;refine z0c (by rfl) ?_;go_wp2_with fail
 have GI:YRtX (([w.heap.size,w.heap.size+1,w.heap.size+2,g12]++E)++bs) cX dX moX mX q gr (T+800) st (dpL nm st l) ((w6.setCell (w.heap.size+2,0) st).setCell (w.heap.size+2,1) (.slice A4 n4 c4)):=(GN.out.setCell G9.out (by show G<=w.heap.size+2;have:=G6.out;omega) (by simp) _).setCell G9.out (by show G<=w.heap.size+2;have:=G6.out;omega) (by simp) _;have Ge:Blk ((w6.setCell (w.heap.size+2,0) st).setCell (w.heap.size+2,1) (.slice A4 n4 c4)) (w.heap.size+2) 87 #[st,.slice A4 n4 c4]:=(Gv.out.set_ 0 _).set_ 1 _;have GG:g12≠w.heap.size+2:=by have:=Gl.out;omega
 have Gd:Blk ((w6.setCell (w.heap.size+2,0) st).setCell (w.heap.size+2,1) (.slice A4 n4 c4)) g12 87 #[st,.slice A4 n4 c4]:=(Gb.out.far GG _).far GG _;have Gn:Blk ((w6.setCell (w.heap.size+2,0) st).setCell (w.heap.size+2,1) (.slice A4 n4 c4)) (w.heap.size+1) 79 #[[[kd]],.string nm]:=(Gk.out.far (by simp) _).far (by simp) _;have GC:Below w w6 ((w6.setCell (w.heap.size+2,0) st).setCell (w.heap.size+2,1) (.slice A4 n4 c4)):=((Below.refl _ _).setCell (by simp) _).setCell (by simp) _;have GO:=hid GI;have G3:=hid GC;have d0:=Ge.cell 0;have d1:=Ge.cell 1;refine⟨⟨⟨Gd.cell 0,Gd.cell 1⟩,Gn.cell 1⟩,?_⟩;have Gx:Hid (RlIn (([w.heap.size,w.heap.size+1,w.heap.size+2,g12]++E)++bs) A4 n4 c4 Gq ((w6.setCell (w.heap.size+2,0) st).setCell (w.heap.size+2,1) (.slice A4 n4 c4))):=hid (by
  have h6:=Gw.out.kept Gc.out G2.out.size;have hc:Chg (fun k=>k=w.heap.size+2) w6 ((w6.setCell (w.heap.size+2,0) st).setCell (w.heap.size+2,1) (.slice A4 n4 c4)):=((Chg.refl (fun k=>k=w.heap.size+2) w6).setCell (p:=⟨w.heap.size+2,0,none⟩) (.inl rfl) _).setCell (p:=⟨w.heap.size+2,1,none⟩) (.inl rfl) _;exact⟨h6.cap,(z2z h6.rd hc (nL _) GJ.out).more hc.size,h6.at_⟩)
 clear GI Ge Gd Gn GC GP GQ GX GY;generalize ((w6.setCell (w.heap.size+2,0) st).setCell (w.heap.size+2,1) (.slice A4 n4 c4))=w7 at*;refine tkG true ?_;show wpList _ _ _ _ _ _;simp only[List.drop_succ_cons,List.drop_zero];refine NoPanic.normal ?_;go_wp2_with fail
 have Gp:∀g∈bs,g∈(([w.heap.size,w.heap.size+1,w.heap.size+2,g12]++E)++bs):=fun g hg=>List.mem_append_right _ hg
 have GR:z1i bs w w7:=((z0u G1.out HX.out.lts).trans (Gc.out.less Gp)).trans (z0u G3.out HX.out.lts);have GA:cX.b0<=w.heap.size:=HX.out.size;refine bodyPost_ret (v := .tuple #[.agg #[st,.slice A4 n4 c4],true]) (by simp[results,Tryz.results30,go_sem,d0,d1]) rfl ⟨A4,n4,c4,st,_,Gq,_,rfl,hid ⟨Nat.le_succ _,GO.out,Gs.out.2,Gx.out,Gp,(G1.out.mono GA).trans (G2.out.trans (G3.out.mono GA)),GR,GK.out⟩⟩
end
end
section
open Go.RowKit Go.Maps
theorem w9r{B G bs a x y q gr T N st l rl w}(h:RgX B bs a x y q gr T N st l w)(hs:y7r B x y gr G)(hG:G<=w)(hrl:RLk l rl) A n c (hr:RlIn bs A n c rl w) kd nm (hkd:kd<256) (hnm:nm.size<=9223372036854775807) (hst:st<1000) (hT:T+800<=1000000000) (hN:N<=1000000000) :
  () 30 #[(gr,0),(58,y.d,0),.agg #[st,.slice A n c],.agg #[[[kd]],.string nm]] w (w3t B bs A a x y q gr T N st w):=by
 by_cases h0:kd%4=0
 ·exact w9s h hs hG hrl A n c hr kd nm hkd h0 hst hT hN
 ·by_cases h3:kd%4=3
  ·exact w9q h hs hG hrl A n c hr kd nm hkd h3 hnm hT hN
  ·exact w9t h hs hG hrl A n c hr kd nm hkd h0 h3 hnm hT hN
section
variable{B b:Nat}{bs:List Nat}{a:DA}{x:HA}{y:WA}{q gr T N st:Nat}{l:List (List Nat×Nat)}{w w':World}
end
end
section
open Go.RowKit Go.Maps
section
variable{G:Nat}{bs:List Nat}{cX:YCX}{dX moX:Nat}{mX:Nat->Nat}{q gr T st:Nat}{l rl:List (List Nat×Nat)}{w w':World}
theorem x9u(h:YRtX bs cX dX moX mX q gr T st l w)(hs:gr<G/\cX.b0<=G)(hG:G<=w.heap.size)(hrl:RLk l rl) A n c (hr:RlIn bs A n c rl w) kd nm (hkd:kd<256) (h0:kd%4≠0) (h3:kd%4≠3) (hs9:nm.size<=9223372036854775807) (hT:T+800<=18000) :
  () 30 #[(gr,()),.iface 31 (dX,()),.agg #[st,.slice A n c],.agg #[[[kd]],.string nm]] w (x3x bs A cX dX moX mX q gr T st w):=by
 obtain⟨W1,Gr⟩:∃W1,((w.alloc (.cells #[st,.slice A n c] 87)).alloc (.cells #[[[kd]],.string nm] 79)).alloc (.cells #[[()],((),())] 87)=W1:=⟨_,rfl⟩
 have G2:Blw w W1:=by rw[<- Gr];exact(((Below.refl _ _).alloc (nL _) _).alloc (by simp) _).alloc (by simp;omega) _
 have Gk:Blk W1 w 87 #[st,.slice A n c]:=by rw[<- Gr];exact((Blk.new _ _ _).alloc _).alloc _
 have Gf:Blk W1 (w.heap.size+1) 79 #[[[kd]],.string nm]:=by
  rw[<- Gr];refine Blk.alloc ?_ _;have h1:=Blk.new (w.alloc (.cells #[st,.slice A n c] 87)) 79 #[[[kd]],.string nm];rw[show(w.alloc (.cells #[st,.slice A n c] 87)).heap.size=w.heap.size+1 by simp]at h1;exact h1
 have GV:Blk W1 (w.heap.size+2) 87 #[[()],((),())]:=by
  rw[<- Gr];have h1:=Blk.new ((w.alloc (.cells #[st,.slice A n c] 87)).alloc (.cells #[[[kd]],.string nm] 79)) 87 #[[()],((),())];rw[show((w.alloc (.cells #[st,.slice A n c] 87)).alloc (.cells #[[[kd]],.string nm] 79)).heap.size=w.heap.size+2 by simp]at h1;exact h1
 have HX:=hid h;have Dh:=hid hr;have Dg:=hid hrl;have GC:=hid G2;have GZ:=hid Gr;have GP:=hid Gk;have GE:=hid GV;have HT:=hid hT;have GY:=hid hs9;have GB:=hid hs;have GA:=hid hG;obtain⟨cd,GK⟩:∃cd,(rfT nm st rl).2=cd:=⟨_,rfl⟩
 obtain⟨Gs,Gq⟩:∃z,(rfT nm st rl).1=z:=⟨_,rfl⟩
 have GO:Hid (() 107 #[.agg #[st,.slice A n c],.string nm] W1 fun e w'=>∃(A':Option Addr)(n' c':Nat),e=.returned (.tuple #[.agg #[st,.slice A' n' c'],[cd]])/\Hid (n'<=c'/\c'<=9223372036854775807/\z0d w' w' 2 A' n' (z0b Gs)/\(∃E:List Nat,(∀g∈E,w.heap.size<=g/\g<w'.heap.size)/\∀ad,A'=some ad->ad.block∈E++bs/\(ad.block∈bs\/W1.heap.size<=ad.block))/\Blw W1 w'/\(A'=A\/∀ad,A'=some ad->W1.heap.size<=ad.block))):=hid ((y3c st A n c rl nm W1 ((hr.rd.below G2).more G2.size) (by have h1:=hrl.perm.length_eq;have h2:=h.ok.len;have h3:=hr.len;omega) hr.cap (by have:=h.ok.top;omega) hs9).mono (fun e w' h=>y1f hr.at_ G2.size (by rw[<- GK,<- Gq]) h));have G9:=hid (hrl.take (st:=st) nm);rw[GK,Gq]at G9;have GQ:=hid Gf;have Dc:=Gk.cell 0;have Dd:=Gk.cell 1;have De:=Gf.cell 0;have Df:=Gf.cell 1;have e0:((kd:Int)%4==0)=false:=by rw[beq_eq_false_iff_ne];omega
 have e3:((kd:Int)%4==3)=false:=by rw[beq_eq_false_iff_ne];omega
 clear h hrl hr G2 Gk Gf GV Gr hT hs hG;go_enter Tryz.func30,Tryz.ntmps30
 go_upto_region 1 with fail
 rw[GZ.out];clear GK Gq;go_upto_region 10 with (go_at_call 107;refine GO.out.mono ?_;rintro e w4⟨A4,n4,c4,rfl,hq⟩;have GS:=hid hq.out;clear hq)
 obtain⟨q1,q2,q3,⟨E,q4,q5⟩,q6,q7⟩:=GS.out;have GT:Hid (A4=A\/∀ad,A4=some ad->w.heap.size<=ad.block):=hid (q7.imp id (fun h ad hA=>Nat.le_trans GC.out.size (h ad hA)));have GI:Blw w w4:=GC.out.trans (q6.mono GC.out.size);have GJ:Blw w (w4.alloc (.cells #[st,.slice A4 n4 c4] 87)):=GI.alloc GI.size _;have Db:(w4.alloc (.cells #[st,.slice A4 n4 c4] 87)).heap.size=w4.heap.size+1:=by simp
 have GX:=GE.out.lt;have GW:=q6.size;have Da:Hid (YRtX (([w.heap.size,w.heap.size+1,w.heap.size+2,w4.heap.size]++E)++bs) cX dX moX mX q gr T st l (w4.alloc (.cells #[st,.slice A4 n4 c4] 87))):=hid (HX.out.news GJ _ (fun g hg=>by
  rcases List.mem_append.1 hg with hg|hg
  ·simp at hg
   omega
  ·have:=q4 g hg
   omega))
 have Gy:Hid (RlIn (([w.heap.size,w.heap.size+1,w.heap.size+2,w4.heap.size]++E)++bs) A4 n4 c4 Gs (w4.alloc (.cells #[st,.slice A4 n4 c4] 87))):=hid ⟨⟨q1,q2⟩,(q3.alloc (nL _) _).more (by simp),fun ad hA=>by
  have:=(q5 ad hA).1;simp at this⊢;rcases this with h|h
  ·exact .inr (.inr (.inr (.inr (.inl h))))
  ·exact .inr (.inr (.inr (.inr (.inr h))))⟩
 have G8:=hid GJ;have GD:Hid (Blk (w4.alloc (.cells #[st,.slice A4 n4 c4] 87)) (w.heap.size+1) 79 #[[[kd]],.string nm]):=hid ((GQ.out.below q6 GQ.out.lt).alloc _);have Gx:Hid (Blk (w4.alloc (.cells #[st,.slice A4 n4 c4] 87)) (w.heap.size+2) 87 #[[()],((),())]):=hid ((GE.out.below q6 GE.out.lt).alloc _);have Gv:Hid (Blk (w4.alloc (.cells #[st,.slice A4 n4 c4] 87)) w4 87 #[st,.slice A4 n4 c4]):=hid (Blk.new _ _ _);have Gw:Hid (Blk (w4.alloc (.cells #[st,.slice A4 n4 c4] 87)) w 87 #[st,.slice A n c]):=hid ((GP.out.below q6 GP.out.lt).alloc _);have GR:Hid (∀ad,A4=some ad->ad.block≠w.heap.size+2):=hid (fun ad hA e=>by
  rcases (q5 ad hA).2 with h|h
  ·have:=HX.out.lts _ h
   omega
  ·omega)
 have Gl:Hid (w.heap.size+2<w4.heap.size):=hid (Nat.lt_of_lt_of_le GX GW);clear q1 q2 q3 q4 q5 q6 q7 GI GJ Db GX GW GS GO Dc Dd De Df;generalize w4.alloc (.cells #[st,.slice A4 n4 c4] 87)=w5 at*;have Gz:=hid (Da.out.take_ nm GY.out HT.out);rw[G9.out.1]at Gz;generalize w4.heap.size=g12 at*;have GU:=GD.out.cell 1;by_cases hc0:cd=0
 ·subst hc0
  have Gn:Hid (() 100 #[(gr,()),.iface 31 (dX,()),.string nm] w5 fun e w'=>e=.returned (.tuple #[st,()])/\YRtX (([w.heap.size,w.heap.size+1,w.heap.size+2,g12]++E)++bs) cX dX moX mX q gr (T+800) st (tkL nm st l) w'/\Below cX.b0 w5 w'/\z1i (([w.heap.size,w.heap.size+1,w.heap.size+2,g12]++E)++bs) w5 w'):=Gz;clear Gz;go_upto_region 11 with (go_at_call 100;refine Gn.out.mono ?_;rintro e w6⟨rfl,G6,G3,Gk⟩;have G0:=hid G6;have Gt:=hid G3;have Gc:=hid Gk;clear G6 G3 Gk)
  have Ga:Hid (Blk w6.drew g12 87 #[st,.slice A4 n4 c4]):=hid (Gc.out.blk Gv.out (by simp)).drew;have Gh:Hid (Blk w6.drew w 87 #[st,.slice A n c]):=hid (Gc.out.blk Gw.out (by simp)).drew;have Gb:Hid (Blk w6.drew (w.heap.size+2) 87 #[[()],((),())]):=hid (Gc.out.blk Gx.out (by simp)).drew;have Gp:=hid (G0.out.below (Below.refl _ _).drew);have Gg:Hid (Below cX.b0 w5 w6.drew):=hid Gt.out.drew;have Ge:Hid (z1i (([w.heap.size,w.heap.size+1,w.heap.size+2,g12]++E)++bs) w5 w6.drew):=hid Gc.out;clear GU G0 Gt Gc;refine z0e (fun w'=>(w'.cell? (g12,())=some ↑st/\w'.cell? ⟨g12,1,none⟩=some (.slice A4 n4 c4))/\w'.cell? (w,())=some ↑st) 24 [] [(1,0),(1,1),(1,2),(1,3),(1,4),(1,5),(1,6),(1,7),(1,8),(1,9),(1,10),(1,11),(1,12),(1,13),(1,14),(1,15),(1,16),(1,17),(1,18),(1,19),(1,20),(1,21),(0,22),(1,23)] (by kernel_rfl) (by kernel_rfl) ⟨⟨Ga.out.cell 0,Ga.out.cell 1⟩,Gh.out.cell 0⟩ ?_;generalize w6.drew=w6d at*;refine tkH (.agg #[st,.slice A4 n4 c4]) (fun w' hS=>?_) ?_
  ·obtain⟨⟨s0,s1⟩,s2⟩:=hS
   go_simp
  refine tkG () ?_;refine tkG () ?_;refine tkG true ?_;refine tkG true ?_;refine tkG () ?_;refine tkG false ?_;refine tkG false ?_;refine z0n (by rfl) (by rfl) ?_;simp only[zA,zB,zC,Act.put,zD,zE,zF];refine z0n (by rfl) (by rfl) ?_;simp only[zA,zB,zC,Act.put,zD,zE,zF];refine tkG false ?_;refine tkG false ?_;refine tkG () ?_;refine tkG true ?_;refine tkG true ?_;refine tkG st ?_;refine tkG (w,()) ?_;refine tkH st (fun w' hS=>?_) ?_
  ·obtain⟨⟨s0,s1⟩,s2⟩:=hS
   go_simp
  refine tkG true ?_;refine tkG true ?_;refine tkG true ?_;refine tkG true ?_;have GG:=Gb.out.cell 0;have GH:=Gb.out.cell 1;have GM:=Gb.out.frozen 0;have GN:=Gb.out.frozen 1;refine z0c (by rfl) ?_;go_wp2_with fail
  try rw[show w.heap.size+1+1=w.heap.size+2 from rfl]
  have G7:YRtX (([w.heap.size,w.heap.size+1,w.heap.size+2,g12]++E)++bs) cX dX moX mX q gr (T+800) st (tkL nm st l) ((w6d.setCell (w.heap.size+2,()) st).setCell ⟨w.heap.size+2,1,none⟩ (.slice A4 n4 c4)):=(Gp.out.setCell GB.out (by show G<=w.heap.size+2;have:=GA.out;omega) (by simp) _).setCell GB.out (by show G<=w.heap.size+2;have:=GA.out;omega) (by simp) _;have Gf:Blk ((w6d.setCell (w.heap.size+2,()) st).setCell ⟨w.heap.size+2,1,none⟩ (.slice A4 n4 c4)) (w.heap.size+2) 87 #[st,.slice A4 n4 c4]:=(Gb.out.set_ 0 _).set_ 1 _;have G5:g12≠w.heap.size+2:=by have:=Gl.out;omega
  have Gd:Blk ((w6d.setCell (w.heap.size+2,()) st).setCell ⟨w.heap.size+2,1,none⟩ (.slice A4 n4 c4)) g12 87 #[st,.slice A4 n4 c4]:=(Ga.out.far G5 _).far G5 _;have Gi:Blk ((w6d.setCell (w.heap.size+2,()) st).setCell ⟨w.heap.size+2,1,none⟩ (.slice A4 n4 c4)) w 87 #[st,.slice A n c]:=(Gh.out.far (by simp) _).far (by simp) _;have G4:Below w w6d ((w6d.setCell (w.heap.size+2,()) st).setCell ⟨w.heap.size+2,1,none⟩ (.slice A4 n4 c4)):=((Below.refl _ _).setCell (by simp) _).setCell (by simp) _;have GF:=hid G7;have Gu:=hid G4;have d0:=Gf.cell 0;have d1:=Gf.cell 1;refine⟨⟨⟨Gd.cell 0,Gd.cell 1⟩,Gi.cell 0⟩,?_⟩;have Gm:Hid (RlIn (([w.heap.size,w.heap.size+1,w.heap.size+2,g12]++E)++bs) A4 n4 c4 Gs ((w6d.setCell (w.heap.size+2,()) st).setCell ⟨w.heap.size+2,1,none⟩ (.slice A4 n4 c4))):=hid (by
   have h6:=Gy.out.kept Ge.out Gg.out.size;have hc:Chg (fun k=>k=w.heap.size+2) w6d ((w6d.setCell (w.heap.size+2,()) st).setCell ⟨w.heap.size+2,1,none⟩ (.slice A4 n4 c4)):=((Chg.refl (fun k=>k=w.heap.size+2) w6d).setCell (p:=⟨w.heap.size+2,0,none⟩) (.inl rfl) _).setCell (p:=⟨w.heap.size+2,1,none⟩) (.inl rfl) _;exact⟨h6.cap,(z2z h6.rd hc (nL _) GR.out).more hc.size,h6.at_⟩)
  clear G7 Gf Gd Gi G4 GG GH GM GN;generalize ((w6d.setCell (w.heap.size+2,()) st).setCell ⟨w.heap.size+2,1,none⟩ (.slice A4 n4 c4))=w7 at*;refine tkG true ?_;show wpList _ _ _ _ _ _;simp only[List.drop_succ_cons,List.drop_zero];refine NoPanic.normal ?_;go_wp2_with fail
  have Gj:∀g∈bs,g∈(([w.heap.size,w.heap.size+1,w.heap.size+2,g12]++E)++bs):=fun g hg=>List.mem_append_right _ hg
  have GL:z1i bs w w7:=((z0u G8.out HX.out.lts).trans (Ge.out.less Gj)).trans (z0u Gu.out HX.out.lts);have G1:cX.b0<=w.heap.size:=HX.out.size;exact bodyPost_ret (v := .tuple #[.agg #[st,.slice A4 n4 c4],true]) (by simp[results,Tryz.results30,go_sem,d0,d1]) rfl ⟨A4,n4,c4,st,_,Gs,_,rfl,hid ⟨Nat.le_succ _,GF.out,G9.out.2,Gm.out,Gj,(G8.out.mono G1).trans (Gg.out.trans (Gu.out.mono G1)),GL,GT.out⟩⟩
 ·have Gn:Hid (() 100 #[(gr,()),.iface 31 (dX,()),.string nm] w5 fun e w'=>e=.returned (.tuple #[[()],[cd]])/\YRtX (([w.heap.size,w.heap.size+1,w.heap.size+2,g12]++E)++bs) cX dX moX mX q gr (T+800) st (tkL nm st l) w'/\Below cX.b0 w5 w'/\z1i (([w.heap.size,w.heap.size+1,w.heap.size+2,g12]++E)++bs) w5 w'):=hid (by
   have h1:=Gz.out;rw[if_neg hc0]at h1;exact h1)
  have dc:((cd:Int) != 0)=true:=by rw[bne,beq_eq_false_iff_ne.2 oM];rfl
  clear Gz hc0;go_upto_region 11 with (go_at_call 100;refine Gn.out.mono ?_;rintro e w6⟨rfl,G6,G3,Gk⟩;have G0:=hid G6;have Gt:=hid G3;have Gc:=hid Gk;clear G6 G3 Gk)
  have Ga:Hid (Blk w6.drew g12 87 #[st,.slice A4 n4 c4]):=hid (Gc.out.blk Gv.out (by simp)).drew;have Gh:Hid (Blk w6.drew w 87 #[st,.slice A n c]):=hid (Gc.out.blk Gw.out (by simp)).drew;have Gb:Hid (Blk w6.drew (w.heap.size+2) 87 #[[()],((),())]):=hid (Gc.out.blk Gx.out (by simp)).drew;have Gp:=hid (G0.out.below (Below.refl _ _).drew);have Gg:Hid (Below cX.b0 w5 w6.drew):=hid Gt.out.drew;have Ge:Hid (z1i (([w.heap.size,w.heap.size+1,w.heap.size+2,g12]++E)++bs) w5 w6.drew):=hid Gc.out;clear GU G0 Gt Gc;refine z0e (fun w'=>(w'.cell? (g12,())=some ↑st/\w'.cell? ⟨g12,1,none⟩=some (.slice A4 n4 c4))/\w'.cell? (w,())=some ↑st) 24 [] [(1,0),(1,1),(1,2),(1,3),(1,4),(1,5),(1,6),(1,7),(1,8),(1,9),(1,10),(1,11),(1,12),(1,13),(1,14),(1,15),(1,16),(1,17),(1,18),(1,19),(1,20),(1,21),(0,22),(1,23)] (by kernel_rfl) (by kernel_rfl) ⟨⟨Ga.out.cell 0,Ga.out.cell 1⟩,Gh.out.cell 0⟩ ?_;generalize w6.drew=w6d at*;refine tkH (.agg #[st,.slice A4 n4 c4]) (fun w' hS=>?_) ?_
  ·obtain⟨⟨s0,s1⟩,s2⟩:=hS
   go_simp
  refine tkG [cd] ?_;refine tkG [cd] ?_;refine tkG true ?_;refine tkG true ?_;refine tkG [cd] ?_;refine tkG true ?_;refine tkG true ?_;refine tkG [()] ?_;refine tkG true ?_;refine tkG true ?_;refine tkG true ?_;refine z0n (by rfl) (by rfl) ?_;simp only[zA,zB,zC,Act.put,zD,zE,zF];refine z0n (by rfl) (by rfl) ?_;simp only[zA,zB,zC,Act.put,zD,zE,zF];refine z0n (by rfl) (by rfl) ?_;simp only[zA,zB,zC,Act.put,zD,zE,zF];refine z0n (by rfl) (by rfl) ?_;simp only[zA,zB,zC,Act.put,zD,zE,zF];refine z0n (by rfl) (by rfl) ?_;simp only[zA,zB,zC,Act.put,zD,zE,zF];refine z0n (by rfl) (by rfl) ?_;simp only[zA,zB,zC,Act.put,zD,zE,zF];refine z0n (by rfl) (by rfl) ?_;simp only[zA,zB,zC,Act.put,zD,zE,zF];refine z0n (by rfl) (by rfl) ?_;simp only[zA,zB,zC,Act.put,zD,zE,zF];refine tkG true ?_;refine tkG true ?_;have GG:=Gb.out.cell 0;have GH:=Gb.out.cell 1;have GM:=Gb.out.frozen 0;have GN:=Gb.out.frozen 1;refine z0c (by rfl) ?_;go_wp2_with fail
  try rw[show w.heap.size+1+1=w.heap.size+2 from rfl]
  have G7:YRtX (([w.heap.size,w.heap.size+1,w.heap.size+2,g12]++E)++bs) cX dX moX mX q gr (T+800) st (tkL nm st l) ((w6d.setCell (w.heap.size+2,()) st).setCell ⟨w.heap.size+2,1,none⟩ (.slice A4 n4 c4)):=(Gp.out.setCell GB.out (by show G<=w.heap.size+2;have:=GA.out;omega) (by simp) _).setCell GB.out (by show G<=w.heap.size+2;have:=GA.out;omega) (by simp) _;have Gf:Blk ((w6d.setCell (w.heap.size+2,()) st).setCell ⟨w.heap.size+2,1,none⟩ (.slice A4 n4 c4)) (w.heap.size+2) 87 #[st,.slice A4 n4 c4]:=(Gb.out.set_ 0 _).set_ 1 _;have G5:g12≠w.heap.size+2:=by have:=Gl.out;omega
  have Gd:Blk ((w6d.setCell (w.heap.size+2,()) st).setCell ⟨w.heap.size+2,1,none⟩ (.slice A4 n4 c4)) g12 87 #[st,.slice A4 n4 c4]:=(Ga.out.far G5 _).far G5 _;have Gi:Blk ((w6d.setCell (w.heap.size+2,()) st).setCell ⟨w.heap.size+2,1,none⟩ (.slice A4 n4 c4)) w 87 #[st,.slice A n c]:=(Gh.out.far (by simp) _).far (by simp) _;have G4:Below w w6d ((w6d.setCell (w.heap.size+2,()) st).setCell ⟨w.heap.size+2,1,none⟩ (.slice A4 n4 c4)):=((Below.refl _ _).setCell (by simp) _).setCell (by simp) _;have GF:=hid G7;have Gu:=hid G4;have d0:=Gf.cell 0;have d1:=Gf.cell 1;refine⟨⟨⟨Gd.cell 0,Gd.cell 1⟩,Gi.cell 0⟩,?_⟩;have Gm:Hid (RlIn (([w.heap.size,w.heap.size+1,w.heap.size+2,g12]++E)++bs) A4 n4 c4 Gs ((w6d.setCell (w.heap.size+2,()) st).setCell ⟨w.heap.size+2,1,none⟩ (.slice A4 n4 c4))):=hid (by
   have h6:=Gy.out.kept Ge.out Gg.out.size;have hc:Chg (fun k=>k=w.heap.size+2) w6d ((w6d.setCell (w.heap.size+2,()) st).setCell ⟨w.heap.size+2,1,none⟩ (.slice A4 n4 c4)):=((Chg.refl (fun k=>k=w.heap.size+2) w6d).setCell (p:=⟨w.heap.size+2,0,none⟩) (.inl rfl) _).setCell (p:=⟨w.heap.size+2,1,none⟩) (.inl rfl) _;exact⟨h6.cap,(z2z h6.rd hc (nL _) GR.out).more hc.size,h6.at_⟩)
  clear G7 Gf Gd Gi G4 GG GH GM GN;generalize ((w6d.setCell (w.heap.size+2,()) st).setCell ⟨w.heap.size+2,1,none⟩ (.slice A4 n4 c4))=w7 at*;refine tkG true ?_;show wpList _ _ _ _ _ _;simp only[List.drop_succ_cons,List.drop_zero];refine NoPanic.normal ?_;go_wp2_with fail
  have Gj:∀g∈bs,g∈(([w.heap.size,w.heap.size+1,w.heap.size+2,g12]++E)++bs):=fun g hg=>List.mem_append_right _ hg
  have GL:z1i bs w w7:=((z0u G8.out HX.out.lts).trans (Ge.out.less Gj)).trans (z0u Gu.out HX.out.lts);have G1:cX.b0<=w.heap.size:=HX.out.size;exact bodyPost_ret (v := .tuple #[.agg #[st,.slice A4 n4 c4],true]) (by simp[results,Tryz.results30,go_sem,d0,d1]) rfl ⟨A4,n4,c4,st,_,Gs,_,rfl,hid ⟨Nat.le_succ _,GF.out,G9.out.2,Gm.out,Gj,(G8.out.mono G1).trans (Gg.out.trans (Gu.out.mono G1)),GL,GT.out⟩⟩
end
theorem x9s{G bs cX dX moX mX q gr T st l rl w}(h:YRtX bs cX dX moX mX q gr T st l w)(hs:gr<G/\cX.b0<=G)(hG:G<=w)(hrl:RLk l rl) A n c (hr:RlIn bs A n c rl w) kd nm (hkd:kd<256) (hnm:nm.size<=9223372036854775807) (hst:st<1000) (hT:T+800<=18000) :
  () 30 #[(gr,0),(31,dX,0),.agg #[st,.slice A n c],.agg #[[[kd]],.string nm]] w (x3x bs A cX dX moX mX q gr T st w):=by
 by_cases h0:kd%4=0
 ·exact x9t h hs hG hrl A n c hr kd nm hkd h0 hst hT
 ·by_cases h3:kd%4=3
  ·exact x9r h hs hG hrl A n c hr kd nm hkd h3 hnm hT
  ·exact x9u h hs hG hrl A n c hr kd nm hkd h0 h3 hnm hT
end
end Go.Proofs.YtmhbokcccjmfgaaGreatDoor
