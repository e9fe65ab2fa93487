/- part 31 -/
import Derived.Test.YtmhbokcccjmfgaaGreatDoorQbd
set_option maxRecDepth 100000
set_option maxHeartbeats 16000000
namespace Go.Proofs.YtmhbokcccjmfgaaGreatDoor
open Go.Lib (hid)
section
open Go.RowKit Go.Maps
def YSiT(G:Nat)(y:WA)(cX:YCX)(d mode:Nat)(mX:Nat->Nat)(q gr T st:Nat)(l rl:List (List Nat×Nat))(A:Option Addr)(n c:Nat)(w0:World)(st0:Nat)(l0:List (List Nat×Nat))(bs:List Nat)(w:World):Prop :=
 YRtX bs cX d mode mX q gr T st l w/\y.d∈bs/\y.g∈bs/\G∈bs/\YTxG cX y.d gr q st0 l0 mX w/\w.cell? (y.g,3)=some (y.d,0)/\RLk l0 rl/\RlIn bs A n c rl w/\Blk w G 87 #[st0,.slice A n c]/\(∀ad,A=some ad->G<ad.block)/\gr<G/\cX.b0<=G/\st0<=20/\Below cX.b0 w0 w
section
variable{G:Nat}{y:WA}{cX:YCX}{d mode:Nat}{mX:Nat->Nat}{q gr T st:Nat}{l rl:List (List Nat×Nat)}{A:Option Addr}{n c:Nat}{w0:World}{st0:Nat}{l0:List (List Nat×Nat)}{bs:List Nat}{w w':World}
theorem YTxG.kept{yd}(h:YTxG cX yd gr q st0 l0 mX w)(hk:z1i bs w w')(hy:yd∈bs):YTxG cX yd gr q st0 l0 mX w':={ h with dir:=hk.blk h.dir hy }
theorem YSiT.to{T' st' l' bs'}(h:YSiT G y cX d mode mX q gr T st l rl A n c w0 st0 l0 bs w)(hr:YRtX bs' cX d mode mX q gr T' st' l' w')(hs:∀g∈bs,g∈bs')(hk:z1i bs w w')(hb:Below cX.b0 w w'):YSiT G y cX d mode mX q gr T' st' l' rl A n c w0 st0 l0 bs' w':=by
 obtain⟨h1,h2,h3,h4,h5,h6,h7,h8,h9,Ga,Gb,Gc,Gd,Ge⟩:=h;refine⟨hr,hs _ h2,hs _ h3,hs _ h4,h5.kept hk h2,?_,h7,(h8.kept hk hb.size).more hs,hk.blk h9 h4,Ga,Gb,Gc,Gd,Ge.trans hb⟩;rw[<- h6];exact World.cell?_of_block (hk y.g h3)
theorem YSiT.news(h:YSiT G y cX d mode mX q gr T st l rl A n c w0 st0 l0 bs w)(hb:Blw w w') gs (hg:∀g∈gs,w.heap.size<=g/\g<w'.heap.size):YSiT G y cX d mode mX q gr T st l rl A n c w0 st0 l0 (gs++bs) w' :=
 h.to (h.1.news hb gs hg) (fun g hg=>List.mem_append_right _ hg) (z1i.of_below hb h.1.lts) (hb.mono h.1.size)
theorem YSiT.below(h:YSiT G y cX d mode mX q gr T st l rl A n c w0 st0 l0 bs w)(hb:Blw w w'):YSiT G y cX d mode mX q gr T st l rl A n c w0 st0 l0 bs w' :=
 h.to (h.1.below hb) (fun _ h=>h) (z1i.of_below hb h.1.lts) (hb.mono h.1.size)
theorem YSiT.setCell(h:YSiT G y cX d mode mX q gr T st l rl A n c w0 st0 l0 bs w){p}(hp:p.block∈bs)(hG:G<p.block)(hA:∀ad,A=some ad->ad.block≠p.block)(hd:y.d≠p.block)(hy:y.g≠p.block) v:YSiT G y cX d mode mX q gr T st l rl A n c w0 st0 l0 bs (w.setCell p v):=by
 obtain⟨h1,h2,h3,h4,h5,h6,h7,h8,h9,Gc,Ga,Gb,Gd,Ge⟩:=h;have hc:Chg (fun j=>j=p.block) w (w.setCell p v):=(Chg.refl (fun k=>k=p.block) w).setCell (.inl rfl) v;refine⟨h1.setCell ⟨Ga,Gb⟩ (Nat.le_of_lt hG) hp v,h2,h3,h4,{ h5 with dir:=hc.blk h5.dir hd },?_,h7,⟨h8.cap,(z2z h8.rd hc (nL _) hA).more hc.size,h8.at_⟩,hc.blk h9 oM,Gc,Ga,Gb,Gd,Ge.trans ((Below.refl _ _).setCell oM v)⟩;rw[<- h6];exact World.cell?_of_block (hc.block y.g (h1.lts _ h3) hy)
def v2s(G:Nat)(y:WA)(cX:YCX)(d mode:Nat)(mX:Nat->Nat)(q gr T st:Nat)(rl:List (List Nat×Nat))(A:Option Addr)(n c:Nat)(w0:World)(st0:Nat)(l0:List (List Nat×Nat))(bs:List Nat)(Ac:Option Addr)(w:World)(e:Ending)(w':World):Prop :=
 ∃(A':Option Addr)(n' c' st':Nat)(l' rl':List (List Nat×Nat))(bs':List Nat),e=.returned (.tuple #[.agg #[st',.slice A' n' c'],true])/\Hid (st'<=st+1/\YSiT G y cX d mode mX q gr (T+800) st' l' rl A n c w0 st0 l0 bs' w'/\RLk l' rl'/\RlIn bs' A' n' c' rl' w'/\(∀g∈bs,g∈bs')/\z1i bs w w'/\(A'=Ac\/∀ad,A'=some ad->w<=ad.block)/\Below cX.b0 w w')
theorem YSiT.do_(h:YSiT G y cX d mode mX q gr T st l rl A n c w0 st0 l0 bs w){rlc}(hrl:RLk l rlc) Ac nc cc (hr:RlIn bs Ac nc cc rlc w) kd nm (hkd:kd<256) (hnm:nm.size<=9223372036854775807) (hst:st<1000) (hT:T+800<=18000) :
  () 30 #[(gr,0),(31,d,0),.agg #[st,.slice Ac nc cc],.agg #[[[kd]],.string nm]] w (v2s G y cX d mode mX q gr T st rl A n c w0 st0 l0 bs Ac w):=by
 have hG:G<=w:=Nat.le_of_lt (h.1.lts _ h.2.2.2.1);refine(x9s h.1 ⟨h.2.2.2.2.2.2.2.2.2.2.1,h.2.2.2.2.2.2.2.2.2.2.2.1⟩ hG hrl Ac nc cc hr kd nm hkd hnm hst hT).mono ?_;rintro e w'⟨A',n',c',Gc,l',Gb,Ga,he,hh⟩;obtain⟨t1,t2,t3,t4,t5,t6,t7,t8⟩:=hh.out;exact⟨A',n',c',Gc,l',Gb,Ga,he,hid ⟨t1,h.to t2 t5 t7 t6,t3,t4,t5,t7,t8,t6⟩⟩
def YSiN(G g:Nat)(y:WA)(cX:YCX)(d mode:Nat)(mX:Nat->Nat)(q gr:Nat)(rl:List (List Nat×Nat))(A:Option Addr)(n c:Nat)(w0:World)(st0:Nat)(l0:List (List Nat×Nat))(k:Nat)(w:World):Prop :=
 ∃st l rlc Ac nc cc bs,YSiT G y cX d mode mX q gr (800+800*k) st l rl A n c w0 st0 l0 bs w/\RLk l rlc/\RlIn bs Ac nc cc rlc w/\Blk w g 87 #[st,.slice Ac nc cc]/\g∈bs/\(∀ad,Ac=some ad->ad.block≠g)/\st<=20+k
end
end
section
open Go.RowKit Go.Maps
def YSiI(B G:Nat)(w0:World)(a:DA)(x:HA)(y:WA)(q gr k:Nat)(w:World):Prop:=∃st l rl A n c bs,RgX B bs a x y q gr (3000+800*k) 10 st l w/\RLk l rl/\RlIn bs A n c rl w/\Blk w G 87 #[st,.slice A n c]/\G∈bs/\(∀ad,A=some ad->G<ad.block)/\st<=k/\Below B w0 w
theorem z9d A n c (l:List (Nat×ByteArray)) A2 n2 c2 (l2:List (Nat×ByteArray)) how w (hin:x8w w A n c l) (hin2:x8w w A2 n2 c2 l2) (hhow:how<256) (ht:Tab w) (hpy:Pay w) :
  () 7 #[.slice A n c,.slice A2 n2 c2,[[how]]] w fun e w'=>e=.returned true/\Blw w w':=by
 have Dx:=hid (x1x ht hpy);have D4:=hid hin;have GD:=hid hin2;have GC:=hid hhow;have Fc:=hin2.cap.1;obtain⟨M2,DX⟩:∃M2,min n2 8=M2:=⟨_,rfl⟩
 have GE:=hid (show M2<=8/\M2<=n2/\(n2<=8->M2=n2)/\(8<=n2->M2=8)/\n2<=c2 by omega);have D1:Hid (∀W,Blw w W->() 29 #[] W fun e w'=>∃a x y q gr,e=.returned (.tuple #[(y.g,0),(gr,0)])/\RgW W a x y q gr 3000 10 0 [] w'/\Blw W w'):=hid (fun W hW=>y8l (ht.below hW) (hpy.below hW));obtain⟨M,hM⟩:∃M,min n 20=M:=⟨_,rfl⟩
 have HM:=hid (show M<=20/\M<=n/\(n<=20->M=n)/\(20<=n->M=20) by omega);have hc:=hin.cap.1;clear hin hin2 ht hpy hM DX Fc hhow;go_enter Tryz.func7,Tryz.ntmps7
 go_wp2_with (go_at_call 28;refine Dx.out.mono ?_;rintro e w1⟨rfl,DE⟩;have Gu:=hid DE;clear DE;refine stop ?_)
 unfold Stop;have G8:=hid (D1.out w1 Gu.out);go_wp2_with (go_at_call 29;refine G8.out.mono ?_;rintro e w2⟨a,x,y,q,gr,rfl,hw,hb⟩;have HX:=hid hw.rgX;have G7:=hid hb;clear hw hb;refine stop ?_)
 unfold Stop;obtain⟨W3,GU⟩:∃W3,w2.alloc (.cells #[[()],((),())] 87)=W3:=⟨_,rfl⟩
 have Dr:Blw w2 W3:=by rw[<- GU];exact(Below.refl _ _).alloc (nL _) _
 have GZ:Blk W3 w2 87 #[[()],((),())]:=by rw[<- GU];exact Blk.new _ _ _
 have DT:=hid GU;have G0:=hid HX.out.stat;have Fw:=hid GZ.lt;have D3:Hid (YSiI w1 w2 w1 a x y q gr 0 W3):=hid (by
  have h1:=HX.out.news Dr [w2.heap.size] (fun g hg=>by rw[List.mem_singleton.1 hg];exact⟨nL _,GZ.lt⟩);exact⟨0,[],[],none,0,0,[w2.heap.size],h1,RLk.nil,RlIn.nil _ _,GZ,by simp,(fun ad h=>by cases h),nL _,G7.out.trans (Dr.mono HX.out.rgW.size)⟩)
 clear Dx D1 G8 GU Dr GZ HX G7;go_upto_region 7 with fail
 rw[DT.out];have Fa:min (n:Int) 20=(M:Int):=by
  obtain⟨m1,m2,m3,m4⟩:=HM.out;omega
 have Fb:max (M:Int) 0=(M:Int):=oM;have F3:(0:Int)<=(M:Int):=oM;have F4:(M:Int)<=(c:Int):=by have h2:=HM.out;omega
 clear hc;go_wp2_with fail
 go_loopw [10,34] (fun v10 vi wr=>∃k:Nat,k<=M/\vi=↑[k]/\Hid (YSiI w1 w2 w1 a x y q gr k wr)) (fun _ vi _=>M-(Go.RowKit.intOf vi).toNat)
 case atStart=>exact⟨0,Nat.zero_le _,rfl,D3⟩
 case round =>
  clear D3 Fa Fb;obtain⟨wo,Fg⟩:∃z,z=wr:=⟨_,rfl⟩
  subst Fg;obtain⟨k,hk,rfl,HI⟩:=hrel;by_cases hlt:k<M
  ·obtain⟨st,lr,rl,A5,n5,c5,bs,hx,GP,Gx,G2,GL,G6,Dc,hb⟩:=HI.out
   have hm:=HM.out;have GH:=hid hx;have D7:=hid GP;have DQ:=hid Gx;have DK:=hid G2;have G4:=hid GL;have D6:=hid G6;have Dy:=hid hb;have HT:=hid (show 3000+800*k<=60000/\st<100/\st<=k by omega);have Gw:Blw w wo:=Gu.out.trans (hb.mono Gu.out.size);obtain⟨Fe,gb,go,Dj,G3,f0,f1⟩:=x4d (D4.out.rd.below Gw) (k:=k) oM;subst Dj;have Gy:=hid (D4.out.each _ (List.getElem_mem Fe));generalize l[k]=p at*;obtain⟨kd,nm⟩:=p;simp only[]at f0 f1 Gy;have Fi:(0:Int)<=(k:Int):=oM;have Fj:(k:Int)<(M:Int):=oM;obtain⟨W6,Gq⟩:∃W6,wo.alloc (.cells #[[[kd]],.string nm] 79)=W6:=⟨_,rfl⟩
   have Gc:Blw wo W6:=by rw[<- Gq];exact(Below.refl _ _).alloc (nL _) _
   have Gt:Blk W6 wo 79 #[[[kd]],.string nm]:=by rw[<- Gq];exact Blk.new _ _ _
   have Dg:=hid Gq;have Gi:=hid Gc;have Gv:=hid Gt;have DH:wo.heap.size<W6.heap.size:=Gt.lt;have Dh:Hid (RgX w1 (wo.heap.size::bs) a x y q gr (3000+800*k) 10 st lr W6.drew):=hid ((hx.news Gc [wo.heap.size] (fun g hg=>by rw[List.mem_singleton.1 hg];exact⟨nL _,DH⟩)).below (Below.refl _ _).drew);have GF:Hid (RlIn (wo.heap.size::bs) A5 n5 c5 rl W6.drew):=hid (((Gx.below Gc).more (fun g hg=>List.mem_cons_of_mem _ hg)).below (Below.refl _ _).drew);have Gh:Hid (Blk W6.drew w2 87 #[st,.slice A5 n5 c5]):=hid (G2.below Gc G2.lt).drew;have D2:Hid (w2.heap.size<=W6.drew.heap.size):=hid (Nat.le_of_lt Gh.out.lt);have GA:=hid (w9r Dh.out G0.out D2.out D7.out A5 n5 c5 GF.out kd nm Gy.out.1 Gy.out.2 (by have:=HT.out;omega) (by have:=HT.out;omega) (by decide));clear hx GP Gx G2 GL G6 Dc hb hm Gw G3 Gq Gc Gt DH;go_upto_region 10 with fail
   rw[Dg.out];refine z0e (fun w'=>w'.cell? (y.g,3)=some (y.d,0)/\(w'.cell? (w2,0)=some ↑st/\w'.cell? (w2,1)=some (.slice A5 n5 c5))/\w'.cell? (wo,0)=some ↑[[kd]]/\w'.cell? (wo,1)=some (.string nm)) 12 [10,11] [(1,0),(1,1),(1,2),(1,3),(1,4),(1,5),(1,6),(1,7),(0,8),(1,9),(2,10),(2,11)] (by kernel_rfl) (by kernel_rfl) ⟨Dh.out.rgW.g3,⟨Gh.out.cell 0,Gh.out.cell 1⟩,Gv.out.drew.cell 0,Gv.out.drew.cell 1⟩ ?_;refine tkG (gr,0) ?_;refine tkG (y.g,0) ?_;refine tkG (y.g,0) ?_;refine tkG (y.g,3) ?_;refine tkH (y.d,0) (fun w' hS=>?_) ?_
   ·obtain⟨s0,⟨s1,s2⟩,s3,s4⟩:=hS
    go_simp
   refine tkG (58,y.d,0) ?_;refine tkH (.agg #[st,.slice A5 n5 c5]) (fun w' hS=>?_) ?_
   ·obtain⟨s0,⟨s1,s2⟩,s3,s4⟩:=hS
    go_simp
   refine tkH (.agg #[[[kd]],.string nm]) (fun w' hS=>?_) ?_
   ·obtain⟨s0,⟨s1,s2⟩,s3,s4⟩:=hS
    go_simp
   refine z0c (by rfl) ?_;go_wp2_with (go_at_call 30;refine GA.out.mono ?_;rintro e w7⟨A7,n7,c7,Gf,l7,Dd,G1,rfl,hh⟩;have HH:=hid hh.out;clear hh)
   obtain⟨t1,t2,t3,t4,t5,t6,t7,t8⟩:=HH.out;have Di:=hid t2;have GG:=hid t3;have Gp:=hid t4;have Gk:Hid (Blk w7 w2 87 #[st,.slice A5 n5 c5]):=hid (t7.blk Gh.out (List.mem_cons_of_mem _ G4.out));have Df:Hid (Blk w7 wo 79 #[[[kd]],.string nm]):=hid (t7.blk Gv.out.drew (by simp));have Gn:Hid (w2.heap.size∈G1):=hid (t5 _ (List.mem_cons_of_mem _ G4.out));have Gz:Hid (∀ad,A7=some ad->w2.heap.size<ad.block):=hid (fun ad hA=>by
    rcases t8 with e|e
    ·exact D6.out ad (e▸hA)
    ·have h1:=e ad hA
     have h2:=Gh.out.lt;omega)
   have Dz:Hid (Blw w1 w7):=hid (Dy.out.trans ((Gi.out.drew.mono GH.out.rgW.size).trans t6));have D9:Hid (Gf<=k+1):=hid (by have:=HT.out;omega);have GN:=Gk.out;have Fy:=GN.cell 0;have Fz:=GN.cell 1;have F6:=GN.frozen 0;have F7:=GN.frozen 1;refine⟨⟨Di.out.rgW.g3,⟨Gk.out.cell 0,Gk.out.cell 1⟩,Df.out.cell 0,Df.out.cell 1⟩,?_⟩;clear t1 t2 t3 t4 t5 t6 t7 t8 HH GN f0 f1;refine tkG (.tuple #[.agg #[Gf,.slice A7 n7 c7],true]) ?_;refine z1t (.agg #[Gf,.slice A7 n7 c7]) (by rfl) (by rfl) (fun w' hS=>?_) ?_
   ·go_simp
   simp only[zA,zB,zC,Act.put,zD,zE,zF];refine z1t true (by rfl) (by rfl) (fun w' hS=>?_) ?_
   ·go_simp
   simp only[zA,zB,zC,Act.put,zD,zE,zF];show wpList _ _ _ _ _ _;simp only[List.drop_succ_cons,List.drop_zero];have GB:Hid (YSiI w1 w2 w1 a x y q gr (k+1) ((w7.setCell (w2,0) Gf).setCell (w2,1) (.slice A7 n7 c7))):=hid (by
    have hx:=(Di.out.setCell G0.out (p:=⟨w2.heap.size,0,none⟩) (nL _) Gn.out Gf).setCell G0.out (p:=⟨w2.heap.size,1,none⟩) (nL _) Gn.out (.slice A7 n7 c7);have hc:Chg (fun k=>k=w2.heap.size) w7 ((w7.setCell (w2,0) Gf).setCell (w2,1) (.slice A7 n7 c7)):=((Chg.refl (fun k=>k=w2.heap.size) w7).setCell (p:=⟨w2.heap.size,0,none⟩) (.inl rfl) _).setCell (p:=⟨w2.heap.size,1,none⟩) (.inl rfl) _;have hr:=(z2z Gp.out.rd hc (nL _) (fun ad hA e=>by have h1:=Gz.out ad hA;have h2:ad.block=w2.heap.size:=e;omega)).more hc.size;have hB:w1.heap.size<=w2.heap.size:=G0.out.lo.b;have hb:=((Below.refl w1 w7).setCell (p:=⟨w2.heap.size,0,none⟩) hB Gf).setCell (p:=⟨w2.heap.size,1,none⟩) hB (.slice A7 n7 c7);exact⟨Gf,l7,Dd,A7,n7,c7,G1,hx.more oM (by have:=HT.out;omega),GG.out,⟨Gp.out.cap,hr,Gp.out.at_⟩,(Gk.out.set_ 0 _).set_ 1 _,Gn.out,Gz.out,D9.out,Dz.out.trans hb⟩)
   have DY:(M:Int)<=20:=by have:=HM.out;omega
   clear GH D7 DQ DK G4 D6 Dy Gi Gv Dh GF Gh D2 GA Di Gp Gk Df Gn Gz Dz D9 GG;go_wp2_with fail
   refine NoPanic.normal ?_;generalize ((w7.setCell (w2,0) Gf).setCell (w2,1) (.slice A7 n7 c7))=W8 at*;go_wp2_with fail
   go_roundw
   case rel =>
    first
     |exact⟨k+1,oM,by go_num,GB⟩
     |(
       repeat apply Exists.intro
       refine⟨?_,rfl⟩;exact⟨k+1,oM,by go_num,GB⟩)
   case measure=>simp[Go.RowKit.intOf];omega
  ·obtain rfl:k=M:=oM
   obtain⟨st,lr,rl,A5,n5,c5,bs,hx,GP,Gx,G2,GL,G6,Dc,hb⟩:=HI.out;have GH:=hid (hx.sub (bs':=bs.filter fun g=>decide (w2.heap.size<=g)) (fun g hg=>(List.mem_filter.1 hg).1));have Dl:=hx.rgW.size;have g4:wo.cell? (y.g,4)=some (y.m,0):=by
    obtain⟨cs,f,m,S,F0,e1,_⟩:=hx;exact e1.bw.blk.cell 4
   have D0:Hid (∀Ga:Nat,Ga=1\/Ga=2->() 17 #[(y.m,0),[[Ga]]] wo fun e w'=>∃d cX mX bs',e=.returned (.tuple #[(d,0),()])/\YSiT w2 y cX d Ga mX q gr 800 st lr rl A5 n5 c5 w1 st lr bs' w'/\Below w1 wo w'/\cX.b0=w1.heap.size):=hid (fun (Ga:Nat) GO=>by
    refine(GH.out.begin G0.out (fun g hg=>by have:=(List.mem_filter.1 hg).2;simpa using this) Ga GO (by have:=HM.out;omega)).mono ?_;rintro e w'⟨d,cX,mX,he,Dq,hr,hg,F5,Ds,DG⟩;have Ge:∀g∈bs.filter (fun g=>decide (w2.heap.size<=g)),g∈y.d::y.g::bs.filter (fun g=>decide (w2.heap.size<=g)):=fun g hg=>List.mem_cons_of_mem _ (List.mem_cons_of_mem _ hg)
    have DC:w2.heap.size∈bs.filter (fun g=>decide (w2.heap.size<=g)):=List.mem_filter.2 ⟨GL,by simp⟩;have Dw:RlIn (bs.filter (fun g=>decide (w2.heap.size<=g))) A5 n5 c5 rl wo:=⟨Gx.cap,Gx.rd,fun ad hA=>List.mem_filter.2 ⟨Gx.at_ ad hA,by have:=G6 ad hA;simp;omega⟩⟩
    have GM:=DG.less Ge;refine⟨d,cX,mX,_,he,⟨hr,by simp,by simp,Ge _ DC,hg,?_,GP,(Dw.kept GM ?_).more Ge,GM.blk G2 DC,G6,G0.out.r,by rw[Dq];exact G0.out.lo.b,by have:=HM.out;omega,by rw[Dq];exact hb.trans Ds⟩,Ds,Dq⟩
    ·have h3:wo.cell? (y.g,3)=some (y.d,0):=hx.rgW.g3
     rw[<- h3];exact World.cell?_of_block (DG y.g (by simp))
    ·exact Ds.size)
   have DR:=hid (And.intro Dc (And.intro Dl HM.out.1));clear hx GP Gx G2 GL G6 Dc hb GH HI;go_upto_if 55 with fail
   go_cut [13]from 13 to 13 (fun v13 wx=>∃Ga:Nat,(Ga=1\/Ga=2)/\v13=↑[[Ga]]/\wx=wo)
   case first =>
    have hh:=GC.out;by_cases hp:how%2=1
    ·have e1:((how:Int)%2==1)=true:=by rw[beq_iff_eq];omega
     go_wp2_with fail
     go_meet;exact⟨2,.inr rfl,rfl,rfl⟩
    ·have e1:((how:Int)%2==1)=false:=by rw[beq_eq_false_iff_ne];omega
     go_wp2_with fail
     go_meet;exact⟨1,.inl rfl,rfl,rfl⟩
   case rest =>
   obtain⟨Ga,GO,rfl,Fh⟩:=hcut;subst Fh;have G7:=hid (D0.out Ga GO);clear D0;go_upto_region 18 with (go_at_call 17;refine G7.out.mono ?_;rintro e w4⟨d,cX,mX,bs,rfl,h4,_,h5⟩;have HS:=hid h4;have De:=hid h5;have Fx:=hid GO;clear h4 h5)
   clear G7 g4 GO;have hS:=HS.out;have Gl:=hS.1.lts;have c0:=hS.2.2.2.2.2.2.2.2.1.cell 0;have c1:=hS.2.2.2.2.2.2.2.2.1.cell 1;have DB:=hid (show y.d<w4.heap.size/\y.g<w4.heap.size/\w2.heap.size<w4.heap.size/\∀ad,A5=some ad->ad.block<w4.heap.size from⟨Gl _ hS.2.1,Gl _ hS.2.2.1,Gl _ hS.2.2.2.1,fun ad hA=>Gl _ (hS.2.2.2.2.2.2.2.1.at_ ad hA)⟩);obtain⟨W5,GV⟩:∃W5,w4.alloc (.cells #[st,.slice A5 n5 c5] 87)=W5:=⟨_,rfl⟩
   have GW:Blw w4 W5:=by rw[<- GV];exact(Below.refl _ _).alloc (nL _) _
   have Du:Blk W5 w4 87 #[st,.slice A5 n5 c5]:=by rw[<- GV];exact Blk.new _ _ _
   have DU:=hid GV;have D5:Hid (YSiN w2 w4 y cX d Ga mX q gr rl A5 n5 c5 w1 st lr 0 W5):=hid ⟨st,lr,rl,A5,n5,c5,[w4.heap.size]++bs,hS.news GW [w4.heap.size] (fun g hg=>by rw[List.mem_singleton.1 hg];exact⟨nL _,Du.lt⟩),hS.2.2.2.2.2.2.1,(hS.2.2.2.2.2.2.2.1.below GW).more (fun g hg=>List.mem_append_right _ hg),Du,by simp,(fun ad hA=>by have:=DB.out.2.2.2 ad hA;omega),by have:=hS.2.2.2.2.2.2.2.2.2.2.2.2.1;omega⟩;have Fv:Hid (w4.heap.size<=W5.heap.size):=hid GW.size;clear hS Gl GV GW Du HS;go_upto_region 21 with fail
   rw[DU.out];have Dn:min (n2:Int) 8=(M2:Int):=by
    obtain⟨m1,m2,m3,m4,m5⟩:=GE.out;omega
   have Do:max (M2:Int) 0=(M2:Int):=oM;have DW:(0:Int)<=(M2:Int):=oM;have DZ:(M2:Int)<=(c2:Int):=by have h2:=GE.out;omega
   clear c0 c1;go_wp2_with fail
   go_loopw [10,74] (fun v10 vi wr=>∃j:Nat,j<=M2/\vi=↑[j]/\Hid (YSiN w2 w4 y cX d Ga mX q gr rl A5 n5 c5 w1 st lr j wr)/\Hid (W5.heap.size<=wr.heap.size)) (fun _ vi _=>M2-(Go.RowKit.intOf vi).toNat)
   case atStart=>exact⟨0,Nat.zero_le _,rfl,D5,hid (nL _)⟩
   case round =>
    clear D5 Dn Do;obtain⟨j,hj,rfl,HN,DM⟩:=hrel;by_cases hlt2:j<M2
    ·obtain⟨sc,lc,Ft,Ac,nc,cc,GS,GQ,Gm,Gd,Gj,G3,Da,Db⟩:=HN.out
     have Ff:=GE.out;have Gw:Blw w wr:=by
      have h1:=GQ.2.2.2.2.2.2.2.2.2.2.2.2.2;rw[De.out]at h1;exact Gu.out.trans (h1.mono Gu.out.size)
     obtain⟨Fd,F1,F2,Dj,Dt,f0,f1⟩:=x4d (GD.out.rd.below Gw) (k:=j) oM;subst Dj;have Gy:=hid (GD.out.each _ (List.getElem_mem Fd));generalize l2[j]=p at*;obtain⟨kd,nm⟩:=p;simp only[]at f0 f1 Gy;have Fi:(0:Int)<=(j:Int):=oM;have Fj:(j:Int)<(M2:Int):=oM;obtain⟨W6,Gq⟩:∃W6,wr.alloc (.cells #[[[kd]],.string nm] 79)=W6:=⟨_,rfl⟩
     have Gc:Blw wr W6:=by rw[<- Gq];exact(Below.refl _ _).alloc (nL _) _
     have Gt:Blk W6 wr 79 #[[[kd]],.string nm]:=by rw[<- Gq];exact Blk.new _ _ _
     have Dg:=hid Gq;have Gv:=hid Gt;have Ge:∀g∈GS,g∈[wr.heap.size]++GS:=fun g hg=>List.mem_append_right _ hg
     have D8:=hid (GQ.news Gc [wr.heap.size] (fun g hg=>by rw[List.mem_singleton.1 hg];exact⟨nL _,Gt.lt⟩));have GA:=hid (D8.out.do_ Gm Ac nc cc ((Gd.below Gc).more Ge) kd nm Gy.out.1 Gy.out.2 oM oM);have Gr:=Gj.below Gc Gj.lt;have G9:=hid Gr;have G4:=hid (Ge _ G3);have DO:=hid (show(∀ad,Ac=some ad->ad.block≠w4.heap.size)/\sc<=20+j/\w4.heap.size<wr.heap.size from⟨Da,Db,Gj.lt⟩);have b0:=Gr.cell 0;have b1:=Gr.cell 1;have Fk:=Gt.cell 0;have Fl:=Gt.cell 1;clear GQ Gm Gd Gj G3 Da Db Ff Gw Dt Gq Gc Gt Gr HN Ge;go_upto_region 24 with fail
     rw[Dg.out];clear f0 f1;go_upto_region 25 with (go_at_call 30;refine GA.out.mono ?_;rintro e w7⟨A7,n7,c7,Gf,l7,Dd,G1,rfl,hh⟩;have HH:=hid hh.out;clear hh;obtain⟨t1,t2,t3,t4,t5,t6,t7,t8⟩:=HH.out;have Gg:=hid (t6.blk G9.out G4.out);have z0:=Gg.out.frozen 0;have z1:=Gg.out.frozen 1;have a0:=Gg.out.cell 0;have a1:=Gg.out.cell 1;clear t1 t2 t3 t4 t5 t6 t7 t8)
     obtain⟨W8,GJ⟩:∃W8,(w7.setCell (w4,0) Gf).setCell (w4,1) (.slice A7 n7 c7)=W8:=⟨_,rfl⟩
     obtain⟨t1,t2,t3,t4,t5,t6,t7,t8⟩:=HH.out;obtain⟨y1,y2,y3,y4⟩:=DB.out;obtain⟨r1,r2,r3⟩:=DO.out;have GY:w4.heap.size∈G1:=t5 _ G4.out;have DV:wr.heap.size<W6.heap.size:=Gv.out.lt;have Dk:∀ad,A7=some ad->ad.block≠w4.heap.size:=fun ad hA=>by
      rcases t7 with e|e
      ·exact r1 ad (e▸hA)
      ·have h1:=e ad hA
       omega
     have GK:Chg (fun k=>k=w4.heap.size) w7 W8:=by
      rw[<- GJ];exact((Chg.refl (fun k=>k=w4.heap.size) w7).setCell (p:=⟨w4.heap.size,0,none⟩) (.inl rfl) _).setCell (p:=⟨w4.heap.size,1,none⟩) (.inl rfl) _
     have GT:YSiT w2 y cX d Ga mX q gr (800+800*j+800) Gf l7 rl A5 n5 c5 w1 st lr G1 W8:=by
      rw[<- GJ];exact(t2.setCell (p:=⟨w4.heap.size,0,none⟩) GY y3 (fun ad hA=>Nat.ne_of_lt (y4 ad hA)) (Nat.ne_of_lt y1) (Nat.ne_of_lt y2) _).setCell (p:=⟨w4.heap.size,1,none⟩) GY y3 (fun ad hA=>Nat.ne_of_lt (y4 ad hA)) (Nat.ne_of_lt y1) (Nat.ne_of_lt y2) _
     have Dp:RlIn G1 A7 n7 c7 Dd W8:=⟨t4.cap,(z2z t4.rd GK (nL _) Dk).more GK.size,t4.at_⟩
     have GI:Blk W8 w4 87 #[Gf,.slice A7 n7 c7]:=by
      rw[<- GJ];exact(Gg.out.set_ 0 _).set_ 1 _
     have DD:Blk W8 wr 79 #[[[kd]],.string nm]:=GK.blk (t6.blk Gv.out (by simp)) (fun e=>by have e2:wr.heap.size=w4.heap.size:=e;omega);have DN:=hid (x1e GT.1.isP GT.1 t3 A7 n7 c7 Dp.rd nm);have DP:Hid (∀W,Blw W8 W->YSiN w2 w4 y cX d Ga mX q gr rl A5 n5 c5 w1 st lr (j+1) W/\W5.heap.size<=W.heap.size):=hid (fun W hW=>⟨⟨Gf,l7,Dd,A7,n7,c7,G1,by rw[show 800+800*(j+1)=800+800*j+800 by omega];exact GT.below hW,t3,Dp.below hW,GI.below hW GI.lt,GY,Dk,oM⟩,by have h1:=DM.out;have h2:=hW.size;have h3:=GK.size;have h4:=t8.size;omega⟩);have c0:=GI.cell 0;have c1:=GI.cell 1;have x1:=DD.cell 1;rw[GJ];have Dm:(M2:Int)<=8:=by have:=GE.out;omega
     clear t1 t2 t3 t4 t5 t6 t7 t8 y1 y2 y3 y4 r1 r2 r3 GY Dk GK GT Dp GI DD GJ z0 z1 a0 a1 b0 b1 Fk Fl HH Gg GA D8 G9 Gv DV;go_wp2_with (go_at_call 33;refine DN.out.mono ?_;rintro e w9⟨rfl,DF⟩;have GR:=hid (DP.out w9 DF);clear DF)
     go_roundw
     case rel =>
      first
       |exact⟨j+1,oM,by go_num,hid GR.out.1,hid GR.out.2⟩
       |(
         repeat apply Exists.intro
         refine⟨?_,rfl⟩;exact⟨j+1,oM,by go_num,hid GR.out.1,hid GR.out.2⟩)
     case measure=>simp[Go.RowKit.intOf];omega
    ·obtain rfl:j=M2:=oM
     obtain⟨sc,lc,Ft,Ac,nc,cc,GS,GQ,Gm,Gd,Gj,G3,Da,Db⟩:=HN.out;have Dm:j<=8:=GE.out.1;have GX:Blw wr wr.drew:=(Below.refl _ _).drew;obtain⟨q1,q2,q3,q4,q5,q6,q7,q8,q9,Fm,Fo,Fq,Fs,DI⟩:=GQ.below GX;have Gj:=Gj.below GX Gj.lt;have Gd:=Gd.below GX;have Gw:Blw w wr.drew:=by
      have h1:=DI;rw[De.out]at h1;exact Gu.out.trans (h1.mono Gu.out.size)
     have Gs:∀{w'},Below cX.b0 wr.drew w'->Blw w w':=fun {w'} h=>by
      rw[De.out]at h;exact Gw.trans (h.mono Gu.out.size)
     have Fu:=hid (fun w' (h:Below cX.b0 wr.drew w')=>Gs h);have Dv:∀{w'},z1i GS wr.drew w'->w'.cell? (y.g,3)=some (y.d,0):=fun {w'} h=>by
      rw[<- q6];exact World.cell?_of_block (h y.g q3)
     have DJ:Hid (() 22 #[(d,0)] wr.drew fun e w'=>e=.returned ()/\Hid (w'.cell? (y.g,3)=some (y.d,0)/\Blk w' w2 87 #[st,.slice A5 n5 c5]/\Blw w w'/\() 33 #[(gr,0),(58,y.d,0),.agg #[st,.slice A5 n5 c5],.string ⟨#[97]⟩] w' fun e w2=>e=.returned true/\Blw w' w2)):=hid (by
      refine(q1.abort q2 oM q5.s0 q5.ok q5.words q5.lok q5.dir).mono ?_;rintro e w'⟨he,h1,h2,h3⟩;have hr:=q8.kept h3 h2.size;exact⟨he,hid ⟨Dv h3,h3.blk q9 q4,Gs h2,x1e h1.isP h1 q7 A5 n5 c5 hr.rd _⟩⟩)
     have DL:Hid (() 25 #[(d,0)] wr.drew fun e w'=>e=.returned ()/\Hid (w'.cell? (y.g,3)=some (y.d,0)/\Blk w' w4 87 #[sc,.slice Ac nc cc]/\Blw w w'/\() 33 #[(gr,0),(58,y.d,0),.agg #[sc,.slice Ac nc cc],.string ⟨#[97]⟩] w' fun e w2=>e=.returned true/\Blw w' w2)):=hid (by
      refine(q1.commit q2 oM q5.s0 q5.dir).mono ?_;rintro e w'⟨he,h1,h2,h3⟩;have hr:=Gd.kept h3 h2.size;exact⟨he,hid ⟨Dv h3,h3.blk Gj G3,Gs h2,x1e h1.isP h1 Gm Ac nc cc hr.rd _⟩⟩)
     have G5:=hid (show wr.drew.cell? (y.g,3)=some (y.d,0)/\(wr.drew.cell? (w2,0)=some ↑st/\wr.drew.cell? (w2,1)=some (.slice A5 n5 c5))/\wr.drew.cell? (w4,0)=some ↑sc/\wr.drew.cell? (w4,1)=some (.slice Ac nc cc)from⟨q6,⟨q9.cell 0,q9.cell 1⟩,Gj.cell 0,Gj.cell 1⟩);have Gb:Hid (∀(W W':World)(p:Addr)(v:Value),Blw W W'->W.cell? p=some v->W'.cell? p=some v):=hid (fun W W' p v hb h=>(hb.cell (World.block_lt_of_cell? _ _ h)).trans h);clear q1 q2 q3 q4 q5 q6 q7 q8 q9 Fm Fo Fq Fs DI Gm Gd Gj G3 Da Db Gs Dv Gw HN GX;have hh:=GC.out;by_cases hp:how/2%2=1
     ·have e1:((how:Int)/2%2==1)=true:=by rw[beq_iff_eq];omega
      go_upto_region 29 with fail
      refine z0e (fun w'=>w'.cell? (y.g,3)=some (y.d,0)/\w'.cell? (w2,0)=some ↑st/\w'.cell? (w2,1)=some (.slice A5 n5 c5)) 14 [] [(1,0),(0,1),(1,2),(1,3),(1,4),(1,5),(1,6),(1,7),(1,8),(1,9),(1,10),(0,11),(1,12),(1,13)] (by kernel_rfl) (by kernel_rfl) ⟨G5.out.1,G5.out.2.1.1,G5.out.2.1.2⟩ ?_;refine tkG (d,0) ?_;refine z0c (by rfl) ?_;go_wp2_with (go_at_call 22;refine DJ.out.mono ?_;rintro e w5⟨rfl,h5⟩;have H5:=hid h5.out;clear h5)
      refine⟨⟨H5.out.1,H5.out.2.1.cell 0,H5.out.2.1.cell 1⟩,?_⟩;refine tkG true ?_;refine tkG true ?_;refine tkG (gr,0) ?_;refine tkG (y.g,0) ?_;refine tkG (y.g,0) ?_;refine tkG (y.g,3) ?_;refine tkH (y.d,0) (fun w' hS=>?_) ?_
      ·obtain⟨s0,s1,s2⟩:=hS
       go_simp
      refine tkG (58,y.d,0) ?_;refine tkH (.agg #[st,.slice A5 n5 c5]) (fun w' hS=>?_) ?_
      ·obtain⟨s0,s1,s2⟩:=hS
       go_simp
      refine z0c (by rfl) ?_;go_wp2_with (go_at_call 33;refine H5.out.2.2.2.mono ?_;rintro e w6⟨rfl,Gc⟩;have Gi:=hid Gc;clear Gc)
      refine⟨⟨Gb.out _ _ _ _ Gi.out H5.out.1,Gb.out _ _ _ _ Gi.out (H5.out.2.1.cell 0),Gb.out _ _ _ _ Gi.out (H5.out.2.1.cell 1)⟩,?_⟩;refine tkG true ?_;refine tkG true ?_;show wpList _ _ _ _ _ _;simp only[List.drop_succ_cons,List.drop_zero];refine NoPanic.normal ?_;go_wp2_with fail
      go_ret;exact⟨rfl,H5.out.2.2.1.trans (Gi.out.mono H5.out.2.2.1.size)⟩
     ·have e1:((how:Int)/2%2==1)=false:=by rw[beq_eq_false_iff_ne];omega
      go_upto_region 30 with fail
      refine z0e (fun w'=>w'.cell? (y.g,3)=some (y.d,0)/\w'.cell? (w4,0)=some ↑sc/\w'.cell? (w4,1)=some (.slice Ac nc cc)) 14 [] [(1,0),(0,1),(1,2),(1,3),(1,4),(1,5),(1,6),(1,7),(1,8),(1,9),(1,10),(0,11),(1,12),(1,13)] (by kernel_rfl) (by kernel_rfl) ⟨G5.out.1,G5.out.2.2.1,G5.out.2.2.2⟩ ?_;refine tkG (d,0) ?_;refine z0c (by rfl) ?_;go_wp2_with (go_at_call 25;refine DL.out.mono ?_;rintro e w5⟨rfl,h5⟩;have H5:=hid h5.out;clear h5)
      refine⟨⟨H5.out.1,H5.out.2.1.cell 0,H5.out.2.1.cell 1⟩,?_⟩;refine tkG true ?_;refine tkG true ?_;refine tkG (gr,0) ?_;refine tkG (y.g,0) ?_;refine tkG (y.g,0) ?_;refine tkG (y.g,3) ?_;refine tkH (y.d,0) (fun w' hS=>?_) ?_
      ·obtain⟨s0,s1,s2⟩:=hS
       go_simp
      refine tkG (58,y.d,0) ?_;refine tkH (.agg #[sc,.slice Ac nc cc]) (fun w' hS=>?_) ?_
      ·obtain⟨s0,s1,s2⟩:=hS
       go_simp
      refine z0c (by rfl) ?_;go_wp2_with (go_at_call 33;refine H5.out.2.2.2.mono ?_;rintro e w6⟨rfl,Gc⟩;have Gi:=hid Gc;clear Gc)
      refine⟨⟨Gb.out _ _ _ _ Gi.out H5.out.1,Gb.out _ _ _ _ Gi.out (H5.out.2.1.cell 0),Gb.out _ _ _ _ Gi.out (H5.out.2.1.cell 1)⟩,?_⟩;refine tkG true ?_;refine tkG true ?_;show wpList _ _ _ _ _ _;simp only[List.drop_succ_cons,List.drop_zero];refine NoPanic.normal ?_;go_wp2_with fail
      go_ret;exact⟨rfl,H5.out.2.2.1.trans (Gi.out.mono H5.out.2.2.1.size)⟩
end
namespace snapshotInTx
open Go.ChangeShapes Go.WideShapes Go.ChangeAt Go.RowKit
theorem contract(H:Type)(enc:TypeId×Value->H)(W:World)(base:Nat)(args:Array Value)(ds gs:List (DataW H))(before:List MemPlace)
  (hval:∀(j:Nat) t v,Tryz.f7.params[j]?=some t->args[j]?=some v->Value.okWide Tryz.prog W .any base t v)
  (hW:DataW.Whole enc Tryz.prog Tryz.f7.params.toList Rows.snapshotInTxSpec.vars false W args.toList ds gs before) (hL:laidMetH Tryz.prog Rows.snapshotInTxRow.laid W) :
  Calls Tryz.prog 7 args W fun e W'=>∃v,e=.returned v/\Rows.snapshotInTxSpec.post enc Tryz.prog Tryz.f7 false true false false W args v W':=by
 have Gg:=hW;obtain⟨p,q,Ge,hV,rfl,Gn,Gp⟩:=hW;have hA:DataW.TrodAll enc Tryz.prog W 0 (fun _=>true) true Tryz.f7.params.toList args.toList ds p:=Ge;rw[Tryz.params7]at hA hval;obtain⟨v0,Gq,d0,Gk,p0,q0,Gf,rfl,rfl,h0,r0⟩:=trodAll_cons hA;obtain⟨v1,Gr,d1,Gl,p1,q1,rfl,rfl,rfl,h1,r1⟩:=trodAll_cons r0;obtain⟨v2,Gs,d2,Gm,p2,q2,rfl,rfl,rfl,h2,r2⟩:=trodAll_cons r1;obtain⟨rfl,rfl,rfl⟩:=trodAll_nil r2;obtain rfl:args=#[v0,v1,v2]:=by cases args;simp_all
 obtain⟨rfl,rfl⟩:=trodVars_none hV;have Gh:∀x∈p0,x.block<W.heap.size:=by obtain⟨m,hm⟩:=h0;exact DataW.trod_lt m _ _ _ hm
 obtain⟨a0,Gc,Ga,l0,rfl,w0⟩:=x9v (hval 0 77 v0 rfl rfl) h0;have Gi:∀x∈p1,x.block<W.heap.size:=by obtain⟨m,hm⟩:=h1;exact DataW.trod_lt m _ _ _ hm
 obtain⟨a1,Gd,Gb,l1,rfl,w1⟩:=x9v (hval 1 77 v1 rfl rfl) h1;have Gj:∀x∈p2,x.block<W.heap.size:=by obtain⟨m,hm⟩:=h2;exact DataW.trod_lt m _ _ _ hm
 obtain⟨a2,rfl,w2⟩:=v4p (hval 2 5 v2 rfl rfl) h2;clear Ge;refine(z9d a0 Gc Ga l0 a1 Gd Gb l1 a2 W w0 w1 w2 (v4n hL) (v4j hL)).mono fun e W' ⟨he,bel⟩=>?_
 subst he;exact⟨_,rfl,_,_,_,[],_,[],Gg,trodAll_mk1 (shut_bool Tryz.underlying4 _),(trodAll_cons_mk (Below.trod x2u (by kernel_rfl) (of_decide_eq_true (by kernel_rfl)) h0 bel Gh) (trodAll_cons_mk (Below.trod x2u (by kernel_rfl) (of_decide_eq_true (by kernel_rfl)) h1 bel Gi) (trodAll_cons_mk (Below.trod x2u (by kernel_rfl) (of_decide_eq_true (by kernel_rfl)) h2 bel Gj) trodAll_mk0))),rfl,bel.frame _,fun h=>by cases h⟩
theorem laid_met(os:Os):laidMet Tryz.prog Rows.snapshotInTxRow.laid ((y2u os).forCall (fun _ _=>0) ⟨#[],#[.slice none 0 0,.slice none 0 0,.int .u8 0],[]⟩).memory :=
 laidMet_of_run' 8 (by kernel_rfl) (by kernel_rfl)
theorem reads(os:Os){H:Type}(enc:TypeId×Value->H):∃places,DataW.whole enc Tryz.prog ((y2u os).forCall (fun _ _=>0) ⟨#[],#[.slice none 0 0,.slice none 0 0,.int .u8 0],[]⟩).memory Tryz.f7.params.toList Rows.snapshotInTxSpec.vars false #[Value.slice none 0 0,Value.slice none 0 0,Value.int .u8 0].toList 8=some ([.nil,.nil,.lit (.int .u8 0)],[],places) :=
 ⟨[],by kernel_rfl⟩
theorem lifted(os:Os)(started:os.Started)(H:Type)(enc:TypeId×Value->H)(F:Stop.Interp):
  ReturnsInHanded {} Tryz.checked os 7 .any ((OpenSpec.ofChange Rows.snapshotInTxSpec).preRow enc Tryz.prog Tryz.f7 Rows.snapshotInTxRow.domain false Rows.snapshotInTxRow.laid) (((OpenSpec.ofChange Rows.snapshotInTxSpec).at F).post enc Tryz.prog Tryz.f7 false true false false):=by
 obtain⟨Ga,hx⟩:=reads os enc;refine returnsInHanded_of_row (C:=Tryz.checked) (s:=OpenSpec.ofChange Rows.snapshotInTxSpec) ownK started (by kernel_rfl) Tryz.func7
  (witness_row_at (enc:=enc) (C:=Tryz.checked) false (y2u os) #[.slice none 0 0,.slice none 0 0,.int .u8 0] rfl (by kernel_rfl) (by kernel_rfl) (by kernel_rfl)
   (OpenSpec.preRow_of_cond 8 hx (by kernel_rfl) (fun k hk=>by cases hk) (by kernel_rfl) (laid_met os))) ?_
 intro W base args ds gs before hval hW _ _ _ hL _ _;exact contract H enc W base args ds gs before hval hW hL
theorem both{a b:Bool}(x:a=true)(y:b=true):(a&&b)=true:=by rw[x,y];rfl
theorem closed:joinedFacts Tryz.pinned.checked.prog 7 Tryz.f7 (OpenSpec.ofChange Rows.snapshotInTxSpec).bare Rows.snapshotInTxRow=true:=by
 unfold joinedFacts;refine both (both (both (both (both (both (both (both (both (both (both (both (both (both (both (both (both (both (both (both (both (both (both (both (both (both (both (both (both (both (both ?_ ?_) ?_) ?_) ?_) ?_) ?_) ?_) ?_) ?_) ?_) ?_) ?_) ?_) ?_) ?_) ?_) ?_) ?_) ?_) ?_) ?_) ?_) ?_) ?_) ?_) ?_) ?_) ?_) ?_) ?_) ?_;all_goals (as_aux_lemma=>kernel_rfl)
theorem named:Tryz.pinned.checked.prog.funcNamed Rows.snapshotInTxRow.func=some 7:=by kernel_rfl
theorem said:Rows.SnapshotInTxSaid :=
 OpenClaim.holds_of_cond 7 Tryz.f7 rfl rfl rfl rfl rfl rfl rfl ⟨rfl,rfl,rfl,rfl,rfl⟩ rfl rfl rfl rfl rfl named Tryz.func7 closed
  (of_decide_eq_true (by kernel_rfl)) (by unfold Func.isWrapper;first|(rw[if_pos (by decide+kernel)];kernel_rfl)|(rw[if_neg (by decide+kernel)];exact⟨rfl,rfl⟩))
  (fun os started H enc _ F=>by rw[OpenClaim.pre_eq_preRow];exact lifted os started H enc F)
theorem plain(f : FuncId)(fn : Func)(hf : Tryz.pinned.checked.prog.funcNamed "bedrock/bedrocklaw38.SnapshotInTx" =some f)(hfn : Tryz.pinned.checked.prog.funcs[f]? =some fn):
  true=Tryz.pinned.checked.prog.looks []/\∀(j:Nat) t,fn.params[j]?=some t->Tryz.pinned.checked.prog.wantsStandIn t=false:=by
 obtain rfl : f=7 := Option.some.inj ((show Tryz.prog.funcNamed "bedrock/bedrocklaw38.SnapshotInTx" =some 7 by kernel_rfl).symm.trans hf) |>.symm
 obtain rfl:fn=Tryz.f7:=(Option.some.inj (Tryz.func7.symm.trans hfn)).symm;refine⟨by kernel_rfl,fun j t ht=>?_⟩;rw[Tryz.params7]at ht;have hm:=Array.mem_of_getElem? ht;simp only[List.mem_toArray,List.mem_cons,List.not_mem_nil,or_false]at hm;rcases hm with rfl|rfl|rfl
 ·exact(show Tryz.prog.wantsStandIn 77=false by kernel_rfl)
 ·exact(show Tryz.prog.wantsStandIn 77=false by kernel_rfl)
 ·exact(show Tryz.prog.wantsStandIn 5=false by kernel_rfl)
end snapshotInTx
end Go.Proofs.YtmhbokcccjmfgaaGreatDoor
