/- part 27 -/
import Derived.Test.YtmhbokcccjmfgaaGreatDoorQaz
set_option maxRecDepth 100000
set_option maxHeartbeats 16000000
namespace Go.Proofs.YtmhbokcccjmfgaaGreatDoor
open Go.Lib (hid)
section
open Go.RowKit Go.Maps
theorem w9b f (m:Nat->Nat) {o} v (h8:o%8=0):Yvw (f.put o v) m=upd (Yvw f m) (o/8) v:=by
 funext i
 unfold Yvw YFm.put upd;by_cases e:8*i=o
 ·rw[if_pos e,if_pos oM];rfl
 ·rw[if_neg e,if_neg oM]
theorem x4b:∀(us:List (Nat×Nat))(f:YFm)(m:Nat->Nat),(∀e∈us,e.1%8=0)->Yvw (z7e f us) m=wrS (Yvw f m) us
 |[],_,_,_=>rfl
 |e::us,f,m,h=>by
  show Yvw (z7e (f.put e.1 e.2) us) m=wrS (upd (Yvw f m) (e.1/8) e.2) us;rw[x4b us _ m (fun x hx=>h x (by simp[hx])),w9b f m e.2 (h e (by simp))]
theorem w8y{w:World}{b:Nat}{t:TypeId}{sz n c m:Nat}{A:Option Addr}{xs:List Value}(h:w.ownsRow b t sz (.slice A n c) m xs){ad:Addr}(hA:A=some ad):b<=ad.block:=by
 subst hA;rcases h.2 with ⟨h1,_⟩|⟨g,cap,cur,h1,h2,_⟩
 ·cases h1
 ·cases h1
  exact h2
section
variable{c:YCX}{d mode:Nat}{m:Nat->Nat}{f:YFm}{k1 B:Nat}{Z:Fp}{cur:Nat->Nat}{w w':World}
def w7z(c:YCX)(d mode:Nat)(m:Nat->Nat)(f:YFm)(B:Nat)(Z:Fp)(w:World)(us:List (Nat×Nat))(e:Ending)(w':World):Prop :=
 e=.returned ()/\∃k',z3z c d mode m (z7e f us) k' (B+33) Z w w'
theorem z3z.back{k' B' f' W}(hb:Blw w W)(h:z3z c d mode m f' k' B' Z W w'):z3z c d mode m f' k' B' Z w w':=by
 obtain⟨Z',h1,h2,h3⟩:=h;exact⟨Z',h1,(Chg.of_below hb).trans h2 (Grew.refl _ _),fun x hx=>(h3 x hx).imp id (fun h=>Nat.le_trans hb.size h)⟩
theorem x6m(h:YTxR c d mode m f k1 B Z w cur)(g p:Nat)(hg:Blk w g 202 #[p])(hp0:p≠0)(h8:pOff p%8=0)(hL:pOff p+272<=64*c.L)(hpo:pOff p<=900000)(hgd:∀j,j<34->z3q c (pOff p+8*j))(A:Option Addr)(k0 c0:Nat)(l:List (List Nat×Nat))(hr:z0d w w.heap.size 2 A k0 (z0b l))(hn:k0<=8)(hl:∀p∈l,p.1.length<=16/\∀b∈p.1,b<256)(hev:∀v∈encA l,v<18446744073709551616){dom:List Nat}(hd:∀o v,f o=some v->o∈dom)(hdu:∀j,j<33->pOff p+8+8*j∈dom)(hdl:dom.length<=94)(hB:B+33<=900):
  () 198 #[(g,()),.iface 31 (d,()),.slice A k0 c0] w (w7z c d mode m f B Z w (flW cur (plOf (pOff p+8) (encA l)))):=by
 have GG:Hid (∀W,() 65 #[p,.int .i64 1] W fun e w'=>e=.returned (pOff p+8:Nat)/\W=w'):=hid (fun W=>by
  have h1:=y0d p 1 oM W;rw[show pAt p 1=pOff p+8 by unfold pAt;rw[if_neg oM]]at h1;exact h1)
 have G7:Hid (∀W,Blw w W->() 260 #[(pOff p+8:Nat),arI,.slice A k0 c0] W (x9g W (plOf (pOff p+8) (encA l)))):=hid (fun W hW=>x0c (pOff p+8) A k0 c0 l W oM oM ((hr.below hW).more hW.size) hn hl);have GK:Hid (∀W,Blw w W->∀o,z3q c o->() 36 #[(d,()),o] W fun e w'=>e=.returned (cur (o/8))/\Blw W w'):=hid (fun W hW o h1=>(h.below hW).load o h1 _ rfl);have GO:Hid (∀(W:World)(A0:Option Addr)(n0 c0:Nat),Blw w W->w.heap.size<=W.heap.size->z0d W W.heap.size 2 A0 n0 (z0a (flW cur (plOf (pOff p+8) (encA l))))->(∀ad,A0=some ad->w.heap.size<=ad.block)->() 52 #[(d,()),.slice A0 n0 c0,((),()),((),())] W (w7z c d mode m f B Z w (flW cur (plOf (pOff p+8) (encA l))))):=hid (fun W A0 n0 c0 hW _ h0 h00=>by
  have GU:=(h.below hW).op;have GT:∀j,Z j->j<w.heap.size:=by
   obtain⟨_,_,_,_,_,_,_,_,_,_,hl⟩:=h.op;exact hl
  have Gd:∀e∈flW cur (plOf (pOff p+8) (encA l)),∃j,j<33/\e.1=pOff p+8+8*j/\e.2=(encA l).getD j 0:=fun e he=>by
   have h1:=(List.mem_filter.1 he).1;unfold plOf at h1;obtain⟨j,hj,rfl⟩:=List.mem_map.1 h1;exact⟨j,List.mem_range.1 hj,rfl,rfl⟩
  have Gs:=x2j cur (plOf (pOff p+8) (encA l));rw[z8w]at Gs;have Dd:n0=(flW cur (plOf (pOff p+8) (encA l))).length:=by have:=h0.1;rw[z1a]at this;omega
  have h1:=z6c GU h.mo A0 n0 c0 (flW cur (plOf (pOff p+8) (encA l))) h0 (fun ad ha hz=>by
   have h2:=h00 ad ha;have h3:=GT _ hz;omega) oM (fun e he=>by
   obtain⟨j,hj,e1,_⟩:=Gd e he;have:=hgd (j+1) oM;rw[e1,show pOff p+8+8*j=pOff p+8*(j+1) by omega];exact this) (fun e he=>by
   obtain⟨j,hj,_,e2⟩:=Gd e he;rw[e2,List.getD_eq_getElem?_getD];cases hx:(encA l)[j]? with
   |none=>exact show(0:Nat)<18446744073709551616 by omega
   |some y=>exact hev y (List.mem_of_getElem? hx)) hd (fun e he=>by
   obtain⟨j,hj,e1,_⟩:=Gd e he;rw[e1];exact hdu j hj) hdl oM
  refine h1.mono ?_;rintro e w'⟨he,k',h2⟩;refine⟨he,k',z3z.back hW ?_⟩;obtain⟨Z',h3,h4,h5⟩:=h2;exact⟨Z',h3.more oM,h4,h5⟩)
 have GI:Hid (∀W f' k' B' Z',z2n c d mode m f' k' B' Z' W->() 50 #[(d,())] W fun e w'=>e=.returned ()/\W=w'):=hid (fun W f' k' B' Z' h=>z6q h);have GM:Hid (∀k (hk:k<33),∃o v:Nat,(plOf (pOff p+8) (encA l))[k]?=some (o,v)/\z3q c o):=hid (fun k hk=>by
  refine⟨pOff p+8+8*k,(encA l).getD k 0,?_,by have:=hgd (k+1) oM;rw[show pOff p+8+8*k=pOff p+8*(k+1) by omega];exact this⟩;unfold plOf;rw[List.getElem?_map,List.getElem?_range hk];rfl)
 have G8:Hid ((plOf (pOff p+8) (encA l)).length=33):=hid (z8w _ _);have g0:w.cell? (g,())=some ↑p:=hg.cell 0;have Dc:=z8e (some (d,()));have Da:=y1q (some (d,()));have Db:=z9c (some (d,()));generalize plOf (pOff p+8) (encA l)=us at*;generalize pOff p+8=o1 at*;obtain⟨i0,GS,GV,GW,GX⟩:=info_parts z1l;clear h hg hr hl hev hd hdu hdl hB h8 hL hpo hgd;unfold arI at G7;go_enter Tryz.func198,Tryz.ntmps198
 go_upto_region 4 with (first
  |(go_at_call 65;refine(GG.out _).mono ?_;rintro e w3⟨rfl,rfl⟩)
  |(go_at_call 202;refine(z4b w).mono ?_;rintro e w4⟨rfl,G9⟩;have Gn:=hid G9;clear G9)
  |(go_at_call 260;refine(G7.out w4 Gn.out).mono ?_;rintro e w5⟨gq,GZ,rfl,GC,GA⟩;have Gk:=hid (Gn.out.trans (GA.mono Gn.out.size));have Gy:=hid GC;clear GA GC))
 have Gx:Hid (w.heap.size<=w5.heap.size):=hid Gk.out.size;have G2:Hid (w5.ownsRow w5.heap.size 117 2 ((),()) 0 (z0a (flW cur (us.take 0)))):=World.ownsRow_nil _ _ _ _;have Gt:Hid (Blw w5 w5):=hid (Below.refl _ _);clear g0;go_wp2_with fail
 go_loopw [9,30] (fun l i wr=>∃(k:Nat)(A:Option Addr)(q c:Nat),k<=33/\i=↑[k]/\l=.slice A q c/\q<=k/\Hid (q=(flW cur (us.take k)).length)/\Hid (wr.ownsRow w5.heap.size 117 2 (.slice A q c) q (z0a (flW cur (us.take k))))/\Hid (Blw w5 wr)) (fun _ i _=>33-(Go.RowKit.intOf i).toNat)
 case atStart=>exact⟨0,_,_,_,Nat.zero_le _,rfl,rfl,nL _,rfl,G2,Gt⟩
 case round =>
  clear G2 Gt;obtain⟨k,A1,q,c1,hk,rfl,rfl,De,Gp,HO,H2⟩:=hrel;by_cases hlt:k<33
  ·have Gj:k<us.length:=by rw[G8.out];exact hlt
   obtain⟨o,v,GF,GE⟩:=GM.out k hlt;have Gm:us[k]=(o,v):=Option.some.inj ((List.getElem?_eq_getElem Gj).symm.trans GF);have Ge:=hid (x4q cur us k Gj);rw[Gm]at Ge;have Df:(0:Int)<=(k:Int):=oM;have Dg:(k:Int)<33:=oM;have Gz:=hid (Gy.out.below H2.out Gy.out.lt);have d0:wr.cell? (gq,k*2)=some ↑o:=by
    rw[Gz.out.cell];have h1:=(z2v us k Gj).1;rw[Gm]at h1;unfold wrA;rw[List.getElem?_toArray];exact h1
   have d1:wr.cell? (gq,k*2+1)=some ↑v:=by
    rw[Gz.out.cell];have h1:=(z2v us k Gj).2;rw[Gm]at h1;unfold wrA;rw[List.getElem?_toArray];exact h1
   have GL:Hid (∀W,Blw w5 W->() 36 #[(d,()),o] W fun e w'=>e=.returned (cur (o/8))/\Blw W w'):=hid (fun W hW=>GK.out W (Gk.out.trans (hW.mono Gx.out)) o GE);generalize cur (o/8)=y at*;clear GF Gm Gj GE;obtain⟨W7,Gi⟩:∃W7,wr.alloc (.cells #[o,v] 117)=W7:=⟨_,rfl⟩
   have GD:Blk W7 wr.heap.size 117 #[o,v]:=by rw[<- Gi];exact Blk.new _ _ _
   have G5:Hid (W7.ownsRow w5.heap.size 117 2 (.slice A1 q c1) q (z0a (flW cur (us.take k)))):=hid (by rw[<- Gi];exact HO.out.alloc _);have Gw:Hid (Blw w5 W7):=hid (by rw[<- Gi];exact H2.out.alloc H2.out.size _);have GR:=hid Gi;have Gl:Hid (Blw w5 W7.drew):=hid Gw.out.drew;have G6:Hid (W7.drew.ownsRow w5.heap.size 117 2 (.slice A1 q c1) q (z0a (flW cur (us.take k)))):=hid (z0r G5.out (Below.refl _ _).drew);have Ga:Hid (Blk W7.drew wr.heap.size 117 #[o,v]):=hid GD.drew;have GY:=y1o (d,());obtain⟨b,hb⟩:∃b,((y:Int) != (v:Int))=b:=⟨_,rfl⟩
   have Gr:Hid (flW cur (us.take (k+1))=if b=true then flW cur (us.take k)++[(o,v)]else flW cur (us.take k)):=hid (by
    rw[Ge.out,<- hb];by_cases e:y=v
    ·subst e
     simp
    ·rw[if_pos e,if_pos (by rw[bne_iff_ne];omega)])
   clear Gi GD Ge G5 Gw;go_upto_region 8 with fail
   rw[GR.out];refine z0e (fun w'=>Below W7.drew.heap.size W7.drew w') 7 [] [(1,0),(1,1),(1,2),(1,4),(1,5),(0,3),(1,6)] (by kernel_rfl) (by kernel_rfl) (Below.refl _ _) ?_;refine tkG (.iface 31 (d,())) ?_;refine tkG (wr,()) ?_;refine tkH o (fun w' hS=>?_) ?_
   ·have s1:=(Ga.out.below hS Ga.out.lt).cell 0
    go_simp
   refine tkG (.pointer (some ⟨wr.heap.size,1,none⟩)) ?_;refine tkH v (fun w' hS=>?_) ?_
   ·have s2:=(Ga.out.below hS Ga.out.lt).cell 1
    go_simp
   refine z0c (by rfl) ?_;go_wp2_with (go_at_call 36;refine(GL.out _ Gl.out).mono ?_;rintro e w6⟨rfl,GB⟩;have Gb:=hid GB;clear GB)
   refine⟨Gb.out,?_⟩;refine tkG b ?_;show wpList _ _ _ _ _ _;simp only[List.drop_succ_cons,List.drop_zero];refine NoPanic.normal ?_;have Gh:Hid (w6.ownsRow w5.heap.size 117 2 (.slice A1 q c1) q (z0a (flW cur (us.take k)))):=hid (z0r G6.out Gb.out);have Gf:Hid (Blw w5 w6):=hid (Gl.out.trans (Gb.out.mono Gl.out.size));have s1:w6.cell? (wr,())=some ↑o:=(Ga.out.below Gb.out Ga.out.lt).cell 0;have s2:w6.cell? ⟨wr.heap.size,1,none⟩=some ↑v:=(Ga.out.below Gb.out Ga.out.lt).cell 1;clear Gl G6;cases b
   ·have Gc:=Gp.out
    have Gq:=Gh.out;rw[<- (Gr.out.trans (if_neg (by decide)))]at Gc Gq;have Gg:=hid Gc;have G3:=hid Gq;clear Gc Gq;go_wp2_with fail
    go_roundw
    case rel =>
     first
      |exact⟨k+1,_,_,_,oM,by go_num,rfl,oM,Gg,G3,Gf⟩
      |(
        repeat apply Exists.intro
        refine⟨?_,rfl⟩;exact⟨k+1,_,_,_,oM,by go_num,rfl,oM,Gg,G3,Gf⟩)
    case measure=>simp[Go.RowKit.intOf];omega
   ·have Ge:=hid (Gr.out.trans (if_pos rfl))
    clear Gr;have GJ:=hid Gf.out.size;clear Ga Gb;generalize w6=W8 at*;go_wp2_with (at_builtin;refine stop ?_)
    unfold Stop;have GQ:=hid (z0j W8 _ rfl [o,v] 1 2 117 _ rfl rfl);refine z0m _ (.tmp 41) (.tmp 43) 118 rfl rfl w5.heap.size 117 i0 _ 2 16 Tryz.underlying118 GS GV GW GX rfl oM (.slice A1 q c1) q (z0a (flW cur (us.take k))) rfl (Gh.out.alloc _) (W8.heap.size+1) (some (W8,())) 1 1 [o,v] rfl GQ.out (z2k _ _) (by unfold maxLen;omega) oM (by have:=GJ.out;simp;omega) ?_;intro A3 n3 c3 w8 hn3 ho3 hg3 hb3;have G4:Hid (w8.ownsRow w5.heap.size 117 2 (.slice A3 n3 c3) n3 (z0a (flW cur (us.take (k+1))))):=hid (by rw[Ge.out,z1o];exact ho3);have Gu:=hid ((Gf.out.alloc Gf.out.size _).trans hb3);have b1:n3<=q+1:=oM;have b2:q+1<=n3:=oM;have G0:Hid (q+1=(flW cur (us.take (k+1))).length):=hid (by rw[Ge.out,List.length_append,<- Gp.out];simp);have G1:Hid (n3=q+1):=hid oM;clear hn3 ho3 hg3 hb3;go_wp2_with fail
    go_roundw
    case rel =>
     first
      |exact⟨k+1,_,_,_,oM,by go_num,rfl,oM,hid (G1.out.trans G0.out),G4,Gu⟩
      |(
        repeat apply Exists.intro
        refine⟨?_,rfl⟩;exact⟨k+1,_,_,_,oM,by go_num,rfl,oM,hid (G1.out.trans G0.out),G4,Gu⟩)
    case measure=>simp[Go.RowKit.intOf];omega
  ·obtain rfl:k=33:=oM
   have HT:=Gp.out;have h0:=HO.out;rw[List.take_of_length_le (by rw[G8.out];exact nL _)]at HT h0;have Gv:=hid (Gk.out.trans (H2.out.mono Gx.out));have GP:=hid (GO.out wr A1 q c1 Gv.out Gv.out.size (z0d.of_own h0) (fun ad ha=>by
    have h2:=w8y h0 ha;have h3:=Gk.out.size;omega))
   clear hlt HT h0;go_wp2_with (first
    |(go_at_call 52;refine GP.out.mono ?_;rintro e w6 h6;have GN:=hid h6;obtain⟨rfl,k',Z',q2,q3,q4⟩:=h6;have GH:=hid (GI.out w6 _ _ _ _ q2);clear q2 q3 q4)
    |(go_at_call 50;refine GH.out.mono ?_;rintro e w7⟨rfl,rfl⟩))
   go_ret;exact GN.out
end
end
section
open Go.RowKit Go.Maps
def RgW(B:Nat)(a:DA)(x:HA)(y:WA)(q gr T N st:Nat)(l:List (List Nat×Nat))(w:World):Prop:=∃cs f m S cur,RgS a 149 T 3 x y cs f N m B S cur q st l w/\Blk w gr 202 #[q]/\¬sfp S x gr/\B<=w
section
variable{B:Nat}{a:DA}{x:HA}{y:WA}{q gr T N st:Nat}{l:List (List Nat×Nat)}{w w':World}
theorem RgW.below(h:RgW B a x y q gr T N st l w)(hb:Blw w w'):RgW B a x y q gr T N st l w':=by
 obtain⟨cs,f,m,S,Ga,h1,h2,h3,h4⟩:=h;exact⟨cs,f,m,S,Ga,h1.below hb,h2.below hb h2.lt,h3,Nat.le_trans h4 hb.size⟩
theorem RgTo.rgW{cs f m S cur st' l'}(h1:RgS a 149 T 3 x y cs f N m B S cur q st l w)(h2:Blk w gr 202 #[q])(h3:¬sfp S x gr)(h4:B<=w)(h:RgTo a 149 T 3 x y cs f N m B S w q st' l' w'):RgW B a x y q gr (T+800) N st' l' w'/\Below B w w':=by
 obtain⟨S',Ga,g1,g2,g3⟩:=h;have hb:Below B w w':=g2.toBelow h4 (fun i hi=>x3k h1.bw.sd hi);refine⟨⟨cs,f,m,S',Ga,g1,g2.blk h2 h3,fun hz=>?_,Nat.le_trans h4 hb.size⟩,hb⟩;rcases hz with hz|hz
 ·rcases g3 _ hz with e|e
  ·exact h3 (.inl e)
  ·exact absurd h2.lt (Nat.not_lt.2 e)
 ·exact h3 (.inr hz)
theorem RgW.g3(h:RgW B a x y q gr T N st l w):w.cell? (y.g,3)=some (y.d,0):=by
 obtain⟨cs,f,m,S,Ga,h1,_⟩:=h;exact h1.bw.blk.cell 3
theorem RgW.ok(h:RgW B a x y q gr T N st l w):LOk st l:=by
 obtain⟨cs,f,m,S,Ga,h1,_⟩:=h;exact h1.ok
theorem RgW.rd(h:RgW B a x y q gr T N st l w):RdC (gr,0) (58,y.d,0) w (some (st,l),0)/\RgOk (some (st,l),0):=by
 obtain⟨cs,f,m,S,Ga,h1,h2,_⟩:=h;exact⟨h1.rd (by decide) h2,h1.rgOk⟩
theorem RgW.take_(h:RgW B a x y q gr T N st l w) nm (hs:nm.size<=9223372036854775807) (hT:T+800<=1000000000) (hN:N<=1000000000) :
  () 100 #[(gr,0),(58,y.d,0),.string nm] w fun e w'=>e=.returned (.tuple #[.int .u64 ((tkR nm (some (st,l),0)).1.1:Int),.int .i64 ((tkR nm (some (st,l),0)).1.2:Int)])/\RgW B a x y q gr (T+800) N st (tkL nm st l) w'/\Below B w w':=by
 obtain⟨cs,f,m,S,Ga,h1,h2,h3,h4⟩:=h;exact(h1.take_ (by decide) h2 nm hs hT hN).mono (fun e w' g=>⟨g.1,RgTo.rgW h1 h2 h3 h4 g.2⟩)
theorem RgW.next_(h:RgW B a x y q gr T N st l w):
  () 97 #[(gr,0),(58,y.d,0)] w (w3w w (if st=4611686018427387903 then (0,[])else (st+1,[(pOff q,st+1)]))):=by
 obtain⟨cs,f,m,S,Ga,h1,h2,h3,h4⟩:=h;exact h1.next_ (by decide) h2
theorem RgW.pubNext(h:RgW B a x y q gr T N st l w)(hs:st<4611686018427387903){g}(hg:Blk w g 117 #[(pOff q),(st+1:Nat)])(hT:T+800<=1000000000)(hN:N<=1000000000):
  () 99 #[(y.d,0),(g,0,1,1),((),()),((),())] w fun e w'=>e=.returned ()/\RgW B a x y q gr (T+800) N (st+1) l w'/\Below B w w':=by
 obtain⟨cs,f,m,S,Ga,h1,h2,h3,h4⟩:=h;exact(h1.pubNext (by decide) hs hg hT hN).mono (fun e w' g=>⟨g.1,RgTo.rgW h1 h2 h3 h4 g.2⟩)
theorem RgW.stamp(h:RgW B a x y q gr T N st l w):() 98 #[(gr,0),(58,y.d,0)] w fun e w'=>e=.returned st/\Blw w w':=x0i h.rd.1
theorem RgW.oldest(h:RgW B a x y q gr T N st l w):() 102 #[(gr,0),(58,y.d,0)] w fun e w'=>e=.returned (minL st l)/\Blw w w':=y4y h.rd.1 h.rd.2
theorem RgW.list(h:RgW B a x y q gr T N st l w):() 101 #[(gr,0),(58,y.d,0)] w (w8r w l):=y9n (fun {_ _ _ _ _ _} h hm=>y4v h hm) h.rd.1 h.rd.2 st l rfl
theorem y8l(ht:Tab w)(hpy:Pay w):() 29 #[] w fun e w'=>∃a x y q gr,e=.returned (.tuple #[(y.g,0),(gr,0)])/\RgW w a x y q gr 3000 10 0 [] w'/\Blw w w':=by
 refine(x1y ht hpy).mono (fun e w' h=>?_);obtain⟨a,T,x,y,cs,f,N,m,S,Ga,q,gr,he,h1,h2,h3,h4,h5,h6,h7⟩:=h;exact⟨a,x,y,q,gr,he,⟨cs,f,m,S,Ga,{ h1 with bw:=h1.bw.more h5 (by decide) h6 },h2,h3,h7.size⟩,h7⟩
end
end
section
open Go.RowKit Go.Maps
theorem tk_a:(tkR ⟨#[97]⟩ (some (1,[]),0)).1=(1,0)/\tkL ⟨#[97]⟩ 1 []=[([97],1)]:=by
 have e:tkR ⟨#[97]⟩ (some (1,[]),0)=((1,0),[([97],1)]):=by kernel_rfl
 refine⟨by rw[e],?_⟩;unfold tkL;rw[e];rfl
section
variable{w:World}
theorem x1x(ht:Tab w)(hpy:Pay w):() 28 #[] w fun e w'=>e=.returned true/\Blw w w':=by
 have Gn:=hid (y8l ht hpy);clear ht hpy;go_enter Tryz.func28,Tryz.ntmps28
 go_wp2_with (go_at_call 29;refine Gn.out.mono ?_;rintro e w1⟨a,x,y,q,gr,rfl,hw,hb⟩;have HW:=hid hw;have HB:=hid hb;clear hw hb;refine stop ?_)
 unfold Stop;have g3:=HW.out.g3;have Gs:Hid (() 97 #[(gr,0),(58,y.d,0)] w1 fun e w'=>(∃g:Nat,w1<=g/\e=.returned (.tuple #[.int .u64 1,(g,0,1,1)])/\Blk w' g 117 #[(pOff q),.int .u64 1])/\Blw w1 w'):=hid HW.out.next_;go_upto_region 5 with (go_at_call 97;refine Gs.out.mono ?_;rintro e w2⟨⟨gn,G7,rfl,G1⟩,hb2⟩;refine stop ?_)
 unfold Stop;have Gc:=hid (HW.out.below hb2);have Gi:=hid (HB.out.trans (hb2.mono HB.out.size));have Gu:=hid Gc.out.stamp;have Ga:=hid G1;clear G7 hb2 G1 g3 Gs Gn;have g3:=Gc.out.g3;go_upto_region 5 with fail
 have Gt:Hid (∀W,Blw w2 W->() 99 #[(y.d,0),(gn,0,1,1),((),()),((),())] W fun e w'=>e=.returned ()/\RgW w a x y q gr 3800 10 1 [] w'/\Below w W w'):=hid (fun W hW=>(Gc.out.below hW).pubNext (by decide) (Ga.out.below hW Ga.out.lt) (by decide) (by decide));have Gp:Hid (∀W,Blw w2 W->W.cell? (y.g,3)=some (y.d,0)/\W.cell? (gn,1)=some (.int .u64 1)):=hid (fun W hW=>⟨(Gc.out.below hW).g3,(Ga.out.below hW Ga.out.lt).cell 1⟩);go_upto_region 7 with (first
  |(go_at_call 98;refine Gu.out.mono ?_;rintro e w3⟨rfl,Gg⟩;have Gj:=hid Gg;obtain⟨g4,n4⟩:=Gp.out w3 Gg;clear Gg)
  |(go_at_call 99;refine(Gt.out w3 Gj.out).mono ?_;rintro e w4⟨rfl,G2,Gx⟩;have Gw:=hid G2;have G4:=hid ((Gi.out.trans (Gj.out.mono Gi.out.size)).trans Gx);clear G2 Gx))
 clear g3 g4 n4 Gu Gt Gp;have g3:=Gw.out.g3;have Gv:Hid (() 100 #[(gr,0),(58,y.d,0),.string ⟨#[97]⟩] w4 fun e w'=>e=.returned (.tuple #[.int .u64 1,()])/\RgW w a x y q gr 4600 10 1 [([97],1)] w'/\Below w w4 w'):=hid (by
  have h1:=Gw.out.take_ ⟨#[97]⟩ (by decide) (by decide) (by decide);rw[tk_a.1,tk_a.2]at h1;exact h1)
 go_upto_region 8 with (go_at_call 100;refine Gv.out.mono ?_;rintro e w5⟨rfl,G3,Gy⟩;have Gf:=hid G3;have Gk:=hid (G4.out.trans Gy);clear G3 Gy)
 clear g3 Gv;have g3:=Gf.out.g3;have Gr:Hid (() 101 #[(gr,0),(58,y.d,0)] w5 fun e w'=>(∃gl c:Nat,e=.returned (gl,0,1,c)/\w'.cell? (gl,0)=some (.string ⟨#[97]⟩)/\w'.cell? (gl,1)=some (.int .u64 1)/\gl<w')/\Blw w5 w'):=hid (Gf.out.list.mono (fun e w' h=>by
  obtain⟨A,m,c,l',he,hs,ho,hb⟩:=h;have hl:l'=[([97],1)]:=List.perm_singleton.1 hs.perm;subst hl;have hm:m=1:=by
   have h1:=ho.1;have h2:(z0b [([97],1)]).length=2:=rfl;omega
  subst hm;rcases ho.2 with ⟨_,h0⟩|⟨gl,cap,cu,h1,h2,h3,_⟩
  ·cases h0
  ·have h4:=h1
   injection h4 with h5 h6 h7
   subst h5;refine⟨⟨gl,c,he,?_,?_,?_⟩,hb⟩
   ·obtain⟨b,G8,hA,_,hc⟩:=(z0d.of_own ho).plain (by decide) (by decide)
    cases hA;exact hc 0 _ rfl
   ·obtain⟨b,G8,hA,_,hc⟩:=(z0d.of_own ho).plain (by decide) (by decide)
    cases hA;exact hc 1 _ rfl
   ·rcases Nat.lt_or_ge gl w' with h|h
    ·exact h
    ·rw[Array.getElem?_eq_none h]at h3
     cases h3))
 go_upto_region 9 with (go_at_call 101;refine Gr.out.mono ?_;rintro e w6⟨⟨gl,c,rfl,l0,l1,G0⟩,hb6⟩;have Gb:=hid (And.intro l0 (And.intro l1 G0));have Gd:=hid (Gf.out.below hb6);have Gl:=hid (Gk.out.trans (hb6.mono Gk.out.size));clear l0 l1 G0 hb6)
 clear g3 Gr;have g3:=Gd.out.g3;have G6:=hid Gd.out.stamp;have G5:Hid (∀W,Blw w6 W->() 102 #[(gr,0),(58,y.d,0)] W fun e w'=>e=.returned (.int .u64 1)/\Blw W w'):=hid (fun W hW=>(Gd.out.below hW).oldest);have Gq:Hid (∀W,Blw w6 W->W.cell? (y.g,3)=some (y.d,0)/\W.cell? (gl,0)=some (.string ⟨#[97]⟩)/\W.cell? (gl,1)=some (.int .u64 1)):=hid (fun W hW=>⟨(Gd.out.below hW).g3,(hW.cell (p:=⟨gl,0,none⟩) Gb.out.2.2).trans Gb.out.1,(hW.cell (p:=⟨gl,1,none⟩) Gb.out.2.2).trans Gb.out.2.1⟩);go_wp2_with (first
  |(go_at_call 98;refine G6.out.mono ?_;rintro e w7⟨rfl,Gh⟩;have Ge:=hid Gh;obtain⟨c3,c4,c5⟩:=Gq.out w7 Gh;clear Gh)
  |(go_at_call 102;refine(G5.out w7 Ge.out).mono ?_;rintro e w8⟨rfl,Gz⟩;have Gm:=hid (Ge.out.trans (Gz.mono Ge.out.size));obtain⟨c6,c7,c8⟩:=Gq.out w8 Gm.out;clear Gz))
 go_ret;exact⟨rfl,Gl.out.trans (Gm.out.mono Gl.out.size)⟩
end
end
section
open Go.RowKit Go.Maps
theorem w1z{l l' m}(h:l'.Perm l):minL m l'=minL m l:=by
 unfold minL;refine h.foldl_eq' (fun x _ y _ z=>?_) m;show min (min z x.2) y.2=min (min z y.2) x.2;rw[Nat.min_assoc,Nat.min_comm x.2,<- Nat.min_assoc]
def z6d(l:List (Nat×ByteArray)):List Value:=l.flatMap fun p=>[[[p.1]],.string p.2]
theorem x1t(l:List (Nat×ByteArray)):(z6d l).length=l.length*2:=by
 induction l with
 |nil=>rfl
 |cons p t ih =>
  simp only[z6d,List.flatMap_cons,List.length_append,List.length_cons,List.length_nil]at ih⊢;omega
theorem z9e:∀(l:List (Nat×ByteArray))(k j:Nat)(hk:k<l.length),j<2->(z6d l)[k*2+j]?=[Value.int .u8 ((l[k]).1:Int),.string (l[k]).2][j]?
 |p::l,0,j,_,hj=>by
  show([Value.int .u8 p.1,.string p.2]++z6d l)[0*2+j]?=_;rw[Nat.zero_mul,Nat.zero_add,List.getElem?_append_left (show j<2 from hj)];rfl
 |p::l,k+1,j,hk,hj=>by
  have hk':k<l.length:=by simpa using hk
  have ih:=z9e l k j hk' hj;show([Value.int .u8 p.1,.string p.2]++z6d l)[(k+1)*2+j]?=_;rw[List.getElem?_append_right (show(2:Nat)<=(k+1)*2+j by omega)];show(z6d l)[(k+1)*2+j-2]?=_;rw[show(k+1)*2+j-2=k*2+j by omega];exact ih
theorem x4d{w B n A l}(h:z0d w B 2 A n (z6d l)){k}(hk:k<n):
  ∃(hl:k<l.length)(b off:Nat),A=some (b,off)/\b<B/\w.cell? (b,off+k*2)=some (.int .u8 ((l[k]).1:Int))/\w.cell? (b,off+k*2+1)=some (.string (l[k]).2):=by
 have hl:k<l.length:=by have:=h.1;rw[x1t]at this;omega
 obtain⟨b,off,hA,hb,hc⟩:=h.plain oM oM;exact⟨hl,b,off,hA,hb,hc (k*2) _ (z9e l k 0 hl oM),hc (k*2+1) _ (z9e l k 1 hl oM)⟩
structure x8w(w:World)(A:Option Addr)(n c:Nat)(l:List (Nat×ByteArray)):Prop where
 rd:z0d w w 2 A n (z6d l)
 cap:n<=c/\c<=9223372036854775807
 each:∀p∈l,p.1<256/\p.2.size<=9223372036854775807
def RgX(B:Nat)(bs:List Nat)(a:DA)(x:HA)(y:WA)(q gr T N st:Nat)(l:List (List Nat×Nat))(w:World):Prop:=∃cs f m S cur,RgS a 149 T 3 x y cs f N m B S cur q st l w/\Blk w gr 202 #[q]/\¬sfp S x gr/\B<=w/\∀g∈bs,g<w/\¬sfp S x g
def z1i(bs:List Nat)(w w':World):Prop:=∀g∈bs,w'.heap[g]?=w.heap[g]?
section
variable{B:Nat}{bs:List Nat}{a:DA}{x:HA}{y:WA}{q gr T N st:Nat}{l:List (List Nat×Nat)}{w w':World}
theorem RgX.rgW(h:RgX B bs a x y q gr T N st l w):RgW B a x y q gr T N st l w:=by
 obtain⟨cs,f,m,S,Ga,h1,h2,h3,h4,_⟩:=h;exact⟨cs,f,m,S,Ga,h1,h2,h3,h4⟩
theorem RgW.rgX(h:RgW B a x y q gr T N st l w):RgX B [] a x y q gr T N st l w:=by
 obtain⟨cs,f,m,S,Ga,h1,h2,h3,h4⟩:=h;exact⟨cs,f,m,S,Ga,h1,h2,h3,h4,fun g hg=>absurd hg (by simp)⟩
theorem RgX.below(h:RgX B bs a x y q gr T N st l w)(hb:Blw w w'):RgX B bs a x y q gr T N st l w':=by
 obtain⟨cs,f,m,S,Ga,h1,h2,h3,h4,h5⟩:=h;exact⟨cs,f,m,S,Ga,h1.below hb,h2.below hb h2.lt,h3,Nat.le_trans h4 hb.size,fun g hg=>⟨Nat.lt_of_lt_of_le (h5 g hg).1 hb.size,(h5 g hg).2⟩⟩
theorem RgW.size(h:RgW B a x y q gr T N st l w):B<=w:=by
 obtain⟨cs,f,m,S,Ga,h1,h2,h3,h4⟩:=h;exact h4
theorem RgX.more{T'}(h:RgX B bs a x y q gr T N st l w)(hT:T<=T')(hT':T'<=1000000000):RgX B bs a x y q gr T' N st l w:=by
 obtain⟨cs,f,m,S,Ga,h1,h2,h3,h4,h5⟩:=h;exact⟨cs,f,m,S,Ga,{ h1 with bw:=h1.bw.more hT hT' (nL _) },h2,h3,h4,h5⟩
theorem RgTo.rgX{cs f m S cur st' l'}(h1:RgS a 149 T 3 x y cs f N m B S cur q st l w)(h2:Blk w gr 202 #[q])(h3:¬sfp S x gr)(h4:B<=w.heap.size)(h5:∀g∈bs,g<w.heap.size/\¬sfp S x g)(h:RgTo a 149 T 3 x y cs f N m B S w q st' l' w'):RgX B bs a x y q gr (T+800) N st' l' w'/\Below B w w'/\z1i bs w w':=by
 obtain⟨S',Ga,g1,g2,g3⟩:=h;have hb:Below B w w':=g2.toBelow h4 (fun i hi=>x3k h1.bw.sd hi);have Gb:∀g,g<w.heap.size->¬sfp S x g->¬sfp S' x g:=fun g hg hz hz'=>by
  rcases hz' with hz'|hz'
  ·rcases g3 _ hz' with e|e
   ·exact hz (.inl e)
   ·exact absurd hg (Nat.not_lt.2 e)
  ·exact hz (.inr hz')
 refine⟨⟨cs,f,m,S',Ga,g1,g2.blk h2 h3,Gb gr h2.lt h3,Nat.le_trans h4 hb.size,fun g hg=>⟨Nat.lt_of_lt_of_le (h5 g hg).1 hb.size,Gb g (h5 g hg).1 (h5 g hg).2⟩⟩,hb,fun g hg=>?_⟩;exact g2.block g (h5 g hg).1 (h5 g hg).2
theorem RgX.take_(h:RgX B bs a x y q gr T N st l w) nm (hs:nm.size<=9223372036854775807) (hT:T+800<=1000000000) (hN:N<=1000000000) :
  () 100 #[(gr,0),(58,y.d,0),.string nm] w fun e w'=>e=.returned (.tuple #[.int .u64 ((tkR nm (some (st,l),0)).1.1:Int),.int .i64 ((tkR nm (some (st,l),0)).1.2:Int)])/\RgX B bs a x y q gr (T+800) N st (tkL nm st l) w'/\Below B w w'/\z1i bs w w':=by
 obtain⟨cs,f,m,S,Ga,h1,h2,h3,h4,h5⟩:=h;exact(h1.take_ (by decide) h2 nm hs hT hN).mono (fun e w' g=>⟨g.1,RgTo.rgX h1 h2 h3 h4 h5 g.2⟩)
theorem RgX.drop_(h:RgX B bs a x y q gr T N st l w) nm (hT:T+800<=1000000000) (hN:N<=1000000000) :
  () 106 #[(gr,0),(58,y.d,0),.string nm] w fun e w'=>e=.returned (.int .i64 ((drpR nm (some (st,l),0)).1:Int))/\RgX B bs a x y q gr (T+800) N st (dpL nm st l) w'/\Below B w w'/\z1i bs w w':=by
 obtain⟨cs,f,m,S,Ga,h1,h2,h3,h4,h5⟩:=h;exact(h1.drop_ (by decide) h2 nm hT hN).mono (fun e w' g=>⟨g.1,RgTo.rgX h1 h2 h3 h4 h5 g.2⟩)
theorem RgX.pubNext(h:RgX B bs a x y q gr T N st l w)(hs:st<4611686018427387903){g}(hg:Blk w g 117 #[(pOff q),(st+1:Nat)])(hT:T+800<=1000000000)(hN:N<=1000000000):
  () 99 #[(y.d,0),(g,0,1,1),((),()),((),())] w fun e w'=>e=.returned ()/\RgX B bs a x y q gr (T+800) N (st+1) l w'/\Below B w w'/\z1i bs w w':=by
 obtain⟨cs,f,m,S,Ga,h1,h2,h3,h4,h5⟩:=h;exact(h1.pubNext (by decide) hs hg hT hN).mono (fun e w' g=>⟨g.1,RgTo.rgX h1 h2 h3 h4 h5 g.2⟩)
end
end
section
open Go.ChangeShapes Go.WideShapes Go.ChangeAt Go.RowKit
theorem w0f:Tryz.prog.cellsOf 9=1:=by kernel_rfl
theorem x4h:Tryz.prog.cellsOf 79=2:=by kernel_rfl
def v2t(p:Nat×ByteArray):Prop:=p.1<256/\p.2.size<=9223372036854775807
def w9c(p:Nat×ByteArray):List Value:=[.int .u8 p.1,.string p.2]
section
variable{H:Type}{enc:TypeId×Value->H}{w:World}{base:Nat}{sp:Nat->Bool}{held:Bool}{fuel:Nat}{x:DataW H×List MemPlace}
theorem w6i{cs:List Value}(h:DataW.trod enc Tryz.prog w base sp held fuel 79 cs=some x):∃p:Nat×ByteArray,cs=w9c p/\v2t p:=by
 obtain⟨xs,n,_,_,Ga,Gd,hf⟩:=DataW.trod_struct Tryz.underlying79 h;have Ge:xs.length=2:=Gd;have Gb:∀j,j<2->∃y,xs[j]?=some y:=fun j hj=>⟨xs[j],List.getElem?_eq_getElem oM⟩
 obtain⟨y0,e0⟩:=Gb 0 oM;obtain⟨y1,e1⟩:=Gb 1 oM;obtain⟨a0,c0,_,b0⟩:=DataW.trod_int Tryz.underlying5 ((hf 0 _ rfl).trans e0);obtain⟨s1,c1,_,b1⟩:=DataW.trod_string Tryz.underlying9 ((hf 1 _ rfl).trans e1);change (cs.drop 0).take (Tryz.prog.cellsOf 5)=_ at c0;change (cs.drop 1).take (Tryz.prog.cellsOf 9)=_ at c1;rw[w9k]at c0;rw[w0f]at c1;obtain⟨k0,rfl,l0⟩:=v4q b0;have Gc:cs.length=2:=Ga.trans x4h;exact⟨(k0,s1),x8c Gc (w8g c0) (w8g c1),l0,b1⟩
end
def v1s(w:World)(v:Value):Prop:=∃(A:Option Addr)(n c:Nat)(l:List (Nat×ByteArray)),v=.slice A n c/\x8w w A n c l
section
variable{H:Type}{enc:TypeId×Value->H}{W:World}{b0 base:Nat}{sp:Nat->Bool}{held:Bool}{v:Value}{d:DataW H}{p:List MemPlace}{r:Reach}
theorem x9v(hv:Value.okWide Tryz.prog W r b0 77 v)(h:DataW.Trod enc Tryz.prog W base sp held 77 v d p):v1s W v:=by
 obtain⟨Ga,hf⟩:=h;obtain⟨a0,n0,k0,rfl⟩:=okWide_slice Tryz.underlying77 hv;have Gc:(Value.slice a0 n0 k0).cells.toList=[.slice a0 n0 k0]:=rfl;rw[Gc]at hf;rcases Go.Deep.open_slice Tryz.underlying77 hf with ⟨hcs,_⟩|⟨a,len,cap,m,n,D,Pl,hcs,hb,hl,hm,hmm,hx,hi⟩
 ·obtain hcs:Value.slice a0 n0 k0=.slice none 0 0:=by simpa using hcs
  rw[hcs];exact⟨none,0,0,[],rfl,⟨rfl,fun h=>absurd h oM⟩,⟨nL _,Nat.zero_le _⟩,fun _ h=>by cases h⟩
 ·obtain hcs:Value.slice a0 n0 k0=.slice (some a) len cap:=by simpa using hcs
  rw[hcs];have Gh:len<=m:=by rw[hmm];split<;>omega
  obtain⟨l,h1,h2,h3,h4⟩:=y3a w9c 2 oM (fun _=>rfl) W a v2t len (fun i hil=>by
   obtain⟨Gf,hc,Ge⟩:=hi i oM;rw[x4h]at hc;obtain⟨e,rfl,ho⟩:=w6i Ge;obtain⟨_,Gg,Gb⟩:=World.cells?_some hc;exact⟨e,ho,fun j hj=>by rw[<- Go.Deep.add_add];exact Gb j hj⟩)
  refine⟨some a,len,cap,l,rfl,⟨h3,fun hpos=>⟨a,rfl,?_,h4⟩⟩,⟨hl,hm⟩,h2⟩;have Gd:0<(l.flatMap w9c).length:=by rw[h3];omega
  have:=World.block_lt_of_cell? _ _ (h4 0 _ (List.getElem?_eq_getElem Gd));rw[z2f]at this;exact this
end
end
section
open Go.RowKit Go.Maps
structure RlIn(bs:List Nat)(A:Option Addr)(n c:Nat)(rl:List (List Nat×Nat))(w:World):Prop where
 cap:n<=c/\c<=9223372036854775807
 rd:z0d w w 2 A n (z0b rl)
 at_:∀ad,A=some ad->ad.block∈bs
theorem RlIn.len{bs A n c rl w}(h:RlIn bs A n c rl w):rl.length=n:=by
 have:=h.rd.1;rw[z0q]at this;omega
theorem x8f{w w' bs A n k xs}(h:z0d w w k A n xs)(hat:∀ad,A=some ad->ad.block∈bs)(hk:z1i bs w w')(hs:w.heap.size<=w'.heap.size):z0d w' w' k A n xs:=by
 refine⟨h.1,fun hn=>?_⟩;obtain⟨ad,hA,hb,hc⟩:=h.2 hn;refine⟨ad,hA,Nat.lt_of_lt_of_le hb hs,fun j u hu=>?_⟩;have h1:=hc j u hu;rw[<- h1];exact World.cell?_of_block (by
  rw[z2f];exact hk _ (hat ad hA))
theorem RlIn.kept{w w' bs A n c rl}(h:RlIn bs A n c rl w)(hk:z1i bs w w')(hs:w.heap.size<=w'.heap.size):RlIn bs A n c rl w':=⟨h.cap,x8f h.rd h.at_ hk hs,h.at_⟩
theorem RlIn.below{w w' bs A n c rl}(h:RlIn bs A n c rl w)(hb:Blw w w'):RlIn bs A n c rl w':=⟨h.cap,(h.rd.below hb).more hb.size,h.at_⟩
theorem RlIn.more{w bs bs' A n c rl}(h:RlIn bs A n c rl w)(hs:∀g∈bs,g∈bs'):RlIn bs' A n c rl w:=⟨h.cap,h.rd,fun ad hA=>hs _ (h.at_ ad hA)⟩
theorem RlIn.nil bs w:RlIn bs none 0 0 [] w:=⟨⟨nL _,by decide⟩,z0d.none_,fun ad h=>by cases h⟩
theorem z1i.trans{bs w w' w''}(h:z1i bs w w')(h':z1i bs w' w''):z1i bs w w'':=fun g hg=>(h' g hg).trans (h g hg)
theorem z1i.less{bs bs' w w'}(h:z1i bs' w w')(hs:∀g∈bs,g∈bs'):z1i bs w w':=fun g hg=>h g (hs g hg)
theorem z1i.of_below{bs w w'}(hb:Blw w w')(hs:∀g∈bs,g<w.heap.size):z1i bs w w':=fun g hg=>hb.block g (hs g hg)
theorem z1i.blk{bs w w'}(h:z1i bs w w'){g}{t:TypeId}{cs}(hB:Blk w g t cs)(hg:g∈bs):Blk w' g t cs:=(h g hg).trans hB
section
variable{B:Nat}{bs:List Nat}{a:DA}{x:HA}{y:WA}{q gr T N st:Nat}{l rl:List (List Nat×Nat)}{w w':World}
theorem RgX.lts(h:RgX B bs a x y q gr T N st l w):∀g∈bs,g<w:=by
 obtain⟨cs,f,m,S,Ga,h1,h2,h3,h4,h5⟩:=h;exact fun g hg=>(h5 g hg).1
theorem RgX.sub(h:RgX B bs a x y q gr T N st l w){bs'}(hs:∀g∈bs',g∈bs):RgX B bs' a x y q gr T N st l w:=by
 obtain⟨cs,f,m,S,Ga,h1,h2,h3,h4,h5⟩:=h;exact⟨cs,f,m,S,Ga,h1,h2,h3,h4,fun g hg=>h5 g (hs g hg)⟩
theorem RgX.news(h:RgX B bs a x y q gr T N st l w)(hb:Blw w w'):∀(gs:List Nat),(∀g∈gs,w.heap.size<=g/\g<w'.heap.size)->RgX B (gs++bs) a x y q gr T N st l w'
 |[],_=>h.below hb
 |g::gs,hg=>by
  obtain⟨g1,g2⟩:=hg g (by simp);obtain⟨cs,f,m,S,Gb,e1,e2,e3,e4,e5⟩:=h;refine⟨cs,f,m,S,Gb,e1.below hb,e2.below hb e2.lt,e3,Nat.le_trans e4 hb.size,fun g' hg2=>?_⟩;have Ga:∀z,w.heap.size<=z->¬sfp S x z:=fun z hz hz'=>by
   have:=w8j e1.bw.sd hz';omega
  rcases List.mem_cons.1 hg2 with rfl|hg2
  ·exact⟨g2,Ga _ g1⟩
  ·rcases List.mem_append.1 hg2 with hg2|hg2
   ·obtain⟨q1,q2⟩:=hg g' (List.mem_cons_of_mem _ hg2)
    exact⟨q2,Ga _ q1⟩
   ·exact⟨Nat.lt_of_lt_of_le (e5 g' hg2).1 hb.size,(e5 g' hg2).2⟩
end
end
section
open Go.RowKit Go.Maps
theorem x2a:∀a b:List UInt8,Lib.compareBytes b a= -Lib.compareBytes a b
 |[],[]=>rfl
 |[],_::_=>rfl
 |_::_,[]=>rfl
 |x::a,y::b=>by
  have ih:=x2a a b;rw[z7o,z7o];split<;>(try split)<;>(try split)<;>omega
theorem y2x(x y:List Nat×Nat):nmCf y x= -nmCf x y:=x2a _ _
theorem w2a{x y}(h:nmCf x y=0):nmS x=nmS y:=ByteArray.ext (Array.toList_inj.1 (w9i _ _ h))
structure RLk(l rl:List (List Nat×Nat)):Prop where
 perm:rl.Perm l
 up:rl.Pairwise (fun x y=>nmCf x y<0)
theorem RLk.nil:RLk [] []:=⟨List.Perm.refl _,List.Pairwise.nil⟩
theorem x0p:∀(a b:List (List Nat×Nat)),a.Perm b->a.Pairwise (fun x y=>nmCf x y<0)->b.Pairwise (fun x y=>nmCf x y<0)->a=b
 |[],b,h,_,_=>(List.nil_perm.1 h).symm
 |x::a,[],h,_,_=>absurd h.length_eq (by simp)
 |x::a,y::b,h,h1,h2=>by
  rw[List.pairwise_cons]at h1 h2;have e:x=y:=by
   have hx:x∈y::b:=h.mem_iff.1 (by simp);have hy:y∈x::a:=h.mem_iff.2 (by simp);rcases List.mem_cons.1 hx with e|hx
   ·exact e
   ·rcases List.mem_cons.1 hy with e|hy
    ·exact e.symm
    ·have g1:=h1.1 y hy
     have g2:=h2.1 x hx;have g3:=y2x x y;omega
  subst e;rw[x0p a b ((List.perm_cons x).1 h) h1.2 h2.2]
theorem w8f{l:List (List Nat×Nat)}(h:(l.map nmS).Nodup){p q:List Nat×Nat}(hp:p∈l)(hq:q∈l)(he:nmS p=nmS q):p=q:=by
 induction l with
 |nil=>cases hp
 |cons x t ih =>
  rw[List.map_cons,List.nodup_cons]at h;rcases List.mem_cons.1 hp with e1|h1
  ·rcases List.mem_cons.1 hq with e2|h2
   ·rw[e1,e2]
   ·exact absurd (show nmS x∈t.map nmS by rw[<- e1,he];exact List.mem_map_of_mem h2) h.1
  ·rcases List.mem_cons.1 hq with e2|h2
   ·exact absurd (show nmS x∈t.map nmS by rw[<- e2,<- he];exact List.mem_map_of_mem h1) h.1
   ·exact ih h.2 h1 h2
theorem y0b.eq{l l' rl}(h:y0b l l')(hn:(l.map nmS).Nodup)(hr:RLk l rl):l'=rl:=by
 refine x0p l' rl (h.perm.trans hr.perm.symm) ?_ hr.up;rw[List.pairwise_iff_getElem];intro i j hi hj hij;have h1:=h.up i j hi hj hij;have h2:=y2x l'[j] l'[i];have Ga:(l'.map nmS).Nodup:=(h.perm.map nmS).nodup_iff.2 hn;have h3:nmCf l'[i] l'[j]≠0:=fun h0=>by
  have e:=w2a h0;have e2:(l'.map nmS)[i]'(by simpa using hi)=(l'.map nmS)[j]'(by simpa using hj):=by
   rw[List.getElem_map,List.getElem_map];exact e
  exact List.pairwise_iff_getElem.1 Ga i j (by simpa using hi) (by simpa using hj) hij e2
 omega
theorem RLk.fnd{l rl}(h:RLk l rl) s:fndS s 0 rl<0↔fndS s 0 l<0:=by
 rw[z5i,z5i,(h.perm.map nmS).mem_iff]
theorem RLk.at_{l rl:List (List Nat×Nat)}(h:RLk l rl)(hn:(l.map nmS).Nodup){s:ByteArray}(hf:¬fndS s 0 l<0):∃j i,∃(hj:j<l.length)(hi:i<rl.length),fndS s 0 l=(j:Int)/\fndS s 0 rl=(i:Int)/\l[j]=rl[i]/\nmS l[j]=s:=by
 obtain⟨j,hj,h1,h2⟩:=y6m s l 0 hf;obtain⟨i,hi,h3,h4⟩:=y6m s rl 0 (fun hx=>hf ((h.fnd s).1 hx));rw[Nat.zero_add]at h1 h3;exact⟨j,i,hj,hi,h1,h3,w8f hn (List.getElem_mem hj) (h.perm.mem_iff.1 (List.getElem_mem hi)) (h2.trans h4.symm),h2⟩
def insN(p:List Nat×Nat):List (List Nat×Nat)->List (List Nat×Nat)
 |[]=>[p]
 |x::t=>if nmCf p x<0 then p::x::t else x::insN p t
def rfT(s:ByteArray)(st:Nat)(rl:List (List Nat×Nat)):List (List Nat×Nat)×Nat:=if nmOk s=false then (rl,15)else if 0<=fndS s 0 rl then (rl,6)else if rl.length=8 then (rl,4)else (insN (z1d s,st) rl,0)
def rfD(s:ByteArray)(rl:List (List Nat×Nat)):List (List Nat×Nat)×Nat:=if fndS s 0 rl<0 then (rl,5)else (rl.eraseIdx (fndS s 0 rl).toNat,0)
def rfG(s:ByteArray)(rl:List (List Nat×Nat)):Nat×Nat:=if fndS s 0 rl<0 then (0,5)else ((rl.getD (fndS s 0 rl).toNat ([],0)).2,0)
theorem z8s(p:List Nat×Nat):∀rl,(insN p rl).Perm (p::rl)
 |[]=>List.Perm.refl _
 |x::t=>by
  unfold insN;split
  ·exact List.Perm.refl _
  ·exact((z8s p t).cons x).trans (List.Perm.swap p x t)
theorem w1i(p:List Nat×Nat):∀rl:List (List Nat×Nat),rl.Pairwise (fun x y=>nmCf x y<0)->nmS p∉rl.map nmS->(insN p rl).Pairwise (fun x y=>nmCf x y<0)
 |[],_,_=>List.pairwise_singleton _ _
 |x::t,h,hn=>by
  rw[List.map_cons,List.mem_cons]at hn;have h0:=h;rw[List.pairwise_cons]at h;unfold insN;split
  ·rename_i hc
   rw[List.pairwise_cons];refine⟨fun y hy=>?_,h0⟩;rcases List.mem_cons.1 hy with rfl|hy
   ·exact hc
   ·exact y6e _ _ _ hc (h.1 y hy)
  ·rename_i hc
   rw[List.pairwise_cons];refine⟨fun y hy=>?_,w1i p t h.2 (fun hx=>hn (.inr hx))⟩;rcases List.mem_cons.1 ((z8s p t).mem_iff.1 hy)with rfl|hy
   ·have h1:=y2x y x
    have h2:nmCf y x≠0:=fun h0=>hn (.inl (w2a h0))
    omega
   ·exact h.1 y hy
section
variable{st:Nat}{l rl:List (List Nat×Nat)}
theorem RLk.take(h:RLk l rl) s:(tkR s (some (st,l),0)).1=(if (rfT s st rl).2=0 then st else 0,(rfT s st rl).2)/\RLk (tkL s st l) (rfT s st rl).1:=by
 have hl:=h.perm.length_eq;have Gb:=h.fnd s;have ht:tkR s (some (st,l),0)=if nmOk s=false then ((0,15),[])else if 0<=fndS s 0 l then ((0,6),[])else if l.length=8 then ((0,4),[])else ((st,0),l++[(z1d s,st)]):=rfl
 have hr:rfT s st rl=if nmOk s=false then (rl,15)else if 0<=fndS s 0 rl then (rl,6)else if rl.length=8 then (rl,4)else (insN (z1d s,st) rl,0):=rfl
 unfold tkL;by_cases h1:nmOk s=false
 ·rw[if_pos h1]at ht hr
  rw[ht,hr];exact⟨rfl,h⟩
 rw[if_neg h1]at ht hr;by_cases h2:0<=fndS s 0 l
 ·rw[if_pos h2]at ht
  rw[if_pos (show 0<=fndS s 0 rl by omega)]at hr;rw[ht,hr];exact⟨rfl,h⟩
 rw[if_neg h2]at ht;rw[if_neg (show ¬0<=fndS s 0 rl by omega)]at hr;by_cases h3:l.length=8
 ·rw[if_pos h3]at ht
  rw[if_pos (show rl.length=8 by omega)]at hr;rw[ht,hr];exact⟨rfl,h⟩
 rw[if_neg h3]at ht;rw[if_neg (show ¬rl.length=8 by omega)]at hr;rw[ht,hr];refine⟨rfl,?_⟩;show RLk (l++[(z1d s,st)]) (insN (z1d s,st) rl);have Ga:fndS s 0 rl<0:=oM;rw[z5i]at Ga;refine⟨((z8s _ rl).trans (h.perm.cons _)).trans (List.perm_append_comm (l₁:=[(z1d s,st)]) (l₂:=l)),w1i _ _ h.up ?_⟩;show strN (z1d s)∉_;rw[z5o];exact Ga
theorem RLk.drop(h:RLk l rl)(hn:(l.map nmS).Nodup) s:(drpR s (some (st,l),0)).1=(rfD s rl).2/\RLk (dpL s st l) (rfD s rl).1:=by
 have Ga:=h.fnd s;have e:drpR s (some (st,l),0)=if fndS s 0 l<0 then (5,[])else (0,z3i s l):=rfl
 unfold dpL rfD;rw[e];by_cases h1:fndS s 0 l<0
 ·rw[if_pos h1,if_pos (Ga.2 h1)]
  exact⟨rfl,h⟩
 ·rw[if_neg h1,if_neg (fun hx=>h1 (Ga.1 hx))]
  refine⟨rfl,?_⟩;show RLk (z3i s l) (rl.eraseIdx (fndS s 0 rl).toNat);obtain⟨j,i,hj,hi,g1,g2,g3,_⟩:=h.at_ hn h1;rw[g2,Int.toNat_natCast];have p1:=y4j hj g1;have p2:(rl[i]::rl.eraseIdx i).Perm rl:=by
   have e3:rl.take i++rl[i]::rl.drop (i+1)=rl:=by rw[List.getElem_cons_drop,List.take_append_drop]
   rw[List.eraseIdx_eq_take_drop_succ];refine(List.perm_middle.symm).trans ?_;rw[e3]
  rw[g3]at p1;exact⟨(List.perm_cons _).1 ((p2.trans h.perm).trans p1.symm),h.up.sublist (List.eraseIdx_sublist _ _)⟩
theorem RLk.get(h:RLk l rl)(hn:(l.map nmS).Nodup) s:getR s (some (st,l),0)=rfG s rl:=by
 have Ga:=h.fnd s;have e:getR s (some (st,l),0)=if fndS s 0 l<0 then (0,5)else ((l.getD (fndS s 0 l).toNat ([],0)).2,0):=rfl
 rw[e];unfold rfG;by_cases h1:fndS s 0 l<0
 ·rw[if_pos h1,if_pos (Ga.2 h1)]
 ·rw[if_neg h1,if_neg (fun hx=>h1 (Ga.1 hx))]
  obtain⟨j,i,hj,hi,g1,g2,g3,_⟩:=h.at_ hn h1;rw[g1,g2,Int.toNat_natCast,Int.toNat_natCast,List.getD_eq_getElem?_getD,List.getD_eq_getElem?_getD,List.getElem?_eq_getElem hj,List.getElem?_eq_getElem hi,g3]
theorem RLk.min_(h:RLk l rl) m:minL m rl=minL m l:=w1z h.perm
end
end
section
open Go.RowKit Go.Maps
structure YQOk(c:YCX)(q:Nat):Prop where
 ne:q≠0
 lt:q<18446744073709551616
 top:q/72057594037927936=0
 al:pOff q%8=0
 inl:pOff q+272<=64*c.L
 le:pOff q<=900000
 gd:∀j,j<34->z3q c (pOff q+8*j)
 chk:chkR c.s c.K c.cs q 8=0
 pay:∀j,j<34->∀k,k<c.K->8*(c.s+32*k)<=pOff q/8+j->pOff q/8+j<8*(c.s+32*k)+256->(c.cs k).dv=true/\¬z8q (c.s+32*k) (c.cs k).cl (pOff q/8+j)
def y5s(q:Nat):List Nat:=(List.range 34).map fun j=>pOff q+8*j
theorem z6b{q o}:o∈y5s q↔∃j,j<34/\o=pOff q+8*j:=by
 unfold y5s;rw[List.mem_map];constructor
 ·rintro⟨j,hj,rfl⟩;exact⟨j,List.mem_range.1 hj,rfl⟩
 ·rintro⟨j,hj,rfl⟩;exact⟨j,List.mem_range.2 hj,rfl⟩
theorem w4g(cur:Nat->Nat){us}(hn:(us.map (·.1)).Nodup)(h8:∀e∈us,e.1%8=0) i:wrS cur (flW cur us) i=wrS cur us i:=by
 by_cases h:∃e∈us,e.1/8=i
 ·obtain⟨e,he,hi⟩:=h
  have h1:=z5s us cur hn h8 e he;rw[hi]at h1;rw[h1];by_cases hc:cur (e.1/8)=e.2
  ·rw[z1s _ _ _ (fun x hx hxi=>?_),<- hi,hc]
   obtain⟨Gb,Gc⟩:=List.mem_filter.1 hx;have Ge:x.1=e.1:=by have:=h8 x Gb;have:=h8 e he;omega
   have Gf:x=e:=by
    obtain⟨a,ha,rfl⟩:=List.getElem_of_mem Gb;obtain⟨b,hb,rfl⟩:=List.getElem_of_mem he;have Gd:a=b:=(List.getElem_inj (h₀:=by simpa using ha) (h₁:=by simpa using hb) hn).1 (by simpa using Ge);subst Gd;rfl
   subst Gf;simp only[decide_eq_true_eq]at Gc;exact Gc hc
  ·have hm:e∈flW cur us:=List.mem_filter.2 ⟨he,by simpa using hc⟩
   have h2:=z5s (flW cur us) cur (List.Nodup.sublist (List.Sublist.map _ List.filter_sublist) hn) (fun x hx=>h8 x (List.mem_filter.1 hx).1) e hm;rw[hi]at h2;exact h2
 ·have Ga:∀e∈us,e.1/8≠i:=fun e he hi=>h ⟨e,he,hi⟩
  rw[z1s us _ _ Ga];exact z1s (flW cur us) _ _ (fun e he=>Ga e (List.mem_filter.1 he).1)
theorem x3z o xs:((plOf o xs).map (·.1)).Nodup:=by
 unfold plOf;rw[List.map_map];exact(List.nodup_range (n:=33)).map _ (fun a b hab h2=>hab (by
  have h3:o+8*a=o+8*b:=h2;omega))
theorem x1o{cur q st l l'}(h8:pOff q%8=0)(hw:z2l cur q (st::encA l))(hl:(encA l').length=33):z2l (wrS cur (flW cur (plOf (pOff q+8) (encA l')))) q (st::encA l'):=fun j hj=>by
 rw[List.length_cons,hl]at hj;have ha:∀e∈plOf (pOff q+8) (encA l'),e.1%8=0:=fun e he=>by
  obtain⟨j,_,rfl⟩:=z3l.1 he;show(pOff q+8+8*j)%8=0;omega
 rw[w4g cur (x3z _ _) ha];rcases j with _|j
 ·rw[z1s _ _ _ (fun e he hi=>by
   obtain⟨j,_,rfl⟩:=z3l.1 he;have h1:(pOff q+8+8*j)/8=pOff q/8+0:=hi;omega)]
  exact hw 0 (by simp)
 ·have h1:=z5s (plOf (pOff q+8) (encA l')) cur (x3z _ _) ha (pOff q+8+8*j,(encA l').getD j 0) (z3l.2 ⟨j,oM,rfl⟩)
  have h2:(pOff q+8+8*j)/8=pOff q/8+(j+1):=oM;simp only[h2]at h1;rw[h1,List.getD_cons_succ]
theorem x1p{cur q st v xs}(hw:z2l cur q (st::xs)):z2l (upd cur (pOff q/8) v) q (v::xs):=fun j hj=>by
 rcases j with _|j
 ·simp[upd]
 ·have h1:=hw (j+1) (by simpa using hj)
  have h2:pOff q/8+(j+1)≠pOff q/8:=oM;simp only[upd];rw[if_neg h2,h1];rfl
def YRtX(bs:List Nat)(c:YCX)(d mode:Nat)(m:Nat->Nat)(q gr T st:Nat)(l:List (List Nat×Nat))(w:World):Prop :=
 ∃f k B Z,20*B<=T/\YTxR c d mode m f k B Z w (Yvw f m)/\(∀o v,f o=some v->o∈y5s q)/\z2l (Yvw f m) q (st::encA l)/\LOk st l/\YQOk c q/\Blk w gr 202 #[q]/\¬Z gr/\(∀j,Z j->c.b0<=j/\j<w.heap.size)/\c.b0<=w.heap.size/\∀g∈bs,g<w.heap.size/\¬Z g
section
variable{bs:List Nat}{c:YCX}{d mode:Nat}{m:Nat->Nat}{q gr T st:Nat}{l:List (List Nat×Nat)}{w w':World}
theorem YRtX.below(h:YRtX bs c d mode m q gr T st l w)(hb:Blw w w'):YRtX bs c d mode m q gr T st l w':=by
 obtain⟨f,k,B,Z,h1,h2,h3,h4,h5,h6,h7,h8,h9,Gb,Ga⟩:=h;exact⟨f,k,B,Z,h1,h2.below hb,h3,h4,h5,h6,h7.below hb h7.lt,h8,fun j hj=>⟨(h9 j hj).1,Nat.lt_of_lt_of_le (h9 j hj).2 hb.size⟩,Nat.le_trans Gb hb.size,fun g hg=>⟨Nat.lt_of_lt_of_le (Ga g hg).1 hb.size,(Ga g hg).2⟩⟩
theorem YRtX.more{T'}(h:YRtX bs c d mode m q gr T st l w)(hT:T<=T'):YRtX bs c d mode m q gr T' st l w:=by
 obtain⟨f,k,B,Z,h1,h2⟩:=h;exact⟨f,k,B,Z,Nat.le_trans h1 hT,h2⟩
theorem YRtX.lts(h:YRtX bs c d mode m q gr T st l w):∀g∈bs,g<w.heap.size:=by
 obtain⟨f,k,B,Z,h1,h2,h3,h4,h5,h6,h7,h8,h9,Gb,Ga⟩:=h;exact fun g hg=>(Ga g hg).1
theorem YRtX.size(h:YRtX bs c d mode m q gr T st l w):c.b0<=w.heap.size:=by
 obtain⟨f,k,B,Z,h1,h2,h3,h4,h5,h6,h7,h8,h9,Ga,Gb⟩:=h;exact Ga
theorem YRtX.ok(h:YRtX bs c d mode m q gr T st l w):LOk st l:=by
 obtain⟨f,k,B,Z,h1,h2,h3,h4,h5,h6⟩:=h;exact h5
theorem YRtX.news(h:YRtX bs c d mode m q gr T st l w)(hb:Blw w w') gs (hg:∀g∈gs,w.heap.size<=g/\g<w'.heap.size):YRtX (gs++bs) c d mode m q gr T st l w':=by
 have h0:=h.below hb;obtain⟨f,k,B,Z,h1,h2,h3,h4,h5,h6,h7,h8,h9,Gb,Ga⟩:=h;refine⟨f,k,B,Z,h1,h2.below hb,h3,h4,h5,h6,h7.below hb h7.lt,h8,fun j hj=>⟨(h9 j hj).1,Nat.lt_of_lt_of_le (h9 j hj).2 hb.size⟩,Nat.le_trans Gb hb.size,fun g hg2=>?_⟩;rcases List.mem_append.1 hg2 with hg2|hg2
 ·exact⟨(hg g hg2).2,fun hz=>by have:=(h9 g hz).2;have:=(hg g hg2).1;omega⟩
 ·exact⟨Nat.lt_of_lt_of_le (Ga g hg2).1 hb.size,(Ga g hg2).2⟩
theorem YRtX.setCell{G}(h:YRtX bs c d mode m q gr T st l w)(hs:gr<G/\c.b0<=G){p}(hG:G<=p.block)(hp:p.block∈bs) v:YRtX bs c d mode m q gr T st l (w.setCell p v):=by
 obtain⟨f,k,B,Z,h1,h2,h3,h4,h5,h6,h7,h8,h9,Gb,Ga⟩:=h;have hc:Chg (fun j=>j=p.block) w (w.setCell p v):=(Chg.refl (fun k=>k=p.block) w).setCell (.inl rfl) v;refine⟨f,k,B,Z,h1,{ h2 with op:=h2.op.chg hc (fun j hj=>?_) },h3,h4,h5,h6,hc.blk h7 (fun e=>by have e2:gr=p.block:=e;omega),h8,fun j hj=>⟨(h9 j hj).1,Nat.lt_of_lt_of_le (h9 j hj).2 hc.size⟩,Nat.le_trans Gb hc.size,fun g hg=>⟨Nat.lt_of_lt_of_le (Ga g hg).1 hc.size,(Ga g hg).2⟩⟩;have e:j=p.block:=hj;rw[e];exact⟨(Ga _ hp).2,Nat.le_trans hs.2 hG⟩
theorem YRtX.rd(h:YRtX bs c d mode m q gr T st l w):RdC (gr,0) (31,d,0) w (some (st,l),0)/\RgOk (some (st,l),0):=by
 obtain⟨f,k,B,Z,h1,h2,h3,h4,h5,h6,h7,h8⟩:=h;have Ga:=z6s h5.len (fun p hp=>(h5.by_ p hp).1);have hw:rgW (Yvw f m) (pOff q/8+1)=encA l:=by
  unfold rgW;apply List.ext_getElem
  ·rw[List.length_map,List.length_range,Ga]
  ·intro j g1 g2
   rw[List.getElem_map,List.getElem_range];have g3:=h4 (j+1) (by rw[List.length_cons];omega);rw[show pOff q/8+1+j=pOff q/8+(j+1) by omega,g3,List.getD_eq_getElem?_getD,List.getElem?_cons_succ,List.getElem?_eq_getElem g2];rfl
 have h0:Yvw f m (pOff q/8)=st:=h4 0 (by rw[List.length_cons];omega);have hR:rgR (Yvw f m) (fun p=>chkR c.s c.K c.cs p 8) q=(some (st,l),0):=by
  show(if chkR c.s c.K c.cs q 8≠0 then (none,12)else match decA (rgW (Yvw f m) (pOff q/8+1))with
   |none=>(none,11)
   |some l=>if sndP (Yvw f m (pOff q/8)) l=true then (some (Yvw f m (pOff q/8),l),0)else (none,11))=_
  rw[if_neg (fun hn=>hn h6.chk),hw,y6i h5.len h5.by_,h0];show(if sndP st l=true then (some (st,l),0)else (none,11))=_;rw[if_pos h5.snd]
 have g1:=y8g h2 gr q h7 h6.lt h6.ne h6.top h6.al h6.inl h6.gd;have g2:=Go.Proofs.YtmhbokcccjmfgaaGreatDoor.rgOk (Yvw f m) (fun p=>chkR c.s c.K c.cs p 8) q;rw[hR]at g1 g2;exact⟨g1,g2⟩
theorem YRtX.pub_{f k B Z us n st' l'}(hB:20*B<=T)(hn:n<=40)(h2:YTxR c d mode m f k B Z w (Yvw f m))(h3:∀o v,f o=some v->o∈y5s q)(h6:YQOk c q)(h7:Blk w gr 202 #[q])(h8:¬Z gr)(h9:∀j,Z j->c.b0<=j/\j<w.heap.size)(h10:c.b0<=w.heap.size)(h11:∀g∈bs,g<w.heap.size/\¬Z g)
  (hu:∀e∈us,e.1∈y5s q/\e.2<18446744073709551616) (hw:z2l (wrS (Yvw f m) us) q (st'::encA l')) (hok:LOk st' l') {k'}(hp:z3z c d mode m (z7e f us) k' (B+n) Z w w') :
  YRtX bs c d mode m q gr (T+800) st' l' w'/\Below c.b0 w w'/\z1i bs w w':=by
 obtain⟨Z',g1,g2,g3⟩:=hp;have Ga:=y1s (f:=f) (us:=us) (dom:=y5s q) h3 (fun e he=>(hu e he).1);have Gd:∀e∈us,e.1%8=0:=fun e he=>by
  obtain⟨j,_,e1⟩:=z6b.1 (hu e he).1;have:=h6.al;omega
 have Gc:=x4b us f m Gd;have Ge:∀j,Z' j->j<w'.heap.size:=by
  obtain⟨_,_,_,_,_,_,_,_,_,_,hl⟩:=g1;exact hl
 have hb:Below c.b0 w w':=g2.toBelow h10 (fun i hi=>(h9 i hi).1);have Gb:∀g,g<w.heap.size->¬Z g->¬Z' g:=fun g hg hz hz'=>(g3 g hz').elim hz (fun e=>oM)
 refine⟨⟨z7e f us,k',B+n,Z',oM,⟨g1,h2.mo,h2.ok,fun o v hv k hk a1 a2=>?_,rfl,fun i=>?_⟩,Ga,by rw[Gc];exact hw,hok,h6,g2.blk h7 h8,Gb gr h7.lt h8,fun j hj=>⟨?_,Ge j hj⟩,Nat.le_trans h10 g2.size,fun g hg=>⟨Nat.lt_of_lt_of_le (h11 g hg).1 g2.size,Gb g (h11 g hg).1 (h11 g hg).2⟩⟩,hb,fun g hg=>g2.block g (h11 g hg).1 (h11 g hg).2⟩
 ·obtain⟨j,hj,e1⟩:=z6b.1 (Ga o v hv)
  have Gf:=h6.al;have e2:o/8=pOff q/8+j:=oM;rw[e2]at a1 a2⊢;exact h6.pay j hj k hk a1 a2
 ·rw[Gc]
  exact z3k us _ h2.bnd (fun e he=>(hu e he).2) i
 ·exact(g3 j hj).elim (fun e=>(h9 j e).1) (fun e=>Nat.le_trans h10 e)
theorem YRtX.pubL{nm:ByteArray}{l':List (List Nat×Nat)}(h:YRtX bs c d mode m q gr T st l w)(hT:T+800<=18000)(hok:LOk st l')(W:World)(A:Option Addr)(k0 c0:Nat)(hW:Blw w W)(hr:z0d W W.heap.size 2 A k0 (z0b l'))(hk0:k0<=8):
  () 198 #[(gr,()),.iface 31 (d,()),.slice A k0 c0] W fun e w'=>e=.returned ()/\YRtX bs c d mode m q gr (T+800) st l' w'/\Below c.b0 w w'/\z1i bs w w':=by
 obtain⟨f,k,B,Z,h1,h2,h3,h4,h5,h6,h7,h8,h9,Gd,Ge⟩:=h;have Gc:∀v∈encA l',v<18446744073709551616:=y0v hok.len (fun p hp=>⟨(hok.by_ p hp).1,(hok.by_ p hp).2,by have h1:=(hok.nm p hp).2;have h2:=hok.top;omega⟩);have Ga:=z6s hok.len (fun p hp=>(hok.by_ p hp).1);have Gb:=h6.al;refine(x6m (h2.below hW) gr q (h7.below hW h7.lt) h6.ne Gb h6.inl h6.le h6.gd A k0 c0 l' hr hk0 hok.by_ Gc h3 (fun j hj=>z6b.2 ⟨j+1,oM,oM⟩) (by simp[y5s]) oM).mono ?_;rintro e w'⟨he,k',hp⟩;refine⟨he,YRtX.pub_ h1 oM h2 h3 h6 h7 h8 h9 Gd Ge (fun e he=>?_) (x1o Gb h4 Ga) hok (z3z.back hW hp)⟩;obtain⟨j,hj,rfl⟩:=z3l.1 (List.mem_filter.1 he).1;refine⟨z6b.2 ⟨j+1,oM,by show pOff q+8+8*j=_;omega⟩,?_⟩;show(encA l').getD j 0<_;rw[List.getD_eq_getElem?_getD];cases hx:(encA l')[j]? with
 |none=>exact show(0:Nat)<18446744073709551616 by omega
 |some y=>exact Gc y (List.mem_of_getElem? hx)
end
end
section
open Go.RowKit Go.Maps
section
variable(st:Nat)(A:Option Addr)(n c:Nat)(l:List (List Nat×Nat))(s:ByteArray)(w:World)
theorem z7y(h:z0d w w 2 A n (z0b l))(hn:n<=100000):
  () 204 #[.agg #[st,.slice A n c],.string s] w fun e w'=>e=.returned [fndS s 0 l]/\Blw w w':=by
 have Gj:l.length=n:=by have:=h.1;rw[z0q]at this;omega
 obtain⟨W1,Gc⟩:∃W1,w.alloc (.cells #[st,.slice A n c] 87)=W1:=⟨_,rfl⟩
 have Gd:Blw w W1:=by rw[<- Gc];exact(Below.refl _ _).alloc (nL _) _
 have Gi:Blk W1 w 87 #[st,.slice A n c]:=by rw[<- Gc];exact Blk.new _ _ _
 have HR:=hid ((h.below Gd).more Gd.size);have HL:=hid Gj;have Gb:=hid Gd;have Gk:=hid Gc;have Gg:Hid (Blw W1 W1):=hid (Below.refl _ _);obtain⟨Y,hY⟩:∃Y,fndS s 0 l=Y:=⟨_,rfl⟩
 rw[hY];have Gh:Hid (Y=fndS s 0 (l.drop 0)):=hid (by rw[List.drop_zero,hY]);have k1:=Gi.cell 1;clear h Gj hY Gd Gi Gc;go_enter Tryz.func204,Tryz.ntmps204
 go_upto_region 1 with fail
 rw[Gk.out];go_wp2_with fail
 go_loopw [10] (fun v wr=>∃k:Nat,k<=n/\v=↑[k]/\Hid (Y=fndS s k (l.drop k))/\Hid (Blw W1 wr)) (fun v _=>n-(Go.RowKit.intOf v).toNat)
 case atStart=>exact⟨0,Nat.zero_le _,rfl,Gh,Gg⟩
 case round =>
  clear Gh Gg;obtain⟨k,hk,rfl,HN,H⟩:=hrel;by_cases hlt:k<n
  ·obtain⟨Gf,gb,go,Gl,_,f0,f1⟩:=z2a ((HR.out.below H.out).more H.out.size) (k:=k) hlt
   subst Gl;have HS:Hid (Y=if strN (l[k]).1=s then (k:Int)else fndS s (k+1) (l.drop (k+1))):=hid (by
    rw[HN.out,List.drop_eq_getElem_cons Gf];rfl)
   generalize l[k]=p at*;obtain⟨pn,pv⟩:=p;dsimp only at f0 f1 HS;have Gm:(0:Int)<=(k:Int):=oM;have Gn:(k:Int)<(n:Int):=oM;have Ge:Hid (Blw W1 (wr.alloc (.cells #[.string (strN pn),pv] 204))):=hid (H.out.alloc H.out.size _);by_cases hx:strN pn=s
   ·have Ga:Hid (Y=(k:Int)):=hid (by rw[HS.out,if_pos hx])
    have e:((strN pn).toList==s.toList)=true:=by rw[w7m,decide_eq_true hx]
    clear HS HN Gf hx;go_wp2_with fail
    go_ret;rw[Ga.out];exact⟨rfl,Gb.out.trans (Ge.out.mono Gb.out.size)⟩
   ·have Ga:Hid (Y=fndS s (k+1) (l.drop (k+1))):=hid (by rw[HS.out,if_neg hx])
    have e:((strN pn).toList==s.toList)=false:=by rw[w7m,decide_eq_false hx]
    clear HS HN Gf hx;go_wp2_with fail
    go_roundw
    case rel =>
     first
      |exact⟨k+1,oM,by go_num,Ga,Ge⟩
      |(
        repeat apply Exists.intro
        refine⟨?_,rfl⟩;exact⟨k+1,oM,by go_num,Ga,Ge⟩)
    case measure=>simp[Go.RowKit.intOf];omega
  ·have Ga:Hid (Y= -1):=hid (by rw[HN.out,List.drop_of_length_le (by have:=HL.out;omega)];rfl)
   obtain rfl:k=n:=oM;clear hlt hk;go_wp2_with fail
   go_ret;rw[Ga.out];exact⟨rfl,Gb.out.trans (H.out.mono Gb.out.size)⟩
theorem x8g(h:z0d w w 2 A n (z0b l))(hn:n<=100000):
  () 110 #[.agg #[st,.slice A n c],.string s] w fun e w'=>e=.returned (.tuple #[.int .u64 ((rfG s l).1:Int),.int .i64 ((rfG s l).2:Int)])/\Blw w w':=by
 have Gl:l.length=n:=by have:=h.1;rw[z0q]at this;omega
 obtain⟨W1,Gd⟩:∃W1,w.alloc (.cells #[st,.slice A n c] 87)=W1:=⟨_,rfl⟩
 have Ga:Blw w W1:=by rw[<- Gd];exact(Below.refl _ _).alloc (nL _) _
 have Ge:Blk W1 w 87 #[st,.slice A n c]:=by rw[<- Gd];exact Blk.new _ _ _
 have HR:=hid ((h.below Ga).more Ga.size);have HL:=hid Gl;have Gb:=hid Ga;have Gm:=hid Gd;have Gi:=hid Ge;have Gg:=hid (z7y st A n c l s W1 ((h.below Ga).more Ga.size) hn);have Gh:=hid (z9h s 0 l);have HY:Hid (rfG s l=if fndS s 0 l<0 then (0,5)else ((l.getD (fndS s 0 l).toNat ([],0)).2,0)):=hid rfl;generalize rfG s l=Y at*;obtain⟨fi,Gk⟩:∃fi,fndS s 0 l=fi:=⟨_,rfl⟩
 rw[Gk]at Gg Gh HY;have k0:=Ge.cell 0;have k1:=Ge.cell 1;clear h Gl Ga Ge Gd Gk;go_enter Tryz.func110,Tryz.ntmps110
 go_upto_region 1 with fail
 rw[Gm.out];go_upto_region 2 with (go_at_call 204;refine Gg.out.mono ?_;rintro e w2⟨rfl,Gj⟩;have Gc:=hid Gj;clear Gj)
 by_cases hf:fi<0
 ·have Gf:Hid (Y=(0,5)):=hid (by rw[HY.out,if_pos hf])
  clear HY;go_wp2_with fail
  go_ret2;rw[Gf.out];exact⟨rfl,Gb.out.trans (Gc.out.mono Gb.out.size)⟩
 ·obtain⟨j,hj⟩:∃j:Nat,fi=(j:Int):=⟨fi.toNat,oM⟩
  subst hj;have Gp:=Gh.out.2.1;have Gr:j<l.length:=oM;have Gf:Hid (Y=((l.getD j ([],0)).2,0)):=hid (by rw[HY.out,if_neg hf,Int.toNat_natCast]);have hm:=HL.out;have k2:=(Gi.out.below Gc.out Gi.out.lt).cell 1;obtain⟨Gq,gb,go,Gn,_,f0,f1⟩:=z2a (HR.out.below Gc.out) (k:=j) oM;have Gs:(0:Int)<=(j:Int):=oM;have Gt:(j:Int)<(n:Int):=oM;subst Gn;have HE:Hid (l.getD j ([],0)=l[j]):=hid (by rw[List.getD_eq_getElem?_getD,List.getElem?_eq_getElem Gq];rfl);clear hf Gp hm HY k0 k1;go_wp2_with fail
  go_ret2;rw[Gf.out,HE.out];exact⟨rfl,Gb.out.trans (Gc.out.mono Gb.out.size)⟩
theorem y7e(h:z0d w w 2 A n (z0b l))(hn:n<=100000):
  () 108 #[.agg #[st,.slice A n c]] w fun e w'=>e=.returned (minL st l)/\Blw w w':=by
 have Gj:l.length=n:=by have:=h.1;rw[z0q]at this;omega
 obtain⟨W1,Gd⟩:∃W1,w.alloc (.cells #[st,.slice A n c] 87)=W1:=⟨_,rfl⟩
 have Ge:Blw w W1:=by rw[<- Gd];exact(Below.refl _ _).alloc (nL _) _
 have Gf:Blk W1 w 87 #[st,.slice A n c]:=by rw[<- Gd];exact Blk.new _ _ _
 have HR:=hid ((h.below Ge).more Ge.size);have HL:=hid Gj;have Gh:=hid Ge;have Gk:=hid Gd;have Gg:Hid (Blw W1 W1):=hid (Below.refl _ _);have k0:=Gf.cell 0;have k1:=Gf.cell 1;clear h Gj Ge Gf Gd;go_enter Tryz.func108,Tryz.ntmps108
 go_upto_region 1 with fail
 rw[Gk.out];go_wp2_with fail
 go_loopw [3,11] (fun v i wr=>∃k:Nat,k<=n/\i=↑[k]/\v=↑(minL st (l.take k))/\Hid (Blw W1 wr)) (fun _ i _=>n-(Go.RowKit.intOf i).toNat)
 case atStart=>exact⟨0,Nat.zero_le _,rfl,rfl,Gg⟩
 case round =>
  clear Gg;obtain⟨k,hk,rfl,rfl,HB⟩:=hrel;by_cases hlt:k<n
  ·obtain⟨Gi,gb,go,Gl,_,f0,f1⟩:=z2a ((HR.out.below HB.out).more HB.out.size) (k:=k) hlt
   subst Gl;have Ga:=hid (y9u st l k Gi);generalize l[k]=p at*;obtain⟨pn,pv⟩:=p;dsimp only at f0 f1 Ga;have Gn:(0:Int)<=(k:Int):=oM;have Gp:(k:Int)<(n:Int):=oM;have Gc:Hid (Blw W1 (wr.alloc (.cells #[.string (strN pn),pv] 204))):=hid (HB.out.alloc HB.out.size _);generalize minL st (l.take k)=mm at*;clear Gi;by_cases hmp:mm<=pv
   ·have Gm:(mm:Int)<=(pv:Int):=oM
    have Gb:Hid (minL st (l.take (k+1))=mm):=hid (by rw[Ga.out,Nat.min_eq_left hmp]);clear hmp Ga;go_wp2_with fail
    go_roundw
    case rel =>
     first
      |exact⟨k+1,oM,by go_num,by rw[Gb.out];first|rfl|(congr 1;omega),Gc⟩
      |(
        repeat apply Exists.intro
        refine⟨?_,rfl⟩;exact⟨k+1,oM,by go_num,by rw[Gb.out];first|rfl|(congr 1;omega),Gc⟩)
    case measure=>simp[Go.RowKit.intOf];omega
   ·have Gm:(pv:Int)<(mm:Int):=oM
    have Gb:Hid (minL st (l.take (k+1))=pv):=hid (by rw[Ga.out,Nat.min_eq_right oM]);clear hmp Ga;go_wp2_with fail
    go_roundw
    case rel =>
     first
      |exact⟨k+1,oM,by go_num,by rw[Gb.out];first|rfl|(congr 1;omega),Gc⟩
      |(
        repeat apply Exists.intro
        refine⟨?_,rfl⟩;exact⟨k+1,oM,by go_num,by rw[Gb.out];first|rfl|(congr 1;omega),Gc⟩)
    case measure=>simp[Go.RowKit.intOf];omega
  ·obtain rfl:k=n:=oM
   have HT:Hid (l.take k=l):=hid (List.take_of_length_le (by rw[HL.out];exact nL _));clear hlt hk;go_wp2_with fail
   go_ret;rw[HT.out];exact⟨rfl,Gh.out.trans (HB.out.mono Gh.out.size)⟩
end
end
section
open Go.RowKit Go.Maps
theorem RLk.get_at{st l rl}(h:RLk l rl)(hn:(l.map nmS).Nodup){k}(hk:k<rl.length):getR (strN (rl[k]).1) (some (st,l),0)=((rl[k]).2,0):=by
 have e:getR (strN (rl[k]).1) (some (st,l),0)=if fndS (strN (rl[k]).1) 0 l<0 then (0,5)else ((l.getD (fndS (strN (rl[k]).1) 0 l).toNat ([],0)).2,0):=rfl
 have hf:¬fndS (strN (rl[k]).1) 0 l<0:=fun hx=>by
  rw[z5i]at hx;exact hx ((h.perm.map nmS).mem_iff.1 (List.mem_map_of_mem (List.getElem_mem hk)))
 obtain⟨j,i,hj,hi,g1,_,g3,g4⟩:=h.at_ hn hf;rw[e,if_neg hf,g1,Int.toNat_natCast,List.getD_eq_getElem?_getD,List.getElem?_eq_getElem hj];have h5:l[j]=rl[k]:=w8f hn (List.getElem_mem hj) (h.perm.mem_iff.1 (List.getElem_mem hk)) g4;rw[<- h5];rfl
section
variable{B:Nat}{a:DA}{x:HA}{y:WA}{q gr T N st:Nat}{l rl:List (List Nat×Nat)}{w:World}
end
end
section
open Go.RowKit Go.Maps
structure y7r(B:Nat)(x:HA)(y:WA)(gr G:Nat):Prop where
 lo:LoS x y.d y.r B G
 g:y.g<G
 u:y.u<G
 m:y.m<G
 r:gr<G
section
variable{B G:Nat}{bs:List Nat}{a:DA}{x:HA}{y:WA}{q gr T N st:Nat}{l:List (List Nat×Nat)}{w w':World}
theorem RgX.stat(h:RgX B bs a x y q gr T N st l w):y7r B x y gr w:=by
 obtain⟨cs,f,m,S,Ga,h1,h2,h3,h4,h5⟩:=h;exact⟨h1.bw.sd.lo,h1.bw.blk.lt,h1.bw.und.lt,h1.bw.mgr.lt,h2.lt⟩
theorem RgX.chg(h:RgX B bs a x y q gr T N st l w)(hs:y7r B x y gr G){Z}(hc:Chg Z w w')(hZ:∀k,Z k->G<=k/\k∈bs):RgX B bs a x y q gr T N st l w':=by
 obtain⟨cs,f,m,S,Ga,h1,h2,h3,h4,h5⟩:=h;have hn:∀g,g<G->¬Z g:=fun g hg hz=>by have:=(hZ g hz).1;omega
 refine⟨cs,f,m,S,Ga,{ h1 with bw:={ h1.bw with sd:=h1.bw.sd.chg hs.lo hc (fun k hk=>⟨fun hS=>(h5 k (hZ k hk).2).2 (.inl hS),(hZ k hk).1⟩),blk:=hc.blk h1.bw.blk (hn _ hs.g),und:=hc.blk h1.bw.und (hn _ hs.u),mgr:=hc.blk h1.bw.mgr (hn _ hs.m) } },hc.blk h2 (hn _ hs.r),h3,Nat.le_trans h4 hc.size,fun g hg=>⟨Nat.lt_of_lt_of_le (h5 g hg).1 hc.size,(h5 g hg).2⟩⟩
theorem RgX.setCell(h:RgX B bs a x y q gr T N st l w)(hs:y7r B x y gr G){p}(hG:G<=p.block)(hp:p.block∈bs) v:RgX B bs a x y q gr T N st l (w.setCell p v) :=
 h.chg hs ((Chg.refl (fun k=>k=p.block) w).setCell (.inl rfl) v) (fun k hk=>by subst hk;exact⟨hG,hp⟩)
end
end
end Go.Proofs.YtmhbokcccjmfgaaGreatDoor
