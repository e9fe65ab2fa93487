/- part 21 -/
import Derived.Test.YtmhbokcccjmfgaaGreatDoorQas
set_option maxRecDepth 100000
set_option maxHeartbeats 16000000
namespace Go.Proofs.YtmhbokcccjmfgaaGreatDoor
open Go.Lib (hid)
section
open Go.RowKit Go.Maps
theorem y6w(h t r:Nat)(w:World):
  () 156 #[(h,()),(t,()),(r,())] w fun e w'=>e=.returned (w,())/\w'=w.alloc (.cells #[(h,()),(t,()),(r,())] 292):=by
 go_enter Tryz.func156,Tryz.ntmps156
 go_wp2;go_ret;exact⟨rfl,rfl⟩
structure WA where
 g:Nat
 d:Nat
 r:Nat
 u:Nat
 m:Nat
def y6c(a:DA)(x:HA)(y:WA)(c:Nat):Array Value:=#[(a.d,0),(a.th 0,0),(x.h,0),(y.d,0),(y.m,0),[c]]
structure BW(a:DA)(L T K:Nat)(x:HA)(y:WA)(cs:Nat->CS)(f:Nat->Option Nat)(N m b0:Nat)(S:Fp)(cur:Nat->Nat)(w:World):Prop where
 sd:SD a L T 53 (32*K) K x cs f N m b0 S cur w y.d y.r
 blk:Blk w y.g 60 (y6c a x y K)
 und:Blk w y.u 258 (z0s a 26 26)
 mgr:Blk w y.m 140 (z5l (some (a.th 0,0)) (some (y.r,0)) (some (y.u,0)) (some (x.h,0)) none)
 uid:cur (8*26)=0
 off:¬S y.g/\¬S y.u/\¬S y.m
 new:b0<=y.g/\b0<=y.d/\b0<=y.r/\b0<=y.u/\b0<=y.m
 size:L=53+32*K
 few:K<=12
 rest:a.dirty=fun _=>False
structure Empt(K:Nat)(cur:Nat->Nat):Prop where
 r:cur (8*0)=0
 u:cur (8*26)=0
 c:∀k,k<K->cur (8*(53+32*k))=z4n 1
 b:∀i,cur i<18446744073709551616
def v1z(a:DA)(L T K b0:Nat)(S:Fp)(cur:Nat->Nat)(w:World)(e:Ending)(w':World):Prop:=∃x y,e=.returned (y.g,0)/\BW a L T K x y (fun _=>csN) (fun _=>none) 0 0 b0 S cur w'/\Blw w w'
section
variable{a:DA}{L T s n K:Nat}{x:HA}{cs:Nat->CS}{f:Nat->Option Nat}{N m b0:Nat}{S:Fp}{cur:Nat->Nat}{w w':World}
theorem y9f(h:DS a L T s n K x cs f N m b0 S cur w)(hK12:K<=12) A1 A2 n1 c1 n2 c2 keep free (h1:z0d w w 1 A1 n1 (z0g keep)) (h2:z0d w w 1 A2 n2 (z0g free)) (hk:∀p∈keep,y7p s K cs f p) (hfr:∀p∈free,x9b s K cs p) (hn:((keep++free).map pOff).Nodup) (hn1:n1<=60) (hn2:n2<=60) :
  () 93 #[(x.h,0),.slice A1 n1 c1,.slice A2 n2 c2] w (x0u w s K cs keep free):=by
 have GA:Blw w (w.alloc (.cells #[.slice A1 n1 c1,.slice A2 n2 c2] 40)):=(Below.refl _ _).alloc (nL _) _;have D3:=hid (y8w A1 A2 n1 c1 n2 c2 keep free _ _ (Blk.new w 40 #[.slice A1 n1 c1,.slice A2 n2 c2]) ((h1.below GA).more GA.size) ((h2.below GA).more GA.size) (y9x hn) (fun p hp=>by
  rcases List.mem_append.1 hp with hp|hp
  ·exact(hk p hp).nz
  ·exact(hfr p hp).nz) oM oM)
 have D5:Hid (∀W,Blw w W->() 76 #[(a.th 0,0)] W fun e w'=>e=.returned ()/\W=w'):=hid (fun W hW=>z9u (h.dev.below hW));have DB:Hid (∀p∈keep,∀W,Blw w W->() 181 #[(x.h,0),p] W fun e w'=>e=.returned true/\Blw W w'):=hid (fun p hp W hW=>by
  have h3:=y9i (h.hs.below hW) p;rw[decide_eq_true (hk p hp).res]at h3;exact h3)
 have D2:Hid (∀p∈free,∀W,Blw w W->() 64 #[(x.h,0),p,.int .u8 0] W fun e w'=>e=.returned ()/\Blw W w'):=hid (fun p hp W hW=>by
  have h3:=y2e (h.below hW) p 0 (hfr p hp).nz.2 oM;rw[(hfr p hp).chk]at h3;exact h3)
 have HD:=hid h;have Di:=hid GA;have GG:=hid h1;have GH:=hid h2;have DC:=hid hk;have D8:=hid hfr;have Ff:=hid hn;have hm:=z1x (some (a.th 0,0));have F9:∀W,(Instr.makeMap 271 none).run Tryz.prog W=.ok (.map (some W.heap.size)) (W.alloc (.map #[] 0)):=fun _=>rfl
 clear h h1 h2 hk hfr hn GA;go_enter Tryz.func93,Tryz.ntmps93
 go_wp2_with (go_at_call 180;refine D3.out.mono ?_;rintro e W1⟨rfl,DM⟩;refine stop ?_)
 unfold Stop;have GZ:=hid (Di.out.trans (DM.mono Di.out.size));have F0:W1.cell? (x.h,0)=some ↑(57,a.th 0,0):=(HD.out.hs.heap.below GZ.out HD.out.hs.heap.lt).cell 0;clear DM D3 Di;go_wp2_with (go_at_call 76;refine(D5.out _ GZ.out).mono ?_;rintro e W2⟨rfl,rfl⟩)
 clear F0;go_loopw [52] (fun i wr=>∃(k:Nat),k<=n1/\i=↑[k]/\Hid (Blw w wr)) (fun i _=>n1-(Go.RowKit.intOf i).toNat)
 case atStart=>exact⟨0,Nat.zero_le _,rfl,GZ⟩
 case round =>
  clear GZ;obtain⟨k,hk,rfl,H⟩:=hrel;by_cases hlt:k<n1
  ·obtain⟨hl,b,Dh,hA,G1,f0⟩:=z7w (GG.out.below H.out) hlt
   subst hA;have HH:=hid (DB.out _ (List.getElem_mem hl) wr H.out);generalize keep[k]=p at*;have Df:(0:Int)<=(k:Int):=oM;have Dg:(k:Int)<(n1:Int):=oM;go_wp2_with (go_at_call 181;refine HH.out.mono ?_;rintro e w3⟨rfl,Ga⟩;have Gc:=hid (H.out.trans (Ga.mono H.out.size));clear Ga)
   go_roundw
   case rel =>
    first
     |exact⟨k+1,oM,by go_num,Gc⟩
     |(
       repeat apply Exists.intro
       refine⟨?_,rfl⟩;exact⟨k+1,oM,by go_num,Gc⟩)
   case measure=>simp[Go.RowKit.intOf];omega
  ·have Dz:=hid H.out
   have Gq:decide ((k:Int)<(n1:Int))=false:=dF;have Gr:decide (k<n1)=false:=decide_eq_false hlt;clear H hk hlt DB;go_wp2;clear Gq Gr;go_loopw [63] (fun i wr=>∃(k:Nat),k<=n2/\i=↑[k]/\Hid (Blw w wr)) (fun i _=>n2-(Go.RowKit.intOf i).toNat)
   case atStart=>exact⟨0,Nat.zero_le _,rfl,Dz⟩
   case round =>
    clear Dz;obtain⟨k2,hk,rfl,H⟩:=hrel;by_cases hlt:k2<n2
    ·obtain⟨hl,b,Dh,hA,G1,f0⟩:=z7w (GH.out.below H.out) hlt
     subst hA;have HH:=hid (D2.out _ (List.getElem_mem hl) wr H.out);generalize free[k2]=p at*;have Df:(0:Int)<=(k2:Int):=oM;have Dg:(k2:Int)<(n2:Int):=oM;go_wp2_with (go_at_call 64;refine HH.out.mono ?_;rintro e w3⟨rfl,Ga⟩;have Gc:=hid (H.out.trans (Ga.mono H.out.size));clear Ga)
     go_roundw
     case rel =>
      first
       |exact⟨k2+1,oM,by go_num,Gc⟩
       |(
         repeat apply Exists.intro
         refine⟨?_,rfl⟩;exact⟨k2+1,oM,by go_num,Gc⟩)
     case measure=>simp[Go.RowKit.intOf];omega
    ·have Gq:decide ((k2:Int)<(n2:Int))=false:=dF
     have Gr:decide (k2<n2)=false:=decide_eq_false hlt;clear hk hlt D2;go_wp2;clear Gq Gr;have DL:=hid (Blk.new2 wr (.map #[] 0) 271 #[.map (some wr.heap.size)]);have Gg:Hid (ActI w ((wr.alloc (.map #[] 0)).alloc (.cells #[.map (some wr.heap.size)] 271)) wr 0 s K cs (keep.take 0) (free.take 0) CI.zero):=hid ⟨ChI.zero ((ChM.new wr s K).chg ((Chg.refl Fp.no _).alloc _) (fun h=>h)) oM,fun k _=>rfl,fun k _=>rfl,fun k _=>by simp[CI.zero,tlOf,dlOf],DL.out,(H.out.alloc H.out.size _).alloc (by have:=H.out.size;simp;omega) _,H.out.size,by simp⟩;clear DL;generalize hWA:(wr.alloc (.map #[] 0)).alloc (.cells #[.map (some wr.heap.size)] 271)=WA at*;have Fv:wr.heap.size=wr.heap.size:=rfl;generalize wr.heap.size=mb at*;clear hWA Fv H;obtain⟨i0,DN,DU,DV,DW⟩:=info_parts y6r;obtain⟨u0,Fw,Fx,Fy,Fz⟩:=info_parts v3d;go_loopw [78] (fun i wr=>∃(j:Nat)(c:CI),j<=n1/\i=↑[j]/\Hid (ActI w wr mb j s K cs (keep.take j) (free.take 0) c)) (fun i _=>n1-(Go.RowKit.intOf i).toNat)
     case atStart=>exact⟨0,CI.zero,Nat.zero_le _,rfl,Gg⟩
     case round =>
      clear Gg;obtain⟨j,c,hj,rfl,HA⟩:=hrel;by_cases hlt:j<n1
      ·obtain⟨hl,b,Dh,hA,G1,f0⟩:=z7w (GG.out.below HA.out.below) hlt
       subst hA;have GB:=DC.out _ (List.getElem_mem hl);obtain⟨k,i,hk,hd,hi,G3,Dx⟩:=GB.loc;have Gy:=hid (y4m (HD.out.below HA.out.below) hk hd hi keep[j] G3);have Dk:=hid (y2s hi G3);have Fc:=hid (y1b keep[j]);have Ft:=GB.kind.2;have GS:s+32*k<9000000000:=by have:=HD.out.line hk;have:=HD.out.hL;omega
       have G6:Hid (keep.take (j+1)=keep.take j++[keep[j]]):=hid (List.take_succ_eq_append_getElem hl);clear GB hd G3 Dx;generalize keep[j]=p at*;generalize hkde:z2h p=kd at*;have Fb:=hid hkde;clear hkde;have Df:(0:Int)<=(j:Int):=oM;have Dg:(j:Int)<(n1:Int):=oM;obtain⟨v,hv⟩:∃v:Int,((s+32*k:Nat):Int)=v:=⟨_,rfl⟩
       rw[hv]at Gy;go_wp2_with (go_at_call 183;refine Gy.out.mono ?_;rintro e w3⟨rfl,Ga⟩;refine stop ?_)
       unfold Stop;have GD:=hid (HA.out.chi.below Ga);have Gl:=(HA.out.vb.below Ga HA.out.vb.lt).cell 0;have Gs:=hid (y8o GD.out hk GS oM (Nat.le_trans HA.out.size Ga.size) (mb+1) Gl);rw[hv]at Gs;have HV:=hid hv;have Gc:=hid Ga;have Fk:Hid (n1<=60):=hid hn1;clear Ga hv Gy Gl G1 f0 GD;go_wp2_with (go_at_call 182;refine Gs.out.mono ?_;rintro e W4⟨g,c1,rfl,Gh,Gn,GU,GO,GM,GN⟩;refine stop ?_)
       unfold Stop;have HM:=hid (HA.out.mid Gc.out Gh Gn GU GO GM GN);have G4:=hid (Gh.blk k g hk Gn).1;have HG:=hid (Gh.blk k g hk Gn).2;have Dm:=hid (Gh.o1 k hk);have Fg:=hid (Gh.o2 k hk);have Dc:=hid HM.out.size;have Gw:Hid ((c1.tl k).length<=60):=hid (by
        have h1:=y7k s cs (keep.take j) k;rw[<- HM.out.tl k hk]at h1;have h2:=List.length_take_le j keep;omega)
       clear Gh Gn GU GO GM GN Gs HA Gc;go_upto_region 28 with fail
       refine z0e (fun w'=>Blk w' g 274 #[c1.tv k,c1.kv k,c1.dv k]) 17 [0,1] [(2,0),(2,1),(1,2),(1,3),(1,4),(1,5),(1,6),(1,9),(1,10),(1,11),(1,12),(1,13),(0,7),(0,8),(0,14),(0,15),(0,16)] (by kernel_rfl) (by kernel_rfl) G4.out.drew ?_;refine z1t (g,0) (by rfl) (by rfl) (fun w' hS=>?_) ?_
       ·go_simp
       simp only[zA,zB,Act.put,zD,zE,zF];refine z1t (g,0) (by rfl) (by rfl) (fun w' hS=>?_) ?_
       ·go_simp
       simp only[zA,zB,zC,Act.put,zD,zE,zF];refine tkG (g,0) ?_;refine tkG (g,0) ?_;refine tkG (g,0) ?_;refine tkH (c1.tv k) (fun w' hS=>?_) ?_
       ·have f1:w'.cell? (g,0)=some (c1.tv k):=Blk.cell hS 0
        go_simp
       refine tkG [i] ?_;refine tkG (g,0) ?_;refine tkG (g,0) ?_;refine tkG (g,1) ?_;refine tkH (c1.kv k) (fun w' hS=>?_) ?_
       ·have f1:w'.cell? (g,1)=some (c1.kv k):=Blk.cell hS 1
        go_simp
       refine tkG p ?_;refine z0c (by rfl) ?_;go_wp2_with fail
       have Gj:Hid (Chg Fp.no W4 ((W4.alloc (.cells #[[i]] 3)).drew)):=hid ((Chg.refl Fp.no W4).alloc _).drew;have GI:Hid (z0d (W4.alloc (.cells #[[i]] 3)).drew (W4+1) 1 (some (W4,0)) 1 [[i]]):=hid (z6y W4 [[i]] 1 1 3 _ rfl rfl);generalize hW5:(W4.alloc (.cells #[[i]] 3)).drew=W5 at*;clear hW5;have Gd:=hid (Gj.out.blk G4.out (fun h=>h));have Ge:=hid (Gj.out.own Dm.out (fun _ _ h=>h));have GE:=hid (Gj.out.own Fg.out (fun _ _ h=>h));refine⟨Gd.out,?_⟩;refine z0c (by rfl) ?_;refine z3j _ (.tmp 97) (.tmp 99) 34 rfl rfl (mb+2) 3 i0 _ 1 8 Tryz.underlying34 DN DU DV DW rfl oM (c1.tv k) (c1.tl k).length (z1f ((c1.tl k).map (·.1))) rfl Ge.out (W4+1) (some (W4,0)) 1 1 [[i]] rfl GI.out (by intro u hu;simp at hu;rw[hu];rfl) (by have:=Gw.out;unfold maxLen;omega) (by have:=Gw.out;omega) (by have h1:=Dc.out;have h2:=Gj.out.size;omega) ?_;intro A3 n3 c3 W6 hn3 ho3 hg3 Ga;have Gt:=hid (Gd.out.grown hg3 (fun e=>z0l Ge.out Gd.out (by decide) e.symm));have Dn:=hid (GE.out.kept hg3 (z1v GE.out Ge.out (by decide)));have D9:=hid hg3;have Do:=hid ho3;have Fe:=hid hn3;have Dp:=hid Ga;clear hg3 ho3 hn3 Ga;refine⟨Gt.out,?_⟩;refine z0c (by rfl) ?_;go_wp2_with (go_at_call 104;refine(Fc.out _).mono ?_;rintro e w3⟨rfl,rfl⟩)
       refine⟨Gt.out,?_⟩;refine z0c (by rfl) ?_;go_wp2_with fail
       have Da:Hid (Chg Fp.no W6 (W6.alloc (.cells #[[[kd]]] 5))):=hid ((Chg.refl Fp.no W6).alloc _);have Fi:=hid (z6y W6 [[[kd]]] 1 1 5 _ rfl rfl);generalize hW7:W6.alloc (.cells #[[[kd]]] 5)=W7 at*;clear hW7;have Gu:=hid (Da.out.blk Gt.out (fun h=>h));have GF:=hid (Da.out.own Dn.out (fun _ _ h=>h));refine⟨Gu.out,?_⟩;refine z0c (by rfl) ?_;refine z3j _ (.tmp 104) (.tmp 107) 24 rfl rfl (mb+2) 5 u0 _ 1 1 Tryz.underlying24 Fw Fx Fy Fz rfl oM (c1.kv k) (c1.tl k).length (u8s ((c1.tl k).map (·.2))) rfl GF.out (W6+1) (some (W6,0)) 1 1 [[[kd]]] rfl Fi.out (by intro u hu;simp at hu;rw[hu];rfl) (by have:=Gw.out;unfold maxLen;omega) (by have:=Gw.out;omega) (by have h1:=Dc.out;have h2:=Gj.out.size;have h3:=D9.out.size;have h4:=Da.out.size;omega) ?_;intro A4 n4 c4 W8 hn4 ho4 G2 G0;have Gz:=Gu.out.grown G2 (fun e=>z0l GF.out Gu.out (by decide) e.symm);have GT:=hid (HM.out.chi.take (kd:=kd) (i:=i) hk HM.out.cg Gj.out D9.out Do.out Fe.out Dp.out Da.out G2 ho4 hn4 G0);clear hn4 ho4 G2 G0;have a0:W8.cell? (g,0)=some (c1.tv k):=Gz.cell 0;have z0:W8.frozen? (g,0)=false:=Gz.frozen 0;have Dt:=Gz.set_ 0 (.slice A3 n3 c3);have a1:(W8.setCell (g,0) (.slice A3 n3 c3)).cell? (g,1)=some (c1.kv k):=Dt.cell 1;have z1:(W8.setCell (g,0) (.slice A3 n3 c3)).frozen? (g,1)=false:=Dt.frozen 1;have a2:W8.cell? (g,1)=some (c1.kv k):=Gz.cell 1;have z2:W8.frozen? (g,1)=false:=Gz.frozen 1;refine⟨Gz,?_⟩;show wpList _ _ _ _ _ _;simp only[List.drop_succ_cons,List.drop_zero];clear Gz Dt;go_wp2
       refine NoPanic.normal ?_;go_wp2;go_roundw
       case rel =>
        have HF:Hid (ActI w ((W8.setCell (g,0) (.slice A3 n3 c3)).setCell (g,1) (.slice A4 n4 c4)) mb (j+1) s K cs (keep.take (j+1)) (free.take 0) (c1.take k A3 c3 A4 c4 i kd)):=hid (by
         rw[G6.out];obtain⟨e1,e2⟩:=Dk.out;have e3:=Fb.out;subst e2 e3;exact HM.out.take hk e1 GT.out.1 GT.out.2)
        first
         |exact⟨j+1,_,oM,by go_num,HF⟩
         |(
           repeat apply Exists.intro
           refine⟨?_,rfl⟩;exact⟨j+1,_,oM,by go_num,HF⟩)
       case measure=>simp[Go.RowKit.intOf];omega
      ·have GP:j=n1:=oM
       have Gv:Hid (ActI w wr mb (n1+0) s K cs keep (free.take 0) c):=hid (by
        have h1:=HA.out;have hl:keep.length=n1:=by have:=GG.out.1;simp[z0g]at this;omega
        rw[GP,<- hl,List.take_length]at h1;rw[<- hl];exact h1)
       have Gq:decide ((j:Int)<(n1:Int))=false:=dF;have Gr:decide (j<n1)=false:=decide_eq_false hlt;clear HA hj hlt GP;go_wp2;clear Gq Gr;go_loopw [116] (fun i wr=>∃(j:Nat)(c:CI),j<=n2/\i=↑[j]/\Hid (ActI w wr mb (n1+j) s K cs keep (free.take j) c)) (fun i _=>n2-(Go.RowKit.intOf i).toNat)
       case atStart=>exact⟨0,c,Nat.zero_le _,rfl,Gv⟩
       case round =>
        clear Gv;obtain⟨j2,c5,hj,rfl,HA⟩:=hrel;by_cases hlt:j2<n2
        ·obtain⟨hl,b,Dh,hA,G1,f0⟩:=z7w (GH.out.below HA.out.below) hlt
         subst hA;have GB:=D8.out _ (List.getElem_mem hl);obtain⟨k,i,hk,hd,hi,G3,Dx⟩:=GB.loc;have Gy:=hid (y4m (HD.out.below HA.out.below) hk hd hi free[j2] G3);have Dk:=hid (y2s hi G3);have GS:s+32*k<9000000000:=by have:=HD.out.line hk;have:=HD.out.hL;omega
         have G6:Hid (free.take (j2+1)=free.take j2++[free[j2]]):=hid (List.take_succ_eq_append_getElem hl);clear GB hd G3 Dx;generalize free[j2]=p at*;have Df:(0:Int)<=(j2:Int):=oM;have Dg:(j2:Int)<(n2:Int):=oM;obtain⟨v,hv⟩:∃v:Int,((s+32*k:Nat):Int)=v:=⟨_,rfl⟩
         rw[hv]at Gy;go_wp2_with (go_at_call 183;refine Gy.out.mono ?_;rintro e w3⟨rfl,Ga⟩;refine stop ?_)
         unfold Stop;have GD:=hid (HA.out.chi.below Ga);have Gl:=(HA.out.vb.below Ga HA.out.vb.lt).cell 0;have Gs:=hid (y8o GD.out hk GS oM (Nat.le_trans HA.out.size Ga.size) (mb+1) Gl);rw[hv]at Gs;have HV:=hid hv;have Gc:=hid Ga;have Fk:Hid (n2<=60):=hid hn2;clear Ga hv Gy Gl G1 f0 GD;go_wp2_with (go_at_call 182;refine Gs.out.mono ?_;rintro e W4⟨g,c1,rfl,Gh,Gn,GU,GO,GM,GN⟩;refine stop ?_)
         unfold Stop;have HM:=hid (HA.out.mid Gc.out Gh Gn GU GO GM GN);have G4:=hid (Gh.blk k g hk Gn).1;have HG:=hid (Gh.blk k g hk Gn).2;have Dm:=hid (Gh.o3 k hk);have Dc:=hid HM.out.size;have Gw:Hid ((c1.dl k).length<=60):=hid (by
          have h1:=y6l s cs (free.take j2) k;rw[<- HM.out.dl k hk]at h1;have h2:=List.length_take_le j2 free;omega)
         clear Gh Gn GU GO GM GN Gs HA Gc;have f1:W4.cell? (g,2)=some (c1.dv k):=G4.out.cell 2;have f2:g<W4:=G4.out.lt;have Gj:Hid (Chg Fp.no W4 (W4.alloc (.cells #[[i]] 3))):=hid ((Chg.refl Fp.no W4).alloc _);have GI:Hid (z0d (W4.alloc (.cells #[[i]] 3)) (W4+1) 1 (some (W4,0)) 1 [[i]]):=hid (z6y W4 [[i]] 1 1 3 _ rfl rfl);have Gd:=hid (Gj.out.blk G4.out (fun h=>h));have Ge:=hid (Gj.out.own Dm.out (fun _ _ h=>h));go_wp2_with (at_builtin;refine z3j _ (.tmp 134) (.tmp 136) 34 rfl rfl (mb+2) 3 i0 _ 1 8 Tryz.underlying34 DN DU DV DW rfl ?q1 (c1.dv k) (c1.dl k).length (z1f (c1.dl k)) rfl Ge.out (W4+1) (some (W4,0)) 1 1 [[i]] rfl GI.out ?q6 ?q2 ?q3 ?q4 ?_;(case q1=>omega);(case q6=>(intro u hu;simp at hu;rw[hu];rfl));(case q2=>(have:=Gw.out;unfold maxLen;omega));(case q3=>(have:=Gw.out;omega));(case q4=>(have h1:=Dc.out;have h2:=Gj.out.size;omega));intro A3 n3 c3 W6 hn3 ho3 hg3 Ga;have Ds:=Gd.out.grown hg3 (fun e=>z0l Ge.out Gd.out (by decide) e.symm);have GT:=hid (HM.out.chi.drop (i:=i) hk HM.out.cg Gj.out hg3 ho3 hn3 Ga);have a0:W6.cell? (g,2)=some (c1.dv k):=Ds.cell 2;have z0:W6.frozen? (g,2)=false:=Ds.frozen 2;clear hn3 ho3 hg3 Ga Ds)
         go_roundw
         case rel =>
          have HF:Hid (ActI w (W6.setCell (g,2) (.slice A3 n3 c3)) mb (n1+j2+1) s K cs keep (free.take (j2+1)) (c1.drop k A3 c3 i)):=hid (by
           rw[G6.out];obtain⟨e1,e2⟩:=Dk.out;subst e2;exact HM.out.drop hk e1 GT.out.1 GT.out.2)
          first
           |exact⟨j2+1,_,oM,by go_num,HF⟩
           |(
             repeat apply Exists.intro
             refine⟨?_,rfl⟩;exact⟨j2+1,_,oM,by go_num,HF⟩)
         case measure=>simp[Go.RowKit.intOf];omega
        ·have GP:j2=n2:=oM
         have Gv:Hid (ActI w wr mb (n1+n2) s K cs keep free c5):=hid (by
          have h1:=HA.out;have hl:free.length=n2:=by have:=GH.out.1;simp[z0g]at this;omega
          rw[GP,<- hl,List.take_length]at h1;rw[<- hl];exact h1)
         have Gq:decide ((j2:Int)<(n2:Int))=false:=dF;have Gr:decide (j2<n2)=false:=decide_eq_false hlt;clear HA hj hlt GP;have f1:wr.cell? (mb+1,0)=some (.map (some mb)):=Gv.out.vb.cell 0;have Dr:=hid (y8q Gv.out.chi.map hK12 oM);obtain⟨wj,De⟩:∃wj,wr.alloc (.cells #[.map (some mb)] 271)=wj:=⟨_,rfl⟩
         have Db:Hid (ActI w wj mb (n1+n2) s K cs keep free c5):=hid (by
          have h1:=Gv.out;have hb:Blw wr wj:=De▸(Below.refl _ wr).alloc (nL _) _;exact { h1 with chi:=h1.chi.below hb,vb:=h1.vb.below hb h1.vb.lt,below:=h1.below.trans (hb.mono h1.below.size),size:=Nat.le_trans h1.size hb.size })
         rw[De]at Dr;go_wp2_with (first
          |(go_at_call 185;refine(y2t _ _).mono ?_;rintro e wk⟨rfl,rfl⟩;rw[De];clear De)
          |(go_at_call 184;refine Dr.out.mono ?_;rintro e W0⟨A0,m0,c0,ks,rfl,DT,DP,DO,Fu,GR,GJ⟩;refine stop ?_))
         unfold Stop;clear Gq Gr f1;have Gg:Hid (ActI w W0 mb (n1+n2) s K cs keep free c5):=hid (by
          have h1:=Db.out;exact { h1 with chi:=h1.chi.below GJ,vb:=h1.vb.below GJ h1.vb.lt,below:=h1.below.trans (GJ.mono h1.below.size),size:=Nat.le_trans h1.size GJ.size })
         have Fj:=hid (z0d.of_own GR);have DF:=hid DT;have DD:Hid (∀k,k∈ks↔k<K/\(tlOf s cs keep k≠[]\/dlOf s cs free k≠[])):=hid (fun k=>by
          rw[DP k];exact⟨fun⟨h1,h2⟩=>⟨h1,(Db.out.cbs k h1).1 h2⟩,fun⟨h1,h2⟩=>⟨h1,(Db.out.cbs k h1).2 h2⟩⟩)
         have Dl:Hid (m0<=12/\ks.length=m0):=hid ⟨oM,DO⟩;have Gb:Hid (Blw w W0):=hid Gg.out.below;clear DT DP DO Fu GR GJ Dr Gv Db;go_wp2;obtain⟨k0,Fs,F2,F3,F4⟩:=info_parts z1l;go_loopw [28,145] (fun ws i wr=>∃(j:Nat)(A:Option Addr)(m c:Nat)(V:Nat->Nat),j<=m0/\ws=.slice A m c/\i=↑[j]/\Hid (wr.ownsRow W0 117 2 (.slice A m c) m (z0a ((ks.take j).flatMap fun k=>chgW (s+32*k) (cs k).cl (cs k).bs (tlOf s cs keep k) (dlOf s cs free k) (V k))))/\Hid (∀k∈ks.take j,Bits (V k) (cs k).cl (actB (cs k).bs (tlOf s cs keep k) (dlOf s cs free k)))/\Hid (Blw W0 wr)) (fun _ i _=>m0-(Go.RowKit.intOf i).toNat)
         case atStart=>exact⟨0,none,0,0,fun _=>0,Nat.zero_le _,rfl,rfl,hid (World.ownsRow_nil _ _ _ _),hid (fun k hk=>by simp at hk),hid (Below.refl _ _)⟩
         case round =>
          obtain⟨j,A,m,c,V,hj,rfl,rfl,HO,D1,HB⟩:=hrel;by_cases hlt:j<m0
          ·obtain⟨hl,b,Dh,Fl,G1,f0⟩:=w5x (Fj.out.below HB.out) hlt
           subst Fl;have Dv:j<ks.length:=by have:=Dl.out.2;omega
           obtain⟨Gf,Gp⟩:=(DD.out _).1 (List.getElem_mem Dv);have G6:Hid (ks.take (j+1)=ks.take j++[ks[j]]):=hid (List.take_succ_eq_append_getElem Dv);have DG:Hid (ks[j]∉ks.take j):=hid (fun hm=>by
            have h1:=DF.out;rw[<- List.take_append_drop j ks,List.nodup_append]at h1;have h2:ks[j]∈ks.drop j:=by
             rw[List.drop_eq_getElem_cons Dv];exact List.mem_cons_self
            exact h1.2.2 _ hm _ h2 rfl)
           rw[List.getElem_map]at f0;clear G1;generalize ks[j]=k at*;obtain⟨Fm,GW,GX,GV⟩:=x4e DC.out D8.out Ff.out Gp;have F5:=Gg.out.chi.below HB.out;have G5:=HD.out.chw Gf Fm;have Dw:=HD.out.line Gf;have DJ:=hid (z4u (HD.out.dev.below (Gb.out.trans (HB.out.mono Gb.out.size))) (HD.out.tab.below (Gb.out.trans (HB.out.mono Gb.out.size))) (HD.out.pay.below (Gb.out.trans (HB.out.mono Gb.out.size))) (s+32*k) (cs k).cl (cs k).g Dw G5.cls G5.g0 G5.g1 G5.hdr);have F1:wr.cell? (x.h,0)=some ↑(57,a.th 0,0):=(HD.out.hs.heap.below (Gb.out.trans (HB.out.mono Gb.out.size)) HD.out.hs.heap.lt).cell 0;have GS:s+32*k<9000000000:=by have:=HD.out.line Gf;have:=HD.out.hL;omega
           obtain⟨v,hv⟩:∃v:Int,((s+32*k:Nat):Int)=v:=⟨_,rfl⟩
           have HV:=hid hv;rw[hv]at f0;have Gx:Hid (() 151 #[memV a,[v]] wr fun e w'=>e=.returned (.tuple #[chV a (s+32*k) (cs k).cl 0 (cs k).g,()])/\Blw wr w'):=hid (by rw[<- hv];exact DJ.out);have Df:(0:Int)<=(j:Int):=oM;have Dg:(j:Int)<(m0:Int):=oM;have Fa:=hid (And.intro GW (And.intro GX GV));clear hv DJ GW GX GV;unfold chV memV at*;rw[HV.out]at Gx;go_upto_region 41 with fail
           go_wp2_with (go_at_call 151;refine Gx.out.mono ?_;rintro e w3⟨rfl,Ga⟩;have Gc:=hid Ga;clear Ga)
           obtain⟨g,hg⟩:∃g,c5.cb k=some g:=Option.isSome_iff_exists.1 ((Gg.out.cbs k Gf).2 Gp);have F6:=hid Gf;generalize hW4:w3.alloc (.cells #[(57,a.th 0,0),[v],.int .i64 ((cs k).cl:Int),(),.int .u16 ((cs k).g:Int)] 251)=W4 at*;have G0:Blw wr W4:=Gc.out.trans (hW4▸(Below.refl _ w3).alloc (Gc.out.size) _);have Du:Blk W4 w3 251 #[(57,a.th 0,0),[v],.int .i64 ((cs k).cl:Int),(),.int .u16 ((cs k).g:Int)]:=hW4▸Blk.new w3 _ _;have Dd:Blw w W4:=(Gb.out.trans (HB.out.mono Gb.out.size)).trans (G0.mono (Nat.le_trans Gb.out.size HB.out.size));have GC:Hid (Blw W0 W4):=hid (HB.out.trans (G0.mono HB.out.size));have G9:=Gg.out.chi.below GC.out;have Dy:=Gg.out.vb.below GC.out Gg.out.vb.lt;have G2:=(G9.blk k g Gf hg).1;have Gk:Hid (∀w',Blw W4 w'->(Blk w' w3 251 #[(57,a.th 0,0),[v],.int .i64 ((cs k).cl:Int),(),.int .u16 ((cs k).g:Int)])/\w'.cell? (mb+1,0)=some (.map (some mb))/\(Instr.lookup 271 (.map (some mb)) [v] false).run Tryz.prog w'=.ok (g,0) w'/\w'.cell? (g,0)=some (.slice (c5.tA k) (c5.tl k).length (c5.tc k))/\w'.cell? (g,1)=some (.slice (c5.kA k) (c5.tl k).length (c5.kc k))/\w'.cell? (g,2)=some (.slice (c5.dA k) (c5.dl k).length (c5.dc k))):=hid (fun w' hw=>by
            have hl:=(G9.below hw).map.look Gf GS;rw[hg,HV.out]at hl;have hb:=G2.below hw G2.lt;exact⟨Du.below hw Du.lt,(Dy.below hw Dy.lt).cell 0,hl,hb.cell 0,hb.cell 1,hb.cell 2⟩)
           obtain⟨GW,GX,GV⟩:=Fa.out;have G8:=Gg.out.tl k Gf;have G7:=Gg.out.dl k Gf;have DK:=hid G8;have D4:=hid G7;have DQ:(c5.tl k).length<=60:=by
            rw[G8];have h1:=y7k s cs keep k;have h2:=GG.out.1;simp[z0g]at h2;omega
           have DR:(c5.dl k).length<=60:=by
            rw[G7];have h1:=y6l s cs free k;have h2:=GH.out.1;simp[z0g]at h2;omega
           have GY:=hid (y6f (HD.out.dev.below Dd.drew) (HD.out.tab.below Dd.drew) (HD.out.pay.below Dd.drew) (s+32*k) (cs k).cl (cs k).g _ (cs k).bs Dw G5 (c5.tA k) (c5.kA k) (c5.dA k) (c5.tl k).length (c5.tc k) (c5.kc k) (c5.dl k).length (c5.dc k) (c5.tl k) (c5.dl k) (w:=W4.drew) (z0d.of_own (G9.o1 k Gf)) (z0d.of_own (G9.o2 k Gf)) (z0d.of_own (G9.o3 k Gf)) (by rw[G8,G7];exact GW) (by rw[G8];exact GX) (by rw[G7];exact GV) (by
            rw[G8,G7];rcases Gp with h|h
            ·exact .inl (List.length_pos_iff.2 h)
            ·exact .inr (List.length_pos_iff.2 h)) oM oM)
           have DH:=hid ((Chg.of_below (S:=Fp.no) G0).own HO.out (fun _ _ h=>h));have Fd:=hid (And.intro DQ DR);unfold chV memV at GY;rw[HV.out]at GY;clear hW4 G0 Du Dd G9 Dy G2 GW GX GV G8 G7 DQ DR G5 Dw hg Gf Gp Gx HO f0;refine z0e (fun w'=>Blw W4 w') 23 [21,22] [(1,0),(1,1),(1,2),(1,3),(1,4),(1,5),(1,6),(1,7),(1,8),(1,9),(1,10),(1,11),(1,12),(1,13),(1,14),(1,15),(1,16),(1,17),(1,18),(0,19),(0,20),(2,21),(2,22)] (by kernel_rfl) (by kernel_rfl) (Below.refl _ _).drew ?_;refine tkH (.agg #[(57,a.th 0,0),[v],.int .i64 ((cs k).cl:Int),(),.int .u16 ((cs k).g:Int)]) (fun w' hS=>?_) ?_
           ·(obtain⟨hb,_⟩:=Gk.out w' hS;have f0:w'.cell? (w3,0)=_:=hb.cell 0;have f1:w'.cell? (w3,1)=_:=hb.cell 1;have f2:w'.cell? (w3,2)=_:=hb.cell 2;have f3:w'.cell? (w3,3)=_:=hb.cell 3;have f4:w'.cell? (w3,4)=_:=hb.cell 4;simp at f0 f1 f2 f3 f4)
            go_simp
           refine tkH (.map (some mb)) (fun w' hS=>?_) ?_
           ·obtain⟨_,f1,_⟩:=Gk.out w' hS
            go_simp
           refine tkG [v] ?_;refine tkH (g,0) (fun w' hS=>?_) ?_
           ·obtain⟨_,_,f1,_⟩:=Gk.out w' hS
            go_simp
           refine tkG (g,0) ?_;refine tkG (g,0) ?_;refine tkH (.slice (c5.tA k) (c5.tl k).length (c5.tc k)) (fun w' hS=>?_) ?_
           ·obtain⟨_,_,_,f1,_⟩:=Gk.out w' hS
            go_simp
           refine tkH (.map (some mb)) (fun w' hS=>?_) ?_
           ·obtain⟨_,f1,_⟩:=Gk.out w' hS
            go_simp
           refine tkG [v] ?_;refine tkH (g,0) (fun w' hS=>?_) ?_
           ·obtain⟨_,_,f1,_⟩:=Gk.out w' hS
            go_simp
           refine tkG (g,0) ?_;refine tkG (g,1) ?_;refine tkH (.slice (c5.kA k) (c5.tl k).length (c5.kc k)) (fun w' hS=>?_) ?_
           ·obtain⟨_,_,_,_,f1,_⟩:=Gk.out w' hS
            go_simp
           refine tkH (.map (some mb)) (fun w' hS=>?_) ?_
           ·obtain⟨_,f1,_⟩:=Gk.out w' hS
            go_simp
           refine tkG [v] ?_;refine tkH (g,0) (fun w' hS=>?_) ?_
           ·obtain⟨_,_,f1,_⟩:=Gk.out w' hS
            go_simp
           refine tkG (g,0) ?_;refine tkG (g,2) ?_;refine tkH (.slice (c5.dA k) (c5.dl k).length (c5.dc k)) (fun w' hS=>?_) ?_
           ·obtain⟨_,_,_,_,_,f1⟩:=Gk.out w' hS
            go_simp
           refine z0c (by rfl) ?_;go_wp2_with (go_at_call 186;refine GY.out.mono ?_;rintro e W5⟨A5,m5,c6,V5,rfl,GL,GQ,GK⟩)
           have Dj:=hid GL;have Gm:=hid GQ;have Gi:Hid (Blw W4 W5):=hid ((Below.refl _ W4).drew.trans GK);clear GL GQ GK Gk GY;refine⟨Gi.out,?_⟩;refine z0c (by rfl) ?_;go_wp2_with fail
           refine⟨Gi.out,?_⟩;refine z1t (.slice A5 m5 c6) (by rfl) (by rfl) (fun w' hS=>?_) ?_
           ·go_simp
           simp only[zA,zB,zC,Act.put,zD,zE,zF];refine z1t () (by rfl) (by rfl) (fun w' hS=>?_) ?_
           ·go_simp
           simp only[zA,zB,zC,Act.put,zD,zE,zF];show wpList _ _ _ _ _ _;simp only[List.drop_succ_cons,List.drop_zero];go_wp2;refine NoPanic.normal ?_;have F8:m5<=121:=by
            have h1:=Gm.out.1;rw[z1a,y6g]at h1;have:=Fd.out;omega
           have F7:m<=121*j:=by
            have h1:=DH.out.1;rw[z1a]at h1;have h2:=y2k (f:=fun k=>chgW (s+32*k) (cs k).cl (cs k).bs (tlOf s cs keep k) (dlOf s cs free k) (V k)) (B:=121) (ks.take j) (fun x _=>by
             rw[y6g];have h3:=y7k s cs keep x;have h4:=y6l s cs free x;have h5:=GG.out.1;have h6:=GH.out.1;simp[z0g]at h5 h6;omega)
            have h3:=List.length_take_le j ks;have h4:121*(ks.take j).length<=121*j:=Nat.mul_le_mul_left _ h3;omega
           have Fo:j<=12:=by have:=Dl.out.1;omega
           have DI:=hid ((Chg.of_below (S:=Fp.no) Gi.out).own DH.out (fun _ _ h=>h));have GI:=hid (z0d.of_own Gm.out);have Fh:=hid (z8a (chgW (s+32*k) (cs k).cl (cs k).bs (c5.tl k) (c5.dl k) V5));have DY:Hid (z0a ((ks.take j).flatMap fun k=>chgW (s+32*k) (cs k).cl (cs k).bs (tlOf s cs keep k) (dlOf s cs free k) (V k))++z0a (chgW (s+32*k) (cs k).cl (cs k).bs (c5.tl k) (c5.dl k) V5)=z0a ((ks.take (j+1)).flatMap fun k'=>chgW (s+32*k') (cs k').cl (cs k').bs (tlOf s cs keep k') (dlOf s cs free k') (updX V k V5 k'))):=hid (by
            rw[G6.out,List.flatMap_append,List.flatMap_singleton];have e1:((ks.take j).flatMap fun k'=>chgW (s+32*k') (cs k').cl (cs k').bs (tlOf s cs keep k') (dlOf s cs free k') (updX V k V5 k'))=(ks.take j).flatMap fun k=>chgW (s+32*k) (cs k).cl (cs k).bs (tlOf s cs keep k) (dlOf s cs free k) (V k):=y0j _ (fun y hy=>by
             rw[z1j (fun e=>DG.out (by rw[<- e];exact hy))])
            rw[e1,z1u,<- DK.out,<- D4.out];unfold z0a;rw[List.flatMap_append])
           generalize z0a ((ks.take j).flatMap fun k=>chgW (s+32*k) (cs k).cl (cs k).bs (tlOf s cs keep k) (dlOf s cs free k) (V k))=xs at*;have Dq:=hid Gm.out;generalize hnw:z0a (chgW (s+32*k) (cs k).cl (cs k).bs (c5.tl k) (c5.dl k) V5)=nw at*;clear hnw Gm Dq;have DE:Hid (W0.heap.size<=W5.heap.size):=hid (Nat.le_trans GC.out.size Gi.out.size);go_wp2_with (at_builtin;refine z3j _ (.tmp 187) (.tmp 188) 118 rfl rfl W0 117 k0 _ 2 16 Tryz.underlying118 Fs F2 F3 F4 rfl ?q1 (.slice A m c) m xs rfl DI.out W5 A5 m5 c6 nw rfl GI.out Fh.out ?q2 ?q3 ?q4 ?_;(case q1=>omega);(case q2=>(unfold maxLen;omega));(case q3=>omega);(case q4=>exact DE.out);intro A3 n3 c3 W6 hn3 ho3 hg3 Ga;have Do:=hid ho3;have D0:Hid (Blw W0 W6):=hid ((GC.out.trans (Gi.out.mono GC.out.size)).grown hg3 DE.out (fun i hi=>(DI.out.lt i hi).1));clear hn3 ho3 hg3 Ga)
           go_roundw
           case rel =>
            have D7:Hid (W6.ownsRow W0 117 2 (.slice A3 n3 c3) n3 (z0a ((ks.take (j+1)).flatMap fun k'=>chgW (s+32*k') (cs k').cl (cs k').bs (tlOf s cs keep k') (dlOf s cs free k') (updX V k V5 k')))):=hid (by rw[<- DY.out];exact Do.out);have D6:Hid (∀k'∈ks.take (j+1),Bits (updX V k V5 k') (cs k').cl (actB (cs k').bs (tlOf s cs keep k') (dlOf s cs free k'))):=hid (fun k' hk'=>by
             rw[G6.out]at hk';rcases List.mem_append.1 hk' with h|h
             ·rw[z1j (fun e=>DG.out (by rw[<- e];exact h))]
              exact D1.out k' h
             ·rw[List.mem_singleton]at h
              subst h;rw[z1u,<- DK.out,<- D4.out];exact Dj.out)
            first
             |exact⟨j+1,A3,n3,c3,updX V k V5,oM,rfl,by go_num,D7,D6,D0⟩
             |(
               repeat apply Exists.intro
               refine⟨?_,rfl⟩;exact⟨j+1,A3,n3,c3,updX V k V5,oM,rfl,by go_num,D7,D6,D0⟩)
           case measure=>simp[Go.RowKit.intOf];omega
          ·have Gq:decide ((j:Int)<(m0:Int))=false:=dF
           have Gr:decide (j<m0)=false:=decide_eq_false hlt;have DZ:Hid (x0u w s K cs keep free (.returned (.tuple #[.slice A m c,()])) wr):=hid (by
            have Fq:ks.take j=ks:=List.take_of_length_le (by have:=Dl.out.2;omega);have h1:=HO.out;have h2:=D1.out;rw[Fq]at h1 h2;exact⟨A,m,c,ks,V,rfl,DF.out,DD.out,h2,h1.mono Gb.out.size,Gb.out.trans (HB.out.mono Gb.out.size)⟩)
           have DX:=hid (D5.out _ (Gb.out.trans (HB.out.mono Gb.out.size)));have F1:wr.cell? (x.h,0)=some ↑(57,a.th 0,0):=(HD.out.hs.heap.below (Gb.out.trans (HB.out.mono Gb.out.size)) HD.out.hs.heap.lt).cell 0;clear Gg hlt hj;go_wp2_with (go_at_call 76;refine DX.out.mono ?_;rintro e W2⟨rfl,rfl⟩)
           go_ret2;exact DZ.out
end
end
section
open Go.RowKit Go.Maps
section
variable{ln cl V:Nat}{bs:Nat->BK}{take:List (Nat×Nat)}{drop:List Nat}
theorem y6h{e}(h:e∈chgW ln cl bs take drop V):(∃x∈take,e=(64*ln+8*offB cl x.1,(z3c (bs x.1) x.2).w))\/(∃i∈drop,e=(64*ln+8*offB cl i,(z2c (bs i)).w))\/e=(64*ln+8,V):=by
 unfold chgW tkW drW at h;rcases List.mem_append.1 h with h|h
 ·rcases List.mem_append.1 h with h|h
  ·obtain⟨x,hx,rfl⟩:=List.mem_map.1 h
   exact .inl ⟨x,hx,rfl⟩
  ·obtain⟨x,hx,rfl⟩:=List.mem_map.1 h
   exact .inr (.inl ⟨x,hx,rfl⟩)
 ·exact .inr (.inr (List.mem_singleton.1 h))
theorem w9m(h1:∀e∈take,e.1<perC cl)(h2:∀i∈drop,i<perC cl){e}(h:e∈chgW ln cl bs take drop V):e.1%8=0/\z8q ln cl (e.1/8)/\e.1/8≠8*ln/\64*ln<=e.1/\e.1<64*ln+2048/\(e.1/8=8*ln+1\/8*ln+8<=e.1/8):=by
 have hb:∀i,i<perC cl->(64*ln+8*offB cl i)%8=0/\z8q ln cl ((64*ln+8*offB cl i)/8)/\(64*ln+8*offB cl i)/8≠8*ln/\64*ln<=64*ln+8*offB cl i/\64*ln+8*offB cl i<64*ln+2048/\((64*ln+8*offB cl i)/8=8*ln+1\/8*ln+8<=(64*ln+8*offB cl i)/8):=fun i hi=>by
  have h3:=off_lt hi;have h4:=z2y cl i;refine⟨oM,.inr ⟨i,hi,oM⟩,oM,oM,oM,.inr oM⟩
 rcases y6h h with ⟨x,hx,rfl⟩|⟨i,hi,rfl⟩|rfl
 ·exact hb _ (h1 x hx)
 ·exact hb _ (h2 i hi)
 ·exact⟨by show(64*ln+8)%8=0;omega,.inl (by show 8*ln<=(64*ln+8)/8/\(64*ln+8)/8<8*ln+8;omega),by show(64*ln+8)/8≠8*ln;omega,by show 64*ln<=64*ln+8;omega,by show 64*ln+8<_;omega,.inl (by show(64*ln+8)/8=_;omega)⟩
theorem x6w(hn:(take.map (·.1)++drop).Nodup):((chgW ln cl bs take drop V).map (·.1)).Nodup:=by
 unfold chgW tkW drW;rw[List.map_append,List.map_append,List.map_map,List.map_map];have e:take.map ((fun x:Nat×Nat=>x.1)∘fun e=>(64*ln+8*offB cl e.1,(z3c (bs e.1) e.2).w))++drop.map ((fun x:Nat×Nat=>x.1)∘fun i=>(64*ln+8*offB cl i,(z2c (bs i)).w))=(take.map (·.1)++drop).map fun i=>64*ln+8*offB cl i:=by
  rw[List.map_append,List.map_map];rfl
 rw[e,List.nodup_append];refine⟨List.pairwise_map.2 (hn.imp (fun hne e=>hne (y1c (c:=cl) oM))),by simp,?_⟩;intro a ha b hb e;obtain⟨i,_,rfl⟩:=List.mem_map.1 ha;simp at hb;have:=z2y cl i;omega
theorem w4y(hV:V<18446744073709551616)(h1:∀e∈take,(bs e.1).In/\e.2<128)(h2:∀i∈drop,(bs i).In){e}(h:e∈chgW ln cl bs take drop V):e.2<18446744073709551616:=by
 rcases y6h h with ⟨x,hx,rfl⟩|⟨i,hi,rfl⟩|rfl
 ·exact BK.w_lt (y3g (h1 x hx).1 (by have:=(h1 x hx).2;omega))
 ·exact BK.w_lt (y2l (h2 i hi))
 ·exact hV
theorem y5z(hn:(take.map (·.1)++drop).Nodup){e}(he:e∈take):actB bs take drop e.1=z3c (bs e.1) e.2:=by
 obtain⟨n1,n2,n3⟩:=List.nodup_append.1 hn;have h1:=z4c (fun i:Nat=>i) (fun i=>z2c (bs i)) e.1 drop (tkB bs take) (fun h=>by
  rw[show drop.map (fun i:Nat=>i)=drop from List.map_id' drop]at h;exact n3 _ (List.mem_map.2 ⟨e,he,rfl⟩) _ h rfl)
 have h2:=y6n (fun e:Nat×Nat=>e.1) (fun e=>z3c (bs e.1) e.2) take bs n1 e he;exact h1.trans h2
theorem x1u(hn:(take.map (·.1)++drop).Nodup){i}(hi:i∈drop):actB bs take drop i=z2c (bs i):=by
 obtain⟨n1,n2,n3⟩:=List.nodup_append.1 hn;exact y6n (fun i:Nat=>i) (fun i=>z2c (bs i)) drop (tkB bs take) (by rw[show drop.map (fun i:Nat=>i)=drop from List.map_id' drop];exact n2) i hi
theorem y5y{i}(h1:i∉take.map (·.1))(h2:i∉drop):actB bs take drop i=bs i:=by
 have h3:=z4c (fun i:Nat=>i) (fun i=>z2c (bs i)) i drop (tkB bs take) (fun h=>by
  rw[show drop.map (fun i:Nat=>i)=drop from List.map_id' drop]at h;exact h2 h)
 have h4:=z4c (fun e:Nat×Nat=>e.1) (fun e=>z3c (bs e.1) e.2) i take bs h1;exact h3.trans h4
end
def z4d(s:Nat)(cs:Nat->CS)(k i:Nat):Prop:=if (cs k).dv then z8q (s+32*k) (cs k).cl i else i=8*(s+32*k)
structure UOk(L s0 s K:Nat)(cs:Nat->CS)(us:List (Nat×Nat)):Prop where
 off:∀e∈us,z3e L s0 26 e.1
 val:∀e∈us,e.2<18446744073709551616
 free:∀e∈us,∀k,k<K->¬z4d s cs k (e.1/8)
 nd:(us.map (·.1)).Nodup
structure AOk(s K:Nat)(cs:Nat->CS)(ks:List Nat)(tl:Nat->List (Nat×Nat))(dl:Nat->List Nat)(V:Nat->Nat):Prop where
 nd:ks.Nodup
 lt:∀k∈ks,k<K/\(cs k).dv=true
 once:∀k∈ks,((tl k).map (·.1)++dl k).Nodup
 tk:∀k∈ks,∀e∈tl k,e.1<perC (cs k).cl/\((cs k).bs e.1).st=176/\0<e.2/\e.2<128
 dr:∀k∈ks,∀i∈dl k,i<perC (cs k).cl/\((cs k).bs i).st=177
 bits:∀k∈ks,Bits (V k) (cs k).cl (actB (cs k).bs (tl k) (dl k))
def acW(s:Nat)(cs:Nat->CS)(tl:Nat->List (Nat×Nat))(dl:Nat->List Nat)(V:Nat->Nat)(k:Nat):List (Nat×Nat):=chgW (s+32*k) (cs k).cl (cs k).bs (tl k) (dl k) (V k)
def acC(cs:Nat->CS)(ks:List Nat)(tl:Nat->List (Nat×Nat))(dl:Nat->List Nat)(V:Nat->Nat):Nat->CS:=fun k=>if k∈ks then { cs k with V:=V k,bs:=actB (cs k).bs (tl k) (dl k) } else cs k
theorem y4w{f:Nat->List (Nat×Nat)}:∀(ks:List Nat),ks.Nodup->(∀k∈ks,((f k).map (·.1)).Nodup)->(∀k∈ks,∀k'∈ks,k≠k'->∀e∈f k,∀e'∈f k',e.1≠e'.1)->((ks.flatMap f).map (·.1)).Nodup
 |[],_,_,_=>by simp
 |k::ks,hn,h1,h2=>by
  rw[List.nodup_cons]at hn;rw[List.flatMap_cons,List.map_append,List.nodup_append];refine⟨h1 k (by simp),y4w ks hn.2 (fun k' hk'=>h1 k' (by simp[hk'])) (fun a ha b hb=>h2 a (by simp[ha]) b (by simp[hb])),?_⟩;intro x hx y hy e;obtain⟨e1,he1,rfl⟩:=List.mem_map.1 hx;obtain⟨e2,Ga,rfl⟩:=List.mem_map.1 hy;obtain⟨k',hk',Ga⟩:=List.mem_flatMap.1 Ga;exact h2 k (by simp) k' (by simp[hk']) (fun e=>hn.1 (e▸hk')) e1 he1 e2 Ga e
theorem z8k{ws}(h:(ws.map (·.1)).Nodup):Diff ws:=fun i j hi hj hne e=>by
 have hp:ws.Pairwise fun p q=>p.1≠q.1:=List.pairwise_map.1 h
 have h1:=List.pairwise_iff_getElem.1 hp;rcases Nat.lt_or_ge i j with hij|hij
 ·exact h1 i j hi hj hij e
 ·exact h1 j i hj hi oM e.symm
section
variable{a:DA}{L T s n K:Nat}{x:HA}{cs:Nat->CS}{f:Nat->Option Nat}{N m b0:Nat}{S:Fp}{cur:Nat->Nat}{w w':World}{s0:Nat}{us:List (Nat×Nat)}{ks:List Nat}{tl:Nat->List (Nat×Nat)}{dl:Nat->List Nat}{V:Nat->Nat}
theorem AOk.at_(h:AOk s K cs ks tl dl V){k}(hk:k∈ks){e}(he:e∈acW s cs tl dl V k):e.1%8=0/\z8q (s+32*k) (cs k).cl (e.1/8)/\e.1/8≠8*(s+32*k)/\64*(s+32*k)<=e.1/\e.1<64*(s+32*k)+2048/\(e.1/8=8*(s+32*k)+1\/8*(s+32*k)+8<=e.1/8) :=
 w9m (fun e he=>(h.tk k hk e he).1) (fun i hi=>(h.dr k hk i hi).1) he
theorem AOk.mem(_h:AOk s K cs ks tl dl V){e:Nat×Nat}(he:e∈ks.flatMap (acW s cs tl dl V)):∃k∈ks,e∈acW s cs tl dl V k:=by
 obtain⟨k,hk,Ga⟩:=List.mem_flatMap.1 he;exact⟨k,hk,Ga⟩
theorem y2z(hu:UOk L s0 s K cs us)(h:AOk s K cs ks tl dl V):((us++ks.flatMap (acW s cs tl dl V)).map (·.1)).Nodup:=by
 rw[List.map_append,List.nodup_append];refine⟨hu.nd,y4w ks h.nd (fun k hk=>x6w (h.once k hk)) ?_,?_⟩
 ·intro k hk k' hk' hne e he e' he' heq
  have h1:=h.at_ hk he;have h2:=h.at_ hk' he';omega
 ·intro y hy z hz e
  obtain⟨e1,Ga,rfl⟩:=List.mem_map.1 hy;obtain⟨e2,Gb,rfl⟩:=List.mem_map.1 hz;obtain⟨k,hk,Gc⟩:=h.mem Gb;have h1:=(h.at_ hk Gc).2.1;refine hu.free e1 Ga k (h.lt k hk).1 ?_;unfold z4d;rw[(h.lt k hk).2,if_pos rfl,e];exact h1
theorem y7a(hd:DS a L T s n K x cs f N m b0 S cur w)(hs0:s0+26<=s)(hu:UOk L s0 s K cs us)(h:AOk s K cs ks tl dl V):∀e∈us++ks.flatMap (acW s cs tl dl V),z3e L s0 26 e.1:=fun e he=>by
 rcases List.mem_append.1 he with he|he
 ·exact hu.off e he
 ·obtain⟨k,hk,Ga⟩:=h.mem he
  obtain⟨h1,_,_,h4,h5,_⟩:=h.at_ hk Ga;have hl:=hd.line (h.lt k hk).1;exact⟨h1,oM,.inr oM⟩
theorem w2m(hd:DS a L T s n K x cs f N m b0 S cur w)(hu:UOk L s0 s K cs us)(h:AOk s K cs ks tl dl V):∀e∈us++ks.flatMap (acW s cs tl dl V),e.2<18446744073709551616:=fun e he=>by
 rcases List.mem_append.1 he with he|he
 ·exact hu.val e he
 ·obtain⟨k,hk,Ga⟩:=h.mem he
  have hC:=hd.chw (h.lt k hk).1 (h.lt k hk).2;exact w4y (h.bits k hk).lt (fun e he=>⟨hC.inn _ (h.tk k hk e he).1,(h.tk k hk e he).2.2.2⟩) (fun i hi=>hC.inn _ (h.dr k hk i hi).1) Ga
theorem z8x{cm}(_hd:DS a L T s n K x cs f N m b0 S cur w)(_hs0:s0+26<=s)(h:AOk s K cs ks tl dl V)(hlen:(us++ks.flatMap (acW s cs tl dl V)).length<=96){i}(hi:i<8*s0\/8*s0+208<=i)(h1:∀e∈us,e.1/8≠i)(h2:∀k∈ks,∀e∈acW s cs tl dl V k,e.1/8≠i):
  rdG s0 cur (us++ks.flatMap (acW s cs tl dl V)) cm i=cur i:=by
 refine y1e hlen hi (fun e he=>?_);rcases List.mem_append.1 he with he|he
 ·exact h1 e he
 ·obtain⟨k,hk,Ga⟩:=h.mem he
  exact h2 k hk e Ga
theorem v1h{cm k i j}(hd:DS a L T s n K x cs f N m b0 S cur w)(hs0:s0+26<=s)(h:AOk s K cs ks tl dl V)(hlen:(us++ks.flatMap (acW s cs tl dl V)).length<=96)(hk:k<K)(hdv:(cs k).dv=true)(hi:i<perC (cs k).cl)(hj:j<payW (cs k).cl)(h1:∀e∈us,e.1/8≠8*(s+32*k)+offB (cs k).cl i+1+j):
  rdG s0 cur (us++ks.flatMap (acW s cs tl dl V)) cm (8*(s+32*k)+offB (cs k).cl i+1+j)=cur (8*(s+32*k)+offB (cs k).cl i+1+j):=by
 obtain⟨p1,p2,p3,p4⟩:=y1d (ln:=s+32*k) hi hj;refine z8x hd hs0 h hlen (.inr oM) h1 (fun k' hk' e he heq=>?_);obtain⟨q1,q2,q3,q4,q5,_⟩:=h.at_ hk' he;by_cases e1:k'=k
 ·subst e1
  rw[heq]at q2;exact p4 q2
 ·omega
theorem v3q{cm}(hd:DS a L T s n K x cs f N m b0 S cur w)(hs0:s0+26<=s)(hu:UOk L s0 s K cs us)(h:AOk s K cs ks tl dl V)(hlen:(us++ks.flatMap (acW s cs tl dl V)).length<=96):
  ∀k,k<K->CSok (rdG s0 cur (us++ks.flatMap (acW s cs tl dl V)) cm) (s+32*k) (acC cs ks tl dl V k):=fun k hk=>by
 have Gg:∀i,8*(s+32*k)<=i->i<8*(s+32*k)+256->z4d s cs k i->(∀e∈us,e.1/8≠i):=fun i _ _ hl e he heq=>hu.free e he k hk (heq▸hl)
 unfold acC;by_cases hks:k∈ks
 ·rw[if_pos hks]
  have Gb:=(h.lt k hks).2;have hC:=hd.chw hk Gb;have Gh:∀i,z8q (s+32*k) (cs k).cl i->z4d s cs k i:=fun i hi=>by unfold z4d;rw[Gb,if_pos rfl];exact hi
  have Gc:∀e∈acW s cs tl dl V k,rdG s0 cur (us++ks.flatMap (acW s cs tl dl V)) cm (e.1/8)=e.2:=fun e he=>y7c (y7a hd hs0 hu h) (y2z hu h) (List.mem_append.2 (.inr (List.mem_flatMap.2 ⟨k,hks,he⟩)))
  have Ga:∀i,z8q (s+32*k) (cs k).cl i->(∀e∈acW s cs tl dl V k,e.1/8≠i)->rdG s0 cur (us++ks.flatMap (acW s cs tl dl V)) cm i=cur i:=fun i hi hne=>by
   have Gi:=y1a hi;refine z8x hd hs0 h hlen (.inr oM) (Gg i oM oM (Gh i hi)) (fun k' hk' e he=>?_);by_cases e1:k'=k
   ·subst e1;exact hne e he
   ·obtain⟨q1,q2,q3,q4,q5,_⟩:=h.at_ hk' he
    omega
  unfold CSok;show if (cs k).dv=true then _ else _
  rw[if_pos Gb];have Gd:=h.once k hks;refine⟨?_,hC.cls,hC.g0,hC.g1,?_,(h.bits k hks).lt,?_,?_,?_,?_,(h.bits k hks).bit,(h.bits k hks).top⟩
  ·exact(Ga _ (.inl ⟨oM,oM⟩) (fun e he=>by have:=h.at_ hks he;omega)).trans hC.hdr
  ·have h1:=Gc (64*(s+32*k)+8,V k) (by unfold acW chgW;simp)
   have e:(64*(s+32*k)+8)/8=8*(s+32*k)+1:=oM;rw[<- e];exact h1
  ·intro j h2 h8
   exact(Ga _ (.inl ⟨oM,oM⟩) (fun e he=>by have:=h.at_ hks he;omega)).trans (hC.zero j h2 h8)
  ·intro i hi
   show(actB (cs k).bs (tl k) (dl k) i).In;by_cases h1:i∈(tl k).map (·.1)
   ·obtain⟨e,he,rfl⟩:=List.mem_map.1 h1
    rw[y5z Gd he];exact y3g (hC.inn _ hi) (by have:=(h.tk k hks e he).2.2.2;omega)
   ·by_cases h2:i∈dl k
    ·rw[x1u Gd h2]
     exact y2l (hC.inn _ hi)
    ·rw[y5y h1 h2]
     exact hC.inn _ hi
  ·intro i hi
   show(actB (cs k).bs (tl k) (dl k) i).good=true;by_cases h1:i∈(tl k).map (·.1)
   ·obtain⟨e,he,rfl⟩:=List.mem_map.1 h1
    obtain⟨_,t2,t3,t4⟩:=h.tk k hks e he;rw[y5z Gd he];exact x3o (hC.good _ hi) t2 t3 t4
   ·by_cases h2:i∈dl k
    ·rw[x1u Gd h2]
     exact x2k _
    ·rw[y5y h1 h2]
     exact hC.good _ hi
  ·intro i hi
   show _=(actB (cs k).bs (tl k) (dl k) i).w;have e0:(64*(s+32*k)+8*offB (cs k).cl i)/8=8*(s+32*k)+offB (cs k).cl i:=oM;by_cases h1:i∈(tl k).map (·.1)
   ·obtain⟨e,he,rfl⟩:=List.mem_map.1 h1
    rw[y5z Gd he,<- e0];exact Gc _ (by
     unfold acW chgW tkW;exact List.mem_append.2 (.inl (List.mem_append.2 (.inl (List.mem_map.2 ⟨e,he,rfl⟩)))))
   ·by_cases h2:i∈dl k
    ·rw[x1u Gd h2,<- e0]
     exact Gc _ (by
      unfold acW chgW drW;exact List.mem_append.2 (.inl (List.mem_append.2 (.inr (List.mem_map.2 ⟨i,h2,rfl⟩)))))
    ·rw[y5y h1 h2]
     refine(Ga _ (.inr ⟨i,hi,rfl⟩) (fun e he heq=>?_)).trans (hC.word i hi);have h8:=z2y (cs k).cl i;unfold acW at he;rcases y6h he with ⟨y,hy,rfl⟩|⟨i',hi',rfl⟩|rfl
     ·have:offB (cs k).cl y.1=offB (cs k).cl i:=by
       have:(64*(s+32*k)+8*offB (cs k).cl y.1)/8=8*(s+32*k)+offB (cs k).cl i:=heq;omega
      exact h1 (List.mem_map.2 ⟨y,hy,y1c this⟩)
     ·have:offB (cs k).cl i'=offB (cs k).cl i:=by
       have:(64*(s+32*k)+8*offB (cs k).cl i')/8=8*(s+32*k)+offB (cs k).cl i:=heq;omega
      exact h2 (y1c this▸hi')
     ·have:(64*(s+32*k)+8)/8=8*(s+32*k)+offB (cs k).cl i:=heq
      omega
 ·rw[if_neg hks]
  have Ge:∀i,8*(s+32*k)<=i->i<8*(s+32*k)+256->∀k'∈ks,∀e∈acW s cs tl dl V k',e.1/8≠i:=fun i h1 h2 k' hk' e he heq=>by
   obtain⟨q1,q2,q3,q4,q5,_⟩:=h.at_ hk' he;have:k'≠k:=fun e=>hks (e▸hk')
   omega
  have Gf:=hd.ok k hk;cases Gb:(cs k).dv with
  |true =>
   refine Gf.same (fun i h1 h2 h3=>?_);have hl:z4d s cs k i:=by unfold z4d;rw[Gb,if_pos rfl];exact h3 Gb
   exact z8x hd hs0 h hlen (.inr oM) (Gg i h1 h2 hl) (Ge i h1 h2)
  |false =>
   unfold CSok at Gf⊢;rw[Gb]at Gf⊢;simp only[Bool.false_eq_true,if_false]at Gf⊢;obtain⟨o1,o2⟩:=Gf;have hl:z4d s cs k (8*(s+32*k)):=by unfold z4d;rw[Gb];simp
   exact⟨(z8x hd hs0 h hlen (.inr oM) (Gg _ oM oM hl) (Ge _ oM oM)).trans o1,o2⟩
theorem x4c(cs:Nat->CS) ks (tl:Nat->List (Nat×Nat)) (dl:Nat->List Nat) (V:Nat->Nat) k:(acC cs ks tl dl V k).dv=(cs k).dv/\(acC cs ks tl dl V k).cl=(cs k).cl/\(acC cs ks tl dl V k).g=(cs k).g:=by
 unfold acC;split<;>exact⟨rfl,rfl,rfl⟩
theorem Plc.same{p cs cs'}(h:Plc a s K p cs w)(he:∀k,k<K->(cs' k).cls=(cs k).cls/\(cs' k).own=(cs k).own):Plc a s K p cs' w:=by
 obtain⟨h1,Ga,hp,hk⟩:=h;refine⟨h1,Ga,hp,fun k hkK=>?_⟩;obtain⟨q1,q2,q3,q4⟩:=hk k hkK;obtain⟨e1,e2⟩:=he k hkK;exact⟨q1,by rw[e1];exact q2,by rw[e2];exact q3,q4⟩
theorem DS.pub{cm T' S'}(hd:DS a L T s n K x cs f N m b0 S cur w)(hs0:s0+26<=s)(hu:UOk L s0 s K cs us)(h:AOk s K cs ks tl dl V)(hlen:(us++ks.flatMap (acW s cs tl dl V)).length<=96)(hcm:cm<18446744073709551616)
  (hD:Dev a L T' w' S' (rdG s0 cur (us++ks.flatMap (acW s cs tl dl V)) cm) 0) (hc:Chg S w w') (hg:Grew S S' w) :
  DS a L T' s n K x (acC cs ks tl dl V) f N m b0 S' (rdG s0 cur (us++ks.flatMap (acW s cs tl dl V)) cm) w':=by
 have hb:∀i,rdG s0 cur (us++ks.flatMap (acW s cs tl dl V)) cm i<18446744073709551616:=w2q hd.bnd (fun e he=>⟨by have h1:=(y7a hd hs0 hu h e he).lt;have:=hd.hL;omega,w2m hd hu h e he⟩) hcm;obtain⟨o1,o2,o3,o4,o5⟩:=hd.off;obtain⟨l1,l2,l3,l4,l5,l6,l7,l8⟩:=hd.lo;obtain⟨z1,z2,z3,z4,z5⟩:=hd.hs.lt;have Ga:∀g,g<b0->¬S g:=fun g hgb hs=>by have:=l8 g hs;omega
 have Gb:=hd.hs.chg hc o1 o2 o3 o4 o5;refine⟨hD,⟨Gb.heap,Gb.plc.same (fun k hk=>?_),Gb.res,Gb.held,Gb.ne⟩,v3q hd hs0 hu h hlen,hb,fun o p hop=>?_,hd.tab.chg hc (Ga _ l1),fun i hi=>(World.cell?_of_block (w:=w) (hc.block _ hd.pay.size (Ga _ l2))).trans (hd.pay i hi),⟨l1,l2,l3,l4,l5,l6,l7,fun k hk=>?_⟩,⟨?_,?_,?_,?_,?_⟩,hd.hK⟩
 ·obtain⟨e1,e2,e3⟩:=x4c cs ks tl dl V k
  unfold CS.cls CS.own;rw[e1,e2];exact⟨rfl,rfl⟩
 ·obtain⟨k,i,hk,Gc,hi,ho,Gd⟩:=hd.res o p hop
  obtain⟨e1,e2,e3⟩:=x4c cs ks tl dl V k;exact⟨k,i,hk,by rw[e1];exact Gc,by rw[e2];exact hi,by rw[e2];exact ho,Gd⟩
 ·rcases hg k hk with h'|h'
  ·exact l8 k h'
  ·omega
 all_goals
  refine hg.off ⟨?_,?_⟩
  ·omega
  ·assumption
end
end
section
open Go.RowKit Go.Maps
def w7s(a:DA)(L T K b0:Nat)(cs:Nat->CS)(S:Fp)(cur:Nat->Nat)(w:World)(e:Ending)(w':World):Prop:=∃x y,e=.returned (y.g,0)/\BW a L T K x y cs (fun _=>none) 0 0 b0 S cur w'/\Blw w w'
theorem x6s(cs:Nat->CS){a L T K b0 w S cur}(h:Dev a L T w S cur 0)(hdi:a.dirty=fun _=>False)(hL:L=53+32*K)(hK:1<=K)(hK12:K<=12)(ht:Tab w)(hpy:Pay w)(hp:cur (8*0)=0/\cur (8*26)=0/\(∀k,k<K->CSok cur (53+32*k) (cs k))/\∀i,cur i<18446744073709551616)(hb0:2<b0/\0<b0/\b0<=w.heap.size/\∀k,S k->b0<=k):
  () 74 #[(a.d,()),[K]] w (w7s a L T K b0 cs S cur w):=by
 have HD:=hid h;have HT:=hid ht;have HP:=hid hp;have G8:=hid hpy;have GN:=hid hb0;have GQ:=hid (show L=53+32*K/\1<=K/\K<=12 from⟨hL,hK,hK12⟩);have GC:=hid (z9v h);have GP:=hid hdi;have G9:=hid (x0b h 0 26 oM oM);have Ga:Blw w (w.alloc (.cells (z1q a 0 26) 316)):=(Below.refl _ _).alloc (nL _) _;have G0:=hid Ga;have Gv:=hid (Blk.new w 316 (z1q a 0 26));have GA:=hid (y0p (h.below Ga) w.heap.size 0 26 Gv.out oM hp.1);have G6:((32*K:Nat):Int)=32*(K:Int):=oM;have GH:26+26<=L:=oM;have GG:53+32*K<=L:=oM;have GF:32<=32*K:=oM;have GE:32*K/32=K:=oM;have Gd:=hid (show 26+26<=L/\53+32*K<=L/\32<=32*K/\32*K/32=K from⟨GH,GG,GF,GE⟩);clear h ht hp Ga hpy hb0 hL hK GH GG GF GE hdi;unfold memV at*;go_enter Tryz.func74,Tryz.ntmps74
 go_wp2_with (first
  |(go_at_call 38;refine GC.out.mono ?_;rintro e w1⟨rfl,rfl⟩)
  |(go_at_call 131;refine G9.out.mono ?_;rintro e w1⟨rfl,rfl⟩)
  |fail)
 generalize (w.alloc (.cells (z1q a 0 26) 316))=W at*;clear G9 GC;refine GA.out.mono ?_;rintro e W1⟨rfl,Ga⟩;have Gl:=hid (G0.out.trans (Ga.mono G0.out.size));have Gn:=hid (Gv.out.below Ga Gv.out.lt);have G2:=hid (x0o (HD.out.below Gl.out) 26 26 oM Gd.out.1);clear GA Ga Gv G0;unfold memV at G2;go_wp2_with fail
 refine G2.out.mono ?_;rintro e W2⟨rfl,rfl⟩;have Gt:=hid (Gl.out.alloc Gl.out.size (.cells (z0s a 26 26) 258));have Gf:=hid (Gn.out.alloc (.cells (z0s a 26 26) 258));have Gb:=hid (Blk.new W1 258 (z0s a 26 26));have G3:=hid (z5z (HD.out.below Gt.out) W1.heap.size 26 26 Gb.out (by have:=Gd.out.1;omega) oM oM HP.out.2.1);have G7:=hid (Nat.le_trans Gl.out.size (nL W1.heap.size));obtain⟨u,hu⟩:∃u,W1.heap.size=u:=⟨_,rfl⟩
 rw[hu]at Gb G3 G7⊢;generalize W1.alloc (.cells (z0s a 26 26) 258)=W3 at*;clear G2 Gl Gn hu;go_wp2_with fail
 refine G3.out.mono ?_;rintro e W4⟨rfl,Ga⟩;have Ge:=hid (Gt.out.trans (Ga.mono Gt.out.size));have Gg:=hid (Gf.out.below Ga Gf.out.lt);have Gi:=hid (Gb.out.below Ga Gb.out.lt);have Gw:=hid (y6q cs (HD.out.below Ge.out) (HT.out.below Ge.out) (G8.out.below Ge.out) 53 (32*K) K Gd.out.2.2.1 Gd.out.2.1 Gd.out.2.2.2 HP.out.2.2.1);rw[G6]at Gw;clear G3 Ga Gf Gb Gt;unfold memV at Gw;have GD:K<=12:=hK12;go_wp2_with fail
 refine Gw.out.mono ?_;rintro e W5⟨x,GK,rfl,GJ,Gs,Ga⟩;have GR:=hid GK;clear GK;have Gk:=hid (Ge.out.trans (Ga.mono Ge.out.size));have Gh:=hid (Gg.out.below Ga Gg.out.lt);have Gj:=hid (Gi.out.below Ga Gi.out.lt);have Gp:=hid GJ;have Gq:=hid (show w.heap.size<=x.h/\w.heap.size<=x.gs/\w.heap.size<=x.pl/\w.heap.size<=x.mr/\w.heap.size<=x.mh by obtain⟨l1,l2,l3,l4,l5⟩:=Gs;have:=Ge.out.size;exact⟨oM,oM,oM,oM,oM⟩);clear Gw Ga Gg Gi Ge GJ Gs;obtain⟨W6,Gr⟩:∃W6,W5.alloc (.cells (z2p a x.h w.heap.size) 292)=W6:=⟨_,rfl⟩
 obtain⟨W7,Gz⟩:∃W7,W6.alloc (.cells (z5l (some (a.th 0,())) (some (w,())) (some (u,())) (some (x.h,())) none) 140)=W7:=⟨_,rfl⟩
 have GS:Hid (() 156 #[(x.h,()),(a.th 0,()),(w,())] W5 fun e w'=>e=.returned (W5,())/\W6=w'):=hid ((y6w x.h (a.th 0) w.heap.size W5).mono (fun e w' h=>⟨h.1,by rw[<- Gr];exact h.2.symm⟩));have GT:Hid (() 136 #[(a.th 0,()),(w,()),(u,()),(x.h,())] W6 fun e w'=>e=.returned (W6,())/\W7=w'):=hid ((w3h (some (a.th 0,())) (some (w,())) (some (u,())) (some (x.h,())) W6).mono (fun e w' h=>⟨h.1,by rw[<- Gz];exact h.2.symm⟩));have GI:Blw W5 W6:=by rw[<- Gr];exact(Below.refl _ _).alloc (nL _) _
 have G4:Blw W6 W7:=by rw[<- Gz];exact(Below.refl _ _).alloc (nL _) _
 have GM:W6.heap.size=W5.heap.size+1:=by rw[<- Gr];simp
 have G5:Blk W6 W5.heap.size 292 (z2p a x.h w.heap.size):=by rw[<- Gr];exact Blk.new _ _ _
 have GL:Blk W7 W6.heap.size 140 (z5l (some (a.th 0,())) (some (w,())) (some (u,())) (some (x.h,())) none):=by rw[<- Gz];exact Blk.new _ _ _
 have Gc:Hid (Blw W5 W7):=hid (GI.trans (G4.mono oM));have GO:=hid (Gk.out.trans (Gc.out.mono Gk.out.size));have G1:=hid (G5.below G4 G5.lt);have Gx:=hid GL;have GB:=hid (show W6.heap.size=W5.heap.size+1/\w.heap.size<=W5.heap.size from⟨GM,Gk.out.size⟩);clear Gr Gz GI G4 GM G5 GL;go_upto_region 20 with (first
  |(go_at_call 156;refine GS.out.mono ?_;rintro e Wz⟨rfl,rfl⟩)
  |(go_at_call 136;refine GT.out.mono ?_;rintro e Wz⟨rfl,rfl⟩))
 have Gu:=hid (Blk.new W7 60 (y6c a x ⟨W7.heap.size,W5.heap.size,w.heap.size,u,W6.heap.size⟩ K));have Gm:Hid (Blw W7 (W7.alloc (.cells (y6c a x ⟨W7.heap.size,W5.heap.size,w.heap.size,u,W6.heap.size⟩ K) 60))):=hid ((Below.refl _ _).alloc (nL _) _);unfold y6c at Gm Gu;generalize hW8:W7.alloc (.cells #[(a.d,()),(a.th 0,()),(x.h,()),(W5,()),(W6,()),[K]] 60)=W8 at*;have f3:W8.cell? ⟨W7.heap.size,3,none⟩=some (W5,()):=Gu.out.cell 3;have f4:W8.cell? ⟨W7.heap.size,4,none⟩=some (W6,()):=Gu.out.cell 4;have HF:Hid (w7s a L T K b0 cs S cur w (.returned (W7,())) W8):=hid (by
  have Gy:Blw W5 W8:=Gc.out.trans (Gm.out.mono Gc.out.size);have h8:Blw w W8:=Gk.out.trans (Gy.mono Gk.out.size);obtain⟨l1,l2,l3,l4,l5⟩:=Gq.out;obtain⟨b1,b2,b3,b4⟩:=GN.out;obtain⟨k1,k2,k3⟩:=GQ.out;obtain⟨s1,s2⟩:=GB.out;have s7:W6.heap.size<=W7.heap.size:=by have:=Gx.out.lt;omega
  have hS:∀g,w.heap.size<=g->¬S g:=fun g hg hs=>by have:=HD.out.lt _ hs;omega
  have hu:=G7.out;refine⟨x,⟨W7.heap.size,W5.heap.size,w.heap.size,u,W6.heap.size⟩,rfl,⟨⟨⟨HD.out.below h8,Gp.out.below Gy,HP.out.2.2.1,HP.out.2.2.2,fun o p h=>(by cases h),HT.out.below h8,G8.out.below h8,⟨b1,b2,oM,oM,oM,oM,oM,b4⟩,⟨hS _ l1,hS _ l2,hS _ l3,hS _ l4,hS _ l5⟩,⟨Gd.out.2.2.2,k2,Gd.out.2.1,oM⟩⟩,G1.out.below Gm.out G1.out.lt,Gh.out.below Gy Gh.out.lt,HP.out.1,hS _ s2,hS _ (nL _),oM,GR.out⟩,Gu.out,Gj.out.below Gy Gj.out.lt,Gx.out.below Gm.out Gx.out.lt,HP.out.2.1,⟨hS _ (by show w.heap.size<=W7.heap.size;omega),hS _ hu,hS _ (by show w.heap.size<=W6.heap.size;omega)⟩,⟨by show b0<=W7.heap.size;omega,by show b0<=W5.heap.size;omega,b3,by show b0<=u;omega,by show b0<=W6.heap.size;omega⟩,k1,k3,GP.out⟩,h8⟩)
 clear Gk Gh Gj Gp Gq Gc GO G1 Gx GB Gm hW8;go_wp2_with fail
 go_ret;exact HF.out
end
end Go.Proofs.YtmhbokcccjmfgaaGreatDoor
