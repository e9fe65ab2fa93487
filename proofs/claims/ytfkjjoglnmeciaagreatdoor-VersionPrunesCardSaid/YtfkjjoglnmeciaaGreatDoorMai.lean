/- part 9 -/
import Derived.Test.YtfkjjoglnmeciaaGreatDoorMah
set_option maxRecDepth 100000
set_option maxHeartbeats 16000000
namespace Go.Proofs.YtfkjjoglnmeciaaGreatDoor
open Go.Lib (hid)
section
open Go.RowKit
theorem x3g (g n cap sz a b:Nat) (ys:List Nat) (w:World) (h:SX 32 w w g n ys sz) (hb:b<=n) (h8:a+8<=b) (hn:n<=1000000) :
  Calls Tryz.prog 254 #[.slice (some ⟨g,0,none⟩) n cap,.int .i64 a,.int .i64 b] w (w3o w g n ys sz a b):=by
 obtain ⟨l,rfl⟩:∃ l,b=a+l:=⟨b - a,oM⟩
 exact y6a g n cap sz a l ys w h hb oM hn
theorem x6f (g n cap sz a b:Nat) (ys:List Nat) (w:World) (h:SX 32 w w g n ys sz) (hb:b<=n) (h8:a+8<=b) (hn:n<=1000000) (hc:n<=cap) (hcm:cap<=9223372036854775807) :
  Calls Tryz.prog 253 #[.slice (some ⟨g,0,none⟩) n cap,.int .i64 a,.int .i64 b] w (RetX 32 w g n sz a b ys (fun _=>True)):=by
 obtain ⟨l,rfl⟩:∃ l,b=a+l:=⟨b - a,oM⟩
 exact y8s g n cap sz a l ys w h hb oM hn hc hcm
theorem w1l (g n cap sz a b:Nat) (ys:List Nat) (w:World) (h:SX 32 w w g n ys sz) (hb:b<=n) (h8:a+1<=b) (hn:n<=1000000) (hc:n<=cap) (hcm:cap<=9223372036854775807) :
  Calls Tryz.prog 252 #[.slice (some ⟨g,0,none⟩) n cap,.int .i64 a,.int .i64 b] w (RetX 32 w g n sz a b ys (Srt a b)):=by
 obtain ⟨l,rfl⟩:∃ l,b=a+(l+1):=⟨b - a - 1,oM⟩
 exact x3v g n cap sz a l ys w h hb hn hc hcm
def w6o (g n cap sz:Nat) (d:Nat):Prop:=∀ (a b lm:Nat) (w:World) (ys:List Nat),SX 32 w w g n ys sz->Low a b ys->a<=b->b<=n->b - a < d->lm<=64 ->
  Calls Tryz.prog 141 #[.slice (some ⟨g,0,none⟩) n cap,.int .i64 a,.int .i64 b,.int .i64 lm] w (RetX 32 w g n sz a b ys (Srt a b))
theorem x4o (g n cap sz a0 b0 lm0:Nat) (ys0:List Nat) (w:World) (h:SX 32 w w g n ys0 sz) (hlow:Low a0 b0 ys0) (hab0:a0<=b0) (hb0:b0<=n) (hlm0:lm0<=64) (hn:n<=49) (hc:n<=cap) (hcm:cap<=9223372036854775807) (ih:w6o g n cap sz (b0 - a0)) :
  Calls Tryz.prog 141 #[.slice (some ⟨g,0,none⟩) n cap,.int .i64 a0,.int .i64 b0,.int .i64 lm0] w (RetX 32 w g n sz a0 b0 ys0 (Srt a0 b0)):=by
 have H:=hid h;have IH:=hid ih;have Gp:=hid (And.intro (Frm.start a0 b0 ys0) hlow);clear h ih hlow;go_enter Tryz.func141,Tryz.ntmps141
 go_wp2;go_loopw [1,2,3,8,9] (fun va vb vl v8 v9 wr=>∃ (a b lm:Nat) (p q:Bool) (ys:List Nat),va=.int .i64 a/\vb=.int .i64 b/\vl=.int .i64 lm/\v8=.bool p/\v9=.bool q/\a0<=a/\a<=b/\b<=b0/\lm<=64/\Hid (PI a0 b0 ys0 ys)/\Hid (Frm a0 b0 a b ys/\Low a b ys)/\Hid (SX 32 w wr g n ys sz)) (fun va vb _ _ _ _=>(RowKit.intOf vb).toNat - (RowKit.intOf va).toNat)
 case atStart=>exact ⟨a0,b0,lm0,true,true,ys0,rfl,rfl,rfl,rfl,rfl,nL _,hab0,nL _,hlm0,hid (PI.refl _ _ _),Gp,H⟩
 case round =>
  clear H Gp;obtain ⟨a,b,lm,p,q,ys,rfl,rfl,rfl,rfl,rfl,ha,Gu,hb,Ga,HP,HF,H⟩:=hrel;by_cases h12:b - a<=12
  ·have e1:decide ((b:Int) - (a:Int)<=12)=true:=dT
   have HI:=hid (x7k g n cap sz a b ys wr H.out.self Gu oM oM hc hcm);go_wp2_with fail
   refine HI.out.mono ?_;rintro e w1 ⟨rfl,zs,h1,h2,h3⟩;have H1:=hid (show SY 32 w w1 g n sz a0 b0 ys0 (Srt a0 b0) from ⟨zs,H.out.trans h1,HP.out.trans (h2.widen ha hb),(HF.out.1.pi h2 ha hb).done h3⟩);clear h1 h2 h3 HI H HP HF;go_wp2_with fail
   go_end0;exact ⟨rfl,H1.out⟩
  ·have e1:decide ((b:Int) - (a:Int)<=12)=false:=dF
   by_cases hz:lm=0
   ·subst hz
    have HI:=hid (w1l g n cap sz a b ys wr H.out.self oM oM oM hc hcm);go_wp2_with fail
    refine HI.out.mono ?_;rintro e w1 ⟨rfl,zs,h1,h2,h3⟩;have H1:=hid (show SY 32 w w1 g n sz a0 b0 ys0 (Srt a0 b0) from ⟨zs,H.out.trans h1,HP.out.trans (h2.widen ha hb),(HF.out.1.pi h2 ha hb).done h3⟩);clear h1 h2 h3 HI H HP HF;go_wp2_with fail
    go_end0;exact ⟨rfl,H1.out⟩
   ·have e2:((lm:Int) == 0)=false:=by rw [beq_eq_false_iff_ne];omega
    obtain ⟨Gt,rfl⟩:∃ k,lm=k+1:=⟨lm - 1,oM⟩
    have Gg:a+8<=b:=oM;clear h12 hz;go_upto_if 35 with fail
    go_cut [3] from 19 to 133 (fun v wx=>∃ (k:Nat) (ys:List Nat),v=.int .i64 k/\k<=64/\Hid (PI a0 b0 ys0 ys)/\Hid (Frm a0 b0 a b ys/\Low a b ys)/\Hid (SX 32 w wx g n ys sz))
    case first =>
     cases p
     ·have HI:=hid (x6f g n cap sz a b ys wr H.out.self oM Gg oM hc hcm)
      go_wp2_with fail
      refine HI.out.mono ?_;rintro e w1 ⟨rfl,zs,h1,h2,h3⟩;have H1:=hid (H.out.trans h1);have Gn:=hid (HP.out.trans (h2.widen ha hb));have Gl:=hid (And.intro (HF.out.1.pi h2 ha hb) (HF.out.2.pi h2));clear h1 h2 h3 HI H HP HF;go_wp2_with fail
      go_meet;exact ⟨Gt,zs,by go_num,oM,Gn,Gl,H1⟩
     ·go_wp2_with fail
      go_meet;exact ⟨Gt+1,ys,by go_num,oM,HP,HF,H⟩
    case rest =>
     clear H Ga e1 e2 HP HF;obtain ⟨lm,ys,rfl,Ga,HP,HF,H⟩:=hcut;have HC:=hid (x3g g n cap sz a b ys wc H.out.self oM Gg oM);go_wp2_with fail
     refine HC.out.mono ?_;rintro e w1 ⟨m0,k0,rfl,Gh,Gi,h1⟩;have H1:=hid (H.out.trans h1);clear h1 HC H;go_upto_if 50 with fail
     go_cut [11,12] from 19 to 133 (fun v u wx=>∃ (m:Nat) (k:Int) (ys:List Nat),v=.int .i64 m/\u=.int .i64 k/\a<=m/\m < b/\Hid (PI a0 b0 ys0 ys)/\Hid (Frm a0 b0 a b ys/\Low a b ys)/\Hid (SX 32 w wx g n ys sz))
     case first =>
      by_cases hk:k0=2
      ·subst hk
       have HR:=hid (x8q g n cap sz a b ys w1 H1.out.self oM oM oM hc hcm);obtain ⟨m',Gs⟩:∃ m':Nat,(b:Int) - 1 - ((m0:Int) - (a:Int))=(m':Int)/\a<=m'/\m' < b:=⟨b - 1 - (m0 - a),oM,oM,oM⟩
       have HM:=hid Gs;clear Gs;go_wp2_with fail
       refine HR.out.mono ?_;rintro e w2 ⟨rfl,zs,h2,h3,h4⟩;have H2:=hid (H1.out.trans h2);have Gn:=hid (HP.out.trans (h3.widen ha hb));have Gl:=hid (And.intro (HF.out.1.pi h3 ha hb) (HF.out.2.pi h3));clear h2 h3 h4 HR H1 HP HF;go_wp2_with fail
       go_meet;exact ⟨m',1,zs,by first | rfl | exact congrArg (Value.int .i64) HM.out.1,rfl,HM.out.2.1,HM.out.2.2,Gn,Gl,H2⟩
      ·have e3:(k0 == 2)=false:=by rw [beq_eq_false_iff_ne];exact hk
       go_wp2_with fail
       go_meet;exact ⟨m0,k0,ys,rfl,rfl,Gh,Gi,HP,HF,H1⟩
     case rest =>
      clear H1 Gh Gi HP HF;obtain ⟨m,k,ys,rfl,rfl,Gh,Gi,HP,HF,H⟩:=hcut;go_upto_region 15 with fail
      go_cut [68] from 19 to 133 (fun v wx=>∃ bb:Bool,v=.bool bb/\Hid (SX 32 w wx g n ys sz))
      case first =>
       cases p
       ·go_wp2_with fail
        go_meet;exact ⟨false,rfl,H⟩
       ·cases q
        ·go_wp2_with fail
         go_meet;exact ⟨false,rfl,H⟩
        ·go_wp2_with fail
         go_meet;exact ⟨_,rfl,H⟩
      case rest =>
       clear H;obtain ⟨bb,rfl,H⟩:=hcut;go_upto_if 68 with fail
       go_cut [13] from 19 to 133 (fun _ wx=>Hid (SX 32 w wx g n ys sz))
       case first =>
        cases bb
        ·go_wp2_with fail
         go_meet;exact H
        ·have HT:=hid (y4w g n cap sz a b ys wc H.out.self oM oM oM oM)
         go_wp2_with fail
         refine HT.out.mono ?_;rintro e w2 ⟨c,rfl,h2,h3⟩;have H2:=hid (H.out.trans h2);have HS:=hid h3;clear h2 h3 HT H;cases c
         ·go_wp2_with fail
          go_meet;exact H2
         ·go_wp2_with fail
          go_end0;exact ⟨rfl,ys,H2.out,HP.out,HF.out.1.done (HS.out (by trivial))⟩
       case rest =>
        clear H;have H:=hcut;clear hcut;go_upto_region 17 with fail
        go_cut [87] from 19 to 133 (fun v wx=>∃ bb:Bool,v=.bool bb/\Hid (bb=true->0 < a/\gv ys m<=gv ys (a - 1))/\Hid (SX 32 w wx g n ys sz))
        case first =>
         by_cases ha:0 < a
         ·obtain ⟨a',rfl⟩:∃ a',a=a'+1:=⟨a - 1,oM⟩
          have f0:decide ((0:Int) < (a':Int)+1)=true:=dT;have f1:(a':Int) < (n:Int):=oM;have f2:(m:Int) < (n:Int):=oM;have f3:IntKind.i64.wrap (a':Int)=(a':Int):=by rw [IntKind.wrap_i64];omega
          generalize wc=wr at *;go_wp2_with fail
          obtain ⟨x1,c1,z1,d1⟩:=H.out.at_ (i:=a') oM;obtain ⟨x2,c2,z2,d2⟩:=H.out.at_ (i:=m) oM;obtain ⟨bb,Gk,Gr⟩:=z5j x1 x2;rw [d1.out,d2.out] at Gk;have Gb:=hid Gk;clear Gk;clear d1 d2;go_quiet ((go_at_call 257;exact Calls.quiet_of_same (Gr.out _)))
          have H1:=hid (H.out.drewN nq);clear c1 c2 z1 z2 H Gr;go_wp2_with fail
          go_meet;refine ⟨_,rfl,hid (fun hh=>⟨oM,?_⟩),H1⟩;have hf:bb=false:=by
           cases bb
           ·rfl
           ·cases hh
          rw [hf] at Gb;exact Nat.not_lt.mp (of_decide_eq_false Gb.out.symm)
         ·have f0:decide ((0:Int) < (a:Int))=false:=dF
          go_quiet (fail)
          have H1:=hid (H.out.drewN nq);go_wp2_with fail
          go_meet;exact ⟨false,rfl,hid (fun hh=>by cases hh),H1⟩
        case rest =>
         clear H;obtain ⟨bb,rfl,Gb,H⟩:=hcut;cases bb
         ·have HQ:=hid (x4n g n cap sz a b m ys wc H.out.self oM oM Gh Gi oM hc hcm)
          clear Gb;go_wp2_with fail
          refine HQ.out.mono ?_;rintro e w2 ⟨m2,c,rfl,g1,g2,zs,h2,h3,h4⟩;have H2:=hid (H.out.trans h2);have Ge:=hid (HP.out.trans (h3.widen ha hb));have Gd:=hid (HF.out.1.pi h3 ha hb);have Gj:=hid (HF.out.2.pi h3);have Gf:=hid h4;clear h2 h3 h4 HQ H HP HF;have I1:=hid (IH.out a m2 lm w2 zs H2.out.self (fun i i0 i1 i2=>Gj.out i i0 i1 oM) g1 oM oM Ga);have i2:=IH.out (m2+1) b lm w2 zs H2.out.self Gf.out.low oM oM oM Ga;rw [show ((m2+1:Nat):Int)=(m2:Int)+1 by omega] at i2;have I2:=hid i2;clear i2;by_cases hlr:m2 - a < b - m2
          ·have e3:decide ((m2:Int) - (a:Int) < (b:Int) - (m2:Int))=true:=dT
           go_wp2_with fail
           refine I1.out.mono ?_;rintro e w3 ⟨rfl,ys,h3,h4,h5⟩;have H3:=hid (H2.out.trans h3);have Go:=hid (Ge.out.trans (h4.widen ha oM));have Gc:=Gf.out.pi_l h4 g2;have Gm:=hid (And.intro ((Gd.out.pi (h4.widen (nL _) oM) ha hb).right Gc h5 g1 g2) Gc.low);clear h3 h4 h5 H2 I1 I2 Ge Gd Gj Gf Gc;go_wp2_with fail
           go_roundw
           case rel=>exact ⟨m2+1,b,lm,_,c,ys,by go_num,rfl,rfl,rfl,rfl,oM,oM,hb,Ga,Go,Gm,H3⟩
           case measure=>simp [RowKit.intOf];omega
          ·have e3:decide ((m2:Int) - (a:Int) < (b:Int) - (m2:Int))=false:=dF
           go_wp2_with fail
           refine I2.out.mono ?_;rintro e w3 ⟨rfl,ys,h3,h4,h5⟩;have H3:=hid (H2.out.trans h3);have Go:=hid (Ge.out.trans (h4.widen oM hb));have Gc:=Gf.out.pi_r h4;have Gq:=Gj.out.pi (h4.widen (show a<=m2+1 by omega) (nL b));have Gm:=hid (And.intro ((Gd.out.pi (h4.widen (show a<=m2+1 by omega) (nL _)) ha hb).left Gc h5 g1 g2) (show Low a m2 ys from fun i i0 i1 i2=>Gq i i0 i1 oM));clear h3 h4 h5 H2 I1 I2 Ge Gd Gj Gf Gc Gq;go_wp2_with fail
           go_roundw
           case rel=>exact ⟨a,m2,lm,_,c,ys,rfl,rfl,rfl,rfl,rfl,ha,g1,oM,Ga,Go,Gm,H3⟩
           case measure=>simp [RowKit.intOf];omega
         ·have HQ:=hid (y7o g n cap sz a b m ys wc H.out.self oM oM Gh Gi oM hc hcm)
          go_wp2_with fail
          refine HQ.out.mono ?_;rintro e w2 ⟨m2,rfl,g1,g2,zs,h2,h3,h4,h5⟩;have H2:=hid (H.out.trans h2);have Ge:=hid (HP.out.trans (h3.widen ha hb));have hB:=Gb.out (by trivial);have hL:=HF.out.2.pi h3;have hO:=h3.out (a - 1) (.inl oM);have Gd:=hid (And.intro ((HF.out.1.pi h3 ha hb).equal h4 (fun i i1 i2=>by
           have:=hL i hB.1 i1 i2;have:=hB.2;omega) g1 g2) (h4.low g1))
          clear h2 h3 h4 h5 hB hL hO HQ H HP HF Gb;go_wp2_with fail
          go_roundw
          case rel=>exact ⟨m2,b,lm,p,q,zs,rfl,rfl,rfl,rfl,rfl,oM,g2,hb,Ga,Ge,Gd,H2⟩
          case measure=>simp [RowKit.intOf];omega
theorem y7r (g n cap sz:Nat) (hn:n<=49) (hc:n<=cap) (hcm:cap<=9223372036854775807):∀ d,w6o g n cap sz d
 | 0=>fun a b lm w ys h hlow hab hb hd hlm=>absurd hd oM
 | d+1=>fun a b lm w ys h hlow hab hb hd hlm=>x4o g n cap sz a b lm ys w h hlow hab hb hlm hn hc hcm (fun a' b' lm' w' ys' h' k0 k1 k2 k3 k4=>y7r g n cap sz hn hc hcm d a' b' lm' w' ys' h' k0 k1 k2 oM k4)
theorem w8q (g n cap sz:Nat) (ys:List Nat) (w:World) (h:SX 32 w w g n ys sz) (hn:n<=49) (hc:n<=cap) (hcm:cap<=9223372036854775807) :
  Calls Tryz.prog 58 #[.slice (some ⟨g,0,none⟩) n cap] w (RetX 32 w g n sz 0 n ys (Srt 0 n)):=by
 have e1:IntKind.u64.wrap (n:Int)=(n:Int):=by rw [IntKind.wrap_u64];omega
 have Ga:=hid (y0u n w oM);have hk:Lib.bitLen n<=20:=Lib.bitLen_le n 20 oM oM;have HP:=hid (y7r g n cap sz hn hc hcm (n+1) 0 n (Lib.bitLen n) w ys h (fun i i0=>absurd i0 oM) oM (nL _) oM oM);generalize Lib.bitLen n=k at *;clear h;go_enter Tryz.func58,Tryz.ntmps58
 go_wp2_with (first
  | (go_at_call 109;refine Ga.out.mono ?_;rintro e w' ⟨rfl,rfl⟩)
  | (go_at_call 141;refine HP.out.mono ?_;rintro e w1 ⟨rfl,h1⟩;have H1:=hid h1;clear h1))
 go_end0;exact ⟨rfl,H1.out⟩
end
end Go.Proofs.YtfkjjoglnmeciaaGreatDoor
