/- The walks and laws that the claim leans on, part 15. -/
import Derived.Test.YtfkjjoglnmeciaaGreatDoorJan
set_option maxRecDepth 100000
set_option maxHeartbeats 16000000
namespace Go.Proofs.YtfkjjoglnmeciaaGreatDoor
open Go.Lib (hid)
section
open Go.RowKit
theorem chooseXP_b (g n cap sz a b:Nat) (ys:List Nat) (w:World) (h:SX 54 w w g n ys sz) (hb:b≤n) (h8:a+8≤b) (hn:n≤1000000) :
  Calls Tryz.prog 214 #[.slice (some ⟨g,0,none⟩) n cap, .int .i64 (a:Int), .int .i64 (b:Int)] w (RetCXP w g n ys sz a b):=by
 obtain ⟨l,rfl⟩:∃ l,b=a+l:=⟨b - a,by omega⟩
 exact chooseXP_any g n cap sz a l ys w h hb (by omega) hn
theorem breakXP_b (g n cap sz a b:Nat) (ys:List Nat) (w:World) (h:SX 54 w w g n ys sz) (hb:b≤n) (h8:a+8≤b) (hn:n≤1000000) (hc:n≤cap) (hcm:cap≤9223372036854775807) :
  Calls Tryz.prog 213 #[.slice (some ⟨g,0,none⟩) n cap, .int .i64 (a:Int), .int .i64 (b:Int)] w (RetX 54 w g n sz a b ys (fun _=>True)):=by
 obtain ⟨l,rfl⟩:∃ l,b=a+l:=⟨b - a,by omega⟩
 exact breakXP_any g n cap sz a l ys w h hb (by omega) hn hc hcm
theorem heapXP_b (g n cap sz a b:Nat) (ys:List Nat) (w:World) (h:SX 54 w w g n ys sz) (hb:b≤n) (h8:a+1≤b) (hn:n≤1000000) (hc:n≤cap) (hcm:cap≤9223372036854775807) :
  Calls Tryz.prog 212 #[.slice (some ⟨g,0,none⟩) n cap, .int .i64 (a:Int), .int .i64 (b:Int)] w (RetX 54 w g n sz a b ys (Srt a b)):=by
 obtain ⟨l,rfl⟩:∃ l,b=a+(l+1):=⟨b - a - 1,by omega⟩
 exact heapXP_any g n cap sz a l ys w h hb hn hc hcm
def PdqXP (g n cap sz:Nat) (d:Nat):Prop:=∀ (a b lm:Nat) (w:World) (ys:List Nat),SX 54 w w g n ys sz→Low a b ys→a≤b→b≤n→b - a < d→lm≤64 →
  Calls Tryz.prog 108 #[.slice (some ⟨g,0,none⟩) n cap, .int .i64 (a:Int), .int .i64 (b:Int), .int .i64 (lm:Int)] w (RetX 54 w g n sz a b ys (Srt a b))
theorem pdqXP_step (g n cap sz a0 b0 lm0:Nat) (ys0:List Nat) (w:World) (h:SX 54 w w g n ys0 sz) (hlow:Low a0 b0 ys0) (hab0:a0≤b0) (hb0:b0≤n) (hlm0:lm0≤64) (hn:n≤49) (hc:n≤cap) (hcm:cap≤9223372036854775807) (ih:PdqXP g n cap sz (b0 - a0)) :
  Calls Tryz.prog 108 #[.slice (some ⟨g,0,none⟩) n cap, .int .i64 (a0:Int), .int .i64 (b0:Int), .int .i64 (lm0:Int)] w (RetX 54 w g n sz a0 b0 ys0 (Srt a0 b0)):=by
 have H:=hid h
 have IH:=hid ih
 have HF0:=hid (And.intro (Frm.start a0 b0 ys0) hlow)
 clear h ih hlow
 go_enter Tryz.func108,Tryz.ntmps108
 go_wp2
 go_loopw [1,2,3,8,9] (fun va vb vl v8 v9 wr=>∃ (a b lm:Nat) (p q:Bool) (ys:List Nat),va = .int .i64 (a:Int)∧vb = .int .i64 (b:Int)∧vl = .int .i64 (lm:Int)∧v8 = .bool p∧v9 = .bool q∧a0≤a∧a≤b∧b≤b0∧lm≤64∧Hid (PI a0 b0 ys0 ys)∧Hid (Frm a0 b0 a b ys∧Low a b ys)∧Hid (SX 54 w wr g n ys sz)) (fun va vb _ _ _ _=>(RowKit.intOf vb).toNat - (RowKit.intOf va).toNat)
 case atStart=>exact ⟨a0,b0,lm0,true,true,ys0,rfl,rfl,rfl,rfl,rfl,Nat.le_refl _,hab0,Nat.le_refl _,hlm0,hid (PI.refl _ _ _),HF0,H⟩
 case round =>
  clear H HF0
  obtain ⟨a,b,lm,p,q,ys,rfl,rfl,rfl,rfl,rfl,ha,hab,hb,hlm,HP,HF,H⟩:=hrel
  by_cases h12:b - a≤12
  ·have e1:decide ((b:Int) - (a:Int)≤12)=true:=decide_eq_true (by omega)
   have HI:=hid (insXP_any g n cap sz a b ys wr H.out.self hab (by omega) (by omega) hc hcm)
   go_wp2_with fail
   refine HI.out.mono ?_
   rintro e w1 ⟨rfl,zs,h1,h2,h3⟩
   have H1:=hid (show SY 54 w w1 g n sz a0 b0 ys0 (Srt a0 b0) from ⟨zs,H.out.trans h1,HP.out.trans (h2.widen ha hb),(HF.out.1.pi h2 ha hb).done h3⟩)
   clear h1 h2 h3 HI H HP HF
   go_wp2_with fail
   go_end0
   exact ⟨rfl,H1.out⟩
  ·have e1:decide ((b:Int) - (a:Int)≤12)=false:=decide_eq_false (by omega)
   by_cases hz:lm=0
   ·subst hz
    have HI:=hid (heapXP_b g n cap sz a b ys wr H.out.self (by omega) (by omega) (by omega) hc hcm)
    go_wp2_with fail
    refine HI.out.mono ?_
    rintro e w1 ⟨rfl,zs,h1,h2,h3⟩
    have H1:=hid (show SY 54 w w1 g n sz a0 b0 ys0 (Srt a0 b0) from ⟨zs,H.out.trans h1,HP.out.trans (h2.widen ha hb),(HF.out.1.pi h2 ha hb).done h3⟩)
    clear h1 h2 h3 HI H HP HF
    go_wp2_with fail
    go_end0
    exact ⟨rfl,H1.out⟩
   ·have e2:((lm:Int) == 0)=false:=by rw [beq_eq_false_iff_ne];omega
    obtain ⟨lm',rfl⟩:∃ k,lm=k+1:=⟨lm - 1,by omega⟩
    have hab8:a+8≤b:=by omega
    clear h12 hz
    go_upto_if 35 with fail
    go_cut [3] from 19 to 133 (fun v wx=>∃ (k:Nat) (ys:List Nat),v = .int .i64 (k:Int)∧k≤64∧Hid (PI a0 b0 ys0 ys)∧Hid (Frm a0 b0 a b ys∧Low a b ys)∧Hid (SX 54 w wx g n ys sz))
    case first =>
     cases p
     ·have HI:=hid (breakXP_b g n cap sz a b ys wr H.out.self (by omega) hab8 (by omega) hc hcm)
      go_wp2_with fail
      refine HI.out.mono ?_
      rintro e w1 ⟨rfl,zs,h1,h2,h3⟩
      have H1:=hid (H.out.trans h1)
      have HP1:=hid (HP.out.trans (h2.widen ha hb))
      have HF1:=hid (And.intro (HF.out.1.pi h2 ha hb) (HF.out.2.pi h2))
      clear h1 h2 h3 HI H HP HF
      go_wp2_with fail
      go_meet
      exact ⟨lm',zs,by go_num,by omega,HP1,HF1,H1⟩
     ·go_wp2_with fail
      go_meet
      exact ⟨lm'+1,ys,by go_num,by omega,HP,HF,H⟩
    case rest =>
     clear H hlm e1 e2 HP HF
     obtain ⟨lm,ys,rfl,hlm,HP,HF,H⟩:=hcut
     have HC:=hid (chooseXP_b g n cap sz a b ys wc H.out.self (by omega) hab8 (by omega))
     go_wp2_with fail
     refine HC.out.mono ?_
     rintro e w1 ⟨m0,k0,rfl,hm1,hm2,h1⟩
     have H1:=hid (H.out.trans h1)
     clear h1 HC H
     go_upto_if 50 with fail
     go_cut [11,12] from 19 to 133 (fun v u wx=>∃ (m:Nat) (k:Int) (ys:List Nat),v = .int .i64 (m:Int)∧u = .int .i64 k∧a≤m∧m < b∧Hid (PI a0 b0 ys0 ys)∧Hid (Frm a0 b0 a b ys∧Low a b ys)∧Hid (SX 54 w wx g n ys sz))
     case first =>
      by_cases hk:k0=2
      ·subst hk
       have HR:=hid (revXP_any g n cap sz a b ys w1 H1.out.self (by omega) (by omega) (by omega) hc hcm)
       obtain ⟨m',hm'⟩:∃ m':Nat,(b:Int) - 1 - ((m0:Int) - (a:Int))=(m':Int)∧a≤m'∧m' < b:=⟨b - 1 - (m0 - a),by omega,by omega,by omega⟩
       have HM:=hid hm'
       clear hm'
       go_wp2_with fail
       refine HR.out.mono ?_
       rintro e w2 ⟨rfl,zs,h2,h3,h4⟩
       have H2:=hid (H1.out.trans h2)
       have HP1:=hid (HP.out.trans (h3.widen ha hb))
       have HF1:=hid (And.intro (HF.out.1.pi h3 ha hb) (HF.out.2.pi h3))
       clear h2 h3 h4 HR H1 HP HF
       go_wp2_with fail
       go_meet
       exact ⟨m',1,zs,by first | rfl | exact congrArg (Value.int .i64) HM.out.1,rfl,HM.out.2.1,HM.out.2.2,HP1,HF1,H2⟩
      ·have e3:(k0 == 2)=false:=by rw [beq_eq_false_iff_ne];exact hk
       go_wp2_with fail
       go_meet
       exact ⟨m0,k0,ys,rfl,rfl,hm1,hm2,HP,HF,H1⟩
     case rest =>
      clear H1 hm1 hm2 HP HF
      obtain ⟨m,k,ys,rfl,rfl,hm1,hm2,HP,HF,H⟩:=hcut
      go_upto_region 15 with fail
      go_cut [68] from 19 to 133 (fun v wx=>∃ bb:Bool,v = .bool bb∧Hid (SX 54 w wx g n ys sz))
      case first =>
       cases p
       ·go_wp2_with fail
        go_meet
        exact ⟨false,rfl,H⟩
       ·cases q
        ·go_wp2_with fail
         go_meet
         exact ⟨false,rfl,H⟩
        ·go_wp2_with fail
         go_meet
         exact ⟨_,rfl,H⟩
      case rest =>
       clear H
       obtain ⟨bb,rfl,H⟩:=hcut
       go_upto_if 68 with fail
       go_cut [13] from 19 to 133 (fun _ wx=>Hid (SX 54 w wx g n ys sz))
       case first =>
        cases bb
        ·go_wp2_with fail
         go_meet
         exact H
        ·have HT:=hid (partialXP_any g n cap sz a b ys wc H.out.self (by omega) (by omega) (by omega) (by omega))
         go_wp2_with fail
         refine HT.out.mono ?_
         rintro e w2 ⟨c,rfl,h2,h3⟩
         have H2:=hid (H.out.trans h2)
         have HS:=hid h3
         clear h2 h3 HT H
         cases c
         ·go_wp2_with fail
          go_meet
          exact H2
         ·go_wp2_with fail
          go_end0
          exact ⟨rfl,ys,H2.out,HP.out,HF.out.1.done (HS.out (by trivial))⟩
       case rest =>
        clear H
        have H:=hcut
        clear hcut
        go_upto_region 17 with fail
        go_cut [87] from 19 to 133 (fun v wx=>∃ bb:Bool,v = .bool bb∧Hid (bb=true→0 < a∧gv ys m≤gv ys (a - 1))∧Hid (SX 54 w wx g n ys sz))
        case first =>
         by_cases ha:0 < a
         ·obtain ⟨a',rfl⟩:∃ a',a=a'+1:=⟨a - 1,by omega⟩
          have f0:decide ((0:Int) < (a':Int)+1)=true:=decide_eq_true (by omega)
          have f1:(a':Int) < (n:Int):=by omega
          have f2:(m:Int) < (n:Int):=by omega
          have f3:IntKind.i64.wrap (a':Int)=(a':Int):=by rw [IntKind.wrap_i64];omega
          generalize wc=wr at *
          go_wp2_with fail
          obtain ⟨x1,c1,z1,d1⟩:=H.out.at_ (i:=a') (by omega)
          obtain ⟨x2,c2,z2,d2⟩:=H.out.at_ (i:=m) (by omega)
          obtain ⟨bb,HB0,HLs⟩:=lessXP x1 x2
          rw [d1.out,d2.out] at HB0
          have HBB:=hid HB0
          clear HB0
          clear d1 d2
          go_quiet ((go_at_call 217;exact Calls.quiet_of_same (HLs.out _)))
          have H1:=hid (H.out.drewN nq)
          clear c1 c2 z1 z2 H HLs
          go_wp2_with fail
          go_meet
          refine ⟨_,rfl,hid (fun hh=>⟨by omega,?_⟩),H1⟩
          have hf:bb=false:=by
           cases bb
           ·rfl
           ·cases hh
          rw [hf] at HBB
          exact Nat.not_lt.mp (of_decide_eq_false HBB.out.symm)
         ·have f0:decide ((0:Int) < (a:Int))=false:=decide_eq_false (by omega)
          go_quiet (fail)
          have H1:=hid (H.out.drewN nq)
          go_wp2_with fail
          go_meet
          exact ⟨false,rfl,hid (fun hh=>by cases hh),H1⟩
        case rest =>
         clear H
         obtain ⟨bb,rfl,HBB,H⟩:=hcut
         cases bb
         ·have HQ:=hid (partXP_any g n cap sz a b m ys wc H.out.self (by omega) (by omega) hm1 hm2 (by omega) hc hcm)
          clear HBB
          go_wp2_with fail
          refine HQ.out.mono ?_
          rintro e w2 ⟨m2,c,rfl,g1,g2,zs,h2,h3,h4⟩
          have H2:=hid (H.out.trans h2)
          have HP2:=hid (HP.out.trans (h3.widen ha hb))
          have HF2:=hid (HF.out.1.pi h3 ha hb)
          have HL2:=hid (HF.out.2.pi h3)
          have HC2:=hid h4
          clear h2 h3 h4 HQ H HP HF
          have I1:=hid (IH.out a m2 lm w2 zs H2.out.self (fun i i0 i1 i2=>HL2.out i i0 i1 (by omega)) g1 (by omega) (by omega) hlm)
          have i2:=IH.out (m2+1) b lm w2 zs H2.out.self HC2.out.low (by omega) (by omega) (by omega) hlm
          rw [show ((m2+1:Nat):Int)=(m2:Int)+1 by omega] at i2
          have I2:=hid i2
          clear i2
          by_cases hlr:m2 - a < b - m2
          ·have e3:decide ((m2:Int) - (a:Int) < (b:Int) - (m2:Int))=true:=decide_eq_true (by omega)
           go_wp2_with fail
           refine I1.out.mono ?_
           rintro e w3 ⟨rfl,ys,h3,h4,h5⟩
           have H3:=hid (H2.out.trans h3)
           have HP3:=hid (HP2.out.trans (h4.widen ha (by omega)))
           have HC3:=HC2.out.pi_l h4 g2
           have HF3:=hid (And.intro ((HF2.out.pi (h4.widen (Nat.le_refl _) (by omega)) ha hb).right HC3 h5 g1 g2) HC3.low)
           clear h3 h4 h5 H2 I1 I2 HP2 HF2 HL2 HC2 HC3
           go_wp2_with fail
           go_roundw
           case rel=>exact ⟨m2+1,b,lm,_,c,ys,by go_num,rfl,rfl,rfl,rfl,by omega,by omega,hb,hlm,HP3,HF3,H3⟩
           case measure=>simp [RowKit.intOf];omega
          ·have e3:decide ((m2:Int) - (a:Int) < (b:Int) - (m2:Int))=false:=decide_eq_false (by omega)
           go_wp2_with fail
           refine I2.out.mono ?_
           rintro e w3 ⟨rfl,ys,h3,h4,h5⟩
           have H3:=hid (H2.out.trans h3)
           have HP3:=hid (HP2.out.trans (h4.widen (by omega) hb))
           have HC3:=HC2.out.pi_r h4
           have HL3:=HL2.out.pi (h4.widen (show a≤m2+1 by omega) (Nat.le_refl b))
           have HF3:=hid (And.intro ((HF2.out.pi (h4.widen (show a≤m2+1 by omega) (Nat.le_refl _)) ha hb).left HC3 h5 g1 g2) (show Low a m2 ys from fun i i0 i1 i2=>HL3 i i0 i1 (by omega)))
           clear h3 h4 h5 H2 I1 I2 HP2 HF2 HL2 HC2 HC3 HL3
           go_wp2_with fail
           go_roundw
           case rel=>exact ⟨a,m2,lm,_,c,ys,rfl,rfl,rfl,rfl,rfl,ha,g1,by omega,hlm,HP3,HF3,H3⟩
           case measure=>simp [RowKit.intOf];omega
         ·have HQ:=hid (partEqXP_any g n cap sz a b m ys wc H.out.self (by omega) (by omega) hm1 hm2 (by omega) hc hcm)
          go_wp2_with fail
          refine HQ.out.mono ?_
          rintro e w2 ⟨m2,rfl,g1,g2,zs,h2,h3,h4,h5⟩
          have H2:=hid (H.out.trans h2)
          have HP2:=hid (HP.out.trans (h3.widen ha hb))
          have hB:=HBB.out (by trivial)
          have hL:=HF.out.2.pi h3
          have hO:=h3.out (a - 1) (.inl (by omega))
          have HF2:=hid (And.intro ((HF.out.1.pi h3 ha hb).equal h4 (fun i i1 i2=>by
           have:=hL i hB.1 i1 i2
           have:=hB.2
           omega) g1 g2) (h4.low g1))
          clear h2 h3 h4 h5 hB hL hO HQ H HP HF HBB
          go_wp2_with fail
          go_roundw
          case rel=>exact ⟨m2,b,lm,p,q,zs,rfl,rfl,rfl,rfl,rfl,by omega,g2,hb,hlm,HP2,HF2,H2⟩
          case measure=>simp [RowKit.intOf];omega
theorem pdqXP_any (g n cap sz:Nat) (hn:n≤49) (hc:n≤cap) (hcm:cap≤9223372036854775807):∀ d,PdqXP g n cap sz d
 | 0=>fun a b lm w ys h hlow hab hb hd hlm=>absurd hd (by omega)
 | d+1=>fun a b lm w ys h hlow hab hb hd hlm=>pdqXP_step g n cap sz a b lm ys w h hlow hab hb hlm hn hc hcm (fun a' b' lm' w' ys' h' k0 k1 k2 k3 k4=>pdqXP_any g n cap sz hn hc hcm d a' b' lm' w' ys' h' k0 k1 k2 (by omega) k4)
theorem sortXP (g n cap sz:Nat) (ys:List Nat) (w:World) (h:SX 54 w w g n ys sz) (hn:n≤49) (hc:n≤cap) (hcm:cap≤9223372036854775807) :
  Calls Tryz.prog 26 #[.slice (some ⟨g,0,none⟩) n cap] w (RetX 54 w g n sz 0 n ys (Srt 0 n)):=by
 have e1:IntKind.u64.wrap (n:Int)=(n:Int):=by rw [IntKind.wrap_u64];omega
 have HLn:=hid (len_any n w (by omega))
 have hk:Lib.bitLen n≤20:=Lib.bitLen_le n 20 (by omega) (by omega)
 have HP:=hid (pdqXP_any g n cap sz hn hc hcm (n+1) 0 n (Lib.bitLen n) w ys h (fun i i0=>absurd i0 (by omega)) (by omega) (Nat.le_refl _) (by omega) (by omega))
 generalize Lib.bitLen n=k at *
 clear h
 go_enter Tryz.func26,Tryz.ntmps26
 go_wp2_with (first
  | (go_at_call 109;refine HLn.out.mono ?_;rintro e w' ⟨rfl,rfl⟩)
  | (go_at_call 108;refine HP.out.mono ?_;rintro e w1 ⟨rfl,h1⟩;have H1:=hid h1;clear h1))
 go_end0
 exact ⟨rfl,H1.out⟩
end
end Go.Proofs.YtfkjjoglnmeciaaGreatDoor
