/- The walks and laws that the claim leans on, part 13. -/
import Derived.Test.YtfkjjoglnmeciaaGreatDoorJaj
set_option maxRecDepth 100000
set_option maxHeartbeats 16000000
namespace Go.Proofs.YtfkjjoglnmeciaaGreatDoor
open Go.Lib (hid)
section
open Go.RowKit
theorem lessXP_any (x y:Nat) (w:World):Calls Tryz.prog 217 #[.int .u64 (x:Int), .int .u64 (y:Int)] w fun e w'=>e = .returned (.bool (decide (x < y)))∧w'=w:=by
 go_enter Tryz.func217,Tryz.ntmps217
 go_wp2
 all_goals (go_ret;exact ⟨rfl,rfl⟩)
theorem lessXP (x y:Nat):∃ bb,(bb=decide (x < y))∧Hid (∀ W:World,Calls Tryz.prog 217 #[.int .u64 (x:Int), .int .u64 (y:Int)] W fun e w'=>e = .returned (.bool bb)∧w'=W):=⟨_,rfl,fun W=>lessXP_any x y W⟩
theorem insXP_any (g n cap sz a b:Nat) (ys0:List Nat) (w:World) (h:SX 54 w w g n ys0 sz) (hab:a≤b) (hb:b≤n) (hn:n≤1000000) (hc:n≤cap) (hcm:cap≤9223372036854775807) :
  Calls Tryz.prog 211 #[.slice (some ⟨g,0,none⟩) n cap, .int .i64 (a:Int), .int .i64 (b:Int)] w (RetX 54 w g n sz a b ys0 (Srt a b)):=by
 have H:=hid h
 clear h
 go_enter Tryz.func211,Tryz.ntmps211
 go_wp2
 go_loopw [6] (fun i wr=>∃ (k:Nat),a+1≤k∧k≤b+1∧i = .int .i64 k∧Hid (SY 54 w wr g n sz a b ys0 (Srt a k))) (fun i _=>b+1 - (RowKit.intOf i).toNat)
 case atStart=>exact ⟨a+1,by omega,by omega,by go_num,hid ⟨ys0,H.out,PI.refl _ _ _,Srt.one _ _⟩⟩
 case round =>
  clear H
  obtain ⟨k,hk1,hk,rfl,H⟩:=hrel
  by_cases hlt:k < b
  ·go_wp2
   go_loopw [7] (fun j wr=>∃ (q:Nat),a≤q∧q≤k∧j = .int .i64 q∧Hid (SY 54 w wr g n sz a b ys0 (InsO a k q))) (fun j _=>(RowKit.intOf j).toNat)
   case atStart=>exact ⟨k,by omega,Nat.le_refl _,rfl,by
    obtain ⟨ys,h1,h2,h3⟩:=H.out
    exact hid ⟨ys,h1,h2,InsO.start h3⟩⟩
   case round =>
    clear H
    obtain ⟨q,hqa,hq,rfl,HY⟩:=hrel
    obtain ⟨ys,HP,HO,H⟩:∃ ys,Hid (PI a b ys0 ys)∧Hid (InsO a k q ys)∧Hid (SX 54 w wr g n ys sz):=by
     obtain ⟨ys,h1,h2,h3⟩:=HY.out
     exact ⟨ys,hid h2,hid h3,hid h1⟩
    clear HY
    by_cases hq0:q=a
    ·subst hq0
     have e5:decide ((q:Int) < (q:Int))=false:=decide_eq_false (by omega)
     go_wp2
     go_quiet (fail)
     have H1:=hid (H.out.drewN nq)
     go_wp2
     go_roundw
     case rel=>exact ⟨k+1,by omega,by omega,by go_num,hid ⟨ys,H1.out,HP.out,HO.out.first⟩⟩
     case measure=>simp [RowKit.intOf];omega
    ·obtain ⟨q',rfl⟩:∃ q',q=q'+1:=⟨q - 1,by omega⟩
     have e1:(a:Int) < (q':Int)+1:=by omega
     have e2:(q':Int)+1 < (n:Int):=by omega
     have e3:(q':Int) < (n:Int):=by omega
     have e5:decide ((a:Int) < (q':Int)+1)=true:=decide_eq_true (by omega)
     have e6:((q':Int)+1).toNat=q'+1:=by omega
     have e8:IntKind.i64.wrap (q':Int)=(q':Int):=by rw [IntKind.wrap_i64];omega
     have e9:(0:Int)≤(q':Int)+1:=by omega
     go_wp2
     obtain ⟨x1,c1,z1,d1⟩:=H.out.at_ (i:=(q'+1)) (by omega)
     obtain ⟨x2,c2,z2,d2⟩:=H.out.at_ (i:=q') (by omega)
     obtain ⟨bb,HB0,HLs⟩:=lessXP x1 x2
     rw [d1.out,d2.out] at HB0
     have HBB:=hid HB0
     clear HB0
     clear d1 d2
     go_quiet ((go_at_call 217;exact Calls.quiet_of_same (HLs.out _)))
     have H1:=hid (H.out.drewN nq)
     clear c1 c2 z1 z2 H HLs
     cases bb
     ·have HB:=hid (Nat.not_lt.mp (of_decide_eq_false HBB.out.symm))
      clear HBB
      go_wp2
      go_roundw
      case rel=>exact ⟨k+1,by omega,by omega,by go_num,hid ⟨ys,H1.out,HP.out,HO.out.stop (by omega) HB.out (by omega)⟩⟩
      case measure=>simp [RowKit.intOf];omega
     ·have HB:=hid (of_decide_eq_true HBB.out.symm)
      clear HBB
      have H:=H1
      clear H1
      generalize wr.drewN nq=wr at *
      obtain ⟨x1,c1,z1,d1⟩:=H.out.at_ (i:=(q'+1)) (by omega)
      obtain ⟨x2,c2,z2,d2⟩:=H.out.at_ (i:=q') (by omega)
      obtain ⟨x3,c3⟩:=H.out.mid (i:=(q'+1)) (j:=q') (by omega) (.int .u64 (x2:Int))
      have H1:=hid (H.out.swap (by omega) (by omega) c1 c2 d1.out d2.out).drew
      clear d1 d2
      have HY:Hid (SY 54 w _ g n sz a b ys0 (InsO a k q')):=hid ⟨_,H1.out,HP.out.step (by omega) (by omega) (by have:=H.out.len;omega),HO.out.step (by omega) HB.out (by omega) (by have:=H.out.len;omega)⟩
      clear H H1 HP HO HB
      go_wp2
      go_region
      go_wp2
      exact ⟨⟨q',by omega,by omega,rfl,HY⟩,by simp [RowKit.intOf]⟩
  ·go_wp2
   go_end0
   refine ⟨rfl,?_⟩
   obtain ⟨ys,h1,h2,h3⟩:=H.out
   exact ⟨ys,h1,h2,h3.mono (by omega)⟩
theorem revXP_any (g n cap sz a b:Nat) (ys0:List Nat) (w:World) (h:SX 54 w w g n ys0 sz) (hab:a < b) (hb:b≤n) (hn:n≤1000000) (hc:n≤cap) (hcm:cap≤9223372036854775807) :
  Calls Tryz.prog 215 #[.slice (some ⟨g,0,none⟩) n cap, .int .i64 (a:Int), .int .i64 (b:Int)] w (RetX 54 w g n sz a b ys0 (fun _=>True)):=by
 have H:=hid h
 clear h
 obtain ⟨b',rfl⟩:∃ b',b=b'+1:=⟨b - 1,by omega⟩
 have u1:IntKind.i64.wrap (b':Int)=(b':Int):=by rw [IntKind.wrap_i64];omega
 go_enter Tryz.func215,Tryz.ntmps215
 go_wp2
 go_loopw [6,7] (fun i j wr=>∃ (p q:Nat) (ys:List Nat),a≤p∧p≤b'+1∧q≤b'∧i = .int .i64 p∧j = .int .i64 q∧Hid (PI a (b'+1) ys0 ys)∧Hid (SX 54 w wr g n ys sz)) (fun _ j _=>(RowKit.intOf j).toNat)
 case atStart=>exact ⟨a,b',ys0,by omega,by omega,by omega,rfl,by go_num,hid (PI.refl _ _ _),H⟩
 case round =>
  clear H
  obtain ⟨p,q,ys,hp0,hp,hq,rfl,rfl,HP,H⟩:=hrel
  by_cases hlt:p < q
  ·have e1:(p:Int) < (n:Int):=by omega
   have e2:(q:Int) < (n:Int):=by omega
   obtain ⟨x1,c1,z1,d1⟩:=H.out.at_ (i:=p) (by omega)
   obtain ⟨x2,c2,z2,d2⟩:=H.out.at_ (i:=q) (by omega)
   obtain ⟨x3,c3⟩:=H.out.mid (i:=p) (j:=q) (by omega) (.int .u64 (x2:Int))
   have H1:=hid (H.out.swap (by omega) (by omega) c1 c2 d1.out d2.out).drew
   clear d1 d2
   have HP1:=hid (HP.out.step (i:=p) (j:=q) (by omega) (by omega) (by have:=H.out.len;omega))
   have e3:decide ((p:Int) < (q:Int))=true:=decide_eq_true (by omega)
   clear H HP
   go_wp2
   go_region
   go_wp2
   go_roundw
   case rel=>exact ⟨p+1,q - 1,_,by omega,by omega,by omega,by go_num,by go_num,HP1,H1⟩
   case measure=>simp [RowKit.intOf];omega
  ·go_wp2
   go_end0
   exact ⟨rfl,ys,H.out,HP.out,trivial⟩
end
section
open Go.RowKit
def RetPXP (w:World) (g n sz a b:Nat) (ys0:List Nat) (e:Ending) (w':World):Prop:=∃ (m:Nat) (c:Bool),e = .returned (.tuple #[.int .i64 (m:Int), .bool c])∧a≤m∧m < b∧SY 54 w w' g n sz a b ys0 (Parted a b m)
def RetEXP (w:World) (g n sz a b p:Nat) (ys0:List Nat) (e:Ending) (w':World):Prop:=∃ m:Nat,e = .returned (.int .i64 (m:Int))∧a+1≤m∧m≤b∧SY 54 w w' g n sz a b ys0 (fun ys=>PartE a b m ys∧gv ys a=gv ys0 p)
theorem partXP_any (g n cap sz a b p:Nat) (ys0:List Nat) (w:World) (h:SX 54 w w g n ys0 sz) (hab:a+1 < b) (hb:b≤n) (hp1:a≤p) (hp2:p < b) (hn:n≤1000000) (hc:n≤cap) (hcm:cap≤9223372036854775807) :
  Calls Tryz.prog 219 #[.slice (some ⟨g,0,none⟩) n cap, .int .i64 (a:Int), .int .i64 (b:Int), .int .i64 (p:Int)] w (RetPXP w g n sz a b ys0):=by
 have H:=hid h
 clear h
 obtain ⟨b',rfl⟩:∃ b',b=b'+1:=⟨b - 1,by omega⟩
 have u1:IntKind.i64.wrap (b':Int)=(b':Int):=by rw [IntKind.wrap_i64];omega
 have e1:(a:Int) < (n:Int):=by omega
 have e2:(p:Int) < (n:Int):=by omega
 go_enter Tryz.func219,Tryz.ntmps219
 obtain ⟨x1,c1,z1,d1⟩:=H.out.at_ (i:=a) (by omega)
 obtain ⟨x2,c2,z2,d2⟩:=H.out.at_ (i:=p) (by omega)
 obtain ⟨x3,c3⟩:=H.out.mid (i:=a) (j:=p) (by omega) (.int .u64 (x2:Int))
 have H1:=hid (H.out.swap (by omega) (by omega) c1 c2 d1.out d2.out).drew
 clear d1 d2
 have HP:=hid (PI.sw (a:=a) (b:=b'+1) (ys:=ys0) (i:=a) (j:=p) (by omega) (by omega) (by have:=H.out.len;omega))
 generalize sw ys0 a p=ys at *
 clear H
 go_wp2
 go_region
 clear c1 c2 c3 z1 z2
 go_upto_block 0 with fail
 go_cut [10] from 30 to 45 (fun v wx=>∃ k:Nat,v = .int .i64 k∧a+1≤k∧k≤b'+1∧Hid (LtL a k ys∧(k≤b'→gv ys a≤gv ys k))∧Hid (SX 54 w wx g n ys sz))
 case first =>
  go_wp2_with fail
  go_loopw [10] (fun i wr=>∃ k:Nat,a+1≤k∧k≤b'+1∧i = .int .i64 k∧Hid (LtL a k ys)∧Hid (SX 54 w wr g n ys sz)) (fun i _=>b'+1 - (RowKit.intOf i).toNat)
  case atStart=>exact ⟨a+1,by omega,by omega,by go_num,hid (fun i h1 h2=>absurd h2 (by omega)),H1⟩
  case round =>
   clear H1
   obtain ⟨k,hk1,hk2,rfl,HS,H⟩:=hrel
   by_cases hle:k≤b'
   ·have e3:(k:Int) < (n:Int):=by omega
    have e4:decide ((k:Int)≤(b':Int))=true:=decide_eq_true (by omega)
    go_wp2_with fail
    obtain ⟨x1,c1,z1,d1⟩:=H.out.at_ (i:=k) (by omega)
    obtain ⟨x2,c2,z2,d2⟩:=H.out.at_ (i:=a) (by omega)
    obtain ⟨bb,HB0,HLs⟩:=lessXP x1 x2
    rw [d1.out,d2.out] at HB0
    have HBB:=hid HB0
    clear HB0
    clear d1 d2
    go_quiet ((go_at_call 217;exact Calls.quiet_of_same (HLs.out _)))
    have H1:=hid (H.out.drewN nq)
    clear c1 c2 z1 z2 H HLs
    cases bb
    ·have HB:=hid (Nat.not_lt.mp (of_decide_eq_false HBB.out.symm))
     clear HBB
     go_wp2_with fail
     go_meet
     exact ⟨k,rfl,hk1,hk2,hid ⟨HS.out,fun _=>HB.out⟩,H1⟩
    ·have HB:=hid (of_decide_eq_true HBB.out.symm)
     clear HBB
     go_wp2_with fail
     go_roundw
     case rel=>exact ⟨k+1,by omega,by omega,by go_num,hid (HS.out.snoc HB.out),H1⟩
     case measure=>simp [RowKit.intOf];omega
   ·have e4:decide ((k:Int)≤(b':Int))=false:=decide_eq_false (by omega)
    go_wp2_with fail
    go_quiet (fail)
    have H1:=hid (H.out.drewN nq)
    go_wp2_with fail
    go_meet
    exact ⟨k,rfl,hk1,hk2,hid ⟨HS.out,fun hk=>absurd hk hle⟩,H1⟩
 case rest =>
  clear H1
  obtain ⟨k,rfl,hk1,hk2,HS,H⟩:=hcut
  go_upto_block 2 with fail
  go_cut [11] from 46 to 62 (fun v wx=>∃ q:Nat,v = .int .i64 q∧a≤q∧q≤b'∧Hid (GeR a q (b'+1) ys∧(k≤q→gv ys q < gv ys a))∧Hid (SX 54 w wx g n ys sz))
  case first =>
   go_wp2_with fail
   go_loopw [11] (fun j wr=>∃ q:Nat,a≤q∧q≤b'∧j = .int .i64 q∧Hid (GeR a q (b'+1) ys)∧Hid (SX 54 w wr g n ys sz)) (fun j _=>(RowKit.intOf j).toNat)
   case atStart=>exact ⟨b',by omega,by omega,rfl,hid (fun i h1 h2=>absurd h2 (by omega)),H⟩
   case round =>
    clear H
    obtain ⟨q,hq1,hq2,rfl,HR,H⟩:=hrel
    by_cases hle:k≤q
    ·have e3:(q:Int) < (n:Int):=by omega
     have e4:decide ((k:Int)≤(q:Int))=true:=decide_eq_true (by omega)
     go_wp2_with fail
     obtain ⟨x1,c1,z1,d1⟩:=H.out.at_ (i:=q) (by omega)
     obtain ⟨x2,c2,z2,d2⟩:=H.out.at_ (i:=a) (by omega)
     obtain ⟨bb,HB0,HLs⟩:=lessXP x1 x2
     rw [d1.out,d2.out] at HB0
     have HBB:=hid HB0
     clear HB0
     clear d1 d2
     go_quiet ((go_at_call 217;exact Calls.quiet_of_same (HLs.out _)))
     have H1:=hid (H.out.drewN nq)
     clear c1 c2 z1 z2 H HLs
     cases bb
     ·have HB:=hid (Nat.not_lt.mp (of_decide_eq_false HBB.out.symm))
      clear HBB
      go_wp2_with fail
      go_roundw
      case rel=>exact ⟨q - 1,by omega,by omega,by go_num,hid (HR.out.cons HB.out),H1⟩
      case measure=>simp [RowKit.intOf];omega
     ·have HB:=hid (of_decide_eq_true HBB.out.symm)
      clear HBB
      go_wp2_with fail
      go_meet
      exact ⟨q,rfl,hq1,hq2,hid ⟨HR.out,fun _=>HB.out⟩,H1⟩
    ·have e4:decide ((k:Int)≤(q:Int))=false:=decide_eq_false (by omega)
     go_wp2_with fail
     go_quiet (fail)
     have H1:=hid (H.out.drewN nq)
     go_wp2_with fail
     go_meet
     exact ⟨q,rfl,hq1,hq2,hid ⟨HR.out,fun hk=>absurd hk hle⟩,H1⟩
  case rest =>
   clear H
   obtain ⟨q,rfl,hq1,hq2,HR,H⟩:=hcut
   by_cases hgt:q < k
   ·have e3:(q:Int) < (n:Int):=by omega
    have e4:decide ((q:Int) < (k:Int))=true:=decide_eq_true (by omega)
    obtain ⟨x1,c1,z1,d1⟩:=H.out.at_ (i:=q) (by omega)
    obtain ⟨x2,c2,z2,d2⟩:=H.out.at_ (i:=a) (by omega)
    obtain ⟨x3,c3⟩:=H.out.mid (i:=q) (j:=a) (by omega) (.int .u64 (x2:Int))
    have H1:=hid (H.out.swap (by omega) (by omega) c1 c2 d1.out d2.out).drew
    clear d1 d2
    have HY:=hid (show SY 54 w _ g n sz a (b'+1) ys0 (Parted a (b'+1) q) from ⟨_,H1.out,HP.out.step (by omega) (by omega) (by have:=H.out.len;omega),part_end HS.out.1 HR.out.1 hq1 hgt hk2 (by have:=H.out.len;omega)⟩)
    clear H H1 HP HS HR
    go_wp2_with fail
    go_region
    clear c1 c2 c3 z1 z2
    go_wp2_with fail
    go_ret2
    exact ⟨q,true,rfl,by omega,by omega,HY.out⟩
   ·have e3:(q:Int) < (n:Int):=by omega
    have e4:decide ((q:Int) < (k:Int))=false:=decide_eq_false (by omega)
    have e5:(k:Int) < (n:Int):=by omega
    obtain ⟨x1,c1,z1,d1⟩:=H.out.at_ (i:=k) (by omega)
    obtain ⟨x2,c2,z2,d2⟩:=H.out.at_ (i:=q) (by omega)
    obtain ⟨x3,c3⟩:=H.out.mid (i:=k) (j:=q) (by omega) (.int .u64 (x2:Int))
    have H1:=hid (H.out.swap (by omega) (by omega) c1 c2 d1.out d2.out).drew
    clear d1 d2
    have HP1:=hid (HP.out.step (i:=k) (j:=q) (by omega) (by omega) (by have:=H.out.len;omega))
    have HZ:=hid (part_step HS.out.1 HR.out.1 (by omega) (by omega) (HS.out.2 (by omega)) (HR.out.2 (by omega)) (by omega) (by have:=H.out.len;omega))
    clear H HP HS HR
    generalize sw ys k q=ys at *
    go_wp2_with fail
    go_region
    clear c1 c2 c3 z1 z2
    go_wp2_with fail
    go_loopw [10,11] (fun i j wr=>∃ (k q:Nat) (ys:List Nat),a+1≤k∧k≤b'+1∧a≤q∧q≤b'∧i = .int .i64 k∧j = .int .i64 q∧Hid (PI a (b'+1) ys0 ys)∧Hid (LtL a k ys∧GeR a q (b'+1) ys)∧Hid (SX 54 w wr g n ys sz)) (fun i _ _=>b'+1 - (RowKit.intOf i).toNat)
    case atStart=>exact ⟨k+1,q - 1,_,by omega,by omega,by omega,by omega,by go_num,by go_num,HP1,HZ,H1⟩
    case round =>
     clear H1 e3 e4 e5 hgt HP1 HZ
     obtain ⟨k0,q0,ys,hk01,hk02,hq01,hq02,rfl,rfl,HP,HZ,H⟩:=hrel
     go_upto_block 6 with fail
     go_cut [10] from 99 to 152 (fun v wx=>∃ k:Nat,v = .int .i64 k∧k0≤k∧k≤b'+1∧Hid (LtL a k ys∧(k≤q0→gv ys a≤gv ys k))∧Hid (SX 54 w wx g n ys sz))
     case first =>
      go_wp2_with fail
      go_loopw [10] (fun i wr=>∃ k:Nat,k0≤k∧k≤b'+1∧i = .int .i64 k∧Hid (LtL a k ys)∧Hid (SX 54 w wr g n ys sz)) (fun i _=>b'+1 - (RowKit.intOf i).toNat)
      case atStart=>exact ⟨k0,by omega,by omega,rfl,hid HZ.out.1,H⟩
      case round =>
       clear H
       obtain ⟨k,hk1,hk2,rfl,HS,H⟩:=hrel
       by_cases hle:k≤q0
       ·have e3:(k:Int) < (n:Int):=by omega
        have e4:decide ((k:Int)≤(q0:Int))=true:=decide_eq_true (by omega)
        go_wp2_with fail
        obtain ⟨x1,c1,z1,d1⟩:=H.out.at_ (i:=k) (by omega)
        obtain ⟨x2,c2,z2,d2⟩:=H.out.at_ (i:=a) (by omega)
        obtain ⟨bb,HB0,HLs⟩:=lessXP x1 x2
        rw [d1.out,d2.out] at HB0
        have HBB:=hid HB0
        clear HB0
        clear d1 d2
        go_quiet ((go_at_call 217;exact Calls.quiet_of_same (HLs.out _)))
        have H1:=hid (H.out.drewN nq)
        clear c1 c2 z1 z2 H HLs
        cases bb
        ·have HB:=hid (Nat.not_lt.mp (of_decide_eq_false HBB.out.symm))
         clear HBB
         go_wp2_with fail
         go_meet
         exact ⟨k,rfl,hk1,hk2,hid ⟨HS.out,fun _=>HB.out⟩,H1⟩
        ·have HB:=hid (of_decide_eq_true HBB.out.symm)
         clear HBB
         go_wp2_with fail
         go_roundw
         case rel=>exact ⟨k+1,by omega,by omega,by go_num,hid (HS.out.snoc HB.out),H1⟩
         case measure=>simp [RowKit.intOf];omega
       ·have e4:decide ((k:Int)≤(q0:Int))=false:=decide_eq_false (by omega)
        go_wp2_with fail
        go_quiet (fail)
        have H1:=hid (H.out.drewN nq)
        go_wp2_with fail
        go_meet
        exact ⟨k,rfl,hk1,hk2,hid ⟨HS.out,fun hk=>absurd hk hle⟩,H1⟩
     case rest =>
      clear H
      obtain ⟨k,rfl,hk1,hk2,HS,H⟩:=hcut
      go_upto_block 8 with fail
      go_cut [11] from 99 to 152 (fun v wx=>∃ q:Nat,v = .int .i64 q∧a≤q∧q≤b'∧Hid (GeR a q (b'+1) ys∧(k≤q→gv ys q < gv ys a)∧q≤q0)∧Hid (SX 54 w wx g n ys sz))
      case first =>
       go_wp2_with fail
       go_loopw [11] (fun j wr=>∃ q:Nat,a≤q∧q≤b'∧j = .int .i64 q∧Hid (GeR a q (b'+1) ys∧q≤q0)∧Hid (SX 54 w wr g n ys sz)) (fun j _=>(RowKit.intOf j).toNat)
       case atStart=>exact ⟨q0,by omega,by omega,rfl,hid ⟨HZ.out.2,Nat.le_refl _⟩,H⟩
       case round =>
        clear H
        obtain ⟨q,hq1,hq2,rfl,HR,H⟩:=hrel
        by_cases hle:k≤q
        ·have e3:(q:Int) < (n:Int):=by omega
         have e4:decide ((k:Int)≤(q:Int))=true:=decide_eq_true (by omega)
         go_wp2_with fail
         obtain ⟨x1,c1,z1,d1⟩:=H.out.at_ (i:=q) (by omega)
         obtain ⟨x2,c2,z2,d2⟩:=H.out.at_ (i:=a) (by omega)
         obtain ⟨bb,HB0,HLs⟩:=lessXP x1 x2
         rw [d1.out,d2.out] at HB0
         have HBB:=hid HB0
         clear HB0
         clear d1 d2
         go_quiet ((go_at_call 217;exact Calls.quiet_of_same (HLs.out _)))
         have H1:=hid (H.out.drewN nq)
         clear c1 c2 z1 z2 H HLs
         cases bb
         ·have HB:=hid (Nat.not_lt.mp (of_decide_eq_false HBB.out.symm))
          clear HBB
          go_wp2_with fail
          go_roundw
          case rel=>exact ⟨q - 1,by omega,by omega,by go_num,hid ⟨HR.out.1.cons HB.out,by have:=HR.out.2;omega⟩,H1⟩
          case measure=>simp [RowKit.intOf];omega
         ·have HB:=hid (of_decide_eq_true HBB.out.symm)
          clear HBB
          go_wp2_with fail
          go_meet
          exact ⟨q,rfl,hq1,hq2,hid ⟨HR.out.1,fun _=>HB.out,HR.out.2⟩,H1⟩
        ·have e4:decide ((k:Int)≤(q:Int))=false:=decide_eq_false (by omega)
         go_wp2_with fail
         go_quiet (fail)
         have H1:=hid (H.out.drewN nq)
         go_wp2_with fail
         go_meet
         exact ⟨q,rfl,hq1,hq2,hid ⟨HR.out.1,fun hk=>absurd hk hle,HR.out.2⟩,H1⟩
      case rest =>
       clear H
       obtain ⟨q,rfl,hq1,hq2,HR,H⟩:=hcut
       by_cases hgt:q < k
       ·have e3:(q:Int) < (n:Int):=by omega
        have e4:decide ((q:Int) < (k:Int))=true:=decide_eq_true (by omega)
        obtain ⟨x1,c1,z1,d1⟩:=H.out.at_ (i:=q) (by omega)
        obtain ⟨x2,c2,z2,d2⟩:=H.out.at_ (i:=a) (by omega)
        obtain ⟨x3,c3⟩:=H.out.mid (i:=q) (j:=a) (by omega) (.int .u64 (x2:Int))
        have H1:=hid (H.out.swap (by omega) (by omega) c1 c2 d1.out d2.out).drew
        clear d1 d2
        have HY:=hid (show SY 54 w _ g n sz a (b'+1) ys0 (Parted a (b'+1) q) from ⟨_,H1.out,HP.out.step (by omega) (by omega) (by have:=H.out.len;omega),part_end HS.out.1 HR.out.1 hq1 hgt hk2 (by have:=H.out.len;omega)⟩)
        clear H H1 HP HS HR HZ
        go_wp2_with fail
        go_region
        clear c1 c2 c3 z1 z2
        go_wp2_with fail
        go_ret2
        exact ⟨q,false,rfl,by omega,by omega,HY.out⟩
       ·have e3:(q:Int) < (n:Int):=by omega
        have e4:decide ((q:Int) < (k:Int))=false:=decide_eq_false (by omega)
        have e5:(k:Int) < (n:Int):=by omega
        obtain ⟨x1,c1,z1,d1⟩:=H.out.at_ (i:=k) (by omega)
        obtain ⟨x2,c2,z2,d2⟩:=H.out.at_ (i:=q) (by omega)
        obtain ⟨x3,c3⟩:=H.out.mid (i:=k) (j:=q) (by omega) (.int .u64 (x2:Int))
        have H1:=hid (H.out.swap (by omega) (by omega) c1 c2 d1.out d2.out).drew
        clear d1 d2
        have HP1:=hid (HP.out.step (i:=k) (j:=q) (by omega) (by omega) (by have:=H.out.len;omega))
        have HZ1:=hid (part_step HS.out.1 HR.out.1 (by omega) (by omega) (HS.out.2 (by have:=HR.out.2.2;omega)) (HR.out.2.1 (by omega)) (by omega) (by have:=H.out.len;omega))
        clear H HP HS HR HZ
        generalize sw ys k q=ys at *
        go_wp2_with fail
        go_region
        clear c1 c2 c3 z1 z2
        go_wp2_with fail
        go_roundw
        case rel=>exact ⟨k+1,q - 1,_,by omega,by omega,by omega,by omega,by go_num,by go_num,HP1,HZ1,H1⟩
        case measure=>simp [RowKit.intOf];omega
theorem partEqXP_any (g n cap sz a b p:Nat) (ys0:List Nat) (w:World) (h:SX 54 w w g n ys0 sz) (hab:a+1 < b) (hb:b≤n) (hp1:a≤p) (hp2:p < b) (hn:n≤1000000) (hc:n≤cap) (hcm:cap≤9223372036854775807) :
  Calls Tryz.prog 218 #[.slice (some ⟨g,0,none⟩) n cap, .int .i64 (a:Int), .int .i64 (b:Int), .int .i64 (p:Int)] w (RetEXP w g n sz a b p ys0):=by
 have H:=hid h
 clear h
 obtain ⟨b',rfl⟩:∃ b',b=b'+1:=⟨b - 1,by omega⟩
 have u1:IntKind.i64.wrap (b':Int)=(b':Int):=by rw [IntKind.wrap_i64];omega
 have e1:(a:Int) < (n:Int):=by omega
 have e2:(p:Int) < (n:Int):=by omega
 go_enter Tryz.func218,Tryz.ntmps218
 obtain ⟨x1,c1,z1,d1⟩:=H.out.at_ (i:=a) (by omega)
 obtain ⟨x2,c2,z2,d2⟩:=H.out.at_ (i:=p) (by omega)
 obtain ⟨x3,c3⟩:=H.out.mid (i:=a) (j:=p) (by omega) (.int .u64 (x2:Int))
 have H1:=hid (H.out.swap (by omega) (by omega) c1 c2 d1.out d2.out).drew
 clear d1 d2
 have HP:=hid (PI.sw (a:=a) (b:=b'+1) (ys:=ys0) (i:=a) (j:=p) (by omega) (by omega) (by have:=H.out.len;omega))
 have HA:=hid (gv_sw_i (ys:=ys0) (i:=a) (j:=p) (by have:=H.out.len;omega) (by have:=H.out.len;omega))
 generalize sw ys0 a p=ys at *
 clear H
 go_wp2
 go_region
 clear c1 c2 c3 z1 z2
 go_wp2_with fail
 go_loopw [9,10] (fun i j wr=>∃ (k q:Nat) (ys:List Nat),a+1≤k∧k≤b'+1∧a≤q∧q≤b'∧i = .int .i64 k∧j = .int .i64 q∧Hid (PI a (b'+1) ys0 ys)∧Hid (gv ys a=gv ys0 p)∧Hid (LeL a k ys∧GtR a q (b'+1) ys)∧Hid (SX 54 w wr g n ys sz)) (fun i _ _=>b'+1 - (RowKit.intOf i).toNat)
 case atStart=>exact ⟨a+1,b',_,by omega,by omega,by omega,by omega,by go_num,by go_num,HP,HA,hid ⟨LeL.one _ _,fun i h1 h2=>absurd h2 (by omega)⟩,H1⟩
 case round =>
  clear H1 HP HA
  obtain ⟨k0,q0,ys,hk01,hk02,hq01,hq02,rfl,rfl,HP,HA,HZ,H⟩:=hrel
  go_upto_block 2 with fail
  go_cut [9] from 29 to 82 (fun v wx=>∃ k:Nat,v = .int .i64 k∧k0≤k∧k≤b'+1∧Hid (LeL a k ys∧(k≤q0→gv ys a < gv ys k))∧Hid (SX 54 w wx g n ys sz))
  case first =>
   go_wp2_with fail
   go_loopw [9] (fun i wr=>∃ k:Nat,k0≤k∧k≤b'+1∧i = .int .i64 k∧Hid (LeL a k ys)∧Hid (SX 54 w wr g n ys sz)) (fun i _=>b'+1 - (RowKit.intOf i).toNat)
   case atStart=>exact ⟨k0,by omega,by omega,rfl,hid HZ.out.1,H⟩
   case round =>
    clear H
    obtain ⟨k,hk1,hk2,rfl,HS,H⟩:=hrel
    by_cases hle:k≤q0
    ·have e3:(k:Int) < (n:Int):=by omega
     have e4:decide ((k:Int)≤(q0:Int))=true:=decide_eq_true (by omega)
     go_wp2_with fail
     obtain ⟨x1,c1,z1,d1⟩:=H.out.at_ (i:=a) (by omega)
     obtain ⟨x2,c2,z2,d2⟩:=H.out.at_ (i:=k) (by omega)
     obtain ⟨bb,HB0,HLs⟩:=lessXP x1 x2
     rw [d1.out,d2.out] at HB0
     have HBB:=hid HB0
     clear HB0
     clear d1 d2
     go_quiet ((go_at_call 217;exact Calls.quiet_of_same (HLs.out _)))
     have H1:=hid (H.out.drewN nq)
     clear c1 c2 z1 z2 H HLs
     cases bb
     ·have HB:=hid (Nat.not_lt.mp (of_decide_eq_false HBB.out.symm))
      clear HBB
      go_wp2_with fail
      go_roundw
      case rel=>exact ⟨k+1,by omega,by omega,by go_num,hid (HS.out.snoc HB.out),H1⟩
      case measure=>simp [RowKit.intOf];omega
     ·have HB:=hid (of_decide_eq_true HBB.out.symm)
      clear HBB
      go_wp2_with fail
      go_meet
      exact ⟨k,rfl,hk1,hk2,hid ⟨HS.out,fun _=>HB.out⟩,H1⟩
    ·have e4:decide ((k:Int)≤(q0:Int))=false:=decide_eq_false (by omega)
     go_wp2_with fail
     go_quiet (fail)
     have H1:=hid (H.out.drewN nq)
     go_wp2_with fail
     go_meet
     exact ⟨k,rfl,hk1,hk2,hid ⟨HS.out,fun hk=>absurd hk hle⟩,H1⟩
  case rest =>
   clear H
   obtain ⟨k,rfl,hk1,hk2,HS,H⟩:=hcut
   go_upto_block 4 with fail
   go_cut [10] from 29 to 82 (fun v wx=>∃ q:Nat,v = .int .i64 q∧a≤q∧q≤b'∧Hid (GtR a q (b'+1) ys∧(k≤q→gv ys q≤gv ys a)∧q≤q0)∧Hid (SX 54 w wx g n ys sz))
   case first =>
    go_wp2_with fail
    go_loopw [10] (fun j wr=>∃ q:Nat,a≤q∧q≤b'∧j = .int .i64 q∧Hid (GtR a q (b'+1) ys∧q≤q0)∧Hid (SX 54 w wr g n ys sz)) (fun j _=>(RowKit.intOf j).toNat)
    case atStart=>exact ⟨q0,by omega,by omega,rfl,hid ⟨HZ.out.2,Nat.le_refl _⟩,H⟩
    case round =>
     clear H
     obtain ⟨q,hq1,hq2,rfl,HR,H⟩:=hrel
     by_cases hle:k≤q
     ·have e3:(q:Int) < (n:Int):=by omega
      have e4:decide ((k:Int)≤(q:Int))=true:=decide_eq_true (by omega)
      go_wp2_with fail
      obtain ⟨x1,c1,z1,d1⟩:=H.out.at_ (i:=a) (by omega)
      obtain ⟨x2,c2,z2,d2⟩:=H.out.at_ (i:=q) (by omega)
      obtain ⟨bb,HB0,HLs⟩:=lessXP x1 x2
      rw [d1.out,d2.out] at HB0
      have HBB:=hid HB0
      clear HB0
      clear d1 d2
      go_quiet ((go_at_call 217;exact Calls.quiet_of_same (HLs.out _)))
      have H1:=hid (H.out.drewN nq)
      clear c1 c2 z1 z2 H HLs
      cases bb
      ·have HB:=hid (Nat.not_lt.mp (of_decide_eq_false HBB.out.symm))
       clear HBB
       go_wp2_with fail
       go_meet
       exact ⟨q,rfl,hq1,hq2,hid ⟨HR.out.1,fun _=>HB.out,HR.out.2⟩,H1⟩
      ·have HB:=hid (of_decide_eq_true HBB.out.symm)
       clear HBB
       go_wp2_with fail
       go_roundw
       case rel=>exact ⟨q - 1,by omega,by omega,by go_num,hid ⟨HR.out.1.cons HB.out,by have:=HR.out.2;omega⟩,H1⟩
       case measure=>simp [RowKit.intOf];omega
     ·have e4:decide ((k:Int)≤(q:Int))=false:=decide_eq_false (by omega)
      go_wp2_with fail
      go_quiet (fail)
      have H1:=hid (H.out.drewN nq)
      go_wp2_with fail
      go_meet
      exact ⟨q,rfl,hq1,hq2,hid ⟨HR.out.1,fun hk=>absurd hk hle,HR.out.2⟩,H1⟩
   case rest =>
    clear H
    obtain ⟨q,rfl,hq1,hq2,HR,H⟩:=hcut
    by_cases hgt:q < k
    ·have e4:decide ((q:Int) < (k:Int))=true:=decide_eq_true (by omega)
     go_wp2_with fail
     go_ret
     exact ⟨k,rfl,by omega,by omega,ys,H.out,HP.out,pe_end HS.out.1 HR.out.1 hgt,HA.out⟩
    ·have e3:(q:Int) < (n:Int):=by omega
     have e4:decide ((q:Int) < (k:Int))=false:=decide_eq_false (by omega)
     have e5:(k:Int) < (n:Int):=by omega
     obtain ⟨x1,c1,z1,d1⟩:=H.out.at_ (i:=k) (by omega)
     obtain ⟨x2,c2,z2,d2⟩:=H.out.at_ (i:=q) (by omega)
     obtain ⟨x3,c3⟩:=H.out.mid (i:=k) (j:=q) (by omega) (.int .u64 (x2:Int))
     have H1:=hid (H.out.swap (by omega) (by omega) c1 c2 d1.out d2.out).drew
     clear d1 d2
     have HP1:=hid (HP.out.step (i:=k) (j:=q) (by omega) (by omega) (by have:=H.out.len;omega))
     have HZ1:=hid (pe_step HS.out.1 HR.out.1 (by omega) (by omega) (HS.out.2 (by have:=HR.out.2.2;omega)) (HR.out.2.1 (by omega)) (by omega) (by have:=H.out.len;omega))
     have HA1:=hid (HZ1.out.2.2.trans HA.out)
     have HZ2:=hid (And.intro HZ1.out.1 HZ1.out.2.1)
     clear H HP HS HR HZ HZ1 HA
     generalize sw ys k q=ys at *
     go_wp2_with fail
     go_region
     clear c1 c2 c3 z1 z2
     go_wp2_with fail
     go_roundw
     case rel=>exact ⟨k+1,q - 1,_,by omega,by omega,by omega,by omega,by go_num,by go_num,HP1,HA1,HZ2,H1⟩
     case measure=>simp [RowKit.intOf];omega
end
end Go.Proofs.YtfkjjoglnmeciaaGreatDoor
