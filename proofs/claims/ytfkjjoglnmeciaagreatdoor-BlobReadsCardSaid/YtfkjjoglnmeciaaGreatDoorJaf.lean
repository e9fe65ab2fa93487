/- The walks and laws that the claim leans on, part 6. -/
import Derived.Test.YtfkjjoglnmeciaaGreatDoorJad
set_option maxRecDepth 100000
set_option maxHeartbeats 16000000
namespace Go.Proofs.YtfkjjoglnmeciaaGreatDoor
open Go.Lib (hid)
section
open Go.RowKit
section
variable {w wr:World} {g sz:Nat} {xs:List Nat}
theorem SortI.drew (h:SortI w wr g xs sz):SortI w wr.drew g xs sz:=by
 obtain ⟨cs,ys,h1,h2,h3,h4,h5⟩:=h
 exact ⟨cs,ys,h1,h2,h3,h4,h5.drew⟩
theorem SortI.at_ (h:SortI w wr g xs sz) {i:Nat} (hi:i < xs.length):∃ x:Nat,wr.cell? ⟨g,i,none⟩=some (.int .u64 (x:Int))∧wr.frozen? ⟨g,i,none⟩=false:=by
 obtain ⟨cs,ys,h1,h2,h3,h4,h5⟩:=h
 have hyl:i < ys.length:=by rw [h4.length_eq];exact hi
 exact ⟨ys[i],by rw [h1.cell];exact h3.2 _ hyl,h1.frozen i⟩
theorem SortI.swap (h:SortI w wr g xs sz) {i j x y:Nat} (hi:i < xs.length) (hj:j < xs.length) (hx:wr.cell? ⟨g,i,none⟩=some (.int .u64 (x:Int))) (hy:wr.cell? ⟨g,j,none⟩=some (.int .u64 (y:Int))) :
  SortI w ((wr.setCell ⟨g,i,none⟩ (.int .u64 (y:Int))).setCell ⟨g,j,none⟩ (.int .u64 (x:Int))) g xs sz:=by
 obtain ⟨cs,ys,h1,h2,h3,h4,h5⟩:=h
 have i1:i < ys.length:=by rw [h4.length_eq];exact hi
 have j1:j < ys.length:=by rw [h4.length_eq];exact hj
 have ex:ys[i]=x:=by
  rw [h1.cell,h3.2 _ i1] at hx
  simp at hx;omega
 have ey:ys[j]=y:=by
  rw [h1.cell,h3.2 _ j1] at hy
  simp at hy;omega
 subst ex;subst ey
 exact ⟨_,_,(h1.set_ i _).set_ j _,by simpa using h2,(h3.set i _ i1).set j _ (by rw [List.length_set];exact j1),(List.set_set_perm i1 j1).trans h4,(h5.setCell (p:=⟨g,i,none⟩) (.inl rfl) _).setCell (p:=⟨g,j,none⟩) (.inl rfl) _⟩
theorem SortI.mid (h:SortI w wr g xs sz) {i j:Nat} (hj:j < xs.length) (u:Value):∃ v,(wr.setCell ⟨g,i,none⟩ u).cell? ⟨g,j,none⟩=some v:=by
 obtain ⟨cs,ys,h1,h2,h3,h4,h5⟩:=h
 have j1:j < ys.length:=by rw [h4.length_eq];exact hj
 have h:=(h1.set_ i u).cell j
 have hs:j < (cs.setIfInBounds i u).size:=by have:=h3.1;simp;omega
 exact ⟨_,h.trans (Array.getElem?_eq_getElem hs)⟩
theorem SortI.drewN (h:SortI w wr g xs sz) (n:Nat):SortI w (wr.drewN n) g xs sz:=by
 obtain ⟨cs,ys,h1,h2,h3,h4,h5⟩:=h
 exact ⟨cs,ys,h1,h2,h3,h4,h5.drewN n⟩
end
theorem less_any (x y:Nat) (w:World):Calls Tryz.prog 257 #[.int .u64 (x:Int), .int .u64 (y:Int)] w fun e w'=>e = .returned (.bool (decide (x < y)))∧w'=w:=by
 go_enter Tryz.func257,Tryz.ntmps257
 go_wp2
 all_goals (go_ret;exact ⟨rfl,rfl⟩)
theorem less_some (x y:Nat):∃ bb,Hid (∀ W:World,Calls Tryz.prog 257 #[.int .u64 (x:Int), .int .u64 (y:Int)] W fun e w'=>e = .returned (.bool bb)∧w'=W):=⟨_,fun W=>less_any x y W⟩
def RetMid (w:World) (g:Nat) (xs:List Nat) (sz a b:Nat) (e:Ending) (w':World):Prop:=∃ m:Nat,e = .returned (.int .i64 (m:Int))∧a≤m∧m≤b∧SortI w w' g xs sz
def RetPart (w:World) (g:Nat) (xs:List Nat) (sz a b:Nat) (e:Ending) (w':World):Prop:=∃ (m:Nat) (c:Bool),e = .returned (.tuple #[.int .i64 (m:Int), .bool c])∧a≤m∧m < b∧SortI w w' g xs sz
theorem reverse_any (g n cap sz a b:Nat) (xs:List Nat) (w:World) (h:SortI w w g xs sz) (hl:xs.length=n) (hab:a < b) (hb:b≤n) (hn:n≤1000000) (hc:n≤cap) (hcm:cap≤9223372036854775807) :
  Calls Tryz.prog 255 #[.slice (some ⟨g,0,none⟩) n cap, .int .i64 (a:Int), .int .i64 (b:Int)] w (RetSort w g xs sz):=by
 have H:=hid h
 have HL:=hid hl
 clear h hl
 obtain ⟨b',rfl⟩:∃ b',b=b'+1:=⟨b - 1,by omega⟩
 have u1:IntKind.i64.wrap (b':Int)=(b':Int):=by rw [IntKind.wrap_i64];omega
 go_enter Tryz.func255,Tryz.ntmps255
 go_wp2
 go_loopw [6,7] (fun i j wr=>∃ (p q:Nat),p≤b'+1∧q≤b'∧i = .int .i64 p∧j = .int .i64 q∧Hid (SortI w wr g xs sz)) (fun _ j _=>(RowKit.intOf j).toNat)
 case atStart=>exact ⟨a,b',by omega,by omega,rfl,by go_num,H⟩
 case round =>
  clear H
  obtain ⟨p,q,hp,hq,rfl,rfl,H⟩:=hrel
  by_cases hlt:p < q
  ·have e1:(p:Int) < (n:Int):=by omega
   have e2:(q:Int) < (n:Int):=by omega
   obtain ⟨x1,c1,z1⟩:=H.out.at_ (i:=p) (by have:=HL.out;omega)
   obtain ⟨x2,c2,z2⟩:=H.out.at_ (i:=q) (by have:=HL.out;omega)
   obtain ⟨x3,c3⟩:=H.out.mid (i:=p) (j:=q) (by have:=HL.out;omega) (.int .u64 (x2:Int))
   have H1:=hid (H.out.swap (by have:=HL.out;omega) (by have:=HL.out;omega) c1 c2).drew
   have e3:decide ((p:Int) < (q:Int))=true:=decide_eq_true (by omega)
   clear H
   go_wp2
   go_region
   go_wp2
   go_roundw
   case rel=>exact ⟨p+1,q - 1,by omega,by omega,by go_num,by go_num,H1⟩
   case measure=>simp [RowKit.intOf];omega
  ·go_wp2
   go_end0
   exact ⟨rfl,H.out⟩
theorem partition_any (g n cap sz a b p:Nat) (xs:List Nat) (w:World) (h:SortI w w g xs sz) (hl:xs.length=n) (hab:a+1 < b) (hb:b≤n) (hp2:p < b) (hn:n≤1000000) (hc:n≤cap) (hcm:cap≤9223372036854775807) :
  Calls Tryz.prog 259 #[.slice (some ⟨g,0,none⟩) n cap, .int .i64 (a:Int), .int .i64 (b:Int), .int .i64 (p:Int)] w (RetPart w g xs sz a b):=by
 have H:=hid h
 have HL:=hid hl
 clear h hl
 obtain ⟨b',rfl⟩:∃ b',b=b'+1:=⟨b - 1,by omega⟩
 have u1:IntKind.i64.wrap (b':Int)=(b':Int):=by rw [IntKind.wrap_i64];omega
 have e1:(a:Int) < (n:Int):=by omega
 have e2:(p:Int) < (n:Int):=by omega
 go_enter Tryz.func259,Tryz.ntmps259
 obtain ⟨x1,c1,z1⟩:=H.out.at_ (i:=a) (by have:=HL.out;omega)
 obtain ⟨x2,c2,z2⟩:=H.out.at_ (i:=p) (by have:=HL.out;omega)
 obtain ⟨x3,c3⟩:=H.out.mid (i:=a) (j:=p) (by have:=HL.out;omega) (.int .u64 (x2:Int))
 have H1:=hid (H.out.swap (by have:=HL.out;omega) (by have:=HL.out;omega) c1 c2).drew
 clear H
 go_wp2
 go_region
 clear c1 c2 c3 z1 z2
 go_upto_block 0 with fail
 go_cut [10] from 30 to 45 (fun v wx=>∃ k:Nat,v = .int .i64 k∧a+1≤k∧k≤b'+1∧Hid (SortI w wx g xs sz))
 case first =>
  go_wp2_with fail
  go_loopw [10] (fun i wr=>∃ k:Nat,a+1≤k∧k≤b'+1∧i = .int .i64 k∧Hid (SortI w wr g xs sz)) (fun i _=>b'+1 - (RowKit.intOf i).toNat)
  case atStart=>exact ⟨a+1,by omega,by omega,by go_num,H1⟩
  case round =>
   clear H1
   obtain ⟨k,hk1,hk2,rfl,H⟩:=hrel
   by_cases hle:k≤b'
   ·have e3:(k:Int) < (n:Int):=by omega
    have e4:decide ((k:Int)≤(b':Int))=true:=decide_eq_true (by omega)
    go_wp2_with fail
    obtain ⟨x1,c1,z1⟩:=H.out.at_ (i:=k) (by have:=HL.out;omega)
    obtain ⟨x2,c2,z2⟩:=H.out.at_ (i:=a) (by have:=HL.out;omega)
    obtain ⟨bb,HLs⟩:=less_some x1 x2
    go_quiet ((go_at_call 257;exact Calls.quiet_of_same (HLs.out _)))
    have H1:=hid (H.out.drewN nq)
    clear c1 c2 z1 z2 H
    cases bb
    ·go_wp2_with fail
     go_meet
     exact ⟨k,rfl,hk1,hk2,H1⟩
    ·go_wp2_with fail
     go_roundw
     case rel=>exact ⟨k+1,by omega,by omega,by go_num,H1⟩
     case measure=>simp [RowKit.intOf];omega
   ·have e4:decide ((k:Int)≤(b':Int))=false:=decide_eq_false (by omega)
    go_wp2_with fail
    go_quiet (fail)
    have H1:=hid (H.out.drewN nq)
    go_wp2_with fail
    go_meet
    exact ⟨k,rfl,hk1,hk2,H1⟩
 case rest =>
  clear H1
  obtain ⟨k,rfl,hk1,hk2,H⟩:=hcut
  go_upto_block 2 with fail
  go_cut [11] from 46 to 62 (fun v wx=>∃ q:Nat,v = .int .i64 q∧a≤q∧q≤b'∧Hid (SortI w wx g xs sz))
  case first =>
   go_wp2_with fail
   go_loopw [11] (fun j wr=>∃ q:Nat,a≤q∧q≤b'∧j = .int .i64 q∧Hid (SortI w wr g xs sz)) (fun j _=>(RowKit.intOf j).toNat)
   case atStart=>exact ⟨b',by omega,by omega,rfl,H⟩
   case round =>
    clear H
    obtain ⟨q,hq1,hq2,rfl,H⟩:=hrel
    by_cases hle:k≤q
    ·have e3:(q:Int) < (n:Int):=by omega
     have e4:decide ((k:Int)≤(q:Int))=true:=decide_eq_true (by omega)
     go_wp2_with fail
     obtain ⟨x1,c1,z1⟩:=H.out.at_ (i:=q) (by have:=HL.out;omega)
     obtain ⟨x2,c2,z2⟩:=H.out.at_ (i:=a) (by have:=HL.out;omega)
     obtain ⟨bb,HLs⟩:=less_some x1 x2
     go_quiet ((go_at_call 257;exact Calls.quiet_of_same (HLs.out _)))
     have H1:=hid (H.out.drewN nq)
     clear c1 c2 z1 z2 H
     cases bb
     ·go_wp2_with fail
      go_roundw
      case rel=>exact ⟨q - 1,by omega,by omega,by go_num,H1⟩
      case measure=>simp [RowKit.intOf];omega
     ·go_wp2_with fail
      go_meet
      exact ⟨q,rfl,hq1,hq2,H1⟩
    ·have e4:decide ((k:Int)≤(q:Int))=false:=decide_eq_false (by omega)
     go_wp2_with fail
     go_quiet (fail)
     have H1:=hid (H.out.drewN nq)
     go_wp2_with fail
     go_meet
     exact ⟨q,rfl,hq1,hq2,H1⟩
  case rest =>
   clear H
   obtain ⟨q,rfl,hq1,hq2,H⟩:=hcut
   by_cases hgt:q < k
   ·have e3:(q:Int) < (n:Int):=by omega
    have e4:decide ((q:Int) < (k:Int))=true:=decide_eq_true (by omega)
    obtain ⟨x1,c1,z1⟩:=H.out.at_ (i:=q) (by have:=HL.out;omega)
    obtain ⟨x2,c2,z2⟩:=H.out.at_ (i:=a) (by have:=HL.out;omega)
    obtain ⟨x3,c3⟩:=H.out.mid (i:=q) (j:=a) (by have:=HL.out;omega) (.int .u64 (x2:Int))
    have H1:=hid (H.out.swap (by have:=HL.out;omega) (by have:=HL.out;omega) c1 c2).drew
    clear H
    go_wp2_with fail
    go_region
    clear c1 c2 c3 z1 z2
    go_wp2_with fail
    go_ret2
    exact ⟨q,true,rfl,by omega,by omega,H1.out⟩
   ·have e3:(q:Int) < (n:Int):=by omega
    have e4:decide ((q:Int) < (k:Int))=false:=decide_eq_false (by omega)
    have e5:(k:Int) < (n:Int):=by omega
    obtain ⟨x1,c1,z1⟩:=H.out.at_ (i:=k) (by have:=HL.out;omega)
    obtain ⟨x2,c2,z2⟩:=H.out.at_ (i:=q) (by have:=HL.out;omega)
    obtain ⟨x3,c3⟩:=H.out.mid (i:=k) (j:=q) (by have:=HL.out;omega) (.int .u64 (x2:Int))
    have H1:=hid (H.out.swap (by have:=HL.out;omega) (by have:=HL.out;omega) c1 c2).drew
    clear H
    go_wp2_with fail
    go_region
    clear c1 c2 c3 z1 z2
    go_wp2_with fail
    go_loopw [10,11] (fun i j wr=>∃ k q:Nat,a+1≤k∧k≤b'+1∧a≤q∧q≤b'∧i = .int .i64 k∧j = .int .i64 q∧Hid (SortI w wr g xs sz)) (fun i _ _=>b'+1 - (RowKit.intOf i).toNat)
    case atStart=>exact ⟨k+1,q - 1,by omega,by omega,by omega,by omega,by go_num,by go_num,H1⟩
    case round =>
     clear H1 e3 e4 e5 hgt
     obtain ⟨k0,q0,hk01,hk02,hq01,hq02,rfl,rfl,H⟩:=hrel
     go_upto_block 6 with fail
     go_cut [10] from 99 to 152 (fun v wx=>∃ k:Nat,v = .int .i64 k∧k0≤k∧k≤b'+1∧Hid (SortI w wx g xs sz))
     case first =>
      go_wp2_with fail
      go_loopw [10] (fun i wr=>∃ k:Nat,k0≤k∧k≤b'+1∧i = .int .i64 k∧Hid (SortI w wr g xs sz)) (fun i _=>b'+1 - (RowKit.intOf i).toNat)
      case atStart=>exact ⟨k0,by omega,by omega,rfl,H⟩
      case round =>
       clear H
       obtain ⟨k,hk1,hk2,rfl,H⟩:=hrel
       by_cases hle:k≤q0
       ·have e3:(k:Int) < (n:Int):=by omega
        have e4:decide ((k:Int)≤(q0:Int))=true:=decide_eq_true (by omega)
        go_wp2_with fail
        obtain ⟨x1,c1,z1⟩:=H.out.at_ (i:=k) (by have:=HL.out;omega)
        obtain ⟨x2,c2,z2⟩:=H.out.at_ (i:=a) (by have:=HL.out;omega)
        obtain ⟨bb,HLs⟩:=less_some x1 x2
        go_quiet ((go_at_call 257;exact Calls.quiet_of_same (HLs.out _)))
        have H1:=hid (H.out.drewN nq)
        clear c1 c2 z1 z2 H
        cases bb
        ·go_wp2_with fail
         go_meet
         exact ⟨k,rfl,hk1,hk2,H1⟩
        ·go_wp2_with fail
         go_roundw
         case rel=>exact ⟨k+1,by omega,by omega,by go_num,H1⟩
         case measure=>simp [RowKit.intOf];omega
       ·have e4:decide ((k:Int)≤(q0:Int))=false:=decide_eq_false (by omega)
        go_wp2_with fail
        go_quiet (fail)
        have H1:=hid (H.out.drewN nq)
        go_wp2_with fail
        go_meet
        exact ⟨k,rfl,hk1,hk2,H1⟩
     case rest =>
      clear H
      obtain ⟨k,rfl,hk1,hk2,H⟩:=hcut
      go_upto_block 8 with fail
      go_cut [11] from 99 to 152 (fun v wx=>∃ q:Nat,v = .int .i64 q∧a≤q∧q≤b'∧Hid (SortI w wx g xs sz))
      case first =>
       go_wp2_with fail
       go_loopw [11] (fun j wr=>∃ q:Nat,a≤q∧q≤b'∧j = .int .i64 q∧Hid (SortI w wr g xs sz)) (fun j _=>(RowKit.intOf j).toNat)
       case atStart=>exact ⟨q0,by omega,by omega,rfl,H⟩
       case round =>
        clear H
        obtain ⟨q,hq1,hq2,rfl,H⟩:=hrel
        by_cases hle:k≤q
        ·have e3:(q:Int) < (n:Int):=by omega
         have e4:decide ((k:Int)≤(q:Int))=true:=decide_eq_true (by omega)
         go_wp2_with fail
         obtain ⟨x1,c1,z1⟩:=H.out.at_ (i:=q) (by have:=HL.out;omega)
         obtain ⟨x2,c2,z2⟩:=H.out.at_ (i:=a) (by have:=HL.out;omega)
         obtain ⟨bb,HLs⟩:=less_some x1 x2
         go_quiet ((go_at_call 257;exact Calls.quiet_of_same (HLs.out _)))
         have H1:=hid (H.out.drewN nq)
         clear c1 c2 z1 z2 H
         cases bb
         ·go_wp2_with fail
          go_roundw
          case rel=>exact ⟨q - 1,by omega,by omega,by go_num,H1⟩
          case measure=>simp [RowKit.intOf];omega
         ·go_wp2_with fail
          go_meet
          exact ⟨q,rfl,hq1,hq2,H1⟩
        ·have e4:decide ((k:Int)≤(q:Int))=false:=decide_eq_false (by omega)
         go_wp2_with fail
         go_quiet (fail)
         have H1:=hid (H.out.drewN nq)
         go_wp2_with fail
         go_meet
         exact ⟨q,rfl,hq1,hq2,H1⟩
      case rest =>
       clear H
       obtain ⟨q,rfl,hq1,hq2,H⟩:=hcut
       by_cases hgt:q < k
       ·have e3:(q:Int) < (n:Int):=by omega
        have e4:decide ((q:Int) < (k:Int))=true:=decide_eq_true (by omega)
        obtain ⟨x1,c1,z1⟩:=H.out.at_ (i:=q) (by have:=HL.out;omega)
        obtain ⟨x2,c2,z2⟩:=H.out.at_ (i:=a) (by have:=HL.out;omega)
        obtain ⟨x3,c3⟩:=H.out.mid (i:=q) (j:=a) (by have:=HL.out;omega) (.int .u64 (x2:Int))
        have H1:=hid (H.out.swap (by have:=HL.out;omega) (by have:=HL.out;omega) c1 c2).drew
        clear H
        go_wp2_with fail
        go_region
        clear c1 c2 c3 z1 z2
        go_wp2_with fail
        go_ret2
        exact ⟨q,false,rfl,by omega,by omega,H1.out⟩
       ·have e3:(q:Int) < (n:Int):=by omega
        have e4:decide ((q:Int) < (k:Int))=false:=decide_eq_false (by omega)
        have e5:(k:Int) < (n:Int):=by omega
        obtain ⟨x1,c1,z1⟩:=H.out.at_ (i:=k) (by have:=HL.out;omega)
        obtain ⟨x2,c2,z2⟩:=H.out.at_ (i:=q) (by have:=HL.out;omega)
        obtain ⟨x3,c3⟩:=H.out.mid (i:=k) (j:=q) (by have:=HL.out;omega) (.int .u64 (x2:Int))
        have H1:=hid (H.out.swap (by have:=HL.out;omega) (by have:=HL.out;omega) c1 c2).drew
        clear H
        go_wp2_with fail
        go_region
        clear c1 c2 c3 z1 z2
        go_wp2_with fail
        go_roundw
        case rel=>exact ⟨k+1,q - 1,by omega,by omega,by omega,by omega,by go_num,by go_num,H1⟩
        case measure=>simp [RowKit.intOf];omega
theorem partEqual_any (g n cap sz a b p:Nat) (xs:List Nat) (w:World) (h:SortI w w g xs sz) (hl:xs.length=n) (hab:a+1 < b) (hb:b≤n) (hp2:p < b) (hn:n≤1000000) (hc:n≤cap) (hcm:cap≤9223372036854775807) :
  Calls Tryz.prog 258 #[.slice (some ⟨g,0,none⟩) n cap, .int .i64 (a:Int), .int .i64 (b:Int), .int .i64 (p:Int)] w (RetMid w g xs sz (a+1) b):=by
 have H:=hid h
 have HL:=hid hl
 clear h hl
 obtain ⟨b',rfl⟩:∃ b',b=b'+1:=⟨b - 1,by omega⟩
 have u1:IntKind.i64.wrap (b':Int)=(b':Int):=by rw [IntKind.wrap_i64];omega
 have e1:(a:Int) < (n:Int):=by omega
 have e2:(p:Int) < (n:Int):=by omega
 go_enter Tryz.func258,Tryz.ntmps258
 obtain ⟨x1,c1,z1⟩:=H.out.at_ (i:=a) (by have:=HL.out;omega)
 obtain ⟨x2,c2,z2⟩:=H.out.at_ (i:=p) (by have:=HL.out;omega)
 obtain ⟨x3,c3⟩:=H.out.mid (i:=a) (j:=p) (by have:=HL.out;omega) (.int .u64 (x2:Int))
 have H1:=hid (H.out.swap (by have:=HL.out;omega) (by have:=HL.out;omega) c1 c2).drew
 clear H
 go_wp2
 go_region
 clear c1 c2 c3 z1 z2
 go_wp2_with fail
 go_loopw [9,10] (fun i j wr=>∃ k q:Nat,a+1≤k∧k≤b'+1∧a≤q∧q≤b'∧i = .int .i64 k∧j = .int .i64 q∧Hid (SortI w wr g xs sz)) (fun i _ _=>b'+1 - (RowKit.intOf i).toNat)
 case atStart=>exact ⟨a+1,b',by omega,by omega,by omega,by omega,by go_num,by go_num,H1⟩
 case round =>
  clear H1
  obtain ⟨k0,q0,hk01,hk02,hq01,hq02,rfl,rfl,H⟩:=hrel
  go_upto_block 2 with fail
  go_cut [9] from 29 to 82 (fun v wx=>∃ k:Nat,v = .int .i64 k∧k0≤k∧k≤b'+1∧Hid (SortI w wx g xs sz))
  case first =>
   go_wp2_with fail
   go_loopw [9] (fun i wr=>∃ k:Nat,k0≤k∧k≤b'+1∧i = .int .i64 k∧Hid (SortI w wr g xs sz)) (fun i _=>b'+1 - (RowKit.intOf i).toNat)
   case atStart=>exact ⟨k0,by omega,by omega,rfl,H⟩
   case round =>
    clear H
    obtain ⟨k,hk1,hk2,rfl,H⟩:=hrel
    by_cases hle:k≤q0
    ·have e3:(k:Int) < (n:Int):=by omega
     have e4:decide ((k:Int)≤(q0:Int))=true:=decide_eq_true (by omega)
     go_wp2_with fail
     obtain ⟨x1,c1,z1⟩:=H.out.at_ (i:=a) (by have:=HL.out;omega)
     obtain ⟨x2,c2,z2⟩:=H.out.at_ (i:=k) (by have:=HL.out;omega)
     obtain ⟨bb,HLs⟩:=less_some x1 x2
     go_quiet ((go_at_call 257;exact Calls.quiet_of_same (HLs.out _)))
     have H1:=hid (H.out.drewN nq)
     clear c1 c2 z1 z2 H
     cases bb
     ·go_wp2_with fail
      go_roundw
      case rel=>exact ⟨k+1,by omega,by omega,by go_num,H1⟩
      case measure=>simp [RowKit.intOf];omega
     ·go_wp2_with fail
      go_meet
      exact ⟨k,rfl,hk1,hk2,H1⟩
    ·have e4:decide ((k:Int)≤(q0:Int))=false:=decide_eq_false (by omega)
     go_wp2_with fail
     go_quiet (fail)
     have H1:=hid (H.out.drewN nq)
     go_wp2_with fail
     go_meet
     exact ⟨k,rfl,hk1,hk2,H1⟩
  case rest =>
   clear H
   obtain ⟨k,rfl,hk1,hk2,H⟩:=hcut
   go_upto_block 4 with fail
   go_cut [10] from 29 to 82 (fun v wx=>∃ q:Nat,v = .int .i64 q∧a≤q∧q≤b'∧Hid (SortI w wx g xs sz))
   case first =>
    go_wp2_with fail
    go_loopw [10] (fun j wr=>∃ q:Nat,a≤q∧q≤b'∧j = .int .i64 q∧Hid (SortI w wr g xs sz)) (fun j _=>(RowKit.intOf j).toNat)
    case atStart=>exact ⟨q0,by omega,by omega,rfl,H⟩
    case round =>
     clear H
     obtain ⟨q,hq1,hq2,rfl,H⟩:=hrel
     by_cases hle:k≤q
     ·have e3:(q:Int) < (n:Int):=by omega
      have e4:decide ((k:Int)≤(q:Int))=true:=decide_eq_true (by omega)
      go_wp2_with fail
      obtain ⟨x1,c1,z1⟩:=H.out.at_ (i:=a) (by have:=HL.out;omega)
      obtain ⟨x2,c2,z2⟩:=H.out.at_ (i:=q) (by have:=HL.out;omega)
      obtain ⟨bb,HLs⟩:=less_some x1 x2
      go_quiet ((go_at_call 257;exact Calls.quiet_of_same (HLs.out _)))
      have H1:=hid (H.out.drewN nq)
      clear c1 c2 z1 z2 H
      cases bb
      ·go_wp2_with fail
       go_meet
       exact ⟨q,rfl,hq1,hq2,H1⟩
      ·go_wp2_with fail
       go_roundw
       case rel=>exact ⟨q - 1,by omega,by omega,by go_num,H1⟩
       case measure=>simp [RowKit.intOf];omega
     ·have e4:decide ((k:Int)≤(q:Int))=false:=decide_eq_false (by omega)
      go_wp2_with fail
      go_quiet (fail)
      have H1:=hid (H.out.drewN nq)
      go_wp2_with fail
      go_meet
      exact ⟨q,rfl,hq1,hq2,H1⟩
   case rest =>
    clear H
    obtain ⟨q,rfl,hq1,hq2,H⟩:=hcut
    by_cases hgt:q < k
    ·have e4:decide ((q:Int) < (k:Int))=true:=decide_eq_true (by omega)
     go_wp2_with fail
     go_ret
     exact ⟨k,rfl,by omega,by omega,H.out⟩
    ·have e3:(q:Int) < (n:Int):=by omega
     have e4:decide ((q:Int) < (k:Int))=false:=decide_eq_false (by omega)
     have e5:(k:Int) < (n:Int):=by omega
     obtain ⟨x1,c1,z1⟩:=H.out.at_ (i:=k) (by have:=HL.out;omega)
     obtain ⟨x2,c2,z2⟩:=H.out.at_ (i:=q) (by have:=HL.out;omega)
     obtain ⟨x3,c3⟩:=H.out.mid (i:=k) (j:=q) (by have:=HL.out;omega) (.int .u64 (x2:Int))
     have H1:=hid (H.out.swap (by have:=HL.out;omega) (by have:=HL.out;omega) c1 c2).drew
     clear H
     go_wp2_with fail
     go_region
     clear c1 c2 c3 z1 z2
     go_wp2_with fail
     go_roundw
     case rel=>exact ⟨k+1,q - 1,by omega,by omega,by omega,by omega,by go_num,by go_num,H1⟩
     case measure=>simp [RowKit.intOf];omega
end
section
open Go.RowKit
structure OffOk (L s n o:Nat):Prop where
 al:o % 8=0
 lt:o < 64 * L
 out:o < 64 * s∨64 * s+64 * n≤o
end
section
open Go.RowKit
theorem insertR_any (g n cap sz a b:Nat) (xs:List Nat) (w:World) (h:SortI w w g xs sz) (hl:xs.length=n) (hab:a≤b) (hb:b≤n) (hn:n≤1000000) (hc:n≤cap) (hcm:cap≤9223372036854775807) :
  Calls Tryz.prog 251 #[.slice (some ⟨g,0,none⟩) n cap, .int .i64 (a:Int), .int .i64 (b:Int)] w (RetSort w g xs sz):=by
 have H:=hid h
 have HL:=hid hl
 clear h hl
 go_enter Tryz.func251,Tryz.ntmps251
 go_wp2
 go_loopw [6] (fun i wr=>∃ (k:Nat),a+1≤k∧k≤b+1∧i = .int .i64 k∧Hid (SortI w wr g xs sz)) (fun i _=>b+1 - (RowKit.intOf i).toNat)
 case atStart=>exact ⟨a+1,by omega,by omega,by go_num,H⟩
 case round =>
  clear H
  obtain ⟨k,hk1,hk,rfl,H⟩:=hrel
  by_cases hlt:k < b
  ·go_wp2
   go_loopw [7] (fun j wr=>∃ (q:Nat),a≤q∧q≤k∧j = .int .i64 q∧Hid (SortI w wr g xs sz)) (fun j _=>(RowKit.intOf j).toNat)
   case atStart=>exact ⟨k,by omega,Nat.le_refl _,rfl,H⟩
   case round =>
    clear H
    obtain ⟨q,hqa,hq,rfl,H⟩:=hrel
    by_cases hq0:q=a
    ·subst hq0
     have e5:decide ((q:Int) < (q:Int))=false:=decide_eq_false (by omega)
     go_wp2
     go_quiet (fail)
     have H1:=hid (H.out.drewN nq)
     go_wp2
     go_roundw
     case rel=>exact ⟨k+1,by omega,by omega,by go_num,H1⟩
     case measure=>simp [RowKit.intOf];omega
    ·obtain ⟨q',rfl⟩:∃ q',q=q'+1:=⟨q - 1,by omega⟩
     have e1:(a:Int) < (q':Int)+1:=by omega
     have e2:(q':Int)+1 < (n:Int):=by omega
     have e3:(q':Int) < (n:Int):=by omega
     have e5:decide ((a:Int) < (q':Int)+1)=true:=decide_eq_true (by omega)
     have e6:((q':Int)+1).toNat=q'+1:=by omega
     have e8:IntKind.i64.wrap (q':Int)=(q':Int):=by rw [IntKind.wrap_i64];omega
     have e9:(0:Int)≤(q':Int)+1:=by omega
     go_wp2
     obtain ⟨x1,c1,z1⟩:=H.out.at_ (i:=(q'+1)) (by have:=HL.out;omega)
     obtain ⟨x2,c2,z2⟩:=H.out.at_ (i:=q') (by have:=HL.out;omega)
     obtain ⟨bb,HLs⟩:=less_some x1 x2
     go_quiet ((go_at_call 257;exact Calls.quiet_of_same (HLs.out _)))
     have H1:=hid (H.out.drewN nq)
     clear c1 c2 z1 z2 H
     cases bb
     ·go_wp2
      go_roundw
      case rel=>exact ⟨k+1,by omega,by omega,by go_num,H1⟩
      case measure=>simp [RowKit.intOf];omega
     ·have H:=H1
      clear H1
      generalize wr.drewN nq=wr at *
      obtain ⟨x1,c1,z1⟩:=H.out.at_ (i:=(q'+1)) (by have:=HL.out;omega)
      obtain ⟨x2,c2,z2⟩:=H.out.at_ (i:=q') (by have:=HL.out;omega)
      obtain ⟨x3,c3⟩:=H.out.mid (i:=(q'+1)) (j:=q') (by have:=HL.out;omega) (.int .u64 (x2:Int))
      have H1:=hid (H.out.swap (by have:=HL.out;omega) (by have:=HL.out;omega) c1 c2).drew
      clear H
      go_wp2
      go_region
      go_wp2
      exact ⟨⟨q',by omega,by omega,rfl,H1⟩,by simp [RowKit.intOf]⟩
  ·go_wp2
   go_end0
   exact ⟨rfl,H.out⟩
theorem sift_any (g n cap sz lo hi first:Nat) (xs:List Nat) (w:World) (h:SortI w w g xs sz) (hl:xs.length=n) (hf:first+hi≤n) (hlo:lo≤1000000) (hn:n≤1000000) :
  Calls Tryz.prog 322 #[.slice (some ⟨g,0,none⟩) n cap, .int .i64 (lo:Int), .int .i64 (hi:Int), .int .i64 (first:Int)] w (RetSort w g xs sz):=by
 have H:=hid h
 have HL:=hid hl
 clear h hl
 go_enter Tryz.func322,Tryz.ntmps322
 go_wp2
 go_loopw [8] (fun i wr=>∃ r:Nat,r≤lo+hi∧i = .int .i64 r∧Hid (SortI w wr g xs sz)) (fun i _=>lo+hi - (RowKit.intOf i).toNat)
 case atStart=>exact ⟨lo,by omega,rfl,H⟩
 case round =>
  clear H
  obtain ⟨r,hr,rfl,H⟩:=hrel
  go_upto_region 1 with fail
  go_cut [9] from 11 to 75 (fun v wx=>∃ c:Nat,v = .int .i64 c∧2 * r+1≤c∧c≤2 * r+1∧Hid (SortI w wx g xs sz))
  case first =>
   go_wp2_with fail
   go_meet
   exact ⟨2 * r+1,by go_num,Nat.le_refl _,Nat.le_refl _,H⟩
  case rest =>
   clear H
   obtain ⟨c,rfl,hc1,hc2,H⟩:=hcut
   by_cases hge:hi≤c
   ·have e1:decide ((hi:Int)≤(c:Int))=true:=decide_eq_true (by omega)
    go_wp2_with fail
    go_end0
    exact ⟨rfl,H.out⟩
   ·have e1:decide ((hi:Int)≤(c:Int))=false:=decide_eq_false (by omega)
    go_upto_region 3 with fail
    go_cut [36] from 11 to 75 (fun v wx=>∃ bb,v = .bool bb∧(bb=true→c+1 < hi)∧Hid (SortI w wx g xs sz))
    case first =>
     by_cases hl:c+1 < hi
     ·have e2:decide ((c:Int)+1 < (hi:Int))=true:=decide_eq_true (by omega)
      have f1:(first:Int)+(c:Int) < (n:Int):=by omega
      have f2:(first:Int)+(c:Int)+1 < (n:Int):=by omega
      have f3:((first:Int)+(c:Int)).toNat=first+c:=by omega
      have f4:((first:Int)+(c:Int)+1).toNat=first+c+1:=by omega
      have f5:(0:Int)≤(first:Int)+(c:Int):=by omega
      have f6:(0:Int)≤(first:Int)+(c:Int)+1:=by omega
      obtain ⟨x1,c1,z1⟩:=H.out.at_ (i:=(first+c)) (by have:=HL.out;omega)
      obtain ⟨x2,c2,z2⟩:=H.out.at_ (i:=(first+c+1)) (by have:=HL.out;omega)
      obtain ⟨bb,HLs⟩:=less_some x1 x2
      go_quiet ((go_at_call 257;exact Calls.quiet_of_same (HLs.out _)))
      have H1:=hid (H.out.drewN nq)
      clear c1 c2 z1 z2 H
      go_wp2_with fail
      go_meet
      exact ⟨bb,rfl,fun _=>hl,H1⟩
     ·have e2:decide ((c:Int)+1 < (hi:Int))=false:=decide_eq_false (by omega)
      go_quiet (fail)
      have H1:=hid (H.out.drewN nq)
      go_wp2_with fail
      go_meet
      exact ⟨false,rfl,fun h=>(by cases h),H1⟩
    case rest =>
     clear H
     obtain ⟨bb,rfl,hbb,H⟩:=hcut
     go_upto_if 36 with fail
     go_cut [9] from 11 to 75 (fun v wx=>∃ c2:Nat,v = .int .i64 c2∧c≤c2∧c2 < hi∧Hid (SortI w wx g xs sz))
     case first =>
      cases bb
      ·go_wp2_with fail
       go_meet
       exact ⟨c,rfl,Nat.le_refl _,by omega,H⟩
      ·have:=hbb rfl
       go_wp2_with fail
       go_meet
       exact ⟨c+1,by go_num,by omega,by omega,H⟩
     case rest =>
      clear H hbb
      obtain ⟨k2,rfl,hc3,hc4,H⟩:=hcut
      have f1:(first:Int)+(r:Int) < (n:Int):=by omega
      have f2:(first:Int)+(k2:Int) < (n:Int):=by omega
      have f3:((first:Int)+(r:Int)).toNat=first+r:=by omega
      have f4:((first:Int)+(k2:Int)).toNat=first+k2:=by omega
      have f5:(0:Int)≤(first:Int)+(r:Int):=by omega
      have f6:(0:Int)≤(first:Int)+(k2:Int):=by omega
      have ne:first+r≠first+k2:=by omega
      go_wp2_with fail
      obtain ⟨x1,c1,z1⟩:=H.out.at_ (i:=(first+r)) (by have:=HL.out;omega)
      obtain ⟨x2,c2,z2⟩:=H.out.at_ (i:=(first+k2)) (by have:=HL.out;omega)
      obtain ⟨bb,HLs⟩:=less_some x1 x2
      go_quiet ((go_at_call 257;exact Calls.quiet_of_same (HLs.out _)))
      have H1:=hid (H.out.drewN nq)
      clear c1 c2 z1 z2 H
      cases bb
      ·go_wp2_with fail
       go_end0
       exact ⟨rfl,H1.out⟩
      ·have H:=H1
       clear H1
       generalize wc.drewN nq=wr at *
       obtain ⟨x1,c1,z1⟩:=H.out.at_ (i:=(first+r)) (by have:=HL.out;omega)
       obtain ⟨x2,c2,z2⟩:=H.out.at_ (i:=(first+k2)) (by have:=HL.out;omega)
       obtain ⟨x3,c3⟩:=H.out.mid (i:=(first+r)) (j:=(first+k2)) (by have:=HL.out;omega) (.int .u64 (x2:Int))
       have H1:=hid (H.out.swap (by have:=HL.out;omega) (by have:=HL.out;omega) c1 c2).drew
       clear H
       go_wp2_with fail
       go_region
       clear c1 c2 c3 z1 z2
       go_wp2_with fail
       go_roundw
       case rel=>exact ⟨k2,by omega,rfl,H1⟩
       case measure=>simp [RowKit.intOf];omega
theorem SortI.self {w wr:World} {g sz:Nat} {xs:List Nat} (h:SortI w wr g xs sz):SortI wr wr g xs sz:=by
 obtain ⟨cs,ys,h1,h2,h3,h4,h5⟩:=h
 exact ⟨cs,ys,h1,h2,h3,h4,Chg.refl _ _⟩
theorem SortI.trans {w wr w':World} {g sz:Nat} {xs:List Nat} (h:SortI w wr g xs sz) (k:SortI wr w' g xs sz):SortI w w' g xs sz:=by
 obtain ⟨_,_,_,_,_,_,h5⟩:=h
 obtain ⟨cs,ys,h1,h2,h3,h4,k5⟩:=k
 exact ⟨cs,ys,h1,h2,h3,h4,h5.trans k5 (Grew.refl _ _)⟩
def DownI (k:Nat) (i:Value):Prop:=(k=0∧i = .int .i64 (-1))∨(∃ q:Nat,k=q+1∧i = .int .i64 (q:Int))
theorem DownI.pred (q:Nat):DownI q (.int .i64 ((q:Int) - 1)):=by
 cases q with
 | zero=>exact .inl ⟨rfl,rfl⟩
 | succ q=>exact .inr ⟨q,rfl,congrArg (Value.int .i64) (by omega)⟩
theorem heap_any (g n cap sz a d:Nat) (xs:List Nat) (w:World) (h:SortI w w g xs sz) (hl:xs.length=n) (hb:a+(d+1)≤n) (hn:n≤1000000) (hc:n≤cap) (hcm:cap≤9223372036854775807) :
  Calls Tryz.prog 252 #[.slice (some ⟨g,0,none⟩) n cap, .int .i64 (a:Int), .int .i64 ((a+(d+1):Nat):Int)] w (RetSort w g xs sz):=by
 have H:=hid h
 have HL:=hid hl
 have HS1:Hid (∀ (q:Nat) (W:World),q≤1000000→SortI W W g xs sz→Calls Tryz.prog 322 #[.slice (some ⟨g,0,none⟩) n cap, .int .i64 (q:Int), .int .i64 ((d:Int)+1), .int .i64 (a:Int)] W (RetSort W g xs sz)):=fun q W hq hW=>by
  have:=sift_any g n cap sz q (d+1) a xs W hW hl hb hq hn
  simpa using this
 have HS2:Hid (∀ (q:Nat) (W:World),q≤d→SortI W W g xs sz→Calls Tryz.prog 322 #[.slice (some ⟨g,0,none⟩) n cap, .int .i64 0, .int .i64 (q:Int), .int .i64 (a:Int)] W (RetSort W g xs sz)):=fun q W hq hW=>by
  have:=sift_any g n cap sz 0 q a xs W hW hl (by omega) (by omega) hn
  simpa using this
 clear h hl
 have u1:(a:Int)+((d:Int)+1) - (a:Int)=(d:Int)+1:=by omega
 have u2:IntKind.i64.wrap (d:Int)=(d:Int):=by rw [IntKind.wrap_i64];omega
 go_enter Tryz.func252,Tryz.ntmps252
 go_wp2
 go_loopw [9] (fun i wr=>∃ k:Nat,k≤d+1∧DownI k i∧Hid (SortI w wr g xs sz)) (fun i _=>(RowKit.intOf i+1).toNat)
 case atStart=>exact ⟨d / 2+1,by omega, .inr ⟨d / 2,rfl,congrArg (Value.int .i64) (by omega)⟩,H⟩
 case round =>
  clear H
  obtain ⟨k,hk,⟨rfl,rfl⟩ | ⟨q,rfl,rfl⟩,H⟩:=hrel
  ·go_wp2
   go_loopw [10] (fun i wr=>∃ k:Nat,k≤d+1∧DownI k i∧Hid (SortI w wr g xs sz)) (fun i _=>(RowKit.intOf i+1).toNat)
   case atStart=>exact ⟨d+1,by omega, .inr ⟨d,rfl,rfl⟩,H⟩
   case round =>
    clear H
    obtain ⟨k,hk,⟨rfl,rfl⟩ | ⟨q,rfl,rfl⟩,H⟩:=hrel
    ·go_wp2
     go_end0
     exact ⟨rfl,H.out⟩
    ·have f1:(a:Int)+(q:Int) < (n:Int):=by omega
     have f2:(a:Int) < (n:Int):=by omega
     have f3:((a:Int)+(q:Int)).toNat=a+q:=by omega
     have f5:(0:Int)≤(a:Int)+(q:Int):=by omega
     obtain ⟨x1,c1,z1⟩:=H.out.at_ (i:=a) (by have:=HL.out;omega)
     obtain ⟨x2,c2,z2⟩:=H.out.at_ (i:=(a+q)) (by have:=HL.out;omega)
     obtain ⟨x3,c3⟩:=H.out.mid (i:=a) (j:=(a+q)) (by have:=HL.out;omega) (.int .u64 (x2:Int))
     have H1:=hid (H.out.swap (by have:=HL.out;omega) (by have:=HL.out;omega) c1 c2).drew
     clear H
     go_wp2_with fail
     go_region
     clear c1 c2 c3 z1 z2
     go_wp2_with fail
     generalize hW:World.drew _=W at *
     clear hW
     refine (HS2.out q W (by omega) H1.out.self).mono ?_
     rintro e W1 ⟨rfl,h1⟩
     have H2:=hid (H1.out.trans h1)
     clear h1 H1
     go_wp2_with fail
     go_roundw
     case rel =>
      repeat apply Exists.intro
      refine ⟨?_,rfl⟩
      exact ⟨q,by omega,DownI.pred q,H2⟩
     case measure=>simp [RowKit.intOf]
  ·go_wp2_with fail
   refine (HS1.out q wr (by omega) H.out.self).mono ?_
   rintro e W1 ⟨rfl,h1⟩
   have H1:=hid (H.out.trans h1)
   clear h1 H
   go_wp2_with fail
   go_roundw
   case rel =>
    repeat apply Exists.intro
    refine ⟨?_,rfl⟩
    exact ⟨q,by omega,DownI.pred q,H1⟩
   case measure=>simp [RowKit.intOf]
end
end Go.Proofs.YtfkjjoglnmeciaaGreatDoor
