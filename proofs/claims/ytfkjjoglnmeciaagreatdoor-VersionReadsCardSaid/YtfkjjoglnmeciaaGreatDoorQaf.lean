/- The walks and laws that the claim leans on, part 6. -/
import Derived.Test.YtfkjjoglnmeciaaGreatDoorQae
set_option maxRecDepth 100000
set_option maxHeartbeats 16000000
namespace Go.Proofs.YtfkjjoglnmeciaaGreatDoor
open Go.Lib (hid)
section
open Go.RowKit Go.Maps
abbrev kU (x:Nat):Lit := .int .u64 (x:Int)
theorem kU_inj {x y:Nat} (h:kU x=kU y):x=y:=by
 have:(x:Int)=(y:Int):=by simpa [kU] using h
 omega
section
variable {H:Type} {D0:DataW H} {left:Lit→Bool} {ss:List Nat}
variable {P:Program} {k:TypeId} {R:Value→Option (DataW H × List MemPlace)} {w:World} {b n:Nat}
end
end
section
open Go.RowKit
section
variable {w wr:World} {g sz:Nat} {xs:List Nat}
theorem SortI.drew (h:SortI w wr g xs sz):SortI w wr.drew g xs sz:=by
 obtain ⟨cs,ys,h1,h2,h3,h4,h5⟩:=h;exact ⟨cs,ys,h1,h2,h3,h4,h5.drew⟩
theorem SortI.at_ (h:SortI w wr g xs sz) {i:Nat} (hi:i < xs.length):∃ x:Nat,wr.cell? ⟨g,i,none⟩=some (.int .u64 (x:Int))∧wr.frozen? ⟨g,i,none⟩=false:=by
 obtain ⟨cs,ys,h1,h2,h3,h4,h5⟩:=h;have hyl:i < ys.length:=by rw [h4.length_eq];exact hi
 exact ⟨ys[i],by rw [h1.cell];exact h3.2 _ hyl,h1.frozen i⟩
theorem SortI.swap (h:SortI w wr g xs sz) {i j x y:Nat} (hi:i < xs.length) (hj:j < xs.length) (hx:wr.cell? ⟨g,i,none⟩=some (.int .u64 (x:Int))) (hy:wr.cell? ⟨g,j,none⟩=some (.int .u64 (y:Int))) :
  SortI w ((wr.setCell ⟨g,i,none⟩ (.int .u64 (y:Int))).setCell ⟨g,j,none⟩ (.int .u64 (x:Int))) g xs sz:=by
 obtain ⟨cs,ys,h1,h2,h3,h4,h5⟩:=h;have i1:i < ys.length:=by rw [h4.length_eq];exact hi
 have j1:j < ys.length:=by rw [h4.length_eq];exact hj
 have ex:ys[i]=x:=by
  rw [h1.cell,h3.2 _ i1] at hx;simp at hx;omega
 have ey:ys[j]=y:=by
  rw [h1.cell,h3.2 _ j1] at hy;simp at hy;omega
 subst ex;subst ey;exact ⟨_,_,(h1.set_ i _).set_ j _,by simpa using h2,(h3.set i _ i1).set j _ (by rw [List.length_set];exact j1),(List.set_set_perm i1 j1).trans h4,(h5.setCell (p:=⟨g,i,none⟩) (.inl rfl) _).setCell (p:=⟨g,j,none⟩) (.inl rfl) _⟩
theorem SortI.mid (h:SortI w wr g xs sz) {i j:Nat} (hj:j < xs.length) (u:Value):∃ v,(wr.setCell ⟨g,i,none⟩ u).cell? ⟨g,j,none⟩=some v:=by
 obtain ⟨cs,ys,h1,h2,h3,h4,h5⟩:=h;have j1:j < ys.length:=by rw [h4.length_eq];exact hj
 have h:=(h1.set_ i u).cell j;have hs:j < (cs.setIfInBounds i u).size:=by have:=h3.1;simp;omega
 exact ⟨_,h.trans (Array.getElem?_eq_getElem hs)⟩
theorem SortI.drewN (h:SortI w wr g xs sz) (n:Nat):SortI w (wr.drewN n) g xs sz:=by
 obtain ⟨cs,ys,h1,h2,h3,h4,h5⟩:=h;exact ⟨cs,ys,h1,h2,h3,h4,h5.drewN n⟩
end
theorem less_any (x y:Nat) (w:World):Calls Tryz.prog 257 #[.int .u64 (x:Int), .int .u64 (y:Int)] w fun e w'=>e = .returned (.bool (decide (x < y)))∧w'=w:=by
 go_enter Tryz.func257,Tryz.ntmps257
 go_wp2;all_goals (go_ret;exact ⟨rfl,rfl⟩)
theorem less_some (x y:Nat):∃ bb,Hid (∀ W:World,Calls Tryz.prog 257 #[.int .u64 (x:Int), .int .u64 (y:Int)] W fun e w'=>e = .returned (.bool bb)∧w'=W):=⟨_,fun W=>less_any x y W⟩
def RetMid (w:World) (g:Nat) (xs:List Nat) (sz a b:Nat) (e:Ending) (w':World):Prop:=∃ m:Nat,e = .returned (.int .i64 (m:Int))∧a≤m∧m≤b∧SortI w w' g xs sz
def RetPart (w:World) (g:Nat) (xs:List Nat) (sz a b:Nat) (e:Ending) (w':World):Prop:=∃ (m:Nat) (c:Bool),e = .returned (.tuple #[.int .i64 (m:Int), .bool c])∧a≤m∧m < b∧SortI w w' g xs sz
theorem reverse_any (g n cap sz a b:Nat) (xs:List Nat) (w:World) (h:SortI w w g xs sz) (hl:xs.length=n) (hab:a < b) (hb:b≤n) (hn:n≤1000000) (hc:n≤cap) (hcm:cap≤9223372036854775807) :
  Calls Tryz.prog 255 #[.slice (some ⟨g,0,none⟩) n cap, .int .i64 (a:Int), .int .i64 (b:Int)] w (RetSort w g xs sz):=by
 have H:=hid h;have HL:=hid hl;clear h hl;obtain ⟨b',rfl⟩:∃ b',b=b'+1:=⟨b - 1,oM⟩
 have u1:IntKind.i64.wrap (b':Int)=(b':Int):=by rw [IntKind.wrap_i64];omega
 go_enter Tryz.func255,Tryz.ntmps255
 go_wp2;go_loopw [6,7] (fun i j wr=>∃ (p q:Nat),p≤b'+1∧q≤b'∧i = .int .i64 p∧j = .int .i64 q∧Hid (SortI w wr g xs sz)) (fun _ j _=>(RowKit.intOf j).toNat)
 case atStart=>exact ⟨a,b',oM,oM,rfl,by go_num,H⟩
 case round =>
  clear H;obtain ⟨p,q,hp,hq,rfl,rfl,H⟩:=hrel;by_cases hlt:p < q
  ·have e1:(p:Int) < (n:Int):=oM
   have e2:(q:Int) < (n:Int):=oM;obtain ⟨x1,c1,z1⟩:=H.out.at_ (i:=p) (by have:=HL.out;omega);obtain ⟨x2,c2,z2⟩:=H.out.at_ (i:=q) (by have:=HL.out;omega);obtain ⟨x3,c3⟩:=H.out.mid (i:=p) (j:=q) (by have:=HL.out;omega) (.int .u64 (x2:Int));have H1:=hid (H.out.swap (by have:=HL.out;omega) (by have:=HL.out;omega) c1 c2).drew;have e3:decide ((p:Int) < (q:Int))=true:=dT;clear H;go_wp2;go_region;go_wp2;go_roundw
   case rel=>exact ⟨p+1,q - 1,oM,oM,by go_num,by go_num,H1⟩
   case measure=>simp [RowKit.intOf];omega
  ·go_wp2
   go_end0;exact ⟨rfl,H.out⟩
theorem partition_any (g n cap sz a b p:Nat) (xs:List Nat) (w:World) (h:SortI w w g xs sz) (hl:xs.length=n) (hab:a+1 < b) (hb:b≤n) (hp2:p < b) (hn:n≤1000000) (hc:n≤cap) (hcm:cap≤9223372036854775807) :
  Calls Tryz.prog 259 #[.slice (some ⟨g,0,none⟩) n cap, .int .i64 (a:Int), .int .i64 (b:Int), .int .i64 (p:Int)] w (RetPart w g xs sz a b):=by
 have H:=hid h;have HL:=hid hl;clear h hl;obtain ⟨b',rfl⟩:∃ b',b=b'+1:=⟨b - 1,oM⟩
 have u1:IntKind.i64.wrap (b':Int)=(b':Int):=by rw [IntKind.wrap_i64];omega
 have e1:(a:Int) < (n:Int):=oM;have e2:(p:Int) < (n:Int):=oM;go_enter Tryz.func259,Tryz.ntmps259
 obtain ⟨x1,c1,z1⟩:=H.out.at_ (i:=a) (by have:=HL.out;omega);obtain ⟨x2,c2,z2⟩:=H.out.at_ (i:=p) (by have:=HL.out;omega);obtain ⟨x3,c3⟩:=H.out.mid (i:=a) (j:=p) (by have:=HL.out;omega) (.int .u64 (x2:Int));have H1:=hid (H.out.swap (by have:=HL.out;omega) (by have:=HL.out;omega) c1 c2).drew;clear H;go_wp2;go_region;clear c1 c2 c3 z1 z2;go_upto_block 0 with fail
 go_cut [10] from 30 to 45 (fun v wx=>∃ k:Nat,v = .int .i64 k∧a+1≤k∧k≤b'+1∧Hid (SortI w wx g xs sz))
 case first =>
  go_wp2_with fail
  go_loopw [10] (fun i wr=>∃ k:Nat,a+1≤k∧k≤b'+1∧i = .int .i64 k∧Hid (SortI w wr g xs sz)) (fun i _=>b'+1 - (RowKit.intOf i).toNat)
  case atStart=>exact ⟨a+1,oM,oM,by go_num,H1⟩
  case round =>
   clear H1;obtain ⟨k,hk1,hk2,rfl,H⟩:=hrel;by_cases hle:k≤b'
   ·have e3:(k:Int) < (n:Int):=oM
    have e4:decide ((k:Int)≤(b':Int))=true:=dT;go_wp2_with fail
    obtain ⟨x1,c1,z1⟩:=H.out.at_ (i:=k) (by have:=HL.out;omega);obtain ⟨x2,c2,z2⟩:=H.out.at_ (i:=a) (by have:=HL.out;omega);obtain ⟨bb,HLs⟩:=less_some x1 x2;go_quiet ((go_at_call 257;exact Calls.quiet_of_same (HLs.out _)))
    have H1:=hid (H.out.drewN nq);clear c1 c2 z1 z2 H;cases bb
    ·go_wp2_with fail
     go_meet;exact ⟨k,rfl,hk1,hk2,H1⟩
    ·go_wp2_with fail
     go_roundw
     case rel=>exact ⟨k+1,oM,oM,by go_num,H1⟩
     case measure=>simp [RowKit.intOf];omega
   ·have e4:decide ((k:Int)≤(b':Int))=false:=dF
    go_wp2_with fail
    go_quiet (fail)
    have H1:=hid (H.out.drewN nq);go_wp2_with fail
    go_meet;exact ⟨k,rfl,hk1,hk2,H1⟩
 case rest =>
  clear H1;obtain ⟨k,rfl,hk1,hk2,H⟩:=hcut;go_upto_block 2 with fail
  go_cut [11] from 46 to 62 (fun v wx=>∃ q:Nat,v = .int .i64 q∧a≤q∧q≤b'∧Hid (SortI w wx g xs sz))
  case first =>
   go_wp2_with fail
   go_loopw [11] (fun j wr=>∃ q:Nat,a≤q∧q≤b'∧j = .int .i64 q∧Hid (SortI w wr g xs sz)) (fun j _=>(RowKit.intOf j).toNat)
   case atStart=>exact ⟨b',oM,oM,rfl,H⟩
   case round =>
    clear H;obtain ⟨q,hq1,hq2,rfl,H⟩:=hrel;by_cases hle:k≤q
    ·have e3:(q:Int) < (n:Int):=oM
     have e4:decide ((k:Int)≤(q:Int))=true:=dT;go_wp2_with fail
     obtain ⟨x1,c1,z1⟩:=H.out.at_ (i:=q) (by have:=HL.out;omega);obtain ⟨x2,c2,z2⟩:=H.out.at_ (i:=a) (by have:=HL.out;omega);obtain ⟨bb,HLs⟩:=less_some x1 x2;go_quiet ((go_at_call 257;exact Calls.quiet_of_same (HLs.out _)))
     have H1:=hid (H.out.drewN nq);clear c1 c2 z1 z2 H;cases bb
     ·go_wp2_with fail
      go_roundw
      case rel=>exact ⟨q - 1,oM,oM,by go_num,H1⟩
      case measure=>simp [RowKit.intOf];omega
     ·go_wp2_with fail
      go_meet;exact ⟨q,rfl,hq1,hq2,H1⟩
    ·have e4:decide ((k:Int)≤(q:Int))=false:=dF
     go_wp2_with fail
     go_quiet (fail)
     have H1:=hid (H.out.drewN nq);go_wp2_with fail
     go_meet;exact ⟨q,rfl,hq1,hq2,H1⟩
  case rest =>
   clear H;obtain ⟨q,rfl,hq1,hq2,H⟩:=hcut;by_cases hgt:q < k
   ·have e3:(q:Int) < (n:Int):=oM
    have e4:decide ((q:Int) < (k:Int))=true:=dT;obtain ⟨x1,c1,z1⟩:=H.out.at_ (i:=q) (by have:=HL.out;omega);obtain ⟨x2,c2,z2⟩:=H.out.at_ (i:=a) (by have:=HL.out;omega);obtain ⟨x3,c3⟩:=H.out.mid (i:=q) (j:=a) (by have:=HL.out;omega) (.int .u64 (x2:Int));have H1:=hid (H.out.swap (by have:=HL.out;omega) (by have:=HL.out;omega) c1 c2).drew;clear H;go_wp2_with fail
    go_region;clear c1 c2 c3 z1 z2;go_wp2_with fail
    go_ret2;exact ⟨q,true,rfl,oM,oM,H1.out⟩
   ·have e3:(q:Int) < (n:Int):=oM
    have e4:decide ((q:Int) < (k:Int))=false:=dF;have e5:(k:Int) < (n:Int):=oM;obtain ⟨x1,c1,z1⟩:=H.out.at_ (i:=k) (by have:=HL.out;omega);obtain ⟨x2,c2,z2⟩:=H.out.at_ (i:=q) (by have:=HL.out;omega);obtain ⟨x3,c3⟩:=H.out.mid (i:=k) (j:=q) (by have:=HL.out;omega) (.int .u64 (x2:Int));have H1:=hid (H.out.swap (by have:=HL.out;omega) (by have:=HL.out;omega) c1 c2).drew;clear H;go_wp2_with fail
    go_region;clear c1 c2 c3 z1 z2;go_wp2_with fail
    go_loopw [10,11] (fun i j wr=>∃ k q:Nat,a+1≤k∧k≤b'+1∧a≤q∧q≤b'∧i = .int .i64 k∧j = .int .i64 q∧Hid (SortI w wr g xs sz)) (fun i _ _=>b'+1 - (RowKit.intOf i).toNat)
    case atStart=>exact ⟨k+1,q - 1,oM,oM,oM,oM,by go_num,by go_num,H1⟩
    case round =>
     clear H1 e3 e4 e5 hgt;obtain ⟨k0,q0,hk01,hk02,hq01,hq02,rfl,rfl,H⟩:=hrel;go_upto_block 6 with fail
     go_cut [10] from 99 to 152 (fun v wx=>∃ k:Nat,v = .int .i64 k∧k0≤k∧k≤b'+1∧Hid (SortI w wx g xs sz))
     case first =>
      go_wp2_with fail
      go_loopw [10] (fun i wr=>∃ k:Nat,k0≤k∧k≤b'+1∧i = .int .i64 k∧Hid (SortI w wr g xs sz)) (fun i _=>b'+1 - (RowKit.intOf i).toNat)
      case atStart=>exact ⟨k0,oM,oM,rfl,H⟩
      case round =>
       clear H;obtain ⟨k,hk1,hk2,rfl,H⟩:=hrel;by_cases hle:k≤q0
       ·have e3:(k:Int) < (n:Int):=oM
        have e4:decide ((k:Int)≤(q0:Int))=true:=dT;go_wp2_with fail
        obtain ⟨x1,c1,z1⟩:=H.out.at_ (i:=k) (by have:=HL.out;omega);obtain ⟨x2,c2,z2⟩:=H.out.at_ (i:=a) (by have:=HL.out;omega);obtain ⟨bb,HLs⟩:=less_some x1 x2;go_quiet ((go_at_call 257;exact Calls.quiet_of_same (HLs.out _)))
        have H1:=hid (H.out.drewN nq);clear c1 c2 z1 z2 H;cases bb
        ·go_wp2_with fail
         go_meet;exact ⟨k,rfl,hk1,hk2,H1⟩
        ·go_wp2_with fail
         go_roundw
         case rel=>exact ⟨k+1,oM,oM,by go_num,H1⟩
         case measure=>simp [RowKit.intOf];omega
       ·have e4:decide ((k:Int)≤(q0:Int))=false:=dF
        go_wp2_with fail
        go_quiet (fail)
        have H1:=hid (H.out.drewN nq);go_wp2_with fail
        go_meet;exact ⟨k,rfl,hk1,hk2,H1⟩
     case rest =>
      clear H;obtain ⟨k,rfl,hk1,hk2,H⟩:=hcut;go_upto_block 8 with fail
      go_cut [11] from 99 to 152 (fun v wx=>∃ q:Nat,v = .int .i64 q∧a≤q∧q≤b'∧Hid (SortI w wx g xs sz))
      case first =>
       go_wp2_with fail
       go_loopw [11] (fun j wr=>∃ q:Nat,a≤q∧q≤b'∧j = .int .i64 q∧Hid (SortI w wr g xs sz)) (fun j _=>(RowKit.intOf j).toNat)
       case atStart=>exact ⟨q0,oM,oM,rfl,H⟩
       case round =>
        clear H;obtain ⟨q,hq1,hq2,rfl,H⟩:=hrel;by_cases hle:k≤q
        ·have e3:(q:Int) < (n:Int):=oM
         have e4:decide ((k:Int)≤(q:Int))=true:=dT;go_wp2_with fail
         obtain ⟨x1,c1,z1⟩:=H.out.at_ (i:=q) (by have:=HL.out;omega);obtain ⟨x2,c2,z2⟩:=H.out.at_ (i:=a) (by have:=HL.out;omega);obtain ⟨bb,HLs⟩:=less_some x1 x2;go_quiet ((go_at_call 257;exact Calls.quiet_of_same (HLs.out _)))
         have H1:=hid (H.out.drewN nq);clear c1 c2 z1 z2 H;cases bb
         ·go_wp2_with fail
          go_roundw
          case rel=>exact ⟨q - 1,oM,oM,by go_num,H1⟩
          case measure=>simp [RowKit.intOf];omega
         ·go_wp2_with fail
          go_meet;exact ⟨q,rfl,hq1,hq2,H1⟩
        ·have e4:decide ((k:Int)≤(q:Int))=false:=dF
         go_wp2_with fail
         go_quiet (fail)
         have H1:=hid (H.out.drewN nq);go_wp2_with fail
         go_meet;exact ⟨q,rfl,hq1,hq2,H1⟩
      case rest =>
       clear H;obtain ⟨q,rfl,hq1,hq2,H⟩:=hcut;by_cases hgt:q < k
       ·have e3:(q:Int) < (n:Int):=oM
        have e4:decide ((q:Int) < (k:Int))=true:=dT;obtain ⟨x1,c1,z1⟩:=H.out.at_ (i:=q) (by have:=HL.out;omega);obtain ⟨x2,c2,z2⟩:=H.out.at_ (i:=a) (by have:=HL.out;omega);obtain ⟨x3,c3⟩:=H.out.mid (i:=q) (j:=a) (by have:=HL.out;omega) (.int .u64 (x2:Int));have H1:=hid (H.out.swap (by have:=HL.out;omega) (by have:=HL.out;omega) c1 c2).drew;clear H;go_wp2_with fail
        go_region;clear c1 c2 c3 z1 z2;go_wp2_with fail
        go_ret2;exact ⟨q,false,rfl,oM,oM,H1.out⟩
       ·have e3:(q:Int) < (n:Int):=oM
        have e4:decide ((q:Int) < (k:Int))=false:=dF;have e5:(k:Int) < (n:Int):=oM;obtain ⟨x1,c1,z1⟩:=H.out.at_ (i:=k) (by have:=HL.out;omega);obtain ⟨x2,c2,z2⟩:=H.out.at_ (i:=q) (by have:=HL.out;omega);obtain ⟨x3,c3⟩:=H.out.mid (i:=k) (j:=q) (by have:=HL.out;omega) (.int .u64 (x2:Int));have H1:=hid (H.out.swap (by have:=HL.out;omega) (by have:=HL.out;omega) c1 c2).drew;clear H;go_wp2_with fail
        go_region;clear c1 c2 c3 z1 z2;go_wp2_with fail
        go_roundw
        case rel=>exact ⟨k+1,q - 1,oM,oM,oM,oM,by go_num,by go_num,H1⟩
        case measure=>simp [RowKit.intOf];omega
theorem partEqual_any (g n cap sz a b p:Nat) (xs:List Nat) (w:World) (h:SortI w w g xs sz) (hl:xs.length=n) (hab:a+1 < b) (hb:b≤n) (hp2:p < b) (hn:n≤1000000) (hc:n≤cap) (hcm:cap≤9223372036854775807) :
  Calls Tryz.prog 258 #[.slice (some ⟨g,0,none⟩) n cap, .int .i64 (a:Int), .int .i64 (b:Int), .int .i64 (p:Int)] w (RetMid w g xs sz (a+1) b):=by
 have H:=hid h;have HL:=hid hl;clear h hl;obtain ⟨b',rfl⟩:∃ b',b=b'+1:=⟨b - 1,oM⟩
 have u1:IntKind.i64.wrap (b':Int)=(b':Int):=by rw [IntKind.wrap_i64];omega
 have e1:(a:Int) < (n:Int):=oM;have e2:(p:Int) < (n:Int):=oM;go_enter Tryz.func258,Tryz.ntmps258
 obtain ⟨x1,c1,z1⟩:=H.out.at_ (i:=a) (by have:=HL.out;omega);obtain ⟨x2,c2,z2⟩:=H.out.at_ (i:=p) (by have:=HL.out;omega);obtain ⟨x3,c3⟩:=H.out.mid (i:=a) (j:=p) (by have:=HL.out;omega) (.int .u64 (x2:Int));have H1:=hid (H.out.swap (by have:=HL.out;omega) (by have:=HL.out;omega) c1 c2).drew;clear H;go_wp2;go_region;clear c1 c2 c3 z1 z2;go_wp2_with fail
 go_loopw [9,10] (fun i j wr=>∃ k q:Nat,a+1≤k∧k≤b'+1∧a≤q∧q≤b'∧i = .int .i64 k∧j = .int .i64 q∧Hid (SortI w wr g xs sz)) (fun i _ _=>b'+1 - (RowKit.intOf i).toNat)
 case atStart=>exact ⟨a+1,b',oM,oM,oM,oM,by go_num,by go_num,H1⟩
 case round =>
  clear H1;obtain ⟨k0,q0,hk01,hk02,hq01,hq02,rfl,rfl,H⟩:=hrel;go_upto_block 2 with fail
  go_cut [9] from 29 to 82 (fun v wx=>∃ k:Nat,v = .int .i64 k∧k0≤k∧k≤b'+1∧Hid (SortI w wx g xs sz))
  case first =>
   go_wp2_with fail
   go_loopw [9] (fun i wr=>∃ k:Nat,k0≤k∧k≤b'+1∧i = .int .i64 k∧Hid (SortI w wr g xs sz)) (fun i _=>b'+1 - (RowKit.intOf i).toNat)
   case atStart=>exact ⟨k0,oM,oM,rfl,H⟩
   case round =>
    clear H;obtain ⟨k,hk1,hk2,rfl,H⟩:=hrel;by_cases hle:k≤q0
    ·have e3:(k:Int) < (n:Int):=oM
     have e4:decide ((k:Int)≤(q0:Int))=true:=dT;go_wp2_with fail
     obtain ⟨x1,c1,z1⟩:=H.out.at_ (i:=a) (by have:=HL.out;omega);obtain ⟨x2,c2,z2⟩:=H.out.at_ (i:=k) (by have:=HL.out;omega);obtain ⟨bb,HLs⟩:=less_some x1 x2;go_quiet ((go_at_call 257;exact Calls.quiet_of_same (HLs.out _)))
     have H1:=hid (H.out.drewN nq);clear c1 c2 z1 z2 H;cases bb
     ·go_wp2_with fail
      go_roundw
      case rel=>exact ⟨k+1,oM,oM,by go_num,H1⟩
      case measure=>simp [RowKit.intOf];omega
     ·go_wp2_with fail
      go_meet;exact ⟨k,rfl,hk1,hk2,H1⟩
    ·have e4:decide ((k:Int)≤(q0:Int))=false:=dF
     go_wp2_with fail
     go_quiet (fail)
     have H1:=hid (H.out.drewN nq);go_wp2_with fail
     go_meet;exact ⟨k,rfl,hk1,hk2,H1⟩
  case rest =>
   clear H;obtain ⟨k,rfl,hk1,hk2,H⟩:=hcut;go_upto_block 4 with fail
   go_cut [10] from 29 to 82 (fun v wx=>∃ q:Nat,v = .int .i64 q∧a≤q∧q≤b'∧Hid (SortI w wx g xs sz))
   case first =>
    go_wp2_with fail
    go_loopw [10] (fun j wr=>∃ q:Nat,a≤q∧q≤b'∧j = .int .i64 q∧Hid (SortI w wr g xs sz)) (fun j _=>(RowKit.intOf j).toNat)
    case atStart=>exact ⟨q0,oM,oM,rfl,H⟩
    case round =>
     clear H;obtain ⟨q,hq1,hq2,rfl,H⟩:=hrel;by_cases hle:k≤q
     ·have e3:(q:Int) < (n:Int):=oM
      have e4:decide ((k:Int)≤(q:Int))=true:=dT;go_wp2_with fail
      obtain ⟨x1,c1,z1⟩:=H.out.at_ (i:=a) (by have:=HL.out;omega);obtain ⟨x2,c2,z2⟩:=H.out.at_ (i:=q) (by have:=HL.out;omega);obtain ⟨bb,HLs⟩:=less_some x1 x2;go_quiet ((go_at_call 257;exact Calls.quiet_of_same (HLs.out _)))
      have H1:=hid (H.out.drewN nq);clear c1 c2 z1 z2 H;cases bb
      ·go_wp2_with fail
       go_meet;exact ⟨q,rfl,hq1,hq2,H1⟩
      ·go_wp2_with fail
       go_roundw
       case rel=>exact ⟨q - 1,oM,oM,by go_num,H1⟩
       case measure=>simp [RowKit.intOf];omega
     ·have e4:decide ((k:Int)≤(q:Int))=false:=dF
      go_wp2_with fail
      go_quiet (fail)
      have H1:=hid (H.out.drewN nq);go_wp2_with fail
      go_meet;exact ⟨q,rfl,hq1,hq2,H1⟩
   case rest =>
    clear H;obtain ⟨q,rfl,hq1,hq2,H⟩:=hcut;by_cases hgt:q < k
    ·have e4:decide ((q:Int) < (k:Int))=true:=dT
     go_wp2_with fail
     go_ret;exact ⟨k,rfl,oM,oM,H.out⟩
    ·have e3:(q:Int) < (n:Int):=oM
     have e4:decide ((q:Int) < (k:Int))=false:=dF;have e5:(k:Int) < (n:Int):=oM;obtain ⟨x1,c1,z1⟩:=H.out.at_ (i:=k) (by have:=HL.out;omega);obtain ⟨x2,c2,z2⟩:=H.out.at_ (i:=q) (by have:=HL.out;omega);obtain ⟨x3,c3⟩:=H.out.mid (i:=k) (j:=q) (by have:=HL.out;omega) (.int .u64 (x2:Int));have H1:=hid (H.out.swap (by have:=HL.out;omega) (by have:=HL.out;omega) c1 c2).drew;clear H;go_wp2_with fail
     go_region;clear c1 c2 c3 z1 z2;go_wp2_with fail
     go_roundw
     case rel=>exact ⟨k+1,q - 1,oM,oM,oM,oM,by go_num,by go_num,H1⟩
     case measure=>simp [RowKit.intOf];omega
end
end Go.Proofs.YtfkjjoglnmeciaaGreatDoor
