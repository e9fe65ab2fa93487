/- The walks and laws that the claim leans on, part 6. -/
import Derived.Test.YtnlokpakiambaaaGreatDoorJae
set_option maxRecDepth 100000
set_option maxHeartbeats 16000000
namespace Go.Proofs.YtnlokpakiambaaaGreatDoor
open Go.Lib (hid)
section
open Go.RowKit Go.Maps
abbrev kU (x:Nat):Lit := .int .u64 (x:Int)
theorem kU_inj {x y:Nat} (h:kU x=kU y):x=y:=by
 have:(x:Int)=(y:Int):=by simpa [kU] using h
 omega
section
variable {H:Type} {D0:DataW H} {left:Lit→Bool} {ss:List Nat}
variable {P:Program} {k:TypeId} {R:Value→Option (DataW H × List MemPlace)} {w:World} {b n:Nat}
end
end
section
open Go.RowKit
theorem insertR_any (g n cap sz a b:Nat) (xs:List Nat) (w:World) (h:SortI w w g xs sz) (hl:xs.length=n) (hab:a≤b) (hb:b≤n) (hn:n≤1000000) (hc:n≤cap) (hcm:cap≤9223372036854775807) :
  Calls Tryz.prog 200 #[.slice (some ⟨g,0,none⟩) n cap, .int .i64 (a:Int), .int .i64 (b:Int)] w (RetSort w g xs sz):=by
 have H:=hid h
 have HL:=hid hl
 clear h hl
 go_enter Tryz.func200,Tryz.ntmps200
 go_wp2
 go_loopw [6] (fun i wr=>∃ (k:Nat),a+1≤k∧k≤b+1∧i = .int .i64 k∧Hid (SortI w wr g xs sz)) (fun i _=>b+1 - (RowKit.intOf i).toNat)
 case atStart=>exact ⟨a+1,by omega,by omega,by go_num,H⟩
 case round =>
  clear H
  obtain ⟨k,hk1,hk,rfl,H⟩:=hrel
  by_cases hlt:k < b
  ·go_wp2
   go_loopw [7] (fun j wr=>∃ (q:Nat),a≤q∧q≤k∧j = .int .i64 q∧Hid (SortI w wr g xs sz)) (fun j _=>(RowKit.intOf j).toNat)
   case atStart=>exact ⟨k,by omega,Nat.le_refl _,rfl,H⟩
   case round =>
    clear H
    obtain ⟨q,hqa,hq,rfl,H⟩:=hrel
    by_cases hq0:q=a
    ·subst hq0
     have e5:decide ((q:Int) < (q:Int))=false:=decide_eq_false (by omega)
     go_wp2
     go_quiet (fail)
     have H1:=hid (H.out.drewN nq)
     go_wp2
     go_roundw
     case rel=>exact ⟨k+1,by omega,by omega,by go_num,H1⟩
     case measure=>simp [RowKit.intOf];omega
    ·obtain ⟨q',rfl⟩:∃ q',q=q'+1:=⟨q - 1,by omega⟩
     have e1:(a:Int) < (q':Int)+1:=by omega
     have e2:(q':Int)+1 < (n:Int):=by omega
     have e3:(q':Int) < (n:Int):=by omega
     have e5:decide ((a:Int) < (q':Int)+1)=true:=decide_eq_true (by omega)
     have e6:((q':Int)+1).toNat=q'+1:=by omega
     have e8:IntKind.i64.wrap (q':Int)=(q':Int):=by rw [IntKind.wrap_i64];omega
     have e9:(0:Int)≤(q':Int)+1:=by omega
     go_wp2
     obtain ⟨x1,c1,z1⟩:=H.out.at_ (i:=(q'+1)) (by have:=HL.out;omega)
     obtain ⟨x2,c2,z2⟩:=H.out.at_ (i:=q') (by have:=HL.out;omega)
     obtain ⟨bb,HLs⟩:=less_some x1 x2
     go_quiet ((go_at_call 206;exact Calls.quiet_of_same (HLs.out _)))
     have H1:=hid (H.out.drewN nq)
     clear c1 c2 z1 z2 H
     cases bb
     ·go_wp2
      go_roundw
      case rel=>exact ⟨k+1,by omega,by omega,by go_num,H1⟩
      case measure=>simp [RowKit.intOf];omega
     ·have H:=H1
      clear H1
      generalize wr.drewN nq=wr at *
      obtain ⟨x1,c1,z1⟩:=H.out.at_ (i:=(q'+1)) (by have:=HL.out;omega)
      obtain ⟨x2,c2,z2⟩:=H.out.at_ (i:=q') (by have:=HL.out;omega)
      obtain ⟨x3,c3⟩:=H.out.mid (i:=(q'+1)) (j:=q') (by have:=HL.out;omega) (.int .u64 (x2:Int))
      have H1:=hid (H.out.swap (by have:=HL.out;omega) (by have:=HL.out;omega) c1 c2).drew
      clear H
      go_wp2
      go_region
      go_wp2
      exact ⟨⟨q',by omega,by omega,rfl,H1⟩,by simp [RowKit.intOf]⟩
  ·go_wp2
   go_end0
   exact ⟨rfl,H.out⟩
theorem sift_any (g n cap sz lo hi first:Nat) (xs:List Nat) (w:World) (h:SortI w w g xs sz) (hl:xs.length=n) (hf:first+hi≤n) (hlo:lo≤1000000) (hn:n≤1000000) :
  Calls Tryz.prog 233 #[.slice (some ⟨g,0,none⟩) n cap, .int .i64 (lo:Int), .int .i64 (hi:Int), .int .i64 (first:Int)] w (RetSort w g xs sz):=by
 have H:=hid h
 have HL:=hid hl
 clear h hl
 go_enter Tryz.func233,Tryz.ntmps233
 go_wp2
 go_loopw [8] (fun i wr=>∃ r:Nat,r≤lo+hi∧i = .int .i64 r∧Hid (SortI w wr g xs sz)) (fun i _=>lo+hi - (RowKit.intOf i).toNat)
 case atStart=>exact ⟨lo,by omega,rfl,H⟩
 case round =>
  clear H
  obtain ⟨r,hr,rfl,H⟩:=hrel
  go_upto_region 1 with fail
  go_cut [9] from 11 to 75 (fun v wx=>∃ c:Nat,v = .int .i64 c∧2 * r+1≤c∧c≤2 * r+1∧Hid (SortI w wx g xs sz))
  case first =>
   go_wp2_with fail
   go_meet
   exact ⟨2 * r+1,by go_num,Nat.le_refl _,Nat.le_refl _,H⟩
  case rest =>
   clear H
   obtain ⟨c,rfl,hc1,hc2,H⟩:=hcut
   by_cases hge:hi≤c
   ·have e1:decide ((hi:Int)≤(c:Int))=true:=decide_eq_true (by omega)
    go_wp2_with fail
    go_end0
    exact ⟨rfl,H.out⟩
   ·have e1:decide ((hi:Int)≤(c:Int))=false:=decide_eq_false (by omega)
    go_upto_region 3 with fail
    go_cut [36] from 11 to 75 (fun v wx=>∃ bb,v = .bool bb∧(bb=true→c+1 < hi)∧Hid (SortI w wx g xs sz))
    case first =>
     by_cases hl:c+1 < hi
     ·have e2:decide ((c:Int)+1 < (hi:Int))=true:=decide_eq_true (by omega)
      have f1:(first:Int)+(c:Int) < (n:Int):=by omega
      have f2:(first:Int)+(c:Int)+1 < (n:Int):=by omega
      have f3:((first:Int)+(c:Int)).toNat=first+c:=by omega
      have f4:((first:Int)+(c:Int)+1).toNat=first+c+1:=by omega
      have f5:(0:Int)≤(first:Int)+(c:Int):=by omega
      have f6:(0:Int)≤(first:Int)+(c:Int)+1:=by omega
      obtain ⟨x1,c1,z1⟩:=H.out.at_ (i:=(first+c)) (by have:=HL.out;omega)
      obtain ⟨x2,c2,z2⟩:=H.out.at_ (i:=(first+c+1)) (by have:=HL.out;omega)
      obtain ⟨bb,HLs⟩:=less_some x1 x2
      go_quiet ((go_at_call 206;exact Calls.quiet_of_same (HLs.out _)))
      have H1:=hid (H.out.drewN nq)
      clear c1 c2 z1 z2 H
      go_wp2_with fail
      go_meet
      exact ⟨bb,rfl,fun _=>hl,H1⟩
     ·have e2:decide ((c:Int)+1 < (hi:Int))=false:=decide_eq_false (by omega)
      go_quiet (fail)
      have H1:=hid (H.out.drewN nq)
      go_wp2_with fail
      go_meet
      exact ⟨false,rfl,fun h=>(by cases h),H1⟩
    case rest =>
     clear H
     obtain ⟨bb,rfl,hbb,H⟩:=hcut
     go_upto_if 36 with fail
     go_cut [9] from 11 to 75 (fun v wx=>∃ c2:Nat,v = .int .i64 c2∧c≤c2∧c2 < hi∧Hid (SortI w wx g xs sz))
     case first =>
      cases bb
      ·go_wp2_with fail
       go_meet
       exact ⟨c,rfl,Nat.le_refl _,by omega,H⟩
      ·have:=hbb rfl
       go_wp2_with fail
       go_meet
       exact ⟨c+1,by go_num,by omega,by omega,H⟩
     case rest =>
      clear H hbb
      obtain ⟨k2,rfl,hc3,hc4,H⟩:=hcut
      have f1:(first:Int)+(r:Int) < (n:Int):=by omega
      have f2:(first:Int)+(k2:Int) < (n:Int):=by omega
      have f3:((first:Int)+(r:Int)).toNat=first+r:=by omega
      have f4:((first:Int)+(k2:Int)).toNat=first+k2:=by omega
      have f5:(0:Int)≤(first:Int)+(r:Int):=by omega
      have f6:(0:Int)≤(first:Int)+(k2:Int):=by omega
      have ne:first+r≠first+k2:=by omega
      go_wp2_with fail
      obtain ⟨x1,c1,z1⟩:=H.out.at_ (i:=(first+r)) (by have:=HL.out;omega)
      obtain ⟨x2,c2,z2⟩:=H.out.at_ (i:=(first+k2)) (by have:=HL.out;omega)
      obtain ⟨bb,HLs⟩:=less_some x1 x2
      go_quiet ((go_at_call 206;exact Calls.quiet_of_same (HLs.out _)))
      have H1:=hid (H.out.drewN nq)
      clear c1 c2 z1 z2 H
      cases bb
      ·go_wp2_with fail
       go_end0
       exact ⟨rfl,H1.out⟩
      ·have H:=H1
       clear H1
       generalize wc.drewN nq=wr at *
       obtain ⟨x1,c1,z1⟩:=H.out.at_ (i:=(first+r)) (by have:=HL.out;omega)
       obtain ⟨x2,c2,z2⟩:=H.out.at_ (i:=(first+k2)) (by have:=HL.out;omega)
       obtain ⟨x3,c3⟩:=H.out.mid (i:=(first+r)) (j:=(first+k2)) (by have:=HL.out;omega) (.int .u64 (x2:Int))
       have H1:=hid (H.out.swap (by have:=HL.out;omega) (by have:=HL.out;omega) c1 c2).drew
       clear H
       go_wp2_with fail
       go_region
       clear c1 c2 c3 z1 z2
       go_wp2_with fail
       go_roundw
       case rel=>exact ⟨k2,by omega,rfl,H1⟩
       case measure=>simp [RowKit.intOf];omega
theorem SortI.self {w wr:World} {g sz:Nat} {xs:List Nat} (h:SortI w wr g xs sz):SortI wr wr g xs sz:=by
 obtain ⟨cs,ys,h1,h2,h3,h4,h5⟩:=h
 exact ⟨cs,ys,h1,h2,h3,h4,Chg.refl _ _⟩
theorem SortI.trans {w wr w':World} {g sz:Nat} {xs:List Nat} (h:SortI w wr g xs sz) (k:SortI wr w' g xs sz):SortI w w' g xs sz:=by
 obtain ⟨_,_,_,_,_,_,h5⟩:=h
 obtain ⟨cs,ys,h1,h2,h3,h4,k5⟩:=k
 exact ⟨cs,ys,h1,h2,h3,h4,h5.trans k5 (Grew.refl _ _)⟩
def DownI (k:Nat) (i:Value):Prop:=(k=0∧i = .int .i64 (-1))∨(∃ q:Nat,k=q+1∧i = .int .i64 (q:Int))
theorem DownI.pred (q:Nat):DownI q (.int .i64 ((q:Int) - 1)):=by
 cases q with
 | zero=>exact .inl ⟨rfl,rfl⟩
 | succ q=>exact .inr ⟨q,rfl,congrArg (Value.int .i64) (by omega)⟩
theorem heap_any (g n cap sz a d:Nat) (xs:List Nat) (w:World) (h:SortI w w g xs sz) (hl:xs.length=n) (hb:a+(d+1)≤n) (hn:n≤1000000) (hc:n≤cap) (hcm:cap≤9223372036854775807) :
  Calls Tryz.prog 201 #[.slice (some ⟨g,0,none⟩) n cap, .int .i64 (a:Int), .int .i64 ((a+(d+1):Nat):Int)] w (RetSort w g xs sz):=by
 have H:=hid h
 have HL:=hid hl
 have HS1:Hid (∀ (q:Nat) (W:World),q≤1000000→SortI W W g xs sz→Calls Tryz.prog 233 #[.slice (some ⟨g,0,none⟩) n cap, .int .i64 (q:Int), .int .i64 ((d:Int)+1), .int .i64 (a:Int)] W (RetSort W g xs sz)):=fun q W hq hW=>by
  have:=sift_any g n cap sz q (d+1) a xs W hW hl hb hq hn
  simpa using this
 have HS2:Hid (∀ (q:Nat) (W:World),q≤d→SortI W W g xs sz→Calls Tryz.prog 233 #[.slice (some ⟨g,0,none⟩) n cap, .int .i64 0, .int .i64 (q:Int), .int .i64 (a:Int)] W (RetSort W g xs sz)):=fun q W hq hW=>by
  have:=sift_any g n cap sz 0 q a xs W hW hl (by omega) (by omega) hn
  simpa using this
 clear h hl
 have u1:(a:Int)+((d:Int)+1) - (a:Int)=(d:Int)+1:=by omega
 have u2:IntKind.i64.wrap (d:Int)=(d:Int):=by rw [IntKind.wrap_i64];omega
 go_enter Tryz.func201,Tryz.ntmps201
 go_wp2
 go_loopw [9] (fun i wr=>∃ k:Nat,k≤d+1∧DownI k i∧Hid (SortI w wr g xs sz)) (fun i _=>(RowKit.intOf i+1).toNat)
 case atStart=>exact ⟨d / 2+1,by omega, .inr ⟨d / 2,rfl,congrArg (Value.int .i64) (by omega)⟩,H⟩
 case round =>
  clear H
  obtain ⟨k,hk,⟨rfl,rfl⟩ | ⟨q,rfl,rfl⟩,H⟩:=hrel
  ·go_wp2
   go_loopw [10] (fun i wr=>∃ k:Nat,k≤d+1∧DownI k i∧Hid (SortI w wr g xs sz)) (fun i _=>(RowKit.intOf i+1).toNat)
   case atStart=>exact ⟨d+1,by omega, .inr ⟨d,rfl,rfl⟩,H⟩
   case round =>
    clear H
    obtain ⟨k,hk,⟨rfl,rfl⟩ | ⟨q,rfl,rfl⟩,H⟩:=hrel
    ·go_wp2
     go_end0
     exact ⟨rfl,H.out⟩
    ·have f1:(a:Int)+(q:Int) < (n:Int):=by omega
     have f2:(a:Int) < (n:Int):=by omega
     have f3:((a:Int)+(q:Int)).toNat=a+q:=by omega
     have f5:(0:Int)≤(a:Int)+(q:Int):=by omega
     obtain ⟨x1,c1,z1⟩:=H.out.at_ (i:=a) (by have:=HL.out;omega)
     obtain ⟨x2,c2,z2⟩:=H.out.at_ (i:=(a+q)) (by have:=HL.out;omega)
     obtain ⟨x3,c3⟩:=H.out.mid (i:=a) (j:=(a+q)) (by have:=HL.out;omega) (.int .u64 (x2:Int))
     have H1:=hid (H.out.swap (by have:=HL.out;omega) (by have:=HL.out;omega) c1 c2).drew
     clear H
     go_wp2_with fail
     go_region
     clear c1 c2 c3 z1 z2
     go_wp2_with fail
     generalize hW:World.drew _=W at *
     clear hW
     refine (HS2.out q W (by omega) H1.out.self).mono ?_
     rintro e W1 ⟨rfl,h1⟩
     have H2:=hid (H1.out.trans h1)
     clear h1 H1
     go_wp2_with fail
     go_roundw
     case rel =>
      repeat apply Exists.intro
      refine ⟨?_,rfl⟩
      exact ⟨q,by omega,DownI.pred q,H2⟩
     case measure=>simp [RowKit.intOf]
  ·go_wp2_with fail
   refine (HS1.out q wr (by omega) H.out.self).mono ?_
   rintro e W1 ⟨rfl,h1⟩
   have H1:=hid (H.out.trans h1)
   clear h1 H
   go_wp2_with fail
   go_roundw
   case rel =>
    repeat apply Exists.intro
    refine ⟨?_,rfl⟩
    exact ⟨q,by omega,DownI.pred q,H1⟩
   case measure=>simp [RowKit.intOf]
end
end Go.Proofs.YtnlokpakiambaaaGreatDoor
