/- The walks and laws that the claim leans on, part 7. -/
import Derived.Test.YtfkjjoglnmeciaaGreatDoorQaf
set_option maxRecDepth 100000
set_option maxHeartbeats 16000000
namespace Go.Proofs.YtfkjjoglnmeciaaGreatDoor
open Go.Lib (hid)
section
open Go.RowKit
structure OffOk (L s n o:Nat):Prop where
 al:o % 8=0
 lt:o < 64 * L
 out:o < 64 * s∨64 * s+64 * n≤o
end
section
open Go.RowKit
theorem insertR_any (g n cap sz a b:Nat) (xs:List Nat) (w:World) (h:SortI w w g xs sz) (hl:xs.length=n) (hab:a≤b) (hb:b≤n) (hn:n≤1000000) (hc:n≤cap) (hcm:cap≤9223372036854775807) :
  Calls Tryz.prog 251 #[.slice (some ⟨g,0,none⟩) n cap, .int .i64 (a:Int), .int .i64 (b:Int)] w (RetSort w g xs sz):=by
 have H:=hid h;have HL:=hid hl;clear h hl;go_enter Tryz.func251,Tryz.ntmps251
 go_wp2;go_loopw [6] (fun i wr=>∃ (k:Nat),a+1≤k∧k≤b+1∧i = .int .i64 k∧Hid (SortI w wr g xs sz)) (fun i _=>b+1 - (RowKit.intOf i).toNat)
 case atStart=>exact ⟨a+1,oM,oM,by go_num,H⟩
 case round =>
  clear H;obtain ⟨k,hk1,hk,rfl,H⟩:=hrel;by_cases hlt:k < b
  ·go_wp2
   go_loopw [7] (fun j wr=>∃ (q:Nat),a≤q∧q≤k∧j = .int .i64 q∧Hid (SortI w wr g xs sz)) (fun j _=>(RowKit.intOf j).toNat)
   case atStart=>exact ⟨k,oM,nL _,rfl,H⟩
   case round =>
    clear H;obtain ⟨q,hqa,hq,rfl,H⟩:=hrel;by_cases hq0:q=a
    ·subst hq0
     have e5:decide ((q:Int) < (q:Int))=false:=dF;go_wp2;go_quiet (fail)
     have H1:=hid (H.out.drewN nq);go_wp2;go_roundw
     case rel=>exact ⟨k+1,oM,oM,by go_num,H1⟩
     case measure=>simp [RowKit.intOf];omega
    ·obtain ⟨q',rfl⟩:∃ q',q=q'+1:=⟨q - 1,oM⟩
     have e1:(a:Int) < (q':Int)+1:=oM;have e2:(q':Int)+1 < (n:Int):=oM;have e3:(q':Int) < (n:Int):=oM;have e5:decide ((a:Int) < (q':Int)+1)=true:=dT;have e6:((q':Int)+1).toNat=q'+1:=oM;have e8:IntKind.i64.wrap (q':Int)=(q':Int):=by rw [IntKind.wrap_i64];omega
     have e9:(0:Int)≤(q':Int)+1:=oM;go_wp2;obtain ⟨x1,c1,z1⟩:=H.out.at_ (i:=(q'+1)) (by have:=HL.out;omega);obtain ⟨x2,c2,z2⟩:=H.out.at_ (i:=q') (by have:=HL.out;omega);obtain ⟨bb,HLs⟩:=less_some x1 x2;go_quiet ((go_at_call 257;exact Calls.quiet_of_same (HLs.out _)))
     have H1:=hid (H.out.drewN nq);clear c1 c2 z1 z2 H;cases bb
     ·go_wp2
      go_roundw
      case rel=>exact ⟨k+1,oM,oM,by go_num,H1⟩
      case measure=>simp [RowKit.intOf];omega
     ·have H:=H1
      clear H1;generalize wr.drewN nq=wr at *;obtain ⟨x1,c1,z1⟩:=H.out.at_ (i:=(q'+1)) (by have:=HL.out;omega);obtain ⟨x2,c2,z2⟩:=H.out.at_ (i:=q') (by have:=HL.out;omega);obtain ⟨x3,c3⟩:=H.out.mid (i:=(q'+1)) (j:=q') (by have:=HL.out;omega) (.int .u64 (x2:Int));have H1:=hid (H.out.swap (by have:=HL.out;omega) (by have:=HL.out;omega) c1 c2).drew;clear H;go_wp2;go_region;go_wp2;exact ⟨⟨q',oM,oM,rfl,H1⟩,by simp [RowKit.intOf]⟩
  ·go_wp2
   go_end0;exact ⟨rfl,H.out⟩
theorem sift_any (g n cap sz lo hi first:Nat) (xs:List Nat) (w:World) (h:SortI w w g xs sz) (hl:xs.length=n) (hf:first+hi≤n) (hlo:lo≤1000000) (hn:n≤1000000) :
  Calls Tryz.prog 322 #[.slice (some ⟨g,0,none⟩) n cap, .int .i64 (lo:Int), .int .i64 (hi:Int), .int .i64 (first:Int)] w (RetSort w g xs sz):=by
 have H:=hid h;have HL:=hid hl;clear h hl;go_enter Tryz.func322,Tryz.ntmps322
 go_wp2;go_loopw [8] (fun i wr=>∃ r:Nat,r≤lo+hi∧i = .int .i64 r∧Hid (SortI w wr g xs sz)) (fun i _=>lo+hi - (RowKit.intOf i).toNat)
 case atStart=>exact ⟨lo,oM,rfl,H⟩
 case round =>
  clear H;obtain ⟨r,hr,rfl,H⟩:=hrel;go_upto_region 1 with fail
  go_cut [9] from 11 to 75 (fun v wx=>∃ c:Nat,v = .int .i64 c∧2 * r+1≤c∧c≤2 * r+1∧Hid (SortI w wx g xs sz))
  case first =>
   go_wp2_with fail
   go_meet;exact ⟨2 * r+1,by go_num,nL _,nL _,H⟩
  case rest =>
   clear H;obtain ⟨c,rfl,hc1,hc2,H⟩:=hcut;by_cases hge:hi≤c
   ·have e1:decide ((hi:Int)≤(c:Int))=true:=dT
    go_wp2_with fail
    go_end0;exact ⟨rfl,H.out⟩
   ·have e1:decide ((hi:Int)≤(c:Int))=false:=dF
    go_upto_region 3 with fail
    go_cut [36] from 11 to 75 (fun v wx=>∃ bb,v = .bool bb∧(bb=true→c+1 < hi)∧Hid (SortI w wx g xs sz))
    case first =>
     by_cases hl:c+1 < hi
     ·have e2:decide ((c:Int)+1 < (hi:Int))=true:=dT
      have f1:(first:Int)+(c:Int) < (n:Int):=oM;have f2:(first:Int)+(c:Int)+1 < (n:Int):=oM;have f3:((first:Int)+(c:Int)).toNat=first+c:=oM;have f4:((first:Int)+(c:Int)+1).toNat=first+c+1:=oM;have f5:(0:Int)≤(first:Int)+(c:Int):=oM;have f6:(0:Int)≤(first:Int)+(c:Int)+1:=oM;obtain ⟨x1,c1,z1⟩:=H.out.at_ (i:=(first+c)) (by have:=HL.out;omega);obtain ⟨x2,c2,z2⟩:=H.out.at_ (i:=(first+c+1)) (by have:=HL.out;omega);obtain ⟨bb,HLs⟩:=less_some x1 x2;go_quiet ((go_at_call 257;exact Calls.quiet_of_same (HLs.out _)))
      have H1:=hid (H.out.drewN nq);clear c1 c2 z1 z2 H;go_wp2_with fail
      go_meet;exact ⟨bb,rfl,fun _=>hl,H1⟩
     ·have e2:decide ((c:Int)+1 < (hi:Int))=false:=dF
      go_quiet (fail)
      have H1:=hid (H.out.drewN nq);go_wp2_with fail
      go_meet;exact ⟨false,rfl,fun h=>(by cases h),H1⟩
    case rest =>
     clear H;obtain ⟨bb,rfl,hbb,H⟩:=hcut;go_upto_if 36 with fail
     go_cut [9] from 11 to 75 (fun v wx=>∃ c2:Nat,v = .int .i64 c2∧c≤c2∧c2 < hi∧Hid (SortI w wx g xs sz))
     case first =>
      cases bb
      ·go_wp2_with fail
       go_meet;exact ⟨c,rfl,nL _,oM,H⟩
      ·have:=hbb rfl
       go_wp2_with fail
       go_meet;exact ⟨c+1,by go_num,oM,oM,H⟩
     case rest =>
      clear H hbb;obtain ⟨k2,rfl,hc3,hc4,H⟩:=hcut;have f1:(first:Int)+(r:Int) < (n:Int):=oM;have f2:(first:Int)+(k2:Int) < (n:Int):=oM;have f3:((first:Int)+(r:Int)).toNat=first+r:=oM;have f4:((first:Int)+(k2:Int)).toNat=first+k2:=oM;have f5:(0:Int)≤(first:Int)+(r:Int):=oM;have f6:(0:Int)≤(first:Int)+(k2:Int):=oM;have ne:first+r≠first+k2:=oM;go_wp2_with fail
      obtain ⟨x1,c1,z1⟩:=H.out.at_ (i:=(first+r)) (by have:=HL.out;omega);obtain ⟨x2,c2,z2⟩:=H.out.at_ (i:=(first+k2)) (by have:=HL.out;omega);obtain ⟨bb,HLs⟩:=less_some x1 x2;go_quiet ((go_at_call 257;exact Calls.quiet_of_same (HLs.out _)))
      have H1:=hid (H.out.drewN nq);clear c1 c2 z1 z2 H;cases bb
      ·go_wp2_with fail
       go_end0;exact ⟨rfl,H1.out⟩
      ·have H:=H1
       clear H1;generalize wc.drewN nq=wr at *;obtain ⟨x1,c1,z1⟩:=H.out.at_ (i:=(first+r)) (by have:=HL.out;omega);obtain ⟨x2,c2,z2⟩:=H.out.at_ (i:=(first+k2)) (by have:=HL.out;omega);obtain ⟨x3,c3⟩:=H.out.mid (i:=(first+r)) (j:=(first+k2)) (by have:=HL.out;omega) (.int .u64 (x2:Int));have H1:=hid (H.out.swap (by have:=HL.out;omega) (by have:=HL.out;omega) c1 c2).drew;clear H;go_wp2_with fail
       go_region;clear c1 c2 c3 z1 z2;go_wp2_with fail
       go_roundw
       case rel=>exact ⟨k2,oM,rfl,H1⟩
       case measure=>simp [RowKit.intOf];omega
theorem SortI.self {w wr:World} {g sz:Nat} {xs:List Nat} (h:SortI w wr g xs sz):SortI wr wr g xs sz:=by
 obtain ⟨cs,ys,h1,h2,h3,h4,h5⟩:=h;exact ⟨cs,ys,h1,h2,h3,h4,Chg.refl _ _⟩
theorem SortI.trans {w wr w':World} {g sz:Nat} {xs:List Nat} (h:SortI w wr g xs sz) (k:SortI wr w' g xs sz):SortI w w' g xs sz:=by
 obtain ⟨_,_,_,_,_,_,h5⟩:=h;obtain ⟨cs,ys,h1,h2,h3,h4,k5⟩:=k;exact ⟨cs,ys,h1,h2,h3,h4,h5.trans k5 (Grew.refl _ _)⟩
def DownI (k:Nat) (i:Value):Prop:=(k=0∧i = .int .i64 (-1))∨(∃ q:Nat,k=q+1∧i = .int .i64 (q:Int))
theorem DownI.pred (q:Nat):DownI q (.int .i64 ((q:Int) - 1)):=by
 cases q with
 | zero=>exact .inl ⟨rfl,rfl⟩
 | succ q=>exact .inr ⟨q,rfl,congrArg (Value.int .i64) oM⟩
theorem heap_any (g n cap sz a d:Nat) (xs:List Nat) (w:World) (h:SortI w w g xs sz) (hl:xs.length=n) (hb:a+(d+1)≤n) (hn:n≤1000000) (hc:n≤cap) (hcm:cap≤9223372036854775807) :
  Calls Tryz.prog 252 #[.slice (some ⟨g,0,none⟩) n cap, .int .i64 (a:Int), .int .i64 ((a+(d+1):Nat):Int)] w (RetSort w g xs sz):=by
 have H:=hid h;have HL:=hid hl;have HS1:Hid (∀ (q:Nat) (W:World),q≤1000000→SortI W W g xs sz→Calls Tryz.prog 322 #[.slice (some ⟨g,0,none⟩) n cap, .int .i64 (q:Int), .int .i64 ((d:Int)+1), .int .i64 (a:Int)] W (RetSort W g xs sz)):=fun q W hq hW=>by
  have:=sift_any g n cap sz q (d+1) a xs W hW hl hb hq hn;simpa using this
 have HS2:Hid (∀ (q:Nat) (W:World),q≤d→SortI W W g xs sz→Calls Tryz.prog 322 #[.slice (some ⟨g,0,none⟩) n cap, .int .i64 0, .int .i64 (q:Int), .int .i64 (a:Int)] W (RetSort W g xs sz)):=fun q W hq hW=>by
  have:=sift_any g n cap sz 0 q a xs W hW hl oM oM hn;simpa using this
 clear h hl;have u1:(a:Int)+((d:Int)+1) - (a:Int)=(d:Int)+1:=oM;have u2:IntKind.i64.wrap (d:Int)=(d:Int):=by rw [IntKind.wrap_i64];omega
 go_enter Tryz.func252,Tryz.ntmps252
 go_wp2;go_loopw [9] (fun i wr=>∃ k:Nat,k≤d+1∧DownI k i∧Hid (SortI w wr g xs sz)) (fun i _=>(RowKit.intOf i+1).toNat)
 case atStart=>exact ⟨d / 2+1,oM, .inr ⟨d / 2,rfl,congrArg (Value.int .i64) oM⟩,H⟩
 case round =>
  clear H;obtain ⟨k,hk,⟨rfl,rfl⟩ | ⟨q,rfl,rfl⟩,H⟩:=hrel
  ·go_wp2
   go_loopw [10] (fun i wr=>∃ k:Nat,k≤d+1∧DownI k i∧Hid (SortI w wr g xs sz)) (fun i _=>(RowKit.intOf i+1).toNat)
   case atStart=>exact ⟨d+1,oM, .inr ⟨d,rfl,rfl⟩,H⟩
   case round =>
    clear H;obtain ⟨k,hk,⟨rfl,rfl⟩ | ⟨q,rfl,rfl⟩,H⟩:=hrel
    ·go_wp2
     go_end0;exact ⟨rfl,H.out⟩
    ·have f1:(a:Int)+(q:Int) < (n:Int):=oM
     have f2:(a:Int) < (n:Int):=oM;have f3:((a:Int)+(q:Int)).toNat=a+q:=oM;have f5:(0:Int)≤(a:Int)+(q:Int):=oM;obtain ⟨x1,c1,z1⟩:=H.out.at_ (i:=a) (by have:=HL.out;omega);obtain ⟨x2,c2,z2⟩:=H.out.at_ (i:=(a+q)) (by have:=HL.out;omega);obtain ⟨x3,c3⟩:=H.out.mid (i:=a) (j:=(a+q)) (by have:=HL.out;omega) (.int .u64 (x2:Int));have H1:=hid (H.out.swap (by have:=HL.out;omega) (by have:=HL.out;omega) c1 c2).drew;clear H;go_wp2_with fail
     go_region;clear c1 c2 c3 z1 z2;go_wp2_with fail
     generalize hW:World.drew _=W at *;clear hW;refine (HS2.out q W oM H1.out.self).mono ?_;rintro e W1 ⟨rfl,h1⟩;have H2:=hid (H1.out.trans h1);clear h1 H1;go_wp2_with fail
     go_roundw
     case rel =>
      repeat apply Exists.intro
      refine ⟨?_,rfl⟩;exact ⟨q,oM,DownI.pred q,H2⟩
     case measure=>simp [RowKit.intOf]
  ·go_wp2_with fail
   refine (HS1.out q wr oM H.out.self).mono ?_;rintro e W1 ⟨rfl,h1⟩;have H1:=hid (H.out.trans h1);clear h1 H;go_wp2_with fail
   go_roundw
   case rel =>
    repeat apply Exists.intro
    refine ⟨?_,rfl⟩;exact ⟨q,oM,DownI.pred q,H1⟩
   case measure=>simp [RowKit.intOf]
end
section
open Go.RowKit
structure PivI (w wr:World) (g:Nat) (xs:List Nat) (sz s:Nat):Prop where
 row:SortI w wr g xs sz
 new:w.heap.size≤s
 lt:s < wr.heap.size
 cell:∃ z:Int,wr.cell? ⟨s,0,none⟩=some (.int .i64 z)
 froz:wr.frozen? ⟨s,0,none⟩=false
theorem SortI.other {w wr:World} {g sz:Nat} {xs:List Nat} (h:SortI w wr g xs sz) {s:Nat} (hs:w.heap.size≤s) (hg:s≠g) (u:Value):SortI w (wr.setCell ⟨s,0,none⟩ u) g xs sz:=by
 obtain ⟨cs,ys,h1,h2,h3,h4,h5⟩:=h;have hc:Chg (fun j=>j=s) wr (wr.setCell ⟨s,0,none⟩ u):=(Chg.refl (fun j=>j=s) wr).setCell (p:=⟨s,0,none⟩) (.inl rfl) u;exact ⟨cs,ys,hc.blk h1 (fun e=>hg e.symm),h2,h3,h4,h5.setCell (p:=⟨s,0,none⟩) (.inr hs) u⟩
theorem PivI.put {w wr:World} {g sz s:Nat} {xs:List Nat} (h:PivI w wr g xs sz s) (hg:s≠g) (z:Int):PivI w (wr.setCell ⟨s,0,none⟩ (.int .i64 z)) g xs sz s:=by
 obtain ⟨z0,hz0⟩:=h.cell;exact ⟨h.row.other h.new hg _,h.new,by simpa using h.lt,⟨z,by simp [go_sem,hz0]⟩,by simp [go_sem,h.froz]⟩
theorem PivI.drewN {w wr:World} {g sz s:Nat} {xs:List Nat} (h:PivI w wr g xs sz s) (n:Nat):PivI w (wr.drewN n) g xs sz s :=
 ⟨h.row.drewN n,h.new,h.lt,h.cell,h.froz⟩
def RetOrd (w:World) (g:Nat) (xs:List Nat) (sz s a b:Nat) (e:Ending) (w':World):Prop:=∃ x y:Nat,e = .returned (.tuple #[.int .i64 (x:Int), .int .i64 (y:Int)])∧((x=a∧y=b)∨(x=b∧y=a))∧PivI w w' g xs sz s
theorem order2_any (g n cap sz s a b:Nat) (xs:List Nat) (w wr:World) (h:PivI w wr g xs sz s) (hg:s≠g) (hl:xs.length=n) (ha:a < n) (hb:b < n) :
  Calls Tryz.prog 362 #[.slice (some ⟨g,0,none⟩) n cap, .int .i64 (a:Int), .int .i64 (b:Int), .pointer (some ⟨s,0,none⟩)] wr (RetOrd w g xs sz s a b):=by
 have HP:=hid h;have H:=hid h.row;have HL:=hid hl;have HG:=hid hg;clear h hl;have e1:(a:Int) < (n:Int):=oM;have e2:(b:Int) < (n:Int):=oM;go_enter Tryz.func362,Tryz.ntmps362
 go_wp2_with fail
 obtain ⟨x1,c1,z1⟩:=H.out.at_ (i:=b) (by have:=HL.out;omega);obtain ⟨x2,c2,z2⟩:=H.out.at_ (i:=a) (by have:=HL.out;omega);obtain ⟨bb,HLs⟩:=less_some x1 x2;go_quiet ((go_at_call 257;exact Calls.quiet_of_same (HLs.out _)))
 have H1:=hid (H.out.drewN nq);clear c1 c2 z1 z2 H;have HP1:=hid (HP.out.drewN nq);clear H1 HP;generalize wr.drewN nq=wd at *;obtain ⟨z,hz⟩:=HP1.out.cell;have hf:=HP1.out.froz;have HP2:=hid (HP1.out.put HG.out (wrap64 (z+1)));cases bb
 ·go_wp2
  go_ret2;exact ⟨a,b,rfl, .inl ⟨rfl,rfl⟩,HP1.out⟩
 ·go_wp2
  go_ret2;exact ⟨b,a,rfl, .inr ⟨rfl,rfl⟩,HP2.out⟩
def RetPiv (w:World) (g:Nat) (xs:List Nat) (sz s a b:Nat) (e:Ending) (w':World):Prop:=∃ m:Nat,e = .returned (.int .i64 (m:Int))∧a≤m∧m < b∧PivI w w' g xs sz s
theorem median_any (g n cap sz s a b x y z:Nat) (xs:List Nat) (w wr:World) (h:PivI w wr g xs sz s) (hg:s≠g) (hl:xs.length=n) (hb:b≤n) (hx:a≤x∧x < b) (hy:a≤y∧y < b) (hz:a≤z∧z < b) :
  Calls Tryz.prog 324 #[.slice (some ⟨g,0,none⟩) n cap, .int .i64 (x:Int), .int .i64 (y:Int), .int .i64 (z:Int), .pointer (some ⟨s,0,none⟩)] wr (RetPiv w g xs sz s a b):=by
 have H1:=hid (order2_any g n cap sz s x y xs w wr h hg hl oM oM);have HL:=hid hl;have HG:=hid hg;clear h hl;go_enter Tryz.func324,Tryz.ntmps324
 go_wp2_with fail
 refine H1.out.mono ?_;rintro e w1 ⟨x1,y1,rfl,h1,p1⟩;have hx1:a≤x1∧x1 < b:=oM;have hy1:a≤y1∧y1 < b:=oM;have H2:=hid (order2_any g n cap sz s y1 z xs w w1 p1 HG.out HL.out oM oM);clear p1 h1 H1;go_wp2_with fail
 refine H2.out.mono ?_;rintro e w2 ⟨y2,z2,rfl,h2,p2⟩;have hy2:a≤y2∧y2 < b:=oM;have H3:=hid (order2_any g n cap sz s x1 y2 xs w w2 p2 HG.out HL.out oM oM);clear p2 h2 H2;go_wp2_with fail
 refine H3.out.mono ?_;rintro e w3 ⟨x3,y3,rfl,h3,p3⟩;have hy3:a≤y3∧y3 < b:=oM;have H4:=hid p3;clear p3 h3 H3;go_wp2;go_ret;exact ⟨y3,rfl,hy3.1,hy3.2,H4.out⟩
theorem medianAdj_any (g n cap sz s a b x:Nat) (xs:List Nat) (w wr:World) (h:PivI w wr g xs sz s) (hg:s≠g) (hl:xs.length=n) (hb:b≤n) (hx:a < x∧x+1 < b) (hn:n≤1000000) :
  Calls Tryz.prog 323 #[.slice (some ⟨g,0,none⟩) n cap, .int .i64 (x:Int), .pointer (some ⟨s,0,none⟩)] wr (RetPiv w g xs sz s a b):=by
 obtain ⟨x',rfl⟩:∃ x',x=x'+1:=⟨x - 1,oM⟩
 have hm:=median_any g n cap sz s a b x' (x'+1) (x'+2) xs w wr h hg hl hb oM oM oM;have HM:=hid hm;clear h hl hm;have u1:IntKind.i64.wrap (x':Int)=(x':Int):=by rw [IntKind.wrap_i64];omega
 go_enter Tryz.func323,Tryz.ntmps323
 go_wp2_with fail
 refine HM.out.mono ?_;rintro e w1 ⟨m,rfl,h1,h2,p⟩;have HP:=hid p;clear p HM;go_wp2;go_ret;exact ⟨m,rfl,h1,h2,HP.out⟩
def RetCh (w:World) (g:Nat) (xs:List Nat) (sz a b:Nat) (e:Ending) (w':World):Prop:=∃ (m:Nat) (k:Int),e = .returned (.tuple #[.int .i64 (m:Int), .int .i64 k])∧a≤m∧m < b∧SortI w w' g xs sz
theorem choose_any (g n cap sz a l:Nat) (xs:List Nat) (w:World) (h:SortI w w g xs sz) (hl:xs.length=n) (hb:a+l≤n) (h8:8≤l) (hn:n≤1000000) :
  Calls Tryz.prog 254 #[.slice (some ⟨g,0,none⟩) n cap, .int .i64 (a:Int), .int .i64 ((a+l:Nat):Int)] w (RetCh w g xs sz a (a+l)):=by
 have H:=hid h;have HL:=hid hl;clear h hl;have HS:=hid (show PivI w (w.alloc (.cells #[.int .i64 0] 3)) g xs sz w.heap.size from ⟨by
  obtain ⟨cs,ys,h1,h2,h3,h4,h5⟩:=H.out;exact ⟨cs,ys,(h1.alloc _),h2,h3,h4,h5.below ((Below.refl _ w).alloc (nL _) _)⟩,nL _,by simp,⟨0,by simp [go_sem]⟩,by simp [go_sem]⟩)
 have HG:Hid (w.heap.size≠g):=hid (by
  obtain ⟨cs,ys,h1,_⟩:=H.out;have:=h1.lt;omega)
 obtain ⟨q,HQ⟩:∃ q:Nat,Hid ((l:Int) / 4=(q:Int)∧2≤q∧4 * q≤l):=⟨l / 4,oM,oM,oM⟩
 have ea:Hid ((a:Int)+(l:Int) - (a:Int)=(l:Int)):=hid oM;have c1:Hid ((a:Int)+(q:Int)=((a+q:Nat):Int)):=hid oM;have c2:Hid ((a:Int)+(q:Int) * 2=((a+q * 2:Nat):Int)):=hid oM;have c3:Hid ((a:Int)+(q:Int) * 3=((a+q * 3:Nat):Int)):=hid oM;clear H;go_enter Tryz.func254,Tryz.ntmps254
 go_wp2_with fail
 all_goals generalize w.alloc (.cells #[.int .i64 0] 3)=W at *
 all_goals rw [ea.out,HQ.out.1,c1.out,c2.out,c3.out]
 all_goals obtain ⟨hq1,hq4⟩:=HQ.out.2
 all_goals clear ea HQ c1 c2 c3
 ·refine (medianAdj_any g n cap sz w.heap.size a (a+l) (a+q) xs w W HS.out HG.out HL.out hb oM hn).mono ?_
  rintro e w1 ⟨x1,rfl,a1,b1,p1⟩;have H1:=hid p1;clear p1;go_wp2_with fail
  refine (medianAdj_any g n cap sz w.heap.size a (a+l) (a+q * 2) xs w w1 H1.out HG.out HL.out hb oM hn).mono ?_;rintro e w2 ⟨x2,rfl,a2,b2,p2⟩;have H2:=hid p2;clear p2 H1;go_wp2_with fail
  refine (medianAdj_any g n cap sz w.heap.size a (a+l) (a+q * 3) xs w w2 H2.out HG.out HL.out hb oM hn).mono ?_;rintro e w3 ⟨x3,rfl,a3,b3,p3⟩;have H3:=hid p3;clear p3 H2;go_wp2_with fail
  refine (median_any g n cap sz w.heap.size a (a+l) x1 x2 x3 xs w w3 H3.out HG.out HL.out hb ⟨a1,b1⟩ ⟨a2,b2⟩ ⟨a3,b3⟩).mono ?_;rintro e w4 ⟨m,rfl,a4,b4,p4⟩;have H4:=hid p4;obtain ⟨z,hz⟩:=p4.cell;clear p4 H3;go_wp2_with fail
  all_goals (go_ret2;exact ⟨m,_,rfl,a4,b4,H4.out.row⟩)
 ·refine (median_any g n cap sz w.heap.size a (a+l) (a+q) (a+q * 2) (a+q * 3) xs w W HS.out HG.out HL.out hb oM oM oM).mono ?_
  rintro e w4 ⟨m,rfl,a4,b4,p4⟩;have H4:=hid p4;obtain ⟨z,hz⟩:=p4.cell;clear p4;go_wp2_with fail
  all_goals (go_ret2;exact ⟨m,_,rfl,a4,b4,H4.out.row⟩)
end
section
open Go.RowKit
def RowQ (Q:Nat→Prop) (cs:Array Value) (n:Nat):Prop:=n≤cs.size∧∀ i,i < n→∃ x:Nat,Q x∧cs[i]?=some (.int .u64 (x:Int))
theorem RowQ.set {Q:Nat→Prop} {cs:Array Value} {n:Nat} (h:RowQ Q cs n) (j x:Nat) (hj:j < n) (hx:Q x):RowQ Q (cs.setIfInBounds j (.int .u64 (x:Int))) n:=by
 refine ⟨by simpa using h.1,fun i hi=>?_⟩;rw [set_at i (by have:=h.1;omega)];by_cases hij:i=j
 ·rw [if_pos hij];exact ⟨x,hx,rfl⟩
 ·rw [if_neg hij];exact h.2 i hi
def RowR (R:Nat→Prop) (cs:Array Value) (n:Nat):Prop:=∀ x,R x→∃ i,i < n∧cs[i]?=some (.int .u64 (x:Int))
def RowT (R:Nat→Prop) (cs:Array Value) (n kk b:Nat):Prop:=(∀ x,R x→∃ i,(i < kk∨b≤i∧i < n)∧cs[i]?=some (.int .u64 (x:Int)))∧∃ i,i < kk∧cs[i]?=cs[b - 1]?
theorem RowT.first {R:Nat→Prop} {cs:Array Value} {n q:Nat} (h:RowR R cs n) (he:cs[q+1]?=cs[q]?):RowT R cs n (q+1) (q+2):=by
 refine ⟨fun x hx=>?_,q,oM,by rw [show q+2 - 1=q+1 by omega,he]⟩;obtain ⟨i,hi,hv⟩:=h x hx;by_cases hq:i=q+1
 ·exact ⟨q, .inl oM,by rw [← he,← hq];exact hv⟩
 ·exact ⟨i,oM,hv⟩
theorem RowT.same {R:Nat→Prop} {cs:Array Value} {n kk b:Nat} (h:RowT R cs n kk (b+1)) (he:cs[b+1]?=cs[b]?):RowT R cs n kk (b+2):=by
 obtain ⟨h1,i0,hi0,hv0⟩:=h;rw [show b+1 - 1=b by omega] at hv0;refine ⟨fun x hx=>?_,i0,hi0,by rw [show b+2 - 1=b+1 by omega,he];exact hv0⟩;obtain ⟨i,hi,hv⟩:=h1 x hx;by_cases hq:i=b+1
 ·exact ⟨i0, .inl hi0,by rw [hv0,← he,← hq];exact hv⟩
 ·exact ⟨i,oM,hv⟩
theorem RowT.moved {R:Nat→Prop} {cs:Array Value} {n kk b:Nat} {y:Nat} (h:RowT R cs n kk (b+1)) (hk:kk≤b) (hn:n≤cs.size) (hb:b+1 < n) (hy:cs[b+1]?=some (.int .u64 (y:Int))):RowT R (cs.setIfInBounds kk (.int .u64 (y:Int))) n (kk+1) (b+2):=by
 have ha:∀ i,(cs.setIfInBounds kk (.int .u64 (y:Int)))[i]?=if i=kk then some (.int .u64 (y:Int)) else cs[i]?:=fun i=>set_at i oM
 refine ⟨fun x hx=>?_,kk,oM,by rw [ha,ha,if_pos rfl,if_neg oM,show b+2 - 1=b+1 by omega];exact hy.symm⟩;obtain ⟨i,hi,hv⟩:=h.1 x hx;by_cases hq:i=b+1
 ·refine ⟨kk, .inl oM,?_⟩
  rw [ha,if_pos rfl,← hy,← hq];exact hv
 ·exact ⟨i,oM,by rw [ha,if_neg oM];exact hv⟩
theorem RowT.done {R:Nat→Prop} {cs:Array Value} {n kk b:Nat} (h:RowT R cs n kk b) (hb:n≤b):RowR R cs kk:=fun x hx=>by
 obtain ⟨i,hi,hv⟩:=h.1 x hx;exact ⟨i,oM,hv⟩
theorem blk_setCells {g:Nat} {t:TypeId}:∀ (vs:List Value) (o:Nat) {w:World} {cs:Array Value},Blk w g t cs→∃ cs',Blk (w.setCells g o vs) g t cs'∧cs'.size=cs.size∧∀ i,i < o→cs'[i]?=cs[i]?
 | [],_,_,cs,h=>⟨cs,h,rfl,fun _ _=>rfl⟩
 | v :: r,o,w,cs,h=>by
  obtain ⟨cs',h1,h2,h3⟩:=blk_setCells r (o+1) (h.set_ o v);refine ⟨cs',h1,by simpa using h2,fun i hi=>?_⟩;rw [h3 i oM,Array.getElem?_setIfInBounds_ne oM]
theorem chg_setCells {g:Nat} {S:Fp} {w0:World} (hS:S g):∀ (vs:List Value) (o:Nat) {w:World},Chg S w0 w→Chg S w0 (w.setCells g o vs)
 | [],_,_,h=>h
 | v :: r,o,_,h=>chg_setCells hS r (o+1) (h.setCell (p:=⟨g,o,none⟩) (.inl hS) v)
def CompI (Q R:Nat→Prop) (w wr:World) (g n sz:Nat):Prop:=∃ cs,Blk wr g 32 cs∧cs.size=sz∧RowQ Q cs n∧Chg (fun k=>k=g) w wr∧RowR R cs n
def CompT (Q R:Nat→Prop) (w wr:World) (g n sz kk b:Nat):Prop:=∃ cs,Blk wr g 32 cs∧cs.size=sz∧RowQ Q cs n∧Chg (fun k=>k=g) w wr∧RowT R cs n kk b
def RetComp (Q R:Nat→Prop) (w:World) (g n cap sz:Nat) (e:Ending) (w':World):Prop:=∃ m,e = .returned (.slice (some ⟨g,0,none⟩) m cap)∧m≤n∧CompI Q R w w' g m sz
theorem compact_any (Q R:Nat→Prop) (g n cap sz:Nat) (w:World) (h:CompI Q R w w g n sz) (hn:n≤1000000) (hc:n≤cap) (hcm:cap≤9223372036854775807) :
  Calls Tryz.prog 203 #[.slice (some ⟨g,0,none⟩) n cap] w (RetComp Q R w g n cap sz):=by
 have H0:=hid h;clear h;by_cases h2:n < 2
 ·have e1:decide ((n:Int) < 2)=true:=dT
  have e2:decide (n < 2)=true:=decide_eq_true h2;go_enter Tryz.func203,Tryz.ntmps203
  go_wp2;go_ret;exact ⟨n,rfl,nL _,H0.out⟩
 ·have e1:decide ((n:Int) < 2)=false:=dF
  have e2:decide (n < 2)=false:=decide_eq_false h2;go_enter Tryz.func203,Tryz.ntmps203
  go_wp2;go_loopw [3] (fun i wr=>∃ (k:Nat),1≤k∧k≤n∧i = .int .i64 k∧Hid (CompI Q R w wr g n sz)) (fun i _=>n - (RowKit.intOf i).toNat)
  case atStart=>exact ⟨1,oM,oM,rfl,H0⟩
  case round =>
   clear H0;obtain ⟨k,hk1,hk,rfl,H⟩:=hrel;by_cases hlt:k < n
   ·obtain ⟨q,rfl⟩:∃ q,k=q+1:=⟨k - 1,oM⟩
    obtain ⟨cs,h1,h2',h3,h4,h5⟩:=H.out;obtain ⟨x1,hq1,hx1⟩:=h3.2 (q+1) hlt;obtain ⟨x0,hq0,hx0⟩:=h3.2 q oM;have HT1:Hid (x1=x0→CompT Q R w wr.drew g n sz (q+1) (q+2)):=hid (fun e=>⟨cs,h1,h2',h3,h4.drew,RowT.first h5 (by rw [hx1,hx0,e])⟩);have c1:wr.cell? ⟨g,q+1,none⟩=some (.int .u64 (x1:Int)):=by rw [h1.cell];exact hx1
    have c0:wr.cell? ⟨g,q,none⟩=some (.int .u64 (x0:Int)):=by rw [h1.cell];exact hx0
    have H1:Hid (CompI Q R w wr.drew g n sz):=⟨cs,h1,h2',h3,h4.drew,h5⟩
    clear h1 h2' h3 h4 h5 hx1 hx0 H;have a1:(0:Int)≤(q:Int)+1:=oM;have a2:(q:Int)+1 < (n:Int):=oM;have a3:(q:Int) < (n:Int):=oM;have a4:(0:Int)≤(q:Int):=oM;have a5:((q:Int)+1).toNat=q+1:=oM;have a6:IntKind.i64.wrap (q:Int)=(q:Int):=by rw [IntKind.wrap_i64];omega
    by_cases hxx:x1=x0
    ·have t1:((x1:Int) == (x0:Int))=true:=by rw [beq_iff_eq];omega
     have HT2:=hid (HT1.out hxx);clear HT1;go_wp2;go_region;go_wp2;clear t1 c1 c0 a1 a2 a3 a4 a5 a6 hq1 hq0;go_loopw [3,5] (fun i j wr=>∃ (kk k2:Nat),q+1≤kk∧kk≤q+k2∧1≤k2∧k2+(q+1)≤n∧i = .int .i64 kk∧j = .int .i64 k2∧Hid (CompT Q R w wr g n sz kk (q+1+k2))) (fun _ j _=>n - (RowKit.intOf j).toNat)
     case atStart=>exact ⟨q+1,1,oM,oM,oM,oM,rfl,rfl,HT2⟩
     case round =>
      clear H1 HT2;obtain ⟨kk,k2,b1,b2,b3,b4,rfl,rfl,H⟩:=hrel;by_cases hl2:k2+(q+1) < n
      ·obtain ⟨r,rfl⟩:∃ r,k2=r+1:=⟨k2 - 1,oM⟩
       obtain ⟨cs,h1,h2',h3,h4,h5⟩:=H.out;obtain ⟨y1,hy1,hz1⟩:=h3.2 (q+1+(r+1)) oM;obtain ⟨y0,hy0,hz0⟩:=h3.2 (q+1+r) oM;obtain ⟨yk,hyk,hzk⟩:=h3.2 kk oM;have c1:wr.cell? ⟨g,q+1+(r+1),none⟩=some (.int .u64 (y1:Int)):=by rw [h1.cell];exact hz1
       have c0:wr.cell? ⟨g,q+1+r,none⟩=some (.int .u64 (y0:Int)):=by rw [h1.cell];exact hz0
       have ck:wr.cell? ⟨g,kk,none⟩=some (.int .u64 (yk:Int)):=by rw [h1.cell];exact hzk
       have zk:=h1.frozen kk;have HA:Hid (y1=y0→CompT Q R w wr.drew g n sz kk (q+1+(r+2))):=hid (fun e=>⟨cs,h1,h2',h3,h4.drew,RowT.same (b:=q+1+r) h5 (by rw [show q+1+r+1=q+1+(r+1) by omega,hz1,hz0,e])⟩);have HB:Hid (CompT Q R w (wr.setCell ⟨g,kk,none⟩ (.int .u64 (y1:Int))).drew g n sz (kk+1) (q+1+(r+2))):=hid ⟨_,h1.set_ kk _,by simpa using h2',h3.set kk y1 oM hy1,(h4.setCell (p:=⟨g,kk,none⟩) (.inl rfl) _).drew,RowT.moved (b:=q+1+r) h5 oM h3.1 oM hz1⟩;clear h1 h2' h3 h4 h5 hz1 hz0 hzk H;have a1:(0:Int)≤(r:Int)+1:=oM;have a2:(r:Int)+1 < ((n - (q+1):Nat):Int):=oM;have a3:(r:Int) < ((n - (q+1):Nat):Int):=oM;have a4:(0:Int)≤(r:Int):=oM;have a5:((r:Int)+1).toNat=r+1:=oM;have a6:IntKind.i64.wrap (r:Int)=(r:Int):=by rw [IntKind.wrap_i64];omega
       have a7:decide (((r+1:Nat):Int) < ((n - (q+1):Nat):Int))=true:=dT;have a8:(kk:Int) < (n:Int):=oM;have a9:(0:Int)≤(kk:Int):=oM;have a10:decide (r+1 < n - (q+1))=true:=dT;by_cases hyy:y1=y0
       ·have t1:((y1:Int) != (y0:Int))=false:=by simp [hyy]
        have HA2:=hid (HA.out hyy);clear HA HB;go_wp2;go_region;go_wp2;exact ⟨⟨kk,r+2,oM,oM,oM,oM,rfl,by go_num,HA2⟩,by simp [RowKit.intOf];omega⟩
       ·have t1:((y1:Int) != (y0:Int))=true:=by rw [bne_iff_ne];omega
        go_wp2;go_region;go_wp2;exact ⟨⟨kk+1,r+2,oM,oM,oM,oM,by go_num,by go_num,HB⟩,by simp [RowKit.intOf];omega⟩
      ·obtain ⟨cs,h1,h2',h3,h4,h5⟩:=H.out
       have hcl:∀ ty,(Builtin.clear_ #[99] ty #[.slice (some ⟨g,kk,none⟩) (n - kk) (cap - kk)]).run Tryz.prog wr = .ok (.tuple #[]) (wr.setCells g kk (List.replicate (n - kk) (.int .u64 0))):=fun ty =>
        Lib.run_clear_slice wr 99 32 ty (.int .u64 0) Tryz.underlying99 (fun _=>by kernel_rfl) rfl rfl g kk (n - kk) (cap - kk) oM (fun j hj=>by
         obtain ⟨x,_,hx⟩:=h3.2 (kk+j) oM;rw [h1.cell,hx];rfl) (fun j _=>h1.frozen _)
       have HE:Hid (CompI Q R w (wr.setCells g kk (List.replicate (n - kk) (.int .u64 0))) g kk sz):=by
        obtain ⟨cs',k1,k2',k3⟩:=blk_setCells (List.replicate (n - kk) (Value.int .u64 0)) kk h1;refine ⟨cs',k1,oM,⟨by have:=h3.1;omega,fun i hi=>?_⟩,chg_setCells (S:=fun k=>k=g) rfl _ _ h4,fun x hx=>?_⟩
        ·rw [k3 i hi]
         exact h3.2 i oM
        ·obtain ⟨i,hi,hv⟩:=(h5.done oM) x hx
         exact ⟨i,hi,by rw [k3 i hi];exact hv⟩
       clear h1 h2' h3 h4 h5 H;have a7:decide ((k2:Int) < ((n - (q+1):Nat):Int))=false:=dF;have a10:decide (k2 < n - (q+1))=false:=dF;have a8:(kk:Int)≤(n:Int):=oM;have a9:(0:Int)≤(kk:Int):=oM;have a11:(kk:Int)≤(cap:Int):=oM;have a12:¬ cap=kk:=oM;have a13:¬ kk=cap:=oM;go_wp2;go_ret;exact ⟨kk,rfl,oM,HE.out⟩
    ·have t1:((x1:Int) == (x0:Int))=false:=by rw [beq_eq_false_iff_ne];omega
     clear HT1;go_wp2;go_region;go_wp2;exact ⟨⟨q+2,oM,oM,by go_num,H1⟩,by simp [RowKit.intOf];omega⟩
   ·obtain rfl:n=k:=oM
    go_wp2;go_ret;exact ⟨n,rfl,nL _,H.out⟩
end
end Go.Proofs.YtfkjjoglnmeciaaGreatDoor
