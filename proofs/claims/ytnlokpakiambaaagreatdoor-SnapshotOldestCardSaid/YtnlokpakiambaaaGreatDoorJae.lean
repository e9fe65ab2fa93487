/- The walks and laws that the claim leans on, part 5. -/
import Derived.Test.YtnlokpakiambaaaGreatDoorJad
import Derived.Lib.EndianBits
set_option maxRecDepth 100000
set_option maxHeartbeats 16000000
namespace Go.Proofs.YtnlokpakiambaaaGreatDoor
open Go.Lib (hid)
section
open Go.RowKit Go.Maps
abbrev kU (x:Nat):Lit := .int .u64 (x:Int)
theorem kU_inj {x y:Nat} (h:kU x=kU y):x=y:=by
 have:(x:Int)=(y:Int):=by simpa [kU] using h
 omega
section
variable {H:Type} {D0:DataW H} {left:Lit→Bool} {ss:List Nat}
variable {P:Program} {k:TypeId} {R:Value→Option (DataW H × List MemPlace)} {w:World} {b n:Nat}
end
end
section
open Go.RowKit Go.Maps
def letU (c:UInt8):Bool:=decide ((65≤(c.toNat:Int)∧(c.toNat:Int)≤90)∨(97≤(c.toNat:Int)∧(c.toNat:Int)≤122))
def digU (c:UInt8):Bool:=decide ((c.toNat:Int)=95) || decide (48≤(c.toNat:Int)∧(c.toNat:Int)≤57)
def nmGo:Nat→List UInt8→Bool
 | _,[]=>true
 | k,c :: t=>(letU c || (decide (k≠0) && digU c)) && nmGo (k+1) t
def nmOk (s:ByteArray):Bool:=nmGo 0 s.data.toList && (decide (1≤s.size) && decide (s.size≤16))
theorem drop_snocU (s:ByteArray) (k:Nat) (h:k < s.size):s.data.toList.drop k=s[k] :: s.data.toList.drop (k+1):=by
 rw [List.drop_eq_getElem_cons (by simpa using h)]
 rfl
theorem orLet0:(List.range 256).all (fun n=>decide ((97≤bits .or .u8 (n:Int) 32∧bits .or .u8 (n:Int) 32≤122)↔((65≤(n:Int)∧(n:Int)≤90)∨(97≤(n:Int)∧(n:Int)≤122))))=true:=by kernel_rfl
theorem orLet (c:UInt8):∃ v:Int,bits .or .u8 (c.toNat:Int) 32=v∧((97≤v∧v≤122)↔letU c=true):=by
 refine ⟨_,rfl,?_⟩
 have h:=List.all_eq_true.1 orLet0 c.toNat (List.mem_range.2 c.toNat_lt)
 rw [decide_eq_true_eq] at h
 unfold letU
 rw [decide_eq_true_eq]
 exact h
theorem valid_any (s:ByteArray) (hs:s.size≤9223372036854775807) (w:World):Calls Tryz.prog 79 #[.string s] w fun e w'=>e = .returned (.bool (nmOk s))∧w=w':=by
 obtain ⟨V,hV⟩:∃ V,V=nmOk s:=⟨_,rfl⟩
 rw [← hV]
 have HV:=hid hV
 have HN0:Hid (nmGo 0 s.data.toList=nmGo 0 (s.data.toList.drop 0)):=hid rfl
 clear hV
 go_enter Tryz.func79,Tryz.ntmps79
 go_wp2_with fail
 go_loopw [8] (fun i wr=>∃ k:Nat,k≤s.size∧i = .int .i64 (k:Int)∧Hid (nmGo 0 s.data.toList=nmGo k (s.data.toList.drop k))∧Hid (w=wr)) (fun i _=>s.size - (Go.RowKit.intOf i).toNat)
 case atStart=>exact ⟨0,Nat.zero_le _,rfl,HN0,hid rfl⟩
 case round =>
  clear HN0
  obtain ⟨k,hk,rfl,HN,HW⟩:=hrel
  by_cases hlt:k < s.size
  ·have HS:Hid (nmGo 0 s.data.toList=((letU s[k] || (decide (k≠0) && digU s[k])) && nmGo (k+1) (s.data.toList.drop (k+1)))):=hid (by rw [HN.out,drop_snocU s k hlt];rfl)
   obtain ⟨v,hv,hl⟩:=orLet s[k]
   have HL:=hid hl
   clear hl HN
   cases hle:letU s[k]
   ·have hnv:¬ (97≤v∧v≤122):=fun h=>by
     have:=HL.out.1 h
     rw [hle] at this
     exact absurd this (by decide)
    rw [hle,Bool.false_or] at HS
    clear hle HL
    go_upto_region 5 with fail
    go_cut [5] from 15 to 20 (fun v wx=>v = .bool false∧Hid (wr=wx))
    case first =>
     by_cases h97:97≤v
     ·have h122:¬ v≤122:=fun h=>hnv ⟨h97,h⟩
      clear hnv
      go_wp2_with fail
      go_meet
      exact ⟨rfl,hid rfl⟩
     ·clear hnv
      go_wp2_with fail
      go_meet
      exact ⟨rfl,hid rfl⟩
    case rest =>
    obtain ⟨rfl,hwx⟩:=hcut
    have hwx2:=hwx.out
    subst hwx2
    clear hwx hnv hv
    by_cases hk0:k=0
    ·have HV2:Hid (V=false):=hid (by rw [HV.out,nmOk,HS.out,decide_eq_false (by omega)];rfl)
     have e0:((k:Int) == 0)=true:=beq_iff_eq.2 (by omega)
     clear HS hk0
     go_wp2
     go_ret
     exact ⟨by rw [HV2.out];rfl,HW.out⟩
    ·have e0:((k:Int) == 0)=false:=beq_eq_false_iff_ne.2 (by omega)
     rw [decide_eq_true hk0,Bool.true_and] at HS
     clear hk0
     cases hd:digU s[k]
     ·have HV2:Hid (V=false):=hid (by rw [HV.out,nmOk,HS.out,hd];rfl)
      unfold digU at hd
      rw [Bool.or_eq_false_iff] at hd
      have d1:=of_decide_eq_false hd.1
      have d2:=of_decide_eq_false hd.2
      have e1:((s[k].toNat:Int) != 95)=true:=by rw [bne,beq_eq_false_iff_ne.2 d1];rfl
      clear HS hd d1
      by_cases d3:(48:Int)≤(s[k].toNat:Int)
      ·have d4:¬ (s[k].toNat:Int)≤57:=fun h=>d2 ⟨d3,h⟩
       clear d2
       go_wp2
       go_ret
       exact ⟨by rw [HV2.out];rfl,HW.out⟩
      ·clear d2
       go_wp2
       go_ret
       exact ⟨by rw [HV2.out];rfl,HW.out⟩
     ·have HS2:Hid (nmGo 0 s.data.toList=nmGo (k+1) (s.data.toList.drop (k+1))):=hid (by rw [HS.out,hd];rfl)
      unfold digU at hd
      rw [Bool.or_eq_true] at hd
      clear HS
      rcases hd with hd | hd
      ·have d1:=of_decide_eq_true hd
       have e1:((s[k].toNat:Int) != 95)=false:=by rw [bne,beq_iff_eq.2 d1];rfl
       clear hd d1
       go_wp2
       go_roundw
       case rel =>
        first
         | exact ⟨k+1,by omega,by go_num,HS2,HW⟩
         | (
           repeat apply Exists.intro
           refine ⟨?_,rfl⟩
           exact ⟨k+1,by omega,by go_num,HS2,HW⟩)
       case measure=>simp [Go.RowKit.intOf];omega
      ·obtain ⟨d3,d4⟩:=of_decide_eq_true hd
       have e1:((s[k].toNat:Int) != 95)=true:=by rw [bne,beq_eq_false_iff_ne.2 (by omega)];rfl
       clear hd
       go_wp2
       go_roundw
       case rel =>
        first
         | exact ⟨k+1,by omega,by go_num,HS2,HW⟩
         | (
           repeat apply Exists.intro
           refine ⟨?_,rfl⟩
           exact ⟨k+1,by omega,by go_num,HS2,HW⟩)
       case measure=>simp [Go.RowKit.intOf];omega
   ·obtain ⟨h97,h122⟩:=HL.out.2 hle
    have HS2:Hid (nmGo 0 s.data.toList=nmGo (k+1) (s.data.toList.drop (k+1))):=hid (by rw [HS.out,hle];rfl)
    clear hle HL HS
    go_wp2
    go_roundw
    case rel =>
     first
      | exact ⟨k+1,by omega,by go_num,HS2,HW⟩
      | (
        repeat apply Exists.intro
        refine ⟨?_,rfl⟩
        exact ⟨k+1,by omega,by go_num,HS2,HW⟩)
    case measure=>simp [Go.RowKit.intOf];omega
  ·obtain rfl:k=s.size:=by omega
   have HS:Hid (nmGo 0 s.data.toList=true):=hid (by rw [HN.out,List.drop_of_length_le (by simp)];rfl)
   have HV2:Hid (V=(decide (1≤s.size) && decide (s.size≤16))):=hid (by rw [HV.out,nmOk,HS.out,Bool.true_and])
   clear HS HN hlt hk
   by_cases h1:1≤s.size
   ·by_cases h2:s.size≤16
    ·rw [decide_eq_true h1,decide_eq_true h2] at HV2
     have h1i:(1:Int)≤(s.size:Int):=by omega
     have h2i:(s.size:Int)≤16:=by omega
     go_wp2
     go_ret
     exact ⟨by rw [HV2.out];first | rfl | (simp;omega),HW.out⟩
    ·rw [decide_eq_true h1,decide_eq_false h2] at HV2
     have h1i:(1:Int)≤(s.size:Int):=by omega
     have h2i:(16:Int) < (s.size:Int):=by omega
     go_wp2
     go_ret
     exact ⟨by rw [HV2.out];first | rfl | (simp;omega),HW.out⟩
   ·rw [decide_eq_false h1] at HV2
    have h1i:(s.size:Int) < 1:=by omega
    go_wp2
    go_ret
    exact ⟨by rw [HV2.out];first | rfl | (simp;omega),HW.out⟩
end
section
open Go.RowKit
section
variable {w wr:World} {g sz:Nat} {xs:List Nat}
theorem SortI.drew (h:SortI w wr g xs sz):SortI w wr.drew g xs sz:=by
 obtain ⟨cs,ys,h1,h2,h3,h4,h5⟩:=h
 exact ⟨cs,ys,h1,h2,h3,h4,h5.drew⟩
theorem SortI.at_ (h:SortI w wr g xs sz) {i:Nat} (hi:i < xs.length):∃ x:Nat,wr.cell? ⟨g,i,none⟩=some (.int .u64 (x:Int))∧wr.frozen? ⟨g,i,none⟩=false:=by
 obtain ⟨cs,ys,h1,h2,h3,h4,h5⟩:=h
 have hyl:i < ys.length:=by rw [h4.length_eq];exact hi
 exact ⟨ys[i],by rw [h1.cell];exact h3.2 _ hyl,h1.frozen i⟩
theorem SortI.swap (h:SortI w wr g xs sz) {i j x y:Nat} (hi:i < xs.length) (hj:j < xs.length) (hx:wr.cell? ⟨g,i,none⟩=some (.int .u64 (x:Int))) (hy:wr.cell? ⟨g,j,none⟩=some (.int .u64 (y:Int))) :
  SortI w ((wr.setCell ⟨g,i,none⟩ (.int .u64 (y:Int))).setCell ⟨g,j,none⟩ (.int .u64 (x:Int))) g xs sz:=by
 obtain ⟨cs,ys,h1,h2,h3,h4,h5⟩:=h
 have i1:i < ys.length:=by rw [h4.length_eq];exact hi
 have j1:j < ys.length:=by rw [h4.length_eq];exact hj
 have ex:ys[i]=x:=by
  rw [h1.cell,h3.2 _ i1] at hx
  simp at hx;omega
 have ey:ys[j]=y:=by
  rw [h1.cell,h3.2 _ j1] at hy
  simp at hy;omega
 subst ex;subst ey
 exact ⟨_,_,(h1.set_ i _).set_ j _,by simpa using h2,(h3.set i _ i1).set j _ (by rw [List.length_set];exact j1),(List.set_set_perm i1 j1).trans h4,(h5.setCell (p:=⟨g,i,none⟩) (.inl rfl) _).setCell (p:=⟨g,j,none⟩) (.inl rfl) _⟩
theorem SortI.mid (h:SortI w wr g xs sz) {i j:Nat} (hj:j < xs.length) (u:Value):∃ v,(wr.setCell ⟨g,i,none⟩ u).cell? ⟨g,j,none⟩=some v:=by
 obtain ⟨cs,ys,h1,h2,h3,h4,h5⟩:=h
 have j1:j < ys.length:=by rw [h4.length_eq];exact hj
 have h:=(h1.set_ i u).cell j
 have hs:j < (cs.setIfInBounds i u).size:=by have:=h3.1;simp;omega
 exact ⟨_,h.trans (Array.getElem?_eq_getElem hs)⟩
theorem SortI.drewN (h:SortI w wr g xs sz) (n:Nat):SortI w (wr.drewN n) g xs sz:=by
 obtain ⟨cs,ys,h1,h2,h3,h4,h5⟩:=h
 exact ⟨cs,ys,h1,h2,h3,h4,h5.drewN n⟩
end
theorem less_any (x y:Nat) (w:World):Calls Tryz.prog 206 #[.int .u64 (x:Int), .int .u64 (y:Int)] w fun e w'=>e = .returned (.bool (decide (x < y)))∧w'=w:=by
 go_enter Tryz.func206,Tryz.ntmps206
 go_wp2
 all_goals (go_ret;exact ⟨rfl,rfl⟩)
theorem less_some (x y:Nat):∃ bb,Hid (∀ W:World,Calls Tryz.prog 206 #[.int .u64 (x:Int), .int .u64 (y:Int)] W fun e w'=>e = .returned (.bool bb)∧w'=W):=⟨_,fun W=>less_any x y W⟩
def RetMid (w:World) (g:Nat) (xs:List Nat) (sz a b:Nat) (e:Ending) (w':World):Prop:=∃ m:Nat,e = .returned (.int .i64 (m:Int))∧a≤m∧m≤b∧SortI w w' g xs sz
def RetPart (w:World) (g:Nat) (xs:List Nat) (sz a b:Nat) (e:Ending) (w':World):Prop:=∃ (m:Nat) (c:Bool),e = .returned (.tuple #[.int .i64 (m:Int), .bool c])∧a≤m∧m < b∧SortI w w' g xs sz
theorem reverse_any (g n cap sz a b:Nat) (xs:List Nat) (w:World) (h:SortI w w g xs sz) (hl:xs.length=n) (hab:a < b) (hb:b≤n) (hn:n≤1000000) (hc:n≤cap) (hcm:cap≤9223372036854775807) :
  Calls Tryz.prog 204 #[.slice (some ⟨g,0,none⟩) n cap, .int .i64 (a:Int), .int .i64 (b:Int)] w (RetSort w g xs sz):=by
 have H:=hid h
 have HL:=hid hl
 clear h hl
 obtain ⟨b',rfl⟩:∃ b',b=b'+1:=⟨b - 1,by omega⟩
 have u1:IntKind.i64.wrap (b':Int)=(b':Int):=by rw [IntKind.wrap_i64];omega
 go_enter Tryz.func204,Tryz.ntmps204
 go_wp2
 go_loopw [6,7] (fun i j wr=>∃ (p q:Nat),p≤b'+1∧q≤b'∧i = .int .i64 p∧j = .int .i64 q∧Hid (SortI w wr g xs sz)) (fun _ j _=>(RowKit.intOf j).toNat)
 case atStart=>exact ⟨a,b',by omega,by omega,rfl,by go_num,H⟩
 case round =>
  clear H
  obtain ⟨p,q,hp,hq,rfl,rfl,H⟩:=hrel
  by_cases hlt:p < q
  ·have e1:(p:Int) < (n:Int):=by omega
   have e2:(q:Int) < (n:Int):=by omega
   obtain ⟨x1,c1,z1⟩:=H.out.at_ (i:=p) (by have:=HL.out;omega)
   obtain ⟨x2,c2,z2⟩:=H.out.at_ (i:=q) (by have:=HL.out;omega)
   obtain ⟨x3,c3⟩:=H.out.mid (i:=p) (j:=q) (by have:=HL.out;omega) (.int .u64 (x2:Int))
   have H1:=hid (H.out.swap (by have:=HL.out;omega) (by have:=HL.out;omega) c1 c2).drew
   have e3:decide ((p:Int) < (q:Int))=true:=decide_eq_true (by omega)
   clear H
   go_wp2
   go_region
   go_wp2
   go_roundw
   case rel=>exact ⟨p+1,q - 1,by omega,by omega,by go_num,by go_num,H1⟩
   case measure=>simp [RowKit.intOf];omega
  ·go_wp2
   go_end0
   exact ⟨rfl,H.out⟩
theorem partition_any (g n cap sz a b p:Nat) (xs:List Nat) (w:World) (h:SortI w w g xs sz) (hl:xs.length=n) (hab:a+1 < b) (hb:b≤n) (hp2:p < b) (hn:n≤1000000) (hc:n≤cap) (hcm:cap≤9223372036854775807) :
  Calls Tryz.prog 208 #[.slice (some ⟨g,0,none⟩) n cap, .int .i64 (a:Int), .int .i64 (b:Int), .int .i64 (p:Int)] w (RetPart w g xs sz a b):=by
 have H:=hid h
 have HL:=hid hl
 clear h hl
 obtain ⟨b',rfl⟩:∃ b',b=b'+1:=⟨b - 1,by omega⟩
 have u1:IntKind.i64.wrap (b':Int)=(b':Int):=by rw [IntKind.wrap_i64];omega
 have e1:(a:Int) < (n:Int):=by omega
 have e2:(p:Int) < (n:Int):=by omega
 go_enter Tryz.func208,Tryz.ntmps208
 obtain ⟨x1,c1,z1⟩:=H.out.at_ (i:=a) (by have:=HL.out;omega)
 obtain ⟨x2,c2,z2⟩:=H.out.at_ (i:=p) (by have:=HL.out;omega)
 obtain ⟨x3,c3⟩:=H.out.mid (i:=a) (j:=p) (by have:=HL.out;omega) (.int .u64 (x2:Int))
 have H1:=hid (H.out.swap (by have:=HL.out;omega) (by have:=HL.out;omega) c1 c2).drew
 clear H
 go_wp2
 go_region
 clear c1 c2 c3 z1 z2
 go_upto_block 0 with fail
 go_cut [10] from 30 to 45 (fun v wx=>∃ k:Nat,v = .int .i64 k∧a+1≤k∧k≤b'+1∧Hid (SortI w wx g xs sz))
 case first =>
  go_wp2_with fail
  go_loopw [10] (fun i wr=>∃ k:Nat,a+1≤k∧k≤b'+1∧i = .int .i64 k∧Hid (SortI w wr g xs sz)) (fun i _=>b'+1 - (RowKit.intOf i).toNat)
  case atStart=>exact ⟨a+1,by omega,by omega,by go_num,H1⟩
  case round =>
   clear H1
   obtain ⟨k,hk1,hk2,rfl,H⟩:=hrel
   by_cases hle:k≤b'
   ·have e3:(k:Int) < (n:Int):=by omega
    have e4:decide ((k:Int)≤(b':Int))=true:=decide_eq_true (by omega)
    go_wp2_with fail
    obtain ⟨x1,c1,z1⟩:=H.out.at_ (i:=k) (by have:=HL.out;omega)
    obtain ⟨x2,c2,z2⟩:=H.out.at_ (i:=a) (by have:=HL.out;omega)
    obtain ⟨bb,HLs⟩:=less_some x1 x2
    go_quiet ((go_at_call 206;exact Calls.quiet_of_same (HLs.out _)))
    have H1:=hid (H.out.drewN nq)
    clear c1 c2 z1 z2 H
    cases bb
    ·go_wp2_with fail
     go_meet
     exact ⟨k,rfl,hk1,hk2,H1⟩
    ·go_wp2_with fail
     go_roundw
     case rel=>exact ⟨k+1,by omega,by omega,by go_num,H1⟩
     case measure=>simp [RowKit.intOf];omega
   ·have e4:decide ((k:Int)≤(b':Int))=false:=decide_eq_false (by omega)
    go_wp2_with fail
    go_quiet (fail)
    have H1:=hid (H.out.drewN nq)
    go_wp2_with fail
    go_meet
    exact ⟨k,rfl,hk1,hk2,H1⟩
 case rest =>
  clear H1
  obtain ⟨k,rfl,hk1,hk2,H⟩:=hcut
  go_upto_block 2 with fail
  go_cut [11] from 46 to 62 (fun v wx=>∃ q:Nat,v = .int .i64 q∧a≤q∧q≤b'∧Hid (SortI w wx g xs sz))
  case first =>
   go_wp2_with fail
   go_loopw [11] (fun j wr=>∃ q:Nat,a≤q∧q≤b'∧j = .int .i64 q∧Hid (SortI w wr g xs sz)) (fun j _=>(RowKit.intOf j).toNat)
   case atStart=>exact ⟨b',by omega,by omega,rfl,H⟩
   case round =>
    clear H
    obtain ⟨q,hq1,hq2,rfl,H⟩:=hrel
    by_cases hle:k≤q
    ·have e3:(q:Int) < (n:Int):=by omega
     have e4:decide ((k:Int)≤(q:Int))=true:=decide_eq_true (by omega)
     go_wp2_with fail
     obtain ⟨x1,c1,z1⟩:=H.out.at_ (i:=q) (by have:=HL.out;omega)
     obtain ⟨x2,c2,z2⟩:=H.out.at_ (i:=a) (by have:=HL.out;omega)
     obtain ⟨bb,HLs⟩:=less_some x1 x2
     go_quiet ((go_at_call 206;exact Calls.quiet_of_same (HLs.out _)))
     have H1:=hid (H.out.drewN nq)
     clear c1 c2 z1 z2 H
     cases bb
     ·go_wp2_with fail
      go_roundw
      case rel=>exact ⟨q - 1,by omega,by omega,by go_num,H1⟩
      case measure=>simp [RowKit.intOf];omega
     ·go_wp2_with fail
      go_meet
      exact ⟨q,rfl,hq1,hq2,H1⟩
    ·have e4:decide ((k:Int)≤(q:Int))=false:=decide_eq_false (by omega)
     go_wp2_with fail
     go_quiet (fail)
     have H1:=hid (H.out.drewN nq)
     go_wp2_with fail
     go_meet
     exact ⟨q,rfl,hq1,hq2,H1⟩
  case rest =>
   clear H
   obtain ⟨q,rfl,hq1,hq2,H⟩:=hcut
   by_cases hgt:q < k
   ·have e3:(q:Int) < (n:Int):=by omega
    have e4:decide ((q:Int) < (k:Int))=true:=decide_eq_true (by omega)
    obtain ⟨x1,c1,z1⟩:=H.out.at_ (i:=q) (by have:=HL.out;omega)
    obtain ⟨x2,c2,z2⟩:=H.out.at_ (i:=a) (by have:=HL.out;omega)
    obtain ⟨x3,c3⟩:=H.out.mid (i:=q) (j:=a) (by have:=HL.out;omega) (.int .u64 (x2:Int))
    have H1:=hid (H.out.swap (by have:=HL.out;omega) (by have:=HL.out;omega) c1 c2).drew
    clear H
    go_wp2_with fail
    go_region
    clear c1 c2 c3 z1 z2
    go_wp2_with fail
    go_ret2
    exact ⟨q,true,rfl,by omega,by omega,H1.out⟩
   ·have e3:(q:Int) < (n:Int):=by omega
    have e4:decide ((q:Int) < (k:Int))=false:=decide_eq_false (by omega)
    have e5:(k:Int) < (n:Int):=by omega
    obtain ⟨x1,c1,z1⟩:=H.out.at_ (i:=k) (by have:=HL.out;omega)
    obtain ⟨x2,c2,z2⟩:=H.out.at_ (i:=q) (by have:=HL.out;omega)
    obtain ⟨x3,c3⟩:=H.out.mid (i:=k) (j:=q) (by have:=HL.out;omega) (.int .u64 (x2:Int))
    have H1:=hid (H.out.swap (by have:=HL.out;omega) (by have:=HL.out;omega) c1 c2).drew
    clear H
    go_wp2_with fail
    go_region
    clear c1 c2 c3 z1 z2
    go_wp2_with fail
    go_loopw [10,11] (fun i j wr=>∃ k q:Nat,a+1≤k∧k≤b'+1∧a≤q∧q≤b'∧i = .int .i64 k∧j = .int .i64 q∧Hid (SortI w wr g xs sz)) (fun i _ _=>b'+1 - (RowKit.intOf i).toNat)
    case atStart=>exact ⟨k+1,q - 1,by omega,by omega,by omega,by omega,by go_num,by go_num,H1⟩
    case round =>
     clear H1 e3 e4 e5 hgt
     obtain ⟨k0,q0,hk01,hk02,hq01,hq02,rfl,rfl,H⟩:=hrel
     go_upto_block 6 with fail
     go_cut [10] from 99 to 152 (fun v wx=>∃ k:Nat,v = .int .i64 k∧k0≤k∧k≤b'+1∧Hid (SortI w wx g xs sz))
     case first =>
      go_wp2_with fail
      go_loopw [10] (fun i wr=>∃ k:Nat,k0≤k∧k≤b'+1∧i = .int .i64 k∧Hid (SortI w wr g xs sz)) (fun i _=>b'+1 - (RowKit.intOf i).toNat)
      case atStart=>exact ⟨k0,by omega,by omega,rfl,H⟩
      case round =>
       clear H
       obtain ⟨k,hk1,hk2,rfl,H⟩:=hrel
       by_cases hle:k≤q0
       ·have e3:(k:Int) < (n:Int):=by omega
        have e4:decide ((k:Int)≤(q0:Int))=true:=decide_eq_true (by omega)
        go_wp2_with fail
        obtain ⟨x1,c1,z1⟩:=H.out.at_ (i:=k) (by have:=HL.out;omega)
        obtain ⟨x2,c2,z2⟩:=H.out.at_ (i:=a) (by have:=HL.out;omega)
        obtain ⟨bb,HLs⟩:=less_some x1 x2
        go_quiet ((go_at_call 206;exact Calls.quiet_of_same (HLs.out _)))
        have H1:=hid (H.out.drewN nq)
        clear c1 c2 z1 z2 H
        cases bb
        ·go_wp2_with fail
         go_meet
         exact ⟨k,rfl,hk1,hk2,H1⟩
        ·go_wp2_with fail
         go_roundw
         case rel=>exact ⟨k+1,by omega,by omega,by go_num,H1⟩
         case measure=>simp [RowKit.intOf];omega
       ·have e4:decide ((k:Int)≤(q0:Int))=false:=decide_eq_false (by omega)
        go_wp2_with fail
        go_quiet (fail)
        have H1:=hid (H.out.drewN nq)
        go_wp2_with fail
        go_meet
        exact ⟨k,rfl,hk1,hk2,H1⟩
     case rest =>
      clear H
      obtain ⟨k,rfl,hk1,hk2,H⟩:=hcut
      go_upto_block 8 with fail
      go_cut [11] from 99 to 152 (fun v wx=>∃ q:Nat,v = .int .i64 q∧a≤q∧q≤b'∧Hid (SortI w wx g xs sz))
      case first =>
       go_wp2_with fail
       go_loopw [11] (fun j wr=>∃ q:Nat,a≤q∧q≤b'∧j = .int .i64 q∧Hid (SortI w wr g xs sz)) (fun j _=>(RowKit.intOf j).toNat)
       case atStart=>exact ⟨q0,by omega,by omega,rfl,H⟩
       case round =>
        clear H
        obtain ⟨q,hq1,hq2,rfl,H⟩:=hrel
        by_cases hle:k≤q
        ·have e3:(q:Int) < (n:Int):=by omega
         have e4:decide ((k:Int)≤(q:Int))=true:=decide_eq_true (by omega)
         go_wp2_with fail
         obtain ⟨x1,c1,z1⟩:=H.out.at_ (i:=q) (by have:=HL.out;omega)
         obtain ⟨x2,c2,z2⟩:=H.out.at_ (i:=a) (by have:=HL.out;omega)
         obtain ⟨bb,HLs⟩:=less_some x1 x2
         go_quiet ((go_at_call 206;exact Calls.quiet_of_same (HLs.out _)))
         have H1:=hid (H.out.drewN nq)
         clear c1 c2 z1 z2 H
         cases bb
         ·go_wp2_with fail
          go_roundw
          case rel=>exact ⟨q - 1,by omega,by omega,by go_num,H1⟩
          case measure=>simp [RowKit.intOf];omega
         ·go_wp2_with fail
          go_meet
          exact ⟨q,rfl,hq1,hq2,H1⟩
        ·have e4:decide ((k:Int)≤(q:Int))=false:=decide_eq_false (by omega)
         go_wp2_with fail
         go_quiet (fail)
         have H1:=hid (H.out.drewN nq)
         go_wp2_with fail
         go_meet
         exact ⟨q,rfl,hq1,hq2,H1⟩
      case rest =>
       clear H
       obtain ⟨q,rfl,hq1,hq2,H⟩:=hcut
       by_cases hgt:q < k
       ·have e3:(q:Int) < (n:Int):=by omega
        have e4:decide ((q:Int) < (k:Int))=true:=decide_eq_true (by omega)
        obtain ⟨x1,c1,z1⟩:=H.out.at_ (i:=q) (by have:=HL.out;omega)
        obtain ⟨x2,c2,z2⟩:=H.out.at_ (i:=a) (by have:=HL.out;omega)
        obtain ⟨x3,c3⟩:=H.out.mid (i:=q) (j:=a) (by have:=HL.out;omega) (.int .u64 (x2:Int))
        have H1:=hid (H.out.swap (by have:=HL.out;omega) (by have:=HL.out;omega) c1 c2).drew
        clear H
        go_wp2_with fail
        go_region
        clear c1 c2 c3 z1 z2
        go_wp2_with fail
        go_ret2
        exact ⟨q,false,rfl,by omega,by omega,H1.out⟩
       ·have e3:(q:Int) < (n:Int):=by omega
        have e4:decide ((q:Int) < (k:Int))=false:=decide_eq_false (by omega)
        have e5:(k:Int) < (n:Int):=by omega
        obtain ⟨x1,c1,z1⟩:=H.out.at_ (i:=k) (by have:=HL.out;omega)
        obtain ⟨x2,c2,z2⟩:=H.out.at_ (i:=q) (by have:=HL.out;omega)
        obtain ⟨x3,c3⟩:=H.out.mid (i:=k) (j:=q) (by have:=HL.out;omega) (.int .u64 (x2:Int))
        have H1:=hid (H.out.swap (by have:=HL.out;omega) (by have:=HL.out;omega) c1 c2).drew
        clear H
        go_wp2_with fail
        go_region
        clear c1 c2 c3 z1 z2
        go_wp2_with fail
        go_roundw
        case rel=>exact ⟨k+1,q - 1,by omega,by omega,by omega,by omega,by go_num,by go_num,H1⟩
        case measure=>simp [RowKit.intOf];omega
theorem partEqual_any (g n cap sz a b p:Nat) (xs:List Nat) (w:World) (h:SortI w w g xs sz) (hl:xs.length=n) (hab:a+1 < b) (hb:b≤n) (hp2:p < b) (hn:n≤1000000) (hc:n≤cap) (hcm:cap≤9223372036854775807) :
  Calls Tryz.prog 207 #[.slice (some ⟨g,0,none⟩) n cap, .int .i64 (a:Int), .int .i64 (b:Int), .int .i64 (p:Int)] w (RetMid w g xs sz (a+1) b):=by
 have H:=hid h
 have HL:=hid hl
 clear h hl
 obtain ⟨b',rfl⟩:∃ b',b=b'+1:=⟨b - 1,by omega⟩
 have u1:IntKind.i64.wrap (b':Int)=(b':Int):=by rw [IntKind.wrap_i64];omega
 have e1:(a:Int) < (n:Int):=by omega
 have e2:(p:Int) < (n:Int):=by omega
 go_enter Tryz.func207,Tryz.ntmps207
 obtain ⟨x1,c1,z1⟩:=H.out.at_ (i:=a) (by have:=HL.out;omega)
 obtain ⟨x2,c2,z2⟩:=H.out.at_ (i:=p) (by have:=HL.out;omega)
 obtain ⟨x3,c3⟩:=H.out.mid (i:=a) (j:=p) (by have:=HL.out;omega) (.int .u64 (x2:Int))
 have H1:=hid (H.out.swap (by have:=HL.out;omega) (by have:=HL.out;omega) c1 c2).drew
 clear H
 go_wp2
 go_region
 clear c1 c2 c3 z1 z2
 go_wp2_with fail
 go_loopw [9,10] (fun i j wr=>∃ k q:Nat,a+1≤k∧k≤b'+1∧a≤q∧q≤b'∧i = .int .i64 k∧j = .int .i64 q∧Hid (SortI w wr g xs sz)) (fun i _ _=>b'+1 - (RowKit.intOf i).toNat)
 case atStart=>exact ⟨a+1,b',by omega,by omega,by omega,by omega,by go_num,by go_num,H1⟩
 case round =>
  clear H1
  obtain ⟨k0,q0,hk01,hk02,hq01,hq02,rfl,rfl,H⟩:=hrel
  go_upto_block 2 with fail
  go_cut [9] from 29 to 82 (fun v wx=>∃ k:Nat,v = .int .i64 k∧k0≤k∧k≤b'+1∧Hid (SortI w wx g xs sz))
  case first =>
   go_wp2_with fail
   go_loopw [9] (fun i wr=>∃ k:Nat,k0≤k∧k≤b'+1∧i = .int .i64 k∧Hid (SortI w wr g xs sz)) (fun i _=>b'+1 - (RowKit.intOf i).toNat)
   case atStart=>exact ⟨k0,by omega,by omega,rfl,H⟩
   case round =>
    clear H
    obtain ⟨k,hk1,hk2,rfl,H⟩:=hrel
    by_cases hle:k≤q0
    ·have e3:(k:Int) < (n:Int):=by omega
     have e4:decide ((k:Int)≤(q0:Int))=true:=decide_eq_true (by omega)
     go_wp2_with fail
     obtain ⟨x1,c1,z1⟩:=H.out.at_ (i:=a) (by have:=HL.out;omega)
     obtain ⟨x2,c2,z2⟩:=H.out.at_ (i:=k) (by have:=HL.out;omega)
     obtain ⟨bb,HLs⟩:=less_some x1 x2
     go_quiet ((go_at_call 206;exact Calls.quiet_of_same (HLs.out _)))
     have H1:=hid (H.out.drewN nq)
     clear c1 c2 z1 z2 H
     cases bb
     ·go_wp2_with fail
      go_roundw
      case rel=>exact ⟨k+1,by omega,by omega,by go_num,H1⟩
      case measure=>simp [RowKit.intOf];omega
     ·go_wp2_with fail
      go_meet
      exact ⟨k,rfl,hk1,hk2,H1⟩
    ·have e4:decide ((k:Int)≤(q0:Int))=false:=decide_eq_false (by omega)
     go_wp2_with fail
     go_quiet (fail)
     have H1:=hid (H.out.drewN nq)
     go_wp2_with fail
     go_meet
     exact ⟨k,rfl,hk1,hk2,H1⟩
  case rest =>
   clear H
   obtain ⟨k,rfl,hk1,hk2,H⟩:=hcut
   go_upto_block 4 with fail
   go_cut [10] from 29 to 82 (fun v wx=>∃ q:Nat,v = .int .i64 q∧a≤q∧q≤b'∧Hid (SortI w wx g xs sz))
   case first =>
    go_wp2_with fail
    go_loopw [10] (fun j wr=>∃ q:Nat,a≤q∧q≤b'∧j = .int .i64 q∧Hid (SortI w wr g xs sz)) (fun j _=>(RowKit.intOf j).toNat)
    case atStart=>exact ⟨q0,by omega,by omega,rfl,H⟩
    case round =>
     clear H
     obtain ⟨q,hq1,hq2,rfl,H⟩:=hrel
     by_cases hle:k≤q
     ·have e3:(q:Int) < (n:Int):=by omega
      have e4:decide ((k:Int)≤(q:Int))=true:=decide_eq_true (by omega)
      go_wp2_with fail
      obtain ⟨x1,c1,z1⟩:=H.out.at_ (i:=a) (by have:=HL.out;omega)
      obtain ⟨x2,c2,z2⟩:=H.out.at_ (i:=q) (by have:=HL.out;omega)
      obtain ⟨bb,HLs⟩:=less_some x1 x2
      go_quiet ((go_at_call 206;exact Calls.quiet_of_same (HLs.out _)))
      have H1:=hid (H.out.drewN nq)
      clear c1 c2 z1 z2 H
      cases bb
      ·go_wp2_with fail
       go_meet
       exact ⟨q,rfl,hq1,hq2,H1⟩
      ·go_wp2_with fail
       go_roundw
       case rel=>exact ⟨q - 1,by omega,by omega,by go_num,H1⟩
       case measure=>simp [RowKit.intOf];omega
     ·have e4:decide ((k:Int)≤(q:Int))=false:=decide_eq_false (by omega)
      go_wp2_with fail
      go_quiet (fail)
      have H1:=hid (H.out.drewN nq)
      go_wp2_with fail
      go_meet
      exact ⟨q,rfl,hq1,hq2,H1⟩
   case rest =>
    clear H
    obtain ⟨q,rfl,hq1,hq2,H⟩:=hcut
    by_cases hgt:q < k
    ·have e4:decide ((q:Int) < (k:Int))=true:=decide_eq_true (by omega)
     go_wp2_with fail
     go_ret
     exact ⟨k,rfl,by omega,by omega,H.out⟩
    ·have e3:(q:Int) < (n:Int):=by omega
     have e4:decide ((q:Int) < (k:Int))=false:=decide_eq_false (by omega)
     have e5:(k:Int) < (n:Int):=by omega
     obtain ⟨x1,c1,z1⟩:=H.out.at_ (i:=k) (by have:=HL.out;omega)
     obtain ⟨x2,c2,z2⟩:=H.out.at_ (i:=q) (by have:=HL.out;omega)
     obtain ⟨x3,c3⟩:=H.out.mid (i:=k) (j:=q) (by have:=HL.out;omega) (.int .u64 (x2:Int))
     have H1:=hid (H.out.swap (by have:=HL.out;omega) (by have:=HL.out;omega) c1 c2).drew
     clear H
     go_wp2_with fail
     go_region
     clear c1 c2 c3 z1 z2
     go_wp2_with fail
     go_roundw
     case rel=>exact ⟨k+1,q - 1,by omega,by omega,by omega,by omega,by go_num,by go_num,H1⟩
     case measure=>simp [RowKit.intOf];omega
end
section
open Go.RowKit
def pOff (p:Nat):Nat:=p % 4294967296 * 8
def pGen (p:Nat):Nat:=p / 4294967296 % 65536
def pKind (p:Nat):Nat:=p / 281474976710656 % 256
def pAt (p k:Nat):Nat:=if p=0∨60≤k then 0 else pOff p+8 * k
def pMk (off gen kind:Nat):Nat:=off / 8+gen * 4294967296+kind * 281474976710656
theorem pMk_off {off gen kind:Nat} (h8:off % 8=0) (ho:off < 34359738368):pOff (pMk off gen kind)=off:=by
 unfold pOff pMk;omega
theorem pMk_gen {off gen kind:Nat} (ho:off < 34359738368) (hg:gen < 65536):pGen (pMk off gen kind)=gen:=by
 unfold pGen pMk;omega
theorem pMk_kind {off gen kind:Nat} (ho:off < 34359738368) (hg:gen < 65536) (hk:kind < 256):pKind (pMk off gen kind)=kind:=by
 unfold pKind pMk;omega
theorem pMk_lt {off gen kind:Nat} (ho:off < 34359738368) (hg:gen < 65536) (hk:kind < 128):pMk off gen kind < 18446744073709551616∧pMk off gen kind / 72057594037927936=0:=by
 unfold pMk;omega
theorem pMk_ne {off gen kind:Nat} (hg:0 < gen):pMk off gen kind≠0:=by
 unfold pMk;omega
section
theorem off_any (p:Nat) (w:World):Calls Tryz.prog 68 #[.int .u64 (p:Int)] w fun e w'=>e = .returned (.int .u64 (pOff p:Int))∧w=w':=by
 have e1:IntKind.u32.wrap (p:Int)=((p % 4294967296:Nat):Int):=by rw [IntKind.wrap_u32];omega
 have e2:IntKind.u64.wrap ((p % 4294967296:Nat):Int)=((p % 4294967296:Nat):Int):=by rw [IntKind.wrap_u64];omega
 have HP:Hid ((pOff p:Int)=((p % 4294967296:Nat):Int) * 8):=hid (by unfold pOff;omega)
 have h1:p % 4294967296 < 4294967296:=by omega
 generalize pOff p=r at *
 generalize p % 4294967296=q at *
 go_enter Tryz.func68,Tryz.ntmps68
 go_wp2
 go_ret
 exact ⟨by rw [HP.out];rfl,rfl⟩
theorem gen_any (p:Nat) (w:World):Calls Tryz.prog 163 #[.int .u64 (p:Int)] w fun e w'=>e = .returned (.int .u16 (pGen p:Int))∧w=w':=by
 have e1:IntKind.u16.wrap ((p:Int) / 4294967296)=(pGen p:Int):=by unfold pGen;rw [IntKind.wrap_u16];omega
 generalize pGen p=r at *
 go_enter Tryz.func163,Tryz.ntmps163
 go_wp2
 go_ret
 exact ⟨rfl,rfl⟩
theorem kind_any (p:Nat) (w:World):Calls Tryz.prog 29 #[.int .u64 (p:Int)] w fun e w'=>e = .returned (.int .u8 (pKind p:Int))∧w=w':=by
 have e1:IntKind.u8.wrap ((p:Int) / 281474976710656)=(pKind p:Int):=by unfold pKind;rw [IntKind.wrap_u8];omega
 generalize pKind p=r at *
 go_enter Tryz.func29,Tryz.ntmps29
 go_wp2
 go_ret
 exact ⟨rfl,rfl⟩
theorem nil_any (p:Nat) (w:World):Calls Tryz.prog 67 #[.int .u64 (p:Int)] w fun e w'=>e = .returned (.bool (decide (p=0)))∧w=w':=by
 have e1:((p:Int) == 0)=decide (p=0):=by
  by_cases h:p=0
  ·subst h;rfl
  ·rw [decide_eq_false h,beq_eq_false_iff_ne];omega
 generalize decide (p=0)=b at *
 go_enter Tryz.func67,Tryz.ntmps67
 go_wp2
 go_ret
 exact ⟨rfl,rfl⟩
theorem at_any (p k:Nat) (hk:k≤1000000000) (w:World):Calls Tryz.prog 24 #[.int .u64 (p:Int), .int .i64 (k:Int)] w fun e w'=>e = .returned (.int .u64 (pAt p k:Int))∧w=w':=by
 have HN:=hid (nil_any p w)
 have HO:=hid (off_any p w)
 have hk0:(0:Int)≤(k:Int):=by omega
 by_cases h0:p=0
 ·have hr:(pAt p k:Int)=0:=by unfold pAt;rw [if_pos (.inl h0)];rfl
  rw [hr]
  rw [decide_eq_true h0] at HN
  clear hr h0
  go_enter Tryz.func24,Tryz.ntmps24
  go_wp2_with (go_at_call 67;refine HN.out.mono ?_;rintro e w1 ⟨rfl,rfl⟩)
  go_ret
  exact ⟨rfl,rfl⟩
 ·rw [decide_eq_false h0] at HN
  by_cases h1:60≤k
  ·have hr:(pAt p k:Int)=0:=by unfold pAt;rw [if_pos (.inr h1)];rfl
   have d1:decide (60≤(k:Int))=true:=decide_eq_true (by omega)
   rw [hr]
   clear hr h0
   go_enter Tryz.func24,Tryz.ntmps24
   go_wp2_with (go_at_call 67;refine HN.out.mono ?_;rintro e w1 ⟨rfl,rfl⟩)
   go_ret
   exact ⟨rfl,rfl⟩
  ·have hr:(pAt p k:Int)=(pOff p:Int)+8 * (k:Int):=by unfold pAt;rw [if_neg (by omega)];omega
   have d1:decide (60≤(k:Int))=false:=decide_eq_false (by omega)
   have u1:IntKind.u64.wrap (k:Int)=(k:Int):=by rw [IntKind.wrap_u64];omega
   have ho:pOff p≤34359738368:=by unfold pOff;omega
   have HR:=hid hr
   clear hr h0
   generalize pOff p=r at *
   generalize pAt p k=z at *
   go_enter Tryz.func24,Tryz.ntmps24
   go_wp2_with (first
    | (go_at_call 67;refine HN.out.mono ?_;rintro e w1 ⟨rfl,rfl⟩)
    | (go_at_call 68;refine HO.out.mono ?_;rintro e w1 ⟨rfl,rfl⟩))
   go_ret
   exact ⟨by rw [HR.out];rfl,rfl⟩
theorem make_or (o g k:Nat) (ho:o < 4294967296) (hg:g < 65536) (hk:k < 256):bits .or .u64 (bits .or .u64 (o:Int) ((g:Int) * 4294967296)) ((k:Int) * 281474976710656)=((o+g * 4294967296+k * 281474976710656:Nat):Int):=by
 rw [Go.u64_or32 (y:=(o:Int)) (x:=(g:Int) * 4294967296) (by omega) (by omega) (by omega) (by omega) (by omega)]
 rw [Go.u64_or48 (y:=(o:Int)+(g:Int) * 4294967296) (x:=(k:Int) * 281474976710656) (by omega) (by omega) (by omega) (by omega) (by omega)]
 omega
theorem ptrMake_any (off gen kind:Nat) (h8:off % 8=0) (h0:0 < off) (ho:off≤1000000000) (hg0:0 < gen) (hg:gen < 65536) (hk0:0 < kind) (hk:kind < 128) (w:World) :
  Calls Tryz.prog 309 #[.int .u64 (off:Int), .int .u16 (gen:Int), .int .u8 (kind:Int)] w fun e w'=>e = .returned (.tuple #[.int .u64 (pMk off gen kind:Int), .int .i64 0])∧w=w':=by
 have e1:((off:Int) == 0)=false:=by rw [beq_eq_false_iff_ne];omega
 have e2:(off:Int) % 8=0:=by omega
 have e3:((gen:Int) == 0)=false:=by rw [beq_eq_false_iff_ne];omega
 have e4:((kind:Int) == 0)=false:=by rw [beq_eq_false_iff_ne];omega
 have e5:decide (127 < (kind:Int))=false:=decide_eq_false (by omega)
 have e6:decide (34359738360 < (off:Int))=false:=decide_eq_false (by omega)
 obtain ⟨o8,ho8⟩:∃ o8,off / 8=o8:=⟨_,rfl⟩
 have e7:(off:Int) / 8=(o8:Int):=by omega
 have e8:IntKind.u64.wrap (gen:Int)=(gen:Int):=by rw [IntKind.wrap_u64];omega
 have e9:IntKind.u64.wrap (kind:Int)=(kind:Int):=by rw [IntKind.wrap_u64];omega
 have ea:bits .or .u64 (bits .or .u64 (o8:Int) ((gen:Int) * 4294967296)) ((kind:Int) * 281474976710656)=(pMk off gen kind:Int):=by
  rw [make_or _ _ _ (by omega) hg (by omega)];unfold pMk;rw [ho8]
 generalize pMk off gen kind=r at *
 go_enter Tryz.func309,Tryz.ntmps309
 go_wp2
 go_ret2
 exact ⟨rfl,rfl⟩
end
end
end Go.Proofs.YtnlokpakiambaaaGreatDoor
