/- The walks and laws that the claim leans on. -/
import Derived.Test.YtnlokpakiambaaaGreatDoorHe
import Derived.Test.YtnlokpakiambaaaGreatDoorHh
import Derived.Test.YtnlokpakiambaaaGreatDoorProg
import Derived.WalkSpells
import Derived.WalkLawsBesides
import Derived.Deep.AppendLies
import Derived.Deep.OwnRows
import Derived.Lib.Hide
import Derived.StillTail
import Derived.Deep.RegionHeld3
import Derived.Deep.CutBlock
import Derived.Lib.ItoaNum
import Derived.Lib.AppendZeros
import Derived.Lib.BufferMore
import Derived.Lib.Zigzag
import Derived.Shelf.SlMaps.Clone
import Derived.Shelf.SlIter.Sorted
import Derived.Lib.QuoteBits
import Derived.Lib.SlKeysI
import Derived.Deep.Onto
import Derived.Laws.CopyOwn
import Derived.Lib.ConvBytes
import Derived.Lib.BytesEntry
import Derived.Lib.SlBytesConst
import Derived.Shelf.SlSortCmp.NoneTotal
set_option maxRecDepth 100000
set_option maxHeartbeats 16000000
namespace Go.Proofs.YtnlokpakiambaaaGreatDoor
open Go.Lib (hid)
section
open Go.RowKit Go.Maps
theorem snapshotTop_law (stamp:Nat) (nm:ByteArray) (w:World) (hst:stamp < 18446744073709551616) (hs:nm.size≤9223372036854775807) (ht:Tab w) (hpy:Pay w) :
  Calls Tryz.prog 7 #[.int .u64 (stamp:Int), .string nm] w fun e w'=>e = .returned (.bool true)∧Below w.heap.size w w':=by
 have HAw:=hid (awake38_any ht hpy)
 have HBg:Hid (∀ W,Below w.heap.size w W→Calls Tryz.prog 33 #[] W fun e w'=>∃ a x y q gr,e = .returned (.tuple #[.pointer (some ⟨y.g,0,none⟩), .pointer (some ⟨gr,0,none⟩)])∧RgW W.heap.size a x y q gr 3000 10 0 [] w'∧Below W.heap.size W w'):=hid (fun W hW=>begin38_w (ht.below hW) (hpy.below hW))
 have HNm:=hid hs
 obtain ⟨v,hv,hvl⟩:∃ v:Nat,(stamp:Int) % 4611686018427387904=(v:Int)∧v≤4611686018427387903:=⟨stamp % 4611686018427387904,by omega,by omega⟩
 have HV:=hid hvl
 clear ht hpy hs hst hvl
 go_enter Tryz.func7,Tryz.ntmps7
 go_wp2_with (go_at_call 32;refine HAw.out.mono ?_;rintro e w1 ⟨rfl,hb1⟩;have HB1:=hid hb1;clear hb1;refine stop ?_)
 unfold Stop
 have HBg1:=hid (HBg.out w1 HB1.out)
 go_wp2_with (go_at_call 33;refine HBg1.out.mono ?_;rintro e w2 ⟨a,x,y,q,gr,rfl,hw,hb⟩;have HX:=hid hw.rgX;have HB2:Hid (Below w.heap.size w w2):=hid (HB1.out.trans (hb.mono HB1.out.size));clear hw hb;refine stop ?_)
 unfold Stop
 clear HAw HBg HBg1
 go_upto_region 7 with fail
 rw [hv]
 clear hv
 have HXd:=hid (HX.out.below (Below.refl _ _).drew)
 have HLk:=hid HXd.out.linked
 have HAt:Hid (∀ W,Calls Tryz.prog 24 #[.int .u64 (q:Int), .int .i64 0] W fun e w'=>e = .returned (.int .u64 (pOff q:Int))∧W=w'):=hid (fun (W:World)=>by
  have h1:=at_any q 0 (by decide) W
  rw [HX.out.lt64.2.1] at h1
  exact h1)
 have HSe:=hid (RgX.setStamp (v:=v) (HXd.out.below (Below.refl _ _).drew) HV.out (by decide))
 rw [show pOff q+8 * 0=pOff q by omega] at HSe
 go_cut [] from 23 to 31 (fun wx=>Hid (RgX w1.heap.size [] a x y q gr 3001 10 v [] wx)∧Hid (Below w.heap.size w wx))
 case first =>
  refine wp_region_scriptH (fun w'=>w'.cell? ⟨y.g,1,none⟩=some (.pointer (some ⟨a.th 0,0,none⟩))) 9 [] [(1,0),(1,1),(1,2),(1,3),(1,4),(1,7),(0,5),(0,6),(0,8)] (by kernel_rfl) (by kernel_rfl) HXd.out.cells.2.1 ?_
  refine wpScriptH_take (.pointer (some ⟨y.g,0,none⟩)) (by rfl) (by rfl) (fun w' hS=>?_) ?_
  ·go_simp
  simp only [zA,zB,Act.put,zD,zE,zF]
  refine wpScriptH_take (.pointer (some ⟨y.g,0,none⟩)) (by rfl) (by rfl) (fun w' hS=>?_) ?_
  ·go_simp
  simp only [zA,zB,zC,Act.put,zD,zE,zF]
  refine wpScriptH_take (.pointer (some ⟨y.g,1,none⟩)) (by rfl) (by rfl) (fun w' hS=>?_) ?_
  ·go_simp
  simp only [zA,zB,zC,Act.put,zD,zE,zF]
  refine wpScriptH_take (.pointer (some ⟨a.th 0,0,none⟩)) (by rfl) (by rfl) (fun w' hS=>?_) ?_
  ·go_simp
  simp only [zA,zB,zC,Act.put,zD,zE,zF]
  refine wpScriptH_take (.pointer (some ⟨y.g,0,none⟩)) (by rfl) (by rfl) (fun w' hS=>?_) ?_
  ·go_simp
  simp only [zA,zB,zC,Act.put,zD,zE,zF]
  refine wpScriptH_take (.int .u64 (v:Int)) (by rfl) (by rfl) (fun w' hS=>?_) ?_
  ·go_simp
  simp only [zA,zB,zC,Act.put,zD,zE,zF]
  refine wpScriptH_do (by rfl) ?_
  go_wp2_with (go_at_call 13;refine HLk.out.mono ?_;rintro e w3 ⟨rfl,rfl⟩)
  refine ⟨(HXd.out.below (Below.refl _ _).drew).cells.2.1,?_⟩
  refine wpScriptH_do (by rfl) ?_
  go_wp2_with (go_at_call 24;refine (HAt.out _).mono ?_;rintro e w3 ⟨rfl,rfl⟩)
  refine ⟨(HXd.out.below (Below.refl _ _).drew).cells.2.1,?_⟩
  refine wpScriptH_do (by rfl) ?_
  go_wp2_with (go_at_call 23;refine HSe.out.mono ?_;rintro e w3 ⟨rfl,hx3,hb3,_⟩;have HX3:=hid hx3;have HB3:Hid (Below w.heap.size w w3):=hid (HB2.out.drew.drew.trans (hb3.mono HB1.out.size));clear hx3 hb3)
  refine ⟨HX3.out.cells.2.1,?_⟩
  show wpList _ _ _ _ _ _
  simp only [List.drop_succ_cons,List.drop_zero]
  refine NoPanic.normal ?_
  go_wp2_with fail
  go_meet
  exact ⟨HX3,HB3⟩
 case rest =>
 obtain ⟨HX3,HB3⟩:=hcut
 obtain ⟨w3,hw3⟩:∃ z,z=wc:=⟨_,rfl⟩
 subst hw3
 clear HX HXd HLk HSe HB2
 obtain ⟨W5,hW5⟩:∃ W5,w3.alloc (.cells #[.int .u64 (v:Int), .slice none 0 0] 86)=W5:=⟨_,rfl⟩
 have hb5:Below w3.heap.size w3 W5:=by rw [← hW5];exact (Below.refl _ _).alloc (Nat.le_refl _) _
 have hk5:Blk W5 w3.heap.size 86 #[.int .u64 (v:Int), .slice none 0 0]:=by rw [← hW5];exact Blk.new _ _ _
 have HW5:=hid hW5
 have HB5:=hid hb5
 have HK5:=hid hk5
 have g3:=(HX3.out.below hb5).cells.2.2.2
 have HNx:Hid (Calls Tryz.prog 34 #[.pointer (some ⟨gr,0,none⟩), .iface 43 (.pointer (some ⟨y.d,0,none⟩))] W5 (RetNx W5 (if v=4611686018427387903 then (0,[]) else (v+1,[(pOff q,v+1)])))):=hid (HX3.out.below hb5).rgW.next_
 clear hW5 hb5 hk5
 go_upto_region 9 with fail
 rw [HW5.out]
 go_cut [8,9] from 34 to 43 (fun v8 v9 wx=>∃ (n8:Int) (A9:Option Addr) (m9 c9:Nat),v8 = .int .u64 n8∧v9 = .slice A9 m9 c9∧Hid ((v=4611686018427387903→n8=0∧A9=none∧m9=0∧c9=0)∧(v≠4611686018427387903→n8=(v:Int)+1∧m9=1∧c9=1∧∃ gn,A9=some ⟨gn,0,none⟩∧Blk wx gn 90 #[.int .u64 (pOff q:Int), .int .u64 ((v:Int)+1)]))∧Hid (Below w3.heap.size w3 wx)∧Hid (Blk wx w3.heap.size 86 #[.int .u64 (v:Int), .slice none 0 0]))
 case first =>
  by_cases hvm:v=4611686018427387903
  ·have HNx2:Hid (Calls Tryz.prog 34 #[.pointer (some ⟨gr,0,none⟩), .iface 43 (.pointer (some ⟨y.d,0,none⟩))] W5 fun e w'=>e = .returned (.tuple #[.int .u64 0, .slice none 0 0])∧Below W5.heap.size W5 w'):=hid (by
    have h1:=HNx.out
    rw [if_pos hvm] at h1
    exact h1)
   have HVm:=hid hvm
   clear HNx hvm
   go_wp2_with (go_at_call 34;refine HNx2.out.mono ?_;rintro e w5 ⟨rfl,hbx⟩;have HBn:Hid (Below w3.heap.size w3 w5):=hid (HB5.out.trans (hbx.mono HB5.out.size));have HKb:=hid (HK5.out.below hbx HK5.out.lt);clear hbx)
   go_meet
   exact ⟨0,none,0,0,rfl,rfl,hid ⟨fun _=>⟨rfl,rfl,rfl,rfl⟩,fun h=>absurd HVm.out h⟩,HBn,HKb⟩
  ·have HNx2:Hid (Calls Tryz.prog 34 #[.pointer (some ⟨gr,0,none⟩), .iface 43 (.pointer (some ⟨y.d,0,none⟩))] W5 fun e w'=>(∃ g:Nat,W5.heap.size≤g∧e = .returned (.tuple #[.int .u64 ((v:Int)+1), .slice (some ⟨g,0,none⟩) 1 1])∧Hid (Blk w' g 90 #[.int .u64 (pOff q:Int), .int .u64 ((v:Int)+1)]))∧Below W5.heap.size W5 w'):=hid (by
    have h1:=HNx.out
    rw [if_neg hvm] at h1
    refine h1.mono (fun e w' h=>?_)
    obtain ⟨⟨g,h2,h3,h4⟩,h5⟩:=h
    exact ⟨⟨g,h2,h3,hid h4⟩,h5⟩)
   have HVm:=hid hvm
   clear HNx hvm
   go_wp2_with (go_at_call 34;refine HNx2.out.mono ?_;rintro e w5 ⟨⟨gn,hgn,rfl,hkn⟩,hbx⟩;have HKn:=hid hkn.out;have HBn:Hid (Below w3.heap.size w3 w5):=hid (HB5.out.trans (hbx.mono HB5.out.size));have HKb:=hid (HK5.out.below hbx HK5.out.lt);clear hbx hkn hgn)
   go_meet
   exact ⟨_,_,1,1,rfl,rfl,hid ⟨fun h=>absurd h HVm.out,fun _=>⟨rfl,rfl,rfl,gn,rfl,HKn.out⟩⟩,HBn,HKb⟩
 case rest =>
 obtain ⟨n8,A9,m9,c9,rfl,rfl,H89,HBn,HK5b⟩:=hcut
 obtain ⟨w5,hw5⟩:∃ z,z=wc:=⟨_,rfl⟩
 subst hw5
 clear HNx g3
 obtain ⟨bv,hbv⟩:∃ b,((v:Int) == 4611686018427387903)=b:=⟨_,rfl⟩
 have HBv:Hid (bv=true↔v=4611686018427387903):=hid (by
  rw [← hbv,beq_iff_eq]
  omega)
 go_upto_if 45 with fail
 clear hbv
 go_cut [] from 46 to 79 (fun wx=>Hid (Below w5.heap.size w5 wx))
 case first =>
  cases bv
  case true =>
   obtain ⟨rfl,rfl,rfl,rfl⟩:=H89.out.1 (HBv.out.1 rfl)
   clear H89
   go_wp2_with fail
   go_meet
   exact hid (Below.refl _ _)
  case false =>
   obtain ⟨rfl,rfl,rfl,gn,rfl,hkn⟩:=H89.out.2 (fun h=>by have:=HBv.out.2 h;cases this)
   have HKn:=hid hkn
   have hw:IntKind.u64.wrap ((v:Int)+1)=(v:Int)+1:=by rw [IntKind.wrap_u64];have:=HV.out;omega
   clear H89 hkn
   go_upto_region 13 with fail
   have HLk:=hid (HX3.out.below HBn.out.drew).linked
   have dw:(((v:Int)+1) != ((v:Int)+1))=false:=by rw [bne,beq_self_eq_true];rfl
   have dp:((pOff q:Int) != (pOff q:Int))=false:=by rw [bne,beq_self_eq_true];rfl
   refine wp_region_scriptH (fun w'=>w'.cell? ⟨gn,0,none⟩=some (.int .u64 (pOff q:Int))∧w'.cell? ⟨gn,1,none⟩=some (.int .u64 ((v:Int)+1))) 27 [] [(1,0),(1,1),(1,2),(1,3),(1,4),(1,5),(1,6),(1,7),(1,8),(1,9),(1,10),(1,11),(1,12),(1,13),(1,14),(1,15),(1,16),(1,17),(1,18),(1,19),(1,20),(1,21),(1,22),(0,23),(0,24),(1,25),(1,26)] (by kernel_rfl) (by kernel_rfl) ⟨HKn.out.cell 0,HKn.out.cell 1⟩ ?_
   refine wpScriptH_take (.int .u64 ((v:Int)+1)) (by rfl) (by rfl) (fun w' hS=>?_) ?_
   ·go_simp
   simp only [zA,zB,Act.put,zD,zE,zF]
   refine wpScriptH_take (.int .u64 (v:Int)) (by rfl) (by rfl) (fun w' hS=>?_) ?_
   ·go_simp
   simp only [zA,zB,zC,Act.put,zD,zE,zF]
   refine wpScriptH_take (.int .u64 ((v:Int)+1)) (by rfl) (by rfl) (fun w' hS=>?_) ?_
   ·go_simp
   simp only [zA,zB,zC,Act.put,zD,zE,zF]
   refine wpScriptH_take (.bool false) (by rfl) (by rfl) (fun w' hS=>?_) ?_
   ·go_simp
   simp only [zA,zB,zC,Act.put,zD,zE,zF]
   refine wpScriptH_take (.bool false) (by rfl) (by rfl) (fun w' hS=>?_) ?_
   ·go_simp
   simp only [zA,zB,zC,Act.put,zD,zE,zF]
   refine wpScriptH_take (.slice (some ⟨gn,0,none⟩) 1 1) (by rfl) (by rfl) (fun w' hS=>?_) ?_
   ·go_simp
   simp only [zA,zB,zC,Act.put,zD,zE,zF]
   refine wpScriptH_take (.int .i64 1) (by rfl) (by rfl) (fun w' hS=>?_) ?_
   ·go_simp
   simp only [zA,zB,zC,Act.put,zD,zE,zF]
   refine wpScriptH_take (.bool false) (by rfl) (by rfl) (fun w' hS=>?_) ?_
   ·go_simp
   simp only [zA,zB,zC,Act.put,zD,zE,zF]
   refine wpScriptH_take (.bool false) (by rfl) (by rfl) (fun w' hS=>?_) ?_
   ·go_simp
   simp only [zA,zB,zC,Act.put,zD,zE,zF]
   refine wpScriptH_take (.bool false) (by rfl) (by rfl) (fun w' hS=>?_) ?_
   ·go_simp
   simp only [zA,zB,zC,Act.put,zD,zE,zF]
   refine wpScriptH_take (.slice (some ⟨gn,0,none⟩) 1 1) (by rfl) (by rfl) (fun w' hS=>?_) ?_
   ·go_simp
   simp only [zA,zB,zC,Act.put,zD,zE,zF]
   refine wpScriptH_take (.pointer (some ⟨gn,0,none⟩)) (by rfl) (by rfl) (fun w' hS=>?_) ?_
   ·go_simp
   simp only [zA,zB,zC,Act.put,zD,zE,zF]
   refine wpScriptH_take (.pointer (some ⟨gn,1,none⟩)) (by rfl) (by rfl) (fun w' hS=>?_) ?_
   ·go_simp
   simp only [zA,zB,zC,Act.put,zD,zE,zF]
   refine wpScriptH_take (.int .u64 ((v:Int)+1)) (by rfl) (by rfl) (fun w' hS=>?_) ?_
   ·obtain ⟨s0,s1⟩:=hS
    go_simp
   simp only [zA,zB,zC,Act.put,zD,zE,zF]
   refine wpScriptH_take (.int .u64 ((v:Int)+1)) (by rfl) (by rfl) (fun w' hS=>?_) ?_
   ·go_simp
   simp only [zA,zB,zC,Act.put,zD,zE,zF]
   refine wpScriptH_take (.bool false) (by rfl) (by rfl) (fun w' hS=>?_) ?_
   ·go_simp
   simp only [zA,zB,zC,Act.put,zD,zE,zF]
   refine wpScriptH_take (.bool false) (by rfl) (by rfl) (fun w' hS=>?_) ?_
   ·go_simp
   simp only [zA,zB,zC,Act.put,zD,zE,zF]
   refine wpScriptH_take (.bool false) (by rfl) (by rfl) (fun w' hS=>?_) ?_
   ·go_simp
   simp only [zA,zB,zC,Act.put,zD,zE,zF]
   refine wpScriptH_take (.slice (some ⟨gn,0,none⟩) 1 1) (by rfl) (by rfl) (fun w' hS=>?_) ?_
   ·go_simp
   simp only [zA,zB,zC,Act.put,zD,zE,zF]
   refine wpScriptH_take (.pointer (some ⟨gn,0,none⟩)) (by rfl) (by rfl) (fun w' hS=>?_) ?_
   ·go_simp
   simp only [zA,zB,zC,Act.put,zD,zE,zF]
   refine wpScriptH_take (.pointer (some ⟨gn,0,none⟩)) (by rfl) (by rfl) (fun w' hS=>?_) ?_
   ·go_simp
   simp only [zA,zB,zC,Act.put,zD,zE,zF]
   refine wpScriptH_take (.int .u64 (pOff q:Int)) (by rfl) (by rfl) (fun w' hS=>?_) ?_
   ·obtain ⟨s0,s1⟩:=hS
    go_simp
   simp only [zA,zB,zC,Act.put,zD,zE,zF]
   refine wpScriptH_take (.pointer (some ⟨y.g,0,none⟩)) (by rfl) (by rfl) (fun w' hS=>?_) ?_
   ·go_simp
   simp only [zA,zB,zC,Act.put,zD,zE,zF]
   refine wpScriptH_do (by rfl) ?_
   go_wp2_with (go_at_call 13;refine HLk.out.mono ?_;rintro e w6 ⟨rfl,rfl⟩)
   refine ⟨⟨HKn.out.drew.drew.cell 0,HKn.out.drew.drew.cell 1⟩,?_⟩
   refine wpScriptH_do (by rfl) ?_
   go_wp2_with (go_at_call 24;refine (HAt.out _).mono ?_;rintro e w6 ⟨rfl,rfl⟩)
   refine ⟨⟨HKn.out.drew.drew.cell 0,HKn.out.drew.drew.cell 1⟩,?_⟩
   refine wpScriptH_take (.bool false) (by rfl) (by rfl) (fun w' hS=>?_) ?_
   ·go_simp
   simp only [zA,zB,zC,Act.put,zD,zE,zF]
   refine wpScriptH_take (.bool false) (by rfl) (by rfl) (fun w' hS=>?_) ?_
   ·go_simp
   simp only [zA,zB,zC,Act.put,zD,zE,zF]
   show wpList _ _ _ _ _ _
   simp only [List.drop_succ_cons,List.drop_zero]
   refine NoPanic.normal ?_
   go_wp2_with fail
   go_meet
   exact hid ((Below.refl _ _).drew.drew)
 case rest =>
 have HB6:Hid (Below w3.heap.size w3 wc):=hid (HBn.out.trans (hcut.out.mono HBn.out.size))
 have HK6:Hid (Blk wc w3.heap.size 86 #[.int .u64 (v:Int), .slice none 0 0]):=hid (HK5b.out.below hcut.out HK5b.out.lt)
 obtain ⟨w6,hw6⟩:∃ z,z=wc:=⟨_,rfl⟩
 subst hw6
 clear HW5 H89 HBn
 have HRt:=hid (refTake_any v none 0 0 [] nm w6 Reads.none_ (by decide) ⟨Nat.le_refl _,by decide⟩ (by have:=HV.out;omega) HNm.out)
 obtain ⟨cd,hcd⟩:∃ cd,(rfT nm v []).2=cd:=⟨_,rfl⟩
 obtain ⟨rl8,hrl8⟩:∃ z,(rfT nm v []).1=z:=⟨_,rfl⟩
 have HRl:=hid (RLk.nil.take (st:=v) nm)
 rw [hcd,hrl8] at HRl
 have HRt2:Hid (Calls Tryz.prog 35 #[.agg #[.int .u64 (v:Int), .slice none 0 0], .string nm] w6 fun e w'=>∃ (A':Option Addr) (n' c':Nat),e = .returned (.tuple #[.agg #[.int .u64 (v:Int), .slice A' n' c'], .int .i64 (cd:Int)])∧Hid (n'≤c'∧c'≤9223372036854775807∧Reads w' w'.heap.size 2 A' n' (itCells rl8)∧(∃ E:List Nat,(∀ g∈E,w6.heap.size≤g∧g < w'.heap.size)∧∀ ad,A'=some ad→ad.block∈E++[]∧(ad.block∈([]:List Nat)∨w6.heap.size≤ad.block))∧Below w6.heap.size w6 w'∧(A'=none∨∀ ad,A'=some ad→w6.heap.size≤ad.block))):=hid (HRt.out.mono (fun e w' h=>retRf_in (fun ad hA=>by cases hA) (Nat.le_refl _) (by rw [← hcd,← hrl8]) h))
 clear HRt hcd hrl8
 have k60:=HK6.out.cell 0
 have k61:=HK6.out.cell 1
 have hlt7:=HK6.out.lt
 go_upto_region 16 with (go_at_call 35;refine HRt2.out.mono ?_;rintro e w7 ⟨A8,n8',c8,rfl,hq⟩;have HQ8:=hid hq.out;have hk7:=HK6.out.below hq.out.2.2.2.2.1 hlt7;have HK7:=hid hk7;have c70:=hk7.cell 0;have c71:=hk7.cell 1;have z70:=hk7.frozen 0;have z71:=hk7.frozen 1;clear hk7 hq k60 k61)
 have HW8:Hid (w7.heap.size=((w7.setCell ⟨w3.heap.size,0,none⟩ (.int .u64 (v:Int))).setCell ⟨w3.heap.size,1,none⟩ (.slice A8 n8' c8)).heap.size):=hid (by simp)
 have hb78:Below w3.heap.size w7 ((w7.setCell ⟨w3.heap.size,0,none⟩ (.int .u64 (v:Int))).setCell ⟨w3.heap.size,1,none⟩ (.slice A8 n8' c8)):=((Below.refl w3.heap.size w7).setCell (p:=⟨w3.heap.size,0,none⟩) (Nat.le_refl _) _).setCell (p:=⟨w3.heap.size,1,none⟩) (Nat.le_refl _) _
 have hk8:Blk ((w7.setCell ⟨w3.heap.size,0,none⟩ (.int .u64 (v:Int))).setCell ⟨w3.heap.size,1,none⟩ (.slice A8 n8' c8)) w3.heap.size 86 #[.int .u64 (v:Int), .slice A8 n8' c8]:=(HK7.out.set_ 0 _).set_ 1 _
 obtain ⟨q1,q2,q3,⟨E,q4,q5⟩,q6, -⟩:=HQ8.out
 have hne:∀ ad,A8=some ad→¬ (fun k=>k=w3.heap.size) ad.block:=fun ad hA e=>by
  rcases (q5 ad hA).2 with h | h
  ·cases h
  ·have e':ad.block=w3.heap.size:=e
   omega
 have hrd8:Reads ((w7.setCell ⟨w3.heap.size,0,none⟩ (.int .u64 (v:Int))).setCell ⟨w3.heap.size,1,none⟩ (.slice A8 n8' c8)) w7.heap.size 2 A8 n8' (itCells rl8):=reads_chg q3 (((Chg.refl (fun k=>k=w3.heap.size) w7).setCell (p:=⟨w3.heap.size,0,none⟩) (.inl rfl) _).setCell (p:=⟨w3.heap.size,1,none⟩) (.inl rfl) _) (Nat.le_refl _) hne
 have hb38:=(HB6.out.trans (q6.mono HB6.out.size)).trans hb78
 have HK8:=hid hk8
 have HRd8:=hid hrd8
 have HB38:=hid hb38
 have HE:Hid (∀ g∈E,w3.heap.size≤g∧g < w7.heap.size):=hid (fun g hg=>⟨Nat.le_trans HB6.out.size (q4 g hg).1,(q4 g hg).2⟩)
 have HAt8:Hid (∀ ad,A8=some ad→ad.block∈w3.heap.size :: E):=hid (fun ad hA=>by
  have:=(q5 ad hA).1
  rw [List.append_nil] at this
  exact List.mem_cons_of_mem _ this)
 have HG7:Hid (w3.heap.size < w7.heap.size):=hid HK7.out.lt
 clear hb78 hk8 q1 q2 q3 q4 q5 q6 hne hrd8 hb38 c70 c71 z70 z71 HQ8 HRt2 HK7 HK6 HB6 hlt7
 generalize hW8:((w7.setCell ⟨w3.heap.size,0,none⟩ (.int .u64 (v:Int))).setCell ⟨w3.heap.size,1,none⟩ (.slice A8 n8' c8))=W8 at *
 clear hW8
 rw [HW8.out] at HRd8 HE HG7
 have HX8:Hid (RgX w1.heap.size (w3.heap.size :: E) a x y q gr 3001 10 v [] W8):=hid (by
  have h1:=HX3.out.news HB38.out (w3.heap.size :: E) (fun g hg=>by
   rcases List.mem_cons.1 hg with rfl | hg
   ·exact ⟨Nat.le_refl _,HG7.out⟩
   ·exact HE.out g hg)
  rw [List.append_nil] at h1
  exact h1)
 have HBw8:Hid (Below w.heap.size w W8):=hid (HB3.out.trans (HB38.out.mono HB3.out.size))
 have HTk:=hid (HX8.out.take_ nm HNm.out (by decide) (by decide))
 rw [HRl.out.1] at HTk
 have g3:=HX8.out.cells.2.2.2
 have dvv:((v:Int) == (v:Int))=true:=beq_self_eq_true _
 clear HX3 HB38 HE HG7 HW8
 by_cases hc0:cd=0
 ·subst hc0
  have HTk2:Hid (Calls Tryz.prog 36 #[.pointer (some ⟨gr,0,none⟩), .iface 43 (.pointer (some ⟨y.d,0,none⟩)), .string nm] W8 fun e w'=>e = .returned (.tuple #[.int .u64 (v:Int), .int .i64 0])∧RgX w1.heap.size (w3.heap.size :: E) a x y q gr 3801 10 v (tkL nm v []) w'∧Below w1.heap.size W8 w'∧KeptB (w3.heap.size :: E) W8 w'):=HTk
  clear HTk
  go_upto_region 17 with (go_at_call 36;refine HTk2.out.mono ?_;rintro e w9 ⟨rfl,hx9,hb9,hk9⟩;have HX9:=hid hx9;have HB9:=hid hb9;have HKe9:=hid hk9;clear hx9 hb9 hk9)
  have HK9:Hid (Blk w9 w3.heap.size 86 #[.int .u64 (v:Int), .slice A8 n8' c8]):=hid (HKe9.out.blk HK8.out (by simp))
  have HRd9:Hid (Reads w9 w9.heap.size 2 A8 n8' (itCells rl8)):=hid (reads_kept HRd8.out HAt8.out HKe9.out HB9.out.size)
  have HIs:=hid (is_any (HX9.out.below (Below.refl _ _).drew).rgW HRl.out.2 A8 n8' c8 (HRd9.out.below (Below.refl _ _).drew) nm)
  have HBz:Hid (Below w.heap.size w w9.drew):=hid (HBw8.out.trans (HB9.out.mono HB1.out.size)).drew
  clear g3 HTk2
  refine wp_region_scriptH (fun w'=>w'.cell? ⟨y.g,3,none⟩=some (.pointer (some ⟨y.d,0,none⟩))∧w'.cell? ⟨w3.heap.size,0,none⟩=some (.int .u64 (v:Int))∧w'.cell? ⟨w3.heap.size,1,none⟩=some (.slice A8 n8' c8)) 24 [] [(1,0),(1,1),(1,2),(1,3),(1,4),(1,5),(1,6),(1,7),(1,8),(1,9),(1,10),(1,11),(1,12),(1,13),(1,14),(1,15),(1,16),(1,17),(1,18),(1,19),(1,20),(0,21),(1,22),(1,23)] (by kernel_rfl) (by kernel_rfl) ⟨HX9.out.cells.2.2.2,HK9.out.cell 0,HK9.out.cell 1⟩ ?_
  refine wpScriptH_take (.int .i64 0) (by rfl) (by rfl) (fun w' hS=>?_) ?_
  ·go_simp
  simp only [zA,zB,Act.put,zD,zE,zF]
  refine wpScriptH_take (.int .i64 0) (by rfl) (by rfl) (fun w' hS=>?_) ?_
  ·go_simp
  simp only [zA,zB,zC,Act.put,zD,zE,zF]
  refine wpScriptH_take (.bool true) (by rfl) (by rfl) (fun w' hS=>?_) ?_
  ·go_simp
  simp only [zA,zB,zC,Act.put,zD,zE,zF]
  refine wpScriptH_take (.bool true) (by rfl) (by rfl) (fun w' hS=>?_) ?_
  ·go_simp
  simp only [zA,zB,zC,Act.put,zD,zE,zF]
  refine wpScriptH_take (.int .i64 0) (by rfl) (by rfl) (fun w' hS=>?_) ?_
  ·go_simp
  simp only [zA,zB,zC,Act.put,zD,zE,zF]
  refine wpScriptH_take (.bool false) (by rfl) (by rfl) (fun w' hS=>?_) ?_
  ·go_simp
  simp only [zA,zB,zC,Act.put,zD,zE,zF]
  refine wpScriptH_take (.bool false) (by rfl) (by rfl) (fun w' hS=>?_) ?_
  ·go_simp
  simp only [zA,zB,zC,Act.put,zD,zE,zF]
  refine wpScriptH_take (.int .u64 (v:Int)) (by rfl) (by rfl) (fun w' hS=>?_) ?_
  ·go_simp
  simp only [zA,zB,zC,Act.put,zD,zE,zF]
  refine wpScriptH_take (.int .u64 (v:Int)) (by rfl) (by rfl) (fun w' hS=>?_) ?_
  ·go_simp
  simp only [zA,zB,zC,Act.put,zD,zE,zF]
  refine wpScriptH_take (.bool true) (by rfl) (by rfl) (fun w' hS=>?_) ?_
  ·go_simp
  simp only [zA,zB,zC,Act.put,zD,zE,zF]
  refine wpScriptH_take (.bool true) (by rfl) (by rfl) (fun w' hS=>?_) ?_
  ·go_simp
  simp only [zA,zB,zC,Act.put,zD,zE,zF]
  refine wpScriptH_take (.bool true) (by rfl) (by rfl) (fun w' hS=>?_) ?_
  ·go_simp
  simp only [zA,zB,zC,Act.put,zD,zE,zF]
  refine wpScriptH_take (.bool true) (by rfl) (by rfl) (fun w' hS=>?_) ?_
  ·go_simp
  simp only [zA,zB,zC,Act.put,zD,zE,zF]
  refine wpScriptH_take (.pointer (some ⟨gr,0,none⟩)) (by rfl) (by rfl) (fun w' hS=>?_) ?_
  ·go_simp
  simp only [zA,zB,zC,Act.put,zD,zE,zF]
  refine wpScriptH_take (.pointer (some ⟨y.g,0,none⟩)) (by rfl) (by rfl) (fun w' hS=>?_) ?_
  ·go_simp
  simp only [zA,zB,zC,Act.put,zD,zE,zF]
  refine wpScriptH_take (.pointer (some ⟨y.g,0,none⟩)) (by rfl) (by rfl) (fun w' hS=>?_) ?_
  ·go_simp
  simp only [zA,zB,zC,Act.put,zD,zE,zF]
  refine wpScriptH_take (.pointer (some ⟨y.g,3,none⟩)) (by rfl) (by rfl) (fun w' hS=>?_) ?_
  ·go_simp
  simp only [zA,zB,zC,Act.put,zD,zE,zF]
  refine wpScriptH_take (.pointer (some ⟨y.d,0,none⟩)) (by rfl) (by rfl) (fun w' hS=>?_) ?_
  ·obtain ⟨s0,s1,s2⟩:=hS
   go_simp
  simp only [zA,zB,zC,Act.put,zD,zE,zF]
  refine wpScriptH_take (.iface 43 (.pointer (some ⟨y.d,0,none⟩))) (by rfl) (by rfl) (fun w' hS=>?_) ?_
  ·go_simp
  simp only [zA,zB,zC,Act.put,zD,zE,zF]
  refine wpScriptH_take (.agg #[.int .u64 (v:Int), .slice A8 n8' c8]) (by rfl) (by rfl) (fun w' hS=>?_) ?_
  ·obtain ⟨s0,s1,s2⟩:=hS
   go_simp
  simp only [zA,zB,zC,Act.put,zD,zE,zF]
  refine wpScriptH_take (.string nm) (by rfl) (by rfl) (fun w' hS=>?_) ?_
  ·go_simp
  simp only [zA,zB,zC,Act.put,zD,zE,zF]
  refine wpScriptH_do (by rfl) ?_
  go_wp2_with (go_at_call 37;refine HIs.out.mono ?_;rintro e wI ⟨rfl,hbi⟩;have HBi:=hid hbi;clear hbi)
  refine ⟨⟨(HX9.out.below ((Below.refl _ _).drew.trans HBi.out)).cells.2.2.2,(HK9.out.below ((Below.refl _ _).drew.trans HBi.out) HK9.out.lt).cell 0,(HK9.out.below ((Below.refl _ _).drew.trans HBi.out) HK9.out.lt).cell 1⟩,?_⟩
  refine wpScriptH_take (.bool true) (by rfl) (by rfl) (fun w' hS=>?_) ?_
  ·go_simp
  simp only [zA,zB,zC,Act.put,zD,zE,zF]
  refine wpScriptH_take (.bool true) (by rfl) (by rfl) (fun w' hS=>?_) ?_
  ·go_simp
  simp only [zA,zB,zC,Act.put,zD,zE,zF]
  show wpList _ _ _ _ _ _
  simp only [List.drop_succ_cons,List.drop_zero]
  refine NoPanic.normal ?_
  go_wp2_with fail
  go_ret
  exact ⟨rfl,HBz.out.trans (HBi.out.mono HBz.out.size)⟩
 ·have dcc:((cd:Int) == (cd:Int))=true:=beq_self_eq_true _
  have HTk2:Hid (Calls Tryz.prog 36 #[.pointer (some ⟨gr,0,none⟩), .iface 43 (.pointer (some ⟨y.d,0,none⟩)), .string nm] W8 fun e w'=>e = .returned (.tuple #[.int .u64 0, .int .i64 (cd:Int)])∧RgX w1.heap.size (w3.heap.size :: E) a x y q gr 3801 10 v (tkL nm v []) w'∧Below w1.heap.size W8 w'∧KeptB (w3.heap.size :: E) W8 w'):=hid (by
     have h1:=HTk.out
     rw [if_neg hc0] at h1
     exact h1)
  have dc:((cd:Int) != 0)=true:=by rw [bne,beq_eq_false_iff_ne.2 (by omega)];rfl
  clear hc0
  clear HTk
  go_upto_region 17 with (go_at_call 36;refine HTk2.out.mono ?_;rintro e w9 ⟨rfl,hx9,hb9,hk9⟩;have HX9:=hid hx9;have HB9:=hid hb9;have HKe9:=hid hk9;clear hx9 hb9 hk9)
  have HK9:Hid (Blk w9 w3.heap.size 86 #[.int .u64 (v:Int), .slice A8 n8' c8]):=hid (HKe9.out.blk HK8.out (by simp))
  have HRd9:Hid (Reads w9 w9.heap.size 2 A8 n8' (itCells rl8)):=hid (reads_kept HRd8.out HAt8.out HKe9.out HB9.out.size)
  have HIs:=hid (is_any (HX9.out.below (Below.refl _ _).drew).rgW HRl.out.2 A8 n8' c8 (HRd9.out.below (Below.refl _ _).drew) nm)
  have HBz:Hid (Below w.heap.size w w9.drew):=hid (HBw8.out.trans (HB9.out.mono HB1.out.size)).drew
  clear g3 HTk2
  refine wp_region_scriptH (fun w'=>w'.cell? ⟨y.g,3,none⟩=some (.pointer (some ⟨y.d,0,none⟩))∧w'.cell? ⟨w3.heap.size,0,none⟩=some (.int .u64 (v:Int))∧w'.cell? ⟨w3.heap.size,1,none⟩=some (.slice A8 n8' c8)) 24 [] [(1,0),(1,1),(1,2),(1,3),(1,4),(1,5),(1,6),(1,7),(1,8),(1,9),(1,10),(1,11),(1,12),(1,13),(1,14),(1,15),(1,16),(1,17),(1,18),(1,19),(1,20),(0,21),(1,22),(1,23)] (by kernel_rfl) (by kernel_rfl) ⟨HX9.out.cells.2.2.2,HK9.out.cell 0,HK9.out.cell 1⟩ ?_
  refine wpScriptH_take (.int .i64 (cd:Int)) (by rfl) (by rfl) (fun w' hS=>?_) ?_
  ·go_simp
  simp only [zA,zB,Act.put,zD,zE,zF]
  refine wpScriptH_take (.int .i64 (cd:Int)) (by rfl) (by rfl) (fun w' hS=>?_) ?_
  ·go_simp
  simp only [zA,zB,zC,Act.put,zD,zE,zF]
  refine wpScriptH_take (.bool true) (by rfl) (by rfl) (fun w' hS=>?_) ?_
  ·go_simp
  simp only [zA,zB,zC,Act.put,zD,zE,zF]
  refine wpScriptH_take (.bool true) (by rfl) (by rfl) (fun w' hS=>?_) ?_
  ·go_simp
  simp only [zA,zB,zC,Act.put,zD,zE,zF]
  refine wpScriptH_take (.int .i64 (cd:Int)) (by rfl) (by rfl) (fun w' hS=>?_) ?_
  ·go_simp
  simp only [zA,zB,zC,Act.put,zD,zE,zF]
  refine wpScriptH_take (.bool true) (by rfl) (by rfl) (fun w' hS=>?_) ?_
  ·go_simp
  simp only [zA,zB,zC,Act.put,zD,zE,zF]
  refine wpScriptH_take (.bool true) (by rfl) (by rfl) (fun w' hS=>?_) ?_
  ·go_simp
  simp only [zA,zB,zC,Act.put,zD,zE,zF]
  refine wpScriptH_skip (by rfl) (by rfl) ?_
  simp only [zA,zB,zC,Act.put,zD,zE,zF]
  refine wpScriptH_skip (by rfl) (by rfl) ?_
  simp only [zA,zB,zC,Act.put,zD,zE,zF]
  refine wpScriptH_skip (by rfl) (by rfl) ?_
  simp only [zA,zB,zC,Act.put,zD,zE,zF]
  refine wpScriptH_take (.bool true) (by rfl) (by rfl) (fun w' hS=>?_) ?_
  ·go_simp
  simp only [zA,zB,zC,Act.put,zD,zE,zF]
  refine wpScriptH_take (.bool true) (by rfl) (by rfl) (fun w' hS=>?_) ?_
  ·go_simp
  simp only [zA,zB,zC,Act.put,zD,zE,zF]
  refine wpScriptH_take (.bool true) (by rfl) (by rfl) (fun w' hS=>?_) ?_
  ·go_simp
  simp only [zA,zB,zC,Act.put,zD,zE,zF]
  refine wpScriptH_take (.pointer (some ⟨gr,0,none⟩)) (by rfl) (by rfl) (fun w' hS=>?_) ?_
  ·go_simp
  simp only [zA,zB,zC,Act.put,zD,zE,zF]
  refine wpScriptH_take (.pointer (some ⟨y.g,0,none⟩)) (by rfl) (by rfl) (fun w' hS=>?_) ?_
  ·go_simp
  simp only [zA,zB,zC,Act.put,zD,zE,zF]
  refine wpScriptH_take (.pointer (some ⟨y.g,0,none⟩)) (by rfl) (by rfl) (fun w' hS=>?_) ?_
  ·go_simp
  simp only [zA,zB,zC,Act.put,zD,zE,zF]
  refine wpScriptH_take (.pointer (some ⟨y.g,3,none⟩)) (by rfl) (by rfl) (fun w' hS=>?_) ?_
  ·go_simp
  simp only [zA,zB,zC,Act.put,zD,zE,zF]
  refine wpScriptH_take (.pointer (some ⟨y.d,0,none⟩)) (by rfl) (by rfl) (fun w' hS=>?_) ?_
  ·obtain ⟨s0,s1,s2⟩:=hS
   go_simp
  simp only [zA,zB,zC,Act.put,zD,zE,zF]
  refine wpScriptH_take (.iface 43 (.pointer (some ⟨y.d,0,none⟩))) (by rfl) (by rfl) (fun w' hS=>?_) ?_
  ·go_simp
  simp only [zA,zB,zC,Act.put,zD,zE,zF]
  refine wpScriptH_take (.agg #[.int .u64 (v:Int), .slice A8 n8' c8]) (by rfl) (by rfl) (fun w' hS=>?_) ?_
  ·obtain ⟨s0,s1,s2⟩:=hS
   go_simp
  simp only [zA,zB,zC,Act.put,zD,zE,zF]
  refine wpScriptH_take (.string nm) (by rfl) (by rfl) (fun w' hS=>?_) ?_
  ·go_simp
  simp only [zA,zB,zC,Act.put,zD,zE,zF]
  refine wpScriptH_do (by rfl) ?_
  go_wp2_with (go_at_call 37;refine HIs.out.mono ?_;rintro e wI ⟨rfl,hbi⟩;have HBi:=hid hbi;clear hbi)
  refine ⟨⟨(HX9.out.below ((Below.refl _ _).drew.trans HBi.out)).cells.2.2.2,(HK9.out.below ((Below.refl _ _).drew.trans HBi.out) HK9.out.lt).cell 0,(HK9.out.below ((Below.refl _ _).drew.trans HBi.out) HK9.out.lt).cell 1⟩,?_⟩
  refine wpScriptH_take (.bool true) (by rfl) (by rfl) (fun w' hS=>?_) ?_
  ·go_simp
  simp only [zA,zB,zC,Act.put,zD,zE,zF]
  refine wpScriptH_take (.bool true) (by rfl) (by rfl) (fun w' hS=>?_) ?_
  ·go_simp
  simp only [zA,zB,zC,Act.put,zD,zE,zF]
  show wpList _ _ _ _ _ _
  simp only [List.drop_succ_cons,List.drop_zero]
  refine NoPanic.normal ?_
  go_wp2_with fail
  go_ret
  exact ⟨rfl,HBz.out.trans (HBi.out.mono HBz.out.size)⟩
end
end Go.Proofs.YtnlokpakiambaaaGreatDoor
