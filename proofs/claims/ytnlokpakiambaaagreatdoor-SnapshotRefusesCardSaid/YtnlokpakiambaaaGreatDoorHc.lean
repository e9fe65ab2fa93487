/- The walks and laws that the claim leans on. -/
import Derived.Test.YtnlokpakiambaaaGreatDoorHb
import Derived.Test.YtnlokpakiambaaaGreatDoorProg
import Derived.WalkSpells
import Derived.WalkLawsBesides
import Derived.Deep.AppendLies
import Derived.Deep.OwnRows
import Derived.Lib.Hide
import Derived.StillTail
import Derived.Deep.RegionHeld3
import Derived.Deep.CutBlock
import Derived.Lib.ItoaNum
import Derived.Lib.AppendZeros
import Derived.Lib.BufferMore
import Derived.Lib.Zigzag
import Derived.Shelf.SlMaps.Clone
import Derived.Shelf.SlIter.Sorted
import Derived.Lib.QuoteBits
import Derived.Lib.SlKeysI
import Derived.Deep.Onto
import Derived.Laws.CopyOwn
import Derived.Lib.ConvBytes
import Derived.Lib.BytesEntry
import Derived.Lib.SlBytesConst
import Derived.Shelf.SlSortCmp.NoneTotal
set_option maxRecDepth 100000
set_option maxHeartbeats 16000000
namespace Go.Proofs.YtnlokpakiambaaaGreatDoor
open Go.Lib (hid)
section
open Go.RowKit Go.Maps
theorem u64_nat (v:Int):∃ q2:Nat,IntKind.u64.wrap v=(q2:Int)∧q2 < 18446744073709551616:=by
 refine ⟨(IntKind.u64.wrap v).toNat,?_,?_⟩ <;> rw [IntKind.wrap_u64] <;> omega
theorem tk_none:tkR ⟨#[97]⟩ (none,12)=((0,12),[]):=by kernel_rfl
theorem retLi_nil {w w':World} {e:Ending} (h:RetLi w [] e w'):(∃ (A:Option Addr) (c:Nat),e = .returned (.slice A 0 c))∧Below w.heap.size w w':=by
 obtain ⟨A,m,c,l',he,hs,ho,hb⟩:=h
 have h1:=ho.1
 rw [itCells_len] at h1
 have h2:l'.length=0:=hs.len
 have h3:m=0:=by omega
 subst h3
 exact ⟨⟨A,c,he⟩,hb⟩
theorem snapshotRefuses_law (nm:ByteArray) (raw:Nat) (w:World) (hs:nm.size≤9223372036854775807) (hraw:raw < 18446744073709551616) (ht:Tab w) (hpy:Pay w) :
  Calls Tryz.prog 10 #[.string nm, .int .u64 (raw:Int)] w fun e w'=>e = .returned (.bool true)∧Below w.heap.size w w':=by
 have HAw:=hid (awake38_any ht hpy)
 have HBg:Hid (∀ W,Below w.heap.size w W→Calls Tryz.prog 33 #[] W fun e w'=>∃ a x y q gr,e = .returned (.tuple #[.pointer (some ⟨y.g,0,none⟩), .pointer (some ⟨gr,0,none⟩)])∧RgW W.heap.size a x y q gr 3000 10 0 [] w'∧Below W.heap.size W w'):=hid (fun W hW=>begin38_w (ht.below hW) (hpy.below hW))
 have HNm:=hid hs
 have HRaw:=hid hraw
 clear ht hpy hs hraw
 go_enter Tryz.func10,Tryz.ntmps10
 go_wp2_with (go_at_call 32;refine HAw.out.mono ?_;rintro e w1 ⟨rfl,hb1⟩;have HB1:=hid hb1;clear hb1;refine stop ?_)
 unfold Stop
 have HBg1:=hid (HBg.out w1 HB1.out)
 go_wp2_with (go_at_call 33;refine HBg1.out.mono ?_;rintro e w2 ⟨a,x,y,q,gr,rfl,hw,hb⟩;have HX:=hid hw.rgX;have HB2:Hid (Below w.heap.size w w2):=hid (HB1.out.trans (hb.mono HB1.out.size));clear hw hb;refine stop ?_)
 unfold Stop
 have HLk:=hid HX.out.linked
 clear HAw HBg HBg1
 go_upto_region 7 with (go_at_call 13;refine HLk.out.mono ?_;rintro e w3 ⟨rfl,hw3⟩;have HB3:Hid (Below w2.heap.size w2 w3):=hid (by rw [hw3];exact (Below.refl _ _).drew);clear hw3)
 obtain ⟨q2,hq2,hq2l⟩:=u64_nat ((q:Int)+4294967296)
 obtain ⟨W4,hW4⟩:∃ W4,w3.alloc (.cells #[.int .u64 0, .int .u64 (raw:Int), .int .u64 (q2:Int)] 27)=W4:=⟨_,rfl⟩
 have hk4:Blk W4 w3.heap.size 27 #[.int .u64 0, .int .u64 (raw:Int), .int .u64 (q2:Int)]:=by rw [← hW4];exact Blk.new _ _ _
 have HB4:Hid (Below w2.heap.size w2 W4):=hid (by rw [← hW4];exact HB3.out.alloc HB3.out.size _)
 have HK4:=hid hk4
 have HW4:=hid hW4
 have HQ:=hid (And.intro HX.out.lt64.1 hq2l)
 have HX4:=hid (HX.out.below HB4.out)
 clear HLk hW4 hk4 hq2l
 go_upto_region 8 with fail
 rw [HW4.out]
 have HI0:Hid (Below W4.heap.size W4 W4):=hid (Below.refl _ _)
 go_loopw [45] (fun vi wr=>∃ k:Nat,k≤3∧vi = .int .i64 (k:Int)∧Hid (Below W4.heap.size W4 wr)) (fun vi _=>3 - (Go.RowKit.intOf vi).toNat)
 case atStart=>exact ⟨0,Nat.zero_le _,rfl,HI0⟩
 case round =>
  clear HI0
  obtain ⟨k,hk,rfl,HI⟩:=hrel
  by_cases hlt:k < 3
  ·obtain ⟨z,hz,hcell⟩:∃ z:Nat,z < 18446744073709551616∧wr.cell? ⟨w3.heap.size,k,none⟩=some (.int .u64 (z:Int)):=by
    have hb:=HK4.out.below HI.out HK4.out.lt
    have hr:=HRaw.out
    have hq:=HQ.out.2
    rcases (show k=0∨k=1∨k=2 by omega) with rfl | rfl | rfl
    ·exact ⟨0,by decide,hb.cell 0⟩
    ·exact ⟨raw,hr,hb.cell 1⟩
    ·exact ⟨q2,hq,hb.cell 2⟩
   obtain ⟨ck,hchk,hopn⟩:=HX4.out.chk_open z hz
   have HCk:=hid (hchk wr HI.out)
   have HOp:=hid (fun (W:World) (hW:Below wr.heap.size wr W) (hc:ck≠0)=>hopn W (HI.out.trans (hW.mono HI.out.size)) hc)
   have g3:=(HX4.out.below HI.out).cells.2.2.2
   have hz5:(0:Int)≤(k:Int):=by omega
   have hz6:(k:Int) < 3:=by omega
   clear hchk hopn hz
   by_cases hc0:ck=0
   ·subst hc0
    clear HOp
    have HCk2:Hid (Calls Tryz.prog 30 #[.pointer (some ⟨y.d,0,none⟩), .int .u64 (z:Int), .int .u8 8] wr fun e w'=>e = .returned (.int .i64 0)∧Below wr.heap.size wr w'):=HCk
    clear HCk
    go_wp2_with (go_at_call 30;refine HCk2.out.mono ?_;rintro e w5 ⟨rfl,hb5⟩;have HB5:=hid (HI.out.trans (hb5.mono HI.out.size));clear hb5)
    go_roundw
    case rel =>
     first
      | exact ⟨k+1,by omega,by go_num,HB5⟩
      | (
        repeat apply Exists.intro
        refine ⟨?_,rfl⟩
        exact ⟨k+1,by omega,by go_num,HB5⟩)
    case measure=>simp [Go.RowKit.intOf];omega
   ·have dc:((ck:Int) != 0)=true:=by rw [bne,beq_eq_false_iff_ne.2 (by omega)];rfl
    have dc2:((ck:Int) != (ck:Int))=false:=by rw [bne,beq_self_eq_true];rfl
    have HOp2:=hid (fun (W:World) (hW:Below wr.heap.size wr W)=>HOp.out W hW hc0)
    have HG3:Hid (∀ W,Below wr.heap.size wr W→W.cell? ⟨y.g,3,none⟩=some (.pointer (some ⟨y.d,0,none⟩))):=hid (fun W hW=>(HX4.out.below (HI.out.trans (hW.mono HI.out.size))).cells.2.2.2)
    clear HOp hc0
    go_upto_region 11 with (go_at_call 30;refine HCk.out.mono ?_;rintro e w5 ⟨rfl,hb5⟩;have HB5:=hid hb5;clear hb5)
    have g4:=HG3.out w5 HB5.out
    clear g3
    go_wp2_with (go_at_call 46;refine (HOp2.out w5 HB5.out).mono ?_;rintro e w6 ⟨rfl,hb6⟩;have HB6:=hid (HI.out.trans ((HB5.out.trans (hb6.mono HB5.out.size)).mono HI.out.size));clear hb6)
    go_roundw
    case rel =>
     first
      | exact ⟨k+1,by omega,by go_num,HB6⟩
      | (
        repeat apply Exists.intro
        refine ⟨?_,rfl⟩
        exact ⟨k+1,by omega,by go_num,HB6⟩)
    case measure=>simp [Go.RowKit.intOf];omega
  ·obtain rfl:k=3:=by omega
   have HX5:=hid (HX4.out.below HI.out)
   have HBz:Hid (Below w.heap.size w wr):=hid (HB2.out.trans ((HB4.out.trans (HI.out.mono HB4.out.size)).mono HB2.out.size))
   obtain ⟨w5,hw5⟩:∃ z,z=wr:=⟨_,rfl⟩
   subst hw5
   have g3:=HX5.out.cells.2.2.2
   have HG3:Hid (∀ W,Below w5.heap.size w5 W→W.cell? ⟨y.g,3,none⟩=some (.pointer (some ⟨y.d,0,none⟩))):=hid (fun W hW=>(HX5.out.below hW).cells.2.2.2)
   have HTn:=hid (takeNil y.d ⟨#[97]⟩ w5)
   have HGn:Hid (Calls Tryz.prog 45 #[.pointer (some ⟨gr,0,none⟩), .nilIface, .string ⟨#[97]⟩] w5 fun e w'=>e = .returned (.tuple #[.int .u64 0, .int .i64 1])∧Below w5.heap.size w5 w'):=hid (get_any (rdNil_s gr w5) (nilOk 1 (by decide)) ⟨#[97]⟩)
   have HNn:Hid (∀ W,Calls Tryz.prog 34 #[.pointer none, .iface 43 (.pointer (some ⟨y.d,0,none⟩))] W fun e w'=>e = .returned (.tuple #[.int .u64 0, .slice none 0 0])∧Below W.heap.size W w'):=hid (fun W=>next_none (rdNil_r y.d W) rfl (nilOk 1 (by decide)))
   clear HI HX4 HK4 HW4 hq2 HQ hk hlt
   go_upto_region 21 with (first
    | (go_at_call 36;refine HTn.out.mono ?_;rintro e w6 ⟨rfl,rfl⟩)
    | (go_at_call 45;refine HGn.out.mono ?_;rintro e w6 ⟨rfl,hb6⟩;have HB6:=hid hb6;clear hb6)
    | (go_at_call 47;refine (createNil _).mono ?_;rintro e w7 ⟨rfl,rfl⟩)
    | (go_at_call 46;refine (openNil q _).mono ?_;rintro e w7 ⟨rfl,rfl⟩))
   have g4:=HG3.out w6 HB6.out
   clear g3
   go_upto_region 22 with (go_at_call 34;refine (HNn.out _).mono ?_;rintro e wn ⟨rfl,hb7⟩;have HBn:Hid (Below w5.heap.size w5 wn):=hid (HB6.out.trans (hb7.mono HB6.out.size));clear hb7)
   clear g4 HTn HGn HNn
   have HXn:=hid (HX5.out.below HBn.out)
   have HG3:Hid (∀ W,Below wn.heap.size wn W→W.cell? ⟨y.g,3,none⟩=some (.pointer (some ⟨y.d,0,none⟩))):=hid (fun W hW=>(HXn.out.below hW).cells.2.2.2)
   have HSn:Hid (∀ W,Below wn.heap.size wn W→Calls Tryz.prog 38 #[.pointer none, .iface 43 (.pointer (some ⟨y.d,0,none⟩))] W fun e w'=>e = .returned (.int .u64 0)∧Below W.heap.size W w'):=hid (fun W _=>stamp_any (rdNil_r y.d W))
   have HOn:Hid (∀ W,Below wn.heap.size wn W→Calls Tryz.prog 41 #[.pointer none, .iface 43 (.pointer (some ⟨y.d,0,none⟩))] W fun e w'=>e = .returned (.int .u64 0)∧Below W.heap.size W w'):=hid (fun W _=>oldest_any (rdNil_r y.d W) (nilOk 1 (by decide)))
   have HLn:Hid (∀ W,Below wn.heap.size wn W→Calls Tryz.prog 42 #[.pointer (some ⟨gr,0,none⟩), .nilIface] W fun e w'=>(∃ (A:Option Addr) (c:Nat),e = .returned (.slice A 0 c))∧Below W.heap.size W w'):=hid (fun W _=>(list_none (fun {_ _ _ _ _ _} h hm=>nmSort_any h hm) (rdNil_s gr W) rfl).mono (fun e w' h=>retLi_nil h))
   have HDn:Hid (∀ W,Below wn.heap.size wn W→Calls Tryz.prog 40 #[.pointer (some ⟨gr,0,none⟩), .nilIface, .string ⟨#[97]⟩] W fun e w'=>e = .returned (.int .i64 1)∧Below W.heap.size W w'):=hid (fun W _=>drop_err (rdNil_s gr W) (nilOk 1 (by decide)) ⟨#[97]⟩ (by decide))
   go_cut [161] from 110 to 161 (fun v wx=>v = .bool false∧Hid (Below wn.heap.size wn wx))
   case first =>
    refine wp_region_scriptH (fun w'=>Below wn.heap.size wn w') 52 [] [(1,0),(1,1),(1,2),(1,3),(1,4),(1,5),(1,6),(1,7),(1,8),(1,9),(1,10),(1,11),(1,12),(1,13),(1,14),(1,15),(1,16),(1,17),(1,18),(1,19),(1,20),(1,21),(1,22),(1,23),(1,24),(1,25),(1,26),(1,27),(1,28),(1,29),(1,31),(1,32),(1,33),(1,34),(1,35),(1,36),(0,30),(0,37),(1,38),(1,39),(1,40),(1,41),(1,42),(0,43),(1,44),(1,45),(1,46),(1,47),(1,48),(0,49),(1,50),(1,51)] (by kernel_rfl) (by kernel_rfl) ((Below.refl _ _).drew) ?_
    refine wpScriptH_take (.int .i64 1) (by rfl) (by rfl) (fun w' hS=>?_) ?_
    ·go_simp
    simp only [zA,zB,Act.put,zD,zE,zF]
    refine wpScriptH_take (.bool false) (by rfl) (by rfl) (fun w' hS=>?_) ?_
    ·go_simp
    simp only [zA,zB,zC,Act.put,zD,zE,zF]
    refine wpScriptH_take (.bool false) (by rfl) (by rfl) (fun w' hS=>?_) ?_
    ·go_simp
    simp only [zA,zB,zC,Act.put,zD,zE,zF]
    refine wpScriptH_take (.int .i64 1) (by rfl) (by rfl) (fun w' hS=>?_) ?_
    ·go_simp
    simp only [zA,zB,zC,Act.put,zD,zE,zF]
    refine wpScriptH_take (.bool false) (by rfl) (by rfl) (fun w' hS=>?_) ?_
    ·go_simp
    simp only [zA,zB,zC,Act.put,zD,zE,zF]
    refine wpScriptH_take (.bool false) (by rfl) (by rfl) (fun w' hS=>?_) ?_
    ·go_simp
    simp only [zA,zB,zC,Act.put,zD,zE,zF]
    refine wpScriptH_take (.bool false) (by rfl) (by rfl) (fun w' hS=>?_) ?_
    ·go_simp
    simp only [zA,zB,zC,Act.put,zD,zE,zF]
    refine wpScriptH_take (.int .i64 1) (by rfl) (by rfl) (fun w' hS=>?_) ?_
    ·go_simp
    simp only [zA,zB,zC,Act.put,zD,zE,zF]
    refine wpScriptH_take (.bool false) (by rfl) (by rfl) (fun w' hS=>?_) ?_
    ·go_simp
    simp only [zA,zB,zC,Act.put,zD,zE,zF]
    refine wpScriptH_take (.bool false) (by rfl) (by rfl) (fun w' hS=>?_) ?_
    ·go_simp
    simp only [zA,zB,zC,Act.put,zD,zE,zF]
    refine wpScriptH_take (.bool false) (by rfl) (by rfl) (fun w' hS=>?_) ?_
    ·go_simp
    simp only [zA,zB,zC,Act.put,zD,zE,zF]
    refine wpScriptH_take (.int .i64 1) (by rfl) (by rfl) (fun w' hS=>?_) ?_
    ·go_simp
    simp only [zA,zB,zC,Act.put,zD,zE,zF]
    refine wpScriptH_take (.bool false) (by rfl) (by rfl) (fun w' hS=>?_) ?_
    ·go_simp
    simp only [zA,zB,zC,Act.put,zD,zE,zF]
    refine wpScriptH_take (.bool false) (by rfl) (by rfl) (fun w' hS=>?_) ?_
    ·go_simp
    simp only [zA,zB,zC,Act.put,zD,zE,zF]
    refine wpScriptH_take (.bool false) (by rfl) (by rfl) (fun w' hS=>?_) ?_
    ·go_simp
    simp only [zA,zB,zC,Act.put,zD,zE,zF]
    refine wpScriptH_take (.int .u64 0) (by rfl) (by rfl) (fun w' hS=>?_) ?_
    ·go_simp
    simp only [zA,zB,zC,Act.put,zD,zE,zF]
    refine wpScriptH_take (.bool false) (by rfl) (by rfl) (fun w' hS=>?_) ?_
    ·go_simp
    simp only [zA,zB,zC,Act.put,zD,zE,zF]
    refine wpScriptH_take (.bool false) (by rfl) (by rfl) (fun w' hS=>?_) ?_
    ·go_simp
    simp only [zA,zB,zC,Act.put,zD,zE,zF]
    refine wpScriptH_take (.bool false) (by rfl) (by rfl) (fun w' hS=>?_) ?_
    ·go_simp
    simp only [zA,zB,zC,Act.put,zD,zE,zF]
    refine wpScriptH_take (.slice none 0 0) (by rfl) (by rfl) (fun w' hS=>?_) ?_
    ·go_simp
    simp only [zA,zB,zC,Act.put,zD,zE,zF]
    refine wpScriptH_take (.int .i64 0) (by rfl) (by rfl) (fun w' hS=>?_) ?_
    ·go_simp
    simp only [zA,zB,zC,Act.put,zD,zE,zF]
    refine wpScriptH_take (.bool false) (by rfl) (by rfl) (fun w' hS=>?_) ?_
    ·go_simp
    simp only [zA,zB,zC,Act.put,zD,zE,zF]
    refine wpScriptH_take (.bool false) (by rfl) (by rfl) (fun w' hS=>?_) ?_
    ·go_simp
    simp only [zA,zB,zC,Act.put,zD,zE,zF]
    refine wpScriptH_take (.bool false) (by rfl) (by rfl) (fun w' hS=>?_) ?_
    ·go_simp
    simp only [zA,zB,zC,Act.put,zD,zE,zF]
    refine wpScriptH_take (.pointer none) (by rfl) (by rfl) (fun w' hS=>?_) ?_
    ·go_simp
    simp only [zA,zB,zC,Act.put,zD,zE,zF]
    refine wpScriptH_take (.pointer (some ⟨y.g,0,none⟩)) (by rfl) (by rfl) (fun w' hS=>?_) ?_
    ·go_simp
    simp only [zA,zB,zC,Act.put,zD,zE,zF]
    refine wpScriptH_take (.pointer (some ⟨y.g,0,none⟩)) (by rfl) (by rfl) (fun w' hS=>?_) ?_
    ·go_simp
    simp only [zA,zB,zC,Act.put,zD,zE,zF]
    refine wpScriptH_take (.pointer (some ⟨y.g,3,none⟩)) (by rfl) (by rfl) (fun w' hS=>?_) ?_
    ·go_simp
    simp only [zA,zB,zC,Act.put,zD,zE,zF]
    refine wpScriptH_take (.pointer (some ⟨y.d,0,none⟩)) (by rfl) (by rfl) (fun w' hS=>?_) ?_
    ·have c:=HG3.out _ hS
     go_simp
    simp only [zA,zB,zC,Act.put,zD,zE,zF]
    refine wpScriptH_take (.iface 43 (.pointer (some ⟨y.d,0,none⟩))) (by rfl) (by rfl) (fun w' hS=>?_) ?_
    ·go_simp
    simp only [zA,zB,zC,Act.put,zD,zE,zF]
    refine wpScriptH_take (.pointer none) (by rfl) (by rfl) (fun w' hS=>?_) ?_
    ·go_simp
    simp only [zA,zB,zC,Act.put,zD,zE,zF]
    refine wpScriptH_take (.pointer (some ⟨y.g,0,none⟩)) (by rfl) (by rfl) (fun w' hS=>?_) ?_
    ·go_simp
    simp only [zA,zB,zC,Act.put,zD,zE,zF]
    refine wpScriptH_take (.pointer (some ⟨y.g,0,none⟩)) (by rfl) (by rfl) (fun w' hS=>?_) ?_
    ·go_simp
    simp only [zA,zB,zC,Act.put,zD,zE,zF]
    refine wpScriptH_take (.pointer (some ⟨y.g,3,none⟩)) (by rfl) (by rfl) (fun w' hS=>?_) ?_
    ·go_simp
    simp only [zA,zB,zC,Act.put,zD,zE,zF]
    refine wpScriptH_take (.pointer (some ⟨y.d,0,none⟩)) (by rfl) (by rfl) (fun w' hS=>?_) ?_
    ·have c:=HG3.out _ hS
     go_simp
    simp only [zA,zB,zC,Act.put,zD,zE,zF]
    refine wpScriptH_take (.iface 43 (.pointer (some ⟨y.d,0,none⟩))) (by rfl) (by rfl) (fun w' hS=>?_) ?_
    ·go_simp
    simp only [zA,zB,zC,Act.put,zD,zE,zF]
    refine wpScriptH_do (by rfl) ?_
    go_wp2_with (go_at_call 38;refine (HSn.out _ ((Below.refl wn.heap.size wn).drew)).mono ?_;rintro e wa ⟨rfl,hbx⟩;have Hwa:Hid (Below wn.heap.size wn wa):=hid (((Below.refl wn.heap.size wn).drew).trans (hbx.mono ((Below.refl wn.heap.size wn).drew).size));clear hbx)
    refine ⟨Hwa.out,?_⟩
    refine wpScriptH_do (by rfl) ?_
    go_wp2_with (go_at_call 41;refine (HOn.out _ Hwa.out).mono ?_;rintro e wb ⟨rfl,hbx⟩;have Hwb:Hid (Below wn.heap.size wn wb):=hid (Hwa.out.trans (hbx.mono Hwa.out.size));clear hbx)
    refine ⟨Hwb.out,?_⟩
    refine wpScriptH_take (.int .u64 0) (by rfl) (by rfl) (fun w' hS=>?_) ?_
    ·skip
     go_simp
     first | rfl | (rw [IntKind.wrap_u64];decide)
    simp only [zA,zB,zC,Act.put,zD,zE,zF]
    refine wpScriptH_take (.bool false) (by rfl) (by rfl) (fun w' hS=>?_) ?_
    ·go_simp
    simp only [zA,zB,zC,Act.put,zD,zE,zF]
    refine wpScriptH_take (.bool false) (by rfl) (by rfl) (fun w' hS=>?_) ?_
    ·go_simp
    simp only [zA,zB,zC,Act.put,zD,zE,zF]
    refine wpScriptH_take (.bool false) (by rfl) (by rfl) (fun w' hS=>?_) ?_
    ·go_simp
    simp only [zA,zB,zC,Act.put,zD,zE,zF]
    refine wpScriptH_take (.pointer (some ⟨gr,0,none⟩)) (by rfl) (by rfl) (fun w' hS=>?_) ?_
    ·go_simp
    simp only [zA,zB,zC,Act.put,zD,zE,zF]
    refine wpScriptH_do (by rfl) ?_
    go_wp2_with (go_at_call 42;refine (HLn.out _ Hwb.out).mono ?_;rintro e wd ⟨⟨Al,cl,rfl⟩,hbx⟩;have Hwd:Hid (Below wn.heap.size wn wd):=hid (Hwb.out.trans (hbx.mono Hwb.out.size));clear hbx)
    refine ⟨Hwd.out,?_⟩
    refine wpScriptH_take (.int .i64 0) (by rfl) (by rfl) (fun w' hS=>?_) ?_
    ·go_simp
    simp only [zA,zB,zC,Act.put,zD,zE,zF]
    refine wpScriptH_take (.bool false) (by rfl) (by rfl) (fun w' hS=>?_) ?_
    ·go_simp
    simp only [zA,zB,zC,Act.put,zD,zE,zF]
    refine wpScriptH_take (.bool false) (by rfl) (by rfl) (fun w' hS=>?_) ?_
    ·go_simp
    simp only [zA,zB,zC,Act.put,zD,zE,zF]
    refine wpScriptH_take (.bool false) (by rfl) (by rfl) (fun w' hS=>?_) ?_
    ·go_simp
    simp only [zA,zB,zC,Act.put,zD,zE,zF]
    refine wpScriptH_take (.pointer (some ⟨gr,0,none⟩)) (by rfl) (by rfl) (fun w' hS=>?_) ?_
    ·go_simp
    simp only [zA,zB,zC,Act.put,zD,zE,zF]
    refine wpScriptH_do (by rfl) ?_
    go_wp2_with (go_at_call 40;refine (HDn.out _ Hwd.out).mono ?_;rintro e we ⟨rfl,hbx⟩;have Hwe:Hid (Below wn.heap.size wn we):=hid (Hwd.out.trans (hbx.mono Hwd.out.size));clear hbx)
    refine ⟨Hwe.out,?_⟩
    refine wpScriptH_take (.bool false) (by rfl) (by rfl) (fun w' hS=>?_) ?_
    ·go_simp
    simp only [zA,zB,zC,Act.put,zD,zE,zF]
    refine wpScriptH_take (.bool false) (by rfl) (by rfl) (fun w' hS=>?_) ?_
    ·go_simp
    simp only [zA,zB,zC,Act.put,zD,zE,zF]
    show wpList _ _ _ _ _ _
    simp only [List.drop_succ_cons,List.drop_zero]
    refine NoPanic.normal ?_
    go_wp2_with fail
    go_meet
    exact ⟨rfl,Hwe⟩
   case rest =>
   obtain ⟨rfl,HBc⟩:=hcut
   clear HSn HOn HLn HDn HG3
   have HX8:=hid (HXn.out.below HBc.out)
   have HB8:Hid (Below w.heap.size w wc):=hid (HBz.out.trans ((HBn.out.trans (HBc.out.mono HBn.out.size)).mono HBz.out.size))
   obtain ⟨w8,hw8⟩:∃ z,z=wc:=⟨_,rfl⟩
   subst hw8
   have g3:=HX8.out.cells.2.2.2
   have HFr:Hid (Calls Tryz.prog 39 #[.pointer (some ⟨y.d,0,none⟩), .slice none 0 0, .slice none 0 0, .slice (some ⟨w8.heap.size,0,none⟩) 1 1] (w8.alloc (.cells #[.int .u64 (q:Int)] 27)) fun e w'=>e = .returned (.int .i64 0)∧RgF w1.heap.size a x y q gr 3800 10 w'∧Below w.heap.size w w'∧w1.heap.size≤w'.heap.size):=hid ((RgX.free (HX8.out.below ((Below.refl _ _).alloc (Nat.le_refl _) _)) (Blk.new _ _ _) (by decide) (by decide)).mono (fun e w' h=>⟨h.1,h.2.1,(HB8.out.alloc HB8.out.size _).trans (h.2.2.mono HB1.out.size),Nat.le_trans HX8.out.rgW.size (Nat.le_trans (by simp) h.2.2.size)⟩))
   clear HBc HXn HX5 HBz HBn
   go_upto_region 26 with (go_at_call 39;refine HFr.out.mono ?_;rintro e wf ⟨rfl,hf,hbf,hwf⟩;have HF:=hid hf;have HBf:=hid hbf;have HWf:=hid hwf;clear hf hbf hwf)
   clear g3 HFr HX8 HB8
   have g3:=HF.out.cells.2.2
   have HGf:Hid (∀ W,Below wf.heap.size wf W→W.cell? ⟨y.g,3,none⟩=some (.pointer (some ⟨y.d,0,none⟩))):=hid (fun W hW=>(HF.out.below hW).cells.2.2)
   have HTf:Hid (∀ W,Below wf.heap.size wf W→Calls Tryz.prog 36 #[.pointer (some ⟨gr,0,none⟩), .iface 43 (.pointer (some ⟨y.d,0,none⟩)), .string ⟨#[97]⟩] W fun e w'=>e = .returned (.tuple #[.int .u64 0, .int .i64 12])∧Below W.heap.size W w'):=hid (fun W hW=>by
    have h:=take_err (HF.out.below hW).rd (nilOk 12 (by decide)) ⟨#[97]⟩ (by decide) (by rw [tk_none];decide)
    rw [tk_none] at h
    exact h)
   have HGt:Hid (∀ W,Below wf.heap.size wf W→Calls Tryz.prog 45 #[.pointer (some ⟨gr,0,none⟩), .iface 43 (.pointer (some ⟨y.d,0,none⟩)), .string ⟨#[97]⟩] W fun e w'=>e = .returned (.tuple #[.int .u64 0, .int .i64 12])∧Below W.heap.size W w'):=hid (fun W hW=>get_any (HF.out.below hW).rd (nilOk 12 (by decide)) ⟨#[97]⟩)
   have HDf:Hid (∀ W,Below wf.heap.size wf W→Calls Tryz.prog 40 #[.pointer (some ⟨gr,0,none⟩), .iface 43 (.pointer (some ⟨y.d,0,none⟩)), .string ⟨#[97]⟩] W fun e w'=>e = .returned (.int .i64 12)∧Below W.heap.size W w'):=hid (fun W hW=>drop_err (HF.out.below hW).rd (nilOk 12 (by decide)) ⟨#[97]⟩ (by decide))
   have HLf:Hid (∀ W,Below wf.heap.size wf W→Calls Tryz.prog 42 #[.pointer (some ⟨gr,0,none⟩), .iface 43 (.pointer (some ⟨y.d,0,none⟩))] W fun e w'=>(∃ (A:Option Addr) (c:Nat),e = .returned (.slice A 0 c))∧Below W.heap.size W w'):=hid (fun W hW=>(list_none (fun {_ _ _ _ _ _} h hm=>nmSort_any h hm) (HF.out.below hW).rd rfl).mono (fun e w' h=>retLi_nil h))
   have HSf:Hid (∀ W,Below wf.heap.size wf W→Calls Tryz.prog 38 #[.pointer (some ⟨gr,0,none⟩), .iface 43 (.pointer (some ⟨y.d,0,none⟩))] W fun e w'=>e = .returned (.int .u64 0)∧Below W.heap.size W w'):=hid (fun W hW=>stamp_any (HF.out.below hW).rd)
   go_upto_region 28 with (go_at_call 36;refine (HTf.out wf (Below.refl _ _)).mono ?_;rintro e wt ⟨rfl,hbx⟩;have Hwt:=hid hbx;clear hbx)
   have g4:=HGf.out wt Hwt.out
   clear g3
   go_upto_region 29 with (go_at_call 45;refine (HGt.out wt Hwt.out).mono ?_;rintro e wg ⟨rfl,hbx⟩;have Hwg:Hid (Below wf.heap.size wf wg):=hid (Hwt.out.trans (hbx.mono Hwt.out.size));clear hbx)
   have g3:=HGf.out wg Hwg.out
   clear g4
   go_upto_region 31 with (first
    | (go_at_call 40;refine (HDf.out wg Hwg.out).mono ?_;rintro e wd ⟨rfl,hbx⟩;have Hwd:Hid (Below wf.heap.size wf wd):=hid (Hwg.out.trans (hbx.mono Hwg.out.size));clear hbx;have g5:=HGf.out wd Hwd.out)
    | (go_at_call 42;refine (HLf.out wd Hwd.out).mono ?_;rintro e wl ⟨⟨Al,cl,rfl⟩,hbx⟩;have Hwl:Hid (Below wf.heap.size wf wl):=hid (Hwd.out.trans (hbx.mono Hwd.out.size));clear hbx;have g6:=HGf.out wl Hwl.out)
    | (go_at_call 38;refine (HSf.out wl Hwl.out).mono ?_;rintro e ws ⟨rfl,hbx⟩;have Hws:Hid (Below wf.heap.size wf ws):=hid (Hwl.out.trans (hbx.mono Hwl.out.size));clear hbx))
   have HFs:=hid (HF.out.below Hws.out)
   have hBs:w1.heap.size≤ws.heap.size:=Nat.le_trans HWf.out Hws.out.size
   have HAr:=hid (HFs.out.arm hBs)
   have c0:=HFs.out.cells.1
   have HBs:Hid (Below w.heap.size w ws):=hid (HBf.out.trans (Hws.out.mono HBf.out.size))
   clear g3 g5 g6 HTf HGt HDf HLf HSf HGf Hwt Hwg Hwd Hwl
   go_upto_region 32 with (go_at_call 48;refine HAr.out.mono ?_;rintro e wA ⟨rfl,hpa,hba⟩;have HPa:=hid hpa;have HBa:Hid (Below w.heap.size w wA):=hid (HBs.out.trans (hba.mono HB1.out.size));clear hpa hba)
   clear c0 HAr
   have c1:=HPa.out.g1
   have HFe:=hid HPa.out.fence
   go_upto_region 34 with (go_at_call 49;refine HFe.out.mono ?_;rintro e wO ⟨rfl,hpo,hbo⟩;have HPo:=hid hpo;have HBo:Hid (Below w.heap.size w wO):=hid (HBa.out.trans (hbo.mono HB1.out.size));clear hpo hbo)
   clear c1 HFe
   have g3:=HPo.out.g3
   have HRn:=hid (refName_any nm HNm.out wO)
   have HTo:Hid (Calls Tryz.prog 36 #[.pointer (some ⟨gr,0,none⟩), .iface 43 (.pointer (some ⟨y.d,0,none⟩)), .string nm] wO fun e w'=>e = .returned (.tuple #[.int .u64 0, .int .i64 ((tkR nm (none,3)).1.2:Int)])∧Below wO.heap.size wO w'):=hid (take_err HPo.out.rd (nilOk 3 (by decide)) nm HNm.out (by
    have e:tkR nm (none,3)=if nmOk nm=false then ((0,15),[]) else ((0,3),[]):=rfl
    rw [e]
    split
    ·exact (by decide:(15:Nat)≠0)
    ·exact (by decide:(3:Nat)≠0)))
   have HDo:Hid (∀ W,Below wO.heap.size wO W→Calls Tryz.prog 40 #[.pointer (some ⟨gr,0,none⟩), .iface 43 (.pointer (some ⟨y.d,0,none⟩)), .string nm] W fun e w'=>e = .returned (.int .i64 3)∧Below W.heap.size W w'):=hid (fun W hW=>drop_err (HPo.out.below hW).rd (nilOk 3 (by decide)) nm (by show (3:Nat)≠0;decide))
   have HG4:Hid (∀ W,Below wO.heap.size wO W→W.cell? ⟨y.g,3,none⟩=some (.pointer (some ⟨y.d,0,none⟩))):=hid (fun W hW=>(HPo.out.below hW).g3)
   have HTk:Hid (tkR nm (none,3)=if nmOk nm=false then ((0,15),[]) else ((0,3),[])):=hid rfl
   cases hn:nmOk nm with
   | false =>
    rw [hn] at HRn
    rw [HTk.out,if_pos hn] at HTo
    have HTo2:Hid (Calls Tryz.prog 36 #[.pointer (some ⟨gr,0,none⟩), .iface 43 (.pointer (some ⟨y.d,0,none⟩)), .string nm] wO fun e w'=>e = .returned (.tuple #[.int .u64 0, .int .i64 15])∧Below wO.heap.size wO w'):=HTo
    clear HTo HTk hn
    go_wp2_with (first
     | (go_at_call 50;refine HRn.out.mono ?_;rintro e wN ⟨rfl,rfl⟩)
     | (go_at_call 36;refine HTo2.out.mono ?_;rintro e wT ⟨rfl,hbx⟩;have HwT:=hid hbx;clear hbx;have g4:=HG4.out wT HwT.out)
     | (go_at_call 40;refine (HDo.out wT HwT.out).mono ?_;rintro e wE ⟨rfl,hbx⟩;have HwE:=hid hbx;clear hbx))
    go_ret
    exact ⟨rfl,HBo.out.trans ((HwT.out.trans (HwE.out.mono HwT.out.size)).mono HBo.out.size)⟩
   | true =>
    rw [hn] at HRn
    rw [HTk.out,if_neg (by rw [hn];decide)] at HTo
    have HTo2:Hid (Calls Tryz.prog 36 #[.pointer (some ⟨gr,0,none⟩), .iface 43 (.pointer (some ⟨y.d,0,none⟩)), .string nm] wO fun e w'=>e = .returned (.tuple #[.int .u64 0, .int .i64 3])∧Below wO.heap.size wO w'):=HTo
    clear HTo HTk hn
    go_wp2_with (first
     | (go_at_call 50;refine HRn.out.mono ?_;rintro e wN ⟨rfl,rfl⟩)
     | (go_at_call 36;refine HTo2.out.mono ?_;rintro e wT ⟨rfl,hbx⟩;have HwT:=hid hbx;clear hbx;have g4:=HG4.out wT HwT.out)
     | (go_at_call 40;refine (HDo.out wT HwT.out).mono ?_;rintro e wE ⟨rfl,hbx⟩;have HwE:=hid hbx;clear hbx))
    go_ret
    exact ⟨rfl,HBo.out.trans ((HwT.out.trans (HwE.out.mono HwT.out.size)).mono HBo.out.size)⟩
end
end Go.Proofs.YtnlokpakiambaaaGreatDoor
