/- The walks and laws that the claim leans on. -/
import Derived.Test.YtnlokpakiambaaaGreatDoorJbn
import Derived.WalkSpells
import Derived.WalkLawsBesides
import Derived.Deep.AppendLies
import Derived.Deep.OwnRows
import Derived.Lib.Hide
import Derived.Test.YtnlokpakiambaaaGreatDoorCards
import Derived.Test.YtnlokpakiambaaaGreatDoorTie
import Derived.StillTail
import Derived.Deep.RegionHeld3
import Derived.Deep.CutBlock
import Derived.Lib.ItoaNum
import Derived.Lib.AppendZeros
import Derived.ProofKit
import Derived.OpenShut
import Derived.Deep.DeepHandedRow
import Derived.Lib.LaidTab
import Derived.Lib.BufferMore
import Derived.Lib.Zigzag
import Derived.Shelf.SlMaps.Clone
import Derived.Shelf.SlIter.Sorted
import Derived.Lib.QuoteBits
import Derived.Lib.SlKeysI
import Derived.Deep.Onto
import Derived.Laws.CopyOwn
import Derived.Lib.BytesEntry
import Derived.Lib.SlBytesConst
import Derived.Lib.ConvBytes
import Derived.Shelf.SlSortCmp.NoneTotal
import Derived.Deep.Fields
set_option maxRecDepth 100000
set_option maxHeartbeats 16000000
namespace Go.Proofs.YtnlokpakiambaaaGreatDoor
open Go.Lib (hid)
section
open Go.RowKit Go.WideShapes Go.ChangeShapes
theorem add_of_add (a:Addr) (i j:Nat):(a.add i).add j=a.add (i+j):=by
 unfold Addr.add
 by_cases hi:i=0 <;> by_cases hj:j=0 <;> simp [hi,hj,Nat.add_assoc]
section
variable {w w':World} {B B' size n:Nat} {A:Option Addr} {xs:List Value}
theorem Reads.none_:Reads w B size A 0 []:=⟨by simp,fun h=>absurd h (by omega)⟩
theorem Reads.cut (h:Reads w B size A n xs) {k cap:Nat} (hk:k≤n) (hc:n≤cap) :
  Reads w B size (if cap=k then A else A.map (·.add (k * size))) (n - k) (xs.drop (k * size)):=by
 refine ⟨by rw [List.length_drop,h.1,Nat.sub_mul],fun hn=>?_⟩
 obtain ⟨ad,rfl,hb,hcell⟩:=h.2 (by omega)
 rw [if_neg (by omega)]
 refine ⟨ad.add (k * size),rfl,by rw [block_of_add];exact hb,fun j u hu=>?_⟩
 rw [add_of_add]
 exact hcell _ u (by rw [← hu,List.getElem?_drop])
end
section
variable {w w':World} {g:Nat} {t:TypeId} {cs:Array Value}
end
section
variable {P:Program} (w:World)
end
section
variable {H:Type} {enc:TypeId × Value→H} {P:Program}
end
end
section
open Go.ChangeShapes Go.WideShapes Go.ChangeAt Go.RowKit
theorem ownK:ownKnob Tryz.prog.godebug=none:=by kernel_rfl
theorem laidOut:laidOutB Tryz.prog=true:=by kernel_rfl
theorem gTab : Tryz.prog.globalNamed "bedrock/crc.nibbles" = some 2 := by kernel_rfl
theorem gTabType:(Tryz.prog.globals[2]?).map (·.type)=some 344:=by kernel_rfl
theorem cellsTab:Tryz.prog.cellsOf 344=16:=by kernel_rfl
theorem cellsU32:Tryz.prog.cellsOf 208=1:=by kernel_rfl
def laidList : List (String × DataW Unit) := [("bedrock/crc.nibbles", Rows.laid_bedrock_crc_nibbles), ("bedrock/sizeclass.payload", Rows.laid_bedrock_sizeclass_payload)]
theorem table {W:World} (h:laidMetH Tryz.prog laidList W):Tab W:=by
 have ht : Lib.TabIs Tryz.prog W "bedrock/crc.nibbles" .u32 (Crc.nib.map fun (n : Nat) => (n : Int)) :=
  Lib.tabIs_of_head (rest := [("bedrock/sizeclass.payload", Rows.laid_bedrock_sizeclass_payload)]) gTab gTabType Tryz.underlying344 Tryz.underlying208 cellsU32 cellsTab h
 intro i hi
 have:=ht.cell gTab i (by simpa [Crc.nib] using hi)
 rw [this]
 have hl:i < Crc.nib.length:=by simpa [Crc.nib] using hi
 simp [List.getD,hl]
def nibObj:Obj→Obj
 | .cells _ t frozen => .cells (Crc.nib.map fun (n:Nat)=>Value.int .u32 (n:Int)).toArray t frozen
 | o=>o
def payObj:Obj→Obj
 | .cells _ t frozen => .cells #[.int .i64 3, .int .i64 7, .int .i64 15, .int .i64 31, .int .i64 60] t frozen
 | o=>o
noncomputable def laidWorld (os:Os):World :=
 { World.holding Tryz.prog os ⟨#[],#[],[]⟩ with heap:=((World.holding Tryz.prog os ⟨#[],#[],[]⟩).heap.modify 2 nibObj).modify 0 payObj }
section
variable {H:Type} {enc:TypeId × Value→H} {W:World} {b0 base:Nat} {sp:Nat→Bool} {held:Bool} {v:Value} {d:DataW H} {p:List MemPlace} {r:Reach}
theorem u8_of (hv:Value.okWide Tryz.prog W r b0 5 v) (h:DataW.Trod enc Tryz.prog W base sp held 5 v d p):∃ n:Nat,v = .int .u8 (n:Int)∧n < 256:=by
 obtain ⟨n,hs,_,_,hw⟩:=open_int Tryz.underlying5 hv h
 have hb:0≤n∧n < 256:=by
  have hm:IntKind.u8.min=0:=by decide
  have hx:IntKind.u8.max=255:=by decide
  simp only [Lit.wf,hm,hx,Bool.and_eq_true,decide_eq_true_eq] at hw
  omega
 exact ⟨n.toNat,by rw [Int.toNat_of_nonneg hb.1];exact hs,by omega⟩
theorem u64_of (hv:Value.okWide Tryz.prog W r b0 23 v) (h:DataW.Trod enc Tryz.prog W base sp held 23 v d p):∃ n:Nat,v = .int .u64 (n:Int)∧n < 18446744073709551616:=by
 obtain ⟨n,hs,_,_,hw⟩:=open_int Tryz.underlying23 hv h
 have hb:0≤n∧n < 18446744073709551616:=by
  have hm:IntKind.u64.min=0:=by decide
  have hx:IntKind.u64.max=18446744073709551615:=by decide
  simp only [Lit.wf,hm,hx,Bool.and_eq_true,decide_eq_true_eq] at hw
  omega
 exact ⟨n.toNat,by rw [Int.toNat_of_nonneg hb.1];exact hs,by omega⟩
end
end
section
open Go.RowKit Go.Maps
section
variable {a:DA} {L T s n K:Nat} {x:HA} {cs:Nat→CS} {f:Nat→Option Nat} {N m b0:Nat} {S:Fp} {cur:Nat→Nat} {w w':World}
theorem hWords_any (h:DS a L T s n K x cs f N m b0 S cur w) {k i:Nat} (hk:k < K) (hd:(cs k).dv=true) (hi:i < perC (cs k).cl) (p:Nat) (hpo:pOff p=offO s cs k i) (hp0:p≠0) (hp64:p < 18446744073709551616) (hc:f (pOff p)=some p∨chkR s K cs p 0=0) :
  Calls Tryz.prog 44 #[.pointer (some ⟨x.h,0,none⟩), .int .u64 (p:Int)] w fun e w'=>e = .returned (.tuple #[.int .i64 (payW (cs k).cl:Int), .int .i64 0])∧Below w.heap.size w w':=by
 have HD:=hid h
 have hC:=h.chw hk hd
 have HNil:=hid (nil_any p w)
 rw [decide_eq_false hp0] at HNil
 have HEr:Hid (∀ W,Below w.heap.size w W→Calls Tryz.prog 27 #[.pointer (some ⟨a.th 0,0,none⟩)] W fun e w'=>e = .returned (.int .i64 0)∧W=w'):=hid (fun W hW=>thErr (h.dev.below hW))
 have HHo:=hid (holds_any h.hs p)
 have HCh:Hid (f (pOff p)≠some p→∀ W,Below w.heap.size w W→Calls Tryz.prog 75 #[.pointer (some ⟨x.h,0,none⟩), .int .u64 (p:Int), .int .u8 0] W fun e w'=>e = .returned (.int .i64 0)∧Below W.heap.size W w'):=hid (fun hn W hW=>by
  have h1:=check_any (h.below hW) p 0 hp64 (by omega)
  rw [hc.resolve_left hn] at h1
  exact h1)
 have HPl:Hid (∀ W,Below w.heap.size w W→Calls Tryz.prog 94 #[.pointer (some ⟨x.h,0,none⟩), .int .u64 (p:Int)] W fun e w'=>e = .returned (.tuple #[.int .i64 ((s+32 * k:Nat):Int), .int .i64 (i:Int), .int .i64 ((cs k).cl:Int)])∧Below W.heap.size W w'):=hid (fun W hW=>hPlace_any (h.below hW) hk hd hi p hpo)
 have HWo:Hid (∀ W,Below w.heap.size w W→Calls Tryz.prog 95 #[.int .i64 ((cs k).cl:Int)] W fun e w'=>e = .returned (.int .i64 (payW (cs k).cl:Int))∧W=w'):=hid (fun W hW=>szWords_any _ hC.cls W (h.pay.below hW))
 have hm:=methErr (some ⟨a.th 0,0,none⟩)
 have HH:Hid (∀ W,Below w.heap.size w W→W.cell? ⟨x.h,0,none⟩=some (.iface 41 (.pointer (some ⟨a.th 0,0,none⟩)))):=hid (fun W hW=>(h.hs.heap.below hW h.hs.heap.lt).cell 0)
 have hx0:=HH.out w (Below.refl _ _)
 have HB0:Hid (Below w.heap.size w w):=Below.refl _ _
 clear h hC hpo hc hi hd
 generalize ((s+32 * k:Nat):Int)=v at *
 generalize (cs k).cl=cl at *
 generalize payW cl=r at *
 go_enter Tryz.func44,Tryz.ntmps44
 go_wp2_with (first
  | (go_at_call 67;refine HNil.out.mono ?_;rintro e w1 ⟨rfl,rfl⟩)
  | (go_at_call 27;refine (HEr.out _ HB0.out).mono ?_;rintro e w1 ⟨rfl,rfl⟩)
  | (go_at_call 93;refine HHo.out.mono ?_;rintro e w1 ⟨rfl,hb1⟩;refine stop ?_))
 unfold Stop
 have HB1:=hid hb1
 clear hb1 HNil HHo hx0
 by_cases hf:f (pOff p)=some p
 ·rw [decide_eq_true hf]
  clear HCh hf
  go_wp2_with (go_at_call 94;refine (HPl.out _ HB1.out).mono ?_;rintro e w2 ⟨rfl,hb2⟩;refine stop ?_)
  unfold Stop
  have HB2:=hid (HB1.out.trans (hb2.mono HB1.out.size))
  have hx2:=HH.out w2 HB2.out
  clear hb2
  go_wp2_with (first
   | (go_at_call 27;refine (HEr.out _ HB2.out).mono ?_;rintro e w1 ⟨rfl,rfl⟩)
   | (go_at_call 95;refine (HWo.out _ HB2.out).mono ?_;rintro e w1 ⟨rfl,rfl⟩))
  go_ret2
  exact ⟨rfl,HB2.out⟩
 ·rw [decide_eq_false hf]
  have HC1:=hid (HCh.out hf _ HB1.out)
  clear HCh hf
  go_wp2_with (go_at_call 75;refine HC1.out.mono ?_;rintro e w2 ⟨rfl,hb2⟩;refine stop ?_)
  unfold Stop
  have HB2:=hid (HB1.out.trans (hb2.mono HB1.out.size))
  clear hb2 HC1
  go_wp2_with (go_at_call 94;refine (HPl.out _ HB2.out).mono ?_;rintro e w3 ⟨rfl,hb3⟩;refine stop ?_)
  unfold Stop
  have HB3:=hid (HB2.out.trans (hb3.mono HB2.out.size))
  have hx2:=HH.out w3 HB3.out
  clear hb3
  go_wp2_with (first
   | (go_at_call 27;refine (HEr.out _ HB3.out).mono ?_;rintro e w1 ⟨rfl,rfl⟩)
   | (go_at_call 95;refine (HWo.out _ HB3.out).mono ?_;rintro e w1 ⟨rfl,rfl⟩))
  go_ret2
  exact ⟨rfl,HB3.out⟩
end
end
section
open Go.RowKit Go.Maps
section
variable {s K:Nat} {cs:Nat→CS} {f:Nat→Option Nat}
end
section
variable {s K:Nat} {cs:Nat→CS} {f:Nat→Option Nat} {keep free ks:List Nat} {V:Nat→Nat}
theorem dl_mem {q k i:Nat} (h:At s K cs q k i) (hq:q∈free):i∈dlOf s cs free k:=by
 obtain ⟨e1,e2⟩:=kOf_blk h.2.2.1 h.2.2.2
 unfold dlOf
 exact List.mem_map.2 ⟨q,List.mem_filter.2 ⟨hq,by rw [beq_iff_eq];exact e1⟩,e2⟩
end
end
section
open Go.RowKit Go.Maps
section
variable {P:Program} (w:World)
theorem wpList_app3 {ops:Array Oper} {rest:List Oper} {o:Oper} {a:Act} {Q:Exit→Act→World→Prop} (s x:Operand) (t:TypeId)
  (hw:Region.wanted o (yielded ops a.tmps)=true)
  (ho:o.op = .call { callee := .builtin .append,args:=#[s,x],argTypes:=#[t,t] })
  (base:Nat) (e:TypeId) (i:TypeInfo) (z:Value) (size bytes:Nat) (ht:P.underlying t=some (.slice e)) (hi:P.info? e=some i) (hz:i.zero=some z)
  (hsize:i.size=size) (hby:i.bytes=bytes) (hzs:z.cells.size=size) (hsz:0 < size)
  (v:Value) (n:Nat) (xs:List Value) (hs:a.eval s=v) (hown:w.ownsRow base e size v n xs)
  (B:Nat) (A:Option Addr) (m c:Nat) (news:List Value) (hx:a.eval x = .slice A m c) (hr:Reads w B size A m news) (h1:∀ u∈news,u.oneCell'=true)
  (h63:n+m≤maxLen) (hbytes:(n+m) * bytes≤140737488355328) (hbase:base≤w.heap.size)
  (h:∀ A' n' c' w',n'=n+m→w'.ownsRow base e size (.slice A' n' c') n' (xs++news)→w.grownBy w' v.ownBlock→((Value.slice A' n' c').ownBlock=v.ownBlock∨(Value.slice A' n' c').ownBlock=some w.heap.size)→wpList P ops Q rest (a.put o.dst (.slice A' n' c')) w'):wpList P ops Q (o :: rest) a w:=by
 refine Go.BigFrame.wpList_want hw fun K hK=>?_
 refine wp_append_any w s x t ho base e i z size bytes ht hi hz hsize hby hzs hsz v n xs hs hown B A m c news hx hr h1 h63 hbytes hbase fun v' w' h2 h3 h4=>?_
 obtain ⟨A',c',rfl⟩:=own_slice h2
 exact hK _ _ (h A' _ c' w' rfl h2 h3 h4)
end
section
variable {a:DA} {L T s n K:Nat} {x:HA} {cs:Nat→CS} {f:Nat→Option Nat} {N m b0:Nat} {S:Fp} {cur:Nat→Nat} {w w':World} {d r:Nat}
theorem SD.chg {Z:Fp} {B:Nat} (h:SD a L T s n K x cs f N m b0 S cur w d r) (hl:LoS x d r b0 B) (hc:Chg Z w w') (hZ:∀ k,Z k→¬ S k∧B≤k):SD a L T s n K x cs f N m b0 S cur w' d r:=by
 have hn:∀ g,g < B→¬ Z g:=fun g hg hz=>by have:=(hZ g hz).2;omega
 obtain ⟨l1,l2,l3,l4,l5,l6,l7,l8⟩:=h.ds.lo
 refine { h with ds:={ h.ds with dev:=h.ds.dev.chg hc (fun j hj hz=>(hZ j hz).1 hj),hs:=h.ds.hs.chg hc (hn _ hl.h) (hn _ hl.gs) (hn _ hl.pl) (hn _ hl.mr) (hn _ hl.mh),tab:=h.ds.tab.chg hc (hn _ (by have:=hl.b;omega)),pay:=fun i hi=>?_ },dir:=hc.blk h.dir (hn _ hl.d),log:=hc.blk h.log (hn _ hl.r) }
 exact (World.cell?_of_block (w:=w) (hc.block _ h.ds.pay.size (hn _ (by have:=hl.b;show 0 < B;omega)))).trans (h.ds.pay i hi)
end
end
section
open Go.ChangeShapes Go.WideShapes Go.ChangeAt Go.RowKit
theorem gPay : Tryz.prog.globalNamed "bedrock/sizeclass.payload" = some 0 := by kernel_rfl
theorem gPayType:(Tryz.prog.globals[0]?).map (·.type)=some 252:=by kernel_rfl
theorem cellsPay:Tryz.prog.cellsOf 252=5:=by kernel_rfl
theorem cellsI64:Tryz.prog.cellsOf 3=1:=by kernel_rfl
theorem payIs {W:World} (h:laidMetH Tryz.prog laidList W):Pay W:=by
 have h2 : laidMetH Tryz.prog [("bedrock/sizeclass.payload", Rows.laid_bedrock_sizeclass_payload)] W := laidMetH.filter (fun x => x.1 == "bedrock/sizeclass.payload") h
 have ht : Lib.TabIs Tryz.prog W "bedrock/sizeclass.payload" .i64 [3, 7, 15, 31, 60] :=
  Lib.tabIs_of_head (rest:=[]) gPay gPayType Tryz.underlying252 Tryz.underlying3 cellsI64 cellsPay h2
 intro i hi
 have hc:=ht.cell gPay i hi
 rw [hc]
 have:i=0∨i=1∨i=2∨i=3∨i=4:=by omega
 rcases this with rfl | rfl | rfl | rfl | rfl <;> rfl
end
section
open Go.RowKit Go.Maps
section
variable {R:Option (Nat × List (List Nat × Nat)) × Nat} {rv sv:Value} {w:World}
theorem next_none (h:RdC rv sv w R) (hn:R.1=none) (hok:RgOk R):Calls Tryz.prog 34 #[rv,sv] w (RetNx w (0,[])):=by
 have H:=hid h
 clear h
 obtain ⟨R1,c⟩:=R
 have hn':R1=none:=hn
 subst hn'
 have H2:Hid (Calls Tryz.prog 77 #[rv,sv] w fun e w'=>e = .returned (.tuple #[.int .u64 0, .slice none 0 0, .int .i64 (c:Int)])∧Below w.heap.size w w'):=H
 have hc:c≠0:=hok.none_ rfl
 have d0:((c:Int) != 0)=true:=by rw [bne,beq_eq_false_iff_ne.2 (by omega)];rfl
 clear H hok hn hc
 go_enter Tryz.func34,Tryz.ntmps34
 go_wp2_with (go_at_call 77;refine H2.out.mono ?_;rintro e w1 ⟨rfl,hb1⟩;have HB1:=hid hb1;clear hb1)
 go_ret2
 exact ⟨rfl,HB1.out⟩
end
end
section
open Go.RowKit Go.Maps
section
variable {a:DA} {L T n K:Nat} {x:HA} {cs:Nat→CS} {f:Nat→Option Nat} {N m b0:Nat} {S:Fp} {cur:Nat→Nat} {w:World} {ks free:List Nat} {V:Nat→Nat} {cm:Nat}
theorem LiveA.freeOk {q kind k i:Nat} (h:LiveA 53 K cs q kind k i):FreeOk 53 K cs q :=
 ⟨⟨k,i,h.at_.1,h.at_.2.1,h.at_.2.2.1,h.at_.2.2.2,by rw [h.bk]⟩,(Live.chk ⟨k,i,h⟩).2,h.nz,h.lt⟩
end
end
section
open Go.RowKit Go.Maps Go.Shelf Go.Sort
theorem cb_eq:∀ a b:List UInt8,Lib.compareBytes a b=0→a=b
 | [],[],_=>rfl
 | [],_ :: _,h=>absurd h (by rw [cb_nil_cons];decide)
 | _ :: _,[],h=>absurd h (by rw [cb_cons_nil];decide)
 | x :: a,y :: b,h=>by
  rw [cb_cons] at h
  split at h
  ·omega
  ·split at h
   ·omega
   ·have e:x=y:=UInt8.toNat_inj.1 (by omega)
    rw [e,cb_eq a b h]
end
section
open Go.RowKit Go.Maps
section
variable {R:Option (Nat × List (List Nat × Nat)) × Nat} {rv sv:Value} {w:World}
theorem list_none (hs:SrtNm) (h:RdC rv sv w R) (hn:R.1=none):Calls Tryz.prog 42 #[rv,sv] w (RetLi w []):=by
 have H:=hid h
 clear h
 obtain ⟨R1,c⟩:=R
 have hn':R1=none:=hn
 subst hn'
 have H2:Hid (Calls Tryz.prog 77 #[rv,sv] w fun e w'=>e = .returned (.tuple #[.int .u64 0, .slice none 0 0, .int .i64 (c:Int)])∧Below w.heap.size w w'):=H
 have HS:=hid (fun (w1:World)=>hs (w:=w1) (base:=w.heap.size) (l:=[]) (World.ownsRow_nil _ _ _ _) (Nat.zero_le _))
 clear H hn
 go_enter Tryz.func42,Tryz.ntmps42
 go_upto_region 4 with (go_at_call 77;refine H2.out.mono ?_;rintro e w1 ⟨rfl,hb1⟩;have HB1:=hid hb1;clear hb1)
 refine wp_loop_rounds 1 ?_
 rw [rounds_succ]
 go_wp2_with (go_at_call 89;refine (HS.out w1).mono ?_;rintro e w2 ⟨rfl,l',hs2,ho2,hb2⟩;have HS2:=hid hs2;have HO2:=hid ho2;have HB2:=hid (HB1.out.trans hb2);clear hs2 ho2 hb2)
 go_ret
 exact ⟨_,_,_,l',rfl,HS2.out,HO2.out,HB2.out⟩
end
end
section
open Go.RowKit Go.Maps
section
variable {a:DA} {L T K:Nat} {x:HA} {y:WA} {cs:Nat→CS} {f:Nat→Option Nat} {N m b0:Nat} {S:Fp} {cur:Nat→Nat} {w w':World}
def RetSti (a:DA) (L T K:Nat) (x:HA) (y:WA) (cs:Nat→CS) (f:Nat→Option Nat) (N m b0:Nat) (S:Fp) (cur:Nat→Nat) (w:World) (o v:Nat) (e:Ending) (w':World):Prop :=
 e = .returned (.tuple #[])∧∃ S',BW a L (T+1) K x y cs f N m b0 S' (wrS cur [(o,v)]) w'∧Chg S w w'∧Grew S S' w
theorem BW.storeW (h:BW a L T K x y cs f N m b0 S cur w) {q k i:Nat} (hq:At 53 K cs q k i) {j v:Nat} (hj:j < payW (cs k).cl) (hv:v < 18446744073709551616) (hT:T < 1000000000) :
  Calls Tryz.prog 23 #[.pointer (some ⟨a.th 0,0,none⟩), .int .u64 ((pOff q+8 * j:Nat):Int), .int .u64 (v:Int)] w (RetSti a L T K x y cs f N m b0 S cur w (pOff q+8 * j) v):=by
 obtain ⟨h1,h2⟩:=hq.inL h.sd.ds
 have hl:=hq.lines.1
 refine (store_dev h.sd.ds.dev (pOff q+8 * j) v (by omega) (by omega) hT).mono ?_
 rintro e w' ⟨rfl,S',hd,hc,hg⟩
 refine ⟨rfl,S',?_,hc,hg⟩
 have he:∀ z,(∀ j,j < payW (cs k).cl→z≠8 * (53+32 * k)+offB (cs k).cl i+1+j)→wrS cur [(pOff q+8 * j,v)] z=cur z:=fun z hz=>wrS_other _ _ _ (fun e he=>by
  simp at he
  subst he
  show (pOff q+8 * j) / 8≠z
  have:=hz j hj
  omega)
 have hds:=h.sd.ds.dev_ (cur':=wrS cur [(pOff q+8 * j,v)]) hd hc hg (h.sd.ds.ok_pay hq.1 hq.2.1 rfl hq.2.2.1 (fun e he=>by
  simp at he
  subst he
  exact ⟨j,hj,by show pOff q+8 * j=_;rw [hq.2.2.2];rfl⟩)) (wrS_bnd _ _ h.sd.ds.bnd (fun e he=>by
  simp at he
  subst he
  exact hv))
 have hc2:Chg (sfp S x) w w':=hc.mono (fun _ h => .inl h)
 have hsd:=h.sd.keep hds hc2 hg (by rw [he _ (fun j _=>by omega)];exact h.sd.idle)
 exact h.keep hsd hc2 hg (by rw [he _ (fun j _=>by omega)];exact h.uid)
end
end
section
open Go.RowKit Go.Maps
theorem linked_any {a:DA} {L T K:Nat} {x:HA} {y:WA} {cs:Nat→CS} {f:Nat→Option Nat} {N m b0:Nat} {S:Fp} {cur:Nat→Nat} {w:World} (h:BW a L T K x y cs f N m b0 S cur w) (i:Nat) (hi:i < 8) :
  Calls Tryz.prog 13 #[.pointer (some ⟨y.g,0,none⟩), .int .i64 (i:Int)] w fun e w'=>e = .returned (.int .u64 (cur (416+i):Int))∧w'=w.drew:=by
 have HLk:=hid (linkB_any i hi)
 have hL:=h.size
 have HLd:Hid (∀ W,W=w.drew→Calls Tryz.prog 53 #[.pointer (some ⟨a.th 0,0,none⟩), .int .u64 ((3328+8 * i:Nat):Int)] W (fun e w'=>e = .returned (.int .u64 (cur (416+i):Int))∧W=w')):=hid (fun W hW=>by
  subst hW
  exact load_at h.sd.ds.dev (3328+8 * i) _ (by omega) (by omega) (by congr 1;omega) _ (Below.refl _ _).drew)
 have g1:w.cell? ⟨y.g,1,none⟩=some (.pointer (some ⟨a.th 0,0,none⟩)):=h.blk.cell 1
 generalize 3328+8 * i=O at *
 generalize cur (416+i)=V at *
 clear h
 go_enter Tryz.func13,Tryz.ntmps13
 go_upto_region 1 with fail
 refine wp_region_scriptH (fun w'=>w'.cell? ⟨y.g,1,none⟩=some (.pointer (some ⟨a.th 0,0,none⟩))) 8 [] [(1,0),(1,1),(1,2),(1,3),(1,4),(0,5),(0,6),(1,7)] (by kernel_rfl) (by kernel_rfl) g1 ?_
 refine wpScriptH_take (.pointer (some ⟨y.g,0,none⟩)) (by rfl) (by rfl) (fun w' hS=>?_) ?_
 ·go_simp
 simp only [zA,zB,Act.put,zD,zE,zF]
 refine wpScriptH_take (.pointer (some ⟨y.g,0,none⟩)) (by rfl) (by rfl) (fun w' hS=>?_) ?_
 ·go_simp
 simp only [zA,zB,zC,Act.put,zD,zE,zF]
 refine wpScriptH_take (.pointer (some ⟨y.g,1,none⟩)) (by rfl) (by rfl) (fun w' hS=>?_) ?_
 ·go_simp
 simp only [zA,zB,zC,Act.put,zD,zE,zF]
 refine wpScriptH_take (.pointer (some ⟨a.th 0,0,none⟩)) (by rfl) (by rfl) (fun w' hS=>?_) ?_
 ·go_simp
 simp only [zA,zB,zC,Act.put,zD,zE,zF]
 refine wpScriptH_take (.int .i64 (i:Int)) (by rfl) (by rfl) (fun w' hS=>?_) ?_
 ·go_simp
 simp only [zA,zB,zC,Act.put,zD,zE,zF]
 refine wpScriptH_do (by rfl) ?_
 go_wp2_with (go_at_call 54;refine (HLk.out _).mono ?_;rintro e w1 ⟨rfl,rfl⟩)
 refine ⟨g1,?_⟩
 refine wpScriptH_do (by rfl) ?_
 go_wp2_with (go_at_call 53;refine (HLd.out _ rfl).mono ?_;rintro e w1 ⟨rfl,rfl⟩)
 refine ⟨g1,?_⟩
 refine wpScriptH_take (.int .u64 (V:Int)) (by rfl) (by rfl) (fun w' hS=>?_) ?_
 ·go_simp
 simp only [zA,zB,zC,Act.put,zD,zE,zF]
 show wpList _ _ _ _ _ _
 simp only [List.drop_succ_cons,List.drop_zero]
 refine NoPanic.normal ?_
 go_wp2_with fail
 go_ret
 exact ⟨rfl,rfl⟩
end
section
open Go.RowKit Go.Maps
theorem minL_perm {l l':List (List Nat × Nat)} {m:Nat} (h:l'.Perm l):minL m l'=minL m l:=by
 unfold minL
 refine h.foldl_eq' (fun x _ y _ z=>?_) m
 show min (min z x.2) y.2=min (min z y.2) x.2
 rw [Nat.min_assoc,Nat.min_comm x.2,← Nat.min_assoc]
end
section
open Go.ChangeShapes Go.WideShapes Go.ChangeAt Go.RowKit
section
variable {H:Type} {enc:TypeId × Value→H} {w:World} {base:Nat} {sp:Nat→Bool} {held:Bool} {fuel:Nat} {x:DataW H × List MemPlace}
end
section
variable {H:Type} {enc:TypeId × Value→H} {W:World} {b0 base:Nat} {sp:Nat→Bool} {held:Bool} {v:Value} {d:DataW H} {p:List MemPlace} {r:Reach}
theorem nstr_of (hv:Value.okWide Tryz.prog W r b0 9 v) (h:DataW.Trod enc Tryz.prog W base sp held 9 v d p):∃ s:ByteArray,v = .string s∧s.size≤9223372036854775807:=by
 obtain ⟨s,rfl⟩:=okWide_string Tryz.underlying9 hv
 obtain ⟨fuel,hf⟩:=h
 obtain ⟨s',hcs,_,hs⟩:=DataW.trod_string Tryz.underlying9 hf
 have hcv:(Value.string s).cells.toList=[.string s]:=rfl
 rw [hcv] at hcs
 have e:s=s':=by simpa using hcs
 subst e
 exact ⟨s,rfl,hs⟩
end
end
section
open Go.RowKit Go.Maps
theorem reads_kept {w w':World} {bs:List Nat} {A:Option Addr} {n k:Nat} {xs:List Value} (h:Reads w w.heap.size k A n xs) (hat:∀ ad,A=some ad→ad.block∈bs) (hk:KeptB bs w w') (hs:w.heap.size≤w'.heap.size):Reads w' w'.heap.size k A n xs:=by
 refine ⟨h.1,fun hn=>?_⟩
 obtain ⟨ad,hA,hb,hc⟩:=h.2 hn
 refine ⟨ad,hA,Nat.lt_of_lt_of_le hb hs,fun j u hu=>?_⟩
 have h1:=hc j u hu
 rw [← h1]
 exact World.cell?_of_block (by
  rw [block_of_add]
  exact hk _ (hat ad hA))
theorem RlIn.kept {w w':World} {bs:List Nat} {A:Option Addr} {n c:Nat} {rl:List (List Nat × Nat)} (h:RlIn bs A n c rl w) (hk:KeptB bs w w') (hs:w.heap.size≤w'.heap.size):RlIn bs A n c rl w':=⟨h.cap,reads_kept h.rd h.at_ hk hs,h.at_⟩
theorem RlIn.below {w w':World} {bs:List Nat} {A:Option Addr} {n c:Nat} {rl:List (List Nat × Nat)} (h:RlIn bs A n c rl w) (hb:Below w.heap.size w w'):RlIn bs A n c rl w':=⟨h.cap,(h.rd.below hb).more hb.size,h.at_⟩
theorem RlIn.nil (bs:List Nat) (w:World):RlIn bs none 0 0 [] w:=⟨⟨Nat.le_refl _,by decide⟩,Reads.none_,fun ad h=>by cases h⟩
theorem KeptB.less {bs bs':List Nat} {w w':World} (h:KeptB bs' w w') (hs:∀ g∈bs,g∈bs'):KeptB bs w w':=fun g hg=>h g (hs g hg)
theorem KeptB.blk {bs:List Nat} {w w':World} (h:KeptB bs w w') {g:Nat} {t:TypeId} {cs:Array Value} (hB:Blk w g t cs) (hg:g∈bs):Blk w' g t cs:=(h g hg).trans hB
section
variable {B:Nat} {bs:List Nat} {a:DA} {x:HA} {y:WA} {q gr T N st:Nat} {l rl:List (List Nat × Nat)} {w w':World}
theorem RgX.lts (h:RgX B bs a x y q gr T N st l w):∀ g∈bs,g < w.heap.size:=by
 obtain ⟨cs,f,m,S,cur,h1,h2,h3,h4,h5⟩:=h
 exact fun g hg=>(h5 g hg).1
theorem RgX.news (h:RgX B bs a x y q gr T N st l w) (hb:Below w.heap.size w w'):∀ (gs:List Nat),(∀ g∈gs,w.heap.size≤g∧g < w'.heap.size)→RgX B (gs++bs) a x y q gr T N st l w'
 | [],_=>h.below hb
 | g :: gs,hg=>by
  obtain ⟨g1,g2⟩:=hg g (by simp)
  obtain ⟨cs,f,m,S,cur,e1,e2,e3,e4,e5⟩:=h
  refine ⟨cs,f,m,S,cur,e1.below hb,e2.below hb e2.lt,e3,Nat.le_trans e4 hb.size,fun g' hg2=>?_⟩
  have hnew:∀ z,w.heap.size≤z→¬ sfp S x z:=fun z hz hz'=>by
   have:=sfp_lt e1.bw.sd hz'
   omega
  rcases List.mem_cons.1 hg2 with rfl | hg2
  ·exact ⟨g2,hnew _ g1⟩
  ·rcases List.mem_append.1 hg2 with hg2 | hg2
   ·obtain ⟨q1,q2⟩:=hg g' (List.mem_cons_of_mem _ hg2)
    exact ⟨q2,hnew _ q1⟩
   ·exact ⟨Nat.lt_of_lt_of_le (e5 g' hg2).1 hb.size,(e5 g' hg2).2⟩
end
end
section
open Go.RowKit Go.Maps
structure StatB (B:Nat) (x:HA) (y:WA) (gr G:Nat):Prop where
 lo:LoS x y.d y.r B G
 g:y.g < G
 u:y.u < G
 m:y.m < G
 r:gr < G
section
variable {B G:Nat} {bs:List Nat} {a:DA} {x:HA} {y:WA} {q gr T N st:Nat} {l:List (List Nat × Nat)} {w w':World}
theorem RgX.stat (h:RgX B bs a x y q gr T N st l w):StatB B x y gr w.heap.size:=by
 obtain ⟨cs,f,m,S,cur,h1,h2,h3,h4,h5⟩:=h
 exact ⟨h1.bw.sd.lo,h1.bw.blk.lt,h1.bw.und.lt,h1.bw.mgr.lt,h2.lt⟩
theorem RgX.chg (h:RgX B bs a x y q gr T N st l w) (hs:StatB B x y gr G) {Z:Fp} (hc:Chg Z w w') (hZ:∀ k,Z k→G≤k∧k∈bs):RgX B bs a x y q gr T N st l w':=by
 obtain ⟨cs,f,m,S,cur,h1,h2,h3,h4,h5⟩:=h
 have hn:∀ g,g < G→¬ Z g:=fun g hg hz=>by have:=(hZ g hz).1;omega
 refine ⟨cs,f,m,S,cur,{ h1 with bw:={ h1.bw with sd:=h1.bw.sd.chg hs.lo hc (fun k hk=>⟨fun hS=>(h5 k (hZ k hk).2).2 (.inl hS),(hZ k hk).1⟩),blk:=hc.blk h1.bw.blk (hn _ hs.g),und:=hc.blk h1.bw.und (hn _ hs.u),mgr:=hc.blk h1.bw.mgr (hn _ hs.m) } },hc.blk h2 (hn _ hs.r),h3,Nat.le_trans h4 hc.size,fun g hg=>⟨Nat.lt_of_lt_of_le (h5 g hg).1 hc.size,(h5 g hg).2⟩⟩
theorem RgX.setCell (h:RgX B bs a x y q gr T N st l w) (hs:StatB B x y gr G) {p:Addr} (hG:G≤p.block) (hp:p.block∈bs) (v:Value):RgX B bs a x y q gr T N st l (w.setCell p v) :=
 h.chg hs ((Chg.refl (fun k=>k=p.block) w).setCell (.inl rfl) v) (fun k hk=>by subst hk;exact ⟨hG,hp⟩)
end
end
section
open Go.RowKit Go.Maps
theorem cb_swap:∀ a b:List UInt8,Lib.compareBytes b a = - Lib.compareBytes a b
 | [],[]=>rfl
 | [],_ :: _=>rfl
 | _ :: _,[]=>rfl
 | x :: a,y :: b=>by
  have ih:=cb_swap a b
  rw [cb_cons,cb_cons]
  split <;> (try split) <;> (try split) <;> omega
theorem nmCf_swap (x y:List Nat × Nat):nmCf y x = - nmCf x y:=cb_swap _ _
theorem nmCf_eq {x y:List Nat × Nat} (h:nmCf x y=0):nmS x=nmS y:=ByteArray.ext (Array.toList_inj.1 (cb_eq _ _ h))
structure RLk (l rl:List (List Nat × Nat)):Prop where
 perm:rl.Perm l
 up:rl.Pairwise (fun x y=>nmCf x y < 0)
theorem RLk.nil:RLk [] []:=⟨List.Perm.refl _,List.Pairwise.nil⟩
theorem up_unique:∀ (a b:List (List Nat × Nat)),a.Perm b→a.Pairwise (fun x y=>nmCf x y < 0)→b.Pairwise (fun x y=>nmCf x y < 0)→a=b
 | [],b,h,_,_=>(List.nil_perm.1 h).symm
 | x :: a,[],h,_,_=>absurd h.length_eq (by simp)
 | x :: a,y :: b,h,h1,h2=>by
  rw [List.pairwise_cons] at h1 h2
  have e:x=y:=by
   have hx:x∈y :: b:=h.mem_iff.1 (by simp)
   have hy:y∈x :: a:=h.mem_iff.2 (by simp)
   rcases List.mem_cons.1 hx with e | hx
   ·exact e
   ·rcases List.mem_cons.1 hy with e | hy
    ·exact e.symm
    ·have g1:=h1.1 y hy
     have g2:=h2.1 x hx
     have g3:=nmCf_swap x y
     omega
  subst e
  rw [up_unique a b ((List.perm_cons x).1 h) h1.2 h2.2]
theorem nm_inj {l:List (List Nat × Nat)} (h:(l.map nmS).Nodup) {p q:List Nat × Nat} (hp:p∈l) (hq:q∈l) (he:nmS p=nmS q):p=q:=by
 induction l with
 | nil=>cases hp
 | cons x t ih =>
  rw [List.map_cons,List.nodup_cons] at h
  rcases List.mem_cons.1 hp with e1 | h1
  ·rcases List.mem_cons.1 hq with e2 | h2
   ·rw [e1,e2]
   ·exact absurd (show nmS x∈t.map nmS by rw [← e1,he];exact List.mem_map_of_mem h2) h.1
  ·rcases List.mem_cons.1 hq with e2 | h2
   ·exact absurd (show nmS x∈t.map nmS by rw [← e2,← he];exact List.mem_map_of_mem h1) h.1
   ·exact ih h.2 h1 h2
theorem SortNm.eq {l l' rl:List (List Nat × Nat)} (h:SortNm l l') (hn:(l.map nmS).Nodup) (hr:RLk l rl):l'=rl:=by
 refine up_unique l' rl (h.perm.trans hr.perm.symm) ?_ hr.up
 rw [List.pairwise_iff_getElem]
 intro i j hi hj hij
 have h1:=h.up i j hi hj hij
 have h2:=nmCf_swap l'[j] l'[i]
 have hn2:(l'.map nmS).Nodup:=(h.perm.map nmS).nodup_iff.2 hn
 have h3:nmCf l'[i] l'[j]≠0:=fun h0=>by
  have e:=nmCf_eq h0
  have e2:(l'.map nmS)[i]'(by simpa using hi)=(l'.map nmS)[j]'(by simpa using hj):=by
   rw [List.getElem_map,List.getElem_map]
   exact e
  exact List.pairwise_iff_getElem.1 hn2 i j (by simpa using hi) (by simpa using hj) hij e2
 omega
theorem RLk.fnd {l rl:List (List Nat × Nat)} (h:RLk l rl) (s:ByteArray):fndS s 0 rl < 0↔fndS s 0 l < 0:=by
 rw [fndS_neg,fndS_neg,(h.perm.map nmS).mem_iff]
theorem RLk.at_ {l rl:List (List Nat × Nat)} (h:RLk l rl) (hn:(l.map nmS).Nodup) {s:ByteArray} (hf:¬ fndS s 0 l < 0):∃ j i,∃ (hj:j < l.length) (hi:i < rl.length),fndS s 0 l=(j:Int)∧fndS s 0 rl=(i:Int)∧l[j]=rl[i]∧nmS l[j]=s:=by
 obtain ⟨j,hj,h1,h2⟩:=fndS_at s l 0 hf
 obtain ⟨i,hi,h3,h4⟩:=fndS_at s rl 0 (fun hx=>hf ((h.fnd s).1 hx))
 rw [Nat.zero_add] at h1 h3
 exact ⟨j,i,hj,hi,h1,h3,nm_inj hn (List.getElem_mem hj) (h.perm.mem_iff.1 (List.getElem_mem hi)) (h2.trans h4.symm),h2⟩
def insN (p:List Nat × Nat):List (List Nat × Nat)→List (List Nat × Nat)
 | []=>[p]
 | x :: t=>if nmCf p x < 0 then p :: x :: t else x :: insN p t
def rfT (s:ByteArray) (st:Nat) (rl:List (List Nat × Nat)):List (List Nat × Nat) × Nat:=if nmOk s=false then (rl,15) else if 0≤fndS s 0 rl then (rl,6) else if rl.length=8 then (rl,4) else (insN (bytesN s,st) rl,0)
def rfD (s:ByteArray) (rl:List (List Nat × Nat)):List (List Nat × Nat) × Nat:=if fndS s 0 rl < 0 then (rl,5) else (rl.eraseIdx (fndS s 0 rl).toNat,0)
def rfG (s:ByteArray) (rl:List (List Nat × Nat)):Nat × Nat:=if fndS s 0 rl < 0 then (0,5) else ((rl.getD (fndS s 0 rl).toNat ([],0)).2,0)
theorem insN_perm (p:List Nat × Nat):∀ rl,(insN p rl).Perm (p :: rl)
 | []=>List.Perm.refl _
 | x :: t=>by
  unfold insN
  split
  ·exact List.Perm.refl _
  ·exact ((insN_perm p t).cons x).trans (List.Perm.swap p x t)
theorem insN_up (p:List Nat × Nat):∀ rl:List (List Nat × Nat),rl.Pairwise (fun x y=>nmCf x y < 0)→nmS p ∉ rl.map nmS→(insN p rl).Pairwise (fun x y=>nmCf x y < 0)
 | [],_,_=>List.pairwise_singleton _ _
 | x :: t,h,hn=>by
  rw [List.map_cons,List.mem_cons] at hn
  have h0:=h
  rw [List.pairwise_cons] at h
  unfold insN
  split
  ·rename_i hc
   rw [List.pairwise_cons]
   refine ⟨fun y hy=>?_,h0⟩
   rcases List.mem_cons.1 hy with rfl | hy
   ·exact hc
   ·exact cb_trans _ _ _ hc (h.1 y hy)
  ·rename_i hc
   rw [List.pairwise_cons]
   refine ⟨fun y hy=>?_,insN_up p t h.2 (fun hx=>hn (.inr hx))⟩
   rcases List.mem_cons.1 ((insN_perm p t).mem_iff.1 hy) with rfl | hy
   ·have h1:=nmCf_swap y x
    have h2:nmCf y x≠0:=fun h0=>hn (.inl (nmCf_eq h0))
    omega
   ·exact h.1 y hy
section
variable {st:Nat} {l rl:List (List Nat × Nat)}
theorem RLk.take (h:RLk l rl) (s:ByteArray):(tkR s (some (st,l),0)).1=(if (rfT s st rl).2=0 then st else 0,(rfT s st rl).2)∧RLk (tkL s st l) (rfT s st rl).1:=by
 have hl:=h.perm.length_eq
 have hfn:=h.fnd s
 have ht:tkR s (some (st,l),0)=if nmOk s=false then ((0,15),[]) else if 0≤fndS s 0 l then ((0,6),[]) else if l.length=8 then ((0,4),[]) else ((st,0),l++[(bytesN s,st)]):=rfl
 have hr:rfT s st rl=if nmOk s=false then (rl,15) else if 0≤fndS s 0 rl then (rl,6) else if rl.length=8 then (rl,4) else (insN (bytesN s,st) rl,0):=rfl
 unfold tkL
 by_cases h1:nmOk s=false
 ·rw [if_pos h1] at ht hr
  rw [ht,hr]
  exact ⟨rfl,h⟩
 rw [if_neg h1] at ht hr
 by_cases h2:0≤fndS s 0 l
 ·rw [if_pos h2] at ht
  rw [if_pos (show 0≤fndS s 0 rl by omega)] at hr
  rw [ht,hr]
  exact ⟨rfl,h⟩
 rw [if_neg h2] at ht
 rw [if_neg (show ¬ 0≤fndS s 0 rl by omega)] at hr
 by_cases h3:l.length=8
 ·rw [if_pos h3] at ht
  rw [if_pos (show rl.length=8 by omega)] at hr
  rw [ht,hr]
  exact ⟨rfl,h⟩
 rw [if_neg h3] at ht
 rw [if_neg (show ¬ rl.length=8 by omega)] at hr
 rw [ht,hr]
 refine ⟨rfl,?_⟩
 show RLk (l++[(bytesN s,st)]) (insN (bytesN s,st) rl)
 have hneg:fndS s 0 rl < 0:=by omega
 rw [fndS_neg] at hneg
 refine ⟨((insN_perm _ rl).trans (h.perm.cons _)).trans (List.perm_append_comm (l₁:=[(bytesN s,st)]) (l₂:=l)),insN_up _ _ h.up ?_⟩
 show strN (bytesN s) ∉ _
 rw [strN_bytesN]
 exact hneg
theorem RLk.drop (h:RLk l rl) (hn:(l.map nmS).Nodup) (s:ByteArray):(drpR s (some (st,l),0)).1=(rfD s rl).2∧RLk (dpL s st l) (rfD s rl).1:=by
 have hfn:=h.fnd s
 have e:drpR s (some (st,l),0)=if fndS s 0 l < 0 then (5,[]) else (0,dropL s l):=rfl
 unfold dpL rfD
 rw [e]
 by_cases h1:fndS s 0 l < 0
 ·rw [if_pos h1,if_pos (hfn.2 h1)]
  exact ⟨rfl,h⟩
 ·rw [if_neg h1,if_neg (fun hx=>h1 (hfn.1 hx))]
  refine ⟨rfl,?_⟩
  show RLk (dropL s l) (rl.eraseIdx (fndS s 0 rl).toNat)
  obtain ⟨j,i,hj,hi,g1,g2,g3,_⟩:=h.at_ hn h1
  rw [g2,Int.toNat_natCast]
  have p1:=dropL_perm hj g1
  have p2:(rl[i] :: rl.eraseIdx i).Perm rl:=by
   have e3:rl.take i++rl[i] :: rl.drop (i+1)=rl:=by rw [List.getElem_cons_drop,List.take_append_drop]
   rw [List.eraseIdx_eq_take_drop_succ]
   refine (List.perm_middle.symm).trans ?_
   rw [e3]
  rw [g3] at p1
  exact ⟨(List.perm_cons _).1 ((p2.trans h.perm).trans p1.symm),h.up.sublist (List.eraseIdx_sublist _ _)⟩
theorem RLk.get (h:RLk l rl) (hn:(l.map nmS).Nodup) (s:ByteArray):getR s (some (st,l),0)=rfG s rl:=by
 have hfn:=h.fnd s
 have e:getR s (some (st,l),0)=if fndS s 0 l < 0 then (0,5) else ((l.getD (fndS s 0 l).toNat ([],0)).2,0):=rfl
 rw [e]
 unfold rfG
 by_cases h1:fndS s 0 l < 0
 ·rw [if_pos h1,if_pos (hfn.2 h1)]
 ·rw [if_neg h1,if_neg (fun hx=>h1 (hfn.1 hx))]
  obtain ⟨j,i,hj,hi,g1,g2,g3,_⟩:=h.at_ hn h1
  rw [g1,g2,Int.toNat_natCast,Int.toNat_natCast,List.getD_eq_getElem?_getD,List.getD_eq_getElem?_getD,List.getElem?_eq_getElem hj,List.getElem?_eq_getElem hi,g3]
theorem RLk.min_ (h:RLk l rl) (m:Nat):minL m rl=minL m l:=minL_perm h.perm
end
end
section
open Go.RowKit Go.Maps
theorem freedB_st (b:BK):(freedB b).st≠177:=by
 unfold freedB
 split
 ·show (178:Nat)≠177
  omega
 ·show (176:Nat)≠177
  omega
theorem drB_st (bs:Nat→BK) (i:Nat):∀ (l:List Nat) (c:Nat→BK),(i∈l∨(c i).st≠177)→(drB bs c l i).st≠177
 | [],c,h=>by
  rcases h with h | h
  ·cases h
  ·exact h
 | x :: l,c,h=>by
  show (drB bs (updB c x (freedB (bs x))) l i).st≠177
  refine drB_st bs i l _ ?_
  rcases h with h | h
  ·rcases List.mem_cons.1 h with rfl | h
   ·right
    unfold updB
    rw [if_pos rfl]
    exact freedB_st _
   ·exact .inl h
  ·right
   unfold updB
   split
   ·exact freedB_st _
   ·exact h
section
variable {s K:Nat} {cs:Nat→CS} {keep free ks:List Nat} {V:Nat→Nat}
theorem pub_freed {q kind k i kd:Nat} (hks:∀ k,k∈ks↔k < K∧(tlOf s cs keep k≠[]∨dlOf s cs free k≠[])) (h:LiveA s K cs q kind k i) (hq:q∈free):chkR s K (acC cs ks (tlOf s cs keep) (dlOf s cs free) V) q kd=12:=by
 have hm:=dl_mem h.at_ hq
 have hk:k∈ks:=(hks k).2 ⟨h.at_.1, .inr (fun e=>by rw [e] at hm;exact absurd hm (by simp))⟩
 have hp:At s K (acC cs ks (tlOf s cs keep) (dlOf s cs free) V) q k i:=h.at_.pub
 have hst:((acC cs ks (tlOf s cs keep) (dlOf s cs free) V k).bs i).st≠177:=by
  unfold acC
  rw [if_pos hk]
  show (actB (cs k).bs _ _ i).st≠177
  exact drB_st _ i _ _ (.inl hm)
 have hb:(blkR (s+32 * k) (acC cs ks (tlOf s cs keep) (dlOf s cs free) V k).cl (acC cs ks (tlOf s cs keep) (dlOf s cs free) V k).bs q).2=12:=by
  unfold blkR
  rw [if_neg h.nz,hp.fnd]
  show (if q / 72057594037927936≠0 then ((0,2):Nat × Nat) else _).2=_
  rw [h.top,if_neg (by omega),if_pos (.inl hst)]
 unfold chkR
 rw [if_neg h.nz,h.top,if_neg (by omega),hp.home]
 show (if (acC cs ks (tlOf s cs keep) (dlOf s cs free) V k).dv=true then _ else _)=_
 rw [if_pos hp.2.1,hb,if_pos (by decide)]
end
section
variable {g d th hh lg dv:Nat} {w:World}
theorem rdNil_r (d:Nat) (w:World):RdC (.pointer none) (.iface 43 (.pointer (some ⟨d,0,none⟩))) w (none,1):=by
 go_enter Tryz.func77,Tryz.ntmps77
 go_wp2
 go_ret3
 unfold RetRg
 exact ⟨rfl,Below.refl _ _⟩
theorem rdNil_s (g:Nat) (w:World):RdC (.pointer (some ⟨g,0,none⟩)) .nilIface w (none,1):=by
 go_enter Tryz.func77,Tryz.ntmps77
 go_wp2
 go_ret3
 unfold RetRg
 exact ⟨rfl,Below.refl _ _⟩
theorem nilOk (c:Nat) (hc:c≠0):RgOk (none,c):=⟨fun _=>hc,fun q hq=>by cases hq⟩
theorem takeNil (d:Nat) (nm:ByteArray) (w:World):Calls Tryz.prog 36 #[.pointer none, .iface 43 (.pointer (some ⟨d,0,none⟩)), .string nm] w fun e w'=>e = .returned (.tuple #[.int .u64 0, .int .i64 1])∧w=w':=by
 go_enter Tryz.func36,Tryz.ntmps36
 go_wp2
 go_ret2
 exact ⟨rfl,rfl⟩
theorem createNil (w:World):Calls Tryz.prog 47 #[.nilIface] w fun e w'=>e = .returned (.tuple #[.int .u64 0, .slice none 0 0, .int .i64 1])∧w=w':=by
 go_enter Tryz.func47,Tryz.ntmps47
 go_wp2
 go_ret3
 exact ⟨rfl,rfl⟩
theorem openNil (p:Nat) (w:World):Calls Tryz.prog 46 #[.nilIface, .int .u64 (p:Int)] w fun e w'=>e = .returned (.tuple #[.pointer none, .int .i64 1])∧w=w':=by
 go_enter Tryz.func46,Tryz.ntmps46
 go_wp2
 go_ret2
 exact ⟨rfl,rfl⟩
theorem rdOff (h1:w.cell? ⟨d,1,none⟩=some (.pointer (some ⟨th,0,none⟩))) (h2:w.cell? ⟨th,0,none⟩=some (.pointer (some ⟨dv,0,none⟩))) (h3:w.cell? ⟨th,2,none⟩=some (.int .i64 3)):RdC (.pointer (some ⟨g,0,none⟩)) (.iface 43 (.pointer (some ⟨d,0,none⟩))) w (none,3):=by
 have hnil:∀ W,(binOp .eql 124 (.iface 43 (.pointer (some ⟨d,0,none⟩))) .nilIface).run Tryz.prog W = .ok (.bool false) W:=fun W=>by rfl
 have hm:=methDErr (some ⟨d,0,none⟩)
 go_enter Tryz.func77,Tryz.ntmps77
 go_wp2
 go_ret3
 unfold RetRg
 exact ⟨rfl,Below.refl _ _⟩
theorem arm0_any {a:DA} {L:Nat} {exe:Int} (h:Blk w a.d 194 (devCells a L exe)):Calls Tryz.prog 48 #[.pointer (some ⟨a.d,0,none⟩), .int .i64 0] w fun e w'=>e = .returned (.tuple #[])∧w'=(w.setCell ⟨a.d,12,none⟩ (.bool true)).setCell ⟨a.d,13,none⟩ (.int .i64 0):=by
 have c11:w.cell? ⟨a.d,11,none⟩=some (.bool false):=h.cell 11
 have c12:w.cell? ⟨a.d,12,none⟩=some (.bool false):=h.cell 12
 have c13:w.cell? ⟨a.d,13,none⟩=some (.int .i64 0):=h.cell 13
 have z12:=h.frozen 12
 have z13:=h.frozen 13
 clear h
 go_enter Tryz.func48,Tryz.ntmps48
 go_wp2
 go_end0
 exact ⟨rfl,rfl⟩
theorem fence0_any {d th:Nat} (f0:w.cell? ⟨th,0,none⟩=some (.pointer (some ⟨d,0,none⟩))) (f2:w.cell? ⟨th,2,none⟩=some (.int .i64 0)) (z2:w.frozen? ⟨th,2,none⟩=false) (c11:w.cell? ⟨d,11,none⟩=some (.bool false)) (z11:w.frozen? ⟨d,11,none⟩=false) (c12:w.cell? ⟨d,12,none⟩=some (.bool true)) (c13:w.cell? ⟨d,13,none⟩=some (.int .i64 0)) (hne:d≠th) :
  Calls Tryz.prog 49 #[.pointer (some ⟨th,0,none⟩)] w fun e w'=>e = .returned (.tuple #[])∧w'=(w.setCell ⟨d,11,none⟩ (.bool true)).setCell ⟨th,2,none⟩ (.int .i64 3):=by
 have hne2:=hne.symm
 go_enter Tryz.func49,Tryz.ntmps49
 go_wp2
 go_end0
 go_wp2
 refine bodyPost_ret (results_none rfl _ _ _) rfl ?_
 exact ⟨rfl,rfl⟩
end
end
end Go.Proofs.YtnlokpakiambaaaGreatDoor
