/- The walks and laws that the claim leans on, part 12. -/
import Derived.Test.YtnlokpakiambaaaGreatDoorJak
set_option maxRecDepth 100000
set_option maxHeartbeats 16000000
namespace Go.Proofs.YtnlokpakiambaaaGreatDoor
open Go.Lib (hid)
section
open Go.RowKit
section
variable {a:DA} {L T:Nat} {w:World} {S:Fp} {cur:Nat→Nat} {F:Nat}
theorem thErr {a:DA} {L T:Nat} {w:World} {S:Fp} {cur:Nat→Nat} {F:Nat} (h:Dev a L T w S cur F) :
  Calls Tryz.prog 27 #[.pointer (some ⟨a.th 0,0,none⟩)] w fun e w'=>e = .returned (.int .i64 0)∧w=w':=by
 obtain ⟨ls,exe,per,cs,lsC,hdc,hnt⟩:=h
 obtain ⟨f0,f2,f3,f5,f4⟩:=hdc.facts (j:=0) (by omega)
 clear hdc hnt
 go_enter Tryz.func27,Tryz.ntmps27
 go_wp2
 go_ret
 exact ⟨rfl,rfl⟩
def kindOf (b:BK) (kind:Nat):Nat:=if b.st=177 then b.kind else kind
theorem pointer_any (h:Dev a L T w S cur F) (ht:Tab w) (hp:Pay w) (ln cl g V i:Nat) (b:BK) (hb:b.In) (hgood:b.good=true) (hs:b.st=176∨b.st=177) (hbit:bitAt V i=decide (b.st≠176)) (hl:ln+32≤L) (hc:cl < 5) (hi:i < perC cl) (hV:V < 18446744073709551616) (hv:cur (8 * ln+1)=V) (hw:cur (8 * ln+offB cl i)=b.w) (kind:Nat) (hk1:0 < kindOf b kind) (hk2:kindOf b kind < 128) (hk3:kind < 256) (hg0:0 < b.gen) :
  Calls Tryz.prog 306 #[chV a ln cl 0 g, .int .i64 (i:Int), .int .u8 (kind:Int)] w fun e w'=>e = .returned (.tuple #[.int .u64 (pMk (64 * ln+8 * offB cl i+8) b.gen (kindOf b kind):Int), .int .i64 0])∧Below w.heap.size w w':=by
 obtain ⟨_,_,_,_,_,hdc,_⟩:=id h
 have hL:=hdc.hL
 clear hdc
 have ho:=off_lt hi
 have hgb:=hb.g
 have hb0:Below w.heap.size w (w.alloc (.cells (chCells a ln cl g) 221)):=(Below.refl _ _).alloc (Nat.le_refl _) _
 have HB0:=hid hb0
 have HHas:=hid (chHas_any a ln cl 0 g i hc _ (hp.below hb0))
 have HEr:Hid (∀ W,Below w.heap.size w W→Calls Tryz.prog 27 #[.pointer (some ⟨a.th 0,0,none⟩)] W fun e w'=>e = .returned (.int .i64 0)∧W=w'):=hid (fun W hW=>thErr (h.below hW))
 have HRd:Hid (∀ W,Below w.heap.size w W→Calls Tryz.prog 162 #[chV a ln cl 0 g, .int .i64 (i:Int)] W fun e w'=>e = .returned (.tuple #[b.v, .bool true, .bool (bitAt V i)])∧Below W.heap.size W w'):=hid (fun W hW=>read_any (h.below hW) (ht.below hW) (hp.below hW) ln cl g V i b hb hl hc hi hV hv hw)
 have HGd:Hid (∀ W,Calls Tryz.prog 218 #[b.v] W fun e w'=>e = .returned (.bool true)∧Below W.heap.size W w'):=hid (fun W=>by rw [← hgood];exact good_any b hb W)
 have HAt:Hid (∀ W,Below w.heap.size w W→Calls Tryz.prog 213 #[chV a ln cl 0 g, .int .i64 (i:Int)] W fun e w'=>e = .returned (.int .u64 ((64 * ln+8 * offB cl i:Nat):Int))∧Below W.heap.size W w'):=hid (fun W hW=>blkAt_any ln cl g i (by omega) hc hi W (hp.below hW))
 have HMk:Hid (∀ W,Calls Tryz.prog 309 #[.int .u64 ((64 * ln+8 * offB cl i+8:Nat):Int), .int .u16 (b.gen:Int), .int .u8 (kindOf b kind:Int)] W fun e w'=>e = .returned (.tuple #[.int .u64 (pMk (64 * ln+8 * offB cl i+8) b.gen (kindOf b kind):Int), .int .i64 0])∧W=w'):=hid (fun W=>ptrMake_any _ _ _ (by omega) (by omega) (by omega) hg0 hgb hk1 hk2 W)
 have HK:=hid (Blk.new w 221 (chCells a ln cl g))
 have hm:=methErr (some ⟨a.th 0,0,none⟩)
 have u1:IntKind.u64.wrap (((64 * ln+8 * offB cl i:Nat):Int)+8)=((64 * ln+8 * offB cl i+8:Nat):Int):=by rw [IntKind.wrap_u64];omega
 have hz:64 * ln+8 * offB cl i < 1000000000:=by omega
 rw [decide_eq_true hi] at HHas
 rw [hbit] at HRd
 clear h ht hp hb0 hv hw hgood hbit ho
 generalize pMk (64 * ln+8 * offB cl i+8) b.gen (kindOf b kind)=pp at *
 generalize 64 * ln+8 * offB cl i+8=z8 at *
 generalize 64 * ln+8 * offB cl i=z at *
 obtain ⟨gen,kd,st⟩:=b
 unfold chV BK.v at *
 unfold chCells memV at *
 dsimp only at *
 rcases hs with rfl | rfl
 ·have hko:kindOf ⟨gen,kd,176⟩ kind=kind:=rfl
  have hk1':0 < kind:=hko ▸ hk1
  have hk2':kind < 128:=hko ▸ hk2
  rw [hko] at HMk
  clear hk1 hk2 hko
  have dk0:((kind:Int) == 0)=false:=by rw [beq_eq_false_iff_ne];omega
  have dk1:decide (127 < (kind:Int))=false:=decide_eq_false (by omega)
  go_enter Tryz.func306,Tryz.ntmps306
  go_wp2_with fail
  refine HHas.out.mono ?_
  rintro e w1 ⟨rfl,hb1⟩
  have HB1:=hid (HB0.out.trans (hb1.mono HB0.out.size))
  have hk:=HK.out.below hb1 HK.out.lt
  have HK1:=hid hk
  have f0:w1.cell? ⟨w.heap.size,0,none⟩=some (.iface 41 (.pointer (some ⟨a.th 0,0,none⟩))):=hk.cell 0
  have f1:w1.cell? ⟨w.heap.size,1,none⟩=some (.int .i64 (ln:Int)):=hk.cell 1
  have f2:w1.cell? ⟨w.heap.size,2,none⟩=some (.int .i64 (cl:Int)):=hk.cell 2
  have f3:w1.cell? ⟨w.heap.size,3,none⟩=some (.int .i64 0):=hk.cell 3
  have f4:w1.cell? ⟨w.heap.size,4,none⟩=some (.int .u16 (g:Int)):=hk.cell 4
  clear hb1 hk HK HHas
  go_wp2_with (go_at_call 27;refine (HEr.out _ HB1.out).mono ?_;rintro e w2 ⟨rfl,rfl⟩)
  refine (HRd.out _ HB1.out).mono ?_
  rintro e w2 ⟨rfl,hb2⟩
  have hbx:Below w1.heap.size w1 (w2.alloc (.cells #[.int .u16 (gen:Int), .int .u8 (kd:Int), .int .u8 176] 286)):=hb2.alloc hb2.size _
  have HBX:=hid (HB1.out.trans (hbx.mono HB1.out.size))
  have HKX:=hid (HK1.out.below hbx HK1.out.lt)
  have HBB:=hid (Blk.new w2 286 #[.int .u16 (gen:Int), .int .u8 (kd:Int), .int .u8 176])
  have f0':w2.cell? ⟨w.heap.size,0,none⟩=some (.iface 41 (.pointer (some ⟨a.th 0,0,none⟩))):=(HK1.out.below hb2 HK1.out.lt).cell 0
  have hl1:=HK1.out.lt
  have hl2:=hb2.size
  have hlt:w.heap.size < w2.heap.size:=by omega
  clear hb2 hbx HK1 HB1 HRd f0 f1 f2 f3 f4 hl1 hl2
  go_wp2_with (go_at_call 27;refine (HEr.out _ HBX.out).mono ?_;rintro e w3 ⟨rfl,rfl⟩)
  refine (HGd.out _).mono ?_
  rintro e w3 ⟨rfl,hb3⟩
  have HB3:=hid (HBX.out.trans (hb3.mono HBX.out.size))
  have hkc:=HKX.out.below hb3 HKX.out.lt
  have hkb:=HBB.out.below hb3 HBB.out.lt
  have HKC:=hid hkc
  have HKB:=hid hkb
  have g0:w3.cell? ⟨w2.heap.size,0,none⟩=some (.int .u16 (gen:Int)):=hkb.cell 0
  have g1:w3.cell? ⟨w2.heap.size,1,none⟩=some (.int .u8 (kd:Int)):=hkb.cell 1
  have g2:w3.cell? ⟨w2.heap.size,2,none⟩=some (.int .u8 176):=hkb.cell 2
  clear hb3 hkc hkb HBX HKX HBB HGd HEr f0' hlt
  generalize w2.heap.size=p2 at *
  go_wp2_with fail
  clear g0 g1 g2
  refine wp_region_script (fun w'=>Below w.heap.size w w'∧Blk w' w.heap.size 221 #[.iface 41 (.pointer (some ⟨a.th 0,0,none⟩)), .int .i64 (ln:Int), .int .i64 (cl:Int), .int .i64 0, .int .u16 (g:Int)]∧Blk w' p2 286 #[.int .u16 (gen:Int), .int .u8 (kd:Int), .int .u8 176]) 11 [(true,0),(true,1),(true,4),(true,5),(true,6),(false,2),(true,3),(false,7),(true,8),(true,9),(true,10)] (by kernel_rfl) (by kernel_rfl) ⟨HB3.out.drew,HKC.out.drew,HKB.out.drew⟩ ?_
  refine wpScript_take (.agg #[.iface 41 (.pointer (some ⟨a.th 0,0,none⟩)), .int .i64 (ln:Int), .int .i64 (cl:Int), .int .i64 0, .int .u16 (g:Int)]) (by rfl) (by rfl) (fun w' hS=>?_) ?_
  ·have hk:=hS.2.1
   have f0:w'.cell? ⟨w.heap.size,0,none⟩=some (.iface 41 (.pointer (some ⟨a.th 0,0,none⟩))):=hk.cell 0
   have f1:w'.cell? ⟨w.heap.size,1,none⟩=some (.int .i64 (ln:Int)):=hk.cell 1
   have f2:w'.cell? ⟨w.heap.size,2,none⟩=some (.int .i64 (cl:Int)):=hk.cell 2
   have f3:w'.cell? ⟨w.heap.size,3,none⟩=some (.int .i64 0):=hk.cell 3
   have f4:w'.cell? ⟨w.heap.size,4,none⟩=some (.int .u16 (g:Int)):=hk.cell 4
   go_simp
  simp only [zA,zB,Act.put,zD,zE,zF]
  refine wpScript_take (.int .i64 (i:Int)) (by rfl) (by rfl) (fun w' hS=>?_) ?_
  ·go_simp
  simp only [zA,zB,zC,Act.put,zD,zE,zF]
  refine wpScript_take (.pointer (some ⟨p2,0,none⟩)) (by rfl) (by rfl) (fun w' hS=>?_) ?_
  ·go_simp
  simp only [zA,zB,zC,Act.put,zD,zE,zF]
  refine wpScript_take (.int .u16 (gen:Int)) (by rfl) (by rfl) (fun w' hS=>?_) ?_
  ·have f0:w'.cell? ⟨p2,0,none⟩=some (.int .u16 (gen:Int)):=hS.2.2.cell 0
   go_simp
  simp only [zA,zB,zC,Act.put,zD,zE,zF]
  refine wpScript_take (.int .u8 (kind:Int)) (by rfl) (by rfl) (fun w' hS=>?_) ?_
  ·go_simp
  simp only [zA,zB,zC,Act.put,zD,zE,zF]
  refine wpScript_do (by rfl) ?_
  go_wp2_with fail
  refine (HAt.out _ HB3.out.drew).mono ?_
  rintro e w4 ⟨rfl,hb4⟩
  have HB4:=hid (HB3.out.drew.trans (hb4.mono HB3.out.drew.size))
  have HKC4:=hid (HKC.out.drew.below hb4 HKC.out.drew.lt)
  have HKB4:=hid (HKB.out.drew.below hb4 HKB.out.drew.lt)
  clear hb4 HAt HB3 HKC HKB
  go_wp2_with fail
  refine ⟨⟨HB4.out,HKC4.out,HKB4.out⟩,?_⟩
  refine wpScript_take (.int .u64 (z8:Int)) (by rfl) (by rfl) (fun w' hS=>?_) ?_
  ·go_simp
  simp only [zA,zB,zC,Act.put,zD,zE,zF]
  refine wpScript_do (by rfl) ?_
  go_wp2_with fail
  refine (HMk.out _).mono ?_
  rintro e w5 ⟨rfl,rfl⟩
  go_wp2_with fail
  refine ⟨⟨HB4.out,HKC4.out,HKB4.out⟩,?_⟩
  refine wpScript_take (.int .u64 (pp:Int)) (by rfl) (by rfl) (fun w' hS=>?_) ?_
  ·go_simp
  simp only [zA,zB,zC,Act.put,zD,zE,zF]
  refine wpScript_take (.int .i64 0) (by rfl) (by rfl) (fun w' hS=>?_) ?_
  ·go_simp
  simp only [zA,zB,zC,Act.put,zD,zE,zF]
  refine wpScript_take (.int .u64 (pp:Int)) (by rfl) (by rfl) (fun w' hS=>?_) ?_
  ·go_simp
  simp only [zA,zB,zC,Act.put,zD,zE,zF]
  show wpList _ _ _ _ _ _
  simp only [List.drop_succ_cons,List.drop_zero]
  go_wp2_with fail
  refine NoPanic.normal ?_
  go_wp2
  go_ret2
  exact ⟨rfl,HB4.out⟩
 ·have hko:kindOf ⟨gen,kd,177⟩ kind=kd:=rfl
  have hk1':0 < kd:=hko ▸ hk1
  have hk2':kd < 128:=hko ▸ hk2
  rw [hko] at HMk
  clear hk1 hk2 hko
  have dk0:((kd:Int) == 0)=false:=by rw [beq_eq_false_iff_ne];omega
  have dk1:decide (127 < (kd:Int))=false:=decide_eq_false (by omega)
  go_enter Tryz.func306,Tryz.ntmps306
  go_wp2_with fail
  refine HHas.out.mono ?_
  rintro e w1 ⟨rfl,hb1⟩
  have HB1:=hid (HB0.out.trans (hb1.mono HB0.out.size))
  have hk:=HK.out.below hb1 HK.out.lt
  have HK1:=hid hk
  have f0:w1.cell? ⟨w.heap.size,0,none⟩=some (.iface 41 (.pointer (some ⟨a.th 0,0,none⟩))):=hk.cell 0
  have f1:w1.cell? ⟨w.heap.size,1,none⟩=some (.int .i64 (ln:Int)):=hk.cell 1
  have f2:w1.cell? ⟨w.heap.size,2,none⟩=some (.int .i64 (cl:Int)):=hk.cell 2
  have f3:w1.cell? ⟨w.heap.size,3,none⟩=some (.int .i64 0):=hk.cell 3
  have f4:w1.cell? ⟨w.heap.size,4,none⟩=some (.int .u16 (g:Int)):=hk.cell 4
  clear hb1 hk HK HHas
  go_wp2_with (go_at_call 27;refine (HEr.out _ HB1.out).mono ?_;rintro e w2 ⟨rfl,rfl⟩)
  refine (HRd.out _ HB1.out).mono ?_
  rintro e w2 ⟨rfl,hb2⟩
  have hbx:Below w1.heap.size w1 (w2.alloc (.cells #[.int .u16 (gen:Int), .int .u8 (kd:Int), .int .u8 177] 286)):=hb2.alloc hb2.size _
  have HBX:=hid (HB1.out.trans (hbx.mono HB1.out.size))
  have HKX:=hid (HK1.out.below hbx HK1.out.lt)
  have HBB:=hid (Blk.new w2 286 #[.int .u16 (gen:Int), .int .u8 (kd:Int), .int .u8 177])
  have f0':w2.cell? ⟨w.heap.size,0,none⟩=some (.iface 41 (.pointer (some ⟨a.th 0,0,none⟩))):=(HK1.out.below hb2 HK1.out.lt).cell 0
  have hl1:=HK1.out.lt
  have hl2:=hb2.size
  have hlt:w.heap.size < w2.heap.size:=by omega
  clear hb2 hbx HK1 HB1 HRd f0 f1 f2 f3 f4 hl1 hl2
  go_wp2_with (go_at_call 27;refine (HEr.out _ HBX.out).mono ?_;rintro e w3 ⟨rfl,rfl⟩)
  refine (HGd.out _).mono ?_
  rintro e w3 ⟨rfl,hb3⟩
  have HB3:=hid (HBX.out.trans (hb3.mono HBX.out.size))
  have hkc:=HKX.out.below hb3 HKX.out.lt
  have hkb:=HBB.out.below hb3 HBB.out.lt
  have HKC:=hid hkc
  have HKB:=hid hkb
  have g0:w3.cell? ⟨w2.heap.size,0,none⟩=some (.int .u16 (gen:Int)):=hkb.cell 0
  have g1:w3.cell? ⟨w2.heap.size,1,none⟩=some (.int .u8 (kd:Int)):=hkb.cell 1
  have g2:w3.cell? ⟨w2.heap.size,2,none⟩=some (.int .u8 177):=hkb.cell 2
  clear hb3 hkc hkb HBX HKX HBB HGd HEr f0' hlt
  generalize w2.heap.size=p2 at *
  go_wp2_with fail
  clear g0 g1 g2
  refine wp_region_script (fun w'=>Below w.heap.size w w'∧Blk w' w.heap.size 221 #[.iface 41 (.pointer (some ⟨a.th 0,0,none⟩)), .int .i64 (ln:Int), .int .i64 (cl:Int), .int .i64 0, .int .u16 (g:Int)]∧Blk w' p2 286 #[.int .u16 (gen:Int), .int .u8 (kd:Int), .int .u8 177]) 11 [(true,0),(true,1),(true,4),(true,5),(true,6),(false,2),(true,3),(false,7),(true,8),(true,9),(true,10)] (by kernel_rfl) (by kernel_rfl) ⟨HB3.out.drew,HKC.out.drew,HKB.out.drew⟩ ?_
  refine wpScript_take (.agg #[.iface 41 (.pointer (some ⟨a.th 0,0,none⟩)), .int .i64 (ln:Int), .int .i64 (cl:Int), .int .i64 0, .int .u16 (g:Int)]) (by rfl) (by rfl) (fun w' hS=>?_) ?_
  ·have hk:=hS.2.1
   have f0:w'.cell? ⟨w.heap.size,0,none⟩=some (.iface 41 (.pointer (some ⟨a.th 0,0,none⟩))):=hk.cell 0
   have f1:w'.cell? ⟨w.heap.size,1,none⟩=some (.int .i64 (ln:Int)):=hk.cell 1
   have f2:w'.cell? ⟨w.heap.size,2,none⟩=some (.int .i64 (cl:Int)):=hk.cell 2
   have f3:w'.cell? ⟨w.heap.size,3,none⟩=some (.int .i64 0):=hk.cell 3
   have f4:w'.cell? ⟨w.heap.size,4,none⟩=some (.int .u16 (g:Int)):=hk.cell 4
   go_simp
  simp only [zA,zB,Act.put,zD,zE,zF]
  refine wpScript_take (.int .i64 (i:Int)) (by rfl) (by rfl) (fun w' hS=>?_) ?_
  ·go_simp
  simp only [zA,zB,zC,Act.put,zD,zE,zF]
  refine wpScript_take (.pointer (some ⟨p2,0,none⟩)) (by rfl) (by rfl) (fun w' hS=>?_) ?_
  ·go_simp
  simp only [zA,zB,zC,Act.put,zD,zE,zF]
  refine wpScript_take (.int .u16 (gen:Int)) (by rfl) (by rfl) (fun w' hS=>?_) ?_
  ·have f0:w'.cell? ⟨p2,0,none⟩=some (.int .u16 (gen:Int)):=hS.2.2.cell 0
   go_simp
  simp only [zA,zB,zC,Act.put,zD,zE,zF]
  refine wpScript_take (.int .u8 (kd:Int)) (by rfl) (by rfl) (fun w' hS=>?_) ?_
  ·go_simp
  simp only [zA,zB,zC,Act.put,zD,zE,zF]
  refine wpScript_do (by rfl) ?_
  go_wp2_with fail
  refine (HAt.out _ HB3.out.drew).mono ?_
  rintro e w4 ⟨rfl,hb4⟩
  have HB4:=hid (HB3.out.drew.trans (hb4.mono HB3.out.drew.size))
  have HKC4:=hid (HKC.out.drew.below hb4 HKC.out.drew.lt)
  have HKB4:=hid (HKB.out.drew.below hb4 HKB.out.drew.lt)
  clear hb4 HAt HB3 HKC HKB
  go_wp2_with fail
  refine ⟨⟨HB4.out,HKC4.out,HKB4.out⟩,?_⟩
  refine wpScript_take (.int .u64 (z8:Int)) (by rfl) (by rfl) (fun w' hS=>?_) ?_
  ·go_simp
  simp only [zA,zB,zC,Act.put,zD,zE,zF]
  refine wpScript_do (by rfl) ?_
  go_wp2_with fail
  refine (HMk.out _).mono ?_
  rintro e w5 ⟨rfl,rfl⟩
  go_wp2_with fail
  refine ⟨⟨HB4.out,HKC4.out,HKB4.out⟩,?_⟩
  refine wpScript_take (.int .u64 (pp:Int)) (by rfl) (by rfl) (fun w' hS=>?_) ?_
  ·go_simp
  simp only [zA,zB,zC,Act.put,zD,zE,zF]
  refine wpScript_take (.int .i64 0) (by rfl) (by rfl) (fun w' hS=>?_) ?_
  ·go_simp
  simp only [zA,zB,zC,Act.put,zD,zE,zF]
  refine wpScript_take (.int .u64 (pp:Int)) (by rfl) (by rfl) (fun w' hS=>?_) ?_
  ·go_simp
  simp only [zA,zB,zC,Act.put,zD,zE,zF]
  show wpList _ _ _ _ _ _
  simp only [List.drop_succ_cons,List.drop_zero]
  go_wp2_with fail
  refine NoPanic.normal ?_
  go_wp2
  go_ret2
  exact ⟨rfl,HB4.out⟩
end
end
section
open Go.RowKit
theorem RetProg.back {w w1 w':World} {P:List Ins→Prop} {e:Ending} (hb:Below w.heap.size w w1) (h:RetProg w1 P e w'):RetProg w P e w':=by
 obtain ⟨A,m,c,p,he,hp,ho,hb'⟩:=h
 exact ⟨A,m,c,p,he,hp,own_le ho hb.size,hb.trans (hb'.mono hb.size)⟩
theorem RetDev.back {a:DA} {L T:Nat} {w w1 w':World} {S:Fp} {cur:Nat→Nat} {F:Nat} {v:Value} {e:Ending} (hb:Below w.heap.size w w1) (h:RetDev a L T w1 S cur F v e w'):RetDev a L T w S cur F v e w':=by
 obtain ⟨he,S',hd,hc,hg⟩:=h
 exact ⟨he,S',hd,(Chg.of_below hb).trans hc (Grew.refl _ _),(Grew.refl S w).trans hg hb.size⟩
theorem RetDev.then_ {a:DA} {L T:Nat} {w w1 w':World} {S S1:Fp} {cur:Nat→Nat} {F:Nat} {v:Value} {e:Ending} (hc1:Chg S w w1) (hg1:Grew S S1 w) (h:RetDev a L T w1 S1 cur F v e w'):RetDev a L T w S cur F v e w':=by
 obtain ⟨he,S',hd,hc,hg⟩:=h
 exact ⟨he,S',hd,hc1.trans hc hg1,hg1.trans hg hc1.size⟩
theorem run_stores {a:DA} {L T:Nat} {w:World} {S:Fp} {cur:Nat→Nat} (h:Dev a L T w S cur 0) {A:Option Addr} {m c base:Nat} {p:List Ins} {ws:List (Nat × Nat)} (ho:w.ownsRow base 211 3 (.slice A m c) m (insCells p)) (hb:∀ k,S k→k < base) (hp:IsStores ws p)
  (hw:∀ e∈ws,e.1 % 8=0∧e.1 < 64 * L∧e.2 < 18446744073709551616) (hl:ws.length≤1000) (hT:T+(2 * ws.length+1)≤1000000000) :
  Calls Tryz.prog 74 #[.slice A m c,memV a] w (RetDev a L (T+(2 * ws.length+1)) w S (wrS cur ws) 0 (.int .i64 0)):=by
 obtain ⟨hg,hr,hlen⟩:=isStores_good hp hw cur
 have hm:p.length=m:=by have:=ho.1;rw [insCells_len] at this;omega
 refine (run_any h A m c p (Reads.of_own ho) ?_ hg (by omega) (by omega)).mono ?_
 ·intro ad had hs
  rcases ho.2 with ⟨hv,_⟩ | ⟨g,cap,cs,hv,hge,_⟩
  ·injection hv with h1;rw [h1] at had;cases had
  ·injection hv with h1
   rw [h1] at had
   injection had with h2
   subst h2
   have:=hb _ hs
   simp at this
   omega
 ·rintro e w' ⟨he,S',hd,hc,hgr⟩
  rw [hr] at hd
  exact ⟨he,S',hd.more (by omega) (by omega),hc,hgr⟩
theorem one_reads (w:World) (o v:Nat):Reads (w.alloc (.cells #[.int .u64 (o:Int), .int .u64 (v:Int)] 90)) (w.alloc (.cells #[.int .u64 (o:Int), .int .u64 (v:Int)] 90)).heap.size 2 (some ⟨w.heap.size,0,none⟩) 1 (wrCells [(o,v)]):=by
 rw [show (w.alloc (.cells #[.int .u64 (o:Int), .int .u64 (v:Int)] 90)).heap.size=w.heap.size+1 by simp]
 exact row_reads_at w _ rfl _ 1 2 90 _ rfl rfl
theorem mark_any (a:DA) (s n g v:Nat) (w:World) (hB:Blk w g 231 (logCells a s n)) (hs:64 * s < 18446744073709551616) :
  Calls Tryz.prog 127 #[.pointer (some ⟨g,0,none⟩), .int .u64 (v:Int)] w (RetProg w (IsStores [(64 * s,v)])):=by
 have f1:w.cell? ⟨g,1,none⟩=some (.int .u64 ((64 * s:Nat):Int)):=hB.cell 1
 have HS:=hid (stores_small _ 1 1 _ _ (one_reads w (64 * s) v) (by omega) (by omega) (fun e he=>by simp at he;subst he;exact hs))
 generalize 64 * s=o at *
 clear hB
 go_enter Tryz.func127,Tryz.ntmps127
 go_wp2_with (go_at_call 73;refine HS.out.mono ?_;intro e w1 h1;have h2:=RetProg.back ((Below.refl _ _).alloc (Nat.le_refl _) _) h1;obtain ⟨A1,m1,c1,p1,rfl,hp1,ho1,hb1⟩:=h2;have HP1:=hid hp1;have HO1:=hid ho1;have HB1:=hid hb1;clear h1 hp1 ho1 hb1)
 go_ret
 exact ⟨_,_,_,_,rfl,HP1.out,HO1.out,HB1.out⟩
theorem redoFormat_any {a:DA} {L T:Nat} {w:World} {S:Fp} {cur:Nat→Nat} (h:Dev a L T w S cur 0) (s n:Nat) (hn:26≤n) (hs:s+n≤L) (hT:T+3≤1000000000) :
  Calls Tryz.prog 101 #[memV a, .int .i64 (s:Int), .int .i64 (n:Int)] w (RetDev a L (T+3) w S (wrS cur [(64 * s,0)]) 0 (.int .i64 0)):=by
 have HD:=hid h
 have HH:=hid (handle_any h s n hn hs)
 have HB1:Hid (Below w.heap.size w (w.alloc (.cells (logCells a s n) 231))):=(Below.refl _ _).alloc (Nat.le_refl _) _
 obtain ⟨ls,exe,per,cs,lsC,hdc,hnt⟩:=HD.out.below HB1.out
 have hL:=hdc.hL
 obtain ⟨f0,_,_,_,g2⟩:=hdc.facts (j:=0) (by omega)
 have HM:=hid (mark_any a s n w.heap.size 0 (w.alloc (.cells (logCells a s n) 231)) (Blk.new _ _ _) (by omega))
 have HSL:=hid hdc.lt
 have HR:Hid (∀ (A:Option Addr) (m c:Nat) (p:List Ins) (w1:World),IsStores [(64 * s,0)] p→w1.ownsRow (w.alloc (.cells (logCells a s n) 231)).heap.size 211 3 (.slice A m c) m (insCells p)→Below (w.alloc (.cells (logCells a s n) 231)).heap.size (w.alloc (.cells (logCells a s n) 231)) w1 →
   Calls Tryz.prog 74 #[.slice A m c,memV a] w1 (RetDev a L (T+3) w S (wrS cur [(64 * s,0)]) 0 (.int .i64 0))):=fun A m c p w1 hp ho hb=>by
  refine (run_stores ((HD.out.below HB1.out).below hb) ho HSL.out hp (fun e he=>by simp at he;subst he;omega) (by simp) (by simpa using hT)).mono ?_
  intro e w2 h2
  exact RetDev.back (HB1.out.trans (hb.mono (by simp))) (by simpa using h2)
 have hmE:=methErr (some ⟨a.th 0,0,none⟩)
 clear hdc hnt h HB1 HD HSL
 unfold memV at *
 go_enter Tryz.func101,Tryz.ntmps101
 go_wp2_with (first
  | (go_at_call 143;refine HH.out.mono ?_;rintro e w1 ⟨rfl,rfl⟩)
  | (go_at_call 127;refine HM.out.mono ?_;rintro e w1 ⟨A1,m1,c1,p1,rfl,hp1,ho1,hb1⟩;have HRR:=hid (HR.out A1 m1 c1 p1 w1 hp1 ho1 hb1);clear hp1 ho1 hb1)
  | (go_at_call 74;refine HRR.out.mono ?_;rintro e w2 ⟨rfl,h2⟩;have HZ:=hid h2;clear h2)
  | go_in)
 go_ret
 exact ⟨rfl,HZ.out⟩
end
section
open Go.RowKit
def dirCells (a:DA) (h r:Nat):Array Value:=#[.pointer (some ⟨h,0,none⟩), .pointer (some ⟨a.th 0,0,none⟩), .pointer (some ⟨r,0,none⟩)]
def dirV (d:Nat):Value := .iface 43 (.pointer (some ⟨d,0,none⟩))
theorem methDStore (p : Option Addr) (w : World) : (method 563 43 (.pointer p) "Store").run Tryz.prog w = .ok (293, .pointer p) w := by kernel_rfl
theorem methDFlush (p : Option Addr) (w : World) : (method 563 43 (.pointer p) "Flush").run Tryz.prog w = .ok (290, .pointer p) w := by kernel_rfl
theorem methDFence (p : Option Addr) (w : World) : (method 563 43 (.pointer p) "Fence").run Tryz.prog w = .ok (289, .pointer p) w := by kernel_rfl
theorem methDLoad (p : Option Addr) (w : World) : (method 563 43 (.pointer p) "Load").run Tryz.prog w = .ok (291, .pointer p) w := by kernel_rfl
theorem methDErr (p : Option Addr) (w : World) : (method 563 43 (.pointer p) "Err").run Tryz.prog w = .ok (288, .pointer p) w := by kernel_rfl
theorem methDSize (p : Option Addr) (w : World) : (method 563 43 (.pointer p) "Size").run Tryz.prog w = .ok (292, .pointer p) w := by kernel_rfl
section
variable {a:DA} {L T:Nat} {w:World} {S:Fp} {cur:Nat→Nat} {F:Nat} {d g r:Nat}
theorem storeD (h:Dev a L T w S cur 0) (hB:Blk w d 147 (dirCells a g r)) (off v:Nat) (h8:off % 8=0) (hlt:off < 64 * L) (hT:T < 1000000000) :
  Calls Tryz.prog 293 #[.pointer (some ⟨d,0,none⟩), .int .u64 (off:Int), .int .u64 (v:Int)] w (RetDev a L (T+1) w S (upd cur (off / 8) v) 0 (.tuple #[])):=by
 have HD:=hid (store_dev h off v h8 hlt hT)
 have c1:w.cell? ⟨d,1,none⟩=some (.pointer (some ⟨a.th 0,0,none⟩)):=hB.cell 1
 clear h hB
 go_enter Tryz.func293,Tryz.ntmps293
 go_wp2_with fail
 refine HD.out.mono ?_
 rintro e w1 ⟨rfl,S1,hd1,hc1,hg1⟩
 have HE:=hid (show Dev a L (T+1) w1 S1 (upd cur (off / 8) v) 0∧Chg S w w1∧Grew S S1 w from ⟨hd1,hc1,hg1⟩)
 clear hd1 hc1 hg1
 go_wp2
 go_end0
 exact ⟨rfl,S1,HE.out.1,HE.out.2.1,HE.out.2.2⟩
theorem flushD (h:Dev a L T w S cur F) (hB:Blk w d 147 (dirCells a g r)) (off:Nat) (hlt:off < 64 * L) (hF:F < 1000000000) :
  Calls Tryz.prog 290 #[.pointer (some ⟨d,0,none⟩), .int .u64 (off:Int)] w (RetDev a L T w S cur (F+1) (.tuple #[])):=by
 have HD:=hid (flush_dev h off hlt hF)
 have c1:w.cell? ⟨d,1,none⟩=some (.pointer (some ⟨a.th 0,0,none⟩)):=hB.cell 1
 clear h hB
 go_enter Tryz.func290,Tryz.ntmps290
 go_wp2_with fail
 refine HD.out.mono ?_
 rintro e w1 ⟨rfl,S1,hd1,hc1,hg1⟩
 have HE:=hid (show Dev a L T w1 S1 cur (F+1)∧Chg S w w1∧Grew S S1 w from ⟨hd1,hc1,hg1⟩)
 clear hd1 hc1 hg1
 go_wp2
 go_end0
 exact ⟨rfl,S1,HE.out.1,HE.out.2.1,HE.out.2.2⟩
theorem fenceD (h:Dev a L T w S cur F) (hB:Blk w d 147 (dirCells a g r))  :
  Calls Tryz.prog 289 #[.pointer (some ⟨d,0,none⟩)] w (RetDev a L T w S cur 0 (.tuple #[])):=by
 have HD:=hid (fence_dev h)
 have c1:w.cell? ⟨d,1,none⟩=some (.pointer (some ⟨a.th 0,0,none⟩)):=hB.cell 1
 clear h hB
 go_enter Tryz.func289,Tryz.ntmps289
 go_wp2_with fail
 refine HD.out.mono ?_
 rintro e w1 ⟨rfl,S1,hd1,hc1,hg1⟩
 have HE:=hid (show Dev a L T w1 S1 cur 0∧Chg S w w1∧Grew S S1 w from ⟨hd1,hc1,hg1⟩)
 clear hd1 hc1 hg1
 go_wp2
 go_end0
 exact ⟨rfl,S1,HE.out.1,HE.out.2.1,HE.out.2.2⟩
theorem loadD (h:Dev a L T w S cur F) (hB:Blk w d 147 (dirCells a g r)) (off v:Nat) (h8:off % 8=0) (hlt:off < 64 * L) (hv:cur (off / 8)=v) :
  Calls Tryz.prog 291 #[.pointer (some ⟨d,0,none⟩), .int .u64 (off:Int)] w (fun e w'=>e = .returned (.int .u64 (v:Int))∧w=w'):=by
 have HD:=hid (load_at h off v h8 hlt hv w (Below.refl _ _))
 have c1:w.cell? ⟨d,1,none⟩=some (.pointer (some ⟨a.th 0,0,none⟩)):=hB.cell 1
 clear h hB
 go_enter Tryz.func291,Tryz.ntmps291
 go_wp2_with fail
 refine HD.out.mono ?_
 rintro e w1 ⟨rfl,rfl⟩
 go_wp2
 go_ret
 exact ⟨rfl,rfl⟩
theorem errD (h:Dev a L T w S cur F) (hB:Blk w d 147 (dirCells a g r))  :
  Calls Tryz.prog 288 #[.pointer (some ⟨d,0,none⟩)] w (fun e w'=>e = .returned (.int .i64 0)∧w=w'):=by
 have HD:=hid (thErr h)
 have c1:w.cell? ⟨d,1,none⟩=some (.pointer (some ⟨a.th 0,0,none⟩)):=hB.cell 1
 clear h hB
 go_enter Tryz.func288,Tryz.ntmps288
 go_wp2_with fail
 refine HD.out.mono ?_
 rintro e w1 ⟨rfl,rfl⟩
 go_wp2
 go_ret
 exact ⟨rfl,rfl⟩
theorem sizeD (h:Dev a L T w S cur F) (hB:Blk w d 147 (dirCells a g r))  :
  Calls Tryz.prog 292 #[.pointer (some ⟨d,0,none⟩)] w (fun e w'=>e = .returned (.int .u64 ((64 * L:Nat):Int))∧w=w'):=by
 have HD:=hid (size_dev h)
 rw [show ((64 * L:Nat):Int)=(L:Int) * 64 by omega] at *
 have c1:w.cell? ⟨d,1,none⟩=some (.pointer (some ⟨a.th 0,0,none⟩)):=hB.cell 1
 clear h hB
 go_enter Tryz.func292,Tryz.ntmps292
 go_wp2_with fail
 refine HD.out.mono ?_
 rintro e w1 ⟨rfl,rfl⟩
 go_wp2
 go_ret
 exact ⟨rfl,rfl⟩
end
theorem execD_st {a:DA} {L T:Nat} {w:World} {S:Fp} {cur:Nat→Nat} {d g r:Nat} (h:Dev a L T w S cur 0) (hB:Blk w d 147 (dirCells a g r)) (off v:Nat) (h8:off % 8=0) (hlt:off < 64 * L) (hT:T < 1000000000) :
  Calls Tryz.prog 114 #[.agg #[.int .u8 1, .int .u64 (off:Int), .int .u64 (v:Int)],dirV d] w (RetDev a L (T+1) w S (upd cur (off / 8) v) 0 (.tuple #[])):=by
 have HW:=hid (fun o=>h.below ((Below.refl _ w).alloc (Nat.le_refl _) o))
 have HBD:=hid (fun o=>hB.alloc o)
 clear h hB
 have hm:=methDStore (some ⟨d,0,none⟩)
 unfold dirV
 go_enter Tryz.func114,Tryz.ntmps114
 go_wp2_with fail
 refine (storeD (HW.out _) (HBD.out _) off v h8 hlt hT).mono ?_
 rintro e w1 ⟨rfl,S1,hd1,hc1,hg1⟩
 have HD:=hid hd1
 have HC:Hid (Chg S w w1):=((Chg.refl S w).alloc _).trans hc1 (Grew.refl _ _)
 have HG:Hid (Grew S S1 w):=fun k hk=>(hg1 k hk).imp id (fun h=>by simp at h;omega)
 clear hd1 hc1 hg1
 go_wp2
 go_end0
 exact ⟨rfl,S1,HD.out,HC.out,HG.out⟩
theorem execD_fl {a:DA} {L T:Nat} {w:World} {S:Fp} {cur:Nat→Nat} {F:Nat} {d g r:Nat} (h:Dev a L T w S cur F) (hB:Blk w d 147 (dirCells a g r)) (off:Nat) (hlt:off < 64 * L) (hF:F < 1000000000) :
  Calls Tryz.prog 114 #[.agg #[.int .u8 2, .int .u64 (off:Int), .int .u64 0],dirV d] w (RetDev a L T w S cur (F+1) (.tuple #[])):=by
 have HW:=hid (fun o=>h.below ((Below.refl _ w).alloc (Nat.le_refl _) o))
 have HBD:=hid (fun o=>hB.alloc o)
 clear h hB
 have hm:=methDFlush (some ⟨d,0,none⟩)
 unfold dirV
 go_enter Tryz.func114,Tryz.ntmps114
 go_wp2_with fail
 refine (flushD (HW.out _) (HBD.out _) off hlt hF).mono ?_
 rintro e w1 ⟨rfl,S1,hd1,hc1,hg1⟩
 have HD:=hid hd1
 have HC:Hid (Chg S w w1):=((Chg.refl S w).alloc _).trans hc1 (Grew.refl _ _)
 have HG:Hid (Grew S S1 w):=fun k hk=>(hg1 k hk).imp id (fun h=>by simp at h;omega)
 clear hd1 hc1 hg1
 go_wp2
 go_end0
 exact ⟨rfl,S1,HD.out,HC.out,HG.out⟩
theorem execD_fe {a:DA} {L T:Nat} {w:World} {S:Fp} {cur:Nat→Nat} {F:Nat} {d g r:Nat} (h:Dev a L T w S cur F) (hB:Blk w d 147 (dirCells a g r))  :
  Calls Tryz.prog 114 #[.agg #[.int .u8 3, .int .u64 0, .int .u64 0],dirV d] w (RetDev a L T w S cur 0 (.tuple #[])):=by
 have HW:=hid (fun o=>h.below ((Below.refl _ w).alloc (Nat.le_refl _) o))
 have HBD:=hid (fun o=>hB.alloc o)
 clear h hB
 have hm:=methDFence (some ⟨d,0,none⟩)
 unfold dirV
 go_enter Tryz.func114,Tryz.ntmps114
 go_wp2_with fail
 refine (fenceD (HW.out _) (HBD.out _)).mono ?_
 rintro e w1 ⟨rfl,S1,hd1,hc1,hg1⟩
 have HD:=hid hd1
 have HC:Hid (Chg S w w1):=((Chg.refl S w).alloc _).trans hc1 (Grew.refl _ _)
 have HG:Hid (Grew S S1 w):=fun k hk=>(hg1 k hk).imp id (fun h=>by simp at h;omega)
 clear hd1 hc1 hg1
 go_wp2
 go_end0
 exact ⟨rfl,S1,HD.out,HC.out,HG.out⟩
theorem execD_any {a:DA} {L T:Nat} {w:World} {S:Fp} {cur:Nat→Nat} {F:Nat} {d g r:Nat} (h:Dev a L T w S cur F) (hB:Blk w d 147 (dirCells a g r)) (i:Ins) (b:Bool) (hg:goodI L b i) (hb:b=false→F=0) (hT:T < 1000000000) (hF:F < 1000000000) :
  Calls Tryz.prog 114 #[.agg #[.int .u8 (i.op:Int), .int .u64 (i.o:Int), .int .u64 (i.v:Int)],dirV d] w (RetIns a L (T+1) w S (runI cur i) F (noteI b i)):=by
 cases i with
 | st o v =>
  obtain ⟨h1,h2,h3,_⟩:=hg
  have hF0:=hb h1
  subst hF0
  refine (execD_st h hB o v h2 h3 hT).mono ?_
  rintro e w' ⟨rfl,S',hd,hc,hgr⟩
  exact ⟨rfl,S',0,hd,fun _=>rfl,Nat.zero_le _,hc,hgr⟩
 | fl o =>
  refine (execD_fl h hB o hg hF).mono ?_
  rintro e w' ⟨rfl,S',hd,hc,hgr⟩
  exact ⟨rfl,S',F+1,hd.more (by omega) (by omega),fun h=>(by cases h),Nat.le_refl _,hc,hgr⟩
 | fe =>
  refine (execD_fe h hB).mono ?_
  rintro e w' ⟨rfl,S',hd,hc,hgr⟩
  exact ⟨rfl,S',0,hd.more (by omega) (by omega),fun _=>rfl,Nat.zero_le _,hc,hgr⟩
def RunDI (a:DA) (L T:Nat) (w wr:World) (S:Fp) (cur:Nat→Nat) (p:List Ins) (k:Nat):Prop :=
 ∃ S' F',Dev a L (T+k) wr S' (runP cur (p.take k)) F'∧(noteP false (p.take k)=false→F'=0)∧F'≤k∧Chg S w wr∧Grew S S' w
theorem runD_any {a:DA} {L T:Nat} {w:World} {S:Fp} {cur:Nat→Nat} {d g r:Nat} (h:Dev a L T w S cur 0) (hB:Blk w d 147 (dirCells a g r)) (hdS:¬ S d) (A:Option Addr) (n c:Nat) (p:List Ins) (hr:Reads w w.heap.size 3 A n (insCells p)) (hoff:∀ ad,A=some ad→¬ S ad.block) (hg:goodP L false p) (hn:n≤1000000) (hT:T+n≤1000000000) :
  Calls Tryz.prog 74 #[.slice A n c,dirV d] w (RetDev a L (T+n) w S (runP cur p) 0 (.int .i64 0)):=by
 have HV:=hid (validP_any A n c p w hr hn)
 have HLN:=hid (show p.length=n by have:=hr.1;rw [insCells_len] at this;omega)
 have HR:=hid hr
 have HOF:=hid hoff
 have HGD:=hid hg
 have HD0:=hid h
 have HSL:=hid h.lt
 have hmE:=methDErr (some ⟨d,0,none⟩)
 have hq:∀ W,(binOp .eql 166 (.iface 43 (.pointer (some ⟨d,0,none⟩))) .nilIface).run Tryz.prog W = .ok (.bool false) W:=fun W=>by rfl
 have HBB:=hid (show Blk w d _ _∧¬ S d from ⟨hB,hdS⟩)
 clear h hr hoff hg hB hdS
 unfold dirV
 go_enter Tryz.func74,Tryz.ntmps74
 go_wp2_with (go_at_call 113;refine HV.out.mono ?_;rintro e w1 ⟨rfl,hb1⟩;have HI0:Hid (RunDI a L T w w1 S cur p 0):=⟨S,0,HD0.out.below hb1,fun _=>rfl,Nat.le_refl _,Chg.of_below hb1,Grew.refl _ _⟩;clear hb1)
 go_loopw [16] (fun i wr=>∃ (k:Nat),k≤n∧i = .int .i64 k∧Hid (RunDI a L T w wr S cur p k)) (fun i _=>n - (Go.RowKit.intOf i).toNat)
 case atStart=>exact ⟨0,Nat.zero_le _,rfl,HI0⟩
 case round =>
  clear HI0 HD0 HV
  obtain ⟨k,hk,rfl,H⟩:=hrel
  by_cases hlt:k < n
  ·obtain ⟨S1,F1,hd,hf,hF1,hC,hG⟩:=H.out
   obtain ⟨hl,b,off,hA,hbB,f0,f1,f2⟩:=ins_facts (hC.reads HR.out (Nat.le_refl _) HOF.out) hlt
   subst hA
   have hgi:=goodP_at HGD.out k hl
   have HEX:=hid (fun o=>execD_any (hd.below ((Below.refl _ wr).alloc (Nat.le_refl _) o)) ((hC.blk HBB.out.1 HBB.out.2).alloc o) p[k] (noteP false (p.take k)) hgi hf (by omega) (by omega))
   have HRP:Hid (runI (runP cur (p.take k)) p[k]=runP cur (p.take (k+1))):=show _=_ by rw [List.take_succ_eq_append_getElem hl,runP_snoc]
   have HNP:Hid (noteI (noteP false (p.take k)) p[k]=noteP false (p.take (k+1))):=show _=_ by rw [List.take_succ_eq_append_getElem hl,noteP_app];rfl
   rw [HRP.out,HNP.out] at HEX
   have HC:=hid hC
   have HG:=hid hG
   unfold dirV at HEX
   generalize (p[k]).op=op at *
   generalize (p[k]).o=o at *
   generalize (p[k]).v=v at *
   have hz0:(0:Int)≤(k:Int):=by omega
   have hz1:(k:Int) < (n:Int):=by omega
   clear hgi hd hf hC hG H HRP HNP
   go_wp2_with fail
   refine (HEX.out _).mono ?_
   rintro e w2 ⟨rfl,S2,F2,hd2,hf2,hF2,hC2,hG2⟩
   have HN:Hid (RunDI a L T w w2 S cur p (k+1)):=⟨S2,F2,by rw [← Nat.add_assoc];exact hd2,hf2,by omega,HC.out.trans (S':=S1) (((Chg.refl S1 wr).alloc _).trans hC2 (Grew.refl _ _)) HG.out,HG.out.trans (w1:=wr) (fun j hj=>(hG2 j hj).imp id (fun h=>by simp at h;omega)) HC.out.size⟩
   clear hd2 hf2 hF2 hC2 hG2
   go_wp2
   go_roundw
   case rel=>exact ⟨k+1,by omega,by go_num,HN⟩
   case measure=>simp [Go.RowKit.intOf];omega
  ·obtain rfl:n=k:=by omega
   obtain ⟨S1,F1,hd,hf,hF1,hC,hG⟩:=H.out
   rw [List.take_of_length_le (by rw [HLN.out];exact Nat.le_refl _)] at hd hf
   have hF0:=hf (goodP_end HGD.out)
   subst hF0
   have HD:=hid hd
   have HC:=hid hC
   have HG:=hid hG
   have HER:=hid (errD hd (hC.blk HBB.out.1 HBB.out.2))
   clear hd hC hG hf H
   go_wp2_with (go_at_call 288;refine HER.out.mono ?_;rintro e w2 ⟨rfl,rfl⟩)
   go_ret
   exact ⟨rfl,S1,HD.out,HC.out,HG.out⟩
end
section
open Go.RowKit
def freeW (o:Nat):Nat:=sealW (3305111552+o)
theorem own_or (o:Nat) (ho:o < 65536):bits .or .u32 (o:Int) 3305111552=((3305111552+o:Nat):Int):=by
 have h:=u32_or_nat o 3305111552 (by omega) (by omega)
 rw [show ((3305111552:Nat):Int)=3305111552 from rfl] at h
 rw [h]
 congr 1
 have:=Nat.two_pow_add_eq_or_of_lt (i:=16) (b:=o) (by omega) 50432
 rw [show 2 ^ 16 * 50432=3305111552 from rfl] at this
 rw [Nat.or_comm,← this]
theorem wordFree_any (o:Nat) (ho:o < 65536) (w:World) (ht:Tab w) :
  Calls Tryz.prog 228 #[.agg #[.int .i64 (-1), .int .i64 (-1), .int .u16 (o:Int)]] w fun e w'=>e = .returned (.int .u64 (freeW o:Int))∧Below w.heap.size w w':=by
 have HB0:Hid (∀ x,Below w.heap.size w (w.alloc x)):=fun x=>(Below.refl _ _).alloc (Nat.le_refl _) x
 have HS:=hid (fun x=>seal_any (3305111552+o) (by omega) (w.alloc x) (ht.below (HB0.out x)))
 have e1:=own_or o ho
 have u1:IntKind.u32.wrap (o:Int)=(o:Int):=by rw [IntKind.wrap_u32'];omega
 unfold freeW
 generalize 3305111552+o=z at *
 clear ht
 go_enter Tryz.func228,Tryz.ntmps228
 go_wp2_with (go_at_call 237;refine (HS.out _).mono ?_;rintro e w1 ⟨rfl,hb1⟩;have HB1:=hid ((HB0.out _).trans (hb1.mono (by simp)));clear hb1)
 go_ret
 exact ⟨rfl,HB1.out⟩
def RetProgOk (w:World) (P:List Ins→Prop) (e:Ending) (w':World):Prop:=∃ A m c p,e = .returned (.tuple #[.slice A m c, .int .i64 0])∧P p∧w'.ownsRow w.heap.size 211 3 (.slice A m c) m (insCells p)∧Below w.heap.size w w'
theorem clear_any (c o:Nat) (hc:c≤4064) (ho:o < 65536) (h0:o≠0) (w:World) (ht:Tab w) :
  Calls Tryz.prog 187 #[.int .i64 (c:Int), .int .u16 (o:Int)] w (RetProgOk w (IsStores [(64 * c,freeW o)])):=by
 have HT:=hid ht
 have d1:decide ((0:Int)≤(c:Int))=true:=decide_eq_true (by omega)
 have d2:decide ((c:Int)≤4064)=true:=decide_eq_true (by omega)
 have d3:((o:Int) == 0)=false:=by rw [beq_eq_false_iff_ne];omega
 have u1:IntKind.u64.wrap (c:Int)=(c:Int):=by rw [IntKind.wrap_u64];omega
 have hfl:64 * c < 18446744073709551616:=by omega
 have u2:IntKind.u64.wrap ((c:Int) * 64)=((64 * c:Nat):Int):=by rw [IntKind.wrap_u64];omega
 generalize 64 * c=z at *
 clear ht
 go_enter Tryz.func187,Tryz.ntmps187
 go_wp2
 have HC:=hid (Blk.new w 219 #[.int .i64 (-1), .int .i64 (-1), .int .u16 (o:Int)])
 have HB0:Hid (Below w.heap.size w (w.alloc (.cells #[.int .i64 (-1), .int .i64 (-1), .int .u16 (o:Int)] 219))):=(Below.refl _ _).alloc (Nat.le_refl _) _
 generalize w.alloc (.cells #[.int .i64 (-1), .int .i64 (-1), .int .u16 (o:Int)] 219)=W at *
 have HBD:Hid (Below W.heap.size W W.drew):=(Below.refl _ _).drew
 refine wp_region_script (fun w'=>Below W.heap.size W w') 4 [(true,0),(true,2),(false,1),(false,3)] (by kernel_rfl) (by kernel_rfl) HBD.out ?_
 refine wpScript_take (.int .i64 (c:Int)) (by rfl) (by rfl) (fun w' hS=>?_) ?_
 ·go_simp
 simp only [zA,zB,Act.put,zD,zE,zF]
 refine wpScript_take (.agg #[.int .i64 (-1), .int .i64 (-1), .int .u16 (o:Int)]) (by rfl) (by rfl) (fun w' hS=>?_) ?_
 ·have f0:w'.cell? ⟨w.heap.size,0,none⟩=some (.int .i64 (-1)):=(HC.out.below hS HC.out.lt).cell 0
  have f1:w'.cell? ⟨w.heap.size,1,none⟩=some (.int .i64 (-1)):=(HC.out.below hS HC.out.lt).cell 1
  have f2:w'.cell? ⟨w.heap.size,2,none⟩=some (.int .u16 (o:Int)):=(HC.out.below hS HC.out.lt).cell 2
  go_simp
 simp only [zA,zB,zC,Act.put,zD,zE,zF]
 refine wpScript_do (by rfl) ?_
 go_wp2
 refine ⟨HBD.out,?_⟩
 refine wpScript_do (by rfl) ?_
 go_wp2_with fail
 refine (wordFree_any o ho W.drew ((HT.out.below HB0.out).below HBD.out)).mono ?_
 rintro e w1 ⟨rfl,hb1⟩
 have HB1:=hid (HBD.out.trans (hb1.mono HBD.out.size))
 have HS:=hid (stores_small _ 1 1 _ _ (one_reads w1 z (freeW o)) (by omega) (by omega) (fun e he=>by simp at he;subst he;exact hfl))
 have HB2:Hid (∀ x,Below w.heap.size w (w1.alloc x)):=fun x=>((HB0.out.trans (HB1.out.mono HB0.out.size)).alloc (Nat.le_trans HB0.out.size HB1.out.size) x)
 generalize freeW o=y at *
 clear hb1
 go_wp2_with fail
 refine ⟨HB1.out,?_⟩
 show wpList ..
 simp only [List.drop_succ_cons,List.drop_zero]
 go_wp2_with (go_at_call 73;refine HS.out.mono ?_;intro e w2 h1;have h2:=RetProg.back (HB2.out _) h1;obtain ⟨A1,m1,c1,p1,rfl,hp1,ho1,hb1⟩:=h2;have HP1:=hid hp1;have HO1:=hid ho1;have HB1:=hid hb1;clear h1 hp1 ho1 hb1)
 refine NoPanic.normal ?_
 go_wp2
 go_ret2
 exact ⟨_,_,_,_,rfl,HP1.out,HO1.out,HB1.out⟩
end
end Go.Proofs.YtnlokpakiambaaaGreatDoor
