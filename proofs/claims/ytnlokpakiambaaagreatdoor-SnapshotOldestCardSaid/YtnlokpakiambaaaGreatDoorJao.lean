/- The walks and laws that the claim leans on, part 15. -/
import Derived.Test.YtnlokpakiambaaaGreatDoorJaj
set_option maxRecDepth 100000
set_option maxHeartbeats 16000000
namespace Go.Proofs.YtnlokpakiambaaaGreatDoor
open Go.Lib (hid)
section
open Go.RowKit
def freeFrom (V:Nat):Nat→Nat→Option Nat
 | 0,_=>none
 | n+1,j=>if bitAt V j then freeFrom V n (j+1) else some j
def freeR (V c j:Nat):Value:=match freeFrom V (perC c - j) j with
 | some i => .int .i64 (i:Int)
 | none => .int .i64 (-1)
theorem bit_at0 (V i:Nat) (hV:V < 18446744073709551616):(bits .and .u64 ((V:Int) / 2 ^ i) 1 == 0) = !bitAt V i:=by
 have e:(V:Int) / 2 ^ i=((V / 2 ^ i:Nat):Int):=by push_cast;rfl
 have h:=Nat.div_le_self V (2 ^ i)
 rw [e]
 unfold bitAt
 generalize V / 2 ^ i=y at *
 rw [Lib.u64_and1 _ (by omega) (by omega)]
 have e2:(y:Int) % 2=((y % 2:Nat):Int):=by omega
 rw [e2]
 have h2:y % 2=0∨y % 2=1:=by omega
 rcases h2 with h2 | h2 <;> rw [h2] <;> rfl
section
variable {a:DA} {L T:Nat} {w:World} {S:Fp} {cur:Nat→Nat} {F:Nat}
theorem free_any (h:Dev a L T w S cur F) (hp:Pay w) (ln cl g V j:Nat) (hl:ln+32≤L) (hc:cl < 5) (hV:V < 18446744073709551616) (hv:cur (8 * ln+1)=V) :
  Calls Tryz.prog 305 #[chV a ln cl 0 g, .int .i64 (j:Int)] w fun e w'=>e = .returned (freeR V cl j)∧Below w.heap.size w w':=by
 have hb0:Below w.heap.size w (w.alloc (.cells (chCells a ln cl g) 221)):=(Below.refl _ _).alloc (Nat.le_refl _) _
 have HB0:=hid hb0
 have HHas:=hid (chHas_any a ln cl 0 g j hc _ (hp.below hb0))
 have HBi:Hid (∀ W,Below w.heap.size w W→Calls Tryz.prog 211 #[chV a ln cl 0 g] W fun e w'=>e = .returned (.int .u64 (V:Int))∧Below W.heap.size W w'):=hid (fun W hW=>bits_any (h.below hW) ln cl g V hl hv)
 have HN:Hid (∀ W,Below w.heap.size w W→Calls Tryz.prog 249 #[chV a ln cl 0 g] W fun e w'=>e = .returned (.int .i64 (perC cl:Int))∧Below W.heap.size W w'):=hid (fun W hW=>chBlocks_any a ln cl 0 g hc W (hp.below hW))
 have HK:=hid (Blk.new w 221 (chCells a ln cl g))
 have hpc:=per_le cl
 have d0:decide ((j:Int) < 0)=false:=decide_eq_false (by omega)
 clear h hp hb0 hv
 unfold chV at *
 unfold chCells memV at *
 by_cases hj:j < perC cl
 ·rw [decide_eq_true hj] at HHas
  have HR:Hid (freeR V cl j=match freeFrom V (perC cl - j) j with
   | some i => .int .i64 (i:Int)
   | none => .int .i64 (-1)):=hid rfl
  generalize freeR V cl j=rr at *
  generalize perC cl=n at *
  go_enter Tryz.func305,Tryz.ntmps305
  go_wp2_with fail
  refine HHas.out.mono ?_
  rintro e w1 ⟨rfl,hb1⟩
  have HB1:=hid (HB0.out.trans (hb1.mono HB0.out.size))
  have hk:=HK.out.below hb1 HK.out.lt
  have HK1:=hid hk
  have f0:w1.cell? ⟨w.heap.size,0,none⟩=some (.iface 41 (.pointer (some ⟨a.th 0,0,none⟩))):=hk.cell 0
  have f1:w1.cell? ⟨w.heap.size,1,none⟩=some (.int .i64 (ln:Int)):=hk.cell 1
  have f2:w1.cell? ⟨w.heap.size,2,none⟩=some (.int .i64 (cl:Int)):=hk.cell 2
  have f3:w1.cell? ⟨w.heap.size,3,none⟩=some (.int .i64 0):=hk.cell 3
  have f4:w1.cell? ⟨w.heap.size,4,none⟩=some (.int .u16 (g:Int)):=hk.cell 4
  clear hb1 hk HK HHas
  go_wp2_with fail
  refine (HBi.out _ HB1.out).mono ?_
  rintro e w2 ⟨rfl,hb2⟩
  have HB2:=hid (HB1.out.trans (hb2.mono HB1.out.size))
  have HK2:=hid (HK1.out.below hb2 HK1.out.lt)
  clear hb2 HBi HB1 HK1 f0 f1 f2 f3 f4
  go_wp2_with fail
  go_loopw [6] (fun i wr=>∃ k:Nat,j≤k∧k≤n∧i = .int .i64 (k:Int)∧Hid (freeFrom V (n - j) j=freeFrom V (n - k) k)∧Hid (Below w.heap.size w wr)∧Hid (Blk wr w.heap.size 221 #[.iface 41 (.pointer (some ⟨a.th 0,0,none⟩)), .int .i64 (ln:Int), .int .i64 (cl:Int), .int .i64 0, .int .u16 (g:Int)])) (fun i _=>n - (Go.RowKit.intOf i).toNat)
  case atStart=>exact ⟨j,Nat.le_refl _,Nat.le_of_lt hj,rfl,hid rfl,HB2,HK2⟩
  case round =>
   obtain ⟨k,hk1,hk2,rfl,HE,HBr,HKr⟩:=hrel
   have f0:wr.cell? ⟨w.heap.size,0,none⟩=some (.iface 41 (.pointer (some ⟨a.th 0,0,none⟩))):=HKr.out.cell 0
   have f1:wr.cell? ⟨w.heap.size,1,none⟩=some (.int .i64 (ln:Int)):=HKr.out.cell 1
   have f2:wr.cell? ⟨w.heap.size,2,none⟩=some (.int .i64 (cl:Int)):=HKr.out.cell 2
   have f3:wr.cell? ⟨w.heap.size,3,none⟩=some (.int .i64 0):=HKr.out.cell 3
   have f4:wr.cell? ⟨w.heap.size,4,none⟩=some (.int .u16 (g:Int)):=HKr.out.cell 4
   clear HB2 HK2
   by_cases hkn:k < n
   ·have dk:decide ((k:Int) < (n:Int))=true:=decide_eq_true (by omega)
    have s1:IntKind.u64.wrap (k:Int)=(k:Int):=by rw [IntKind.wrap_u64];omega
    have ebit:=bit_at0 V k hV
    have e1:freeFrom V (n - k) k=if bitAt V k then freeFrom V (n - (k+1)) (k+1) else some k:=by
     rw [show n - k=(n - (k+1))+1 by omega]
     rfl
    have HE2:=hid (HE.out.trans e1)
    clear HE e1
    go_wp2_with fail
    refine (HN.out _ HBr.out).mono ?_
    rintro e w3 ⟨rfl,hb3⟩
    have HB3:=hid (HBr.out.trans (hb3.mono HBr.out.size))
    have HK3:=hid (HKr.out.below hb3 HKr.out.lt)
    clear hb3 HBr HKr f0 f1 f2 f3 f4
    cases hb:bitAt V k
    ·rw [hb] at ebit HE2
     go_wp2
     go_ret
     refine ⟨?_,HB3.out⟩
     rw [HR.out,HE2.out]
     rfl
    ·rw [hb] at ebit HE2
     go_wp2
     go_roundw
     case rel=>exact ⟨k+1,by omega,by omega,by go_num,HE2,HB3,HK3⟩
     case measure=>simp [Go.RowKit.intOf];omega
   ·obtain rfl:k=n:=by omega
    have dk:decide ((k:Int) < (k:Int))=false:=decide_eq_false (by omega)
    go_wp2_with fail
    refine (HN.out _ HBr.out).mono ?_
    rintro e w3 ⟨rfl,hb3⟩
    have HB3:=hid (HBr.out.trans (hb3.mono HBr.out.size))
    clear hb3 HBr HKr f0 f1 f2 f3 f4
    go_wp2
    go_ret
    refine ⟨?_,HB3.out⟩
    rw [HR.out,HE.out,Nat.sub_self]
    rfl
 ·rw [decide_eq_false hj] at HHas
  have HR:Hid (freeR V cl j = .int .i64 (-1)):=hid (by unfold freeR;rw [show perC cl - j=0 by omega];rfl)
  generalize freeR V cl j=rr at *
  go_enter Tryz.func305,Tryz.ntmps305
  go_wp2_with fail
  refine HHas.out.mono ?_
  rintro e w1 ⟨rfl,hb1⟩
  have HB1:=hid (HB0.out.trans (hb1.mono HB0.out.size))
  clear hb1 HK HHas
  go_wp2
  go_ret
  exact ⟨by rw [HR.out];rfl,HB1.out⟩
end
end
section
open Go.RowKit
section
variable {a:DA} {L T:Nat} {w:World} {S:Fp} {cur:Nat→Nat} {F:Nat}
theorem thErr {a:DA} {L T:Nat} {w:World} {S:Fp} {cur:Nat→Nat} {F:Nat} (h:Dev a L T w S cur F) :
  Calls Tryz.prog 27 #[.pointer (some ⟨a.th 0,0,none⟩)] w fun e w'=>e = .returned (.int .i64 0)∧w=w':=by
 obtain ⟨ls,exe,per,cs,lsC,hdc,hnt⟩:=h
 obtain ⟨f0,f2,f3,f5,f4⟩:=hdc.facts (j:=0) (by omega)
 clear hdc hnt
 go_enter Tryz.func27,Tryz.ntmps27
 go_wp2
 go_ret
 exact ⟨rfl,rfl⟩
def kindOf (b:BK) (kind:Nat):Nat:=if b.st=177 then b.kind else kind
theorem pointer_any (h:Dev a L T w S cur F) (ht:Tab w) (hp:Pay w) (ln cl g V i:Nat) (b:BK) (hb:b.In) (hgood:b.good=true) (hs:b.st=176∨b.st=177) (hbit:bitAt V i=decide (b.st≠176)) (hl:ln+32≤L) (hc:cl < 5) (hi:i < perC cl) (hV:V < 18446744073709551616) (hv:cur (8 * ln+1)=V) (hw:cur (8 * ln+offB cl i)=b.w) (kind:Nat) (hk1:0 < kindOf b kind) (hk2:kindOf b kind < 128) (hk3:kind < 256) (hg0:0 < b.gen) :
  Calls Tryz.prog 306 #[chV a ln cl 0 g, .int .i64 (i:Int), .int .u8 (kind:Int)] w fun e w'=>e = .returned (.tuple #[.int .u64 (pMk (64 * ln+8 * offB cl i+8) b.gen (kindOf b kind):Int), .int .i64 0])∧Below w.heap.size w w':=by
 obtain ⟨_,_,_,_,_,hdc,_⟩:=id h
 have hL:=hdc.hL
 clear hdc
 have ho:=off_lt hi
 have hgb:=hb.g
 have hb0:Below w.heap.size w (w.alloc (.cells (chCells a ln cl g) 221)):=(Below.refl _ _).alloc (Nat.le_refl _) _
 have HB0:=hid hb0
 have HHas:=hid (chHas_any a ln cl 0 g i hc _ (hp.below hb0))
 have HEr:Hid (∀ W,Below w.heap.size w W→Calls Tryz.prog 27 #[.pointer (some ⟨a.th 0,0,none⟩)] W fun e w'=>e = .returned (.int .i64 0)∧W=w'):=hid (fun W hW=>thErr (h.below hW))
 have HRd:Hid (∀ W,Below w.heap.size w W→Calls Tryz.prog 162 #[chV a ln cl 0 g, .int .i64 (i:Int)] W fun e w'=>e = .returned (.tuple #[b.v, .bool true, .bool (bitAt V i)])∧Below W.heap.size W w'):=hid (fun W hW=>read_any (h.below hW) (ht.below hW) (hp.below hW) ln cl g V i b hb hl hc hi hV hv hw)
 have HGd:Hid (∀ W,Calls Tryz.prog 218 #[b.v] W fun e w'=>e = .returned (.bool true)∧Below W.heap.size W w'):=hid (fun W=>by rw [← hgood];exact good_any b hb W)
 have HAt:Hid (∀ W,Below w.heap.size w W→Calls Tryz.prog 213 #[chV a ln cl 0 g, .int .i64 (i:Int)] W fun e w'=>e = .returned (.int .u64 ((64 * ln+8 * offB cl i:Nat):Int))∧Below W.heap.size W w'):=hid (fun W hW=>blkAt_any ln cl g i (by omega) hc hi W (hp.below hW))
 have HMk:Hid (∀ W,Calls Tryz.prog 309 #[.int .u64 ((64 * ln+8 * offB cl i+8:Nat):Int), .int .u16 (b.gen:Int), .int .u8 (kindOf b kind:Int)] W fun e w'=>e = .returned (.tuple #[.int .u64 (pMk (64 * ln+8 * offB cl i+8) b.gen (kindOf b kind):Int), .int .i64 0])∧W=w'):=hid (fun W=>ptrMake_any _ _ _ (by omega) (by omega) (by omega) hg0 hgb hk1 hk2 W)
 have HK:=hid (Blk.new w 221 (chCells a ln cl g))
 have hm:=methErr (some ⟨a.th 0,0,none⟩)
 have u1:IntKind.u64.wrap (((64 * ln+8 * offB cl i:Nat):Int)+8)=((64 * ln+8 * offB cl i+8:Nat):Int):=by rw [IntKind.wrap_u64];omega
 have hz:64 * ln+8 * offB cl i < 1000000000:=by omega
 rw [decide_eq_true hi] at HHas
 rw [hbit] at HRd
 clear h ht hp hb0 hv hw hgood hbit ho
 generalize pMk (64 * ln+8 * offB cl i+8) b.gen (kindOf b kind)=pp at *
 generalize 64 * ln+8 * offB cl i+8=z8 at *
 generalize 64 * ln+8 * offB cl i=z at *
 obtain ⟨gen,kd,st⟩:=b
 unfold chV BK.v at *
 unfold chCells memV at *
 dsimp only at *
 rcases hs with rfl | rfl
 ·have hko:kindOf ⟨gen,kd,176⟩ kind=kind:=rfl
  have hk1':0 < kind:=hko ▸ hk1
  have hk2':kind < 128:=hko ▸ hk2
  rw [hko] at HMk
  clear hk1 hk2 hko
  have dk0:((kind:Int) == 0)=false:=by rw [beq_eq_false_iff_ne];omega
  have dk1:decide (127 < (kind:Int))=false:=decide_eq_false (by omega)
  go_enter Tryz.func306,Tryz.ntmps306
  go_wp2_with fail
  refine HHas.out.mono ?_
  rintro e w1 ⟨rfl,hb1⟩
  have HB1:=hid (HB0.out.trans (hb1.mono HB0.out.size))
  have hk:=HK.out.below hb1 HK.out.lt
  have HK1:=hid hk
  have f0:w1.cell? ⟨w.heap.size,0,none⟩=some (.iface 41 (.pointer (some ⟨a.th 0,0,none⟩))):=hk.cell 0
  have f1:w1.cell? ⟨w.heap.size,1,none⟩=some (.int .i64 (ln:Int)):=hk.cell 1
  have f2:w1.cell? ⟨w.heap.size,2,none⟩=some (.int .i64 (cl:Int)):=hk.cell 2
  have f3:w1.cell? ⟨w.heap.size,3,none⟩=some (.int .i64 0):=hk.cell 3
  have f4:w1.cell? ⟨w.heap.size,4,none⟩=some (.int .u16 (g:Int)):=hk.cell 4
  clear hb1 hk HK HHas
  go_wp2_with (go_at_call 27;refine (HEr.out _ HB1.out).mono ?_;rintro e w2 ⟨rfl,rfl⟩)
  refine (HRd.out _ HB1.out).mono ?_
  rintro e w2 ⟨rfl,hb2⟩
  have hbx:Below w1.heap.size w1 (w2.alloc (.cells #[.int .u16 (gen:Int), .int .u8 (kd:Int), .int .u8 176] 286)):=hb2.alloc hb2.size _
  have HBX:=hid (HB1.out.trans (hbx.mono HB1.out.size))
  have HKX:=hid (HK1.out.below hbx HK1.out.lt)
  have HBB:=hid (Blk.new w2 286 #[.int .u16 (gen:Int), .int .u8 (kd:Int), .int .u8 176])
  have f0':w2.cell? ⟨w.heap.size,0,none⟩=some (.iface 41 (.pointer (some ⟨a.th 0,0,none⟩))):=(HK1.out.below hb2 HK1.out.lt).cell 0
  have hl1:=HK1.out.lt
  have hl2:=hb2.size
  have hlt:w.heap.size < w2.heap.size:=by omega
  clear hb2 hbx HK1 HB1 HRd f0 f1 f2 f3 f4 hl1 hl2
  go_wp2_with (go_at_call 27;refine (HEr.out _ HBX.out).mono ?_;rintro e w3 ⟨rfl,rfl⟩)
  refine (HGd.out _).mono ?_
  rintro e w3 ⟨rfl,hb3⟩
  have HB3:=hid (HBX.out.trans (hb3.mono HBX.out.size))
  have hkc:=HKX.out.below hb3 HKX.out.lt
  have hkb:=HBB.out.below hb3 HBB.out.lt
  have HKC:=hid hkc
  have HKB:=hid hkb
  have g0:w3.cell? ⟨w2.heap.size,0,none⟩=some (.int .u16 (gen:Int)):=hkb.cell 0
  have g1:w3.cell? ⟨w2.heap.size,1,none⟩=some (.int .u8 (kd:Int)):=hkb.cell 1
  have g2:w3.cell? ⟨w2.heap.size,2,none⟩=some (.int .u8 176):=hkb.cell 2
  clear hb3 hkc hkb HBX HKX HBB HGd HEr f0' hlt
  generalize w2.heap.size=p2 at *
  go_wp2_with fail
  clear g0 g1 g2
  refine wp_region_script (fun w'=>Below w.heap.size w w'∧Blk w' w.heap.size 221 #[.iface 41 (.pointer (some ⟨a.th 0,0,none⟩)), .int .i64 (ln:Int), .int .i64 (cl:Int), .int .i64 0, .int .u16 (g:Int)]∧Blk w' p2 286 #[.int .u16 (gen:Int), .int .u8 (kd:Int), .int .u8 176]) 11 [(true,0),(true,1),(true,4),(true,5),(true,6),(false,2),(true,3),(false,7),(true,8),(true,9),(true,10)] (by kernel_rfl) (by kernel_rfl) ⟨HB3.out.drew,HKC.out.drew,HKB.out.drew⟩ ?_
  refine wpScript_take (.agg #[.iface 41 (.pointer (some ⟨a.th 0,0,none⟩)), .int .i64 (ln:Int), .int .i64 (cl:Int), .int .i64 0, .int .u16 (g:Int)]) (by rfl) (by rfl) (fun w' hS=>?_) ?_
  ·have hk:=hS.2.1
   have f0:w'.cell? ⟨w.heap.size,0,none⟩=some (.iface 41 (.pointer (some ⟨a.th 0,0,none⟩))):=hk.cell 0
   have f1:w'.cell? ⟨w.heap.size,1,none⟩=some (.int .i64 (ln:Int)):=hk.cell 1
   have f2:w'.cell? ⟨w.heap.size,2,none⟩=some (.int .i64 (cl:Int)):=hk.cell 2
   have f3:w'.cell? ⟨w.heap.size,3,none⟩=some (.int .i64 0):=hk.cell 3
   have f4:w'.cell? ⟨w.heap.size,4,none⟩=some (.int .u16 (g:Int)):=hk.cell 4
   go_simp
  simp only [zA,zB,Act.put,zD,zE,zF]
  refine wpScript_take (.int .i64 (i:Int)) (by rfl) (by rfl) (fun w' hS=>?_) ?_
  ·go_simp
  simp only [zA,zB,zC,Act.put,zD,zE,zF]
  refine wpScript_take (.pointer (some ⟨p2,0,none⟩)) (by rfl) (by rfl) (fun w' hS=>?_) ?_
  ·go_simp
  simp only [zA,zB,zC,Act.put,zD,zE,zF]
  refine wpScript_take (.int .u16 (gen:Int)) (by rfl) (by rfl) (fun w' hS=>?_) ?_
  ·have f0:w'.cell? ⟨p2,0,none⟩=some (.int .u16 (gen:Int)):=hS.2.2.cell 0
   go_simp
  simp only [zA,zB,zC,Act.put,zD,zE,zF]
  refine wpScript_take (.int .u8 (kind:Int)) (by rfl) (by rfl) (fun w' hS=>?_) ?_
  ·go_simp
  simp only [zA,zB,zC,Act.put,zD,zE,zF]
  refine wpScript_do (by rfl) ?_
  go_wp2_with fail
  refine (HAt.out _ HB3.out.drew).mono ?_
  rintro e w4 ⟨rfl,hb4⟩
  have HB4:=hid (HB3.out.drew.trans (hb4.mono HB3.out.drew.size))
  have HKC4:=hid (HKC.out.drew.below hb4 HKC.out.drew.lt)
  have HKB4:=hid (HKB.out.drew.below hb4 HKB.out.drew.lt)
  clear hb4 HAt HB3 HKC HKB
  go_wp2_with fail
  refine ⟨⟨HB4.out,HKC4.out,HKB4.out⟩,?_⟩
  refine wpScript_take (.int .u64 (z8:Int)) (by rfl) (by rfl) (fun w' hS=>?_) ?_
  ·go_simp
  simp only [zA,zB,zC,Act.put,zD,zE,zF]
  refine wpScript_do (by rfl) ?_
  go_wp2_with fail
  refine (HMk.out _).mono ?_
  rintro e w5 ⟨rfl,rfl⟩
  go_wp2_with fail
  refine ⟨⟨HB4.out,HKC4.out,HKB4.out⟩,?_⟩
  refine wpScript_take (.int .u64 (pp:Int)) (by rfl) (by rfl) (fun w' hS=>?_) ?_
  ·go_simp
  simp only [zA,zB,zC,Act.put,zD,zE,zF]
  refine wpScript_take (.int .i64 0) (by rfl) (by rfl) (fun w' hS=>?_) ?_
  ·go_simp
  simp only [zA,zB,zC,Act.put,zD,zE,zF]
  refine wpScript_take (.int .u64 (pp:Int)) (by rfl) (by rfl) (fun w' hS=>?_) ?_
  ·go_simp
  simp only [zA,zB,zC,Act.put,zD,zE,zF]
  show wpList _ _ _ _ _ _
  simp only [List.drop_succ_cons,List.drop_zero]
  go_wp2_with fail
  refine NoPanic.normal ?_
  go_wp2
  go_ret2
  exact ⟨rfl,HB4.out⟩
 ·have hko:kindOf ⟨gen,kd,177⟩ kind=kd:=rfl
  have hk1':0 < kd:=hko ▸ hk1
  have hk2':kd < 128:=hko ▸ hk2
  rw [hko] at HMk
  clear hk1 hk2 hko
  have dk0:((kd:Int) == 0)=false:=by rw [beq_eq_false_iff_ne];omega
  have dk1:decide (127 < (kd:Int))=false:=decide_eq_false (by omega)
  go_enter Tryz.func306,Tryz.ntmps306
  go_wp2_with fail
  refine HHas.out.mono ?_
  rintro e w1 ⟨rfl,hb1⟩
  have HB1:=hid (HB0.out.trans (hb1.mono HB0.out.size))
  have hk:=HK.out.below hb1 HK.out.lt
  have HK1:=hid hk
  have f0:w1.cell? ⟨w.heap.size,0,none⟩=some (.iface 41 (.pointer (some ⟨a.th 0,0,none⟩))):=hk.cell 0
  have f1:w1.cell? ⟨w.heap.size,1,none⟩=some (.int .i64 (ln:Int)):=hk.cell 1
  have f2:w1.cell? ⟨w.heap.size,2,none⟩=some (.int .i64 (cl:Int)):=hk.cell 2
  have f3:w1.cell? ⟨w.heap.size,3,none⟩=some (.int .i64 0):=hk.cell 3
  have f4:w1.cell? ⟨w.heap.size,4,none⟩=some (.int .u16 (g:Int)):=hk.cell 4
  clear hb1 hk HK HHas
  go_wp2_with (go_at_call 27;refine (HEr.out _ HB1.out).mono ?_;rintro e w2 ⟨rfl,rfl⟩)
  refine (HRd.out _ HB1.out).mono ?_
  rintro e w2 ⟨rfl,hb2⟩
  have hbx:Below w1.heap.size w1 (w2.alloc (.cells #[.int .u16 (gen:Int), .int .u8 (kd:Int), .int .u8 177] 286)):=hb2.alloc hb2.size _
  have HBX:=hid (HB1.out.trans (hbx.mono HB1.out.size))
  have HKX:=hid (HK1.out.below hbx HK1.out.lt)
  have HBB:=hid (Blk.new w2 286 #[.int .u16 (gen:Int), .int .u8 (kd:Int), .int .u8 177])
  have f0':w2.cell? ⟨w.heap.size,0,none⟩=some (.iface 41 (.pointer (some ⟨a.th 0,0,none⟩))):=(HK1.out.below hb2 HK1.out.lt).cell 0
  have hl1:=HK1.out.lt
  have hl2:=hb2.size
  have hlt:w.heap.size < w2.heap.size:=by omega
  clear hb2 hbx HK1 HB1 HRd f0 f1 f2 f3 f4 hl1 hl2
  go_wp2_with (go_at_call 27;refine (HEr.out _ HBX.out).mono ?_;rintro e w3 ⟨rfl,rfl⟩)
  refine (HGd.out _).mono ?_
  rintro e w3 ⟨rfl,hb3⟩
  have HB3:=hid (HBX.out.trans (hb3.mono HBX.out.size))
  have hkc:=HKX.out.below hb3 HKX.out.lt
  have hkb:=HBB.out.below hb3 HBB.out.lt
  have HKC:=hid hkc
  have HKB:=hid hkb
  have g0:w3.cell? ⟨w2.heap.size,0,none⟩=some (.int .u16 (gen:Int)):=hkb.cell 0
  have g1:w3.cell? ⟨w2.heap.size,1,none⟩=some (.int .u8 (kd:Int)):=hkb.cell 1
  have g2:w3.cell? ⟨w2.heap.size,2,none⟩=some (.int .u8 177):=hkb.cell 2
  clear hb3 hkc hkb HBX HKX HBB HGd HEr f0' hlt
  generalize w2.heap.size=p2 at *
  go_wp2_with fail
  clear g0 g1 g2
  refine wp_region_script (fun w'=>Below w.heap.size w w'∧Blk w' w.heap.size 221 #[.iface 41 (.pointer (some ⟨a.th 0,0,none⟩)), .int .i64 (ln:Int), .int .i64 (cl:Int), .int .i64 0, .int .u16 (g:Int)]∧Blk w' p2 286 #[.int .u16 (gen:Int), .int .u8 (kd:Int), .int .u8 177]) 11 [(true,0),(true,1),(true,4),(true,5),(true,6),(false,2),(true,3),(false,7),(true,8),(true,9),(true,10)] (by kernel_rfl) (by kernel_rfl) ⟨HB3.out.drew,HKC.out.drew,HKB.out.drew⟩ ?_
  refine wpScript_take (.agg #[.iface 41 (.pointer (some ⟨a.th 0,0,none⟩)), .int .i64 (ln:Int), .int .i64 (cl:Int), .int .i64 0, .int .u16 (g:Int)]) (by rfl) (by rfl) (fun w' hS=>?_) ?_
  ·have hk:=hS.2.1
   have f0:w'.cell? ⟨w.heap.size,0,none⟩=some (.iface 41 (.pointer (some ⟨a.th 0,0,none⟩))):=hk.cell 0
   have f1:w'.cell? ⟨w.heap.size,1,none⟩=some (.int .i64 (ln:Int)):=hk.cell 1
   have f2:w'.cell? ⟨w.heap.size,2,none⟩=some (.int .i64 (cl:Int)):=hk.cell 2
   have f3:w'.cell? ⟨w.heap.size,3,none⟩=some (.int .i64 0):=hk.cell 3
   have f4:w'.cell? ⟨w.heap.size,4,none⟩=some (.int .u16 (g:Int)):=hk.cell 4
   go_simp
  simp only [zA,zB,Act.put,zD,zE,zF]
  refine wpScript_take (.int .i64 (i:Int)) (by rfl) (by rfl) (fun w' hS=>?_) ?_
  ·go_simp
  simp only [zA,zB,zC,Act.put,zD,zE,zF]
  refine wpScript_take (.pointer (some ⟨p2,0,none⟩)) (by rfl) (by rfl) (fun w' hS=>?_) ?_
  ·go_simp
  simp only [zA,zB,zC,Act.put,zD,zE,zF]
  refine wpScript_take (.int .u16 (gen:Int)) (by rfl) (by rfl) (fun w' hS=>?_) ?_
  ·have f0:w'.cell? ⟨p2,0,none⟩=some (.int .u16 (gen:Int)):=hS.2.2.cell 0
   go_simp
  simp only [zA,zB,zC,Act.put,zD,zE,zF]
  refine wpScript_take (.int .u8 (kd:Int)) (by rfl) (by rfl) (fun w' hS=>?_) ?_
  ·go_simp
  simp only [zA,zB,zC,Act.put,zD,zE,zF]
  refine wpScript_do (by rfl) ?_
  go_wp2_with fail
  refine (HAt.out _ HB3.out.drew).mono ?_
  rintro e w4 ⟨rfl,hb4⟩
  have HB4:=hid (HB3.out.drew.trans (hb4.mono HB3.out.drew.size))
  have HKC4:=hid (HKC.out.drew.below hb4 HKC.out.drew.lt)
  have HKB4:=hid (HKB.out.drew.below hb4 HKB.out.drew.lt)
  clear hb4 HAt HB3 HKC HKB
  go_wp2_with fail
  refine ⟨⟨HB4.out,HKC4.out,HKB4.out⟩,?_⟩
  refine wpScript_take (.int .u64 (z8:Int)) (by rfl) (by rfl) (fun w' hS=>?_) ?_
  ·go_simp
  simp only [zA,zB,zC,Act.put,zD,zE,zF]
  refine wpScript_do (by rfl) ?_
  go_wp2_with fail
  refine (HMk.out _).mono ?_
  rintro e w5 ⟨rfl,rfl⟩
  go_wp2_with fail
  refine ⟨⟨HB4.out,HKC4.out,HKB4.out⟩,?_⟩
  refine wpScript_take (.int .u64 (pp:Int)) (by rfl) (by rfl) (fun w' hS=>?_) ?_
  ·go_simp
  simp only [zA,zB,zC,Act.put,zD,zE,zF]
  refine wpScript_take (.int .i64 0) (by rfl) (by rfl) (fun w' hS=>?_) ?_
  ·go_simp
  simp only [zA,zB,zC,Act.put,zD,zE,zF]
  refine wpScript_take (.int .u64 (pp:Int)) (by rfl) (by rfl) (fun w' hS=>?_) ?_
  ·go_simp
  simp only [zA,zB,zC,Act.put,zD,zE,zF]
  show wpList _ _ _ _ _ _
  simp only [List.drop_succ_cons,List.drop_zero]
  go_wp2_with fail
  refine NoPanic.normal ?_
  go_wp2
  go_ret2
  exact ⟨rfl,HB4.out⟩
end
end
section
open Go.RowKit
def dirCells (a:DA) (h r:Nat):Array Value:=#[.pointer (some ⟨h,0,none⟩), .pointer (some ⟨a.th 0,0,none⟩), .pointer (some ⟨r,0,none⟩)]
def dirV (d:Nat):Value := .iface 43 (.pointer (some ⟨d,0,none⟩))
theorem methDLoad (p : Option Addr) (w : World) : (method 563 43 (.pointer p) "Load").run Tryz.prog w = .ok (291, .pointer p) w := by kernel_rfl
theorem methDErr (p : Option Addr) (w : World) : (method 563 43 (.pointer p) "Err").run Tryz.prog w = .ok (288, .pointer p) w := by kernel_rfl
theorem methDSize (p : Option Addr) (w : World) : (method 563 43 (.pointer p) "Size").run Tryz.prog w = .ok (292, .pointer p) w := by kernel_rfl
section
variable {a:DA} {L T:Nat} {w:World} {S:Fp} {cur:Nat→Nat} {F:Nat} {d g r:Nat}
theorem loadD (h:Dev a L T w S cur F) (hB:Blk w d 147 (dirCells a g r)) (off v:Nat) (h8:off % 8=0) (hlt:off < 64 * L) (hv:cur (off / 8)=v) :
  Calls Tryz.prog 291 #[.pointer (some ⟨d,0,none⟩), .int .u64 (off:Int)] w (fun e w'=>e = .returned (.int .u64 (v:Int))∧w=w'):=by
 have HD:=hid (load_at h off v h8 hlt hv w (Below.refl _ _))
 have c1:w.cell? ⟨d,1,none⟩=some (.pointer (some ⟨a.th 0,0,none⟩)):=hB.cell 1
 clear h hB
 go_enter Tryz.func291,Tryz.ntmps291
 go_wp2_with fail
 refine HD.out.mono ?_
 rintro e w1 ⟨rfl,rfl⟩
 go_wp2
 go_ret
 exact ⟨rfl,rfl⟩
theorem errD (h:Dev a L T w S cur F) (hB:Blk w d 147 (dirCells a g r))  :
  Calls Tryz.prog 288 #[.pointer (some ⟨d,0,none⟩)] w (fun e w'=>e = .returned (.int .i64 0)∧w=w'):=by
 have HD:=hid (thErr h)
 have c1:w.cell? ⟨d,1,none⟩=some (.pointer (some ⟨a.th 0,0,none⟩)):=hB.cell 1
 clear h hB
 go_enter Tryz.func288,Tryz.ntmps288
 go_wp2_with fail
 refine HD.out.mono ?_
 rintro e w1 ⟨rfl,rfl⟩
 go_wp2
 go_ret
 exact ⟨rfl,rfl⟩
theorem sizeD (h:Dev a L T w S cur F) (hB:Blk w d 147 (dirCells a g r))  :
  Calls Tryz.prog 292 #[.pointer (some ⟨d,0,none⟩)] w (fun e w'=>e = .returned (.int .u64 ((64 * L:Nat):Int))∧w=w'):=by
 have HD:=hid (size_dev h)
 rw [show ((64 * L:Nat):Int)=(L:Int) * 64 by omega] at *
 have c1:w.cell? ⟨d,1,none⟩=some (.pointer (some ⟨a.th 0,0,none⟩)):=hB.cell 1
 clear h hB
 go_enter Tryz.func292,Tryz.ntmps292
 go_wp2_with fail
 refine HD.out.mono ?_
 rintro e w1 ⟨rfl,rfl⟩
 go_wp2
 go_ret
 exact ⟨rfl,rfl⟩
end
end
end Go.Proofs.YtnlokpakiambaaaGreatDoor
