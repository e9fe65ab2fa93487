/- The walks and laws that the claim leans on, part 11. -/
import Derived.Test.YtfkjjoglnmeciaaGreatDoorJaj
import Derived.Lib.Zigzag
set_option maxRecDepth 100000
set_option maxHeartbeats 16000000
namespace Go.Proofs.YtfkjjoglnmeciaaGreatDoor
open Go.Lib (hid)
section
open Go.RowKit
section
variable {a:DA} {L T:Nat} {w:World} {S:Fp} {cur:Nat→Nat} {F:Nat}
theorem start_any (ln:Nat) (hl:ln≤1000000) (W:World):Calls Tryz.prog 339 #[.int .i64 (ln:Int)] W fun e w'=>e = .returned (.int .u64 ((64 * ln:Nat):Int))∧W=w':=by
 have u3:IntKind.u64.wrap (ln:Int)=(ln:Int):=by rw [IntKind.wrap_u64];omega
 have u5:IntKind.u64.wrap ((ln:Int) * 64)=((64 * ln:Nat):Int):=by rw [IntKind.wrap_u64];omega
 generalize 64 * ln=z at *
 go_enter Tryz.func339,Tryz.ntmps339
 go_wp2
 go_ret
 exact ⟨rfl,rfl⟩
def chCells (a:DA) (ln c g:Nat):Array Value:=#[memV a, .int .i64 (ln:Int), .int .i64 (c:Int), .int .i64 0, .int .u16 (g:Int)]
theorem bits_any (h:Dev a L T w S cur F) (ln cl g V:Nat) (hl:ln+32≤L) (hv:cur (8 * ln+1)=V):Calls Tryz.prog 351 #[chV a ln cl 0 g] w fun e w'=>e = .returned (.int .u64 (V:Int))∧Below w.heap.size w w':=by
 obtain ⟨_,_,_,_,_,hdc,_⟩:=id h
 have hL:=hdc.hL
 clear hdc
 have HLd:=hid (load_at h (64 * ln+8) V (by omega) (by omega) (by rw [show (64 * ln+8) / 8=8 * ln+1 by omega];exact hv))
 have HSt:=hid (start_any ln (by omega))
 have hna:=aheadLoad ⟨a.th 0,0,none⟩
 have hm:=methLoad (some ⟨a.th 0,0,none⟩)
 have HB0:Hid (Below w.heap.size w (w.alloc (.cells (chCells a ln cl g) 306))):=(Below.refl _ _).alloc (Nat.le_refl _) _
 have HK:=hid (Blk.new w 306 (chCells a ln cl g))
 clear h hv
 unfold chV
 unfold chCells memV at *
 have hz:64 * ln+8 < 9000000000:=by omega
 have e1:IntKind.u64.wrap (((64 * ln:Nat):Int)+8)=((64 * ln+8:Nat):Int):=by rw [IntKind.wrap_u64];omega
 generalize 64 * ln+8=z8 at *
 generalize 64 * ln=z at *
 go_enter Tryz.func351,Tryz.ntmps351
 go_wp2_with fail
 generalize w.alloc (.cells #[.iface 58 (.pointer (some ⟨a.th 0,0,none⟩)), .int .i64 (ln:Int), .int .i64 (cl:Int), .int .i64 0, .int .u16 (g:Int)] 306)=W at *
 have f0:W.cell? ⟨w.heap.size,0,none⟩=some (.iface 58 (.pointer (some ⟨a.th 0,0,none⟩))):=HK.out.cell 0
 have f1:W.cell? ⟨w.heap.size,1,none⟩=some (.int .i64 (ln:Int)):=HK.out.cell 1
 have HB2:Hid (Below w.heap.size w W.drew):=HB0.out.drew
 go_region_with (first
  | (go_at_call 65;refine (HLd.out _ HB2.out).mono ?_;rintro e w1 ⟨rfl,rfl⟩)
  | (go_at_call 339;refine (HSt.out _).mono ?_;rintro e w1 ⟨rfl,rfl⟩))
 all_goals (go_wp2;go_ret;exact ⟨rfl,HB2.out⟩)
theorem blkAt_any (ln cl g i:Nat) (hl:ln≤1000000) (hc:cl < 5) (hi:i < perC cl) (w:World) (hp:Pay w):Calls Tryz.prog 301 #[chV a ln cl 0 g, .int .i64 (i:Int)] w fun e w'=>e = .returned (.int .u64 ((64 * ln+8 * offB cl i:Nat):Int))∧Below w.heap.size w w':=by
 have hb:Below w.heap.size w (w.alloc (.cells (chCells a ln cl g) 306)):=(Below.refl _ _).alloc (Nat.le_refl _) _
 have HB0:=hid hb
 have HO:=hid (offset_any cl i hc hi _ (hp.below hb))
 have HSt:=hid (start_any ln (by omega))
 have ho:=off_lt hi
 clear hb hp
 unfold chV
 unfold chCells memV at *
 have u1:IntKind.u64.wrap (offB cl i:Int)=(offB cl i:Int):=by rw [IntKind.wrap_u64];omega
 have u2:IntKind.u64.wrap ((offB cl i:Int) * 8)=(offB cl i:Int) * 8:=by rw [IntKind.wrap_u64];omega
 have u3:IntKind.u64.wrap (((64 * ln:Nat):Int)+(offB cl i:Int) * 8)=((64 * ln+8 * offB cl i:Nat):Int):=by rw [IntKind.wrap_u64];omega
 have hz:64 * ln < 9000000000:=by omega
 generalize 64 * ln+8 * offB cl i=zz at *
 generalize offB cl i=ob at *
 generalize 64 * ln=z at *
 clear ho
 go_enter Tryz.func301,Tryz.ntmps301
 go_wp2_with (first
  | (go_at_call 354;refine HO.out.mono ?_;rintro e w1 ⟨rfl,rfl⟩)
  | (go_at_call 339;refine (HSt.out _).mono ?_;rintro e w1 ⟨rfl,rfl⟩))
 go_ret
 exact ⟨rfl,HB0.out⟩
end
end
section
open Go.RowKit
def bitAt (V i:Nat):Bool:=V / 2 ^ i % 2 == 1
theorem bit_at (V i:Nat) (hV:V < 18446744073709551616):(bits .and .u64 ((V:Int) / 2 ^ i) 1 == 1)=bitAt V i:=by
 have e:(V:Int) / 2 ^ i=((V / 2 ^ i:Nat):Int):=by push_cast;rfl
 have h:=Nat.div_le_self V (2 ^ i)
 rw [e]
 unfold bitAt
 generalize V / 2 ^ i=y at *
 rw [Lib.u64_and1 _ (by omega) (by omega)]
 have e2:(y:Int) % 2=((y % 2:Nat):Int):=by omega
 rw [e2]
 generalize y % 2=x
 by_cases h:x=1
 ·subst h;rfl
 ·rw [beq_eq_false_iff_ne.2 h,beq_eq_false_iff_ne];omega
section
variable {a:DA} {L T:Nat} {w:World} {S:Fp} {cur:Nat→Nat} {F:Nat}
theorem read_any (h:Dev a L T w S cur F) (ht:Tab w) (hp:Pay w) (ln cl g V i:Nat) (b:BK) (hb:b.In) (hl:ln+32≤L) (hc:cl < 5) (hi:i < perC cl) (hV:V < 18446744073709551616) (hv:cur (8 * ln+1)=V) (hw:cur (8 * ln+offB cl i)=b.w) :
  Calls Tryz.prog 295 #[chV a ln cl 0 g, .int .i64 (i:Int)] w fun e w'=>e = .returned (.tuple #[b.v, .bool true, .bool (bitAt V i)])∧Below w.heap.size w w':=by
 obtain ⟨_,_,_,_,_,hdc,_⟩:=id h
 have hL:=hdc.hL
 clear hdc
 have ho:=off_lt hi
 have hi62:=per_le cl
 have HLd:=hid (load_at h (64 * ln+8 * offB cl i) b.w (by omega) (by omega) (by rw [show (64 * ln+8 * offB cl i) / 8=8 * ln+offB cl i by omega];exact hw))
 have hb0:Below w.heap.size w ((w.alloc (.cells (chCells a ln cl g) 306)).alloc (.cells #[.int .u16 0, .int .u8 0, .int .u8 0] 401)):=((Below.refl _ _).alloc (Nat.le_refl _) _).alloc (by simp) _
 have HB0:=hid hb0
 have HBi:=hid (bits_any (h.below hb0) ln cl g V hl hv)
 have HAt:Hid (∀ W,Below w.heap.size w W→Calls Tryz.prog 301 #[chV a ln cl 0 g, .int .i64 (i:Int)] W fun e w'=>e = .returned (.int .u64 ((64 * ln+8 * offB cl i:Nat):Int))∧Below W.heap.size W w'):=hid (fun W hW=>blkAt_any ln cl g i (by omega) hc hi W (hp.below hW))
 have HSe:Hid (∀ W,Below w.heap.size w W→Calls Tryz.prog 352 #[.int .u64 (b.w:Int)] W fun e w'=>e = .returned (.tuple #[b.v, .bool true])∧Below W.heap.size W w'):=hid (fun W hW=>sealed_any b hb W (ht.below hW))
 have hna:=aheadLoad ⟨a.th 0,0,none⟩
 have hm:=methLoad (some ⟨a.th 0,0,none⟩)
 have HK:=hid ((Blk.new w 306 (chCells a ln cl g)).below ((Below.refl _ (w.alloc (.cells (chCells a ln cl g) 306))).alloc (Nat.le_refl _) (.cells #[.int .u16 0, .int .u8 0, .int .u8 0] 401)) (by simp))
 have esz:(w.alloc (.cells (chCells a ln cl g) 306)).heap.size=w.heap.size+1:=by simp
 have HK2:Hid (Blk ((w.alloc (.cells (chCells a ln cl g) 306)).alloc (.cells #[.int .u16 0, .int .u8 0, .int .u8 0] 401)) (w.heap.size+1) 401 #[.int .u16 0, .int .u8 0, .int .u8 0]):=by
  rw [← esz]
  exact Blk.new _ _ _
 clear h hv hw hb0 hp ht esz
 have s1:IntKind.u64.wrap (i:Int)=(i:Int):=by rw [IntKind.wrap_u64];omega
 unfold chV BK.v at *
 unfold chCells memV at *
 have ebit:=bit_at V i hV
 generalize bitAt V i=bt at *
 generalize 64 * ln+8 * offB cl i=z at *
 generalize offB cl i=ob at *
 go_enter Tryz.func295,Tryz.ntmps295
 go_wp2_with fail
 refine HBi.out.mono ?_
 rintro e w1 ⟨rfl,hb1⟩
 have HB1:=hid (HB0.out.trans (hb1.mono HB0.out.size))
 have HKs:=hid (HK.out.below hb1 HK.out.lt)
 have HK2s:=hid (HK2.out.below hb1 HK2.out.lt)
 have HBD:Hid (Below w1.heap.size w1 w1.drew):=(Below.refl _ _).drew
 clear hb1 HK HK2 HBi HB0
 go_wp2_with fail
 have f0:w1.cell? ⟨w.heap.size,0,none⟩=some (.iface 58 (.pointer (some ⟨a.th 0,0,none⟩))):=HKs.out.cell 0
 have f1:w1.cell? ⟨w.heap.size,1,none⟩=some (.int .i64 (ln:Int)):=HKs.out.cell 1
 have f2:w1.cell? ⟨w.heap.size,2,none⟩=some (.int .i64 (cl:Int)):=HKs.out.cell 2
 have f3:w1.cell? ⟨w.heap.size,3,none⟩=some (.int .i64 0):=HKs.out.cell 3
 have f4:w1.cell? ⟨w.heap.size,4,none⟩=some (.int .u16 (g:Int)):=HKs.out.cell 4
 have HBW:=hid (HB1.out.drew)
 refine wp_region_script (fun w'=>Blk w' w.heap.size 306 #[.iface 58 (.pointer (some ⟨a.th 0,0,none⟩)), .int .i64 (ln:Int), .int .i64 (cl:Int), .int .i64 0, .int .u16 (g:Int)]) 13 [(true,0),(true,1),(true,2),(true,3),(true,5),(true,6),(false,4),(false,7),(false,8),(true,9),(true,10),(true,11),(false,12)] (by kernel_rfl) (by kernel_rfl) HKs.out.drew ?_
 refine wpScript_take (.pointer (some ⟨w.heap.size,0,none⟩)) (by rfl) (by rfl) (fun w' hS=>?_) ?_
 ·go_simp
 simp only [zA,zB,Act.put,zD,zE,zF]
 refine wpScript_take (.iface 58 (.pointer (some ⟨a.th 0,0,none⟩))) (by rfl) (by rfl) (fun w' hS=>?_) ?_
 ·have f0:w'.cell? ⟨w.heap.size,0,none⟩=some (.iface 58 (.pointer (some ⟨a.th 0,0,none⟩))):=hS.cell 0
  go_simp
 simp only [zA,zB,zC,Act.put,zD,zE,zF]
 refine wpScript_take (.agg #[.iface 58 (.pointer (some ⟨a.th 0,0,none⟩)), .int .i64 (ln:Int), .int .i64 (cl:Int), .int .i64 0, .int .u16 (g:Int)]) (by rfl) (by rfl) (fun w' hS=>?_) ?_
 ·have hk:=hS
  have f0:w'.cell? ⟨w.heap.size,0,none⟩=some (.iface 58 (.pointer (some ⟨a.th 0,0,none⟩))):=hk.cell 0
  have f1:w'.cell? ⟨w.heap.size,1,none⟩=some (.int .i64 (ln:Int)):=hk.cell 1
  have f2:w'.cell? ⟨w.heap.size,2,none⟩=some (.int .i64 (cl:Int)):=hk.cell 2
  have f3:w'.cell? ⟨w.heap.size,3,none⟩=some (.int .i64 0):=hk.cell 3
  have f4:w'.cell? ⟨w.heap.size,4,none⟩=some (.int .u16 (g:Int)):=hk.cell 4
  go_simp
 simp only [zA,zB,zC,Act.put,zD,zE,zF]
 refine wpScript_take (.int .i64 (i:Int)) (by rfl) (by rfl) (fun w' hS=>?_) ?_
 ·go_simp
 simp only [zA,zB,zC,Act.put,zD,zE,zF]
 refine wpScript_take (.iface 58 (.pointer (some ⟨a.th 0,0,none⟩))) (by rfl) (by rfl) (fun w' hS=>?_) ?_
 ·go_simp
 simp only [zA,zB,zC,Act.put,zD,zE,zF]
 refine wpScript_take (.iface 58 (.pointer (some ⟨a.th 0,0,none⟩))) (by rfl) (by rfl) (fun w' hS=>?_) ?_
 ·go_simp
 simp only [zA,zB,zC,Act.put,zD,zE,zF]
 refine wpScript_do (by rfl) ?_
 go_wp2_with fail
 refine (HAt.out _ HBW.out).mono ?_
 rintro e w2 ⟨rfl,hb2⟩
 have HB2:=hid (HBD.out.trans (hb2.mono HBD.out.size))
 have HW2:=hid (HBW.out.trans (hb2.mono HBW.out.size))
 clear hb2 HAt HBW
 go_wp2_with fail
 refine ⟨HKs.out.below HB2.out HKs.out.lt,?_⟩
 refine wpScript_do (by rfl) ?_
 go_wp2_with fail
 refine (HLd.out _ HW2.out).mono ?_
 rintro e w3 ⟨rfl,rfl⟩
 go_wp2_with fail
 refine ⟨HKs.out.below HB2.out HKs.out.lt,?_⟩
 refine wpScript_do (by rfl) ?_
 go_wp2_with fail
 refine (HSe.out _ HW2.out).mono ?_
 rintro e w3 ⟨rfl,hb3⟩
 have HB3:=hid (HB2.out.trans (hb3.mono HB2.out.size))
 have HW3:=hid (HW2.out.trans (hb3.mono HW2.out.size))
 clear hb3 HSe HLd
 go_wp2_with fail
 refine ⟨HKs.out.below HB3.out HKs.out.lt,?_⟩
 refine wpScript_take (.tuple #[.agg #[.int .u16 (b.gen:Int), .int .u8 (b.kind:Int), .int .u8 (b.st:Int)], .bool true]) (by rfl) (by rfl) (fun w' hS=>?_) ?_
 ·go_simp
 simp only [zA,zB,zC,Act.put,zD,zE,zF]
 refine wpScript_take (.agg #[.int .u16 (b.gen:Int), .int .u8 (b.kind:Int), .int .u8 (b.st:Int)]) (by rfl) (by rfl) (fun w' hS=>?_) ?_
 ·go_simp
 simp only [zA,zB,zC,Act.put,zD,zE,zF]
 refine wpScript_take (.bool true) (by rfl) (by rfl) (fun w' hS=>?_) ?_
 ·go_simp
 simp only [zA,zB,zC,Act.put,zD,zE,zF]
 refine wpScript_do (by rfl) ?_
 have hk2:=HK2s.out.below HB3.out HK2s.out.lt
 have c0:w3.cell? ⟨w.heap.size+1,0,none⟩=some (.int .u16 0):=hk2.cell 0
 have c1:w3.cell? ⟨w.heap.size+1,1,none⟩=some (.int .u8 0):=hk2.cell 1
 have c2:w3.cell? ⟨w.heap.size+1,2,none⟩=some (.int .u8 0):=hk2.cell 2
 have z0:w3.frozen? ⟨w.heap.size+1,0,none⟩=false:=hk2.frozen 0
 have z1:w3.frozen? ⟨w.heap.size+1,1,none⟩=false:=hk2.frozen 1
 have z2:w3.frozen? ⟨w.heap.size+1,2,none⟩=false:=hk2.frozen 2
 have n01:(⟨w.heap.size+1,0,none⟩:Addr)≠⟨w.heap.size+1,1,none⟩:=by simp
 have n02:(⟨w.heap.size+1,0,none⟩:Addr)≠⟨w.heap.size+1,2,none⟩:=by simp
 have n12:(⟨w.heap.size+1,1,none⟩:Addr)≠⟨w.heap.size+1,2,none⟩:=by simp
 clear f0 f1 f2 f3 f4
 go_wp2_with fail
 refine ⟨(((HKs.out.below HB3.out HKs.out.lt).far (p:=⟨w.heap.size+1,0,none⟩) (Nat.ne_of_lt (Nat.lt_succ_self _)) _).far (p:=⟨w.heap.size+1,1,none⟩) (Nat.ne_of_lt (Nat.lt_succ_self _)) _).far (p:=⟨w.heap.size+1,2,none⟩) (Nat.ne_of_lt (Nat.lt_succ_self _)) _,?_⟩
 show wpList _ _ _ _ _ _
 simp only [List.drop_succ_cons,List.drop_zero]
 go_wp2_with fail
 refine NoPanic.normal ?_
 have HKc:=hid (((hk2.set_ 0 (.int .u16 (b.gen:Int))).set_ 1 (.int .u8 (b.kind:Int))).set_ 2 (.int .u8 (b.st:Int)))
 have HWc:=hid (((HW3.out.setCell (p:=⟨w.heap.size+1,0,none⟩) (Nat.le_succ _) (.int .u16 (b.gen:Int))).setCell (p:=⟨w.heap.size+1,1,none⟩) (Nat.le_succ _) (.int .u8 (b.kind:Int))).setCell (p:=⟨w.heap.size+1,2,none⟩) (Nat.le_succ _) (.int .u8 (b.st:Int)))
 generalize ((w3.setCell ⟨w.heap.size+1,0,none⟩ (.int .u16 (b.gen:Int))).setCell ⟨w.heap.size+1,1,none⟩ (.int .u8 (b.kind:Int))).setCell ⟨w.heap.size+1,2,none⟩ (.int .u8 (b.st:Int))=wc at *
 clear hk2 c0 c1 c2 z0 z1 z2 n01 n02 n12
 have c0:wc.cell? ⟨w.heap.size+1,0,none⟩=some (.int .u16 (b.gen:Int)):=HKc.out.cell 0
 have c1:wc.cell? ⟨w.heap.size+1,1,none⟩=some (.int .u8 (b.kind:Int)):=HKc.out.cell 1
 have c2:wc.cell? ⟨w.heap.size+1,2,none⟩=some (.int .u8 (b.st:Int)):=HKc.out.cell 2
 have z0:wc.frozen? ⟨w.heap.size+1,0,none⟩=false:=HKc.out.frozen 0
 have z1:wc.frozen? ⟨w.heap.size+1,1,none⟩=false:=HKc.out.frozen 1
 have z2:wc.frozen? ⟨w.heap.size+1,2,none⟩=false:=HKc.out.frozen 2
 go_wp2
 have n01:(⟨w.heap.size+1,0,none⟩:Addr)≠⟨w.heap.size+1,1,none⟩:=by simp
 have n02:(⟨w.heap.size+1,0,none⟩:Addr)≠⟨w.heap.size+1,2,none⟩:=by simp
 have n12:(⟨w.heap.size+1,1,none⟩:Addr)≠⟨w.heap.size+1,2,none⟩:=by simp
 refine bodyPost_ret (v := .tuple #[.agg #[.int .u16 (b.gen:Int), .int .u8 (b.kind:Int), .int .u8 (b.st:Int)], .bool true, .bool bt]) (by simp [results,Tryz.results295,go_sem,c0,c1,c2]) rfl ⟨rfl,?_⟩
 have hle:w.heap.size≤w.heap.size+1:=Nat.le_succ _
 exact ((HWc.out.setCell (p:=⟨w.heap.size+1,0,none⟩) hle (.int .u16 (b.gen:Int))).setCell (p:=⟨w.heap.size+1,1,none⟩) hle (.int .u8 (b.kind:Int))).setCell (p:=⟨w.heap.size+1,2,none⟩) hle (.int .u8 (b.st:Int))
end
end
section
open Go.RowKit
def freeFrom (V:Nat):Nat→Nat→Option Nat
 | 0,_=>none
 | n+1,j=>if bitAt V j then freeFrom V n (j+1) else some j
def freeR (V c j:Nat):Value:=match freeFrom V (perC c - j) j with
 | some i => .int .i64 (i:Int)
 | none => .int .i64 (-1)
theorem bit_at0 (V i:Nat) (hV:V < 18446744073709551616):(bits .and .u64 ((V:Int) / 2 ^ i) 1 == 0) = !bitAt V i:=by
 have e:(V:Int) / 2 ^ i=((V / 2 ^ i:Nat):Int):=by push_cast;rfl
 have h:=Nat.div_le_self V (2 ^ i)
 rw [e]
 unfold bitAt
 generalize V / 2 ^ i=y at *
 rw [Lib.u64_and1 _ (by omega) (by omega)]
 have e2:(y:Int) % 2=((y % 2:Nat):Int):=by omega
 rw [e2]
 have h2:y % 2=0∨y % 2=1:=by omega
 rcases h2 with h2 | h2 <;> rw [h2] <;> rfl
section
variable {a:DA} {L T:Nat} {w:World} {S:Fp} {cur:Nat→Nat} {F:Nat}
theorem free_any (h:Dev a L T w S cur F) (hp:Pay w) (ln cl g V j:Nat) (hl:ln+32≤L) (hc:cl < 5) (hV:V < 18446744073709551616) (hv:cur (8 * ln+1)=V) :
  Calls Tryz.prog 380 #[chV a ln cl 0 g, .int .i64 (j:Int)] w fun e w'=>e = .returned (freeR V cl j)∧Below w.heap.size w w':=by
 have hb0:Below w.heap.size w (w.alloc (.cells (chCells a ln cl g) 306)):=(Below.refl _ _).alloc (Nat.le_refl _) _
 have HB0:=hid hb0
 have HHas:=hid (chHas_any a ln cl 0 g j hc _ (hp.below hb0))
 have HBi:Hid (∀ W,Below w.heap.size w W→Calls Tryz.prog 351 #[chV a ln cl 0 g] W fun e w'=>e = .returned (.int .u64 (V:Int))∧Below W.heap.size W w'):=hid (fun W hW=>bits_any (h.below hW) ln cl g V hl hv)
 have HN:Hid (∀ W,Below w.heap.size w W→Calls Tryz.prog 353 #[chV a ln cl 0 g] W fun e w'=>e = .returned (.int .i64 (perC cl:Int))∧Below W.heap.size W w'):=hid (fun W hW=>chBlocks_any a ln cl 0 g hc W (hp.below hW))
 have HK:=hid (Blk.new w 306 (chCells a ln cl g))
 have hpc:=per_le cl
 have d0:decide ((j:Int) < 0)=false:=decide_eq_false (by omega)
 clear h hp hb0 hv
 unfold chV at *
 unfold chCells memV at *
 by_cases hj:j < perC cl
 ·rw [decide_eq_true hj] at HHas
  have HR:Hid (freeR V cl j=match freeFrom V (perC cl - j) j with
   | some i => .int .i64 (i:Int)
   | none => .int .i64 (-1)):=hid rfl
  generalize freeR V cl j=rr at *
  generalize perC cl=n at *
  go_enter Tryz.func380,Tryz.ntmps380
  go_wp2_with fail
  refine HHas.out.mono ?_
  rintro e w1 ⟨rfl,hb1⟩
  have HB1:=hid (HB0.out.trans (hb1.mono HB0.out.size))
  have hk:=HK.out.below hb1 HK.out.lt
  have HK1:=hid hk
  have f0:w1.cell? ⟨w.heap.size,0,none⟩=some (.iface 58 (.pointer (some ⟨a.th 0,0,none⟩))):=hk.cell 0
  have f1:w1.cell? ⟨w.heap.size,1,none⟩=some (.int .i64 (ln:Int)):=hk.cell 1
  have f2:w1.cell? ⟨w.heap.size,2,none⟩=some (.int .i64 (cl:Int)):=hk.cell 2
  have f3:w1.cell? ⟨w.heap.size,3,none⟩=some (.int .i64 0):=hk.cell 3
  have f4:w1.cell? ⟨w.heap.size,4,none⟩=some (.int .u16 (g:Int)):=hk.cell 4
  clear hb1 hk HK HHas
  go_wp2_with fail
  refine (HBi.out _ HB1.out).mono ?_
  rintro e w2 ⟨rfl,hb2⟩
  have HB2:=hid (HB1.out.trans (hb2.mono HB1.out.size))
  have HK2:=hid (HK1.out.below hb2 HK1.out.lt)
  clear hb2 HBi HB1 HK1 f0 f1 f2 f3 f4
  go_wp2_with fail
  go_loopw [6] (fun i wr=>∃ k:Nat,j≤k∧k≤n∧i = .int .i64 (k:Int)∧Hid (freeFrom V (n - j) j=freeFrom V (n - k) k)∧Hid (Below w.heap.size w wr)∧Hid (Blk wr w.heap.size 306 #[.iface 58 (.pointer (some ⟨a.th 0,0,none⟩)), .int .i64 (ln:Int), .int .i64 (cl:Int), .int .i64 0, .int .u16 (g:Int)])) (fun i _=>n - (Go.RowKit.intOf i).toNat)
  case atStart=>exact ⟨j,Nat.le_refl _,Nat.le_of_lt hj,rfl,hid rfl,HB2,HK2⟩
  case round =>
   obtain ⟨k,hk1,hk2,rfl,HE,HBr,HKr⟩:=hrel
   have f0:wr.cell? ⟨w.heap.size,0,none⟩=some (.iface 58 (.pointer (some ⟨a.th 0,0,none⟩))):=HKr.out.cell 0
   have f1:wr.cell? ⟨w.heap.size,1,none⟩=some (.int .i64 (ln:Int)):=HKr.out.cell 1
   have f2:wr.cell? ⟨w.heap.size,2,none⟩=some (.int .i64 (cl:Int)):=HKr.out.cell 2
   have f3:wr.cell? ⟨w.heap.size,3,none⟩=some (.int .i64 0):=HKr.out.cell 3
   have f4:wr.cell? ⟨w.heap.size,4,none⟩=some (.int .u16 (g:Int)):=HKr.out.cell 4
   clear HB2 HK2
   by_cases hkn:k < n
   ·have dk:decide ((k:Int) < (n:Int))=true:=decide_eq_true (by omega)
    have s1:IntKind.u64.wrap (k:Int)=(k:Int):=by rw [IntKind.wrap_u64];omega
    have ebit:=bit_at0 V k hV
    have e1:freeFrom V (n - k) k=if bitAt V k then freeFrom V (n - (k+1)) (k+1) else some k:=by
     rw [show n - k=(n - (k+1))+1 by omega]
     rfl
    have HE2:=hid (HE.out.trans e1)
    clear HE e1
    go_wp2_with fail
    refine (HN.out _ HBr.out).mono ?_
    rintro e w3 ⟨rfl,hb3⟩
    have HB3:=hid (HBr.out.trans (hb3.mono HBr.out.size))
    have HK3:=hid (HKr.out.below hb3 HKr.out.lt)
    clear hb3 HBr HKr f0 f1 f2 f3 f4
    cases hb:bitAt V k
    ·rw [hb] at ebit HE2
     go_wp2
     go_ret
     refine ⟨?_,HB3.out⟩
     rw [HR.out,HE2.out]
     rfl
    ·rw [hb] at ebit HE2
     go_wp2
     go_roundw
     case rel=>exact ⟨k+1,by omega,by omega,by go_num,HE2,HB3,HK3⟩
     case measure=>simp [Go.RowKit.intOf];omega
   ·obtain rfl:k=n:=by omega
    have dk:decide ((k:Int) < (k:Int))=false:=decide_eq_false (by omega)
    go_wp2_with fail
    refine (HN.out _ HBr.out).mono ?_
    rintro e w3 ⟨rfl,hb3⟩
    have HB3:=hid (HBr.out.trans (hb3.mono HBr.out.size))
    clear hb3 HBr HKr f0 f1 f2 f3 f4
    go_wp2
    go_ret
    refine ⟨?_,HB3.out⟩
    rw [HR.out,HE.out,Nat.sub_self]
    rfl
 ·rw [decide_eq_false hj] at HHas
  have HR:Hid (freeR V cl j = .int .i64 (-1)):=hid (by unfold freeR;rw [show perC cl - j=0 by omega];rfl)
  generalize freeR V cl j=rr at *
  go_enter Tryz.func380,Tryz.ntmps380
  go_wp2_with fail
  refine HHas.out.mono ?_
  rintro e w1 ⟨rfl,hb1⟩
  have HB1:=hid (HB0.out.trans (hb1.mono HB0.out.size))
  clear hb1 HK HHas
  go_wp2
  go_ret
  exact ⟨by rw [HR.out];rfl,HB1.out⟩
end
end
section
open Go.RowKit
section
variable {a:DA} {L T:Nat} {w:World} {S:Fp} {cur:Nat→Nat} {F:Nat}
theorem thErr {a:DA} {L T:Nat} {w:World} {S:Fp} {cur:Nat→Nat} {F:Nat} (h:Dev a L T w S cur F) :
  Calls Tryz.prog 112 #[.pointer (some ⟨a.th 0,0,none⟩)] w fun e w'=>e = .returned (.int .i64 0)∧w=w':=by
 obtain ⟨ls,exe,per,cs,lsC,hdc,hnt⟩:=h
 obtain ⟨f0,f2,f3,f5,f4⟩:=hdc.facts (j:=0) (by omega)
 clear hdc hnt
 go_enter Tryz.func112,Tryz.ntmps112
 go_wp2
 go_ret
 exact ⟨rfl,rfl⟩
def kindOf (b:BK) (kind:Nat):Nat:=if b.st=177 then b.kind else kind
theorem pointer_any (h:Dev a L T w S cur F) (ht:Tab w) (hp:Pay w) (ln cl g V i:Nat) (b:BK) (hb:b.In) (hgood:b.good=true) (hs:b.st=176∨b.st=177) (hbit:bitAt V i=decide (b.st≠176)) (hl:ln+32≤L) (hc:cl < 5) (hi:i < perC cl) (hV:V < 18446744073709551616) (hv:cur (8 * ln+1)=V) (hw:cur (8 * ln+offB cl i)=b.w) (kind:Nat) (hk1:0 < kindOf b kind) (hk2:kindOf b kind < 128) (hk3:kind < 256) (hg0:0 < b.gen) :
  Calls Tryz.prog 210 #[chV a ln cl 0 g, .int .i64 (i:Int), .int .u8 (kind:Int)] w fun e w'=>e = .returned (.tuple #[.int .u64 (pMk (64 * ln+8 * offB cl i+8) b.gen (kindOf b kind):Int), .int .i64 0])∧Below w.heap.size w w':=by
 obtain ⟨_,_,_,_,_,hdc,_⟩:=id h
 have hL:=hdc.hL
 clear hdc
 have ho:=off_lt hi
 have hgb:=hb.g
 have hb0:Below w.heap.size w (w.alloc (.cells (chCells a ln cl g) 306)):=(Below.refl _ _).alloc (Nat.le_refl _) _
 have HB0:=hid hb0
 have HHas:=hid (chHas_any a ln cl 0 g i hc _ (hp.below hb0))
 have HEr:Hid (∀ W,Below w.heap.size w W→Calls Tryz.prog 112 #[.pointer (some ⟨a.th 0,0,none⟩)] W fun e w'=>e = .returned (.int .i64 0)∧W=w'):=hid (fun W hW=>thErr (h.below hW))
 have HRd:Hid (∀ W,Below w.heap.size w W→Calls Tryz.prog 295 #[chV a ln cl 0 g, .int .i64 (i:Int)] W fun e w'=>e = .returned (.tuple #[b.v, .bool true, .bool (bitAt V i)])∧Below W.heap.size W w'):=hid (fun W hW=>read_any (h.below hW) (ht.below hW) (hp.below hW) ln cl g V i b hb hl hc hi hV hv hw)
 have HGd:Hid (∀ W,Calls Tryz.prog 299 #[b.v] W fun e w'=>e = .returned (.bool true)∧Below W.heap.size W w'):=hid (fun W=>by rw [← hgood];exact good_any b hb W)
 have HAt:Hid (∀ W,Below w.heap.size w W→Calls Tryz.prog 301 #[chV a ln cl 0 g, .int .i64 (i:Int)] W fun e w'=>e = .returned (.int .u64 ((64 * ln+8 * offB cl i:Nat):Int))∧Below W.heap.size W w'):=hid (fun W hW=>blkAt_any ln cl g i (by omega) hc hi W (hp.below hW))
 have HMk:Hid (∀ W,Calls Tryz.prog 300 #[.int .u64 ((64 * ln+8 * offB cl i+8:Nat):Int), .int .u16 (b.gen:Int), .int .u8 (kindOf b kind:Int)] W fun e w'=>e = .returned (.tuple #[.int .u64 (pMk (64 * ln+8 * offB cl i+8) b.gen (kindOf b kind):Int), .int .i64 0])∧W=w'):=hid (fun W=>ptrMake_any _ _ _ (by omega) (by omega) (by omega) hg0 hgb hk1 hk2 W)
 have HK:=hid (Blk.new w 306 (chCells a ln cl g))
 have hm:=methErr (some ⟨a.th 0,0,none⟩)
 have u1:IntKind.u64.wrap (((64 * ln+8 * offB cl i:Nat):Int)+8)=((64 * ln+8 * offB cl i+8:Nat):Int):=by rw [IntKind.wrap_u64];omega
 have hz:64 * ln+8 * offB cl i < 1000000000:=by omega
 rw [decide_eq_true hi] at HHas
 rw [hbit] at HRd
 clear h ht hp hb0 hv hw hgood hbit ho
 generalize pMk (64 * ln+8 * offB cl i+8) b.gen (kindOf b kind)=pp at *
 generalize 64 * ln+8 * offB cl i+8=z8 at *
 generalize 64 * ln+8 * offB cl i=z at *
 obtain ⟨gen,kd,st⟩:=b
 unfold chV BK.v at *
 unfold chCells memV at *
 dsimp only at *
 rcases hs with rfl | rfl
 ·have hko:kindOf ⟨gen,kd,176⟩ kind=kind:=rfl
  have hk1':0 < kind:=hko ▸ hk1
  have hk2':kind < 128:=hko ▸ hk2
  rw [hko] at HMk
  clear hk1 hk2 hko
  have dk0:((kind:Int) == 0)=false:=by rw [beq_eq_false_iff_ne];omega
  have dk1:decide (127 < (kind:Int))=false:=decide_eq_false (by omega)
  go_enter Tryz.func210,Tryz.ntmps210
  go_wp2_with fail
  refine HHas.out.mono ?_
  rintro e w1 ⟨rfl,hb1⟩
  have HB1:=hid (HB0.out.trans (hb1.mono HB0.out.size))
  have hk:=HK.out.below hb1 HK.out.lt
  have HK1:=hid hk
  have f0:w1.cell? ⟨w.heap.size,0,none⟩=some (.iface 58 (.pointer (some ⟨a.th 0,0,none⟩))):=hk.cell 0
  have f1:w1.cell? ⟨w.heap.size,1,none⟩=some (.int .i64 (ln:Int)):=hk.cell 1
  have f2:w1.cell? ⟨w.heap.size,2,none⟩=some (.int .i64 (cl:Int)):=hk.cell 2
  have f3:w1.cell? ⟨w.heap.size,3,none⟩=some (.int .i64 0):=hk.cell 3
  have f4:w1.cell? ⟨w.heap.size,4,none⟩=some (.int .u16 (g:Int)):=hk.cell 4
  clear hb1 hk HK HHas
  go_wp2_with (go_at_call 112;refine (HEr.out _ HB1.out).mono ?_;rintro e w2 ⟨rfl,rfl⟩)
  refine (HRd.out _ HB1.out).mono ?_
  rintro e w2 ⟨rfl,hb2⟩
  have hbx:Below w1.heap.size w1 (w2.alloc (.cells #[.int .u16 (gen:Int), .int .u8 (kd:Int), .int .u8 176] 401)):=hb2.alloc hb2.size _
  have HBX:=hid (HB1.out.trans (hbx.mono HB1.out.size))
  have HKX:=hid (HK1.out.below hbx HK1.out.lt)
  have HBB:=hid (Blk.new w2 401 #[.int .u16 (gen:Int), .int .u8 (kd:Int), .int .u8 176])
  have f0':w2.cell? ⟨w.heap.size,0,none⟩=some (.iface 58 (.pointer (some ⟨a.th 0,0,none⟩))):=(HK1.out.below hb2 HK1.out.lt).cell 0
  have hl1:=HK1.out.lt
  have hl2:=hb2.size
  have hlt:w.heap.size < w2.heap.size:=by omega
  clear hb2 hbx HK1 HB1 HRd f0 f1 f2 f3 f4 hl1 hl2
  go_wp2_with (go_at_call 112;refine (HEr.out _ HBX.out).mono ?_;rintro e w3 ⟨rfl,rfl⟩)
  refine (HGd.out _).mono ?_
  rintro e w3 ⟨rfl,hb3⟩
  have HB3:=hid (HBX.out.trans (hb3.mono HBX.out.size))
  have hkc:=HKX.out.below hb3 HKX.out.lt
  have hkb:=HBB.out.below hb3 HBB.out.lt
  have HKC:=hid hkc
  have HKB:=hid hkb
  have g0:w3.cell? ⟨w2.heap.size,0,none⟩=some (.int .u16 (gen:Int)):=hkb.cell 0
  have g1:w3.cell? ⟨w2.heap.size,1,none⟩=some (.int .u8 (kd:Int)):=hkb.cell 1
  have g2:w3.cell? ⟨w2.heap.size,2,none⟩=some (.int .u8 176):=hkb.cell 2
  clear hb3 hkc hkb HBX HKX HBB HGd HEr f0' hlt
  generalize w2.heap.size=p2 at *
  go_wp2_with fail
  clear g0 g1 g2
  refine wp_region_script (fun w'=>Below w.heap.size w w'∧Blk w' w.heap.size 306 #[.iface 58 (.pointer (some ⟨a.th 0,0,none⟩)), .int .i64 (ln:Int), .int .i64 (cl:Int), .int .i64 0, .int .u16 (g:Int)]∧Blk w' p2 401 #[.int .u16 (gen:Int), .int .u8 (kd:Int), .int .u8 176]) 11 [(true,0),(true,1),(true,4),(true,5),(true,6),(false,2),(true,3),(false,7),(true,8),(true,9),(true,10)] (by kernel_rfl) (by kernel_rfl) ⟨HB3.out.drew,HKC.out.drew,HKB.out.drew⟩ ?_
  refine wpScript_take (.agg #[.iface 58 (.pointer (some ⟨a.th 0,0,none⟩)), .int .i64 (ln:Int), .int .i64 (cl:Int), .int .i64 0, .int .u16 (g:Int)]) (by rfl) (by rfl) (fun w' hS=>?_) ?_
  ·have hk:=hS.2.1
   have f0:w'.cell? ⟨w.heap.size,0,none⟩=some (.iface 58 (.pointer (some ⟨a.th 0,0,none⟩))):=hk.cell 0
   have f1:w'.cell? ⟨w.heap.size,1,none⟩=some (.int .i64 (ln:Int)):=hk.cell 1
   have f2:w'.cell? ⟨w.heap.size,2,none⟩=some (.int .i64 (cl:Int)):=hk.cell 2
   have f3:w'.cell? ⟨w.heap.size,3,none⟩=some (.int .i64 0):=hk.cell 3
   have f4:w'.cell? ⟨w.heap.size,4,none⟩=some (.int .u16 (g:Int)):=hk.cell 4
   go_simp
  simp only [zA,zB,Act.put,zD,zE,zF]
  refine wpScript_take (.int .i64 (i:Int)) (by rfl) (by rfl) (fun w' hS=>?_) ?_
  ·go_simp
  simp only [zA,zB,zC,Act.put,zD,zE,zF]
  refine wpScript_take (.pointer (some ⟨p2,0,none⟩)) (by rfl) (by rfl) (fun w' hS=>?_) ?_
  ·go_simp
  simp only [zA,zB,zC,Act.put,zD,zE,zF]
  refine wpScript_take (.int .u16 (gen:Int)) (by rfl) (by rfl) (fun w' hS=>?_) ?_
  ·have f0:w'.cell? ⟨p2,0,none⟩=some (.int .u16 (gen:Int)):=hS.2.2.cell 0
   go_simp
  simp only [zA,zB,zC,Act.put,zD,zE,zF]
  refine wpScript_take (.int .u8 (kind:Int)) (by rfl) (by rfl) (fun w' hS=>?_) ?_
  ·go_simp
  simp only [zA,zB,zC,Act.put,zD,zE,zF]
  refine wpScript_do (by rfl) ?_
  go_wp2_with fail
  refine (HAt.out _ HB3.out.drew).mono ?_
  rintro e w4 ⟨rfl,hb4⟩
  have HB4:=hid (HB3.out.drew.trans (hb4.mono HB3.out.drew.size))
  have HKC4:=hid (HKC.out.drew.below hb4 HKC.out.drew.lt)
  have HKB4:=hid (HKB.out.drew.below hb4 HKB.out.drew.lt)
  clear hb4 HAt HB3 HKC HKB
  go_wp2_with fail
  refine ⟨⟨HB4.out,HKC4.out,HKB4.out⟩,?_⟩
  refine wpScript_take (.int .u64 (z8:Int)) (by rfl) (by rfl) (fun w' hS=>?_) ?_
  ·go_simp
  simp only [zA,zB,zC,Act.put,zD,zE,zF]
  refine wpScript_do (by rfl) ?_
  go_wp2_with fail
  refine (HMk.out _).mono ?_
  rintro e w5 ⟨rfl,rfl⟩
  go_wp2_with fail
  refine ⟨⟨HB4.out,HKC4.out,HKB4.out⟩,?_⟩
  refine wpScript_take (.int .u64 (pp:Int)) (by rfl) (by rfl) (fun w' hS=>?_) ?_
  ·go_simp
  simp only [zA,zB,zC,Act.put,zD,zE,zF]
  refine wpScript_take (.int .i64 0) (by rfl) (by rfl) (fun w' hS=>?_) ?_
  ·go_simp
  simp only [zA,zB,zC,Act.put,zD,zE,zF]
  refine wpScript_take (.int .u64 (pp:Int)) (by rfl) (by rfl) (fun w' hS=>?_) ?_
  ·go_simp
  simp only [zA,zB,zC,Act.put,zD,zE,zF]
  show wpList _ _ _ _ _ _
  simp only [List.drop_succ_cons,List.drop_zero]
  go_wp2_with fail
  refine NoPanic.normal ?_
  go_wp2
  go_ret2
  exact ⟨rfl,HB4.out⟩
 ·have hko:kindOf ⟨gen,kd,177⟩ kind=kd:=rfl
  have hk1':0 < kd:=hko ▸ hk1
  have hk2':kd < 128:=hko ▸ hk2
  rw [hko] at HMk
  clear hk1 hk2 hko
  have dk0:((kd:Int) == 0)=false:=by rw [beq_eq_false_iff_ne];omega
  have dk1:decide (127 < (kd:Int))=false:=decide_eq_false (by omega)
  go_enter Tryz.func210,Tryz.ntmps210
  go_wp2_with fail
  refine HHas.out.mono ?_
  rintro e w1 ⟨rfl,hb1⟩
  have HB1:=hid (HB0.out.trans (hb1.mono HB0.out.size))
  have hk:=HK.out.below hb1 HK.out.lt
  have HK1:=hid hk
  have f0:w1.cell? ⟨w.heap.size,0,none⟩=some (.iface 58 (.pointer (some ⟨a.th 0,0,none⟩))):=hk.cell 0
  have f1:w1.cell? ⟨w.heap.size,1,none⟩=some (.int .i64 (ln:Int)):=hk.cell 1
  have f2:w1.cell? ⟨w.heap.size,2,none⟩=some (.int .i64 (cl:Int)):=hk.cell 2
  have f3:w1.cell? ⟨w.heap.size,3,none⟩=some (.int .i64 0):=hk.cell 3
  have f4:w1.cell? ⟨w.heap.size,4,none⟩=some (.int .u16 (g:Int)):=hk.cell 4
  clear hb1 hk HK HHas
  go_wp2_with (go_at_call 112;refine (HEr.out _ HB1.out).mono ?_;rintro e w2 ⟨rfl,rfl⟩)
  refine (HRd.out _ HB1.out).mono ?_
  rintro e w2 ⟨rfl,hb2⟩
  have hbx:Below w1.heap.size w1 (w2.alloc (.cells #[.int .u16 (gen:Int), .int .u8 (kd:Int), .int .u8 177] 401)):=hb2.alloc hb2.size _
  have HBX:=hid (HB1.out.trans (hbx.mono HB1.out.size))
  have HKX:=hid (HK1.out.below hbx HK1.out.lt)
  have HBB:=hid (Blk.new w2 401 #[.int .u16 (gen:Int), .int .u8 (kd:Int), .int .u8 177])
  have f0':w2.cell? ⟨w.heap.size,0,none⟩=some (.iface 58 (.pointer (some ⟨a.th 0,0,none⟩))):=(HK1.out.below hb2 HK1.out.lt).cell 0
  have hl1:=HK1.out.lt
  have hl2:=hb2.size
  have hlt:w.heap.size < w2.heap.size:=by omega
  clear hb2 hbx HK1 HB1 HRd f0 f1 f2 f3 f4 hl1 hl2
  go_wp2_with (go_at_call 112;refine (HEr.out _ HBX.out).mono ?_;rintro e w3 ⟨rfl,rfl⟩)
  refine (HGd.out _).mono ?_
  rintro e w3 ⟨rfl,hb3⟩
  have HB3:=hid (HBX.out.trans (hb3.mono HBX.out.size))
  have hkc:=HKX.out.below hb3 HKX.out.lt
  have hkb:=HBB.out.below hb3 HBB.out.lt
  have HKC:=hid hkc
  have HKB:=hid hkb
  have g0:w3.cell? ⟨w2.heap.size,0,none⟩=some (.int .u16 (gen:Int)):=hkb.cell 0
  have g1:w3.cell? ⟨w2.heap.size,1,none⟩=some (.int .u8 (kd:Int)):=hkb.cell 1
  have g2:w3.cell? ⟨w2.heap.size,2,none⟩=some (.int .u8 177):=hkb.cell 2
  clear hb3 hkc hkb HBX HKX HBB HGd HEr f0' hlt
  generalize w2.heap.size=p2 at *
  go_wp2_with fail
  clear g0 g1 g2
  refine wp_region_script (fun w'=>Below w.heap.size w w'∧Blk w' w.heap.size 306 #[.iface 58 (.pointer (some ⟨a.th 0,0,none⟩)), .int .i64 (ln:Int), .int .i64 (cl:Int), .int .i64 0, .int .u16 (g:Int)]∧Blk w' p2 401 #[.int .u16 (gen:Int), .int .u8 (kd:Int), .int .u8 177]) 11 [(true,0),(true,1),(true,4),(true,5),(true,6),(false,2),(true,3),(false,7),(true,8),(true,9),(true,10)] (by kernel_rfl) (by kernel_rfl) ⟨HB3.out.drew,HKC.out.drew,HKB.out.drew⟩ ?_
  refine wpScript_take (.agg #[.iface 58 (.pointer (some ⟨a.th 0,0,none⟩)), .int .i64 (ln:Int), .int .i64 (cl:Int), .int .i64 0, .int .u16 (g:Int)]) (by rfl) (by rfl) (fun w' hS=>?_) ?_
  ·have hk:=hS.2.1
   have f0:w'.cell? ⟨w.heap.size,0,none⟩=some (.iface 58 (.pointer (some ⟨a.th 0,0,none⟩))):=hk.cell 0
   have f1:w'.cell? ⟨w.heap.size,1,none⟩=some (.int .i64 (ln:Int)):=hk.cell 1
   have f2:w'.cell? ⟨w.heap.size,2,none⟩=some (.int .i64 (cl:Int)):=hk.cell 2
   have f3:w'.cell? ⟨w.heap.size,3,none⟩=some (.int .i64 0):=hk.cell 3
   have f4:w'.cell? ⟨w.heap.size,4,none⟩=some (.int .u16 (g:Int)):=hk.cell 4
   go_simp
  simp only [zA,zB,Act.put,zD,zE,zF]
  refine wpScript_take (.int .i64 (i:Int)) (by rfl) (by rfl) (fun w' hS=>?_) ?_
  ·go_simp
  simp only [zA,zB,zC,Act.put,zD,zE,zF]
  refine wpScript_take (.pointer (some ⟨p2,0,none⟩)) (by rfl) (by rfl) (fun w' hS=>?_) ?_
  ·go_simp
  simp only [zA,zB,zC,Act.put,zD,zE,zF]
  refine wpScript_take (.int .u16 (gen:Int)) (by rfl) (by rfl) (fun w' hS=>?_) ?_
  ·have f0:w'.cell? ⟨p2,0,none⟩=some (.int .u16 (gen:Int)):=hS.2.2.cell 0
   go_simp
  simp only [zA,zB,zC,Act.put,zD,zE,zF]
  refine wpScript_take (.int .u8 (kd:Int)) (by rfl) (by rfl) (fun w' hS=>?_) ?_
  ·go_simp
  simp only [zA,zB,zC,Act.put,zD,zE,zF]
  refine wpScript_do (by rfl) ?_
  go_wp2_with fail
  refine (HAt.out _ HB3.out.drew).mono ?_
  rintro e w4 ⟨rfl,hb4⟩
  have HB4:=hid (HB3.out.drew.trans (hb4.mono HB3.out.drew.size))
  have HKC4:=hid (HKC.out.drew.below hb4 HKC.out.drew.lt)
  have HKB4:=hid (HKB.out.drew.below hb4 HKB.out.drew.lt)
  clear hb4 HAt HB3 HKC HKB
  go_wp2_with fail
  refine ⟨⟨HB4.out,HKC4.out,HKB4.out⟩,?_⟩
  refine wpScript_take (.int .u64 (z8:Int)) (by rfl) (by rfl) (fun w' hS=>?_) ?_
  ·go_simp
  simp only [zA,zB,zC,Act.put,zD,zE,zF]
  refine wpScript_do (by rfl) ?_
  go_wp2_with fail
  refine (HMk.out _).mono ?_
  rintro e w5 ⟨rfl,rfl⟩
  go_wp2_with fail
  refine ⟨⟨HB4.out,HKC4.out,HKB4.out⟩,?_⟩
  refine wpScript_take (.int .u64 (pp:Int)) (by rfl) (by rfl) (fun w' hS=>?_) ?_
  ·go_simp
  simp only [zA,zB,zC,Act.put,zD,zE,zF]
  refine wpScript_take (.int .i64 0) (by rfl) (by rfl) (fun w' hS=>?_) ?_
  ·go_simp
  simp only [zA,zB,zC,Act.put,zD,zE,zF]
  refine wpScript_take (.int .u64 (pp:Int)) (by rfl) (by rfl) (fun w' hS=>?_) ?_
  ·go_simp
  simp only [zA,zB,zC,Act.put,zD,zE,zF]
  show wpList _ _ _ _ _ _
  simp only [List.drop_succ_cons,List.drop_zero]
  go_wp2_with fail
  refine NoPanic.normal ?_
  go_wp2
  go_ret2
  exact ⟨rfl,HB4.out⟩
end
end
end Go.Proofs.YtfkjjoglnmeciaaGreatDoor
