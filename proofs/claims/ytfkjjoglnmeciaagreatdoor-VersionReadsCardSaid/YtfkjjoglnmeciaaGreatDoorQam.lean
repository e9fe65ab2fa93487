/- The walks and laws that the claim leans on, part 13. -/
import Derived.Test.YtfkjjoglnmeciaaGreatDoorQal
set_option maxRecDepth 100000
set_option maxHeartbeats 16000000
namespace Go.Proofs.YtfkjjoglnmeciaaGreatDoor
open Go.Lib (hid)
section
open Go.RowKit
section
variable {a:DA} {L T:Nat} {w:World} {S:Fp} {cur:Nat→Nat} {F:Nat}
theorem thErr {a:DA} {L T:Nat} {w:World} {S:Fp} {cur:Nat→Nat} {F:Nat} (h:Dev a L T w S cur F) :
  Calls Tryz.prog 112 #[.pointer (some ⟨a.th 0,0,none⟩)] w fun e w'=>e = .returned (.int .i64 0)∧w=w':=by
 obtain ⟨ls,exe,per,cs,lsC,hdc,hnt⟩:=h;obtain ⟨f0,f2,f3,f5,f4⟩:=hdc.facts (j:=0) oM;clear hdc hnt;go_enter Tryz.func112,Tryz.ntmps112
 go_wp2;go_ret;exact ⟨rfl,rfl⟩
def kindOf (b:BK) (kind:Nat):Nat:=if b.st=177 then b.kind else kind
theorem pointer_any (h:Dev a L T w S cur F) (ht:Tab w) (hp:Pay w) (ln cl g V i:Nat) (b:BK) (hb:b.In) (hgood:b.good=true) (hs:b.st=176∨b.st=177) (hbit:bitAt V i=decide (b.st≠176)) (hl:ln+32≤L) (hc:cl < 5) (hi:i < perC cl) (hV:V < 18446744073709551616) (hv:cur (8 * ln+1)=V) (hw:cur (8 * ln+offB cl i)=b.w) (kind:Nat) (hk1:0 < kindOf b kind) (hk2:kindOf b kind < 128) (hk3:kind < 256) (hg0:0 < b.gen) :
  Calls Tryz.prog 210 #[chV a ln cl 0 g, .int .i64 (i:Int), .int .u8 (kind:Int)] w fun e w'=>e = .returned (.tuple #[.int .u64 (pMk (64 * ln+8 * offB cl i+8) b.gen (kindOf b kind):Int), .int .i64 0])∧Below w.heap.size w w':=by
 obtain ⟨_,_,_,_,_,hdc,_⟩:=id h;have hL:=hdc.hL;clear hdc;have ho:=off_lt hi;have hgb:=hb.g;have hb0:Below w.heap.size w (w.alloc (.cells (chCells a ln cl g) 306)):=(Below.refl _ _).alloc (nL _) _;have HB0:=hid hb0;have HHas:=hid (chHas_any a ln cl 0 g i hc _ (hp.below hb0));have HEr:Hid (∀ W,Below w.heap.size w W→Calls Tryz.prog 112 #[.pointer (some ⟨a.th 0,0,none⟩)] W fun e w'=>e = .returned (.int .i64 0)∧W=w'):=hid (fun W hW=>thErr (h.below hW));have HRd:Hid (∀ W,Below w.heap.size w W→Calls Tryz.prog 295 #[chV a ln cl 0 g, .int .i64 (i:Int)] W fun e w'=>e = .returned (.tuple #[b.v, .bool true, .bool (bitAt V i)])∧Below W.heap.size W w'):=hid (fun W hW=>read_any (h.below hW) (ht.below hW) (hp.below hW) ln cl g V i b hb hl hc hi hV hv hw);have HGd:Hid (∀ W,Calls Tryz.prog 299 #[b.v] W fun e w'=>e = .returned (.bool true)∧Below W.heap.size W w'):=hid (fun W=>by rw [← hgood];exact good_any b hb W);have HAt:Hid (∀ W,Below w.heap.size w W→Calls Tryz.prog 301 #[chV a ln cl 0 g, .int .i64 (i:Int)] W fun e w'=>e = .returned (.int .u64 ((64 * ln+8 * offB cl i:Nat):Int))∧Below W.heap.size W w'):=hid (fun W hW=>blkAt_any ln cl g i oM hc hi W (hp.below hW));have HMk:Hid (∀ W,Calls Tryz.prog 300 #[.int .u64 ((64 * ln+8 * offB cl i+8:Nat):Int), .int .u16 (b.gen:Int), .int .u8 (kindOf b kind:Int)] W fun e w'=>e = .returned (.tuple #[.int .u64 (pMk (64 * ln+8 * offB cl i+8) b.gen (kindOf b kind):Int), .int .i64 0])∧W=w'):=hid (fun W=>ptrMake_any _ _ _ oM oM oM hg0 hgb hk1 hk2 W)
 have HK:=hid (Blk.new w 306 (chCells a ln cl g));have hm:=methErr (some ⟨a.th 0,0,none⟩);have u1:IntKind.u64.wrap (((64 * ln+8 * offB cl i:Nat):Int)+8)=((64 * ln+8 * offB cl i+8:Nat):Int):=by rw [IntKind.wrap_u64];omega
 have hz:64 * ln+8 * offB cl i < 1000000000:=oM;rw [decide_eq_true hi] at HHas;rw [hbit] at HRd;clear h ht hp hb0 hv hw hgood hbit ho;generalize pMk (64 * ln+8 * offB cl i+8) b.gen (kindOf b kind)=pp at *;generalize 64 * ln+8 * offB cl i+8=z8 at *;generalize 64 * ln+8 * offB cl i=z at *;obtain ⟨gen,kd,st⟩:=b;unfold chV BK.v at *;unfold chCells memV at *;dsimp only at *;rcases hs with rfl | rfl
 ·have hko:kindOf ⟨gen,kd,176⟩ kind=kind:=rfl
  have hk1':0 < kind:=hko ▸ hk1;have hk2':kind < 128:=hko ▸ hk2;rw [hko] at HMk;clear hk1 hk2 hko;have dk0:((kind:Int) == 0)=false:=by rw [beq_eq_false_iff_ne];omega
  have dk1:decide (127 < (kind:Int))=false:=dF;go_enter Tryz.func210,Tryz.ntmps210
  go_wp2_with fail
  refine HHas.out.mono ?_;rintro e w1 ⟨rfl,hb1⟩;have HB1:=hid (HB0.out.trans (hb1.mono HB0.out.size));have hk:=HK.out.below hb1 HK.out.lt;have HK1:=hid hk;have f0:w1.cell? ⟨w.heap.size,0,none⟩=some (.iface 58 (.pointer (some ⟨a.th 0,0,none⟩))):=hk.cell 0;have f1:w1.cell? ⟨w.heap.size,1,none⟩=some (.int .i64 (ln:Int)):=hk.cell 1;have f2:w1.cell? ⟨w.heap.size,2,none⟩=some (.int .i64 (cl:Int)):=hk.cell 2;have f3:w1.cell? ⟨w.heap.size,3,none⟩=some (.int .i64 0):=hk.cell 3;have f4:w1.cell? ⟨w.heap.size,4,none⟩=some (.int .u16 (g:Int)):=hk.cell 4;clear hb1 hk HK HHas;go_wp2_with (go_at_call 112;refine (HEr.out _ HB1.out).mono ?_;rintro e w2 ⟨rfl,rfl⟩)
  refine (HRd.out _ HB1.out).mono ?_;rintro e w2 ⟨rfl,hb2⟩;have hbx:Below w1.heap.size w1 (w2.alloc (.cells #[.int .u16 (gen:Int), .int .u8 (kd:Int), .int .u8 176] 401)):=hb2.alloc hb2.size _;have HBX:=hid (HB1.out.trans (hbx.mono HB1.out.size));have HKX:=hid (HK1.out.below hbx HK1.out.lt);have HBB:=hid (Blk.new w2 401 #[.int .u16 (gen:Int), .int .u8 (kd:Int), .int .u8 176]);have f0':w2.cell? ⟨w.heap.size,0,none⟩=some (.iface 58 (.pointer (some ⟨a.th 0,0,none⟩))):=(HK1.out.below hb2 HK1.out.lt).cell 0;have hl1:=HK1.out.lt;have hl2:=hb2.size;have hlt:w.heap.size < w2.heap.size:=oM;clear hb2 hbx HK1 HB1 HRd f0 f1 f2 f3 f4 hl1 hl2;go_wp2_with (go_at_call 112;refine (HEr.out _ HBX.out).mono ?_;rintro e w3 ⟨rfl,rfl⟩)
  refine (HGd.out _).mono ?_;rintro e w3 ⟨rfl,hb3⟩;have HB3:=hid (HBX.out.trans (hb3.mono HBX.out.size));have hkc:=HKX.out.below hb3 HKX.out.lt;have hkb:=HBB.out.below hb3 HBB.out.lt;have HKC:=hid hkc;have HKB:=hid hkb;have g0:w3.cell? ⟨w2.heap.size,0,none⟩=some (.int .u16 (gen:Int)):=hkb.cell 0;have g1:w3.cell? ⟨w2.heap.size,1,none⟩=some (.int .u8 (kd:Int)):=hkb.cell 1;have g2:w3.cell? ⟨w2.heap.size,2,none⟩=some (.int .u8 176):=hkb.cell 2;clear hb3 hkc hkb HBX HKX HBB HGd HEr f0' hlt;generalize w2.heap.size=p2 at *;go_wp2_with fail
  clear g0 g1 g2;refine wp_region_script (fun w'=>Below w.heap.size w w'∧Blk w' w.heap.size 306 #[.iface 58 (.pointer (some ⟨a.th 0,0,none⟩)), .int .i64 (ln:Int), .int .i64 (cl:Int), .int .i64 0, .int .u16 (g:Int)]∧Blk w' p2 401 #[.int .u16 (gen:Int), .int .u8 (kd:Int), .int .u8 176]) 11 [(true,0),(true,1),(true,4),(true,5),(true,6),(false,2),(true,3),(false,7),(true,8),(true,9),(true,10)] (by kernel_rfl) (by kernel_rfl) ⟨HB3.out.drew,HKC.out.drew,HKB.out.drew⟩ ?_;refine tkS (.agg #[.iface 58 (.pointer (some ⟨a.th 0,0,none⟩)), .int .i64 (ln:Int), .int .i64 (cl:Int), .int .i64 0, .int .u16 (g:Int)]) (fun w' hS=>?_) ?_
  ·have hk:=hS.2.1
   have f0:w'.cell? ⟨w.heap.size,0,none⟩=some (.iface 58 (.pointer (some ⟨a.th 0,0,none⟩))):=hk.cell 0;have f1:w'.cell? ⟨w.heap.size,1,none⟩=some (.int .i64 (ln:Int)):=hk.cell 1;have f2:w'.cell? ⟨w.heap.size,2,none⟩=some (.int .i64 (cl:Int)):=hk.cell 2;have f3:w'.cell? ⟨w.heap.size,3,none⟩=some (.int .i64 0):=hk.cell 3;have f4:w'.cell? ⟨w.heap.size,4,none⟩=some (.int .u16 (g:Int)):=hk.cell 4;go_simp
  simp only [zA,zB,Act.put,zD,zE,zF];refine tkS (.int .i64 (i:Int)) (fun w' hS=>?_) ?_
  ·go_simp
  simp only [zA,zB,zC,Act.put,zD,zE,zF];refine tkS (.pointer (some ⟨p2,0,none⟩)) (fun w' hS=>?_) ?_
  ·go_simp
  simp only [zA,zB,zC,Act.put,zD,zE,zF];refine tkS (.int .u16 (gen:Int)) (fun w' hS=>?_) ?_
  ·have f0:w'.cell? ⟨p2,0,none⟩=some (.int .u16 (gen:Int)):=hS.2.2.cell 0
   go_simp
  simp only [zA,zB,zC,Act.put,zD,zE,zF];refine tkS (.int .u8 (kind:Int)) (fun w' hS=>?_) ?_
  ·go_simp
  simp only [zA,zB,zC,Act.put,zD,zE,zF];refine wpScript_do (by rfl) ?_;go_wp2_with fail
  refine (HAt.out _ HB3.out.drew).mono ?_;rintro e w4 ⟨rfl,hb4⟩;have HB4:=hid (HB3.out.drew.trans (hb4.mono HB3.out.drew.size));have HKC4:=hid (HKC.out.drew.below hb4 HKC.out.drew.lt);have HKB4:=hid (HKB.out.drew.below hb4 HKB.out.drew.lt);clear hb4 HAt HB3 HKC HKB;go_wp2_with fail
  refine ⟨⟨HB4.out,HKC4.out,HKB4.out⟩,?_⟩;refine tkS (.int .u64 (z8:Int)) (fun w' hS=>?_) ?_
  ·go_simp
  simp only [zA,zB,zC,Act.put,zD,zE,zF];refine wpScript_do (by rfl) ?_;go_wp2_with fail
  refine (HMk.out _).mono ?_;rintro e w5 ⟨rfl,rfl⟩;go_wp2_with fail
  refine ⟨⟨HB4.out,HKC4.out,HKB4.out⟩,?_⟩;refine tkS (.int .u64 (pp:Int)) (fun w' hS=>?_) ?_
  ·go_simp
  simp only [zA,zB,zC,Act.put,zD,zE,zF];refine tkS (.int .i64 0) (fun w' hS=>?_) ?_
  ·go_simp
  simp only [zA,zB,zC,Act.put,zD,zE,zF];refine tkS (.int .u64 (pp:Int)) (fun w' hS=>?_) ?_
  ·go_simp
  simp only [zA,zB,zC,Act.put,zD,zE,zF];show wpList _ _ _ _ _ _;simp only [List.drop_succ_cons,List.drop_zero];go_wp2_with fail
  refine NoPanic.normal ?_;go_wp2;go_ret2;exact ⟨rfl,HB4.out⟩
 ·have hko:kindOf ⟨gen,kd,177⟩ kind=kd:=rfl
  have hk1':0 < kd:=hko ▸ hk1;have hk2':kd < 128:=hko ▸ hk2;rw [hko] at HMk;clear hk1 hk2 hko;have dk0:((kd:Int) == 0)=false:=by rw [beq_eq_false_iff_ne];omega
  have dk1:decide (127 < (kd:Int))=false:=dF;go_enter Tryz.func210,Tryz.ntmps210
  go_wp2_with fail
  refine HHas.out.mono ?_;rintro e w1 ⟨rfl,hb1⟩;have HB1:=hid (HB0.out.trans (hb1.mono HB0.out.size));have hk:=HK.out.below hb1 HK.out.lt;have HK1:=hid hk;have f0:w1.cell? ⟨w.heap.size,0,none⟩=some (.iface 58 (.pointer (some ⟨a.th 0,0,none⟩))):=hk.cell 0;have f1:w1.cell? ⟨w.heap.size,1,none⟩=some (.int .i64 (ln:Int)):=hk.cell 1;have f2:w1.cell? ⟨w.heap.size,2,none⟩=some (.int .i64 (cl:Int)):=hk.cell 2;have f3:w1.cell? ⟨w.heap.size,3,none⟩=some (.int .i64 0):=hk.cell 3;have f4:w1.cell? ⟨w.heap.size,4,none⟩=some (.int .u16 (g:Int)):=hk.cell 4;clear hb1 hk HK HHas;go_wp2_with (go_at_call 112;refine (HEr.out _ HB1.out).mono ?_;rintro e w2 ⟨rfl,rfl⟩)
  refine (HRd.out _ HB1.out).mono ?_;rintro e w2 ⟨rfl,hb2⟩;have hbx:Below w1.heap.size w1 (w2.alloc (.cells #[.int .u16 (gen:Int), .int .u8 (kd:Int), .int .u8 177] 401)):=hb2.alloc hb2.size _;have HBX:=hid (HB1.out.trans (hbx.mono HB1.out.size));have HKX:=hid (HK1.out.below hbx HK1.out.lt);have HBB:=hid (Blk.new w2 401 #[.int .u16 (gen:Int), .int .u8 (kd:Int), .int .u8 177]);have f0':w2.cell? ⟨w.heap.size,0,none⟩=some (.iface 58 (.pointer (some ⟨a.th 0,0,none⟩))):=(HK1.out.below hb2 HK1.out.lt).cell 0;have hl1:=HK1.out.lt;have hl2:=hb2.size;have hlt:w.heap.size < w2.heap.size:=oM;clear hb2 hbx HK1 HB1 HRd f0 f1 f2 f3 f4 hl1 hl2;go_wp2_with (go_at_call 112;refine (HEr.out _ HBX.out).mono ?_;rintro e w3 ⟨rfl,rfl⟩)
  refine (HGd.out _).mono ?_;rintro e w3 ⟨rfl,hb3⟩;have HB3:=hid (HBX.out.trans (hb3.mono HBX.out.size));have hkc:=HKX.out.below hb3 HKX.out.lt;have hkb:=HBB.out.below hb3 HBB.out.lt;have HKC:=hid hkc;have HKB:=hid hkb;have g0:w3.cell? ⟨w2.heap.size,0,none⟩=some (.int .u16 (gen:Int)):=hkb.cell 0;have g1:w3.cell? ⟨w2.heap.size,1,none⟩=some (.int .u8 (kd:Int)):=hkb.cell 1;have g2:w3.cell? ⟨w2.heap.size,2,none⟩=some (.int .u8 177):=hkb.cell 2;clear hb3 hkc hkb HBX HKX HBB HGd HEr f0' hlt;generalize w2.heap.size=p2 at *;go_wp2_with fail
  clear g0 g1 g2;refine wp_region_script (fun w'=>Below w.heap.size w w'∧Blk w' w.heap.size 306 #[.iface 58 (.pointer (some ⟨a.th 0,0,none⟩)), .int .i64 (ln:Int), .int .i64 (cl:Int), .int .i64 0, .int .u16 (g:Int)]∧Blk w' p2 401 #[.int .u16 (gen:Int), .int .u8 (kd:Int), .int .u8 177]) 11 [(true,0),(true,1),(true,4),(true,5),(true,6),(false,2),(true,3),(false,7),(true,8),(true,9),(true,10)] (by kernel_rfl) (by kernel_rfl) ⟨HB3.out.drew,HKC.out.drew,HKB.out.drew⟩ ?_;refine tkS (.agg #[.iface 58 (.pointer (some ⟨a.th 0,0,none⟩)), .int .i64 (ln:Int), .int .i64 (cl:Int), .int .i64 0, .int .u16 (g:Int)]) (fun w' hS=>?_) ?_
  ·have hk:=hS.2.1
   have f0:w'.cell? ⟨w.heap.size,0,none⟩=some (.iface 58 (.pointer (some ⟨a.th 0,0,none⟩))):=hk.cell 0;have f1:w'.cell? ⟨w.heap.size,1,none⟩=some (.int .i64 (ln:Int)):=hk.cell 1;have f2:w'.cell? ⟨w.heap.size,2,none⟩=some (.int .i64 (cl:Int)):=hk.cell 2;have f3:w'.cell? ⟨w.heap.size,3,none⟩=some (.int .i64 0):=hk.cell 3;have f4:w'.cell? ⟨w.heap.size,4,none⟩=some (.int .u16 (g:Int)):=hk.cell 4;go_simp
  simp only [zA,zB,Act.put,zD,zE,zF];refine tkS (.int .i64 (i:Int)) (fun w' hS=>?_) ?_
  ·go_simp
  simp only [zA,zB,zC,Act.put,zD,zE,zF];refine tkS (.pointer (some ⟨p2,0,none⟩)) (fun w' hS=>?_) ?_
  ·go_simp
  simp only [zA,zB,zC,Act.put,zD,zE,zF];refine tkS (.int .u16 (gen:Int)) (fun w' hS=>?_) ?_
  ·have f0:w'.cell? ⟨p2,0,none⟩=some (.int .u16 (gen:Int)):=hS.2.2.cell 0
   go_simp
  simp only [zA,zB,zC,Act.put,zD,zE,zF];refine tkS (.int .u8 (kd:Int)) (fun w' hS=>?_) ?_
  ·go_simp
  simp only [zA,zB,zC,Act.put,zD,zE,zF];refine wpScript_do (by rfl) ?_;go_wp2_with fail
  refine (HAt.out _ HB3.out.drew).mono ?_;rintro e w4 ⟨rfl,hb4⟩;have HB4:=hid (HB3.out.drew.trans (hb4.mono HB3.out.drew.size));have HKC4:=hid (HKC.out.drew.below hb4 HKC.out.drew.lt);have HKB4:=hid (HKB.out.drew.below hb4 HKB.out.drew.lt);clear hb4 HAt HB3 HKC HKB;go_wp2_with fail
  refine ⟨⟨HB4.out,HKC4.out,HKB4.out⟩,?_⟩;refine tkS (.int .u64 (z8:Int)) (fun w' hS=>?_) ?_
  ·go_simp
  simp only [zA,zB,zC,Act.put,zD,zE,zF];refine wpScript_do (by rfl) ?_;go_wp2_with fail
  refine (HMk.out _).mono ?_;rintro e w5 ⟨rfl,rfl⟩;go_wp2_with fail
  refine ⟨⟨HB4.out,HKC4.out,HKB4.out⟩,?_⟩;refine tkS (.int .u64 (pp:Int)) (fun w' hS=>?_) ?_
  ·go_simp
  simp only [zA,zB,zC,Act.put,zD,zE,zF];refine tkS (.int .i64 0) (fun w' hS=>?_) ?_
  ·go_simp
  simp only [zA,zB,zC,Act.put,zD,zE,zF];refine tkS (.int .u64 (pp:Int)) (fun w' hS=>?_) ?_
  ·go_simp
  simp only [zA,zB,zC,Act.put,zD,zE,zF];show wpList _ _ _ _ _ _;simp only [List.drop_succ_cons,List.drop_zero];go_wp2_with fail
  refine NoPanic.normal ?_;go_wp2;go_ret2;exact ⟨rfl,HB4.out⟩
end
end
section
open Go.RowKit
theorem RetProg.back {w w1 w':World} {P:List Ins→Prop} {e:Ending} (hb:Below w.heap.size w w1) (h:RetProg w1 P e w'):RetProg w P e w':=by
 obtain ⟨A,m,c,p,he,hp,ho,hb'⟩:=h;exact ⟨A,m,c,p,he,hp,own_le ho hb.size,hb.trans (hb'.mono hb.size)⟩
theorem RetDev.back {a:DA} {L T:Nat} {w w1 w':World} {S:Fp} {cur:Nat→Nat} {F:Nat} {v:Value} {e:Ending} (hb:Below w.heap.size w w1) (h:RetDev a L T w1 S cur F v e w'):RetDev a L T w S cur F v e w':=by
 obtain ⟨he,S',hd,hc,hg⟩:=h;exact ⟨he,S',hd,(Chg.of_below hb).trans hc (Grew.refl _ _),(Grew.refl S w).trans hg hb.size⟩
theorem RetDev.then_ {a:DA} {L T:Nat} {w w1 w':World} {S S1:Fp} {cur:Nat→Nat} {F:Nat} {v:Value} {e:Ending} (hc1:Chg S w w1) (hg1:Grew S S1 w) (h:RetDev a L T w1 S1 cur F v e w'):RetDev a L T w S cur F v e w':=by
 obtain ⟨he,S',hd,hc,hg⟩:=h;exact ⟨he,S',hd,hc1.trans hc hg1,hg1.trans hg hc1.size⟩
theorem run_stores {a:DA} {L T:Nat} {w:World} {S:Fp} {cur:Nat→Nat} (h:Dev a L T w S cur 0) {A:Option Addr} {m c base:Nat} {p:List Ins} {ws:List (Nat × Nat)} (ho:w.ownsRow base 284 3 (.slice A m c) m (insCells p)) (hb:∀ k,S k→k < base) (hp:IsStores ws p)
  (hw:∀ e∈ws,e.1 % 8=0∧e.1 < 64 * L∧e.2 < 18446744073709551616) (hl:ws.length≤1000) (hT:T+(2 * ws.length+1)≤1000000000) :
  Calls Tryz.prog 78 #[.slice A m c,memV a] w (RetDev a L (T+(2 * ws.length+1)) w S (wrS cur ws) 0 (.int .i64 0)):=by
 obtain ⟨hg,hr,hlen⟩:=isStores_good hp hw cur;have hm:p.length=m:=by have:=ho.1;rw [insCells_len] at this;omega
 refine (run_any h A m c p (Reads.of_own ho) ?_ hg oM oM).mono ?_
 ·intro ad had hs
  rcases ho.2 with ⟨hv,_⟩ | ⟨g,cap,cs,hv,hge,_⟩
  ·injection hv with h1;rw [h1] at had;cases had
  ·injection hv with h1
   rw [h1] at had;injection had with h2
   subst h2;have:=hb _ hs;simp at this;omega
 ·rintro e w' ⟨he,S',hd,hc,hgr⟩
  rw [hr] at hd;exact ⟨he,S',hd.more oM oM,hc,hgr⟩
theorem one_reads (w:World) (o v:Nat):Reads (w.alloc (.cells #[.int .u64 (o:Int), .int .u64 (v:Int)] 114)) (w.alloc (.cells #[.int .u64 (o:Int), .int .u64 (v:Int)] 114)).heap.size 2 (some ⟨w.heap.size,0,none⟩) 1 (wrCells [(o,v)]):=by
 rw [show (w.alloc (.cells #[.int .u64 (o:Int), .int .u64 (v:Int)] 114)).heap.size=w.heap.size+1 by simp];exact row_reads_at w _ rfl _ 1 2 114 _ rfl rfl
theorem mark_any (a:DA) (s n g v:Nat) (w:World) (hB:Blk w g 353 (logCells a s n)) (hs:64 * s < 18446744073709551616) :
  Calls Tryz.prog 170 #[.pointer (some ⟨g,0,none⟩), .int .u64 (v:Int)] w (RetProg w (IsStores [(64 * s,v)])):=by
 have f1:w.cell? ⟨g,1,none⟩=some (.int .u64 ((64 * s:Nat):Int)):=hB.cell 1;have HS:=hid (stores_small _ 1 1 _ _ (one_reads w (64 * s) v) oM oM (fun e he=>by simp at he;subst he;exact hs));generalize 64 * s=o at *;clear hB;go_enter Tryz.func170,Tryz.ntmps170
 go_wp2_with (go_at_call 105;refine HS.out.mono ?_;intro e w1 h1;have h2:=RetProg.back ((Below.refl _ _).alloc (nL _) _) h1;obtain ⟨A1,m1,c1,p1,rfl,hp1,ho1,hb1⟩:=h2;have HP1:=hid hp1;have HO1:=hid ho1;have HB1:=hid hb1;clear h1 hp1 ho1 hb1)
 go_ret;exact ⟨_,_,_,_,rfl,HP1.out,HO1.out,HB1.out⟩
theorem redoFormat_any {a:DA} {L T:Nat} {w:World} {S:Fp} {cur:Nat→Nat} (h:Dev a L T w S cur 0) (s n:Nat) (hn:26≤n) (hs:s+n≤L) (hT:T+3≤1000000000) :
  Calls Tryz.prog 74 #[memV a, .int .i64 (s:Int), .int .i64 (n:Int)] w (RetDev a L (T+3) w S (wrS cur [(64 * s,0)]) 0 (.int .i64 0)):=by
 have HD:=hid h;have HH:=hid (handle_any h s n hn hs);have HB1:Hid (Below w.heap.size w (w.alloc (.cells (logCells a s n) 353))):=(Below.refl _ _).alloc (nL _) _;obtain ⟨ls,exe,per,cs,lsC,hdc,hnt⟩:=HD.out.below HB1.out;have hL:=hdc.hL;obtain ⟨f0,_,_,_,g2⟩:=hdc.facts (j:=0) oM;have HM:=hid (mark_any a s n w.heap.size 0 (w.alloc (.cells (logCells a s n) 353)) (Blk.new _ _ _) oM);have HSL:=hid hdc.lt;have HR:Hid (∀ (A:Option Addr) (m c:Nat) (p:List Ins) (w1:World),IsStores [(64 * s,0)] p→w1.ownsRow (w.alloc (.cells (logCells a s n) 353)).heap.size 284 3 (.slice A m c) m (insCells p)→Below (w.alloc (.cells (logCells a s n) 353)).heap.size (w.alloc (.cells (logCells a s n) 353)) w1 →
   Calls Tryz.prog 78 #[.slice A m c,memV a] w1 (RetDev a L (T+3) w S (wrS cur [(64 * s,0)]) 0 (.int .i64 0))):=fun A m c p w1 hp ho hb=>by
  refine (run_stores ((HD.out.below HB1.out).below hb) ho HSL.out hp (fun e he=>by simp at he;subst he;omega) (by simp) (by simpa using hT)).mono ?_;intro e w2 h2;exact RetDev.back (HB1.out.trans (hb.mono (by simp))) (by simpa using h2)
 have hmE:=methErr (some ⟨a.th 0,0,none⟩);clear hdc hnt h HB1 HD HSL;unfold memV at *;go_enter Tryz.func74,Tryz.ntmps74
 go_wp2_with (first
  | (go_at_call 169;refine HH.out.mono ?_;rintro e w1 ⟨rfl,rfl⟩)
  | (go_at_call 170;refine HM.out.mono ?_;rintro e w1 ⟨A1,m1,c1,p1,rfl,hp1,ho1,hb1⟩;have HRR:=hid (HR.out A1 m1 c1 p1 w1 hp1 ho1 hb1);clear hp1 ho1 hb1)
  | (go_at_call 78;refine HRR.out.mono ?_;rintro e w2 ⟨rfl,h2⟩;have HZ:=hid h2;clear h2)
  | go_in)
 go_ret;exact ⟨rfl,HZ.out⟩
end
section
open Go.RowKit
theorem infoLine:(Tryz.prog.info? 298).map (fun i=>(i.zero,i.size,i.bytes))=some (some (.agg #[.int .u64 0, .slice none 0 0]),2,32):=by kernel_rfl
def Of1 (w wx:World) (pb L:Nat) (pl:List Nat) (v:Value):Prop:=∃ d cb cc lb cs ls,v = .pointer (some ⟨d,0,none⟩)∧Blk wx d 158 #[.slice (some ⟨pb,0,none⟩) (8 * L) (8 * L), .slice (some ⟨cb,0,none⟩) (8 * L) cc, .slice (some ⟨lb,0,none⟩) L L, .pointer none, .pointer none, .pointer none, .pointer none, .pointer none, .pointer none, .pointer none, .pointer none, .bool false, .bool false, .int .i64 0, .int .u64 0] ∧
 Blk wx cb 32 cs∧cs.size=cc∧8 * L≤cc∧cc≤9223372036854775807∧RowU cs pl∧Blk wx lb 298 ls∧ls=madeCells (Value.agg #[.int .u64 0, .slice none 0 0]).cells (L * 2)∧Below w.heap.size w wx∧w.heap.size≤cb∧w.heap.size≤lb∧w.heap.size≤d
theorem Blk.new2 (w:World) (o:Obj) (t:TypeId) (cs:Array Value):Blk ((w.alloc o).alloc (.cells cs t)) (w.heap.size+1) t cs:=by
 have h:=Blk.new (w.alloc o) t cs;rw [show (w.alloc o).heap.size=w.heap.size+1 by simp] at h;exact h
theorem of_join {w wx:World} {pb L d lb m1 c1:Nat} {pl:List Nat} {A1:Option Addr} (h0:0 < L) (hd:Blk wx d 158 #[.slice (some ⟨pb,0,none⟩) (8 * L) (8 * L), .slice A1 m1 c1, .slice (some ⟨lb,0,none⟩) L L, .pointer none, .pointer none, .pointer none, .pointer none, .pointer none, .pointer none, .pointer none, .pointer none, .bool false, .bool false, .int .i64 0, .int .u64 0]) (ho:wx.ownsRow w.heap.size 32 1 (.slice A1 m1 c1) m1 (uCells pl)) (hm:m1=8 * L)
  (hl:Blk wx lb 298 (madeCells (Value.agg #[.int .u64 0, .slice none 0 0]).cells (L * 2))) (hb:Below w.heap.size w wx) (h1:w.heap.size≤lb) (h2:w.heap.size≤d):Of1 w wx pb L pl (.pointer (some ⟨d,0,none⟩)):=by
 obtain ⟨g,cap,hve,hgb,hglt⟩:=ho.form oM;have hA:A1=some ⟨g,0,none⟩:=by injection hve
 subst hA;obtain ⟨cur,hcb,hcs,hru,hxl⟩:=own_row ho;have hcap:=own_cap ho;subst hm;exact ⟨d,g,c1,lb,cur,_,rfl,hd,hcb,hcs,oM,oM,hru,hl,rfl,hb,hgb,h1,h2⟩
structure OfI (w wr:World) (pb L d cb cc lb:Nat) (cs ls:Array Value) (th nt:Nat→Nat) (k:Nat):Prop where
 dev:∃ dc,Blk wr d 158 dc∧dc.size=15∧dc[0]?=some (.slice (some ⟨pb,0,none⟩) (8 * L) (8 * L))∧dc[1]?=some (.slice (some ⟨cb,0,none⟩) (8 * L) cc)∧dc[2]?=some (.slice (some ⟨lb,0,none⟩) L L)∧dc[11]?=some (.bool false)∧dc[12]?=some (.bool false)∧dc[13]?=some (.int .i64 0)∧dc[14]?=some (.int .u64 0)∧∀ j,j < k→dc[3+j]?=some (.pointer (some ⟨th j,0,none⟩))
 cur:Blk wr cb 32 cs
 lin:Blk wr lb 298 ls
 thr:∀ j,j < k→Blk wr (th j) 268 #[.pointer (some ⟨d,0,none⟩), .int .i64 (j:Int), .int .i64 0, .map (some (nt j))]
 map:0 < k→wr.ownsMap Tryz.prog 3 (plainElem Tryz.prog 32) (nt 0) 0 (.map ([]:List (Lit × DataW Unit)))
 below:Below w.heap.size w wr
 gd:w.heap.size≤d
 gt:∀ j,j < k→w.heap.size≤th j∧w.heap.size≤nt j
theorem ofStep {w wr:World} {pb L d cb cc lb:Nat} {cs ls:Array Value} {th nt:Nat→Nat} {k:Nat} (H:OfI w wr pb L d cb cc lb cs ls th nt k) (hk:k < 8) :
  OfI w (((wr.setCell ⟨d,3+k,none⟩ (.pointer (some ⟨wr.heap.size+1,0,none⟩))).alloc (.map #[] 0)).alloc (.cells #[.pointer (some ⟨d,0,none⟩), .int .i64 (k:Int), .int .i64 0, .map (some wr.heap.size)] 268)) pb L d cb cc lb cs ls (fun j=>if j=k then wr.heap.size+1 else th j) (fun j=>if j=k then wr.heap.size else nt j) (k+1):=by
 obtain ⟨⟨dc,hd,hds,e0,e1,e2,e3,e4,e5,e6,e7⟩,hcu,hli,hth,hmp,hbl,hgd,hgt⟩:=H;have hs:(wr.setCell ⟨d,3+k,none⟩ (.pointer (some ⟨wr.heap.size+1,0,none⟩))).heap.size=wr.heap.size:=by simp
 have hc:Chg (fun g=>g=d) wr (((wr.setCell ⟨d,3+k,none⟩ (.pointer (some ⟨wr.heap.size+1,0,none⟩))).alloc (.map #[] 0)).alloc (.cells #[.pointer (some ⟨d,0,none⟩), .int .i64 (k:Int), .int .i64 0, .map (some wr.heap.size)] 268)):=(((Chg.refl (fun g=>g=d) wr).setCell (p:=⟨d,3+k,none⟩) (.inl rfl) _).alloc _).alloc _;refine ⟨⟨_,((hd.set_ (3+k) _).alloc _).alloc _,by simpa using hds,?_,?_,?_,?_,?_,?_,?_,?_⟩,hc.blk hcu (fun e=>hcu.ne_ hd (by decide) e),hc.blk hli (fun e=>hli.ne_ hd (by decide) e),?_,?_,?_,hgd,?_⟩
 ·rw [Array.getElem?_setIfInBounds_ne oM];exact e0
 ·rw [Array.getElem?_setIfInBounds_ne oM];exact e1
 ·rw [Array.getElem?_setIfInBounds_ne oM];exact e2
 ·rw [Array.getElem?_setIfInBounds_ne oM];exact e3
 ·rw [Array.getElem?_setIfInBounds_ne oM];exact e4
 ·rw [Array.getElem?_setIfInBounds_ne oM];exact e5
 ·rw [Array.getElem?_setIfInBounds_ne oM];exact e6
 ·intro j hj
  by_cases hjk:j=k
  ·subst hjk
   rw [Array.getElem?_setIfInBounds_self_of_lt oM];simp
  ·rw [Array.getElem?_setIfInBounds_ne oM,e7 j oM]
   simp [hjk]
 ·intro j hj
  by_cases hjk:j=k
  ·subst hjk
   have h:=Blk.new2 (wr.setCell ⟨d,3+j,none⟩ (.pointer (some ⟨wr.heap.size+1,0,none⟩))) (.map #[] 0) 268 #[.pointer (some ⟨d,0,none⟩), .int .i64 (j:Int), .int .i64 0, .map (some wr.heap.size)];rw [hs] at h;simpa using h
  ·have h:=hc.blk (hth j oM) (fun e=>(hth j oM).ne_ hd (by decide) e)
   simpa [hjk] using h
 ·intro _
  by_cases hk0:0=k
  ·subst hk0
   have h:=World.ownsMap_made (H:=Unit) (wr.setCell ⟨d,3+0,none⟩ (.pointer (some ⟨wr.heap.size+1,0,none⟩))) Tryz.prog 3 (plainElem Tryz.prog 32);rw [hs] at h;have h2:=((Chg.refl Fp.no _).alloc (.cells #[.pointer (some ⟨d,0,none⟩), .int .i64 ((0:Nat):Int), .int .i64 0, .map (some wr.heap.size)] 268)).map h (fun h=>h);simpa using h2
  ·have h:=hc.map (hmp oM) (fun e=>map_ne_blk (hmp oM) hd e)
   simpa [hk0] using h
 ·have h1:=(hbl.setCell (p:=⟨d,3+k,none⟩) hgd (.pointer (some ⟨wr.heap.size+1,0,none⟩)))
  exact (h1.alloc h1.size _).alloc (Nat.le_trans h1.size (by simp)) _
 ·intro j hj
  have:=hbl.size;by_cases hjk:j=k
  ·simp [hjk];omega
  ·simpa [hjk] using hgt j oM
def RetOf (w:World) (pb L:Nat) (pl:List Nat) (e:Ending) (w':World):Prop:=∃ (d cb cc lb:Nat) (cs ls:Array Value) (th nt:Nat→Nat),e = .returned (.pointer (some ⟨d,0,none⟩))∧OfI w w' pb L d cb cc lb cs ls th nt 8∧cs.size=cc∧8 * L≤cc∧cc≤9223372036854775807∧RowU cs pl∧ls=madeCells (Value.agg #[.int .u64 0, .slice none 0 0]).cells (L * 2)∧w.heap.size≤cb∧w.heap.size≤lb
theorem of_any (pb L:Nat) (pl:List Nat) (hL:L≤4096) (h0:0 < L) (w:World) (hp:Reads w w.heap.size 1 (some ⟨pb,0,none⟩) (8 * L) (uCells pl)) :
  Calls Tryz.prog 168 #[.slice (some ⟨pb,0,none⟩) (8 * L) (8 * L)] w (RetOf w pb L pl):=by
 obtain ⟨j0,hj0,hk0,hk1,hk2⟩:=info_parts infoLine;have hmk:∀ W:World,(Instr.makeSlice 155 (.int .i64 (L:Int)) (.int .i64 (L:Int))).run Tryz.prog W = .ok (.slice (some ⟨W.heap.size,0,none⟩) L L) (W.alloc (.cells (madeCells (Value.agg #[.int .u64 0, .slice none 0 0]).cells (L * 2)) 298)):=fun W=>by
  have h:=run_makeSlice (P:=Tryz.prog) W 155 298 j0 _ Tryz.underlying155 hj0 hk0 .i64 .i64 (L:Int) (L:Int) oM oM (by rw [hk1];omega) (by rw [hk2];omega) oM;rw [hk1] at h;simpa using h
 have HJ:Hid (∀ (wx:World) (d lb m1 c1:Nat) (A1:Option Addr),_):=fun wx d lb m1 c1 A1=>of_join (pl:=pl) (w:=w) (wx:=wx) (pb:=pb) (d:=d) (lb:=lb) (m1:=m1) (c1:=c1) (A1:=A1) h0
 generalize madeCells (Value.agg #[.int .u64 0, .slice none 0 0]).cells (L * 2)=M at *;have HC:=hid (fun (W:World) (hW:Below w.heap.size w W)=>cloneU_any ⟨pb,0,none⟩ (8 * L) (8 * L) _ W ((hp.below hW).more hW.size) oM);generalize hN:8 * L=N at *;have d1:(N:Int).tdiv 8=(L:Int):=by rw [Int.tdiv_eq_ediv_of_nonneg oM];omega
 have d2:(N:Int) / 8=(L:Int):=oM;have wL:IntKind.i64.wrap (L:Int)=(L:Int):=by rw [IntKind.wrap_i64];omega
 have HN:=hid hN;clear hN hp;go_enter Tryz.func168,Tryz.ntmps168
 go_wp2_with fail
 go_cut [3] from 5 to 13 (fun v wx=>Hid (Of1 w wx pb L pl v))
 case first =>
  go_region_with (go_at_call 190;refine (HC.out _ (by first | exact (Below.refl _ _).drew | exact (Below.refl _ _).drew.alloc (nL _) _)).mono ?_;rintro e w1 ⟨A1,m1,c1,rfl,hm1,ho1,hb1⟩;have HO1:=hid ho1;have HB1:=hid hb1;have HM1:=hid hm1;clear ho1 hb1 hm1)
  ·go_wp2_with fail
   go_meet;exact HJ.out _ _ _ _ _ _ (Blk.new2 _ _ _ _) ((HO1.out.alloc _).alloc _) HM1.out ((Blk.new _ _ _).alloc _) (((Below.refl w.heap.size w).drew.trans HB1.out).alloc HB1.out.size _ |>.alloc (Nat.le_trans HB1.out.size (by simp)) _) HB1.out.size (Nat.le_trans HB1.out.size (by simp))
  ·go_wp2_with fail
   go_meet;have hb:Below w.heap.size w w1:=((Below.refl w.heap.size w).drew.alloc (nL _) _).trans (HB1.out.mono (by simp));exact HJ.out _ _ _ _ _ _ (Blk.new _ _ _) ((own_le HO1.out (by simp)).alloc _) HM1.out (((Blk.new w.drew _ _).below HB1.out (Blk.new w.drew _ _).lt).alloc _) (hb.alloc hb.size _) (nL _) hb.size
 case rest =>
  obtain ⟨d,cb,cc,lb,cs,ls,rfl,hd,hc,hcs,hc1,hc2,hru,hl,hls,hb,g1,g2,g3⟩:=hcut.out;have HI0:Hid (OfI w wc pb L d cb cc lb cs ls (fun _=>0) (fun _=>0) 0):=⟨⟨_,hd,rfl,rfl,rfl,rfl,rfl,rfl,rfl,rfl,fun j hj=>oM⟩,hc,hl,fun j hj=>oM,fun h=>oM,hb,g3,fun j hj=>oM⟩
  have HF:=hid (show cs.size=cc∧8 * L≤cc∧cc≤9223372036854775807∧RowU cs pl∧ls=madeCells (Value.agg #[.int .u64 0, .slice none 0 0]).cells (L * 2)∧w.heap.size≤cb∧w.heap.size≤lb from ⟨hcs,hc1,hc2,hru,hls,g1,g2⟩);clear hcut hd hc hru hl hls hb HC HJ hmk d1 d2 wL;go_wp2;go_loopw [14] (fun i wr=>∃ (k:Nat) (th nt:Nat→Nat),k≤8∧i = .int .i64 k∧Hid (OfI w wr pb L d cb cc lb cs ls th nt k)) (fun i _=>8 - (RowKit.intOf i).toNat)
  case atStart=>exact ⟨0,_,_,Nat.zero_le _,rfl,HI0⟩
  case round =>
   clear HI0;obtain ⟨k,th,nt,hk,rfl,H⟩:=hrel;by_cases hlt:k < 8
   ·obtain ⟨dc,hdb,hds,_⟩:=H.out.dev
    obtain ⟨u0,hu0⟩:∃ u,dc[3+k]?=some u:=⟨_,Array.getElem?_eq_getElem oM⟩
    have c0:wr.cell? ⟨d,3+k,none⟩=some u0:=by rw [hdb.cell];exact hu0
    have c1:wr.frozen? ⟨d,3+k,none⟩=false:=hdb.frozen _;have hdl:=hdb.lt;have hmm:∀ W:World,(Instr.makeMap 266 none).run Tryz.prog W = .ok (.map (some W.heap.size)) (W.alloc (.map #[] 0)):=fun _=>rfl
    have hz0:(0:Int)≤(k:Int):=oM;have hz1:(k:Int) < 8:=oM;have HN1:=hid (ofStep H.out hlt);clear H hdb hds hu0;go_wp2;exact ⟨⟨k+1,_,_,oM,by go_num,HN1⟩,by simp [RowKit.intOf];omega⟩
   ·obtain rfl:k=8:=oM
    go_wp2;go_ret;exact ⟨d,cb,cc,lb,cs,ls,th,nt,rfl,H.out,HF.out⟩
end
end Go.Proofs.YtfkjjoglnmeciaaGreatDoor
