/- The walks and laws that the claim leans on, part 12. -/
import Derived.Test.YtfkjjoglnmeciaaGreatDoorQak
import Derived.Lib.Zigzag
set_option maxRecDepth 100000
set_option maxHeartbeats 16000000
namespace Go.Proofs.YtfkjjoglnmeciaaGreatDoor
open Go.Lib (hid)
section
open Go.RowKit
def bitAt (V i:Nat):Bool:=V / 2 ^ i % 2 == 1
theorem bit_at (V i:Nat) (hV:V < 18446744073709551616):(bits .and .u64 ((V:Int) / 2 ^ i) 1 == 1)=bitAt V i:=by
 have e:(V:Int) / 2 ^ i=((V / 2 ^ i:Nat):Int):=by push_cast;rfl
 have h:=Nat.div_le_self V (2 ^ i);rw [e];unfold bitAt;generalize V / 2 ^ i=y at *;rw [Lib.u64_and1 _ oM oM];have e2:(y:Int) % 2=((y % 2:Nat):Int):=oM;rw [e2];generalize y % 2=x;by_cases h:x=1
 ·subst h;rfl
 ·rw [beq_eq_false_iff_ne.2 h,beq_eq_false_iff_ne];omega
section
variable {a:DA} {L T:Nat} {w:World} {S:Fp} {cur:Nat→Nat} {F:Nat}
theorem read_any (h:Dev a L T w S cur F) (ht:Tab w) (hp:Pay w) (ln cl g V i:Nat) (b:BK) (hb:b.In) (hl:ln+32≤L) (hc:cl < 5) (hi:i < perC cl) (hV:V < 18446744073709551616) (hv:cur (8 * ln+1)=V) (hw:cur (8 * ln+offB cl i)=b.w) :
  Calls Tryz.prog 295 #[chV a ln cl 0 g, .int .i64 (i:Int)] w fun e w'=>e = .returned (.tuple #[b.v, .bool true, .bool (bitAt V i)])∧Below w.heap.size w w':=by
 obtain ⟨_,_,_,_,_,hdc,_⟩:=id h;have hL:=hdc.hL;clear hdc;have ho:=off_lt hi;have hi62:=per_le cl;have HLd:=hid (load_at h (64 * ln+8 * offB cl i) b.w oM oM (by rw [show (64 * ln+8 * offB cl i) / 8=8 * ln+offB cl i by omega];exact hw));have hb0:Below w.heap.size w ((w.alloc (.cells (chCells a ln cl g) 306)).alloc (.cells #[.int .u16 0, .int .u8 0, .int .u8 0] 401)):=((Below.refl _ _).alloc (nL _) _).alloc (by simp) _;have HB0:=hid hb0;have HBi:=hid (bits_any (h.below hb0) ln cl g V hl hv);have HAt:Hid (∀ W,Below w.heap.size w W→Calls Tryz.prog 301 #[chV a ln cl 0 g, .int .i64 (i:Int)] W fun e w'=>e = .returned (.int .u64 ((64 * ln+8 * offB cl i:Nat):Int))∧Below W.heap.size W w'):=hid (fun W hW=>blkAt_any ln cl g i oM hc hi W (hp.below hW));have HSe:Hid (∀ W,Below w.heap.size w W→Calls Tryz.prog 352 #[.int .u64 (b.w:Int)] W fun e w'=>e = .returned (.tuple #[b.v, .bool true])∧Below W.heap.size W w'):=hid (fun W hW=>sealed_any b hb W (ht.below hW));have hna:=aheadLoad ⟨a.th 0,0,none⟩;have hm:=methLoad (some ⟨a.th 0,0,none⟩);have HK:=hid ((Blk.new w 306 (chCells a ln cl g)).below ((Below.refl _ (w.alloc (.cells (chCells a ln cl g) 306))).alloc (nL _) (.cells #[.int .u16 0, .int .u8 0, .int .u8 0] 401)) (by simp));have esz:(w.alloc (.cells (chCells a ln cl g) 306)).heap.size=w.heap.size+1:=by simp
 have HK2:Hid (Blk ((w.alloc (.cells (chCells a ln cl g) 306)).alloc (.cells #[.int .u16 0, .int .u8 0, .int .u8 0] 401)) (w.heap.size+1) 401 #[.int .u16 0, .int .u8 0, .int .u8 0]):=by
  rw [← esz];exact Blk.new _ _ _
 clear h hv hw hb0 hp ht esz;have s1:IntKind.u64.wrap (i:Int)=(i:Int):=by rw [IntKind.wrap_u64];omega
 unfold chV BK.v at *;unfold chCells memV at *;have ebit:=bit_at V i hV;generalize bitAt V i=bt at *;generalize 64 * ln+8 * offB cl i=z at *;generalize offB cl i=ob at *;go_enter Tryz.func295,Tryz.ntmps295
 go_wp2_with fail
 refine HBi.out.mono ?_;rintro e w1 ⟨rfl,hb1⟩;have HB1:=hid (HB0.out.trans (hb1.mono HB0.out.size));have HKs:=hid (HK.out.below hb1 HK.out.lt);have HK2s:=hid (HK2.out.below hb1 HK2.out.lt);have HBD:Hid (Below w1.heap.size w1 w1.drew):=(Below.refl _ _).drew;clear hb1 HK HK2 HBi HB0;go_wp2_with fail
 have f0:w1.cell? ⟨w.heap.size,0,none⟩=some (.iface 58 (.pointer (some ⟨a.th 0,0,none⟩))):=HKs.out.cell 0;have f1:w1.cell? ⟨w.heap.size,1,none⟩=some (.int .i64 (ln:Int)):=HKs.out.cell 1;have f2:w1.cell? ⟨w.heap.size,2,none⟩=some (.int .i64 (cl:Int)):=HKs.out.cell 2;have f3:w1.cell? ⟨w.heap.size,3,none⟩=some (.int .i64 0):=HKs.out.cell 3;have f4:w1.cell? ⟨w.heap.size,4,none⟩=some (.int .u16 (g:Int)):=HKs.out.cell 4;have HBW:=hid (HB1.out.drew);refine wp_region_script (fun w'=>Blk w' w.heap.size 306 #[.iface 58 (.pointer (some ⟨a.th 0,0,none⟩)), .int .i64 (ln:Int), .int .i64 (cl:Int), .int .i64 0, .int .u16 (g:Int)]) 13 [(true,0),(true,1),(true,2),(true,3),(true,5),(true,6),(false,4),(false,7),(false,8),(true,9),(true,10),(true,11),(false,12)] (by kernel_rfl) (by kernel_rfl) HKs.out.drew ?_;refine tkS (.pointer (some ⟨w.heap.size,0,none⟩)) (fun w' hS=>?_) ?_
 ·go_simp
 simp only [zA,zB,Act.put,zD,zE,zF];refine tkS (.iface 58 (.pointer (some ⟨a.th 0,0,none⟩))) (fun w' hS=>?_) ?_
 ·have f0:w'.cell? ⟨w.heap.size,0,none⟩=some (.iface 58 (.pointer (some ⟨a.th 0,0,none⟩))):=hS.cell 0
  go_simp
 simp only [zA,zB,zC,Act.put,zD,zE,zF];refine tkS (.agg #[.iface 58 (.pointer (some ⟨a.th 0,0,none⟩)), .int .i64 (ln:Int), .int .i64 (cl:Int), .int .i64 0, .int .u16 (g:Int)]) (fun w' hS=>?_) ?_
 ·have hk:=hS
  have f0:w'.cell? ⟨w.heap.size,0,none⟩=some (.iface 58 (.pointer (some ⟨a.th 0,0,none⟩))):=hk.cell 0;have f1:w'.cell? ⟨w.heap.size,1,none⟩=some (.int .i64 (ln:Int)):=hk.cell 1;have f2:w'.cell? ⟨w.heap.size,2,none⟩=some (.int .i64 (cl:Int)):=hk.cell 2;have f3:w'.cell? ⟨w.heap.size,3,none⟩=some (.int .i64 0):=hk.cell 3;have f4:w'.cell? ⟨w.heap.size,4,none⟩=some (.int .u16 (g:Int)):=hk.cell 4;go_simp
 simp only [zA,zB,zC,Act.put,zD,zE,zF];refine tkS (.int .i64 (i:Int)) (fun w' hS=>?_) ?_
 ·go_simp
 simp only [zA,zB,zC,Act.put,zD,zE,zF];refine tkS (.iface 58 (.pointer (some ⟨a.th 0,0,none⟩))) (fun w' hS=>?_) ?_
 ·go_simp
 simp only [zA,zB,zC,Act.put,zD,zE,zF];refine tkS (.iface 58 (.pointer (some ⟨a.th 0,0,none⟩))) (fun w' hS=>?_) ?_
 ·go_simp
 simp only [zA,zB,zC,Act.put,zD,zE,zF];refine wpScript_do (by rfl) ?_;go_wp2_with fail
 refine (HAt.out _ HBW.out).mono ?_;rintro e w2 ⟨rfl,hb2⟩;have HB2:=hid (HBD.out.trans (hb2.mono HBD.out.size));have HW2:=hid (HBW.out.trans (hb2.mono HBW.out.size));clear hb2 HAt HBW;go_wp2_with fail
 refine ⟨HKs.out.below HB2.out HKs.out.lt,?_⟩;refine wpScript_do (by rfl) ?_;go_wp2_with fail
 refine (HLd.out _ HW2.out).mono ?_;rintro e w3 ⟨rfl,rfl⟩;go_wp2_with fail
 refine ⟨HKs.out.below HB2.out HKs.out.lt,?_⟩;refine wpScript_do (by rfl) ?_;go_wp2_with fail
 refine (HSe.out _ HW2.out).mono ?_;rintro e w3 ⟨rfl,hb3⟩;have HB3:=hid (HB2.out.trans (hb3.mono HB2.out.size));have HW3:=hid (HW2.out.trans (hb3.mono HW2.out.size));clear hb3 HSe HLd;go_wp2_with fail
 refine ⟨HKs.out.below HB3.out HKs.out.lt,?_⟩;refine tkS (.tuple #[.agg #[.int .u16 (b.gen:Int), .int .u8 (b.kind:Int), .int .u8 (b.st:Int)], .bool true]) (fun w' hS=>?_) ?_
 ·go_simp
 simp only [zA,zB,zC,Act.put,zD,zE,zF];refine tkS (.agg #[.int .u16 (b.gen:Int), .int .u8 (b.kind:Int), .int .u8 (b.st:Int)]) (fun w' hS=>?_) ?_
 ·go_simp
 simp only [zA,zB,zC,Act.put,zD,zE,zF];refine tkS (.bool true) (fun w' hS=>?_) ?_
 ·go_simp
 simp only [zA,zB,zC,Act.put,zD,zE,zF];refine wpScript_do (by rfl) ?_;have hk2:=HK2s.out.below HB3.out HK2s.out.lt;have c0:w3.cell? ⟨w.heap.size+1,0,none⟩=some (.int .u16 0):=hk2.cell 0;have c1:w3.cell? ⟨w.heap.size+1,1,none⟩=some (.int .u8 0):=hk2.cell 1;have c2:w3.cell? ⟨w.heap.size+1,2,none⟩=some (.int .u8 0):=hk2.cell 2;have z0:w3.frozen? ⟨w.heap.size+1,0,none⟩=false:=hk2.frozen 0;have z1:w3.frozen? ⟨w.heap.size+1,1,none⟩=false:=hk2.frozen 1;have z2:w3.frozen? ⟨w.heap.size+1,2,none⟩=false:=hk2.frozen 2;have n01:(⟨w.heap.size+1,0,none⟩:Addr)≠⟨w.heap.size+1,1,none⟩:=by simp
 have n02:(⟨w.heap.size+1,0,none⟩:Addr)≠⟨w.heap.size+1,2,none⟩:=by simp
 have n12:(⟨w.heap.size+1,1,none⟩:Addr)≠⟨w.heap.size+1,2,none⟩:=by simp
 clear f0 f1 f2 f3 f4;go_wp2_with fail
 refine ⟨(((HKs.out.below HB3.out HKs.out.lt).far (p:=⟨w.heap.size+1,0,none⟩) (Nat.ne_of_lt (Nat.lt_succ_self _)) _).far (p:=⟨w.heap.size+1,1,none⟩) (Nat.ne_of_lt (Nat.lt_succ_self _)) _).far (p:=⟨w.heap.size+1,2,none⟩) (Nat.ne_of_lt (Nat.lt_succ_self _)) _,?_⟩;show wpList _ _ _ _ _ _;simp only [List.drop_succ_cons,List.drop_zero];go_wp2_with fail
 refine NoPanic.normal ?_;have HKc:=hid (((hk2.set_ 0 (.int .u16 (b.gen:Int))).set_ 1 (.int .u8 (b.kind:Int))).set_ 2 (.int .u8 (b.st:Int)));have HWc:=hid (((HW3.out.setCell (p:=⟨w.heap.size+1,0,none⟩) (Nat.le_succ _) (.int .u16 (b.gen:Int))).setCell (p:=⟨w.heap.size+1,1,none⟩) (Nat.le_succ _) (.int .u8 (b.kind:Int))).setCell (p:=⟨w.heap.size+1,2,none⟩) (Nat.le_succ _) (.int .u8 (b.st:Int)));generalize ((w3.setCell ⟨w.heap.size+1,0,none⟩ (.int .u16 (b.gen:Int))).setCell ⟨w.heap.size+1,1,none⟩ (.int .u8 (b.kind:Int))).setCell ⟨w.heap.size+1,2,none⟩ (.int .u8 (b.st:Int))=wc at *;clear hk2 c0 c1 c2 z0 z1 z2 n01 n02 n12;have c0:wc.cell? ⟨w.heap.size+1,0,none⟩=some (.int .u16 (b.gen:Int)):=HKc.out.cell 0;have c1:wc.cell? ⟨w.heap.size+1,1,none⟩=some (.int .u8 (b.kind:Int)):=HKc.out.cell 1;have c2:wc.cell? ⟨w.heap.size+1,2,none⟩=some (.int .u8 (b.st:Int)):=HKc.out.cell 2;have z0:wc.frozen? ⟨w.heap.size+1,0,none⟩=false:=HKc.out.frozen 0;have z1:wc.frozen? ⟨w.heap.size+1,1,none⟩=false:=HKc.out.frozen 1;have z2:wc.frozen? ⟨w.heap.size+1,2,none⟩=false:=HKc.out.frozen 2;go_wp2;have n01:(⟨w.heap.size+1,0,none⟩:Addr)≠⟨w.heap.size+1,1,none⟩:=by simp
 have n02:(⟨w.heap.size+1,0,none⟩:Addr)≠⟨w.heap.size+1,2,none⟩:=by simp
 have n12:(⟨w.heap.size+1,1,none⟩:Addr)≠⟨w.heap.size+1,2,none⟩:=by simp
 refine bodyPost_ret (v := .tuple #[.agg #[.int .u16 (b.gen:Int), .int .u8 (b.kind:Int), .int .u8 (b.st:Int)], .bool true, .bool bt]) (by simp [results,Tryz.results295,go_sem,c0,c1,c2]) rfl ⟨rfl,?_⟩;have hle:w.heap.size≤w.heap.size+1:=Nat.le_succ _;exact ((HWc.out.setCell (p:=⟨w.heap.size+1,0,none⟩) hle (.int .u16 (b.gen:Int))).setCell (p:=⟨w.heap.size+1,1,none⟩) hle (.int .u8 (b.kind:Int))).setCell (p:=⟨w.heap.size+1,2,none⟩) hle (.int .u8 (b.st:Int))
end
end
section
open Go.RowKit
theorem own_le {w:World} {base base':Nat} {e:TypeId} {size:Nat} {v:Value} {n:Nat} {xs:List Value} (h:w.ownsRow base e size v n xs) (hb:base'≤base):w.ownsRow base' e size v n xs:=by
 refine ⟨h.1,?_⟩;rcases h.2 with h0 | ⟨g,cap,cur,h1,h2,h3⟩
 ·exact .inl h0
 ·exact .inr ⟨g,cap,cur,h1,Nat.le_trans hb h2,h3⟩
def RetInss (w:World) (m:Nat) (l:List Ins) (e:Ending) (w':World):Prop :=
 ∃ A' m' c',e = .returned (.slice A' m' c')∧m'=m∧w'.ownsRow w.heap.size 284 3 (.slice A' m' c') m' (insCells l)∧Below w.heap.size w w'
theorem grow_nil (n:Nat) (w:World) (h0:0 < n) (hn:n≤1000) :
  Calls Tryz.prog 357 #[.slice none 0 0, .int .i64 (n:Int)] w (RetInss w 0 []):=by
 obtain ⟨i0,hi0,hz0,hz1,hz2⟩:=info_parts infoInstr;have happ:=Lib.run_append_nil_zeros (P:=Tryz.prog) w 151 3 151 284 i0 _ .i64 .i64 Tryz.underlying151 Tryz.underlying3 hi0 hz0 n h0 oM oM (by rw [hz2];omega);generalize hcap:grownCap w n 0 284=cap at happ;have hcapge:n≤cap:=by rw [← hcap];exact grownCap_ge w _ 0 284
 have hcaple:cap≤maxLen:=by rw [← hcap];exact grownCap_le_maxLen w _ 0 284 (by unfold maxLen;omega)
 have HO:Hid (∀ X:Array Value,X.size=cap * 3→(w.drew.alloc (.cells X 284)).ownsRow w.heap.size 284 3 (.slice (some ⟨w.heap.size,0,none⟩) 0 cap) 0 []):=fun X hX =>
  World.ownsRow_made w.drew X cap (nL _) hcaple hX
 generalize hZ:Builtin.zeroCells _ n++Builtin.zeroCells _ (cap - n)=Z at happ;have HZ:Hid (Z.size=cap * 3):=show _=_ by rw [← hZ,Array.size_append,size_zeroCells,size_zeroCells,show (Value.agg #[.int .u8 0, .int .u64 0, .int .u64 0]).cells.size=3 from rfl];omega
 clear hZ hcap hi0 hz0 hz1 hz2;have hb0:(0:Int)≤0:=Int.le_refl _;have hc9:cap≤9223372036854775807:=hcaple;go_enter Tryz.func357,Tryz.ntmps357
 go_wp2_with (at_builtin;refine Lib.wpList_append_run _ rfl _ _ _ _ rfl _ _ rfl rfl _ _ happ ?_)
 go_ret;refine ⟨_,_,_,rfl,rfl,HO.out Z HZ.out,?_⟩;exact (Below.refl _ _).drew.alloc (nL _) _
theorem grow_zero (w:World):Calls Tryz.prog 357 #[.slice none 0 0, .int .i64 0] w (RetInss w 0 []):=by
 have HO:Hid (∀ _:Nat,w.ownsRow w.heap.size 284 3 (.slice none 0 0) 0 []):=fun _=>World.ownsRow_nil _ _ _ _
 go_enter Tryz.func357,Tryz.ntmps357
 go_wp2;go_ret;exact ⟨_,_,_,rfl,rfl,HO.out 0,Below.refl _ _⟩
theorem grow_any (n:Nat) (w:World) (hn:n≤1000):Calls Tryz.prog 357 #[.slice none 0 0, .int .i64 (n:Int)] w (RetInss w 0 []):=by
 rcases Nat.eq_zero_or_pos n with rfl | h
 ·exact grow_zero w
 ·exact grow_nil n w h hn
def catAt (a b:List Ins):Nat→List Ins
 | 0=>[]
 | 1=>a
 | _=>a++b
theorem concat2 (A A2:Option Addr) (n c n2 c2:Nat) (a b:List Ins) (g:Nat) (w:World) (hb:Blk w g 151 #[.slice A n c, .slice A2 n2 c2]) (h1:Reads w w.heap.size 3 A n (insCells a)) (h2:Reads w w.heap.size 3 A2 n2 (insCells b)) (hn1:n≤400) (hn2:n2≤400) :
  Calls Tryz.prog 311 #[.slice (some ⟨g,0,none⟩) 2 2] w (RetInss w (n+n2) (a++b)):=by
 have HB:=hid hb;have H1:=hid h1;have H2:=hid h2;have f0:w.cell? ⟨g,0,none⟩=some (.slice A n c):=hb.cell 0;have f1:w.cell? ⟨g,1,none⟩=some (.slice A2 n2 c2):=hb.cell 1;have HG:=hid (grow_any (n+n2) w oM);clear hb h1 h2;go_enter Tryz.func311,Tryz.ntmps311
 go_wp2;go_loopw [3,11] (fun z i wr=>∃ (k m:Nat),k≤2∧i = .int .i64 k∧z = .int .i64 m∧(k=0→m=0)∧(k=1→m=n)∧(k=2→m=n+n2)∧w=wr) (fun _ i _=>2 - (RowKit.intOf i).toNat)
 case atStart=>exact ⟨0,0,oM,rfl,rfl,fun _=>rfl,oM,oM,rfl⟩
 case round =>
  obtain ⟨k,m,hk,rfl,rfl,hm0,hm1,hm2,rfl⟩:=hrel;have hd:¬ ((m:Int)+(n:Int) < 0):=oM;have hd':¬ ((m:Int)+(n2:Int) < 0):=oM;rcases (show k=0∨k=1∨k=2 by omega) with rfl | rfl | rfl
  ·obtain rfl:=hm0 rfl
   go_wp2;go_roundw
   case rel=>exact ⟨1,n,oM,by go_num,by go_num,oM,oM,oM,trivial⟩
   case measure=>simp [RowKit.intOf]
  ·obtain rfl:=hm1 rfl
   go_wp2;go_roundw
   case rel=>exact ⟨2,m+n2,oM,by go_num,by go_num,oM,oM,oM,trivial⟩
   case measure=>simp [RowKit.intOf]
  ·obtain rfl:=hm2 rfl
   obtain ⟨i0,hi0,hz0,hz1,hz2⟩:=info_parts infoInstr;go_wp2_with (go_at_call 357;refine HG.out.mono ?_;rintro e w1 ⟨A1,n1,c1,rfl,hn1,ho1,hb1⟩;have HO1:=hid ho1;have HB1:=hid hb1;have HN1:=hid hn1;clear ho1 hb1 hn1)
   go_loopw [6,27] (fun v i wr=>∃ (k:Nat) (A':Option Addr) (m c':Nat),k≤2∧i = .int .i64 k∧v = .slice A' m c'∧(k=0→m=0)∧(k=1→m=n)∧(k=2→m=n+n2)∧Hid (wr.ownsRow w.heap.size 284 3 (.slice A' m c') m (insCells (catAt a b k)))∧Hid (Below w.heap.size w wr)) (fun _ i _=>2 - (RowKit.intOf i).toNat)
   case atStart=>exact ⟨0,_,_,_,oM,rfl,rfl,fun _=>HN1.out,oM,oM,HO1,HB1⟩
   case round =>
    obtain ⟨k,A',m,c',hk,rfl,rfl,hm0,hm1,hm2,HO,HW⟩:=hrel;clear HO1 HB1 HN1;have f0:wr.cell? ⟨g,0,none⟩=some (.slice A n c):=(HB.out.below HW.out HB.out.lt).cell 0;have f1:wr.cell? ⟨g,1,none⟩=some (.slice A2 n2 c2):=(HB.out.below HW.out HB.out.lt).cell 1;rcases (show k=0∨k=1∨k=2 by omega) with rfl | rfl | rfl
    ·obtain rfl:=hm0 rfl
     go_wp2_with (at_builtin;refine wpList_app _ (.tmp 31) (.tmp 32) 151 rfl rfl w.heap.size 284 i0 _ 3 24 Tryz.underlying151 hi0 hz0 hz1 hz2 rfl ?q1 (.slice A' 0 c') 0 (insCells (catAt a b 0)) rfl HO.out w.heap.size A n c (insCells a) rfl ?q5 ?q6 ?q2 ?q3 ?q4 ?_;(case q1=>omega);(case q5=>exact H1.out.below HW.out);(case q6=>exact insCells_one a);(case q2=>(unfold maxLen;omega));(case q3=>omega);(case q4=>exact HW.out.size);intro A3 n3 c3 w8 hn3 ho3 hg3 hb3;have HN3:=hid hn3;have HO3:=hid ho3;have HB3:=hid (HW.out.trans hb3);clear hn3 ho3 hg3 hb3)
     go_roundw
     case rel=>exact ⟨1,_,_,_,oM,by go_num,rfl,oM,fun _=>HN3.out.trans (Nat.zero_add _),oM,HO3,HB3⟩
     case measure=>simp [RowKit.intOf]
    ·obtain rfl:=hm1 rfl
     go_wp2_with (at_builtin;refine wpList_app _ (.tmp 31) (.tmp 32) 151 rfl rfl w.heap.size 284 i0 _ 3 24 Tryz.underlying151 hi0 hz0 hz1 hz2 rfl ?q1 (.slice A' m c') m (insCells (catAt a b 1)) rfl HO.out w.heap.size A2 n2 c2 (insCells b) rfl ?q5 ?q6 ?q2 ?q3 ?q4 ?_;(case q1=>omega);(case q5=>exact H2.out.below HW.out);(case q6=>exact insCells_one b);(case q2=>(unfold maxLen;omega));(case q3=>omega);(case q4=>exact HW.out.size);intro A3 n3 c3 w8 hn3 ho3 hg3 hb3;have HN3:=hid hn3;have HO3:=hid ho3;have HB3:=hid (HW.out.trans hb3);clear hn3 ho3 hg3 hb3)
     have HO4:Hid (w8.ownsRow w.heap.size 284 3 (.slice A3 n3 c3) n3 (insCells (catAt a b 2))):=by have h:=HO3.out;rw [← insCells_app] at h;exact h
     go_roundw
     case rel=>exact ⟨2,_,_,_,oM,by go_num,rfl,oM,oM,fun _=>HN3.out,HO4,HB3⟩
     case measure=>simp [RowKit.intOf]
    ·obtain rfl:=hm2 rfl
     go_wp2;go_ret;exact ⟨_,_,_,rfl,rfl,HO.out,HW.out⟩
theorem then_any (A A2:Option Addr) (n c n2 c2:Nat) (a b:List Ins) (w:World) (h1:Reads w w.heap.size 3 A n (insCells a)) (h2:Reads w w.heap.size 3 A2 n2 (insCells b)) (hn1:n≤400) (hn2:n2≤400) :
  Calls Tryz.prog 228 #[.slice A n c, .slice A2 n2 c2] w (RetInss w (n+n2) (a++b)):=by
 have HB0:Hid (Below w.heap.size w (w.alloc (.cells #[.slice A n c, .slice A2 n2 c2] 151))):=(Below.refl _ _).alloc (nL _) _;have HC:=hid (concat2 A A2 n c n2 c2 a b w.heap.size (w.alloc (.cells #[.slice A n c, .slice A2 n2 c2] 151)) (Blk.new _ _ _) ((h1.below HB0.out).more (by simp)) ((h2.below HB0.out).more (by simp)) hn1 hn2);clear h1 h2;go_enter Tryz.func228,Tryz.ntmps228
 go_wp2_with (go_at_call 311;refine HC.out.mono ?_;rintro e w1 ⟨A1,n1,c1,rfl,hn1,ho1,hb1⟩;have HO1:=hid ho1;have HB1:=hid hb1;have HN1:=hid hn1;clear ho1 hb1 hn1)
 go_ret;exact ⟨_,_,_,rfl,HN1.out,own_le HO1.out (by simp),HB0.out.trans (HB1.out.mono (by simp))⟩
end
section
open Go.RowKit
theorem runP_sts:∀ (ws:List (Nat × Nat)) (cur:Nat→Nat),runP cur (ws.map stI)=wrS cur ws
 | [],_=>rfl
 | e :: ws,cur=>by
  have:=runP_sts ws (upd cur (e.1 / 8) e.2);simpa [runP,wrS,stI,runI] using this
theorem runP_fls:∀ (fs:List Nat) (cur:Nat→Nat),runP cur (fs.map Ins.fl)=cur
 | [],_=>rfl
 | f :: fs,cur=>by
  have:=runP_fls fs cur;simpa [runP,runI] using this
theorem goodP_sts {L:Nat}:∀ (ws:List (Nat × Nat)) (q:List Ins),(∀ e∈ws,e.1 % 8=0∧e.1 < 64 * L∧e.2 < 18446744073709551616)→goodQ L false q→goodQ L false (ws.map stI++q)
 | [],_,_,h=>h
 | e :: ws,q,hw,h=>⟨⟨rfl,hw e (by simp)⟩,goodP_sts ws q (fun e he=>hw e (by simp [he])) h⟩
theorem goodP_fls {L:Nat}:∀ (fs:List Nat) (b:Bool),(∀ o∈fs,o < 64 * L)→goodQ L b (fs.map Ins.fl++[Ins.fe])
 | [],_,_=>⟨trivial,rfl⟩
 | f :: fs,_,h=>⟨h f (by simp),goodP_fls fs true (fun o ho=>h o (by simp [ho]))⟩
theorem dirP_sts:∀ (ws:List (Nat × Nat)) (D N:Nat→Prop),(∀ k,(dirP (D,N) (ws.map stI)).1 k→D k∨∃ e∈ws,k=e.1 / 8)
 | [],_,_,_,h => .inl h
 | e :: ws,D,N,k,h=>by
  rcases dirP_sts ws (fun k=>D k∨k=e.1 / 8) (fun _=>False) k h with (h | h) | ⟨e',he',h⟩
  ·exact .inl h
  ·exact .inr ⟨e,by simp,h⟩
  ·exact .inr ⟨e',by simp [he'],h⟩
theorem dirP_keep:∀ (fs:List Nat) (D N:Nat→Prop) (i:Nat),N i→(dirP (D,N) (fs.map Ins.fl)).2 i
 | [],_,_,_,h=>h
 | f :: fs,D,N,i,h=>dirP_keep fs D (fun i=>N i∨i=f / 64) i (.inl h)
theorem dirP_fls:∀ (fs:List Nat) (D N:Nat→Prop),(∀ k,(dirP (D,N) (fs.map Ins.fl)).1 k→D k)∧∀ f∈fs,(dirP (D,N) (fs.map Ins.fl)).2 (f / 64)
 | [],_,_=>⟨fun _ h=>h,fun _ h=>by cases h⟩
 | f :: fs,D,N=>by
  have ih:=dirP_fls fs D (fun i=>N i∨i=f / 64);refine ⟨fun k h=>ih.1 k h,fun g hg=>?_⟩;rcases List.mem_cons.1 hg with rfl | hg
  ·exact dirP_keep fs D _ _ (.inr rfl)
  ·exact ih.2 g hg
theorem sts_clean {ws:List (Nat × Nat)} {fs:List Nat} (h:∀ e∈ws,lineOf e.1∈fs):Clean (ws.map stI++fs.map Ins.fl++[Ins.fe]):=fun D k hk=>by
 rw [dirP_app,dirP_app] at hk;have hk2:(dirP (dirP (D,fun _=>False) (ws.map stI)) (fs.map Ins.fl)).1 k∧¬ (dirP (dirP (D,fun _=>False) (ws.map stI)) (fs.map Ins.fl)).2 (k / 8):=hk;rcases dirP_sts ws D _ k ((dirP_fls fs _ _).1 k hk2.1) with h1 | ⟨e,he,h1⟩
 ·exact h1
 ·refine absurd ?_ hk2.2
  have h2:=(dirP_fls fs (dirP (D,fun _=>False) (ws.map stI)).1 (dirP (D,fun _=>False) (ws.map stI)).2).2 _ (h e he);have h3:lineOf e.1 / 64=k / 8:=by unfold lineOf;omega
  rw [h3] at h2;exact h2
theorem isStores_good {L:Nat} {ws:List (Nat × Nat)} {p:List Ins} (h:IsStores ws p) (hw:∀ e∈ws,e.1 % 8=0∧e.1 < 64 * L∧e.2 < 18446744073709551616) (cur:Nat→Nat) :
  goodP L false p∧runP cur p=wrS cur ws∧p.length≤2 * ws.length+1:=by
 obtain ⟨fs,rfl,hl,hq,hal⟩:=h;refine ⟨⟨?_,sts_clean hal⟩,?_,by simp;omega⟩
 ·rw [List.append_assoc]
  refine goodP_sts ws _ hw (goodP_fls fs false fun o ho=>?_);obtain ⟨e,he,rfl⟩:=hq o ho;have:=(hw e he).2.1;unfold lineOf;omega
 ·rw [runP_app,runP_app,runP_sts,runP_fls]
  rfl
end
section
open Go.RowKit
theorem cloneU_any (ad:Addr) (n c:Nat) (l:List Nat) (w:World) (h:Reads w w.heap.size 1 (some ad) n (uCells l)) (hn:n≤100000) :
  Calls Tryz.prog 190 #[.slice (some ad) n c] w (fun e w'=>∃ A' m' c',e = .returned (.slice A' m' c')∧m'=n∧w'.ownsRow w.heap.size 32 1 (.slice A' m' c') m' (uCells l)∧Below w.heap.size w w'):=by
 have H:=hid h;clear h;have hnil:∀ W,(binOp .eql 99 (.slice (some ad) n c) (.slice none 0 0)).run Tryz.prog W = .ok (.bool false) W:=fun W=>Lib.run_eql_slice_some_nil W _ _ _ Tryz.underlying99
 obtain ⟨i0,hi0,hz0,hz1,hz2⟩:=info_parts infoU64;have HO:Hid ((w.alloc (.cells #[] 32)).ownsRow w.heap.size 32 1 (.slice (some ⟨w.heap.size,0,none⟩) 0 0) 0 []):=World.ownsRow_made w #[] 0 (nL _) (by unfold maxLen;omega) (by simp);go_enter Tryz.func190,Tryz.ntmps190
 go_wp2_with (at_builtin;refine wpList_app _ (.tmp 5) (.tmp 6) 99 rfl rfl w.heap.size 32 i0 _ 1 8 Tryz.underlying99 hi0 hz0 hz1 hz2 rfl ?q1 (.slice (some ⟨w.heap.size,0,none⟩) 0 0) 0 [] rfl HO.out w.heap.size (some ad) n c (uCells l) rfl ?q5 ?q6 ?q2 ?q3 ?q4 ?_;(case q1=>omega);(case q5=>exact H.out.alloc (nL _) _);(case q6=>exact uCells_one l);(case q2=>(unfold maxLen;omega));(case q3=>omega);(case q4=>(simp));intro A3 n3 c3 w8 hn3 ho3 hg3 hb3;have HN3:=hid hn3;have HO3:=hid ho3;have HB3:=hid (((Below.refl _ w).alloc (nL _) _).trans hb3);clear hn3 ho3 hg3 hb3)
 go_ret;refine ⟨_,_,_,rfl,HN3.out.trans (Nat.zero_add _),?_,HB3.out⟩;have:=HO3.out;rw [List.nil_append] at this;exact this
end
section
open Go.RowKit
def freeFrom (V:Nat):Nat→Nat→Option Nat
 | 0,_=>none
 | n+1,j=>if bitAt V j then freeFrom V n (j+1) else some j
def freeR (V c j:Nat):Value:=match freeFrom V (perC c - j) j with
 | some i => .int .i64 (i:Int)
 | none => .int .i64 (-1)
theorem bit_at0 (V i:Nat) (hV:V < 18446744073709551616):(bits .and .u64 ((V:Int) / 2 ^ i) 1 == 0) = !bitAt V i:=by
 have e:(V:Int) / 2 ^ i=((V / 2 ^ i:Nat):Int):=by push_cast;rfl
 have h:=Nat.div_le_self V (2 ^ i);rw [e];unfold bitAt;generalize V / 2 ^ i=y at *;rw [Lib.u64_and1 _ oM oM];have e2:(y:Int) % 2=((y % 2:Nat):Int):=oM;rw [e2];have h2:y % 2=0∨y % 2=1:=oM;rcases h2 with h2 | h2 <;> rw [h2] <;> rfl
section
variable {a:DA} {L T:Nat} {w:World} {S:Fp} {cur:Nat→Nat} {F:Nat}
theorem free_any (h:Dev a L T w S cur F) (hp:Pay w) (ln cl g V j:Nat) (hl:ln+32≤L) (hc:cl < 5) (hV:V < 18446744073709551616) (hv:cur (8 * ln+1)=V) :
  Calls Tryz.prog 380 #[chV a ln cl 0 g, .int .i64 (j:Int)] w fun e w'=>e = .returned (freeR V cl j)∧Below w.heap.size w w':=by
 have hb0:Below w.heap.size w (w.alloc (.cells (chCells a ln cl g) 306)):=(Below.refl _ _).alloc (nL _) _;have HB0:=hid hb0;have HHas:=hid (chHas_any a ln cl 0 g j hc _ (hp.below hb0));have HBi:Hid (∀ W,Below w.heap.size w W→Calls Tryz.prog 351 #[chV a ln cl 0 g] W fun e w'=>e = .returned (.int .u64 (V:Int))∧Below W.heap.size W w'):=hid (fun W hW=>bits_any (h.below hW) ln cl g V hl hv);have HN:Hid (∀ W,Below w.heap.size w W→Calls Tryz.prog 353 #[chV a ln cl 0 g] W fun e w'=>e = .returned (.int .i64 (perC cl:Int))∧Below W.heap.size W w'):=hid (fun W hW=>chBlocks_any a ln cl 0 g hc W (hp.below hW));have HK:=hid (Blk.new w 306 (chCells a ln cl g));have hpc:=per_le cl;have d0:decide ((j:Int) < 0)=false:=dF;clear h hp hb0 hv;unfold chV at *;unfold chCells memV at *;by_cases hj:j < perC cl
 ·rw [decide_eq_true hj] at HHas
  have HR:Hid (freeR V cl j=match freeFrom V (perC cl - j) j with
   | some i => .int .i64 (i:Int)
   | none => .int .i64 (-1)):=hid rfl
  generalize freeR V cl j=rr at *;generalize perC cl=n at *;go_enter Tryz.func380,Tryz.ntmps380
  go_wp2_with fail
  refine HHas.out.mono ?_;rintro e w1 ⟨rfl,hb1⟩;have HB1:=hid (HB0.out.trans (hb1.mono HB0.out.size));have hk:=HK.out.below hb1 HK.out.lt;have HK1:=hid hk;have f0:w1.cell? ⟨w.heap.size,0,none⟩=some (.iface 58 (.pointer (some ⟨a.th 0,0,none⟩))):=hk.cell 0;have f1:w1.cell? ⟨w.heap.size,1,none⟩=some (.int .i64 (ln:Int)):=hk.cell 1;have f2:w1.cell? ⟨w.heap.size,2,none⟩=some (.int .i64 (cl:Int)):=hk.cell 2;have f3:w1.cell? ⟨w.heap.size,3,none⟩=some (.int .i64 0):=hk.cell 3;have f4:w1.cell? ⟨w.heap.size,4,none⟩=some (.int .u16 (g:Int)):=hk.cell 4;clear hb1 hk HK HHas;go_wp2_with fail
  refine (HBi.out _ HB1.out).mono ?_;rintro e w2 ⟨rfl,hb2⟩;have HB2:=hid (HB1.out.trans (hb2.mono HB1.out.size));have HK2:=hid (HK1.out.below hb2 HK1.out.lt);clear hb2 HBi HB1 HK1 f0 f1 f2 f3 f4;go_wp2_with fail
  go_loopw [6] (fun i wr=>∃ k:Nat,j≤k∧k≤n∧i = .int .i64 (k:Int)∧Hid (freeFrom V (n - j) j=freeFrom V (n - k) k)∧Hid (Below w.heap.size w wr)∧Hid (Blk wr w.heap.size 306 #[.iface 58 (.pointer (some ⟨a.th 0,0,none⟩)), .int .i64 (ln:Int), .int .i64 (cl:Int), .int .i64 0, .int .u16 (g:Int)])) (fun i _=>n - (Go.RowKit.intOf i).toNat)
  case atStart=>exact ⟨j,nL _,Nat.le_of_lt hj,rfl,hid rfl,HB2,HK2⟩
  case round =>
   obtain ⟨k,hk1,hk2,rfl,HE,HBr,HKr⟩:=hrel;have f0:wr.cell? ⟨w.heap.size,0,none⟩=some (.iface 58 (.pointer (some ⟨a.th 0,0,none⟩))):=HKr.out.cell 0;have f1:wr.cell? ⟨w.heap.size,1,none⟩=some (.int .i64 (ln:Int)):=HKr.out.cell 1;have f2:wr.cell? ⟨w.heap.size,2,none⟩=some (.int .i64 (cl:Int)):=HKr.out.cell 2;have f3:wr.cell? ⟨w.heap.size,3,none⟩=some (.int .i64 0):=HKr.out.cell 3;have f4:wr.cell? ⟨w.heap.size,4,none⟩=some (.int .u16 (g:Int)):=HKr.out.cell 4;clear HB2 HK2;by_cases hkn:k < n
   ·have dk:decide ((k:Int) < (n:Int))=true:=dT
    have s1:IntKind.u64.wrap (k:Int)=(k:Int):=by rw [IntKind.wrap_u64];omega
    have ebit:=bit_at0 V k hV;have e1:freeFrom V (n - k) k=if bitAt V k then freeFrom V (n - (k+1)) (k+1) else some k:=by
     rw [show n - k=(n - (k+1))+1 by omega];rfl
    have HE2:=hid (HE.out.trans e1);clear HE e1;go_wp2_with fail
    refine (HN.out _ HBr.out).mono ?_;rintro e w3 ⟨rfl,hb3⟩;have HB3:=hid (HBr.out.trans (hb3.mono HBr.out.size));have HK3:=hid (HKr.out.below hb3 HKr.out.lt);clear hb3 HBr HKr f0 f1 f2 f3 f4;cases hb:bitAt V k
    ·rw [hb] at ebit HE2
     go_wp2;go_ret;refine ⟨?_,HB3.out⟩;rw [HR.out,HE2.out];rfl
    ·rw [hb] at ebit HE2
     go_wp2;go_roundw
     case rel=>exact ⟨k+1,oM,oM,by go_num,HE2,HB3,HK3⟩
     case measure=>simp [Go.RowKit.intOf];omega
   ·obtain rfl:k=n:=oM
    have dk:decide ((k:Int) < (k:Int))=false:=dF;go_wp2_with fail
    refine (HN.out _ HBr.out).mono ?_;rintro e w3 ⟨rfl,hb3⟩;have HB3:=hid (HBr.out.trans (hb3.mono HBr.out.size));clear hb3 HBr HKr f0 f1 f2 f3 f4;go_wp2;go_ret;refine ⟨?_,HB3.out⟩;rw [HR.out,HE.out,Nat.sub_self];rfl
 ·rw [decide_eq_false hj] at HHas
  have HR:Hid (freeR V cl j = .int .i64 (-1)):=hid (by unfold freeR;rw [show perC cl - j=0 by omega];rfl);generalize freeR V cl j=rr at *;go_enter Tryz.func380,Tryz.ntmps380
  go_wp2_with fail
  refine HHas.out.mono ?_;rintro e w1 ⟨rfl,hb1⟩;have HB1:=hid (HB0.out.trans (hb1.mono HB0.out.size));clear hb1 HK HHas;go_wp2;go_ret;exact ⟨by rw [HR.out];rfl,HB1.out⟩
end
end
end Go.Proofs.YtfkjjoglnmeciaaGreatDoor
