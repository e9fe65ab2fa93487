/- The walks and laws that the claim leans on, part 32. -/
import Derived.Test.YtfkjjoglnmeciaaGreatDoorQbd
set_option maxRecDepth 100000
set_option maxHeartbeats 16000000
namespace Go.Proofs.YtfkjjoglnmeciaaGreatDoor
open Go.Lib (hid)
section
open Go.RowKit
def tkV (bs:Nat→BK):Nat→Nat
 | 0=>0
 | n+1=>if (bs n).st=176 then tkV bs n else tkV bs n ||| 2 ^ n
theorem tkV_lt (bs:Nat→BK):∀ n,tkV bs n < 2 ^ n
 | 0=>by simp [tkV]
 | n+1=>by
  have h:=tkV_lt bs n;have h2:(2:Nat) ^ n < 2 ^ (n+1):=Nat.pow_lt_pow_right oM oM;unfold tkV;split
  ·omega
  ·exact Nat.or_lt_two_pow oM h2
theorem tkV_bit (bs:Nat→BK):∀ n i,(tkV bs n).testBit i=(decide (i < n) && decide ((bs i).st≠176))
 | 0,i=>by simp [tkV]
 | n+1,i=>by
  have ih:=tkV_bit bs n i;unfold tkV;by_cases e:i=n
  ·subst e
   split
   ·rename_i h;rw [ih];simp [h]
   ·rename_i h;rw [Nat.testBit_or,ih,Nat.testBit_two_pow];simp [h]
  ·have h2:decide (i < n+1)=decide (i < n):=decide_eq_decide.2 ⟨fun h=>oM,fun h=>oM⟩
   have h3:decide (n=i)=false:=decide_eq_false (fun h=>e h.symm);rw [h2];split
   ·exact ih
   ·rw [Nat.testBit_or,ih,Nat.testBit_two_pow,h3,Bool.or_false]
theorem tkV_all {cur:Nat→Nat} {ln cl g V:Nat} {bs:Nat→BK} (h:ChW cur ln cl g V bs):tkV bs (perC cl)=V:=by
 apply Nat.eq_of_testBit_eq;intro i;rw [tkV_bit];by_cases hi:i < perC cl
 ·have:=h.bit i hi
  rw [bitAt_test] at this;rw [this];simp [hi]
 ·have hl:=Nat.testBit_lt_two_pow (Nat.lt_of_lt_of_le h.top (Nat.pow_le_pow_right oM (Nat.le_of_not_lt hi)))
  rw [hl];simp [hi]
section
variable {a:DA} {L T:Nat} {w:World} {S:Fp} {cur:Nat→Nat} {F:Nat}
theorem consistent_any (h:Dev a L T w S cur F) (ht:Tab w) (hp:Pay w) (ln cl g V:Nat) (bs:Nat→BK) (hl:ln+32≤L) (hC:ChW cur ln cl g V bs) :
  Calls Tryz.prog 344 #[chV a ln cl 0 g] w fun e w'=>e = .returned (.bool true)∧Below w.heap.size w w':=by
 obtain ⟨_,_,_,_,_,hdc,_⟩:=id h;have hL:=hdc.hL;clear hdc;have hcl:=hC.cls;have HHl:=hid (load_at h (64 * ln) (hdrW cl g) oM oM (by rw [show 64 * ln / 8=8 * ln by omega];exact hC.hdr));have HZl:Hid (∀ k:Nat,2≤k→k < 8→∀ W,Below w.heap.size w W→Calls Tryz.prog 65 #[.pointer (some ⟨a.th 0,0,none⟩), .int .u64 (((64 * ln+8 * k:Nat)):Int)] W fun e w'=>e = .returned (.int .u64 0)∧W=w'):=hid (fun k h2 h8 W hW=>by
  have:=load_at h (64 * ln+8 * k) 0 oM oM (by rw [show (64 * ln+8 * k) / 8=8 * ln+k by omega];exact hC.zero k h2 h8) W hW;exact this)
 have HBl:Hid (∀ i,i < perC cl→∀ W,Below w.heap.size w W→Calls Tryz.prog 65 #[.pointer (some ⟨a.th 0,0,none⟩), .int .u64 (((64 * ln+8 * offB cl i:Nat)):Int)] W fun e w'=>e = .returned (.int .u64 ((bs i).w:Int))∧W=w'):=hid (fun i hi W hW=>by
  have ho:=off_lt hi;exact load_at h (64 * ln+8 * offB cl i) (bs i).w oM oM (by rw [show (64 * ln+8 * offB cl i) / 8=8 * ln+offB cl i by omega];exact hC.word i hi) W hW)
 have HSt:=hid (start_any ln oM);have HHd:Hid (∀ W,Below w.heap.size w W→Calls Tryz.prog 350 #[.int .u64 (hdrW cl g:Int)] W fun e w'=>e = .returned (.tuple #[.agg #[.int .i64 (cl:Int), .int .i64 0, .int .u16 (g:Int)], .bool true])∧Below W.heap.size W w'):=hid (fun W hW=>header_cls cl g hC.cls hC.g0 hC.g1 W (ht.below hW) (hp.below hW));have HPe:Hid (∀ W,Below w.heap.size w W→Calls Tryz.prog 207 #[.int .i64 (cl:Int)] W fun e w'=>e = .returned (.int .i64 (perC cl:Int))∧W=w'):=hid (fun W hW=>perChunk_any cl hC.cls W (hp.below hW));have HAt:Hid (∀ i,i < perC cl→∀ W,Below w.heap.size w W→Calls Tryz.prog 301 #[chV a ln cl 0 g, .int .i64 (i:Int)] W fun e w'=>e = .returned (.int .u64 ((64 * ln+8 * offB cl i:Nat):Int))∧Below W.heap.size W w'):=hid (fun i hi W hW=>blkAt_any ln cl g i oM hC.cls hi W (hp.below hW));have HSe:Hid (∀ i,i < perC cl→∀ W,Below w.heap.size w W→Calls Tryz.prog 352 #[.int .u64 ((bs i).w:Int)] W fun e w'=>e = .returned (.tuple #[(bs i).v, .bool true])∧Below W.heap.size W w'):=hid (fun i hi W hW=>sealed_any (bs i) (hC.inn i hi) W (ht.below hW));have HGd:Hid (∀ i,i < perC cl→∀ W,Calls Tryz.prog 299 #[(bs i).v] W fun e w'=>e = .returned (.bool true)∧Below W.heap.size W w'):=hid (fun i hi W=>by
  have:=good_any (bs i) (hC.inn i hi) W;rw [hC.good i hi] at this;exact this)
 have HBi:Hid (∀ W,Below w.heap.size w W→Calls Tryz.prog 351 #[chV a ln cl 0 g] W fun e w'=>e = .returned (.int .u64 (V:Int))∧Below W.heap.size W w'):=hid (fun W hW=>bits_any (h.below hW) ln cl g V hl hC.bits);have HTk:=hid (tkV_all hC);have HIn:Hid (∀ i,i < perC cl→(bs i).In):=hid hC.inn;have HOf:Hid (∀ i,i < perC cl→offB cl i < 256):=hid (fun i hi=>by have:=off_lt hi;omega);have hb0:Below w.heap.size w (w.alloc (.cells (chCells a ln cl g) 306)):=(Below.refl _ _).alloc (nL _) _;have HB0:=hid hb0;have HK:=hid (Blk.new w 306 (chCells a ln cl g));have hpc:=per_le cl;have hm:=methLoad (some ⟨a.th 0,0,none⟩);have hna:=aheadLoad ⟨a.th 0,0,none⟩;clear h hp ht hb0 hC;unfold chV at *;unfold chCells memV at *;generalize hdrW cl g=hw at *;have hz:64 * ln < 900000000:=oM;generalize hz0:64 * ln=z at *;go_enter Tryz.func344,Tryz.ntmps344
 go_wp2_with fail
 generalize w.alloc (.cells #[.iface 58 (.pointer (some ⟨a.th 0,0,none⟩)), .int .i64 (ln:Int), .int .i64 (cl:Int), .int .i64 0, .int .u16 (g:Int)] 306)=W0 at *;have f0:W0.cell? ⟨w.heap.size,0,none⟩=some (.iface 58 (.pointer (some ⟨a.th 0,0,none⟩))):=HK.out.cell 0;have f1:W0.cell? ⟨w.heap.size,1,none⟩=some (.int .i64 (ln:Int)):=HK.out.cell 1;go_wp2_with (first
  | (go_at_call 339;refine (HSt.out _).mono ?_;rintro e w1 ⟨rfl,rfl⟩)
  | (go_at_call 65;refine (HHl.out _ HB0.out).mono ?_;rintro e w1 ⟨rfl,rfl⟩)
  | (go_at_call 350;refine (HHd.out _ HB0.out).mono ?_;rintro e w1 ⟨rfl,hb1⟩;have HB1:=hid (HB0.out.trans (hb1.mono HB0.out.size));have HK1:=hid (HK.out.below hb1 HK.out.lt);clear hb1;have hlt1:=HK1.out.lt;have f2:w1.cell? ⟨w.heap.size,2,none⟩=some (.int .i64 (cl:Int)):=HK1.out.cell 2;have f3:w1.cell? ⟨w.heap.size,3,none⟩=some (.int .i64 0):=HK1.out.cell 3)
  | go_in)
 clear f0 f1 f2 f3 hlt1 HB0 HK HHl HHd HSt;have HB2:=hid (HB1.out.alloc HB1.out.size (.cells #[.int .i64 (cl:Int), .int .i64 0, .int .u16 (g:Int)] 304));have HK2:=hid (HK1.out.alloc (.cells #[.int .i64 (cl:Int), .int .i64 0, .int .u16 (g:Int)] 304));generalize w1.alloc (.cells #[.int .i64 (cl:Int), .int .i64 0, .int .u16 (g:Int)] 304)=w2 at *;clear HB1 HK1;go_loopw [6] (fun i wr=>∃ k:Nat,2≤k∧k≤8∧i = .int .u64 (k:Int)∧w2=wr) (fun i _=>8 - (Go.RowKit.intOf i).toNat)
 case atStart=>exact ⟨2,oM,oM,rfl,rfl⟩
 case round =>
  obtain ⟨k,hk2,hk8,rfl,rfl⟩:=hrel;by_cases hlt:k < 8
  ·have f0:w2.cell? ⟨w.heap.size,0,none⟩=some (.iface 58 (.pointer (some ⟨a.th 0,0,none⟩))):=HK2.out.cell 0
   have dk:decide ((k:Int) < 8)=true:=dT;have u1:IntKind.u64.wrap ((k:Int) * 8)=(k:Int) * 8:=by rw [IntKind.wrap_u64];omega
   have u2:IntKind.u64.wrap ((z:Int)+(k:Int) * 8)=((z+8 * k:Nat):Int):=by rw [IntKind.wrap_u64];omega
   have u3:IntKind.u64.wrap ((k:Int)+1)=(k:Int)+1:=by rw [IntKind.wrap_u64];omega
   go_wp2_with (first
    | (go_at_call 65;refine (HZl.out k hk2 hlt _ HB2.out).mono ?_;rintro e w3 ⟨rfl,rfl⟩)
    | go_in)
   go_roundw
   case rel=>first | exact ⟨k+1,oM,oM,by go_num,rfl⟩ | exact ⟨k+1,oM,oM,by go_num,trivial⟩
   case measure=>simp [Go.RowKit.intOf];omega
  ·obtain rfl:k=8:=oM
   clear HZl hlt hk2 hk8;have f2:w2.cell? ⟨w.heap.size,2,none⟩=some (.int .i64 (cl:Int)):=HK2.out.cell 2;go_wp2_with (first
    | (go_at_call 207;refine (HPe.out _ HB2.out).mono ?_;rintro e w3 ⟨rfl,rfl⟩)
    | go_in)
   clear HPe f2;generalize perC cl=n at *;go_loopw [7,56] (fun v i wr=>∃ k:Nat,k≤n∧v = .int .u64 (tkV bs k:Int)∧i = .int .i64 (k:Int)∧Hid (Below w.heap.size w wr)∧Hid (Blk wr w.heap.size 306 #[.iface 58 (.pointer (some ⟨a.th 0,0,none⟩)), .int .i64 (ln:Int), .int .i64 (cl:Int), .int .i64 0, .int .u16 (g:Int)])) (fun _ i _=>n - (Go.RowKit.intOf i).toNat)
   case atStart=>exact ⟨0,oM,rfl,rfl,HB2,HK2⟩
   case round =>
    clear HB2 HK2;obtain ⟨k,hk,rfl,rfl,HB,HK⟩:=hrel;have f0:wr.cell? ⟨w.heap.size,0,none⟩=some (.iface 58 (.pointer (some ⟨a.th 0,0,none⟩))):=HK.out.cell 0;have f1:wr.cell? ⟨w.heap.size,1,none⟩=some (.int .i64 (ln:Int)):=HK.out.cell 1;have f2:wr.cell? ⟨w.heap.size,2,none⟩=some (.int .i64 (cl:Int)):=HK.out.cell 2;have f3:wr.cell? ⟨w.heap.size,3,none⟩=some (.int .i64 0):=HK.out.cell 3;have f4:wr.cell? ⟨w.heap.size,4,none⟩=some (.int .u16 (g:Int)):=HK.out.cell 4;by_cases hlt:k < n
    ·have dk:decide ((k:Int) < (n:Int))=true:=dT
     have HB0d:Hid (Below wr.heap.size wr wr.drew):=hid (Below.refl _ _).drew;have HAk:=hid (HAt.out k hlt);have HLk:=hid (HBl.out k hlt);have HSk:=hid (HSe.out k hlt);have HGk:=hid (HGd.out k hlt);have hsz:w.heap.size < wr.heap.size:=HK.out.lt;have ho9:=HOf.out k hlt;have HT:Hid (tkV bs (k+1)=if (bs k).st=176 then tkV bs k else tkV bs k ||| 2 ^ k):=hid rfl;have ht1:=tkV_lt bs k;have ht2:=pow_lt64 (i:=k) oM;have u2:=shl_one (i:=k) oM;have u3:=u64_or_nat (tkV bs k) (2 ^ k) oM ht2;have hin:=HIn.out k hlt;have s1:IntKind.u64.wrap (k:Int)=(k:Int):=by rw [IntKind.wrap_u64];omega
     clear HAt HBl HSe HGd HIn HBi ht1;unfold BK.v at *;generalize (bs k).w=bw at *;obtain ⟨gg,hg⟩:∃ x,(bs k).gen=x:=⟨_,rfl⟩
     obtain ⟨kk,hk9⟩:∃ x,(bs k).kind=x:=⟨_,rfl⟩
     obtain ⟨ss,hss⟩:∃ x,(bs k).st=x:=⟨_,rfl⟩
     rw [hg,hk9,hss] at HSk HGk;rw [hss] at HT;have hs256:ss < 256:=by have:=hin.s;omega
     clear hin hg hk9 hss;generalize z+8 * offB cl k=zo at *;go_upto_region 14 with fail
     go_cut [9,10] from 59 to 71 (fun v9 v10 wx=>∃ b:Nat,v9 = .pointer (some ⟨b,0,none⟩)∧v10 = .bool true∧Hid (Blk wx b 401 #[.int .u16 (gg:Int), .int .u8 (kk:Int), .int .u8 (ss:Int)])∧Hid (Below wr.heap.size wr wx))
     case first =>
      refine wp_region_scriptA (fun w'=>Below wr.heap.size wr w') 15 9 [0,1,2,3,5,6] (by kernel_rfl) (by kernel_rfl) (by rfl) (by rfl) HB0d.out ?_;intro ops HO;refine wpScriptA_take HO.out (.pointer (some ⟨w.heap.size,0,none⟩)) (by rfl) (by rfl) (fun w' hS=>?_) ?_
      ·go_simp
      simp only [Act.put,List.setIfInBounds_toArray,List.set_cons_zero,List.set_cons_succ];refine wpScriptA_take HO.out (.iface 58 (.pointer (some ⟨a.th 0,0,none⟩))) (by rfl) (by rfl) (fun w' hS=>?_) ?_
      ·have kk:=HK.out.below hS HK.out.lt;have f0:=kk.cell 0;clear kk
       go_simp
      simp only [Act.put,List.setIfInBounds_toArray,List.set_cons_zero,List.set_cons_succ];refine wpScriptA_take HO.out (.agg #[.iface 58 (.pointer (some ⟨a.th 0,0,none⟩)), .int .i64 (ln:Int), .int .i64 (cl:Int), .int .i64 0, .int .u16 (g:Int)]) (by rfl) (by rfl) (fun w' hS=>?_) ?_
      ·have kk:=HK.out.below hS HK.out.lt;have f0:=kk.cell 0;have f1:=kk.cell 1;have f2:=kk.cell 2;have f3:=kk.cell 3;have f4:=kk.cell 4;clear kk
       go_simp
      simp only [Act.put,List.setIfInBounds_toArray,List.set_cons_zero,List.set_cons_succ];refine wpScriptA_take HO.out (.int .i64 (k:Int)) (by rfl) (by rfl) (fun w' hS=>?_) ?_
      ·go_simp
      simp only [Act.put,List.setIfInBounds_toArray,List.set_cons_zero,List.set_cons_succ];refine wpScriptA_take HO.out (.iface 58 (.pointer (some ⟨a.th 0,0,none⟩))) (by rfl) (by rfl) (fun w' hS=>?_) ?_
      ·go_simp
      simp only [Act.put,List.setIfInBounds_toArray,List.set_cons_zero,List.set_cons_succ];refine wpScriptA_take HO.out (.iface 58 (.pointer (some ⟨a.th 0,0,none⟩))) (by rfl) (by rfl) (fun w' hS=>?_) ?_
      ·go_simp
      simp only [Act.put,List.setIfInBounds_toArray,List.set_cons_zero,List.set_cons_succ];refine wpAnyH_two HO.out (i:=4) (j:=12) (by kernel_rfl) (by rfl) (by rfl) ?_ ?_
      ·go_wp2_with (go_at_call 301;refine (HAk.out _ (HB.out.trans (HB0d.out.mono HB.out.size))).mono ?_;rintro e w1 ⟨rfl,hb⟩;have HB1:=hid (HB0d.out.trans (hb.mono HB0d.out.size));clear hb)
       refine ⟨HB1.out,?_⟩;refine wpAnyH_two HO.out (i:=7) (j:=12) (by kernel_rfl) (by rfl) (by rfl) ?_ ?_
       ·go_wp2_with (go_at_call 65;refine (HLk.out _ (HB.out.trans (HB1.out.mono HB.out.size))).mono ?_;rintro e w2 ⟨rfl,rfl⟩)
        refine ⟨HB1.out,?_⟩;refine wpAnyH_two HO.out (i:=8) (j:=12) (by kernel_rfl) (by rfl) (by rfl) ?_ ?_
        ·go_wp2_with (go_at_call 352;refine (HSk.out _ (HB.out.trans (HB1.out.mono HB.out.size))).mono ?_;rintro e w3 ⟨rfl,hb⟩;have HB3:=hid (HB1.out.trans (hb.mono HB1.out.size));clear hb)
         refine ⟨HB3.out,?_⟩;refine wpAnyH_free HO.out (i:=9) (.tuple #[.agg #[.int .u16 (gg:Int), .int .u8 (kk:Int), .int .u8 (ss:Int)], .bool true]) (by rfl) (by kernel_rfl) (by rfl) (fun w' hS=>?_) HB3.out ?_
         ·go_simp
         simp only [Act.put,List.setIfInBounds_toArray,List.set_cons_zero,List.set_cons_succ];refine wpAnyH_free HO.out (i:=10) (.agg #[.int .u16 (gg:Int), .int .u8 (kk:Int), .int .u8 (ss:Int)]) (by rfl) (by kernel_rfl) (by rfl) (fun w' hS=>?_) HB3.out ?_
         ·go_simp
         simp only [Act.put,List.setIfInBounds_toArray,List.set_cons_zero,List.set_cons_succ];refine wpAnyH_free HO.out (i:=11) (.bool true) (by rfl) (by kernel_rfl) (by rfl) (fun w' hS=>?_) HB3.out ?_
         ·go_simp
         simp only [Act.put,List.setIfInBounds_toArray,List.set_cons_zero,List.set_cons_succ];refine wpAnyH_one HO.out (i:=12) (by kernel_rfl) (by rfl) ?_;go_wp2_with fail
         refine ⟨HB3.out.alloc HB3.out.size _,?_⟩;have HK4:Hid (Blk (w3.alloc (.cells #[.int .u16 0, .int .u8 0, .int .u8 0] 401)) w3.heap.size 401 #[.int .u16 0, .int .u8 0, .int .u8 0]):=hid (Blk.new w3 401 _);have HB4:=hid (HB3.out.alloc HB3.out.size (.cells #[.int .u16 0, .int .u8 0, .int .u8 0] 401));have HL4:Hid (wr.heap.size≤w3.heap.size):=hid HB3.out.size;generalize w3.alloc (.cells #[.int .u16 0, .int .u8 0, .int .u8 0] 401)=W4 at *;have c0:W4.cell? ⟨w3.heap.size,0,none⟩=some (.int .u16 0):=HK4.out.cell 0;have z0:W4.frozen? ⟨w3.heap.size,0,none⟩=false:=HK4.out.frozen 0;have c1:W4.cell? ⟨w3.heap.size,1,none⟩=some (.int .u8 0):=HK4.out.cell 1;have z1:W4.frozen? ⟨w3.heap.size,1,none⟩=false:=HK4.out.frozen 1;have c2:W4.cell? ⟨w3.heap.size,2,none⟩=some (.int .u8 0):=HK4.out.cell 2;have z2:W4.frozen? ⟨w3.heap.size,2,none⟩=false:=HK4.out.frozen 2;refine wpAnyH_one HO.out (i:=13) (by kernel_rfl) (by rfl) ?_;go_wp2_with fail
         refine ⟨(((HB4.out.setCell (p:=⟨w3.heap.size,0,none⟩) HL4.out _).setCell (p:=⟨w3.heap.size,1,none⟩) HL4.out _).setCell (p:=⟨w3.heap.size,2,none⟩) HL4.out _),?_⟩;refine wpAnyH_one HO.out (i:=14) (by kernel_rfl) (by rfl) ?_;go_wp2_with fail
         refine ⟨(((HB4.out.setCell (p:=⟨w3.heap.size,0,none⟩) HL4.out _).setCell (p:=⟨w3.heap.size,1,none⟩) HL4.out _).setCell (p:=⟨w3.heap.size,2,none⟩) HL4.out _),?_⟩;refine wpAnyH_end HO.out (by kernel_rfl) ?_;refine NoPanic.normal ?_;go_wp2_with fail
         go_meet;exact ⟨w3.heap.size,rfl,rfl,hid (((HK4.out.set_ 0 _).set_ 1 _).set_ 2 _),hid (((HB4.out.setCell (p:=⟨w3.heap.size,0,none⟩) HL4.out _).setCell (p:=⟨w3.heap.size,1,none⟩) HL4.out _).setCell (p:=⟨w3.heap.size,2,none⟩) HL4.out _)⟩
        ·go_wp2_with fail
         refine ⟨HB1.out.alloc HB1.out.size _,?_⟩;have HK5:Hid (Blk (w1.alloc (.cells #[.int .u16 0, .int .u8 0, .int .u8 0] 401)) w1.heap.size 401 #[.int .u16 0, .int .u8 0, .int .u8 0]):=hid (Blk.new w1 401 _);have HB5:=hid (HB1.out.alloc HB1.out.size (.cells #[.int .u16 0, .int .u8 0, .int .u8 0] 401));have HL5:Hid (wr.heap.size≤w1.heap.size):=hid HB1.out.size;generalize w1.alloc (.cells #[.int .u16 0, .int .u8 0, .int .u8 0] 401)=W5 at *;refine wpAnyH_one HO.out (i:=8) (by kernel_rfl) (by rfl) ?_;go_wp2_with (go_at_call 352;refine (HSk.out _ (HB.out.trans (HB5.out.mono HB.out.size))).mono ?_;rintro e w6 ⟨rfl,hb⟩;have HB6:=hid (HB5.out.trans (hb.mono HB5.out.size));have HK6:=hid (HK5.out.below hb HK5.out.lt);clear hb)
         refine ⟨HB6.out,?_⟩;refine wpAnyH_free HO.out (i:=9) (.tuple #[.agg #[.int .u16 (gg:Int), .int .u8 (kk:Int), .int .u8 (ss:Int)], .bool true]) (by rfl) (by kernel_rfl) (by rfl) (fun w' hS=>?_) HB6.out ?_
         ·go_simp
         simp only [Act.put,List.setIfInBounds_toArray,List.set_cons_zero,List.set_cons_succ];refine wpAnyH_free HO.out (i:=10) (.agg #[.int .u16 (gg:Int), .int .u8 (kk:Int), .int .u8 (ss:Int)]) (by rfl) (by kernel_rfl) (by rfl) (fun w' hS=>?_) HB6.out ?_
         ·go_simp
         simp only [Act.put,List.setIfInBounds_toArray,List.set_cons_zero,List.set_cons_succ];refine wpAnyH_free HO.out (i:=11) (.bool true) (by rfl) (by kernel_rfl) (by rfl) (fun w' hS=>?_) HB6.out ?_
         ·go_simp
         simp only [Act.put,List.setIfInBounds_toArray,List.set_cons_zero,List.set_cons_succ];have c0:w6.cell? ⟨w1.heap.size,0,none⟩=some (.int .u16 0):=HK6.out.cell 0;have z0:w6.frozen? ⟨w1.heap.size,0,none⟩=false:=HK6.out.frozen 0;have c1:w6.cell? ⟨w1.heap.size,1,none⟩=some (.int .u8 0):=HK6.out.cell 1;have z1:w6.frozen? ⟨w1.heap.size,1,none⟩=false:=HK6.out.frozen 1;have c2:w6.cell? ⟨w1.heap.size,2,none⟩=some (.int .u8 0):=HK6.out.cell 2;have z2:w6.frozen? ⟨w1.heap.size,2,none⟩=false:=HK6.out.frozen 2;refine wpAnyH_one HO.out (i:=13) (by kernel_rfl) (by rfl) ?_;go_wp2_with fail
         refine ⟨(((HB6.out.setCell (p:=⟨w1.heap.size,0,none⟩) HL5.out _).setCell (p:=⟨w1.heap.size,1,none⟩) HL5.out _).setCell (p:=⟨w1.heap.size,2,none⟩) HL5.out _),?_⟩;refine wpAnyH_one HO.out (i:=14) (by kernel_rfl) (by rfl) ?_;go_wp2_with fail
         refine ⟨(((HB6.out.setCell (p:=⟨w1.heap.size,0,none⟩) HL5.out _).setCell (p:=⟨w1.heap.size,1,none⟩) HL5.out _).setCell (p:=⟨w1.heap.size,2,none⟩) HL5.out _),?_⟩;refine wpAnyH_end HO.out (by kernel_rfl) ?_;refine NoPanic.normal ?_;go_wp2_with fail
         go_meet;exact ⟨w1.heap.size,rfl,rfl,hid (((HK6.out.set_ 0 _).set_ 1 _).set_ 2 _),hid (((HB6.out.setCell (p:=⟨w1.heap.size,0,none⟩) HL5.out _).setCell (p:=⟨w1.heap.size,1,none⟩) HL5.out _).setCell (p:=⟨w1.heap.size,2,none⟩) HL5.out _)⟩
       ·go_wp2_with fail
        refine ⟨HB1.out.alloc HB1.out.size _,?_⟩;have HK7:Hid (Blk (w1.alloc (.cells #[.int .u16 0, .int .u8 0, .int .u8 0] 401)) w1.heap.size 401 #[.int .u16 0, .int .u8 0, .int .u8 0]):=hid (Blk.new w1 401 _);have HB7:=hid (HB1.out.alloc HB1.out.size (.cells #[.int .u16 0, .int .u8 0, .int .u8 0] 401));have HL7:Hid (wr.heap.size≤w1.heap.size):=hid HB1.out.size;generalize w1.alloc (.cells #[.int .u16 0, .int .u8 0, .int .u8 0] 401)=W7 at *;refine wpAnyH_one HO.out (i:=7) (by kernel_rfl) (by rfl) ?_;go_wp2_with (go_at_call 65;refine (HLk.out _ (HB.out.trans (HB7.out.mono HB.out.size))).mono ?_;rintro e w8 ⟨rfl,rfl⟩)
        refine ⟨HB7.out,?_⟩;refine wpAnyH_one HO.out (i:=8) (by kernel_rfl) (by rfl) ?_;go_wp2_with (go_at_call 352;refine (HSk.out _ (HB.out.trans (HB7.out.mono HB.out.size))).mono ?_;rintro e w9 ⟨rfl,hb⟩;have HB9:=hid (HB7.out.trans (hb.mono HB7.out.size));have HK9:=hid (HK7.out.below hb HK7.out.lt);clear hb)
        refine ⟨HB9.out,?_⟩;refine wpAnyH_free HO.out (i:=9) (.tuple #[.agg #[.int .u16 (gg:Int), .int .u8 (kk:Int), .int .u8 (ss:Int)], .bool true]) (by rfl) (by kernel_rfl) (by rfl) (fun w' hS=>?_) HB9.out ?_
        ·go_simp
        simp only [Act.put,List.setIfInBounds_toArray,List.set_cons_zero,List.set_cons_succ];refine wpAnyH_free HO.out (i:=10) (.agg #[.int .u16 (gg:Int), .int .u8 (kk:Int), .int .u8 (ss:Int)]) (by rfl) (by kernel_rfl) (by rfl) (fun w' hS=>?_) HB9.out ?_
        ·go_simp
        simp only [Act.put,List.setIfInBounds_toArray,List.set_cons_zero,List.set_cons_succ];refine wpAnyH_free HO.out (i:=11) (.bool true) (by rfl) (by kernel_rfl) (by rfl) (fun w' hS=>?_) HB9.out ?_
        ·go_simp
        simp only [Act.put,List.setIfInBounds_toArray,List.set_cons_zero,List.set_cons_succ];have c0:w9.cell? ⟨w1.heap.size,0,none⟩=some (.int .u16 0):=HK9.out.cell 0;have z0:w9.frozen? ⟨w1.heap.size,0,none⟩=false:=HK9.out.frozen 0;have c1:w9.cell? ⟨w1.heap.size,1,none⟩=some (.int .u8 0):=HK9.out.cell 1;have z1:w9.frozen? ⟨w1.heap.size,1,none⟩=false:=HK9.out.frozen 1;have c2:w9.cell? ⟨w1.heap.size,2,none⟩=some (.int .u8 0):=HK9.out.cell 2;have z2:w9.frozen? ⟨w1.heap.size,2,none⟩=false:=HK9.out.frozen 2;refine wpAnyH_one HO.out (i:=13) (by kernel_rfl) (by rfl) ?_;go_wp2_with fail
        refine ⟨(((HB9.out.setCell (p:=⟨w1.heap.size,0,none⟩) HL7.out _).setCell (p:=⟨w1.heap.size,1,none⟩) HL7.out _).setCell (p:=⟨w1.heap.size,2,none⟩) HL7.out _),?_⟩;refine wpAnyH_one HO.out (i:=14) (by kernel_rfl) (by rfl) ?_;go_wp2_with fail
        refine ⟨(((HB9.out.setCell (p:=⟨w1.heap.size,0,none⟩) HL7.out _).setCell (p:=⟨w1.heap.size,1,none⟩) HL7.out _).setCell (p:=⟨w1.heap.size,2,none⟩) HL7.out _),?_⟩;refine wpAnyH_end HO.out (by kernel_rfl) ?_;refine NoPanic.normal ?_;go_wp2_with fail
        go_meet;exact ⟨w1.heap.size,rfl,rfl,hid (((HK9.out.set_ 0 _).set_ 1 _).set_ 2 _),hid (((HB9.out.setCell (p:=⟨w1.heap.size,0,none⟩) HL7.out _).setCell (p:=⟨w1.heap.size,1,none⟩) HL7.out _).setCell (p:=⟨w1.heap.size,2,none⟩) HL7.out _)⟩
      ·go_wp2_with fail
       refine ⟨((Below.refl _ wr).alloc (nL _) _).drew,?_⟩;have HK10:Hid (Blk (wr.alloc (.cells #[.int .u16 0, .int .u8 0, .int .u8 0] 401)).drew wr.heap.size 401 #[.int .u16 0, .int .u8 0, .int .u8 0]):=hid (Blk.new wr 401 _).drew;have HB10:Hid (Below wr.heap.size wr (wr.alloc (.cells #[.int .u16 0, .int .u8 0, .int .u8 0] 401)).drew):=hid ((Below.refl _ wr).alloc (nL _) _).drew;have HL10:Hid (wr.heap.size≤wr.heap.size):=hid (nL _);generalize (wr.alloc (.cells #[.int .u16 0, .int .u8 0, .int .u8 0] 401)).drew=W10 at *;refine wpAnyH_one HO.out (i:=4) (by kernel_rfl) (by rfl) ?_;go_wp2_with (go_at_call 301;refine (HAk.out _ (HB.out.trans (HB10.out.mono HB.out.size))).mono ?_;rintro e w11 ⟨rfl,hb⟩;have HB11:=hid (HB10.out.trans (hb.mono HB10.out.size));have HK11:=hid (HK10.out.below hb HK10.out.lt);clear hb)
       refine ⟨HB11.out,?_⟩;refine wpAnyH_one HO.out (i:=7) (by kernel_rfl) (by rfl) ?_;go_wp2_with (go_at_call 65;refine (HLk.out _ (HB.out.trans (HB11.out.mono HB.out.size))).mono ?_;rintro e w12 ⟨rfl,rfl⟩)
       refine ⟨HB11.out,?_⟩;refine wpAnyH_one HO.out (i:=8) (by kernel_rfl) (by rfl) ?_;go_wp2_with (go_at_call 352;refine (HSk.out _ (HB.out.trans (HB11.out.mono HB.out.size))).mono ?_;rintro e w13 ⟨rfl,hb⟩;have HB13:=hid (HB11.out.trans (hb.mono HB11.out.size));have HK13:=hid (HK11.out.below hb HK11.out.lt);clear hb)
       refine ⟨HB13.out,?_⟩;refine wpAnyH_free HO.out (i:=9) (.tuple #[.agg #[.int .u16 (gg:Int), .int .u8 (kk:Int), .int .u8 (ss:Int)], .bool true]) (by rfl) (by kernel_rfl) (by rfl) (fun w' hS=>?_) HB13.out ?_
       ·go_simp
       simp only [Act.put,List.setIfInBounds_toArray,List.set_cons_zero,List.set_cons_succ];refine wpAnyH_free HO.out (i:=10) (.agg #[.int .u16 (gg:Int), .int .u8 (kk:Int), .int .u8 (ss:Int)]) (by rfl) (by kernel_rfl) (by rfl) (fun w' hS=>?_) HB13.out ?_
       ·go_simp
       simp only [Act.put,List.setIfInBounds_toArray,List.set_cons_zero,List.set_cons_succ];refine wpAnyH_free HO.out (i:=11) (.bool true) (by rfl) (by kernel_rfl) (by rfl) (fun w' hS=>?_) HB13.out ?_
       ·go_simp
       simp only [Act.put,List.setIfInBounds_toArray,List.set_cons_zero,List.set_cons_succ];have c0:w13.cell? ⟨wr.heap.size,0,none⟩=some (.int .u16 0):=HK13.out.cell 0;have z0:w13.frozen? ⟨wr.heap.size,0,none⟩=false:=HK13.out.frozen 0;have c1:w13.cell? ⟨wr.heap.size,1,none⟩=some (.int .u8 0):=HK13.out.cell 1;have z1:w13.frozen? ⟨wr.heap.size,1,none⟩=false:=HK13.out.frozen 1;have c2:w13.cell? ⟨wr.heap.size,2,none⟩=some (.int .u8 0):=HK13.out.cell 2;have z2:w13.frozen? ⟨wr.heap.size,2,none⟩=false:=HK13.out.frozen 2;refine wpAnyH_one HO.out (i:=13) (by kernel_rfl) (by rfl) ?_;go_wp2_with fail
       refine ⟨(((HB13.out.setCell (p:=⟨wr.heap.size,0,none⟩) HL10.out _).setCell (p:=⟨wr.heap.size,1,none⟩) HL10.out _).setCell (p:=⟨wr.heap.size,2,none⟩) HL10.out _),?_⟩;refine wpAnyH_one HO.out (i:=14) (by kernel_rfl) (by rfl) ?_;go_wp2_with fail
       refine ⟨(((HB13.out.setCell (p:=⟨wr.heap.size,0,none⟩) HL10.out _).setCell (p:=⟨wr.heap.size,1,none⟩) HL10.out _).setCell (p:=⟨wr.heap.size,2,none⟩) HL10.out _),?_⟩;refine wpAnyH_end HO.out (by kernel_rfl) ?_;refine NoPanic.normal ?_;go_wp2_with fail
       go_meet;exact ⟨wr.heap.size,rfl,rfl,hid (((HK13.out.set_ 0 _).set_ 1 _).set_ 2 _),hid (((HB13.out.setCell (p:=⟨wr.heap.size,0,none⟩) HL10.out _).setCell (p:=⟨wr.heap.size,1,none⟩) HL10.out _).setCell (p:=⟨wr.heap.size,2,none⟩) HL10.out _)⟩
     case rest =>
      obtain ⟨b,rfl,rfl,HKb,HBb⟩:=hcut;have kb:=HKb.out;have b0:wc.cell? ⟨b,0,none⟩=some (.int .u16 (gg:Int)):=kb.cell 0;have b1:wc.cell? ⟨b,1,none⟩=some (.int .u8 (kk:Int)):=kb.cell 1;have b2:wc.cell? ⟨b,2,none⟩=some (.int .u8 (ss:Int)):=kb.cell 2;clear kb f0 f1 f2 f3 f4;go_wp2_with (first
       | (go_at_call 299;refine (HGk.out _).mono ?_;rintro e w9 ⟨rfl,hb9⟩;have HB9:=hid (HBb.out.trans (hb9.mono HBb.out.size));have b29:w9.cell? ⟨b,2,none⟩=some (.int .u8 (ss:Int)):=(HKb.out.below hb9 HKb.out.lt).cell 2;clear hb9;refine stop ?_)
       | fail)
      unfold Stop;have HBn:=hid (HB.out.trans (HB9.out.mono HB.out.size));have HKn:=hid (HK.out.below HB9.out HK.out.lt);clear b0 b1 b2;by_cases hs:ss=176
      ·subst hs
       have HT2:Hid (tkV bs (k+1)=tkV bs k):=hid (by rw [HT.out,if_pos rfl]);clear HT u3;go_wp2_with fail
       go_roundw
       case rel =>
        first
         | exact ⟨k+1,oM,by rw [HT2.out],by go_num,HBn,HKn⟩
         | (
           repeat apply Exists.intro
           refine ⟨?_,rfl⟩;exact ⟨k+1,oM,by rw [HT2.out],by go_num,HBn,HKn⟩)
       case measure=>simp [Go.RowKit.intOf];omega
      ·have HT2:Hid (tkV bs (k+1)=tkV bs k ||| 2 ^ k):=hid (by rw [HT.out,if_neg hs])
       have ds:((ss:Int) != 176)=true:=by rw [bne,beq_eq_false_iff_ne.2 oM];rfl
       have HU3:=hid u3;clear HT hs u3;generalize 2 ^ k=pk at *;go_wp2_with fail
       go_roundw
       case rel =>
        first
         | exact ⟨k+1,oM,by rw [HT2.out,← HU3.out],by go_num,HBn,HKn⟩
         | (
           repeat apply Exists.intro
           refine ⟨?_,rfl⟩;exact ⟨k+1,oM,by rw [HT2.out,← HU3.out],by go_num,HBn,HKn⟩)
       case measure=>simp [Go.RowKit.intOf];omega
    ·obtain rfl:n=k:=oM
     have HBt:=hid (HBi.out wr HB.out);have hV:tkV bs n=V:=HTk.out;rw [hV];have dV:((V:Int) == (V:Int))=true:=beq_self_eq_true _;clear hV HBi;go_wp2_with (go_at_call 351;refine HBt.out.mono ?_;rintro e w9 ⟨rfl,hb9⟩;have HB9:=hid (HB.out.trans (hb9.mono HB.out.size));clear hb9)
     go_ret;exact ⟨rfl,HB9.out⟩
theorem chCheck_any (h:Dev a L T w S cur F) (ht:Tab w) (hp:Pay w) {ln cl g V:Nat} {bs:Nat→BK} (hC:ChW cur ln cl g V bs) (hl:ln+32≤L) :
  Calls Tryz.prog 290 #[chV a ln cl 0 g] w fun e w'=>e = .returned (.int .i64 0)∧Below w.heap.size w w':=by
 have HE:=hid (fun (W:World) (hW:Below w.heap.size w W)=>thErr (h.below hW));have HCo:=hid (fun (W:World) (hW:Below w.heap.size w W)=>consistent_any (h.below hW) (ht.below hW) (hp.below hW) ln cl g V bs hl hC);have hm:=methErr (some ⟨a.th 0,0,none⟩);have hnil:∀ W,(binOp .eql 188 (.iface 58 (.pointer (some ⟨a.th 0,0,none⟩))) .nilIface).run Tryz.prog W = .ok (.bool false) W:=fun W=>by rfl
 have hb0:Below w.heap.size w (w.alloc (.cells (chCells a ln cl g) 306)):=(Below.refl _ _).alloc (nL _) _;have HB0:=hid hb0;have HE0:=hid (HE.out _ hb0);have HC0:=hid (HCo.out _ hb0);have HK:=hid (Blk.new w 306 (chCells a ln cl g));clear h ht hp hC hb0;unfold chV at *;unfold chCells memV at *;go_enter Tryz.func290,Tryz.ntmps290
 go_upto_region 1 with fail
 generalize w.alloc (.cells #[.iface 58 (.pointer (some ⟨a.th 0,0,none⟩)), .int .i64 (ln:Int), .int .i64 (cl:Int), .int .i64 0, .int .u16 (g:Int)] 306)=W0 at *;have f0:W0.cell? ⟨w.heap.size,0,none⟩=some (.iface 58 (.pointer (some ⟨a.th 0,0,none⟩))):=HK.out.cell 0;have f1:W0.cell? ⟨w.heap.size,1,none⟩=some (.int .i64 (ln:Int)):=HK.out.cell 1;have f2:W0.cell? ⟨w.heap.size,2,none⟩=some (.int .i64 (cl:Int)):=HK.out.cell 2;have f3:W0.cell? ⟨w.heap.size,3,none⟩=some (.int .i64 0):=HK.out.cell 3;have f4:W0.cell? ⟨w.heap.size,4,none⟩=some (.int .u16 (g:Int)):=HK.out.cell 4;go_wp2_with (first
  | (go_at_call 344;refine HC0.out.mono ?_;rintro e w5 ⟨rfl,hb5⟩;have HB5:=hid (HB0.out.trans (hb5.mono HB0.out.size));have HE5:=hid (HE.out _ HB5.out);have k0:w5.cell? ⟨w.heap.size,0,none⟩=some (.iface 58 (.pointer (some ⟨a.th 0,0,none⟩))):=(HK.out.below hb5 HK.out.lt).cell 0;clear hb5 f0 f1 f2 f3 f4)
  | (go_at_call 112;refine HE5.out.mono ?_;rintro e w6 ⟨rfl,rfl⟩)
  | (go_at_call 112;refine HE0.out.mono ?_;rintro e w6 ⟨rfl,rfl⟩)
  | go_in)
 go_ret;exact ⟨rfl,HB5.out⟩
end
end
section
open Go.RowKit
def RetAct (w:World) (ln cl:Nat) (bs:Nat→BK) (take:List (Nat × Nat)) (drop:List Nat) (e:Ending) (w':World):Prop :=
 ∃ A m c V',e = .returned (.tuple #[.slice A m c, .int .i64 0])∧Bits V' cl (actB bs take drop)∧w'.ownsRow w.heap.size 114 2 (.slice A m c) m (wrCells (chgW ln cl bs take drop V'))∧Below w.heap.size w w'
section
variable {a:DA} {L T:Nat} {w:World} {S:Fp} {cur:Nat→Nat} {F:Nat}
theorem chActions_any (h:Dev a L T w S cur F) (ht:Tab w) (hp:Pay w) (ln cl g V:Nat) (bs:Nat→BK) (hl:ln+32≤L) (hC:ChW cur ln cl g V bs)
  (A1 A2 A3:Option Addr) (n1 c1 c2 n3 c3:Nat) (take:List (Nat × Nat)) (drop:List Nat) (h1:Reads w w.heap.size 1 A1 n1 (jCells (take.map (·.1)))) (h2:Reads w w.heap.size 1 A2 n1 (u8s (take.map (·.2)))) (h3:Reads w w.heap.size 1 A3 n3 (jCells drop))
  (hn:(take.map (·.1)++drop).Nodup) (hi1:∀ e∈take,e.1 < perC cl∧(bs e.1).st=176∧0 < e.2∧e.2 < 128) (hi3:∀ i∈drop,i < perC cl∧(bs i).st=177) (hne:0 < n1∨0 < n3) (hn1:n1≤100) (hn3:n3≤100) :
  Calls Tryz.prog 240 #[chV a ln cl 0 g, .slice A1 n1 c1, .slice A2 n1 c2, .slice A3 n3 c3] w (RetAct w ln cl bs take drop):=by
 have hb0:Below w.heap.size w (w.alloc (.cells (chCells a ln cl g) 306)):=(Below.refl _ _).alloc (nL _) _;have HB0:=hid hb0;have HK:=hid (Blk.new w 306 (chCells a ln cl g));have HOn:Hid (∀ W bl,Below w.heap.size w W→Blk W bl 34 #[.slice A1 n1 c1, .slice A3 n3 c3]→Calls Tryz.prog 318 #[chV a ln cl 0 g, .slice (some ⟨bl,0,none⟩) 2 2] W fun e w'=>e = .returned (.bool true)∧Below W.heap.size W w'):=hid (fun W bl hW hB=>once_any a ln cl g hC.cls A1 A3 n1 c1 n3 c3 (take.map (·.1)) drop W (hp.below hW) bl hB ((h1.below hW).more hW.size) ((h3.below hW).more hW.size) hn (fun i hi=>by
  rcases List.mem_append.1 hi with hi | hi
  ·obtain ⟨e,he,rfl⟩:=List.mem_map.1 hi
   exact (hi1 e he).1
  ·exact (hi3 i hi).1) oM oM)
 have HEr:Hid (∀ W,Below w.heap.size w W→Calls Tryz.prog 112 #[.pointer (some ⟨a.th 0,0,none⟩)] W fun e w'=>e = .returned (.int .i64 0)∧W=w'):=hid (fun W hW=>thErr (h.below hW));have HCh:Hid (∀ W,Below w.heap.size w W→Calls Tryz.prog 319 #[chV a ln cl 0 g, .slice A1 n1 c1, .slice A2 n1 c2, .slice A3 n3 c3] W (RetChg W ln cl bs take drop)):=hid (fun W hW=>changes_any (h.below hW) (ht.below hW) (hp.below hW) ln cl g V bs hl hC A1 A2 A3 n1 c1 c2 n3 c3 take drop ((h1.below hW).more hW.size) ((h2.below hW).more hW.size) ((h3.below hW).more hW.size) hn hi1 hi3 hne hn1 hn3);have HR2:=hid h2;have HI1:=hid hi1;have HL2:=hid (show take.length=n1 by have:=h2.1;simp [u8s] at this;omega);have hm:=methErr (some ⟨a.th 0,0,none⟩);have hq:=eqMem (some ⟨a.th 0,0,none⟩);clear h ht hp hl hC h1 h2 h3 hn hi1 hi3 hne hb0;unfold chV at *;unfold chCells memV at *;generalize hW:w.alloc (.cells #[.iface 58 (.pointer (some ⟨a.th 0,0,none⟩)), .int .i64 (ln:Int), .int .i64 (cl:Int), .int .i64 0, .int .u16 (g:Int)] 306)=W at *;have HWe:=hid hW.symm;clear hW;go_enter Tryz.func240,Tryz.ntmps240
 go_wp2;rw [← HWe.out];go_loopw [23] (fun i wr=>∃ (k:Nat),k≤n1∧i = .int .i64 k∧Hid (W=wr)) (fun i _=>n1 - (Go.RowKit.intOf i).toNat)
 case atStart=>exact ⟨0,Nat.zero_le _,rfl,hid rfl⟩
 case round =>
  obtain ⟨k,hk,rfl,hw⟩:=hrel;have hw:=hw.out;subst hw;by_cases hlt:k < n1
  ·obtain ⟨hl2,b2,off2,hA2,hbB2,fk⟩:=k_facts (HR2.out.below HB0.out) hlt
   subst hA2;have e2:(take.map (·.2))[k]=(take[k]'(by rw [HL2.out];exact hlt)).2:=by simp
   rw [e2] at fk;obtain ⟨_,_,hk0,hk8⟩:=HI1.out (take[k]'(by rw [HL2.out];exact hlt)) (List.getElem_mem _);generalize (take[k]'(by rw [HL2.out];exact hlt)).2=kd at *;have d1:((kd:Int) == 0)=false:=by rw [beq_eq_false_iff_ne];omega
   have d2:decide ((127:Int) < (kd:Int))=false:=dF;have d2n:decide (127 < kd)=false:=dF;have hz5:(0:Int)≤(k:Int):=oM;have hz6:(k:Int) < (n1:Int):=oM;clear e2 hl2;go_wp2;go_roundw
   case rel =>
    first
     | exact ⟨k+1,oM,by go_num,hid trivial⟩
     | exact ⟨k+1,oM,by go_num,hid rfl⟩
     | (
       repeat apply Exists.intro
       refine ⟨?_,rfl⟩;exact ⟨k+1,oM,by go_num,hid rfl⟩)
   case measure=>simp [Go.RowKit.intOf];omega
  ·have hkn:k=n1:=oM
   subst hkn;clear hlt hk;have hd0:W.cell? ⟨w.heap.size,0,none⟩=some (.iface 58 (.pointer (some ⟨a.th 0,0,none⟩))):=HK.out.cell 0;have hd1:W.cell? ⟨w.heap.size,1,none⟩=some (.int .i64 (ln:Int)):=HK.out.cell 1;have hd2:W.cell? ⟨w.heap.size,2,none⟩=some (.int .i64 (cl:Int)):=HK.out.cell 2;have hd3:W.cell? ⟨w.heap.size,3,none⟩=some (.int .i64 0):=HK.out.cell 3;have hd4:W.cell? ⟨w.heap.size,4,none⟩=some (.int .u16 (g:Int)):=HK.out.cell 4;have HBs:=hid (HB0.out.alloc HB0.out.size (.cells #[.slice A1 k c1, .slice A3 n3 c3] 34));have HKs:=hid (Blk.new W 34 #[.slice A1 k c1, .slice A3 n3 c3]);have HOs:=hid (HOn.out _ _ HBs.out HKs.out);have HKc:=hid (HK.out.alloc (.cells #[.slice A1 k c1, .slice A3 n3 c3] 34));clear HOn HKs;go_wp2_with (go_at_call 318;refine HOs.out.mono ?_;rintro e w2 ⟨rfl,hb2⟩;refine stop ?_)
   unfold Stop;have HB2:=hid (HBs.out.trans (hb2.mono HBs.out.size));have HK2:=hid (HKc.out.below hb2 HKc.out.lt);clear hb2 hd0 hd1 hd2 hd3 hd4 HOs HBs HKc;have hd0:w2.cell? ⟨w.heap.size,0,none⟩=some (.iface 58 (.pointer (some ⟨a.th 0,0,none⟩))):=HK2.out.cell 0;have hd1:w2.cell? ⟨w.heap.size,1,none⟩=some (.int .i64 (ln:Int)):=HK2.out.cell 1;have hd2:w2.cell? ⟨w.heap.size,2,none⟩=some (.int .i64 (cl:Int)):=HK2.out.cell 2;have hd3:w2.cell? ⟨w.heap.size,3,none⟩=some (.int .i64 0):=HK2.out.cell 3;have hd4:w2.cell? ⟨w.heap.size,4,none⟩=some (.int .u16 (g:Int)):=HK2.out.cell 4;have HC2:=hid (HCh.out w2 HB2.out);have HE2:=hid (HEr.out w2 HB2.out);go_wp2_with (first
    | (go_at_call 112;refine HE2.out.mono ?_;rintro e w3 ⟨rfl,rfl⟩)
    | (go_at_call 319;refine HC2.out.mono ?_;rintro e w3 ⟨A,m,c,V',rfl,hbt,ho,hb3⟩;refine stop ?_))
   unfold Stop;have HB3:=hid (HB2.out.trans (hb3.mono HB2.out.size));have HK3:=hid (HK2.out.below hb3 HK2.out.lt);have HBt:=hid hbt;have HO3:=hid (own_le (base':=w.heap.size) ho HB2.out.size);have HE3:=hid (HEr.out w3 HB3.out);have hx0:w3.cell? ⟨w.heap.size,0,none⟩=some (.iface 58 (.pointer (some ⟨a.th 0,0,none⟩))):=HK3.out.cell 0;clear hb3 hbt ho hd0 hd1 hd2 hd3 hd4 HC2 HE2 HCh;go_wp2_with (go_at_call 112;refine HE3.out.mono ?_;rintro e w4 ⟨rfl,rfl⟩)
   go_ret2;exact ⟨_,_,_,V',rfl,HBt.out,HO3.out,HB3.out⟩
end
end
end Go.Proofs.YtfkjjoglnmeciaaGreatDoor
