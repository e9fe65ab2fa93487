/- The walks and laws that the claim leans on, part 39. -/
import Derived.Test.YtfkjjoglnmeciaaGreatDoorJbl
set_option maxRecDepth 100000
set_option maxHeartbeats 16000000
namespace Go.Proofs.YtfkjjoglnmeciaaGreatDoor
open Go.Lib (hid)
section
open Go.RowKit
def tkV (bs:Nat→BK):Nat→Nat
 | 0=>0
 | n+1=>if (bs n).st=176 then tkV bs n else tkV bs n ||| 2 ^ n
theorem tkV_lt (bs:Nat→BK):∀ n,tkV bs n < 2 ^ n
 | 0=>by simp [tkV]
 | n+1=>by
  have h:=tkV_lt bs n
  have h2:(2:Nat) ^ n < 2 ^ (n+1):=Nat.pow_lt_pow_right (by omega) (by omega)
  unfold tkV
  split
  ·omega
  ·exact Nat.or_lt_two_pow (by omega) h2
theorem tkV_bit (bs:Nat→BK):∀ n i,(tkV bs n).testBit i=(decide (i < n) && decide ((bs i).st≠176))
 | 0,i=>by simp [tkV]
 | n+1,i=>by
  have ih:=tkV_bit bs n i
  unfold tkV
  by_cases e:i=n
  ·subst e
   split
   ·rename_i h;rw [ih];simp [h]
   ·rename_i h;rw [Nat.testBit_or,ih,Nat.testBit_two_pow];simp [h]
  ·have h2:decide (i < n+1)=decide (i < n):=decide_eq_decide.2 ⟨fun h=>by omega,fun h=>by omega⟩
   have h3:decide (n=i)=false:=decide_eq_false (fun h=>e h.symm)
   rw [h2]
   split
   ·exact ih
   ·rw [Nat.testBit_or,ih,Nat.testBit_two_pow,h3,Bool.or_false]
theorem tkV_all {cur:Nat→Nat} {ln cl g V:Nat} {bs:Nat→BK} (h:ChW cur ln cl g V bs):tkV bs (perC cl)=V:=by
 apply Nat.eq_of_testBit_eq
 intro i
 rw [tkV_bit]
 by_cases hi:i < perC cl
 ·have:=h.bit i hi
  rw [bitAt_test] at this
  rw [this];simp [hi]
 ·have hl:=Nat.testBit_lt_two_pow (Nat.lt_of_lt_of_le h.top (Nat.pow_le_pow_right (by omega) (Nat.le_of_not_lt hi)))
  rw [hl];simp [hi]
section
variable {a:DA} {L T:Nat} {w:World} {S:Fp} {cur:Nat→Nat} {F:Nat}
theorem consistent_any (h:Dev a L T w S cur F) (ht:Tab w) (hp:Pay w) (ln cl g V:Nat) (bs:Nat→BK) (hl:ln+32≤L) (hC:ChW cur ln cl g V bs) :
  Calls Tryz.prog 344 #[chV a ln cl 0 g] w fun e w'=>e = .returned (.bool true)∧Below w.heap.size w w':=by
 obtain ⟨_,_,_,_,_,hdc,_⟩:=id h
 have hL:=hdc.hL
 clear hdc
 have hcl:=hC.cls
 have HHl:=hid (load_at h (64 * ln) (hdrW cl g) (by omega) (by omega) (by rw [show 64 * ln / 8=8 * ln by omega];exact hC.hdr))
 have HZl:Hid (∀ k:Nat,2≤k→k < 8→∀ W,Below w.heap.size w W→Calls Tryz.prog 65 #[.pointer (some ⟨a.th 0,0,none⟩), .int .u64 (((64 * ln+8 * k:Nat)):Int)] W fun e w'=>e = .returned (.int .u64 0)∧W=w'):=hid (fun k h2 h8 W hW=>by
  have:=load_at h (64 * ln+8 * k) 0 (by omega) (by omega) (by rw [show (64 * ln+8 * k) / 8=8 * ln+k by omega];exact hC.zero k h2 h8) W hW
  exact this)
 have HBl:Hid (∀ i,i < perC cl→∀ W,Below w.heap.size w W→Calls Tryz.prog 65 #[.pointer (some ⟨a.th 0,0,none⟩), .int .u64 (((64 * ln+8 * offB cl i:Nat)):Int)] W fun e w'=>e = .returned (.int .u64 ((bs i).w:Int))∧W=w'):=hid (fun i hi W hW=>by
  have ho:=off_lt hi
  exact load_at h (64 * ln+8 * offB cl i) (bs i).w (by omega) (by omega) (by rw [show (64 * ln+8 * offB cl i) / 8=8 * ln+offB cl i by omega];exact hC.word i hi) W hW)
 have HSt:=hid (start_any ln (by omega))
 have HHd:Hid (∀ W,Below w.heap.size w W→Calls Tryz.prog 350 #[.int .u64 (hdrW cl g:Int)] W fun e w'=>e = .returned (.tuple #[.agg #[.int .i64 (cl:Int), .int .i64 0, .int .u16 (g:Int)], .bool true])∧Below W.heap.size W w'):=hid (fun W hW=>header_cls cl g hC.cls hC.g0 hC.g1 W (ht.below hW) (hp.below hW))
 have HPe:Hid (∀ W,Below w.heap.size w W→Calls Tryz.prog 207 #[.int .i64 (cl:Int)] W fun e w'=>e = .returned (.int .i64 (perC cl:Int))∧W=w'):=hid (fun W hW=>perChunk_any cl hC.cls W (hp.below hW))
 have HAt:Hid (∀ i,i < perC cl→∀ W,Below w.heap.size w W→Calls Tryz.prog 301 #[chV a ln cl 0 g, .int .i64 (i:Int)] W fun e w'=>e = .returned (.int .u64 ((64 * ln+8 * offB cl i:Nat):Int))∧Below W.heap.size W w'):=hid (fun i hi W hW=>blkAt_any ln cl g i (by omega) hC.cls hi W (hp.below hW))
 have HSe:Hid (∀ i,i < perC cl→∀ W,Below w.heap.size w W→Calls Tryz.prog 352 #[.int .u64 ((bs i).w:Int)] W fun e w'=>e = .returned (.tuple #[(bs i).v, .bool true])∧Below W.heap.size W w'):=hid (fun i hi W hW=>sealed_any (bs i) (hC.inn i hi) W (ht.below hW))
 have HGd:Hid (∀ i,i < perC cl→∀ W,Calls Tryz.prog 299 #[(bs i).v] W fun e w'=>e = .returned (.bool true)∧Below W.heap.size W w'):=hid (fun i hi W=>by
  have:=good_any (bs i) (hC.inn i hi) W
  rw [hC.good i hi] at this
  exact this)
 have HBi:Hid (∀ W,Below w.heap.size w W→Calls Tryz.prog 351 #[chV a ln cl 0 g] W fun e w'=>e = .returned (.int .u64 (V:Int))∧Below W.heap.size W w'):=hid (fun W hW=>bits_any (h.below hW) ln cl g V hl hC.bits)
 have HTk:=hid (tkV_all hC)
 have HIn:Hid (∀ i,i < perC cl→(bs i).In):=hid hC.inn
 have HOf:Hid (∀ i,i < perC cl→offB cl i < 256):=hid (fun i hi=>by have:=off_lt hi;omega)
 have hb0:Below w.heap.size w (w.alloc (.cells (chCells a ln cl g) 306)):=(Below.refl _ _).alloc (Nat.le_refl _) _
 have HB0:=hid hb0
 have HK:=hid (Blk.new w 306 (chCells a ln cl g))
 have hpc:=per_le cl
 have hm:=methLoad (some ⟨a.th 0,0,none⟩)
 have hna:=aheadLoad ⟨a.th 0,0,none⟩
 clear h hp ht hb0 hC
 unfold chV at *
 unfold chCells memV at *
 generalize hdrW cl g=hw at *
 have hz:64 * ln < 900000000:=by omega
 generalize hz0:64 * ln=z at *
 go_enter Tryz.func344,Tryz.ntmps344
 go_wp2_with fail
 generalize w.alloc (.cells #[.iface 58 (.pointer (some ⟨a.th 0,0,none⟩)), .int .i64 (ln:Int), .int .i64 (cl:Int), .int .i64 0, .int .u16 (g:Int)] 306)=W0 at *
 have f0:W0.cell? ⟨w.heap.size,0,none⟩=some (.iface 58 (.pointer (some ⟨a.th 0,0,none⟩))):=HK.out.cell 0
 have f1:W0.cell? ⟨w.heap.size,1,none⟩=some (.int .i64 (ln:Int)):=HK.out.cell 1
 go_wp2_with (first
  | (go_at_call 339;refine (HSt.out _).mono ?_;rintro e w1 ⟨rfl,rfl⟩)
  | (go_at_call 65;refine (HHl.out _ HB0.out).mono ?_;rintro e w1 ⟨rfl,rfl⟩)
  | (go_at_call 350;refine (HHd.out _ HB0.out).mono ?_;rintro e w1 ⟨rfl,hb1⟩;have HB1:=hid (HB0.out.trans (hb1.mono HB0.out.size));have HK1:=hid (HK.out.below hb1 HK.out.lt);clear hb1;have hlt1:=HK1.out.lt;have f2:w1.cell? ⟨w.heap.size,2,none⟩=some (.int .i64 (cl:Int)):=HK1.out.cell 2;have f3:w1.cell? ⟨w.heap.size,3,none⟩=some (.int .i64 0):=HK1.out.cell 3)
  | go_in)
 clear f0 f1 f2 f3 hlt1 HB0 HK HHl HHd HSt
 have HB2:=hid (HB1.out.alloc HB1.out.size (.cells #[.int .i64 (cl:Int), .int .i64 0, .int .u16 (g:Int)] 304))
 have HK2:=hid (HK1.out.alloc (.cells #[.int .i64 (cl:Int), .int .i64 0, .int .u16 (g:Int)] 304))
 generalize w1.alloc (.cells #[.int .i64 (cl:Int), .int .i64 0, .int .u16 (g:Int)] 304)=w2 at *
 clear HB1 HK1
 go_loopw [6] (fun i wr=>∃ k:Nat,2≤k∧k≤8∧i = .int .u64 (k:Int)∧w2=wr) (fun i _=>8 - (Go.RowKit.intOf i).toNat)
 case atStart=>exact ⟨2,by omega,by omega,rfl,rfl⟩
 case round =>
  obtain ⟨k,hk2,hk8,rfl,rfl⟩:=hrel
  by_cases hlt:k < 8
  ·have f0:w2.cell? ⟨w.heap.size,0,none⟩=some (.iface 58 (.pointer (some ⟨a.th 0,0,none⟩))):=HK2.out.cell 0
   have dk:decide ((k:Int) < 8)=true:=decide_eq_true (by omega)
   have u1:IntKind.u64.wrap ((k:Int) * 8)=(k:Int) * 8:=by rw [IntKind.wrap_u64];omega
   have u2:IntKind.u64.wrap ((z:Int)+(k:Int) * 8)=((z+8 * k:Nat):Int):=by rw [IntKind.wrap_u64];omega
   have u3:IntKind.u64.wrap ((k:Int)+1)=(k:Int)+1:=by rw [IntKind.wrap_u64];omega
   go_wp2_with (first
    | (go_at_call 65;refine (HZl.out k hk2 hlt _ HB2.out).mono ?_;rintro e w3 ⟨rfl,rfl⟩)
    | go_in)
   go_roundw
   case rel=>first | exact ⟨k+1,by omega,by omega,by go_num,rfl⟩ | exact ⟨k+1,by omega,by omega,by go_num,trivial⟩
   case measure=>simp [Go.RowKit.intOf];omega
  ·obtain rfl:k=8:=by omega
   clear HZl hlt hk2 hk8
   have f2:w2.cell? ⟨w.heap.size,2,none⟩=some (.int .i64 (cl:Int)):=HK2.out.cell 2
   go_wp2_with (first
    | (go_at_call 207;refine (HPe.out _ HB2.out).mono ?_;rintro e w3 ⟨rfl,rfl⟩)
    | go_in)
   clear HPe f2
   generalize perC cl=n at *
   go_loopw [7,56] (fun v i wr=>∃ k:Nat,k≤n∧v = .int .u64 (tkV bs k:Int)∧i = .int .i64 (k:Int)∧Hid (Below w.heap.size w wr)∧Hid (Blk wr w.heap.size 306 #[.iface 58 (.pointer (some ⟨a.th 0,0,none⟩)), .int .i64 (ln:Int), .int .i64 (cl:Int), .int .i64 0, .int .u16 (g:Int)])) (fun _ i _=>n - (Go.RowKit.intOf i).toNat)
   case atStart=>exact ⟨0,by omega,rfl,rfl,HB2,HK2⟩
   case round =>
    clear HB2 HK2
    obtain ⟨k,hk,rfl,rfl,HB,HK⟩:=hrel
    have f0:wr.cell? ⟨w.heap.size,0,none⟩=some (.iface 58 (.pointer (some ⟨a.th 0,0,none⟩))):=HK.out.cell 0
    have f1:wr.cell? ⟨w.heap.size,1,none⟩=some (.int .i64 (ln:Int)):=HK.out.cell 1
    have f2:wr.cell? ⟨w.heap.size,2,none⟩=some (.int .i64 (cl:Int)):=HK.out.cell 2
    have f3:wr.cell? ⟨w.heap.size,3,none⟩=some (.int .i64 0):=HK.out.cell 3
    have f4:wr.cell? ⟨w.heap.size,4,none⟩=some (.int .u16 (g:Int)):=HK.out.cell 4
    by_cases hlt:k < n
    ·have dk:decide ((k:Int) < (n:Int))=true:=decide_eq_true (by omega)
     have HB0d:Hid (Below wr.heap.size wr wr.drew):=hid (Below.refl _ _).drew
     have HAk:=hid (HAt.out k hlt)
     have HLk:=hid (HBl.out k hlt)
     have HSk:=hid (HSe.out k hlt)
     have HGk:=hid (HGd.out k hlt)
     have hsz:w.heap.size < wr.heap.size:=HK.out.lt
     have ho9:=HOf.out k hlt
     have HT:Hid (tkV bs (k+1)=if (bs k).st=176 then tkV bs k else tkV bs k ||| 2 ^ k):=hid rfl
     have ht1:=tkV_lt bs k
     have ht2:=pow_lt64 (i:=k) (by omega)
     have u2:=shl_one (i:=k) (by omega)
     have u3:=u64_or_nat (tkV bs k) (2 ^ k) (by omega) ht2
     have hin:=HIn.out k hlt
     have s1:IntKind.u64.wrap (k:Int)=(k:Int):=by rw [IntKind.wrap_u64];omega
     clear HAt HBl HSe HGd HIn HBi ht1
     unfold BK.v at *
     generalize (bs k).w=bw at *
     obtain ⟨gg,hg⟩:∃ x,(bs k).gen=x:=⟨_,rfl⟩
     obtain ⟨kk,hk9⟩:∃ x,(bs k).kind=x:=⟨_,rfl⟩
     obtain ⟨ss,hss⟩:∃ x,(bs k).st=x:=⟨_,rfl⟩
     rw [hg,hk9,hss] at HSk HGk
     rw [hss] at HT
     have hs256:ss < 256:=by have:=hin.s;omega
     clear hin hg hk9 hss
     generalize z+8 * offB cl k=zo at *
     go_upto_region 14 with fail
     go_cut [9,10] from 59 to 71 (fun v9 v10 wx=>∃ b:Nat,v9 = .pointer (some ⟨b,0,none⟩)∧v10 = .bool true∧Hid (Blk wx b 401 #[.int .u16 (gg:Int), .int .u8 (kk:Int), .int .u8 (ss:Int)])∧Hid (Below wr.heap.size wr wx))
     case first =>
      refine wp_region_scriptA (fun w'=>Below wr.heap.size wr w') 15 9 [0,1,2,3,5,6] (by kernel_rfl) (by kernel_rfl) (by rfl) (by rfl) HB0d.out ?_
      intro ops HO
      refine wpScriptA_take HO.out (.pointer (some ⟨w.heap.size,0,none⟩)) (by rfl) (by rfl) (fun w' hS=>?_) ?_
      ·go_simp
      simp only [Act.put,List.setIfInBounds_toArray,List.set_cons_zero,List.set_cons_succ]
      refine wpScriptA_take HO.out (.iface 58 (.pointer (some ⟨a.th 0,0,none⟩))) (by rfl) (by rfl) (fun w' hS=>?_) ?_
      ·have kk:=HK.out.below hS HK.out.lt;have f0:=kk.cell 0;clear kk
       go_simp
      simp only [Act.put,List.setIfInBounds_toArray,List.set_cons_zero,List.set_cons_succ]
      refine wpScriptA_take HO.out (.agg #[.iface 58 (.pointer (some ⟨a.th 0,0,none⟩)), .int .i64 (ln:Int), .int .i64 (cl:Int), .int .i64 0, .int .u16 (g:Int)]) (by rfl) (by rfl) (fun w' hS=>?_) ?_
      ·have kk:=HK.out.below hS HK.out.lt;have f0:=kk.cell 0;have f1:=kk.cell 1;have f2:=kk.cell 2;have f3:=kk.cell 3;have f4:=kk.cell 4;clear kk
       go_simp
      simp only [Act.put,List.setIfInBounds_toArray,List.set_cons_zero,List.set_cons_succ]
      refine wpScriptA_take HO.out (.int .i64 (k:Int)) (by rfl) (by rfl) (fun w' hS=>?_) ?_
      ·go_simp
      simp only [Act.put,List.setIfInBounds_toArray,List.set_cons_zero,List.set_cons_succ]
      refine wpScriptA_take HO.out (.iface 58 (.pointer (some ⟨a.th 0,0,none⟩))) (by rfl) (by rfl) (fun w' hS=>?_) ?_
      ·go_simp
      simp only [Act.put,List.setIfInBounds_toArray,List.set_cons_zero,List.set_cons_succ]
      refine wpScriptA_take HO.out (.iface 58 (.pointer (some ⟨a.th 0,0,none⟩))) (by rfl) (by rfl) (fun w' hS=>?_) ?_
      ·go_simp
      simp only [Act.put,List.setIfInBounds_toArray,List.set_cons_zero,List.set_cons_succ]
      refine wpAnyH_two HO.out (i:=4) (j:=12) (by kernel_rfl) (by rfl) (by rfl) ?_ ?_
      ·go_wp2_with (go_at_call 301;refine (HAk.out _ (HB.out.trans (HB0d.out.mono HB.out.size))).mono ?_;rintro e w1 ⟨rfl,hb⟩;have HB1:=hid (HB0d.out.trans (hb.mono HB0d.out.size));clear hb)
       refine ⟨HB1.out,?_⟩
       refine wpAnyH_two HO.out (i:=7) (j:=12) (by kernel_rfl) (by rfl) (by rfl) ?_ ?_
       ·go_wp2_with (go_at_call 65;refine (HLk.out _ (HB.out.trans (HB1.out.mono HB.out.size))).mono ?_;rintro e w2 ⟨rfl,rfl⟩)
        refine ⟨HB1.out,?_⟩
        refine wpAnyH_two HO.out (i:=8) (j:=12) (by kernel_rfl) (by rfl) (by rfl) ?_ ?_
        ·go_wp2_with (go_at_call 352;refine (HSk.out _ (HB.out.trans (HB1.out.mono HB.out.size))).mono ?_;rintro e w3 ⟨rfl,hb⟩;have HB3:=hid (HB1.out.trans (hb.mono HB1.out.size));clear hb)
         refine ⟨HB3.out,?_⟩
         refine wpAnyH_free HO.out (i:=9) (.tuple #[.agg #[.int .u16 (gg:Int), .int .u8 (kk:Int), .int .u8 (ss:Int)], .bool true]) (by rfl) (by kernel_rfl) (by rfl) (fun w' hS=>?_) HB3.out ?_
         ·go_simp
         simp only [Act.put,List.setIfInBounds_toArray,List.set_cons_zero,List.set_cons_succ]
         refine wpAnyH_free HO.out (i:=10) (.agg #[.int .u16 (gg:Int), .int .u8 (kk:Int), .int .u8 (ss:Int)]) (by rfl) (by kernel_rfl) (by rfl) (fun w' hS=>?_) HB3.out ?_
         ·go_simp
         simp only [Act.put,List.setIfInBounds_toArray,List.set_cons_zero,List.set_cons_succ]
         refine wpAnyH_free HO.out (i:=11) (.bool true) (by rfl) (by kernel_rfl) (by rfl) (fun w' hS=>?_) HB3.out ?_
         ·go_simp
         simp only [Act.put,List.setIfInBounds_toArray,List.set_cons_zero,List.set_cons_succ]
         refine wpAnyH_one HO.out (i:=12) (by kernel_rfl) (by rfl) ?_
         go_wp2_with fail
         refine ⟨HB3.out.alloc HB3.out.size _,?_⟩
         have HK4:Hid (Blk (w3.alloc (.cells #[.int .u16 0, .int .u8 0, .int .u8 0] 401)) w3.heap.size 401 #[.int .u16 0, .int .u8 0, .int .u8 0]):=hid (Blk.new w3 401 _)
         have HB4:=hid (HB3.out.alloc HB3.out.size (.cells #[.int .u16 0, .int .u8 0, .int .u8 0] 401))
         have HL4:Hid (wr.heap.size≤w3.heap.size):=hid HB3.out.size
         generalize w3.alloc (.cells #[.int .u16 0, .int .u8 0, .int .u8 0] 401)=W4 at *
         have c0:W4.cell? ⟨w3.heap.size,0,none⟩=some (.int .u16 0):=HK4.out.cell 0
         have z0:W4.frozen? ⟨w3.heap.size,0,none⟩=false:=HK4.out.frozen 0
         have c1:W4.cell? ⟨w3.heap.size,1,none⟩=some (.int .u8 0):=HK4.out.cell 1
         have z1:W4.frozen? ⟨w3.heap.size,1,none⟩=false:=HK4.out.frozen 1
         have c2:W4.cell? ⟨w3.heap.size,2,none⟩=some (.int .u8 0):=HK4.out.cell 2
         have z2:W4.frozen? ⟨w3.heap.size,2,none⟩=false:=HK4.out.frozen 2
         refine wpAnyH_one HO.out (i:=13) (by kernel_rfl) (by rfl) ?_
         go_wp2_with fail
         refine ⟨(((HB4.out.setCell (p:=⟨w3.heap.size,0,none⟩) HL4.out _).setCell (p:=⟨w3.heap.size,1,none⟩) HL4.out _).setCell (p:=⟨w3.heap.size,2,none⟩) HL4.out _),?_⟩
         refine wpAnyH_one HO.out (i:=14) (by kernel_rfl) (by rfl) ?_
         go_wp2_with fail
         refine ⟨(((HB4.out.setCell (p:=⟨w3.heap.size,0,none⟩) HL4.out _).setCell (p:=⟨w3.heap.size,1,none⟩) HL4.out _).setCell (p:=⟨w3.heap.size,2,none⟩) HL4.out _),?_⟩
         refine wpAnyH_end HO.out (by kernel_rfl) ?_
         refine NoPanic.normal ?_
         go_wp2_with fail
         go_meet
         exact ⟨w3.heap.size,rfl,rfl,hid (((HK4.out.set_ 0 _).set_ 1 _).set_ 2 _),hid (((HB4.out.setCell (p:=⟨w3.heap.size,0,none⟩) HL4.out _).setCell (p:=⟨w3.heap.size,1,none⟩) HL4.out _).setCell (p:=⟨w3.heap.size,2,none⟩) HL4.out _)⟩
        ·go_wp2_with fail
         refine ⟨HB1.out.alloc HB1.out.size _,?_⟩
         have HK5:Hid (Blk (w1.alloc (.cells #[.int .u16 0, .int .u8 0, .int .u8 0] 401)) w1.heap.size 401 #[.int .u16 0, .int .u8 0, .int .u8 0]):=hid (Blk.new w1 401 _)
         have HB5:=hid (HB1.out.alloc HB1.out.size (.cells #[.int .u16 0, .int .u8 0, .int .u8 0] 401))
         have HL5:Hid (wr.heap.size≤w1.heap.size):=hid HB1.out.size
         generalize w1.alloc (.cells #[.int .u16 0, .int .u8 0, .int .u8 0] 401)=W5 at *
         refine wpAnyH_one HO.out (i:=8) (by kernel_rfl) (by rfl) ?_
         go_wp2_with (go_at_call 352;refine (HSk.out _ (HB.out.trans (HB5.out.mono HB.out.size))).mono ?_;rintro e w6 ⟨rfl,hb⟩;have HB6:=hid (HB5.out.trans (hb.mono HB5.out.size));have HK6:=hid (HK5.out.below hb HK5.out.lt);clear hb)
         refine ⟨HB6.out,?_⟩
         refine wpAnyH_free HO.out (i:=9) (.tuple #[.agg #[.int .u16 (gg:Int), .int .u8 (kk:Int), .int .u8 (ss:Int)], .bool true]) (by rfl) (by kernel_rfl) (by rfl) (fun w' hS=>?_) HB6.out ?_
         ·go_simp
         simp only [Act.put,List.setIfInBounds_toArray,List.set_cons_zero,List.set_cons_succ]
         refine wpAnyH_free HO.out (i:=10) (.agg #[.int .u16 (gg:Int), .int .u8 (kk:Int), .int .u8 (ss:Int)]) (by rfl) (by kernel_rfl) (by rfl) (fun w' hS=>?_) HB6.out ?_
         ·go_simp
         simp only [Act.put,List.setIfInBounds_toArray,List.set_cons_zero,List.set_cons_succ]
         refine wpAnyH_free HO.out (i:=11) (.bool true) (by rfl) (by kernel_rfl) (by rfl) (fun w' hS=>?_) HB6.out ?_
         ·go_simp
         simp only [Act.put,List.setIfInBounds_toArray,List.set_cons_zero,List.set_cons_succ]
         have c0:w6.cell? ⟨w1.heap.size,0,none⟩=some (.int .u16 0):=HK6.out.cell 0
         have z0:w6.frozen? ⟨w1.heap.size,0,none⟩=false:=HK6.out.frozen 0
         have c1:w6.cell? ⟨w1.heap.size,1,none⟩=some (.int .u8 0):=HK6.out.cell 1
         have z1:w6.frozen? ⟨w1.heap.size,1,none⟩=false:=HK6.out.frozen 1
         have c2:w6.cell? ⟨w1.heap.size,2,none⟩=some (.int .u8 0):=HK6.out.cell 2
         have z2:w6.frozen? ⟨w1.heap.size,2,none⟩=false:=HK6.out.frozen 2
         refine wpAnyH_one HO.out (i:=13) (by kernel_rfl) (by rfl) ?_
         go_wp2_with fail
         refine ⟨(((HB6.out.setCell (p:=⟨w1.heap.size,0,none⟩) HL5.out _).setCell (p:=⟨w1.heap.size,1,none⟩) HL5.out _).setCell (p:=⟨w1.heap.size,2,none⟩) HL5.out _),?_⟩
         refine wpAnyH_one HO.out (i:=14) (by kernel_rfl) (by rfl) ?_
         go_wp2_with fail
         refine ⟨(((HB6.out.setCell (p:=⟨w1.heap.size,0,none⟩) HL5.out _).setCell (p:=⟨w1.heap.size,1,none⟩) HL5.out _).setCell (p:=⟨w1.heap.size,2,none⟩) HL5.out _),?_⟩
         refine wpAnyH_end HO.out (by kernel_rfl) ?_
         refine NoPanic.normal ?_
         go_wp2_with fail
         go_meet
         exact ⟨w1.heap.size,rfl,rfl,hid (((HK6.out.set_ 0 _).set_ 1 _).set_ 2 _),hid (((HB6.out.setCell (p:=⟨w1.heap.size,0,none⟩) HL5.out _).setCell (p:=⟨w1.heap.size,1,none⟩) HL5.out _).setCell (p:=⟨w1.heap.size,2,none⟩) HL5.out _)⟩
       ·go_wp2_with fail
        refine ⟨HB1.out.alloc HB1.out.size _,?_⟩
        have HK7:Hid (Blk (w1.alloc (.cells #[.int .u16 0, .int .u8 0, .int .u8 0] 401)) w1.heap.size 401 #[.int .u16 0, .int .u8 0, .int .u8 0]):=hid (Blk.new w1 401 _)
        have HB7:=hid (HB1.out.alloc HB1.out.size (.cells #[.int .u16 0, .int .u8 0, .int .u8 0] 401))
        have HL7:Hid (wr.heap.size≤w1.heap.size):=hid HB1.out.size
        generalize w1.alloc (.cells #[.int .u16 0, .int .u8 0, .int .u8 0] 401)=W7 at *
        refine wpAnyH_one HO.out (i:=7) (by kernel_rfl) (by rfl) ?_
        go_wp2_with (go_at_call 65;refine (HLk.out _ (HB.out.trans (HB7.out.mono HB.out.size))).mono ?_;rintro e w8 ⟨rfl,rfl⟩)
        refine ⟨HB7.out,?_⟩
        refine wpAnyH_one HO.out (i:=8) (by kernel_rfl) (by rfl) ?_
        go_wp2_with (go_at_call 352;refine (HSk.out _ (HB.out.trans (HB7.out.mono HB.out.size))).mono ?_;rintro e w9 ⟨rfl,hb⟩;have HB9:=hid (HB7.out.trans (hb.mono HB7.out.size));have HK9:=hid (HK7.out.below hb HK7.out.lt);clear hb)
        refine ⟨HB9.out,?_⟩
        refine wpAnyH_free HO.out (i:=9) (.tuple #[.agg #[.int .u16 (gg:Int), .int .u8 (kk:Int), .int .u8 (ss:Int)], .bool true]) (by rfl) (by kernel_rfl) (by rfl) (fun w' hS=>?_) HB9.out ?_
        ·go_simp
        simp only [Act.put,List.setIfInBounds_toArray,List.set_cons_zero,List.set_cons_succ]
        refine wpAnyH_free HO.out (i:=10) (.agg #[.int .u16 (gg:Int), .int .u8 (kk:Int), .int .u8 (ss:Int)]) (by rfl) (by kernel_rfl) (by rfl) (fun w' hS=>?_) HB9.out ?_
        ·go_simp
        simp only [Act.put,List.setIfInBounds_toArray,List.set_cons_zero,List.set_cons_succ]
        refine wpAnyH_free HO.out (i:=11) (.bool true) (by rfl) (by kernel_rfl) (by rfl) (fun w' hS=>?_) HB9.out ?_
        ·go_simp
        simp only [Act.put,List.setIfInBounds_toArray,List.set_cons_zero,List.set_cons_succ]
        have c0:w9.cell? ⟨w1.heap.size,0,none⟩=some (.int .u16 0):=HK9.out.cell 0
        have z0:w9.frozen? ⟨w1.heap.size,0,none⟩=false:=HK9.out.frozen 0
        have c1:w9.cell? ⟨w1.heap.size,1,none⟩=some (.int .u8 0):=HK9.out.cell 1
        have z1:w9.frozen? ⟨w1.heap.size,1,none⟩=false:=HK9.out.frozen 1
        have c2:w9.cell? ⟨w1.heap.size,2,none⟩=some (.int .u8 0):=HK9.out.cell 2
        have z2:w9.frozen? ⟨w1.heap.size,2,none⟩=false:=HK9.out.frozen 2
        refine wpAnyH_one HO.out (i:=13) (by kernel_rfl) (by rfl) ?_
        go_wp2_with fail
        refine ⟨(((HB9.out.setCell (p:=⟨w1.heap.size,0,none⟩) HL7.out _).setCell (p:=⟨w1.heap.size,1,none⟩) HL7.out _).setCell (p:=⟨w1.heap.size,2,none⟩) HL7.out _),?_⟩
        refine wpAnyH_one HO.out (i:=14) (by kernel_rfl) (by rfl) ?_
        go_wp2_with fail
        refine ⟨(((HB9.out.setCell (p:=⟨w1.heap.size,0,none⟩) HL7.out _).setCell (p:=⟨w1.heap.size,1,none⟩) HL7.out _).setCell (p:=⟨w1.heap.size,2,none⟩) HL7.out _),?_⟩
        refine wpAnyH_end HO.out (by kernel_rfl) ?_
        refine NoPanic.normal ?_
        go_wp2_with fail
        go_meet
        exact ⟨w1.heap.size,rfl,rfl,hid (((HK9.out.set_ 0 _).set_ 1 _).set_ 2 _),hid (((HB9.out.setCell (p:=⟨w1.heap.size,0,none⟩) HL7.out _).setCell (p:=⟨w1.heap.size,1,none⟩) HL7.out _).setCell (p:=⟨w1.heap.size,2,none⟩) HL7.out _)⟩
      ·go_wp2_with fail
       refine ⟨((Below.refl _ wr).alloc (Nat.le_refl _) _).drew,?_⟩
       have HK10:Hid (Blk (wr.alloc (.cells #[.int .u16 0, .int .u8 0, .int .u8 0] 401)).drew wr.heap.size 401 #[.int .u16 0, .int .u8 0, .int .u8 0]):=hid (Blk.new wr 401 _).drew
       have HB10:Hid (Below wr.heap.size wr (wr.alloc (.cells #[.int .u16 0, .int .u8 0, .int .u8 0] 401)).drew):=hid ((Below.refl _ wr).alloc (Nat.le_refl _) _).drew
       have HL10:Hid (wr.heap.size≤wr.heap.size):=hid (Nat.le_refl _)
       generalize (wr.alloc (.cells #[.int .u16 0, .int .u8 0, .int .u8 0] 401)).drew=W10 at *
       refine wpAnyH_one HO.out (i:=4) (by kernel_rfl) (by rfl) ?_
       go_wp2_with (go_at_call 301;refine (HAk.out _ (HB.out.trans (HB10.out.mono HB.out.size))).mono ?_;rintro e w11 ⟨rfl,hb⟩;have HB11:=hid (HB10.out.trans (hb.mono HB10.out.size));have HK11:=hid (HK10.out.below hb HK10.out.lt);clear hb)
       refine ⟨HB11.out,?_⟩
       refine wpAnyH_one HO.out (i:=7) (by kernel_rfl) (by rfl) ?_
       go_wp2_with (go_at_call 65;refine (HLk.out _ (HB.out.trans (HB11.out.mono HB.out.size))).mono ?_;rintro e w12 ⟨rfl,rfl⟩)
       refine ⟨HB11.out,?_⟩
       refine wpAnyH_one HO.out (i:=8) (by kernel_rfl) (by rfl) ?_
       go_wp2_with (go_at_call 352;refine (HSk.out _ (HB.out.trans (HB11.out.mono HB.out.size))).mono ?_;rintro e w13 ⟨rfl,hb⟩;have HB13:=hid (HB11.out.trans (hb.mono HB11.out.size));have HK13:=hid (HK11.out.below hb HK11.out.lt);clear hb)
       refine ⟨HB13.out,?_⟩
       refine wpAnyH_free HO.out (i:=9) (.tuple #[.agg #[.int .u16 (gg:Int), .int .u8 (kk:Int), .int .u8 (ss:Int)], .bool true]) (by rfl) (by kernel_rfl) (by rfl) (fun w' hS=>?_) HB13.out ?_
       ·go_simp
       simp only [Act.put,List.setIfInBounds_toArray,List.set_cons_zero,List.set_cons_succ]
       refine wpAnyH_free HO.out (i:=10) (.agg #[.int .u16 (gg:Int), .int .u8 (kk:Int), .int .u8 (ss:Int)]) (by rfl) (by kernel_rfl) (by rfl) (fun w' hS=>?_) HB13.out ?_
       ·go_simp
       simp only [Act.put,List.setIfInBounds_toArray,List.set_cons_zero,List.set_cons_succ]
       refine wpAnyH_free HO.out (i:=11) (.bool true) (by rfl) (by kernel_rfl) (by rfl) (fun w' hS=>?_) HB13.out ?_
       ·go_simp
       simp only [Act.put,List.setIfInBounds_toArray,List.set_cons_zero,List.set_cons_succ]
       have c0:w13.cell? ⟨wr.heap.size,0,none⟩=some (.int .u16 0):=HK13.out.cell 0
       have z0:w13.frozen? ⟨wr.heap.size,0,none⟩=false:=HK13.out.frozen 0
       have c1:w13.cell? ⟨wr.heap.size,1,none⟩=some (.int .u8 0):=HK13.out.cell 1
       have z1:w13.frozen? ⟨wr.heap.size,1,none⟩=false:=HK13.out.frozen 1
       have c2:w13.cell? ⟨wr.heap.size,2,none⟩=some (.int .u8 0):=HK13.out.cell 2
       have z2:w13.frozen? ⟨wr.heap.size,2,none⟩=false:=HK13.out.frozen 2
       refine wpAnyH_one HO.out (i:=13) (by kernel_rfl) (by rfl) ?_
       go_wp2_with fail
       refine ⟨(((HB13.out.setCell (p:=⟨wr.heap.size,0,none⟩) HL10.out _).setCell (p:=⟨wr.heap.size,1,none⟩) HL10.out _).setCell (p:=⟨wr.heap.size,2,none⟩) HL10.out _),?_⟩
       refine wpAnyH_one HO.out (i:=14) (by kernel_rfl) (by rfl) ?_
       go_wp2_with fail
       refine ⟨(((HB13.out.setCell (p:=⟨wr.heap.size,0,none⟩) HL10.out _).setCell (p:=⟨wr.heap.size,1,none⟩) HL10.out _).setCell (p:=⟨wr.heap.size,2,none⟩) HL10.out _),?_⟩
       refine wpAnyH_end HO.out (by kernel_rfl) ?_
       refine NoPanic.normal ?_
       go_wp2_with fail
       go_meet
       exact ⟨wr.heap.size,rfl,rfl,hid (((HK13.out.set_ 0 _).set_ 1 _).set_ 2 _),hid (((HB13.out.setCell (p:=⟨wr.heap.size,0,none⟩) HL10.out _).setCell (p:=⟨wr.heap.size,1,none⟩) HL10.out _).setCell (p:=⟨wr.heap.size,2,none⟩) HL10.out _)⟩
     case rest =>
      obtain ⟨b,rfl,rfl,HKb,HBb⟩:=hcut
      have kb:=HKb.out
      have b0:wc.cell? ⟨b,0,none⟩=some (.int .u16 (gg:Int)):=kb.cell 0
      have b1:wc.cell? ⟨b,1,none⟩=some (.int .u8 (kk:Int)):=kb.cell 1
      have b2:wc.cell? ⟨b,2,none⟩=some (.int .u8 (ss:Int)):=kb.cell 2
      clear kb f0 f1 f2 f3 f4
      go_wp2_with (first
       | (go_at_call 299;refine (HGk.out _).mono ?_;rintro e w9 ⟨rfl,hb9⟩;have HB9:=hid (HBb.out.trans (hb9.mono HBb.out.size));have b29:w9.cell? ⟨b,2,none⟩=some (.int .u8 (ss:Int)):=(HKb.out.below hb9 HKb.out.lt).cell 2;clear hb9;refine stop ?_)
       | fail)
      unfold Stop
      have HBn:=hid (HB.out.trans (HB9.out.mono HB.out.size))
      have HKn:=hid (HK.out.below HB9.out HK.out.lt)
      clear b0 b1 b2
      by_cases hs:ss=176
      ·subst hs
       have HT2:Hid (tkV bs (k+1)=tkV bs k):=hid (by rw [HT.out,if_pos rfl])
       clear HT u3
       go_wp2_with fail
       go_roundw
       case rel =>
        first
         | exact ⟨k+1,by omega,by rw [HT2.out],by go_num,HBn,HKn⟩
         | (
           repeat apply Exists.intro
           refine ⟨?_,rfl⟩
           exact ⟨k+1,by omega,by rw [HT2.out],by go_num,HBn,HKn⟩)
       case measure=>simp [Go.RowKit.intOf];omega
      ·have HT2:Hid (tkV bs (k+1)=tkV bs k ||| 2 ^ k):=hid (by rw [HT.out,if_neg hs])
       have ds:((ss:Int) != 176)=true:=by rw [bne,beq_eq_false_iff_ne.2 (by omega)];rfl
       have HU3:=hid u3
       clear HT hs u3
       generalize 2 ^ k=pk at *
       go_wp2_with fail
       go_roundw
       case rel =>
        first
         | exact ⟨k+1,by omega,by rw [HT2.out,← HU3.out],by go_num,HBn,HKn⟩
         | (
           repeat apply Exists.intro
           refine ⟨?_,rfl⟩
           exact ⟨k+1,by omega,by rw [HT2.out,← HU3.out],by go_num,HBn,HKn⟩)
       case measure=>simp [Go.RowKit.intOf];omega
    ·obtain rfl:n=k:=by omega
     have HBt:=hid (HBi.out wr HB.out)
     have hV:tkV bs n=V:=HTk.out
     rw [hV]
     have dV:((V:Int) == (V:Int))=true:=beq_self_eq_true _
     clear hV HBi
     go_wp2_with (go_at_call 351;refine HBt.out.mono ?_;rintro e w9 ⟨rfl,hb9⟩;have HB9:=hid (HB.out.trans (hb9.mono HB.out.size));clear hb9)
     go_ret
     exact ⟨rfl,HB9.out⟩
theorem chCheck_any (h:Dev a L T w S cur F) (ht:Tab w) (hp:Pay w) {ln cl g V:Nat} {bs:Nat→BK} (hC:ChW cur ln cl g V bs) (hl:ln+32≤L) :
  Calls Tryz.prog 290 #[chV a ln cl 0 g] w fun e w'=>e = .returned (.int .i64 0)∧Below w.heap.size w w':=by
 have HE:=hid (fun (W:World) (hW:Below w.heap.size w W)=>thErr (h.below hW))
 have HCo:=hid (fun (W:World) (hW:Below w.heap.size w W)=>consistent_any (h.below hW) (ht.below hW) (hp.below hW) ln cl g V bs hl hC)
 have hm:=methErr (some ⟨a.th 0,0,none⟩)
 have hnil:∀ W,(binOp .eql 188 (.iface 58 (.pointer (some ⟨a.th 0,0,none⟩))) .nilIface).run Tryz.prog W = .ok (.bool false) W:=fun W=>by rfl
 have hb0:Below w.heap.size w (w.alloc (.cells (chCells a ln cl g) 306)):=(Below.refl _ _).alloc (Nat.le_refl _) _
 have HB0:=hid hb0
 have HE0:=hid (HE.out _ hb0)
 have HC0:=hid (HCo.out _ hb0)
 have HK:=hid (Blk.new w 306 (chCells a ln cl g))
 clear h ht hp hC hb0
 unfold chV at *
 unfold chCells memV at *
 go_enter Tryz.func290,Tryz.ntmps290
 go_upto_region 1 with fail
 generalize w.alloc (.cells #[.iface 58 (.pointer (some ⟨a.th 0,0,none⟩)), .int .i64 (ln:Int), .int .i64 (cl:Int), .int .i64 0, .int .u16 (g:Int)] 306)=W0 at *
 have f0:W0.cell? ⟨w.heap.size,0,none⟩=some (.iface 58 (.pointer (some ⟨a.th 0,0,none⟩))):=HK.out.cell 0
 have f1:W0.cell? ⟨w.heap.size,1,none⟩=some (.int .i64 (ln:Int)):=HK.out.cell 1
 have f2:W0.cell? ⟨w.heap.size,2,none⟩=some (.int .i64 (cl:Int)):=HK.out.cell 2
 have f3:W0.cell? ⟨w.heap.size,3,none⟩=some (.int .i64 0):=HK.out.cell 3
 have f4:W0.cell? ⟨w.heap.size,4,none⟩=some (.int .u16 (g:Int)):=HK.out.cell 4
 go_wp2_with (first
  | (go_at_call 344;refine HC0.out.mono ?_;rintro e w5 ⟨rfl,hb5⟩;have HB5:=hid (HB0.out.trans (hb5.mono HB0.out.size));have HE5:=hid (HE.out _ HB5.out);have k0:w5.cell? ⟨w.heap.size,0,none⟩=some (.iface 58 (.pointer (some ⟨a.th 0,0,none⟩))):=(HK.out.below hb5 HK.out.lt).cell 0;clear hb5 f0 f1 f2 f3 f4)
  | (go_at_call 112;refine HE5.out.mono ?_;rintro e w6 ⟨rfl,rfl⟩)
  | (go_at_call 112;refine HE0.out.mono ?_;rintro e w6 ⟨rfl,rfl⟩)
  | go_in)
 go_ret
 exact ⟨rfl,HB5.out⟩
end
end
section
open Go.RowKit Go.Maps
theorem setG_plc {a:DA} {s K base g:Nat} {cs:Nat→CS} {w:World} (h:SetIsG a s cs K w base g) (h1:1≤K):∃ pl,base≤pl∧Plc a s K ⟨g,pl,0⟩ cs w:=by
 obtain ⟨A,m,c,hB,hm,ho⟩:=h
 subst hm
 rcases ho.2 with ⟨_,h0⟩ | ⟨pl,cap,cur,hv,hge,hb,h2,h3,h4,h5⟩
 ·omega
 ·injection hv with e1 e2 e3
  subst e1 e3
  refine ⟨pl,hge,⟨_,hB⟩,cur,hb,fun k hk=>?_⟩
  obtain ⟨p0,p1,p2,p3⟩:=plCellsG_at s cs m k hk
  have hg:∀ (j:Nat) (u:Value),(plCellsG s cs m)[j]?=some u→cur[0+j]?=some u:=fun j u hu=>by
   rw [← h5] at hu
   rw [Nat.zero_add,← Array.getElem?_toList]
   have hj:=(List.getElem?_eq_some_iff.1 hu).1
   rw [List.length_take] at hj
   rw [List.getElem?_take_of_lt (by omega)] at hu
   exact hu
  refine ⟨hg _ _ p0,?_,?_,false,?_⟩
  ·rw [Nat.add_assoc];exact hg _ _ p1
  ·rw [Nat.add_assoc];exact hg _ _ p2
  ·rw [Nat.add_assoc];exact hg _ _ p3
theorem lns_at {w:World} {B n s K:Nat} {A:Option Addr} (h:Reads w B 1 A n (iCells ((List.range K).map fun k=>((s+32 * k:Nat):Int)))) {k:Nat} (hk:k < n) :
  ∃ (b off:Nat),A=some ⟨b,off,none⟩∧b < B∧w.cell? ⟨b,off+k,none⟩=some (.int .i64 ((s+32 * k:Nat):Int)):=by
 have hl:k < K:=by have:=h.1;simp [iCells] at this;omega
 obtain ⟨b,off,hA,hb,hc⟩:=h.plain (by omega) (by omega)
 exact ⟨b,off,hA,hb,hc k _ (by simp [iCells,hl])⟩
def RetHog (a:DA) (s n K:Nat) (cs:Nat→CS) (w:World) (e:Ending) (w':World):Prop:=∃ x:HA,e = .returned (.tuple #[.pointer (some ⟨x.h,0,none⟩), .int .i64 0])∧HS a s n K x cs (fun _=>none) 0 0 w'∧(w.heap.size≤x.h∧w.heap.size≤x.gs∧w.heap.size≤x.pl∧w.heap.size≤x.mr∧w.heap.size≤x.mh)∧Below w.heap.size w w'
theorem heapOpenG_any {a:DA} {L T:Nat} {w:World} {S:Fp} {cur:Nat→Nat} {F:Nat} (cs:Nat→CS) (h:Dev a L T w S cur F) (ht:Tab w) (hp:Pay w) (s n K:Nat) (hn:32≤n) (hs:s+n≤L) (hK:n / 32=K) (hv:∀ k,k < K→CSok cur (s+32 * k) (cs k)) :
  Calls Tryz.prog 181 #[memV a, .int .i64 (s:Int), .int .i64 (n:Int)] w (RetHog a s n K cs w):=by
 have HA:=hid (arenaOpenG_any cs h ht hp s n K hn hs hK hv)
 have hL:L≤4096:=by obtain ⟨ls,exe,per,cs,lsC,hdc,hnt⟩:=h;exact hdc.hL
 have hmm1:∀ W,(Instr.makeMap 190 none).run Tryz.prog W = .ok (.map (some W.heap.size)) (W.alloc (.map #[] 0)):=fun _=>rfl
 have hmm2:∀ W,(Instr.makeMap 191 none).run Tryz.prog W = .ok (.map (some W.heap.size)) (W.alloc (.map #[] 0)):=fun _=>rfl
 have hK2:K≤128:=by omega
 have hK1:1≤K:=by omega
 have hs9:s≤100000:=by omega
 have HCh:Hid (∀ k,k < K→(cs k).dv=true→∀ W,Below w.heap.size w W→Calls Tryz.prog 195 #[memV a, .int .i64 ((s+32 * k:Nat):Int)] W fun e w'=>e = .returned (.tuple #[chV a (s+32 * k) (cs k).cl 0 (cs k).g, .int .i64 0])∧Below W.heap.size W w'):=hid (fun k hk hd W hW=>by
  have hc:=hv k hk
  unfold CSok at hc
  rw [if_pos hd] at hc
  exact chOpen_cls (h.below hW) (ht.below hW) (hp.below hW) (s+32 * k) _ _ (by omega) hc.cls hc.g0 hc.g1 hc.hdr)
 have HCk:Hid (∀ k,k < K→(cs k).dv=true→∀ W,Below w.heap.size w W→Calls Tryz.prog 290 #[chV a (s+32 * k) (cs k).cl 0 (cs k).g] W fun e w'=>e = .returned (.int .i64 0)∧Below W.heap.size W w'):=hid (fun k hk hd W hW=>by
  have hc:=hv k hk
  unfold CSok at hc
  rw [if_pos hd] at hc
  exact chCheck_any (h.below hW) (ht.below hW) (hp.below hW) hc (by omega))
 clear h ht hp hv hK hn hs
 unfold memV at HA HCh
 unfold memV
 go_enter Tryz.func181,Tryz.ntmps181
 go_wp2_with (first
  | (go_at_call 288;refine HA.out.mono ?_;rintro e w1 ⟨rfl,hset,hb1⟩;obtain ⟨pl,hpl,hplc⟩:=setG_plc hset hK1;have HS1:=hid hplc;have HPl:=hid hpl;have HB1:=hid hb1;have HL:=hid (linesP_any HS1.out hK2 hs9);clear hset hb1 hpl hplc)
  | (go_at_call 197;refine HL.out.mono ?_;rintro e w2 ⟨A,m,c,rfl,ho,hb2⟩;have hmK:m=K:=(by have h1:=ho.1;rw [iCells_len] at h1;simp at h1;omega);have HO:=hid (Reads.of_own ho);have HS2:=hid (HS1.out.below hb2);have HB2:=hid (HB1.out.trans (hb2.mono HB1.out.size));clear ho hb2)
  | go_in)
 clear HA HL HS1 HB1
 subst hmK
 go_loopw [28] (fun i wr=>∃ (k:Nat),k≤m∧i = .int .i64 k∧Hid (Below w2.heap.size w2 wr)) (fun i _=>m - (Go.RowKit.intOf i).toNat)
 case atStart=>exact ⟨0,Nat.zero_le _,rfl,hid (Below.refl _ _)⟩
 case round =>
  obtain ⟨k,hk,rfl,HR⟩:=hrel
  by_cases hlt:k < m
  ·obtain ⟨b,off,hA,hbB,f0⟩:=lns_at (HO.out.below HR.out) hlt
   subst hA
   have HOw:=hid (ownerP_any (HS2.out.below HR.out) hK2 hs9 hlt)
   have HCk1:=hid (HCk.out k hlt)
   have HCh1:=hid (HCh.out k hlt)
   obtain ⟨ln,hln⟩:∃ ln,s+32 * k=ln:=⟨_,rfl⟩
   rw [hln] at f0 HOw HCk1 HCh1
   have hz5:(0:Int)≤(k:Int):=by omega
   have hz6:(k:Int) < (m:Int):=by omega
   clear hln hbB
   by_cases hd:(cs k).dv=true
   ·have ho:(cs k).own=0:=by unfold CS.own;rw [if_pos hd]
    rw [ho] at HOw
    have HC1:=hid (HCh1.out hd wr (HB2.out.trans (HR.out.mono HB2.out.size)))
    have HC2:=hid (HCk1.out hd)
    generalize (cs k).cl=ccl at *
    generalize (cs k).g=cg at *
    unfold chV memV at HC1 HC2
    clear hd ho HCk1 HCh1
    go_wp2_with (first
     | (go_at_call 289;refine HOw.out.mono ?_;rintro e w3 ⟨rfl,rfl⟩)
     | (go_at_call 195;refine HC1.out.mono ?_;rintro e w3 ⟨rfl,hb3⟩;have HB3:=hid (HR.out.trans (hb3.mono HR.out.size));clear hb3)
     | fail)
    have HB4:=hid (HB3.out.alloc HB3.out.size (.cells #[.iface 58 (.pointer (some ⟨a.th 0,0,none⟩)), .int .i64 (ln:Int), .int .i64 (ccl:Int), .int .i64 0, .int .u16 (cg:Int)] 306))
    have HC3:=hid (HC2.out _ (HB2.out.trans (HB4.out.mono HB2.out.size)))
    go_wp2_with (first
     | (go_at_call 290;refine HC3.out.mono ?_;rintro e w5 ⟨rfl,hb5⟩;have HB5:=hid (HB4.out.trans (hb5.mono HB4.out.size));clear hb5)
     | fail)
    go_roundw
    case rel =>
     first
      | exact ⟨k+1,by omega,by go_num,HB5⟩
      | (
        repeat apply Exists.intro
        refine ⟨?_,rfl⟩
        exact ⟨k+1,by omega,by go_num,HB5⟩)
    case measure=>simp [Go.RowKit.intOf];omega
   ·have ho:(cs k).own = -1:=by unfold CS.own;rw [if_neg hd]
    rw [ho] at HOw
    clear hd ho HCk1 HCh1
    go_wp2_with (first
     | (go_at_call 289;refine HOw.out.mono ?_;rintro e w3 ⟨rfl,rfl⟩)
     | fail)
    go_roundw
    case rel =>
     first
      | exact ⟨k+1,by omega,by go_num,HR⟩
      | (
        repeat apply Exists.intro
        refine ⟨?_,rfl⟩
        exact ⟨k+1,by omega,by go_num,HR⟩)
    case measure=>simp [Go.RowKit.intOf];omega
  ·obtain rfl:m=k:=by omega
   go_wp2
   go_ret2
   have HB2:=hid (HB2.out.trans (HR.out.mono HB2.out.size))
   have HS2:=hid (HS2.out.below HR.out)
   clear HR HO HCh HCk
   have e9:((wr.alloc (.map #[] 0)).alloc (.map #[] 0)).heap.size=wr.heap.size+1+1:=by simp
   have hb2:Below w.heap.size w ((wr.alloc (.map #[] 0)).alloc (.map #[] 0)):=(HB2.out.alloc HB2.out.size _).alloc (by have:=HB2.out.size;simp;omega) _
   have hplc:=HS2.out
   have hpl:=HPl.out
   have hsz:=HB2.out.size
   have hb3:∀ V,Below wr.heap.size wr (((wr.alloc (.map #[] 0)).alloc (.map #[] 0)).alloc V):=fun V=>(((Below.refl _ wr).alloc (Nat.le_refl _) _).alloc (by simp) _).alloc (by simp;omega) _
   have hm1:PMap ((wr.alloc (.map #[] 0)).alloc (.map #[] 0)) wr.heap.size 0 (fun _=>none) 0:=(PMap.new wr).chg ((Chg.refl Fp.no _).alloc _) (fun h=>h)
   have hm2:=HMap.new (wr.alloc (.map #[] 0))
   refine ⟨⟨wr.heap.size+1+1,w.heap.size,pl,0,wr.heap.size,wr.heap.size+1⟩,rfl,⟨by rw [← e9];exact Blk.new _ _ _,hplc.below (hb3 _),hm1.chg ((Chg.refl Fp.no _).alloc _) (fun h=>h),?_,?_⟩,⟨?_,Nat.le_refl _,?_,?_,?_⟩,hb2.alloc (by rw [e9];omega) _⟩
   ·have:=hm2.chg ((Chg.refl Fp.no _).alloc (.cells (heapCells a s n w.heap.size wr.heap.size (wr.heap.size+1) false) 194)) (fun h=>h)
    have e8:(wr.alloc (.map #[] 0)).heap.size=wr.heap.size+1:=by simp
    rw [e8] at this
    exact this
   ·show wr.heap.size≠wr.heap.size+1
    omega
   ·show w.heap.size≤wr.heap.size+1+1
    omega
   ·show w.heap.size≤pl
    omega
   ·exact hsz
   ·show w.heap.size≤wr.heap.size+1
    omega
end
end Go.Proofs.YtfkjjoglnmeciaaGreatDoor
