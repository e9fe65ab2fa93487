/- The walks and laws that the claim leans on, part 25. -/
import Derived.Test.YtfkjjoglnmeciaaGreatDoorQaq
import Derived.Test.YtfkjjoglnmeciaaGreatDoorQaw
import Derived.Lib.QuoteBits
import Derived.Deep.Onto
import Derived.Laws.CopyOwn
set_option maxRecDepth 100000
set_option maxHeartbeats 16000000
namespace Go.Proofs.YtfkjjoglnmeciaaGreatDoor
open Go.Lib (hid)
section
open Go.RowKit
theorem hd_or (c g:Nat) (hc:c < 5) (hg:g < 65536):bits .or .u32 ((3305111552+g:Nat):Int) (((c+1) * 65536+1048576:Nat):Int)=(hdX c g:Int):=by
 rw [u32_or_nat _ _ oM oM];congr 1
 have e1:3305111552+g=3305111552 ||| g:=Nat.two_pow_add_eq_or_of_lt (i:=16) (b:=g) oM 50432
 have e2:3305111552 ||| ((c+1) * 65536+1048576)=2 ^ 16 * (50432+(c+1)+16):=by
  have hc5:c=0∨c=1∨c=2∨c=3∨c=4:=oM;rcases hc5 with rfl | rfl | rfl | rfl | rfl <;> decide
 rw [e1,Nat.or_assoc,Nat.or_comm g,← Nat.or_assoc,e2,← Nat.two_pow_add_eq_or_of_lt oM];unfold hdX;omega
theorem hd_or2 (c:Nat) (hc:c < 5):bits .or .u32 (((c:Int)+1) * 65536) 1048576=(((c+1) * 65536+1048576:Nat):Int):=by
 have hc5:c=0∨c=1∨c=2∨c=3∨c=4:=oM;rcases hc5 with rfl | rfl | rfl | rfl | rfl <;> decide
section
theorem wordCls_any (c g:Nat) (hc:c < 5) (hg:g < 65536) (w:World) (ht:Tab w) :
  Calls Tryz.prog 340 #[.agg #[.int .i64 (c:Int), .int .i64 0, .int .u16 (g:Int)]] w fun e w'=>e = .returned (.int .u64 (hdrW c g:Int))∧Below w.heap.size w w':=by
 have HB0:Hid (∀ x,Below w.heap.size w (w.alloc x)):=fun x=>(Below.refl _ _).alloc (nL _) x
 have HS:=hid (fun x=>seal_any (hdX c g) (by unfold hdX;omega) (w.alloc x) (ht.below (HB0.out x)));have e1:=own_or g hg;have e2:=hd_or c g hc hg;have e3:=hd_or2 c hc;have u1:IntKind.u32.wrap (g:Int)=(g:Int):=by rw [IntKind.wrap_u32'];omega
 have u2:IntKind.u32.wrap ((c:Int)+1)=(c:Int)+1:=by rw [IntKind.wrap_u32'];omega
 have u3:IntKind.u32.wrap (((c:Int)+1) * 65536)=((c:Int)+1) * 65536:=by rw [IntKind.wrap_u32'];omega
 have d1:decide ((0:Int)≤(c:Int))=true:=dT;unfold hdrW;generalize hdX c g=z at *;generalize ((c+1) * 65536+1048576)=y at *;generalize 3305111552+g=q at *;clear ht;go_enter Tryz.func340,Tryz.ntmps340
 go_wp2_with (go_at_call 374;refine (HS.out _).mono ?_;rintro e w1 ⟨rfl,hb1⟩;have HB1:=hid ((HB0.out _).trans (hb1.mono (by simp)));clear hb1)
 go_ret;exact ⟨rfl,HB1.out⟩
def IsFmt (ln cl g:Nat) (p:List Ins):Prop:=∃ p1 p2,p=p1++p2∧IsStores (fmtW ln cl g) p1∧IsStores [(64 * ln,hdrW cl g)] p2
theorem stores_len {ws:List (Nat × Nat)} {p:List Ins} (h:IsStores ws p):p.length≤2 * ws.length+1:=by
 obtain ⟨fs,rfl,hl,_⟩:=h;simp;omega
theorem chPlan_any (ln cl g:Nat) (hl:ln≤4064) (hc:cl < 5) (h0:0 < g) (hg:g < 65536) (w:World) (ht:Tab w) (hp:Pay w) :
  Calls Tryz.prog 379 #[.int .i64 (ln:Int), .agg #[.int .i64 (cl:Int), .int .i64 0, .int .u16 (g:Int)]] w (RetProgOk w (IsFmt ln cl g)):=by
 have HT:=hid ht;have HPy:=hid hp;obtain ⟨i0,hi0,hz0,hz1,hz2⟩:=info_parts infoWrite;have HB0:Hid (Below w.heap.size w (w.alloc (.cells #[.int .i64 (cl:Int), .int .i64 0, .int .u16 (g:Int)] 304))):=(Below.refl _ _).alloc (nL _) _;have HK0:=hid (Blk.new w 304 #[.int .i64 (cl:Int), .int .i64 0, .int .u16 (g:Int)]);generalize hW:w.alloc (.cells #[.int .i64 (cl:Int), .int .i64 0, .int .u16 (g:Int)] 304)=W at *;have HWe:=hid hW.symm;clear hW;have HTW:=hid (ht.below HB0.out);have HPW:=hid (hp.below HB0.out);have HF:=hid (formatted_any cl g hc W HPW.out);have HBw:Hid (∀ V,Below W.heap.size W V→Calls Tryz.prog 360 #[.agg #[.int .u16 (g:Int), .int .u8 0, .int .u8 176]] V fun e w'=>e = .returned (.int .u64 (BK.w ⟨g,0,176⟩:Int))∧Below V.heap.size V w'):=hid (fun V hV=>bkWord_any ⟨g,0,176⟩ ⟨hg,by show (0:Nat) < 256;omega,by show (176:Nat) < 256;omega⟩ V (HTW.out.below hV));have HPC:Hid (∀ V,Below W.heap.size W V→Calls Tryz.prog 207 #[.int .i64 (cl:Int)] V fun e w'=>e = .returned (.int .i64 (perC cl:Int))∧V=w'):=hid (fun V hV=>perChunk_any cl hc V (HPW.out.below hV));have HOf:Hid (∀ k,k < perC cl→∀ V,Below W.heap.size W V→Calls Tryz.prog 354 #[.int .i64 (cl:Int), .int .i64 (k:Int)] V fun e w'=>e = .returned (.tuple #[.int .i64 (offB cl k:Int), .int .i64 0])∧V=w'):=hid (fun k hk V hV=>offset_any cl k hc hk V (HPW.out.below hV));have HSt:=hid (start_any ln oM)
 have HWd:Hid (∀ V,Below W.heap.size W V→Calls Tryz.prog 340 #[.agg #[.int .i64 (cl:Int), .int .i64 0, .int .u16 (g:Int)]] V fun e w'=>e = .returned (.int .u64 (hdrW cl g:Int))∧Below V.heap.size V w'):=hid (fun V hV=>wordCls_any cl g hc hg V (HTW.out.below hV));have HOl:Hid (∀ k,k < perC cl→offB cl k < 256):=hid (fun k hk=>by have:=off_lt hk;have:=pay_le cl;omega);have hper:=per_le cl;have HBs:=hid (fun k=>fmtB_succ ln cl g k);have HZs:=hid (fun k=>fmtZ_succ ln k);have d1:decide ((0:Int)≤(ln:Int))=true:=dT;have d2:decide ((ln:Int)≤4064)=true:=dT;have d3:((g:Int) == 0)=false:=by rw [beq_eq_false_iff_ne];omega
 clear ht hp hc h0 hg;generalize hz:64 * ln=z at *;have hz4:z≤260096:=oM;have HZ:=hid hz;clear hz hl;go_enter Tryz.func379,Tryz.ntmps379
 go_wp2_with fail
 rw [← HWe.out];have c0:W.cell? ⟨w.heap.size,0,none⟩=some (.int .i64 (cl:Int)):=HK0.out.cell 0;have c1:W.cell? ⟨w.heap.size,1,none⟩=some (.int .i64 0):=HK0.out.cell 1;have c2:W.cell? ⟨w.heap.size,2,none⟩=some (.int .u16 (g:Int)):=HK0.out.cell 2;go_wp2_with (first
  | (go_at_call 381;refine HF.out.mono ?_;rintro e w1 ⟨rfl,hb1⟩;have HB1:=hid hb1;have k1:=HK0.out.below hb1 HK0.out.lt;have c0':w1.cell? ⟨w.heap.size,0,none⟩=some (.int .i64 (cl:Int)):=k1.cell 0;have c1':w1.cell? ⟨w.heap.size,1,none⟩=some (.int .i64 0):=k1.cell 1;have c2':w1.cell? ⟨w.heap.size,2,none⟩=some (.int .u16 (g:Int)):=k1.cell 2;clear hb1 k1 c0 c1 c2)
  | (go_at_call 360;refine (HBw.out _ HB1.out).mono ?_;rintro e w2 ⟨rfl,hb2⟩;have HB2:=hid (HB1.out.trans (hb2.mono HB1.out.size));have k1:=HK0.out.below HB2.out HK0.out.lt;have c0:w2.cell? ⟨w.heap.size,0,none⟩=some (.int .i64 (cl:Int)):=k1.cell 0;clear hb2 k1 c0' c1' c2')
  | (go_at_call 207;refine (HPC.out _ HB2.out).mono ?_;rintro e w3 ⟨rfl,rfl⟩)
  | go_in)
 clear c0;have HL2:Hid (W.heap.size≤w2.heap.size):=hid HB2.out.size;have HO0:Hid (w2.ownsRow W.heap.size 114 2 (.slice none 0 0) 0 (wrCells (fmtB ln cl g 0))):=World.ownsRow_nil _ _ _ _;generalize BK.w ⟨g,0,176⟩=bw at *;go_loopw [6,33] (fun v i wr=>∃ (k:Nat) (A1:Option Addr) (m1 c1:Nat),k≤perC cl∧i = .int .i64 k∧v = .slice A1 m1 c1∧m1=k∧Hid (wr.ownsRow W.heap.size 114 2 (.slice A1 m1 c1) m1 (wrCells (fmtB ln cl g k)))∧Hid (Below W.heap.size W wr)) (fun _ i _=>perC cl - (RowKit.intOf i).toNat)
 case atStart=>exact ⟨0,_,_,_,Nat.zero_le _,rfl,rfl,rfl,HO0,HB2⟩
 case round =>
  clear HO0 HB2;obtain ⟨k,A1,m1,c1,hk,rfl,rfl,hm1',HO,H⟩:=hrel;by_cases hlt:k < perC cl
  ·have hz5:(0:Int)≤(k:Int):=oM
   have hz6:(k:Int) < (perC cl:Int):=oM;have hm2:m1≤62:=oM;have HM:=hid hm1';have HOk:=hid (HOf.out k hlt wr H.out);have hol:=HOl.out k hlt;have c0:wr.cell? ⟨w.heap.size,0,none⟩=some (.int .i64 (cl:Int)):=(HK0.out.below H.out HK0.out.lt).cell 0;have HEQ:Hid (wrCells (fmtB ln cl g k)++[.int .u64 ((z+8 * offB cl k:Nat):Int), .int .u64 (bw:Int)]=wrCells (fmtB ln cl g (k+1))):=hid (by rw [HBs.out];simp [wrCells]);generalize offB cl k=ob at *;have u1:IntKind.u64.wrap (ob:Int)=(ob:Int):=by rw [IntKind.wrap_u64];omega
   have u2:IntKind.u64.wrap ((ob:Int) * 8)=(ob:Int) * 8:=by rw [IntKind.wrap_u64];omega
   have u3:IntKind.u64.wrap ((z:Int)+(ob:Int) * 8)=((z+8 * ob:Nat):Int):=by rw [IntKind.wrap_u64];omega
   have hy9:z+8 * ob < 9000000000:=oM;generalize z+8 * ob=y at *;have HLE:=hid H.out.size;have HOD:=hid (HO.out.alloc (.cells #[.int .u64 (y:Int), .int .u64 (bw:Int)] 114));have HBD:=hid (H.out.alloc H.out.size (.cells #[.int .u64 (y:Int), .int .u64 (bw:Int)] 114));clear H HO hm1';go_wp2_with (first
    | (go_at_call 354;refine HOk.out.mono ?_;rintro e w3 ⟨rfl,rfl⟩)
    | (go_at_call 339;refine (HSt.out _).mono ?_;rintro e w3 ⟨rfl,rfl⟩)
    | (at_builtin;refine wpList_app _ (.tmp 43) (.tmp 52) 108 rfl rfl W.heap.size 114 i0 _ 2 16 Tryz.underlying108 hi0 hz0 hz1 hz2 rfl ?q1 (.slice A1 m1 c1) m1 (wrCells (fmtB ln cl g k)) rfl HOD.out (wr.heap.size+1) (some ⟨wr.heap.size,0,none⟩) 1 1 [.int .u64 (y:Int), .int .u64 (bw:Int)] rfl ?q5 ?q6 ?q2 ?q3 ?q4 ?_;(case q1=>omega);(case q5=>exact row_reads_at _ _ rfl _ 1 2 114 _ rfl rfl);(case q6=>(intro u hu;simp at hu;rcases hu with rfl | rfl <;> rfl));(case q2=>(unfold maxLen;omega));(case q3=>omega);(case q4=>(have:=HLE.out;simp;omega));intro A3 n3 c3 w8 hn3 ho3 hg3 hb3;have HN3:=hid hn3;have HO3:=hid ho3;have HB3:=hid (HBD.out.trans hb3);clear hn3 ho3 hg3 hb3)
    | go_in)
   have b1:n3=k+1:=by have:=HN3.out;have:=HM.out;omega
   have HO4:Hid (w8.ownsRow W.heap.size 114 2 (.slice A3 n3 c3) n3 (wrCells (fmtB ln cl g (k+1)))):=hid (by have h:=HO3.out;rw [HEQ.out] at h;exact h);go_roundw
   case rel =>
    first
     | exact ⟨k+1,_,_,_,oM,by go_num,rfl,b1,HO4,HB3⟩
     | (
       repeat apply Exists.intro
       refine ⟨?_,rfl⟩;exact ⟨k+1,_,_,_,oM,by go_num,rfl,b1,HO4,HB3⟩)
   case measure=>simp [RowKit.intOf];omega
  ·have hkp:perC cl=k:=oM
   clear HOf HOl HPC HBw;have HO0:Hid (wr.ownsRow W.heap.size 114 2 (.slice A1 m1 c1) m1 (wrCells (fmtB ln cl g (perC cl)++fmtZ ln 0))):=hid (by rw [hkp];simp only [fmtZ,List.range_zero,List.map_nil,List.append_nil];exact HO.out);have hm2:m1≤62:=oM;have HM0:=hid (show m1=perC cl by omega);have hd1:decide ((k:Int) < (perC cl:Int))=false:=dF;have hd2:decide (k < perC cl)=false:=decide_eq_false hlt;clear HO hkp hm1' hk hlt;go_wp2;clear hd1 hd2;go_loopw [6,11] (fun v i wr=>∃ (j:Nat) (A2:Option Addr) (m2 c2:Nat),j≤7∧i = .int .u64 ((j+1:Nat):Int)∧v = .slice A2 m2 c2∧m2=m1+j∧Hid (wr.ownsRow W.heap.size 114 2 (.slice A2 m2 c2) m2 (wrCells (fmtB ln cl g (perC cl)++fmtZ ln j)))∧Hid (Below W.heap.size W wr)) (fun _ i _=>8 - (RowKit.intOf i).toNat)
   case atStart=>exact ⟨0,_,_,_,Nat.zero_le _,rfl,rfl,rfl,HO0,H⟩
   case round =>
    clear HO0 H;obtain ⟨j,A2,m2,c2,hj,rfl,rfl,hm2',HO,H⟩:=hrel;by_cases hlt:j < 7
    ·have d8:decide (((j+1:Nat):Int) < 8)=true:=dT
     have d8n:decide (j+1 < 8)=true:=dT;have hm3:m2≤80:=oM;have HM:=hid hm2';have HEQ:Hid (wrCells (fmtB ln cl g (perC cl)++fmtZ ln j)++[.int .u64 ((z+8 * (j+1):Nat):Int), .int .u64 0]=wrCells (fmtB ln cl g (perC cl)++fmtZ ln (j+1))):=hid (by rw [HZs.out];simp [wrCells]);have u2:IntKind.u64.wrap (((j+1:Nat):Int) * 8)=((j+1:Nat):Int) * 8:=by rw [IntKind.wrap_u64];omega
     have u3:IntKind.u64.wrap ((z:Int)+((j+1:Nat):Int) * 8)=((z+8 * (j+1):Nat):Int):=by rw [IntKind.wrap_u64];omega
     have u4:IntKind.u64.wrap (((j+1:Nat):Int)+1)=((j+1+1:Nat):Int):=by rw [IntKind.wrap_u64];omega
     have hy9:z+8 * (j+1) < 9000000000:=oM;generalize z+8 * (j+1)=y at *;have hj2:j+1+1≤8:=oM;have HJ:Hid (∃ j2,j2=j+1):=hid ⟨_,rfl⟩;generalize hj1:j+1=j1 at *;generalize hj3:j1+1=j3 at *;have HJ1:=hid hj1;have HJ3:=hid hj3;clear hj1 hj3 HJ;have HLE:=hid H.out.size;have HOD:=hid (HO.out.alloc (.cells #[.int .u64 (y:Int), .int .u64 0] 114));have HBD:=hid (H.out.alloc H.out.size (.cells #[.int .u64 (y:Int), .int .u64 0] 114));clear H HO hm2';go_wp2_with (first
      | (go_at_call 339;refine (HSt.out _).mono ?_;rintro e w3 ⟨rfl,rfl⟩)
      | (at_builtin;refine wpList_app _ (.tmp 59) (.tmp 66) 108 rfl rfl W.heap.size 114 i0 _ 2 16 Tryz.underlying108 hi0 hz0 hz1 hz2 rfl ?q1 (.slice A2 m2 c2) m2 (wrCells (fmtB ln cl g (perC cl)++fmtZ ln j)) rfl HOD.out (wr.heap.size+1) (some ⟨wr.heap.size,0,none⟩) 1 1 [.int .u64 (y:Int), .int .u64 0] rfl ?q5 ?q6 ?q2 ?q3 ?q4 ?_;(case q1=>omega);(case q5=>exact row_reads_at _ _ rfl _ 1 2 114 _ rfl rfl);(case q6=>(intro u hu;simp at hu;rcases hu with rfl | rfl <;> rfl));(case q2=>(unfold maxLen;omega));(case q3=>omega);(case q4=>(have:=HLE.out;simp;omega));intro A3 n3 c3 w8 hn3 ho3 hg3 hb3;have HN3:=hid hn3;have HO3:=hid ho3;have HB3:=hid (HBD.out.trans hb3);clear hn3 ho3 hg3 hb3)
      | go_in)
     have b1:n3=m1+(j+1):=by have:=HN3.out;have:=HM.out;omega
     have HO4:Hid (w8.ownsRow W.heap.size 114 2 (.slice A3 n3 c3) n3 (wrCells (fmtB ln cl g (perC cl)++fmtZ ln (j+1)))):=hid (by have h:=HO3.out;rw [HEQ.out,← HJ1.out] at h;exact h);have HV:Hid ((j3:Int)=((j+1+1:Nat):Int)):=hid (by rw [← HJ3.out,← HJ1.out]);go_roundw
     case rel =>
      first
       | exact ⟨j+1,_,_,_,oM,by rw [← HV.out],rfl,b1,HO4,HB3⟩
       | (
         repeat apply Exists.intro
         refine ⟨?_,rfl⟩;exact ⟨j+1,_,_,_,oM,by rw [← HV.out],rfl,b1,HO4,HB3⟩)
     case measure=>(have h1:=HJ1.out;have h3:=HJ3.out;simp [RowKit.intOf];omega)
    ·have hj7:j=7:=oM
     subst hj7;have HOF:Hid (wr.ownsRow W.heap.size 114 2 (.slice A2 m2 c2) m2 (wrCells (fmtW ln cl g))):=HO;have HM2:Hid (m2≤69∧0 < m2):=hid (by have:=HM0.out;omega);have HVs:Hid (∀ e∈fmtW ln cl g,e.1 < 18446744073709551616):=hid (fun e he=>by
      unfold fmtW at he;rcases List.mem_append.1 he with he | he
      ·obtain ⟨i,hi,rfl⟩:=fmtB_mem he
       have:=off_lt hi;have:=HZ.out;show 64 * ln+8 * offB cl i < _;omega
      ·obtain ⟨i,hi,rfl⟩:=fmtZ_mem he
       have:=HZ.out;show 64 * ln+8 * (i+1) < _;omega)
     clear HO hm2' hlt hj HM0 hm2 HBs HZs;go_wp2_with fail
     refine wp_region_script (fun w'=>Below W.heap.size W w') 4 [(true,0),(true,2),(false,1),(false,3)] (by kernel_rfl) (by kernel_rfl) H.out.drew ?_;refine tkS (.int .i64 (ln:Int)) (fun w' hS=>?_) ?_
     ·go_simp
     simp only [zA,zB,Act.put,zD,zE,zF];refine tkS (.agg #[.int .i64 (cl:Int), .int .i64 0, .int .u16 (g:Int)]) (fun w' hS=>?_) ?_
     ·have f0:w'.cell? ⟨w.heap.size,0,none⟩=some (.int .i64 (cl:Int)):=(HK0.out.below hS HK0.out.lt).cell 0
      have f1:w'.cell? ⟨w.heap.size,1,none⟩=some (.int .i64 0):=(HK0.out.below hS HK0.out.lt).cell 1;have f2:w'.cell? ⟨w.heap.size,2,none⟩=some (.int .u16 (g:Int)):=(HK0.out.below hS HK0.out.lt).cell 2;go_simp
     simp only [zA,zB,zC,Act.put,zD,zE,zF];refine wpScript_do (by rfl) ?_;go_wp2_with fail
     refine (HSt.out _).mono ?_;rintro e w4 ⟨rfl,rfl⟩;go_wp2_with fail
     refine ⟨H.out.drew,?_⟩;refine wpScript_do (by rfl) ?_;go_wp2_with fail
     refine (HWd.out _ H.out.drew).mono ?_;rintro e w5 ⟨rfl,hb5⟩;have HBd:Hid (Below wr.heap.size wr w5):=hid ((Below.refl _ wr).drew.trans hb5);have HB5:=hid (H.out.trans (HBd.out.mono H.out.size));have HO5:=hid (own_below HOF.out HBd.out);have HX:Hid (hdrW cl g=hdrW cl g):=hid rfl;generalize hhd:hdrW cl g=hd at *;have HHD:=hid hhd;have HS1:=hid (stores_small _ 1 1 _ _ (one_reads w5 z hd) oM oM (fun e he=>by simp at he;subst he;show z < _;omega));have HB6:Hid (∀ o,Below W.heap.size W (w5.alloc o)):=hid (fun o=>HB5.out.alloc HB5.out.size o);have HO6:Hid (∀ o,(w5.alloc o).ownsRow W.heap.size 114 2 (.slice A2 m2 c2) m2 (wrCells (fmtW ln cl g))):=hid (fun o=>HO5.out.alloc o);clear hb5 hhd HX HOF HO5 HWd HBd;go_wp2_with fail
     refine ⟨HB5.out,?_⟩;show wpList _ _ _ _ _ _;simp only [List.drop_succ_cons,List.drop_zero];go_wp2_with (go_at_call 105;refine HS1.out.mono ?_;intro e w6 h1;obtain ⟨A4,m4,c4,p4,rfl,hp4,ho4,hb4⟩:=h1;refine stop ?_)
     unfold Stop;have HB7:=hid ((HB6.out _).trans (hb4.mono (HB6.out _).size));have HO7:=hid (own_below (HO6.out _) hb4);have HP4:=hid hp4;have HO4:=hid (own_le ho4 (HB6.out _).size);have HS2:=hid (stores_small A2 m2 c2 (fmtW ln cl g) w6 (Reads.of_own HO7.out) HM2.out.2 (by have:=HM2.out;omega) HVs.out);have h4l:=stores_len hp4;have hm4:m4≤400:=by have h:=ho4.1;rw [insCells_len] at h;simp at h4l;omega
     clear hp4 ho4 hb4 HS1 HB6 HO6 HO7 HB5 H h4l;go_wp2_with fail
     refine NoPanic.normal ?_;go_wp2_with (go_at_call 105;refine HS2.out.mono ?_;intro e w7 h1;obtain ⟨A5,m5,c5,p5,rfl,hp5,ho5,hb5⟩:=h1;refine stop ?_)
     unfold Stop;have HO8:=hid (own_below HO4.out hb5);have h5l:=stores_len hp5;have hm5:m5≤400:=by have h:=ho5.1;rw [insCells_len] at h;rw [fmtW_len] at h5l;have:=per_le cl;omega
     have HTh:=hid (then_any A5 A4 m5 c5 m4 c4 p5 p4 w7 (Reads.of_own ho5) (Reads.of_own HO8.out) hm5 hm4);have HP5:=hid hp5;have HB8:=hid (HB7.out.trans (hb5.mono HB7.out.size));clear hp5 ho5 hb5 HS2 HO4 HO8 HB7 h5l;go_wp2_with fail
     refine HTh.out.mono ?_;rintro e w8 ⟨A6,m6,c6,rfl,hm6,ho6,hb6⟩;have HO9:=hid (own_le (base':=w.heap.size) ho6 (Nat.le_trans HB0.out.size HB8.out.size));have HB9:=hid (HB0.out.trans ((HB8.out.trans (hb6.mono HB8.out.size)).mono HB0.out.size));clear ho6 hb6 hm6 HTh HB8;go_wp2;go_ret2;refine ⟨_,_,_,_,rfl,⟨p5,p4,rfl,HP5.out,?_⟩,HO9.out,HB9.out⟩;rw [HZ.out,HHD.out];exact HP4.out
end
end
section
open Go.RowKit Go.Maps
def csN:CS:=⟨false,0,1,0,fun _=>⟨1,0,176⟩⟩
theorem setIs_plc {a:DA} {s K base g:Nat} {w:World} (h:SetIs a s K w base g) (h1:1≤K):∃ pl,base≤pl∧Plc a s K ⟨g,pl,0⟩ (fun _=>csN) w:=by
 obtain ⟨A,m,c,hB,hm,ho⟩:=h;subst hm;rcases ho.2 with ⟨_,h0⟩ | ⟨pl,cap,cur,hv,hge,hb,h2,h3,h4,h5⟩
 ·omega
 ·injection hv with e1 e2 e3
  subst e1 e3;refine ⟨pl,hge,⟨_,hB⟩,cur,hb,fun k hk=>?_⟩;obtain ⟨p0,p1,p2,p3⟩:=plCells_at s m k hk;have hg:∀ (j:Nat) (u:Value),(plCells s m)[j]?=some u→cur[0+j]?=some u:=fun j u hu=>by
   rw [← h5] at hu;rw [Nat.zero_add,← Array.getElem?_toList];have hj:=(List.getElem?_eq_some_iff.1 hu).1;rw [List.length_take] at hj;rw [List.getElem?_take_of_lt oM] at hu;exact hu
  refine ⟨hg _ _ p0,?_,?_,false,?_⟩
  ·rw [Nat.add_assoc];exact hg _ _ p1
  ·rw [Nat.add_assoc];exact hg _ _ p2
  ·rw [Nat.add_assoc];exact hg _ _ p3
def RetHop (a:DA) (s n K:Nat) (w:World) (e:Ending) (w':World):Prop:=∃ x:HA,e = .returned (.tuple #[.pointer (some ⟨x.h,0,none⟩), .int .i64 0])∧HS a s n K x (fun _=>csN) (fun _=>none) 0 0 w'∧(w.heap.size≤x.h∧w.heap.size≤x.gs∧w.heap.size≤x.pl∧w.heap.size≤x.mr∧w.heap.size≤x.mh)∧Below w.heap.size w w'
theorem heapOpenS_any {a:DA} {L T:Nat} {w:World} {S:Fp} {cur:Nat→Nat} {F:Nat} (h:Dev a L T w S cur F) (ht:Tab w) (s n K:Nat) (hn:32≤n) (hs:s+n≤L) (hK:n / 32=K) (hv:∀ k,k < K→cur (8 * (s+32 * k))=freeW 1) :
  Calls Tryz.prog 181 #[memV a, .int .i64 (s:Int), .int .i64 (n:Int)] w (RetHop a s n K w):=by
 have HA:=hid (arenaOpen_any h ht s n K hn hs hK hv);have hL:L≤4096:=by obtain ⟨ls,exe,per,cs,lsC,hdc,hnt⟩:=h;exact hdc.hL
 have hmm1:∀ W,(Instr.makeMap 190 none).run Tryz.prog W = .ok (.map (some W.heap.size)) (W.alloc (.map #[] 0)):=fun _=>rfl
 have hmm2:∀ W,(Instr.makeMap 191 none).run Tryz.prog W = .ok (.map (some W.heap.size)) (W.alloc (.map #[] 0)):=fun _=>rfl
 have hK2:K≤128:=oM;have hK1:1≤K:=oM;clear h ht hv hK hn hs;unfold memV at HA;unfold memV;go_enter Tryz.func181,Tryz.ntmps181
 go_wp2_with (first
  | (go_at_call 288;refine HA.out.mono ?_;rintro e w1 ⟨rfl,hset,hb1⟩;have HS1:=hid hset;have HB1:=hid hb1;have HL:=hid (lines_any HS1.out hK2);clear hset hb1)
  | (go_at_call 197;refine HL.out.mono ?_;rintro e w2 ⟨A,m,c,l,rfl,hm,ho,hb2⟩;have HO:=hid (Reads.of_own ho);have HS2:=hid (HS1.out.below hb2);have HB2:=hid (HB1.out.trans (hb2.mono HB1.out.size));clear ho hb2)
  | go_in)
 have HW:=hid (fun x=>owner_any HS2.out hK2 x);clear HA HL HS1 HB1;go_loopw [28] (fun i wr=>∃ (k:Nat),k≤m∧i = .int .i64 k∧w2=wr) (fun i _=>m - (Go.RowKit.intOf i).toNat)
 case atStart=>exact ⟨0,Nat.zero_le _,rfl,rfl⟩
 case round =>
  obtain ⟨k,hk,rfl,rfl⟩:=hrel;by_cases hlt:k < m
  ·obtain ⟨b,off,x,hA,hbB,f0⟩:=i_facts HO.out hlt
   subst hA;have hz5:(0:Int)≤(k:Int):=oM;have hz6:(k:Int) < (m:Int):=oM;go_wp2_with (first
    | (go_at_call 289;refine (HW.out _).mono ?_;rintro e w3 ⟨rfl,rfl⟩)
    | go_in)
   go_roundw
   case rel =>
    first
     | exact ⟨k+1,oM,by go_num,trivial⟩
     | exact ⟨k+1,oM,by go_num,rfl⟩
     | (
       repeat apply Exists.intro
       refine ⟨?_,rfl⟩;exact ⟨k+1,oM,by go_num,rfl⟩)
   case measure=>simp [Go.RowKit.intOf];omega
  ·obtain rfl:m=k:=oM
   go_wp2;go_ret2;have e9:((w2.alloc (.map #[] 0)).alloc (.map #[] 0)).heap.size=w2.heap.size+1+1:=by simp
   have hb2:Below w.heap.size w ((w2.alloc (.map #[] 0)).alloc (.map #[] 0)):=(HB2.out.alloc HB2.out.size _).alloc (by have:=HB2.out.size;simp;omega) _;obtain ⟨pl,hpl,hplc⟩:=setIs_plc HS2.out hK1;have hsz:=HB2.out.size;have hb3:∀ V,Below w2.heap.size w2 (((w2.alloc (.map #[] 0)).alloc (.map #[] 0)).alloc V):=fun V=>(((Below.refl _ w2).alloc (nL _) _).alloc (by simp) _).alloc (by simp;omega) _
   have hm1:PMap ((w2.alloc (.map #[] 0)).alloc (.map #[] 0)) w2.heap.size 0 (fun _=>none) 0:=(PMap.new w2).chg ((Chg.refl Fp.no _).alloc _) (fun h=>h);have hm2:=HMap.new (w2.alloc (.map #[] 0));refine ⟨⟨w2.heap.size+1+1,w.heap.size,pl,0,w2.heap.size,w2.heap.size+1⟩,rfl,⟨by rw [← e9];exact Blk.new _ _ _,hplc.below (hb3 _),hm1.chg ((Chg.refl Fp.no _).alloc _) (fun h=>h),?_,?_⟩,⟨?_,nL _,?_,?_,?_⟩,hb2.alloc (by rw [e9];omega) _⟩
   ·have:=hm2.chg ((Chg.refl Fp.no _).alloc (.cells (heapCells a s n w.heap.size w2.heap.size (w2.heap.size+1) false) 194)) (fun h=>h)
    have e8:(w2.alloc (.map #[] 0)).heap.size=w2.heap.size+1:=by simp
    rw [e8] at this;exact this
   ·show w2.heap.size≠w2.heap.size+1
    omega
   ·show w.heap.size≤w2.heap.size+1+1
    omega
   ·show w.heap.size≤pl
    omega
   ·exact hsz
   ·show w.heap.size≤w2.heap.size+1
    omega
end
section
open Go.RowKit
def freedB (b:BK):BK:=if b.gen=65535 then ⟨65535,0,178⟩ else ⟨b.gen+1,0,176⟩
def takenB (b:BK) (kind:Nat):BK:=⟨b.gen,kind,177⟩
theorem freedB_in {b:BK} (h:b.In):(freedB b).In:=by
 unfold freedB;have:=h.g;split
 ·exact ⟨by show 65535 < 65536;omega,by show 0 < 256;omega,by show 178 < 256;omega⟩
 ·exact ⟨by show b.gen+1 < 65536;omega,by show 0 < 256;omega,by show 176 < 256;omega⟩
theorem freedB_good (b:BK):(freedB b).good=true:=by
 unfold freedB;split
 ·simp [BK.good]
 ·simp [BK.good]
theorem takenB_in {b:BK} (h:b.In) {kind:Nat} (hk:kind < 256):(takenB b kind).In:=⟨h.g,hk,by show 177 < 256;omega⟩
theorem takenB_good {b:BK} (hg:b.good=true) (hs:b.st=176) {kind:Nat} (h0:0 < kind) (h8:kind < 128):(takenB b kind).good=true:=by
 unfold BK.good at hg;rw [if_pos hs] at hg;simp at hg;simp [BK.good,takenB];exact ⟨⟨hg.1,oM⟩,dT⟩
def updB (bs:Nat→BK) (i:Nat) (b:BK):Nat→BK:=fun j=>if j=i then b else bs j
def tkB (bs:Nat→BK) (l:List (Nat × Nat)):Nat→BK:=l.foldl (fun c e=>updB c e.1 (takenB (bs e.1) e.2)) bs
def drB (bs c:Nat→BK) (l:List Nat):Nat→BK:=l.foldl (fun c i=>updB c i (freedB (bs i))) c
theorem tkB_snoc (bs:Nat→BK) (l:List (Nat × Nat)) (e:Nat × Nat):tkB bs (l++[e])=updB (tkB bs l) e.1 (takenB (bs e.1) e.2):=by simp [tkB]
theorem drB_snoc (bs c:Nat→BK) (l:List Nat) (i:Nat):drB bs c (l++[i])=updB (drB bs c l) i (freedB (bs i)):=by simp [drB]
theorem foldB_out {α:Type} (g:α→Nat) (v:α→BK) (i:Nat):∀ (l:List α) (c:Nat→BK),i ∉ l.map g→(l.foldl (fun c e=>updB c (g e) (v e)) c) i=c i
 | [],_,_=>rfl
 | e :: l,c,h=>by
  rw [List.foldl_cons,foldB_out g v i l _ (fun hh=>h (by simp at hh ⊢;exact .inr hh))];unfold updB;rw [if_neg (fun hh=>h (by simp [hh]))]
theorem foldB_in {α:Type} (g:α→Nat) (v:α→BK):∀ (l:List α) (c:Nat→BK),(l.map g).Nodup→∀ e∈l,(l.foldl (fun c e=>updB c (g e) (v e)) c) (g e)=v e
 | [],_,_,_,h=>by simp at h
 | x :: l,c,hn,e,he=>by
  rw [List.map_cons,List.nodup_cons] at hn;rw [List.foldl_cons];rcases List.mem_cons.1 he with rfl | he
  ·rw [foldB_out g v _ l _ hn.1]
   simp [updB]
  ·exact foldB_in g v l _ hn.2 e he
structure Bits (V cl:Nat) (bs:Nat→BK):Prop where
 lt:V < 18446744073709551616
 bit:∀ i,i < perC cl→bitAt V i=decide ((bs i).st≠176)
 top:V < 2 ^ perC cl
theorem bitAt_test (V i:Nat):bitAt V i=V.testBit i:=by
 unfold bitAt;rw [Nat.testBit_eq_decide_div_mod_eq];rcases Nat.mod_two_eq_zero_or_one (V / 2 ^ i) with h | h <;> simp [h]
theorem pow_lt64 {i:Nat} (h:i < 64):2 ^ i < 18446744073709551616:=by
 have h1:(2:Nat) ^ i≤2 ^ 63:=Nat.pow_le_pow_right oM oM;have h2:(2:Nat) ^ 63=9223372036854775808:=by decide
 omega
theorem bit_set {V i:Nat} (hV:V < 18446744073709551616) (hi:i < 64):(V ||| 2 ^ i) < 18446744073709551616∧∀ j,bitAt (V ||| 2 ^ i) j=if j=i then true else bitAt V j:=by
 refine ⟨Nat.or_lt_two_pow (n:=64) hV (pow_lt64 hi),fun j=>?_⟩;rw [bitAt_test,bitAt_test,Nat.testBit_or,Nat.testBit_two_pow];by_cases e:j=i
 ·subst e;simp
 ·rw [if_neg e]
  simp;omega
theorem bit_flip {V i:Nat} (hV:V < 18446744073709551616) (hi:i < 64) (hb:bitAt V i=true):(V ^^^ 2 ^ i) < 18446744073709551616∧∀ j,bitAt (V ^^^ 2 ^ i) j=if j=i then false else bitAt V j:=by
 refine ⟨Nat.xor_lt_two_pow (n:=64) hV (pow_lt64 hi),fun j=>?_⟩;rw [bitAt_test,bitAt_test,Nat.testBit_xor,Nat.testBit_two_pow];rw [bitAt_test] at hb;by_cases e:j=i
 ·subst e;simp [hb]
 ·rw [if_neg e]
  have:decide (i=j)=false:=decide_eq_false (fun h=>e h.symm);rw [this];simp
theorem Bits.take {V cl i kind:Nat} {bs:Nat→BK} {b:BK} (h:Bits V cl bs) (hi:i < perC cl):Bits (V ||| 2 ^ i) cl (updB bs i (takenB b kind)):=by
 have hp:=per_le cl;obtain ⟨h1,h2⟩:=bit_set h.lt (i:=i) oM;refine ⟨h1,fun j hj=>?_,Nat.or_lt_two_pow h.top (Nat.pow_lt_pow_right oM hi)⟩;rw [h2];unfold updB;by_cases e:j=i
 ·rw [if_pos e,if_pos e];rfl
 ·rw [if_neg e,if_neg e];exact h.bit j hj
theorem Bits.drop {V cl i:Nat} {bs:Nat→BK} {b:BK} (h:Bits V cl bs) (hi:i < perC cl) (hs:(bs i).st=177):Bits (if (freedB b).st=176 then V ^^^ 2 ^ i else V) cl (updB bs i (freedB b)):=by
 have hp:=per_le cl;have hb:bitAt V i=true:=by rw [h.bit i hi,hs];rfl
 obtain ⟨h1,h2⟩:=bit_flip h.lt (i:=i) oM hb;by_cases hf:(freedB b).st=176
 ·rw [if_pos hf]
  refine ⟨h1,fun j hj=>?_,Nat.xor_lt_two_pow h.top (Nat.pow_lt_pow_right oM hi)⟩;rw [h2];unfold updB;by_cases e:j=i
  ·rw [if_pos e,if_pos e,hf];rfl
  ·rw [if_neg e,if_neg e];exact h.bit j hj
 ·rw [if_neg hf]
  refine ⟨h.lt,fun j hj=>?_,h.top⟩;unfold updB;by_cases e:j=i
  ·rw [if_pos e,e,hb]
   simp [hf]
  ·rw [if_neg e];exact h.bit j hj
theorem shl_one {i:Nat} (hi:i < 64):IntKind.u64.wrap ((2:Int) ^ i)=((2 ^ i:Nat):Int):=by
 have h:=pow_lt64 hi;have e:((2:Int) ^ i)=((2 ^ i:Nat):Int):=by push_cast;rfl
 rw [e,IntKind.wrap_u64];generalize (2 ^ i:Nat)=q at *;omega
theorem two64:(2:Nat) ^ 64=18446744073709551616:=by decide
theorem u64_andNot_nat (V i:Nat) (hV:V < 18446744073709551616) (hi:i < 64) (hb:bitAt V i=true):bits .andNot .u64 (V:Int) ((2 ^ i:Nat):Int)=((V ^^^ 2 ^ i:Nat):Int):=by
 have h2:=pow_lt64 hi;have hx:=(bit_flip hV hi hb).1;have h4:=two64;have h5:2 ^ i < 2 ^ 64:=oM;show IntKind.u64.wrap ((BitVec.ofInt 64 (V:Int) &&& ~~~BitVec.ofInt 64 ((2 ^ i:Nat):Int)).toNat:Int)=_;rw [BitVec.toNat_and,BitVec.toNat_not,ofInt_u64 V hV,ofInt_u64 (2 ^ i) h2];have h6:2 ^ 64 - 1 - 2 ^ i=2 ^ 64 - (2 ^ i+1):=oM;have e:V &&& (2 ^ 64 - (2 ^ i+1))=V ^^^ 2 ^ i:=by
  apply Nat.eq_of_testBit_eq;intro j;rw [Nat.testBit_and,Nat.testBit_xor,Nat.testBit_two_pow_sub_succ h5,Nat.testBit_two_pow];rw [bitAt_test] at hb;by_cases e:i=j
  ·subst e
   rw [hb];simp [hi]
  ·have hd:decide (i=j)=false:=decide_eq_false e
   rw [hd];by_cases h64:j < 64
   ·simp [h64]
   ·have h7:(2:Nat) ^ 64≤2 ^ j:=Nat.pow_le_pow_right oM oM
    have:V.testBit j=false:=Nat.testBit_lt_two_pow oM;simp [this]
 rw [h6,e,IntKind.wrap_u64];generalize (V ^^^ 2 ^ i:Nat)=q at *;omega
def tkW (ln cl:Nat) (bs:Nat→BK) (l:List (Nat × Nat)):List (Nat × Nat):=l.map fun e=>(64 * ln+8 * offB cl e.1,(takenB (bs e.1) e.2).w)
def drW (ln cl:Nat) (bs:Nat→BK) (l:List Nat):List (Nat × Nat):=l.map fun i=>(64 * ln+8 * offB cl i,(freedB (bs i)).w)
def chgW (ln cl:Nat) (bs:Nat→BK) (take:List (Nat × Nat)) (drop:List Nat) (V:Nat):List (Nat × Nat):=tkW ln cl bs take++drW ln cl bs drop++[(64 * ln+8,V)]
def actB (bs:Nat→BK) (take:List (Nat × Nat)) (drop:List Nat):Nat→BK:=drB bs (tkB bs take) drop
end
section
open Go.RowKit Go.Maps
def homeOf (s K off:Nat):Option Nat:=if off < 64 * s then none else if K≤(off - 64 * s) / 2048 then none else some ((off - 64 * s) / 2048)
theorem homeOf_some {s K off k:Nat} (h:homeOf s K off=some k):k < K∧64 * (s+32 * k)≤off∧off < 64 * (s+32 * k)+2048:=by
 unfold homeOf at h;split at h
 ·cases h
 ·split at h
  ·cases h
  ·injection h with h
   omega
theorem homeOf_in {s K off k:Nat} (hk:k < K) (h1:64 * (s+32 * k)≤off) (h2:off < 64 * (s+32 * k)+2048):homeOf s K off=some k:=by
 unfold homeOf;rw [if_neg oM,if_neg oM];congr 1
 omega
theorem homeOf_blk {s K cl k i:Nat} (hk:k < K) (hi:i < perC cl):homeOf s K (blkO (s+32 * k) cl i)=some k:=by
 have h1:=off_lt hi;have h2:=pay_le cl;exact homeOf_in hk (by unfold blkO;omega) (by unfold blkO;omega)
def HomeP (s K off:Nat) (ln:Nat) (b:Bool):Prop:=(homeOf s K off=none∧ln=0∧b=false)∨∃ k,homeOf s K off=some k∧k < K∧ln=s+32 * k∧b=true
section
theorem home_any {a:DA} {s n K gs mr mh h:Nat} {lk:Bool} {w:World} (hB:Blk w h 194 (heapCells a s n gs mr mh lk)) (hs:s≤4096) (hn:n≤4096) (hK:n / 32=K) (off:Nat) (ho:off < 18446744073709551616) :
  Calls Tryz.prog 194 #[.pointer (some ⟨h,0,none⟩), .int .u64 (off:Int)] w fun e w'=>∃ (ln:Nat) (b:Bool),e = .returned (.tuple #[.int .i64 (ln:Int), .bool b])∧HomeP s K off ln b∧w=w':=by
 have f1:w.cell? ⟨h,1,none⟩=some (.int .i64 (s:Int)):=hB.cell 1;have f2:w.cell? ⟨h,2,none⟩=some (.int .i64 (n:Int)):=hB.cell 2;have u1:IntKind.u64.wrap (s:Int)=(s:Int):=by rw [IntKind.wrap_u64];omega
 have u2:IntKind.u64.wrap ((s:Int) * 64)=((64 * s:Nat):Int):=by rw [IntKind.wrap_u64];omega
 have d2:(n:Int).tdiv 32=(K:Int):=by rw [Int.tdiv_eq_ediv_of_nonneg oM];omega
 have d3:(n:Int) / 32=(K:Int):=oM;have u3:IntKind.u64.wrap (K:Int)=(K:Int):=by rw [IntKind.wrap_u64];omega
 have hK1:K≤128:=oM;clear hB hK;by_cases h1:off < 64 * s
 ·have HP:Hid (HomeP s K off 0 false):=hid (.inl ⟨by unfold homeOf;rw [if_pos h1],rfl,rfl⟩)
  have e1:decide ((off:Int) < ((64 * s:Nat):Int))=true:=dT;have e1n:decide (off < 64 * s)=true:=decide_eq_true h1;have hz:64 * s≤262144:=oM;clear h1;generalize 64 * s=z at *;go_enter Tryz.func194,Tryz.ntmps194
  go_wp2;go_ret2;exact ⟨0,false,rfl,HP.out,rfl⟩
 ·have e1:decide ((off:Int) < ((64 * s:Nat):Int))=false:=dF
  have e1n:decide (off < 64 * s)=false:=decide_eq_false h1;obtain ⟨y,hy⟩:∃ y,off - 64 * s=y:=⟨_,rfl⟩
  have u4:IntKind.u64.wrap ((off:Int) - ((64 * s:Nat):Int))=(y:Int):=by rw [IntKind.wrap_u64];omega
  have hyl:y < 18446744073709551616:=oM;have e4:(y:Int) / 2048=((y / 2048:Nat):Int):=oM;have hz:64 * s≤262144:=oM;by_cases h2:K≤y / 2048
  ·have HP:Hid (HomeP s K off 0 false):=hid (.inl ⟨by unfold homeOf;rw [if_neg h1,hy,if_pos h2],rfl,rfl⟩)
   have e2:decide ((K:Int)≤((y / 2048:Nat):Int))=true:=dT;have e2n:decide (K≤y / 2048)=true:=decide_eq_true h2;clear h1 h2 hy;generalize y / 2048=q at *;generalize 64 * s=z at *;go_enter Tryz.func194,Tryz.ntmps194
   go_wp2;go_ret2;exact ⟨0,false,rfl,HP.out,rfl⟩
  ·have HP:Hid (HomeP s K off (s+32 * (y / 2048)) true):=hid (.inr ⟨y / 2048,by unfold homeOf;rw [if_neg h1,hy,if_neg h2],oM,rfl,rfl⟩)
   have e2:decide ((K:Int)≤((y / 2048:Nat):Int))=false:=dF;have e2n:decide (K≤y / 2048)=false:=decide_eq_false h2;have hq:y / 2048≤128:=oM;have u5:IntKind.i64.wrap ((y / 2048:Nat):Int)=((y / 2048:Nat):Int):=IntWalk.i64_in _ oM;clear h1 h2 hy;generalize y / 2048=q at *;generalize 64 * s=z at *;go_enter Tryz.func194,Tryz.ntmps194
   go_wp2;go_ret2;exact ⟨s+32 * q,true,by rw [show ((s+32 * q:Nat):Int)=(s:Int)+(q:Int) * 32 by omega];rfl,HP.out,rfl⟩
theorem holds_any {a:DA} {s n K N m:Nat} {x:HA} {cs:Nat→CS} {f:Nat→Option Nat} {w:World} (h:HS a s n K x cs f N m w) (p:Nat) :
  Calls Tryz.prog 235 #[.pointer (some ⟨x.h,0,none⟩), .int .u64 (p:Int)] w fun e w'=>e = .returned (.bool (decide (f (pOff p)=some p)))∧Below w.heap.size w w':=by
 have HOf:=hid (off_any p);have hlk:=(h.res.chg ((Chg.refl Fp.no w).drew) (fun h=>h)).look (x:=pOff p) (by unfold pOff;omega);have y4:w.cell? ⟨x.h,4,none⟩=some (.map (some x.mr)):=h.heap.cell 4;have HBd:Hid (Below w.heap.size w w.drew):=hid (Below.refl _ _).drew;clear h;generalize pOff p=o at *;cases hf:f o with
 | none =>
  rw [hf] at hlk;have hlk2:(Instr.lookup 190 (.map (some x.mr)) (.int .u64 (o:Int)) true).run Tryz.prog w.drew = .ok (.tuple #[.int .u64 0, .bool false]) w.drew:=hlk;clear hlk hf;go_enter Tryz.func235,Tryz.ntmps235
  go_wp2_with fail
  go_region_with (go_at_call 135;refine (HOf.out _).mono ?_;rintro e w1 ⟨rfl,rfl⟩)
  all_goals
   go_wp2;go_ret;exact ⟨rfl,HBd.out⟩
 | some q =>
  rw [hf] at hlk;have hlk2:(Instr.lookup 190 (.map (some x.mr)) (.int .u64 (o:Int)) true).run Tryz.prog w.drew = .ok (.tuple #[.int .u64 (q:Int), .bool true]) w.drew:=hlk;have eqb:((q:Int) == (p:Int))=decide (q=p):=by
   by_cases e:q=p
   ·subst e;simp
   ·rw [decide_eq_false e,beq_eq_false_iff_ne];omega
  have HQ:Hid (decide (some q=some p)=decide (q=p)):=hid (by simp);clear hlk hf;generalize decide (q=p)=bq at *;go_enter Tryz.func235,Tryz.ntmps235
  go_wp2_with fail
  go_region_with (go_at_call 135;refine (HOf.out _).mono ?_;rintro e w1 ⟨rfl,rfl⟩)
  all_goals
   go_wp2;go_ret;exact ⟨by rw [HQ.out];rfl,HBd.out⟩
end
end
section
open Go.RowKit Go.Maps
section
variable {a:DA} {L T n K:Nat} {x:HA} {cs cs2:Nat→CS} {f f2:Nat→Option Nat} {N m b0:Nat} {S:Fp} {cur cur2:Nat→Nat} {w:World} {al p bl ks:List Nat} {V:Nat→Nat} {cm i:Nat}
theorem nBlk_drop (p:List Nat):0 < nBlk p.length:=by unfold nBlk;split <;> omega
end
end
end Go.Proofs.YtfkjjoglnmeciaaGreatDoor
