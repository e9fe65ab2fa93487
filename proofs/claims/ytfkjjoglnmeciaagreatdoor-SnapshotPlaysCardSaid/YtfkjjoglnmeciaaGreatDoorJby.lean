/- The walks and laws that the claim leans on, part 51. -/
import Derived.Test.YtfkjjoglnmeciaaGreatDoorJbx
set_option maxRecDepth 100000
set_option maxHeartbeats 16000000
namespace Go.Proofs.YtfkjjoglnmeciaaGreatDoor
open Go.Lib (hid)
section
open Go.RowKit Go.Maps
theorem wpScriptH_skip {P:Program} {ops:Array Oper} {Q:Exit→Act→World→Prop} {S:World→Prop} {rest:List Oper} {i:Nat} {r:List (Nat × Nat)} {a:Act} {w:World} {o:Oper} (ho:ops[i]?=some o) (hw:Region.wanted o (yielded ops a.tmps)=false) (h:wpScriptH P ops Q S rest r (a.put o.dst undef) w):wpScriptH P ops Q S rest ((1,i) :: r) a w :=
 ⟨o,undef,ho, .inr ⟨hw,rfl⟩,h⟩
section
variable {B G:Nat} {bs:List Nat} {a:DA} {x:HA} {y:WA} {q gr T N st:Nat} {l rl:List (List Nat × Nat)} {w w':World}
theorem do_take (h:RgX B bs a x y q gr T N st l w) (hs:StatB B x y gr G) (hG:G≤w.heap.size) (hrl:RLk l rl) (A:Option Addr) (n c:Nat) (hr:RlIn bs A n c rl w) (kd:Nat) (nm:ByteArray) (hkd:kd < 256) (h0:kd % 4≠0) (h3:kd % 4≠3) (hs9:nm.size≤9223372036854775807) (hT:T+800≤1000000000) (hN:N≤1000000000) :
  Calls Tryz.prog 62 #[.pointer (some ⟨gr,0,none⟩), .iface 59 (.pointer (some ⟨y.d,0,none⟩)), .agg #[.int .u64 (st:Int), .slice A n c], .agg #[.int .u8 (kd:Int), .string nm]] w (RetDo B bs A a x y q gr T N st w):=by
 obtain ⟨W1,hW1⟩:∃ W1,((w.alloc (.cells #[.int .u64 (st:Int), .slice A n c] 130)).alloc (.cells #[.int .u8 (kd:Int), .string nm] 132)).alloc (.cells #[.int .u64 0, .slice none 0 0] 130)=W1:=⟨_,rfl⟩
 have hb1:Below w.heap.size w W1:=by rw [← hW1];exact (((Below.refl _ _).alloc (Nat.le_refl _) _).alloc (by simp) _).alloc (by simp;omega) _
 have hk6:Blk W1 w.heap.size 130 #[.int .u64 (st:Int), .slice A n c]:=by rw [← hW1];exact ((Blk.new _ _ _).alloc _).alloc _
 have hk7:Blk W1 (w.heap.size+1) 132 #[.int .u8 (kd:Int), .string nm]:=by
  rw [← hW1]
  refine Blk.alloc ?_ _
  have h1:=Blk.new (w.alloc (.cells #[.int .u64 (st:Int), .slice A n c] 130)) 132 #[.int .u8 (kd:Int), .string nm]
  rw [show (w.alloc (.cells #[.int .u64 (st:Int), .slice A n c] 130)).heap.size=w.heap.size+1 by simp] at h1
  exact h1
 have hk8:Blk W1 (w.heap.size+2) 130 #[.int .u64 0, .slice none 0 0]:=by
  rw [← hW1]
  have h1:=Blk.new ((w.alloc (.cells #[.int .u64 (st:Int), .slice A n c] 130)).alloc (.cells #[.int .u8 (kd:Int), .string nm] 132)) 130 #[.int .u64 0, .slice none 0 0]
  rw [show ((w.alloc (.cells #[.int .u64 (st:Int), .slice A n c] 130)).alloc (.cells #[.int .u8 (kd:Int), .string nm] 132)).heap.size=w.heap.size+2 by simp] at h1
  exact h1
 have HX:=hid h
 have HRl:=hid hr
 have HLk:=hid hrl
 have HB1:=hid hb1
 have HW1:=hid hW1
 have HK6:=hid hk6
 have HK8:=hid hk8
 have HT:=hid (And.intro hT hN)
 have HNm:=hid hs9
 have HSt:=hid hs
 have HGe:=hid hG
 obtain ⟨cd,hcd⟩:∃ cd,(rfT nm st rl).2=cd:=⟨_,rfl⟩
 obtain ⟨rl4,hrl4⟩:∃ z,(rfT nm st rl).1=z:=⟨_,rfl⟩
 have HDr:Hid (Calls Tryz.prog 153 #[.agg #[.int .u64 (st:Int), .slice A n c], .string nm] W1 fun e w'=>∃ (A':Option Addr) (n' c':Nat),e = .returned (.tuple #[.agg #[.int .u64 (st:Int), .slice A' n' c'], .int .i64 (cd:Int)])∧Hid (n'≤c'∧c'≤9223372036854775807∧Reads w' w'.heap.size 2 A' n' (itCells rl4)∧(∃ E:List Nat,(∀ g∈E,w.heap.size≤g∧g < w'.heap.size)∧∀ ad,A'=some ad→ad.block∈E++bs∧(ad.block∈bs∨W1.heap.size≤ad.block))∧Below W1.heap.size W1 w'∧(A'=A∨∀ ad,A'=some ad→W1.heap.size≤ad.block))):=hid ((refTake_any st A n c rl nm W1 ((hr.rd.below hb1).more hb1.size) (by have h1:=hrl.perm.length_eq;have h2:=h.rgW.ok.len;have h3:=hr.len;omega) hr.cap (by have:=h.rgW.ok.top;omega) hs9).mono (fun e w' h=>retRf_in hr.at_ hb1.size (by rw [← hcd,← hrl4]) h))
 have HDl:=hid (hrl.take (st:=st) nm)
 rw [hcd,hrl4] at HDl
 have HK7:=hid hk7
 have k60:=hk6.cell 0
 have k61:=hk6.cell 1
 have k70:=hk7.cell 0
 have k71:=hk7.cell 1
 have e0:((kd:Int) % 4 == 0)=false:=by rw [beq_eq_false_iff_ne];omega
 have e3:((kd:Int) % 4 == 3)=false:=by rw [beq_eq_false_iff_ne];omega
 clear h hrl hr hb1 hk6 hk7 hk8 hW1 hT hN hs hG
 go_enter Tryz.func62,Tryz.ntmps62
 go_upto_region 1 with fail
 rw [HW1.out]
 clear hcd hrl4
 go_upto_region 10 with (go_at_call 153;refine HDr.out.mono ?_;rintro e w4 ⟨A4,n4,c4,rfl,hq⟩;have HQ4:=hid hq.out;clear hq)
 obtain ⟨q1,q2,q3,⟨E,q4,q5⟩,q6,q7⟩:=HQ4.out
 have HQ7:Hid (A4=A∨∀ ad,A4=some ad→w.heap.size≤ad.block):=hid (q7.imp id (fun h ad hA=>Nat.le_trans HB1.out.size (h ad hA)))
 have hb4:Below w.heap.size w w4:=HB1.out.trans (q6.mono HB1.out.size)
 have hb5:Below w.heap.size w (w4.alloc (.cells #[.int .u64 (st:Int), .slice A4 n4 c4] 130)):=hb4.alloc hb4.size _
 have hs5:(w4.alloc (.cells #[.int .u64 (st:Int), .slice A4 n4 c4] 130)).heap.size=w4.heap.size+1:=by simp
 have hl8:=HK8.out.lt
 have hl4:=q6.size
 have HX5:Hid (RgX B (([w.heap.size,w.heap.size+1,w.heap.size+2,w4.heap.size]++E)++bs) a x y q gr T N st l (w4.alloc (.cells #[.int .u64 (st:Int), .slice A4 n4 c4] 130))):=hid (HX.out.news hb5 _ (fun g hg=>by
  rcases List.mem_append.1 hg with hg | hg
  ·simp at hg
   omega
  ·have:=q4 g hg
   omega))
 have HRd5:Hid (RlIn (([w.heap.size,w.heap.size+1,w.heap.size+2,w4.heap.size]++E)++bs) A4 n4 c4 rl4 (w4.alloc (.cells #[.int .u64 (st:Int), .slice A4 n4 c4] 130))):=hid ⟨⟨q1,q2⟩,(q3.alloc (Nat.le_refl _) _).more (by simp),fun ad hA=>by
  have:=(q5 ad hA).1
  simp at this ⊢
  rcases this with h | h
  ·exact .inr (.inr (.inr (.inr (.inl h))))
  ·exact .inr (.inr (.inr (.inr (.inr h))))⟩
 have HB5:=hid hb5
 have HK75:Hid (Blk (w4.alloc (.cells #[.int .u64 (st:Int), .slice A4 n4 c4] 130)) (w.heap.size+1) 132 #[.int .u8 (kd:Int), .string nm]):=hid ((HK7.out.below q6 HK7.out.lt).alloc _)
 have HK85:Hid (Blk (w4.alloc (.cells #[.int .u64 (st:Int), .slice A4 n4 c4] 130)) (w.heap.size+2) 130 #[.int .u64 0, .slice none 0 0]):=hid ((HK8.out.below q6 HK8.out.lt).alloc _)
 have HK12:Hid (Blk (w4.alloc (.cells #[.int .u64 (st:Int), .slice A4 n4 c4] 130)) w4.heap.size 130 #[.int .u64 (st:Int), .slice A4 n4 c4]):=hid (Blk.new _ _ _)
 have HK65:Hid (Blk (w4.alloc (.cells #[.int .u64 (st:Int), .slice A4 n4 c4] 130)) w.heap.size 130 #[.int .u64 (st:Int), .slice A n c]):=hid ((HK6.out.below q6 HK6.out.lt).alloc _)
 have HNe:Hid (∀ ad,A4=some ad→ad.block≠w.heap.size+2):=hid (fun ad hA e=>by
  rcases (q5 ad hA).2 with h | h
  ·have:=HX.out.lts _ h
   omega
  ·omega)
 have HLt12:Hid (w.heap.size+2 < w4.heap.size):=hid (Nat.lt_of_lt_of_le hl8 hl4)
 clear q1 q2 q3 q4 q5 q6 q7 hb4 hb5 hs5 hl8 hl4 HQ4 HDr k60 k61 k70 k71
 generalize w4.alloc (.cells #[.int .u64 (st:Int), .slice A4 n4 c4] 130)=w5 at *
 have HTk:=hid (HX5.out.take_ nm HNm.out HT.out.1 HT.out.2)
 rw [HDl.out.1] at HTk
 generalize w4.heap.size=g12 at *
 have c71:=HK75.out.cell 1
 by_cases hc0:cd=0
 ·subst hc0
  have HTk':Hid (Calls Tryz.prog 146 #[.pointer (some ⟨gr,0,none⟩), .iface 59 (.pointer (some ⟨y.d,0,none⟩)), .string nm] w5 fun e w'=>e = .returned (.tuple #[.int .u64 (st:Int), .int .i64 0])∧RgX B (([w.heap.size,w.heap.size+1,w.heap.size+2,g12]++E)++bs) a x y q gr (T+800) N st (tkL nm st l) w'∧Below B w5 w'∧KeptB (([w.heap.size,w.heap.size+1,w.heap.size+2,g12]++E)++bs) w5 w'):=HTk
  clear HTk
  go_upto_region 11 with (go_at_call 146;refine HTk'.out.mono ?_;rintro e w6 ⟨rfl,hx6,hb6,hk6⟩;have HX6:=hid hx6;have HB6:=hid hb6;have HKe6:=hid hk6;clear hx6 hb6 hk6)
  have HK126:Hid (Blk w6.drew g12 130 #[.int .u64 (st:Int), .slice A4 n4 c4]):=hid (HKe6.out.blk HK12.out (by simp)).drew
  have HK66:Hid (Blk w6.drew w.heap.size 130 #[.int .u64 (st:Int), .slice A n c]):=hid (HKe6.out.blk HK65.out (by simp)).drew
  have HK86:Hid (Blk w6.drew (w.heap.size+2) 130 #[.int .u64 0, .slice none 0 0]):=hid (HKe6.out.blk HK85.out (by simp)).drew
  have HX6d:=hid (HX6.out.below (Below.refl _ _).drew)
  have HB6d:Hid (Below B w5 w6.drew):=hid HB6.out.drew
  have HKe6d:Hid (KeptB (([w.heap.size,w.heap.size+1,w.heap.size+2,g12]++E)++bs) w5 w6.drew):=hid HKe6.out
  clear c71 HX6 HB6 HKe6
  refine wp_region_scriptH (fun w'=>(w'.cell? ⟨g12,0,none⟩=some (.int .u64 (st:Int))∧w'.cell? ⟨g12,1,none⟩=some (.slice A4 n4 c4))∧w'.cell? ⟨w.heap.size,0,none⟩=some (.int .u64 (st:Int))) 24 [] [(1,0),(1,1),(1,2),(1,3),(1,4),(1,5),(1,6),(1,7),(1,8),(1,9),(1,10),(1,11),(1,12),(1,13),(1,14),(1,15),(1,16),(1,17),(1,18),(1,19),(1,20),(1,21),(0,22),(1,23)] (by kernel_rfl) (by kernel_rfl) ⟨⟨HK126.out.cell 0,HK126.out.cell 1⟩,HK66.out.cell 0⟩ ?_
  generalize w6.drew=w6d at *
  refine wpScriptH_take (.agg #[.int .u64 (st:Int), .slice A4 n4 c4]) (by rfl) (by rfl) (fun w' hS=>?_) ?_
  ·obtain ⟨⟨s0,s1⟩,s2⟩:=hS
   go_simp
  simp only [zA,zB,Act.put,zD,zE,zF]
  refine wpScriptH_take (.int .i64 0) (by rfl) (by rfl) (fun w' hS=>?_) ?_
  ·go_simp
  simp only [zA,zB,zC,Act.put,zD,zE,zF]
  refine wpScriptH_take (.int .i64 0) (by rfl) (by rfl) (fun w' hS=>?_) ?_
  ·go_simp
  simp only [zA,zB,zC,Act.put,zD,zE,zF]
  refine wpScriptH_take (.bool true) (by rfl) (by rfl) (fun w' hS=>?_) ?_
  ·go_simp
  simp only [zA,zB,zC,Act.put,zD,zE,zF]
  refine wpScriptH_take (.bool true) (by rfl) (by rfl) (fun w' hS=>?_) ?_
  ·go_simp
  simp only [zA,zB,zC,Act.put,zD,zE,zF]
  refine wpScriptH_take (.int .i64 0) (by rfl) (by rfl) (fun w' hS=>?_) ?_
  ·go_simp
  simp only [zA,zB,zC,Act.put,zD,zE,zF]
  refine wpScriptH_take (.bool false) (by rfl) (by rfl) (fun w' hS=>?_) ?_
  ·go_simp
  simp only [zA,zB,zC,Act.put,zD,zE,zF]
  refine wpScriptH_take (.bool false) (by rfl) (by rfl) (fun w' hS=>?_) ?_
  ·go_simp
  simp only [zA,zB,zC,Act.put,zD,zE,zF]
  refine wpScriptH_skip (by rfl) (by rfl) ?_
  simp only [zA,zB,zC,Act.put,zD,zE,zF]
  refine wpScriptH_skip (by rfl) (by rfl) ?_
  simp only [zA,zB,zC,Act.put,zD,zE,zF]
  refine wpScriptH_take (.bool false) (by rfl) (by rfl) (fun w' hS=>?_) ?_
  ·go_simp
  simp only [zA,zB,zC,Act.put,zD,zE,zF]
  refine wpScriptH_take (.bool false) (by rfl) (by rfl) (fun w' hS=>?_) ?_
  ·go_simp
  simp only [zA,zB,zC,Act.put,zD,zE,zF]
  refine wpScriptH_take (.int .i64 0) (by rfl) (by rfl) (fun w' hS=>?_) ?_
  ·go_simp
  simp only [zA,zB,zC,Act.put,zD,zE,zF]
  refine wpScriptH_take (.bool true) (by rfl) (by rfl) (fun w' hS=>?_) ?_
  ·go_simp
  simp only [zA,zB,zC,Act.put,zD,zE,zF]
  refine wpScriptH_take (.bool true) (by rfl) (by rfl) (fun w' hS=>?_) ?_
  ·go_simp
  simp only [zA,zB,zC,Act.put,zD,zE,zF]
  refine wpScriptH_take (.int .u64 (st:Int)) (by rfl) (by rfl) (fun w' hS=>?_) ?_
  ·go_simp
  simp only [zA,zB,zC,Act.put,zD,zE,zF]
  refine wpScriptH_take (.pointer (some ⟨w.heap.size,0,none⟩)) (by rfl) (by rfl) (fun w' hS=>?_) ?_
  ·go_simp
  simp only [zA,zB,zC,Act.put,zD,zE,zF]
  refine wpScriptH_take (.int .u64 (st:Int)) (by rfl) (by rfl) (fun w' hS=>?_) ?_
  ·obtain ⟨⟨s0,s1⟩,s2⟩:=hS
   go_simp
  simp only [zA,zB,zC,Act.put,zD,zE,zF]
  refine wpScriptH_take (.bool true) (by rfl) (by rfl) (fun w' hS=>?_) ?_
  ·go_simp
  simp only [zA,zB,zC,Act.put,zD,zE,zF]
  refine wpScriptH_take (.bool true) (by rfl) (by rfl) (fun w' hS=>?_) ?_
  ·go_simp
  simp only [zA,zB,zC,Act.put,zD,zE,zF]
  refine wpScriptH_take (.bool true) (by rfl) (by rfl) (fun w' hS=>?_) ?_
  ·go_simp
  simp only [zA,zB,zC,Act.put,zD,zE,zF]
  refine wpScriptH_take (.bool true) (by rfl) (by rfl) (fun w' hS=>?_) ?_
  ·go_simp
  simp only [zA,zB,zC,Act.put,zD,zE,zF]
  have c80:=HK86.out.cell 0
  have c81:=HK86.out.cell 1
  have z80:=HK86.out.frozen 0
  have z81:=HK86.out.frozen 1
  refine wpScriptH_do (by rfl) ?_
  go_wp2_with fail
  try rw [show w.heap.size+1+1=w.heap.size+2 from rfl]
  have hx7:RgX B (([w.heap.size,w.heap.size+1,w.heap.size+2,g12]++E)++bs) a x y q gr (T+800) N st (tkL nm st l) ((w6d.setCell ⟨w.heap.size+2,0,none⟩ (.int .u64 (st:Int))).setCell ⟨w.heap.size+2,1,none⟩ (.slice A4 n4 c4)):=(HX6d.out.setCell HSt.out (by show G≤w.heap.size+2;have:=HGe.out;omega) (by simp) _).setCell HSt.out (by show G≤w.heap.size+2;have:=HGe.out;omega) (by simp) _
  have hk7:Blk ((w6d.setCell ⟨w.heap.size+2,0,none⟩ (.int .u64 (st:Int))).setCell ⟨w.heap.size+2,1,none⟩ (.slice A4 n4 c4)) (w.heap.size+2) 130 #[.int .u64 (st:Int), .slice A4 n4 c4]:=(HK86.out.set_ 0 _).set_ 1 _
  have hne:g12≠w.heap.size+2:=by have:=HLt12.out;omega
  have hk127:Blk ((w6d.setCell ⟨w.heap.size+2,0,none⟩ (.int .u64 (st:Int))).setCell ⟨w.heap.size+2,1,none⟩ (.slice A4 n4 c4)) g12 130 #[.int .u64 (st:Int), .slice A4 n4 c4]:=(HK126.out.far hne _).far hne _
  have hk67:Blk ((w6d.setCell ⟨w.heap.size+2,0,none⟩ (.int .u64 (st:Int))).setCell ⟨w.heap.size+2,1,none⟩ (.slice A4 n4 c4)) w.heap.size 130 #[.int .u64 (st:Int), .slice A n c]:=(HK66.out.far (by simp) _).far (by simp) _
  have hb7:Below w.heap.size w6d ((w6d.setCell ⟨w.heap.size+2,0,none⟩ (.int .u64 (st:Int))).setCell ⟨w.heap.size+2,1,none⟩ (.slice A4 n4 c4)):=((Below.refl _ _).setCell (by simp) _).setCell (by simp) _
  have HX7:=hid hx7
  have HB7:=hid hb7
  have d0:=hk7.cell 0
  have d1:=hk7.cell 1
  refine ⟨⟨⟨hk127.cell 0,hk127.cell 1⟩,hk67.cell 0⟩,?_⟩
  have HRd7:Hid (RlIn (([w.heap.size,w.heap.size+1,w.heap.size+2,g12]++E)++bs) A4 n4 c4 rl4 ((w6d.setCell ⟨w.heap.size+2,0,none⟩ (.int .u64 (st:Int))).setCell ⟨w.heap.size+2,1,none⟩ (.slice A4 n4 c4))):=hid (by
   have h6:=HRd5.out.kept HKe6d.out HB6d.out.size
   have hc:Chg (fun k=>k=w.heap.size+2) w6d ((w6d.setCell ⟨w.heap.size+2,0,none⟩ (.int .u64 (st:Int))).setCell ⟨w.heap.size+2,1,none⟩ (.slice A4 n4 c4)):=((Chg.refl (fun k=>k=w.heap.size+2) w6d).setCell (p:=⟨w.heap.size+2,0,none⟩) (.inl rfl) _).setCell (p:=⟨w.heap.size+2,1,none⟩) (.inl rfl) _
   exact ⟨h6.cap,(reads_chg h6.rd hc (Nat.le_refl _) HNe.out).more hc.size,h6.at_⟩)
  clear hx7 hk7 hk127 hk67 hb7 c80 c81 z80 z81
  generalize ((w6d.setCell ⟨w.heap.size+2,0,none⟩ (.int .u64 (st:Int))).setCell ⟨w.heap.size+2,1,none⟩ (.slice A4 n4 c4))=w7 at *
  refine wpScriptH_take (.bool true) (by rfl) (by rfl) (fun w' hS=>?_) ?_
  ·go_simp
  simp only [zA,zB,zC,Act.put,zD,zE,zF]
  show wpList _ _ _ _ _ _
  simp only [List.drop_succ_cons,List.drop_zero]
  refine NoPanic.normal ?_
  go_wp2_with fail
  have hsub:∀ g∈bs,g∈(([w.heap.size,w.heap.size+1,w.heap.size+2,g12]++E)++bs):=fun g hg=>List.mem_append_right _ hg
  have hkp:KeptB bs w w7:=((kept_of_below HB5.out HX.out.lts).trans (HKe6d.out.less hsub)).trans (kept_of_below HB7.out HX.out.lts)
  have hBn:B≤w.heap.size:=HX.out.rgW.size
  exact bodyPost_ret (v := .tuple #[.agg #[.int .u64 (st:Int), .slice A4 n4 c4], .bool true]) (by simp [results,Tryz.results62,go_sem,d0,d1]) rfl ⟨A4,n4,c4,st,_,rl4,_,rfl,hid ⟨Nat.le_succ _,HX7.out,HDl.out.2,HRd7.out,hsub,(HB5.out.mono hBn).trans (HB6d.out.trans (HB7.out.mono hBn)),hkp,HQ7.out⟩⟩
 ·have HTk':Hid (Calls Tryz.prog 146 #[.pointer (some ⟨gr,0,none⟩), .iface 59 (.pointer (some ⟨y.d,0,none⟩)), .string nm] w5 fun e w'=>e = .returned (.tuple #[.int .u64 0, .int .i64 (cd:Int)])∧RgX B (([w.heap.size,w.heap.size+1,w.heap.size+2,g12]++E)++bs) a x y q gr (T+800) N st (tkL nm st l) w'∧Below B w5 w'∧KeptB (([w.heap.size,w.heap.size+1,w.heap.size+2,g12]++E)++bs) w5 w'):=hid (by
   have h1:=HTk.out
   rw [if_neg hc0] at h1
   exact h1)
  have dc:((cd:Int) != 0)=true:=by rw [bne,beq_eq_false_iff_ne.2 (by omega)];rfl
  clear HTk hc0
  go_upto_region 11 with (go_at_call 146;refine HTk'.out.mono ?_;rintro e w6 ⟨rfl,hx6,hb6,hk6⟩;have HX6:=hid hx6;have HB6:=hid hb6;have HKe6:=hid hk6;clear hx6 hb6 hk6)
  have HK126:Hid (Blk w6.drew g12 130 #[.int .u64 (st:Int), .slice A4 n4 c4]):=hid (HKe6.out.blk HK12.out (by simp)).drew
  have HK66:Hid (Blk w6.drew w.heap.size 130 #[.int .u64 (st:Int), .slice A n c]):=hid (HKe6.out.blk HK65.out (by simp)).drew
  have HK86:Hid (Blk w6.drew (w.heap.size+2) 130 #[.int .u64 0, .slice none 0 0]):=hid (HKe6.out.blk HK85.out (by simp)).drew
  have HX6d:=hid (HX6.out.below (Below.refl _ _).drew)
  have HB6d:Hid (Below B w5 w6.drew):=hid HB6.out.drew
  have HKe6d:Hid (KeptB (([w.heap.size,w.heap.size+1,w.heap.size+2,g12]++E)++bs) w5 w6.drew):=hid HKe6.out
  clear c71 HX6 HB6 HKe6
  refine wp_region_scriptH (fun w'=>(w'.cell? ⟨g12,0,none⟩=some (.int .u64 (st:Int))∧w'.cell? ⟨g12,1,none⟩=some (.slice A4 n4 c4))∧w'.cell? ⟨w.heap.size,0,none⟩=some (.int .u64 (st:Int))) 24 [] [(1,0),(1,1),(1,2),(1,3),(1,4),(1,5),(1,6),(1,7),(1,8),(1,9),(1,10),(1,11),(1,12),(1,13),(1,14),(1,15),(1,16),(1,17),(1,18),(1,19),(1,20),(1,21),(0,22),(1,23)] (by kernel_rfl) (by kernel_rfl) ⟨⟨HK126.out.cell 0,HK126.out.cell 1⟩,HK66.out.cell 0⟩ ?_
  generalize w6.drew=w6d at *
  refine wpScriptH_take (.agg #[.int .u64 (st:Int), .slice A4 n4 c4]) (by rfl) (by rfl) (fun w' hS=>?_) ?_
  ·obtain ⟨⟨s0,s1⟩,s2⟩:=hS
   go_simp
  simp only [zA,zB,Act.put,zD,zE,zF]
  refine wpScriptH_take (.int .i64 (cd:Int)) (by rfl) (by rfl) (fun w' hS=>?_) ?_
  ·go_simp
  simp only [zA,zB,zC,Act.put,zD,zE,zF]
  refine wpScriptH_take (.int .i64 (cd:Int)) (by rfl) (by rfl) (fun w' hS=>?_) ?_
  ·go_simp
  simp only [zA,zB,zC,Act.put,zD,zE,zF]
  refine wpScriptH_take (.bool true) (by rfl) (by rfl) (fun w' hS=>?_) ?_
  ·go_simp
  simp only [zA,zB,zC,Act.put,zD,zE,zF]
  refine wpScriptH_take (.bool true) (by rfl) (by rfl) (fun w' hS=>?_) ?_
  ·go_simp
  simp only [zA,zB,zC,Act.put,zD,zE,zF]
  refine wpScriptH_take (.int .i64 (cd:Int)) (by rfl) (by rfl) (fun w' hS=>?_) ?_
  ·go_simp
  simp only [zA,zB,zC,Act.put,zD,zE,zF]
  refine wpScriptH_take (.bool true) (by rfl) (by rfl) (fun w' hS=>?_) ?_
  ·go_simp
  simp only [zA,zB,zC,Act.put,zD,zE,zF]
  refine wpScriptH_take (.bool true) (by rfl) (by rfl) (fun w' hS=>?_) ?_
  ·go_simp
  simp only [zA,zB,zC,Act.put,zD,zE,zF]
  refine wpScriptH_take (.int .u64 0) (by rfl) (by rfl) (fun w' hS=>?_) ?_
  ·go_simp
  simp only [zA,zB,zC,Act.put,zD,zE,zF]
  refine wpScriptH_take (.bool true) (by rfl) (by rfl) (fun w' hS=>?_) ?_
  ·go_simp
  simp only [zA,zB,zC,Act.put,zD,zE,zF]
  refine wpScriptH_take (.bool true) (by rfl) (by rfl) (fun w' hS=>?_) ?_
  ·go_simp
  simp only [zA,zB,zC,Act.put,zD,zE,zF]
  refine wpScriptH_take (.bool true) (by rfl) (by rfl) (fun w' hS=>?_) ?_
  ·go_simp
  simp only [zA,zB,zC,Act.put,zD,zE,zF]
  refine wpScriptH_skip (by rfl) (by rfl) ?_
  simp only [zA,zB,zC,Act.put,zD,zE,zF]
  refine wpScriptH_skip (by rfl) (by rfl) ?_
  simp only [zA,zB,zC,Act.put,zD,zE,zF]
  refine wpScriptH_skip (by rfl) (by rfl) ?_
  simp only [zA,zB,zC,Act.put,zD,zE,zF]
  refine wpScriptH_skip (by rfl) (by rfl) ?_
  simp only [zA,zB,zC,Act.put,zD,zE,zF]
  refine wpScriptH_skip (by rfl) (by rfl) ?_
  simp only [zA,zB,zC,Act.put,zD,zE,zF]
  refine wpScriptH_skip (by rfl) (by rfl) ?_
  simp only [zA,zB,zC,Act.put,zD,zE,zF]
  refine wpScriptH_skip (by rfl) (by rfl) ?_
  simp only [zA,zB,zC,Act.put,zD,zE,zF]
  refine wpScriptH_skip (by rfl) (by rfl) ?_
  simp only [zA,zB,zC,Act.put,zD,zE,zF]
  refine wpScriptH_take (.bool true) (by rfl) (by rfl) (fun w' hS=>?_) ?_
  ·go_simp
  simp only [zA,zB,zC,Act.put,zD,zE,zF]
  refine wpScriptH_take (.bool true) (by rfl) (by rfl) (fun w' hS=>?_) ?_
  ·go_simp
  simp only [zA,zB,zC,Act.put,zD,zE,zF]
  have c80:=HK86.out.cell 0
  have c81:=HK86.out.cell 1
  have z80:=HK86.out.frozen 0
  have z81:=HK86.out.frozen 1
  refine wpScriptH_do (by rfl) ?_
  go_wp2_with fail
  try rw [show w.heap.size+1+1=w.heap.size+2 from rfl]
  have hx7:RgX B (([w.heap.size,w.heap.size+1,w.heap.size+2,g12]++E)++bs) a x y q gr (T+800) N st (tkL nm st l) ((w6d.setCell ⟨w.heap.size+2,0,none⟩ (.int .u64 (st:Int))).setCell ⟨w.heap.size+2,1,none⟩ (.slice A4 n4 c4)):=(HX6d.out.setCell HSt.out (by show G≤w.heap.size+2;have:=HGe.out;omega) (by simp) _).setCell HSt.out (by show G≤w.heap.size+2;have:=HGe.out;omega) (by simp) _
  have hk7:Blk ((w6d.setCell ⟨w.heap.size+2,0,none⟩ (.int .u64 (st:Int))).setCell ⟨w.heap.size+2,1,none⟩ (.slice A4 n4 c4)) (w.heap.size+2) 130 #[.int .u64 (st:Int), .slice A4 n4 c4]:=(HK86.out.set_ 0 _).set_ 1 _
  have hne:g12≠w.heap.size+2:=by have:=HLt12.out;omega
  have hk127:Blk ((w6d.setCell ⟨w.heap.size+2,0,none⟩ (.int .u64 (st:Int))).setCell ⟨w.heap.size+2,1,none⟩ (.slice A4 n4 c4)) g12 130 #[.int .u64 (st:Int), .slice A4 n4 c4]:=(HK126.out.far hne _).far hne _
  have hk67:Blk ((w6d.setCell ⟨w.heap.size+2,0,none⟩ (.int .u64 (st:Int))).setCell ⟨w.heap.size+2,1,none⟩ (.slice A4 n4 c4)) w.heap.size 130 #[.int .u64 (st:Int), .slice A n c]:=(HK66.out.far (by simp) _).far (by simp) _
  have hb7:Below w.heap.size w6d ((w6d.setCell ⟨w.heap.size+2,0,none⟩ (.int .u64 (st:Int))).setCell ⟨w.heap.size+2,1,none⟩ (.slice A4 n4 c4)):=((Below.refl _ _).setCell (by simp) _).setCell (by simp) _
  have HX7:=hid hx7
  have HB7:=hid hb7
  have d0:=hk7.cell 0
  have d1:=hk7.cell 1
  refine ⟨⟨⟨hk127.cell 0,hk127.cell 1⟩,hk67.cell 0⟩,?_⟩
  have HRd7:Hid (RlIn (([w.heap.size,w.heap.size+1,w.heap.size+2,g12]++E)++bs) A4 n4 c4 rl4 ((w6d.setCell ⟨w.heap.size+2,0,none⟩ (.int .u64 (st:Int))).setCell ⟨w.heap.size+2,1,none⟩ (.slice A4 n4 c4))):=hid (by
   have h6:=HRd5.out.kept HKe6d.out HB6d.out.size
   have hc:Chg (fun k=>k=w.heap.size+2) w6d ((w6d.setCell ⟨w.heap.size+2,0,none⟩ (.int .u64 (st:Int))).setCell ⟨w.heap.size+2,1,none⟩ (.slice A4 n4 c4)):=((Chg.refl (fun k=>k=w.heap.size+2) w6d).setCell (p:=⟨w.heap.size+2,0,none⟩) (.inl rfl) _).setCell (p:=⟨w.heap.size+2,1,none⟩) (.inl rfl) _
   exact ⟨h6.cap,(reads_chg h6.rd hc (Nat.le_refl _) HNe.out).more hc.size,h6.at_⟩)
  clear hx7 hk7 hk127 hk67 hb7 c80 c81 z80 z81
  generalize ((w6d.setCell ⟨w.heap.size+2,0,none⟩ (.int .u64 (st:Int))).setCell ⟨w.heap.size+2,1,none⟩ (.slice A4 n4 c4))=w7 at *
  refine wpScriptH_take (.bool true) (by rfl) (by rfl) (fun w' hS=>?_) ?_
  ·go_simp
  simp only [zA,zB,zC,Act.put,zD,zE,zF]
  show wpList _ _ _ _ _ _
  simp only [List.drop_succ_cons,List.drop_zero]
  refine NoPanic.normal ?_
  go_wp2_with fail
  have hsub:∀ g∈bs,g∈(([w.heap.size,w.heap.size+1,w.heap.size+2,g12]++E)++bs):=fun g hg=>List.mem_append_right _ hg
  have hkp:KeptB bs w w7:=((kept_of_below HB5.out HX.out.lts).trans (HKe6d.out.less hsub)).trans (kept_of_below HB7.out HX.out.lts)
  have hBn:B≤w.heap.size:=HX.out.rgW.size
  exact bodyPost_ret (v := .tuple #[.agg #[.int .u64 (st:Int), .slice A4 n4 c4], .bool true]) (by simp [results,Tryz.results62,go_sem,d0,d1]) rfl ⟨A4,n4,c4,st,_,rl4,_,rfl,hid ⟨Nat.le_succ _,HX7.out,HDl.out.2,HRd7.out,hsub,(HB5.out.mono hBn).trans (HB6d.out.trans (HB7.out.mono hBn)),hkp,HQ7.out⟩⟩
end
end
section
open Go.RowKit Go.Maps
theorem do_each {B G:Nat} {bs:List Nat} {a:DA} {x:HA} {y:WA} {q gr T N st:Nat} {l rl:List (List Nat × Nat)} {w:World} (h:RgX B bs a x y q gr T N st l w) (hs:StatB B x y gr G) (hG:G≤w.heap.size) (hrl:RLk l rl) (A:Option Addr) (n c:Nat) (hr:RlIn bs A n c rl w) (kd:Nat) (nm:ByteArray) (hkd:kd < 256) (hnm:nm.size≤9223372036854775807) (hst:st < 1000) (hT:T+800≤1000000000) (hN:N≤1000000000) :
  Calls Tryz.prog 62 #[.pointer (some ⟨gr,0,none⟩), .iface 59 (.pointer (some ⟨y.d,0,none⟩)), .agg #[.int .u64 (st:Int), .slice A n c], .agg #[.int .u8 (kd:Int), .string nm]] w (RetDo B bs A a x y q gr T N st w):=by
 by_cases h0:kd % 4=0
 ·exact do_next h hs hG hrl A n c hr kd nm hkd h0 hst hT hN
 ·by_cases h3:kd % 4=3
  ·exact do_drop h hs hG hrl A n c hr kd nm hkd h3 hnm hT hN
  ·exact do_take h hs hG hrl A n c hr kd nm hkd h0 h3 hnm hT hN
def PlI (B G gm:Nat) (w0:World) (a:DA) (x:HA) (y:WA) (q gr k:Nat) (w:World):Prop:=∃ st l rl A n c bs,RgX B bs a x y q gr (3000+800 * k) 10 st l w∧RLk l rl∧RlIn bs A n c rl w∧Blk w gm 130 #[.int .u64 (st:Int), .slice A n c]∧gm∈bs∧(∀ ad,A=some ad→ad.block≠gm)∧st≤k∧Below B w0 w
def RgC (b:Nat) (a:DA) (x:HA) (y:WA) (q st:Nat) (l:List (List Nat × Nat)) (w:World):Prop:=∃ cs S cur,RgS a 149 0 3 x y cs (fun _=>none) 0 0 b S cur q st l w∧b≤w.heap.size
section
variable {B b:Nat} {bs:List Nat} {a:DA} {x:HA} {y:WA} {q gr T N st:Nat} {l:List (List Nat × Nat)} {w w':World}
theorem RgX.crash (h:RgX B bs a x y q gr T N st l w) (A:Option Addr) (n c:Nat) :
  Calls Tryz.prog 29 #[.pointer (some ⟨y.g,0,none⟩), .slice A n c, .int .i64 (-1)] w fun e w'=>∃ a' x' y',e = .returned (.pointer (some ⟨y'.g,0,none⟩))∧RgC w.heap.size a' x' y' q st l w'∧Below w.heap.size w w':=by
 obtain ⟨cs,f,m,S,cur,h1,h2,h3,h4,h5⟩:=h
 refine (worldCrash_any h1.bw w.heap.size ⟨h4,Nat.le_refl _⟩ A n c).mono ?_
 rintro e w' ⟨a',S',x',y',rfl,hbw,hb⟩
 exact ⟨a',x',y',rfl,⟨cs,S',cur,⟨hbw,h1.live,h1.words,h1.ok,h1.link⟩,hb.size⟩,hb⟩
theorem RgC.below (h:RgC b a x y q st l w) (hb:Below w.heap.size w w'):RgC b a x y q st l w':=by
 obtain ⟨cs,S,cur,h1,h2⟩:=h
 exact ⟨cs,S,cur,h1.below hb,Nat.le_trans h2 hb.size⟩
theorem RgC.cells (h:RgC b a x y q st l w):w.cell? ⟨y.g,1,none⟩=some (.pointer (some ⟨a.th 0,0,none⟩))∧w.cell? ⟨y.g,3,none⟩=some (.pointer (some ⟨y.d,0,none⟩)):=by
 obtain ⟨cs,S,cur,h1,_⟩:=h
 exact ⟨h1.bw.blk.cell 1,h1.bw.blk.cell 3⟩
theorem RgC.linked (h:RgC b a x y q st l w):Calls Tryz.prog 33 #[.pointer (some ⟨y.g,0,none⟩), .int .i64 0] w fun e w'=>e = .returned (.int .u64 (q:Int))∧w'=w.drew:=by
 obtain ⟨cs,S,cur,h1,_⟩:=h
 have h2:=linked_any h1.bw 0 (by decide)
 rw [show 416+0=416 from rfl,h1.link] at h2
 exact h2
theorem RgC.open_ (h:RgC b a x y q st l w):Calls Tryz.prog 64 #[.iface 59 (.pointer (some ⟨y.d,0,none⟩)), .int .u64 (q:Int)] w fun e w'=>∃ gr,e = .returned (.tuple #[.pointer (some ⟨gr,0,none⟩), .int .i64 0])∧RgX b [] a x y q gr 0 0 st l w'∧Below w.heap.size w w':=by
 obtain ⟨cs,S,cur,h1,h2⟩:=h
 have h3:=snOpen_any h1.bw.sd q h1.lo.2
 refine h3.mono (fun e w' h4=>?_)
 obtain ⟨h4,hb⟩:=h4
 rw [h1.chk,if_pos rfl] at h4
 obtain ⟨g,hg,he,hk⟩:=h4
 refine ⟨g,he,⟨cs,fun _=>none,0,S,cur,h1.below hb,hk,fun hz=>?_,Nat.le_trans h2 hb.size,fun g' hg'=>absurd hg' (by simp)⟩,hb⟩
 have:=sfp_lt h1.bw.sd hz
 omega
theorem RgX.load0 (h:RgX B bs a x y q gr T N st l w):Calls Tryz.prog 65 #[.pointer (some ⟨a.th 0,0,none⟩), .int .u64 (pOff q:Int)] w fun e w'=>e = .returned (.int .u64 (st:Int))∧w=w':=by
 obtain ⟨cs,f,m,S,cur,h1,_⟩:=h
 have hp:=h1.pay (by decide)
 have h2:=hp.inl
 have h3:=load_dev h1.bw.sd.ds.dev (j:=0) (by decide) (pOff q) hp.al (by omega)
 have h4:=h1.words 0 (by simp)
 rw [show pOff q / 8+0=pOff q / 8 from rfl] at h4
 rw [h4] at h3
 exact h3
theorem RgX.at0 (h:RgX B bs a x y q gr T N st l w) (W:World):Calls Tryz.prog 49 #[.int .u64 (q:Int), .int .i64 0] W fun e w'=>e = .returned (.int .u64 (pOff q:Int))∧W=w':=by
 have h1:=at_any q 0 (by decide) W
 rw [h.lt64.2.1] at h1
 exact h1
end
end
end Go.Proofs.YtfkjjoglnmeciaaGreatDoor
