/- The walks and laws that the claim leans on, part 50. -/
import Derived.Test.YtfkjjoglnmeciaaGreatDoorJbw
set_option maxRecDepth 100000
set_option maxHeartbeats 16000000
namespace Go.Proofs.YtfkjjoglnmeciaaGreatDoor
open Go.Lib (hid)
section
open Go.RowKit Go.Maps
section
variable {B G:Nat} {bs:List Nat} {a:DA} {x:HA} {y:WA} {q gr T N st:Nat} {l rl:List (List Nat × Nat)} {w w':World}
theorem kept_of_below {n:Nat} (hb:Below n w w') (hs:∀ g∈bs,g < n):KeptB bs w w':=fun g hg=>hb.block g (hs g hg)
def RetDo (B:Nat) (bs:List Nat) (A:Option Addr) (a:DA) (x:HA) (y:WA) (q gr T N st:Nat) (w:World) (e:Ending) (w':World):Prop :=
 ∃ (A':Option Addr) (n' c' st':Nat) (l' rl':List (List Nat × Nat)) (bs':List Nat),e = .returned (.tuple #[.agg #[.int .u64 (st':Int), .slice A' n' c'], .bool true])∧Hid (st'≤st+1∧RgX B bs' a x y q gr (T+800) N st' l' w'∧RLk l' rl'∧RlIn bs' A' n' c' rl' w'∧(∀ g∈bs,g∈bs')∧Below B w w'∧KeptB bs w w'∧(A'=A∨∀ ad,A'=some ad→w.heap.size≤ad.block))
theorem do_next (h:RgX B bs a x y q gr T N st l w) (hs:StatB B x y gr G) (hG:G≤w.heap.size) (hrl:RLk l rl) (A:Option Addr) (n c:Nat) (hr:RlIn bs A n c rl w) (kd:Nat) (nm:ByteArray) (hkd:kd < 256) (h0:kd % 4=0) (hst:st < 1000) (hT:T+800≤1000000000) (hN:N≤1000000000) :
  Calls Tryz.prog 62 #[.pointer (some ⟨gr,0,none⟩), .iface 59 (.pointer (some ⟨y.d,0,none⟩)), .agg #[.int .u64 (st:Int), .slice A n c], .agg #[.int .u8 (kd:Int), .string nm]] w (RetDo B bs A a x y q gr T N st w):=by
 obtain ⟨W1,hW1⟩:∃ W1,((w.alloc (.cells #[.int .u64 (st:Int), .slice A n c] 130)).alloc (.cells #[.int .u8 (kd:Int), .string nm] 132)).alloc (.cells #[.int .u64 0, .slice none 0 0] 130)=W1:=⟨_,rfl⟩
 have hb1:Below w.heap.size w W1:=by rw [← hW1];exact (((Below.refl _ _).alloc (Nat.le_refl _) _).alloc (by simp) _).alloc (by simp;omega) _
 have hk6:Blk W1 w.heap.size 130 #[.int .u64 (st:Int), .slice A n c]:=by rw [← hW1];exact ((Blk.new _ _ _).alloc _).alloc _
 have hk7:Blk W1 (w.heap.size+1) 132 #[.int .u8 (kd:Int), .string nm]:=by
  rw [← hW1]
  refine Blk.alloc ?_ _
  have h1:=Blk.new (w.alloc (.cells #[.int .u64 (st:Int), .slice A n c] 130)) 132 #[.int .u8 (kd:Int), .string nm]
  rw [show (w.alloc (.cells #[.int .u64 (st:Int), .slice A n c] 130)).heap.size=w.heap.size+1 by simp] at h1
  exact h1
 have hk8:Blk W1 (w.heap.size+2) 130 #[.int .u64 0, .slice none 0 0]:=by
  rw [← hW1]
  have h1:=Blk.new ((w.alloc (.cells #[.int .u64 (st:Int), .slice A n c] 130)).alloc (.cells #[.int .u8 (kd:Int), .string nm] 132)) 130 #[.int .u64 0, .slice none 0 0]
  rw [show ((w.alloc (.cells #[.int .u64 (st:Int), .slice A n c] 130)).alloc (.cells #[.int .u8 (kd:Int), .string nm] 132)).heap.size=w.heap.size+2 by simp] at h1
  exact h1
 have HX:=hid h
 have HRl:=hid hr
 have HLk:=hid hrl
 have HB1:=hid hb1
 have HW1:=hid hW1
 have HK6:=hid hk6
 have HK8:=hid hk8
 have HT:=hid (And.intro hT hN)
 have HSt:=hid hs
 have HGe:=hid hG
 have HNx:Hid (Calls Tryz.prog 144 #[.pointer (some ⟨gr,0,none⟩), .iface 59 (.pointer (some ⟨y.d,0,none⟩))] W1 fun e w'=>(∃ g:Nat,W1.heap.size≤g∧e = .returned (.tuple #[.int .u64 ((st+1:Nat):Int), .slice (some ⟨g,0,none⟩) 1 1])∧Blk w' g 114 #[.int .u64 (pOff q:Int), .int .u64 ((st+1:Nat):Int)])∧Below W1.heap.size W1 w'):=hid (by
  have h1:=(h.below hb1).rgW.next_
  rw [if_neg (by omega)] at h1
  exact h1)
 have k70:=hk7.cell 0
 have e0:((kd:Int) % 4 == 0)=true:=by rw [beq_iff_eq];omega
 have hw:IntKind.u64.wrap ((st:Int)+1)=(st:Int)+1:=by rw [IntKind.wrap_u64];omega
 clear h hrl hr hb1 hk6 hk7 hk8 hW1 hT hN hs hG
 go_enter Tryz.func62,Tryz.ntmps62
 go_upto_region 1 with fail
 rw [HW1.out]
 go_upto_region 4 with (go_at_call 144;refine HNx.out.mono ?_;rintro e w4 ⟨⟨gn,hgn,rfl,hkn⟩,hb4⟩;have HKn:=hid hkn;have HGn:=hid hgn;have HB4:=hid hb4;clear hkn hgn hb4)
 have HX4:=hid (HX.out.below (HB1.out.trans (HB4.out.mono HB1.out.size)))
 have HBw4:=hid (HB1.out.trans (HB4.out.mono HB1.out.size))
 have hk6:=HK6.out.below HB4.out HK6.out.lt
 have HK6':=hid hk6
 have HK8':=hid (HK8.out.below HB4.out HK8.out.lt)
 have c60:=hk6.cell 0
 have c61:=hk6.cell 1
 have z60:=hk6.frozen 0
 clear hk6 k70 HNx
 go_upto_region 5 with fail
 have hb5:Below w.heap.size w (w4.setCell ⟨w.heap.size,0,none⟩ (.int .u64 ((st:Int)+1))).drew:=(HBw4.out.setCell (Nat.le_refl _) _).drew
 have HB5:=hid hb5
 have HK65:Hid (Blk (w4.setCell ⟨w.heap.size,0,none⟩ (.int .u64 ((st:Int)+1))).drew w.heap.size 130 #[.int .u64 ((st:Int)+1), .slice A n c]):=hid (HK6'.out.set_ 0 _).drew
 have HK85:Hid (Blk (w4.setCell ⟨w.heap.size,0,none⟩ (.int .u64 ((st:Int)+1))).drew (w.heap.size+2) 130 #[.int .u64 0, .slice none 0 0]):=hid (HK8'.out.far (by simp) _).drew
 have HKn5:Hid (Blk (w4.setCell ⟨w.heap.size,0,none⟩ (.int .u64 ((st:Int)+1))).drew gn 114 #[.int .u64 (pOff q:Int), .int .u64 ((st+1:Nat):Int)]):=hid (HKn.out.far (by
  show gn≠w.heap.size
  have h1:=HK6.out.lt
  have h2:=HGn.out
  omega) _).drew
 have HSz:Hid (w.heap.size+2 < (w4.setCell ⟨w.heap.size,0,none⟩ (.int .u64 ((st:Int)+1))).drew.heap.size):=hid HK85.out.lt
 have HX5:Hid (RgX B ([w.heap.size,w.heap.size+1,w.heap.size+2]++bs) a x y q gr T N st l (w4.setCell ⟨w.heap.size,0,none⟩ (.int .u64 ((st:Int)+1))).drew):=hid (HX.out.news hb5 _ (fun g hg=>by
  have h1:=HSz.out
  simp at hg
  omega))
 clear hb5 HKn HK6' HK8' HX4 HBw4 HB4 HGn c60 c61 z60
 have HEq:Hid (w4.setCell ⟨w.heap.size,0,none⟩ (.int .u64 ((st:Int)+1))=w4.setCell ⟨w.heap.size,0,none⟩ (.int .u64 ((st:Int)+1))):=hid rfl
 refine wp_region_scriptH (fun w'=>w'.cell? ⟨w.heap.size,0,none⟩=some (.int .u64 ((st:Int)+1))∧w'.cell? ⟨w.heap.size,1,none⟩=some (.slice A n c)) 18 [] [(1,0),(1,1),(1,2),(1,3),(1,4),(1,5),(1,6),(1,7),(1,8),(1,9),(1,10),(1,11),(1,12),(0,13),(1,14),(1,15),(0,16),(1,17)] (by kernel_rfl) (by kernel_rfl) ⟨HK65.out.cell 0,HK65.out.cell 1⟩ ?_
 generalize (w4.setCell ⟨w.heap.size,0,none⟩ (.int .u64 ((st:Int)+1))).drew=w5 at *
 clear HEq
 have HPu:=hid (HX5.out.pubNext (by omega) HKn5.out HT.out.1 HT.out.2)
 refine wpScriptH_take (.agg #[.int .u64 ((st:Int)+1), .slice A n c]) (by rfl) (by rfl) (fun w' hS=>?_) ?_
 ·obtain ⟨s0,s1⟩:=hS
  go_simp
 simp only [zA,zB,Act.put,zD,zE,zF]
 refine wpScriptH_take (.int .u64 ((st:Int)+1)) (by rfl) (by rfl) (fun w' hS=>?_) ?_
 ·go_simp
 simp only [zA,zB,zC,Act.put,zD,zE,zF]
 refine wpScriptH_take (.pointer (some ⟨w.heap.size,0,none⟩)) (by rfl) (by rfl) (fun w' hS=>?_) ?_
 ·go_simp
 simp only [zA,zB,zC,Act.put,zD,zE,zF]
 refine wpScriptH_take (.int .u64 ((st:Int)+1)) (by rfl) (by rfl) (fun w' hS=>?_) ?_
 ·obtain ⟨s0,s1⟩:=hS
  go_simp
 simp only [zA,zB,zC,Act.put,zD,zE,zF]
 refine wpScriptH_take (.bool true) (by rfl) (by rfl) (fun w' hS=>?_) ?_
 ·go_simp
 simp only [zA,zB,zC,Act.put,zD,zE,zF]
 refine wpScriptH_take (.bool true) (by rfl) (by rfl) (fun w' hS=>?_) ?_
 ·go_simp
 simp only [zA,zB,zC,Act.put,zD,zE,zF]
 refine wpScriptH_take (.slice (some ⟨gn,0,none⟩) 1 1) (by rfl) (by rfl) (fun w' hS=>?_) ?_
 ·go_simp
 simp only [zA,zB,zC,Act.put,zD,zE,zF]
 refine wpScriptH_take (.int .i64 1) (by rfl) (by rfl) (fun w' hS=>?_) ?_
 ·go_simp
 simp only [zA,zB,zC,Act.put,zD,zE,zF]
 refine wpScriptH_take (.bool true) (by rfl) (by rfl) (fun w' hS=>?_) ?_
 ·go_simp
 simp only [zA,zB,zC,Act.put,zD,zE,zF]
 refine wpScriptH_take (.bool true) (by rfl) (by rfl) (fun w' hS=>?_) ?_
 ·go_simp
 simp only [zA,zB,zC,Act.put,zD,zE,zF]
 refine wpScriptH_take (.bool true) (by rfl) (by rfl) (fun w' hS=>?_) ?_
 ·go_simp
 simp only [zA,zB,zC,Act.put,zD,zE,zF]
 refine wpScriptH_take (.iface 59 (.pointer (some ⟨y.d,0,none⟩))) (by rfl) (by rfl) (fun w' hS=>?_) ?_
 ·go_simp
 simp only [zA,zB,zC,Act.put,zD,zE,zF]
 refine wpScriptH_take (.slice (some ⟨gn,0,none⟩) 1 1) (by rfl) (by rfl) (fun w' hS=>?_) ?_
 ·go_simp
 simp only [zA,zB,zC,Act.put,zD,zE,zF]
 have hm:=methDPublish (some ⟨y.d,0,none⟩)
 have hah:=aheadDPublish ⟨y.d,0,none⟩
 refine wpScriptH_do (by rfl) ?_
 go_wp2_with (go_at_call 54;refine HPu.out.mono ?_;rintro e w6 ⟨rfl,hx6,hb6,hk6⟩;have HX6:=hid hx6;have HB6:=hid hb6;have HKe6:=hid hk6;clear hx6 hb6 hk6)
 have HK66:=hid (HKe6.out.blk HK65.out (by simp))
 have hk86:=HKe6.out.blk HK85.out (by simp)
 have HK86:=hid hk86
 refine ⟨⟨HK66.out.cell 0,HK66.out.cell 1⟩,?_⟩
 refine wpScriptH_take (.bool true) (by rfl) (by rfl) (fun w' hS=>?_) ?_
 ·go_simp
 simp only [zA,zB,zC,Act.put,zD,zE,zF]
 refine wpScriptH_take (.bool true) (by rfl) (by rfl) (fun w' hS=>?_) ?_
 ·go_simp
 simp only [zA,zB,zC,Act.put,zD,zE,zF]
 have c80:=hk86.cell 0
 have c81:=hk86.cell 1
 have z80:=hk86.frozen 0
 have z81:=hk86.frozen 1
 clear hk86 hm hah
 refine wpScriptH_do (by rfl) ?_
 go_wp2_with fail
 have hx7:RgX B ([w.heap.size,w.heap.size+1,w.heap.size+2]++bs) a x y q gr (T+800) N (st+1) l ((w6.setCell ⟨w.heap.size+2,0,none⟩ (.int .u64 ((st:Int)+1))).setCell ⟨w.heap.size+2,1,none⟩ (.slice A n c)):=(HX6.out.setCell HSt.out (by show G≤w.heap.size+2;have:=HGe.out;omega) (by simp) _).setCell HSt.out (by show G≤w.heap.size+2;have:=HGe.out;omega) (by simp) _
 have hk7:Blk ((w6.setCell ⟨w.heap.size+2,0,none⟩ (.int .u64 ((st:Int)+1))).setCell ⟨w.heap.size+2,1,none⟩ (.slice A n c)) (w.heap.size+2) 130 #[.int .u64 ((st:Int)+1), .slice A n c]:=(HK86.out.set_ 0 _).set_ 1 _
 have hk67:Blk ((w6.setCell ⟨w.heap.size+2,0,none⟩ (.int .u64 ((st:Int)+1))).setCell ⟨w.heap.size+2,1,none⟩ (.slice A n c)) w.heap.size 130 #[.int .u64 ((st:Int)+1), .slice A n c]:=(HK66.out.far (by simp) _).far (by simp) _
 have hb7:Below w.heap.size w6 ((w6.setCell ⟨w.heap.size+2,0,none⟩ (.int .u64 ((st:Int)+1))).setCell ⟨w.heap.size+2,1,none⟩ (.slice A n c)):=((Below.refl _ _).setCell (by simp) _).setCell (by simp) _
 have HX7:=hid hx7
 have HB7:=hid hb7
 have d0:=hk7.cell 0
 have d1:=hk7.cell 1
 refine ⟨⟨hk67.cell 0,hk67.cell 1⟩,?_⟩
 clear hx7 hk7 hk67 hb7 c80 c81 z80 z81
 generalize ((w6.setCell ⟨w.heap.size+2,0,none⟩ (.int .u64 ((st:Int)+1))).setCell ⟨w.heap.size+2,1,none⟩ (.slice A n c))=w7 at *
 refine wpScriptH_take (.bool true) (by rfl) (by rfl) (fun w' hS=>?_) ?_
 ·go_simp
 simp only [zA,zB,zC,Act.put,zD,zE,zF]
 show wpList _ _ _ _ _ _
 simp only [List.drop_succ_cons,List.drop_zero]
 refine NoPanic.normal ?_
 go_wp2_with fail
 have hsub:∀ g∈bs,g∈([w.heap.size,w.heap.size+1,w.heap.size+2]++bs):=fun g hg=>List.mem_append_right _ hg
 have hkp:KeptB bs w w7:=((kept_of_below HB5.out HX.out.lts).trans (HKe6.out.less hsub)).trans (kept_of_below HB7.out HX.out.lts)
 have hsz:w.heap.size≤w7.heap.size:=Nat.le_trans HB5.out.size (Nat.le_trans HB6.out.size HB7.out.size)
 have hBn:B≤w.heap.size:=HX.out.rgW.size
 refine bodyPost_ret (v := .tuple #[.agg #[.int .u64 ((st:Int)+1), .slice A n c], .bool true]) (by simp [results,Tryz.results62,go_sem,d0,d1]) rfl ⟨A,n,c,st+1,l,rl,_,rfl,hid ⟨Nat.le_refl _,HX7.out,HLk.out,(HRl.out.kept hkp hsz).more hsub,hsub,(HB5.out.mono hBn).trans (HB6.out.trans (HB7.out.mono hBn)),hkp, .inl rfl⟩⟩
end
end
section
open Go.RowKit Go.Maps
section
variable {B G:Nat} {bs:List Nat} {a:DA} {x:HA} {y:WA} {q gr T N st:Nat} {l rl:List (List Nat × Nat)} {w w':World}
theorem reads_chg {Z:Fp} {A:Option Addr} {n k b:Nat} {xs:List Value} (h:Reads w b k A n xs) (hc:Chg Z w w') (hb:b≤w.heap.size) (hn:∀ ad,A=some ad→¬ Z ad.block):Reads w' b k A n xs:=by
 refine ⟨h.1,fun hp=>?_⟩
 obtain ⟨ad,hA,hlt,hcl⟩:=h.2 hp
 refine ⟨ad,hA,hlt,fun j u hu=>?_⟩
 rw [← hcl j u hu]
 exact World.cell?_of_block (by
  rw [block_of_add]
  exact hc.block _ (Nat.lt_of_lt_of_le hlt hb) (hn ad hA))
theorem retRf_in {w0 W1:World} {A:Option Addr} {R:List (List Nat × Nat) × Nat} {rl4:List (List Nat × Nat)} {cd:Nat} {e:Ending} (hat:∀ ad,A=some ad→ad.block∈bs) (hsz:w0.heap.size≤W1.heap.size) (hR:R=(rl4,cd)) (h:RetRf W1 A st R e w') :
  ∃ (A':Option Addr) (n' c':Nat),e = .returned (.tuple #[.agg #[.int .u64 (st:Int), .slice A' n' c'], .int .i64 (cd:Int)])∧Hid (n'≤c'∧c'≤9223372036854775807∧Reads w' w'.heap.size 2 A' n' (itCells rl4)∧(∃ E:List Nat,(∀ g∈E,w0.heap.size≤g∧g < w'.heap.size)∧∀ ad,A'=some ad→ad.block∈E++bs∧(ad.block∈bs∨W1.heap.size≤ad.block))∧Below W1.heap.size W1 w'∧(A'=A∨∀ ad,A'=some ad→W1.heap.size≤ad.block)):=by
 subst hR
 obtain ⟨A',n',c',h1,h2,h3,h4,h5,h6⟩:=h
 refine ⟨A',n',c',h1,hid ⟨h2,h3,h4,?_,h6,h5.imp id (fun h ad hA=>(h ad hA).1)⟩⟩
 rcases h5 with h5 | h5
 ·exact ⟨[],(fun g hg=>by cases hg),fun ad hA=>by rw [List.nil_append];exact ⟨hat ad (h5 ▸ hA), .inl (hat ad (h5 ▸ hA))⟩⟩
 ·cases A' with
  | none=>exact ⟨[],(fun g hg=>by cases hg),fun ad hA=>by cases hA⟩
  | some ad =>
   obtain ⟨g1,g2⟩:=h5 ad rfl
   refine ⟨[ad.block],fun g hg=>?_,fun ad' hA=>?_⟩
   ·rw [List.mem_singleton.1 hg]
    exact ⟨Nat.le_trans hsz g1,g2⟩
   ·injection hA with hA
    subst hA
    exact ⟨by simp, .inr g1⟩
theorem do_drop (h:RgX B bs a x y q gr T N st l w) (hs:StatB B x y gr G) (hG:G≤w.heap.size) (hrl:RLk l rl) (A:Option Addr) (n c:Nat) (hr:RlIn bs A n c rl w) (kd:Nat) (nm:ByteArray) (hkd:kd < 256) (h0:kd % 4=3) (hs9:nm.size≤9223372036854775807) (hT:T+800≤1000000000) (hN:N≤1000000000) :
  Calls Tryz.prog 62 #[.pointer (some ⟨gr,0,none⟩), .iface 59 (.pointer (some ⟨y.d,0,none⟩)), .agg #[.int .u64 (st:Int), .slice A n c], .agg #[.int .u8 (kd:Int), .string nm]] w (RetDo B bs A a x y q gr T N st w):=by
 obtain ⟨W1,hW1⟩:∃ W1,((w.alloc (.cells #[.int .u64 (st:Int), .slice A n c] 130)).alloc (.cells #[.int .u8 (kd:Int), .string nm] 132)).alloc (.cells #[.int .u64 0, .slice none 0 0] 130)=W1:=⟨_,rfl⟩
 have hb1:Below w.heap.size w W1:=by rw [← hW1];exact (((Below.refl _ _).alloc (Nat.le_refl _) _).alloc (by simp) _).alloc (by simp;omega) _
 have hk6:Blk W1 w.heap.size 130 #[.int .u64 (st:Int), .slice A n c]:=by rw [← hW1];exact ((Blk.new _ _ _).alloc _).alloc _
 have hk7:Blk W1 (w.heap.size+1) 132 #[.int .u8 (kd:Int), .string nm]:=by
  rw [← hW1]
  refine Blk.alloc ?_ _
  have h1:=Blk.new (w.alloc (.cells #[.int .u64 (st:Int), .slice A n c] 130)) 132 #[.int .u8 (kd:Int), .string nm]
  rw [show (w.alloc (.cells #[.int .u64 (st:Int), .slice A n c] 130)).heap.size=w.heap.size+1 by simp] at h1
  exact h1
 have hk8:Blk W1 (w.heap.size+2) 130 #[.int .u64 0, .slice none 0 0]:=by
  rw [← hW1]
  have h1:=Blk.new ((w.alloc (.cells #[.int .u64 (st:Int), .slice A n c] 130)).alloc (.cells #[.int .u8 (kd:Int), .string nm] 132)) 130 #[.int .u64 0, .slice none 0 0]
  rw [show ((w.alloc (.cells #[.int .u64 (st:Int), .slice A n c] 130)).alloc (.cells #[.int .u8 (kd:Int), .string nm] 132)).heap.size=w.heap.size+2 by simp] at h1
  exact h1
 have HX:=hid h
 have HRl:=hid hr
 have HLk:=hid hrl
 have HB1:=hid hb1
 have HW1:=hid hW1
 have HK6:=hid hk6
 have HK8:=hid hk8
 have HT:=hid (And.intro hT hN)
 have HSt:=hid hs
 have HGe:=hid hG
 obtain ⟨cd,hcd⟩:∃ cd,(rfD nm rl).2=cd:=⟨_,rfl⟩
 obtain ⟨rl4,hrl4⟩:∃ z,(rfD nm rl).1=z:=⟨_,rfl⟩
 have HDr:Hid (Calls Tryz.prog 151 #[.agg #[.int .u64 (st:Int), .slice A n c], .string nm] W1 fun e w'=>∃ (A':Option Addr) (n' c':Nat),e = .returned (.tuple #[.agg #[.int .u64 (st:Int), .slice A' n' c'], .int .i64 (cd:Int)])∧Hid (n'≤c'∧c'≤9223372036854775807∧Reads w' w'.heap.size 2 A' n' (itCells rl4)∧(∃ E:List Nat,(∀ g∈E,w.heap.size≤g∧g < w'.heap.size)∧∀ ad,A'=some ad→ad.block∈E++bs∧(ad.block∈bs∨W1.heap.size≤ad.block))∧Below W1.heap.size W1 w'∧(A'=A∨∀ ad,A'=some ad→W1.heap.size≤ad.block))):=hid ((refDrop_any st A n c rl nm W1 ((hr.rd.below hb1).more hb1.size) (by have h1:=hrl.perm.length_eq;have h2:=h.rgW.ok.len;have h3:=hr.len;omega) hr.cap).mono (fun e w' h=>retRf_in hr.at_ hb1.size (by rw [← hcd,← hrl4]) h))
 have HDl:=hid (hrl.drop (st:=st) h.rgW.ok.nd nm)
 rw [hcd,hrl4] at HDl
 have HK7:=hid hk7
 have k60:=hk6.cell 0
 have k61:=hk6.cell 1
 have k70:=hk7.cell 0
 have k71:=hk7.cell 1
 have e0:((kd:Int) % 4 == 0)=false:=by rw [beq_eq_false_iff_ne];omega
 have e3:((kd:Int) % 4 == 3)=true:=by rw [beq_iff_eq];omega
 clear h hrl hr hb1 hk6 hk7 hk8 hW1 hT hN hs hG
 go_enter Tryz.func62,Tryz.ntmps62
 go_upto_region 1 with fail
 rw [HW1.out]
 clear hcd hrl4
 go_upto_region 8 with (go_at_call 151;refine HDr.out.mono ?_;rintro e w4 ⟨A4,n4,c4,rfl,hq⟩;have HQ4:=hid hq.out;clear hq)
 obtain ⟨q1,q2,q3,⟨E,q4,q5⟩,q6,q7⟩:=HQ4.out
 have HQ7:Hid (A4=A∨∀ ad,A4=some ad→w.heap.size≤ad.block):=hid (q7.imp id (fun h ad hA=>Nat.le_trans HB1.out.size (h ad hA)))
 have hb4:Below w.heap.size w w4:=HB1.out.trans (q6.mono HB1.out.size)
 have hb5:Below w.heap.size w (w4.alloc (.cells #[.int .u64 (st:Int), .slice A4 n4 c4] 130)).drew:=(hb4.alloc hb4.size _).drew
 have hs5:(w4.alloc (.cells #[.int .u64 (st:Int), .slice A4 n4 c4] 130)).drew.heap.size=w4.heap.size+1:=by simp
 have hl8:=HK8.out.lt
 have hl4:=q6.size
 have HX5:Hid (RgX B (([w.heap.size,w.heap.size+1,w.heap.size+2,w4.heap.size]++E)++bs) a x y q gr T N st l (w4.alloc (.cells #[.int .u64 (st:Int), .slice A4 n4 c4] 130)).drew):=hid (HX.out.news hb5 _ (fun g hg=>by
  rcases List.mem_append.1 hg with hg | hg
  ·simp at hg
   omega
  ·have:=q4 g hg
   omega))
 have HRd5:Hid (RlIn (([w.heap.size,w.heap.size+1,w.heap.size+2,w4.heap.size]++E)++bs) A4 n4 c4 rl4 (w4.alloc (.cells #[.int .u64 (st:Int), .slice A4 n4 c4] 130)).drew):=hid ⟨⟨q1,q2⟩,(q3.alloc (Nat.le_refl _) _).more (by simp),fun ad hA=>by
  have:=(q5 ad hA).1
  simp at this ⊢
  rcases this with h | h
  ·exact .inr (.inr (.inr (.inr (.inl h))))
  ·exact .inr (.inr (.inr (.inr (.inr h))))⟩
 have HB5:=hid hb5
 have HK75:Hid (Blk (w4.alloc (.cells #[.int .u64 (st:Int), .slice A4 n4 c4] 130)).drew (w.heap.size+1) 132 #[.int .u8 (kd:Int), .string nm]):=hid ((HK7.out.below q6 HK7.out.lt).alloc _).drew
 have HK85:Hid (Blk (w4.alloc (.cells #[.int .u64 (st:Int), .slice A4 n4 c4] 130)).drew (w.heap.size+2) 130 #[.int .u64 0, .slice none 0 0]):=hid ((HK8.out.below q6 HK8.out.lt).alloc _).drew
 have HK12:Hid (Blk (w4.alloc (.cells #[.int .u64 (st:Int), .slice A4 n4 c4] 130)).drew w4.heap.size 130 #[.int .u64 (st:Int), .slice A4 n4 c4]):=hid (Blk.new _ _ _).drew
 have HNe:Hid (∀ ad,A4=some ad→ad.block≠w.heap.size+2):=hid (fun ad hA e=>by
  rcases (q5 ad hA).2 with h | h
  ·have:=HX.out.lts _ h
   omega
  ·omega)
 have HLt12:Hid (w.heap.size+2 < w4.heap.size):=hid (Nat.lt_of_lt_of_le hl8 hl4)
 clear q1 q2 q3 q4 q5 q6 q7 hb4 hb5 hs5 hl8 hl4 HQ4 HDr k60 k61 k70 k71
 refine wp_region_scriptH (fun w'=>(w'.cell? ⟨w4.heap.size,0,none⟩=some (.int .u64 (st:Int))∧w'.cell? ⟨w4.heap.size,1,none⟩=some (.slice A4 n4 c4))∧w'.cell? ⟨w.heap.size+1,1,none⟩=some (.string nm)) 10 [] [(1,0),(1,1),(1,2),(1,3),(1,4),(1,6),(0,5),(1,7),(0,8),(1,9)] (by kernel_rfl) (by kernel_rfl) ⟨⟨HK12.out.cell 0,HK12.out.cell 1⟩,HK75.out.cell 1⟩ ?_
 generalize (w4.alloc (.cells #[.int .u64 (st:Int), .slice A4 n4 c4] 130)).drew=w5 at *
 have HDp:=hid (HX5.out.drop_ nm HT.out.1 HT.out.2)
 rw [HDl.out.1] at HDp
 generalize w4.heap.size=g12 at *
 refine wpScriptH_take (.agg #[.int .u64 (st:Int), .slice A4 n4 c4]) (by rfl) (by rfl) (fun w' hS=>?_) ?_
 ·obtain ⟨⟨s0,s1⟩,s2⟩:=hS
  go_simp
 simp only [zA,zB,Act.put,zD,zE,zF]
 refine wpScriptH_take (.pointer (some ⟨gr,0,none⟩)) (by rfl) (by rfl) (fun w' hS=>?_) ?_
 ·go_simp
 simp only [zA,zB,zC,Act.put,zD,zE,zF]
 refine wpScriptH_take (.iface 59 (.pointer (some ⟨y.d,0,none⟩))) (by rfl) (by rfl) (fun w' hS=>?_) ?_
 ·go_simp
 simp only [zA,zB,zC,Act.put,zD,zE,zF]
 refine wpScriptH_take (.pointer (some ⟨w.heap.size+1,1,none⟩)) (by rfl) (by rfl) (fun w' hS=>?_) ?_
 ·go_simp
 simp only [zA,zB,zC,Act.put,zD,zE,zF]
 refine wpScriptH_take (.string nm) (by rfl) (by rfl) (fun w' hS=>?_) ?_
 ·obtain ⟨⟨s0,s1⟩,s2⟩:=hS
  go_simp
 simp only [zA,zB,zC,Act.put,zD,zE,zF]
 refine wpScriptH_take (.int .i64 (cd:Int)) (by rfl) (by rfl) (fun w' hS=>?_) ?_
 ·go_simp
 simp only [zA,zB,zC,Act.put,zD,zE,zF]
 refine wpScriptH_do (by rfl) ?_
 go_wp2_with (go_at_call 152;refine HDp.out.mono ?_;rintro e w6 ⟨rfl,hx6,hb6,hk6⟩;have HX6:=hid hx6;have HB6:=hid hb6;have HKe6:=hid hk6;clear hx6 hb6 hk6)
 have HK126:=hid (HKe6.out.blk HK12.out (by simp))
 have HK76:=hid (HKe6.out.blk HK75.out (by simp))
 have hk86:=HKe6.out.blk HK85.out (by simp)
 have HK86:=hid hk86
 refine ⟨⟨⟨HK126.out.cell 0,HK126.out.cell 1⟩,HK76.out.cell 1⟩,?_⟩
 refine wpScriptH_take (.bool true) (by rfl) (by rfl) (fun w' hS=>?_) ?_
 ·go_simp
 simp only [zA,zB,zC,Act.put,zD,zE,zF]
 have c80:=hk86.cell 0
 have c81:=hk86.cell 1
 have z80:=hk86.frozen 0
 have z81:=hk86.frozen 1
 clear hk86
 refine wpScriptH_do (by rfl) ?_
 go_wp2_with fail
 have hx7:RgX B (([w.heap.size,w.heap.size+1,w.heap.size+2,g12]++E)++bs) a x y q gr (T+800) N st (dpL nm st l) ((w6.setCell ⟨w.heap.size+2,0,none⟩ (.int .u64 (st:Int))).setCell ⟨w.heap.size+2,1,none⟩ (.slice A4 n4 c4)):=(HX6.out.setCell HSt.out (by show G≤w.heap.size+2;have:=HGe.out;omega) (by simp) _).setCell HSt.out (by show G≤w.heap.size+2;have:=HGe.out;omega) (by simp) _
 have hk7:Blk ((w6.setCell ⟨w.heap.size+2,0,none⟩ (.int .u64 (st:Int))).setCell ⟨w.heap.size+2,1,none⟩ (.slice A4 n4 c4)) (w.heap.size+2) 130 #[.int .u64 (st:Int), .slice A4 n4 c4]:=(HK86.out.set_ 0 _).set_ 1 _
 have hne:g12≠w.heap.size+2:=by have:=HLt12.out;omega
 have hk127:Blk ((w6.setCell ⟨w.heap.size+2,0,none⟩ (.int .u64 (st:Int))).setCell ⟨w.heap.size+2,1,none⟩ (.slice A4 n4 c4)) g12 130 #[.int .u64 (st:Int), .slice A4 n4 c4]:=(HK126.out.far hne _).far hne _
 have hk77:Blk ((w6.setCell ⟨w.heap.size+2,0,none⟩ (.int .u64 (st:Int))).setCell ⟨w.heap.size+2,1,none⟩ (.slice A4 n4 c4)) (w.heap.size+1) 132 #[.int .u8 (kd:Int), .string nm]:=(HK76.out.far (by simp) _).far (by simp) _
 have hb7:Below w.heap.size w6 ((w6.setCell ⟨w.heap.size+2,0,none⟩ (.int .u64 (st:Int))).setCell ⟨w.heap.size+2,1,none⟩ (.slice A4 n4 c4)):=((Below.refl _ _).setCell (by simp) _).setCell (by simp) _
 have HX7:=hid hx7
 have HB7:=hid hb7
 have d0:=hk7.cell 0
 have d1:=hk7.cell 1
 refine ⟨⟨⟨hk127.cell 0,hk127.cell 1⟩,hk77.cell 1⟩,?_⟩
 have HRd7:Hid (RlIn (([w.heap.size,w.heap.size+1,w.heap.size+2,g12]++E)++bs) A4 n4 c4 rl4 ((w6.setCell ⟨w.heap.size+2,0,none⟩ (.int .u64 (st:Int))).setCell ⟨w.heap.size+2,1,none⟩ (.slice A4 n4 c4))):=hid (by
  have h6:=HRd5.out.kept HKe6.out HB6.out.size
  have hc:Chg (fun k=>k=w.heap.size+2) w6 ((w6.setCell ⟨w.heap.size+2,0,none⟩ (.int .u64 (st:Int))).setCell ⟨w.heap.size+2,1,none⟩ (.slice A4 n4 c4)):=((Chg.refl (fun k=>k=w.heap.size+2) w6).setCell (p:=⟨w.heap.size+2,0,none⟩) (.inl rfl) _).setCell (p:=⟨w.heap.size+2,1,none⟩) (.inl rfl) _
  exact ⟨h6.cap,(reads_chg h6.rd hc (Nat.le_refl _) HNe.out).more hc.size,h6.at_⟩)
 clear hx7 hk7 hk127 hk77 hb7 c80 c81 z80 z81
 generalize ((w6.setCell ⟨w.heap.size+2,0,none⟩ (.int .u64 (st:Int))).setCell ⟨w.heap.size+2,1,none⟩ (.slice A4 n4 c4))=w7 at *
 refine wpScriptH_take (.bool true) (by rfl) (by rfl) (fun w' hS=>?_) ?_
 ·go_simp
 simp only [zA,zB,zC,Act.put,zD,zE,zF]
 show wpList _ _ _ _ _ _
 simp only [List.drop_succ_cons,List.drop_zero]
 refine NoPanic.normal ?_
 go_wp2_with fail
 have hsub:∀ g∈bs,g∈(([w.heap.size,w.heap.size+1,w.heap.size+2,g12]++E)++bs):=fun g hg=>List.mem_append_right _ hg
 have hkp:KeptB bs w w7:=((kept_of_below HB5.out HX.out.lts).trans (HKe6.out.less hsub)).trans (kept_of_below HB7.out HX.out.lts)
 have hBn:B≤w.heap.size:=HX.out.rgW.size
 refine bodyPost_ret (v := .tuple #[.agg #[.int .u64 (st:Int), .slice A4 n4 c4], .bool true]) (by simp [results,Tryz.results62,go_sem,d0,d1]) rfl ⟨A4,n4,c4,st,_,rl4,_,rfl,hid ⟨Nat.le_succ _,HX7.out,HDl.out.2,HRd7.out,hsub,(HB5.out.mono hBn).trans (HB6.out.trans (HB7.out.mono hBn)),hkp,HQ7.out⟩⟩
end
end
end Go.Proofs.YtfkjjoglnmeciaaGreatDoor
