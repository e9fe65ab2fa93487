/- The walks and laws that the claim leans on, part 38. -/
import Derived.Test.YtfkjjoglnmeciaaGreatDoorJbd
set_option maxRecDepth 100000
set_option maxHeartbeats 16000000
namespace Go.Proofs.YtfkjjoglnmeciaaGreatDoor
open Go.Lib (hid)
section
open Go.RowKit
def plCellsG (s:Nat) (cs:Nat→CS) (k:Nat):List Value:=(List.range k).flatMap fun j=>[.int .i64 ((s+32 * j:Nat):Int), .int .i64 (cs j).cls, .int .i64 (cs j).own, .bool false]
theorem plCellsG_succ (s:Nat) (cs:Nat→CS) (k:Nat):plCellsG s cs (k+1)=plCellsG s cs k++[.int .i64 ((s+32 * k:Nat):Int), .int .i64 (cs k).cls, .int .i64 (cs k).own, .bool false]:=by simp [plCellsG,List.range_succ]
theorem plCellsG_at (s:Nat) (cs:Nat→CS):∀ (n k:Nat),k < n→(plCellsG s cs n)[k * 4]?=some (.int .i64 ((s+32 * k:Nat):Int))∧(plCellsG s cs n)[k * 4+1]?=some (.int .i64 (cs k).cls)∧(plCellsG s cs n)[k * 4+2]?=some (.int .i64 (cs k).own)∧(plCellsG s cs n)[k * 4+3]?=some (.bool false)
 | n+1,k,h=>by
  have hl:(plCellsG s cs n).length=n * 4:=by
   clear h
   induction n with
   | zero=>rfl
   | succ n ih=>rw [plCellsG_succ,List.length_append,ih];simp;omega
  rw [plCellsG_succ]
  by_cases hk:k < n
  ·obtain ⟨h0,h1,h2,h3⟩:=plCellsG_at s cs n k hk
   refine ⟨?_,?_,?_,?_⟩ <;> rw [List.getElem?_append_left (by omega)] <;> assumption
  ·obtain rfl:k=n:=by omega
   refine ⟨?_,?_,?_,?_⟩ <;> rw [List.getElem?_append_right (by omega),hl] <;> simp
def SetIsG (a:DA) (s:Nat) (cs:Nat→CS) (k:Nat) (w:World) (base g:Nat):Prop:=∃ A m c,Blk w g 406 #[memV a, .slice A m c]∧m=k∧w.ownsRow base 408 4 (.slice A m c) m (plCellsG s cs k)
def AopSG (v1 v2:Int) (w w1:World) (A:Option Addr) (m c:Nat) (w':World):Prop:=w'.cell? ⟨w.heap.size,1,none⟩=some (.slice A m c)∧w'.cell? ⟨w1.heap.size,0,none⟩=some (.int .i64 v1)∧w'.cell? ⟨w1.heap.size,1,none⟩=some (.int .i64 v2)
structure AopIG (a:DA) (w wr:World) (s:Nat) (cs:Nat→CS) (k:Nat) (A:Option Addr) (m c:Nat):Prop where
 below:Below w.heap.size w wr
 set_:Blk wr w.heap.size 406 #[memV a, .slice A m c]
 own:wr.ownsRow (w.heap.size+1) 408 4 (.slice A m c) m (plCellsG s cs k)
 hm:m=k
theorem look_cs {a:DA} {L T:Nat} {w:World} {S:Fp} {cur:Nat→Nat} {F:Nat} (h:Dev a L T w S cur F) (ht:Tab w) (hp:Pay w) (c:Nat) (hc:c+32≤L) {k:CS} (hk:CSok cur c k) :
  Calls Tryz.prog 293 #[memV a, .int .i64 (c:Int)] w fun e w'=>e = .returned (.tuple #[.agg #[.int .i64 k.cls, .int .i64 k.own, .int .u16 (k.g:Int)], .int .i64 0])∧Below w.heap.size w w':=by
 unfold CSok at hk
 unfold CS.cls CS.own
 by_cases hd:k.dv=true
 ·rw [if_pos hd] at hk
  rw [if_pos hd,if_pos hd]
  exact look_cls h ht hp c k.cl k.g hc hk.cls hk.g0 hk.g1 hk.hdr
 ·rw [if_neg hd] at hk
  rw [if_neg hd,if_neg hd]
  exact look_undiv h ht c k.g hc hk.2.1 hk.2.2 hk.1
theorem arenaOpenG_any {a:DA} {L T:Nat} {w:World} {S:Fp} {cur:Nat→Nat} {F:Nat} (cs:Nat→CS) (h:Dev a L T w S cur F) (ht:Tab w) (hp:Pay w) (s n K:Nat) (hn:32≤n) (hs:s+n≤L) (hK:n / 32=K) (hv:∀ k,k < K→CSok cur (s+32 * k) (cs k)) :
  Calls Tryz.prog 288 #[memV a, .int .i64 (s:Int), .int .i64 (n:Int)] w fun e w'=>e = .returned (.tuple #[.pointer (some ⟨w.heap.size,0,none⟩), .int .i64 0])∧SetIsG a s cs K w' (w.heap.size+1) w.heap.size∧Below w.heap.size w w':=by
 have HV:=hid (arenaValid_any h s n hn hs)
 have HD:=hid h
 have HT:=hid ht
 have HPy:=hid hp
 have HVV:=hid hv
 obtain ⟨i0,hi0,hz0,hz1,hz2⟩:=info_parts infoPlace
 have HI0:Hid (AopIG a w (w.alloc (.cells #[memV a, .slice none 0 0] 406)) s cs 0 none 0 0):=⟨(Below.refl _ _).alloc (Nat.le_refl _) _,Blk.new _ _ _,World.ownsRow_nil _ _ _ _,rfl⟩
 obtain ⟨ls,exe,per,csD,lsC,hdc,hnt⟩:=h
 have hL:=hdc.hL
 obtain ⟨f0,_,_,_,g2⟩:=hdc.facts (j:=0) (by omega)
 have hmE:=methErr (some ⟨a.th 0,0,none⟩)
 have d2:(n:Int).tdiv 32=(K:Int):=by rw [Int.tdiv_eq_ediv_of_nonneg (by omega)];omega
 have d3:(n:Int) / 32=(K:Int):=by omega
 have hK32:K * 32≤n:=by omega
 clear hdc hnt ht hp hK hv
 unfold memV at *
 go_enter Tryz.func288,Tryz.ntmps288
 go_wp2_with (first
  | (go_at_call 283;refine HV.out.mono ?_;rintro e w1 ⟨rfl,rfl⟩)
  | go_in)
 clear f0 g2 HV
 go_loopw [29] (fun i wr=>∃ (k:Nat) (A:Option Addr) (m c:Nat),k≤K∧i = .int .i64 k∧Hid (AopIG a w wr s cs k A m c)) (fun i _=>K - (RowKit.intOf i).toNat)
 case atStart=>exact ⟨0,_,_,_,Nat.zero_le _,rfl,HI0⟩
 case round =>
  clear HI0
  obtain ⟨k,A,m,c,hk,rfl,H⟩:=hrel
  by_cases hlt:k < K
  ·have HLK:=hid (look_cs (HD.out.below H.out.below) (HT.out.below H.out.below) (HPy.out.below H.out.below) (s+32 * k) (by omega) (HVV.out k hlt))
   obtain ⟨v1,hv1⟩:∃ v1,(cs k).cls=v1:=⟨_,rfl⟩
   obtain ⟨v2,hv2⟩:∃ v2,(cs k).own=v2:=⟨_,rfl⟩
   obtain ⟨v3,hv3⟩:∃ v3,(cs k).g=v3:=⟨_,rfl⟩
   have HV12:=hid (And.intro hv1 hv2)
   have e7:((s+32 * k:Nat):Int)=(s:Int)+(k:Int) * 32:=by omega
   rw [e7,hv1,hv2,hv3] at HLK
   clear hv1 hv2 hv3
   unfold memV at HLK
   have hz:(s:Int)+(k:Int) * 32≤4096:=by omega
   go_wp2_with (first
    | (go_at_call 293;refine HLK.out.mono ?_;rintro e w1 ⟨rfl,hb1⟩;have HB1:=hid hb1;clear hb1)
    | go_in)
   have HSW:=hid ((H.out.set_.below HB1.out H.out.set_.lt).alloc (.cells #[.int .i64 v1, .int .i64 v2, .int .u16 (v3:Int)] 304))
   have HHW:=hid (Blk.new w1 304 #[.int .i64 v1, .int .i64 v2, .int .u16 (v3:Int)])
   have HBW:=hid ((H.out.below.trans (HB1.out.mono H.out.below.size)).alloc (Nat.le_trans H.out.below.size HB1.out.size) (.cells #[.int .i64 v1, .int .i64 v2, .int .u16 (v3:Int)] 304))
   have HOW:=hid ((own_below H.out.own HB1.out).alloc (.cells #[.int .i64 v1, .int .i64 v2, .int .u16 (v3:Int)] 304))
   generalize w1.alloc (.cells #[.int .i64 v1, .int .i64 v2, .int .u16 (v3:Int)] 304)=W at *
   have HS0:Hid (AopSG v1 v2 w w1 A m c W.drew):=hid ⟨HSW.out.cell 1,HHW.out.cell 0,HHW.out.cell 1⟩
   refine wp_region_script (AopSG v1 v2 w w1 A m c) 13 [(true,0),(true,1),(true,2),(true,3),(true,4),(true,5),(true,6),(true,7),(true,8),(true,9),(true,10),(false,11),(false,12)] (by kernel_rfl) (by kernel_rfl) HS0.out ?_
   refine wpScript_take (.pointer (some ⟨w.heap.size,0,none⟩)) (by rfl) (by rfl) (fun w' hS=>?_) ?_
   ·go_simp
   simp only [zA,zB,Act.put,zD,zE,zF]
   refine wpScript_take (.pointer (some ⟨w.heap.size,0,none⟩)) (by rfl) (by rfl) (fun w' hS=>?_) ?_
   ·go_simp
   simp only [zA,zB,zC,Act.put,zD,zE,zF]
   refine wpScript_take (.pointer (some ⟨w.heap.size,0,none⟩)) (by rfl) (by rfl) (fun w' hS=>?_) ?_
   ·go_simp
   simp only [zA,zB,zC,Act.put,zD,zE,zF]
   refine wpScript_take (.pointer (some ⟨w.heap.size,1,none⟩)) (by rfl) (by rfl) (fun w' hS=>?_) ?_
   ·go_simp
   simp only [zA,zB,zC,Act.put,zD,zE,zF]
   refine wpScript_take (.slice A m c) (by rfl) (by rfl) (fun w' hS=>?_) ?_
   ·have f1:=hS.1
    go_simp
   simp only [zA,zB,zC,Act.put,zD,zE,zF]
   refine wpScript_take (.int .i64 ((s:Int)+(k:Int) * 32)) (by rfl) (by rfl) (fun w' hS=>?_) ?_
   ·go_simp
   simp only [zA,zB,zC,Act.put,zD,zE,zF]
   refine wpScript_take (.pointer (some ⟨w1.heap.size,0,none⟩)) (by rfl) (by rfl) (fun w' hS=>?_) ?_
   ·go_simp
   simp only [zA,zB,zC,Act.put,zD,zE,zF]
   refine wpScript_take (.int .i64 v1) (by rfl) (by rfl) (fun w' hS=>?_) ?_
   ·have f1:=hS.2.1
    go_simp
   simp only [zA,zB,zC,Act.put,zD,zE,zF]
   refine wpScript_take (.pointer (some ⟨w1.heap.size,1,none⟩)) (by rfl) (by rfl) (fun w' hS=>?_) ?_
   ·go_simp
   simp only [zA,zB,zC,Act.put,zD,zE,zF]
   refine wpScript_take (.int .i64 v2) (by rfl) (by rfl) (fun w' hS=>?_) ?_
   ·have f1:=hS.2.2
    go_simp
   simp only [zA,zB,zC,Act.put,zD,zE,zF]
   refine wpScript_take (.agg #[.int .i64 ((s:Int)+(k:Int) * 32), .int .i64 v1, .int .i64 v2, .bool false]) (by rfl) (by rfl) (fun w' hS=>?_) ?_
   ·go_simp
   simp only [zA,zB,zC,Act.put,zD,zE,zF]
   have hmk:m≤128:=by have:=H.out.hm;omega
   have HLE:=hid HBW.out.size
   have HLT:=hid HSW.out.lt
   refine wpScript_do (by rfl) ?_
   go_wp2
   have HSA:=hid ((HSW.out.alloc (.cells #[.int .i64 ((s:Int)+(k:Int) * 32), .int .i64 v1, .int .i64 v2, .bool false] 408)).drew)
   have HHA:=hid ((HHW.out.alloc (.cells #[.int .i64 ((s:Int)+(k:Int) * 32), .int .i64 v1, .int .i64 v2, .bool false] 408)).drew)
   have HOA:=hid ((HOW.out.alloc (.cells #[.int .i64 ((s:Int)+(k:Int) * 32), .int .i64 v1, .int .i64 v2, .bool false] 408)).drew)
   have HRA:Hid (Reads (W.alloc (.cells #[.int .i64 ((s:Int)+(k:Int) * 32), .int .i64 v1, .int .i64 v2, .bool false] 408)).drew (W.heap.size+1) 4 (some ⟨W.heap.size,0,none⟩) 1 [.int .i64 ((s:Int)+(k:Int) * 32), .int .i64 v1, .int .i64 v2, .bool false]):=hid (row_reads_at W W.heap.size rfl [.int .i64 ((s:Int)+(k:Int) * 32), .int .i64 v1, .int .i64 v2, .bool false] 1 4 408 _ rfl rfl)
   have HBA:=hid ((HBW.out.alloc HBW.out.size (.cells #[.int .i64 ((s:Int)+(k:Int) * 32), .int .i64 v1, .int .i64 v2, .bool false] 408)).drew)
   have HLA:Hid (w.heap.size+1≤(W.alloc (.cells #[.int .i64 ((s:Int)+(k:Int) * 32), .int .i64 v1, .int .i64 v2, .bool false] 408)).drew.heap.size):=hid (by have:=HLT.out;simp;omega)
   generalize (W.alloc (.cells #[.int .i64 ((s:Int)+(k:Int) * 32), .int .i64 v1, .int .i64 v2, .bool false] 408)).drew=WA at *
   clear HSW HHW HOW HBW HS0 HLE HLT
   refine ⟨⟨HSA.out.cell 1,HHA.out.cell 0,HHA.out.cell 1⟩,?_⟩
   refine wpScript_do (by rfl) ?_
   refine wpList_app _ (.tmp 49) (.tmp 56) 404 rfl rfl (w.heap.size+1) 408 i0 _ 4 32 Tryz.underlying404 hi0 hz0 hz1 hz2 rfl (by omega) (.slice A m c) m (plCellsG s cs k) rfl HOA.out (W.heap.size+1) (some ⟨W.heap.size,0,none⟩) 1 1 [.int .i64 ((s:Int)+(k:Int) * 32), .int .i64 v1, .int .i64 v2, .bool false] rfl HRA.out (by intro u hu;simp at hu;rcases hu with rfl | rfl | rfl | rfl <;> rfl) (by unfold maxLen;omega) (by omega) HLA.out ?_
   intro A3 n3 c3 w8 hn3 ho3 hg3 hb3
   have HN3:=hid hn3
   have HO3:=hid ho3
   have HS8:=hid ((HSA.out.grown hg3 (fun e=>own_blk_ne HOA.out HSA.out (by decide) e.symm)):Blk w8 w.heap.size 406 #[memV a, .slice A m c])
   have HH8:=hid (HHA.out.grown hg3 (fun e=>own_blk_ne HOA.out HHA.out (by decide) e.symm))
   have HB8:=hid ((HBA.out.trans (hb3.mono (Nat.le_succ _))):Below w.heap.size w w8)
   have z1:w8.frozen? ⟨w.heap.size,1,none⟩=false:=HS8.out.frozen 1
   have c1:w8.cell? ⟨w.heap.size,1,none⟩=some (.slice A m c):=HS8.out.cell 1
   clear hn3 ho3 hg3 hb3
   refine ⟨⟨HS8.out.cell 1,HH8.out.cell 0,HH8.out.cell 1⟩,?_⟩
   show wpList _ _ _ _ _ _
   simp only [List.drop_succ_cons,List.drop_zero]
   go_wp2
   refine NoPanic.normal ?_
   go_wp2
   have HI1:Hid (AopIG a w (w8.setCell ⟨w.heap.size,1,none⟩ (.slice A3 n3 c3)) s cs (k+1) A3 n3 c3):=by
    refine ⟨HB8.out.setCell (Nat.le_refl _) _,HS8.out.set_ 1 _,?_,?_⟩
    ·rw [plCellsG_succ,e7,HV12.out.1,HV12.out.2]
     exact ownsRow_setCell_other HO3.out (a:=⟨w.heap.size,1,none⟩) (own_blk_ne HO3.out HS8.out (by decide)) _
    ·have:=HN3.out;have:=H.out.hm;omega
   go_roundw
   case rel =>
    repeat apply Exists.intro
    refine ⟨?_,rfl⟩
    exact ⟨k+1,_,_,_,by omega,by go_num,HI1⟩
   case measure=>simp [RowKit.intOf];omega
  ·obtain rfl:k=K:=by omega
   go_wp2
   go_ret2
   exact ⟨rfl,⟨A,m,c,H.out.set_,H.out.hm,H.out.own⟩,H.out.below⟩
end
end Go.Proofs.YtfkjjoglnmeciaaGreatDoor
