/- The walks and laws that the claim leans on, part 16. -/
import Derived.Test.YtnlokpakiambaaaGreatDoorJan
set_option maxRecDepth 100000
set_option maxHeartbeats 16000000
namespace Go.Proofs.YtnlokpakiambaaaGreatDoor
open Go.Lib (hid)
section
open Go.RowKit
structure ChW (cur:Nat→Nat) (ln cl g V:Nat) (bs:Nat→BK):Prop where
 hdr:cur (8 * ln)=hdrW cl g
 cls:cl < 5
 g0:0 < g
 g1:g < 65536
 bits:cur (8 * ln+1)=V
 v64:V < 18446744073709551616
 zero:∀ j,2≤j→j < 8→cur (8 * ln+j)=0
 inn:∀ i,i < perC cl→(bs i).In
 good:∀ i,i < perC cl→(bs i).good=true
 word:∀ i,i < perC cl→cur (8 * ln+offB cl i)=(bs i).w
 bit:∀ i,i < perC cl→bitAt V i=decide ((bs i).st≠176)
def fndC (ln cl off:Nat):Option Nat:=if off < 64 * ln∨64 * ln+2048≤off then none else findC cl ((off - 64 * ln) / 8)
def fndR (ln cl off:Nat):Value:=match fndC ln cl off with
 | some i => .tuple #[.int .i64 (i:Int), .bool true]
 | none => .tuple #[.int .i64 0, .bool false]
theorem fndC_some {ln cl off i:Nat} (h:fndC ln cl off=some i):i < perC cl∧64 * ln≤off∧off / 8=8 * ln+offB cl i+1:=by
 unfold fndC at h
 split at h
 ·cases h
 ·obtain ⟨h1,h2⟩:=findC_some h
  refine ⟨h1,by omega,by omega⟩
section
theorem chFind_any (a:DA) (ln cl g off:Nat) (hl:ln≤1000000) (hc:cl < 5) (ho:off < 18446744073709551616) (w:World) (hp:Pay w) :
  Calls Tryz.prog 161 #[chV a ln cl 0 g, .int .u64 (off:Int)] w fun e w'=>e = .returned (fndR ln cl off)∧Below w.heap.size w w':=by
 have hb0:Below w.heap.size w (w.alloc (.cells (chCells a ln cl g) 221)):=(Below.refl _ _).alloc (Nat.le_refl _) _
 have HB0:=hid hb0
 have HSt:=hid (start_any ln hl)
 have HFd:Hid (∀ x:Nat,x≤1000000000→Calls Tryz.prog 138 #[.int .i64 (cl:Int), .int .i64 (x:Int)] (w.alloc (.cells (chCells a ln cl g) 221)) fun e w'=>e = .returned (findR cl x)∧(w.alloc (.cells (chCells a ln cl g) 221))=w'):=hid (fun x hx=>szFind_any cl x hc hx _ (hp.below hb0))
 have hq:=eqMem (some ⟨a.th 0,0,none⟩)
 clear hp hb0
 unfold chV
 unfold chCells memV at *
 by_cases h1:off < 64 * ln
 ·have HR:Hid (fndR ln cl off = .tuple #[.int .i64 0, .bool false]):=hid (by unfold fndR fndC;rw [if_pos (.inl h1)])
  have d1:decide ((off:Int) < ((64 * ln:Nat):Int))=true:=decide_eq_true (by omega)
  generalize fndR ln cl off=rr at *
  have hz:64 * ln < 9000000000:=by omega
  generalize 64 * ln=z at *
  go_enter Tryz.func161,Tryz.ntmps161
  go_wp2_with (go_at_call 209;refine (HSt.out _).mono ?_;rintro e w1 ⟨rfl,rfl⟩)
  go_ret2
  exact ⟨by rw [HR.out];rfl,HB0.out⟩
 ·have d1:decide ((off:Int) < ((64 * ln:Nat):Int))=false:=decide_eq_false (by omega)
  have d1n:decide (off < 64 * ln)=false:=decide_eq_false h1
  obtain ⟨y,hy⟩:∃ y,off - 64 * ln=y:=⟨_,rfl⟩
  have u1:IntKind.u64.wrap ((off:Int) - ((64 * ln:Nat):Int))=(y:Int):=by rw [IntKind.wrap_u64];omega
  by_cases h2:64 * ln+2048≤off
  ·have HR:Hid (fndR ln cl off = .tuple #[.int .i64 0, .bool false]):=hid (by unfold fndR fndC;rw [if_pos (.inr h2)])
   have d2:decide (2048≤(y:Int))=true:=decide_eq_true (by omega)
   generalize fndR ln cl off=rr at *
   have hz:64 * ln < 9000000000:=by omega
   clear hy h1 h2
   generalize 64 * ln=z at *
   go_enter Tryz.func161,Tryz.ntmps161
   go_wp2_with (go_at_call 209;refine (HSt.out _).mono ?_;rintro e w1 ⟨rfl,rfl⟩)
   go_ret2
   exact ⟨by rw [HR.out];rfl,HB0.out⟩
  ·have HR:Hid (fndR ln cl off=findR cl (y / 8)):=hid (by unfold fndR fndC findR;rw [if_neg (by omega),hy];rfl)
   have d2:decide (2048≤(y:Int))=false:=decide_eq_false (by omega)
   have hy8:y < 2048:=by omega
   have HF8:=hid (HFd.out (y / 8) (by omega))
   have u2:(y:Int) / 8=((y / 8:Nat):Int):=by omega
   have u3:IntKind.i64.wrap ((y / 8:Nat):Int)=((y / 8:Nat):Int):=IntWalk.i64_in _ (by omega)
   have hyq:y / 8 < 256:=by omega
   generalize fndR ln cl off=rr at *
   have hz:64 * ln < 9000000000:=by omega
   clear hy h1 h2 HFd
   generalize 64 * ln=z at *
   generalize y / 8=q at *
   have HFq:Hid (∃ (k:Int) (b:Bool),findR cl q = .tuple #[.int .i64 k, .bool b]):=hid (by
    unfold findR
    cases findC cl q with
    | none=>exact ⟨0,false,rfl⟩
    | some i=>exact ⟨(i:Int),true,rfl⟩)
   obtain ⟨fk,fb,hfq⟩:=HFq.out
   rw [hfq] at HF8 HR
   clear hfq HFq
   go_enter Tryz.func161,Tryz.ntmps161
   go_wp2_with (first
    | (go_at_call 209;refine (HSt.out _).mono ?_;rintro e w1 ⟨rfl,rfl⟩)
    | (go_at_call 138;refine HF8.out.mono ?_;rintro e w1 ⟨rfl,rfl⟩))
   go_ret2
   exact ⟨by rw [HR.out];rfl,HB0.out⟩
end
end
section
open Go.RowKit
theorem infoPlace:(Tryz.prog.info? 354).map (fun i=>(i.zero,i.size,i.bytes))=some (some (.agg #[.int .i64 0, .int .i64 0, .int .i64 0, .bool false]),4,32):=by kernel_rfl
def plCells (s:Nat) (k:Nat):List Value:=(List.range k).flatMap fun j=>[.int .i64 ((s+32 * j:Nat):Int), .int .i64 (-1), .int .i64 (-1), .bool false]
theorem plCells_succ (s k:Nat):plCells s (k+1)=plCells s k++[.int .i64 ((s+32 * k:Nat):Int), .int .i64 (-1), .int .i64 (-1), .bool false]:=by simp [plCells,List.range_succ]
def SetIs (a:DA) (s k:Nat) (w:World) (base g:Nat):Prop:=∃ A m c,Blk w g 363 #[memV a, .slice A m c]∧m=k∧w.ownsRow base 354 4 (.slice A m c) m (plCells s k)
def AopS (w w1:World) (A:Option Addr) (m c:Nat) (w':World):Prop:=w'.cell? ⟨w.heap.size,1,none⟩=some (.slice A m c)∧w'.cell? ⟨w1.heap.size,0,none⟩=some (.int .i64 (-1))∧w'.cell? ⟨w1.heap.size,1,none⟩=some (.int .i64 (-1))
structure AopI (a:DA) (w wr:World) (s k:Nat) (A:Option Addr) (m c:Nat):Prop where
 below:Below w.heap.size w wr
 set_:Blk wr w.heap.size 363 #[memV a, .slice A m c]
 own:wr.ownsRow (w.heap.size+1) 354 4 (.slice A m c) m (plCells s k)
 hm:m=k
theorem arenaOpen_any {a:DA} {L T:Nat} {w:World} {S:Fp} {cur:Nat→Nat} {F:Nat} (h:Dev a L T w S cur F) (ht:Tab w) (s n K:Nat) (hn:32≤n) (hs:s+n≤L) (hK:n / 32=K) (hv:∀ k,k < K→cur (8 * (s+32 * k))=freeW 1) :
  Calls Tryz.prog 191 #[memV a, .int .i64 (s:Int), .int .i64 (n:Int)] w fun e w'=>e = .returned (.tuple #[.pointer (some ⟨w.heap.size,0,none⟩), .int .i64 0])∧SetIs a s K w' (w.heap.size+1) w.heap.size∧Below w.heap.size w w':=by
 have HV:=hid (arenaValid_any h s n hn hs)
 have HD:=hid h
 have HT:=hid ht
 have HVV:=hid hv
 obtain ⟨i0,hi0,hz0,hz1,hz2⟩:=info_parts infoPlace
 have HI0:Hid (AopI a w (w.alloc (.cells #[memV a, .slice none 0 0] 363)) s 0 none 0 0):=⟨(Below.refl _ _).alloc (Nat.le_refl _) _,Blk.new _ _ _,World.ownsRow_nil _ _ _ _,rfl⟩
 obtain ⟨ls,exe,per,cs,lsC,hdc,hnt⟩:=h
 have hL:=hdc.hL
 obtain ⟨f0,_,_,_,g2⟩:=hdc.facts (j:=0) (by omega)
 have hmE:=methErr (some ⟨a.th 0,0,none⟩)
 have d2:(n:Int).tdiv 32=(K:Int):=by rw [Int.tdiv_eq_ediv_of_nonneg (by omega)];omega
 have d3:(n:Int) / 32=(K:Int):=by omega
 have hK32:K * 32≤n:=by omega
 clear hdc hnt ht hK hv
 unfold memV at *
 go_enter Tryz.func191,Tryz.ntmps191
 go_wp2_with (first
  | (go_at_call 186;refine HV.out.mono ?_;rintro e w1 ⟨rfl,rfl⟩)
  | go_in)
 clear f0 g2 HV
 go_loopw [29] (fun i wr=>∃ (k:Nat) (A:Option Addr) (m c:Nat),k≤K∧i = .int .i64 k∧Hid (AopI a w wr s k A m c)) (fun i _=>K - (RowKit.intOf i).toNat)
 case atStart=>exact ⟨0,_,_,_,Nat.zero_le _,rfl,HI0⟩
 case round =>
  clear HI0
  obtain ⟨k,A,m,c,hk,rfl,H⟩:=hrel
  by_cases hlt:k < K
  ·have HLK:=hid (look_free (HD.out.below H.out.below) (HT.out.below H.out.below) (s+32 * k) (by omega) (HVV.out k hlt))
   have e7:((s+32 * k:Nat):Int)=(s:Int)+(k:Int) * 32:=by omega
   rw [e7] at HLK
   unfold memV at HLK
   have hz:(s:Int)+(k:Int) * 32≤4096:=by omega
   go_wp2_with (first
    | (go_at_call 160;refine HLK.out.mono ?_;rintro e w1 ⟨rfl,hb1⟩;have HB1:=hid hb1;clear hb1)
    | go_in)
   have HSW:=hid ((H.out.set_.below HB1.out H.out.set_.lt).alloc (.cells #[.int .i64 (-1), .int .i64 (-1), .int .u16 1] 219))
   have HHW:=hid (Blk.new w1 219 #[.int .i64 (-1), .int .i64 (-1), .int .u16 1])
   have HBW:=hid ((H.out.below.trans (HB1.out.mono H.out.below.size)).alloc (Nat.le_trans H.out.below.size HB1.out.size) (.cells #[.int .i64 (-1), .int .i64 (-1), .int .u16 1] 219))
   have HOW:=hid ((own_below H.out.own HB1.out).alloc (.cells #[.int .i64 (-1), .int .i64 (-1), .int .u16 1] 219))
   generalize w1.alloc (.cells #[.int .i64 (-1), .int .i64 (-1), .int .u16 1] 219)=W at *
   have HS0:Hid (AopS w w1 A m c W.drew):=hid ⟨HSW.out.cell 1,HHW.out.cell 0,HHW.out.cell 1⟩
   refine wp_region_script (AopS w w1 A m c) 13 [(true,0),(true,1),(true,2),(true,3),(true,4),(true,5),(true,6),(true,7),(true,8),(true,9),(true,10),(false,11),(false,12)] (by kernel_rfl) (by kernel_rfl) HS0.out ?_
   refine wpScript_take (.pointer (some ⟨w.heap.size,0,none⟩)) (by rfl) (by rfl) (fun w' hS=>?_) ?_
   ·go_simp
   simp only [zA,zB,Act.put,zD,zE,zF]
   refine wpScript_take (.pointer (some ⟨w.heap.size,0,none⟩)) (by rfl) (by rfl) (fun w' hS=>?_) ?_
   ·go_simp
   simp only [zA,zB,zC,Act.put,zD,zE,zF]
   refine wpScript_take (.pointer (some ⟨w.heap.size,0,none⟩)) (by rfl) (by rfl) (fun w' hS=>?_) ?_
   ·go_simp
   simp only [zA,zB,zC,Act.put,zD,zE,zF]
   refine wpScript_take (.pointer (some ⟨w.heap.size,1,none⟩)) (by rfl) (by rfl) (fun w' hS=>?_) ?_
   ·go_simp
   simp only [zA,zB,zC,Act.put,zD,zE,zF]
   refine wpScript_take (.slice A m c) (by rfl) (by rfl) (fun w' hS=>?_) ?_
   ·have f1:=hS.1
    go_simp
   simp only [zA,zB,zC,Act.put,zD,zE,zF]
   refine wpScript_take (.int .i64 ((s:Int)+(k:Int) * 32)) (by rfl) (by rfl) (fun w' hS=>?_) ?_
   ·go_simp
   simp only [zA,zB,zC,Act.put,zD,zE,zF]
   refine wpScript_take (.pointer (some ⟨w1.heap.size,0,none⟩)) (by rfl) (by rfl) (fun w' hS=>?_) ?_
   ·go_simp
   simp only [zA,zB,zC,Act.put,zD,zE,zF]
   refine wpScript_take (.int .i64 (-1)) (by rfl) (by rfl) (fun w' hS=>?_) ?_
   ·have f1:=hS.2.1
    go_simp
   simp only [zA,zB,zC,Act.put,zD,zE,zF]
   refine wpScript_take (.pointer (some ⟨w1.heap.size,1,none⟩)) (by rfl) (by rfl) (fun w' hS=>?_) ?_
   ·go_simp
   simp only [zA,zB,zC,Act.put,zD,zE,zF]
   refine wpScript_take (.int .i64 (-1)) (by rfl) (by rfl) (fun w' hS=>?_) ?_
   ·have f1:=hS.2.2
    go_simp
   simp only [zA,zB,zC,Act.put,zD,zE,zF]
   refine wpScript_take (.agg #[.int .i64 ((s:Int)+(k:Int) * 32), .int .i64 (-1), .int .i64 (-1), .bool false]) (by rfl) (by rfl) (fun w' hS=>?_) ?_
   ·go_simp
   simp only [zA,zB,zC,Act.put,zD,zE,zF]
   have hmk:m≤128:=by have:=H.out.hm;omega
   have HLE:=hid HBW.out.size
   have HLT:=hid HSW.out.lt
   refine wpScript_do (by rfl) ?_
   go_wp2
   have HSA:=hid ((HSW.out.alloc (.cells #[.int .i64 ((s:Int)+(k:Int) * 32), .int .i64 (-1), .int .i64 (-1), .bool false] 354)).drew)
   have HHA:=hid ((HHW.out.alloc (.cells #[.int .i64 ((s:Int)+(k:Int) * 32), .int .i64 (-1), .int .i64 (-1), .bool false] 354)).drew)
   have HOA:=hid ((HOW.out.alloc (.cells #[.int .i64 ((s:Int)+(k:Int) * 32), .int .i64 (-1), .int .i64 (-1), .bool false] 354)).drew)
   have HRA:Hid (Reads (W.alloc (.cells #[.int .i64 ((s:Int)+(k:Int) * 32), .int .i64 (-1), .int .i64 (-1), .bool false] 354)).drew (W.heap.size+1) 4 (some ⟨W.heap.size,0,none⟩) 1 [.int .i64 ((s:Int)+(k:Int) * 32), .int .i64 (-1), .int .i64 (-1), .bool false]):=hid (row_reads_at W W.heap.size rfl [.int .i64 ((s:Int)+(k:Int) * 32), .int .i64 (-1), .int .i64 (-1), .bool false] 1 4 354 _ rfl rfl)
   have HBA:=hid ((HBW.out.alloc HBW.out.size (.cells #[.int .i64 ((s:Int)+(k:Int) * 32), .int .i64 (-1), .int .i64 (-1), .bool false] 354)).drew)
   have HLA:Hid (w.heap.size+1≤(W.alloc (.cells #[.int .i64 ((s:Int)+(k:Int) * 32), .int .i64 (-1), .int .i64 (-1), .bool false] 354)).drew.heap.size):=hid (by have:=HLT.out;simp;omega)
   generalize (W.alloc (.cells #[.int .i64 ((s:Int)+(k:Int) * 32), .int .i64 (-1), .int .i64 (-1), .bool false] 354)).drew=WA at *
   clear HSW HHW HOW HBW HS0 HLE HLT
   refine ⟨⟨HSA.out.cell 1,HHA.out.cell 0,HHA.out.cell 1⟩,?_⟩
   refine wpScript_do (by rfl) ?_
   refine wpList_app _ (.tmp 49) (.tmp 56) 361 rfl rfl (w.heap.size+1) 354 i0 _ 4 32 Tryz.underlying361 hi0 hz0 hz1 hz2 rfl (by omega) (.slice A m c) m (plCells s k) rfl HOA.out (W.heap.size+1) (some ⟨W.heap.size,0,none⟩) 1 1 [.int .i64 ((s:Int)+(k:Int) * 32), .int .i64 (-1), .int .i64 (-1), .bool false] rfl HRA.out (by intro u hu;simp at hu;rcases hu with rfl | rfl | rfl <;> rfl) (by unfold maxLen;omega) (by omega) HLA.out ?_
   intro A3 n3 c3 w8 hn3 ho3 hg3 hb3
   have HN3:=hid hn3
   have HO3:=hid ho3
   have HS8:=hid ((HSA.out.grown hg3 (fun e=>own_blk_ne HOA.out HSA.out (by decide) e.symm)):Blk w8 w.heap.size 363 #[memV a, .slice A m c])
   have HH8:=hid (HHA.out.grown hg3 (fun e=>own_blk_ne HOA.out HHA.out (by decide) e.symm))
   have HB8:=hid ((HBA.out.trans (hb3.mono (Nat.le_succ _))):Below w.heap.size w w8)
   have z1:w8.frozen? ⟨w.heap.size,1,none⟩=false:=HS8.out.frozen 1
   have c1:w8.cell? ⟨w.heap.size,1,none⟩=some (.slice A m c):=HS8.out.cell 1
   clear hn3 ho3 hg3 hb3
   refine ⟨⟨HS8.out.cell 1,HH8.out.cell 0,HH8.out.cell 1⟩,?_⟩
   show wpList _ _ _ _ _ _
   simp only [List.drop_succ_cons,List.drop_zero]
   go_wp2
   refine NoPanic.normal ?_
   go_wp2
   have HI1:Hid (AopI a w (w8.setCell ⟨w.heap.size,1,none⟩ (.slice A3 n3 c3)) s (k+1) A3 n3 c3):=by
    refine ⟨HB8.out.setCell (Nat.le_refl _) _,HS8.out.set_ 1 _,?_,?_⟩
    ·rw [plCells_succ,e7]
     exact ownsRow_setCell_other HO3.out (a:=⟨w.heap.size,1,none⟩) (own_blk_ne HO3.out HS8.out (by decide)) _
    ·have:=HN3.out;have:=H.out.hm;omega
   go_roundw
   case rel =>
    repeat apply Exists.intro
    refine ⟨?_,rfl⟩
    exact ⟨k+1,_,_,_,by omega,by go_num,HI1⟩
   case measure=>simp [RowKit.intOf];omega
  ·obtain rfl:k=K:=by omega
   go_wp2
   go_ret2
   exact ⟨rfl,⟨A,m,c,H.out.set_,H.out.hm,H.out.own⟩,H.out.below⟩
end
end Go.Proofs.YtnlokpakiambaaaGreatDoor
