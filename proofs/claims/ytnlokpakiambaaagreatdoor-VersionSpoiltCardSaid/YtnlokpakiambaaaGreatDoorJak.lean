/- The walks and laws that the claim leans on, part 11. -/
import Derived.Test.YtnlokpakiambaaaGreatDoorJaj
set_option maxRecDepth 100000
set_option maxHeartbeats 16000000
namespace Go.Proofs.YtnlokpakiambaaaGreatDoor
open Go.Lib (hid)
section
open Go.RowKit
theorem own_le {w:World} {base base':Nat} {e:TypeId} {size:Nat} {v:Value} {n:Nat} {xs:List Value} (h:w.ownsRow base e size v n xs) (hb:base'≤base):w.ownsRow base' e size v n xs:=by
 refine ⟨h.1,?_⟩
 rcases h.2 with h0 | ⟨g,cap,cur,h1,h2,h3⟩
 ·exact .inl h0
 ·exact .inr ⟨g,cap,cur,h1,Nat.le_trans hb h2,h3⟩
def RetInss (w:World) (m:Nat) (l:List Ins) (e:Ending) (w':World):Prop :=
 ∃ A' m' c',e = .returned (.slice A' m' c')∧m'=m∧w'.ownsRow w.heap.size 211 3 (.slice A' m' c') m' (insCells l)∧Below w.heap.size w w'
theorem grow_nil (n:Nat) (w:World) (h0:0 < n) (hn:n≤1000) :
  Calls Tryz.prog 214 #[.slice none 0 0, .int .i64 (n:Int)] w (RetInss w 0 []):=by
 obtain ⟨i0,hi0,hz0,hz1,hz2⟩:=info_parts infoInstr
 have happ:=Lib.run_append_nil_zeros (P:=Tryz.prog) w 140 3 140 211 i0 _ .i64 .i64 Tryz.underlying140 Tryz.underlying3 hi0 hz0 n h0 (by omega) (by omega) (by rw [hz2];omega)
 generalize hcap:grownCap w n 0 211=cap at happ
 have hcapge:n≤cap:=by rw [← hcap];exact grownCap_ge w _ 0 211
 have hcaple:cap≤maxLen:=by rw [← hcap];exact grownCap_le_maxLen w _ 0 211 (by unfold maxLen;omega)
 have HO:Hid (∀ X:Array Value,X.size=cap * 3→(w.drew.alloc (.cells X 211)).ownsRow w.heap.size 211 3 (.slice (some ⟨w.heap.size,0,none⟩) 0 cap) 0 []):=fun X hX =>
  World.ownsRow_made w.drew X cap (Nat.le_refl _) hcaple hX
 generalize hZ:Builtin.zeroCells _ n++Builtin.zeroCells _ (cap - n)=Z at happ
 have HZ:Hid (Z.size=cap * 3):=show _=_ by rw [← hZ,Array.size_append,size_zeroCells,size_zeroCells,show (Value.agg #[.int .u8 0, .int .u64 0, .int .u64 0]).cells.size=3 from rfl];omega
 clear hZ hcap hi0 hz0 hz1 hz2
 have hb0:(0:Int)≤0:=Int.le_refl _
 have hc9:cap≤9223372036854775807:=hcaple
 go_enter Tryz.func214,Tryz.ntmps214
 go_wp2_with (at_builtin;refine Lib.wpList_append_run _ rfl _ _ _ _ rfl _ _ rfl rfl _ _ happ ?_)
 go_ret
 refine ⟨_,_,_,rfl,rfl,HO.out Z HZ.out,?_⟩
 exact (Below.refl _ _).drew.alloc (Nat.le_refl _) _
theorem grow_zero (w:World):Calls Tryz.prog 214 #[.slice none 0 0, .int .i64 0] w (RetInss w 0 []):=by
 have HO:Hid (∀ _:Nat,w.ownsRow w.heap.size 211 3 (.slice none 0 0) 0 []):=fun _=>World.ownsRow_nil _ _ _ _
 go_enter Tryz.func214,Tryz.ntmps214
 go_wp2
 go_ret
 exact ⟨_,_,_,rfl,rfl,HO.out 0,Below.refl _ _⟩
theorem grow_any (n:Nat) (w:World) (hn:n≤1000):Calls Tryz.prog 214 #[.slice none 0 0, .int .i64 (n:Int)] w (RetInss w 0 []):=by
 rcases Nat.eq_zero_or_pos n with rfl | h
 ·exact grow_zero w
 ·exact grow_nil n w h hn
def catAt (a b:List Ins):Nat→List Ins
 | 0=>[]
 | 1=>a
 | _=>a++b
theorem concat2 (A A2:Option Addr) (n c n2 c2:Nat) (a b:List Ins) (g:Nat) (w:World) (hb:Blk w g 140 #[.slice A n c, .slice A2 n2 c2]) (h1:Reads w w.heap.size 3 A n (insCells a)) (h2:Reads w w.heap.size 3 A2 n2 (insCells b)) (hn1:n≤400) (hn2:n2≤400) :
  Calls Tryz.prog 166 #[.slice (some ⟨g,0,none⟩) 2 2] w (RetInss w (n+n2) (a++b)):=by
 have HB:=hid hb
 have H1:=hid h1
 have H2:=hid h2
 have f0:w.cell? ⟨g,0,none⟩=some (.slice A n c):=hb.cell 0
 have f1:w.cell? ⟨g,1,none⟩=some (.slice A2 n2 c2):=hb.cell 1
 have HG:=hid (grow_any (n+n2) w (by omega))
 clear hb h1 h2
 go_enter Tryz.func166,Tryz.ntmps166
 go_wp2
 go_loopw [3,11] (fun z i wr=>∃ (k m:Nat),k≤2∧i = .int .i64 k∧z = .int .i64 m∧(k=0→m=0)∧(k=1→m=n)∧(k=2→m=n+n2)∧w=wr) (fun _ i _=>2 - (RowKit.intOf i).toNat)
 case atStart=>exact ⟨0,0,by omega,rfl,rfl,fun _=>rfl,by omega,by omega,rfl⟩
 case round =>
  obtain ⟨k,m,hk,rfl,rfl,hm0,hm1,hm2,rfl⟩:=hrel
  have hd:¬ ((m:Int)+(n:Int) < 0):=by omega
  have hd':¬ ((m:Int)+(n2:Int) < 0):=by omega
  rcases (show k=0∨k=1∨k=2 by omega) with rfl | rfl | rfl
  ·obtain rfl:=hm0 rfl
   go_wp2
   go_roundw
   case rel=>exact ⟨1,n,by omega,by go_num,by go_num,by omega,by omega,by omega,trivial⟩
   case measure=>simp [RowKit.intOf]
  ·obtain rfl:=hm1 rfl
   go_wp2
   go_roundw
   case rel=>exact ⟨2,m+n2,by omega,by go_num,by go_num,by omega,by omega,by omega,trivial⟩
   case measure=>simp [RowKit.intOf]
  ·obtain rfl:=hm2 rfl
   obtain ⟨i0,hi0,hz0,hz1,hz2⟩:=info_parts infoInstr
   go_wp2_with (go_at_call 214;refine HG.out.mono ?_;rintro e w1 ⟨A1,n1,c1,rfl,hn1,ho1,hb1⟩;have HO1:=hid ho1;have HB1:=hid hb1;have HN1:=hid hn1;clear ho1 hb1 hn1)
   go_loopw [6,27] (fun v i wr=>∃ (k:Nat) (A':Option Addr) (m c':Nat),k≤2∧i = .int .i64 k∧v = .slice A' m c'∧(k=0→m=0)∧(k=1→m=n)∧(k=2→m=n+n2)∧Hid (wr.ownsRow w.heap.size 211 3 (.slice A' m c') m (insCells (catAt a b k)))∧Hid (Below w.heap.size w wr)) (fun _ i _=>2 - (RowKit.intOf i).toNat)
   case atStart=>exact ⟨0,_,_,_,by omega,rfl,rfl,fun _=>HN1.out,by omega,by omega,HO1,HB1⟩
   case round =>
    obtain ⟨k,A',m,c',hk,rfl,rfl,hm0,hm1,hm2,HO,HW⟩:=hrel
    clear HO1 HB1 HN1
    have f0:wr.cell? ⟨g,0,none⟩=some (.slice A n c):=(HB.out.below HW.out HB.out.lt).cell 0
    have f1:wr.cell? ⟨g,1,none⟩=some (.slice A2 n2 c2):=(HB.out.below HW.out HB.out.lt).cell 1
    rcases (show k=0∨k=1∨k=2 by omega) with rfl | rfl | rfl
    ·obtain rfl:=hm0 rfl
     go_wp2_with (at_builtin;refine wpList_app _ (.tmp 31) (.tmp 32) 140 rfl rfl w.heap.size 211 i0 _ 3 24 Tryz.underlying140 hi0 hz0 hz1 hz2 rfl ?q1 (.slice A' 0 c') 0 (insCells (catAt a b 0)) rfl HO.out w.heap.size A n c (insCells a) rfl ?q5 ?q6 ?q2 ?q3 ?q4 ?_;(case q1=>omega);(case q5=>exact H1.out.below HW.out);(case q6=>exact insCells_one a);(case q2=>(unfold maxLen;omega));(case q3=>omega);(case q4=>exact HW.out.size);intro A3 n3 c3 w8 hn3 ho3 hg3 hb3;have HN3:=hid hn3;have HO3:=hid ho3;have HB3:=hid (HW.out.trans hb3);clear hn3 ho3 hg3 hb3)
     go_roundw
     case rel=>exact ⟨1,_,_,_,by omega,by go_num,rfl,by omega,fun _=>HN3.out.trans (Nat.zero_add _),by omega,HO3,HB3⟩
     case measure=>simp [RowKit.intOf]
    ·obtain rfl:=hm1 rfl
     go_wp2_with (at_builtin;refine wpList_app _ (.tmp 31) (.tmp 32) 140 rfl rfl w.heap.size 211 i0 _ 3 24 Tryz.underlying140 hi0 hz0 hz1 hz2 rfl ?q1 (.slice A' m c') m (insCells (catAt a b 1)) rfl HO.out w.heap.size A2 n2 c2 (insCells b) rfl ?q5 ?q6 ?q2 ?q3 ?q4 ?_;(case q1=>omega);(case q5=>exact H2.out.below HW.out);(case q6=>exact insCells_one b);(case q2=>(unfold maxLen;omega));(case q3=>omega);(case q4=>exact HW.out.size);intro A3 n3 c3 w8 hn3 ho3 hg3 hb3;have HN3:=hid hn3;have HO3:=hid ho3;have HB3:=hid (HW.out.trans hb3);clear hn3 ho3 hg3 hb3)
     have HO4:Hid (w8.ownsRow w.heap.size 211 3 (.slice A3 n3 c3) n3 (insCells (catAt a b 2))):=by have h:=HO3.out;rw [← insCells_app] at h;exact h
     go_roundw
     case rel=>exact ⟨2,_,_,_,by omega,by go_num,rfl,by omega,by omega,fun _=>HN3.out,HO4,HB3⟩
     case measure=>simp [RowKit.intOf]
    ·obtain rfl:=hm2 rfl
     go_wp2
     go_ret
     exact ⟨_,_,_,rfl,rfl,HO.out,HW.out⟩
theorem then_any (A A2:Option Addr) (n c n2 c2:Nat) (a b:List Ins) (w:World) (h1:Reads w w.heap.size 3 A n (insCells a)) (h2:Reads w w.heap.size 3 A2 n2 (insCells b)) (hn1:n≤400) (hn2:n2≤400) :
  Calls Tryz.prog 126 #[.slice A n c, .slice A2 n2 c2] w (RetInss w (n+n2) (a++b)):=by
 have HB0:Hid (Below w.heap.size w (w.alloc (.cells #[.slice A n c, .slice A2 n2 c2] 140))):=(Below.refl _ _).alloc (Nat.le_refl _) _
 have HC:=hid (concat2 A A2 n c n2 c2 a b w.heap.size (w.alloc (.cells #[.slice A n c, .slice A2 n2 c2] 140)) (Blk.new _ _ _) ((h1.below HB0.out).more (by simp)) ((h2.below HB0.out).more (by simp)) hn1 hn2)
 clear h1 h2
 go_enter Tryz.func126,Tryz.ntmps126
 go_wp2_with (go_at_call 166;refine HC.out.mono ?_;rintro e w1 ⟨A1,n1,c1,rfl,hn1,ho1,hb1⟩;have HO1:=hid ho1;have HB1:=hid hb1;have HN1:=hid hn1;clear ho1 hb1 hn1)
 go_ret
 exact ⟨_,_,_,rfl,HN1.out,own_le HO1.out (by simp),HB0.out.trans (HB1.out.mono (by simp))⟩
end
section
open Go.RowKit
def wrS (cur:Nat→Nat) (ws:List (Nat × Nat)):Nat→Nat:=ws.foldl (fun c e=>upd c (e.1 / 8) e.2) cur
theorem runP_sts:∀ (ws:List (Nat × Nat)) (cur:Nat→Nat),runP cur (ws.map stI)=wrS cur ws
 | [],_=>rfl
 | e :: ws,cur=>by
  have:=runP_sts ws (upd cur (e.1 / 8) e.2)
  simpa [runP,wrS,stI,runI] using this
theorem runP_fls:∀ (fs:List Nat) (cur:Nat→Nat),runP cur (fs.map Ins.fl)=cur
 | [],_=>rfl
 | f :: fs,cur=>by
  have:=runP_fls fs cur
  simpa [runP,runI] using this
theorem goodP_sts {L:Nat}:∀ (ws:List (Nat × Nat)) (q:List Ins),(∀ e∈ws,e.1 % 8=0∧e.1 < 64 * L∧e.2 < 18446744073709551616)→goodP L false q→goodP L false (ws.map stI++q)
 | [],_,_,h=>h
 | e :: ws,q,hw,h=>⟨⟨rfl,hw e (by simp)⟩,goodP_sts ws q (fun e he=>hw e (by simp [he])) h⟩
theorem goodP_fls {L:Nat}:∀ (fs:List Nat) (b:Bool),(∀ o∈fs,o < 64 * L)→goodP L b (fs.map Ins.fl++[Ins.fe])
 | [],_,_=>⟨trivial,rfl⟩
 | f :: fs,_,h=>⟨h f (by simp),goodP_fls fs true (fun o ho=>h o (by simp [ho]))⟩
theorem isStores_good {L:Nat} {ws:List (Nat × Nat)} {p:List Ins} (h:IsStores ws p) (hw:∀ e∈ws,e.1 % 8=0∧e.1 < 64 * L∧e.2 < 18446744073709551616) (cur:Nat→Nat) :
  goodP L false p∧runP cur p=wrS cur ws∧p.length≤2 * ws.length+1:=by
 obtain ⟨fs,rfl,hl,hq⟩:=h
 refine ⟨?_,?_,by simp;omega⟩
 ·rw [List.append_assoc]
  refine goodP_sts ws _ hw (goodP_fls fs false fun o ho=>?_)
  obtain ⟨e,he,rfl⟩:=hq o ho
  have:=(hw e he).2.1
  unfold lineOf
  omega
 ·rw [runP_app,runP_app,runP_sts,runP_fls]
  rfl
end
end Go.Proofs.YtnlokpakiambaaaGreatDoor
