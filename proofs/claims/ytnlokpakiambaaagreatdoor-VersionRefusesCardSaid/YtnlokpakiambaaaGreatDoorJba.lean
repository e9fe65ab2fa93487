/- The walks and laws that the claim leans on, part 27. -/
import Derived.Test.YtnlokpakiambaaaGreatDoorJau
set_option maxRecDepth 100000
set_option maxHeartbeats 16000000
namespace Go.Proofs.YtnlokpakiambaaaGreatDoor
open Go.Lib (hid)
section
open Go.RowKit Go.Maps
def OIdx (w : World) (b n : Nat) (ws : List (Nat × Nat)) (k : Nat) : Prop := ∃ D : DataW Unit, w.ownsMap Tryz.prog 23 (plainElem Tryz.prog 3) b n D ∧ ∀ i (h : i < ws.length), i < k → D.atKey (kU (ws[i]).1) (.lit (.int .i64 0)) = .lit (.int .i64 (i : Int))
def Diff (ws : List (Nat × Nat)) : Prop := ∀ i j (hi : i < ws.length) (hj : j < ws.length), i ≠ j → (ws[i]).1 ≠ (ws[j]).1
theorem OIdx.new (w : World) (ws : List (Nat × Nat)) : OIdx (w.alloc (.map #[] 0)) w.heap.size 0 ws 0 := ⟨_, World.ownsMap_made w _ _ _, fun i _ h => absurd h (by omega)⟩
theorem OIdx.look {w : World} {b n k : Nat} {ws : List (Nat × Nat)} (h : OIdx w b n ws k) {i : Nat} (hl : i < ws.length) (hk : i < k) (hx : (ws[i]).1 < 18446744073709551616) :
  (Instr.lookup 296 (.map (some b)) (.int .u64 ((ws[i]).1 : Int)) false).run Tryz.prog w = .ok (.int .i64 (i : Int)) w := by
 obtain ⟨D, ho, hd⟩ := h
 obtain ⟨c, hrun, hc, _⟩ := ho.lookup_int keyedU Tryz.underlying296 Tryz.underlying3 (by kernel_rfl) (keyU hx)
 rw [hd i hl hk] at hc
 injection hc with hc
 injection hc with _ hc
 rw [hrun, ← hc]
theorem OIdx.add {w : World} {b n k : Nat} {ws : List (Nat × Nat)} (h : OIdx w b n ws k) (hn : n < maxLen) (hd' : Diff ws) (hl : k < ws.length) (hx : (ws[k]).1 < 18446744073709551616) (hk : k ≤ 1000000) :
  ∃ w', (Instr.mapUpdate 296 (.map (some b)) (.int .u64 ((ws[k]).1 : Int)) (.int .i64 (k : Int))).run Tryz.prog w = .ok () w' ∧ OIdx w' b (n + 1) ws (k + 1) ∧ w.grownBy w' (some b) := by
 obtain ⟨D, ho, hd⟩ := h
 obtain ⟨w', hrun, ho', hg⟩ := ho.update keyedU Tryz.underlying296 hn (keyU hx) (plainElem_int Tryz.underlying3 (a := (k : Int)) (by
  have hm : IntKind.i64.min = -9223372036854775808 := by decide
  have hx : IntKind.i64.max = 9223372036854775807 := by decide
  simp only [Lit.wf, hm, hx, Bool.and_eq_true, decide_eq_true_eq]
  omega))
 refine ⟨w', hrun, ⟨_, ho', fun i hi hik => ?_⟩, hg⟩
 by_cases e : i = k
 ·subst e
  rw [atKey_put_same ho.isMap (kU_key _)]
 ·rw [atKey_put_other (kU_ne (hd' i k hi hl e)), hd i hi (by omega)]
theorem OIdx.alloc {w : World} {b n k : Nat} {ws : List (Nat × Nat)} (h : OIdx w b n ws k) (o : Obj) : OIdx (w.alloc o) b n ws k := by
 obtain ⟨D, ho, hd⟩ := h
 exact ⟨D, ho.alloc o, hd⟩
theorem OIdx.kept {w w' : World} {b n k : Nat} {ws : List (Nat × Nat)} {row : Option Nat} (h : OIdx w b n ws k) (hg : w.grownBy w' row) (hne : some b ≠ row) : OIdx w' b n ws k := by
 obtain ⟨D, ho, hd⟩ := h
 exact ⟨D, ho.kept hg hne, hd⟩
theorem OIdx.ne_own {w : World} {b n k : Nat} {ws : List (Nat × Nat)} (h : OIdx w b n ws k) {base : Nat} {e : TypeId} {size m : Nat} {v : Value} {xs : List Value} (ho : w.ownsRow base e size v m xs) : some b ≠ v.ownBlock := by
 obtain ⟨D, hm, _⟩ := h
 exact map_ne_own hm ho
theorem last_any (A : Option Addr) (n c : Nat) (ws : List (Nat × Nat)) (w : World) (h : Reads w w.heap.size 2 A n (wrCells ws)) (hd : Diff ws) (hv : ∀ i (h : i < ws.length), (ws[i]).1 < 18446744073709551616) (hn : n ≤ 1000) :
  Calls Tryz.prog 124 #[.slice A n c] w (RetWr w ws) := by
 obtain ⟨i0, hi0, hz0, hz1, hz2⟩ := info_parts infoWrite
 have HR := hid h
 have HD := hid hd
 have HV := hid hv
 have HLN := hid (show ws.length = n by have := h.1; rw [wrCells_len] at this; omega)
 have hmm : ∀ W, (Instr.makeMap 296 none).run Tryz.prog W = .ok (.map (some W.heap.size)) (W.alloc (.map #[] 0)) := fun _ => rfl
 have HI0 : Hid (OIdx (w.alloc (.map #[] 0)) w.heap.size 0 ws 0) := hid (OIdx.new w ws)
 have HB0 : Hid (Below w.heap.size w (w.alloc (.map #[] 0))) := hid ((Below.refl _ w).alloc (Nat.le_refl _) _)
 clear h hd hv
 go_enter Tryz.func124, Tryz.ntmps124
 go_wp2
 clear hmm
 go_loopw [12] (fun i wr => ∃ k : Nat, k ≤ n ∧ i = .int .i64 (k : Int) ∧ Hid (OIdx wr w.heap.size k ws k) ∧ Hid (Below w.heap.size w wr)) (fun i _ => n - (Go.RowKit.intOf i).toNat)
 case atStart => exact ⟨0, Nat.zero_le _, rfl, HI0, HB0⟩
 case round =>
  clear HI0 HB0
  obtain ⟨k, hk, rfl, HI, HB⟩ := hrel
  by_cases hlt : k < n
  ·obtain ⟨hl, b, off, hA, hbB, f0, f1⟩ := wr_facts (HR.out.below HB.out) hlt
   subst hA
   have hz5 : (0 : Int) ≤ (k : Int) := by omega
   have hz6 : (k : Int) < (n : Int) := by omega
   obtain ⟨w3, hrun, hos, hgr⟩ := (HI.out.alloc (.cells #[.int .u64 ((ws[k]).1 : Int), .int .u64 ((ws[k]).2 : Int)] 90)).add (by unfold maxLen; omega) HD.out hl (HV.out k hl) (by omega)
   have HI3 := hid hos
   have HB3 := hid ((HB.out.alloc HB.out.size (.cells #[.int .u64 ((ws[k]).1 : Int), .int .u64 ((ws[k]).2 : Int)] 90)).grown hgr (Nat.le_trans HB.out.size (by simp)) (fun g hg => by cases hg; exact Nat.le_refl _))
   generalize ws[k] = e at *
   clear hos hgr HI HB
   go_wp2
   go_roundw
   case rel => exact ⟨k + 1, by omega, by go_num, HI3, HB3⟩
   case measure => simp [Go.RowKit.intOf]; omega
  ·have hkn : k = n := by omega
   subst hkn
   have HO0 : Hid (wr.ownsRow w.heap.size 90 2 (.slice none 0 0) 0 (wrCells (ws.take 0))) := hid (World.ownsRow_nil _ _ _ _)
   go_wp2
   go_loopw [6, 24] (fun l i wr => ∃ (q : Nat) (A1 : Option Addr) (c1 : Nat), q ≤ k ∧ i = .int .i64 (q : Int) ∧ l = .slice A1 q c1 ∧ Hid (wr.ownsRow w.heap.size 90 2 (.slice A1 q c1) q (wrCells (ws.take q))) ∧ Hid (OIdx wr w.heap.size k ws k) ∧ Hid (Below w.heap.size w wr)) (fun _ i _ => k - (Go.RowKit.intOf i).toNat)
   case atStart => exact ⟨0, _, _, Nat.zero_le _, rfl, rfl, HO0, HI, HB⟩
   case round =>
    clear HI HB HO0
    obtain ⟨q, A1, c1, hq, rfl, rfl, HO, HI, HB⟩ := hrel
    by_cases hlt2 : q < k
    ·obtain ⟨hl, b, off, hA, hbB, f0, f1⟩ := wr_facts (HR.out.below HB.out) hlt2
     subst hA
     have hz5 : (0 : Int) ≤ (q : Int) := by omega
     have hz6 : (q : Int) < (k : Int) := by omega
     have hlk := (HI.out.alloc (.cells #[.int .u64 ((ws[q]).1 : Int), .int .u64 ((ws[q]).2 : Int)] 90)).look hl hlt2 (HV.out q hl)
     have HTS := hid (takeS ws q hl)
     generalize ws[q] = e at *
     have hsz : w.heap.size ≤ wr.heap.size := HB.out.size
     go_wp2_with (at_builtin; refine stop ?_)
     unfold Stop
     have HR1 := hid (row_reads_at (wr.alloc (.cells #[.int .u64 (e.1 : Int), .int .u64 (e.2 : Int)] 90)) _ rfl [.int .u64 (e.1 : Int), .int .u64 (e.2 : Int)] 1 2 90 _ rfl rfl)
     rw [World.size_alloc] at HR1
     refine wpList_app _ (.tmp 35) (.tmp 37) 68 rfl rfl w.heap.size 90 i0 _ 2 16 Tryz.underlying68 hi0 hz0 hz1 hz2 rfl (by omega) (.slice A1 q c1) q (wrCells (ws.take q)) rfl ((HO.out.alloc _).alloc _) (wr.heap.size + 1 + 1) (some ⟨wr.heap.size + 1, 0, none⟩) 1 1 [.int .u64 (e.1 : Int), .int .u64 (e.2 : Int)] rfl HR1.out (u64s_one _ _) (by unfold maxLen; omega) (by omega) (by simp; omega) ?_
     intro A3 n3 c3 w8 hn3 ho3 hg3 hb3
     have hn3' : n3 = q + 1 := by omega
     subst hn3'
     have HO4 : Hid (w8.ownsRow w.heap.size 90 2 (.slice A3 (q + 1) c3) (q + 1) (wrCells (ws.take (q + 1)))) := hid (by rw [HTS.out, wrCells_snoc]; exact ho3)
     have HI4 : Hid (OIdx w8 w.heap.size k ws k) := hid (((HI.out.alloc _).alloc _).kept hg3 (HI.out.ne_own HO.out))
     have HB4 := hid (((HB.out.alloc HB.out.size _).alloc (by simp; omega) _).trans hb3)
     clear hn3 ho3 hg3 hb3 hlk
     go_wp2
     go_roundw
     case rel =>
      first
       | exact ⟨q + 1, _, _, by omega, by go_num, rfl, HO4, HI4, HB4⟩
       | (
         repeat apply Exists.intro
         refine ⟨?_, rfl⟩
         exact ⟨q + 1, _, _, by omega, by go_num, rfl, HO4, HI4, HB4⟩)
     case measure => simp [Go.RowKit.intOf]; omega
    ·have hqk : q = k := by omega
     subst hqk
     go_wp2
     go_ret
     have h := HO.out
     rw [List.take_of_length_le (by rw [HLN.out]; exact Nat.le_refl _)] at h
     exact ⟨_, _, _, rfl, HLN.out.symm, h, HB.out⟩
end
section
open Go.RowKit Go.Maps
def IsTwo (ws ws2 : List (Nat × Nat)) (p : List Ins) : Prop := ∃ p1 p2, IsStores ws p1 ∧ IsStores ws2 p2 ∧ p = p1 ++ p2
theorem isTwo_len {ws ws2 : List (Nat × Nat)} {p : List Ins} (h : IsTwo ws ws2 p) : p.length ≤ 2 * ws.length + 2 * ws2.length + 2 := by
 obtain ⟨p1, p2, h1, h2, rfl⟩ := h
 have := isStores_len h1
 have := isStores_len h2
 simp
 omega
theorem finish_any (a : DA) (s k g : Nat) (A : Option Addr) (n c : Nat) (ws : List (Nat × Nat)) (w : World) (h : Reads w w.heap.size 2 A n (wrCells ws)) (h0 : 0 < n) (hn : n ≤ 100) (hv : ∀ e ∈ ws, e.1 < 18446744073709551616) (hB : Blk w g 231 (logCells a s k)) (hs : 64 * s < 18446744073709551616) :
  Calls Tryz.prog 128 #[.pointer (some ⟨g, 0, none⟩), .slice A n c] w (RetProg w (IsTwo ws [(64 * s, 0)])) := by
 have HSt := hid (stores_small A n c ws w h h0 (by omega) hv)
 have HLN := hid (show ws.length = n by have := h.1; rw [wrCells_len] at this; omega)
 have HBB := hid hB
 have HMk : Hid (∀ W, Below w.heap.size w W → Calls Tryz.prog 127 #[.pointer (some ⟨g, 0, none⟩), .int .u64 0] W (RetProg W (IsStores [(64 * s, 0)]))) := hid (fun W hW => mark_any a s k g 0 W (hB.below hW hB.lt) hs)
 clear h hv hB
 go_enter Tryz.func128, Tryz.ntmps128
 go_wp2_with fail
 refine HSt.out.mono ?_
 rintro e1 w4 ⟨B1, n1, d1, p1, rfl, hp1, ho1, hb1⟩
 have HP1 := hid hp1
 have HO1 := hid ho1
 have HB4 := hid hb1
 have HSS := hid (HMk.out w4 hb1)
 clear hp1 ho1 hb1 HSt
 go_wp2_with fail
 refine HSS.out.mono ?_
 rintro e1 w5 ⟨B2, n2, d2', p2, rfl, hp2, ho2, hb2⟩
 have HP2 := hid hp2
 have HB5 := hid (HB4.out.trans (hb2.mono HB4.out.size))
 have hl1 : n1 ≤ 400 := by
  have h1 := HO1.out.1
  have h2 := isStores_len HP1.out
  rw [insCells_len] at h1
  have := HLN.out
  omega
 have hl2 : n2 ≤ 400 := by
  have h1 := ho2.1
  have h2 := isStores_len HP2.out
  rw [insCells_len] at h1
  simp at h2
  omega
 have HTh := hid (then_any B1 B2 n1 d1 n2 d2' p1 p2 w5 (Reads.of_own (own_below HO1.out hb2)) (Reads.of_own ho2) hl1 hl2)
 clear hp2 ho2 hb2 HSS HO1
 go_wp2_with fail
 refine HTh.out.mono ?_
 rintro e1 w6 ⟨B3, n3, d3, rfl, hn3, ho3, hb3⟩
 have HO3 := hid ho3
 have HB6 := hid (HB5.out.trans (hb3.mono HB5.out.size))
 clear hn3 ho3 hb3 HTh
 go_wp2
 go_ret
 exact ⟨_, _, _, _, rfl, ⟨p1, p2, HP1.out, HP2.out, rfl⟩, own_le HO3.out HB5.out.size, HB6.out⟩
end
section
open Go.RowKit Go.Maps
def IsRedo (s : Nat) (ws : List (Nat × Nat)) (p : List Ins) : Prop := (ws = [] ∧ p = []) ∨ (ws ≠ [] ∧ ∃ cm p1 p2 p3, cm < 18446744073709551616 ∧ IsStores (entW (64 * s) 0 ws) p1 ∧ IsStores [(64 * s, cm)] p2 ∧ IsTwo ws [(64 * s, 0)] p3 ∧ p = p1 ++ p2 ++ p3)
def flatW : List (Nat × Nat) → List Nat
 | [] => []
 | e :: l => e.1 :: e.2 :: flatW l
theorem flatW_snoc : ∀ (l : List (Nat × Nat)) (e : Nat × Nat), flatW (l ++ [e]) = flatW l ++ [e.1, e.2]
 | [], e => rfl
 | x :: l, e => by
  have := flatW_snoc l e
  simp [flatW, this]
theorem flatW_mem : ∀ (l : List (Nat × Nat)) (x : Nat), x ∈ flatW l → ∃ e ∈ l, x = e.1 ∨ x = e.2
 | [], x, h => by simp [flatW] at h
 | e :: l, x, h => by
  simp only [flatW, List.mem_cons] at h
  rcases h with h | h | h
  ·exact ⟨e, by simp, .inl h⟩
  ·exact ⟨e, by simp, .inr h⟩
  ·obtain ⟨y, hy, h2⟩ := flatW_mem l x h
   exact ⟨y, by simp [hy], h2⟩
theorem planR_any {a : DA} {L T : Nat} {w : World} {S : Fp} {cur : Nat → Nat} {F : Nat} (h : Dev a L T w S cur F) (g s n : Nat) (hB : Blk w g 231 (logCells a s n)) (hs : s + n ≤ L) (hn : 26 ≤ n)
  (A : Option Addr) (N c : Nat) (ws : List (Nat × Nat)) (hr : Reads w w.heap.size 2 A N (wrCells ws)) (hd : Diff ws) (ho : ∀ e ∈ ws, OffOk L s n e.1) (hv : ∀ e ∈ ws, e.2 < 18446744073709551616) (hN : N ≤ 96) (hidle : cur (8 * s) = 0) (ht : Tab w) :
  Calls Tryz.prog 84 #[.pointer (some ⟨g, 0, none⟩), .slice A N c] w (RetPlan w (IsRedo s ws)) := by
 have hL : L ≤ 4096 := by obtain ⟨ls, exe, per, cs, lsC, hdc, hnt⟩ := h; exact hdc.hL
 have HD := hid h
 have HBB := hid hB
 have HRo := hid hr
 obtain ⟨i0, hi0, hz0, hz1, hz2⟩ := info_parts infoWrite
 obtain ⟨j0, hj0, hy0, hy1, hy2⟩ := info_parts infoU64
 have HTb := hid ht
 have HVal : Hid (∀ e ∈ ws, e.1 < 18446744073709551616 ∧ e.2 < 18446744073709551616) := hid (fun e he => ⟨by have := (ho e he).lt; omega, hv e he⟩)
 have hz64 : 64 * s ≤ 1000000 := by omega
 have HLN := hid (show ws.length = N by have := hr.1; rw [wrCells_len] at this; omega)
 have f0 : w.cell? ⟨g, 0, none⟩ = some (memV a) := hB.cell 0
 have hq := eqMem (some ⟨a.th 0, 0, none⟩)
 have hmE := methErr (some ⟨a.th 0, 0, none⟩)
 have hmL := methLoad (some ⟨a.th 0, 0, none⟩)
 have hna := aheadLoad ⟨a.th 0, 0, none⟩
 have HLd : Hid (∀ W, Below w.heap.size w W → Calls Tryz.prog 53 #[.pointer (some ⟨a.th 0, 0, none⟩), .int .u64 ((64 * s : Nat) : Int)] W fun e w' => e = .returned (.int .u64 0) ∧ W = w') := hid (fun W hW => load_at h (64 * s) 0 (by omega) (by omega) (by rw [show 64 * s / 8 = 8 * s by omega]; exact hidle) W hW)
 have HV1 : Hid (∀ i (h : i < ws.length), (ws[i]).1 < 18446744073709551616) := hid (fun i hi => by have := (ho _ (List.getElem_mem hi)).lt; omega)
 have HAl : Hid (∀ k (hk : k < ws.length) W, Below w.heap.size w W → Calls Tryz.prog 123 #[.pointer (some ⟨g, 0, none⟩), .int .u64 ((ws[k]).1 : Int)] W fun e w' => e = .returned (.bool true) ∧ Below W.heap.size W w') := hid (fun k hk W hW =>
  allowedR_any (h.below hW) g s n (hB.below hW hB.lt) hs _ (ho _ (List.getElem_mem hk)))
 have HEr : Hid (∀ W, Below w.heap.size w W → Calls Tryz.prog 27 #[.pointer (some ⟨a.th 0, 0, none⟩)] W fun e w' => e = .returned (.int .i64 0) ∧ W = w') := hid (fun W hW => err_dev (h.below hW) (j := 0) (by omega))
 have HLa : Hid (∀ W, Below w.heap.size w W → Calls Tryz.prog 124 #[.slice A N c] W (RetWr W ws)) := hid (fun W hW => last_any A N c ws W ((hr.below hW).more hW.size) hd HV1.out (by omega))
 have HB0 : Hid (Below w.heap.size w w) := Below.refl _ _
 clear h hB hr ho hd
 unfold memV at *
 go_enter Tryz.func84, Tryz.ntmps84
 go_wp2
 go_loopw [29] (fun i wr => ∃ (k : Nat), k ≤ N ∧ i = .int .i64 k ∧ Hid (Below w.heap.size w wr)) (fun i _ => N - (Go.RowKit.intOf i).toNat)
 case atStart => exact ⟨0, Nat.zero_le _, rfl, HB0⟩
 case round =>
  clear HB0
  obtain ⟨k, hk, rfl, H⟩ := hrel
  by_cases hlt : k < N
  ·obtain ⟨hkl, b, off, hA, hbB, q0, q1⟩ := wr_facts (HRo.out.below H.out) hlt
   subst hA
   have hz5 : (0 : Int) ≤ (k : Int) := by omega
   have hz6 : (k : Int) < (N : Int) := by omega
   have hba : Below w.heap.size w (wr.alloc (.cells #[.int .u64 ((ws[k]).1 : Int), .int .u64 ((ws[k]).2 : Int)] 90)) := H.out.alloc H.out.size _
   have HA := hid (HAl.out k hkl _ hba)
   have HBa := hid hba
   clear hba
   generalize ws[k] = o at *
   go_wp2_with fail
   refine HA.out.mono ?_
   rintro e1 w2 ⟨rfl, hb2⟩
   have HB2 := hid (HBa.out.trans (hb2.mono HBa.out.size))
   clear hb2 HA H HBa
   go_wp2
   go_roundw
   case rel =>
    first
     | exact ⟨k + 1, by omega, by go_num, HB2⟩
     | (
       repeat apply Exists.intro
       refine ⟨?_, rfl⟩
       exact ⟨k + 1, by omega, by go_num, HB2⟩)
   case measure => simp [Go.RowKit.intOf]; omega
  ·have hkN : k = N := by omega
   subst hkN
   clear HAl
   go_wp2_with fail
   refine (HLa.out wr H.out).mono ?_
   rintro e1 w1 ⟨A1, m1, c1, rfl, hm1, ho1, hb1⟩
   have HB1 := hid (H.out.trans (hb1.mono H.out.size))
   have HO1 := hid ho1
   have hmk : m1 = k := by have := HLN.out; omega
   subst hmk
   have g0 : w1.cell? ⟨g, 0, none⟩ = some (.iface 41 (.pointer (some ⟨a.th 0, 0, none⟩))) := (HBB.out.below HB1.out HBB.out.lt).cell 0
   have g1 : w1.cell? ⟨g, 1, none⟩ = some (.int .u64 ((64 * s : Nat) : Int)) := (HBB.out.below HB1.out HBB.out.lt).cell 1
   have HE1 := hid (HEr.out w1 HB1.out)
   clear hm1 ho1 hb1 HLa H
   go_wp2_with fail
   refine HE1.out.mono ?_
   rintro e w2 ⟨rfl, rfl⟩
   have HB1d := hid (below_drewN HB1.out 1)
   generalize hz : 64 * s = z at *
   have HZ := hid hz
   clear hz
   go_wp2_with fail
   go_cut [10] from 18 to 132 (fun v wx => v = .int .u64 0 ∧ Hid (Below w1.heap.size w1 wx))
   case first =>
    go_region_with (go_at_call 53; refine (HLd.out _ HB1d.out).mono ?_; rintro e w3 ⟨rfl, rfl⟩)
    all_goals (go_wp2_with fail; go_meet; exact ⟨rfl, (Below.refl _ w1).drew⟩)
   case rest =>
    obtain ⟨rfl, HW⟩ := hcut
    rename World => wz
    have HBz := hid (HB1.out.trans (HW.out.mono HB1.out.size))
    have HE2 := hid (HEr.out wz HBz.out)
    have HOz := hid (own_below HO1.out HW.out)
    clear HW HE1 HB1d HLd
    have hBk := HBB.out.below HBz.out HBB.out.lt
    have d0 : wz.cell? ⟨g, 0, none⟩ = some (.iface 41 (.pointer (some ⟨a.th 0, 0, none⟩))) := hBk.cell 0
    have d1 : wz.cell? ⟨g, 1, none⟩ = some (.int .u64 (z : Int)) := by rw [← HZ.out]; exact hBk.cell 1
    clear hBk g0 g1
    rcases Nat.eq_zero_or_pos m1 with h0 | h0
    ·subst h0
     have hws : ws = [] := List.eq_nil_of_length_eq_zero HLN.out
     go_wp2_with fail
     refine HE2.out.mono ?_
     rintro e w2 ⟨rfl, rfl⟩
     go_wp2
     go_ret2
     exact ⟨_, _, _, [], rfl, .inl ⟨hws, rfl⟩, World.ownsRow_nil _ _ _ _, HBz.out⟩
    ·have e9 : ((m1 : Int) == 0) = false := by rw [beq_eq_false_iff_ne]; omega
     have hrd := hid ((Reads.of_own HOz.out).more (Nat.le_refl _))
     have HO0 : Hid (wz.ownsRow wz.heap.size 90 2 (.slice none 0 0) 0 (wrCells (entW z 0 (ws.take 0)))) := World.ownsRow_nil _ _ _ _
     have HU0 : Hid (wz.ownsRow wz.heap.size 23 1 (.slice none 0 0) 0 (uCells (flatW (ws.take 0)))) := World.ownsRow_nil _ _ _ _
     have HQ0 : Hid (Below wz.heap.size wz wz) := Below.refl _ _
     clear hidle
     go_wp2_with fail
     refine HE2.out.mono ?_
     rintro e w2 ⟨rfl, rfl⟩
     clear HE2 hmE
     go_wp2
     go_loopw [12, 13, 78] (fun l u i wr => ∃ (t : Nat) (A2 : Option Addr) (m2 c2 : Nat) (A3 : Option Addr) (m3 c3 : Nat), t ≤ m1 ∧ i = .int .i64 t ∧ l = .slice A2 m2 c2 ∧ u = .slice A3 m3 c3 ∧ Hid (m2 = 2 * t ∧ m3 = 2 * t) ∧ Hid (wr.ownsRow wz.heap.size 90 2 (.slice A2 m2 c2) m2 (wrCells (entW z 0 (ws.take t)))) ∧ Hid (wr.ownsRow wz.heap.size 23 1 (.slice A3 m3 c3) m3 (uCells (flatW (ws.take t)))) ∧ Hid (Below wz.heap.size wz wr)) (fun _ _ i _ => m1 - (Go.RowKit.intOf i).toNat)
     case atStart => exact ⟨0, _, _, _, _, _, _, Nat.zero_le _, rfl, rfl, rfl, hid ⟨rfl, rfl⟩, HO0, HU0, HQ0⟩
     case round =>
      clear HO0 HU0 HQ0
      obtain ⟨t, A2, m2, c2, A3, m3, c3, ht, rfl, rfl, rfl, HM, HO, HU, HQ⟩ := hrel
      by_cases hlt4 : t < m1
      ·obtain ⟨htl, b, off, hA, hbB, q0, q1⟩ := wr_facts (hrd.out.below HQ.out) hlt4
       subst hA
       have hz5 : (0 : Int) ≤ (t : Int) := by omega
       have hz6 : (t : Int) < (m1 : Int) := by omega
       have HTS := hid (takeS ws t htl)
       have HEn4 := hid (entW_snoc z (ws.take t) 0 (ws[t]))
       have HFl := hid (flatW_snoc (ws.take t) (ws[t]))
       rw [← HTS.out, show (ws.take t).length = t by simp; omega, Nat.zero_add] at HEn4
       rw [← HTS.out] at HFl
       generalize ws[t] = e at *
       have u1 : IntKind.u64.wrap ((z : Int) + 64) = ((z + 64 : Nat) : Int) := by rw [IntKind.wrap_u64]; omega
       have u2 : IntKind.u64.wrap (t : Int) = (t : Int) := by rw [IntKind.wrap_u64]; omega
       have u3 : IntKind.u64.wrap ((t : Int) * 16) = ((16 * t : Nat) : Int) := by rw [IntKind.wrap_u64]; omega
       have u4 : IntKind.u64.wrap (((z + 64 : Nat) : Int) + ((16 * t : Nat) : Int)) = ((z + 64 + 16 * t : Nat) : Int) := by rw [IntKind.wrap_u64]; omega
       have u5 : IntKind.u64.wrap (((z + 64 + 16 * t : Nat) : Int) + 8) = ((z + 64 + 16 * t + 8 : Nat) : Int) := by rw [IntKind.wrap_u64]; omega
       have hmm2 := HM.out.1
       have hmm3 := HM.out.2
       subst hmm2
       subst hmm3
       have HBk := hid (Blk.new wr 90 #[.int .u64 (e.1 : Int), .int .u64 (e.2 : Int)])
       have HOa := hid (HO.out.alloc (.cells #[.int .u64 (e.1 : Int), .int .u64 (e.2 : Int)] 90))
       have HUa := hid (HU.out.alloc (.cells #[.int .u64 (e.1 : Int), .int .u64 (e.2 : Int)] 90))
       have HQa := hid (HQ.out.alloc HQ.out.size (.cells #[.int .u64 (e.1 : Int), .int .u64 (e.2 : Int)] 90))
       have HNE : Hid (∀ g', (Value.slice A2 (2 * t) c2).ownBlock = some g' → g' < wr.heap.size) := fun g' hg' => (HO.out.lt g' hg').2
       have f1 : wr.cell? ⟨g, 1, none⟩ = some (.int .u64 (z : Int)) := (World.cell?_of_block (HQ.out.block g (by have := HBB.out.below HBz.out HBB.out.lt; exact this.lt))).trans d1
       have hlg : g < wr.heap.size := by have h1 := (HBB.out.below HBz.out HBB.out.lt).lt; have h2 := HQ.out.size; omega
       clear HO HQ HU HM
       generalize z + 64 + 16 * t + 8 = y2 at *
       generalize z + 64 + 16 * t = y at *
       generalize z + 64 = x at *
       generalize 16 * t = q at *
       go_wp2_with (at_builtin; refine stop ?_)
       unfold Stop
       refine wpList_app2 _ (.tmp 92) (.tmp 97) 68 rfl rfl wz.heap.size 90 i0 _ 2 16 Tryz.underlying68 hi0 hz0 hz1 hz2 rfl (by omega) (.slice A2 (2 * t) c2) (2 * t) (wrCells (entW z 0 (ws.take t))) rfl (HOa.out.alloc _) (wr.heap.size + 1 + 1) (some ⟨wr.heap.size + 1, 0, none⟩) 1 1 [.int .u64 (y : Int), .int .u64 (e.1 : Int)] rfl (row_reads_at _ _ (by simp) _ 1 2 90 _ rfl rfl) (u64s_one _ _) (by unfold maxLen; omega) (by omega) (by have := HQa.out.size; simp; simp at this; omega) ?_
       intro A4 n4 c4 w5 hn4 ho4 hg4 hp4
       have hb4 : Below wz.heap.size _ w5 := (Below.refl _ _).grown hg4 (by have := HQa.out.size; simp; simp at this; omega) (fun j hj => (HOa.out.lt j hj).1)
       have hk5 := (HBk.out.alloc (.cells #[.int .u64 (y : Int), .int .u64 (e.1 : Int)] 90)).grown hg4 (fun e => by have := HNE.out _ e.symm; omega)
       have HBk5 := hid hk5
       have d5 : w5.cell? ⟨wr.heap.size, 1, none⟩ = some (.int .u64 (e.2 : Int)) := hk5.cell 1
       have HO5 := hid ho4
       have HU5 := hid ((HUa.out.alloc (.cells #[.int .u64 (y : Int), .int .u64 (e.1 : Int)] 90)).kept hg4 (own_own_ne HUa.out HOa.out (by decide)))
       have HQ5 := hid ((HQa.out.alloc HQa.out.size _).trans hb4)
       have HN5 : Hid (∀ g', (Value.slice A4 n4 c4).ownBlock = some g' → g' ≠ wr.heap.size) := hid (fun g' hg' e => by
        rcases hp4 with h | h
        ·have := HNE.out g' (h.symm.trans hg'); omega
        ·rw [h] at hg'; simp at hg'; omega)
       have hn4' : n4 = 2 * t + 1 := by omega
       subst hn4'
       have hl5 : wr.heap.size < w5.heap.size := hk5.lt
       clear hn4 ho4 hg4 hb4 hp4 hk5 HBk HOa HUa HQa HNE
       go_wp2_with (at_builtin; refine stop ?_)
       unfold Stop
       refine wpList_app _ (.tmp 99) (.tmp 105) 68 rfl rfl wz.heap.size 90 i0 _ 2 16 Tryz.underlying68 hi0 hz0 hz1 hz2 rfl (by omega) (.slice A4 (2 * t + 1) c4) (2 * t + 1) _ rfl (HO5.out.alloc _) (w5.heap.size + 1) (some ⟨w5.heap.size, 0, none⟩) 1 1 [.int .u64 (y2 : Int), .int .u64 (e.2 : Int)] rfl (row_reads_at _ _ rfl _ 1 2 90 _ rfl rfl) (u64s_one _ _) (by unfold maxLen; omega) (by omega) (by have := HQ5.out.size; simp; omega) ?_
       intro A5 n5 c5 w6 hn5 ho5 hg5 hb5
       have HO6 : Hid (w6.ownsRow wz.heap.size 90 2 (.slice A5 n5 c5) n5 (wrCells (entW z 0 (ws.take (t + 1))))) := hid (by rw [HEn4.out, show ∀ l : List (Nat × Nat), l ++ [(y, e.1), (y2, e.2)] = (l ++ [(y, e.1)]) ++ [(y2, e.2)] from fun l => by simp, wrCells_snoc, wrCells_snoc]; exact ho5)
       have HQ6 := hid ((HQ5.out.alloc HQ5.out.size _).trans hb5)
       have HU6 := hid ((HU5.out.alloc (.cells #[.int .u64 (y2 : Int), .int .u64 (e.2 : Int)] 90)).kept hg5 (own_own_ne HU5.out HO5.out (by decide)))
       have hk6 := (HBk5.out.alloc (.cells #[.int .u64 (y2 : Int), .int .u64 (e.2 : Int)] 90)).grown hg5 (fun e => HN5.out _ e.symm rfl)
       have d6 : w6.cell? ⟨wr.heap.size, 0, none⟩ = some (.int .u64 (e.1 : Int)) := hk6.cell 0
       have d7 : w6.cell? ⟨wr.heap.size, 1, none⟩ = some (.int .u64 (e.2 : Int)) := hk6.cell 1
       have hl6 : wr.heap.size < w6.heap.size := hk6.lt
       have HN6 : Hid (n5 = 2 * (t + 1)) := hid (by omega)
       clear hn5 ho5 hg5 hb5 hk6 HO5 HU5 HQ5 HBk5 HN5 d5
       go_wp2_with (at_builtin; refine stop ?_)
       unfold Stop
       refine wpList_app _ (.tmp 107) (.tmp 112) 33 rfl rfl wz.heap.size 23 j0 _ 1 8 Tryz.underlying33 hj0 hy0 hy1 hy2 rfl (by omega) (.slice A3 (2 * t) c3) (2 * t) _ rfl (HU6.out.alloc _) (w6.heap.size + 1) (some ⟨w6.heap.size, 0, none⟩) 2 2 [.int .u64 (e.1 : Int), .int .u64 (e.2 : Int)] rfl (row_reads_at _ _ rfl _ 2 1 23 _ rfl rfl) (u64s_one _ _) (by unfold maxLen; omega) (by omega) (by have := HQ6.out.size; simp; omega) ?_
       intro A6 n6 c6 w7 hn6 ho6 hg6 hb6
       have HU7 : Hid (w7.ownsRow wz.heap.size 23 1 (.slice A6 n6 c6) n6 (uCells (flatW (ws.take (t + 1))))) := hid (by rw [HFl.out]; show w7.ownsRow _ _ _ _ _ (uCells (flatW (ws.take t) ++ [e.1, e.2])); unfold uCells; rw [List.map_append]; exact ho6)
       have HO7 := hid ((HO6.out.alloc (.cells #[.int .u64 (e.1 : Int), .int .u64 (e.2 : Int)] 23)).kept hg6 (own_own_ne HO6.out HU6.out (by decide)))
       have HQ7 := hid ((HQ6.out.alloc HQ6.out.size _).trans hb6)
       have HM7 : Hid (n5 = 2 * (t + 1) ∧ n6 = 2 * (t + 1)) := hid ⟨HN6.out, by omega⟩
       clear hn6 ho6 hg6 hb6 HO6 HU6 HQ6 HN6 d6 d7
       go_wp2
       go_roundw
       case rel =>
        first
         | exact ⟨t + 1, _, _, _, _, _, _, by omega, by go_num, rfl, rfl, HM7, HO7, HU7, HQ7⟩
         | (
           repeat apply Exists.intro
           refine ⟨?_, rfl⟩
           exact ⟨t + 1, _, _, _, _, _, _, by omega, by go_num, rfl, rfl, HM7, HO7, HU7, HQ7⟩)
       case measure => simp [Go.RowKit.intOf]; omega
      ·have htm : m1 = t := by omega
       subst htm
       have htk : ws.take m1 = ws := List.take_of_length_le (by have := HLN.out; omega)
       rw [htk] at HO HU
       have hmm2 := HM.out.1
       have hmm3 := HM.out.2
       subst hmm2
       subst hmm3
       have HBr := hid (HBz.out.trans (HQ.out.mono HBz.out.size))
       have HWd := hid (words_any A3 (2 * m1) c3 wr.heap.size (flatW ws) wr (Reads.of_own HU.out) (fun x hx => by
        obtain ⟨e, he, h | h⟩ := flatW_mem ws x hx
        ·rw [h]; exact (HVal.out e he).1
        ·rw [h]; exact (HVal.out e he).2) (by omega) (HTb.out.below HBr.out))
       have u1 : IntKind.u64.wrap (m1 : Int) = (m1 : Int) := by rw [IntKind.wrap_u64]; omega
       go_wp2_with fail
       refine HWd.out.mono ?_
       rintro e w2 ⟨v, hv, rfl, rfl⟩
       have u2 : IntKind.u64.wrap (v : Int) = (v : Int) := by rw [IntKind.wrap_u64]; omega
       obtain ⟨cm, hcm, hcl⟩ : ∃ cm : Nat, bits BinOp.or IntKind.u64 (m1 : Int) ((v : Int) * 4294967296) = (cm : Int) ∧ cm < 18446744073709551616 := by
        refine ⟨m1 + v * 4294967296, ?_, by omega⟩
        have h := Go.u64_or32 (y := (m1 : Int)) (x := (v : Int) * 4294967296) (by omega) (by omega) (by omega) (by omega) (by omega)
        rw [h]
        omega
       have hfl : ws.length = m1 := HLN.out
       have HBk := hid (HBB.out.below HBr.out HBB.out.lt)
       have HSt := hid (stores_small A2 (2 * m1) c2 _ wr (Reads.of_own HO.out) (by omega) (by omega) (fun e he => by
        obtain ⟨j2, h1, h2, _⟩ := entW_mem _ _ _ _ he
        omega))
       have HMk : Hid (∀ W, Below wr.heap.size wr W → Calls Tryz.prog 127 #[.pointer (some ⟨g, 0, none⟩), .int .u64 (cm : Int)] W (RetProg W (IsStores [(z, cm)]))) := hid (fun W hW => by
        have h := mark_any a s n g cm W (HBk.out.below hW HBk.out.lt) (by omega)
        rw [HZ.out] at h
        exact h)
       have HFi : Hid (∀ W, Below wr.heap.size wr W → Calls Tryz.prog 128 #[.pointer (some ⟨g, 0, none⟩), .slice A1 m1 c1] W (RetProg W (IsTwo ws [(z, 0)]))) := hid (fun W hW => by
        have hr := hrd.out.below (HQ.out.trans (hW.mono HQ.out.size))
        have h := finish_any a s n g A1 m1 c1 ws W (hr.more (Nat.le_trans HQ.out.size hW.size)) h0 (by omega) (fun e he => (HVal.out e he).1) (HBk.out.below hW HBk.out.lt) (by omega)
        rw [HZ.out] at h
        exact h)
       clear HWd HU HO
       go_wp2_with fail
       refine HSt.out.mono ?_
       rintro e1 w4 ⟨B1, n1, d1, p1, rfl, hp1, ho1, hb1⟩
       have HP1 := hid hp1
       have HO1 := hid ho1
       have HB4 := hid hb1
       have HMk4 := hid (HMk.out w4 hb1)
       clear hp1 ho1 hb1 HSt
       go_wp2_with fail
       refine HMk4.out.mono ?_
       rintro e1 w5 ⟨B2, n2, d2', p2, rfl, hp2, ho2, hb2⟩
       have HP2 := hid hp2
       have HB5 := hid (HB4.out.trans (hb2.mono HB4.out.size))
       have hl1 : n1 ≤ 390 := by
        have h1 := HO1.out.1
        have h2 := isStores_len HP1.out
        rw [insCells_len] at h1
        rw [entW_len] at h2
        omega
       have hl2 : n2 ≤ 3 := by
        have h1 := ho2.1
        have h2 := isStores_len HP2.out
        rw [insCells_len] at h1
        simp at h2
        omega
       have HTh := hid (then_any B1 B2 n1 d1 n2 d2' p1 p2 w5 (Reads.of_own (own_below HO1.out hb2)) (Reads.of_own ho2) (by omega) (by omega))
       clear hp2 ho2 hb2 HMk4 HO1
       go_wp2_with fail
       refine HTh.out.mono ?_
       rintro e1 w6 ⟨B3, n3, d3, rfl, hn3, ho3, hb3⟩
       have HO3 := hid ho3
       have HB6 := hid (HB5.out.trans (hb3.mono HB5.out.size))
       have HFi6 := hid (HFi.out w6 HB6.out)
       have hl3 : n3 ≤ 393 := by omega
       clear hn3 ho3 hb3 HTh
       go_wp2_with fail
       refine HFi6.out.mono ?_
       rintro e1 w7 ⟨B4, n4, d4, p4, rfl, hp4, ho4, hb4⟩
       have HP4 := hid hp4
       have HB7 := hid (HB6.out.trans (hb4.mono HB6.out.size))
       have hl4 : n4 ≤ 200 := by
        have h1 := ho4.1
        have h2 := isTwo_len HP4.out
        rw [insCells_len] at h1
        simp at h2
        omega
       have HTh2 := hid (then_any B3 B4 n3 d3 n4 d4 (p1 ++ p2) p4 w7 (Reads.of_own (own_below HO3.out hb4)) (Reads.of_own ho4) (by omega) (by omega))
       clear hp4 ho4 hb4 HFi6 HO3
       go_wp2_with fail
       refine HTh2.out.mono ?_
       rintro e1 w8 ⟨B5, n5, d5, rfl, hn5, ho5, hb5⟩
       have HO5 := hid ho5
       have HB8 := hid (HBr.out.trans ((HB7.out.trans (hb5.mono HB7.out.size)).mono HBr.out.size))
       have HZ7 := hid (Nat.le_trans HBr.out.size HB7.out.size)
       clear hn5 ho5 hb5 HTh2
       go_wp2
       go_ret2
       have hz := HZ.out
       subst hz
       exact ⟨_, _, _, _, rfl, .inr ⟨fun h => by rw [h] at hfl; simp at hfl; omega, cm, p1, p2, p4, hcl, HP1.out, HP2.out, HP4.out, rfl⟩, own_le HO5.out HZ7.out, HB8.out⟩
end
end Go.Proofs.YtnlokpakiambaaaGreatDoor
