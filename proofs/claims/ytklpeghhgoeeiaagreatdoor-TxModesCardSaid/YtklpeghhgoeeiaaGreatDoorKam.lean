/- The walks and laws that the claim leans on, part 13: each part says ahead of its lines what it holds. -/
import Derived.Test.YtklpeghhgoeeiaaGreatDoorKal
/- undo: Plan. -/
namespace Go.Proofs.YtklpeghhgoeeiaaGreatDoor
open Go.RowKit Go.Maps
theorem u_facts {w : World} {B n : Nat} {A : Option Addr} {l : List Nat} (h : Reads w B 1 A n (uCells l)) {k : Nat} (hk : k < n) :
    ∃ (hl : k < l.length) (b off : Nat), A = some ⟨b, off, none⟩ ∧ b < B ∧ w.cell? ⟨b, off + k, none⟩ = some (.int .u64 ((l[k]) : Int)) := by
  have hl : k < l.length := by have := h.1; simp [uCells] at this; omega
  obtain ⟨b, off, hA, hb, hc⟩ := h.plain (by omega) (by omega)
  exact ⟨hl, b, off, hA, hb, hc k _ (by simp [uCells, hl])⟩
theorem mem_snoc_map (l : List (Nat × Nat)) (e : Nat × Nat) (x : Nat) : x ∈ e.1 :: l.map (·.1) ↔ x ∈ (l ++ [e]).map (·.1) := by
  rw [List.map_append, List.mem_append, List.mem_cons]
  constructor
  · rintro (h | h)
    · exact .inr (by simp [h])
    · exact .inl h
  · rintro (h | h)
    · exact .inr h
    · exact .inl (by simpa using h)
/-- The new words with their values. -/
def frW (cur : Nat → Nat) (os : List Nat) : List (Nat × Nat) := os.map fun o => (o, cur (o / 8))
/-- The stores of k entries from entry number n on, of a log at offset z. -/
def entW (z n : Nat) : List (Nat × Nat) → List (Nat × Nat)
  | [] => []
  | e :: l => (z + 64 + 16 * n, e.1) :: (z + 64 + 16 * n + 8, e.2) :: entW z (n + 1) l
theorem entW_snoc (z : Nat) : ∀ (l : List (Nat × Nat)) (n : Nat) (e : Nat × Nat), entW z n (l ++ [e]) = entW z n l ++ [(z + 64 + 16 * (n + l.length), e.1), (z + 64 + 16 * (n + l.length) + 8, e.2)]
  | [], n, e => by simp [entW]
  | x :: l, n, e => by
    have := entW_snoc z l (n + 1) e
    simp only [List.cons_append, entW, this, List.length_cons]
    rw [show n + 1 + l.length = n + (l.length + 1) by omega]
theorem entW_len (z : Nat) : ∀ (l : List (Nat × Nat)) (n : Nat), (entW z n l).length = 2 * l.length
  | [], n => rfl
  | x :: l, n => by have := entW_len z l (n + 1); simp only [entW, List.length_cons, this]; omega
theorem entW_mem (z : Nat) : ∀ (l : List (Nat × Nat)) (n : Nat) (e : Nat × Nat), e ∈ entW z n l → ∃ j, j < l.length ∧ (e.1 = z + 64 + 16 * (n + j) ∨ e.1 = z + 64 + 16 * (n + j) + 8) ∧ ∃ x ∈ l, e.2 = x.1 ∨ e.2 = x.2
  | [], n, e, h => by simp [entW] at h
  | x :: l, n, e, h => by
    simp only [entW, List.mem_cons] at h
    rcases h with rfl | rfl | h
    · exact ⟨0, by simp, .inl (by simp), x, by simp, .inl rfl⟩
    · exact ⟨0, by simp, .inr (by simp), x, by simp, .inr rfl⟩
    · obtain ⟨j, h1, h2, y, hy, h3⟩ := entW_mem z l (n + 1) e h
      refine ⟨j + 1, by simp; omega, ?_, y, by simp [hy], h3⟩
      rcases h2 with h2 | h2
      · exact .inl (by omega)
      · exact .inr (by omega)
/-- The program of a Save. -/
def IsPlan (z n : Nat) (fw : List (Nat × Nat)) (p : List Ins) : Prop := (fw = [] ∧ p = []) ∨ (fw ≠ [] ∧ ∃ p1 p2, IsStores (entW z n fw) p1 ∧ IsStores [(z, n + fw.length)] p2 ∧ p = p1 ++ p2)
def RetPlan (w : World) (P : List Ins → Prop) (e : Ending) (w' : World) : Prop := ∃ A m c p, e = .returned (.tuple #[.slice A m c, .int .i64 0]) ∧ P p ∧ w'.ownsRow w.heap.size 178 3 (.slice A m c) m (insCells p) ∧ Below w.heap.size w w'
theorem isStores_len {ws : List (Nat × Nat)} {p : List Ins} (h : IsStores ws p) : p.length ≤ 2 * ws.length + 1 := by
  obtain ⟨fs, rfl, hf, _⟩ := h
  simp
  omega
set_option maxRecDepth 100000 in
set_option maxHeartbeats 8000000 in
theorem plan_any {a : DA} {L T : Nat} {w : World} {S : Fp} {cur : Nat → Nat} {F : Nat} (h : Dev a L T w S cur F) (g s n : Nat) (hB : Blk w g 186 (ulogCells a s n)) (hs : s + n ≤ L) (hn : 2 ≤ n) (ws : List (Nat × Nat)) (hl : LogU cur s ws) (hwv : ∀ e ∈ ws, e.1 < 18446744073709551616)
    (A0 : Option Addr) (N c0 : Nat) (offs os : List Nat) (hos : (fr (ws.map (·.1)) offs).2 = os) (hr : Reads w w.heap.size 1 A0 N (uCells offs)) (ho : ∀ o ∈ offs, OffOk L s n o) (hc : ws.length + os.length ≤ 4 * (n - 1)) (hN : N ≤ 1000) (h12 : 2 * os.length ≤ 198) :
    Calls Tryz.prog 187 #[.pointer (some ⟨g, 0, none⟩), .slice A0 N c0] w (RetPlan w (IsPlan (64 * s) ws.length (frW cur os))) := by
  obtain ⟨i0, hi0, hz0, hz1, hz2⟩ := info_parts infoWrite
  have hL : L ≤ 4096 := by obtain ⟨ls, exe, per, cs, lsC, hdc, hnt⟩ := h; exact hdc.hL
  have HD := Lib.hid h
  have HBB := Lib.hid hB
  have HRo := Lib.hid hr
  have hNo : offs.length = N := by have := hr.1; simp [uCells] at this; exact this
  have HNo := Lib.hid hNo
  have f0 : w.cell? ⟨g, 0, none⟩ = some (memV a) := hB.cell 0
  have hq := eqMem (some ⟨a.th 0, 0, none⟩)
  have hmE := methErr (some ⟨a.th 0, 0, none⟩)
  have hmL := methLoad (some ⟨a.th 0, 0, none⟩)
  have HOo : Hid (∀ k (hk : k < offs.length), OffOk L s n (offs[k])) := fun k hk => ho _ (List.getElem_mem hk)
  have HWv : Hid (∀ k (hk : k < ws.length), (ws[k]).1 < 18446744073709551616) := fun k hk => hwv _ (List.getElem_mem hk)
  have HAl : Hid (∀ k (hk : k < offs.length) W, Below w.heap.size w W → Calls Tryz.prog 218 #[.pointer (some ⟨g, 0, none⟩), .int .u64 ((offs[k]) : Int)] W fun e w' => e = .returned (.bool true) ∧ Below W.heap.size W w') := fun k hk W hW =>
    allowed_any (h.below hW) g s n (hB.below hW hB.lt) hs _ (ho _ (List.getElem_mem hk))
  have HEn : Hid (∀ W, Below w.heap.size w W → Calls Tryz.prog 217 #[.pointer (some ⟨g, 0, none⟩)] W (RetEnt W ws)) := fun W hW => entries_any (h.below hW) g s n (hB.below hW hB.lt) hs hn ws hl (by omega)
  have HLd : Hid (∀ k (hk : k < offs.length) W, Below w.heap.size w W → Calls Tryz.prog 19 #[.pointer (some ⟨a.th 0, 0, none⟩), .int .u64 ((offs[k]) : Int)] W fun e w' => e = .returned (.int .u64 (cur (offs[k] / 8) : Int)) ∧ W = w') := fun k hk W hW => by
    have := HOo.out k hk
    exact load_at h (offs[k]) _ this.al this.lt rfl W hW
  have HEo : Hid (∀ (k : Nat) (W : World), k ≤ 1000000 → Below w.heap.size w W → Calls Tryz.prog 232 #[.pointer (some ⟨g, 0, none⟩), .int .i64 (k : Int)] W fun e w' => e = .returned (.int .u64 ((64 * s + 64 + 16 * k : Nat) : Int)) ∧ W = w') := fun k W hk hW =>
    entryOff_any (memV a) g (64 * s) k (.int .i64 (n : Int)) W (HBB.out.below hW HBB.out.lt) (by omega) hk
  have HSc : Hid (∀ (k : Nat) (W : World), k ≤ 1000000 → Below w.heap.size w W → Calls Tryz.prog 178 #[.pointer (some ⟨g, 0, none⟩), .int .i64 (k : Int)] W (RetProg W (IsStores [(64 * s, k)]))) := fun k W hk hW =>
    setCount_any a s n g k W (HBB.out.below hW HBB.out.lt) (by omega) hk
  have hmm : ∀ W, (Instr.makeMap 303 none).run Tryz.prog W = .ok (.map (some W.heap.size)) (W.alloc (.map #[] 0)) := fun _ => rfl
  have HOS := Lib.hid hos
  have HFL : Hid (∀ k, (fr (ws.map (·.1)) (offs.take k)).2.length ≤ k) := fun k => Nat.le_trans (fr_len (offs.take k) (ws.map (·.1), [])) (by simp; omega)
  have hwl : ws.length ≤ 16384 := by omega
  have hz64 : 64 * s ≤ 1000000 := by omega
  have HC := Lib.hid hc
  have H12 := Lib.hid h12
  have HOV : Hid (∀ o ∈ os, o < 64 * L) := fun o h => by
    rw [← hos] at h
    rcases fr_mem offs _ o h with h | h
    · simp at h
    · exact (ho o h).lt
  have e8 : decide (4 * ((n : Int) - 1) < (ws.length : Int) + (os.length : Int)) = false := decide_eq_false (by omega)
  have hgn1 : (2 : Int) ≤ (n : Int) := by omega
  have hgn2 : (n : Int) ≤ 4096 := by omega
  have HB0 : Hid (Below w.heap.size w w) := Below.refl _ _
  clear h hB hr ho hc h12 hl hwv hs hn hNo hos
  unfold memV at *
  go_enter Tryz.func187, Tryz.ntmps187
  go_wp2
  go_loopw [26] (fun i wr => ∃ (k : Nat), k ≤ N ∧ i = .int .i64 k ∧ Hid (Below w.heap.size w wr)) (fun i _ => N - (intOf i).toNat)
  case atStart => exact ⟨0, Nat.zero_le _, rfl, HB0⟩
  case round =>
    clear HB0
    obtain ⟨k, hk, rfl, H⟩ := hrel
    by_cases hlt : k < N
    · obtain ⟨hkl, b, off, hA, hbB, q0⟩ := u_facts (HRo.out.below H.out) hlt
      subst hA
      have hz5 : (0 : Int) ≤ (k : Int) := by omega
      have hz6 : (k : Int) < (N : Int) := by omega
      have HA := Lib.hid (HAl.out k hkl wr H.out)
      generalize offs[k] = o at *
      go_wp2_with fail
      refine HA.out.mono ?_
      rintro e1 w2 ⟨rfl, hb2⟩
      have HB2 := Lib.hid (H.out.trans (hb2.mono H.out.size))
      clear hb2 HA H
      go_wp2
      go_roundw
      case rel =>
        first
          | exact ⟨k + 1, by omega, by go_num, HB2⟩
          | (repeat apply Exists.intro
             refine ⟨?_, rfl⟩
             exact ⟨k + 1, by omega, by go_num, HB2⟩)
      case measure => simp [intOf]; omega
    · have hkN : k = N := by omega
      subst hkN
      clear HAl
      go_wp2_with fail
      refine (HEn.out wr H.out).mono ?_
      rintro e1 w1 ⟨A1, m1, c1, rfl, hm1, ho1, hb1⟩
      have HB1 := Lib.hid (H.out.trans (hb1.mono H.out.size))
      have HR1 := Lib.hid (Reads.of_own ho1)
      have hm1a : m1 ≤ ws.length := by omega
      have hm1b : ws.length ≤ m1 := by omega
      have HS0 : Hid (OSet (w1.alloc (.map #[] 0)) w1.heap.size 0 ((ws.take 0).map (·.1))) := OSet.new w1
      have HC0 : Hid (Chg (fun j => j = w1.heap.size) w1 (w1.alloc (.map #[] 0))) := (Chg.refl _ _).alloc _
      clear hm1 ho1 hb1 H HEn
      go_wp2
      go_loopw [46] (fun i wr => ∃ (k : Nat), k ≤ m1 ∧ i = .int .i64 k ∧ Hid (OSet wr w1.heap.size k ((ws.take k).map (·.1))) ∧ Hid (Chg (fun j => j = w1.heap.size) w1 wr)) (fun i _ => m1 - (intOf i).toNat)
      case atStart => exact ⟨0, Nat.zero_le _, rfl, HS0, HC0⟩
      case round =>
        clear HS0 HC0
        obtain ⟨q, hq1, rfl, HS, HCh⟩ := hrel
        by_cases hlt2 : q < m1
        · have hql : q < ws.length := by omega
          have hrd := HCh.out.reads HR1.out (Nat.le_refl _) (fun ad had e => by
            obtain ⟨ad', hA, hb, _⟩ := HR1.out.2 (by omega)
            rw [hA] at had
            cases had
            omega)
          obtain ⟨_, b, off, hA, hbB, q0, q1⟩ := wr_facts hrd hlt2
          subst hA
          have hz5 : (0 : Int) ≤ (q : Int) := by omega
          have hz6 : (q : Int) < (m1 : Int) := by omega
          have HTS := Lib.hid (takeS ws q hql)
          obtain ⟨w3, hrun, hos, hgr⟩ := (HS.out.alloc (.cells #[.int .u64 ((ws[q]).1 : Int), .int .u64 ((ws[q]).2 : Int)] 130)).add (by unfold maxLen; omega) (HWv.out q hql)
          have HC3 := Lib.hid ((HCh.out.alloc (.cells #[.int .u64 ((ws[q]).1 : Int), .int .u64 ((ws[q]).2 : Int)] 130)).grown hgr (fun g hg => .inl (by cases hg; rfl)))
          have HS3 : Hid (OSet w3 w1.heap.size (q + 1) ((ws.take (q + 1)).map (·.1))) := Lib.hid (by rw [HTS.out]; exact hos.congr (mem_snoc_map _ _))
          generalize ws[q] = e at *
          clear hos hgr hrd HS HCh
          go_wp2
          go_roundw
          case rel =>
            first
              | exact ⟨q + 1, by omega, by go_num, HS3, HC3⟩
              | (repeat apply Exists.intro
                 refine ⟨?_, rfl⟩
                 exact ⟨q + 1, by omega, by go_num, HS3, HC3⟩)
          case measure => simp [intOf]; omega
        · have hqm : q = m1 := by omega
          subst hqm
          have HS4 : Hid (OSet wr w1.heap.size (q + 0) (fr (ws.map (·.1)) (offs.take 0)).1) := Lib.hid (by
            have h := HS.out
            rw [List.take_of_length_le (by omega)] at h
            exact h)
          have HB4 := Lib.hid (HB1.out.trans (HCh.out.toBelow HB1.out.size (fun j hj => by rw [hj]; exact HB1.out.size)))
          have HO4 : Hid (wr.ownsRow w.heap.size 130 2 (.slice none 0 0) 0 (wrCells (frW cur (fr (ws.map (·.1)) (offs.take 0)).2))) := World.ownsRow_nil _ _ _ _
          have HM4 : Hid (0 = (fr (ws.map (·.1)) (offs.take 0)).2.length) := Lib.hid rfl
          have HBL := Lib.hid HB1.out.size
          clear HS HCh HR1 HWv HB1
          go_wp2
          go_loopw [13, 56] (fun l i wr => ∃ (j : Nat) (A : Option Addr) (m c : Nat), j ≤ k ∧ i = .int .i64 j ∧ l = .slice A m c ∧ Hid (m = (fr (ws.map (·.1)) (offs.take j)).2.length) ∧ Hid (wr.ownsRow w.heap.size 130 2 (.slice A m c) m (wrCells (frW cur (fr (ws.map (·.1)) (offs.take j)).2))) ∧ Hid (OSet wr w1.heap.size (q + j) (fr (ws.map (·.1)) (offs.take j)).1) ∧ Hid (Below w.heap.size w wr)) (fun _ i _ => k - (intOf i).toNat)
          case atStart => exact ⟨0, _, _, _, Nat.zero_le _, rfl, rfl, HM4, HO4, HS4, HB4⟩
          case round =>
            clear HM4 HO4 HS4 HB4
            obtain ⟨j, A, m, c, hj, rfl, rfl, HM, HO, HS, H⟩ := hrel
            by_cases hlt3 : j < k
            · obtain ⟨hjl, b, off, hA, hbB, q0⟩ := u_facts (HRo.out.below H.out) hlt3
              subst hA
              have hz5 : (0 : Int) ≤ (j : Int) := by omega
              have hz6 : (j : Int) < (k : Int) := by omega
              have HTS := Lib.hid (takeS offs j hjl)
              have HFr := Lib.hid (fr_snoc (ws.map (·.1)) (offs.take j) (offs[j]))
              have hov : offs[j] < 18446744073709551616 := by have := (HOo.out j hjl).lt; omega
              have hlk := HS.out.look hov
              have HLL := Lib.hid (HLd.out j hjl)
              have hmj : m ≤ j := by have := HM.out; have := HFL.out j; omega
              rw [← HTS.out] at HFr
              generalize offs[j] = o at *
              generalize hst : fr (ws.map (·.1)) (offs.take j) = st at *
              by_cases hmem : o ∈ st.1
              · rw [decide_eq_true hmem] at hlk
                have hfr : fr (ws.map (·.1)) (offs.take (j + 1)) = st := by rw [HFr.out]; exact if_pos hmem
                have HM5 : Hid (m = (fr (ws.map (·.1)) (offs.take (j + 1))).2.length) := Lib.hid (by rw [hfr]; exact HM.out)
                have HO5 : Hid (wr.ownsRow w.heap.size 130 2 (.slice A m c) m (wrCells (frW cur (fr (ws.map (·.1)) (offs.take (j + 1))).2))) := Lib.hid (by rw [hfr]; exact HO.out)
                have HS5 : Hid (OSet wr w1.heap.size (q + (j + 1)) (fr (ws.map (·.1)) (offs.take (j + 1))).1) := Lib.hid (by rw [hfr]; exact HS.out.mono (by omega))
                clear hst hfr HM HO HS
                go_wp2
                go_roundw
                case rel =>
                  first
                    | exact ⟨j + 1, _, _, _, by omega, by go_num, rfl, HM5, HO5, HS5, H⟩
                    | (repeat apply Exists.intro
                       refine ⟨?_, rfl⟩
                       exact ⟨j + 1, _, _, _, by omega, by go_num, rfl, HM5, HO5, HS5, H⟩)
                case measure => simp [intOf]; omega
              · rw [decide_eq_false hmem] at hlk
                have hfr : fr (ws.map (·.1)) (offs.take (j + 1)) = (o :: st.1, st.2 ++ [o]) := by rw [HFr.out]; exact if_neg hmem
                obtain ⟨w3, hrun, hos, hgr⟩ := HS.out.add (by unfold maxLen; omega) hov
                have HB3 := Lib.hid (H.out.grown hgr H.out.size (fun g hg => by cases hg; exact HBL.out))
                have HO3 := Lib.hid (HO.out.kept hgr (.inr (fun e => HS.out.ne_own HO.out e.symm)))
                have HS3 := Lib.hid hos
                have d0 : w3.cell? ⟨g, 0, none⟩ = some (.iface 53 (.pointer (some ⟨a.th 0, 0, none⟩))) := (HBB.out.below HB3.out HBB.out.lt).cell 0
                have HL3 := Lib.hid (HLL.out w3 HB3.out)
                clear hos hgr HO HS H HLL
                go_wp2_with fail
                refine HL3.out.mono ?_
                rintro e1 w4 ⟨rfl, rfl⟩
                go_wp2_with (at_builtin; refine stop ?_)
                unfold Stop
                refine wpList_app _ (.tmp 66) (.tmp 75) 120 rfl rfl w.heap.size 130 i0 _ 2 16 Tryz.underlying120 hi0 hz0 hz1 hz2 rfl (by omega) (.slice A m c) m (wrCells (frW cur st.2)) rfl (HO3.out.alloc _) (w3.heap.size + 1) (some ⟨w3.heap.size, 0, none⟩) 1 1 [.int .u64 (o : Int), .int .u64 (cur (o / 8) : Int)] rfl (row_reads_at _ _ rfl _ 1 2 130 _ rfl rfl) (u64s_one _ _) (by unfold maxLen; omega) (by omega) (by have := HB3.out.size; simp; omega) ?_
                intro A3 n3 c3 w8 hn3 ho3 hg3 hb3
                have HM5 : Hid (n3 = (fr (ws.map (·.1)) (offs.take (j + 1))).2.length) := Lib.hid (by rw [hfr]; have := HM.out; simp; omega)
                have HO5 : Hid (w8.ownsRow w.heap.size 130 2 (.slice A3 n3 c3) n3 (wrCells (frW cur (fr (ws.map (·.1)) (offs.take (j + 1))).2))) := Lib.hid (by rw [hfr]; show w8.ownsRow _ _ _ _ _ (wrCells (frW cur (st.2 ++ [o]))); rw [show frW cur (st.2 ++ [o]) = frW cur st.2 ++ [(o, cur (o / 8))] by simp [frW], wrCells_snoc]; exact ho3)
                have HS5 : Hid (OSet w8 w1.heap.size (q + (j + 1)) (fr (ws.map (·.1)) (offs.take (j + 1))).1) := Lib.hid (by rw [hfr]; exact ((HS3.out.alloc _).kept hg3 (HS3.out.ne_own HO3.out)).mono (by omega))
                have HB5 := Lib.hid ((HB3.out.alloc HB3.out.size _).trans hb3)
                clear hn3 ho3 hg3 hb3 hst hfr HS3 HO3 HB3 HL3 HM
                go_wp2
                go_roundw
                case rel =>
                  first
                    | exact ⟨j + 1, _, _, _, by omega, by go_num, rfl, HM5, HO5, HS5, HB5⟩
                    | (repeat apply Exists.intro
                       refine ⟨?_, rfl⟩
                       exact ⟨j + 1, _, _, _, by omega, by go_num, rfl, HM5, HO5, HS5, HB5⟩)
                case measure => simp [intOf]; omega
            · have hjk : j = k := by omega
              subst hjk
              have hta : offs.take j = offs := List.take_of_length_le (by have := HNo.out; omega)
              rw [hta, HOS.out] at HM HO
              clear HS HLd HOo HRo hta HBL
              have hmo : m = os.length := HM.out
              subst hmo
              have hq2 : q = ws.length := by omega
              subst hq2
              have hBk := HBB.out.below H.out HBB.out.lt
              have d0 : wr.cell? ⟨g, 0, none⟩ = some (.iface 53 (.pointer (some ⟨a.th 0, 0, none⟩))) := hBk.cell 0
              have d2 : wr.cell? ⟨g, 2, none⟩ = some (.int .i64 (n : Int)) := hBk.cell 2
              obtain ⟨ls1, exe1, per1, cs1, lsC1, hdc1, hnt1⟩ := HD.out.below H.out
              obtain ⟨k0, _, _, _, k4⟩ := hdc1.facts (j := 0) (by omega)
              clear hdc1 hnt1 hBk HD
              have hol : os.length ≤ 99 := by have := H12.out; omega
              rcases Nat.eq_zero_or_pos os.length with h0 | h0
              · have hos : os = [] := List.eq_nil_of_length_eq_zero h0
                have e8b : decide (4 * ((n : Int) - 1) < (ws.length : Int)) = false := decide_eq_false (by have := HC.out; omega)
                subst hos
                go_wp2
                go_ret2
                exact ⟨_, _, _, [], rfl, .inl ⟨rfl, rfl⟩, World.ownsRow_nil _ _ _ _, H.out⟩
              · have e9 : ((os.length : Int) == 0) = false := by rw [beq_eq_false_iff_ne]; omega
                rename World => wz
                have hrd := Lib.hid (Reads.of_own HO.out)
                have HO0 : Hid (wz.ownsRow wz.heap.size 130 2 (.slice none 0 0) 0 (wrCells (entW (64 * s) ws.length ((frW cur os).take 0)))) := World.ownsRow_nil _ _ _ _
                have HBB0 : Hid (Below wz.heap.size wz wz) := Below.refl _ _
                have hfl : (frW cur os).length = os.length := by simp [frW]
                clear HO
                go_wp2
                go_loopw [18, 100] (fun l i wr => ∃ (t : Nat) (A2 : Option Addr) (m2 c2 : Nat), t ≤ os.length ∧ i = .int .i64 t ∧ l = .slice A2 m2 c2 ∧ m2 ≤ 2 * t ∧ 2 * t ≤ m2 ∧ Hid (wr.ownsRow wz.heap.size 130 2 (.slice A2 m2 c2) m2 (wrCells (entW (64 * s) ws.length ((frW cur os).take t)))) ∧ Hid (Below wz.heap.size wz wr)) (fun _ i _ => os.length - (intOf i).toNat)
                case atStart => exact ⟨0, _, _, _, Nat.zero_le _, rfl, rfl, Nat.le_refl _, Nat.le_refl _, HO0, HBB0⟩
                case round =>
                  clear HO0 HBB0
                  obtain ⟨t, A2, m2, c2, ht, rfl, rfl, hq3, hq4, HO, HQ⟩ := hrel
                  by_cases hlt4 : t < os.length
                  · obtain ⟨htl, b, off, hA, hbB, q0, q1⟩ := wr_facts (hrd.out.below HQ.out) hlt4
                    subst hA
                    have hz5 : (0 : Int) ≤ (t : Int) := by omega
                    have hz6 : (t : Int) < (os.length : Int) := by omega
                    have HTS := Lib.hid (takeS (frW cur os) t htl)
                    have HEn4 := Lib.hid (entW_snoc (64 * s) ((frW cur os).take t) ws.length ((frW cur os)[t]))
                    rw [← HTS.out, show ((frW cur os).take t).length = t by simp; omega] at HEn4
                    generalize (frW cur os)[t] = e at *
                    have hbA : Below w.heap.size w (wr.alloc (.cells #[.int .u64 (e.1 : Int), .int .u64 (e.2 : Int)] 130)) := (H.out.trans (HQ.out.mono H.out.size)).alloc (Nat.le_trans H.out.size HQ.out.size) _
                    have HE := Lib.hid (HEo.out (ws.length + t) _ (by omega) hbA)
                    have e7 : ((ws.length + t : Nat) : Int) = (ws.length : Int) + (t : Int) := by omega
                    rw [e7] at HE
                    have u1 : IntKind.u64.wrap (((64 * s + 64 + 16 * (ws.length + t) : Nat) : Int) + 8) = ((64 * s + 64 + 16 * (ws.length + t) + 8 : Nat) : Int) := by rw [IntKind.wrap_u64]; omega
                    have HBk := Lib.hid (Blk.new wr 130 #[.int .u64 (e.1 : Int), .int .u64 (e.2 : Int)])
                    have HOa := Lib.hid (HO.out.alloc (.cells #[.int .u64 (e.1 : Int), .int .u64 (e.2 : Int)] 130))
                    have HQa := Lib.hid (HQ.out.alloc HQ.out.size (.cells #[.int .u64 (e.1 : Int), .int .u64 (e.2 : Int)] 130))
                    have HNE : Hid (∀ g', (Value.slice A2 m2 c2).ownBlock = some g' → g' < wr.heap.size) := fun g' hg' => (HO.out.lt g' hg').2
                    clear hbA HO HQ
                    generalize 64 * s + 64 + 16 * (ws.length + t) + 8 = y2 at *
                    generalize 64 * s + 64 + 16 * (ws.length + t) = y at *
                    go_wp2_with fail
                    refine HE.out.mono ?_
                    rintro e1 w4 ⟨rfl, rfl⟩
                    go_wp2_with (at_builtin; refine stop ?_)
                    unfold Stop
                    refine wpList_app _ (.tmp 111) (.tmp 116) 120 rfl rfl wz.heap.size 130 i0 _ 2 16 Tryz.underlying120 hi0 hz0 hz1 hz2 rfl (by omega) (.slice A2 m2 c2) m2 (wrCells (entW (64 * s) ws.length ((frW cur os).take t))) rfl (HOa.out.alloc _) (wr.heap.size + 1 + 1) (some ⟨wr.heap.size + 1, 0, none⟩) 1 1 [.int .u64 (y : Int), .int .u64 (e.1 : Int)] rfl (row_reads_at _ _ (by simp) _ 1 2 130 _ rfl rfl) (u64s_one _ _) (by unfold maxLen; omega) (by omega) (by have := HQa.out.size; simp; simp at this; omega) ?_
                    intro A3 n3 c3 w5 hn3 ho3 hg3 hb3
                    have hk5 := (HBk.out.alloc (.cells #[.int .u64 (y : Int), .int .u64 (e.1 : Int)] 130)).grown hg3 (fun e => by have := HNE.out _ e.symm; omega)
                    have d5 : w5.cell? ⟨wr.heap.size, 1, none⟩ = some (.int .u64 (e.2 : Int)) := hk5.cell 1
                    have HO5 := Lib.hid ho3
                    have HQ5 := Lib.hid ((HQa.out.alloc HQa.out.size _).trans hb3)
                    have hn3a : n3 ≤ 2 * t + 1 := by omega
                    have hn3b : 2 * t + 1 ≤ n3 := by omega
                    clear hn3 ho3 hg3 hb3 hk5 HBk HOa HQa HNE HE
                    go_wp2_with (at_builtin; refine stop ?_)
                    unfold Stop
                    refine wpList_app _ (.tmp 118) (.tmp 124) 120 rfl rfl wz.heap.size 130 i0 _ 2 16 Tryz.underlying120 hi0 hz0 hz1 hz2 rfl (by omega) (.slice A3 n3 c3) n3 _ rfl (HO5.out.alloc _) (w5.heap.size + 1) (some ⟨w5.heap.size, 0, none⟩) 1 1 [.int .u64 (y2 : Int), .int .u64 (e.2 : Int)] rfl (row_reads_at _ _ rfl _ 1 2 130 _ rfl rfl) (u64s_one _ _) (by unfold maxLen; omega) (by omega) (by have := HQ5.out.size; simp; omega) ?_
                    intro A4 n4 c4 w6 hn4 ho4 hg4 hb4
                    have HO6 : Hid (w6.ownsRow wz.heap.size 130 2 (.slice A4 n4 c4) n4 (wrCells (entW (64 * s) ws.length ((frW cur os).take (t + 1))))) := Lib.hid (by rw [HEn4.out, show ∀ l : List (Nat × Nat), l ++ [(y, e.1), (y2, e.2)] = (l ++ [(y, e.1)]) ++ [(y2, e.2)] from fun l => by simp, wrCells_snoc, wrCells_snoc]; exact ho4)
                    have HQ6 := Lib.hid ((HQ5.out.alloc HQ5.out.size _).trans hb4)
                    have hn4a : n4 ≤ 2 * (t + 1) := by omega
                    have hn4b : 2 * (t + 1) ≤ n4 := by omega
                    clear hn4 ho4 hg4 hb4 HO5 HQ5
                    go_wp2
                    go_roundw
                    case rel =>
                      first
                        | exact ⟨t + 1, _, _, _, by omega, by go_num, rfl, hn4a, hn4b, HO6, HQ6⟩
                        | (repeat apply Exists.intro
                           refine ⟨?_, rfl⟩
                           exact ⟨t + 1, _, _, _, by omega, by go_num, rfl, hn4a, hn4b, HO6, HQ6⟩)
                    case measure => simp [intOf]; omega
                  · have hto : t = os.length := by omega
                    have htk : (frW cur os).take t = frW cur os := List.take_of_length_le (by omega)
                    rw [htk] at HO
                    have HBw := Lib.hid (H.out.trans (HQ.out.mono H.out.size))
                    have HSt := Lib.hid (stores_small A2 m2 c2 _ wr (Reads.of_own HO.out) (by omega) (by omega) (fun e he => by
                      obtain ⟨j2, h1, h2, _⟩ := entW_mem _ _ _ _ he
                      rw [hfl] at h1
                      omega))
                    have e7 : ((ws.length + os.length : Nat) : Int) = (ws.length : Int) + (os.length : Int) := by omega
                    clear HO HQ
                    go_wp2_with fail
                    refine HSt.out.mono ?_
                    rintro e1 w4 ⟨B1, n1, d1, p1, rfl, hp1, ho1, hb1⟩
                    have HP1 := Lib.hid hp1
                    have HO1 := Lib.hid ho1
                    have HB4 := Lib.hid (HBw.out.trans (hb1.mono HBw.out.size))
                    have HSS := Lib.hid (HSc.out (ws.length + os.length) w4 (by omega) HB4.out)
                    rw [e7] at HSS
                    clear hp1 ho1 hb1 HSt
                    go_wp2_with fail
                    refine HSS.out.mono ?_
                    rintro e1 w5 ⟨B2, n2, d2', p2, rfl, hp2, ho2, hb2⟩
                    have HP2 := Lib.hid hp2
                    have HB5 := Lib.hid (HB4.out.trans (hb2.mono HB4.out.size))
                    have hl1 : n1 ≤ 400 := by
                      have h1 := HO1.out.1
                      have h2 := isStores_len HP1.out
                      rw [insCells_len] at h1
                      rw [entW_len] at h2
                      omega
                    have hl2 : n2 ≤ 400 := by
                      have h1 := ho2.1
                      have h2 := isStores_len HP2.out
                      rw [insCells_len] at h1
                      simp at h2
                      omega
                    have HTh := Lib.hid (then_any B1 B2 n1 d1 n2 d2' p1 p2 w5 (Reads.of_own (own_below HO1.out hb2)) (Reads.of_own ho2) hl1 hl2)
                    clear hp2 ho2 hb2 HSS HO1
                    go_wp2_with fail
                    refine HTh.out.mono ?_
                    rintro e1 w6 ⟨B3, n3, d3, rfl, hn3, ho3, hb3⟩
                    have HO3 := Lib.hid ho3
                    have HB6 := Lib.hid (HB5.out.trans (hb3.mono HB5.out.size))
                    clear hn3 ho3 hb3 HTh
                    go_wp2
                    go_ret2
                    refine ⟨_, _, _, _, rfl, .inr ⟨?_, p1, p2, HP1.out, ?_, rfl⟩, own_le HO3.out HB5.out.size, HB6.out⟩
                    · intro h
                      rw [h] at hfl
                      simp at hfl
                      omega
                    · rw [hfl]
                      exact HP2.out
end Go.Proofs.YtklpeghhgoeeiaaGreatDoor
/- undo: Save; the words behind it. -/
namespace Go.Proofs.YtklpeghhgoeeiaaGreatDoor
open Go.RowKit Go.Maps
theorem wrS_app (cur : Nat → Nat) (a b : List (Nat × Nat)) : wrS cur (a ++ b) = wrS (wrS cur a) b := by simp [wrS]
theorem own_off {w : World} {S : Fp} {base : Nat} {e : TypeId} {size m c n : Nat} {A : Option Addr} {xs : List Value} (ho : w.ownsRow base e size (.slice A m c) n xs) (hb : ∀ k, S k → k < base) : ∀ ad, A = some ad → ¬ S ad.block := fun ad had hs => by
  rcases ho.2 with ⟨hv, _⟩ | ⟨g, cap, cs, hv, hge, _⟩
  · injection hv with h1; rw [h1] at had; cases had
  · injection hv with h1
    rw [h1] at had
    injection had with h2
    subst h2
    have := hb _ hs
    simp at this
    omega
/-- Two programs of stores, one behind the other. -/
theorem run_two {a : DA} {L T : Nat} {w : World} {S : Fp} {cur : Nat → Nat} (h : Dev a L T w S cur 0) {A : Option Addr} {m c base : Nat} {p1 p2 : List Ins} {ws1 ws2 : List (Nat × Nat)} (ho : w.ownsRow base 178 3 (.slice A m c) m (insCells (p1 ++ p2))) (hb : ∀ k, S k → k < base) (hp1 : IsStores ws1 p1) (hp2 : IsStores ws2 p2)
    (hw1 : ∀ e ∈ ws1, e.1 % 8 = 0 ∧ e.1 < 64 * L ∧ e.2 < 18446744073709551616) (hw2 : ∀ e ∈ ws2, e.1 % 8 = 0 ∧ e.1 < 64 * L ∧ e.2 < 18446744073709551616) (hl1 : ws1.length ≤ 1000) (hl2 : ws2.length ≤ 1000) (T' : Nat) (hT : T + (2 * ws1.length + 1) + (2 * ws2.length + 1) ≤ T') (hT' : T' ≤ 1000000000) :
    Calls Tryz.prog 45 #[.slice A m c, memV a] w (RetDev a L T' w S (wrS (wrS cur ws1) ws2) 0 (.int .i64 0)) := by
  obtain ⟨hg1, hr1, hlen1⟩ := isStores_good hp1 hw1 cur
  obtain ⟨hg2, hr2, hlen2⟩ := isStores_good hp2 hw2 (wrS cur ws1)
  have hm : (p1 ++ p2).length = m := by have := ho.1; rw [insCells_len] at this; omega
  have hm' : p1.length + p2.length = m := by rw [← hm]; simp
  refine (run_any h A m c _ (Reads.of_own ho) (own_off ho hb) (goodP_app hg1 hg2) (by omega) (by omega)).mono ?_
  rintro e w' ⟨he, S', hd, hc, hgr⟩
  rw [runP_app, hr1, hr2] at hd
  exact ⟨he, S', hd.more (by omega) (by omega), hc, hgr⟩
/-- The words behind a Save. -/
def svC (cur : Nat → Nat) (z n : Nat) (os : List Nat) : Nat → Nat := if os = [] then cur else wrS (wrS cur (entW z n (frW cur os))) [(z, n + os.length)]
theorem run_plan {a : DA} {L T : Nat} {w : World} {S : Fp} {cur : Nat → Nat} (h : Dev a L T w S cur 0) {A : Option Addr} {m c base s n : Nat} {p : List Ins} {os : List Nat} (ho : w.ownsRow base 178 3 (.slice A m c) m (insCells p)) (hb : ∀ k, S k → k < base) (hp : IsPlan (64 * s) n (frW cur os) p)
    (hos : ∀ o ∈ os, o < 64 * L) (hcv : ∀ i, i < 8 * L → cur i < 18446744073709551616) (hs : 64 * s + 64 + 16 * (n + os.length) ≤ 64 * L) (h6 : os.length ≤ 99) (hT : T + (4 * os.length + 4) ≤ 1000000000) :
    Calls Tryz.prog 45 #[.slice A m c, memV a] w (RetDev a L (T + (4 * os.length + 4)) w S (svC cur (64 * s) n os) 0 (.int .i64 0)) := by
  have hL : L ≤ 4096 := by obtain ⟨ls, exe, per, cs, lsC, hdc, hnt⟩ := h; exact hdc.hL
  rcases hp with ⟨hf, rfl⟩ | ⟨hf, p1, p2, hp1, hp2, rfl⟩
  · have h0 : os = [] := by simpa [frW] using hf
    subst h0
    have hm : m = 0 := by have := ho.1; simp [insCells] at this; omega
    subst hm
    refine (run_any h A 0 c [] (Reads.of_own ho) (own_off ho hb) rfl (by omega) (by omega)).mono ?_
    rintro e w' ⟨he, S', hd, hc, hgr⟩
    exact ⟨he, S', Dev.more (by simpa [svC, runP] using hd) (by omega) (by omega), hc, hgr⟩
  · have h0 : os ≠ [] := fun h => hf (by simp [h, frW])
    have hfl : (frW cur os).length = os.length := by simp [frW]
    rw [hfl] at hp2
    have e1 : svC cur (64 * s) n os = wrS (wrS cur (entW (64 * s) n (frW cur os))) [(64 * s, n + os.length)] := if_neg h0
    rw [e1]
    refine run_two h ho hb hp1 hp2 (fun e he => ?_) (fun e he => ?_) ?_ ?_ _ ?_ hT
    · obtain ⟨j, h1, h2, x, hx, h3⟩ := entW_mem _ _ _ _ he
      rw [hfl] at h1
      have hx2 : x.1 < 18446744073709551616 ∧ x.2 < 18446744073709551616 := by
        simp only [frW, List.mem_map] at hx
        obtain ⟨o, ho, rfl⟩ := hx
        have := hos o ho
        exact ⟨by simp; omega, hcv _ (by omega)⟩
      refine ⟨by omega, by omega, ?_⟩
      rcases h3 with h3 | h3 <;> rw [h3]
      · exact hx2.1
      · exact hx2.2
    · simp at he
      subst he
      exact ⟨by simp; omega, by simp; omega, by simp; omega⟩
    · rw [entW_len, hfl]; omega
    · simp
    · rw [entW_len, hfl]; simp; omega
theorem wrS_out (s : Nat) : ∀ (l : List (Nat × Nat)) (n k : Nat) (cur : Nat → Nat), (k < 8 * s + 8 + 2 * n ∨ 8 * s + 8 + 2 * (n + l.length) ≤ k) → wrS cur (entW (64 * s) n l) k = cur k
  | [], n, k, cur, _ => rfl
  | e :: l, n, k, cur, h => by
    simp only [List.length_cons] at h
    show wrS (upd (upd cur ((64 * s + 64 + 16 * n) / 8) e.1) ((64 * s + 64 + 16 * n + 8) / 8) e.2) (entW (64 * s) (n + 1) l) k = _
    rw [wrS_out s l (n + 1) k _ (by omega)]
    simp only [upd]
    rw [if_neg (by omega), if_neg (by omega)]
theorem wrS_in (s : Nat) : ∀ (l : List (Nat × Nat)) (n i : Nat) (cur : Nat → Nat) (h : i < l.length), wrS cur (entW (64 * s) n l) (8 * s + 8 + 2 * (n + i)) = (l[i]).1 ∧ wrS cur (entW (64 * s) n l) (8 * s + 8 + 2 * (n + i) + 1) = (l[i]).2
  | e :: l, n, 0, cur, _ => by
    show wrS (upd (upd cur ((64 * s + 64 + 16 * n) / 8) e.1) ((64 * s + 64 + 16 * n + 8) / 8) e.2) (entW (64 * s) (n + 1) l) _ = _ ∧ wrS (upd (upd cur ((64 * s + 64 + 16 * n) / 8) e.1) ((64 * s + 64 + 16 * n + 8) / 8) e.2) (entW (64 * s) (n + 1) l) _ = _
    rw [wrS_out s l (n + 1) _ _ (by omega), wrS_out s l (n + 1) _ _ (by omega)]
    simp only [upd]
    rw [if_neg (by omega), if_pos (by omega), if_pos (by omega)]
    exact ⟨rfl, rfl⟩
  | e :: l, n, i + 1, cur, h => by
    have ih := wrS_in s l (n + 1) i (upd (upd cur ((64 * s + 64 + 16 * n) / 8) e.1) ((64 * s + 64 + 16 * n + 8) / 8) e.2) (by simpa using h)
    rw [show n + 1 + i = n + (i + 1) by omega] at ih
    exact ih
theorem logU_save {cur : Nat → Nat} {s : Nat} {ws : List (Nat × Nat)} (h : LogU cur s ws) (os : List Nat) : LogU (svC cur (64 * s) ws.length os) s (ws ++ frW cur os) := by
  by_cases h0 : os = []
  · subst h0
    simpa [svC, frW] using h
  · have e1 : svC cur (64 * s) ws.length os = wrS (wrS cur (entW (64 * s) ws.length (frW cur os))) [(64 * s, ws.length + os.length)] := if_neg h0
    have hfl : (frW cur os).length = os.length := by simp [frW]
    rw [e1]
    have hu : ∀ k, wrS (wrS cur (entW (64 * s) ws.length (frW cur os))) [(64 * s, ws.length + os.length)] k = if k = 8 * s then ws.length + os.length else wrS cur (entW (64 * s) ws.length (frW cur os)) k := fun k => by
      show upd _ (64 * s / 8) _ k = _
      simp only [upd]
      rw [show 64 * s / 8 = 8 * s by omega]
    refine ⟨?_, fun i hi => ?_⟩
    · rw [hu, if_pos rfl]; simp [hfl]
    · rw [hu, if_neg (by omega), hu, if_neg (by omega)]
      by_cases hlt : i < ws.length
      · rw [wrS_out s _ _ _ _ (by omega), wrS_out s _ _ _ _ (by omega), List.getElem_append_left hlt]
        exact h.at_ i hlt
      · have h2 := wrS_in s (frW cur os) ws.length (i - ws.length) cur (by simp at hi; omega)
        rw [show ws.length + (i - ws.length) = i by omega] at h2
        rw [List.getElem_append_right (by omega)]
        exact h2
/-- Words out of the log are kept. -/
theorem svC_out {cur : Nat → Nat} {s n : Nat} {os : List Nat} {k : Nat} (hk : k < 8 * s ∨ 8 * s + 8 + 2 * (n + os.length) ≤ k) : svC cur (64 * s) n os k = cur k := by
  unfold svC
  split
  · rfl
  · show upd _ (64 * s / 8) _ k = _
    simp only [upd]
    rw [if_neg (by omega), wrS_out s _ _ _ _ (by simp [frW]; omega)]
set_option maxRecDepth 100000 in
set_option maxHeartbeats 4000000 in
theorem saveU_any {a : DA} {L T : Nat} {w : World} {S : Fp} {cur : Nat → Nat} (h : Dev a L T w S cur 0) (g s n : Nat) (hB : Blk w g 186 (ulogCells a s n)) (hs : s + n ≤ L) (hn : 2 ≤ n) (ws : List (Nat × Nat)) (hl : LogU cur s ws) (hwv : ∀ e ∈ ws, e.1 < 18446744073709551616)
    (A0 : Option Addr) (N c0 : Nat) (offs os : List Nat) (hos : (fr (ws.map (·.1)) offs).2 = os) (hr : Reads w w.heap.size 1 A0 N (uCells offs)) (ho : ∀ o ∈ offs, OffOk L s n o) (hc : ws.length + os.length ≤ 4 * (n - 1)) (hN : N ≤ 1000) (h12 : 2 * os.length ≤ 198)
    (hcv : ∀ i, i < 8 * L → cur i < 18446744073709551616) (hT : T + (4 * os.length + 4) ≤ 1000000000) :
    Calls Tryz.prog 131 #[.pointer (some ⟨g, 0, none⟩), .slice A0 N c0] w (RetDev a L (T + (4 * os.length + 4)) w S (svC cur (64 * s) ws.length os) 0 (.int .i64 0)) := by
  have hL : L ≤ 4096 := by obtain ⟨ls, exe, per, cs, lsC, hdc, hnt⟩ := h; exact hdc.hL
  have HP := Lib.hid (plan_any h g s n hB hs hn ws hl hwv A0 N c0 offs os hos hr ho hc hN h12)
  have HR : Hid (∀ (A : Option Addr) (m c : Nat) (p : List Ins) (w1 : World), IsPlan (64 * s) ws.length (frW cur os) p → w1.ownsRow w.heap.size 178 3 (.slice A m c) m (insCells p) → Below w.heap.size w w1 →
      Calls Tryz.prog 45 #[.slice A m c, memV a] w1 (RetDev a L (T + (4 * os.length + 4)) w S (svC cur (64 * s) ws.length os) 0 (.int .i64 0))) := fun A m c p w1 hp ho1 hb => by
    refine (run_plan (h.below hb) ho1 h.lt hp (fun o hO => ?_) hcv (by omega) (by omega) hT).mono ?_
    · rw [← hos] at hO
      rcases fr_mem offs _ o hO with h | h
      · simp at h
      · exact (ho o h).lt
    · intro e w2 h2
      exact RetDev.back hb h2
  have HBB := Lib.hid hB
  have HBx : Hid (∀ w1, Below w.heap.size w w1 → w1.cell? ⟨g, 0, none⟩ = some (memV a)) := fun w1 hb => (HBB.out.below hb HBB.out.lt).cell 0
  clear h hB hl hr hs hn hc hcv
  unfold memV at *
  go_enter Tryz.func131, Tryz.ntmps131
  go_wp2_with fail
  refine HP.out.mono ?_
  rintro e w1 ⟨A1, m1, c1, p1, rfl, hp1, ho1, hb1⟩
  have HRR := Lib.hid (HR.out A1 m1 c1 p1 w1 hp1 ho1 hb1)
  have d0 := HBx.out w1 hb1
  clear hp1 ho1 hb1 HP HR HBx
  go_wp2_with fail
  refine HRR.out.mono ?_
  rintro e w2 ⟨rfl, h2⟩
  have HZ := Lib.hid h2
  clear h2 HRR
  go_wp2
  go_ret
  exact ⟨rfl, HZ.out⟩
end Go.Proofs.YtklpeghhgoeeiaaGreatDoor
/- undo: Recover, Rollback, PlanCommit, Commit over a log with entries. -/
namespace Go.Proofs.YtklpeghhgoeeiaaGreatDoor
open Go.RowKit Go.Maps
/-- Entries that may be written back. -/
structure EntOk (L s n : Nat) (ws : List (Nat × Nat)) : Prop where
  off : ∀ e ∈ ws, OffOk L s n e.1
  val : ∀ e ∈ ws, e.2 < 18446744073709551616
  few : ws.length ≤ 100
  some_ : ws ≠ []
set_option maxRecDepth 100000 in
set_option maxHeartbeats 4000000 in
theorem recover_any {a : DA} {L T : Nat} {w : World} {S : Fp} {cur : Nat → Nat} (h : Dev a L T w S cur 0) (g s n : Nat) (hB : Blk w g 186 (ulogCells a s n)) (hs : s + n ≤ L) (hn : 26 ≤ n) (ws : List (Nat × Nat)) (hl : LogU cur s ws) (hw : EntOk L s n ws) (hT : T + 240 ≤ 1000000000) :
    Calls Tryz.prog 116 #[.pointer (some ⟨g, 0, none⟩)] w (RetDev a L (T + 240) w S (wrS (wrS cur ws) [(64 * s, 0)]) 0 (.tuple #[.int .i64 (ws.length : Int), .int .i64 0])) := by
  have hL : L ≤ 4096 := by obtain ⟨ls, exe, per, cs, lsC, hdc, hnt⟩ := h; exact hdc.hL
  have hfew := hw.few
  have hlen : 0 < ws.length := List.length_pos_iff.2 hw.some_
  have HLo := Lib.hid (loadU_any h g s n hB hs (by omega) ws hl (by omega) hw.off)
  have HR : Hid (∀ (A : Option Addr) (m c : Nat) (p1 p2 : List Ins) (w1 : World) (base : Nat), IsStores ws p1 → IsStores [(64 * s, 0)] p2 → w.heap.size ≤ base → w1.ownsRow base 178 3 (.slice A m c) m (insCells (p1 ++ p2)) → Below w.heap.size w w1 →
      Calls Tryz.prog 45 #[.slice A m c, memV a] w1 (RetDev a L (T + 240) w S (wrS (wrS cur ws) [(64 * s, 0)]) 0 (.int .i64 0))) := fun A m c p1 p2 w1 base hp1 hp2 hbase ho1 hb => by
    refine (run_two (h.below hb) ho1 (fun k hk => Nat.lt_of_lt_of_le (h.lt k hk) hbase) hp1 hp2 (fun e he => ⟨(hw.off e he).al, (hw.off e he).lt, hw.val e he⟩) (fun e he => ?_) (by omega) (by simp) (T + 240) (by simp; omega) hT).mono ?_
    · simp at he; subst he; exact ⟨by simp; omega, by simp; omega, by simp⟩
    · intro e w2 h2
      exact RetDev.back hb h2
  have HSc : Hid (∀ W, Below w.heap.size w W → Calls Tryz.prog 178 #[.pointer (some ⟨g, 0, none⟩), .int .i64 0] W (RetProg W (IsStores [(64 * s, 0)]))) := fun W hW =>
    setCount_any a s n g 0 W (hB.below hW hB.lt) (by omega) (by omega)
  have HBB := Lib.hid hB
  have HBx : Hid (∀ w1, Below w.heap.size w w1 → w1.cell? ⟨g, 0, none⟩ = some (memV a)) := fun w1 hb => (HBB.out.below hb HBB.out.lt).cell 0
  have HW1 : Hid (∀ e ∈ ws, e.1 < 18446744073709551616) := fun e he => by have := (hw.off e he).lt; omega
  have HNe : Hid (ws.isEmpty = false) := Lib.hid (by simp [hw.some_])
  clear h hB hl hs hn hw
  unfold memV at *
  go_enter Tryz.func116, Tryz.ntmps116
  go_wp2_with fail
  refine HLo.out.mono ?_
  rintro e w1 ⟨A, m, c, rfl, hm, ho, hb1⟩
  have HB1 := Lib.hid hb1
  have hm1 : m ≤ ws.length := by omega
  have hm2 : ws.length ≤ m := by omega
  have HSt := Lib.hid (stores_small A m c ws w1.drew (Reads.of_own ho) (by omega) (by omega) HW1.out)
  rw [HNe.out]
  have e6 : (ws.length : Int) = (m : Int) := by omega
  clear hm ho hb1 HLo
  go_wp2
  have HS0 : Hid (w1.drew.cell? ⟨g, 0, none⟩ = some (.iface 53 (.pointer (some ⟨a.th 0, 0, none⟩)))) := HBx.out w1.drew HB1.out.drew
  refine wp_region_script (fun w' => w'.cell? ⟨g, 0, none⟩ = some (.iface 53 (.pointer (some ⟨a.th 0, 0, none⟩)))) 9 [(true, 0), (true, 2), (true, 5), (true, 6), (true, 7), (true, 8), (false, 1), (false, 3), (false, 4)] (by kernel_rfl) (by kernel_rfl) HS0.out ?_
  refine wpScript_take (.slice A m c) (by rfl) (by rfl) (fun w' hS => ?_) ?_
  · go_simp
  simp only [List.getElem_toArray, List.getElem_cons_zero, Act.put, List.setIfInBounds_toArray, List.set_cons_zero, List.set_cons_succ]
  refine wpScript_take (.pointer (some ⟨g, 0, none⟩)) (by rfl) (by rfl) (fun w' hS => ?_) ?_
  · go_simp
  simp only [List.getElem_toArray, List.getElem_cons_zero, List.getElem_cons_succ, Act.put, List.setIfInBounds_toArray, List.set_cons_zero, List.set_cons_succ]
  refine wpScript_take (.pointer (some ⟨g, 0, none⟩)) (by rfl) (by rfl) (fun w' hS => ?_) ?_
  · go_simp
  simp only [List.getElem_toArray, List.getElem_cons_zero, List.getElem_cons_succ, Act.put, List.setIfInBounds_toArray, List.set_cons_zero, List.set_cons_succ]
  refine wpScript_take (.pointer (some ⟨g, 0, none⟩)) (by rfl) (by rfl) (fun w' hS => ?_) ?_
  · go_simp
  simp only [List.getElem_toArray, List.getElem_cons_zero, List.getElem_cons_succ, Act.put, List.setIfInBounds_toArray, List.set_cons_zero, List.set_cons_succ]
  refine wpScript_take (.pointer (some ⟨g, 0, none⟩)) (by rfl) (by rfl) (fun w' hS => ?_) ?_
  · go_simp
  simp only [List.getElem_toArray, List.getElem_cons_zero, List.getElem_cons_succ, Act.put, List.setIfInBounds_toArray, List.set_cons_zero, List.set_cons_succ]
  refine wpScript_take (.iface 53 (.pointer (some ⟨a.th 0, 0, none⟩))) (by rfl) (by rfl) (fun w' hS => ?_) ?_
  · go_simp
  simp only [List.getElem_toArray, List.getElem_cons_zero, List.getElem_cons_succ, Act.put, List.setIfInBounds_toArray, List.set_cons_zero, List.set_cons_succ]
  refine wpScript_do (by rfl) ?_
  go_wp2_with fail
  refine HSt.out.mono ?_
  rintro e1 w4 ⟨B1, n1, d1, p1, rfl, hp1, ho1, hb1⟩
  have HP1 := Lib.hid hp1
  have HO1 := Lib.hid ho1
  have HB4 := Lib.hid (HB1.out.drew.trans (hb1.mono HB1.out.size))
  have HSS := Lib.hid (HSc.out w4 HB4.out)
  clear hp1 ho1 hb1 HSt
  go_wp2_with fail
  refine ⟨HBx.out w4 HB4.out, ?_⟩
  refine wpScript_do (by rfl) ?_
  go_wp2_with fail
  refine HSS.out.mono ?_
  rintro e1 w5 ⟨B2, n2, d2', p2, rfl, hp2, ho2, hb2⟩
  have HP2 := Lib.hid hp2
  have HB5 := Lib.hid (HB4.out.trans (hb2.mono HB4.out.size))
  have hl1 : n1 ≤ 400 := by
    have h1 := HO1.out.1
    have h2 := isStores_len HP1.out
    rw [insCells_len] at h1
    omega
  have hl2 : n2 ≤ 400 := by
    have h1 := ho2.1
    have h2 := isStores_len HP2.out
    rw [insCells_len] at h1
    simp at h2
    omega
  have HTh := Lib.hid (then_any B1 B2 n1 d1 n2 d2' p1 p2 w5 (Reads.of_own (own_below HO1.out hb2)) (Reads.of_own ho2) hl1 hl2)
  clear hp2 ho2 hb2 HSS HO1
  go_wp2_with fail
  refine ⟨HBx.out w5 HB5.out, ?_⟩
  refine wpScript_do (by rfl) ?_
  go_wp2_with fail
  refine HTh.out.mono ?_
  rintro e1 w6 ⟨B3, n3, d3, rfl, hn3, ho3, hb3⟩
  have HB6 := Lib.hid (HB5.out.trans (hb3.mono HB5.out.size))
  have HRR := Lib.hid (HR.out B3 n3 d3 p1 p2 w6 w5.heap.size HP1.out HP2.out HB5.out.size ho3 HB6.out)
  clear hn3 ho3 hb3 HTh HR
  go_wp2_with fail
  refine ⟨HBx.out w6 HB6.out, ?_⟩
  show wpList _ _ _ _ _ _
  simp only [List.drop_succ_cons, List.drop_zero]
  go_wp2_with fail
  refine HRR.out.mono ?_
  rintro e1 w7 ⟨rfl, h7⟩
  have HZ := Lib.hid h7
  clear h7 HRR
  go_wp2
  refine NoPanic.normal ?_
  go_wp2
  go_ret2
  refine ⟨?_, HZ.out⟩
  rw [e6]
  rfl
end Go.Proofs.YtklpeghhgoeeiaaGreatDoor
