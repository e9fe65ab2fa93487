/- Walks: Add. -/
import Derived.Test.YtophcoaikelopaaDoorXC
namespace Go.Proofs.YtophcoaikelopaaDoor
open Go.RowKit
attribute [local go_sem ↓] Go.wp_at_zero Go.wp_at_succ
structure AInv (T : TypeId) (w wr : World) (arg nx : Array Value) (nb : Nat) : Prop where
  below : Below w.heap.size w wr
  arg : Blk wr w.heap.size T arg
  res : Blk wr (w.heap.size + 1) T #[.string ⟨#[]⟩, .int .i64 0, .slice none 0 0, .slice none 0 0, .int .u64 0, .int .u64 0]
  nxt : Blk wr nb T nx
  lt : w.heap.size + 1 < nb
section
variable {T : TypeId} {w wr w1 : World} {arg nx : Array Value} {nb : Nat}
theorem AInv.step (h : AInv T w wr arg nx nb) (hb : Below wr.heap.size wr w1) : AInv T w w1 arg nx nb :=
  ⟨h.below.trans (hb.mono h.below.size), h.arg.below hb h.arg.lt, h.res.below hb h.res.lt, h.nxt.below hb h.nxt.lt, h.lt⟩
theorem AInv.alloc (h : AInv T w wr arg nx nb) (o : Obj) : AInv T w (wr.alloc o) arg nx nb := h.step ((Below.refl _ _).alloc (Nat.le_refl _) o)
theorem AInv.set_ (h : AInv T w wr arg nx nb) (i : Nat) (x : Value) : AInv T w (wr.setCell ⟨nb, i, none⟩ x) arg (nx.setIfInBounds i x) nb := by
  have hlt := h.lt
  exact ⟨h.below.setCell (p := ⟨nb, i, none⟩) (by show w.heap.size ≤ nb; omega) _, h.arg.far (p := ⟨nb, i, none⟩) (by show w.heap.size ≠ nb; omega) _, h.res.far (p := ⟨nb, i, none⟩) (by show w.heap.size + 1 ≠ nb; omega) _, h.nxt.set_ i x, hlt⟩
theorem AInv.far (h : AInv T w wr arg nx nb) {p : Addr} (hp : nb < p.block) (x : Value) : AInv T w (wr.setCell p x) arg nx nb := by
  have hlt := h.lt
  exact ⟨h.below.setCell (p := p) (by omega) _, h.arg.far (p := p) (by omega) _, h.res.far (p := p) (by omega) _, h.nxt.far (p := p) (by omega) x, hlt⟩
end
theorem own_some {w : World} {base : Nat} {e : TypeId} {size n c : Nat} {A : Option Addr} {xs : List Value} (h : w.ownsRow base e size (.slice A n c) n xs) (hn : 0 < n) : ∃ g, A = some ⟨g, 0, none⟩ ∧ base ≤ g := by
  rcases h.2 with ⟨hv, h0⟩ | ⟨g, cap, cur, hv, hb, _⟩
  · omega
  · simp only [Value.slice.injEq] at hv
    exact ⟨g, hv.1, hb⟩
theorem own_since {w : World} {base g m cap j : Nat} {L : List Col} (h : w.ownsRow base 32 9 (.slice (some ⟨g, 0, none⟩) m cap) m (colCells L)) (hj : j < m) : (∃ x, w.cell? ⟨g, j * 9 + 3, none⟩ = some (.int .i64 x)) ∧ w.frozen? ⟨g, j * 9 + 3, none⟩ = false := by
  refine ⟨?_, ?_⟩
  · obtain ⟨hl, b, off, hA, _, _, _, _, f3, _⟩ := col_facts (Reads.of_own h) hj
    injection hA with hA
    injection hA with h1 h2
    subst h1 h2
    rw [Nat.zero_add] at f3
    exact ⟨_, f3⟩
  · rcases h.2 with ⟨hv, _⟩ | ⟨g', cap', cur, hv, hb, hh, _⟩
    · cases hv
    · simp only [Value.slice.injEq, Option.some.injEq, Addr.mk.injEq, and_true, true_and] at hv
      obtain ⟨rfl, rfl⟩ := hv
      have hB : Blk w g 32 cur := hh
      exact hB.frozen _
theorem sized_next {t : Tbl} {l : List Col} (hs : Sized t) (hl : ∀ c ∈ l, c.name.size ≤ 9223372036854775807 ∧ c.d.text.size ≤ 9223372036854775807) : Sized (nextT t l) := by
  refine ⟨hs.1, fun k h => ?_⟩
  have hm : (nextT t l).cols[k] ∈ t.cols ++ l.map (mark (t.ver + 1)) := List.getElem_mem h
  generalize (nextT t l).cols[k] = c at *
  rw [List.mem_append] at hm
  rcases hm with hm | hm
  · obtain ⟨j, hj, rfl⟩ := List.getElem_of_mem hm
    exact hs.2 j hj
  · rw [List.mem_map] at hm
    obtain ⟨c', hc', rfl⟩ := hm
    exact hl c' hc'
set_option maxRecDepth 100000 in
set_option maxHeartbeats 8000000 in
theorem add_any (t : Tbl) (l : List Col) (A A2 B : Option Addr) (n c n2 c2 m d : Nat) (w : World) (hT : Tabs w) (hs : Sized t) (hsl : ∀ c ∈ l, c.name.size ≤ 9223372036854775807 ∧ c.d.text.size ≤ 9223372036854775807)
    (hc : Reads w w.heap.size 9 A n (colCells t.cols)) (hx : Reads w w.heap.size 2 A2 n2 (idxCells t.idxs)) (hl : Reads w w.heap.size 9 B m (colCells l)) (hn : n ≤ 100) (hn2 : n2 ≤ 100) (hm : m ≤ 100) :
    Calls Tryd.prog 32 #[.agg #[.string t.name, .int .i64 t.ver, .slice A n c, .slice A2 n2 c2, .int .u64 (t.rows : Int), .int .u64 (t.ents : Int)], .slice B m d] w (RetAdd w (addT t l)) := by
  have HLC := Lib.hid (show t.cols.length = n by have := hc.1; rw [colCells_len] at this; omega)
  have HLL := Lib.hid (show l.length = m by have := hl.1; rw [colCells_len] at this; omega)
  have HZT := Lib.hid (fun w => TblIs.zero w)
  by_cases hm0 : m = 0
  · subst hm0
    have hl0 : l = [] := List.eq_nil_of_length_eq_zero HLL.out
    subst hl0
    rw [addT_nil]
    clear HLC HLL hT hs hsl hc hx hl
    go_enter Tryd.func32, Tryd.ntmps32
    go_wp2
    refine bodyPost_ret (v := .tuple #[.agg #[.string ⟨#[]⟩, .int .i64 0, .slice none 0 0, .slice none 0 0, .int .u64 0, .int .u64 0], .int .i64 1]) (by simp [results, Tryd.results32, go_sem]) rfl ⟨_, rfl, HZT.out _, ?_⟩
    exact bel2 _ _ _
  · obtain ⟨R, hR⟩ : ∃ R, R = addT t l := ⟨_, rfl⟩
    rw [← hR]
    have HRR := Lib.hid hR
    clear hR
    have hl0 : l ≠ [] := fun h => by subst h; exact hm0 HLL.out.symm
    have e0 : ((m : Int) == 0) = false := by rw [beq_eq_false_iff_ne]; omega
    have HA : Hid (∀ W, Below w.heap.size w W → Calls Tryd.prog 19 #[.agg #[.string t.name, .int .i64 t.ver, .slice A n c, .slice A2 n2 c2, .int .u64 (t.rows : Int), .int .u64 (t.ents : Int)]] W fun e w' => e = .returned (.int .i64 (valid t)) ∧ Below W.heap.size W w') := fun W hb =>
      valid_walk t A A2 n c n2 c2 W (hT.below hb) hs ((hc.below hb).more hb.size) ((hx.below hb).more hb.size) (by omega) (by omega)
    have HC := Lib.hid hc
    have HX := Lib.hid hx
    have HL := Lib.hid hl
    have HT := Lib.hid hT
    have HSN := Lib.hid (sized_next hs hsl)
    clear hc hx hl hT hs hsl
    go_enter Tryd.func32, Tryd.ntmps32
    go_wp2_with fail
    refine (HA.out _ (bel2 _ _ _)).mono ?_
    rintro e w1 ⟨rfl, hb1⟩
    have HV1 : Hid (Blk w1 w.heap.size 51 #[.string t.name, .int .i64 t.ver, .slice A n c, .slice A2 n2 c2, .int .u64 (t.rows : Int), .int .u64 (t.ents : Int)]) := ((Blk.new w 51 _).alloc _).below hb1 (by simp; omega)
    have HR1 : Hid (Blk w1 (w.heap.size + 1) 51 #[.string ⟨#[]⟩, .int .i64 0, .slice none 0 0, .slice none 0 0, .int .u64 0, .int .u64 0]) := (Blk.new1 w _ 51 _).below hb1 (by simp)
    have HB1 : Hid (Below w.heap.size w w1) := (bel2 _ _ _).trans (hb1.mono (by simp; omega))
    clear hb1 HA
    by_cases hv : valid t = 0
    · rw [hv]
      obtain ⟨_, _, hver, hver'⟩ := ok_of_valid hv
      have a0 : w1.cell? ⟨w.heap.size, 0, none⟩ = some (.string t.name) := HV1.out.cell 0
      have a1 : w1.cell? ⟨w.heap.size, 1, none⟩ = some (.int .i64 t.ver) := HV1.out.cell 1
      have a2 : w1.cell? ⟨w.heap.size, 2, none⟩ = some (.slice A n c) := HV1.out.cell 2
      have a3 : w1.cell? ⟨w.heap.size, 3, none⟩ = some (.slice A2 n2 c2) := HV1.out.cell 3
      have a4 : w1.cell? ⟨w.heap.size, 4, none⟩ = some (.int .u64 (t.rows : Int)) := HV1.out.cell 4
      have a5 : w1.cell? ⟨w.heap.size, 5, none⟩ = some (.int .u64 (t.ents : Int)) := HV1.out.cell 5
      have hgt : w.heap.size + 1 < w1.heap.size := HR1.out.lt
      have a2' : ∀ o, (w1.alloc o).cell? ⟨w.heap.size, 2, none⟩ = some (.slice A n c) := fun o => (HV1.out.alloc o).cell 2
      have hbd : ∀ o o', Below w.heap.size w ((w1.alloc o).alloc o') := fun o o' => (HB1.out.alloc HB1.out.size o).alloc (by simp; have := HB1.out.size; omega) o'
      have HK : Hid (∀ o, Calls Tryd.prog 58 #[.slice (some ⟨w1.heap.size + 1, 0, none⟩) 2 2] ((w1.alloc o).alloc (.cells #[.slice A n c, .slice B m d] 47)) (RetCols ((w1.alloc o).alloc (.cells #[.slice A n c, .slice B m d] 47)) (n + m) (t.cols ++ l))) := fun o =>
        concat2 A B n c m d t.cols l (w1.heap.size + 1) _ (Blk.new1 w1 o 47 _) ((HC.out.below (hbd _ _)).more (hbd _ _).size) ((HL.out.below (hbd _ _)).more (hbd _ _).size) (by omega) (by omega) (by omega)
      have HN0 : Hid (AInv 51 w (w1.alloc (.cells #[.string t.name, .int .i64 (t.ver + 1), .slice A n c, .slice A2 n2 c2, .int .u64 (t.rows : Int), .int .u64 (t.ents : Int)] 51)) #[.string t.name, .int .i64 t.ver, .slice A n c, .slice A2 n2 c2, .int .u64 (t.rows : Int), .int .u64 (t.ents : Int)] #[.string t.name, .int .i64 (t.ver + 1), .slice A n c, .slice A2 n2 c2, .int .u64 (t.rows : Int), .int .u64 (t.ents : Int)] w1.heap.size) :=
        ⟨HB1.out.alloc HB1.out.size _, HV1.out.alloc _, HR1.out.alloc _, Blk.new _ _ _, hgt⟩
      clear HV1 HR1 hbd
      go_wp2_with fail
      refine (HK.out _).mono ?_
      rintro e w2 ⟨A', m', c', rfl, hm', ho', hb2⟩
      have HN1 := Lib.hid ((HN0.out.alloc _).step hb2)
      obtain ⟨g, hg, hgb⟩ := own_some ho' (by omega)
      subst hg
      have HO1 : Hid (w2.ownsRow (w1.heap.size + 1) 32 9 (.slice (some ⟨g, 0, none⟩) m' c') m' (colCells (markAt t.cols l (t.ver + 1) 0))) := by
        rw [markAt_zero]
        exact own_mono ho' (by simp)
      have hgb' : w1.heap.size < g := by simp at hgb; omega
      have hcc := own_cap ho'
      have hm1 : n + m ≤ m' := by omega
      have hm2 : m' ≤ n + m := by omega
      clear hm' ho' hb2 hgb HK HN0 HB1 a0 a1 a2 a3 a4 a5 a2'
      generalize w1.heap.size = nb at *
      have q2 : w2.cell? ⟨nb, 2, none⟩ = some (.slice A n c) := HN1.out.nxt.cell 2
      have qz2 := HN1.out.nxt.frozen 2
      have a2 : w2.cell? ⟨w.heap.size, 2, none⟩ = some (.slice A n c) := HN1.out.arg.cell 2
      have hne : w.heap.size ≠ nb := by omega
      have hne' : ¬ nb = w.heap.size := by omega
      go_wp2_with fail
      have HN2 : Hid (AInv 51 w (w2.setCell ⟨nb, 2, none⟩ (.slice (some ⟨g, 0, none⟩) m' c')) #[.string t.name, .int .i64 t.ver, .slice A n c, .slice A2 n2 c2, .int .u64 (t.rows : Int), .int .u64 (t.ents : Int)] #[.string t.name, .int .i64 (t.ver + 1), .slice (some ⟨g, 0, none⟩) m' c', .slice A2 n2 c2, .int .u64 (t.rows : Int), .int .u64 (t.ents : Int)] nb) := HN1.out.set_ 2 _
      have HO2 : Hid ((w2.setCell ⟨nb, 2, none⟩ (.slice (some ⟨g, 0, none⟩) m' c')).ownsRow (nb + 1) 32 9 (.slice (some ⟨g, 0, none⟩) m' c') m' (colCells (markAt t.cols l (t.ver + 1) 0))) := own_far HO1.out (by show nb < nb + 1; omega) _
      generalize w2.setCell ⟨nb, 2, none⟩ (.slice (some ⟨g, 0, none⟩) m' c') = w3 at *
      clear HN1 HO1 q2 qz2 a2
      go_loopw [8] (fun i wr => ∃ (j : Nat), n ≤ j ∧ j ≤ m' ∧ i = .int .i64 j ∧ Hid (AInv 51 w wr #[.string t.name, .int .i64 t.ver, .slice A n c, .slice A2 n2 c2, .int .u64 (t.rows : Int), .int .u64 (t.ents : Int)] #[.string t.name, .int .i64 (t.ver + 1), .slice (some ⟨g, 0, none⟩) m' c', .slice A2 n2 c2, .int .u64 (t.rows : Int), .int .u64 (t.ents : Int)] nb) ∧ Hid (wr.ownsRow (nb + 1) 32 9 (.slice (some ⟨g, 0, none⟩) m' c') m' (colCells (markAt t.cols l (t.ver + 1) (j - n))))) (fun i _ => m' - (intOf i).toNat)
      case atStart => exact ⟨n, Nat.le_refl _, by omega, rfl, HN2, by rw [Nat.sub_self]; exact HO2⟩
      case round =>
        clear HN2 HO2
        obtain ⟨j, hnj, hj, rfl, hinv, hown⟩ := hrel
        have p2 : wr.cell? ⟨nb, 2, none⟩ = some (.slice (some ⟨g, 0, none⟩) m' c') := hinv.out.nxt.cell 2
        have p1 : wr.cell? ⟨nb, 1, none⟩ = some (.int .i64 (t.ver + 1)) := hinv.out.nxt.cell 1
        by_cases hlt : j < m'
        · obtain ⟨⟨x0, f3⟩, fz3⟩ := own_since hown.out hlt
          have HO3 : Hid ((wr.setCell ⟨g, j * 9 + 3, none⟩ (.int .i64 (t.ver + 1))).ownsRow (nb + 1) 32 9 (.slice (some ⟨g, 0, none⟩) m' c') m' (colCells (markAt t.cols l (t.ver + 1) (j + 1 - n)))) := by
            have h := own_mark hown.out (show j - n < l.length by rw [HLL.out]; omega)
            rw [HLC.out, show n + (j - n) = j by omega, show j - n + 1 = j + 1 - n by omega] at h
            exact h
          have HN3 : Hid (AInv 51 w (wr.setCell ⟨g, j * 9 + 3, none⟩ (.int .i64 (t.ver + 1))) #[.string t.name, .int .i64 t.ver, .slice A n c, .slice A2 n2 c2, .int .u64 (t.rows : Int), .int .u64 (t.ents : Int)] #[.string t.name, .int .i64 (t.ver + 1), .slice (some ⟨g, 0, none⟩) m' c', .slice A2 n2 c2, .int .u64 (t.rows : Int), .int .u64 (t.ents : Int)] nb) := hinv.out.far (p := ⟨g, j * 9 + 3, none⟩) hgb' _
          go_wp2
          go_roundw
          case rel => exact ⟨j + 1, by omega, by omega, by go_num, HN3, HO3⟩
          case measure => simp [intOf]; omega
        · obtain rfl : m' = j := by omega
          have HKC := Lib.hid (clone_any A2 n2 c2 t.idxs wr ((HX.out.below hinv.out.below).more hinv.out.below.size) (by omega))
          have a3 : wr.cell? ⟨w.heap.size, 3, none⟩ = some (.slice A2 n2 c2) := hinv.out.arg.cell 3
          go_wp2_with fail
          refine HKC.out.mono ?_
          rintro e w4 ⟨A5, m5, c5, rfl, hm5, ho5, hb5⟩
          have HN4 := Lib.hid (hinv.out.step hb5)
          have HO4 := Lib.hid (own_below hown.out hb5)
          have HO5 : Hid (w4.ownsRow (nb + 1) 79 2 (.slice A5 m5 c5) m5 (idxCells t.idxs)) := own_mono ho5 (by have := hinv.out.nxt.lt; omega)
          have hc5 := own_cap ho5
          have hm5' : m5 ≤ 100 := by omega
          clear hm5 ho5 hb5 HKC a3 p1 p2 hinv hown hlt
          rw [show m' - n = l.length by have := HLL.out; omega, markAt_all] at HO4
          have q0 : w4.cell? ⟨nb, 0, none⟩ = some (.string t.name) := HN4.out.nxt.cell 0
          have q1 : w4.cell? ⟨nb, 1, none⟩ = some (.int .i64 (t.ver + 1)) := HN4.out.nxt.cell 1
          have q2 : w4.cell? ⟨nb, 2, none⟩ = some (.slice (some ⟨g, 0, none⟩) m' c') := HN4.out.nxt.cell 2
          have q3 : w4.cell? ⟨nb, 3, none⟩ = some (.slice A2 n2 c2) := HN4.out.nxt.cell 3
          have q4 : w4.cell? ⟨nb, 4, none⟩ = some (.int .u64 (t.rows : Int)) := HN4.out.nxt.cell 4
          have q5 : w4.cell? ⟨nb, 5, none⟩ = some (.int .u64 (t.ents : Int)) := HN4.out.nxt.cell 5
          have qz3 := HN4.out.nxt.frozen 3
          have HN5 : Hid (AInv 51 w (w4.setCell ⟨nb, 3, none⟩ (.slice A5 m5 c5)) #[.string t.name, .int .i64 t.ver, .slice A n c, .slice A2 n2 c2, .int .u64 (t.rows : Int), .int .u64 (t.ents : Int)] #[.string t.name, .int .i64 (t.ver + 1), .slice (some ⟨g, 0, none⟩) m' c', .slice A5 m5 c5, .int .u64 (t.rows : Int), .int .u64 (t.ents : Int)] nb) := HN4.out.set_ 3 _
          have HO6 : Hid ((w4.setCell ⟨nb, 3, none⟩ (.slice A5 m5 c5)).ownsRow (nb + 1) 32 9 (.slice (some ⟨g, 0, none⟩) m' c') m' (colCells (t.cols ++ l.map (mark (t.ver + 1))))) := own_far HO4.out (by show nb < nb + 1; omega) _
          have HO7 : Hid ((w4.setCell ⟨nb, 3, none⟩ (.slice A5 m5 c5)).ownsRow (nb + 1) 79 2 (.slice A5 m5 c5) m5 (idxCells t.idxs)) := own_far HO5.out (by show nb < nb + 1; omega) _
          have HVV : Hid (Calls Tryd.prog 19 #[.agg #[.string t.name, .int .i64 (t.ver + 1), .slice (some ⟨g, 0, none⟩) m' c', .slice A5 m5 c5, .int .u64 (t.rows : Int), .int .u64 (t.ents : Int)]] (w4.setCell ⟨nb, 3, none⟩ (.slice A5 m5 c5)) fun e w' => e = .returned (.int .i64 (valid (nextT t l))) ∧ Below (w4.setCell ⟨nb, 3, none⟩ (.slice A5 m5 c5)).heap.size (w4.setCell ⟨nb, 3, none⟩ (.slice A5 m5 c5)) w') :=
            valid_walk (nextT t l) (some ⟨g, 0, none⟩) A5 m' c' m5 c5 _ (HT.out.below HN5.out.below) HSN.out (Reads.of_own HO6.out) (Reads.of_own HO7.out) (by omega) (by omega)
          clear HN4 HO4 HO5
          go_wp2_with fail
          refine HVV.out.mono ?_
          rintro e w6 ⟨rfl, hb6⟩
          have HN6 := Lib.hid (HN5.out.step hb6)
          have HO8 := Lib.hid (own_below HO6.out hb6)
          have HO9 := Lib.hid (own_below HO7.out hb6)
          clear hb6 HVV HN5 HO6 HO7 q0 q1 q2 q3 q4 q5 qz3
          by_cases hv2 : valid (nextT t l) = 0
          · have HR2 := Lib.hid (HRR.out.trans (addT_yes hl0 hv hv2))
            rw [hv2]
            obtain rfl := HR2.out
            clear HRR HR2 hv hv2
            have r0 := HN6.out.res.cell 0
            have rz0 := HN6.out.res.frozen 0
            have r1 := HN6.out.res.cell 1
            have rz1 := HN6.out.res.frozen 1
            have r2 := HN6.out.res.cell 2
            have rz2 := HN6.out.res.frozen 2
            have r3 := HN6.out.res.cell 3
            have rz3 := HN6.out.res.frozen 3
            have r4 := HN6.out.res.cell 4
            have rz4 := HN6.out.res.frozen 4
            have r5 := HN6.out.res.cell 5
            have rz5 := HN6.out.res.frozen 5
            simp at r0 r1 r2 r3 r4 r5
            have q0 : w6.cell? ⟨nb, 0, none⟩ = some (.string t.name) := HN6.out.nxt.cell 0
            have q1 : w6.cell? ⟨nb, 1, none⟩ = some (.int .i64 (t.ver + 1)) := HN6.out.nxt.cell 1
            have q2 : w6.cell? ⟨nb, 2, none⟩ = some (.slice (some ⟨g, 0, none⟩) m' c') := HN6.out.nxt.cell 2
            have q3 : w6.cell? ⟨nb, 3, none⟩ = some (.slice A5 m5 c5) := HN6.out.nxt.cell 3
            have q4 : w6.cell? ⟨nb, 4, none⟩ = some (.int .u64 (t.rows : Int)) := HN6.out.nxt.cell 4
            have q5 : w6.cell? ⟨nb, 5, none⟩ = some (.int .u64 (t.ents : Int)) := HN6.out.nxt.cell 5
            have hlt := HN6.out.lt
            have hne2 : ¬ nb = w.heap.size + 1 := by omega
            have hne3 : ¬ w.heap.size + 1 = nb := by omega
            go_wp2
            refine bodyPost_ret (v := .tuple #[.agg #[.string t.name, .int .i64 (t.ver + 1), .slice (some ⟨g, 0, none⟩) m' c', .slice A5 m5 c5, .int .u64 (t.rows : Int), .int .u64 (t.ents : Int)], .int .i64 0]) (by simp [results, Tryd.results32, go_sem, r0, r1, r2, r3, r4, r5]) rfl ⟨_, rfl, ⟨some ⟨g, 0, none⟩, m', c', A5, m5, c5, rfl, Reads.of_own (base := nb + 1) (e := 32) (c := c') ?_, Reads.of_own (base := nb + 1) (e := 79) (c := c5) ?_, hcc.1, hc5.1⟩, ?_⟩
            · iterate 6 (refine own_far ?_ (by show w.heap.size + 1 < nb + 1; omega) _)
              exact HO8.out
            · iterate 6 (refine own_far ?_ (by show w.heap.size + 1 < nb + 1; omega) _)
              exact HO9.out
            · iterate 6 (refine Below.setCell ?_ (by simp) _)
              exact HN6.out.below
          · have HR2 := Lib.hid (HRR.out.trans (addT_no hl0 hv hv2))
            generalize valid (nextT t l) = vd at *
            have e1 : (vd != 0) = true := by rw [bne_iff_ne]; exact hv2
            obtain rfl := HR2.out
            clear HRR HR2 hv hv2
            have r0 := HN6.out.res.cell 0
            have rz0 := HN6.out.res.frozen 0
            have r1 := HN6.out.res.cell 1
            have rz1 := HN6.out.res.frozen 1
            have r2 := HN6.out.res.cell 2
            have rz2 := HN6.out.res.frozen 2
            have r3 := HN6.out.res.cell 3
            have rz3 := HN6.out.res.frozen 3
            have r4 := HN6.out.res.cell 4
            have rz4 := HN6.out.res.frozen 4
            have r5 := HN6.out.res.cell 5
            have rz5 := HN6.out.res.frozen 5
            simp at r0 r1 r2 r3 r4 r5
            go_wp2
            refine bodyPost_ret (v := .tuple #[.agg #[.string ⟨#[]⟩, .int .i64 0, .slice none 0 0, .slice none 0 0, .int .u64 0, .int .u64 0], .int .i64 vd]) (by simp [results, Tryd.results32, go_sem, r0, r1, r2, r3, r4, r5]) rfl ⟨_, rfl, HZT.out _, ?_⟩
            iterate 6 (refine Below.setCell ?_ (by simp) _)
            exact HN6.out.below
    · have HR2 := Lib.hid (HRR.out.trans (addT_bad hl0 hv))
      generalize valid t = vd at *
      obtain rfl := HR2.out
      clear HRR HR2
      have e1 : (vd != 0) = true := by rw [bne_iff_ne]; exact hv
      have r0 := HR1.out.cell 0
      have rz0 := HR1.out.frozen 0
      have r1 := HR1.out.cell 1
      have rz1 := HR1.out.frozen 1
      have r2 := HR1.out.cell 2
      have rz2 := HR1.out.frozen 2
      have r3 := HR1.out.cell 3
      have rz3 := HR1.out.frozen 3
      have r4 := HR1.out.cell 4
      have rz4 := HR1.out.frozen 4
      have r5 := HR1.out.cell 5
      have rz5 := HR1.out.frozen 5
      simp at r0 r1 r2 r3 r4 r5
      clear hv HV1
      go_wp2
      refine bodyPost_ret (v := .tuple #[.agg #[.string ⟨#[]⟩, .int .i64 0, .slice none 0 0, .slice none 0 0, .int .u64 0, .int .u64 0], .int .i64 vd]) (by simp [results, Tryd.results32, go_sem, r0, r1, r2, r3, r4, r5]) rfl ⟨_, rfl, HZT.out _, ?_⟩
      iterate 6 (refine Below.setCell ?_ (by simp) _)
      exact HB1.out
end Go.Proofs.YtophcoaikelopaaDoor
