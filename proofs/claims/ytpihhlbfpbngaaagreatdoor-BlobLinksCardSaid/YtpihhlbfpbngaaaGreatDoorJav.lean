/- The walks and laws that the claim leans on, part 22. -/
import Derived.Test.YtpihhlbfpbngaaaGreatDoorJat
namespace Go.Proofs.YtpihhlbfpbngaaaGreatDoor
open Go.RowKit
theorem mask_low (x : Nat) (h : x < 18446744073709551616) : bits .and .u64 (x : Int) 4294967295 = ((x % 4294967296 : Nat) : Int) := by
  have h1 := u64_and_nat x 4294967295 h (by omega)
  rw [show ((4294967295 : Nat) : Int) = 4294967295 from rfl] at h1
  rw [h1, show (4294967295 : Nat) = 2 ^ 32 - 1 from rfl, Nat.and_two_pow_sub_one_eq_mod]
theorem aheadDLoad (p : Addr) (w : World) : (nilAhead 519 37 (.pointer (some p)) "Load").run Tryz.prog w = .ok (some false) w := by kernel_rfl
section
variable {a : DA} {L T : Nat} {w : World} {S : Fp} {cur : Nat → Nat} {F : Nat} {d g r : Nat}
set_option maxRecDepth 100000
set_option maxHeartbeats 2000000
theorem within_blob (h : Dev a L T w S cur F) (hB : Blk w d 143 (dirCells a g r)) (p k : Nat) (hp0 : p ≠ 0) (hk : k < 60) (bp bs : Nat) (hc : w.cell? ⟨bp, 0, none⟩ = some (.int .u64 (p : Int))) (hs : w.cell? ⟨bs, 0, none⟩ = some (dirV d)) :
    Calls Tryz.prog 176 #[.int .i64 (k : Int), .pointer (some ⟨bp, 0, none⟩), .pointer (some ⟨bs, 0, none⟩)] w fun e w' => e = .returned (.bool (decide (pOff p + 8 * k + 8 ≤ 64 * L))) ∧ Below w.heap.size w w' := by
  have hL : L ≤ 4096 := by obtain ⟨ls, exe, per, cs, lsC, hdc, hnt⟩ := h; exact hdc.hL
  have HAt := Lib.hid (at_any p k (by omega))
  have e1 : pAt p k = pOff p + 8 * k := by unfold pAt; rw [if_neg (by omega)]
  have ho : pOff p ≤ 34359738360 := by unfold pOff; omega
  rw [e1] at HAt
  have HSz : Hid (∀ W, W = w.drew → Calls Tryz.prog 365 #[.pointer (some ⟨d, 0, none⟩)] W (fun e w' => e = .returned (.int .u64 ((64 * L : Nat) : Int)) ∧ W = w')) := Lib.hid (fun W hW => by subst hW; exact sizeD (h.below (Below.refl _ _).drew) hB.drew)
  have hm := methDSize (some ⟨d, 0, none⟩)
  obtain ⟨z, hz⟩ : ∃ z, pOff p + 8 * k = z := ⟨_, rfl⟩
  obtain ⟨m, hm2⟩ : ∃ m, 64 * L = m := ⟨_, rfl⟩
  rw [hz] at HAt ⊢
  rw [hm2] at HSz ⊢
  have hzb : z ≤ 40000000000 := by omega
  have hmb : m ≤ 300000 := by omega
  clear e1 ho hz hm2 h hB hL
  unfold dirV at *
  go_enter Tryz.func176, Tryz.ntmps176
  go_wp2_with fail
  refine wp_region_scriptH (fun w' => w' = w.drew) 5 [] [(1, 0), (1, 1), (1, 3), (0, 2), (0, 4)] (by kernel_rfl) (by kernel_rfl) rfl ?_
  refine wpScriptH_take (.int .u64 (p : Int)) (by rfl) (by rfl) (fun w' hS => ?_) ?_
  · subst hS
    go_simp
  simp only [zA, zB, Act.put, zD, zE, zF]
  refine wpScriptH_take (.int .i64 (k : Int)) (by rfl) (by rfl) (fun w' hS => ?_) ?_
  · go_simp
  simp only [zA, zB, zC, Act.put, zD, zE, zF]
  refine wpScriptH_take (.iface 37 (.pointer (some ⟨d, 0, none⟩))) (by rfl) (by rfl) (fun w' hS => ?_) ?_
  · subst hS
    go_simp
  simp only [zA, zB, zC, Act.put, zD, zE, zF]
  refine wpScriptH_do (by rfl) ?_
  go_wp2_with (go_at_call 24; refine (HAt.out _).mono ?_; rintro e w1 ⟨rfl, rfl⟩)
  refine ⟨rfl, ?_⟩
  refine wpScriptH_do (by rfl) ?_
  go_wp2_with (go_at_call 365; refine (HSz.out _ rfl).mono ?_; rintro e w1 ⟨rfl, rfl⟩)
  refine ⟨rfl, ?_⟩
  show wpList _ _ _ _ _ _
  simp only [List.drop_succ_cons, List.drop_zero]
  by_cases c1 : z < m
  · have u1 : IntKind.u64.wrap ((m : Int) - (z : Int)) = ((m - z : Nat) : Int) := by rw [IntKind.wrap_u64]; omega
    have d2 : decide ((8 : Int) ≤ ((m - z : Nat) : Int)) = decide (z + 8 ≤ m) := decide_eq_decide.2 (by omega)
    have d1 : decide ((z : Int) < (m : Int)) = true := decide_eq_true (by omega)
    generalize m - z = q at *
    go_wp2
    refine NoPanic.normal ?_
    go_wp2
    go_ret
    refine ⟨?_, (Below.refl _ _).drew⟩
    first | rfl | rw [d2] | simp [d2]
  · have d1 : decide ((z : Int) < (m : Int)) = false := decide_eq_false (by omega)
    have d2 : decide (z + 8 ≤ m) = false := decide_eq_false (by omega)
    go_wp2
    refine NoPanic.normal ?_
    go_wp2
    go_ret
    refine ⟨?_, (Below.refl _ _).drew⟩
    rw [d2]
    rfl
def ldL (cur : Nat → Nat) (o n k : Nat) : List Nat := (List.range n).map fun j => if j < k then cur (o + j) else 0
theorem ldL_len (cur : Nat → Nat) (o n k : Nat) : (ldL cur o n k).length = n := by simp [ldL]
theorem ldL_zero (cur : Nat → Nat) (o n : Nat) : ldL cur o n 0 = List.replicate n 0 := by
  apply List.ext_getElem
  · simp [ldL]
  · intro i h1 h2
    simp [ldL]
theorem ldL_set (cur : Nat → Nat) (o n k : Nat) : (ldL cur o n k).set k (cur (o + k)) = ldL cur o n (k + 1) := by
  apply List.ext_getElem
  · simp [ldL]
  · intro i h1 h2
    rw [List.getElem_set]
    simp only [ldL, List.getElem_map, List.getElem_range]
    by_cases e : k = i
    · subst e
      rw [if_pos rfl, if_pos (by omega)]
    · rw [if_neg e]
      by_cases h : i < k
      · rw [if_pos h, if_pos (by omega)]
      · rw [if_neg h, if_neg (by omega)]
theorem ldL_end (cur : Nat → Nat) (o n : Nat) : ldL cur o n n = (List.range n).map fun j => cur (o + j) := by
  apply List.ext_getElem
  · simp [ldL]
  · intro i h1 h2
    simp only [ldL, List.getElem_map, List.getElem_range]
    rw [if_pos (by simpa [ldL] using h1)]
theorem load_cases (L : Nat) (cur : Nat → Nat) (p : Nat) (c1 : ¬ 64 * L < pOff p + 16) (hv : cur (pOff p / 8 + 1) < 18446744073709551616) (_hL : L ≤ 4096) : ∃ (v rest hi : Nat), cur (pOff p / 8 + 1) = v ∧ bits .and .u64 (v : Int) 4294967295 = (rest : Int) ∧ (v : Int) / 4294967296 = (hi : Int) ∧ rest < 4294967296 ∧
    ((loadR L cur p = none ∧ ((rest : Int) != (hi : Int)) = true) ∨ (loadR L cur p = none ∧ ((rest : Int) != (hi : Int)) = false ∧ decide ((2000 : Int) < (rest : Int)) = true) ∨
     ∃ n1 n : Nat, ((rest : Int) != (hi : Int)) = false ∧ decide ((2000 : Int) < (rest : Int)) = false ∧ rest ≤ 2000 ∧ bSize rest = n1 ∧ (n1 : Int) - 1 = (n : Int) ∧ n < 60 ∧ n1 ≤ 60 ∧ wrap64 (n : Int) = (n : Int) ∧
       ((decide (pOff p + 8 * n + 8 ≤ 64 * L) = false ∧ loadR L cur p = none) ∨ (decide (pOff p + 8 * n + 8 ≤ 64 * L) = true ∧ loadR L cur p = some ((List.range n1).map fun j => cur (pOff p / 8 + j), rest) ∧ ∀ k, k < n1 → pOff p + 8 * k + 8 ≤ 64 * L))) := by
  obtain ⟨v, e⟩ : ∃ v, cur (pOff p / 8 + 1) = v := ⟨_, rfl⟩
  rw [e] at hv
  refine ⟨v, v % 4294967296, v / 4294967296, e, mask_low v hv, by omega, by omega, ?_⟩
  have hR : loadR L cur p = if v % 4294967296 ≠ v / 4294967296 ∨ 2000 < v % 4294967296 then none else if 64 * L < pOff p + 8 * bSize (v % 4294967296) then none else some ((List.range (bSize (v % 4294967296))).map fun j => cur (pOff p / 8 + j), v % 4294967296) := by
    unfold loadR
    rw [if_neg c1, e]
  generalize v / 4294967296 = hi at *
  generalize v % 4294967296 = rest at *
  by_cases c3 : rest = hi
  · have d1 : ((rest : Int) != (hi : Int)) = false := by rw [bne, beq_iff_eq.2 (by omega)]; rfl
    by_cases c4 : 2000 < rest
    · exact .inr (.inl ⟨by rw [hR, if_pos (.inr c4)], d1, decide_eq_true (by omega)⟩)
    · rw [if_neg (by omega)] at hR
      obtain ⟨h3, h60⟩ := bSize_le rest
      obtain ⟨n, hn⟩ : ∃ n, bSize rest = n + 1 := ⟨bSize rest - 1, by omega⟩
      refine .inr (.inr ⟨n + 1, n, d1, decide_eq_false (by omega), by omega, hn, by omega, by omega, by omega, IntWalk.wrap64_in _ (by omega), ?_⟩)
      rw [hn] at hR
      by_cases c5 : 64 * L < pOff p + 8 * (n + 1)
      · exact .inl ⟨decide_eq_false (by omega), by rw [hR, if_pos c5]⟩
      · exact .inr ⟨decide_eq_true (by omega), by rw [hR, if_neg c5], fun k hk => by omega⟩
  · exact .inl ⟨by rw [hR, if_pos (.inl c3)], by rw [bne, beq_eq_false_iff_ne.2 (by omega)]; rfl⟩
def RetLd (w : World) (o : Option (List Nat × Nat)) (e : Ending) (w' : World) : Prop := match o with
  | none => e = .returned (.tuple #[.slice none 0 0, .int .i64 0, .int .i64 11]) ∧ Below w.heap.size w w'
  | some (l, rest) => ∃ g, e = .returned (.tuple #[.slice (some ⟨g, 0, none⟩) l.length l.length, .int .i64 (rest : Int), .int .i64 0]) ∧ Blk w' g 26 (uA l) ∧ w.heap.size ≤ g ∧ Below w.heap.size w w'
set_option maxHeartbeats 4000000 in
theorem bload_any (h : Dev a L T w S cur 0) (hB : Blk w d 143 (dirCells a g r)) (hpy : Pay w) (hbn : ∀ i, cur i < 18446744073709551616) (p : Nat) (hp0 : p ≠ 0) (_hp64 : p < 18446744073709551616) :
    Calls Tryz.prog 84 #[dirV d, .int .u64 (p : Int)] w (RetLd w (loadR L cur p)) := by
  have hL : L ≤ 4096 := by obtain ⟨ls, exe, per, cs, lsC, hdc, hnt⟩ := h; exact hdc.hL
  have hb0 : Below w.heap.size w ((w.alloc (.cells #[dirV d] 113)).alloc (.cells #[.int .u64 (p : Int)] 27)) := ((Below.refl _ _).alloc (Nat.le_refl _) _).alloc (by simp) _
  have HB0 := Lib.hid hb0
  have HS := Lib.hid ((Blk.new w 113 #[dirV d]).alloc (.cells #[.int .u64 (p : Int)] 27))
  have esz : (w.alloc (.cells #[dirV d] 113)).heap.size = w.heap.size + 1 := by simp
  have HP : Hid (Blk ((w.alloc (.cells #[dirV d] 113)).alloc (.cells #[.int .u64 (p : Int)] 27)) (w.heap.size + 1) 27 #[.int .u64 (p : Int)]) := Lib.hid (by
    have := Blk.new (w.alloc (.cells #[dirV d] 113)) 27 #[.int .u64 (p : Int)]
    rw [esz] at this
    exact this)
  have HD := Lib.hid h
  have HBB := Lib.hid hB
  have HPy := Lib.hid hpy
  have HWt : Hid (∀ (W : World) (k : Nat), k < 60 → Below w.heap.size w W → W.cell? ⟨w.heap.size, 0, none⟩ = some (dirV d) → W.cell? ⟨w.heap.size + 1, 0, none⟩ = some (.int .u64 (p : Int)) → Calls Tryz.prog 176 #[.int .i64 (k : Int), .pointer (some ⟨w.heap.size + 1, 0, none⟩), .pointer (some ⟨w.heap.size, 0, none⟩)] W fun e w' => e = .returned (.bool (decide (pOff p + 8 * k + 8 ≤ 64 * L))) ∧ Below W.heap.size W w') := Lib.hid (fun W k hk hW h1 h2 => by
    have h5 := within_blob (h.below hW) (hB.below hW hB.lt) p k hp0 hk (w.heap.size + 1) w.heap.size h2 h1
    exact h5)
  have hmf : ∀ (fn : Fn) (first cap : Array Value) (w : World), (Instr.makeFunc fn first cap).run Tryz.prog w = .ok (.func fn first cap) w := fun _ _ _ _ => rfl
  have hmE := methDErr (some ⟨d, 0, none⟩)
  have hmL := methDLoad (some ⟨d, 0, none⟩)
  have hna := aheadDLoad ⟨d, 0, none⟩
  clear h hB hpy hb0 esz
  unfold dirV at *
  go_enter Tryz.func84, Tryz.ntmps84
  go_upto_region 2 with fail
  have hS0 := HS.out.cell 0
  have hP0 := HP.out.cell 0
  generalize hW0 : (w.alloc (.cells #[.iface 37 (.pointer (some ⟨d, 0, none⟩))] 113)).alloc (.cells #[.int .u64 (p : Int)] 27) = W0 at *
  clear hW0
  have hpo8 : pOff p % 8 = 0 := by unfold pOff; omega
  have hpo9 : pOff p ≤ 34359738360 := by unfold pOff; omega
  have HAt : Hid (∀ (k : Nat) (W : World), k < 60 → Calls Tryz.prog 24 #[.int .u64 (p : Int), .int .i64 (k : Int)] W fun e w' => e = .returned (.int .u64 ((pOff p + 8 * k : Nat) : Int)) ∧ W = w') := Lib.hid (fun k W hk => by
    have h1 := at_any p k (by omega) W
    have h2 : pAt p k = pOff p + 8 * k := by unfold pAt; rw [if_neg (by omega)]
    rw [h2] at h1
    exact h1)
  have HRd : Hid (∀ (k : Nat) (W : World), pOff p + 8 * k + 8 ≤ 64 * L → Below w.heap.size w W → Calls Tryz.prog 364 #[.pointer (some ⟨d, 0, none⟩), .int .u64 ((pOff p + 8 * k : Nat) : Int)] W (fun e w' => e = .returned (.int .u64 (cur (pOff p / 8 + k) : Int)) ∧ W = w')) := Lib.hid (fun k W hk hW => loadD (HD.out.below hW) (HBB.out.below hW HBB.out.lt) (pOff p + 8 * k) _ (by omega) (by omega) (by rw [show (pOff p + 8 * k) / 8 = pOff p / 8 + k by omega]))
  have HEr : Hid (∀ W, Below w.heap.size w W → Calls Tryz.prog 361 #[.pointer (some ⟨d, 0, none⟩)] W fun e w' => e = .returned (.int .i64 0) ∧ W = w') := Lib.hid (fun W hW => errD (HD.out.below hW) (HBB.out.below hW HBB.out.lt))
  have HW1 := Lib.hid (HWt.out W0 1 (by omega) HB0.out hS0 hP0)
  rw [show ((1 : Nat) : Int) = 1 from rfl] at HW1
  have HFn : Hid (loadR L cur p = none → ∀ w', Below w.heap.size w w' → RetLd w (loadR L cur p) (.returned (.tuple #[.slice none 0 0, .int .i64 0, .int .i64 11])) w') := Lib.hid (fun h w' hb => by rw [h]; exact ⟨rfl, hb⟩)
  by_cases c1 : 64 * L < pOff p + 16
  · have hR : loadR L cur p = none := by unfold loadR; rw [if_pos c1]
    have HF := Lib.hid (HFn.out hR)
    rw [show decide (pOff p + 8 * 1 + 8 ≤ 64 * L) = false from decide_eq_false (by omega)] at HW1
    clear c1 hR
    go_wp2_with (go_at_call 176; refine HW1.out.mono ?_; rintro e w1 ⟨rfl, hb1⟩; have HB1 := Lib.hid hb1; clear hb1)
    go_ret3
    exact HF.out _ (HB0.out.trans (HB1.out.mono HB0.out.size))
  · rw [show decide (pOff p + 8 * 1 + 8 ≤ 64 * L) = true from decide_eq_true (by omega)] at HW1
    obtain ⟨v, rest, hi, hv, hmk, hdv, hr32, hall⟩ := load_cases L cur p c1 (hbn _) hL
    have HAll := Lib.hid hall
    clear hall
    go_upto_region 4 with (go_at_call 176; refine HW1.out.mono ?_; rintro e w1 ⟨rfl, hb1⟩; have HB1 := Lib.hid (HB0.out.trans (hb1.mono HB0.out.size)); have HS1 := Lib.hid (HS.out.below hb1 HS.out.lt); have HP1 := Lib.hid (HP.out.below hb1 HP.out.lt); clear hb1)
    have HL1 := Lib.hid (HRd.out 1 w1.drew (by omega) HB1.out.drew)
    rw [hv] at HL1
    have HA1 := Lib.hid (HAt.out 1 w1.drew (by omega))
    rw [show ((1 : Nat) : Int) = 1 from rfl] at HA1
    generalize pOff p + 8 * 1 = o1 at HL1 HA1
    refine wp_region_scriptH (fun w' => w' = w1.drew) 6 [] [(1, 0), (1, 1), (1, 3), (1, 4), (1, 5), (0, 2)] (by kernel_rfl) (by kernel_rfl) rfl ?_
    refine wpScriptH_take (.iface 37 (.pointer (some ⟨d, 0, none⟩))) (by rfl) (by rfl) (fun w' hS => ?_) ?_
    · subst hS; have f1 : w1.cell? ⟨w.heap.size, 0, none⟩ = some (.iface 37 (.pointer (some ⟨d, 0, none⟩))) := HS1.out.cell 0
      go_simp
    simp only [zA, zB, Act.put, zD, zE, zF]
    refine wpScriptH_take (.int .u64 (p : Int)) (by rfl) (by rfl) (fun w' hS => ?_) ?_
    · subst hS; have f1 : w1.cell? ⟨w.heap.size + 1, 0, none⟩ = some (.int .u64 (p : Int)) := HP1.out.cell 0
      go_simp
    simp only [zA, zB, zC, Act.put, zD, zE, zF]
    refine wpScriptH_take (.func (.method "Load") #[.iface 37 (.pointer (some ⟨d, 0, none⟩))] #[]) (by rfl) (by rfl) (fun w' hS => ?_) ?_
    · go_simp
    simp only [zA, zB, zC, Act.put, zD, zE, zF]
    refine wpScriptH_take (.func (.method "Load") #[.iface 37 (.pointer (some ⟨d, 0, none⟩))] #[]) (by rfl) (by rfl) (fun w' hS => ?_) ?_
    · go_simp
    simp only [zA, zB, zC, Act.put, zD, zE, zF]
    refine wpScriptH_take (.iface 37 (.pointer (some ⟨d, 0, none⟩))) (by rfl) (by rfl) (fun w' hS => ?_) ?_
    · go_simp
    simp only [zA, zB, zC, Act.put, zD, zE, zF]
    refine wpScriptH_do (by rfl) ?_
    go_wp2_with (go_at_call 24; refine HA1.out.mono ?_; rintro e w2 ⟨rfl, rfl⟩)
    refine ⟨rfl, ?_⟩
    show wpList _ _ _ _ _ _
    simp only [List.drop_succ_cons, List.drop_zero]
    go_wp2_with (go_at_call 364; refine HL1.out.mono ?_; rintro e w2 ⟨rfl, rfl⟩)
    refine NoPanic.normal ?_
    have HBd := Lib.hid HB1.out.drew
    have HSd := Lib.hid HS1.out.drew
    have HPd := Lib.hid HP1.out.drew
    clear HL1 HA1 HW1 HB1 HS1 HP1
    generalize w1.drew = w2 at *
    have HE1 := Lib.hid (HEr.out w2 HBd.out)
    have f1 : w2.cell? ⟨w.heap.size, 0, none⟩ = some (.iface 37 (.pointer (some ⟨d, 0, none⟩))) := HSd.out.cell 0
    go_upto_region 9 with (go_at_call 361; refine HE1.out.mono ?_; rintro e w3 ⟨rfl, rfl⟩)
    rcases HAll.out with ⟨hR, d1⟩ | ⟨hR, d1, d2⟩ | ⟨n1, n, d1, d2, hr2, hn1, e2, hn60, hn1z, e1, hrest⟩
    · have HF := Lib.hid (HFn.out hR)
      clear hR HAll
      go_wp2
      go_ret3
      exact HF.out _ HBd.out
    · have HF := Lib.hid (HFn.out hR)
      clear hR HAll
      go_wp2
      go_ret3
      exact HF.out _ HBd.out
    · have HN6 := Lib.hid (And.intro hn60 hn1z)
      have HE1 := Lib.hid e1
      have HE2 := Lib.hid e2
      have HN1 := Lib.hid hn1
      have HRR := Lib.hid hrest
      clear hn60 hn1z e1 e2 hn1 hrest HAll
      go_upto_region 11 with fail
      clear hdv hmk hr32 d1 d2
      have HSz := Lib.hid (bsize_any rest (Nat.le_trans hr2 (by decide)) w2 (HPy.out.below HBd.out))
      rw [HN1.out] at HSz
      have f2 : w2.cell? ⟨w.heap.size + 1, 0, none⟩ = some (.int .u64 (p : Int)) := HPd.out.cell 0
      have hWn := HWt.out w2 n HN6.out.1 HBd.out f1 f2
      have hWn2 : Calls Tryz.prog 176 #[.int .i64 (wrap64 (n : Int)), .pointer (some ⟨w.heap.size + 1, 0, none⟩), .pointer (some ⟨w.heap.size, 0, none⟩)] w2 fun e w' => e = .returned (.bool (decide (pOff p + 8 * n + 8 ≤ 64 * L))) ∧ Below w2.heap.size w2 w' := by rw [HE1.out]; exact hWn
      have HWn := Lib.hid hWn2
      clear hWn hWn2 f2
      have e2 := HE2.out
      rcases HRR.out with ⟨hd, hR⟩ | ⟨hd, hR, hfit⟩
      · have HF := Lib.hid (HFn.out hR)
        rw [hd] at HWn
        clear hR HRR hd
        go_wp2_with (first
          | (go_at_call 70; refine HSz.out.mono ?_; rintro e w3 ⟨rfl, rfl⟩)
          | (go_at_call 176; refine HWn.out.mono ?_; rintro e w3 ⟨rfl, hb3⟩; have HB3 := Lib.hid (HBd.out.trans (hb3.mono HBd.out.size)); clear hb3))
        go_ret3
        exact HF.out _ HB3.out
      · rw [hd] at HWn
        have HR2 := Lib.hid hR
        have HFit := Lib.hid hfit
        have hmkS := makeU n1 (Nat.le_trans HN6.out.2 (by decide))
        rw [show madeCells #[.int .u64 0] n1 = uA (ldL cur (pOff p / 8) n1 0) by rw [ldL_zero]; apply Array.ext'; rw [toList_madeCells_one]; unfold uA uCells; simp] at hmkS
        clear hR HRR hd hfit
        go_wp2_with (first
          | (go_at_call 70; refine HSz.out.mono ?_; rintro e w3 ⟨rfl, rfl⟩)
          | (go_at_call 176; refine HWn.out.mono ?_; rintro e w3 ⟨rfl, hb3⟩; have HB3 := Lib.hid (HBd.out.trans (hb3.mono HBd.out.size)); have HS3 := Lib.hid (HSd.out.below hb3 HSd.out.lt); have HP3 := Lib.hid (HPd.out.below hb3 HPd.out.lt); clear hb3))
        have hn1z := HN6.out.2
        have HBk : Hid (Blk (w3.alloc (.cells (uA (ldL cur (pOff p / 8) n1 0)) 26)) w3.heap.size 26 (uA (ldL cur (pOff p / 8) n1 0))) := Lib.hid (Blk.new w3 _ _)
        have HB4 : Hid (Below w3.heap.size w3 (w3.alloc (.cells (uA (ldL cur (pOff p / 8) n1 0)) 26))) := Lib.hid ((Below.refl _ _).alloc (Nat.le_refl _) _)
        go_loopw [53] (fun i wr => ∃ k : Nat, k ≤ n1 ∧ i = .int .i64 (k : Int) ∧ Hid (Blk wr w3.heap.size 26 (uA (ldL cur (pOff p / 8) n1 k))) ∧ Hid (Below w3.heap.size w3 wr)) (fun i _ => n1 - (Go.RowKit.intOf i).toNat)
        case atStart => exact ⟨0, Nat.zero_le _, rfl, HBk, HB4⟩
        case round =>
          clear HBk HB4
          obtain ⟨k, hk, rfl, HBk, HB4⟩ := hrel
          by_cases hlt : k < n1
          · have HBl := Lib.hid (HB3.out.trans (HB4.out.mono HB3.out.size))
            have HS4 := Lib.hid (HS3.out.below HB4.out HS3.out.lt)
            have HP4 := Lib.hid (HP3.out.below HB4.out HP3.out.lt)
            have HL4 := Lib.hid (HRd.out k wr.drew (HFit.out k hlt) HBl.out.drew)
            have HA4 := Lib.hid (HAt.out k wr.drew (by omega))
            have HNx : Hid (Blk (wr.drew.setCell ⟨w3.heap.size, k, none⟩ (.int .u64 (cur (pOff p / 8 + k) : Int))) w3.heap.size 26 (uA (ldL cur (pOff p / 8) n1 (k + 1)))) := Lib.hid (by
              have h1 := HBk.out.drew.set_ k (.int .u64 (cur (pOff p / 8 + k) : Int))
              rw [uA_set, ldL_set] at h1
              exact h1)
            have HBx : Hid (Below w3.heap.size w3 (wr.drew.setCell ⟨w3.heap.size, k, none⟩ (.int .u64 (cur (pOff p / 8 + k) : Int)))) := Lib.hid (HB4.out.drew.setCell (Nat.le_refl _) _)
            have hz5 : (0 : Int) ≤ (k : Int) := by omega
            have hz6 : (k : Int) < (n1 : Int) := by omega
            have c9 : wr.drew.cell? ⟨w3.heap.size, k, none⟩ = some (.int .u64 (((ldL cur (pOff p / 8) n1 k)[k]'(by rw [ldL_len]; exact hlt) : Nat) : Int)) := by rw [HBk.out.drew.cell]; exact uA_at (by rw [ldL_len]; exact hlt)
            have z9 : wr.drew.frozen? ⟨w3.heap.size, k, none⟩ = false := HBk.out.drew.frozen k
            generalize (ldL cur (pOff p / 8) n1 k)[k]'(by rw [ldL_len]; exact hlt) = old at *
            have hlb : cur (pOff p / 8 + k) < 18446744073709551616 := hbn _
            generalize cur (pOff p / 8 + k) = vk at *
            generalize pOff p + 8 * k = ok at HL4 HA4
            clear HBk HB4
            go_upto_region 18 with fail
            refine wp_region_scriptH (fun w' => w' = wr.drew) 10 [] [(1, 0), (1, 1), (1, 2), (1, 3), (1, 4), (1, 6), (1, 7), (1, 8), (0, 5), (0, 9)] (by kernel_rfl) (by kernel_rfl) rfl ?_
            refine wpScriptH_take (.slice (some ⟨w3.heap.size, 0, none⟩) n1 n1) (by rfl) (by rfl) (fun w' hS => ?_) ?_
            · go_simp
            simp only [zA, zB, Act.put, zD, zE, zF]
            refine wpScriptH_take (.int .i64 (k : Int)) (by rfl) (by rfl) (fun w' hS => ?_) ?_
            · go_simp
            simp only [zA, zB, zC, Act.put, zD, zE, zF]
            refine wpScriptH_take (.iface 37 (.pointer (some ⟨d, 0, none⟩))) (by rfl) (by rfl) (fun w' hS => ?_) ?_
            · subst hS; have f1 : wr.cell? ⟨w.heap.size, 0, none⟩ = some (.iface 37 (.pointer (some ⟨d, 0, none⟩))) := HS4.out.cell 0
              go_simp
            simp only [zA, zB, zC, Act.put, zD, zE, zF]
            refine wpScriptH_take (.int .u64 (p : Int)) (by rfl) (by rfl) (fun w' hS => ?_) ?_
            · subst hS; have f1 : wr.cell? ⟨w.heap.size + 1, 0, none⟩ = some (.int .u64 (p : Int)) := HP4.out.cell 0
              go_simp
            simp only [zA, zB, zC, Act.put, zD, zE, zF]
            refine wpScriptH_take (.int .i64 (k : Int)) (by rfl) (by rfl) (fun w' hS => ?_) ?_
            · go_simp
            simp only [zA, zB, zC, Act.put, zD, zE, zF]
            refine wpScriptH_take (.func (.method "Load") #[.iface 37 (.pointer (some ⟨d, 0, none⟩))] #[]) (by rfl) (by rfl) (fun w' hS => ?_) ?_
            · go_simp
            simp only [zA, zB, zC, Act.put, zD, zE, zF]
            refine wpScriptH_take (.func (.method "Load") #[.iface 37 (.pointer (some ⟨d, 0, none⟩))] #[]) (by rfl) (by rfl) (fun w' hS => ?_) ?_
            · go_simp
            simp only [zA, zB, zC, Act.put, zD, zE, zF]
            refine wpScriptH_take (.iface 37 (.pointer (some ⟨d, 0, none⟩))) (by rfl) (by rfl) (fun w' hS => ?_) ?_
            · go_simp
            simp only [zA, zB, zC, Act.put, zD, zE, zF]
            refine wpScriptH_do (by rfl) ?_
            go_wp2_with (go_at_call 24; refine HA4.out.mono ?_; rintro e w2 ⟨rfl, rfl⟩)
            refine ⟨rfl, ?_⟩
            refine wpScriptH_do (by rfl) ?_
            go_wp2_with (go_at_call 364; refine HL4.out.mono ?_; rintro e w2 ⟨rfl, rfl⟩)
            refine ⟨rfl, ?_⟩
            show wpList _ _ _ _ _ _
            simp only [List.drop_succ_cons, List.drop_zero]
            go_wp2
            refine NoPanic.normal ?_
            go_wp2
            go_roundw
            case rel =>
              first
                | exact ⟨k + 1, by omega, by go_num, HNx, HBx⟩
                | (repeat apply Exists.intro
                   refine ⟨?_, rfl⟩
                   exact ⟨k + 1, by omega, by go_num, HNx, HBx⟩)
            case measure => simp [Go.RowKit.intOf]; omega
          · obtain rfl : k = n1 := by omega
            have HBl := Lib.hid (HB3.out.trans (HB4.out.mono HB3.out.size))
            have HS4 := Lib.hid (HS3.out.below HB4.out HS3.out.lt)
            have f4 : wr.cell? ⟨w.heap.size, 0, none⟩ = some (.iface 37 (.pointer (some ⟨d, 0, none⟩))) := HS4.out.cell 0
            have HE4 := Lib.hid (HEr.out wr HBl.out)
            have HG := Lib.hid HB3.out.size
            have HFs : Hid (RetLd w (loadR L cur p) (.returned (.tuple #[.slice (some ⟨w3.heap.size, 0, none⟩) k k, .int .i64 (rest : Int), .int .i64 0])) wr) := Lib.hid (by
              rw [HR2.out]
              refine ⟨w3.heap.size, ?_, ?_, HG.out, HBl.out⟩
              · simp
              · have h1 := HBk.out
                rw [ldL_end] at h1
                exact h1)
            clear HBk HB4 hlt hk
            go_wp2_with (go_at_call 361; refine HE4.out.mono ?_; rintro e w5 ⟨rfl, rfl⟩)
            go_ret3
            exact HFs.out
end
end Go.Proofs.YtpihhlbfpbngaaaGreatDoor
