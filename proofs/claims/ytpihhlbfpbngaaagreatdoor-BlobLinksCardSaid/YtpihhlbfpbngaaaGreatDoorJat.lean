/- The walks and laws that the claim leans on, part 20. -/
import Derived.Test.YtpihhlbfpbngaaaGreatDoorJas
namespace Go.Proofs.YtpihhlbfpbngaaaGreatDoor
open Go.RowKit
set_option maxRecDepth 100000 in
set_option maxHeartbeats 2000000 in
theorem bsize_any (n : Nat) (hn : n ≤ 100000) (w : World) (hp : Pay w) : Calls Tryz.prog 70 #[.int .i64 (n : Int)] w fun e w' => e = .returned (.int .i64 (bSize n : Int)) ∧ w = w' := by
  by_cases h : 456 < n
  · have hb : bSize n = 60 := by unfold bSize; rw [if_pos h]
    have d1 : decide ((456 : Int) < (n : Int)) = true := decide_eq_true (by omega)
    have d2 : (456 : Int) < (n : Int) := by omega
    rw [hb]
    clear hb
    go_enter Tryz.func70, Tryz.ntmps70
    go_wp2
    go_ret
    exact ⟨rfl, rfl⟩
  · have hb : bSize n = payW (clsOf (3 + (n + 7) / 8)) := by unfold bSize; rw [if_neg h]
    have d1 : decide ((456 : Int) < (n : Int)) = false := decide_eq_false (by omega)
    have HC := Lib.hid (class_any (3 + (n + 7) / 8) (by omega) (by omega) w hp)
    have HW := Lib.hid (szWords_any (clsOf (3 + (n + 7) / 8)) (clsOf_lt _) w hp)
    obtain ⟨c, hc⟩ : ∃ c, 3 + (n + 7) / 8 = c := ⟨_, rfl⟩
    have v1 : (3 : Int) + ((n : Int) + 8 - 1) / 8 = (c : Int) := by omega
    have v2 : wrap64 (3 + ((n : Int) + 8 - 1) / 8) = (c : Int) := by rw [v1]; exact IntWalk.wrap64_in _ (by omega)
    rw [hc] at HC HW hb
    rw [hb]
    clear hb hc
    go_enter Tryz.func70, Tryz.ntmps70
    go_wp2_with (first
      | (go_at_call 151; refine HC.out.mono ?_; rintro e w1 ⟨rfl, rfl⟩)
      | (go_at_call 147; refine HW.out.mono ?_; rintro e w1 ⟨rfl, rfl⟩))
    go_ret
    exact ⟨rfl, rfl⟩
def uA (l : List Nat) : Array Value := (uCells l).toArray
theorem uA_at {l : List Nat} {i : Nat} (h : i < l.length) : (uA l)[i]? = some (.int .u64 (l[i] : Int)) := by
  unfold uA uCells
  simp [h]
theorem uA_set {l : List Nat} {i v : Nat} : (uA l).setIfInBounds i (.int .u64 (v : Int)) = uA (l.set i v) := by
  unfold uA uCells
  simp [List.map_set]
theorem uA_reads {w : World} {g : Nat} {l : List Nat} (h : Blk w g 26 (uA l)) : Reads w w.heap.size 1 (some ⟨g, 0, none⟩) l.length (uCells l) :=
  reads_of_blk h (by simp [uCells]) (fun j u hu => by unfold uA; simpa using hu)
def RetSeal (w : World) (g : Nat) (l : List Nat) (e : Ending) (w' : World) : Prop := e = .returned (.tuple #[]) ∧ Blk w' g 26 (uA (l.take (l.length - 1) ++ [sumW (l.take (l.length - 1))])) ∧ Chg (fun k => k = g) w w'
set_option maxRecDepth 100000 in
set_option maxHeartbeats 2000000 in
theorem seal_blob (g n c : Nat) (l : List Nat) (w : World) (h : Blk w g 26 (uA l)) (hl : l.length = n) (h1 : 1 ≤ n) (hn : n ≤ 1000) (hc : n ≤ c) (_hc2 : c ≤ 100000) (hx : ∀ x ∈ l, x < 18446744073709551616) (ht : Tab w) :
    Calls Tryz.prog 85 #[.slice (some ⟨g, 0, none⟩) n c] w (RetSeal w g l) := by
  obtain ⟨j, rfl⟩ : ∃ j, n = j + 1 := ⟨n - 1, by omega⟩
  have hR := uA_reads h
  rw [hl] at hR
  have hS := reads_sub hR (k := 0) (m := j) (by omega) (by omega) (by omega)
  rw [List.drop_zero, Nat.add_zero, Nat.sub_zero] at hS
  have HW := Lib.hid (wordsX_any (some ⟨g, 0, none⟩) j c w.heap.size (l.take j) w hS (fun x hx' => hx x (List.mem_of_mem_take hx')) (by omega) ht)
  have e1 : l.length - 1 = j := by omega
  have hv : sumW (l.take j) < 18446744073709551616 := by have := sumW_lt (l.take j); omega
  have HF : Hid (RetSeal w g l (.returned (.tuple #[])) (w.setCell ⟨g, j, none⟩ (.int .u64 (sumW (l.take j) : Int)))) := Lib.hid (by
    refine ⟨rfl, ?_, (Chg.refl (fun k => k = g) w).setCell (p := ⟨g, j, none⟩) (.inl rfl) _⟩
    have h2 := h.set_ j (.int .u64 (sumW (l.take j) : Int))
    rw [uA_set] at h2
    rw [e1]
    have e2 : l.set j (sumW (l.take j)) = l.take j ++ [sumW (l.take j)] := by
      apply List.ext_getElem
      · simp; omega
      · intro i h1 h2
        rw [List.getElem_set]
        by_cases e : j = i
        · subst e
          rw [if_pos rfl, List.getElem_append_right (by simp; omega)]
          simp
        · rw [if_neg e, List.getElem_append_left (by simp at h1 ⊢; omega)]
          simp
    rw [← e2]
    exact h2)
  have w1 : wrap64 (((j + 1 : Nat) : Int) - 1) = (j : Int) := by rw [IntWalk.wrap64_in _ (by omega)]; omega
  have w2 : ((j + 1 : Nat) : Int) - 1 = (j : Int) := by omega
  have w3 : (j : Int) < ((j + 1 : Nat) : Int) := by omega
  have w4 : (0 : Int) ≤ (j : Int) := by omega
  have w5 : (j : Int) ≤ (c : Int) := by omega
  have z1 : w.frozen? ⟨g, j, none⟩ = false := h.frozen _
  have q1 : w.cell? ⟨g, j, none⟩ = some (.int .u64 (l[j] : Int)) := by rw [h.cell]; exact uA_at (by omega)
  generalize l[j] = lj at *
  generalize sumW (l.take j) = sm at *
  have hsm : sm < 4294967296 ∨ 4294967296 ≤ sm := by omega
  generalize hN : j + 1 = n at *
  clear h hR hS hl hN e1
  go_enter Tryz.func85, Tryz.ntmps85
  go_wp2_with (go_at_call 34; refine HW.out.mono ?_; rintro e w1 ⟨rfl, rfl⟩)
  go_end0
  exact HF.out
end Go.Proofs.YtpihhlbfpbngaaaGreatDoor
namespace Go.Proofs.YtpihhlbfpbngaaaGreatDoor
open Go.RowKit
def RetBpt (w : World) (l : List Nat) (rest : Nat) (e : Ending) (w' : World) : Prop := if partE l rest = 0 then RetB w (partB l rest) e w' else e = .returned (.tuple #[.slice none 0 0, .int .i64 (partE l rest : Int)]) ∧ Below w.heap.size w w'
set_option maxRecDepth 100000 in
set_option maxHeartbeats 4000000 in
theorem part_any (A : Option Addr) (n c rest : Nat) (l : List Nat) (w : World) (h : Reads w w.heap.size 1 A n (uCells l)) (hx : ∀ x ∈ l, x < 18446744073709551616) (ht : Tab w) (hn : n ≤ 60) (hc : n ≤ c) (_hc2 : c ≤ 1000) (hu : usedW rest < n) (hr : rest ≤ 2000) :
    Calls Tryz.prog 142 #[.slice A n c, .int .i64 (rest : Int)] w (RetBpt w l rest) := by
  have hl0 : l.length = n := by have := h.1; simp [uCells] at this; omega
  obtain ⟨j, hj⟩ : ∃ j, n = j + 1 := ⟨n - 1, by omega⟩
  subst hj
  obtain ⟨hlj, b, off, hA, hbB, f0⟩ := u_facts h (k := j) (by omega)
  subst hA
  obtain ⟨hlz, b', off', hA', _, g0⟩ := u_facts h (k := 0) (by omega)
  injection hA' with hA'
  injection hA' with h1 h2
  subst h1 h2
  rw [Nat.add_zero] at g0
  have hS := reads_sub h (k := 0) (m := j) (by omega) (by omega) (by omega)
  rw [List.drop_zero, Nat.add_zero, Nat.sub_zero] at hS
  have hxs : ∀ x ∈ l.take j, x < 18446744073709551616 := fun x hx' => hx x (List.mem_of_mem_take hx')
  have HWd := Lib.hid (wordsX_any (some ⟨b, off, none⟩) j c w.heap.size (l.take j) w.drew hS hxs (by omega) ht)
  have hsl := sumW_lt (l.take j)
  have HE : Hid (partE l rest = if l[j] ≠ sumW (l.take j) then 10 else if decide (456 < rest) ≠ decide (l[0] ≠ 0) then 11 else if ((l.take j).drop (usedW rest)).any (fun x => decide (x ≠ 0)) = true then 11 else if unpBad ((l.take (usedW rest)).drop 2) (min rest 456) = true then 11 else 0) := Lib.hid (by
    unfold partE
    have e1 : l.getD (l.length - 1) 0 = l[j] := by rw [hl0, Nat.add_sub_cancel, List.getD_eq_getElem?_getD, List.getElem?_eq_getElem hlj]; rfl
    have e2 : l.getD 0 0 = l[0] := by rw [List.getD_eq_getElem?_getD, List.getElem?_eq_getElem hlz]; rfl
    rw [e1, e2, hl0, Nat.add_sub_cancel])
  have HX := Lib.hid hx
  have HH := Lib.hid h
  have hxj := hx _ (List.getElem_mem hlj)
  have hx0 := hx _ (List.getElem_mem hlz)
  have HL := Lib.hid hl0
  clear h hx hS hxs hl0
  generalize l[j] = xj at *
  generalize l[0] = x0 at *
  generalize hsm : sumW (l.take j) = sm at *
  have HSm := Lib.hid hsm
  clear hsm
  have w1 : wrap64 (((j + 1 : Nat) : Int) - 1) = (j : Int) := by rw [IntWalk.wrap64_in _ (by omega)]; omega
  have w2 : ((j + 1 : Nat) : Int) - 1 = (j : Int) := by omega
  have w3 : (j : Int) < ((j + 1 : Nat) : Int) := by omega
  have w4 : (0 : Int) ≤ (j : Int) := by omega
  have w5 : (j : Int) ≤ (c : Int) := by omega
  have w6 : (0 : Int) < ((j + 1 : Nat) : Int) := by omega
  have w7 : ((0 : Nat) : Int) < ((j + 1 : Nat) : Int) := by omega
  generalize hN : j + 1 = n at *
  have HN := Lib.hid hN
  clear hN
  go_enter Tryz.func142, Tryz.ntmps142
  go_upto_region 2 with fail
  refine wp_region_scriptH (fun w' => w' = w.drew) 9 [] [(1, 0), (1, 1), (1, 2), (1, 3), (1, 4), (1, 5), (1, 6), (0, 7), (0, 8)] (by kernel_rfl) (by kernel_rfl) rfl ?_
  refine wpScriptH_take (.slice (some ⟨b, off, none⟩) n c) (by rfl) (by rfl) (fun w' hS => ?_) ?_
  · go_simp
  simp only [zA, zB, Act.put, zD, zE, zF]
  refine wpScriptH_take (.int .i64 (j : Int)) (by rfl) (by rfl) (fun w' hS => ?_) ?_
  · go_simp
  simp only [zA, zB, zC, Act.put, zD, zE, zF]
  refine wpScriptH_take (.pointer (some ⟨b, off + j, none⟩)) (by rfl) (by rfl) (fun w' hS => ?_) ?_
  · go_simp
  simp only [zA, zB, zC, Act.put, zD, zE, zF]
  refine wpScriptH_take (.int .u64 (xj : Int)) (by rfl) (by rfl) (fun w' hS => ?_) ?_
  · subst hS
    go_simp
  simp only [zA, zB, zC, Act.put, zD, zE, zF]
  refine wpScriptH_take (.slice (some ⟨b, off, none⟩) n c) (by rfl) (by rfl) (fun w' hS => ?_) ?_
  · go_simp
  simp only [zA, zB, zC, Act.put, zD, zE, zF]
  refine wpScriptH_take (.int .i64 (j : Int)) (by rfl) (by rfl) (fun w' hS => ?_) ?_
  · go_simp
  simp only [zA, zB, zC, Act.put, zD, zE, zF]
  refine wpScriptH_take (.slice (some ⟨b, off, none⟩) j c) (by rfl) (by rfl) (fun w' hS => ?_) ?_
  · go_simp
  simp only [zA, zB, zC, Act.put, zD, zE, zF]
  refine wpScriptH_do (by rfl) ?_
  go_wp2_with (go_at_call 34; refine HWd.out.mono ?_; rintro e w1 ⟨rfl, rfl⟩)
  refine ⟨rfl, ?_⟩
  refine wpScriptH_do (by rfl) ?_
  go_wp2_with fail
  refine ⟨rfl, ?_⟩
  show wpList _ _ _ _ _ _
  simp only [List.drop_succ_cons, List.drop_zero]
  clear HWd
  by_cases c1 : xj = sm
  · have d1 : ((xj : Int) != (sm : Int)) = false := by rw [bne, beq_iff_eq.2 (by omega)]; rfl
    have HC1 := Lib.hid c1
    clear c1
    by_cases c2 : decide (456 < rest) = decide (x0 ≠ 0)
    · have d2 : (decide ((456 : Int) < (rest : Int)) == ((x0 : Int) != 0)) = true := by
        have e1 : decide ((456 : Int) < (rest : Int)) = decide (456 < rest) := by
          by_cases h : 456 < rest
          · rw [decide_eq_true h, decide_eq_true (by omega)]
          · rw [decide_eq_false h, decide_eq_false (by omega)]
        have e2 : ((x0 : Int) != 0) = decide (x0 ≠ 0) := by
          by_cases h : x0 = 0
          · subst h; rfl
          · rw [decide_eq_true h, bne, beq_eq_false_iff_ne.2 (by omega)]; rfl
        rw [e1, e2, c2]; exact beq_self_eq_true _
      have HC2 := Lib.hid c2
      clear c2
      obtain ⟨nn, hnn⟩ : ∃ nn, min rest 456 = nn := ⟨_, rfl⟩
      have m1 : min (rest : Int) 456 = (nn : Int) := by omega
      obtain ⟨u9, hu9⟩ : ∃ u9, usedW rest = u9 := ⟨_, rfl⟩
      have hu1 : u9 = 2 + (nn + 7) / 8 := by rw [← hu9, ← hnn]; rfl
      have hnn4 : nn ≤ 456 := by omega
      have hnn0 : (0 : Int) ≤ (nn : Int) := by omega
      have v1 : (2 : Int) + ((nn : Int) + 8 - 1) / 8 = (u9 : Int) := by omega
      have v2 : wrap64 (2 + ((nn : Int) + 8 - 1) / 8) = (u9 : Int) := by rw [v1]; exact IntWalk.wrap64_in _ (by omega)
      have hu7 : u9 ≤ j := by omega
      have v3 : (u9 : Int) ≤ (j : Int) := by omega
      have HU9 := Lib.hid hu9
      have HNN := Lib.hid hnn
      have HU1 := Lib.hid hu1
      clear hu9 hu1 m1
      go_wp2_with fail
      refine NoPanic.normal ?_
      go_upto_region 4 with fail
      go_upto_region 6 with fail
      go_cut [7] from 31 to 32 (fun x wx => x = .int .i64 (nn : Int) ∧ Hid (wx = w.drew))
      case first =>
        rcases Nat.lt_or_ge 456 rest with hc4 | hc4
        · have hn4 : nn = 456 := by omega
          subst hn4
          have k1 : decide ((456 : Int) < (rest : Int)) = true := decide_eq_true (by omega)
          have k2 : decide ((rest : Int) < 456) = false := decide_eq_false (by omega)
          have k3 : (456 : Int) ≤ (rest : Int) := by omega
          clear hnn
          go_wp2_with fail
          go_meet
          exact ⟨rfl, Lib.hid rfl⟩
        · have hn4 : rest = nn := by omega
          subst hn4
          have k1 : decide ((456 : Int) < (rest : Int)) = false := decide_eq_false (by omega)
          have k3 : (rest : Int) ≤ 456 := by omega
          clear hnn
          go_wp2_with fail
          go_meet
          exact ⟨rfl, Lib.hid rfl⟩
      case rest =>
        obtain ⟨rfl, hwc⟩ := hcut
        have hw := hwc.out
        subst hw
        clear hwc
        go_upto_region 7 with fail
        go_cut [8] from 33 to 37 (fun y wx => y = .int .i64 (u9 : Int) ∧ Hid (wx = w.drew))
        case first =>
          go_wp2_with fail
          go_meet
          exact ⟨rfl, Lib.hid rfl⟩
        case rest =>
          obtain ⟨rfl, hwc⟩ := hcut
          have hw := hwc.out
          subst hw
          clear hwc v1 v2
          go_wp2
          go_loopw [43] (fun i wr => ∃ k : Nat, k ≤ j - u9 ∧ i = .int .i64 (k : Int) ∧ Hid (((((l.take j).drop u9).take k).any fun x => decide (x ≠ 0)) = false) ∧ Hid (w.drew = wr)) (fun i _ => (j - u9) - (Go.RowKit.intOf i).toNat)
          case atStart => exact ⟨0, Nat.zero_le _, rfl, Lib.hid (by simp), Lib.hid rfl⟩
          case round =>
            obtain ⟨k, hk, rfl, HA, hwr⟩ := hrel
            have hw := hwr.out
            subst hw
            by_cases hlt : k < j - u9
            · obtain ⟨hlk, b2, off2, hA2, _, fk⟩ := u_facts HH.out (k := u9 + k) (by have := HN.out; omega)
              injection hA2 with hA2
              injection hA2 with h1 h2
              subst h1 h2
              have hel : ((l.take j).drop u9)[k]? = some l[u9 + k] := by rw [List.getElem?_drop, List.getElem?_take_of_lt (by omega), List.getElem?_eq_getElem hlk]
              have HT : Hid (((l.take j).drop u9).take (k + 1) = ((l.take j).drop u9).take k ++ [l[u9 + k]]) := Lib.hid (by rw [List.take_add_one, hel]; rfl)
              have HEl := Lib.hid hel
              have hxk := HX.out _ (List.getElem_mem hlk)
              rw [← Nat.add_assoc] at fk
              generalize l[u9 + k] = xk at *
              have hz5 : (0 : Int) ≤ (k : Int) := by omega
              have hz6 : (k : Int) < ((j - u9 : Nat) : Int) := by omega
              have hz7 : (k : Int) < (j : Int) - (u9 : Int) := by omega
              clear hel
              by_cases hx0 : xk = 0
              · have d3 : ((xk : Int) != 0) = false := by rw [bne, beq_iff_eq.2 (by omega)]; rfl
                have HA2 : Hid (((((l.take j).drop u9).take (k + 1)).any fun x => decide (x ≠ 0)) = false) := Lib.hid (by rw [HT.out, List.any_append, HA.out]; simp [hx0])
                clear hx0 HT HEl
                go_wp2
                go_roundw
                case rel =>
                  first
                    | exact ⟨k + 1, by omega, by go_num, HA2, Lib.hid True.intro⟩
                    | exact ⟨k + 1, by omega, by go_num, HA2, Lib.hid rfl⟩
                    | (repeat apply Exists.intro
                       refine ⟨?_, rfl⟩
                       exact ⟨k + 1, by omega, by go_num, HA2, Lib.hid rfl⟩)
                case measure => simp [Go.RowKit.intOf]; omega
              · have d3 : ((xk : Int) != 0) = true := by rw [bne, beq_eq_false_iff_ne.2 (by omega)]; rfl
                have hE : Hid (partE l rest = 11) := Lib.hid (by
                  rw [HE.out, if_neg (fun h => h HC1.out), if_neg (fun h => h HC2.out), if_pos]
                  rw [HU9.out, List.any_eq_true]
                  exact ⟨xk, List.mem_of_getElem? HEl.out, by simp [hx0]⟩)
                clear hx0 HT HEl
                go_wp2
                go_ret2
                unfold RetBpt
                rw [hE.out, if_neg (by omega)]
                exact ⟨rfl, (Below.refl _ _).drew⟩
            · have hA3 : Hid ((((l.take j).drop (usedW rest)).any fun x => decide (x ≠ 0)) = false) := Lib.hid (by
                have h := HA.out
                rw [List.take_of_length_le (by rw [List.length_drop, List.length_take]; omega)] at h
                rw [HU9.out]
                exact h)
              have hS2 := reads_sub HH.out (k := 2) (m := u9) (by have := HU1.out; omega) (by have := HN.out; omega) (by omega)
              have HUp := Lib.hid (unpack_any (some ⟨b, off + 2, none⟩) (u9 - 2) (c - 2) nn ((l.take u9).drop 2) w.drew ((hS2.below (Below.refl _ _).drew)) (fun x hx => HX.out x (List.mem_of_mem_take (List.mem_of_mem_drop hx))) (by omega) (by have := HU1.out; omega))
              have hu2 : 2 ≤ u9 := by have := HU1.out; omega
              have v4 : (2 : Int) ≤ (u9 : Int) := by omega
              have v5 : (u9 : Int) ≤ (c : Int) := by omega
              have hd1 : decide ((k : Int) < ((j - u9 : Nat) : Int)) = false := decide_eq_false (by omega)
              have hd2 : decide (k < j - u9) = false := decide_eq_false hlt
              have hd3 : decide ((k : Int) < (j : Int) - (u9 : Int)) = false := decide_eq_false (by omega)
              have hpE : Hid (partE l rest = if unpBad ((l.take u9).drop 2) nn = true then 11 else 0) := Lib.hid (by
                rw [HE.out, if_neg (fun h => h HC1.out), if_neg (fun h => h HC2.out), if_neg (by rw [hA3.out]; simp), HU9.out, HNN.out])
              have hpB : Hid (partB l rest = unpB ((l.take u9).drop 2) nn) := Lib.hid (by unfold partB; rw [HU9.out, HNN.out])
              clear hS2 hlt hA3 hk HE HA
              generalize (l.take u9).drop 2 = xs at *
              by_cases hub : unpBad xs nn = true
              · have HU2 : Hid (Calls Tryz.prog 236 #[.slice (some ⟨b, off + 2, none⟩) (u9 - 2) (c - 2), .int .i64 (nn : Int)] w.drew fun e w' => e = .returned (.tuple #[.slice none 0 0, .int .i64 11]) ∧ Below w.heap.size w w') := Lib.hid (HUp.out.mono (fun e w' h => by unfold RetUnp at h; rw [if_pos hub] at h; exact ⟨h.1, (Below.refl _ _).drew.trans h.2⟩))
                have hE : Hid (partE l rest = 11) := Lib.hid (by rw [hpE.out, if_pos hub])
                clear HUp hub
                go_wp2_with (go_at_call 236; refine HU2.out.mono ?_; rintro e w2 ⟨rfl, hb2⟩; have HB2 := Lib.hid hb2; clear hb2)
                go_ret2
                unfold RetBpt
                rw [hE.out, if_neg (by omega)]
                exact ⟨rfl, HB2.out⟩
              · have HU2 : Hid (Calls Tryz.prog 236 #[.slice (some ⟨b, off + 2, none⟩) (u9 - 2) (c - 2), .int .i64 (nn : Int)] w.drew (RetB w.drew (unpB xs nn))) := Lib.hid (HUp.out.mono (fun e w' h => by unfold RetUnp at h; rw [if_neg hub] at h; exact h))
                have hE : Hid (partE l rest = 0) := Lib.hid (by rw [hpE.out, if_neg hub])
                clear HUp hub
                go_wp2_with (go_at_call 236; refine HU2.out.mono ?_; rintro e w2 ⟨A2, m2, c2, rfl, hm2, hr2, hf2, hb2⟩; have HB2 := Lib.hid (show _ ∧ _ ∧ _ ∧ _ from ⟨hm2, hr2, hf2, hb2⟩); clear hm2 hr2 hf2 hb2)
                go_ret2
                unfold RetBpt
                rw [hE.out, if_pos rfl, hpB.out]
                exact ⟨A2, m2, c2, rfl, HB2.out.1, HB2.out.2.1, HB2.out.2.2.1, (Below.refl _ _).drew.trans HB2.out.2.2.2⟩
    · have d2 : (decide ((456 : Int) < (rest : Int)) == ((x0 : Int) != 0)) = false := by
        have e1 : decide ((456 : Int) < (rest : Int)) = decide (456 < rest) := by
          by_cases h : 456 < rest
          · rw [decide_eq_true h, decide_eq_true (by omega)]
          · rw [decide_eq_false h, decide_eq_false (by omega)]
        have e2 : ((x0 : Int) != 0) = decide (x0 ≠ 0) := by
          by_cases h : x0 = 0
          · subst h; rfl
          · rw [decide_eq_true h, bne, beq_eq_false_iff_ne.2 (by omega)]; rfl
        rw [e1, e2]; exact beq_eq_false_iff_ne.2 c2
      have HC2 := Lib.hid c2
      clear c2
      go_wp2
      refine NoPanic.normal ?_
      go_wp2
      go_ret2
      have hE : partE l rest = 11 := by rw [HE.out, if_neg (fun h => h HC1.out), if_pos HC2.out]
      unfold RetBpt
      rw [hE, if_neg (by omega)]
      exact ⟨rfl, (Below.refl _ _).drew⟩
  · have d1 : ((xj : Int) != (sm : Int)) = true := by rw [bne, beq_eq_false_iff_ne.2 (by omega)]; rfl
    have HC1 := Lib.hid c1
    clear c1
    go_wp2
    refine NoPanic.normal ?_
    go_wp2
    go_ret2
    have hE : partE l rest = 10 := by rw [HE.out, if_pos HC1.out]
    unfold RetBpt
    rw [hE, if_neg (by omega)]
    exact ⟨rfl, (Below.refl _ _).drew⟩
end Go.Proofs.YtpihhlbfpbngaaaGreatDoor
