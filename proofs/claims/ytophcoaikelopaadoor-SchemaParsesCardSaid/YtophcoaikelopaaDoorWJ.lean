/- Walks: the reference's UTF8. (printed by genutf.py) -/
import Derived.Test.YtophcoaikelopaaDoorPU
namespace Go.Proofs.YtophcoaikelopaaDoor
open Go.RowKit
open Go.Lib (validD validD_step)

set_option maxRecDepth 100000 in
set_option maxHeartbeats 4000000 in
theorem utf8_any (s : ByteArray) (hs : s.size ≤ 9223372036854775807) (w : World) : Calls Tryd.prog 36 #[.string s] w fun e w' => e = .returned (.bool (validD s.data.toList)) ∧ w = w' := by
  obtain ⟨V, hV⟩ : ∃ V, V = validD s.data.toList := ⟨_, rfl⟩
  rw [← hV]
  have HV := Lib.hid hV
  clear hV
  go_enter Tryd.func36, Tryd.ntmps36
  go_wp2
  go_loop [3] (fun i => ∃ k : Nat, k ≤ s.size ∧ i = .int .i64 k ∧ Hid (V = validD (s.data.toList.drop k))) (fun i => s.size - (intOf i).toNat)
  case atStart => exact ⟨0, Nat.zero_le _, rfl, HV.out⟩
  case round =>
    obtain ⟨k, hk, rfl, HK⟩ := hrel
    by_cases hlt : k < s.size
    · have HL := Lib.hid (show s.data.toList.drop k ≠ [] from fun e => by have := congrArg List.length e; simp at this; omega)
      have HZ := Lib.hid (show (s.data.toList.drop k).length = s.size - k by simp)
      have HG := Lib.hid (fun m (h : k + m < s.size) => gb_drop s k m h)
      generalize hLL : s.data.toList.drop k = L at *
      have HD := Lib.hid hLL
      clear hLL
      have HG0 := Lib.hid (show gb L 0 = s[k].toNat from HG.out 0 (by omega))
      have hb8 : s[k].toNat < 256 := UInt8.toNat_lt _
      go_wp2
      · have HLd : Hid (Lead (gb L 0) 0 (s[k].toNat : Int) 0) := by
          show Lead _ _ _ _
          unfold Lead; rw [HG0.out]; omega
        go_loop [8, 6] (fun j r => ∃ m q : Nat, m ≤ 0 ∧ q = m + 1 ∧ j = .int .i64 q ∧ (∃ x : Int, r = .int .i32 x ∧ Hid (x = bits (s[k].toNat : Int) (gb L) m)) ∧ Hid (∀ q, 1 ≤ q → q ≤ m → 128 ≤ gb L q ∧ gb L q < 192)) (fun j _ => 4 - (intOf j).toNat)
        case atStart => exact ⟨0, 1, Nat.zero_le _, rfl, rfl, ⟨_, rfl, rfl⟩, fun q h1 h2 => absurd h2 (by omega)⟩
        case round =>
          obtain ⟨m, j, hm, hj, rfl, ⟨x, rfl, HX⟩, HC⟩ := hrel
          obtain ⟨hx0, hx1⟩ : 0 ≤ x ∧ x < 128 * 64 ^ m := by rw [HX.out]; exact bits_le _ _ (by omega) (by omega) _ HC.out
          have HJ := Lib.hid hj
          have hj1 : 1 ≤ j := by omega
          have hj2 : j ≤ 0 + 1 := by omega
          by_cases hmn : j ≤ 0
          · omega
          · have hme : m = 0 := by omega
            have HXn : Hid (x = bits (s[k].toNat : Int) (gb L) 0) := show _ = _ by have h := HX.out; rw [hme] at h; exact h
            clear hx1 hj
            go_wp2
            all_goals first | (obtain rfl : V = false := by (rw [HK.out]; exact u_out L HL.out 0 (s[k].toNat : Int) 0 HLd.out (fun q a b => HC.out q a (by omega)) (by unfold OutR; rw [← HXn.out]; omega))); (go_ret; exact ⟨rfl, rfl⟩) | skip
            all_goals
              go_round
              case rel => exact ⟨k + 1, by omega, by go_num, show _ = _ by rw [HK.out, ← List.drop_drop, HD.out]; exact u_good L HL.out 0 (s[k].toNat : Int) 0 HLd.out (by rw [HZ.out]; omega) (fun q a b => HC.out q a (by omega)) (by unfold OutR; rw [← HXn.out]; omega)⟩
              case measure => simp [intOf]; omega
      · obtain rfl : V = false := by
          rw [HK.out]; exact u_short L HL.out 1 ((s[k].toNat : Int) - 192) 128 (by unfold Lead; rw [HG0.out]; omega) (by rw [HZ.out]; omega)
        go_ret
        exact ⟨rfl, rfl⟩
      · have HLd : Hid (Lead (gb L 0) 1 ((s[k].toNat : Int) - 192) 128) := by
          show Lead _ _ _ _
          unfold Lead; rw [HG0.out]; omega
        go_loop [8, 6] (fun j r => ∃ m q : Nat, m ≤ 1 ∧ q = m + 1 ∧ j = .int .i64 q ∧ (∃ x : Int, r = .int .i32 x ∧ Hid (x = bits ((s[k].toNat : Int) - 192) (gb L) m)) ∧ Hid (∀ q, 1 ≤ q → q ≤ m → 128 ≤ gb L q ∧ gb L q < 192)) (fun j _ => 4 - (intOf j).toNat)
        case atStart => exact ⟨0, 1, Nat.zero_le _, rfl, rfl, ⟨_, rfl, rfl⟩, fun q h1 h2 => absurd h2 (by omega)⟩
        case round =>
          obtain ⟨m, j, hm, hj, rfl, ⟨x, rfl, HX⟩, HC⟩ := hrel
          obtain ⟨hx0, hx1⟩ : 0 ≤ x ∧ x < 128 * 64 ^ m := by rw [HX.out]; exact bits_le _ _ (by omega) (by omega) _ HC.out
          have HJ := Lib.hid hj
          have hj1 : 1 ≤ j := by omega
          have hj2 : j ≤ 1 + 1 := by omega
          by_cases hmn : j ≤ 1
          · have hx2 : x < 524288 := by
              have : m = 0 ∨ m = 1 ∨ m = 2 := by omega
              rcases this with rfl | rfl | rfl <;> omega
            have hkm : k + j < s.size := by omega
            have HGm := Lib.hid (HG.out j hkm)
            have hb9 : s[k + j].toNat < 256 := UInt8.toNat_lt _
            have hkj : (k : Int) + (j : Int) < s.size := by omega
            clear hx1 hj hm
            go_wp2
            all_goals first | (obtain rfl : V = false := by (rw [HK.out]; exact u_cont L HL.out 1 ((s[k].toNat : Int) - 192) 128 HLd.out j (by omega) (by omega) (by rw [HGm.out]; omega))); (go_ret; exact ⟨rfl, rfl⟩) | skip
            go_round
            case rel => exact ⟨m + 1, j + 1, by have := HJ.out; omega, by have := HJ.out; omega, by go_num, ⟨_, rfl, show _ = _ by rw [HX.out, ← HGm.out, HJ.out]; rfl⟩, fun q h1 h2 => by
              have hj := HJ.out
              by_cases h : q = j
              · subst h; rw [HGm.out]; omega
              · exact HC.out q h1 (by omega)⟩
            case measure => simp [intOf]; omega
          · have hme : m = 1 := by omega
            have HXn : Hid (x = bits ((s[k].toNat : Int) - 192) (gb L) 1) := show _ = _ by have h := HX.out; rw [hme] at h; exact h
            clear hx1 hj
            go_wp2
            all_goals first | (obtain rfl : V = false := by (rw [HK.out]; exact u_out L HL.out 1 ((s[k].toNat : Int) - 192) 128 HLd.out (fun q a b => HC.out q a (by omega)) (by unfold OutR; rw [← HXn.out]; omega))); (go_ret; exact ⟨rfl, rfl⟩) | skip
            all_goals
              go_round
              case rel => exact ⟨k + 2, by omega, by go_num, show _ = _ by rw [HK.out, ← List.drop_drop, HD.out]; exact u_good L HL.out 1 ((s[k].toNat : Int) - 192) 128 HLd.out (by rw [HZ.out]; omega) (fun q a b => HC.out q a (by omega)) (by unfold OutR; rw [← HXn.out]; omega)⟩
              case measure => simp [intOf]; omega
      · obtain rfl : V = false := by
          rw [HK.out]; exact u_short L HL.out 2 ((s[k].toNat : Int) - 224) 2048 (by unfold Lead; rw [HG0.out]; omega) (by rw [HZ.out]; omega)
        go_ret
        exact ⟨rfl, rfl⟩
      · have HLd : Hid (Lead (gb L 0) 2 ((s[k].toNat : Int) - 224) 2048) := by
          show Lead _ _ _ _
          unfold Lead; rw [HG0.out]; omega
        go_loop [8, 6] (fun j r => ∃ m q : Nat, m ≤ 2 ∧ q = m + 1 ∧ j = .int .i64 q ∧ (∃ x : Int, r = .int .i32 x ∧ Hid (x = bits ((s[k].toNat : Int) - 224) (gb L) m)) ∧ Hid (∀ q, 1 ≤ q → q ≤ m → 128 ≤ gb L q ∧ gb L q < 192)) (fun j _ => 4 - (intOf j).toNat)
        case atStart => exact ⟨0, 1, Nat.zero_le _, rfl, rfl, ⟨_, rfl, rfl⟩, fun q h1 h2 => absurd h2 (by omega)⟩
        case round =>
          obtain ⟨m, j, hm, hj, rfl, ⟨x, rfl, HX⟩, HC⟩ := hrel
          obtain ⟨hx0, hx1⟩ : 0 ≤ x ∧ x < 128 * 64 ^ m := by rw [HX.out]; exact bits_le _ _ (by omega) (by omega) _ HC.out
          have HJ := Lib.hid hj
          have hj1 : 1 ≤ j := by omega
          have hj2 : j ≤ 2 + 1 := by omega
          by_cases hmn : j ≤ 2
          · have hx2 : x < 524288 := by
              have : m = 0 ∨ m = 1 ∨ m = 2 := by omega
              rcases this with rfl | rfl | rfl <;> omega
            have hkm : k + j < s.size := by omega
            have HGm := Lib.hid (HG.out j hkm)
            have hb9 : s[k + j].toNat < 256 := UInt8.toNat_lt _
            have hkj : (k : Int) + (j : Int) < s.size := by omega
            clear hx1 hj hm
            go_wp2
            all_goals first | (obtain rfl : V = false := by (rw [HK.out]; exact u_cont L HL.out 2 ((s[k].toNat : Int) - 224) 2048 HLd.out j (by omega) (by omega) (by rw [HGm.out]; omega))); (go_ret; exact ⟨rfl, rfl⟩) | skip
            go_round
            case rel => exact ⟨m + 1, j + 1, by have := HJ.out; omega, by have := HJ.out; omega, by go_num, ⟨_, rfl, show _ = _ by rw [HX.out, ← HGm.out, HJ.out]; rfl⟩, fun q h1 h2 => by
              have hj := HJ.out
              by_cases h : q = j
              · subst h; rw [HGm.out]; omega
              · exact HC.out q h1 (by omega)⟩
            case measure => simp [intOf]; omega
          · have hme : m = 2 := by omega
            have HXn : Hid (x = bits ((s[k].toNat : Int) - 224) (gb L) 2) := show _ = _ by have h := HX.out; rw [hme] at h; exact h
            clear hx1 hj
            go_wp2
            all_goals first | (obtain rfl : V = false := by (rw [HK.out]; exact u_out L HL.out 2 ((s[k].toNat : Int) - 224) 2048 HLd.out (fun q a b => HC.out q a (by omega)) (by unfold OutR; rw [← HXn.out]; omega))); (go_ret; exact ⟨rfl, rfl⟩) | skip
            all_goals
              go_round
              case rel => exact ⟨k + 3, by omega, by go_num, show _ = _ by rw [HK.out, ← List.drop_drop, HD.out]; exact u_good L HL.out 2 ((s[k].toNat : Int) - 224) 2048 HLd.out (by rw [HZ.out]; omega) (fun q a b => HC.out q a (by omega)) (by unfold OutR; rw [← HXn.out]; omega)⟩
              case measure => simp [intOf]; omega
      · obtain rfl : V = false := by
          rw [HK.out]; exact u_short L HL.out 3 ((s[k].toNat : Int) - 240) 65536 (by unfold Lead; rw [HG0.out]; omega) (by rw [HZ.out]; omega)
        go_ret
        exact ⟨rfl, rfl⟩
      · have HLd : Hid (Lead (gb L 0) 3 ((s[k].toNat : Int) - 240) 65536) := by
          show Lead _ _ _ _
          unfold Lead; rw [HG0.out]; omega
        go_loop [8, 6] (fun j r => ∃ m q : Nat, m ≤ 3 ∧ q = m + 1 ∧ j = .int .i64 q ∧ (∃ x : Int, r = .int .i32 x ∧ Hid (x = bits ((s[k].toNat : Int) - 240) (gb L) m)) ∧ Hid (∀ q, 1 ≤ q → q ≤ m → 128 ≤ gb L q ∧ gb L q < 192)) (fun j _ => 4 - (intOf j).toNat)
        case atStart => exact ⟨0, 1, Nat.zero_le _, rfl, rfl, ⟨_, rfl, rfl⟩, fun q h1 h2 => absurd h2 (by omega)⟩
        case round =>
          obtain ⟨m, j, hm, hj, rfl, ⟨x, rfl, HX⟩, HC⟩ := hrel
          obtain ⟨hx0, hx1⟩ : 0 ≤ x ∧ x < 128 * 64 ^ m := by rw [HX.out]; exact bits_le _ _ (by omega) (by omega) _ HC.out
          have HJ := Lib.hid hj
          have hj1 : 1 ≤ j := by omega
          have hj2 : j ≤ 3 + 1 := by omega
          by_cases hmn : j ≤ 3
          · have hx2 : x < 524288 := by
              have : m = 0 ∨ m = 1 ∨ m = 2 := by omega
              rcases this with rfl | rfl | rfl <;> omega
            have hkm : k + j < s.size := by omega
            have HGm := Lib.hid (HG.out j hkm)
            have hb9 : s[k + j].toNat < 256 := UInt8.toNat_lt _
            have hkj : (k : Int) + (j : Int) < s.size := by omega
            clear hx1 hj hm
            go_wp2
            all_goals first | (obtain rfl : V = false := by (rw [HK.out]; exact u_cont L HL.out 3 ((s[k].toNat : Int) - 240) 65536 HLd.out j (by omega) (by omega) (by rw [HGm.out]; omega))); (go_ret; exact ⟨rfl, rfl⟩) | skip
            go_round
            case rel => exact ⟨m + 1, j + 1, by have := HJ.out; omega, by have := HJ.out; omega, by go_num, ⟨_, rfl, show _ = _ by rw [HX.out, ← HGm.out, HJ.out]; rfl⟩, fun q h1 h2 => by
              have hj := HJ.out
              by_cases h : q = j
              · subst h; rw [HGm.out]; omega
              · exact HC.out q h1 (by omega)⟩
            case measure => simp [intOf]; omega
          · have hme : m = 3 := by omega
            have HXn : Hid (x = bits ((s[k].toNat : Int) - 240) (gb L) 3) := show _ = _ by have h := HX.out; rw [hme] at h; exact h
            clear hx1 hj
            go_wp2
            all_goals first | (obtain rfl : V = false := by (rw [HK.out]; exact u_out L HL.out 3 ((s[k].toNat : Int) - 240) 65536 HLd.out (fun q a b => HC.out q a (by omega)) (by unfold OutR; rw [← HXn.out]; omega))); (go_ret; exact ⟨rfl, rfl⟩) | skip
            all_goals
              go_round
              case rel => exact ⟨k + 4, by omega, by go_num, show _ = _ by rw [HK.out, ← List.drop_drop, HD.out]; exact u_good L HL.out 3 ((s[k].toNat : Int) - 240) 65536 HLd.out (by rw [HZ.out]; omega) (fun q a b => HC.out q a (by omega)) (by unfold OutR; rw [← HXn.out]; omega)⟩
              case measure => simp [intOf]; omega
      · obtain rfl : V = false := by
          rw [HK.out]; exact u_no L HL.out (by rw [HG0.out]; omega)
        go_ret
        exact ⟨rfl, rfl⟩
      · obtain rfl : V = false := by
          rw [HK.out]; exact u_no L HL.out (by rw [HG0.out]; omega)
        go_ret
        exact ⟨rfl, rfl⟩
    · obtain rfl : k = s.size := by omega
      obtain rfl : V = true := by rw [HK.out, List.drop_of_length_le (by simp)]; rfl
      go_wp2
      go_ret
      exact ⟨rfl, rfl⟩
end Go.Proofs.YtophcoaikelopaaDoor
