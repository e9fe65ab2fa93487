/- Walks: names and reserved words. -/
import Derived.Test.YtophcoaikelopaaDoorApp
namespace Go.Proofs.YtophcoaikelopaaDoor
open Go.RowKit

def letU (c : UInt8) : Bool := decide ((65 ≤ (c.toNat : Int) ∧ (c.toNat : Int) ≤ 90) ∨ (97 ≤ (c.toNat : Int) ∧ (c.toNat : Int) ≤ 122))
def chU (c : UInt8) : Bool := letU c || decide ((c.toNat : Int) = 95) || decide (48 ≤ (c.toNat : Int) ∧ (c.toNat : Int) ≤ 57)
/-- A name: 1 to 16 letters, digits and underscores, a letter first. -/
def isName (s : ByteArray) : Bool := decide (1 ≤ s.size) && decide (s.size ≤ 16) && letU (s.data.toList.getD 0 0) && s.data.toList.all chU
theorem at_data (s : ByteArray) (k : Nat) (h : k < s.size) : s.data.toList.getD k 0 = s[k] := by
  have h' : k < s.data.toList.length := by simpa using h
  simp only [List.getD, List.getElem?_eq_getElem h', Option.getD_some]; rfl
theorem take_snocU (s : ByteArray) (k : Nat) (h : k < s.size) : s.data.toList.take (k + 1) = s.data.toList.take k ++ [s[k]] := by
  rw [List.take_succ_eq_append_getElem (by simpa using h)]; rfl
set_option maxHeartbeats 400000 in
theorem letter_yes (c : UInt8) (h : letU c = true) (w : World) : Calls Tryd.prog 64 #[.int .u8 (c.toNat : Int)] w fun e w' => e = .returned (.bool true) ∧ w = w' := by
  have h' : (65 ≤ (c.toNat : Int) ∧ (c.toNat : Int) ≤ 90) ∨ (97 ≤ (c.toNat : Int) ∧ (c.toNat : Int) ≤ 122) := of_decide_eq_true h
  clear h
  generalize (c.toNat : Int) = x at *
  rcases h' with ⟨h1, h2⟩ | ⟨h1, h2⟩
  · go_enter Tryd.func64, Tryd.ntmps64
    go_wp2
    go_ret
    exact ⟨rfl, rfl⟩
  · have h3 : ¬ x ≤ 90 := by omega
    have h4 : 65 ≤ x := by omega
    go_enter Tryd.func64, Tryd.ntmps64
    go_wp2
    go_ret
    exact ⟨rfl, rfl⟩
set_option maxHeartbeats 400000 in
theorem letter_no (c : UInt8) (h : letU c = false) (w : World) : Calls Tryd.prog 64 #[.int .u8 (c.toNat : Int)] w fun e w' => e = .returned (.bool false) ∧ w = w' := by
  have h' : ¬ ((65 ≤ (c.toNat : Int) ∧ (c.toNat : Int) ≤ 90) ∨ (97 ≤ (c.toNat : Int) ∧ (c.toNat : Int) ≤ 122)) := of_decide_eq_false h
  clear h
  generalize (c.toNat : Int) = x at *
  by_cases h1 : 65 ≤ x
  · have h2 : ¬ x ≤ 90 := by omega
    by_cases h3 : 97 ≤ x
    · have h4 : ¬ x ≤ 122 := by omega
      clear h'
      go_enter Tryd.func64, Tryd.ntmps64
      go_wp2
      go_ret
      exact ⟨rfl, rfl⟩
    · clear h'
      go_enter Tryd.func64, Tryd.ntmps64
      go_wp2
      go_ret
      exact ⟨rfl, rfl⟩
  · have h3 : ¬ 97 ≤ x := by omega
    clear h'
    go_enter Tryd.func64, Tryd.ntmps64
    go_wp2
    go_ret
    exact ⟨rfl, rfl⟩
theorem letter_any (c : UInt8) (v : Bool) (h : letU c = v) (w : World) : Calls Tryd.prog 64 #[.int .u8 (c.toNat : Int)] w fun e w' => e = .returned (.bool v) ∧ w = w' := by
  cases v
  · exact letter_no c h w
  · exact letter_yes c h w
set_option maxHeartbeats 1000000 in
theorem name_any (s : ByteArray) (hs : s.size ≤ 9223372036854775807) (w : World) : Calls Tryd.prog 61 #[.string s] w fun e w' => e = .returned (.bool (isName s)) ∧ w = w' := by
  obtain ⟨V, hV⟩ : ∃ V, V = isName s := ⟨_, rfl⟩
  rw [← hV]
  have HV := Lib.hid hV
  clear hV
  by_cases h0 : s.size = 0
  · have he : s.toList = [] := by rw [ByteArray.toList_eq]; exact List.eq_nil_of_length_eq_zero (by simpa using h0)
    obtain rfl : V = false := by rw [HV.out, isName, h0]; rfl
    have he2 : s.toList.isEmpty = true := by rw [he]; rfl
    go_enter Tryd.func61, Tryd.ntmps61
    go_wp2
    go_ret
    exact ⟨rfl, rfl⟩
  · have hne : s.toList ≠ [] := by
      rw [ByteArray.toList_eq]; intro e
      have h1 : s.data.toList.length = 0 := by rw [e]; rfl
      exact h0 (by show s.data.size = 0; rw [← Array.length_toList]; exact h1)
    have he2 : s.toList.isEmpty = false := by cases h : s.toList with
      | nil => exact absurd h hne
      | cons _ _ => rfl
    have hpos : 0 < s.size := by omega
    by_cases h16 : 16 < s.size
    · obtain rfl : V = false := by rw [HV.out, isName, decide_eq_false (show ¬ s.size ≤ 16 by omega)]; simp
      go_enter Tryd.func61, Tryd.ntmps61
      go_wp2
      go_ret
      exact ⟨rfl, rfl⟩
    · cases hl : letU s[0] with
      | false =>
        obtain rfl : V = false := by rw [HV.out, isName, at_data s 0 hpos, hl]; simp
        have HL := Lib.hid hl
        clear hl
        go_enter Tryd.func61, Tryd.ntmps61
        go_wp2_with (go_at_call 64; refine (letter_any s[0] false HL.out _).mono ?_; rintro e w' ⟨rfl, rfl⟩)
        go_ret
        exact ⟨rfl, rfl⟩
      | true =>
        have HVA : Hid (V = s.data.toList.all chU) := by
          show _ = _
          rw [HV.out, isName, at_data s 0 hpos, hl, decide_eq_true (show 1 ≤ s.size by omega), decide_eq_true (show s.size ≤ 16 by omega)]; rfl
        have HL := Lib.hid hl
        have hd1 : decide ((16 : Int) < (s.size : Int)) = false := decide_eq_false (by omega)
        have hd2 : decide (16 < s.size) = false := decide_eq_false (by omega)
        clear hl HV
        go_enter Tryd.func61, Tryd.ntmps61
        go_wp2_with (go_at_call 64; refine (letter_any s[0] true HL.out _).mono ?_; rintro e w' ⟨rfl, rfl⟩)
        clear hd1 hd2
        go_loop [19] (fun i => ∃ k : Nat, k ≤ s.size ∧ i = .int .i64 k ∧ Hid ((s.data.toList.take k).all chU = true)) (fun i => s.size - (intOf i).toNat)
        case atStart => exact ⟨0, Nat.zero_le _, rfl, show _ = _ by simp⟩
        case round =>
          obtain ⟨k, hk, rfl, hall⟩ := hrel
          by_cases hlt : k < s.size
          · have HTK := Lib.hid (take_snocU s k hlt)
            have HBAD : chU s[k] = false → V = false := fun h => by
              rw [HVA.out]
              apply Bool.eq_false_iff.2
              intro ha
              have := List.all_eq_true.1 ha s[k] (List.mem_of_mem_take (i := k + 1) (by rw [HTK.out]; simp))
              rw [h] at this; cases this
            have HB := Lib.hid HBAD
            have HG : chU s[k] = true → (s.data.toList.take (k + 1)).all chU = true := fun h => by rw [HTK.out, List.all_append, hall.out]; simp [h]
            have HGG := Lib.hid HG
            clear HBAD HG
            cases hl : letU s[k] with
            | true =>
              have HOK := Lib.hid (HGG.out (by simp [chU, hl]))
              have HL2 := Lib.hid hl
              clear hl
              go_wp2_with (go_at_call 64; refine (letter_any s[k] true HL2.out _).mono ?_; rintro e w' ⟨rfl, rfl⟩)
              go_round
              case rel => exact ⟨k + 1, by omega, by go_num, HOK⟩
              case measure => simp [intOf]; omega
            | false =>
              have HL2 := Lib.hid hl
              by_cases h95 : (s[k].toNat : Int) = 95
              · have HOK := Lib.hid (HGG.out (by simp [chU, hl, h95]))
                have e1 : ((s[k].toNat : Int) != 95) = false := by simp [h95]
                clear hl h95
                go_wp2_with (go_at_call 64; refine (letter_any s[k] false HL2.out _).mono ?_; rintro e w' ⟨rfl, rfl⟩)
                go_round
                case rel => exact ⟨k + 1, by omega, by go_num, HOK⟩
                case measure => simp [intOf]; omega
              · have e1 : ((s[k].toNat : Int) != 95) = true := by rw [bne_iff_ne]; exact h95
                by_cases h48 : (s[k].toNat : Int) < 48
                · obtain rfl := HB.out (by simp only [chU, hl, decide_eq_false h95, Bool.false_or, decide_eq_false_iff_not]; omega)
                  have e2 : decide ((s[k].toNat : Int) < 48) = true := decide_eq_true h48
                  clear hl h95
                  go_wp2_with (go_at_call 64; refine (letter_any s[k] false HL2.out _).mono ?_; rintro e w' ⟨rfl, rfl⟩)
                  go_ret
                  exact ⟨rfl, rfl⟩
                · have e2 : decide ((s[k].toNat : Int) < 48) = false := decide_eq_false h48
                  by_cases h57 : 57 < (s[k].toNat : Int)
                  · obtain rfl := HB.out (by simp only [chU, hl, decide_eq_false h95, Bool.false_or, decide_eq_false_iff_not]; omega)
                    have e3 : decide (57 < (s[k].toNat : Int)) = true := decide_eq_true h57
                    clear hl h95
                    go_wp2_with (go_at_call 64; refine (letter_any s[k] false HL2.out _).mono ?_; rintro e w' ⟨rfl, rfl⟩)
                    go_ret
                    exact ⟨rfl, rfl⟩
                  · have HOK := Lib.hid (HGG.out (by simp only [chU, hl, decide_eq_false h95, Bool.false_or, decide_eq_true_eq]; omega))
                    have e3 : decide (57 < (s[k].toNat : Int)) = false := decide_eq_false h57
                    clear hl h95
                    go_wp2_with (go_at_call 64; refine (letter_any s[k] false HL2.out _).mono ?_; rintro e w' ⟨rfl, rfl⟩)
                    go_round
                    case rel => exact ⟨k + 1, by omega, by go_num, HOK⟩
                    case measure => simp [intOf]; omega
          · have HE : Hid (V = true) := show _ = _ by
              rw [HVA.out, ← hall.out, List.take_of_length_le (by simp; omega)]
            obtain rfl := HE.out
            go_wp2
            go_ret
            exact ⟨rfl, rfl⟩
end Go.Proofs.YtophcoaikelopaaDoor
