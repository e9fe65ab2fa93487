/- Walks: the reference's names; reserved words. -/
import Derived.Test.YtophcoaikelopaaDoorWE
namespace Go.Proofs.YtophcoaikelopaaDoor
open Go.RowKit

theorem isName_first (s : ByteArray) (h : 0 < s.size) (hv : letU s[0] = false) : isName s = false := by
  rw [isName, at_data s 0 h, hv]; simp
set_option maxHeartbeats 2000000 in
theorem refName_any (s : ByteArray) (hs : s.size ≤ 9223372036854775807) (w : World) : Calls Tryd.prog 62 #[.string s] w fun e w' => e = .returned (.bool (isName s)) ∧ w = w' := by
  obtain ⟨V, hV⟩ : ∃ V, V = isName s := ⟨_, rfl⟩
  rw [← hV]
  have HV := Lib.hid hV
  clear hV
  by_cases h0 : s.size < 1
  · obtain rfl : V = false := by rw [HV.out, isName, decide_eq_false (show ¬ 1 ≤ s.size by omega)]; rfl
    have e1 : decide ((s.size : Int) < 1) = true := decide_eq_true (by omega)
    go_enter Tryd.func62, Tryd.ntmps62
    go_wp2
    go_ret
    exact ⟨rfl, rfl⟩
  · by_cases h16 : 16 < s.size
    · obtain rfl : V = false := by rw [HV.out, isName, decide_eq_false (show ¬ s.size ≤ 16 by omega)]; simp
      go_enter Tryd.func62, Tryd.ntmps62
      go_wp2
      go_ret
      exact ⟨rfl, rfl⟩
    · have HLET : letU s[0] = false → V = false := fun h => by rw [HV.out]; exact isName_first s (by omega) h
      have HLT := Lib.hid HLET
      have HVA : letU s[0] = true → V = s.data.toList.all chU := fun h => by
        rw [HV.out, isName, at_data s 0 (by omega), h, decide_eq_true (show 1 ≤ s.size by omega), decide_eq_true (show s.size ≤ 16 by omega)]; rfl
      have HVB := Lib.hid HVA
      have hd1 : decide ((16 : Int) < (s.size : Int)) = false := decide_eq_false (by omega)
      have hd2 : decide (16 < s.size) = false := decide_eq_false (by omega)
      have hd3 : decide ((s.size : Int) < 1) = false := decide_eq_false (by omega)
      clear HV HLET HVA
      go_enter Tryd.func62, Tryd.ntmps62
      go_wp2
      clear hd1 hd2 hd3
      go_loop [3] (fun i => ∃ k : Nat, k ≤ s.size ∧ i = .int .i64 k ∧ Hid ((s.data.toList.take k).all chU = true ∧ (0 < k → letU s[0] = true))) (fun i => s.size - (intOf i).toNat)
      case atStart => exact ⟨0, Nat.zero_le _, rfl, ⟨by simp, fun h => absurd h (by omega)⟩⟩
      case round =>
        obtain ⟨k, hk, rfl, hall⟩ := hrel
        by_cases hlt : k < s.size
        · have HTK := Lib.hid (take_snocU s k hlt)
          have HBAD : chU s[k] = false → letU s[0] = true → V = false := fun h hf => by
            rw [HVB.out hf]
            apply Bool.eq_false_iff.2
            intro ha
            have := List.all_eq_true.1 ha s[k] (List.mem_of_mem_take (i := k + 1) (by rw [HTK.out]; simp))
            rw [h] at this; cases this
          have HB := Lib.hid HBAD
          have HG : chU s[k] = true → letU s[0] = true → ((s.data.toList.take (k + 1)).all chU = true ∧ (0 < k + 1 → letU s[0] = true)) := fun h hf => ⟨by rw [HTK.out, List.all_append, hall.out.1]; simp [h], fun _ => hf⟩
          have HGG := Lib.hid HG
          clear HBAD HG
          cases hl : letU s[k] with
          | true =>
            have HF : letU s[0] = true := by
              by_cases hk0 : k = 0
              · subst hk0; exact hl
              · exact hall.out.2 (by omega)
            have HOK := Lib.hid (HGG.out (by simp [chU, hl]) HF)
            have h' : (65 ≤ (s[k].toNat : Int) ∧ (s[k].toNat : Int) ≤ 90) ∨ (97 ≤ (s[k].toNat : Int) ∧ (s[k].toNat : Int) ≤ 122) := of_decide_eq_true hl
            clear hl HF
            rcases h' with ⟨b1, b2⟩ | ⟨b1, b2⟩
            · have b3 : ¬ 97 ≤ (s[k].toNat : Int) := by omega
              go_wp2
              go_round
              case rel => exact ⟨k + 1, by omega, by go_num, HOK⟩
              case measure => simp [intOf]; omega
            · go_wp2
              go_round
              case rel => exact ⟨k + 1, by omega, by go_num, HOK⟩
              case measure => simp [intOf]; omega
          | false =>
            have h' : ¬ ((65 ≤ (s[k].toNat : Int) ∧ (s[k].toNat : Int) ≤ 90) ∨ (97 ≤ (s[k].toNat : Int) ∧ (s[k].toNat : Int) ≤ 122)) := of_decide_eq_false hl
            have hcase : ((s[k].toNat : Int) < 48) ∨ (48 ≤ (s[k].toNat : Int) ∧ (s[k].toNat : Int) ≤ 57) ∨ (58 ≤ (s[k].toNat : Int) ∧ (s[k].toNat : Int) ≤ 64) ∨ (91 ≤ (s[k].toNat : Int) ∧ (s[k].toNat : Int) ≤ 94) ∨ ((s[k].toNat : Int) = 95) ∨ ((s[k].toNat : Int) = 96) ∨ (123 ≤ (s[k].toNat : Int)) := by omega
            have HL := Lib.hid hl
            have HL' := Lib.hid h'
            clear hl h'
            by_cases hk0 : k = 0
            · subst hk0
              obtain rfl := HLT.out HL.out
              rcases hcase with b | ⟨b, c⟩ | ⟨b, c⟩ | ⟨b, c⟩ | b | b | b
              · have b1 : ¬ 97 ≤ (s[0].toNat : Int) := by omega
                have b2 : ¬ 65 ≤ (s[0].toNat : Int) := by omega
                go_wp2
                go_ret
                exact ⟨rfl, rfl⟩
              · have b1 : ¬ 97 ≤ (s[0].toNat : Int) := by omega
                have b2 : ¬ 65 ≤ (s[0].toNat : Int) := by omega
                go_wp2
                go_ret
                exact ⟨rfl, rfl⟩
              · have b1 : ¬ 97 ≤ (s[0].toNat : Int) := by omega
                have b2 : ¬ 65 ≤ (s[0].toNat : Int) := by omega
                go_wp2
                go_ret
                exact ⟨rfl, rfl⟩
              · have b1 : ¬ 97 ≤ (s[0].toNat : Int) := by omega
                have b2 : ¬ (s[0].toNat : Int) ≤ 90 := by omega
                go_wp2
                go_ret
                exact ⟨rfl, rfl⟩
              · have b0 : (91 : Int) ≤ (s[0].toNat : Int) := by omega
                have b1 : ¬ 97 ≤ (s[0].toNat : Int) := by omega
                have b2 : ¬ (s[0].toNat : Int) ≤ 90 := by omega
                clear b
                go_wp2
                go_ret
                exact ⟨rfl, rfl⟩
              · have b0 : (91 : Int) ≤ (s[0].toNat : Int) := by omega
                have b1 : ¬ 97 ≤ (s[0].toNat : Int) := by omega
                have b2 : ¬ (s[0].toNat : Int) ≤ 90 := by omega
                clear b
                go_wp2
                go_ret
                exact ⟨rfl, rfl⟩
              · have b1 : ¬ (s[0].toNat : Int) ≤ 122 := by omega
                have b2 : ¬ (s[0].toNat : Int) ≤ 90 := by omega
                go_wp2
                go_ret
                exact ⟨rfl, rfl⟩
            · have HF := hall.out.2 (by omega)
              have hk1 : ((k : Int) == 0) = false := by rw [beq_eq_false_iff_ne]; omega
              have HOKB := Lib.hid (fun h => HGG.out h HF)
              have HNO := Lib.hid (fun h => HB.out h HF)
              have HCH := Lib.hid (show chU s[k] = (decide ((s[k].toNat : Int) = 95) || decide (48 ≤ (s[k].toNat : Int) ∧ (s[k].toNat : Int) ≤ 57)) by rw [chU, HL.out, Bool.false_or])
              clear HF
              rcases hcase with b | ⟨b, c⟩ | ⟨b, c⟩ | ⟨b, c⟩ | b | b | b
              · obtain rfl := HNO.out (by rw [HCH.out]; simp; omega)
                have b1 : ¬ 97 ≤ (s[k].toNat : Int) := by omega
                have b2 : ¬ 65 ≤ (s[k].toNat : Int) := by omega
                have b3 : ((s[k].toNat : Int) != 95) = true := by rw [bne_iff_ne]; omega
                go_wp2
                go_ret
                exact ⟨rfl, rfl⟩
              · have HOK := Lib.hid (HOKB.out (by rw [HCH.out]; simp; omega))
                have b1 : ¬ 97 ≤ (s[k].toNat : Int) := by omega
                have b2 : ¬ 65 ≤ (s[k].toNat : Int) := by omega
                have b3 : ((s[k].toNat : Int) != 95) = true := by rw [bne_iff_ne]; omega
                go_wp2
                go_round
                case rel => exact ⟨k + 1, by omega, by go_num, HOK⟩
                case measure => simp [intOf]; omega
              · obtain rfl := HNO.out (by rw [HCH.out]; simp; omega)
                have b1 : ¬ 97 ≤ (s[k].toNat : Int) := by omega
                have b2 : ¬ 65 ≤ (s[k].toNat : Int) := by omega
                have b3 : ((s[k].toNat : Int) != 95) = true := by rw [bne_iff_ne]; omega
                have b4 : (57 : Int) < (s[k].toNat : Int) := by omega
                go_wp2
                go_ret
                exact ⟨rfl, rfl⟩
              · obtain rfl := HNO.out (by rw [HCH.out]; simp; omega)
                have b1 : ¬ 97 ≤ (s[k].toNat : Int) := by omega
                have b2 : ¬ (s[k].toNat : Int) ≤ 90 := by omega
                have b3 : ((s[k].toNat : Int) != 95) = true := by rw [bne_iff_ne]; omega
                have b4 : (57 : Int) < (s[k].toNat : Int) := by omega
                go_wp2
                go_ret
                exact ⟨rfl, rfl⟩
              · have HOK := Lib.hid (HOKB.out (by rw [HCH.out]; simp; omega))
                have b0 : (91 : Int) ≤ (s[k].toNat : Int) := by omega
                have b1 : ¬ 97 ≤ (s[k].toNat : Int) := by omega
                have b2 : ¬ (s[k].toNat : Int) ≤ 90 := by omega
                have b3 : ((s[k].toNat : Int) != 95) = false := by simp [b]
                clear b
                go_wp2
                go_round
                case rel => exact ⟨k + 1, by omega, by go_num, HOK⟩
                case measure => simp [intOf]; omega
              · obtain rfl := HNO.out (by rw [HCH.out]; simp; omega)
                have b0 : (91 : Int) ≤ (s[k].toNat : Int) := by omega
                have b1 : ¬ 97 ≤ (s[k].toNat : Int) := by omega
                have b2 : ¬ (s[k].toNat : Int) ≤ 90 := by omega
                have b3 : ((s[k].toNat : Int) != 95) = true := by rw [bne_iff_ne]; omega
                have b4 : (57 : Int) < (s[k].toNat : Int) := by omega
                clear b
                go_wp2
                go_ret
                exact ⟨rfl, rfl⟩
              · obtain rfl := HNO.out (by rw [HCH.out]; simp; omega)
                have b1 : ¬ (s[k].toNat : Int) ≤ 122 := by omega
                have b2 : ¬ (s[k].toNat : Int) ≤ 90 := by omega
                have b3 : ((s[k].toNat : Int) != 95) = true := by rw [bne_iff_ne]; omega
                have b4 : (57 : Int) < (s[k].toNat : Int) := by omega
                go_wp2
                go_ret
                exact ⟨rfl, rfl⟩
        · have HE : Hid (V = true) := show _ = _ by
            rw [HVB.out (hall.out.2 (by omega)), ← hall.out.1, List.take_of_length_le (by simp; omega)]
          obtain rfl := HE.out
          go_wp2
          go_ret
          exact ⟨rfl, rfl⟩
end Go.Proofs.YtophcoaikelopaaDoor
