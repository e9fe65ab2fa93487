/- Walks: reserved words. -/
import Derived.Test.YtophcoaikelopaaDoorWF
namespace Go.Proofs.YtophcoaikelopaaDoor
open Go.RowKit

/-- The reserved words. -/
def wordsL : List (List UInt8) := [[97, 110, 100], [98, 111, 111, 108], [98, 121], [99, 114, 101, 97, 116, 101], [100, 101, 102, 97, 117, 108, 116], [100, 101, 108, 101, 116, 101], [100, 101, 115, 99], [100, 114, 111, 112], [102, 97, 108, 115, 101], [102, 114, 111, 109], [105, 100], [105, 110, 100, 101, 120], [105, 110, 115, 101, 114, 116], [105, 110, 116], [105, 110, 116, 111], [105, 115], [108, 105, 109, 105, 116], [110, 111, 116], [110, 117, 108, 108], [111, 110], [111, 114], [111, 114, 100, 101, 114], [115, 101, 108, 101, 99, 116], [115, 101, 116], [116, 97, 98, 108, 101], [116, 101, 120, 116], [116, 114, 117, 101], [117, 110, 105, 113, 117, 101], [117, 112, 100, 97, 116, 101], [118, 97, 108, 117, 101, 115], [119, 104, 101, 114, 101]]
def words : List ByteArray := wordsL.map fun l => ⟨l.toArray⟩
def reserved (s : ByteArray) : Bool := wordsL.any fun l => s.toList == l
theorem words_len : wordsL.length = 31 := rfl
theorem reserved_no {s : ByteArray} (h : reserved s = false) (k : Nat) (hk : k < 31) : (s.toList == wordsL[k]'(by rw [words_len]; exact hk)) = false := by
  apply Bool.eq_false_iff.2
  intro e
  have : reserved s = true := List.any_eq_true.2 ⟨_, List.getElem_mem _, e⟩
  rw [h] at this; cases this
theorem str_of_list {s : ByteArray} {l : List UInt8} (h : (s.toList == l) = true) : s = ⟨l.toArray⟩ := by
  have h1 : s.toList = l := by simpa using h
  rw [ByteArray.toList_eq] at h1
  cases s with
  | mk d => simp only at h1; rw [← h1]
set_option maxRecDepth 100000 in
set_option maxHeartbeats 2000000 in
theorem reserved_false (s : ByteArray) (h : reserved s = false) (w : World) : Calls Tryd.prog 16 #[.string s] w fun e w' => e = .returned (.bool false) ∧ w = w' := by
  have h0 : (s.toList == [97, 110, 100]) = false := reserved_no h 0 (by omega)
  have h1 : (s.toList == [98, 111, 111, 108]) = false := reserved_no h 1 (by omega)
  have h2 : (s.toList == [98, 121]) = false := reserved_no h 2 (by omega)
  have h3 : (s.toList == [99, 114, 101, 97, 116, 101]) = false := reserved_no h 3 (by omega)
  have h4 : (s.toList == [100, 101, 102, 97, 117, 108, 116]) = false := reserved_no h 4 (by omega)
  have h5 : (s.toList == [100, 101, 108, 101, 116, 101]) = false := reserved_no h 5 (by omega)
  have h6 : (s.toList == [100, 101, 115, 99]) = false := reserved_no h 6 (by omega)
  have h7 : (s.toList == [100, 114, 111, 112]) = false := reserved_no h 7 (by omega)
  have h8 : (s.toList == [102, 97, 108, 115, 101]) = false := reserved_no h 8 (by omega)
  have h9 : (s.toList == [102, 114, 111, 109]) = false := reserved_no h 9 (by omega)
  have h10 : (s.toList == [105, 100]) = false := reserved_no h 10 (by omega)
  have h11 : (s.toList == [105, 110, 100, 101, 120]) = false := reserved_no h 11 (by omega)
  have h12 : (s.toList == [105, 110, 115, 101, 114, 116]) = false := reserved_no h 12 (by omega)
  have h13 : (s.toList == [105, 110, 116]) = false := reserved_no h 13 (by omega)
  have h14 : (s.toList == [105, 110, 116, 111]) = false := reserved_no h 14 (by omega)
  have h15 : (s.toList == [105, 115]) = false := reserved_no h 15 (by omega)
  have h16 : (s.toList == [108, 105, 109, 105, 116]) = false := reserved_no h 16 (by omega)
  have h17 : (s.toList == [110, 111, 116]) = false := reserved_no h 17 (by omega)
  have h18 : (s.toList == [110, 117, 108, 108]) = false := reserved_no h 18 (by omega)
  have h19 : (s.toList == [111, 110]) = false := reserved_no h 19 (by omega)
  have h20 : (s.toList == [111, 114]) = false := reserved_no h 20 (by omega)
  have h21 : (s.toList == [111, 114, 100, 101, 114]) = false := reserved_no h 21 (by omega)
  have h22 : (s.toList == [115, 101, 108, 101, 99, 116]) = false := reserved_no h 22 (by omega)
  have h23 : (s.toList == [115, 101, 116]) = false := reserved_no h 23 (by omega)
  have h24 : (s.toList == [116, 97, 98, 108, 101]) = false := reserved_no h 24 (by omega)
  have h25 : (s.toList == [116, 101, 120, 116]) = false := reserved_no h 25 (by omega)
  have h26 : (s.toList == [116, 114, 117, 101]) = false := reserved_no h 26 (by omega)
  have h27 : (s.toList == [117, 110, 105, 113, 117, 101]) = false := reserved_no h 27 (by omega)
  have h28 : (s.toList == [117, 112, 100, 97, 116, 101]) = false := reserved_no h 28 (by omega)
  have h29 : (s.toList == [118, 97, 108, 117, 101, 115]) = false := reserved_no h 29 (by omega)
  have h30 : (s.toList == [119, 104, 101, 114, 101]) = false := reserved_no h 30 (by omega)
  clear h
  go_enter Tryd.func16, Tryd.ntmps16
  go_wp2
  go_ret
  exact ⟨rfl, rfl⟩
set_option maxHeartbeats 1000000 in
theorem reserved_w0 (w : World) : Calls Tryd.prog 16 #[.string ⟨#[97, 110, 100]⟩] w fun e w' => e = .returned (.bool true) ∧ w = w' := by
  go_enter Tryd.func16, Tryd.ntmps16
  go_wp2
  go_ret
  exact ⟨rfl, rfl⟩
set_option maxHeartbeats 1000000 in
theorem reserved_w1 (w : World) : Calls Tryd.prog 16 #[.string ⟨#[98, 111, 111, 108]⟩] w fun e w' => e = .returned (.bool true) ∧ w = w' := by
  go_enter Tryd.func16, Tryd.ntmps16
  go_wp2
  go_ret
  exact ⟨rfl, rfl⟩
set_option maxHeartbeats 1000000 in
theorem reserved_w2 (w : World) : Calls Tryd.prog 16 #[.string ⟨#[98, 121]⟩] w fun e w' => e = .returned (.bool true) ∧ w = w' := by
  go_enter Tryd.func16, Tryd.ntmps16
  go_wp2
  go_ret
  exact ⟨rfl, rfl⟩
set_option maxHeartbeats 1000000 in
theorem reserved_w3 (w : World) : Calls Tryd.prog 16 #[.string ⟨#[99, 114, 101, 97, 116, 101]⟩] w fun e w' => e = .returned (.bool true) ∧ w = w' := by
  go_enter Tryd.func16, Tryd.ntmps16
  go_wp2
  go_ret
  exact ⟨rfl, rfl⟩
set_option maxHeartbeats 1000000 in
theorem reserved_w4 (w : World) : Calls Tryd.prog 16 #[.string ⟨#[100, 101, 102, 97, 117, 108, 116]⟩] w fun e w' => e = .returned (.bool true) ∧ w = w' := by
  go_enter Tryd.func16, Tryd.ntmps16
  go_wp2
  go_ret
  exact ⟨rfl, rfl⟩
set_option maxHeartbeats 1000000 in
theorem reserved_w5 (w : World) : Calls Tryd.prog 16 #[.string ⟨#[100, 101, 108, 101, 116, 101]⟩] w fun e w' => e = .returned (.bool true) ∧ w = w' := by
  go_enter Tryd.func16, Tryd.ntmps16
  go_wp2
  go_ret
  exact ⟨rfl, rfl⟩
set_option maxHeartbeats 1000000 in
theorem reserved_w6 (w : World) : Calls Tryd.prog 16 #[.string ⟨#[100, 101, 115, 99]⟩] w fun e w' => e = .returned (.bool true) ∧ w = w' := by
  go_enter Tryd.func16, Tryd.ntmps16
  go_wp2
  go_ret
  exact ⟨rfl, rfl⟩
set_option maxHeartbeats 1000000 in
theorem reserved_w7 (w : World) : Calls Tryd.prog 16 #[.string ⟨#[100, 114, 111, 112]⟩] w fun e w' => e = .returned (.bool true) ∧ w = w' := by
  go_enter Tryd.func16, Tryd.ntmps16
  go_wp2
  go_ret
  exact ⟨rfl, rfl⟩
set_option maxHeartbeats 1000000 in
theorem reserved_w8 (w : World) : Calls Tryd.prog 16 #[.string ⟨#[102, 97, 108, 115, 101]⟩] w fun e w' => e = .returned (.bool true) ∧ w = w' := by
  go_enter Tryd.func16, Tryd.ntmps16
  go_wp2
  go_ret
  exact ⟨rfl, rfl⟩
set_option maxHeartbeats 1000000 in
theorem reserved_w9 (w : World) : Calls Tryd.prog 16 #[.string ⟨#[102, 114, 111, 109]⟩] w fun e w' => e = .returned (.bool true) ∧ w = w' := by
  go_enter Tryd.func16, Tryd.ntmps16
  go_wp2
  go_ret
  exact ⟨rfl, rfl⟩
set_option maxHeartbeats 1000000 in
theorem reserved_w10 (w : World) : Calls Tryd.prog 16 #[.string ⟨#[105, 100]⟩] w fun e w' => e = .returned (.bool true) ∧ w = w' := by
  go_enter Tryd.func16, Tryd.ntmps16
  go_wp2
  go_ret
  exact ⟨rfl, rfl⟩
set_option maxHeartbeats 1000000 in
theorem reserved_w11 (w : World) : Calls Tryd.prog 16 #[.string ⟨#[105, 110, 100, 101, 120]⟩] w fun e w' => e = .returned (.bool true) ∧ w = w' := by
  go_enter Tryd.func16, Tryd.ntmps16
  go_wp2
  go_ret
  exact ⟨rfl, rfl⟩
set_option maxHeartbeats 1000000 in
theorem reserved_w12 (w : World) : Calls Tryd.prog 16 #[.string ⟨#[105, 110, 115, 101, 114, 116]⟩] w fun e w' => e = .returned (.bool true) ∧ w = w' := by
  go_enter Tryd.func16, Tryd.ntmps16
  go_wp2
  go_ret
  exact ⟨rfl, rfl⟩
set_option maxHeartbeats 1000000 in
theorem reserved_w13 (w : World) : Calls Tryd.prog 16 #[.string ⟨#[105, 110, 116]⟩] w fun e w' => e = .returned (.bool true) ∧ w = w' := by
  go_enter Tryd.func16, Tryd.ntmps16
  go_wp2
  go_ret
  exact ⟨rfl, rfl⟩
set_option maxHeartbeats 1000000 in
theorem reserved_w14 (w : World) : Calls Tryd.prog 16 #[.string ⟨#[105, 110, 116, 111]⟩] w fun e w' => e = .returned (.bool true) ∧ w = w' := by
  go_enter Tryd.func16, Tryd.ntmps16
  go_wp2
  go_ret
  exact ⟨rfl, rfl⟩
set_option maxHeartbeats 1000000 in
theorem reserved_w15 (w : World) : Calls Tryd.prog 16 #[.string ⟨#[105, 115]⟩] w fun e w' => e = .returned (.bool true) ∧ w = w' := by
  go_enter Tryd.func16, Tryd.ntmps16
  go_wp2
  go_ret
  exact ⟨rfl, rfl⟩
set_option maxHeartbeats 1000000 in
theorem reserved_w16 (w : World) : Calls Tryd.prog 16 #[.string ⟨#[108, 105, 109, 105, 116]⟩] w fun e w' => e = .returned (.bool true) ∧ w = w' := by
  go_enter Tryd.func16, Tryd.ntmps16
  go_wp2
  go_ret
  exact ⟨rfl, rfl⟩
set_option maxHeartbeats 1000000 in
theorem reserved_w17 (w : World) : Calls Tryd.prog 16 #[.string ⟨#[110, 111, 116]⟩] w fun e w' => e = .returned (.bool true) ∧ w = w' := by
  go_enter Tryd.func16, Tryd.ntmps16
  go_wp2
  go_ret
  exact ⟨rfl, rfl⟩
set_option maxHeartbeats 1000000 in
theorem reserved_w18 (w : World) : Calls Tryd.prog 16 #[.string ⟨#[110, 117, 108, 108]⟩] w fun e w' => e = .returned (.bool true) ∧ w = w' := by
  go_enter Tryd.func16, Tryd.ntmps16
  go_wp2
  go_ret
  exact ⟨rfl, rfl⟩
set_option maxHeartbeats 1000000 in
theorem reserved_w19 (w : World) : Calls Tryd.prog 16 #[.string ⟨#[111, 110]⟩] w fun e w' => e = .returned (.bool true) ∧ w = w' := by
  go_enter Tryd.func16, Tryd.ntmps16
  go_wp2
  go_ret
  exact ⟨rfl, rfl⟩
set_option maxHeartbeats 1000000 in
theorem reserved_w20 (w : World) : Calls Tryd.prog 16 #[.string ⟨#[111, 114]⟩] w fun e w' => e = .returned (.bool true) ∧ w = w' := by
  go_enter Tryd.func16, Tryd.ntmps16
  go_wp2
  go_ret
  exact ⟨rfl, rfl⟩
set_option maxHeartbeats 1000000 in
theorem reserved_w21 (w : World) : Calls Tryd.prog 16 #[.string ⟨#[111, 114, 100, 101, 114]⟩] w fun e w' => e = .returned (.bool true) ∧ w = w' := by
  go_enter Tryd.func16, Tryd.ntmps16
  go_wp2
  go_ret
  exact ⟨rfl, rfl⟩
set_option maxHeartbeats 1000000 in
theorem reserved_w22 (w : World) : Calls Tryd.prog 16 #[.string ⟨#[115, 101, 108, 101, 99, 116]⟩] w fun e w' => e = .returned (.bool true) ∧ w = w' := by
  go_enter Tryd.func16, Tryd.ntmps16
  go_wp2
  go_ret
  exact ⟨rfl, rfl⟩
set_option maxHeartbeats 1000000 in
theorem reserved_w23 (w : World) : Calls Tryd.prog 16 #[.string ⟨#[115, 101, 116]⟩] w fun e w' => e = .returned (.bool true) ∧ w = w' := by
  go_enter Tryd.func16, Tryd.ntmps16
  go_wp2
  go_ret
  exact ⟨rfl, rfl⟩
set_option maxHeartbeats 1000000 in
theorem reserved_w24 (w : World) : Calls Tryd.prog 16 #[.string ⟨#[116, 97, 98, 108, 101]⟩] w fun e w' => e = .returned (.bool true) ∧ w = w' := by
  go_enter Tryd.func16, Tryd.ntmps16
  go_wp2
  go_ret
  exact ⟨rfl, rfl⟩
set_option maxHeartbeats 1000000 in
theorem reserved_w25 (w : World) : Calls Tryd.prog 16 #[.string ⟨#[116, 101, 120, 116]⟩] w fun e w' => e = .returned (.bool true) ∧ w = w' := by
  go_enter Tryd.func16, Tryd.ntmps16
  go_wp2
  go_ret
  exact ⟨rfl, rfl⟩
set_option maxHeartbeats 1000000 in
theorem reserved_w26 (w : World) : Calls Tryd.prog 16 #[.string ⟨#[116, 114, 117, 101]⟩] w fun e w' => e = .returned (.bool true) ∧ w = w' := by
  go_enter Tryd.func16, Tryd.ntmps16
  go_wp2
  go_ret
  exact ⟨rfl, rfl⟩
set_option maxHeartbeats 1000000 in
theorem reserved_w27 (w : World) : Calls Tryd.prog 16 #[.string ⟨#[117, 110, 105, 113, 117, 101]⟩] w fun e w' => e = .returned (.bool true) ∧ w = w' := by
  go_enter Tryd.func16, Tryd.ntmps16
  go_wp2
  go_ret
  exact ⟨rfl, rfl⟩
set_option maxHeartbeats 1000000 in
theorem reserved_w28 (w : World) : Calls Tryd.prog 16 #[.string ⟨#[117, 112, 100, 97, 116, 101]⟩] w fun e w' => e = .returned (.bool true) ∧ w = w' := by
  go_enter Tryd.func16, Tryd.ntmps16
  go_wp2
  go_ret
  exact ⟨rfl, rfl⟩
set_option maxHeartbeats 1000000 in
theorem reserved_w29 (w : World) : Calls Tryd.prog 16 #[.string ⟨#[118, 97, 108, 117, 101, 115]⟩] w fun e w' => e = .returned (.bool true) ∧ w = w' := by
  go_enter Tryd.func16, Tryd.ntmps16
  go_wp2
  go_ret
  exact ⟨rfl, rfl⟩
set_option maxHeartbeats 1000000 in
theorem reserved_w30 (w : World) : Calls Tryd.prog 16 #[.string ⟨#[119, 104, 101, 114, 101]⟩] w fun e w' => e = .returned (.bool true) ∧ w = w' := by
  go_enter Tryd.func16, Tryd.ntmps16
  go_wp2
  go_ret
  exact ⟨rfl, rfl⟩
theorem reserved_true (s : ByteArray) (h : reserved s = true) (w : World) : Calls Tryd.prog 16 #[.string s] w fun e w' => e = .returned (.bool true) ∧ w = w' := by
  obtain ⟨l, hl, e⟩ := List.any_eq_true.1 h
  obtain rfl := str_of_list e
  simp only [wordsL, List.mem_cons, List.not_mem_nil, or_false] at hl
  rcases hl with rfl | rfl | rfl | rfl | rfl | rfl | rfl | rfl | rfl | rfl | rfl | rfl | rfl | rfl | rfl | rfl | rfl | rfl | rfl | rfl | rfl | rfl | rfl | rfl | rfl | rfl | rfl | rfl | rfl | rfl | rfl
  · exact reserved_w0 w
  · exact reserved_w1 w
  · exact reserved_w2 w
  · exact reserved_w3 w
  · exact reserved_w4 w
  · exact reserved_w5 w
  · exact reserved_w6 w
  · exact reserved_w7 w
  · exact reserved_w8 w
  · exact reserved_w9 w
  · exact reserved_w10 w
  · exact reserved_w11 w
  · exact reserved_w12 w
  · exact reserved_w13 w
  · exact reserved_w14 w
  · exact reserved_w15 w
  · exact reserved_w16 w
  · exact reserved_w17 w
  · exact reserved_w18 w
  · exact reserved_w19 w
  · exact reserved_w20 w
  · exact reserved_w21 w
  · exact reserved_w22 w
  · exact reserved_w23 w
  · exact reserved_w24 w
  · exact reserved_w25 w
  · exact reserved_w26 w
  · exact reserved_w27 w
  · exact reserved_w28 w
  · exact reserved_w29 w
  · exact reserved_w30 w
theorem reserved_any (s : ByteArray) (w : World) : Calls Tryd.prog 16 #[.string s] w fun e w' => e = .returned (.bool (reserved s)) ∧ w = w' := by
  cases h : reserved s
  · exact reserved_false s h w
  · exact reserved_true s h w
end Go.Proofs.YtophcoaikelopaaDoor
