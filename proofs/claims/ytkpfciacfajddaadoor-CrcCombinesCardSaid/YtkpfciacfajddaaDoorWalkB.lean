/- The walks of the law file's helpers: awake, Cut and same. -/
import Derived.Test.YtkpfciacfajddaaDoorWalkA
import Derived.Lib.SlBytesConst
namespace Go.Proofs.YtkpfciacfajddaaDoor
open Go.RowKit

/-- A byte string as the model has it. -/
def strOf (l : List Nat) : ByteArray := strOfNums (l.map fun (b : Nat) => (b : Int))
theorem u8s_int (l : List Nat) : u8s l = (l.map fun (b : Nat) => (b : Int)).map (Value.int .u8) := by simp [u8s]
theorem run_string_of {w : World} {B n : Nat} {A : Option Addr} {l : List Nat} (cap : Nat) (h : Reads w B 1 A n (u8s l)) :
    (convert 22 9 (.slice A n cap)).run Tryd.prog w = .ok (.string (strOf l)) w := by
  have hn : l.length = n := by have := h.1; simpa [u8s] using this
  rcases A with _ | ad
  · have : n = 0 := by
      rcases Nat.eq_zero_or_pos n with h0 | h0
      · exact h0
      · obtain ⟨_, h, _⟩ := h.2 h0; cases h
    have hl : l = [] := List.eq_nil_of_length_eq_zero (by omega)
    subst hl
    rw [run_convert_bytes_nil w 22 5 Tryd.underlying22 Tryd.underlying5 n cap 9 Tryd.underlying9]
    rfl
  · have hc : ∀ j u, (u8s l)[j]? = some u → w.cell? (ad.add j) = some u := by
      intro j u hu
      rcases Nat.eq_zero_or_pos n with h0 | h0
      · have hl : l = [] := List.eq_nil_of_length_eq_zero (by omega)
        subst hl; simp [u8s] at hu
      · obtain ⟨ad', hA, _, hc⟩ := h.2 h0
        injection hA with hA; subst hA
        exact hc j u hu
    have hl : (loadCells ad n).run Tryd.prog w = .ok ((l.map fun (b : Nat) => (b : Int)).map (Value.int .u8)).toArray w := by
      have := run_loadCells_list (P := Tryd.prog) w ad (u8s l) hc
      rw [u8s_int] at this
      simpa [hn] using this
    rw [run_convert_bytes_string w 22 9 5 _ n cap Tryd.underlying22 Tryd.underlying5 Tryd.underlying9, run_bytesToString w _ n cap _ hl, foldl_push_bytes]
    simp [strOf, strOfNums, ByteArray.empty, ByteArray.emptyWithCapacity]
    rfl

theorem strOf_inj {l m : List Nat} (hl : ∀ b ∈ l, b < 256) (hm : ∀ b ∈ m, b < 256) (h : strOf l = strOf m) : l = m := by
  have h1 : (strOf l).data.toList = (strOf m).data.toList := by rw [h]
  simp only [strOf, strOfNums_data, List.map_map] at h1
  have key : ∀ (a b : List Nat), (∀ x ∈ a, x < 256) → (∀ x ∈ b, x < 256) → a.map ((fun n : Int => UInt8.ofNat n.toNat) ∘ fun (b : Nat) => (b : Int)) = b.map ((fun n : Int => UInt8.ofNat n.toNat) ∘ fun (b : Nat) => (b : Int)) → a = b := by
    intro a
    induction a with
    | nil => intro b _ _ e; cases b with
      | nil => rfl
      | cons y b => simp at e
    | cons x a ih =>
      intro b ha hb e
      cases b with
      | nil => simp at e
      | cons y b =>
        simp only [List.map_cons, List.cons.injEq, Function.comp] at e
        have hx := ha x (by simp)
        have hy := hb y (by simp)
        have e1 : UInt8.ofNat x = UInt8.ofNat y := by simpa using e.1
        have e2 := congrArg UInt8.toNat e1
        simp only [UInt8.toNat_ofNat'] at e2
        have : x = y := by omega
        subst this
        rw [ih b (fun z hz => ha z (by simp [hz])) (fun z hz => hb z (by simp [hz])) (by simpa [Function.comp] using e.2)]
  exact key l m hl hm h1
theorem strOf_beq {l m : List Nat} (hl : ∀ b ∈ l, b < 256) (hm : ∀ b ∈ m, b < 256) : ((strOf l).toList == (strOf m).toList) = decide (l = m) := by
  by_cases h : l = m
  · subst h; simp
  · rw [decide_eq_false h]
    apply Bool.eq_false_iff.2
    intro e
    have e1 : (strOf l).toList = (strOf m).toList := by simpa using e
    rw [ByteArray.toList_eq, ByteArray.toList_eq] at e1
    refine h (strOf_inj hl hm ?_)
    have : (strOf l).data = (strOf m).data := Array.toList_inj.1 e1
    cases hx : strOf l; cases hy : strOf m
    rw [hx, hy] at this
    simp only at this
    rw [this]

set_option maxHeartbeats 400000 in
theorem same_core (A A' : Option Addr) (n cap n' cap' : Nat) (s s' : ByteArray) (v : Bool) (w : World)
    (h1 : (convert 22 9 (.slice A n cap)).run Tryd.prog w = .ok (.string s) w)
    (h2 : (convert 22 9 (.slice A' n' cap')).run Tryd.prog w = .ok (.string s') w) (h3 : (s.toList == s'.toList) = v) :
    Calls Tryd.prog 17 #[.slice A n cap, .slice A' n' cap'] w fun e w' => e = .returned (.bool v) ∧ w = w' := by
  go_enter Tryd.func17, Tryd.ntmps17
  go_wp2
  go_ret
  exact ⟨rfl, rfl⟩
theorem same_any (A A' : Option Addr) (n cap n' cap' B B' : Nat) (l m : List Nat) (w : World) (hl : ∀ b ∈ l, b < 256) (hm : ∀ b ∈ m, b < 256)
    (h1 : Reads w B 1 A n (u8s l)) (h2 : Reads w B' 1 A' n' (u8s m)) (v : Bool) (hv : decide (l = m) = v) :
    Calls Tryd.prog 17 #[.slice A n cap, .slice A' n' cap'] w fun e w' => e = .returned (.bool v) ∧ w = w' :=
  same_core A A' n cap n' cap' _ _ v w (run_string_of cap h1) (run_string_of cap' h2) ((strOf_beq hl hm).trans hv)

set_option maxHeartbeats 400000 in
theorem cut_more (A : Option Addr) (n cap k : Nat) (w : World) (hc : n ≤ cap) (_hcap : cap ≤ 9223372036854775807) (hk : k ≤ 1000000) (h : k < n) :
    Calls Tryd.prog 13 #[.slice A n cap, .int .i64 k] w fun e w' => e = .returned (.slice A k cap) ∧ w = w' := by
  go_enter Tryd.func13, Tryd.ntmps13
  go_wp2
  go_ret
  exact ⟨rfl, rfl⟩
set_option maxHeartbeats 400000 in
theorem cut_less (A : Option Addr) (n cap k : Nat) (w : World) (_hc : n ≤ cap) (_hcap : cap ≤ 9223372036854775807) (_hk : k ≤ 1000000) (h : n ≤ k) :
    Calls Tryd.prog 13 #[.slice A n cap, .int .i64 k] w fun e w' => e = .returned (.slice A n cap) ∧ w = w' := by
  go_enter Tryd.func13, Tryd.ntmps13
  go_wp2
  go_ret
  exact ⟨rfl, rfl⟩
theorem cut_any (A : Option Addr) (n cap k : Nat) (w : World) (hc : n ≤ cap) (hcap : cap ≤ 9223372036854775807) (hk : k ≤ 1000000) :
    Calls Tryd.prog 13 #[.slice A n cap, .int .i64 k] w fun e w' => e = .returned (.slice A (min n k) cap) ∧ w = w' := by
  by_cases h : k < n
  · rw [Nat.min_eq_right (by omega)]; exact cut_more A n cap k w hc hcap hk h
  · rw [Nat.min_eq_left (by omega)]; exact cut_less A n cap k w hc hcap hk (by omega)
theorem Reads.take_ {w : World} {B n : Nat} {A : Option Addr} {xs : List Value} (h : Reads w B 1 A n xs) (k : Nat) : Reads w B 1 A (min n k) (xs.take k) := by
  refine ⟨by have := h.1; rw [List.length_take]; omega, fun hn => ?_⟩
  obtain ⟨ad, hA, hb, hc⟩ := h.2 (by omega)
  refine ⟨ad, hA, hb, fun j u hu => hc j u ?_⟩
  rw [List.getElem?_take] at hu
  split at hu
  · exact hu
  · cases hu
theorem u8s_take (l : List Nat) (k : Nat) : (u8s l).take k = u8s (l.take k) := by simp [u8s]

def nine : List Nat := [49, 50, 51, 52, 53, 54, 55, 56, 57]
def nineObj : Obj := .cells #[.int .u8 49, .int .u8 50, .int .u8 51, .int .u8 52, .int .u8 53, .int .u8 54, .int .u8 55, .int .u8 56, .int .u8 57] 5 (9, 10)
theorem nine_cells (w : World) (j : Nat) : (w.alloc nineObj).cell? ⟨w.heap.size, j, none⟩ = (u8s nine)[j]? := by
  have : (w.alloc nineObj).heap[w.heap.size]? = some nineObj := heap_alloc_new w _
  rw [cell_of_row _ _ _ _ _ _ this, ← Array.getElem?_toList]
  rfl
theorem nine_reads (w : World) : Reads (w.alloc nineObj) (w.heap.size + 1) 1 (some ⟨w.heap.size, 0, none⟩) 9 (u8s nine) := by
  refine ⟨rfl, fun _ => ⟨_, rfl, by show w.heap.size < _; omega, fun j u hu => ?_⟩⟩
  have : (⟨w.heap.size, 0, none⟩ : Addr).add j = ⟨w.heap.size, j, none⟩ := by unfold Addr.add; split <;> simp_all
  rw [this, nine_cells, hu]
theorem Tab.alloc {w : World} (h : Tab w) (o : Obj) : Tab (w.alloc o) := h.keep fun p hp => World.cell?_alloc_lt w o p (by have := h.size; omega)
theorem nine_sum : Crc.sum nine = 3808858755 := by decide
theorem awake_sum (w : World) (ht : Tab w) : Calls Tryd.prog 15 #[.slice (some ⟨w.heap.size, 0, none⟩) 9 9] (w.alloc nineObj) fun e w' => e = .returned (.int .u32 3808858755) ∧ w.alloc nineObj = w' := by
  have h := sum_any (some ⟨w.heap.size, 0, none⟩) 9 9 _ nine _ (by decide) (nine_reads w) (by omega) (ht.alloc nineObj)
  rw [nine_sum] at h
  exact h
set_option maxHeartbeats 400000 in
theorem awake_any (w : World) (ht : Tab w) :
    Calls Tryd.prog 14 #[] w fun e w' => e = .returned (.bool true) ∧ Below w.heap.size w w' := by
  have kc := fun (w : World) (C : Array Value) (n c : Nat) => Lib.run_convert_bytes_const (P := Tryd.prog) w 22 5 C n c Tryd.underlying22 Tryd.underlying5
  have HC := Lib.hid (awake_sum w ht)
  clear ht
  go_enter Tryd.func14, Tryd.ntmps14
  go_wp2_with (go_at_call 15; refine HC.out.mono ?_; rintro e w' ⟨rfl, rfl⟩)
  go_ret
  exact ⟨rfl, (Below.refl _ _).alloc (Nat.le_refl _) _⟩
end Go.Proofs.YtkpfciacfajddaaDoor
