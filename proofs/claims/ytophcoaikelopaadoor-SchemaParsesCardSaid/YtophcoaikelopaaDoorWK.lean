/- Walks: Find and Index, in the program and in the reference. -/
import Derived.Test.YtophcoaikelopaaDoorSData
import Derived.Test.YtophcoaikelopaaDoorApp
import Derived.Outline
import Derived.LoopTactic
namespace Go.Proofs.YtophcoaikelopaaDoor
open Go.RowKit

/-- The number of the first column of that name, or -1. -/
def findC (l : List Col) (s : ByteArray) : Int := match l.findIdx? (fun c => c.name.toList == s.toList) with | some i => i | none => -1
/-- The number of the first index on that column, or -1. -/
def findI (l : List Idx) (s : ByteArray) : Int := match l.findIdx? (fun c => c.col.toList == s.toList) with | some i => i | none => -1
section
variable {α : Type} {p : α → Bool} {l : List α}
theorem find_here {k : Nat} (hk : k < l.length) (hno : ∀ j (hj : j < k), p (l[j]'(by omega)) = false) (h : p l[k] = true) : l.findIdx? p = some k := by
  rw [List.findIdx?_eq_some_iff_getElem]
  exact ⟨hk, h, fun j hj => by simp [hno j hj]⟩
theorem find_none (hno : ∀ j (hj : j < l.length), p l[j] = false) : l.findIdx? p = none := by
  rw [List.findIdx?_eq_none_iff]
  intro x hx
  obtain ⟨j, hj, rfl⟩ := List.getElem_of_mem hx
  exact hno j hj
end
theorem findC_here {l : List Col} {s : ByteArray} {k : Nat} (hk : k < l.length) (hno : ∀ j (_ : j < k) (hl : j < l.length), (l[j].name.toList == s.toList) = false) (h : (l[k].name.toList == s.toList) = true) : findC l s = k := by
  unfold findC; rw [find_here hk (fun j hj => hno j hj (by omega)) h]
theorem findC_none {l : List Col} {s : ByteArray} (hno : ∀ j (hl : j < l.length), (l[j].name.toList == s.toList) = false) : findC l s = -1 := by
  unfold findC; rw [find_none (fun j hj => hno j hj)]
theorem findI_here {l : List Idx} {s : ByteArray} {k : Nat} (hk : k < l.length) (hno : ∀ j (_ : j < k) (hl : j < l.length), (l[j].col.toList == s.toList) = false) (h : (l[k].col.toList == s.toList) = true) : findI l s = k := by
  unfold findI; rw [find_here hk (fun j hj => hno j hj (by omega)) h]
theorem findI_none {l : List Idx} {s : ByteArray} (hno : ∀ j (hl : j < l.length), (l[j].col.toList == s.toList) = false) : findI l s = -1 := by
  unfold findI; rw [find_none (fun j hj => hno j hj)]

set_option maxHeartbeats 400000 in
theorem findfn_any (c : Col) (b : Nat) (s : ByteArray) (w : World) (hp : b < w.heap.size) (hs : w.cell? ⟨b, 0, none⟩ = some (.string s)) :
    Calls Tryd.prog 40 #[c.val, .pointer (some ⟨b, 0, none⟩)] w fun e w' => e = .returned (.bool (c.name.toList == s.toList)) ∧ Below w.heap.size w w' := by
  have hs2 : ∀ o, (w.alloc o).cell? ⟨b, 0, none⟩ = some (.string s) := fun o => (World.cell?_alloc_lt w o _ hp).trans hs
  go_enter Tryd.func40, Tryd.ntmps40
  go_wp2
  go_ret
  exact ⟨rfl, (Below.refl _ _).alloc (Nat.le_refl _) _⟩
set_option maxHeartbeats 400000 in
theorem indexfn_any (c : Idx) (b : Nat) (s : ByteArray) (w : World) (hp : b < w.heap.size) (hs : w.cell? ⟨b, 0, none⟩ = some (.string s)) :
    Calls Tryd.prog 42 #[.agg #[.string c.col, .bool c.uniq], .pointer (some ⟨b, 0, none⟩)] w fun e w' => e = .returned (.bool (c.col.toList == s.toList)) ∧ Below w.heap.size w w' := by
  have hs2 : ∀ o, (w.alloc o).cell? ⟨b, 0, none⟩ = some (.string s) := fun o => (World.cell?_alloc_lt w o _ hp).trans hs
  go_enter Tryd.func42, Tryd.ntmps42
  go_wp2
  go_ret
  exact ⟨rfl, (Below.refl _ _).alloc (Nat.le_refl _) _⟩
set_option maxHeartbeats 1000000 in
theorem idxfC_any (l : List Col) (A : Option Addr) (n c b : Nat) (s : ByteArray) (w : World) (hr : Reads w w.heap.size 9 A n (colCells l)) (hn : n ≤ 1000) (hp : b < w.heap.size) (hs : w.cell? ⟨b, 0, none⟩ = some (.string s)) :
    Calls Tryd.prog 39 #[.slice A n c, .func (.func 40) #[] #[.pointer (some ⟨b, 0, none⟩)]] w fun e w' => e = .returned (.int .i64 (findC l s)) ∧ Below w.heap.size w w' := by
  obtain ⟨V, hV⟩ : ∃ V, V = findC l s := ⟨_, rfl⟩
  rw [← hV]
  have HV := Lib.hid hV
  have HR := Lib.hid hr
  have HS := Lib.hid hs
  have HL := Lib.hid (show l.length = n by have := hr.1; rw [colCells_len] at this; omega)
  clear hV hr hs
  go_enter Tryd.func39, Tryd.ntmps39
  go_wp2
  go_loopw [8] (fun i wr => ∃ k : Nat, k ≤ n ∧ i = .int .i64 k ∧ Hid (∀ j (hj : j < k) (hl : j < l.length), (l[j].name.toList == s.toList) = false) ∧ Hid (Below w.heap.size w wr)) (fun i _ => n - (intOf i).toNat)
  case atStart => exact ⟨0, Nat.zero_le _, rfl, fun j hj => absurd hj (by omega), Below.refl _ _⟩
  case round =>
    obtain ⟨k, hk, rfl, hno, hb⟩ := hrel
    by_cases hlt : k < n
    · obtain ⟨hl, b1, off, hA, hbB, f0, f1, f2, f3, f4, f5, f6, f7, f8⟩ := col_facts (HR.out.below hb.out) hlt
      subst hA
      have HC : Hid (∀ W, wr = W → Calls Tryd.prog 40 #[l[k].val, .pointer (some ⟨b, 0, none⟩)] W fun e w' => e = .returned (.bool (l[k].name.toList == s.toList)) ∧ Below w.heap.size w w') := by
        rintro W rfl
        exact (findfn_any l[k] b s wr (Nat.lt_of_lt_of_le hp hb.out.size) ((hb.out.cell (p := ⟨b, 0, none⟩) hp).trans HS.out)).mono fun e w' ⟨h1, h2⟩ => ⟨h1, hb.out.trans (h2.mono hb.out.size)⟩
      have HT : Hid ((l[k].name.toList == s.toList) = true → V = k) := fun h => HV.out.trans (findC_here hl hno.out h)
      have HF : Hid ((l[k].name.toList == s.toList) = false → ∀ j (hj : j < k + 1) (hl : j < l.length), (l[j].name.toList == s.toList) = false) := fun h j hj hl => by
        by_cases e : j = k
        · subst e; exact h
        · exact hno.out j (by omega) hl
      have hz0 : (0 : Int) ≤ (k : Int) := by omega
      have hz1 : (k : Int) < (n : Int) := by omega
      generalize hq : (l[k].name.toList == s.toList) = q at *
      have HQ := Lib.hid hq
      clear hq
      generalize l[k] = cc at *
      cases q with
      | true =>
        obtain rfl := HT.out rfl
        go_wp2_with (go_at_call 40; refine (HC.out _ rfl).mono ?_; rintro e w' ⟨rfl, hb2⟩)
        go_ret
        exact ⟨rfl, hb2⟩
      | false =>
        have HN := Lib.hid (HF.out rfl)
        go_wp2_with (go_at_call 40; refine (HC.out _ rfl).mono ?_; rintro e w' ⟨rfl, hb2⟩)
        go_roundw
        case rel => exact ⟨k + 1, by omega, by go_num, HN, hb2⟩
        case measure => simp [intOf]; omega
    · obtain rfl : k = n := by omega
      obtain rfl : V = -1 := HV.out.trans (findC_none fun j hj => hno.out j (by have := HL.out; omega) hj)
      go_wp2
      go_ret
      exact ⟨rfl, hb.out⟩
set_option maxHeartbeats 1000000 in
theorem idxfI_any (l : List Idx) (A : Option Addr) (n c b : Nat) (s : ByteArray) (w : World) (hr : Reads w w.heap.size 2 A n (idxCells l)) (hn : n ≤ 1000) (hp : b < w.heap.size) (hs : w.cell? ⟨b, 0, none⟩ = some (.string s)) :
    Calls Tryd.prog 41 #[.slice A n c, .func (.func 42) #[] #[.pointer (some ⟨b, 0, none⟩)]] w fun e w' => e = .returned (.int .i64 (findI l s)) ∧ Below w.heap.size w w' := by
  obtain ⟨V, hV⟩ : ∃ V, V = findI l s := ⟨_, rfl⟩
  rw [← hV]
  have HV := Lib.hid hV
  have HR := Lib.hid hr
  have HS := Lib.hid hs
  have HL := Lib.hid (show l.length = n by have := hr.1; rw [idxCells_len] at this; omega)
  clear hV hr hs
  go_enter Tryd.func41, Tryd.ntmps41
  go_wp2
  go_loopw [8] (fun i wr => ∃ k : Nat, k ≤ n ∧ i = .int .i64 k ∧ Hid (∀ j (hj : j < k) (hl : j < l.length), (l[j].col.toList == s.toList) = false) ∧ Hid (Below w.heap.size w wr)) (fun i _ => n - (intOf i).toNat)
  case atStart => exact ⟨0, Nat.zero_le _, rfl, fun j hj => absurd hj (by omega), Below.refl _ _⟩
  case round =>
    obtain ⟨k, hk, rfl, hno, hb⟩ := hrel
    by_cases hlt : k < n
    · obtain ⟨hl, b1, off, hA, hbB, f0, f1⟩ := idx_facts (HR.out.below hb.out) hlt
      subst hA
      have HC : Hid (∀ W, wr = W → Calls Tryd.prog 42 #[.agg #[.string l[k].col, .bool l[k].uniq], .pointer (some ⟨b, 0, none⟩)] W fun e w' => e = .returned (.bool (l[k].col.toList == s.toList)) ∧ Below w.heap.size w w') := by
        rintro W rfl
        exact (indexfn_any l[k] b s wr (Nat.lt_of_lt_of_le hp hb.out.size) ((hb.out.cell (p := ⟨b, 0, none⟩) hp).trans HS.out)).mono fun e w' ⟨h1, h2⟩ => ⟨h1, hb.out.trans (h2.mono hb.out.size)⟩
      have HT : Hid ((l[k].col.toList == s.toList) = true → V = k) := fun h => HV.out.trans (findI_here hl hno.out h)
      have HF : Hid ((l[k].col.toList == s.toList) = false → ∀ j (hj : j < k + 1) (hl : j < l.length), (l[j].col.toList == s.toList) = false) := fun h j hj hl => by
        by_cases e : j = k
        · subst e; exact h
        · exact hno.out j (by omega) hl
      have hz0 : (0 : Int) ≤ (k : Int) := by omega
      have hz1 : (k : Int) < (n : Int) := by omega
      generalize hq : (l[k].col.toList == s.toList) = q at *
      have HQ := Lib.hid hq
      clear hq
      generalize l[k] = cc at *
      cases q with
      | true =>
        obtain rfl := HT.out rfl
        go_wp2_with (go_at_call 42; refine (HC.out _ rfl).mono ?_; rintro e w' ⟨rfl, hb2⟩)
        go_ret
        exact ⟨rfl, hb2⟩
      | false =>
        have HN := Lib.hid (HF.out rfl)
        go_wp2_with (go_at_call 42; refine (HC.out _ rfl).mono ?_; rintro e w' ⟨rfl, hb2⟩)
        go_roundw
        case rel => exact ⟨k + 1, by omega, by go_num, HN, hb2⟩
        case measure => simp [intOf]; omega
    · obtain rfl : k = n := by omega
      obtain rfl : V = -1 := HV.out.trans (findI_none fun j hj => hno.out j (by have := HL.out; omega) hj)
      go_wp2
      go_ret
      exact ⟨rfl, hb.out⟩
set_option maxHeartbeats 400000 in
theorem find_any (l : List Col) (A : Option Addr) (n c : Nat) (s : ByteArray) (x1 x2 x3 x4 x5 : Value) (w : World) (hr : Reads w w.heap.size 9 A n (colCells l)) (hn : n ≤ 1000) :
    Calls Tryd.prog 22 #[.agg #[x1, x2, .slice A n c, x3, x4, x5], .string s] w fun e w' => e = .returned (.int .i64 (findC l s)) ∧ Below w.heap.size w w' := by
  have HR := Lib.hid hr
  clear hr
  go_enter Tryd.func22, Tryd.ntmps22
  go_wp2_with (go_at_call 39; refine (idxfC_any l A n c _ s _ ?q1 hn ?q2 ?q3).mono ?_; (case q1 => exact ((HR.out.alloc (Nat.le_refl _) _).alloc (by simp) _).more (by simp; omega)); (case q2 => simp); (case q3 => clear HR; go_simp); rintro e w' ⟨rfl, hb⟩)
  go_ret
  exact ⟨rfl, (((Below.refl _ _).alloc (Nat.le_refl _) _).alloc (by simp) _).trans (hb.mono (by simp; omega))⟩
set_option maxHeartbeats 400000 in
theorem index_any (l : List Idx) (A : Option Addr) (n c : Nat) (s : ByteArray) (x1 x2 x3 x4 x5 : Value) (w : World) (hr : Reads w w.heap.size 2 A n (idxCells l)) (hn : n ≤ 1000) :
    Calls Tryd.prog 24 #[.agg #[x1, x2, x3, .slice A n c, x4, x5], .string s] w fun e w' => e = .returned (.int .i64 (findI l s)) ∧ Below w.heap.size w w' := by
  have HR := Lib.hid hr
  clear hr
  go_enter Tryd.func24, Tryd.ntmps24
  go_wp2_with (go_at_call 41; refine (idxfI_any l A n c _ s _ ?q1 hn ?q2 ?q3).mono ?_; (case q1 => exact ((HR.out.alloc (Nat.le_refl _) _).alloc (by simp) _).more (by simp; omega)); (case q2 => simp); (case q3 => clear HR; go_simp); rintro e w' ⟨rfl, hb⟩)
  go_ret
  exact ⟨rfl, (((Below.refl _ _).alloc (Nat.le_refl _) _).alloc (by simp) _).trans (hb.mono (by simp; omega))⟩
set_option maxHeartbeats 1000000 in
theorem refFind_any (l : List Col) (A : Option Addr) (n c : Nat) (s : ByteArray) (x1 x2 x3 x4 x5 : Value) (w : World) (hr : Reads w w.heap.size 9 A n (colCells l)) (hn : n ≤ 1000) :
    Calls Tryd.prog 23 #[.agg #[x1, x2, .slice A n c, x3, x4, x5], .string s] w fun e w' => e = .returned (.int .i64 (findC l s)) ∧ Below w.heap.size w w' := by
  obtain ⟨V, hV⟩ : ∃ V, V = findC l s := ⟨_, rfl⟩
  rw [← hV]
  have HV := Lib.hid hV
  have HR := Lib.hid hr
  have HL := Lib.hid (show l.length = n by have := hr.1; rw [colCells_len] at this; omega)
  clear hV hr
  go_enter Tryd.func23, Tryd.ntmps23
  go_wp2
  go_loopw [10] (fun i wr => ∃ k : Nat, k ≤ n ∧ i = .int .i64 k ∧ Hid (∀ j (_ : j < k) (hl : j < l.length), (l[j].name.toList == s.toList) = false) ∧ Hid (Below w.heap.size w wr)) (fun i _ => n - (intOf i).toNat)
  case atStart => exact ⟨0, Nat.zero_le _, rfl, fun j hj => absurd hj (by omega), (Below.refl _ _).alloc (Nat.le_refl _) _⟩
  case round =>
    obtain ⟨k, hk, rfl, hno, hb⟩ := hrel
    by_cases hlt : k < n
    · obtain ⟨hl, b1, off, hA, hbB, f0, f1, f2, f3, f4, f5, f6, f7, f8⟩ := col_facts (HR.out.below hb.out) hlt
      subst hA
      have HT : Hid ((l[k].name.toList == s.toList) = true → V = k) := fun h => HV.out.trans (findC_here hl hno.out h)
      have HF : Hid ((l[k].name.toList == s.toList) = false → ∀ j (_ : j < k + 1) (hl : j < l.length), (l[j].name.toList == s.toList) = false) := fun h j hj hl => by
        by_cases e : j = k
        · subst e; exact h
        · exact hno.out j (by omega) hl
      have hz0 : (0 : Int) ≤ (k : Int) := by omega
      have hz1 : (k : Int) < (n : Int) := by omega
      have HSZ := Lib.hid hb.out.size
      have HB2 : Hid (∀ o, Below w.heap.size w (wr.alloc o)) := fun o => hb.out.alloc hb.out.size o
      generalize l[k] = cc at *
      cases hq : (cc.name.toList == s.toList) with
      | true =>
        obtain rfl := HT.out hq
        go_wp2
        go_ret
        exact ⟨rfl, HB2.out _⟩
      | false =>
        have HN := Lib.hid (HF.out hq)
        go_wp2
        go_roundw
        case rel => exact ⟨k + 1, by omega, by go_num, HN, HB2.out _⟩
        case measure => simp [intOf]; omega
    · obtain rfl : k = n := by omega
      obtain rfl : V = -1 := HV.out.trans (findC_none fun j hj => hno.out j (by have := HL.out; omega) hj)
      go_wp2
      go_ret
      exact ⟨rfl, hb.out⟩
set_option maxHeartbeats 1000000 in
theorem refIndex_any (l : List Idx) (A : Option Addr) (n c : Nat) (s : ByteArray) (x1 x2 x3 x4 x5 : Value) (w : World) (hr : Reads w w.heap.size 2 A n (idxCells l)) (hn : n ≤ 1000) :
    Calls Tryd.prog 25 #[.agg #[x1, x2, x3, .slice A n c, x4, x5], .string s] w fun e w' => e = .returned (.int .i64 (findI l s)) ∧ Below w.heap.size w w' := by
  obtain ⟨V, hV⟩ : ∃ V, V = findI l s := ⟨_, rfl⟩
  rw [← hV]
  have HV := Lib.hid hV
  have HR := Lib.hid hr
  have HL := Lib.hid (show l.length = n by have := hr.1; rw [idxCells_len] at this; omega)
  clear hV hr
  go_enter Tryd.func25, Tryd.ntmps25
  go_wp2
  go_loopw [10] (fun i wr => ∃ k : Nat, k ≤ n ∧ i = .int .i64 k ∧ Hid (∀ j (_ : j < k) (hl : j < l.length), (l[j].col.toList == s.toList) = false) ∧ Hid (Below w.heap.size w wr)) (fun i _ => n - (intOf i).toNat)
  case atStart => exact ⟨0, Nat.zero_le _, rfl, fun j hj => absurd hj (by omega), (Below.refl _ _).alloc (Nat.le_refl _) _⟩
  case round =>
    obtain ⟨k, hk, rfl, hno, hb⟩ := hrel
    by_cases hlt : k < n
    · obtain ⟨hl, b1, off, hA, hbB, f0, f1⟩ := idx_facts (HR.out.below hb.out) hlt
      subst hA
      have HT : Hid ((l[k].col.toList == s.toList) = true → V = k) := fun h => HV.out.trans (findI_here hl hno.out h)
      have HF : Hid ((l[k].col.toList == s.toList) = false → ∀ j (_ : j < k + 1) (hl : j < l.length), (l[j].col.toList == s.toList) = false) := fun h j hj hl => by
        by_cases e : j = k
        · subst e; exact h
        · exact hno.out j (by omega) hl
      have hz0 : (0 : Int) ≤ (k : Int) := by omega
      have hz1 : (k : Int) < (n : Int) := by omega
      have HSZ := Lib.hid hb.out.size
      have HB2 : Hid (∀ o, Below w.heap.size w (wr.alloc o)) := fun o => hb.out.alloc hb.out.size o
      generalize l[k] = cc at *
      cases hq : (cc.col.toList == s.toList) with
      | true =>
        obtain rfl := HT.out hq
        go_wp2
        go_ret
        exact ⟨rfl, HB2.out _⟩
      | false =>
        have HN := Lib.hid (HF.out hq)
        go_wp2
        go_roundw
        case rel => exact ⟨k + 1, by omega, by go_num, HN, HB2.out _⟩
        case measure => simp [intOf]; omega
    · obtain rfl : k = n := by omega
      obtain rfl : V = -1 := HV.out.trans (findI_none fun j hj => hno.out j (by have := HL.out; omega) hj)
      go_wp2
      go_ret
      exact ⟨rfl, hb.out⟩
end Go.Proofs.YtophcoaikelopaaDoor
