/- A region that draws its order, walked by a script: at each place either a load (an operation that yields the same in every world of S, and may come first) or the one operation that is ready. -/
import Derived.Test.YtophcoaikelopaaDoorOrdB
namespace Go.Proofs.YtophcoaikelopaaDoor
open Go.RowKit

section
variable {P : Program} {ops : Array Oper} {Q : Exit → Act → World → Prop} {md : Region.Mode} {S : World → Prop} {m : Nat}
def okScript (md : Region.Mode) (ops : Array Oper) (g m : Nat) : List (Bool × Nat) → Array Bool → Bool
  | [], listed => Region.seqB md ops g m listed
  | (true, i) :: r, listed => decide (i < m) && ((Region.ready md ops listed).contains i && Region.free md ops listed i) && okScript md ops g m r (listed.setIfInBounds i true)
  | (false, i) :: r, listed => decide (i < m) && decide (Region.ready md ops listed = [i]) && okScript md ops g m r (listed.setIfInBounds i true)
def wpScript (P : Program) (ops : Array Oper) (Q : Exit → Act → World → Prop) (S : World → Prop) (rest : List Oper) : List (Bool × Nat) → Act → World → Prop
  | [], a, w => wpList P ops Q rest a w
  | (true, i) :: r, a, w => ∃ o v, ops[i]? = some o ∧ YieldsIf P ops S o v a ∧ wpScript P ops Q S rest r (a.put o.dst v) w
  | (false, i) :: r, a, w => ∃ o, ops[i]? = some o ∧ wpList P ops (ThenS S Q (wpScript P ops Q S rest r)) [o] a w
theorem wpScript_take {rest : List Oper} {i : Nat} {r : List (Bool × Nat)} {a : Act} {w : World} {o : Oper} (v : Value) (ho : ops[i]? = some o) (hw : Region.wanted o (yielded ops a.tmps) = true) (hy : ∀ w, S w → (execOp a.eval o).run P w = .ok (.value v) w) (h : wpScript P ops Q S rest r (a.put o.dst v) w) : wpScript P ops Q S rest ((true, i) :: r) a w :=
  ⟨o, v, ho, .inl ⟨hw, hy⟩, h⟩
theorem wpScript_skip {rest : List Oper} {i : Nat} {r : List (Bool × Nat)} {a : Act} {w : World} {o : Oper} (ho : ops[i]? = some o) (hw : Region.wanted o (yielded ops a.tmps) = false) (h : wpScript P ops Q S rest r (a.put o.dst undef) w) : wpScript P ops Q S rest ((true, i) :: r) a w :=
  ⟨o, undef, ho, .inr ⟨hw, rfl⟩, h⟩
theorem wpScript_do {rest : List Oper} {i : Nat} {r : List (Bool × Nat)} {a : Act} {w : World} {o : Oper} (ho : ops[i]? = some o) (h : wpList P ops (ThenS S Q (wpScript P ops Q S rest r)) [o] a w) : wpScript P ops Q S rest ((false, i) :: r) a w := ⟨o, ho, h⟩
theorem wpAnyG_script {rest : List Oper} (hsel : Region.noSelect ops = true) (hs : Region.sinkB md ops m = true) (hc : Region.chainB md ops m = true) (hm : m < ops.size)
    (hQ : ∀ c a a' w, Q (.panic c) a w → Q (.panic c) a' w) (hrest : ∀ j, rest[j]? = ops[m + j]?) :
    ∀ (sc : List (Bool × Nat)) (listed : Array Bool) (a : Act) (w : World), HeadInv md ops m listed → okScript md ops rest.length m sc listed = true → S w → wpScript P ops Q S rest sc a w →
      wpAnyG P md ops Q S m (sc.length + rest.length) listed a w
  | [], listed, a, w, _, hB, _, h => by
    rw [List.length_nil, Nat.zero_add]
    exact wpAnyG_of_seq rest m listed a w (Nat.le_refl _) hrest hB h
  | (true, i) :: r, listed, a, w, inv, hB, hS, h => by
    simp only [okScript, Bool.and_eq_true, decide_eq_true_eq] at hB
    obtain ⟨⟨him, hr, hf⟩, hB'⟩ := hB
    have hr' : i ∈ Region.ready md ops listed := by simpa using hr
    obtain ⟨o, v, ho, hy, hK⟩ := h
    rw [List.length_cons, show r.length + 1 + rest.length = (r.length + rest.length) + 1 by omega]
    exact wpAnyG_first ho (Region.noSelect_spec hsel) hs hc hm him (fun c a' w' => hQ c _ _ w') (r.length + rest.length) listed a w inv (Region.free_spec ho hf) hr' hy hS
      (wpAnyG_script hsel hs hc hm hQ hrest r _ _ _ (inv.set hr' him) hB' hS hK)
  | (false, i) :: r, listed, a, w, inv, hB, hS, h => by
    simp only [okScript, Bool.and_eq_true, decide_eq_true_eq] at hB
    obtain ⟨⟨him, hr⟩, hB'⟩ := hB
    obtain ⟨o, ho, hK⟩ := h
    have hr' : i ∈ Region.ready md ops listed := by rw [hr]; exact List.mem_singleton.2 rfl
    rw [List.length_cons, show r.length + 1 + rest.length = (r.length + rest.length) + 1 by omega]
    refine ⟨fun h1 => (by rw [hr] at h1; cases h1), fun j hj => ?_⟩
    rw [hr] at hj
    have hik : j = i := by simpa using hj
    subst hik
    have hw : wpOp P ops (ThenS S Q (wpScript P ops Q S rest r)) j (fun a' w' => S w' ∧ wpScript P ops Q S rest r a' w') a w := by
      unfold wpOp; simp only [ho]; exact hK
    have hw2 : wpOp P ops Q j (fun a' w' => S w' ∧ wpScript P ops Q S rest r a' w') a w := by
      unfold wpOp at hw ⊢
      simp only [ho] at hw ⊢
      exact hw
    exact wpOp_mono (fun a' w' h' => ⟨fun _ => h'.1, wpAnyG_script hsel hs hc hm hQ hrest r _ a' w' (inv.set hr' him) hB' h'.1 h'.2⟩) hw2
end
def scriptB (l : List Oper) (m : Nat) (sc : List (Bool × Nat)) : Bool :=
  Region.noSelect l.toArray && decide (m < l.toArray.size) && Region.sinkB .any l.toArray m && Region.chainB .any l.toArray m && decide (sc.length = m) && okScript .any l.toArray (l.toArray.size - m) m sc (Array.replicate l.toArray.size false)
theorem wp_region_script {P : Program} {Q : Exit → Act → World → Prop} {id : Nat} {a : Act} {w : World} {l : List Oper} (S : World → Prop) (m : Nat) (sc : List (Bool × Nat)) (hm : P.follows .mixedOrders = true) (hB : scriptB l m sc = true)
    (hS : S w.drew) (h : wpScript P l.toArray (NoPanic Q) S (l.drop m) sc a w.drew) : (Code.region id l.toArray true).wp P Q a w := by
  refine wp_region_noPanic ?_
  simp only [scriptB, Bool.and_eq_true, decide_eq_true_eq] at hB
  obtain ⟨⟨⟨⟨⟨hsel, hn⟩, hs⟩, hc⟩, hsc⟩, hok⟩ := hB
  have hrl : (l.drop m).length = l.toArray.size - m := by simp
  have hn' : m < l.length := by simpa using hn
  have inv0 : HeadInv .any l.toArray m (Array.replicate l.toArray.size false) :=
    ⟨by simp, fun j oj _ hl => (by rw [getD_replicate_false] at hl; cases hl), fun t _ ht => getD_in (by simpa using ht) (getD_replicate_false _ _)⟩
  refine wp_region_any hm (wpAny_of_G (S := S) (m := m) _ _ _ _ ?_)
  have := wpAnyG_script (P := P) (Q := NoPanic Q) (md := .any) (S := S) (m := m) (rest := l.drop m) hsel hs hc hn (fun _ _ _ _ h => h) (fun j => by rw [List.getElem?_drop]; simp) sc _ a _ inv0 (by rw [hrl]; exact hok) hS h
  rw [hrl, hsc, show m + (l.toArray.size - m) = l.toArray.size by simp; omega] at this
  exact this
end Go.Proofs.YtophcoaikelopaaDoor
