/- A region that draws its order: loads first, then some operations in a forced order that may come ahead of loads and keep S, then the rest. -/
import Derived.Test.YtophcoaikelopaaDoorOrd
namespace Go.Proofs.YtophcoaikelopaaDoor
open Go.RowKit

section
variable {P : Program} {ops : Array Oper} {Q : Exit → Act → World → Prop} {md : Region.Mode} {S : World → Prop} {m : Nat}
/-- Operation by operation, S behind each. -/
def wpListS (P : Program) (ops : Array Oper) (Q : Exit → Act → World → Prop) (S : World → Prop) (L : Act → World → Prop) : List Oper → Act → World → Prop
  | [], a, w => L a w
  | o :: rest, a, w => wpList P ops (ThenS S Q (wpListS P ops Q S L rest)) [o] a w
theorem wpAnyG_mid {rest : List Oper} : ∀ (l : List Oper) (k : Nat) (listed : Array Bool) (a : Act) (w : World), k + l.length = m → (∀ j, (l ++ rest)[j]? = ops[k + j]?) →
    Region.seqB md ops (l ++ rest).length k listed = true → wpListS P ops Q S (wpList P ops Q rest) l a w → wpAnyG P md ops Q S m (l ++ rest).length listed a w
  | [], k, listed, a, w, hk, hl, hB, h => by
    have : k = m := by simpa using hk
    subst this
    exact wpAnyG_of_seq rest k listed a w (Nat.le_refl _) hl hB h
  | o :: l, k, listed, a, w, hk, hl, hB, h => by
    have h0 : ops[k]? = some o := by simpa using (hl 0).symm
    simp only [List.cons_append, List.length_cons, Region.seqB, Bool.and_eq_true, decide_eq_true_eq] at hB
    refine ⟨fun h1 => (by rw [hB.1] at h1; cases h1), fun i hi => ?_⟩
    rw [hB.1] at hi
    have hik : i = k := by simpa using hi
    subst hik
    have hw : wpOp P ops (ThenS S Q (wpListS P ops Q S (wpList P ops Q rest) l)) i (fun a' w' => S w' ∧ wpListS P ops Q S (wpList P ops Q rest) l a' w') a w := by
      unfold wpOp; simp only [h0]; exact h
    have hw2 : wpOp P ops Q i (fun a' w' => S w' ∧ wpListS P ops Q S (wpList P ops Q rest) l a' w') a w := by
      unfold wpOp at hw ⊢
      simp only [h0] at hw ⊢
      exact hw
    exact wpOp_mono (fun a' w' h' => ⟨fun _ => h'.1, wpAnyG_mid l (i + 1) _ a' w' (by simp only [List.length_cons] at hk; omega) (fun j => by have := hl (j + 1); simpa [Nat.add_assoc, Nat.add_comm 1 j] using this) hB.2 h'.2⟩) hw2
end
def heldMidB (l : List Oper) (n m : Nat) : Bool :=
  Region.noSelect l.toArray && decide (m < l.toArray.size) && decide (n ≤ m) && Region.sinkB .any l.toArray m && Region.chainB .any l.toArray m && Region.lexHead .any l.toArray (l.toArray.size - n) n 0 (Array.replicate l.toArray.size false)
theorem wp_region_held_mid {P : Program} {Q : Exit → Act → World → Prop} {id : Nat} {a : Act} {w : World} {l : List Oper} {rest : List Oper} (mid : List Oper) (S : World → Prop) (n m : Nat) (hm : P.follows .mixedOrders = true) (hB : heldMidB l n m = true) (hd : l.drop n = mid ++ rest) (hmm : n + mid.length = m)
    (hS : S w.drew) (h : wpHeld P l.toArray S (fun a' => wpListS P l.toArray (NoPanic Q) S (wpList P l.toArray (NoPanic Q) rest) mid a' w.drew) (l.take n) a) : (Code.region id l.toArray true).wp P Q a w := by
  refine wp_region_noPanic ?_
  simp only [heldMidB, Bool.and_eq_true, decide_eq_true_eq] at hB
  obtain ⟨⟨⟨⟨⟨hsel, hn⟩, hnm⟩, hs⟩, hc⟩, hlex⟩ := hB
  have hn' : m < l.length := by simpa using hn
  have htl : (l.take n).length = n := by simp; omega
  have hrl : (mid ++ rest).length = l.toArray.size - n := by rw [← hd]; simp
  have hat : ∀ j, (mid ++ rest)[j]? = l.toArray[n + j]? := fun j => by rw [← hd, List.getElem?_drop]; simp
  have inv0 : HeadInv .any l.toArray m (Array.replicate l.toArray.size false) :=
    ⟨by simp, fun j oj _ hl => (by rw [getD_replicate_false] at hl; cases hl), fun t _ ht => getD_in (by simpa using ht) (getD_replicate_false _ _)⟩
  refine wp_region_any hm (wpAny_of_G (S := S) (m := m) _ _ _ _ ?_)
  have := wpAnyG_lex (P := P) (Q := NoPanic Q) (md := .any) (S := S) (m := m) (n := n) (g := l.toArray.size - n) hsel hs hc hn hnm (fun _ _ _ _ h => h) hS
    (fun listed a' hseq hL => by
      rw [← hrl] at hseq ⊢
      exact wpAnyG_mid mid n listed a' _ hmm hat hseq hL) (l.take n) 0 _ a (fun j hj => by
      have hj' : j < n := by rw [htl] at hj; exact hj
      simp [hj']) (by simpa using htl) inv0 (by rw [htl]; exact hlex) h
  rw [htl, show n + (l.toArray.size - n) = l.toArray.size by simp; omega] at this
  exact this
end Go.Proofs.YtophcoaikelopaaDoor
