/- A region that draws its order: loads first, then one operation that makes memory and may come ahead of loads, then the rest in a forced order, its last store onto a cell that was loaded. -/
import Derived.Test.YtophcoaikelopaaDoorCls
import Derived.Deep.RegionHeld3
namespace Go.Proofs.YtophcoaikelopaaDoor
open Go.RowKit

section
variable {P : Program} {ops : Array Oper} {Q : Exit → Act → World → Prop} {md : Region.Mode} {S : World → Prop} {m : Nat}

/-- Whatever order is picked, and S holds behind every operation whose number is below m. -/
def wpAnyG (P : Program) (md : Region.Mode) (ops : Array Oper) (Q : Exit → Act → World → Prop) (S : World → Prop) (m : Nat) : Nat → Array Bool → Act → World → Prop
  | 0, listed, a, w => Region.ready md ops listed = [] ∧ Q .normal a w
  | fuel + 1, listed, a, w =>
    (Region.ready md ops listed = [] → Q .normal a w) ∧
    ∀ i ∈ Region.ready md ops listed, wpOp P ops Q i (fun a' w' => (i < m → S w') ∧ wpAnyG P md ops Q S m fuel (listed.setIfInBounds i true) a' w') a w

theorem wpAny_of_G : ∀ (fuel : Nat) (listed : Array Bool) (a : Act) (w : World), wpAnyG P md ops Q S m fuel listed a w → wpAny P md ops Q fuel listed a w
  | 0, _, _, _, h => h
  | fuel + 1, _, _, _, h => ⟨h.1, fun i hi => wpOp_mono (fun a' w' h' => wpAny_of_G fuel _ a' w' h'.2) (h.2 i hi)⟩

theorem wpAnyG_first {i : Nat} {oi : Oper} {v : Value} (hi : ops[i]? = some oi) (hsel : ∀ (j : Nat) (o : Oper) cs b, ops[j]? = some o → o.op ≠ .select cs b)
    (hs : Region.sinkB md ops m = true) (hc : Region.chainB md ops m = true) (hm : m < ops.size) (him : i < m)
    (hQ : ∀ c a w, Q (.panic c) (a.put oi.dst v) w → Q (.panic c) a w) :
    ∀ (fuel : Nat) (listed : Array Bool) (a : Act) (w : World), HeadInv md ops m listed →
      (∀ j oj, ops[j]? = some oj → j ≠ i → listed.getD j true = false → (∀ e ∈ oj.after, Region.binds md e = true → e.on ≠ i) → oi.apart ops oj = true) →
      i ∈ Region.ready md ops listed → YieldsIf P ops S oi v a → S w →
      wpAnyG P md ops Q S m fuel (listed.setIfInBounds i true) (a.put oi.dst v) w → wpAnyG P md ops Q S m (fuel + 1) listed a w := by
  intro fuel
  induction fuel with
  | zero =>
    intro listed a w _ _ hr hy hS H
    refine ⟨fun h => (by rw [h] at hr; cases hr), fun j hj => ?_⟩
    by_cases hji : j = i
    · subst hji; exact hy.wpOp hi hS ⟨fun _ => hS, H⟩
    · have := ready_mono hj hji
      rw [H.1] at this
      cases this
  | succ fuel ih =>
    intro listed a w inv hfree hr hy hS H
    have hun := (mem_ready.1 hr).1
    refine ⟨fun h => (by rw [h] at hr; cases hr), fun j hj => ?_⟩
    by_cases hji : j = i
    · subst hji; exact hy.wpOp hi hS ⟨fun _ => hS, H⟩
    · have hjm : j < m := by
        rcases Nat.lt_or_ge j m with h | h
        · exact h
        · exact absurd hj (tail_waits hs hc hm inv _ i rfl him hun j h)
      have h1 := H.2 j (ready_mono hj hji)
      obtain ⟨hjun, oj, hoj, hall⟩ := mem_ready.1 hj
      have hnot : ∀ e ∈ oj.after, Region.binds md e = true → e.on ≠ i := fun e he hb heq => by
        have h1 := hall e he hb
        rw [heq, getD_both hun] at h1
        cases h1
      have h2 := wpOp_putIf hoj (hfree j oj hoj hji hjun hnot) (fun cs b => hsel i oi cs b hi) (fun cs b => hsel j oj cs b hoj) hQ hy h1
      have hfree' : ∀ k ok, ops[k]? = some ok → k ≠ i → (listed.setIfInBounds j true).getD k true = false →
          (∀ e ∈ ok.after, Region.binds md e = true → e.on ≠ i) → oi.apart ops ok = true := fun k ok hk hki hun hno => by
        refine hfree k ok hk hki ?_ hno
        by_cases hjk : j = k
        · subst hjk; exact hjun
        · rw [getD_set_ne true hjk] at hun; exact hun
      refine wpOp_mono (fun a' w' h3 => ⟨h3.2.1, ih (listed.setIfInBounds j true) a' w' (inv.set hj hjm) hfree' (ready_mono hr (Ne.symm hji)) h3.1 (h3.2.1 hjm) ?_⟩) h2
      rw [Array.setIfInBounds_comm _ _ hji]
      exact h3.2.2

/-- A forced order from number m on: nothing is owed. -/
theorem wpAnyG_of_seq : ∀ (l : List Oper) (k : Nat) (listed : Array Bool) (a : Act) (w : World), m ≤ k → (∀ j, l[j]? = ops[k + j]?) →
    Region.seqB md ops l.length k listed = true → wpList P ops Q l a w → wpAnyG P md ops Q S m l.length listed a w
  | [], _, _, _, _, _, _, hB, h => ⟨by simpa [Region.seqB] using hB, h⟩
  | o :: l, k, listed, a, w, hk, hl, hB, h => by
    have h0 : ops[k]? = some o := by simpa using (hl 0).symm
    simp only [List.length_cons, Region.seqB, Bool.and_eq_true, decide_eq_true_eq] at hB
    refine ⟨fun h1 => (by rw [hB.1] at h1; cases h1), fun i hi => ?_⟩
    rw [hB.1] at hi
    have hik : i = k := by simpa using hi
    subst hik
    have hw : wpOp P ops Q i (wpList P ops Q l) a w := by unfold wpOp; simp only [h0]; exact h
    exact wpOp_mono (fun a' w' h' => ⟨fun hlt => absurd hlt (by omega), wpAnyG_of_seq l (i + 1) _ a' w' (by omega) (fun j => by have := hl (j + 1); simpa [Nat.add_assoc, Nat.add_comm 1 j] using this) hB.2 h'⟩) hw

/-- Behind one operation: S, and what follows. -/
def ThenS (S : World → Prop) (Q : Exit → Act → World → Prop) (L : Act → World → Prop) : Exit → Act → World → Prop
  | .normal, a, w => S w ∧ L a w
  | e, a, w => Q e a w

/-- The loads, one after the other. -/
def wpHeld (P : Program) (ops : Array Oper) (S : World → Prop) (L : Act → Prop) : List Oper → Act → Prop
  | [], a => L a
  | o :: l, a => ∃ v, YieldsIf P ops S o v a ∧ wpHeld P ops S L l (a.put o.dst v)
theorem wpHeld_take {L : Act → Prop} {o : Oper} {l : List Oper} {a : Act} (v : Value) (hw : Region.wanted o (yielded ops a.tmps) = true) (hy : ∀ w, S w → (execOp a.eval o).run P w = .ok (.value v) w) (h : wpHeld P ops S L l (a.put o.dst v)) : wpHeld P ops S L (o :: l) a :=
  ⟨v, .inl ⟨hw, hy⟩, h⟩

theorem wpAnyG_lex {n g : Nat} {L : Act → Prop} {w : World} (hsel : Region.noSelect ops = true) (hs : Region.sinkB md ops m = true) (hc : Region.chainB md ops m = true) (hm : m < ops.size) (hnm : n ≤ m)
    (hQ : ∀ c a a' w, Q (.panic c) a w → Q (.panic c) a' w) (hS : S w)
    (hL : ∀ listed a, Region.seqB md ops g n listed = true → L a → wpAnyG P md ops Q S m g listed a w) :
    ∀ (l : List Oper) (k : Nat) (listed : Array Bool) (a : Act), (∀ j, j < l.length → l[j]? = ops[k + j]?) → k + l.length = n → HeadInv md ops m listed →
    Region.lexHead md ops g l.length k listed = true → wpHeld P ops S L l a → wpAnyG P md ops Q S m (l.length + g) listed a w
  | [], k, listed, a, _, hk, _, hB, h => by
    have : k = n := by simpa using hk
    subst this
    rw [List.length_nil, Nat.zero_add]
    exact hL listed a (by simpa [Region.lexHead] using hB) h
  | o :: l, k, listed, a, hl, hk, inv, hB, h => by
    have h0 : ops[k]? = some o := by simpa using (hl 0 (by simp)).symm
    simp only [List.length_cons, Region.lexHead, Bool.and_eq_true] at hB
    obtain ⟨⟨hr, hf⟩, hB'⟩ := hB
    have hkm : k < m := by simp only [List.length_cons] at hk; omega
    have hr' : k ∈ Region.ready md ops listed := by simpa using hr
    obtain ⟨v, hy, hK⟩ := h
    rw [List.length_cons, show l.length + 1 + g = (l.length + g) + 1 by omega]
    exact wpAnyG_first h0 (Region.noSelect_spec hsel) hs hc hm hkm (fun c a' w' => hQ c _ _ w') (l.length + g) listed a w inv (Region.free_spec h0 hf) hr' hy hS
      (wpAnyG_lex hsel hs hc hm hnm hQ hS hL l (k + 1) _ _ (fun j hj => by have := hl (j + 1) (by simp; omega); simpa [Nat.add_assoc, Nat.add_comm 1 j] using this) (by simp only [List.length_cons] at hk; omega) (inv.set hr' hkm) hB' hK)

def heldTailB (l : List Oper) (n : Nat) : Bool :=
  Region.noSelect l.toArray && decide (n + 1 < l.toArray.size) && Region.sinkB .any l.toArray (n + 1) && Region.chainB .any l.toArray (n + 1) && Region.lexHead .any l.toArray (l.toArray.size - n) n 0 (Array.replicate l.toArray.size false)
end
/-- The first n operations are loads and the like in S; number n may come ahead of them and keeps S; then the forced order. -/
theorem wp_region_held_tail {P : Program} {Q : Exit → Act → World → Prop} {id : Nat} {a : Act} {w : World} {l : List Oper} {o : Oper} {rest : List Oper} (S : World → Prop) (n : Nat) (hm : P.follows .mixedOrders = true) (hB : heldTailB l n = true) (hd : l.drop n = o :: rest)
    (hS : S w.drew) (h : wpHeld P l.toArray S (fun a' => wpList P l.toArray (ThenS S (NoPanic Q) (wpList P l.toArray (NoPanic Q) rest)) [o] a' w.drew) (l.take n) a) : (Code.region id l.toArray true).wp P Q a w := by
  refine wp_region_noPanic ?_
  simp only [heldTailB, Bool.and_eq_true, decide_eq_true_eq] at hB
  obtain ⟨⟨⟨⟨hsel, hn⟩, hs⟩, hc⟩, hlex⟩ := hB
  have hn' : n + 1 < l.length := by simpa using hn
  have htl : (l.take n).length = n := by simp; omega
  have hrl : rest.length + 1 = l.toArray.size - n := by have := congrArg List.length hd; simp at this ⊢; omega
  have hat : ∀ j, (o :: rest)[j]? = l.toArray[n + j]? := fun j => by rw [← hd, List.getElem?_drop]; simp
  have inv0 : HeadInv .any l.toArray (n + 1) (Array.replicate l.toArray.size false) :=
    ⟨by simp, fun j oj _ hl => (by rw [getD_replicate_false] at hl; cases hl), fun t _ ht => getD_in (by simpa using ht) (getD_replicate_false _ _)⟩
  refine wp_region_any hm (wpAny_of_G (S := S) (m := n + 1) _ _ _ _ ?_)
  have := wpAnyG_lex (P := P) (Q := NoPanic Q) (md := .any) (S := S) (m := n + 1) (n := n) (g := l.toArray.size - n) hsel hs hc hn (Nat.le_succ _) (fun _ _ _ _ h => h) hS
    (fun listed a' hseq hL => ?_) (l.take n) 0 _ a (fun j hj => by
      have hj' : j < n := by rw [htl] at hj; exact hj
      simp [hj']) (by simpa using htl) inv0 (by rw [htl]; exact hlex) h
  · rw [htl, show n + (l.toArray.size - n) = l.toArray.size by omega] at this
    exact this
  · rw [← hrl] at hseq ⊢
    simp only [Region.seqB, Bool.and_eq_true, decide_eq_true_eq] at hseq
    refine ⟨fun h1 => (by rw [hseq.1] at h1; cases h1), fun i hi => ?_⟩
    rw [hseq.1] at hi
    have hik : i = n := by simpa using hi
    subst hik
    have h0 : l.toArray[i]? = some o := by simpa using (hat 0).symm
    have hw : wpOp P l.toArray (ThenS S (NoPanic Q) (wpList P l.toArray (NoPanic Q) rest)) i (fun a' w' => S w' ∧ wpList P l.toArray (NoPanic Q) rest a' w') a' w.drew := by
      unfold wpOp; simp only [h0]; exact hL
    have hw2 : wpOp P l.toArray (NoPanic Q) i (fun a' w' => S w' ∧ wpList P l.toArray (NoPanic Q) rest a' w') a' w.drew := by
      unfold wpOp at hw ⊢
      simp only [h0] at hw ⊢
      exact hw
    exact wpOp_mono (fun a'' w'' h' => ⟨fun _ => h'.1, wpAnyG_of_seq rest (i + 1) _ a'' w'' (Nat.le_refl _) (fun j => by have := hat (j + 1); simpa [Nat.add_assoc, Nat.add_comm 1 j] using this) hseq.2 h'.2⟩) hw2
end Go.Proofs.YtophcoaikelopaaDoor
