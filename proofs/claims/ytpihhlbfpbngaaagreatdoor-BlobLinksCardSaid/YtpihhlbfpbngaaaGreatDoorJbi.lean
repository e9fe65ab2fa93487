/- The walks and laws that the claim leans on, part 35. -/
import Derived.Test.YtpihhlbfpbngaaaGreatDoorJbh
namespace Go.Proofs.YtpihhlbfpbngaaaGreatDoor
open Go.RowKit Go.Maps
def relF (f : Nat → Option Nat) (l : List Nat) : Nat → Option Nat := l.foldl (fun g p => updF g (pOff p) none) f
theorem relF_snoc (f : Nat → Option Nat) (l : List Nat) (p : Nat) : relF f (l ++ [p]) = updF (relF f l) (pOff p) none := by simp [relF]
theorem relF_out : ∀ (l : List Nat) (f : Nat → Option Nat) (o : Nat), o ∉ l.map pOff → relF f l o = f o
  | [], _, _, _ => rfl
  | p :: l, f, o, h => by
    show relF (updF f (pOff p) none) l o = f o
    rw [relF_out l _ o (fun hh => h (by simp at hh ⊢; exact .inr hh))]
    unfold updF
    rw [if_neg (fun hh => h (by simp [hh]))]
theorem relF_in : ∀ (l : List Nat) (f : Nat → Option Nat) (o : Nat), o ∈ l.map pOff → relF f l o = none
  | p :: l, f, o, h => by
    show relF (updF f (pOff p) none) l o = none
    by_cases hh : o ∈ l.map pOff
    · exact relF_in l _ o hh
    · rw [relF_out l _ o hh]
      have : o = pOff p := by
        rw [List.map_cons] at h
        rcases List.mem_cons.1 h with h | h
        · exact h
        · exact absurd h hh
      unfold updF
      rw [if_pos this]
section
set_option maxRecDepth 100000
set_option maxHeartbeats 4000000
variable {a : DA} {L T s n K : Nat} {x : HA} {cs : Nat → CS} {f : Nat → Option Nat} {N m b0 : Nat} {S : Fp} {cur : Nat → Nat} {w w' : World}
theorem settle_any (h : DS a L T s n K x cs f N m b0 S cur w) (A1 : Option Addr) (n1 c1 : Nat) (keep : List Nat) (h1 : Reads w w.heap.size 1 A1 n1 (uCells keep)) (hA : ∀ ad, A1 = some ad → ¬ x.fp ad.block) (hf : ∀ p ∈ keep, f (pOff p) = some p) (hn : (keep.map pOff).Nodup) (hN : N + n1 ≤ 1000000000) (hn1 : n1 ≤ 1000000) (v2 : Value) :
    Calls Tryz.prog 82 #[.pointer (some ⟨x.h, 0, none⟩), .slice A1 n1 c1, v2] w (RetRel a L T s n K x cs (relF f keep) (N + n1) (m - n1) b0 S cur w (.tuple #[])) := by
  have HR := Lib.hid h1
  have HAd := Lib.hid hA
  have HF := Lib.hid hf
  have HNd := Lib.hid hn
  have HL1 := Lib.hid (show keep.length = n1 by have := h1.1; simp [uCells] at this; omega)
  have HI0 : Hid (DS a L T s n K x cs (relF f (keep.take 0)) (N + 0) (m - 0) b0 S cur w ∧ Chg x.fp w w) := Lib.hid ⟨h, Chg.refl _ _⟩
  clear h h1 hA hf hn
  go_enter Tryz.func82, Tryz.ntmps82
  go_wp2
  go_loopw [12] (fun i wr => ∃ (k : Nat), k ≤ n1 ∧ i = .int .i64 k ∧ Hid (DS a L T s n K x cs (relF f (keep.take k)) (N + k) (m - k) b0 S cur wr ∧ Chg x.fp w wr)) (fun i _ => n1 - (Go.RowKit.intOf i).toNat)
  case atStart => exact ⟨0, Nat.zero_le _, rfl, HI0⟩
  case round =>
    clear HI0
    obtain ⟨k, hk, rfl, H⟩ := hrel
    by_cases hlt : k < n1
    · obtain ⟨hl, b, off, hA, hbB, f0⟩ := p_facts (H.out.2.reads HR.out (Nat.le_refl _) HAd.out) hlt
      subst hA
      have hnk : pOff keep[k] ∉ (keep.take k).map pOff := fun hh => by
        obtain ⟨q, hq, he⟩ := List.mem_map.1 hh
        obtain ⟨j, hj, hje⟩ := List.getElem_of_mem hq
        have hj2 : j < k := by simp at hj; omega
        have he2 : pOff keep[j] = pOff keep[k] := by rw [← he, ← hje]; simp
        exact (List.pairwise_iff_getElem.1 HNd.out) j k (by simp; omega) (by simpa using hl) hj2 (by simpa using he2)
      have hfk : relF f (keep.take k) (pOff keep[k]) = some keep[k] := by rw [relF_out _ _ _ hnk]; exact HF.out _ (List.getElem_mem hl)
      have HHo := Lib.hid (holds_any H.out.1.hs keep[k])
      rw [decide_eq_true hfk] at HHo
      have HRl : Hid (∀ W, Below wr.heap.size wr W → Calls Tryz.prog 173 #[.pointer (some ⟨x.h, 0, none⟩), .int .u64 (keep[k] : Int)] W (RetRel a L T s n K x cs (relF f (keep.take (k + 1))) (N + (k + 1)) (m - (k + 1)) b0 S cur W (.tuple #[]))) := Lib.hid (fun W hW => by
        have h2 := release_any (H.out.1.below hW) keep[k] hfk (by omega)
        rw [← relF_snoc, ← List.take_succ_eq_append_getElem hl, show m - k - 1 = m - (k + 1) by omega] at h2
        exact h2)
      clear hfk hnk
      have HC := Lib.hid H.out.2
      generalize keep[k] = p at *
      have hz5 : (0 : Int) ≤ (k : Int) := by omega
      have hz6 : (k : Int) < (n1 : Int) := by omega
      go_wp2_with (go_at_call 145; refine HHo.out.mono ?_; rintro e w2 ⟨rfl, hb2⟩; refine stop ?_)
      unfold Stop
      have HR2 := Lib.hid (HRl.out w2 hb2)
      have HB2 := Lib.hid hb2
      clear hb2 HRl HHo H
      unfold RetRel at HR2
      go_wp2_with (go_at_call 173; refine HR2.out.mono ?_; rintro e w3 ⟨rfl, hd3, hc3⟩; have HN3 : Hid (DS a L T s n K x cs (relF f (keep.take (k + 1))) (N + (k + 1)) (m - (k + 1)) b0 S cur w3 ∧ Chg x.fp w w3) := Lib.hid ⟨hd3, (HC.out.below HB2.out).trans hc3 (Grew.refl _ _)⟩; clear hd3 hc3)
      go_roundw
      case rel =>
        first
          | exact ⟨k + 1, by omega, by go_num, HN3⟩
          | (repeat apply Exists.intro
             refine ⟨?_, rfl⟩
             exact ⟨k + 1, by omega, by go_num, HN3⟩)
      case measure => simp [Go.RowKit.intOf]; omega
    · have hkn : n1 = k := by omega
      subst hkn
      have HE : Hid (DS a L T s n K x cs (relF f keep) (N + n1) (m - n1) b0 S cur wr ∧ Chg x.fp w wr) := Lib.hid (by
        have h := H.out
        rw [List.take_of_length_le (by rw [HL1.out]; exact Nat.le_refl _)] at h
        exact h)
      go_wp2
      go_end0
      exact ⟨rfl, HE.out.1, HE.out.2⟩
end
end Go.Proofs.YtpihhlbfpbngaaaGreatDoor
namespace Go.Proofs.YtpihhlbfpbngaaaGreatDoor
open Go.RowKit Go.Maps
def updX {α : Type} (f : Nat → α) (k : Nat) (v : α) : Nat → α := fun j => if j = k then v else f j
theorem updX_same {α : Type} (f : Nat → α) (k : Nat) (v : α) : updX f k v k = v := by simp [updX]
theorem updX_other {α : Type} {f : Nat → α} {k j : Nat} {v : α} (h : j ≠ k) : updX f k v j = f j := by simp [updX, h]
structure CI where
  cb : Nat → Option Nat
  tA : Nat → Option Addr
  tc : Nat → Nat
  kA : Nat → Option Addr
  kc : Nat → Nat
  dA : Nat → Option Addr
  dc : Nat → Nat
  tl : Nat → List (Nat × Nat)
  dl : Nat → List Nat
def CI.tv (c : CI) (k : Nat) : Value := .slice (c.tA k) (c.tl k).length (c.tc k)
def CI.kv (c : CI) (k : Nat) : Value := .slice (c.kA k) (c.tl k).length (c.kc k)
def CI.dv (c : CI) (k : Nat) : Value := .slice (c.dA k) (c.dl k).length (c.dc k)
structure ChI (w : World) (base mb N s K : Nat) (c : CI) : Prop where
  map : ChM w mb N s K c.cb
  mbb : mb < base
  blk : ∀ k g, k < K → c.cb k = some g → Blk w g 253 #[c.tv k, c.kv k, c.dv k] ∧ base ≤ g
  o1 : ∀ k, k < K → w.ownsRow base 3 1 (c.tv k) (c.tl k).length (jCells ((c.tl k).map (·.1)))
  o2 : ∀ k, k < K → w.ownsRow base 5 1 (c.kv k) (c.tl k).length (u8s ((c.tl k).map (·.2)))
  o3 : ∀ k, k < K → w.ownsRow base 3 1 (c.dv k) (c.dl k).length (jCells (c.dl k))
  a1 : ∀ k k' g, k < K → k' < K → (c.tv k).ownBlock = some g → (c.tv k').ownBlock = some g → k = k'
  a2 : ∀ k k' g, k < K → k' < K → (c.kv k).ownBlock = some g → (c.kv k').ownBlock = some g → k = k'
  a3 : ∀ k k' g, k < K → k' < K → (c.dv k).ownBlock = some g → (c.dv k').ownBlock = some g → k = k'
  a13 : ∀ k k' g, k < K → k' < K → (c.tv k).ownBlock = some g → (c.dv k').ownBlock ≠ some g
  ac : ∀ k k' g, k < K → k' < K → c.cb k = some g → c.cb k' = some g → k = k'
  none_ : ∀ k, k < K → c.cb k = none → c.tl k = [] ∧ c.dl k = [] ∧ c.tv k = .slice none 0 0 ∧ c.kv k = .slice none 0 0 ∧ c.dv k = .slice none 0 0
section
variable {w w' : World} {base mb N s K : Nat} {c : CI} {k g : Nat}
theorem ChI.chg {Z : Fp} (h : ChI w base mb N s K c) (hc : Chg Z w w') (hZ : ∀ g, base ≤ g → ¬ Z g) (hm : ¬ Z mb) : ChI w' base mb N s K c :=
  { h with
    map := h.map.chg hc hm
    blk := fun k g hk hg => ⟨hc.blk (h.blk k g hk hg).1 (hZ _ (h.blk k g hk hg).2), (h.blk k g hk hg).2⟩
    o1 := fun k hk => hc.own (h.o1 k hk) (fun g hg => hZ _ ((h.o1 k hk).lt g hg).1)
    o2 := fun k hk => hc.own (h.o2 k hk) (fun g hg => hZ _ ((h.o2 k hk).lt g hg).1)
    o3 := fun k hk => hc.own (h.o3 k hk) (fun g hg => hZ _ ((h.o3 k hk).lt g hg).1) }
theorem ChI.below (h : ChI w base mb N s K c) (hb : Below w.heap.size w w') : ChI w' base mb N s K c := h.chg (Chg.of_below (S := Fp.no) hb) (fun _ _ h => h) (fun h => h)
theorem ChI.made (h : ChI w base mb N s K c) (hk : k < K) (hn : c.cb k = none) (hb : base ≤ w.heap.size) (hm : ChM w' mb (N + 1) s K (updO c.cb k (some w.heap.size))) (hB : Blk w' w.heap.size 253 #[.slice none 0 0, .slice none 0 0, .slice none 0 0]) (hc : Chg (fun j => j = mb) w w') :
    ChI w' base mb (N + 1) s K { c with cb := updO c.cb k (some w.heap.size) } := by
  have hmm : ∀ {t : TypeId} {e : TypeId} {size n : Nat} {v : Value} {xs : List Value} {g : Nat}, w.ownsRow base e size v n xs → v.ownBlock = some g → ¬ g = mb := fun {_ _ _ _ _ _ g} ho hg e => by
    obtain ⟨D, hD, _⟩ := h.map
    exact map_ne_own hD ho (by rw [hg, e])
  obtain ⟨n1, n2, n3, n4, n5⟩ := h.none_ k hk hn
  refine ⟨hm, h.mbb, fun j g' hj hg' => ?_, fun j hj => hc.own (h.o1 j hj) (fun g hg => hmm (t := 3) (h.o1 j hj) hg), fun j hj => hc.own (h.o2 j hj) (fun g hg => hmm (t := 3) (h.o2 j hj) hg), fun j hj => hc.own (h.o3 j hj) (fun g hg => hmm (t := 3) (h.o3 j hj) hg), h.a1, h.a2, h.a3, h.a13, fun i j g' hi hj h1 h2 => ?_, fun j hj hj0 => ?_⟩
  · dsimp only at hg'
    unfold updO at hg'
    by_cases e : j = k
    · rw [if_pos e] at hg'
      injection hg' with hg'
      subst hg'
      subst e
      refine ⟨?_, hb⟩
      show Blk w' w.heap.size _ #[c.tv j, c.kv j, c.dv j]
      rw [n3, n4, n5]
      exact hB
    · rw [if_neg e] at hg'
      obtain ⟨b1, b2⟩ := h.blk j g' hj hg'
      refine ⟨hc.blk b1 (fun e' => ?_), b2⟩
      obtain ⟨D, hD, _⟩ := h.map
      exact blk_ne_map hD b1 e'
  · dsimp only at h1 h2
    unfold updO at h1 h2
    by_cases e1 : i = k
    · by_cases e2 : j = k
      · rw [e1, e2]
      · rw [if_pos e1] at h1
        rw [if_neg e2] at h2
        injection h1 with h1
        have := (h.blk j g' hj h2).1.lt
        omega
    · by_cases e2 : j = k
      · rw [if_neg e1] at h1
        rw [if_pos e2] at h2
        injection h2 with h2
        have := (h.blk i g' hi h1).1.lt
        omega
      · rw [if_neg e1] at h1
        rw [if_neg e2] at h2
        exact h.ac i j g' hi hj h1 h2
  · dsimp only at hj0
    unfold updO at hj0
    by_cases e : j = k
    · rw [if_pos e] at hj0; cases hj0
    · rw [if_neg e] at hj0
      exact h.none_ j hj hj0
def CI.take (c : CI) (k : Nat) (A2 : Option Addr) (c2 : Nat) (A4 : Option Addr) (c4 : Nat) (i kd : Nat) : CI :=
  { c with tA := updX c.tA k A2, tc := updX c.tc k c2, kA := updX c.kA k A4, kc := updX c.kc k c4, tl := updX c.tl k (c.tl k ++ [(i, kd)]) }
theorem ChI.take {w1 w2 w3 w4 : World} {A2 A4 : Option Addr} {n2 c2 n4 c4 i kd : Nat} (h : ChI w base mb N s K c) (hk : k < K) (hg : c.cb k = some g)
    (e1 : Chg Fp.no w w1) (g2 : w1.grownBy w2 (c.tv k).ownBlock) (r2 : w2.ownsRow base 3 1 (.slice A2 n2 c2) n2 (jCells ((c.tl k).map (·.1)) ++ [.int .i64 (i : Int)])) (hn2 : n2 = (c.tl k).length + 1) (b2 : (Value.slice A2 n2 c2).ownBlock = (c.tv k).ownBlock ∨ (Value.slice A2 n2 c2).ownBlock = some w1.heap.size)
    (e3 : Chg Fp.no w2 w3) (g4 : w3.grownBy w4 (c.kv k).ownBlock) (r4 : w4.ownsRow base 5 1 (.slice A4 n4 c4) n4 (u8s ((c.tl k).map (·.2)) ++ [.int .u8 (kd : Int)])) (hn4 : n4 = (c.tl k).length + 1) (b4 : (Value.slice A4 n4 c4).ownBlock = (c.kv k).ownBlock ∨ (Value.slice A4 n4 c4).ownBlock = some w3.heap.size) :
    ChI ((w4.setCell ⟨g, 0, none⟩ (.slice A2 n2 c2)).setCell ⟨g, 1, none⟩ (.slice A4 n4 c4)) base mb N s K (c.take k A2 c2 A4 c4 i kd) ∧ Chg (fun j => base ≤ j) w ((w4.setCell ⟨g, 0, none⟩ (.slice A2 n2 c2)).setCell ⟨g, 1, none⟩ (.slice A4 n4 c4)) := by
  obtain ⟨hgB, hgb⟩ := h.blk k g hk hg
  have z2 : (w2.heap.size) ≥ w1.heap.size := g2.size
  have z1 := e1.size
  have z3 := e3.size
  have hZ : Chg (fun j => j = g ∨ (c.tv k).ownBlock = some j ∨ (c.kv k).ownBlock = some j) w ((w4.setCell ⟨g, 0, none⟩ (.slice A2 n2 c2)).setCell ⟨g, 1, none⟩ (.slice A4 n4 c4)) := by
    have q1 : Chg (fun j => j = g ∨ (c.tv k).ownBlock = some j ∨ (c.kv k).ownBlock = some j) w w1 := e1.mono (fun _ h => h.elim)
    have q2 := q1.grown g2 (fun g' hg' => .inl (.inr (.inl hg')))
    have q3 := q2.trans e3 (fun _ h => h.elim)
    have q4 := q3.grown g4 (fun g' hg' => .inl (.inr (.inr hg')))
    exact (q4.setCell (.inl (.inl rfl)) _).setCell (.inl (.inl rfl)) _
  obtain ⟨D, hD, _⟩ := id h.map
  have nt : ∀ j, j < K → j ≠ k → ∀ g', (c.tv j).ownBlock = some g' → ¬ (g' = g ∨ (c.tv k).ownBlock = some g' ∨ (c.kv k).ownBlock = some g') := fun j hj hjk g' hg' hz => by
    rcases hz with e | e | e
    · subst e; exact own_blk_ne (h.o1 j hj) hgB (by decide) hg'
    · exact hjk (h.a1 j k g' hj hk hg' e)
    · rcases own_own_ne (h.o1 j hj) (h.o2 k hk) (by decide) with e2 | e2
      · rw [e2] at hg'; cases hg'
      · exact e2 (by rw [hg', e])
  have nk : ∀ j, j < K → j ≠ k → ∀ g', (c.kv j).ownBlock = some g' → ¬ (g' = g ∨ (c.tv k).ownBlock = some g' ∨ (c.kv k).ownBlock = some g') := fun j hj hjk g' hg' hz => by
    rcases hz with e | e | e
    · subst e; exact own_blk_ne (h.o2 j hj) hgB (by decide) hg'
    · rcases own_own_ne (h.o2 j hj) (h.o1 k hk) (by decide) with e2 | e2
      · rw [e2] at hg'; cases hg'
      · exact e2 (by rw [hg', e])
    · exact hjk (h.a2 j k g' hj hk hg' e)
  have nd : ∀ j, j < K → ∀ g', (c.dv j).ownBlock = some g' → ¬ (g' = g ∨ (c.tv k).ownBlock = some g' ∨ (c.kv k).ownBlock = some g') := fun j hj g' hg' hz => by
    rcases hz with e | e | e
    · subst e; exact own_blk_ne (h.o3 j hj) hgB (by decide) hg'
    · exact h.a13 k j g' hk hj e hg'
    · rcases own_own_ne (h.o3 j hj) (h.o2 k hk) (by decide) with e2 | e2
      · rw [e2] at hg'; cases hg'
      · exact e2 (by rw [hg', e])
  have fresh1 : ∀ g', g' < w.heap.size → (Value.slice A2 n2 c2).ownBlock = some g' → (c.tv k).ownBlock = some g' := fun g' hlt hg' => by
    rcases b2 with e | e
    · rw [← e]; exact hg'
    · rw [e] at hg'; injection hg' with hg'; omega
  have fresh2 : ∀ g', g' < w.heap.size → (Value.slice A4 n4 c4).ownBlock = some g' → (c.kv k).ownBlock = some g' := fun g' hlt hg' => by
    rcases b4 with e | e
    · rw [← e]; exact hg'
    · rw [e] at hg'; injection hg' with hg'; omega
  have hgl := hgB.lt
  have k1 := e1.blk hgB (fun h => h)
  have k2 := k1.grown g2 (fun e => own_blk_ne (h.o1 k hk) hgB (by decide) e.symm)
  have k3 := e3.blk k2 (fun h => h)
  have k4 := k3.grown g4 (fun e => own_blk_ne (h.o2 k hk) hgB (by decide) e.symm)
  have k5 := (k4.set_ 0 (.slice A2 n2 c2)).set_ 1 (.slice A4 n4 c4)
  have hne2 : ∀ u, (Value.slice A2 n2 c2).ownBlock = some u → u ≠ g := fun u hu e => by
    rw [e] at hu
    exact own_blk_ne r2 k2 (by decide) hu
  have hne4 : ∀ u, (Value.slice A4 n4 c4).ownBlock = some u → u ≠ g := fun u hu e => by
    rw [e] at hu
    exact own_blk_ne r4 k4 (by decide) hu
  have r3 := e3.own r2 (fun _ _ h => h)
  have o2' := e3.own ((e1.own (h.o2 k hk) (fun _ _ h => h)).kept g2 (own_own_ne (h.o2 k hk) (h.o1 k hk) (by decide))) (fun _ _ h => h)
  have r2' := r3.kept g4 (own_own_ne r3 o2' (by decide))
  have s2 := ownsRow_setCell_other (ownsRow_setCell_other r2' (a := ⟨g, 0, none⟩) (fun e => hne2 g e rfl) (.slice A2 n2 c2)) (a := ⟨g, 1, none⟩) (fun e => hne2 g e rfl) (.slice A4 n4 c4)
  have s4 := ownsRow_setCell_other (ownsRow_setCell_other r4 (a := ⟨g, 0, none⟩) (fun e => hne4 g e rfl) (.slice A2 n2 c2)) (a := ⟨g, 1, none⟩) (fun e => hne4 g e rfl) (.slice A4 n4 c4)
  have tvk : (c.take k A2 c2 A4 c4 i kd).tv k = .slice A2 n2 c2 := by
    show Value.slice (updX c.tA k A2 k) (updX c.tl k (c.tl k ++ [(i, kd)]) k).length (updX c.tc k c2 k) = _
    rw [updX_same, updX_same, updX_same, List.length_append, hn2]; rfl
  have kvk : (c.take k A2 c2 A4 c4 i kd).kv k = .slice A4 n4 c4 := by
    show Value.slice (updX c.kA k A4 k) (updX c.tl k (c.tl k ++ [(i, kd)]) k).length (updX c.kc k c4 k) = _
    rw [updX_same, updX_same, updX_same, List.length_append, hn4]; rfl
  have tvj : ∀ j, j ≠ k → (c.take k A2 c2 A4 c4 i kd).tv j = c.tv j := fun j hj => by
    show Value.slice (updX c.tA k A2 j) (updX c.tl k (c.tl k ++ [(i, kd)]) j).length (updX c.tc k c2 j) = _
    rw [updX_other hj, updX_other hj, updX_other hj]; rfl
  have kvj : ∀ j, j ≠ k → (c.take k A2 c2 A4 c4 i kd).kv j = c.kv j := fun j hj => by
    show Value.slice (updX c.kA k A4 j) (updX c.tl k (c.tl k ++ [(i, kd)]) j).length (updX c.kc k c4 j) = _
    rw [updX_other hj, updX_other hj, updX_other hj]; rfl
  have tlj : ∀ j, j ≠ k → (c.take k A2 c2 A4 c4 i kd).tl j = c.tl j := fun j hj => updX_other hj
  have tlk : (c.take k A2 c2 A4 c4 i kd).tl k = c.tl k ++ [(i, kd)] := updX_same _ _ _
  have dvj : ∀ j, (c.take k A2 c2 A4 c4 i kd).dv j = c.dv j := fun j => rfl
  have hmb : ¬ (mb = g ∨ (c.tv k).ownBlock = some mb ∨ (c.kv k).ownBlock = some mb) := fun hz => by
    rcases hz with e | e | e
    · exact blk_ne_map hD hgB e.symm
    · exact map_ne_own hD (h.o1 k hk) e.symm
    · exact map_ne_own hD (h.o2 k hk) e.symm
  refine ⟨⟨h.map.chg hZ hmb, h.mbb, fun j g' hj hg' => ?_, fun j hj => ?_, fun j hj => ?_, fun j hj => ?_, fun i' j g' hi hj h1 h2 => ?_, fun i' j g' hi hj h1 h2 => ?_, h.a3, fun i' j g' hi hj h1 => ?_, h.ac, fun j hj hj0 => ?_⟩, hZ.mono (fun j hj => ?_)⟩
  · by_cases e : j = k
    · subst e
      have hgg : g' = g := by
        have h9 : c.cb j = some g' := hg'
        rw [hg] at h9
        injection h9 with h9
        exact h9.symm
      subst hgg
      refine ⟨?_, hgb⟩
      rw [tvk, kvk, dvj]
      simpa using k5
    · obtain ⟨b1, b2'⟩ := h.blk j g' hj hg'
      refine ⟨?_, b2'⟩
      rw [tvj j e, kvj j e, dvj]
      refine hZ.blk b1 (fun hz => ?_)
      rcases hz with e' | e' | e'
      · subst e'; exact e (h.ac j k g' hj hk hg' hg)
      · exact own_blk_ne (h.o1 k hk) b1 (by decide) e'
      · exact own_blk_ne (h.o2 k hk) b1 (by decide) e'
  · by_cases e : j = k
    · subst e
      rw [tvk, tlk, List.map_append, show jCells ((c.tl j).map (·.1) ++ [(i, kd)].map (·.1)) = jCells ((c.tl j).map (·.1)) ++ [.int .i64 (i : Int)] by simp [jCells], List.length_append]
      rw [show (c.tl j).length + [(i, kd)].length = n2 by rw [hn2]; rfl]
      exact s2
    · rw [tvj j e, tlj j e]
      exact hZ.own (h.o1 j hj) (nt j hj e)
  · by_cases e : j = k
    · subst e
      rw [kvk, tlk, List.map_append, show u8s ((c.tl j).map (·.2) ++ [(i, kd)].map (·.2)) = u8s ((c.tl j).map (·.2)) ++ [.int .u8 (kd : Int)] by simp [u8s], List.length_append]
      rw [show (c.tl j).length + [(i, kd)].length = n4 by rw [hn4]; rfl]
      exact s4
    · rw [kvj j e, tlj j e]
      exact hZ.own (h.o2 j hj) (nk j hj e)
  · exact hZ.own (h.o3 j hj) (nd j hj)
  · by_cases e1' : i' = k
    · by_cases e2' : j = k
      · rw [e1', e2']
      · rw [e1', tvk] at h1
        rw [tvj j e2'] at h2
        exact absurd (h.a1 j k g' hj hk h2 (fresh1 g' ((h.o1 j hj).lt g' h2).2 h1)) e2'
    · by_cases e2' : j = k
      · rw [e2', tvk] at h2
        rw [tvj i' e1'] at h1
        exact absurd (h.a1 i' k g' hi hk h1 (fresh1 g' ((h.o1 i' hi).lt g' h1).2 h2)) e1'
      · rw [tvj i' e1'] at h1
        rw [tvj j e2'] at h2
        exact h.a1 i' j g' hi hj h1 h2
  · by_cases e1' : i' = k
    · by_cases e2' : j = k
      · rw [e1', e2']
      · rw [e1', kvk] at h1
        rw [kvj j e2'] at h2
        exact absurd (h.a2 j k g' hj hk h2 (fresh2 g' ((h.o2 j hj).lt g' h2).2 h1)) e2'
    · by_cases e2' : j = k
      · rw [e2', kvk] at h2
        rw [kvj i' e1'] at h1
        exact absurd (h.a2 i' k g' hi hk h1 (fresh2 g' ((h.o2 i' hi).lt g' h1).2 h2)) e1'
      · rw [kvj i' e1'] at h1
        rw [kvj j e2'] at h2
        exact h.a2 i' j g' hi hj h1 h2
  · intro h2
    rw [dvj] at h2
    by_cases e1' : i' = k
    · rw [e1', tvk] at h1
      exact h.a13 k j g' hk hj (fresh1 g' ((h.o3 j hj).lt g' h2).2 h1) h2
    · rw [tvj i' e1'] at h1
      exact h.a13 i' j g' hi hj h1 h2
  · have hjk : j ≠ k := fun e => by
      have h9 : c.cb j = none := hj0
      rw [e, hg] at h9
      cases h9
    rw [tlj j hjk, tvj j hjk, kvj j hjk, dvj]
    exact h.none_ j hj hj0
  · rcases hj with e | e | e
    · rw [e]; exact hgb
    · exact ((h.o1 k hk).lt j e).1
    · exact ((h.o2 k hk).lt j e).1
end
end Go.Proofs.YtpihhlbfpbngaaaGreatDoor
namespace Go.Proofs.YtpihhlbfpbngaaaGreatDoor
open Go.RowKit Go.Maps
section
variable {w w' : World} {base mb N s K : Nat} {c : CI} {k g : Nat}
def CI.zero : CI := ⟨fun _ => none, fun _ => none, fun _ => 0, fun _ => none, fun _ => 0, fun _ => none, fun _ => 0, fun _ => [], fun _ => []⟩
theorem ChI.zero (hm : ChM w mb N s K (fun _ => none)) (hb : mb < base) : ChI w base mb N s K CI.zero := by
  refine ⟨hm, hb, fun k g hk hg => ?_, fun k _ => World.ownsRow_nil _ _ _ _, fun k _ => World.ownsRow_nil _ _ _ _, fun k _ => World.ownsRow_nil _ _ _ _, fun k k' g _ _ h => ?_, fun k k' g _ _ h => ?_, fun k k' g _ _ h => ?_, fun k k' g _ _ h => ?_, fun k k' g _ _ h => ?_, fun k _ _ => ⟨rfl, rfl, rfl, rfl, rfl⟩⟩
  · cases hg
  · cases h
  · cases h
  · cases h
  · cases h
  · cases h
def CI.drop (c : CI) (k : Nat) (A2 : Option Addr) (c2 : Nat) (i : Nat) : CI :=
  { c with dA := updX c.dA k A2, dc := updX c.dc k c2, dl := updX c.dl k (c.dl k ++ [i]) }
theorem ChI.drop {w1 w2 : World} {A2 : Option Addr} {n2 c2 i : Nat} (h : ChI w base mb N s K c) (hk : k < K) (hg : c.cb k = some g)
    (e1 : Chg Fp.no w w1) (g2 : w1.grownBy w2 (c.dv k).ownBlock) (r2 : w2.ownsRow base 3 1 (.slice A2 n2 c2) n2 (jCells (c.dl k) ++ [.int .i64 (i : Int)])) (hn2 : n2 = (c.dl k).length + 1) (b2 : (Value.slice A2 n2 c2).ownBlock = (c.dv k).ownBlock ∨ (Value.slice A2 n2 c2).ownBlock = some w1.heap.size) :
    ChI (w2.setCell ⟨g, 2, none⟩ (.slice A2 n2 c2)) base mb N s K (c.drop k A2 c2 i) ∧ Chg (fun j => base ≤ j) w (w2.setCell ⟨g, 2, none⟩ (.slice A2 n2 c2)) := by
  obtain ⟨hgB, hgb⟩ := h.blk k g hk hg
  have z2 : (w2.heap.size) ≥ w1.heap.size := g2.size
  have z1 := e1.size
  have hZ : Chg (fun j => j = g ∨ (c.dv k).ownBlock = some j) w (w2.setCell ⟨g, 2, none⟩ (.slice A2 n2 c2)) := by
    have q1 : Chg (fun j => j = g ∨ (c.dv k).ownBlock = some j) w w1 := e1.mono (fun _ h => h.elim)
    exact (q1.grown g2 (fun g' hg' => .inl (.inr hg'))).setCell (.inl (.inl rfl)) _
  obtain ⟨D, hD, _⟩ := id h.map
  have nt : ∀ j, j < K → ∀ g', (c.tv j).ownBlock = some g' → ¬ (g' = g ∨ (c.dv k).ownBlock = some g') := fun j hj g' hg' hz => by
    rcases hz with e | e
    · subst e; exact own_blk_ne (h.o1 j hj) hgB (by decide) hg'
    · exact h.a13 j k g' hj hk hg' e
  have nk : ∀ j, j < K → ∀ g', (c.kv j).ownBlock = some g' → ¬ (g' = g ∨ (c.dv k).ownBlock = some g') := fun j hj g' hg' hz => by
    rcases hz with e | e
    · subst e; exact own_blk_ne (h.o2 j hj) hgB (by decide) hg'
    · rcases own_own_ne (h.o2 j hj) (h.o3 k hk) (by decide) with e2 | e2
      · rw [e2] at hg'; cases hg'
      · exact e2 (by rw [hg', e])
  have nd : ∀ j, j < K → j ≠ k → ∀ g', (c.dv j).ownBlock = some g' → ¬ (g' = g ∨ (c.dv k).ownBlock = some g') := fun j hj hjk g' hg' hz => by
    rcases hz with e | e
    · subst e; exact own_blk_ne (h.o3 j hj) hgB (by decide) hg'
    · exact hjk (h.a3 j k g' hj hk hg' e)
  have fresh1 : ∀ g', g' < w.heap.size → (Value.slice A2 n2 c2).ownBlock = some g' → (c.dv k).ownBlock = some g' := fun g' hlt hg' => by
    rcases b2 with e | e
    · rw [← e]; exact hg'
    · rw [e] at hg'; injection hg' with hg'; omega
  have k1 := e1.blk hgB (fun h => h)
  have k2 := k1.grown g2 (fun e => own_blk_ne (h.o3 k hk) hgB (by decide) e.symm)
  have k5 := k2.set_ 2 (.slice A2 n2 c2)
  have hne2 : ∀ u, (Value.slice A2 n2 c2).ownBlock = some u → u ≠ g := fun u hu e => by
    rw [e] at hu
    exact own_blk_ne r2 k2 (by decide) hu
  have s2 := ownsRow_setCell_other r2 (a := ⟨g, 2, none⟩) (fun e => hne2 g e rfl) (.slice A2 n2 c2)
  have dvk : (c.drop k A2 c2 i).dv k = .slice A2 n2 c2 := by
    show Value.slice (updX c.dA k A2 k) (updX c.dl k (c.dl k ++ [i]) k).length (updX c.dc k c2 k) = _
    rw [updX_same, updX_same, updX_same, List.length_append, hn2]; rfl
  have dvj : ∀ j, j ≠ k → (c.drop k A2 c2 i).dv j = c.dv j := fun j hj => by
    show Value.slice (updX c.dA k A2 j) (updX c.dl k (c.dl k ++ [i]) j).length (updX c.dc k c2 j) = _
    rw [updX_other hj, updX_other hj, updX_other hj]; rfl
  have dlj : ∀ j, j ≠ k → (c.drop k A2 c2 i).dl j = c.dl j := fun j hj => updX_other hj
  have dlk : (c.drop k A2 c2 i).dl k = c.dl k ++ [i] := updX_same _ _ _
  have tvj : ∀ j, (c.drop k A2 c2 i).tv j = c.tv j := fun j => rfl
  have kvj : ∀ j, (c.drop k A2 c2 i).kv j = c.kv j := fun j => rfl
  have hmb : ¬ (mb = g ∨ (c.dv k).ownBlock = some mb) := fun hz => by
    rcases hz with e | e
    · exact blk_ne_map hD hgB e.symm
    · exact map_ne_own hD (h.o3 k hk) e.symm
  refine ⟨⟨h.map.chg hZ hmb, h.mbb, fun j g' hj hg' => ?_, fun j hj => hZ.own (h.o1 j hj) (nt j hj), fun j hj => hZ.own (h.o2 j hj) (nk j hj), fun j hj => ?_, h.a1, h.a2, fun i' j g' hi hj h1 h2 => ?_, fun i' j g' hi hj h1 => ?_, h.ac, fun j hj hj0 => ?_⟩, hZ.mono (fun j hj => ?_)⟩
  · by_cases e : j = k
    · subst e
      have hgg : g' = g := by
        have h9 : c.cb j = some g' := hg'
        rw [hg] at h9
        injection h9 with h9
        exact h9.symm
      subst hgg
      refine ⟨?_, hgb⟩
      rw [tvj, kvj, dvk]
      simpa using k5
    · obtain ⟨b1, b2'⟩ := h.blk j g' hj hg'
      refine ⟨?_, b2'⟩
      rw [tvj, kvj, dvj j e]
      refine hZ.blk b1 (fun hz => ?_)
      rcases hz with e' | e'
      · subst e'; exact e (h.ac j k g' hj hk hg' hg)
      · exact own_blk_ne (h.o3 k hk) b1 (by decide) e'
  · by_cases e : j = k
    · subst e
      rw [dvk, dlk, show jCells (c.dl j ++ [i]) = jCells (c.dl j) ++ [.int .i64 (i : Int)] by simp [jCells], List.length_append]
      rw [show (c.dl j).length + [i].length = n2 by rw [hn2]; rfl]
      exact s2
    · rw [dvj j e, dlj j e]
      exact hZ.own (h.o3 j hj) (nd j hj e)
  · by_cases e1' : i' = k
    · by_cases e2' : j = k
      · rw [e1', e2']
      · rw [e1', dvk] at h1
        rw [dvj j e2'] at h2
        exact absurd (h.a3 j k g' hj hk h2 (fresh1 g' ((h.o3 j hj).lt g' h2).2 h1)) e2'
    · by_cases e2' : j = k
      · rw [e2', dvk] at h2
        rw [dvj i' e1'] at h1
        exact absurd (h.a3 i' k g' hi hk h1 (fresh1 g' ((h.o3 i' hi).lt g' h1).2 h2)) e1'
      · rw [dvj i' e1'] at h1
        rw [dvj j e2'] at h2
        exact h.a3 i' j g' hi hj h1 h2
  · intro h2
    rw [tvj] at h1
    by_cases e2' : j = k
    · rw [e2', dvk] at h2
      exact h.a13 i' k g' hi hk h1 (fresh1 g' ((h.o1 i' hi).lt g' h1).2 h2)
    · rw [dvj j e2'] at h2
      exact h.a13 i' j g' hi hj h1 h2
  · have hjk : j ≠ k := fun e => by
      have h9 : c.cb j = none := hj0
      rw [e, hg] at h9
      cases h9
    rw [dlj j hjk, dvj j hjk]
    exact h.none_ j hj hj0
  · rcases hj with e | e
    · rw [e]; exact hgb
    · exact ((h.o3 k hk).lt j e).1
theorem chAt2_any (h : ChI w base mb N s K c) (hk : k < K) (hs : s + 32 * k < 9000000000) (hN : N < 1000000000) (hb : base ≤ w.heap.size) (vb : Nat) (hv : w.cell? ⟨vb, 0, none⟩ = some (.map (some mb))) :
    Calls Tryz.prog 168 #[.int .i64 ((s + 32 * k : Nat) : Int), .pointer (some ⟨vb, 0, none⟩)] w fun e w' => ∃ g c1, e = .returned (.pointer (some ⟨g, 0, none⟩)) ∧ ChI w' base mb (N + 1) s K c1 ∧ c1.cb k = some g ∧ c1.tl = c.tl ∧ c1.dl = c.dl ∧ (∀ j, j ≠ k → c1.cb j = c.cb j) ∧ Chg (fun j => j = mb) w w' := by
  refine (chAt_any h.map k hk hs hN vb hv).mono ?_
  rintro e w' (⟨g, hg, he, rfl⟩ | ⟨hn, he, hm, hB, hc⟩)
  · exact ⟨g, c, he, { h with map := h.map.mono (Nat.le_succ N) }, hg, rfl, rfl, fun _ _ => rfl, Chg.refl _ _⟩
  · exact ⟨w.heap.size, { c with cb := updO c.cb k (some w.heap.size) }, he, h.made hk hn hb hm hB hc, by simp [updO], rfl, rfl, fun j hj => by simp [updO, hj], hc⟩
end
end Go.Proofs.YtpihhlbfpbngaaaGreatDoor
