/- The walks and laws that the claim leans on, part 24: each part says ahead of its lines what it holds. -/
import Derived.Test.YtklpeghhgoeeiaaGreatDoorKaw
import Derived.Deep.QuietTactic
import Derived.BigQuiet
/- tx: an open transaction in either mode, as its calls see it: what it is, its frame, Store, Load. -/
namespace Go.Proofs.YtklpeghhgoeeiaaGreatDoor
open Go.RowKit Go.Maps Go.Sort Go.Shelf
def MRel (mode : Nat) (base : Nat → Nat) (B : Nat) (m : Mk) (a : AMark) : Prop := m.id = a.id ∧ m.x = a.x ∧ m.y = a.y ∧ DRel mode base m.D a.f a.k ∧ m.n ≤ B
def MRs (mode : Nat) (base : Nat → Nat) (B : Nat) (ml : List Mk) (al : List AMark) : Prop := ml.length = al.length ∧ ∀ i (h1 : i < ml.length) (h2 : i < al.length), MRel mode base B ml[i] al[i]
/-- All blocks of a transaction lie in Z. -/
structure Cov (c : CX) (g : Nat) (S : Fp) (t : TX) (ml : List Mk) (Z : Fp) : Prop where
  dev : ∀ j, S j → Z j
  row : ∀ b, t.marks.ownBlock = some b → Z b
  mms : ∀ m ∈ ml, ∀ j, m.k ≤ j → j ≤ m.k + 3 → Z j
  one : ∀ j, j = g ∨ j = t.words ∨ j = t.inner ∨ j = t.own ∨ j = t.freed ∨ j = t.held ∨ j = t.cover → Z j
  sys : ∀ j, j = c.x.r ∨ j = c.x.u ∨ j = c.x.h ∨ j = c.x.m ∨ j = c.gw → Z j
structure OpenI (c : CX) (g mode : Nat) (m : Nat → Nat) (s : AT) (B : Nat) (w : World) (S : Fp) (t : TX) (D : DataW Unit) (n : Nat) (cur base : Nat → Nat) (T : Nat) (ws : List (Nat × Nat)) (ml : List Mk) : Prop where
  tx : TxS c g w S t D n cur T
  op : t.open_ = true
  mo : t.mode = mode
  out : t.outside = s.outside
  sur : t.surplus = s.surplus
  ids : t.ids = s.ids
  mks : Mks c w S t ml
  rel : MRs mode base B ml s.marks
  dr : DRel mode base D s.f s.k
  n : n ≤ B
  T : T ≤ 1000 * B + 1000
  redo : mode = 1 → cur = base
  undo : mode = 2 → UInv cur base D ws
  tail : mode = 2 → (t.tail = .slice none 0 0 ∧ ws = [] ∧ ∀ a ∈ s.marks, a.k = 0) ∨ TailOk t.tail
  idle : base 32 = 0 ∧ base 240 = 0
  bnd : ∀ i, base i < 18446744073709551616
  few : s.k ≤ 96
  agree : ∀ i, outB i → base i = m i
/-- An open transaction over the words m; its blocks lie in Z. -/
def Open (c : CX) (g mode : Nat) (m : Nat → Nat) (s : AT) (B : Nat) (Z : Fp) (w : World) : Prop :=
  ∃ S t D n cur base T ws ml, OpenI c g mode m s B w S t D n cur base T ws ml ∧ Cov c g S t ml Z ∧ ∀ j, Z j → j < w.heap.size
/-- What a call leaves. -/
def OpenTo (c : CX) (g mode : Nat) (m : Nat → Nat) (s : AT) (B : Nat) (Z : Fp) (w w' : World) : Prop := ∃ Z', Open c g mode m s B Z' w' ∧ Chg Z w w' ∧ Grew Z Z' w
/-- The old blocks and all new ones. -/
def ZN (Z : Fp) (w w' : World) : Fp := fun j => Z j ∨ (w.heap.size ≤ j ∧ j < w'.heap.size)
theorem ZN.grew (Z : Fp) (w w' : World) : Grew Z (ZN Z w w') w := fun _ h => h.imp id (fun h => h.1)
theorem MRel.mono {mode B B' : Nat} {base : Nat → Nat} {m : Mk} {a : AMark} (h : MRel mode base B m a) (hB : B ≤ B') : MRel mode base B' m a := ⟨h.1, h.2.1, h.2.2.1, h.2.2.2.1, Nat.le_trans h.2.2.2.2 hB⟩
theorem rel_mono {mode B B' : Nat} {base : Nat → Nat} (hB : B ≤ B') {ml : List Mk} {al : List AMark} (h : MRs mode base B ml al) : MRs mode base B' ml al := ⟨h.1, fun i h1 h2 => (h.2 i h1 h2).mono hB⟩
theorem MRs.snoc {mode B : Nat} {base : Nat → Nat} {ml : List Mk} {al : List AMark} {x : Mk} {y : AMark} (h : MRs mode base B ml al) (hx : MRel mode base B x y) : MRs mode base B (ml ++ [x]) (al ++ [y]) := by
  refine ⟨by simp [h.1], fun i h1 h2 => ?_⟩
  by_cases hi : i < ml.length
  · rw [List.getElem_append_left hi, List.getElem_append_left (by rw [← h.1]; exact hi)]
    exact h.2 i hi _
  · have hi' : i = ml.length := by simp at h1; omega
    subst hi'
    have e1 : (ml ++ [x])[ml.length] = x := by simp
    have e2 : (al ++ [y])[ml.length]'h2 = y := by
      have := h.1
      simp [this]
    rw [e1, e2]
    exact hx
theorem MRs.take {mode B : Nat} {base : Nat → Nat} {ml : List Mk} {al : List AMark} (h : MRs mode base B ml al) (k : Nat) : MRs mode base B (ml.take k) (al.take k) := by
  refine ⟨by simp [h.1], fun i h1 h2 => ?_⟩
  rw [List.getElem_take, List.getElem_take]
  exact h.2 i _ _
section
variable {c : CX} {g mode : Nat} {m : Nat → Nat} {s : AT} {B : Nat} {w w' : World} {S : Fp} {t : TX} {D : DataW Unit} {n : Nat} {cur base : Nat → Nat} {T : Nat} {ws : List (Nat × Nat)} {ml : List Mk} {Z : Fp}
theorem Mks.go {Y S' : Fp} (h : Mks c w S t ml) (hc : Chg Y w w') (hz : ∀ j, Y j → S j ∨ j = t.words ∨ ∃ ty cs, ty ≠ 111 ∧ Blk w j ty cs) (hg : Grew S S' w) (hw : ∃ n D, w.ownsMap Tryz.prog 35 cellR t.words n D) : Mks c w' S' t ml := by
  have h1 := h.chg hc hz hw
  have h2 := h.grew hg
  exact ⟨h1.row, h1.st, h2.off, h2.rowoff⟩
/-- Each block is an old one of Z, or new. -/
theorem Cov.next (hl : ∀ j, Z j → j < w.heap.size) (hs : w.heap.size ≤ w'.heap.size) : ∀ j, ZN Z w w' j → j < w'.heap.size := fun j h => h.elim (fun h => Nat.lt_of_lt_of_le (hl j h) hs) (fun h => h.2)
theorem Cov.to {S' : Fp} {t' : TX} {ml' : List Mk} (h : Cov c g S t ml Z) (hx : TxS c g w' S' t' D n cur T) (hm : Mks c w' S' t' ml') (hS : Grew S S' w)
    (h1 : ∀ b, t'.marks.ownBlock = some b → t.marks.ownBlock = some b ∨ w.heap.size ≤ b)
    (h2 : ∀ m ∈ ml', m ∈ ml ∨ w.heap.size ≤ m.k)
    (h3 : (t'.words = t.words ∨ w.heap.size ≤ t'.words) ∧ (t'.inner = t.inner ∨ w.heap.size ≤ t'.inner) ∧ (t'.own = t.own ∨ w.heap.size ≤ t'.own) ∧ (t'.freed = t.freed ∨ w.heap.size ≤ t'.freed) ∧ (t'.held = t.held ∨ w.heap.size ≤ t'.held) ∧ (t'.cover = t.cover ∨ w.heap.size ≤ t'.cover)) : Cov c g S' t' ml' (ZN Z w w') := by
  refine ⟨fun j hj => ?_, fun b hb => ?_, fun m hm' j j1 j2 => ?_, fun j hj => ?_, fun j hj => .inl (h.sys j hj)⟩
  · exact (hS j hj).elim (fun e => .inl (h.dev j e)) (fun e => .inr ⟨e, hx.base.dev.lt j hj⟩)
  · exact (h1 b hb).elim (fun e => .inl (h.row b e)) (fun e => .inr ⟨e, (hm.row.lt b hb).2⟩)
  · have hlt := (hm.st m hm').lt
    exact (h2 m hm').elim (fun e => .inl (h.mms m e j j1 j2)) (fun e => .inr ⟨by omega, by omega⟩)
  · have hmp := hx.maps
    obtain ⟨a1, a2, a3, a4, a5, a6⟩ := h3
    rcases hj with rfl | rfl | rfl | rfl | rfl | rfl | rfl
    · exact .inl (h.one _ (.inl rfl))
    · exact a1.elim (fun e => .inl (h.one _ (.inr (.inl e)))) (fun e => .inr ⟨e, hmp.words.lt⟩)
    · exact a2.elim (fun e => .inl (h.one _ (.inr (.inr (.inl e))))) (fun e => .inr ⟨e, hmp.inner.lt⟩)
    · exact a3.elim (fun e => .inl (h.one _ (.inr (.inr (.inr (.inl e)))))) (fun e => .inr ⟨e, hmp.own.lt⟩)
    · exact a4.elim (fun e => .inl (h.one _ (.inr (.inr (.inr (.inr (.inl e))))))) (fun e => .inr ⟨e, hmp.freed.lt⟩)
    · exact a5.elim (fun e => .inl (h.one _ (.inr (.inr (.inr (.inr (.inr (.inl e)))))))) (fun e => .inr ⟨e, hmp.held.lt⟩)
    · exact a6.elim (fun e => .inl (h.one _ (.inr (.inr (.inr (.inr (.inr (.inr e)))))))) (fun e => .inr ⟨e, hmp.cover.lt⟩)
/-- The transaction's maps stand. -/
theorem Cov.same {S' : Fp} {t' : TX} (h : Cov c g S t ml Z) (hx : TxS c g w' S' t' D n cur T) (hm : Mks c w' S' t' ml) (hS : Grew S S' w) (e : t'.marks = t.marks ∧ t'.words = t.words ∧ t'.inner = t.inner ∧ t'.own = t.own ∧ t'.freed = t.freed ∧ t'.held = t.held ∧ t'.cover = t.cover) : Cov c g S' t' ml (ZN Z w w') :=
  h.to hx hm hS (fun _ hb => .inl (e.1 ▸ hb)) (fun _ h => .inl h) ⟨.inl e.2.1, .inl e.2.2.1, .inl e.2.2.2.1, .inl e.2.2.2.2.1, .inl e.2.2.2.2.2.1, .inl e.2.2.2.2.2.2⟩
/-- Whatever turns blocks out of Z turns nothing here. -/
theorem OpenI.chg {Y : Fp} (h : OpenI c g mode m s B w S t D n cur base T ws ml) (hv : Cov c g S t ml Z) (hc : Chg Y w w') (hy : ∀ j, Y j → ¬ Z j ∧ c.w0.heap.size ≤ j) : OpenI c g mode m s B w' S t D n cur base T ws ml := by
  have hno : ∀ j, Z j → ¬ Y j := fun j hz h => (hy j h).1 hz
  have hx := h.tx
  refine { h with
    tx := { hx with
      base := hx.base.chg hc (fun k hk => hno k (hv.dev k hk)) ⟨hno _ (hv.sys _ (.inl rfl)), hno _ (hv.sys _ (.inr (.inl rfl))), hno _ (hv.sys _ (.inr (.inr (.inl rfl)))), hno _ (hv.sys _ (.inr (.inr (.inr (.inl rfl)))))⟩ (hno _ (hv.sys _ (.inr (.inr (.inr (.inr rfl)))))) (fun k hk => (hy k hk).2)
      tx := hc.blk hx.tx (hno _ (hv.one _ (.inl rfl)))
      maps := hx.maps.chg hc ⟨hno _ (hv.one _ (.inr (.inl rfl))), hno _ (hv.one _ (.inr (.inr (.inl rfl)))), hno _ (hv.one _ (.inr (.inr (.inr (.inl rfl))))), hno _ (hv.one _ (.inr (.inr (.inr (.inr (.inl rfl)))))), hno _ (hv.one _ (.inr (.inr (.inr (.inr (.inr (.inl rfl))))))), hno _ (hv.one _ (.inr (.inr (.inr (.inr (.inr (.inr rfl)))))))⟩ }
    mks := ⟨hc.own h.mks.row (fun b hb => hno b (hv.row b hb)), fun a ha => ?_, h.mks.off, h.mks.rowoff⟩ }
  have hs := h.mks.st a ha
  have hk := hv.mms a ha
  exact ⟨hc.map hs.words (hno _ (hk _ (by omega) (by omega))), hc.map hs.inner (hno _ (hk _ (by omega) (by omega))), hc.map hs.own (hno _ (hk _ (by omega) (by omega))), hc.map hs.freed (hno _ (hk _ (by omega) (by omega)))⟩
theorem Open.chg {Y : Fp} (h : Open c g mode m s B Z w) (hc : Chg Y w w') (hy : ∀ j, Y j → ¬ Z j ∧ c.w0.heap.size ≤ j) : Open c g mode m s B Z w' := by
  obtain ⟨S, t, D, n, cur, base, T, ws, ml, hi, hv, hl⟩ := h
  exact ⟨S, t, D, n, cur, base, T, ws, ml, hi.chg hv hc hy, hv, fun j hj => Nat.lt_of_lt_of_le (hl j hj) hc.size⟩
theorem Open.below (h : Open c g mode m s B Z w) (hb : Below w.heap.size w w') : Open c g mode m s B Z w' := h.chg (Chg.of_below (S := Fp.no) hb) (fun _ h => h.elim)
theorem Open.to_below (h : Open c g mode m s B Z w) (hb : Below w.heap.size w w') : OpenTo c g mode m s B Z w w' := ⟨Z, h.below hb, Chg.of_below hb, Grew.refl _ _⟩
theorem Open.more {B' : Nat} (h : Open c g mode m s B Z w) (hB : B ≤ B') : Open c g mode m s B' Z w := by
  obtain ⟨S, t, D, n, cur, base, T, ws, ml, hi, hv, hl⟩ := h
  exact ⟨S, t, D, n, cur, base, T, ws, ml, { hi with rel := rel_mono hB hi.rel, n := Nat.le_trans hi.n hB, T := by have := hi.T; omega }, hv, hl⟩
theorem cellM1 (base : Nat → Nat) (o v : Nat) : cellM 1 base o v = cellD v 0 false := by simp [cellM]
theorem cellM2 (base : Nat → Nat) (o v : Nat) : cellM 2 base o v = cellD v (base (o / 8)) true := by simp [cellM]
end
set_option maxHeartbeats 1000000 in
theorem open_store {c : CX} {g mode : Nat} {m : Nat → Nat} {s : AT} {B : Nat} {Z : Fp} {w : World} (h : Open c g mode m s B Z w) (hmo : mode = 1 ∨ mode = 2) (o v : Nat) (ho : Good o) (hv : v < 18446744073709551616) (hB : B ≤ 900) :
    Calls Tryz.prog 13 #[.pointer (some ⟨g, 0, none⟩), .int .u64 (o : Int), .int .u64 (v : Int)] w fun e w' => e = .returned (.tuple #[]) ∧ OpenTo c g mode m (s.store o v) (B + 1) Z w w' := by
  obtain ⟨S, t, D, n, cur, base, T, ws, ml, hi, hcv, hl⟩ := h
  have hn := hi.n
  have hT := hi.T
  have hwords : ∃ n D, w.ownsMap Tryz.prog 35 cellR t.words n D := ⟨_, _, hi.tx.maps.words⟩
  have hgZ : Z g := hcv.one _ (.inl rfl)
  have hwZ : Z t.words := hcv.one _ (.inr (.inl rfl))
  have hrel := rel_mono (Nat.le_succ B) hi.rel
  cases hf : s.f o with
  | some v0 =>
    have hst : s.store o v = { s with f := s.f.put o v, k := cntP s.f s.k o } := by simp [AT.store, hf]
    have hk0 : cntP s.f s.k o = s.k := by simp [cntP, hf]
    have hD := hi.dr.hasS hf
    have hat := hi.dr.cell _ _ hf
    have hd' := hi.dr.put ho hv
    rcases hmo with rfl | rfl
    · rw [cellM1] at hat
      rw [cellM1] at hd'
      refine (store_redo_old hi.tx hi.op o v ho.al ho.lt v0 hD hat (by omega)).mono ?_
      rintro e w' ⟨rfl, hx, hz⟩
      have hm' := hi.mks.chg hz (fun j hj => .inr (.inl hj)) hwords
      refine ⟨rfl, ZN Z w w', ⟨S, t, _, _, cur, base, T, ws, ml, { hi with tx := hx, mks := hm', rel := ?_, dr := ?_, out := ?_, sur := ?_, ids := ?_, n := by omega, T := by omega, undo := by omega, tail := by omega, few := ?_ }, hcv.same hx hm' (Grew.refl _ _) ⟨rfl, rfl, rfl, rfl, rfl, rfl, rfl⟩, Cov.next hl hz.size⟩, hz.mono (fun j hj => hj ▸ hwZ), ZN.grew _ _ _⟩
      · rw [hst]; exact hi.out
      · rw [hst]; exact hi.sur
      · rw [hst]; exact hi.ids
      · rw [hst]; exact hrel
      · rw [hst]; exact hd'
      · rw [hst]; show cntP s.f s.k o ≤ 96; rw [hk0]; exact hi.few
    · have hu := hi.undo rfl
      have hlen := hi.dr.lenU hu hi.tx.maps.words
      have hfw := hi.few
      rw [cellM2] at hat
      rw [cellM2] at hd'
      refine (store_old hi.tx hi.op o v v0 _ ho.u hD hat (by omega) (by omega)).mono ?_
      rintro e w' ⟨S', rfl, hx, hz, hg⟩
      have hm' := hi.mks.go hz (fun j hj => hj.elim .inl (fun h => .inr (.inl h))) hg hwords
      refine ⟨rfl, ZN Z w w', ⟨S', t, _, _, _, base, _, ws, ml, { hi with tx := hx, mks := hm', rel := ?_, dr := ?_, out := ?_, sur := ?_, ids := ?_, n := by omega, T := by omega, redo := by omega, undo := fun _ => hu.put_old hD hv (by omega), tail := ?_, few := ?_ }, hcv.same hx hm' hg ⟨rfl, rfl, rfl, rfl, rfl, rfl, rfl⟩, Cov.next hl hz.size⟩, hz.mono (fun j hj => hj.elim (hcv.dev j) (fun h => h ▸ hwZ)), ZN.grew _ _ _⟩
      · rw [hst]; exact hi.out
      · rw [hst]; exact hi.sur
      · rw [hst]; exact hi.ids
      · rw [hst]; exact hrel
      · rw [hst]; exact hd'
      · rw [hst]; exact hi.tail
      · rw [hst]; show cntP s.f s.k o ≤ 96; rw [hk0]; exact hi.few
  | none =>
    have hD := hi.dr.none_ hf
    by_cases hk : 96 ≤ s.k
    · have hst : s.store o v = { s with surplus := true } := by simp [AT.store, hf, hk]
      refine (store_surplus hi.tx hi.op o v ho.al ho.lt hD (by rw [hi.dr.size]; exact hk)).mono ?_
      rintro e w' ⟨rfl, hx, hz⟩
      have hm' := (hi.mks.chg hz (fun j hj => .inr (.inr ⟨_, _, by decide, hj ▸ hi.tx.tx⟩)) hwords).same (t' := { t with surplus := true }) rfl rfl
      refine ⟨rfl, ZN Z w w', ⟨S, _, D, n, cur, base, T, ws, ml, { hi with tx := hx, mks := hm', op := hi.op, mo := hi.mo, tail := ?_, rel := ?_, dr := ?_, out := ?_, sur := ?_, ids := ?_, n := by omega, T := by omega, few := ?_ }, hcv.same hx hm' (Grew.refl _ _) ⟨rfl, rfl, rfl, rfl, rfl, rfl, rfl⟩, Cov.next hl hz.size⟩, hz.mono (fun j hj => hj ▸ hgZ), ZN.grew _ _ _⟩
      · rw [hst]; exact hi.out
      · rw [hst]
      · rw [hst]; exact hi.ids
      · rw [hst]; exact hrel
      · rw [hst]; exact hi.dr
      · rw [hst]; exact hi.tail
      · rw [hst]; exact hi.few
    · have hst : s.store o v = { s with f := s.f.put o v, k := cntP s.f s.k o } := by simp [AT.store, hf, hk]
      have hk1 : cntP s.f s.k o = s.k + 1 := by simp [cntP, hf]
      have hd' := hi.dr.put ho hv
      have hsz := hi.dr.size
      rcases hmo with rfl | rfl
      · rw [cellM1] at hd'
        refine (store_redo_new hi.tx hi.op hi.mo o v ho.al ho.lt hD (by omega) (by omega)).mono ?_
        rintro e w' ⟨rfl, hx, hz⟩
        have hm' := hi.mks.chg hz (fun j hj => .inr (.inl hj)) hwords
        refine ⟨rfl, ZN Z w w', ⟨S, t, _, _, cur, base, T, ws, ml, { hi with tx := hx, mks := hm', rel := ?_, dr := ?_, out := ?_, sur := ?_, ids := ?_, n := by omega, T := by omega, undo := by omega, tail := by omega, few := ?_ }, hcv.same hx hm' (Grew.refl _ _) ⟨rfl, rfl, rfl, rfl, rfl, rfl, rfl⟩, Cov.next hl hz.size⟩, hz.mono (fun j hj => hj ▸ hwZ), ZN.grew _ _ _⟩
        · rw [hst]; exact hi.out
        · rw [hst]; exact hi.sur
        · rw [hst]; exact hi.ids
        · rw [hst]; exact hrel
        · rw [hst]; exact hd'
        · rw [hst]; show cntP s.f s.k o ≤ 96; omega
      · have hu := hi.undo rfl
        have hlen := hi.dr.lenU hu hi.tx.maps.words
        have hcb : cur (o / 8) = base (o / 8) := hu.rest _ ho.div.log (by rw [show 8 * (o / 8) = o by have := ho.al; omega]; exact hD)
        have hno : o ∉ ws.map (·.1) := fun hm => by rw [(hu.keys o).2 hm] at hD; cases hD
        have htl : (t.tail = .slice none 0 0 ∧ ws = []) ∨ TailOk t.tail := (hi.tail rfl).imp (fun h => ⟨h.1, h.2.1⟩) id
        have hu' := hu.put_new ho.u hD hv (by omega)
        rw [cellM2] at hd'
        have hc := store_new hi.tx hi.op hi.mo htl o v ho.u hD (by omega) (by omega) hu.log (fun e he => by have := (hu.off e he).lt; omega) hno (by omega) hu.bnd (by omega)
        rw [hcb] at hc hu'
        refine hc.mono ?_
        rintro e w' ⟨tl, S', rfl, hx, htl', hz, hg⟩
        have hm' := (hi.mks.go hz (fun j hj => hj.elim (fun h => h.elim .inl (fun h => .inr (.inr ⟨_, _, by decide, h ▸ hi.tx.tx⟩))) (fun h => .inr (.inl h))) hg hwords).same (t' := { t with tail := tl }) rfl rfl
        refine ⟨rfl, ZN Z w w', ⟨S', _, _, _, _, base, _, _, ml, { hi with tx := hx, mks := hm', op := hi.op, mo := hi.mo, rel := ?_, dr := ?_, out := ?_, sur := ?_, ids := ?_, n := by omega, T := by omega, redo := by omega, undo := fun _ => hu', tail := fun _ => .inr htl', few := ?_ }, hcv.same hx hm' hg ⟨rfl, rfl, rfl, rfl, rfl, rfl, rfl⟩, Cov.next hl hz.size⟩, hz.mono (fun j hj => hj.elim (fun h => h.elim (hcv.dev j) (fun h => h ▸ hgZ)) (fun h => h ▸ hwZ)), ZN.grew _ _ _⟩
        · rw [hst]; exact hi.out
        · rw [hst]; exact hi.sur
        · rw [hst]; exact hi.ids
        · rw [hst]; exact hrel
        · rw [hst]; exact hd'
        · rw [hst]; show cntP s.f s.k o ≤ 96; omega
theorem open_load {c : CX} {g mode : Nat} {m : Nat → Nat} {s : AT} {B : Nat} {Z : Fp} {w : World} (h : Open c g mode m s B Z w) (hmo : mode = 1 ∨ mode = 2) (o : Nat) (ho : Good o) :
    Calls Tryz.prog 15 #[.pointer (some ⟨g, 0, none⟩), .int .u64 (o : Int)] w fun e w' => e = .returned (.int .u64 (vw s.f m (o / 8) : Int)) ∧ Below w.heap.size w w' := by
  obtain ⟨S, t, D, n, cur, base, T, ws, ml, hi, hcv, hl⟩ := h
  have ho8 : 8 * (o / 8) = o := by have := ho.al; omega
  cases hf : s.f o with
  | some v0 =>
    have hat := hi.dr.cell _ _ hf
    have hvw : vw s.f m (o / 8) = v0 := by unfold vw; rw [ho8, hf]; rfl
    rw [hvw]
    exact loadX_word hi.tx hi.op o v0 _ _ (by have := ho.lt; omega) (hi.dr.hasS hf) hat
  | none =>
    have hvw : vw s.f m (o / 8) = cur (o / 8) := by
      unfold vw
      rw [ho8, hf]
      show m (o / 8) = cur (o / 8)
      rw [← hi.agree _ ho.div]
      rcases hmo with rfl | rfl
      · rw [hi.redo rfl]
      · exact ((hi.undo rfl).rest _ ho.div.log (by rw [ho8]; exact hi.dr.none_ hf)).symm
    rw [hvw]
    exact loadX_none hi.tx hi.op o ho.al ho.lt (hi.dr.none_ hf)
end Go.Proofs.YtklpeghhgoeeiaaGreatDoor
/- redo: last, over writes to different words. -/
namespace Go.Proofs.YtklpeghhgoeeiaaGreatDoor
open Go.RowKit Go.Maps
/-- The map tells each of the first k words' number. -/
def OIdx (w : World) (b n : Nat) (ws : List (Nat × Nat)) (k : Nat) : Prop := ∃ D : DataW Unit, w.ownsMap Tryz.prog 35 (plainElem Tryz.prog 3) b n D ∧ ∀ i (h : i < ws.length), i < k → D.atKey (kU (ws[i]).1) (.lit (.int .i64 0)) = .lit (.int .i64 (i : Int))
/-- Different words. -/
def Diff (ws : List (Nat × Nat)) : Prop := ∀ i j (hi : i < ws.length) (hj : j < ws.length), i ≠ j → (ws[i]).1 ≠ (ws[j]).1
theorem OIdx.new (w : World) (ws : List (Nat × Nat)) : OIdx (w.alloc (.map #[] 0)) w.heap.size 0 ws 0 := ⟨_, World.ownsMap_made w _ _ _, fun i _ h => absurd h (by omega)⟩
set_option maxRecDepth 100000 in
theorem OIdx.look {w : World} {b n k : Nat} {ws : List (Nat × Nat)} (h : OIdx w b n ws k) {i : Nat} (hl : i < ws.length) (hk : i < k) (hx : (ws[i]).1 < 18446744073709551616) :
    (Instr.lookup 336 (.map (some b)) (.int .u64 ((ws[i]).1 : Int)) false).run Tryz.prog w = .ok (.int .i64 (i : Int)) w := by
  obtain ⟨D, ho, hd⟩ := h
  obtain ⟨c, hrun, hc, _⟩ := ho.lookup_int keyedU Tryz.underlying336 Tryz.underlying3 (by kernel_rfl) (keyU hx)
  rw [hd i hl hk] at hc
  injection hc with hc
  injection hc with _ hc
  rw [hrun, ← hc]
set_option maxRecDepth 100000 in
theorem OIdx.add {w : World} {b n k : Nat} {ws : List (Nat × Nat)} (h : OIdx w b n ws k) (hn : n < maxLen) (hd' : Diff ws) (hl : k < ws.length) (hx : (ws[k]).1 < 18446744073709551616) (hk : k ≤ 1000000) :
    ∃ w', (Instr.mapUpdate 336 (.map (some b)) (.int .u64 ((ws[k]).1 : Int)) (.int .i64 (k : Int))).run Tryz.prog w = .ok () w' ∧ OIdx w' b (n + 1) ws (k + 1) ∧ w.grownBy w' (some b) := by
  obtain ⟨D, ho, hd⟩ := h
  obtain ⟨w', hrun, ho', hg⟩ := ho.update keyedU Tryz.underlying336 hn (keyU hx) (plainElem_int Tryz.underlying3 (a := (k : Int)) (by
    have hm : IntKind.i64.min = -9223372036854775808 := by decide
    have hx : IntKind.i64.max = 9223372036854775807 := by decide
    simp only [Lit.wf, hm, hx, Bool.and_eq_true, decide_eq_true_eq]
    omega))
  refine ⟨w', hrun, ⟨_, ho', fun i hi hik => ?_⟩, hg⟩
  by_cases e : i = k
  · subst e
    rw [atKey_put_same ho.isMap (kU_key _)]
  · rw [atKey_put_other (kU_ne (hd' i k hi hl e)), hd i hi (by omega)]
theorem OIdx.alloc {w : World} {b n k : Nat} {ws : List (Nat × Nat)} (h : OIdx w b n ws k) (o : Obj) : OIdx (w.alloc o) b n ws k := by
  obtain ⟨D, ho, hd⟩ := h
  exact ⟨D, ho.alloc o, hd⟩
theorem OIdx.kept {w w' : World} {b n k : Nat} {ws : List (Nat × Nat)} {row : Option Nat} (h : OIdx w b n ws k) (hg : w.grownBy w' row) (hne : some b ≠ row) : OIdx w' b n ws k := by
  obtain ⟨D, ho, hd⟩ := h
  exact ⟨D, ho.kept hg hne, hd⟩
theorem OIdx.lt {w : World} {b n k : Nat} {ws : List (Nat × Nat)} (h : OIdx w b n ws k) : b < w.heap.size := by
  obtain ⟨D, ho, _⟩ := h
  exact ho.lt
theorem OIdx.ne_own {w : World} {b n k : Nat} {ws : List (Nat × Nat)} (h : OIdx w b n ws k) {base : Nat} {e : TypeId} {size m : Nat} {v : Value} {xs : List Value} (ho : w.ownsRow base e size v m xs) : some b ≠ v.ownBlock := by
  obtain ⟨D, hm, _⟩ := h
  exact map_ne_own hm ho
set_option maxRecDepth 100000 in
set_option maxHeartbeats 2000000 in
theorem last_any (A : Option Addr) (n c : Nat) (ws : List (Nat × Nat)) (w : World) (h : Reads w w.heap.size 2 A n (wrCells ws)) (hd : Diff ws) (hv : ∀ i (h : i < ws.length), (ws[i]).1 < 18446744073709551616) (hn : n ≤ 1000) :
    Calls Tryz.prog 242 #[.slice A n c] w (RetWr w ws) := by
  obtain ⟨i0, hi0, hz0, hz1, hz2⟩ := info_parts infoWrite
  have HR := Lib.hid h
  have HD := Lib.hid hd
  have HV := Lib.hid hv
  have HLN := Lib.hid (show ws.length = n by have := h.1; rw [wrCells_len] at this; omega)
  have hmm : ∀ W, (Instr.makeMap 336 none).run Tryz.prog W = .ok (.map (some W.heap.size)) (W.alloc (.map #[] 0)) := fun _ => rfl
  have HI0 : Hid (OIdx (w.alloc (.map #[] 0)) w.heap.size 0 ws 0) := Lib.hid (OIdx.new w ws)
  have HB0 : Hid (Below w.heap.size w (w.alloc (.map #[] 0))) := Lib.hid ((Below.refl _ w).alloc (Nat.le_refl _) _)
  clear h hd hv
  go_enter Tryz.func242, Tryz.ntmps242
  go_wp2
  clear hmm
  go_loopw [12] (fun i wr => ∃ k : Nat, k ≤ n ∧ i = .int .i64 (k : Int) ∧ Hid (OIdx wr w.heap.size k ws k) ∧ Hid (Below w.heap.size w wr)) (fun i _ => n - (Go.RowKit.intOf i).toNat)
  case atStart => exact ⟨0, Nat.zero_le _, rfl, HI0, HB0⟩
  case round =>
    clear HI0 HB0
    obtain ⟨k, hk, rfl, HI, HB⟩ := hrel
    by_cases hlt : k < n
    · obtain ⟨hl, b, off, hA, hbB, f0, f1⟩ := wr_facts (HR.out.below HB.out) hlt
      subst hA
      have hz5 : (0 : Int) ≤ (k : Int) := by omega
      have hz6 : (k : Int) < (n : Int) := by omega
      obtain ⟨w3, hrun, hos, hgr⟩ := (HI.out.alloc (.cells #[.int .u64 ((ws[k]).1 : Int), .int .u64 ((ws[k]).2 : Int)] 130)).add (by unfold maxLen; omega) HD.out hl (HV.out k hl) (by omega)
      have HI3 := Lib.hid hos
      have HB3 := Lib.hid ((HB.out.alloc HB.out.size (.cells #[.int .u64 ((ws[k]).1 : Int), .int .u64 ((ws[k]).2 : Int)] 130)).grown hgr (Nat.le_trans HB.out.size (by simp)) (fun g hg => by cases hg; exact Nat.le_refl _))
      generalize ws[k] = e at *
      clear hos hgr HI HB
      go_wp2
      go_roundw
      case rel => exact ⟨k + 1, by omega, by go_num, HI3, HB3⟩
      case measure => simp [Go.RowKit.intOf]; omega
    · have hkn : k = n := by omega
      subst hkn
      have HO0 : Hid (wr.ownsRow w.heap.size 130 2 (.slice none 0 0) 0 (wrCells (ws.take 0))) := Lib.hid (World.ownsRow_nil _ _ _ _)
      go_wp2
      go_loopw [6, 24] (fun l i wr => ∃ (q : Nat) (A1 : Option Addr) (c1 : Nat), q ≤ k ∧ i = .int .i64 (q : Int) ∧ l = .slice A1 q c1 ∧ Hid (wr.ownsRow w.heap.size 130 2 (.slice A1 q c1) q (wrCells (ws.take q))) ∧ Hid (OIdx wr w.heap.size k ws k) ∧ Hid (Below w.heap.size w wr)) (fun _ i _ => k - (Go.RowKit.intOf i).toNat)
      case atStart => exact ⟨0, _, _, Nat.zero_le _, rfl, rfl, HO0, HI, HB⟩
      case round =>
        clear HI HB HO0
        obtain ⟨q, A1, c1, hq, rfl, rfl, HO, HI, HB⟩ := hrel
        by_cases hlt2 : q < k
        · obtain ⟨hl, b, off, hA, hbB, f0, f1⟩ := wr_facts (HR.out.below HB.out) hlt2
          subst hA
          have hz5 : (0 : Int) ≤ (q : Int) := by omega
          have hz6 : (q : Int) < (k : Int) := by omega
          have hlk := (HI.out.alloc (.cells #[.int .u64 ((ws[q]).1 : Int), .int .u64 ((ws[q]).2 : Int)] 130)).look hl hlt2 (HV.out q hl)
          have HTS := Lib.hid (takeS ws q hl)
          generalize ws[q] = e at *
          have hsz : w.heap.size ≤ wr.heap.size := HB.out.size
          go_wp2_with (at_builtin; refine stop ?_)
          unfold Stop
          have HR1 := Lib.hid (row_reads_at (wr.alloc (.cells #[.int .u64 (e.1 : Int), .int .u64 (e.2 : Int)] 130)) _ rfl [.int .u64 (e.1 : Int), .int .u64 (e.2 : Int)] 1 2 130 _ rfl rfl)
          rw [World.size_alloc] at HR1
          refine wpList_app _ (.tmp 35) (.tmp 37) 120 rfl rfl w.heap.size 130 i0 _ 2 16 Tryz.underlying120 hi0 hz0 hz1 hz2 rfl (by omega) (.slice A1 q c1) q (wrCells (ws.take q)) rfl ((HO.out.alloc _).alloc _) (wr.heap.size + 1 + 1) (some ⟨wr.heap.size + 1, 0, none⟩) 1 1 [.int .u64 (e.1 : Int), .int .u64 (e.2 : Int)] rfl HR1.out (u64s_one _ _) (by unfold maxLen; omega) (by omega) (by simp; omega) ?_
          intro A3 n3 c3 w8 hn3 ho3 hg3 hb3
          have hn3' : n3 = q + 1 := by omega
          subst hn3'
          have HO4 : Hid (w8.ownsRow w.heap.size 130 2 (.slice A3 (q + 1) c3) (q + 1) (wrCells (ws.take (q + 1)))) := Lib.hid (by rw [HTS.out, wrCells_snoc]; exact ho3)
          have HI4 : Hid (OIdx w8 w.heap.size k ws k) := Lib.hid (((HI.out.alloc _).alloc _).kept hg3 (HI.out.ne_own HO.out))
          have HB4 := Lib.hid (((HB.out.alloc HB.out.size _).alloc (by simp; omega) _).trans hb3)
          clear hn3 ho3 hg3 hb3 hlk
          go_wp2
          go_roundw
          case rel =>
            first
              | exact ⟨q + 1, _, _, by omega, by go_num, rfl, HO4, HI4, HB4⟩
              | (repeat apply Exists.intro
                 refine ⟨?_, rfl⟩
                 exact ⟨q + 1, _, _, by omega, by go_num, rfl, HO4, HI4, HB4⟩)
          case measure => simp [Go.RowKit.intOf]; omega
        · have hqk : q = k := by omega
          subst hqk
          go_wp2
          go_ret
          have h := HO.out
          rw [List.take_of_length_le (by rw [HLN.out]; exact Nat.le_refl _)] at h
          exact ⟨_, _, _, rfl, HLN.out.symm, h, HB.out⟩
end Go.Proofs.YtklpeghhgoeeiaaGreatDoor
/- redo: finish. -/
namespace Go.Proofs.YtklpeghhgoeeiaaGreatDoor
open Go.RowKit Go.Maps
/-- A program of two parts, each of stores. -/
def IsTwo (ws ws2 : List (Nat × Nat)) (p : List Ins) : Prop := ∃ p1 p2, IsStores ws p1 ∧ IsStores ws2 p2 ∧ p = p1 ++ p2
theorem isTwo_len {ws ws2 : List (Nat × Nat)} {p : List Ins} (h : IsTwo ws ws2 p) : p.length ≤ 2 * ws.length + 2 * ws2.length + 2 := by
  obtain ⟨p1, p2, h1, h2, rfl⟩ := h
  have := isStores_len h1
  have := isStores_len h2
  simp
  omega
set_option maxRecDepth 100000 in
set_option maxHeartbeats 1000000 in
theorem finish_any (a : DA) (s k g : Nat) (A : Option Addr) (n c : Nat) (ws : List (Nat × Nat)) (w : World) (h : Reads w w.heap.size 2 A n (wrCells ws)) (h0 : 0 < n) (hn : n ≤ 100) (hv : ∀ e ∈ ws, e.1 < 18446744073709551616) (hB : Blk w g 246 (logCells a s k)) (hs : 64 * s < 18446744073709551616) :
    Calls Tryz.prog 176 #[.pointer (some ⟨g, 0, none⟩), .slice A n c] w (RetProg w (IsTwo ws [(64 * s, 0)])) := by
  have HSt := Lib.hid (stores_small A n c ws w h h0 (by omega) hv)
  have HLN := Lib.hid (show ws.length = n by have := h.1; rw [wrCells_len] at this; omega)
  have HBB := Lib.hid hB
  have HMk : Hid (∀ W, Below w.heap.size w W → Calls Tryz.prog 106 #[.pointer (some ⟨g, 0, none⟩), .int .u64 0] W (RetProg W (IsStores [(64 * s, 0)]))) := Lib.hid (fun W hW => mark_any a s k g 0 W (hB.below hW hB.lt) hs)
  clear h hv hB
  go_enter Tryz.func176, Tryz.ntmps176
  go_wp2_with fail
  refine HSt.out.mono ?_
  rintro e1 w4 ⟨B1, n1, d1, p1, rfl, hp1, ho1, hb1⟩
  have HP1 := Lib.hid hp1
  have HO1 := Lib.hid ho1
  have HB4 := Lib.hid hb1
  have HSS := Lib.hid (HMk.out w4 hb1)
  clear hp1 ho1 hb1 HSt
  go_wp2_with fail
  refine HSS.out.mono ?_
  rintro e1 w5 ⟨B2, n2, d2', p2, rfl, hp2, ho2, hb2⟩
  have HP2 := Lib.hid hp2
  have HB5 := Lib.hid (HB4.out.trans (hb2.mono HB4.out.size))
  have hl1 : n1 ≤ 400 := by
    have h1 := HO1.out.1
    have h2 := isStores_len HP1.out
    rw [insCells_len] at h1
    have := HLN.out
    omega
  have hl2 : n2 ≤ 400 := by
    have h1 := ho2.1
    have h2 := isStores_len HP2.out
    rw [insCells_len] at h1
    simp at h2
    omega
  have HTh := Lib.hid (then_any B1 B2 n1 d1 n2 d2' p1 p2 w5 (Reads.of_own (own_below HO1.out hb2)) (Reads.of_own ho2) hl1 hl2)
  clear hp2 ho2 hb2 HSS HO1
  go_wp2_with fail
  refine HTh.out.mono ?_
  rintro e1 w6 ⟨B3, n3, d3, rfl, hn3, ho3, hb3⟩
  have HO3 := Lib.hid ho3
  have HB6 := Lib.hid (HB5.out.trans (hb3.mono HB5.out.size))
  clear hn3 ho3 hb3 HTh
  go_wp2
  go_ret
  exact ⟨_, _, _, _, rfl, ⟨p1, p2, HP1.out, HP2.out, rfl⟩, own_le HO3.out HB5.out.size, HB6.out⟩
end Go.Proofs.YtklpeghhgoeeiaaGreatDoor
/- crc.Words: some sum, without effect. -/
namespace Go.Proofs.YtklpeghhgoeeiaaGreatDoor
open Go.RowKit
def RetSum32 (w : World) (e : Ending) (w' : World) : Prop := ∃ v : Nat, v < 4294967296 ∧ e = .returned (.int .u32 (v : Int)) ∧ w = w'
set_option maxRecDepth 100000 in
set_option maxHeartbeats 2000000 in
theorem words_any (A : Option Addr) (n cap B : Nat) (xs : List Nat) (w : World) (hrd : Reads w B 1 A n (uCells xs)) (hv : ∀ x ∈ xs, x < 18446744073709551616) (hn : n ≤ 1000000) (ht : Tab w) :
    Calls Tryz.prog 215 #[.slice A n cap] w (RetSum32 w) := by
  have HR := Lib.hid hrd
  have HT := Lib.hid ht
  have HV : Hid (∀ k (hk : k < xs.length), xs[k] < 18446744073709551616) := Lib.hid (fun k hk => hv _ (List.getElem_mem hk))
  have uc : IntKind.u32.signed = false := rfl
  clear hrd hv ht
  go_enter Tryz.func215, Tryz.ntmps215
  go_wp2
  go_loopw [3, 8] (fun r i wr => ∃ k s : Nat, k ≤ n ∧ s < 4294967296 ∧ i = .int .i64 (k : Int) ∧ r = .int .u32 (s : Int) ∧ Hid (w = wr)) (fun _ i _ => n - (Go.RowKit.intOf i).toNat)
  case atStart => exact ⟨0, 4294967295, Nat.zero_le _, by omega, by go_num, by go_num, Lib.hid rfl⟩
  case round =>
    obtain ⟨k, s, hk, hs, rfl, rfl, hw⟩ := hrel
    have hw := hw.out
    subst hw
    by_cases hlt : k < n
    · obtain ⟨hkl, b, off, hA, hbB, q0⟩ := u_facts HR.out hlt
      subst hA
      have hx := HV.out k hkl
      have hz5 : (0 : Int) ≤ (k : Int) := by omega
      have hz6 : (k : Int) < (n : Int) := by omega
      generalize xs[k] = x at *
      go_wp2
      clear q0
      go_loopw [3, 5, 12] (fun r y i wr => ∃ j s z : Nat, j ≤ 8 ∧ s < 4294967296 ∧ z < 18446744073709551616 ∧ i = .int .i64 (j : Int) ∧ r = .int .u32 (s : Int) ∧ y = .int .u64 (z : Int) ∧ Hid (w = wr)) (fun _ _ i _ => 8 - (Go.RowKit.intOf i).toNat)
      case atStart => exact ⟨0, s, x, by omega, hs, hx, by go_num, rfl, rfl, Lib.hid rfl⟩
      case round =>
        clear hs hx
        obtain ⟨j, s, z, hj, hs, hz, rfl, rfl, rfl, hw⟩ := hrel
        have hw := hw.out
        subst hw
        by_cases h8 : j < 8
        · have e1 : IntKind.u8.wrap (z : Int) = ((z % 256 : Nat) : Int) := by rw [IntKind.wrap_u8]; omega
          have HS := Lib.hid (step_any s (z % 256) hs (by omega) w HT.out)
          have hst := Crc.step_lt hs (show z % 256 < 256 by omega)
          generalize z % 256 = by_ at *
          generalize Crc.step s by_ = s2 at *
          have hz8 : (z : Int) / 256 = ((z / 256 : Nat) : Int) := by omega
          have hz9 : z / 256 < 18446744073709551616 := by omega
          generalize z / 256 = z2 at *
          go_wp2_with fail
          refine HS.out.mono ?_
          rintro e w1 ⟨rfl, rfl⟩
          go_wp2
          go_roundw
          case rel => exact ⟨j + 1, s2, z2, by omega, hst, hz9, by go_num, rfl, rfl, Lib.hid trivial⟩
          case measure => simp [Go.RowKit.intOf]; omega
        · have h8' : j = 8 := by omega
          subst h8'
          go_wp2
          go_roundw
          case rel =>
            first
              | exact ⟨k + 1, s, by omega, hs, by go_num, rfl, Lib.hid trivial⟩
              | (repeat apply Exists.intro
                 refine ⟨?_, trivial⟩
                 exact ⟨k + 1, s, by omega, hs, by go_num, rfl, Lib.hid trivial⟩)
              | (refine ⟨_, ?_⟩
                 exact ⟨k + 1, s, by omega, hs, by go_num, rfl, Lib.hid trivial⟩)
          case measure => simp [Go.RowKit.intOf]; omega
    · have hkn : k = n := by omega
      subst hkn
      have hx := u32_not s hs
      have hlt2 : s ^^^ Crc.ones < 4294967296 := Crc.xor_lt hs (by decide)
      generalize s ^^^ Crc.ones = v at *
      go_wp2
      go_ret
      exact ⟨v, hlt2, by first | rfl | (rw [hx]), rfl⟩
end Go.Proofs.YtklpeghhgoeeiaaGreatDoor
/- redo: allowed. -/
namespace Go.Proofs.YtklpeghhgoeeiaaGreatDoor
open Go.RowKit
set_option maxRecDepth 100000 in
set_option maxHeartbeats 1000000 in
theorem size_dev {a : DA} {L T : Nat} {w : World} {S : Fp} {cur : Nat → Nat} {F : Nat} (h : Dev a L T w S cur F) :
    Calls Tryz.prog 87 #[.pointer (some ⟨a.th 0, 0, none⟩)] w fun e w' => e = .returned (.int .u64 ((L : Int) * 64)) ∧ w' = w := by
  obtain ⟨ls, exe, per, cs, lsC, hdc, hnt⟩ := h
  have hL := hdc.hL
  obtain ⟨f0, f2, _, _, f4⟩ := hdc.facts (j := 0) (by omega)
  have u1 : IntKind.u64.wrap ((L : Int) * 64) = (L : Int) * 64 := by rw [IntKind.wrap_u64]; omega
  clear hdc hnt
  go_enter Tryz.func87, Tryz.ntmps87
  go_wp2_with go_in
  go_ret
  exact ⟨rfl, rfl⟩
set_option maxRecDepth 100000 in
set_option maxHeartbeats 2000000 in
theorem allowedR_any {a : DA} {L T : Nat} {w : World} {S : Fp} {cur : Nat → Nat} {F : Nat} (h : Dev a L T w S cur F) (g s n : Nat) (hB : Blk w g 246 (logCells a s n)) (hs : s + n ≤ L) (o : Nat) (ho : OffOk L s n o) :
    Calls Tryz.prog 216 #[.pointer (some ⟨g, 0, none⟩), .int .u64 (o : Int)] w fun e w' => e = .returned (.bool true) ∧ Below w.heap.size w w' := by
  have c0 : w.cell? ⟨g, 0, none⟩ = some (memV a) := hB.cell 0
  have c1 : w.cell? ⟨g, 1, none⟩ = some (.int .u64 ((64 * s : Nat) : Int)) := hB.cell 1
  have c2 : w.cell? ⟨g, 2, none⟩ = some (.int .u64 ((64 * n : Nat) : Int)) := hB.cell 2
  have hmS := methSize (some ⟨a.th 0, 0, none⟩)
  have HSz : Hid (∀ n, Calls Tryz.prog 87 #[.pointer (some ⟨a.th 0, 0, none⟩)] (w.drewN n) fun e w' => e = .returned (.int .u64 ((L : Int) * 64)) ∧ w' = w.drewN n) := Lib.hid (fun n => size_dev (h.below (below_drewN (Below.refl _ w) n)))
  have hL : L ≤ 4096 := by obtain ⟨ls, exe, per, cs, lsC, hdc, hnt⟩ := h; exact hdc.hL
  obtain ⟨o1, o2, o3⟩ := ho
  have HB0 : Hid (∀ n, Below w.heap.size w (w.drewN n)) := Lib.hid (fun n => below_drewN (Below.refl _ w) n)
  have e1 : ((o : Int) % 8 == 0) = true := by rw [beq_iff_eq]; omega
  have e1' : (o : Int) % 8 = 0 := by omega
  have u1 : IntKind.u64.wrap ((L : Int) * 64) = (L : Int) * 64 := by rw [IntKind.wrap_u64]; omega
  have e2 : decide ((o : Int) < (L : Int) * 64) = true := decide_eq_true (by omega)
  clear h hB
  unfold memV at *
  by_cases hlt : o < 64 * s
  · have e3 : decide ((o : Int) < ((64 * s : Nat) : Int)) = true := decide_eq_true (by omega)
    have e3' : decide (o < 64 * s) = true := decide_eq_true hlt
    generalize 64 * s = z at *
    generalize 64 * n = y at *
    go_enter Tryz.func216, Tryz.ntmps216
    go_wp2
    go_quiet ((go_at_call 87; exact Calls.quiet_of_same (HSz.out _)))
    go_wp2
    go_ret
    exact ⟨rfl, HB0.out _⟩
  · have e3 : decide ((o : Int) < ((64 * s : Nat) : Int)) = false := decide_eq_false (by omega)
    have e3' : decide (o < 64 * s) = false := decide_eq_false hlt
    have u4 : IntKind.u64.wrap ((o : Int) - ((64 * s : Nat) : Int)) = (o : Int) - ((64 * s : Nat) : Int) := by rw [IntKind.wrap_u64]; omega
    have e4 : decide (((64 * n : Nat) : Int) ≤ (o : Int) - ((64 * s : Nat) : Int)) = true := decide_eq_true (by omega)
    generalize 64 * s = z at *
    generalize 64 * n = y at *
    go_enter Tryz.func216, Tryz.ntmps216
    go_wp2
    go_quiet ((go_at_call 87; exact Calls.quiet_of_same (HSz.out _)))
    go_wp2
    go_ret
    exact ⟨rfl, HB0.out _⟩
end Go.Proofs.YtklpeghhgoeeiaaGreatDoor
