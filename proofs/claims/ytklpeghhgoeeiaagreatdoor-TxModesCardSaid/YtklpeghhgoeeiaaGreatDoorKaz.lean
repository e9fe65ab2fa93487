/- The walks and laws that the claim leans on, part 26: each part says ahead of its lines what it holds. -/
import Derived.Test.YtklpeghhgoeeiaaGreatDoorKay
/- tx: an open transaction in either mode: Savepoint, Rollback, Commit, Abort; what is behind its end; Begin. -/
namespace Go.Proofs.YtklpeghhgoeeiaaGreatDoor
open Go.RowKit Go.Maps Go.Sort Go.Shelf
/-- Savepoints have ascending numbers. -/
def AT.Ok (s : AT) : Prop := s.marks.Pairwise (fun a b => a.id < b.id) ∧ ∀ a ∈ s.marks, a.id ≤ s.ids
def AT.back (s : AT) (k : Nat) : AT := match s.marks[k]? with
  | none => s
  | some a => { s with f := a.f, k := a.k, outside := a.x, surplus := a.y, marks := s.marks.take (k + 1) }
theorem AT.new_ok : AT.new.Ok := ⟨List.Pairwise.nil, fun a h => by simp [AT.new] at h⟩
theorem AT.store_ok {s : AT} (h : s.Ok) (o v : Nat) : (s.store o v).Ok := by
  unfold AT.store
  split
  · exact h
  · exact h
theorem AT.save_ok {s : AT} (h : s.Ok) : s.save.Ok := by
  refine ⟨List.pairwise_append.2 ⟨h.1, by simp, fun a ha b hb => ?_⟩, fun a ha => ?_⟩
  · simp only [List.mem_cons, List.not_mem_nil, or_false] at hb
    subst hb
    have := h.2 a ha
    show a.id < s.ids + 1
    omega
  · show a.id ≤ s.ids + 1
    rcases List.mem_append.1 ha with ha | ha
    · have := h.2 a ha; omega
    · simp only [List.mem_cons, List.not_mem_nil, or_false] at ha
      subst ha
      exact Nat.le_refl _
theorem AT.back_ok {s : AT} (h : s.Ok) (k : Nat) : (s.back k).Ok := by
  unfold AT.back
  split
  · exact h
  · exact ⟨h.1.sublist (List.take_sublist _ _), fun a ha => h.2 a (List.mem_of_mem_take ha)⟩
theorem AT.one {s : AT} (h : s.Ok) {i j : Nat} (hi : i < s.marks.length) (hj : j < s.marks.length) (e : s.marks[i].id = s.marks[j].id) : i = j := by
  rcases Nat.lt_trichotomy i j with hl | hl | hl
  · have := List.pairwise_iff_getElem.1 h.1 i j hi hj hl
    omega
  · exact hl
  · have := List.pairwise_iff_getElem.1 h.1 j i hj hi hl
    omega
set_option maxHeartbeats 1000000 in
theorem open_save {c : CX} {g mode : Nat} {m : Nat → Nat} {s : AT} {B : Nat} {Z : Fp} {w : World} (h : Open c g mode m s B Z w) (hs : s.ids ≤ 900) (hm : s.marks.length ≤ 900) :
    Calls Tryz.prog 14 #[.pointer (some ⟨g, 0, none⟩)] w fun e w' => e = .returned (.int .i64 ((s.ids + 1 : Nat) : Int)) ∧ OpenTo c g mode m s.save (B + 1) Z w w' := by
  obtain ⟨S, t, D, n, cur, base, T, ws, ml, hi, hcv, hl⟩ := h
  have hgZ : Z g := hcv.one _ (.inl rfl)
  refine (savepoint_z hi.tx hi.op hi.mks (by rw [hi.ids]; omega) (by rw [hi.rel.1]; omega)).mono ?_
  rintro e w' ⟨v, k, rfl, hx, hm', hz, hob⟩
  refine ⟨by rw [hi.ids], ZN Z w w', ⟨S, _, D, n, cur, base, T, ws, _, { hi with tx := hx, mks := hm', op := hi.op, mo := hi.mo, out := hi.out, sur := hi.sur, ids := ?_, rel := ?_, dr := hi.dr, n := by have := hi.n; omega, T := by have := hi.T; omega, tail := ?_, few := hi.few }, ?_, Cov.next hl hz.size⟩, hz.mono (fun j hj => hj.elim (fun h => h ▸ hgZ) (fun h => hcv.row j h)), ZN.grew _ _ _⟩
  · show t.ids + 1 = s.ids + 1
    rw [hi.ids]
  · exact (rel_mono (Nat.le_succ B) hi.rel).snoc ⟨by show t.ids + 1 = s.ids + 1; rw [hi.ids], hi.out, hi.sur, hi.dr, by show n ≤ B + 1; have := hi.n; omega⟩
  · intro h2
    rcases hi.tail h2 with ⟨h3, h4, h5⟩ | h3
    · refine .inl ⟨h3, h4, fun a ha => ?_⟩
      rcases List.mem_append.1 ha with ha | ha
      · exact h5 a ha
      · simp only [List.mem_cons, List.not_mem_nil, or_false] at ha
        subst ha
        subst h2
        have := hi.dr.lenU (hi.undo rfl) hi.tx.maps.words
        rw [h4] at this
        exact this.symm
    · exact .inr h3
  · have hmk : ∀ mm ∈ ml ++ [(⟨t.ids + 1, k, t.outside, t.surplus, D, n⟩ : Mk)], mm ∈ ml ∨ w.heap.size ≤ mm.k := by
      intro mm hmm
      rcases List.mem_append.1 hmm with h | h
      · exact .inl h
      · simp only [List.mem_cons, List.not_mem_nil, or_false] at h
        subst h
        exact .inr (hob.2)
    exact hcv.to hx hm' (Grew.refl _ _) hob.1 hmk ⟨.inl rfl, .inl rfl, .inl rfl, .inl rfl, .inl rfl, .inl rfl⟩
theorem back_at {s : AT} {k : Nat} (hk : k < s.marks.length) : s.back k = { s with f := s.marks[k].f, k := s.marks[k].k, outside := s.marks[k].x, surplus := s.marks[k].y, marks := s.marks.take (k + 1) } := by
  unfold AT.back
  rw [List.getElem?_eq_getElem hk]
set_option maxHeartbeats 1000000 in
theorem open_rollback {c : CX} {g mode : Nat} {m : Nat → Nat} {s : AT} {B : Nat} {Z : Fp} {w : World} (h : Open c g mode m s B Z w) (hmo : mode = 1 ∨ mode = 2) (hm : s.marks.length ≤ 900) (hk : ∀ a ∈ s.marks, a.k ≤ 50) (sp : Nat) (hsp : ∃ a ∈ s.marks, a.id = sp) (hB : B ≤ 900) :
    Calls Tryz.prog 16 #[.pointer (some ⟨g, 0, none⟩), .int .i64 (sp : Int)] w fun e w' => e = .returned (.int .i64 0) ∧ ∃ (k : Nat) (hk : k < s.marks.length), s.marks[k].id = sp ∧ OpenTo c g mode m (s.back k) (B + 1) Z w w' := by
  obtain ⟨S, t, D, n, cur, base, T, ws, ml, hi, hcv, hl⟩ := h
  have hgZ : Z g := hcv.one _ (.inl rfl)
  have hT := hi.T
  have hlen := hi.rel.1
  have hsp' : ∃ a ∈ ml, a.id = sp := by
    obtain ⟨a, ha, he⟩ := hsp
    obtain ⟨i, hi1, rfl⟩ := List.mem_iff_getElem.1 ha
    exact ⟨ml[i], List.getElem_mem _, (hi.rel.2 i (by omega) hi1).1.trans he⟩
  rcases hmo with rfl | rfl
  · refine (rollback_redo_z hi.tx hi.op hi.mo hi.mks (by omega) sp hsp').mono ?_
    rintro e w' ⟨k, hk1, kk, v, hid, rfl, hx, hm', hz, hob, hkk⟩
    have hk2 : k < s.marks.length := by omega
    have hr := hi.rel.2 k hk1 hk2
    refine ⟨rfl, k, hk2, by rw [← hr.1]; omega, ZN Z w w', ⟨S, _, _, _, cur, base, T, ws, _, { hi with tx := hx, mks := hm', op := hi.op, mo := hi.mo, out := ?_, sur := ?_, ids := ?_, rel := ?_, dr := ?_, n := by have := hr.2.2.2.2; omega, T := by omega, undo := by omega, tail := by omega, few := ?_ }, ?_, Cov.next hl hz.size⟩, hz.mono (fun j hj => hj.elim (hcv.dev j) (fun h => h ▸ hgZ)), ZN.grew _ _ _⟩
    · rw [back_at hk2]; exact hr.2.1
    · rw [back_at hk2]; exact hr.2.2.1
    · rw [back_at hk2]; exact hi.ids
    · rw [back_at hk2]; exact (rel_mono (Nat.le_succ B) hi.rel).take _
    · rw [back_at hk2]; exact hr.2.2.2.1
    · rw [back_at hk2]; have := hk _ (List.getElem_mem hk2); show s.marks[k].k ≤ 96; omega
    · exact hcv.to hx hm' (Grew.refl _ _) (fun b hb => .inl (by rw [← hob]; exact hb)) (fun mm hmm => .inl (List.mem_of_mem_take hmm)) ⟨.inr hkk, .inr (by show _ ≤ kk + 1; omega), .inr (by show _ ≤ kk + 2; omega), .inr (by show _ ≤ kk + 3; omega), .inl rfl, .inl rfl⟩
  · have hu := hi.undo rfl
    have hlenw := hi.dr.lenU hu hi.tx.maps.words
    have hfew := hi.few
    have hsz : ∀ mm ∈ ml, Maps.size mm.D ≤ 50 ∧ ∀ o ∈ uKeys mm.D, OffOk 152 30 26 o := by
      intro mm hmm
      obtain ⟨i, hi1, rfl⟩ := List.mem_iff_getElem.1 hmm
      have hi2 : i < s.marks.length := by omega
      have hr := (hi.rel.2 i hi1 hi2).2.2.2.1
      refine ⟨by rw [hr.size]; exact hk _ (List.getElem_mem hi2), fun o ho => ?_⟩
      exact hr.mark.off o ((has_key (hi.mks.st _ hmm).words o).2 ho)
    refine (rollback_undo_z hi.tx hi.op hi.mo hi.mks (by omega) sp hsp' hu.log ⟨hu.off, hu.val, by omega⟩ (by omega) hsz hu.rbnd).mono ?_
    rintro e w' ⟨k, hk1, kk, v, S', ks, hid, rfl, hp, hx, hm', hz, hg, hob, hkk⟩
    have hk2 : k < s.marks.length := by omega
    have hr := hi.rel.2 k hk1 hk2
    have hst := hi.mks.st _ (List.getElem_mem hk1)
    have hkey : ∀ o, has (ml[k]).D (kU o) = true ↔ o ∈ ks := fun o => by rw [has_key hst.words o]; exact (hp.mem_iff).symm
    have hnd : ks.Nodup := hp.nodup_iff.2 (uKeys_nodup hst.words)
    have hkl : ks.length ≤ 50 := by rw [hp.length_eq, uKeys_size hst.words]; exact (hsz _ (List.getElem_mem hk1)).1
    have hu' := hu.place (hr.2.2.2.1.mark) hkey hnd (by omega)
    refine ⟨rfl, k, hk2, by rw [← hr.1]; omega, ZN Z w w', ⟨S', _, _, _, _, base, _, _, _, { hi with tx := hx, mks := hm', op := hi.op, mo := hi.mo, out := ?_, sur := ?_, ids := ?_, rel := ?_, dr := ?_, n := by have := hr.2.2.2.2; omega, T := by omega, redo := by omega, undo := fun _ => hu', tail := ?_, few := ?_ }, ?_, Cov.next hl hz.size⟩, hz.mono (fun j hj => hj.elim (hcv.dev j) (fun h => h ▸ hgZ)), ZN.grew _ _ _⟩
    · rw [back_at hk2]; exact hr.2.1
    · rw [back_at hk2]; exact hr.2.2.1
    · rw [back_at hk2]; exact hi.ids
    · rw [back_at hk2]; exact (rel_mono (Nat.le_succ B) hi.rel).take _
    · rw [back_at hk2]; exact hr.2.2.2.1
    · intro _
      rcases hi.tail rfl with ⟨h3, h4, h5⟩ | h3
      · refine .inl ⟨h3, ?_, fun a ha => ?_⟩
        · have h6 := h5 _ (List.getElem_mem hk2)
          have h7 : ks.length = 0 := by rw [hp.length_eq, uKeys_size hst.words, hr.2.2.2.1.size]; exact h6
          rw [List.eq_nil_of_length_eq_zero h7]
          rfl
        · rw [back_at hk2] at ha
          exact h5 a (List.mem_of_mem_take ha)
      · exact .inr h3
    · rw [back_at hk2]; have := hk _ (List.getElem_mem hk2); show s.marks[k].k ≤ 96; omega
    · exact hcv.to hx hm' hg (fun b hb => .inl (by rw [← hob]; exact hb)) (fun mm hmm => .inl (List.mem_of_mem_take hmm)) ⟨.inr hkk, .inr (by show _ ≤ kk + 1; omega), .inr (by show _ ≤ kk + 2; omega), .inr (by show _ ≤ kk + 3; omega), .inl rfl, .inl rfl⟩
theorem open_rollback_bad {c : CX} {g mode : Nat} {m : Nat → Nat} {s : AT} {B : Nat} {Z : Fp} {w : World} (h : Open c g mode m s B Z w) (hm : s.marks.length ≤ 900) (sp : Nat) (hsp : ∀ a ∈ s.marks, a.id ≠ sp) :
    Calls Tryz.prog 16 #[.pointer (some ⟨g, 0, none⟩), .int .i64 (sp : Int)] w fun e w' => e = .returned (.int .i64 1) ∧ Below w.heap.size w w' := by
  obtain ⟨S, t, D, n, cur, base, T, ws, ml, hi, hcv, hl⟩ := h
  have hlen := hi.rel.1
  refine rollback_bad hi.tx hi.op hi.mks (by omega) sp (fun a ha e => ?_)
  obtain ⟨i, hi1, rfl⟩ := List.mem_iff_getElem.1 ha
  have hi2 : i < s.marks.length := by omega
  exact hsp _ (List.getElem_mem hi2) ((hi.rel.2 i hi1 hi2).1.symm.trans e)
/-- A transaction that has ended, over the words m. -/
structure DoneI (c : CX) (g : Nat) (m : Nat → Nat) (B : Nat) (Z : Fp) (w : World) (S : Fp) (t : TX) (cur : Nat → Nat) (T : Nat) : Prop where
  tx : TxE c g w S t cur T
  T : T ≤ 1000 * B + 1000
  idle : cur 32 = 0 ∧ cur 240 = 0
  bnd : ∀ i, cur i < 18446744073709551616
  agree : ∀ i, outB i → cur i = m i
  dev : ∀ j, S j → Z j
  one : Z g
  sys : ∀ j, j = c.x.r ∨ j = c.x.u ∨ j = c.x.h ∨ j = c.x.m ∨ j = c.gw → Z j
  lt : ∀ j, Z j → j < w.heap.size
def Done (c : CX) (g : Nat) (m : Nat → Nat) (B : Nat) (Z : Fp) (w : World) : Prop := ∃ S t cur T, DoneI c g m B Z w S t cur T
def DoneTo (c : CX) (g : Nat) (m : Nat → Nat) (B : Nat) (Z : Fp) (w w' : World) : Prop := ∃ Z', Done c g m B Z' w' ∧ Chg Z w w' ∧ Grew Z Z' w
theorem Done.chg {c : CX} {g : Nat} {m : Nat → Nat} {B : Nat} {Z Y : Fp} {w w' : World} (h : Done c g m B Z w) (hc : Chg Y w w') (hy : ∀ j, Y j → ¬ Z j ∧ c.w0.heap.size ≤ j) : Done c g m B Z w' := by
  obtain ⟨S, t, cur, T, hi⟩ := h
  have hno : ∀ j, Z j → ¬ Y j := fun j hz h => (hy j h).1 hz
  have hx := hi.tx
  exact ⟨S, t, cur, T, { hi with
    tx := { hx with
      base := hx.base.chg hc (fun k hk => hno k (hi.dev k hk)) ⟨hno _ (hi.sys _ (.inl rfl)), hno _ (hi.sys _ (.inr (.inl rfl))), hno _ (hi.sys _ (.inr (.inr (.inl rfl)))), hno _ (hi.sys _ (.inr (.inr (.inr (.inl rfl)))))⟩ (hno _ (hi.sys _ (.inr (.inr (.inr (.inr rfl)))))) (fun k hk => (hy k hk).2)
      tx := hc.blk hx.tx (hno _ hi.one) }
    lt := fun j hj => Nat.lt_of_lt_of_le (hi.lt j hj) hc.size }⟩
theorem Done.below {c : CX} {g : Nat} {m : Nat → Nat} {B : Nat} {Z : Fp} {w w' : World} (h : Done c g m B Z w) (hb : Below w.heap.size w w') : Done c g m B Z w' := h.chg (Chg.of_below (S := Fp.no) hb) (fun _ h => h.elim)
theorem Done.more {c : CX} {g : Nat} {m : Nat → Nat} {B B' : Nat} {Z : Fp} {w : World} (h : Done c g m B Z w) (hB : B ≤ B') : Done c g m B' Z w := by
  obtain ⟨S, t, cur, T, hi⟩ := h
  exact ⟨S, t, cur, T, { hi with T := by have := hi.T; omega }⟩
theorem done_of {c : CX} {g mode : Nat} {m m' : Nat → Nat} {s : AT} {B : Nat} {Z : Fp} {w w' : World} {S : Fp} {t : TX} {D : DataW Unit} {n : Nat} {cur base : Nat → Nat} {T : Nat} {ws : List (Nat × Nat)} {ml : List Mk} (_ : OpenI c g mode m s B w S t D n cur base T ws ml) (hcv : Cov c g S t ml Z) (hl : ∀ j, Z j → j < w.heap.size)
    {cur' : Nat → Nat} {T' : Nat} {v : Value} {e : Ending} (h : RetCmtZ c g w S t cur' T' v e w') (hT : T' ≤ 1000 * (B + 1) + 1000) (h0 : cur' 32 = 0 ∧ cur' 240 = 0) (hb : ∀ i, cur' i < 18446744073709551616) (ha : ∀ i, outB i → cur' i = m' i) : e = .returned v ∧ DoneTo c g m' (B + 1) Z w w' := by
  obtain ⟨S', rfl, hx, hz, hg⟩ := h
  have hgZ : Z g := hcv.one _ (.inl rfl)
  refine ⟨rfl, ZN Z w w', ⟨S', t, cur', T', hx, hT, h0, hb, ha, fun j hj => (hg j hj).elim (fun e => .inl (hcv.dev j e)) (fun e => .inr ⟨e, hx.base.dev.lt j hj⟩), .inl hgZ, fun j hj => .inl (hcv.sys j hj), Cov.next hl hz.size⟩, hz.mono (fun j hj => ?_), ZN.grew _ _ _⟩
  rcases hj with hj | hj | hj
  · exact hcv.dev j hj
  · exact hj ▸ hgZ
  · exact hcv.sys j (.inr (.inr (.inl hj)))
theorem Good.no32 : ¬ Good 256 := fun h => by have := h.out; omega
theorem OpenI.c32 {c : CX} {g : Nat} {m : Nat → Nat} {s : AT} {B : Nat} {w : World} {S : Fp} {t : TX} {D : DataW Unit} {n : Nat} {cur base : Nat → Nat} {T : Nat} {ws : List (Nat × Nat)} {ml : List Mk} (hi : OpenI c g 2 m s B w S t D n cur base T ws ml) : cur 32 = 0 := by
  rw [(hi.undo rfl).rest 32 (by unfold outLog; omega) (by
    cases hf : s.f 256 with
    | none => exact hi.dr.none_ hf
    | some v => exact absurd (hi.dr.good _ _ hf).1 Good.no32)]
  exact hi.idle.1
theorem open_abort {c : CX} {g mode : Nat} {m : Nat → Nat} {s : AT} {B : Nat} {Z : Fp} {w : World} (h : Open c g mode m s B Z w) (hmo : mode = 1 ∨ mode = 2) (hB : B ≤ 900) :
    Calls Tryz.prog 31 #[.pointer (some ⟨g, 0, none⟩)] w fun e w' => e = .returned (.int .i64 0) ∧ DoneTo c g m (B + 1) Z w w' := by
  obtain ⟨S, t, D, n, cur, base, T, ws, ml, hi, hcv, hl⟩ := h
  have hT := hi.T
  rcases hmo with rfl | rfl
  · have hcb := hi.redo rfl
    subst hcb
    exact (abort_redo_z hi.tx hi.op hi.mo).mono (fun e w' hr => done_of hi hcv hl hr (by omega) hi.idle hi.bnd hi.agree)
  · have hu := hi.undo rfl
    have hlen := hi.dr.lenU hu hi.tx.maps.words
    have hfew := hi.few
    refine (abort_undo_z hi.tx hi.op hi.mo hu.log ⟨hu.off, hu.val, by omega⟩ (by omega)).mono (fun e w' hr => done_of hi hcv hl hr (by omega) ⟨?_, (logU_rb hu.log).count⟩ hu.rbnd (fun i hi' => (hu.back hi'.log).trans (hi.agree i hi')))
    rw [hu.back (show outLog 32 by unfold outLog; omega)]
    exact hi.idle.1
/-- A Commit that fails ends the transaction. -/
theorem open_commit_full {c : CX} {g mode : Nat} {m : Nat → Nat} {s : AT} {B : Nat} {Z : Fp} {w : World} (h : Open c g mode m s B Z w) (hmo : mode = 1 ∨ mode = 2) (hB : B ≤ 900) (ho : s.outside = false) (hs : s.surplus = true) :
    Calls Tryz.prog 17 #[.pointer (some ⟨g, 0, none⟩)] w fun e w' => e = .returned (.int .i64 9) ∧ DoneTo c g m (B + 1) Z w w' := by
  obtain ⟨S, t, D, n, cur, base, T, ws, ml, hi, hcv, hl⟩ := h
  have hT := hi.T
  rcases hmo with rfl | rfl
  · have hcb := hi.redo rfl
    subst hcb
    exact (commit_full hi.tx hi.op (hi.out.trans ho) (hi.sur.trans hs) (abort_redo_z hi.tx hi.op hi.mo)).mono (fun e w' hr => done_of hi hcv hl hr (by omega) hi.idle hi.bnd hi.agree)
  · have hu := hi.undo rfl
    have hlen := hi.dr.lenU hu hi.tx.maps.words
    have hfew := hi.few
    refine (commit_full hi.tx hi.op (hi.out.trans ho) (hi.sur.trans hs) (abort_undo_z hi.tx hi.op hi.mo hu.log ⟨hu.off, hu.val, by omega⟩ (by omega))).mono (fun e w' hr => done_of hi hcv hl hr (by omega) ⟨?_, (logU_rb hu.log).count⟩ hu.rbnd (fun i hi' => (hu.back hi'.log).trans (hi.agree i hi')))
    rw [hu.back (show outLog 32 by unfold outLog; omega)]
    exact hi.idle.1
theorem vw_agree {f : Fm} {base m : Nat → Nat} (h : ∀ i, outB i → base i = m i) {i : Nat} (hi : outB i) : vw f base i = vw f m i := by
  unfold vw
  rw [h i hi]
set_option maxHeartbeats 1000000 in
theorem open_commit {c : CX} {g mode : Nat} {m : Nat → Nat} {s : AT} {B : Nat} {Z : Fp} {w : World} (h : Open c g mode m s B Z w) (hmo : mode = 1 ∨ mode = 2) (hB : B ≤ 900) (ho : s.outside = false) (hs : s.surplus = false) (ht : Tab c.w0) :
    Calls Tryz.prog 17 #[.pointer (some ⟨g, 0, none⟩)] w fun e w' => e = .returned (.int .i64 0) ∧ DoneTo c g (vw s.f m) (B + 1) Z w w' := by
  obtain ⟨S, t, D, n, cur, base, T, ws, ml, hi, hcv, hl⟩ := h
  have hT := hi.T
  have hsz := hi.dr.size
  have hfew := hi.few
  rcases hmo with rfl | rfl
  · have hcb := hi.redo rfl
    subst hcb
    have hw := hi.tx.maps.words
    refine (commit_z (fun cur' => ∃ ks cm, ks.Perm (uKeys D) ∧ cm < 18446744073709551616 ∧ cur' = rdC cur (chW D ks) cm) hi.tx hi.op (hi.out.trans ho) (hi.sur.trans hs) (by omega) (by omega) (T' := T + 800) (fun S5 W5 hx5 => apply_redo hx5 hi.mo hi.dr hi.few hi.idle.1 (by omega) ht)).mono ?_
    rintro e w' ⟨cur', ⟨ks, cm, hp, hcm, rfl⟩, hr⟩
    have hkey : ∀ o, o ∈ ks ↔ has D (kU o) = true := fun o => by rw [has_key hw o]; exact hp.mem_iff
    have hnd : ks.Nodup := hp.nodup_iff.2 (uKeys_nodup hw)
    have hkl : ks.length ≤ 96 := by rw [hp.length_eq, uKeys_size hw]; omega
    have hcl : (chW D ks).length ≤ 96 := by simp [chW]; omega
    have hg : ∀ e ∈ chW D ks, Good e.1 := fun e he => (hi.dr.chW_good hkey he).1
    refine done_of hi hcv hl hr (by omega) ⟨rdC_idle hi.idle.1, ?_⟩ (rdC_bnd hi.bnd (fun e he => ⟨by have := (hg e he).lt; omega, (hi.dr.chW_good hkey he).2⟩) hcm) (fun i hi' => (hi.dr.curR hkey hnd hkl hi').trans (vw_agree hi.agree hi'))
    rw [rdC_rest hcl (.inr rfl) (fun e he hc => by have := (hg e he).div; unfold outB at this; omega)]
    exact hi.idle.2
  · have hu := hi.undo rfl
    have hlen := hi.dr.lenU hu hi.tx.maps.words
    refine (commit_z (fun cur' => cur' = cmC cur ws) hi.tx hi.op (hi.out.trans ho) (hi.sur.trans hs) (by omega) (by omega) (T' := T + 480) (fun S5 W5 hx5 => (apply_undo hx5 hi.mo hu.allIn hu.log ⟨hu.off, hu.val, by omega⟩ (by omega) hu.bnd).mono (fun e w' hr => ⟨_, rfl, hr⟩))).mono ?_
    rintro e w' ⟨cur', rfl, hr⟩
    have hcm : ∀ i, i ≠ 240 → cmC cur ws i = cur i := fun i hne => by
      unfold cmC
      split
      · rfl
      · rw [wrS_one, if_neg (by omega)]
    refine done_of hi hcv hl hr (by omega) ⟨by rw [hcm 32 (by omega)]; exact hi.c32, ?_⟩ (fun i => ?_) (fun i hi' => by
      rw [hcm i (by unfold outB at hi'; omega), hi.dr.curU hu hi']
      exact vw_agree hi.agree hi')
    · unfold cmC
      split
      · rename_i h0
        have := hu.log.count
        rw [h0] at this
        exact this
      · rfl
    · by_cases h2 : i = 240
      · subst h2
        unfold cmC
        split
        · exact hu.bnd _
        · show 0 < _
          omega
      · rw [hcm i h2]; exact hu.bnd i
/-- No transaction is open; the words are m. -/
structure IdleI (c : CX) (m : Nat → Nat) (B : Nat) (Z : Fp) (w : World) (S : Fp) (last : Option Addr) (cur : Nat → Nat) (T : Nat) : Prop where
  base : Base c w S false last cur T
  T : T ≤ 1000 * B + 1000
  idle : cur 32 = 0 ∧ cur 240 = 0
  bnd : ∀ i, cur i < 18446744073709551616
  agree : ∀ i, outB i → cur i = m i
  dev : ∀ j, S j → Z j
  sys : ∀ j, j = c.x.r ∨ j = c.x.u ∨ j = c.x.h ∨ j = c.x.m ∨ j = c.gw → Z j
  lt : ∀ j, Z j → j < w.heap.size
def Idle (c : CX) (m : Nat → Nat) (B : Nat) (Z : Fp) (w : World) : Prop := ∃ S last cur T, IdleI c m B Z w S last cur T
theorem Done.idle {c : CX} {g : Nat} {m : Nat → Nat} {B : Nat} {Z : Fp} {w : World} (h : Done c g m B Z w) : Idle c m B Z w := by
  obtain ⟨S, t, cur, T, hi⟩ := h
  exact ⟨S, _, cur, T, hi.tx.base, hi.T, hi.idle, hi.bnd, hi.agree, hi.dev, hi.sys, hi.lt⟩
theorem Idle.chg {c : CX} {m : Nat → Nat} {B : Nat} {Z Y : Fp} {w w' : World} (h : Idle c m B Z w) (hc : Chg Y w w') (hy : ∀ j, Y j → ¬ Z j ∧ c.w0.heap.size ≤ j) : Idle c m B Z w' := by
  obtain ⟨S, last, cur, T, hi⟩ := h
  have hno : ∀ j, Z j → ¬ Y j := fun j hz h => (hy j h).1 hz
  exact ⟨S, last, cur, T, { hi with
    base := hi.base.chg hc (fun k hk => hno k (hi.dev k hk)) ⟨hno _ (hi.sys _ (.inl rfl)), hno _ (hi.sys _ (.inr (.inl rfl))), hno _ (hi.sys _ (.inr (.inr (.inl rfl)))), hno _ (hi.sys _ (.inr (.inr (.inr (.inl rfl)))))⟩ (hno _ (hi.sys _ (.inr (.inr (.inr (.inr rfl)))))) (fun k hk => (hy k hk).2)
    lt := fun j hj => Nat.lt_of_lt_of_le (hi.lt j hj) hc.size }⟩
theorem Idle.below {c : CX} {m : Nat → Nat} {B : Nat} {Z : Fp} {w w' : World} (h : Idle c m B Z w) (hb : Below w.heap.size w w') : Idle c m B Z w' := h.chg (Chg.of_below (S := Fp.no) hb) (fun _ h => h.elim)
theorem Mks.none_ (c : CX) (w : World) (S : Fp) (t : TX) (h : t.marks = .slice none 0 0) : Mks c w S t [] :=
  ⟨by rw [h]; exact World.ownsRow_nil _ _ _ _, fun m hm => by simp at hm, fun m hm => by simp at hm, fun b hb => by rw [h] at hb; cases hb⟩
theorem idle_begin {c : CX} {m : Nat → Nat} {B : Nat} {Z : Fp} {w : World} (h : Idle c m B Z w) (mode : Nat) (hmo : mode = 1 ∨ mode = 2) :
    Calls Tryz.prog 12 #[.pointer (some ⟨c.x.m, 0, none⟩), .int .u8 (mode : Int)] w fun e w' => ∃ g, e = .returned (.tuple #[.pointer (some ⟨g, 0, none⟩), .int .i64 0]) ∧ OpenTo c g mode m AT.new B Z w w' := by
  obtain ⟨S, last, cur, T, hi⟩ := h
  refine (begin_z hi.base mode hmo).mono ?_
  rintro e w' ⟨g, t, rfl, hf, hx, hz, hnew⟩
  have hm : Mks c w' S t [] := Mks.none_ c w' S t hf.marks
  refine ⟨g, rfl, ZN Z w w', ⟨S, t, _, 0, cur, cur, T, [], [], { tx := hx, op := hf.open_, mo := hf.mode, out := hf.outside, sur := hf.surplus, ids := hf.ids, mks := hm, rel := ⟨rfl, (fun i h1 h2 => absurd h1 (by simp))⟩, dr := DRel.start _ _, n := Nat.zero_le _, T := hi.T, redo := fun _ => rfl, undo := fun _ => UInv.start hi.idle.2 hi.bnd, tail := fun _ => .inl ⟨hf.tail, rfl, (fun a ha => by simp [AT.new] at ha)⟩, idle := hi.idle, bnd := hi.bnd, few := Nat.zero_le _, agree := hi.agree }, ⟨fun j hj => .inl (hi.dev j hj), (fun b hb => by rw [hf.marks] at hb; cases hb), (fun mm hmm => by simp at hmm), fun j hj => ?_, fun j hj => .inl (hi.sys j hj)⟩, Cov.next hi.lt hz.size⟩, hz.mono (fun j hj => hi.sys j (hj.elim (fun h => .inr (.inr (.inl h))) (fun h => .inr (.inr (.inr (.inl h)))))), ZN.grew _ _ _⟩
  obtain ⟨n1, n2, n3, n4, n5, n6, n7⟩ := hnew
  have hmp := hx.maps
  rcases hj with rfl | rfl | rfl | rfl | rfl | rfl | rfl
  · exact .inr ⟨n1, hx.tx.lt⟩
  · exact .inr ⟨n2, hmp.words.lt⟩
  · exact .inr ⟨n3, hmp.inner.lt⟩
  · exact .inr ⟨n4, hmp.own.lt⟩
  · exact .inr ⟨n5, hmp.freed.lt⟩
  · exact .inr ⟨n6, hmp.held.lt⟩
  · exact .inr ⟨n7, hmp.cover.lt⟩
theorem open_busy {c : CX} {g mode : Nat} {m : Nat → Nat} {s : AT} {B : Nat} {Z : Fp} {w : World} (h : Open c g mode m s B Z w) (mo : Nat) (hmo : mo = 1 ∨ mo = 2) :
    Calls Tryz.prog 12 #[.pointer (some ⟨c.x.m, 0, none⟩), .int .u8 (mo : Int)] w fun e w' => e = .returned (.tuple #[.pointer none, .int .i64 7]) ∧ w = w' := by
  obtain ⟨S, t, D, n, cur, base, T, ws, ml, hi, hcv, hl⟩ := h
  rcases hmo with rfl | rfl
  · exact begin_busy hi.tx.base
  · exact begin_busy2 hi.tx.base
end Go.Proofs.YtklpeghhgoeeiaaGreatDoor
/- tx, plain: transactions that store to the first 32 words alone; the world at the beginning; what a law looks at. -/
namespace Go.Proofs.YtklpeghhgoeeiaaGreatDoor
open Go.RowKit Go.Maps Go.Sort Go.Shelf
/-- How many of the first n words are changed. -/
def cnt (f : Fm) : Nat → Nat
  | 0 => 0
  | n + 1 => cnt f n + if (f (8 * n)).isSome then 1 else 0
theorem cnt_le (f : Fm) : ∀ n, cnt f n ≤ n
  | 0 => Nat.le_refl _
  | n + 1 => by
    have := cnt_le f n
    simp only [cnt]
    split <;> omega
theorem cnt_put (f : Fm) (i v : Nat) : ∀ n, cnt (f.put (8 * i) v) n = cnt f n + if i < n ∧ (f (8 * i)).isSome = false then 1 else 0
  | 0 => by simp [cnt]
  | n + 1 => by
    have ih := cnt_put f i v n
    simp only [cnt, ih]
    by_cases e : n = i
    · subst e
      have h1 : ((f.put (8 * n) v) (8 * n)).isSome = true := by simp [Fm.put]
      rw [if_pos h1]
      cases hf : (f (8 * n)).isSome <;> simp
    · have h1 : (f.put (8 * i) v) (8 * n) = f (8 * n) := by simp only [Fm.put]; rw [if_neg (by omega)]
      rw [h1]
      have h2 : (i < n + 1 ∧ (f (8 * i)).isSome = false) ↔ (i < n ∧ (f (8 * i)).isSome = false) := by constructor <;> rintro ⟨a, b⟩ <;> exact ⟨by omega, b⟩
      simp only [h2]
      omega
theorem cnt_no (n : Nat) : cnt Fm.no n = 0 := by
  induction n with
  | zero => rfl
  | succ n ih => simp [cnt, ih, Fm.no]
/-- Only the first 32 words are stored to. -/
structure AT.Wee (s : AT) : Prop where
  ok : s.Ok
  k : s.k = cnt s.f 32
  mm : ∀ a ∈ s.marks, a.k = cnt a.f 32 ∧ a.x = false ∧ a.y = false
  out : s.outside = false
  sur : s.surplus = false
theorem AT.Wee.new : AT.new.Wee := ⟨AT.new_ok, (cnt_no 32).symm, fun a h => by simp [AT.new] at h, rfl, rfl⟩
section
variable {s : AT}
theorem AT.Wee.le (h : s.Wee) : s.k ≤ 32 := by rw [h.k]; exact cnt_le _ _
theorem AT.Wee.mk_le (h : s.Wee) : ∀ a ∈ s.marks, a.k ≤ 50 := fun a ha => by rw [(h.mm a ha).1]; have := cnt_le a.f 32; omega
theorem AT.Wee.eq (h : s.Wee) (o v : Nat) : s.store o v = { s with f := s.f.put o v, k := cntP s.f s.k o } := by
  unfold AT.store
  rw [if_neg (fun h' => by have := h.le; omega)]
theorem AT.Wee.store (h : s.Wee) {i v : Nat} (hi : i < 32) : (s.store (8 * i) v).Wee := by
  refine ⟨AT.store_ok h.ok _ _, ?_, ?_, ?_, ?_⟩
  · rw [h.eq]
    show cntP s.f s.k (8 * i) = cnt (s.f.put (8 * i) v) 32
    rw [cnt_put, h.k]
    unfold cntP
    cases hf : (s.f (8 * i)).isSome <;> simp [hi]
  · rw [h.eq]; exact h.mm
  · rw [h.eq]; exact h.out
  · rw [h.eq]; exact h.sur
theorem AT.Wee.save (h : s.Wee) : s.save.Wee := by
  refine ⟨AT.save_ok h.ok, h.k, fun a ha => ?_, h.out, h.sur⟩
  rcases List.mem_append.1 ha with ha | ha
  · exact h.mm a ha
  · simp only [List.mem_cons, List.not_mem_nil, or_false] at ha
    subst ha
    exact ⟨h.k, h.out, h.sur⟩
theorem AT.Wee.back (h : s.Wee) (k : Nat) : (s.back k).Wee := by
  by_cases hk : k < s.marks.length
  · have ha := h.mm _ (List.getElem_mem hk)
    refine ⟨AT.back_ok h.ok k, ?_, ?_, ?_, ?_⟩
    · rw [back_at hk]; exact ha.1
    · rw [back_at hk]; exact fun a hm => h.mm a (List.mem_of_mem_take hm)
    · rw [back_at hk]; exact ha.2.1
    · rw [back_at hk]; exact ha.2.2
  · have e : s.back k = s := by
      unfold AT.back
      rw [List.getElem?_eq_none (by omega)]
    rw [e]; exact h
theorem AT.Wee.view (h : s.Wee) (m : Nat → Nat) (i j v : Nat) : vw (s.store (8 * i) v).f m j = if j = i then v else vw s.f m j := by
  rw [h.eq]
  unfold vw Fm.put
  by_cases e : j = i
  · subst e; simp
  · rw [if_neg e]
    show (if 8 * j = 8 * i then some v else s.f (8 * j)).getD (m j) = _
    rw [if_neg (by omega)]
end
theorem good8 {i : Nat} (h : i < 32) : Good (8 * i) := ⟨by omega, by omega, .inl (by omega)⟩
/-- The world as a law finds it. -/
theorem idle_made {w0 w : World} {a : DA} {S : Fp} {T : Nat} {cur : Nat → Nat} {g : Nat} {x : SA} {cs : Array Value} (h : Made w0 a S T cur g x cs w) :
    ∃ Z, Idle ⟨w0, a, x, g, cs⟩ (curM 32) 0 Z w ∧ ∀ j, Z j → w0.heap.size ≤ j := by
  have hb := h.base
  have hc := h.is_
  subst hc
  refine ⟨fun j => S j ∨ (j = x.r ∨ j = x.u ∨ j = x.h ∨ j = x.m ∨ j = g), ⟨S, none, _, T, hb, ?_, ⟨h.pool.r, h.pool.u⟩, curM_bnd, fun _ _ => rfl, fun j hj => .inl hj, fun j hj => .inr hj, fun j hj => ?_⟩, fun j hj => ?_⟩
  · have := h.few; omega
  · rcases hj with hj | rfl | rfl | rfl | rfl | rfl
    · exact hb.dev.lt j hj
    · exact hb.sys.r.lt
    · exact hb.sys.u.lt
    · exact hb.sys.h.lt
    · exact hb.sys.m.lt
    · exact hb.blk.lt
  · rcases hj with hj | rfl | rfl | rfl | rfl | rfl
    · exact h.old j hj
    · exact h.news.1
    · exact h.news.2.1
    · exact h.news.2.2.1
    · exact h.news.2.2.2
    · exact h.new
/-- What a law looks at in its own world. -/
def LawS (c : CX) (w : World) : Prop := w.cell? ⟨c.gw, 0, none⟩ = some (.pointer (some ⟨c.a.d, 0, none⟩)) ∧ w.cell? ⟨c.gw, 1, none⟩ = some (.pointer (some ⟨c.x.h, 0, none⟩)) ∧ w.cell? ⟨c.gw, 2, none⟩ = some (.pointer (some ⟨c.x.m, 0, none⟩))
theorem Base.law {c : CX} {w : World} {S : Fp} {lk : Bool} {last : Option Addr} {cur : Nat → Nat} {T : Nat} (h : Base c w S lk last cur T) : LawS c w := by
  obtain ⟨_, h0, h1, h2⟩ := h.cells
  exact ⟨(h.blk.cell 0).trans h0, (h.blk.cell 1).trans h1, (h.blk.cell 2).trans h2⟩
theorem Idle.law {c : CX} {m : Nat → Nat} {B : Nat} {Z : Fp} {w : World} (h : Idle c m B Z w) : LawS c w := by
  obtain ⟨S, last, cur, T, hi⟩ := h
  exact hi.base.law
theorem Open.law {c : CX} {g mode : Nat} {m : Nat → Nat} {s : AT} {B : Nat} {Z : Fp} {w : World} (h : Open c g mode m s B Z w) : LawS c w := by
  obtain ⟨S, t, D, n, cur, base, T, ws, ml, hi, _⟩ := h
  exact hi.tx.base.law
/-- Everything that a law's transaction turns lies behind the world at the beginning. -/
theorem Idle.out {c : CX} {m : Nat → Nat} {B : Nat} {Z : Fp} {w : World} (h : Idle c m B Z w) : Below c.w0.heap.size c.w0 w := by
  obtain ⟨S, last, cur, T, hi⟩ := h
  exact hi.base.below
theorem Open.out {c : CX} {g mode : Nat} {m : Nat → Nat} {s : AT} {B : Nat} {Z : Fp} {w : World} (h : Open c g mode m s B Z w) : Below c.w0.heap.size c.w0 w := by
  obtain ⟨S, t, D, n, cur, base, T, ws, ml, hi, _⟩ := h
  exact hi.tx.base.below
set_option maxRecDepth 100000 in
set_option maxHeartbeats 1000000 in
theorem thread1_dev {a : DA} {L T : Nat} {w : World} {S : Fp} {cur : Nat → Nat} {F : Nat} (h : Dev a L T w S cur F) :
    Calls Tryz.prog 18 #[.pointer (some ⟨a.d, 0, none⟩), .int .i64 1] w fun e w' => e = .returned (.pointer (some ⟨a.th 1, 0, none⟩)) ∧ w = w' := by
  obtain ⟨ls, exe, per, cs, lsC, hdc, hnt⟩ := h
  have f3 : w.cell? ⟨a.d, 4, none⟩ = some (.pointer (some ⟨a.th 1, 0, none⟩)) := hdc.dev.cell 4
  clear hdc hnt
  go_enter Tryz.func18, Tryz.ntmps18
  go_wp2
  go_ret
  exact ⟨rfl, rfl⟩
set_option maxRecDepth 100000 in
set_option maxHeartbeats 1000000 in
theorem thread2_dev {a : DA} {L T : Nat} {w : World} {S : Fp} {cur : Nat → Nat} {F : Nat} (h : Dev a L T w S cur F) :
    Calls Tryz.prog 18 #[.pointer (some ⟨a.d, 0, none⟩), .int .i64 2] w fun e w' => e = .returned (.pointer (some ⟨a.th 2, 0, none⟩)) ∧ w = w' := by
  obtain ⟨ls, exe, per, cs, lsC, hdc, hnt⟩ := h
  have f3 : w.cell? ⟨a.d, 5, none⟩ = some (.pointer (some ⟨a.th 2, 0, none⟩)) := hdc.dev.cell 5
  clear hdc hnt
  go_enter Tryz.func18, Tryz.ntmps18
  go_wp2
  go_ret
  exact ⟨rfl, rfl⟩
theorem idle_thread0 {c : CX} {m : Nat → Nat} {B : Nat} {Z : Fp} {w : World} (h : Idle c m B Z w) :
    Calls Tryz.prog 18 #[.pointer (some ⟨c.a.d, 0, none⟩), .int .i64 0] w fun e w' => e = .returned (.pointer (some ⟨c.a.th 0, 0, none⟩)) ∧ w = w' := by
  obtain ⟨S, last, cur, T, hi⟩ := h
  exact thread_any hi.base.dev
theorem idle_thread1 {c : CX} {m : Nat → Nat} {B : Nat} {Z : Fp} {w : World} (h : Idle c m B Z w) :
    Calls Tryz.prog 18 #[.pointer (some ⟨c.a.d, 0, none⟩), .int .i64 1] w fun e w' => e = .returned (.pointer (some ⟨c.a.th 1, 0, none⟩)) ∧ w = w' := by
  obtain ⟨S, last, cur, T, hi⟩ := h
  exact thread1_dev hi.base.dev
theorem idle_thread2 {c : CX} {m : Nat → Nat} {B : Nat} {Z : Fp} {w : World} (h : Idle c m B Z w) :
    Calls Tryz.prog 18 #[.pointer (some ⟨c.a.d, 0, none⟩), .int .i64 2] w fun e w' => e = .returned (.pointer (some ⟨c.a.th 2, 0, none⟩)) ∧ w = w' := by
  obtain ⟨S, last, cur, T, hi⟩ := h
  exact thread2_dev hi.base.dev
theorem idle_load {c : CX} {m : Nat → Nat} {B : Nat} {Z : Fp} {w : World} (h : Idle c m B Z w) {j : Nat} (hj : j < 8) (o : Nat) (ho : Good o) :
    Calls Tryz.prog 19 #[.pointer (some ⟨c.a.th j, 0, none⟩), .int .u64 (o : Int)] w fun e w' => e = .returned (.int .u64 (m (o / 8) : Int)) ∧ w = w' := by
  obtain ⟨S, last, cur, T, hi⟩ := h
  rw [← hi.agree _ ho.div]
  exact load_dev hi.base.dev hj o ho.al ho.lt
theorem done_loadX {c : CX} {g : Nat} {m : Nat → Nat} {B : Nat} {Z : Fp} {w : World} (h : Done c g m B Z w) (o : Nat) (ho : Good o) :
    Calls Tryz.prog 15 #[.pointer (some ⟨g, 0, none⟩), .int .u64 (o : Int)] w fun e w' => e = .returned (.int .u64 (m (o / 8) : Int)) ∧ w = w' := by
  obtain ⟨S, t, cur, T, hi⟩ := h
  rw [← hi.agree _ ho.div]
  exact done_load hi.tx o ho.al ho.lt
/-- An array of 32 words. -/
def Arr (w : World) (b : Nat) (F : Nat → Nat) : Prop := ∃ cs, Blk w b 36 cs ∧ cs.size = 32 ∧ ∀ i, i < 32 → cs[i]? = some (.int .u64 (F i : Int))
theorem Arr.cell {w : World} {b : Nat} {F : Nat → Nat} (h : Arr w b F) {i : Nat} (hi : i < 32) : w.cell? ⟨b, i, none⟩ = some (.int .u64 (F i : Int)) := by
  obtain ⟨cs, hB, _, hc⟩ := h
  exact (hB.cell i).trans (hc i hi)
theorem Arr.frozen {w : World} {b : Nat} {F : Nat → Nat} (h : Arr w b F) (i : Nat) : w.frozen? ⟨b, i, none⟩ = false := by
  obtain ⟨cs, hB, _, _⟩ := h
  exact hB.frozen i
theorem Arr.lt {w : World} {b : Nat} {F : Nat → Nat} (h : Arr w b F) : b < w.heap.size := by
  obtain ⟨cs, hB, _, _⟩ := h
  exact hB.lt
theorem Arr.chg {w w' : World} {b : Nat} {F : Nat → Nat} {Y : Fp} (h : Arr w b F) (hc : Chg Y w w') (hy : ¬ Y b) : Arr w' b F := by
  obtain ⟨cs, hB, h1, h2⟩ := h
  exact ⟨cs, hc.blk hB hy, h1, h2⟩
theorem Arr.set {w : World} {b : Nat} {F : Nat → Nat} (h : Arr w b F) {i : Nat} (hi : i < 32) (v : Nat) : Arr (w.setCell ⟨b, i, none⟩ (.int .u64 (v : Int))) b (upd F i v) := by
  obtain ⟨cs, hB, h1, h2⟩ := h
  refine ⟨_, hB.set_ i _, by simpa using h1, fun j hj => ?_⟩
  rw [Array.getElem?_setIfInBounds]
  unfold upd
  by_cases e : i = j
  · subst e
    rw [if_pos rfl, if_pos (by omega), if_pos rfl]
  · rw [if_neg e, if_neg (by omega)]
    exact h2 j hj
theorem Arr.congr {w : World} {b : Nat} {F G : Nat → Nat} (h : Arr w b F) (e : ∀ i, i < 32 → F i = G i) : Arr w b G := by
  obtain ⟨cs, hB, h1, h2⟩ := h
  exact ⟨cs, hB, h1, fun i hi => by rw [← e i hi]; exact h2 i hi⟩
end Go.Proofs.YtklpeghhgoeeiaaGreatDoor
/- tx, for TxLimits: the words that it stores to, and what the stores leave. -/
namespace Go.Proofs.YtklpeghhgoeeiaaGreatDoor
open Go.RowKit Go.Maps Go.Sort Go.Shelf
def plc (i : Nat) : Nat := if i < 32 then 8 * i else 8448 + 8 * (i - 32)
theorem plc_good {i : Nat} (h : i < 110) : Good (plc i) := by
  unfold plc
  split
  · exact ⟨by omega, by omega, .inl (by omega)⟩
  · exact ⟨by omega, by omega, .inr (by omega)⟩
theorem plc_inj {i j : Nat} (h : plc i = plc j) : i = j := by
  unfold plc at h
  split at h <;> split at h <;> omega
def liS : Nat → AT
  | 0 => AT.new.save
  | k + 1 => (liS k).store (plc k) 77
structure LimI (k : Nat) (s : AT) : Prop where
  kk : s.k = min k 96
  ins : ∀ i, i < min k 96 → s.f (plc i) = some 77
  rest : ∀ i, min k 96 ≤ i → s.f (plc i) = none
  out : s.outside = false
  sur : s.surplus = decide (96 < k)
  mm : s.marks = [⟨1, Fm.no, 0, false, false⟩]
theorem lim_all : ∀ k, LimI k (liS k)
  | 0 => ⟨rfl, fun i h => absurd h (by omega), fun _ _ => rfl, rfl, rfl, rfl⟩
  | k + 1 => by
    have ih := lim_all k
    by_cases hk : k < 96
    · have hn : (liS k).f (plc k) = none := ih.rest k (by omega)
      have hs : liS (k + 1) = { liS k with f := (liS k).f.put (plc k) 77, k := cntP (liS k).f (liS k).k (plc k) } := by
        show (liS k).store (plc k) 77 = _
        unfold AT.store
        rw [if_neg (fun h => by have := h.2; rw [ih.kk] at this; omega)]
      rw [hs]
      refine ⟨?_, fun i hi => ?_, fun i hi => ?_, ih.out, ?_, ih.mm⟩
      · show cntP (liS k).f (liS k).k (plc k) = _
        unfold cntP
        rw [hn]
        simp only [Option.isSome_none, Bool.false_eq_true, if_false]
        rw [ih.kk]; omega
      · show (liS k).f.put (plc k) 77 (plc i) = _
        unfold Fm.put
        by_cases e : i = k
        · subst e; simp
        · rw [if_neg (fun h => e (plc_inj h))]
          exact ih.ins i (by omega)
      · show (liS k).f.put (plc k) 77 (plc i) = _
        unfold Fm.put
        rw [if_neg (fun h => by have := plc_inj h; omega)]
        exact ih.rest i (by omega)
      · show (liS k).surplus = _
        rw [ih.sur, decide_eq_false (by omega), decide_eq_false (by omega)]
    · have hn : (liS k).f (plc k) = none := ih.rest k (by omega)
      have hs : liS (k + 1) = { liS k with surplus := true } := by
        show (liS k).store (plc k) 77 = _
        unfold AT.store
        rw [if_pos ⟨by rw [hn]; rfl, by rw [ih.kk]; omega⟩]
      rw [hs]
      refine ⟨by show (liS k).k = _; rw [ih.kk]; omega, fun i hi => ih.ins i (by omega), fun i hi => ih.rest i (by omega), ih.out, ?_, ih.mm⟩
      show true = _
      rw [decide_eq_true (by omega)]
def fst77 (k : Nat) : Nat := if 0 < k then 77 else 1
theorem lim_first {k : Nat} : vw (liS k).f (curM 32) 0 = fst77 k := by
  have h := lim_all k
  unfold vw fst77
  by_cases hk : 0 < k
  · have h1 := h.ins 0 (by omega)
    have h0 : plc 0 = 8 * 0 := rfl
    rw [h0] at h1
    rw [if_pos hk, h1]
    rfl
  · have h1 := h.rest 0 (by omega)
    have h0 : plc 0 = 8 * 0 := rfl
    rw [h0] at h1
    rw [if_neg hk, h1]
    exact curM_word 0 (by omega)
theorem lim_96 {k : Nat} (hk : 96 < k) : vw (liS k).f (curM 32) (8960 / 8) = 0 := by
  have h := lim_all k
  have h1 := h.rest 96 (by omega)
  have h0 : plc 96 = 8 * (8960 / 8) := rfl
  rw [h0] at h1
  unfold vw
  rw [h1]
  show curM 32 1120 = 0
  rw [curM_at, if_neg (by omega)]
  decide
theorem lim_back {k : Nat} : (liS k).back 0 = { liS k with f := Fm.no, k := 0, outside := false, surplus := false, marks := [⟨1, Fm.no, 0, false, false⟩] } := by
  have h := (lim_all k).mm
  unfold AT.back
  rw [h]
  rfl
set_option maxRecDepth 100000 in
set_option maxHeartbeats 1000000 in
theorem place_any_ (i : Nat) (hi : i < 110) (w : World) : Calls Tryz.prog 21 #[.int .i64 (i : Int)] w fun e w' => e = .returned (.int .u64 (plc i : Int)) ∧ w = w' := by
  by_cases h : i < 32
  · have e1 : IntKind.u64.wrap (i : Int) = (i : Int) := by rw [IntKind.wrap_u64]; omega
    have e2 : (plc i : Int) = 8 * (i : Int) := by unfold plc; rw [if_pos h]; omega
    rw [e2]
    go_enter Tryz.func21, Tryz.ntmps21
    go_wp2
    go_ret
    exact ⟨rfl, rfl⟩
  · have e1 : IntKind.u64.wrap ((i : Int) - 32) = (i : Int) - 32 := by rw [IntKind.wrap_u64]; omega
    have e2 : (plc i : Int) = 8448 + 8 * ((i : Int) - 32) := by unfold plc; rw [if_neg h]; omega
    rw [e2]
    go_enter Tryz.func21, Tryz.ntmps21
    go_wp2
    go_ret
    exact ⟨rfl, rfl⟩
theorem first_any (k : Nat) (w : World) : Calls Tryz.prog 24 #[.int .i64 (k : Int)] w fun e w' => e = .returned (.int .u64 (fst77 k : Int)) ∧ w = w' := by
  by_cases h : 0 < k
  · have e2 : (fst77 k : Int) = 77 := by unfold fst77; rw [if_pos h]; rfl
    rw [e2]
    go_enter Tryz.func24, Tryz.ntmps24
    go_wp2
    go_ret
    exact ⟨rfl, rfl⟩
  · have e2 : (fst77 k : Int) = 1 := by unfold fst77; rw [if_neg h]; rfl
    rw [e2]
    go_enter Tryz.func24, Tryz.ntmps24
    go_wp2
    go_ret
    exact ⟨rfl, rfl⟩
section
variable {c : CX} {g mode : Nat} {m : Nat → Nat} {s : AT} {B : Nat} {Z : Fp} {w : World}
theorem open_err (h : Open c g mode m s B Z w) : Calls Tryz.prog 22 #[.pointer (some ⟨g, 0, none⟩)] w fun e w' => e = .returned (.int .i64 (s.err : Int)) ∧ w = w' := by
  obtain ⟨S, t, D, n, cur, base, T, ws, ml, hi, _⟩ := h
  have e : errT t = (s.err : Int) := by
    unfold errT AT.err
    rw [hi.out, hi.sur]
    split
    · rfl
    · split <;> rfl
  rw [← e]
  exact xErr_any hi.tx
theorem open_writes (h : Open c g mode m s B Z w) : Calls Tryz.prog 23 #[.pointer (some ⟨g, 0, none⟩)] w fun e w' => e = .returned (.int .i64 (s.k : Int)) ∧ w = w' := by
  obtain ⟨S, t, D, n, cur, base, T, ws, ml, hi, _⟩ := h
  rw [← hi.dr.size]
  exact writes_open hi.tx hi.op
theorem open_publish_full (h : Open c g mode m s B Z w) (ho : s.outside = false) (hs : s.surplus = true) (x y z : Value) : Calls Tryz.prog 25 #[.pointer (some ⟨g, 0, none⟩), x, y, z] w fun e w' => e = .returned (.int .i64 9) ∧ w = w' := by
  obtain ⟨S, t, D, n, cur, base, T, ws, ml, hi, _⟩ := h
  exact publish_full hi.tx hi.op (hi.out.trans ho) (hi.sur.trans hs) x y z
theorem done_openX (h : Done c g m B Z w) : Calls Tryz.prog 26 #[.pointer (some ⟨g, 0, none⟩)] w fun e w' => e = .returned (.bool false) ∧ w = w' := by
  obtain ⟨S, t, cur, T, hi⟩ := h
  exact done_open hi.tx
theorem idle_lock (h : Idle c m B Z w) : w.cell? ⟨c.x.h, 7, none⟩ = some (.bool false) := by
  obtain ⟨S, last, cur, T, hi⟩ := h
  exact hi.base.sys.h.cell 7
end
end Go.Proofs.YtklpeghhgoeeiaaGreatDoor
