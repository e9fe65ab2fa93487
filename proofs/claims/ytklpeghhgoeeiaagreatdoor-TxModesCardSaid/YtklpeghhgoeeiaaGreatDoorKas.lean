/- The walks and laws that the claim leans on, part 19: each part says ahead of its lines what it holds. -/
import Derived.Test.YtklpeghhgoeeiaaGreatDoorKar
import Derived.Maps.RangeWalk
/- tx, mode Undo, plain: the words, the log and the changed words agree. -/
namespace Go.Proofs.YtklpeghhgoeeiaaGreatDoor
open Go.RowKit Go.Maps Go.Shelf
/-- A word out of the undo log. -/
def outLog (i : Nat) : Prop := i < 240 ∨ 448 ≤ i
theorem OffOk.div {o : Nat} (h : OffOk 152 30 26 o) : outLog (o / 8) := by
  have := h.out; have := h.al
  unfold outLog; omega
theorem OffOk.inj {o o' : Nat} (h : OffOk 152 30 26 o) (h' : OffOk 152 30 26 o') (e : o / 8 = o' / 8) : o = o' := by
  have := h.al; have := h'.al; omega
theorem wrS_other : ∀ (l : List (Nat × Nat)) (cur : Nat → Nat) (k : Nat), (∀ e ∈ l, e.1 / 8 ≠ k) → wrS cur l k = cur k
  | [], _, _, _ => rfl
  | e :: l, cur, k, h => by
    show wrS (upd cur (e.1 / 8) e.2) l k = cur k
    rw [wrS_other l _ k (fun x hx => h x (by simp [hx]))]
    have := h e (by simp)
    simp [upd]; omega
theorem wrS_get : ∀ (l : List (Nat × Nat)) (cur : Nat → Nat), (l.map (·.1)).Nodup → (∀ e ∈ l, e.1 % 8 = 0) → ∀ e ∈ l, wrS cur l (e.1 / 8) = e.2
  | [], _, _, _, _, h => by simp at h
  | x :: l, cur, hn, ha, e, he => by
    show wrS (upd cur (x.1 / 8) x.2) l (e.1 / 8) = e.2
    simp only [List.map_cons, List.nodup_cons] at hn
    rcases List.mem_cons.1 he with rfl | he
    · rw [wrS_other l _ _ (fun y hy h => hn.1 (by
        have h1 := ha y (by simp [hy]); have h2 := ha e (by simp)
        have : y.1 = e.1 := by omega
        exact List.mem_map.2 ⟨y, hy, this⟩))]
      simp [upd]
    · exact wrS_get l _ hn.2 (fun y hy => ha y (by simp [hy])) e he
theorem wrS_bnd : ∀ (l : List (Nat × Nat)) (cur : Nat → Nat), (∀ i, cur i < 18446744073709551616) → (∀ e ∈ l, e.2 < 18446744073709551616) → ∀ i, wrS cur l i < 18446744073709551616
  | [], _, h, _, i => h i
  | x :: l, cur, h, hl, i => wrS_bnd l (upd cur (x.1 / 8) x.2) (fun j => by
      unfold upd
      split
      · exact hl x (by simp)
      · exact h j) (fun e he => hl e (by simp [he])) i
theorem upd_bnd {cur : Nat → Nat} (h : ∀ i, cur i < 18446744073709551616) {v : Nat} (hv : v < 18446744073709551616) (k i : Nat) : upd cur k v i < 18446744073709551616 := by
  unfold upd
  split
  · exact hv
  · exact h i
theorem LogU.upd_ {cur : Nat → Nat} {ws : List (Nat × Nat)} (h : LogU cur 30 ws) {i : Nat} (hi : outLog i) (hc : ws.length ≤ 100) (v : Nat) : LogU (upd cur i v) 30 ws := by
  unfold outLog at hi
  refine ⟨?_, fun j hj => ⟨?_, ?_⟩⟩
  · have := h.count
    simp only [upd]; rw [if_neg (by omega)]; exact this
  · have := (h.at_ j hj).1
    simp only [upd]; rw [if_neg (by omega)]; exact this
  · have := (h.at_ j hj).2
    simp only [upd]; rw [if_neg (by omega)]; exact this
theorem LogU.wrS_ : ∀ (l : List (Nat × Nat)) {cur : Nat → Nat} {ws : List (Nat × Nat)}, LogU cur 30 ws → ws.length ≤ 100 → (∀ e ∈ l, outLog (e.1 / 8)) → LogU (wrS cur l) 30 ws
  | [], _, _, h, _, _ => h
  | e :: l, _, _, h, hc, hl => LogU.wrS_ l (h.upd_ (hl e (by simp)) hc e.2) hc (fun x hx => hl x (by simp [hx]))
theorem svC_bnd {cur : Nat → Nat} (h : ∀ i, cur i < 18446744073709551616) {n : Nat} {os : List Nat} (ho : ∀ o ∈ os, o < 18446744073709551616) (hn : n + os.length < 18446744073709551616) (i : Nat) : svC cur 1920 n os i < 18446744073709551616 := by
  unfold svC
  split
  · exact h i
  · refine wrS_bnd _ _ (wrS_bnd _ _ h ?_) ?_ i
    · intro e he
      obtain ⟨j, hj, _, x, hx, h1 | h1⟩ := entW_mem 1920 _ _ e he
      · obtain ⟨o, ho', rfl⟩ := List.mem_map.1 hx
        rw [h1]; exact ho o ho'
      · obtain ⟨o, ho', rfl⟩ := List.mem_map.1 hx
        rw [h1]; exact h _
    · intro e he
      simp at he
      subst he
      exact hn
/-- A key of the map. -/
theorem has_key {w : World} {b n : Nat} {D : DataW Unit} {R : Value → Option (DataW Unit × List MemPlace)} (h : w.ownsMap Tryz.prog 35 R b n D) (o : Nat) : has D (kU o) = true ↔ o ∈ uKeys D := by
  obtain ⟨es, hD, hpw, _⟩ := h.entries keyedU
  have hko : ∀ p ∈ es, KeysOf Tryz.prog 35 p.1 := by
    obtain ⟨es', clock, _, F, _, hD'⟩ := h
    rw [hD'] at hD
    injection hD with hD
    subst hD
    exact fun p hp => fit_keys F p (mem_sorted.1 hp)
  subst hD
  rw [has_eq, List.any_eq_true]
  show _ ↔ o ∈ es.map fun p => litNat p.1
  rw [List.mem_map]
  constructor
  · rintro ⟨p, hp, hs⟩
    obtain ⟨v, hv⟩ := hko p hp
    obtain ⟨a, _, ha, _⟩ := keyOf_u64 Tryz.underlying35 hv
    rw [ha] at hs
    refine ⟨p, hp, ?_⟩
    rw [ha]
    have : (a : Int) = (o : Int) := by simpa [Lit.sameKey, kU] using hs
    simp [litNat]; omega
  · rintro ⟨p, hp, rfl⟩
    obtain ⟨v, hv⟩ := hko p hp
    obtain ⟨a, _, ha, _⟩ := keyOf_u64 Tryz.underlying35 hv
    exact ⟨p, hp, by rw [ha]; simp [Lit.sameKey, litNat]⟩
/-- What a savepoint says of the words. -/
structure MInv (base : Nat → Nat) (D : DataW Unit) : Prop where
  map : IsMap D
  off : ∀ o, has D (kU o) = true → OffOk 152 30 26 o
  cell : ∀ o, has D (kU o) = true → ∃ v, v < 18446744073709551616 ∧ D.atKey (kU o) (cellD 0 0 false) = cellD v (base (o / 8)) true
/-- The words, the log and the changed words agree. -/
structure UInv (cur base : Nat → Nat) (D : DataW Unit) (ws : List (Nat × Nat)) : Prop where
  map : IsMap D
  log : LogU cur 30 ws
  keys : ∀ o, has D (kU o) = true ↔ o ∈ ws.map (·.1)
  nd : (ws.map (·.1)).Nodup
  off : ∀ e ∈ ws, OffOk 152 30 26 e.1
  old : ∀ e ∈ ws, e.2 = base (e.1 / 8)
  cell : ∀ o, has D (kU o) = true → D.atKey (kU o) (cellD 0 0 false) = cellD (cur (o / 8)) (base (o / 8)) true
  rest : ∀ i, outLog i → has D (kU (8 * i)) = false → cur i = base i
  bnd : ∀ i, cur i < 18446744073709551616
  bbnd : ∀ i, base i < 18446744073709551616
section
variable {cur base : Nat → Nat} {D : DataW Unit} {ws : List (Nat × Nat)}
theorem UInv.start (h0 : cur 240 = 0) (hb : ∀ i, cur i < 18446744073709551616) : UInv cur cur (.map []) [] :=
  ⟨⟨_, rfl⟩, LogU.none h0, fun o => by simp [has], by simp, fun e h => by simp at h, fun e h => by simp at h, fun _ h => by simp [has] at h, fun _ _ _ => rfl, hb, hb⟩
theorem UInv.offD (h : UInv cur base D ws) {o : Nat} (ho : has D (kU o) = true) : OffOk 152 30 26 o := by
  obtain ⟨e, he, rfl⟩ := List.mem_map.1 ((h.keys o).1 ho)
  exact h.off e he
theorem UInv.mark (h : UInv cur base D ws) : MInv base D := ⟨h.map, fun _ ho => h.offD ho, fun o ho => ⟨_, h.bnd _, h.cell o ho⟩⟩
theorem UInv.allIn (h : UInv cur base D ws) : ∀ o, has D (kU o) = true → (cAt D o).2.2 = true := fun o ho => by
  unfold cAt
  rw [h.cell o ho, cDec_mk]
theorem UInv.val (h : UInv cur base D ws) : ∀ e ∈ ws, e.2 < 18446744073709551616 := fun e he => by rw [h.old e he]; exact h.bbnd _
/-- A new word. -/
theorem UInv.put_new (h : UInv cur base D ws) {o v : Nat} (ho : OffOk 152 30 26 o) (hD : has D (kU o) = false) (hv : v < 18446744073709551616) (hc : ws.length + 1 ≤ 100) :
    UInv (upd (svC cur 1920 ws.length [o]) (o / 8) v) base (D.put (kU o) (cellD v (cur (o / 8)) true)) (ws ++ [(o, cur (o / 8))]) := by
  have hod := ho.div
  have hcb : cur (o / 8) = base (o / 8) := h.rest _ hod (by rw [show 8 * (o / 8) = o by have := ho.al; omega]; exact hD)
  have hno : o ∉ ws.map (·.1) := fun hm => by rw [(h.keys o).2 hm] at hD; cases hD
  have hsv : ∀ i, outLog i → svC cur 1920 ws.length [o] i = cur i := fun i hi => svC_out (s := 30) (by unfold outLog at hi; simp; omega)
  have hl : LogU (svC cur (64 * 30) ws.length [o]) 30 (ws ++ frW cur [o]) := logU_save h.log [o]
  refine ⟨h.map.put _ _, ?_, fun x => ?_, ?_, ?_, ?_, fun x hx => ?_, fun i hi hx => ?_, ?_, h.bbnd⟩
  · exact LogU.upd_ hl hod (by simp [frW]; omega) v
  · by_cases e : x = o
    · subst e
      rw [has_put_same h.map (kU_key x)]
      simp
    · rw [has_put_other (kU_ne e), h.keys x]
      simp [e]
  · rw [List.map_append, List.nodup_append]
    exact ⟨h.nd, by simp, fun a ha b hb => by simp at hb; subst hb; exact fun e => hno (e ▸ ha)⟩
  · intro e he
    rcases List.mem_append.1 he with he | he
    · exact h.off e he
    · simp at he; subst he; exact ho
  · intro e he
    rcases List.mem_append.1 he with he | he
    · exact h.old e he
    · simp at he; subst he; exact hcb
  · by_cases e : x = o
    · subst e
      rw [atKey_put_same h.map (kU_key x), hcb]
      simp [upd]
    · rw [has_put_other (kU_ne e)] at hx
      have hox := h.offD hx
      have hne : x / 8 ≠ o / 8 := fun e' => e (hox.inj ho e')
      rw [atKey_put_other (kU_ne e), h.cell x hx]
      simp only [upd]
      rw [if_neg hne, hsv _ hox.div]
  · by_cases e : 8 * i = o
    · rw [e, has_put_same h.map (kU_key o)] at hx; cases hx
    · rw [has_put_other (kU_ne e)] at hx
      have hne : i ≠ o / 8 := by have := ho.al; omega
      simp only [upd]
      rw [if_neg hne, hsv i hi]
      exact h.rest i hi hx
  · exact upd_bnd (svC_bnd h.bnd (fun x hx => by simp at hx; subst hx; have := ho.lt; omega) (by simp; omega)) hv _
/-- A word that is changed already. -/
theorem UInv.put_old (h : UInv cur base D ws) {o v : Nat} (hD : has D (kU o) = true) (hv : v < 18446744073709551616) (hc : ws.length ≤ 100) :
    UInv (upd cur (o / 8) v) base (D.put (kU o) (cellD v (base (o / 8)) true)) ws := by
  have ho := h.offD hD
  have hod := ho.div
  refine ⟨h.map.put _ _, h.log.upd_ hod hc v, fun x => ?_, h.nd, h.off, h.old, fun x hx => ?_, fun i hi hx => ?_, upd_bnd h.bnd hv _, h.bbnd⟩
  · by_cases e : x = o
    · subst e
      rw [has_put_same h.map (kU_key x)]
      simpa using (h.keys x).1 hD
    · rw [has_put_other (kU_ne e), h.keys x]
  · by_cases e : x = o
    · subst e
      rw [atKey_put_same h.map (kU_key x)]
      simp [upd]
    · rw [has_put_other (kU_ne e)] at hx
      have hox := h.offD hx
      have hne : x / 8 ≠ o / 8 := fun e' => e (hox.inj ho e')
      rw [atKey_put_other (kU_ne e), h.cell x hx]
      simp only [upd]
      rw [if_neg hne]
  · by_cases e : 8 * i = o
    · rw [e, has_put_same h.map (kU_key o)] at hx; cases hx
    · rw [has_put_other (kU_ne e)] at hx
      have hne : i ≠ o / 8 := by have := ho.al; omega
      simp only [upd]
      rw [if_neg hne]
      exact h.rest i hi hx
/-- Behind a rollback of the log the words are as they were. -/
theorem UInv.back (h : UInv cur base D ws) {i : Nat} (hi : outLog i) : rbC cur ws i = base i := by
  unfold rbC
  by_cases h0 : ws = []
  · rw [if_pos h0]
    refine h.rest i hi ?_
    cases hh : has D (kU (8 * i)) with
    | false => rfl
    | true => have := (h.keys _).1 hh; rw [h0] at this; simp at this
  · rw [if_neg h0]
    have h1 : wrS (wrS cur ws) [(1920, 0)] i = wrS cur ws i := wrS_other _ _ _ (fun e he => by simp at he; subst he; unfold outLog at hi; show 1920 / 8 ≠ i; omega)
    rw [h1]
    cases hh : has D (kU (8 * i)) with
    | false =>
      rw [wrS_other ws cur i (fun e he hc => by
        have hk : has D (kU e.1) = true := (h.keys _).2 (List.mem_map.2 ⟨e, he, rfl⟩)
        have : e.1 = 8 * i := by have := (h.off e he).al; omega
        rw [this, hh] at hk; cases hk)]
      exact h.rest i hi hh
    | true =>
      obtain ⟨e, he, he1⟩ := List.mem_map.1 ((h.keys _).1 hh)
      have := wrS_get ws cur h.nd (fun e he => (h.off e he).al) e he
      rw [show e.1 / 8 = i by omega] at this
      rw [this, h.old e he]
      congr 1; omega
theorem UInv.rbnd (h : UInv cur base D ws) (i : Nat) : rbC cur ws i < 18446744073709551616 := by
  unfold rbC
  split
  · exact h.bnd i
  · exact wrS_bnd _ _ (wrS_bnd _ _ h.bnd h.val) (fun e he => by simp at he; subst he; omega) i
/-- Behind place. -/
theorem UInv.place (h : UInv cur base D ws) {D1 : DataW Unit} (hm : MInv base D1) {ks : List Nat} (hk : ∀ o, has D1 (kU o) = true ↔ o ∈ ks) (hn : ks.Nodup) (hc : ks.length ≤ 100) :
    UInv (plC cur ws D1 ks) base D1 (ks.map fun o => (o, base (o / 8))) := by
  have hall : ∀ o ∈ ks, (cAt D1 o).2.2 = true ∧ (cAt D1 o).2.1 = base (o / 8) ∧ (cAt D1 o).1 < 18446744073709551616 := fun o ho => by
    obtain ⟨v, hv, hc⟩ := hm.cell o ((hk o).2 ho)
    unfold cAt
    rw [hc, cDec_mk]
    exact ⟨rfl, rfl, hv⟩
  have hpl : ∀ l : List Nat, (∀ o ∈ l, o ∈ ks) → plW D1 false l = l.map fun o => (o, (cAt D1 o).1) := fun l => by
    induction l with
    | nil => intro _; rfl
    | cons o l ih =>
      intro hl
      have h1 := (hall o (hl o (by simp))).1
      have h2 := ih (fun x hx => hl x (by simp [hx]))
      have h3 : plW D1 false (o :: l) = (o, (cAt D1 o).1) :: plW D1 false l := by
        unfold plW
        rw [List.filterMap_cons]
        simp [h1]
      rw [h3, h2, List.map_cons]
  have hpk := hpl ks (fun o h => h)
  have hof : ∀ o ∈ ks, OffOk 152 30 26 o := fun o ho => hm.off o ((hk o).2 ho)
  have hmf : (plW D1 false ks).map (·.1) = ks := by rw [hpk, List.map_map]; simp [Function.comp_def]
  have hsv : ∀ i, outLog i → svC (rbC cur ws) 1920 0 ks i = base i := fun i hi => by
    rw [svC_out (s := 30) (by unfold outLog at hi; omega)]
    exact h.back hi
  have hlr : LogU (rbC cur ws) 30 [] := logU_rb h.log
  have hls : LogU (svC (rbC cur ws) 1920 0 ks) 30 (ks.map fun o => (o, base (o / 8))) := by
    have h1 : LogU (svC (rbC cur ws) (64 * 30) 0 ks) 30 ([] ++ frW (rbC cur ws) ks) := logU_save hlr ks
    have h2 : frW (rbC cur ws) ks = ks.map fun o => (o, base (o / 8)) := by
      unfold frW
      exact List.map_congr_left fun o ho => by rw [h.back (hof o ho).div]
    rw [List.nil_append, h2] at h1
    exact h1
  unfold plC
  rw [hmf]
  have hst : ∀ e ∈ plW D1 false ks, outLog (e.1 / 8) := fun e he => by
    rw [hpk] at he
    obtain ⟨o, ho, rfl⟩ := List.mem_map.1 he
    exact (hof o ho).div
  have hget : ∀ o ∈ ks, wrS (svC (rbC cur ws) 1920 0 ks) (plW D1 false ks) (o / 8) = (cAt D1 o).1 := fun o ho => by
    have := wrS_get (plW D1 false ks) (svC (rbC cur ws) 1920 0 ks) (by rw [hmf]; exact hn) (fun e he => by
      rw [hpk] at he
      obtain ⟨o, ho, rfl⟩ := List.mem_map.1 he
      exact (hof o ho).al) (o, (cAt D1 o).1) (by rw [hpk]; exact List.mem_map.2 ⟨o, ho, rfl⟩)
    exact this
  refine ⟨hm.map, hls.wrS_ _ (by simpa using hc) hst, fun o => ?_, ?_, ?_, ?_, fun o ho => ?_, fun i hi hx => ?_, ?_, h.bbnd⟩
  · rw [hk, List.map_map]; simp [Function.comp_def]
  · rw [List.map_map]; simpa [Function.comp_def] using hn
  · intro e he
    obtain ⟨o, ho, rfl⟩ := List.mem_map.1 he
    exact hof o ho
  · intro e he
    obtain ⟨o, ho, rfl⟩ := List.mem_map.1 he
    rfl
  · obtain ⟨v, hv, hc⟩ := hm.cell o ho
    have h1 := hget o ((hk o).1 ho)
    unfold cAt at h1
    rw [hc, cDec_mk] at h1
    rw [hc, h1]
  · rw [wrS_other _ _ _ (fun e he hc => by
      rw [hpk] at he
      obtain ⟨o, ho, rfl⟩ := List.mem_map.1 he
      have h1 : o = 8 * i := by have := (hof o ho).al; simp at hc; omega
      rw [← h1, (hk o).2 ho] at hx; cases hx)]
    exact hsv i hi
  · refine wrS_bnd _ _ (svC_bnd h.rbnd (fun o ho => by have := (hof o ho).lt; omega) (by omega)) (fun e he => ?_)
    rw [hpk] at he
    obtain ⟨o, ho, rfl⟩ := List.mem_map.1 he
    exact (hall o ho).2.2
end
end Go.Proofs.YtklpeghhgoeeiaaGreatDoor
/- tx, plain: what a transaction's changed words say, in either mode. -/
namespace Go.Proofs.YtklpeghhgoeeiaaGreatDoor
open Go.RowKit Go.Maps Go.Shelf
/-- The offset of a word out of both logs. -/
structure Good (o : Nat) : Prop where
  al : o % 8 = 0
  lt : o < 64 * 152
  out : o < 256 ∨ 3584 ≤ o
theorem Good.u {o : Nat} (h : Good o) : OffOk 152 30 26 o := ⟨h.al, h.lt, by have := h.out; omega⟩
theorem Good.r {o : Nat} (h : Good o) : OffOk 152 4 26 o := ⟨h.al, h.lt, by have := h.out; omega⟩
/-- A word out of both logs. -/
def outB (i : Nat) : Prop := i < 32 ∨ 448 ≤ i
theorem Good.div {o : Nat} (h : Good o) : outB (o / 8) := by
  have := h.out; have := h.al
  unfold outB; omega
theorem outB.log {i : Nat} (h : outB i) : outLog i := by unfold outB at h; unfold outLog; omega
/-- Changed words: the value of each, by the offset. -/
abbrev Fm := Nat → Option Nat
def Fm.no : Fm := fun _ => none
def Fm.put (f : Fm) (o v : Nat) : Fm := fun x => if x = o then some v else f x
/-- What a word is. -/
def vw (f : Fm) (base : Nat → Nat) (i : Nat) : Nat := (f (8 * i)).getD (base i)
def cellM (mode : Nat) (base : Nat → Nat) (o v : Nat) : DataW Unit := cellD v (if mode = 2 then base (o / 8) else 0) (decide (mode = 2))
/-- The map says f; it has k entries. -/
structure DRel (mode : Nat) (base : Nat → Nat) (D : DataW Unit) (f : Fm) (k : Nat) : Prop where
  tidy : Tidy D
  size : Maps.size D = k
  key : ∀ o, has D (kU o) = (f o).isSome
  cell : ∀ o v, f o = some v → D.atKey (kU o) (cellD 0 0 false) = cellM mode base o v
  good : ∀ o v, f o = some v → Good o ∧ v < 18446744073709551616
def cntP (f : Fm) (k o : Nat) : Nat := if (f o).isSome then k else k + 1
section
variable {mode : Nat} {base : Nat → Nat} {D : DataW Unit} {f : Fm} {k : Nat}
theorem DRel.start (mode : Nat) (base : Nat → Nat) : DRel mode base (.map []) Fm.no 0 :=
  ⟨tidy_empty, rfl, fun o => by simp [has, Fm.no], fun o v h => by simp [Fm.no] at h, fun o v h => by simp [Fm.no] at h⟩
theorem DRel.put (h : DRel mode base D f k) {o v : Nat} (ho : Good o) (hv : v < 18446744073709551616) : DRel mode base (D.put (kU o) (cellM mode base o v)) (f.put o v) (cntP f k o) := by
  refine ⟨h.tidy.put (kU_key o) _, ?_, fun x => ?_, fun x u hx => ?_, fun x u hx => ?_⟩
  · rw [size_put h.tidy, h.key o, h.size]
    unfold cntP
    rfl
  · by_cases e : x = o
    · subst e
      rw [has_put_same h.tidy.isMap (kU_key x)]
      simp [Fm.put]
    · rw [has_put_other (kU_ne e), h.key x]
      simp [Fm.put, e]
  · by_cases e : x = o
    · subst e
      simp [Fm.put] at hx
      rw [atKey_put_same h.tidy.isMap (kU_key x), hx]
    · simp [Fm.put, e] at hx
      rw [atKey_put_other (kU_ne e), h.cell x u hx]
  · by_cases e : x = o
    · subst e
      simp [Fm.put] at hx
      exact ⟨ho, hx ▸ hv⟩
    · simp [Fm.put, e] at hx
      exact h.good x u hx
theorem DRel.some_ (h : DRel mode base D f k) {o : Nat} (ho : has D (kU o) = true) : ∃ v, f o = some v := by
  rw [h.key] at ho
  exact Option.isSome_iff_exists.1 ho
theorem DRel.none_ (h : DRel mode base D f k) {o : Nat} (ho : f o = none) : has D (kU o) = false := by
  rw [h.key, ho]; rfl
theorem DRel.hasS (h : DRel mode base D f k) {o v : Nat} (ho : f o = some v) : has D (kU o) = true := by
  rw [h.key, ho]; rfl
theorem DRel.mark (h : DRel 2 base D f k) : MInv base D :=
  ⟨h.tidy.isMap, fun o ho => by obtain ⟨v, hv⟩ := h.some_ ho; exact (h.good o v hv).1.u, fun o ho => by
    obtain ⟨v, hv⟩ := h.some_ ho
    exact ⟨v, (h.good o v hv).2, h.cell o v hv⟩⟩
/-- The words as they stand in memory, in mode Undo. -/
theorem DRel.curU {cur : Nat → Nat} {ws : List (Nat × Nat)} (h : DRel 2 base D f k) (hu : UInv cur base D ws) {i : Nat} (hi : outB i) : cur i = vw f base i := by
  unfold vw
  cases hf : f (8 * i) with
  | none => exact hu.rest i hi.log (h.none_ hf)
  | some v =>
    have h1 := h.cell _ _ hf
    have h2 := hu.cell _ (h.hasS hf)
    rw [h1] at h2
    unfold cellM at h2
    have h3 := (cellD_inj h2).1
    rw [h3]
    show cur i = cur (8 * i / 8)
    congr 1; omega
theorem DRel.lenU {cur : Nat → Nat} {ws : List (Nat × Nat)} {w : World} {b n : Nat} (h : DRel mode base D f k) (hu : UInv cur base D ws) (ho : w.ownsMap Tryz.prog 35 cellR b n D) : ws.length = k := by
  have hp : (ws.map (·.1)).Perm (uKeys D) := (List.perm_ext_iff_of_nodup hu.nd (uKeys_nodup ho)).2 fun o => by rw [← hu.keys, has_key ho]
  have := hp.length_eq
  rw [uKeys_size ho, h.size] at this
  simpa using this
end
/-- A savepoint. -/
structure AMark where
  id : Nat
  f : Fm
  k : Nat
  x : Bool
  y : Bool
/-- What an open transaction is. -/
structure AT where
  f : Fm
  k : Nat
  outside : Bool
  surplus : Bool
  ids : Nat
  marks : List AMark
def AT.new : AT := ⟨Fm.no, 0, false, false, 0, []⟩
/-- A store to a word: the 97th is too many. -/
def AT.store (s : AT) (o v : Nat) : AT := if (s.f o).isSome = false ∧ 96 ≤ s.k then { s with surplus := true } else { s with f := s.f.put o v, k := cntP s.f s.k o }
def AT.save (s : AT) : AT := { s with ids := s.ids + 1, marks := s.marks ++ [⟨s.ids + 1, s.f, s.k, s.outside, s.surplus⟩] }
def AT.err (s : AT) : Nat := if s.outside then 2 else if s.surplus then 9 else 0
end Go.Proofs.YtklpeghhgoeeiaaGreatDoor
/- tx: changed: the changed words as writes. -/
namespace Go.Proofs.YtklpeghhgoeeiaaGreatDoor
open Go.RowKit Go.Maps Go.Shelf
/-- The changed words, as writes. -/
def chW (D : DataW Unit) (ks : List Nat) : List (Nat × Nat) := ks.map fun o => (o, (cAt D o).1)
theorem chW_take (D : DataW Unit) (ks : List Nat) (k : Nat) (hk : k < ks.length) : chW D (ks.take (k + 1)) = chW D (ks.take k) ++ [(ks[k], (cAt D ks[k]).1)] := by
  unfold chW
  rw [List.take_succ_eq_append_getElem hk, List.map_append]
  rfl
def RetCh2 (w : World) (D : DataW Unit) (e : Ending) (w' : World) : Prop := ∃ ks, ks.Perm (uKeys D) ∧ RetWr w (chW D ks) e w'
set_option maxRecDepth 100000 in
set_option maxHeartbeats 2000000 in
theorem changed_any (w : World) (a b c d : Nat) (x y : Bool) (D : DataW Unit) (n : Nat) (ho : w.ownsMap Tryz.prog 35 cellR a n D) (hsz : Maps.size D ≤ 100) :
    Calls Tryz.prog 146 #[stV a b c d x y] w (RetCh2 w D) := by
  obtain ⟨i0, hi0, hz0, hz1, hz2⟩ := info_parts infoWrite
  have HK := Lib.hid ho
  have HSo : Hid (∀ W, Below w.heap.size w W → Calls Tryz.prog 57 #[.func (.func 231) #[] #[.pointer (some ⟨W.heap.size, 0, none⟩)]] (W.alloc (.cells #[.map (some a)] 95)) (RetU (W.alloc (.cells #[.map (some a)] 95)) (fun ys => ys.Perm (uKeys D)))) := fun W hW => sortCell W a n D ((Chg.of_below (S := Fp.no) hW).map ho (fun h => h)) hsz
  clear ho
  unfold stV
  go_enter Tryz.func146, Tryz.ntmps146
  go_wp2_with (go_at_call 186; refine (keysCell_any _ _).mono ?_; rintro e w1 ⟨rfl, rfl⟩; refine stop ?_)
  unfold Stop
  have hbw : Below w.heap.size w (w.alloc (.cells #[.map (some a), .map (some b), .map (some c), .map (some d), .bool x, .bool y] 100)) := (Below.refl _ w).alloc (Nat.le_refl _) _
  have HS := Lib.hid (HSo.out _ hbw)
  have HBx := Lib.hid ((Blk.new w 100 #[.map (some a), .map (some b), .map (some c), .map (some d), .bool x, .bool y]).alloc (.cells #[.map (some a)] 95))
  have HB1 := Lib.hid (hbw.alloc hbw.size (.cells #[.map (some a)] 95))
  have HL1 : Hid (w.heap.size + 1 < ((w.alloc (.cells #[.map (some a), .map (some b), .map (some c), .map (some d), .bool x, .bool y] 100)).alloc (.cells #[.map (some a)] 95)).heap.size) := Lib.hid (by simp)
  rw [World.size_alloc] at HS
  clear HSo hbw
  generalize (w.alloc (.cells #[.map (some a), .map (some b), .map (some c), .map (some d), .bool x, .bool y] 100)).alloc (.cells #[.map (some a)] 95) = W at *
  go_wp2_with fail
  refine HS.out.mono ?_
  rintro e W1 ⟨A, N, c0, ys, rfl, hp, hN, hos, hb1⟩
  have HPm := Lib.hid hp
  have HR := Lib.hid (Reads.of_own hos)
  have HW := Lib.hid (HB1.out.trans (hb1.mono HB1.out.size))
  have HBx1 := Lib.hid (HBx.out.below hb1 HBx.out.lt)
  have HYl : Hid (N = ys.length) := Lib.hid hN
  have HLW : Hid (w.heap.size < W1.heap.size) := Lib.hid (by have := HL1.out; have := hb1.size; omega)
  have hN12 : N ≤ 100 := by
    have h1 := hp.length_eq
    have h2 : (uKeys D).length ≤ 100 := by
      obtain ⟨es, hD, _, _⟩ := HK.out.entries keyedU
      rw [hD] at hsz ⊢
      simpa [uKeys, Maps.size] using hsz
    omega
  clear hp hos hb1 HS HBx HB1 HL1 hN
  have HO0 : Hid (W1.ownsRow W1.heap.size 130 2 (.slice none 0 0) 0 (wrCells (chW D (ys.take 0)))) := World.ownsRow_nil _ _ _ _
  have HB0 : Hid (Below W1.heap.size W1 W1) := Lib.hid (Below.refl _ _)
  go_wp2
  go_loopw [3, 11] (fun l i wr => ∃ (k : Nat) (A : Option Addr) (m c : Nat), k ≤ N ∧ i = .int .i64 k ∧ l = .slice A m c ∧ m ≤ k ∧ Hid (m = (chW D (ys.take k)).length) ∧ Hid (wr.ownsRow W1.heap.size 130 2 (.slice A m c) m (wrCells (chW D (ys.take k)))) ∧ Hid (Below W1.heap.size W1 wr)) (fun _ i _ => N - (intOf i).toNat)
  case atStart => exact ⟨0, _, _, _, Nat.zero_le _, rfl, rfl, Nat.le_refl _, rfl, HO0, HB0⟩
  case round =>
    clear HO0 HB0
    obtain ⟨k, A1, m, c1, hk, rfl, rfl, hmk, HLn, HO, H2⟩ := hrel
    have H := Lib.hid (HW.out.trans (H2.out.mono HW.out.size))
    by_cases hlt : k < N
    · have hkl : k < ys.length := by have := HYl.out; omega
      have hz5 : (k : Int) < (N : Int) := by omega
      obtain ⟨_, b0, off, rfl, hbl, f1⟩ := u_facts (HR.out.below H2.out) hlt
      have k0 : wr.cell? ⟨w.heap.size, 0, none⟩ = some (.map (some a)) := (HBx1.out.below H2.out HLW.out).cell 0
      have hlk := look_at1 ((Chg.of_below (S := Fp.no) H.out).map HK.out (fun h => h)) (o := ys[k]) (key_lt HK.out (HPm.out.mem_iff.1 (List.getElem_mem hkl)))
      have HTS := Lib.hid (chW_take D ys k hkl)
      generalize cAt D ys[k] = z at *
      obtain ⟨v1, x1, p1⟩ := z
      simp only [] at hlk HTS
      unfold cellV at hlk
      generalize ys[k] = o at *
      have HLE := Lib.hid H2.out.size
      have hfd : ∀ W : World, (Instr.field 107 (.agg #[.int .u64 (v1 : Int), .int .u64 (x1 : Int), .bool p1]) 0).run Tryz.prog W = .ok (.int .u64 (v1 : Int)) W := fun _ => by kernel_rfl
      go_wp2_with (at_builtin; refine stop ?_)
      unfold Stop
      have HR1 := Lib.hid (row_reads_at wr _ rfl [.int .u64 (o : Int), .int .u64 (v1 : Int)] 1 2 130 _ rfl rfl)
      refine wpList_app _ (.tmp 15) (.tmp 23) 120 rfl rfl W1.heap.size 130 i0 _ 2 16 Tryz.underlying120 hi0 hz0 hz1 hz2 rfl (by omega) (.slice A1 m c1) m (wrCells (chW D (ys.take k))) rfl (HO.out.alloc _) (wr.heap.size + 1) (some ⟨wr.heap.size, 0, none⟩) 1 1 [.int .u64 (o : Int), .int .u64 (v1 : Int)] rfl HR1.out (u64s_one _ _) (by unfold maxLen; omega) (by omega) (by have := HLE.out; simp; omega) ?_
      intro A3 n3 c3 w8 hn3 ho3 hg3 hb3
      have HO4 : Hid (w8.ownsRow W1.heap.size 130 2 (.slice A3 n3 c3) n3 (wrCells (chW D (ys.take (k + 1))))) := Lib.hid (by rw [HTS.out, wrCells_snoc]; exact ho3)
      have HB3 := Lib.hid ((H2.out.alloc H2.out.size _).trans hb3)
      have b1 : n3 ≤ m + 1 := by omega
      have b2 : m + 1 ≤ n3 := by omega
      have HL3 : Hid (m + 1 = (chW D (ys.take (k + 1))).length) := Lib.hid (by rw [HTS.out, List.length_append, ← HLn.out]; simp)
      have HN3 : Hid (n3 = m + 1) := Lib.hid (by omega)
      clear hn3 ho3 hg3 hb3
      go_wp2
      go_roundw
      case rel =>
        first
          | exact ⟨k + 1, _, _, _, by omega, by go_num, rfl, by omega, Lib.hid (HN3.out.trans HL3.out), HO4, HB3⟩
          | (repeat apply Exists.intro
             refine ⟨?_, rfl⟩
             exact ⟨k + 1, _, _, _, by omega, by go_num, rfl, by omega, Lib.hid (HN3.out.trans HL3.out), HO4, HB3⟩)
      case measure => simp [intOf]; omega
    · have hkN : k = N := by omega
      go_wp2
      go_ret
      have h := HO.out
      have hl := HLn.out
      rw [List.take_of_length_le (by have := HYl.out; omega)] at h hl
      exact ⟨ys, HPm.out, _, _, _, rfl, hl, own_le h HW.out.size, H.out⟩
end Go.Proofs.YtklpeghhgoeeiaaGreatDoor
/- tx, plain: the words behind a commit through the redo log. -/
namespace Go.Proofs.YtklpeghhgoeeiaaGreatDoor
open Go.RowKit Go.Maps Go.Shelf
/-- The words behind a commit: entries, commit word, words, no commit word. -/
def rdC (cur : Nat → Nat) (ws : List (Nat × Nat)) (cm : Nat) : Nat → Nat := if ws = [] then cur else wrS (wrS (wrS (wrS cur (entW (64 * 4) 0 ws)) [(64 * 4, cm)]) ws) [(64 * 4, 0)]
theorem wrS_one (cur : Nat → Nat) (o v i : Nat) : wrS cur [(o, v)] i = if i = o / 8 then v else cur i := rfl
theorem rdC_get {cur : Nat → Nat} {ws : List (Nat × Nat)} {cm : Nat} (hg : ∀ e ∈ ws, Good e.1) (hn : (ws.map (·.1)).Nodup) {e : Nat × Nat} (he : e ∈ ws) : rdC cur ws cm (e.1 / 8) = e.2 := by
  unfold rdC
  have hb := (hg e he).div
  rw [if_neg (fun h => by rw [h] at he; simp at he), wrS_one, if_neg (by unfold outB at hb; omega)]
  exact wrS_get ws _ hn (fun x hx => (hg x hx).al) e he
theorem rdC_rest {cur : Nat → Nat} {ws : List (Nat × Nat)} {cm : Nat} (hl : ws.length ≤ 96) {i : Nat} (hi : outB i ∨ i = 240) (ho : ∀ e ∈ ws, e.1 / 8 ≠ i) : rdC cur ws cm i = cur i := by
  unfold rdC
  split
  · rfl
  · have hi' : i < 32 ∨ 240 ≤ i := by unfold outB at hi; omega
    rw [wrS_one, if_neg (by omega), wrS_other ws _ _ ho, wrS_one, if_neg (by omega), wrS_out 4 ws 0 i cur (by omega)]
theorem rdC_idle {cur : Nat → Nat} {ws : List (Nat × Nat)} {cm : Nat} (h : cur 32 = 0) : rdC cur ws cm 32 = 0 := by
  unfold rdC
  split
  · exact h
  · rfl
theorem rdC_bnd {cur : Nat → Nat} {ws : List (Nat × Nat)} {cm : Nat} (h : ∀ i, cur i < 18446744073709551616) (hg : ∀ e ∈ ws, e.1 < 18446744073709551616 ∧ e.2 < 18446744073709551616) (hc : cm < 18446744073709551616) (i : Nat) : rdC cur ws cm i < 18446744073709551616 := by
  unfold rdC
  split
  · exact h i
  · refine wrS_bnd _ _ (wrS_bnd _ _ (wrS_bnd _ _ (wrS_bnd _ _ h ?_) ?_) (fun e he => (hg e he).2)) ?_ i
    · intro e he
      obtain ⟨j, _, _, x, hx, h1 | h1⟩ := entW_mem _ _ _ _ he
      · rw [h1]; exact (hg x hx).1
      · rw [h1]; exact (hg x hx).2
    · intro e he
      simp at he
      subst he
      exact hc
    · intro e he
      simp at he
      subst he
      show 0 < _
      omega
section
variable {base : Nat → Nat} {D : DataW Unit} {f : Fm} {k : Nat}
theorem DRel.chW_mem (h : DRel 1 base D f k) {ks : List Nat} (hk : ∀ o, o ∈ ks ↔ has D (kU o) = true) {e : Nat × Nat} (he : e ∈ chW D ks) : f e.1 = some e.2 := by
  unfold chW at he
  obtain ⟨o, ho, rfl⟩ := List.mem_map.1 he
  obtain ⟨v, hv⟩ := h.some_ ((hk o).1 ho)
  unfold cAt
  rw [h.cell o v hv]
  have h1 : cellM 1 base o v = cellD v 0 false := by simp [cellM]
  rw [h1, cDec_mk]
  exact hv
theorem chW_keys (D : DataW Unit) (ks : List Nat) : (chW D ks).map (·.1) = ks := by
  unfold chW
  rw [List.map_map]
  simp [Function.comp_def]
theorem DRel.chW_good (h : DRel 1 base D f k) {ks : List Nat} (hk : ∀ o, o ∈ ks ↔ has D (kU o) = true) {e : Nat × Nat} (he : e ∈ chW D ks) : Good e.1 ∧ e.2 < 18446744073709551616 := h.good _ _ (h.chW_mem hk he)
theorem DRel.curR (h : DRel 1 base D f k) {ks : List Nat} {cm : Nat} (hk : ∀ o, o ∈ ks ↔ has D (kU o) = true) (hn : ks.Nodup) (hl : ks.length ≤ 96) {i : Nat} (hi : outB i) : rdC base (chW D ks) cm i = vw f base i := by
  have hlen : (chW D ks).length ≤ 96 := by have := congrArg List.length (chW_keys D ks); simp at this; omega
  have hg : ∀ e ∈ chW D ks, Good e.1 := fun e he => (h.chW_good hk he).1
  unfold vw
  cases hf : f (8 * i) with
  | none =>
    refine rdC_rest hlen (.inl hi) fun e he hc => ?_
    have h1 := h.chW_mem hk he
    have h2 : e.1 = 8 * i := by have := (hg e he).al; omega
    rw [h2, hf] at h1
    cases h1
  | some v =>
    have h1 : 8 * i ∈ ks := (hk _).2 (h.hasS hf)
    have h2 : (8 * i, (cAt D (8 * i)).1) ∈ chW D ks := List.mem_map.2 ⟨_, h1, rfl⟩
    have h3 := h.chW_mem hk h2
    rw [hf] at h3
    have h4 := rdC_get (cur := base) (cm := cm) hg (by rw [chW_keys]; exact hn) h2
    rw [show (8 * i, (cAt D (8 * i)).1).1 / 8 = i by show 8 * i / 8 = i; omega] at h4
    rw [h4]
    injection h3 with h3
    exact h3.symm
end
end Go.Proofs.YtklpeghhgoeeiaaGreatDoor
/- tx: release where nothing is held; slices.IndexFunc over the savepoints. -/
namespace Go.Proofs.YtklpeghhgoeeiaaGreatDoor
open Go.RowKit Go.Maps Go.Shelf
set_option maxRecDepth 100000 in
set_option maxHeartbeats 1000000 in
theorem release_none (w : World) (g b : Nat) (cs : Array Value) (hB : Blk w g 104 cs) (h11 : cs[11]? = some (.map (some b))) (ho : w.ownsMap Tryz.prog 35 oneR b 0 (.map [])) :
    Calls Tryz.prog 60 #[.pointer (some ⟨g, 0, none⟩)] w fun e w' => e = .returned (.tuple #[]) ∧ Below w.heap.size w w' := by
  have c11 : w.cell? ⟨g, 11, none⟩ = some (.map (some b)) := (hB.cell 11).trans h11
  have HM := Lib.hid (ho.alloc (.cells #[.pointer (some ⟨g, 0, none⟩)] 29))
  have hlg : g < w.heap.size := hB.lt
  have HB := Lib.hid ((Below.refl _ w).alloc (Nat.le_refl _) (.cells #[.pointer (some ⟨g, 0, none⟩)] 29))
  clear hB ho h11
  go_enter Tryz.func60, Tryz.ntmps60
  go_wp2_with (first
    | (at_range; refine wpList_range_own _ rfl _ 97 rfl 35 124 keyedU Tryz.underlying97 _ b 0 (.map []) rfl HM.out ?_; intro w0 hrg0 hg0 hs0; have HR := Lib.hid hrg0; have HG := Lib.hid (HB.out.grown hg0 HB.out.size (fun k e => by cases e)); clear hrg0 hg0 hs0)
    | go_in)
  refine wp_loop_rounds 1 ?_
  rw [rounds_succ]
  go_wp2_with (first
    | (at_next; refine wpList_next_ranges _ rfl _ rfl 35 keyedU oneR encW id (fun key kl hk => by obtain ⟨x, hx, _⟩ := keyOf_u64 Tryz.underlying35 hk; exact ⟨x, hx⟩) (fun v _ _ => ⟨v, rfl⟩) b _ 0 _ _ _ rfl HR.out ?_ ?_)
    | go_in)
  · intro _ _
    go_wp2
    go_end0
    exact ⟨rfl, HG.out⟩
  · intro x c kl yd yp w2 cnt2 hkey hlk
    exact absurd (show (false : Bool) = true from hlk) (by decide)
theorem mk_at : ∀ (l : List Mk) (k j : Nat) (hk : k < l.length), j < 7 → (mkCells l)[k * 7 + j]? = (l[k]).cells[j]?
  | m :: l, 0, j, _, hj => by
    show (mkCells (m :: l))[0 * 7 + j]? = m.cells[j]?
    have : (mkCells (m :: l)) = m.cells ++ mkCells l := rfl
    rw [this, Nat.zero_mul, Nat.zero_add, List.getElem?_append_left (by simp [Mk.cells]; omega)]
  | m :: l, k + 1, j, hk, hj => by
    have h1 : (mkCells (m :: l)) = m.cells ++ mkCells l := rfl
    have h2 : m.cells.length = 7 := rfl
    rw [h1, List.getElem?_append_right (by rw [h2]; omega), h2, show (k + 1) * 7 + j - 7 = k * 7 + j by omega, mk_at l k j (by simp at hk; omega) hj]
    rfl
theorem mk_facts {w : World} {B n : Nat} {A : Option Addr} {l : List Mk} (h : Reads w B 7 A n (mkCells l)) {k : Nat} (hk : k < n) :
    ∃ (hl : k < l.length) (b off : Nat), A = some ⟨b, off, none⟩ ∧ b < B ∧ w.cell? ⟨b, off + k * 7, none⟩ = some (.int .i64 ((l[k]).id : Int)) ∧ w.cell? ⟨b, off + k * 7 + 1, none⟩ = some (.map (some (l[k]).k)) ∧ w.cell? ⟨b, off + k * 7 + 2, none⟩ = some (.map (some ((l[k]).k + 1))) ∧ w.cell? ⟨b, off + k * 7 + 3, none⟩ = some (.map (some ((l[k]).k + 2))) ∧ w.cell? ⟨b, off + k * 7 + 4, none⟩ = some (.map (some ((l[k]).k + 3))) ∧ w.cell? ⟨b, off + k * 7 + 5, none⟩ = some (.bool (l[k]).x) ∧ w.cell? ⟨b, off + k * 7 + 6, none⟩ = some (.bool (l[k]).y) := by
  have hl : k < l.length := by have := h.1; rw [mkCells_len] at this; omega
  obtain ⟨b, off, hA, hb, hc⟩ := h.plain (by omega) (by omega)
  exact ⟨hl, b, off, hA, hb, hc (k * 7) _ (mk_at l k 0 hl (by omega)), hc (k * 7 + 1) _ (mk_at l k 1 hl (by omega)), hc (k * 7 + 2) _ (mk_at l k 2 hl (by omega)), hc (k * 7 + 3) _ (mk_at l k 3 hl (by omega)), hc (k * 7 + 4) _ (mk_at l k 4 hl (by omega)), hc (k * 7 + 5) _ (mk_at l k 5 hl (by omega)), hc (k * 7 + 6) _ (mk_at l k 6 hl (by omega))⟩
set_option maxRecDepth 100000 in
set_option maxHeartbeats 1000000 in
theorem mark_is (m : Mk) (sp : Int) (bx : Nat) (w : World) (hb : w.cell? ⟨bx, 0, none⟩ = some (.int .i64 sp)) (hlt : bx < w.heap.size) :
    Calls Tryz.prog 56 #[.agg m.cells.toArray, .pointer (some ⟨bx, 0, none⟩)] w fun e w' => e = .returned (.bool ((m.id : Int) == sp)) ∧ Below w.heap.size w w' := by
  have HB : Hid (∀ o, Below w.heap.size w (w.alloc o)) := Lib.hid (fun o => (Below.refl _ w).alloc (Nat.le_refl _) o)
  unfold Mk.cells
  go_enter Tryz.func56, Tryz.ntmps56
  go_wp2
  go_ret
  exact ⟨rfl, HB.out _⟩
/-- The first savepoint with that number. -/
def idxOf (l : List Mk) (sp : Int) (r : Int) : Prop := (r = -1 ∧ ∀ m ∈ l, (m.id : Int) ≠ sp) ∨ ∃ k : Nat, r = (k : Int) ∧ ∃ h : k < l.length, ((l[k]).id : Int) = sp
set_option maxRecDepth 100000 in
set_option maxHeartbeats 2000000 in
theorem index_any (A : Option Addr) (n c : Nat) (l : List Mk) (sp : Int) (bx : Nat) (w : World) (h : Reads w w.heap.size 7 A n (mkCells l)) (hb : w.cell? ⟨bx, 0, none⟩ = some (.int .i64 sp)) (hlt : bx < w.heap.size) (hn : n ≤ 1000000) :
    Calls Tryz.prog 55 #[.slice A n c, .func (.func 56) #[] #[.pointer (some ⟨bx, 0, none⟩)]] w fun e w' => (∃ r, e = .returned (.int .i64 r) ∧ idxOf l sp r) ∧ Below w.heap.size w w' := by
  have HR := Lib.hid h
  have HM : Hid (∀ (m : Mk) W, Below w.heap.size w W → Calls Tryz.prog 56 #[.agg m.cells.toArray, .pointer (some ⟨bx, 0, none⟩)] W fun e w' => e = .returned (.bool ((m.id : Int) == sp)) ∧ Below W.heap.size W w') := Lib.hid (fun m W hW => mark_is m sp bx W ((hW.cell (p := ⟨bx, 0, none⟩) hlt).trans hb) (Nat.lt_of_lt_of_le hlt hW.size))
  have HL : Hid (l.length = n) := Lib.hid (by have := h.1; rw [mkCells_len] at this; omega)
  have HB0 := Lib.hid (Below.refl w.heap.size w)
  clear h hb
  go_enter Tryz.func55, Tryz.ntmps55
  go_wp2
  go_loopw [8] (fun i wr => ∃ k : Nat, k ≤ n ∧ i = .int .i64 k ∧ Hid (Below w.heap.size w wr ∧ ∀ j (hj : j < l.length), j < k → ((l[j]).id : Int) ≠ sp)) (fun i _ => n - (intOf i).toNat)
  case atStart => exact ⟨0, Nat.zero_le _, rfl, Lib.hid ⟨HB0.out, fun j _ h => by omega⟩⟩
  case round =>
    clear HB0
    obtain ⟨k, hk, rfl, HI⟩ := hrel
    by_cases hk2 : k < n
    · have hz : (k : Int) < (n : Int) := by omega
      obtain ⟨hl, b, off, rfl, hbl, f0, f1, f2, f3, f4, f5, f6⟩ := mk_facts (HR.out.below HI.out.1) hk2
      have HC := Lib.hid (HM.out l[k] wr HI.out.1)
      have HNx : Hid ((((l[k]).id : Int) == sp) = false → ∀ j (hj : j < l.length), j < k + 1 → ((l[j]).id : Int) ≠ sp) := Lib.hid (fun he j hj hjk => by
        by_cases e : j = k
        · subst e
          simpa using he
        · exact HI.out.2 j hj (by omega))
      have HYs : Hid ((((l[k]).id : Int) == sp) = true → idxOf l sp (k : Int)) := Lib.hid (fun he => .inr ⟨k, rfl, hl, by simpa using he⟩)
      generalize l[k] = m at *
      unfold Mk.cells at HC
      go_wp2_with fail
      refine HC.out.mono ?_
      rintro e w1 ⟨rfl, hb1⟩
      have HB1 := Lib.hid (HI.out.1.trans (hb1.mono HI.out.1.size))
      clear hb1 HC HI
      generalize ((m.id : Int) == sp) = bb at *
      cases bb
      · go_wp2
        go_roundw
        case rel => exact ⟨k + 1, by omega, by go_num, Lib.hid ⟨HB1.out, HNx.out (by simp)⟩⟩
        case measure => simp [intOf]; omega
      · go_wp2
        go_ret
        exact ⟨⟨_, rfl, HYs.out (by simp)⟩, HB1.out⟩
    · go_wp2
      go_ret
      exact ⟨⟨-1, rfl, .inl ⟨rfl, fun m hm => by
        obtain ⟨j, hj, rfl⟩ := List.getElem_of_mem hm
        exact HI.out.2 j hj (by have := HL.out; omega)⟩⟩, HI.out.1⟩
end Go.Proofs.YtklpeghhgoeeiaaGreatDoor
