/- The walks and laws that the claim leans on, part 10: each part says ahead of its lines what it holds. -/
import Derived.Test.YtklpeghhgoeeiaaGreatDoorJai
import Derived.Maps.Range
/- The statement's own made: a new device, formatted, its words 1 to 32, opened. -/
namespace Go.Proofs.YtklpeghhgoeeiaaGreatDoor
open Go.RowKit
/-- A device that lies in new blocks. -/
def DevNew (a : DA) (T : Nat) (w wr : World) (cur : Nat → Nat) : Prop := ∃ S, Dev a 152 T wr S cur 0 ∧ (∀ k, S k → w.heap.size ≤ k) ∧ Below w.heap.size w wr
theorem DevNew.step {a : DA} {T' : Nat} {w wr w' : World} {S : Fp} {cur' : Nat → Nat} {v : Value} {e : Ending} (hS : ∀ k, S k → w.heap.size ≤ k) (hb : Below w.heap.size w wr) (h : RetDev a 152 T' wr S cur' 0 v e w') : e = .returned v ∧ DevNew a T' w w' cur' := by
  obtain ⟨he, S', hd, hc, hg⟩ := h
  refine ⟨he, S', hd, fun k hk => (hg k hk).elim (hS k) (fun h => Nat.le_trans hb.size h), hb.trans (hc.toBelow hb.size hS)⟩
/-- The words behind k stores. -/
def curM : Nat → Nat → Nat
  | 0 => arC (wrS (fun _ => 0) [(256, 0)]) 56 3
  | k + 1 => upd (curM k) k (k + 1)
theorem curM_at : ∀ k i, curM k i = if i < k then i + 1 else curM 0 i
  | 0, i => by simp
  | k + 1, i => by
    show (if i = k then k + 1 else curM k i) = _
    rw [curM_at k i]
    by_cases h : i = k
    · subst h; simp
    · simp only [h, if_false]
      by_cases h2 : i < k
      · rw [if_pos h2, if_pos (by omega)]
      · rw [if_neg h2, if_neg (by omega)]
theorem curM_pool : Pool (curM 32) := by
  refine ⟨?_, ?_, fun k hk => ?_⟩
  · rw [curM_at]; simp [curM, arC, wrS, upd]
  · rw [curM_at]; simp [curM, arC, wrS, upd]
  · rw [curM_at]
    have : k = 0 ∨ k = 1 ∨ k = 2 := by omega
    rcases this with rfl | rfl | rfl <;> simp [curM, arC, wrS, upd]
theorem curM_bnd (i : Nat) : curM 32 i < 18446744073709551616 := by
  rw [curM_at]
  by_cases h : i < 32
  · rw [if_pos h]; omega
  · rw [if_neg h]
    have hf := freeW_lt 1 (by omega)
    simp only [curM, arC, wrS, List.foldl_cons, List.foldl_nil, upd]
    split
    · exact hf
    · split
      · exact hf
      · split
        · exact hf
        · split <;> omega
theorem curM_word (i : Nat) (h : i < 32) : curM 32 i = i + 1 := by rw [curM_at, if_pos h]
theorem runP_pers (cur : Nat → Nat) : runP cur (fls 4 ++ [Ins.fe]) = cur := by
  show runP cur ([0, 64, 128, 192].map Ins.fl ++ [Ins.fe]) = cur
  rw [runP_app, runP_fls]
  rfl
theorem good_pers : goodP 152 false (fls 4 ++ [Ins.fe]) := goodP_fls [0, 64, 128, 192] false (by simp)
/-- The logs, heap and manager lie out of the device. -/
structure Apart (S : Fp) (x : SA) : Prop where
  r : ¬ S x.r
  u : ¬ S x.u
  h : ¬ S x.h
  m : ¬ S x.m
/-- What made leaves. -/
structure Made (w : World) (a : DA) (S : Fp) (T : Nat) (cur : Nat → Nat) (g : Nat) (x : SA) (cs : Array Value) (w' : World) : Prop where
  dev : Dev a 152 T w' S cur 0
  few : T ≤ 100
  pool : Pool cur
  word : ∀ i, i < 32 → cur i = i + 1
  old : ∀ k, S k → w.heap.size ≤ k
  sys : Sys a w' x false none
  apart : Apart S x
  blk : Blk w' g 45 cs
  cells : wCells a x cs
  out : ¬ S g
  new : w.heap.size ≤ g
  news : w.heap.size ≤ x.r ∧ w.heap.size ≤ x.u ∧ w.heap.size ≤ x.h ∧ w.heap.size ≤ x.m
  below : Below w.heap.size w w'
  is_ : cur = curM 32
def RetMade (w : World) (e : Ending) (w' : World) : Prop := ∃ a S T cur g x cs, e = .returned (.pointer (some ⟨g, 0, none⟩)) ∧ Made w a S T cur g x cs w'
theorem Made.store {w : World} {a : DA} {S : Fp} {T : Nat} {cur : Nat → Nat} {g : Nat} {x : SA} {cs : Array Value} {w' : World} (h : Made w a S T cur g x cs w') (k : Nat) (hk : 3 ≤ k) (u : Value) : Made w a S T cur g x (cs.setIfInBounds k u) (w'.setCell ⟨g, k, none⟩ u) := by
  have hc : Chg (fun j => j = g) w' (w'.setCell ⟨g, k, none⟩ u) := (Chg.refl (fun j => j = g) w').setCell (p := ⟨g, k, none⟩) (.inl rfl) u
  have hne : ∀ {t : TypeId} {b : Nat} {ds : Array Value}, Blk w' b t ds → t ≠ 45 → ¬ (b = g) := fun hb ht => hb.ne_ h.blk ht
  refine { h with
    dev := h.dev.chg hc (fun j hj e => h.out (e ▸ hj))
    sys := ⟨hc.blk h.sys.r (hne h.sys.r (by decide)), hc.blk h.sys.u (hne h.sys.u (by decide)), hc.blk h.sys.h (hne h.sys.h (by decide)), hc.blk h.sys.m (hne h.sys.m (by decide))⟩
    blk := h.blk.set_ k u
    cells := ?_
    below := h.below.setCell h.new u }
  obtain ⟨h1, h2, h3, h4⟩ := h.cells
  refine ⟨by simpa using h1, ?_, ?_, ?_⟩
  · rw [Array.getElem?_setIfInBounds_ne (by omega)]; exact h2
  · rw [Array.getElem?_setIfInBounds_ne (by omega)]; exact h3
  · rw [Array.getElem?_setIfInBounds_ne (by omega)]; exact h4
set_option maxRecDepth 100000 in
set_option maxHeartbeats 4000000 in
theorem heapFormat_any {a : DA} {L T : Nat} {w : World} {S : Fp} {cur : Nat → Nat} (h : Dev a L T w S cur 0) (ht : Tab w) (hg : ¬ S 1) (s n K : Nat) (hn : 32 ≤ n) (hs : s + n ≤ L) (hK : n / 32 = K) (hT : T + 3 * K ≤ 1000000000) :
    Calls Tryz.prog 42 #[memV a, .int .i64 (s : Int), .int .i64 (n : Int)] w (RetDev a L (T + 3 * K) w S (arC cur s K) 0 (.int .i64 0)) := by
  have HA := Lib.hid (arenaFormat_any h ht hg s n K hn hs hK hT)
  clear h ht
  unfold memV at *
  go_enter Tryz.func42, Tryz.ntmps42
  go_wp2_with fail
  refine HA.out.mono ?_
  rintro e w1 ⟨rfl, h1⟩
  have H1 := Lib.hid h1
  clear h1
  go_wp2
  go_ret
  exact ⟨rfl, H1.out⟩
set_option maxRecDepth 100000 in
set_option maxHeartbeats 4000000 in
theorem made_any (w : World) (ht : Tab w) : Calls Tryz.prog 11 #[] w (RetMade w) := by
  have HT := Lib.hid ht
  have HG : Hid (∀ S : Fp, (∀ k, S k → w.heap.size ≤ k) → ¬ S 1) := fun S hS h => by have := hS _ h; have := HT.out.size; omega
  clear ht
  go_enter Tryz.func11, Tryz.ntmps11
  go_wp2_with fail
  refine (new_any 152 (by omega) (by omega) w).mono ?_
  rintro e w1 ⟨a, S1, rfl, hd1, hS1, hb1⟩
  have HH := Lib.hid (thread_any hd1)
  have HR := Lib.hid (redoFormat_any hd1 4 26 (by omega) (by omega) (by omega))
  have HW := Lib.hid (fun e w' => DevNew.step (a := a) (e := e) (w' := w') (T' := 3) (cur' := wrS (fun _ => 0) [(256, 0)]) (v := .int .i64 0) hS1 hb1)
  clear hd1 hS1 hb1
  unfold memV at HR
  go_wp2_with fail
  refine HH.out.mono ?_
  rintro e w1' ⟨rfl, rfl⟩
  clear HH
  go_wp2_with fail
  refine HR.out.mono ?_
  intro e w2 h2
  obtain ⟨rfl, S2, hd2, hS2, hb2⟩ := HW.out e w2 h2
  have HA := Lib.hid (heapFormat_any hd2 (HT.out.below hb2) (HG.out _ hS2) 56 96 3 (by omega) (by omega) (by omega) (by omega))
  have HW := Lib.hid (fun e w' => DevNew.step (a := a) (e := e) (w' := w') (T' := 12) (cur' := curM 0) (v := .int .i64 0) hS2 hb2)
  clear hd2 hS2 hb2 h2
  unfold memV at HA
  go_wp2_with fail
  refine HA.out.mono ?_
  intro e w3 h3
  obtain ⟨rfl, h4⟩ := HW.out e w3 h3
  have HI0 := Lib.hid h4
  clear h3 h4 HA HW HR
  go_wp2
  go_loopw [25] (fun i wr => ∃ (k : Nat), k ≤ 32 ∧ i = .int .u64 k ∧ Hid (DevNew a (12 + k) w wr (curM k))) (fun i _ => 32 - (intOf i).toNat)
  case atStart => exact ⟨0, Nat.zero_le _, rfl, HI0⟩
  case round =>
    clear HI0
    obtain ⟨k, hk, rfl, H⟩ := hrel
    by_cases hlt : k < 32
    · obtain ⟨S, hd, hS, hb⟩ := H.out
      have hz1 : (k : Int) < 32 := by omega
      have u1 : IntKind.u64.wrap (8 * (k : Int)) = ((8 * k : Nat) : Int) := by rw [IntKind.wrap_u64]; omega
      have u2 : IntKind.u64.wrap ((k : Int) + 1) = ((k + 1 : Nat) : Int) := by rw [IntKind.wrap_u64]; omega
      have HS := Lib.hid (store_dev hd (8 * k) (k + 1) (by omega) (by omega) (by omega))
      have HW := Lib.hid (fun e w' => DevNew.step (a := a) (e := e) (w' := w') (T' := 12 + k + 1) (cur' := upd (curM k) (8 * k / 8) (k + 1)) (v := .tuple #[]) hS hb)
      rw [show 8 * k / 8 = k by omega] at HS HW
      clear hd hS hb
      generalize 8 * k = z at u1 HS
      go_wp2_with fail
      refine HS.out.mono ?_
      intro e w5 h5
      obtain ⟨rfl, h6⟩ := HW.out e w5 h5
      have HI1 := Lib.hid h6
      clear h5 h6 HS HW
      go_wp2
      go_roundw
      case rel =>
        first
          | exact ⟨k + 1, by omega, by go_num, HI1⟩
          | (repeat apply Exists.intro
             refine ⟨?_, rfl⟩
             exact ⟨k + 1, by omega, by go_num, HI1⟩)
      case measure => simp [intOf]; omega
    · obtain rfl : k = 32 := by omega
      obtain ⟨S, hd, hS, hb⟩ := H.out
      have HD := Lib.hid hd
      have HSn := Lib.hid hS
      have HB := Lib.hid hb
      clear hd hS hb H
      go_wp2_with fail
      refine (persist32 wr).mono ?_
      rintro e w5 ⟨A, m, c, rfl, rfl, ho, hb5⟩
      have HB5 := Lib.hid (HB.out.trans (hb5.mono HB.out.size))
      have HOFF : Hid (∀ ad, A = some ad → ¬ S ad.block) := fun ad had hs => by
        rcases ho.2 with ⟨hv, _⟩ | ⟨g, cap, cs, hv, hge, _⟩
        · injection hv with h1; rw [h1] at had; cases had
        · injection hv with h1
          rw [h1] at had
          injection had with h2
          subst h2
          have := HD.out.lt _ hs
          simp at this
          omega
      have HR := Lib.hid (run_any (HD.out.below hb5) A 5 c _ (Reads.of_own ho) HOFF.out good_pers (by omega) (by omega))
      have HW := Lib.hid (fun e w' => DevNew.step (a := a) (e := e) (w' := w') (T' := 12 + 32 + 5) (cur' := runP (curM 32) (fls 4 ++ [Ins.fe])) (v := .int .i64 0) HSn.out HB5.out)
      clear ho hb5 HOFF HD HB HSn HB5
      unfold memV at HR
      go_wp2_with fail
      refine HR.out.mono ?_
      intro e w6 h6
      obtain ⟨rfl, h7⟩ := HW.out e w6 h6
      rw [runP_pers] at h7
      obtain ⟨S, hd, hS, hb⟩ := h7
      have HO := Lib.hid (open_any hd (HT.out.below hb) curM_pool)
      have HD := Lib.hid hd
      have HSn := Lib.hid hS
      have HB := Lib.hid hb
      clear h6 hd hS hb HR HW
      go_wp2_with fail
      refine HO.out.mono ?_
      rintro e w7 ⟨g, x, cs, rfl, hsys, hblk, hcl, hg, ⟨n1, n2, n3, n4⟩, hb7⟩
      have HM : Hid (Made w a S 49 (curM 32) g x cs w7) := Lib.hid (by
        have hl := HB.out.size
        have hn : ∀ j, w6.heap.size ≤ j → ¬ S j := fun j hj hs => by have := HD.out.lt _ hs; omega
        exact ⟨HD.out.below hb7, by omega, curM_pool, curM_word, HSn.out, hsys, ⟨hn _ n1, hn _ n2, hn _ n3, hn _ n4⟩, hblk, hcl, hn _ hg, Nat.le_trans hl hg, ⟨by omega, by omega, by omega, by omega⟩, HB.out.trans (hb7.mono hl), rfl⟩)
      clear hsys hblk hcl hg n1 n2 n3 n4 hb7 HO HD HSn HB
      go_wp2
      go_loopw [44] (fun i wr => ∃ (k : Nat) (cs : Array Value), k ≤ 32 ∧ i = .int .i64 k ∧ Hid (Made w a S 49 (curM 32) g x cs wr)) (fun i _ => 32 - (intOf i).toNat)
      case atStart => exact ⟨0, _, Nat.zero_le _, rfl, HM⟩
      case round =>
        clear HM
        obtain ⟨k, cs, hk, rfl, H⟩ := hrel
        by_cases hlt : k < 32
        · have hz0 : (0 : Int) ≤ (k : Int) := by omega
          have hz1 : (k : Int) < 32 := by omega
          have u2 : IntKind.u64.wrap ((k : Int) + 1) = ((k + 1 : Nat) : Int) := by rw [IntKind.wrap_u64]; omega
          have q1 : wr.frozen? ⟨g, 4 + k, none⟩ = false := H.out.blk.frozen _
          obtain ⟨v, hv⟩ : ∃ v, cs[4 + k]? = some v := by
            have := H.out.cells.1
            exact ⟨_, Array.getElem?_eq_getElem (by omega)⟩
          have q2 : wr.cell? ⟨g, 4 + k, none⟩ = some v := (H.out.blk.cell _).trans hv
          have HI1 := Lib.hid (H.out.store (4 + k) (by omega) (.int .u64 ((k : Int) + 1)))
          clear H hv
          go_wp2
          go_roundw
          case rel =>
            first
              | exact ⟨k + 1, _, by omega, by go_num, HI1⟩
              | (repeat apply Exists.intro
                 refine ⟨?_, rfl⟩
                 exact ⟨k + 1, _, by omega, by go_num, HI1⟩)
          case measure => simp [intOf]; omega
        · obtain rfl : k = 32 := by omega
          go_wp2
          go_ret
          exact ⟨_, _, _, _, _, _, _, rfl, H.out⟩
end Go.Proofs.YtklpeghhgoeeiaaGreatDoor
/- The keys of a map over words, collected in whatever order. -/
namespace Go.Proofs.YtklpeghhgoeeiaaGreatDoor
open Go.RowKit Go.Maps
def litNat : Lit → Nat
  | .int _ a => a.toNat
  | _ => 0
/-- The keys of a map over words. -/
def uKeys {H : Type} : DataW H → List Nat
  | .map es => es.map fun p => litNat p.1
  | _ => []
abbrev kU (x : Nat) : Lit := .int .u64 (x : Int)
theorem keyOf_u64 {P : Program} {k : TypeId} (hk : P.underlying k = some (.int .u64)) {key : Value} {kl : Lit} (h : keyOf P k key = some kl) : ∃ x : Nat, key = .int .u64 (x : Int) ∧ kl = kU x ∧ x < 18446744073709551616 := by
  cases key <;> simp [keyOf, hk, mapKey] at h
  rename_i q a
  obtain ⟨⟨rfl, hw⟩, rfl⟩ := h
  have hb : 0 ≤ a ∧ a < 18446744073709551616 := by
    have hm : IntKind.u64.min = 0 := by decide
    have hx : IntKind.u64.max = 18446744073709551615 := by decide
    simp only [Lit.wf, hm, hx, Bool.and_eq_true, decide_eq_true_eq] at hw
    omega
  exact ⟨a.toNat, by rw [Int.toNat_of_nonneg hb.1], by unfold kU; rw [Int.toNat_of_nonneg hb.1], by omega⟩
theorem kU_inj {x y : Nat} (h : kU x = kU y) : x = y := by
  have : (x : Int) = (y : Int) := by simpa [kU] using h
  omega
theorem perm_uKeys {H : Type} {es : List (Lit × DataW H)} (hp : es.Pairwise (fun p q => p.1 ≠ q.1)) (hk : ∀ p ∈ es, ∃ x, p.1 = kU x) {ss : List Nat} (hnd : ss.Nodup) (hm : ∀ x, x ∈ ss ↔ has (.map es) (kU x) = true) :
    ss.Perm (uKeys (.map es)) := by
  refine (List.perm_ext_iff_of_nodup hnd ?_).2 fun x => ?_
  · show (es.map fun p => litNat p.1).Nodup
    refine List.pairwise_map.2 (hp.imp_of_mem fun {p q} hp' hq' hne e => hne ?_)
    obtain ⟨a, ha⟩ := hk p hp'
    obtain ⟨b, hb⟩ := hk q hq'
    rw [ha, hb] at e ⊢
    have : a = b := by simpa [litNat, kU] using e
    rw [this]
  · rw [hm x, has_eq, List.any_eq_true]
    show _ ↔ x ∈ es.map fun p => litNat p.1
    rw [List.mem_map]
    constructor
    · rintro ⟨p, hp', hs⟩
      obtain ⟨a, ha⟩ := hk p hp'
      rw [ha] at hs
      refine ⟨p, hp', ?_⟩
      rw [ha]
      have : (a : Int) = (x : Int) := by simpa [Lit.sameKey, kU] using hs
      simp [litNat]; omega
    · rintro ⟨p, hp', rfl⟩
      obtain ⟨a, ha⟩ := hk p hp'
      exact ⟨p, hp', by rw [ha]; simp [Lit.sameKey, litNat]⟩
/-- No key twice; a key is on the list just where the map has it and it is no longer to come. -/
def CollU {H : Type} (D0 : DataW H) (left : Lit → Bool) (ss : List Nat) : Prop := ss.Nodup ∧ ∀ x, x ∈ ss ↔ (has D0 (kU x) = true ∧ left (kU x) = false)
section
variable {H : Type} {D0 : DataW H} {left : Lit → Bool} {ss : List Nat}
theorem CollU.start (D0 : DataW H) : CollU D0 (has D0) [] := ⟨List.nodup_nil, fun x => by cases has D0 (kU x) <;> simp⟩
theorem CollU.step (h : CollU D0 left ss) {x : Nat} {y : DataW H} (hlk : left (kU x) = true) (hat : ∀ zd, D0.atKey (kU x) zd = y) : CollU D0 (fun z => left z && !z.sameKey (kU x)) (ss ++ [x]) := by
  have hhas : has D0 (kU x) = true := has_true_of_atKey hat
  have hnew : x ∉ ss := fun hx => by have := ((h.2 x).1 hx).2; rw [hlk] at this; cases this
  refine ⟨List.nodup_append.2 ⟨h.1, by simp, fun a ha b hb => by simp at hb; subst hb; exact fun e => hnew (e ▸ ha)⟩, fun y => ?_⟩
  by_cases hy : y = x
  · subst hy; simp [hhas, Lit.sameKey]
  · have : ¬ ((y : Int) = (x : Int)) := by omega
    have h2 : (kU y).sameKey (kU x) = false := by simp [Lit.sameKey]; omega
    simp [h.2 y, hy, h2]
variable {P : Program} {k : TypeId} {R : Value → Option (DataW H × List MemPlace)} {w : World} {b n : Nat}
theorem CollU.perm (h : CollU D0 left ss) (hown : w.ownsMap P k R b n D0) (K : Keyed P k) (hk : P.underlying k = some (.int .u64)) (hl : ∀ kl, left kl = false) : ss.Perm (uKeys D0) := by
  obtain ⟨es, hD, hpw, _⟩ := hown.entries K
  have hko : ∀ p ∈ es, KeysOf P k p.1 := by
    obtain ⟨es', clock, _, F, _, hD'⟩ := hown
    rw [hD'] at hD
    injection hD with hD
    subst hD
    exact fun p hp => fit_keys F p (mem_sorted.1 hp)
  subst hD
  exact perm_uKeys hpw (fun p hp => by obtain ⟨v, hv⟩ := hko p hp; obtain ⟨x, _, hx, _⟩ := keyOf_u64 hk hv; exact ⟨x, hx⟩) h.1 (fun x => by rw [h.2 x, hl]; simp)
end
end Go.Proofs.YtklpeghhgoeeiaaGreatDoor
/- undo: entryOff, Saved, entries, load over a log with entries. -/
namespace Go.Proofs.YtklpeghhgoeeiaaGreatDoor
open Go.RowKit
/-- To stop a walk. -/
def Stop (p : Prop) : Prop := p
theorem stop {p : Prop} (h : Stop p) : p := h
/-- The words of a log at line s. -/
structure LogU (cur : Nat → Nat) (s : Nat) (ws : List (Nat × Nat)) : Prop where
  count : cur (8 * s) = ws.length
  at_ : ∀ i (h : i < ws.length), cur (8 * s + 8 + 2 * i) = (ws[i]).1 ∧ cur (8 * s + 8 + 2 * i + 1) = (ws[i]).2
theorem LogU.none {cur : Nat → Nat} {s : Nat} (h : cur (8 * s) = 0) : LogU cur s [] := ⟨h, fun i h => by simp at h⟩
set_option maxRecDepth 100000 in
set_option maxHeartbeats 4000000 in
theorem entryOff_any (v : Value) (g z k : Nat) (nv : Value) (w : World) (hB : Blk w g 186 #[v, .int .u64 (z : Int), nv]) (hz : z ≤ 1000000000) (hk : k ≤ 1000000) :
    Calls Tryz.prog 232 #[.pointer (some ⟨g, 0, none⟩), .int .i64 (k : Int)] w fun e w' => e = .returned (.int .u64 ((z + 64 + 16 * k : Nat) : Int)) ∧ w = w' := by
  have f1 : w.cell? ⟨g, 1, none⟩ = some (.int .u64 (z : Int)) := hB.cell 1
  have u1 : IntKind.u64.wrap ((z : Int) + 64) = ((z + 64 : Nat) : Int) := by rw [IntKind.wrap_u64]; omega
  have u2 : IntKind.u64.wrap (k : Int) = (k : Int) := by rw [IntKind.wrap_u64]; omega
  have u3 : IntKind.u64.wrap ((k : Int) * 16) = ((16 * k : Nat) : Int) := by rw [IntKind.wrap_u64]; omega
  have u4 : IntKind.u64.wrap (((z + 64 : Nat) : Int) + ((16 * k : Nat) : Int)) = ((z + 64 + 16 * k : Nat) : Int) := by rw [IntKind.wrap_u64]; omega
  generalize z + 64 + 16 * k = y at *
  generalize z + 64 = x at *
  generalize 16 * k = q at *
  clear hB
  go_enter Tryz.func232, Tryz.ntmps232
  go_wp2
  go_ret
  exact ⟨rfl, rfl⟩
/-- Writes of the call's own. -/
def RetWr (w : World) (ws : List (Nat × Nat)) (e : Ending) (w' : World) : Prop := ∃ A m c, e = .returned (.slice A m c) ∧ m = ws.length ∧ w'.ownsRow w.heap.size 130 2 (.slice A m c) m (wrCells ws) ∧ Below w.heap.size w w'
theorem wrCells_snoc (ws : List (Nat × Nat)) (e : Nat × Nat) : wrCells (ws ++ [e]) = wrCells ws ++ [.int .u64 (e.1 : Int), .int .u64 (e.2 : Int)] := by simp [wrCells]
theorem takeS {α : Type} (l : List α) (k : Nat) (h : k < l.length) : l.take (k + 1) = l.take k ++ [l[k]] := by simp
set_option maxRecDepth 100000 in
set_option maxHeartbeats 4000000 in
theorem saved_any {a : DA} {L T : Nat} {w : World} {S : Fp} {cur : Nat → Nat} {F : Nat} (h : Dev a L T w S cur F) (g s n : Nat) (hB : Blk w g 186 (ulogCells a s n)) (hs : s + n ≤ L) (hn : 2 ≤ n) (ws : List (Nat × Nat)) (hl : LogU cur s ws) (hc : ws.length ≤ 4 * (n - 1)) :
    Calls Tryz.prog 254 #[.pointer (some ⟨g, 0, none⟩)] w (RetWr w ws) := by
  obtain ⟨i0, hi0, hz0, hz1, hz2⟩ := info_parts infoWrite
  have hL : L ≤ 4096 := by obtain ⟨ls, exe, per, cs, lsC, hdc, hnt⟩ := h; exact hdc.hL
  have HLd := Lib.hid (load_at h (64 * s) ws.length (by omega) (by omega) (by rw [show 64 * s / 8 = 8 * s by omega]; exact hl.count))
  have HL1 : Hid (∀ k (hk : k < ws.length) W, Below w.heap.size w W → Calls Tryz.prog 19 #[.pointer (some ⟨a.th 0, 0, none⟩), .int .u64 ((64 * s + 64 + 16 * k : Nat) : Int)] W fun e w' => e = .returned (.int .u64 ((ws[k]).1 : Int)) ∧ W = w') := fun k hk W hW =>
    load_at h (64 * s + 64 + 16 * k) (ws[k]).1 (by omega) (by omega) (by rw [show (64 * s + 64 + 16 * k) / 8 = 8 * s + 8 + 2 * k by omega]; exact (hl.at_ k hk).1) W hW
  have HL2 : Hid (∀ k (hk : k < ws.length) W, Below w.heap.size w W → Calls Tryz.prog 19 #[.pointer (some ⟨a.th 0, 0, none⟩), .int .u64 ((64 * s + 64 + 16 * k + 8 : Nat) : Int)] W fun e w' => e = .returned (.int .u64 ((ws[k]).2 : Int)) ∧ W = w') := fun k hk W hW =>
    load_at h (64 * s + 64 + 16 * k + 8) (ws[k]).2 (by omega) (by omega) (by rw [show (64 * s + 64 + 16 * k + 8) / 8 = 8 * s + 8 + 2 * k + 1 by omega]; exact (hl.at_ k hk).2) W hW
  have hm := methLoad (some ⟨a.th 0, 0, none⟩)
  have hna := aheadLoad ⟨a.th 0, 0, none⟩
  have hq := eqMem (some ⟨a.th 0, 0, none⟩)
  have HBB := Lib.hid hB
  have f0 : w.cell? ⟨g, 0, none⟩ = some (memV a) := hB.cell 0
  have f1 : w.cell? ⟨g, 1, none⟩ = some (.int .u64 ((64 * s : Nat) : Int)) := hB.cell 1
  have HB0 : Hid (Below w.heap.size w w.drew) := (Below.refl _ _).drew
  have u1 : IntKind.u64.wrap (4 * ((n : Int) - 1)) = 4 * ((n : Int) - 1) := by rw [IntKind.wrap_u64]; omega
  have e1 : decide (4 * ((n : Int) - 1) < (ws.length : Int)) = false := decide_eq_false (by omega)
  have hg0 : (2 : Int) ≤ (n : Int) := by omega
  have hg1 : (n : Int) ≤ 4096 := by omega
  have hN : ws.length ≤ 16384 := by omega
  have HEN : Hid (∀ k W, k < ws.length → Below w.heap.size w W → Calls Tryz.prog 232 #[.pointer (some ⟨g, 0, none⟩), .int .i64 (k : Int)] W fun e w' => e = .returned (.int .u64 ((64 * s + 64 + 16 * k : Nat) : Int)) ∧ W = w') := fun k W hk hW =>
    entryOff_any _ g (64 * s) k _ W (HBB.out.below hW HBB.out.lt) (by omega) (by omega)
  have hzz : 64 * s ≤ 1000000 := by omega
  have hNN : ws.length ≤ 16384 := by omega
  unfold memV at *
  generalize 64 * s = z at *
  clear hB h hl hc hs hn
  go_enter Tryz.func254, Tryz.ntmps254
  go_wp2
  go_cut [4] from 14 to 22 (fun v wx => v = .int .u64 (ws.length : Int) ∧ Hid (Below w.heap.size w wx))
  case first =>
    go_region_with (go_at_call 19; refine (HLd.out _ HB0.out).mono ?_; rintro e w1 ⟨rfl, rfl⟩)
    all_goals (go_wp2_with fail; go_meet; exact ⟨rfl, HB0⟩)
  case rest =>
    obtain ⟨rfl, HW⟩ := hcut
    have k0 : wc.cell? ⟨g, 0, none⟩ = some (.iface 53 (.pointer (some ⟨a.th 0, 0, none⟩))) := (HBB.out.below HW.out HBB.out.lt).cell 0
    have k2 : wc.cell? ⟨g, 2, none⟩ = some (.int .i64 (n : Int)) := (HBB.out.below HW.out HBB.out.lt).cell 2
    have HO0 : Hid (wc.ownsRow w.heap.size 130 2 (.slice none 0 0) 0 (wrCells (ws.take 0))) := World.ownsRow_nil _ _ _ _
    go_wp2
    go_loopw [5, 30] (fun l i wr => ∃ (k : Nat) (A : Option Addr) (m c : Nat), k ≤ ws.length ∧ i = .int .i64 k ∧ l = .slice A m c ∧ m ≤ k ∧ k ≤ m ∧ Hid (wr.ownsRow w.heap.size 130 2 (.slice A m c) m (wrCells (ws.take k))) ∧ Hid (Below w.heap.size w wr)) (fun _ i _ => ws.length - (intOf i).toNat)
    case atStart => exact ⟨0, _, _, _, Nat.zero_le _, rfl, rfl, Nat.le_refl _, Nat.le_refl _, HO0, HW⟩
    case round =>
      clear HO0 HW
      obtain ⟨k, A, m, c, hk, rfl, rfl, hm1, hm2, HO, H⟩ := hrel
      by_cases hlt : k < ws.length
      · have hz5 : (k : Int) < (ws.length : Int) := by omega
        have hkl : k < ws.length := by omega
        have HE := Lib.hid (HEN.out k wr hlt H.out)
        have HA := Lib.hid (HL1.out k hlt wr H.out)
        have HB := Lib.hid (HL2.out k hlt wr H.out)
        have HTS := Lib.hid (takeS ws k hkl)
        have u2 : IntKind.u64.wrap (((z + 64 + 16 * k : Nat) : Int) + 8) = ((z + 64 + 16 * k + 8 : Nat) : Int) := by rw [IntKind.wrap_u64]; omega
        generalize ws[k] = e at *
        generalize z + 64 + 16 * k + 8 = y2 at *
        generalize z + 64 + 16 * k = y at *
        have HLE := Lib.hid H.out.size
        go_wp2_with fail
        refine HE.out.mono ?_
        rintro e1 w1 ⟨rfl, rfl⟩
        go_wp2_with fail
        refine HA.out.mono ?_
        rintro e1 w1 ⟨rfl, rfl⟩
        go_wp2_with fail
        refine HB.out.mono ?_
        rintro e1 w1 ⟨rfl, rfl⟩
        go_wp2_with (at_builtin; refine stop ?_)
        unfold Stop
        refine wpList_app _ (.tmp 36) (.tmp 45) 120 rfl rfl w.heap.size 130 i0 _ 2 16 Tryz.underlying120 hi0 hz0 hz1 hz2 rfl (by omega) (.slice A m c) m (wrCells (ws.take k)) rfl (HO.out.alloc _) (wr.heap.size + 1) (some ⟨wr.heap.size, 0, none⟩) 1 1 [.int .u64 (e.1 : Int), .int .u64 (e.2 : Int)] rfl (row_reads_at _ _ rfl _ 1 2 130 _ rfl rfl) (u64s_one _ _) (by unfold maxLen; omega) (by omega) (by have := HLE.out; simp; omega) ?_
        intro A3 n3 c3 w8 hn3 ho3 hg3 hb3
        have HO4 : Hid (w8.ownsRow w.heap.size 130 2 (.slice A3 n3 c3) n3 (wrCells (ws.take (k + 1)))) := Lib.hid (by rw [HTS.out, wrCells_snoc]; exact ho3)
        have HB3 := Lib.hid ((H.out.alloc H.out.size _).trans hb3)
        have b1 : n3 ≤ k + 1 := by omega
        have b2 : k + 1 ≤ n3 := by omega
        clear hn3 ho3 hg3 hb3
        go_wp2
        go_roundw
        case rel =>
          first
            | exact ⟨k + 1, _, _, _, by omega, by go_num, rfl, b1, b2, HO4, HB3⟩
            | (repeat apply Exists.intro
               refine ⟨?_, rfl⟩
               exact ⟨k + 1, _, _, _, by omega, by go_num, rfl, b1, b2, HO4, HB3⟩)
        case measure => simp [intOf]; omega
      · have hkN : k = ws.length := by omega
        go_wp2
        go_ret
        refine ⟨_, _, _, rfl, by omega, ?_, H.out⟩
        have h := HO.out
        rw [List.take_of_length_le (by omega)] at h
        exact h
/-- What entries hands back. -/
def RetEnt (w : World) (ws : List (Nat × Nat)) (e : Ending) (w' : World) : Prop := ∃ A m c, e = .returned (.tuple #[.slice A m c, .int .i64 0]) ∧ m = ws.length ∧ w'.ownsRow w.heap.size 130 2 (.slice A m c) m (wrCells ws) ∧ Below w.heap.size w w'
set_option maxRecDepth 100000 in
set_option maxHeartbeats 4000000 in
theorem entries_any {a : DA} {L T : Nat} {w : World} {S : Fp} {cur : Nat → Nat} {F : Nat} (h : Dev a L T w S cur F) (g s n : Nat) (hB : Blk w g 186 (ulogCells a s n)) (hs : s + n ≤ L) (hn : 2 ≤ n) (ws : List (Nat × Nat)) (hl : LogU cur s ws) (hc : ws.length ≤ 4 * (n - 1)) :
    Calls Tryz.prog 217 #[.pointer (some ⟨g, 0, none⟩)] w (RetEnt w ws) := by
  have HL := Lib.hid (saved_any h g s n hB hs hn ws hl hc)
  have HD := Lib.hid h
  have HBB := Lib.hid hB
  have c0 : w.cell? ⟨g, 0, none⟩ = some (memV a) := hB.cell 0
  obtain ⟨ls, exe, per, cs, lsC, hdc, hnt⟩ := h
  obtain ⟨f0, _, _, _, f4⟩ := hdc.facts (j := 0) (by omega)
  have hmE := methErr (some ⟨a.th 0, 0, none⟩)
  have hq := eqMem (some ⟨a.th 0, 0, none⟩)
  clear hdc hnt hB
  unfold memV at *
  go_enter Tryz.func217, Tryz.ntmps217
  go_wp2_with (first
    | (go_at_call 254; refine HL.out.mono ?_; rintro e w1 ⟨A, m, c, rfl, hm, ho, hb1⟩; have HM := Lib.hid hm; have HO := Lib.hid ho; have HW := Lib.hid hb1; have d0 : w1.cell? ⟨g, 0, none⟩ = some (.iface 53 (.pointer (some ⟨a.th 0, 0, none⟩))) := (HBB.out.below hb1 HBB.out.lt).cell 0; obtain ⟨ls1, exe1, per1, cs1, lsC1, hdc1, hnt1⟩ := HD.out.below hb1; obtain ⟨k0, _, _, _, k4⟩ := hdc1.facts (j := 0) (by omega); clear hb1 hdc1 hnt1 hm ho)
    | go_in)
  go_ret2
  exact ⟨_, _, _, rfl, HM.out, HO.out, HW.out⟩
end Go.Proofs.YtklpeghhgoeeiaaGreatDoor
/- undo: allowed, setCount, load over a log with entries. -/
namespace Go.Proofs.YtklpeghhgoeeiaaGreatDoor
open Go.RowKit
/-- An offset that may be saved. -/
structure OffOk (L s n o : Nat) : Prop where
  al : o % 8 = 0
  lt : o < 64 * L
  out : o < 64 * s ∨ 64 * s + 64 * n ≤ o
set_option maxRecDepth 100000 in
set_option maxHeartbeats 4000000 in
theorem allowed_any {a : DA} {L T : Nat} {w : World} {S : Fp} {cur : Nat → Nat} {F : Nat} (h : Dev a L T w S cur F) (g s n : Nat) (hB : Blk w g 186 (ulogCells a s n)) (hs : s + n ≤ L) (o : Nat) (ho : OffOk L s n o) :
    Calls Tryz.prog 218 #[.pointer (some ⟨g, 0, none⟩), .int .u64 (o : Int)] w fun e w' => e = .returned (.bool true) ∧ Below w.heap.size w w' := by
  have c0 : w.cell? ⟨g, 0, none⟩ = some (memV a) := hB.cell 0
  have c1 : w.cell? ⟨g, 1, none⟩ = some (.int .u64 ((64 * s : Nat) : Int)) := hB.cell 1
  have c2 : w.cell? ⟨g, 2, none⟩ = some (.int .i64 (n : Int)) := hB.cell 2
  have hmS := methSize (some ⟨a.th 0, 0, none⟩)
  obtain ⟨ls, exe, per, cs, lsC, hdc, hnt⟩ := h
  have hL := hdc.hL
  obtain ⟨f0, f2, _, _, f4⟩ := hdc.facts (j := 0) (by omega)
  obtain ⟨o1, o2, o3⟩ := ho
  have HB0 : Hid (Below w.heap.size w w.drew) := (Below.refl _ _).drew
  have e1 : ((o : Int) % 8 == 0) = true := by rw [beq_iff_eq]; omega
  have e1' : (o : Int) % 8 = 0 := by omega
  have u1 : IntKind.u64.wrap ((L : Int) * 64) = (L : Int) * 64 := by rw [IntKind.wrap_u64]; omega
  have e2 : decide ((L : Int) * 64 ≤ (o : Int)) = false := decide_eq_false (by omega)
  have u2 : IntKind.u64.wrap (n : Int) = (n : Int) := by rw [IntKind.wrap_u64]; omega
  have u3 : IntKind.u64.wrap ((n : Int) * 64) = (n : Int) * 64 := by rw [IntKind.wrap_u64]; omega
  clear hdc hnt hB
  unfold memV at *
  by_cases hlt : o < 64 * s
  · have e3 : decide ((o : Int) < ((64 * s : Nat) : Int)) = true := decide_eq_true (by omega)
    have e3' : decide (o < 64 * s) = true := decide_eq_true hlt
    generalize 64 * s = z at *
    go_enter Tryz.func218, Tryz.ntmps218
    go_wp2
    go_region
    go_wp2
    go_ret
    exact ⟨rfl, HB0.out⟩
  · have e3 : decide ((o : Int) < ((64 * s : Nat) : Int)) = false := decide_eq_false (by omega)
    have e3' : decide (o < 64 * s) = false := decide_eq_false hlt
    have u4 : IntKind.u64.wrap ((o : Int) - ((64 * s : Nat) : Int)) = (o : Int) - ((64 * s : Nat) : Int) := by rw [IntKind.wrap_u64]; omega
    have e4 : decide ((n : Int) * 64 ≤ (o : Int) - ((64 * s : Nat) : Int)) = true := decide_eq_true (by omega)
    generalize 64 * s = z at *
    go_enter Tryz.func218, Tryz.ntmps218
    go_wp2
    go_region
    go_wp2
    go_ret
    exact ⟨rfl, HB0.out⟩
set_option maxRecDepth 100000 in
set_option maxHeartbeats 4000000 in
theorem setCount_any (a : DA) (s n g c : Nat) (w : World) (hB : Blk w g 186 (ulogCells a s n)) (hs : 64 * s < 18446744073709551616) (hc : c ≤ 1000000) :
    Calls Tryz.prog 178 #[.pointer (some ⟨g, 0, none⟩), .int .i64 (c : Int)] w (RetProg w (IsStores [(64 * s, c)])) := by
  have f1 : w.cell? ⟨g, 1, none⟩ = some (.int .u64 ((64 * s : Nat) : Int)) := hB.cell 1
  have HS := Lib.hid (stores_small _ 1 1 _ _ (one_reads w (64 * s) c) (by omega) (by omega) (fun e he => by simp at he; subst he; exact hs))
  have u1 : IntKind.u64.wrap (c : Int) = (c : Int) := by rw [IntKind.wrap_u64]; omega
  generalize 64 * s = o at *
  clear hB
  go_enter Tryz.func178, Tryz.ntmps178
  go_wp2_with (go_at_call 66; refine HS.out.mono ?_; intro e w1 h1; have h2 := RetProg.back ((Below.refl _ _).alloc (Nat.le_refl _) _) h1; obtain ⟨A1, m1, c1, p1, rfl, hp1, ho1, hb1⟩ := h2; have HP1 := Lib.hid hp1; have HO1 := Lib.hid ho1; have HB1 := Lib.hid hb1; clear h1 hp1 ho1 hb1)
  go_ret
  exact ⟨_, _, _, _, rfl, HP1.out, HO1.out, HB1.out⟩
/-- What load hands back. -/
def RetLoad (w : World) (ws : List (Nat × Nat)) (e : Ending) (w' : World) : Prop := ∃ A m c, e = .returned (.tuple #[.slice A m c, .bool ws.isEmpty, .int .i64 0]) ∧ m = ws.length ∧ w'.ownsRow w.heap.size 130 2 (.slice A m c) m (wrCells ws) ∧ Below w.heap.size w w'
set_option maxRecDepth 100000 in
set_option maxHeartbeats 4000000 in
theorem loadU_any {a : DA} {L T : Nat} {w : World} {S : Fp} {cur : Nat → Nat} {F : Nat} (h : Dev a L T w S cur F) (g s n : Nat) (hB : Blk w g 186 (ulogCells a s n)) (hs : s + n ≤ L) (hn : 2 ≤ n) (ws : List (Nat × Nat)) (hl : LogU cur s ws) (hc : ws.length ≤ 4 * (n - 1)) (hw : ∀ e ∈ ws, OffOk L s n e.1) :
    Calls Tryz.prog 177 #[.pointer (some ⟨g, 0, none⟩)] w (RetLoad w ws) := by
  obtain ⟨i0, hi0, hz0, hz1, hz2⟩ := info_parts infoWrite
  have hL : L ≤ 4096 := by obtain ⟨ls, exe, per, cs, lsC, hdc, hnt⟩ := h; exact hdc.hL
  have HE := Lib.hid (entries_any h g s n hB hs hn ws hl hc)
  have HAl : Hid (∀ k (hk : k < ws.length) W, Below w.heap.size w W → Calls Tryz.prog 218 #[.pointer (some ⟨g, 0, none⟩), .int .u64 ((ws[k]).1 : Int)] W fun e w' => e = .returned (.bool true) ∧ Below W.heap.size W w') := fun k hk W hW =>
    allowed_any (h.below hW) g s n (hB.below hW hB.lt) hs _ (hw _ (List.getElem_mem hk))
  have hN : ws.length ≤ 16384 := by omega
  clear h hB hl hc hs hn hw
  go_enter Tryz.func177, Tryz.ntmps177
  go_wp2_with fail
  refine HE.out.mono ?_
  rintro e w1 ⟨A, m, c, rfl, hm, ho, hb1⟩
  have HR := Lib.hid (Reads.of_own ho)
  have HB1 := Lib.hid hb1
  have hm1 : m ≤ ws.length := by omega
  have hm2 : ws.length ≤ m := by omega
  have HO0 : Hid (w1.ownsRow w1.heap.size 130 2 (.slice none 0 0) 0 (wrCells (ws.take 0))) := World.ownsRow_nil _ _ _ _
  have HBB : Hid (Below w1.heap.size w1 w1) := Below.refl _ _
  clear hm ho hb1 HE
  go_wp2
  go_loopw [7, 20] (fun l i wr => ∃ (k : Nat) (A2 : Option Addr) (m2 c2 : Nat), k ≤ m ∧ i = .int .i64 k ∧ l = .slice A2 m2 c2 ∧ m2 ≤ k ∧ k ≤ m2 ∧ Hid (wr.ownsRow w1.heap.size 130 2 (.slice A2 m2 c2) m2 (wrCells (ws.take k))) ∧ Hid (Below w1.heap.size w1 wr)) (fun _ i _ => m - (intOf i).toNat)
  case atStart => exact ⟨0, _, _, _, Nat.zero_le _, rfl, rfl, Nat.le_refl _, Nat.le_refl _, HO0, HBB⟩
  case round =>
    clear HO0 HBB
    obtain ⟨k, A2, m2, c2, hk, rfl, rfl, hq1, hq2, HO, H⟩ := hrel
    by_cases hlt : k < m
    · have hkl : k < ws.length := by omega
      obtain ⟨_, b, off, hA, hbB, f0, f1⟩ := wr_facts (HR.out.below H.out) hlt
      subst hA
      have hz5 : (0 : Int) ≤ (k : Int) := by omega
      have hz6 : (k : Int) < (m : Int) := by omega
      have hb0 : Below w.heap.size w (wr.alloc (.cells #[.int .u64 ((ws[k]).1 : Int), .int .u64 ((ws[k]).2 : Int)] 130)) := (HB1.out.trans (H.out.mono HB1.out.size)).alloc (Nat.le_trans HB1.out.size H.out.size) _
      have HA := Lib.hid (HAl.out k hkl _ hb0)
      have HTS := Lib.hid (takeS ws k hkl)
      have HLE := Lib.hid H.out.size
      have HX : Hid (∀ o, Below w1.heap.size w1 (wr.alloc o)) := fun o => H.out.alloc H.out.size o
      have HOX : Hid (∀ o, (wr.alloc o).ownsRow w1.heap.size 130 2 (.slice A2 m2 c2) m2 (wrCells (ws.take k))) := fun o => HO.out.alloc o
      have HBX := Lib.hid (Blk.new wr 130 #[.int .u64 ((ws[k]).1 : Int), .int .u64 ((ws[k]).2 : Int)])
      clear hb0
      generalize ws[k] = e at *
      go_wp2_with fail
      refine HA.out.mono ?_
      rintro e1 w2 ⟨rfl, hb2⟩
      have HB2 := Lib.hid ((HX.out _).trans (hb2.mono (HX.out _).size))
      have HO2 := Lib.hid (own_below (HOX.out _) hb2)
      have hk2 := HBX.out.below hb2 HBX.out.lt
      have d0 : w2.cell? ⟨wr.heap.size, 0, none⟩ = some (.int .u64 (e.1 : Int)) := hk2.cell 0
      have d1 : w2.cell? ⟨wr.heap.size, 1, none⟩ = some (.int .u64 (e.2 : Int)) := hk2.cell 1
      clear hb2 hk2 HA HX HOX HBX H HO
      go_wp2_with (at_builtin; refine stop ?_)
      unfold Stop
      refine wpList_app _ (.tmp 28) (.tmp 30) 120 rfl rfl w1.heap.size 130 i0 _ 2 16 Tryz.underlying120 hi0 hz0 hz1 hz2 rfl (by omega) (.slice A2 m2 c2) m2 (wrCells (ws.take k)) rfl (HO2.out.alloc _) (w2.heap.size + 1) (some ⟨w2.heap.size, 0, none⟩) 1 1 [.int .u64 (e.1 : Int), .int .u64 (e.2 : Int)] rfl (row_reads_at _ _ rfl _ 1 2 130 _ rfl rfl) (u64s_one _ _) (by unfold maxLen; omega) (by omega) (by have := HB2.out.size; simp; omega) ?_
      intro A3 n3 c3 w8 hn3 ho3 hg3 hb3
      have HO4 : Hid (w8.ownsRow w1.heap.size 130 2 (.slice A3 n3 c3) n3 (wrCells (ws.take (k + 1)))) := Lib.hid (by rw [HTS.out, wrCells_snoc]; exact ho3)
      have HB3 := Lib.hid ((HB2.out.alloc HB2.out.size _).trans hb3)
      have b1 : n3 ≤ k + 1 := by omega
      have b2 : k + 1 ≤ n3 := by omega
      clear hn3 ho3 hg3 hb3
      go_wp2
      go_roundw
      case rel =>
        first
          | exact ⟨k + 1, _, _, _, by omega, by go_num, rfl, b1, b2, HO4, HB3⟩
          | (repeat apply Exists.intro
             refine ⟨?_, rfl⟩
             exact ⟨k + 1, _, _, _, by omega, by go_num, rfl, b1, b2, HO4, HB3⟩)
      case measure => simp [intOf]; omega
    · have hkm : k = m := by omega
      subst hkm
      have hdec : ((k : Int) == 0) = ws.isEmpty := by
        cases ws with
        | nil => have : k = 0 := by simp at hm1; omega
                 subst this; rfl
        | cons x l => have : k ≠ 0 := by simp at hm2; omega
                      simp; omega
      go_wp2
      go_ret3
      refine ⟨A2, m2, c2, rfl, by omega, ?_, HB1.out.trans (H.out.mono HB1.out.size)⟩
      have h := own_le HO.out HB1.out.size
      rw [List.take_of_length_le (by omega)] at h
      exact h
end Go.Proofs.YtklpeghhgoeeiaaGreatDoor
