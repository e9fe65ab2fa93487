/- The walks and laws that the claim leans on, part 3: each part says ahead of its lines what it holds. -/
import Derived.Test.YtklpeghhgoeeiaaGreatDoorKab
/- A region that draws its order, walked by a script: at each place either a load (an operation that yields the same in every world of S, and may come first) or the one operation that is ready. -/
namespace Go.Proofs.YtklpeghhgoeeiaaGreatDoor
open Go.RowKit

section
variable {P : Program} {ops : Array Oper} {Q : Exit → Act → World → Prop} {md : Region.Mode} {S : World → Prop} {m : Nat}
def okScript (md : Region.Mode) (ops : Array Oper) (g m : Nat) : List (Bool × Nat) → Array Bool → Bool
  | [], listed => Region.seqB md ops g m listed
  | (true, i) :: r, listed => decide (i < m) && ((Region.ready md ops listed).contains i && Region.free md ops listed i) && okScript md ops g m r (listed.setIfInBounds i true)
  | (false, i) :: r, listed => decide (i < m) && decide (Region.ready md ops listed = [i]) && okScript md ops g m r (listed.setIfInBounds i true)
def wpScript (P : Program) (ops : Array Oper) (Q : Exit → Act → World → Prop) (S : World → Prop) (rest : List Oper) : List (Bool × Nat) → Act → World → Prop
  | [], a, w => wpList P ops Q rest a w
  | (true, i) :: r, a, w => ∃ o v, ops[i]? = some o ∧ YieldsIf P ops S o v a ∧ wpScript P ops Q S rest r (a.put o.dst v) w
  | (false, i) :: r, a, w => ∃ o, ops[i]? = some o ∧ wpList P ops (ThenS S Q (wpScript P ops Q S rest r)) [o] a w
theorem wpScript_take {rest : List Oper} {i : Nat} {r : List (Bool × Nat)} {a : Act} {w : World} {o : Oper} (v : Value) (ho : ops[i]? = some o) (hw : Region.wanted o (yielded ops a.tmps) = true) (hy : ∀ w, S w → (execOp a.eval o).run P w = .ok (.value v) w) (h : wpScript P ops Q S rest r (a.put o.dst v) w) : wpScript P ops Q S rest ((true, i) :: r) a w :=
  ⟨o, v, ho, .inl ⟨hw, hy⟩, h⟩
theorem wpScript_skip {rest : List Oper} {i : Nat} {r : List (Bool × Nat)} {a : Act} {w : World} {o : Oper} (ho : ops[i]? = some o) (hw : Region.wanted o (yielded ops a.tmps) = false) (h : wpScript P ops Q S rest r (a.put o.dst undef) w) : wpScript P ops Q S rest ((true, i) :: r) a w :=
  ⟨o, undef, ho, .inr ⟨hw, rfl⟩, h⟩
theorem wpScript_do {rest : List Oper} {i : Nat} {r : List (Bool × Nat)} {a : Act} {w : World} {o : Oper} (ho : ops[i]? = some o) (h : wpList P ops (ThenS S Q (wpScript P ops Q S rest r)) [o] a w) : wpScript P ops Q S rest ((false, i) :: r) a w := ⟨o, ho, h⟩
theorem wpAnyG_script {rest : List Oper} (hsel : Region.noSelect ops = true) (hs : Region.sinkB md ops m = true) (hc : Region.chainB md ops m = true) (hm : m < ops.size)
    (hQ : ∀ c a a' w, Q (.panic c) a w → Q (.panic c) a' w) (hrest : ∀ j, rest[j]? = ops[m + j]?) :
    ∀ (sc : List (Bool × Nat)) (listed : Array Bool) (a : Act) (w : World), HeadInv md ops m listed → okScript md ops rest.length m sc listed = true → S w → wpScript P ops Q S rest sc a w →
      wpAnyG P md ops Q S m (sc.length + rest.length) listed a w
  | [], listed, a, w, _, hB, _, h => by
    rw [List.length_nil, Nat.zero_add]
    exact wpAnyG_of_seq rest m listed a w (Nat.le_refl _) hrest hB h
  | (true, i) :: r, listed, a, w, inv, hB, hS, h => by
    simp only [okScript, Bool.and_eq_true, decide_eq_true_eq] at hB
    obtain ⟨⟨him, hr, hf⟩, hB'⟩ := hB
    have hr' : i ∈ Region.ready md ops listed := by simpa using hr
    obtain ⟨o, v, ho, hy, hK⟩ := h
    rw [List.length_cons, show r.length + 1 + rest.length = (r.length + rest.length) + 1 by omega]
    exact wpAnyG_first ho (Region.noSelect_spec hsel) hs hc hm him (fun c a' w' => hQ c _ _ w') (r.length + rest.length) listed a w inv (Region.free_spec ho hf) hr' hy hS
      (wpAnyG_script hsel hs hc hm hQ hrest r _ _ _ (inv.set hr' him) hB' hS hK)
  | (false, i) :: r, listed, a, w, inv, hB, hS, h => by
    simp only [okScript, Bool.and_eq_true, decide_eq_true_eq] at hB
    obtain ⟨⟨him, hr⟩, hB'⟩ := hB
    obtain ⟨o, ho, hK⟩ := h
    have hr' : i ∈ Region.ready md ops listed := by rw [hr]; exact List.mem_singleton.2 rfl
    rw [List.length_cons, show r.length + 1 + rest.length = (r.length + rest.length) + 1 by omega]
    refine ⟨fun h1 => (by rw [hr] at h1; cases h1), fun j hj => ?_⟩
    rw [hr] at hj
    have hik : j = i := by simpa using hj
    subst hik
    have hw : wpOp P ops (ThenS S Q (wpScript P ops Q S rest r)) j (fun a' w' => S w' ∧ wpScript P ops Q S rest r a' w') a w := by
      unfold wpOp; simp only [ho]; exact hK
    have hw2 : wpOp P ops Q j (fun a' w' => S w' ∧ wpScript P ops Q S rest r a' w') a w := by
      unfold wpOp at hw ⊢
      simp only [ho] at hw ⊢
      exact hw
    exact wpOp_mono (fun a' w' h' => ⟨fun _ => h'.1, wpAnyG_script hsel hs hc hm hQ hrest r _ a' w' (inv.set hr' him) hB' h'.1 h'.2⟩) hw2
end
def scriptB (l : List Oper) (m : Nat) (sc : List (Bool × Nat)) : Bool :=
  Region.noSelect l.toArray && decide (m < l.toArray.size) && Region.sinkB .any l.toArray m && Region.chainB .any l.toArray m && decide (sc.length = m) && okScript .any l.toArray (l.toArray.size - m) m sc (Array.replicate l.toArray.size false)
theorem wp_region_script {P : Program} {Q : Exit → Act → World → Prop} {id : Nat} {a : Act} {w : World} {l : List Oper} (S : World → Prop) (m : Nat) (sc : List (Bool × Nat)) (hm : P.follows .mixedOrders = true) (hB : scriptB l m sc = true)
    (hS : S w.drew) (h : wpScript P l.toArray (NoPanic Q) S (l.drop m) sc a w.drew) : (Code.region id l.toArray true).wp P Q a w := by
  refine wp_region_noPanic ?_
  simp only [scriptB, Bool.and_eq_true, decide_eq_true_eq] at hB
  obtain ⟨⟨⟨⟨⟨hsel, hn⟩, hs⟩, hc⟩, hsc⟩, hok⟩ := hB
  have hrl : (l.drop m).length = l.toArray.size - m := by simp
  have hn' : m < l.length := by simpa using hn
  have inv0 : HeadInv .any l.toArray m (Array.replicate l.toArray.size false) :=
    ⟨by simp, fun j oj _ hl => (by rw [getD_replicate_false] at hl; cases hl), fun t _ ht => getD_in (by simpa using ht) (getD_replicate_false _ _)⟩
  refine wp_region_any hm (wpAny_of_G (S := S) (m := m) _ _ _ _ ?_)
  have := wpAnyG_script (P := P) (Q := NoPanic Q) (md := .any) (S := S) (m := m) (rest := l.drop m) hsel hs hc hn (fun _ _ _ _ h => h) (fun j => by rw [List.getElem?_drop]; simp) sc _ a _ inv0 (by rw [hrl]; exact hok) hS h
  rw [hrl, hsc, show m + (l.toArray.size - m) = l.toArray.size by simp; omega] at this
  exact this
end Go.Proofs.YtklpeghhgoeeiaaGreatDoor
/- The device's Flush. -/
namespace Go.Proofs.YtklpeghhgoeeiaaGreatDoor
open Go.RowKit Go.Maps
theorem wf_u64_nat {x : Nat} (h : x < 18446744073709551616) : (Lit.int .u64 (x : Int)).wf = true := by
  exact WalkArith.wf_u64 ⟨by omega, by omega⟩
theorem wf_i64_nat {x : Nat} (h : x < 9223372036854775808) : (Lit.int .i64 (x : Int)).wf = true := by
  exact WalkArith.wf_i64 ⟨by omega, by omega⟩
theorem mem_insert {H : Type} {x p : Lit × DataW H} : ∀ {l : List (Lit × DataW H)}, p ∈ DataW.insert x l → p = x ∨ p ∈ l
  | [], h => by simp [DataW.insert] at h; exact .inl h
  | y :: r, h => by
    unfold DataW.insert at h
    split at h
    · rw [List.mem_cons] at h; exact h
    · rw [List.mem_cons] at h
      rcases h with h | h
      · exact .inr (by rw [h]; exact List.mem_cons_self ..)
      · exact (mem_insert h).imp id (List.mem_cons_of_mem _)
/-- What Flush leaves in memory. -/
def RetFlush (w : World) (d nb F : Nat) (exe : Int) (l : List (Lit × DataW Unit)) (i x : Nat) (e : Ending) (w' : World) : Prop :=
  e = .returned (.tuple #[]) ∧ w'.ownsMap Tryz.prog 3 (plainElem Tryz.prog 35) nb (F + 1) ((DataW.map l).put (.int .i64 (i : Int)) (.lit (.int .u64 (x : Int)))) ∧
    (w.setCell ⟨d, 14, none⟩ (.int .u64 (IntKind.u64.wrap (exe + 1)))).drew.grownBy w' (some nb)
set_option maxRecDepth 100000 in
set_option maxHeartbeats 4000000 in
theorem flush_core (L d th lb nb : Nat) (exe : Int) (off F dn : Nat) (hA : Option Addr) (m hc : Nat) (l : List (Lit × DataW Unit)) (w : World) (hlt : off < 64 * L) (hL : L ≤ 4096) (hm : dn + m ≤ 1000000000) (hF : F < 1000000000)
    (f0 : w.cell? ⟨th, 0, none⟩ = some (.pointer (some ⟨d, 0, none⟩))) (f2 : w.cell? ⟨d, 2, none⟩ = some (.slice (some ⟨lb, 0, none⟩) L L)) (f11 : w.cell? ⟨d, 11, none⟩ = some (.bool false)) (f12 : w.cell? ⟨d, 12, none⟩ = some (.bool false)) (f14 : w.cell? ⟨d, 14, none⟩ = some (.int .u64 exe)) (z14 : w.frozen? ⟨d, 14, none⟩ = false)
    (f3 : w.cell? ⟨th, 3, none⟩ = some (.map (some nb))) (fd : w.cell? ⟨lb, off / 64 * 2, none⟩ = some (.int .u64 (dn : Int))) (fl : w.cell? ⟨lb, off / 64 * 2 + 1, none⟩ = some (.slice hA m hc))
    (own : w.ownsMap Tryz.prog 3 (plainElem Tryz.prog 35) nb F (.map l))
    (n1 : d ≠ th) (n2 : d ≠ lb) (n3 : nb ≠ d) :
    Calls Tryz.prog 301 #[.pointer (some ⟨th, 0, none⟩), .int .u64 (off : Int)] w (RetFlush w d nb F exe l (off / 64) (dn + m)) := by
  have e1 : decide ((off : Int) < (L : Int) * 64) = true := decide_eq_true (by omega)
  have e5 : decide (off < L * 64) = true := decide_eq_true (by omega)
  have e6 : (off : Int) / 64 < (L : Int) := by omega
  have e7 : (0 : Int) ≤ (off : Int) / 64 := by omega
  have e8 : ((off : Int) / 64).toNat = off / 64 := by omega
  have m1 := n1.symm
  have m2 := n2.symm
  have u1 : IntKind.u64.wrap (m : Int) = (m : Int) := by rw [IntKind.wrap_u64]; omega
  have u2 : IntKind.u64.wrap ((dn : Int) + (m : Int)) = (dn : Int) + (m : Int) := by rw [IntKind.wrap_u64]; omega
  have HOW : Hid ((w.setCell ⟨d, 14, none⟩ (.int .u64 (IntKind.u64.wrap (exe + 1)))).drew.ownsMap Tryz.prog 3 (plainElem Tryz.prog 35) nb F (.map l)) := (own.setCell (a := ⟨d, 14, none⟩) n3 _).drew
  clear own
  go_enter Tryz.func301, Tryz.ntmps301
  go_wp2
  refine wp_region_script (fun w' => w'.cell? ⟨th, 3, none⟩ = some (.map (some nb)) ∧ w'.cell? ⟨lb, off / 64 * 2, none⟩ = some (.int .u64 (dn : Int)) ∧ w'.cell? ⟨lb, off / 64 * 2 + 1, none⟩ = some (.slice hA m hc)) 16 [(true, 0), (true, 1), (true, 2), (true, 3), (true, 4), (true, 5), (true, 6), (true, 7), (true, 8), (true, 9), (true, 10), (true, 11), (true, 12), (true, 13), (true, 14), (true, 15)] (by kernel_rfl) (by kernel_rfl) ?_ ?_
  · refine ⟨?_, ?_, ?_⟩
    · rw [World.cell?_drew, World.cell?_setCell_other _ _ _ _ (by simp)]; exact f3
    · rw [World.cell?_drew, World.cell?_setCell_other _ _ _ _ (by simp)]; exact fd
    · rw [World.cell?_drew, World.cell?_setCell_other _ _ _ _ (by simp)]; exact fl
  clear f0 f2 f11 f12 f14 z14 f3 fd fl e1 e5
  refine wpScript_take (.pointer (some ⟨th, 0, none⟩)) (by rfl) (by rfl) (fun w' hS => ?_) ?_
  · go_simp
  simp only [List.getElem_toArray, List.getElem_cons_zero, Act.put, List.setIfInBounds_toArray, List.set_cons_zero, List.set_cons_succ]
  refine wpScript_take (.pointer (some ⟨th, 0, none⟩)) (by rfl) (by rfl) (fun w' hS => ?_) ?_
  · go_simp
  simp only [List.getElem_toArray, List.getElem_cons_zero, List.getElem_cons_succ, Act.put, List.setIfInBounds_toArray, List.set_cons_zero, List.set_cons_succ]
  refine wpScript_take (.pointer (some ⟨th, 3, none⟩)) (by rfl) (by rfl) (fun w' hS => ?_) ?_
  · go_simp
  simp only [List.getElem_toArray, List.getElem_cons_zero, List.getElem_cons_succ, Act.put, List.setIfInBounds_toArray, List.set_cons_zero, List.set_cons_succ]
  refine wpScript_take (.map (some nb)) (by rfl) (by rfl) (fun w' hS => ?_) ?_
  · obtain ⟨s1, s2, s3⟩ := hS
    go_simp
  simp only [List.getElem_toArray, List.getElem_cons_zero, List.getElem_cons_succ, Act.put, List.setIfInBounds_toArray, List.set_cons_zero, List.set_cons_succ]
  refine wpScript_take (.int .i64 ((off : Int) / 64)) (by rfl) (by rfl) (fun w' hS => ?_) ?_
  · go_simp
  simp only [List.getElem_toArray, List.getElem_cons_zero, List.getElem_cons_succ, Act.put, List.setIfInBounds_toArray, List.set_cons_zero, List.set_cons_succ]
  refine wpScript_take (.pointer (some ⟨lb, off / 64 * 2, none⟩)) (by rfl) (by rfl) (fun w' hS => ?_) ?_
  · go_simp
  simp only [List.getElem_toArray, List.getElem_cons_zero, List.getElem_cons_succ, Act.put, List.setIfInBounds_toArray, List.set_cons_zero, List.set_cons_succ]
  refine wpScript_take (.pointer (some ⟨lb, off / 64 * 2, none⟩)) (by rfl) (by rfl) (fun w' hS => ?_) ?_
  · go_simp
  simp only [List.getElem_toArray, List.getElem_cons_zero, List.getElem_cons_succ, Act.put, List.setIfInBounds_toArray, List.set_cons_zero, List.set_cons_succ]
  refine wpScript_take (.pointer (some ⟨lb, off / 64 * 2, none⟩)) (by rfl) (by rfl) (fun w' hS => ?_) ?_
  · go_simp
  simp only [List.getElem_toArray, List.getElem_cons_zero, List.getElem_cons_succ, Act.put, List.setIfInBounds_toArray, List.set_cons_zero, List.set_cons_succ]
  refine wpScript_take (.int .u64 (dn : Int)) (by rfl) (by rfl) (fun w' hS => ?_) ?_
  · obtain ⟨s1, s2, s3⟩ := hS
    go_simp
  simp only [List.getElem_toArray, List.getElem_cons_zero, List.getElem_cons_succ, Act.put, List.setIfInBounds_toArray, List.set_cons_zero, List.set_cons_succ]
  refine wpScript_take (.pointer (some ⟨lb, off / 64 * 2, none⟩)) (by rfl) (by rfl) (fun w' hS => ?_) ?_
  · go_simp
  simp only [List.getElem_toArray, List.getElem_cons_zero, List.getElem_cons_succ, Act.put, List.setIfInBounds_toArray, List.set_cons_zero, List.set_cons_succ]
  refine wpScript_take (.pointer (some ⟨lb, off / 64 * 2, none⟩)) (by rfl) (by rfl) (fun w' hS => ?_) ?_
  · go_simp
  simp only [List.getElem_toArray, List.getElem_cons_zero, List.getElem_cons_succ, Act.put, List.setIfInBounds_toArray, List.set_cons_zero, List.set_cons_succ]
  refine wpScript_take (.pointer (some ⟨lb, off / 64 * 2 + 1, none⟩)) (by rfl) (by rfl) (fun w' hS => ?_) ?_
  · go_simp
  simp only [List.getElem_toArray, List.getElem_cons_zero, List.getElem_cons_succ, Act.put, List.setIfInBounds_toArray, List.set_cons_zero, List.set_cons_succ]
  refine wpScript_take (.slice hA m hc) (by rfl) (by rfl) (fun w' hS => ?_) ?_
  · obtain ⟨s1, s2, s3⟩ := hS
    go_simp
  simp only [List.getElem_toArray, List.getElem_cons_zero, List.getElem_cons_succ, Act.put, List.setIfInBounds_toArray, List.set_cons_zero, List.set_cons_succ]
  refine wpScript_take (.int .i64 (m : Int)) (by rfl) (by rfl) (fun w' hS => ?_) ?_
  · go_simp
  simp only [List.getElem_toArray, List.getElem_cons_zero, List.getElem_cons_succ, Act.put, List.setIfInBounds_toArray, List.set_cons_zero, List.set_cons_succ]
  refine wpScript_take (.int .u64 (m : Int)) (by rfl) (by rfl) (fun w' hS => ?_) ?_
  · go_simp
  simp only [List.getElem_toArray, List.getElem_cons_zero, List.getElem_cons_succ, Act.put, List.setIfInBounds_toArray, List.set_cons_zero, List.set_cons_succ]
  refine wpScript_take (.int .u64 ((dn : Int) + (m : Int))) (by rfl) (by rfl) (fun w' hS => ?_) ?_
  · go_simp
  simp only [List.getElem_toArray, List.getElem_cons_zero, List.getElem_cons_succ, Act.put, List.setIfInBounds_toArray, List.set_cons_zero, List.set_cons_succ]
  show wpList _ _ _ _ _ _
  simp only [List.drop_succ_cons, List.drop_zero]
  clear u1 u2
  go_wp2_with (at_mapUpdate; refine wpList_mapUpdate_own _ rfl _ _ _ 139 rfl 3 35 (int_keyed Tryz.underlying3) Tryz.underlying139 _ nb F (.map l) rfl HOW.out ?q1 _ _ _ rfl rfl (keyOf_int_mk Tryz.underlying3 ?q2) _ [] (plainElem_int Tryz.underlying35 ?q3) ?_; (case q1 => (unfold maxLen; omega)); (case q2 => exact WalkArith.wf_i64 ⟨by omega, by omega⟩); (case q3 => exact WalkArith.wf_u64 ⟨by omega, by omega⟩); intro w1 hown1 hg1; have HM := Lib.hid hown1; have HG := Lib.hid hg1; clear hown1 hg1)
  refine NoPanic.normal ?_
  go_wp2
  go_end0
  refine ⟨rfl, ?_, HG.out⟩
  rw [show ((off / 64 : Nat) : Int) = (off : Int) / 64 by omega, show ((dn + m : Nat) : Int) = (dn : Int) + (m : Int) by omega]
  exact HM.out
section
variable {a : DA} {L T : Nat} {w : World} {S : Fp} {cur : Nat → Nat} {s : LS} {exe : Int} {per cs ls : Array Value} {F : Nat}
theorem flush_any (h : DevC a L T w S cur s exe per cs ls) (hN : NoteC a L w s F) (off : Nat) (hlt : off < 64 * L) (hF : F < 1000000000) :
    Calls Tryz.prog 301 #[.pointer (some ⟨a.th 0, 0, none⟩), .int .u64 (off : Int)] w (RetDev a L T w S cur (F + 1) (.tuple #[])) := by
  obtain ⟨f0, f2, f11, f1, _⟩ := h.facts (j := 0) (by omega)
  have hi : off / 64 < L := by omega
  have ho := h.own _ hi
  have hfew := h.few _ hi
  have hT := h.hT
  obtain ⟨hA, hc, hv⟩ := own_slice ho
  have hth := h.thr 0 (by omega)
  have n1 : a.d ≠ a.th 0 := h.dev.ne_ hth (by decide)
  have n2 : a.d ≠ a.lb := h.dev.ne_ h.linB (by decide)
  obtain ⟨l0, hmap, hnotes⟩ := hN
  have n3 := map_ne_blk hmap h.dev
  refine (flush_core L a.d (a.th 0) a.lb (a.nt 0) exe off F (s.dn (off / 64)) hA (s.m (off / 64)) hc l0 w hlt h.hL (by omega) hF f0 f2 f11 (h.dev.cell 12) (h.dev.cell 14) (h.dev.frozen 14) (hth.cell 3)
    (by rw [h.linB.cell, h.linD _ hi]) (by rw [h.linB.cell, h.linH _ hi, hv]) hmap n1 n2 n3).mono ?_
  rintro e w' ⟨rfl, hm', hg⟩
  have hne : ∀ {g : Nat} {t : TypeId} {cs : Array Value}, Blk w g t cs → some g ≠ some (a.nt 0) := fun hB e => by injection e with e; exact map_ne_blk hmap hB e.symm
  have k0 : ∀ {g : Nat} {t : TypeId} {xs : Array Value}, Blk w g t xs → g ≠ a.d → Blk w' g t xs := fun hB h1 => ((hB.far (p := ⟨a.d, 14, none⟩) h1 _).drew).grown hg (hne hB)
  have kd : Blk w' a.d _ (devCells a L (IntKind.u64.wrap (exe + 1))) := ((h.dev.set_ 14 _).drew).grown hg (hne h.dev)
  have hsz : w.heap.size ≤ w'.heap.size := by have := hg.size; simp at this; exact this
  refine ⟨rfl, S, ⟨s, IntKind.u64.wrap (exe + 1), per, cs, ls, ?_, ?_⟩, ?_, Grew.refl _ _⟩
  · exact
    { h with
      dev := kd
      perB := k0 h.perB (h.perB.ne_ h.dev (by decide))
      curB := k0 h.curB (h.curB.ne_ h.dev (by decide))
      linB := k0 h.linB (h.linB.ne_ h.dev (by decide))
      own := fun k hk => by
        have h1 := h.own k hk
        have h2 := (ownsRow_setCell_other h1 (a := ⟨a.d, 14, none⟩) (own_blk_ne h1 h.dev (by decide)) (.int .u64 (IntKind.u64.wrap (exe + 1)))).drew
        refine h2.kept hg ?_
        cases hb : (s.h k).ownBlock with
        | none => exact .inl rfl
        | some g => exact .inr (fun e => map_ne_own hmap h1 (by rw [hb]; exact e.symm))
      thr := fun j hj => k0 (h.thr j hj) ((h.thr j hj).ne_ h.dev (by decide))
      lt := fun k hk => by have := h.lt k hk; omega }
  · refine ⟨_, hm', fun p hp => ?_⟩
    rcases mem_insert hp with hp | hp
    · exact ⟨off / 64, hi, hp⟩
    · exact hnotes p (List.mem_filter.1 hp).1
  · exact (((Chg.refl S w).setCell (p := ⟨a.d, 14, none⟩) (.inl h.sd) _).drew).grown hg (fun g hg' => by injection hg' with hg'; subst hg'; exact .inl h.sn)
end
end Go.Proofs.YtklpeghhgoeeiaaGreatDoor
/- The device's apply and persist. -/
namespace Go.Proofs.YtklpeghhgoeeiaaGreatDoor
open Go.RowKit
/-- Words of a row. -/
def Ints (n : Nat) (cs : Array Value) : Prop := cs.size = n ∧ ∀ i, i < n → ∃ v : Int, cs[i]? = some (.int .u64 v)
theorem Ints.set {n : Nat} {cs : Array Value} (h : Ints n cs) {j : Nat} (hj : j < n) (v : Int) : Ints n (cs.setIfInBounds j (.int .u64 v)) := by
  refine ⟨by simpa using h.1, fun i hi => ?_⟩
  rw [set_at i (by rw [h.1]; exact hj)]
  by_cases hij : i = j
  · rw [if_pos hij]; exact ⟨_, rfl⟩
  · rw [if_neg hij]; exact h.2 i hi
/-- What apply leaves. -/
def RetApply (w : World) (pb n : Nat) (e : Ending) (w' : World) : Prop := e = .returned (.tuple #[]) ∧ ∃ cs, Blk w' pb 35 cs ∧ Ints n cs ∧ Chg (fun k => k = pb) w w'
set_option maxRecDepth 100000 in
set_option maxHeartbeats 4000000 in
theorem apply_any (L pb g m hc : Nat) (per : Array Value) (xs : List Value) (w : World) (hB : Blk w pb 35 per) (hI : Ints (8 * L) per) (own : w.ownsRow 0 130 2 (.slice (some ⟨g, 0, none⟩) m hc) m xs) (hok : HistOk L m xs) (hm : m ≤ 1000000000) (hL : L ≤ 4096) :
    Calls Tryz.prog 168 #[.slice (some ⟨pb, 0, none⟩) (8 * L) (8 * L), .slice (some ⟨g, 0, none⟩) m hc] w (RetApply w pb (8 * L)) := by
  have hne : g ≠ pb := fun e => own_blk_ne own hB (by decide) (by rw [e]; rfl)
  have HR := Lib.hid own
  have HOK := Lib.hid hok
  have H0 : Hid (∃ cs, Blk w pb 35 cs ∧ Ints (8 * L) cs ∧ Chg (fun k => k = pb) w w) := ⟨per, hB, hI, Chg.refl _ _⟩
  have hgl := (own.lt g rfl).2
  clear own hok hB hI
  go_enter Tryz.func168, Tryz.ntmps168
  go_wp2
  go_loopw [8] (fun i wr => ∃ (k : Nat), k ≤ m ∧ i = .int .i64 k ∧ Hid (∃ cs, Blk wr pb 35 cs ∧ Ints (8 * L) cs ∧ Chg (fun k => k = pb) w wr)) (fun i _ => m - (intOf i).toNat)
  case atStart => exact ⟨0, Nat.zero_le _, rfl, H0⟩
  case round =>
    clear H0
    obtain ⟨k, hk, rfl, H⟩ := hrel
    by_cases hlt : k < m
    · obtain ⟨cs, hB, hI, hC⟩ := H.out
      obtain ⟨o, v, g1, g2, hol⟩ := HOK.out k hlt
      have hcell : ∀ j u, xs[j]? = some u → wr.cell? ⟨g, j, none⟩ = some u := fun j u hu => by
        have h1 := (hC.own HR.out (fun g' hg' => by simp [Value.ownBlock] at hg'; subst hg'; exact hne)).cells (g := g) rfl j u hu
        have ha : (⟨g, 0, none⟩ : Addr).add j = ⟨g, j, none⟩ := by unfold Addr.add; split <;> simp_all
        rw [ha] at h1
        exact h1
      have c1 := hcell _ _ g1
      have c2 := hcell _ _ g2
      obtain ⟨old, hold⟩ := hI.2 (o / 8) (by omega)
      have c3 : wr.cell? ⟨pb, o / 8, none⟩ = some (.int .u64 old) := by rw [hB.cell]; exact hold
      have c4 : ∀ ob, (wr.alloc ob).cell? ⟨pb, o / 8, none⟩ = some (.int .u64 old) := fun ob => ((hB.alloc ob).cell _).trans hold
      have z4 : ∀ ob, (wr.alloc ob).frozen? ⟨pb, o / 8, none⟩ = false := fun ob => (hB.alloc ob).frozen _
      have e2 : (o : Int) / 8 < 8 * (L : Int) := by omega
      have e3 : (0 : Int) ≤ (o : Int) / 8 := by omega
      have e4 : ((o : Int) / 8).toNat = o / 8 := by omega
      have hz0 : (0 : Int) ≤ (k : Int) := by omega
      have hz1 : (k : Int) < (m : Int) := by omega
      have hlp := hB.lt
      have HN : Hid (∃ cs, Blk ((wr.setCell ⟨pb, o / 8, none⟩ (.int .u64 (v : Int))).alloc (.cells #[.int .u64 (o : Int), .int .u64 (v : Int)] 130)) pb 35 cs ∧ Ints (8 * L) cs ∧ Chg (fun k => k = pb) w ((wr.setCell ⟨pb, o / 8, none⟩ (.int .u64 (v : Int))).alloc (.cells #[.int .u64 (o : Int), .int .u64 (v : Int)] 130))) :=
        ⟨_, (hB.set_ (o / 8) _).alloc _, hI.set (by omega) _, (hC.setCell (p := ⟨pb, o / 8, none⟩) (.inl rfl) _).alloc _⟩
      clear hcell hB hI hC hold g1 g2 H
      go_wp2
      go_roundw
      case rel => exact ⟨k + 1, by omega, by go_num, HN⟩
      case measure => simp [intOf]; omega
    · obtain rfl : m = k := by omega
      go_wp2
      go_end0
      obtain ⟨cs, hB, hI, hC⟩ := H.out
      exact ⟨rfl, cs, hB, hI, hC⟩
theorem blk_set2 {w : World} {g : Nat} {t : TypeId} {cs : Array Value} (h : Blk w g t cs) (j : Nat) (u v : Value) : Blk ((w.setCell ⟨g, j, none⟩ u).setCell ⟨g, j, none⟩ v) g t (cs.setIfInBounds j v) := by
  have h1 := (h.set_ j u).set_ j v
  rw [Array.setIfInBounds_setIfInBounds] at h1
  exact h1
/-- What persist leaves. -/
def RetPersist (w : World) (pb lb n i : Nat) (dn : Int) (ls : Array Value) (e : Ending) (w' : World) : Prop := e = .returned (.tuple #[]) ∧ ∃ cs, Blk w' pb 35 cs ∧ Ints n cs ∧
  Blk w' lb 239 ((ls.setIfInBounds (i * 2) (.int .u64 dn)).setIfInBounds (i * 2 + 1) (.slice none 0 0)) ∧ Chg (fun k => k = pb ∨ k = lb) w w'
set_option maxRecDepth 100000 in
set_option maxHeartbeats 4000000 in
theorem persist_core (L d pb lb g m hc i dn : Nat) (per ls : Array Value) (xs : List Value) (w : World) (hi : i < L) (hB : Blk w pb 35 per) (hI : Ints (8 * L) per) (own : w.ownsRow 0 130 2 (.slice (some ⟨g, 0, none⟩) m hc) m xs) (hok : HistOk L m xs) (hm : dn + m ≤ 1000000000) (hL : L ≤ 4096)
    (f0 : w.cell? ⟨d, 0, none⟩ = some (.slice (some ⟨pb, 0, none⟩) (8 * L) (8 * L))) (f2 : w.cell? ⟨d, 2, none⟩ = some (.slice (some ⟨lb, 0, none⟩) L L)) (hl : Blk w lb 239 ls) (l0 : ls[i * 2]? = some (.int .u64 (dn : Int))) (l1 : ls[i * 2 + 1]? = some (.slice (some ⟨g, 0, none⟩) m hc)) :
    Calls Tryz.prog 302 #[.pointer (some ⟨d, 0, none⟩), .int .i64 (i : Int), .int .i64 (m : Int)] w (RetPersist w pb lb (8 * L) i ((dn + m : Nat) : Int) ls) := by
  have hcap := own_cap own
  have hne : lb ≠ pb := hl.ne_ hB (by decide)
  have c1 : w.cell? ⟨lb, i * 2 + 1, none⟩ = some (.slice (some ⟨g, 0, none⟩) m hc) := by rw [hl.cell]; exact l1
  have HAP := Lib.hid (apply_any L pb g m hc per xs w.drew hB hI own hok (by omega) hL)
  have HL := Lib.hid hl
  have L0 := Lib.hid l0
  have L1 := Lib.hid l1
  have e6 : (i : Int) < (L : Int) := by omega
  have e7 : (0 : Int) ≤ (i : Int) := by omega
  have e8 : (0 : Int) ≤ (m : Int) := by omega
  have e9 : (m : Int) ≤ (hc : Int) := by omega
  have u1 : IntKind.u64.wrap (m : Int) = (m : Int) := by rw [IntKind.wrap_u64]; omega
  have u2 : IntKind.u64.wrap ((dn : Int) + (m : Int)) = (dn : Int) + (m : Int) := by rw [IntKind.wrap_u64]; omega
  clear hB hI own hok hl l0 l1
  go_enter Tryz.func302, Tryz.ntmps302
  go_wp2
  refine wp_region_script (fun w' => w'.cell? ⟨d, 0, none⟩ = some (.slice (some ⟨pb, 0, none⟩) (8 * L) (8 * L)) ∧ w'.cell? ⟨lb, i * 2 + 1, none⟩ = some (.slice (some ⟨g, 0, none⟩) m hc)) 10 [(true, 0), (true, 1), (true, 2), (true, 3), (true, 4), (true, 5), (true, 6), (true, 7), (true, 8), (true, 9)] (by kernel_rfl) (by kernel_rfl) ⟨f0, c1⟩ ?_
  clear f0 f2 c1
  refine wpScript_take (.pointer (some ⟨d, 0, none⟩)) (by rfl) (by rfl) (fun w' hS => ?_) ?_
  · go_simp
  simp only [List.getElem_toArray, List.getElem_cons_zero, Act.put, List.setIfInBounds_toArray, List.set_cons_zero, List.set_cons_succ]
  refine wpScript_take (.pointer (some ⟨d, 0, none⟩)) (by rfl) (by rfl) (fun w' hS => ?_) ?_
  · go_simp
  simp only [List.getElem_toArray, List.getElem_cons_zero, List.getElem_cons_succ, Act.put, List.setIfInBounds_toArray, List.set_cons_zero, List.set_cons_succ]
  refine wpScript_take (.pointer (some ⟨d, 0, none⟩)) (by rfl) (by rfl) (fun w' hS => ?_) ?_
  · go_simp
  simp only [List.getElem_toArray, List.getElem_cons_zero, List.getElem_cons_succ, Act.put, List.setIfInBounds_toArray, List.set_cons_zero, List.set_cons_succ]
  refine wpScript_take (.slice (some ⟨pb, 0, none⟩) (8 * L) (8 * L)) (by rfl) (by rfl) (fun w' hS => ?_) ?_
  · obtain ⟨s1, s2⟩ := hS
    go_simp
  simp only [List.getElem_toArray, List.getElem_cons_zero, List.getElem_cons_succ, Act.put, List.setIfInBounds_toArray, List.set_cons_zero, List.set_cons_succ]
  refine wpScript_take (.pointer (some ⟨lb, i * 2, none⟩)) (by rfl) (by rfl) (fun w' hS => ?_) ?_
  · go_simp
  simp only [List.getElem_toArray, List.getElem_cons_zero, List.getElem_cons_succ, Act.put, List.setIfInBounds_toArray, List.set_cons_zero, List.set_cons_succ]
  refine wpScript_take (.pointer (some ⟨lb, i * 2, none⟩)) (by rfl) (by rfl) (fun w' hS => ?_) ?_
  · go_simp
  simp only [List.getElem_toArray, List.getElem_cons_zero, List.getElem_cons_succ, Act.put, List.setIfInBounds_toArray, List.set_cons_zero, List.set_cons_succ]
  refine wpScript_take (.pointer (some ⟨lb, i * 2 + 1, none⟩)) (by rfl) (by rfl) (fun w' hS => ?_) ?_
  · go_simp
  simp only [List.getElem_toArray, List.getElem_cons_zero, List.getElem_cons_succ, Act.put, List.setIfInBounds_toArray, List.set_cons_zero, List.set_cons_succ]
  refine wpScript_take (.slice (some ⟨g, 0, none⟩) m hc) (by rfl) (by rfl) (fun w' hS => ?_) ?_
  · obtain ⟨s1, s2⟩ := hS
    go_simp
  simp only [List.getElem_toArray, List.getElem_cons_zero, List.getElem_cons_succ, Act.put, List.setIfInBounds_toArray, List.set_cons_zero, List.set_cons_succ]
  refine wpScript_take (.int .i64 (m : Int)) (by rfl) (by rfl) (fun w' hS => ?_) ?_
  · go_simp
  simp only [List.getElem_toArray, List.getElem_cons_zero, List.getElem_cons_succ, Act.put, List.setIfInBounds_toArray, List.set_cons_zero, List.set_cons_succ]
  refine wpScript_take (.slice (some ⟨g, 0, none⟩) m hc) (by rfl) (by rfl) (fun w' hS => ?_) ?_
  · go_simp
  simp only [List.getElem_toArray, List.getElem_cons_zero, List.getElem_cons_succ, Act.put, List.setIfInBounds_toArray, List.set_cons_zero, List.set_cons_succ]
  show wpList _ _ _ _ _ _
  simp only [List.drop_succ_cons, List.drop_zero]
  go_wp2_with fail
  refine HAP.out.mono ?_
  rintro e W ⟨rfl, cs, hB, hI, hC⟩
  have hl : Blk W lb 239 ls := Chg.blk (w := w) ⟨hC.os, hC.tape, hC.output, hC.size, hC.block⟩ HL.out hne
  have d0 : W.cell? ⟨lb, i * 2, none⟩ = some (.int .u64 (dn : Int)) := (hl.cell _).trans L0.out
  have d1 : W.cell? ⟨lb, i * 2 + 1, none⟩ = some (.slice (some ⟨g, 0, none⟩) m hc) := (hl.cell _).trans L1.out
  have z0 := hl.frozen (i * 2)
  have z1 := hl.frozen (i * 2 + 1)
  have HB := Lib.hid hB
  have HI := Lib.hid hI
  have HC := Lib.hid hC
  have HW := Lib.hid hl
  clear hB hI hC hl HAP
  go_wp2_with fail
  refine NoPanic.normal ?_
  go_wp2
  all_goals
    go_end0
    refine ⟨rfl, cs, ?_, HI.out, ?_, ?_⟩
    · iterate 3 (refine Blk.far ?_ (fun e => hne e.symm) _)
      exact HB.out
    · exact blk_set2 (HW.out.set_ (i * 2) (.int .u64 ((dn : Int) + (m : Int)))) _ _ _
    · iterate 3 (refine Chg.setCell ?_ (.inl (.inr rfl)) _)
      exact Chg.mono (S := fun k => k = pb) (w := w) ⟨HC.out.os, HC.out.tape, HC.out.output, HC.out.size, HC.out.block⟩ (fun k hk => .inl hk)
end Go.Proofs.YtklpeghhgoeeiaaGreatDoor
