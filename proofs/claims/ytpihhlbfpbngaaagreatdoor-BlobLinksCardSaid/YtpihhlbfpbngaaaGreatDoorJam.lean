/- The walks and laws that the claim leans on, part 13. -/
import Derived.Test.YtpihhlbfpbngaaaGreatDoorJal
namespace Go.Proofs.YtpihhlbfpbngaaaGreatDoor
open Go.RowKit Go.Maps
theorem u_facts {w : World} {B n : Nat} {A : Option Addr} {l : List Nat} (h : Reads w B 1 A n (uCells l)) {k : Nat} (hk : k < n) :
    ∃ (hl : k < l.length) (b off : Nat), A = some ⟨b, off, none⟩ ∧ b < B ∧ w.cell? ⟨b, off + k, none⟩ = some (.int .u64 ((l[k]) : Int)) := by
  have hl : k < l.length := by have := h.1; simp [uCells] at this; omega
  obtain ⟨b, off, hA, hb, hc⟩ := h.plain (by omega) (by omega)
  exact ⟨hl, b, off, hA, hb, hc k _ (by simp [uCells, hl])⟩
def entW (z n : Nat) : List (Nat × Nat) → List (Nat × Nat)
  | [] => []
  | e :: l => (z + 64 + 16 * n, e.1) :: (z + 64 + 16 * n + 8, e.2) :: entW z (n + 1) l
theorem entW_snoc (z : Nat) : ∀ (l : List (Nat × Nat)) (n : Nat) (e : Nat × Nat), entW z n (l ++ [e]) = entW z n l ++ [(z + 64 + 16 * (n + l.length), e.1), (z + 64 + 16 * (n + l.length) + 8, e.2)]
  | [], n, e => by simp [entW]
  | x :: l, n, e => by
    have := entW_snoc z l (n + 1) e
    simp only [List.cons_append, entW, this, List.length_cons]
    rw [show n + 1 + l.length = n + (l.length + 1) by omega]
theorem entW_len (z : Nat) : ∀ (l : List (Nat × Nat)) (n : Nat), (entW z n l).length = 2 * l.length
  | [], n => rfl
  | x :: l, n => by have := entW_len z l (n + 1); simp only [entW, List.length_cons, this]; omega
theorem entW_mem (z : Nat) : ∀ (l : List (Nat × Nat)) (n : Nat) (e : Nat × Nat), e ∈ entW z n l → ∃ j, j < l.length ∧ (e.1 = z + 64 + 16 * (n + j) ∨ e.1 = z + 64 + 16 * (n + j) + 8) ∧ ∃ x ∈ l, e.2 = x.1 ∨ e.2 = x.2
  | [], n, e, h => by simp [entW] at h
  | x :: l, n, e, h => by
    simp only [entW, List.mem_cons] at h
    rcases h with rfl | rfl | h
    · exact ⟨0, by simp, .inl (by simp), x, by simp, .inl rfl⟩
    · exact ⟨0, by simp, .inr (by simp), x, by simp, .inr rfl⟩
    · obtain ⟨j, h1, h2, y, hy, h3⟩ := entW_mem z l (n + 1) e h
      refine ⟨j + 1, by simp; omega, ?_, y, by simp [hy], h3⟩
      rcases h2 with h2 | h2
      · exact .inl (by omega)
      · exact .inr (by omega)
def RetPlan (w : World) (P : List Ins → Prop) (e : Ending) (w' : World) : Prop := ∃ A m c p, e = .returned (.tuple #[.slice A m c, .int .i64 0]) ∧ P p ∧ w'.ownsRow w.heap.size 237 3 (.slice A m c) m (insCells p) ∧ Below w.heap.size w w'
theorem isStores_len {ws : List (Nat × Nat)} {p : List Ins} (h : IsStores ws p) : p.length ≤ 2 * ws.length + 1 := by
  obtain ⟨fs, rfl, hf, _⟩ := h
  simp
  omega
end Go.Proofs.YtpihhlbfpbngaaaGreatDoor
namespace Go.Proofs.YtpihhlbfpbngaaaGreatDoor
open Go.RowKit Go.Maps
structure PMapD (D : DataW Unit) (f : Nat → Option Nat) (n : Nat) : Prop where
  at_ : ∀ x, D.atKey (kU x) (.lit (.int .u64 0)) = .lit (.int .u64 (((f x).getD 0 : Nat) : Int))
  has : ∀ x, Maps.has D (kU x) = (f x).isSome
  size : Maps.size D = n
def PMap (w : World) (b N : Nat) (f : Nat → Option Nat) (n : Nat) : Prop := ∃ D : DataW Unit, w.ownsMap Tryz.prog 26 (plainElem Tryz.prog 27) b N D ∧ PMapD D f n
def updF (f : Nat → Option Nat) (x : Nat) (v : Option Nat) : Nat → Option Nat := fun y => if y = x then v else f y
section
variable {w w' : World} {b N n : Nat} {f : Nat → Option Nat}
theorem PMap.look (h : PMap w b N f n) {x : Nat} (hx : x < 18446744073709551616) : (Instr.lookup 147 (.map (some b)) (.int .u64 (x : Int)) true).run Tryz.prog w = .ok (.tuple #[.int .u64 (((f x).getD 0 : Nat) : Int), .bool (f x).isSome]) w := by
  obtain ⟨D, ho, hd⟩ := h
  obtain ⟨v, ps, hrun, hv⟩ := ho.look_ok keyedU Tryz.underlying147 (z := .int .u64 0) (by kernel_rfl) (plainElem_int Tryz.underlying27 (by decide)) (keyU hx)
  obtain ⟨c, rfl, hc, hwc⟩ := plainElem_int_inv Tryz.underlying27 hv
  rw [hd.at_ x] at hc
  simp at hc
  rw [hrun, hd.has x, ← hc.1]
theorem PMap.put (h : PMap w b N f n) (hN : N < maxLen) {x p : Nat} (hx : x < 18446744073709551616) (hp : p < 18446744073709551616) (hf : f x = none) :
    ∃ w', (Instr.mapUpdate 147 (.map (some b)) (.int .u64 (x : Int)) (.int .u64 (p : Int))).run Tryz.prog w = .ok () w' ∧ PMap w' b (N + 1) (updF f x (some p)) (n + 1) ∧ w.grownBy w' (some b) := by
  obtain ⟨D, ho, hd⟩ := h
  obtain ⟨w', hrun, ho', hg⟩ := ho.update keyedU Tryz.underlying147 hN (keyU hx) (plainElem_int Tryz.underlying27 (wf_u64_nat hp))
  refine ⟨w', hrun, ⟨_, ho', ⟨fun y => ?_, fun y => ?_, ?_⟩⟩, hg⟩
  · unfold updF
    by_cases hy : y = x
    · subst hy; rw [atKey_put_same ho.isMap (kU_key y)]; simp
    · rw [atKey_put_other (kU_ne hy), hd.at_ y, if_neg hy]
  · unfold updF
    by_cases hy : y = x
    · subst hy; rw [has_put_same ho.isMap (kU_key y)]; simp
    · rw [has_put_other (kU_ne hy), hd.has y, if_neg hy]
  · rw [size_put (ho.tidy keyedU), hd.has x, hf, hd.size]; rfl
theorem PMap.del (h : PMap w b N f n) {x : Nat} (hx : x < 18446744073709551616) {p : Nat} (hf : f x = some p) :
    ∃ w', (Builtin.delete_ #[147, 26] 0 #[.map (some b), .int .u64 (x : Int)]).run Tryz.prog w = .ok (.tuple #[]) w' ∧ PMap w' b N (updF f x none) (n - 1) ∧ w.grownBy w' (some b) := by
  obtain ⟨D, ho, hd⟩ := h
  obtain ⟨w', hrun, ho', hg⟩ := ho.drop keyedU Tryz.underlying147 (keyU hx) 0
  refine ⟨w', hrun, ⟨_, ho', ⟨fun y => ?_, fun y => ?_, ?_⟩⟩, hg.grown⟩
  · unfold updF
    by_cases hy : y = x
    · subst hy; rw [atKey_del_same]; simp
    · rw [atKey_del_other (kU_ne hy), hd.at_ y, if_neg hy]
  · unfold updF
    by_cases hy : y = x
    · subst hy; rw [has_del_same]; simp
    · rw [has_del_other (kU_ne hy), hd.has y, if_neg hy]
  · have h1 := size_del (k := kU x) (ho.tidy keyedU)
    rw [hd.has x, hf, hd.size] at h1
    simp at h1
    omega
theorem PMap.new (w : World) : PMap (w.alloc (.map #[] 0)) w.heap.size 0 (fun _ => none) 0 := ⟨_, World.ownsMap_made w _ _ _, ⟨fun x => by simp [DataW.atKey], fun x => by simp [Maps.has], rfl⟩⟩
theorem PMap.chg {Z : Fp} (h : PMap w b N f n) (hc : Chg Z w w') (hb : ¬ Z b) : PMap w' b N f n := by
  obtain ⟨D, ho, hd⟩ := h
  exact ⟨D, hc.map ho hb, hd⟩
theorem PMap.mono {N' : Nat} (h : PMap w b N f n) (hN : N ≤ N') : PMap w b N' f n := by
  obtain ⟨D, ho, hd⟩ := h
  exact ⟨D, ho.mono hN, hd⟩
theorem PMap.lt (h : PMap w b N f n) : b < w.heap.size := by
  obtain ⟨D, ho, hd⟩ := h
  exact ho.lt
def HMap (w : World) (b N : Nat) : Prop := ∃ D : DataW Unit, w.ownsMap Tryz.prog 3 (plainElem Tryz.prog 3) b N D
theorem keyI {x : Nat} (h : x < 9000000000) : keyOf Tryz.prog 3 (.int .i64 (x : Int)) = some (.int .i64 (x : Int)) := keyOf_int_mk Tryz.underlying3 (WalkArith.wf_i64 ⟨by omega, by omega⟩)
theorem keyedN : Keyed Tryz.prog 3 := int_keyed Tryz.underlying3
theorem HMap.look (h : HMap w b N) {x : Nat} (hx : x < 9000000000) : ∃ c : Int, (Instr.lookup 148 (.map (some b)) (.int .i64 (x : Int)) false).run Tryz.prog w = .ok (.int .i64 c) w ∧ (Lit.int .i64 c).wf = true := by
  obtain ⟨D, ho⟩ := h
  obtain ⟨c, hrun, _, hwc⟩ := ho.lookup_int keyedN Tryz.underlying148 Tryz.underlying3 (by kernel_rfl) (keyI hx)
  exact ⟨c, hrun, hwc⟩
theorem HMap.put (h : HMap w b N) (hN : N < maxLen) {x : Nat} (hx : x < 9000000000) {c : Int} (hc : (Lit.int .i64 c).wf = true) :
    ∃ w', (Instr.mapUpdate 148 (.map (some b)) (.int .i64 (x : Int)) (.int .i64 c)).run Tryz.prog w = .ok () w' ∧ HMap w' b (N + 1) ∧ w.grownBy w' (some b) := by
  obtain ⟨D, ho⟩ := h
  obtain ⟨w', hrun, ho', hg⟩ := ho.update keyedN Tryz.underlying148 hN (keyI hx) (plainElem_int Tryz.underlying3 hc)
  exact ⟨w', hrun, ⟨_, ho'⟩, hg⟩
theorem HMap.del (h : HMap w b N) {x : Nat} (hx : x < 9000000000) :
    ∃ w', (Builtin.delete_ #[148, 3] 0 #[.map (some b), .int .i64 (x : Int)]).run Tryz.prog w = .ok (.tuple #[]) w' ∧ HMap w' b N ∧ w.grownBy w' (some b) := by
  obtain ⟨D, ho⟩ := h
  obtain ⟨w', hrun, ho', hg⟩ := ho.drop keyedN Tryz.underlying148 (keyI hx) 0
  exact ⟨w', hrun, ⟨_, ho'⟩, hg.grown⟩
theorem HMap.new (w : World) : HMap (w.alloc (.map #[] 0)) w.heap.size 0 := ⟨_, World.ownsMap_made w _ _ _⟩
theorem HMap.chg {Z : Fp} (h : HMap w b N) (hc : Chg Z w w') (hb : ¬ Z b) : HMap w' b N := by
  obtain ⟨D, ho⟩ := h
  exact ⟨D, hc.map ho hb⟩
theorem HMap.mono {N' : Nat} (h : HMap w b N) (hN : N ≤ N') : HMap w b N' := by
  obtain ⟨D, ho⟩ := h
  exact ⟨D, ho.mono hN⟩
theorem HMap.lt (h : HMap w b N) : b < w.heap.size := by
  obtain ⟨D, ho⟩ := h
  exact ho.lt
end
end Go.Proofs.YtpihhlbfpbngaaaGreatDoor
namespace Go.Proofs.YtpihhlbfpbngaaaGreatDoor
open Go.RowKit
set_option maxRecDepth 100000 in
set_option maxHeartbeats 1000000 in
theorem size_dev {a : DA} {L T : Nat} {w : World} {S : Fp} {cur : Nat → Nat} {F : Nat} (h : Dev a L T w S cur F) :
    Calls Tryz.prog 308 #[.pointer (some ⟨a.th 0, 0, none⟩)] w fun e w' => e = .returned (.int .u64 ((L : Int) * 64)) ∧ w' = w := by
  obtain ⟨ls, exe, per, cs, lsC, hdc, hnt⟩ := h
  have hL := hdc.hL
  obtain ⟨f0, f2, _, _, f4⟩ := hdc.facts (j := 0) (by omega)
  have u1 : IntKind.u64.wrap ((L : Int) * 64) = (L : Int) * 64 := by rw [IntKind.wrap_u64]; omega
  clear hdc hnt
  go_enter Tryz.func308, Tryz.ntmps308
  go_wp2_with go_in
  go_ret
  exact ⟨rfl, rfl⟩
set_option maxRecDepth 100000 in
set_option maxHeartbeats 2000000 in
theorem allowedR_any {a : DA} {L T : Nat} {w : World} {S : Fp} {cur : Nat → Nat} {F : Nat} (h : Dev a L T w S cur F) (g s n : Nat) (hB : Blk w g 247 (logCells a s n)) (hs : s + n ≤ L) (o : Nat) (ho : OffOk L s n o) :
    Calls Tryz.prog 163 #[.pointer (some ⟨g, 0, none⟩), .int .u64 (o : Int)] w fun e w' => e = .returned (.bool true) ∧ Below w.heap.size w w' := by
  have c0 : w.cell? ⟨g, 0, none⟩ = some (memV a) := hB.cell 0
  have c1 : w.cell? ⟨g, 1, none⟩ = some (.int .u64 ((64 * s : Nat) : Int)) := hB.cell 1
  have c2 : w.cell? ⟨g, 2, none⟩ = some (.int .u64 ((64 * n : Nat) : Int)) := hB.cell 2
  have hmS := methSize (some ⟨a.th 0, 0, none⟩)
  have HSz : Hid (∀ n, Calls Tryz.prog 308 #[.pointer (some ⟨a.th 0, 0, none⟩)] (w.drewN n) fun e w' => e = .returned (.int .u64 ((L : Int) * 64)) ∧ w' = w.drewN n) := Lib.hid (fun n => size_dev (h.below (below_drewN (Below.refl _ w) n)))
  have hL : L ≤ 4096 := by obtain ⟨ls, exe, per, cs, lsC, hdc, hnt⟩ := h; exact hdc.hL
  obtain ⟨o1, o2, o3⟩ := ho
  have HB0 : Hid (∀ n, Below w.heap.size w (w.drewN n)) := Lib.hid (fun n => below_drewN (Below.refl _ w) n)
  have e1 : ((o : Int) % 8 == 0) = true := by rw [beq_iff_eq]; omega
  have e1' : (o : Int) % 8 = 0 := by omega
  have u1 : IntKind.u64.wrap ((L : Int) * 64) = (L : Int) * 64 := by rw [IntKind.wrap_u64]; omega
  have e2 : decide ((o : Int) < (L : Int) * 64) = true := decide_eq_true (by omega)
  clear h hB
  unfold memV at *
  by_cases hlt : o < 64 * s
  · have e3 : decide ((o : Int) < ((64 * s : Nat) : Int)) = true := decide_eq_true (by omega)
    have e3' : decide (o < 64 * s) = true := decide_eq_true hlt
    generalize 64 * s = z at *
    generalize 64 * n = y at *
    go_enter Tryz.func163, Tryz.ntmps163
    go_wp2
    go_quiet ((go_at_call 308; exact Calls.quiet_of_same (HSz.out _)))
    go_wp2
    go_ret
    exact ⟨rfl, HB0.out _⟩
  · have e3 : decide ((o : Int) < ((64 * s : Nat) : Int)) = false := decide_eq_false (by omega)
    have e3' : decide (o < 64 * s) = false := decide_eq_false hlt
    have u4 : IntKind.u64.wrap ((o : Int) - ((64 * s : Nat) : Int)) = (o : Int) - ((64 * s : Nat) : Int) := by rw [IntKind.wrap_u64]; omega
    have e4 : decide (((64 * n : Nat) : Int) ≤ (o : Int) - ((64 * s : Nat) : Int)) = true := decide_eq_true (by omega)
    generalize 64 * s = z at *
    generalize 64 * n = y at *
    go_enter Tryz.func163, Tryz.ntmps163
    go_wp2
    go_quiet ((go_at_call 308; exact Calls.quiet_of_same (HSz.out _)))
    go_wp2
    go_ret
    exact ⟨rfl, HB0.out _⟩
end Go.Proofs.YtpihhlbfpbngaaaGreatDoor
namespace Go.Proofs.YtpihhlbfpbngaaaGreatDoor
open Go.RowKit
def freeW (o : Nat) : Nat := sealW (3305111552 + o)
theorem own_or (o : Nat) (ho : o < 65536) : bits .or .u32 (o : Int) 3305111552 = ((3305111552 + o : Nat) : Int) := by
  have h := u32_or_nat o 3305111552 (by omega) (by omega)
  rw [show ((3305111552 : Nat) : Int) = 3305111552 from rfl] at h
  rw [h]
  congr 1
  have := Nat.two_pow_add_eq_or_of_lt (i := 16) (b := o) (by omega) 50432
  rw [show 2 ^ 16 * 50432 = 3305111552 from rfl] at this
  rw [Nat.or_comm, ← this]
set_option maxRecDepth 100000 in
set_option maxHeartbeats 4000000 in
theorem wordFree_any (o : Nat) (ho : o < 65536) (w : World) (ht : Tab w) :
    Calls Tryz.prog 282 #[.agg #[.int .i64 (-1), .int .i64 (-1), .int .u16 (o : Int)]] w fun e w' => e = .returned (.int .u64 (freeW o : Int)) ∧ Below w.heap.size w w' := by
  have HB0 : Hid (∀ x, Below w.heap.size w (w.alloc x)) := fun x => (Below.refl _ _).alloc (Nat.le_refl _) x
  have HS := Lib.hid (fun x => seal_any (3305111552 + o) (by omega) (w.alloc x) (ht.below (HB0.out x)))
  have e1 := own_or o ho
  have u1 : IntKind.u32.wrap (o : Int) = (o : Int) := by rw [IntKind.wrap_u32']; omega
  unfold freeW
  generalize 3305111552 + o = z at *
  clear ht
  go_enter Tryz.func282, Tryz.ntmps282
  go_wp2_with (go_at_call 313; refine (HS.out _).mono ?_; rintro e w1 ⟨rfl, hb1⟩; have HB1 := Lib.hid ((HB0.out _).trans (hb1.mono (by simp))); clear hb1)
  go_ret
  exact ⟨rfl, HB1.out⟩
def RetProgOk (w : World) (P : List Ins → Prop) (e : Ending) (w' : World) : Prop := ∃ A m c p, e = .returned (.tuple #[.slice A m c, .int .i64 0]) ∧ P p ∧ w'.ownsRow w.heap.size 237 3 (.slice A m c) m (insCells p) ∧ Below w.heap.size w w'
set_option maxRecDepth 100000 in
set_option maxHeartbeats 4000000 in
theorem clear_any (c o : Nat) (hc : c ≤ 4064) (ho : o < 65536) (h0 : o ≠ 0) (w : World) (ht : Tab w) :
    Calls Tryz.prog 229 #[.int .i64 (c : Int), .int .u16 (o : Int)] w (RetProgOk w (IsStores [(64 * c, freeW o)])) := by
  have HT := Lib.hid ht
  have d1 : decide ((0 : Int) ≤ (c : Int)) = true := decide_eq_true (by omega)
  have d2 : decide ((c : Int) ≤ 4064) = true := decide_eq_true (by omega)
  have d3 : ((o : Int) == 0) = false := by rw [beq_eq_false_iff_ne]; omega
  have u1 : IntKind.u64.wrap (c : Int) = (c : Int) := by rw [IntKind.wrap_u64]; omega
  have hfl : 64 * c < 18446744073709551616 := by omega
  have u2 : IntKind.u64.wrap ((c : Int) * 64) = ((64 * c : Nat) : Int) := by rw [IntKind.wrap_u64]; omega
  generalize 64 * c = z at *
  clear ht
  go_enter Tryz.func229, Tryz.ntmps229
  go_wp2
  have HC := Lib.hid (Blk.new w 260 #[.int .i64 (-1), .int .i64 (-1), .int .u16 (o : Int)])
  have HB0 : Hid (Below w.heap.size w (w.alloc (.cells #[.int .i64 (-1), .int .i64 (-1), .int .u16 (o : Int)] 260))) := (Below.refl _ _).alloc (Nat.le_refl _) _
  generalize w.alloc (.cells #[.int .i64 (-1), .int .i64 (-1), .int .u16 (o : Int)] 260) = W at *
  have HBD : Hid (Below W.heap.size W W.drew) := (Below.refl _ _).drew
  refine wp_region_script (fun w' => Below W.heap.size W w') 4 [(true, 0), (true, 2), (false, 1), (false, 3)] (by kernel_rfl) (by kernel_rfl) HBD.out ?_
  refine wpScript_take (.int .i64 (c : Int)) (by rfl) (by rfl) (fun w' hS => ?_) ?_
  · go_simp
  simp only [zA, zB, Act.put, zD, zE, zF]
  refine wpScript_take (.agg #[.int .i64 (-1), .int .i64 (-1), .int .u16 (o : Int)]) (by rfl) (by rfl) (fun w' hS => ?_) ?_
  · have f0 : w'.cell? ⟨w.heap.size, 0, none⟩ = some (.int .i64 (-1)) := (HC.out.below hS HC.out.lt).cell 0
    have f1 : w'.cell? ⟨w.heap.size, 1, none⟩ = some (.int .i64 (-1)) := (HC.out.below hS HC.out.lt).cell 1
    have f2 : w'.cell? ⟨w.heap.size, 2, none⟩ = some (.int .u16 (o : Int)) := (HC.out.below hS HC.out.lt).cell 2
    go_simp
  simp only [zA, zB, zC, Act.put, zD, zE, zF]
  refine wpScript_do (by rfl) ?_
  go_wp2
  refine ⟨HBD.out, ?_⟩
  refine wpScript_do (by rfl) ?_
  go_wp2_with fail
  refine (wordFree_any o ho W.drew ((HT.out.below HB0.out).below HBD.out)).mono ?_
  rintro e w1 ⟨rfl, hb1⟩
  have HB1 := Lib.hid (HBD.out.trans (hb1.mono HBD.out.size))
  have HS := Lib.hid (stores_small _ 1 1 _ _ (one_reads w1 z (freeW o)) (by omega) (by omega) (fun e he => by simp at he; subst he; exact hfl))
  have HB2 : Hid (∀ x, Below w.heap.size w (w1.alloc x)) := fun x => ((HB0.out.trans (HB1.out.mono HB0.out.size)).alloc (Nat.le_trans HB0.out.size HB1.out.size) x)
  generalize freeW o = y at *
  clear hb1
  go_wp2_with fail
  refine ⟨HB1.out, ?_⟩
  show wpList ..
  simp only [List.drop_succ_cons, List.drop_zero]
  go_wp2_with (go_at_call 71; refine HS.out.mono ?_; intro e w2 h1; have h2 := RetProg.back (HB2.out _) h1; obtain ⟨A1, m1, c1, p1, rfl, hp1, ho1, hb1⟩ := h2; have HP1 := Lib.hid hp1; have HO1 := Lib.hid ho1; have HB1 := Lib.hid hb1; clear h1 hp1 ho1 hb1)
  refine NoPanic.normal ?_
  go_wp2
  go_ret2
  exact ⟨_, _, _, _, rfl, HP1.out, HO1.out, HB1.out⟩
end Go.Proofs.YtpihhlbfpbngaaaGreatDoor
namespace Go.Proofs.YtpihhlbfpbngaaaGreatDoor
open Go.RowKit
theorem made_at (z : Array Value) (n i : Nat) (h : i < n) : (madeCells z n)[i]? = some z[i % z.size]! := by
  unfold madeCells
  rw [Array.getElem?_map, Array.getElem?_range, if_pos h]
  rfl
theorem made_line (L i : Nat) (hi : i < L) : (madeCells (Value.agg #[.int .u64 0, .slice none 0 0]).cells (L * 2))[i * 2]? = some (.int .u64 0) ∧ (madeCells (Value.agg #[.int .u64 0, .slice none 0 0]).cells (L * 2))[i * 2 + 1]? = some (.slice none 0 0) := by
  have hz : (Value.agg #[.int .u64 0, .slice none 0 0]).cells = #[.int .u64 0, .slice none 0 0] := rfl
  rw [hz, made_at _ _ _ (by omega), made_at _ _ _ (by omega)]
  have e1 : i * 2 % (#[Value.int .u64 0, Value.slice none 0 0] : Array Value).size = 0 := by show i * 2 % 2 = 0; omega
  have e2 : (i * 2 + 1) % (#[Value.int .u64 0, Value.slice none 0 0] : Array Value).size = 1 := by show (i * 2 + 1) % 2 = 1; omega
  rw [e1, e2]
  exact ⟨rfl, rfl⟩
def RetNew (w : World) (L : Nat) (e : Ending) (w' : World) : Prop := ∃ (a : DA) (S : Fp), e = .returned (.tuple #[.pointer (some ⟨a.d, 0, none⟩), .int .i64 0]) ∧ Dev a L 0 w' S (fun _ => 0) 0 ∧ (∀ k, S k → w.heap.size ≤ k) ∧ Below w.heap.size w w'
theorem dev_cells {dc : Array Value} {a : DA} {L : Nat} (hs : dc.size = 15) (e0 : dc[0]? = some (.slice (some ⟨a.pb, 0, none⟩) (8 * L) (8 * L))) (e1 : dc[1]? = some (.slice (some ⟨a.cb, 0, none⟩) (8 * L) a.cc)) (e2 : dc[2]? = some (.slice (some ⟨a.lb, 0, none⟩) L L)) (e3 : dc[11]? = some (.bool false)) (e4 : dc[12]? = some (.bool false)) (e5 : dc[13]? = some (.int .i64 0)) (e6 : dc[14]? = some (.int .u64 0))
    (e7 : ∀ j, j < 8 → dc[3 + j]? = some (.pointer (some ⟨a.th j, 0, none⟩))) : dc = devCells a L 0 := by
  apply Array.ext_getElem?
  intro i
  by_cases hi : i < 15
  · rcases (show i = 0 ∨ i = 1 ∨ i = 2 ∨ i = 3 ∨ i = 4 ∨ i = 5 ∨ i = 6 ∨ i = 7 ∨ i = 8 ∨ i = 9 ∨ i = 10 ∨ i = 11 ∨ i = 12 ∨ i = 13 ∨ i = 14 by omega) with rfl | rfl | rfl | rfl | rfl | rfl | rfl | rfl | rfl | rfl | rfl | rfl | rfl | rfl | rfl
    · exact e0
    · exact e1
    · exact e2
    · exact e7 0 (by omega)
    · exact e7 1 (by omega)
    · exact e7 2 (by omega)
    · exact e7 3 (by omega)
    · exact e7 4 (by omega)
    · exact e7 5 (by omega)
    · exact e7 6 (by omega)
    · exact e7 7 (by omega)
    · exact e3
    · exact e4
    · exact e5
    · exact e6
  · rw [Array.getElem?_eq_none (by omega), Array.getElem?_eq_none (by show 15 ≤ i; omega)]
theorem dev_new {w w' : World} {L d cb cc lb : Nat} {per cs ls : Array Value} {th nt : Nat → Nat} (hL : L ≤ 4096) (hp : per = madeCells #[.int .u64 0] (8 * L)) (H : OfI (w.alloc (.cells per 26)) w' w.heap.size L d cb cc lb cs ls th nt 8) (h1 : cs.size = cc) (h2 : 8 * L ≤ cc) (h3 : cc ≤ 9223372036854775807)
    (hru : RowU cs (List.replicate (8 * L) 0)) (hls : ls = madeCells (Value.agg #[.int .u64 0, .slice none 0 0]).cells (L * 2)) (g1 : (w.alloc (.cells per 26)).heap.size ≤ cb) (g2 : (w.alloc (.cells per 26)).heap.size ≤ lb) :
    RetNew w L (.returned (.tuple #[.pointer (some ⟨d, 0, none⟩), .int .i64 0])) w' := by
  obtain ⟨⟨dc, hd, hds, e0, e1, e2, e3, e4, e5, e6, e7⟩, hcu, hli, hth, hmp, hbl, hgd, hgt⟩ := H
  have hsz : (w.alloc (.cells per 26)).heap.size = w.heap.size + 1 := by simp
  rw [hsz] at g1 g2 hgd hgt
  have hbw : Below w.heap.size w w' := ((Below.refl w.heap.size w).alloc (Nat.le_refl _) _).trans (hbl.mono (by omega))
  have hpb : Blk w' w.heap.size 26 per := (Blk.new w 26 per).below hbl (Blk.new w 26 per).lt
  have hdc := dev_cells (a := ⟨d, w.heap.size, cb, lb, nt, th, cc⟩) hds e0 e1 e2 e3 e4 e5 e6 e7
  subst hdc
  have hmz := hmp (by omega)
  have hml := hmz.lt
  refine ⟨⟨d, w.heap.size, cb, lb, nt, th, cc⟩, fun k => w.heap.size ≤ k ∧ k < w'.heap.size, rfl, ⟨⟨fun _ => 0, fun _ => 0, fun _ => .slice none 0 0, fun _ => []⟩, 0, per, cs, ls, ?_, ⟨[], hmz, fun p hp => by cases hp⟩⟩, fun k hk => hk.1, hbw⟩
  exact {
    dev := hd
    perB := hpb
    perS := by rw [hp, size_madeCells]
    perI := fun i hi => ⟨0, by rw [hp, made_at _ _ _ hi]; congr 1; show (#[Value.int .u64 0] : Array Value)[i % 1]! = _; rw [Nat.mod_one]; rfl⟩
    curB := hcu
    curS := h1
    curL := h2
    curM := h3
    curI := fun i hi => by have := hru.2 i (by simpa using hi); simpa using this
    linB := hli
    linS := by rw [hls, size_madeCells]; omega
    linD := fun i hi => by rw [hls]; exact (made_line L i hi).1
    linH := fun i hi => by rw [hls]; exact (made_line L i hi).2
    own := fun i hi => World.ownsRow_nil _ _ _ _
    ok := fun i hi k hk => absurd hk (by simp)
    few := fun i hi => Nat.le_refl _
    apart := fun i j g hi hj h => by cases h
    thr := hth
    sd := ⟨by show w.heap.size ≤ d; omega, hd.lt⟩
    sp := ⟨Nat.le_refl _, hpb.lt⟩
    sc := ⟨by show w.heap.size ≤ cb; omega, hcu.lt⟩
    sl := ⟨by show w.heap.size ≤ lb; omega, hli.lt⟩
    sn := ⟨by have := (hgt 0 (by omega)).2; show w.heap.size ≤ nt 0; omega, hml⟩
    st := fun j hj => ⟨by have := (hgt j hj).1; show w.heap.size ≤ th j; omega, (hth j hj).lt⟩
    sh := fun i g hi h => by cases h
    lt := fun k hk => hk.2
    ne := by show w.heap.size ≠ cb; omega
    hL := hL
    hT := by omega }
set_option maxRecDepth 100000 in
set_option maxHeartbeats 4000000 in
theorem new_any (L : Nat) (h0 : 0 < L) (hL : L ≤ 4096) (w : World) : Calls Tryz.prog 54 #[.int .i64 (L : Int)] w (RetNew w L) := by
  obtain ⟨j0, hj0, hk0, hk1, hk2⟩ := info_parts infoU64
  have hmk : ∀ W : World, (Instr.makeSlice 46 (.int .i64 ((8 * L : Nat) : Int)) (.int .i64 ((8 * L : Nat) : Int))).run Tryz.prog W = .ok (.slice (some ⟨W.heap.size, 0, none⟩) (8 * L) (8 * L)) (W.alloc (.cells (madeCells #[.int .u64 0] (8 * L)) 26)) := fun W => by
    have h := run_makeSlice (P := Tryz.prog) W 46 26 j0 (.int .u64 0) Tryz.underlying46 hj0 hk0 .i64 .i64 ((8 * L : Nat) : Int) ((8 * L : Nat) : Int) (by omega) (by omega) (by rw [hk1]; omega) (by rw [hk2]; omega) (by omega)
    rw [hk1, Int.toNat_natCast, Nat.mul_one] at h
    exact h
  have HO := Lib.hid (of_any w.heap.size L hL h0 (w.alloc (.cells (madeCells #[.int .u64 0] (8 * L)) 26)) (by
    rw [show (w.alloc (.cells (madeCells #[.int .u64 0] (8 * L)) 26)).heap.size = w.heap.size + 1 by simp]
    refine row_reads_at w _ rfl _ (8 * L) 1 26 _ ?_ ?_
    · refine congrArg (fun x => Obj.cells x 26) (Array.ext' ?_)
      rw [toList_madeCells_one]
      simp [uCells]
    · simp [uCells]))
  have HN : Hid (∀ e w', RetOf (w.alloc (.cells (madeCells #[.int .u64 0] (8 * L)) 26)) w.heap.size L e w' → ∃ d : Nat, e = .returned (.pointer (some ⟨d, 0, none⟩)) ∧ RetNew w L (.returned (.tuple #[.pointer (some ⟨d, 0, none⟩), .int .i64 0])) w') := by
    rintro e w1 ⟨d, cb, cc, lb, cs, ls, th, nt, rfl, h1, h2, h3, h4, h5, h6, h7, h8⟩
    exact ⟨d, rfl, dev_new hL rfl h1 h2 h3 h4 h5 h6 h7 h8⟩
  have e1 : decide ((L : Int) < 1) = false := decide_eq_false (by omega)
  have e2 : decide ((4096 : Int) < (L : Int)) = false := decide_eq_false (by omega)
  have u1 : IntKind.i64.wrap ((L : Int) * 8) = ((8 * L : Nat) : Int) := by rw [IntKind.wrap_i64]; omega
  have u2 : (L : Int) * 8 = ((8 * L : Nat) : Int) := by omega
  generalize madeCells #[.int .u64 0] (8 * L) = M at *
  generalize 8 * L = N at *
  go_enter Tryz.func54, Tryz.ntmps54
  go_wp2_with (go_at_call 131; refine HO.out.mono ?_; intro e w1 h1; obtain ⟨d, rfl, h2⟩ := HN.out e w1 h1; have HZ := Lib.hid h2; clear h1 h2)
  go_ret2
  exact HZ.out
end Go.Proofs.YtpihhlbfpbngaaaGreatDoor
namespace Go.Proofs.YtpihhlbfpbngaaaGreatDoor
open Go.RowKit Go.Maps
theorem own_off {w : World} {S : Fp} {base : Nat} {e : TypeId} {size m c n : Nat} {A : Option Addr} {xs : List Value} (ho : w.ownsRow base e size (.slice A m c) n xs) (hb : ∀ k, S k → k < base) : ∀ ad, A = some ad → ¬ S ad.block := fun ad had hs => by
  rcases ho.2 with ⟨hv, _⟩ | ⟨g, cap, cs, hv, hge, _⟩
  · injection hv with h1; rw [h1] at had; cases had
  · injection hv with h1
    rw [h1] at had
    injection had with h2
    subst h2
    have := hb _ hs
    simp at this
    omega
theorem wrS_out (s : Nat) : ∀ (l : List (Nat × Nat)) (n k : Nat) (cur : Nat → Nat), (k < 8 * s + 8 + 2 * n ∨ 8 * s + 8 + 2 * (n + l.length) ≤ k) → wrS cur (entW (64 * s) n l) k = cur k
  | [], n, k, cur, _ => rfl
  | e :: l, n, k, cur, h => by
    simp only [List.length_cons] at h
    show wrS (upd (upd cur ((64 * s + 64 + 16 * n) / 8) e.1) ((64 * s + 64 + 16 * n + 8) / 8) e.2) (entW (64 * s) (n + 1) l) k = _
    rw [wrS_out s l (n + 1) k _ (by omega)]
    simp only [upd]
    rw [if_neg (by omega), if_neg (by omega)]
end Go.Proofs.YtpihhlbfpbngaaaGreatDoor
namespace Go.Proofs.YtpihhlbfpbngaaaGreatDoor
open Go.RowKit
def RetSum32 (w : World) (e : Ending) (w' : World) : Prop := ∃ v : Nat, v < 4294967296 ∧ e = .returned (.int .u32 (v : Int)) ∧ w = w'
set_option maxRecDepth 100000 in
set_option maxHeartbeats 2000000 in
theorem words_any (A : Option Addr) (n cap B : Nat) (xs : List Nat) (w : World) (hrd : Reads w B 1 A n (uCells xs)) (hv : ∀ x ∈ xs, x < 18446744073709551616) (hn : n ≤ 1000000) (ht : Tab w) :
    Calls Tryz.prog 34 #[.slice A n cap] w (RetSum32 w) := by
  have HR := Lib.hid hrd
  have HT := Lib.hid ht
  have HV : Hid (∀ k (hk : k < xs.length), xs[k] < 18446744073709551616) := Lib.hid (fun k hk => hv _ (List.getElem_mem hk))
  have uc : IntKind.u32.signed = false := rfl
  clear hrd hv ht
  go_enter Tryz.func34, Tryz.ntmps34
  go_wp2
  go_loopw [3, 8] (fun r i wr => ∃ k s : Nat, k ≤ n ∧ s < 4294967296 ∧ i = .int .i64 (k : Int) ∧ r = .int .u32 (s : Int) ∧ Hid (w = wr)) (fun _ i _ => n - (Go.RowKit.intOf i).toNat)
  case atStart => exact ⟨0, 4294967295, Nat.zero_le _, by omega, by go_num, by go_num, Lib.hid rfl⟩
  case round =>
    obtain ⟨k, s, hk, hs, rfl, rfl, hw⟩ := hrel
    have hw := hw.out
    subst hw
    by_cases hlt : k < n
    · obtain ⟨hkl, b, off, hA, hbB, q0⟩ := u_facts HR.out hlt
      subst hA
      have hx := HV.out k hkl
      have hz5 : (0 : Int) ≤ (k : Int) := by omega
      have hz6 : (k : Int) < (n : Int) := by omega
      generalize xs[k] = x at *
      go_wp2
      clear q0
      go_loopw [3, 5, 12] (fun r y i wr => ∃ j s z : Nat, j ≤ 8 ∧ s < 4294967296 ∧ z < 18446744073709551616 ∧ i = .int .i64 (j : Int) ∧ r = .int .u32 (s : Int) ∧ y = .int .u64 (z : Int) ∧ Hid (w = wr)) (fun _ _ i _ => 8 - (Go.RowKit.intOf i).toNat)
      case atStart => exact ⟨0, s, x, by omega, hs, hx, by go_num, rfl, rfl, Lib.hid rfl⟩
      case round =>
        clear hs hx
        obtain ⟨j, s, z, hj, hs, hz, rfl, rfl, rfl, hw⟩ := hrel
        have hw := hw.out
        subst hw
        by_cases h8 : j < 8
        · have e1 : IntKind.u8.wrap (z : Int) = ((z % 256 : Nat) : Int) := by rw [IntKind.wrap_u8]; omega
          have HS := Lib.hid (step_any s (z % 256) hs (by omega) w HT.out)
          have hst := Crc.step_lt hs (show z % 256 < 256 by omega)
          generalize z % 256 = by_ at *
          generalize Crc.step s by_ = s2 at *
          have hz8 : (z : Int) / 256 = ((z / 256 : Nat) : Int) := by omega
          have hz9 : z / 256 < 18446744073709551616 := by omega
          generalize z / 256 = z2 at *
          go_wp2_with fail
          refine HS.out.mono ?_
          rintro e w1 ⟨rfl, rfl⟩
          go_wp2
          go_roundw
          case rel => exact ⟨j + 1, s2, z2, by omega, hst, hz9, by go_num, rfl, rfl, Lib.hid trivial⟩
          case measure => simp [Go.RowKit.intOf]; omega
        · have h8' : j = 8 := by omega
          subst h8'
          go_wp2
          go_roundw
          case rel =>
            first
              | exact ⟨k + 1, s, by omega, hs, by go_num, rfl, Lib.hid trivial⟩
              | (repeat apply Exists.intro
                 refine ⟨?_, trivial⟩
                 exact ⟨k + 1, s, by omega, hs, by go_num, rfl, Lib.hid trivial⟩)
              | (refine ⟨_, ?_⟩
                 exact ⟨k + 1, s, by omega, hs, by go_num, rfl, Lib.hid trivial⟩)
          case measure => simp [Go.RowKit.intOf]; omega
    · have hkn : k = n := by omega
      subst hkn
      have hx := u32_not s hs
      have hlt2 : s ^^^ Crc.ones < 4294967296 := Crc.xor_lt hs (by decide)
      generalize s ^^^ Crc.ones = v at *
      go_wp2
      go_ret
      exact ⟨v, hlt2, by first | rfl | (rw [hx]), rfl⟩
end Go.Proofs.YtpihhlbfpbngaaaGreatDoor
namespace Go.Proofs.YtpihhlbfpbngaaaGreatDoor
open Go.RowKit
def wb (x j : Nat) : List Nat := (List.range j).map fun i => x / 256 ^ i % 256
theorem wb_succ (x j : Nat) : wb x (j + 1) = wb x j ++ [x / 256 ^ j % 256] := by simp [wb, List.range_succ]
def wsB (xs : List Nat) : List Nat := xs.flatMap fun x => wb x 8
def sumW (xs : List Nat) : Nat := Crc.sum (wsB xs)
theorem wb_lt {x j : Nat} : ∀ b ∈ wb x j, b < 256 := fun b hb => by
  obtain ⟨i, _, rfl⟩ := List.mem_map.1 hb
  omega
theorem wsB_lt {xs : List Nat} : ∀ b ∈ wsB xs, b < 256 := fun b hb => by
  obtain ⟨x, _, hx⟩ := List.mem_flatMap.1 hb
  exact wb_lt b hx
theorem sumW_lt (xs : List Nat) : sumW xs < 4294967296 := Crc.sum_lt wsB_lt
theorem wsB_snoc (xs : List Nat) (x : Nat) : wsB (xs ++ [x]) = wsB xs ++ wb x 8 := by simp [wsB]
set_option maxRecDepth 100000 in
set_option maxHeartbeats 2000000 in
theorem wordsX_any (A : Option Addr) (n cap B : Nat) (xs : List Nat) (w : World) (hrd : Reads w B 1 A n (uCells xs)) (hv : ∀ x ∈ xs, x < 18446744073709551616) (hn : n ≤ 1000000) (ht : Tab w) :
    Calls Tryz.prog 34 #[.slice A n cap] w fun e w' => e = .returned (.int .u32 (sumW xs : Int)) ∧ w = w' := by
  have HR := Lib.hid hrd
  have HT := Lib.hid ht
  have HV : Hid (∀ k (hk : k < xs.length), xs[k] < 18446744073709551616) := Lib.hid (fun k hk => hv _ (List.getElem_mem hk))
  have HLn := Lib.hid (show xs.length = n by have := hrd.1; simp [uCells] at this; omega)
  have uc : IntKind.u32.signed = false := rfl
  clear hrd hv ht
  go_enter Tryz.func34, Tryz.ntmps34
  go_wp2
  go_loopw [3, 8] (fun r i wr => ∃ k s : Nat, k ≤ n ∧ s < 4294967296 ∧ i = .int .i64 (k : Int) ∧ r = .int .u32 (s : Int) ∧ Hid (s = Crc.reg Crc.ones (wsB (xs.take k))) ∧ Hid (w = wr)) (fun _ i _ => n - (Go.RowKit.intOf i).toNat)
  case atStart => exact ⟨0, 4294967295, Nat.zero_le _, by omega, by go_num, by go_num, Lib.hid rfl, Lib.hid rfl⟩
  case round =>
    obtain ⟨k, s, hk, hs, rfl, rfl, hse, hw⟩ := hrel
    have hw := hw.out
    subst hw
    by_cases hlt : k < n
    · obtain ⟨hkl, b, off, hA, hbB, q0⟩ := u_facts HR.out hlt
      subst hA
      have hx := HV.out k hkl
      have HTK : Hid (Crc.reg Crc.ones (wsB (xs.take (k + 1))) = Crc.reg s (wb xs[k] 8)) := Lib.hid (by rw [List.take_succ_eq_append_getElem hkl, wsB_snoc, Crc.reg_append, ← hse.out])
      have hz5 : (0 : Int) ≤ (k : Int) := by omega
      have hz6 : (k : Int) < (n : Int) := by omega
      generalize xs[k] = x at *
      go_wp2
      clear q0
      go_loopw [3, 5, 12] (fun r y i wr => ∃ j s1 z : Nat, j ≤ 8 ∧ s1 < 4294967296 ∧ z < 18446744073709551616 ∧ i = .int .i64 (j : Int) ∧ r = .int .u32 (s1 : Int) ∧ y = .int .u64 (z : Int) ∧ Hid (s1 = Crc.reg s (wb x j)) ∧ Hid (z = x / 256 ^ j) ∧ Hid (w = wr)) (fun _ _ i _ => 8 - (Go.RowKit.intOf i).toNat)
      case atStart => exact ⟨0, s, x, by omega, hs, hx, by go_num, rfl, rfl, Lib.hid rfl, Lib.hid (by simp), Lib.hid rfl⟩
      case round =>
        clear hx
        obtain ⟨j, s1, z, hj, hs1, hz, rfl, rfl, rfl, hs1e, hze, hw⟩ := hrel
        have hw := hw.out
        subst hw
        by_cases h8 : j < 8
        · have e1 : IntKind.u8.wrap (z : Int) = ((z % 256 : Nat) : Int) := by rw [IntKind.wrap_u8]; omega
          have HS := Lib.hid (step_any s1 (z % 256) hs1 (by omega) w HT.out)
          have hst := Crc.step_lt hs1 (show z % 256 < 256 by omega)
          have HN : Hid (Crc.step s1 (z % 256) = Crc.reg s (wb x (j + 1))) := Lib.hid (by rw [wb_succ, Crc.reg_snoc, ← hs1e.out, ← hze.out])
          have HZ : Hid (z / 256 = x / 256 ^ (j + 1)) := Lib.hid (by rw [hze.out, Nat.div_div_eq_div_mul, Nat.pow_succ])
          generalize z % 256 = by_ at *
          generalize Crc.step s1 by_ = s2 at *
          have hz8 : (z : Int) / 256 = ((z / 256 : Nat) : Int) := by omega
          have hz9 : z / 256 < 18446744073709551616 := by omega
          generalize z / 256 = z2 at *
          clear hse hs1e hze HTK
          go_wp2_with fail
          refine HS.out.mono ?_
          rintro e w1 ⟨rfl, rfl⟩
          go_wp2
          go_roundw
          case rel => exact ⟨j + 1, s2, z2, by omega, hst, hz9, by go_num, rfl, rfl, HN, HZ, Lib.hid trivial⟩
          case measure => simp [Go.RowKit.intOf]; omega
        · have h8' : j = 8 := by omega
          subst h8'
          have HQ : Hid (s1 = Crc.reg Crc.ones (wsB (xs.take (k + 1)))) := Lib.hid (by rw [HTK.out]; exact hs1e.out)
          clear hse hs1e hze HTK hs
          go_wp2
          go_roundw
          case rel =>
            first
              | exact ⟨k + 1, s1, by omega, hs1, by go_num, rfl, HQ, Lib.hid trivial⟩
              | (repeat apply Exists.intro
                 refine ⟨?_, trivial⟩
                 exact ⟨k + 1, s1, by omega, hs1, by go_num, rfl, HQ, Lib.hid trivial⟩)
              | (refine ⟨_, ?_⟩
                 exact ⟨k + 1, s1, by omega, hs1, by go_num, rfl, HQ, Lib.hid trivial⟩)
          case measure => simp [Go.RowKit.intOf]; omega
    · have hkn : k = n := by omega
      subst hkn
      have hx := u32_not s hs
      have HQ : Hid (s ^^^ Crc.ones = sumW xs) := Lib.hid (by
        rw [hse.out, List.take_of_length_le (by rw [HLn.out]; exact Nat.le_refl _)]
        show _ = Crc.reg (0 ^^^ Crc.ones) _ ^^^ Crc.ones
        rw [Nat.zero_xor])
      clear hse HLn
      generalize s ^^^ Crc.ones = v at *
      go_wp2
      go_ret
      exact ⟨by rw [← HQ.out]; first | rfl | (rw [hx]), rfl⟩
end Go.Proofs.YtpihhlbfpbngaaaGreatDoor
