/- The walks and laws that the claim leans on, part 31. -/
import Derived.Test.YtnlokpakiambaaaGreatDoorJba
import Derived.Test.YtnlokpakiambaaaGreatDoorJbc
set_option maxRecDepth 100000
set_option maxHeartbeats 16000000
namespace Go.Proofs.YtnlokpakiambaaaGreatDoor
open Go.Lib (hid)
section
open Go.RowKit Go.Maps Go.Shelf
def rdG (s : Nat) (cur : Nat → Nat) (ws : List (Nat × Nat)) (cm : Nat) : Nat → Nat := if ws = [] then cur else wrS (wrS (wrS (wrS cur (entW (64 * s) 0 ws)) [(64 * s, cm)]) ws) [(64 * s, 0)]
theorem wrS_oneG (cur : Nat → Nat) (o v i : Nat) : wrS cur [(o, v)] i = if i = o / 8 then v else cur i := rfl
section
variable {cur : Nat → Nat} {ws : List (Nat × Nat)} {cm s : Nat}
theorem rdG_get {L : Nat} (hg : ∀ e ∈ ws, OffOk L s 26 e.1) (hn : (ws.map (·.1)).Nodup) {e : Nat × Nat} (he : e ∈ ws) : rdG s cur ws cm (e.1 / 8) = e.2 := by
 unfold rdG
 have h1 := (hg e he).out
 have h2 := (hg e he).al
 rw [if_neg (fun h => by rw [h] at he; simp at he), wrS_oneG, if_neg (by omega)]
 exact wrS_get ws _ hn (fun x hx => (hg x hx).al) e he
theorem rdG_rest (hl : ws.length ≤ 96) {i : Nat} (hi : i < 8 * s ∨ 8 * s + 208 ≤ i) (ho : ∀ e ∈ ws, e.1 / 8 ≠ i) : rdG s cur ws cm i = cur i := by
 unfold rdG
 split
 ·rfl
 ·rw [wrS_oneG, if_neg (by omega), wrS_other ws _ _ ho, wrS_oneG, if_neg (by omega), wrS_out s ws 0 i cur (by omega)]
theorem rdG_idle (h : cur (8 * s) = 0) : rdG s cur ws cm (8 * s) = 0 := by
 unfold rdG
 split
 ·exact h
 ·rw [wrS_oneG, if_pos (by omega)]
theorem rdG_bnd (h : ∀ i, cur i < 18446744073709551616) (hg : ∀ e ∈ ws, e.1 < 18446744073709551616 ∧ e.2 < 18446744073709551616) (hc : cm < 18446744073709551616) (i : Nat) : rdG s cur ws cm i < 18446744073709551616 := by
 unfold rdG
 split
 ·exact h i
 ·refine wrS_bnd _ _ (wrS_bnd _ _ (wrS_bnd _ _ (wrS_bnd _ _ h ?_) ?_) (fun e he => (hg e he).2)) ?_ i
  ·intro e he
   obtain ⟨j, _, _, x, hx, h1 | h1⟩ := entW_mem _ _ _ _ he
   ·rw [h1]; exact (hg x hx).1
   ·rw [h1]; exact (hg x hx).2
  ·intro e he
   simp at he
   subst he
   exact hc
  ·intro e he
   simp at he
   subst he
   show 0 < _
   omega
end
theorem run_redoG {a : DA} {L T s : Nat} {w : World} {S : Fp} {cur : Nat → Nat} (h : Dev a L T w S cur 0) {A : Option Addr} {m c base : Nat} {p : List Ins} {ws : List (Nat × Nat)} (ho : w.ownsRow base 211 3 (.slice A m c) m (insCells p)) (hb : ∀ k, S k → k < base) (hp : IsRedo s ws p)
  (hw : ∀ e ∈ ws, OffOk L s 26 e.1) (hv : ∀ e ∈ ws, e.2 < 18446744073709551616) (hl : ws.length ≤ 96) (hsL : s + 26 ≤ L) (hT : T + 800 ≤ 1000000000) :
  Calls Tryz.prog 74 #[.slice A m c, memV a] w fun e w' => ∃ cm, cm < 18446744073709551616 ∧ RetDev a L (T + 800) w S (rdG s cur ws cm) 0 (.int .i64 0) e w' := by
 have hL : L ≤ 4096 := by obtain ⟨ls, exe, per, cs, lsC, hdc, hnt⟩ := h; exact hdc.hL
 rcases hp with ⟨rfl, rfl⟩ | ⟨hne, cm, p1, p2, p3, hcm, hp1, hp2, ⟨p4, p5, hp4, hp5, rfl⟩, rfl⟩
 ·have hm : m = 0 := by have := ho.1; simp [insCells] at this; omega
  subst hm
  refine (run_any h A 0 c [] (Reads.of_own ho) (own_off ho hb) rfl (by omega) (by omega)).mono ?_
  rintro e w' ⟨he, S', hd, hc, hgr⟩
  exact ⟨0, by omega, he, S', hd.more (by omega) (by omega), hc, hgr⟩
 ·have h1 : ∀ e ∈ entW (64 * s) 0 ws, e.1 % 8 = 0 ∧ e.1 < 64 * L ∧ e.2 < 18446744073709551616 := fun e he => by
   obtain ⟨j, hj, h1, x, hx, h2⟩ := entW_mem _ _ _ _ he
   have := (hw x hx).lt
   have := hv x hx
   refine ⟨by omega, by omega, ?_⟩
   rcases h2 with h2 | h2 <;> omega
  have h2 : ∀ v, v < 18446744073709551616 → ∀ e ∈ [((64 * s : Nat), v)], e.1 % 8 = 0 ∧ e.1 < 64 * L ∧ e.2 < 18446744073709551616 := fun v hv e he => by
   simp only [List.mem_cons, List.not_mem_nil, or_false] at he
   subst he
   exact ⟨by show 64 * s % 8 = 0; omega, by show 64 * s < 64 * L; omega, hv⟩
  have h3 : ∀ e ∈ ws, e.1 % 8 = 0 ∧ e.1 < 64 * L ∧ e.2 < 18446744073709551616 := fun e he => ⟨(hw e he).al, (hw e he).lt, hv e he⟩
  obtain ⟨hg1, hr1, hlen1⟩ := isStores_good hp1 h1 cur
  obtain ⟨hg2, hr2, hlen2⟩ := isStores_good hp2 (h2 cm hcm) (wrS cur (entW (64 * s) 0 ws))
  obtain ⟨hg4, hr4, hlen4⟩ := isStores_good hp4 h3 (wrS (wrS cur (entW (64 * s) 0 ws)) [(64 * s, cm)])
  obtain ⟨hg5, hr5, hlen5⟩ := isStores_good hp5 (h2 0 (by omega)) (wrS (wrS (wrS cur (entW (64 * s) 0 ws)) [(64 * s, cm)]) ws)
  have hm : (p1 ++ p2 ++ (p4 ++ p5)).length = m := by have := ho.1; rw [insCells_len] at this; omega
  rw [entW_len] at hlen1
  simp only [List.length_append, List.length_cons, List.length_nil] at hm hlen2 hlen5
  refine (run_any h A m c _ (Reads.of_own ho) (own_off ho hb) (goodP_app (goodP_app hg1 hg2) (goodP_app hg4 hg5)) (by omega) (by omega)).mono ?_
  rintro e w' ⟨he, S', hd, hc, hgr⟩
  rw [runP_app, runP_app, runP_app, hr1, hr2, hr4, hr5] at hd
  have hrd : rdG s cur ws cm = wrS (wrS (wrS (wrS cur (entW (64 * s) 0 ws)) [(64 * s, cm)]) ws) [(64 * s, 0)] := by unfold rdG; rw [if_neg hne]
  rw [← hrd] at hd
  exact ⟨cm, hcm, he, S', hd.more (by omega) (by omega), hc, hgr⟩
def RetCmG (a : DA) (L s T' : Nat) (w : World) (S : Fp) (cur : Nat → Nat) (ws : List (Nat × Nat)) (e : Ending) (w' : World) : Prop := ∃ cm, cm < 18446744073709551616 ∧ RetDev a L T' w S (rdG s cur ws cm) 0 (.int .i64 0) e w'
theorem commitG_any {a : DA} {L T s : Nat} {w : World} {S : Fp} {cur : Nat → Nat} (h : Dev a L T w S cur 0) (g : Nat) (hB : Blk w g 231 (logCells a s 26))
  (A : Option Addr) (N c : Nat) (ws : List (Nat × Nat)) (hr : Reads w w.heap.size 2 A N (wrCells ws)) (hd : Diff ws) (ho : ∀ e ∈ ws, OffOk L s 26 e.1) (hv : ∀ e ∈ ws, e.2 < 18446744073709551616) (hN : N ≤ 96) (hidle : cur (8 * s) = 0) (ht : Tab w) (hsL : s + 26 ≤ L) (hT : T + 800 ≤ 1000000000) :
  Calls Tryz.prog 86 #[.pointer (some ⟨g, 0, none⟩), .slice A N c] w (RetCmG a L s (T + 800) w S cur ws) := by
 have HP := hid (planR_any h g s 26 hB hsL (by omega) A N c ws hr hd ho hv hN hidle ht)
 have hlen : ws.length = N := by have := hr.1; rw [wrCells_len] at this; omega
 have HRn : Hid (∀ W A1 m1 c1 p, Below w.heap.size w W → W.ownsRow w.heap.size 211 3 (.slice A1 m1 c1) m1 (insCells p) → IsRedo s ws p → Calls Tryz.prog 74 #[.slice A1 m1 c1, memV a] W fun e w' => ∃ cm, cm < 18446744073709551616 ∧ RetDev a L (T + 800) W S (rdG s cur ws cm) 0 (.int .i64 0) e w') := hid (fun W A1 m1 c1 p hW hown hp =>
  run_redoG (h.below hW) hown h.lt hp ho hv (by omega) hsL hT)
 have HBB := hid hB
 clear h hB hr hd ho hv hN hidle ht hlen
 go_enter Tryz.func86, Tryz.ntmps86
 go_wp2_with fail
 refine HP.out.mono ?_
 rintro e W1 ⟨A1, m1, c1, p, rfl, hp, ho1, hb1⟩
 have f0 : W1.cell? ⟨g, 0, none⟩ = some (memV a) := (HBB.out.below hb1 HBB.out.lt).cell 0
 have HR := hid (HRn.out W1 A1 m1 c1 p hb1 ho1 hp)
 have HB1 := hid hb1
 unfold memV at f0
 unfold memV at HR
 clear hp ho1 hb1 HP HRn
 go_wp2_with fail
 refine HR.out.mono ?_
 rintro e W2 ⟨cm, hcm, rfl, S2, hd2, hc2, hg2⟩
 have H2 := hid (show Dev a L (T + 800) W2 S2 (rdG s cur ws cm) 0 ∧ Chg S W1 W2 ∧ Grew S S2 W1 from ⟨hd2, hc2, hg2⟩)
 clear hd2 hc2 hg2 HR
 go_wp2
 go_ret
 obtain ⟨hd2, hc2, hg2⟩ := H2.out
 exact ⟨cm, hcm, rfl, S2, hd2, (Chg.of_below HB1.out).trans hc2 (Grew.refl _ _), fun k hk => (hg2 k hk).imp id (fun h => Nat.le_trans HB1.out.size h)⟩
end
section
open Go.RowKit Go.Maps
section
variable {a : DA} {L T n K : Nat} {x : HA} {cs cs2 : Nat → CS} {f f2 : Nat → Option Nat} {N m b0 : Nat} {S : Fp} {cur cur2 : Nat → Nat} {w : World} {al p bl ks : List Nat} {V : Nat → Nat} {cm i : Nat}
theorem nBlk_drop (p : List Nat) : 0 < nBlk p.length := by unfold nBlk; split <;> omega
end
end
section
open Go.RowKit Go.Maps
def PSet (w : World) (b n : Nat) (l : List Nat) : Prop := ∃ D : DataW Unit, w.ownsMap Tryz.prog 27 (plainElem Tryz.prog 4) b n D ∧ SetD D l
theorem keyP {x : Nat} (h : x < 18446744073709551616) : keyOf Tryz.prog 27 (.int .u64 (x : Int)) = some (kU x) := keyOf_int_mk Tryz.underlying27 (wf_u64_nat h)
theorem keyedP : Keyed Tryz.prog 27 := int_keyed Tryz.underlying27
theorem PSet.look {w : World} {b n : Nat} {l : List Nat} (h : PSet w b n l) {x : Nat} (hx : x < 18446744073709551616) : (Instr.lookup 300 (.map (some b)) (.int .u64 (x : Int)) false).run Tryz.prog w = .ok (.bool (decide (x ∈ l))) w := by
 obtain ⟨D, ho, hd⟩ := h
 obtain ⟨v, ps, hrun, hv⟩ := ho.lookup keyedP Tryz.underlying300 (z := .bool false) (by kernel_rfl) (plainElem_bool Tryz.underlying4 false) (keyP hx)
 obtain ⟨c, rfl, hc⟩ := plainElem_bool_inv Tryz.underlying4 hv
 rw [hd x] at hc
 simp at hc
 rw [hrun, hc.1]
theorem PSet.add {w : World} {b n : Nat} {l : List Nat} (h : PSet w b n l) (hn : n < maxLen) {x : Nat} (hx : x < 18446744073709551616) : ∃ w', (Instr.mapUpdate 300 (.map (some b)) (.int .u64 (x : Int)) (.bool true)).run Tryz.prog w = .ok () w' ∧ PSet w' b (n + 1) (x :: l) ∧ w.grownBy w' (some b) := by
 obtain ⟨D, ho, hd⟩ := h
 obtain ⟨w', hrun, ho', hg⟩ := ho.update keyedP Tryz.underlying300 hn (keyP hx) (plainElem_bool Tryz.underlying4 true)
 exact ⟨w', hrun, ⟨_, ho', hd.put ho.isMap x⟩, hg⟩
theorem PSet.new (w : World) : PSet (w.alloc (.map #[] 0)) w.heap.size 0 [] := ⟨_, World.ownsMap_made w _ _ _, SetD.nil⟩
section
theorem take_rev {l : List Nat} {k : Nat} (hl : k < l.length) : (l.take (k + 1)).reverse = l[k] :: (l.take k).reverse := by
 rw [List.take_succ_eq_append_getElem hl, List.reverse_append]
 rfl
theorem p_facts {w : World} {B n : Nat} {A : Option Addr} {l : List Nat} (h : Reads w B 1 A n (uCells l)) {k : Nat} (hk : k < n) :
  ∃ (hl : k < l.length) (b off : Nat), A = some ⟨b, off, none⟩ ∧ b < B ∧ w.cell? ⟨b, off + k, none⟩ = some (.int .u64 ((l[k] : Nat) : Int)) := by
 have hl : k < l.length := by have := h.1; simp [uCells] at this; omega
 obtain ⟨b, off, hA, hb, hc⟩ := h.plain (by omega) (by omega)
 exact ⟨hl, b, off, hA, hb, hc k _ (by simp [uCells, hl])⟩
theorem distinct_any (A1 A2 : Option Addr) (n1 c1 n2 c2 : Nat) (keep free : List Nat) (w : World) (b : Nat) (hB : Blk w b 51 #[.slice A1 n1 c1, .slice A2 n2 c2]) (h1 : Reads w w.heap.size 1 A1 n1 (uCells keep)) (h2 : Reads w w.heap.size 1 A2 n2 (uCells free)) (hn : (keep ++ free).Nodup) (hv : ∀ p ∈ keep ++ free, p ≠ 0 ∧ p < 18446744073709551616) (hn1 : n1 ≤ 1000) (hn2 : n2 ≤ 1000) :
  Calls Tryz.prog 129 #[.slice (some ⟨b, 0, none⟩) 2 2] w fun e w' => e = .returned (.bool true) ∧ Below w.heap.size w w' := by
 have hmm : ∀ W, (Instr.makeMap 300 none).run Tryz.prog W = .ok (.map (some W.heap.size)) (W.alloc (.map #[] 0)) := fun _ => rfl
 have c0 : (w.alloc (.map #[] 0)).cell? ⟨b, 0, none⟩ = some (.slice A1 n1 c1) := (hB.alloc _).cell 0
 have c1' : (w.alloc (.map #[] 0)).cell? ⟨b, 1, none⟩ = some (.slice A2 n2 c2) := (hB.alloc _).cell 1
 have HB0 : Hid (Below w.heap.size w (w.alloc (.map #[] 0))) := hid ((Below.refl _ w).alloc (Nat.le_refl _) (.map #[] 0))
 have HS0 : Hid (PSet (w.alloc (.map #[] 0)) w.heap.size 0 (keep.take 0).reverse) := hid (PSet.new w)
 have HR1 := hid h1
 have HR2 := hid h2
 have HV := hid hv
 have HNd := hid hn
 have HBB := hid hB
 have HL1 := hid (show keep.length = n1 by have := h1.1; simp [uCells] at this; omega)
 clear hB h1 h2 hv hn
 go_enter Tryz.func129, Tryz.ntmps129
 go_wp2
 refine wp_loop_rounds 3 ?_
 rw [rounds_succ]
 go_wp2
 go_loopw [17] (fun i wr => ∃ (k : Nat), k ≤ n1 ∧ i = .int .i64 k ∧ Hid (PSet wr w.heap.size (k) (keep.take k).reverse) ∧ Hid (Below w.heap.size w wr)) (fun i _ => n1 - (Go.RowKit.intOf i).toNat)
 case atStart => exact ⟨0, Nat.zero_le _, rfl, HS0, HB0⟩
 case round =>
  clear HS0 HB0
  obtain ⟨k, hk, rfl, HS, H⟩ := hrel
  by_cases hlt : k < n1
  ·obtain ⟨hl, b, off, hA, hbB, f0⟩ := p_facts (HR1.out.below H.out) hlt
   subst hA
   have hmem : keep[k] ∈ keep ++ free := List.mem_append.2 (.inl (List.getElem_mem hl))
   have hv := HV.out _ hmem
   have hnk : keep[k] ∉ keep.take k := fun hh => by
    obtain ⟨j, hj, he⟩ := List.getElem_of_mem hh
    have hj2 : j < k := by simp at hj; omega
    have he2 : keep[j] = keep[k] := by rw [← he]; simp
    exact (List.pairwise_iff_getElem.1 (List.nodup_append.1 HNd.out).1) j k (by omega) hl hj2 he2
   have hnot : keep[k] ∉ (keep.take k).reverse := fun hh => by
    exact hnk (by simpa using hh)
   have hlk := HS.out.look (x := keep[k]) hv.2
   rw [decide_eq_false hnot] at hlk
   obtain ⟨w2, hr2, hs2, hg2⟩ := HS.out.add (x := keep[k]) (by unfold maxLen; omega) hv.2
   have HS2 : Hid (PSet w2 w.heap.size ((k + 1)) (keep.take (k + 1)).reverse) := hid (by rw [take_rev hl]; exact hs2)
   have HB2 := hid (H.out.trans ((grown_chg (Z := fun j => j = w.heap.size) hg2 rfl).toBelow H.out.size (fun j hj => by omega)))
   have HNl := hid (nil_any keep[k])
   rw [decide_eq_false hv.1] at HNl
   clear hs2 hg2 hnot hnk hmem hv HS H
   generalize keep[k] = p at *
   have hz5 : (0 : Int) ≤ (k : Int) := by omega
   have hz6 : (k : Int) < (n1 : Int) := by omega
   go_wp2_with (go_at_call 67; refine (HNl.out _).mono ?_; rintro e w3 ⟨rfl, rfl⟩)
   go_roundw
   case rel =>
    first
     | exact ⟨k + 1, by omega, by go_num, HS2, HB2⟩
     | (
       repeat apply Exists.intro
       refine ⟨?_, rfl⟩
       exact ⟨k + 1, by omega, by go_num, HS2, HB2⟩)
   case measure => simp [Go.RowKit.intOf]; omega
  ·have hkn : n1 = k := by omega
   subst hkn
   have c1r : wr.cell? ⟨b, 1, none⟩ = some (.slice A2 n2 c2) := (HBB.out.below H.out HBB.out.lt).cell 1
   have HS0 : Hid (PSet wr w.heap.size (n1 + 0) ((free.take 0).reverse ++ keep.reverse)) := hid (by
    have h := HS.out
    rw [List.take_of_length_le (by rw [HL1.out]; exact Nat.le_refl _)] at h
    simpa using h)
   have HB0 := hid H.out
   clear HS H hlt hk c0 c1'
   go_wp2
   rw [rounds_succ]
   go_wp2
   go_loopw [17] (fun i wr => ∃ (k : Nat), k ≤ n2 ∧ i = .int .i64 k ∧ Hid (PSet wr w.heap.size (n1 + k) ((free.take k).reverse ++ keep.reverse)) ∧ Hid (Below w.heap.size w wr)) (fun i _ => n2 - (Go.RowKit.intOf i).toNat)
   case atStart => exact ⟨0, Nat.zero_le _, rfl, HS0, HB0⟩
   case round =>
    clear HS0 HB0
    obtain ⟨k, hk, rfl, HS, H⟩ := hrel
    by_cases hlt : k < n2
    ·obtain ⟨hl, b, off, hA, hbB, f0⟩ := p_facts (HR2.out.below H.out) hlt
     subst hA
     have hmem : free[k] ∈ keep ++ free := List.mem_append.2 (.inr (List.getElem_mem hl))
     have hv := HV.out _ hmem
     have hnk : free[k] ∉ free.take k := fun hh => by
      obtain ⟨j, hj, he⟩ := List.getElem_of_mem hh
      have hj2 : j < k := by simp at hj; omega
      have he2 : free[j] = free[k] := by rw [← he]; simp
      exact (List.pairwise_iff_getElem.1 (List.nodup_append.1 HNd.out).2.1) j k (by omega) hl hj2 he2
     have hnot : free[k] ∉ ((free.take k).reverse ++ keep.reverse) := fun hh => by
      rcases List.mem_append.1 hh with hh | hh
      ·exact hnk (by simpa using hh)
      ·exact (List.nodup_append.1 HNd.out).2.2 _ (by simpa using hh) _ (List.getElem_mem hl) rfl
     have hlk := HS.out.look (x := free[k]) hv.2
     rw [decide_eq_false hnot] at hlk
     obtain ⟨w2, hr2, hs2, hg2⟩ := HS.out.add (x := free[k]) (by unfold maxLen; omega) hv.2
     have HS2 : Hid (PSet w2 w.heap.size (n1 + (k + 1)) ((free.take (k + 1)).reverse ++ keep.reverse)) := hid (by rw [take_rev hl]; exact hs2)
     have HB2 := hid (H.out.trans ((grown_chg (Z := fun j => j = w.heap.size) hg2 rfl).toBelow H.out.size (fun j hj => by omega)))
     have HNl := hid (nil_any free[k])
     rw [decide_eq_false hv.1] at HNl
     clear hs2 hg2 hnot hnk hmem hv HS H
     generalize free[k] = p at *
     have hz5 : (0 : Int) ≤ (k : Int) := by omega
     have hz6 : (k : Int) < (n2 : Int) := by omega
     go_wp2_with (go_at_call 67; refine (HNl.out _).mono ?_; rintro e w3 ⟨rfl, rfl⟩)
     go_roundw
     case rel =>
      first
       | exact ⟨k + 1, by omega, by go_num, HS2, HB2⟩
       | (
         repeat apply Exists.intro
         refine ⟨?_, rfl⟩
         exact ⟨k + 1, by omega, by go_num, HS2, HB2⟩)
     case measure => simp [Go.RowKit.intOf]; omega
    ·have hkn : n2 = k := by omega
     subst hkn
     go_wp2
     rw [rounds_succ]
     go_wp2
     go_ret
     exact ⟨rfl, H.out⟩
end
end
end Go.Proofs.YtnlokpakiambaaaGreatDoor
