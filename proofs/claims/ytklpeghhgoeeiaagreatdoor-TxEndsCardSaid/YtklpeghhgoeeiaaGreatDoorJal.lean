/- The walks and laws that the claim leans on, part 12: each part says ahead of its lines what it holds. -/
import Derived.Test.YtklpeghhgoeeiaaGreatDoorJak
import Derived.Lib.BufferMore
/- undo: Save; the words behind it. -/
namespace Go.Proofs.YtklpeghhgoeeiaaGreatDoor
open Go.RowKit Go.Maps
theorem wrS_app (cur : Nat → Nat) (a b : List (Nat × Nat)) : wrS cur (a ++ b) = wrS (wrS cur a) b := by simp [wrS]
theorem own_off {w : World} {S : Fp} {base : Nat} {e : TypeId} {size m c n : Nat} {A : Option Addr} {xs : List Value} (ho : w.ownsRow base e size (.slice A m c) n xs) (hb : ∀ k, S k → k < base) : ∀ ad, A = some ad → ¬ S ad.block := fun ad had hs => by
  rcases ho.2 with ⟨hv, _⟩ | ⟨g, cap, cs, hv, hge, _⟩
  · injection hv with h1; rw [h1] at had; cases had
  · injection hv with h1
    rw [h1] at had
    injection had with h2
    subst h2
    have := hb _ hs
    simp at this
    omega
/-- Two programs of stores, one behind the other. -/
theorem run_two {a : DA} {L T : Nat} {w : World} {S : Fp} {cur : Nat → Nat} (h : Dev a L T w S cur 0) {A : Option Addr} {m c base : Nat} {p1 p2 : List Ins} {ws1 ws2 : List (Nat × Nat)} (ho : w.ownsRow base 178 3 (.slice A m c) m (insCells (p1 ++ p2))) (hb : ∀ k, S k → k < base) (hp1 : IsStores ws1 p1) (hp2 : IsStores ws2 p2)
    (hw1 : ∀ e ∈ ws1, e.1 % 8 = 0 ∧ e.1 < 64 * L ∧ e.2 < 18446744073709551616) (hw2 : ∀ e ∈ ws2, e.1 % 8 = 0 ∧ e.1 < 64 * L ∧ e.2 < 18446744073709551616) (hl1 : ws1.length ≤ 1000) (hl2 : ws2.length ≤ 1000) (T' : Nat) (hT : T + (2 * ws1.length + 1) + (2 * ws2.length + 1) ≤ T') (hT' : T' ≤ 1000000000) :
    Calls Tryz.prog 45 #[.slice A m c, memV a] w (RetDev a L T' w S (wrS (wrS cur ws1) ws2) 0 (.int .i64 0)) := by
  obtain ⟨hg1, hr1, hlen1⟩ := isStores_good hp1 hw1 cur
  obtain ⟨hg2, hr2, hlen2⟩ := isStores_good hp2 hw2 (wrS cur ws1)
  have hm : (p1 ++ p2).length = m := by have := ho.1; rw [insCells_len] at this; omega
  have hm' : p1.length + p2.length = m := by rw [← hm]; simp
  refine (run_any h A m c _ (Reads.of_own ho) (own_off ho hb) (goodP_app hg1 hg2) (by omega) (by omega)).mono ?_
  rintro e w' ⟨he, S', hd, hc, hgr⟩
  rw [runP_app, hr1, hr2] at hd
  exact ⟨he, S', hd.more (by omega) (by omega), hc, hgr⟩
/-- The words behind a Save. -/
def svC (cur : Nat → Nat) (z n : Nat) (os : List Nat) : Nat → Nat := if os = [] then cur else wrS (wrS cur (entW z n (frW cur os))) [(z, n + os.length)]
theorem run_plan {a : DA} {L T : Nat} {w : World} {S : Fp} {cur : Nat → Nat} (h : Dev a L T w S cur 0) {A : Option Addr} {m c base s n : Nat} {p : List Ins} {os : List Nat} (ho : w.ownsRow base 178 3 (.slice A m c) m (insCells p)) (hb : ∀ k, S k → k < base) (hp : IsPlan (64 * s) n (frW cur os) p)
    (hos : ∀ o ∈ os, o < 64 * L) (hcv : ∀ i, i < 8 * L → cur i < 18446744073709551616) (hs : 64 * s + 64 + 16 * (n + os.length) ≤ 64 * L) (h6 : os.length ≤ 400) (hT : T + (4 * os.length + 4) ≤ 1000000000) :
    Calls Tryz.prog 45 #[.slice A m c, memV a] w (RetDev a L (T + (4 * os.length + 4)) w S (svC cur (64 * s) n os) 0 (.int .i64 0)) := by
  have hL : L ≤ 4096 := by obtain ⟨ls, exe, per, cs, lsC, hdc, hnt⟩ := h; exact hdc.hL
  rcases hp with ⟨hf, rfl⟩ | ⟨hf, p1, p2, hp1, hp2, rfl⟩
  · have h0 : os = [] := by simpa [frW] using hf
    subst h0
    have hm : m = 0 := by have := ho.1; simp [insCells] at this; omega
    subst hm
    refine (run_any h A 0 c [] (Reads.of_own ho) (own_off ho hb) rfl (by omega) (by omega)).mono ?_
    rintro e w' ⟨he, S', hd, hc, hgr⟩
    exact ⟨he, S', Dev.more (by simpa [svC, runP] using hd) (by omega) (by omega), hc, hgr⟩
  · have h0 : os ≠ [] := fun h => hf (by simp [h, frW])
    have hfl : (frW cur os).length = os.length := by simp [frW]
    rw [hfl] at hp2
    have e1 : svC cur (64 * s) n os = wrS (wrS cur (entW (64 * s) n (frW cur os))) [(64 * s, n + os.length)] := if_neg h0
    rw [e1]
    refine run_two h ho hb hp1 hp2 (fun e he => ?_) (fun e he => ?_) ?_ ?_ _ ?_ hT
    · obtain ⟨j, h1, h2, x, hx, h3⟩ := entW_mem _ _ _ _ he
      rw [hfl] at h1
      have hx2 : x.1 < 18446744073709551616 ∧ x.2 < 18446744073709551616 := by
        simp only [frW, List.mem_map] at hx
        obtain ⟨o, ho, rfl⟩ := hx
        have := hos o ho
        exact ⟨by simp; omega, hcv _ (by omega)⟩
      refine ⟨by omega, by omega, ?_⟩
      rcases h3 with h3 | h3 <;> rw [h3]
      · exact hx2.1
      · exact hx2.2
    · simp at he
      subst he
      exact ⟨by simp; omega, by simp; omega, by simp; omega⟩
    · rw [entW_len, hfl]; omega
    · simp
    · rw [entW_len, hfl]; simp; omega
theorem wrS_out (s : Nat) : ∀ (l : List (Nat × Nat)) (n k : Nat) (cur : Nat → Nat), (k < 8 * s + 8 + 2 * n ∨ 8 * s + 8 + 2 * (n + l.length) ≤ k) → wrS cur (entW (64 * s) n l) k = cur k
  | [], n, k, cur, _ => rfl
  | e :: l, n, k, cur, h => by
    simp only [List.length_cons] at h
    show wrS (upd (upd cur ((64 * s + 64 + 16 * n) / 8) e.1) ((64 * s + 64 + 16 * n + 8) / 8) e.2) (entW (64 * s) (n + 1) l) k = _
    rw [wrS_out s l (n + 1) k _ (by omega)]
    simp only [upd]
    rw [if_neg (by omega), if_neg (by omega)]
theorem wrS_in (s : Nat) : ∀ (l : List (Nat × Nat)) (n i : Nat) (cur : Nat → Nat) (h : i < l.length), wrS cur (entW (64 * s) n l) (8 * s + 8 + 2 * (n + i)) = (l[i]).1 ∧ wrS cur (entW (64 * s) n l) (8 * s + 8 + 2 * (n + i) + 1) = (l[i]).2
  | e :: l, n, 0, cur, _ => by
    show wrS (upd (upd cur ((64 * s + 64 + 16 * n) / 8) e.1) ((64 * s + 64 + 16 * n + 8) / 8) e.2) (entW (64 * s) (n + 1) l) _ = _ ∧ wrS (upd (upd cur ((64 * s + 64 + 16 * n) / 8) e.1) ((64 * s + 64 + 16 * n + 8) / 8) e.2) (entW (64 * s) (n + 1) l) _ = _
    rw [wrS_out s l (n + 1) _ _ (by omega), wrS_out s l (n + 1) _ _ (by omega)]
    simp only [upd]
    rw [if_neg (by omega), if_pos (by omega), if_pos (by omega)]
    exact ⟨rfl, rfl⟩
  | e :: l, n, i + 1, cur, h => by
    have ih := wrS_in s l (n + 1) i (upd (upd cur ((64 * s + 64 + 16 * n) / 8) e.1) ((64 * s + 64 + 16 * n + 8) / 8) e.2) (by simpa using h)
    rw [show n + 1 + i = n + (i + 1) by omega] at ih
    exact ih
theorem logU_save {cur : Nat → Nat} {s : Nat} {ws : List (Nat × Nat)} (h : LogU cur s ws) (os : List Nat) : LogU (svC cur (64 * s) ws.length os) s (ws ++ frW cur os) := by
  by_cases h0 : os = []
  · subst h0
    simpa [svC, frW] using h
  · have e1 : svC cur (64 * s) ws.length os = wrS (wrS cur (entW (64 * s) ws.length (frW cur os))) [(64 * s, ws.length + os.length)] := if_neg h0
    have hfl : (frW cur os).length = os.length := by simp [frW]
    rw [e1]
    have hu : ∀ k, wrS (wrS cur (entW (64 * s) ws.length (frW cur os))) [(64 * s, ws.length + os.length)] k = if k = 8 * s then ws.length + os.length else wrS cur (entW (64 * s) ws.length (frW cur os)) k := fun k => by
      show upd _ (64 * s / 8) _ k = _
      simp only [upd]
      rw [show 64 * s / 8 = 8 * s by omega]
    refine ⟨?_, fun i hi => ?_⟩
    · rw [hu, if_pos rfl]; simp [hfl]
    · rw [hu, if_neg (by omega), hu, if_neg (by omega)]
      by_cases hlt : i < ws.length
      · rw [wrS_out s _ _ _ _ (by omega), wrS_out s _ _ _ _ (by omega), List.getElem_append_left hlt]
        exact h.at_ i hlt
      · have h2 := wrS_in s (frW cur os) ws.length (i - ws.length) cur (by simp at hi; omega)
        rw [show ws.length + (i - ws.length) = i by omega] at h2
        rw [List.getElem_append_right (by omega)]
        exact h2
/-- Words out of the log are kept. -/
theorem svC_out {cur : Nat → Nat} {s n : Nat} {os : List Nat} {k : Nat} (hk : k < 8 * s ∨ 8 * s + 8 + 2 * (n + os.length) ≤ k) : svC cur (64 * s) n os k = cur k := by
  unfold svC
  split
  · rfl
  · show upd _ (64 * s / 8) _ k = _
    simp only [upd]
    rw [if_neg (by omega), wrS_out s _ _ _ _ (by simp [frW]; omega)]
set_option maxRecDepth 100000 in
set_option maxHeartbeats 4000000 in
theorem saveU_any {a : DA} {L T : Nat} {w : World} {S : Fp} {cur : Nat → Nat} (h : Dev a L T w S cur 0) (g s n : Nat) (hB : Blk w g 186 (ulogCells a s n)) (hs : s + n ≤ L) (hn : 2 ≤ n) (ws : List (Nat × Nat)) (hl : LogU cur s ws) (hwv : ∀ e ∈ ws, e.1 < 18446744073709551616)
    (A0 : Option Addr) (N c0 : Nat) (offs os : List Nat) (hos : (fr (ws.map (·.1)) offs).2 = os) (hr : Reads w w.heap.size 1 A0 N (uCells offs)) (ho : ∀ o ∈ offs, OffOk L s n o) (hc : ws.length + os.length ≤ 4 * (n - 1)) (hN : N ≤ 1000) (h12 : 2 * os.length ≤ 12)
    (hcv : ∀ i, i < 8 * L → cur i < 18446744073709551616) (hT : T + (4 * os.length + 4) ≤ 1000000000) :
    Calls Tryz.prog 131 #[.pointer (some ⟨g, 0, none⟩), .slice A0 N c0] w (RetDev a L (T + (4 * os.length + 4)) w S (svC cur (64 * s) ws.length os) 0 (.int .i64 0)) := by
  have hL : L ≤ 4096 := by obtain ⟨ls, exe, per, cs, lsC, hdc, hnt⟩ := h; exact hdc.hL
  have HP := Lib.hid (plan_any h g s n hB hs hn ws hl hwv A0 N c0 offs os hos hr ho hc hN h12)
  have HR : Hid (∀ (A : Option Addr) (m c : Nat) (p : List Ins) (w1 : World), IsPlan (64 * s) ws.length (frW cur os) p → w1.ownsRow w.heap.size 178 3 (.slice A m c) m (insCells p) → Below w.heap.size w w1 →
      Calls Tryz.prog 45 #[.slice A m c, memV a] w1 (RetDev a L (T + (4 * os.length + 4)) w S (svC cur (64 * s) ws.length os) 0 (.int .i64 0))) := fun A m c p w1 hp ho1 hb => by
    refine (run_plan (h.below hb) ho1 h.lt hp (fun o hO => ?_) hcv (by omega) (by omega) hT).mono ?_
    · rw [← hos] at hO
      rcases fr_mem offs _ o hO with h | h
      · simp at h
      · exact (ho o h).lt
    · intro e w2 h2
      exact RetDev.back hb h2
  have HBB := Lib.hid hB
  have HBx : Hid (∀ w1, Below w.heap.size w w1 → w1.cell? ⟨g, 0, none⟩ = some (memV a)) := fun w1 hb => (HBB.out.below hb HBB.out.lt).cell 0
  clear h hB hl hr hs hn hc hcv
  unfold memV at *
  go_enter Tryz.func131, Tryz.ntmps131
  go_wp2_with fail
  refine HP.out.mono ?_
  rintro e w1 ⟨A1, m1, c1, p1, rfl, hp1, ho1, hb1⟩
  have HRR := Lib.hid (HR.out A1 m1 c1 p1 w1 hp1 ho1 hb1)
  have d0 := HBx.out w1 hb1
  clear hp1 ho1 hb1 HP HR HBx
  go_wp2_with fail
  refine HRR.out.mono ?_
  rintro e w2 ⟨rfl, h2⟩
  have HZ := Lib.hid h2
  clear h2 HRR
  go_wp2
  go_ret
  exact ⟨rfl, HZ.out⟩
end Go.Proofs.YtklpeghhgoeeiaaGreatDoor
/- undo: Recover, Rollback, PlanCommit, Commit over a log with entries. -/
namespace Go.Proofs.YtklpeghhgoeeiaaGreatDoor
open Go.RowKit Go.Maps
/-- Entries that may be written back. -/
structure EntOk (L s n : Nat) (ws : List (Nat × Nat)) : Prop where
  off : ∀ e ∈ ws, OffOk L s n e.1
  val : ∀ e ∈ ws, e.2 < 18446744073709551616
  few : ws.length ≤ 12
  some_ : ws ≠ []
set_option maxRecDepth 100000 in
set_option maxHeartbeats 4000000 in
theorem recover_any {a : DA} {L T : Nat} {w : World} {S : Fp} {cur : Nat → Nat} (h : Dev a L T w S cur 0) (g s n : Nat) (hB : Blk w g 186 (ulogCells a s n)) (hs : s + n ≤ L) (hn : 5 ≤ n) (ws : List (Nat × Nat)) (hl : LogU cur s ws) (hw : EntOk L s n ws) (hT : T + 40 ≤ 1000000000) :
    Calls Tryz.prog 116 #[.pointer (some ⟨g, 0, none⟩)] w (RetDev a L (T + 40) w S (wrS (wrS cur ws) [(64 * s, 0)]) 0 (.tuple #[.int .i64 (ws.length : Int), .int .i64 0])) := by
  have hL : L ≤ 4096 := by obtain ⟨ls, exe, per, cs, lsC, hdc, hnt⟩ := h; exact hdc.hL
  have hfew := hw.few
  have hlen : 0 < ws.length := List.length_pos_iff.2 hw.some_
  have HLo := Lib.hid (loadU_any h g s n hB hs (by omega) ws hl (by omega) hw.off)
  have HR : Hid (∀ (A : Option Addr) (m c : Nat) (p1 p2 : List Ins) (w1 : World) (base : Nat), IsStores ws p1 → IsStores [(64 * s, 0)] p2 → w.heap.size ≤ base → w1.ownsRow base 178 3 (.slice A m c) m (insCells (p1 ++ p2)) → Below w.heap.size w w1 →
      Calls Tryz.prog 45 #[.slice A m c, memV a] w1 (RetDev a L (T + 40) w S (wrS (wrS cur ws) [(64 * s, 0)]) 0 (.int .i64 0))) := fun A m c p1 p2 w1 base hp1 hp2 hbase ho1 hb => by
    refine (run_two (h.below hb) ho1 (fun k hk => Nat.lt_of_lt_of_le (h.lt k hk) hbase) hp1 hp2 (fun e he => ⟨(hw.off e he).al, (hw.off e he).lt, hw.val e he⟩) (fun e he => ?_) (by omega) (by simp) (T + 40) (by simp; omega) hT).mono ?_
    · simp at he; subst he; exact ⟨by simp; omega, by simp; omega, by simp⟩
    · intro e w2 h2
      exact RetDev.back hb h2
  have HSc : Hid (∀ W, Below w.heap.size w W → Calls Tryz.prog 178 #[.pointer (some ⟨g, 0, none⟩), .int .i64 0] W (RetProg W (IsStores [(64 * s, 0)]))) := fun W hW =>
    setCount_any a s n g 0 W (hB.below hW hB.lt) (by omega) (by omega)
  have HBB := Lib.hid hB
  have HBx : Hid (∀ w1, Below w.heap.size w w1 → w1.cell? ⟨g, 0, none⟩ = some (memV a)) := fun w1 hb => (HBB.out.below hb HBB.out.lt).cell 0
  have HW1 : Hid (∀ e ∈ ws, e.1 < 18446744073709551616) := fun e he => by have := (hw.off e he).lt; omega
  have HNe : Hid (ws.isEmpty = false) := Lib.hid (by simp [hw.some_])
  clear h hB hl hs hn hw
  unfold memV at *
  go_enter Tryz.func116, Tryz.ntmps116
  go_wp2_with fail
  refine HLo.out.mono ?_
  rintro e w1 ⟨A, m, c, rfl, hm, ho, hb1⟩
  have HB1 := Lib.hid hb1
  have hm1 : m ≤ ws.length := by omega
  have hm2 : ws.length ≤ m := by omega
  have HSt := Lib.hid (stores_small A m c ws w1.drew (Reads.of_own ho) (by omega) (by omega) HW1.out)
  rw [HNe.out]
  have e6 : (ws.length : Int) = (m : Int) := by omega
  clear hm ho hb1 HLo
  go_wp2
  have HS0 : Hid (w1.drew.cell? ⟨g, 0, none⟩ = some (.iface 53 (.pointer (some ⟨a.th 0, 0, none⟩)))) := HBx.out w1.drew HB1.out.drew
  refine wp_region_script (fun w' => w'.cell? ⟨g, 0, none⟩ = some (.iface 53 (.pointer (some ⟨a.th 0, 0, none⟩)))) 9 [(true, 0), (true, 2), (true, 5), (true, 6), (true, 7), (true, 8), (false, 1), (false, 3), (false, 4)] (by kernel_rfl) (by kernel_rfl) HS0.out ?_
  refine wpScript_take (.slice A m c) (by rfl) (by rfl) (fun w' hS => ?_) ?_
  · go_simp
  simp only [List.getElem_toArray, List.getElem_cons_zero, Act.put, List.setIfInBounds_toArray, List.set_cons_zero, List.set_cons_succ]
  refine wpScript_take (.pointer (some ⟨g, 0, none⟩)) (by rfl) (by rfl) (fun w' hS => ?_) ?_
  · go_simp
  simp only [List.getElem_toArray, List.getElem_cons_zero, List.getElem_cons_succ, Act.put, List.setIfInBounds_toArray, List.set_cons_zero, List.set_cons_succ]
  refine wpScript_take (.pointer (some ⟨g, 0, none⟩)) (by rfl) (by rfl) (fun w' hS => ?_) ?_
  · go_simp
  simp only [List.getElem_toArray, List.getElem_cons_zero, List.getElem_cons_succ, Act.put, List.setIfInBounds_toArray, List.set_cons_zero, List.set_cons_succ]
  refine wpScript_take (.pointer (some ⟨g, 0, none⟩)) (by rfl) (by rfl) (fun w' hS => ?_) ?_
  · go_simp
  simp only [List.getElem_toArray, List.getElem_cons_zero, List.getElem_cons_succ, Act.put, List.setIfInBounds_toArray, List.set_cons_zero, List.set_cons_succ]
  refine wpScript_take (.pointer (some ⟨g, 0, none⟩)) (by rfl) (by rfl) (fun w' hS => ?_) ?_
  · go_simp
  simp only [List.getElem_toArray, List.getElem_cons_zero, List.getElem_cons_succ, Act.put, List.setIfInBounds_toArray, List.set_cons_zero, List.set_cons_succ]
  refine wpScript_take (.iface 53 (.pointer (some ⟨a.th 0, 0, none⟩))) (by rfl) (by rfl) (fun w' hS => ?_) ?_
  · go_simp
  simp only [List.getElem_toArray, List.getElem_cons_zero, List.getElem_cons_succ, Act.put, List.setIfInBounds_toArray, List.set_cons_zero, List.set_cons_succ]
  refine wpScript_do (by rfl) ?_
  go_wp2_with fail
  refine HSt.out.mono ?_
  rintro e1 w4 ⟨B1, n1, d1, p1, rfl, hp1, ho1, hb1⟩
  have HP1 := Lib.hid hp1
  have HO1 := Lib.hid ho1
  have HB4 := Lib.hid (HB1.out.drew.trans (hb1.mono HB1.out.size))
  have HSS := Lib.hid (HSc.out w4 HB4.out)
  clear hp1 ho1 hb1 HSt
  go_wp2_with fail
  refine ⟨HBx.out w4 HB4.out, ?_⟩
  refine wpScript_do (by rfl) ?_
  go_wp2_with fail
  refine HSS.out.mono ?_
  rintro e1 w5 ⟨B2, n2, d2', p2, rfl, hp2, ho2, hb2⟩
  have HP2 := Lib.hid hp2
  have HB5 := Lib.hid (HB4.out.trans (hb2.mono HB4.out.size))
  have hl1 : n1 ≤ 400 := by
    have h1 := HO1.out.1
    have h2 := isStores_len HP1.out
    rw [insCells_len] at h1
    omega
  have hl2 : n2 ≤ 400 := by
    have h1 := ho2.1
    have h2 := isStores_len HP2.out
    rw [insCells_len] at h1
    simp at h2
    omega
  have HTh := Lib.hid (then_any B1 B2 n1 d1 n2 d2' p1 p2 w5 (Reads.of_own (own_below HO1.out hb2)) (Reads.of_own ho2) hl1 hl2)
  clear hp2 ho2 hb2 HSS HO1
  go_wp2_with fail
  refine ⟨HBx.out w5 HB5.out, ?_⟩
  refine wpScript_do (by rfl) ?_
  go_wp2_with fail
  refine HTh.out.mono ?_
  rintro e1 w6 ⟨B3, n3, d3, rfl, hn3, ho3, hb3⟩
  have HB6 := Lib.hid (HB5.out.trans (hb3.mono HB5.out.size))
  have HRR := Lib.hid (HR.out B3 n3 d3 p1 p2 w6 w5.heap.size HP1.out HP2.out HB5.out.size ho3 HB6.out)
  clear hn3 ho3 hb3 HTh HR
  go_wp2_with fail
  refine ⟨HBx.out w6 HB6.out, ?_⟩
  show wpList _ _ _ _ _ _
  simp only [List.drop_succ_cons, List.drop_zero]
  go_wp2_with fail
  refine HRR.out.mono ?_
  rintro e1 w7 ⟨rfl, h7⟩
  have HZ := Lib.hid h7
  clear h7 HRR
  go_wp2
  refine NoPanic.normal ?_
  go_wp2
  go_ret2
  refine ⟨?_, HZ.out⟩
  rw [e6]
  rfl
end Go.Proofs.YtklpeghhgoeeiaaGreatDoor
/- undo: PlanCommit, Commit over a log with entries. -/
namespace Go.Proofs.YtklpeghhgoeeiaaGreatDoor
open Go.RowKit Go.Maps
theorem reads_drop {w : World} {B n b off : Nat} {p : List Ins} (h : Reads w B 3 (some ⟨b, off, none⟩) n (insCells p)) (k : Nat) (hk : k < n) : Reads w B 3 (some ⟨b, off + k * 3, none⟩) (n - k) (insCells (p.drop k)) := by
  have hl : p.length = n := by have := h.1; rw [insCells_len] at this; omega
  obtain ⟨b', off', hA, hb, hc⟩ := h.plain (by omega) (by omega)
  cases hA
  refine ⟨by rw [insCells_len]; simp; omega, fun _ => ⟨_, rfl, hb, fun j u hu => ?_⟩⟩
  have e1 : insCells p = insCells (p.take k) ++ insCells (p.drop k) := by rw [← insCells_app, List.take_append_drop]
  have e2 : (insCells (p.take k)).length = k * 3 := by rw [insCells_len]; simp; omega
  have h1 := hc (k * 3 + j) u (by rw [e1, List.getElem?_append_right (by omega), e2, show k * 3 + j - k * 3 = j by omega]; exact hu)
  rw [Go.WideShapes.add_plain]
  rw [← Nat.add_assoc] at h1
  exact h1
/-- The flushes and the fence of a program of stores, then a program of stores. -/
def IsFl (ws ws2 : List (Nat × Nat)) (p : List Ins) : Prop := ∃ (fs : List Nat) (p2 : List Ins), p = fs.map Ins.fl ++ [Ins.fe] ++ p2 ∧ fs.length ≤ ws.length ∧ (∀ o ∈ fs, ∃ e ∈ ws, o = lineOf e.1) ∧ IsStores ws2 p2
set_option maxRecDepth 100000 in
set_option maxHeartbeats 4000000 in
theorem planCommit_any {a : DA} {L T : Nat} {w : World} {S : Fp} {cur : Nat → Nat} (h : Dev a L T w S cur 0) (g s n : Nat) (hB : Blk w g 186 (ulogCells a s n)) (hs : s + n ≤ L) (hn : 5 ≤ n) (ws : List (Nat × Nat)) (hl : LogU cur s ws) (hw : EntOk L s n ws) :
    Calls Tryz.prog 120 #[.pointer (some ⟨g, 0, none⟩)] w (RetPlan w (IsFl ws [(64 * s, 0)])) := by
  have hL : L ≤ 4096 := by obtain ⟨ls, exe, per, cs, lsC, hdc, hnt⟩ := h; exact hdc.hL
  have hfew := hw.few
  have hlen : 0 < ws.length := List.length_pos_iff.2 hw.some_
  have HLo := Lib.hid (loadU_any h g s n hB hs (by omega) ws hl (by omega) hw.off)
  have HSc : Hid (∀ W, Below w.heap.size w W → Calls Tryz.prog 178 #[.pointer (some ⟨g, 0, none⟩), .int .i64 0] W (RetProg W (IsStores [(64 * s, 0)]))) := fun W hW =>
    setCount_any a s n g 0 W (hB.below hW hB.lt) (by omega) (by omega)
  have HW1 : Hid (∀ e ∈ ws, e.1 < 18446744073709551616) := fun e he => by have := (hw.off e he).lt; omega
  have HNe : Hid (ws.isEmpty = false) := Lib.hid (by simp [hw.some_])
  clear h hB hl hs hn hw
  go_enter Tryz.func120, Tryz.ntmps120
  go_wp2_with fail
  refine HLo.out.mono ?_
  rintro e w1 ⟨A, m, c, rfl, hm, ho, hb1⟩
  have HB1 := Lib.hid hb1
  have hm1 : m ≤ ws.length := by omega
  have hm2 : ws.length ≤ m := by omega
  have HSt := Lib.hid (stores_small A m c ws w1 (Reads.of_own ho) (by omega) (by omega) HW1.out)
  rw [HNe.out]
  clear hm ho hb1 HLo
  go_wp2_with fail
  refine HSt.out.mono ?_
  rintro e1 w4 ⟨B1, n1, d1, p1, rfl, hp1, ho1, hb1⟩
  obtain ⟨fs, rfl, hf1, hf2⟩ := hp1
  have HB4 := Lib.hid (HB1.out.trans (hb1.mono HB1.out.size))
  have hn1 : n1 = ws.length + fs.length + 1 := by
    have h1 := ho1.1
    rw [insCells_len] at h1
    simp at h1
    omega
  obtain ⟨gb, cap, hv, hb0, hlt⟩ := ho1.form (by omega)
  injection hv with hv1 hv2 hv3
  subst hv1
  have hcap : n1 ≤ d1 := by
    rcases ho1.2 with ⟨_, h0⟩ | ⟨g', cap', cs, hv', _, _, hle, _⟩
    · omega
    · injection hv' with _ _ h3
      omega
  have hdr : (ws.map stI ++ fs.map Ins.fl ++ [Ins.fe]).drop m = fs.map Ins.fl ++ [Ins.fe] := by
    rw [List.append_assoc, List.drop_append_of_le_length (by simp; omega), List.drop_of_length_le (by simp; omega), List.nil_append]
  have hrd := reads_drop (Reads.of_own ho1) m (by omega)
  rw [hdr, Nat.zero_add] at hrd
  have hn1a : n1 ≤ 30 := by omega
  have hz1 : (m : Int) ≤ (n1 : Int) := by omega
  have hz2 : (n1 : Int) ≤ (d1 : Int) := by omega
  have hz3 : (0 : Int) ≤ (m : Int) := by omega
  have hz4 : m < d1 := by omega
  have hz5 : ¬ (d1 - m = 0) := by omega
  have hz6 : (m : Int) < (d1 : Int) := by omega
  have hz7 : ¬ (d1 = m) := by omega
  have hz8 : ¬ (m = d1) := by omega
  have HRD := Lib.hid hrd
  have HSS := Lib.hid (HSc.out w4 HB4.out)
  clear ho1 hb1 hrd HSt hv2 hv3 hn1 hdr
  go_wp2_with fail
  refine HSS.out.mono ?_
  rintro e1 w5 ⟨B2, n2, d2', p2, rfl, hp2, ho2, hb2⟩
  have HP2 := Lib.hid hp2
  have HB5 := Lib.hid (HB4.out.trans (hb2.mono HB4.out.size))
  have hl2 : n2 ≤ 400 := by
    have h1 := ho2.1
    have h2 := isStores_len HP2.out
    rw [insCells_len] at h1
    simp at h2
    omega
  have HTh := Lib.hid (then_any (some ⟨gb, m * 3, none⟩) B2 (n1 - m) (d1 - m) n2 d2' (fs.map Ins.fl ++ [Ins.fe]) p2 w5 ((HRD.out.below hb2).more hb2.size) (Reads.of_own ho2) (by omega) hl2)
  clear hp2 ho2 hb2 HSS HRD
  go_wp2_with fail
  refine HTh.out.mono ?_
  rintro e1 w6 ⟨B3, n3, d3, rfl, hn3, ho3, hb3⟩
  have HO3 := Lib.hid ho3
  have HB6 := Lib.hid (HB5.out.trans (hb3.mono HB5.out.size))
  clear hn3 ho3 hb3 HTh
  go_wp2
  go_ret2
  exact ⟨_, _, _, _, rfl, ⟨fs, p2, rfl, hf1, hf2, HP2.out⟩, own_le HO3.out HB5.out.size, HB6.out⟩
theorem run_fl {a : DA} {L T : Nat} {w : World} {S : Fp} {cur : Nat → Nat} (h : Dev a L T w S cur 0) {A : Option Addr} {m c base : Nat} {p : List Ins} {ws ws2 : List (Nat × Nat)} (ho : w.ownsRow base 178 3 (.slice A m c) m (insCells p)) (hb : ∀ k, S k → k < base) (hp : IsFl ws ws2 p)
    (hw1 : ∀ e ∈ ws, e.1 < 64 * L) (hw2 : ∀ e ∈ ws2, e.1 % 8 = 0 ∧ e.1 < 64 * L ∧ e.2 < 18446744073709551616) (hl1 : ws.length ≤ 1000) (hl2 : ws2.length ≤ 1000) (T' : Nat) (hT : T + (ws.length + 1) + (2 * ws2.length + 1) ≤ T') (hT' : T' ≤ 1000000000) :
    Calls Tryz.prog 45 #[.slice A m c, memV a] w (RetDev a L T' w S (wrS cur ws2) 0 (.int .i64 0)) := by
  obtain ⟨fs, p2, rfl, hf1, hf2, hp2⟩ := hp
  obtain ⟨hg2, hr2, hlen2⟩ := isStores_good hp2 hw2 cur
  have hg1 : goodP L false (fs.map Ins.fl ++ [Ins.fe]) := goodP_fls fs false (fun o ho => by
    obtain ⟨e, he, rfl⟩ := hf2 o ho
    have := hw1 e he
    unfold lineOf
    omega)
  have hr1 : runP cur (fs.map Ins.fl ++ [Ins.fe]) = cur := by rw [runP_app, runP_fls]; rfl
  have hm : (fs.map Ins.fl ++ [Ins.fe] ++ p2).length = m := by have := ho.1; rw [insCells_len] at this; omega
  have hm' : fs.length + 1 + p2.length = m := by rw [← hm]; simp; omega
  refine (run_any h A m c _ (Reads.of_own ho) (own_off ho hb) (goodP_app hg1 hg2) (by omega) (by omega)).mono ?_
  rintro e w' ⟨he, S', hd, hc, hgr⟩
  rw [runP_app, hr1, hr2] at hd
  exact ⟨he, S', hd.more (by omega) (by omega), hc, hgr⟩
set_option maxRecDepth 100000 in
set_option maxHeartbeats 4000000 in
theorem commitU_any {a : DA} {L T : Nat} {w : World} {S : Fp} {cur : Nat → Nat} (h : Dev a L T w S cur 0) (g s n : Nat) (hB : Blk w g 186 (ulogCells a s n)) (hs : s + n ≤ L) (hn : 5 ≤ n) (ws : List (Nat × Nat)) (hl : LogU cur s ws) (hw : EntOk L s n ws) (hT : T + 40 ≤ 1000000000) :
    Calls Tryz.prog 147 #[.pointer (some ⟨g, 0, none⟩)] w (RetDev a L (T + 40) w S (wrS cur [(64 * s, 0)]) 0 (.int .i64 0)) := by
  have hL : L ≤ 4096 := by obtain ⟨ls, exe, per, cs, lsC, hdc, hnt⟩ := h; exact hdc.hL
  have hfew := hw.few
  have HP := Lib.hid (planCommit_any h g s n hB hs hn ws hl hw)
  have HR : Hid (∀ (A : Option Addr) (m c : Nat) (p : List Ins) (w1 : World), IsFl ws [(64 * s, 0)] p → w1.ownsRow w.heap.size 178 3 (.slice A m c) m (insCells p) → Below w.heap.size w w1 →
      Calls Tryz.prog 45 #[.slice A m c, memV a] w1 (RetDev a L (T + 40) w S (wrS cur [(64 * s, 0)]) 0 (.int .i64 0))) := fun A m c p w1 hp ho1 hb => by
    refine (run_fl (h.below hb) ho1 h.lt hp (fun e he => (hw.off e he).lt) (fun e he => ?_) (by omega) (by simp) (T + 40) (by simp; omega) hT).mono ?_
    · simp at he; subst he; exact ⟨by simp; omega, by simp; omega, by simp⟩
    · intro e w2 h2
      exact RetDev.back hb h2
  have HBB := Lib.hid hB
  have HBx : Hid (∀ w1, Below w.heap.size w w1 → w1.cell? ⟨g, 0, none⟩ = some (memV a)) := fun w1 hb => (HBB.out.below hb HBB.out.lt).cell 0
  clear h hB hl hs hn hw
  unfold memV at *
  go_enter Tryz.func147, Tryz.ntmps147
  go_wp2_with fail
  refine HP.out.mono ?_
  rintro e w1 ⟨A1, m1, c1, p1, rfl, hp1, ho1, hb1⟩
  have HRR := Lib.hid (HR.out A1 m1 c1 p1 w1 hp1 ho1 hb1)
  have d0 := HBx.out w1 hb1
  clear hp1 ho1 hb1 HP HR HBx
  go_wp2_with fail
  refine HRR.out.mono ?_
  rintro e w2 ⟨rfl, h2⟩
  have HZ := Lib.hid h2
  clear h2 HRR
  go_wp2
  go_ret
  exact ⟨rfl, HZ.out⟩
set_option maxRecDepth 100000 in
set_option maxHeartbeats 4000000 in
theorem rollbackU_any {a : DA} {L T : Nat} {w : World} {S : Fp} {cur : Nat → Nat} (h : Dev a L T w S cur 0) (g s n : Nat) (hB : Blk w g 186 (ulogCells a s n)) (hs : s + n ≤ L) (hn : 5 ≤ n) (ws : List (Nat × Nat)) (hl : LogU cur s ws) (hw : EntOk L s n ws) (hT : T + 40 ≤ 1000000000) :
    Calls Tryz.prog 129 #[.pointer (some ⟨g, 0, none⟩)] w (RetDev a L (T + 40) w S (wrS (wrS cur ws) [(64 * s, 0)]) 0 (.int .i64 0)) := by
  have HP := Lib.hid (recover_any h g s n hB hs hn ws hl hw hT)
  clear h hB hl
  go_enter Tryz.func129, Tryz.ntmps129
  go_wp2_with fail
  refine HP.out.mono ?_
  rintro e w1 ⟨rfl, h1⟩
  have HZ := Lib.hid h1
  clear h1 HP
  go_wp2
  go_ret
  exact ⟨rfl, HZ.out⟩
set_option maxRecDepth 100000 in
set_option maxHeartbeats 4000000 in
/-- slices.Clone of a program: some program. -/
theorem cloneP_any (ad : Addr) (n c : Nat) (p : List Ins) (w : World) (h : Reads w w.heap.size 3 (some ad) n (insCells p)) (hn : n ≤ 100000) :
    Calls Tryz.prog 121 #[.slice (some ad) n c] w (fun e w' => ∃ A' m' c', e = .returned (.slice A' m' c') ∧ Below w.heap.size w w') := by
  have H := Lib.hid h
  clear h
  have hnil : ∀ W, (binOp .eql 87 (.slice (some ad) n c) (.slice none 0 0)).run Tryz.prog W = .ok (.bool false) W := fun W => Lib.run_eql_slice_some_nil W _ _ _ Tryz.underlying87
  obtain ⟨i0, hi0, hz0, hz1, hz2⟩ := info_parts infoInstr
  have HO : Hid ((w.alloc (.cells #[] 178)).ownsRow w.heap.size 178 3 (.slice (some ⟨w.heap.size, 0, none⟩) 0 0) 0 []) := World.ownsRow_made w #[] 0 (Nat.le_refl _) (by unfold maxLen; omega) (by simp)
  go_enter Tryz.func121, Tryz.ntmps121
  go_wp2_with (at_builtin; refine stop ?_)
  unfold Stop
  refine wpList_app _ (.tmp 5) (.tmp 6) 87 rfl rfl w.heap.size 178 i0 _ 3 24 Tryz.underlying87 hi0 hz0 hz1 hz2 rfl (by omega) (.slice (some ⟨w.heap.size, 0, none⟩) 0 0) 0 [] rfl HO.out w.heap.size (some ad) n c (insCells p) rfl (H.out.alloc (Nat.le_refl _) _) (insCells_one p) (by unfold maxLen; omega) (by omega) (by simp) ?_
  intro A3 n3 c3 w8 hn3 ho3 hg3 hb3
  have HB3 := Lib.hid (((Below.refl _ w).alloc (Nat.le_refl _) _).trans hb3)
  clear hn3 ho3 hg3 hb3
  go_wp2
  go_ret
  exact ⟨_, _, _, rfl, HB3.out⟩
end Go.Proofs.YtklpeghhgoeeiaaGreatDoor
