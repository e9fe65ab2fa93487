/- The walks and laws that the claim leans on, part 33. -/
import Derived.Test.YtpihhlbfpbngaaaGreatDoorJaq
import Derived.Test.YtpihhlbfpbngaaaGreatDoorJaz
import Derived.Test.YtpihhlbfpbngaaaGreatDoorJba
namespace Go.Proofs.YtpihhlbfpbngaaaGreatDoor
open Go.RowKit Go.Maps
def chkR (s K : Nat) (cs : Nat → CS) (p kind : Nat) : Nat := if p = 0 then 1 else if p / 72057594037927936 ≠ 0 then 2 else match homeOf s K (pOff p) with
  | none => 2
  | some k => if (cs k).dv = true then (if (blkR (s + 32 * k) (cs k).cl (cs k).bs p).2 ≠ 0 then (blkR (s + 32 * k) (cs k).cl (cs k).bs p).2 else if kind ≠ 0 ∧ kind ≠ pKind p then 13 else 0) else 2
section
set_option maxRecDepth 100000
set_option maxHeartbeats 4000000
variable {a : DA} {L T s n K : Nat} {x : HA} {cs : Nat → CS} {f : Nat → Option Nat} {N m b0 : Nat} {S : Fp} {cur : Nat → Nat} {w w' : World}
theorem DS.home (h : DS a L T s n K x cs f N m b0 S cur w) (p : Nat) (W : World) (hW : Below w.heap.size w W) :
    Calls Tryz.prog 174 #[.pointer (some ⟨x.h, 0, none⟩), .int .u64 (pOff p : Int)] W fun e w' => ∃ (ln : Nat) (b : Bool), e = .returned (.tuple #[.int .i64 (ln : Int), .bool b]) ∧ HomeP s K (pOff p) ln b ∧ W = w' := by
  have h1 := h.hK
  have h2 := h.hL
  exact home_any (h.hs.heap.below hW h.hs.heap.lt) (by omega) (by omega) h1.1 (pOff p) (by unfold pOff; omega)
theorem check_any (h : DS a L T s n K x cs f N m b0 S cur w) (p kind : Nat) (hp64 : p < 18446744073709551616) (hk : kind < 256) :
    Calls Tryz.prog 83 #[.pointer (some ⟨x.h, 0, none⟩), .int .u64 (p : Int), .int .u8 (kind : Int)] w fun e w' => e = .returned (.int .i64 (chkR s K cs p kind : Int)) ∧ Below w.heap.size w w' := by
  have HD := Lib.hid h
  have HNil := Lib.hid (nil_any p w)
  have HEr : Hid (∀ W, Below w.heap.size w W → Calls Tryz.prog 76 #[.pointer (some ⟨a.th 0, 0, none⟩)] W fun e w' => e = .returned (.int .i64 0) ∧ W = w') := Lib.hid (fun W hW => thErr (h.dev.below hW))
  have HOf := Lib.hid (off_any p)
  have HKn := Lib.hid (kind_any p)
  have HHm := Lib.hid (h.home p w (Below.refl _ _))
  have hm := methErr (some ⟨a.th 0, 0, none⟩)
  have hx0 : w.cell? ⟨x.h, 0, none⟩ = some (.iface 35 (.pointer (some ⟨a.th 0, 0, none⟩))) := h.hs.heap.cell 0
  have HB0 : Hid (Below w.heap.size w w) := Below.refl _ _
  clear h
  by_cases hp0 : p = 0
  · have HR : Hid (chkR s K cs p kind = 1) := Lib.hid (by unfold chkR; rw [if_pos hp0])
    rw [decide_eq_true hp0] at HNil
    clear hp0
    go_enter Tryz.func83, Tryz.ntmps83
    go_wp2_with (go_at_call 44; refine HNil.out.mono ?_; rintro e w1 ⟨rfl, rfl⟩)
    go_ret
    exact ⟨by rw [HR.out]; rfl, HB0.out⟩
  · rw [decide_eq_false hp0] at HNil
    have HRR : Hid (chkR s K cs p kind = if p / 72057594037927936 ≠ 0 then 2 else match homeOf s K (pOff p) with
      | none => 2
      | some k => if (cs k).dv = true then (if (blkR (s + 32 * k) (cs k).cl (cs k).bs p).2 ≠ 0 then (blkR (s + 32 * k) (cs k).cl (cs k).bs p).2 else if kind ≠ 0 ∧ kind ≠ pKind p then 13 else 0) else 2) := Lib.hid (by unfold chkR; rw [if_neg hp0])
    clear hp0
    generalize chkR s K cs p kind = rr at *
    generalize hpo : pOff p = po at *
    have HPO := Lib.hid hpo
    clear hpo
    go_enter Tryz.func83, Tryz.ntmps83
    go_wp2_with (first
      | (go_at_call 44; refine HNil.out.mono ?_; rintro e w1 ⟨rfl, rfl⟩)
      | (go_at_call 76; refine (HEr.out _ HB0.out).mono ?_; rintro e w1 ⟨rfl, rfl⟩)
      | (go_at_call 68; refine (HOf.out _).mono ?_; rintro e w1 ⟨rfl, rfl⟩)
      | (go_at_call 174; refine HHm.out.mono ?_; rintro e w1 ⟨ln, b, rfl, hP, rfl⟩; refine stop ?_))
    unfold Stop
    clear HNil HOf HHm
    rcases hP with ⟨hho, rfl, rfl⟩ | ⟨k, hho, hk, rfl, rfl⟩
    · have HR : Hid (rr = 2) := Lib.hid (by rw [HRR.out, hho]; split <;> rfl)
      clear hho HRR
      go_wp2
      go_ret
      exact ⟨by rw [HR.out]; rfl, HB0.out⟩
    · rw [hho] at HRR
      clear hho
      dsimp only at HRR
      have HKk := Lib.hid hk
      by_cases hpt : p / 72057594037927936 = 0
      · rw [if_neg (fun hh => hh hpt)] at HRR
        have q0 : ((p : Int) / 72057594037927936 == 0) = true := by rw [beq_iff_eq]; omega
        have q1 : (p : Int) / 72057594037927936 = 0 := by omega
        clear hpt
        have hln := HD.out.line hk
        cases hd : (cs k).dv with
        | false =>
          have hu : cur (8 * (s + 32 * k)) = freeW (cs k).g ∧ 0 < (cs k).g ∧ (cs k).g < 65536 := by
            have := HD.out.ok k hk
            unfold CSok at this
            rw [hd] at this
            exact this
          have HR : Hid (rr = 2) := Lib.hid (by rw [HRR.out, hd]; rfl)
          have HOp := Lib.hid (chOpen_undiv HD.out.dev HD.out.tab (s + 32 * k) (cs k).g hln hu.2.1 hu.2.2 hu.1)
          unfold chNone memV at HOp
          clear HRR hd hu hk
          generalize ((s + 32 * k : Nat) : Int) = v at *
          go_wp2_with (go_at_call 171; refine HOp.out.mono ?_; rintro e w1 ⟨rfl, hb1⟩; refine stop ?_)
          unfold Stop
          have HB1 := Lib.hid (hb1.alloc hb1.size (.cells #[.nilIface, .int .i64 0, .int .i64 0, .int .i64 0, .int .u16 0] 262))
          have HEr1 := Lib.hid (HEr.out _ HB1.out)
          have hx1 : w1.cell? ⟨x.h, 0, none⟩ = some (.iface 35 (.pointer (some ⟨a.th 0, 0, none⟩))) := (HD.out.hs.heap.below hb1 HD.out.hs.heap.lt).cell 0
          have hxl : x.h < w1.heap.size := Nat.lt_of_lt_of_le HD.out.hs.heap.lt hb1.size
          clear hb1 HOp hx0
          go_wp2_with (go_at_call 76; refine HEr1.out.mono ?_; rintro e w2 ⟨rfl, rfl⟩)
          go_ret
          exact ⟨by rw [HR.out]; rfl, HB1.out⟩
        | true =>
          rw [hd] at HRR
          have hC := HD.out.chw hk hd
          have HOp := Lib.hid (chOpen_cls HD.out.dev HD.out.tab HD.out.pay (s + 32 * k) (cs k).cl (cs k).g hln hC.cls hC.g0 hC.g1 hC.hdr)
          have HBk : Hid (∀ W, Below w.heap.size w W → Calls Tryz.prog 175 #[chV a (s + 32 * k) (cs k).cl 0 (cs k).g, .int .u64 (p : Int)] W fun e w' => e = .returned (.tuple #[.int .i64 ((blkR (s + 32 * k) (cs k).cl (cs k).bs p).1 : Int), .int .i64 ((blkR (s + 32 * k) (cs k).cl (cs k).bs p).2 : Int)]) ∧ Below W.heap.size W w') := Lib.hid (fun W hW => chBlock_any (HD.out.dev.below hW) (HD.out.tab.below hW) (HD.out.pay.below hW) (s + 32 * k) (cs k).cl (cs k).g (cs k).V p (cs k).bs hln hC hp64)
          clear hC hd hln hk
          rw [if_pos rfl] at HRR
          generalize blkR (s + 32 * k) (cs k).cl (cs k).bs p = br at *
          obtain ⟨bi, be⟩ := br
          dsimp only at *
          unfold chV memV at *
          generalize s + 32 * k = ln at *
          generalize (cs k).cl = cl at *
          generalize (cs k).g = g at *
          go_wp2_with (go_at_call 171; refine HOp.out.mono ?_; rintro e w1 ⟨rfl, hb1⟩; refine stop ?_)
          unfold Stop
          have HB1 := Lib.hid (hb1.alloc hb1.size (.cells #[.iface 35 (.pointer (some ⟨a.th 0, 0, none⟩)), .int .i64 (ln : Int), .int .i64 (cl : Int), .int .i64 0, .int .u16 (g : Int)] 262))
          have HEr1 := Lib.hid (HEr.out _ HB1.out)
          have HBk1 := Lib.hid (HBk.out _ HB1.out)
          have hx1 : w1.cell? ⟨x.h, 0, none⟩ = some (.iface 35 (.pointer (some ⟨a.th 0, 0, none⟩))) := (HD.out.hs.heap.below hb1 HD.out.hs.heap.lt).cell 0
          have hxl : x.h < w1.heap.size := Nat.lt_of_lt_of_le HD.out.hs.heap.lt hb1.size
          clear hb1 HOp hx0 HBk
          by_cases hbe : be = 0
          · subst hbe
            rw [if_neg (fun hh => hh rfl)] at HRR
            by_cases hk0 : kind = 0
            · subst hk0
              rw [if_neg (fun hh => hh.1 rfl)] at HRR
              go_wp2_with (first
                | (go_at_call 76; refine HEr1.out.mono ?_; rintro e w2 ⟨rfl, rfl⟩)
                | (go_at_call 175; refine HBk1.out.mono ?_; rintro e w2 ⟨rfl, hb2⟩; have HB2 := Lib.hid (HB1.out.trans (hb2.mono HB1.out.size)); clear hb2))
              go_ret
              exact ⟨by rw [HRR.out]; rfl, HB2.out⟩
            · obtain ⟨g1, g2, g3, g4⟩ := nz_facts hk0
              by_cases hkd : kind = pKind p
              · have e1 : ((kind : Int) == (pKind p : Int)) = true := by rw [beq_iff_eq]; omega
                rw [if_neg (fun hh => hh.2 hkd)] at HRR
                clear hkd
                generalize pKind p = pk at *
                go_wp2_with (first
                  | (go_at_call 76; refine HEr1.out.mono ?_; rintro e w2 ⟨rfl, rfl⟩)
                  | (go_at_call 18; refine (HKn.out _).mono ?_; rintro e w3 ⟨rfl, rfl⟩)
                  | (go_at_call 175; refine HBk1.out.mono ?_; rintro e w2 ⟨rfl, hb2⟩; have HB2 := Lib.hid (HB1.out.trans (hb2.mono HB1.out.size)); clear hb2))
                go_ret
                exact ⟨by rw [HRR.out]; rfl, HB2.out⟩
              · have e1 : ((kind : Int) == (pKind p : Int)) = false := by rw [beq_eq_false_iff_ne]; omega
                rw [if_pos ⟨hk0, hkd⟩] at HRR
                clear hkd
                generalize pKind p = pk at *
                go_wp2_with (first
                  | (go_at_call 76; refine HEr1.out.mono ?_; rintro e w2 ⟨rfl, rfl⟩)
                  | (go_at_call 18; refine (HKn.out _).mono ?_; rintro e w3 ⟨rfl, rfl⟩)
                  | (go_at_call 175; refine HBk1.out.mono ?_; rintro e w2 ⟨rfl, hb2⟩; have HB2 := Lib.hid (HB1.out.trans (hb2.mono HB1.out.size)); clear hb2))
                go_ret
                exact ⟨by rw [HRR.out]; rfl, HB2.out⟩
          · rw [if_pos hbe] at HRR
            obtain ⟨g1, g2, g3, g4⟩ := nz_facts hbe
            clear hbe
            go_wp2_with (first
              | (go_at_call 76; refine HEr1.out.mono ?_; rintro e w2 ⟨rfl, rfl⟩)
              | (go_at_call 175; refine HBk1.out.mono ?_; rintro e w2 ⟨rfl, hb2⟩; have HB2 := Lib.hid (HB1.out.trans (hb2.mono HB1.out.size)); clear hb2))
            go_ret
            exact ⟨by rw [HRR.out]; rfl, HB2.out⟩
      · rw [if_pos hpt] at HRR
        have q0 : ((p : Int) / 72057594037927936 == 0) = false := by rw [beq_eq_false_iff_ne]; omega
        clear hpt
        generalize ((s + 32 * k : Nat) : Int) = v at *
        go_wp2
        go_ret
        exact ⟨by rw [HRR.out]; rfl, HB0.out⟩
end
end Go.Proofs.YtpihhlbfpbngaaaGreatDoor
namespace Go.Proofs.YtpihhlbfpbngaaaGreatDoor
open Go.RowKit Go.Maps Go.Shelf
def rdG (s : Nat) (cur : Nat → Nat) (ws : List (Nat × Nat)) (cm : Nat) : Nat → Nat := if ws = [] then cur else wrS (wrS (wrS (wrS cur (entW (64 * s) 0 ws)) [(64 * s, cm)]) ws) [(64 * s, 0)]
theorem wrS_oneG (cur : Nat → Nat) (o v i : Nat) : wrS cur [(o, v)] i = if i = o / 8 then v else cur i := rfl
section
variable {cur : Nat → Nat} {ws : List (Nat × Nat)} {cm s : Nat}
theorem rdG_get {L : Nat} (hg : ∀ e ∈ ws, OffOk L s 26 e.1) (hn : (ws.map (·.1)).Nodup) {e : Nat × Nat} (he : e ∈ ws) : rdG s cur ws cm (e.1 / 8) = e.2 := by
  unfold rdG
  have h1 := (hg e he).out
  have h2 := (hg e he).al
  rw [if_neg (fun h => by rw [h] at he; simp at he), wrS_oneG, if_neg (by omega)]
  exact wrS_get ws _ hn (fun x hx => (hg x hx).al) e he
theorem rdG_rest (hl : ws.length ≤ 96) {i : Nat} (hi : i < 8 * s ∨ 8 * s + 208 ≤ i) (ho : ∀ e ∈ ws, e.1 / 8 ≠ i) : rdG s cur ws cm i = cur i := by
  unfold rdG
  split
  · rfl
  · rw [wrS_oneG, if_neg (by omega), wrS_other ws _ _ ho, wrS_oneG, if_neg (by omega), wrS_out s ws 0 i cur (by omega)]
theorem rdG_idle (h : cur (8 * s) = 0) : rdG s cur ws cm (8 * s) = 0 := by
  unfold rdG
  split
  · exact h
  · rw [wrS_oneG, if_pos (by omega)]
theorem rdG_bnd (h : ∀ i, cur i < 18446744073709551616) (hg : ∀ e ∈ ws, e.1 < 18446744073709551616 ∧ e.2 < 18446744073709551616) (hc : cm < 18446744073709551616) (i : Nat) : rdG s cur ws cm i < 18446744073709551616 := by
  unfold rdG
  split
  · exact h i
  · refine wrS_bnd _ _ (wrS_bnd _ _ (wrS_bnd _ _ (wrS_bnd _ _ h ?_) ?_) (fun e he => (hg e he).2)) ?_ i
    · intro e he
      obtain ⟨j, _, _, x, hx, h1 | h1⟩ := entW_mem _ _ _ _ he
      · rw [h1]; exact (hg x hx).1
      · rw [h1]; exact (hg x hx).2
    · intro e he
      simp at he
      subst he
      exact hc
    · intro e he
      simp at he
      subst he
      show 0 < _
      omega
end
theorem run_redoG {a : DA} {L T s : Nat} {w : World} {S : Fp} {cur : Nat → Nat} (h : Dev a L T w S cur 0) {A : Option Addr} {m c base : Nat} {p : List Ins} {ws : List (Nat × Nat)} (ho : w.ownsRow base 237 3 (.slice A m c) m (insCells p)) (hb : ∀ k, S k → k < base) (hp : IsRedo s ws p)
    (hw : ∀ e ∈ ws, OffOk L s 26 e.1) (hv : ∀ e ∈ ws, e.2 < 18446744073709551616) (hl : ws.length ≤ 96) (hsL : s + 26 ≤ L) (hT : T + 800 ≤ 1000000000) :
    Calls Tryz.prog 73 #[.slice A m c, memV a] w fun e w' => ∃ cm, cm < 18446744073709551616 ∧ RetDev a L (T + 800) w S (rdG s cur ws cm) 0 (.int .i64 0) e w' := by
  have hL : L ≤ 4096 := by obtain ⟨ls, exe, per, cs, lsC, hdc, hnt⟩ := h; exact hdc.hL
  rcases hp with ⟨rfl, rfl⟩ | ⟨hne, cm, p1, p2, p3, hcm, hp1, hp2, ⟨p4, p5, hp4, hp5, rfl⟩, rfl⟩
  · have hm : m = 0 := by have := ho.1; simp [insCells] at this; omega
    subst hm
    refine (run_any h A 0 c [] (Reads.of_own ho) (own_off ho hb) rfl (by omega) (by omega)).mono ?_
    rintro e w' ⟨he, S', hd, hc, hgr⟩
    exact ⟨0, by omega, he, S', hd.more (by omega) (by omega), hc, hgr⟩
  · have h1 : ∀ e ∈ entW (64 * s) 0 ws, e.1 % 8 = 0 ∧ e.1 < 64 * L ∧ e.2 < 18446744073709551616 := fun e he => by
      obtain ⟨j, hj, h1, x, hx, h2⟩ := entW_mem _ _ _ _ he
      have := (hw x hx).lt
      have := hv x hx
      refine ⟨by omega, by omega, ?_⟩
      rcases h2 with h2 | h2 <;> omega
    have h2 : ∀ v, v < 18446744073709551616 → ∀ e ∈ [((64 * s : Nat), v)], e.1 % 8 = 0 ∧ e.1 < 64 * L ∧ e.2 < 18446744073709551616 := fun v hv e he => by
      simp only [List.mem_cons, List.not_mem_nil, or_false] at he
      subst he
      exact ⟨by show 64 * s % 8 = 0; omega, by show 64 * s < 64 * L; omega, hv⟩
    have h3 : ∀ e ∈ ws, e.1 % 8 = 0 ∧ e.1 < 64 * L ∧ e.2 < 18446744073709551616 := fun e he => ⟨(hw e he).al, (hw e he).lt, hv e he⟩
    obtain ⟨hg1, hr1, hlen1⟩ := isStores_good hp1 h1 cur
    obtain ⟨hg2, hr2, hlen2⟩ := isStores_good hp2 (h2 cm hcm) (wrS cur (entW (64 * s) 0 ws))
    obtain ⟨hg4, hr4, hlen4⟩ := isStores_good hp4 h3 (wrS (wrS cur (entW (64 * s) 0 ws)) [(64 * s, cm)])
    obtain ⟨hg5, hr5, hlen5⟩ := isStores_good hp5 (h2 0 (by omega)) (wrS (wrS (wrS cur (entW (64 * s) 0 ws)) [(64 * s, cm)]) ws)
    have hm : (p1 ++ p2 ++ (p4 ++ p5)).length = m := by have := ho.1; rw [insCells_len] at this; omega
    rw [entW_len] at hlen1
    simp only [List.length_append, List.length_cons, List.length_nil] at hm hlen2 hlen5
    refine (run_any h A m c _ (Reads.of_own ho) (own_off ho hb) (goodP_app (goodP_app hg1 hg2) (goodP_app hg4 hg5)) (by omega) (by omega)).mono ?_
    rintro e w' ⟨he, S', hd, hc, hgr⟩
    rw [runP_app, runP_app, runP_app, hr1, hr2, hr4, hr5] at hd
    have hrd : rdG s cur ws cm = wrS (wrS (wrS (wrS cur (entW (64 * s) 0 ws)) [(64 * s, cm)]) ws) [(64 * s, 0)] := by unfold rdG; rw [if_neg hne]
    rw [← hrd] at hd
    exact ⟨cm, hcm, he, S', hd.more (by omega) (by omega), hc, hgr⟩
def RetCmG (a : DA) (L s T' : Nat) (w : World) (S : Fp) (cur : Nat → Nat) (ws : List (Nat × Nat)) (e : Ending) (w' : World) : Prop := ∃ cm, cm < 18446744073709551616 ∧ RetDev a L T' w S (rdG s cur ws cm) 0 (.int .i64 0) e w'
set_option maxRecDepth 100000 in
set_option maxHeartbeats 1000000 in
theorem commitG_any {a : DA} {L T s : Nat} {w : World} {S : Fp} {cur : Nat → Nat} (h : Dev a L T w S cur 0) (g : Nat) (hB : Blk w g 247 (logCells a s 26))
    (A : Option Addr) (N c : Nat) (ws : List (Nat × Nat)) (hr : Reads w w.heap.size 2 A N (wrCells ws)) (hd : Diff ws) (ho : ∀ e ∈ ws, OffOk L s 26 e.1) (hv : ∀ e ∈ ws, e.2 < 18446744073709551616) (hN : N ≤ 96) (hidle : cur (8 * s) = 0) (ht : Tab w) (hsL : s + 26 ≤ L) (hT : T + 800 ≤ 1000000000) :
    Calls Tryz.prog 80 #[.pointer (some ⟨g, 0, none⟩), .slice A N c] w (RetCmG a L s (T + 800) w S cur ws) := by
  have HP := Lib.hid (planR_any h g s 26 hB hsL (by omega) A N c ws hr hd ho hv hN hidle ht)
  have hlen : ws.length = N := by have := hr.1; rw [wrCells_len] at this; omega
  have HRn : Hid (∀ W A1 m1 c1 p, Below w.heap.size w W → W.ownsRow w.heap.size 237 3 (.slice A1 m1 c1) m1 (insCells p) → IsRedo s ws p → Calls Tryz.prog 73 #[.slice A1 m1 c1, memV a] W fun e w' => ∃ cm, cm < 18446744073709551616 ∧ RetDev a L (T + 800) W S (rdG s cur ws cm) 0 (.int .i64 0) e w') := Lib.hid (fun W A1 m1 c1 p hW hown hp =>
    run_redoG (h.below hW) hown h.lt hp ho hv (by omega) hsL hT)
  have HBB := Lib.hid hB
  clear h hB hr hd ho hv hN hidle ht hlen
  go_enter Tryz.func80, Tryz.ntmps80
  go_wp2_with fail
  refine HP.out.mono ?_
  rintro e W1 ⟨A1, m1, c1, p, rfl, hp, ho1, hb1⟩
  have f0 : W1.cell? ⟨g, 0, none⟩ = some (memV a) := (HBB.out.below hb1 HBB.out.lt).cell 0
  have HR := Lib.hid (HRn.out W1 A1 m1 c1 p hb1 ho1 hp)
  have HB1 := Lib.hid hb1
  unfold memV at f0
  unfold memV at HR
  clear hp ho1 hb1 HP HRn
  go_wp2_with fail
  refine HR.out.mono ?_
  rintro e W2 ⟨cm, hcm, rfl, S2, hd2, hc2, hg2⟩
  have H2 := Lib.hid (show Dev a L (T + 800) W2 S2 (rdG s cur ws cm) 0 ∧ Chg S W1 W2 ∧ Grew S S2 W1 from ⟨hd2, hc2, hg2⟩)
  clear hd2 hc2 hg2 HR
  go_wp2
  go_ret
  obtain ⟨hd2, hc2, hg2⟩ := H2.out
  exact ⟨cm, hcm, rfl, S2, hd2, (Chg.of_below HB1.out).trans hc2 (Grew.refl _ _), fun k hk => (hg2 k hk).imp id (fun h => Nat.le_trans HB1.out.size h)⟩
end Go.Proofs.YtpihhlbfpbngaaaGreatDoor
namespace Go.Proofs.YtpihhlbfpbngaaaGreatDoor
open Go.RowKit Go.Maps
section
set_option maxRecDepth 100000
set_option maxHeartbeats 4000000
variable {a : DA} {L T s n K : Nat} {x : HA} {cs : Nat → CS} {f : Nat → Option Nat} {N m b0 : Nat} {S : Fp} {cur : Nat → Nat} {w w' : World}
theorem hPlace_any (h : DS a L T s n K x cs f N m b0 S cur w) {k i : Nat} (hk : k < K) (hd : (cs k).dv = true) (hi : i < perC (cs k).cl) (p : Nat) (hpo : pOff p = offO s cs k i) :
    Calls Tryz.prog 146 #[.pointer (some ⟨x.h, 0, none⟩), .int .u64 (p : Int)] w fun e w' => e = .returned (.tuple #[.int .i64 ((s + 32 * k : Nat) : Int), .int .i64 (i : Int), .int .i64 ((cs k).cl : Int)]) ∧ Below w.heap.size w w' := by
  have hC := h.chw hk hd
  have hln := h.line hk
  have hL := h.hL
  have HD := Lib.hid h
  have HOf : Hid (∀ W, Calls Tryz.prog 68 #[.int .u64 (p : Int)] W fun e w' => e = .returned (.int .u64 (offO s cs k i : Int)) ∧ W = w') := Lib.hid (fun W => by have h2 := off_any p W; rw [hpo] at h2; exact h2)
  have hho : homeOf s K (offO s cs k i) = some k := homeOf_blk hk hi
  have HHm := Lib.hid (h.home p w (Below.refl _ _))
  rw [hpo] at HHm
  have HHo := Lib.hid hho
  have HOp := Lib.hid (chOpen_cls h.dev h.tab h.pay (s + 32 * k) (cs k).cl (cs k).g hln hC.cls hC.g0 hC.g1 hC.hdr)
  have HCc : Hid (∀ W, Below w.heap.size w W → Calls Tryz.prog 202 #[chV a (s + 32 * k) (cs k).cl 0 (cs k).g] W fun e w' => e = .returned (.int .i64 ((cs k).cl : Int)) ∧ Below W.heap.size W w') := Lib.hid (fun W _ => chClass_any a _ _ _ _ W)
  have hfc := findC_off hi
  have HFi : Hid (∀ W, Below w.heap.size w W → Calls Tryz.prog 237 #[.int .i64 ((cs k).cl : Int), .int .i64 ((offB (cs k).cl i + 1 : Nat) : Int)] W fun e w' => e = .returned (.tuple #[.int .i64 (i : Int), .bool true]) ∧ W = w') := Lib.hid (fun W hW => by
    have h1 := szFind_any (cs k).cl (offB (cs k).cl i + 1) hC.cls (by have := off_lt hi; omega) W (h.pay.below hW)
    unfold findR at h1
    rw [hfc] at h1
    exact h1)
  have hx0 : w.cell? ⟨x.h, 0, none⟩ = some (.iface 35 (.pointer (some ⟨a.th 0, 0, none⟩))) := h.hs.heap.cell 0
  have ho := off_lt hi
  have hoe : offO s cs k i = 64 * (s + 32 * k) + 8 * offB (cs k).cl i + 8 := rfl
  have hob := offB_ge (cs k).cl i
  clear h hC hpo hho hd hfc
  have HE : Hid (s + 32 * k = s + 32 * k) := Lib.hid rfl
  generalize hlne : s + 32 * k = ln at *
  have HLE := Lib.hid hlne
  clear hlne HE
  have u1 : IntKind.u64.wrap (ln : Int) = (ln : Int) := by rw [IntKind.wrap_u64]; omega
  have u2 : IntKind.u64.wrap ((ln : Int) * 64) = (ln : Int) * 64 := by rw [IntKind.wrap_u64]; omega
  obtain ⟨y, hy⟩ : ∃ y, 8 * offB (cs k).cl i + 8 = y := ⟨_, rfl⟩
  have u3 : IntKind.u64.wrap ((offO s cs k i : Int) - (ln : Int) * 64) = (y : Int) := by rw [IntKind.wrap_u64, hoe]; omega
  have u4 : (y : Int) / 8 = ((offB (cs k).cl i + 1 : Nat) : Int) := by omega
  have u5 : IntKind.i64.wrap ((offB (cs k).cl i + 1 : Nat) : Int) = ((offB (cs k).cl i + 1 : Nat) : Int) := IntWalk.i64_in _ (by omega)
  have uq : IntKind.u64.wrap ((offB (cs k).cl i + 1 : Nat) : Int) = ((offB (cs k).cl i + 1 : Nat) : Int) := by rw [IntKind.wrap_u64]; omega
  have hq : ((offB (cs k).cl i + 1 : Nat) : Int) ≤ 256 := by omega
  clear hoe hy
  generalize offB (cs k).cl i + 1 = q at *
  generalize offO s cs k i = o at *
  unfold chV memV at *
  generalize (cs k).cl = cl at *
  generalize (cs k).g = g at *
  go_enter Tryz.func146, Tryz.ntmps146
  go_wp2_with (first
    | (go_at_call 68; refine (HOf.out _).mono ?_; rintro e w1 ⟨rfl, rfl⟩)
    | (go_at_call 174; refine HHm.out.mono ?_; rintro e w1 ⟨l1, b1, rfl, hP, rfl⟩; refine stop ?_))
  unfold Stop
  have hlb : l1 = ln ∧ b1 = true := by
    rcases hP with ⟨h1, _, _⟩ | ⟨k', h1, _, h3, h4⟩
    · rw [HHo.out] at h1; cases h1
    · rw [HHo.out] at h1
      injection h1 with h1
      subst h1
      exact ⟨by rw [h3]; exact HLE.out, h4⟩
  obtain ⟨rfl, rfl⟩ := hlb
  clear hP HHo HHm
  go_wp2_with (go_at_call 171; refine HOp.out.mono ?_; rintro e w1 ⟨rfl, hb1⟩; refine stop ?_)
  unfold Stop
  have HB1 := Lib.hid (hb1.alloc hb1.size (.cells #[.iface 35 (.pointer (some ⟨a.th 0, 0, none⟩)), .int .i64 (l1 : Int), .int .i64 (cl : Int), .int .i64 0, .int .u16 (g : Int)] 262))
  have HK1 := Lib.hid (Blk.new w1 262 #[.iface 35 (.pointer (some ⟨a.th 0, 0, none⟩)), .int .i64 (l1 : Int), .int .i64 (cl : Int), .int .i64 0, .int .u16 (g : Int)])
  clear hb1 HOp hx0
  generalize hW1 : w1.alloc (.cells #[.iface 35 (.pointer (some ⟨a.th 0, 0, none⟩)), .int .i64 (l1 : Int), .int .i64 (cl : Int), .int .i64 0, .int .u16 (g : Int)] 262) = W1 at *
  have HW1 := Lib.hid hW1.symm
  clear hW1
  have hc0 : W1.cell? ⟨w1.heap.size, 0, none⟩ = some (.iface 35 (.pointer (some ⟨a.th 0, 0, none⟩))) := HK1.out.cell 0
  have hc1 : W1.cell? ⟨w1.heap.size, 1, none⟩ = some (.int .i64 (l1 : Int)) := HK1.out.cell 1
  have hc2 : W1.cell? ⟨w1.heap.size, 2, none⟩ = some (.int .i64 (cl : Int)) := HK1.out.cell 2
  have hc3 : W1.cell? ⟨w1.heap.size, 3, none⟩ = some (.int .i64 0) := HK1.out.cell 3
  have hc4 : W1.cell? ⟨w1.heap.size, 4, none⟩ = some (.int .u16 (g : Int)) := HK1.out.cell 4
  go_wp2_with (first
    | (go_at_call 68; refine (HOf.out _).mono ?_; rintro e w1 ⟨rfl, rfl⟩)
    | (go_at_call 202; refine stop ?_))
  unfold Stop
  rw [← HW1.out]
  refine (HCc.out W1 HB1.out).mono ?_
  rintro e W2 ⟨rfl, hb2⟩
  have HB2 := Lib.hid (HB1.out.trans (hb2.mono HB1.out.size))
  have HK2 := Lib.hid (HK1.out.below hb2 HK1.out.lt)
  have HF2 := Lib.hid (HFi.out W2 HB2.out)
  have HC2 := Lib.hid (HCc.out W2 HB2.out)
  have hd0 : W2.cell? ⟨w1.heap.size, 0, none⟩ = some (.iface 35 (.pointer (some ⟨a.th 0, 0, none⟩))) := HK2.out.cell 0
  have hd1 : W2.cell? ⟨w1.heap.size, 1, none⟩ = some (.int .i64 (l1 : Int)) := HK2.out.cell 1
  have hd2 : W2.cell? ⟨w1.heap.size, 2, none⟩ = some (.int .i64 (cl : Int)) := HK2.out.cell 2
  have hd3 : W2.cell? ⟨w1.heap.size, 3, none⟩ = some (.int .i64 0) := HK2.out.cell 3
  have hd4 : W2.cell? ⟨w1.heap.size, 4, none⟩ = some (.int .u16 (g : Int)) := HK2.out.cell 4
  clear hb2 hc0 hc1 hc2 hc3 hc4 HCc HFi HOf
  go_wp2_with (first
    | (go_at_call 237; refine HF2.out.mono ?_; rintro e w3 ⟨rfl, rfl⟩)
    | (go_at_call 202; refine HC2.out.mono ?_; rintro e W3 ⟨rfl, hb3⟩; have HB3 := Lib.hid (HB2.out.trans (hb3.mono HB2.out.size)); clear hb3))
  go_ret3
  exact ⟨rfl, HB3.out⟩
theorem hWords_any (h : DS a L T s n K x cs f N m b0 S cur w) {k i : Nat} (hk : k < K) (hd : (cs k).dv = true) (hi : i < perC (cs k).cl) (p : Nat) (hpo : pOff p = offO s cs k i) (hp0 : p ≠ 0) (hp64 : p < 18446744073709551616) (hc : f (pOff p) = some p ∨ chkR s K cs p 0 = 0) :
    Calls Tryz.prog 61 #[.pointer (some ⟨x.h, 0, none⟩), .int .u64 (p : Int)] w fun e w' => e = .returned (.tuple #[.int .i64 (payW (cs k).cl : Int), .int .i64 0]) ∧ Below w.heap.size w w' := by
  have HD := Lib.hid h
  have hC := h.chw hk hd
  have HNil := Lib.hid (nil_any p w)
  rw [decide_eq_false hp0] at HNil
  have HEr : Hid (∀ W, Below w.heap.size w W → Calls Tryz.prog 76 #[.pointer (some ⟨a.th 0, 0, none⟩)] W fun e w' => e = .returned (.int .i64 0) ∧ W = w') := Lib.hid (fun W hW => thErr (h.dev.below hW))
  have HHo := Lib.hid (holds_any h.hs p)
  have HCh : Hid (f (pOff p) ≠ some p → ∀ W, Below w.heap.size w W → Calls Tryz.prog 83 #[.pointer (some ⟨x.h, 0, none⟩), .int .u64 (p : Int), .int .u8 0] W fun e w' => e = .returned (.int .i64 0) ∧ Below W.heap.size W w') := Lib.hid (fun hn W hW => by
    have h1 := check_any (h.below hW) p 0 hp64 (by omega)
    rw [hc.resolve_left hn] at h1
    exact h1)
  have HPl : Hid (∀ W, Below w.heap.size w W → Calls Tryz.prog 146 #[.pointer (some ⟨x.h, 0, none⟩), .int .u64 (p : Int)] W fun e w' => e = .returned (.tuple #[.int .i64 ((s + 32 * k : Nat) : Int), .int .i64 (i : Int), .int .i64 ((cs k).cl : Int)]) ∧ Below W.heap.size W w') := Lib.hid (fun W hW => hPlace_any (h.below hW) hk hd hi p hpo)
  have HWo : Hid (∀ W, Below w.heap.size w W → Calls Tryz.prog 147 #[.int .i64 ((cs k).cl : Int)] W fun e w' => e = .returned (.int .i64 (payW (cs k).cl : Int)) ∧ W = w') := Lib.hid (fun W hW => szWords_any _ hC.cls W (h.pay.below hW))
  have hm := methErr (some ⟨a.th 0, 0, none⟩)
  have HH : Hid (∀ W, Below w.heap.size w W → W.cell? ⟨x.h, 0, none⟩ = some (.iface 35 (.pointer (some ⟨a.th 0, 0, none⟩)))) := Lib.hid (fun W hW => (h.hs.heap.below hW h.hs.heap.lt).cell 0)
  have hx0 := HH.out w (Below.refl _ _)
  have HB0 : Hid (Below w.heap.size w w) := Below.refl _ _
  clear h hC hpo hc hi hd
  generalize ((s + 32 * k : Nat) : Int) = v at *
  generalize (cs k).cl = cl at *
  generalize payW cl = r at *
  go_enter Tryz.func61, Tryz.ntmps61
  go_wp2_with (first
    | (go_at_call 44; refine HNil.out.mono ?_; rintro e w1 ⟨rfl, rfl⟩)
    | (go_at_call 76; refine (HEr.out _ HB0.out).mono ?_; rintro e w1 ⟨rfl, rfl⟩)
    | (go_at_call 145; refine HHo.out.mono ?_; rintro e w1 ⟨rfl, hb1⟩; refine stop ?_))
  unfold Stop
  have HB1 := Lib.hid hb1
  clear hb1 HNil HHo hx0
  by_cases hf : f (pOff p) = some p
  · rw [decide_eq_true hf]
    clear HCh hf
    go_wp2_with (go_at_call 146; refine (HPl.out _ HB1.out).mono ?_; rintro e w2 ⟨rfl, hb2⟩; refine stop ?_)
    unfold Stop
    have HB2 := Lib.hid (HB1.out.trans (hb2.mono HB1.out.size))
    have hx2 := HH.out w2 HB2.out
    clear hb2
    go_wp2_with (first
      | (go_at_call 76; refine (HEr.out _ HB2.out).mono ?_; rintro e w1 ⟨rfl, rfl⟩)
      | (go_at_call 147; refine (HWo.out _ HB2.out).mono ?_; rintro e w1 ⟨rfl, rfl⟩))
    go_ret2
    exact ⟨rfl, HB2.out⟩
  · rw [decide_eq_false hf]
    have HC1 := Lib.hid (HCh.out hf _ HB1.out)
    clear HCh hf
    go_wp2_with (go_at_call 83; refine HC1.out.mono ?_; rintro e w2 ⟨rfl, hb2⟩; refine stop ?_)
    unfold Stop
    have HB2 := Lib.hid (HB1.out.trans (hb2.mono HB1.out.size))
    clear hb2 HC1
    go_wp2_with (go_at_call 146; refine (HPl.out _ HB2.out).mono ?_; rintro e w3 ⟨rfl, hb3⟩; refine stop ?_)
    unfold Stop
    have HB3 := Lib.hid (HB2.out.trans (hb3.mono HB2.out.size))
    have hx2 := HH.out w3 HB3.out
    clear hb3
    go_wp2_with (first
      | (go_at_call 76; refine (HEr.out _ HB3.out).mono ?_; rintro e w1 ⟨rfl, rfl⟩)
      | (go_at_call 147; refine (HWo.out _ HB3.out).mono ?_; rintro e w1 ⟨rfl, rfl⟩))
    go_ret2
    exact ⟨rfl, HB3.out⟩
end
end Go.Proofs.YtpihhlbfpbngaaaGreatDoor
