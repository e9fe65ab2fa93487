/- The walks and laws that the claim leans on, part 2: each part says ahead of its lines what it holds. -/
import Derived.Test.YtklpeghhgoeeiaaGreatDoorJEndsa
/- bedrocklaw24: TxEnds. -/
namespace Go.Proofs.YtklpeghhgoeeiaaGreatDoor
open Go.RowKit Go.Maps Go.Sort Go.Shelf
set_option maxRecDepth 100000 in
set_option maxHeartbeats 2000000 in
theorem txEnds_law (w : World) (ht : Tab w) {v0 v1 v2 : Value} (u : Bool × Bool) (h0 : v0 = .agg #[.bool u.1, .bool u.2]) (v : Nat) (h1 : v1 = .int .u64 (v : Int) ∧ v < 18446744073709551616) (nw : Nat) (h2 : v2 = .int .u8 (nw : Int) ∧ nw < 256) :
    Calls Tryz.prog 7 #[v0, v1, v2] w fun e w' => e = .returned (.bool true) ∧ Below w.heap.size w w' := by
  obtain ⟨u, ab⟩ := u
  subst h0
  obtain ⟨rfl, hv⟩ := h1
  obtain ⟨rfl, _⟩ := h2
  have HV := Lib.hid hv
  have hb0 : Below w.heap.size w (w.alloc (.cells #[.bool u, .bool ab] 70)) := (Below.refl _ w).alloc (Nat.le_refl _) _
  have HTa := Lib.hid (ht.below hb0)
  have HAw := Lib.hid (awake_any _ (ht.below hb0))
  have HB0 := Lib.hid hb0
  have HBx := Lib.hid (Blk.new w 70 #[.bool u, .bool ab])
  clear ht hv hb0
  go_enter Tryz.func7, Tryz.ntmps7
  go_wp2_with fail
  have HSz : Hid (w.heap.size < (w.alloc (.cells #[.bool u, .bool ab] 70)).heap.size) := Lib.hid (by simp)
  generalize w.alloc (.cells #[.bool u, .bool ab] 70) = W0 at *
  refine HAw.out.mono ?_
  rintro e w1 ⟨rfl, hb1⟩
  have HB1 := Lib.hid (HB0.out.trans (hb1.drew.mono HB0.out.size))
  have b0 : w1.cell? ⟨w.heap.size, 0, none⟩ = some (.bool u) := (HBx.out.below hb1 HSz.out).cell 0
  have b1 : w1.cell? ⟨w.heap.size, 1, none⟩ = some (.bool ab) := (HBx.out.below hb1 HSz.out).cell 1
  have HMa := Lib.hid (made_any w1.drew (HTa.out.below hb1.drew))
  clear hb1 HAw HBx HB0 HTa HSz
  go_wp2_with fail
  go_region
  go_wp2_with fail
  clear b0 b1
  generalize w1.drew = w1 at *
  refine HMa.out.mono ?_
  rintro e w2 ⟨a, S, T, cur, gw, x, cs, rfl, hM⟩
  obtain ⟨c, HW0, hgw, hB⟩ : ∃ c : CX, Hid (c.w0 = w1) ∧ c.gw = gw ∧ Base c w2 S false none cur T := ⟨_, Lib.hid rfl, rfl, hM.base⟩
  subst hgw
  have HB := Lib.hid hB
  have HU : Hid (cur 240 = 0 ∧ (∀ i, cur i < 18446744073709551616) ∧ cur 0 = 1 ∧ cur 1 = 2 ∧ T ≤ 1000) := Lib.hid ⟨hM.pool.u, fun i => by rw [hM.is_]; exact curM_bnd i, hM.word 0 (by omega), hM.word 1 (by omega), Nat.le_trans hM.few (by omega)⟩
  have k2 : w2.cell? ⟨c.gw, 2, none⟩ = some (.pointer (some ⟨c.x.m, 0, none⟩)) := by
    obtain ⟨_, _, _, h2⟩ := hB.cells
    exact (hB.blk.cell 2).trans h2
  clear hM hB HMa
  cases u
  · have HBg := Lib.hid (begin_any HB.out 1 (.inl rfl))
    clear HB
    go_wp2_with fail
    refine HBg.out.mono ?_
    rintro e w5 ⟨g, t, rfl, hf, hx, _⟩
    have HSt := Lib.hid (held_first hx hf (.inl rfl) HU.out.1 HU.out.2.1 HU.out.2.2.2.2 v HV.out)
    clear hf hx HBg k2
    go_wp2_with fail
    refine HSt.out.mono ?_
    rintro e w6 ⟨rfl, hh⟩
    have hou := held_out hh 77824 1 (.inr (by omega))
    rw [show ((77824 : Nat) : Int) = 77824 from rfl, show ((1 : Nat) : Int) = 1 from rfl] at hou
    have HOu := Lib.hid hou
    clear hh hou HSt
    go_wp2_with fail
    refine HOu.out.mono ?_
    rintro e w7 ⟨rfl, hh⟩
    have HEr := Lib.hid (held_err hh)
    have HAb := Lib.hid (held_abort hh (.inl rfl))
    have HCm := Lib.hid (held_commit hh (.inl rfl))
    clear hh HOu
    go_wp2_with fail
    refine HEr.out.mono ?_
    rintro e w1' ⟨rfl, rfl⟩
    clear HEr
    cases ab
    · go_wp2_with fail
      refine HCm.out.mono ?_
      rintro e w8 ⟨rfl, S8, t8, cur8, T8, hx8, hb8⟩
      clear HAb HCm
      have k0 : w8.cell? ⟨c.gw, 0, none⟩ = some (.pointer (some ⟨c.a.d, 0, none⟩)) := by
        obtain ⟨_, h2, _, _⟩ := hx8.base.cells
        exact (hx8.base.blk.cell 0).trans h2
      have HTh := Lib.hid (thread_any hx8.base.dev)
      have HSo := Lib.hid (done_store hx8 0 99)
      have HAl := Lib.hid (done_alloc hx8)
      have hl := load_dev hx8.base.dev (j := 0) (by omega) 8 (by omega) (by omega)
      have hl0 := load_dev hx8.base.dev (j := 0) (by omega) 0 (by omega) (by omega)
      have hm := done_load hx8 8 (by omega) (by omega)
      rw [show 8 / 8 = 1 from rfl, hb8 1 (.inl (by omega)), HU.out.2.2.2.1, show ((8 : Nat) : Int) = 8 from rfl, show ((2 : Nat) : Int) = 2 from rfl] at hl hm
      rw [show 0 / 8 = 0 from rfl, hb8 0 (.inl (by omega)), HU.out.2.2.1, show ((0 : Nat) : Int) = 0 from rfl, show ((1 : Nat) : Int) = 1 from rfl] at hl0
      have HL := Lib.hid hl
      have HL0 := Lib.hid hl0
      have HM := Lib.hid hm
      have HPu := Lib.hid (done_publish hx8)
      have HFr := Lib.hid (done_free hx8 1)
      have HX8 := Lib.hid hx8
      clear hl hl0 hm hx8 hb8
      go_wp2_with (first
        | (go_at_call 18; refine HTh.out.mono ?_; rintro e w1' ⟨rfl, rfl⟩)
        | (go_at_call 13; refine HSo.out.mono ?_; rintro e w1' ⟨rfl, rfl⟩)
        | (go_at_call 30; refine (HAl.out _ _).mono ?_; rintro e w1' ⟨rfl, rfl⟩)
        | (go_at_call 19; first | (refine HL.out.mono ?_; rintro e w1' ⟨rfl, rfl⟩; clear HL) | (refine HL0.out.mono ?_; rintro e w1' ⟨rfl, rfl⟩))
        | (go_at_call 15; refine HM.out.mono ?_; rintro e w1' ⟨rfl, rfl⟩)
        | (go_at_call 25; refine (HPu.out _ _ _).mono ?_; rintro e w1' ⟨rfl, rfl⟩)
        | (go_at_call 34; refine stop ?_))
      unfold Stop
      refine HFr.out.mono ?_
      rintro e w9 ⟨rfl, hb9⟩
      have HX9 := Lib.hid (HX8.out.more_ hb9)
      have HSv := Lib.hid (done_save HX9.out)
      have HRb := Lib.hid (done_rollback HX9.out 0)
      clear hb9 k0 HTh HSo HAl HL0 HM HPu HFr HX8
      go_wp2_with (first
        | (go_at_call 14; refine HSv.out.mono ?_; rintro e w1' ⟨rfl, rfl⟩)
        | (go_at_call 16; refine stop ?_))
      unfold Stop
      refine HRb.out.mono ?_
      rintro e wA ⟨rfl, hbA⟩
      have HXA := Lib.hid (HX9.out.more_ hbA)
      have HCo := Lib.hid (done_commit HXA.out)
      have HAo := Lib.hid (done_abort HXA.out)
      have HOp := Lib.hid (done_open HXA.out)
      have HAc := Lib.hid (done_active HXA.out)
      have kA : wA.cell? ⟨c.gw, 2, none⟩ = some (.pointer (some ⟨c.x.m, 0, none⟩)) := by
        obtain ⟨_, _, _, h2⟩ := HXA.out.base.cells
        exact (HXA.out.base.blk.cell 2).trans h2
      have HBe : Hid (Below w.heap.size w wA) := Lib.hid (by
        have h := HXA.out.base.below
        rw [HW0.out] at h
        exact HB1.out.trans (h.mono HB1.out.size))
      clear hbA HX9 HSv HRb
      go_wp2_with (first
        | (go_at_call 17; refine HCo.out.mono ?_; rintro e w1' ⟨rfl, rfl⟩)
        | (go_at_call 31; refine HAo.out.mono ?_; rintro e w1' ⟨rfl, rfl⟩)
        | (go_at_call 26; refine HOp.out.mono ?_; rintro e w1' ⟨rfl, rfl⟩)
        | (go_at_call 29; refine HAc.out.mono ?_; rintro e w1' ⟨rfl, rfl⟩)
        | go_in)
      go_ret
      exact ⟨rfl, HBe.out⟩
    · go_wp2_with fail
      refine HAb.out.mono ?_
      rintro e w8 ⟨rfl, S8, t8, cur8, T8, hx8, hb8⟩
      clear HAb HCm
      have k0 : w8.cell? ⟨c.gw, 0, none⟩ = some (.pointer (some ⟨c.a.d, 0, none⟩)) := by
        obtain ⟨_, h2, _, _⟩ := hx8.base.cells
        exact (hx8.base.blk.cell 0).trans h2
      have HTh := Lib.hid (thread_any hx8.base.dev)
      have HSo := Lib.hid (done_store hx8 0 99)
      have HAl := Lib.hid (done_alloc hx8)
      have hl := load_dev hx8.base.dev (j := 0) (by omega) 8 (by omega) (by omega)
      have hl0 := load_dev hx8.base.dev (j := 0) (by omega) 0 (by omega) (by omega)
      have hm := done_load hx8 8 (by omega) (by omega)
      rw [show 8 / 8 = 1 from rfl, hb8 1 (.inl (by omega)), HU.out.2.2.2.1, show ((8 : Nat) : Int) = 8 from rfl, show ((2 : Nat) : Int) = 2 from rfl] at hl hm
      rw [show 0 / 8 = 0 from rfl, hb8 0 (.inl (by omega)), HU.out.2.2.1, show ((0 : Nat) : Int) = 0 from rfl, show ((1 : Nat) : Int) = 1 from rfl] at hl0
      have HL := Lib.hid hl
      have HL0 := Lib.hid hl0
      have HM := Lib.hid hm
      have HPu := Lib.hid (done_publish hx8)
      have HFr := Lib.hid (done_free hx8 1)
      have HX8 := Lib.hid hx8
      clear hl hl0 hm hx8 hb8
      go_wp2_with (first
        | (go_at_call 18; refine HTh.out.mono ?_; rintro e w1' ⟨rfl, rfl⟩)
        | (go_at_call 13; refine HSo.out.mono ?_; rintro e w1' ⟨rfl, rfl⟩)
        | (go_at_call 30; refine (HAl.out _ _).mono ?_; rintro e w1' ⟨rfl, rfl⟩)
        | (go_at_call 19; first | (refine HL.out.mono ?_; rintro e w1' ⟨rfl, rfl⟩; clear HL) | (refine HL0.out.mono ?_; rintro e w1' ⟨rfl, rfl⟩))
        | (go_at_call 15; refine HM.out.mono ?_; rintro e w1' ⟨rfl, rfl⟩)
        | (go_at_call 25; refine (HPu.out _ _ _).mono ?_; rintro e w1' ⟨rfl, rfl⟩)
        | (go_at_call 34; refine stop ?_))
      unfold Stop
      refine HFr.out.mono ?_
      rintro e w9 ⟨rfl, hb9⟩
      have HX9 := Lib.hid (HX8.out.more_ hb9)
      have HSv := Lib.hid (done_save HX9.out)
      have HRb := Lib.hid (done_rollback HX9.out 0)
      clear hb9 k0 HTh HSo HAl HL0 HM HPu HFr HX8
      go_wp2_with (first
        | (go_at_call 14; refine HSv.out.mono ?_; rintro e w1' ⟨rfl, rfl⟩)
        | (go_at_call 16; refine stop ?_))
      unfold Stop
      refine HRb.out.mono ?_
      rintro e wA ⟨rfl, hbA⟩
      have HXA := Lib.hid (HX9.out.more_ hbA)
      have HCo := Lib.hid (done_commit HXA.out)
      have HAo := Lib.hid (done_abort HXA.out)
      have HOp := Lib.hid (done_open HXA.out)
      have HAc := Lib.hid (done_active HXA.out)
      have kA : wA.cell? ⟨c.gw, 2, none⟩ = some (.pointer (some ⟨c.x.m, 0, none⟩)) := by
        obtain ⟨_, _, _, h2⟩ := HXA.out.base.cells
        exact (HXA.out.base.blk.cell 2).trans h2
      have HBe : Hid (Below w.heap.size w wA) := Lib.hid (by
        have h := HXA.out.base.below
        rw [HW0.out] at h
        exact HB1.out.trans (h.mono HB1.out.size))
      clear hbA HX9 HSv HRb
      go_wp2_with (first
        | (go_at_call 17; refine HCo.out.mono ?_; rintro e w1' ⟨rfl, rfl⟩)
        | (go_at_call 31; refine HAo.out.mono ?_; rintro e w1' ⟨rfl, rfl⟩)
        | (go_at_call 26; refine HOp.out.mono ?_; rintro e w1' ⟨rfl, rfl⟩)
        | (go_at_call 29; refine HAc.out.mono ?_; rintro e w1' ⟨rfl, rfl⟩)
        | go_in)
      go_ret
      exact ⟨rfl, HBe.out⟩
  · have HBg := Lib.hid (begin_any HB.out 2 (.inr rfl))
    clear HB
    go_wp2_with fail
    refine HBg.out.mono ?_
    rintro e w5 ⟨g, t, rfl, hf, hx, _⟩
    have HSt := Lib.hid (held_first hx hf (.inr rfl) HU.out.1 HU.out.2.1 HU.out.2.2.2.2 v HV.out)
    clear hf hx HBg k2
    go_wp2_with fail
    refine HSt.out.mono ?_
    rintro e w6 ⟨rfl, hh⟩
    have hou := held_out hh 77824 1 (.inr (by omega))
    rw [show ((77824 : Nat) : Int) = 77824 from rfl, show ((1 : Nat) : Int) = 1 from rfl] at hou
    have HOu := Lib.hid hou
    clear hh hou HSt
    go_wp2_with fail
    refine HOu.out.mono ?_
    rintro e w7 ⟨rfl, hh⟩
    have HEr := Lib.hid (held_err hh)
    have HAb := Lib.hid (held_abort hh (.inr rfl))
    have HCm := Lib.hid (held_commit hh (.inr rfl))
    clear hh HOu
    go_wp2_with fail
    refine HEr.out.mono ?_
    rintro e w1' ⟨rfl, rfl⟩
    clear HEr
    cases ab
    · go_wp2_with fail
      refine HCm.out.mono ?_
      rintro e w8 ⟨rfl, S8, t8, cur8, T8, hx8, hb8⟩
      clear HAb HCm
      have k0 : w8.cell? ⟨c.gw, 0, none⟩ = some (.pointer (some ⟨c.a.d, 0, none⟩)) := by
        obtain ⟨_, h2, _, _⟩ := hx8.base.cells
        exact (hx8.base.blk.cell 0).trans h2
      have HTh := Lib.hid (thread_any hx8.base.dev)
      have HSo := Lib.hid (done_store hx8 0 99)
      have HAl := Lib.hid (done_alloc hx8)
      have hl := load_dev hx8.base.dev (j := 0) (by omega) 8 (by omega) (by omega)
      have hl0 := load_dev hx8.base.dev (j := 0) (by omega) 0 (by omega) (by omega)
      have hm := done_load hx8 8 (by omega) (by omega)
      rw [show 8 / 8 = 1 from rfl, hb8 1 (.inl (by omega)), HU.out.2.2.2.1, show ((8 : Nat) : Int) = 8 from rfl, show ((2 : Nat) : Int) = 2 from rfl] at hl hm
      rw [show 0 / 8 = 0 from rfl, hb8 0 (.inl (by omega)), HU.out.2.2.1, show ((0 : Nat) : Int) = 0 from rfl, show ((1 : Nat) : Int) = 1 from rfl] at hl0
      have HL := Lib.hid hl
      have HL0 := Lib.hid hl0
      have HM := Lib.hid hm
      have HPu := Lib.hid (done_publish hx8)
      have HFr := Lib.hid (done_free hx8 1)
      have HX8 := Lib.hid hx8
      clear hl hl0 hm hx8 hb8
      go_wp2_with (first
        | (go_at_call 18; refine HTh.out.mono ?_; rintro e w1' ⟨rfl, rfl⟩)
        | (go_at_call 13; refine HSo.out.mono ?_; rintro e w1' ⟨rfl, rfl⟩)
        | (go_at_call 30; refine (HAl.out _ _).mono ?_; rintro e w1' ⟨rfl, rfl⟩)
        | (go_at_call 19; first | (refine HL.out.mono ?_; rintro e w1' ⟨rfl, rfl⟩; clear HL) | (refine HL0.out.mono ?_; rintro e w1' ⟨rfl, rfl⟩))
        | (go_at_call 15; refine HM.out.mono ?_; rintro e w1' ⟨rfl, rfl⟩)
        | (go_at_call 25; refine (HPu.out _ _ _).mono ?_; rintro e w1' ⟨rfl, rfl⟩)
        | (go_at_call 34; refine stop ?_))
      unfold Stop
      refine HFr.out.mono ?_
      rintro e w9 ⟨rfl, hb9⟩
      have HX9 := Lib.hid (HX8.out.more_ hb9)
      have HSv := Lib.hid (done_save HX9.out)
      have HRb := Lib.hid (done_rollback HX9.out 0)
      clear hb9 k0 HTh HSo HAl HL0 HM HPu HFr HX8
      go_wp2_with (first
        | (go_at_call 14; refine HSv.out.mono ?_; rintro e w1' ⟨rfl, rfl⟩)
        | (go_at_call 16; refine stop ?_))
      unfold Stop
      refine HRb.out.mono ?_
      rintro e wA ⟨rfl, hbA⟩
      have HXA := Lib.hid (HX9.out.more_ hbA)
      have HCo := Lib.hid (done_commit HXA.out)
      have HAo := Lib.hid (done_abort HXA.out)
      have HOp := Lib.hid (done_open HXA.out)
      have HAc := Lib.hid (done_active HXA.out)
      have kA : wA.cell? ⟨c.gw, 2, none⟩ = some (.pointer (some ⟨c.x.m, 0, none⟩)) := by
        obtain ⟨_, _, _, h2⟩ := HXA.out.base.cells
        exact (HXA.out.base.blk.cell 2).trans h2
      have HBe : Hid (Below w.heap.size w wA) := Lib.hid (by
        have h := HXA.out.base.below
        rw [HW0.out] at h
        exact HB1.out.trans (h.mono HB1.out.size))
      clear hbA HX9 HSv HRb
      go_wp2_with (first
        | (go_at_call 17; refine HCo.out.mono ?_; rintro e w1' ⟨rfl, rfl⟩)
        | (go_at_call 31; refine HAo.out.mono ?_; rintro e w1' ⟨rfl, rfl⟩)
        | (go_at_call 26; refine HOp.out.mono ?_; rintro e w1' ⟨rfl, rfl⟩)
        | (go_at_call 29; refine HAc.out.mono ?_; rintro e w1' ⟨rfl, rfl⟩)
        | go_in)
      go_ret
      exact ⟨rfl, HBe.out⟩
    · go_wp2_with fail
      refine HAb.out.mono ?_
      rintro e w8 ⟨rfl, S8, t8, cur8, T8, hx8, hb8⟩
      clear HAb HCm
      have k0 : w8.cell? ⟨c.gw, 0, none⟩ = some (.pointer (some ⟨c.a.d, 0, none⟩)) := by
        obtain ⟨_, h2, _, _⟩ := hx8.base.cells
        exact (hx8.base.blk.cell 0).trans h2
      have HTh := Lib.hid (thread_any hx8.base.dev)
      have HSo := Lib.hid (done_store hx8 0 99)
      have HAl := Lib.hid (done_alloc hx8)
      have hl := load_dev hx8.base.dev (j := 0) (by omega) 8 (by omega) (by omega)
      have hl0 := load_dev hx8.base.dev (j := 0) (by omega) 0 (by omega) (by omega)
      have hm := done_load hx8 8 (by omega) (by omega)
      rw [show 8 / 8 = 1 from rfl, hb8 1 (.inl (by omega)), HU.out.2.2.2.1, show ((8 : Nat) : Int) = 8 from rfl, show ((2 : Nat) : Int) = 2 from rfl] at hl hm
      rw [show 0 / 8 = 0 from rfl, hb8 0 (.inl (by omega)), HU.out.2.2.1, show ((0 : Nat) : Int) = 0 from rfl, show ((1 : Nat) : Int) = 1 from rfl] at hl0
      have HL := Lib.hid hl
      have HL0 := Lib.hid hl0
      have HM := Lib.hid hm
      have HPu := Lib.hid (done_publish hx8)
      have HFr := Lib.hid (done_free hx8 1)
      have HX8 := Lib.hid hx8
      clear hl hl0 hm hx8 hb8
      go_wp2_with (first
        | (go_at_call 18; refine HTh.out.mono ?_; rintro e w1' ⟨rfl, rfl⟩)
        | (go_at_call 13; refine HSo.out.mono ?_; rintro e w1' ⟨rfl, rfl⟩)
        | (go_at_call 30; refine (HAl.out _ _).mono ?_; rintro e w1' ⟨rfl, rfl⟩)
        | (go_at_call 19; first | (refine HL.out.mono ?_; rintro e w1' ⟨rfl, rfl⟩; clear HL) | (refine HL0.out.mono ?_; rintro e w1' ⟨rfl, rfl⟩))
        | (go_at_call 15; refine HM.out.mono ?_; rintro e w1' ⟨rfl, rfl⟩)
        | (go_at_call 25; refine (HPu.out _ _ _).mono ?_; rintro e w1' ⟨rfl, rfl⟩)
        | (go_at_call 34; refine stop ?_))
      unfold Stop
      refine HFr.out.mono ?_
      rintro e w9 ⟨rfl, hb9⟩
      have HX9 := Lib.hid (HX8.out.more_ hb9)
      have HSv := Lib.hid (done_save HX9.out)
      have HRb := Lib.hid (done_rollback HX9.out 0)
      clear hb9 k0 HTh HSo HAl HL0 HM HPu HFr HX8
      go_wp2_with (first
        | (go_at_call 14; refine HSv.out.mono ?_; rintro e w1' ⟨rfl, rfl⟩)
        | (go_at_call 16; refine stop ?_))
      unfold Stop
      refine HRb.out.mono ?_
      rintro e wA ⟨rfl, hbA⟩
      have HXA := Lib.hid (HX9.out.more_ hbA)
      have HCo := Lib.hid (done_commit HXA.out)
      have HAo := Lib.hid (done_abort HXA.out)
      have HOp := Lib.hid (done_open HXA.out)
      have HAc := Lib.hid (done_active HXA.out)
      have kA : wA.cell? ⟨c.gw, 2, none⟩ = some (.pointer (some ⟨c.x.m, 0, none⟩)) := by
        obtain ⟨_, _, _, h2⟩ := HXA.out.base.cells
        exact (HXA.out.base.blk.cell 2).trans h2
      have HBe : Hid (Below w.heap.size w wA) := Lib.hid (by
        have h := HXA.out.base.below
        rw [HW0.out] at h
        exact HB1.out.trans (h.mono HB1.out.size))
      clear hbA HX9 HSv HRb
      go_wp2_with (first
        | (go_at_call 17; refine HCo.out.mono ?_; rintro e w1' ⟨rfl, rfl⟩)
        | (go_at_call 31; refine HAo.out.mono ?_; rintro e w1' ⟨rfl, rfl⟩)
        | (go_at_call 26; refine HOp.out.mono ?_; rintro e w1' ⟨rfl, rfl⟩)
        | (go_at_call 29; refine HAc.out.mono ?_; rintro e w1' ⟨rfl, rfl⟩)
        | go_in)
      go_ret
      exact ⟨rfl, HBe.out⟩
end Go.Proofs.YtklpeghhgoeeiaaGreatDoor
