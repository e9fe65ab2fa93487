/- The walks and laws that the claim leans on, part 27: each part says ahead of its lines what it holds. -/
import Derived.Test.YtklpeghhgoeeiaaGreatDoorKaz
/- bedrocklaw24: awake. -/
namespace Go.Proofs.YtklpeghhgoeeiaaGreatDoor
open Go.RowKit Go.Maps Go.Sort Go.Shelf
theorem Mks.noneA {c : CX} {w : World} {S : Fp} {t : TX} (h : t.marks = .slice none 0 0) : Mks c w S t [] :=
  ⟨by rw [h]; exact World.ownsRow_nil _ _ _ _, fun m hm => by simp at hm, fun m hm => by simp at hm, fun b hb => by rw [h] at hb; cases hb⟩
/-- The marks behind a store. -/
theorem Mks.chgS {c : CX} {w w' : World} {S S' : Fp} {t : TX} {l : List Mk} (h' : Mks c w S' t l) (hc : Chg (SG S t.words) w w') (h : Mks c w S t l) {n : Nat} {D : DataW Unit} (hw : w.ownsMap Tryz.prog 35 cellR t.words n D) : Mks c w' S' t l := by
  have h1 := h.chg hc (fun j hj => hj.elim .inl (fun e => .inr (.inl e))) ⟨_, _, hw⟩
  exact ⟨h1.row, h1.st, h'.off, h'.rowoff⟩
theorem UInv.ent {cur base : Nat → Nat} {D : DataW Unit} {ws : List (Nat × Nat)} (h : UInv cur base D ws) (hf : ws.length ≤ 100) : EntO ws := ⟨h.off, h.val, hf⟩
theorem off0 : OffOk 152 30 26 0 := ⟨by omega, by omega, by omega⟩
set_option maxRecDepth 100000 in
set_option maxHeartbeats 2000000 in
theorem awake_any (w : World) (ht : Tab w) : Calls Tryz.prog 10 #[] w fun e w' => e = .returned (.bool true) ∧ Below w.heap.size w w' := by
  have HMa := Lib.hid (made_any w ht)
  clear ht
  go_enter Tryz.func10, Tryz.ntmps10
  go_wp2_with fail
  refine HMa.out.mono ?_
  rintro e w1 ⟨a, S, T, cur, gw, x, cs, rfl, hM⟩
  obtain ⟨c, HW0, hgw, hB⟩ : ∃ c : CX, Hid (c.w0 = w) ∧ c.gw = gw ∧ Base c w1 S false none cur T := ⟨_, Lib.hid rfl, rfl, hM.base⟩
  subst hgw
  have HB := Lib.hid hB
  have hT : T ≤ 100 := hM.few
  have HU0 := Lib.hid (UInv.start hM.pool.u (fun i => by rw [hM.is_]; exact curM_bnd i))
  obtain ⟨_, hc0, _, hc2⟩ := hB.cells
  have k2 : w1.cell? ⟨c.gw, 2, none⟩ = some (.pointer (some ⟨c.x.m, 0, none⟩)) := (hB.blk.cell 2).trans hc2
  have HC0 := Lib.hid hc0
  have HBg := Lib.hid (begin_any hB 2 (.inr rfl))
  clear hM hB hc0 hc2 HMa
  go_wp2_with fail
  refine HBg.out.mono ?_
  rintro e w2 ⟨g, t, rfl, hf, hx, _⟩
  have hSt := store_new hx hf.open_ hf.mode (ws := []) (.inl ⟨hf.tail, rfl⟩) 0 6 off0 (by simp [has]) (by simp [Maps.size]) (by omega) HU0.out.log (fun e he => by simp at he) (by simp) (by simp) HU0.out.bnd (by omega)
  simp only [List.length_nil] at hSt
  rw [show ((0 : Nat) : Int) = 0 from rfl, show ((6 : Nat) : Int) = 6 from rfl] at hSt
  have HSt := Lib.hid hSt
  have HU1 := Lib.hid (HU0.out.put_new off0 (by simp [has]) (v := 6) (by omega) (by simp))
  have HF := Lib.hid hf
  clear hx hf HBg k2 hSt
  go_wp2_with fail
  refine HSt.out.mono ?_
  rintro e w3 ⟨tl, S3, rfl, hx3, _, _, _⟩
  have hU1 : UInv (upd (svC cur 1920 0 [0]) (0 / 8) 6) cur ((DataW.map [] : DataW Unit).put (kU 0) (cellD 6 (cur (0 / 8)) true)) [(0, cur (0 / 8))] := HU1.out
  have hs1 : Maps.size ((DataW.map [] : DataW Unit).put (kU 0) (cellD 6 (cur (0 / 8)) true)) = 1 := by
    rw [size_put ⟨[], rfl, List.Pairwise.nil⟩]; simp [has, Maps.size]
  have hcA : (upd (svC cur 1920 0 [0]) (0 / 8) 6) (0 / 8) = 6 := by simp [upd]
  generalize (DataW.map [] : DataW Unit).put (kU 0) (cellD 6 (cur (0 / 8)) true) = D1 at *
  generalize upd (svC cur 1920 0 [0]) (0 / 8) 6 = cur1 at *
  have HU1 := Lib.hid hU1
  have HS1 := Lib.hid hs1
  have HA1 := Lib.hid hcA
  generalize ht1 : ({ t with tail := tl } : TX) = t1 at *
  have hop1 : t1.open_ = true := by rw [← ht1]; exact HF.out.open_
  have hmo1 : t1.mode = 2 := by rw [← ht1]; exact HF.out.mode
  have hmk1 : t1.marks = .slice none 0 0 := by rw [← ht1]; exact HF.out.marks
  have hid1 : t1.ids = 0 := by rw [← ht1]; exact HF.out.ids
  have hou1 : t1.outside = false := by rw [← ht1]; exact HF.out.outside
  have hsu1 : t1.surplus = false := by rw [← ht1]; exact HF.out.surplus
  have HSv := Lib.hid (savepoint_any hx3 hop1 (Mks.noneA hmk1) (by omega) (by simp))
  have HT1 : Hid (t1.open_ = true ∧ t1.mode = 2 ∧ t1.ids = 0 ∧ t1.outside = false ∧ t1.surplus = false) := Lib.hid ⟨hop1, hmo1, hid1, hou1, hsu1⟩
  clear hx3 hU1 hs1 hcA ht1 hop1 hmo1 hmk1 hid1 hou1 hsu1 HSt HU0
  go_wp2_with fail
  refine HSv.out.mono ?_
  rintro e w4 ⟨mv, km, rfl, hx4, hm4⟩
  have hI1 : t1.ids + 1 = 1 := by rw [HT1.out.2.2.1]
  rw [List.nil_append, hI1] at hm4
  rw [hI1] at hx4 ⊢
  generalize ht2 : ({ t1 with ids := 1, marks := mv } : TX) = t2 at *
  have HT2 : Hid (t2.open_ = true ∧ t2.mode = 2) := Lib.hid (by rw [← ht2]; exact ⟨HT1.out.1, HT1.out.2.1⟩)
  have hk1 : has D1 (kU 0) = true := (HU1.out.keys 0).2 (by simp)
  have hSt := store_old hx4 HT2.out.1 0 7 _ _ off0 hk1 (HU1.out.cell 0 hk1) (by omega) (by omega)
  rw [show ((0 : Nat) : Int) = 0 from rfl, show ((7 : Nat) : Int) = 7 from rfl] at hSt
  have hU2 := HU1.out.put_old hk1 (v := 7) (by omega) (by simp)
  have hcB : (upd cur1 (0 / 8) 7) (0 / 8) = 7 := by simp [upd]
  generalize hD2 : D1.put (kU 0) (cellD 7 (cur (0 / 8)) true) = D2 at *
  generalize upd cur1 (0 / 8) 7 = cur2 at *
  have HSt := Lib.hid hSt
  have HU2 := Lib.hid hU2
  have HcB := Lib.hid hcB
  have HX4 := Lib.hid hx4
  have HM4 := Lib.hid hm4
  clear hSt hU2 hcB hD2 hx4 hm4 ht2 hI1 HSv hk1
  go_wp2_with fail
  refine HSt.out.mono ?_
  rintro e w5 ⟨S5, rfl, hx5, hc5, hg5⟩
  have HM5 := Lib.hid ((HM4.out.grew hg5).chgS hc5 HM4.out HX4.out.maps.words)
  have hk2 : has D2 (kU 0) = true := (HU2.out.keys 0).2 (by simp)
  have hLd := loadX_word hx5 HT2.out.1 0 _ _ true (by omega) hk2 (HU2.out.cell 0 hk2)
  rw [HcB.out, show ((0 : Nat) : Int) = 0 from rfl, show ((7 : Nat) : Int) = 7 from rfl] at hLd
  have HLd := Lib.hid hLd
  have HX5 := Lib.hid hx5
  clear hx5 hc5 hg5 hk2 hLd HX4 HM4 HSt
  go_wp2_with fail
  refine HLd.out.mono ?_
  rintro e w6 ⟨rfl, hb6⟩
  have HX6 := Lib.hid (HX5.out.more_ hb6)
  have HM6 := Lib.hid (HM5.out.more_ hb6)
  have hRb := rollback_undo HX6.out HT2.out.1 HT2.out.2 HM6.out (by simp) 1 ⟨_, List.mem_singleton.2 rfl, rfl⟩ HU2.out.log (HU2.out.ent (by simp)) (by omega) (fun m hm => by
    rw [List.mem_singleton] at hm
    subst hm
    have hmk := HM6.out.st _ (List.mem_singleton.2 rfl)
    exact ⟨by rw [HS1.out]; omega, fun o ho => HU1.out.offD ((has_key hmk.words o).2 ho)⟩) HU2.out.rbnd
  rw [show ((1 : Nat) : Int) = 1 from rfl] at hRb
  have HRb := Lib.hid hRb
  clear hb6 hRb HLd HX5 HM5
  go_wp2_with fail
  refine HRb.out.mono ?_
  rintro e w7 ⟨k, hk, kk, v, S7, ks, hid7, rfl, hpp, hx7, hm7⟩
  have hk0 : k = 0 := by simp at hk; omega
  subst hk0
  have hp : ks.Perm (uKeys D1) := hpp
  have hkey : w6.ownsMap Tryz.prog 35 cellR km (0 + 1) D1 := (HM6.out.st _ (List.mem_singleton.2 rfl)).words
  have hU3 := HU2.out.place HU1.out.mark (ks := ks) (fun o => by rw [has_key hkey o]; exact (hp.mem_iff (a := o)).symm) (hp.nodup_iff.2 (uKeys_nodup hkey)) (by rw [hp.length_eq, uKeys_size hkey, HS1.out]; omega)
  have hksl : ks.length = 1 := by rw [hp.length_eq, uKeys_size hkey, HS1.out]
  have HX7 : Hid (TxS c g w7 S7 (rbT t2 ⟨1, km, t1.outside, t1.surplus, D1, 0 + 1⟩ kk v) D1 (0 + 1) (plC cur2 [(0, cur (0 / 8))] D1 ks) (T + 9 + 1 + 500)) := Lib.hid hx7
  generalize plC cur2 [(0, cur (0 / 8))] D1 ks = cur3 at *
  have hk1 : has D1 (kU 0) = true := (HU1.out.keys 0).2 (by simp)
  have hv3 : cur3 (0 / 8) = 6 := by
    have h1 := hU3.cell 0 hk1
    rw [HU1.out.cell 0 hk1] at h1
    have := (cellD_inj h1).1
    rw [← this]; exact HA1.out
  have hCm := commit_undo HX7.out HT2.out.1 HT2.out.2 HT1.out.2.2.2.1 HT1.out.2.2.2.2 hU3.allIn (by rw [HS1.out]; omega) hU3.log (hU3.ent (by simp; omega)) (by omega) hU3.bnd
  have hv4 : cmC cur3 (ks.map fun o => (o, cur (o / 8))) (0 / 8) = 6 := by
    unfold cmC
    split
    · exact hv3
    · rw [wrS_other _ _ _ (fun e he => by simp at he; subst he; simp)]
      exact hv3
  generalize cmC cur3 (ks.map fun o => (o, cur (o / 8))) = cur4 at *
  have HCm := Lib.hid hCm
  have HV4 := Lib.hid hv4
  clear hp hpp hx7 hm7 hid7 hkey hU3 hksl hk1 hv3 hCm hv4 hk HRb HX6 HM6
  go_wp2_with fail
  refine HCm.out.mono ?_
  rintro e w8 ⟨S8, rfl, hx8⟩
  have k0 : w8.cell? ⟨c.gw, 0, none⟩ = some (.pointer (some ⟨c.a.d, 0, none⟩)) := by
    obtain ⟨_, h0, _, _⟩ := hx8.base.cells
    exact (hx8.base.blk.cell 0).trans h0
  have g8 : w8.cell? ⟨g, 8, none⟩ = some (.bool false) := hx8.tx.cell 8
  have HTh := Lib.hid (thread_any hx8.base.dev)
  have hLd := load_dev hx8.base.dev (j := 0) (by omega) 0 (by omega) (by omega)
  rw [HV4.out, show ((0 : Nat) : Int) = 0 from rfl, show ((6 : Nat) : Int) = 6 from rfl] at hLd
  have HLd := Lib.hid hLd
  have HBe : Hid (Below w.heap.size w w8) := Lib.hid (by rw [← HW0.out]; exact hx8.base.below)
  clear hx8 hLd HCm
  go_wp2_with (first
    | (go_at_call 18; refine HTh.out.mono ?_; rintro e w9 ⟨rfl, rfl⟩)
    | (go_at_call 19; refine HLd.out.mono ?_; rintro e w9 ⟨rfl, rfl⟩)
    | go_in)
  go_ret
  exact ⟨rfl, HBe.out⟩
end Go.Proofs.YtklpeghhgoeeiaaGreatDoor
/- bedrocklaw24: TxLimits. -/
namespace Go.Proofs.YtklpeghhgoeeiaaGreatDoor
open Go.RowKit Go.Maps Go.Sort Go.Shelf
set_option maxRecDepth 100000 in
set_option maxHeartbeats 2000000 in
theorem txLimits_law (w : World) (ht : Tab w) {v0 v1 v2 : Value} (n : Nat) (h0 : v0 = .int .u8 (n : Int) ∧ n < 256) (u : Bool) (h1 : v1 = .bool u) (bk : Bool) (h2 : v2 = .bool bk) :
    Calls Tryz.prog 5 #[v0, v1, v2] w fun e w' => e = .returned (.bool true) ∧ Below w.heap.size w w' := by
  obtain ⟨rfl, hn⟩ := h0
  subst h1
  subst h2
  have HTa := Lib.hid ht
  have HAw := Lib.hid (awake_any _ ht)
  obtain ⟨cn, hcn⟩ : ∃ cn : Nat, n % 110 = cn := ⟨_, rfl⟩
  have hc1 : cn < 110 := by omega
  have hc2 : (n : Int) % 110 = (cn : Int) := by omega
  have hc3 : (n : Int).tmod 110 = (cn : Int) := by rw [Int.tmod_eq_emod_of_nonneg (by omega)]; exact hc2
  clear ht hcn
  go_enter Tryz.func5, Tryz.ntmps5
  go_wp2_with fail
  refine HAw.out.mono ?_
  rintro e w1 ⟨rfl, hb1⟩
  have HB1 := Lib.hid hb1
  have HMa := Lib.hid (made_any w1 (HTa.out.below hb1))
  have HTb := Lib.hid (HTa.out.below hb1)
  clear hb1 HAw HTa
  go_wp2_with fail
  refine HMa.out.mono ?_
  rintro e w2 ⟨a, S, T, cur, gw, x, cs, rfl, hM⟩
  obtain ⟨Z, hI0, _⟩ := idle_made hM
  obtain ⟨c, hw0, hgw, hI⟩ : ∃ c : CX, c.w0 = w1 ∧ c.gw = gw ∧ Idle c (curM 32) 0 Z w2 := ⟨_, rfl, rfl, hI0⟩
  clear hI0 hM
  subst hgw
  have HW0 := Lib.hid hw0
  have HTc : Hid (Tab c.w0) := Lib.hid (by rw [hw0]; exact HTb.out)
  have HI := Lib.hid hI
  have k0 := hI.law.1
  have k2 := hI.law.2.2
  have HTh := Lib.hid (idle_thread0 hI)
  clear hI HMa hw0 HTb
  cases u
  · have HBg := Lib.hid (idle_begin HI.out 1 (.inl rfl))
    clear HI
    go_wp2_with (first
      | (go_at_call 18; refine HTh.out.mono ?_; rintro e w1' ⟨rfl, rfl⟩)
      | (go_at_call 12; refine stop ?_))
    unfold Stop
    clear HTh
    refine HBg.out.mono ?_
    rintro e w3 ⟨g, rfl, Z3, ho3, _, _⟩
    have HSv := Lib.hid (open_save ho3 (by decide) (by decide))
    clear ho3 HBg k0 k2
    go_wp2_with fail
    refine HSv.out.mono ?_
    rintro e w4 ⟨rfl, Z4, ho4, _, _⟩
    have HO4 : Hid (∃ Z, Open c g 1 (curM 32) (liS 0) 1 Z w4) := Lib.hid ⟨Z4, ho4⟩
    clear ho4 HSv
    rw [show ((AT.new.ids + 1 : Nat) : Int) = 1 from rfl]
    go_wp2
    go_loopw [41] (fun i wr => ∃ k : Nat, k ≤ cn ∧ i = .int .i64 (k : Int) ∧ Hid (∃ Z, Open c g 1 (curM 32) (liS k) (k + 1) Z wr)) (fun i _ => cn - (Go.RowKit.intOf i).toNat)
    case atStart => exact ⟨0, Nat.zero_le _, rfl, HO4⟩
    case round =>
      clear HO4
      obtain ⟨k, hk, rfl, HO⟩ := hrel
      by_cases hlt : k < cn
      · have HPl := Lib.hid (place_any_ k (by omega))
        obtain ⟨Zk, hok⟩ := HO.out
        have hst := open_store hok (.inl rfl) (plc k) 77 (plc_good (by omega)) (by omega) (by omega)
        rw [show ((77 : Nat) : Int) = 77 from rfl] at hst
        have HSt := Lib.hid hst
        clear hst hok HO
        go_wp2_with (first
          | (go_at_call 21; refine (HPl.out _).mono ?_; rintro e w1' ⟨rfl, rfl⟩)
          | (go_at_call 13; refine stop ?_))
        unfold Stop
        refine HSt.out.mono ?_
        rintro e w5 ⟨rfl, Z5, ho5, _, _⟩
        have HO5 : Hid (∃ Z, Open c g 1 (curM 32) (liS (k + 1)) (k + 1 + 1) Z w5) := Lib.hid ⟨Z5, ho5⟩
        clear ho5 HSt HPl
        go_wp2
        go_roundw
        case rel =>
          first
            | exact ⟨k + 1, by omega, by go_num, HO5⟩
            | (repeat apply Exists.intro
               refine ⟨?_, rfl⟩
               exact ⟨k + 1, by omega, by go_num, HO5⟩)
        case measure => simp [Go.RowKit.intOf]; omega
      · have hkc : k = cn := by omega
        subst hkc
        obtain ⟨Zk, hok⟩ := HO.out
        have hL := lim_all k
        have her := open_err hok
        have hwr := open_writes hok
        rw [hL.kk] at hwr
        by_cases h96 : k ≤ 96
        · rw [show (liS k).err = 0 by unfold AT.err; rw [hL.out, hL.sur, decide_eq_false (by omega)]; rfl] at her
          rw [Nat.min_eq_left h96] at hwr
          have HEr := Lib.hid her
          have HWr := Lib.hid hwr
          have HCm := Lib.hid (open_commit hok (.inl rfl) (by omega) hL.out (by rw [hL.sur, decide_eq_false (by omega)]) HTc.out)
          have HP0 := Lib.hid (place_any_ 0 (by omega))
          have HF := Lib.hid (first_any k)
          rw [show ((0 : Nat) : Int) = 0 from rfl, show ((plc 0 : Nat) : Int) = 0 from rfl] at HP0
          clear her hwr hok HO hL
          rw [show ((0 : Nat) : Int) = 0 from rfl] at HEr
          go_wp2_with (first
            | (go_at_call 22; refine HEr.out.mono ?_; rintro e w1' ⟨rfl, rfl⟩)
            | (go_at_call 23; refine HWr.out.mono ?_; rintro e w1' ⟨rfl, rfl⟩)
            | (go_at_call 17; refine stop ?_))
          unfold Stop
          refine HCm.out.mono ?_
          rintro e w6 ⟨rfl, Z6, hd6, _, _⟩
          have hl := idle_load hd6.idle (j := 0) (by omega) 0 (good8 (i := 0) (by omega))
          rw [show 0 / 8 = 0 from rfl, lim_first, show ((0 : Nat) : Int) = 0 from rfl] at hl
          have HL := Lib.hid hl
          have HD6 := Lib.hid hd6
          clear hl hd6 HCm HEr HWr
          generalize fst77 k = fk at *
          go_wp2_with (first
            | (go_at_call 21; refine (HP0.out _).mono ?_; rintro e w1' ⟨rfl, rfl⟩)
            | (go_at_call 19; refine HL.out.mono ?_; rintro e w1' ⟨rfl, rfl⟩)
            | (go_at_call 24; refine (HF.out _).mono ?_; rintro e w1' ⟨rfl, rfl⟩))
          go_ret
          have hbw := HD6.out.idle.out
          rw [HW0.out] at hbw
          exact ⟨rfl, HB1.out.trans (hbw.mono HB1.out.size)⟩
        · rw [show (liS k).err = 9 by unfold AT.err; rw [hL.out, hL.sur, decide_eq_true (by omega)]; rfl] at her
          rw [Nat.min_eq_right (by omega)] at hwr
          rw [show ((9 : Nat) : Int) = 9 from rfl] at her
          rw [show ((96 : Nat) : Int) = 96 from rfl] at hwr
          have HEr := Lib.hid her
          have HWr := Lib.hid hwr
          have HP9 := Lib.hid (place_any_ 96 (by omega))
          rw [show ((96 : Nat) : Int) = 96 from rfl, show ((plc 96 : Nat) : Int) = 8960 from rfl] at HP9
          have hld := open_load hok (.inl rfl) 8960 (plc_good (i := 96) (by omega))
          rw [lim_96 (by omega), show ((0 : Nat) : Int) = 0 from rfl, show ((8960 : Nat) : Int) = 8960 from rfl] at hld
          have HLd := Lib.hid hld
          have HOk := Lib.hid hok
          have hsu : (liS k).surplus = true := by rw [hL.sur, decide_eq_true (by omega)]
          have HSu := Lib.hid hsu
          have HOu := Lib.hid hL.out
          have HMm := Lib.hid hL.mm
          clear her hwr hok HO hld hL hsu
          go_wp2_with (first
            | (go_at_call 22; refine HEr.out.mono ?_; rintro e w1' ⟨rfl, rfl⟩)
            | (go_at_call 23; refine HWr.out.mono ?_; rintro e w1' ⟨rfl, rfl⟩)
            | (go_at_call 21; refine (HP9.out _).mono ?_; rintro e w1' ⟨rfl, rfl⟩)
            | (go_at_call 15; refine stop ?_))
          unfold Stop
          refine HLd.out.mono ?_
          rintro e w6 ⟨rfl, hb6⟩
          have ho6 := HOk.out.below hb6
          have HPu := Lib.hid (open_publish_full ho6 HOu.out HSu.out)
          have HO6 := Lib.hid ho6
          clear ho6 hb6 HLd HEr HWr HP9 HOk
          cases bk
          · have HCm := Lib.hid (open_commit_full HO6.out (.inl rfl) (by omega) HOu.out HSu.out)
            go_wp2_with (first
              | (go_at_call 25; refine (HPu.out _ _ _).mono ?_; rintro e w1' ⟨rfl, rfl⟩)
              | (go_at_call 17; refine stop ?_))
            unfold Stop
            refine HCm.out.mono ?_
            rintro e w7 ⟨rfl, Z7, hd7, _, _⟩
            have hl := idle_load hd7.idle (j := 0) (by omega) 0 (good8 (i := 0) (by omega))
            rw [show 0 / 8 = 0 from rfl, curM_word 0 (by omega), show ((0 : Nat) : Int) = 0 from rfl, show ((0 + 1 : Nat) : Int) = 1 from rfl] at hl
            have HL := Lib.hid hl
            have HOp := Lib.hid (done_openX hd7)
            have j1 := hd7.idle.law.2.1
            have j7 := idle_lock hd7.idle
            have HD7 := Lib.hid hd7
            clear hl hd7 HCm HPu HO6
            go_wp2_with (first
              | (go_at_call 26; refine HOp.out.mono ?_; rintro e w1' ⟨rfl, rfl⟩)
              | (go_at_call 19; refine HL.out.mono ?_; rintro e w1' ⟨rfl, rfl⟩)
              | go_in)
            go_ret
            have hbw := HD7.out.idle.out
            rw [HW0.out] at hbw
            exact ⟨rfl, HB1.out.trans (hbw.mono HB1.out.size)⟩
          · have hrb := open_rollback HO6.out (.inl rfl) (by rw [HMm.out]; decide) (by rw [HMm.out]; intro a ha; simp at ha; subst ha; exact Nat.zero_le _) 1 (by rw [HMm.out]; exact ⟨_, List.mem_cons_self .., rfl⟩) (by omega)
            rw [show ((1 : Nat) : Int) = 1 from rfl] at hrb
            have HRb := Lib.hid hrb
            clear hrb
            go_wp2_with (first
              | (go_at_call 25; refine (HPu.out _ _ _).mono ?_; rintro e w1' ⟨rfl, rfl⟩)
              | (go_at_call 16; refine stop ?_))
            unfold Stop
            refine HRb.out.mono ?_
            rintro e w7 ⟨rfl, q, hq, _, Z7, ho7, _, _⟩
            have hq0 : q = 0 := by rw [HMm.out] at hq; simp at hq; exact hq
            subst hq0
            rw [lim_back] at ho7
            have her7 := open_err ho7
            have hwr7 := open_writes ho7
            rw [show ∀ s : AT, s.outside = false → s.surplus = false → s.err = 0 from fun s a b => by unfold AT.err; rw [a, b]; rfl] at her7 <;> try rfl
            rw [show ((0 : Nat) : Int) = 0 from rfl] at her7 hwr7
            have HE7 := Lib.hid her7
            have HW7 := Lib.hid hwr7
            have HCm := Lib.hid (open_commit ho7 (.inl rfl) (by omega) rfl rfl HTc.out)
            clear her7 hwr7 ho7 HRb HO6 HPu
            go_wp2_with (first
              | (go_at_call 22; refine HE7.out.mono ?_; rintro e w1' ⟨rfl, rfl⟩)
              | (go_at_call 23; refine HW7.out.mono ?_; rintro e w1' ⟨rfl, rfl⟩)
              | (go_at_call 17; refine stop ?_))
            unfold Stop
            refine HCm.out.mono ?_
            rintro e w8 ⟨rfl, Z8, hd8, _, _⟩
            have hl := idle_load hd8.idle (j := 0) (by omega) 0 (good8 (i := 0) (by omega))
            rw [show vw Fm.no (curM 32) (0 / 8) = 1 from curM_word 0 (by omega), show ((0 : Nat) : Int) = 0 from rfl, show ((1 : Nat) : Int) = 1 from rfl] at hl
            have HL := Lib.hid hl
            have HD8 := Lib.hid hd8
            clear hl hd8 HCm
            go_wp2_with (go_at_call 19; refine HL.out.mono ?_; rintro e w1' ⟨rfl, rfl⟩)
            go_ret
            have hbw := HD8.out.idle.out
            rw [HW0.out] at hbw
            exact ⟨rfl, HB1.out.trans (hbw.mono HB1.out.size)⟩
  · have HBg := Lib.hid (idle_begin HI.out 2 (.inr rfl))
    clear HI
    go_wp2_with (first
      | (go_at_call 18; refine HTh.out.mono ?_; rintro e w1' ⟨rfl, rfl⟩)
      | (go_at_call 12; refine stop ?_))
    unfold Stop
    clear HTh
    refine HBg.out.mono ?_
    rintro e w3 ⟨g, rfl, Z3, ho3, _, _⟩
    have HSv := Lib.hid (open_save ho3 (by decide) (by decide))
    clear ho3 HBg k0 k2
    go_wp2_with fail
    refine HSv.out.mono ?_
    rintro e w4 ⟨rfl, Z4, ho4, _, _⟩
    have HO4 : Hid (∃ Z, Open c g 2 (curM 32) (liS 0) 1 Z w4) := Lib.hid ⟨Z4, ho4⟩
    clear ho4 HSv
    rw [show ((AT.new.ids + 1 : Nat) : Int) = 1 from rfl]
    go_wp2
    go_loopw [41] (fun i wr => ∃ k : Nat, k ≤ cn ∧ i = .int .i64 (k : Int) ∧ Hid (∃ Z, Open c g 2 (curM 32) (liS k) (k + 1) Z wr)) (fun i _ => cn - (Go.RowKit.intOf i).toNat)
    case atStart => exact ⟨0, Nat.zero_le _, rfl, HO4⟩
    case round =>
      clear HO4
      obtain ⟨k, hk, rfl, HO⟩ := hrel
      by_cases hlt : k < cn
      · have HPl := Lib.hid (place_any_ k (by omega))
        obtain ⟨Zk, hok⟩ := HO.out
        have hst := open_store hok (.inr rfl) (plc k) 77 (plc_good (by omega)) (by omega) (by omega)
        rw [show ((77 : Nat) : Int) = 77 from rfl] at hst
        have HSt := Lib.hid hst
        clear hst hok HO
        go_wp2_with (first
          | (go_at_call 21; refine (HPl.out _).mono ?_; rintro e w1' ⟨rfl, rfl⟩)
          | (go_at_call 13; refine stop ?_))
        unfold Stop
        refine HSt.out.mono ?_
        rintro e w5 ⟨rfl, Z5, ho5, _, _⟩
        have HO5 : Hid (∃ Z, Open c g 2 (curM 32) (liS (k + 1)) (k + 1 + 1) Z w5) := Lib.hid ⟨Z5, ho5⟩
        clear ho5 HSt HPl
        go_wp2
        go_roundw
        case rel =>
          first
            | exact ⟨k + 1, by omega, by go_num, HO5⟩
            | (repeat apply Exists.intro
               refine ⟨?_, rfl⟩
               exact ⟨k + 1, by omega, by go_num, HO5⟩)
        case measure => simp [Go.RowKit.intOf]; omega
      · have hkc : k = cn := by omega
        subst hkc
        obtain ⟨Zk, hok⟩ := HO.out
        have hL := lim_all k
        have her := open_err hok
        have hwr := open_writes hok
        rw [hL.kk] at hwr
        by_cases h96 : k ≤ 96
        · rw [show (liS k).err = 0 by unfold AT.err; rw [hL.out, hL.sur, decide_eq_false (by omega)]; rfl] at her
          rw [Nat.min_eq_left h96] at hwr
          have HEr := Lib.hid her
          have HWr := Lib.hid hwr
          have HCm := Lib.hid (open_commit hok (.inr rfl) (by omega) hL.out (by rw [hL.sur, decide_eq_false (by omega)]) HTc.out)
          have HP0 := Lib.hid (place_any_ 0 (by omega))
          have HF := Lib.hid (first_any k)
          rw [show ((0 : Nat) : Int) = 0 from rfl, show ((plc 0 : Nat) : Int) = 0 from rfl] at HP0
          clear her hwr hok HO hL
          rw [show ((0 : Nat) : Int) = 0 from rfl] at HEr
          go_wp2_with (first
            | (go_at_call 22; refine HEr.out.mono ?_; rintro e w1' ⟨rfl, rfl⟩)
            | (go_at_call 23; refine HWr.out.mono ?_; rintro e w1' ⟨rfl, rfl⟩)
            | (go_at_call 17; refine stop ?_))
          unfold Stop
          refine HCm.out.mono ?_
          rintro e w6 ⟨rfl, Z6, hd6, _, _⟩
          have hl := idle_load hd6.idle (j := 0) (by omega) 0 (good8 (i := 0) (by omega))
          rw [show 0 / 8 = 0 from rfl, lim_first, show ((0 : Nat) : Int) = 0 from rfl] at hl
          have HL := Lib.hid hl
          have HD6 := Lib.hid hd6
          clear hl hd6 HCm HEr HWr
          generalize fst77 k = fk at *
          go_wp2_with (first
            | (go_at_call 21; refine (HP0.out _).mono ?_; rintro e w1' ⟨rfl, rfl⟩)
            | (go_at_call 19; refine HL.out.mono ?_; rintro e w1' ⟨rfl, rfl⟩)
            | (go_at_call 24; refine (HF.out _).mono ?_; rintro e w1' ⟨rfl, rfl⟩))
          go_ret
          have hbw := HD6.out.idle.out
          rw [HW0.out] at hbw
          exact ⟨rfl, HB1.out.trans (hbw.mono HB1.out.size)⟩
        · rw [show (liS k).err = 9 by unfold AT.err; rw [hL.out, hL.sur, decide_eq_true (by omega)]; rfl] at her
          rw [Nat.min_eq_right (by omega)] at hwr
          rw [show ((9 : Nat) : Int) = 9 from rfl] at her
          rw [show ((96 : Nat) : Int) = 96 from rfl] at hwr
          have HEr := Lib.hid her
          have HWr := Lib.hid hwr
          have HP9 := Lib.hid (place_any_ 96 (by omega))
          rw [show ((96 : Nat) : Int) = 96 from rfl, show ((plc 96 : Nat) : Int) = 8960 from rfl] at HP9
          have hld := open_load hok (.inr rfl) 8960 (plc_good (i := 96) (by omega))
          rw [lim_96 (by omega), show ((0 : Nat) : Int) = 0 from rfl, show ((8960 : Nat) : Int) = 8960 from rfl] at hld
          have HLd := Lib.hid hld
          have HOk := Lib.hid hok
          have hsu : (liS k).surplus = true := by rw [hL.sur, decide_eq_true (by omega)]
          have HSu := Lib.hid hsu
          have HOu := Lib.hid hL.out
          have HMm := Lib.hid hL.mm
          clear her hwr hok HO hld hL hsu
          go_wp2_with (first
            | (go_at_call 22; refine HEr.out.mono ?_; rintro e w1' ⟨rfl, rfl⟩)
            | (go_at_call 23; refine HWr.out.mono ?_; rintro e w1' ⟨rfl, rfl⟩)
            | (go_at_call 21; refine (HP9.out _).mono ?_; rintro e w1' ⟨rfl, rfl⟩)
            | (go_at_call 15; refine stop ?_))
          unfold Stop
          refine HLd.out.mono ?_
          rintro e w6 ⟨rfl, hb6⟩
          have ho6 := HOk.out.below hb6
          have HPu := Lib.hid (open_publish_full ho6 HOu.out HSu.out)
          have HO6 := Lib.hid ho6
          clear ho6 hb6 HLd HEr HWr HP9 HOk
          cases bk
          · have HCm := Lib.hid (open_commit_full HO6.out (.inr rfl) (by omega) HOu.out HSu.out)
            go_wp2_with (first
              | (go_at_call 25; refine (HPu.out _ _ _).mono ?_; rintro e w1' ⟨rfl, rfl⟩)
              | (go_at_call 17; refine stop ?_))
            unfold Stop
            refine HCm.out.mono ?_
            rintro e w7 ⟨rfl, Z7, hd7, _, _⟩
            have hl := idle_load hd7.idle (j := 0) (by omega) 0 (good8 (i := 0) (by omega))
            rw [show 0 / 8 = 0 from rfl, curM_word 0 (by omega), show ((0 : Nat) : Int) = 0 from rfl, show ((0 + 1 : Nat) : Int) = 1 from rfl] at hl
            have HL := Lib.hid hl
            have HOp := Lib.hid (done_openX hd7)
            have j1 := hd7.idle.law.2.1
            have j7 := idle_lock hd7.idle
            have HD7 := Lib.hid hd7
            clear hl hd7 HCm HPu HO6
            go_wp2_with (first
              | (go_at_call 26; refine HOp.out.mono ?_; rintro e w1' ⟨rfl, rfl⟩)
              | (go_at_call 19; refine HL.out.mono ?_; rintro e w1' ⟨rfl, rfl⟩)
              | go_in)
            go_ret
            have hbw := HD7.out.idle.out
            rw [HW0.out] at hbw
            exact ⟨rfl, HB1.out.trans (hbw.mono HB1.out.size)⟩
          · have hrb := open_rollback HO6.out (.inr rfl) (by rw [HMm.out]; decide) (by rw [HMm.out]; intro a ha; simp at ha; subst ha; exact Nat.zero_le _) 1 (by rw [HMm.out]; exact ⟨_, List.mem_cons_self .., rfl⟩) (by omega)
            rw [show ((1 : Nat) : Int) = 1 from rfl] at hrb
            have HRb := Lib.hid hrb
            clear hrb
            go_wp2_with (first
              | (go_at_call 25; refine (HPu.out _ _ _).mono ?_; rintro e w1' ⟨rfl, rfl⟩)
              | (go_at_call 16; refine stop ?_))
            unfold Stop
            refine HRb.out.mono ?_
            rintro e w7 ⟨rfl, q, hq, _, Z7, ho7, _, _⟩
            have hq0 : q = 0 := by rw [HMm.out] at hq; simp at hq; exact hq
            subst hq0
            rw [lim_back] at ho7
            have her7 := open_err ho7
            have hwr7 := open_writes ho7
            rw [show ∀ s : AT, s.outside = false → s.surplus = false → s.err = 0 from fun s a b => by unfold AT.err; rw [a, b]; rfl] at her7 <;> try rfl
            rw [show ((0 : Nat) : Int) = 0 from rfl] at her7 hwr7
            have HE7 := Lib.hid her7
            have HW7 := Lib.hid hwr7
            have HCm := Lib.hid (open_commit ho7 (.inr rfl) (by omega) rfl rfl HTc.out)
            clear her7 hwr7 ho7 HRb HO6 HPu
            go_wp2_with (first
              | (go_at_call 22; refine HE7.out.mono ?_; rintro e w1' ⟨rfl, rfl⟩)
              | (go_at_call 23; refine HW7.out.mono ?_; rintro e w1' ⟨rfl, rfl⟩)
              | (go_at_call 17; refine stop ?_))
            unfold Stop
            refine HCm.out.mono ?_
            rintro e w8 ⟨rfl, Z8, hd8, _, _⟩
            have hl := idle_load hd8.idle (j := 0) (by omega) 0 (good8 (i := 0) (by omega))
            rw [show vw Fm.no (curM 32) (0 / 8) = 1 from curM_word 0 (by omega), show ((0 : Nat) : Int) = 0 from rfl, show ((1 : Nat) : Int) = 1 from rfl] at hl
            have HL := Lib.hid hl
            have HD8 := Lib.hid hd8
            clear hl hd8 HCm
            go_wp2_with (go_at_call 19; refine HL.out.mono ?_; rintro e w1' ⟨rfl, rfl⟩)
            go_ret
            have hbw := HD8.out.idle.out
            rw [HW0.out] at hbw
            exact ⟨rfl, HB1.out.trans (hbw.mono HB1.out.size)⟩
end Go.Proofs.YtklpeghhgoeeiaaGreatDoor
