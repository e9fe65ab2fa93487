/- The walks and laws that the claim leans on, part 28. -/
import Derived.Test.YtpihhlbfpbngaaaGreatDoorJba
namespace Go.Proofs.YtpihhlbfpbngaaaGreatDoor
open Go.RowKit Go.Maps
def Vac (s K : Nat) (cs : Nat → CS) (f : Nat → Option Nat) (cl k i : Nat) : Prop := k < K ∧ (cs k).dv = true ∧ (cs k).cl = cl ∧ i < perC cl ∧ ((cs k).bs i).st = 176 ∧ f (offO s cs k i) = none
def SchP (s K : Nat) (cs : Nat → CS) (f : Nat → Option Nat) (cl kind : Nat) (v : Value) : Prop :=
  (v = .tuple #[.int .u64 0, .int .i64 0, .int .i64 5] ∧ ∀ k i, ¬ Vac s K cs f cl k i) ∨
  ∃ k i, Vac s K cs f cl k i ∧ v = .tuple #[.int .u64 (fptr s cs kind k i : Int), .int .i64 ((s + 32 * k : Nat) : Int), .int .i64 0]
section
variable {a : DA} {L T s n K : Nat} {x : HA} {cs : Nat → CS} {f : Nat → Option Nat} {N m b0 : Nat} {S : Fp} {cur : Nat → Nat} {w w' : World}
theorem look_noneI (z : Int) (hz : (Lit.int .i64 z).wf = true) (W : World) : (Instr.lookup 149 (.map none) (.int .i64 z) false).run Tryz.prog W = .ok (.bool false) W :=
  Maps.look_nil false keyedN Tryz.underlying149 (by kernel_rfl) (keyOf_int_mk Tryz.underlying3 hz)
set_option maxRecDepth 100000 in
set_option maxHeartbeats 2000000 in
theorem search_any (h : DS a L T s n K x cs f N m b0 S cur w) (cl kind : Nat) (hk0 : 0 < kind) (hk8 : kind < 128) :
    Calls Tryz.prog 158 #[.pointer (some ⟨x.h, 0, none⟩), .int .i64 0, .int .i64 (cl : Int), .int .u8 (kind : Int)] w fun e w' => ∃ v, e = .returned v ∧ SchP s K cs f cl kind v ∧ Below w.heap.size w w' := by
  have hfew := h.few
  have HCk := Lib.hid (chunks_any h.hs.plc hfew.1 (by omega) cl)
  have HWi : Hid (∀ k, k < K → (cs k).dv = true → ∀ W, Below w.heap.size w W → Calls Tryz.prog 160 #[.pointer (some ⟨x.h, 0, none⟩), .int .i64 ((s + 32 * k : Nat) : Int), .int .u8 (kind : Int)] W fun e w' => ∃ v, e = .returned v ∧ WithP s cs f kind k v ∧ Below W.heap.size W w') := Lib.hid (fun k hk hd W hW => within_any (h.below hW) hk hd kind hk0 hk8)
  have HD := Lib.hid h.hs.heap
  have hx3 : w.cell? ⟨x.h, 3, none⟩ = some (.pointer (some ⟨x.gs, 0, none⟩)) := h.hs.heap.cell 3
  have HL : Hid (∀ y ∈ cksOf s cs cl K, ∃ k, k < K ∧ (cs k).dv = true ∧ (cs k).cl = cl ∧ y = ((s + 32 * k : Nat) : Int)) := Lib.hid (fun y hy => cksOf_mem hy)
  have HIn : Hid (∀ k, k < K → (cs k).dv = true → (cs k).cl = cl → ((s + 32 * k : Nat) : Int) ∈ cksOf s cs cl K) := Lib.hid (fun k h1 h2 h3 => cksOf_in h1 h2 h3)
  have HFw := Lib.hid hfew
  have HLl := Lib.hid (Nat.le_trans (cksOf_len s cs cl K) hfew.1)
  clear h hfew
  unfold HA.p at *
  dsimp only at *
  generalize cksOf s cs cl K = l at *
  go_enter Tryz.func158, Tryz.ntmps158
  go_wp2_with (go_at_call 241; refine HCk.out.mono ?_; rintro e w1 ⟨A, q, c, rfl, ho1, hb1⟩; refine stop ?_)
  unfold Stop
  have HR1 := Lib.hid (Reads.of_own ho1)
  have HB1 := Lib.hid hb1
  have hq128 : q ≤ 128 := by have := ho1.1; rw [iCells_len] at this; have := HLl.out; omega
  have HLn := Lib.hid (show l.length = q by have := ho1.1; rw [iCells_len] at this; omega)
  clear ho1 hb1 HCk hx3
  go_wp2_with fail
  have HI0 : Hid (Below w1.heap.size w1 w1) := Below.refl _ _
  go_loopw [23] (fun i wr => ∃ (j : Nat), j ≤ q ∧ i = .int .i64 j ∧ Hid (∀ t, t < j → ∀ k, k < K → (cs k).dv = true → (cs k).cl = cl → l[t]? = some ((s + 32 * k : Nat) : Int) → ∀ i, ¬ Vac s K cs f cl k i) ∧ Hid (Below w1.heap.size w1 wr)) (fun i _ => q - (intOf i).toNat)
  case atStart => exact ⟨0, Nat.zero_le _, rfl, Lib.hid (fun t ht => by omega), HI0⟩
  case round =>
    clear HI0
    obtain ⟨j, hj, rfl, HA, H⟩ := hrel
    by_cases hlt : j < q
    · have hjl : j < l.length := by rw [HLn.out]; exact hlt
      obtain ⟨b, off, hA, hbB, hcell⟩ := (HR1.out.below H.out).plain (by omega) (by omega)
      have f0 : wr.cell? ⟨b, off + j, none⟩ = some (.int .i64 l[j]) := hcell j _ (by simp [iCells, hjl])
      subst hA
      obtain ⟨k, hk, hdv, hcl, hy⟩ := HL.out l[j] (List.getElem_mem hjl)
      have HLj := Lib.hid (show l[j]? = some ((s + 32 * k : Nat) : Int) by rw [List.getElem?_eq_getElem hjl, hy])
      rw [hy] at f0
      have hz5 : (0 : Int) ≤ (j : Int) := by omega
      have hz6 : (j : Int) < (q : Int) := by omega
      have HBr := Lib.hid (HB1.out.trans (H.out.mono HB1.out.size))
      have f6 : wr.cell? ⟨x.h, 6, none⟩ = some (.map none) := (HD.out.below HBr.out HD.out.lt).cell 6
      have HWk := Lib.hid (HWi.out k hk hdv wr HBr.out)
      have hlk := look_noneI ((s + 32 * k : Nat) : Int) (WalkArith.wf_i64 ⟨by omega, by have := HFw.out; omega⟩)
      have HK := Lib.hid (show k < K ∧ (cs k).dv = true ∧ (cs k).cl = cl from ⟨hk, hdv, hcl⟩)
      clear hcell hy hk hdv hcl
      generalize hv : ((s + 32 * k : Nat) : Int) = v at *
      have HV := Lib.hid hv
      clear hv
      go_wp2_with (go_at_call 160; refine HWk.out.mono ?_; rintro e w2 ⟨v2, rfl, hP, hb2⟩; refine stop ?_)
      unfold Stop
      have HB2 := Lib.hid (H.out.trans (hb2.mono H.out.size))
      clear hb2 H HWk f0 f6
      rcases hP with ⟨rfl, hnone⟩ | ⟨i, hi, hst, hfi, rfl⟩
      · have HA2 : Hid (∀ t, t < j + 1 → ∀ k, k < K → (cs k).dv = true → (cs k).cl = cl → l[t]? = some ((s + 32 * k : Nat) : Int) → ∀ i, ¬ Vac s K cs f cl k i) := Lib.hid (fun t ht k' hk' hd' hc' hl' i' hv' => by
          by_cases e : t = j
          · subst e
            have h1 := HLj.out
            rw [hl', ← HV.out] at h1
            simp at h1
            have h2 : k' = k := by omega
            subst h2
            obtain ⟨_, _, h3, h4, h5, h6⟩ := hv'
            exact hnone i' (by rw [h3]; exact h4) h5 h6
          · exact HA.out t (by omega) k' hk' hd' hc' hl' i' hv')
        clear hnone HA HLj HV
        go_wp2
        go_roundw
        case rel =>
          first
            | exact ⟨j + 1, by omega, by go_num, HA2, HB2⟩
            | (repeat apply Exists.intro
               refine ⟨?_, rfl⟩
               exact ⟨j + 1, by omega, by go_num, HA2, HB2⟩)
        case measure => simp [intOf]; omega
      · have HVa : Hid (Vac s K cs f cl k i) := Lib.hid ⟨HK.out.1, HK.out.2.1, HK.out.2.2, by rw [← HK.out.2.2]; exact hi, hst, hfi⟩
        have HBe := Lib.hid (HB1.out.trans (HB2.out.mono HB1.out.size))
        clear hi hst hfi HA HLj HK
        generalize hfp : fptr s cs kind k i = fp at *
        have HFP := Lib.hid hfp
        clear hfp
        go_wp2
        go_ret3
        exact ⟨_, rfl, .inr ⟨k, i, HVa.out, by rw [HV.out, HFP.out]; rfl⟩, HBe.out⟩
    · obtain rfl : q = j := by omega
      have HNo : Hid (∀ k i, ¬ Vac s K cs f cl k i) := Lib.hid (fun k i hv => by
        have h1 := HIn.out k hv.1 hv.2.1 hv.2.2.1
        obtain ⟨t, ht, hte⟩ := List.getElem_of_mem h1
        exact HA.out t (by have := HLn.out; omega) k hv.1 hv.2.1 hv.2.2.1 (by rw [List.getElem?_eq_getElem ht, hte]) i hv)
      have HBe := Lib.hid (HB1.out.trans (H.out.mono HB1.out.size))
      clear HA
      go_wp2
      go_ret3
      exact ⟨_, rfl, .inl ⟨rfl, HNo.out⟩, HBe.out⟩
end
end Go.Proofs.YtpihhlbfpbngaaaGreatDoor
namespace Go.Proofs.YtpihhlbfpbngaaaGreatDoor
open Go.RowKit
theorem hd_or (c g : Nat) (hc : c < 5) (hg : g < 65536) : bits .or .u32 ((3305111552 + g : Nat) : Int) (((c + 1) * 65536 + 1048576 : Nat) : Int) = (hdX c g : Int) := by
  rw [u32_or_nat _ _ (by omega) (by omega)]
  congr 1
  have e1 : 3305111552 + g = 3305111552 ||| g := Nat.two_pow_add_eq_or_of_lt (i := 16) (b := g) (by omega) 50432
  have e2 : 3305111552 ||| ((c + 1) * 65536 + 1048576) = 2 ^ 16 * (50432 + (c + 1) + 16) := by
    have hc5 : c = 0 ∨ c = 1 ∨ c = 2 ∨ c = 3 ∨ c = 4 := by omega
    rcases hc5 with rfl | rfl | rfl | rfl | rfl <;> decide
  rw [e1, Nat.or_assoc, Nat.or_comm g, ← Nat.or_assoc, e2, ← Nat.two_pow_add_eq_or_of_lt (by omega)]
  unfold hdX
  omega
theorem hd_or2 (c : Nat) (hc : c < 5) : bits .or .u32 (((c : Int) + 1) * 65536) 1048576 = (((c + 1) * 65536 + 1048576 : Nat) : Int) := by
  have hc5 : c = 0 ∨ c = 1 ∨ c = 2 ∨ c = 3 ∨ c = 4 := by omega
  rcases hc5 with rfl | rfl | rfl | rfl | rfl <;> decide
section
set_option maxRecDepth 100000
set_option maxHeartbeats 2000000
theorem wordCls_any (c g : Nat) (hc : c < 5) (hg : g < 65536) (w : World) (ht : Tab w) :
    Calls Tryz.prog 282 #[.agg #[.int .i64 (c : Int), .int .i64 0, .int .u16 (g : Int)]] w fun e w' => e = .returned (.int .u64 (hdrW c g : Int)) ∧ Below w.heap.size w w' := by
  have HB0 : Hid (∀ x, Below w.heap.size w (w.alloc x)) := fun x => (Below.refl _ _).alloc (Nat.le_refl _) x
  have HS := Lib.hid (fun x => seal_any (hdX c g) (by unfold hdX; omega) (w.alloc x) (ht.below (HB0.out x)))
  have e1 := own_or g hg
  have e2 := hd_or c g hc hg
  have e3 := hd_or2 c hc
  have u1 : IntKind.u32.wrap (g : Int) = (g : Int) := by rw [IntKind.wrap_u32']; omega
  have u2 : IntKind.u32.wrap ((c : Int) + 1) = (c : Int) + 1 := by rw [IntKind.wrap_u32']; omega
  have u3 : IntKind.u32.wrap (((c : Int) + 1) * 65536) = ((c : Int) + 1) * 65536 := by rw [IntKind.wrap_u32']; omega
  have d1 : decide ((0 : Int) ≤ (c : Int)) = true := decide_eq_true (by omega)
  unfold hdrW
  generalize hdX c g = z at *
  generalize ((c + 1) * 65536 + 1048576) = y at *
  generalize 3305111552 + g = q at *
  clear ht
  go_enter Tryz.func282, Tryz.ntmps282
  go_wp2_with (go_at_call 313; refine (HS.out _).mono ?_; rintro e w1 ⟨rfl, hb1⟩; have HB1 := Lib.hid ((HB0.out _).trans (hb1.mono (by simp))); clear hb1)
  go_ret
  exact ⟨rfl, HB1.out⟩
def IsFmt (ln cl g : Nat) (p : List Ins) : Prop := ∃ p1 p2, p = p1 ++ p2 ∧ IsStores (fmtW ln cl g) p1 ∧ IsStores [(64 * ln, hdrW cl g)] p2
theorem stores_len {ws : List (Nat × Nat)} {p : List Ins} (h : IsStores ws p) : p.length ≤ 2 * ws.length + 1 := by
  obtain ⟨fs, rfl, hl, _⟩ := h
  simp
  omega
theorem chPlan_any (ln cl g : Nat) (hl : ln ≤ 4064) (hc : cl < 5) (h0 : 0 < g) (hg : g < 65536) (w : World) (ht : Tab w) (hp : Pay w) :
    Calls Tryz.prog 244 #[.int .i64 (ln : Int), .agg #[.int .i64 (cl : Int), .int .i64 0, .int .u16 (g : Int)]] w (RetProgOk w (IsFmt ln cl g)) := by
  have HT := Lib.hid ht
  have HPy := Lib.hid hp
  obtain ⟨i0, hi0, hz0, hz1, hz2⟩ := info_parts infoWrite
  have HB0 : Hid (Below w.heap.size w (w.alloc (.cells #[.int .i64 (cl : Int), .int .i64 0, .int .u16 (g : Int)] 260))) := (Below.refl _ _).alloc (Nat.le_refl _) _
  have HK0 := Lib.hid (Blk.new w 260 #[.int .i64 (cl : Int), .int .i64 0, .int .u16 (g : Int)])
  generalize hW : w.alloc (.cells #[.int .i64 (cl : Int), .int .i64 0, .int .u16 (g : Int)] 260) = W at *
  have HWe := Lib.hid hW.symm
  clear hW
  have HTW := Lib.hid (ht.below HB0.out)
  have HPW := Lib.hid (hp.below HB0.out)
  have HF := Lib.hid (formatted_any cl g hc W HPW.out)
  have HBw : Hid (∀ V, Below W.heap.size W V → Calls Tryz.prog 298 #[.agg #[.int .u16 (g : Int), .int .u8 0, .int .u8 176]] V fun e w' => e = .returned (.int .u64 (BK.w ⟨g, 0, 176⟩ : Int)) ∧ Below V.heap.size V w') := Lib.hid (fun V hV => bkWord_any ⟨g, 0, 176⟩ ⟨hg, by show (0 : Nat) < 256; omega, by show (176 : Nat) < 256; omega⟩ V (HTW.out.below hV))
  have HPC : Hid (∀ V, Below W.heap.size W V → Calls Tryz.prog 201 #[.int .i64 (cl : Int)] V fun e w' => e = .returned (.int .i64 (perC cl : Int)) ∧ V = w') := Lib.hid (fun V hV => perChunk_any cl hc V (HPW.out.below hV))
  have HOf : Hid (∀ k, k < perC cl → ∀ V, Below W.heap.size W V → Calls Tryz.prog 299 #[.int .i64 (cl : Int), .int .i64 (k : Int)] V fun e w' => e = .returned (.tuple #[.int .i64 (offB cl k : Int), .int .i64 0]) ∧ V = w') := Lib.hid (fun k hk V hV => offset_any cl k hc hk V (HPW.out.below hV))
  have HSt := Lib.hid (start_any ln (by omega))
  have HWd : Hid (∀ V, Below W.heap.size W V → Calls Tryz.prog 282 #[.agg #[.int .i64 (cl : Int), .int .i64 0, .int .u16 (g : Int)]] V fun e w' => e = .returned (.int .u64 (hdrW cl g : Int)) ∧ Below V.heap.size V w') := Lib.hid (fun V hV => wordCls_any cl g hc hg V (HTW.out.below hV))
  have HOl : Hid (∀ k, k < perC cl → offB cl k < 256) := Lib.hid (fun k hk => by have := off_lt hk; have := pay_le cl; omega)
  have hper := per_le cl
  have HBs := Lib.hid (fun k => fmtB_succ ln cl g k)
  have HZs := Lib.hid (fun k => fmtZ_succ ln k)
  have d1 : decide ((0 : Int) ≤ (ln : Int)) = true := decide_eq_true (by omega)
  have d2 : decide ((ln : Int) ≤ 4064) = true := decide_eq_true (by omega)
  have d3 : ((g : Int) == 0) = false := by rw [beq_eq_false_iff_ne]; omega
  clear ht hp hc h0 hg
  generalize hz : 64 * ln = z at *
  have hz4 : z ≤ 260096 := by omega
  have HZ := Lib.hid hz
  clear hz hl
  go_enter Tryz.func244, Tryz.ntmps244
  go_wp2_with fail
  rw [← HWe.out]
  have c0 : W.cell? ⟨w.heap.size, 0, none⟩ = some (.int .i64 (cl : Int)) := HK0.out.cell 0
  have c1 : W.cell? ⟨w.heap.size, 1, none⟩ = some (.int .i64 0) := HK0.out.cell 1
  have c2 : W.cell? ⟨w.heap.size, 2, none⟩ = some (.int .u16 (g : Int)) := HK0.out.cell 2
  go_wp2_with (first
    | (go_at_call 297; refine HF.out.mono ?_; rintro e w1 ⟨rfl, hb1⟩; have HB1 := Lib.hid hb1; have k1 := HK0.out.below hb1 HK0.out.lt; have c0' : w1.cell? ⟨w.heap.size, 0, none⟩ = some (.int .i64 (cl : Int)) := k1.cell 0; have c1' : w1.cell? ⟨w.heap.size, 1, none⟩ = some (.int .i64 0) := k1.cell 1; have c2' : w1.cell? ⟨w.heap.size, 2, none⟩ = some (.int .u16 (g : Int)) := k1.cell 2; clear hb1 k1 c0 c1 c2)
    | (go_at_call 298; refine (HBw.out _ HB1.out).mono ?_; rintro e w2 ⟨rfl, hb2⟩; have HB2 := Lib.hid (HB1.out.trans (hb2.mono HB1.out.size)); have k1 := HK0.out.below HB2.out HK0.out.lt; have c0 : w2.cell? ⟨w.heap.size, 0, none⟩ = some (.int .i64 (cl : Int)) := k1.cell 0; clear hb2 k1 c0' c1' c2')
    | (go_at_call 201; refine (HPC.out _ HB2.out).mono ?_; rintro e w3 ⟨rfl, rfl⟩)
    | go_in)
  clear c0
  have HL2 : Hid (W.heap.size ≤ w2.heap.size) := Lib.hid HB2.out.size
  have HO0 : Hid (w2.ownsRow W.heap.size 76 2 (.slice none 0 0) 0 (wrCells (fmtB ln cl g 0))) := World.ownsRow_nil _ _ _ _
  generalize BK.w ⟨g, 0, 176⟩ = bw at *
  go_loopw [6, 33] (fun v i wr => ∃ (k : Nat) (A1 : Option Addr) (m1 c1 : Nat), k ≤ perC cl ∧ i = .int .i64 k ∧ v = .slice A1 m1 c1 ∧ m1 = k ∧ Hid (wr.ownsRow W.heap.size 76 2 (.slice A1 m1 c1) m1 (wrCells (fmtB ln cl g k))) ∧ Hid (Below W.heap.size W wr)) (fun _ i _ => perC cl - (intOf i).toNat)
  case atStart => exact ⟨0, _, _, _, Nat.zero_le _, rfl, rfl, rfl, HO0, HB2⟩
  case round =>
    clear HO0 HB2
    obtain ⟨k, A1, m1, c1, hk, rfl, rfl, hm1', HO, H⟩ := hrel
    by_cases hlt : k < perC cl
    · have hz5 : (0 : Int) ≤ (k : Int) := by omega
      have hz6 : (k : Int) < (perC cl : Int) := by omega
      have hm2 : m1 ≤ 62 := by omega
      have HM := Lib.hid hm1'
      have HOk := Lib.hid (HOf.out k hlt wr H.out)
      have hol := HOl.out k hlt
      have c0 : wr.cell? ⟨w.heap.size, 0, none⟩ = some (.int .i64 (cl : Int)) := (HK0.out.below H.out HK0.out.lt).cell 0
      have HEQ : Hid (wrCells (fmtB ln cl g k) ++ [.int .u64 ((z + 8 * offB cl k : Nat) : Int), .int .u64 (bw : Int)] = wrCells (fmtB ln cl g (k + 1))) := Lib.hid (by rw [HBs.out]; simp [wrCells])
      generalize offB cl k = ob at *
      have u1 : IntKind.u64.wrap (ob : Int) = (ob : Int) := by rw [IntKind.wrap_u64]; omega
      have u2 : IntKind.u64.wrap ((ob : Int) * 8) = (ob : Int) * 8 := by rw [IntKind.wrap_u64]; omega
      have u3 : IntKind.u64.wrap ((z : Int) + (ob : Int) * 8) = ((z + 8 * ob : Nat) : Int) := by rw [IntKind.wrap_u64]; omega
      have hy9 : z + 8 * ob < 9000000000 := by omega
      generalize z + 8 * ob = y at *
      have HLE := Lib.hid H.out.size
      have HOD := Lib.hid (HO.out.alloc (.cells #[.int .u64 (y : Int), .int .u64 (bw : Int)] 76))
      have HBD := Lib.hid (H.out.alloc H.out.size (.cells #[.int .u64 (y : Int), .int .u64 (bw : Int)] 76))
      clear H HO hm1'
      go_wp2_with (first
        | (go_at_call 299; refine HOk.out.mono ?_; rintro e w3 ⟨rfl, rfl⟩)
        | (go_at_call 281; refine (HSt.out _).mono ?_; rintro e w3 ⟨rfl, rfl⟩)
        | (at_builtin; refine wpList_app _ (.tmp 43) (.tmp 52) 69 rfl rfl W.heap.size 76 i0 _ 2 16 Tryz.underlying69 hi0 hz0 hz1 hz2 rfl ?q1 (.slice A1 m1 c1) m1 (wrCells (fmtB ln cl g k)) rfl HOD.out (wr.heap.size + 1) (some ⟨wr.heap.size, 0, none⟩) 1 1 [.int .u64 (y : Int), .int .u64 (bw : Int)] rfl ?q5 ?q6 ?q2 ?q3 ?q4 ?_; (case q1 => omega); (case q5 => exact row_reads_at _ _ rfl _ 1 2 76 _ rfl rfl); (case q6 => (intro u hu; simp at hu; rcases hu with rfl | rfl <;> rfl)); (case q2 => (unfold maxLen; omega)); (case q3 => omega); (case q4 => (have := HLE.out; simp; omega)); intro A3 n3 c3 w8 hn3 ho3 hg3 hb3; have HN3 := Lib.hid hn3; have HO3 := Lib.hid ho3; have HB3 := Lib.hid (HBD.out.trans hb3); clear hn3 ho3 hg3 hb3)
        | go_in)
      have b1 : n3 = k + 1 := by have := HN3.out; have := HM.out; omega
      have HO4 : Hid (w8.ownsRow W.heap.size 76 2 (.slice A3 n3 c3) n3 (wrCells (fmtB ln cl g (k + 1)))) := Lib.hid (by have h := HO3.out; rw [HEQ.out] at h; exact h)
      go_roundw
      case rel =>
        first
          | exact ⟨k + 1, _, _, _, by omega, by go_num, rfl, b1, HO4, HB3⟩
          | (repeat apply Exists.intro
             refine ⟨?_, rfl⟩
             exact ⟨k + 1, _, _, _, by omega, by go_num, rfl, b1, HO4, HB3⟩)
      case measure => simp [intOf]; omega
    · have hkp : perC cl = k := by omega
      clear HOf HOl HPC HBw
      have HO0 : Hid (wr.ownsRow W.heap.size 76 2 (.slice A1 m1 c1) m1 (wrCells (fmtB ln cl g (perC cl) ++ fmtZ ln 0))) := Lib.hid (by rw [hkp]; simp only [fmtZ, List.range_zero, List.map_nil, List.append_nil]; exact HO.out)
      have hm2 : m1 ≤ 62 := by omega
      have HM0 := Lib.hid (show m1 = perC cl by omega)
      have hd1 : decide ((k : Int) < (perC cl : Int)) = false := decide_eq_false (by omega)
      have hd2 : decide (k < perC cl) = false := decide_eq_false hlt
      clear HO hkp hm1' hk hlt
      go_wp2
      clear hd1 hd2
      go_loopw [6, 11] (fun v i wr => ∃ (j : Nat) (A2 : Option Addr) (m2 c2 : Nat), j ≤ 7 ∧ i = .int .u64 ((j + 1 : Nat) : Int) ∧ v = .slice A2 m2 c2 ∧ m2 = m1 + j ∧ Hid (wr.ownsRow W.heap.size 76 2 (.slice A2 m2 c2) m2 (wrCells (fmtB ln cl g (perC cl) ++ fmtZ ln j))) ∧ Hid (Below W.heap.size W wr)) (fun _ i _ => 8 - (intOf i).toNat)
      case atStart => exact ⟨0, _, _, _, Nat.zero_le _, rfl, rfl, rfl, HO0, H⟩
      case round =>
        clear HO0 H
        obtain ⟨j, A2, m2, c2, hj, rfl, rfl, hm2', HO, H⟩ := hrel
        by_cases hlt : j < 7
        · have d8 : decide (((j + 1 : Nat) : Int) < 8) = true := decide_eq_true (by omega)
          have d8n : decide (j + 1 < 8) = true := decide_eq_true (by omega)
          have hm3 : m2 ≤ 80 := by omega
          have HM := Lib.hid hm2'
          have HEQ : Hid (wrCells (fmtB ln cl g (perC cl) ++ fmtZ ln j) ++ [.int .u64 ((z + 8 * (j + 1) : Nat) : Int), .int .u64 0] = wrCells (fmtB ln cl g (perC cl) ++ fmtZ ln (j + 1))) := Lib.hid (by rw [HZs.out]; simp [wrCells])
          have u2 : IntKind.u64.wrap (((j + 1 : Nat) : Int) * 8) = ((j + 1 : Nat) : Int) * 8 := by rw [IntKind.wrap_u64]; omega
          have u3 : IntKind.u64.wrap ((z : Int) + ((j + 1 : Nat) : Int) * 8) = ((z + 8 * (j + 1) : Nat) : Int) := by rw [IntKind.wrap_u64]; omega
          have u4 : IntKind.u64.wrap (((j + 1 : Nat) : Int) + 1) = ((j + 1 + 1 : Nat) : Int) := by rw [IntKind.wrap_u64]; omega
          have hy9 : z + 8 * (j + 1) < 9000000000 := by omega
          generalize z + 8 * (j + 1) = y at *
          have hj2 : j + 1 + 1 ≤ 8 := by omega
          have HJ : Hid (∃ j2, j2 = j + 1) := Lib.hid ⟨_, rfl⟩
          generalize hj1 : j + 1 = j1 at *
          generalize hj3 : j1 + 1 = j3 at *
          have HJ1 := Lib.hid hj1
          have HJ3 := Lib.hid hj3
          clear hj1 hj3 HJ
          have HLE := Lib.hid H.out.size
          have HOD := Lib.hid (HO.out.alloc (.cells #[.int .u64 (y : Int), .int .u64 0] 76))
          have HBD := Lib.hid (H.out.alloc H.out.size (.cells #[.int .u64 (y : Int), .int .u64 0] 76))
          clear H HO hm2'
          go_wp2_with (first
            | (go_at_call 281; refine (HSt.out _).mono ?_; rintro e w3 ⟨rfl, rfl⟩)
            | (at_builtin; refine wpList_app _ (.tmp 59) (.tmp 66) 69 rfl rfl W.heap.size 76 i0 _ 2 16 Tryz.underlying69 hi0 hz0 hz1 hz2 rfl ?q1 (.slice A2 m2 c2) m2 (wrCells (fmtB ln cl g (perC cl) ++ fmtZ ln j)) rfl HOD.out (wr.heap.size + 1) (some ⟨wr.heap.size, 0, none⟩) 1 1 [.int .u64 (y : Int), .int .u64 0] rfl ?q5 ?q6 ?q2 ?q3 ?q4 ?_; (case q1 => omega); (case q5 => exact row_reads_at _ _ rfl _ 1 2 76 _ rfl rfl); (case q6 => (intro u hu; simp at hu; rcases hu with rfl | rfl <;> rfl)); (case q2 => (unfold maxLen; omega)); (case q3 => omega); (case q4 => (have := HLE.out; simp; omega)); intro A3 n3 c3 w8 hn3 ho3 hg3 hb3; have HN3 := Lib.hid hn3; have HO3 := Lib.hid ho3; have HB3 := Lib.hid (HBD.out.trans hb3); clear hn3 ho3 hg3 hb3)
            | go_in)
          have b1 : n3 = m1 + (j + 1) := by have := HN3.out; have := HM.out; omega
          have HO4 : Hid (w8.ownsRow W.heap.size 76 2 (.slice A3 n3 c3) n3 (wrCells (fmtB ln cl g (perC cl) ++ fmtZ ln (j + 1)))) := Lib.hid (by have h := HO3.out; rw [HEQ.out, ← HJ1.out] at h; exact h)
          have HV : Hid ((j3 : Int) = ((j + 1 + 1 : Nat) : Int)) := Lib.hid (by rw [← HJ3.out, ← HJ1.out])
          go_roundw
          case rel =>
            first
              | exact ⟨j + 1, _, _, _, by omega, by rw [← HV.out], rfl, b1, HO4, HB3⟩
              | (repeat apply Exists.intro
                 refine ⟨?_, rfl⟩
                 exact ⟨j + 1, _, _, _, by omega, by rw [← HV.out], rfl, b1, HO4, HB3⟩)
          case measure => (have h1 := HJ1.out; have h3 := HJ3.out; simp [intOf]; omega)
        · have hj7 : j = 7 := by omega
          subst hj7
          have HOF : Hid (wr.ownsRow W.heap.size 76 2 (.slice A2 m2 c2) m2 (wrCells (fmtW ln cl g))) := HO
          have HM2 : Hid (m2 ≤ 69 ∧ 0 < m2) := Lib.hid (by have := HM0.out; omega)
          have HVs : Hid (∀ e ∈ fmtW ln cl g, e.1 < 18446744073709551616) := Lib.hid (fun e he => by
            unfold fmtW at he
            rcases List.mem_append.1 he with he | he
            · obtain ⟨i, hi, rfl⟩ := fmtB_mem he
              have := off_lt hi
              have := HZ.out
              show 64 * ln + 8 * offB cl i < _
              omega
            · obtain ⟨i, hi, rfl⟩ := fmtZ_mem he
              have := HZ.out
              show 64 * ln + 8 * (i + 1) < _
              omega)
          clear HO hm2' hlt hj HM0 hm2 HBs HZs
          go_wp2_with fail
          refine wp_region_script (fun w' => Below W.heap.size W w') 4 [(true, 0), (true, 2), (false, 1), (false, 3)] (by kernel_rfl) (by kernel_rfl) H.out.drew ?_
          refine wpScript_take (.int .i64 (ln : Int)) (by rfl) (by rfl) (fun w' hS => ?_) ?_
          · go_simp
          simp only [zA, zB, Act.put, zD, zE, zF]
          refine wpScript_take (.agg #[.int .i64 (cl : Int), .int .i64 0, .int .u16 (g : Int)]) (by rfl) (by rfl) (fun w' hS => ?_) ?_
          · have f0 : w'.cell? ⟨w.heap.size, 0, none⟩ = some (.int .i64 (cl : Int)) := (HK0.out.below hS HK0.out.lt).cell 0
            have f1 : w'.cell? ⟨w.heap.size, 1, none⟩ = some (.int .i64 0) := (HK0.out.below hS HK0.out.lt).cell 1
            have f2 : w'.cell? ⟨w.heap.size, 2, none⟩ = some (.int .u16 (g : Int)) := (HK0.out.below hS HK0.out.lt).cell 2
            go_simp
          simp only [zA, zB, zC, Act.put, zD, zE, zF]
          refine wpScript_do (by rfl) ?_
          go_wp2_with fail
          refine (HSt.out _).mono ?_
          rintro e w4 ⟨rfl, rfl⟩
          go_wp2_with fail
          refine ⟨H.out.drew, ?_⟩
          refine wpScript_do (by rfl) ?_
          go_wp2_with fail
          refine (HWd.out _ H.out.drew).mono ?_
          rintro e w5 ⟨rfl, hb5⟩
          have HBd : Hid (Below wr.heap.size wr w5) := Lib.hid ((Below.refl _ wr).drew.trans hb5)
          have HB5 := Lib.hid (H.out.trans (HBd.out.mono H.out.size))
          have HO5 := Lib.hid (own_below HOF.out HBd.out)
          have HX : Hid (hdrW cl g = hdrW cl g) := Lib.hid rfl
          generalize hhd : hdrW cl g = hd at *
          have HHD := Lib.hid hhd
          have HS1 := Lib.hid (stores_small _ 1 1 _ _ (one_reads w5 z hd) (by omega) (by omega) (fun e he => by simp at he; subst he; show z < _; omega))
          have HB6 : Hid (∀ o, Below W.heap.size W (w5.alloc o)) := Lib.hid (fun o => HB5.out.alloc HB5.out.size o)
          have HO6 : Hid (∀ o, (w5.alloc o).ownsRow W.heap.size 76 2 (.slice A2 m2 c2) m2 (wrCells (fmtW ln cl g))) := Lib.hid (fun o => HO5.out.alloc o)
          clear hb5 hhd HX HOF HO5 HWd HBd
          go_wp2_with fail
          refine ⟨HB5.out, ?_⟩
          show wpList _ _ _ _ _ _
          simp only [List.drop_succ_cons, List.drop_zero]
          go_wp2_with (go_at_call 71; refine HS1.out.mono ?_; intro e w6 h1; obtain ⟨A4, m4, c4, p4, rfl, hp4, ho4, hb4⟩ := h1; refine stop ?_)
          unfold Stop
          have HB7 := Lib.hid ((HB6.out _).trans (hb4.mono (HB6.out _).size))
          have HO7 := Lib.hid (own_below (HO6.out _) hb4)
          have HP4 := Lib.hid hp4
          have HO4 := Lib.hid (own_le ho4 (HB6.out _).size)
          have HS2 := Lib.hid (stores_small A2 m2 c2 (fmtW ln cl g) w6 (Reads.of_own HO7.out) HM2.out.2 (by have := HM2.out; omega) HVs.out)
          have h4l := stores_len hp4
          have hm4 : m4 ≤ 400 := by have h := ho4.1; rw [insCells_len] at h; simp at h4l; omega
          clear hp4 ho4 hb4 HS1 HB6 HO6 HO7 HB5 H h4l
          go_wp2_with fail
          refine NoPanic.normal ?_
          go_wp2_with (go_at_call 71; refine HS2.out.mono ?_; intro e w7 h1; obtain ⟨A5, m5, c5, p5, rfl, hp5, ho5, hb5⟩ := h1; refine stop ?_)
          unfold Stop
          have HO8 := Lib.hid (own_below HO4.out hb5)
          have h5l := stores_len hp5
          have hm5 : m5 ≤ 400 := by have h := ho5.1; rw [insCells_len] at h; rw [fmtW_len] at h5l; have := per_le cl; omega
          have HTh := Lib.hid (then_any A5 A4 m5 c5 m4 c4 p5 p4 w7 (Reads.of_own ho5) (Reads.of_own HO8.out) hm5 hm4)
          have HP5 := Lib.hid hp5
          have HB8 := Lib.hid (HB7.out.trans (hb5.mono HB7.out.size))
          clear hp5 ho5 hb5 HS2 HO4 HO8 HB7 h5l
          go_wp2_with fail
          refine HTh.out.mono ?_
          rintro e w8 ⟨A6, m6, c6, rfl, hm6, ho6, hb6⟩
          have HO9 := Lib.hid (own_le (base' := w.heap.size) ho6 (Nat.le_trans HB0.out.size HB8.out.size))
          have HB9 := Lib.hid (HB0.out.trans ((HB8.out.trans (hb6.mono HB8.out.size)).mono HB0.out.size))
          clear ho6 hb6 hm6 HTh HB8
          go_wp2
          go_ret2
          refine ⟨_, _, _, _, rfl, ⟨p5, p4, rfl, HP5.out, ?_⟩, HO9.out, HB9.out⟩
          rw [HZ.out, HHD.out]
          exact HP4.out
end
end Go.Proofs.YtpihhlbfpbngaaaGreatDoor
