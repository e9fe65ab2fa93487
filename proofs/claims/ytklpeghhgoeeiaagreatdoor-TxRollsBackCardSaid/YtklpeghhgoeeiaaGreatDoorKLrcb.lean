/- The walks and laws that the claim leans on, part 2: each part says ahead of its lines what it holds. -/
import Derived.Test.YtklpeghhgoeeiaaGreatDoorKLrca
/- bedrocklaw24: TxRollsBack. -/
namespace Go.Proofs.YtklpeghhgoeeiaaGreatDoor
open Go.RowKit Go.Maps Go.Sort Go.Shelf
/-- Stores to the first 32 words. -/
def stL (s : AT) (l : List (Nat × Nat)) : AT := l.foldl (fun s e => s.store (8 * (e.1 % 32)) e.2) s
theorem stL_snoc (s : AT) (l : List (Nat × Nat)) (e : Nat × Nat) : stL s (l ++ [e]) = (stL s l).store (8 * (e.1 % 32)) e.2 := by simp [stL]
theorem stL_wee : ∀ (l : List (Nat × Nat)) {s : AT}, s.Wee → (stL s l).Wee
  | [], _, h => h
  | e :: l, _, h => stL_wee l (h.store (by omega))
theorem stL_marks : ∀ (l : List (Nat × Nat)) {s : AT}, s.Wee → (stL s l).marks = s.marks ∧ (stL s l).ids = s.ids
  | [], _, _ => ⟨rfl, rfl⟩
  | e :: l, s, h => by
    have := stL_marks l (h.store (i := e.1 % 32) (v := e.2) (by omega))
    refine ⟨this.1.trans ?_, this.2.trans ?_⟩ <;> rw [h.eq]
set_option maxRecDepth 100000 in
set_option maxHeartbeats 4000000 in
theorem txRollsBack_law (w : World) (ht : Tab w) {v0 v1 : Value} (ls : List (Nat × Nat) × List (Nat × Nat) × List (Nat × Nat)) (h0 : ∃ x y z, v0 = .agg #[x, y, z] ∧ PairsIs w x ls.1 ∧ PairsIs w y ls.2.1 ∧ PairsIs w z ls.2.2) (u : Bool) (h1 : v1 = .bool u) :
    Calls Tryz.prog 3 #[v0, v1] w fun e w' => e = .returned (.bool true) ∧ Below w.heap.size w w' := by
  obtain ⟨LA, LB, LC⟩ := ls
  dsimp only at h0
  obtain ⟨x, y, z, rfl, ⟨Aa, na, ca, rfl, hra, hna, hca, hoa⟩, ⟨Ab, nb, cb, rfl, hrb, hnb, hcb, hob⟩, ⟨Ac, nc, cc, rfl, hrc, hnc, hcc, hoc⟩⟩ := h0
  subst h1
  have HRa := Lib.hid hra
  have HRb := Lib.hid hrb
  have HRc := Lib.hid hrc
  have HOa := Lib.hid hoa
  have HOb := Lib.hid hob
  have HOc := Lib.hid hoc
  have HLa := Lib.hid (show LA.length = na by have := hra.1; rw [wrCells_len] at this; omega)
  have HLb := Lib.hid (show LB.length = nb by have := hrb.1; rw [wrCells_len] at this; omega)
  have HLc := Lib.hid (show LC.length = nc by have := hrc.1; rw [wrCells_len] at this; omega)
  have hba : Below w.heap.size w (w.alloc (.cells #[.slice Aa na ca, .slice Ab nb cb, .slice Ac nc cc] 24)) := (Below.refl _ w).alloc (Nat.le_refl _) _
  have HB0 := Lib.hid hba
  have HTa := Lib.hid (ht.below hba)
  have HAw := Lib.hid (awake_any _ (ht.below hba))
  have HBx := Lib.hid (Blk.new w 24 #[.slice Aa na ca, .slice Ab nb cb, .slice Ac nc cc])
  have HSz : Hid (w.heap.size < (w.alloc (.cells #[.slice Aa na ca, .slice Ab nb cb, .slice Ac nc cc] 24)).heap.size) := Lib.hid (by simp)
  clear ht hra hrb hrc hoa hob hoc hba hna hca hnb hcb hnc hcc
  go_enter Tryz.func3, Tryz.ntmps3
  go_wp2_with fail
  generalize w.alloc (.cells #[.slice Aa na ca, .slice Ab nb cb, .slice Ac nc cc] 24) = W0 at *
  refine HAw.out.mono ?_
  rintro e w1 ⟨rfl, hb1⟩
  have HB1 := Lib.hid (HB0.out.trans (hb1.mono HB0.out.size))
  have HBx1 := Lib.hid (HBx.out.below hb1 HBx.out.lt)
  have HMa := Lib.hid (made_any w1 (HTa.out.below hb1))
  have HTb := Lib.hid (HTa.out.below hb1)
  have HS1 := Lib.hid (Nat.lt_of_lt_of_le HSz.out hb1.size)
  clear hb1 HAw HTa HBx HB0 HSz
  go_wp2_with fail
  refine HMa.out.mono ?_
  rintro e w2 ⟨a, S, T, cur, gw, x, cs, rfl, hM⟩
  obtain ⟨Z, hI0, hZ0⟩ := idle_made hM
  obtain ⟨c, hw0, hgw, hI⟩ : ∃ c : CX, c.w0 = w1 ∧ c.gw = gw ∧ Idle c (curM 32) 0 Z w2 := ⟨_, rfl, rfl, hI0⟩
  clear hI0 hM
  subst hgw
  have HW0 := Lib.hid hw0
  have HTc : Hid (Tab c.w0) := Lib.hid (by rw [hw0]; exact HTb.out)
  have HI := Lib.hid hI
  have k2 := hI.law.2.2
  -- what stands of the arguments
  have HArg : Hid (∀ W, Below c.w0.heap.size c.w0 W → Below w.heap.size w W ∧ Blk W w.heap.size 24 #[.slice Aa na ca, .slice Ab nb cb, .slice Ac nc cc] ∧ w.heap.size < c.w0.heap.size) := Lib.hid (fun W hW => by
    rw [hw0] at hW ⊢
    exact ⟨HB1.out.trans (hW.mono HB1.out.size), HBx1.out.below hW HBx1.out.lt, HS1.out⟩)
  clear hI HMa hw0 HTb HBx1 HS1 HB1 hZ0
  cases u
  · have HBg := Lib.hid (idle_begin HI.out 1 (.inl rfl))
    clear HI
    go_wp2_with fail
    refine HBg.out.mono ?_
    rintro e w3 ⟨g, rfl, Z3, ho3, _, _⟩
    have HO3 := Lib.hid ho3
    have ha3 := HArg.out w3 ho3.out
    have q0 : w3.cell? ⟨w.heap.size, 0, none⟩ = some (.slice Aa na ca) := ha3.2.1.cell 0
    have q1 : w3.cell? ⟨w.heap.size, 1, none⟩ = some (.slice Ab nb cb) := ha3.2.1.cell 1
    have q2 : w3.cell? ⟨w.heap.size, 2, none⟩ = some (.slice Ac nc cc) := ha3.2.1.cell 2
    have HBw := Lib.hid ha3.1
    clear ho3 HBg k2 ha3
    by_cases hA : na ≤ 60
    case neg =>
      have g1 : decide ((60 : Int) < (na : Int)) = true := decide_eq_true (by omega)
      go_wp2
      go_ret
      exact ⟨rfl, HBw.out⟩
    by_cases hB : nb ≤ 60
    case neg =>
      have g1 : decide ((60 : Int) < (na : Int)) = false := decide_eq_false (by omega)
      have g2 : decide ((60 : Int) < (nb : Int)) = true := decide_eq_true (by omega)
      go_wp2
      go_ret
      exact ⟨rfl, HBw.out⟩
    by_cases hC : nc ≤ 60
    case neg =>
      have g1 : decide ((60 : Int) < (na : Int)) = false := decide_eq_false (by omega)
      have g2 : decide ((60 : Int) < (nb : Int)) = false := decide_eq_false (by omega)
      have g3 : decide ((60 : Int) < (nc : Int)) = true := decide_eq_true (by omega)
      go_wp2
      go_ret
      exact ⟨rfl, HBw.out⟩
    have g1 : decide ((60 : Int) < (na : Int)) = false := decide_eq_false (by omega)
    have g2 : decide ((60 : Int) < (nb : Int)) = false := decide_eq_false (by omega)
    have g3 : decide ((60 : Int) < (nc : Int)) = false := decide_eq_false (by omega)
    have HO30 : Hid (∃ Z, Open c g 1 (curM 32) (stL AT.new (LA.take 0)) 0 Z w3) := Lib.hid ⟨Z3, HO3.out⟩
    clear HBw HO3
    go_wp2
    clear q0 q1 q2 g1 g2 g3
    go_loopw [59] (fun i wr => ∃ k : Nat, k ≤ na ∧ i = .int .i64 (k : Int) ∧ Hid (∃ Z, Open c g 1 (curM 32) (stL AT.new (LA.take k)) k Z wr)) (fun i _ => na - (Go.RowKit.intOf i).toNat)
    case atStart => exact ⟨0, Nat.zero_le _, rfl, HO30⟩
    case round =>
      clear HO30
      obtain ⟨k, hk, rfl, HO⟩ := hrel
      obtain ⟨Zk, hok⟩ := HO.out
      have hak := HArg.out wr hok.out
      by_cases hlt : k < na
      · obtain ⟨hl, b, off, hA, hbB, f0, f1⟩ := wr_facts (HRa.out.below hak.1) hlt
        subst hA
        have hz5 : (0 : Int) ≤ (k : Int) := by omega
        have hz6 : (k : Int) < (na : Int) := by omega
        have HTS := Lib.hid (takeS LA k hl)
        have HPo := Lib.hid (HOa.out _ (List.getElem_mem hl))
        have HSn := Lib.hid (stL_snoc AT.new (LA.take k) (LA[k]))
        rw [← HTS.out] at HSn
        generalize LA[k] = e at *
        obtain ⟨i, hi⟩ : ∃ i : Nat, e.1 % 32 = i := ⟨_, rfl⟩
        have hi32 : i < 32 := by omega
        have hm1 : (e.1 : Int) % 32 = (i : Int) := by omega
        have hm2 : (e.1 : Int).tmod 32 = (i : Int) := by rw [Int.tmod_eq_emod_of_nonneg (by omega)]; exact hm1
        have hst := open_store (hok.below ((Below.refl _ wr).alloc (Nat.le_refl _) (.cells #[.int .u64 (e.1 : Int), .int .u64 (e.2 : Int)] 47))) (.inl rfl) (8 * i) e.2 (good8 hi32) HPo.out.2 (by omega)
        rw [show ((8 * i : Nat) : Int) = 8 * (i : Int) by omega, show (stL AT.new (LA.take k)).store (8 * i) e.2 = stL AT.new (LA.take (k + 1)) by rw [HSn.out, hi]] at hst
        have HSt := Lib.hid hst
        clear hst hok hak HO hi
        go_wp2_with (go_at_call 13; refine stop ?_)
        unfold Stop
        refine HSt.out.mono ?_
        rintro e w5 ⟨rfl, Z5, ho5, _, _⟩
        have HO5 : Hid (∃ Z, Open c g 1 (curM 32) (stL AT.new (LA.take (k + 1))) (k + 1) Z w5) := Lib.hid ⟨Z5, ho5⟩
        clear ho5 HSt
        go_wp2
        go_roundw
        case rel =>
          first
            | exact ⟨k + 1, by omega, by go_num, HO5⟩
            | (repeat apply Exists.intro
               refine ⟨?_, rfl⟩
               exact ⟨k + 1, by omega, by go_num, HO5⟩)
        case measure => simp [Go.RowKit.intOf]; omega
      · have hkn : k = na := by omega
        subst hkn
        rw [List.take_of_length_le (by rw [HLa.out]; exact Nat.le_refl _)] at hok
        obtain ⟨hmk, hid⟩ := stL_marks LA AT.Wee.new
        have hW1 := stL_wee LA AT.Wee.new
        have hsv := open_save hok (by rw [hid]; decide) (by rw [hmk]; decide)
        rw [hid, show ((AT.new.ids + 1 : Nat) : Int) = 1 from rfl] at hsv
        have HSv := Lib.hid hsv
        have HMk := Lib.hid hmk
        have HId := Lib.hid hid
        have HW1 := Lib.hid hW1
        generalize stL AT.new LA = s1 at *
        clear hsv hok hak HO hmk hid hW1 HRa HOa HLa
        go_wp2_with fail
        refine HSv.out.mono ?_
        rintro e w5 ⟨rfl, Z5, ho5, _, _⟩
        have HO5 := Lib.hid ho5
        clear ho5 HSv
        go_wp2
        have HL6 : Hid (LW c g 1 (curM 32) s1.save 61 w5.heap.size (w5.heap.size + 1) (fun _ => 0) (fun _ => 0) ((w5.alloc (Obj.cells #[Value.int IntKind.u64 0, Value.int IntKind.u64 0, Value.int IntKind.u64 0, Value.int IntKind.u64 0, Value.int IntKind.u64 0, Value.int IntKind.u64 0, Value.int IntKind.u64 0, Value.int IntKind.u64 0, Value.int IntKind.u64 0, Value.int IntKind.u64 0, Value.int IntKind.u64 0, Value.int IntKind.u64 0, Value.int IntKind.u64 0, Value.int IntKind.u64 0, Value.int IntKind.u64 0, Value.int IntKind.u64 0, Value.int IntKind.u64 0, Value.int IntKind.u64 0, Value.int IntKind.u64 0, Value.int IntKind.u64 0, Value.int IntKind.u64 0, Value.int IntKind.u64 0, Value.int IntKind.u64 0, Value.int IntKind.u64 0, Value.int IntKind.u64 0, Value.int IntKind.u64 0, Value.int IntKind.u64 0, Value.int IntKind.u64 0, Value.int IntKind.u64 0, Value.int IntKind.u64 0, Value.int IntKind.u64 0, Value.int IntKind.u64 0] 36)).alloc (Obj.cells #[Value.int IntKind.u64 0, Value.int IntKind.u64 0, Value.int IntKind.u64 0, Value.int IntKind.u64 0, Value.int IntKind.u64 0, Value.int IntKind.u64 0, Value.int IntKind.u64 0, Value.int IntKind.u64 0, Value.int IntKind.u64 0, Value.int IntKind.u64 0, Value.int IntKind.u64 0, Value.int IntKind.u64 0, Value.int IntKind.u64 0, Value.int IntKind.u64 0, Value.int IntKind.u64 0, Value.int IntKind.u64 0, Value.int IntKind.u64 0, Value.int IntKind.u64 0, Value.int IntKind.u64 0, Value.int IntKind.u64 0, Value.int IntKind.u64 0, Value.int IntKind.u64 0, Value.int IntKind.u64 0, Value.int IntKind.u64 0, Value.int IntKind.u64 0, Value.int IntKind.u64 0, Value.int IntKind.u64 0, Value.int IntKind.u64 0, Value.int IntKind.u64 0, Value.int IntKind.u64 0, Value.int IntKind.u64 0, Value.int IntKind.u64 0] 36))) := Lib.hid (by
          have h5 := HO5.out
          have hb5 : Below w5.heap.size w5 ((w5.alloc (Obj.cells #[Value.int IntKind.u64 0, Value.int IntKind.u64 0, Value.int IntKind.u64 0, Value.int IntKind.u64 0, Value.int IntKind.u64 0, Value.int IntKind.u64 0, Value.int IntKind.u64 0, Value.int IntKind.u64 0, Value.int IntKind.u64 0, Value.int IntKind.u64 0, Value.int IntKind.u64 0, Value.int IntKind.u64 0, Value.int IntKind.u64 0, Value.int IntKind.u64 0, Value.int IntKind.u64 0, Value.int IntKind.u64 0, Value.int IntKind.u64 0, Value.int IntKind.u64 0, Value.int IntKind.u64 0, Value.int IntKind.u64 0, Value.int IntKind.u64 0, Value.int IntKind.u64 0, Value.int IntKind.u64 0, Value.int IntKind.u64 0, Value.int IntKind.u64 0, Value.int IntKind.u64 0, Value.int IntKind.u64 0, Value.int IntKind.u64 0, Value.int IntKind.u64 0, Value.int IntKind.u64 0, Value.int IntKind.u64 0, Value.int IntKind.u64 0] 36)).alloc (Obj.cells #[Value.int IntKind.u64 0, Value.int IntKind.u64 0, Value.int IntKind.u64 0, Value.int IntKind.u64 0, Value.int IntKind.u64 0, Value.int IntKind.u64 0, Value.int IntKind.u64 0, Value.int IntKind.u64 0, Value.int IntKind.u64 0, Value.int IntKind.u64 0, Value.int IntKind.u64 0, Value.int IntKind.u64 0, Value.int IntKind.u64 0, Value.int IntKind.u64 0, Value.int IntKind.u64 0, Value.int IntKind.u64 0, Value.int IntKind.u64 0, Value.int IntKind.u64 0, Value.int IntKind.u64 0, Value.int IntKind.u64 0, Value.int IntKind.u64 0, Value.int IntKind.u64 0, Value.int IntKind.u64 0, Value.int IntKind.u64 0, Value.int IntKind.u64 0, Value.int IntKind.u64 0, Value.int IntKind.u64 0, Value.int IntKind.u64 0, Value.int IntKind.u64 0, Value.int IntKind.u64 0, Value.int IntKind.u64 0, Value.int IntKind.u64 0] 36)) := ((Below.refl _ w5).alloc (Nat.le_refl _) _).alloc (by simp) _
          have hs5 := h5.out.size
          have h2 := Arr.new (w5.alloc (Obj.cells z32 36))
          rw [show (w5.alloc (Obj.cells z32 36)).heap.size = w5.heap.size + 1 by simp] at h2
          exact ⟨Z5, (h5.below hb5).more (by omega), fun h => by have := h5.lt _ h; omega, fun h => by have := h5.lt _ h; omega, (Arr.new w5).chg (Y := Fp.no) ((Chg.refl _ _).alloc _) (fun h => h), h2, by omega, by omega, by omega⟩)
        obtain ⟨V, hV⟩ : ∃ V : Nat → Nat, V = vw s1.f (curM 32) := ⟨_, rfl⟩
        have HV := Lib.hid hV
        have HL60 : Hid (LW c g 1 (curM 32) s1.save 61 w5.heap.size (w5.heap.size + 1) (fun i => if i < 0 then V i else 0) (fun _ => 0) ((w5.alloc (Obj.cells #[Value.int IntKind.u64 0, Value.int IntKind.u64 0, Value.int IntKind.u64 0, Value.int IntKind.u64 0, Value.int IntKind.u64 0, Value.int IntKind.u64 0, Value.int IntKind.u64 0, Value.int IntKind.u64 0, Value.int IntKind.u64 0, Value.int IntKind.u64 0, Value.int IntKind.u64 0, Value.int IntKind.u64 0, Value.int IntKind.u64 0, Value.int IntKind.u64 0, Value.int IntKind.u64 0, Value.int IntKind.u64 0, Value.int IntKind.u64 0, Value.int IntKind.u64 0, Value.int IntKind.u64 0, Value.int IntKind.u64 0, Value.int IntKind.u64 0, Value.int IntKind.u64 0, Value.int IntKind.u64 0, Value.int IntKind.u64 0, Value.int IntKind.u64 0, Value.int IntKind.u64 0, Value.int IntKind.u64 0, Value.int IntKind.u64 0, Value.int IntKind.u64 0, Value.int IntKind.u64 0, Value.int IntKind.u64 0, Value.int IntKind.u64 0] 36)).alloc (Obj.cells #[Value.int IntKind.u64 0, Value.int IntKind.u64 0, Value.int IntKind.u64 0, Value.int IntKind.u64 0, Value.int IntKind.u64 0, Value.int IntKind.u64 0, Value.int IntKind.u64 0, Value.int IntKind.u64 0, Value.int IntKind.u64 0, Value.int IntKind.u64 0, Value.int IntKind.u64 0, Value.int IntKind.u64 0, Value.int IntKind.u64 0, Value.int IntKind.u64 0, Value.int IntKind.u64 0, Value.int IntKind.u64 0, Value.int IntKind.u64 0, Value.int IntKind.u64 0, Value.int IntKind.u64 0, Value.int IntKind.u64 0, Value.int IntKind.u64 0, Value.int IntKind.u64 0, Value.int IntKind.u64 0, Value.int IntKind.u64 0, Value.int IntKind.u64 0, Value.int IntKind.u64 0, Value.int IntKind.u64 0, Value.int IntKind.u64 0, Value.int IntKind.u64 0, Value.int IntKind.u64 0, Value.int IntKind.u64 0, Value.int IntKind.u64 0] 36))) := Lib.hid (HL6.out.congr (fun i _ => by rw [if_neg (by omega)]) (fun _ _ => rfl))
        clear HO5 HL6 hV
        generalize (w5.alloc (Obj.cells #[Value.int IntKind.u64 0, Value.int IntKind.u64 0, Value.int IntKind.u64 0, Value.int IntKind.u64 0, Value.int IntKind.u64 0, Value.int IntKind.u64 0, Value.int IntKind.u64 0, Value.int IntKind.u64 0, Value.int IntKind.u64 0, Value.int IntKind.u64 0, Value.int IntKind.u64 0, Value.int IntKind.u64 0, Value.int IntKind.u64 0, Value.int IntKind.u64 0, Value.int IntKind.u64 0, Value.int IntKind.u64 0, Value.int IntKind.u64 0, Value.int IntKind.u64 0, Value.int IntKind.u64 0, Value.int IntKind.u64 0, Value.int IntKind.u64 0, Value.int IntKind.u64 0, Value.int IntKind.u64 0, Value.int IntKind.u64 0, Value.int IntKind.u64 0, Value.int IntKind.u64 0, Value.int IntKind.u64 0, Value.int IntKind.u64 0, Value.int IntKind.u64 0, Value.int IntKind.u64 0, Value.int IntKind.u64 0, Value.int IntKind.u64 0] 36)).alloc (Obj.cells #[Value.int IntKind.u64 0, Value.int IntKind.u64 0, Value.int IntKind.u64 0, Value.int IntKind.u64 0, Value.int IntKind.u64 0, Value.int IntKind.u64 0, Value.int IntKind.u64 0, Value.int IntKind.u64 0, Value.int IntKind.u64 0, Value.int IntKind.u64 0, Value.int IntKind.u64 0, Value.int IntKind.u64 0, Value.int IntKind.u64 0, Value.int IntKind.u64 0, Value.int IntKind.u64 0, Value.int IntKind.u64 0, Value.int IntKind.u64 0, Value.int IntKind.u64 0, Value.int IntKind.u64 0, Value.int IntKind.u64 0, Value.int IntKind.u64 0, Value.int IntKind.u64 0, Value.int IntKind.u64 0, Value.int IntKind.u64 0, Value.int IntKind.u64 0, Value.int IntKind.u64 0, Value.int IntKind.u64 0, Value.int IntKind.u64 0, Value.int IntKind.u64 0, Value.int IntKind.u64 0, Value.int IntKind.u64 0, Value.int IntKind.u64 0] 36) = W6 at *
        generalize w5.heap.size = bw at *
        go_loopw [74] (fun i wr => ∃ k : Nat, k ≤ 32 ∧ i = .int .i64 (k : Int) ∧ Hid (LW c g 1 (curM 32) s1.save 61 bw (bw + 1) (fun i => if i < k then V i else 0) (fun _ => 0) wr)) (fun i _ => 32 - (Go.RowKit.intOf i).toNat)
        case atStart => exact ⟨0, by omega, rfl, HL60⟩
        case round =>
          clear HL60
          obtain ⟨k2, hk2, rfl, HL⟩ := hrel
          by_cases hlt2 : k2 < 32
          · have u1 : IntKind.u64.wrap (k2 : Int) = (k2 : Int) := by rw [IntKind.wrap_u64]; omega
            have hld := ls_load HL.out (.inl rfl) (8 * k2) (good8 hlt2)
            rw [show ((8 * k2 : Nat) : Int) = 8 * (k2 : Int) by omega, show vw s1.save.f (curM 32) (8 * k2 / 8) = V k2 by rw [HV.out, show 8 * k2 / 8 = k2 by omega]; rfl] at hld
            have HLd := Lib.hid hld
            have hz5 : (0 : Int) ≤ (k2 : Int) := by omega
            have hz6 : (k2 : Int) < 32 := by omega
            clear hld HL
            go_wp2_with fail
            refine HLd.out.mono ?_
            rintro e w6 ⟨rfl, hl6⟩
            obtain ⟨c6, z6⟩ := hl6.c1 hlt2
            have HL7 : Hid (LW c g 1 (curM 32) s1.save 61 bw (bw + 1) (fun i => if i < k2 + 1 then V i else 0) (fun _ => 0) (w6.setCell ⟨bw, k2, none⟩ (.int .u64 (V k2 : Int)))) := Lib.hid ((hl6.set1 hlt2 (V k2)).congr (fun i hi => by
              unfold upd
              by_cases e : i = k2
              · subst e; rw [if_pos rfl, if_pos (by omega)]
              · rw [if_neg e]
                show (if i < k2 then V i else 0) = if i < k2 + 1 then V i else 0
                by_cases e2 : i < k2
                · rw [if_pos e2, if_pos (by omega)]
                · rw [if_neg e2, if_neg (by omega)]) (fun _ _ => rfl))
            clear hl6 HLd
            go_wp2
            go_roundw
            case rel =>
              first
                | exact ⟨k2 + 1, by omega, by go_num, HL7⟩
                | (repeat apply Exists.intro
                   refine ⟨?_, rfl⟩
                   exact ⟨k2 + 1, by omega, by go_num, HL7⟩)
            case measure => simp [Go.RowKit.intOf]; omega
          · have hkn2 : k2 = 32 := by omega
            subst hkn2
            have HB0 : Hid (LW c g 1 (curM 32) (stL s1.save (LB.take 0)) (61 + 0) bw (bw + 1) V (fun _ => 0) wr) := Lib.hid (HL.out.congr (fun i hi => by rw [if_pos hi]) (fun _ _ => rfl))
            have q1 : wr.cell? ⟨w.heap.size, 1, none⟩ = some (.slice Ab nb cb) := (HArg.out wr HL.out.out).2.1.cell 1
            clear HL
            go_wp2
            clear q1
            go_loopw [88] (fun i wr => ∃ k : Nat, k ≤ nb ∧ i = .int .i64 (k : Int) ∧ Hid (LW c g 1 (curM 32) (stL s1.save (LB.take k)) (61 + k) bw (bw + 1) V (fun _ => 0) wr)) (fun i _ => nb - (Go.RowKit.intOf i).toNat)
            case atStart => exact ⟨0, Nat.zero_le _, rfl, HB0⟩
            case round =>
              clear HB0
              obtain ⟨k3, hk3, rfl, HL⟩ := hrel
              have hak := HArg.out wr HL.out.out
              by_cases hlt3 : k3 < nb
              · obtain ⟨hl, b, off, hA, hbB, f0, f1⟩ := wr_facts (HRb.out.below hak.1) hlt3
                subst hA
                have hz5 : (0 : Int) ≤ (k3 : Int) := by omega
                have hz6 : (k3 : Int) < (nb : Int) := by omega
                have HTS := Lib.hid (takeS LB k3 hl)
                have HPo := Lib.hid (HOb.out _ (List.getElem_mem hl))
                have HSn := Lib.hid (stL_snoc s1.save (LB.take k3) (LB[k3]))
                rw [← HTS.out] at HSn
                generalize LB[k3] = e at *
                obtain ⟨i, hi⟩ : ∃ i : Nat, e.1 % 32 = i := ⟨_, rfl⟩
                have hi32 : i < 32 := by omega
                have hm1 : (e.1 : Int) % 32 = (i : Int) := by omega
                have hm2 : (e.1 : Int).tmod 32 = (i : Int) := by rw [Int.tmod_eq_emod_of_nonneg (by omega)]; exact hm1
                have hst := ls_store (HL.out.below ((Below.refl _ wr).alloc (Nat.le_refl _) (.cells #[.int .u64 (e.1 : Int), .int .u64 (e.2 : Int)] 47))) (.inl rfl) (8 * i) e.2 (good8 hi32) HPo.out.2 (by omega)
                rw [show ((8 * i : Nat) : Int) = 8 * (i : Int) by omega, show (stL s1.save (LB.take k3)).store (8 * i) e.2 = stL s1.save (LB.take (k3 + 1)) by rw [HSn.out, hi]] at hst
                have HSt := Lib.hid hst
                clear hst hak HL hi
                go_wp2_with (go_at_call 13; refine stop ?_)
                unfold Stop
                refine HSt.out.mono ?_
                rintro e w7 ⟨rfl, hl7, _⟩
                have HL7 : Hid (LW c g 1 (curM 32) (stL s1.save (LB.take (k3 + 1))) (61 + (k3 + 1)) bw (bw + 1) V (fun _ => 0) w7) := Lib.hid hl7
                clear hl7 HSt
                go_wp2
                go_roundw
                case rel =>
                  first
                    | exact ⟨k3 + 1, by omega, by go_num, HL7⟩
                    | (repeat apply Exists.intro
                       refine ⟨?_, rfl⟩
                       exact ⟨k3 + 1, by omega, by go_num, HL7⟩)
                case measure => simp [Go.RowKit.intOf]; omega
              · have hkn3 : k3 = nb := by omega
                subst hkn3
                rw [List.take_of_length_le (by rw [HLb.out]; exact Nat.le_refl _)] at HL
                have hws := HW1.out.save
                obtain ⟨hmk, hid⟩ := stL_marks LB hws
                have hw3 := stL_wee LB hws
                have hmk2 : (stL s1.save LB).marks = [⟨1, s1.f, s1.k, s1.outside, s1.surplus⟩] := by
                  rw [hmk]
                  show s1.marks ++ [(⟨s1.ids + 1, s1.f, s1.k, s1.outside, s1.surplus⟩ : AMark)] = _
                  rw [HMk.out, HId.out]
                  rfl
                obtain ⟨Z8, hi8⟩ := HL.out
                have hrb := open_rollback hi8.op (.inl rfl) (by rw [hmk2]; simp) (hw3.mk_le) 1 (by rw [hmk2]; exact ⟨_, List.mem_cons_self .., rfl⟩) (by omega)
                rw [show ((1 : Nat) : Int) = 1 from rfl] at hrb
                have HRk := Lib.hid hrb
                have HI8 := Lib.hid hi8
                have HMk2 := Lib.hid hmk2
                have HW3 := Lib.hid hw3
                generalize stL s1.save LB = s3 at *
                clear hrb hi8 HL hak hmk hid hws hw3 hmk2 HRb HOb HLb
                go_wp2_with fail
                refine HRk.out.mono ?_
                rintro e w9 ⟨rfl, q, hq, _, hto⟩
                have hq0 : q = 0 := by have h := hq; rw [HMk2.out] at h; simpa using h
                subst hq0
                have hl9 := HI8.out.to hto
                have hv4 : vw (s3.back 0).f (curM 32) = V := by
                  have h := HMk2.out
                  have e : (s3.back 0).f = s1.f := by
                    unfold AT.back
                    rw [h]
                    rfl
                  rw [e, HV.out]
                have HL90 : Hid (LW c g 1 (curM 32) (s3.back 0) 122 bw (bw + 1) V (fun _ => 0) w9) := Lib.hid (by
                  obtain ⟨Z9, h9⟩ := hl9
                  exact ⟨Z9, { h9 with op := h9.op.more (by omega) }⟩)
                have HV4 := Lib.hid hv4
                have HW4 := Lib.hid (HW3.out.back 0)
                generalize s3.back 0 = s4 at *
                clear hto hl9 hv4 HRk HI8 HMk2 HW3
                go_wp2
                go_loopw [105] (fun i wr => ∃ k : Nat, k ≤ 32 ∧ i = .int .i64 (k : Int) ∧ Hid (LW c g 1 (curM 32) s4 122 bw (bw + 1) V (fun _ => 0) wr)) (fun i _ => 32 - (Go.RowKit.intOf i).toNat)
                case atStart => exact ⟨0, by omega, rfl, HL90⟩
                case round =>
                  clear HL90
                  obtain ⟨k4, hk4, rfl, HL⟩ := hrel
                  by_cases hlt4 : k4 < 32
                  · have u1 : IntKind.u64.wrap (k4 : Int) = (k4 : Int) := by rw [IntKind.wrap_u64]; omega
                    have hld := ls_load (HL.out.below (Below.refl _ wr).drew) (.inl rfl) (8 * k4) (good8 hlt4)
                    rw [show ((8 * k4 : Nat) : Int) = 8 * (k4 : Int) by omega, HV4.out, show 8 * k4 / 8 = k4 by omega] at hld
                    have HLd := Lib.hid hld
                    have u2 : IntKind.u64.wrap (8 * (k4 : Int)) = 8 * (k4 : Int) := by rw [IntKind.wrap_u64]; omega
                    have HS0 : Hid (wr.drew.cell? ⟨bw, k4, none⟩ = some (.int .u64 (V k4 : Int))) := Lib.hid ((HL.out.below (Below.refl _ wr).drew).c1 hlt4).1
                    have hz5 : (0 : Int) ≤ (k4 : Int) := by omega
                    have hz6 : (k4 : Int) < 32 := by omega
                    clear hld HL
                    go_wp2_with fail
                    refine wp_region_script (fun w' => w'.cell? ⟨bw, k4, none⟩ = some (.int .u64 (V k4 : Int))) 8 [(true, 0), (true, 1), (true, 2), (true, 3), (true, 5), (true, 6), (true, 7), (false, 4)] (by kernel_rfl) (by kernel_rfl) HS0.out ?_
                    refine wpScript_take (.pointer (some ⟨g, 0, none⟩)) (by rfl) (by rfl) (fun w' hS => ?_) ?_
                    · go_simp
                    simp only [List.getElem_toArray, List.getElem_cons_zero, Act.put, List.setIfInBounds_toArray, List.set_cons_zero, List.set_cons_succ]
                    refine wpScript_take (.int .i64 (k4 : Int)) (by rfl) (by rfl) (fun w' hS => ?_) ?_
                    · go_simp
                    simp only [List.getElem_toArray, List.getElem_cons_zero, List.getElem_cons_succ, Act.put, List.setIfInBounds_toArray, List.set_cons_zero, List.set_cons_succ]
                    refine wpScript_take (.int .u64 (k4 : Int)) (by rfl) (by rfl) (fun w' hS => ?_) ?_
                    · go_simp
                    simp only [List.getElem_toArray, List.getElem_cons_zero, List.getElem_cons_succ, Act.put, List.setIfInBounds_toArray, List.set_cons_zero, List.set_cons_succ]
                    refine wpScript_take (.int .u64 (8 * (k4 : Int))) (by rfl) (by rfl) (fun w' hS => ?_) ?_
                    · go_simp
                    simp only [List.getElem_toArray, List.getElem_cons_zero, List.getElem_cons_succ, Act.put, List.setIfInBounds_toArray, List.set_cons_zero, List.set_cons_succ]
                    refine wpScript_take (.int .i64 (k4 : Int)) (by rfl) (by rfl) (fun w' hS => ?_) ?_
                    · go_simp
                    simp only [List.getElem_toArray, List.getElem_cons_zero, List.getElem_cons_succ, Act.put, List.setIfInBounds_toArray, List.set_cons_zero, List.set_cons_succ]
                    refine wpScript_take (.pointer (some ⟨bw, k4, none⟩)) (by rfl) (by rfl) (fun w' hS => ?_) ?_
                    · go_simp
                    simp only [List.getElem_toArray, List.getElem_cons_zero, List.getElem_cons_succ, Act.put, List.setIfInBounds_toArray, List.set_cons_zero, List.set_cons_succ]
                    refine wpScript_take (.int .u64 (V k4 : Int)) (by rfl) (by rfl) (fun w' hS => ?_) ?_
                    · have f1 := hS
                      go_simp
                    simp only [List.getElem_toArray, List.getElem_cons_zero, List.getElem_cons_succ, Act.put, List.setIfInBounds_toArray, List.set_cons_zero, List.set_cons_succ]
                    refine wpScript_do (by rfl) ?_
                    go_wp2_with fail
                    refine HLd.out.mono ?_
                    rintro e w10 ⟨rfl, hl10⟩
                    have HL10 := Lib.hid hl10
                    clear hl10 HLd HS0
                    go_wp2_with fail
                    refine ⟨(HL10.out.c1 hlt4).1, ?_⟩
                    show wpList _ _ _ _ _ _
                    simp only [List.drop_succ_cons, List.drop_zero]
                    go_wp2
                    refine NoPanic.normal ?_
                    go_wp2
                    go_roundw
                    case rel =>
                      first
                        | exact ⟨k4 + 1, by omega, by go_num, HL10⟩
                        | (repeat apply Exists.intro
                           refine ⟨?_, rfl⟩
                           exact ⟨k4 + 1, by omega, by go_num, HL10⟩)
                    case measure => simp [Go.RowKit.intOf]; omega
                  · have hkn4 : k4 = 32 := by omega
                    subst hkn4
                    obtain ⟨ca1, ca2, hh1, hh2, hs1, hs2, hall, hcp⟩ := HL.out.copy
                    go_upto_region 35 with fail
                    refine wp_region_lit ?_
                    refine wpList_load_row rfl 36 (.tmp 12) rfl bw (by rfl) 36 ca1 (0, 0) _ hh1 Tryz.underlying36 rfl (by rw [hs1]; kernel_rfl) ?_
                    refine wpList_store_row rfl 36 (.tmp 13) (.tmp 118) rfl (bw + 1) ca1 (by rfl) (by rfl) 36 ca2 hh2 (by rw [hs1]; kernel_rfl) (by rw [hs1, hs2]) hall ?_
                    have HC0 : Hid (LW c g 1 (curM 32) (stL s4 (LC.take 0)) (122 + 0) bw (bw + 1) V (vw (stL s4 (LC.take 0)).f (curM 32)) (wr.setRow (bw + 1) ca1)) := Lib.hid (hcp.congr (fun _ _ => rfl) (fun i _ => by rw [show (stL s4 (LC.take 0)).f = s4.f from rfl, HV4.out]))
                    have q2 : (wr.setRow (bw + 1) ca1).cell? ⟨w.heap.size, 2, none⟩ = some (.slice Ac nc cc) := (HArg.out _ HC0.out.out).2.1.cell 2
                    clear hcp hh1 hh2 hs1 hs2 hall HL
                    generalize wr.setRow (bw + 1) ca1 = W7 at *
                    go_wp2
                    clear q2
                    go_loopw [122] (fun i wr => ∃ k : Nat, k ≤ nc ∧ i = .int .i64 (k : Int) ∧ Hid (LW c g 1 (curM 32) (stL s4 (LC.take k)) (122 + k) bw (bw + 1) V (vw (stL s4 (LC.take k)).f (curM 32)) wr)) (fun i _ => nc - (Go.RowKit.intOf i).toNat)
                    case atStart => exact ⟨0, Nat.zero_le _, rfl, HC0⟩
                    case round =>
                      clear HC0
                      obtain ⟨k5, hk5, rfl, HL⟩ := hrel
                      have hak := HArg.out wr HL.out.out
                      by_cases hlt5 : k5 < nc
                      · obtain ⟨hl, b, off, hA, hbB, f0, f1⟩ := wr_facts (HRc.out.below hak.1) hlt5
                        subst hA
                        have hz5 : (0 : Int) ≤ (k5 : Int) := by omega
                        have hz6 : (k5 : Int) < (nc : Int) := by omega
                        have HTS := Lib.hid (takeS LC k5 hl)
                        have HPo := Lib.hid (HOc.out _ (List.getElem_mem hl))
                        have HSn := Lib.hid (stL_snoc s4 (LC.take k5) (LC[k5]))
                        have HW5 := Lib.hid (stL_wee (LC.take k5) HW4.out)
                        rw [← HTS.out] at HSn
                        generalize LC[k5] = e at *
                        obtain ⟨i, hi⟩ : ∃ i : Nat, e.1 % 32 = i := ⟨_, rfl⟩
                        have hi32 : i < 32 := by omega
                        have hm1 : (e.1 : Int) % 32 = (i : Int) := by omega
                        have hm2 : (e.1 : Int).tmod 32 = (i : Int) := by rw [Int.tmod_eq_emod_of_nonneg (by omega)]; exact hm1
                        have hm3 : (0 : Int) ≤ (i : Int) := by omega
                        have hm4 : (i : Int) < 32 := by omega
                        have HSe : Hid (stL s4 (LC.take (k5 + 1)) = (stL s4 (LC.take k5)).store (8 * i) e.2) := Lib.hid (by rw [HSn.out, hi])
                        obtain ⟨Z5', h5'⟩ := HL.out
                        have hlw := h5'.op.lt
                        have hop := h5'.op.below ((Below.refl _ wr).alloc (Nat.le_refl _) (.cells #[.int .u64 (e.1 : Int), .int .u64 (e.2 : Int)] 47))
                        have hzn : ¬ Z5' wr.heap.size := fun h => by have := hlw _ h; omega
                        have hst := open_store hop (.inl rfl) (8 * i) e.2 (good8 hi32) HPo.out.2 (by omega)
                        rw [show ((8 * i : Nat) : Int) = 8 * (i : Int) by omega] at hst
                        have HSt := Lib.hid hst
                        have HBk := Lib.hid (Blk.new wr 47 #[.int .u64 (e.1 : Int), .int .u64 (e.2 : Int)])
                        have HI5 : Hid (LWI c g 1 (curM 32) (stL s4 (LC.take k5)) (122 + k5) bw (bw + 1) V (vw (stL s4 (LC.take k5)).f (curM 32)) Z5' (wr.alloc (.cells #[.int .u64 (e.1 : Int), .int .u64 (e.2 : Int)] 47))) := Lib.hid { h5' with op := hop, a1 := h5'.a1.chg (Y := Fp.no) ((Chg.refl _ _).alloc _) (fun h => h), a2 := h5'.a2.chg (Y := Fp.no) ((Chg.refl _ _).alloc _) (fun h => h) }
                        have HZn := Lib.hid hzn
                        clear hst hak HL hi h5' hlw hop hzn
                        go_wp2_with (go_at_call 13; refine stop ?_)
                        unfold Stop
                        refine HSt.out.mono ?_
                        rintro e9 w7 ⟨rfl, hto⟩
                        have hl7 := HI5.out.to hto
                        obtain ⟨_, _, hc7, _⟩ := hto
                        have hb7 := hc7.blk HBk.out HZn.out
                        have d0 : w7.cell? ⟨wr.heap.size, 0, none⟩ = some (.int .u64 (e.1 : Int)) := hb7.cell 0
                        have d1 : w7.cell? ⟨wr.heap.size, 1, none⟩ = some (.int .u64 (e.2 : Int)) := hb7.cell 1
                        obtain ⟨c7, z7⟩ := hl7.c2 hi32
                        have HL7 : Hid (LW c g 1 (curM 32) (stL s4 (LC.take (k5 + 1))) (122 + (k5 + 1)) bw (bw + 1) V (vw (stL s4 (LC.take (k5 + 1))).f (curM 32)) (w7.setCell ⟨bw + 1, i, none⟩ (.int .u64 (e.2 : Int)))) := Lib.hid (by
                          rw [HSe.out]
                          refine (hl7.set2 hi32 e.2).congr (fun _ _ => rfl) (fun j _ => ?_)
                          rw [HW5.out.view]
                          rfl)
                        clear hl7 hc7 hb7 HSt HI5 HBk HZn HSe HW5 HSn
                        go_wp2
                        go_roundw
                        case rel =>
                          first
                            | exact ⟨k5 + 1, by omega, by go_num, HL7⟩
                            | (repeat apply Exists.intro
                               refine ⟨?_, rfl⟩
                               exact ⟨k5 + 1, by omega, by go_num, HL7⟩)
                        case measure => simp [Go.RowKit.intOf]; omega
                      · have hkn5 : k5 = nc := by omega
                        subst hkn5
                        rw [List.take_of_length_le (by rw [HLc.out]; exact Nat.le_refl _)] at HL
                        have hw5 := stL_wee LC HW4.out
                        have HCm := Lib.hid (ls_commit HL.out (.inl rfl) (by omega) hw5.out hw5.sur HTc.out)
                        generalize vw (stL s4 LC).f (curM 32) = M at *
                        clear hw5 HL hak HRc HOc
                        go_wp2_with fail
                        refine HCm.out.mono ?_
                        rintro e w8 ⟨rfl, hd8⟩
                        have HD8 := Lib.hid hd8
                        clear hd8 HCm
                        go_wp2
                        go_loopw [144] (fun i wr => ∃ k : Nat, k ≤ 32 ∧ i = .int .i64 (k : Int) ∧ Hid (DSI c g M (122 + k5 + 1) bw (bw + 1) V M wr)) (fun i _ => 32 - (Go.RowKit.intOf i).toNat)
                        case atStart => exact ⟨0, by omega, rfl, HD8⟩
                        case round =>
                          clear HD8
                          obtain ⟨k6, hk6, rfl, HD⟩ := hrel
                          by_cases hlt6 : k6 < 32
                          · have u1 : IntKind.u64.wrap (k6 : Int) = (k6 : Int) := by rw [IntKind.wrap_u64]; omega
                            have u2 : IntKind.u64.wrap (8 * (k6 : Int)) = 8 * (k6 : Int) := by rw [IntKind.wrap_u64]; omega
                            have hD6 := HD.out.below (Below.refl _ wr).drew
                            obtain ⟨Z6, hz6'⟩ := hD6.dn
                            have hld := idle_load hz6'.idle (j := 1) (by omega) (8 * k6) (good8 hlt6)
                            rw [show ((8 * k6 : Nat) : Int) = 8 * (k6 : Int) by omega, show 8 * k6 / 8 = k6 by omega] at hld
                            have HLd := Lib.hid hld
                            have HTh := Lib.hid (idle_thread1 hz6'.idle)
                            have HS0 : Hid (wr.drew.cell? ⟨c.gw, 0, none⟩ = some (.pointer (some ⟨c.a.d, 0, none⟩)) ∧ wr.drew.cell? ⟨bw + 1, k6, none⟩ = some (.int .u64 (M k6 : Int))) := Lib.hid ⟨hz6'.idle.law.1, hD6.a2.cell hlt6⟩
                            have HD6 := Lib.hid hD6
                            have hz5 : (0 : Int) ≤ (k6 : Int) := by omega
                            have hz6 : (k6 : Int) < 32 := by omega
                            clear hld HD hD6 hz6'
                            go_wp2_with fail
                            refine wp_region_script (fun w' => w'.cell? ⟨c.gw, 0, none⟩ = some (.pointer (some ⟨c.a.d, 0, none⟩)) ∧ w'.cell? ⟨bw + 1, k6, none⟩ = some (.int .u64 (M k6 : Int))) 12 [(true, 0), (true, 1), (true, 2), (true, 3), (true, 5), (true, 6), (true, 7), (true, 9), (true, 10), (true, 11), (false, 4), (false, 8)] (by kernel_rfl) (by kernel_rfl) HS0.out ?_
                            refine wpScript_take (.pointer (some ⟨c.gw, 0, none⟩)) (by rfl) (by rfl) (fun w' hS => ?_) ?_
                            · go_simp
                            simp only [List.getElem_toArray, List.getElem_cons_zero, Act.put, List.setIfInBounds_toArray, List.set_cons_zero, List.set_cons_succ]
                            refine wpScript_take (.pointer (some ⟨c.gw, 0, none⟩)) (by rfl) (by rfl) (fun w' hS => ?_) ?_
                            · go_simp
                            simp only [List.getElem_toArray, List.getElem_cons_zero, List.getElem_cons_succ, Act.put, List.setIfInBounds_toArray, List.set_cons_zero, List.set_cons_succ]
                            refine wpScript_take (.pointer (some ⟨c.gw, 0, none⟩)) (by rfl) (by rfl) (fun w' hS => ?_) ?_
                            · go_simp
                            simp only [List.getElem_toArray, List.getElem_cons_zero, List.getElem_cons_succ, Act.put, List.setIfInBounds_toArray, List.set_cons_zero, List.set_cons_succ]
                            refine wpScript_take (.pointer (some ⟨c.a.d, 0, none⟩)) (by rfl) (by rfl) (fun w' hS => ?_) ?_
                            · have f1 := hS.1
                              go_simp
                            simp only [List.getElem_toArray, List.getElem_cons_zero, List.getElem_cons_succ, Act.put, List.setIfInBounds_toArray, List.set_cons_zero, List.set_cons_succ]
                            refine wpScript_take (.int .i64 (k6 : Int)) (by rfl) (by rfl) (fun w' hS => ?_) ?_
                            · go_simp
                            simp only [List.getElem_toArray, List.getElem_cons_zero, List.getElem_cons_succ, Act.put, List.setIfInBounds_toArray, List.set_cons_zero, List.set_cons_succ]
                            refine wpScript_take (.int .u64 (k6 : Int)) (by rfl) (by rfl) (fun w' hS => ?_) ?_
                            · go_simp
                            simp only [List.getElem_toArray, List.getElem_cons_zero, List.getElem_cons_succ, Act.put, List.setIfInBounds_toArray, List.set_cons_zero, List.set_cons_succ]
                            refine wpScript_take (.int .u64 (8 * (k6 : Int))) (by rfl) (by rfl) (fun w' hS => ?_) ?_
                            · go_simp
                            simp only [List.getElem_toArray, List.getElem_cons_zero, List.getElem_cons_succ, Act.put, List.setIfInBounds_toArray, List.set_cons_zero, List.set_cons_succ]
                            refine wpScript_take (.int .i64 (k6 : Int)) (by rfl) (by rfl) (fun w' hS => ?_) ?_
                            · go_simp
                            simp only [List.getElem_toArray, List.getElem_cons_zero, List.getElem_cons_succ, Act.put, List.setIfInBounds_toArray, List.set_cons_zero, List.set_cons_succ]
                            refine wpScript_take (.pointer (some ⟨bw + 1, k6, none⟩)) (by rfl) (by rfl) (fun w' hS => ?_) ?_
                            · go_simp
                            simp only [List.getElem_toArray, List.getElem_cons_zero, List.getElem_cons_succ, Act.put, List.setIfInBounds_toArray, List.set_cons_zero, List.set_cons_succ]
                            refine wpScript_take (.int .u64 (M k6 : Int)) (by rfl) (by rfl) (fun w' hS => ?_) ?_
                            · have f1 := hS.2
                              go_simp
                            simp only [List.getElem_toArray, List.getElem_cons_zero, List.getElem_cons_succ, Act.put, List.setIfInBounds_toArray, List.set_cons_zero, List.set_cons_succ]
                            refine wpScript_do (by rfl) ?_
                            go_wp2_with fail
                            refine HTh.out.mono ?_
                            rintro e w10 ⟨rfl, rfl⟩
                            go_wp2_with fail
                            refine ⟨HS0.out, ?_⟩
                            refine wpScript_do (by rfl) ?_
                            go_wp2_with fail
                            refine HLd.out.mono ?_
                            rintro e w11 ⟨rfl, rfl⟩
                            go_wp2_with fail
                            refine ⟨HS0.out, ?_⟩
                            show wpList _ _ _ _ _ _
                            simp only [List.drop_succ_cons, List.drop_zero]
                            clear HLd HTh
                            go_wp2
                            refine NoPanic.normal ?_
                            go_wp2
                            go_roundw
                            case rel =>
                              first
                                | exact ⟨k6 + 1, by omega, by go_num, HD6⟩
                                | (repeat apply Exists.intro
                                   refine ⟨?_, rfl⟩
                                   exact ⟨k6 + 1, by omega, by go_num, HD6⟩)
                            case measure => simp [Go.RowKit.intOf]; omega
                          · obtain ⟨Z6, hz6'⟩ := HD.out.dn
                            have hfin := (HArg.out wr hz6'.idle.out).1
                            have HFin := Lib.hid hfin
                            clear hfin hz6'
                            go_wp2
                            go_ret
                            exact ⟨rfl, HFin.out⟩
  · have HBg := Lib.hid (idle_begin HI.out 2 (.inr rfl))
    clear HI
    go_wp2_with fail
    refine HBg.out.mono ?_
    rintro e w3 ⟨g, rfl, Z3, ho3, _, _⟩
    have HO3 := Lib.hid ho3
    have ha3 := HArg.out w3 ho3.out
    have q0 : w3.cell? ⟨w.heap.size, 0, none⟩ = some (.slice Aa na ca) := ha3.2.1.cell 0
    have q1 : w3.cell? ⟨w.heap.size, 1, none⟩ = some (.slice Ab nb cb) := ha3.2.1.cell 1
    have q2 : w3.cell? ⟨w.heap.size, 2, none⟩ = some (.slice Ac nc cc) := ha3.2.1.cell 2
    have HBw := Lib.hid ha3.1
    clear ho3 HBg k2 ha3
    by_cases hA : na ≤ 60
    case neg =>
      have g1 : decide ((60 : Int) < (na : Int)) = true := decide_eq_true (by omega)
      go_wp2
      go_ret
      exact ⟨rfl, HBw.out⟩
    by_cases hB : nb ≤ 60
    case neg =>
      have g1 : decide ((60 : Int) < (na : Int)) = false := decide_eq_false (by omega)
      have g2 : decide ((60 : Int) < (nb : Int)) = true := decide_eq_true (by omega)
      go_wp2
      go_ret
      exact ⟨rfl, HBw.out⟩
    by_cases hC : nc ≤ 60
    case neg =>
      have g1 : decide ((60 : Int) < (na : Int)) = false := decide_eq_false (by omega)
      have g2 : decide ((60 : Int) < (nb : Int)) = false := decide_eq_false (by omega)
      have g3 : decide ((60 : Int) < (nc : Int)) = true := decide_eq_true (by omega)
      go_wp2
      go_ret
      exact ⟨rfl, HBw.out⟩
    have g1 : decide ((60 : Int) < (na : Int)) = false := decide_eq_false (by omega)
    have g2 : decide ((60 : Int) < (nb : Int)) = false := decide_eq_false (by omega)
    have g3 : decide ((60 : Int) < (nc : Int)) = false := decide_eq_false (by omega)
    have HO30 : Hid (∃ Z, Open c g 2 (curM 32) (stL AT.new (LA.take 0)) 0 Z w3) := Lib.hid ⟨Z3, HO3.out⟩
    clear HBw HO3
    go_wp2
    clear q0 q1 q2 g1 g2 g3
    go_loopw [59] (fun i wr => ∃ k : Nat, k ≤ na ∧ i = .int .i64 (k : Int) ∧ Hid (∃ Z, Open c g 2 (curM 32) (stL AT.new (LA.take k)) k Z wr)) (fun i _ => na - (Go.RowKit.intOf i).toNat)
    case atStart => exact ⟨0, Nat.zero_le _, rfl, HO30⟩
    case round =>
      clear HO30
      obtain ⟨k, hk, rfl, HO⟩ := hrel
      obtain ⟨Zk, hok⟩ := HO.out
      have hak := HArg.out wr hok.out
      by_cases hlt : k < na
      · obtain ⟨hl, b, off, hA, hbB, f0, f1⟩ := wr_facts (HRa.out.below hak.1) hlt
        subst hA
        have hz5 : (0 : Int) ≤ (k : Int) := by omega
        have hz6 : (k : Int) < (na : Int) := by omega
        have HTS := Lib.hid (takeS LA k hl)
        have HPo := Lib.hid (HOa.out _ (List.getElem_mem hl))
        have HSn := Lib.hid (stL_snoc AT.new (LA.take k) (LA[k]))
        rw [← HTS.out] at HSn
        generalize LA[k] = e at *
        obtain ⟨i, hi⟩ : ∃ i : Nat, e.1 % 32 = i := ⟨_, rfl⟩
        have hi32 : i < 32 := by omega
        have hm1 : (e.1 : Int) % 32 = (i : Int) := by omega
        have hm2 : (e.1 : Int).tmod 32 = (i : Int) := by rw [Int.tmod_eq_emod_of_nonneg (by omega)]; exact hm1
        have hst := open_store (hok.below ((Below.refl _ wr).alloc (Nat.le_refl _) (.cells #[.int .u64 (e.1 : Int), .int .u64 (e.2 : Int)] 47))) (.inr rfl) (8 * i) e.2 (good8 hi32) HPo.out.2 (by omega)
        rw [show ((8 * i : Nat) : Int) = 8 * (i : Int) by omega, show (stL AT.new (LA.take k)).store (8 * i) e.2 = stL AT.new (LA.take (k + 1)) by rw [HSn.out, hi]] at hst
        have HSt := Lib.hid hst
        clear hst hok hak HO hi
        go_wp2_with (go_at_call 13; refine stop ?_)
        unfold Stop
        refine HSt.out.mono ?_
        rintro e w5 ⟨rfl, Z5, ho5, _, _⟩
        have HO5 : Hid (∃ Z, Open c g 2 (curM 32) (stL AT.new (LA.take (k + 1))) (k + 1) Z w5) := Lib.hid ⟨Z5, ho5⟩
        clear ho5 HSt
        go_wp2
        go_roundw
        case rel =>
          first
            | exact ⟨k + 1, by omega, by go_num, HO5⟩
            | (repeat apply Exists.intro
               refine ⟨?_, rfl⟩
               exact ⟨k + 1, by omega, by go_num, HO5⟩)
        case measure => simp [Go.RowKit.intOf]; omega
      · have hkn : k = na := by omega
        subst hkn
        rw [List.take_of_length_le (by rw [HLa.out]; exact Nat.le_refl _)] at hok
        obtain ⟨hmk, hid⟩ := stL_marks LA AT.Wee.new
        have hW1 := stL_wee LA AT.Wee.new
        have hsv := open_save hok (by rw [hid]; decide) (by rw [hmk]; decide)
        rw [hid, show ((AT.new.ids + 1 : Nat) : Int) = 1 from rfl] at hsv
        have HSv := Lib.hid hsv
        have HMk := Lib.hid hmk
        have HId := Lib.hid hid
        have HW1 := Lib.hid hW1
        generalize stL AT.new LA = s1 at *
        clear hsv hok hak HO hmk hid hW1 HRa HOa HLa
        go_wp2_with fail
        refine HSv.out.mono ?_
        rintro e w5 ⟨rfl, Z5, ho5, _, _⟩
        have HO5 := Lib.hid ho5
        clear ho5 HSv
        go_wp2
        have HL6 : Hid (LW c g 2 (curM 32) s1.save 61 w5.heap.size (w5.heap.size + 1) (fun _ => 0) (fun _ => 0) ((w5.alloc (Obj.cells #[Value.int IntKind.u64 0, Value.int IntKind.u64 0, Value.int IntKind.u64 0, Value.int IntKind.u64 0, Value.int IntKind.u64 0, Value.int IntKind.u64 0, Value.int IntKind.u64 0, Value.int IntKind.u64 0, Value.int IntKind.u64 0, Value.int IntKind.u64 0, Value.int IntKind.u64 0, Value.int IntKind.u64 0, Value.int IntKind.u64 0, Value.int IntKind.u64 0, Value.int IntKind.u64 0, Value.int IntKind.u64 0, Value.int IntKind.u64 0, Value.int IntKind.u64 0, Value.int IntKind.u64 0, Value.int IntKind.u64 0, Value.int IntKind.u64 0, Value.int IntKind.u64 0, Value.int IntKind.u64 0, Value.int IntKind.u64 0, Value.int IntKind.u64 0, Value.int IntKind.u64 0, Value.int IntKind.u64 0, Value.int IntKind.u64 0, Value.int IntKind.u64 0, Value.int IntKind.u64 0, Value.int IntKind.u64 0, Value.int IntKind.u64 0] 36)).alloc (Obj.cells #[Value.int IntKind.u64 0, Value.int IntKind.u64 0, Value.int IntKind.u64 0, Value.int IntKind.u64 0, Value.int IntKind.u64 0, Value.int IntKind.u64 0, Value.int IntKind.u64 0, Value.int IntKind.u64 0, Value.int IntKind.u64 0, Value.int IntKind.u64 0, Value.int IntKind.u64 0, Value.int IntKind.u64 0, Value.int IntKind.u64 0, Value.int IntKind.u64 0, Value.int IntKind.u64 0, Value.int IntKind.u64 0, Value.int IntKind.u64 0, Value.int IntKind.u64 0, Value.int IntKind.u64 0, Value.int IntKind.u64 0, Value.int IntKind.u64 0, Value.int IntKind.u64 0, Value.int IntKind.u64 0, Value.int IntKind.u64 0, Value.int IntKind.u64 0, Value.int IntKind.u64 0, Value.int IntKind.u64 0, Value.int IntKind.u64 0, Value.int IntKind.u64 0, Value.int IntKind.u64 0, Value.int IntKind.u64 0, Value.int IntKind.u64 0] 36))) := Lib.hid (by
          have h5 := HO5.out
          have hb5 : Below w5.heap.size w5 ((w5.alloc (Obj.cells #[Value.int IntKind.u64 0, Value.int IntKind.u64 0, Value.int IntKind.u64 0, Value.int IntKind.u64 0, Value.int IntKind.u64 0, Value.int IntKind.u64 0, Value.int IntKind.u64 0, Value.int IntKind.u64 0, Value.int IntKind.u64 0, Value.int IntKind.u64 0, Value.int IntKind.u64 0, Value.int IntKind.u64 0, Value.int IntKind.u64 0, Value.int IntKind.u64 0, Value.int IntKind.u64 0, Value.int IntKind.u64 0, Value.int IntKind.u64 0, Value.int IntKind.u64 0, Value.int IntKind.u64 0, Value.int IntKind.u64 0, Value.int IntKind.u64 0, Value.int IntKind.u64 0, Value.int IntKind.u64 0, Value.int IntKind.u64 0, Value.int IntKind.u64 0, Value.int IntKind.u64 0, Value.int IntKind.u64 0, Value.int IntKind.u64 0, Value.int IntKind.u64 0, Value.int IntKind.u64 0, Value.int IntKind.u64 0, Value.int IntKind.u64 0] 36)).alloc (Obj.cells #[Value.int IntKind.u64 0, Value.int IntKind.u64 0, Value.int IntKind.u64 0, Value.int IntKind.u64 0, Value.int IntKind.u64 0, Value.int IntKind.u64 0, Value.int IntKind.u64 0, Value.int IntKind.u64 0, Value.int IntKind.u64 0, Value.int IntKind.u64 0, Value.int IntKind.u64 0, Value.int IntKind.u64 0, Value.int IntKind.u64 0, Value.int IntKind.u64 0, Value.int IntKind.u64 0, Value.int IntKind.u64 0, Value.int IntKind.u64 0, Value.int IntKind.u64 0, Value.int IntKind.u64 0, Value.int IntKind.u64 0, Value.int IntKind.u64 0, Value.int IntKind.u64 0, Value.int IntKind.u64 0, Value.int IntKind.u64 0, Value.int IntKind.u64 0, Value.int IntKind.u64 0, Value.int IntKind.u64 0, Value.int IntKind.u64 0, Value.int IntKind.u64 0, Value.int IntKind.u64 0, Value.int IntKind.u64 0, Value.int IntKind.u64 0] 36)) := ((Below.refl _ w5).alloc (Nat.le_refl _) _).alloc (by simp) _
          have hs5 := h5.out.size
          have h2 := Arr.new (w5.alloc (Obj.cells z32 36))
          rw [show (w5.alloc (Obj.cells z32 36)).heap.size = w5.heap.size + 1 by simp] at h2
          exact ⟨Z5, (h5.below hb5).more (by omega), fun h => by have := h5.lt _ h; omega, fun h => by have := h5.lt _ h; omega, (Arr.new w5).chg (Y := Fp.no) ((Chg.refl _ _).alloc _) (fun h => h), h2, by omega, by omega, by omega⟩)
        obtain ⟨V, hV⟩ : ∃ V : Nat → Nat, V = vw s1.f (curM 32) := ⟨_, rfl⟩
        have HV := Lib.hid hV
        have HL60 : Hid (LW c g 2 (curM 32) s1.save 61 w5.heap.size (w5.heap.size + 1) (fun i => if i < 0 then V i else 0) (fun _ => 0) ((w5.alloc (Obj.cells #[Value.int IntKind.u64 0, Value.int IntKind.u64 0, Value.int IntKind.u64 0, Value.int IntKind.u64 0, Value.int IntKind.u64 0, Value.int IntKind.u64 0, Value.int IntKind.u64 0, Value.int IntKind.u64 0, Value.int IntKind.u64 0, Value.int IntKind.u64 0, Value.int IntKind.u64 0, Value.int IntKind.u64 0, Value.int IntKind.u64 0, Value.int IntKind.u64 0, Value.int IntKind.u64 0, Value.int IntKind.u64 0, Value.int IntKind.u64 0, Value.int IntKind.u64 0, Value.int IntKind.u64 0, Value.int IntKind.u64 0, Value.int IntKind.u64 0, Value.int IntKind.u64 0, Value.int IntKind.u64 0, Value.int IntKind.u64 0, Value.int IntKind.u64 0, Value.int IntKind.u64 0, Value.int IntKind.u64 0, Value.int IntKind.u64 0, Value.int IntKind.u64 0, Value.int IntKind.u64 0, Value.int IntKind.u64 0, Value.int IntKind.u64 0] 36)).alloc (Obj.cells #[Value.int IntKind.u64 0, Value.int IntKind.u64 0, Value.int IntKind.u64 0, Value.int IntKind.u64 0, Value.int IntKind.u64 0, Value.int IntKind.u64 0, Value.int IntKind.u64 0, Value.int IntKind.u64 0, Value.int IntKind.u64 0, Value.int IntKind.u64 0, Value.int IntKind.u64 0, Value.int IntKind.u64 0, Value.int IntKind.u64 0, Value.int IntKind.u64 0, Value.int IntKind.u64 0, Value.int IntKind.u64 0, Value.int IntKind.u64 0, Value.int IntKind.u64 0, Value.int IntKind.u64 0, Value.int IntKind.u64 0, Value.int IntKind.u64 0, Value.int IntKind.u64 0, Value.int IntKind.u64 0, Value.int IntKind.u64 0, Value.int IntKind.u64 0, Value.int IntKind.u64 0, Value.int IntKind.u64 0, Value.int IntKind.u64 0, Value.int IntKind.u64 0, Value.int IntKind.u64 0, Value.int IntKind.u64 0, Value.int IntKind.u64 0] 36))) := Lib.hid (HL6.out.congr (fun i _ => by rw [if_neg (by omega)]) (fun _ _ => rfl))
        clear HO5 HL6 hV
        generalize (w5.alloc (Obj.cells #[Value.int IntKind.u64 0, Value.int IntKind.u64 0, Value.int IntKind.u64 0, Value.int IntKind.u64 0, Value.int IntKind.u64 0, Value.int IntKind.u64 0, Value.int IntKind.u64 0, Value.int IntKind.u64 0, Value.int IntKind.u64 0, Value.int IntKind.u64 0, Value.int IntKind.u64 0, Value.int IntKind.u64 0, Value.int IntKind.u64 0, Value.int IntKind.u64 0, Value.int IntKind.u64 0, Value.int IntKind.u64 0, Value.int IntKind.u64 0, Value.int IntKind.u64 0, Value.int IntKind.u64 0, Value.int IntKind.u64 0, Value.int IntKind.u64 0, Value.int IntKind.u64 0, Value.int IntKind.u64 0, Value.int IntKind.u64 0, Value.int IntKind.u64 0, Value.int IntKind.u64 0, Value.int IntKind.u64 0, Value.int IntKind.u64 0, Value.int IntKind.u64 0, Value.int IntKind.u64 0, Value.int IntKind.u64 0, Value.int IntKind.u64 0] 36)).alloc (Obj.cells #[Value.int IntKind.u64 0, Value.int IntKind.u64 0, Value.int IntKind.u64 0, Value.int IntKind.u64 0, Value.int IntKind.u64 0, Value.int IntKind.u64 0, Value.int IntKind.u64 0, Value.int IntKind.u64 0, Value.int IntKind.u64 0, Value.int IntKind.u64 0, Value.int IntKind.u64 0, Value.int IntKind.u64 0, Value.int IntKind.u64 0, Value.int IntKind.u64 0, Value.int IntKind.u64 0, Value.int IntKind.u64 0, Value.int IntKind.u64 0, Value.int IntKind.u64 0, Value.int IntKind.u64 0, Value.int IntKind.u64 0, Value.int IntKind.u64 0, Value.int IntKind.u64 0, Value.int IntKind.u64 0, Value.int IntKind.u64 0, Value.int IntKind.u64 0, Value.int IntKind.u64 0, Value.int IntKind.u64 0, Value.int IntKind.u64 0, Value.int IntKind.u64 0, Value.int IntKind.u64 0, Value.int IntKind.u64 0, Value.int IntKind.u64 0] 36) = W6 at *
        generalize w5.heap.size = bw at *
        go_loopw [74] (fun i wr => ∃ k : Nat, k ≤ 32 ∧ i = .int .i64 (k : Int) ∧ Hid (LW c g 2 (curM 32) s1.save 61 bw (bw + 1) (fun i => if i < k then V i else 0) (fun _ => 0) wr)) (fun i _ => 32 - (Go.RowKit.intOf i).toNat)
        case atStart => exact ⟨0, by omega, rfl, HL60⟩
        case round =>
          clear HL60
          obtain ⟨k2, hk2, rfl, HL⟩ := hrel
          by_cases hlt2 : k2 < 32
          · have u1 : IntKind.u64.wrap (k2 : Int) = (k2 : Int) := by rw [IntKind.wrap_u64]; omega
            have hld := ls_load HL.out (.inr rfl) (8 * k2) (good8 hlt2)
            rw [show ((8 * k2 : Nat) : Int) = 8 * (k2 : Int) by omega, show vw s1.save.f (curM 32) (8 * k2 / 8) = V k2 by rw [HV.out, show 8 * k2 / 8 = k2 by omega]; rfl] at hld
            have HLd := Lib.hid hld
            have hz5 : (0 : Int) ≤ (k2 : Int) := by omega
            have hz6 : (k2 : Int) < 32 := by omega
            clear hld HL
            go_wp2_with fail
            refine HLd.out.mono ?_
            rintro e w6 ⟨rfl, hl6⟩
            obtain ⟨c6, z6⟩ := hl6.c1 hlt2
            have HL7 : Hid (LW c g 2 (curM 32) s1.save 61 bw (bw + 1) (fun i => if i < k2 + 1 then V i else 0) (fun _ => 0) (w6.setCell ⟨bw, k2, none⟩ (.int .u64 (V k2 : Int)))) := Lib.hid ((hl6.set1 hlt2 (V k2)).congr (fun i hi => by
              unfold upd
              by_cases e : i = k2
              · subst e; rw [if_pos rfl, if_pos (by omega)]
              · rw [if_neg e]
                show (if i < k2 then V i else 0) = if i < k2 + 1 then V i else 0
                by_cases e2 : i < k2
                · rw [if_pos e2, if_pos (by omega)]
                · rw [if_neg e2, if_neg (by omega)]) (fun _ _ => rfl))
            clear hl6 HLd
            go_wp2
            go_roundw
            case rel =>
              first
                | exact ⟨k2 + 1, by omega, by go_num, HL7⟩
                | (repeat apply Exists.intro
                   refine ⟨?_, rfl⟩
                   exact ⟨k2 + 1, by omega, by go_num, HL7⟩)
            case measure => simp [Go.RowKit.intOf]; omega
          · have hkn2 : k2 = 32 := by omega
            subst hkn2
            have HB0 : Hid (LW c g 2 (curM 32) (stL s1.save (LB.take 0)) (61 + 0) bw (bw + 1) V (fun _ => 0) wr) := Lib.hid (HL.out.congr (fun i hi => by rw [if_pos hi]) (fun _ _ => rfl))
            have q1 : wr.cell? ⟨w.heap.size, 1, none⟩ = some (.slice Ab nb cb) := (HArg.out wr HL.out.out).2.1.cell 1
            clear HL
            go_wp2
            clear q1
            go_loopw [88] (fun i wr => ∃ k : Nat, k ≤ nb ∧ i = .int .i64 (k : Int) ∧ Hid (LW c g 2 (curM 32) (stL s1.save (LB.take k)) (61 + k) bw (bw + 1) V (fun _ => 0) wr)) (fun i _ => nb - (Go.RowKit.intOf i).toNat)
            case atStart => exact ⟨0, Nat.zero_le _, rfl, HB0⟩
            case round =>
              clear HB0
              obtain ⟨k3, hk3, rfl, HL⟩ := hrel
              have hak := HArg.out wr HL.out.out
              by_cases hlt3 : k3 < nb
              · obtain ⟨hl, b, off, hA, hbB, f0, f1⟩ := wr_facts (HRb.out.below hak.1) hlt3
                subst hA
                have hz5 : (0 : Int) ≤ (k3 : Int) := by omega
                have hz6 : (k3 : Int) < (nb : Int) := by omega
                have HTS := Lib.hid (takeS LB k3 hl)
                have HPo := Lib.hid (HOb.out _ (List.getElem_mem hl))
                have HSn := Lib.hid (stL_snoc s1.save (LB.take k3) (LB[k3]))
                rw [← HTS.out] at HSn
                generalize LB[k3] = e at *
                obtain ⟨i, hi⟩ : ∃ i : Nat, e.1 % 32 = i := ⟨_, rfl⟩
                have hi32 : i < 32 := by omega
                have hm1 : (e.1 : Int) % 32 = (i : Int) := by omega
                have hm2 : (e.1 : Int).tmod 32 = (i : Int) := by rw [Int.tmod_eq_emod_of_nonneg (by omega)]; exact hm1
                have hst := ls_store (HL.out.below ((Below.refl _ wr).alloc (Nat.le_refl _) (.cells #[.int .u64 (e.1 : Int), .int .u64 (e.2 : Int)] 47))) (.inr rfl) (8 * i) e.2 (good8 hi32) HPo.out.2 (by omega)
                rw [show ((8 * i : Nat) : Int) = 8 * (i : Int) by omega, show (stL s1.save (LB.take k3)).store (8 * i) e.2 = stL s1.save (LB.take (k3 + 1)) by rw [HSn.out, hi]] at hst
                have HSt := Lib.hid hst
                clear hst hak HL hi
                go_wp2_with (go_at_call 13; refine stop ?_)
                unfold Stop
                refine HSt.out.mono ?_
                rintro e w7 ⟨rfl, hl7, _⟩
                have HL7 : Hid (LW c g 2 (curM 32) (stL s1.save (LB.take (k3 + 1))) (61 + (k3 + 1)) bw (bw + 1) V (fun _ => 0) w7) := Lib.hid hl7
                clear hl7 HSt
                go_wp2
                go_roundw
                case rel =>
                  first
                    | exact ⟨k3 + 1, by omega, by go_num, HL7⟩
                    | (repeat apply Exists.intro
                       refine ⟨?_, rfl⟩
                       exact ⟨k3 + 1, by omega, by go_num, HL7⟩)
                case measure => simp [Go.RowKit.intOf]; omega
              · have hkn3 : k3 = nb := by omega
                subst hkn3
                rw [List.take_of_length_le (by rw [HLb.out]; exact Nat.le_refl _)] at HL
                have hws := HW1.out.save
                obtain ⟨hmk, hid⟩ := stL_marks LB hws
                have hw3 := stL_wee LB hws
                have hmk2 : (stL s1.save LB).marks = [⟨1, s1.f, s1.k, s1.outside, s1.surplus⟩] := by
                  rw [hmk]
                  show s1.marks ++ [(⟨s1.ids + 1, s1.f, s1.k, s1.outside, s1.surplus⟩ : AMark)] = _
                  rw [HMk.out, HId.out]
                  rfl
                obtain ⟨Z8, hi8⟩ := HL.out
                have hrb := open_rollback hi8.op (.inr rfl) (by rw [hmk2]; simp) (hw3.mk_le) 1 (by rw [hmk2]; exact ⟨_, List.mem_cons_self .., rfl⟩) (by omega)
                rw [show ((1 : Nat) : Int) = 1 from rfl] at hrb
                have HRk := Lib.hid hrb
                have HI8 := Lib.hid hi8
                have HMk2 := Lib.hid hmk2
                have HW3 := Lib.hid hw3
                generalize stL s1.save LB = s3 at *
                clear hrb hi8 HL hak hmk hid hws hw3 hmk2 HRb HOb HLb
                go_wp2_with fail
                refine HRk.out.mono ?_
                rintro e w9 ⟨rfl, q, hq, _, hto⟩
                have hq0 : q = 0 := by have h := hq; rw [HMk2.out] at h; simpa using h
                subst hq0
                have hl9 := HI8.out.to hto
                have hv4 : vw (s3.back 0).f (curM 32) = V := by
                  have h := HMk2.out
                  have e : (s3.back 0).f = s1.f := by
                    unfold AT.back
                    rw [h]
                    rfl
                  rw [e, HV.out]
                have HL90 : Hid (LW c g 2 (curM 32) (s3.back 0) 122 bw (bw + 1) V (fun _ => 0) w9) := Lib.hid (by
                  obtain ⟨Z9, h9⟩ := hl9
                  exact ⟨Z9, { h9 with op := h9.op.more (by omega) }⟩)
                have HV4 := Lib.hid hv4
                have HW4 := Lib.hid (HW3.out.back 0)
                generalize s3.back 0 = s4 at *
                clear hto hl9 hv4 HRk HI8 HMk2 HW3
                go_wp2
                go_loopw [105] (fun i wr => ∃ k : Nat, k ≤ 32 ∧ i = .int .i64 (k : Int) ∧ Hid (LW c g 2 (curM 32) s4 122 bw (bw + 1) V (fun _ => 0) wr)) (fun i _ => 32 - (Go.RowKit.intOf i).toNat)
                case atStart => exact ⟨0, by omega, rfl, HL90⟩
                case round =>
                  clear HL90
                  obtain ⟨k4, hk4, rfl, HL⟩ := hrel
                  by_cases hlt4 : k4 < 32
                  · have u1 : IntKind.u64.wrap (k4 : Int) = (k4 : Int) := by rw [IntKind.wrap_u64]; omega
                    have hld := ls_load (HL.out.below (Below.refl _ wr).drew) (.inr rfl) (8 * k4) (good8 hlt4)
                    rw [show ((8 * k4 : Nat) : Int) = 8 * (k4 : Int) by omega, HV4.out, show 8 * k4 / 8 = k4 by omega] at hld
                    have HLd := Lib.hid hld
                    have u2 : IntKind.u64.wrap (8 * (k4 : Int)) = 8 * (k4 : Int) := by rw [IntKind.wrap_u64]; omega
                    have HS0 : Hid (wr.drew.cell? ⟨bw, k4, none⟩ = some (.int .u64 (V k4 : Int))) := Lib.hid ((HL.out.below (Below.refl _ wr).drew).c1 hlt4).1
                    have hz5 : (0 : Int) ≤ (k4 : Int) := by omega
                    have hz6 : (k4 : Int) < 32 := by omega
                    clear hld HL
                    go_wp2_with fail
                    refine wp_region_script (fun w' => w'.cell? ⟨bw, k4, none⟩ = some (.int .u64 (V k4 : Int))) 8 [(true, 0), (true, 1), (true, 2), (true, 3), (true, 5), (true, 6), (true, 7), (false, 4)] (by kernel_rfl) (by kernel_rfl) HS0.out ?_
                    refine wpScript_take (.pointer (some ⟨g, 0, none⟩)) (by rfl) (by rfl) (fun w' hS => ?_) ?_
                    · go_simp
                    simp only [List.getElem_toArray, List.getElem_cons_zero, Act.put, List.setIfInBounds_toArray, List.set_cons_zero, List.set_cons_succ]
                    refine wpScript_take (.int .i64 (k4 : Int)) (by rfl) (by rfl) (fun w' hS => ?_) ?_
                    · go_simp
                    simp only [List.getElem_toArray, List.getElem_cons_zero, List.getElem_cons_succ, Act.put, List.setIfInBounds_toArray, List.set_cons_zero, List.set_cons_succ]
                    refine wpScript_take (.int .u64 (k4 : Int)) (by rfl) (by rfl) (fun w' hS => ?_) ?_
                    · go_simp
                    simp only [List.getElem_toArray, List.getElem_cons_zero, List.getElem_cons_succ, Act.put, List.setIfInBounds_toArray, List.set_cons_zero, List.set_cons_succ]
                    refine wpScript_take (.int .u64 (8 * (k4 : Int))) (by rfl) (by rfl) (fun w' hS => ?_) ?_
                    · go_simp
                    simp only [List.getElem_toArray, List.getElem_cons_zero, List.getElem_cons_succ, Act.put, List.setIfInBounds_toArray, List.set_cons_zero, List.set_cons_succ]
                    refine wpScript_take (.int .i64 (k4 : Int)) (by rfl) (by rfl) (fun w' hS => ?_) ?_
                    · go_simp
                    simp only [List.getElem_toArray, List.getElem_cons_zero, List.getElem_cons_succ, Act.put, List.setIfInBounds_toArray, List.set_cons_zero, List.set_cons_succ]
                    refine wpScript_take (.pointer (some ⟨bw, k4, none⟩)) (by rfl) (by rfl) (fun w' hS => ?_) ?_
                    · go_simp
                    simp only [List.getElem_toArray, List.getElem_cons_zero, List.getElem_cons_succ, Act.put, List.setIfInBounds_toArray, List.set_cons_zero, List.set_cons_succ]
                    refine wpScript_take (.int .u64 (V k4 : Int)) (by rfl) (by rfl) (fun w' hS => ?_) ?_
                    · have f1 := hS
                      go_simp
                    simp only [List.getElem_toArray, List.getElem_cons_zero, List.getElem_cons_succ, Act.put, List.setIfInBounds_toArray, List.set_cons_zero, List.set_cons_succ]
                    refine wpScript_do (by rfl) ?_
                    go_wp2_with fail
                    refine HLd.out.mono ?_
                    rintro e w10 ⟨rfl, hl10⟩
                    have HL10 := Lib.hid hl10
                    clear hl10 HLd HS0
                    go_wp2_with fail
                    refine ⟨(HL10.out.c1 hlt4).1, ?_⟩
                    show wpList _ _ _ _ _ _
                    simp only [List.drop_succ_cons, List.drop_zero]
                    go_wp2
                    refine NoPanic.normal ?_
                    go_wp2
                    go_roundw
                    case rel =>
                      first
                        | exact ⟨k4 + 1, by omega, by go_num, HL10⟩
                        | (repeat apply Exists.intro
                           refine ⟨?_, rfl⟩
                           exact ⟨k4 + 1, by omega, by go_num, HL10⟩)
                    case measure => simp [Go.RowKit.intOf]; omega
                  · have hkn4 : k4 = 32 := by omega
                    subst hkn4
                    obtain ⟨ca1, ca2, hh1, hh2, hs1, hs2, hall, hcp⟩ := HL.out.copy
                    go_upto_region 35 with fail
                    refine wp_region_lit ?_
                    refine wpList_load_row rfl 36 (.tmp 12) rfl bw (by rfl) 36 ca1 (0, 0) _ hh1 Tryz.underlying36 rfl (by rw [hs1]; kernel_rfl) ?_
                    refine wpList_store_row rfl 36 (.tmp 13) (.tmp 118) rfl (bw + 1) ca1 (by rfl) (by rfl) 36 ca2 hh2 (by rw [hs1]; kernel_rfl) (by rw [hs1, hs2]) hall ?_
                    have HC0 : Hid (LW c g 2 (curM 32) (stL s4 (LC.take 0)) (122 + 0) bw (bw + 1) V (vw (stL s4 (LC.take 0)).f (curM 32)) (wr.setRow (bw + 1) ca1)) := Lib.hid (hcp.congr (fun _ _ => rfl) (fun i _ => by rw [show (stL s4 (LC.take 0)).f = s4.f from rfl, HV4.out]))
                    have q2 : (wr.setRow (bw + 1) ca1).cell? ⟨w.heap.size, 2, none⟩ = some (.slice Ac nc cc) := (HArg.out _ HC0.out.out).2.1.cell 2
                    clear hcp hh1 hh2 hs1 hs2 hall HL
                    generalize wr.setRow (bw + 1) ca1 = W7 at *
                    go_wp2
                    clear q2
                    go_loopw [122] (fun i wr => ∃ k : Nat, k ≤ nc ∧ i = .int .i64 (k : Int) ∧ Hid (LW c g 2 (curM 32) (stL s4 (LC.take k)) (122 + k) bw (bw + 1) V (vw (stL s4 (LC.take k)).f (curM 32)) wr)) (fun i _ => nc - (Go.RowKit.intOf i).toNat)
                    case atStart => exact ⟨0, Nat.zero_le _, rfl, HC0⟩
                    case round =>
                      clear HC0
                      obtain ⟨k5, hk5, rfl, HL⟩ := hrel
                      have hak := HArg.out wr HL.out.out
                      by_cases hlt5 : k5 < nc
                      · obtain ⟨hl, b, off, hA, hbB, f0, f1⟩ := wr_facts (HRc.out.below hak.1) hlt5
                        subst hA
                        have hz5 : (0 : Int) ≤ (k5 : Int) := by omega
                        have hz6 : (k5 : Int) < (nc : Int) := by omega
                        have HTS := Lib.hid (takeS LC k5 hl)
                        have HPo := Lib.hid (HOc.out _ (List.getElem_mem hl))
                        have HSn := Lib.hid (stL_snoc s4 (LC.take k5) (LC[k5]))
                        have HW5 := Lib.hid (stL_wee (LC.take k5) HW4.out)
                        rw [← HTS.out] at HSn
                        generalize LC[k5] = e at *
                        obtain ⟨i, hi⟩ : ∃ i : Nat, e.1 % 32 = i := ⟨_, rfl⟩
                        have hi32 : i < 32 := by omega
                        have hm1 : (e.1 : Int) % 32 = (i : Int) := by omega
                        have hm2 : (e.1 : Int).tmod 32 = (i : Int) := by rw [Int.tmod_eq_emod_of_nonneg (by omega)]; exact hm1
                        have hm3 : (0 : Int) ≤ (i : Int) := by omega
                        have hm4 : (i : Int) < 32 := by omega
                        have HSe : Hid (stL s4 (LC.take (k5 + 1)) = (stL s4 (LC.take k5)).store (8 * i) e.2) := Lib.hid (by rw [HSn.out, hi])
                        obtain ⟨Z5', h5'⟩ := HL.out
                        have hlw := h5'.op.lt
                        have hop := h5'.op.below ((Below.refl _ wr).alloc (Nat.le_refl _) (.cells #[.int .u64 (e.1 : Int), .int .u64 (e.2 : Int)] 47))
                        have hzn : ¬ Z5' wr.heap.size := fun h => by have := hlw _ h; omega
                        have hst := open_store hop (.inr rfl) (8 * i) e.2 (good8 hi32) HPo.out.2 (by omega)
                        rw [show ((8 * i : Nat) : Int) = 8 * (i : Int) by omega] at hst
                        have HSt := Lib.hid hst
                        have HBk := Lib.hid (Blk.new wr 47 #[.int .u64 (e.1 : Int), .int .u64 (e.2 : Int)])
                        have HI5 : Hid (LWI c g 2 (curM 32) (stL s4 (LC.take k5)) (122 + k5) bw (bw + 1) V (vw (stL s4 (LC.take k5)).f (curM 32)) Z5' (wr.alloc (.cells #[.int .u64 (e.1 : Int), .int .u64 (e.2 : Int)] 47))) := Lib.hid { h5' with op := hop, a1 := h5'.a1.chg (Y := Fp.no) ((Chg.refl _ _).alloc _) (fun h => h), a2 := h5'.a2.chg (Y := Fp.no) ((Chg.refl _ _).alloc _) (fun h => h) }
                        have HZn := Lib.hid hzn
                        clear hst hak HL hi h5' hlw hop hzn
                        go_wp2_with (go_at_call 13; refine stop ?_)
                        unfold Stop
                        refine HSt.out.mono ?_
                        rintro e9 w7 ⟨rfl, hto⟩
                        have hl7 := HI5.out.to hto
                        obtain ⟨_, _, hc7, _⟩ := hto
                        have hb7 := hc7.blk HBk.out HZn.out
                        have d0 : w7.cell? ⟨wr.heap.size, 0, none⟩ = some (.int .u64 (e.1 : Int)) := hb7.cell 0
                        have d1 : w7.cell? ⟨wr.heap.size, 1, none⟩ = some (.int .u64 (e.2 : Int)) := hb7.cell 1
                        obtain ⟨c7, z7⟩ := hl7.c2 hi32
                        have HL7 : Hid (LW c g 2 (curM 32) (stL s4 (LC.take (k5 + 1))) (122 + (k5 + 1)) bw (bw + 1) V (vw (stL s4 (LC.take (k5 + 1))).f (curM 32)) (w7.setCell ⟨bw + 1, i, none⟩ (.int .u64 (e.2 : Int)))) := Lib.hid (by
                          rw [HSe.out]
                          refine (hl7.set2 hi32 e.2).congr (fun _ _ => rfl) (fun j _ => ?_)
                          rw [HW5.out.view]
                          rfl)
                        clear hl7 hc7 hb7 HSt HI5 HBk HZn HSe HW5 HSn
                        go_wp2
                        go_roundw
                        case rel =>
                          first
                            | exact ⟨k5 + 1, by omega, by go_num, HL7⟩
                            | (repeat apply Exists.intro
                               refine ⟨?_, rfl⟩
                               exact ⟨k5 + 1, by omega, by go_num, HL7⟩)
                        case measure => simp [Go.RowKit.intOf]; omega
                      · have hkn5 : k5 = nc := by omega
                        subst hkn5
                        rw [List.take_of_length_le (by rw [HLc.out]; exact Nat.le_refl _)] at HL
                        have hw5 := stL_wee LC HW4.out
                        have HCm := Lib.hid (ls_commit HL.out (.inr rfl) (by omega) hw5.out hw5.sur HTc.out)
                        generalize vw (stL s4 LC).f (curM 32) = M at *
                        clear hw5 HL hak HRc HOc
                        go_wp2_with fail
                        refine HCm.out.mono ?_
                        rintro e w8 ⟨rfl, hd8⟩
                        have HD8 := Lib.hid hd8
                        clear hd8 HCm
                        go_wp2
                        go_loopw [144] (fun i wr => ∃ k : Nat, k ≤ 32 ∧ i = .int .i64 (k : Int) ∧ Hid (DSI c g M (122 + k5 + 1) bw (bw + 1) V M wr)) (fun i _ => 32 - (Go.RowKit.intOf i).toNat)
                        case atStart => exact ⟨0, by omega, rfl, HD8⟩
                        case round =>
                          clear HD8
                          obtain ⟨k6, hk6, rfl, HD⟩ := hrel
                          by_cases hlt6 : k6 < 32
                          · have u1 : IntKind.u64.wrap (k6 : Int) = (k6 : Int) := by rw [IntKind.wrap_u64]; omega
                            have u2 : IntKind.u64.wrap (8 * (k6 : Int)) = 8 * (k6 : Int) := by rw [IntKind.wrap_u64]; omega
                            have hD6 := HD.out.below (Below.refl _ wr).drew
                            obtain ⟨Z6, hz6'⟩ := hD6.dn
                            have hld := idle_load hz6'.idle (j := 1) (by omega) (8 * k6) (good8 hlt6)
                            rw [show ((8 * k6 : Nat) : Int) = 8 * (k6 : Int) by omega, show 8 * k6 / 8 = k6 by omega] at hld
                            have HLd := Lib.hid hld
                            have HTh := Lib.hid (idle_thread1 hz6'.idle)
                            have HS0 : Hid (wr.drew.cell? ⟨c.gw, 0, none⟩ = some (.pointer (some ⟨c.a.d, 0, none⟩)) ∧ wr.drew.cell? ⟨bw + 1, k6, none⟩ = some (.int .u64 (M k6 : Int))) := Lib.hid ⟨hz6'.idle.law.1, hD6.a2.cell hlt6⟩
                            have HD6 := Lib.hid hD6
                            have hz5 : (0 : Int) ≤ (k6 : Int) := by omega
                            have hz6 : (k6 : Int) < 32 := by omega
                            clear hld HD hD6 hz6'
                            go_wp2_with fail
                            refine wp_region_script (fun w' => w'.cell? ⟨c.gw, 0, none⟩ = some (.pointer (some ⟨c.a.d, 0, none⟩)) ∧ w'.cell? ⟨bw + 1, k6, none⟩ = some (.int .u64 (M k6 : Int))) 12 [(true, 0), (true, 1), (true, 2), (true, 3), (true, 5), (true, 6), (true, 7), (true, 9), (true, 10), (true, 11), (false, 4), (false, 8)] (by kernel_rfl) (by kernel_rfl) HS0.out ?_
                            refine wpScript_take (.pointer (some ⟨c.gw, 0, none⟩)) (by rfl) (by rfl) (fun w' hS => ?_) ?_
                            · go_simp
                            simp only [List.getElem_toArray, List.getElem_cons_zero, Act.put, List.setIfInBounds_toArray, List.set_cons_zero, List.set_cons_succ]
                            refine wpScript_take (.pointer (some ⟨c.gw, 0, none⟩)) (by rfl) (by rfl) (fun w' hS => ?_) ?_
                            · go_simp
                            simp only [List.getElem_toArray, List.getElem_cons_zero, List.getElem_cons_succ, Act.put, List.setIfInBounds_toArray, List.set_cons_zero, List.set_cons_succ]
                            refine wpScript_take (.pointer (some ⟨c.gw, 0, none⟩)) (by rfl) (by rfl) (fun w' hS => ?_) ?_
                            · go_simp
                            simp only [List.getElem_toArray, List.getElem_cons_zero, List.getElem_cons_succ, Act.put, List.setIfInBounds_toArray, List.set_cons_zero, List.set_cons_succ]
                            refine wpScript_take (.pointer (some ⟨c.a.d, 0, none⟩)) (by rfl) (by rfl) (fun w' hS => ?_) ?_
                            · have f1 := hS.1
                              go_simp
                            simp only [List.getElem_toArray, List.getElem_cons_zero, List.getElem_cons_succ, Act.put, List.setIfInBounds_toArray, List.set_cons_zero, List.set_cons_succ]
                            refine wpScript_take (.int .i64 (k6 : Int)) (by rfl) (by rfl) (fun w' hS => ?_) ?_
                            · go_simp
                            simp only [List.getElem_toArray, List.getElem_cons_zero, List.getElem_cons_succ, Act.put, List.setIfInBounds_toArray, List.set_cons_zero, List.set_cons_succ]
                            refine wpScript_take (.int .u64 (k6 : Int)) (by rfl) (by rfl) (fun w' hS => ?_) ?_
                            · go_simp
                            simp only [List.getElem_toArray, List.getElem_cons_zero, List.getElem_cons_succ, Act.put, List.setIfInBounds_toArray, List.set_cons_zero, List.set_cons_succ]
                            refine wpScript_take (.int .u64 (8 * (k6 : Int))) (by rfl) (by rfl) (fun w' hS => ?_) ?_
                            · go_simp
                            simp only [List.getElem_toArray, List.getElem_cons_zero, List.getElem_cons_succ, Act.put, List.setIfInBounds_toArray, List.set_cons_zero, List.set_cons_succ]
                            refine wpScript_take (.int .i64 (k6 : Int)) (by rfl) (by rfl) (fun w' hS => ?_) ?_
                            · go_simp
                            simp only [List.getElem_toArray, List.getElem_cons_zero, List.getElem_cons_succ, Act.put, List.setIfInBounds_toArray, List.set_cons_zero, List.set_cons_succ]
                            refine wpScript_take (.pointer (some ⟨bw + 1, k6, none⟩)) (by rfl) (by rfl) (fun w' hS => ?_) ?_
                            · go_simp
                            simp only [List.getElem_toArray, List.getElem_cons_zero, List.getElem_cons_succ, Act.put, List.setIfInBounds_toArray, List.set_cons_zero, List.set_cons_succ]
                            refine wpScript_take (.int .u64 (M k6 : Int)) (by rfl) (by rfl) (fun w' hS => ?_) ?_
                            · have f1 := hS.2
                              go_simp
                            simp only [List.getElem_toArray, List.getElem_cons_zero, List.getElem_cons_succ, Act.put, List.setIfInBounds_toArray, List.set_cons_zero, List.set_cons_succ]
                            refine wpScript_do (by rfl) ?_
                            go_wp2_with fail
                            refine HTh.out.mono ?_
                            rintro e w10 ⟨rfl, rfl⟩
                            go_wp2_with fail
                            refine ⟨HS0.out, ?_⟩
                            refine wpScript_do (by rfl) ?_
                            go_wp2_with fail
                            refine HLd.out.mono ?_
                            rintro e w11 ⟨rfl, rfl⟩
                            go_wp2_with fail
                            refine ⟨HS0.out, ?_⟩
                            show wpList _ _ _ _ _ _
                            simp only [List.drop_succ_cons, List.drop_zero]
                            clear HLd HTh
                            go_wp2
                            refine NoPanic.normal ?_
                            go_wp2
                            go_roundw
                            case rel =>
                              first
                                | exact ⟨k6 + 1, by omega, by go_num, HD6⟩
                                | (repeat apply Exists.intro
                                   refine ⟨?_, rfl⟩
                                   exact ⟨k6 + 1, by omega, by go_num, HD6⟩)
                            case measure => simp [Go.RowKit.intOf]; omega
                          · obtain ⟨Z6, hz6'⟩ := HD.out.dn
                            have hfin := (HArg.out wr hz6'.idle.out).1
                            have HFin := Lib.hid hfin
                            clear hfin hz6'
                            go_wp2
                            go_ret
                            exact ⟨rfl, HFin.out⟩
end Go.Proofs.YtklpeghhgoeeiaaGreatDoor
