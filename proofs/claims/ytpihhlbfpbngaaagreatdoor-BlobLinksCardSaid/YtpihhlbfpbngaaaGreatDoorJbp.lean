/- The walks and laws that the claim leans on, part 42. -/
import Derived.Test.YtpihhlbfpbngaaaGreatDoorJbo
namespace Go.Proofs.YtpihhlbfpbngaaaGreatDoor
open Go.RowKit Go.Maps
def RetWk (w : World) (R : Nat × List Nat × List Nat) (e : Ending) (w' : World) : Prop :=
  if R.1 = 0 then ∃ A m c A2 m2 c2, e = .returned (.tuple #[.slice A m c, .slice A2 m2 c2, .int .i64 0]) ∧ m = R.2.1.length ∧ m2 = R.2.2.length ∧ Reads w' w'.heap.size 1 A m (uCells R.2.1) ∧ Reads w' w'.heap.size 1 A2 m2 (u8s R.2.2) ∧ (∀ ad, A = some ad → w.heap.size ≤ ad.block) ∧ (∀ ad, A2 = some ad → w.heap.size ≤ ad.block) ∧ (m ≤ c ∧ m2 ≤ c2) ∧ Below w.heap.size w w'
  else e = .returned (.tuple #[.slice none 0 0, .slice none 0 0, .int .i64 (R.1 : Int)]) ∧ Below w.heap.size w w'
def walkR (L : Nat) (cur : Nat → Nat) (chk : Nat → Nat) (p : Nat) : Nat × List Nat × List Nat := if chk p ≠ 0 then (chk p, [], []) else walkA L cur chk 6 p (-1) [] []
def slLen : Value → Nat
  | .slice _ n _ => n
  | _ => 0
structure WkI (w wr : World) (A : Option Addr) (m c : Nat) (A2 : Option Addr) (m2 c2 : Nat) (bs by_ : List Nat) : Prop where
  o1 : wr.ownsRow w.heap.size 27 1 (.slice A m c) m (uCells bs)
  o2 : wr.ownsRow w.heap.size 5 1 (.slice A2 m2 c2) m2 (u8s by_)
  l1 : m = bs.length
  l2 : m2 = by_.length
  below : Below w.heap.size w wr
section
variable {a : DA} {L T s n K : Nat} {x : HA} {cs : Nat → CS} {f : Nat → Option Nat} {N m b0 : Nat} {S : Fp} {cur : Nat → Nat} {w w' : World} {d r : Nat}
set_option maxRecDepth 100000
set_option maxHeartbeats 8000000
theorem walk_any (h : SD a L T s n K x cs f N m b0 S cur w d r) (p : Nat) (hp64 : p < 18446744073709551616) :
    Calls Tryz.prog 59 #[dirV d, .int .u64 (p : Int)] w (RetWk w (walkR L cur (fun q => chkR s K cs q 1) p)) := by
  have HC := Lib.hid (checkD h p 1 hp64 (by omega))
  rw [show ((1 : Nat) : Int) = 1 from rfl] at HC
  have HS := Lib.hid h
  have HEr : Hid (∀ W, Below w.heap.size w W → Calls Tryz.prog 361 #[.pointer (some ⟨d, 0, none⟩)] W fun e w' => e = .returned (.int .i64 0) ∧ W = w') := Lib.hid (fun W hW => errD (h.ds.dev.below hW) (h.dir.below hW h.dir.lt))
  have hmE := methDErr (some ⟨d, 0, none⟩)
  have hmC := methDCheck (some ⟨d, 0, none⟩)
  have hnil : ∀ W, (binOp .eql 113 (.iface 37 (.pointer (some ⟨d, 0, none⟩))) .nilIface).run Tryz.prog W = .ok (.bool false) W := fun W => by rfl
  have HLd : Hid (∀ (W : World) (q : Nat), Below w.heap.size w W → q ≠ 0 → q < 18446744073709551616 → Calls Tryz.prog 84 #[.iface 37 (.pointer (some ⟨d, 0, none⟩)), .int .u64 (q : Int)] W (RetLd W (loadR L cur q))) := Lib.hid (fun W q hW hq0 hq => bload_any (h.ds.dev.below hW) (h.dir.below hW h.dir.lt) (h.ds.pay.below hW) h.ds.bnd q hq0 hq)
  have HRf : Hid (∀ (W : World) (q : Nat), Below w.heap.size w W → q < 18446744073709551616 → Calls Tryz.prog 143 #[.iface 37 (.pointer (some ⟨d, 0, none⟩)), .int .u64 (q : Int)] W fun e w' => e = .returned (.int .i64 (refR (chkR s K cs q 1) : Int)) ∧ Below W.heap.size W w') := Lib.hid (fun W q hW hq => refuse_any (h.below hW) q hq)
  have HCnz : Hid (∀ q : Nat, chkR s K cs q 1 = 0 → q ≠ 0) := Lib.hid (fun q hq e => by subst e; unfold chkR at hq; simp at hq)
  unfold walkR
  generalize hchk : (fun q => chkR s K cs q 1) = chk at *
  have hcp : chkR s K cs p 1 = chk p := by rw [← hchk]
  have hcq : ∀ q, chkR s K cs q 1 = chk q := fun q => by rw [← hchk]
  rw [hcp] at HC
  simp only [hcq] at HRf HCnz
  clear hcp hcq hchk h
  unfold dirV
  by_cases hc0 : chk p = 0
  · rw [if_neg (by omega)]
    rw [hc0, show ((0 : Nat) : Int) = 0 from rfl] at HC
    have hp0 := HCnz.out p hc0
    clear hc0
    obtain ⟨R, hR⟩ : ∃ R, walkA L cur chk 6 p (-1) [] [] = R := ⟨_, rfl⟩
    rw [hR]
    have HR := Lib.hid hR
    clear hR
    obtain ⟨i0, hi0, hz0, hz1, hz2⟩ := info_parts infoPtr
    obtain ⟨u0, hu0, hv0, hv1, hv2⟩ := info_parts infoU8b
    go_enter Tryz.func59, Tryz.ntmps59
    go_wp2_with (first
      | (go_at_call 361; refine (HEr.out _ (Below.refl _ _)).mono ?_; rintro e w2 ⟨rfl, rfl⟩)
      | (go_at_call 31; refine HC.out.mono ?_; rintro e w1 ⟨rfl, hb1⟩; have HB1 := Lib.hid hb1; clear hb1))
    have HI0 : Hid (WkI w w1 none 0 0 none 0 0 [] []) := Lib.hid ⟨World.ownsRow_nil _ _ _ _, World.ownsRow_nil _ _ _ _, rfl, rfl, HB1.out⟩
    clear HC HEr HB1
    go_loopw [9, 10, 1, 11] (fun v1 v2 v3 v4 wr => ∃ (k q : Nat) (want : Int) (bs by_ : List Nat) (A : Option Addr) (m c : Nat) (A2 : Option Addr) (m2 c2 : Nat), v1 = .slice A m c ∧ v2 = .slice A2 m2 c2 ∧ v3 = .int .u64 (q : Int) ∧ v4 = .int .i64 want ∧ m + k = 6 ∧ q ≠ 0 ∧ q < 18446744073709551616 ∧ ((want < 0 ∧ k = 6) ∨ (0 ≤ want ∧ want ≤ 456 * k ∧ 1 ≤ k)) ∧ m2 ≤ 456 * m ∧ Hid (walkA L cur chk k q want bs by_ = R) ∧ Hid (WkI w wr A m c A2 m2 c2 bs by_)) (fun v1 _ _ _ _ => 6 - slLen v1)
    case atStart => exact ⟨6, p, -1, [], [], none, 0, 0, none, 0, 0, rfl, rfl, rfl, rfl, rfl, hp0, hp64, .inl ⟨by omega, rfl⟩, by omega, HR, HI0⟩
    case round =>
      clear HI0 HR
      obtain ⟨k, q, want, bs, by_, A, m, c, A2, m2, c2, rfl, rfl, rfl, rfl, hmk, hq0, hq64, hwk, hm2, HR, HI⟩ := hrel
      obtain ⟨k, rfl⟩ : ∃ j, k = j + 1 := ⟨k - 1, by omega⟩
      have hR := HR.out
      unfold walkA at hR
      have HL := Lib.hid (HLd.out wr q HI.out.below hq0 hq64)
      cases hl : loadR L cur q with
      | none =>
        rw [hl] at hR HL
        have HL2 : Hid (Calls Tryz.prog 84 #[.iface 37 (.pointer (some ⟨d, 0, none⟩)), .int .u64 (q : Int)] wr fun e w' => e = .returned (.tuple #[.slice none 0 0, .int .i64 0, .int .i64 11]) ∧ Below wr.heap.size wr w') := HL
        have HF : Hid (R = (11, [], [])) := Lib.hid hR.symm
        clear hR HL hl HR hwk hm2
        go_wp2_with (go_at_call 84; refine HL2.out.mono ?_; rintro e w2 ⟨rfl, hb2⟩; have HB2 := Lib.hid hb2; clear hb2)
        go_ret3
        rw [HF.out]
        exact ⟨rfl, HI.out.below.trans (HB2.out.mono HI.out.below.size)⟩
      | some o =>
        obtain ⟨l, rest⟩ := o
        obtain ⟨l1, l2, l3, l4⟩ := loadR_len hl
        rw [hl] at hR HL
        obtain ⟨nn, hnn⟩ : ∃ nn, l.length = nn := ⟨_, rfl⟩
        have HL2 : Hid (Calls Tryz.prog 84 #[.iface 37 (.pointer (some ⟨d, 0, none⟩)), .int .u64 (q : Int)] wr fun e w' => ∃ g, e = .returned (.tuple #[.slice (some ⟨g, 0, none⟩) nn nn, .int .i64 (rest : Int), .int .i64 0]) ∧ Blk w' g 26 (uA l) ∧ wr.heap.size ≤ g ∧ Below wr.heap.size wr w') := by rw [← hnn]; exact HL
        have hn3 := bSize_le rest
        have hn4 := bSize_ge rest
        have HLb : Hid (∀ x ∈ l, x < 18446744073709551616) := Lib.hid (fun x hx => by
          obtain ⟨j, hj, rfl⟩ := List.getElem_of_mem hx
          rw [l4 j hj]
          exact HS.out.ds.bnd _)
        rw [hnn] at l1
        have HNn := Lib.hid hnn
        have hnn60 : nn ≤ 60 ∧ 3 ≤ nn ∧ usedW rest < nn := ⟨by omega, by omega, by unfold usedW; omega⟩
        obtain ⟨l0, hl0⟩ : ∃ l0, l.getD 0 0 = l0 := ⟨_, rfl⟩
        have HL0 : Hid ((uA l)[0]? = some (.int .u64 (l0 : Int))) := Lib.hid (by
          rw [uA_at (by omega), ← hl0, List.getD_eq_getElem?_getD, List.getElem?_eq_getElem (show 0 < l.length by omega)]
          rfl)
        have hl064 : l0 < 18446744073709551616 := by
          rw [← hl0, List.getD_eq_getElem?_getD, List.getElem?_eq_getElem (show 0 < l.length by omega)]
          exact HLb.out _ (List.getElem_mem _)
        have hR2 : (if 0 ≤ want ∧ (rest : Int) ≠ want then (11, [], []) else if partE l rest ≠ 0 then (partE l rest, [], []) else if rest ≤ 456 then (0, bs ++ [q], by_ ++ partB l rest) else if chk l0 ≠ 0 then (11, [], []) else walkA L cur chk k l0 ((rest : Int) - 456) (bs ++ [q]) (by_ ++ partB l rest)) = R := by rw [← hl0]; exact hR
        have HR2 := Lib.hid hR2
        clear hR hR2 HL HR hl l1 l3 l4 hnn hl0 hn3 hn4
        go_wp2_with (go_at_call 84; refine HL2.out.mono ?_; rintro e w2 ⟨g, rfl, hB2, hg2, hb2⟩; refine stop ?_)
        unfold Stop
        have HB2 := Lib.hid hB2
        have HG2 := Lib.hid hg2
        have HBe2 := Lib.hid hb2
        have HBl := Lib.hid (HI.out.below.trans (hb2.mono HI.out.below.size))
        clear hB2 hg2 hb2 HL2
        by_cases hw : 0 ≤ want ∧ (rest : Int) ≠ want
        · have d1 : decide ((0 : Int) ≤ want) = true := decide_eq_true hw.1
          have d0 : (0 : Int) ≤ want := hw.1
          have d2 : ((rest : Int) != want) = true := by rw [bne, beq_eq_false_iff_ne.2 hw.2]; rfl
          have HF : Hid (R = (11, [], [])) := Lib.hid (by have h := HR2.out; rw [if_pos hw] at h; exact h.symm)
          clear hw hwk
          go_wp2
          go_ret3
          rw [HF.out]
          exact ⟨rfl, HBl.out⟩
        · have HR3 : Hid ((if partE l rest ≠ 0 then (partE l rest, [], []) else if rest ≤ 456 then (0, bs ++ [q], by_ ++ partB l rest) else if chk l0 ≠ 0 then (11, [], []) else walkA L cur chk k l0 ((rest : Int) - 456) (bs ++ [q]) (by_ ++ partB l rest)) = R) := Lib.hid (by have h := HR2.out; rw [if_neg hw] at h; exact h)
          have hrk : rest ≤ 456 * (k + 1) := by omega
          have hd : decide ((0 : Int) ≤ want) = false ∨ (decide ((0 : Int) ≤ want) = true ∧ (0 : Int) ≤ want ∧ ((rest : Int) != want) = false) := by
            rcases Int.lt_or_le want 0 with h | h
            · exact .inl (decide_eq_false (by omega))
            · have : (rest : Int) = want := Classical.byContradiction (fun h2 => hw ⟨h, h2⟩)
              exact .inr ⟨decide_eq_true h, h, by rw [bne, beq_iff_eq.2 this]; rfl⟩
          clear hw hwk HR2
          go_upto_region 15 with fail
          go_cut [46] from 40 to 47 (fun v wx => v = .bool false ∧ Hid (wx = w2))
          case first =>
            rcases hd with d1 | ⟨d1, d0, d2⟩
            · go_wp2_with fail
              go_meet
              exact ⟨rfl, Lib.hid rfl⟩
            · go_wp2_with fail
              go_meet
              exact ⟨rfl, Lib.hid rfl⟩
          case rest =>
            obtain ⟨rfl, hwc⟩ := hcut
            have hw := hwc.out.symm
            subst hw
            clear hwc hd
            have HPt := Lib.hid (part_any (some ⟨g, 0, none⟩) nn nn rest l w2 (by have h := uA_reads HB2.out; rw [HNn.out] at h; exact h) HLb.out (HS.out.ds.tab.below HBl.out) hnn60.1 (Nat.le_refl _) (by omega) hnn60.2.2 l2)
            by_cases he : partE l rest = 0
            · have HR4 : Hid ((if rest ≤ 456 then (0, bs ++ [q], by_ ++ partB l rest) else if chk l0 ≠ 0 then (11, [], []) else walkA L cur chk k l0 ((rest : Int) - 456) (bs ++ [q]) (by_ ++ partB l rest)) = R) := Lib.hid (by have h := HR3.out; rw [if_neg (fun h => h he)] at h; exact h)
              have HPt2 : Hid (Calls Tryz.prog 142 #[.slice (some ⟨g, 0, none⟩) nn nn, .int .i64 (rest : Int)] w2 (RetB w2 (partB l rest))) := Lib.hid (HPt.out.mono (fun e w' h => by unfold RetBpt at h; rw [if_pos he] at h; exact h))
              have hpl : (partB l rest).length ≤ 456 := by unfold partB; rw [unpB_len]; omega
              generalize partB l rest = pb at *
              clear HPt he HR3
              go_wp2_with (go_at_call 142; refine HPt2.out.mono ?_; rintro e w3 ⟨A3, m3, c3, rfl, hm3, hr3, hf3, hb3⟩; refine stop ?_)
              unfold Stop
              subst hm3
              have hm3' : pb.length ≤ 456 := hpl
              have HR3 := Lib.hid hr3
              have HF3 := Lib.hid hf3
              have HBe3 := Lib.hid (HBe2.out.trans (hb3.mono HBe2.out.size))
              have HBl3 := Lib.hid (HBl.out.trans (hb3.mono HBl.out.size))
              have HB3 := Lib.hid (HB2.out.below hb3 HB2.out.lt)
              clear hr3 hf3 hb3 HPt2
              have HO1 := Lib.hid ((own_below HI.out.o1 HBe3.out).alloc (.cells #[.int .u64 (q : Int)] 27))
              have HO2 := Lib.hid ((own_below HI.out.o2 HBe3.out).alloc (.cells #[.int .u64 (q : Int)] 27))
              have HLE := Lib.hid HBl3.out.size
              go_upto_region 21 with (at_builtin; refine wpList_app _ (.tmp 56) (.tmp 58) 28 rfl rfl w.heap.size 27 i0 _ 1 8 Tryz.underlying28 hi0 hz0 hz1 hz2 rfl ?q1 (.slice A m c) m (uCells bs) rfl HO1.out (w3.heap.size + 1) (some ⟨w3.heap.size, 0, none⟩) 1 1 [.int .u64 (q : Int)] rfl ?q5 ?q6 ?q2 ?q3 ?q4 ?_; (case q1 => omega); (case q5 => exact row_reads_at _ _ rfl _ 1 1 27 _ rfl rfl); (case q6 => (intro u hu; simp at hu; subst hu; rfl)); (case q2 => (unfold maxLen; omega)); (case q3 => omega); (case q4 => (have := HLE.out; simp; omega)); intro A4 n4 c4 w4 hn4 ho4 hg4 hb4; have HN4 := Lib.hid hn4; have HO4 := Lib.hid ho4; have HG4 := Lib.hid hg4; have HB4' := Lib.hid hb4; clear hn4 ho4 hg4 hb4)
              have hn4 : n4 = m + 1 := HN4.out
              have HBl4 : Hid (Below w.heap.size w w4) := Lib.hid ((HBl3.out.alloc HBl3.out.size _).trans HB4'.out)
              have HO24 := Lib.hid (HO2.out.kept HG4.out (own_own_ne HO2.out HO1.out (by decide)))
              have hown1 : ∀ gg, (Value.slice A m c).ownBlock = some gg → gg < wr.heap.size := fun gg h => (HI.out.o1.lt gg h).2
              have HB4 : Hid (Blk w4 g 26 (uA l)) := Lib.hid ((HB3.out.alloc (.cells #[.int .u64 (q : Int)] 27)).grown HG4.out (fun e => by have h1 := hown1 g e.symm; have h2 := HG2.out; omega))
              have HR34 : Hid (Reads w4 w4.heap.size 1 A3 pb.length (u8s pb)) := Lib.hid (by
                have hc : Chg (fun k => (Value.slice A m c).ownBlock = some k) w3 w4 := ((Chg.refl _ w3).alloc _).grown HG4.out (fun gg e => .inl e)
                refine (hc.reads HR3.out (Nat.le_refl _) (fun ad h1 h2 => ?_)).more hc.size
                have h3 := hown1 _ h2
                have h4 := HF3.out ad h1
                have h5 := HBe2.out.size
                omega)
              clear HO1 HO2 HR3 HF3 HB3 HB4' HG4 hown1 hn4
              go_upto_region 22 with (at_builtin; go_must (refine wpList_app _ (.tmp 60) (.tmp 61) 22 rfl rfl w.heap.size 5 u0 _ 1 1 Tryz.underlying22 hu0 hv0 hv1 hv2 rfl ?q1 (.slice A2 m2 c2) m2 (u8s by_) rfl HO24.out w4.heap.size A3 pb.length c3 (u8s pb) rfl HR34.out ?q6 ?q2 ?q3 ?q4 ?_; (case q1 => omega); (case q6 => (intro u hu; unfold u8s at hu; obtain ⟨y, _, rfl⟩ := List.mem_map.1 hu; rfl)); (case q2 => (unfold maxLen; omega)); (case q3 => omega); (case q4 => exact HBl4.out.size); intro A5 n5 c5 w5 hn5 ho5 hg5 hb5; have HN5 := Lib.hid hn5; have HO5 := Lib.hid ho5; have HG5 := Lib.hid hg5; have HB5' := Lib.hid hb5; clear hn5 ho5 hg5 hb5))
              have HI5 : Hid (WkI w w5 A4 n4 c4 A5 n5 c5 (bs ++ [q]) (by_ ++ pb)) := Lib.hid (by
                refine ⟨?_, ?_, ?_, ?_, HBl4.out.trans HB5'.out⟩
                · have h := HO4.out.kept HG5.out (own_own_ne HO4.out HO24.out (by decide))
                  have e : uCells (bs ++ [q]) = uCells bs ++ [.int .u64 (q : Int)] := by simp [uCells]
                  rw [e]
                  exact h
                · have e : u8s (by_ ++ pb) = u8s by_ ++ u8s pb := by simp [u8s]
                  rw [e]
                  exact HO5.out
                · rw [List.length_append, HN4.out, HI.out.l1]; rfl
                · rw [List.length_append, HN5.out, HI.out.l2])
              have HB5 : Hid (Blk w5 g 26 (uA l)) := Lib.hid (HB4.out.grown HG5.out (fun e => by have h1 := (HI.out.o2.lt g e.symm).2; have h2 := HG2.out; omega))
              have HRel : Hid (n4 + k = 6 ∧ n5 ≤ 456 * n4 ∧ 6 - n4 < 6 - m) := Lib.hid (by have h5 : n5 = m2 + pb.length := HN5.out; have h4 : n4 = m + 1 := HN4.out; omega)
              clear HO4 HO24 HG5 HB5' HB4 HR34 HN4 HN5 HI HBl HBl3 HBl4 HBe2 HBe3
              by_cases hr : rest ≤ 456
              · have d1 : decide ((rest : Int) ≤ 456) = true := decide_eq_true (by omega)
                have HF : Hid (R = (0, bs ++ [q], by_ ++ pb)) := Lib.hid (by have h := HR4.out; rw [if_pos hr] at h; exact h.symm)
                clear hr hrk
                go_wp2
                go_ret3
                rw [HF.out]
                exact ⟨A4, n4, c4, A5, n5, c5, rfl, HI5.out.l1, HI5.out.l2, Reads.of_own HI5.out.o1, Reads.of_own HI5.out.o2, fun ad h => (HI5.out.o1.lt ad.block (by rw [h]; rfl)).1, fun ad h => (HI5.out.o2.lt ad.block (by rw [h]; rfl)).1, ⟨(own_cap HI5.out.o1).1, (own_cap HI5.out.o2).1⟩, HI5.out.below⟩
              · have d1 : decide ((rest : Int) ≤ 456) = false := decide_eq_false (by omega)
                have w1 : wrap64 ((rest : Int) - 456) = (rest : Int) - 456 := IntWalk.wrap64_in _ (by omega)
                have c0 : w5.cell? ⟨g, 0, none⟩ = some (.int .u64 (l0 : Int)) := by rw [HB5.out.cell]; exact HL0.out
                have z0 : (0 : Int) < (nn : Int) := by omega
                have HRe := Lib.hid (HRf.out w5 l0 HI5.out.below hl064)
                by_cases hc : chk l0 = 0
                · have HR5 : Hid (walkA L cur chk k l0 ((rest : Int) - 456) (bs ++ [q]) (by_ ++ pb) = R) := Lib.hid (by have h := HR4.out; rw [if_neg hr, if_neg (by omega)] at h; exact h)
                  have hl00 := HCnz.out l0 hc
                  rw [hc] at HRe
                  rw [show ((refR 0 : Nat) : Int) = 0 from rfl] at HRe
                  clear hc HR4
                  go_wp2_with (go_at_call 143; refine HRe.out.mono ?_; rintro e w6 ⟨rfl, hb6⟩; have HB6 := Lib.hid hb6; clear hb6)
                  have HI6 : Hid (WkI w w6 A4 n4 c4 A5 n5 c5 (bs ++ [q]) (by_ ++ pb)) := Lib.hid ⟨own_below HI5.out.o1 HB6.out, own_below HI5.out.o2 HB6.out, HI5.out.l1, HI5.out.l2, HI5.out.below.trans (HB6.out.mono HI5.out.below.size)⟩
                  go_roundw
                  case rel =>
                    first
                      | exact ⟨k, l0, _, _, _, A4, n4, c4, A5, n5, c5, rfl, rfl, rfl, rfl, HRel.out.1, hl00, hl064, .inr ⟨by omega, by omega, by omega⟩, HRel.out.2.1, HR5, HI6⟩
                      | (repeat apply Exists.intro
                         refine ⟨?_, rfl⟩
                         exact ⟨k, l0, _, _, _, A4, n4, c4, A5, n5, c5, rfl, rfl, rfl, rfl, HRel.out.1, hl00, hl064, .inr ⟨by omega, by omega, by omega⟩, HRel.out.2.1, HR5, HI6⟩)
                  case measure =>
                    have h9 := HRel.out.2.2
                    simpa [slLen] using h9
                · have HF : Hid (R = (11, [], [])) := Lib.hid (by have h := HR4.out; rw [if_neg hr, if_pos hc] at h; exact h.symm)
                  have e11 : ((refR (chk l0) : Nat) : Int) = 11 := by unfold refR; rw [if_neg hc]; rfl
                  rw [e11] at HRe
                  clear hc HR4
                  go_wp2_with (go_at_call 143; refine HRe.out.mono ?_; rintro e w6 ⟨rfl, hb6⟩; have HB6 := Lib.hid hb6; clear hb6)
                  go_ret3
                  rw [HF.out]
                  exact ⟨rfl, HI5.out.below.trans (HB6.out.mono HI5.out.below.size)⟩
            · obtain ⟨v, hv⟩ : ∃ v, partE l rest = v := ⟨_, rfl⟩
              have HF : Hid (R = (v, [], []) ∧ v ≠ 0) := Lib.hid ⟨by have h := HR3.out; rw [if_pos he, hv] at h; exact h.symm, by omega⟩
              have HPt2 : Hid (Calls Tryz.prog 142 #[.slice (some ⟨g, 0, none⟩) nn nn, .int .i64 (rest : Int)] w2 fun e w' => e = .returned (.tuple #[.slice none 0 0, .int .i64 (v : Int)]) ∧ Below w2.heap.size w2 w') := Lib.hid (HPt.out.mono (fun e w' h => by unfold RetBpt at h; rw [if_neg he, hv] at h; exact h))
              have d1 : ((v : Int) != 0) = true := by rw [bne, beq_eq_false_iff_ne.2 (by omega)]; rfl
              clear HPt he hv HR3
              go_wp2_with (go_at_call 142; refine HPt2.out.mono ?_; rintro e w3 ⟨rfl, hb3⟩; have HB3 := Lib.hid hb3; clear hb3)
              go_ret3
              rw [HF.out.1]
              unfold RetWk
              rw [if_neg HF.out.2]
              exact ⟨rfl, HBl.out.trans (HB3.out.mono HBl.out.size)⟩
  · obtain ⟨v, hv⟩ : ∃ v, chk p = v := ⟨_, rfl⟩
    rw [hv] at HC hc0 ⊢
    rw [if_pos hc0]
    have d1 : ((v : Int) != 0) = true := by rw [bne, beq_eq_false_iff_ne.2 (by omega)]; rfl
    have HF : Hid (∀ w' : World, Below w.heap.size w w' → RetWk w (v, [], []) (.returned (.tuple #[.slice none 0 0, .slice none 0 0, .int .i64 (v : Int)])) w') := Lib.hid (fun w' hb => by unfold RetWk; rw [if_neg hc0]; exact ⟨rfl, hb⟩)
    clear hc0 hv HLd HRf HCnz
    go_enter Tryz.func59, Tryz.ntmps59
    go_wp2_with (first
      | (go_at_call 361; refine (HEr.out _ (Below.refl _ _)).mono ?_; rintro e w2 ⟨rfl, rfl⟩)
      | (go_at_call 31; refine HC.out.mono ?_; rintro e w1 ⟨rfl, hb1⟩; have HB1 := Lib.hid hb1; clear hb1))
    go_ret3
    exact HF.out _ HB1.out
end
end Go.Proofs.YtpihhlbfpbngaaaGreatDoor
