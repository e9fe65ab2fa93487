/- The walks and laws that the claim leans on, part 53. -/
import Derived.Test.YtnlokpakiambaaaGreatDoorJbu
namespace Go.Proofs.YtnlokpakiambaaaGreatDoor
open Go.RowKit Go.Maps
section
variable {a : DA} {L T s n K : Nat} {x : HA} {cs : Nat → CS} {f : Nat → Option Nat} {N m b0 : Nat} {S : Fp} {cur : Nat → Nat} {w w' : World} {d r : Nat}
set_option maxRecDepth 100000
set_option maxHeartbeats 2000000
def RetBl (w : World) (R : Nat × List Nat × List Nat) (e : Ending) (w' : World) : Prop :=
  if R.1 = 0 then ∃ A m c, e = .returned (.tuple #[.slice A m c, .int .i64 0]) ∧ m = R.2.1.length ∧ Reads w' w'.heap.size 1 A m (uCells R.2.1) ∧ m ≤ c ∧ Below w.heap.size w w'
  else e = .returned (.tuple #[.slice none 0 0, .int .i64 (R.1 : Int)]) ∧ Below w.heap.size w w'
theorem bblocks_any (h : SD a L T s n K x cs f N m b0 S cur w d r) (p : Nat) (hp64 : p < 18446744073709551616) :
    Calls Tryz.prog 106 #[dirV d, .int .u64 (p : Int)] w (RetBl w (walkR L cur (fun q => chkR s K cs q 1) p)) := by
  have HW := Lib.hid (walk_any h p hp64)
  clear h
  generalize walkR L cur (fun q => chkR s K cs q 1) p = R at *
  unfold dirV at *
  by_cases hR : R.1 = 0
  · have HW2 : Hid (Calls Tryz.prog 107 #[.iface 43 (.pointer (some ⟨d, 0, none⟩)), .int .u64 (p : Int)] w fun e w' => ∃ A m c A2 m2 c2, e = .returned (.tuple #[.slice A m c, .slice A2 m2 c2, .int .i64 0]) ∧ m = R.2.1.length ∧ Reads w' w'.heap.size 1 A m (uCells R.2.1) ∧ m ≤ c ∧ Below w.heap.size w w') := Lib.hid (HW.out.mono (fun e w' h => by
      unfold RetWk at h
      rw [if_pos hR] at h
      obtain ⟨A, m, c, A2, m2, c2, h1, h2, h3, h4, h5, h6, h7, h8, h9⟩ := h
      exact ⟨A, m, c, A2, m2, c2, h1, h2, h4, h8.1, h9⟩))
    have HR := Lib.hid hR
    clear HW hR
    go_enter Tryz.func106, Tryz.ntmps106
    go_wp2_with (go_at_call 107; refine HW2.out.mono ?_; rintro e w1 ⟨A, m1, c, A2, m2, c2, rfl, h1, h2, h4, h5⟩; have HE := Lib.hid (show _ ∧ _ ∧ _ ∧ _ from ⟨h1, h2, h4, h5⟩); clear h1 h2 h4 h5)
    go_ret2
    unfold RetBl
    rw [if_pos HR.out]
    exact ⟨A, m1, c, rfl, HE.out.1, HE.out.2.1, HE.out.2.2.1, HE.out.2.2.2⟩
  · have HW2 : Hid (Calls Tryz.prog 107 #[.iface 43 (.pointer (some ⟨d, 0, none⟩)), .int .u64 (p : Int)] w fun e w' => e = .returned (.tuple #[.slice none 0 0, .slice none 0 0, .int .i64 (R.1 : Int)]) ∧ Below w.heap.size w w') := Lib.hid (HW.out.mono (fun e w' h => by
      unfold RetWk at h
      rw [if_neg hR] at h
      exact h))
    have HR := Lib.hid hR
    clear HW hR
    go_enter Tryz.func106, Tryz.ntmps106
    go_wp2_with (go_at_call 107; refine HW2.out.mono ?_; rintro e w1 ⟨rfl, h1⟩; have HE := Lib.hid h1; clear h1)
    go_ret2
    unfold RetBl
    rw [if_neg HR.out]
    exact ⟨rfl, HE.out⟩
end
end Go.Proofs.YtnlokpakiambaaaGreatDoor
namespace Go.Proofs.YtnlokpakiambaaaGreatDoor
open Go.RowKit
set_option maxRecDepth 100000 in
set_option maxHeartbeats 2000000 in
theorem equU_same (A A2 : Option Addr) (n c c2 : Nat) (l : List Nat) (w : World) (h : Reads w w.heap.size 1 A n (uCells l)) (h2 : Reads w w.heap.size 1 A2 n (uCells l)) (hn : n ≤ 1000) :
    Calls Tryz.prog 19 #[.slice A n c, .slice A2 n c2] w fun e w' => e = .returned (.bool true) ∧ Below w.heap.size w w' := by
  have HR := Lib.hid h
  have HR2 := Lib.hid h2
  have d0 : ((n : Int) != (n : Int)) = false := by rw [bne, beq_self_eq_true]; rfl
  clear h h2
  go_enter Tryz.func19, Tryz.ntmps19
  go_wp2_with fail
  go_loopw [13] (fun i wr => ∃ k : Nat, k ≤ n ∧ i = .int .i64 (k : Int) ∧ Hid (Below w.heap.size w wr)) (fun i _ => n - (Go.RowKit.intOf i).toNat)
  case atStart => exact ⟨0, Nat.zero_le _, rfl, Lib.hid (Below.refl _ _)⟩
  case round =>
    obtain ⟨k, hk, rfl, HB⟩ := hrel
    by_cases hlt : k < n
    · obtain ⟨hx1, b, off, hA, hbB, f0⟩ := u_facts (HR.out.below HB.out) hlt
      obtain ⟨hx2, b2, off2, hA2, hbB2, f2⟩ := u_facts (HR2.out.below HB.out) hlt
      have hz5 : (0 : Int) ≤ (k : Int) := by omega
      have hz6 : (k : Int) < (n : Int) := by omega
      subst hA hA2
      generalize l[k] = u at *
      have d3 : ((u : Int) != (u : Int)) = false := by rw [bne, beq_self_eq_true]; rfl
      clear hbB hbB2
      go_upto_region 6 with fail
      go_quiet (fail)
      have HB2 := Lib.hid (below_drewN HB.out nq)
      go_wp2_with fail
      go_roundw
      case rel =>
        first
          | exact ⟨k + 1, by omega, by go_num, HB2⟩
          | (repeat apply Exists.intro
             refine ⟨?_, rfl⟩
             exact ⟨k + 1, by omega, by go_num, HB2⟩)
      case measure => simp [Go.RowKit.intOf]; omega
    · obtain rfl : n = k := by omega
      go_wp2_with fail
      go_ret
      exact ⟨rfl, HB.out⟩
end Go.Proofs.YtnlokpakiambaaaGreatDoor
namespace Go.Proofs.YtnlokpakiambaaaGreatDoor
open Go.RowKit Go.Maps
section
variable {K : Nat} {cs : Nat → CS} {cur : Nat → Nat} {l : List VV}
end
section
variable {a : DA} {L T n K : Nat} {x : HA} {cs : Nat → CS} {f : Nat → Option Nat} {N m b0 : Nat} {S : Fp} {cur : Nat → Nat} {w : World} {l : List VV}
end
def bofR (B : Nat → Nat × List Nat × List Nat) (p : Nat) (dl : Bool) (dt : Nat) : List Nat × Nat :=
  if dl = true then ([p], 0) else if (B dt).1 ≠ 0 then ([], 11) else (p :: (B dt).2.1, 0)
def blS (B : Nat → Nat × List Nat × List Nat) (s : List Nat × Nat) (p : Nat) (v : Nat × Bool × Nat × Nat) : (List Nat × Nat) × Bool :=
  ((s.1 ++ (bofR B p v.2.1 v.2.2.1).1, (bofR B p v.2.1 v.2.2.1).2), decide ((bofR B p v.2.1 v.2.2.1).2 = 0))
def vblR (rd : Nat → Nat × Nat × Bool × Nat × Nat) (B : Nat → Nat × List Nat × List Nat) (head : Nat) : Nat × List Nat :=
  if (folW rd (blS B) 4097 head 4611686018427387904 0 ([], 0)).1 ≠ 0 then ((folW rd (blS B) 4097 head 4611686018427387904 0 ([], 0)).1, []) else
  if (folW rd (blS B) 4097 head 4611686018427387904 0 ([], 0)).2.2 ≠ 0 then ((folW rd (blS B) 4097 head 4611686018427387904 0 ([], 0)).2.2, []) else
  (0, (folW rd (blS B) 4097 head 4611686018427387904 0 ([], 0)).2.1)
def blocksV (l : List VV) : List Nat := l.flatMap (fun v => v.q :: v.bl)
theorem fold_bl (B : Nat → Nat × List Nat × List Nat) : ∀ (l : List VV) (s : List Nat), (∀ v ∈ l, bofR B v.q v.dl v.dt = (v.q :: v.bl, 0)) → foldV (blS B) l (s, 0) = (s ++ blocksV l, 0)
  | [], s, _ => by simp [foldV, blocksV]
  | v :: t, s, h => by
    unfold foldV
    have e1 : blS B (s, 0) v.q (v.st, v.dl, v.dt, hdQ t) = ((s ++ (bofR B v.q v.dl v.dt).1, (bofR B v.q v.dl v.dt).2), decide ((bofR B v.q v.dl v.dt).2 = 0)) := rfl
    rw [e1, h v (by simp), if_neg (by simp)]
    rw [fold_bl B t _ (fun u hu => h u (by simp [hu]))]
    unfold blocksV
    rw [List.flatMap_cons, List.append_assoc]
section
variable {a : DA} {L T n K : Nat} {x : HA} {cs : Nat → CS} {f : Nat → Option Nat} {N m b0 : Nat} {S : Fp} {cur : Nat → Nat} {w : World} {l : List VV}
theorem VerA.bof {v : VV} {older : Nat} (h : VerA K cs cur v older) (hd : DS a L T 53 n K x cs f N m b0 S cur w) : bofR (walkR L cur (fun q => chkR 53 K cs q 1)) v.q v.dl v.dt = (v.q :: v.bl, 0) := by
  unfold bofR
  cases hdl : v.dl with
  | true =>
    have h1 := h.blen
    rw [hdl, if_pos rfl] at h1
    rw [if_pos rfl, List.eq_nil_of_length_eq_zero h1]
  | false =>
    rw [if_neg (by decide), h.blob hd hdl]
    rfl
theorem bl_hist (h : HistA K cs cur l) (hd : DS a L T 53 n K x cs f N m b0 S cur w) (hlen : l.length ≤ 4096) : vblR (verR cur (fun q => chkR 53 K cs q 7)) (walkR L cur (fun q => chkR 53 K cs q 1)) (hdQ l) = (0, blocksV l) := by
  have h1 := h.fol (blS (walkR L cur (fun q => chkR 53 K cs q 1))) hlen ([], 0)
  rw [fold_bl _ l [] (fun v hv => by
    obtain ⟨older, h2⟩ := h.ver v hv
    exact h2.bof hd)] at h1
  unfold vblR
  rw [h1]
  rfl
end
end Go.Proofs.YtnlokpakiambaaaGreatDoor
namespace Go.Proofs.YtnlokpakiambaaaGreatDoor
open Go.RowKit Go.Maps
theorem walkA_len (L : Nat) (cur : Nat → Nat) (chk : Nat → Nat) : ∀ (k p : Nat) (want : Int) (bs by_ : List Nat), (walkA L cur chk k p want bs by_).2.1.length ≤ bs.length + k
  | 0, _, _, bs, _ => Nat.zero_le _
  | k + 1, p, want, bs, by_ => by
    unfold walkA
    cases loadR L cur p with
    | none => exact Nat.zero_le _
    | some lr =>
      obtain ⟨l, rest⟩ := lr
      show (if _ then _ else _ : Nat × List Nat × List Nat).2.1.length ≤ _
      split
      · exact Nat.zero_le _
      split
      · exact Nat.zero_le _
      split
      · show (bs ++ [p]).length ≤ _
        rw [List.length_append]
        simp
      split
      · exact Nat.zero_le _
      · have h := walkA_len L cur chk k (l.getD 0 0) ((rest : Int) - 456) (bs ++ [p]) (by_ ++ partB l rest)
        rw [List.length_append, List.length_singleton] at h
        omega
theorem walkR_len (L : Nat) (cur : Nat → Nat) (chk : Nat → Nat) (p : Nat) : (walkR L cur chk p).2.1.length ≤ 6 := by
  unfold walkR
  split
  · exact Nat.zero_le _
  · have h := walkA_len L cur chk 6 p (-1) [] []
    simpa using h
theorem bofR_len (L : Nat) (cur : Nat → Nat) (chk : Nat → Nat) (p : Nat) (dl : Bool) (dt : Nat) : (bofR (walkR L cur chk) p dl dt).1.length ≤ 7 := by
  unfold bofR
  split
  · simp
  split
  · simp
  · have h := walkR_len L cur chk dt
    simp
    omega
def RetBof (w : World) (R : List Nat × Nat) (e : Ending) (w' : World) : Prop := ∃ A m c, e = .returned (.tuple #[.slice A m c, .int .i64 (R.2 : Int)]) ∧ m = R.1.length ∧ Reads w' w'.heap.size 1 A m (uCells R.1) ∧ m ≤ c ∧ Below w.heap.size w w'
section
variable {a : DA} {L T s n K : Nat} {x : HA} {cs : Nat → CS} {f : Nat → Option Nat} {N m b0 : Nat} {S : Fp} {cur : Nat → Nat} {w : World} {d r : Nat}
set_option maxRecDepth 100000
set_option maxHeartbeats 4000000
theorem vbof_any (h : SD a L T s n K x cs f N m b0 S cur w d r) (p sp : Nat) (dl : Bool) (dt ol : Nat) (hdt : dt < 18446744073709551616) :
    Calls Tryz.prog 60 #[.iface 43 (.pointer (some ⟨d, 0, none⟩)), .int .u64 (p : Int), .agg #[.int .u64 (sp : Int), .bool dl, .int .u64 (dt : Int), .int .u64 (ol : Int)]] w (RetBof w (bofR (walkR L cur (fun q => chkR s K cs q 1)) p dl dt)) := by
  obtain ⟨W1, hW1⟩ : ∃ W1, (w.alloc (.cells #[.int .u64 (sp : Int), .bool dl, .int .u64 (dt : Int), .int .u64 (ol : Int)] 36)).alloc (.cells #[.int .u64 (p : Int)] 27) = W1 := ⟨_, rfl⟩
  have sz1 : (w.alloc (.cells #[.int .u64 (sp : Int), .bool dl, .int .u64 (dt : Int), .int .u64 (ol : Int)] 36)).heap.size = w.heap.size + 1 := by simp
  have hbx : Blk W1 w.heap.size 36 #[.int .u64 (sp : Int), .bool dl, .int .u64 (dt : Int), .int .u64 (ol : Int)] := by rw [← hW1]; exact (Blk.new w 36 _).alloc _
  have hrl : Reads W1 W1.heap.size 1 (some ⟨w.heap.size + 1, 0, none⟩) 1 (uCells [p]) := by
    rw [← hW1, ← sz1]
    exact lit_cells _ _ _ [p] rfl
  have hown : W1.ownsRow (w.heap.size + 1) 27 1 (.slice (some ⟨w.heap.size + 1, 0, none⟩) 1 1) 1 (uCells [p]) := by
    refine ⟨rfl, .inr ⟨w.heap.size + 1, 1, #[.int .u64 (p : Int)], rfl, Nat.le_refl _, ?_, Nat.le_refl _, by unfold maxLen; omega, rfl, rfl⟩⟩
    rw [← hW1, ← sz1]
    exact heap_alloc_new _ _
  have hB1 : Below w.heap.size w W1 := by rw [← hW1]; exact ((Below.refl _ _).alloc (Nat.le_refl _) _).alloc (by simp) _
  have HB1 := Lib.hid hB1
  have HW1 := Lib.hid hW1
  have HRl := Lib.hid hrl
  have HOw := Lib.hid hown
  have HBb := Lib.hid (bblocks_any (h.below hB1) dt hdt)
  have HDm : Hid (∀ W', Below w.heap.size w W' → Calls Tryz.prog 63 #[.iface 43 (.pointer (some ⟨d, 0, none⟩))] W' fun e w' => e = .returned (.int .i64 11) ∧ W' = w') := Lib.hid (fun W' hW => vdamaged_any (h.below hW))
  have HLn : Hid ((walkR L cur (fun q => chkR s K cs q 1) dt).2.1.length ≤ 6) := Lib.hid (walkR_len _ _ _ _)
  have HBof : Hid (bofR (walkR L cur (fun q => chkR s K cs q 1)) p dl dt = if dl = true then ([p], 0) else if (walkR L cur (fun q => chkR s K cs q 1) dt).1 ≠ 0 then ([], 11) else (p :: (walkR L cur (fun q => chkR s K cs q 1) dt).2.1, 0)) := Lib.hid rfl
  generalize walkR L cur (fun q => chkR s K cs q 1) dt = R at *
  generalize bofR (walkR L cur (fun q => chkR s K cs q 1)) p dl dt = Y at *
  unfold dirV at HBb
  have c1 : W1.cell? ⟨w.heap.size, 1, none⟩ = some (.bool dl) := hbx.cell 1
  have c2 : W1.cell? ⟨w.heap.size, 2, none⟩ = some (.int .u64 (dt : Int)) := hbx.cell 2
  have HS1 : Hid (w.heap.size + 1 ≤ W1.heap.size) := Lib.hid (by rw [← hW1]; simp)
  clear h hdt hbx hrl hown hB1 hW1 sz1
  cases dl
  · by_cases hR : R.1 = 0
    · have HY : Hid (Y = (p :: R.2.1, 0)) := Lib.hid (by rw [HBof.out, if_neg (by decide), if_neg (fun hn => hn hR)])
      have HB2 : Hid (Calls Tryz.prog 106 #[.iface 43 (.pointer (some ⟨d, 0, none⟩)), .int .u64 (dt : Int)] W1 fun e w' => ∃ A m c, e = .returned (.tuple #[.slice A m c, .int .i64 0]) ∧ Hid (m = R.2.1.length ∧ Reads w' w'.heap.size 1 A m (uCells R.2.1) ∧ Below W1.heap.size W1 w')) := Lib.hid (HBb.out.mono (fun e w' h => by
        unfold RetBl at h
        rw [if_pos hR] at h
        obtain ⟨A, m, c, h1, h2, h3, h4, h5⟩ := h
        exact ⟨A, m, c, h1, Lib.hid ⟨h2, h3, h5⟩⟩))
      obtain ⟨i0, hi0, hz0, hz1, hz2⟩ := info_parts infoPtr
      clear HBb HBof hR
      go_enter Tryz.func60, Tryz.ntmps60
      go_upto_region 2 with fail
      rw [HW1.out]
      go_wp2_with (go_at_call 106; refine HB2.out.mono ?_; rintro e w2 ⟨A2, m2, k2, rfl, hx⟩; have HX2 := Lib.hid hx.out; clear hx; refine stop ?_)
      unfold Stop
      have HM2 := Lib.hid (show m2 ≤ 6 by have h1 := HX2.out.1; have h2 := HLn.out; omega)
      have HO2 : Hid (w2.ownsRow (w.heap.size + 1) 27 1 (.slice (some ⟨w.heap.size + 1, 0, none⟩) 1 1) 1 (uCells [p])) := Lib.hid (own_below HOw.out HX2.out.2.2)
      go_wp2_with (at_builtin; refine wpList_app _ (.tmp 27) (.tmp 28) 51 rfl rfl (w.heap.size + 1) 27 i0 _ 1 8 Tryz.underlying51 hi0 hz0 hz1 hz2 rfl Nat.one_pos (.slice (some ⟨w.heap.size + 1, 0, none⟩) 1 1) 1 (uCells [p]) rfl HO2.out _ A2 m2 k2 (uCells R.2.1) rfl HX2.out.2.1 (uCells_one _) ?q1 ?q2 ?q3 ?_; (case q1 => (have := HM2.out; unfold maxLen; omega)); (case q2 => (have := HM2.out; omega)); (case q3 => (have h1 := HS1.out; have h2 := HX2.out.2.2.size; omega)); intro A3 n3 c3 w3 hn3 ho3 hg3 hb3; have HN3 := Lib.hid hn3; have HO3 := Lib.hid ho3; have HB3 := Lib.hid hb3; clear hn3 ho3 hg3 hb3; refine stop ?_)
      unfold Stop
      go_wp2
      go_ret2
      unfold RetBof
      rw [HY.out]
      refine ⟨A3, n3, c3, rfl, ?_, Reads.of_own HO3.out, (own_cap HO3.out).1, ?_⟩
      · have h1 := HN3.out
        have h2 := HX2.out.1
        simp
        omega
      · exact (HB1.out.trans (HX2.out.2.2.mono HB1.out.size)).trans (HB3.out.mono (Nat.le_succ _))
    · have HY : Hid (Y = ([], 11)) := Lib.hid (by rw [HBof.out, if_neg (by decide), if_pos hR])
      have HB2 : Hid (Calls Tryz.prog 106 #[.iface 43 (.pointer (some ⟨d, 0, none⟩)), .int .u64 (dt : Int)] W1 fun e w' => e = .returned (.tuple #[.slice none 0 0, .int .i64 (R.1 : Int)]) ∧ Hid (Below W1.heap.size W1 w')) := Lib.hid (HBb.out.mono (fun e w' h => by
        unfold RetBl at h
        rw [if_neg hR] at h
        exact ⟨h.1, Lib.hid h.2⟩))
      obtain ⟨ev, hev⟩ : ∃ ev, R.1 = ev := ⟨_, rfl⟩
      rw [hev] at HB2 hR
      have d1 : ((ev : Int) != 0) = true := by rw [bne, beq_eq_false_iff_ne.2 (by omega)]; rfl
      clear HBb HBof hev
      go_enter Tryz.func60, Tryz.ntmps60
      go_upto_region 2 with fail
      rw [HW1.out]
      go_wp2_with (go_at_call 106; refine HB2.out.mono ?_; rintro e w2 ⟨rfl, hx⟩; have HX2 := Lib.hid hx.out; clear hx; refine stop ?_)
      unfold Stop
      have HD2 := Lib.hid (HDm.out w2 (HB1.out.trans (HX2.out.mono HB1.out.size)))
      go_wp2_with (go_at_call 63; refine HD2.out.mono ?_; rintro e w3 ⟨rfl, rfl⟩)
      go_ret2
      unfold RetBof
      rw [HY.out]
      exact ⟨none, 0, 0, rfl, rfl, ⟨rfl, fun h => absurd h (Nat.lt_irrefl 0)⟩, Nat.le_refl _, HB1.out.trans (HX2.out.mono HB1.out.size)⟩
  · have HY : Hid (Y = ([p], 0)) := Lib.hid (by rw [HBof.out, if_pos rfl])
    clear HBb HBof
    go_enter Tryz.func60, Tryz.ntmps60
    go_upto_region 2 with fail
    rw [HW1.out]
    go_wp2
    go_ret2
    unfold RetBof
    rw [HY.out]
    exact ⟨_, 1, 1, rfl, rfl, HRl.out, Nat.le_refl _, HB1.out⟩
end
end Go.Proofs.YtnlokpakiambaaaGreatDoor
namespace Go.Proofs.YtnlokpakiambaaaGreatDoor
open Go.RowKit Go.Maps
theorem blocksV_snoc (l : List RV) (r : RV) : blocksV (vvs (l ++ [r])) = blocksV (vvs l) ++ ([r.v.q] ++ r.v.bl) := by
  unfold blocksV vvs
  rw [List.map_append, List.flatMap_append]
  simp
theorem blocksV_le (l : List RV) (h : ∀ r ∈ l, r.v.bl.length ≤ 5) : (blocksV (vvs l)).length ≤ 6 * l.length := by
  induction l with
  | nil => exact Nat.le_refl _
  | cons r t ih =>
    have h1 := h r (by simp)
    have h2 := ih (fun u hu => h u (by simp [hu]))
    unfold blocksV vvs at h2 ⊢
    rw [List.map_cons, List.flatMap_cons, List.length_append, List.length_cons, List.length_cons]
    omega
set_option maxRecDepth 100000
set_option maxHeartbeats 4000000
theorem rblocks_any (A : Option Addr) (n c : Nat) (l : List RV) (w : World) (hr : Reads w w.heap.size 5 A n (rvCells l)) (hn : n ≤ 100) (hbl : ∀ r ∈ l, Reads w w.heap.size 1 r.B r.nb (uCells r.v.bl) ∧ r.v.bl.length ≤ 5) :
    Calls Tryz.prog 21 #[.slice A n c] w fun e w' => ∃ A' m' c', e = .returned (.slice A' m' c') ∧ m' = (blocksV (vvs l)).length ∧ w'.ownsRow w.heap.size 23 1 (.slice A' m' c') m' (uCells (blocksV (vvs l))) ∧ Below w.heap.size w w' := by
  have hl := rv_len hr
  obtain ⟨i0, hi0, hz0, hz1, hz2⟩ := info_parts infoU64
  have HR := Lib.hid hr
  have HBl := Lib.hid hbl
  have HB0 : Hid (Below w.heap.size w w) := Below.refl _ _
  have HO0 : Hid (w.ownsRow w.heap.size 23 1 (.slice none 0 0) 0 (uCells (blocksV (vvs (l.take 0))))) := World.ownsRow_nil _ _ _ _
  have HL := Lib.hid hl
  clear hr hl hbl
  go_enter Tryz.func21, Tryz.ntmps21
  go_wp2
  go_loopw [3, 8] (fun p i wr => ∃ (k m : Nat) (A1 : Option Addr) (c1 : Nat), k ≤ n ∧ m ≤ 6 * k ∧ i = .int .i64 (k : Int) ∧ p = .slice A1 m c1 ∧ Hid (wr.ownsRow w.heap.size 23 1 (.slice A1 m c1) m (uCells (blocksV (vvs (l.take k))))) ∧ Hid (Below w.heap.size w wr)) (fun _ i _ => n - (Go.RowKit.intOf i).toNat)
  case atStart => exact ⟨0, 0, _, _, Nat.zero_le _, Nat.le_refl _, rfl, rfl, HO0, HB0⟩
  case round =>
    clear HB0 HO0
    obtain ⟨k, m, A1, c1, hk, hm, rfl, rfl, HO, H⟩ := hrel
    by_cases hlt : k < n
    · obtain ⟨hkl, gb, go, hA3, _, f0, f1, f2, f3, f4⟩ := rv_facts ((HR.out.below H.out).more H.out.size) (k := k) hlt
      subst hA3
      have hz5 : (0 : Int) ≤ (k : Int) := by omega
      have hz6 : (k : Int) < (n : Int) := by omega
      have HT : Hid (blocksV (vvs (l.take k)) ++ ([(l[k]).v.q] ++ (l[k]).v.bl) = blocksV (vvs (l.take (k + 1)))) := Lib.hid (by
        rw [List.take_succ_eq_append_getElem hkl, blocksV_snoc])
      have HRb := Lib.hid (HBl.out (l[k]) (List.getElem_mem hkl))
      generalize l[k] = r at *
      obtain ⟨v, B, nb, cb, D, nd, cd⟩ := r
      obtain ⟨st, dl, q, bl, p⟩ := v
      dsimp only at f0 f1 f2 f3 f4 HT HRb
      have HLE := Lib.hid H.out.size
      obtain ⟨W2, hW2⟩ : ∃ W2, wr.alloc (.cells #[.int .u64 (st : Int), .bool dl, .int .u64 (q : Int), .slice B nb cb, .slice D nd cd] 62) = W2 := ⟨_, rfl⟩
      have hbn := Blk.new wr 62 #[.int .u64 (st : Int), .bool dl, .int .u64 (q : Int), .slice B nb cb, .slice D nd cd]
      rw [hW2] at hbn
      have HW2 := Lib.hid hW2
      have HBn := Lib.hid hbn
      have hb2 : Below wr.heap.size wr W2 := by rw [← hW2]; exact (Below.refl _ _).alloc (Nat.le_refl _) _
      have HB2 := Lib.hid (H.out.trans (hb2.mono H.out.size))
      have HO2 := Lib.hid (own_below HO.out hb2)
      have g2 : W2.cell? ⟨wr.heap.size, 2, none⟩ = some (.int .u64 (q : Int)) := hbn.cell 2
      have g3 : W2.cell? ⟨wr.heap.size, 3, none⟩ = some (.slice B nb cb) := hbn.cell 3
      have HLb : Hid (bl.length = nb ∧ nb ≤ 5) := Lib.hid (by
        have h1 := HRb.out.1.1
        simp only [uCells, List.length_map] at h1
        have h2 := HRb.out.2
        omega)
      have HOlt : Hid (∀ g, (Value.slice A1 m c1).ownBlock = some g → g < wr.heap.size) := Lib.hid (fun g hg => (HO.out.lt g hg).2)
      clear hkl hbn hb2 hW2 H HO
      go_upto_region 5 with fail
      rw [HW2.out]
      refine wp_region_scriptH (fun w' => w'.cell? ⟨wr.heap.size, 2, none⟩ = some (.int .u64 (q : Int)) ∧ w'.cell? ⟨wr.heap.size, 3, none⟩ = some (.slice B nb cb)) 9 [] [(1, 0), (1, 1), (1, 2), (1, 5), (1, 6), (0, 3), (0, 4), (0, 7), (1, 8)] (by kernel_rfl) (by kernel_rfl) ⟨g2, g3⟩ ?_
      refine wpScriptH_take (.slice A1 m c1) (by rfl) (by rfl) (fun w' hS => ?_) ?_
      · go_simp
      simp only [zA, zB, Act.put, zD, zE, zF]
      refine wpScriptH_take (.pointer (some ⟨wr.heap.size, 2, none⟩)) (by rfl) (by rfl) (fun w' hS => ?_) ?_
      · go_simp
      simp only [zA, zB, zC, Act.put, zD, zE, zF]
      refine wpScriptH_take (.int .u64 (q : Int)) (by rfl) (by rfl) (fun w' hS => ?_) ?_
      · obtain ⟨s0, s1⟩ := hS
        go_simp
      simp only [zA, zB, zC, Act.put, zD, zE, zF]
      refine wpScriptH_take (.pointer (some ⟨wr.heap.size, 3, none⟩)) (by rfl) (by rfl) (fun w' hS => ?_) ?_
      · go_simp
      simp only [zA, zB, zC, Act.put, zD, zE, zF]
      refine wpScriptH_take (.slice B nb cb) (by rfl) (by rfl) (fun w' hS => ?_) ?_
      · obtain ⟨s0, s1⟩ := hS
        go_simp
      simp only [zA, zB, zC, Act.put, zD, zE, zF]
      refine wpScriptH_do (by rfl) ?_
      go_wp2_with fail
      have hb3 : Below W2.heap.size W2 (W2.alloc (.cells #[.int .u64 (q : Int)] 23)).drew := ((Below.refl _ _).alloc (Nat.le_refl _) _).drew
      have hbn3 := HBn.out.below hb3 HBn.out.lt
      have hrl : Reads (W2.alloc (.cells #[.int .u64 (q : Int)] 23)).drew (W2.alloc (.cells #[.int .u64 (q : Int)] 23)).drew.heap.size 1 (some ⟨W2.heap.size, 0, none⟩) 1 (uCells [q]) := (lit_cells W2 #[.int .u64 (q : Int)] 23 [q] rfl).below (Below.refl _ _).drew
      have HRl := Lib.hid hrl
      have HB3 := Lib.hid (HB2.out.trans (hb3.mono HB2.out.size))
      have HO3 := Lib.hid (own_below HO2.out hb3)
      have HS3 := Lib.hid hb3.size
      have HBn3 := Lib.hid hbn3
      refine ⟨⟨hbn3.cell 2, hbn3.cell 3⟩, ?_⟩
      clear hb3 hbn3 hrl g2 g3 f0 f1 f2 f3 f4
      generalize hW3 : (W2.alloc (.cells #[.int .u64 (q : Int)] 23)).drew = w3 at *
      clear hW3
      refine wpScriptH_do (by rfl) ?_
      refine wpList_app3 _ (.tmp 12) (.tmp 15) 33 rfl rfl w.heap.size 23 i0 _ 1 8 Tryz.underlying33 hi0 hz0 hz1 hz2 rfl Nat.one_pos (.slice A1 m c1) m (uCells (blocksV (vvs (l.take k)))) rfl HO3.out _ (some ⟨W2.heap.size, 0, none⟩) 1 1 (uCells [q]) rfl HRl.out (uCells_one _) ?_ ?_ ?_ ?_
      · unfold maxLen; omega
      · omega
      · exact HB3.out.size
      intro A4 n4 c4 w4 hn4 ho4 hg4 hv4
      have hbn4 := HBn3.out.grown hg4 (fun e => by have := HOlt.out _ e.symm; omega)
      have HO4 : Hid (w4.ownsRow w.heap.size 23 1 (.slice A4 n4 c4) n4 (uCells (blocksV (vvs (l.take k)) ++ [q]))) := Lib.hid (by rw [uCells_app]; exact ho4)
      have hb4 : Below w.heap.size w w4 := HB3.out.trans ((Below.refl _ _).grown hg4 HB3.out.size (fun j hj => (HO3.out.lt j hj).1))
      have HB4 := Lib.hid hb4
      have HBn4 := Lib.hid hbn4
      have HN4 : Hid (n4 = m + 1) := Lib.hid hn4
      have HRb4 : Hid (Reads w4 w4.heap.size 1 B nb (uCells bl)) := Lib.hid ((HRb.out.1.below hb4).more hb4.size)
      have HOl4 : Hid (∀ g, (Value.slice A4 n4 c4).ownBlock = some g → g ≠ wr.heap.size) := Lib.hid (fun g hg e => by
        rcases hv4 with e1 | e1
        · rw [hg] at e1
          have := HOlt.out g e1.symm
          omega
        · rw [hg] at e1
          injection e1 with e1
          have := HBn3.out.lt
          omega)
      clear hn4 ho4 hg4 hv4
      go_wp2_with fail
      refine ⟨⟨hbn4.cell 2, hbn4.cell 3⟩, ?_⟩
      clear hbn4 hb4
      have hn4 := HN4.out
      refine wpScriptH_do (by rfl) ?_
      refine wpList_app3 _ (.tmp 16) (.tmp 18) 33 rfl rfl w.heap.size 23 i0 _ 1 8 Tryz.underlying33 hi0 hz0 hz1 hz2 rfl Nat.one_pos (.slice A4 n4 c4) n4 (uCells (blocksV (vvs (l.take k)) ++ [q])) rfl HO4.out _ B nb cb (uCells bl) rfl HRb4.out (uCells_one _) ?_ ?_ ?_ ?_
      · have := HLb.out; unfold maxLen; omega
      · have := HLb.out; omega
      · exact HB4.out.size
      intro A5 n5 c5 w5 hn5 ho5 hg5 hv5
      have hbn5 := HBn4.out.grown hg5 (fun e => HOl4.out _ e.symm rfl)
      have HO5 : Hid (w5.ownsRow w.heap.size 23 1 (.slice A5 n5 c5) n5 (uCells (blocksV (vvs (l.take (k + 1)))))) := Lib.hid (by
        rw [← HT.out, ← List.append_assoc, uCells_app]
        exact ho5)
      have HB5 : Hid (Below w.heap.size w w5) := Lib.hid (HB4.out.trans ((Below.refl _ _).grown hg5 HB4.out.size (fun j hj => (HO4.out.lt j hj).1)))
      have HN5 : Hid (n5 ≤ 6 * (k + 1)) := Lib.hid (by have := HLb.out; omega)
      clear hn5 ho5 hg5 hv5 hn4
      go_wp2_with fail
      refine ⟨⟨hbn5.cell 2, hbn5.cell 3⟩, ?_⟩
      clear hbn5
      refine wpScriptH_take (.slice A5 n5 c5) (by rfl) (by rfl) (fun w' hS => ?_) ?_
      · go_simp
      simp only [zA, zB, zC, Act.put, zD, zE, zF]
      show wpList _ _ _ _ _ _
      simp only [List.drop_succ_cons, List.drop_zero]
      refine NoPanic.normal ?_
      go_wp2_with fail
      go_roundw
      case rel =>
        first
          | exact ⟨k + 1, n5, _, _, by omega, HN5.out, by go_num, rfl, HO5, HB5⟩
          | (repeat apply Exists.intro
             refine ⟨?_, rfl⟩
             exact ⟨k + 1, n5, _, _, by omega, HN5.out, by go_num, rfl, HO5, HB5⟩)
      case measure => simp [Go.RowKit.intOf]; omega
    · obtain rfl : n = k := by omega
      have HO9 : Hid (wr.ownsRow w.heap.size 23 1 (.slice A1 m c1) m (uCells (blocksV (vvs l)))) := Lib.hid (by
        have h := HO.out
        rw [List.take_of_length_le (Nat.le_of_eq HL.out)] at h
        exact h)
      go_wp2
      go_ret
      refine ⟨_, _, _, rfl, ?_, HO9.out, H.out⟩
      have h1 := HO9.out.1
      simp only [uCells, List.length_map] at h1
      omega
end Go.Proofs.YtnlokpakiambaaaGreatDoor
