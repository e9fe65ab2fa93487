/- The walks and laws that the claim leans on. -/
import Derived.Test.YtnlokpakiambaaaGreatDoorJbx
import Derived.Test.YtnlokpakiambaaaGreatDoorCards
import Derived.Test.YtnlokpakiambaaaGreatDoorTie
import Derived.WalkSpells
import Derived.WalkLawsBesides
import Derived.Deep.AppendLies
import Derived.Deep.OwnRows
import Derived.BigQuiet
import Derived.Lib.Hide
import Derived.StillTail
import Derived.Deep.RegionHeld3
import Derived.Deep.CutBlock
import Derived.Lib.ItoaNum
import Derived.Lib.AppendZeros
import Derived.ProofKit
import Derived.OpenShut
import Derived.Deep.DeepHandedRow
import Derived.Lib.LaidTab
import Derived.Lib.BufferMore
import Derived.Lib.Zigzag
import Derived.Shelf.SlMaps.Clone
import Derived.Shelf.SlIter.Sorted
import Derived.Lib.QuoteBits
import Derived.Lib.SlKeysI
import Derived.Deep.Onto
import Derived.Laws.CopyOwn
import Derived.Lib.BytesEntry
import Derived.Lib.SlBytesConst
import Derived.Deep.Fields
import Derived.RangeFuncNested
namespace Go.Proofs.YtnlokpakiambaaaGreatDoor
open Go.ChangeShapes Go.WideShapes Go.ChangeAt Go.RowKit
section
variable {H : Type} {enc : TypeId × Value → H} {W : World} {b0 base : Nat} {sp : Nat → Bool} {held : Bool} {v : Value} {d : DataW H} {p : List MemPlace} {r : Reach}
set_option maxRecDepth 100000 in
theorem u64_of (hv : Value.okWide Tryz.prog W r b0 23 v) (h : DataW.Trod enc Tryz.prog W base sp held 23 v d p) : ∃ n : Nat, v = .int .u64 (n : Int) ∧ n < 18446744073709551616 := by
  obtain ⟨n, hs, _, _, hw⟩ := open_int Tryz.underlying23 hv h
  have hb : 0 ≤ n ∧ n < 18446744073709551616 := by
    have hm : IntKind.u64.min = 0 := by decide
    have hx : IntKind.u64.max = 18446744073709551615 := by decide
    simp only [Lit.wf, hm, hx, Bool.and_eq_true, decide_eq_true_eq] at hw
    omega
  exact ⟨n.toNat, by rw [Int.toNat_of_nonneg hb.1]; exact hs, by omega⟩
end
end Go.Proofs.YtnlokpakiambaaaGreatDoor
namespace Go.Proofs.YtnlokpakiambaaaGreatDoor
open Go.RowKit Go.Maps
section
variable {a : DA} {L T n K : Nat} {x : HA} {cs : Nat → CS} {f : Nat → Option Nat} {N m b0 : Nat} {S : Fp} {cur : Nat → Nat} {w : World} {d r : Nat}
set_option maxRecDepth 100000
set_option maxHeartbeats 4000000
theorem vplan_bad (st : Nat) (dl : Bool) (dt ol : Nat) (hok : verOk st dl dt = false) (w : World) :
    Calls Tryz.prog 28 #[.iface 43 (.pointer (some ⟨d, 0, none⟩)), .agg #[.int .u64 (st : Int), .bool dl, .int .u64 (dt : Int), .int .u64 (ol : Int)]] w fun e w' => e = .returned (.tuple #[.int .u64 0, .int .i64 1]) ∧ Below w.heap.size w w' := by
  have HV : Hid (∀ W, Calls Tryz.prog 72 #[.agg #[.int .u64 (st : Int), .bool dl, .int .u64 (dt : Int), .int .u64 (ol : Int)]] W fun e w' => e = .returned (.bool false) ∧ Below W.heap.size W w') := Lib.hid (fun W => by
    have h := vvalid_any st dl dt ol W
    rw [hok] at h
    exact h)
  have hbx := Blk.new w 36 #[.int .u64 (st : Int), .bool dl, .int .u64 (dt : Int), .int .u64 (ol : Int)]
  have HB1 : Hid (Below w.heap.size w (w.alloc (.cells #[.int .u64 (st : Int), .bool dl, .int .u64 (dt : Int), .int .u64 (ol : Int)] 36))) := Lib.hid ((Below.refl _ _).alloc (Nat.le_refl _) _)
  have c0 : (w.alloc (.cells #[.int .u64 (st : Int), .bool dl, .int .u64 (dt : Int), .int .u64 (ol : Int)] 36)).cell? ⟨w.heap.size, 0, none⟩ = some (.int .u64 (st : Int)) := hbx.cell 0
  have c1 : (w.alloc (.cells #[.int .u64 (st : Int), .bool dl, .int .u64 (dt : Int), .int .u64 (ol : Int)] 36)).cell? ⟨w.heap.size, 1, none⟩ = some (.bool dl) := hbx.cell 1
  have c2 : (w.alloc (.cells #[.int .u64 (st : Int), .bool dl, .int .u64 (dt : Int), .int .u64 (ol : Int)] 36)).cell? ⟨w.heap.size, 2, none⟩ = some (.int .u64 (dt : Int)) := hbx.cell 2
  have c3 : (w.alloc (.cells #[.int .u64 (st : Int), .bool dl, .int .u64 (dt : Int), .int .u64 (ol : Int)] 36)).cell? ⟨w.heap.size, 3, none⟩ = some (.int .u64 (ol : Int)) := hbx.cell 3
  have hnil : ∀ W, (binOp .eql 124 (.iface 43 (.pointer (some ⟨d, 0, none⟩))) .nilIface).run Tryz.prog W = .ok (.bool false) W := fun W => by rfl
  clear hbx hok
  go_enter Tryz.func28, Tryz.ntmps28
  go_wp2_with (go_at_call 72; refine (HV.out _).mono ?_; rintro e w2 ⟨rfl, hb2⟩; have HB2 := Lib.hid (HB1.out.trans (hb2.mono HB1.out.size)); clear hb2)
  go_ret2
  exact ⟨rfl, HB2.out⟩
end
end Go.Proofs.YtnlokpakiambaaaGreatDoor
namespace Go.Proofs.YtnlokpakiambaaaGreatDoor
open Go.ChangeShapes Go.WideShapes Go.ChangeAt Go.RowKit
theorem ver_cells4 {cs : List Value} {v0 v1 v2 v3 : Value} (hl : cs.length = 4) (d0 : cs[0]? = some v0) (d1 : cs[1]? = some v1) (d2 : cs[2]? = some v2) (d3 : cs[3]? = some v3) : cs = [v0, v1, v2, v3] := by
  match cs, hl with
  | [a0, a1, a2, a3], _ =>
    simp at d0 d1 d2 d3
    subst d0 d1 d2 d3
    rfl
section
variable {H : Type} {enc : TypeId × Value → H} {W : World} {b0 base : Nat} {sp : Nat → Bool} {held : Bool} {v : Value} {d : DataW H} {p : List MemPlace} {r : Reach}
theorem cellsVe : Tryz.prog.cellsOf 36 = 4 := by kernel_rfl
theorem cellsVe64 : Tryz.prog.cellsOf 23 = 1 := by kernel_rfl
theorem cellsVeB : Tryz.prog.cellsOf 4 = 1 := by kernel_rfl
theorem cellsVeP : Tryz.prog.cellsOf 27 = 1 := by kernel_rfl
theorem wf_v64 {a : Int} (h : (Lit.int .u64 a).wf = true) : 0 ≤ a ∧ a < 18446744073709551616 := by
  have hm : IntKind.u64.min = 0 := by decide
  have hx : IntKind.u64.max = 18446744073709551615 := by decide
  simp only [Lit.wf, hm, hx, Bool.and_eq_true, decide_eq_true_eq] at h
  omega
set_option maxRecDepth 100000 in
theorem ver_of (hv : Value.okWide Tryz.prog W r b0 36 v) (h : DataW.Trod enc Tryz.prog W base sp held 36 v d p) : ∃ (st : Nat) (dl : Bool) (dt ol : Nat), v = .agg #[.int .u64 (st : Int), .bool dl, .int .u64 (dt : Int), .int .u64 (ol : Int)] ∧ st < 18446744073709551616 ∧ dt < 18446744073709551616 ∧ ol < 18446744073709551616 := by
  obtain ⟨cs, rfl, hs, _⟩ : ∃ cs, v = .agg cs ∧ cs.size = Tryz.prog.cellsOf 36 ∧ Row.okWide Tryz.prog W r b0 36 cs := by
    simpa only [Value.okWide, Tryz.underlying36] using hv
  obtain ⟨m, hm⟩ := h
  obtain ⟨xs, n, _, _, hlen, hxl, hf⟩ := DataW.trod_struct Tryz.underlying36 hm
  have hx4 : xs.length = 4 := hxl
  have get : ∀ j, j < 4 → ∃ y, xs[j]? = some y := fun j hj => ⟨xs[j], List.getElem?_eq_getElem (by omega)⟩
  obtain ⟨y0, e0⟩ := get 0 (by omega)
  obtain ⟨y1, e1⟩ := get 1 (by omega)
  obtain ⟨y2, e2⟩ := get 2 (by omega)
  obtain ⟨y3, e3⟩ := get 3 (by omega)
  obtain ⟨a0, c0, _, w0⟩ := DataW.trod_int Tryz.underlying23 ((hf 0 _ rfl).trans e0)
  obtain ⟨a1, c1, _⟩ := DataW.trod_bool Tryz.underlying4 ((hf 1 _ rfl).trans e1)
  obtain ⟨a2, c2, _, w2⟩ := DataW.trod_int Tryz.underlying27 ((hf 2 _ rfl).trans e2)
  obtain ⟨a3, c3, _, w3⟩ := DataW.trod_int Tryz.underlying27 ((hf 3 _ rfl).trans e3)
  have hcs : (Value.agg cs).cells.toList = cs.toList := rfl
  rw [hcs] at hlen c0 c1 c2 c3
  change (cs.toList.drop 0).take (Tryz.prog.cellsOf 23) = _ at c0
  change (cs.toList.drop 1).take (Tryz.prog.cellsOf 4) = _ at c1
  change (cs.toList.drop 2).take (Tryz.prog.cellsOf 27) = _ at c2
  change (cs.toList.drop 3).take (Tryz.prog.cellsOf 27) = _ at c3
  rw [cellsVe64] at c0
  rw [cellsVeB] at c1
  rw [cellsVeP] at c2 c3
  have h0 := wf_v64 w0
  have h2 := wf_v64 w2
  have h3 := wf_v64 w3
  have he := ver_cells4 (hlen.trans cellsVe) (one_at c0) (one_at c1) (one_at c2) (one_at c3)
  refine ⟨a0.toNat, a1, a2.toNat, a3.toNat, ?_, by omega, by omega, by omega⟩
  congr 1
  apply Array.ext'
  rw [he]
  show _ = [Value.int .u64 ((a0.toNat : Nat) : Int), .bool a1, .int .u64 ((a2.toNat : Nat) : Int), .int .u64 ((a3.toNat : Nat) : Int)]
  rw [Int.toNat_of_nonneg h0.1, Int.toNat_of_nonneg h2.1, Int.toNat_of_nonneg h3.1]
end
end Go.Proofs.YtnlokpakiambaaaGreatDoor
namespace Go.Proofs.YtnlokpakiambaaaGreatDoor
open Go.RowKit Go.Maps
set_option maxRecDepth 100000
set_option maxHeartbeats 4000000
theorem vnilEq (W : World) : (binOp .eql 124 .nilIface .nilIface).run Tryz.prog W = .ok (.bool true) W := by rfl
theorem vfollow_nil (head : Nat) (fv : Value) (w : World) : Calls Tryz.prog 55 #[.nilIface, .int .u64 (head : Int), fv] w fun e w' => e = .returned (.int .i64 1) ∧ w = w' := by
  have hnil := vnilEq
  go_enter Tryz.func55, Tryz.ntmps55
  go_wp2
  go_ret
  exact ⟨rfl, rfl⟩
theorem vread_nil (p : Nat) (w : World) : Calls Tryz.prog 31 #[.nilIface, .int .u64 (p : Int)] w fun e w' => e = .returned (.tuple #[.agg #[.int .u64 0, .bool false, .int .u64 0, .int .u64 0], .int .i64 1]) ∧ Below w.heap.size w w' := by
  have hnil := vnilEq
  have hk := Blk.new w 36 #[.int .u64 0, .bool false, .int .u64 0, .int .u64 0]
  have HB : Hid (Below w.heap.size w (w.alloc (.cells #[.int .u64 0, .bool false, .int .u64 0, .int .u64 0] 36))) := Lib.hid ((Below.refl _ _).alloc (Nat.le_refl _) _)
  have c0 : (w.alloc (.cells #[.int .u64 0, .bool false, .int .u64 0, .int .u64 0] 36)).cell? ⟨w.heap.size, 0, none⟩ = some (.int .u64 0) := hk.cell 0
  have c1 : (w.alloc (.cells #[.int .u64 0, .bool false, .int .u64 0, .int .u64 0] 36)).cell? ⟨w.heap.size, 1, none⟩ = some (.bool false) := hk.cell 1
  have c2 : (w.alloc (.cells #[.int .u64 0, .bool false, .int .u64 0, .int .u64 0] 36)).cell? ⟨w.heap.size, 2, none⟩ = some (.int .u64 0) := hk.cell 2
  have c3 : (w.alloc (.cells #[.int .u64 0, .bool false, .int .u64 0, .int .u64 0] 36)).cell? ⟨w.heap.size, 3, none⟩ = some (.int .u64 0) := hk.cell 3
  clear hk
  go_enter Tryz.func31, Tryz.ntmps31
  go_wp2
  refine bodyPost_ret (v := .tuple #[.agg #[.int .u64 0, .bool false, .int .u64 0, .int .u64 0], .int .i64 1]) (by simp [results, Tryz.results31, go_sem, c0, c1, c2, c3]) rfl ⟨rfl, ?_⟩
  exact HB.out
theorem vplan_nil (st : Nat) (dl : Bool) (dt ol : Nat) (w : World) : Calls Tryz.prog 28 #[.nilIface, .agg #[.int .u64 (st : Int), .bool dl, .int .u64 (dt : Int), .int .u64 (ol : Int)]] w fun e w' => e = .returned (.tuple #[.int .u64 0, .int .i64 1]) ∧ Below w.heap.size w w' := by
  have hnil := vnilEq
  have HB : Hid (Below w.heap.size w (w.alloc (.cells #[.int .u64 (st : Int), .bool dl, .int .u64 (dt : Int), .int .u64 (ol : Int)] 36))) := Lib.hid ((Below.refl _ _).alloc (Nat.le_refl _) _)
  go_enter Tryz.func28, Tryz.ntmps28
  go_wp2
  go_ret2
  exact ⟨rfl, HB.out⟩
theorem vat_nil (head stamp : Nat) (w : World) : Calls Tryz.prog 15 #[.nilIface, .int .u64 (head : Int), .int .u64 (stamp : Int)] w fun e w' => e = .returned (.tuple #[.agg #[.int .u64 0, .bool false, .int .u64 0, .int .u64 0], .int .i64 1]) ∧ Below w.heap.size w w' := by
  go_enter Tryz.func15, Tryz.ntmps15
  have hmf : ∀ (fn : Fn) (first cap : Array Value) (w : World), (Instr.makeFunc fn first cap).run Tryz.prog w = .ok (.func fn first cap) w := fun _ _ _ _ => rfl
  go_wp2_with (go_at_call 55; refine (vfollow_nil head _ _).mono ?_; rintro e w1 ⟨rfl, rfl⟩)
  have s1 : (w.alloc (.cells #[.int .u64 (stamp : Int)] 23)).heap.size = w.heap.size + 1 := by simp
  have s2 : ((w.alloc (.cells #[.int .u64 (stamp : Int)] 23)).alloc (.cells #[.int .u64 0, .bool false, .int .u64 0, .int .u64 0] 36)).heap.size = w.heap.size + 2 := by simp
  have hk0 := Blk.new (w.alloc (.cells #[.int .u64 (stamp : Int)] 23)) 36 #[.int .u64 0, .bool false, .int .u64 0, .int .u64 0]
  rw [s1] at hk0
  have hk := hk0.alloc (.cells #[.int .u64 0, .bool true, .int .u64 0, .int .u64 0] 36)
  have hb : Below w.heap.size w (((w.alloc (.cells #[.int .u64 (stamp : Int)] 23)).alloc (.cells #[.int .u64 0, .bool false, .int .u64 0, .int .u64 0] 36)).alloc (.cells #[.int .u64 0, .bool true, .int .u64 0, .int .u64 0] 36)) := (((Below.refl _ _).alloc (Nat.le_refl _) _).alloc (by simp) _).alloc (by rw [s2]; omega) _
  have c0 := hk.cell 0
  have c1 := hk.cell 1
  have c2 := hk.cell 2
  have c3 := hk.cell 3
  exact bodyPost_ret (v := .tuple #[.agg #[.int .u64 0, .bool false, .int .u64 0, .int .u64 0], .int .i64 1]) (by simp [results, Tryz.results15, go_sem, c0, c1, c2, c3]) rfl ⟨rfl, hb⟩
theorem vcheck_nil (head : Nat) (w : World) : Calls Tryz.prog 22 #[.nilIface, .int .u64 (head : Int)] w fun e w' => e = .returned (.int .i64 1) ∧ Below w.heap.size w w' := by
  have hmf : ∀ (fn : Fn) (first cap : Array Value) (w : World), (Instr.makeFunc fn first cap).run Tryz.prog w = .ok (.func fn first cap) w := fun _ _ _ _ => rfl
  have hb : Below w.heap.size w ((w.alloc (.cells #[.nilIface] 124)).alloc (.cells #[.int .i64 0] 37)) := ((Below.refl _ _).alloc (Nat.le_refl _) _).alloc (by simp) _
  have HB := Lib.hid hb
  clear hb
  go_enter Tryz.func22, Tryz.ntmps22
  go_wp2_with (go_at_call 55; refine (vfollow_nil head _ _).mono ?_; rintro e w1 ⟨rfl, rfl⟩)
  go_ret
  exact ⟨rfl, HB.out⟩
theorem vblocks_nil (head : Nat) (w : World) : Calls Tryz.prog 18 #[.nilIface, .int .u64 (head : Int)] w fun e w' => e = .returned (.tuple #[.slice none 0 0, .int .i64 1]) ∧ Below w.heap.size w w' := by
  have hmf : ∀ (fn : Fn) (first cap : Array Value) (w : World), (Instr.makeFunc fn first cap).run Tryz.prog w = .ok (.func fn first cap) w := fun _ _ _ _ => rfl
  have s2 : ((w.alloc (.cells #[.nilIface] 124)).alloc (.cells #[.slice none 0 0] 51)).heap.size = w.heap.size + 2 := by simp
  have hb : Below w.heap.size w (((w.alloc (.cells #[.nilIface] 124)).alloc (.cells #[.slice none 0 0] 51)).alloc (.cells #[.int .i64 0] 37)) := (((Below.refl _ _).alloc (Nat.le_refl _) _).alloc (by simp) _).alloc (by rw [s2]; omega) _
  have HB := Lib.hid hb
  clear hb s2
  go_enter Tryz.func18, Tryz.ntmps18
  go_wp2_with (go_at_call 55; refine (vfollow_nil head _ _).mono ?_; rintro e w1 ⟨rfl, rfl⟩)
  go_ret2
  exact ⟨rfl, HB.out⟩
theorem vprune_nil (head oldest : Nat) (w : World) : Calls Tryz.prog 26 #[.nilIface, .int .u64 (head : Int), .int .u64 (oldest : Int)] w fun e w' => e = .returned (.tuple #[.slice none 0 0, .slice none 0 0, .bool false, .int .i64 1]) ∧ Below w.heap.size w w' := by
  have hmf : ∀ (fn : Fn) (first cap : Array Value) (w : World), (Instr.makeFunc fn first cap).run Tryz.prog w = .ok (.func fn first cap) w := fun _ _ _ _ => rfl
  go_enter Tryz.func26, Tryz.ntmps26
  go_wp2_with (go_at_call 55; refine (vfollow_nil head _ _).mono ?_; rintro e w1 ⟨rfl, rfl⟩)
  have s2 : ((w.alloc (.cells #[.nilIface] 124)).alloc (.cells #[.int .u64 (oldest : Int)] 23)).heap.size = w.heap.size + 1 + 1 := by simp
  have hk0 := Blk.new ((w.alloc (.cells #[.nilIface] 124)).alloc (.cells #[.int .u64 (oldest : Int)] 23)) 51 #[.slice none 0 0]
  rw [s2] at hk0
  have hk := ((hk0.alloc (.cells #[.int .u64 0] 27)).alloc (.cells #[.bool false] 4)).alloc (.cells #[.int .i64 0] 37)
  have c0 := hk.cell 0
  have hb : ∀ o1 o2 o3 o4 o5 o6 : Obj, Below w.heap.size w ((((((w.alloc o1).alloc o2).alloc o3).alloc o4).alloc o5).alloc o6) := fun o1 o2 o3 o4 o5 o6 => by
    have h1 := (Below.refl w.heap.size w).alloc (Nat.le_refl _) o1
    have h2 := h1.alloc h1.size o2
    have h3 := h2.alloc h2.size o3
    have h4 := h3.alloc h3.size o4
    have h5 := h4.alloc h4.size o5
    exact h5.alloc h5.size o6
  exact bodyPost_ret (v := .tuple #[.slice none 0 0, .slice none 0 0, .bool false, .int .i64 1]) (by simp [results, Tryz.results26, go_sem, c0]) rfl ⟨rfl, hb _ _ _ _ _ _⟩
end Go.Proofs.YtnlokpakiambaaaGreatDoor
namespace Go.Proofs.YtnlokpakiambaaaGreatDoor
open Go.RowKit Go.Maps
theorem rq_stale {K : Nat} {cs : Nat → CS} {f : Nat → Option Nat} {kind q c : Nat} (h : Rq 53 K cs f kind q c) : chkR 53 K cs q 0 = 12 := by
  obtain ⟨k, i, hat, _, _⟩ := h.cls
  obtain ⟨k2, i2, g1, g2, g3, g4, g5⟩ := h.keep.loc
  obtain ⟨e1, e2⟩ := hat.uniq (k' := k2) (i' := i2) ⟨g1, g2, g3, g4⟩
  subst e1 e2
  have hb : blkR (53 + 32 * k) (cs k).cl (cs k).bs q = (0, 12) := by
    unfold blkR
    rw [if_neg h.keep.nz.1, hat.fnd]
    show (if q / 72057594037927936 ≠ 0 then _ else _) = _
    rw [if_neg (by rw [h.top]; decide), if_pos (.inl (by rw [g5]; decide))]
  unfold chkR
  rw [if_neg h.keep.nz.1, h.top, if_neg (by decide), hat.home]
  show (if (cs k).dv = true then _ else _) = _
  rw [if_pos g2, hb]
  rfl
structure RfS (d : Nat) (w6 : World) (chk : Nat → Nat → Nat) : Prop where
  ck : ∀ W, Below w6.heap.size w6 W → ∀ x kind : Nat, x < 18446744073709551616 → kind < 256 → Calls Tryz.prog 30 #[.pointer (some ⟨d, 0, none⟩), .int .u64 (x : Int), .int .u8 (kind : Int)] W fun e w' => e = .returned (.int .i64 (chk x kind : Int)) ∧ Below W.heap.size W w'
  rd : ∀ W, Below w6.heap.size w6 W → ∀ x : Nat, x < 18446744073709551616 → chk x 7 ≠ 0 → Calls Tryz.prog 31 #[.iface 43 (.pointer (some ⟨d, 0, none⟩)), .int .u64 (x : Int)] W fun e w' => e = .returned (.tuple #[.agg #[.int .u64 0, .bool false, .int .u64 0, .int .u64 0], .int .i64 (chk x 7 : Int)]) ∧ Below W.heap.size W w'
  at0 : ∀ W, Below w6.heap.size w6 W → Calls Tryz.prog 15 #[.iface 43 (.pointer (some ⟨d, 0, none⟩)), .int .u64 0, .int .u64 1] W fun e w' => e = .returned (.tuple #[.agg #[.int .u64 0, .bool false, .int .u64 0, .int .u64 0], .int .i64 5]) ∧ Below W.heap.size W w'
  ck0 : ∀ W, Below w6.heap.size w6 W → Calls Tryz.prog 22 #[.iface 43 (.pointer (some ⟨d, 0, none⟩)), .int .u64 0] W fun e w' => e = .returned (.int .i64 0) ∧ Below W.heap.size W w'
theorem rfS_of {a : DA} {L T n K : Nat} {x : HA} {cs : Nat → CS} {f : Nat → Option Nat} {N m b0 : Nat} {S : Fp} {cur : Nat → Nat} {w : World} {d r : Nat} (h : SD a L T 53 n K x cs f N m b0 S cur w d r) : RfS d w (fun q kind => chkR 53 K cs q kind) := by
  refine ⟨fun W hW q kind hq hk => ?_, fun W hW q hq hc => ?_, fun W hW => ?_, fun W hW => ?_⟩
  · exact checkD (h.below hW) q kind hq hk
  · exact vread_bad (h.below hW) q hq hc
  · have h1 := vat_any (h.below hW) 0 1 (by decide)
    have h2 := at_hist (K := K) (cs := cs) (cur := cur) (l := []) trivial (Nat.zero_le _) 1
    rw [show hdQ [] = 0 from rfl] at h2
    rw [h2] at h1
    exact h1
  · have h1 := vcheck_any (h.below hW) 0 (by decide)
    have h2 := ck_hist (l := []) trivial (h.below hW).ds (Nat.zero_le _)
    rw [show hdQ [] = 0 from rfl] at h2
    rw [h2] at h1
    exact h1
set_option maxRecDepth 100000
set_option maxHeartbeats 4000000
theorem vchain_nil (head : Nat) (w : World) : Calls Tryz.prog 25 #[.nilIface, .int .u64 (head : Int)] w fun e w' => e = .returned (.func (.func 69) #[] #[.pointer (some ⟨w.heap.size, 0, none⟩), .pointer (some ⟨w.heap.size + 1, 0, none⟩)]) ∧ w' = (w.alloc (.cells #[.nilIface] 124)).alloc (.cells #[.int .u64 (head : Int)] 27) := by
  have hmf : ∀ (fn : Fn) (first cap : Array Value) (w : World), (Instr.makeFunc fn first cap).run Tryz.prog w = .ok (.func fn first cap) w := fun _ _ _ _ => rfl
  go_enter Tryz.func25, Tryz.ntmps25
  go_wp2
  go_ret
  exact ⟨rfl, rfl⟩
theorem vchain1_nil (l : Nat) (b1 b2 head : Nat) (W : World) (h1 : Blk W b1 124 #[.nilIface]) (h2 : Blk W b2 27 #[.int .u64 (head : Int)]) :
    Calls Tryz.prog 69 #[.func (.yield l) #[] #[], .pointer (some ⟨b1, 0, none⟩), .pointer (some ⟨b2, 0, none⟩)] W fun e W' => (∃ v, e = .returned v) ∧ ∃ o, W' = W.alloc o := by
  have hmf : ∀ (fn : Fn) (first cap : Array Value) (w : World), (Instr.makeFunc fn first cap).run Tryz.prog w = .ok (.func fn first cap) w := fun _ _ _ _ => rfl
  have c1 := fun o => (h1.alloc o).cell 0
  have c2 := fun o => (h2.alloc o).cell 0
  have d1 : ∀ o, (W.alloc o).cell? ⟨b1, 0, none⟩ = some .nilIface := c1
  have d2 : ∀ o, (W.alloc o).cell? ⟨b2, 0, none⟩ = some (.int .u64 (head : Int)) := c2
  clear c1 c2 h1 h2
  go_enter Tryz.func69, Tryz.ntmps69
  go_wp2_with (go_at_call 55; refine (vfollow_nil head _ _).mono ?_; rintro e w1 ⟨rfl, rfl⟩)
  go_end0
  exact ⟨⟨_, rfl⟩, _, rfl⟩
end Go.Proofs.YtnlokpakiambaaaGreatDoor
namespace Go.Proofs.YtnlokpakiambaaaGreatDoor
open Go.RowKit Go.Maps
def RowC (gh q0 : Nat) (W : World) : Prop := ∃ (gb go c bb bo nb cb : Nat), W.cell? ⟨gh, 1, none⟩ = some (.slice (some ⟨gb, go, none⟩) 1 c) ∧ W.cell? ⟨gb, go + 3, none⟩ = some (.slice (some ⟨bb, bo, none⟩) nb cb) ∧ 0 < nb ∧ W.cell? ⟨bb, bo, none⟩ = some (.int .u64 (q0 : Int))
structure RfW (w2 : World) (gh d q0 : Nat) (wx : World) : Prop where
  rf : ∃ chk, RfS d wx chk
  row : ∀ W, Below wx.heap.size wx W → RowC gh q0 W
  below : Below w2.heap.size w2 wx
theorem RfS.below_ {d : Nat} {w w' : World} {chk : Nat → Nat → Nat} (h : RfS d w chk) (hb : Below w.heap.size w w') : RfS d w' chk :=
  ⟨fun W hW => h.ck W (hb.trans (hW.mono hb.size)), fun W hW => h.rd W (hb.trans (hW.mono hb.size)), fun W hW => h.at0 W (hb.trans (hW.mono hb.size)), fun W hW => h.ck0 W (hb.trans (hW.mono hb.size))⟩
theorem RfW.below_ {w2 w w' : World} {gh d q0 : Nat} (h : RfW w2 gh d q0 w) (hb : Below w.heap.size w w') : RfW w2 gh d q0 w' := by
  obtain ⟨⟨chk, h1⟩, h2, h3⟩ := h
  exact ⟨⟨chk, h1.below_ hb⟩, fun W hW => h2 W (hb.trans (hW.mono hb.size)), h3.trans (hb.mono h3.size)⟩
theorem rf_row {w0 w : World} {k gh : Nat} {r : RV} {z : HP} (h : HsJ w0 k gh [r] (vvs [r]) z w) (hdl : r.v.dl = false) : ∃ q0 : Nat, q0 < 18446744073709551616 ∧ ∀ W, Chg (sfp z.S z.x) w W → RowC gh q0 W := by
  have hn := rv_len h.rd
  have hn1 : z.n = 1 := hn.symm
  obtain ⟨r1, -, r3, -, -⟩ := h.rin r (by simp)
  have hv := h.hist.1
  have hlen := hv.blen
  rw [hdl, if_neg (by decide)] at hlen
  have h6 := nBlk_drop r.v.p
  have h7 : r.v.bl.length = r.nb := by have := r1.1; simpa [uCells] using this
  obtain ⟨hl0, bb, bo, e1, e2, e3⟩ := u_facts r1 (k := 0) (by omega)
  obtain ⟨k1, i1, g1, _⟩ := (hv.bk 0 (by omega)).live
  refine ⟨r.v.bl[0], g1.lt, fun W hW => ?_⟩
  have q1 := chg_reads3 hW h.rd (fun hp ad had => (h.offA hp ad had).2)
  have q2 := chg_reads3 hW r1 (fun hp ad had => (r3 hp ad had).2)
  have q3 := hW.blk h.blk h.offg
  obtain ⟨hl, gb, go, hA, hgb, f0, f1, f2, f3, f4⟩ := rv_facts q1 (k := 0) (by omega)
  obtain ⟨hl0', bb', bo', e1', e2', e3'⟩ := u_facts q2 (k := 0) (by omega)
  refine ⟨gb, go, z.c, bb', bo', r.nb, r.cb, ?_, ?_, by omega, ?_⟩
  · have h8 := q3.cell 1
    rw [hA, hn1] at h8
    exact h8
  · have h8 : W.cell? ⟨gb, go + 0 * 5 + 3, none⟩ = some (.slice r.B r.nb r.cb) := f3
    rw [Nat.zero_mul, Nat.add_zero, e1'] at h8
    exact h8
  · rw [Nat.add_zero] at e3'
    exact e3'
theorem rf_bad {w0 w2 w : World} {k gh q0 : Nat} {r : RV} {z : HP} (h : HsJ w0 k gh [r] (vvs [r]) z w) (hb : Below w2.heap.size w2 w) (hq : ∀ W, Chg (sfp z.S z.x) w W → RowC gh q0 W) (st : Nat) (dl : Bool) (dt ol : Nat) (hok : verOk st dl dt = false) (W : World) (hW : Below w.heap.size w W) :
    Calls Tryz.prog 28 #[.iface 43 (.pointer (some ⟨z.y.d, 0, none⟩)), .agg #[.int .u64 (st : Int), .bool dl, .int .u64 (dt : Int), .int .u64 (ol : Int)]] W fun e w' => e = .returned (.tuple #[.int .u64 0, .int .i64 1]) ∧ Hid (RfW w2 gh z.y.d q0 w') := by
  refine (vplan_bad (d := z.y.d) st dl dt ol hok W).mono (fun e w' he => ⟨he.1, Lib.hid ?_⟩)
  have hw' := hW.trans (he.2.mono hW.size)
  exact ⟨⟨_, rfS_of (h.below_ hw').bw.sd⟩, fun W2 hW2 => hq W2 (Chg.of_below (hw'.trans (hW2.mono hw'.size))), hb.trans (hw'.mono hb.size)⟩
def RfP (d p : Nat) (w' : World) : Prop := pKind p = 7 ∧ p < 18446744073709551616 ∧ ∀ W, Below w'.heap.size w' W → Calls Tryz.prog 30 #[.pointer (some ⟨d, 0, none⟩), .int .u64 (p : Int), .int .u8 0] W fun e w3 => e = .returned (.int .i64 12) ∧ Below W.heap.size W w3
def PlR (st : Nat) (dl : Bool) (dt d p c : Nat) (wx : World) : Prop := (verOk st dl dt = false ∧ p = 0 ∧ c = 1) ∨ (verOk st dl dt = true ∧ c = 0 ∧ RfP d p wx)
theorem rf_ok {w0 w2 w : World} {gh q0 : Nat} {r : RV} {z : HP} (h : HsJ w0 1 gh [r] (vvs [r]) z w) (hb : Below w2.heap.size w2 w) (h2 : w2.heap.size ≤ w0.heap.size) (hq : ∀ W, Chg (sfp z.S z.x) w W → RowC gh q0 W) (st : Nat) (dl : Bool) (dt ol : Nat) (hok : verOk st dl dt = true) (hst : st ≤ 4611686018427387903) (hdt : dt < 18446744073709551616) (hol : ol < 18446744073709551616) (W : World) (hW : Below w.heap.size w W) :
    Calls Tryz.prog 28 #[.iface 43 (.pointer (some ⟨z.y.d, 0, none⟩)), .agg #[.int .u64 (st : Int), .bool dl, .int .u64 (dt : Int), .int .u64 (ol : Int)]] W fun e w' => ∃ p : Nat, e = .returned (.tuple #[.int .u64 (p : Int), .int .i64 0]) ∧ Hid (RfP z.y.d p w') ∧ Hid (RfW w2 gh z.y.d q0 w') := by
  have hj := h.below_ hW
  have hT := h.tm
  have hN := h.nm
  refine (vplan_ok hj.bw.sd st dl dt ol hok hst hdt hol (by omega) (by omega) (h.cap.has (cl := clsOf 3) (by decide) (roomV_le (j := 0) (by omega) (h.room.ver (by omega))))).mono (fun e w' he => ?_)
  obtain ⟨k, i, S', cs', cur', rfl, hro, hsd, hch, hgr, hrq, hat⟩ := he
  refine ⟨_, rfl, Lib.hid ⟨hrq.kind_, hrq.keep.nz.2, fun W3 hW3 => ?_⟩, Lib.hid ⟨⟨_, rfS_of hsd⟩, fun W3 hW3 => hq W3 (((Chg.of_below hW).trans hch (Grew.refl _ _)).below hW3), ?_⟩⟩
  · have h1 := checkD (hsd.below hW3) (fptr 53 cs' 7 k i) 0 hrq.keep.nz.2 (by omega)
    rw [rq_stale hrq] at h1
    exact h1
  · have h3 := hb.trans (hW.mono hb.size)
    exact h3.trans (hch.toBelow h3.size (fun i hi => Nat.le_trans h2 (h.old i hi)))
section
variable {w : World}
set_option maxRecDepth 100000
set_option maxHeartbeats 8000000
def rf3 (w : World) : World := (w.alloc (.cells #[.int .u8 120] 5 (1, 2))).alloc (.cells #[.int .u8 0, .bool false, .slice (some ⟨w.heap.size, 0, none⟩) 1 1] 74)
def rfL (w : World) : List DR := [⟨0, false, some ⟨w.heap.size, 0, none⟩, 1, 1, [120]⟩]
theorem rf3_in (w : World) : DrsIn (rf3 w) (some ⟨w.heap.size + 1, 0, none⟩) 1 1 (rfL w) ∧ Below w.heap.size w (rf3 w) := by
  have s1 : (w.alloc (.cells #[.int .u8 120] 5 (1, 2))).heap.size = w.heap.size + 1 := by simp
  have r1 := lit_readsN w #[.int .u8 120] 5 (1, 2) [120] 1 rfl rfl
  have b12 : Below (w.alloc (.cells #[.int .u8 120] 5 (1, 2))).heap.size (w.alloc (.cells #[.int .u8 120] 5 (1, 2))) (rf3 w) := (Below.refl _ _).alloc (Nat.le_refl _) _
  refine ⟨⟨?_, Nat.le_refl _, by omega, fun r hr => ?_⟩, ((Below.refl _ _).alloc (Nat.le_refl _) _).alloc (by simp) _⟩
  · refine ⟨rfl, fun _ => ⟨_, rfl, by unfold rf3; simp, fun j u hu => ?_⟩⟩
    have hh := heap_alloc_new (w.alloc (.cells #[.int .u8 120] 5 (1, 2))) (.cells #[.int .u8 0, .bool false, .slice (some ⟨w.heap.size, 0, none⟩) 1 1] 74)
    rw [s1] at hh
    have ha : (⟨w.heap.size + 1, 0, none⟩ : Addr).add j = ⟨w.heap.size + 1, j, none⟩ := by unfold Addr.add; split <;> simp_all
    rw [ha]
    refine (cell_of_row _ _ _ _ _ _ hh).trans ?_
    rw [← Array.getElem?_toList]
    exact hu
  · unfold rfL at hr
    simp only [List.mem_cons, List.not_mem_nil, or_false] at hr
    subst hr
    exact ⟨(r1.below b12).more b12.size, (show ∀ b ∈ [120], b < 256 by decide), Nat.le_refl _, by show 1 ≤ 9223372036854775807; omega, by show 0 < 256; omega⟩
theorem rf_rl {w : World} {rl : List RV} (h : BgIs (rfL w) 1 rl) : ∃ r : RV, rl = [r] ∧ r.v.dl = false := by
  obtain ⟨h1, h2⟩ := h
  match rl, h1 with
  | [r], _ =>
    have e : (List.range 1).map (fun j => (stP (rfL w) (j + 1), (((rfL w)[j]?).map DR.dl).getD false, if (((rfL w)[j]?).map DR.dl).getD false = true then [] else ((((rfL w)[j]?).map DR.p).getD []).take 500)) = [(0, false, [120])] := rfl
    rw [e] at h2
    simp only [List.reverse_cons, List.reverse_nil, List.nil_append, List.map_cons, List.map_nil, List.cons.injEq, Prod.mk.injEq, and_true] at h2
    exact ⟨r, rfl, h2.2.1⟩
theorem wp_rangeFunc_empty {g : Operand} {p0 : Tmp} {body : Code} {Q : Exit → Act → World → Prop} {a : Act} {gf : Nat} {lb : Array Value} (hg : a.eval g = .func (.func gf) #[] lb) (eg : ∀ args w, (callFunc gf args).run Tryz.prog w = .ok (.enter gf args) w)
    (hseq : ∀ (l : Nat) (W : World), Below w.heap.size w W → Calls Tryz.prog gf (#[.func (.yield l) #[] #[]] ++ lb) W fun e W' => (∃ v, e = .returned v) ∧ ∃ o, W' = W.alloc o)
    (hdone : ∀ (D : Nat) (W : World), w.heap.size ≤ D → Below w.heap.size w W → W.heap[D]? = some (.deferred (some [])) → Q .normal { a with defers := { target := .collected D, args := #[] } :: a.defers } W) :
    (Code.rangeFunc g #[p0] Code.skip body).wp Tryz.prog Q a w := by
  refine (wpIn_wide (n := 5)).1 (wpIn_rangeFunc_ownF (F := Fence.wide) (α := Unit) (encs := fun _ => #[undef]) (Kp := Below w.heap.size) (S := fun xs => xs = []) (Sp := fun _ => False) (N := 0) (w0 := w) rfl (by decide) hg trivial eg ?_ belowK_t (belowK_b (Nat.le_refl _)) (Below.refl _ _) (fun _ => rfl)
    (fun _ W => Below w.heap.size w W) (fun _ _ _ => False) (ownFrom_below (Nat.le_refl _) (Nat.le_refl _)) (fun c s A B row h hg hr => h.elim) (Below.refl _ _) (fun _ => { tmps := (#[p0].zip #[undef]).foldl (fun t (p, v) => t.setIfInBounds p v) a.tmps, defers := [] }) ?assign ?body ?done ?stop)
  · intro l J Jx W hW hJ hJx hY h0
    refine callsIn_wide.2 ((hseq l W hW).mono ?_)
    rintro e W' ⟨hv, o, rfl⟩
    exact ⟨hv, .inl ⟨[], rfl, hJ [] W _ none h0 (World.grownBy_alloc W o none) (fun r e => by cases e)⟩⟩
  case assign =>
    intro l x W K hK
    exact wpIn_skip hK
  case body => exact fun l pre x W hI hN => absurd hN (Nat.not_lt_zero _)
  case done => exact fun D xs W hD _ hI hK => hdone D W hD hI hK
  case stop => exact fun D c pre W hD hSp _ _ => hSp.elim
theorem versionRefuses_law (st : Nat) (dl : Bool) (dt ol raw : Nat) (w : World) (hst : st < 18446744073709551616) (hdt : dt < 18446744073709551616) (hol : ol < 18446744073709551616) (hraw : raw < 18446744073709551616) (ht : Tab w) (hpy : Pay w) :
    Calls Tryz.prog 6 #[.agg #[.int .u64 (st : Int), .bool dl, .int .u64 (dt : Int), .int .u64 (ol : Int)], .int .u64 (raw : Int)] w fun e w' => e = .returned (.bool true) ∧ Below w.heap.size w w' := by
  obtain ⟨W1, hW1⟩ : ∃ W1, (w.alloc (.cells #[.int .u64 (st : Int), .bool dl, .int .u64 (dt : Int), .int .u64 (ol : Int)] 36)).alloc (.cells #[.bool false] 4) = W1 := ⟨_, rfl⟩
  have s1 : (w.alloc (.cells #[.int .u64 (st : Int), .bool dl, .int .u64 (dt : Int), .int .u64 (ol : Int)] 36)).heap.size = w.heap.size + 1 := by simp
  have hb1 : Below w.heap.size w W1 := by rw [← hW1]; exact ((Below.refl _ _).alloc (Nat.le_refl _) _).alloc (by simp) _
  have hv1 : Blk W1 w.heap.size 36 #[.int .u64 (st : Int), .bool dl, .int .u64 (dt : Int), .int .u64 (ol : Int)] := by rw [← hW1]; exact (Blk.new w _ _).alloc _
  have hr1 : Blk W1 (w.heap.size + 1) 4 #[.bool false] := by
    rw [← hW1, ← s1]
    exact Blk.new _ _ _
  have HW1 := Lib.hid hW1
  have HB1 := Lib.hid hb1
  have HV1 := Lib.hid hv1
  have HR1 := Lib.hid hr1
  have HAw := Lib.hid (vawake_any W1 (ht.below hb1) (hpy.below hb1))
  have HBg : Hid (∀ W, Below W1.heap.size W1 W → Calls Tryz.prog 12 #[.slice (some ⟨W.heap.size + 1, 0, none⟩) 1 1] (rf3 W) fun e w' => ∃ gh : Nat, e = .returned (.pointer (some ⟨gh, 0, none⟩)) ∧ Hid (BgS (rf3 W) (rfL W) 1 gh w')) := Lib.hid (fun W hW => by
    have h1 := rf3_in W
    have h2 := hb1.trans ((hW.trans (h1.2.mono hW.size)).mono hb1.size)
    exact vbegin_any _ 1 1 (rfL W) h1.1 (ht.below h2) (hpy.below h2))
  have HNum := Lib.hid (show st < 18446744073709551616 ∧ dt < 18446744073709551616 ∧ ol < 18446744073709551616 ∧ raw < 18446744073709551616 from ⟨hst, hdt, hol, hraw⟩)
  have kc := fun (w : World) (C : Array Value) (n c : Nat) => Lib.run_convert_bytes_const (P := Tryz.prog) w 60 5 C n c Tryz.underlying60 Tryz.underlying5
  unfold rf3 at HBg
  clear hst hdt hol hraw ht hpy hW1 hb1 hv1 hr1 s1
  refine (callsIn_wide (n := 5)).1 (callsIn_of_wp_marks Tryz.func6 rfl trivial ?_ rfl)
  refine (wpIn_wide (n := 5)).2 ?_
  simp only [Tryz.ntmps6, List.size_toArray, List.length_cons, List.length_nil, Nat.reduceAdd, Nat.reduceSub, Array.replicate_succ, Array.replicate_zero, List.push_toArray, List.append_toArray, List.nil_append, List.cons_append]
  go_upto_region 1 with fail
  rw [HW1.out]
  go_wp2_with (first
    | (go_at_call 11; refine HAw.out.mono ?_; rintro e w2 ⟨rfl, hb2⟩; have HB2 := Lib.hid hb2; clear hb2)
    | (go_at_call 12; refine (HBg.out w2 HB2.out).mono ?_; rintro e w4 ⟨gh, rfl, hbg⟩; have HBS := Lib.hid hbg.out; clear hbg; refine stop ?_))
  unfold Stop
  obtain ⟨rl, z, hj, hbgis, -⟩ := HBS.out
  obtain ⟨r, rfl, hrd⟩ := rf_rl hbgis
  obtain ⟨q0, hq0, hqr⟩ := rf_row hj hrd
  obtain ⟨W3, hW3⟩ : ∃ W3, rf3 w2 = W3 := ⟨_, rfl⟩
  have hj3 : HsJ W3 1 gh [r] (vvs [r]) z w4 := by rw [← hW3]; exact hj
  have hb3 := (rf3_in w2).2
  rw [hW3] at hb3
  have HV := Lib.hid (hvC_of hj3 (by simp))
  have HB3 := Lib.hid (hb3.trans (hj3.below.mono hb3.size))
  have HRow : Hid (∀ W, Below w4.heap.size w4 W → RowC gh q0 W) := Lib.hid (fun W hW => hqr W (Chg.of_below hW))
  obtain ⟨h1, h2, h3, h4⟩ := HNum.out
  have HPb := Lib.hid (fun hok : verOk st dl dt = false => rf_bad hj3 HB3.out hqr st dl dt ol hok)
  have HPo := Lib.hid (fun (hok : verOk st dl dt = true) (hs : st ≤ 4611686018427387903) => rf_ok hj3 HB3.out hb3.size hqr st dl dt ol hok hs h2 h3)
  generalize z.y.g = gw at HV
  generalize z.y.d = d at HV HPb HPo
  obtain ⟨head, hhead⟩ : ∃ head, hdQ (vvs [r]) = head := ⟨_, rfl⟩
  have HLk := Lib.hid HV.out.lk
  have HH64 := Lib.hid HV.out.hd
  rw [hhead] at HLk HH64
  have HF0 := Lib.hid HV.out.h0
  have HF3 := Lib.hid HV.out.h3
  have HQ0 := Lib.hid hq0
  have hS : ∀ W, Below w4.heap.size w4 W → W.cell? ⟨gh, 0, none⟩ = some (.pointer (some ⟨gw, 0, none⟩)) ∧ W.cell? ⟨gw, 3, none⟩ = some (.pointer (some ⟨d, 0, none⟩)) := fun W hW => ⟨HF0.out W hW, HF3.out W hW⟩
  have HS := Lib.hid hS
  have s0 := hS w4 (Below.refl _ _)
  clear HAw HBg HBS hj hj3 hb3 hW3 hbgis hrd hq0 hqr h1 h2 h3 h4 hhead hS HV kc
  go_upto_region 6 with fail
  refine wp_region_scriptH (fun w' => w'.cell? ⟨gh, 0, none⟩ = some (.pointer (some ⟨gw, 0, none⟩)) ∧ w'.cell? ⟨gw, 3, none⟩ = some (.pointer (some ⟨d, 0, none⟩))) 14 [] [(1, 0), (1, 1), (1, 2), (1, 3), (1, 4), (1, 5), (1, 6), (1, 7), (1, 8), (1, 9), (1, 10), (0, 11), (1, 12), (1, 13)] (by kernel_rfl) (by kernel_rfl) s0 ?_
  refine wpScriptH_take (.pointer (some ⟨gh, 0, none⟩)) (by rfl) (by rfl) (fun w' hS => ?_) ?_
  · go_simp
  simp only [zA, zB, Act.put, zD, zE, zF]
  refine wpScriptH_take (.pointer (some ⟨gh, 0, none⟩)) (by rfl) (by rfl) (fun w' hS => ?_) ?_
  · go_simp
  simp only [zA, zB, zC, Act.put, zD, zE, zF]
  refine wpScriptH_take (.pointer (some ⟨gh, 0, none⟩)) (by rfl) (by rfl) (fun w' hS => ?_) ?_
  · go_simp
  simp only [zA, zB, zC, Act.put, zD, zE, zF]
  refine wpScriptH_take (.pointer (some ⟨gw, 0, none⟩)) (by rfl) (by rfl) (fun w' hS => ?_) ?_
  · obtain ⟨s1, s2⟩ := hS
    go_simp
  simp only [zA, zB, zC, Act.put, zD, zE, zF]
  refine wpScriptH_take (.pointer (some ⟨gw, 0, none⟩)) (by rfl) (by rfl) (fun w' hS => ?_) ?_
  · go_simp
  simp only [zA, zB, zC, Act.put, zD, zE, zF]
  refine wpScriptH_take (.pointer (some ⟨gw, 3, none⟩)) (by rfl) (by rfl) (fun w' hS => ?_) ?_
  · go_simp
  simp only [zA, zB, zC, Act.put, zD, zE, zF]
  refine wpScriptH_take (.pointer (some ⟨d, 0, none⟩)) (by rfl) (by rfl) (fun w' hS => ?_) ?_
  · obtain ⟨s1, s2⟩ := hS
    go_simp
  simp only [zA, zB, zC, Act.put, zD, zE, zF]
  refine wpScriptH_take (.pointer (some ⟨gh, 0, none⟩)) (by rfl) (by rfl) (fun w' hS => ?_) ?_
  · go_simp
  simp only [zA, zB, zC, Act.put, zD, zE, zF]
  refine wpScriptH_take (.pointer (some ⟨gh, 0, none⟩)) (by rfl) (by rfl) (fun w' hS => ?_) ?_
  · go_simp
  simp only [zA, zB, zC, Act.put, zD, zE, zF]
  refine wpScriptH_take (.pointer (some ⟨gh, 0, none⟩)) (by rfl) (by rfl) (fun w' hS => ?_) ?_
  · go_simp
  simp only [zA, zB, zC, Act.put, zD, zE, zF]
  refine wpScriptH_take (.pointer (some ⟨gw, 0, none⟩)) (by rfl) (by rfl) (fun w' hS => ?_) ?_
  · obtain ⟨s1, s2⟩ := hS
    go_simp
  simp only [zA, zB, zC, Act.put, zD, zE, zF]
  refine wpScriptH_do (by rfl) ?_
  go_wp2_with (go_at_call 13; refine (HLk.out w4.drew (Below.refl _ _).drew).mono ?_; rintro e w5 ⟨rfl, hw5⟩; have HB5 : Hid (Below w4.heap.size w4 w5) := Lib.hid (by rw [hw5]; exact (Below.refl _ _).drew.drew); clear hw5)
  refine ⟨HS.out w5 HB5.out, ?_⟩
  refine wpScriptH_take (.pointer (some ⟨d, 0, none⟩)) (by rfl) (by rfl) (fun w' hS => ?_) ?_
  · go_simp
  simp only [zA, zB, zC, Act.put, zD, zE, zF]
  refine wpScriptH_take (.int .u64 (head : Int)) (by rfl) (by rfl) (fun w' hS => ?_) ?_
  · go_simp
  simp only [zA, zB, zC, Act.put, zD, zE, zF]
  show wpList _ _ _ _ _ _
  simp only [List.drop_succ_cons, List.drop_zero]
  refine NoPanic.normal ?_
  clear s0 HLk HF0 HF3 HS
  go_upto_region 7 with fail
  have HVw : Hid (∀ W, Below w2.heap.size w2 W → Blk W w.heap.size 36 #[.int .u64 (st : Int), .bool dl, .int .u64 (dt : Int), .int .u64 (ol : Int)]) := Lib.hid (fun W hW => (HV1.out.below HB2.out HV1.out.lt).below hW (HV1.out.below HB2.out HV1.out.lt).lt)
  have HRw : Hid (∀ W, Below w2.heap.size w2 W → Blk W (w.heap.size + 1) 4 #[.bool false]) := Lib.hid (fun W hW => (HR1.out.below HB2.out HR1.out.lt).below hW (HR1.out.below HB2.out HR1.out.lt).lt)
  have HB15 : Hid (Below w2.heap.size w2 w5) := Lib.hid (HB3.out.trans (HB5.out.mono HB3.out.size))
  go_cut [8, 9] from 50 to 56 (fun v8 v9 wx => ∃ p c : Nat, v8 = .int .u64 (p : Int) ∧ v9 = .int .i64 (c : Int) ∧ Hid (PlR st dl dt d p c wx) ∧ Hid (RfW w2 gh d q0 wx))
  case first =>
    have hv6 := HVw.out w5 HB15.out
    have g0 : w5.cell? ⟨w.heap.size, 0, none⟩ = _ := hv6.cell 0
    have g1 : w5.cell? ⟨w.heap.size, 1, none⟩ = _ := hv6.cell 1
    have g2 : w5.cell? ⟨w.heap.size, 2, none⟩ = _ := hv6.cell 2
    have g3 : w5.cell? ⟨w.heap.size, 3, none⟩ = _ := hv6.cell 3
    clear hv6
    cases hok : verOk st dl dt
    · have HB := Lib.hid (HPb.out hok w5 HB5.out)
      have HO := Lib.hid hok
      clear HPb HPo hok
      go_wp2_with (go_at_call 28; refine HB.out.mono ?_; rintro e w6 ⟨rfl, h6⟩; have H6 := Lib.hid h6.out; clear h6)
      go_meet
      exact ⟨0, 1, rfl, rfl, Lib.hid (.inl ⟨HO.out, rfl, rfl⟩), H6⟩
    · have hs : st ≤ 4611686018427387903 := by
        by_cases h : st ≤ 4611686018427387903
        · exact h
        · unfold verOk at hok
          rw [decide_eq_false h] at hok
          exact absurd hok (by simp)
      have HB := Lib.hid (HPo.out hok hs w5 HB5.out)
      have HO := Lib.hid hok
      clear HPb HPo hok hs
      go_wp2_with (go_at_call 28; refine HB.out.mono ?_; rintro e w6 ⟨p, rfl, hp6, h6⟩; have H6 := Lib.hid h6.out; have HP6 := Lib.hid hp6.out; clear h6 hp6)
      go_meet
      exact ⟨p, 0, rfl, rfl, Lib.hid (.inr ⟨HO.out, rfl, HP6.out⟩), H6⟩
  case rest =>
  obtain ⟨p, c, rfl, rfl, HPr, H6⟩ := hcut
  have HBw6 : Hid (Below w2.heap.size w2 wc) := Lib.hid H6.out.below
  go_upto_region 8 with fail
  go_cut [67] from 57 to 66 (fun v wx => v = .bool (!(verOk st dl dt)) ∧ Hid (wc = wx))
  case first =>
    have hv6 := HVw.out wc HBw6.out
    have g0 : wc.cell? ⟨w.heap.size, 0, none⟩ = _ := hv6.cell 0
    have g1 : wc.cell? ⟨w.heap.size, 1, none⟩ = _ := hv6.cell 1
    have g2 : wc.cell? ⟨w.heap.size, 2, none⟩ = _ := hv6.cell 2
    have g3 : wc.cell? ⟨w.heap.size, 3, none⟩ = _ := hv6.cell 3
    clear hv6
    by_cases hs : 4611686018427387903 < st
    · have HO : Hid (verOk st dl dt = false) := Lib.hid (by unfold verOk; rw [decide_eq_false (by omega)]; rfl)
      have hsi : (4611686018427387903 : Int) < (st : Int) := by omega
      clear hs
      go_wp2_with fail
      go_meet
      exact ⟨by rw [HO.out]; first | rfl | (simp; omega), Lib.hid rfl⟩
    · have hsi : (st : Int) ≤ (4611686018427387903 : Int) := by omega
      have HSl : Hid (decide (st ≤ 4611686018427387903) = true) := Lib.hid (decide_eq_true (by omega))
      clear hs
      cases dl
      · by_cases hd : dt = 0
        · have HO : Hid (verOk st false dt = false) := Lib.hid (by subst hd; unfold verOk; simp)
          subst hd
          go_wp2_with fail
          go_meet
          exact ⟨by rw [HO.out]; first | rfl | (simp; omega), Lib.hid rfl⟩
        · have hd0 : (0 : Int) < (dt : Int) := by omega
          have HO : Hid (verOk st false dt = true) := Lib.hid (by unfold verOk; rw [HSl.out, decide_eq_false hd]; rfl)
          clear hd
          go_wp2_with fail
          go_meet
          exact ⟨by rw [HO.out]; first | rfl | (simp; omega), Lib.hid rfl⟩
      · by_cases hd : dt = 0
        · have HO : Hid (verOk st true dt = true) := Lib.hid (by unfold verOk; rw [HSl.out, decide_eq_true hd]; rfl)
          subst hd
          go_wp2_with fail
          go_meet
          exact ⟨by rw [HO.out]; first | rfl | (simp; omega), Lib.hid rfl⟩
        · have hd0 : (0 : Int) < (dt : Int) := by omega
          have HO : Hid (verOk st true dt = false) := Lib.hid (by unfold verOk; rw [HSl.out, decide_eq_false hd]; rfl)
          clear hd
          go_wp2_with fail
          go_meet
          exact ⟨by rw [HO.out]; first | rfl | (simp; omega), Lib.hid rfl⟩
  case rest =>
  obtain ⟨rfl, hwx⟩ := hcut
  have hwx2 := hwx.out
  subst hwx2
  clear hwx
  go_upto_if 67 with fail
  go_cut [8, 9] from 50 to 86 (fun v8 v9 wx => Hid (RfW w2 gh d q0 wx))
  case first =>
    cases hok : verOk st dl dt
    · obtain ⟨rfl, rfl⟩ : p = 0 ∧ c = 1 := by
        rcases HPr.out with ⟨_, h1, h2⟩ | ⟨h1, _⟩
        · exact ⟨h1, h2⟩
        · exact absurd (h1.symm.trans hok) (by simp)
      clear hok
      go_wp2_with fail
      go_meet
      exact H6
    · obtain ⟨rfl, HP6⟩ : c = 0 ∧ Hid (RfP d p wc) := by
        rcases HPr.out with ⟨h1, _⟩ | ⟨_, h1, h2⟩
        · exact absurd (h1.symm.trans hok) (by simp)
        · exact ⟨h1, Lib.hid h2⟩
      clear hok
      have HKd : Hid (Calls Tryz.prog 29 #[.int .u64 (p : Int)] wc fun e w' => e = .returned (.int .u8 7) ∧ wc = w') := Lib.hid (by
        have h := kind_any p wc
        rw [HP6.out.1] at h
        exact h)
      have HCk := Lib.hid (HP6.out.2.2 wc (Below.refl _ _))
      go_wp2_with (first
        | (go_at_call 29; refine HKd.out.mono ?_; rintro e w7 ⟨rfl, rfl⟩)
        | (go_at_call 30; refine HCk.out.mono ?_; rintro e w7 ⟨rfl, hb7⟩; have HB7 := Lib.hid hb7; clear hb7))
      go_meet
      exact Lib.hid (H6.out.below_ HB7.out)
  case rest =>
  have HW := Lib.hid hcut.out
  clear hcut H6 HPr HBw6 HPb HPo
  obtain ⟨chk, hrf⟩ := HW.out.rf
  have HRf := Lib.hid hrf
  clear hrf
  obtain ⟨gb, go, cA, bb, bo, nb, cb, r1, r2, r3, r4⟩ := HW.out.row wc (Below.refl _ _)
  obtain ⟨q1, hq1, hq1b⟩ : ∃ q1 : Nat, IntKind.u64.wrap ((head : Int) + 4294967296) = (q1 : Int) ∧ q1 < 18446744073709551616 := by
    refine ⟨(head + 4294967296) % 18446744073709551616, ?_, Nat.mod_lt _ (by decide)⟩
    rw [IntKind.wrap_u64]
    omega
  have HXs : Hid (∀ x ∈ [0, q0, raw, q1], x < 18446744073709551616) := Lib.hid (by
    intro x hx
    have h1 := HQ0.out
    have h2 := HNum.out.2.2.2
    simp only [List.mem_cons, List.not_mem_nil, or_false] at hx
    rcases hx with rfl | rfl | rfl | rfl <;> omega)
  have HL : Hid (Reads (wc.alloc (.cells #[.int .u64 0, .int .u64 (q0 : Int), .int .u64 (raw : Int), .int .u64 (q1 : Int)] 27)) (wc.alloc (.cells #[.int .u64 0, .int .u64 (q0 : Int), .int .u64 (raw : Int), .int .u64 (q1 : Int)] 27)).heap.size 1 (some ⟨wc.heap.size, 0, none⟩) 4 (uCells [0, q0, raw, q1])) := Lib.hid (lit_cells wc #[.int .u64 0, .int .u64 (q0 : Int), .int .u64 (raw : Int), .int .u64 (q1 : Int)] 27 [0, q0, raw, q1] rfl)
  have HB4 : Hid (Below wc.heap.size wc (wc.alloc (.cells #[.int .u64 0, .int .u64 (q0 : Int), .int .u64 (raw : Int), .int .u64 (q1 : Int)] 27))) := Lib.hid ((Below.refl _ _).alloc (Nat.le_refl _) _)
  have hr3 : (0 : Int) < (nb : Int) := by omega
  clear hq1b r3
  obtain ⟨xs, hxs⟩ : ∃ xs, [0, q0, raw, q1] = xs := ⟨_, rfl⟩
  rw [hxs] at HXs HL
  clear hxs
  go_wp2_with fail
  clear hq1 r1 r2 r4 hr3
  go_loopw [101] (fun v wr => ∃ k : Nat, k ≤ 4 ∧ v = .int .i64 (k : Int) ∧ Hid (Below (wc.alloc (.cells #[.int .u64 0, .int .u64 (q0 : Int), .int .u64 (raw : Int), .int .u64 (q1 : Int)] 27)).heap.size (wc.alloc (.cells #[.int .u64 0, .int .u64 (q0 : Int), .int .u64 (raw : Int), .int .u64 (q1 : Int)] 27)) wr)) (fun v _ => 4 - (Go.RowKit.intOf v).toNat)
  case atStart => exact ⟨0, by omega, rfl, Lib.hid (Below.refl _ _)⟩
  case round =>
    obtain ⟨k, hk, rfl, HBr⟩ := hrel
    have HB : Hid (Below wc.heap.size wc wr) := Lib.hid (HB4.out.trans (HBr.out.mono HB4.out.size))
    by_cases hlt : k < 4
    · obtain ⟨hkl, gb2, go2, hA3, _, fk⟩ := u_facts ((HL.out.below HBr.out).more HBr.out.size) (k := k) hlt
      cases hA3
      rw [Nat.zero_add] at fk
      have HX := Lib.hid (HXs.out (xs[k]) (List.getElem_mem hkl))
      generalize xs[k] = x at *
      clear hkl
      have hz5 : (0 : Int) ≤ (k : Int) := by omega
      have hz6 : (k : Int) < 4 := by omega
      have HCk := Lib.hid (HRf.out.ck wr HB.out x 7 HX.out (by decide))
      have HRd := Lib.hid (fun W hW => HRf.out.rd W hW x HX.out)
      generalize chk x 7 = c at HCk HRd
      by_cases hc : c = 0
      · subst hc
        clear HRd
        go_wp2_with (go_at_call 30; refine HCk.out.mono ?_; rintro e w8 ⟨rfl, hb8⟩; have HB8 := Lib.hid (HBr.out.trans (hb8.mono HBr.out.size)); clear hb8)
        go_roundw
        case rel =>
          first
            | exact ⟨k + 1, by omega, by go_num, HB8⟩
            | (repeat apply Exists.intro
               refine ⟨?_, rfl⟩
               exact ⟨k + 1, by omega, by go_num, HB8⟩)
        case measure => simp [Go.RowKit.intOf]; omega
      · have hc0 : (0 : Int) < (c : Int) := by omega
        have HRd2 : Hid (∀ W, Below wc.heap.size wc W → Calls Tryz.prog 31 #[.iface 43 (.pointer (some ⟨d, 0, none⟩)), .int .u64 (x : Int)] W fun e w' => e = .returned (.tuple #[.agg #[.int .u64 0, .bool false, .int .u64 0, .int .u64 0], .int .i64 (c : Int)]) ∧ Below W.heap.size W w') := Lib.hid (fun W hW => HRd.out W hW hc)
        clear HRd hc
        go_wp2_with (first
          | (go_at_call 30; refine HCk.out.mono ?_; rintro e w8 ⟨rfl, hb8⟩; have HB8 := Lib.hid (HBr.out.trans (hb8.mono HBr.out.size)); have HC8 := Lib.hid (HB.out.trans (hb8.mono HB.out.size)); clear hb8)
          | (go_at_call 31; refine (HRd2.out w8 HC8.out).mono ?_; rintro e w9 ⟨rfl, hb9⟩; have HB9 := Lib.hid (HB8.out.trans (hb9.mono HB8.out.size)); clear hb9; refine stop ?_))
        unfold Stop
        clear fk
        obtain ⟨W9, hW9⟩ : ∃ W9, w9.alloc (.cells #[.int .u64 0, .bool false, .int .u64 0, .int .u64 0] 36) = W9 := ⟨_, rfl⟩
        have hn9 := Blk.new w9 36 #[.int .u64 0, .bool false, .int .u64 0, .int .u64 0]
        have hb9 := HB9.out.alloc HB9.out.size (.cells #[.int .u64 0, .bool false, .int .u64 0, .int .u64 0] 36)
        rw [hW9] at hn9 hb9
        have v0 : W9.cell? ⟨w9.heap.size, 0, none⟩ = _ := hn9.cell 0
        have v1 : W9.cell? ⟨w9.heap.size, 1, none⟩ = _ := hn9.cell 1
        have v2 : W9.cell? ⟨w9.heap.size, 2, none⟩ = _ := hn9.cell 2
        have v3 : W9.cell? ⟨w9.heap.size, 3, none⟩ = _ := hn9.cell 3
        have HW9 := Lib.hid hW9
        have HB10 := Lib.hid hb9
        clear hW9 hn9 hb9
        go_upto_region 19 with fail
        rw [HW9.out]
        go_wp2_with fail
        go_roundw
        case rel =>
          first
            | exact ⟨k + 1, by omega, by go_num, HB10⟩
            | (repeat apply Exists.intro
               refine ⟨?_, rfl⟩
               exact ⟨k + 1, by omega, by go_num, HB10⟩)
        case measure => simp [Go.RowKit.intOf]; omega
    · obtain rfl : k = 4 := by omega
      have HBw : Hid (Below w2.heap.size w2 wr) := Lib.hid (HW.out.below.trans (HB.out.mono HW.out.below.size))
      have HSw : Hid (w.heap.size + 1 < w2.heap.size) := Lib.hid (HRw.out w2 (Below.refl _ _)).lt
      have hv6 := HVw.out wr HBw.out
      have g0 : wr.cell? ⟨w.heap.size, 0, none⟩ = _ := hv6.cell 0
      have g1 : wr.cell? ⟨w.heap.size, 1, none⟩ = _ := hv6.cell 1
      have g2 : wr.cell? ⟨w.heap.size, 2, none⟩ = _ := hv6.cell 2
      have g3 : wr.cell? ⟨w.heap.size, 3, none⟩ = _ := hv6.cell 3
      clear hv6
      go_wp2_with (first
        | (go_at_call 28; refine (vplan_nil st dl dt ol wr).mono ?_; rintro e w8 ⟨rfl, hb8⟩; have HB8 := Lib.hid (HB.out.trans (hb8.mono HB.out.size)); clear hb8)
        | (go_at_call 31; refine (vread_nil head w8).mono ?_; rintro e w9 ⟨rfl, hb9⟩; have HB9 := Lib.hid (HB8.out.trans (hb9.mono HB8.out.size)); clear hb9)
        | (go_at_call 15; refine (vat_nil head 1 _).mono ?_; rintro e w10 ⟨rfl, hb10⟩; have HB10 := Lib.hid ((HB9.out.alloc HB9.out.size _).trans (hb10.mono (HB9.out.alloc HB9.out.size _).size)); clear hb10)
        | (go_at_call 26; refine (vprune_nil head 1 _).mono ?_; rintro e w11 ⟨rfl, hb11⟩; have HB11 := Lib.hid ((HB10.out.alloc HB10.out.size _).trans (hb11.mono (HB10.out.alloc HB10.out.size _).size)); clear hb11)
        | (go_at_call 18; refine (vblocks_nil head w11).mono ?_; rintro e w12 ⟨rfl, hb12⟩; have HB12 := Lib.hid (HB11.out.trans (hb12.mono HB11.out.size)); clear hb12)
        | (go_at_call 25; refine (vchain_nil head w12).mono ?_; rintro e w13 ⟨rfl, hw13⟩; have HW13 := Lib.hid hw13; clear hw13; refine stop ?_))
      unfold Stop
      have HB13 : Hid (Below wc.heap.size wc w13) := Lib.hid (by
        rw [HW13.out]
        have h1 := HB12.out.alloc HB12.out.size (.cells #[.nilIface] 124)
        exact h1.alloc h1.size _)
      have hK1 : Blk w13 w12.heap.size 124 #[.nilIface] := by
        rw [HW13.out]
        exact (Blk.new w12 _ _).alloc _
      have hK2 : Blk w13 (w12.heap.size + 1) 27 #[.int .u64 (head : Int)] := by
        rw [HW13.out]
        have h1 := Blk.new (w12.alloc (.cells #[.nilIface] 124)) 27 #[.int .u64 (head : Int)]
        rw [show (w12.alloc (.cells #[.nilIface] 124)).heap.size = w12.heap.size + 1 by simp] at h1
        exact h1
      have HSq : Hid (∀ (l : Nat) (W : World), Below w13.heap.size w13 W → Calls Tryz.prog 69 (#[.func (.yield l) #[] #[]] ++ #[.pointer (some ⟨w12.heap.size, 0, none⟩), .pointer (some ⟨w12.heap.size + 1, 0, none⟩)]) W fun e W' => (∃ v, e = .returned v) ∧ ∃ o, W' = W.alloc o) := Lib.hid (fun l W hW => vchain1_nil l _ _ head W (hK1.below hW hK1.lt) (hK2.below hW hK2.lt))
      clear hK1 hK2
      go_wp2_with fail
      refine wp_rangeFunc_empty (gf := 69) rfl (enters_of Tryz.func69 (by kernel_rfl) rfl) HSq.out ?_
      intro D W hD hW hK
      have HD := Lib.hid hD
      have HK := Lib.hid hK
      have HCW := Lib.hid (HB13.out.trans (hW.mono HB13.out.size))
      have HWD : Hid (D < W.heap.size) := Lib.hid (by
        have h := (Array.getElem?_eq_some_iff.1 hK).1
        exact h)
      clear hD hW hK HW13
      have HSc : Hid (w2.heap.size ≤ wc.heap.size) := Lib.hid HW.out.below.size
      have HSd : Hid (wc.heap.size ≤ w13.heap.size) := Lib.hid HB13.out.size
      go_wp2_with (go_at_call 15; refine (HRf.out.at0 W HCW.out).mono ?_; rintro e w14 ⟨rfl, hb14⟩; have HB14 := Lib.hid hb14; clear hb14; refine stop ?_)
      unfold Stop
      have HB14b := Lib.hid (HB14.out.alloc HB14.out.size (.cells #[.int .u64 0, .bool false, .int .u64 0, .int .u64 0] 36))
      go_upto_region 30 with fail
      obtain ⟨W14, hW14⟩ : ∃ W14, w14.alloc (.cells #[.int .u64 0, .bool false, .int .u64 0, .int .u64 0] 36) = W14 := ⟨_, rfl⟩
      rw [hW14] at HB14b ⊢
      clear hW14
      go_wp2_with (go_at_call 22; refine (vcheck_nil head W14).mono ?_; rintro e w15 ⟨rfl, hb15⟩; have HB15w := Lib.hid (HB14b.out.trans (hb15.mono HB14b.out.size)); clear hb15; refine stop ?_)
      unfold Stop
      have HCk0 := Lib.hid (HRf.out.ck0 w15 (HCW.out.trans (HB15w.out.mono HCW.out.size)))
      go_wp2_with (go_at_call 22; refine HCk0.out.mono ?_; rintro e w16 ⟨rfl, hb16⟩; have HB16 := Lib.hid (HB15w.out.trans (hb16.mono HB15w.out.size)); clear hb16; refine stop ?_)
      unfold Stop
      have HB17 : Hid (Below w2.heap.size w2 w16) := Lib.hid (HW.out.below.trans ((HCW.out.trans (HB16.out.mono HCW.out.size)).mono HW.out.below.size))
      have HR17 := Lib.hid (HRw.out w16 HB17.out)
      have r0 : w16.cell? ⟨w.heap.size + 1, 0, none⟩ = some (.bool false) := HR17.out.cell 0
      have r1 : w16.frozen? ⟨w.heap.size + 1, 0, none⟩ = false := HR17.out.frozen 0
      go_wp2_with fail
      clear r0 r1
      have hK' : (w16.setCell ⟨w.heap.size + 1, 0, none⟩ (.bool true)).heap[D]? = some (.deferred (some [])) := by
        rw [Below.heap_setCell _ _ _ _ (by have h1 := HD.out; have h2 := HSw.out; have h3 := HSc.out; have h4 := HSd.out; show D ≠ w.heap.size + 1; omega), HB16.out.block D HWD.out]
        exact HK.out
      have c0 : (w16.setCell ⟨w.heap.size + 1, 0, none⟩ (.bool true)).cell? ⟨w.heap.size + 1, 0, none⟩ = some (.bool true) := World.cell?_setCell_same' _ _ _ (by rw [show w16.cell? ⟨w.heap.size + 1, 0, none⟩ = some (.bool false) from HR17.out.cell 0]; rfl)
      have c1 := cell_kept c0 (grownBy_putObj' _ D (.deferred none)) (fun r e => by cases e; exact ⟨_, hK', rfl⟩)
      have hb : Below w.heap.size w (w16.setCell ⟨w.heap.size + 1, 0, none⟩ (.bool true)) := (HB1.out.trans ((HB2.out.trans (HB17.out.mono HB2.out.size)).mono HB1.out.size)).setCell (Nat.le_succ _) _
      refine ⟨by simp, .inl ⟨_, _, rfl, run_takeDeferred hK', ?_⟩⟩
      refine ⟨.bool true, ?_, rfl, hb.trans (belowK_b (w := w) (Nat.le_refl _) _ D _ _ (by have h1 := HD.out; have h2 := HSw.out; have h3 := HSc.out; have h4 := HSd.out; omega) hK' rfl rfl)⟩
      simp [results, Tryz.results6, go_sem, c1]
end
end Go.Proofs.YtnlokpakiambaaaGreatDoor
