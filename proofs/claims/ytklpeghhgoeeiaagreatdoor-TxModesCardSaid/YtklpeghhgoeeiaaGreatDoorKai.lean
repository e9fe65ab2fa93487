/- The walks and laws that the claim leans on, part 9: each part says ahead of its lines what it holds. -/
import Derived.Test.YtklpeghhgoeeiaaGreatDoorKah
import Derived.Test.YtklpeghhgoeeiaaGreatDoorCards
import Derived.Test.YtklpeghhgoeeiaaGreatDoorTie
import Derived.ProofKit
import Derived.OpenShut
import Derived.Deep.DeepHandedRow
import Derived.Lib.LaidTab
import Derived.Lib.BufferMore
import Derived.Deep.CutRange
import Derived.Deep.RegionWith
/- crc.step, crc.Update, crc.Sum (turned from the crc seat's texts). -/
namespace Go.Proofs.YtklpeghhgoeeiaaGreatDoor.Crc
def nib : List Nat := [0, 274646895, 549293790, 820201905, 1098587580, 1361435347, 1640403810, 1905808397, 2197175160, 2460548119, 2722870694, 2987750089, 3280807620, 3553878443, 3811616794, 4084100981]
def half (x : Nat) : Nat := x / 16 ^^^ nib.getD (x % 16) 0
def step (r b : Nat) : Nat := half (half (r ^^^ b))
def reg (r : Nat) (l : List Nat) : Nat := l.foldl step r
def ones : Nat := 4294967295
def update (c : Nat) (l : List Nat) : Nat := reg (c ^^^ ones) l ^^^ ones
def sum (l : List Nat) : Nat := update 0 l
theorem nib_lt (i : Nat) (hi : i < 16) : nib.getD i 0 < 4294967296 := by
  revert i; decide
theorem xor_lt {x y : Nat} (hx : x < 4294967296) (hy : y < 4294967296) : x ^^^ y < 4294967296 := Nat.xor_lt_two_pow (n := 32) hx hy
theorem half_lt {x : Nat} (h : x < 4294967296) : half x < 4294967296 := xor_lt (by omega) (nib_lt _ (Nat.mod_lt _ (by omega)))
theorem step_lt {r b : Nat} (hr : r < 4294967296) (hb : b < 256) : step r b < 4294967296 := half_lt (half_lt (xor_lt hr (by omega)))
theorem reg_lt {r : Nat} {l : List Nat} (hr : r < 4294967296) (hl : ∀ b ∈ l, b < 256) : reg r l < 4294967296 := by
  induction l generalizing r with
  | nil => exact hr
  | cons b l ih => exact ih (step_lt hr (hl b (by simp))) (fun c hc => hl c (by simp [hc]))
theorem reg_append (r : Nat) (l m : List Nat) : reg r (l ++ m) = reg (reg r l) m := List.foldl_append ..
theorem reg_snoc (r : Nat) (l : List Nat) (b : Nat) : reg r (l ++ [b]) = step (reg r l) b := by rw [reg_append]; rfl
theorem sum_lt {l : List Nat} (hl : ∀ b ∈ l, b < 256) : sum l < 4294967296 := xor_lt (reg_lt (by decide) hl) (by decide)
end Go.Proofs.YtklpeghhgoeeiaaGreatDoor.Crc
namespace Go.Proofs.YtklpeghhgoeeiaaGreatDoor
open Go.RowKit
set_option maxHeartbeats 400000 in
theorem step_core (r b x i t y j u z : Nat) (w : World) (e1 : bits .xor .u32 (r : Int) (b : Int) = (x : Int)) (e2 : bits .and .u32 (x : Int) 15 = (i : Int)) (hi : i < 16)
    (hc : w.cell? ⟨1, i, none⟩ = some (.int .u32 t)) (e3 : bits .xor .u32 ((x : Int) / 16) (t : Int) = (y : Int))
    (e4 : bits .and .u32 (y : Int) 15 = (j : Int)) (hj : j < 16)
    (hd : w.cell? ⟨1, j, none⟩ = some (.int .u32 u)) (e5 : bits .xor .u32 ((y : Int) / 16) (u : Int) = (z : Int)) (hb : b < 256) :
    Calls Tryz.prog 253 #[.int .u32 r, .int .u8 b] w fun e w' => e = .returned (.int .u32 z) ∧ w = w' := by
  go_enter Tryz.func253, Tryz.ntmps253
  go_wp2
  go_ret
  exact ⟨rfl, rfl⟩

/-- The table of the program lies where it lies. -/
def Tab (w : World) : Prop := ∀ i, i < 16 → w.cell? ⟨1, i, none⟩ = some (.int .u32 ((Crc.nib.getD i 0 : Nat) : Int))
theorem Tab.size {w : World} (h : Tab w) : 1 < w.heap.size := World.block_lt_of_cell? _ _ (h 0 (by omega))
theorem Tab.below {w w' : World} (h : Tab w) (hb : Below w.heap.size w w') : Tab w' := fun i hi => (hb.cell h.size).trans (h i hi)
theorem Tab.chg {w w' : World} {S : Fp} (h : Tab w) (hb : Chg S w w') (hS : ¬ S 1) : Tab w' := fun i hi => (World.cell?_of_block (w := w) (hb.block _ h.size hS)).trans (h i hi)

theorem u32_lit15 (x : Nat) (hx : x < 4294967296) : bits .and .u32 (x : Int) 15 = ((x % 16 : Nat) : Int) := by
  have h := u32_and_nat x 15 hx (by omega)
  rw [show ((15 : Nat) : Int) = 15 from rfl] at h
  rw [h, show (15 : Nat) = 2 ^ 4 - 1 from rfl, Nat.and_two_pow_sub_one_eq_mod]
theorem half_bits (x : Nat) (hx : x < 4294967296) : bits .xor .u32 ((x : Int) / 16) ((Crc.nib.getD (x % 16) 0 : Nat) : Int) = ((Crc.half x : Nat) : Int) := by
  rw [show ((x : Int) / 16) = ((x / 16 : Nat) : Int) by omega]
  exact u32_xor_nat _ _ (by omega) (Crc.nib_lt _ (Nat.mod_lt _ (by omega)))

theorem step_any (r b : Nat) (hr : r < 4294967296) (hb : b < 256) (w : World) (ht : Tab w) :
    Calls Tryz.prog 253 #[.int .u32 r, .int .u8 b] w fun e w' => e = .returned (.int .u32 ((Crc.step r b : Nat) : Int)) ∧ w = w' := by
  have hx : r ^^^ b < 4294967296 := Crc.xor_lt hr (by omega)
  have hy := Crc.half_lt hx
  exact step_core r b (r ^^^ b) _ _ _ _ _ _ w (u32_xor_nat r b hr (by omega)) (u32_lit15 _ hx) (Nat.mod_lt _ (by omega)) (ht _ (Nat.mod_lt _ (by omega))) (half_bits _ hx)
    (u32_lit15 _ hy) (Nat.mod_lt _ (by omega)) (ht _ (Nat.mod_lt _ (by omega))) (half_bits _ hy) hb

/-- The bytes of a list as values. -/
def u8s (l : List Nat) : List Value := l.map fun (b : Nat) => Value.int .u8 (b : Int)
theorem u8s_at {l : List Nat} {k : Nat} {u : Value} (h : (u8s l)[k]? = some u) : ∃ hk : k < l.length, u = .int .u8 ((l[k] : Nat) : Int) := by
  simp only [u8s, List.getElem?_map, Option.map_eq_some_iff] at h
  obtain ⟨a, ha, rfl⟩ := h
  obtain ⟨hk, rfl⟩ := List.getElem?_eq_some_iff.1 ha
  exact ⟨hk, rfl⟩
theorem take_snoc (l : List Nat) (k : Nat) (h : k < l.length) : l.take (k + 1) = l.take k ++ [l[k]] := by
  rw [List.take_succ_eq_append_getElem h]

theorem u32_not (x : Nat) (hx : x < 4294967296) : bits .xor .u32 IntKind.u32.max (x : Int) = ((x ^^^ Crc.ones : Nat) : Int) := by
  have h := u32_xor_nat 4294967295 x (by omega) hx
  rw [show IntKind.u32.max = ((4294967295 : Nat) : Int) from rfl, h, Nat.xor_comm]; rfl

set_option maxHeartbeats 400000 in
theorem update_any (c : Nat) (hc : c < 4294967296) (A : Option Addr) (n cap B : Nat) (l : List Nat) (w : World) (hl : ∀ b ∈ l, b < 256) (hrd : Reads w B 1 A n (u8s l)) (hn : n ≤ 1000000) (ht : Tab w) :
    Calls Tryz.prog 279 #[.int .u32 c, .slice A n cap] w fun e w' => e = .returned (.int .u32 ((Crc.update c l : Nat) : Int)) ∧ w = w' := by
  have HN := Lib.hid (show l.length = n by have := hrd.1; simpa [u8s] using this)
  have HT := Lib.hid ht
  have HL := Lib.hid hl
  have HR := Lib.hid hrd
  obtain ⟨x0, hx0⟩ : ∃ x0, x0 = c ^^^ Crc.ones := ⟨_, rfl⟩
  have e0 : bits .xor .u32 IntKind.u32.max (c : Int) = (x0 : Int) := by rw [hx0]; exact u32_not c hc
  have b0 : x0 < 4294967296 := by rw [hx0]; exact Crc.xor_lt hc (by decide)
  have HX := Lib.hid hx0
  clear ht hl hrd hx0
  go_enter Tryz.func279, Tryz.ntmps279
  go_wp2
  clear e0
  go_loop [5, 12] (fun r i => ∃ k : Nat, k ≤ n ∧ i = .int .i64 k ∧ r = .int .u32 ((Crc.reg x0 (l.take k) : Nat) : Int)) (fun _ i => n - (intOf i).toNat)
  case atStart => exact ⟨0, Nat.zero_le _, rfl, rfl⟩
  case round =>
    obtain ⟨k, hk, rfl, rfl⟩ := hrel
    have hreg : Crc.reg x0 (l.take k) < 4294967296 := Crc.reg_lt b0 (fun b hb => HL.out b (List.mem_of_mem_take hb))
    by_cases hlt : k < n
    · obtain ⟨ad, u, hA, _, hu, hcell⟩ := HR.out.at_ hlt
      obtain ⟨hkl, rfl⟩ := u8s_at hu
      have HS : Hid (Crc.step (Crc.reg x0 (l.take k)) l[k] = Crc.reg x0 (l.take (k + 1))) := by
        rw [take_snoc l k hkl, Crc.reg_snoc]; rfl
      have hb : l[k] < 256 := HL.out _ (List.getElem_mem hkl)
      clear hu
      subst hA
      generalize l[k] = b at *
      generalize hr : Crc.reg x0 (l.take k) = r at *
      have HRr := Lib.hid hr
      clear hr
      go_wp2_with (go_at_call 253; refine (step_any _ _ hreg hb _ HT.out).mono ?_; rintro e w' ⟨rfl, rfl⟩)
      go_round
      case rel => exact ⟨k + 1, by omega, by go_num, by rw [HS.out]⟩
      case measure => simp [intOf]; omega
    · have hkn : k = n := by omega
      have HE : Hid (Crc.reg x0 (l.take k) ^^^ Crc.ones = Crc.update c l) := by
        show _ = _
        rw [List.take_of_length_le (by have := HN.out; omega), HX.out]; rfl
      have e9 := u32_not _ hreg
      generalize Crc.reg x0 (l.take k) ^^^ Crc.ones = z at *
      generalize Crc.reg x0 (l.take k) = r at *
      clear hkn
      go_wp2
      go_ret
      exact ⟨by rw [← HE.out]; rfl, rfl⟩

set_option maxHeartbeats 400000 in
theorem sum_any (A : Option Addr) (n cap B : Nat) (l : List Nat) (w : World) (hl : ∀ b ∈ l, b < 256) (hrd : Reads w B 1 A n (u8s l)) (hn : n ≤ 1000000) (ht : Tab w) :
    Calls Tryz.prog 273 #[.slice A n cap] w fun e w' => e = .returned (.int .u32 ((Crc.sum l : Nat) : Int)) ∧ w = w' := by
  have HL := Lib.hid hl
  have HR := Lib.hid hrd
  have HT := Lib.hid ht
  clear hl hrd ht
  go_enter Tryz.func273, Tryz.ntmps273
  have h := update_any 0 (by omega) A n cap B l w HL.out HR.out hn HT.out
  rw [show ((0 : Nat) : Int) = 0 from rfl] at h
  have HC := Lib.hid h
  clear h
  go_wp2_with (go_at_call 279; refine HC.out.mono ?_; rintro e w' ⟨rfl, rfl⟩)
  go_ret
  exact ⟨rfl, rfl⟩
end Go.Proofs.YtklpeghhgoeeiaaGreatDoor
/- What the rows' proofs share: the tables that the rows list, what comes in, the witness's world. -/
namespace Go.Proofs.YtklpeghhgoeeiaaGreatDoor
open Go.ChangeShapes Go.WideShapes Go.ChangeAt Go.RowKit
theorem ownK : ownKnob Tryz.prog.godebug = none := by kernel_rfl
theorem laidOut : laidOutB Tryz.prog = true := by kernel_rfl
theorem gTab : Tryz.prog.globalNamed "bedrock/crc.nibbles" = some 1 := by kernel_rfl
theorem gTabType : (Tryz.prog.globals[1]?).map (·.type) = some 341 := by kernel_rfl
theorem cellsTab : Tryz.prog.cellsOf 341 = 16 := by kernel_rfl
theorem cellsU32 : Tryz.prog.cellsOf 224 = 1 := by kernel_rfl
def laidList : List (String × DataW Unit) := [("bedrock/crc.nibbles", Rows.laid_bedrock_crc_nibbles), ("bedrock/sizeclass.payload", Rows.laid_bedrock_sizeclass_payload)]
theorem table {W : World} (h : laidMetH Tryz.prog laidList W) : Tab W := by
  have ht : Lib.TabIs Tryz.prog W "bedrock/crc.nibbles" .u32 (Crc.nib.map fun (n : Nat) => (n : Int)) :=
    Lib.tabIs_of_head (rest := [("bedrock/sizeclass.payload", Rows.laid_bedrock_sizeclass_payload)]) gTab gTabType Tryz.underlying341 Tryz.underlying224 cellsU32 cellsTab h
  intro i hi
  have := ht.cell gTab i (by simpa [Crc.nib] using hi)
  rw [this]
  have hl : i < Crc.nib.length := by simpa [Crc.nib] using hi
  simp [List.getD, hl]
def nibObj : Obj → Obj
  | .cells _ t frozen => .cells (Crc.nib.map fun (n : Nat) => Value.int .u32 (n : Int)).toArray t frozen
  | o => o
def payObj : Obj → Obj
  | .cells _ t frozen => .cells #[.int .i64 3, .int .i64 7, .int .i64 15, .int .i64 31, .int .i64 60] t frozen
  | o => o
/-- A world for the witness: the settled one, the tables holding what their initialisers lay. -/
noncomputable def laidWorld (os : Os) : World :=
  { World.holding Tryz.prog os ⟨#[], #[], []⟩ with heap := ((World.holding Tryz.prog os ⟨#[], #[], []⟩).heap.modify 1 nibObj).modify 0 payObj }
section
variable {H : Type} {enc : TypeId × Value → H} {W : World} {b0 base : Nat} {sp : Nat → Bool} {held : Bool} {v : Value} {d : DataW H} {p : List MemPlace} {r : Reach}
set_option maxRecDepth 100000 in
theorem int_of (hv : Value.okWide Tryz.prog W r b0 3 v) (h : DataW.Trod enc Tryz.prog W base sp held 3 v d p) : ∃ n : Int, v = .int .i64 n ∧ (Lit.int .i64 n).wf = true := by
  obtain ⟨n, hs, _, _, hw⟩ := open_int Tryz.underlying3 hv h
  exact ⟨n, hs, hw⟩
set_option maxRecDepth 100000 in
theorem u8_of (hv : Value.okWide Tryz.prog W r b0 5 v) (h : DataW.Trod enc Tryz.prog W base sp held 5 v d p) : ∃ n : Nat, v = .int .u8 (n : Int) ∧ n < 256 := by
  obtain ⟨n, hs, _, _, hw⟩ := open_int Tryz.underlying5 hv h
  have hb : 0 ≤ n ∧ n < 256 := by
    have hm : IntKind.u8.min = 0 := by decide
    have hx : IntKind.u8.max = 255 := by decide
    simp only [Lit.wf, hm, hx, Bool.and_eq_true, decide_eq_true_eq] at hw
    omega
  exact ⟨n.toNat, by rw [Int.toNat_of_nonneg hb.1]; exact hs, by omega⟩
set_option maxRecDepth 100000 in
theorem u64_of (hv : Value.okWide Tryz.prog W r b0 35 v) (h : DataW.Trod enc Tryz.prog W base sp held 35 v d p) : ∃ n : Nat, v = .int .u64 (n : Int) ∧ n < 18446744073709551616 := by
  obtain ⟨n, hs, _, _, hw⟩ := open_int Tryz.underlying35 hv h
  have hb : 0 ≤ n ∧ n < 18446744073709551616 := by
    have hm : IntKind.u64.min = 0 := by decide
    have hx : IntKind.u64.max = 18446744073709551615 := by decide
    simp only [Lit.wf, hm, hx, Bool.and_eq_true, decide_eq_true_eq] at hw
    omega
  exact ⟨n.toNat, by rw [Int.toNat_of_nonneg hb.1]; exact hs, by omega⟩
set_option maxRecDepth 100000 in
theorem bool_of (hv : Value.okWide Tryz.prog W r b0 4 v) (h : DataW.Trod enc Tryz.prog W base sp held 4 v d p) : ∃ b : Bool, v = .bool b := by
  obtain ⟨b, hs, _⟩ := open_bool Tryz.underlying4 hv h
  exact ⟨b, hs⟩
end
end Go.Proofs.YtklpeghhgoeeiaaGreatDoor
/- chunk: seal, word, Clear. -/
namespace Go.Proofs.YtklpeghhgoeeiaaGreatDoor
open Go.RowKit
/-- A half word with its checksum. -/
def sealB (x : Nat) : List Nat := [x % 256, x / 256 % 256, x / 65536 % 256, x / 16777216 % 256]
def sealW (x : Nat) : Nat := Crc.sum (sealB x) * 4294967296 + x
theorem sealB_lt (x : Nat) : ∀ b ∈ sealB x, b < 256 := by
  intro b hb
  simp only [sealB, List.mem_cons, List.not_mem_nil, or_false] at hb
  omega
theorem sealW_lt (x : Nat) (hx : x < 4294967296) : sealW x < 18446744073709551616 := by
  have := Crc.sum_lt (sealB_lt x)
  unfold sealW
  omega
theorem seal_or (s x : Nat) (hs : s < 4294967296) (hx : x < 4294967296) : bits .or .u64 ((s : Int) * 4294967296) (x : Int) = ((s * 4294967296 + x : Nat) : Int) := by
  rw [show (s : Int) * 4294967296 = ((s * 4294967296 : Nat) : Int) by omega]
  rw [u64_or_nat _ _ (by omega) (by omega)]
  congr 1
  have := Nat.two_pow_add_eq_or_of_lt (i := 32) (b := x) hx s
  rw [Nat.mul_comm s, show (4294967296 : Nat) = 2 ^ 32 from rfl, ← this]
set_option maxRecDepth 100000 in
set_option maxHeartbeats 4000000 in
theorem seal_any (x : Nat) (hx : x < 4294967296) (w : World) (ht : Tab w) :
    Calls Tryz.prog 252 #[.int .u32 (x : Int)] w fun e w' => e = .returned (.int .u64 (sealW x : Int)) ∧ Below w.heap.size w w' := by
  have HS := Lib.hid (fun (W : World) (hW : Below w.heap.size w W) (B : Nat) h => sum_any (some ⟨w.heap.size, 0, none⟩) 4 4 B (sealB x) W (sealB_lt x) h (by omega) (ht.below hW))
  have hsl := Crc.sum_lt (sealB_lt x)
  have HB : Hid (sealB x = [x % 256, x / 256 % 256, x / 65536 % 256, x / 16777216 % 256]) := rfl
  have e0 : IntKind.u8.wrap (x : Int) = ((x % 256 : Nat) : Int) := by rw [IntKind.wrap_u8]; omega
  have e1 : IntKind.u8.wrap ((x : Int) / 256) = ((x / 256 % 256 : Nat) : Int) := by rw [IntKind.wrap_u8]; omega
  have e2 : IntKind.u8.wrap ((x : Int) / 65536) = ((x / 65536 % 256 : Nat) : Int) := by rw [IntKind.wrap_u8]; omega
  have e3 : IntKind.u8.wrap ((x : Int) / 16777216) = ((x / 16777216 % 256 : Nat) : Int) := by rw [IntKind.wrap_u8]; omega
  have e4 : bits .or .u64 ((Crc.sum (sealB x) : Int) * 4294967296) (x : Int) = (sealW x : Int) := seal_or _ x hsl hx
  generalize sealW x = z at *
  generalize Crc.sum (sealB x) = s at *
  generalize sealB x = l at *
  generalize x % 256 = b0 at *
  generalize x / 256 % 256 = b1 at *
  generalize x / 65536 % 256 = b2 at *
  generalize x / 16777216 % 256 = b3 at *
  have u1 : IntKind.u64.wrap (s : Int) = (s : Int) := by rw [IntKind.wrap_u64]; omega
  have u2 : IntKind.u64.wrap (x : Int) = (x : Int) := by rw [IntKind.wrap_u64]; omega
  have u3 : IntKind.u64.wrap ((s : Int) * 4294967296) = (s : Int) * 4294967296 := by rw [IntKind.wrap_u64]; omega
  clear ht
  go_enter Tryz.func252, Tryz.ntmps252
  go_wp2_with (go_at_call 273; refine (HS.out _ ((Below.refl _ _).alloc (Nat.le_refl _) _) (w.heap.size + 1) (by rw [HB.out]; exact row_reads_at w _ rfl _ 4 1 5 _ rfl rfl)).mono ?_; rintro e w1 ⟨rfl, rfl⟩)
  go_ret
  exact ⟨rfl, (Below.refl _ _).alloc (Nat.le_refl _) _⟩
end Go.Proofs.YtklpeghhgoeeiaaGreatDoor
/- chunk: word of an empty header, Clear. -/
namespace Go.Proofs.YtklpeghhgoeeiaaGreatDoor
open Go.RowKit
/-- The word of a chunk that is not divided. -/
def freeW (o : Nat) : Nat := sealW (3305111552 + o)
theorem own_or (o : Nat) (ho : o < 65536) : bits .or .u32 (o : Int) 3305111552 = ((3305111552 + o : Nat) : Int) := by
  have h := u32_or_nat o 3305111552 (by omega) (by omega)
  rw [show ((3305111552 : Nat) : Int) = 3305111552 from rfl] at h
  rw [h]
  congr 1
  have := Nat.two_pow_add_eq_or_of_lt (i := 16) (b := o) (by omega) 50432
  rw [show 2 ^ 16 * 50432 = 3305111552 from rfl] at this
  rw [Nat.or_comm, ← this]
set_option maxRecDepth 100000 in
set_option maxHeartbeats 4000000 in
theorem wordFree_any (o : Nat) (ho : o < 65536) (w : World) (ht : Tab w) :
    Calls Tryz.prog 214 #[.agg #[.int .i64 (-1), .int .i64 (-1), .int .u16 (o : Int)]] w fun e w' => e = .returned (.int .u64 (freeW o : Int)) ∧ Below w.heap.size w w' := by
  have HB0 : Hid (∀ x, Below w.heap.size w (w.alloc x)) := fun x => (Below.refl _ _).alloc (Nat.le_refl _) x
  have HS := Lib.hid (fun x => seal_any (3305111552 + o) (by omega) (w.alloc x) (ht.below (HB0.out x)))
  have e1 := own_or o ho
  have u1 : IntKind.u32.wrap (o : Int) = (o : Int) := by rw [IntKind.wrap_u32']; omega
  unfold freeW
  generalize 3305111552 + o = z at *
  clear ht
  go_enter Tryz.func214, Tryz.ntmps214
  go_wp2_with (go_at_call 252; refine (HS.out _).mono ?_; rintro e w1 ⟨rfl, hb1⟩; have HB1 := Lib.hid ((HB0.out _).trans (hb1.mono (by simp))); clear hb1)
  go_ret
  exact ⟨rfl, HB1.out⟩
/-- A program and no error. -/
def RetProgOk (w : World) (P : List Ins → Prop) (e : Ending) (w' : World) : Prop := ∃ A m c p, e = .returned (.tuple #[.slice A m c, .int .i64 0]) ∧ P p ∧ w'.ownsRow w.heap.size 178 3 (.slice A m c) m (insCells p) ∧ Below w.heap.size w w'
set_option maxRecDepth 100000 in
set_option maxHeartbeats 4000000 in
theorem clear_any (c o : Nat) (hc : c ≤ 4064) (ho : o < 65536) (h0 : o ≠ 0) (w : World) (ht : Tab w) :
    Calls Tryz.prog 174 #[.int .i64 (c : Int), .int .u16 (o : Int)] w (RetProgOk w (IsStores [(64 * c, freeW o)])) := by
  have HT := Lib.hid ht
  have d1 : decide ((0 : Int) ≤ (c : Int)) = true := decide_eq_true (by omega)
  have d2 : decide ((c : Int) ≤ 4064) = true := decide_eq_true (by omega)
  have d3 : ((o : Int) == 0) = false := by rw [beq_eq_false_iff_ne]; omega
  have u1 : IntKind.u64.wrap (c : Int) = (c : Int) := by rw [IntKind.wrap_u64]; omega
  have hfl : 64 * c < 18446744073709551616 := by omega
  have u2 : IntKind.u64.wrap ((c : Int) * 64) = ((64 * c : Nat) : Int) := by rw [IntKind.wrap_u64]; omega
  generalize 64 * c = z at *
  clear ht
  go_enter Tryz.func174, Tryz.ntmps174
  go_wp2
  have HC := Lib.hid (Blk.new w 213 #[.int .i64 (-1), .int .i64 (-1), .int .u16 (o : Int)])
  have HB0 : Hid (Below w.heap.size w (w.alloc (.cells #[.int .i64 (-1), .int .i64 (-1), .int .u16 (o : Int)] 213))) := (Below.refl _ _).alloc (Nat.le_refl _) _
  generalize w.alloc (.cells #[.int .i64 (-1), .int .i64 (-1), .int .u16 (o : Int)] 213) = W at *
  have HBD : Hid (Below W.heap.size W W.drew) := (Below.refl _ _).drew
  refine wp_region_script (fun w' => Below W.heap.size W w') 4 [(true, 0), (true, 2), (false, 1), (false, 3)] (by kernel_rfl) (by kernel_rfl) HBD.out ?_
  refine wpScript_take (.int .i64 (c : Int)) (by rfl) (by rfl) (fun w' hS => ?_) ?_
  · go_simp
  simp only [List.getElem_toArray, List.getElem_cons_zero, Act.put, List.setIfInBounds_toArray, List.set_cons_zero, List.set_cons_succ]
  refine wpScript_take (.agg #[.int .i64 (-1), .int .i64 (-1), .int .u16 (o : Int)]) (by rfl) (by rfl) (fun w' hS => ?_) ?_
  · have f0 : w'.cell? ⟨w.heap.size, 0, none⟩ = some (.int .i64 (-1)) := (HC.out.below hS HC.out.lt).cell 0
    have f1 : w'.cell? ⟨w.heap.size, 1, none⟩ = some (.int .i64 (-1)) := (HC.out.below hS HC.out.lt).cell 1
    have f2 : w'.cell? ⟨w.heap.size, 2, none⟩ = some (.int .u16 (o : Int)) := (HC.out.below hS HC.out.lt).cell 2
    go_simp
  simp only [List.getElem_toArray, List.getElem_cons_zero, List.getElem_cons_succ, Act.put, List.setIfInBounds_toArray, List.set_cons_zero, List.set_cons_succ]
  refine wpScript_do (by rfl) ?_
  go_wp2
  refine ⟨HBD.out, ?_⟩
  refine wpScript_do (by rfl) ?_
  go_wp2_with fail
  refine (wordFree_any o ho W.drew ((HT.out.below HB0.out).below HBD.out)).mono ?_
  rintro e w1 ⟨rfl, hb1⟩
  have HB1 := Lib.hid (HBD.out.trans (hb1.mono HBD.out.size))
  have HS := Lib.hid (stores_small _ 1 1 _ _ (one_reads w1 z (freeW o)) (by omega) (by omega) (fun e he => by simp at he; subst he; exact hfl))
  have HB2 : Hid (∀ x, Below w.heap.size w (w1.alloc x)) := fun x => ((HB0.out.trans (HB1.out.mono HB0.out.size)).alloc (Nat.le_trans HB0.out.size HB1.out.size) x)
  generalize freeW o = y at *
  clear hb1
  go_wp2_with fail
  refine ⟨HB1.out, ?_⟩
  show wpList ..
  simp only [List.drop_succ_cons, List.drop_zero]
  go_wp2_with (go_at_call 66; refine HS.out.mono ?_; intro e w2 h1; have h2 := RetProg.back (HB2.out _) h1; obtain ⟨A1, m1, c1, p1, rfl, hp1, ho1, hb1⟩ := h2; have HP1 := Lib.hid hp1; have HO1 := Lib.hid ho1; have HB1 := Lib.hid hb1; clear h1 hp1 ho1 hb1)
  refine NoPanic.normal ?_
  go_wp2
  go_ret2
  exact ⟨_, _, _, _, rfl, HP1.out, HO1.out, HB1.out⟩
end Go.Proofs.YtklpeghhgoeeiaaGreatDoor
/- arena: valid, Format. -/
namespace Go.Proofs.YtklpeghhgoeeiaaGreatDoor
open Go.RowKit
set_option maxRecDepth 100000 in
set_option maxHeartbeats 4000000 in
theorem arenaValid_any {a : DA} {L T : Nat} {w : World} {S : Fp} {cur : Nat → Nat} {F : Nat} (h : Dev a L T w S cur F) (s n : Nat) (hn : 32 ≤ n) (hs : s + n ≤ L) :
    Calls Tryz.prog 173 #[memV a, .int .i64 (s : Int), .int .i64 (n : Int)] w fun e w' => e = .returned (.bool true) ∧ w = w' := by
  obtain ⟨ls, exe, per, cs, lsC, hdc, hnt⟩ := h
  have hL := hdc.hL
  obtain ⟨f0, f2, _, _, _⟩ := hdc.facts (j := 0) (by omega)
  clear hdc hnt
  have hq := eqMem (some ⟨a.th 0, 0, none⟩)
  have hmS := methSize (some ⟨a.th 0, 0, none⟩)
  unfold memV
  have e1 : decide ((s : Int) < 0) = false := decide_eq_false (by omega)
  have e2 : decide ((n : Int) < 32) = false := decide_eq_false (by omega)
  have u1 : IntKind.u64.wrap ((L : Int) * 64) = (L : Int) * 64 := by rw [IntKind.wrap_u64]; omega
  have u2 : IntKind.u64.wrap (n : Int) = (n : Int) := by rw [IntKind.wrap_u64]; omega
  have u3 : IntKind.u64.wrap (s : Int) = (s : Int) := by rw [IntKind.wrap_u64]; omega
  have u4 : IntKind.u64.wrap ((L : Int) - (s : Int)) = (L : Int) - (s : Int) := by rw [IntKind.wrap_u64]; omega
  have d1 : ((L : Int) * 64).tdiv 64 = (L : Int) := by rw [Int.mul_tdiv_cancel _ (by decide)]
  have d2 : (n : Int).tdiv 32 = (n : Int) / 32 := by rw [Int.tdiv_eq_ediv_of_nonneg (by omega)]
  have e3 : decide ((L : Int) < (s : Int)) = false := decide_eq_false (by omega)
  have e4 : decide ((L : Int) - (s : Int) < (n : Int)) = false := decide_eq_false (by omega)
  have u5 : IntKind.u64.wrap ((n : Int) / 32) = (n : Int) / 32 := by rw [IntKind.wrap_u64]; omega
  have u6 : IntKind.u64.wrap ((n : Int) / 32 * 32) = (n : Int) / 32 * 32 := by rw [IntKind.wrap_u64]; omega
  have u7 : IntKind.u64.wrap ((s : Int) + (n : Int) / 32 * 32) = (s : Int) + (n : Int) / 32 * 32 := by rw [IntKind.wrap_u64]; omega
  have e5 : decide ((s : Int) + (n : Int) / 32 * 32 ≤ 4096) = true := decide_eq_true (by omega)
  go_enter Tryz.func173, Tryz.ntmps173
  go_wp2
  go_ret
  exact ⟨rfl, rfl⟩
/-- The words behind the formatting of k chunks. -/
def arC (cur : Nat → Nat) (s : Nat) : Nat → Nat → Nat
  | 0 => cur
  | k + 1 => wrS (arC cur s k) [(64 * (s + 32 * k), freeW 1)]
def AreI (a : DA) (L T : Nat) (w wr : World) (S : Fp) (cur : Nat → Nat) (s k : Nat) : Prop := ∃ S', Dev a L (T + 3 * k) wr S' (arC cur s k) 0 ∧ Chg S w wr ∧ Grew S S' w
theorem freeW_lt (o : Nat) (ho : o < 65536) : freeW o < 18446744073709551616 := sealW_lt _ (by omega)
set_option maxRecDepth 100000 in
set_option maxHeartbeats 4000000 in
theorem arenaFormat_any {a : DA} {L T : Nat} {w : World} {S : Fp} {cur : Nat → Nat} (h : Dev a L T w S cur 0) (ht : Tab w) (hg : ¬ S 1) (s n K : Nat) (hn : 32 ≤ n) (hs : s + n ≤ L) (hK : n / 32 = K) (hT : T + 3 * K ≤ 1000000000) :
    Calls Tryz.prog 107 #[memV a, .int .i64 (s : Int), .int .i64 (n : Int)] w (RetDev a L (T + 3 * K) w S (arC cur s K) 0 (.int .i64 0)) := by
  have HV := Lib.hid (arenaValid_any h s n hn hs)
  have HI0 : Hid (AreI a L T w w S cur s 0) := ⟨S, h, Chg.refl _ _, Grew.refl _ _⟩
  have HG := Lib.hid hg
  have HT := Lib.hid ht
  obtain ⟨ls, exe, per, cs, lsC, hdc, hnt⟩ := h
  have hL := hdc.hL
  obtain ⟨f0, _, _, _, g2⟩ := hdc.facts (j := 0) (by omega)
  have hmE := methErr (some ⟨a.th 0, 0, none⟩)
  have d2 : (n : Int).tdiv 32 = (K : Int) := by rw [Int.tdiv_eq_ediv_of_nonneg (by omega)]; omega
  have d3 : (n : Int) / 32 = (K : Int) := by omega
  have hK32 : K * 32 ≤ n := by omega
  clear hdc hnt ht hg hK
  unfold memV at *
  go_enter Tryz.func107, Tryz.ntmps107
  go_wp2_with (first
    | (go_at_call 173; refine HV.out.mono ?_; rintro e w1 ⟨rfl, rfl⟩)
    | go_in)
  clear f0 g2 HV
  go_loopw [24] (fun i wr => ∃ (k : Nat), k ≤ K ∧ i = .int .i64 k ∧ Hid (AreI a L T w wr S cur s k)) (fun i _ => K - (intOf i).toNat)
  case atStart => exact ⟨0, Nat.zero_le _, rfl, HI0⟩
  case round =>
    clear HI0
    obtain ⟨k, hk, rfl, H⟩ := hrel
    by_cases hlt : k < K
    · obtain ⟨S1, hd, hc, hgr⟩ := H.out
      have HC := Lib.hid (clear_any (s + 32 * k) 1 (by omega) (by omega) (by omega) wr (HT.out.chg hc HG.out))
      have HR : Hid (∀ (A : Option Addr) (m c : Nat) (p : List Ins) (w1 : World), IsStores [(64 * (s + 32 * k), freeW 1)] p → w1.ownsRow wr.heap.size 178 3 (.slice A m c) m (insCells p) → Below wr.heap.size wr w1 →
          Calls Tryz.prog 45 #[.slice A m c, memV a] w1 (fun e w2 => e = .returned (.int .i64 0) ∧ AreI a L T w w2 S cur s (k + 1))) := fun A m c p w1 hp ho hb => by
        refine (run_stores (hd.below hb) ho hd.lt hp (fun e he => by simp only [List.mem_singleton] at he; subst he; exact ⟨by omega, by omega, freeW_lt 1 (by omega)⟩) (by simp) (by simp; omega)).mono ?_
        intro e w2 h2
        obtain ⟨he, S2, hd2, hc2, hg2⟩ := RetDev.then_ hc hgr (RetDev.back hb h2)
        exact ⟨he, S2, hd2.more (by simp; omega) (by omega), hc2, hg2⟩
      have e7 : ((s + 32 * k : Nat) : Int) = (s : Int) + (k : Int) * 32 := by omega
      rw [e7] at HC
      generalize 64 * (s + 32 * k) = z at *
      clear hd hc hgr e7 H
      unfold memV at *
      go_wp2_with (first
        | (go_at_call 174; refine HC.out.mono ?_; rintro e w1 ⟨A1, m1, c1, p1, rfl, hp1, ho1, hb1⟩; have HRR := Lib.hid (HR.out A1 m1 c1 p1 w1 hp1 ho1 hb1); clear hp1 ho1 hb1)
        | (go_at_call 45; refine HRR.out.mono ?_; rintro e w2 ⟨rfl, h2⟩; have HZ := Lib.hid h2; clear h2)
        | go_in)
      go_roundw
      case rel =>
        repeat apply Exists.intro
        refine ⟨?_, rfl⟩
        exact ⟨k + 1, by omega, by go_num, HZ⟩
      case measure => simp [intOf]; omega
    · obtain rfl : k = K := by omega
      obtain ⟨S1, hd, hc, hgr⟩ := H.out
      have HZ := Lib.hid (show ∃ S', Dev a L (T + 3 * k) wr S' (arC cur s k) 0 ∧ Chg S w wr ∧ Grew S S' w from H.out)
      obtain ⟨ls, exe, per, cs, lsC, hdc, hnt⟩ := hd
      obtain ⟨f0, _, _, _, g2⟩ := hdc.facts (j := 0) (by omega)
      clear hdc hnt hc hgr H
      go_wp2
      go_ret
      exact ⟨rfl, HZ.out⟩
end Go.Proofs.YtklpeghhgoeeiaaGreatDoor
/- slices.Clone of words. -/
namespace Go.Proofs.YtklpeghhgoeeiaaGreatDoor
open Go.RowKit
set_option maxRecDepth 100000 in
set_option maxHeartbeats 8000000 in
theorem cloneU_any (ad : Addr) (n c : Nat) (l : List Nat) (w : World) (h : Reads w w.heap.size 1 (some ad) n (uCells l)) (hn : n ≤ 100000) :
    Calls Tryz.prog 166 #[.slice (some ad) n c] w (fun e w' => ∃ A' m' c', e = .returned (.slice A' m' c') ∧ m' = n ∧ w'.ownsRow w.heap.size 35 1 (.slice A' m' c') m' (uCells l) ∧ Below w.heap.size w w') := by
  have H := Lib.hid h
  clear h
  have hnil : ∀ W, (binOp .eql 57 (.slice (some ad) n c) (.slice none 0 0)).run Tryz.prog W = .ok (.bool false) W := fun W => Lib.run_eql_slice_some_nil W _ _ _ Tryz.underlying57
  obtain ⟨i0, hi0, hz0, hz1, hz2⟩ := info_parts infoU64
  have HO : Hid ((w.alloc (.cells #[] 35)).ownsRow w.heap.size 35 1 (.slice (some ⟨w.heap.size, 0, none⟩) 0 0) 0 []) := World.ownsRow_made w #[] 0 (Nat.le_refl _) (by unfold maxLen; omega) (by simp)
  go_enter Tryz.func166, Tryz.ntmps166
  go_wp2_with (at_builtin; refine wpList_app _ (.tmp 5) (.tmp 6) 57 rfl rfl w.heap.size 35 i0 _ 1 8 Tryz.underlying57 hi0 hz0 hz1 hz2 rfl ?q1 (.slice (some ⟨w.heap.size, 0, none⟩) 0 0) 0 [] rfl HO.out w.heap.size (some ad) n c (uCells l) rfl ?q5 ?q6 ?q2 ?q3 ?q4 ?_; (case q1 => omega); (case q5 => exact H.out.alloc (Nat.le_refl _) _); (case q6 => exact uCells_one l); (case q2 => (unfold maxLen; omega)); (case q3 => omega); (case q4 => (simp)); intro A3 n3 c3 w8 hn3 ho3 hg3 hb3; have HN3 := Lib.hid hn3; have HO3 := Lib.hid ho3; have HB3 := Lib.hid (((Below.refl _ w).alloc (Nat.le_refl _) _).trans hb3); clear hn3 ho3 hg3 hb3)
  go_ret
  refine ⟨_, _, _, rfl, HN3.out.trans (Nat.zero_add _), ?_, HB3.out⟩
  have := HO3.out
  rw [List.nil_append] at this
  exact this
end Go.Proofs.YtklpeghhgoeeiaaGreatDoor
/- device.of, device.New. -/
namespace Go.Proofs.YtklpeghhgoeeiaaGreatDoor
open Go.RowKit
theorem infoLine : (Tryz.prog.info? 239).map (fun i => (i.zero, i.size, i.bytes)) = some (some (.agg #[.int .u64 0, .slice none 0 0]), 2, 32) := by kernel_rfl
/-- Behind the making of the parts. -/
def Of1 (w wx : World) (pb L : Nat) (v : Value) : Prop := ∃ d cb cc lb cs ls, v = .pointer (some ⟨d, 0, none⟩) ∧ Blk wx d 138 #[.slice (some ⟨pb, 0, none⟩) (8 * L) (8 * L), .slice (some ⟨cb, 0, none⟩) (8 * L) cc, .slice (some ⟨lb, 0, none⟩) L L, .pointer none, .pointer none, .pointer none, .pointer none, .pointer none, .pointer none, .pointer none, .pointer none, .bool false, .bool false, .int .i64 0, .int .u64 0] ∧
  Blk wx cb 35 cs ∧ cs.size = cc ∧ 8 * L ≤ cc ∧ cc ≤ 9223372036854775807 ∧ RowU cs (List.replicate (8 * L) 0) ∧ Blk wx lb 239 ls ∧ ls = madeCells (Value.agg #[.int .u64 0, .slice none 0 0]).cells (L * 2) ∧ Below w.heap.size w wx ∧ w.heap.size ≤ cb ∧ w.heap.size ≤ lb ∧ w.heap.size ≤ d
theorem Blk.new2 (w : World) (o : Obj) (t : TypeId) (cs : Array Value) : Blk ((w.alloc o).alloc (.cells cs t)) (w.heap.size + 1) t cs := by
  have h := Blk.new (w.alloc o) t cs
  rw [show (w.alloc o).heap.size = w.heap.size + 1 by simp] at h
  exact h
theorem of_join {w wx : World} {pb L d lb m1 c1 : Nat} {A1 : Option Addr} (h0 : 0 < L) (hd : Blk wx d 138 #[.slice (some ⟨pb, 0, none⟩) (8 * L) (8 * L), .slice A1 m1 c1, .slice (some ⟨lb, 0, none⟩) L L, .pointer none, .pointer none, .pointer none, .pointer none, .pointer none, .pointer none, .pointer none, .pointer none, .bool false, .bool false, .int .i64 0, .int .u64 0]) (ho : wx.ownsRow w.heap.size 35 1 (.slice A1 m1 c1) m1 (uCells (List.replicate (8 * L) 0))) (hm : m1 = 8 * L)
    (hl : Blk wx lb 239 (madeCells (Value.agg #[.int .u64 0, .slice none 0 0]).cells (L * 2))) (hb : Below w.heap.size w wx) (h1 : w.heap.size ≤ lb) (h2 : w.heap.size ≤ d) : Of1 w wx pb L (.pointer (some ⟨d, 0, none⟩)) := by
  obtain ⟨g, cap, hve, hgb, hglt⟩ := ho.form (by omega)
  have hA : A1 = some ⟨g, 0, none⟩ := by injection hve
  subst hA
  obtain ⟨cur, hcb, hcs, hru, hxl⟩ := own_row ho
  have hcap := own_cap ho
  subst hm
  exact ⟨d, g, c1, lb, cur, _, rfl, hd, hcb, hcs, by omega, by omega, hru, hl, rfl, hb, hgb, h1, h2⟩
/-- While the threads are made. -/
structure OfI (w wr : World) (pb L d cb cc lb : Nat) (cs ls : Array Value) (th nt : Nat → Nat) (k : Nat) : Prop where
  dev : ∃ dc, Blk wr d 138 dc ∧ dc.size = 15 ∧ dc[0]? = some (.slice (some ⟨pb, 0, none⟩) (8 * L) (8 * L)) ∧ dc[1]? = some (.slice (some ⟨cb, 0, none⟩) (8 * L) cc) ∧ dc[2]? = some (.slice (some ⟨lb, 0, none⟩) L L) ∧ dc[11]? = some (.bool false) ∧ dc[12]? = some (.bool false) ∧ dc[13]? = some (.int .i64 0) ∧ dc[14]? = some (.int .u64 0) ∧ ∀ j, j < k → dc[3 + j]? = some (.pointer (some ⟨th j, 0, none⟩))
  cur : Blk wr cb 35 cs
  lin : Blk wr lb 239 ls
  thr : ∀ j, j < k → Blk wr (th j) 141 #[.pointer (some ⟨d, 0, none⟩), .int .i64 (j : Int), .int .i64 0, .map (some (nt j))]
  map : 0 < k → wr.ownsMap Tryz.prog 3 (plainElem Tryz.prog 35) (nt 0) 0 (.map ([] : List (Lit × DataW Unit)))
  below : Below w.heap.size w wr
  gd : w.heap.size ≤ d
  gt : ∀ j, j < k → w.heap.size ≤ th j ∧ w.heap.size ≤ nt j
theorem ofStep {w wr : World} {pb L d cb cc lb : Nat} {cs ls : Array Value} {th nt : Nat → Nat} {k : Nat} (H : OfI w wr pb L d cb cc lb cs ls th nt k) (hk : k < 8) :
    OfI w (((wr.setCell ⟨d, 3 + k, none⟩ (.pointer (some ⟨wr.heap.size + 1, 0, none⟩))).alloc (.map #[] 0)).alloc (.cells #[.pointer (some ⟨d, 0, none⟩), .int .i64 (k : Int), .int .i64 0, .map (some wr.heap.size)] 141)) pb L d cb cc lb cs ls (fun j => if j = k then wr.heap.size + 1 else th j) (fun j => if j = k then wr.heap.size else nt j) (k + 1) := by
  obtain ⟨⟨dc, hd, hds, e0, e1, e2, e3, e4, e5, e6, e7⟩, hcu, hli, hth, hmp, hbl, hgd, hgt⟩ := H
  have hs : (wr.setCell ⟨d, 3 + k, none⟩ (.pointer (some ⟨wr.heap.size + 1, 0, none⟩))).heap.size = wr.heap.size := by simp
  have hc : Chg (fun g => g = d) wr (((wr.setCell ⟨d, 3 + k, none⟩ (.pointer (some ⟨wr.heap.size + 1, 0, none⟩))).alloc (.map #[] 0)).alloc (.cells #[.pointer (some ⟨d, 0, none⟩), .int .i64 (k : Int), .int .i64 0, .map (some wr.heap.size)] 141)) := (((Chg.refl (fun g => g = d) wr).setCell (p := ⟨d, 3 + k, none⟩) (.inl rfl) _).alloc _).alloc _
  refine ⟨⟨_, ((hd.set_ (3 + k) _).alloc _).alloc _, by simpa using hds, ?_, ?_, ?_, ?_, ?_, ?_, ?_, ?_⟩, hc.blk hcu (fun e => hcu.ne_ hd (by decide) e), hc.blk hli (fun e => hli.ne_ hd (by decide) e), ?_, ?_, ?_, hgd, ?_⟩
  · rw [Array.getElem?_setIfInBounds_ne (by omega)]; exact e0
  · rw [Array.getElem?_setIfInBounds_ne (by omega)]; exact e1
  · rw [Array.getElem?_setIfInBounds_ne (by omega)]; exact e2
  · rw [Array.getElem?_setIfInBounds_ne (by omega)]; exact e3
  · rw [Array.getElem?_setIfInBounds_ne (by omega)]; exact e4
  · rw [Array.getElem?_setIfInBounds_ne (by omega)]; exact e5
  · rw [Array.getElem?_setIfInBounds_ne (by omega)]; exact e6
  · intro j hj
    by_cases hjk : j = k
    · subst hjk
      rw [Array.getElem?_setIfInBounds_self_of_lt (by omega)]
      simp
    · rw [Array.getElem?_setIfInBounds_ne (by omega), e7 j (by omega)]
      simp [hjk]
  · intro j hj
    by_cases hjk : j = k
    · subst hjk
      have h := Blk.new2 (wr.setCell ⟨d, 3 + j, none⟩ (.pointer (some ⟨wr.heap.size + 1, 0, none⟩))) (.map #[] 0) 141 #[.pointer (some ⟨d, 0, none⟩), .int .i64 (j : Int), .int .i64 0, .map (some wr.heap.size)]
      rw [hs] at h
      simpa using h
    · have h := hc.blk (hth j (by omega)) (fun e => (hth j (by omega)).ne_ hd (by decide) e)
      simpa [hjk] using h
  · intro _
    by_cases hk0 : 0 = k
    · subst hk0
      have h := World.ownsMap_made (H := Unit) (wr.setCell ⟨d, 3 + 0, none⟩ (.pointer (some ⟨wr.heap.size + 1, 0, none⟩))) Tryz.prog 3 (plainElem Tryz.prog 35)
      rw [hs] at h
      have h2 := ((Chg.refl Fp.no _).alloc (.cells #[.pointer (some ⟨d, 0, none⟩), .int .i64 ((0 : Nat) : Int), .int .i64 0, .map (some wr.heap.size)] 141)).map h (fun h => h)
      simpa using h2
    · have h := hc.map (hmp (by omega)) (fun e => map_ne_blk (hmp (by omega)) hd e)
      simpa [hk0] using h
  · have h1 := (hbl.setCell (p := ⟨d, 3 + k, none⟩) hgd (.pointer (some ⟨wr.heap.size + 1, 0, none⟩)))
    exact (h1.alloc h1.size _).alloc (Nat.le_trans h1.size (by simp)) _
  · intro j hj
    have := hbl.size
    by_cases hjk : j = k
    · simp [hjk]; omega
    · simpa [hjk] using hgt j (by omega)
/-- Behind device.of. -/
def RetOf (w : World) (pb L : Nat) (e : Ending) (w' : World) : Prop := ∃ (d cb cc lb : Nat) (cs ls : Array Value) (th nt : Nat → Nat), e = .returned (.pointer (some ⟨d, 0, none⟩)) ∧ OfI w w' pb L d cb cc lb cs ls th nt 8 ∧ cs.size = cc ∧ 8 * L ≤ cc ∧ cc ≤ 9223372036854775807 ∧ RowU cs (List.replicate (8 * L) 0) ∧ ls = madeCells (Value.agg #[.int .u64 0, .slice none 0 0]).cells (L * 2) ∧ w.heap.size ≤ cb ∧ w.heap.size ≤ lb
set_option maxRecDepth 100000 in
set_option maxHeartbeats 8000000 in
theorem of_any (pb L : Nat) (hL : L ≤ 4096) (h0 : 0 < L) (w : World) (hp : Reads w w.heap.size 1 (some ⟨pb, 0, none⟩) (8 * L) (uCells (List.replicate (8 * L) 0))) :
    Calls Tryz.prog 104 #[.slice (some ⟨pb, 0, none⟩) (8 * L) (8 * L)] w (RetOf w pb L) := by
  obtain ⟨j0, hj0, hk0, hk1, hk2⟩ := info_parts infoLine
  have hmk : ∀ W : World, (Instr.makeSlice 135 (.int .i64 (L : Int)) (.int .i64 (L : Int))).run Tryz.prog W = .ok (.slice (some ⟨W.heap.size, 0, none⟩) L L) (W.alloc (.cells (madeCells (Value.agg #[.int .u64 0, .slice none 0 0]).cells (L * 2)) 239)) := fun W => by
    have h := run_makeSlice (P := Tryz.prog) W 135 239 j0 _ Tryz.underlying135 hj0 hk0 .i64 .i64 (L : Int) (L : Int) (by omega) (by omega) (by rw [hk1]; omega) (by rw [hk2]; omega) (by omega)
    rw [hk1] at h
    simpa using h
  have HJ : Hid (∀ (wx : World) (d lb m1 c1 : Nat) (A1 : Option Addr), _) := fun wx d lb m1 c1 A1 => of_join (w := w) (wx := wx) (pb := pb) (d := d) (lb := lb) (m1 := m1) (c1 := c1) (A1 := A1) h0
  generalize madeCells (Value.agg #[.int .u64 0, .slice none 0 0]).cells (L * 2) = M at *
  have HC := Lib.hid (fun (W : World) (hW : Below w.heap.size w W) => cloneU_any ⟨pb, 0, none⟩ (8 * L) (8 * L) _ W ((hp.below hW).more hW.size) (by omega))
  generalize hN : 8 * L = N at *
  have d1 : (N : Int).tdiv 8 = (L : Int) := by rw [Int.tdiv_eq_ediv_of_nonneg (by omega)]; omega
  have d2 : (N : Int) / 8 = (L : Int) := by omega
  have wL : IntKind.i64.wrap (L : Int) = (L : Int) := by rw [IntKind.wrap_i64]; omega
  have HN := Lib.hid hN
  clear hN hp
  go_enter Tryz.func104, Tryz.ntmps104
  go_wp2_with fail
  go_cut [3] from 5 to 13 (fun v wx => Hid (Of1 w wx pb L v))
  case first =>
    go_region_with (go_at_call 166; refine (HC.out _ (by first | exact (Below.refl _ _).drew | exact (Below.refl _ _).drew.alloc (Nat.le_refl _) _)).mono ?_; rintro e w1 ⟨A1, m1, c1, rfl, hm1, ho1, hb1⟩; have HO1 := Lib.hid ho1; have HB1 := Lib.hid hb1; have HM1 := Lib.hid hm1; clear ho1 hb1 hm1)
    · go_wp2_with fail
      go_meet
      exact HJ.out _ _ _ _ _ _ (Blk.new2 _ _ _ _) ((HO1.out.alloc _).alloc _) HM1.out ((Blk.new _ _ _).alloc _) (((Below.refl w.heap.size w).drew.trans HB1.out).alloc HB1.out.size _ |>.alloc (Nat.le_trans HB1.out.size (by simp)) _) HB1.out.size (Nat.le_trans HB1.out.size (by simp))
    · go_wp2_with fail
      go_meet
      have hb : Below w.heap.size w w1 := ((Below.refl w.heap.size w).drew.alloc (Nat.le_refl _) _).trans (HB1.out.mono (by simp))
      exact HJ.out _ _ _ _ _ _ (Blk.new _ _ _) ((own_le HO1.out (by simp)).alloc _) HM1.out (((Blk.new w.drew _ _).below HB1.out (Blk.new w.drew _ _).lt).alloc _) (hb.alloc hb.size _) (Nat.le_refl _) hb.size
  case rest =>
    obtain ⟨d, cb, cc, lb, cs, ls, rfl, hd, hc, hcs, hc1, hc2, hru, hl, hls, hb, g1, g2, g3⟩ := hcut.out
    have HI0 : Hid (OfI w wc pb L d cb cc lb cs ls (fun _ => 0) (fun _ => 0) 0) := ⟨⟨_, hd, rfl, rfl, rfl, rfl, rfl, rfl, rfl, rfl, fun j hj => by omega⟩, hc, hl, fun j hj => by omega, fun h => by omega, hb, g3, fun j hj => by omega⟩
    have HF := Lib.hid (show cs.size = cc ∧ 8 * L ≤ cc ∧ cc ≤ 9223372036854775807 ∧ RowU cs (List.replicate (8 * L) 0) ∧ ls = madeCells (Value.agg #[.int .u64 0, .slice none 0 0]).cells (L * 2) ∧ w.heap.size ≤ cb ∧ w.heap.size ≤ lb from ⟨hcs, hc1, hc2, hru, hls, g1, g2⟩)
    clear hcut hd hc hru hl hls hb HC HJ hmk d1 d2 wL
    go_wp2
    go_loopw [14] (fun i wr => ∃ (k : Nat) (th nt : Nat → Nat), k ≤ 8 ∧ i = .int .i64 k ∧ Hid (OfI w wr pb L d cb cc lb cs ls th nt k)) (fun i _ => 8 - (intOf i).toNat)
    case atStart => exact ⟨0, _, _, Nat.zero_le _, rfl, HI0⟩
    case round =>
      clear HI0
      obtain ⟨k, th, nt, hk, rfl, H⟩ := hrel
      by_cases hlt : k < 8
      · obtain ⟨dc, hdb, hds, _⟩ := H.out.dev
        obtain ⟨u0, hu0⟩ : ∃ u, dc[3 + k]? = some u := ⟨_, Array.getElem?_eq_getElem (by omega)⟩
        have c0 : wr.cell? ⟨d, 3 + k, none⟩ = some u0 := by rw [hdb.cell]; exact hu0
        have c1 : wr.frozen? ⟨d, 3 + k, none⟩ = false := hdb.frozen _
        have hdl := hdb.lt
        have hmm : ∀ W : World, (Instr.makeMap 139 none).run Tryz.prog W = .ok (.map (some W.heap.size)) (W.alloc (.map #[] 0)) := fun _ => rfl
        have hz0 : (0 : Int) ≤ (k : Int) := by omega
        have hz1 : (k : Int) < 8 := by omega
        have HN1 := Lib.hid (ofStep H.out hlt)
        clear H hdb hds hu0
        go_wp2
        exact ⟨⟨k + 1, _, _, by omega, by go_num, HN1⟩, by simp [intOf]; omega⟩
      · obtain rfl : k = 8 := by omega
        go_wp2
        go_ret
        exact ⟨d, cb, cc, lb, cs, ls, th, nt, rfl, H.out, HF.out⟩
end Go.Proofs.YtklpeghhgoeeiaaGreatDoor
