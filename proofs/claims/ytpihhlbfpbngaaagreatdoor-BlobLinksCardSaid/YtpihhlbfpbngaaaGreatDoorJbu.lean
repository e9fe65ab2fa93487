/- The walks and laws that the claim leans on, part 47. -/
import Derived.Test.YtpihhlbfpbngaaaGreatDoorJbt
namespace Go.Proofs.YtpihhlbfpbngaaaGreatDoor
open Go.RowKit Go.Maps
def bStr (l : List Nat) : ByteArray := ⟨(l.map UInt8.ofNat).toArray⟩
theorem run_bStr (w : World) {B n c : Nat} {A : Option Addr} {l : List Nat} (h : Reads w B 1 A n (u8s l)) (hb : ∀ b ∈ l, b < 256) : (convert 22 9 (.slice A n c)).run Tryz.prog w = .ok (.string (bStr l)) w := by
  have hl : l.length = n := by have := h.1; simp [u8s] at this; omega
  cases A with
  | none =>
    have h0 : n = 0 := by
      rcases Nat.eq_zero_or_pos n with h0 | h0
      · exact h0
      · obtain ⟨ad, hA, _⟩ := h.2 h0
        cases hA
    have hn : l = [] := List.eq_nil_of_length_eq_zero (by omega)
    subst hn
    subst h0
    rw [run_convert_bytes_string w 22 9 5 none 0 c Tryz.underlying22 Tryz.underlying5 Tryz.underlying9]
    rfl
  | some ad =>
    have h1 := run_convert_bytes_back w 22 9 5 ad c (l.map UInt8.ofNat) Tryz.underlying22 Tryz.underlying5 Tryz.underlying9 (fun j hj => by
      have hj' : j < l.length := by simpa using hj
      obtain ⟨ad', hA', _, hc⟩ := h.2 (by omega)
      injection hA' with hA'
      subst hA'
      have h2 := hc j (.int .u8 (l[j] : Int)) (by simp [u8s, hj'])
      rw [h2, List.getElem_map, UInt8.toNat_ofNat_of_lt' (hb _ (List.getElem_mem hj'))])
    rw [List.length_map, hl] at h1
    exact h1
set_option maxRecDepth 100000 in
set_option maxHeartbeats 2000000 in
theorem bytesEq_same (A A2 : Option Addr) (n c n2 c2 B B2 : Nat) (l : List Nat) (w : World) (h : Reads w B 1 A n (u8s l)) (h2 : Reads w B2 1 A2 n2 (u8s l)) (hl : ∀ b ∈ l, b < 256) :
    Calls Tryz.prog 26 #[.slice A n c, .slice A2 n2 c2] w fun e w' => e = .returned (.bool true) ∧ w = w' := by
  have k1 := run_bStr (c := c) w h hl
  have k2 := run_bStr (c := c2) w h2 hl
  generalize bStr l = s at *
  clear h h2 hl
  go_enter Tryz.func26, Tryz.ntmps26
  go_wp2
  go_ret
  exact ⟨rfl, rfl⟩
section
variable {a : DA} {L T s n K : Nat} {x : HA} {cs : Nat → CS} {f : Nat → Option Nat} {N m b0 : Nat} {S : Fp} {cur : Nat → Nat} {w w' : World} {d r : Nat}
set_option maxRecDepth 100000
set_option maxHeartbeats 2000000
def RetBl (w : World) (R : Nat × List Nat × List Nat) (e : Ending) (w' : World) : Prop :=
  if R.1 = 0 then ∃ A m c, e = .returned (.tuple #[.slice A m c, .int .i64 0]) ∧ m = R.2.1.length ∧ Reads w' w'.heap.size 1 A m (uCells R.2.1) ∧ m ≤ c ∧ Below w.heap.size w w'
  else e = .returned (.tuple #[.slice none 0 0, .int .i64 (R.1 : Int)]) ∧ Below w.heap.size w w'
theorem bblocks_any (h : SD a L T s n K x cs f N m b0 S cur w d r) (p : Nat) (hp64 : p < 18446744073709551616) :
    Calls Tryz.prog 32 #[dirV d, .int .u64 (p : Int)] w (RetBl w (walkR L cur (fun q => chkR s K cs q 1) p)) := by
  have HW := Lib.hid (walk_any h p hp64)
  clear h
  generalize walkR L cur (fun q => chkR s K cs q 1) p = R at *
  unfold dirV at *
  by_cases hR : R.1 = 0
  · have HW2 : Hid (Calls Tryz.prog 59 #[.iface 37 (.pointer (some ⟨d, 0, none⟩)), .int .u64 (p : Int)] w fun e w' => ∃ A m c A2 m2 c2, e = .returned (.tuple #[.slice A m c, .slice A2 m2 c2, .int .i64 0]) ∧ m = R.2.1.length ∧ Reads w' w'.heap.size 1 A m (uCells R.2.1) ∧ m ≤ c ∧ Below w.heap.size w w') := Lib.hid (HW.out.mono (fun e w' h => by
      unfold RetWk at h
      rw [if_pos hR] at h
      obtain ⟨A, m, c, A2, m2, c2, h1, h2, h3, h4, h5, h6, h7, h8, h9⟩ := h
      exact ⟨A, m, c, A2, m2, c2, h1, h2, h4, h8.1, h9⟩))
    have HR := Lib.hid hR
    clear HW hR
    go_enter Tryz.func32, Tryz.ntmps32
    go_wp2_with (go_at_call 59; refine HW2.out.mono ?_; rintro e w1 ⟨A, m1, c, A2, m2, c2, rfl, h1, h2, h4, h5⟩; have HE := Lib.hid (show _ ∧ _ ∧ _ ∧ _ from ⟨h1, h2, h4, h5⟩); clear h1 h2 h4 h5)
    go_ret2
    unfold RetBl
    rw [if_pos HR.out]
    exact ⟨A, m1, c, rfl, HE.out.1, HE.out.2.1, HE.out.2.2.1, HE.out.2.2.2⟩
  · have HW2 : Hid (Calls Tryz.prog 59 #[.iface 37 (.pointer (some ⟨d, 0, none⟩)), .int .u64 (p : Int)] w fun e w' => e = .returned (.tuple #[.slice none 0 0, .slice none 0 0, .int .i64 (R.1 : Int)]) ∧ Below w.heap.size w w') := Lib.hid (HW.out.mono (fun e w' h => by
      unfold RetWk at h
      rw [if_neg hR] at h
      exact h))
    have HR := Lib.hid hR
    clear HW hR
    go_enter Tryz.func32, Tryz.ntmps32
    go_wp2_with (go_at_call 59; refine HW2.out.mono ?_; rintro e w1 ⟨rfl, h1⟩; have HE := Lib.hid h1; clear h1)
    go_ret2
    unfold RetBl
    rw [if_neg HR.out]
    exact ⟨rfl, HE.out⟩
theorem bcheck_any (h : SD a L T s n K x cs f N m b0 S cur w d r) (p : Nat) (hp64 : p < 18446744073709551616) {e0 : Nat} (he : (walkR L cur (fun q => chkR s K cs q 1) p).1 = e0) :
    Calls Tryz.prog 27 #[dirV d, .int .u64 (p : Int)] w fun e w' => e = .returned (.int .i64 (e0 : Int)) ∧ Below w.heap.size w w' := by
  have HW := Lib.hid (walk_any h p hp64)
  clear h
  generalize walkR L cur (fun q => chkR s K cs q 1) p = R at *
  subst he
  unfold dirV at *
  have HW2 : Hid (Calls Tryz.prog 59 #[.iface 37 (.pointer (some ⟨d, 0, none⟩)), .int .u64 (p : Int)] w fun e w' => ∃ (A : Option Addr) (m c : Nat) (A2 : Option Addr) (m2 c2 : Nat), e = .returned (.tuple #[.slice A m c, .slice A2 m2 c2, .int .i64 (R.1 : Int)]) ∧ Hid (Below w.heap.size w w')) := Lib.hid (HW.out.mono (fun e w' h => by
    unfold RetWk at h
    split at h
    · rename_i hR
      obtain ⟨A, m, c, A2, m2, c2, h1, h2, h3, h4, h5, h6, h7, h8, h9⟩ := h
      rw [hR]
      exact ⟨A, m, c, A2, m2, c2, h1, Lib.hid h9⟩
    · exact ⟨none, 0, 0, none, 0, 0, h.1, Lib.hid h.2⟩))
  clear HW
  generalize R.1 = e0 at *
  go_enter Tryz.func27, Tryz.ntmps27
  go_wp2_with (go_at_call 59; refine HW2.out.mono ?_; rintro e w1 ⟨A, m1, c, A2, m2, c2, rfl, hh⟩)
  go_ret
  exact ⟨rfl, hh.out⟩
end
end Go.Proofs.YtpihhlbfpbngaaaGreatDoor
namespace Go.Proofs.YtpihhlbfpbngaaaGreatDoor
open Go.RowKit Go.Maps
section
variable {a : DA} {L T K : Nat} {x : HA} {y : WA} {cs : Nat → CS} {f : Nat → Option Nat} {N m b0 : Nat} {S : Fp} {cur : Nat → Nat} {w w' : World}
end
theorem own_empty (w : World) (t : TypeId) : (w.alloc (.cells #[] t)).ownsRow w.heap.size t 1 (.slice (some ⟨w.heap.size, 0, none⟩) 0 0) 0 [] :=
  ⟨rfl, .inr ⟨w.heap.size, 0, #[], rfl, Nat.le_refl _, heap_alloc_new w _, Nat.le_refl _, by unfold maxLen; omega, rfl, rfl⟩⟩
end Go.Proofs.YtpihhlbfpbngaaaGreatDoor
namespace Go.Proofs.YtpihhlbfpbngaaaGreatDoor
open Go.RowKit Go.Maps
structure InB (w : World) (A : Option Addr) (n c : Nat) (l : List Nat) : Prop where
  b : ∀ z ∈ l, z < 256
  r : Reads w w.heap.size 1 A n (u8s l)
  le : n ≤ c
  cap : c ≤ 9223372036854775807
theorem alW_four (n : Nat) : ∀ j, 456 * j < n → alW n [] j = List.replicate j 4
  | 0, _ => rfl
  | j + 1, h => by
    have h1 : clsOf (bSize (n - 456 * j)) = 4 := by
      have : bSize (n - 456 * j) = 60 := by unfold bSize; rw [if_pos (by omega)]
      rw [this]; rfl
    show clsOf (bSize (n - 456 * j)) :: alW n [] j = _
    rw [h1, alW_four n j (by omega)]
    rfl
theorem room_one (n : Nat) (hn : n ≤ 2000) : room (alW n [] (nBlk n)) ≤ 2 := by
  have hc := clsOf_lt (bSize (n - 456 * (nBlk n - 1)))
  have hM : 1 ≤ nBlk n ∧ nBlk n ≤ 5 := ⟨by unfold nBlk; split <;> omega, nBlk_few n hn⟩
  have h1 : alW n [] (nBlk n) = clsOf (bSize (n - 456 * (nBlk n - 1))) :: List.replicate (nBlk n - 1) 4 := by
    obtain ⟨j, hj⟩ : ∃ j, nBlk n = j + 1 := ⟨nBlk n - 1, by omega⟩
    rw [hj, Nat.add_sub_cancel]
    show clsOf (bSize (n - 456 * j)) :: alW n [] j = _
    by_cases h0 : j = 0
    · subst h0; rfl
    · rw [alW_four n j (by unfold nBlk at hj; split at hj <;> omega)]
  rw [h1]
  by_cases h5 : nBlk n = 5
  · have h3 : clsOf (bSize (n - 456 * (nBlk n - 1))) ≤ 3 := by
      have hr : n - 456 * (nBlk n - 1) ≤ 176 := by omega
      generalize n - 456 * (nBlk n - 1) = r at *
      have hb : bSize r = payW (clsOf (3 + (r + 7) / 8)) := by unfold bSize; rw [if_neg (by omega)]
      have hc2 : clsOf (3 + (r + 7) / 8) ≤ 3 := by
        unfold clsOf
        repeat' split
        all_goals omega
      have h4 := bSize_cls r
      have h6 := clsOf_lt (bSize r)
      rw [hb] at h4 h6 ⊢
      generalize clsOf (3 + (r + 7) / 8) = c1 at *
      have : c1 = 0 ∨ c1 = 1 ∨ c1 = 2 ∨ c1 = 3 := by omega
      rcases this with rfl | rfl | rfl | rfl <;> decide
    rw [h5] at h3 ⊢
    generalize clsOf (bSize (n - 456 * (5 - 1))) = c1 at *
    have : c1 = 0 ∨ c1 = 1 ∨ c1 = 2 ∨ c1 = 3 := by omega
    rcases this with rfl | rfl | rfl | rfl <;> decide
  · have hM4 : nBlk n = 1 ∨ nBlk n = 2 ∨ nBlk n = 3 ∨ nBlk n = 4 := by omega
    generalize clsOf (bSize (n - 456 * (nBlk n - 1))) = c1 at *
    have hc1 : c1 = 0 ∨ c1 = 1 ∨ c1 = 2 ∨ c1 = 3 ∨ c1 = 4 := by omega
    rcases hM4 with e | e | e | e <;> rw [e] <;> rcases hc1 with rfl | rfl | rfl | rfl | rfl <;> decide
end Go.Proofs.YtpihhlbfpbngaaaGreatDoor
namespace Go.Proofs.YtpihhlbfpbngaaaGreatDoor
open Go.ChangeShapes Go.WideShapes Go.ChangeAt Go.RowKit
theorem gPay : Tryz.prog.globalNamed "bedrock/sizeclass.payload" = some 2 := by kernel_rfl
theorem gPayType : (Tryz.prog.globals[2]?).map (·.type) = some 313 := by kernel_rfl
theorem cellsPay : Tryz.prog.cellsOf 313 = 5 := by kernel_rfl
theorem cellsI64 : Tryz.prog.cellsOf 3 = 1 := by kernel_rfl
theorem payIs {W : World} (h : laidMetH Tryz.prog laidList W) : Pay W := by
  have h2 : laidMetH Tryz.prog [("bedrock/sizeclass.payload", Rows.laid_bedrock_sizeclass_payload)] W := laidMetH.filter (fun x => x.1 == "bedrock/sizeclass.payload") h
  have ht : Lib.TabIs Tryz.prog W "bedrock/sizeclass.payload" .i64 [3, 7, 15, 31, 60] :=
    Lib.tabIs_of_head (rest := []) gPay gPayType Tryz.underlying313 Tryz.underlying3 cellsI64 cellsPay h2
  intro i hi
  have hc := ht.cell gPay i hi
  rw [hc]
  have : i = 0 ∨ i = 1 ∨ i = 2 ∨ i = 3 ∨ i = 4 := by omega
  rcases this with rfl | rfl | rfl | rfl | rfl <;> rfl
theorem ints_of {H : Type} {enc : TypeId × Value → H} {W : World} {base : Nat} {sp : Nat → Bool} {held : Bool} {t e : TypeId} {k : IntKind} {a : Option Addr} {len cap : Nat} {d : DataW H} {p : List MemPlace}
    (ht : Tryz.prog.underlying t = some (.slice e)) (he : Tryz.prog.underlying e = some (.int k)) (hc : Tryz.prog.cellsOf e = 1)
    (h : DataW.Trod enc Tryz.prog W base sp held t (.slice a len cap) d p) :
    ∃ zs : List Int, Reads W W.heap.size 1 a len (zs.map (Value.int k)) ∧ len ≤ cap ∧ cap ≤ maxLen ∧ ∀ n ∈ zs, (Lit.int k n).wf = true := by
  obtain ⟨fuel, hf⟩ := h
  rcases open_ints ht he hc hf with ⟨hcs, _⟩ | ⟨x, l, c, zs, hcs, _, hl, hm, hz, hx, hcell, hwz⟩
  · simp [Value.cells] at hcs
    obtain ⟨rfl, rfl, rfl⟩ := hcs
    exact ⟨[], ⟨rfl, fun h => absurd h (Nat.lt_irrefl 0)⟩, Nat.le_refl _, Nat.zero_le _, fun _ hn => by cases hn⟩
  · simp [Value.cells] at hcs
    obtain ⟨rfl, rfl, rfl⟩ := hcs
    have hz' : len ≤ zs.length := by rw [hz]; split <;> omega
    refine ⟨zs.take len, ⟨by rw [List.length_map, List.length_take]; omega, fun hn => ⟨_, rfl, ?_, fun j u hu => ?_⟩⟩, hl, hm, fun n hn => hwz n (List.mem_of_mem_take hn)⟩
    · have := World.block_lt_of_cell? _ _ (hcell 0 (by omega))
      rw [block_of_add] at this
      exact this
    · simp only [List.getElem?_map, Option.map_eq_some_iff] at hu
      obtain ⟨z, hzj, rfl⟩ := hu
      rw [List.getElem?_take] at hzj
      split at hzj
      · obtain ⟨hj, rfl⟩ := List.getElem?_eq_some_iff.1 hzj
        rw [hcell j hj]
        simp [List.getD, hj]
      · cases hzj
theorem bytes_of {H : Type} {enc : TypeId × Value → H} {W : World} {base : Nat} {sp : Nat → Bool} {held : Bool} {a : Option Addr} {len cap : Nat} {d : DataW H} {p : List MemPlace}
    (h : DataW.Trod enc Tryz.prog W base sp held 22 (.slice a len cap) d p) : ∃ l, InB W a len cap l := by
  obtain ⟨zs, hr, hl, hm, hwz⟩ := ints_of Tryz.underlying22 Tryz.underlying5 (by kernel_rfl) h
  have hb : ∀ z ∈ zs, 0 ≤ z ∧ z ≤ 255 := fun z hz => by
    have hw := hwz z hz
    have hmn : IntKind.u8.min = 0 := by decide
    have hmx : IntKind.u8.max = 255 := by decide
    simp only [Lit.wf, hmn, hmx, Bool.and_eq_true, decide_eq_true_eq] at hw
    omega
  refine ⟨zs.map Int.toNat, ?_, ?_, hl, hm⟩
  · intro b hbm
    obtain ⟨z, hz, rfl⟩ := List.mem_map.1 hbm
    have := hb z hz
    omega
  · have : u8s (zs.map Int.toNat) = zs.map (Value.int .u8) := by
      simp only [u8s, List.map_map]
      refine List.map_congr_left fun z hz => ?_
      have := hb z hz
      simp only [Function.comp]
      rw [Int.toNat_of_nonneg this.1]
    rw [this]
    exact hr
end Go.Proofs.YtpihhlbfpbngaaaGreatDoor
namespace Go.Proofs.YtpihhlbfpbngaaaGreatDoor
open Go.RowKit Go.Maps
def PutK (a : DA) (L T K : Nat) (x : HA) (y : WA) (cs : Nat → CS) (f : Nat → Option Nat) (N m b0 : Nat) (S : Fp) (cur : Nat → Nat) (w : World) (al p : List Nat) (i q : Nat) (A' : Option Addr) (m' c' : Nat) (w' : World) : Prop :=
  ∃ bl cs' f' S' cur', q = bl.headD 0 ∧ m' = bl.length ∧ Reads w' w'.heap.size 1 A' m' (uCells bl) ∧ (∀ ad, A' = some ad → w.heap.size ≤ ad.block ∧ ¬ sfp S' x ad.block) ∧ PutP L K f al p i bl cs' f' cur' ∧ BW a L (T + 4000) K x y cs' f' (N + 20) m b0 S' cur' w' ∧ Chg (sfp S x) w w' ∧ Grew S S' w ∧ m' ≤ c' ∧ KeepL K cs cur bl cs' cur'
theorem ret_putK {a : DA} {L T K : Nat} {x : HA} {y : WA} {cs : Nat → CS} {f : Nat → Option Nat} {N m b0 : Nat} {S : Fp} {cur : Nat → Nat} {w : World} {al p : List Nat} {i : Nat} {e : Ending} {w' : World} (h : RetPutK a L T K x y cs f N m b0 S cur w al p i e w') : ∃ (q : Nat) (A' : Option Addr) (m' c' : Nat), e = .returned (.tuple #[.int .u64 (q : Int), .slice A' m' c']) ∧ Hid (PutK a L T K x y cs f N m b0 S cur w al p i q A' m' c' w') := by
  obtain ⟨bl, A', m', c', cs', f', S', cur', h1, h2, h3, h4, h5, h6, h7, h8, h9, h10⟩ := h
  exact ⟨_, A', m', c', h1, Lib.hid ⟨bl, cs', f', S', cur', rfl, h2, h3, h4, h5, h6, h7, h8, h9, h10⟩⟩
theorem PutP.bk {L K : Nat} {f f' : Nat → Option Nat} {al p bl : List Nat} {i : Nat} {cs' : Nat → CS} {cur' : Nat → Nat} (h : PutP L K f al p i bl cs' f' cur') (j : Nat) (hj : j < bl.length) : BkA K cs' cur' bl[j] (bl.getD (j + 1) 0) (p.drop (456 * j)) := by
  obtain ⟨k, i2, h1, h2⟩ := h.live j hj
  exact ⟨⟨k, i2, h1, by rw [List.length_drop]; exact h2⟩, h.words j hj⟩
theorem PutP.nx {L K : Nat} {f f' : Nat → Option Nat} {al p bl : List Nat} {i : Nat} {cs' : Nat → CS} {cur' : Nat → Nat} (h : PutP L K f al p i bl cs' f' cur') (k : Nat) : bl.getD k 0 < 18446744073709551616 := by
  by_cases hk : k < bl.length
  · obtain ⟨kk, ii, hlv, _⟩ := h.live k hk
    rw [List.getD_eq_getElem?_getD, List.getElem?_eq_getElem hk]
    exact hlv.lt
  · rw [List.getD_eq_getElem?_getD, List.getElem?_eq_none (by omega)]
    exact (by decide : (0 : Nat) < 18446744073709551616)
theorem BkA.load {a : DA} {L T n K : Nat} {x : HA} {cs : Nat → CS} {f : Nat → Option Nat} {N m b0 : Nat} {S : Fp} {cur : Nat → Nat} {w : World} {q next : Nat} {p : List Nat} (h : BkA K cs cur q next p) (hd : DS a L T 53 n K x cs f N m b0 S cur w) (hp : p.length ≤ 2000) : loadR L cur q = some (payL next p, p.length) ∧ chkR 53 K cs q 1 = 0 ∧ q ≠ 0 ∧ q < 18446744073709551616 := by
  obtain ⟨k, i, h1, h2⟩ := h.live
  have h3 := (h1.at_.inL hd).1
  exact ⟨loadR_pay h.words hp (by omega), (Live.chk ⟨k, i, h1⟩).1, h1.nz, h1.lt⟩
end Go.Proofs.YtpihhlbfpbngaaaGreatDoor
