/- The walks of crc.Burst, the reference's Burst, and of the laws CrcBursts and CrcDetects. -/
import Derived.Test.YtkpfciacfajddaaDoorLawC
import Derived.Test.YtkpfciacfajddaaDoorPlainC
import Derived.Laws.CopyOwn
namespace Go.Proofs.YtkpfciacfajddaaDoor
open Go.RowKit

theorem splice_all (a b : List Value) (h : a.length = b.length) : splice a 0 b = b := by
  simp [splice, h]
theorem wpList_cpy (w : World) {ops : Array Oper} {rest : List Oper} {o : Oper} {a : Act} {Q : Exit → Act → World → Prop} (hgd : o.guard = none) (d s : Operand)
    (ho : o.op = .call { callee := .builtin .copy, args := #[d, s], argTypes := #[22, 22] })
    (g n cap : Nat) (A : Option Addr) (zs l : List Nat) (hd : a.eval d = .slice (some ⟨g, 0, none⟩) n n) (hs : a.eval s = .slice A n cap)
    (hg : Blk w g 5 (u8s zs).toArray) (hz : zs.length = n) (B : Nat) (hr : Reads w B 1 A n (u8s l)) (B0 : Nat) (w0 : World) (hb : Below B0 w0 w) (hBg : B0 ≤ g)
    (h : ∀ w', Blk w' g 5 (u8s l).toArray → Below B0 w0 w' → wpList Tryd.prog ops Q rest (a.put o.dst (goInt n)) w') : wpList Tryd.prog ops Q (o :: rest) a w := by
  have hl : l.length = n := by have := hr.1; simpa [u8s] using this
  have hl' : (u8s l).length = n := by simpa [u8s] using hl
  have hz' : (u8s zs).length = n := by simpa [u8s] using hz
  refine wpList_copy_splice hgd d s 22 22 ho 5 Tryd.underlying22 (by kernel_rfl) _ _ _ _ _ _ hd hs g 0 (u8s zs) 5 hg (u8s l) (by rw [hl']; exact (Nat.min_self n).symm) ?_ (by omega) (u8s_one l) B0 w0 hb hBg ?_
  · intro h0
    obtain ⟨ad, hA, _, hc⟩ := hr.2 (by omega)
    exact ⟨rfl, ad, hA, hc⟩
  · intro w' h1 h2
    have h3 : w'.heap[g]? = some (.cells (splice (u8s zs) 0 (u8s l)).toArray 5 (0, 0)) := h1
    rw [splice_all _ _ (by omega)] at h3
    have := h w' h3 h2
    rw [hl']
    exact this
theorem patbit (pat j : Nat) (hp : pat < 4294967296) (_hj : j < 32) : (pat / 2 ^ j % 2 = 0 ∧ bits .and .u32 ((pat : Int) / 2 ^ j) 1 = 0) ∨ (pat / 2 ^ j % 2 = 1 ∧ bits .and .u32 ((pat : Int) / 2 ^ j) 1 = 1) := by
  have e : ((pat : Int) / 2 ^ j) = ((pat / 2 ^ j : Nat) : Int) := by simp
  have h := u32_and_nat (pat / 2 ^ j) 1 (Nat.lt_of_le_of_lt (Nat.div_le_self _ _) hp) (by omega)
  rw [Nat.and_one_is_mod, ← e, show ((1 : Nat) : Int) = 1 from rfl] at h
  have h2 : pat / 2 ^ j % 2 = 0 ∨ pat / 2 ^ j % 2 = 1 := by omega
  rcases h2 with h2 | h2
  · exact .inl ⟨h2, by rw [h, h2]; rfl⟩
  · exact .inr ⟨h2, by rw [h, h2]; rfl⟩
theorem burst_miss (l : List Nat) (bit : Int) (pat j : Nat) (h : ¬ Crc.hits l.length bit pat j) : Crc.burst l bit pat j = Crc.burst l bit pat (j + 1) := by
  simp only [Crc.burst]; rw [if_neg h]
theorem burst_hit (l : List Nat) (bit : Int) (pat j kk : Nat) (hk : bit + (j : Int) = (kk : Int)) (hp : pat / 2 ^ j % 2 = 1) (hl : kk / 8 < l.length) :
    (u8s (Crc.burst l bit pat j)).toArray.setIfInBounds (kk / 8) (.int .u8 (((Crc.burst l bit pat j).getD (kk / 8) 0 ^^^ 2 ^ (kk % 8) : Nat) : Int)) = (u8s (Crc.burst l bit pat (j + 1))).toArray := by
  have hh : Crc.hits l.length bit pat j := ⟨hp, by omega, by omega⟩
  simp only [Crc.burst]
  rw [if_pos hh, hk, Int.toNat_natCast]
  simp [Crc.flip, u8s, List.map_set]
theorem burst_cell (l : List Nat) (bit : Int) (pat j kk : Nat) {wr : World} {g : Nat} (h : Blk wr g 5 (u8s (Crc.burst l bit pat j)).toArray) (hl : kk / 8 < l.length) :
    wr.cell? ⟨g, kk / 8, none⟩ = some (.int .u8 (((Crc.burst l bit pat j).getD (kk / 8) 0 : Nat) : Int)) := by
  have hl' : kk / 8 < (Crc.burst l bit pat j).length := by rw [Crc.burst_len]; exact hl
  rw [h.cell]
  simp [u8s, List.getD, hl']
theorem burst_at (l : List Nat) (bit : Int) (pat j i : Nat) (hl : ∀ b ∈ l, b < 256) : (Crc.burst l bit pat j).getD i 0 < 256 := by
  by_cases hi : i < (Crc.burst l bit pat j).length
  · simp only [List.getD, List.getElem?_eq_getElem hi, Option.getD_some]; exact Crc.burst_bytes hl bit pat j _ (List.getElem_mem hi)
  · simp [List.getD, List.getElem?_eq_none (show (Crc.burst l bit pat j).length ≤ i by omega)]
theorem xor_bit (c kk : Nat) (hc : c < 256) : bits .xor .u8 (c : Int) (2 ^ (kk % 8) % 256) = ((c ^^^ 2 ^ (kk % 8) : Nat) : Int) := by
  have hp : 2 ^ (kk % 8) < 256 := Nat.pow_lt_pow_right (n := 8) (by omega) (Nat.mod_lt _ (by omega))
  have e : ((2 : Int) ^ (kk % 8) % 256) = ((2 ^ (kk % 8) : Nat) : Int) := by
    have : ((2 : Int) ^ (kk % 8)) = ((2 ^ (kk % 8) : Nat) : Int) := by simp
    rw [this]
    generalize 2 ^ (kk % 8) = p at *
    omega
  rw [e]
  exact u8_xor_nat _ _ hc hp
theorem tdiv8 (b : Int) : (0 ≤ b → b.tdiv 8 = b / 8) ∧ (b < 0 → b.tdiv 8 ≤ 0 ∧ b ≤ 8 * b.tdiv 8) := by
  constructor
  · intro h; exact Int.tdiv_eq_ediv_of_nonneg h
  · intro h
    have e : b.tdiv 8 = -((-b).tdiv 8) := by rw [Int.neg_tdiv]; omega
    rw [e, Int.tdiv_eq_ediv_of_nonneg (by omega : (0 : Int) ≤ -b)]
    omega
set_option maxHeartbeats 1000000 in
theorem burst_any (A : Option Addr) (n cap : Nat) (l : List Nat) (bit : Int) (pat : Nat) (w : World) (hin : In w A n cap l) (hn : n ≤ 200) (hb1 : -9223372036854775808 ≤ bit) (hb2 : bit ≤ 9223372036854775807) (hp : pat < 4294967296) :
    Calls Tryd.prog 23 #[.slice A n cap, .int .i64 bit, .int .u32 pat] w fun e w' => e = .returned (.slice (some ⟨w.heap.size, 0, none⟩) n n) ∧ Blk w' w.heap.size 5 (u8s (Crc.burst l bit pat 32)).toArray ∧ Below w.heap.size w w' := by
  have HI := Lib.hid hin
  have HLen := Lib.hid hin.len
  have hmk := make_bytes n (by omega) w
  have HB0 := Lib.hid ((Below.refl w.heap.size w).alloc (Nat.le_refl _) (.cells (u8s (List.replicate n 0)).toArray 5))
  have HK0 := Lib.hid (Blk.new w 5 (u8s (List.replicate n 0)).toArray)
  clear hin
  generalize w.alloc (.cells (u8s (List.replicate n 0)).toArray 5) = w1 at *
  go_enter Tryd.func23, Tryd.ntmps23
  go_wp2_with (refine wpList_cpy _ rfl (.tmp 13) (.tmp 14) rfl w.heap.size n cap A (List.replicate n 0) l rfl rfl HK0.out (List.length_replicate ..) _ (HI.out.reads.below HB0.out) w.heap.size w HB0.out (Nat.le_refl _) ?_; intro w2 hblk2 hb3)
  have HB2 := Lib.hid hb3
  have HK2 := Lib.hid hblk2
  clear hb3 hblk2 hmk
  go_loopw [16] (fun i wr => ∃ j : Nat, j ≤ 32 ∧ i = .int .i64 j ∧ Hid (Below w.heap.size w wr) ∧ Hid (Blk wr w.heap.size 5 (u8s (Crc.burst l bit pat j)).toArray)) (fun i _ => 32 - (intOf i).toNat)
  case atStart => exact ⟨0, Nat.zero_le _, rfl, HB2, HK2⟩
  case round =>
    obtain ⟨j, hj, rfl, hb, hblk⟩ := hrel
    by_cases hlt : j < 32
    · rcases patbit pat j hp hlt with ⟨ht, e1⟩ | ⟨ht, e1⟩
      · have HS := Lib.hid (burst_miss l bit pat j (fun h => by have := h.1; omega))
        rw [HS.out] at hblk
        go_wp2
        go_roundw
        case rel => exact ⟨j + 1, by omega, by go_num, hb, hblk⟩
        case measure => simp [intOf]; omega
      · by_cases hlow : bit < -(j : Int)
        · have HS := Lib.hid (burst_miss l bit pat j (fun h => by have := h.2.1; omega))
          rw [HS.out] at hblk
          go_wp2
          go_roundw
          case rel => exact ⟨j + 1, by omega, by go_num, hb, hblk⟩
          case measure => simp [intOf]; omega
        · by_cases hhigh : (n : Int) ≤ bit.tdiv 8
          · have HS := Lib.hid (burst_miss l bit pat j (fun h => by have := h.2.2; have := HLen.out; have := tdiv8 bit; omega))
            rw [HS.out] at hblk
            go_wp2
            go_roundw
            case rel => exact ⟨j + 1, by omega, by go_num, hb, hblk⟩
            case measure => simp [intOf]; omega
          · have hbu : bit ≤ 2000 := by have := tdiv8 bit; omega
            obtain ⟨kk, hkk⟩ : ∃ kk : Nat, bit + (j : Int) = (kk : Int) := ⟨(bit + j).toNat, by omega⟩
            have hkb : kk ≤ 3000 := by omega
            by_cases hin2 : kk / 8 < n
            · have HS := Lib.hid (burst_hit l bit pat j kk hkk ht (by have := HLen.out; omega))
              have hfz := hblk.out.frozen (kk / 8)
              have hcg := burst_cell l bit pat j kk hblk.out (by have := HLen.out; omega)
              have hc8 := burst_at l bit pat j (kk / 8) HI.out.bytes
              generalize (Crc.burst l bit pat j).getD (kk / 8) 0 = c at *
              have e8 := xor_bit c kk hc8
              generalize c ^^^ 2 ^ (kk % 8) = d at *
              go_wp2
              go_roundw
              case rel => exact ⟨j + 1, by omega, by go_num, hb.out.setCell (p := ⟨w.heap.size, kk / 8, none⟩) (Nat.le_refl _) _, by have h := hblk.out.set_ (kk / 8) (.int .u8 (d : Int)); rw [HS.out] at h; exact h⟩
              case measure => simp [intOf]; omega
            · have HS := Lib.hid (burst_miss l bit pat j (fun h => by have := h.2.2; have := HLen.out; omega))
              rw [HS.out] at hblk
              go_wp2
              go_roundw
              case rel => exact ⟨j + 1, by omega, by go_num, hb, hblk⟩
              case measure => simp [intOf]; omega
    · have hjj : j = 32 := by omega
      subst hjj
      go_wp2
      go_ret
      exact ⟨rfl, hblk.out, hb.out⟩

/-- A slice of the call's own, byte by byte in one block. -/
def OwnB (w : World) (base : Nat) (A : Option Addr) (n : Nat) (l : List Nat) : Prop :=
  l.length = n ∧ (0 < n → ∃ g cs, A = some ⟨g, 0, none⟩ ∧ base ≤ g ∧ Blk w g 5 cs ∧ cs.toList.take n = u8s l)
theorem OwnB.of {w : World} {base : Nat} {A : Option Addr} {n c : Nat} {l : List Nat} (h : w.ownsRow base 5 1 (.slice A n c) n (u8s l)) : OwnB w base A n l := by
  refine ⟨by have := h.1; simpa [u8s] using this, fun hn => ?_⟩
  rcases h.2 with ⟨_, h0⟩ | ⟨g, cap, cur, hv, hb, hh, hnc, _, hsz, ht⟩
  · omega
  · injection hv with h1 h2 h3
    subst h1
    exact ⟨g, cur, rfl, hb, hh, by simpa using ht⟩
theorem add_plain (g j : Nat) : (⟨g, 0, none⟩ : Addr).add j = ⟨g, j, none⟩ := by unfold Addr.add; split <;> simp_all
theorem take_at {α : Type} {cs : List α} {n : Nat} {xs : List α} (h : cs.take n = xs) {j : Nat} {u : α} (hu : xs[j]? = some u) : cs[j]? = some u := by
  rw [← h, List.getElem?_take] at hu
  split at hu
  · exact hu
  · cases hu
theorem OwnB.cell {w : World} {base g : Nat} {n : Nat} {l : List Nat} (h : OwnB w base (some ⟨g, 0, none⟩) n l) {j : Nat} (hj : j < n) :
    w.cell? ⟨g, j, none⟩ = some (.int .u8 ((l.getD j 0 : Nat) : Int)) ∧ w.frozen? ⟨g, j, none⟩ = false ∧ base ≤ g := by
  obtain ⟨g', cs, hA, hb, hblk, ht⟩ := h.2 (by omega)
  injection hA with hA
  injection hA with hA
  subst hA
  have hl : j < l.length := by rw [h.1]; exact hj
  refine ⟨?_, hblk.frozen j, hb⟩
  rw [hblk.cell j, ← Array.getElem?_toList, take_at ht (j := j) (u := .int .u8 ((l.getD j 0 : Nat) : Int)) (by simp [u8s, List.getD, hl])]
theorem OwnB.reads {w : World} {base : Nat} {A : Option Addr} {n : Nat} {l : List Nat} (h : OwnB w base A n l) : Reads w w.heap.size 1 A n (u8s l) := by
  refine ⟨by have := h.1; simp [u8s, this], fun hn => ?_⟩
  obtain ⟨g, cs, rfl, hb, hblk, ht⟩ := h.2 hn
  refine ⟨_, rfl, hblk.lt, fun j u hu => ?_⟩
  rw [add_plain, hblk.cell j, ← Array.getElem?_toList, take_at ht hu]
theorem OwnB.store {w : World} {base g : Nat} {n : Nat} {l : List Nat} (h : OwnB w base (some ⟨g, 0, none⟩) n l) {j : Nat} (_hj : j < n) (b : Nat) :
    OwnB (w.setCell ⟨g, j, none⟩ (.int .u8 (b : Int))) base (some ⟨g, 0, none⟩) n (l.set j b) := by
  refine ⟨by rw [List.length_set]; exact h.1, fun hn => ?_⟩
  obtain ⟨g', cs, hA, hb, hblk, ht⟩ := h.2 hn
  injection hA with hA
  injection hA with hA
  subst hA
  refine ⟨g, _, rfl, hb, hblk.set_ j _, ?_⟩
  rw [Array.toList_setIfInBounds, List.take_set, ht]
  simp [u8s, List.map_set]
theorem OwnB.drew {w : World} {base : Nat} {A : Option Addr} {n : Nat} {l : List Nat} (h : OwnB w base A n l) : OwnB w.drew base A n l := h
/-- What a function that hands back bytes of its own does. -/
def RetBytes (w : World) (l : List Nat) (e : Ending) (w' : World) : Prop :=
  ∃ (A : Option Addr) (n c : Nat), e = .returned (.slice A n c) ∧ OwnB w' w.heap.size A n l ∧ Below w.heap.size w w'
theorem burst_hit2 (l : List Nat) (bit : Int) (pat j kk : Nat) (hk : bit + (j : Int) = (kk : Int)) (hp : pat / 2 ^ j % 2 = 1) (hl : kk < 8 * l.length) :
    (Crc.burst l bit pat j).set (kk / 8) ((Crc.burst l bit pat j).getD (kk / 8) 0 ^^^ 2 ^ (kk % 8)) = Crc.burst l bit pat (j + 1) := by
  have hh : Crc.hits l.length bit pat j := ⟨hp, by omega, by omega⟩
  simp only [Crc.burst]
  rw [if_pos hh, hk, Int.toNat_natCast]
  rfl
set_option maxHeartbeats 1000000 in
theorem refBurst_any (A : Option Addr) (n cap : Nat) (l : List Nat) (bit : Int) (pat : Nat) (w : World) (hin : In w A n cap l) (hn : n ≤ 200) (hb1 : -9223372036854775808 ≤ bit) (hb2 : bit ≤ 9223372036854775807) (hp : pat < 4294967296) :
    Calls Tryd.prog 24 #[.slice A n cap, .int .i64 bit, .int .u32 pat] w (RetBytes w (Crc.burst l bit pat 32)) := by
  have HI := Lib.hid hin
  have HLen := Lib.hid hin.len
  clear hin
  go_enter Tryd.func24, Tryd.ntmps24
  by_cases hlow : bit < -31
  · go_wp2_with (at_builtin; refine wpList_app _ (.tmp 10) (.tmp 11) rfl rfl w.heap.size _ 0 [] rfl (own_empty w) w.heap.size A n cap l rfl (HI.out.reads.alloc (Nat.le_refl _) _) (by omega) (by simp) ?_; intro A1 n1 c1 w1 ho1 _ hn1 hb3)
    go_ret
    exact ⟨A1, n1, c1, rfl, by rw [Crc.burst_out l bit pat 32 (by omega) (.inl hlow)]; exact OwnB.of ho1, ((Below.refl w.heap.size w).alloc (Nat.le_refl _) _).trans hb3⟩
  · by_cases hhigh : 8 * (n : Int) ≤ bit
    · go_wp2_with (at_builtin; refine wpList_app _ (.tmp 10) (.tmp 11) rfl rfl w.heap.size _ 0 [] rfl (own_empty w) w.heap.size A n cap l rfl (HI.out.reads.alloc (Nat.le_refl _) _) (by omega) (by simp) ?_; intro A1 n1 c1 w1 ho1 _ hn1 hb3)
      go_ret
      exact ⟨A1, n1, c1, rfl, by rw [Crc.burst_out l bit pat 32 (by omega) (.inr (by have := HLen.out; omega))]; exact OwnB.of ho1, ((Below.refl w.heap.size w).alloc (Nat.le_refl _) _).trans hb3⟩
    · go_wp2_with (at_builtin; refine wpList_app _ (.tmp 10) (.tmp 11) rfl rfl w.heap.size _ 0 [] rfl (own_empty w) w.heap.size A n cap l rfl (HI.out.reads.alloc (Nat.le_refl _) _) (by omega) (by simp) ?_; intro A1 n1 c1 w1 ho1 _ hn1 hb3)
      have HB2 := Lib.hid (((Below.refl w.heap.size w).alloc (Nat.le_refl _) _).trans hb3)
      have HK2 := Lib.hid (OwnB.of ho1)
      have HN1 := Lib.hid (show n1 = n by have := (OwnB.of ho1).1; have := HLen.out; simp at *; omega)
      obtain rfl := HN1.out
      clear hb3 ho1 HN1
      go_loopw [8] (fun i wr => ∃ j : Nat, j ≤ 32 ∧ i = .int .i64 j ∧ Hid (Below w.heap.size w wr) ∧ Hid (OwnB wr w.heap.size A1 n1 (Crc.burst l bit pat j))) (fun i _ => 32 - (intOf i).toNat)
      case atStart => exact ⟨0, Nat.zero_le _, rfl, HB2, HK2⟩
      case round =>
        obtain ⟨j, hj, rfl, hb, hblk⟩ := hrel
        by_cases hlt : j < 32
        · rcases patbit pat j hp hlt with ⟨ht, e1⟩ | ⟨ht, e1⟩
          · have HS := Lib.hid (burst_miss l bit pat j (fun h => by have := h.1; omega))
            rw [HS.out] at hblk
            go_wp2
            go_roundw
            case rel => exact ⟨j + 1, by omega, by go_num, hb, hblk⟩
            case measure => simp [intOf]; omega
          · by_cases hneg : bit + (j : Int) < 0
            · have HS := Lib.hid (burst_miss l bit pat j (fun h => by have := h.2.1; omega))
              rw [HS.out] at hblk
              go_wp2
              go_roundw
              case rel => exact ⟨j + 1, by omega, by go_num, hb, hblk⟩
              case measure => simp [intOf]; omega
            · obtain ⟨kk, hkk⟩ : ∃ kk : Nat, bit + (j : Int) = (kk : Int) := ⟨(bit + j).toNat, by omega⟩
              have hkb : kk ≤ 3000 := by omega
              by_cases hin2 : (kk : Int) < 8 * (n1 : Int)
              · have HS := Lib.hid (burst_hit2 l bit pat j kk hkk ht (by have := HLen.out; omega))
                obtain ⟨g, _, hA1, _⟩ := hblk.out.2 (by omega)
                subst hA1
                obtain ⟨hcg, hfz, hbg⟩ := hblk.out.cell (show kk / 8 < n1 by omega)
                have hc8 := burst_at l bit pat j (kk / 8) HI.out.bytes
                generalize (Crc.burst l bit pat j).getD (kk / 8) 0 = c at *
                have e8 := xor_bit c kk hc8
                generalize c ^^^ 2 ^ (kk % 8) = d at *
                go_wp2
                go_region
                go_wp2
                go_roundw
                case rel => exact ⟨j + 1, by omega, by go_num, (hb.out.setCell (p := ⟨g, kk / 8, none⟩) hbg _).drew, by have h := (hblk.out.store (show kk / 8 < n1 by omega) d).drew; rw [HS.out] at h; exact h⟩
                case measure => simp [intOf]; omega
              · have HS := Lib.hid (burst_miss l bit pat j (fun h => by have := h.2.2; have := HLen.out; omega))
                rw [HS.out] at hblk
                go_wp2
                go_roundw
                case rel => exact ⟨j + 1, by omega, by go_num, hb, hblk⟩
                case measure => simp [intOf]; omega
        · have hjj : j = 32 := by omega
          subst hjj
          go_wp2
          go_ret
          exact ⟨A1, n1, c1, rfl, hblk.out, hb.out⟩

theorem own_cap {w : World} {base : Nat} {e : TypeId} {size : Nat} {A : Option Addr} {n c : Nat} {xs : List Value} (h : w.ownsRow base e size (.slice A n c) n xs) : n ≤ c ∧ c ≤ 9223372036854775807 := by
  rcases h.2 with ⟨hv, h0⟩ | ⟨g, cap, cur, hv, _, _, hnc, hm, _⟩
  · injection hv with h1 h2 h3
    omega
  · injection hv with h1 h2 h3
    subst h3
    exact ⟨hnc, hm⟩
theorem blk_reads {w : World} {g n : Nat} {l : List Nat} (h : Blk w g 5 (u8s l).toArray) (hn : l.length = n) : Reads w w.heap.size 1 (some ⟨g, 0, none⟩) n (u8s l) := by
  refine ⟨by simp [u8s, hn], fun _ => ⟨_, rfl, h.lt, fun j u hu => ?_⟩⟩
  rw [add_plain, h.cell j]
  simpa using hu
theorem blk_set {w : World} {g : Nat} {k : List Nat} (h : Blk w g 5 (u8s k).toArray) (j d : Nat) : Blk (w.setCell ⟨g, j, none⟩ (.int .u8 (d : Int))) g 5 (u8s (k.set j d)).toArray := by
  have h2 := h.set_ j (.int .u8 (d : Int))
  have e : (u8s k).toArray.setIfInBounds j (.int .u8 (d : Int)) = (u8s (k.set j d)).toArray := by simp [u8s, List.map_set]
  rw [e] at h2
  exact h2
theorem inc_byte (c : Nat) : IntKind.u8.wrap ((c : Int) + 1) = (((c + 1) % 256 : Nat) : Int) := by rw [IntKind.wrap_u8']; omega
set_option maxHeartbeats 2000000 in
theorem crcBursts_core (A : Option Addr) (n cap m : Nat) (l : List Nat) (bit : Int) (pat : Nat) (w : World) (hin : In w A m cap l) (hm : m ≤ 200) (ht : Tab w) (hb1 : -9223372036854775808 ≤ bit) (hb2 : bit ≤ 9223372036854775807) (hp : pat < 4294967296)
    (hcut : Calls Tryd.prog 13 #[.slice A n cap, .int .i64 200] w fun e w' => e = .returned (.slice A m cap) ∧ w = w') :
    Calls Tryd.prog 9 #[.slice A n cap, .int .i64 bit, .int .u32 pat] w fun e w' => e = .returned (.bool true) ∧ Below w.heap.size w w' := by
  have HI := Lib.hid hin
  have HT := Lib.hid ht
  have HC := Lib.hid hcut
  have HLen := Lib.hid hin.len
  clear hin ht hcut
  go_enter Tryd.func9, Tryd.ntmps9
  go_wp2_with (first
    | (go_at_call 13; refine HC.out.mono ?_; rintro e w' ⟨rfl, rfl⟩)
    | (at_builtin; refine wpList_app _ (.tmp 12) (.tmp 13) rfl rfl w.heap.size _ 0 [] rfl (own_empty w) w.heap.size A m cap l rfl (HI.out.reads.alloc (Nat.le_refl _) _) (by omega) (by simp) ?_; intro A1 n1 c1 w1 ho1 hr1 hn1 hb3))
  have HB1 := Lib.hid (((Below.refl w.heap.size w).alloc (Nat.le_refl _) _).trans hb3)
  have HR1 := Lib.hid hr1
  have HW1 := Lib.hid (own_cap ho1)
  have HI1 := Lib.hid (show In w1 A m cap l from ⟨HI.out.bytes, (HI.out.reads.below HB1.out).more HB1.out.size, HI.out.le, HI.out.cap⟩)
  clear hb3 ho1 hr1
  refine (burst_any A m cap l bit pat w1 HI1.out hm hb1 hb2 hp).mono ?_
  rintro e w2 ⟨rfl, hblk2, hb4⟩
  have HB2 := Lib.hid hb4
  have HK2 := Lib.hid hblk2
  have HT2 := Lib.hid (HT.out.below HT.out.size (HB1.out.trans (hb4.mono HB1.out.size)))
  clear hb4 hblk2
  go_wp2_with fail
  refine (awake_any w2 HT2.out).mono ?_
  rintro e w3 ⟨rfl, hb5⟩
  have HB3 := Lib.hid (HB2.out.trans (hb5.mono HB2.out.size))
  have HK3 := Lib.hid (HK2.out.below hb5 HK2.out.lt)
  clear hb5
  have HI3 := Lib.hid (show In w3 A1 n1 c1 l from ⟨HI.out.bytes, (HR1.out.below HB3.out).more HB3.out.size, HW1.out.1, HW1.out.2⟩)
  go_wp2_with fail
  refine (refBurst_any A1 n1 c1 l bit pat w3 HI3.out (by omega) hb1 hb2 hp).mono ?_
  rintro e w4 ⟨A4, n4, c4, rfl, ho4, hb6⟩
  have HB4 := Lib.hid (HB3.out.trans (hb6.mono HB3.out.size))
  have HK4 := Lib.hid (HK3.out.below hb6 HK3.out.lt)
  have HO4 := Lib.hid ho4
  clear hb6 ho4
  have HBy := Lib.hid (Crc.burst_bytes HI.out.bytes bit pat 32)
  have HBl := Lib.hid (show (Crc.burst l bit pat 32).length = m by rw [Crc.burst_len]; exact HLen.out)
  go_wp2_with fail
  refine (same_any _ A4 m m n4 c4 _ _ _ _ w4 HBy.out HBy.out (blk_reads HK4.out HBl.out) HO4.out.reads true (by simp)).mono ?_
  rintro e w' ⟨rfl, rfl⟩
  go_wp2_with fail
  refine (same_any A A1 m cap n1 c1 _ _ l l w4 HI.out.bytes HI.out.bytes (HI1.out.reads.below HB4.out) (HR1.out.below HB4.out) true (by simp)).mono ?_
  rintro e w' ⟨rfl, rfl⟩
  go_wp2_with fail
  go_loopw [38] (fun i wr => ∃ (j : Nat) (k : List Nat), j ≤ m ∧ i = .int .i64 j ∧ Hid (k.length = m) ∧ Hid (Below w1.heap.size w1 wr) ∧ Hid (Blk wr w1.heap.size 5 (u8s k).toArray)) (fun i _ => m - (intOf i).toNat)
  case atStart => exact ⟨0, _, Nat.zero_le _, rfl, HBl, HB4, HK4⟩
  case round =>
    obtain ⟨j, k, hj, rfl, hk, hb, hblk⟩ := hrel
    by_cases hlt : j < m
    · have hfz := hblk.out.frozen j
      have hcg : wr.cell? ⟨w1.heap.size, j, none⟩ = some (.int .u8 ((k.getD j 0 : Nat) : Int)) := by
        have hl : j < k.length := by rw [hk.out]; exact hlt
        rw [hblk.out.cell j]; simp [u8s, List.getD, hl]
      generalize k.getD j 0 = c at *
      have e1 := inc_byte c
      generalize (c + 1) % 256 = d at *
      go_wp2
      go_roundw
      case rel => exact ⟨j + 1, k.set j d, by omega, by go_num, by show _ = _; rw [List.length_set]; exact hk.out, hb.out.setCell (p := ⟨w1.heap.size, j, none⟩) (Nat.le_refl _) _, blk_set hblk.out j d⟩
      case measure => simp [intOf]; omega
    · go_wp2_with fail
      refine (same_any A A1 m cap n1 c1 _ _ l l wr HI.out.bytes HI.out.bytes (HI1.out.reads.below hb.out) (HR1.out.below hb.out) true (by simp)).mono ?_
      rintro e w' ⟨rfl, rfl⟩
      go_wp2
      go_ret
      exact ⟨rfl, HB1.out.trans (hb.out.mono HB1.out.size)⟩
theorem crcBursts_walk (A : Option Addr) (n cap : Nat) (l : List Nat) (bit : Int) (a : Int) (w : World) (hin : In w A n cap l) (wb : (Lit.int .i64 bit).wf = true) (wa : (Lit.int .u32 a).wf = true) (ht : Tab w) :
    Calls Tryd.prog 9 #[.slice A n cap, .int .i64 bit, .int .u32 a] w fun e w' => e = .returned (.bool true) ∧ Below w.heap.size w w' := by
  obtain ⟨h0, h1⟩ := bounds_u32 wa
  obtain ⟨h2, h3⟩ := bounds_i64 wb
  obtain ⟨c, rfl⟩ := Int.eq_ofNat_of_zero_le h0
  exact crcBursts_core A n cap _ _ bit c w (hin.cut 200) (by omega) ht h2 h3 (by omega) (cut_any A n cap 200 w hin.le hin.cap (by omega))
end Go.Proofs.YtkpfciacfajddaaDoor
