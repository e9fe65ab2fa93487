/- The walks and laws that the claim leans on, part 56. -/
import Derived.Test.YtpihhlbfpbngaaaGreatDoorJLcua
namespace Go.Proofs.YtpihhlbfpbngaaaGreatDoor
open Go.RowKit Go.Maps
theorem bStr_inj {l l2 : List Nat} (h1 : ∀ b ∈ l, b < 256) (h2 : ∀ b ∈ l2, b < 256) (h : bStr l = bStr l2) : l = l2 := by
  have e : l.map UInt8.ofNat = l2.map UInt8.ofNat := by
    have := congrArg (fun s : ByteArray => s.data.toList) h
    simpa [bStr] using this
  have hlen : l.length = l2.length := by simpa using congrArg List.length e
  apply List.ext_getElem hlen
  intro i hi hi2
  have h3 := congrArg (fun x : List UInt8 => x[i]?) e
  simp only [List.getElem?_map, List.getElem?_eq_getElem hi, List.getElem?_eq_getElem hi2, Option.map_some, Option.some.injEq] at h3
  have h4 := congrArg UInt8.toNat h3
  rw [UInt8.toNat_ofNat_of_lt' (h1 _ (List.getElem_mem hi)), UInt8.toNat_ofNat_of_lt' (h2 _ (List.getElem_mem hi2))] at h4
  exact h4
set_option maxRecDepth 100000 in
set_option maxHeartbeats 2000000 in
theorem bytesEq_not (A A2 : Option Addr) (n c n2 c2 B B2 : Nat) (l l2 : List Nat) (w : World) (h : Reads w B 1 A n (u8s l)) (h2 : Reads w B2 1 A2 n2 (u8s l2)) (hl : ∀ b ∈ l, b < 256) (hl2 : ∀ b ∈ l2, b < 256) (hne : l ≠ l2) :
    Calls Tryz.prog 26 #[.slice A n c, .slice A2 n2 c2] w fun e w' => e = .returned (.bool false) ∧ w = w' := by
  have k1 := run_bStr (c := c) w h hl
  have k2 := run_bStr (c := c2) w h2 hl2
  have hs : ¬ bStr l = bStr l2 := fun e => hne (bStr_inj hl hl2 e)
  generalize bStr l = s at *
  generalize bStr l2 = s2 at *
  have d1 : (s.toList == s2.toList) = false := by
    rw [ByteArray.toList_eq, ByteArray.toList_eq]
    exact beq_eq_false_iff_ne.2 (fun e => hs (ByteArray.ext (Array.ext' e)))
  clear h h2 hl hl2 hne
  go_enter Tryz.func26, Tryz.ntmps26
  go_wp2
  go_ret
  exact ⟨rfl, rfl⟩
section
variable {a : DA} {L T s n K : Nat} {x : HA} {cs : Nat → CS} {f : Nat → Option Nat} {N m b0 : Nat} {S : Fp} {cur : Nat → Nat} {w w' : World} {d r : Nat}
set_option maxRecDepth 100000
set_option maxHeartbeats 2000000
end
end Go.Proofs.YtpihhlbfpbngaaaGreatDoor
namespace Go.Proofs.YtpihhlbfpbngaaaGreatDoor
open Go.ChangeShapes Go.WideShapes Go.ChangeAt Go.RowKit
def buV (u : Nat × Int × Nat) : Value := .agg #[.int .u8 (u.1 : Int), .int .i64 u.2.1, .int .u32 (u.2.2 : Int)]
def BuOk (u : Nat × Int × Nat) : Prop := u.1 < 256 ∧ -9223372036854775808 ≤ u.2.1 ∧ u.2.1 ≤ 9223372036854775807 ∧ u.2.2 < 4294967296
section
variable {H : Type} {enc : TypeId × Value → H} {W : World} {b0 base : Nat} {sp : Nat → Bool} {held : Bool} {v : Value} {d : DataW H} {p : List MemPlace} {r : Reach}
end
end Go.Proofs.YtpihhlbfpbngaaaGreatDoor
namespace Go.Proofs.YtpihhlbfpbngaaaGreatDoor
open Go.RowKit
theorem InB.len {w : World} {A : Option Addr} {n c : Nat} {l : List Nat} (h : InB w A n c l) : l.length = n := by have := h.r.1; simpa [u8s] using this
theorem u8s_one (l : List Nat) : ∀ u ∈ u8s l, u.oneCell' = true := fun u hu => by
  unfold u8s at hu
  obtain ⟨y, _, rfl⟩ := List.mem_map.1 hu
  rfl
theorem made_u8 (n : Nat) : madeCells #[.int .u8 0] n = (u8s (List.replicate n 0)).toArray := by
  apply Array.ext'
  rw [toList_madeCells_one]
  unfold u8s
  simp
theorem make_bytes (n : Nat) (hn : n ≤ 1000000) (w : World) : (Instr.makeSlice 22 (.int .i64 (n : Int)) (.int .i64 (n : Int))).run Tryz.prog w = .ok (.slice (some ⟨w.heap.size, 0, none⟩) n n) (w.alloc (.cells (u8s (List.replicate n 0)).toArray 5)) := by
  have h := makeB n hn w
  rw [made_u8] at h
  exact h
theorem splice_all (a b : List Value) (h : a.length = b.length) : splice a 0 b = b := by
  simp [splice, h]
theorem wpList_cpy (w : World) {ops : Array Oper} {rest : List Oper} {o : Oper} {a : Act} {Q : Exit → Act → World → Prop} (hgd : o.guard = none) (d s : Operand)
    (ho : o.op = .call { callee := .builtin .copy, args := #[d, s], argTypes := #[22, 22] })
    (g n cap : Nat) (A : Option Addr) (zs l : List Nat) (hd : a.eval d = .slice (some ⟨g, 0, none⟩) n n) (hs : a.eval s = .slice A n cap)
    (hg : Blk w g 5 (u8s zs).toArray) (hz : zs.length = n) (B : Nat) (hr : Reads w B 1 A n (u8s l)) (B0 : Nat) (w0 : World) (hb : Below B0 w0 w) (hBg : B0 ≤ g)
    (h : ∀ w', Blk w' g 5 (u8s l).toArray → Below B0 w0 w' → wpList Tryz.prog ops Q rest (a.put o.dst (goInt n)) w') : wpList Tryz.prog ops Q (o :: rest) a w := by
  have hl : l.length = n := by have := hr.1; simpa [u8s] using this
  have hl' : (u8s l).length = n := by simpa [u8s] using hl
  have hz' : (u8s zs).length = n := by simpa [u8s] using hz
  refine wpList_copy_splice hgd d s 22 22 ho 5 Tryz.underlying22 (by kernel_rfl) _ _ _ _ _ _ hd hs g 0 (u8s zs) 5 hg (u8s l) (by rw [hl']; exact (Nat.min_self n).symm) ?_ (by omega) (u8s_one l) B0 w0 hb hBg ?_
  · intro h0
    obtain ⟨ad, hA, _, hc⟩ := hr.2 (by omega)
    exact ⟨rfl, ad, hA, hc⟩
  · intro w' h1 h2
    have h3 : w'.heap[g]? = some (.cells (splice (u8s zs) 0 (u8s l)).toArray 5 (0, 0)) := h1
    rw [splice_all _ _ (by omega)] at h3
    have := h w' h3 h2
    rw [hl']
    exact this
theorem patbit (pat j : Nat) (hp : pat < 4294967296) (_hj : j < 32) : (pat / 2 ^ j % 2 = 0 ∧ bits .and .u32 ((pat : Int) / 2 ^ j) 1 = 0) ∨ (pat / 2 ^ j % 2 = 1 ∧ bits .and .u32 ((pat : Int) / 2 ^ j) 1 = 1) := by
  have e : ((pat : Int) / 2 ^ j) = ((pat / 2 ^ j : Nat) : Int) := by simp
  have h := u32_and_nat (pat / 2 ^ j) 1 (Nat.lt_of_le_of_lt (Nat.div_le_self _ _) hp) (by omega)
  rw [Nat.and_one_is_mod, ← e, show ((1 : Nat) : Int) = 1 from rfl] at h
  have h2 : pat / 2 ^ j % 2 = 0 ∨ pat / 2 ^ j % 2 = 1 := by omega
  rcases h2 with h2 | h2
  · exact .inl ⟨h2, by rw [h, h2]; rfl⟩
  · exact .inr ⟨h2, by rw [h, h2]; rfl⟩
theorem burst_miss (l : List Nat) (bit : Int) (pat j : Nat) (h : ¬ Crc.hits l.length bit pat j) : Crc.burst l bit pat j = Crc.burst l bit pat (j + 1) := by
  simp only [Crc.burst]; rw [if_neg h]
theorem burst_hit (l : List Nat) (bit : Int) (pat j kk : Nat) (hk : bit + (j : Int) = (kk : Int)) (hp : pat / 2 ^ j % 2 = 1) (hl : kk / 8 < l.length) :
    (u8s (Crc.burst l bit pat j)).toArray.setIfInBounds (kk / 8) (.int .u8 (((Crc.burst l bit pat j).getD (kk / 8) 0 ^^^ 2 ^ (kk % 8) : Nat) : Int)) = (u8s (Crc.burst l bit pat (j + 1))).toArray := by
  have hh : Crc.hits l.length bit pat j := ⟨hp, by omega, by omega⟩
  simp only [Crc.burst]
  rw [if_pos hh, hk, Int.toNat_natCast]
  simp [Crc.flip, u8s, List.map_set]
theorem burst_cell (l : List Nat) (bit : Int) (pat j kk : Nat) {wr : World} {g : Nat} (h : Blk wr g 5 (u8s (Crc.burst l bit pat j)).toArray) (hl : kk / 8 < l.length) :
    wr.cell? ⟨g, kk / 8, none⟩ = some (.int .u8 (((Crc.burst l bit pat j).getD (kk / 8) 0 : Nat) : Int)) := by
  have hl' : kk / 8 < (Crc.burst l bit pat j).length := by rw [Crc.burst_len]; exact hl
  rw [h.cell]
  simp [u8s, List.getD, hl']
theorem burst_at (l : List Nat) (bit : Int) (pat j i : Nat) (hl : ∀ b ∈ l, b < 256) : (Crc.burst l bit pat j).getD i 0 < 256 := by
  by_cases hi : i < (Crc.burst l bit pat j).length
  · simp only [List.getD, List.getElem?_eq_getElem hi, Option.getD_some]; exact Crc.burst_bytes hl bit pat j _ (List.getElem_mem hi)
  · simp [List.getD, List.getElem?_eq_none (show (Crc.burst l bit pat j).length ≤ i by omega)]
theorem xor_bit (c kk : Nat) (hc : c < 256) : bits .xor .u8 (c : Int) (2 ^ (kk % 8) % 256) = ((c ^^^ 2 ^ (kk % 8) : Nat) : Int) := by
  have hp : 2 ^ (kk % 8) < 256 := Nat.pow_lt_pow_right (n := 8) (by omega) (Nat.mod_lt _ (by omega))
  have e : ((2 : Int) ^ (kk % 8) % 256) = ((2 ^ (kk % 8) : Nat) : Int) := by
    have : ((2 : Int) ^ (kk % 8)) = ((2 ^ (kk % 8) : Nat) : Int) := by simp
    rw [this]
    generalize 2 ^ (kk % 8) = p at *
    omega
  rw [e]
  exact u8_xor_nat _ _ hc hp
theorem tdiv8 (b : Int) : (0 ≤ b → b.tdiv 8 = b / 8) ∧ (b < 0 → b.tdiv 8 ≤ 0 ∧ b ≤ 8 * b.tdiv 8) := by
  constructor
  · intro h; exact Int.tdiv_eq_ediv_of_nonneg h
  · intro h
    have e : b.tdiv 8 = -((-b).tdiv 8) := by rw [Int.neg_tdiv]; omega
    rw [e, Int.tdiv_eq_ediv_of_nonneg (by omega : (0 : Int) ≤ -b)]
    omega
set_option maxHeartbeats 1000000 in
theorem burst_any (A : Option Addr) (n cap : Nat) (l : List Nat) (bit : Int) (pat : Nat) (w : World) (hin : InB w A n cap l) (hn : n ≤ 1000) (hb1 : -9223372036854775808 ≤ bit) (hb2 : bit ≤ 9223372036854775807) (hp : pat < 4294967296) :
    Calls Tryz.prog 22 #[.slice A n cap, .int .i64 bit, .int .u32 pat] w fun e w' => e = .returned (.slice (some ⟨w.heap.size, 0, none⟩) n n) ∧ Blk w' w.heap.size 5 (u8s (Crc.burst l bit pat 32)).toArray ∧ Below w.heap.size w w' := by
  have HI := Lib.hid hin
  have HLen := Lib.hid (InB.len hin)
  have hmk := make_bytes n (by omega) w
  have HB0 := Lib.hid ((Below.refl w.heap.size w).alloc (Nat.le_refl _) (.cells (u8s (List.replicate n 0)).toArray 5))
  have HK0 := Lib.hid (Blk.new w 5 (u8s (List.replicate n 0)).toArray)
  clear hin
  generalize w.alloc (.cells (u8s (List.replicate n 0)).toArray 5) = w1 at *
  go_enter Tryz.func22, Tryz.ntmps22
  go_wp2_with (refine wpList_cpy _ rfl (.tmp 13) (.tmp 14) rfl w.heap.size n cap A (List.replicate n 0) l rfl rfl HK0.out (List.length_replicate ..) _ (HI.out.r.below HB0.out) w.heap.size w HB0.out (Nat.le_refl _) ?_; intro w2 hblk2 hb3)
  have HB2 := Lib.hid hb3
  have HK2 := Lib.hid hblk2
  clear hb3 hblk2 hmk
  go_loopw [16] (fun i wr => ∃ j : Nat, j ≤ 32 ∧ i = .int .i64 j ∧ Hid (Below w.heap.size w wr) ∧ Hid (Blk wr w.heap.size 5 (u8s (Crc.burst l bit pat j)).toArray)) (fun i _ => 32 - (Go.RowKit.intOf i).toNat)
  case atStart => exact ⟨0, Nat.zero_le _, rfl, HB2, HK2⟩
  case round =>
    obtain ⟨j, hj, rfl, hb, hblk⟩ := hrel
    by_cases hlt : j < 32
    · rcases patbit pat j hp hlt with ⟨ht, e1⟩ | ⟨ht, e1⟩
      · have HS := Lib.hid (burst_miss l bit pat j (fun h => by have := h.1; omega))
        rw [HS.out] at hblk
        go_wp2
        go_roundw
        case rel => exact ⟨j + 1, by omega, by go_num, hb, hblk⟩
        case measure => simp [Go.RowKit.intOf]; omega
      · by_cases hlow : bit < -(j : Int)
        · have HS := Lib.hid (burst_miss l bit pat j (fun h => by have := h.2.1; omega))
          rw [HS.out] at hblk
          go_wp2
          go_roundw
          case rel => exact ⟨j + 1, by omega, by go_num, hb, hblk⟩
          case measure => simp [Go.RowKit.intOf]; omega
        · by_cases hhigh : (n : Int) ≤ bit.tdiv 8
          · have HS := Lib.hid (burst_miss l bit pat j (fun h => by have := h.2.2; have := HLen.out; have := tdiv8 bit; omega))
            rw [HS.out] at hblk
            go_wp2
            go_roundw
            case rel => exact ⟨j + 1, by omega, by go_num, hb, hblk⟩
            case measure => simp [Go.RowKit.intOf]; omega
          · have hbu : bit ≤ 9000 := by have := tdiv8 bit; omega
            obtain ⟨kk, hkk⟩ : ∃ kk : Nat, bit + (j : Int) = (kk : Int) := ⟨(bit + j).toNat, by omega⟩
            have hkb : kk ≤ 10000 := by omega
            by_cases hin2 : kk / 8 < n
            · have HS := Lib.hid (burst_hit l bit pat j kk hkk ht (by have := HLen.out; omega))
              have hfz := hblk.out.frozen (kk / 8)
              have hcg := burst_cell l bit pat j kk hblk.out (by have := HLen.out; omega)
              have hc8 := burst_at l bit pat j (kk / 8) HI.out.b
              generalize (Crc.burst l bit pat j).getD (kk / 8) 0 = c at *
              have e8 := xor_bit c kk hc8
              generalize c ^^^ 2 ^ (kk % 8) = d at *
              go_wp2
              go_roundw
              case rel => exact ⟨j + 1, by omega, by go_num, hb.out.setCell (p := ⟨w.heap.size, kk / 8, none⟩) (Nat.le_refl _) _, by have h := hblk.out.set_ (kk / 8) (.int .u8 (d : Int)); rw [HS.out] at h; exact h⟩
              case measure => simp [Go.RowKit.intOf]; omega
            · have HS := Lib.hid (burst_miss l bit pat j (fun h => by have := h.2.2; have := HLen.out; omega))
              rw [HS.out] at hblk
              go_wp2
              go_roundw
              case rel => exact ⟨j + 1, by omega, by go_num, hb, hblk⟩
              case measure => simp [Go.RowKit.intOf]; omega
    · have hjj : j = 32 := by omega
      subst hjj
      go_wp2
      go_ret
      exact ⟨rfl, hblk.out, hb.out⟩
end Go.Proofs.YtpihhlbfpbngaaaGreatDoor
