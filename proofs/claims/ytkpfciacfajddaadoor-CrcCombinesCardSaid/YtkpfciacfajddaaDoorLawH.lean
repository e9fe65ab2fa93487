/- The walks of the reference's apply and Combine, and of the law CrcCombines. -/
import Derived.Test.YtkpfciacfajddaaDoorLawG
namespace Go.Proofs.YtkpfciacfajddaaDoor
open Go.RowKit

def u32s (l : List Nat) : List Value := l.map fun (b : Nat) => Value.int .u32 (b : Int)
theorem u32s_at {l : List Nat} {k : Nat} {u : Value} (h : (u32s l)[k]? = some u) : ∃ hk : k < l.length, u = .int .u32 ((l[k] : Nat) : Int) := by
  simp only [u32s, List.getElem?_map, Option.map_eq_some_iff] at h
  obtain ⟨a, ha, rfl⟩ := h
  obtain ⟨hk, rfl⟩ := List.getElem?_eq_some_iff.1 ha
  exact ⟨hk, rfl⟩
theorem u32_info : (Tryd.prog.info? 25).map (fun i => (i.zero, i.size, i.bytes)) = some (some (.int .u32 0), 1, 4) := by kernel_rfl
theorem u32s_one (l : List Nat) : ∀ u ∈ u32s l, u.oneCell' = true := by
  intro u hu
  simp only [u32s, List.mem_map] at hu
  obtain ⟨b, _, rfl⟩ := hu
  rfl
theorem u32s_append (l m : List Nat) : u32s l ++ u32s m = u32s (l ++ m) := by simp [u32s]
/-- 'append' of words of 32 bits onto a row of the call's own. -/
theorem wpList_app32 (w : World) {ops : Array Oper} {rest : List Oper} {o : Oper} {a : Act} {Q : Exit → Act → World → Prop} (s x : Operand)
    (hw : Region.wanted o (yielded ops a.tmps) = true)
    (ho : o.op = .call { callee := .builtin .append, args := #[s, x], argTypes := #[44, 44] })
    (base : Nat) (v : Value) (n : Nat) (l : List Nat) (hs : a.eval s = v) (hown : w.ownsRow base 25 1 v n (u32s l))
    (B : Nat) (A : Option Addr) (m c : Nat) (k : List Nat) (hx : a.eval x = .slice A m c) (hr : Reads w B 1 A m (u32s k))
    (h1 : n + m ≤ 1000000) (hbase : base ≤ w.heap.size)
    (h : ∀ A' n' c' w', w'.ownsRow base 25 1 (.slice A' n' c') n' (u32s (l ++ k)) → Below base w w' → wpList Tryd.prog ops Q rest (a.put o.dst (.slice A' n' c')) w') : wpList Tryd.prog ops Q (o :: rest) a w := by
  obtain ⟨i0, hi0, hz0, hz1, hz2⟩ := info_parts u32_info
  refine Go.BigFrame.wpList_want hw fun K hK => ?_
  refine wp_append_any w s x 44 ho base 25 i0 _ 1 4 Tryd.underlying44 hi0 hz0 hz1 hz2 rfl (by omega) v _ _ hs hown B A m c _ hx hr (u32s_one k) (by unfold maxLen; omega) (by omega) hbase ?_
  intro v' w' h2 h3 _
  obtain ⟨A', c', rfl⟩ := own_slice h2
  rw [u32s_append] at h2
  exact hK _ _ (h A' _ c' w' h2 ((Below.refl _ _).grown h3 hbase (fun j hj => (hown.lt j hj).1)))
theorem own_empty32 (w : World) : (w.alloc (.cells #[] 25)).ownsRow w.heap.size 25 1 (.slice (some ⟨w.heap.size, 0, none⟩) 0 0) 0 (u32s []) :=
  World.ownsRow_made w #[] 0 (Nat.le_refl _) (by simp [maxLen]) rfl
theorem row_reads32 (w : World) (l : List Nat) (o : Obj) (ho : o = .cells (u32s l).toArray 25) : Reads (w.alloc o) (w.heap.size + 1) 1 (some ⟨w.heap.size, 0, none⟩) l.length (u32s l) := by
  subst ho
  refine ⟨by simp [u32s], fun _ => ⟨_, rfl, by show w.heap.size < _; omega, fun j u hu => ?_⟩⟩
  have ha : (⟨w.heap.size, 0, none⟩ : Addr).add j = ⟨w.heap.size, j, none⟩ := by unfold Addr.add; split <;> simp_all
  have hh : (w.alloc (.cells (u32s l).toArray 25)).heap[w.heap.size]? = some (.cells (u32s l).toArray 25 (0, 0)) := heap_alloc_new w _
  rw [ha, cell_of_row _ _ _ _ _ _ hh]
  simpa using hu
theorem applyTo_lt (m : List Nat) (hm : ∀ b ∈ m, b < 4294967296) (v k : Nat) : Crc.applyTo m v k < 4294967296 := by
  induction k with
  | zero => simp [Crc.applyTo]
  | succ k ih =>
    simp only [Crc.applyTo]
    have hg : m.getD k 0 < 4294967296 := by
      by_cases hk : k < m.length
      · simp only [List.getD, List.getElem?_eq_getElem hk, Option.getD_some]; exact hm _ (List.getElem_mem hk)
      · simp [List.getD, List.getElem?_eq_none (show m.length ≤ k by omega)]
    have h2 : v / 2 ^ k % 2 = 0 ∨ v / 2 ^ k % 2 = 1 := by omega
    exact Crc.xor_lt ih (by rcases h2 with h2 | h2 <;> rw [h2] <;> omega)
theorem vbit (pat j : Nat) (hp : pat < 4294967296) : (pat / 2 ^ j % 2 = 0 ∧ bits .and .u32 ((pat : Int) / 2 ^ j) 1 = 0) ∨ (pat / 2 ^ j % 2 = 1 ∧ bits .and .u32 ((pat : Int) / 2 ^ j) 1 = 1) := by
  have e : ((pat : Int) / 2 ^ j) = ((pat / 2 ^ j : Nat) : Int) := by simp
  have h := u32_and_nat (pat / 2 ^ j) 1 (Nat.lt_of_le_of_lt (Nat.div_le_self _ _) hp) (by omega)
  rw [Nat.and_one_is_mod, ← e, show ((1 : Nat) : Int) = 1 from rfl] at h
  have h2 : pat / 2 ^ j % 2 = 0 ∨ pat / 2 ^ j % 2 = 1 := by omega
  rcases h2 with h2 | h2
  · exact .inl ⟨h2, by rw [h, h2]; rfl⟩
  · exact .inr ⟨h2, by rw [h, h2]; rfl⟩
theorem apply_no (m : List Nat) (v k : Nat) (h : v / 2 ^ k % 2 = 0) : Crc.applyTo m v k = Crc.applyTo m v (k + 1) := by simp [Crc.applyTo, h]
theorem apply_yes (m : List Nat) (v k : Nat) (h : v / 2 ^ k % 2 = 1) (hk : k < m.length) : Crc.applyTo m v k ^^^ m[k] = Crc.applyTo m v (k + 1) := by simp [Crc.applyTo, h, List.getD, hk]

set_option maxHeartbeats 1000000 in
theorem apply_any (A : Option Addr) (n cap B : Nat) (l : List Nat) (v : Nat) (hv : v < 4294967296) (hl : ∀ b ∈ l, b < 4294967296) (hlen : l.length = 32) (w : World) (hrd : Reads w B 1 A n (u32s l)) :
    Calls Tryd.prog 30 #[.slice A n cap, .int .u32 v] w fun e w' => e = .returned (.int .u32 ((Crc.applyTo l v 32 : Nat) : Int)) ∧ w = w' := by
  have hn : n = 32 := by have := hrd.1; simp [u32s, hlen] at this; omega
  subst hn
  have HL := Lib.hid hl
  have HR := Lib.hid hrd
  have HN := Lib.hid hlen
  clear hl hrd hlen
  go_enter Tryd.func30, Tryd.ntmps30
  go_wp2
  go_loop [5, 6] (fun o i => ∃ k : Nat, k ≤ 32 ∧ i = .int .i64 k ∧ o = .int .u32 ((Crc.applyTo l v k : Nat) : Int)) (fun _ i => 32 - (intOf i).toNat)
  case atStart => exact ⟨0, Nat.zero_le _, rfl, rfl⟩
  case round =>
    obtain ⟨k, hk, rfl, rfl⟩ := hrel
    have ho := applyTo_lt l HL.out v k
    by_cases hlt : k < 32
    · obtain ⟨ad, u, hA, _, hu, hcell⟩ := HR.out.at_ hlt
      obtain ⟨hkl, rfl⟩ := u32s_at hu
      subst hA
      have hxl := HL.out _ (List.getElem_mem hkl)
      have ex := u32_xor_nat _ _ ho hxl
      rcases vbit v k hv with ⟨b1, e1⟩ | ⟨b1, e1⟩
      · have HS := Lib.hid (apply_no l v k b1)
        clear b1 hu ex
        generalize l[k] = y at *
        generalize Crc.applyTo l v k = o at *
        go_wp2
        go_round
        case rel => exact ⟨k + 1, by omega, by go_num, by rw [← HS.out]⟩
        case measure => simp [intOf]; omega
      · have HS := Lib.hid (apply_yes l v k b1 hkl)
        clear b1 hu
        generalize Crc.applyTo l v k ^^^ l[k] = z at *
        generalize l[k] = y at *
        generalize Crc.applyTo l v k = o at *
        go_wp2
        go_round
        case rel => exact ⟨k + 1, by omega, by go_num, by rw [← HS.out]⟩
        case measure => simp [intOf]; omega
    · have hk32 : k = 32 := by omega
      subst hk32
      go_wp2
      go_ret
      exact ⟨rfl, rfl⟩
/-- A slice of the call's own that holds these words of 32 bits. -/
def Own32 (w : World) (base : Nat) (v : Value) (l : List Nat) : Prop := ∃ (A : Option Addr) (n c : Nat), v = .slice A n c ∧ n = l.length ∧ w.ownsRow base 25 1 (.slice A n c) n (u32s l)
theorem Own32.mk_ {w : World} {base : Nat} {A : Option Addr} {n c : Nat} {l : List Nat} (h : w.ownsRow base 25 1 (.slice A n c) n (u32s l)) : Own32 w base (.slice A n c) l :=
  ⟨A, n, c, rfl, by have := h.1; simpa [u32s] using this.symm, h⟩
theorem Own32.more {w : World} {base base' : Nat} {v : Value} {l : List Nat} (h : Own32 w base v l) (hb : base' ≤ base) : Own32 w base' v l := by
  obtain ⟨A, n, c, rfl, hn, ho⟩ := h
  refine ⟨A, n, c, rfl, hn, ho.1, ?_⟩
  rcases ho.2 with h0 | ⟨g, cap, cur, h1, h2, h3⟩
  · exact .inl h0
  · exact .inr ⟨g, cap, cur, h1, Nat.le_trans hb h2, h3⟩
theorem own_below {w w' : World} {base : Nat} {e : TypeId} {size : Nat} {v : Value} {n : Nat} {xs : List Value} (h : w.ownsRow base e size v n xs) (hb : Below w.heap.size w w') : w'.ownsRow base e size v n xs := by
  refine ⟨h.1, ?_⟩
  rcases h.2 with h0 | ⟨g, cap, cur, h1, h2, h3, h4⟩
  · exact .inl h0
  · refine .inr ⟨g, cap, cur, h1, h2, ?_, h4⟩
    have : Blk w g e cur := h3
    exact (hb.block g this.lt).trans h3
def colsTo (M k : Nat) : List Nat := (List.range k).map fun i => Crc.SN M (2 ^ i)
theorem colsTo_snoc (M k : Nat) : colsTo M k ++ [Crc.SN M (2 ^ k)] = colsTo M (k + 1) := by simp [colsTo, List.range_succ]
theorem colsTo_len (M k : Nat) : (colsTo M k).length = k := by simp [colsTo]
theorem colsTo_all (M : Nat) : colsTo M 32 = Crc.cols M := rfl
theorem reg_zero (p : Nat) : Crc.reg p [0] = Crc.SN 8 p := by
  show Crc.step p 0 = _
  rw [Crc.step_eq, Nat.xor_zero]
theorem register_zero (p : Nat) (hp : p < 4294967296) (w : World) : Calls Tryd.prog 27 #[.int .u32 (p : Int), .slice (some ⟨w.heap.size, 0, none⟩) 1 1] (w.alloc (.cells #[.int .u8 0] 5)) fun e w' => e = .returned (.int .u32 ((Crc.SN 8 p : Nat) : Int)) ∧ Below w.heap.size w w' := by
  have h := register_any p hp (some ⟨w.heap.size, 0, none⟩) 1 1 _ [0] (w.alloc (.cells #[.int .u8 0] 5)) (by intro b hb; simp at hb; omega) (row_reads w [0] _ rfl) (by omega)
  rw [reg_zero] at h
  exact h.mono fun e w' ⟨he, m, hw⟩ => ⟨he, by rw [hw]; exact below_drewN ((Below.refl _ _).alloc (Nat.le_refl _) _) m⟩
theorem shl_u32 (i : Nat) (hi : i < 32) : IntKind.u32.wrap ((2 : Int) ^ i) = ((2 ^ i : Nat) : Int) := by
  have e : ((2 : Int) ^ i) = ((2 ^ i : Nat) : Int) := by simp
  have hp : 2 ^ i < 2 ^ 32 := Nat.pow_lt_pow_right (by omega) hi
  rw [e, IntKind.wrap_u32']
  generalize 2 ^ i = p at *
  omega
theorem apply_cols_any (A : Option Addr) (n cap M v : Nat) (hv : v < 4294967296) (w : World) (hrd : Reads w w.heap.size 1 A n (u32s (Crc.cols M))) (w' : World) (hb : Below w.heap.size w w') :
    Calls Tryd.prog 30 #[.slice A n cap, .int .u32 v] w' fun e w'' => e = .returned (.int .u32 ((Crc.SN M v : Nat) : Int)) ∧ w' = w'' := by
  have h := apply_any A n cap _ (Crc.cols M) v hv (Crc.cols_lt M) rfl w' (hrd.below hb)
  rw [Crc.apply_cols M v hv] at h
  exact h
theorem col_next (i k : Nat) : Crc.SN (8 * 2 ^ i) (Crc.SN (8 * 2 ^ i) (2 ^ k)) = Crc.SN (8 * 2 ^ (i + 1)) (2 ^ k) := by
  rw [← Crc.SN_add]
  congr 1
  rw [Nat.pow_succ]
  generalize 2 ^ i = p
  omega
theorem apply_next (A : Option Addr) (n cap i : Nat) (w : World) (hrd : Reads w w.heap.size 1 A n (u32s (Crc.cols (8 * 2 ^ i)))) (k : Nat) (hk : k < 32) (w' : World) (hb : Below w.heap.size w w') :
    Calls Tryd.prog 30 #[.slice A n cap, .int .u32 ((Crc.SN (8 * 2 ^ i) (2 ^ k) : Nat) : Int)] w' fun e w'' => e = .returned (.int .u32 ((Crc.SN (8 * 2 ^ (i + 1)) (2 ^ k) : Nat) : Int)) ∧ w' = w'' := by
  have h := apply_cols_any A n cap (8 * 2 ^ i) (Crc.SN (8 * 2 ^ i) (2 ^ k)) (Crc.SN_lt _ (Nat.pow_lt_pow_right (n := 32) (by omega) hk)) w hrd w' hb
  rw [col_next] at h
  exact h
theorem cols_cell (A : Option Addr) (n i : Nat) (w : World) (hrd : Reads w w.heap.size 1 A n (u32s (Crc.cols (8 * 2 ^ i)))) : ∃ ad, A = some ad ∧ ∀ (k : Nat), k < 32 → ∀ w', Below w.heap.size w w' → w'.cell? (ad.add k) = some (.int .u32 ((Crc.SN (8 * 2 ^ i) (2 ^ k) : Nat) : Int)) := by
  have hn : n = 32 := by have := hrd.1; simp [u32s, Crc.cols] at this; omega
  obtain ⟨ad, hA, hb, hc⟩ := hrd.2 (by omega)
  refine ⟨ad, hA, fun k hk w' hb' => ?_⟩
  rw [hb'.cell (by rw [block_of_add]; exact hb)]
  exact hc k _ (by simp [u32s, Crc.cols, hk])
set_option maxHeartbeats 1000000 in
theorem refCombine_any (a b : Nat) (n : Int) (ha : a < 4294967296) (hb : b < 4294967296) (hn2 : n ≤ 9223372036854775807) (w : World) :
    Calls Tryd.prog 26 #[.int .u32 a, .int .u32 b, .int .i64 n] w fun e w' => e = .returned (.int .u32 ((Crc.combine a b n : Nat) : Int)) ∧ Below w.heap.size w w' := by
  obtain ⟨T, hT⟩ : ∃ T, T = Crc.SN (8 * n.toNat) a := ⟨_, rfl⟩
  have HE := Lib.hid (show T ^^^ b = Crc.combine a b n by rw [hT]; rfl)
  have hTl : T < 4294967296 := by rw [hT]; exact Crc.SN_lt _ ha
  have HT := Lib.hid hT
  clear hT
  go_enter Tryd.func26, Tryd.ntmps26
  go_wp2
  go_loopw [7, 8] (fun v i wr => ∃ k : Nat, k ≤ 32 ∧ i = .int .i64 k ∧ Hid (Own32 wr w.heap.size v (colsTo 8 k)) ∧ Hid (Below w.heap.size w wr)) (fun _ i _ => 32 - (intOf i).toNat)
  case atStart => exact ⟨0, Nat.zero_le _, rfl, Own32.mk_ (own_empty32 w), (Below.refl _ _).alloc (Nat.le_refl _) _⟩
  case round =>
    obtain ⟨k, hk, rfl, hO, hB⟩ := hrel
    by_cases hlt : k < 32
    · obtain ⟨A3, n3, c3, hv3, hn3, ho3⟩ := hO.out
      have hlen : n3 ≤ 32 := by rw [hn3, colsTo_len]; omega
      have HO3 := Lib.hid ho3
      have hsz := hB.out.size
      have hw := shl_u32 k hlt
      have hp : 2 ^ k < 4294967296 := Nat.pow_lt_pow_right (n := 32) (by omega) hlt
      have HS := Lib.hid (colsTo_snoc 8 k)
      have HC := Lib.hid (register_zero _ hp wr)
      clear hn3 ho3 hO
      subst hv3
      generalize Crc.SN 8 (2 ^ k) = x at *
      generalize 2 ^ k = p at *
      generalize colsTo 8 k = cs at *
      go_wp2_with fail
      refine HC.out.mono ?_
      rintro e w1 ⟨rfl, hb1⟩
      have HO4 := Lib.hid (own_below HO3.out hb1)
      have HB1 := Lib.hid (hB.out.trans (hb1.mono hsz))
      have hsz1 := HB1.out.size
      clear hb1
      go_wp2_with (at_builtin; refine wpList_app32 _ (.tmp 16) (.tmp 21) rfl rfl w.heap.size _ _ _ rfl (HO4.out.alloc _) _ (some ⟨w1.heap.size, 0, none⟩) 1 1 [x] rfl (row_reads32 w1 [x] _ rfl) (by omega) (Nat.le_trans hsz1 (by simp)) ?_; intro A4 n4 c4 w4 ho4 hb4)
      have HO5 := Lib.hid (Own32.mk_ ho4)
      have HB5 := Lib.hid ((HB1.out.alloc hsz1 _).trans hb4)
      clear ho4 hb4
      rw [HS.out] at HO5
      go_wp2
      go_roundw
      case rel => exact ⟨k + 1, by omega, by go_num, HO5, HB5⟩
      case measure => simp [intOf]; omega
    · obtain rfl : k = 32 := by omega
      have HO1 : Hid (Own32 wr w.heap.size u7 (Crc.cols (8 * 2 ^ 0))) := hO
      clear hO hk hlt
      go_wp2
      go_loopw [0, 2, 7] (fun x z v wq => ∃ (i xx : Nat) (zz : Int), zz ≤ 9223372036854775807 ∧ xx < 4294967296 ∧ z = .int .i64 zz ∧ x = .int .u32 (xx : Int) ∧ Hid (Own32 wq w.heap.size v (Crc.cols (8 * 2 ^ i))) ∧ Hid (Below w.heap.size w wq) ∧ Hid (Crc.SN (8 * zz.toNat * 2 ^ i) xx = T)) (fun _ z _ _ => (intOf z).toNat)
      case atStart => exact ⟨0, a, n, hn2, ha, rfl, rfl, HO1, hB, by show _ = _; rw [Nat.pow_zero, Nat.mul_one, HT.out]⟩
      case round =>
        obtain ⟨i, xx, zz, hz, hx, rfl, rfl, hO2, hB2, hrel⟩ := hrel
        by_cases hpos : 0 < zz
        · obtain ⟨m, rfl⟩ := Int.eq_ofNat_of_zero_le (show 0 ≤ zz by omega)
          obtain ⟨A3, n3, c3, hv3, hn3, ho3⟩ := hO2.out
          have HO3 := Lib.hid ho3
          have HR3 := Lib.hid (Reads.of_own ho3)
          subst hv3
          clear hn3 ho3 hO2
          obtain ⟨wo, rfl⟩ : ∃ wo : World, wo = wr := ⟨_, rfl⟩
          have HAP := Lib.hid (apply_cols_any A3 n3 c3 (8 * 2 ^ i) xx hx wo HR3.out)
          have HNX := Lib.hid (apply_next A3 n3 c3 i wo HR3.out)
          have HAT := Lib.hid (cols_cell A3 n3 i wo HR3.out)
          have hsz := hB2.out.size
          have hn3 : n3 = 32 := by have := HR3.out.1; simp [u32s, Crc.cols] at this; omega
          obtain ⟨yy, hyy, hyl, hodd⟩ : ∃ yy : Nat, (m % 2 = 1 → yy = Crc.SN (8 * 2 ^ i) xx) ∧ yy < 4294967296 ∧ Crc.SN (8 * ((m / 2 : Nat) : Int).toNat * 2 ^ (i + 1)) (if m % 2 = 1 then yy else xx) = T := by
            refine ⟨Crc.SN (8 * 2 ^ i) xx, fun _ => rfl, Crc.SN_lt _ hx, ?_⟩
            rw [Int.toNat_natCast]
            by_cases h2 : m % 2 = 1
            · rw [if_pos h2, half_odd m i xx h2]; exact hrel.out
            · rw [if_neg h2, half_even m i xx (by omega)]; exact hrel.out
          obtain ⟨ad, hA3, hcell⟩ := HAT.out
          have HCE := Lib.hid hcell
          clear HAT hcell
          subst hA3 hn3
          have hwo : Below wo.heap.size wo (wo.alloc (.cells #[] 25)) := (Below.refl _ _).alloc (Nat.le_refl _) _
          have HWO := Lib.hid hwo
          have HOW := Lib.hid (Own32.mk_ (own_empty32 wo))
          have hszo : w.heap.size ≤ wo.heap.size := hsz
          clear hwo
          have hmpos : 0 < m := by omega
          by_cases h2 : m % 2 = 1
          · have hbool : ((m : Int) % 2 == 1) = true := by rw [beq_iff_eq]; omega
            rw [if_pos h2, hyy h2] at hodd
            have HOD := Lib.hid hodd
            have HZ := Crc.SN_lt (8 * 2 ^ i) hx
            clear hyy hyl hodd h2 hrel
            generalize Crc.SN (8 * 2 ^ i) xx = xz at *
            go_wp2_with (go_at_call 30; refine (HAP.out wo (Below.refl _ _)).mono ?_; rintro e w' ⟨rfl, rfl⟩)
            generalize wo.alloc (.cells #[] 25) = wi at *
            go_loopw [9, 10] (fun v q wr => ∃ k : Nat, k ≤ 32 ∧ q = .int .i64 k ∧ Hid (Own32 wr wo.heap.size v (colsTo (8 * 2 ^ (i + 1)) k)) ∧ Hid (Below wo.heap.size wo wr)) (fun _ q _ => 32 - (intOf q).toNat)
            case atStart => exact ⟨0, Nat.zero_le _, rfl, HOW, HWO⟩
            case round =>
              obtain ⟨k, hk, rfl, hO4, hW4⟩ := hrel
              by_cases hlt : k < 32
              · obtain ⟨A5, n5, c5, hv5, hn5, ho5⟩ := hO4.out
                have hlen : n5 ≤ 32 := by rw [hn5, colsTo_len]; omega
                have HO5 := Lib.hid ho5
                have hsz4 := hW4.out.size
                have HS := Lib.hid (colsTo_snoc (8 * 2 ^ (i + 1)) k)
                have hcc := HCE.out k hlt wr hW4.out
                have HCN := Lib.hid (HNX.out k hlt wr hW4.out)
                clear hn5 ho5 hO4
                subst hv5
                generalize Crc.SN (8 * 2 ^ (i + 1)) (2 ^ k) = x at *
                generalize Crc.SN (8 * 2 ^ i) (2 ^ k) = y at *
                generalize colsTo (8 * 2 ^ (i + 1)) k = cs at *
                go_wp2_with (first
                  | (go_at_call 30; refine HCN.out.mono ?_; rintro e w' ⟨rfl, rfl⟩)
                  | (at_builtin; refine wpList_app32 _ (.tmp 36) (.tmp 43) rfl rfl wo.heap.size _ _ _ rfl (HO5.out.alloc _) _ (some ⟨wr.heap.size, 0, none⟩) 1 1 [x] rfl (row_reads32 wr [x] _ rfl) (by omega) (Nat.le_trans hsz4 (by simp)) ?_; intro A6 n6 c6 w6 ho6 hb6; have HO6 := Lib.hid (Own32.mk_ ho6); have HB6 := Lib.hid ((hW4.out.alloc hsz4 _).trans hb6); rw [HS.out] at HO6; clear ho6 hb6))
                go_roundw
                case rel => first | exact ⟨k + 1, by omega, by go_num, HO6, HB6⟩ | ((repeat apply Exists.intro); exact ⟨⟨k + 1, by omega, by go_num, HO6, HB6⟩, rfl⟩)
                case measure => simp [intOf]; omega
              · obtain rfl : k = 32 := by omega
                have HO7 : Hid (Own32 wr w.heap.size u9 (Crc.cols (8 * 2 ^ (i + 1)))) := hO4.out.more hszo
                have HB7 := Lib.hid (hB2.out.trans (hW4.out.mono hszo))
                clear hO4
                go_wp2
                go_roundw
                case rel => first | exact ⟨i + 1, _, ((m / 2 : Nat) : Int), by omega, HZ, by go_num, rfl, HO7, HB7, HOD⟩ | ((repeat apply Exists.intro); exact ⟨⟨i + 1, _, ((m / 2 : Nat) : Int), by omega, HZ, by go_num, rfl, HO7, HB7, HOD⟩, rfl⟩)
                case measure => simp [intOf]; omega
          · have hbool : ((m : Int) % 2 == 1) = false := by rw [beq_eq_false_iff_ne]; omega
            rw [if_neg h2] at hodd
            have HOD := Lib.hid hodd
            have HZ := hx
            clear hyy hyl hodd h2 hrel
            go_wp2
            generalize wo.alloc (.cells #[] 25) = wi at *
            go_loopw [9, 10] (fun v q wr => ∃ k : Nat, k ≤ 32 ∧ q = .int .i64 k ∧ Hid (Own32 wr wo.heap.size v (colsTo (8 * 2 ^ (i + 1)) k)) ∧ Hid (Below wo.heap.size wo wr)) (fun _ q _ => 32 - (intOf q).toNat)
            case atStart => exact ⟨0, Nat.zero_le _, rfl, HOW, HWO⟩
            case round =>
              obtain ⟨k, hk, rfl, hO4, hW4⟩ := hrel
              by_cases hlt : k < 32
              · obtain ⟨A5, n5, c5, hv5, hn5, ho5⟩ := hO4.out
                have hlen : n5 ≤ 32 := by rw [hn5, colsTo_len]; omega
                have HO5 := Lib.hid ho5
                have hsz4 := hW4.out.size
                have HS := Lib.hid (colsTo_snoc (8 * 2 ^ (i + 1)) k)
                have hcc := HCE.out k hlt wr hW4.out
                have HCN := Lib.hid (HNX.out k hlt wr hW4.out)
                clear hn5 ho5 hO4
                subst hv5
                generalize Crc.SN (8 * 2 ^ (i + 1)) (2 ^ k) = x at *
                generalize Crc.SN (8 * 2 ^ i) (2 ^ k) = y at *
                generalize colsTo (8 * 2 ^ (i + 1)) k = cs at *
                go_wp2_with (first
                  | (go_at_call 30; refine HCN.out.mono ?_; rintro e w' ⟨rfl, rfl⟩)
                  | (at_builtin; refine wpList_app32 _ (.tmp 36) (.tmp 43) rfl rfl wo.heap.size _ _ _ rfl (HO5.out.alloc _) _ (some ⟨wr.heap.size, 0, none⟩) 1 1 [x] rfl (row_reads32 wr [x] _ rfl) (by omega) (Nat.le_trans hsz4 (by simp)) ?_; intro A6 n6 c6 w6 ho6 hb6; have HO6 := Lib.hid (Own32.mk_ ho6); have HB6 := Lib.hid ((hW4.out.alloc hsz4 _).trans hb6); rw [HS.out] at HO6; clear ho6 hb6))
                go_roundw
                case rel => first | exact ⟨k + 1, by omega, by go_num, HO6, HB6⟩ | ((repeat apply Exists.intro); exact ⟨⟨k + 1, by omega, by go_num, HO6, HB6⟩, rfl⟩)
                case measure => simp [intOf]; omega
              · obtain rfl : k = 32 := by omega
                have HO7 : Hid (Own32 wr w.heap.size u9 (Crc.cols (8 * 2 ^ (i + 1)))) := hO4.out.more hszo
                have HB7 := Lib.hid (hB2.out.trans (hW4.out.mono hszo))
                clear hO4
                go_wp2
                go_roundw
                case rel => first | exact ⟨i + 1, _, ((m / 2 : Nat) : Int), by omega, HZ, by go_num, rfl, HO7, HB7, HOD⟩ | ((repeat apply Exists.intro); exact ⟨⟨i + 1, _, ((m / 2 : Nat) : Int), by omega, HZ, by go_num, rfl, HO7, HB7, HOD⟩, rfl⟩)
                case measure => simp [intOf]; omega
        · have hxT : xx = T := by
            have := hrel.out
            rw [show zz.toNat = 0 by omega, Nat.mul_zero, Nat.zero_mul] at this
            exact this
          subst hxT
          have e9 := u32_xor_nat _ _ hx hb
          generalize xx ^^^ b = r at *
          go_wp2
          go_ret
          exact ⟨by rw [← HE.out]; rfl, hB2.out⟩

set_option maxHeartbeats 1000000 in
theorem crcCombines_core (a b : Nat) (n m : Int) (ha : a < 4294967296) (hb : b < 4294967296) (hm : m ≤ 9223372036854775807) (w : World) (ht : Tab w)
    (hmin : (Builtin.min_ #[3, 3] 3 #[.int .i64 n, .int .i64 1048576]).run Tryd.prog w = .ok (.int .i64 m) w) :
    Calls Tryd.prog 11 #[.int .u32 a, .int .u32 b, .int .i64 n] w fun e w' => e = .returned (.bool true) ∧ Below w.heap.size w w' := by
  have HT := Lib.hid ht
  clear ht
  go_enter Tryd.func11, Tryd.ntmps11
  go_wp2_with fail
  refine (awake_any w HT.out).mono ?_
  rintro e w2 ⟨rfl, hb2⟩
  have HB2 := Lib.hid hb2
  clear hb2
  go_wp2_with fail
  refine (combine_any a b m ha hb hm w2).mono ?_
  rintro e w' ⟨rfl, rfl⟩
  go_wp2_with fail
  refine (refCombine_any a b m ha hb hm w2).mono ?_
  rintro e w3 ⟨rfl, hb3⟩
  have HB3 := Lib.hid (HB2.out.trans (hb3.mono HB2.out.size))
  clear hb3
  go_wp2
  go_ret
  exact ⟨rfl, HB3.out⟩
theorem min2 (a b : Int) (w : World) : (Builtin.min_ #[3, 3] 3 #[.int .i64 a, .int .i64 b]).run Tryd.prog w = .ok (.int .i64 (min a b)) w := by
  have e : ∀ x y : Int, (if y < x then y else x) = min x y := fun x y => by omega
  simp [Builtin.min_, Builtin.min2, e]
theorem crcCombines_walk (a b n : Int) (w : World) (wa : (Lit.int .u32 a).wf = true) (wb : (Lit.int .u32 b).wf = true) (wn : (Lit.int .i64 n).wf = true) (ht : Tab w) :
    Calls Tryd.prog 11 #[.int .u32 a, .int .u32 b, .int .i64 n] w fun e w' => e = .returned (.bool true) ∧ Below w.heap.size w w' := by
  obtain ⟨h0, h1⟩ := bounds_u32 wa
  obtain ⟨h2, h3⟩ := bounds_u32 wb
  obtain ⟨h4, h5⟩ := bounds_i64 wn
  obtain ⟨c, rfl⟩ := Int.eq_ofNat_of_zero_le h0
  obtain ⟨d, rfl⟩ := Int.eq_ofNat_of_zero_le h2
  exact crcCombines_core c d n (min n 1048576) (by omega) (by omega) (by omega) w ht (min2 n 1048576 w)
end Go.Proofs.YtkpfciacfajddaaDoor
