/- Walks: Bytes. -/
import Derived.Test.YtophcoaikelopaaDoorPV
import Derived.Test.YtophcoaikelopaaDoorWB
import Derived.Deep.DrawnRows
namespace Go.Proofs.YtophcoaikelopaaDoor
open Go.RowKit
attribute [local go_sem ↓] Go.wp_at_zero Go.wp_at_succ

/-- What stands in memory while 'Bytes' runs. -/
structure EInv (T : TypeId) (w wr : World) (arg : Array Value) (A : Option Addr) (n c : Nat) (xs : List UInt8) : Prop where
  below : Below w.heap.size w wr
  arg : Blk wr w.heap.size T arg
  own : wr.ownsRow (w.heap.size + 1) 5 1 (.slice A n c) n (bv xs)
section
variable {T : TypeId} {w wr w1 : World} {arg : Array Value} {A A' : Option Addr} {n c n' c' : Nat} {xs ys : List UInt8}
theorem EInv.chg (h : EInv T w wr arg A n c xs) (hc : Chg wr w1 (.slice A n c) (.slice A' n' c')) (ho : w1.ownsRow (w.heap.size + 1) 5 1 (.slice A' n' c') n' (bv ys)) : EInv T w w1 arg A' n' c' ys :=
  ⟨h.below.trans ((hc.below h.own h.arg.lt).mono (Nat.le_succ _)), h.arg.chg hc (own_ne h.own (.inl (Nat.lt_succ_self _))).symm, ho⟩
theorem EInv.step (h : EInv T w wr arg A n c xs) (hb : Below wr.heap.size wr w1) : EInv T w w1 arg A n c xs :=
  ⟨h.below.trans (hb.mono h.below.size), h.arg.below hb h.arg.lt, own_below h.own hb⟩
theorem EInv.alloc (h : EInv T w wr arg A n c xs) (o : Obj) : EInv T w (wr.alloc o) arg A n c xs := h.step ((Below.refl _ _).alloc (Nat.le_refl _) o)
theorem EInv.drew (h : EInv T w wr arg A n c xs) : EInv T w wr.drew arg A n c xs := ⟨h.below.drew, h.arg, h.own.drew⟩
theorem EInv.size (h : EInv T w wr arg A n c xs) : w.heap.size + 1 ≤ wr.heap.size := h.arg.lt
end
theorem own_new (w : World) (base : Nat) (l : List UInt8) (cs : Array Value) (h : cs = (bv l).toArray) (hb : base ≤ w.heap.size) (hl : l.length ≤ 1000000) : (w.alloc (.cells cs 5)).ownsRow base 5 1 (.slice (some ⟨w.heap.size, 0, none⟩) l.length l.length) l.length (bv l) := by
  subst h
  exact ⟨by rw [bv_len, Nat.mul_one], .inr ⟨w.heap.size, l.length, _, rfl, hb, heap_alloc_new w _, Nat.le_refl _, by unfold maxLen; omega, by simp [bv_len], by rw [Nat.mul_one, ← bv_len l, List.take_length]⟩⟩
theorem low_small (n : Nat) (h : n < 256) : #[Value.int .u8 (n : Int)] = (bv [lowB n]).toArray := by
  simp only [bv, List.map_cons, List.map_nil, lowB_toNat]
  rw [show (n : Int) % 256 = n by omega]
theorem low_two (n : Nat) (h : n < 256) (b : UInt8) : #[Value.int .u8 (n : Int), .int .u8 (b.toNat : Int)] = (bv [lowB n, b]).toArray := by
  simp only [bv, List.map_cons, List.map_nil, lowB_toNat]
  rw [show (n : Int) % 256 = n by omega]
theorem own_mono {w : World} {base base' : Nat} {e : TypeId} {size : Nat} {v : Value} {n : Nat} {xs : List Value} (h : w.ownsRow base e size v n xs) (hb : base' ≤ base) : w.ownsRow base' e size v n xs := by
  refine ⟨h.1, ?_⟩
  rcases h.2 with h0 | ⟨g, cap, cur, h1, h2, h3⟩
  · exact .inl h0
  · exact .inr ⟨g, cap, cur, h1, Nat.le_trans hb h2, h3⟩
/-- The encoding, behind a call. -/
def RetE (w : World) (xs : List UInt8) (e : Ending) (w' : World) : Prop :=
  ∃ A n c, e = .returned (.tuple #[.slice A n c, .int .i64 0]) ∧ w'.ownsRow w.heap.size 5 1 (.slice A n c) n (bv xs) ∧ Below w.heap.size w w'

set_option maxRecDepth 100000 in
set_option maxHeartbeats 4000000 in
theorem bytes_bad (t : Tbl) (A A2 : Option Addr) (n c n2 c2 : Nat) (w : World) (hT : Tabs w) (hsz : Sized t) (hc : Reads w w.heap.size 9 A n (colCells t.cols)) (hx : Reads w w.heap.size 2 A2 n2 (idxCells t.idxs)) (hn : n ≤ 1000) (hn2 : n2 ≤ 1000) (hv : valid t ≠ 0) :
    Calls Tryd.prog 26 #[.agg #[.string t.name, .int .i64 t.ver, .slice A n c, .slice A2 n2 c2, .int .u64 (t.rows : Int), .int .u64 (t.ents : Int)]] w
      fun e w' => e = .returned (.tuple #[.slice none 0 0, .int .i64 (valid t)]) ∧ Below w.heap.size w w' := by
  have HV := fun o => Lib.hid (valid_walk t A A2 n c n2 c2 (w.alloc o) (hT.below ((Below.refl _ _).alloc (Nat.le_refl _) _)) hsz ((hc.alloc (Nat.le_refl _) o).more (by simp)) ((hx.alloc (Nat.le_refl _) o).more (by simp)) hn hn2)
  generalize valid t = R at *
  have e1 : (R != 0) = true := by rw [bne_iff_ne]; exact hv
  clear hc hx hT hsz hv
  go_enter Tryd.func26, Tryd.ntmps26
  go_wp2_with (go_at_call 19; refine (HV _).out.mono ?_; rintro e w' ⟨rfl, hb⟩)
  go_ret2
  exact ⟨rfl, ((Below.refl _ _).alloc (Nat.le_refl _) _).trans (hb.mono (by simp))⟩
set_option maxRecDepth 100000 in
set_option maxHeartbeats 8000000 in
theorem bytes_good (t : Tbl) (A A2 : Option Addr) (n c n2 c2 : Nat) (w : World) (hT : Tabs w) (hsz : Sized t) (hc : Reads w w.heap.size 9 A n (colCells t.cols)) (hx : Reads w w.heap.size 2 A2 n2 (idxCells t.idxs)) (hv : valid t = 0) :
    Calls Tryd.prog 26 #[.agg #[.string t.name, .int .i64 t.ver, .slice A n c, .slice A2 n2 c2, .int .u64 (t.rows : Int), .int .u64 (t.ents : Int)]] w (RetE w (enc t)) := by
  have HG := Lib.hid (good_of hv)
  have HLC := Lib.hid (show t.cols.length = n by have := hc.1; rw [colCells_len] at this; omega)
  have HLX := Lib.hid (show t.idxs.length = n2 by have := hx.1; rw [idxCells_len] at this; omega)
  have hn : n ≤ 8 := by have := HG.out.ncols; have := HLC.out; omega
  have hn2 : n2 ≤ 4 := by have := HG.out.nidx; have := HLX.out; omega
  have hnm := HG.out.name
  have HV := fun o => Lib.hid (valid_walk t A A2 n c n2 c2 (w.alloc o) (hT.below ((Below.refl _ _).alloc (Nat.le_refl _) _)) hsz ((hc.alloc (Nat.le_refl _) o).more (by simp)) ((hx.alloc (Nat.le_refl _) o).more (by simp)) (by omega) (by omega))
  rw [hv] at HV
  have HC := Lib.hid hc
  have HX := Lib.hid hx
  have HF : Hid (∀ W s, Below w.heap.size w W → Calls Tryd.prog 22 #[.agg #[.string t.name, .int .i64 t.ver, .slice A n c, .slice A2 n2 c2, .int .u64 (t.rows : Int), .int .u64 (t.ents : Int)], .string s] W fun e w' => e = .returned (.int .i64 (findC t.cols s)) ∧ Below W.heap.size W w') :=
    fun W s hb => find_any t.cols A n c s _ _ _ _ _ W ((HC.out.below hb).more hb.size) (by omega)
  clear hc hx hT hsz hv
  have HVI := Lib.hid (VInv.new 51 w #[.string t.name, .int .i64 t.ver, .slice A n c, .slice A2 n2 c2, .int .u64 (t.rows : Int), .int .u64 (t.ents : Int)])
  go_enter Tryd.func26, Tryd.ntmps26
  go_wp2_with (first
    | (go_at_call 19; refine (HV _).out.mono ?_; rintro e w1 ⟨rfl, hb⟩; have HV1 := Lib.hid (HVI.out.step hb); have hs1 := HV1.out.arg.lt; have a0 : ∀ o, (w1.alloc o).cell? ⟨w.heap.size, 0, none⟩ = some (.string t.name) := fun o => (HV1.out.alloc o).arg.cell 0; clear hb)
    | (go_at_call 43; refine (addText_any (w.heap.size + 1) _ _ _ t.name [1] _ ?q1 ?q2 ?q3 ?q4).mono ?_; (case q1 => exact own_new w1 (w.heap.size + 1) [1] _ rfl hs1 (by simp)); (case q2 => (simp; omega)); (case q3 => omega); (case q4 => omega); rintro e w2 ⟨A3, n3, c3, rfl, ho3, hg3⟩; have HE3 := Lib.hid (EInv.chg ⟨(HV1.out.alloc _).below, (HV1.out.alloc _).arg, own_new w1 (w.heap.size + 1) [1] _ rfl hs1 (by simp)⟩ hg3 ho3); have hn3 : n3 ≤ 18 := (by have := own_len ho3; simp [txt_len] at this; omega); have a1 : w2.cell? ⟨w.heap.size, 1, none⟩ = some (.int .i64 t.ver) := HE3.out.arg.cell 1; clear ho3 hg3)
    | (go_at_call 44; refine (addShort_any (w.heap.size + 1) A3 n3 c3 t.ver _ _ HE3.out.own HE3.out.size (by omega)).mono ?_; rintro e w3 ⟨A4, n4, c4, rfl, ho4, hg4⟩; have HE4 := Lib.hid (HE3.out.chg hg4 ho4); have hn4 : n4 ≤ 20 := (by have := own_len ho4; have := own_len HE3.out.own; simp [le2, txt_len] at *; omega); have a2 : ∀ o, (w3.alloc o).cell? ⟨w.heap.size, 2, none⟩ = some (.slice A n c) := (fun o => (HE4.out.alloc o).arg.cell 2); have a2' : w3.cell? ⟨w.heap.size, 2, none⟩ = some (.slice A n c) := (HE4.out.arg.cell 2); clear ho4 hg4)
    | (at_builtin; refine wpList_appB _ (.tmp 23) (.tmp 28) rfl rfl (w.heap.size + 1) A4 n4 c4 _ rfl (HE4.out.alloc _).own (w3.heap.size + 1) (some ⟨w3.heap.size, 0, none⟩) 1 1 [lowB n] rfl ?r5 ?r2 ?r4 ?_; (case r5 => (exact list_reads w3 [lowB n] _ (low_small n (by omega)))); (case r2 => omega); (case r4 => exact (HE4.out.alloc _).size); intro A5 n5 c5 w4 hn5 ho5 hg5; have HE5 := Lib.hid ((HE4.out.alloc _).chg hg5 ho5); have hn5' : n5 ≤ 30 := (by omega); have a3 : w4.cell? ⟨w.heap.size, 2, none⟩ = some (.slice A n c) := (HE5.out.arg.cell 2); clear hn5 ho5 hg5))
  have HEH : Hid ([1] ++ txt t.name ++ le2 t.ver ++ [lowB n] = encHead t ++ encCols (t.cols.take 0)) := show _ = _ by rw [encHead, HLC.out]; simp [encCols]
  rw [HEH.out] at HE5
  clear HE4 HE3 HV1 HEH hn4 hn3 a0 a1 a2 a2' a3 hs1
  go_loopw [5, 33] (fun p i wr => ∃ (k : Nat) (A' : Option Addr) (n' c' : Nat), k ≤ n ∧ i = .int .i64 k ∧ p = .slice A' n' c' ∧ n' ≤ 30 + k * 230 ∧ Hid (EInv 51 w wr #[.string t.name, .int .i64 t.ver, .slice A n c, .slice A2 n2 c2, .int .u64 (t.rows : Int), .int .u64 (t.ents : Int)] A' n' c' (encHead t ++ encCols (t.cols.take k)))) (fun _ i _ => n - (intOf i).toNat)
  case atStart => exact ⟨0, _, _, _, Nat.zero_le _, rfl, rfl, by omega, HE5⟩
  case round =>
    clear HE5 hn5'
    obtain ⟨k, A', n', c', hk, rfl, rfl, hn', hinv⟩ := hrel
    by_cases hlt : k < n
    · obtain ⟨hl, b1, off, hA, hbB, f0, f1, f2, f3, f4, f5, f6, f7, f8⟩ := col_facts (HC.out.below hinv.out.below) hlt
      subst hA
      have hcn := HG.out.cname k hl
      have hct := HG.out.ctext k hl
      have hcy := HG.out.cty k hl
      have HTK : Hid (encHead t ++ encCols (t.cols.take k) ++ txt t.cols[k].name ++ [lowB t.cols[k].ty, flagB t.cols[k].null] ++ le2 t.cols[k].since ++ valEnc t.cols[k].d = encHead t ++ encCols (t.cols.take (k + 1))) := show _ = _ by rw [encCols_snoc t.cols k hl]; simp only [colEnc, List.append_assoc]
      generalize t.cols[k] = cc at *
      have HB0 := Lib.hid (Blk.new wr 32 #[.string cc.name, .int .u8 (cc.ty : Int), .bool cc.null, .int .i64 cc.since, .int .u8 (cc.d.ty : Int), .bool cc.d.null, .int .i64 cc.d.int, .string cc.d.text, .bool cc.d.bool])
      go_wp2
      clear f0 f1 f2 f3 f4 f5 f6 f7 f8
      go_region_held3 (fun w' => w'.cell? ⟨wr.heap.size, 0, none⟩ = some (.string cc.name) ∧ w'.cell? ⟨wr.heap.size, 1, none⟩ = some (.int .u8 (cc.ty : Int)) ∧ w'.cell? ⟨wr.heap.size, 2, none⟩ = some (.bool cc.null)) (first | go_keep | (refine ⟨?_, ?_, ?_⟩ <;> assumption))
        ((first
          | (refine step_appB _ (by rfl) _ _ (by rfl) (w.heap.size + 1) A6 n6 c6 (encHead t ++ encCols (t.cols.take k) ++ txt cc.name) (by rfl) (HE6.out.alloc _).own (w5.heap.size + 1) (some ⟨w5.heap.size, 0, none⟩) 2 2 [lowB cc.ty, flagB cc.null] (by rfl) (list_reads w5 [lowB cc.ty, flagB cc.null] _ (low_two _ (by omega) _)) (by omega) (HE6.out.alloc _).size ?_; intro A7 n7 c7 w6 hn7 ho7 hg7; have HE7 := Lib.hid ((HE6.out.alloc _).chg hg7 ho7); have HB7 := Lib.hid ((HB6.out.alloc _).chg hg7 (own_blk_ne HE6.out.own HB6.out (by decide))); have hn7' : n7 ≤ 50 + k * 230 := (by omega); have z0 : w6.cell? ⟨wr.heap.size, 0, none⟩ = some (.string cc.name) := HB7.out.cell 0; have z1 : w6.cell? ⟨wr.heap.size, 1, none⟩ = some (.int .u8 (cc.ty : Int)) := HB7.out.cell 1; have z2 : w6.cell? ⟨wr.heap.size, 2, none⟩ = some (.bool cc.null) := HB7.out.cell 2; clear hn7 ho7 hg7)
          | (go_at_call 43; refine (addText_any (w.heap.size + 1) A' n' c' cc.name (encHead t ++ encCols (t.cols.take k)) _ ?q1 ?q2 ?q3 ?q4).mono ?_; (case q1 => exact (hinv.out.alloc _).drew.own); (case q2 => exact (hinv.out.alloc _).drew.size); (case q3 => omega); (case q4 => omega); rintro e w5 ⟨A6, n6, c6, rfl, ho6, hg6⟩; have HE6 := Lib.hid ((hinv.out.alloc _).drew.chg hg6 ho6); have HB6 := Lib.hid (Blk.chg HB0.out.drew hg6 (own_ne hinv.out.own (.inr (Nat.le_refl _))).symm); have hn6 : n6 ≤ 48 + k * 230 := (by have h1 := own_len ho6; have h2 := own_len hinv.out.own; rw [List.length_append, txt_len] at h1; omega); have s0 : w5.cell? ⟨wr.heap.size, 0, none⟩ = some (.string cc.name) := HB6.out.cell 0; have s1 : w5.cell? ⟨wr.heap.size, 1, none⟩ = some (.int .u8 (cc.ty : Int)) := HB6.out.cell 1; have s2 : w5.cell? ⟨wr.heap.size, 2, none⟩ = some (.bool cc.null) := HB6.out.cell 2; clear ho6 hg6)
          | (go_at_call 45; refine (flag_any _ _).mono ?_; rintro e w' ⟨rfl, rfl⟩)))
      have z3 : w6.cell? ⟨wr.heap.size, 3, none⟩ = some (.int .i64 cc.since) := HB7.out.cell 3
      have z4 : w6.cell? ⟨wr.heap.size, 4, none⟩ = some (.int .u8 (cc.d.ty : Int)) := HB7.out.cell 4
      have z5 : w6.cell? ⟨wr.heap.size, 5, none⟩ = some (.bool cc.d.null) := HB7.out.cell 5
      have z6 : w6.cell? ⟨wr.heap.size, 6, none⟩ = some (.int .i64 cc.d.int) := HB7.out.cell 6
      have z7 : w6.cell? ⟨wr.heap.size, 7, none⟩ = some (.string cc.d.text) := HB7.out.cell 7
      have z8 : w6.cell? ⟨wr.heap.size, 8, none⟩ = some (.bool cc.d.bool) := HB7.out.cell 8
      clear z0 z1 z2 s0 s1 s2
      go_wp2
      go_region_held3 (fun w' => w'.cell? ⟨wr.heap.size, 3, none⟩ = some (.int .i64 cc.since) ∧ w'.cell? ⟨wr.heap.size, 4, none⟩ = some (.int .u8 (cc.d.ty : Int)) ∧ w'.cell? ⟨wr.heap.size, 5, none⟩ = some (.bool cc.d.null) ∧ w'.cell? ⟨wr.heap.size, 6, none⟩ = some (.int .i64 cc.d.int) ∧ w'.cell? ⟨wr.heap.size, 7, none⟩ = some (.string cc.d.text) ∧ w'.cell? ⟨wr.heap.size, 8, none⟩ = some (.bool cc.d.bool)) (first | go_keep | (refine ⟨?_, ?_, ?_, ?_, ?_, ?_⟩ <;> assumption))
        ((first
          | (go_at_call 44; refine (addShort_any (w.heap.size + 1) A7 n7 c7 cc.since (encHead t ++ encCols (t.cols.take k) ++ txt cc.name ++ [lowB cc.ty, flagB cc.null]) _ ?q1 ?q2 ?q3).mono ?_; (case q1 => exact HE7.out.drew.own); (case q2 => exact HE7.out.drew.size); (case q3 => omega); rintro e w7 ⟨A8, n8, c8, rfl, ho8, hg8⟩; have HE8 := Lib.hid (HE7.out.drew.chg hg8 ho8); have HB8 := Lib.hid (Blk.chg HB7.out.drew hg8 (own_blk_ne HE7.out.own HB7.out (by decide))); have hn8 : n8 ≤ 52 + k * 230 := (by have h1 := own_len ho8; have h2 := own_len HE7.out.own; rw [List.length_append] at h1; simp only [le2, List.length_cons, List.length_nil] at h1; omega); have s3 : w7.cell? ⟨wr.heap.size, 3, none⟩ = some (.int .i64 cc.since) := HB8.out.cell 3; have s4 : w7.cell? ⟨wr.heap.size, 4, none⟩ = some (.int .u8 (cc.d.ty : Int)) := HB8.out.cell 4; have s5 : w7.cell? ⟨wr.heap.size, 5, none⟩ = some (.bool cc.d.null) := HB8.out.cell 5; have s6 : w7.cell? ⟨wr.heap.size, 6, none⟩ = some (.int .i64 cc.d.int) := HB8.out.cell 6; have s7 : w7.cell? ⟨wr.heap.size, 7, none⟩ = some (.string cc.d.text) := HB8.out.cell 7; have s8 : w7.cell? ⟨wr.heap.size, 8, none⟩ = some (.bool cc.d.bool) := HB8.out.cell 8; clear ho8 hg8)
          | (go_at_call 46; refine (addValue_any (w.heap.size + 1) A8 n8 c8 cc.d (encHead t ++ encCols (t.cols.take k) ++ txt cc.name ++ [lowB cc.ty, flagB cc.null] ++ le2 cc.since) _ ?r1 ?r2 ?r3 ?r4).mono ?_; (case r1 => exact HE8.out.own); (case r2 => exact HE8.out.size); (case r3 => omega); (case r4 => omega); rintro e w8 ⟨A9, n9, c9, rfl, ho9, hg9⟩; have HE9 := Lib.hid (HE8.out.chg hg9 ho9); have HB9 := Lib.hid (Blk.chg HB8.out hg9 (own_blk_ne HE8.out.own HB8.out (by decide))); have hn9 : n9 ≤ 30 + (k + 1) * 230 := (by have h1 := own_len ho9; have h2 := own_len HE8.out.own; have h3 := valEnc_len cc.d hct; rw [List.length_append] at h1; omega); have y3 : w8.cell? ⟨wr.heap.size, 3, none⟩ = some (.int .i64 cc.since) := HB9.out.cell 3; have y4 : w8.cell? ⟨wr.heap.size, 4, none⟩ = some (.int .u8 (cc.d.ty : Int)) := HB9.out.cell 4; have y5 : w8.cell? ⟨wr.heap.size, 5, none⟩ = some (.bool cc.d.null) := HB9.out.cell 5; have y6 : w8.cell? ⟨wr.heap.size, 6, none⟩ = some (.int .i64 cc.d.int) := HB9.out.cell 6; have y7 : w8.cell? ⟨wr.heap.size, 7, none⟩ = some (.string cc.d.text) := HB9.out.cell 7; have y8 : w8.cell? ⟨wr.heap.size, 8, none⟩ = some (.bool cc.d.bool) := HB9.out.cell 8; clear ho9 hg9)))
      rw [HTK.out] at HE9
      go_wp2
      go_roundw
      case rel => exact ⟨k + 1, A9, n9, c9, by omega, by go_num, rfl, by omega, HE9⟩
      case measure => simp [intOf]; omega
    · obtain rfl : n = k := by omega
      have HTA : Hid (encHead t ++ encCols (t.cols.take n) = encHead t ++ encCols t.cols) := show _ = _ by rw [List.take_of_length_le (by have := HLC.out; omega)]
      rw [HTA.out] at hinv
      clear hlt hk HTA
      have a3 : wr.cell? ⟨w.heap.size, 3, none⟩ = some (.slice A2 n2 c2) := hinv.out.arg.cell 3
      have a3' : ∀ o, (wr.alloc o).cell? ⟨w.heap.size, 3, none⟩ = some (.slice A2 n2 c2) := fun o => (hinv.out.alloc o).arg.cell 3
      go_wp2_with (at_builtin; refine wpList_appB _ (.tmp 56) (.tmp 61) rfl rfl (w.heap.size + 1) A' n' c' (encHead t ++ encCols t.cols) rfl (hinv.out.alloc _).own (wr.heap.size + 1) (some ⟨wr.heap.size, 0, none⟩) 1 1 [lowB n2] rfl ?r5 ?r2 ?r4 ?_; (case r5 => (exact list_reads wr [lowB n2] _ (low_small n2 (by omega)))); (case r2 => omega); (case r4 => exact (hinv.out.alloc _).size); intro A5 n5 c5 w4 hn5 ho5 hg5; have HE5 := Lib.hid ((hinv.out.alloc _).chg hg5 ho5); have hn5' : n5 ≤ 31 + n * 230 := (by omega); have a4 : w4.cell? ⟨w.heap.size, 3, none⟩ = some (.slice A2 n2 c2) := (HE5.out.arg.cell 3); clear hn5 ho5 hg5)
      have HEH : Hid (encHead t ++ encCols t.cols ++ [lowB n2] = encHead t ++ encCols t.cols ++ [lowB n2] ++ encIdxs t (t.idxs.take 0)) := show _ = _ by simp [encIdxs]
      rw [HEH.out] at HE5
      clear HEH a3 a3' a4 hinv hn'
      go_loopw [5, 66] (fun p i wr => ∃ (q : Nat) (A' : Option Addr) (n' c' : Nat), q ≤ n2 ∧ i = .int .i64 q ∧ p = .slice A' n' c' ∧ n' ≤ 31 + n * 230 + q * 2 ∧ Hid (EInv 51 w wr #[.string t.name, .int .i64 t.ver, .slice A n c, .slice A2 n2 c2, .int .u64 (t.rows : Int), .int .u64 (t.ents : Int)] A' n' c' (encHead t ++ encCols t.cols ++ [lowB n2] ++ encIdxs t (t.idxs.take q)))) (fun _ i _ => n2 - (intOf i).toNat)
      case atStart => exact ⟨0, _, _, _, Nat.zero_le _, rfl, rfl, by omega, HE5⟩
      case round =>
        clear HE5 hn5'
        obtain ⟨q, A', n', c', hk, rfl, rfl, hn', hinv⟩ := hrel
        by_cases hlt : q < n2
        · obtain ⟨hl, b1, off, hA, hbB, f0, f1⟩ := idx_facts (HX.out.below hinv.out.below) hlt
          subst hA
          have HTK : Hid (encHead t ++ encCols t.cols ++ [lowB n2] ++ encIdxs t (t.idxs.take q) ++ [lowB (findC t.cols t.idxs[q].col), flagB t.idxs[q].uniq] = encHead t ++ encCols t.cols ++ [lowB n2] ++ encIdxs t (t.idxs.take (q + 1))) := show _ = _ by rw [encIdxs_snoc t t.idxs q hl]; simp only [idxEnc, List.append_assoc]
          have HFK := fun o => Lib.hid (HF.out (wr.alloc o).drew t.idxs[q].col (hinv.out.alloc o).drew.below)
          generalize findC t.cols t.idxs[q].col = fd at *
          generalize t.idxs[q] = cc at *
          have HB0 := Lib.hid (Blk.new wr 79 #[.string cc.col, .bool cc.uniq])
          have HW : Hid (#[Value.int .u8 (IntKind.u8.wrap fd), .int .u8 ((flagB cc.uniq).toNat : Int)] = (bv [lowB fd, flagB cc.uniq]).toArray) := show _ = _ by rw [lowB_wrap]; rfl
          have g0 : ∀ o, (wr.alloc o).cell? ⟨w.heap.size, 0, none⟩ = some (.string t.name) := fun o => (hinv.out.alloc o).arg.cell 0
          have g1 : ∀ o, (wr.alloc o).cell? ⟨w.heap.size, 1, none⟩ = some (.int .i64 t.ver) := fun o => (hinv.out.alloc o).arg.cell 1
          have g2 : ∀ o, (wr.alloc o).cell? ⟨w.heap.size, 2, none⟩ = some (.slice A n c) := fun o => (hinv.out.alloc o).arg.cell 2
          have g3 : ∀ o, (wr.alloc o).cell? ⟨w.heap.size, 3, none⟩ = some (.slice (some ⟨b1, off, none⟩) n2 c2) := fun o => (hinv.out.alloc o).arg.cell 3
          have g4 : ∀ o, (wr.alloc o).cell? ⟨w.heap.size, 4, none⟩ = some (.int .u64 (t.rows : Int)) := fun o => (hinv.out.alloc o).arg.cell 4
          have g5 : ∀ o, (wr.alloc o).cell? ⟨w.heap.size, 5, none⟩ = some (.int .u64 (t.ents : Int)) := fun o => (hinv.out.alloc o).arg.cell 5
          go_wp2
          clear f0 f1
          go_region_held3 (fun w' => (w'.cell? ⟨wr.heap.size, 0, none⟩ = some (.string cc.col) ∧ w'.cell? ⟨wr.heap.size, 1, none⟩ = some (.bool cc.uniq)) ∧ w'.cell? ⟨w.heap.size, 0, none⟩ = some (.string t.name) ∧ w'.cell? ⟨w.heap.size, 1, none⟩ = some (.int .i64 t.ver) ∧ w'.cell? ⟨w.heap.size, 2, none⟩ = some (.slice A n c) ∧ w'.cell? ⟨w.heap.size, 3, none⟩ = some (.slice (some ⟨b1, off, none⟩) n2 c2) ∧ w'.cell? ⟨w.heap.size, 4, none⟩ = some (.int .u64 (t.rows : Int)) ∧ w'.cell? ⟨w.heap.size, 5, none⟩ = some (.int .u64 (t.ents : Int))) (first | go_keep | (refine ⟨⟨?_, ?_⟩, ?_, ?_, ?_, ?_, ?_, ?_⟩ <;> assumption))
            ((first
              | (refine step_appB _ (by rfl) _ _ (by rfl) (w.heap.size + 1) A' n' c' (encHead t ++ encCols t.cols ++ [lowB n2] ++ encIdxs t (t.idxs.take q)) (by rfl) (HE6.out.alloc _).own (w5.heap.size + 1) (some ⟨w5.heap.size, 0, none⟩) 2 2 [lowB fd, flagB cc.uniq] (by rfl) (list_reads w5 [lowB fd, flagB cc.uniq] _ (HW.out)) (by omega) (HE6.out.alloc _).size ?_; intro A7 n7 c7 w6 hn7 ho7 hg7; have HE7 := Lib.hid ((HE6.out.alloc _).chg hg7 ho7); have HB7 := Lib.hid ((HB6.out.alloc _).chg hg7 (own_blk_ne HE6.out.own HB6.out (by decide))); have hn7' : n7 ≤ 31 + n * 230 + (q + 1) * 2 := (by omega); have z0 : w6.cell? ⟨wr.heap.size, 0, none⟩ = some (.string cc.col) := HB7.out.cell 0; have z1 : w6.cell? ⟨wr.heap.size, 1, none⟩ = some (.bool cc.uniq) := HB7.out.cell 1; have e0 : w6.cell? ⟨w.heap.size, 0, none⟩ = some (.string t.name) := HE7.out.arg.cell 0; have e1 : w6.cell? ⟨w.heap.size, 1, none⟩ = some (.int .i64 t.ver) := HE7.out.arg.cell 1; have e2 : w6.cell? ⟨w.heap.size, 2, none⟩ = some (.slice A n c) := HE7.out.arg.cell 2; have e3 : w6.cell? ⟨w.heap.size, 3, none⟩ = some (.slice (some ⟨b1, off, none⟩) n2 c2) := HE7.out.arg.cell 3; have e4 : w6.cell? ⟨w.heap.size, 4, none⟩ = some (.int .u64 (t.rows : Int)) := HE7.out.arg.cell 4; have e5 : w6.cell? ⟨w.heap.size, 5, none⟩ = some (.int .u64 (t.ents : Int)) := HE7.out.arg.cell 5; clear hn7 ho7 hg7)
              | (go_at_call 22; refine (HFK _).out.mono ?_; rintro e w5 ⟨rfl, hb6⟩; have HE6 := Lib.hid ((hinv.out.alloc _).drew.step hb6); have HB6 := Lib.hid (HB0.out.drew.below hb6 HB0.out.drew.lt); have s0 : w5.cell? ⟨wr.heap.size, 0, none⟩ = some (.string cc.col) := HB6.out.cell 0; have s1 : w5.cell? ⟨wr.heap.size, 1, none⟩ = some (.bool cc.uniq) := HB6.out.cell 1; have d0 : w5.cell? ⟨w.heap.size, 0, none⟩ = some (.string t.name) := HE6.out.arg.cell 0; have d1 : w5.cell? ⟨w.heap.size, 1, none⟩ = some (.int .i64 t.ver) := HE6.out.arg.cell 1; have d2 : w5.cell? ⟨w.heap.size, 2, none⟩ = some (.slice A n c) := HE6.out.arg.cell 2; have d3 : w5.cell? ⟨w.heap.size, 3, none⟩ = some (.slice (some ⟨b1, off, none⟩) n2 c2) := HE6.out.arg.cell 3; have d4 : w5.cell? ⟨w.heap.size, 4, none⟩ = some (.int .u64 (t.rows : Int)) := HE6.out.arg.cell 4; have d5 : w5.cell? ⟨w.heap.size, 5, none⟩ = some (.int .u64 (t.ents : Int)) := HE6.out.arg.cell 5; clear hb6)
              | (go_at_call 45; refine (flag_any _ _).mono ?_; rintro e w' ⟨rfl, rfl⟩)))
          rw [HTK.out] at HE7
          go_wp2
          go_roundw
          case rel => exact ⟨q + 1, A7, n7, c7, by omega, by go_num, rfl, by omega, HE7⟩
          case measure => simp [intOf]; omega
        · obtain rfl : n2 = q := by omega
          have HTB : Hid (encHead t ++ encCols t.cols ++ [lowB n2] ++ encIdxs t (t.idxs.take n2) = enc t) := show _ = _ by rw [List.take_of_length_le (by have := HLX.out; omega), enc, HLX.out]
          rw [HTB.out] at hinv
          go_wp2
          go_ret2
          exact ⟨A', n', c', rfl, own_mono hinv.out.own (Nat.le_succ _), hinv.out.below⟩
end Go.Proofs.YtophcoaikelopaaDoor
