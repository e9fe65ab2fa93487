/- Walks: the program's helpers that append to an encoding. -/
import Derived.Test.YtophcoaikelopaaDoorSData
import Derived.Test.YtophcoaikelopaaDoorApp
import Derived.Lib.AppendStr
import Derived.Outline
namespace Go.Proofs.YtophcoaikelopaaDoor
open Go.RowKit

/-- Bytes as cells. -/
def bv (l : List UInt8) : List Value := l.map fun b => Value.int .u8 b.toNat
theorem bv_len (l : List UInt8) : (bv l).length = l.length := by simp [bv]
theorem bv_append (a b : List UInt8) : bv (a ++ b) = bv a ++ bv b := by simp [bv]
theorem bv_str (s : ByteArray) : Lib.strCells s = bv s.data.toList := rfl
theorem bv_one (l : List UInt8) : ∀ u ∈ bv l, u.oneCell' = true := by
  intro u hu
  simp only [bv, List.mem_map] at hu
  obtain ⟨b, _, rfl⟩ := hu
  rfl
/-- The lowest byte of a number. -/
def lowB (i : Int) : UInt8 := UInt8.ofNat (i % 256).toNat
theorem lowB_toNat (i : Int) : ((lowB i).toNat : Int) = i % 256 := by
  unfold lowB
  rw [UInt8.toNat_ofNat']
  omega
theorem lowB_wrap (i : Int) : IntKind.u8.wrap i = ((lowB i).toNat : Int) := by rw [lowB_toNat, IntKind.wrap_u8']
theorem info5 : (Tryd.prog.info? 5).map (fun i => (i.zero, i.size, i.bytes)) = some (some (.int .u8 0), 1, 1) := by kernel_rfl
theorem bv_low (i : Int) : [Value.int .u8 (i % 256)] = bv [lowB i] := by simp [bv, lowB_toNat]
/-- Only v's own row, and what is new, has turned; v' lies in v's row or in a new one. -/
def Chg (w w' : World) (v v' : Value) : Prop := w.grownBy w' v.ownBlock ∧ (v'.ownBlock = v.ownBlock ∨ ∃ g, v'.ownBlock = some g ∧ w.heap.size ≤ g)
theorem Chg.refl (w : World) (v : Value) : Chg w w v v := ⟨World.grownBy.refl w _, .inl rfl⟩
theorem Chg.trans {w w1 w2 : World} {v v1 v2 : Value} (h : Chg w w1 v v1) (k : Chg w1 w2 v1 v2) : Chg w w2 v v2 := by
  refine ⟨⟨k.1.os.trans h.1.os, k.1.tape.trans h.1.tape, k.1.output.trans h.1.output, Nat.le_trans h.1.size k.1.size, fun i hi hne => ?_⟩, ?_⟩
  · refine (k.1.block i (Nat.lt_of_lt_of_le hi h.1.size) ?_).trans (h.1.block i hi hne)
    rcases h.2 with e | ⟨g, e, hg⟩
    · rw [e]; exact hne
    · rw [e]; intro e2; injection e2 with e2; omega
  · rcases k.2 with e | ⟨g, e, hg⟩
    · rw [e]; exact h.2
    · exact .inr ⟨g, e, Nat.le_trans h.1.size hg⟩
theorem Chg.alloc {w w' : World} {v v' : Value} (h : Chg w w' v v') (o : Obj) : Chg w (w'.alloc o) v v' := ⟨only_alloc h.1 o, h.2⟩
theorem Chg.drew {w w' : World} {v v' : Value} (h : Chg w w' v v') : Chg w w'.drew v v' := ⟨only_drew h.1, h.2⟩
theorem Chg.after {w w1 w' : World} {v v' : Value} (hb : Below w.heap.size w w1) (h : Chg w1 w' v v') : Chg w w' v v' :=
  Chg.trans ⟨only_of_below hb _, .inl rfl⟩ h
theorem Chg.then_ {w w1 w' : World} {v v' : Value} (h : Chg w w1 v v') (hb : Below w1.heap.size w1 w') : Chg w w' v v' :=
  Chg.trans h ⟨only_of_below hb _, .inl rfl⟩
/-- What lies below the row's base is as it was. -/
theorem Chg.below {w w' : World} {v v' : Value} {base n : Nat} {e : TypeId} {size : Nat} {xs : List Value} (h : Chg w w' v v') (ho : w.ownsRow base e size v n xs) (hb : base ≤ w.heap.size) : Below base w w' :=
  (Below.refl _ _).grown h.1 hb (fun j hj => (ho.lt j hj).1)
theorem Blk.chg {w w' : World} {v v' : Value} {g : Nat} {t : TypeId} {cs : Array Value} (h : Blk w g t cs) (hc : Chg w w' v v') (hne : v.ownBlock ≠ some g) : Blk w' g t cs := h.grown hc.1 (fun e => hne e.symm)
/-- A slice of bytes of the call's own, behind a call. -/
def RetB (w : World) (base : Nat) (v : Value) (xs : List UInt8) (e : Ending) (w' : World) : Prop :=
  ∃ A n c, e = .returned (.slice A n c) ∧ w'.ownsRow base 5 1 (.slice A n c) n (bv xs) ∧ Chg w w' v (.slice A n c)
theorem own_len {w : World} {base : Nat} {v : Value} {n : Nat} {xs : List UInt8} (h : w.ownsRow base 5 1 v n (bv xs)) : xs.length = n := by have := h.1; rw [bv_len] at this; omega
section
variable (w : World)
theorem wp_appB {o : Oper} {a : Act} {K : Act → World → Prop} {Q : Exit → Act → World → Prop} (s x : Operand)
    (ho : o.op = .call { callee := .builtin .append, args := #[s, x], argTypes := #[60, 60] })
    (base : Nat) (A : Option Addr) (n c : Nat) (xs : List UInt8) (hs : a.eval s = .slice A n c) (hown : w.ownsRow base 5 1 (.slice A n c) n (bv xs))
    (B : Nat) (X : Option Addr) (m cx : Nat) (ys : List UInt8) (hx : a.eval x = .slice X m cx) (hr : Reads w B 1 X m (bv ys)) (hl : n + m ≤ 100000000) (hbase : base ≤ w.heap.size)
    (h : ∀ A' n' c' w', n' = n + m → w'.ownsRow base 5 1 (.slice A' n' c') n' (bv (xs ++ ys)) → Chg w w' (.slice A n c) (.slice A' n' c') → K (a.put o.dst (.slice A' n' c')) w') : o.wp Tryd.prog a w K Q := by
  obtain ⟨i0, hi0, hz0, hz1, hz2⟩ := info_parts info5
  refine wp_append_any w s x 60 ho base 5 i0 _ 1 1 Tryd.underlying60 hi0 hz0 hz1 hz2 rfl (by omega) _ n _ hs hown B X m cx _ hx hr (bv_one _) (by unfold maxLen; omega) (by omega) hbase fun v' w' h2 h3 h4 => ?_
  obtain ⟨A', c', rfl⟩ := own_slice h2
  rw [← bv_append] at h2
  exact h A' _ c' w' rfl h2 ⟨h3, h4.imp id fun e => ⟨_, e, Nat.le_refl _⟩⟩
theorem wpList_appB {ops : Array Oper} {rest : List Oper} {o : Oper} {a : Act} {Q : Exit → Act → World → Prop} (s x : Operand) (hw : Region.wanted o (yielded ops a.tmps) = true)
    (ho : o.op = .call { callee := .builtin .append, args := #[s, x], argTypes := #[60, 60] })
    (base : Nat) (A : Option Addr) (n c : Nat) (xs : List UInt8) (hs : a.eval s = .slice A n c) (hown : w.ownsRow base 5 1 (.slice A n c) n (bv xs))
    (B : Nat) (X : Option Addr) (m cx : Nat) (ys : List UInt8) (hx : a.eval x = .slice X m cx) (hr : Reads w B 1 X m (bv ys)) (hl : n + m ≤ 100000000) (hbase : base ≤ w.heap.size)
    (h : ∀ A' n' c' w', n' = n + m → w'.ownsRow base 5 1 (.slice A' n' c') n' (bv (xs ++ ys)) → Chg w w' (.slice A n c) (.slice A' n' c') → wpList Tryd.prog ops Q rest (a.put o.dst (.slice A' n' c')) w') : wpList Tryd.prog ops Q (o :: rest) a w :=
  Go.BigFrame.wpList_want hw fun _ hK => wp_appB w s x ho base A n c xs hs hown B X m cx ys hx hr hl hbase fun A' n' c' w' h1 h2 h3 => hK _ _ (h A' n' c' w' h1 h2 h3)
theorem step_appB {ops : Array Oper} {o : Oper} {a : Act} {K : Act → World → Prop} {Q : Exit → Act → World → Prop} {E : Prop} (hgd : o.guard = none) (s x : Operand)
    (ho : o.op = .call { callee := .builtin .append, args := #[s, x], argTypes := #[60, 60] })
    (base : Nat) (A : Option Addr) (n c : Nat) (xs : List UInt8) (hs : a.eval s = .slice A n c) (hown : w.ownsRow base 5 1 (.slice A n c) n (bv xs))
    (B : Nat) (X : Option Addr) (m cx : Nat) (ys : List UInt8) (hx : a.eval x = .slice X m cx) (hr : Reads w B 1 X m (bv ys)) (hl : n + m ≤ 100000000) (hbase : base ≤ w.heap.size)
    (h : ∀ A' n' c' w', n' = n + m → w'.ownsRow base 5 1 (.slice A' n' c') n' (bv (xs ++ ys)) → Chg w w' (.slice A n c) (.slice A' n' c') → K (a.put o.dst (.slice A' n' c')) w') :
    if Region.wanted o (yielded ops a.tmps) = true then Oper.wp Tryd.prog o a w K Q else E := by
  have hw : Region.wanted o (yielded ops a.tmps) = true := by simp [Region.wanted, hgd]
  rw [if_pos hw]
  exact wp_appB w s x ho base A n c xs hs hown B X m cx ys hx hr hl hbase h
/-- append(p, s...) in a plain region. -/
theorem wpList_appS {ops : Array Oper} {rest : List Oper} {o : Oper} {a : Act} {Q : Exit → Act → World → Prop} (hgd : o.guard = none) (sl x : Operand)
    (ho : o.op = .call { callee := .builtin .append, args := #[sl, x], argTypes := #[60, 9] })
    (base : Nat) (A : Option Addr) (n c : Nat) (xs : List UInt8) (hs : a.eval sl = .slice A n c) (hown : w.ownsRow base 5 1 (.slice A n c) n (bv xs)) (s : ByteArray) (hx : a.eval x = .string s)
    (hl : n + s.size ≤ 100000000) (hbase : base ≤ w.heap.size)
    (h : ∀ A' n' c' w', n' = n + s.size → w'.ownsRow base 5 1 (.slice A' n' c') n' (bv (xs ++ s.data.toList)) → Chg w w' (.slice A n c) (.slice A' n' c') → wpList Tryd.prog ops Q rest (a.put o.dst (.slice A' n' c')) w') : wpList Tryd.prog ops Q (o :: rest) a w := by
  obtain ⟨i0, hi0, hz0, hz1, hz2⟩ := info_parts info5
  refine wpList_plain hgd fun K hK => ?_
  obtain ⟨v', w', hr, h2, h3, h4⟩ := Lib.run_append_own_string (P := Tryd.prog) w base 60 9 o.type 5 i0 Tryd.underlying60 Tryd.underlying9 hi0 hz0 hz1 hz2 _ n _ hown s (by unfold maxLen; omega) (by omega) hbase
  have h5 : v'.ownBlock = (Value.slice A n c).ownBlock ∨ ∃ g, v'.ownBlock = some g ∧ w.heap.size ≤ g := by
    rcases hown.2 with ⟨e1, e2⟩ | ⟨g, cap, cur, e1, hbg, hg, hnc, hcm, hcs, htake⟩
    · injection e1 with a1 a2 a3
      subst a1 a2 a3
      by_cases hm : s.size = 0
      · left; rw [h4.2 ⟨rfl, hm⟩]
      · have hr2 := run_append_nil_string (P := Tryd.prog) w 60 9 o.type 5 i0 (.int .u8 0) Tryd.underlying60 Tryd.underlying9 hi0 hz0 s (by omega) (by omega) (by rw [hz2]; omega)
        rw [hr] at hr2
        injection hr2 with e _
        subst e
        exact .inr ⟨_, rfl, Nat.le_refl _⟩
    · injection e1 with a1 a2 a3
      subst a1 a3
      by_cases hroom : n + s.size ≤ c
      · have hr2 := Lib.run_append_room_string (P := Tryd.prog) w 60 9 o.type 5 i0 Tryd.underlying60 Tryd.underlying9 hi0 hz1 g n c cur hg s hroom (by omega)
        rw [hr] at hr2
        injection hr2 with e _
        subst e
        exact .inl rfl
      · have holds : ∀ j u, (bv xs)[j]? = some u → w.cell? ((⟨g, 0, none⟩ : Addr).add j) = some u := hown.cells (g := g) rfl
        have hr2 := Lib.run_append_grow_string (P := Tryd.prog) w 60 9 o.type 5 i0 (.int .u8 0) Tryd.underlying60 Tryd.underlying9 hi0 hz0 ⟨g, 0, none⟩ n c (bv xs) (by rw [hz1]; exact hown.1) holds s (by omega) (by omega) (by rw [hz2]; exact growslice_fits (by omega) (by omega))
        rw [hr] at hr2
        injection hr2 with e _
        subst e
        exact .inr ⟨_, rfl, Nat.le_refl _⟩
  unfold Oper.wp execOp
  simp only [ho, resolve, invoke, builtin, Sem.run_bind, Sem.run_pure, Result.andThen_ok, List.map_toArray, List.map_cons, List.map_nil, hs, hx, hr]
  obtain ⟨A', c', rfl⟩ := own_slice h2
  rw [bv_str, ← bv_append] at h2
  exact hK _ _ (h A' _ c' w' rfl h2 ⟨h3, h5⟩)
end
def flagB (b : Bool) : UInt8 := if b then 1 else 0
set_option maxHeartbeats 400000 in
theorem flag_any (b : Bool) (w : World) : Calls Tryd.prog 45 #[.bool b] w fun e w' => e = .returned (.int .u8 ((flagB b).toNat : Int)) ∧ w = w' := by
  cases b
  all_goals
    go_enter Tryd.func45, Tryd.ntmps45
    go_wp2
    go_ret
    exact ⟨rfl, rfl⟩
/-- A text with its length before it. -/
def txt (s : ByteArray) : List UInt8 := lowB s.size :: s.data.toList
theorem low_reads (w : World) (i : Int) : Reads (w.alloc (.cells #[.int .u8 (i % 256)] 5)) (w.heap.size + 1) 1 (some ⟨w.heap.size, 0, none⟩) 1 (bv [lowB i]) := by
  rw [← bv_low]; exact rowN_reads w _ 1 1 5 _ rfl rfl
set_option maxRecDepth 100000 in
set_option maxHeartbeats 400000 in
theorem addText_any (base : Nat) (A : Option Addr) (n c : Nat) (s : ByteArray) (xs : List UInt8) (w : World) (ho : w.ownsRow base 5 1 (.slice A n c) n (bv xs)) (hb : base ≤ w.heap.size) (hn : n ≤ 2000000) (hs : s.size ≤ 1000000) :
    Calls Tryd.prog 43 #[.slice A n c, .string s] w (RetB w base (.slice A n c) (xs ++ txt s)) := by
  have HO := Lib.hid ho
  clear ho
  go_enter Tryd.func43, Tryd.ntmps43
  go_wp2_with (first
    | (at_builtin; refine wpList_appB _ (.tmp 5) (.tmp 9) rfl rfl base A n c xs rfl (HO.out.alloc _) (w.heap.size + 1) (some ⟨w.heap.size, 0, none⟩) 1 1 [lowB s.size] rfl ?q5 ?q2 ?q4 ?_; (case q5 => exact low_reads w _); (case q2 => omega); (case q4 => (simp; omega)); intro A1 n1 c1 w1 hn1 ho1 hg1; have HO1 := Lib.hid ho1; have HG1 := Lib.hid hg1; have hs1 := hg1.1.size; have hn1' : n1 ≤ 2000001 := (by omega); clear hn1 ho1 hg1)
    | (at_builtin; refine wpList_appS _ rfl (.tmp 10) (.tmp 11) rfl base A1 n1 c1 _ rfl HO1.out s rfl ?r2 ?r4 ?_; (case r2 => omega); (case r4 => (simp at hs1; omega)); intro A2 n2 c2 w2 hn2 ho2 hg2; have HN2 := Lib.hid hn2; have HO2 := Lib.hid ho2; have HG2 := Lib.hid hg2; clear hn2 ho2 hg2))
  go_ret
  refine ⟨A2, n2, c2, rfl, ?_, (HG1.out.trans HG2.out).after ((Below.refl _ _).alloc (Nat.le_refl _) _)⟩
  have := HO2.out
  rw [List.append_assoc] at this
  exact this
theorem list_reads (w : World) (l : List UInt8) (cs : Array Value) (h : cs = (bv l).toArray) : Reads (w.alloc (.cells cs 5)) (w.heap.size + 1) 1 (some ⟨w.heap.size, 0, none⟩) l.length (bv l) := by
  subst h; exact rowN_reads w _ _ 1 5 _ rfl (by rw [bv_len, Nat.mul_one])
theorem list_reads1 (w : World) (o : Obj) (l : List UInt8) (cs : Array Value) (h : cs = (bv l).toArray) : Reads ((w.alloc o).alloc (.cells cs 5)) (w.heap.size + 2) 1 (some ⟨w.heap.size + 1, 0, none⟩) l.length (bv l) := by
  have := list_reads (w.alloc o) l cs h
  rw [World.size_alloc] at this
  exact this
theorem low_val (i : Int) : Value.int .u8 (i % 256) = .int .u8 ((lowB i).toNat : Int) := by rw [lowB_toNat]
/-- A number as two bytes. -/
def le2 (i : Int) : List UInt8 := [lowB i, lowB (i / 256)]
/-- A number as four bytes. -/
def le4 (i : Int) : List UInt8 := [lowB i, lowB (i / 256), lowB (i / 65536), lowB (i / 16777216)]
set_option maxRecDepth 100000 in
set_option maxHeartbeats 400000 in
theorem addShort_any (base : Nat) (A : Option Addr) (n c : Nat) (i : Int) (xs : List UInt8) (w : World) (ho : w.ownsRow base 5 1 (.slice A n c) n (bv xs)) (hb : base ≤ w.heap.size) (hn : n ≤ 1000000) :
    Calls Tryd.prog 44 #[.slice A n c, .int .i64 i] w (RetB w base (.slice A n c) (xs ++ le2 i)) := by
  have HO := Lib.hid ho
  clear ho
  go_enter Tryd.func44, Tryd.ntmps44
  go_wp2_with (at_builtin; refine wpList_appB _ (.tmp 5) (.tmp 11) rfl rfl base A n c xs rfl (HO.out.alloc _) (w.heap.size + 1) (some ⟨w.heap.size, 0, none⟩) 2 2 (le2 i) rfl ?q5 ?q2 ?q4 ?_; (case q5 => (exact list_reads w (le2 i) _ (by rw [low_val, low_val]; rfl))); (case q2 => omega); (case q4 => (simp; omega)); intro A1 n1 c1 w1 hn1 ho1 hg1; have HO1 := Lib.hid ho1; have HG1 := Lib.hid hg1; clear hn1 ho1 hg1)
  go_ret
  exact ⟨A1, n1, c1, rfl, HO1.out, HG1.out.after ((Below.refl _ _).alloc (Nat.le_refl _) _)⟩
/-- The encoding of a default. -/
def valEnc (v : Val) : List UInt8 := flagB (!v.null) :: (if v.null then [] else if v.ty = 1 then le4 v.int else if v.ty = 2 then txt v.text else [flagB v.bool])
theorem le4_cells (i : Int) : #[Value.int .u8 (i % 256), .int .u8 (i % 4294967296 / 256 % 256), .int .u8 (i % 4294967296 / 65536 % 256), .int .u8 (i % 4294967296 / 16777216)] = (bv (le4 i)).toArray := by
  simp only [bv, le4, List.map_cons, List.map_nil, lowB_toNat]
  rw [show i % 4294967296 / 256 % 256 = i / 256 % 256 by omega, show i % 4294967296 / 65536 % 256 = i / 65536 % 256 by omega, show i % 4294967296 / 16777216 = i / 16777216 % 256 by omega]
set_option maxRecDepth 100000 in
set_option maxHeartbeats 1000000 in
theorem addValue_null (base : Nat) (A : Option Addr) (n c : Nat) (v : Val) (xs : List UInt8) (w : World) (ho : w.ownsRow base 5 1 (.slice A n c) n (bv xs)) (hb : base ≤ w.heap.size) (hn : n ≤ 1000000) (hv : v.null = true) :
    Calls Tryd.prog 46 #[.slice A n c, v.val] w (RetB w base (.slice A n c) (xs ++ valEnc v)) := by
  have HO := Lib.hid ho
  have HE := Lib.hid (show valEnc v = [flagB false] by simp [valEnc, hv])
  clear ho
  unfold Val.val
  rw [hv]
  clear hv
  go_enter Tryd.func46, Tryd.ntmps46
  go_wp2_with (first | (go_at_call 45; refine (flag_any false _).mono ?_; rintro e w' ⟨rfl, rfl⟩) | (at_builtin; refine wpList_appB _ (.tmp 6) (.tmp 11) rfl rfl base A n c xs rfl ((HO.out.alloc _).alloc _) (w.heap.size + 2) (some ⟨w.heap.size + 1, 0, none⟩) 1 1 [flagB false] rfl ?q5 ?q2 ?q4 ?_; (case q5 => (exact list_reads1 w _ [flagB false] _ rfl)); (case q2 => omega); (case q4 => (simp; omega)); intro A1 n1 c1 w1 hn1 ho1 hg1; have HO1 := Lib.hid ho1; have HG1 := Lib.hid hg1; have hB := ((Blk.new w 30 _).alloc _).chg hg1 (own_ne HO.out (.inr (Nat.le_refl _))).symm; have g0 : w1.cell? ⟨w.heap.size, 0, none⟩ = some (.int .u8 (v.ty : Int)) := hB.cell 0; have g1 : w1.cell? ⟨w.heap.size, 1, none⟩ = some (.bool (!false)) := hB.cell 1; have g2 : w1.cell? ⟨w.heap.size, 2, none⟩ = some (.int .i64 v.int) := hB.cell 2; have g3 : w1.cell? ⟨w.heap.size, 3, none⟩ = some (.string v.text) := hB.cell 3; have g4 : w1.cell? ⟨w.heap.size, 4, none⟩ = some (.bool v.bool) := hB.cell 4; have hs1 := hg1.1.size; simp at hs1; have hn1' : n1 ≤ 1000001 := (by omega); clear hn1 ho1 hg1 hB))
  go_ret
  refine ⟨A1, n1, c1, rfl, ?_, HG1.out.after (((Below.refl _ _).alloc (Nat.le_refl _) _).alloc (by simp) _)⟩
  rw [HE.out]
  exact HO1.out
set_option maxRecDepth 100000 in
set_option maxHeartbeats 1000000 in
theorem addValue_int (base : Nat) (A : Option Addr) (n c : Nat) (v : Val) (xs : List UInt8) (w : World) (ho : w.ownsRow base 5 1 (.slice A n c) n (bv xs)) (hb : base ≤ w.heap.size) (hn : n ≤ 1000000) (hv : v.null = false) (ht : v.ty = 1) :
    Calls Tryd.prog 46 #[.slice A n c, v.val] w (RetB w base (.slice A n c) (xs ++ valEnc v)) := by
  have HO := Lib.hid ho
  have HE := Lib.hid (show valEnc v = flagB true :: le4 v.int by simp [valEnc, hv, ht])
  clear ho
  unfold Val.val
  rw [hv]
  have e1 : ((v.ty : Int) == 1) = true := by rw [beq_iff_eq]; omega
  clear hv ht
  go_enter Tryd.func46, Tryd.ntmps46
  go_wp2_with (first | (go_at_call 45; refine (flag_any true _).mono ?_; rintro e w' ⟨rfl, rfl⟩) | (at_builtin; refine wpList_appB _ (.tmp 6) (.tmp 11) rfl rfl base A n c xs rfl ((HO.out.alloc _).alloc _) (w.heap.size + 2) (some ⟨w.heap.size + 1, 0, none⟩) 1 1 [flagB true] rfl ?q5 ?q2 ?q4 ?_; (case q5 => (exact list_reads1 w _ [flagB true] _ rfl)); (case q2 => omega); (case q4 => (simp; omega)); intro A1 n1 c1 w1 hn1 ho1 hg1; have HO1 := Lib.hid ho1; have HG1 := Lib.hid hg1; have hB := ((Blk.new w 30 _).alloc _).chg hg1 (own_ne HO.out (.inr (Nat.le_refl _))).symm; have g0 : w1.cell? ⟨w.heap.size, 0, none⟩ = some (.int .u8 (v.ty : Int)) := hB.cell 0; have g1 : w1.cell? ⟨w.heap.size, 1, none⟩ = some (.bool (!true)) := hB.cell 1; have g2 : w1.cell? ⟨w.heap.size, 2, none⟩ = some (.int .i64 v.int) := hB.cell 2; have g3 : w1.cell? ⟨w.heap.size, 3, none⟩ = some (.string v.text) := hB.cell 3; have g4 : w1.cell? ⟨w.heap.size, 4, none⟩ = some (.bool v.bool) := hB.cell 4; have hs1 := hg1.1.size; simp at hs1; have hn1' : n1 ≤ 1000001 := (by omega); clear hn1 ho1 hg1 hB) | (at_builtin; refine wpList_appB _ (.tmp 23) (.tmp 35) rfl rfl base A1 n1 c1 _ rfl (HO1.out.alloc _) (w1.heap.size + 1) (some ⟨w1.heap.size, 0, none⟩) 4 4 (le4 v.int) rfl ?r5 ?r2 ?r4 ?_; (case r5 => (exact list_reads w1 (le4 v.int) _ (le4_cells _))); (case r2 => omega); (case r4 => (simp; omega)); intro A2 n2 c2 w2 hn2 ho2 hg2; have HO2 := Lib.hid ho2; have HG2 := Lib.hid hg2; clear hn2 ho2 hg2))
  go_ret
  refine ⟨A2, n2, c2, rfl, ?_, (HG1.out.trans (HG2.out.after ((Below.refl _ _).alloc (Nat.le_refl _) _))).after (((Below.refl _ _).alloc (Nat.le_refl _) _).alloc (by simp) _)⟩
  have h := HO2.out
  rw [List.append_assoc] at h
  rw [HE.out]
  exact h
set_option maxRecDepth 100000 in
set_option maxHeartbeats 1000000 in
theorem addValue_text (base : Nat) (A : Option Addr) (n c : Nat) (v : Val) (xs : List UInt8) (w : World) (ho : w.ownsRow base 5 1 (.slice A n c) n (bv xs)) (hb : base ≤ w.heap.size) (hn : n ≤ 1000000) (hs : v.text.size ≤ 1000000) (hv : v.null = false) (ht : v.ty = 2) :
    Calls Tryd.prog 46 #[.slice A n c, v.val] w (RetB w base (.slice A n c) (xs ++ valEnc v)) := by
  have HO := Lib.hid ho
  have HE := Lib.hid (show valEnc v = flagB true :: txt v.text by simp [valEnc, hv, ht])
  clear ho
  unfold Val.val
  rw [hv]
  have e1 : ((v.ty : Int) == 1) = false := by rw [beq_eq_false_iff_ne]; omega
  have e2 : ((v.ty : Int) == 2) = true := by rw [beq_iff_eq]; omega
  clear hv ht
  go_enter Tryd.func46, Tryd.ntmps46
  go_wp2_with (first | (go_at_call 45; refine (flag_any true _).mono ?_; rintro e w' ⟨rfl, rfl⟩) | (at_builtin; refine wpList_appB _ (.tmp 6) (.tmp 11) rfl rfl base A n c xs rfl ((HO.out.alloc _).alloc _) (w.heap.size + 2) (some ⟨w.heap.size + 1, 0, none⟩) 1 1 [flagB true] rfl ?q5 ?q2 ?q4 ?_; (case q5 => (exact list_reads1 w _ [flagB true] _ rfl)); (case q2 => omega); (case q4 => (simp; omega)); intro A1 n1 c1 w1 hn1 ho1 hg1; have HO1 := Lib.hid ho1; have HG1 := Lib.hid hg1; have hB := ((Blk.new w 30 _).alloc _).chg hg1 (own_ne HO.out (.inr (Nat.le_refl _))).symm; have g0 : w1.cell? ⟨w.heap.size, 0, none⟩ = some (.int .u8 (v.ty : Int)) := hB.cell 0; have g1 : w1.cell? ⟨w.heap.size, 1, none⟩ = some (.bool (!true)) := hB.cell 1; have g2 : w1.cell? ⟨w.heap.size, 2, none⟩ = some (.int .i64 v.int) := hB.cell 2; have g3 : w1.cell? ⟨w.heap.size, 3, none⟩ = some (.string v.text) := hB.cell 3; have g4 : w1.cell? ⟨w.heap.size, 4, none⟩ = some (.bool v.bool) := hB.cell 4; have hs1 := hg1.1.size; simp at hs1; have hn1' : n1 ≤ 1000001 := (by omega); clear hn1 ho1 hg1 hB) | (go_at_call 43; refine (addText_any base A1 n1 c1 v.text _ _ HO1.out (by omega) (by omega) hs).mono ?_; rintro e w2 ⟨A2, n2, c2, rfl, ho2, hg2⟩; have HO2 := Lib.hid ho2; have HG2 := Lib.hid hg2; clear ho2 hg2))
  go_ret
  refine ⟨A2, n2, c2, rfl, ?_, (HG1.out.trans HG2.out).after (((Below.refl _ _).alloc (Nat.le_refl _) _).alloc (by simp) _)⟩
  have h := HO2.out
  rw [List.append_assoc] at h
  rw [HE.out]
  exact h
set_option maxRecDepth 100000 in
set_option maxHeartbeats 1000000 in
theorem addValue_bool (base : Nat) (A : Option Addr) (n c : Nat) (v : Val) (xs : List UInt8) (w : World) (ho : w.ownsRow base 5 1 (.slice A n c) n (bv xs)) (hb : base ≤ w.heap.size) (hn : n ≤ 1000000) (hv : v.null = false) (h1 : v.ty ≠ 1) (h2 : v.ty ≠ 2) :
    Calls Tryd.prog 46 #[.slice A n c, v.val] w (RetB w base (.slice A n c) (xs ++ valEnc v)) := by
  have HO := Lib.hid ho
  have HE := Lib.hid (show valEnc v = [flagB true, flagB v.bool] by simp [valEnc, hv, h1, h2])
  clear ho
  unfold Val.val
  rw [hv]
  have e1 : ((v.ty : Int) == 1) = false := by rw [beq_eq_false_iff_ne]; omega
  have e2 : ((v.ty : Int) == 2) = false := by rw [beq_eq_false_iff_ne]; omega
  clear hv h1 h2
  go_enter Tryd.func46, Tryd.ntmps46
  go_wp2_with (first | (go_at_call 45; refine (flag_any _ _).mono ?_; rintro e w' ⟨rfl, rfl⟩) | (at_builtin; refine wpList_appB _ (.tmp 6) (.tmp 11) rfl rfl base A n c xs rfl ((HO.out.alloc _).alloc _) (w.heap.size + 2) (some ⟨w.heap.size + 1, 0, none⟩) 1 1 [flagB true] rfl ?q5 ?q2 ?q4 ?_; (case q5 => (exact list_reads1 w _ [flagB true] _ rfl)); (case q2 => omega); (case q4 => (simp; omega)); intro A1 n1 c1 w1 hn1 ho1 hg1; have HO1 := Lib.hid ho1; have HG1 := Lib.hid hg1; have hB := ((Blk.new w 30 _).alloc _).chg hg1 (own_ne HO.out (.inr (Nat.le_refl _))).symm; have g0 : w1.cell? ⟨w.heap.size, 0, none⟩ = some (.int .u8 (v.ty : Int)) := hB.cell 0; have g1 : w1.cell? ⟨w.heap.size, 1, none⟩ = some (.bool (!true)) := hB.cell 1; have g2 : w1.cell? ⟨w.heap.size, 2, none⟩ = some (.int .i64 v.int) := hB.cell 2; have g3 : w1.cell? ⟨w.heap.size, 3, none⟩ = some (.string v.text) := hB.cell 3; have g4 : w1.cell? ⟨w.heap.size, 4, none⟩ = some (.bool v.bool) := hB.cell 4; have hs1 := hg1.1.size; simp at hs1; have hn1' : n1 ≤ 1000001 := (by omega); clear hn1 ho1 hg1 hB) | (at_builtin; refine wpList_appB _ (.tmp 43) (.tmp 47) rfl rfl base A1 n1 c1 _ rfl (HO1.out.alloc _) (w1.heap.size + 1) (some ⟨w1.heap.size, 0, none⟩) 1 1 [flagB v.bool] rfl ?r5 ?r2 ?r4 ?_; (case r5 => (exact list_reads w1 [flagB v.bool] _ rfl)); (case r2 => omega); (case r4 => (simp; omega)); intro A2 n2 c2 w2 hn2 ho2 hg2; have HO2 := Lib.hid ho2; have HG2 := Lib.hid hg2; clear hn2 ho2 hg2))
  go_ret
  refine ⟨A2, n2, c2, rfl, ?_, (HG1.out.trans (HG2.out.after ((Below.refl _ _).alloc (Nat.le_refl _) _))).after (((Below.refl _ _).alloc (Nat.le_refl _) _).alloc (by simp) _)⟩
  have h := HO2.out
  rw [List.append_assoc] at h
  rw [HE.out]
  exact h
theorem addValue_any (base : Nat) (A : Option Addr) (n c : Nat) (v : Val) (xs : List UInt8) (w : World) (ho : w.ownsRow base 5 1 (.slice A n c) n (bv xs)) (hb : base ≤ w.heap.size) (hn : n ≤ 1000000) (hs : v.text.size ≤ 1000000) :
    Calls Tryd.prog 46 #[.slice A n c, v.val] w (RetB w base (.slice A n c) (xs ++ valEnc v)) := by
  cases hv : v.null with
  | true => exact addValue_null base A n c v xs w ho hb hn hv
  | false =>
    by_cases h1 : v.ty = 1
    · exact addValue_int base A n c v xs w ho hb hn hv h1
    · by_cases h2 : v.ty = 2
      · exact addValue_text base A n c v xs w ho hb hn hs hv h2
      · exact addValue_bool base A n c v xs w ho hb hn hv h1 h2
end Go.Proofs.YtophcoaikelopaaDoor
