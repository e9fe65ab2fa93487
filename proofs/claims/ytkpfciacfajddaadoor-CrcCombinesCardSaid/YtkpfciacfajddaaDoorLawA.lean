/- The walks of the laws CrcSums, CrcUpdates, CrcSplits, CrcResidue: each returns true and writes nothing that was there. -/
import Derived.Test.YtkpfciacfajddaaDoorWalkB
namespace Go.Proofs.YtkpfciacfajddaaDoor
open Go.RowKit

theorem u8_info : (Tryd.prog.info? 5).map (fun i => (i.zero, i.size, i.bytes)) = some (some (.int .u8 0), 1, 1) := by kernel_rfl
theorem u8s_one (l : List Nat) : ∀ u ∈ u8s l, u.oneCell' = true := by
  intro u hu
  simp only [u8s, List.mem_map] at hu
  obtain ⟨b, _, rfl⟩ := hu
  rfl
theorem u8s_append (l m : List Nat) : u8s l ++ u8s m = u8s (l ++ m) := by simp [u8s]
/-- What the law is told of a slice of bytes that came in. -/
structure In (w : World) (A : Option Addr) (n cap : Nat) (l : List Nat) : Prop where
  bytes : ∀ b ∈ l, b < 256
  reads : Reads w w.heap.size 1 A n (u8s l)
  le : n ≤ cap
  cap : cap ≤ 9223372036854775807
theorem In.len {w : World} {A : Option Addr} {n cap : Nat} {l : List Nat} (h : In w A n cap l) : l.length = n := by have := h.reads.1; simpa [u8s] using this
theorem In.cut {w : World} {A : Option Addr} {n cap : Nat} {l : List Nat} (h : In w A n cap l) (k : Nat) : In w A (min n k) cap (l.take k) :=
  ⟨fun b hb => h.bytes b (List.mem_of_mem_take hb), by rw [← u8s_take]; exact h.reads.take_ k, by have := h.le; omega, h.cap⟩

theorem own_slice {w : World} {base : Nat} {e : TypeId} {size : Nat} {v : Value} {n : Nat} {xs : List Value} (h : w.ownsRow base e size v n xs) : ∃ A c, v = .slice A n c := by
  rcases h.2 with ⟨rfl, rfl⟩ | ⟨g, cap, cur, rfl, _⟩
  · exact ⟨_, _, rfl⟩
  · exact ⟨_, _, rfl⟩
/-- 'append' of bytes onto a row of the call's own: what is behind it is a slice again. -/
theorem wpList_app (w : World) {ops : Array Oper} {rest : List Oper} {o : Oper} {a : Act} {Q : Exit → Act → World → Prop} (s x : Operand)
    (hw : Region.wanted o (yielded ops a.tmps) = true)
    (ho : o.op = .call { callee := .builtin .append, args := #[s, x], argTypes := #[22, 22] })
    (base : Nat) (v : Value) (n : Nat) (l : List Nat) (hs : a.eval s = v) (hown : w.ownsRow base 5 1 v n (u8s l))
    (B : Nat) (A : Option Addr) (m c : Nat) (k : List Nat) (hx : a.eval x = .slice A m c) (hr : Reads w B 1 A m (u8s k))
    (h1 : n + m ≤ 1000000) (hbase : base ≤ w.heap.size)
    (h : ∀ A' n' c' w', w'.ownsRow base 5 1 (.slice A' n' c') n' (u8s (l ++ k)) → Reads w' w'.heap.size 1 A' n' (u8s (l ++ k)) → n' ≤ n + m → Below base w w' → wpList Tryd.prog ops Q rest (a.put o.dst (.slice A' n' c')) w') : wpList Tryd.prog ops Q (o :: rest) a w := by
  obtain ⟨i0, hi0, hz0, hz1, hz2⟩ := info_parts u8_info
  refine Go.BigFrame.wpList_want hw fun K hK => ?_
  refine wp_append_any w s x 22 ho base 5 i0 _ 1 1 Tryd.underlying22 hi0 hz0 hz1 hz2 rfl (by omega) v _ _ hs hown B A m c _ hx hr (u8s_one k) (by unfold maxLen; omega) (by omega) hbase ?_
  intro v' w' h2 h3 _
  obtain ⟨A', c', rfl⟩ := own_slice h2
  rw [u8s_append] at h2
  exact hK _ _ (h A' _ c' w' h2 (Reads.of_own h2) (Nat.le_refl _) ((Below.refl _ _).grown h3 hbase (fun j hj => (hown.lt j hj).1)))
theorem own_empty (w : World) : (w.alloc (.cells #[] 5)).ownsRow w.heap.size 5 1 (.slice (some ⟨w.heap.size, 0, none⟩) 0 0) 0 (u8s []) :=
  World.ownsRow_made w #[] 0 (Nat.le_refl _) (by simp [maxLen]) rfl

set_option maxHeartbeats 1000000 in
theorem crcSums_core (A : Option Addr) (n cap m : Nat) (l : List Nat) (w : World) (hin : In w A m cap l) (hm : m ≤ 300) (ht : Tab w)
    (hcut : Calls Tryd.prog 13 #[.slice A n cap, .int .i64 300] w fun e w' => e = .returned (.slice A m cap) ∧ w = w') :
    Calls Tryd.prog 3 #[.slice A n cap] w fun e w' => e = .returned (.bool true) ∧ Below w.heap.size w w' := by
  have HI := Lib.hid hin
  have HT := Lib.hid ht
  have HC := Lib.hid hcut
  clear hin ht hcut
  go_enter Tryd.func3, Tryd.ntmps3
  go_wp2_with (first
    | (go_at_call 13; refine HC.out.mono ?_; rintro e w' ⟨rfl, rfl⟩)
    | (at_builtin; refine wpList_app _ (.tmp 6) (.tmp 7) rfl rfl w.heap.size _ 0 [] rfl (own_empty w) w.heap.size A m cap l rfl (HI.out.reads.alloc (Nat.le_refl _) _) (by omega) (by simp) ?_; intro A1 n1 c1 w1 _ hr1 hn1 hb1))
  have HB1 := Lib.hid (((Below.refl w.heap.size w).alloc (Nat.le_refl _) _).trans hb1)
  have HR1 := Lib.hid hr1
  clear hb1 hr1
  have HT1 := Lib.hid (HT.out.below HT.out.size HB1.out)
  refine (awake_any w1 HT1.out).mono ?_
  rintro e w2 ⟨rfl, hb2⟩
  have HB2 := Lib.hid (HB1.out.trans (hb2.mono HB1.out.size))
  have HR2 := Lib.hid (HR1.out.below hb2)
  have HT2 := Lib.hid (HT.out.below HT.out.size HB2.out)
  clear hb2
  go_wp2_with fail
  refine (sum_any A m cap _ l w2 HI.out.bytes (HI.out.reads.below HB2.out) (by omega) HT2.out).mono ?_
  rintro e w' ⟨rfl, rfl⟩
  go_wp2_with fail
  refine (refSum_any A m cap _ l w2 HI.out.bytes (HI.out.reads.below HB2.out) (by omega)).mono ?_
  rintro e w' ⟨rfl, m3, rfl⟩
  go_wp2_with fail
  refine (same_any A A1 m cap n1 c1 _ _ l l (w2.drewN m3) HI.out.bytes HI.out.bytes ((HI.out.reads.below HB2.out).drewN m3) (HR2.out.drewN m3) true (by simp)).mono ?_
  rintro e w' ⟨rfl, rfl⟩
  go_wp2
  go_ret
  exact ⟨rfl, below_drewN HB2.out _⟩
theorem crcSums_walk (A : Option Addr) (n cap : Nat) (l : List Nat) (w : World) (hin : In w A n cap l) (ht : Tab w) :
    Calls Tryd.prog 3 #[.slice A n cap] w fun e w' => e = .returned (.bool true) ∧ Below w.heap.size w w' :=
  crcSums_core A n cap _ _ w (hin.cut 300) (by omega) ht (cut_any A n cap 300 w hin.le hin.cap (by omega))
end Go.Proofs.YtkpfciacfajddaaDoor
