/- Walks: the reference's Parse. -/
import Derived.Test.YtophcoaikelopaaDoorWX
import Derived.Test.YtophcoaikelopaaDoorOrdB
namespace Go.Proofs.YtophcoaikelopaaDoor
open Go.RowKit
attribute [local go_sem ↓] Go.wp_at_zero Go.wp_at_succ

section
variable (B rb : Nat) (s : RS) (w : World)
theorem read1 (h : GSt w B rb s) : Calls Tryd.prog 56 #[.pointer (some ⟨rb, 0, none⟩), .int .i64 1] w (RetG w B rb (.int .u64 (nb s : Int)) (gtS 1 s)) := by
  have e : pv (rdB 1 s) 1 = nb s := by simp [pv, nb]
  rw [← e]; exact read_any B rb 1 1 rfl (by omega) (by omega) s w h
theorem read2 (h : GSt w B rb s) : Calls Tryd.prog 56 #[.pointer (some ⟨rb, 0, none⟩), .int .i64 2] w (RetG w B rb (.int .u64 (nb2 s : Int)) (gtS 2 s)) := by
  have e : pv (rdB 2 s) 2 = nb2 s := by simp [pv, nb2]; omega
  rw [← e]; exact read_any B rb 2 2 rfl (by omega) (by omega) s w h
theorem read4 (h : GSt w B rb s) : Calls Tryd.prog 56 #[.pointer (some ⟨rb, 0, none⟩), .int .i64 4] w (RetG w B rb (.int .u64 (pv (rdB 4 s) 4 : Int)) (gtS 4 s)) :=
  read_any B rb 4 4 rfl (by omega) (by omega) s w h
theorem pv_int4 (l : List UInt8) : sg4 (pv l 4) = int4 l := by
  unfold int4; congr 1; simp [pv]; omega
theorem nb2_lt : nb2 s < 65536 := by
  unfold nb2
  have h1 := ((rdB 2 s).getD 0 0).toNat_lt
  have h2 := ((rdB 2 s).getD 1 0).toNat_lt
  omega
end
/-- What the reference's Parse returns. -/
def RetRP (w : World) (o : Option Tbl) (e : Ending) (w' : World) : Prop := match o with
  | some t => ∃ v, e = .returned (.tuple #[v, .bool true]) ∧ TblIs w' v t ∧ Below w.heap.size w w'
  | none => e = .returned (.tuple #[.agg #[.string ⟨#[]⟩, .int .i64 0, .slice none 0 0, .slice none 0 0, .int .u64 0, .int .u64 0], .bool false]) ∧ Below w.heap.size w w'
set_option maxRecDepth 100000 in
set_option maxHeartbeats 8000000 in
theorem refParse_first (A : Option Addr) (n c : Nat) (l : List UInt8) (w : World) (hr : Reads w w.heap.size 1 A n (bv l)) (hn : n ≤ c) (hc : c ≤ 9223372036854775807) (hf : nb ⟨l, false⟩ ≠ 1) :
    Calls Tryd.prog 31 #[.slice A n c] w (RetRP w (parse l)) := by
  rw [R.parse_first hf]
  have HS0 : Hid (∀ o, GSt ((w.alloc o).alloc (.cells #[.slice A n c, .bool false] 100)) w.heap.size (w.heap.size + 1) ⟨l, false⟩) := fun o => ⟨A, n, c, Blk.new1 w o 100 _, (hr.alloc (Nat.le_refl _) _).alloc (by simp) _, hn, hc, by omega⟩
  clear hr
  go_enter Tryd.func31, Tryd.ntmps31
  go_wp2_with fail
  refine (read1 w.heap.size (w.heap.size + 1) ⟨l, false⟩ _ (HS0.out _)).mono ?_
  rintro e w1 ⟨rfl, hs1, hg1⟩
  generalize nb ⟨l, false⟩ = k at *
  have hk : ((k : Int) != 1) = true := by rw [bne_iff_ne]; omega
  have hres := ((Blk.new w 44 #[.string ⟨#[]⟩, .int .i64 0, .slice none 0 0, .slice none 0 0, .int .u64 0, .int .u64 0]).alloc _).grown hg1 (fun e => by injection e; omega)
  have hg0 := (only_alloc (only_alloc (World.grownBy.refl w (some (w.heap.size + 1))) _) _).trans hg1
  have HB : Hid (Below w.heap.size w w1) := (Below.refl _ _).grown hg0 (Nat.le_refl _) (fun j hj => by injection hj with hj; omega)
  have r0 := hres.cell 0
  have rz0 := hres.frozen 0
  have r1 := hres.cell 1
  have rz1 := hres.frozen 1
  have r2 := hres.cell 2
  have rz2 := hres.frozen 2
  have r3 := hres.cell 3
  have rz3 := hres.frozen 3
  have r4 := hres.cell 4
  have rz4 := hres.frozen 4
  have r5 := hres.cell 5
  have rz5 := hres.frozen 5
  simp at r0 r1 r2 r3 r4 r5
  clear hs1 hg1 hg0 HS0 hres hf
  go_wp2
  refine bodyPost_ret (v := .tuple #[.agg #[.string ⟨#[]⟩, .int .i64 0, .slice none 0 0, .slice none 0 0, .int .u64 0, .int .u64 0], .bool false]) (by simp [results, Tryd.results31, go_sem, r0, r1, r2, r3, r4, r5]) rfl ⟨rfl, ?_⟩
  iterate 6 (refine Below.setCell ?_ (by simp) _)
  exact HB.out
end Go.Proofs.YtophcoaikelopaaDoor
