/- The walks and laws that the claim leans on, part 11: each part says ahead of its lines what it holds. -/
import Derived.Test.YtklpeghhgoeeiaaGreatDoorKaj
import Derived.Maps.Range
/- arena: Lines, find, Owner over undivided chunks. -/
namespace Go.Proofs.YtklpeghhgoeeiaaGreatDoor
open Go.RowKit
theorem infoInt : (Tryz.prog.info? 3).map (fun i => (i.zero, i.size, i.bytes)) = some (some (.int .i64 0), 1, 8) := by kernel_rfl
def iCells (l : List Int) : List Value := l.map fun x => Value.int .i64 x
theorem plCells_at (s : Nat) : ∀ (n k : Nat), k < n → (plCells s n)[k * 4]? = some (.int .i64 ((s + 32 * k : Nat) : Int)) ∧ (plCells s n)[k * 4 + 1]? = some (.int .i64 (-1)) ∧ (plCells s n)[k * 4 + 2]? = some (.int .i64 (-1)) ∧ (plCells s n)[k * 4 + 3]? = some (.bool false)
  | n + 1, k, h => by
    have hl : (plCells s n).length = n * 4 := by
      clear h
      induction n with
      | zero => rfl
      | succ n ih => rw [plCells_succ, List.length_append, ih]; simp; omega
    rw [plCells_succ]
    by_cases hk : k < n
    · obtain ⟨h0, h1, h2, h3⟩ := plCells_at s n k hk
      refine ⟨?_, ?_, ?_, ?_⟩ <;> rw [List.getElem?_append_left (by omega)] <;> assumption
    · obtain rfl : k = n := by omega
      refine ⟨?_, ?_, ?_, ?_⟩ <;> rw [List.getElem?_append_right (by omega), hl] <;> simp
theorem pl_facts {w : World} {B n s : Nat} {A : Option Addr} (h : Reads w B 4 A n (plCells s n)) {k : Nat} (hk : k < n) :
    ∃ b off : Nat, A = some ⟨b, off, none⟩ ∧ b < B ∧ w.cell? ⟨b, off + k * 4, none⟩ = some (.int .i64 ((s + 32 * k : Nat) : Int)) ∧ w.cell? ⟨b, off + k * 4 + 1, none⟩ = some (.int .i64 (-1)) ∧ w.cell? ⟨b, off + k * 4 + 2, none⟩ = some (.int .i64 (-1)) ∧ w.cell? ⟨b, off + k * 4 + 3, none⟩ = some (.bool false) := by
  obtain ⟨b, off, hA, hb, hc⟩ := h.plain (by omega) (by omega)
  obtain ⟨h0, h1, h2, h3⟩ := plCells_at s n k hk
  exact ⟨b, off, hA, hb, hc _ _ h0, hc _ _ h1, hc _ _ h2, hc _ _ h3⟩
/-- What Lines hands back. -/
def RetLines (w : World) (K : Nat) (e : Ending) (w' : World) : Prop := ∃ A m c l, e = .returned (.slice A m c) ∧ m ≤ K ∧ w'.ownsRow w.heap.size 3 1 (.slice A m c) m (iCells l) ∧ Below w.heap.size w w'
set_option maxRecDepth 100000 in
set_option maxHeartbeats 4000000 in
theorem lines_any {a : DA} {s K base g : Nat} {w : World} (h : SetIs a s K w base g) (hK : K ≤ 128) :
    Calls Tryz.prog 170 #[.pointer (some ⟨g, 0, none⟩)] w (RetLines w K) := by
  obtain ⟨A, m, c, hB, rfl, ho⟩ := h
  obtain ⟨i0, hi0, hz0, hz1, hz2⟩ := info_parts infoInt
  have HR := Lib.hid (Reads.of_own ho)
  have f1 : w.cell? ⟨g, 1, none⟩ = some (.slice A m c) := hB.cell 1
  have HB0 : Hid (Below w.heap.size w w) := Below.refl _ _
  have HO0 : Hid (w.ownsRow w.heap.size 3 1 (.slice none 0 0) 0 (iCells [])) := World.ownsRow_nil _ _ _ _
  clear ho hB
  go_enter Tryz.func170, Tryz.ntmps170
  go_wp2
  go_loopw [3, 13] (fun p i wr => ∃ (k : Nat) (A1 : Option Addr) (m1 c1 : Nat) (l : List Int), k ≤ m ∧ i = .int .i64 k ∧ p = .slice A1 m1 c1 ∧ m1 ≤ k ∧ Hid (wr.ownsRow w.heap.size 3 1 (.slice A1 m1 c1) m1 (iCells l)) ∧ Hid (Below w.heap.size w wr)) (fun _ i _ => m - (intOf i).toNat)
  case atStart => exact ⟨0, _, _, _, _, Nat.zero_le _, rfl, rfl, Nat.le_refl _, HO0, HB0⟩
  case round =>
    clear HB0 HO0
    obtain ⟨k, A1, m1, c1, l, hk, rfl, rfl, hm1, HO, H⟩ := hrel
    by_cases hlt : k < m
    · obtain ⟨b, off, hA, hbB, f0, f2, f3, f4⟩ := pl_facts (HR.out.below H.out) hlt
      subst hA
      have hz5 : (0 : Int) ≤ (k : Int) := by omega
      have hz6 : (k : Int) < (m : Int) := by omega
      generalize ((s + 32 * k : Nat) : Int) = v at *
      have HLE := Lib.hid H.out.size
      have HOD := Lib.hid ((HO.out.alloc (.cells #[.int .i64 v, .int .i64 (-1), .int .i64 (-1), .bool false] 282)).alloc (.cells #[.int .i64 v] 3))
      have HBD := Lib.hid ((H.out.alloc H.out.size (.cells #[.int .i64 v, .int .i64 (-1), .int .i64 (-1), .bool false] 282)).alloc (by have := H.out.size; simp; omega) (.cells #[.int .i64 v] 3))
      clear H HO
      go_wp2_with (first
        | (at_builtin; refine wpList_app _ (.tmp 17) (.tmp 20) 37 rfl rfl w.heap.size 3 i0 _ 1 8 Tryz.underlying37 hi0 hz0 hz1 hz2 rfl ?q1 (.slice A1 m1 c1) m1 (iCells l) rfl HOD.out (wr.heap.size + 1 + 1) (some ⟨wr.heap.size + 1, 0, none⟩) 1 1 [.int .i64 v] rfl ?q5 ?q6 ?q2 ?q3 ?q4 ?_; (case q1 => omega); (case q5 => exact row_reads_at _ _ (by simp) _ 1 1 3 _ rfl rfl); (case q6 => (intro u hu; simp at hu; subst hu; rfl)); (case q2 => (unfold maxLen; omega)); (case q3 => omega); (case q4 => (have := HLE.out; simp; omega)); intro A3 n3 c3 w8 hn3 ho3 hg3 hb3; have HN3 := Lib.hid hn3; have HO3 := Lib.hid ho3; have HB3 := Lib.hid (HBD.out.trans hb3); clear hn3 ho3 hg3 hb3)
        | go_in)
      have b1 : n3 ≤ k + 1 := by have := HN3.out; omega
      have HO4 : Hid (w8.ownsRow w.heap.size 3 1 (.slice A3 n3 c3) n3 (iCells (l ++ [v]))) := Lib.hid (by have h := HO3.out; simpa [iCells] using h)
      go_roundw
      case rel =>
        first
          | exact ⟨k + 1, _, _, _, _, by omega, by go_num, rfl, b1, HO4, HB3⟩
          | (repeat apply Exists.intro
             refine ⟨?_, rfl⟩
             exact ⟨k + 1, _, _, _, _, by omega, by go_num, rfl, b1, HO4, HB3⟩)
      case measure => simp [intOf]; omega
    · obtain rfl : m = k := by omega
      go_wp2
      go_ret
      exact ⟨_, _, _, _, rfl, hm1, HO.out, H.out⟩
/-- What find hands back. -/
def RetFind (w : World) (e : Ending) (w' : World) : Prop := ∃ p, e = .returned (.pointer p) ∧ (p = none ∨ ∃ b off, p = some ⟨b, off, none⟩ ∧ w'.cell? ⟨b, off + 2, none⟩ = some (.int .i64 (-1))) ∧ w = w'
set_option maxRecDepth 100000 in
set_option maxHeartbeats 4000000 in
theorem find_any {a : DA} {s K base g : Nat} {w : World} (h : SetIs a s K w base g) (hK : K ≤ 128) (x : Int) :
    Calls Tryz.prog 205 #[.pointer (some ⟨g, 0, none⟩), .int .i64 x] w (RetFind w) := by
  obtain ⟨A, m, c, hB, rfl, ho⟩ := h
  have HR := Lib.hid (Reads.of_own ho)
  have f1 : w.cell? ⟨g, 1, none⟩ = some (.slice A m c) := hB.cell 1
  clear ho hB
  go_enter Tryz.func205, Tryz.ntmps205
  go_wp2
  go_loopw [13] (fun i wr => ∃ (k : Nat), k ≤ m ∧ i = .int .i64 k ∧ w = wr) (fun i _ => m - (intOf i).toNat)
  case atStart => exact ⟨0, Nat.zero_le _, rfl, rfl⟩
  case round =>
    obtain ⟨k, hk, rfl, rfl⟩ := hrel
    by_cases hlt : k < m
    · obtain ⟨b, off, hA, hbB, f0, f2, f3, f4⟩ := pl_facts HR.out hlt
      subst hA
      have hz5 : (0 : Int) ≤ (k : Int) := by omega
      have hz6 : (k : Int) < (m : Int) := by omega
      generalize ((s + 32 * k : Nat) : Int) = v at *
      by_cases hv : v = x
      · have hq : (v == x) = true := by simp [hv]
        go_wp2
        go_ret
        exact ⟨_, rfl, .inr ⟨b, off + k * 4, rfl, f3⟩, rfl⟩
      · have hq : (v == x) = false := by simp [hv]
        go_wp2
        go_roundw
        case rel =>
          first
            | exact ⟨k + 1, by omega, by go_num, trivial⟩
            | exact ⟨k + 1, by omega, by go_num, rfl⟩
            | (repeat apply Exists.intro
               refine ⟨?_, rfl⟩
               exact ⟨k + 1, by omega, by go_num, rfl⟩)
        case measure => simp [intOf]; omega
    · obtain rfl : m = k := by omega
      go_wp2
      go_ret
      exact ⟨_, rfl, .inl rfl, rfl⟩
set_option maxRecDepth 100000 in
set_option maxHeartbeats 4000000 in
theorem owner_any {a : DA} {s K base g : Nat} {w : World} (h : SetIs a s K w base g) (hK : K ≤ 128) (x : Int) :
    Calls Tryz.prog 180 #[.pointer (some ⟨g, 0, none⟩), .int .i64 x] w fun e w' => e = .returned (.int .i64 (-1)) ∧ w = w' := by
  have HF := Lib.hid (find_any h hK x)
  clear h
  go_enter Tryz.func180, Tryz.ntmps180
  go_wp2_with fail
  refine HF.out.mono ?_
  rintro e w1 ⟨p, rfl, hp, rfl⟩
  rcases hp with rfl | ⟨b, off, rfl, f2⟩
  · go_wp2
    go_ret
    exact ⟨rfl, rfl⟩
  · go_wp2
    go_ret
    exact ⟨rfl, rfl⟩
end Go.Proofs.YtklpeghhgoeeiaaGreatDoor
/- alloc.Open over undivided chunks. -/
namespace Go.Proofs.YtklpeghhgoeeiaaGreatDoor
open Go.RowKit
theorem i_facts {w : World} {B n : Nat} {A : Option Addr} {l : List Int} (h : Reads w B 1 A n (iCells l)) {k : Nat} (hk : k < n) :
    ∃ (b off : Nat) (x : Int), A = some ⟨b, off, none⟩ ∧ b < B ∧ w.cell? ⟨b, off + k, none⟩ = some (.int .i64 x) := by
  have hl : k < l.length := by have := h.1; simp [iCells] at this; omega
  obtain ⟨b, off, hA, hb, hc⟩ := h.plain (by omega) (by omega)
  exact ⟨b, off, l[k], hA, hb, hc k _ (by simp [iCells, hl])⟩
theorem SetIs.below {a : DA} {s K base g : Nat} {w w' : World} (h : SetIs a s K w base g) (hb : Below w.heap.size w w') : SetIs a s K w' base g := by
  obtain ⟨A, m, c, hB, hm, ho⟩ := h
  exact ⟨A, m, c, hB.below hb hB.lt, hm, own_below ho hb⟩
/-- The block of a heap. -/
def heapCells (a : DA) (s n gs mr mh : Nat) (lk : Bool) : Array Value := #[memV a, .int .i64 (s : Int), .int .i64 (n : Int), .pointer (some ⟨gs, 0, none⟩), .map (some mr), .map (some mh), .map none, .bool lk]
def RetHeap (a : DA) (s n : Nat) (w : World) (e : Ending) (w' : World) : Prop := ∃ g gs mr mh, e = .returned (.tuple #[.pointer (some ⟨g, 0, none⟩), .int .i64 0]) ∧ Blk w' g 150 (heapCells a s n gs mr mh false) ∧ w.heap.size ≤ g ∧ Below w.heap.size w w'
set_option maxRecDepth 100000 in
set_option maxHeartbeats 4000000 in
theorem heapOpen_any {a : DA} {L T : Nat} {w : World} {S : Fp} {cur : Nat → Nat} {F : Nat} (h : Dev a L T w S cur F) (ht : Tab w) (s n K : Nat) (hn : 32 ≤ n) (hs : s + n ≤ L) (hK : n / 32 = K) (hv : ∀ k, k < K → cur (8 * (s + 32 * k)) = freeW 1) :
    Calls Tryz.prog 117 #[memV a, .int .i64 (s : Int), .int .i64 (n : Int)] w (RetHeap a s n w) := by
  have HA := Lib.hid (arenaOpen_any h ht s n K hn hs hK hv)
  have hL : L ≤ 4096 := by obtain ⟨ls, exe, per, cs, lsC, hdc, hnt⟩ := h; exact hdc.hL
  have hmm1 : ∀ W, (Instr.makeMap 98 none).run Tryz.prog W = .ok (.map (some W.heap.size)) (W.alloc (.map #[] 0)) := fun _ => rfl
  have hmm2 : ∀ W, (Instr.makeMap 147 none).run Tryz.prog W = .ok (.map (some W.heap.size)) (W.alloc (.map #[] 0)) := fun _ => rfl
  have hK2 : K ≤ 128 := by omega
  clear h ht hv hK hn hs
  unfold memV at HA
  unfold memV
  go_enter Tryz.func117, Tryz.ntmps117
  go_wp2_with (first
    | (go_at_call 179; refine HA.out.mono ?_; rintro e w1 ⟨rfl, hset, hb1⟩; have HS1 := Lib.hid hset; have HB1 := Lib.hid hb1; have HL := Lib.hid (lines_any HS1.out hK2); clear hset hb1)
    | (go_at_call 170; refine HL.out.mono ?_; rintro e w2 ⟨A, m, c, l, rfl, hm, ho, hb2⟩; have HO := Lib.hid (Reads.of_own ho); have HS2 := Lib.hid (HS1.out.below hb2); have HB2 := Lib.hid (HB1.out.trans (hb2.mono HB1.out.size)); clear ho hb2)
    | go_in)
  have HW := Lib.hid (fun x => owner_any HS2.out hK2 x)
  clear HA HL HS1 HB1 HS2
  go_loopw [28] (fun i wr => ∃ (k : Nat), k ≤ m ∧ i = .int .i64 k ∧ w2 = wr) (fun i _ => m - (intOf i).toNat)
  case atStart => exact ⟨0, Nat.zero_le _, rfl, rfl⟩
  case round =>
    obtain ⟨k, hk, rfl, rfl⟩ := hrel
    by_cases hlt : k < m
    · obtain ⟨b, off, x, hA, hbB, f0⟩ := i_facts HO.out hlt
      subst hA
      have hz5 : (0 : Int) ≤ (k : Int) := by omega
      have hz6 : (k : Int) < (m : Int) := by omega
      go_wp2_with (first
        | (go_at_call 180; refine (HW.out _).mono ?_; rintro e w3 ⟨rfl, rfl⟩)
        | go_in)
      go_roundw
      case rel =>
        first
          | exact ⟨k + 1, by omega, by go_num, trivial⟩
          | exact ⟨k + 1, by omega, by go_num, rfl⟩
          | (repeat apply Exists.intro
             refine ⟨?_, rfl⟩
             exact ⟨k + 1, by omega, by go_num, rfl⟩)
      case measure => simp [intOf]; omega
    · obtain rfl : m = k := by omega
      go_wp2
      go_ret2
      have e9 : ((w2.alloc (.map #[] 0)).alloc (.map #[] 0)).heap.size = w2.heap.size + 1 + 1 := by simp
      refine ⟨w2.heap.size + 1 + 1, w.heap.size, w2.heap.size, w2.heap.size + 1, rfl, by rw [← e9]; exact Blk.new _ _ _, ?_, ?_⟩
      · have := HB2.out.size; simp; omega
      · exact (((HB2.out.alloc HB2.out.size _).alloc (by have := HB2.out.size; simp; omega) _).alloc (by have := HB2.out.size; simp; omega) _)
end Go.Proofs.YtklpeghhgoeeiaaGreatDoor
/- device.Thread, tx.New, the statement's own open. -/
namespace Go.Proofs.YtklpeghhgoeeiaaGreatDoor
open Go.RowKit
set_option maxRecDepth 100000 in
set_option maxHeartbeats 4000000 in
theorem thread_any {a : DA} {L T : Nat} {w : World} {S : Fp} {cur : Nat → Nat} {F : Nat} (h : Dev a L T w S cur F) :
    Calls Tryz.prog 18 #[.pointer (some ⟨a.d, 0, none⟩), .int .i64 0] w fun e w' => e = .returned (.pointer (some ⟨a.th 0, 0, none⟩)) ∧ w = w' := by
  obtain ⟨ls, exe, per, cs, lsC, hdc, hnt⟩ := h
  have f3 : w.cell? ⟨a.d, 3, none⟩ = some (.pointer (some ⟨a.th 0, 0, none⟩)) := hdc.dev.cell 3
  clear hdc hnt
  go_enter Tryz.func18, Tryz.ntmps18
  go_wp2
  go_ret
  exact ⟨rfl, rfl⟩
def mgrCells (th r u h : Option Addr) (last : Option Addr) : Array Value := #[.pointer th, .pointer r, .pointer u, .pointer h, .pointer last]
set_option maxRecDepth 100000 in
set_option maxHeartbeats 4000000 in
theorem txNew_any (th r u h : Option Addr) (w : World) :
    Calls Tryz.prog 28 #[.pointer th, .pointer r, .pointer u, .pointer h] w fun e w' => e = .returned (.pointer (some ⟨w.heap.size, 0, none⟩)) ∧ w' = w.alloc (.cells (mgrCells th r u h none) 94) := by
  go_enter Tryz.func28, Tryz.ntmps28
  go_wp2
  go_ret
  exact ⟨rfl, rfl⟩
/-- Where the parts over a device lie. -/
structure SA where
  r : Nat
  u : Nat
  h : Nat
  gs : Nat
  mr : Nat
  mh : Nat
  m : Nat
/-- The logs, the heap and the manager. -/
structure Sys (a : DA) (w : World) (x : SA) (lk : Bool) (last : Option Addr) : Prop where
  r : Blk w x.r 246 (logCells a 4 26)
  u : Blk w x.u 186 (ulogCells a 30 26)
  h : Blk w x.h 150 (heapCells a 56 96 x.gs x.mr x.mh lk)
  m : Blk w x.m 94 (mgrCells (some ⟨a.th 0, 0, none⟩) (some ⟨x.r, 0, none⟩) (some ⟨x.u, 0, none⟩) (some ⟨x.h, 0, none⟩) last)
/-- The words of an opened pool. -/
structure Pool (cur : Nat → Nat) : Prop where
  r : cur 32 = 0
  u : cur 240 = 0
  c : ∀ k, k < 3 → cur (8 * (56 + 32 * k)) = freeW 1
def wCells (a : DA) (x : SA) (cs : Array Value) : Prop := cs.size = 77 ∧ cs[0]? = some (.pointer (some ⟨a.d, 0, none⟩)) ∧ cs[1]? = some (.pointer (some ⟨x.h, 0, none⟩)) ∧ cs[2]? = some (.pointer (some ⟨x.m, 0, none⟩))
def RetOpen (a : DA) (w : World) (e : Ending) (w' : World) : Prop := ∃ g x cs, e = .returned (.pointer (some ⟨g, 0, none⟩)) ∧ Sys a w' x false none ∧ Blk w' g 45 cs ∧ wCells a x cs ∧ w.heap.size ≤ g ∧ (w.heap.size ≤ x.r ∧ w.heap.size ≤ x.u ∧ w.heap.size ≤ x.h ∧ w.heap.size ≤ x.m) ∧ Below w.heap.size w w'
set_option maxRecDepth 100000 in
set_option maxHeartbeats 4000000 in
theorem open_any {a : DA} {T : Nat} {w : World} {S : Fp} {cur : Nat → Nat} {F : Nat} (h : Dev a 152 T w S cur F) (ht : Tab w) (hp : Pool cur) :
    Calls Tryz.prog 46 #[.pointer (some ⟨a.d, 0, none⟩)] w (RetOpen a w) := by
  have HD := Lib.hid h
  have HT := Lib.hid ht
  have HP := Lib.hid hp
  have HTh := Lib.hid (thread_any h)
  have HRo := Lib.hid (redoOpen_any h 4 26 (by omega) (by omega))
  have hb1 : Below w.heap.size w (w.alloc (.cells (logCells a 4 26) 246)) := (Below.refl _ _).alloc (Nat.le_refl _) _
  have HUo := Lib.hid (undoOpen_any (h.below hb1) 30 26 (by omega) (by omega))
  have hb2 : Below w.heap.size w ((w.alloc (.cells (logCells a 4 26) 246)).alloc (.cells (ulogCells a 30 26) 186)) := hb1.alloc hb1.size _
  have HB2 := Lib.hid hb2
  have HBr := Lib.hid ((Blk.new w 246 (logCells a 4 26)).alloc (.cells (ulogCells a 30 26) 186))
  have HBu := Lib.hid (Blk.new (w.alloc (.cells (logCells a 4 26) 246)) 186 (ulogCells a 30 26))
  have hsz : (w.alloc (.cells (logCells a 4 26) 246)).heap.size = w.heap.size + 1 := by simp
  rw [hsz] at HUo HBu
  have HRr := Lib.hid (redoRecover_idle (h.below hb2) w.heap.size 4 26 HBr.out (by omega) HP.out.r)
  have HL2 : Hid (w.heap.size + 2 ≤ ((w.alloc (.cells (logCells a 4 26) 246)).alloc (.cells (ulogCells a 30 26) 186)).heap.size) := Lib.hid (by simp)
  clear h ht hp hb1 hb2 hsz
  unfold memV at *
  go_enter Tryz.func46, Tryz.ntmps46
  go_wp2_with (first
    | (go_at_call 18; refine HTh.out.mono ?_; rintro e w1 ⟨rfl, rfl⟩)
    | (go_at_call 113; refine HRo.out.mono ?_; rintro e w1 ⟨rfl, rfl⟩)
    | fail)
  refine HUo.out.mono ?_
  rintro e w1 ⟨rfl, rfl⟩
  generalize (w.alloc (.cells (logCells a 4 26) 246)).alloc (.cells (ulogCells a 30 26) 186) = W at *
  clear HRo HUo HTh
  go_wp2_with fail
  refine HRr.out.mono ?_
  rintro e W1 ⟨rfl, hb1⟩
  have HB3 := Lib.hid (HB2.out.trans (hb1.mono HB2.out.size))
  have HBr3 := Lib.hid (HBr.out.below hb1 HBr.out.lt)
  have HBu3 := Lib.hid (HBu.out.below hb1 HBu.out.lt)
  have HL3 := Lib.hid (Nat.le_trans HL2.out hb1.size)
  have HUr := Lib.hid (undoRecover_none (HD.out.below HB3.out) (w.heap.size + 1) 30 26 HBu3.out (by omega) (by omega) (by omega) HP.out.u)
  clear HRr hb1 HBr HBu HB2 HL2
  unfold memV at HUr
  go_wp2_with fail
  refine HUr.out.mono ?_
  rintro e W2 ⟨rfl, hb1⟩
  have HB4 := Lib.hid (HB3.out.trans (hb1.mono HB3.out.size))
  have HBr4 := Lib.hid (HBr3.out.below hb1 HBr3.out.lt)
  have HBu4 := Lib.hid (HBu3.out.below hb1 HBu3.out.lt)
  have HL4 := Lib.hid (Nat.le_trans HL3.out hb1.size)
  have HHo := Lib.hid (heapOpen_any (HD.out.below HB4.out) (HT.out.below HB4.out) 56 96 3 (by omega) (by omega) (by omega) HP.out.c)
  clear HUr hb1 HBr3 HBu3 HB3 HL3
  unfold memV at HHo
  go_wp2_with fail
  refine HHo.out.mono ?_
  rintro e W3 ⟨gh, gs, mr, mh, rfl, hbh, hgh, hb1⟩
  have HB5 := Lib.hid (HB4.out.trans (hb1.mono HB4.out.size))
  have HBr5 := Lib.hid (HBr4.out.below hb1 HBr4.out.lt)
  have HBu5 := Lib.hid (HBu4.out.below hb1 HBu4.out.lt)
  have HBh5 := Lib.hid hbh
  have HL5 := Lib.hid (Nat.le_trans HL4.out hb1.size)
  have HG5 := Lib.hid (Nat.le_trans HL4.out hgh)
  have HTN := Lib.hid (txNew_any (some ⟨a.th 0, 0, none⟩) (some ⟨w.heap.size, 0, none⟩) (some ⟨w.heap.size + 1, 0, none⟩) (some ⟨gh, 0, none⟩) W3)
  clear HHo hb1 HBr4 HBu4 HB4 HL4 hbh hgh HD HT HP
  go_wp2_with fail
  refine HTN.out.mono ?_
  rintro e W4 ⟨rfl, rfl⟩
  clear HTN
  have HBm6 := Lib.hid (Blk.new W3 94 (mgrCells (some ⟨a.th 0, 0, none⟩) (some ⟨w.heap.size, 0, none⟩) (some ⟨w.heap.size + 1, 0, none⟩) (some ⟨gh, 0, none⟩) none))
  have HB6 := Lib.hid (HB5.out.alloc HB5.out.size (.cells (mgrCells (some ⟨a.th 0, 0, none⟩) (some ⟨w.heap.size, 0, none⟩) (some ⟨w.heap.size + 1, 0, none⟩) (some ⟨gh, 0, none⟩) none) 94))
  have HBr6 := Lib.hid (HBr5.out.alloc (.cells (mgrCells (some ⟨a.th 0, 0, none⟩) (some ⟨w.heap.size, 0, none⟩) (some ⟨w.heap.size + 1, 0, none⟩) (some ⟨gh, 0, none⟩) none) 94))
  have HBu6 := Lib.hid (HBu5.out.alloc (.cells (mgrCells (some ⟨a.th 0, 0, none⟩) (some ⟨w.heap.size, 0, none⟩) (some ⟨w.heap.size + 1, 0, none⟩) (some ⟨gh, 0, none⟩) none) 94))
  have HBh6 := Lib.hid (HBh5.out.alloc (.cells (mgrCells (some ⟨a.th 0, 0, none⟩) (some ⟨w.heap.size, 0, none⟩) (some ⟨w.heap.size + 1, 0, none⟩) (some ⟨gh, 0, none⟩) none) 94))
  generalize W3.alloc (.cells (mgrCells (some ⟨a.th 0, 0, none⟩) (some ⟨w.heap.size, 0, none⟩) (some ⟨w.heap.size + 1, 0, none⟩) (some ⟨gh, 0, none⟩) none) 94) = W5 at *
  clear HB5 HBr5 HBu5 HBh5
  go_wp2
  go_ret
  have := HL5.out
  have := HG5.out
  refine ⟨_, ⟨w.heap.size, w.heap.size + 1, gh, gs, mr, mh, W3.heap.size⟩, _, rfl, ⟨HBr6.out.alloc _, HBu6.out.alloc _, HBh6.out.alloc _, HBm6.out.alloc _⟩, Blk.new _ _ _, ⟨rfl, rfl, rfl, rfl⟩, HB6.out.size, ⟨by simp, by simp, by simp; omega, by simp; omega⟩, HB6.out.alloc HB6.out.size _⟩
end Go.Proofs.YtklpeghhgoeeiaaGreatDoor
/- The statement's own made: a new device, formatted, its words 1 to 32, opened. -/
namespace Go.Proofs.YtklpeghhgoeeiaaGreatDoor
open Go.RowKit
/-- A device that lies in new blocks. -/
def DevNew (a : DA) (T : Nat) (w wr : World) (cur : Nat → Nat) : Prop := ∃ S, Dev a 152 T wr S cur 0 ∧ (∀ k, S k → w.heap.size ≤ k) ∧ Below w.heap.size w wr
theorem DevNew.step {a : DA} {T' : Nat} {w wr w' : World} {S : Fp} {cur' : Nat → Nat} {v : Value} {e : Ending} (hS : ∀ k, S k → w.heap.size ≤ k) (hb : Below w.heap.size w wr) (h : RetDev a 152 T' wr S cur' 0 v e w') : e = .returned v ∧ DevNew a T' w w' cur' := by
  obtain ⟨he, S', hd, hc, hg⟩ := h
  refine ⟨he, S', hd, fun k hk => (hg k hk).elim (hS k) (fun h => Nat.le_trans hb.size h), hb.trans (hc.toBelow hb.size hS)⟩
/-- The words behind k stores. -/
def curM : Nat → Nat → Nat
  | 0 => arC (wrS (fun _ => 0) [(256, 0)]) 56 3
  | k + 1 => upd (curM k) k (k + 1)
theorem curM_at : ∀ k i, curM k i = if i < k then i + 1 else curM 0 i
  | 0, i => by simp
  | k + 1, i => by
    show (if i = k then k + 1 else curM k i) = _
    rw [curM_at k i]
    by_cases h : i = k
    · subst h; simp
    · simp only [h, if_false]
      by_cases h2 : i < k
      · rw [if_pos h2, if_pos (by omega)]
      · rw [if_neg h2, if_neg (by omega)]
theorem curM_pool : Pool (curM 32) := by
  refine ⟨?_, ?_, fun k hk => ?_⟩
  · rw [curM_at]; simp [curM, arC, wrS, upd]
  · rw [curM_at]; simp [curM, arC, wrS, upd]
  · rw [curM_at]
    have : k = 0 ∨ k = 1 ∨ k = 2 := by omega
    rcases this with rfl | rfl | rfl <;> simp [curM, arC, wrS, upd]
theorem curM_bnd (i : Nat) : curM 32 i < 18446744073709551616 := by
  rw [curM_at]
  by_cases h : i < 32
  · rw [if_pos h]; omega
  · rw [if_neg h]
    have hf := freeW_lt 1 (by omega)
    simp only [curM, arC, wrS, List.foldl_cons, List.foldl_nil, upd]
    split
    · exact hf
    · split
      · exact hf
      · split
        · exact hf
        · split <;> omega
theorem curM_word (i : Nat) (h : i < 32) : curM 32 i = i + 1 := by rw [curM_at, if_pos h]
theorem runP_pers (cur : Nat → Nat) : runP cur (fls 4 ++ [Ins.fe]) = cur := by
  show runP cur ([0, 64, 128, 192].map Ins.fl ++ [Ins.fe]) = cur
  rw [runP_app, runP_fls]
  rfl
theorem good_pers : goodP 152 false (fls 4 ++ [Ins.fe]) := goodP_fls [0, 64, 128, 192] false (by simp)
/-- The logs, heap and manager lie out of the device. -/
structure Apart (S : Fp) (x : SA) : Prop where
  r : ¬ S x.r
  u : ¬ S x.u
  h : ¬ S x.h
  m : ¬ S x.m
/-- What made leaves. -/
structure Made (w : World) (a : DA) (S : Fp) (T : Nat) (cur : Nat → Nat) (g : Nat) (x : SA) (cs : Array Value) (w' : World) : Prop where
  dev : Dev a 152 T w' S cur 0
  few : T ≤ 100
  pool : Pool cur
  word : ∀ i, i < 32 → cur i = i + 1
  old : ∀ k, S k → w.heap.size ≤ k
  sys : Sys a w' x false none
  apart : Apart S x
  blk : Blk w' g 45 cs
  cells : wCells a x cs
  out : ¬ S g
  new : w.heap.size ≤ g
  news : w.heap.size ≤ x.r ∧ w.heap.size ≤ x.u ∧ w.heap.size ≤ x.h ∧ w.heap.size ≤ x.m
  below : Below w.heap.size w w'
  is_ : cur = curM 32
def RetMade (w : World) (e : Ending) (w' : World) : Prop := ∃ a S T cur g x cs, e = .returned (.pointer (some ⟨g, 0, none⟩)) ∧ Made w a S T cur g x cs w'
theorem Made.store {w : World} {a : DA} {S : Fp} {T : Nat} {cur : Nat → Nat} {g : Nat} {x : SA} {cs : Array Value} {w' : World} (h : Made w a S T cur g x cs w') (k : Nat) (hk : 3 ≤ k) (u : Value) : Made w a S T cur g x (cs.setIfInBounds k u) (w'.setCell ⟨g, k, none⟩ u) := by
  have hc : Chg (fun j => j = g) w' (w'.setCell ⟨g, k, none⟩ u) := (Chg.refl (fun j => j = g) w').setCell (p := ⟨g, k, none⟩) (.inl rfl) u
  have hne : ∀ {t : TypeId} {b : Nat} {ds : Array Value}, Blk w' b t ds → t ≠ 45 → ¬ (b = g) := fun hb ht => hb.ne_ h.blk ht
  refine { h with
    dev := h.dev.chg hc (fun j hj e => h.out (e ▸ hj))
    sys := ⟨hc.blk h.sys.r (hne h.sys.r (by decide)), hc.blk h.sys.u (hne h.sys.u (by decide)), hc.blk h.sys.h (hne h.sys.h (by decide)), hc.blk h.sys.m (hne h.sys.m (by decide))⟩
    blk := h.blk.set_ k u
    cells := ?_
    below := h.below.setCell h.new u }
  obtain ⟨h1, h2, h3, h4⟩ := h.cells
  refine ⟨by simpa using h1, ?_, ?_, ?_⟩
  · rw [Array.getElem?_setIfInBounds_ne (by omega)]; exact h2
  · rw [Array.getElem?_setIfInBounds_ne (by omega)]; exact h3
  · rw [Array.getElem?_setIfInBounds_ne (by omega)]; exact h4
set_option maxRecDepth 100000 in
set_option maxHeartbeats 4000000 in
theorem heapFormat_any {a : DA} {L T : Nat} {w : World} {S : Fp} {cur : Nat → Nat} (h : Dev a L T w S cur 0) (ht : Tab w) (hg : ¬ S 1) (s n K : Nat) (hn : 32 ≤ n) (hs : s + n ≤ L) (hK : n / 32 = K) (hT : T + 3 * K ≤ 1000000000) :
    Calls Tryz.prog 42 #[memV a, .int .i64 (s : Int), .int .i64 (n : Int)] w (RetDev a L (T + 3 * K) w S (arC cur s K) 0 (.int .i64 0)) := by
  have HA := Lib.hid (arenaFormat_any h ht hg s n K hn hs hK hT)
  clear h ht
  unfold memV at *
  go_enter Tryz.func42, Tryz.ntmps42
  go_wp2_with fail
  refine HA.out.mono ?_
  rintro e w1 ⟨rfl, h1⟩
  have H1 := Lib.hid h1
  clear h1
  go_wp2
  go_ret
  exact ⟨rfl, H1.out⟩
set_option maxRecDepth 100000 in
set_option maxHeartbeats 4000000 in
theorem made_any (w : World) (ht : Tab w) : Calls Tryz.prog 11 #[] w (RetMade w) := by
  have HT := Lib.hid ht
  have HG : Hid (∀ S : Fp, (∀ k, S k → w.heap.size ≤ k) → ¬ S 1) := fun S hS h => by have := hS _ h; have := HT.out.size; omega
  clear ht
  go_enter Tryz.func11, Tryz.ntmps11
  go_wp2_with fail
  refine (new_any 152 (by omega) (by omega) w).mono ?_
  rintro e w1 ⟨a, S1, rfl, hd1, hS1, hb1⟩
  have HH := Lib.hid (thread_any hd1)
  have HR := Lib.hid (redoFormat_any hd1 4 26 (by omega) (by omega) (by omega))
  have HW := Lib.hid (fun e w' => DevNew.step (a := a) (e := e) (w' := w') (T' := 3) (cur' := wrS (fun _ => 0) [(256, 0)]) (v := .int .i64 0) hS1 hb1)
  clear hd1 hS1 hb1
  unfold memV at HR
  go_wp2_with fail
  refine HH.out.mono ?_
  rintro e w1' ⟨rfl, rfl⟩
  clear HH
  go_wp2_with fail
  refine HR.out.mono ?_
  intro e w2 h2
  obtain ⟨rfl, S2, hd2, hS2, hb2⟩ := HW.out e w2 h2
  have HA := Lib.hid (heapFormat_any hd2 (HT.out.below hb2) (HG.out _ hS2) 56 96 3 (by omega) (by omega) (by omega) (by omega))
  have HW := Lib.hid (fun e w' => DevNew.step (a := a) (e := e) (w' := w') (T' := 12) (cur' := curM 0) (v := .int .i64 0) hS2 hb2)
  clear hd2 hS2 hb2 h2
  unfold memV at HA
  go_wp2_with fail
  refine HA.out.mono ?_
  intro e w3 h3
  obtain ⟨rfl, h4⟩ := HW.out e w3 h3
  have HI0 := Lib.hid h4
  clear h3 h4 HA HW HR
  go_wp2
  go_loopw [25] (fun i wr => ∃ (k : Nat), k ≤ 32 ∧ i = .int .u64 k ∧ Hid (DevNew a (12 + k) w wr (curM k))) (fun i _ => 32 - (intOf i).toNat)
  case atStart => exact ⟨0, Nat.zero_le _, rfl, HI0⟩
  case round =>
    clear HI0
    obtain ⟨k, hk, rfl, H⟩ := hrel
    by_cases hlt : k < 32
    · obtain ⟨S, hd, hS, hb⟩ := H.out
      have hz1 : (k : Int) < 32 := by omega
      have u1 : IntKind.u64.wrap (8 * (k : Int)) = ((8 * k : Nat) : Int) := by rw [IntKind.wrap_u64]; omega
      have u2 : IntKind.u64.wrap ((k : Int) + 1) = ((k + 1 : Nat) : Int) := by rw [IntKind.wrap_u64]; omega
      have HS := Lib.hid (store_dev hd (8 * k) (k + 1) (by omega) (by omega) (by omega))
      have HW := Lib.hid (fun e w' => DevNew.step (a := a) (e := e) (w' := w') (T' := 12 + k + 1) (cur' := upd (curM k) (8 * k / 8) (k + 1)) (v := .tuple #[]) hS hb)
      rw [show 8 * k / 8 = k by omega] at HS HW
      clear hd hS hb
      generalize 8 * k = z at u1 HS
      go_wp2_with fail
      refine HS.out.mono ?_
      intro e w5 h5
      obtain ⟨rfl, h6⟩ := HW.out e w5 h5
      have HI1 := Lib.hid h6
      clear h5 h6 HS HW
      go_wp2
      go_roundw
      case rel =>
        first
          | exact ⟨k + 1, by omega, by go_num, HI1⟩
          | (repeat apply Exists.intro
             refine ⟨?_, rfl⟩
             exact ⟨k + 1, by omega, by go_num, HI1⟩)
      case measure => simp [intOf]; omega
    · obtain rfl : k = 32 := by omega
      obtain ⟨S, hd, hS, hb⟩ := H.out
      have HD := Lib.hid hd
      have HSn := Lib.hid hS
      have HB := Lib.hid hb
      clear hd hS hb H
      go_wp2_with fail
      refine (persist32 wr).mono ?_
      rintro e w5 ⟨A, m, c, rfl, rfl, ho, hb5⟩
      have HB5 := Lib.hid (HB.out.trans (hb5.mono HB.out.size))
      have HOFF : Hid (∀ ad, A = some ad → ¬ S ad.block) := fun ad had hs => by
        rcases ho.2 with ⟨hv, _⟩ | ⟨g, cap, cs, hv, hge, _⟩
        · injection hv with h1; rw [h1] at had; cases had
        · injection hv with h1
          rw [h1] at had
          injection had with h2
          subst h2
          have := HD.out.lt _ hs
          simp at this
          omega
      have HR := Lib.hid (run_any (HD.out.below hb5) A 5 c _ (Reads.of_own ho) HOFF.out good_pers (by omega) (by omega))
      have HW := Lib.hid (fun e w' => DevNew.step (a := a) (e := e) (w' := w') (T' := 12 + 32 + 5) (cur' := runP (curM 32) (fls 4 ++ [Ins.fe])) (v := .int .i64 0) HSn.out HB5.out)
      clear ho hb5 HOFF HD HB HSn HB5
      unfold memV at HR
      go_wp2_with fail
      refine HR.out.mono ?_
      intro e w6 h6
      obtain ⟨rfl, h7⟩ := HW.out e w6 h6
      rw [runP_pers] at h7
      obtain ⟨S, hd, hS, hb⟩ := h7
      have HO := Lib.hid (open_any hd (HT.out.below hb) curM_pool)
      have HD := Lib.hid hd
      have HSn := Lib.hid hS
      have HB := Lib.hid hb
      clear h6 hd hS hb HR HW
      go_wp2_with fail
      refine HO.out.mono ?_
      rintro e w7 ⟨g, x, cs, rfl, hsys, hblk, hcl, hg, ⟨n1, n2, n3, n4⟩, hb7⟩
      have HM : Hid (Made w a S 49 (curM 32) g x cs w7) := Lib.hid (by
        have hl := HB.out.size
        have hn : ∀ j, w6.heap.size ≤ j → ¬ S j := fun j hj hs => by have := HD.out.lt _ hs; omega
        exact ⟨HD.out.below hb7, by omega, curM_pool, curM_word, HSn.out, hsys, ⟨hn _ n1, hn _ n2, hn _ n3, hn _ n4⟩, hblk, hcl, hn _ hg, Nat.le_trans hl hg, ⟨by omega, by omega, by omega, by omega⟩, HB.out.trans (hb7.mono hl), rfl⟩)
      clear hsys hblk hcl hg n1 n2 n3 n4 hb7 HO HD HSn HB
      go_wp2
      go_loopw [44] (fun i wr => ∃ (k : Nat) (cs : Array Value), k ≤ 32 ∧ i = .int .i64 k ∧ Hid (Made w a S 49 (curM 32) g x cs wr)) (fun i _ => 32 - (intOf i).toNat)
      case atStart => exact ⟨0, _, Nat.zero_le _, rfl, HM⟩
      case round =>
        clear HM
        obtain ⟨k, cs, hk, rfl, H⟩ := hrel
        by_cases hlt : k < 32
        · have hz0 : (0 : Int) ≤ (k : Int) := by omega
          have hz1 : (k : Int) < 32 := by omega
          have u2 : IntKind.u64.wrap ((k : Int) + 1) = ((k + 1 : Nat) : Int) := by rw [IntKind.wrap_u64]; omega
          have q1 : wr.frozen? ⟨g, 4 + k, none⟩ = false := H.out.blk.frozen _
          obtain ⟨v, hv⟩ : ∃ v, cs[4 + k]? = some v := by
            have := H.out.cells.1
            exact ⟨_, Array.getElem?_eq_getElem (by omega)⟩
          have q2 : wr.cell? ⟨g, 4 + k, none⟩ = some v := (H.out.blk.cell _).trans hv
          have HI1 := Lib.hid (H.out.store (4 + k) (by omega) (.int .u64 ((k : Int) + 1)))
          clear H hv
          go_wp2
          go_roundw
          case rel =>
            first
              | exact ⟨k + 1, _, by omega, by go_num, HI1⟩
              | (repeat apply Exists.intro
                 refine ⟨?_, rfl⟩
                 exact ⟨k + 1, _, by omega, by go_num, HI1⟩)
          case measure => simp [intOf]; omega
        · obtain rfl : k = 32 := by omega
          go_wp2
          go_ret
          exact ⟨_, _, _, _, _, _, _, rfl, H.out⟩
end Go.Proofs.YtklpeghhgoeeiaaGreatDoor
/- The keys of a map over words, collected in whatever order. -/
namespace Go.Proofs.YtklpeghhgoeeiaaGreatDoor
open Go.RowKit Go.Maps
def litNat : Lit → Nat
  | .int _ a => a.toNat
  | _ => 0
/-- The keys of a map over words. -/
def uKeys {H : Type} : DataW H → List Nat
  | .map es => es.map fun p => litNat p.1
  | _ => []
abbrev kU (x : Nat) : Lit := .int .u64 (x : Int)
theorem keyOf_u64 {P : Program} {k : TypeId} (hk : P.underlying k = some (.int .u64)) {key : Value} {kl : Lit} (h : keyOf P k key = some kl) : ∃ x : Nat, key = .int .u64 (x : Int) ∧ kl = kU x ∧ x < 18446744073709551616 := by
  cases key <;> simp [keyOf, hk, mapKey] at h
  rename_i q a
  obtain ⟨⟨rfl, hw⟩, rfl⟩ := h
  have hb : 0 ≤ a ∧ a < 18446744073709551616 := by
    have hm : IntKind.u64.min = 0 := by decide
    have hx : IntKind.u64.max = 18446744073709551615 := by decide
    simp only [Lit.wf, hm, hx, Bool.and_eq_true, decide_eq_true_eq] at hw
    omega
  exact ⟨a.toNat, by rw [Int.toNat_of_nonneg hb.1], by unfold kU; rw [Int.toNat_of_nonneg hb.1], by omega⟩
theorem kU_inj {x y : Nat} (h : kU x = kU y) : x = y := by
  have : (x : Int) = (y : Int) := by simpa [kU] using h
  omega
theorem perm_uKeys {H : Type} {es : List (Lit × DataW H)} (hp : es.Pairwise (fun p q => p.1 ≠ q.1)) (hk : ∀ p ∈ es, ∃ x, p.1 = kU x) {ss : List Nat} (hnd : ss.Nodup) (hm : ∀ x, x ∈ ss ↔ has (.map es) (kU x) = true) :
    ss.Perm (uKeys (.map es)) := by
  refine (List.perm_ext_iff_of_nodup hnd ?_).2 fun x => ?_
  · show (es.map fun p => litNat p.1).Nodup
    refine List.pairwise_map.2 (hp.imp_of_mem fun {p q} hp' hq' hne e => hne ?_)
    obtain ⟨a, ha⟩ := hk p hp'
    obtain ⟨b, hb⟩ := hk q hq'
    rw [ha, hb] at e ⊢
    have : a = b := by simpa [litNat, kU] using e
    rw [this]
  · rw [hm x, has_eq, List.any_eq_true]
    show _ ↔ x ∈ es.map fun p => litNat p.1
    rw [List.mem_map]
    constructor
    · rintro ⟨p, hp', hs⟩
      obtain ⟨a, ha⟩ := hk p hp'
      rw [ha] at hs
      refine ⟨p, hp', ?_⟩
      rw [ha]
      have : (a : Int) = (x : Int) := by simpa [Lit.sameKey, kU] using hs
      simp [litNat]; omega
    · rintro ⟨p, hp', rfl⟩
      obtain ⟨a, ha⟩ := hk p hp'
      exact ⟨p, hp', by rw [ha]; simp [Lit.sameKey, litNat]⟩
/-- No key twice; a key is on the list just where the map has it and it is no longer to come. -/
def CollU {H : Type} (D0 : DataW H) (left : Lit → Bool) (ss : List Nat) : Prop := ss.Nodup ∧ ∀ x, x ∈ ss ↔ (has D0 (kU x) = true ∧ left (kU x) = false)
section
variable {H : Type} {D0 : DataW H} {left : Lit → Bool} {ss : List Nat}
theorem CollU.start (D0 : DataW H) : CollU D0 (has D0) [] := ⟨List.nodup_nil, fun x => by cases has D0 (kU x) <;> simp⟩
theorem CollU.step (h : CollU D0 left ss) {x : Nat} {y : DataW H} (hlk : left (kU x) = true) (hat : ∀ zd, D0.atKey (kU x) zd = y) : CollU D0 (fun z => left z && !z.sameKey (kU x)) (ss ++ [x]) := by
  have hhas : has D0 (kU x) = true := has_true_of_atKey hat
  have hnew : x ∉ ss := fun hx => by have := ((h.2 x).1 hx).2; rw [hlk] at this; cases this
  refine ⟨List.nodup_append.2 ⟨h.1, by simp, fun a ha b hb => by simp at hb; subst hb; exact fun e => hnew (e ▸ ha)⟩, fun y => ?_⟩
  by_cases hy : y = x
  · subst hy; simp [hhas, Lit.sameKey]
  · have : ¬ ((y : Int) = (x : Int)) := by omega
    have h2 : (kU y).sameKey (kU x) = false := by simp [Lit.sameKey]; omega
    simp [h.2 y, hy, h2]
variable {P : Program} {k : TypeId} {R : Value → Option (DataW H × List MemPlace)} {w : World} {b n : Nat}
theorem CollU.perm (h : CollU D0 left ss) (hown : w.ownsMap P k R b n D0) (K : Keyed P k) (hk : P.underlying k = some (.int .u64)) (hl : ∀ kl, left kl = false) : ss.Perm (uKeys D0) := by
  obtain ⟨es, hD, hpw, _⟩ := hown.entries K
  have hko : ∀ p ∈ es, KeysOf P k p.1 := by
    obtain ⟨es', clock, _, F, _, hD'⟩ := hown
    rw [hD'] at hD
    injection hD with hD
    subst hD
    exact fun p hp => fit_keys F p (mem_sorted.1 hp)
  subst hD
  exact perm_uKeys hpw (fun p hp => by obtain ⟨v, hv⟩ := hko p hp; obtain ⟨x, _, hx, _⟩ := keyOf_u64 hk hv; exact ⟨x, hx⟩) h.1 (fun x => by rw [h.2 x, hl]; simp)
end
end Go.Proofs.YtklpeghhgoeeiaaGreatDoor
