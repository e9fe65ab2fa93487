/- The walks and laws that the claim leans on, part 18. -/
import Derived.Test.YtpihhlbfpbngaaaGreatDoorJap
namespace Go.Proofs.YtpihhlbfpbngaaaGreatDoor
open Go.RowKit
theorem infoInt : (Tryz.prog.info? 3).map (fun i => (i.zero, i.size, i.bytes)) = some (some (.int .i64 0), 1, 8) := by kernel_rfl
def iCells (l : List Int) : List Value := l.map fun x => Value.int .i64 x
theorem plCells_at (s : Nat) : ∀ (n k : Nat), k < n → (plCells s n)[k * 4]? = some (.int .i64 ((s + 32 * k : Nat) : Int)) ∧ (plCells s n)[k * 4 + 1]? = some (.int .i64 (-1)) ∧ (plCells s n)[k * 4 + 2]? = some (.int .i64 (-1)) ∧ (plCells s n)[k * 4 + 3]? = some (.bool false)
  | n + 1, k, h => by
    have hl : (plCells s n).length = n * 4 := by
      clear h
      induction n with
      | zero => rfl
      | succ n ih => rw [plCells_succ, List.length_append, ih]; simp; omega
    rw [plCells_succ]
    by_cases hk : k < n
    · obtain ⟨h0, h1, h2, h3⟩ := plCells_at s n k hk
      refine ⟨?_, ?_, ?_, ?_⟩ <;> rw [List.getElem?_append_left (by omega)] <;> assumption
    · obtain rfl : k = n := by omega
      refine ⟨?_, ?_, ?_, ?_⟩ <;> rw [List.getElem?_append_right (by omega), hl] <;> simp
theorem pl_facts {w : World} {B n s : Nat} {A : Option Addr} (h : Reads w B 4 A n (plCells s n)) {k : Nat} (hk : k < n) :
    ∃ b off : Nat, A = some ⟨b, off, none⟩ ∧ b < B ∧ w.cell? ⟨b, off + k * 4, none⟩ = some (.int .i64 ((s + 32 * k : Nat) : Int)) ∧ w.cell? ⟨b, off + k * 4 + 1, none⟩ = some (.int .i64 (-1)) ∧ w.cell? ⟨b, off + k * 4 + 2, none⟩ = some (.int .i64 (-1)) ∧ w.cell? ⟨b, off + k * 4 + 3, none⟩ = some (.bool false) := by
  obtain ⟨b, off, hA, hb, hc⟩ := h.plain (by omega) (by omega)
  obtain ⟨h0, h1, h2, h3⟩ := plCells_at s n k hk
  exact ⟨b, off, hA, hb, hc _ _ h0, hc _ _ h1, hc _ _ h2, hc _ _ h3⟩
def RetLines (w : World) (K : Nat) (e : Ending) (w' : World) : Prop := ∃ A m c l, e = .returned (.slice A m c) ∧ m ≤ K ∧ w'.ownsRow w.heap.size 3 1 (.slice A m c) m (iCells l) ∧ Below w.heap.size w w'
set_option maxRecDepth 100000 in
set_option maxHeartbeats 4000000 in
theorem lines_any {a : DA} {s K base g : Nat} {w : World} (h : SetIs a s K w base g) (hK : K ≤ 128) :
    Calls Tryz.prog 197 #[.pointer (some ⟨g, 0, none⟩)] w (RetLines w K) := by
  obtain ⟨A, m, c, hB, rfl, ho⟩ := h
  obtain ⟨i0, hi0, hz0, hz1, hz2⟩ := info_parts infoInt
  have HR := Lib.hid (Reads.of_own ho)
  have f1 : w.cell? ⟨g, 1, none⟩ = some (.slice A m c) := hB.cell 1
  have HB0 : Hid (Below w.heap.size w w) := Below.refl _ _
  have HO0 : Hid (w.ownsRow w.heap.size 3 1 (.slice none 0 0) 0 (iCells [])) := World.ownsRow_nil _ _ _ _
  clear ho hB
  go_enter Tryz.func197, Tryz.ntmps197
  go_wp2
  go_loopw [3, 13] (fun p i wr => ∃ (k : Nat) (A1 : Option Addr) (m1 c1 : Nat) (l : List Int), k ≤ m ∧ i = .int .i64 k ∧ p = .slice A1 m1 c1 ∧ m1 ≤ k ∧ Hid (wr.ownsRow w.heap.size 3 1 (.slice A1 m1 c1) m1 (iCells l)) ∧ Hid (Below w.heap.size w wr)) (fun _ i _ => m - (intOf i).toNat)
  case atStart => exact ⟨0, _, _, _, _, Nat.zero_le _, rfl, rfl, Nat.le_refl _, HO0, HB0⟩
  case round =>
    clear HB0 HO0
    obtain ⟨k, A1, m1, c1, l, hk, rfl, rfl, hm1, HO, H⟩ := hrel
    by_cases hlt : k < m
    · obtain ⟨b, off, hA, hbB, f0, f2, f3, f4⟩ := pl_facts (HR.out.below H.out) hlt
      subst hA
      have hz5 : (0 : Int) ≤ (k : Int) := by omega
      have hz6 : (k : Int) < (m : Int) := by omega
      generalize ((s + 32 * k : Nat) : Int) = v at *
      have HLE := Lib.hid H.out.size
      have HOD := Lib.hid ((HO.out.alloc (.cells #[.int .i64 v, .int .i64 (-1), .int .i64 (-1), .bool false] 323)).alloc (.cells #[.int .i64 v] 3))
      have HBD := Lib.hid ((H.out.alloc H.out.size (.cells #[.int .i64 v, .int .i64 (-1), .int .i64 (-1), .bool false] 323)).alloc (by have := H.out.size; simp; omega) (.cells #[.int .i64 v] 3))
      clear H HO
      go_wp2_with (first
        | (at_builtin; refine wpList_app _ (.tmp 17) (.tmp 20) 85 rfl rfl w.heap.size 3 i0 _ 1 8 Tryz.underlying85 hi0 hz0 hz1 hz2 rfl ?q1 (.slice A1 m1 c1) m1 (iCells l) rfl HOD.out (wr.heap.size + 1 + 1) (some ⟨wr.heap.size + 1, 0, none⟩) 1 1 [.int .i64 v] rfl ?q5 ?q6 ?q2 ?q3 ?q4 ?_; (case q1 => omega); (case q5 => exact row_reads_at _ _ (by simp) _ 1 1 3 _ rfl rfl); (case q6 => (intro u hu; simp at hu; subst hu; rfl)); (case q2 => (unfold maxLen; omega)); (case q3 => omega); (case q4 => (have := HLE.out; simp; omega)); intro A3 n3 c3 w8 hn3 ho3 hg3 hb3; have HN3 := Lib.hid hn3; have HO3 := Lib.hid ho3; have HB3 := Lib.hid (HBD.out.trans hb3); clear hn3 ho3 hg3 hb3)
        | go_in)
      have b1 : n3 ≤ k + 1 := by have := HN3.out; omega
      have HO4 : Hid (w8.ownsRow w.heap.size 3 1 (.slice A3 n3 c3) n3 (iCells (l ++ [v]))) := Lib.hid (by have h := HO3.out; simpa [iCells] using h)
      go_roundw
      case rel =>
        first
          | exact ⟨k + 1, _, _, _, _, by omega, by go_num, rfl, b1, HO4, HB3⟩
          | (repeat apply Exists.intro
             refine ⟨?_, rfl⟩
             exact ⟨k + 1, _, _, _, _, by omega, by go_num, rfl, b1, HO4, HB3⟩)
      case measure => simp [intOf]; omega
    · obtain rfl : m = k := by omega
      go_wp2
      go_ret
      exact ⟨_, _, _, _, rfl, hm1, HO.out, H.out⟩
def RetFind (w : World) (e : Ending) (w' : World) : Prop := ∃ p, e = .returned (.pointer p) ∧ (p = none ∨ ∃ b off, p = some ⟨b, off, none⟩ ∧ w'.cell? ⟨b, off + 2, none⟩ = some (.int .i64 (-1))) ∧ w = w'
set_option maxRecDepth 100000 in
set_option maxHeartbeats 4000000 in
theorem find_any {a : DA} {s K base g : Nat} {w : World} (h : SetIs a s K w base g) (hK : K ≤ 128) (x : Int) :
    Calls Tryz.prog 246 #[.pointer (some ⟨g, 0, none⟩), .int .i64 x] w (RetFind w) := by
  obtain ⟨A, m, c, hB, rfl, ho⟩ := h
  have HR := Lib.hid (Reads.of_own ho)
  have f1 : w.cell? ⟨g, 1, none⟩ = some (.slice A m c) := hB.cell 1
  clear ho hB
  go_enter Tryz.func246, Tryz.ntmps246
  go_wp2
  go_loopw [13] (fun i wr => ∃ (k : Nat), k ≤ m ∧ i = .int .i64 k ∧ w = wr) (fun i _ => m - (intOf i).toNat)
  case atStart => exact ⟨0, Nat.zero_le _, rfl, rfl⟩
  case round =>
    obtain ⟨k, hk, rfl, rfl⟩ := hrel
    by_cases hlt : k < m
    · obtain ⟨b, off, hA, hbB, f0, f2, f3, f4⟩ := pl_facts HR.out hlt
      subst hA
      have hz5 : (0 : Int) ≤ (k : Int) := by omega
      have hz6 : (k : Int) < (m : Int) := by omega
      generalize ((s + 32 * k : Nat) : Int) = v at *
      by_cases hv : v = x
      · have hq : (v == x) = true := by simp [hv]
        go_wp2
        go_ret
        exact ⟨_, rfl, .inr ⟨b, off + k * 4, rfl, f3⟩, rfl⟩
      · have hq : (v == x) = false := by simp [hv]
        go_wp2
        go_roundw
        case rel =>
          first
            | exact ⟨k + 1, by omega, by go_num, trivial⟩
            | exact ⟨k + 1, by omega, by go_num, rfl⟩
            | (repeat apply Exists.intro
               refine ⟨?_, rfl⟩
               exact ⟨k + 1, by omega, by go_num, rfl⟩)
        case measure => simp [intOf]; omega
    · obtain rfl : m = k := by omega
      go_wp2
      go_ret
      exact ⟨_, rfl, .inl rfl, rfl⟩
set_option maxRecDepth 100000 in
set_option maxHeartbeats 4000000 in
theorem owner_any {a : DA} {s K base g : Nat} {w : World} (h : SetIs a s K w base g) (hK : K ≤ 128) (x : Int) :
    Calls Tryz.prog 234 #[.pointer (some ⟨g, 0, none⟩), .int .i64 x] w fun e w' => e = .returned (.int .i64 (-1)) ∧ w = w' := by
  have HF := Lib.hid (find_any h hK x)
  clear h
  go_enter Tryz.func234, Tryz.ntmps234
  go_wp2_with fail
  refine HF.out.mono ?_
  rintro e w1 ⟨p, rfl, hp, rfl⟩
  rcases hp with rfl | ⟨b, off, rfl, f2⟩
  · go_wp2
    go_ret
    exact ⟨rfl, rfl⟩
  · go_wp2
    go_ret
    exact ⟨rfl, rfl⟩
end Go.Proofs.YtpihhlbfpbngaaaGreatDoor
namespace Go.Proofs.YtpihhlbfpbngaaaGreatDoor
open Go.RowKit
theorem i_facts {w : World} {B n : Nat} {A : Option Addr} {l : List Int} (h : Reads w B 1 A n (iCells l)) {k : Nat} (hk : k < n) :
    ∃ (b off : Nat) (x : Int), A = some ⟨b, off, none⟩ ∧ b < B ∧ w.cell? ⟨b, off + k, none⟩ = some (.int .i64 x) := by
  have hl : k < l.length := by have := h.1; simp [iCells] at this; omega
  obtain ⟨b, off, hA, hb, hc⟩ := h.plain (by omega) (by omega)
  exact ⟨b, off, l[k], hA, hb, hc k _ (by simp [iCells, hl])⟩
theorem SetIs.below {a : DA} {s K base g : Nat} {w w' : World} (h : SetIs a s K w base g) (hb : Below w.heap.size w w') : SetIs a s K w' base g := by
  obtain ⟨A, m, c, hB, hm, ho⟩ := h
  exact ⟨A, m, c, hB.below hb hB.lt, hm, own_below ho hb⟩
def heapCells (a : DA) (s n gs mr mh : Nat) (lk : Bool) : Array Value := #[memV a, .int .i64 (s : Int), .int .i64 (n : Int), .pointer (some ⟨gs, 0, none⟩), .map (some mr), .map (some mh), .map none, .bool lk]
end Go.Proofs.YtpihhlbfpbngaaaGreatDoor
namespace Go.Proofs.YtpihhlbfpbngaaaGreatDoor
open Go.RowKit
structure CS where
  dv : Bool
  cl : Nat
  g : Nat
  V : Nat
  bs : Nat → BK
def CS.cls (c : CS) : Int := if c.dv then (c.cl : Int) else -1
def CS.own (c : CS) : Int := if c.dv then 0 else -1
def CSok (cur : Nat → Nat) (ln : Nat) (c : CS) : Prop := if c.dv then ChW cur ln c.cl c.g c.V c.bs else cur (8 * ln) = freeW c.g ∧ 0 < c.g ∧ c.g < 65536
structure PA where
  gs : Nat
  pl : Nat
  po : Nat
def PlcC (s K po : Nat) (cs : Nat → CS) (pcs : Array Value) : Prop := ∀ k, k < K → pcs[po + k * 4]? = some (.int .i64 ((s + 32 * k : Nat) : Int)) ∧ pcs[po + k * 4 + 1]? = some (.int .i64 (cs k).cls) ∧ pcs[po + k * 4 + 2]? = some (.int .i64 (cs k).own) ∧ ∃ b, pcs[po + k * 4 + 3]? = some (.bool b)
structure Plc (a : DA) (s K : Nat) (x : PA) (cs : Nat → CS) (w : World) : Prop where
  set_ : ∃ c, Blk w x.gs 345 #[memV a, .slice (some ⟨x.pl, x.po, none⟩) K c]
  pls : ∃ pcs, Blk w x.pl 323 pcs ∧ PlcC s K x.po cs pcs
section
variable {a : DA} {s K : Nat} {x : PA} {cs : Nat → CS} {w w' : World}
theorem Plc.chg {Z : Fp} (h : Plc a s K x cs w) (hc : Chg Z w w') (h1 : ¬ Z x.gs) (h2 : ¬ Z x.pl) : Plc a s K x cs w' := by
  obtain ⟨⟨c, hs⟩, pcs, hp, hk⟩ := h
  exact ⟨⟨c, hc.blk hs h1⟩, pcs, hc.blk hp h2, hk⟩
theorem Plc.below (h : Plc a s K x cs w) (hb : Below w.heap.size w w') : Plc a s K x cs w' := h.chg (Chg.of_below (S := Fp.no) hb) (fun h => h) (fun h => h)
theorem Plc.ne (h : Plc a s K x cs w) : x.gs ≠ x.pl := by
  obtain ⟨⟨c, hs⟩, pcs, hp, hk⟩ := h
  exact hs.ne_ hp (by decide)
theorem Plc.lt (h : Plc a s K x cs w) : x.gs < w.heap.size ∧ x.pl < w.heap.size := by
  obtain ⟨⟨c, hs⟩, pcs, hp, hk⟩ := h
  exact ⟨hs.lt, hp.lt⟩
theorem Plc.sets (h : Plc a s K x cs w) : ∃ c, w.cell? ⟨x.gs, 0, none⟩ = some (memV a) ∧ w.cell? ⟨x.gs, 1, none⟩ = some (.slice (some ⟨x.pl, x.po, none⟩) K c) := by
  obtain ⟨⟨c, hs⟩, pcs, hp, hk⟩ := h
  exact ⟨c, hs.cell 0, hs.cell 1⟩
theorem Plc.facts (h : Plc a s K x cs w) {k : Nat} (hk : k < K) : w.cell? ⟨x.pl, x.po + k * 4, none⟩ = some (.int .i64 ((s + 32 * k : Nat) : Int)) ∧ w.cell? ⟨x.pl, x.po + k * 4 + 1, none⟩ = some (.int .i64 (cs k).cls) ∧ w.cell? ⟨x.pl, x.po + k * 4 + 2, none⟩ = some (.int .i64 (cs k).own) ∧ ∃ b, w.cell? ⟨x.pl, x.po + k * 4 + 3, none⟩ = some (.bool b) := by
  obtain ⟨⟨c, hs⟩, pcs, hp, hkk⟩ := h
  obtain ⟨h0, h1, h2, b, h3⟩ := hkk k hk
  exact ⟨by rw [hp.cell]; exact h0, by rw [hp.cell]; exact h1, by rw [hp.cell]; exact h2, b, by rw [hp.cell]; exact h3⟩
theorem Plc.frozen (h : Plc a s K x cs w) (i : Nat) : w.frozen? ⟨x.pl, i, none⟩ = false := by
  obtain ⟨⟨c, hs⟩, pcs, hp, hkk⟩ := h
  exact hp.frozen i
theorem set_get {pcs : Array Value} {i j : Nat} {u v : Value} (h : pcs[i]? = some u) : (pcs.setIfInBounds j v)[i]? = some (if i = j then v else u) := by
  rw [Array.getElem?_setIfInBounds]
  have hi := (Array.getElem?_eq_some_iff.1 h).1
  by_cases e : j = i
  · subst e; simp [hi]
  · rw [if_neg e, if_neg (fun h => e h.symm)]; exact h
theorem Plc.hold (h : Plc a s K x cs w) {k : Nat} (_hk : k < K) (b : Bool) : Plc a s K x cs (w.setCell ⟨x.pl, x.po + k * 4 + 3, none⟩ (.bool b)) := by
  have hne := h.ne
  obtain ⟨⟨c, hs⟩, pcs, hp, hkk⟩ := h
  refine ⟨⟨c, hs.far hne _⟩, _, hp.set_ _ _, fun j hj => ?_⟩
  obtain ⟨h0, h1, h2, b', h3⟩ := hkk j hj
  refine ⟨?_, ?_, ?_, if x.po + j * 4 + 3 = x.po + k * 4 + 3 then b else b', ?_⟩
  · rw [set_get h0, if_neg (by omega)]
  · rw [set_get h1, if_neg (by omega)]
  · rw [set_get h2, if_neg (by omega)]
  · rw [set_get h3]; split <;> rfl
def updC (cs : Nat → CS) (k : Nat) (c : CS) : Nat → CS := fun j => if j = k then c else cs j
theorem Plc.claim (h : Plc a s K x cs w) {k : Nat} (_hk : k < K) (c : CS) : Plc a s K x (updC cs k c) ((w.setCell ⟨x.pl, x.po + k * 4 + 1, none⟩ (.int .i64 c.cls)).setCell ⟨x.pl, x.po + k * 4 + 2, none⟩ (.int .i64 c.own)) := by
  have hne := h.ne
  obtain ⟨⟨c', hs⟩, pcs, hp, hkk⟩ := h
  refine ⟨⟨c', (hs.far hne _).far hne _⟩, _, (hp.set_ _ _).set_ _ _, fun j hj => ?_⟩
  obtain ⟨h0, h1, h2, b', h3⟩ := hkk j hj
  refine ⟨?_, ?_, ?_, b', ?_⟩
  · rw [set_get (set_get h0), if_neg (by omega), if_neg (by omega)]
  · rw [set_get (set_get h1), if_neg (by omega)]
    unfold updC
    by_cases e : j = k
    · subst e; simp
    · rw [if_neg (by omega), if_neg e]
  · rw [set_get (set_get h2)]
    unfold updC
    by_cases e : j = k
    · subst e; simp
    · rw [if_neg (by omega), if_neg (by omega), if_neg e]
  · rw [set_get (set_get h3), if_neg (by omega), if_neg (by omega)]
end
set_option maxRecDepth 100000 in
set_option maxHeartbeats 2000000 in
theorem findP_any {a : DA} {s K : Nat} {x : PA} {cs : Nat → CS} {w : World} (h : Plc a s K x cs w) (hK : K ≤ 128) (_hs : s ≤ 100000) {k0 : Nat} (hk0 : k0 < K) :
    Calls Tryz.prog 246 #[.pointer (some ⟨x.gs, 0, none⟩), .int .i64 ((s + 32 * k0 : Nat) : Int)] w fun e w' => e = .returned (.pointer (some ⟨x.pl, x.po + k0 * 4, none⟩)) ∧ w = w' := by
  obtain ⟨c, _, f1⟩ := h.sets
  have HP := Lib.hid h
  clear h
  obtain ⟨gs, pl, po⟩ := x
  dsimp only at *
  generalize hv0 : s + 32 * k0 = v0 at *
  go_enter Tryz.func246, Tryz.ntmps246
  go_wp2
  go_loopw [13] (fun i wr => ∃ (k : Nat), k ≤ k0 ∧ i = .int .i64 k ∧ w = wr) (fun i _ => k0 - (intOf i).toNat)
  case atStart => exact ⟨0, Nat.zero_le _, rfl, rfl⟩
  case round =>
    obtain ⟨k, hk, rfl, rfl⟩ := hrel
    obtain ⟨f0, f2, f3, b4, f4⟩ := HP.out.facts (k := k) (by omega)
    dsimp only at f0 f2 f3 f4
    have hz5 : (0 : Int) ≤ (k : Int) := by omega
    have hz6 : (k : Int) < (K : Int) := by omega
    generalize hv : s + 32 * k = v at *
    by_cases hlt : k = k0
    · subst hlt
      have hq : ((v : Int) == (v0 : Int)) = true := by rw [beq_iff_eq]; omega
      clear hv hv0
      go_wp2
      go_ret
      exact ⟨rfl, rfl⟩
    · have hq : ((v : Int) == (v0 : Int)) = false := by rw [beq_eq_false_iff_ne]; omega
      clear hv
      go_wp2
      go_roundw
      case rel =>
        first
          | exact ⟨k + 1, by omega, by go_num, trivial⟩
          | exact ⟨k + 1, by omega, by go_num, rfl⟩
          | (repeat apply Exists.intro
             refine ⟨?_, rfl⟩
             exact ⟨k + 1, by omega, by go_num, rfl⟩)
      case measure => simp [intOf]; omega
def RetHold (a : DA) (s K : Nat) (x : PA) (cs : Nat → CS) (w : World) (e : Ending) (w' : World) : Prop := e = .returned (.int .i64 0) ∧ Plc a s K x cs w' ∧ Chg (fun k => k = x.pl) w w'
set_option maxRecDepth 100000 in
set_option maxHeartbeats 2000000 in
theorem holdP_any {a : DA} {s K : Nat} {x : PA} {cs : Nat → CS} {w : World} (h : Plc a s K x cs w) (hK : K ≤ 128) (hs : s ≤ 100000) {k0 : Nat} (hk0 : k0 < K) (hd : (cs k0).dv = true) (b : Bool) :
    Calls Tryz.prog 162 #[.pointer (some ⟨x.gs, 0, none⟩), .int .i64 ((s + 32 * k0 : Nat) : Int), .bool b] w (RetHold a s K x cs w) := by
  have HF := Lib.hid (findP_any h hK hs hk0)
  obtain ⟨f0, f2, f3, b4, f4⟩ := h.facts hk0
  have z4 := h.frozen (x.po + k0 * 4 + 3)
  have HN : Hid (Plc a s K x cs (w.setCell ⟨x.pl, x.po + k0 * 4 + 3, none⟩ (.bool b)) ∧ Chg (fun k => k = x.pl) w (w.setCell ⟨x.pl, x.po + k0 * 4 + 3, none⟩ (.bool b))) := Lib.hid ⟨h.hold hk0 b, (Chg.refl (fun k => k = x.pl) w).setCell (p := ⟨x.pl, x.po + k0 * 4 + 3, none⟩) (.inl rfl) _⟩
  have hcl : (cs k0).cls = ((cs k0).cl : Int) := by unfold CS.cls; rw [hd]; rfl
  rw [hcl] at f2
  have d2 : decide (((cs k0).cl : Int) < 0) = false := decide_eq_false (by omega)
  generalize (cs k0).cl = ccl at *
  clear h hcl
  go_enter Tryz.func162, Tryz.ntmps162
  go_wp2_with fail
  refine HF.out.mono ?_
  rintro e w1 ⟨rfl, rfl⟩
  go_wp2
  go_ret
  exact ⟨rfl, HN.out.1, HN.out.2⟩
def RetLns (w : World) (l : List Int) (e : Ending) (w' : World) : Prop := ∃ A m c, e = .returned (.slice A m c) ∧ w'.ownsRow w.heap.size 3 1 (.slice A m c) m (iCells l) ∧ Below w.heap.size w w'
theorem iCells_len (l : List Int) : (iCells l).length = l.length := by simp [iCells]
end Go.Proofs.YtpihhlbfpbngaaaGreatDoor
namespace Go.Proofs.YtpihhlbfpbngaaaGreatDoor
open Go.RowKit
set_option maxRecDepth 100000 in
set_option maxHeartbeats 4000000 in
theorem thread_any {a : DA} {L T : Nat} {w : World} {S : Fp} {cur : Nat → Nat} {F : Nat} (h : Dev a L T w S cur F) :
    Calls Tryz.prog 55 #[.pointer (some ⟨a.d, 0, none⟩), .int .i64 0] w fun e w' => e = .returned (.pointer (some ⟨a.th 0, 0, none⟩)) ∧ w = w' := by
  obtain ⟨ls, exe, per, cs, lsC, hdc, hnt⟩ := h
  have f3 : w.cell? ⟨a.d, 3, none⟩ = some (.pointer (some ⟨a.th 0, 0, none⟩)) := hdc.dev.cell 3
  clear hdc hnt
  go_enter Tryz.func55, Tryz.ntmps55
  go_wp2
  go_ret
  exact ⟨rfl, rfl⟩
def mgrCells (th r u h : Option Addr) (last : Option Addr) : Array Value := #[.pointer th, .pointer r, .pointer u, .pointer h, .pointer last]
set_option maxRecDepth 100000 in
set_option maxHeartbeats 4000000 in
theorem txNew_any (th r u h : Option Addr) (w : World) :
    Calls Tryz.prog 141 #[.pointer th, .pointer r, .pointer u, .pointer h] w fun e w' => e = .returned (.pointer (some ⟨w.heap.size, 0, none⟩)) ∧ w' = w.alloc (.cells (mgrCells th r u h none) 191) := by
  go_enter Tryz.func141, Tryz.ntmps141
  go_wp2
  go_ret
  exact ⟨rfl, rfl⟩
structure SA where
  r : Nat
  u : Nat
  h : Nat
  gs : Nat
  mr : Nat
  mh : Nat
  m : Nat
structure Sys (a : DA) (w : World) (x : SA) (lk : Bool) (last : Option Addr) : Prop where
  r : Blk w x.r 247 (logCells a 4 26)
  u : Blk w x.u 296 (ulogCells a 30 26)
  h : Blk w x.h 151 (heapCells a 56 96 x.gs x.mr x.mh lk)
  m : Blk w x.m 191 (mgrCells (some ⟨a.th 0, 0, none⟩) (some ⟨x.r, 0, none⟩) (some ⟨x.u, 0, none⟩) (some ⟨x.h, 0, none⟩) last)
structure Pool (cur : Nat → Nat) : Prop where
  r : cur 32 = 0
  u : cur 240 = 0
  c : ∀ k, k < 3 → cur (8 * (56 + 32 * k)) = freeW 1
def wCells (a : DA) (x : SA) (cs : Array Value) : Prop := cs.size = 77 ∧ cs[0]? = some (.pointer (some ⟨a.d, 0, none⟩)) ∧ cs[1]? = some (.pointer (some ⟨x.h, 0, none⟩)) ∧ cs[2]? = some (.pointer (some ⟨x.m, 0, none⟩))
end Go.Proofs.YtpihhlbfpbngaaaGreatDoor
