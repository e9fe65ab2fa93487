/- The walks and laws that the claim leans on, part 24. -/
import Derived.Test.YtpihhlbfpbngaaaGreatDoorJaw
namespace Go.Proofs.YtpihhlbfpbngaaaGreatDoor
open Go.RowKit Go.Maps Go.Shelf
def outLog (i : Nat) : Prop := i < 240 ∨ 448 ≤ i
theorem OffOk.inj {o o' : Nat} (h : OffOk 152 30 26 o) (h' : OffOk 152 30 26 o') (e : o / 8 = o' / 8) : o = o' := by
  have := h.al; have := h'.al; omega
theorem wrS_other : ∀ (l : List (Nat × Nat)) (cur : Nat → Nat) (k : Nat), (∀ e ∈ l, e.1 / 8 ≠ k) → wrS cur l k = cur k
  | [], _, _, _ => rfl
  | e :: l, cur, k, h => by
    show wrS (upd cur (e.1 / 8) e.2) l k = cur k
    rw [wrS_other l _ k (fun x hx => h x (by simp [hx]))]
    have := h e (by simp)
    simp [upd]; omega
theorem wrS_get : ∀ (l : List (Nat × Nat)) (cur : Nat → Nat), (l.map (·.1)).Nodup → (∀ e ∈ l, e.1 % 8 = 0) → ∀ e ∈ l, wrS cur l (e.1 / 8) = e.2
  | [], _, _, _, _, h => by simp at h
  | x :: l, cur, hn, ha, e, he => by
    show wrS (upd cur (x.1 / 8) x.2) l (e.1 / 8) = e.2
    simp only [List.map_cons, List.nodup_cons] at hn
    rcases List.mem_cons.1 he with rfl | he
    · rw [wrS_other l _ _ (fun y hy h => hn.1 (by
        have h1 := ha y (by simp [hy]); have h2 := ha e (by simp)
        have : y.1 = e.1 := by omega
        exact List.mem_map.2 ⟨y, hy, this⟩))]
      simp [upd]
    · exact wrS_get l _ hn.2 (fun y hy => ha y (by simp [hy])) e he
theorem wrS_bnd : ∀ (l : List (Nat × Nat)) (cur : Nat → Nat), (∀ i, cur i < 18446744073709551616) → (∀ e ∈ l, e.2 < 18446744073709551616) → ∀ i, wrS cur l i < 18446744073709551616
  | [], _, h, _, i => h i
  | x :: l, cur, h, hl, i => wrS_bnd l (upd cur (x.1 / 8) x.2) (fun j => by
      unfold upd
      split
      · exact hl x (by simp)
      · exact h j) (fun e he => hl e (by simp [he])) i
structure UInv (cur base : Nat → Nat) (D : DataW Unit) (ws : List (Nat × Nat)) : Prop where
  map : IsMap D
  log : LogU cur 30 ws
  keys : ∀ o, has D (kU o) = true ↔ o ∈ ws.map (·.1)
  nd : (ws.map (·.1)).Nodup
  off : ∀ e ∈ ws, OffOk 152 30 26 e.1
  old : ∀ e ∈ ws, e.2 = base (e.1 / 8)
  cell : ∀ o, has D (kU o) = true → D.atKey (kU o) (cellD 0 0 false) = cellD (cur (o / 8)) (base (o / 8)) true
  rest : ∀ i, outLog i → has D (kU (8 * i)) = false → cur i = base i
  bnd : ∀ i, cur i < 18446744073709551616
  bbnd : ∀ i, base i < 18446744073709551616
section
variable {cur base : Nat → Nat} {D : DataW Unit} {ws : List (Nat × Nat)}
theorem UInv.start (h0 : cur 240 = 0) (hb : ∀ i, cur i < 18446744073709551616) : UInv cur cur (.map []) [] :=
  ⟨⟨_, rfl⟩, LogU.none h0, fun o => by simp [has], by simp, fun e h => by simp at h, fun e h => by simp at h, fun _ h => by simp [has] at h, fun _ _ _ => rfl, hb, hb⟩
theorem UInv.val (h : UInv cur base D ws) : ∀ e ∈ ws, e.2 < 18446744073709551616 := fun e he => by rw [h.old e he]; exact h.bbnd _
theorem UInv.back (h : UInv cur base D ws) {i : Nat} (hi : outLog i) : rbC cur ws i = base i := by
  unfold rbC
  by_cases h0 : ws = []
  · rw [if_pos h0]
    refine h.rest i hi ?_
    cases hh : has D (kU (8 * i)) with
    | false => rfl
    | true => have := (h.keys _).1 hh; rw [h0] at this; simp at this
  · rw [if_neg h0]
    have h1 : wrS (wrS cur ws) [(1920, 0)] i = wrS cur ws i := wrS_other _ _ _ (fun e he => by simp at he; subst he; unfold outLog at hi; show 1920 / 8 ≠ i; omega)
    rw [h1]
    cases hh : has D (kU (8 * i)) with
    | false =>
      rw [wrS_other ws cur i (fun e he hc => by
        have hk : has D (kU e.1) = true := (h.keys _).2 (List.mem_map.2 ⟨e, he, rfl⟩)
        have : e.1 = 8 * i := by have := (h.off e he).al; omega
        rw [this, hh] at hk; cases hk)]
      exact h.rest i hi hh
    | true =>
      obtain ⟨e, he, he1⟩ := List.mem_map.1 ((h.keys _).1 hh)
      have := wrS_get ws cur h.nd (fun e he => (h.off e he).al) e he
      rw [show e.1 / 8 = i by omega] at this
      rw [this, h.old e he]
      congr 1; omega
end
end Go.Proofs.YtpihhlbfpbngaaaGreatDoor
namespace Go.Proofs.YtpihhlbfpbngaaaGreatDoor
open Go.RowKit Go.Maps
structure HA where
  h : Nat
  gs : Nat
  pl : Nat
  po : Nat
  mr : Nat
  mh : Nat
def HA.p (x : HA) : PA := ⟨x.gs, x.pl, x.po⟩
def HA.fp (x : HA) : Fp := fun k => k = x.pl ∨ k = x.mr ∨ k = x.mh
structure HS (a : DA) (s n K : Nat) (x : HA) (cs : Nat → CS) (f : Nat → Option Nat) (N m : Nat) (w : World) : Prop where
  heap : Blk w x.h 151 (heapCells a s n x.gs x.mr x.mh false)
  plc : Plc a s K x.p cs w
  res : PMap w x.mr N f m
  held : HMap w x.mh N
  ne : x.mr ≠ x.mh
theorem blk_ne_map {H : Type} {P : Program} {k : TypeId} {R : Value → Option (DataW H × List MemPlace)} {w : World} {b n g : Nat} {D : DataW H} {t : TypeId} {cs : Array Value} (h : w.ownsMap P k R b n D) (hB : Blk w g t cs) : g ≠ b := by
  intro e
  subst e
  obtain ⟨es, clock, hb, _⟩ := h
  unfold Blk at hB
  rw [hB] at hb
  cases hb
section
variable {a : DA} {s n K : Nat} {x : HA} {cs : Nat → CS} {f : Nat → Option Nat} {N m : Nat} {w w' : World}
theorem HS.map_ne (h : HS a s n K x cs f N m w) {g : Nat} {t : TypeId} {vs : Array Value} (hB : Blk w g t vs) : g ≠ x.mr ∧ g ≠ x.mh := by
  obtain ⟨D, ho, _⟩ := h.res
  obtain ⟨D2, ho2⟩ := h.held
  exact ⟨blk_ne_map ho hB, blk_ne_map ho2 hB⟩
theorem HS.pl_ne (h : HS a s n K x cs f N m w) : x.pl ≠ x.mr ∧ x.pl ≠ x.mh ∧ x.gs ≠ x.mr ∧ x.gs ≠ x.mh ∧ x.h ≠ x.mr ∧ x.h ≠ x.mh ∧ x.gs ≠ x.pl ∧ x.h ≠ x.pl := by
  obtain ⟨⟨c, hs⟩, pcs, hp, _⟩ := h.plc
  obtain ⟨h1, h2⟩ := h.map_ne hp
  obtain ⟨h3, h4⟩ := h.map_ne hs
  obtain ⟨h5, h6⟩ := h.map_ne h.heap
  exact ⟨h1, h2, h3, h4, h5, h6, h.plc.ne, h.heap.ne_ hp (by decide)⟩
theorem HS.chg {Z : Fp} (h : HS a s n K x cs f N m w) (hc : Chg Z w w') (h1 : ¬ Z x.h) (h2 : ¬ Z x.gs) (h3 : ¬ Z x.pl) (h4 : ¬ Z x.mr) (h5 : ¬ Z x.mh) : HS a s n K x cs f N m w' :=
  ⟨hc.blk h.heap h1, h.plc.chg hc h2 h3, h.res.chg hc h4, h.held.chg hc h5, h.ne⟩
theorem HS.below (h : HS a s n K x cs f N m w) (hb : Below w.heap.size w w') : HS a s n K x cs f N m w' := h.chg (Chg.of_below (S := Fp.no) hb) (fun h => h) (fun h => h) (fun h => h) (fun h => h) (fun h => h)
theorem HS.mono {N' : Nat} (h : HS a s n K x cs f N m w) (hN : N ≤ N') : HS a s n K x cs f N' m w := ⟨h.heap, h.plc, h.res.mono hN, h.held.mono hN, h.ne⟩
theorem HS.lt (h : HS a s n K x cs f N m w) : x.h < w.heap.size ∧ x.gs < w.heap.size ∧ x.pl < w.heap.size ∧ x.mr < w.heap.size ∧ x.mh < w.heap.size :=
  ⟨h.heap.lt, h.plc.lt.1, h.plc.lt.2, h.res.lt, h.held.lt⟩
end
def blkO (ln cl i : Nat) : Nat := 64 * ln + 8 * offB cl i + 8
def ResLoc (s K : Nat) (cs : Nat → CS) (o p : Nat) : Prop := ∃ k i, k < K ∧ (cs k).dv = true ∧ i < perC (cs k).cl ∧ o = blkO (s + 32 * k) (cs k).cl i ∧ pOff p = o
structure DS (a : DA) (L T s n K : Nat) (x : HA) (cs : Nat → CS) (f : Nat → Option Nat) (N m b0 : Nat) (S : Fp) (cur : Nat → Nat) (w : World) : Prop where
  dev : Dev a L T w S cur 0
  hs : HS a s n K x cs f N m w
  ok : ∀ k, k < K → CSok cur (s + 32 * k) (cs k)
  bnd : ∀ i, cur i < 18446744073709551616
  res : ∀ o p, f o = some p → ResLoc s K cs o p
  tab : Tab w
  pay : Pay w
  lo : 0 < b0 ∧ 2 < b0 ∧ b0 ≤ x.h ∧ b0 ≤ x.gs ∧ b0 ≤ x.pl ∧ b0 ≤ x.mr ∧ b0 ≤ x.mh ∧ ∀ k, S k → b0 ≤ k
  off : ¬ S x.h ∧ ¬ S x.gs ∧ ¬ S x.pl ∧ ¬ S x.mr ∧ ¬ S x.mh
  hK : n / 32 = K ∧ 1 ≤ K ∧ s + n ≤ L ∧ 0 < s
section
variable {a : DA} {L T s n K : Nat} {x : HA} {cs : Nat → CS} {f : Nat → Option Nat} {N m b0 : Nat} {S : Fp} {cur : Nat → Nat} {w w' : World}
theorem DS.below (h : DS a L T s n K x cs f N m b0 S cur w) (hb : Below w.heap.size w w') : DS a L T s n K x cs f N m b0 S cur w' :=
  { h with dev := h.dev.below hb, hs := h.hs.below hb, tab := h.tab.below hb, pay := h.pay.below hb }
theorem DS.hL (h : DS a L T s n K x cs f N m b0 S cur w) : L ≤ 4096 := by
  obtain ⟨ls, exe, per, cs', lsC, hdc, hnt⟩ := h.dev
  exact hdc.hL
theorem DS.line (h : DS a L T s n K x cs f N m b0 S cur w) {k : Nat} (hk : k < K) : s + 32 * k + 32 ≤ L := by
  have h1 := h.hK
  omega
theorem DS.few (h : DS a L T s n K x cs f N m b0 S cur w) : K ≤ 128 ∧ s ≤ 4096 := by
  have h1 := h.hK
  have h2 := h.hL
  omega
theorem DS.more {T' : Nat} (h : DS a L T s n K x cs f N m b0 S cur w) (hT : T ≤ T') (hT' : T' ≤ 1000000000) : DS a L T' s n K x cs f N m b0 S cur w :=
  { h with dev := h.dev.more hT hT' }
theorem DS.dev_ {T' : Nat} {S' : Fp} {cur' : Nat → Nat} (h : DS a L T s n K x cs f N m b0 S cur w) (hd : Dev a L T' w' S' cur' 0) (hc : Chg S w w') (hg : Grew S S' w) (hok : ∀ k, k < K → CSok cur' (s + 32 * k) (cs k)) (hb : ∀ i, cur' i < 18446744073709551616) :
    DS a L T' s n K x cs f N m b0 S' cur' w' := by
  obtain ⟨o1, o2, o3, o4, o5⟩ := h.off
  obtain ⟨l1, l2, l3, l4, l5, l6, l7, l8⟩ := h.lo
  obtain ⟨z1, z2, z3, z4, z5⟩ := h.hs.lt
  have hlow : ∀ g, g < b0 → ¬ S g := fun g hgb hs => by have := l8 g hs; omega
  refine ⟨hd, h.hs.chg hc o1 o2 o3 o4 o5, hok, hb, h.res, h.tab.chg hc (hlow _ l1), fun i hi => (World.cell?_of_block (w := w) (hc.block _ h.pay.size (hlow _ l2))).trans (h.pay i hi), ⟨l1, l2, l3, l4, l5, l6, l7, fun k hk => ?_⟩, ⟨?_, ?_, ?_, ?_, ?_⟩, h.hK⟩
  · rcases hg k hk with h' | h'
    · exact l8 k h'
    · omega
  all_goals
    refine hg.off ⟨?_, ?_⟩
    · omega
    · assumption
theorem DS.own_ {cs' : Nat → CS} {f' : Nat → Option Nat} {N' m' : Nat} (h : DS a L T s n K x cs f N m b0 S cur w) (hs : HS a s n K x cs' f' N' m' w') (hc : Chg x.fp w w') (hok : ∀ k, k < K → CSok cur (s + 32 * k) (cs' k)) (hr : ∀ o p, f' o = some p → ResLoc s K cs' o p) :
    DS a L T s n K x cs' f' N' m' b0 S cur w' := by
  obtain ⟨o1, o2, o3, o4, o5⟩ := h.off
  obtain ⟨l1, l2, l3, l4, l5, l6, l7, l8⟩ := h.lo
  have hlow : ∀ g, g < b0 → ¬ x.fp g := fun g hgb hs => by
    rcases hs with h | h | h <;> omega
  exact ⟨h.dev.chg hc (fun k hk hz => by rcases hz with rfl | rfl | rfl <;> contradiction), hs, hok, h.bnd, hr, h.tab.chg hc (hlow _ l1), fun i hi => (World.cell?_of_block (w := w) (hc.block _ h.pay.size (hlow _ l2))).trans (h.pay i hi), h.lo, h.off, h.hK⟩
end
end Go.Proofs.YtpihhlbfpbngaaaGreatDoor
namespace Go.Proofs.YtpihhlbfpbngaaaGreatDoor
open Go.RowKit Go.Maps Go.Shelf
theorem Mks.step {c : CX} {w w' : World} {S S' : Fp} {t : TX} {l : List Mk} (h : Mks c w S t l) (hc : Chg S w w') (hg : Grew S S' w) (hw : ∃ n D, w.ownsMap Tryz.prog 26 cellR t.words n D) : Mks c w' S' t l := by
  have h1 := h.chg hc (fun j hj => .inl hj) hw
  have h2 := h.grew hg
  exact ⟨h1.row, h1.st, h2.off, h2.rowoff⟩
end Go.Proofs.YtpihhlbfpbngaaaGreatDoor
namespace Go.Proofs.YtpihhlbfpbngaaaGreatDoor
open Go.RowKit Go.Maps
def IsTwo (ws ws2 : List (Nat × Nat)) (p : List Ins) : Prop := ∃ p1 p2, IsStores ws p1 ∧ IsStores ws2 p2 ∧ p = p1 ++ p2
theorem isTwo_len {ws ws2 : List (Nat × Nat)} {p : List Ins} (h : IsTwo ws ws2 p) : p.length ≤ 2 * ws.length + 2 * ws2.length + 2 := by
  obtain ⟨p1, p2, h1, h2, rfl⟩ := h
  have := isStores_len h1
  have := isStores_len h2
  simp
  omega
set_option maxRecDepth 100000 in
set_option maxHeartbeats 1000000 in
theorem finish_any (a : DA) (s k g : Nat) (A : Option Addr) (n c : Nat) (ws : List (Nat × Nat)) (w : World) (h : Reads w w.heap.size 2 A n (wrCells ws)) (h0 : 0 < n) (hn : n ≤ 100) (hv : ∀ e ∈ ws, e.1 < 18446744073709551616) (hB : Blk w g 247 (logCells a s k)) (hs : 64 * s < 18446744073709551616) :
    Calls Tryz.prog 166 #[.pointer (some ⟨g, 0, none⟩), .slice A n c] w (RetProg w (IsTwo ws [(64 * s, 0)])) := by
  have HSt := Lib.hid (stores_small A n c ws w h h0 (by omega) hv)
  have HLN := Lib.hid (show ws.length = n by have := h.1; rw [wrCells_len] at this; omega)
  have HBB := Lib.hid hB
  have HMk : Hid (∀ W, Below w.heap.size w W → Calls Tryz.prog 133 #[.pointer (some ⟨g, 0, none⟩), .int .u64 0] W (RetProg W (IsStores [(64 * s, 0)]))) := Lib.hid (fun W hW => mark_any a s k g 0 W (hB.below hW hB.lt) hs)
  clear h hv hB
  go_enter Tryz.func166, Tryz.ntmps166
  go_wp2_with fail
  refine HSt.out.mono ?_
  rintro e1 w4 ⟨B1, n1, d1, p1, rfl, hp1, ho1, hb1⟩
  have HP1 := Lib.hid hp1
  have HO1 := Lib.hid ho1
  have HB4 := Lib.hid hb1
  have HSS := Lib.hid (HMk.out w4 hb1)
  clear hp1 ho1 hb1 HSt
  go_wp2_with fail
  refine HSS.out.mono ?_
  rintro e1 w5 ⟨B2, n2, d2', p2, rfl, hp2, ho2, hb2⟩
  have HP2 := Lib.hid hp2
  have HB5 := Lib.hid (HB4.out.trans (hb2.mono HB4.out.size))
  have hl1 : n1 ≤ 400 := by
    have h1 := HO1.out.1
    have h2 := isStores_len HP1.out
    rw [insCells_len] at h1
    have := HLN.out
    omega
  have hl2 : n2 ≤ 400 := by
    have h1 := ho2.1
    have h2 := isStores_len HP2.out
    rw [insCells_len] at h1
    simp at h2
    omega
  have HTh := Lib.hid (then_any B1 B2 n1 d1 n2 d2' p1 p2 w5 (Reads.of_own (own_below HO1.out hb2)) (Reads.of_own ho2) hl1 hl2)
  clear hp2 ho2 hb2 HSS HO1
  go_wp2_with fail
  refine HTh.out.mono ?_
  rintro e1 w6 ⟨B3, n3, d3, rfl, hn3, ho3, hb3⟩
  have HO3 := Lib.hid ho3
  have HB6 := Lib.hid (HB5.out.trans (hb3.mono HB5.out.size))
  clear hn3 ho3 hb3 HTh
  go_wp2
  go_ret
  exact ⟨_, _, _, _, rfl, ⟨p1, p2, HP1.out, HP2.out, rfl⟩, own_le HO3.out HB5.out.size, HB6.out⟩
end Go.Proofs.YtpihhlbfpbngaaaGreatDoor
namespace Go.Proofs.YtpihhlbfpbngaaaGreatDoor
open Go.RowKit
theorem offB_inj {c i j : Nat} (h : offB c i = offB c j) : i = j := by
  rcases Nat.lt_trichotomy i j with h1 | h1 | h1
  · have := off_inj (c := c) h1; omega
  · exact h1
  · have := off_inj (c := c) h1; omega
theorem offB_ge (c i : Nat) : 8 ≤ offB c i := by unfold offB; omega
def fmtB (ln cl g k : Nat) : List (Nat × Nat) := (List.range k).map fun i => (64 * ln + 8 * offB cl i, BK.w ⟨g, 0, 176⟩)
def fmtZ (ln k : Nat) : List (Nat × Nat) := (List.range k).map fun j => (64 * ln + 8 * (j + 1), 0)
def fmtW (ln cl g : Nat) : List (Nat × Nat) := fmtB ln cl g (perC cl) ++ fmtZ ln 7
theorem fmtB_succ (ln cl g k : Nat) : fmtB ln cl g (k + 1) = fmtB ln cl g k ++ [(64 * ln + 8 * offB cl k, BK.w ⟨g, 0, 176⟩)] := by simp [fmtB, List.range_succ]
theorem fmtZ_succ (ln k : Nat) : fmtZ ln (k + 1) = fmtZ ln k ++ [(64 * ln + 8 * (k + 1), 0)] := by simp [fmtZ, List.range_succ]
theorem fmtB_mem {ln cl g k : Nat} {e : Nat × Nat} (h : e ∈ fmtB ln cl g k) : ∃ i, i < k ∧ e = (64 * ln + 8 * offB cl i, BK.w ⟨g, 0, 176⟩) := by
  unfold fmtB at h
  obtain ⟨i, hi, rfl⟩ := List.mem_map.1 h
  exact ⟨i, List.mem_range.1 hi, rfl⟩
theorem fmtZ_mem {ln k : Nat} {e : Nat × Nat} (h : e ∈ fmtZ ln k) : ∃ j, j < k ∧ e = (64 * ln + 8 * (j + 1), 0) := by
  unfold fmtZ at h
  obtain ⟨i, hi, rfl⟩ := List.mem_map.1 h
  exact ⟨i, List.mem_range.1 hi, rfl⟩
theorem sealW_lt2 {x : Nat} (hx : x < 4294967296) : sealW x < 18446744073709551616 := by
  have h := Crc.sum_lt (sealB_lt x)
  unfold sealW
  omega
theorem BK.w_lt {b : BK} (h : b.In) : b.w < 18446744073709551616 := sealW_lt2 h.x
theorem hdrW_lt {cl g : Nat} (hc : cl < 5) (hg : g < 65536) : hdrW cl g < 18446744073709551616 := sealW_lt2 (by unfold hdX; omega)
theorem fmtW_len (ln cl g : Nat) : (fmtW ln cl g).length = perC cl + 7 := by simp [fmtW, fmtB, fmtZ]
theorem fmtW_mem {ln cl g : Nat} (hc : cl < 5) (hg : g < 65536) {e : Nat × Nat} (h : e ∈ fmtW ln cl g) : e.1 % 8 = 0 ∧ 64 * ln < e.1 ∧ e.1 < 64 * ln + 2048 ∧ e.2 < 18446744073709551616 := by
  unfold fmtW at h
  rcases List.mem_append.1 h with h | h
  · obtain ⟨i, hi, rfl⟩ := fmtB_mem h
    have h1 := off_lt hi
    have h2 := offB_ge cl i
    have h3 := pay_le cl
    exact ⟨by omega, by omega, by omega, BK.w_lt ⟨hg, by show (0 : Nat) < 256; omega, by show (176 : Nat) < 256; omega⟩⟩
  · obtain ⟨j, hj, rfl⟩ := fmtZ_mem h
    exact ⟨by omega, by omega, by omega, by omega⟩
theorem nodup_map_range {f : Nat → Nat} : ∀ {k : Nat}, (∀ i j, i < k → j < k → f i = f j → i = j) → ((List.range k).map f).Nodup
  | 0, _ => by simp
  | k + 1, h => by
    rw [List.range_succ, List.map_append, List.nodup_append]
    refine ⟨nodup_map_range (fun i j hi hj => h i j (by omega) (by omega)), by simp, ?_⟩
    intro x hx y hy e
    obtain ⟨i, hi, rfl⟩ := List.mem_map.1 hx
    simp at hy
    have hi' := List.mem_range.1 hi
    have := h i k (by omega) (by omega) (e.trans hy)
    omega
theorem fmtW_nodup (ln cl g : Nat) : ((fmtW ln cl g).map (·.1)).Nodup := by
  unfold fmtW fmtB fmtZ
  rw [List.map_append, List.map_map, List.map_map, List.nodup_append]
  refine ⟨nodup_map_range (fun i j _ _ h => ?_), nodup_map_range (fun i j _ _ h => ?_), ?_⟩
  · simp at h; exact offB_inj (c := cl) (by omega)
  · simp at h; omega
  · intro x hx y hy e
    obtain ⟨i, hi, rfl⟩ := List.mem_map.1 hx
    obtain ⟨j, hj, rfl⟩ := List.mem_map.1 hy
    have := List.mem_range.1 hj
    have := offB_ge cl i
    simp at e
    omega
def fmtR (cur : Nat → Nat) (ln cl g : Nat) : Nat → Nat := wrS (wrS cur (fmtW ln cl g)) [(64 * ln, hdrW cl g)]
theorem fmtR_out {cur : Nat → Nat} {ln cl g i : Nat} (hc : cl < 5) (hg : g < 65536) (h : i < 8 * ln ∨ 8 * ln + 256 ≤ i) : fmtR cur ln cl g i = cur i := by
  unfold fmtR
  rw [wrS_other, wrS_other]
  · intro e he
    have := fmtW_mem hc hg he
    omega
  · intro e he
    simp at he
    subst he
    show 64 * ln / 8 ≠ i
    omega
theorem fmtR_bnd {cur : Nat → Nat} {ln cl g : Nat} (hc : cl < 5) (hg : g < 65536) (hb : ∀ i, cur i < 18446744073709551616) (i : Nat) : fmtR cur ln cl g i < 18446744073709551616 := by
  unfold fmtR
  refine wrS_bnd _ _ (wrS_bnd _ _ hb (fun e he => (fmtW_mem hc hg he).2.2.2)) (fun e he => ?_) i
  simp at he
  subst he
  exact hdrW_lt hc hg
theorem bitAt_zero (i : Nat) : bitAt 0 i = false := by simp [bitAt]
theorem fmtR_ok {cur : Nat → Nat} {ln cl g : Nat} (hc : cl < 5) (h0 : 0 < g) (hg : g < 65536) : ChW (fmtR cur ln cl g) ln cl g 0 (fun _ => ⟨g, 0, 176⟩) := by
  have hw : ∀ e ∈ fmtW ln cl g, fmtR cur ln cl g (e.1 / 8) = e.2 := fun e he => by
    unfold fmtR
    have hm := fmtW_mem hc hg he
    rw [wrS_other _ _ _ (fun x hx => by simp at hx; subst hx; show 64 * ln / 8 ≠ e.1 / 8; omega)]
    exact wrS_get _ _ (fmtW_nodup ln cl g) (fun x hx => (fmtW_mem hc hg hx).1) e he
  have hz : ∀ j, j < 7 → fmtR cur ln cl g (8 * ln + (j + 1)) = 0 := fun j hj => by
    have h := hw (64 * ln + 8 * (j + 1), 0) (by unfold fmtW; exact List.mem_append.2 (.inr (List.mem_map.2 ⟨j, List.mem_range.2 hj, rfl⟩)))
    have e : (64 * ln + 8 * (j + 1)) / 8 = 8 * ln + (j + 1) := by omega
    rw [← e]; exact h
  refine ⟨?_, hc, h0, hg, ?_, by omega, ?_, ?_, ?_, ?_, ?_⟩
  · have e : 8 * ln = 64 * ln / 8 := by omega
    rw [e]
    unfold fmtR
    show upd _ (64 * ln / 8) (hdrW cl g) (64 * ln / 8) = _
    simp [upd]
  · exact hz 0 (by omega)
  · intro j h2 h8
    have h := hz (j - 1) (by omega)
    rw [show j - 1 + 1 = j by omega] at h
    exact h
  · intro i hi; exact ⟨hg, by show (0 : Nat) < 256; omega, by show (176 : Nat) < 256; omega⟩
  · intro i hi
    have : (g != 0) = true := by simp; omega
    simp [BK.good, this]
  · intro i hi
    have h := hw (64 * ln + 8 * offB cl i, BK.w ⟨g, 0, 176⟩) (by unfold fmtW; exact List.mem_append.2 (.inl (List.mem_map.2 ⟨i, List.mem_range.2 hi, rfl⟩)))
    have e : (64 * ln + 8 * offB cl i) / 8 = 8 * ln + offB cl i := by omega
    rw [← e]; exact h
  · intro i hi; rw [bitAt_zero]; rfl
def hdrAt (ln cl i : Nat) : Prop := (8 * ln ≤ i ∧ i < 8 * ln + 8) ∨ ∃ j, j < perC cl ∧ i = 8 * ln + offB cl j
theorem ChW.same {cur cur' : Nat → Nat} {ln cl g V : Nat} {bs : Nat → BK} (h : ChW cur ln cl g V bs) (he : ∀ i, hdrAt ln cl i → cur' i = cur i) : ChW cur' ln cl g V bs :=
  { h with
    hdr := (he _ (.inl ⟨by omega, by omega⟩)).trans h.hdr
    bits := (he _ (.inl ⟨by omega, by omega⟩)).trans h.bits
    zero := fun j h2 h8 => (he _ (.inl ⟨by omega, by omega⟩)).trans (h.zero j h2 h8)
    word := fun i hi => (he _ (.inr ⟨i, hi, rfl⟩)).trans (h.word i hi) }
theorem hdrAt_in {ln cl i : Nat} (h : hdrAt ln cl i) : 8 * ln ≤ i ∧ i < 8 * ln + 256 := by
  rcases h with h | ⟨j, hj, rfl⟩
  · omega
  · have := off_lt hj; omega
theorem hdrAt_pay {ln cl i j : Nat} (hi : i < perC cl) (hj : j < payW cl) : ¬ hdrAt ln cl (8 * ln + offB cl i + 1 + j) := by
  intro h
  have h8 := offB_ge cl i
  rcases h with h | ⟨k, hk, h⟩
  · omega
  · rcases Nat.lt_trichotomy i k with h1 | h1 | h1
    · have := off_inj (c := cl) h1; omega
    · subst h1; omega
    · have := off_inj (c := cl) h1; omega
theorem CSok.same {cur cur' : Nat → Nat} {ln : Nat} {c : CS} (h : CSok cur ln c) (he : ∀ i, 8 * ln ≤ i → i < 8 * ln + 256 → (c.dv = true → hdrAt ln c.cl i) → cur' i = cur i) : CSok cur' ln c := by
  unfold CSok at *
  cases hd : c.dv
  · rw [hd] at h
    obtain ⟨h1, h2, h3⟩ := h
    exact ⟨(he _ (by omega) (by omega) (fun h => by rw [hd] at h; cases h)).trans h1, h2, h3⟩
  · rw [hd] at h
    exact ChW.same h (fun i hi => he i (hdrAt_in hi).1 (hdrAt_in hi).2 (fun _ => hi))
def newC (cl g : Nat) : CS := ⟨true, cl, g, 0, fun _ => ⟨g, 0, 176⟩⟩
theorem newC_ok {cur : Nat → Nat} {ln cl g : Nat} (hc : cl < 5) (h0 : 0 < g) (hg : g < 65536) : CSok (fmtR cur ln cl g) ln (newC cl g) := fmtR_ok hc h0 hg
end Go.Proofs.YtpihhlbfpbngaaaGreatDoor
namespace Go.Proofs.YtpihhlbfpbngaaaGreatDoor
open Go.RowKit Go.Maps
def FreeP (st : Nat → Nat) (n j : Nat) (z : Int) : Prop := (z = -1 ∧ ∀ i, j ≤ i → i < n → st i ≠ 176) ∨ ∃ i : Nat, z = (i : Int) ∧ j ≤ i ∧ i < n ∧ st i = 176 ∧ ∀ i', j ≤ i' → i' < i → st i' ≠ 176
theorem freeFrom_spec (V : Nat) : ∀ (n j : Nat), (freeFrom V n j = none ∧ ∀ i, j ≤ i → i < j + n → bitAt V i = true) ∨ ∃ i, freeFrom V n j = some i ∧ j ≤ i ∧ i < j + n ∧ bitAt V i = false ∧ ∀ i', j ≤ i' → i' < i → bitAt V i' = true
  | 0, j => .inl ⟨rfl, fun i h1 h2 => by omega⟩
  | n + 1, j => by
    cases hb : bitAt V j
    · exact .inr ⟨j, by simp [freeFrom, hb], Nat.le_refl _, by omega, hb, fun i' h1 h2 => by omega⟩
    · rcases freeFrom_spec V n (j + 1) with ⟨h1, h2⟩ | ⟨i, h1, h2, h3, h4, h5⟩
      · refine .inl ⟨by simp [freeFrom, hb, h1], fun i h3 h4 => ?_⟩
        by_cases e : i = j
        · rw [e]; exact hb
        · exact h2 i (by omega) (by omega)
      · refine .inr ⟨i, by simp [freeFrom, hb, h1], by omega, by omega, h4, fun i' h6 h7 => ?_⟩
        by_cases e : i' = j
        · rw [e]; exact hb
        · exact h5 i' (by omega) h7
theorem freeR_spec {cur : Nat → Nat} {ln cl g V : Nat} {bs : Nat → BK} (h : ChW cur ln cl g V bs) (j : Nat) : ∃ z : Int, freeR V cl j = .int .i64 z ∧ FreeP (fun i => (bs i).st) (perC cl) j z := by
  have hb : ∀ i, i < perC cl → bitAt V i = true → (bs i).st ≠ 176 := fun i hi hh => by
    have := h.bit i hi
    rw [hh] at this
    simpa using this.symm
  unfold freeR
  rcases freeFrom_spec V (perC cl - j) j with ⟨h1, h2⟩ | ⟨i, h1, h2, h3, h4, h5⟩
  · rw [h1]
    exact ⟨-1, rfl, .inl ⟨rfl, fun i hi hn => hb i hn (h2 i hi (by omega))⟩⟩
  · rw [h1]
    refine ⟨i, rfl, .inr ⟨i, rfl, h2, by omega, ?_, fun i' k1 k2 => hb i' (by omega) (h5 i' k1 k2)⟩⟩
    have := h.bit i (by omega)
    rw [h4] at this
    simpa using this.symm
section
variable {a : DA} {L T s n K : Nat} {x : HA} {cs : Nat → CS} {f : Nat → Option Nat} {N m b0 : Nat} {S : Fp} {cur : Nat → Nat} {w w' : World}
theorem DS.chw (h : DS a L T s n K x cs f N m b0 S cur w) {k : Nat} (hk : k < K) (hd : (cs k).dv = true) : ChW cur (s + 32 * k) (cs k).cl (cs k).g (cs k).V (cs k).bs := by
  have := h.ok k hk
  unfold CSok at this
  rw [hd] at this
  exact this
def fptr (s : Nat) (cs : Nat → CS) (kind k i : Nat) : Nat := pMk (blkO (s + 32 * k) (cs k).cl i) ((cs k).bs i).gen kind
def offO (s : Nat) (cs : Nat → CS) (k i : Nat) : Nat := blkO (s + 32 * k) (cs k).cl i
def WithP (s : Nat) (cs : Nat → CS) (f : Nat → Option Nat) (kind k : Nat) (v : Value) : Prop :=
  (v = .tuple #[.int .u64 0, .int .i64 5] ∧ ∀ i, i < perC (cs k).cl → ((cs k).bs i).st = 176 → f (offO s cs k i) ≠ none) ∨
  ∃ i, i < perC (cs k).cl ∧ ((cs k).bs i).st = 176 ∧ f (offO s cs k i) = none ∧ v = .tuple #[.int .u64 (fptr s cs kind k i : Int), .int .i64 0]
def witM (n : Nat) : Value → Nat
  | .int _ (.ofNat i) => n - i
  | _ => 0
set_option maxRecDepth 100000 in
set_option maxHeartbeats 2000000 in
theorem within_any (h : DS a L T s n K x cs f N m b0 S cur w) {k : Nat} (hk : k < K) (hd : (cs k).dv = true) (kind : Nat) (hk0 : 0 < kind) (hk8 : kind < 128) :
    Calls Tryz.prog 160 #[.pointer (some ⟨x.h, 0, none⟩), .int .i64 ((s + 32 * k : Nat) : Int), .int .u8 (kind : Int)] w fun e w' => ∃ v, e = .returned v ∧ WithP s cs f kind k v ∧ Below w.heap.size w w' := by
  have hC := h.chw hk hd
  have hL := h.hL
  have hln := h.line hk
  have HD := Lib.hid h
  have hper := per_le (cs k).cl
  have HOp : Hid (∀ W, Below w.heap.size w W → Calls Tryz.prog 171 #[memV a, .int .i64 ((s + 32 * k : Nat) : Int)] W fun e w' => e = .returned (.tuple #[chV a (s + 32 * k) (cs k).cl 0 (cs k).g, .int .i64 0]) ∧ Below W.heap.size W w') := Lib.hid (fun W hW => chOpen_cls (h.dev.below hW) (h.tab.below hW) (h.pay.below hW) _ _ _ hln hC.cls hC.g0 hC.g1 hC.hdr)
  have HFr : Hid (∀ j W, Below w.heap.size w W → Calls Tryz.prog 245 #[chV a (s + 32 * k) (cs k).cl 0 (cs k).g, .int .i64 ((j : Nat) : Int)] W fun e w' => ∃ z : Int, e = .returned (.int .i64 z) ∧ FreeP (fun i => ((cs k).bs i).st) (perC (cs k).cl) j z ∧ Below W.heap.size W w') := Lib.hid (fun j W hW => by
    obtain ⟨z, h1, h2⟩ := freeR_spec hC j
    refine (free_any (h.dev.below hW) (h.pay.below hW) _ _ _ _ j hln hC.cls hC.v64 hC.bits).mono ?_
    rintro e w' ⟨rfl, hb⟩
    exact ⟨z, by rw [h1], h2, hb⟩)
  have HPt : Hid (∀ i, i < perC (cs k).cl → ((cs k).bs i).st = 176 → ∀ W, Below w.heap.size w W → Calls Tryz.prog 204 #[chV a (s + 32 * k) (cs k).cl 0 (cs k).g, .int .i64 (i : Int), .int .u8 (kind : Int)] W fun e w' => e = .returned (.tuple #[.int .u64 (fptr s cs kind k i : Int), .int .i64 0]) ∧ Below W.heap.size W w') := Lib.hid (fun i hi hs W hW => by
    have hki : kindOf ((cs k).bs i) kind = kind := by unfold kindOf; rw [if_neg (by omega)]
    have hg := hC.good i hi
    have hg0 : 0 < ((cs k).bs i).gen := by unfold BK.good at hg; rw [if_pos hs] at hg; simp at hg; omega
    have hp := pointer_any (h.dev.below hW) (h.tab.below hW) (h.pay.below hW) (s + 32 * k) (cs k).cl (cs k).g (cs k).V i ((cs k).bs i) (hC.inn i hi) hg (.inl hs) (hC.bit i hi) hln hC.cls hi hC.v64 hC.bits (hC.word i hi) kind (by rw [hki]; exact hk0) (by rw [hki]; exact hk8) (by omega) hg0
    rw [hki] at hp
    exact hp)
  have HOf : Hid (∀ i, i < perC (cs k).cl → ∀ W, Calls Tryz.prog 68 #[.int .u64 (fptr s cs kind k i : Int)] W fun e w' => e = .returned (.int .u64 (offO s cs k i : Int)) ∧ W = w') := Lib.hid (fun i hi W => by
    have ho := off_lt hi
    have h1 : pOff (fptr s cs kind k i) = offO s cs k i := pMk_off (by unfold blkO; omega) (by unfold blkO; omega)
    have h2 := off_any (fptr s cs kind k i) W
    rw [h1] at h2
    exact h2)
  have HOl : Hid (∀ i, i < perC (cs k).cl → offO s cs k i < 18446744073709551616) := Lib.hid (fun i hi => by have := off_lt hi; unfold offO blkO; omega)
  have HEr : Hid (∀ W, Below w.heap.size w W → Calls Tryz.prog 76 #[.pointer (some ⟨a.th 0, 0, none⟩)] W fun e w' => e = .returned (.int .i64 0) ∧ W = w') := Lib.hid (fun W hW => thErr (h.dev.below hW))
  have hm := methErr (some ⟨a.th 0, 0, none⟩)
  have HB0 : Hid (Below w.heap.size w w) := Below.refl _ _
  clear h hC hL hln hd
  have HWn : Hid (∀ v, WithP s cs f kind k v = WithP s cs f kind k v) := Lib.hid (fun v => rfl)
  have hx0 : w.cell? ⟨x.h, 0, none⟩ = some (memV a) := HD.out.hs.heap.cell 0
  generalize hln : s + 32 * k = ln at *
  generalize hcl : (cs k).cl = cl at *
  generalize hcg : (cs k).g = cg at *
  have HE := Lib.hid (show s + 32 * k = ln ∧ (cs k).cl = cl ∧ (cs k).g = cg from ⟨hln, hcl, hcg⟩)
  clear hln hcl hcg
  unfold chV at *
  unfold memV at *
  go_enter Tryz.func160, Tryz.ntmps160
  go_wp2_with fail
  refine (HOp.out _ HB0.out).mono ?_
  rintro e w1 ⟨rfl, hb1⟩
  have HB1 := Lib.hid (hb1.alloc hb1.size (.cells #[.iface 35 (.pointer (some ⟨a.th 0, 0, none⟩)), .int .i64 (ln : Int), .int .i64 (cl : Int), .int .i64 0, .int .u16 (cg : Int)] 262))
  have HK1 := Lib.hid (Blk.new w1 262 #[.iface 35 (.pointer (some ⟨a.th 0, 0, none⟩)), .int .i64 (ln : Int), .int .i64 (cl : Int), .int .i64 0, .int .u16 (cg : Int)])
  have HLc := Lib.hid hb1.size
  clear hb1 HOp HB0
  go_wp2_with fail
  refine (HFr.out 0 _ HB1.out).mono ?_
  rintro e w2 ⟨z0, rfl, hz0, hb2⟩
  have HB2 := Lib.hid (HB1.out.trans (hb2.mono HB1.out.size))
  have HK2 := Lib.hid (HK1.out.below hb2 HK1.out.lt)
  have HZ0 := Lib.hid hz0
  have HI2 : Hid (Below w2.heap.size w2 w2) := Below.refl _ _
  clear hb2 hz0 HB1 HK1 hx0
  go_wp2
  go_loopw [10] (fun v wr => ∃ (j : Nat) (z : Int), v = .int .i64 z ∧ Hid (FreeP (fun i => ((cs k).bs i).st) (perC cl) j z) ∧ Hid (∀ i, i < j → i < perC cl → ((cs k).bs i).st = 176 → f (offO s cs k i) ≠ none) ∧ Hid (Below w2.heap.size w2 wr)) (fun v _ => witM (perC cl) v)
  case atStart => exact ⟨0, z0, rfl, HZ0, Lib.hid (fun i hi => by omega), HI2⟩
  case round =>
    clear HZ0 HI2
    obtain ⟨j, z, rfl, HZ, HA, H⟩ := hrel
    have HBr := Lib.hid (HB2.out.trans (H.out.mono HB2.out.size))
    have HKr := Lib.hid (HK2.out.below H.out HK2.out.lt)
    have hc0 : wr.cell? ⟨w1.heap.size, 0, none⟩ = some (.iface 35 (.pointer (some ⟨a.th 0, 0, none⟩))) := HKr.out.cell 0
    have hc1 : wr.cell? ⟨w1.heap.size, 1, none⟩ = some (.int .i64 (ln : Int)) := HKr.out.cell 1
    have hc2 : wr.cell? ⟨w1.heap.size, 2, none⟩ = some (.int .i64 (cl : Int)) := HKr.out.cell 2
    have hc3 : wr.cell? ⟨w1.heap.size, 3, none⟩ = some (.int .i64 0) := HKr.out.cell 3
    have hc4 : wr.cell? ⟨w1.heap.size, 4, none⟩ = some (.int .u16 (cg : Int)) := HKr.out.cell 4
    have hx0 : wr.cell? ⟨x.h, 0, none⟩ = some (.iface 35 (.pointer (some ⟨a.th 0, 0, none⟩))) := ((HD.out.hs.heap.below HBr.out HD.out.hs.heap.lt).cell 0)
    rcases HZ.out with ⟨rfl, hno⟩ | ⟨i, rfl, hji, hi, hst, hmin⟩
    · have HNo : Hid (∀ i, i < perC cl → ((cs k).bs i).st = 176 → f (offO s cs k i) ≠ none) := Lib.hid (fun i hi hs => by
        by_cases hij : i < j
        · exact HA.out i hij hi hs
        · exact absurd hs (hno i (by omega) hi))
      have HEr2 := Lib.hid (HEr.out wr HBr.out)
      clear hno HA HZ HFr HPt hc0 hc1 hc2 hc3 hc4
      go_wp2_with (go_at_call 76; refine HEr2.out.mono ?_; rintro e w3 ⟨rfl, rfl⟩)
      go_ret2
      refine ⟨_, rfl, .inl ⟨rfl, ?_⟩, HBr.out⟩
      obtain ⟨_, h2, _⟩ := HE.out
      rw [h2]
      exact HNo.out
    · have HP2 := Lib.hid (HPt.out i hi hst wr HBr.out)
      have HO2 := Lib.hid (HOf.out i hi)
      have HI := Lib.hid (show i < perC cl ∧ ((cs k).bs i).st = 176 ∧ offO s cs k i < 18446744073709551616 from ⟨hi, hst, HOl.out i hi⟩)
      have hz5 : decide ((0 : Int) ≤ (i : Int)) = true := decide_eq_true (by omega)
      have hz6 : (0 : Int) ≤ (i : Int) := by omega
      have hz7 : (i : Int) ≤ 62 := by omega
      have HM := Lib.hid (show j ≤ i ∧ ∀ i', j ≤ i' → i' < i → ((cs k).bs i').st ≠ 176 from ⟨hji, hmin⟩)
      clear hi hst hji hmin HZ
      generalize hfp : fptr s cs kind k i = fp at *
      have HFP := Lib.hid hfp
      clear hfp
      go_wp2_with fail
      refine HP2.out.mono ?_
      rintro e w3 ⟨rfl, hb3⟩
      have HB3 := Lib.hid (HBr.out.trans (hb3.mono HBr.out.size))
      have HB23 := Lib.hid (H.out.trans (hb3.mono H.out.size))
      have HK3 := Lib.hid (HKr.out.below hb3 HKr.out.lt)
      have HEr3 := Lib.hid (HEr.out w3 HB3.out)
      have hx0 : w3.cell? ⟨x.h, 0, none⟩ = some (.iface 35 (.pointer (some ⟨a.th 0, 0, none⟩))) := ((HD.out.hs.heap.below HB3.out HD.out.hs.heap.lt).cell 0)
      clear hb3 hc0 hc1 hc2 hc3 hc4 HP2 HPt
      have hx4 : w3.cell? ⟨x.h, 4, none⟩ = some (.map (some x.mr)) := ((HD.out.hs.heap.below HB3.out HD.out.hs.heap.lt).cell 4)
      have hlk := (HD.out.hs.res.chg ((Chg.of_below (S := Fp.no) HB3.out).drew) (fun h => h)).look HI.out.2.2
      generalize hof : offO s cs k i = o at *
      have HOE := Lib.hid hof
      clear hof
      go_wp2_with (go_at_call 76; refine HEr3.out.mono ?_; rintro e w4 ⟨rfl, rfl⟩)
      cases hf : f o with
      | none =>
        rw [hf] at hlk
        have hlk2 : (Instr.lookup 147 (.map (some x.mr)) (.int .u64 (o : Int)) true).run Tryz.prog w3.drew = .ok (.tuple #[.int .u64 0, .bool false]) w3.drew := hlk
        have HF := Lib.hid hf
        clear hlk hf
        go_region_with (go_at_call 68; refine (HO2.out _).mono ?_; rintro e w4 ⟨rfl, rfl⟩)
        all_goals
          go_wp2
          go_ret2
          refine ⟨_, rfl, .inr ⟨i, ?_, HI.out.2.1, by rw [HOE.out]; exact HF.out, by rw [HFP.out]; rfl⟩, HB3.out.drew⟩
          obtain ⟨_, h2, _⟩ := HE.out
          rw [h2]
          exact HI.out.1
      | some q =>
        rw [hf] at hlk
        have hlk2 : (Instr.lookup 147 (.map (some x.mr)) (.int .u64 (o : Int)) true).run Tryz.prog w3.drew = .ok (.tuple #[.int .u64 (q : Int), .bool true]) w3.drew := hlk
        have HA2 : Hid (∀ i', i' < i + 1 → i' < perC cl → ((cs k).bs i').st = 176 → f (offO s cs k i') ≠ none) := Lib.hid (fun i' h1 h2 h3 => by
          by_cases e1 : i' < j
          · exact HA.out i' e1 h2 h3
          · by_cases e2 : i' = i
            · subst e2
              rw [HOE.out, hf]
              intro h; cases h
            · exact absurd h3 (HM.out.2 i' (by omega) (by omega)))
        have hc0 : w3.cell? ⟨w1.heap.size, 0, none⟩ = some (.iface 35 (.pointer (some ⟨a.th 0, 0, none⟩))) := HK3.out.cell 0
        have hc1 : w3.cell? ⟨w1.heap.size, 1, none⟩ = some (.int .i64 (ln : Int)) := HK3.out.cell 1
        have hc2 : w3.cell? ⟨w1.heap.size, 2, none⟩ = some (.int .i64 (cl : Int)) := HK3.out.cell 2
        have hc3 : w3.cell? ⟨w1.heap.size, 3, none⟩ = some (.int .i64 0) := HK3.out.cell 3
        have hc4 : w3.cell? ⟨w1.heap.size, 4, none⟩ = some (.int .u16 (cg : Int)) := HK3.out.cell 4
        have HB3d := Lib.hid HB3.out.drew
        have HFn := Lib.hid (HFr.out (i + 1) w3.drew HB3d.out)
        have ei : ((i + 1 : Nat) : Int) = (i : Int) + 1 := by omega
        rw [ei] at HFn
        clear hlk hf HA HM ei
        go_region_with (go_at_call 68; refine (HO2.out _).mono ?_; rintro e w4 ⟨rfl, rfl⟩)
        all_goals
          go_wp2_with (go_at_call 245; refine HFn.out.mono ?_; rintro e w5 ⟨z5, rfl, hz5, hb5⟩; have HZ5 := Lib.hid hz5; have HB5 := Lib.hid (HB23.out.drew.trans (hb5.mono HB23.out.size)); clear hz5 hb5)
          have HMe : Hid (witM (perC cl) (.int .i64 z5) < witM (perC cl) (.int .i64 (i : Int))) := Lib.hid (by
            have hi := HI.out.1
            rcases HZ5.out with ⟨rfl, _⟩ | ⟨i2, rfl, h1, h2, _⟩
            · show 0 < perC cl - i; omega
            · show perC cl - i2 < perC cl - i; omega)
          go_roundw
          case rel =>
            first
              | exact ⟨i + 1, z5, rfl, HZ5, HA2, HB5⟩
              | (repeat apply Exists.intro
                 refine ⟨?_, rfl⟩
                 exact ⟨i + 1, z5, rfl, HZ5, HA2, HB5⟩)
          case measure => exact HMe.out
end
end Go.Proofs.YtpihhlbfpbngaaaGreatDoor
