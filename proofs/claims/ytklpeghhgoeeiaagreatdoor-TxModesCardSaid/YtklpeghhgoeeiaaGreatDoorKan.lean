/- The walks and laws that the claim leans on, part 14: each part says ahead of its lines what it holds. -/
import Derived.Test.YtklpeghhgoeeiaaGreatDoorKam
import Derived.Lib.BufferMore
/- undo: PlanCommit, Commit over a log with entries. -/
namespace Go.Proofs.YtklpeghhgoeeiaaGreatDoor
open Go.RowKit Go.Maps
theorem reads_drop {w : World} {B n b off : Nat} {p : List Ins} (h : Reads w B 3 (some ⟨b, off, none⟩) n (insCells p)) (k : Nat) (hk : k < n) : Reads w B 3 (some ⟨b, off + k * 3, none⟩) (n - k) (insCells (p.drop k)) := by
  have hl : p.length = n := by have := h.1; rw [insCells_len] at this; omega
  obtain ⟨b', off', hA, hb, hc⟩ := h.plain (by omega) (by omega)
  cases hA
  refine ⟨by rw [insCells_len]; simp; omega, fun _ => ⟨_, rfl, hb, fun j u hu => ?_⟩⟩
  have e1 : insCells p = insCells (p.take k) ++ insCells (p.drop k) := by rw [← insCells_app, List.take_append_drop]
  have e2 : (insCells (p.take k)).length = k * 3 := by rw [insCells_len]; simp; omega
  have h1 := hc (k * 3 + j) u (by rw [e1, List.getElem?_append_right (by omega), e2, show k * 3 + j - k * 3 = j by omega]; exact hu)
  rw [Go.WideShapes.add_plain]
  rw [← Nat.add_assoc] at h1
  exact h1
/-- The flushes and the fence of a program of stores, then a program of stores. -/
def IsFl (ws ws2 : List (Nat × Nat)) (p : List Ins) : Prop := ∃ (fs : List Nat) (p2 : List Ins), p = fs.map Ins.fl ++ [Ins.fe] ++ p2 ∧ fs.length ≤ ws.length ∧ (∀ o ∈ fs, ∃ e ∈ ws, o = lineOf e.1) ∧ IsStores ws2 p2
set_option maxRecDepth 100000 in
set_option maxHeartbeats 4000000 in
theorem planCommit_any {a : DA} {L T : Nat} {w : World} {S : Fp} {cur : Nat → Nat} (h : Dev a L T w S cur 0) (g s n : Nat) (hB : Blk w g 186 (ulogCells a s n)) (hs : s + n ≤ L) (hn : 26 ≤ n) (ws : List (Nat × Nat)) (hl : LogU cur s ws) (hw : EntOk L s n ws) :
    Calls Tryz.prog 120 #[.pointer (some ⟨g, 0, none⟩)] w (RetPlan w (IsFl ws [(64 * s, 0)])) := by
  have hL : L ≤ 4096 := by obtain ⟨ls, exe, per, cs, lsC, hdc, hnt⟩ := h; exact hdc.hL
  have hfew := hw.few
  have hlen : 0 < ws.length := List.length_pos_iff.2 hw.some_
  have HLo := Lib.hid (loadU_any h g s n hB hs (by omega) ws hl (by omega) hw.off)
  have HSc : Hid (∀ W, Below w.heap.size w W → Calls Tryz.prog 178 #[.pointer (some ⟨g, 0, none⟩), .int .i64 0] W (RetProg W (IsStores [(64 * s, 0)]))) := fun W hW =>
    setCount_any a s n g 0 W (hB.below hW hB.lt) (by omega) (by omega)
  have HW1 : Hid (∀ e ∈ ws, e.1 < 18446744073709551616) := fun e he => by have := (hw.off e he).lt; omega
  have HNe : Hid (ws.isEmpty = false) := Lib.hid (by simp [hw.some_])
  clear h hB hl hs hn hw
  go_enter Tryz.func120, Tryz.ntmps120
  go_wp2_with fail
  refine HLo.out.mono ?_
  rintro e w1 ⟨A, m, c, rfl, hm, ho, hb1⟩
  have HB1 := Lib.hid hb1
  have hm1 : m ≤ ws.length := by omega
  have hm2 : ws.length ≤ m := by omega
  have HSt := Lib.hid (stores_small A m c ws w1 (Reads.of_own ho) (by omega) (by omega) HW1.out)
  rw [HNe.out]
  clear hm ho hb1 HLo
  go_wp2_with fail
  refine HSt.out.mono ?_
  rintro e1 w4 ⟨B1, n1, d1, p1, rfl, hp1, ho1, hb1⟩
  obtain ⟨fs, rfl, hf1, hf2⟩ := hp1
  have HB4 := Lib.hid (HB1.out.trans (hb1.mono HB1.out.size))
  have hn1 : n1 = ws.length + fs.length + 1 := by
    have h1 := ho1.1
    rw [insCells_len] at h1
    simp at h1
    omega
  obtain ⟨gb, cap, hv, hb0, hlt⟩ := ho1.form (by omega)
  injection hv with hv1 hv2 hv3
  subst hv1
  have hcap : n1 ≤ d1 := by
    rcases ho1.2 with ⟨_, h0⟩ | ⟨g', cap', cs, hv', _, _, hle, _⟩
    · omega
    · injection hv' with _ _ h3
      omega
  have hdr : (ws.map stI ++ fs.map Ins.fl ++ [Ins.fe]).drop m = fs.map Ins.fl ++ [Ins.fe] := by
    rw [List.append_assoc, List.drop_append_of_le_length (by simp; omega), List.drop_of_length_le (by simp; omega), List.nil_append]
  have hrd := reads_drop (Reads.of_own ho1) m (by omega)
  rw [hdr, Nat.zero_add] at hrd
  have hn1a : n1 ≤ 300 := by omega
  have hz1 : (m : Int) ≤ (n1 : Int) := by omega
  have hz2 : (n1 : Int) ≤ (d1 : Int) := by omega
  have hz3 : (0 : Int) ≤ (m : Int) := by omega
  have hz4 : m < d1 := by omega
  have hz5 : ¬ (d1 - m = 0) := by omega
  have hz6 : (m : Int) < (d1 : Int) := by omega
  have hz7 : ¬ (d1 = m) := by omega
  have hz8 : ¬ (m = d1) := by omega
  have HRD := Lib.hid hrd
  have HSS := Lib.hid (HSc.out w4 HB4.out)
  clear ho1 hb1 hrd HSt hv2 hv3 hn1 hdr
  go_wp2_with fail
  refine HSS.out.mono ?_
  rintro e1 w5 ⟨B2, n2, d2', p2, rfl, hp2, ho2, hb2⟩
  have HP2 := Lib.hid hp2
  have HB5 := Lib.hid (HB4.out.trans (hb2.mono HB4.out.size))
  have hl2 : n2 ≤ 400 := by
    have h1 := ho2.1
    have h2 := isStores_len HP2.out
    rw [insCells_len] at h1
    simp at h2
    omega
  have HTh := Lib.hid (then_any (some ⟨gb, m * 3, none⟩) B2 (n1 - m) (d1 - m) n2 d2' (fs.map Ins.fl ++ [Ins.fe]) p2 w5 ((HRD.out.below hb2).more hb2.size) (Reads.of_own ho2) (by omega) hl2)
  clear hp2 ho2 hb2 HSS HRD
  go_wp2_with fail
  refine HTh.out.mono ?_
  rintro e1 w6 ⟨B3, n3, d3, rfl, hn3, ho3, hb3⟩
  have HO3 := Lib.hid ho3
  have HB6 := Lib.hid (HB5.out.trans (hb3.mono HB5.out.size))
  clear hn3 ho3 hb3 HTh
  go_wp2
  go_ret2
  exact ⟨_, _, _, _, rfl, ⟨fs, p2, rfl, hf1, hf2, HP2.out⟩, own_le HO3.out HB5.out.size, HB6.out⟩
theorem run_fl {a : DA} {L T : Nat} {w : World} {S : Fp} {cur : Nat → Nat} (h : Dev a L T w S cur 0) {A : Option Addr} {m c base : Nat} {p : List Ins} {ws ws2 : List (Nat × Nat)} (ho : w.ownsRow base 178 3 (.slice A m c) m (insCells p)) (hb : ∀ k, S k → k < base) (hp : IsFl ws ws2 p)
    (hw1 : ∀ e ∈ ws, e.1 < 64 * L) (hw2 : ∀ e ∈ ws2, e.1 % 8 = 0 ∧ e.1 < 64 * L ∧ e.2 < 18446744073709551616) (hl1 : ws.length ≤ 1000) (hl2 : ws2.length ≤ 1000) (T' : Nat) (hT : T + (ws.length + 1) + (2 * ws2.length + 1) ≤ T') (hT' : T' ≤ 1000000000) :
    Calls Tryz.prog 45 #[.slice A m c, memV a] w (RetDev a L T' w S (wrS cur ws2) 0 (.int .i64 0)) := by
  obtain ⟨fs, p2, rfl, hf1, hf2, hp2⟩ := hp
  obtain ⟨hg2, hr2, hlen2⟩ := isStores_good hp2 hw2 cur
  have hg1 : goodP L false (fs.map Ins.fl ++ [Ins.fe]) := goodP_fls fs false (fun o ho => by
    obtain ⟨e, he, rfl⟩ := hf2 o ho
    have := hw1 e he
    unfold lineOf
    omega)
  have hr1 : runP cur (fs.map Ins.fl ++ [Ins.fe]) = cur := by rw [runP_app, runP_fls]; rfl
  have hm : (fs.map Ins.fl ++ [Ins.fe] ++ p2).length = m := by have := ho.1; rw [insCells_len] at this; omega
  have hm' : fs.length + 1 + p2.length = m := by rw [← hm]; simp; omega
  refine (run_any h A m c _ (Reads.of_own ho) (own_off ho hb) (goodP_app hg1 hg2) (by omega) (by omega)).mono ?_
  rintro e w' ⟨he, S', hd, hc, hgr⟩
  rw [runP_app, hr1, hr2] at hd
  exact ⟨he, S', hd.more (by omega) (by omega), hc, hgr⟩
set_option maxRecDepth 100000 in
set_option maxHeartbeats 4000000 in
theorem commitU_any {a : DA} {L T : Nat} {w : World} {S : Fp} {cur : Nat → Nat} (h : Dev a L T w S cur 0) (g s n : Nat) (hB : Blk w g 186 (ulogCells a s n)) (hs : s + n ≤ L) (hn : 26 ≤ n) (ws : List (Nat × Nat)) (hl : LogU cur s ws) (hw : EntOk L s n ws) (hT : T + 240 ≤ 1000000000) :
    Calls Tryz.prog 147 #[.pointer (some ⟨g, 0, none⟩)] w (RetDev a L (T + 240) w S (wrS cur [(64 * s, 0)]) 0 (.int .i64 0)) := by
  have hL : L ≤ 4096 := by obtain ⟨ls, exe, per, cs, lsC, hdc, hnt⟩ := h; exact hdc.hL
  have hfew := hw.few
  have HP := Lib.hid (planCommit_any h g s n hB hs hn ws hl hw)
  have HR : Hid (∀ (A : Option Addr) (m c : Nat) (p : List Ins) (w1 : World), IsFl ws [(64 * s, 0)] p → w1.ownsRow w.heap.size 178 3 (.slice A m c) m (insCells p) → Below w.heap.size w w1 →
      Calls Tryz.prog 45 #[.slice A m c, memV a] w1 (RetDev a L (T + 240) w S (wrS cur [(64 * s, 0)]) 0 (.int .i64 0))) := fun A m c p w1 hp ho1 hb => by
    refine (run_fl (h.below hb) ho1 h.lt hp (fun e he => (hw.off e he).lt) (fun e he => ?_) (by omega) (by simp) (T + 240) (by simp; omega) hT).mono ?_
    · simp at he; subst he; exact ⟨by simp; omega, by simp; omega, by simp⟩
    · intro e w2 h2
      exact RetDev.back hb h2
  have HBB := Lib.hid hB
  have HBx : Hid (∀ w1, Below w.heap.size w w1 → w1.cell? ⟨g, 0, none⟩ = some (memV a)) := fun w1 hb => (HBB.out.below hb HBB.out.lt).cell 0
  clear h hB hl hs hn hw
  unfold memV at *
  go_enter Tryz.func147, Tryz.ntmps147
  go_wp2_with fail
  refine HP.out.mono ?_
  rintro e w1 ⟨A1, m1, c1, p1, rfl, hp1, ho1, hb1⟩
  have HRR := Lib.hid (HR.out A1 m1 c1 p1 w1 hp1 ho1 hb1)
  have d0 := HBx.out w1 hb1
  clear hp1 ho1 hb1 HP HR HBx
  go_wp2_with fail
  refine HRR.out.mono ?_
  rintro e w2 ⟨rfl, h2⟩
  have HZ := Lib.hid h2
  clear h2 HRR
  go_wp2
  go_ret
  exact ⟨rfl, HZ.out⟩
set_option maxRecDepth 100000 in
set_option maxHeartbeats 4000000 in
theorem rollbackU_any {a : DA} {L T : Nat} {w : World} {S : Fp} {cur : Nat → Nat} (h : Dev a L T w S cur 0) (g s n : Nat) (hB : Blk w g 186 (ulogCells a s n)) (hs : s + n ≤ L) (hn : 26 ≤ n) (ws : List (Nat × Nat)) (hl : LogU cur s ws) (hw : EntOk L s n ws) (hT : T + 240 ≤ 1000000000) :
    Calls Tryz.prog 129 #[.pointer (some ⟨g, 0, none⟩)] w (RetDev a L (T + 240) w S (wrS (wrS cur ws) [(64 * s, 0)]) 0 (.int .i64 0)) := by
  have HP := Lib.hid (recover_any h g s n hB hs hn ws hl hw hT)
  clear h hB hl
  go_enter Tryz.func129, Tryz.ntmps129
  go_wp2_with fail
  refine HP.out.mono ?_
  rintro e w1 ⟨rfl, h1⟩
  have HZ := Lib.hid h1
  clear h1 HP
  go_wp2
  go_ret
  exact ⟨rfl, HZ.out⟩
def RetCl (w : World) (e : Ending) (w' : World) : Prop := ∃ A' m' c', e = .returned (.slice (some A') m' c') ∧ Below w.heap.size w w'
set_option maxRecDepth 100000 in
set_option maxHeartbeats 4000000 in
/-- slices.Clone of a program: some program. -/
theorem cloneP_any (ad : Addr) (n c : Nat) (p : List Ins) (w : World) (h : Reads w w.heap.size 3 (some ad) n (insCells p)) (h0 : 0 < n) (hn : n ≤ 100000) :
    Calls Tryz.prog 121 #[.slice (some ad) n c] w (RetCl w) := by
  have H := Lib.hid h
  clear h
  have hnil : ∀ W, (binOp .eql 87 (.slice (some ad) n c) (.slice none 0 0)).run Tryz.prog W = .ok (.bool false) W := fun W => Lib.run_eql_slice_some_nil W _ _ _ Tryz.underlying87
  obtain ⟨i0, hi0, hz0, hz1, hz2⟩ := info_parts infoInstr
  have HO : Hid ((w.alloc (.cells #[] 178)).ownsRow w.heap.size 178 3 (.slice (some ⟨w.heap.size, 0, none⟩) 0 0) 0 []) := World.ownsRow_made w #[] 0 (Nat.le_refl _) (by unfold maxLen; omega) (by simp)
  go_enter Tryz.func121, Tryz.ntmps121
  go_wp2_with (at_builtin; refine stop ?_)
  unfold Stop
  refine wpList_app _ (.tmp 5) (.tmp 6) 87 rfl rfl w.heap.size 178 i0 _ 3 24 Tryz.underlying87 hi0 hz0 hz1 hz2 rfl (by omega) (.slice (some ⟨w.heap.size, 0, none⟩) 0 0) 0 [] rfl HO.out w.heap.size (some ad) n c (insCells p) rfl (H.out.alloc (Nat.le_refl _) _) (insCells_one p) (by unfold maxLen; omega) (by omega) (by simp) ?_
  intro A3 n3 c3 w8 hn3 ho3 hg3 hb3
  obtain ⟨g3, cap3, hv3, _, _⟩ := ho3.form (by omega)
  injection hv3 with hv4 _ _
  subst hv4
  have HB3 := Lib.hid (((Below.refl _ w).alloc (Nat.le_refl _) _).trans hb3)
  clear hn3 ho3 hg3 hb3
  go_wp2
  go_ret
  exact ⟨_, _, _, rfl, HB3.out⟩
end Go.Proofs.YtklpeghhgoeeiaaGreatDoor
/- A transaction in memory. -/
namespace Go.Proofs.YtklpeghhgoeeiaaGreatDoor
open Go.RowKit Go.Maps
/-- What stays: the world at the beginning, the device, the parts over it, the statement's own block. -/
structure CX where
  w0 : World
  a : DA
  x : SA
  gw : Nat
  cs : Array Value
/-- The device, the logs, the heap, the manager, the statement's own block. -/
structure Base (c : CX) (w : World) (S : Fp) (lk : Bool) (last : Option Addr) (cur : Nat → Nat) (T : Nat) : Prop where
  dev : Dev c.a 152 T w S cur 0
  sys : Sys c.a w c.x lk last
  apart : Apart S c.x
  old : ∀ k, S k → c.w0.heap.size ≤ k
  news : c.w0.heap.size ≤ c.x.r ∧ c.w0.heap.size ≤ c.x.u ∧ c.w0.heap.size ≤ c.x.h ∧ c.w0.heap.size ≤ c.x.m
  blk : Blk w c.gw 45 c.cs
  cells : wCells c.a c.x c.cs
  out : ¬ S c.gw
  new : c.w0.heap.size ≤ c.gw
  below : Below c.w0.heap.size c.w0 w
theorem Made.base {w0 w : World} {a : DA} {S : Fp} {T : Nat} {cur : Nat → Nat} {g : Nat} {x : SA} {cs : Array Value} (h : Made w0 a S T cur g x cs w) : Base ⟨w0, a, x, g, cs⟩ w S false none cur T :=
  ⟨h.dev, h.sys, h.apart, h.old, h.news, h.blk, h.cells, h.out, h.new, h.below⟩
section
variable {c : CX} {w w' : World} {S : Fp} {lk : Bool} {last : Option Addr} {cur : Nat → Nat} {T : Nat}
theorem Apart.grew {S' : Fp} {x : SA} {a : DA} (h : Apart S x) (hs : Sys a w x lk last) (hg : Grew S S' w) : Apart S' x :=
  ⟨hg.off ⟨hs.r.lt, h.r⟩, hg.off ⟨hs.u.lt, h.u⟩, hg.off ⟨hs.h.lt, h.h⟩, hg.off ⟨hs.m.lt, h.m⟩⟩
theorem Sys.chg {Z : Fp} {a : DA} {x : SA} (h : Sys a w x lk last) (hc : Chg Z w w') (hz : Apart Z x) : Sys a w' x lk last :=
  ⟨hc.blk h.r hz.r, hc.blk h.u hz.u, hc.blk h.h hz.h, hc.blk h.m hz.m⟩
theorem Base.step (h : Base c w S lk last cur T) {T' : Nat} {cur' : Nat → Nat} {S' : Fp} (hd : Dev c.a 152 T' w' S' cur' 0) (hc : Chg S w w') (hg : Grew S S' w) : Base c w' S' lk last cur' T' :=
  { h with
    dev := hd
    sys := h.sys.chg hc h.apart
    apart := h.apart.grew h.sys hg
    old := fun k hk => (hg k hk).elim (h.old k) (fun h' => Nat.le_trans h.below.size h')
    blk := hc.blk h.blk h.out
    out := hg.off ⟨h.blk.lt, h.out⟩
    below := h.below.trans (hc.toBelow h.below.size h.old) }
theorem Base.chg (h : Base c w S lk last cur T) {Z : Fp} (hc : Chg Z w w') (hz : ∀ k, S k → ¬ Z k) (ha : Apart Z c.x) (hw : ¬ Z c.gw) (hn : ∀ k, Z k → c.w0.heap.size ≤ k) : Base c w' S lk last cur T :=
  { h with
    dev := h.dev.chg hc hz
    sys := h.sys.chg hc ha
    blk := hc.blk h.blk hw
    below := h.below.trans (hc.toBelow h.below.size hn) }
theorem Base.more_ (h : Base c w S lk last cur T) (hb : Below w.heap.size w w') : Base c w' S lk last cur T :=
  h.chg (Z := Fp.no) (Chg.of_below hb) (fun _ _ h => h) ⟨fun h => h, fun h => h, fun h => h, fun h => h⟩ (fun h => h) (fun _ h => h.elim)
theorem heap_set (a : DA) (s n gs mr mh : Nat) (lk v : Bool) : (heapCells a s n gs mr mh lk).setIfInBounds 7 (.bool v) = heapCells a s n gs mr mh v := rfl
theorem mgr_set (th r u h last v : Option Addr) : (mgrCells th r u h last).setIfInBounds 4 (.pointer v) = mgrCells th r u h v := rfl
theorem Base.lock (h : Base c w S lk last cur T) (v : Bool) : Base c (w.setCell ⟨c.x.h, 7, none⟩ (.bool v)) S v last cur T := by
  have hc : Chg (fun j => j = c.x.h) w (w.setCell ⟨c.x.h, 7, none⟩ (.bool v)) := (Chg.refl (fun j => j = c.x.h) w).setCell (p := ⟨c.x.h, 7, none⟩) (.inl rfl) _
  have h2 := h.sys.h.set_ 7 (.bool v)
  rw [heap_set] at h2
  exact { h with
    dev := h.dev.chg hc (fun k hk e => h.apart.h (e ▸ hk))
    sys := ⟨hc.blk h.sys.r (h.sys.r.ne_ h.sys.h (by decide)), hc.blk h.sys.u (h.sys.u.ne_ h.sys.h (by decide)), h2, hc.blk h.sys.m (h.sys.m.ne_ h.sys.h (by decide))⟩
    blk := hc.blk h.blk (h.blk.ne_ h.sys.h (by decide))
    below := h.below.setCell h.news.2.2.1 _ }
theorem Base.setLast (h : Base c w S lk last cur T) (v : Option Addr) : Base c (w.setCell ⟨c.x.m, 4, none⟩ (.pointer v)) S lk v cur T := by
  have hc : Chg (fun j => j = c.x.m) w (w.setCell ⟨c.x.m, 4, none⟩ (.pointer v)) := (Chg.refl (fun j => j = c.x.m) w).setCell (p := ⟨c.x.m, 4, none⟩) (.inl rfl) _
  have h2 := h.sys.m.set_ 4 (.pointer v)
  rw [mgr_set] at h2
  exact { h with
    dev := h.dev.chg hc (fun k hk e => h.apart.m (e ▸ hk))
    sys := ⟨hc.blk h.sys.r (h.sys.r.ne_ h.sys.m (by decide)), hc.blk h.sys.u (h.sys.u.ne_ h.sys.m (by decide)), hc.blk h.sys.h (h.sys.h.ne_ h.sys.m (by decide)), h2⟩
    blk := hc.blk h.blk (h.blk.ne_ h.sys.m (by decide))
    below := h.below.setCell h.news.2.2.2 _ }
end
/-- The cells of a transaction. -/
structure TX where
  words : Nat
  inner : Nat
  own : Nat
  freed : Nat
  held : Nat
  cover : Nat
  outside : Bool
  surplus : Bool
  open_ : Bool
  mode : Nat
  marks : Value
  ids : Nat
  tail : Value
def txCells (m : Nat) (t : TX) : Array Value := #[.map (some t.words), .map (some t.inner), .map (some t.own), .map (some t.freed), .bool t.outside, .bool t.surplus, .pointer (some ⟨m, 0, none⟩), .int .u8 (t.mode : Int), .bool t.open_, t.marks, .int .i64 (t.ids : Int), .map (some t.held), .map (some t.cover), t.tail]
/-- A changed word. -/
def cellV (v o : Nat) (p : Bool) : Value := .agg #[.int .u64 (v : Int), .int .u64 (o : Int), .bool p]
def cellD (v o : Nat) (p : Bool) : DataW Unit := .agg [.lit (.int .u64 (v : Int)), .lit (.int .u64 (o : Int)), .lit (.bool p)]
def cellL : List Value → Option (DataW Unit × List MemPlace)
  | [.int .u64 a, .int .u64 b, .bool c] => if 0 ≤ a ∧ 0 ≤ b then some (.agg [.lit (.int .u64 a), .lit (.int .u64 b), .lit (.bool c)], []) else none
  | _ => none
def cellR : Value → Option (DataW Unit × List MemPlace)
  | .agg c => cellL c.toList
  | _ => none
theorem cellR_mk (v o : Nat) (p : Bool) : cellR (cellV v o p) = some (cellD v o p, []) := by simp [cellR, cellL, cellV, cellD]
theorem cellR_inv {v : Value} {z : DataW Unit × List MemPlace} (h : cellR v = some z) : ∃ (a b : Nat) (p : Bool), v = cellV a b p ∧ z = (cellD a b p, []) := by
  unfold cellR at h
  split at h
  · rename_i cs
    unfold cellL at h
    split at h
    · rename_i a b p hl
      split at h
      · rename_i hab
        injection h with h
        have hcs : cs = #[.int .u64 a, .int .u64 b, .bool p] := by rw [← Array.toArray_toList (xs := cs), hl]
        subst hcs
        refine ⟨a.toNat, b.toNat, p, ?_, ?_⟩
        · unfold cellV; rw [Int.toNat_of_nonneg hab.1, Int.toNat_of_nonneg hab.2]
        · rw [← h]; unfold cellD; rw [Int.toNat_of_nonneg hab.1, Int.toNat_of_nonneg hab.2]
      · cases h
    · cases h
  · cases h
/-- A reader that sees nothing. -/
def oneR : Value → Option (DataW Unit × List MemPlace) := fun _ => some (.lit (.bool true), [])
/-- The maps of a transaction without own blocks. -/
structure TxM (w : World) (t : TX) (D : DataW Unit) (n : Nat) : Prop where
  words : w.ownsMap Tryz.prog 35 cellR t.words n D
  inner : w.ownsMap Tryz.prog 35 oneR t.inner 0 (.map [])
  own : w.ownsMap Tryz.prog 35 oneR t.own 0 (.map [])
  freed : w.ownsMap Tryz.prog 35 oneR t.freed 0 (.map [])
  held : w.ownsMap Tryz.prog 35 oneR t.held 0 (.map [])
  cover : w.ownsMap Tryz.prog 35 oneR t.cover 0 (.map [])
  ne : t.inner ≠ t.words ∧ t.own ≠ t.words ∧ t.freed ≠ t.words ∧ t.held ≠ t.words ∧ t.cover ≠ t.words
/-- An open transaction. -/
structure TxS (c : CX) (g : Nat) (w : World) (S : Fp) (t : TX) (D : DataW Unit) (n : Nat) (cur : Nat → Nat) (T : Nat) : Prop where
  base : Base c w S true (some ⟨g, 0, none⟩) cur T
  tx : Blk w g 104 (txCells c.x.m t)
  maps : TxM w t D n
  outg : ¬ S g
  outm : ¬ S t.words ∧ ¬ S t.inner ∧ ¬ S t.own ∧ ¬ S t.freed ∧ ¬ S t.held ∧ ¬ S t.cover
  newg : c.w0.heap.size ≤ g
  neww : c.w0.heap.size ≤ t.words
section
variable {c : CX} {g : Nat} {w w' : World} {S : Fp} {t : TX} {D : DataW Unit} {n : Nat} {cur : Nat → Nat} {T : Nat}
theorem TxM.chg {Z : Fp} (h : TxM w t D n) (hc : Chg Z w w') (hz : ¬ Z t.words ∧ ¬ Z t.inner ∧ ¬ Z t.own ∧ ¬ Z t.freed ∧ ¬ Z t.held ∧ ¬ Z t.cover) : TxM w' t D n :=
  { h with
    words := hc.map h.words hz.1
    inner := hc.map h.inner hz.2.1
    own := hc.map h.own hz.2.2.1
    freed := hc.map h.freed hz.2.2.2.1
    held := hc.map h.held hz.2.2.2.2.1
    cover := hc.map h.cover hz.2.2.2.2.2 }
/-- A step of the device. -/
theorem TxS.step (h : TxS c g w S t D n cur T) {T' : Nat} {cur' : Nat → Nat} {v : Value} {e : Ending} (hr : RetDev c.a 152 T' w S cur' 0 v e w') : e = .returned v ∧ ∃ S', TxS c g w' S' t D n cur' T' ∧ Chg S w w' ∧ Grew S S' w := by
  obtain ⟨he, S', hd, hc, hg⟩ := hr
  have hm := h.maps
  obtain ⟨o1, o2, o3, o4, o5, o6⟩ := h.outm
  exact ⟨he, S', ⟨h.base.step hd hc hg, hc.blk h.tx h.outg, hm.chg hc h.outm, hg.off ⟨h.tx.lt, h.outg⟩, ⟨hg.off ⟨hm.words.lt, o1⟩, hg.off ⟨hm.inner.lt, o2⟩, hg.off ⟨hm.own.lt, o3⟩, hg.off ⟨hm.freed.lt, o4⟩, hg.off ⟨hm.held.lt, o5⟩, hg.off ⟨hm.cover.lt, o6⟩⟩, h.newg, h.neww⟩, hc, hg⟩
/-- New blocks. -/
theorem TxS.more_ (h : TxS c g w S t D n cur T) (hb : Below w.heap.size w w') : TxS c g w' S t D n cur T :=
  { h with
    base := h.base.more_ hb
    tx := (Chg.of_below (S := Fp.no) hb).blk h.tx (fun h => h)
    maps := h.maps.chg (Z := Fp.no) (Chg.of_below hb) ⟨fun h => h, fun h => h, fun h => h, fun h => h, fun h => h, fun h => h⟩ }
theorem Base.txSet {lk : Bool} {last : Option Addr} (h : Base c w S lk last cur T) {cs : Array Value} (ht : Blk w g 104 cs) (hS : ¬ S g) (hn : c.w0.heap.size ≤ g) (i : Nat) (u : Value) : Base c (w.setCell ⟨g, i, none⟩ u) S lk last cur T :=
  h.chg (Z := fun j => j = g) ((Chg.refl (fun j => j = g) w).setCell (p := ⟨g, i, none⟩) (.inl rfl) u) (fun k hk e => hS (e ▸ hk))
    ⟨h.sys.r.ne_ ht (by decide), h.sys.u.ne_ ht (by decide), h.sys.h.ne_ ht (by decide), h.sys.m.ne_ ht (by decide)⟩ (h.blk.ne_ ht (by decide)) (fun k hk => by rw [hk]; exact hn)
/-- A store into the transaction's block; the maps stay. -/
theorem TxS.set (h : TxS c g w S t D n cur T) (i : Nat) (u : Value) (t' : TX) (hs : (txCells c.x.m t).setIfInBounds i u = txCells c.x.m t')
    (e : t'.words = t.words ∧ t'.inner = t.inner ∧ t'.own = t.own ∧ t'.freed = t.freed ∧ t'.held = t.held ∧ t'.cover = t.cover) : TxS c g (w.setCell ⟨g, i, none⟩ u) S t' D n cur T := by
  have hc : Chg (fun j => j = g) w (w.setCell ⟨g, i, none⟩ u) := (Chg.refl (fun j => j = g) w).setCell (p := ⟨g, i, none⟩) (.inl rfl) u
  have h2 := h.tx.set_ i u
  rw [hs] at h2
  have hm := h.maps
  have hm2 : TxM (w.setCell ⟨g, i, none⟩ u) t D n := hm.chg hc ⟨map_ne_blk hm.words h.tx, map_ne_blk hm.inner h.tx, map_ne_blk hm.own h.tx, map_ne_blk hm.freed h.tx, map_ne_blk hm.held h.tx, map_ne_blk hm.cover h.tx⟩
  obtain ⟨e1, e2, e3, e4, e5, e6⟩ := e
  refine ⟨h.base.txSet h.tx h.outg h.newg i u, h2, ⟨?_, ?_, ?_, ?_, ?_, ?_, ?_⟩, h.outg, ?_, h.newg, ?_⟩
  · rw [e1]; exact hm2.words
  · rw [e2]; exact hm2.inner
  · rw [e3]; exact hm2.own
  · rw [e4]; exact hm2.freed
  · rw [e5]; exact hm2.held
  · rw [e6]; exact hm2.cover
  · rw [e1, e2, e3, e4, e5, e6]; exact hm2.ne
  · rw [e1, e2, e3, e4, e5, e6]; exact h.outm
  · rw [e1]; exact h.neww
/-- All blocks of a transaction and of what lies under it, but for the device's, lie below N. -/
structure TxLt (c : CX) (g : Nat) (t : TX) (N : Nat) : Prop where
  r : c.x.r < N
  u : c.x.u < N
  h : c.x.h < N
  m : c.x.m < N
  gw : c.gw < N
  g : g < N
  words : t.words < N
  inner : t.inner < N
  own : t.own < N
  freed : t.freed < N
  held : t.held < N
  cover : t.cover < N
theorem TxS.lts (h : TxS c g w S t D n cur T) : TxLt c g t w.heap.size :=
  ⟨h.base.sys.r.lt, h.base.sys.u.lt, h.base.sys.h.lt, h.base.sys.m.lt, h.base.blk.lt, h.tx.lt, h.maps.words.lt, h.maps.inner.lt, h.maps.own.lt, h.maps.freed.lt, h.maps.held.lt, h.maps.cover.lt⟩
/-- Whatever turns blocks from N on turns nothing here. -/
theorem TxS.high {N : Nat} {Z : Fp} (h : TxS c g w S t D n cur T) (hl : TxLt c g t N) (hc : Chg Z w w') (hz : ∀ k, Z k → N ≤ k) (hS : ∀ k, S k → ¬ Z k) : TxS c g w' S t D n cur T := by
  have hno : ∀ k, k < N → ¬ Z k := fun k hk h => by have := hz k h; omega
  refine { h with
    base := h.base.chg hc hS ⟨hno _ hl.r, hno _ hl.u, hno _ hl.h, hno _ hl.m⟩ (hno _ hl.gw) (fun k hk => ?_)
    tx := hc.blk h.tx (hno _ hl.g)
    maps := h.maps.chg hc ⟨hno _ hl.words, hno _ hl.inner, hno _ hl.own, hno _ hl.freed, hno _ hl.held, hno _ hl.cover⟩ }
  have h1 := hz k hk
  have h2 := h.base.new
  have h3 := hl.gw
  omega
theorem TxS.other {N : Nat} (h : TxS c g w S t D n cur T) (hl : TxLt c g t N) {b : Nat} (hb : N ≤ b) (hS : ¬ S b) (i : Nat) (u : Value) : TxS c g (w.setCell ⟨b, i, none⟩ u) S t D n cur T :=
  h.high (Z := fun j => j = b) hl ((Chg.refl (fun j => j = b) w).setCell (p := ⟨b, i, none⟩) (.inl rfl) u) (fun k hk => by rw [hk]; exact hb) (fun k hk e => hS (e ▸ hk))
/-- The words turned. -/
theorem TxS.put (h : TxS c g w S t D n cur T) {D' : DataW Unit} {n' : Nat} (hg : w.grownBy w' (some t.words)) (ho : w'.ownsMap Tryz.prog 35 cellR t.words n' D') : TxS c g w' S t D' n' cur T := by
  have hc : Chg (fun j => j = t.words) w w' := (Chg.refl (fun j => j = t.words) w).grown hg (fun g hg => .inl (by cases hg; rfl))
  have hm := h.maps
  have hb := h.base
  exact ⟨hb.chg hc (fun k hk e => h.outm.1 (e ▸ hk)) ⟨fun e => map_ne_blk hm.words hb.sys.r e.symm, fun e => map_ne_blk hm.words hb.sys.u e.symm, fun e => map_ne_blk hm.words hb.sys.h e.symm, fun e => map_ne_blk hm.words hb.sys.m e.symm⟩ (fun e => map_ne_blk hm.words hb.blk e.symm) (fun k hk => by rw [hk]; exact h.neww),
    hc.blk h.tx (fun e => map_ne_blk hm.words h.tx e.symm), ⟨ho, hc.map hm.inner hm.ne.1, hc.map hm.own hm.ne.2.1, hc.map hm.freed hm.ne.2.2.1, hc.map hm.held hm.ne.2.2.2.1, hc.map hm.cover hm.ne.2.2.2.2, hm.ne⟩, h.outg, h.outm, h.newg, h.neww⟩
end
end Go.Proofs.YtklpeghhgoeeiaaGreatDoor
/- tx: Begin. -/
namespace Go.Proofs.YtklpeghhgoeeiaaGreatDoor
open Go.RowKit Go.Maps
set_option maxRecDepth 100000 in
set_option maxHeartbeats 4000000 in
theorem lock_free (h : Nat) (a : DA) (s n gs mr mh : Nat) (w : World) (hB : Blk w h 150 (heapCells a s n gs mr mh false)) :
    Calls Tryz.prog 49 #[.pointer (some ⟨h, 0, none⟩)] w fun e w' => e = .returned (.bool true) ∧ w' = w.setCell ⟨h, 7, none⟩ (.bool true) := by
  have c7 : w.cell? ⟨h, 7, none⟩ = some (.bool false) := hB.cell 7
  have z7 : w.frozen? ⟨h, 7, none⟩ = false := hB.frozen 7
  clear hB
  go_enter Tryz.func49, Tryz.ntmps49
  go_wp2
  go_ret
  exact ⟨rfl, rfl⟩
set_option maxRecDepth 100000 in
set_option maxHeartbeats 4000000 in
theorem lock_busy (h : Nat) (a : DA) (s n gs mr mh : Nat) (w : World) (hB : Blk w h 150 (heapCells a s n gs mr mh true)) :
    Calls Tryz.prog 49 #[.pointer (some ⟨h, 0, none⟩)] w fun e w' => e = .returned (.bool false) ∧ w = w' := by
  have c7 : w.cell? ⟨h, 7, none⟩ = some (.bool true) := hB.cell 7
  clear hB
  go_enter Tryz.func49, Tryz.ntmps49
  go_wp2
  go_ret
  exact ⟨rfl, rfl⟩
/-- Four new maps. -/
structure Four (w w' : World) (b : Nat) : Prop where
  new : w.heap.size ≤ b
  at0 : ∀ R : Value → Option (DataW Unit × List MemPlace), w'.ownsMap Tryz.prog 35 R b 0 (.map [])
  at1 : ∀ R : Value → Option (DataW Unit × List MemPlace), w'.ownsMap Tryz.prog 35 R (b + 1) 0 (.map [])
  at2 : ∀ R : Value → Option (DataW Unit × List MemPlace), w'.ownsMap Tryz.prog 35 R (b + 2) 0 (.map [])
  at3 : ∀ R : Value → Option (DataW Unit × List MemPlace), w'.ownsMap Tryz.prog 35 R (b + 3) 0 (.map [])
  below : Below w.heap.size w w'
theorem four_new (w : World) (o : Obj) : Four w (((((w.alloc o).alloc (.map #[] 0)).alloc (.map #[] 0)).alloc (.map #[] 0)).alloc (.map #[] 0)) (w.heap.size + 1) := by
  have hs : (w.alloc o).heap.size = w.heap.size + 1 := by simp
  have hs1 : ((w.alloc o).alloc (.map #[] 0)).heap.size = w.heap.size + 1 + 1 := by simp
  have hs2 : (((w.alloc o).alloc (.map #[] 0)).alloc (.map #[] 0)).heap.size = w.heap.size + 1 + 2 := by simp
  have hs3 : ((((w.alloc o).alloc (.map #[] 0)).alloc (.map #[] 0)).alloc (.map #[] 0)).heap.size = w.heap.size + 1 + 3 := by simp
  refine ⟨Nat.le_succ _, fun R => ?_, fun R => ?_, fun R => ?_, fun R => ?_, ?_⟩
  · have h := World.ownsMap_made (w.alloc o) Tryz.prog 35 R
    rw [hs] at h
    exact ((h.alloc _).alloc _).alloc _
  · have h := World.ownsMap_made ((w.alloc o).alloc (.map #[] 0)) Tryz.prog 35 R
    rw [hs1] at h
    exact (h.alloc _).alloc _
  · have h := World.ownsMap_made (((w.alloc o).alloc (.map #[] 0)).alloc (.map #[] 0)) Tryz.prog 35 R
    rw [hs2] at h
    exact h.alloc _
  · have h := World.ownsMap_made ((((w.alloc o).alloc (.map #[] 0)).alloc (.map #[] 0)).alloc (.map #[] 0)) Tryz.prog 35 R
    rw [hs3] at h
    exact h
  · exact (((((Below.refl _ w).alloc (Nat.le_refl _) o).alloc (by simp) _).alloc (by simp; omega) _).alloc (by simp; omega) _).alloc (by simp; omega) _
def RetEmpty (w : World) (e : Ending) (w' : World) : Prop := ∃ b, e = .returned (.agg #[.map (some b), .map (some (b + 1)), .map (some (b + 2)), .map (some (b + 3)), .bool false, .bool false]) ∧ Four w w' b
set_option maxRecDepth 100000 in
set_option maxHeartbeats 4000000 in
theorem empty_any (w : World) : Calls Tryz.prog 50 #[] w (RetEmpty w) := by
  have hm1 : ∀ W, (Instr.makeMap 95 none).run Tryz.prog W = .ok (.map (some W.heap.size)) (W.alloc (.map #[] 0)) := fun _ => rfl
  have hm2 : ∀ W, (Instr.makeMap 96 none).run Tryz.prog W = .ok (.map (some W.heap.size)) (W.alloc (.map #[] 0)) := fun _ => rfl
  have hm3 : ∀ W, (Instr.makeMap 97 none).run Tryz.prog W = .ok (.map (some W.heap.size)) (W.alloc (.map #[] 0)) := fun _ => rfl
  have hm4 : ∀ W, (Instr.makeMap 98 none).run Tryz.prog W = .ok (.map (some W.heap.size)) (W.alloc (.map #[] 0)) := fun _ => rfl
  go_enter Tryz.func50, Tryz.ntmps50
  go_wp2
  exact bodyPost_ret (v := .agg #[.map (some (w.heap.size + 1)), .map (some (w.heap.size + 1 + 1)), .map (some (w.heap.size + 1 + 2)), .map (some (w.heap.size + 1 + 3)), .bool false, .bool false]) (by simp [results, Tryz.results50, go_sem]) rfl ⟨w.heap.size + 1, rfl, four_new w _⟩
/-- A transaction as it begins. -/
structure Fresh (t : TX) (mode : Nat) : Prop where
  outside : t.outside = false
  surplus : t.surplus = false
  open_ : t.open_ = true
  mode : t.mode = mode
  marks : t.marks = .slice none 0 0
  ids : t.ids = 0
  tail : t.tail = .slice none 0 0
def RetBegin (c : CX) (w : World) (S : Fp) (cur : Nat → Nat) (T mode : Nat) (e : Ending) (w' : World) : Prop := ∃ g t, e = .returned (.tuple #[.pointer (some ⟨g, 0, none⟩), .int .i64 0]) ∧ Fresh t mode ∧ TxS c g w' S t (.map []) 0 cur T ∧ Chg (fun j => j = c.x.h ∨ j = c.x.m) w w'
/-- All blocks of a transaction are new. -/
def NewT (w : World) (g : Nat) (t : TX) : Prop := w.heap.size ≤ g ∧ w.heap.size ≤ t.words ∧ w.heap.size ≤ t.inner ∧ w.heap.size ≤ t.own ∧ w.heap.size ≤ t.freed ∧ w.heap.size ≤ t.held ∧ w.heap.size ≤ t.cover
theorem NewT.mono {w w' : World} {g : Nat} {t : TX} (h : NewT w' g t) (hs : w.heap.size ≤ w'.heap.size) : NewT w g t := by
  obtain ⟨h1, h2, h3, h4, h5, h6, h7⟩ := h
  exact ⟨by omega, by omega, by omega, by omega, by omega, by omega, by omega⟩
def RetBeginZ (c : CX) (w : World) (S : Fp) (cur : Nat → Nat) (T mode : Nat) (e : Ending) (w' : World) : Prop := ∃ g t, e = .returned (.tuple #[.pointer (some ⟨g, 0, none⟩), .int .i64 0]) ∧ Fresh t mode ∧ TxS c g w' S t (.map []) 0 cur T ∧ Chg (fun j => j = c.x.h ∨ j = c.x.m) w w' ∧ NewT w g t
theorem begin_end {c : CX} {w W1 W2 : World} {S : Fp} {last : Option Addr} {cur : Nat → Nat} {T b mode : Nat} (h : Base c w S true last cur T) (h4 : Four w W1 b) (hW : W2 = ((W1.alloc (.map #[] 0)).alloc (.map #[] 0)).alloc (.cells (txCells c.x.m ⟨b, b + 1, b + 2, b + 3, W1.heap.size, W1.heap.size + 1, false, false, true, mode, .slice none 0 0, 0, .slice none 0 0⟩) 104)) :
    ∃ t, Fresh t mode ∧ TxS c (W1.heap.size + 2) (W2.setCell ⟨c.x.m, 4, none⟩ (.pointer (some ⟨W1.heap.size + 2, 0, none⟩))) S t (.map []) 0 cur T ∧ Chg (fun j => j = c.x.h ∨ j = c.x.m) w (W2.setCell ⟨c.x.m, 4, none⟩ (.pointer (some ⟨W1.heap.size + 2, 0, none⟩))) ∧ NewT w (W1.heap.size + 2) t := by
  have hsz : w.heap.size ≤ W1.heap.size := h4.below.size
  have hlt : b + 3 < W1.heap.size := (h4.at3 oneR).lt
  have hS : ∀ k, w.heap.size ≤ k → ¬ S k := fun k hk hs => by have := h.dev.lt _ hs; omega
  have hn0 := h.below.size
  have hcw : Chg (fun j => j = c.x.h ∨ j = c.x.m) w (W2.setCell ⟨c.x.m, 4, none⟩ (.pointer (some ⟨W1.heap.size + 2, 0, none⟩))) := by
    rw [hW]
    exact (Chg.of_below (((h4.below.alloc h4.below.size _).alloc (by simp; omega) _).alloc (by simp; omega) _)).setCell (p := ⟨c.x.m, 4, none⟩) (.inl (.inr rfl)) _
  have hbase : Base c W2 S true last cur T := by
    rw [hW]
    exact h.more_ (((h4.below.alloc h4.below.size _).alloc (by simp; omega) _).alloc (by simp; omega) _)
  have hb2 := hbase.setLast (some ⟨W1.heap.size + 2, 0, none⟩)
  have e1 : ((W1.alloc (.map #[] 0)).alloc (.map #[] 0)).heap.size = W1.heap.size + 2 := by simp
  have e2 : (W1.alloc (.map #[] 0)).heap.size = W1.heap.size + 1 := by simp
  have htx : Blk W2 (W1.heap.size + 2) 104 (txCells c.x.m ⟨b, b + 1, b + 2, b + 3, W1.heap.size, W1.heap.size + 1, false, false, true, mode, .slice none 0 0, 0, .slice none 0 0⟩) := by
    rw [hW, ← e1]
    exact Blk.new _ _ _
  have hc : Chg (fun j => j = c.x.m) W2 (W2.setCell ⟨c.x.m, 4, none⟩ (.pointer (some ⟨W1.heap.size + 2, 0, none⟩))) := (Chg.refl (fun j => j = c.x.m) W2).setCell (p := ⟨c.x.m, 4, none⟩) (.inl rfl) _
  have hm : ∀ {R : Value → Option (DataW Unit × List MemPlace)} {k : Nat}, W1.ownsMap Tryz.prog 35 R k 0 (.map []) → (W2.setCell ⟨c.x.m, 4, none⟩ (.pointer (some ⟨W1.heap.size + 2, 0, none⟩))).ownsMap Tryz.prog 35 R k 0 (.map []) := fun {R k} hk => by
    have h1 : W2.ownsMap Tryz.prog 35 R k 0 (.map []) := by rw [hW]; exact ((hk.alloc _).alloc _).alloc _
    exact hc.map h1 (map_ne_blk h1 hbase.sys.m)
  have hh : ∀ R : Value → Option (DataW Unit × List MemPlace), (W2.setCell ⟨c.x.m, 4, none⟩ (.pointer (some ⟨W1.heap.size + 2, 0, none⟩))).ownsMap Tryz.prog 35 R W1.heap.size 0 (.map []) := fun R => by
    have h1 : W2.ownsMap Tryz.prog 35 R W1.heap.size 0 (.map []) := by rw [hW]; exact ((World.ownsMap_made W1 _ _ R).alloc _).alloc _
    exact hc.map h1 (map_ne_blk h1 hbase.sys.m)
  have hv : ∀ R : Value → Option (DataW Unit × List MemPlace), (W2.setCell ⟨c.x.m, 4, none⟩ (.pointer (some ⟨W1.heap.size + 2, 0, none⟩))).ownsMap Tryz.prog 35 R (W1.heap.size + 1) 0 (.map []) := fun R => by
    have h1 : W2.ownsMap Tryz.prog 35 R (W1.heap.size + 1) 0 (.map []) := by
      have h0 := World.ownsMap_made (W1.alloc (.map #[] 0)) Tryz.prog 35 R
      rw [e2] at h0
      rw [hW]
      exact h0.alloc _
    exact hc.map h1 (map_ne_blk h1 hbase.sys.m)
  have hnew := h4.new
  refine ⟨⟨b, b + 1, b + 2, b + 3, W1.heap.size, W1.heap.size + 1, false, false, true, mode, .slice none 0 0, 0, .slice none 0 0⟩, ⟨rfl, rfl, rfl, rfl, rfl, rfl, rfl⟩, ⟨hb2, hc.blk htx (htx.ne_ hbase.sys.m (by decide)), ⟨hm (h4.at0 _), hm (h4.at1 _), hm (h4.at2 _), hm (h4.at3 _), hh _, hv _, ?_⟩, hS _ (by omega), ⟨hS _ (by simp; omega), hS _ (by simp; omega), hS _ (by simp; omega), hS _ (by simp; omega), hS _ (by simp; omega), hS _ (by simp; omega)⟩, by omega, by simp; omega⟩, ?_, ?_⟩
  · simp only
    omega
  · exact hcw
  · refine ⟨by omega, ?_, ?_, ?_, ?_, ?_, ?_⟩ <;> simp only <;> omega
set_option maxRecDepth 100000 in
set_option maxHeartbeats 4000000 in
theorem begin_z {c : CX} {w : World} {S : Fp} {last : Option Addr} {cur : Nat → Nat} {T : Nat} (h : Base c w S false last cur T) (mode : Nat) (hmo : mode = 1 ∨ mode = 2) :
    Calls Tryz.prog 12 #[.pointer (some ⟨c.x.m, 0, none⟩), .int .u8 (mode : Int)] w (RetBeginZ c w S cur T mode) := by
  have HB := Lib.hid h
  have HLk := Lib.hid (lock_free _ _ _ _ _ _ _ w h.sys.h)
  have HB1 := Lib.hid (h.lock true)
  have HEm := Lib.hid (empty_any (w.setCell ⟨c.x.h, 7, none⟩ (.bool true)))
  have HZw : Hid (Chg (fun j => j = c.x.h ∨ j = c.x.m) w (w.setCell ⟨c.x.h, 7, none⟩ (.bool true))) := Lib.hid ((Chg.refl _ w).setCell (p := ⟨c.x.h, 7, none⟩) (.inl (.inl rfl)) _)
  have m0 : w.cell? ⟨c.x.m, 0, none⟩ = some (.pointer (some ⟨c.a.th 0, 0, none⟩)) := h.sys.m.cell 0
  have m1 : w.cell? ⟨c.x.m, 1, none⟩ = some (.pointer (some ⟨c.x.r, 0, none⟩)) := h.sys.m.cell 1
  have m2 : w.cell? ⟨c.x.m, 2, none⟩ = some (.pointer (some ⟨c.x.u, 0, none⟩)) := h.sys.m.cell 2
  have m3 : w.cell? ⟨c.x.m, 3, none⟩ = some (.pointer (some ⟨c.x.h, 0, none⟩)) := h.sys.m.cell 3
  have v0 : w.cell? ⟨c.x.u, 0, none⟩ = some (memV c.a) := h.sys.u.cell 0
  have v2 : w.cell? ⟨c.x.u, 2, none⟩ = some (.int .i64 26) := h.sys.u.cell 2
  have hq := eqMem (some ⟨c.a.th 0, 0, none⟩)
  have hm2 : ∀ W, (Instr.makeMap 96 none).run Tryz.prog W = .ok (.map (some W.heap.size)) (W.alloc (.map #[] 0)) := fun _ => rfl
  have hm3 : ∀ W, (Instr.makeMap 97 none).run Tryz.prog W = .ok (.map (some W.heap.size)) (W.alloc (.map #[] 0)) := fun _ => rfl
  obtain ⟨ls, exe, per, cs, lsC, hdc, hnt⟩ := h.dev
  obtain ⟨f0, _, _, _, f4⟩ := hdc.facts (j := 0) (by omega)
  clear hdc hnt h
  unfold memV at v0
  rcases hmo with rfl | rfl
  · go_enter Tryz.func12, Tryz.ntmps12
    go_wp2_with (first
      | (go_at_call 49; refine HLk.out.mono ?_; rintro e w1 ⟨rfl, rfl⟩)
      | (go_at_call 50; refine stop ?_)
      | go_in)
    unfold Stop
    generalize w.setCell ⟨c.x.h, 7, none⟩ (.bool true) = W at *
    refine HEm.out.mono ?_
    rintro e W1 ⟨b, rfl, h4⟩
    have HE := Lib.hid (begin_end (mode := 1) HB1.out h4 rfl)
    have hk := HB1.out.more_ h4.below
    have z4 : ∀ o1 o2 o3, (((W1.alloc o1).alloc o2).alloc o3).frozen? ⟨c.x.m, 4, none⟩ = false := fun _ _ _ => (((hk.sys.m.alloc _).alloc _).alloc _).frozen 4
    have c4 : ∀ o1 o2 o3, (((W1.alloc o1).alloc o2).alloc o3).cell? ⟨c.x.m, 4, none⟩ = some (.pointer last) := fun _ _ _ => (((hk.sys.m.alloc _).alloc _).alloc _).cell 4
    have hlt : c.x.m < W1.heap.size := hk.sys.m.lt
    clear h4 hk HEm HLk m0 m1 m2 m3 v0 v2 f0 f4
    go_wp2
    go_ret2
    obtain ⟨t, ht, hts, hcg, hnt⟩ := HE.out
    exact ⟨_, t, rfl, ht, hts, HZw.out.trans hcg (Grew.refl _ _), hnt.mono HZw.out.size⟩
  · go_enter Tryz.func12, Tryz.ntmps12
    go_wp2_with (first
      | (go_at_call 49; refine HLk.out.mono ?_; rintro e w1 ⟨rfl, rfl⟩)
      | (go_at_call 50; refine stop ?_)
      | go_in)
    unfold Stop
    generalize w.setCell ⟨c.x.h, 7, none⟩ (.bool true) = W at *
    refine HEm.out.mono ?_
    rintro e W1 ⟨b, rfl, h4⟩
    have HE := Lib.hid (begin_end (mode := 2) HB1.out h4 rfl)
    have hk := HB1.out.more_ h4.below
    have z4 : ∀ o1 o2 o3, (((W1.alloc o1).alloc o2).alloc o3).frozen? ⟨c.x.m, 4, none⟩ = false := fun _ _ _ => (((hk.sys.m.alloc _).alloc _).alloc _).frozen 4
    have c4 : ∀ o1 o2 o3, (((W1.alloc o1).alloc o2).alloc o3).cell? ⟨c.x.m, 4, none⟩ = some (.pointer last) := fun _ _ _ => (((hk.sys.m.alloc _).alloc _).alloc _).cell 4
    have hlt : c.x.m < W1.heap.size := hk.sys.m.lt
    clear h4 hk HEm HLk m0 m1 m2 m3 v0 v2 f0 f4
    go_wp2
    go_ret2
    obtain ⟨t, ht, hts, hcg, hnt⟩ := HE.out
    exact ⟨_, t, rfl, ht, hts, HZw.out.trans hcg (Grew.refl _ _), hnt.mono HZw.out.size⟩
theorem begin_any {c : CX} {w : World} {S : Fp} {last : Option Addr} {cur : Nat → Nat} {T : Nat} (h : Base c w S false last cur T) (mode : Nat) (hmo : mode = 1 ∨ mode = 2) :
    Calls Tryz.prog 12 #[.pointer (some ⟨c.x.m, 0, none⟩), .int .u8 (mode : Int)] w (RetBegin c w S cur T mode) :=
  (begin_z h mode hmo).mono (fun _ _ ⟨g, t, h1, h2, h3, h4, _⟩ => ⟨g, t, h1, h2, h3, h4⟩)
set_option maxRecDepth 100000 in
set_option maxHeartbeats 4000000 in
theorem begin_busy {c : CX} {w : World} {S : Fp} {last : Option Addr} {cur : Nat → Nat} {T : Nat} (h : Base c w S true last cur T) :
    Calls Tryz.prog 12 #[.pointer (some ⟨c.x.m, 0, none⟩), .int .u8 1] w fun e w' => e = .returned (.tuple #[.pointer none, .int .i64 7]) ∧ w = w' := by
  have HLk := Lib.hid (lock_busy _ _ _ _ _ _ _ w h.sys.h)
  have m0 : w.cell? ⟨c.x.m, 0, none⟩ = some (.pointer (some ⟨c.a.th 0, 0, none⟩)) := h.sys.m.cell 0
  have m1 : w.cell? ⟨c.x.m, 1, none⟩ = some (.pointer (some ⟨c.x.r, 0, none⟩)) := h.sys.m.cell 1
  have m2 : w.cell? ⟨c.x.m, 2, none⟩ = some (.pointer (some ⟨c.x.u, 0, none⟩)) := h.sys.m.cell 2
  have m3 : w.cell? ⟨c.x.m, 3, none⟩ = some (.pointer (some ⟨c.x.h, 0, none⟩)) := h.sys.m.cell 3
  obtain ⟨ls, exe, per, cs, lsC, hdc, hnt⟩ := h.dev
  obtain ⟨f0, _, _, _, f4⟩ := hdc.facts (j := 0) (by omega)
  clear hdc hnt h
  go_enter Tryz.func12, Tryz.ntmps12
  go_wp2_with (first
    | (go_at_call 49; refine HLk.out.mono ?_; rintro e w1 ⟨rfl, rfl⟩)
    | go_in)
  go_ret2
  exact ⟨rfl, rfl⟩
set_option maxRecDepth 100000 in
set_option maxHeartbeats 4000000 in
theorem begin_bad {c : CX} {w : World} {S : Fp} {lk : Bool} {last : Option Addr} {cur : Nat → Nat} {T : Nat} (h : Base c w S lk last cur T) (mode : Int) (h1 : mode ≠ 1) (h2 : mode ≠ 2) :
    Calls Tryz.prog 12 #[.pointer (some ⟨c.x.m, 0, none⟩), .int .u8 mode] w fun e w' => e = .returned (.tuple #[.pointer none, .int .i64 1]) ∧ w = w' := by
  have m0 : w.cell? ⟨c.x.m, 0, none⟩ = some (.pointer (some ⟨c.a.th 0, 0, none⟩)) := h.sys.m.cell 0
  have m1 : w.cell? ⟨c.x.m, 1, none⟩ = some (.pointer (some ⟨c.x.r, 0, none⟩)) := h.sys.m.cell 1
  have m2 : w.cell? ⟨c.x.m, 2, none⟩ = some (.pointer (some ⟨c.x.u, 0, none⟩)) := h.sys.m.cell 2
  have m3 : w.cell? ⟨c.x.m, 3, none⟩ = some (.pointer (some ⟨c.x.h, 0, none⟩)) := h.sys.m.cell 3
  have e1 : (mode == 1) = false := by simp [h1]
  have e2 : (mode == 2) = false := by simp [h2]
  clear h
  go_enter Tryz.func12, Tryz.ntmps12
  go_wp2
  go_ret2
  exact ⟨rfl, rfl⟩
set_option maxRecDepth 100000 in
set_option maxHeartbeats 4000000 in
theorem begin_nil (w : World) : Calls Tryz.prog 12 #[.pointer none, .int .u8 1] w fun e w' => e = .returned (.tuple #[.pointer none, .int .i64 1]) ∧ w = w' := by
  go_enter Tryz.func12, Tryz.ntmps12
  go_wp2
  go_ret2
  exact ⟨rfl, rfl⟩
set_option maxRecDepth 100000 in
set_option maxHeartbeats 4000000 in
theorem begin_none (w : World) (m : Nat) (hB : Blk w m 94 (mgrCells none none none none none)) : Calls Tryz.prog 12 #[.pointer (some ⟨m, 0, none⟩), .int .u8 1] w fun e w' => e = .returned (.tuple #[.pointer none, .int .i64 1]) ∧ w = w' := by
  have m0 : w.cell? ⟨m, 0, none⟩ = some (.pointer none) := hB.cell 0
  clear hB
  go_enter Tryz.func12, Tryz.ntmps12
  go_wp2
  go_ret2
  exact ⟨rfl, rfl⟩
end Go.Proofs.YtklpeghhgoeeiaaGreatDoor
