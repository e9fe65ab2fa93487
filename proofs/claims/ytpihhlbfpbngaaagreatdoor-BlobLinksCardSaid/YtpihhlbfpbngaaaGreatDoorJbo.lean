/- The walks and laws that the claim leans on, part 41. -/
import Derived.Test.YtpihhlbfpbngaaaGreatDoorJav
import Derived.Test.YtpihhlbfpbngaaaGreatDoorJbn
import Derived.Laws.CopyOwn
namespace Go.Proofs.YtpihhlbfpbngaaaGreatDoor
open Go.RowKit Go.Maps
def linkW (p next : Nat) (l : List Nat) : List (Nat × Nat) := [(pOff p, next), (pOff p + 8 * (l.length - 1), sumW ((l.set 0 next).take (l.length - 1)))]
def RetLk (w : World) (p next : Nat) (l : List Nat) (e : Ending) (w' : World) : Prop :=
  ∃ g, e = .returned (.tuple #[.slice (some ⟨g, 0, none⟩) 2 2, .int .i64 0]) ∧ Reads w' w'.heap.size 2 (some ⟨g, 0, none⟩) 2 (wrCells (linkW p next l)) ∧ w.heap.size ≤ g ∧ Below w.heap.size w w'
section
variable {a : DA} {L T s n K : Nat} {x : HA} {cs : Nat → CS} {f : Nat → Option Nat} {N m b0 : Nat} {S : Fp} {cur : Nat → Nat} {w w' : World} {d r : Nat}
set_option maxRecDepth 100000
set_option maxHeartbeats 4000000
theorem link_any (h : SD a L T s n K x cs f N m b0 S cur w d r) (p next rest : Nat) (l : List Nat) (hp0 : p ≠ 0) (hp64 : p < 18446744073709551616) (hnx : next < 18446744073709551616) (hc : chkR s K cs p 1 = 0) (hl : loadR L cur p = some (l, rest)) :
    Calls Tryz.prog 33 #[dirV d, .int .u64 (p : Int), .int .u64 (next : Int)] w (RetLk w p next l) := by
  have HC := Lib.hid (checkD h p 1 hp64 (by omega))
  rw [hc] at HC
  rw [show ((1 : Nat) : Int) = 1 from rfl, show ((0 : Nat) : Int) = 0 from rfl] at HC
  have HEr : Hid (∀ W, Below w.heap.size w W → Calls Tryz.prog 361 #[.pointer (some ⟨d, 0, none⟩)] W fun e w' => e = .returned (.int .i64 0) ∧ W = w') := Lib.hid (fun W hW => errD (h.ds.dev.below hW) (h.dir.below hW h.dir.lt))
  have hmE := methDErr (some ⟨d, 0, none⟩)
  have hmC := methDCheck (some ⟨d, 0, none⟩)
  have hnil : ∀ W, (binOp .eql 113 (.iface 37 (.pointer (some ⟨d, 0, none⟩))) .nilIface).run Tryz.prog W = .ok (.bool false) W := fun W => by rfl
  obtain ⟨l1, l2, l3, l4⟩ := loadR_len hl
  have hb3 := bSize_le rest
  obtain ⟨nn, hnn⟩ : ∃ nn, l.length = nn := ⟨_, rfl⟩
  have hnn60 : 3 ≤ nn ∧ nn ≤ 60 := by omega
  have HL : Hid (∀ W, Below w.heap.size w W → Calls Tryz.prog 84 #[.iface 37 (.pointer (some ⟨d, 0, none⟩)), .int .u64 (p : Int)] W fun e w' => ∃ g, e = .returned (.tuple #[.slice (some ⟨g, 0, none⟩) nn nn, .int .i64 (rest : Int), .int .i64 0]) ∧ Blk w' g 26 (uA l) ∧ W.heap.size ≤ g ∧ Below W.heap.size W w') := Lib.hid (fun W hW => by
    have h1 := bload_any (h.ds.dev.below hW) (h.dir.below hW h.dir.lt) (h.ds.pay.below hW) h.ds.bnd p hp0 hp64
    rw [hl] at h1
    rw [← hnn]
    exact h1)
  have HLb : Hid (∀ x ∈ l.set 0 next, x < 18446744073709551616) := Lib.hid (fun x hx => by
    rcases List.mem_or_eq_of_mem_set hx with hx | hx
    · obtain ⟨j, hj, rfl⟩ := List.getElem_of_mem hx
      rw [l4 j hj]
      exact h.ds.bnd _
    · rw [hx]; exact hnx)
  have HAt : Hid (∀ (j : Nat) (W : World), j < nn → Calls Tryz.prog 24 #[.int .u64 (p : Int), .int .i64 (j : Int)] W fun e w' => e = .returned (.int .u64 ((pOff p + 8 * j : Nat) : Int)) ∧ W = w') := Lib.hid (fun j W hj => by
    have h1 := at_any p j (by omega) W
    have h2 : pAt p j = pOff p + 8 * j := by unfold pAt; rw [if_neg (by omega)]
    rw [h2] at h1
    exact h1)
  have HTab := Lib.hid h.ds.tab
  have HNn := Lib.hid hnn
  clear h hc hl l1 l2 l3 l4 hb3 hnn
  unfold dirV
  go_enter Tryz.func33, Tryz.ntmps33
  go_wp2_with (first
    | (go_at_call 361; refine (HEr.out _ (Below.refl _ _)).mono ?_; rintro e w2 ⟨rfl, rfl⟩)
    | (go_at_call 31; refine HC.out.mono ?_; rintro e w1 ⟨rfl, hb1⟩; have HB1 := Lib.hid hb1; clear hb1)
    | (go_at_call 84; refine (HL.out _ HB1.out).mono ?_; rintro e w2 ⟨g, rfl, hB2, hg2, hb2⟩; refine stop ?_))
  unfold Stop
  have HB2 := Lib.hid (HB1.out.trans (hb2.mono HB1.out.size))
  have HG2 : Hid (w.heap.size ≤ g) := Lib.hid (Nat.le_trans HB1.out.size hg2)
  have z0 : w2.frozen? ⟨g, 0, none⟩ = false := hB2.frozen 0
  have hl0 : 0 < l.length := by have := HNn.out; omega
  have c0 : w2.cell? ⟨g, 0, none⟩ = some (.int .u64 (l[0] : Int)) := by rw [hB2.cell]; exact uA_at hl0
  have hl0' : l.length = nn := HNn.out
  obtain ⟨j, hj⟩ : ∃ j, nn = j + 1 := ⟨nn - 1, by omega⟩
  obtain ⟨sm, hsm⟩ : ∃ sm, sumW ((l.set 0 next).take j) = sm := ⟨_, rfl⟩
  have hsm32 : sm < 4294967296 := by rw [← hsm]; exact sumW_lt _
  have HK : Hid (Blk (w2.setCell ⟨g, 0, none⟩ (.int .u64 (next : Int))) g 26 (uA (l.set 0 next))) := Lib.hid (by
    have h1 := hB2.set_ 0 (.int .u64 (next : Int))
    rw [uA_set] at h1
    exact h1)
  have HB3 : Hid (Below w.heap.size w (w2.setCell ⟨g, 0, none⟩ (.int .u64 (next : Int)))) := Lib.hid (HB2.out.setCell HG2.out _)
  have hLl : ((l.set 0 next).take j).length = j := by rw [List.length_take, List.length_set]; omega
  have HSe : Hid (Calls Tryz.prog 85 #[.slice (some ⟨g, 0, none⟩) nn nn] (w2.setCell ⟨g, 0, none⟩ (.int .u64 (next : Int))) fun e w' => e = .returned (.tuple #[]) ∧ Hid (w'.cell? ⟨g, 0, none⟩ = some (.int .u64 (next : Int)) ∧ w'.cell? ⟨g, j, none⟩ = some (.int .u64 (sm : Int)) ∧ Below w.heap.size w w')) := Lib.hid (by
    refine (seal_blob g nn nn (l.set 0 next) _ HK.out (by rw [List.length_set]; exact hl0') (by omega) (by omega) (Nat.le_refl _) (by omega) HLb.out (HTab.out.below HB3.out)).mono ?_
    rintro e w' ⟨h1, h2, h3⟩
    rw [List.length_set, hl0', hj, Nat.add_sub_cancel, hsm] at h2
    refine ⟨h1, Lib.hid ⟨?_, ?_, HB3.out.trans (h3.toBelow HB3.out.size (fun k hk => by subst hk; exact HG2.out))⟩⟩
    · rw [h2.cell, uA_at (by rw [List.length_append, hLl]; exact Nat.succ_pos _), List.getElem_append_left (by omega), List.getElem_take, List.getElem_set_self]
    · rw [h2.cell, uA_at (by rw [List.length_append, hLl]; exact Nat.lt_succ_self _), List.getElem_append_right (by omega)]
      simp)
  have q0 : (0 : Int) < (nn : Int) := by omega
  have q1 : (j : Int) < (nn : Int) := by omega
  have q2 : (0 : Int) ≤ (j : Int) := by omega
  have q3 : (nn : Int) - 1 = (j : Int) := by omega
  have q4 : wrap64 ((nn : Int) - 1) = (j : Int) := by rw [IntWalk.wrap64_in _ (by omega)]; exact q3
  have HQ := Lib.hid (And.intro q3 q4)
  have HA0 : Hid (∀ W, Calls Tryz.prog 24 #[.int .u64 (p : Int), .int .i64 0] W fun e w' => e = .returned (.int .u64 (pOff p : Int)) ∧ W = w') := Lib.hid (fun W => HAt.out 0 W (by omega))
  have HAj : Hid (∀ W, Calls Tryz.prog 24 #[.int .u64 (p : Int), .int .i64 (j : Int)] W fun e w' => e = .returned (.int .u64 ((pOff p + 8 * j : Nat) : Int)) ∧ W = w') := Lib.hid (fun W => HAt.out j W (by omega))
  have HLW : Hid (linkW p next l = [(pOff p, next), (pOff p + 8 * j, sm)]) := Lib.hid (by unfold linkW; rw [hl0', hj, Nat.add_sub_cancel, hsm])
  generalize l[0] = y0 at *
  generalize pOff p + 8 * j = O2 at *
  generalize pOff p = O1 at *
  clear hB2 hg2 hb2 HL HC HEr hl0 hl0' hj hsm hLl HAt HLb HK q3
  go_wp2_with (go_at_call 85; refine HSe.out.mono ?_; rintro e w4 ⟨rfl, hh⟩; refine stop ?_)
  unfold Stop
  obtain ⟨s1, s2, hb4⟩ := hh.out
  have HB4 := Lib.hid hb4
  have fs : w4.drew.cell? ⟨g, 0, none⟩ = some (.int .u64 (next : Int)) ∧ w4.drew.cell? ⟨g, j, none⟩ = some (.int .u64 (sm : Int)) := ⟨s1, s2⟩
  have HF : Hid (RetLk w p next l (.returned (.tuple #[.slice (some ⟨w4.drew.heap.size, 0, none⟩) 2 2, .int .i64 0])) (w4.drew.alloc (.cells #[.int .u64 (O1 : Int), .int .u64 (next : Int), .int .u64 (O2 : Int), .int .u64 (sm : Int)] 76))) := Lib.hid (by
    refine ⟨w4.drew.heap.size, rfl, ?_, by have := hb4.size; exact this, hb4.drew.alloc hb4.drew.size _⟩
    rw [HLW.out, show (w4.drew.alloc (.cells #[.int .u64 (O1 : Int), .int .u64 (next : Int), .int .u64 (O2 : Int), .int .u64 (sm : Int)] 76)).heap.size = w4.drew.heap.size + 1 by simp]
    exact row_reads_at _ _ rfl _ 2 2 76 _ rfl rfl)
  clear hh hb4 s1 s2 HSe
  go_upto_region 15 with fail
  refine wp_region_scriptH (fun w' => w'.cell? ⟨g, 0, none⟩ = some (.int .u64 (next : Int)) ∧ w'.cell? ⟨g, j, none⟩ = some (.int .u64 (sm : Int))) 14 [] [(1, 0), (1, 2), (1, 3), (1, 4), (1, 6), (1, 7), (1, 9), (1, 10), (1, 11), (1, 12), (0, 1), (1, 5), (0, 8), (1, 13)] (by kernel_rfl) (by kernel_rfl) fs ?_
  refine wpScriptH_take (.int .u64 (p : Int)) (by rfl) (by rfl) (fun w' hS => ?_) ?_
  · go_simp
  simp only [zA, zB, Act.put, zD, zE, zF]
  refine wpScriptH_take (.slice (some ⟨g, 0, none⟩) nn nn) (by rfl) (by rfl) (fun w' hS => ?_) ?_
  · go_simp
  simp only [zA, zB, zC, Act.put, zD, zE, zF]
  refine wpScriptH_take (.pointer (some ⟨g, 0, none⟩)) (by rfl) (by rfl) (fun w' hS => ?_) ?_
  · have hn0 : ¬ nn = 0 := by omega
    go_simp
  simp only [zA, zB, zC, Act.put, zD, zE, zF]
  refine wpScriptH_take (.int .u64 (next : Int)) (by rfl) (by rfl) (fun w' hS => ?_) ?_
  · obtain ⟨s1, s2⟩ := hS
    go_simp
  simp only [zA, zB, zC, Act.put, zD, zE, zF]
  refine wpScriptH_take (.int .u64 (p : Int)) (by rfl) (by rfl) (fun w' hS => ?_) ?_
  · go_simp
  simp only [zA, zB, zC, Act.put, zD, zE, zF]
  refine wpScriptH_take (.int .i64 (j : Int)) (by rfl) (by rfl) (fun w' hS => ?_) ?_
  · obtain ⟨q3, q4⟩ := HQ.out
    go_simp
  simp only [zA, zB, zC, Act.put, zD, zE, zF]
  refine wpScriptH_take (.slice (some ⟨g, 0, none⟩) nn nn) (by rfl) (by rfl) (fun w' hS => ?_) ?_
  · go_simp
  simp only [zA, zB, zC, Act.put, zD, zE, zF]
  refine wpScriptH_take (.int .i64 (j : Int)) (by rfl) (by rfl) (fun w' hS => ?_) ?_
  · obtain ⟨q3, q4⟩ := HQ.out
    go_simp
  simp only [zA, zB, zC, Act.put, zD, zE, zF]
  refine wpScriptH_take (.pointer (some ⟨g, j, none⟩)) (by rfl) (by rfl) (fun w' hS => ?_) ?_
  · go_simp
  simp only [zA, zB, zC, Act.put, zD, zE, zF]
  refine wpScriptH_take (.int .u64 (sm : Int)) (by rfl) (by rfl) (fun w' hS => ?_) ?_
  · obtain ⟨s1, s2⟩ := hS
    go_simp
  simp only [zA, zB, zC, Act.put, zD, zE, zF]
  refine wpScriptH_do (by rfl) ?_
  go_wp2_with (go_at_call 24; refine (HA0.out _).mono ?_; rintro e w5 ⟨rfl, rfl⟩)
  refine ⟨fs, ?_⟩
  refine wpScriptH_take (.agg #[.int .u64 (O1 : Int), .int .u64 (next : Int)]) (by rfl) (by rfl) (fun w' hS => ?_) ?_
  · go_simp
  simp only [zA, zB, zC, Act.put, zD, zE, zF]
  refine wpScriptH_do (by rfl) ?_
  go_wp2_with (go_at_call 24; refine (HAj.out _).mono ?_; rintro e w5 ⟨rfl, rfl⟩)
  refine ⟨fs, ?_⟩
  refine wpScriptH_take (.agg #[.int .u64 (O2 : Int), .int .u64 (sm : Int)]) (by rfl) (by rfl) (fun w' hS => ?_) ?_
  · go_simp
  simp only [zA, zB, zC, Act.put, zD, zE, zF]
  show wpList _ _ _ _ _ _
  simp only [List.drop_succ_cons, List.drop_zero]
  go_wp2_with fail
  refine NoPanic.normal ?_
  go_wp2_with fail
  go_ret2
  exact HF.out
end
end Go.Proofs.YtpihhlbfpbngaaaGreatDoor
namespace Go.Proofs.YtpihhlbfpbngaaaGreatDoor
open Go.RowKit Go.Maps
theorem infoPtr : (Tryz.prog.info? 27).map (fun i => (i.zero, i.size, i.bytes)) = some (some (.int .u64 0), 1, 8) := by kernel_rfl
section
variable {P : Program} (w : World)
theorem wpList_app3 {ops : Array Oper} {rest : List Oper} {o : Oper} {a : Act} {Q : Exit → Act → World → Prop} (s x : Operand) (t : TypeId)
    (hw : Region.wanted o (yielded ops a.tmps) = true)
    (ho : o.op = .call { callee := .builtin .append, args := #[s, x], argTypes := #[t, t] })
    (base : Nat) (e : TypeId) (i : TypeInfo) (z : Value) (size bytes : Nat) (ht : P.underlying t = some (.slice e)) (hi : P.info? e = some i) (hz : i.zero = some z)
    (hsize : i.size = size) (hby : i.bytes = bytes) (hzs : z.cells.size = size) (hsz : 0 < size)
    (v : Value) (n : Nat) (xs : List Value) (hs : a.eval s = v) (hown : w.ownsRow base e size v n xs)
    (B : Nat) (A : Option Addr) (m c : Nat) (news : List Value) (hx : a.eval x = .slice A m c) (hr : Reads w B size A m news) (h1 : ∀ u ∈ news, u.oneCell' = true)
    (h63 : n + m ≤ maxLen) (hbytes : (n + m) * bytes ≤ 140737488355328) (hbase : base ≤ w.heap.size)
    (h : ∀ A' n' c' w', n' = n + m → w'.ownsRow base e size (.slice A' n' c') n' (xs ++ news) → w.grownBy w' v.ownBlock → ((Value.slice A' n' c').ownBlock = v.ownBlock ∨ (Value.slice A' n' c').ownBlock = some w.heap.size) → wpList P ops Q rest (a.put o.dst (.slice A' n' c')) w') : wpList P ops Q (o :: rest) a w := by
  refine Go.BigFrame.wpList_want hw fun K hK => ?_
  refine wp_append_any w s x t ho base e i z size bytes ht hi hz hsize hby hzs hsz v n xs hs hown B A m c news hx hr h1 h63 hbytes hbase fun v' w' h2 h3 h4 => ?_
  obtain ⟨A', c', rfl⟩ := own_slice h2
  exact hK _ _ (h A' _ c' w' rfl h2 h3 h4)
end
section
variable {a : DA} {L T s n K : Nat} {x : HA} {cs : Nat → CS} {f : Nat → Option Nat} {N m b0 : Nat} {S : Fp} {cur : Nat → Nat} {w w' : World} {d r : Nat}
structure LoS (x : HA) (d r b0 B : Nat) : Prop where
  h : x.h < B
  gs : x.gs < B
  pl : x.pl < B
  mr : x.mr < B
  mh : x.mh < B
  d : d < B
  r : r < B
  b : b0 ≤ B
theorem SD.lo (h : SD a L T s n K x cs f N m b0 S cur w d r) : LoS x d r b0 w.heap.size := by
  obtain ⟨h1, h2, h3, h4, h5⟩ := h.ds.hs.lt
  obtain ⟨_, _, l3, _⟩ := h.ds.lo
  exact ⟨h1, h2, h3, h4, h5, h.dir.lt, h.log.lt, by omega⟩
theorem SD.chg {Z : Fp} {B : Nat} (h : SD a L T s n K x cs f N m b0 S cur w d r) (hl : LoS x d r b0 B) (hc : Chg Z w w') (hZ : ∀ k, Z k → ¬ S k ∧ B ≤ k) : SD a L T s n K x cs f N m b0 S cur w' d r := by
  have hn : ∀ g, g < B → ¬ Z g := fun g hg hz => by have := (hZ g hz).2; omega
  obtain ⟨l1, l2, l3, l4, l5, l6, l7, l8⟩ := h.ds.lo
  refine { h with ds := { h.ds with dev := h.ds.dev.chg hc (fun j hj hz => (hZ j hz).1 hj), hs := h.ds.hs.chg hc (hn _ hl.h) (hn _ hl.gs) (hn _ hl.pl) (hn _ hl.mr) (hn _ hl.mh), tab := h.ds.tab.chg hc (hn _ (by have := hl.b; omega)), pay := fun i hi => ?_ }, dir := hc.blk h.dir (hn _ hl.d), log := hc.blk h.log (hn _ hl.r) }
  exact (World.cell?_of_block (w := w) (hc.block _ h.ds.pay.size (hn _ (by have := hl.b; show 2 < B; omega)))).trans (h.ds.pay i hi)
theorem run_storesD {L' : Nat} (h : Dev a L T w S cur 0) {g : Nat} (hB : Blk w d 143 (dirCells a g r)) (hdS : ¬ S d) {A : Option Addr} {m c base : Nat} {p : List Ins} {ws : List (Nat × Nat)} (ho : w.ownsRow base 237 3 (.slice A m c) m (insCells p)) (hb : ∀ k, S k → k < base) (hp : IsStores ws p)
    (hw : ∀ e ∈ ws, e.1 % 8 = 0 ∧ e.1 < 64 * L ∧ e.2 < 18446744073709551616) (hl : ws.length ≤ 1000) (hL' : 2 * ws.length + 1 ≤ L') (hT : T + L' ≤ 1000000000) :
    Calls Tryz.prog 73 #[.slice A m c, dirV d] w (RetDev a L (T + L') w S (wrS cur ws) 0 (.int .i64 0)) := by
  obtain ⟨hg, hr, hlen⟩ := isStores_good hp hw cur
  have hm : p.length = m := by have := ho.1; rw [insCells_len] at this; omega
  refine (runD_any h hB hdS A m c p (Reads.of_own ho) ?_ hg (by omega) (by omega)).mono ?_
  · intro ad had hs
    rcases ho.2 with ⟨hv, _⟩ | ⟨g, cap, cs, hv, hge, _⟩
    · injection hv with h1; rw [h1] at had; cases had
    · injection hv with h1
      rw [h1] at had
      injection had with h2
      subst h2
      have := hb _ hs
      simp at this
      omega
  · rintro e w' ⟨he, S', hd, hc, hgr⟩
    rw [hr] at hd
    exact ⟨he, S', hd.more (by omega) (by omega), hc, hgr⟩
theorem At.inL {q k i : Nat} (h : At s K cs q k i) (hd : DS a L T s n K x cs f N m b0 S cur w) : pOff q + 8 * payW (cs k).cl ≤ 64 * L ∧ pOff q % 8 = 0 := by
  have h1 := h.lo
  have h2 := off_lt h.2.2.1
  have h3 := hd.line h.1
  omega
def RetPaid (a : DA) (L T s n K : Nat) (x : HA) (cs : Nat → CS) (f : Nat → Option Nat) (N m b0 : Nat) (S : Fp) (cur : Nat → Nat) (w : World) (d r : Nat) (e : Ending) (w' : World) : Prop :=
  e = .returned (.int .i64 0) ∧ ∃ S', SD a L T s n K x cs f N m b0 S' cur w' d r ∧ Chg S w w' ∧ Grew S S' w
theorem SD.paid (h : SD a L T s n K x cs f N m b0 S cur w d r) {q k i : Nat} {l : List Nat} (hq : At s K cs q k i) (hl : l.length = payW (cs k).cl) (hv : ∀ y ∈ l, y < 18446744073709551616) {A : Option Addr} {mm c base : Nat} {p : List Ins} (ho : w.ownsRow base 237 3 (.slice A mm c) mm (insCells p)) (hb : ∀ k, S k → k < base) (hp : IsStores (pwW (pOff q) l) p) (hT : T + 200 ≤ 1000000000) :
    Calls Tryz.prog 73 #[.slice A mm c, dirV d] w (RetPaid a L (T + 200) s n K x cs f N m b0 S (wrS cur (pwW (pOff q) l)) w d r) := by
  obtain ⟨h1, h2⟩ := hq.inL h.ds
  have h60 := (pay_le (cs k).cl).2
  have hgetD : ∀ j, j < l.length → l.getD j 0 < 18446744073709551616 := fun j hj => by
    rw [List.getD_eq_getElem?_getD, List.getElem?_eq_getElem hj]
    exact hv _ (List.getElem_mem hj)
  have hw : ∀ e ∈ pwW (pOff q) l, e.1 % 8 = 0 ∧ e.1 < 64 * L ∧ e.2 < 18446744073709551616 := fun e he => by
    obtain ⟨j, hj, rfl⟩ := pwW_mem he
    exact ⟨by show (pOff q + 8 * j) % 8 = 0; omega, by show pOff q + 8 * j < 64 * L; omega, hgetD j hj⟩
  refine (run_storesD (L' := 200) h.ds.dev h.dir h.offd ho hb hp hw (by rw [pwW_len]; omega) (by rw [pwW_len]; omega) hT).mono ?_
  rintro e w' ⟨rfl, S', hd, hc, hg⟩
  refine ⟨rfl, S', ?_, hc, hg⟩
  have hds := h.ds.dev_ hd hc hg (h.ds.ok_pay hq.1 hq.2.1 rfl hq.2.2.1 (fun e he => by
    obtain ⟨j, hj, rfl⟩ := pwW_mem he
    exact ⟨j, by omega, by show pOff q + 8 * j = _; rw [hq.2.2.2]; rfl⟩)) (wrS_bnd _ _ h.ds.bnd (fun e he => (hw e he).2.2))
  refine h.keep hds (hc.mono (fun _ h => .inl h)) hg ?_
  rw [pwW_other hq (by omega) (fun j _ => by have := h.ln; omega)]
  exact h.idle
end
end Go.Proofs.YtpihhlbfpbngaaaGreatDoor
namespace Go.Proofs.YtpihhlbfpbngaaaGreatDoor
open Go.RowKit Go.Maps
def KeepL (K : Nat) (cs : Nat → CS) (cur : Nat → Nat) (bl : List Nat) (cs' : Nat → CS) (cur' : Nat → Nat) : Prop :=
  ∀ q kind k i, LiveA 53 K cs q kind k i → LiveA 53 K cs' q kind k i ∧ (cs' k).cl = (cs k).cl ∧ pOff q ∉ bl.map pOff ∧ ∀ j, j < payW (cs k).cl → cur' (pOff q / 8 + j) = cur (pOff q / 8 + j)
section
variable {a : DA} {L T n K : Nat} {x : HA} {cs cs2 : Nat → CS} {f f2 : Nat → Option Nat} {N m b0 : Nat} {S : Fp} {cur cur2 : Nat → Nat} {w : World} {al p bl ks : List Nat} {V : Nat → Nat} {cm i v : Nat}
theorem keepL_of (hd : DS a L T 53 n K x cs2 f2 N m b0 S cur2 w) (hw : W2 53 K cs f cur al p cs2 f2 cur2 bl bl.length) (hA : AOk 53 K cs2 ks (tlOf 53 cs2 bl) (dlOf 53 cs2 []) V)
    (h96 : ([(3328 + 8 * i, v)] ++ ks.flatMap (acW 53 cs2 (tlOf 53 cs2 bl) (dlOf 53 cs2 []) V)).length ≤ 96) (hi : i < 8) :
    KeepL K cs cur bl (acC cs2 ks (tlOf 53 cs2 bl) (dlOf 53 cs2 []) V) (rdG 0 cur2 ([(3328 + 8 * i, v)] ++ ks.flatMap (acW 53 cs2 (tlOf 53 cs2 bl) (dlOf 53 cs2 []) V)) cm) := by
  intro q kind k i2 hl
  have hat := hl.at_
  have e1 := hw.w1.fr.chunk k hat.1 hat.2.1
  have hst : ((cs k).bs i2).st = 177 := by rw [hl.bk]
  have hnv : ¬ Vac 53 K cs f (cs k).cl k i2 := fun hv => by
    have := hv.2.2.2.2.1
    omega
  have hl2 : LiveA 53 K cs2 q kind k i2 := ⟨⟨hat.1, by rw [e1]; exact hat.2.1, by rw [e1]; exact hat.2.2.1, by rw [hat.2.2.2]; unfold offO; rw [e1]⟩, by rw [e1]; exact hl.bk, hl.kind_, hl.nz, hl.lt, hl.top⟩
  have hne : ∀ r ∈ bl, pOff r ≠ pOff q := fun r hr e => hnv (hw.w1.fresh r hr k i2 ⟨hat.1, hat.2.1, hat.2.2.1, e.trans hat.2.2.2⟩)
  have hat2 : ∀ r ∈ bl, ∃ k i, At 53 K cs2 r k i := fun r hr => by
    obtain ⟨j, hj, e⟩ := List.getElem_of_mem hr
    obtain ⟨k3, i3, h3, _⟩ := (hw.w1.rq j hj).cls
    exact ⟨k3, i3, e ▸ h3⟩
  refine ⟨pub_live hat2 (fun r hr => absurd hr (by simp)) hl2 hne (fun r hr => absurd hr (by simp)), ?_, ?_, fun j hj => ?_⟩
  · obtain ⟨_, e2, _⟩ := acC_dv cs2 ks (tlOf 53 cs2 bl) (dlOf 53 cs2 []) V k
    rw [e2, e1]
  · intro hm
    obtain ⟨r, hr, e⟩ := List.mem_map.1 hm
    exact hne r hr e
  · have hl3 := hl2.at_.lines.1
    have h5 := hw.w1.fr.held k i2 hat.1 hat.2.1 hat.2.2.1 hnv j hj
    have h6 := pub_pay (s0 := 0) (cm := cm) (j := j) hd (by omega) hA h96 hl2.at_.1 hl2.at_.2.1 hl2.at_.2.2.1 (by rw [e1]; exact hj) (fun e he => by
      simp at he
      subst he
      show (3328 + 8 * i) / 8 ≠ _
      omega)
    rw [e1] at h6 hl3
    rw [hl3]
    exact h6.trans h5
end
end Go.Proofs.YtpihhlbfpbngaaaGreatDoor
namespace Go.Proofs.YtpihhlbfpbngaaaGreatDoor
open Go.RowKit Go.Maps
theorem methDAlloc (p : Option Addr) (w : World) : (method 519 37 (.pointer p) "Alloc").run Tryz.prog w = .ok (29, .pointer p) w := by kernel_rfl
theorem aheadDAlloc (p : Addr) (w : World) : (nilAhead 519 37 (.pointer (some p)) "Alloc").run Tryz.prog w = .ok (some false) w := by kernel_rfl
structure WrI (a : DA) (L T s n K : Nat) (x : HA) (N m b0 : Nat) (S0 : Fp) (d r : Nat) (w wr : World) (A : Option Addr) (mm c : Nat) (bl : List Nat) (cs : Nat → CS) (f : Nat → Option Nat) (S : Fp) (cur : Nat → Nat) : Prop where
  sd : SD a L T s n K x cs f N m b0 S cur wr d r
  chg : Chg (sfp S0 x) w wr
  grew : Grew S0 S w
  spc : Blk wr w.heap.size 113 #[dirV d]
  cell : Blk wr (w.heap.size + 1) 28 #[.slice A mm c]
  own : wr.ownsRow (w.heap.size + 2) 27 1 (.slice A mm c) mm (uCells bl)
  len : mm = bl.length
  off : ¬ S w.heap.size ∧ ¬ S (w.heap.size + 1) ∧ ∀ g, (Value.slice A mm c).ownBlock = some g → ¬ S g
section
variable {a : DA} {L T s n K : Nat} {x : HA} {N m b0 : Nat} {S0 : Fp} {d r : Nat} {w wr w' : World} {A : Option Addr} {mm c : Nat} {bl : List Nat} {cs : Nat → CS} {f : Nat → Option Nat} {S : Fp} {cur : Nat → Nat}
theorem WrI.size (h : WrI a L T s n K x N m b0 S0 d r w wr A mm c bl cs f S cur) : w.heap.size + 2 ≤ wr.heap.size := by
  have := h.cell.lt
  omega
theorem WrI.sdo {T' N' m' : Nat} {cs' : Nat → CS} {f' : Nat → Option Nat} {S' : Fp} {cur' : Nat → Nat} (h : WrI a L T s n K x N m b0 S0 d r w wr A mm c bl cs f S cur) (hlo : LoS x d r b0 w.heap.size) (hd : SD a L T' s n K x cs' f' N' m' b0 S' cur' w' d r) (hc : Chg (sfp S x) wr w') (hg : Grew S S' wr) :
    WrI a L T' s n K x N' m' b0 S0 d r w w' A mm c bl cs' f' S' cur' := by
  have hfp : ∀ k, w.heap.size ≤ k → ¬ x.fp k := fun k hk hz => by
    rcases hz with e | e | e
    · have := hlo.pl; omega
    · have := hlo.mr; omega
    · have := hlo.mh; omega
  have hsz := h.size
  have hown := h.own.lt
  refine ⟨hd, h.chg.trans hc (fun k hk => ?_), h.grew.trans hg h.chg.size, hc.blk h.spc ?_, hc.blk h.cell ?_, hc.own h.own (fun g hg' => ?_), h.len, ⟨hg.off ⟨by omega, h.off.1⟩, hg.off ⟨by omega, h.off.2.1⟩, fun g hg' => hg.off ⟨(hown g hg').2, h.off.2.2 g hg'⟩⟩⟩
  · rcases hk with hk | hk
    · rcases h.grew k hk with h1 | h1
      · exact .inl (.inl h1)
      · exact .inr h1
    · exact .inl (.inr hk)
  · rintro (e | e)
    · exact h.off.1 e
    · exact hfp _ (Nat.le_refl _) e
  · rintro (e | e)
    · exact h.off.2.1 e
    · exact hfp _ (by omega) e
  · rintro (e | e)
    · exact h.off.2.2 g hg' e
    · exact hfp g (by have := (hown g hg').1; omega) e
theorem WrI.below (h : WrI a L T s n K x N m b0 S0 d r w wr A mm c bl cs f S cur) (hb : Below wr.heap.size wr w') : WrI a L T s n K x N m b0 S0 d r w w' A mm c bl cs f S cur :=
  ⟨h.sd.below hb, h.chg.below hb, h.grew, h.spc.below hb h.spc.lt, h.cell.below hb h.cell.lt, own_below h.own hb, h.len, h.off⟩
theorem WrI.push {W W' : World} {A' : Option Addr} {m' c' q : Nat} {o : Obj} (h : WrI a L T s n K x N m b0 S0 d r w wr A mm c bl cs f S cur) (hlo : LoS x d r b0 w.heap.size) (hW : W = wr.alloc o) (hm : m' = mm + 1) (ho : W'.ownsRow (w.heap.size + 2) 27 1 (.slice A' m' c') m' (uCells bl ++ [.int .u64 (q : Int)])) (hg : W.grownBy W' (Value.slice A mm c).ownBlock) (hv : (Value.slice A' m' c').ownBlock = (Value.slice A mm c).ownBlock ∨ (Value.slice A' m' c').ownBlock = some W.heap.size) :
    WrI a L T s n K x N m b0 S0 d r w (W'.setCell ⟨w.heap.size + 1, 0, none⟩ (.slice A' m' c')) A' m' c' (bl ++ [q]) cs f S cur := by
  subst hW
  have hsz := h.size
  have hown := h.own.lt
  have h1 := h.below ((Below.refl _ wr).alloc (Nat.le_refl _) o)
  have hc : Chg (fun k => k = w.heap.size + 1 ∨ (Value.slice A mm c).ownBlock = some k) (wr.alloc o) (W'.setCell ⟨w.heap.size + 1, 0, none⟩ (.slice A' m' c')) :=
    ((Chg.refl _ (wr.alloc o)).grown hg (fun g e => .inl (.inr e))).setCell (p := ⟨w.heap.size + 1, 0, none⟩) (.inl (.inl rfl)) _
  have hZ : ∀ k, (k = w.heap.size + 1 ∨ (Value.slice A mm c).ownBlock = some k) → ¬ S k ∧ w.heap.size ≤ k := fun k hk => by
    rcases hk with rfl | hk
    · exact ⟨h.off.2.1, by omega⟩
    · exact ⟨h.off.2.2 k hk, by have := (hown k hk).1; omega⟩
  have hsd := h1.sd.chg hlo hc hZ
  have hcl : Blk W' (w.heap.size + 1) 28 #[.slice A mm c] := h1.cell.grown hg (fun e => by have := (hown _ e.symm).1; omega)
  refine ⟨hsd, ?_, h.grew, ?_, hcl.set_ 0 _, ?_, ?_, ⟨h.off.1, h.off.2.1, fun g hg' => ?_⟩⟩
  · refine h1.chg.trans (S' := fun k => k = w.heap.size + 1 ∨ (Value.slice A mm c).ownBlock = some k) hc (fun k hk => ?_)
    exact .inr (hZ k hk).2
  · refine hc.blk h1.spc ?_
    rintro (e | e)
    · omega
    · have := (hown _ e).1; omega
  · have e : uCells (bl ++ [q]) = uCells bl ++ [.int .u64 (q : Int)] := by simp [uCells]
    rw [e]
    exact own_far ho (p := ⟨w.heap.size + 1, 0, none⟩) (by show w.heap.size + 1 < _; omega) _
  · rw [List.length_append, hm, h.len]; rfl
  · rcases hv with e | e
    · exact h.off.2.2 g (e ▸ hg')
    · rw [e] at hg'
      injection hg' with hg'
      subst hg'
      intro hs
      have := h1.sd.ds.dev.lt _ hs
      omega
end
end Go.Proofs.YtpihhlbfpbngaaaGreatDoor
namespace Go.Proofs.YtpihhlbfpbngaaaGreatDoor
open Go.RowKit Go.Maps
structure PutP (L K : Nat) (f : Nat → Option Nat) (al p : List Nat) (i : Nat) (bl : List Nat) (cs' : Nat → CS) (f' : Nat → Option Nat) (cur' : Nat → Nat) : Prop where
  len : bl.length = nBlk p.length
  chain : Chain L cur' (fun q => chkR 53 K cs' q 1) bl p
  live : ∀ j (h : j < bl.length), ∃ k i2, LiveA 53 K cs' bl[j] 1 k i2 ∧ payW (cs' k).cl = bSize (p.length - 456 * j)
  words : ∀ j (h : j < bl.length), WordsAt cur' bl[j] (payL (bl.getD (j + 1) 0) (p.drop (456 * j)))
  cap : Cap 53 K cs' f' (alW p.length al (nBlk p.length))
  fo : ∀ o, o ∉ bl.map pOff → f' o = f o
  fi : ∀ o, o ∈ bl.map pOff → f' o = none
  nd : (bl.map pOff).Nodup
section
variable {a : DA} {L T n K : Nat} {x : HA} {cs cs2 : Nat → CS} {f f2 : Nat → Option Nat} {N m b0 : Nat} {S : Fp} {cur cur2 : Nat → Nat} {w : World} {al p bl ks : List Nat} {V : Nat → Nat} {cm i : Nat}
theorem nBlk_drop (p : List Nat) : 0 < nBlk p.length := by unfold nBlk; split <;> omega
theorem putP_of (hd : DS a L T 53 n K x cs2 f2 N m b0 S cur2 w) (hw : W2 53 K cs f cur al p cs2 f2 cur2 bl bl.length) (hlen : bl.length = nBlk p.length) (hp : p.length ≤ 2000) (hA : AOk 53 K cs2 ks (tlOf 53 cs2 bl) (dlOf 53 cs2 []) V) (hks : ∀ k, k ∈ ks ↔ k < K ∧ (tlOf 53 cs2 bl k ≠ [] ∨ dlOf 53 cs2 [] k ≠ []))
    (h96 : ([(3328 + 8 * i, bl.headD 0)] ++ ks.flatMap (acW 53 cs2 (tlOf 53 cs2 bl) (dlOf 53 cs2 []) V)).length ≤ 96) (hi : i < 8) :
    PutP L K f al p i bl (acC cs2 ks (tlOf 53 cs2 bl) (dlOf 53 cs2 []) V) (relF f2 bl) (rdG 0 cur2 ([(3328 + 8 * i, bl.headD 0)] ++ ks.flatMap (acW 53 cs2 (tlOf 53 cs2 bl) (dlOf 53 cs2 []) V)) cm) := by
  have hkeep : ∀ q ∈ bl, KeepOk 53 K cs2 f2 q := fun q hq => by
    obtain ⟨j, hj, e⟩ := List.getElem_of_mem hq
    rw [← e]
    exact (hw.w1.rq j hj).keep
  have hlive : ∀ j (h : j < bl.length), ∃ k i2, LiveA 53 K (acC cs2 ks (tlOf 53 cs2 bl) (dlOf 53 cs2 []) V) bl[j] 1 k i2 ∧ payW ((acC cs2 ks (tlOf 53 cs2 bl) (dlOf 53 cs2 []) V) k).cl = bSize (p.length - 456 * j) ∧ At 53 K cs2 bl[j] k i2 ∧ payW (cs2 k).cl = bSize (p.length - 456 * j) := fun j hj => by
    obtain ⟨k, i2, h1, h2, h3⟩ := pub_keep hA hks (hw.w1.rq j hj) (List.getElem_mem hj) (by omega)
    obtain ⟨_, e2, _⟩ := acC_dv cs2 ks (tlOf 53 cs2 bl) (dlOf 53 cs2 []) V k
    exact ⟨k, i2, h1, by rw [e2, h2, bSize_cls], h3, by rw [h2, bSize_cls]⟩
  have hwords : ∀ j (h : j < bl.length), WordsAt (rdG 0 cur2 ([(3328 + 8 * i, bl.headD 0)] ++ ks.flatMap (acW 53 cs2 (tlOf 53 cs2 bl) (dlOf 53 cs2 []) V)) cm) bl[j] (payL (bl.getD (j + 1) 0) (p.drop (456 * j))) := fun j hj y hy => by
    obtain ⟨k, i2, _, _, h3, h4⟩ := hlive j hj
    have h5 := hw.words j hj hj y hy
    rw [payL_len, List.length_drop] at hy
    have hl := h3.lines.1
    rw [hl] at h5 ⊢
    refine (pub_pay hd (by omega) hA h96 h3.1 h3.2.1 h3.2.2.1 (by omega) (fun e he => ?_)).trans h5
    simp at he
    subst he
    show (3328 + 8 * i) / 8 ≠ _
    omega
  refine ⟨hlen, ?_, fun j hj => ?_, hwords, ?_, fun o ho => ?_, fun o ho => relF_in _ _ _ ho, hw.w1.nd⟩
  · have h1 := chain_words (L := L) (chk := fun q => chkR 53 K (acC cs2 ks (tlOf 53 cs2 bl) (dlOf 53 cs2 []) V) q 1) hlen hp hwords (fun j hj => by
      obtain ⟨k, i2, h1, h2, h3, h4⟩ := hlive j hj
      have h5 := (h3.inL hd).1
      exact ⟨by omega, h1.nz, h1.lt, (Live.chk ⟨k, i2, h1⟩).1⟩) (bl.length - 1) 0 (by have := nBlk_drop p; omega)
    simpa using h1
  · obtain ⟨k, i2, h1, h2, _, _⟩ := hlive j hj
    exact ⟨k, i2, h1, h2⟩
  · have h1 := hw.w1.cap.pub (ks := ks) (V := V) hkeep (free := []) (fun q hq => absurd hq (by simp))
    rw [hlen] at h1
    exact h1
  · rw [relF_out _ _ _ ho]
    exact hw.w1.fo o ho
end
end Go.Proofs.YtpihhlbfpbngaaaGreatDoor
