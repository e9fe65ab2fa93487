/- The walks and laws that the claim leans on, part 23. -/
import Derived.Test.YtpihhlbfpbngaaaGreatDoorJar
import Derived.Shelf.SlMaps.Clone
import Derived.Shelf.SlIter.Sorted
namespace Go.Proofs.YtpihhlbfpbngaaaGreatDoor
open Go.RowKit
def DevNew (a : DA) (T : Nat) (w wr : World) (cur : Nat → Nat) : Prop := ∃ S, Dev a 152 T wr S cur 0 ∧ (∀ k, S k → w.heap.size ≤ k) ∧ Below w.heap.size w wr
theorem DevNew.step {a : DA} {T' : Nat} {w wr w' : World} {S : Fp} {cur' : Nat → Nat} {v : Value} {e : Ending} (hS : ∀ k, S k → w.heap.size ≤ k) (hb : Below w.heap.size w wr) (h : RetDev a 152 T' wr S cur' 0 v e w') : e = .returned v ∧ DevNew a T' w w' cur' := by
  obtain ⟨he, S', hd, hc, hg⟩ := h
  refine ⟨he, S', hd, fun k hk => (hg k hk).elim (hS k) (fun h => Nat.le_trans hb.size h), hb.trans (hc.toBelow hb.size hS)⟩
def curM : Nat → Nat → Nat
  | 0 => arC (wrS (fun _ => 0) [(256, 0)]) 56 3
  | k + 1 => upd (curM k) k (k + 1)
structure Apart (S : Fp) (x : SA) : Prop where
  r : ¬ S x.r
  u : ¬ S x.u
  h : ¬ S x.h
  m : ¬ S x.m
structure Made (w : World) (a : DA) (S : Fp) (T : Nat) (cur : Nat → Nat) (g : Nat) (x : SA) (cs : Array Value) (w' : World) : Prop where
  dev : Dev a 152 T w' S cur 0
  few : T ≤ 100
  pool : Pool cur
  word : ∀ i, i < 32 → cur i = i + 1
  old : ∀ k, S k → w.heap.size ≤ k
  sys : Sys a w' x false none
  apart : Apart S x
  blk : Blk w' g 92 cs
  cells : wCells a x cs
  out : ¬ S g
  new : w.heap.size ≤ g
  news : w.heap.size ≤ x.r ∧ w.heap.size ≤ x.u ∧ w.heap.size ≤ x.h ∧ w.heap.size ≤ x.m
  below : Below w.heap.size w w'
  is_ : cur = curM 32
theorem Made.store {w : World} {a : DA} {S : Fp} {T : Nat} {cur : Nat → Nat} {g : Nat} {x : SA} {cs : Array Value} {w' : World} (h : Made w a S T cur g x cs w') (k : Nat) (hk : 3 ≤ k) (u : Value) : Made w a S T cur g x (cs.setIfInBounds k u) (w'.setCell ⟨g, k, none⟩ u) := by
  have hc : Chg (fun j => j = g) w' (w'.setCell ⟨g, k, none⟩ u) := (Chg.refl (fun j => j = g) w').setCell (p := ⟨g, k, none⟩) (.inl rfl) u
  have hne : ∀ {t : TypeId} {b : Nat} {ds : Array Value}, Blk w' b t ds → t ≠ 92 → ¬ (b = g) := fun hb ht => hb.ne_ h.blk ht
  refine { h with
    dev := h.dev.chg hc (fun j hj e => h.out (e ▸ hj))
    sys := ⟨hc.blk h.sys.r (hne h.sys.r (by decide)), hc.blk h.sys.u (hne h.sys.u (by decide)), hc.blk h.sys.h (hne h.sys.h (by decide)), hc.blk h.sys.m (hne h.sys.m (by decide))⟩
    blk := h.blk.set_ k u
    cells := ?_
    below := h.below.setCell h.new u }
  obtain ⟨h1, h2, h3, h4⟩ := h.cells
  refine ⟨by simpa using h1, ?_, ?_, ?_⟩
  · rw [Array.getElem?_setIfInBounds_ne (by omega)]; exact h2
  · rw [Array.getElem?_setIfInBounds_ne (by omega)]; exact h3
  · rw [Array.getElem?_setIfInBounds_ne (by omega)]; exact h4
set_option maxRecDepth 100000 in
set_option maxHeartbeats 4000000 in
theorem heapFormat_any {a : DA} {L T : Nat} {w : World} {S : Fp} {cur : Nat → Nat} (h : Dev a L T w S cur 0) (ht : Tab w) (hg : ¬ S 0) (s n K : Nat) (hn : 32 ≤ n) (hs : s + n ≤ L) (hK : n / 32 = K) (hT : T + 3 * K ≤ 1000000000) :
    Calls Tryz.prog 57 #[memV a, .int .i64 (s : Int), .int .i64 (n : Int)] w (RetDev a L (T + 3 * K) w S (arC cur s K) 0 (.int .i64 0)) := by
  have HA := Lib.hid (arenaFormat_any h ht hg s n K hn hs hK hT)
  clear h ht
  unfold memV at *
  go_enter Tryz.func57, Tryz.ntmps57
  go_wp2_with fail
  refine HA.out.mono ?_
  rintro e w1 ⟨rfl, h1⟩
  have H1 := Lib.hid h1
  clear h1
  go_wp2
  go_ret
  exact ⟨rfl, H1.out⟩
end Go.Proofs.YtpihhlbfpbngaaaGreatDoor
namespace Go.Proofs.YtpihhlbfpbngaaaGreatDoor
open Go.RowKit Go.Maps
structure CX where
  w0 : World
  a : DA
  x : SA
  gw : Nat
  cs : Array Value
structure Base (c : CX) (w : World) (S : Fp) (lk : Bool) (last : Option Addr) (cur : Nat → Nat) (T : Nat) : Prop where
  dev : Dev c.a 152 T w S cur 0
  sys : Sys c.a w c.x lk last
  apart : Apart S c.x
  old : ∀ k, S k → c.w0.heap.size ≤ k
  news : c.w0.heap.size ≤ c.x.r ∧ c.w0.heap.size ≤ c.x.u ∧ c.w0.heap.size ≤ c.x.h ∧ c.w0.heap.size ≤ c.x.m
  blk : Blk w c.gw 92 c.cs
  cells : wCells c.a c.x c.cs
  out : ¬ S c.gw
  new : c.w0.heap.size ≤ c.gw
  below : Below c.w0.heap.size c.w0 w
theorem Made.base {w0 w : World} {a : DA} {S : Fp} {T : Nat} {cur : Nat → Nat} {g : Nat} {x : SA} {cs : Array Value} (h : Made w0 a S T cur g x cs w) : Base ⟨w0, a, x, g, cs⟩ w S false none cur T :=
  ⟨h.dev, h.sys, h.apart, h.old, h.news, h.blk, h.cells, h.out, h.new, h.below⟩
section
variable {c : CX} {w w' : World} {S : Fp} {lk : Bool} {last : Option Addr} {cur : Nat → Nat} {T : Nat}
theorem Apart.grew {S' : Fp} {x : SA} {a : DA} (h : Apart S x) (hs : Sys a w x lk last) (hg : Grew S S' w) : Apart S' x :=
  ⟨hg.off ⟨hs.r.lt, h.r⟩, hg.off ⟨hs.u.lt, h.u⟩, hg.off ⟨hs.h.lt, h.h⟩, hg.off ⟨hs.m.lt, h.m⟩⟩
theorem Sys.chg {Z : Fp} {a : DA} {x : SA} (h : Sys a w x lk last) (hc : Chg Z w w') (hz : Apart Z x) : Sys a w' x lk last :=
  ⟨hc.blk h.r hz.r, hc.blk h.u hz.u, hc.blk h.h hz.h, hc.blk h.m hz.m⟩
theorem Base.step (h : Base c w S lk last cur T) {T' : Nat} {cur' : Nat → Nat} {S' : Fp} (hd : Dev c.a 152 T' w' S' cur' 0) (hc : Chg S w w') (hg : Grew S S' w) : Base c w' S' lk last cur' T' :=
  { h with
    dev := hd
    sys := h.sys.chg hc h.apart
    apart := h.apart.grew h.sys hg
    old := fun k hk => (hg k hk).elim (h.old k) (fun h' => Nat.le_trans h.below.size h')
    blk := hc.blk h.blk h.out
    out := hg.off ⟨h.blk.lt, h.out⟩
    below := h.below.trans (hc.toBelow h.below.size h.old) }
theorem Base.chg (h : Base c w S lk last cur T) {Z : Fp} (hc : Chg Z w w') (hz : ∀ k, S k → ¬ Z k) (ha : Apart Z c.x) (hw : ¬ Z c.gw) (hn : ∀ k, Z k → c.w0.heap.size ≤ k) : Base c w' S lk last cur T :=
  { h with
    dev := h.dev.chg hc hz
    sys := h.sys.chg hc ha
    blk := hc.blk h.blk hw
    below := h.below.trans (hc.toBelow h.below.size hn) }
theorem Base.more_ (h : Base c w S lk last cur T) (hb : Below w.heap.size w w') : Base c w' S lk last cur T :=
  h.chg (Z := Fp.no) (Chg.of_below hb) (fun _ _ h => h) ⟨fun h => h, fun h => h, fun h => h, fun h => h⟩ (fun h => h) (fun _ h => h.elim)
theorem heap_set (a : DA) (s n gs mr mh : Nat) (lk v : Bool) : (heapCells a s n gs mr mh lk).setIfInBounds 7 (.bool v) = heapCells a s n gs mr mh v := rfl
theorem Base.lock (h : Base c w S lk last cur T) (v : Bool) : Base c (w.setCell ⟨c.x.h, 7, none⟩ (.bool v)) S v last cur T := by
  have hc : Chg (fun j => j = c.x.h) w (w.setCell ⟨c.x.h, 7, none⟩ (.bool v)) := (Chg.refl (fun j => j = c.x.h) w).setCell (p := ⟨c.x.h, 7, none⟩) (.inl rfl) _
  have h2 := h.sys.h.set_ 7 (.bool v)
  rw [heap_set] at h2
  exact { h with
    dev := h.dev.chg hc (fun k hk e => h.apart.h (e ▸ hk))
    sys := ⟨hc.blk h.sys.r (h.sys.r.ne_ h.sys.h (by decide)), hc.blk h.sys.u (h.sys.u.ne_ h.sys.h (by decide)), h2, hc.blk h.sys.m (h.sys.m.ne_ h.sys.h (by decide))⟩
    blk := hc.blk h.blk (h.blk.ne_ h.sys.h (by decide))
    below := h.below.setCell h.news.2.2.1 _ }
end
structure TX where
  words : Nat
  inner : Nat
  own : Nat
  freed : Nat
  held : Nat
  cover : Nat
  outside : Bool
  surplus : Bool
  open_ : Bool
  mode : Nat
  marks : Value
  ids : Nat
  tail : Value
def txCells (m : Nat) (t : TX) : Array Value := #[.map (some t.words), .map (some t.inner), .map (some t.own), .map (some t.freed), .bool t.outside, .bool t.surplus, .pointer (some ⟨m, 0, none⟩), .int .u8 (t.mode : Int), .bool t.open_, t.marks, .int .i64 (t.ids : Int), .map (some t.held), .map (some t.cover), t.tail]
def cellD (v o : Nat) (p : Bool) : DataW Unit := .agg [.lit (.int .u64 (v : Int)), .lit (.int .u64 (o : Int)), .lit (.bool p)]
def cellL : List Value → Option (DataW Unit × List MemPlace)
  | [.int .u64 a, .int .u64 b, .bool c] => if 0 ≤ a ∧ 0 ≤ b then some (.agg [.lit (.int .u64 a), .lit (.int .u64 b), .lit (.bool c)], []) else none
  | _ => none
def cellR : Value → Option (DataW Unit × List MemPlace)
  | .agg c => cellL c.toList
  | _ => none
def oneR : Value → Option (DataW Unit × List MemPlace) := fun _ => some (.lit (.bool true), [])
structure TxM (w : World) (t : TX) (D : DataW Unit) (n : Nat) : Prop where
  words : w.ownsMap Tryz.prog 26 cellR t.words n D
  inner : w.ownsMap Tryz.prog 26 oneR t.inner 0 (.map [])
  own : w.ownsMap Tryz.prog 26 oneR t.own 0 (.map [])
  freed : w.ownsMap Tryz.prog 26 oneR t.freed 0 (.map [])
  held : w.ownsMap Tryz.prog 26 oneR t.held 0 (.map [])
  cover : w.ownsMap Tryz.prog 26 oneR t.cover 0 (.map [])
  ne : t.inner ≠ t.words ∧ t.own ≠ t.words ∧ t.freed ≠ t.words ∧ t.held ≠ t.words ∧ t.cover ≠ t.words
structure TxS (c : CX) (g : Nat) (w : World) (S : Fp) (t : TX) (D : DataW Unit) (n : Nat) (cur : Nat → Nat) (T : Nat) : Prop where
  base : Base c w S true (some ⟨g, 0, none⟩) cur T
  tx : Blk w g 200 (txCells c.x.m t)
  maps : TxM w t D n
  outg : ¬ S g
  outm : ¬ S t.words ∧ ¬ S t.inner ∧ ¬ S t.own ∧ ¬ S t.freed ∧ ¬ S t.held ∧ ¬ S t.cover
  newg : c.w0.heap.size ≤ g
  neww : c.w0.heap.size ≤ t.words
section
variable {c : CX} {g : Nat} {w w' : World} {S : Fp} {t : TX} {D : DataW Unit} {n : Nat} {cur : Nat → Nat} {T : Nat}
theorem TxM.chg {Z : Fp} (h : TxM w t D n) (hc : Chg Z w w') (hz : ¬ Z t.words ∧ ¬ Z t.inner ∧ ¬ Z t.own ∧ ¬ Z t.freed ∧ ¬ Z t.held ∧ ¬ Z t.cover) : TxM w' t D n :=
  { h with
    words := hc.map h.words hz.1
    inner := hc.map h.inner hz.2.1
    own := hc.map h.own hz.2.2.1
    freed := hc.map h.freed hz.2.2.2.1
    held := hc.map h.held hz.2.2.2.2.1
    cover := hc.map h.cover hz.2.2.2.2.2 }
theorem TxS.step (h : TxS c g w S t D n cur T) {T' : Nat} {cur' : Nat → Nat} {v : Value} {e : Ending} (hr : RetDev c.a 152 T' w S cur' 0 v e w') : e = .returned v ∧ ∃ S', TxS c g w' S' t D n cur' T' ∧ Chg S w w' ∧ Grew S S' w := by
  obtain ⟨he, S', hd, hc, hg⟩ := hr
  have hm := h.maps
  obtain ⟨o1, o2, o3, o4, o5, o6⟩ := h.outm
  exact ⟨he, S', ⟨h.base.step hd hc hg, hc.blk h.tx h.outg, hm.chg hc h.outm, hg.off ⟨h.tx.lt, h.outg⟩, ⟨hg.off ⟨hm.words.lt, o1⟩, hg.off ⟨hm.inner.lt, o2⟩, hg.off ⟨hm.own.lt, o3⟩, hg.off ⟨hm.freed.lt, o4⟩, hg.off ⟨hm.held.lt, o5⟩, hg.off ⟨hm.cover.lt, o6⟩⟩, h.newg, h.neww⟩, hc, hg⟩
theorem TxS.more_ (h : TxS c g w S t D n cur T) (hb : Below w.heap.size w w') : TxS c g w' S t D n cur T :=
  { h with
    base := h.base.more_ hb
    tx := (Chg.of_below (S := Fp.no) hb).blk h.tx (fun h => h)
    maps := h.maps.chg (Z := Fp.no) (Chg.of_below hb) ⟨fun h => h, fun h => h, fun h => h, fun h => h, fun h => h, fun h => h⟩ }
theorem Base.txSet {lk : Bool} {last : Option Addr} (h : Base c w S lk last cur T) {cs : Array Value} (ht : Blk w g 200 cs) (hS : ¬ S g) (hn : c.w0.heap.size ≤ g) (i : Nat) (u : Value) : Base c (w.setCell ⟨g, i, none⟩ u) S lk last cur T :=
  h.chg (Z := fun j => j = g) ((Chg.refl (fun j => j = g) w).setCell (p := ⟨g, i, none⟩) (.inl rfl) u) (fun k hk e => hS (e ▸ hk))
    ⟨h.sys.r.ne_ ht (by decide), h.sys.u.ne_ ht (by decide), h.sys.h.ne_ ht (by decide), h.sys.m.ne_ ht (by decide)⟩ (h.blk.ne_ ht (by decide)) (fun k hk => by rw [hk]; exact hn)
theorem TxS.set (h : TxS c g w S t D n cur T) (i : Nat) (u : Value) (t' : TX) (hs : (txCells c.x.m t).setIfInBounds i u = txCells c.x.m t')
    (e : t'.words = t.words ∧ t'.inner = t.inner ∧ t'.own = t.own ∧ t'.freed = t.freed ∧ t'.held = t.held ∧ t'.cover = t.cover) : TxS c g (w.setCell ⟨g, i, none⟩ u) S t' D n cur T := by
  have hc : Chg (fun j => j = g) w (w.setCell ⟨g, i, none⟩ u) := (Chg.refl (fun j => j = g) w).setCell (p := ⟨g, i, none⟩) (.inl rfl) u
  have h2 := h.tx.set_ i u
  rw [hs] at h2
  have hm := h.maps
  have hm2 : TxM (w.setCell ⟨g, i, none⟩ u) t D n := hm.chg hc ⟨map_ne_blk hm.words h.tx, map_ne_blk hm.inner h.tx, map_ne_blk hm.own h.tx, map_ne_blk hm.freed h.tx, map_ne_blk hm.held h.tx, map_ne_blk hm.cover h.tx⟩
  obtain ⟨e1, e2, e3, e4, e5, e6⟩ := e
  refine ⟨h.base.txSet h.tx h.outg h.newg i u, h2, ⟨?_, ?_, ?_, ?_, ?_, ?_, ?_⟩, h.outg, ?_, h.newg, ?_⟩
  · rw [e1]; exact hm2.words
  · rw [e2]; exact hm2.inner
  · rw [e3]; exact hm2.own
  · rw [e4]; exact hm2.freed
  · rw [e5]; exact hm2.held
  · rw [e6]; exact hm2.cover
  · rw [e1, e2, e3, e4, e5, e6]; exact hm2.ne
  · rw [e1, e2, e3, e4, e5, e6]; exact h.outm
  · rw [e1]; exact h.neww
theorem TxS.put (h : TxS c g w S t D n cur T) {D' : DataW Unit} {n' : Nat} (hg : w.grownBy w' (some t.words)) (ho : w'.ownsMap Tryz.prog 26 cellR t.words n' D') : TxS c g w' S t D' n' cur T := by
  have hc : Chg (fun j => j = t.words) w w' := (Chg.refl (fun j => j = t.words) w).grown hg (fun g hg => .inl (by cases hg; rfl))
  have hm := h.maps
  have hb := h.base
  exact ⟨hb.chg hc (fun k hk e => h.outm.1 (e ▸ hk)) ⟨fun e => map_ne_blk hm.words hb.sys.r e.symm, fun e => map_ne_blk hm.words hb.sys.u e.symm, fun e => map_ne_blk hm.words hb.sys.h e.symm, fun e => map_ne_blk hm.words hb.sys.m e.symm⟩ (fun e => map_ne_blk hm.words hb.blk e.symm) (fun k hk => by rw [hk]; exact h.neww),
    hc.blk h.tx (fun e => map_ne_blk hm.words h.tx e.symm), ⟨ho, hc.map hm.inner hm.ne.1, hc.map hm.own hm.ne.2.1, hc.map hm.freed hm.ne.2.2.1, hc.map hm.held hm.ne.2.2.2.1, hc.map hm.cover hm.ne.2.2.2.2, hm.ne⟩, h.outg, h.outm, h.newg, h.neww⟩
end
end Go.Proofs.YtpihhlbfpbngaaaGreatDoor
namespace Go.Proofs.YtpihhlbfpbngaaaGreatDoor
open Go.RowKit Go.Maps
def NewT (w : World) (g : Nat) (t : TX) : Prop := w.heap.size ≤ g ∧ w.heap.size ≤ t.words ∧ w.heap.size ≤ t.inner ∧ w.heap.size ≤ t.own ∧ w.heap.size ≤ t.freed ∧ w.heap.size ≤ t.held ∧ w.heap.size ≤ t.cover
theorem NewT.mono {w w' : World} {g : Nat} {t : TX} (h : NewT w' g t) (hs : w.heap.size ≤ w'.heap.size) : NewT w g t := by
  obtain ⟨h1, h2, h3, h4, h5, h6, h7⟩ := h
  exact ⟨by omega, by omega, by omega, by omega, by omega, by omega, by omega⟩
end Go.Proofs.YtpihhlbfpbngaaaGreatDoor
namespace Go.Proofs.YtpihhlbfpbngaaaGreatDoor
open Go.RowKit Go.Maps
structure St4 (w : World) (a b c d : Nat) (D : DataW Unit) (n : Nat) : Prop where
  words : w.ownsMap Tryz.prog 26 cellR a n D
  inner : w.ownsMap Tryz.prog 26 oneR b 0 (.map [])
  own : w.ownsMap Tryz.prog 26 oneR c 0 (.map [])
  freed : w.ownsMap Tryz.prog 26 oneR d 0 (.map [])
theorem St4.below {w w' : World} {a b c d : Nat} {D : DataW Unit} {n : Nat} (h : St4 w a b c d D n) (hb : Below w.heap.size w w') : St4 w' a b c d D n :=
  ⟨(Chg.of_below (S := Fp.no) hb).map h.words (fun h => h), (Chg.of_below (S := Fp.no) hb).map h.inner (fun h => h), (Chg.of_below (S := Fp.no) hb).map h.own (fun h => h), (Chg.of_below (S := Fp.no) hb).map h.freed (fun h => h)⟩
end Go.Proofs.YtpihhlbfpbngaaaGreatDoor
namespace Go.Proofs.YtpihhlbfpbngaaaGreatDoor
open Go.RowKit Go.Maps
theorem wpList_app2 {P : Program} (w : World) {ops : Array Oper} {rest : List Oper} {o : Oper} {a : Act} {Q : Exit → Act → World → Prop} (s x : Operand) (t : TypeId)
    (hw : Region.wanted o (yielded ops a.tmps) = true)
    (ho : o.op = .call { callee := .builtin .append, args := #[s, x], argTypes := #[t, t] })
    (base : Nat) (e : TypeId) (i : TypeInfo) (z : Value) (size bytes : Nat) (ht : P.underlying t = some (.slice e)) (hi : P.info? e = some i) (hz : i.zero = some z)
    (hsize : i.size = size) (hby : i.bytes = bytes) (hzs : z.cells.size = size) (hsz : 0 < size)
    (v : Value) (n : Nat) (xs : List Value) (hs : a.eval s = v) (hown : w.ownsRow base e size v n xs)
    (B : Nat) (A : Option Addr) (m c : Nat) (news : List Value) (hx : a.eval x = .slice A m c) (hr : Reads w B size A m news) (h1 : ∀ u ∈ news, u.oneCell' = true)
    (h63 : n + m ≤ maxLen) (hbytes : (n + m) * bytes ≤ 140737488355328) (hbase : base ≤ w.heap.size)
    (h : ∀ A' n' c' w', n' = n + m → w'.ownsRow base e size (.slice A' n' c') n' (xs ++ news) → w.grownBy w' v.ownBlock → ((Value.slice A' n' c').ownBlock = v.ownBlock ∨ (Value.slice A' n' c').ownBlock = some w.heap.size) → wpList P ops Q rest (a.put o.dst (.slice A' n' c')) w') : wpList P ops Q (o :: rest) a w := by
  refine Go.BigFrame.wpList_want hw fun K hK => ?_
  refine wp_append_any w s x t ho base e i z size bytes ht hi hz hsize hby hzs hsz v n xs hs hown B A m c news hx hr h1 h63 hbytes hbase fun v' w' h2 h3 h4 => ?_
  obtain ⟨A', c', rfl⟩ := own_slice h2
  exact hK _ _ (h A' _ c' w' rfl h2 h3 h4)
structure Mk where
  id : Nat
  k : Nat
  x : Bool
  y : Bool
  D : DataW Unit
  n : Nat
def Mk.cells (m : Mk) : List Value := [.int .i64 (m.id : Int), .map (some m.k), .map (some (m.k + 1)), .map (some (m.k + 2)), .map (some (m.k + 3)), .bool m.x, .bool m.y]
def mkCells (l : List Mk) : List Value := l.flatMap Mk.cells
structure Mks (c : CX) (w : World) (S : Fp) (t : TX) (l : List Mk) : Prop where
  row : w.ownsRow c.w0.heap.size 272 7 t.marks l.length (mkCells l)
  st : ∀ m ∈ l, St4 w m.k (m.k + 1) (m.k + 2) (m.k + 3) m.D m.n
  off : ∀ m ∈ l, ∀ j, m.k ≤ j → j ≤ m.k + 3 → ¬ S j ∧ j ≠ t.words
  rowoff : ∀ b, t.marks.ownBlock = some b → ¬ S b
section
variable {c : CX} {w w' : World} {S : Fp} {t : TX} {l : List Mk}
theorem St4.lt {w : World} {k : Nat} {D : DataW Unit} {n : Nat} (h : St4 w k (k + 1) (k + 2) (k + 3) D n) : k + 3 < w.heap.size := h.freed.lt
theorem Mks.chg {Z : Fp} (h : Mks c w S t l) (hc : Chg Z w w') (hz : ∀ j, Z j → S j ∨ j = t.words ∨ ∃ ty cs, ty ≠ 272 ∧ Blk w j ty cs) (hw : ∃ n D, w.ownsMap Tryz.prog 26 cellR t.words n D) : Mks c w' S t l := by
  obtain ⟨n, D, hw⟩ := hw
  have hm : ∀ m ∈ l, ∀ j, m.k ≤ j → j ≤ m.k + 3 → ¬ Z j := fun m hm j h1 h2 hj => by
    obtain ⟨o1, o2⟩ := h.off m hm j h1 h2
    have hs := h.st m hm
    rcases hz j hj with e | e | ⟨ty, cs, _, hB⟩
    · exact o1 e
    · exact o2 e
    · have hj4 : j = m.k ∨ j = m.k + 1 ∨ j = m.k + 2 ∨ j = m.k + 3 := by omega
      rcases hj4 with rfl | rfl | rfl | rfl
      · exact map_ne_blk hs.words hB rfl
      · exact map_ne_blk hs.inner hB rfl
      · exact map_ne_blk hs.own hB rfl
      · exact map_ne_blk hs.freed hB rfl
  refine ⟨hc.own h.row fun b hb hj => ?_, fun m hm' => ?_, h.off, h.rowoff⟩
  · rcases hz b hj with e | e | ⟨ty, cs, hty, hB⟩
    · exact h.rowoff b hb e
    · exact map_ne_own hw h.row (by rw [hb, e])
    · exact own_blk_ne h.row hB (Ne.symm hty) hb
  · have hs := h.st m hm'
    exact ⟨hc.map hs.words (hm m hm' _ (by omega) (by omega)), hc.map hs.inner (hm m hm' _ (by omega) (by omega)), hc.map hs.own (hm m hm' _ (by omega) (by omega)), hc.map hs.freed (hm m hm' _ (by omega) (by omega))⟩
theorem Mks.grew {S' : Fp} (h : Mks c w S t l) (hg : Grew S S' w) : Mks c w S' t l := by
  refine ⟨h.row, h.st, fun m hm j h1 h2 => ?_, fun b hb => ?_⟩
  · have := (h.st m hm).lt
    exact ⟨hg.off ⟨by omega, (h.off m hm j h1 h2).1⟩, (h.off m hm j h1 h2).2⟩
  · exact hg.off ⟨(h.row.lt b hb).2, h.rowoff b hb⟩
theorem Mks.more_ (h : Mks c w S t l) (hb : Below w.heap.size w w') : Mks c w' S t l := by
  refine ⟨(Chg.of_below (S := Fp.no) hb).own h.row (fun _ _ h => h), fun m hm => (h.st m hm).below hb, h.off, h.rowoff⟩
theorem Mks.same (h : Mks c w S t l) {t' : TX} (hw : t'.words = t.words) (hm : t'.marks = t.marks) : Mks c w S t' l :=
  ⟨by rw [hm]; exact h.row, h.st, by rw [hw]; exact h.off, by rw [hm]; exact h.rowoff⟩
end
def SvS (g : Nat) (t : TX) (w' : World) : Prop := w'.cell? ⟨g, 9, none⟩ = some t.marks ∧ w'.cell? ⟨g, 10, none⟩ = some (.int .i64 (t.ids : Int)) ∧ w'.cell? ⟨g, 0, none⟩ = some (.map (some t.words)) ∧ w'.cell? ⟨g, 1, none⟩ = some (.map (some t.inner)) ∧ w'.cell? ⟨g, 2, none⟩ = some (.map (some t.own)) ∧ w'.cell? ⟨g, 3, none⟩ = some (.map (some t.freed)) ∧ w'.cell? ⟨g, 4, none⟩ = some (.bool t.outside) ∧ w'.cell? ⟨g, 5, none⟩ = some (.bool t.surplus)
theorem SvS.of {c : CX} {g : Nat} {w : World} {S : Fp} {t : TX} {D : DataW Unit} {n : Nat} {cur : Nat → Nat} {T : Nat} (h : TxS c g w S t D n cur T) : SvS g t w := ⟨h.tx.cell 9, h.tx.cell 10, h.tx.cell 0, h.tx.cell 1, h.tx.cell 2, h.tx.cell 3, h.tx.cell 4, h.tx.cell 5⟩
end Go.Proofs.YtpihhlbfpbngaaaGreatDoor
namespace Go.Proofs.YtpihhlbfpbngaaaGreatDoor
open Go.RowKit Go.Maps Go.Shelf
set_option maxRecDepth 100000 in
set_option maxHeartbeats 1000000 in
theorem err_dev {a : DA} {L T : Nat} {w : World} {S : Fp} {cur : Nat → Nat} {F : Nat} (h : Dev a L T w S cur F) {j : Nat} (hj : j < 8) :
    Calls Tryz.prog 76 #[.pointer (some ⟨a.th j, 0, none⟩)] w fun e w' => e = .returned (.int .i64 0) ∧ w = w' := by
  obtain ⟨ls, exe, per, cs, lsC, hdc, hnt⟩ := h
  obtain ⟨f0, _, _, _, f4⟩ := hdc.facts hj
  clear hdc hnt
  go_enter Tryz.func76, Tryz.ntmps76
  go_wp2
  go_ret
  exact ⟨rfl, rfl⟩
def rbC (cur : Nat → Nat) (ws : List (Nat × Nat)) : Nat → Nat := if ws = [] then cur else wrS (wrS cur ws) [(1920, 0)]
structure EntO (ws : List (Nat × Nat)) : Prop where
  off : ∀ e ∈ ws, OffOk 152 30 26 e.1
  val : ∀ e ∈ ws, e.2 < 18446744073709551616
  few : ws.length ≤ 100
theorem EntO.ok {ws : List (Nat × Nat)} (h : EntO ws) (h0 : ws ≠ []) : EntOk 152 30 26 ws := ⟨h.off, h.val, h.few, h0⟩
theorem RetDev.of_below {a : DA} {L T T' : Nat} {w w' : World} {S : Fp} {cur : Nat → Nat} {v : Value} (h : Dev a L T w S cur 0) (hT : T ≤ T') (hT' : T' ≤ 1000000000) (hb : Below w.heap.size w w') : RetDev a L T' w S cur 0 v (.returned v) w' := ⟨rfl, S, (h.below hb).more hT hT', Chg.of_below hb, Grew.refl _ _⟩
def StI (c : CX) (g : Nat) (W w : World) (S : Fp) (t : TX) (D : DataW Unit) (n : Nat) (cur : Nat → Nat) (T : Nat) : Prop := ∃ S', TxS c g w S' t D n cur T ∧ Chg S W w ∧ Grew S S' W
theorem StI.step {c : CX} {g : Nat} {W w w' : World} {S : Fp} {t : TX} {D : DataW Unit} {n : Nat} {cur cur' : Nat → Nat} {T T' : Nat} {v : Value} {e : Ending} {S1 : Fp} (hx : TxS c g w S1 t D n cur T) (hc : Chg S W w) (hg : Grew S S1 W) (hr : RetDev c.a 152 T' w S1 cur' 0 v e w') : e = .returned v ∧ StI c g W w' S t D n cur' T' := by
  obtain ⟨he, S2, hx2, hc2, hg2⟩ := hx.step hr
  exact ⟨he, S2, hx2, hc.trans hc2 hg, hg.trans hg2 hc.size⟩
theorem StI.below {c : CX} {g : Nat} {W w w' : World} {S : Fp} {t : TX} {D : DataW Unit} {n : Nat} {cur : Nat → Nat} {T : Nat} (h : StI c g W w S t D n cur T) (hb : Below w.heap.size w w') : StI c g W w' S t D n cur T := by
  obtain ⟨S', hx, hc, hg⟩ := h
  exact ⟨S', hx.more_ hb, hc.below hb, hg⟩
theorem StI.trans {c : CX} {g : Nat} {W w w' : World} {S S1 : Fp} {t : TX} {D : DataW Unit} {n : Nat} {cur : Nat → Nat} {T : Nat} (hc : Chg S w W) (hg : Grew S S1 w) (h : StI c g W w' S1 t D n cur T) : StI c g w w' S t D n cur T := by
  obtain ⟨S', hx, hc2, hg2⟩ := h
  exact ⟨S', hx, hc.trans hc2 hg, hg.trans hg2 hc.size⟩
end Go.Proofs.YtpihhlbfpbngaaaGreatDoor
namespace Go.Proofs.YtpihhlbfpbngaaaGreatDoor
open Go.RowKit Go.Maps Go.Shelf
def endCells (m : Nat) (t : TX) : Array Value := #[.map none, .map none, .map none, .map none, .bool t.outside, .bool t.surplus, .pointer (some ⟨m, 0, none⟩), .int .u8 (t.mode : Int), .bool false, .slice none 0 0, .int .i64 (t.ids : Int), .map none, .map none, t.tail]
structure TxE (c : CX) (g : Nat) (w : World) (S : Fp) (t : TX) (cur : Nat → Nat) (T : Nat) : Prop where
  base : Base c w S false (some ⟨g, 0, none⟩) cur T
  tx : Blk w g 200 (endCells c.x.m t)
  outg : ¬ S g
  newg : c.w0.heap.size ≤ g
def endW (W : World) (g : Nat) : World := (((((((W.setCell ⟨g, 8, none⟩ (.bool false)).setCell ⟨g, 9, none⟩ (.slice none 0 0)).setCell ⟨g, 11, none⟩ (.map none)).setCell ⟨g, 12, none⟩ (.map none)).setCell ⟨g, 0, none⟩ (.map none)).setCell ⟨g, 1, none⟩ (.map none)).setCell ⟨g, 2, none⟩ (.map none)).setCell ⟨g, 3, none⟩ (.map none)
theorem endW_chg (W : World) (g : Nat) : Chg (fun j => j = g) W (endW W g) :=
  ((((((((Chg.refl (fun j => j = g) W).setCell (p := ⟨g, 8, none⟩) (.inl rfl) _).setCell (p := ⟨g, 9, none⟩) (.inl rfl) _).setCell (p := ⟨g, 11, none⟩) (.inl rfl) _).setCell (p := ⟨g, 12, none⟩) (.inl rfl) _).setCell (p := ⟨g, 0, none⟩) (.inl rfl) _).setCell (p := ⟨g, 1, none⟩) (.inl rfl) _).setCell (p := ⟨g, 2, none⟩) (.inl rfl) _).setCell (p := ⟨g, 3, none⟩) (.inl rfl) _
theorem endCells_eq (m : Nat) (t : TX) : ((((((((txCells m t).setIfInBounds 8 (.bool false)).setIfInBounds 9 (.slice none 0 0)).setIfInBounds 11 (.map none)).setIfInBounds 12 (.map none)).setIfInBounds 0 (.map none)).setIfInBounds 1 (.map none)).setIfInBounds 2 (.map none)).setIfInBounds 3 (.map none) = endCells m t := by
  simp [txCells, endCells]
theorem endW_blk {w : World} {g m : Nat} {t : TX} (h : Blk w g 200 (txCells m t)) : Blk (endW w g) g 200 (endCells m t) := by
  have h8 := (((((((h.set_ 8 (.bool false)).set_ 9 (.slice none 0 0)).set_ 11 (.map none)).set_ 12 (.map none)).set_ 0 (.map none)).set_ 1 (.map none)).set_ 2 (.map none)).set_ 3 (.map none)
  rw [endCells_eq] at h8
  exact h8
theorem endW_base {c : CX} {g : Nat} {w : World} {S : Fp} {t : TX} {D : DataW Unit} {n : Nat} {cur : Nat → Nat} {T : Nat} (h : TxS c g w S t D n cur T) :
    Base c (endW w g) S true (some ⟨g, 0, none⟩) cur T ∧ Blk (endW w g) g 200 (endCells c.x.m t) := by
  have hb := h.base
  refine ⟨hb.chg (endW_chg w g) (fun k hk e => h.outg (e ▸ hk)) ⟨hb.sys.r.ne_ h.tx (by decide), hb.sys.u.ne_ h.tx (by decide), hb.sys.h.ne_ h.tx (by decide), hb.sys.m.ne_ h.tx (by decide)⟩ (hb.blk.ne_ h.tx (by decide)) (fun k hk => by rw [hk]; exact h.newg), endW_blk h.tx⟩
theorem TxE.of {c : CX} {g : Nat} {w : World} {S : Fp} {t : TX} {D : DataW Unit} {n : Nat} {cur : Nat → Nat} {T : Nat} (h : TxS c g w S t D n cur T) : TxE c g ((endW w g).setCell ⟨c.x.h, 7, none⟩ (.bool false)) S t cur T := by
  obtain ⟨h1, h2⟩ := endW_base h
  exact ⟨h1.lock false, (Chg.refl (fun j => j = c.x.h) (endW w g)).setCell (p := ⟨c.x.h, 7, none⟩) (.inl rfl) (.bool false) |>.blk h2 (h2.ne_ h1.sys.h (by decide)), h.outg, h.newg⟩
end Go.Proofs.YtpihhlbfpbngaaaGreatDoor
namespace Go.Proofs.YtpihhlbfpbngaaaGreatDoor
open Go.RowKit Go.Maps
def OIdx (w : World) (b n : Nat) (ws : List (Nat × Nat)) (k : Nat) : Prop := ∃ D : DataW Unit, w.ownsMap Tryz.prog 26 (plainElem Tryz.prog 3) b n D ∧ ∀ i (h : i < ws.length), i < k → D.atKey (kU (ws[i]).1) (.lit (.int .i64 0)) = .lit (.int .i64 (i : Int))
def Diff (ws : List (Nat × Nat)) : Prop := ∀ i j (hi : i < ws.length) (hj : j < ws.length), i ≠ j → (ws[i]).1 ≠ (ws[j]).1
theorem OIdx.new (w : World) (ws : List (Nat × Nat)) : OIdx (w.alloc (.map #[] 0)) w.heap.size 0 ws 0 := ⟨_, World.ownsMap_made w _ _ _, fun i _ h => absurd h (by omega)⟩
set_option maxRecDepth 100000 in
theorem OIdx.look {w : World} {b n k : Nat} {ws : List (Nat × Nat)} (h : OIdx w b n ws k) {i : Nat} (hl : i < ws.length) (hk : i < k) (hx : (ws[i]).1 < 18446744073709551616) :
    (Instr.lookup 324 (.map (some b)) (.int .u64 ((ws[i]).1 : Int)) false).run Tryz.prog w = .ok (.int .i64 (i : Int)) w := by
  obtain ⟨D, ho, hd⟩ := h
  obtain ⟨c, hrun, hc, _⟩ := ho.lookup_int keyedU Tryz.underlying324 Tryz.underlying3 (by kernel_rfl) (keyU hx)
  rw [hd i hl hk] at hc
  injection hc with hc
  injection hc with _ hc
  rw [hrun, ← hc]
set_option maxRecDepth 100000 in
theorem OIdx.add {w : World} {b n k : Nat} {ws : List (Nat × Nat)} (h : OIdx w b n ws k) (hn : n < maxLen) (hd' : Diff ws) (hl : k < ws.length) (hx : (ws[k]).1 < 18446744073709551616) (hk : k ≤ 1000000) :
    ∃ w', (Instr.mapUpdate 324 (.map (some b)) (.int .u64 ((ws[k]).1 : Int)) (.int .i64 (k : Int))).run Tryz.prog w = .ok () w' ∧ OIdx w' b (n + 1) ws (k + 1) ∧ w.grownBy w' (some b) := by
  obtain ⟨D, ho, hd⟩ := h
  obtain ⟨w', hrun, ho', hg⟩ := ho.update keyedU Tryz.underlying324 hn (keyU hx) (plainElem_int Tryz.underlying3 (a := (k : Int)) (by
    have hm : IntKind.i64.min = -9223372036854775808 := by decide
    have hx : IntKind.i64.max = 9223372036854775807 := by decide
    simp only [Lit.wf, hm, hx, Bool.and_eq_true, decide_eq_true_eq]
    omega))
  refine ⟨w', hrun, ⟨_, ho', fun i hi hik => ?_⟩, hg⟩
  by_cases e : i = k
  · subst e
    rw [atKey_put_same ho.isMap (kU_key _)]
  · rw [atKey_put_other (kU_ne (hd' i k hi hl e)), hd i hi (by omega)]
theorem OIdx.alloc {w : World} {b n k : Nat} {ws : List (Nat × Nat)} (h : OIdx w b n ws k) (o : Obj) : OIdx (w.alloc o) b n ws k := by
  obtain ⟨D, ho, hd⟩ := h
  exact ⟨D, ho.alloc o, hd⟩
theorem OIdx.kept {w w' : World} {b n k : Nat} {ws : List (Nat × Nat)} {row : Option Nat} (h : OIdx w b n ws k) (hg : w.grownBy w' row) (hne : some b ≠ row) : OIdx w' b n ws k := by
  obtain ⟨D, ho, hd⟩ := h
  exact ⟨D, ho.kept hg hne, hd⟩
theorem OIdx.lt {w : World} {b n k : Nat} {ws : List (Nat × Nat)} (h : OIdx w b n ws k) : b < w.heap.size := by
  obtain ⟨D, ho, _⟩ := h
  exact ho.lt
theorem OIdx.ne_own {w : World} {b n k : Nat} {ws : List (Nat × Nat)} (h : OIdx w b n ws k) {base : Nat} {e : TypeId} {size m : Nat} {v : Value} {xs : List Value} (ho : w.ownsRow base e size v m xs) : some b ≠ v.ownBlock := by
  obtain ⟨D, hm, _⟩ := h
  exact map_ne_own hm ho
set_option maxRecDepth 100000 in
set_option maxHeartbeats 2000000 in
theorem last_any (A : Option Addr) (n c : Nat) (ws : List (Nat × Nat)) (w : World) (h : Reads w w.heap.size 2 A n (wrCells ws)) (hd : Diff ws) (hv : ∀ i (h : i < ws.length), (ws[i]).1 < 18446744073709551616) (hn : n ≤ 1000) :
    Calls Tryz.prog 164 #[.slice A n c] w (RetWr w ws) := by
  obtain ⟨i0, hi0, hz0, hz1, hz2⟩ := info_parts infoWrite
  have HR := Lib.hid h
  have HD := Lib.hid hd
  have HV := Lib.hid hv
  have HLN := Lib.hid (show ws.length = n by have := h.1; rw [wrCells_len] at this; omega)
  have hmm : ∀ W, (Instr.makeMap 324 none).run Tryz.prog W = .ok (.map (some W.heap.size)) (W.alloc (.map #[] 0)) := fun _ => rfl
  have HI0 : Hid (OIdx (w.alloc (.map #[] 0)) w.heap.size 0 ws 0) := Lib.hid (OIdx.new w ws)
  have HB0 : Hid (Below w.heap.size w (w.alloc (.map #[] 0))) := Lib.hid ((Below.refl _ w).alloc (Nat.le_refl _) _)
  clear h hd hv
  go_enter Tryz.func164, Tryz.ntmps164
  go_wp2
  clear hmm
  go_loopw [12] (fun i wr => ∃ k : Nat, k ≤ n ∧ i = .int .i64 (k : Int) ∧ Hid (OIdx wr w.heap.size k ws k) ∧ Hid (Below w.heap.size w wr)) (fun i _ => n - (Go.RowKit.intOf i).toNat)
  case atStart => exact ⟨0, Nat.zero_le _, rfl, HI0, HB0⟩
  case round =>
    clear HI0 HB0
    obtain ⟨k, hk, rfl, HI, HB⟩ := hrel
    by_cases hlt : k < n
    · obtain ⟨hl, b, off, hA, hbB, f0, f1⟩ := wr_facts (HR.out.below HB.out) hlt
      subst hA
      have hz5 : (0 : Int) ≤ (k : Int) := by omega
      have hz6 : (k : Int) < (n : Int) := by omega
      obtain ⟨w3, hrun, hos, hgr⟩ := (HI.out.alloc (.cells #[.int .u64 ((ws[k]).1 : Int), .int .u64 ((ws[k]).2 : Int)] 76)).add (by unfold maxLen; omega) HD.out hl (HV.out k hl) (by omega)
      have HI3 := Lib.hid hos
      have HB3 := Lib.hid ((HB.out.alloc HB.out.size (.cells #[.int .u64 ((ws[k]).1 : Int), .int .u64 ((ws[k]).2 : Int)] 76)).grown hgr (Nat.le_trans HB.out.size (by simp)) (fun g hg => by cases hg; exact Nat.le_refl _))
      generalize ws[k] = e at *
      clear hos hgr HI HB
      go_wp2
      go_roundw
      case rel => exact ⟨k + 1, by omega, by go_num, HI3, HB3⟩
      case measure => simp [Go.RowKit.intOf]; omega
    · have hkn : k = n := by omega
      subst hkn
      have HO0 : Hid (wr.ownsRow w.heap.size 76 2 (.slice none 0 0) 0 (wrCells (ws.take 0))) := Lib.hid (World.ownsRow_nil _ _ _ _)
      go_wp2
      go_loopw [6, 24] (fun l i wr => ∃ (q : Nat) (A1 : Option Addr) (c1 : Nat), q ≤ k ∧ i = .int .i64 (q : Int) ∧ l = .slice A1 q c1 ∧ Hid (wr.ownsRow w.heap.size 76 2 (.slice A1 q c1) q (wrCells (ws.take q))) ∧ Hid (OIdx wr w.heap.size k ws k) ∧ Hid (Below w.heap.size w wr)) (fun _ i _ => k - (Go.RowKit.intOf i).toNat)
      case atStart => exact ⟨0, _, _, Nat.zero_le _, rfl, rfl, HO0, HI, HB⟩
      case round =>
        clear HI HB HO0
        obtain ⟨q, A1, c1, hq, rfl, rfl, HO, HI, HB⟩ := hrel
        by_cases hlt2 : q < k
        · obtain ⟨hl, b, off, hA, hbB, f0, f1⟩ := wr_facts (HR.out.below HB.out) hlt2
          subst hA
          have hz5 : (0 : Int) ≤ (q : Int) := by omega
          have hz6 : (q : Int) < (k : Int) := by omega
          have hlk := (HI.out.alloc (.cells #[.int .u64 ((ws[q]).1 : Int), .int .u64 ((ws[q]).2 : Int)] 76)).look hl hlt2 (HV.out q hl)
          have HTS := Lib.hid (takeS ws q hl)
          generalize ws[q] = e at *
          have hsz : w.heap.size ≤ wr.heap.size := HB.out.size
          go_wp2_with (at_builtin; refine stop ?_)
          unfold Stop
          have HR1 := Lib.hid (row_reads_at (wr.alloc (.cells #[.int .u64 (e.1 : Int), .int .u64 (e.2 : Int)] 76)) _ rfl [.int .u64 (e.1 : Int), .int .u64 (e.2 : Int)] 1 2 76 _ rfl rfl)
          rw [World.size_alloc] at HR1
          refine wpList_app _ (.tmp 35) (.tmp 37) 69 rfl rfl w.heap.size 76 i0 _ 2 16 Tryz.underlying69 hi0 hz0 hz1 hz2 rfl (by omega) (.slice A1 q c1) q (wrCells (ws.take q)) rfl ((HO.out.alloc _).alloc _) (wr.heap.size + 1 + 1) (some ⟨wr.heap.size + 1, 0, none⟩) 1 1 [.int .u64 (e.1 : Int), .int .u64 (e.2 : Int)] rfl HR1.out (u64s_one _ _) (by unfold maxLen; omega) (by omega) (by simp; omega) ?_
          intro A3 n3 c3 w8 hn3 ho3 hg3 hb3
          have hn3' : n3 = q + 1 := by omega
          subst hn3'
          have HO4 : Hid (w8.ownsRow w.heap.size 76 2 (.slice A3 (q + 1) c3) (q + 1) (wrCells (ws.take (q + 1)))) := Lib.hid (by rw [HTS.out, wrCells_snoc]; exact ho3)
          have HI4 : Hid (OIdx w8 w.heap.size k ws k) := Lib.hid (((HI.out.alloc _).alloc _).kept hg3 (HI.out.ne_own HO.out))
          have HB4 := Lib.hid (((HB.out.alloc HB.out.size _).alloc (by simp; omega) _).trans hb3)
          clear hn3 ho3 hg3 hb3 hlk
          go_wp2
          go_roundw
          case rel =>
            first
              | exact ⟨q + 1, _, _, by omega, by go_num, rfl, HO4, HI4, HB4⟩
              | (repeat apply Exists.intro
                 refine ⟨?_, rfl⟩
                 exact ⟨q + 1, _, _, by omega, by go_num, rfl, HO4, HI4, HB4⟩)
          case measure => simp [Go.RowKit.intOf]; omega
        · have hqk : q = k := by omega
          subst hqk
          go_wp2
          go_ret
          have h := HO.out
          rw [List.take_of_length_le (by rw [HLN.out]; exact Nat.le_refl _)] at h
          exact ⟨_, _, _, rfl, HLN.out.symm, h, HB.out⟩
end Go.Proofs.YtpihhlbfpbngaaaGreatDoor
