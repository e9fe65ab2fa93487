/- The walks and laws that the claim leans on. -/
import Derived.Test.YtpihhlbfpbngaaaGreatDoorJLcla
import Derived.Test.YtpihhlbfpbngaaaGreatDoorJLcr0a
import Derived.Test.YtpihhlbfpbngaaaGreatDoorJbu
import Derived.Test.YtpihhlbfpbngaaaGreatDoorCards
import Derived.Test.YtpihhlbfpbngaaaGreatDoorTie
import Derived.WalkSpells
import Derived.WalkLawsBesides
import Derived.Deep.AppendLies
import Derived.Deep.OwnRows
import Derived.BigQuiet
import Derived.Lib.Hide
import Derived.StillTail
import Derived.Deep.RegionHeld3
import Derived.Deep.CutBlock
import Derived.Lib.ItoaNum
import Derived.Lib.AppendZeros
import Derived.ProofKit
import Derived.OpenShut
import Derived.Deep.DeepHandedRow
import Derived.Lib.LaidTab
import Derived.Lib.BufferMore
import Derived.Lib.Zigzag
import Derived.Shelf.SlMaps.Clone
import Derived.Shelf.SlIter.Sorted
import Derived.Lib.QuoteBits
import Derived.Lib.SlKeysI
import Derived.Deep.Onto
import Derived.Laws.CopyOwn
import Derived.Lib.BytesEntry
import Derived.Lib.SlBytesConst
namespace Go.Proofs.YtpihhlbfpbngaaaGreatDoor
open Go.ChangeShapes Go.WideShapes Go.ChangeAt Go.RowKit
section
variable {H : Type} {enc : TypeId × Value → H} {W : World} {b0 base : Nat} {sp : Nat → Bool} {held : Bool} {v : Value} {d : DataW H} {p : List MemPlace} {r : Reach}
set_option maxRecDepth 100000 in
theorem u8_of (hv : Value.okWide Tryz.prog W r b0 5 v) (h : DataW.Trod enc Tryz.prog W base sp held 5 v d p) : ∃ n : Nat, v = .int .u8 (n : Int) ∧ n < 256 := by
  obtain ⟨n, hs, _, _, hw⟩ := open_int Tryz.underlying5 hv h
  have hb : 0 ≤ n ∧ n < 256 := by
    have hm : IntKind.u8.min = 0 := by decide
    have hx : IntKind.u8.max = 255 := by decide
    simp only [Lit.wf, hm, hx, Bool.and_eq_true, decide_eq_true_eq] at hw
    omega
  exact ⟨n.toNat, by rw [Int.toNat_of_nonneg hb.1]; exact hs, by omega⟩
set_option maxRecDepth 100000 in
theorem u64_of (hv : Value.okWide Tryz.prog W r b0 26 v) (h : DataW.Trod enc Tryz.prog W base sp held 26 v d p) : ∃ n : Nat, v = .int .u64 (n : Int) ∧ n < 18446744073709551616 := by
  obtain ⟨n, hs, _, _, hw⟩ := open_int Tryz.underlying26 hv h
  have hb : 0 ≤ n ∧ n < 18446744073709551616 := by
    have hm : IntKind.u64.min = 0 := by decide
    have hx : IntKind.u64.max = 18446744073709551615 := by decide
    simp only [Lit.wf, hm, hx, Bool.and_eq_true, decide_eq_true_eq] at hw
    omega
  exact ⟨n.toNat, by rw [Int.toNat_of_nonneg hb.1]; exact hs, by omega⟩
end
end Go.Proofs.YtpihhlbfpbngaaaGreatDoor
namespace Go.Proofs.YtpihhlbfpbngaaaGreatDoor
open Go.RowKit Go.Maps
section
variable {a : DA} {L T n K : Nat} {x : HA} {cs cs2 : Nat → CS} {f f2 : Nat → Option Nat} {N m b0 : Nat} {S : Fp} {cur cur2 : Nat → Nat} {w : World} {ks keep free : List Nat} {V : Nat → Nat} {cm d r : Nat}
theorem LiveA.fr {q kind k i : Nat} (h : LiveA 53 K cs q kind k i) (hF : Fr 53 K cs f cur cs2 f2 cur2) : LiveA 53 K cs2 q kind k i ∧ cs2 k = cs k ∧ ∀ j, j < payW (cs k).cl → cur2 (pOff q / 8 + j) = cur (pOff q / 8 + j) := by
  have hat := h.at_
  have e1 := hF.chunk k hat.1 hat.2.1
  have hst : ((cs k).bs i).st = 177 := by rw [h.bk]
  have hnv : ¬ Vac 53 K cs f (cs k).cl k i := fun hv => by
    have := hv.2.2.2.2.1
    omega
  refine ⟨⟨⟨hat.1, by rw [e1]; exact hat.2.1, by rw [e1]; exact hat.2.2.1, by rw [hat.2.2.2]; unfold offO; rw [e1]⟩, by rw [e1]; exact h.bk, h.kind_, h.nz, h.lt, h.top⟩, e1, fun j hj => ?_⟩
  rw [hat.lines.1]
  exact hF.held k i hat.1 hat.2.1 hat.2.2.1 hnv j hj
theorem BkA.fr {q next : Nat} {p : List Nat} (hb : BkA K cs cur q next p) (hF : Fr 53 K cs f cur cs2 f2 cur2) : BkA K cs2 cur2 q next p := by
  obtain ⟨k, i, h1, h2⟩ := hb.live
  obtain ⟨g1, g2, g3⟩ := h1.fr hF
  refine ⟨⟨k, i, g1, by rw [g2]; exact h2⟩, fun y hy => ?_⟩
  have h3 := hb.words y hy
  rw [payL_len] at hy
  rw [g3 y (by omega)]
  exact h3
theorem BkA.ne {q z next : Nat} {p : List Nat} (hb : BkA K cs cur q next p) (hz : KeepOk 53 K cs f z) : pOff z ≠ pOff q := fun e => by
  obtain ⟨k, i, h1, _⟩ := hb.live
  obtain ⟨k2, i2, g1, g2, g3, g4, g5⟩ := hz.loc
  obtain ⟨e1, e2⟩ := h1.at_.uniq (k' := k2) (i' := i2) ⟨g1, g2, g3, e.symm.trans g4⟩
  subst e1 e2
  rw [h1.bk] at g5
  have g6 : (177 : Nat) = 176 := g5
  omega
theorem pub_bk0 (hd : DS a L T 53 n K x cs f N m b0 S cur w) {q next : Nat} {p : List Nat} (hb : BkA K cs cur q next p) (hA : AOk 53 K cs ks (tlOf 53 cs keep) (dlOf 53 cs free) V) (hkp : ∀ r ∈ keep, ∃ k i, At 53 K cs r k i) (hfr : ∀ r ∈ free, ∃ k i, At 53 K cs r k i)
    (h96 : (([] : List (Nat × Nat)) ++ ks.flatMap (acW 53 cs (tlOf 53 cs keep) (dlOf 53 cs free) V)).length ≤ 96) (h1 : ∀ z ∈ keep, pOff z ≠ pOff q) (h2 : ∀ z ∈ free, pOff z ≠ pOff q) :
    BkA K (acC cs ks (tlOf 53 cs keep) (dlOf 53 cs free) V) (rdG 0 cur (([] : List (Nat × Nat)) ++ ks.flatMap (acW 53 cs (tlOf 53 cs keep) (dlOf 53 cs free) V)) cm) q next p := by
  obtain ⟨k, i, g1, g2⟩ := hb.live
  refine ⟨⟨k, i, pub_live hkp hfr g1 h1 h2, ?_⟩, fun y hy => ?_⟩
  · rw [(acC_dv cs ks (tlOf 53 cs keep) (dlOf 53 cs free) V k).2.1]
    exact g2
  · have h5 := hb.words y hy
    rw [payL_len] at hy
    rw [g1.at_.lines.1] at h5 ⊢
    exact (pub_pay hd (by omega) hA h96 g1.at_.1 g1.at_.2.1 g1.at_.2.2.1 (by omega) (fun e he => absurd he (by simp))).trans h5
theorem sfp_new (h : SD a L T 53 n K x cs f N m b0 S cur w d r) : ¬ sfp S x w.heap.size := by
  rintro (e | e)
  · exact Nat.lt_irrefl _ (h.ds.dev.lt _ e)
  · have h1 := h.lo
    have h2 := h1.pl
    have h3 := h1.mr
    have h4 := h1.mh
    have e' : w.heap.size = x.pl ∨ w.heap.size = x.mr ∨ w.heap.size = x.mh := e
    omega
theorem lit_reads (W : World) (C : Array Value) (t : TypeId) (fz : Nat × Nat) (l : List Nat) (h : C.toList = u8s l) (hl : l.length = 4) : Reads (W.alloc (.cells C t fz)) (W.alloc (.cells C t fz)).heap.size 1 (some ⟨W.heap.size, 0, none⟩) 4 (u8s l) := by
  refine ⟨by simp [u8s, hl], fun _ => ⟨_, rfl, by simp, fun j u hu => ?_⟩⟩
  have hh : (W.alloc (.cells C t fz)).heap[W.heap.size]? = some (.cells C t fz) := heap_alloc_new W _
  have ha : (⟨W.heap.size, 0, none⟩ : Addr).add j = ⟨W.heap.size, j, none⟩ := by unfold Addr.add; split <;> simp_all
  rw [ha, cell_of_row _ _ _ _ _ _ hh, ← Array.getElem?_toList, h]
  exact hu
theorem lit_cells (W : World) (C : Array Value) (t : TypeId) (l : List Nat) (h : C.toList = uCells l) : Reads (W.alloc (.cells C t)) (W.alloc (.cells C t)).heap.size 1 (some ⟨W.heap.size, 0, none⟩) l.length (uCells l) := by
  refine ⟨by simp [uCells], fun _ => ⟨_, rfl, by simp, fun j u hu => ?_⟩⟩
  have hh : (W.alloc (.cells C t)).heap[W.heap.size]? = some (.cells C t) := heap_alloc_new W _
  have ha : (⟨W.heap.size, 0, none⟩ : Addr).add j = ⟨W.heap.size, j, none⟩ := by unfold Addr.add; split <;> simp_all
  rw [ha, cell_of_row _ _ _ _ _ _ hh, ← Array.getElem?_toList, h]
  exact hu
theorem four (p : List Nat) (hl : p.length = 4) (al : List Nat) : nBlk p.length = 1 ∧ alW p.length al 1 = 1 :: al ∧ p.drop (456 * 0) = p := by
  rw [hl]
  exact ⟨rfl, rfl, rfl⟩
theorem one_of {bl : List Nat} (h : bl.length = 1) : bl = [bl.headD 0] := by
  match bl, h with
  | [z], _ => rfl
variable {y : WA}
def RfPut (w0 : World) (a : DA) (L T K : Nat) (x : HA) (y : WA) (cs : Nat → CS) (N m b0 : Nat) (cur : Nat → Nat) (al p : List Nat) (q : Nat) (A' : Option Addr) (w' : World) : Prop :=
  ∃ cs' f' S' cur', BW a L (T + 4000) K x y cs' f' (N + 20) m b0 S' cur' w' ∧ Cap 53 K cs' f' (1 :: al) ∧ BkA K cs' cur' q 0 p ∧ KeepL K cs cur [q] cs' cur' ∧ Reads w' w'.heap.size 1 A' 1 (uCells [q]) ∧ (∀ ad, A' = some ad → ¬ sfp S' x ad.block) ∧ (∀ z, sfp S' x z → w0.heap.size ≤ z) ∧ Below w0.heap.size w0 w' ∧ q < 18446744073709551616
theorem rf_put {w0 : World} (hbw : BW a L T K x y cs f N m b0 S cur w) (al : List Nat) (hcap : Cap 53 K cs f al) (i : Nat) (hi : i < 8) (C : Array Value) (p : List Nat) (hC : C.toList = u8s p) (hl : p.length = 4) (hp : ∀ z ∈ p, z < 256) (hroom : room (1 :: al) ≤ K) (hN : N + 20 ≤ 1000000000) (hT : T + 4000 ≤ 1000000000)
    (hold : ∀ z, sfp S x z → w0.heap.size ≤ z) (hb : Below w0.heap.size w0 w) :
    Calls Tryz.prog 14 #[.pointer (some ⟨y.g, 0, none⟩), .int .i64 (i : Int), .slice (some ⟨w.heap.size, 0, none⟩) 4 4] (w.alloc (.cells C 5 (4, 5))) fun e w' => ∃ (q : Nat) (A' : Option Addr) (c' : Nat), e = .returned (.tuple #[.int .u64 (q : Int), .slice A' 1 c']) ∧ Hid (1 ≤ c' ∧ RfPut w0 a L T K x y cs N m b0 cur al p q A' w') := by
  have hbA : Below w.heap.size w (w.alloc (.cells C 5 (4, 5))) := (Below.refl _ _).alloc (Nat.le_refl _) _
  obtain ⟨f1, f2, f3⟩ := four p hl al
  have h := putK_any (hbw.below hbA) al hcap i hi (some ⟨w.heap.size, 0, none⟩) 4 4 p (lit_reads w C _ _ p hC hl) (fun _ ad h => by
    injection h with h
    subst h
    exact sfp_new hbw.sd) hp (by omega) (by omega) (by omega) (by
    have e : alW 4 al (nBlk 4) = 1 :: al := rfl
    rw [e]
    exact hroom) hN hT
  refine h.mono (fun e w' h => ?_)
  obtain ⟨bl, A', m', c', cs', f', S', cur', h1, h2, h3, h4, h5, h6, h7, h8, h9, h10⟩ := h
  have hlen : bl.length = 1 := h5.len.trans f1
  have hm1 : m' = 1 := h2.trans hlen
  subst hm1
  obtain ⟨q, hq⟩ : ∃ q, bl.headD 0 = q := ⟨_, rfl⟩
  have hbl : bl = [q] := by rw [← hq]; exact one_of hlen
  subst hbl
  have hbk := h5.bk 0 (by simp)
  rw [f3] at hbk
  have hold' : ∀ z, sfp S' x z → w0.heap.size ≤ z := fun z hz => by
    rcases hz with hz | hz
    · rcases h8 z hz with h | h
      · exact hold z (.inl h)
      · exact Nat.le_trans (hb.trans (hbA.mono hb.size)).size h
    · exact hold z (.inr hz)
  refine ⟨q, A', c', h1, Lib.hid ⟨h9, cs', f', S', cur', h6, ?_, hbk, h10, h3, fun ad h => (h4 ad h).2, hold', ?_, h5.head64.1⟩⟩
  · have hc := h5.cap
    rw [f1, f2] at hc
    exact hc
  · have h0 := hb.trans (hbA.mono hb.size)
    exact h0.trans (h7.toBelow h0.size hold)
theorem rf_write (h : SD a L T 53 n K x cs f N m b0 S cur w d r) (al : List Nat) (hcap : Cap 53 K cs f al) (C : Array Value) (p : List Nat) (hC : C.toList = u8s p) (hl : p.length = 4) (hp : ∀ z ∈ p, z < 256) (hroom : room (1 :: al) ≤ K) (hN : N + 10 ≤ 1000000000) (hT : T + 3000 ≤ 1000000000) :
    Calls Tryz.prog 28 #[.iface 37 (.pointer (some ⟨d, 0, none⟩)), .slice (some ⟨w.heap.size, 0, none⟩) 4 4] (w.alloc (.cells C 5 (4, 5))) fun e w' => ∃ (q : Nat) (A' : Option Addr) (c' : Nat), e = .returned (.tuple #[.int .u64 (q : Int), .slice A' 1 c', .int .i64 0]) ∧ Hid (q < 18446744073709551616 ∧ ∃ cs' f' S' cur', SD a L (T + 3000) 53 n K x cs' f' (N + 1) (m + 1) b0 S' cur' w' d r ∧ Fr 53 K cs f cur cs' f' cur' ∧ Cap 53 K cs' f' (1 :: al) ∧ Chg (sfp S x) w w' ∧ Grew S S' w) := by
  have hbA : Below w.heap.size w (w.alloc (.cells C 5 (4, 5))) := (Below.refl _ _).alloc (Nat.le_refl _) _
  obtain ⟨f1, f2, f3⟩ := four p hl al
  have h0 := write_any (h.below hbA) al hcap (some ⟨w.heap.size, 0, none⟩) 4 4 p (lit_reads w C _ _ p hC hl) (fun _ ad h' => by
    injection h' with h'
    subst h'
    exact sfp_new h) hp (by omega) (by omega) (by omega) (by
    have e : alW 4 al (nBlk 4) = 1 :: al := rfl
    rw [e]
    exact hroom) hN hT
  refine h0.mono (fun e w' h0 => ?_)
  obtain ⟨bl, A', m', c', cs', f', S', cur', h1, h2, h3, h4, h5, h6, h7, h8, h9, h10⟩ := h0
  have hlen : bl.length = 1 := h2.trans f1
  have hm1 : m' = 1 := h3.trans hlen
  subst hm1
  obtain ⟨q, hq⟩ : ∃ q, bl.headD 0 = q := ⟨_, rfl⟩
  have hbl : bl = [q] := by rw [← hq]; exact one_of hlen
  subst hbl
  have hrq := h6.w1.rq 0 (by simp)
  refine ⟨q, A', c', h1, Lib.hid ⟨hrq.keep.nz.2, cs', f', S', cur', h7, h6.w1.fr, ?_, (Chg.of_below hbA).trans h8 (Grew.refl _ _), ?_⟩⟩
  · have hc := h6.w1.cap
    have e : alW p.length al [q].length = 1 :: al := f2
    rw [e] at hc
    exact hc
  · exact fun z hz => (h9 z hz).imp id (fun h => Nat.le_trans hbA.size h)
theorem rf_alloc (h : SD a L T 53 n K x cs f N m b0 S cur w d r) (al : List Nat) (hcap : Cap 53 K cs f al) (hroom : room (1 :: al) ≤ K) (kind : Nat) (hk0 : 0 < kind) (hk8 : kind < 128) (hN : N < 1000000000) (hT : T + 400 ≤ 1000000000) :
    Calls Tryz.prog 29 #[.pointer (some ⟨d, 0, none⟩), .int .i64 7, .int .u8 (kind : Int)] w fun e w' => ∃ q : Nat, e = .returned (.tuple #[.int .u64 (q : Int), .int .i64 0]) ∧ Hid (q < 18446744073709551616 ∧ ∃ cs' f' S' cur', SD a L (T + 400) 53 n K x cs' f' (N + 1) (m + 1) b0 S' cur' w' d r ∧ Fr 53 K cs f cur cs' f' cur' ∧ KeepOk 53 K cs' f' q ∧ Chg (sfp S x) w w' ∧ Grew S S' w) := by
  have h0 := allocD h 7 kind (by omega) (by omega) hk0 hk8 hN hT (hcap.has (cl := clsOf 7) (by decide) hroom)
  refine h0.mono (fun e w' h0 => ?_)
  obtain ⟨k, i, S', cs', cur', h1, h2, h3, h4, h5⟩ := h0
  obtain ⟨g1, g2⟩ := Rq.new h3.ds ⟨hk0, hk8⟩ h2 rfl
  exact ⟨_, h1, Lib.hid ⟨g1.keep.nz.2, cs', _, S', cur', h3, Fr.alloc h.ds (by decide) h2, g1.keep, h4, h5⟩⟩
theorem rf_pub (h : SD a L T 53 n K x cs f N m b0 S cur w d r) (hK12 : K ≤ 12) (A1 A2 : Option Addr) (c1 c2 : Nat) {live other gone : Nat} {p pg : List Nat} (h1 : Reads w w.heap.size 1 A1 1 (uCells [other])) (h2 : Reads w w.heap.size 1 A2 1 (uCells [gone])) (hA1 : ∀ ad, A1 = some ad → ¬ sfp S x ad.block)
    (hk : KeepOk 53 K cs f other) (hg : BkA K cs cur gone 0 pg) (hlv : BkA K cs cur live 0 p) (hne : pOff gone ≠ pOff live) (hT : T + 800 ≤ 1000000000) (hN : N + 1 ≤ 1000000000) :
    Calls Tryz.prog 30 #[.pointer (some ⟨d, 0, none⟩), .slice none 0 0, .slice A1 1 c1, .slice A2 1 c2] w fun e w' => e = .returned (.int .i64 0) ∧ Hid (∃ cs' f' N' m' S' cur', SD a L (T + 800) 53 n K x cs' f' N' m' b0 S' cur' w' d r ∧ BkA K cs' cur' live 0 p ∧ Chg (sfp S x) w w') := by
  obtain ⟨kg, ig, g1, g2⟩ := hg.live
  have hog : pOff other ≠ pOff gone := hg.ne hk
  have hol : pOff other ≠ pOff live := hlv.ne hk
  have h0 := publishD h hK12 none A1 A2 0 0 1 c1 1 c2 [] [other] [gone] ⟨rfl, fun h => absurd h (Nat.lt_irrefl 0)⟩ (fun _ => ⟨rfl, rfl⟩) h1 h2 hA1 (fun z hz => by
    rw [List.mem_singleton.1 hz]; exact hk) (fun z hz => by rw [List.mem_singleton.1 hz]; exact g1.freeOk) (by
    show [pOff other, pOff gone].Nodup
    simp
    exact hog) ⟨fun e he => absurd he (by simp), fun e he => absurd he (by simp), fun e he => absurd he (by simp), by simp⟩ (by simp) hT (by omega)
  refine h0.mono (fun e w' h0 => ?_)
  obtain ⟨ks, V, cm, S', he, hA, hks, hcm, h96, hsd, hch, hgr⟩ := h0
  refine ⟨he, Lib.hid ⟨_, _, _, _, S', _, hsd, ?_, hch⟩⟩
  refine pub_bk0 h.ds hlv hA (fun z hz => ?_) (fun z hz => ?_) h96 (fun z hz => ?_) (fun z hz => ?_)
  · rw [List.mem_singleton.1 hz]
    obtain ⟨k, i, e1, e2, e3, e4, _⟩ := hk.loc
    exact ⟨k, i, e1, e2, e3, e4⟩
  · rw [List.mem_singleton.1 hz]
    exact ⟨kg, ig, g1.at_⟩
  · rw [List.mem_singleton.1 hz]
    exact hol
  · rw [List.mem_singleton.1 hz]
    exact hne
def RfAll (d : Nat) (w5 : World) (q v : Nat) : Prop :=
  (∀ W, Below w5.heap.size w5 W → Calls Tryz.prog 25 #[.iface 37 (.pointer (some ⟨d, 0, none⟩)), .int .u64 (q : Int)] W fun e w' => ∃ (A : Option Addr) (m c : Nat), e = .returned (.tuple #[.slice A m c, .int .i64 (v : Int)]) ∧ Hid ((v ≠ 0 → m = 0) ∧ Below W.heap.size W w')) ∧
  (∀ W, Below w5.heap.size w5 W → Calls Tryz.prog 32 #[.iface 37 (.pointer (some ⟨d, 0, none⟩)), .int .u64 (q : Int)] W fun e w' => ∃ (A : Option Addr) (m c : Nat), e = .returned (.tuple #[.slice A m c, .int .i64 (v : Int)]) ∧ Hid (Below W.heap.size W w')) ∧
  (∀ W, Below w5.heap.size w5 W → Calls Tryz.prog 33 #[.iface 37 (.pointer (some ⟨d, 0, none⟩)), .int .u64 (q : Int), .int .u64 0] W fun e w' => ∃ (A : Option Addr) (m c : Nat), e = .returned (.tuple #[.slice A m c, .int .i64 (v : Int)]) ∧ Hid (Below W.heap.size W w')) ∧
  (∀ W, Below w5.heap.size w5 W → Calls Tryz.prog 27 #[.iface 37 (.pointer (some ⟨d, 0, none⟩)), .int .u64 (q : Int)] W fun e w' => e = .returned (.int .i64 (v : Int)) ∧ Below W.heap.size W w')
theorem rf_all (h : SD a L T 53 n K x cs f N m b0 S cur w d r) {live : Nat} {p : List Nat} (hb : BkA K cs cur live 0 p) (hp : p.length = 4) (hpb : ∀ z ∈ p, z < 256) (q : Nat) (hq : q < 18446744073709551616) (hor : chkR 53 K cs q 1 ≠ 0 ∨ q = live) : RfAll d w q (chkR 53 K cs q 1) := by
  have hlive : chkR 53 K cs live 1 = 0 ∧ walkR L cur (fun q => chkR 53 K cs q 1) live = (0, [live], p) := by
    obtain ⟨k, i, g1, g2⟩ := hb.live
    refine ⟨(Live.chk ⟨k, i, g1⟩).1, ?_⟩
    have hC := chain_bk h.ds (bl := [live]) (p := p) (by rw [hp]; rfl) (by omega) (fun j hj => by
      have hj0 : j = 0 := by have : j < 1 := hj; omega
      subst hj0
      exact hb)
    exact chain_walk hC hpb (by omega)
  have hwk : walkR L cur (fun q => chkR 53 K cs q 1) q = if chkR 53 K cs q 1 ≠ 0 then (chkR 53 K cs q 1, [], []) else (0, [live], p) := by
    by_cases hc : chkR 53 K cs q 1 ≠ 0
    · rw [if_pos hc]
      unfold walkR
      rw [if_pos hc]
    · rw [if_neg hc]
      rcases hor with h1 | h1
      · exact absurd h1 hc
      · rw [h1]
        exact hlive.2
  have hw1 : (walkR L cur (fun q => chkR 53 K cs q 1) q).1 = chkR 53 K cs q 1 := by
    rw [hwk]
    split
    · rfl
    · rename_i hc
      exact (Classical.not_not.1 hc).symm
  refine ⟨fun W hW => ?_, fun W hW => ?_, fun W hW => ?_, fun W hW => ?_⟩
  · refine (bread_any (h.below hW) q hq).mono (fun e w' h0 => ?_)
    unfold RetRd at h0
    rw [hw1] at h0
    split at h0
    · rename_i hz
      obtain ⟨A, m, c, h1, h2, h3, h4, h5, h6⟩ := h0
      exact ⟨A, m, c, by rw [hz]; exact h1, Lib.hid ⟨fun hn => absurd hz hn, h6⟩⟩
    · exact ⟨none, 0, 0, h0.1, Lib.hid ⟨fun _ => rfl, h0.2⟩⟩
  · refine (bblocks_any (h.below hW) q hq).mono (fun e w' h0 => ?_)
    unfold RetBl at h0
    rw [hw1] at h0
    split at h0
    · rename_i hz
      obtain ⟨A, m, c, h1, h2, h3, h4, h5⟩ := h0
      exact ⟨A, m, c, by rw [hz]; exact h1, Lib.hid h5⟩
    · exact ⟨none, 0, 0, h0.1, Lib.hid h0.2⟩
  · by_cases hc : chkR 53 K cs q 1 ≠ 0
    · refine (link_bad (h.below hW) q 0 hq hc).mono (fun e w' h0 => ?_)
      exact ⟨none, 0, 0, h0.1, Lib.hid h0.2⟩
    · have hc0 : chkR 53 K cs q 1 = 0 := Classical.not_not.1 hc
      have hql : q = live := by
        rcases hor with h1 | h1
        · exact absurd h1 hc
        · exact h1
      subst hql
      have hld := hb.load h.ds (by omega)
      refine (link_any (h.below hW) q 0 _ _ hld.2.2.1 hq (by omega) hc0 hld.1).mono (fun e w' h0 => ?_)
      obtain ⟨g, h1, h2, h3, h4⟩ := h0
      exact ⟨_, 2, 2, by rw [hc0]; exact h1, Lib.hid h4⟩
  · exact bcheck_any (h.below hW) q hq hw1
end
end Go.Proofs.YtpihhlbfpbngaaaGreatDoor
namespace Go.Proofs.YtpihhlbfpbngaaaGreatDoor
open Go.RowKit Go.Maps
set_option maxRecDepth 100000
set_option maxHeartbeats 2000000
theorem nil_eq (W : World) : (binOp .eql 113 .nilIface .nilIface).run Tryz.prog W = .ok (.bool true) W := by rfl
theorem walk_nil (p : Nat) (w : World) : Calls Tryz.prog 59 #[.nilIface, .int .u64 (p : Int)] w fun e w' => e = .returned (.tuple #[.slice none 0 0, .slice none 0 0, .int .i64 1]) ∧ Below w.heap.size w w' := by
  have hnil := nil_eq
  go_enter Tryz.func59, Tryz.ntmps59
  go_wp2
  go_ret3
  exact ⟨rfl, by first | exact Below.refl _ _ | exact (Below.refl _ _).alloc (Nat.le_refl _) _ | exact ((Below.refl _ _).alloc (Nat.le_refl _) _).alloc (by simp) _⟩
theorem read_nil (p : Nat) (w : World) : Calls Tryz.prog 25 #[.nilIface, .int .u64 (p : Int)] w fun e w' => e = .returned (.tuple #[.slice none 0 0, .int .i64 1]) ∧ Below w.heap.size w w' := by
  have HW := Lib.hid (walk_nil p)
  go_enter Tryz.func25, Tryz.ntmps25
  go_wp2_with (go_at_call 59; refine (HW.out _).mono ?_; rintro e w1 ⟨rfl, h1⟩; have HE := Lib.hid h1; clear h1)
  go_ret2
  exact ⟨rfl, HE.out⟩
theorem compare_nil (p : Nat) (w : World) : Calls Tryz.prog 15 #[.nilIface, .int .u64 (p : Int), .slice none 0 0] w fun e w' => e = .returned (.tuple #[.int .i64 0, .int .i64 1]) ∧ Below w.heap.size w w' := by
  have HW := Lib.hid (walk_nil p)
  go_enter Tryz.func15, Tryz.ntmps15
  go_wp2_with (go_at_call 59; refine (HW.out _).mono ?_; rintro e w1 ⟨rfl, h1⟩; have HE := Lib.hid h1; clear h1)
  go_ret2
  exact ⟨rfl, HE.out⟩
theorem write_nil (w : World) : Calls Tryz.prog 28 #[.nilIface, .slice none 0 0] w fun e w' => e = .returned (.tuple #[.int .u64 0, .slice none 0 0, .int .i64 1]) ∧ Below w.heap.size w w' := by
  have hnil := nil_eq
  have c0 : (w.alloc (.cells #[.nilIface] 113)).cell? ⟨w.heap.size, 0, none⟩ = some .nilIface := (Blk.new w 113 #[.nilIface]).cell 0
  go_enter Tryz.func28, Tryz.ntmps28
  go_wp2
  go_ret3
  exact ⟨rfl, by first | exact Below.refl _ _ | exact (Below.refl _ _).alloc (Nat.le_refl _) _ | exact ((Below.refl _ _).alloc (Nat.le_refl _) _).alloc (by simp) _⟩
theorem link_nil (p next : Nat) (w : World) : Calls Tryz.prog 33 #[.nilIface, .int .u64 (p : Int), .int .u64 (next : Int)] w fun e w' => e = .returned (.tuple #[.slice none 0 0, .int .i64 1]) ∧ Below w.heap.size w w' := by
  have hnil := nil_eq
  go_enter Tryz.func33, Tryz.ntmps33
  go_wp2
  go_ret2
  exact ⟨rfl, by first | exact Below.refl _ _ | exact (Below.refl _ _).alloc (Nat.le_refl _) _ | exact ((Below.refl _ _).alloc (Nat.le_refl _) _).alloc (by simp) _⟩
end Go.Proofs.YtpihhlbfpbngaaaGreatDoor
