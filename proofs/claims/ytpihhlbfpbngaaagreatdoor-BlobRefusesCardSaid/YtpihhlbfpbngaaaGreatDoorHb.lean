/- The walks and laws that the claim leans on. -/
import Derived.Test.YtpihhlbfpbngaaaGreatDoorHa
import Derived.Test.YtpihhlbfpbngaaaGreatDoorProg
import Derived.WalkSpells
import Derived.WalkLawsBesides
import Derived.Deep.AppendLies
import Derived.Deep.OwnRows
import Derived.BigQuiet
import Derived.Lib.Hide
import Derived.StillTail
import Derived.Deep.RegionHeld3
import Derived.Deep.CutBlock
import Derived.Lib.ItoaNum
import Derived.Lib.AppendZeros
import Derived.Lib.BufferMore
import Derived.Lib.Zigzag
import Derived.Shelf.SlMaps.Clone
import Derived.Shelf.SlIter.Sorted
import Derived.Lib.QuoteBits
import Derived.Lib.SlKeysI
import Derived.Deep.Onto
import Derived.Laws.CopyOwn
import Derived.Lib.BytesEntry
import Derived.Lib.SlBytesConst
namespace Go.Proofs.YtpihhlbfpbngaaaGreatDoor
open Go.RowKit Go.Maps
def RfOne (d : Nat) (w5 : World) (live q v : Nat) : Prop :=
  (∀ W, Below w5.heap.size w5 W → Calls Tryz.prog 31 #[.pointer (some ⟨d, 0, none⟩), .int .u64 (q : Int), .int .u8 1] W fun e w' => e = .returned (.int .i64 (v : Int)) ∧ Below W.heap.size W w') ∧
  ((v ≠ 0 ∨ q = live) → RfAll d w5 q v)
theorem rf_tail {w7 : World} {a : DA} {L T n K : Nat} {x : HA} {cs : Nat → CS} {f : Nat → Option Nat} {N m b0 : Nat} {S : Fp} {cur : Nat → Nat} {d r live : Nat} {p : List Nat} (h : SD a L T 53 n K x cs f N m b0 S cur w7 d r) (hb : BkA K cs cur live 0 p) (hp : p.length = 4) (hpb : ∀ z ∈ p, z < 256) (q : Nat) (hq : q < 18446744073709551616) : ∃ v, RfOne d w7 live q v := by
  refine ⟨chkR 53 K cs q 1, fun W hW => ?_, fun h1 => rf_all h hb hp hpb q hq h1⟩
  have h2 := checkD (h.below hW) q 1 hq (by omega)
  exact h2
def Rf6 (w : World) (a : DA) (x : HA) (y : WA) (b0 live gone : Nat) (A4 : Option Addr) (other : Nat) (w6 : World) : Prop :=
  ∃ T cs f N m S cur, SD a (53 + 32 * 3) T 53 (32 * 3) 3 x cs f N m b0 S cur w6 y.d y.r ∧ BkA 3 cs cur live 0 [108, 105, 118, 101] ∧ BkA 3 cs cur gone 0 [103, 111, 110, 101] ∧ KeepOk 53 3 cs f other ∧ Reads w6 w6.heap.size 1 A4 1 (uCells [gone]) ∧ (∀ ad, A4 = some ad → ¬ sfp S x ad.block) ∧ (∀ z, sfp S x z → w.heap.size ≤ z) ∧ Below w.heap.size w w6 ∧
    (w6.cell? ⟨y.g, 3, none⟩ = some (.pointer (some ⟨y.d, 0, none⟩)) ∧ y.g < w6.heap.size ∧ ¬ sfp S x y.g ∧ ∃ vs, Blk w6 y.g 40 vs) ∧ T ≤ 100000 ∧ N ≤ 1000
theorem rf_six {w w6 : World} {a : DA} {x : HA} {y : WA} {b0 live gone other : Nat} {A4 : Option Addr} (h : Rf6 w a x y b0 live gone A4 other w6) (hne : pOff gone ≠ pOff live) (c4 : Nat) (W : World) (hW0 : Below w6.heap.size w6 W) (hWs : W.heap.size = w6.heap.size) :
    Calls Tryz.prog 30 #[.pointer (some ⟨y.d, 0, none⟩), .slice none 0 0, .slice (some ⟨W.heap.size, 0, none⟩) 1 1, .slice A4 1 c4] (W.alloc (.cells #[.int .u64 (other : Int)] 27)) fun e w' => e = .returned (.int .i64 0) ∧ Hid ((w'.cell? ⟨y.g, 3, none⟩ = some (.pointer (some ⟨y.d, 0, none⟩)) ∧ y.g < w'.heap.size) ∧ Below w.heap.size w w' ∧ ∀ q, q < 18446744073709551616 → ∃ v, RfOne y.d w' live q v) := by
  obtain ⟨T, cs, f, N, m, S, cur, hsd, hlv, hg, hk, hr, hA, hold, hb, ⟨hc, hgl, hgo, vs, hblk⟩, hT, hN⟩ := h
  have hW : Below w6.heap.size w6 (W.alloc (.cells #[.int .u64 (other : Int)] 27)) := hW0.alloc hW0.size _
  have h0 := rf_pub (hsd.below hW) (by omega) (some ⟨W.heap.size, 0, none⟩) A4 1 c4 (lit_cells W #[.int .u64 (other : Int)] 27 [other] rfl) ((hr.below hW).more hW.size) (fun ad h => by
    injection h with h
    subst h
    rw [hWs]
    exact sfp_new hsd) hk hg hlv hne (by omega) (by omega)
  refine h0.mono (fun e w' h1 => ?_)
  obtain ⟨he, h2⟩ := h1
  obtain ⟨cs', f', N', m', S', cur', hsd', hlv', hch⟩ := h2.out
  have h3 := hb.trans (hW.mono hb.size)
  refine ⟨he, Lib.hid ⟨⟨?_, Nat.lt_of_lt_of_le hgl (Nat.le_trans hW.size hch.size)⟩, h3.trans (hch.toBelow h3.size hold), fun q hq => rf_tail hsd' hlv' rfl (by decide) q hq⟩⟩
  have hblk' := hblk.below hW hblk.lt
  have hb2 := hch.blk hblk' hgo
  have e1 : (W.alloc (.cells #[.int .u64 (other : Int)] 27)).cell? ⟨y.g, 3, none⟩ = some (.pointer (some ⟨y.d, 0, none⟩)) := (hW.cell (p := ⟨y.g, 3, none⟩) hgl).trans hc
  rw [World.cell?_of_block (w := W.alloc (.cells #[.int .u64 (other : Int)] 27)) (hch.block y.g (Nat.lt_of_lt_of_le hgl hW.size) hgo)]
  exact e1
theorem u64_wrap (x : Nat) : ∃ y : Nat, y < 18446744073709551616 ∧ IntKind.u64.wrap (x : Int) = (y : Int) := ⟨x % 18446744073709551616, by omega, by rw [IntKind.wrap_u64]; omega⟩
theorem rf_kind (kind : Nat) (hk : kind < 256) : ∃ z kd : Nat, z < 100 ∧ kd = 1 + z ∧ Hid ((kind : Int).tmod 100 = (z : Int) ∧ (kind : Int) % 100 = (z : Int) ∧ IntKind.u8.wrap (z : Int) = (z : Int) ∧ IntKind.u8.wrap (1 + (z : Int)) = (kd : Int) ∧ 1 + (z : Int) = (kd : Int) ∧ IntKind.u8.wrap (kd : Int) = (kd : Int)) := by
  refine ⟨kind % 100, 1 + kind % 100, by omega, rfl, Lib.hid ⟨?_, by omega, by rw [IntKind.wrap_u8]; omega, by rw [IntKind.wrap_u8]; omega, by omega, by rw [IntKind.wrap_u8]; omega⟩⟩
  rw [Int.tmod_eq_emod_of_nonneg (by omega)]
  omega
set_option maxRecDepth 100000 in
set_option maxHeartbeats 8000000 in
theorem blobRefuses_law (p kind : Nat) (w : World) (hp : p < 18446744073709551616) (hkind : kind < 256) (ht : Tab w) (hpy : Pay w) :
    Calls Tryz.prog 6 #[.int .u64 (p : Int), .int .u8 (kind : Int)] w fun e w' => e = .returned (.bool true) ∧ Below w.heap.size w w' := by
  have HAw := Lib.hid (awakeB_any w ht hpy)
  have HT := Lib.hid ht
  have HPy := Lib.hid hpy
  have HP64 := Lib.hid hp
  obtain ⟨zk, kd, hzk, hkd, HKd⟩ := rf_kind kind hkind
  have HKk := Lib.hid (show zk < 100 ∧ kd = 1 + zk ∧ kind < 256 from ⟨hzk, hkd, hkind⟩)
  have kc := fun (w : World) (C : Array Value) (n c : Nat) => Lib.run_convert_bytes_const (P := Tryz.prog) w 22 5 C n c Tryz.underlying22 Tryz.underlying5
  clear ht hpy hp hkind hzk hkd
  go_enter Tryz.func6, Tryz.ntmps6
  go_wp2_with (go_at_call 12; refine HAw.out.mono ?_; rintro e w1 ⟨rfl, hb1⟩; refine stop ?_)
  unfold Stop
  have HB1 := Lib.hid hb1
  have HBg := Lib.hid (beginB_any 3 (by omega) (by omega) w1 (HT.out.below hb1) (HPy.out.below hb1))
  rw [show ((3 : Nat) : Int) = 3 from rfl] at HBg
  clear hb1 HAw
  go_wp2_with (go_at_call 13; refine HBg.out.mono ?_; rintro e w2 ⟨a, T, x, y, S, rfl, hbw, hT, hb⟩; refine stop ?_)
  unfold Stop
  have HB2 := Lib.hid (HB1.out.trans (hb.mono HB1.out.size))
  have hold : ∀ k, sfp S x k → w.heap.size ≤ k := fun k hk => by
    obtain ⟨_, _, _, _, l5, l6, l7, l8⟩ := hbw.sd.ds.lo
    refine Nat.le_trans HB1.out.size ?_
    rcases hk with h | h
    · exact l8 k h
    · rcases h with h | h | h
      · rw [h]; exact l5
      · rw [h]; exact l6
      · rw [h]; exact l7
  have HPut := Lib.hid (rf_put hbw [] (Cap.new (fun _ _ => rfl)) 0 (by omega) #[.int .u8 108, .int .u8 105, .int .u8 118, .int .u8 101] [108, 105, 118, 101] rfl rfl (by decide) (by decide) (by omega) (by omega) hold HB2.out)
  rw [show ((0 : Nat) : Int) = 0 from rfl] at HPut
  have HTT := Lib.hid hT
  clear hbw hT hb hold HBg
  go_wp2_with (go_at_call 14; refine HPut.out.mono ?_; rintro e w3 ⟨live, A3, c3, rfl, h3⟩; refine stop ?_)
  unfold Stop
  obtain ⟨_, cs3, f3, S3, cur3, hbw3, hcap3, hbk3, _, _, _, hold3, hB3, hl3⟩ := h3.out
  have HLv := Lib.hid hl3
  have HPut2 := Lib.hid (rf_put hbw3 [1] hcap3 1 (by omega) #[.int .u8 103, .int .u8 111, .int .u8 110, .int .u8 101] [103, 111, 110, 101] rfl rfl (by decide) (by decide) (by omega) (by have := HTT.out; omega) hold3 hB3)
  rw [show ((1 : Nat) : Int) = 1 from rfl] at HPut2
  have HBk3 := Lib.hid hbk3
  clear h3 hbw3 hcap3 hbk3 hold3 hB3 hl3 HPut
  go_wp2_with (go_at_call 14; refine HPut2.out.mono ?_; rintro e w4 ⟨gone, A4, c4, rfl, h4⟩; refine stop ?_)
  unfold Stop
  obtain ⟨hc4, cs4, f4, S4, cur4, hbw4, hcap4, hbkg, hkl4, hrd4, had4, hold4, hB4, hg64⟩ := h4.out
  obtain ⟨hbk4, hng⟩ := hkl4.bk HBk3.out
  have HNe : Hid (pOff gone ≠ pOff live) := Lib.hid (fun e => hng (by simp [e]))
  have HG64 := Lib.hid hg64
  have HBk4 := Lib.hid hbk4
  have HBkg := Lib.hid hbkg
  have HCap4 := Lib.hid hcap4
  have HRd4 := Lib.hid hrd4
  have HAd4 := Lib.hid had4
  have HOld4 := Lib.hid hold4
  have HB4 := Lib.hid hB4
  have HBw4 := Lib.hid hbw4
  have hg3 : w4.cell? ⟨y.g, 3, none⟩ = some (.pointer (some ⟨y.d, 0, none⟩)) := hbw4.blk.cell 3
  have HGl : Hid (y.g < w4.heap.size) := Lib.hid hbw4.blk.lt
  have HGo : Hid (¬ sfp S4 x y.g) := Lib.hid (fun hz => hz.elim hbw4.off.1 (hbw4.sd.ds.fp_ne hbw4.blk (by decide)))
  have HWr : Hid (∀ W, Below w4.heap.size w4 W → Calls Tryz.prog 28 #[.iface 37 (.pointer (some ⟨y.d, 0, none⟩)), .slice (some ⟨W.heap.size, 0, none⟩) 4 4] (W.alloc (.cells #[.int .u8 104, .int .u8 101, .int .u8 108, .int .u8 100] 5 (4, 5))) fun e w' => ∃ (q : Nat) (A' : Option Addr) (c' : Nat), e = .returned (.tuple #[.int .u64 (q : Int), .slice A' 1 c', .int .i64 0]) ∧ Hid (q < 18446744073709551616 ∧ ∃ cs' f' S' cur', SD a (53 + 32 * 3) (T + 4000 + 4000 + 3000) 53 (32 * 3) 3 x cs' f' (0 + 20 + 20 + 1) (0 + 1) w1.heap.size S' cur' w' y.d y.r ∧ Fr 53 3 cs4 f4 cur4 cs' f' cur' ∧ Cap 53 3 cs' f' [1, 1, 1] ∧ Chg (sfp S4 x) W w' ∧ Grew S4 S' W)) := Lib.hid (fun W hW => rf_write (HBw4.out.sd.below hW) [1, 1] HCap4.out _ [104, 101, 108, 100] rfl rfl (by decide) (by decide) (by omega) (by have := HTT.out; omega))
  clear h4 hc4 hbw4 hcap4 hbkg hkl4 hrd4 had4 hold4 hB4 hg64 hbk4 hng HPut2 HBk3
  go_wp2_with (go_at_call 28; refine (HWr.out _ (Below.refl _ _)).mono ?_; rintro e w5 ⟨held, A5, c5, rfl, h5⟩; have H5 := Lib.hid h5.out; clear h5; refine stop ?_)
  unfold Stop
  have HG5 : Hid (w5.cell? ⟨y.g, 3, none⟩ = some (.pointer (some ⟨y.d, 0, none⟩)) ∧ y.g < w5.heap.size ∧ Below w.heap.size w w5 ∧ held < 18446744073709551616) := Lib.hid (by
    obtain ⟨g1, cs5, f5, S5, cur5, hsd5, hfr5, hcp5, hch5, hgr5⟩ := H5.out
    have hW := Below.refl w4.heap.size w4
    refine ⟨(hch5.blk (HBw4.out.blk.below hW HBw4.out.blk.lt) HGo.out).cell 3, Nat.lt_of_lt_of_le HGl.out hch5.size, ?_, g1⟩
    exact (HB4.out.trans (hW.mono HB4.out.size)).trans (hch5.toBelow HB4.out.size HOld4.out))
  have hg5 := HG5.out.1
  have HAl : Hid (∀ W, Below w5.heap.size w5 W → Calls Tryz.prog 29 #[.pointer (some ⟨y.d, 0, none⟩), .int .i64 7, .int .u8 (kd : Int)] W fun e w' => ∃ q : Nat, e = .returned (.tuple #[.int .u64 (q : Int), .int .i64 0]) ∧ Hid (q < 18446744073709551616 ∧ Rf6 w a x y w1.heap.size live gone A4 q w')) := Lib.hid (fun W hW => by
    obtain ⟨g1, cs5, f5, S5, cur5, hsd5, hfr5, hcp5, hch5, hgr5⟩ := H5.out
    refine (rf_alloc (hsd5.below hW) [1, 1, 1] hcp5 (by decide) kd (by have := HKk.out; omega) (by have := HKk.out; omega) (by omega) (by have := HTT.out; omega)).mono (fun e w' h => ?_)
    obtain ⟨q, h1, h2⟩ := h
    obtain ⟨q64, cs6, f6, S6, cur6, hsd6, hfr6, hko6, hch6, hgr6⟩ := h2.out
    refine ⟨q, h1, Lib.hid ⟨q64, ?_⟩⟩
    have hW0 := Below.refl w4.heap.size w4
    have hold5 : ∀ z, sfp S5 x z → w.heap.size ≤ z := fun z hz => by
      rcases hz with hz | hz
      · rcases hgr5 z hz with h | h
        · exact HOld4.out z (.inl h)
        · exact Nat.le_trans HB4.out.size h
      · exact HOld4.out z (.inr hz)
    have hold6 : ∀ z, sfp S6 x z → w.heap.size ≤ z := fun z hz => by
      rcases hz with hz | hz
      · rcases hgr6 z hz with h | h
        · exact hold5 z (.inl h)
        · exact Nat.le_trans (HG5.out.2.2.1.trans (hW.mono HG5.out.2.2.1.size)).size h
      · exact hold5 z (.inr hz)
    have hA5 : ∀ ad, A4 = some ad → ¬ sfp S5 x ad.block := fun ad h hz => by
      rcases hz with hz | hz
      · rcases hgr5 _ hz with h1 | h1
        · exact HAd4.out ad h (.inl h1)
        · obtain ⟨ad', e, hb, _⟩ := HRd4.out.2 (by omega)
          rw [h] at e
          injection e with e
          subst e
          exact absurd h1 (Nat.not_le.2 hb)
      · exact HAd4.out ad h (.inr hz)
    have r5 := (hch5.reads HRd4.out (Nat.le_refl _) HAd4.out).more hch5.size
    have r5' := (r5.below hW).more hW.size
    have r6 := (hch6.reads r5' (Nat.le_refl _) hA5).more hch6.size
    refine ⟨_, cs6, f6, _, _, S6, cur6, hsd6, (HBk4.out.fr hfr5).fr hfr6, (HBkg.out.fr hfr5).fr hfr6, hko6, r6, fun ad h hz => ?_, hold6, ?_, ?_, by have := HTT.out; omega, by omega⟩
    · rcases hz with hz | hz
      · rcases hgr6 _ hz with h1 | h1
        · exact hA5 ad h (.inl h1)
        · obtain ⟨ad', e, hb, _⟩ := r5'.2 (by omega)
          rw [h] at e
          injection e with e
          subst e
          exact absurd h1 (Nat.not_le.2 hb)
      · exact hA5 ad h (.inr hz)
    · have h0 := HG5.out.2.2.1.trans (hW.mono HG5.out.2.2.1.size)
      exact h0.trans (hch6.toBelow h0.size hold5)
    · have hgo5 : ¬ sfp S5 x y.g := fun hz => hz.elim (fun h => (hgr5 _ h).elim (fun h => HGo.out (.inl h)) (fun h => Nat.lt_irrefl _ (Nat.lt_of_lt_of_le HGl.out h))) (fun h => HGo.out (.inr h))
      have hgo6 : ¬ sfp S6 x y.g := fun hz => hz.elim (fun h => (hgr6 _ h).elim (fun h => hgo5 (.inl h)) (fun h => Nat.lt_irrefl _ (Nat.lt_of_lt_of_le HG5.out.2.1 (Nat.le_trans hW.size h)))) (fun h => hgo5 (.inr h))
      have hb5 := hch5.blk (HBw4.out.blk.below hW0 HBw4.out.blk.lt) HGo.out
      have hb6 := hch6.blk (hb5.below hW hb5.lt) hgo5
      exact ⟨hb6.cell 3, hb6.lt, hgo6, _, hb6⟩)
  clear HWr hg3
  obtain ⟨k1, k2, k3, k4, k5, k6⟩ := HKd.out
  go_wp2_with (go_at_call 29; refine (HAl.out _ (Below.refl _ _)).mono ?_; rintro e w6 ⟨other, rfl, h6⟩; have H6 := Lib.hid h6.out.2; have HO64 := Lib.hid h6.out.1; clear h6; refine stop ?_)
  unfold Stop
  clear k1 k2 k3 k4 k5 k6
  have hg6 : w6.cell? ⟨y.g, 3, none⟩ = some (.pointer (some ⟨y.d, 0, none⟩)) := by
    obtain ⟨_, _, _, _, _, _, _, _, _, _, _, _, _, _, _, h, _⟩ := H6.out
    exact h.1
  have HPb := Lib.hid (rf_six H6.out HNe.out c4 w6 (Below.refl _ _) rfl)
  have HH64 : Hid (held < 18446744073709551616) := Lib.hid HG5.out.2.2.2
  clear HAl hg5 HG5 H5 HBw4 HBk4 HBkg HCap4 HRd4 HAd4 HOld4 HB4 HGl HGo
  go_wp2_with (go_at_call 30; refine HPb.out.mono ?_; rintro e w7 ⟨rfl, h7⟩; have H7 := Lib.hid h7.out; clear h7; refine stop ?_)
  unfold Stop
  have hg7 : w7.cell? ⟨y.g, 3, none⟩ = some (.pointer (some ⟨y.d, 0, none⟩)) := H7.out.1.1
  obtain ⟨x6, hx6, e6⟩ := u64_wrap (live + 1)
  obtain ⟨x7, hx7, e7⟩ := u64_wrap (live + 4294967296)
  have E6 : Hid (IntKind.u64.wrap ((live : Int) + 1) = (x6 : Int)) := Lib.hid (by rw [← e6, show ((live + 1 : Nat) : Int) = (live : Int) + 1 by omega])
  have E7 : Hid (IntKind.u64.wrap ((live : Int) + 4294967296) = (x7 : Int)) := Lib.hid (by rw [← e7, show ((live + 4294967296 : Nat) : Int) = (live : Int) + 4294967296 by omega])
  obtain ⟨xs, hxs⟩ : ∃ xs, [0, live, gone, held, other, p, x6, x7] = xs := ⟨_, rfl⟩
  have hxs64 : ∀ q ∈ xs, q < 18446744073709551616 := fun q hm => by
    rw [← hxs] at hm
    simp only [List.mem_cons, List.not_mem_nil, or_false] at hm
    have h1 := HLv.out
    have h2 := HG64.out
    have h3 := HH64.out
    have h4 := HO64.out
    have h5 := HP64.out
    rcases hm with e | e | e | e | e | e | e | e <;> omega
  have HXs : Hid (∀ (k : Nat) (h : k < xs.length), xs[k] < 18446744073709551616) := Lib.hid (fun k h => hxs64 _ (List.getElem_mem h))
  clear hxs64
  have HRow : Hid (Reads (w7.alloc (.cells #[.int .u64 0, .int .u64 (live : Int), .int .u64 (gone : Int), .int .u64 (held : Int), .int .u64 (other : Int), .int .u64 (p : Int), .int .u64 (x6 : Int), .int .u64 (x7 : Int)] 27)) (w7.alloc (.cells #[.int .u64 0, .int .u64 (live : Int), .int .u64 (gone : Int), .int .u64 (held : Int), .int .u64 (other : Int), .int .u64 (p : Int), .int .u64 (x6 : Int), .int .u64 (x7 : Int)] 27)).heap.size 1 (some ⟨w7.heap.size, 0, none⟩) 8 (uCells xs)) := Lib.hid (by
    rw [← hxs]
    exact lit_cells w7 _ _ [0, live, gone, held, other, p, x6, x7] rfl)
  have HB78 : Hid (Below w7.heap.size w7 (w7.alloc (.cells #[.int .u64 0, .int .u64 (live : Int), .int .u64 (gone : Int), .int .u64 (held : Int), .int .u64 (other : Int), .int .u64 (p : Int), .int .u64 (x6 : Int), .int .u64 (x7 : Int)] 27))) := Lib.hid ((Below.refl _ _).alloc (Nat.le_refl _) _)
  clear hx6 e6 hx7 e7 hxs HPb hg6 H6 HO64 HH64
  have e6 := E6.out
  have e7 := E7.out
  go_wp2_with fail
  obtain ⟨w8, hw8⟩ : ∃ w8, w7.alloc (.cells #[.int .u64 0, .int .u64 (live : Int), .int .u64 (gone : Int), .int .u64 (held : Int), .int .u64 (other : Int), .int .u64 (p : Int), .int .u64 (x6 : Int), .int .u64 (x7 : Int)] 27) = w8 := ⟨_, rfl⟩
  obtain ⟨g8, hg8⟩ : ∃ g8, w7.heap.size = g8 := ⟨_, rfl⟩
  rw [hw8] at HRow HB78 ⊢
  rw [hg8] at HRow
  try rw [hg8]
  clear hw8 hg8 E6 E7 e6 e7
  have hg78 : w8.cell? ⟨y.g, 3, none⟩ = some (.pointer (some ⟨y.d, 0, none⟩)) := (HB78.out.cell (p := ⟨y.g, 3, none⟩) H7.out.1.2).trans hg7
  have HD78 : Hid (∀ W, Below w8.heap.size w8 W → Below w7.heap.size w7 W) := Lib.hid (fun W hW => HB78.out.trans (hW.mono HB78.out.size))
  go_wp2_with fail
  go_loopw [108] (fun i wr => ∃ k : Nat, k ≤ 8 ∧ i = .int .i64 (k : Int) ∧ Hid (Below w8.heap.size w8 wr)) (fun i _ => 8 - (Go.RowKit.intOf i).toNat)
  case atStart => exact ⟨0, Nat.zero_le _, rfl, Lib.hid (Below.refl _ _)⟩
  case round =>
    obtain ⟨k, hk, rfl, HB⟩ := hrel
    have HB7 : Hid (Below w7.heap.size w7 wr) := Lib.hid (HB78.out.trans (HB.out.mono HB78.out.size))
    have hgr : wr.cell? ⟨y.g, 3, none⟩ = some (.pointer (some ⟨y.d, 0, none⟩)) := (HB7.out.cell (p := ⟨y.g, 3, none⟩) H7.out.1.2).trans hg7
    by_cases hlt : k < 8
    · obtain ⟨hx1, gb, go, hA, _, fk⟩ := u_facts (HRow.out.below HB.out) (k := k) hlt
      injection hA with hA
      injection hA with e1 e2
      subst e1 e2
      have hq64 := HXs.out k hx1
      generalize xs[k] = q at *
      have fk' : wr.cell? ⟨g8, k, none⟩ = some (.int .u64 (q : Int)) := by rw [Nat.zero_add] at fk; exact fk
      obtain ⟨v, hv1, hv2⟩ := H7.out.2.2 q hq64
      have HCk := Lib.hid (hv1 wr HB7.out)
      have hz5 : (0 : Int) ≤ (k : Int) := by omega
      have hz6 : (k : Int) < 8 := by omega
      clear fk hv1 hq64
      by_cases hskip : v = 0 ∧ q ≠ live
      · obtain ⟨rfl, hql⟩ := hskip
        have d1 : ((q : Int) == (live : Int)) = false := beq_eq_false_iff_ne.2 (by omega)
        have d2 : ((q : Int) != (live : Int)) = true := by rw [bne, d1]; rfl
        rw [show ((0 : Nat) : Int) = 0 from rfl] at HCk
        clear hv2 hql
        go_wp2_with (go_at_call 31; refine HCk.out.mono ?_; rintro e w9 ⟨rfl, hb9⟩; have HB9 := Lib.hid (HB.out.trans (hb9.mono HB.out.size)); clear hb9)
        go_roundw
        case rel =>
          first
            | exact ⟨k + 1, by omega, by go_num, HB9⟩
            | (repeat apply Exists.intro
               refine ⟨?_, rfl⟩
               exact ⟨k + 1, by omega, by go_num, HB9⟩)
        case measure => simp [Go.RowKit.intOf]; omega
      · have hor : v ≠ 0 ∨ q = live := by
          by_cases h0 : v = 0
          · exact .inr (Classical.not_not.1 (fun h => hskip ⟨h0, h⟩))
          · exact .inl h0
        obtain ⟨r1, r2, r3, r4⟩ := hv2 hor
        have HR1 := Lib.hid r1
        have HR2 := Lib.hid r2
        have HR3 := Lib.hid r3
        have HR4 := Lib.hid r4
        have HOr : Hid ((v = 0 → q = live)) := Lib.hid (fun h0 => hor.elim (fun h => absurd h0 h) id)
        clear r1 r2 r3 r4 hv2 hskip hor
        by_cases hv0 : v = 0
        · subst hv0
          obtain rfl := HOr.out rfl
          have d3 : ((q : Int) != (q : Int)) = false := by rw [bne, beq_self_eq_true]; rfl
          rw [show ((0 : Nat) : Int) = 0 from rfl] at HCk
          have HR4 : Hid (∀ W, Below w7.heap.size w7 W → Calls Tryz.prog 27 #[.iface 37 (.pointer (some ⟨y.d, 0, none⟩)), .int .u64 (q : Int)] W fun e w' => e = .returned (.int .i64 0) ∧ Below W.heap.size W w') := HR4
          have HR1 : Hid (∀ W, Below w7.heap.size w7 W → Calls Tryz.prog 25 #[.iface 37 (.pointer (some ⟨y.d, 0, none⟩)), .int .u64 (q : Int)] W fun e w' => ∃ (A : Option Addr) (m c : Nat), e = .returned (.tuple #[.slice A m c, .int .i64 0]) ∧ Hid (((0 : Nat) ≠ 0 → m = 0) ∧ Below W.heap.size W w')) := HR1
          have HR2 : Hid (∀ W, Below w7.heap.size w7 W → Calls Tryz.prog 32 #[.iface 37 (.pointer (some ⟨y.d, 0, none⟩)), .int .u64 (q : Int)] W fun e w' => ∃ (A : Option Addr) (m c : Nat), e = .returned (.tuple #[.slice A m c, .int .i64 0]) ∧ Hid (Below W.heap.size W w')) := HR2
          have HR3 : Hid (∀ W, Below w7.heap.size w7 W → Calls Tryz.prog 33 #[.iface 37 (.pointer (some ⟨y.d, 0, none⟩)), .int .u64 (q : Int), .int .u64 0] W fun e w' => ∃ (A : Option Addr) (m c : Nat), e = .returned (.tuple #[.slice A m c, .int .i64 0]) ∧ Hid (Below W.heap.size W w')) := HR3
          go_wp2_with (go_at_call 31; refine HCk.out.mono ?_; rintro e w9 ⟨rfl, hb9⟩; have HB9 := Lib.hid (HB.out.trans (hb9.mono HB.out.size)); clear hb9; refine stop ?_)
          unfold Stop
          have hg9 : w9.cell? ⟨y.g, 3, none⟩ = some (.pointer (some ⟨y.d, 0, none⟩)) := ((HD78.out _ HB9.out).cell (p := ⟨y.g, 3, none⟩) H7.out.1.2).trans hg7
          have HR1' := Lib.hid (HR1.out _ (HD78.out _ HB9.out))
          go_wp2_with (go_at_call 25; refine HR1'.out.mono ?_; rintro e w10 ⟨A10, m10, c10, rfl, hh⟩; have HH := Lib.hid hh.out; clear hh; refine stop ?_)
          unfold Stop
          have HB10 := Lib.hid (HB9.out.trans (HH.out.2.mono HB9.out.size))
          have hg10 : w10.cell? ⟨y.g, 3, none⟩ = some (.pointer (some ⟨y.d, 0, none⟩)) := ((HD78.out _ HB10.out).cell (p := ⟨y.g, 3, none⟩) H7.out.1.2).trans hg7
          have HR2' := Lib.hid (HR2.out _ (HD78.out _ HB10.out))
          clear hg9 HH HR1'
          go_wp2_with (go_at_call 32; refine HR2'.out.mono ?_; rintro e w11 ⟨A11, m11, c11, rfl, hh⟩; have HH := Lib.hid hh.out; clear hh; refine stop ?_)
          unfold Stop
          have HB11 := Lib.hid (HB10.out.trans (HH.out.mono HB10.out.size))
          have hg11 : w11.cell? ⟨y.g, 3, none⟩ = some (.pointer (some ⟨y.d, 0, none⟩)) := ((HD78.out _ HB11.out).cell (p := ⟨y.g, 3, none⟩) H7.out.1.2).trans hg7
          have HR3' := Lib.hid (HR3.out _ (HD78.out _ HB11.out))
          clear hg10 HH HR2'
          go_wp2_with (go_at_call 33; refine HR3'.out.mono ?_; rintro e w12 ⟨A12, m12, c12, rfl, hh⟩; have HH := Lib.hid hh.out; clear hh; refine stop ?_)
          unfold Stop
          have HB12 := Lib.hid (HB11.out.trans (HH.out.mono HB11.out.size))
          have hg12 : w12.cell? ⟨y.g, 3, none⟩ = some (.pointer (some ⟨y.d, 0, none⟩)) := ((HD78.out _ HB12.out).cell (p := ⟨y.g, 3, none⟩) H7.out.1.2).trans hg7
          have HR4' := Lib.hid (HR4.out w12 (HD78.out _ HB12.out))
          clear hg11 HH HR3'
          go_wp2_with (go_at_call 27; refine HR4'.out.mono ?_; rintro e w13 ⟨rfl, hb9⟩; have HB13 := Lib.hid (HB12.out.trans (hb9.mono HB12.out.size)); clear hb9; refine stop ?_)
          unfold Stop
          go_wp2_with fail
          go_roundw
          case rel =>
            first
              | exact ⟨k + 1, by omega, by go_num, HB13⟩
              | (repeat apply Exists.intro
                 refine ⟨?_, rfl⟩
                 exact ⟨k + 1, by omega, by go_num, HB13⟩)
          case measure => simp [Go.RowKit.intOf]; omega
        · have HV0 := Lib.hid hv0
          have d1 : ((v : Int) == 0) = false := beq_eq_false_iff_ne.2 (by omega)
          have d2 : ((v : Int) != 0) = true := by rw [bne, d1]; rfl
          have d3 : ((v : Int) != (v : Int)) = false := by rw [bne, beq_self_eq_true]; rfl
          clear hv0 HOr
          go_wp2_with (go_at_call 31; refine HCk.out.mono ?_; rintro e w9 ⟨rfl, hb9⟩; have HB9 := Lib.hid (HB.out.trans (hb9.mono HB.out.size)); clear hb9; refine stop ?_)
          unfold Stop
          have hg9 : w9.cell? ⟨y.g, 3, none⟩ = some (.pointer (some ⟨y.d, 0, none⟩)) := ((HD78.out _ HB9.out).cell (p := ⟨y.g, 3, none⟩) H7.out.1.2).trans hg7
          have HR1' := Lib.hid (HR1.out _ (HD78.out _ HB9.out))
          go_wp2_with (go_at_call 25; refine HR1'.out.mono ?_; rintro e w10 ⟨A10, m10, c10, rfl, hh⟩; have HH := Lib.hid hh.out; clear hh; refine stop ?_)
          unfold Stop
          have HB10 := Lib.hid (HB9.out.trans (HH.out.2.mono HB9.out.size))
          obtain rfl : m10 = 0 := HH.out.1 HV0.out
          have hg10 : w10.cell? ⟨y.g, 3, none⟩ = some (.pointer (some ⟨y.d, 0, none⟩)) := ((HD78.out _ HB10.out).cell (p := ⟨y.g, 3, none⟩) H7.out.1.2).trans hg7
          have HR2' := Lib.hid (HR2.out _ (HD78.out _ HB10.out))
          clear hg9 HH HR1'
          go_wp2_with (go_at_call 32; refine HR2'.out.mono ?_; rintro e w11 ⟨A11, m11, c11, rfl, hh⟩; have HH := Lib.hid hh.out; clear hh; refine stop ?_)
          unfold Stop
          have HB11 := Lib.hid (HB10.out.trans (HH.out.mono HB10.out.size))
          have hg11 : w11.cell? ⟨y.g, 3, none⟩ = some (.pointer (some ⟨y.d, 0, none⟩)) := ((HD78.out _ HB11.out).cell (p := ⟨y.g, 3, none⟩) H7.out.1.2).trans hg7
          have HR3' := Lib.hid (HR3.out _ (HD78.out _ HB11.out))
          clear hg10 HH HR2'
          go_wp2_with (go_at_call 33; refine HR3'.out.mono ?_; rintro e w12 ⟨A12, m12, c12, rfl, hh⟩; have HH := Lib.hid hh.out; clear hh; refine stop ?_)
          unfold Stop
          have HB12 := Lib.hid (HB11.out.trans (HH.out.mono HB11.out.size))
          have hg12 : w12.cell? ⟨y.g, 3, none⟩ = some (.pointer (some ⟨y.d, 0, none⟩)) := ((HD78.out _ HB12.out).cell (p := ⟨y.g, 3, none⟩) H7.out.1.2).trans hg7
          have HR4' := Lib.hid (HR4.out w12 (HD78.out _ HB12.out))
          clear hg11 HH HR3'
          go_wp2_with (go_at_call 27; refine HR4'.out.mono ?_; rintro e w13 ⟨rfl, hb9⟩; have HB13 := Lib.hid (HB12.out.trans (hb9.mono HB12.out.size)); clear hb9; refine stop ?_)
          unfold Stop
          go_wp2_with fail
          go_roundw
          case rel =>
            first
              | exact ⟨k + 1, by omega, by go_num, HB13⟩
              | (repeat apply Exists.intro
                 refine ⟨?_, rfl⟩
                 exact ⟨k + 1, by omega, by go_num, HB13⟩)
          case measure => simp [Go.RowKit.intOf]; omega
    · obtain rfl : k = 8 := by omega
      have HN1 := Lib.hid (read_nil live)
      have HN2 := Lib.hid write_nil
      have HN3 := Lib.hid (compare_nil live)
      have HN4 := Lib.hid (link_nil live 0)
      rw [show ((0 : Nat) : Int) = 0 from rfl] at HN4
      have HB0 : Hid (Below w.heap.size w wr) := Lib.hid (H7.out.2.1.trans (HB7.out.mono H7.out.2.1.size))
      go_wp2_with (go_at_call 25; refine (HN1.out _).mono ?_; rintro e w9 ⟨rfl, hb9⟩; have HB9 := Lib.hid (HB0.out.trans (hb9.mono HB0.out.size)); clear hb9; refine stop ?_)
      unfold Stop
      go_wp2_with (go_at_call 28; refine (HN2.out _).mono ?_; rintro e w10 ⟨rfl, hb9⟩; have HB10 := Lib.hid (HB9.out.trans (hb9.mono HB9.out.size)); clear hb9; refine stop ?_)
      unfold Stop
      go_wp2_with (go_at_call 15; refine (HN3.out _).mono ?_; rintro e w11 ⟨rfl, hb9⟩; have HB11 := Lib.hid (HB10.out.trans (hb9.mono HB10.out.size)); clear hb9; refine stop ?_)
      unfold Stop
      go_wp2_with (go_at_call 33; refine (HN4.out _).mono ?_; rintro e w12 ⟨rfl, hb9⟩; have HB12 := Lib.hid (HB11.out.trans (hb9.mono HB11.out.size)); clear hb9)
      go_ret
      exact ⟨rfl, HB12.out⟩
end Go.Proofs.YtpihhlbfpbngaaaGreatDoor
