/- The walks and laws that the claim leans on, part 50. -/
import Derived.Test.YtnlokpakiambaaaGreatDoorJbw
set_option maxRecDepth 100000
set_option maxHeartbeats 16000000
namespace Go.Proofs.YtnlokpakiambaaaGreatDoor
open Go.Lib (hid)
section
open Go.RowKit Go.Maps
theorem hist_at {K : Nat} {cs : Nat → CS} {cur : Nat → Nat} : ∀ {rl : List RV}, HistA K cs cur (vvs rl) → ∀ i (h : i < rl.length), VerA K cs cur (rl[i]).v (hdQ (vvs (rl.drop (i + 1))))
 | r :: t, hh, 0, _ => hh.1
 | r :: t, hh, i + 1, h => hist_at (rl := t) hh.2.1 i (by simpa using h)
theorem hdQ_drop (rl : List RV) (i : Nat) : hdQ (vvs (rl.drop i)) = ((rl[i]?).map fun r => r.v.q).getD 0 := by
 cases h : rl[i]? with
 | none =>
  have h1 := List.getElem?_eq_none_iff.1 h
  rw [List.drop_of_length_le h1]
  rfl
 | some r =>
  obtain ⟨h1, h2⟩ := List.getElem?_eq_some_iff.1 h
  rw [List.drop_eq_getElem_cons h1, h2]
  rfl
section
variable {w0 w : World} {k gh : Nat} {rl : List RV} {z : HP}
theorem same_any (hj : HsJ w0 k gh rl (vvs rl) z w) (i : Nat) (hi : i < rl.length) (st : Nat) (dl : Bool) (dt ol : Nat) (hk : rl.length ≤ 1000) (h1 : st = (rl[i]).v.st) (h2 : dl = (rl[i]).v.dl) (h3 : dt = (rl[i]).v.dt) (h4 : ol = hdQ (vvs (rl.drop (i + 1)))) :
  Calls Tryz.prog 17 #[.pointer (some ⟨gh, 0, none⟩), vAgg st dl dt ol, .int .i64 (i : Int)] w fun e w' => e = .returned (.bool true) ∧ Below w.heap.size w w' := by
 have hl := rv_len hj.rd
 obtain ⟨W1, hW1⟩ : ∃ W1, w.alloc (.cells #[.int .u64 (st : Int), .bool dl, .int .u64 (dt : Int), .int .u64 (ol : Int)] 36) = W1 := ⟨_, rfl⟩
 have hbx := Blk.new w 36 #[.int .u64 (st : Int), .bool dl, .int .u64 (dt : Int), .int .u64 (ol : Int)]
 have hB1 : Below w.heap.size w (w.alloc (.cells #[.int .u64 (st : Int), .bool dl, .int .u64 (dt : Int), .int .u64 (ol : Int)] 36)) := (Below.refl _ _).alloc (Nat.le_refl _) _
 rw [hW1] at hbx hB1
 have hj1 := hj.below_ hB1
 obtain ⟨hil, gb, go, hA3, hgb, f0, f1, f2, f3, f4⟩ := rv_facts hj1.rd (k := i) (by omega)
 have hv := hist_at hj.hist i hi
 have hdtz := hv.dtz
 have b1 : W1.cell? ⟨gh, 1, none⟩ = some (.slice z.A z.n z.c) := hj1.blk.cell 1
 obtain ⟨An, hAn⟩ : ∃ An, z.A = An := ⟨_, rfl⟩
 obtain ⟨n, hn⟩ : ∃ n, z.n = n := ⟨_, rfl⟩
 obtain ⟨c, hc⟩ : ∃ c, z.c = c := ⟨_, rfl⟩
 rw [hAn, hn, hc] at b1
 rw [hn] at hl
 rw [hAn] at hA3
 have HNx : Hid ((i + 1 < n ∧ W1.cell? ⟨gb, go + (i + 1) * 5 + 2, none⟩ = some (.int .u64 (ol : Int))) ∨ (¬ i + 1 < n ∧ ol = 0)) := hid (by
  by_cases h5 : i + 1 < n
  ·obtain ⟨hil', gb', go', hA3', _, _, _, e2, _⟩ := rv_facts hj1.rd (k := i + 1) (by omega)
   rw [hAn, hA3] at hA3'
   injection hA3' with e1
   injection e1 with e1 e3
   subst e1 e3
   refine .inl ⟨h5, ?_⟩
   rw [h4, hdQ_drop, List.getElem?_eq_getElem hil']
   exact e2
  ·refine .inr ⟨h5, ?_⟩
   rw [h4, hdQ_drop, List.getElem?_eq_none (by omega)]
   rfl)
 have HDt : Hid (dl = false → ∃ db dof : Nat, (rl[i]).B = some ⟨db, dof, none⟩ ∧ 0 < (rl[i]).nb ∧ db < W1.heap.size ∧ W1.cell? ⟨db, dof, none⟩ = some (.int .u64 (dt : Int))) := hid (fun hdl => by
  have h5 := hv.blen
  rw [← h2, hdl, if_neg (by decide)] at h5
  have h6 := nBlk_drop (rl[i]).v.p
  obtain ⟨r1, _⟩ := hj1.rin (rl[i]) (List.getElem_mem hi)
  have h7 : (rl[i]).v.bl.length = (rl[i]).nb := by have := r1.1; simpa [uCells] using this
  obtain ⟨hl0, db, dof, e1, e2, e3⟩ := u_facts r1 (k := 0) (by omega)
  refine ⟨db, dof, e1, by omega, e2, ?_⟩
  rw [Nat.add_zero] at e3
  have e0 : (rl[i]).v.dt = (rl[i]).v.bl[0] := by
   exact headD_get _ hl0
  rw [h3, e0]
  exact e3)
 have HDz : Hid (dl = true → dt = 0) := hid (fun hdl => by
  rw [← h2, hdl, ← h3] at hdtz
  exact of_decide_eq_true hdtz.symm)
 rw [← h1] at f0
 rw [← h2] at f1
 generalize rl[i] = r at *
 obtain ⟨v, B, nb, cb, D, nd, cd⟩ := r
 dsimp only at f0 f1 f2 f3 f4 HDt
 generalize v.q = q at *
 subst hA3
 have v0 := hbx
 have HW1 := hid hW1
 have HB1 := hid hB1
 have HK1 := hid hbx
 have hghl : gh < w.heap.size := hj.blk.lt
 clear hv hdtz h1 h2 h3 h4 hj hj1 hbx hB1 hW1 v0 hAn hc
 have hz0 : (0 : Int) ≤ (i : Int) := by omega
 have hz1 : (i : Int) < (n : Int) := by omega
 unfold vAgg
 obtain ⟨W2, hW2⟩ : ∃ W2, W1.alloc (.cells #[.int .u64 (st : Int), .bool dl, .int .u64 (q : Int), .slice B nb cb, .slice D nd cd] 62) = W2 := ⟨_, rfl⟩
 have hb2 := Blk.new W1 62 #[.int .u64 (st : Int), .bool dl, .int .u64 (q : Int), .slice B nb cb, .slice D nd cd]
 have hB2 : Below W1.heap.size W1 (W1.alloc (.cells #[.int .u64 (st : Int), .bool dl, .int .u64 (q : Int), .slice B nb cb, .slice D nd cd] 62)) := (Below.refl _ _).alloc (Nat.le_refl _) _
 go_enter Tryz.func17, Tryz.ntmps17
 go_upto_region 1 with fail
 rw [HW1.out]
 rw [hW2] at hb2 hB2
 have HW2 := hid hW2
 have g0 : W2.cell? ⟨W1.heap.size, 0, none⟩ = some (.int .u64 (st : Int)) := hb2.cell 0
 have g1 : W2.cell? ⟨W1.heap.size, 1, none⟩ = some (.bool dl) := hb2.cell 1
 have g3 : W2.cell? ⟨W1.heap.size, 3, none⟩ = some (.slice B nb cb) := hb2.cell 3
 have hv2 := HK1.out.below hB2 HK1.out.lt
 have v0 : W2.cell? ⟨w.heap.size, 0, none⟩ = some (.int .u64 (st : Int)) := hv2.cell 0
 have v1 : W2.cell? ⟨w.heap.size, 1, none⟩ = some (.bool dl) := hv2.cell 1
 have v2 : W2.cell? ⟨w.heap.size, 2, none⟩ = some (.int .u64 (dt : Int)) := hv2.cell 2
 have v3 : W2.cell? ⟨w.heap.size, 3, none⟩ = some (.int .u64 (ol : Int)) := hv2.cell 3
 have hgl : gh < W1.heap.size := Nat.lt_of_lt_of_le hghl HB1.out.size
 have b2 : W2.cell? ⟨gh, 1, none⟩ = some (.slice (some ⟨gb, go, none⟩) n c) := by
  rw [← b1]
  exact hB2.cell (p := ⟨gh, 1, none⟩) hgl
 have HB2 := hid (HB1.out.trans (hB2.mono HB1.out.size))
 have HN2 : Hid ((i + 1 < n ∧ W2.cell? ⟨gb, go + (i + 1) * 5 + 2, none⟩ = some (.int .u64 (ol : Int))) ∨ (¬ i + 1 < n ∧ ol = 0)) := hid (HNx.out.imp (fun h => ⟨h.1, by rw [← h.2]; exact hB2.cell (p := ⟨gb, go + (i + 1) * 5 + 2, none⟩) hgb⟩) id)
 have HD2 : Hid (dl = false → ∃ db dof : Nat, B = some ⟨db, dof, none⟩ ∧ 0 < nb ∧ W2.cell? ⟨db, dof, none⟩ = some (.int .u64 (dt : Int))) := hid (fun h => by
  obtain ⟨db, dof, e1, e2, e3, e4⟩ := HDt.out h
  refine ⟨db, dof, e1, e2, ?_⟩
  rw [← e4]
  exact hB2.cell (p := ⟨db, dof, none⟩) e3)
 have hneq : wrap64 ((i : Int) + 1) = (i : Int) + 1 := by rw [IntWalk.wrap64_in _ (by omega)]
 clear hb2 hB2 hv2 hgl hW2 HDt HNx
 go_upto_region 2 with fail
 rw [HW2.out]
 clear f0 f1 f2 f3 f4 b1
 go_upto_if 24 with fail
 go_cut [8] from 25 to 33 (fun v wx => v = .int .u64 (ol : Int) ∧ Hid (wx = W2))
 case first =>
  rcases HN2.out with ⟨h5, h6⟩ | ⟨h5, h6⟩
  ·have d1 : (i : Int) + 1 < (n : Int) := by omega
   have d2 : (0 : Int) ≤ (i : Int) + 1 := by omega
   have d3 : ((i : Int) + 1).toNat = i + 1 := by omega
   go_wp2_with fail
   go_meet
   exact ⟨rfl, hid rfl⟩
  ·have d1 : ¬ (i : Int) + 1 < (n : Int) := by omega
   subst h6
   go_wp2_with fail
   go_meet
   exact ⟨rfl, hid rfl⟩
 case rest =>
  obtain ⟨rfl, hwc⟩ := hcut
  have hw := hwc.out.symm
  subst hw
  clear hwc HN2
  cases dl
  ·obtain ⟨db, dof, rfl, hnb, hdc⟩ := HD2.out rfl
   have d1 : (0 : Int) < (nb : Int) := by omega
   go_wp2
   go_ret
   exact ⟨by simp, HB2.out⟩
  ·have hdt := HDz.out rfl
   subst hdt
   go_wp2
   go_ret
   exact ⟨by simp, HB2.out⟩
end
end
section
open Go.RowKit Go.Maps
theorem HsJ.start {a : DA} {T : Nat} {x : HA} {y : WA} {S : Fp} {w w' : World} {gh : Nat} (h : BW a 373 T 10 x y (fun _ => csN) (fun _ => none) 0 0 w.heap.size S (curB 10) w') (hT : T ≤ 100) (hb : Below w.heap.size w w') (hblk : Blk w' gh 31 #[.pointer (some ⟨y.g, 0, none⟩), .slice none 0 0]) (hgh : w.heap.size ≤ gh) (hoff : ¬ sfp S x gh) (hord : LoS x y.d y.r w.heap.size gh ∧ y.g < gh ∧ y.u < gh ∧ y.m < gh) :
  HsJ w 0 gh [] (vvs []) ⟨a, T, x, y, fun _ => csN, fun _ => none, 0, 0, w.heap.size, S, curB 10, none, 0, 0, []⟩ w' := by
 refine ⟨h, hblk, ⟨rfl, fun h => absurd h (Nat.lt_irrefl 0)⟩, Nat.le_refl _, fun r hr => absurd hr (by simp), fun r hr => absurd hr (by simp), fun h => absurd h (Nat.lt_irrefl 0), hoff, trivial, ?_, Cap.new (fun _ _ => rfl), RoomV.nil, hT, Nat.le_refl _, fun i hi => ?_, hgh, hord, hb⟩
 ·show curB 10 416 = 0
  unfold curB
  rw [(arC_at _ 53 10).2 416 (by omega)]
  rfl
 ·obtain ⟨_, _, _, _, l5, l6, l7, l8⟩ := h.sd.ds.lo
  rcases hi with e | e
  ·exact l8 i e
  ·rcases e with e | e | e <;> rw [e] <;> assumption
def BgS (w0 : World) (l : List DR) (k gh : Nat) (w : World) : Prop := ∃ rl z, HsJ w0 k gh rl (vvs rl) z w ∧ BgIs l k rl ∧ ∀ u ∈ vvs rl, u.st ≤ stP l k
section
variable {w : World}
theorem vbegin_any (A : Option Addr) (n c : Nat) (l : List DR) (hin : DrsIn w A n c l) (ht : Tab w) (hpy : Pay w) :
  Calls Tryz.prog 12 #[.slice A n c] w fun e w' => ∃ gh : Nat, e = .returned (.pointer (some ⟨gh, 0, none⟩)) ∧ Hid (BgS w l (min n 8) gh w') := by
 have HBg := hid (beginB_any 10 (by decide) (by decide) w ht hpy)
 have HIn := hid hin
 have HL := hid (dr_len hin.1)
 obtain ⟨M, hM⟩ : ∃ M, min n 8 = M := ⟨_, rfl⟩
 have HM := hid (show M ≤ 8 ∧ M ≤ n ∧ (n ≤ 8 → M = n) ∧ (8 ≤ n → M = 8) by omega)
 rw [hM]
 clear hin ht hpy hM
 go_enter Tryz.func12, Tryz.ntmps12
 go_wp2_with (go_at_call 51; refine HBg.out.mono ?_; rintro e w1 ⟨a, T, x, y, S, rfl, hbw, hT, hb⟩; have HBw := hid hbw; have HT := hid hT; have HB := hid hb; clear hbw hT hb; refine stop ?_)
 unfold Stop
 have hbh := Blk.new w1 31 #[.pointer (some ⟨y.g, 0, none⟩), .slice none 0 0]
 have HJ0 : Hid (HsJ w 0 w1.heap.size [] (vvs []) ⟨a, T, x, y, fun _ => csN, fun _ => none, 0, 0, w.heap.size, S, curB 10, none, 0, 0, []⟩ (w1.alloc (.cells #[.pointer (some ⟨y.g, 0, none⟩), .slice none 0 0] 31))) := hid (HsJ.start (HBw.out.below ((Below.refl _ _).alloc (Nat.le_refl _) _)) HT.out (HB.out.alloc HB.out.size _) hbh HB.out.size (sfp_new HBw.out.sd) ⟨HBw.out.sd.lo, HBw.out.blk.lt, HBw.out.und.lt, HBw.out.mgr.lt⟩)
 have f0 : (w1.alloc (.cells #[.pointer (some ⟨y.g, 0, none⟩), .slice none 0 0] 31)).cell? ⟨w1.heap.size, 0, none⟩ = some (.pointer (some ⟨y.g, 0, none⟩)) := hbh.cell 0
 clear hbh
 go_upto_region 5 with fail
 have hMi : (if (8 : Int) < (n : Int) then (8 : Int) else (n : Int)) = (M : Int) := by
  obtain ⟨m1, m2, m3, m4⟩ := HM.out
  split <;> omega
 have hM0 : (0 : Int) ≤ (M : Int) := by omega
 have hMc : (M : Int) ≤ (c : Int) := by have h1 := HIn.out.2.1; have h2 := HM.out; omega
 have HJ1 : Hid (BgS w l 0 w1.heap.size (w1.alloc (.cells #[.pointer (some ⟨y.g, 0, none⟩), .slice none 0 0] 31))) := hid ⟨_, _, HJ0.out, BgIs.nil l, fun u hu => absurd hu (by simp [vvs])⟩
 clear HJ0 f0
 go_wp2_with fail
 go_loopw [4, 21] (fun v4 vi wr => ∃ k s : Nat, k ≤ M ∧ v4 = .int .u64 (s : Int) ∧ vi = .int .i64 (k : Int) ∧ Hid (s = stP l k) ∧ Hid (BgS w l k w1.heap.size wr)) (fun _ vi _ => M - (Go.RowKit.intOf vi).toNat)
 case atStart => exact ⟨0, 0, Nat.zero_le _, rfl, rfl, hid rfl, HJ1⟩
 case round =>
  clear HJ1 hMi
  obtain ⟨k, s, hk, rfl, rfl, HS, HJ⟩ := hrel
  by_cases hlt : k < M
  ·have hkn : k < n := by have := HM.out; omega
   have hbw : Below w.heap.size w wr := by obtain ⟨rl, z, h1, _⟩ := HJ.out; exact h1.below
   obtain ⟨hkl, gb, go, hA3, _, f0, f1, f2⟩ := dr_facts ((HIn.out.1.below hbw).more hbw.size) (k := k) hkn
   subst hA3
   have HR := hid (HIn.out.2.2.2 (l[k]) (List.getElem_mem hkl))
   have HNx : Hid (stP l (k + 1) = s + (l[k]).gap + (if k = 0 then 0 else 1)) := hid (by
    rw [HS.out]
    conv => lhs; unfold stP
    rw [List.getElem?_eq_getElem hkl]
    rfl)
   have HDl : Hid (∀ rl r, BgIs l k rl → r.v.st = stP l (k + 1) → r.v.dl = (l[k]).dl → r.v.p = (if (l[k]).dl = true then [] else (l[k]).p.take 500) → BgIs l (k + 1) (r :: rl)) := hid (fun rl r h h1 h2 h3 => h.add hkl h1 h2 h3)
   have HLe : Hid (stP l k ≤ 256 * k) := hid (stP_le l (fun r hr => (HIn.out.2.2.2 r hr).2.2.2.2) k)
   generalize l[k] = r at *
   obtain ⟨gap, dl, D, nd, cd, p⟩ := r
   dsimp only at f0 f1 f2 HR HNx HDl
   obtain ⟨W2, hW2⟩ : ∃ W2, wr.alloc (.cells #[.int .u8 (gap : Int), .bool dl, .slice D nd cd] 74) = W2 := ⟨_, rfl⟩
   have hbn := Blk.new wr 74 #[.int .u8 (gap : Int), .bool dl, .slice D nd cd]
   have hB2 : Below wr.heap.size wr (wr.alloc (.cells #[.int .u8 (gap : Int), .bool dl, .slice D nd cd] 74)) := (Below.refl _ _).alloc (Nat.le_refl _) _
   rw [hW2] at hbn hB2
   have HW2 := hid hW2
   have d0 : W2.cell? ⟨wr.heap.size, 0, none⟩ = some (.int .u8 (gap : Int)) := hbn.cell 0
   have d1 : W2.cell? ⟨wr.heap.size, 1, none⟩ = some (.bool dl) := hbn.cell 1
   have d2 : W2.cell? ⟨wr.heap.size, 2, none⟩ = some (.slice D nd cd) := hbn.cell 2
   obtain ⟨s2, hs2⟩ : ∃ s2, stP l (k + 1) = s2 := ⟨_, rfl⟩
   rw [hs2] at HNx
   have HAdd : Hid (Calls Tryz.prog 52 #[.pointer (some ⟨w1.heap.size, 0, none⟩), .int .u64 (s2 : Int), .agg #[.int .u8 (gap : Int), .bool dl, .slice D nd cd]] W2 fun e w' => e = .returned (.bool true) ∧ Hid (BgS w l (k + 1) w1.heap.size w')) := hid (by
    obtain ⟨rl, z, hj, hbg, hle⟩ := HJ.out
    have hk8 : k < 8 := by have := HM.out; omega
    have h0 := add_any (hj.below_ hB2) hk8 (by rw [hbg.1]; omega) s2 (by have h1 := HLe.out; have h2 := HS.out; have h3 := HNx.out; have h4 : gap < 256 := HR.out.2.2.2.2; have h5 : (if k = 0 then 0 else 1) ≤ 1 := (by split <;> omega); omega) (fun u hu => by
     have h1 := hle u hu
     have h2 := HNx.out
     have h3 := HS.out
     have h4 : k ≠ 0 := fun e => by
      subst e
      have := hbg.1
      have h5 : rl = [] := List.eq_nil_of_length_eq_zero this
      rw [h5] at hu
      exact absurd hu (by simp [vvs])
     rw [if_neg h4] at h2
     omega) gap dl D nd cd p HR.out.1 HR.out.2.1 HR.out.2.2.1 HR.out.2.2.2.1
    refine h0.mono (fun e w' h => ⟨h.1, hid ?_⟩)
    obtain ⟨r, z', q1, q2, q3, q4, q5, q6⟩ := h.2.out
    refine ⟨r :: rl, z', q1, HDl.out rl r hbg (by rw [q2, hs2]) q3 q4, fun u hu => ?_⟩
    rw [hs2]
    rcases List.mem_cons.1 hu with e | e
    ·subst e
     exact Nat.le_of_eq q2
    ·have h1 := hle u e
     have h2 := HNx.out
     have h3 := HS.out
     omega)
   have HSb : Hid (s ≤ 2048 ∧ gap < 256) := hid (by have := HLe.out; have := HS.out; have := HM.out; exact ⟨by omega, HR.out.2.2.2.2⟩)
   have hz5 : (0 : Int) ≤ (k : Int) := by omega
   have hz6 : (k : Int) < (M : Int) := by omega
   obtain ⟨s1, hs1⟩ : ∃ s1, s + gap = s1 := ⟨_, rfl⟩
   have HS1 := hid hs1
   have e1 : IntKind.u64.wrap ((s : Int) + (gap : Int)) = (s1 : Int) := by have := HSb.out; rw [wraps_u64 _ (by omega) (by omega)]; omega
   have e0 : IntKind.u64.wrap (gap : Int) = (gap : Int) := by have := HSb.out; exact wraps_u64 _ (by omega) (by omega)
   have HS2 : Hid (s2 = stP l (k + 1)) := hid hs2.symm
   have hB9 : M ≤ 8 := HM.out.1
   clear hbn hB2 hW2 hbw hkl hs2 hs1 HR HDl
   go_upto_region 8 with fail
   rw [HW2.out]
   go_upto_if 32 with fail
   go_cut [4] from 33 to 34 (fun v wx => v = .int .u64 (s2 : Int) ∧ Hid (wx = W2))
   case first =>
    by_cases hk0 : k = 0
    ·have e3 : s1 = s2 := by have h := HNx.out; have h2 := HS1.out; rw [if_pos hk0] at h; omega
     have e4 : decide ((0 : Int) < (k : Int)) = false := decide_eq_false (by omega)
     subst e3
     go_wp2_with fail
     go_meet
     exact ⟨rfl, hid rfl⟩
    ·have e3 : s1 + 1 = s2 := by have h := HNx.out; have h2 := HS1.out; rw [if_neg hk0] at h; omega
     have e4 : decide ((0 : Int) < (k : Int)) = true := decide_eq_true (by omega)
     have e5 : IntKind.u64.wrap ((s1 : Int) + 1) = (s2 : Int) := by have := HSb.out; have h2 := HS1.out; rw [wraps_u64 _ (by omega) (by omega)]; omega
     clear e3
     go_wp2_with fail
     go_meet
     exact ⟨rfl, hid rfl⟩
   case rest =>
    obtain ⟨rfl, hwc⟩ := hcut
    have hw := hwc.out.symm
    subst hw
    clear hwc
    go_wp2_with (go_at_call 52; refine HAdd.out.mono ?_; rintro e w3 ⟨rfl, hj3⟩; have HJ3 := hid hj3.out; clear hj3)
    go_roundw
    case rel =>
     first
      | exact ⟨k + 1, s2, by omega, rfl, by go_num, HS2, HJ3⟩
      | (
        repeat apply Exists.intro
        refine ⟨?_, rfl⟩
        exact ⟨k + 1, s2, by omega, rfl, by go_num, HS2, HJ3⟩)
    case measure => simp [Go.RowKit.intOf]; omega
  ·obtain rfl : M = k := by omega
   go_wp2
   go_ret
   exact ⟨_, rfl, HJ⟩
end
end
section
open Go.RowKit Go.Maps
theorem lit_readsN (W : World) (C : Array Value) (t : TypeId) (fz : Nat × Nat) (l : List Nat) (n : Nat) (h : C.toList = u8s l) (hl : l.length = n) : Reads (W.alloc (.cells C t fz)) (W.alloc (.cells C t fz)).heap.size 1 (some ⟨W.heap.size, 0, none⟩) n (u8s l) := by
 refine ⟨by simp [u8s, hl], fun _ => ⟨_, rfl, by simp, fun j u hu => ?_⟩⟩
 have hh : (W.alloc (.cells C t fz)).heap[W.heap.size]? = some (.cells C t fz) := heap_alloc_new W _
 have ha : (⟨W.heap.size, 0, none⟩ : Addr).add j = ⟨W.heap.size, j, none⟩ := by unfold Addr.add; split <;> simp_all
 rw [ha, cell_of_row _ _ _ _ _ _ hh, ← Array.getElem?_toList, h]
 exact hu
structure HvC (gh gw d : Nat) (w4 : World) (rl : List RV) : Prop where
 h0 : ∀ W, Below w4.heap.size w4 W → W.cell? ⟨gh, 0, none⟩ = some (.pointer (some ⟨gw, 0, none⟩))
 h3 : ∀ W, Below w4.heap.size w4 W → W.cell? ⟨gw, 3, none⟩ = some (.pointer (some ⟨d, 0, none⟩))
 lk : ∀ W, Below w4.heap.size w4 W → Calls Tryz.prog 13 #[.pointer (some ⟨gw, 0, none⟩), .int .i64 0] W fun e w' => e = .returned (.int .u64 (hdQ (vvs rl) : Int)) ∧ w' = W.drew
 at_ : ∀ W, Below w4.heap.size w4 W → ∀ x : Nat, Calls Tryz.prog 15 #[.iface 43 (.pointer (some ⟨d, 0, none⟩)), .int .u64 (hdQ (vvs rl) : Int), .int .u64 (x : Int)] W (RetVer W (atV x (vvs rl)))
 ck : ∀ W, Below w4.heap.size w4 W → Calls Tryz.prog 22 #[.iface 43 (.pointer (some ⟨d, 0, none⟩)), .int .u64 (hdQ (vvs rl) : Int)] W fun e w' => e = .returned (.int .i64 0) ∧ Below W.heap.size W w'
 same : ∀ W, Below w4.heap.size w4 W → ∀ (i : Nat) (hi : i < rl.length) (dl : Bool) (dt ol : Nat), dl = (rl[i]).v.dl → dt = (rl[i]).v.dt → ol = hdQ (vvs (rl.drop (i + 1))) → Calls Tryz.prog 17 #[.pointer (some ⟨gh, 0, none⟩), vAgg (rl[i]).v.st dl dt ol, .int .i64 (i : Int)] W fun e w' => e = .returned (.bool true) ∧ Below W.heap.size W w'
 h1 : ∃ (A : Option Addr) (n c : Nat), n = rl.length ∧ n ≤ c ∧ n ≤ 8 ∧ (∀ W, Below w4.heap.size w4 W → W.cell? ⟨gh, 1, none⟩ = some (.slice A n c) ∧ Reads W W.heap.size 5 A n (rvCells rl))
 desc : Desc rl
 hd : hdQ (vvs rl) < 18446744073709551616
 sp : ∀ r ∈ rl, r.v.st ≤ 4611686018427387903
theorem hvC_of {w0 w4 : World} {k gh : Nat} {rl : List RV} {z : HP} (h : HsJ w0 k gh rl (vvs rl) z w4) (hk : rl.length ≤ 8) : HvC gh z.y.g z.y.d w4 rl := by
 have hlen : (vvs rl).length ≤ 4096 := by unfold vvs; rw [List.length_map]; omega
 refine ⟨fun W hW => (h.below_ hW).blk.cell 0, fun W hW => (h.below_ hW).bw.blk.cell 3, fun W hW => ?_, fun W hW x => ?_, fun W hW => ?_, fun W hW i hi dl dt ol h2 h3 h4 => same_any (h.below_ hW) i hi _ dl dt ol (by omega) rfl h2 h3 h4, ⟨z.A, z.n, z.c, (rv_len h.rd).symm, h.cp, by rw [← rv_len h.rd]; exact hk, fun W hW => ⟨(h.below_ hW).blk.cell 1, (h.below_ hW).rd⟩⟩, h.hist.desc, h.hist.hd64, fun r hr => ?_⟩
 ·have h1 := linked_any (h.bw.below hW) 0 (by decide)
  rw [show z.cur (416 + 0) = hdQ (vvs rl) from h.link] at h1
  exact h1
 ·have h1 := vat_any (h.bw.below hW).sd (hdQ (vvs rl)) x h.hist.hd64
  rw [at_hist h.hist hlen] at h1
  exact h1
 ·have h1 := vcheck_any (h.bw.below hW).sd (hdQ (vvs rl)) h.hist.hd64
  rw [ck_hist h.hist (h.bw.below hW).sd.ds hlen] at h1
  exact h1
 ·obtain ⟨older, hv⟩ := h.hist.ver r.v (by unfold vvs; exact List.mem_map.2 ⟨r, hr, rfl⟩)
  exact hv.sp
section
variable {w : World}
def aw3 (w : World) : World := ((w.alloc (.cells #[.int .u8 97] 5 (1, 2))).alloc (.cells #[.int .u8 98] 5 (1, 2))).alloc (.cells #[.int .u8 2, .bool false, .slice (some ⟨w.heap.size, 0, none⟩) 1 1, .int .u8 2, .bool false, .slice (some ⟨w.heap.size + 1, 0, none⟩) 1 1, .int .u8 3, .bool true, .slice none 0 0] 74)
def awL (w : World) : List DR := [⟨2, false, some ⟨w.heap.size, 0, none⟩, 1, 1, [97]⟩, ⟨2, false, some ⟨w.heap.size + 1, 0, none⟩, 1, 1, [98]⟩, ⟨3, true, none, 0, 0, []⟩]
theorem aw3_in (w : World) : DrsIn (aw3 w) (some ⟨w.heap.size + 1 + 1, 0, none⟩) 3 3 (awL w) ∧ Below w.heap.size w (aw3 w) := by
 have s1 : (w.alloc (.cells #[.int .u8 97] 5 (1, 2))).heap.size = w.heap.size + 1 := by simp
 have s2 : ((w.alloc (.cells #[.int .u8 97] 5 (1, 2))).alloc (.cells #[.int .u8 98] 5 (1, 2))).heap.size = w.heap.size + 1 + 1 := by simp
 have r1 := lit_readsN w #[.int .u8 97] 5 (1, 2) [97] 1 rfl rfl
 have r2 := lit_readsN (w.alloc (.cells #[.int .u8 97] 5 (1, 2))) #[.int .u8 98] 5 (1, 2) [98] 1 rfl rfl
 rw [s1] at r2
 have b12 : Below (w.alloc (.cells #[.int .u8 97] 5 (1, 2))).heap.size (w.alloc (.cells #[.int .u8 97] 5 (1, 2))) (aw3 w) := ((Below.refl _ _).alloc (Nat.le_refl _) _).alloc (by simp) _
 have b23 : Below ((w.alloc (.cells #[.int .u8 97] 5 (1, 2))).alloc (.cells #[.int .u8 98] 5 (1, 2))).heap.size ((w.alloc (.cells #[.int .u8 97] 5 (1, 2))).alloc (.cells #[.int .u8 98] 5 (1, 2))) (aw3 w) := (Below.refl _ _).alloc (Nat.le_refl _) _
 refine ⟨⟨?_, Nat.le_refl _, by omega, fun r hr => ?_⟩, (((Below.refl _ _).alloc (Nat.le_refl _) _).alloc (by simp) _).alloc (by rw [s2]; omega) _⟩
 ·refine ⟨rfl, fun _ => ⟨_, rfl, by unfold aw3; simp, fun j u hu => ?_⟩⟩
  have hh := heap_alloc_new ((w.alloc (.cells #[.int .u8 97] 5 (1, 2))).alloc (.cells #[.int .u8 98] 5 (1, 2))) (.cells #[.int .u8 2, .bool false, .slice (some ⟨w.heap.size, 0, none⟩) 1 1, .int .u8 2, .bool false, .slice (some ⟨w.heap.size + 1, 0, none⟩) 1 1, .int .u8 3, .bool true, .slice none 0 0] 74)
  rw [s2] at hh
  have ha : (⟨w.heap.size + 1 + 1, 0, none⟩ : Addr).add j = ⟨w.heap.size + 1 + 1, j, none⟩ := by unfold Addr.add; split <;> simp_all
  rw [ha]
  refine (cell_of_row _ _ _ _ _ _ hh).trans ?_
  rw [← Array.getElem?_toList]
  exact hu
 ·unfold awL at hr
  simp only [List.mem_cons, List.not_mem_nil, or_false] at hr
  rcases hr with rfl | rfl | rfl
  ·exact ⟨(r1.below b12).more b12.size, (show ∀ b ∈ [97], b < 256 by decide), Nat.le_refl _, by show 1 ≤ 9223372036854775807; omega, by show 2 < 256; omega⟩
  ·exact ⟨(r2.below b23).more b23.size, (show ∀ b ∈ [98], b < 256 by decide), Nat.le_refl _, by show 1 ≤ 9223372036854775807; omega, by show 2 < 256; omega⟩
  ·exact ⟨⟨rfl, fun h => absurd h (Nat.lt_irrefl 0)⟩, by simp, Nat.le_refl _, Nat.zero_le _, by show 3 < 256; omega⟩
theorem aw_rl {w : World} {rl : List RV} (h : BgIs (awL w) 3 rl) : ∃ r3 r2 r1 : RV, rl = [r3, r2, r1] ∧ r3.v.st = 9 ∧ r3.v.dl = true ∧ r2.v.st = 5 ∧ r2.v.dl = false ∧ r1.v.st = 2 ∧ r1.v.dl = false := by
 obtain ⟨h1, h2⟩ := h
 match rl, h1 with
 | [r3, r2, r1], _ =>
  have e : (List.range 3).map (fun j => (stP (awL w) (j + 1), (((awL w)[j]?).map DR.dl).getD false, if (((awL w)[j]?).map DR.dl).getD false = true then [] else ((((awL w)[j]?).map DR.p).getD []).take 500)) = [(2, false, [97]), (5, false, [98]), (9, true, [])] := rfl
  rw [e] at h2
  simp only [List.reverse_cons, List.reverse_nil, List.nil_append, List.cons_append, List.map_cons, List.map_nil, List.cons.injEq, Prod.mk.injEq, and_true] at h2
  obtain ⟨⟨a1, a2, _⟩, ⟨b1, b2, _⟩, c1, c2, _⟩ := h2
  exact ⟨r3, r2, r1, rfl, c1, c2, b1, b2, a1, a2⟩
theorem vawake_any (w : World) (ht : Tab w) (hpy : Pay w) :
  Calls Tryz.prog 11 #[] w fun e w' => e = .returned (.bool true) ∧ Below w.heap.size w w' := by
 obtain ⟨hin, hb3⟩ := aw3_in w
 have HBg := hid (vbegin_any (some ⟨w.heap.size + 1 + 1, 0, none⟩) 3 3 (awL w) hin (ht.below hb3) (hpy.below hb3))
 have HB3 := hid hb3
 have kc := fun (w : World) (C : Array Value) (n c : Nat) => Lib.run_convert_bytes_const (P := Tryz.prog) w 60 5 C n c Tryz.underlying60 Tryz.underlying5
 have k2 := kc (w.alloc (.cells #[.int .u8 97] 5 (1, 2))) #[.int .u8 98] 1 1
 rw [show (w.alloc (.cells #[.int .u8 97] 5 (1, 2))).heap.size = w.heap.size + 1 by simp] at k2
 unfold aw3 at HBg HB3
 clear hin hb3 ht hpy
 go_enter Tryz.func11, Tryz.ntmps11
 go_wp2_with (go_at_call 12; refine HBg.out.mono ?_; rintro e w4 ⟨gh, rfl, hbg⟩; have HBS := hid hbg.out; clear hbg; refine stop ?_)
 unfold Stop
 obtain ⟨rl, z, hj, hbgis, -⟩ := HBS.out
 obtain ⟨r3, r2, r1, rfl, a1, a2, b1, b2, c1, c2⟩ := aw_rl hbgis
 have HV := hid (hvC_of hj (show (3 : Nat) ≤ 8 by decide))
 have HB4 := hid (HB3.out.trans (hj.below.mono HB3.out.size))
 generalize z.y.g = gw at HV
 generalize z.y.d = d at HV
 have h8 : atV 8 (vvs [r3, r2, r1]) = (0, 5, false, r2.v.dt, hdQ (vvs [r1])) := by
  unfold atV vvs
  simp [newI, a1, b1, b2]
 have h9 : atV 9 (vvs [r3, r2, r1]) = (5, 0, false, 0, 0) := by
  unfold atV vvs
  simp [newI, a1, a2]
 have h1 : atV 1 (vvs [r3, r2, r1]) = (5, 0, false, 0, 0) := by
  unfold atV vvs
  simp [newI, a1, b1, c1]
 obtain ⟨head, hhead⟩ : ∃ head, hdQ (vvs [r3, r2, r1]) = head := ⟨_, rfl⟩
 have HLk := hid HV.out.lk
 have HCk := hid HV.out.ck
 have H8 : Hid (∀ W, Below w4.heap.size w4 W → Calls Tryz.prog 15 #[.iface 43 (.pointer (some ⟨d, 0, none⟩)), .int .u64 (head : Int), .int .u64 8] W fun e w' => e = .returned (.tuple #[.agg #[.int .u64 5, .bool false, .int .u64 (r2.v.dt : Int), .int .u64 (hdQ (vvs [r1]) : Int)], .int .i64 0]) ∧ Below W.heap.size W w') := hid (fun W hW => by
  have h := HV.out.at_ W hW 8
  rw [h8, hhead] at h
  exact h)
 have H9 : Hid (∀ W, Below w4.heap.size w4 W → Calls Tryz.prog 15 #[.iface 43 (.pointer (some ⟨d, 0, none⟩)), .int .u64 (head : Int), .int .u64 9] W fun e w' => e = .returned (.tuple #[.agg #[.int .u64 0, .bool false, .int .u64 0, .int .u64 0], .int .i64 5]) ∧ Below W.heap.size W w') := hid (fun W hW => by
  have h := HV.out.at_ W hW 9
  rw [h9, hhead] at h
  exact h)
 have H1 : Hid (∀ W, Below w4.heap.size w4 W → Calls Tryz.prog 15 #[.iface 43 (.pointer (some ⟨d, 0, none⟩)), .int .u64 (head : Int), .int .u64 1] W fun e w' => e = .returned (.tuple #[.agg #[.int .u64 0, .bool false, .int .u64 0, .int .u64 0], .int .i64 5]) ∧ Below W.heap.size W w') := hid (fun W hW => by
  have h := HV.out.at_ W hW 1
  rw [h1, hhead] at h
  exact h)
 rw [hhead] at HLk HCk
 generalize r2.v.dt = dt at H8
 generalize hdQ (vvs [r1]) = ol at H8
 have HF0 := hid HV.out.h0
 have HF3 := hid HV.out.h3
 clear HBg HB3 kc k2 HBS hj hbgis a1 a2 b1 b2 c1 c2 HV h8 h9 h1 hhead
 have f0 := HF0.out w4 (Below.refl _ _)
 go_wp2_with (go_at_call 13; refine (HLk.out w4 (Below.refl _ _)).mono ?_; rintro e w5 ⟨rfl, hw5⟩; have HB5 : Hid (Below w4.heap.size w4 w5) := hid (by rw [hw5]; exact (Below.refl _ _).drew); clear hw5; refine stop ?_)
 unfold Stop
 have g0 := HF0.out w5 HB5.out
 have g3 := HF3.out w5 HB5.out
 have HA := hid (H8.out w5 HB5.out)
 go_wp2_with (go_at_call 15; refine HA.out.mono ?_; rintro e w6 ⟨rfl, hb6⟩; have HB6 := hid (HB5.out.trans (hb6.mono HB5.out.size)); clear hb6; refine stop ?_)
 unfold Stop
 obtain ⟨W6, hW6⟩ : ∃ W6, w6.alloc (.cells #[.int .u64 5, .bool false, .int .u64 (dt : Int), .int .u64 (ol : Int)] 36) = W6 := ⟨_, rfl⟩
 have hn6 := Blk.new w6 36 #[.int .u64 5, .bool false, .int .u64 (dt : Int), .int .u64 (ol : Int)]
 have hb6 := HB6.out.alloc HB6.out.size (.cells #[.int .u64 5, .bool false, .int .u64 (dt : Int), .int .u64 (ol : Int)] 36)
 rw [hW6] at hn6 hb6
 have HW6 := hid hW6
 have HN6 := hid hn6
 have HB6' := hid hb6
 clear hW6 hn6 hb6 g0 g3 f0
 have g0 := HF0.out W6 HB6'.out
 have g3 := HF3.out W6 HB6'.out
 have HA2 := hid (H9.out W6 HB6'.out)
 go_upto_region 6 with fail
 rw [HW6.out]
 go_wp2_with (go_at_call 15; refine HA2.out.mono ?_; rintro e w7 ⟨rfl, hb7⟩; have HB7 := hid (HB6'.out.trans (hb7.mono HB6'.out.size)); have HN7 := hid (HN6.out.below hb7 HN6.out.lt); clear hb7; refine stop ?_)
 unfold Stop
 obtain ⟨W7, hW7⟩ : ∃ W7, w7.alloc (.cells #[.int .u64 0, .bool false, .int .u64 0, .int .u64 0] 36) = W7 := ⟨_, rfl⟩
 have hn7 : Below w7.heap.size w7 W7 := by rw [← hW7]; exact (Below.refl _ _).alloc (Nat.le_refl _) _
 have HW7 := hid hW7
 have HN7' := hid (HN7.out.below hn7 HN7.out.lt)
 have HB7' := hid (HB7.out.trans (hn7.mono HB7.out.size))
 clear hW7 hn7 g0 g3
 have g0 := HF0.out W7 HB7'.out
 have g3 := HF3.out W7 HB7'.out
 have HA3 := hid (H1.out W7 HB7'.out)
 go_upto_region 7 with fail
 rw [HW7.out]
 go_wp2_with (go_at_call 15; refine HA3.out.mono ?_; rintro e w8 ⟨rfl, hb8⟩; have HB8 := hid (HB7'.out.trans (hb8.mono HB7'.out.size)); have HN8 := hid (HN7'.out.below hb8 HN7'.out.lt); clear hb8; refine stop ?_)
 unfold Stop
 obtain ⟨W8, hW8⟩ : ∃ W8, w8.alloc (.cells #[.int .u64 0, .bool false, .int .u64 0, .int .u64 0] 36) = W8 := ⟨_, rfl⟩
 have hn8 : Below w8.heap.size w8 W8 := by rw [← hW8]; exact (Below.refl _ _).alloc (Nat.le_refl _) _
 have HW8 := hid hW8
 have HB8' := hid (HB8.out.trans (hn8.mono HB8.out.size))
 have k0 : W8.cell? ⟨w6.heap.size, 0, none⟩ = some (.int .u64 5) := (HN8.out.below hn8 HN8.out.lt).cell 0
 clear hW8 hn8 g0 g3
 have g0 := HF0.out W8 HB8'.out
 have g3 := HF3.out W8 HB8'.out
 have HC8 := hid (HCk.out W8 HB8'.out)
 go_upto_region 8 with fail
 rw [HW8.out]
 go_wp2_with (go_at_call 22; refine HC8.out.mono ?_; rintro e w9 ⟨rfl, hb9⟩; have HB9 := hid (HB8'.out.trans (hb9.mono HB8'.out.size)); clear hb9)
 go_ret
 exact ⟨rfl, HB4.out.trans (HB9.out.mono HB4.out.size)⟩
end
end
end Go.Proofs.YtnlokpakiambaaaGreatDoor
