/- The walks and laws that the claim leans on, part 47. -/
import Derived.Test.YtnlokpakiambaaaGreatDoorJbt
set_option maxRecDepth 100000
set_option maxHeartbeats 16000000
namespace Go.Proofs.YtnlokpakiambaaaGreatDoor
open Go.Lib (hid)
section
open Go.RowKit Go.Maps
structure VV where
 st : Nat
 dl : Bool
 q : Nat
 bl : List Nat
 p : List Nat
def VV.dt (v : VV) : Nat := v.bl.headD 0
def hdQ : List VV → Nat
 | [] => 0
 | v :: _ => v.q
structure VerA (K : Nat) (cs : Nat → CS) (cur : Nat → Nat) (v : VV) (older : Nat) : Prop where
 live : ∃ k i, LiveA 53 K cs v.q 7 k i
 words : WordsAt cur v.q [wSt v.st v.dl, v.dt, older]
 blen : v.bl.length = if v.dl = true then 0 else nBlk v.p.length
 bk : ∀ j (hj : j < v.bl.length), BkA K cs cur v.bl[j] (v.bl.getD (j + 1) 0) (v.p.drop (456 * j))
 pb : ∀ b ∈ v.p, b < 256
 pl : v.p.length ≤ 2000
 sp : v.st ≤ 4611686018427387903
def HistA (K : Nat) (cs : Nat → CS) (cur : Nat → Nat) : List VV → Prop
 | [] => True
 | v :: t => VerA K cs cur v (hdQ t) ∧ HistA K cs cur t ∧ ∀ u ∈ t, u.st < v.st
theorem headD_get : ∀ (l : List Nat) (h : 0 < l.length), l.headD 0 = l[0]
 | [], h => absurd h (Nat.lt_irrefl 0)
 | _ :: _, _ => rfl
theorem payW_3 (c : Nat) : 3 ≤ payW c := by
 rcases c with _ | _ | _ | _ | _ <;> simp [payW]
section
variable {K : Nat} {cs cs' : Nat → CS} {cur cur' : Nat → Nat} {v : VV} {older : Nat}
theorem VerA.dtz (h : VerA K cs cur v older) : v.dl = decide (v.dt = 0) := by
 cases hd : v.dl with
 | true =>
  have h1 := h.blen
  rw [hd, if_pos rfl] at h1
  have h2 : v.bl = [] := List.eq_nil_of_length_eq_zero h1
  unfold VV.dt
  rw [h2]
  rfl
 | false =>
  have h1 := h.blen
  rw [hd, if_neg (by decide)] at h1
  have h2 := nBlk_drop v.p
  have h3 : 0 < v.bl.length := by omega
  obtain ⟨k, i, g1, _⟩ := (h.bk 0 h3).live
  have e0 : v.bl.headD 0 = v.bl[0] := headD_get _ h3
  unfold VV.dt
  rw [e0, decide_eq_false g1.nz]
theorem wSt_two (st : Nat) (dl : Bool) : wSt st dl / 2 = st ∧ decide (wSt st dl % 2 = 1) = dl := by
 unfold wSt
 cases dl
 ·rw [if_neg (by decide)]
  exact ⟨by omega, decide_eq_false (by omega)⟩
 ·rw [if_pos rfl]
  exact ⟨by omega, decide_eq_true (by omega)⟩
theorem VerA.rd (h : VerA K cs cur v older) : verR cur (fun q => chkR 53 K cs q 7) v.q = (0, v.st, v.dl, v.dt, older) := by
 obtain ⟨k, i, h1⟩ := h.live
 have hc := (Live.chk ⟨k, i, h1⟩).1
 have w0 := h.words 0 (by simp)
 have w1 := h.words 1 (by simp)
 have w2 := h.words 2 (by simp)
 rw [Nat.add_zero] at w0
 have e0 : cur (pOff v.q / 8) = wSt v.st v.dl := w0
 have e1 : cur (pOff v.q / 8 + 1) = v.dt := w1
 have e2 : cur (pOff v.q / 8 + 2) = older := w2
 have hok : verOk v.st v.dl v.dt = true := by
  unfold verOk
  rw [decide_eq_true h.sp, Bool.true_and, ← h.dtz]
  simp
 unfold verR
 rw [if_neg (fun hn => hn hc), e0, e1, e2, (wSt_two v.st v.dl).1, (wSt_two v.st v.dl).2, if_pos hok]
theorem VerA.nz (h : VerA K cs cur v older) : v.q ≠ 0 ∧ v.q < 18446744073709551616 := by
 obtain ⟨k, i, h1⟩ := h.live
 exact ⟨h1.nz, h1.lt⟩
theorem HistA.hd64 {l : List VV} (h : HistA K cs cur l) : hdQ l < 18446744073709551616 := by
 match l, h with
 | [], _ => exact show (0 : Nat) < 18446744073709551616 by omega
 | v :: t, h => exact h.1.nz.2
theorem VerA.keep {bl2 : List Nat} (hk : KeepL K cs cur bl2 cs' cur') (h : VerA K cs cur v older) : VerA K cs' cur' v older := by
 obtain ⟨k, i, h1⟩ := h.live
 obtain ⟨g1, g2, g3, g4⟩ := hk v.q 7 k i h1
 refine ⟨⟨k, i, g1⟩, fun y hy => ?_, h.blen, fun j hj => (hk.bk (h.bk j hj)).1, h.pb, h.pl, h.sp⟩
 have h3 := payW_3 (cs k).cl
 have hy' : y < 3 := hy
 rw [g4 y (by omega)]
 exact h.words y hy
theorem HistA.keep {bl2 : List Nat} (hk : KeepL K cs cur bl2 cs' cur') : ∀ {l : List VV}, HistA K cs cur l → HistA K cs' cur' l
 | [], _ => trivial
 | _ :: _, h => ⟨h.1.keep hk, HistA.keep hk h.2.1, h.2.2⟩
end
def foldV {σ : Type} (st : σ → Nat → Nat × Bool × Nat × Nat → σ × Bool) : List VV → σ → σ
 | [], s => s
 | v :: t, s => if (st s v.q (v.st, v.dl, v.dt, hdQ t)).2 = false then (st s v.q (v.st, v.dl, v.dt, hdQ t)).1 else foldV st t (st s v.q (v.st, v.dl, v.dt, hdQ t)).1
theorem folW_hist {σ : Type} {K : Nat} {cs : Nat → CS} {cur : Nat → Nat} (st : σ → Nat → Nat × Bool × Nat × Nat → σ × Bool) : ∀ (l : List VV) (k last n : Nat) (s : σ), HistA K cs cur l → (∀ v ∈ l, v.st < last) → l.length < k → n + l.length ≤ 4096 →
  folW (verR cur (fun q => chkR 53 K cs q 7)) st k (hdQ l) last n s = (0, foldV st l s)
 | [], 0, _, _, _, _, _, h, _ => absurd h (Nat.lt_irrefl 0)
 | [], k + 1, last, n, s, _, _, _, _ => by
  unfold folW
  rw [show hdQ [] = 0 from rfl, if_pos rfl]
  rfl
 | v :: t, 0, _, _, _, _, _, h, _ => absurd h (Nat.not_lt_zero _)
 | v :: t, k + 1, last, n, s, hh, hl, hk, hn => by
  have hr := hh.1.rd
  rw [List.length_cons] at hk hn
  unfold folW
  rw [show hdQ (v :: t) = v.q from rfl, if_neg hh.1.nz.1, hr, if_neg (by
   rintro (h | h | h)
   ·exact h rfl
   ·omega
   ·have := hl v (by simp)
    have h' : last ≤ v.st := h
    omega)]
  show (if (st s v.q (v.st, v.dl, v.dt, hdQ t)).2 = false then (0, (st s v.q (v.st, v.dl, v.dt, hdQ t)).1) else folW (verR cur (fun q => chkR 53 K cs q 7)) st k (hdQ t) v.st (n + 1) (st s v.q (v.st, v.dl, v.dt, hdQ t)).1) = _
  unfold foldV
  by_cases h1 : (st s v.q (v.st, v.dl, v.dt, hdQ t)).2 = false
  ·rw [if_pos h1, if_pos h1]
  ·rw [if_neg h1, if_neg h1]
   exact folW_hist st t k v.st (n + 1) _ hh.2.1 hh.2.2 (by omega) (by omega)
section
variable {a : DA} {L T n K : Nat} {x : HA} {cs0 cs cs' cs2 : Nat → CS} {f0 f f2 : Nat → Option Nat} {N m b0 : Nat} {S : Fp} {cur0 cur cur' cur2 : Nat → Nat} {w : World} {al p bl ks : List Nat} {V : Nat → Nat} {cm i : Nat}
theorem VerA.blob {v : VV} {older : Nat} (h : VerA K cs cur v older) (hd : DS a L T 53 n K x cs f N m b0 S cur w) (hdl : v.dl = false) : walkR L cur (fun q => chkR 53 K cs q 1) v.dt = (0, v.bl, v.p) := by
 have h1 := h.blen
 rw [hdl, if_neg (by decide)] at h1
 exact chain_walk (chain_bk hd h1 h.pl h.bk) h.pb h.pl
structure Prep (K : Nat) (cs0 : Nat → CS) (f0 : Nat → Option Nat) (cur0 : Nat → Nat) (cs : Nat → CS) (f : Nat → Option Nat) (cur : Nat → Nat) (bl : List Nat) : Prop where
 fr : Fr 53 K cs0 f0 cur0 cs f cur
 rq : ∀ q ∈ bl, ∃ kind c, kind < 128 ∧ Rq 53 K cs f kind q c
 nd : (bl.map pOff).Nodup
 fresh : ∀ q ∈ bl, FreshB 53 K cs0 f0 q
theorem Prep.nil : Prep K cs f cur cs f cur [] := ⟨Fr.refl, fun q h => absurd h (by simp), List.nodup_nil, fun q h => absurd h (by simp)⟩
theorem Prep.of2 (hw : W2 53 K cs f cur al p cs2 f2 cur2 bl bl.length) : Prep K cs f cur cs2 f2 cur2 bl :=
 ⟨hw.w1.fr, fun q hq => by
  obtain ⟨j, hj, e⟩ := List.getElem_of_mem hq
  subst e
  exact ⟨1, _, by omega, hw.w1.rq j hj⟩, hw.w1.nd, hw.w1.fresh⟩
theorem Fr.paid {q k i : Nat} {l : List Nat} (hF : Fr 53 K cs0 f0 cur0 cs f cur) (hat : At 53 K cs q k i) (hl : l.length ≤ payW (cs k).cl) (hfr : FreshB 53 K cs0 f0 q) : Fr 53 K cs0 f0 cur0 cs f (wrS cur (pwW (pOff q) l)) := by
 refine ⟨fun y hy => ?_, hF.chunk, hF.map, fun k3 i3 hk hdv hi3 hn j hj => ?_⟩
 ·rw [pwW_other hat hl (fun j hj => by omega)]
  exact hF.head y hy
 ·rw [pwW_other hat hl (fun j2 hj2 => ?_)]
  ·exact hF.held k3 i3 hk hdv hi3 hn j hj
  ·have e3 := hF.chunk k3 hk hdv
   have h4 := pay_apart (s := 53) (cs := cs) (k := k3) (i := i3) (k' := k) (i' := i) (j := j) (j' := j2) (by rw [e3]; exact hi3) hat.2.2.1 (by rw [e3]; exact hj) hj2 (fun ⟨q1, q2⟩ => by
    subst q1 q2
    refine hn (hfr k3 i3 ⟨hk, hdv, hi3, ?_⟩)
    rw [hat.2.2.2, hF.off hk hdv])
   rw [e3] at h4
   exact h4
theorem Rq.words {kind q c : Nat} {l : List Nat} {f' : Nat → Option Nat} (h : Rq 53 K cs f kind q c) (hF : Fr 53 K cs f cur cs' f' cur') (hl : l.length ≤ payW c) (hw : WordsAt cur q l) : WordsAt cur' q l := fun y hy => by
 obtain ⟨k, i, hat, hc, _⟩ := h.cls
 have h5 := hw y hy
 have h1 := hat.lines.1
 rw [h1] at h5 ⊢
 refine (hF.held k i hat.1 hat.2.1 hat.2.2.1 (fun hv => ?_) y (by rw [hc]; omega)).trans h5
 have hr := h.keep.res
 rw [hat.2.2.2, hv.2.2.2.2.2] at hr
 cases hr
theorem Prep.add {cl k i kind q : Nat} {l : List Nat} (h : Prep K cs0 f0 cur0 cs f cur bl) (hd : DS a L T 53 n K x cs f N m b0 S cur w) (ho : ResOk 53 K cs f cur cl cs' cur' k i) (hcl : cl < 5) (hk : kind < 128) (hq : fptr 53 cs' kind k i = q) (hr : Rq 53 K cs' (updF f (offO 53 cs' k i) (some q)) kind q cl) (hat : At 53 K cs' q k i) (hl : l.length ≤ payW (cs' k).cl) :
  Prep K cs0 f0 cur0 cs' (updF f (offO 53 cs' k i) (some q)) (wrS cur' (pwW (pOff q) l)) (bl ++ [q]) ∧ Fr 53 K cs f cur cs' (updF f (offO 53 cs' k i) (some q)) (wrS cur' (pwW (pOff q) l)) := by
 have hF := Fr.alloc (v := q) hd hcl ho
 have hfr0 : FreshB 53 K cs0 f0 q := fresh_of (_cur' := cur') h.fr hF.chunk ho.vac hat
 have hfr1 : FreshB 53 K cs f q := fresh_of (_cur' := cur') (Fr.refl (cur := cur)) hF.chunk ho.vac hat
 refine ⟨⟨(h.fr.trans hF).paid hat hl hfr0, fun z hz => ?_, ?_, fun z hz => ?_⟩, hF.paid hat hl hfr1⟩
 ·rcases List.mem_append.1 hz with h1 | h1
  ·obtain ⟨kd, c, h2, h3⟩ := h.rq z h1
   exact ⟨kd, c, h2, (h3.step hd hcl ho).1⟩
  ·rw [List.mem_singleton.1 h1]
   exact ⟨kind, cl, hk, hr⟩
 ·rw [List.map_append, List.nodup_append]
  refine ⟨h.nd, by simp, fun u hu v hv => ?_⟩
  obtain ⟨z, hz, rfl⟩ := List.mem_map.1 hu
  have hv' : v = pOff q := by
   rw [List.map_cons, List.map_nil, List.mem_singleton] at hv
   exact hv
  obtain ⟨kd, c, h2, h3⟩ := h.rq z hz
  rw [hv', hat.2.2.2]
  exact (h3.step (v := 0) hd hcl ho).2
 ·rcases List.mem_append.1 hz with h1 | h1
  ·exact h.fresh z h1
  ·rw [List.mem_singleton.1 h1]
   exact hfr0
theorem Prep.keepL (hd : DS a L T 53 n K x cs2 f2 N m b0 S cur2 w) (hP : Prep K cs f cur cs2 f2 cur2 bl) {v : Nat} (hA : AOk 53 K cs2 ks (tlOf 53 cs2 bl) (dlOf 53 cs2 []) V)
  (h96 : ([(3328 + 8 * i, v)] ++ ks.flatMap (acW 53 cs2 (tlOf 53 cs2 bl) (dlOf 53 cs2 []) V)).length ≤ 96) (hi : i < 8) :
  KeepL K cs cur bl (acC cs2 ks (tlOf 53 cs2 bl) (dlOf 53 cs2 []) V) (rdG 0 cur2 ([(3328 + 8 * i, v)] ++ ks.flatMap (acW 53 cs2 (tlOf 53 cs2 bl) (dlOf 53 cs2 []) V)) cm) := by
 intro q kind k i2 hl
 have hat := hl.at_
 have e1 := hP.fr.chunk k hat.1 hat.2.1
 have hst : ((cs k).bs i2).st = 177 := by rw [hl.bk]
 have hnv : ¬ Vac 53 K cs f (cs k).cl k i2 := fun hv => by
  have := hv.2.2.2.2.1
  omega
 have hl2 : LiveA 53 K cs2 q kind k i2 := ⟨⟨hat.1, by rw [e1]; exact hat.2.1, by rw [e1]; exact hat.2.2.1, by rw [hat.2.2.2]; unfold offO; rw [e1]⟩, by rw [e1]; exact hl.bk, hl.kind_, hl.nz, hl.lt, hl.top⟩
 have hne : ∀ r ∈ bl, pOff r ≠ pOff q := fun r hr e => hnv (hP.fresh r hr k i2 ⟨hat.1, hat.2.1, hat.2.2.1, e.trans hat.2.2.2⟩)
 have hat2 : ∀ r ∈ bl, ∃ k i, At 53 K cs2 r k i := fun r hr => by
  obtain ⟨kd, c, _, h3⟩ := hP.rq r hr
  obtain ⟨k3, i3, h4, _⟩ := h3.cls
  exact ⟨k3, i3, h4⟩
 refine ⟨pub_live hat2 (fun r hr => absurd hr (by simp)) hl2 hne (fun r hr => absurd hr (by simp)), ?_, ?_, fun j hj => ?_⟩
 ·obtain ⟨_, e2, _⟩ := acC_dv cs2 ks (tlOf 53 cs2 bl) (dlOf 53 cs2 []) V k
  rw [e2, e1]
 ·intro hm
  obtain ⟨r, hr, e⟩ := List.mem_map.1 hm
  exact hne r hr e
 ·have hl3 := hl2.at_.lines.1
  have h5 := hP.fr.held k i2 hat.1 hat.2.1 hat.2.2.1 hnv j hj
  have h6 := pub_pay (s0 := 0) (cm := cm) (j := j) hd (by omega) hA h96 hl2.at_.1 hl2.at_.2.1 hl2.at_.2.2.1 (by rw [e1]; exact hj) (fun e he => by
   simp at he
   subst he
   show (3328 + 8 * i) / 8 ≠ _
   omega)
  rw [e1] at h6 hl3
  rw [hl3]
  exact h6.trans h5
theorem pub_words (hd : DS a L T 53 n K x cs2 f2 N m b0 S cur2 w) {v q kind c : Nat} {l : List Nat} (hA : AOk 53 K cs2 ks (tlOf 53 cs2 bl) (dlOf 53 cs2 []) V) (hks : ∀ k, k ∈ ks ↔ k < K ∧ (tlOf 53 cs2 bl k ≠ [] ∨ dlOf 53 cs2 [] k ≠ []))
  (h96 : ([(3328 + 8 * i, v)] ++ ks.flatMap (acW 53 cs2 (tlOf 53 cs2 bl) (dlOf 53 cs2 []) V)).length ≤ 96) (hi : i < 8) (hr : Rq 53 K cs2 f2 kind q c) (hq : q ∈ bl) (h128 : kind < 128) (hl : l.length ≤ payW c) (hw : WordsAt cur2 q l) :
  (∃ k i2, LiveA 53 K (acC cs2 ks (tlOf 53 cs2 bl) (dlOf 53 cs2 []) V) q kind k i2 ∧ (acC cs2 ks (tlOf 53 cs2 bl) (dlOf 53 cs2 []) V k).cl = c) ∧ WordsAt (rdG 0 cur2 ([(3328 + 8 * i, v)] ++ ks.flatMap (acW 53 cs2 (tlOf 53 cs2 bl) (dlOf 53 cs2 []) V)) cm) q l := by
 obtain ⟨k, i2, h1, h2, h3⟩ := pub_keep hA hks hr hq h128
 obtain ⟨_, e2, _⟩ := acC_dv cs2 ks (tlOf 53 cs2 bl) (dlOf 53 cs2 []) V k
 refine ⟨⟨k, i2, h1, by rw [e2, h2]⟩, fun y hy => ?_⟩
 have h5 := hw y hy
 have hln := h3.lines.1
 rw [hln] at h5 ⊢
 refine (pub_pay hd (by omega) hA h96 h3.1 h3.2.1 h3.2.2.1 (by rw [h2]; omega) (fun e he => ?_)).trans h5
 simp at he
 subst he
 show (3328 + 8 * i) / 8 ≠ _
 omega
theorem pub_link (hd : DS a L T 53 n K x cs2 f2 N m b0 S cur2 w) {v : Nat} (hA : AOk 53 K cs2 ks (tlOf 53 cs2 bl) (dlOf 53 cs2 []) V) (hi : i < 8) (hv : v < 18446744073709551616) : rdG 0 cur2 ([(3328 + 8 * i, v)] ++ ks.flatMap (acW 53 cs2 (tlOf 53 cs2 bl) (dlOf 53 cs2 []) V)) cm (416 + i) = v := by
 have hu := link_ok hd i v hi hv
 have h := rdG_get (cur := cur2) (cm := cm) (pub_off hd (by omega) hu hA) (pub_nodup hu hA) (e := (3328 + 8 * i, v)) (by simp)
 have e : (3328 + 8 * i) / 8 = 416 + i := by omega
 rw [← e]
 exact h
end
end
section
open Go.RowKit Go.Maps
def newI (x : Nat) : List VV → Nat
 | [] => 0
 | v :: t => if v.st ≤ x then 0 else newI x t + 1
theorem fold_at (x : Nat) : ∀ (l : List VV) (s : Nat × Bool × Nat × Nat), foldV (atS x) l s = match l[newI x l]? with
  | some v => (v.st, v.dl, v.dt, hdQ (l.drop (newI x l + 1)))
  | none => s
 | [], s => rfl
 | v :: t, s => by
  unfold foldV newI
  by_cases h : v.st ≤ x
  ·have e1 : atS x s v.q (v.st, v.dl, v.dt, hdQ t) = ((v.st, v.dl, v.dt, hdQ t), false) := if_neg (by show ¬ x < v.st; omega)
   rw [e1, if_pos rfl, if_pos h]
   rfl
  ·have e1 : atS x s v.q (v.st, v.dl, v.dt, hdQ t) = (s, true) := if_pos (by show x < v.st; omega)
   rw [e1, if_neg (show ¬ (true : Bool) = false by decide), if_neg h, fold_at x t s]
   rfl
def atV (x : Nat) (l : List VV) : Nat × Nat × Bool × Nat × Nat := match l[newI x l]? with
 | some v => if v.dl = true then (5, 0, false, 0, 0) else (0, v.st, v.dl, v.dt, hdQ (l.drop (newI x l + 1)))
 | none => (5, 0, false, 0, 0)
section
variable {K : Nat} {cs : Nat → CS} {cur : Nat → Nat} {l : List VV}
theorem HistA.lt : ∀ {l : List VV}, HistA K cs cur l → ∀ v ∈ l, v.st < 4611686018427387904
 | [], _, v, hv => absurd hv (by simp)
 | u :: t, h, v, hv => by
  rcases List.mem_cons.1 hv with rfl | h1
  ·have := h.1.sp
   omega
  ·exact h.2.1.lt v h1
theorem HistA.ver : ∀ {l : List VV}, HistA K cs cur l → ∀ v ∈ l, ∃ older, VerA K cs cur v older
 | [], _, v, hv => absurd hv (by simp)
 | u :: t, h, v, hv => by
  rcases List.mem_cons.1 hv with rfl | h1
  ·exact ⟨_, h.1⟩
  ·exact h.2.1.ver v h1
theorem HistA.fol {σ : Type} (st : σ → Nat → Nat × Bool × Nat × Nat → σ × Bool) (h : HistA K cs cur l) (hlen : l.length ≤ 4096) (s : σ) : folW (verR cur (fun q => chkR 53 K cs q 7)) st 4097 (hdQ l) 4611686018427387904 0 s = (0, foldV st l s) :=
 folW_hist st l 4097 4611686018427387904 0 s h h.lt (by omega) (by omega)
theorem at_hist (h : HistA K cs cur l) (hlen : l.length ≤ 4096) (x : Nat) : atR (verR cur (fun q => chkR 53 K cs q 7)) (hdQ l) x = atV x l := by
 have h1 := h.fol (atS x) hlen (0, true, 0, 0)
 rw [fold_at] at h1
 unfold atR atV
 rw [h1]
 show (if (0 : Nat) ≠ 0 then _ else _) = _
 rw [if_neg (by decide)]
 cases l[newI x l]? with
 | none => rfl
 | some v => rfl
theorem fold_ck (B : Nat → Nat) : ∀ l : List VV, (∀ v ∈ l, v.dl = false → B v.dt = 0) → foldV (ckS B) l 0 = 0
 | [], _ => rfl
 | v :: t, h => by
  unfold foldV
  have e1 : ckS B 0 v.q (v.st, v.dl, v.dt, hdQ t) = (0, true) := if_neg (fun hn => hn.2 (h v (by simp) hn.1))
  rw [e1, if_neg (by decide)]
  exact fold_ck B t (fun u hu => h u (by simp [hu]))
end
section
variable {a : DA} {L T n K : Nat} {x : HA} {cs : Nat → CS} {f : Nat → Option Nat} {N m b0 : Nat} {S : Fp} {cur : Nat → Nat} {w : World} {l : List VV}
theorem ck_hist (h : HistA K cs cur l) (hd : DS a L T 53 n K x cs f N m b0 S cur w) (hlen : l.length ≤ 4096) : vckR (verR cur (fun q => chkR 53 K cs q 7)) (fun z => (walkR L cur (fun q => chkR 53 K cs q 1) z).1) (hdQ l) = 0 := by
 have h1 := h.fol (ckS (fun z => (walkR L cur (fun q => chkR 53 K cs q 1) z).1)) hlen 0
 unfold vckR
 rw [h1, fold_ck _ l (fun v hv hdl => by
  obtain ⟨older, h2⟩ := h.ver v hv
  rw [h2.blob hd hdl])]
 rfl
end
section
variable {a : DA} {L T n K : Nat} {x : HA} {cs : Nat → CS} {f : Nat → Option Nat} {N m b0 : Nat} {S : Fp} {cur : Nat → Nat} {w : World} {l : List VV}
end
end
section
open Go.RowKit Go.Maps
structure RV where
 v : VV
 B : Option Addr
 nb : Nat
 cb : Nat
 D : Option Addr
 nd : Nat
 cd : Nat
def RV.cells (r : RV) : List Value := [.int .u64 (r.v.st : Int), .bool r.v.dl, .int .u64 (r.v.q : Int), .slice r.B r.nb r.cb, .slice r.D r.nd r.cd]
def rvCells (l : List RV) : List Value := l.flatMap RV.cells
theorem rvCells_len : ∀ l : List RV, (rvCells l).length = l.length * 5
 | [] => rfl
 | r :: l => by
  have := rvCells_len l
  simp only [rvCells, List.flatMap_cons, List.length_append, List.length_cons] at this ⊢
  rw [this]
  show 5 + l.length * 5 = _
  omega
theorem rvCells_at : ∀ (l : List RV) (k j : Nat) (hk : k < l.length), j < 5 → (rvCells l)[k * 5 + j]? = (l[k]).cells[j]?
 | r :: l, 0, j, _, hj => by
  show (r.cells ++ rvCells l)[0 * 5 + j]? = r.cells[j]?
  rw [Nat.zero_mul, Nat.zero_add, List.getElem?_append_left (show j < 5 from hj)]
 | r :: l, k + 1, j, hk, hj => by
  have hk' : k < l.length := by simpa using hk
  have ih := rvCells_at l k j hk' hj
  show (r.cells ++ rvCells l)[(k + 1) * 5 + j]? = (l[k]).cells[j]?
  rw [List.getElem?_append_right (show (5 : Nat) ≤ (k + 1) * 5 + j by omega)]
  show (rvCells l)[(k + 1) * 5 + j - 5]? = _
  rw [show (k + 1) * 5 + j - 5 = k * 5 + j by omega]
  exact ih
theorem rv_facts {w : World} {B n : Nat} {A : Option Addr} {l : List RV} (h : Reads w B 5 A n (rvCells l)) {k : Nat} (hk : k < n) :
  ∃ (hl : k < l.length) (b off : Nat), A = some ⟨b, off, none⟩ ∧ b < B ∧ w.cell? ⟨b, off + k * 5, none⟩ = some (.int .u64 ((l[k]).v.st : Int)) ∧ w.cell? ⟨b, off + k * 5 + 1, none⟩ = some (.bool (l[k]).v.dl) ∧ w.cell? ⟨b, off + k * 5 + 2, none⟩ = some (.int .u64 ((l[k]).v.q : Int)) ∧ w.cell? ⟨b, off + k * 5 + 3, none⟩ = some (.slice (l[k]).B (l[k]).nb (l[k]).cb) ∧ w.cell? ⟨b, off + k * 5 + 4, none⟩ = some (.slice (l[k]).D (l[k]).nd (l[k]).cd) := by
 have hl : k < l.length := by have := h.1; rw [rvCells_len] at this; omega
 obtain ⟨b, off, hA, hb, hc⟩ := h.plain (by omega) (by omega)
 exact ⟨hl, b, off, hA, hb, hc (k * 5) _ (rvCells_at l k 0 hl (by omega)), hc (k * 5 + 1) _ (rvCells_at l k 1 hl (by omega)), hc (k * 5 + 2) _ (rvCells_at l k 2 hl (by omega)), hc (k * 5 + 3) _ (rvCells_at l k 3 hl (by omega)), hc (k * 5 + 4) _ (rvCells_at l k 4 hl (by omega))⟩
theorem rv_len {w : World} {B n : Nat} {A : Option Addr} {l : List RV} (h : Reads w B 5 A n (rvCells l)) : l.length = n := by
 have := h.1
 rw [rvCells_len] at this
 omega
def vvs (l : List RV) : List VV := l.map RV.v
def Desc (l : List RV) : Prop := ∀ i (h : i + 1 < l.length), (l[i + 1]).v.st < (l[i]).v.st
end
section
open Go.RowKit Go.Maps
structure DR where
 gap : Nat
 dl : Bool
 D : Option Addr
 nd : Nat
 cd : Nat
 p : List Nat
def DR.cells (r : DR) : List Value := [.int .u8 (r.gap : Int), .bool r.dl, .slice r.D r.nd r.cd]
def drCells (l : List DR) : List Value := l.flatMap DR.cells
def DR.In (w : World) (r : DR) : Prop := Reads w w.heap.size 1 r.D r.nd (u8s r.p) ∧ (∀ b ∈ r.p, b < 256) ∧ r.nd ≤ r.cd ∧ r.cd ≤ 9223372036854775807 ∧ r.gap < 256
def DrsIn (w : World) (A : Option Addr) (n c : Nat) (l : List DR) : Prop := Reads w w.heap.size 3 A n (drCells l) ∧ n ≤ c ∧ c ≤ 9223372036854775807 ∧ ∀ r ∈ l, r.In w
theorem drCells_len : ∀ l : List DR, (drCells l).length = l.length * 3
 | [] => rfl
 | r :: l => by
  have := drCells_len l
  simp only [drCells, List.flatMap_cons, List.length_append, List.length_cons] at this ⊢
  rw [this]
  show 3 + l.length * 3 = _
  omega
theorem drCells_at : ∀ (l : List DR) (k j : Nat) (hk : k < l.length), j < 3 → (drCells l)[k * 3 + j]? = (l[k]).cells[j]?
 | r :: l, 0, j, _, hj => by
  show (r.cells ++ drCells l)[0 * 3 + j]? = r.cells[j]?
  rw [Nat.zero_mul, Nat.zero_add, List.getElem?_append_left (show j < 3 from hj)]
 | r :: l, k + 1, j, hk, hj => by
  have hk' : k < l.length := by simpa using hk
  have ih := drCells_at l k j hk' hj
  show (r.cells ++ drCells l)[(k + 1) * 3 + j]? = (l[k]).cells[j]?
  rw [List.getElem?_append_right (show (3 : Nat) ≤ (k + 1) * 3 + j by omega)]
  show (drCells l)[(k + 1) * 3 + j - 3]? = _
  rw [show (k + 1) * 3 + j - 3 = k * 3 + j by omega]
  exact ih
theorem dr_facts {w : World} {B n : Nat} {A : Option Addr} {l : List DR} (h : Reads w B 3 A n (drCells l)) {k : Nat} (hk : k < n) :
  ∃ (hl : k < l.length) (b off : Nat), A = some ⟨b, off, none⟩ ∧ b < B ∧ w.cell? ⟨b, off + k * 3, none⟩ = some (.int .u8 ((l[k]).gap : Int)) ∧ w.cell? ⟨b, off + k * 3 + 1, none⟩ = some (.bool (l[k]).dl) ∧ w.cell? ⟨b, off + k * 3 + 2, none⟩ = some (.slice (l[k]).D (l[k]).nd (l[k]).cd) := by
 have hl : k < l.length := by have := h.1; rw [drCells_len] at this; omega
 obtain ⟨b, off, hA, hb, hc⟩ := h.plain (by omega) (by omega)
 exact ⟨hl, b, off, hA, hb, hc (k * 3) _ (drCells_at l k 0 hl (by omega)), hc (k * 3 + 1) _ (drCells_at l k 1 hl (by omega)), hc (k * 3 + 2) _ (drCells_at l k 2 hl (by omega))⟩
theorem dr_len {w : World} {B n : Nat} {A : Option Addr} {l : List DR} (h : Reads w B 3 A n (drCells l)) : l.length = n := by
 have := h.1
 rw [drCells_len] at this
 omega
theorem DR.In.below {w w' : World} {r : DR} (h : r.In w) (hb : Below w.heap.size w w') : r.In w' := ⟨(h.1.below hb).more hb.size, h.2⟩
def stP (l : List DR) : Nat → Nat
 | 0 => 0
 | i + 1 => stP l i + ((l[i]?).map DR.gap).getD 0 + (if i = 0 then 0 else 1)
theorem stP_le (l : List DR) (h : ∀ r ∈ l, r.gap < 256) : ∀ i, stP l i ≤ 256 * i
 | 0 => Nat.le_refl _
 | i + 1 => by
  have ih := stP_le l h i
  have h2 : ((l[i]?).map DR.gap).getD 0 ≤ 255 := by
   cases hl : l[i]? with
   | none => exact Nat.zero_le _
   | some r =>
    have := h r (List.mem_of_getElem? hl)
    show r.gap ≤ 255
    omega
  unfold stP
  split <;> omega
def BgIs (l : List DR) (i : Nat) (rl : List RV) : Prop := rl.length = i ∧ rl.reverse.map (fun r => (r.v.st, r.v.dl, r.v.p)) = (List.range i).map fun j => (stP l (j + 1), ((l[j]?).map DR.dl).getD false, if ((l[j]?).map DR.dl).getD false = true then [] else (((l[j]?).map DR.p).getD []).take 500)
theorem BgIs.nil (l : List DR) : BgIs l 0 [] := ⟨rfl, rfl⟩
theorem BgIs.add {l : List DR} {i : Nat} {rl : List RV} {r : RV} (h : BgIs l i rl) (hi : i < l.length) (h1 : r.v.st = stP l (i + 1)) (h2 : r.v.dl = (l[i]).dl) (h3 : r.v.p = if (l[i]).dl = true then [] else (l[i]).p.take 500) : BgIs l (i + 1) (r :: rl) := by
 refine ⟨by rw [List.length_cons, h.1], ?_⟩
 rw [List.reverse_cons, List.map_append, h.2, List.range_succ, List.map_append]
 congr 1
 simp only [List.map_cons, List.map_nil, List.getElem?_eq_getElem hi, Option.map_some, Option.getD_some, h1, h2, h3]
end
end Go.Proofs.YtnlokpakiambaaaGreatDoor
