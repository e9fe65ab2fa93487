/- The walks and laws that the claim leans on, part 45. -/
import Derived.Test.YtpihhlbfpbngaaaGreatDoorJbp
import Derived.Test.YtpihhlbfpbngaaaGreatDoorJbq
import Derived.Test.YtpihhlbfpbngaaaGreatDoorJbr
namespace Go.Proofs.YtpihhlbfpbngaaaGreatDoor
open Go.RowKit Go.Maps
theorem methDPublish (p : Option Addr) (w : World) : (method 519 37 (.pointer p) "Publish").run Tryz.prog w = .ok (30, .pointer p) w := by kernel_rfl
theorem aheadDPublish (p : Addr) (w : World) : (nilAhead 519 37 (.pointer (some p)) "Publish").run Tryz.prog w = .ok (some false) w := by kernel_rfl
set_option maxRecDepth 100000 in
set_option maxHeartbeats 2000000 in
theorem linkB_any (n : Nat) (hn : n < 8) (w : World) : Calls Tryz.prog 118 #[.int .i64 (n : Int)] w fun e w' => e = .returned (.int .u64 ((3328 + 8 * n : Nat) : Int)) ∧ w = w' := by
  have hc : n = 0 ∨ n = 1 ∨ n = 2 ∨ n = 3 ∨ n = 4 ∨ n = 5 ∨ n = 6 ∨ n = 7 := by omega
  rcases hc with rfl | rfl | rfl | rfl | rfl | rfl | rfl | rfl
  all_goals
    go_enter Tryz.func118, Tryz.ntmps118
    go_wp2
    go_ret
    exact ⟨rfl, rfl⟩
section
variable {a : DA} {L T s n K : Nat} {x : HA} {cs : Nat → CS} {f : Nat → Option Nat} {N m b0 : Nat} {S : Fp} {cur : Nat → Nat} {w w' : World} {d r : Nat}
theorem RetPub.back {us : List (Nat × Nat)} {keep free : List Nat} {n1 : Nat} {e : Ending} {W : World} (hW : Below w.heap.size w W) (h : RetPub a L T s n K x cs f N m b0 S cur W d r us keep free n1 e w') : RetPub a L T s n K x cs f N m b0 S cur w d r us keep free n1 e w' := by
  obtain ⟨ks, V, cm, S', h1, h2, h3, h4, h5, h6, h7, h8⟩ := h
  exact ⟨ks, V, cm, S', h1, h2, h3, h4, h5, h6, (Chg.of_below hW).trans h7 (fun j hj => .inl hj), fun k hk => (h8 k hk).imp id (fun h => Nat.le_trans hW.size h)⟩
theorem hdrAt_ge {ln cl i : Nat} (h : hdrAt ln cl i) : 8 * ln ≤ i := by
  rcases h with h | ⟨j, _, h⟩ <;> omega
theorem link_ok (hd : DS a L T 53 n K x cs f N m b0 S cur w) (i q : Nat) (hi : i < 8) (hq : q < 18446744073709551616) : UOk L 0 53 K cs [(3328 + 8 * i, q)] := by
  have hK := hd.hK
  refine ⟨fun e he => ?_, fun e he => ?_, fun e he k hk hl => ?_, by simp⟩
  · simp at he
    subst he
    exact ⟨by show (3328 + 8 * i) % 8 = 0; omega, by show 3328 + 8 * i < 64 * L; omega, .inr (by show 64 * 0 + 64 * 26 ≤ 3328 + 8 * i; omega)⟩
  · simp at he
    subst he
    exact hq
  · simp at he
    subst he
    have hl' : lookAt 53 cs k ((3328 + 8 * i) / 8) := hl
    unfold lookAt at hl'
    split at hl'
    · have := hdrAt_ge hl'
      omega
    · omega
set_option maxRecDepth 100000
set_option maxHeartbeats 4000000
theorem set_any (h : SD a L T 53 n K x cs f N m b0 S cur w d r) (hK12 : K ≤ 12) (g i q : Nat) (hi : i < 8) (hq : q < 18446744073709551616) (A1 : Option Addr) (n1 c1 : Nat) (keep : List Nat) (h1 : Reads w w.heap.size 1 A1 n1 (uCells keep)) (hA1 : ∀ ad, A1 = some ad → ¬ sfp S x ad.block) (hk : ∀ p ∈ keep, KeepOk 53 K cs f p) (hn : (keep.map pOff).Nodup) (hlen : keep.length ≤ 20) (hT : T + 800 ≤ 1000000000) (hN : N + n1 ≤ 1000000000) :
    Calls Tryz.prog 51 #[.pointer (some ⟨g, 0, none⟩), dirV d, .int .i64 (i : Int), .int .u64 (q : Int), .slice A1 n1 c1] w (RetPub a L T 53 n K x cs f N m b0 S cur w d r [(3328 + 8 * i, q)] keep [] n1) := by
  have HLk := Lib.hid (linkB_any i hi)
  have HPb : Hid (∀ (W W' : World), W = w.drew → W' = W.alloc (.cells #[.int .u64 ((3328 + 8 * i : Nat) : Int), .int .u64 (q : Int)] 76) → Calls Tryz.prog 30 #[.pointer (some ⟨d, 0, none⟩), .slice (some ⟨W.heap.size, 0, none⟩) 1 1, .slice A1 n1 c1, .slice none 0 0] W' (RetPub a L T 53 n K x cs f N m b0 S cur w d r [(3328 + 8 * i, q)] keep [] n1)) := Lib.hid (fun W W' hW hW' => by
    subst hW hW'
    have hb : Below w.heap.size w (w.drew.alloc (.cells #[.int .u64 ((3328 + 8 * i : Nat) : Int), .int .u64 (q : Int)] 76)) := (Below.refl _ _).drew.alloc (Nat.le_refl _) _
    have h0 := publishD (h.below hb) hK12 (some ⟨w.drew.heap.size, 0, none⟩) A1 none 1 1 n1 c1 0 0 [(3328 + 8 * i, q)] keep [] (one_reads w.drew _ q) (fun h => by cases h) ((h1.below hb).more hb.size) ⟨rfl, fun h => absurd h (Nat.lt_irrefl 0)⟩ hA1 hk (fun p hp => absurd hp (by simp)) (by rw [List.append_nil]; exact hn) (link_ok h.ds i q hi hq) (by simp; omega) hT hN
    exact h0.mono (fun e w' h => RetPub.back hb h))
  have hm := methDPublish (some ⟨d, 0, none⟩)
  have hna := aheadDPublish ⟨d, 0, none⟩
  have hmf : ∀ (fn : Fn) (first cap : Array Value) (w : World), (Instr.makeFunc fn first cap).run Tryz.prog w = .ok (.func fn first cap) w := fun _ _ _ _ => rfl
  generalize 3328 + 8 * i = O at *
  clear h h1 hA1 hk hn
  unfold dirV
  go_enter Tryz.func51, Tryz.ntmps51
  go_upto_region 1 with fail
  refine wp_region_scriptH (fun _ => True) 10 [] [(1, 0), (1, 1), (1, 3), (1, 6), (1, 7), (1, 8), (1, 9), (0, 2), (1, 4), (0, 5)] (by kernel_rfl) (by kernel_rfl) trivial ?_
  refine wpScriptH_take (.iface 37 (.pointer (some ⟨d, 0, none⟩))) (by rfl) (by rfl) (fun w' hS => ?_) ?_
  · go_simp
  simp only [zA, zB, Act.put, zD, zE, zF]
  refine wpScriptH_take (.int .i64 (i : Int)) (by rfl) (by rfl) (fun w' hS => ?_) ?_
  · go_simp
  simp only [zA, zB, zC, Act.put, zD, zE, zF]
  refine wpScriptH_take (.int .u64 (q : Int)) (by rfl) (by rfl) (fun w' hS => ?_) ?_
  · go_simp
  simp only [zA, zB, zC, Act.put, zD, zE, zF]
  refine wpScriptH_take (.slice A1 n1 c1) (by rfl) (by rfl) (fun w' hS => ?_) ?_
  · go_simp
  simp only [zA, zB, zC, Act.put, zD, zE, zF]
  refine wpScriptH_take (.func (.method "Publish") #[.iface 37 (.pointer (some ⟨d, 0, none⟩))] #[]) (by rfl) (by rfl) (fun w' hS => ?_) ?_
  · go_simp
  simp only [zA, zB, zC, Act.put, zD, zE, zF]
  refine wpScriptH_take (.func (.method "Publish") #[.iface 37 (.pointer (some ⟨d, 0, none⟩))] #[]) (by rfl) (by rfl) (fun w' hS => ?_) ?_
  · go_simp
  simp only [zA, zB, zC, Act.put, zD, zE, zF]
  refine wpScriptH_take (.iface 37 (.pointer (some ⟨d, 0, none⟩))) (by rfl) (by rfl) (fun w' hS => ?_) ?_
  · go_simp
  simp only [zA, zB, zC, Act.put, zD, zE, zF]
  refine wpScriptH_do (by rfl) ?_
  go_wp2_with (go_at_call 118; refine (HLk.out _).mono ?_; rintro e w1 ⟨rfl, rfl⟩)
  refine ⟨trivial, ?_⟩
  refine wpScriptH_take (.agg #[.int .u64 (O : Int), .int .u64 (q : Int)]) (by rfl) (by rfl) (fun w' hS => ?_) ?_
  · go_simp
  simp only [zA, zB, zC, Act.put, zD, zE, zF]
  refine wpScriptH_do (by rfl) ?_
  go_wp2_with fail
  refine ⟨trivial, ?_⟩
  show wpList _ _ _ _ _ _
  simp only [List.drop_succ_cons, List.drop_zero]
  go_wp2_with (go_at_call 30; refine (HPb.out _ _ rfl rfl).mono ?_; intro e w2 h2; have HP2 := Lib.hid h2; clear h2; obtain ⟨ks, V, cm, S', rfl, q2, q3, q4, q5, q6, q7, q8⟩ := HP2.out; clear q2 q3 q4 q5 q6 q7 q8)
  refine NoPanic.normal ?_
  go_wp2_with fail
  go_ret
  exact HP2.out
end
end Go.Proofs.YtpihhlbfpbngaaaGreatDoor
namespace Go.Proofs.YtpihhlbfpbngaaaGreatDoor
open Go.RowKit Go.Maps
section
variable {a : DA} {L T s n K : Nat} {x : HA} {cs : Nat → CS} {f : Nat → Option Nat} {N m b0 : Nat} {S : Fp} {cur : Nat → Nat} {w w' : World} {d r : Nat}
set_option maxRecDepth 100000
set_option maxHeartbeats 2000000
def RetRd (w : World) (R : Nat × List Nat × List Nat) (e : Ending) (w' : World) : Prop :=
  if R.1 = 0 then ∃ A m c, e = .returned (.tuple #[.slice A m c, .int .i64 0]) ∧ m = R.2.2.length ∧ Reads w' w'.heap.size 1 A m (u8s R.2.2) ∧ (∀ ad, A = some ad → w.heap.size ≤ ad.block) ∧ m ≤ c ∧ Below w.heap.size w w'
  else e = .returned (.tuple #[.slice none 0 0, .int .i64 (R.1 : Int)]) ∧ Below w.heap.size w w'
theorem bread_any (h : SD a L T s n K x cs f N m b0 S cur w d r) (p : Nat) (hp64 : p < 18446744073709551616) :
    Calls Tryz.prog 25 #[dirV d, .int .u64 (p : Int)] w (RetRd w (walkR L cur (fun q => chkR s K cs q 1) p)) := by
  have HW := Lib.hid (walk_any h p hp64)
  clear h
  generalize walkR L cur (fun q => chkR s K cs q 1) p = R at *
  unfold dirV at *
  by_cases hR : R.1 = 0
  · have HW2 : Hid (Calls Tryz.prog 59 #[.iface 37 (.pointer (some ⟨d, 0, none⟩)), .int .u64 (p : Int)] w fun e w' => ∃ A m c A2 m2 c2, e = .returned (.tuple #[.slice A m c, .slice A2 m2 c2, .int .i64 0]) ∧ m2 = R.2.2.length ∧ Reads w' w'.heap.size 1 A2 m2 (u8s R.2.2) ∧ (∀ ad, A2 = some ad → w.heap.size ≤ ad.block) ∧ m2 ≤ c2 ∧ Below w.heap.size w w') := Lib.hid (HW.out.mono (fun e w' h => by
      unfold RetWk at h
      rw [if_pos hR] at h
      obtain ⟨A, m, c, A2, m2, c2, h1, h2, h3, h4, h5, h6, h7, h8, h9⟩ := h
      exact ⟨A, m, c, A2, m2, c2, h1, h3, h5, h7, h8.2, h9⟩))
    have HR := Lib.hid hR
    clear HW hR
    go_enter Tryz.func25, Tryz.ntmps25
    go_wp2_with (go_at_call 59; refine HW2.out.mono ?_; rintro e w1 ⟨A, m1, c, A2, m2, c2, rfl, h1, h2, h3, h4, h5⟩; have HE := Lib.hid (show _ ∧ _ ∧ _ ∧ _ ∧ _ from ⟨h1, h2, h3, h4, h5⟩); clear h1 h2 h3 h4 h5)
    go_ret2
    unfold RetRd
    rw [if_pos HR.out]
    exact ⟨A2, m2, c2, rfl, HE.out.1, HE.out.2.1, HE.out.2.2.1, HE.out.2.2.2.1, HE.out.2.2.2.2⟩
  · have HW2 : Hid (Calls Tryz.prog 59 #[.iface 37 (.pointer (some ⟨d, 0, none⟩)), .int .u64 (p : Int)] w fun e w' => e = .returned (.tuple #[.slice none 0 0, .slice none 0 0, .int .i64 (R.1 : Int)]) ∧ Below w.heap.size w w') := Lib.hid (HW.out.mono (fun e w' h => by
      unfold RetWk at h
      rw [if_neg hR] at h
      exact h))
    have HR := Lib.hid hR
    clear HW hR
    go_enter Tryz.func25, Tryz.ntmps25
    go_wp2_with (go_at_call 59; refine HW2.out.mono ?_; rintro e w1 ⟨rfl, h1⟩; have HE := Lib.hid h1; clear h1)
    go_ret2
    unfold RetRd
    rw [if_neg HR.out]
    exact ⟨rfl, HE.out⟩
end
end Go.Proofs.YtpihhlbfpbngaaaGreatDoor
namespace Go.Proofs.YtpihhlbfpbngaaaGreatDoor
open Go.RowKit Go.Maps
structure BkA (K : Nat) (cs : Nat → CS) (cur : Nat → Nat) (q next : Nat) (p : List Nat) : Prop where
  live : ∃ k i, LiveA 53 K cs q 1 k i ∧ payW (cs k).cl = bSize p.length
  words : WordsAt cur q (payL next p)
theorem payL_len1 (next : Nat) (p : List Nat) : (payL next p).length - 1 = (payB next p).length := by unfold payL; simp
theorem payL_set (next next' : Nat) (p : List Nat) : ((payL next p).set 0 next').take ((payL next p).length - 1) = payB next' p := by
  have e : (payL next p).set 0 next' = payB next' p ++ [sumW (payB next p)] := rfl
  have h : (payL next p).length - 1 = (payB next' p).length := by rw [payL_len1, payB_len, payB_len]
  rw [e, h, List.take_left]
theorem payL_mid (next next' : Nat) (p : List Nat) {y : Nat} (h0 : y ≠ 0) (h1 : y < (payL next p).length - 1) : (payL next p).getD y 0 = (payL next' p).getD y 0 := by
  obtain ⟨z, rfl⟩ : ∃ z, y = z + 1 := ⟨y - 1, by omega⟩
  rw [payL_len1] at h1
  have h2 : z + 1 < (payB next' p).length := by rw [payB_len] at h1 ⊢; exact h1
  unfold payL
  rw [List.getD_eq_getElem?_getD, List.getD_eq_getElem?_getD, List.getElem?_append_left h1, List.getElem?_append_left h2]
  rfl
theorem payL_last (next : Nat) (p : List Nat) : (payL next p).getD ((payL next p).length - 1) 0 = sumW (payB next p) := by
  have h := (payL_sum next p)
  rw [h.1, h.2]
section
variable {a : DA} {L T n K : Nat} {x : HA} {cs : Nat → CS} {f : Nat → Option Nat} {N m b0 : Nat} {S : Fp} {cur : Nat → Nat} {w : World} {ks free : List Nat} {V : Nat → Nat} {cm : Nat}
theorem chain_bk (hd : DS a L T 53 n K x cs f N m b0 S cur w) {bl p : List Nat} (hlen : bl.length = nBlk p.length) (hp : p.length ≤ 2000) (h : ∀ j (hj : j < bl.length), BkA K cs cur bl[j] (bl.getD (j + 1) 0) (p.drop (456 * j))) : Chain L cur (fun q => chkR 53 K cs q 1) bl p := by
  have h1 := chain_words (L := L) (chk := fun q => chkR 53 K cs q 1) hlen hp (fun j hj => (h j hj).words) (fun j hj => by
    obtain ⟨k, i2, h1, h2⟩ := (h j hj).live
    have h5 := (h1.at_.inL hd).1
    rw [List.length_drop] at h2
    exact ⟨by omega, h1.nz, h1.lt, (Live.chk ⟨k, i2, h1⟩).1⟩) (bl.length - 1) 0 (by have := nBlk_drop p; omega)
  simpa using h1
theorem KeepL.bk {bl2 : List Nat} {cs' : Nat → CS} {cur' : Nat → Nat} (h : KeepL K cs cur bl2 cs' cur') {q next : Nat} {p : List Nat} (hb : BkA K cs cur q next p) : BkA K cs' cur' q next p ∧ pOff q ∉ bl2.map pOff := by
  obtain ⟨k, i, h1, h2⟩ := hb.live
  obtain ⟨g1, g2, g3, g4⟩ := h q 1 k i h1
  refine ⟨⟨⟨k, i, g1, by rw [g2]; exact h2⟩, fun y hy => ?_⟩, g3⟩
  have h3 := hb.words y hy
  rw [payL_len] at hy
  rw [g4 y (by omega)]
  exact h3
theorem LiveA.freeOk {q kind k i : Nat} (h : LiveA 53 K cs q kind k i) : FreeOk 53 K cs q :=
  ⟨⟨k, i, h.at_.1, h.at_.2.1, h.at_.2.2.1, h.at_.2.2.2, by rw [h.bk]⟩, (Live.chk ⟨k, i, h⟩).2, h.nz, h.lt⟩
theorem At.notLook {q k i y : Nat} (h : At 53 K cs q k i) (hy : y < payW (cs k).cl) {k' : Nat} (_hk' : k' < K) : ¬ lookAt 53 cs k' (8 * (53 + 32 * k) + offB (cs k).cl i + 1 + y) := fun hl => by
  obtain ⟨_, p2, p3, p4⟩ := pay_word (ln := 53 + 32 * k) h.2.2.1 hy
  have h9 := offB_ge (cs k).cl i
  unfold lookAt at hl
  by_cases e : k' = k
  · subst e
    rw [h.2.1, if_pos rfl] at hl
    exact p4 hl
  · split at hl
    · have := hdrAt_in hl
      omega
    · omega
theorem link_uok (hd : DS a L T 53 n K x cs f N m b0 S cur w) {q next next' : Nat} {p : List Nat} (hb : BkA K cs cur q next p) (hn : next' < 18446744073709551616) : UOk L 0 53 K cs (linkW q next' (payL next p)) := by
  obtain ⟨k, i, h1, h2⟩ := hb.live
  have hin := (h1.at_.inL hd).1
  have hl := h1.at_.lines
  have hlo := h1.at_.lo
  obtain ⟨h3, h60⟩ := bSize_le p.length
  have hs := sumW_lt (((payL next p).set 0 next').take ((payL next p).length - 1))
  have e8 : (pOff q + 8 * ((payL next p).length - 1)) / 8 = pOff q / 8 + (bSize p.length - 1) := by rw [payL_len]; omega
  refine ⟨fun e he => ?_, fun e he => ?_, fun e he k' hk' hlk => ?_, ?_⟩
  · unfold linkW at he
    simp only [List.mem_cons, List.not_mem_nil, or_false] at he
    rcases he with rfl | rfl
    · exact ⟨hl.2, by show pOff q < 64 * L; omega, .inr (by show 64 * 0 + 64 * 26 ≤ pOff q; omega)⟩
    · rw [payL_len]
      exact ⟨by show (pOff q + 8 * (bSize p.length - 1)) % 8 = 0; omega, by show pOff q + 8 * (bSize p.length - 1) < 64 * L; omega, .inr (by show 64 * 0 + 64 * 26 ≤ pOff q + 8 * (bSize p.length - 1); omega)⟩
  · unfold linkW at he
    simp only [List.mem_cons, List.not_mem_nil, or_false] at he
    rcases he with rfl | rfl
    · exact hn
    · show sumW _ < _
      omega
  · unfold linkW at he
    simp only [List.mem_cons, List.not_mem_nil, or_false] at he
    rcases he with rfl | rfl
    · have h4 := h1.at_.notLook (y := 0) (by omega) hk'
      have hlk' : lookAt 53 cs k' (pOff q / 8) := hlk
      rw [hl.1] at hlk'
      exact h4 hlk'
    · have h4 := h1.at_.notLook (y := bSize p.length - 1) (by omega) hk'
      have hlk' : lookAt 53 cs k' ((pOff q + 8 * ((payL next p).length - 1)) / 8) := hlk
      rw [e8, hl.1] at hlk'
      exact h4 hlk'
  · unfold linkW
    rw [payL_len]
    simp
    omega
theorem pub_bk (hd : DS a L T 53 n K x cs f N m b0 S cur w) {q next next' r nr : Nat} {p pr : List Nat} (hb : BkA K cs cur q next p) (hA : AOk 53 K cs ks (tlOf 53 cs []) (dlOf 53 cs free) V) (hfr : ∀ r ∈ free, ∃ k i, At 53 K cs r k i) (h96 : (linkW q next' (payL next p) ++ ks.flatMap (acW 53 cs (tlOf 53 cs []) (dlOf 53 cs free) V)).length ≤ 96)
    (hr : BkA K cs cur r nr pr) (hne : pOff r ≠ pOff q) (hnf : ∀ z ∈ free, pOff z ≠ pOff r) : BkA K (acC cs ks (tlOf 53 cs []) (dlOf 53 cs free) V) (rdG 0 cur (linkW q next' (payL next p) ++ ks.flatMap (acW 53 cs (tlOf 53 cs []) (dlOf 53 cs free) V)) cm) r nr pr := by
  obtain ⟨k, i, h1, h2⟩ := hb.live
  obtain ⟨kr, ir, g1, g2⟩ := hr.live
  have hl := h1.at_.lines
  have gl := g1.at_.lines
  obtain ⟨h3, h60⟩ := bSize_le p.length
  have e8 : (pOff q + 8 * ((payL next p).length - 1)) / 8 = pOff q / 8 + (bSize p.length - 1) := by rw [payL_len]; omega
  refine ⟨⟨kr, ir, pub_live (fun z hz => absurd hz (by simp)) hfr g1 (fun z hz => absurd hz (by simp)) hnf, ?_⟩, fun y hy => ?_⟩
  · rw [(acC_dv cs ks (tlOf 53 cs []) (dlOf 53 cs free) V kr).2.1]
    exact g2
  · have h5 := hr.words y hy
    rw [payL_len] at hy
    rw [gl.1] at h5 ⊢
    have hap : ∀ z, z < payW (cs k).cl → 8 * (53 + 32 * kr) + offB (cs kr).cl ir + 1 + y ≠ 8 * (53 + 32 * k) + offB (cs k).cl i + 1 + z := fun z hz => pay_apart g1.at_.2.2.1 h1.at_.2.2.1 (by omega) hz (fun ⟨e1, e2⟩ => by
      subst e1 e2
      exact hne (g1.at_.2.2.2.trans h1.at_.2.2.2.symm))
    refine (pub_pay hd (by omega) hA h96 g1.at_.1 g1.at_.2.1 g1.at_.2.2.1 (by omega) (fun e he => ?_)).trans h5
    unfold linkW at he
    simp only [List.mem_cons, List.not_mem_nil, or_false] at he
    rcases he with rfl | rfl
    · have h6 := hap 0 (by omega)
      show pOff q / 8 ≠ _
      rw [hl.1]
      exact fun e => h6 (by omega)
    · have h6 := hap (bSize p.length - 1) (by omega)
      show (pOff q + 8 * ((payL next p).length - 1)) / 8 ≠ _
      rw [e8, hl.1]
      exact fun e => h6 (by omega)
theorem link_bk (hd : DS a L T 53 n K x cs f N m b0 S cur w) {q next next' : Nat} {p : List Nat} (hb : BkA K cs cur q next p) (hn : next' < 18446744073709551616) (hA : AOk 53 K cs ks (tlOf 53 cs []) (dlOf 53 cs free) V) (hfr : ∀ r ∈ free, ∃ k i, At 53 K cs r k i) (h96 : (linkW q next' (payL next p) ++ ks.flatMap (acW 53 cs (tlOf 53 cs []) (dlOf 53 cs free) V)).length ≤ 96)
    (hnf : ∀ z ∈ free, pOff z ≠ pOff q) : BkA K (acC cs ks (tlOf 53 cs []) (dlOf 53 cs free) V) (rdG 0 cur (linkW q next' (payL next p) ++ ks.flatMap (acW 53 cs (tlOf 53 cs []) (dlOf 53 cs free) V)) cm) q next' p := by
  obtain ⟨k, i, h1, h2⟩ := hb.live
  have hl := h1.at_.lines
  have hu := link_uok hd hb hn
  obtain ⟨h3, h60⟩ := bSize_le p.length
  have hln := payL_len next p
  have hln' := payL_len next' p
  have e8 : (pOff q + 8 * ((payL next p).length - 1)) / 8 = pOff q / 8 + (bSize p.length - 1) := by rw [hln]; omega
  have hget : ∀ e ∈ linkW q next' (payL next p), rdG 0 cur (linkW q next' (payL next p) ++ ks.flatMap (acW 53 cs (tlOf 53 cs []) (dlOf 53 cs free) V)) cm (e.1 / 8) = e.2 := fun e he => rdG_get (pub_off hd (by omega) hu hA) (pub_nodup hu hA) (List.mem_append.2 (.inl he))
  refine ⟨⟨k, i, pub_live (fun z hz => absurd hz (by simp)) hfr h1 (fun z hz => absurd hz (by simp)) hnf, ?_⟩, fun y hy => ?_⟩
  · rw [(acC_dv cs ks (tlOf 53 cs []) (dlOf 53 cs free) V k).2.1]
    exact h2
  · rw [hln'] at hy
    by_cases y0 : y = 0
    · subst y0
      have h4 := hget (pOff q, next') (by unfold linkW; simp)
      rw [(payL_head next' p).1]
      exact h4
    · by_cases yl : y = bSize p.length - 1
      · have h4 := hget (pOff q + 8 * ((payL next p).length - 1), sumW (((payL next p).set 0 next').take ((payL next p).length - 1))) (by unfold linkW; simp)
        rw [payL_set] at h4
        have h5 := payL_last next' p
        rw [hln', ← yl] at h5
        rw [h5, yl, ← e8]
        exact h4
      · have h5 := hb.words y (by rw [hln]; exact hy)
        rw [payL_mid next next' p y0 (by rw [hln]; omega)] at h5
        rw [hl.1] at h5 ⊢
        refine (pub_pay hd (by omega) hA h96 h1.at_.1 h1.at_.2.1 h1.at_.2.2.1 (by omega) (fun e he => ?_)).trans h5
        unfold linkW at he
        simp only [List.mem_cons, List.not_mem_nil, or_false] at he
        rcases he with rfl | rfl
        · show pOff q / 8 ≠ _
          rw [hl.1]
          omega
        · show (pOff q + 8 * ((payL next p).length - 1)) / 8 ≠ _
          rw [e8, hl.1]
          omega
end
end Go.Proofs.YtpihhlbfpbngaaaGreatDoor
namespace Go.Proofs.YtpihhlbfpbngaaaGreatDoor
open Go.RowKit Go.Maps
section
variable {a : DA} {L T K : Nat} {x : HA} {y : WA} {cs : Nat → CS} {f : Nat → Option Nat} {N m b0 : Nat} {S : Fp} {cur : Nat → Nat} {w w' : World}
theorem BW.keep {T' N' m' : Nat} {cs' : Nat → CS} {f' : Nat → Option Nat} {S' : Fp} {cur' : Nat → Nat} (h : BW a L T K x y cs f N m b0 S cur w) (hsd : SD a L T' 53 (32 * K) K x cs' f' N' m' b0 S' cur' w' y.d y.r) (hc : Chg (sfp S x) w w') (hg : Grew S S' w) (hu : cur' (8 * 26) = 0) : BW a L T' K x y cs' f' N' m' b0 S' cur' w' := by
  have hn : ∀ {g : Nat} {t : TypeId} {vs : Array Value}, Blk w g t vs → ¬ S g → t ≠ 323 → ¬ sfp S x g := fun hB hS ht e => e.elim hS (h.sd.ds.fp_ne hB ht)
  exact ⟨hsd, hc.blk h.blk (hn h.blk h.off.1 (by decide)), hc.blk h.und (hn h.und h.off.2.1 (by decide)), hc.blk h.mgr (hn h.mgr h.off.2.2 (by decide)), hu, ⟨hg.off ⟨h.blk.lt, h.off.1⟩, hg.off ⟨h.und.lt, h.off.2.1⟩, hg.off ⟨h.mgr.lt, h.off.2.2⟩⟩, h.new, h.size, h.few⟩
theorem BW.below (h : BW a L T K x y cs f N m b0 S cur w) (hb : Below w.heap.size w w') : BW a L T K x y cs f N m b0 S cur w' :=
  h.keep (h.sd.below hb) (Chg.of_below hb) (Grew.refl _ _) h.uid
theorem BW.more {T' N' : Nat} (h : BW a L T K x y cs f N m b0 S cur w) (hT : T ≤ T') (hT' : T' ≤ 1000000000) (hN : N ≤ N') : BW a L T' K x y cs f N' m b0 S cur w :=
  { h with sd := { h.sd.more hT hT' with ds := { (h.sd.more hT hT').ds with hs := h.sd.ds.hs.mono hN } } }
def RetPut (a : DA) (L T K : Nat) (x : HA) (y : WA) (f : Nat → Option Nat) (N m b0 : Nat) (S : Fp) (w : World) (al p : List Nat) (i : Nat) (e : Ending) (w' : World) : Prop :=
  ∃ bl A' m' c' cs' f' S' cur', e = .returned (.tuple #[.int .u64 (bl.headD 0 : Int), .slice A' m' c']) ∧ m' = bl.length ∧ Reads w' w'.heap.size 1 A' m' (uCells bl) ∧ (∀ ad, A' = some ad → w.heap.size ≤ ad.block ∧ ¬ sfp S' x ad.block) ∧ PutP L K f al p i bl cs' f' cur' ∧ BW a L (T + 4000) K x y cs' f' (N + 20) m b0 S' cur' w' ∧ Chg (sfp S x) w w' ∧ Grew S S' w ∧ m' ≤ c'
set_option maxRecDepth 100000
set_option maxHeartbeats 4000000
theorem put_any (h : BW a L T K x y cs f N m b0 S cur w) (al : List Nat) (hcap : Cap 53 K cs f al) (i : Nat) (hi : i < 8) (A : Option Addr) (n0 c0 : Nat) (p : List Nat) (hr : Reads w w.heap.size 1 A n0 (u8s p)) (hA : 0 < n0 → ∀ ad, A = some ad → ¬ sfp S x ad.block) (hp : ∀ z ∈ p, z < 256) (hn : n0 ≤ 2000) (hc : n0 ≤ c0) (hc2 : c0 ≤ 9223372036854775807) (hroom : room (alW n0 al (nBlk n0)) ≤ K) (hN : N + 20 ≤ 1000000000) (hT : T + 4000 ≤ 1000000000) :
    Calls Tryz.prog 14 #[.pointer (some ⟨y.g, 0, none⟩), .int .i64 (i : Int), .slice A n0 c0] w (RetPut a L T K x y f N m b0 S w al p i) := by
  have hl0 : p.length = n0 := by have := hr.1; simp [u8s] at this; omega
  have HWr := Lib.hid (write_any h.sd al hcap A n0 c0 p hr hA hp hn hc hc2 hroom (by omega) (by omega))
  have HB := Lib.hid h
  have HNT := Lib.hid (And.intro hN hT)
  have HM5 := Lib.hid (nBlk_few n0 hn)
  have HLn := Lib.hid hl0
  have HHn := Lib.hid hn
  have g3 : w.cell? ⟨y.g, 3, none⟩ = some (.pointer (some ⟨y.d, 0, none⟩)) := h.blk.cell 3
  clear h hcap hr hA hp hroom hN hT hl0 hn
  unfold dirV at HWr
  have HWr2 : Hid (Calls Tryz.prog 28 #[.iface 37 (.pointer (some ⟨y.d, 0, none⟩)), .slice A n0 c0] w fun e w1 => ∃ (q : Nat) (A' : Option Addr) (m' c' : Nat), e = .returned (.tuple #[.int .u64 (q : Int), .slice A' m' c', .int .i64 0]) ∧ Hid (∃ (bl : List Nat) (cs2 : Nat → CS) (f2 : Nat → Option Nat) (S2 : Fp) (cur2 : Nat → Nat), q = bl.headD 0 ∧ bl.length = nBlk p.length ∧ m' = bl.length ∧ Reads w1 w1.heap.size 1 A' m' (uCells bl) ∧ (∀ ad, A' = some ad → w.heap.size ≤ ad.block ∧ ¬ sfp S2 x ad.block) ∧ W2 53 K cs f cur al p cs2 f2 cur2 bl bl.length ∧ SD a L (T + 3000) 53 (32 * K) K x cs2 f2 (N + bl.length) (m + bl.length) b0 S2 cur2 w1 y.d y.r ∧ Chg (sfp S x) w w1 ∧ Grew S S2 w ∧ m' ≤ c')) := Lib.hid (HWr.out.mono (fun e w1 h => by
    obtain ⟨bl, A', m', c', cs2, f2, S2, cur2, h1, h2, h3, h4, h5, h6, h7, h8, h9⟩ := h
    exact ⟨_, A', m', c', h1, Lib.hid ⟨bl, cs2, f2, S2, cur2, rfl, h2, h3, h4, h5, h6, h7, h8, h9⟩⟩))
  clear HWr
  go_enter Tryz.func14, Tryz.ntmps14
  go_wp2_with (go_at_call 28; refine HWr2.out.mono ?_; rintro e w1 ⟨q, A', m', c', rfl, hall⟩; refine stop ?_)
  unfold Stop
  obtain ⟨bl, cs2, f2, S2, cur2, hq, hlen, hm, hrd, had, hw2, hsd, hch, hgr, hmc⟩ := hall.out
  have HMc := Lib.hid hmc
  clear hall
  have hM : 0 < bl.length := by rw [hlen]; exact nBlk_drop p
  have hmp : 0 < m' := by omega
  obtain ⟨hl1, gb, go, hA3, hgb, fk⟩ := u_facts hrd (k := 0) hmp
  rw [Nat.add_zero] at fk
  have e0 : bl.headD 0 = bl[0] := by cases bl with | nil => simp at hM | cons y t => rfl
  have hm5 : bl.length ≤ 5 := by rw [hlen, HLn.out]; exact HM5.out
  have hq64 : bl[0] < 18446744073709551616 := (hw2.w1.rq 0 hM).keep.nz.2
  have HSt := Lib.hid (set_any hsd HB.out.few y.g i q hi (by rw [hq, e0]; exact hq64) A' m' c' bl hrd (fun ad h => (had ad h).2) (fun q hq => by
    obtain ⟨j, hj, e⟩ := List.getElem_of_mem hq
    rw [← e]
    exact (hw2.w1.rq j hj).keep) hw2.w1.nd (by omega) (by have := HNT.out; omega) (by have := HNT.out; omega))
  have HB1 := Lib.hid (HB.out.keep hsd hch hgr ((hw2.w1.fr.head _ (by omega)).trans HB.out.uid))
  have g31 : w1.cell? ⟨y.g, 3, none⟩ = some (.pointer (some ⟨y.d, 0, none⟩)) := HB1.out.blk.cell 3
  have HX := Lib.hid (show bl.length = nBlk p.length ∧ m' = bl.length from ⟨hlen, hm⟩)
  have HRd := Lib.hid hrd
  have HAd := Lib.hid had
  have HW2 := Lib.hid hw2
  have HSd := Lib.hid hsd
  have HCh := Lib.hid hch
  have HGr := Lib.hid hgr
  have HGb : Hid (gb < w1.heap.size) := Lib.hid hgb
  have HQ := Lib.hid hq
  have HA3 := Lib.hid hA3
  have fq : w1.cell? ⟨gb, go, none⟩ = some (.int .u64 (q : Int)) := by rw [hq, e0]; exact fk
  clear hlen hm hrd had hw2 hsd hch hgr hmc hM hgb hq64 e0 hq fk hl1 hm5
  subst hA3
  have d1 : ((m' : Int) == 0) = false := by rw [beq_eq_false_iff_ne]; omega
  have d2 : (0 : Int) < (m' : Int) := by omega
  have d3 : ((q : Int) != (q : Int)) = false := by rw [bne, beq_self_eq_true]; rfl
  unfold dirV at HSt
  have HSt2 : Hid (Calls Tryz.prog 51 #[.pointer (some ⟨y.g, 0, none⟩), .iface 37 (.pointer (some ⟨y.d, 0, none⟩)), .int .i64 (i : Int), .int .u64 (q : Int), .slice (some ⟨gb, go, none⟩) m' c'] w1 fun e w2 => e = .returned (.int .i64 0) ∧ Hid (RetPub a L (T + 3000) 53 (32 * K) K x cs2 f2 (N + bl.length) (m + bl.length) b0 S2 cur2 w1 y.d y.r [(3328 + 8 * i, q)] bl [] m' e w2)) := Lib.hid (HSt.out.mono (fun e w' h => by
    have h0 := h
    obtain ⟨ks, V, cm, S', h1, _⟩ := h
    exact ⟨h1, Lib.hid h0⟩))
  clear HSt
  go_wp2_with (go_at_call 51; refine HSt2.out.mono ?_; rintro e w2 ⟨rfl, hpub⟩; have HPub := Lib.hid hpub.out; clear hpub)
  have HF : Hid (RetPut a L T K x y f N m b0 S w al p i (.returned (.tuple #[.int .u64 (q : Int), .slice (some ⟨gb, go, none⟩) m' c'])) w2) := Lib.hid (by
    obtain ⟨ks, V, cm, S3, _, hAO, hks, hcm, h96, hsd3, hch3, hgr3⟩ := HPub.out
    have e1 : bl.length + m' = bl.length + bl.length := by rw [HX.out.2]
    have hcur : rdG 0 cur2 ([(3328 + 8 * i, q)] ++ ks.flatMap (acW 53 cs2 (tlOf 53 cs2 bl) (dlOf 53 cs2 []) V)) cm (8 * 26) = 0 := by
      refine (pub_rest HSd.out.ds (by omega) hAO h96 (.inr (by omega)) (fun e he => ?_) (fun k hk e he heq => ?_)).trans HB1.out.uid
      · simp at he
        subst he
        show (3328 + 8 * i) / 8 ≠ _
        omega
      · obtain ⟨_, h2, _, h4, _⟩ := hAO.at_ hk he
        have := hdrAt_ge h2
        omega
    have hbw := HB1.out.keep hsd3 hch3 hgr3 hcur
    have hm5 : bl.length ≤ 5 := by rw [HX.out.1, HLn.out]; exact HM5.out
    have hmm : m + bl.length - m' = m := by rw [HX.out.2]; omega
    rw [hmm] at hbw
    refine ⟨bl, some ⟨gb, go, none⟩, m', c', _, _, S3, _, by rw [← HQ.out], HX.out.2, (hch3.reads HRd.out (Nat.le_refl _) (fun ad h => (HAd.out ad h).2)).more hch3.size, fun ad h => ⟨(HAd.out ad h).1, ?_⟩, putP_of (cm := cm) HSd.out.ds HW2.out HX.out.1 (by rw [HLn.out]; exact HHn.out) hAO hks (by rw [← HQ.out]; exact h96) hi, ?_, ?_, ?_, HMc.out⟩
    · injection h with h
      subst h
      rintro (e | e)
      · rcases hgr3 _ e with h1 | h1
        · exact (HAd.out _ rfl).2 (.inl h1)
        · have := HGb.out
          have h2 : w1.heap.size ≤ gb := h1
          omega
      · exact (HAd.out _ rfl).2 (.inr e)
    · rw [← HQ.out]
      exact hbw.more (by omega) (by have := HNT.out; omega) (by have := HX.out.2; omega)
    · refine HCh.out.trans hch3 (fun j hj => ?_)
      rcases hj with hj | hj
      · rcases HGr.out j hj with h1 | h1
        · exact .inl (.inl h1)
        · exact .inr h1
      · exact .inl (.inr hj)
    · exact HGr.out.trans hgr3 HCh.out.size)
  clear HPub
  go_ret2
  all_goals exact HF.out
end
end Go.Proofs.YtpihhlbfpbngaaaGreatDoor
namespace Go.Proofs.YtpihhlbfpbngaaaGreatDoor
open Go.RowKit Go.Maps
theorem chain_walk {L : Nat} {cur : Nat → Nat} {chk : Nat → Nat} {bl p : List Nat} (hc : Chain L cur chk bl p) (hp : ∀ b ∈ p, b < 256) (hn : p.length ≤ 2000) : walkR L cur chk (bl.headD 0) = (0, bl, p) := by
  cases bl with
  | nil => exact absurd hc (by simp [Chain])
  | cons q t =>
    have hcq : chk q = 0 := hc.2.2.2.2.2.2.1
    show walkR L cur _ q = _
    unfold walkR
    rw [if_neg (fun h => h hcq), walk_chain 6 q t p [] [] (-1) hc hp (.inl (by omega)) (by omega) (by omega)]
    rfl
section
variable {a a2 : DA} {L T T2 n K : Nat} {x x2 : HA} {cs : Nat → CS} {f f2 : Nat → Option Nat} {N N2 m m2 b0 b02 : Nat} {S S2 : Fp} {cur : Nat → Nat} {w w2 : World} {ks : List Nat} {V : Nat → Nat} {cm : Nat}
theorem nodup_off {bl : List Nat} (h : (bl.map pOff).Nodup) {i j : Nat} (hi : i < bl.length) (hj : j < bl.length) (hne : i ≠ j) : pOff bl[i] ≠ pOff bl[j] := fun e => by
  have hn := List.nodup_iff_pairwise_ne.1 h
  rw [List.pairwise_map] at hn
  have hp := List.pairwise_iff_getElem.1 hn
  rcases Nat.lt_or_gt_of_ne hne with h3 | h3
  · exact hp i j hi hj h3 e
  · exact hp j i hj hi h3 e.symm
theorem links_chain (hd : DS a L T 53 n K x cs f N m b0 S cur w) {bl bl2 p : List Nat} {k : Nat} (hlen : bl.length = nBlk p.length) (hp : p.length ≤ 2000) (hk : k + 1 < bl.length)
    (h1 : ∀ j (hj : j < bl.length), BkA K cs cur bl[j] (bl.getD (j + 1) 0) (p.drop (456 * j)) ∧ pOff bl[j] ∉ bl2.map pOff) (hnd : (bl.map pOff).Nodup) (hlen2 : bl2.length = nBlk (p.length - 456 * (k + 1)))
    (hsub : nBlk (p.length - 456 * (k + 1)) = nBlk p.length - (k + 1))
    (h2 : ∀ i (hi : i < bl2.length), BkA K cs cur bl2[i] (bl2.getD (i + 1) 0) ((p.drop (456 * (k + 1))).drop (456 * i))) (hq2 : bl2.headD 0 < 18446744073709551616)
    (hA : AOk 53 K cs ks (tlOf 53 cs []) (dlOf 53 cs (bl.drop (k + 1))) V)
    (h96 : (linkW bl[k] (bl2.headD 0) (payL (bl.getD (k + 1) 0) (p.drop (456 * k))) ++ ks.flatMap (acW 53 cs (tlOf 53 cs []) (dlOf 53 cs (bl.drop (k + 1))) V)).length ≤ 96)
    (hd4 : DS a2 L T2 53 n K x2 (acC cs ks (tlOf 53 cs []) (dlOf 53 cs (bl.drop (k + 1))) V) f2 N2 m2 b02 S2 (rdG 0 cur (linkW bl[k] (bl2.headD 0) (payL (bl.getD (k + 1) 0) (p.drop (456 * k))) ++ ks.flatMap (acW 53 cs (tlOf 53 cs []) (dlOf 53 cs (bl.drop (k + 1))) V)) cm) w2) :
    Chain L (rdG 0 cur (linkW bl[k] (bl2.headD 0) (payL (bl.getD (k + 1) 0) (p.drop (456 * k))) ++ ks.flatMap (acW 53 cs (tlOf 53 cs []) (dlOf 53 cs (bl.drop (k + 1))) V)) cm) (fun q => chkR 53 K (acC cs ks (tlOf 53 cs []) (dlOf 53 cs (bl.drop (k + 1))) V) q 1) (bl.take (k + 1) ++ bl2) p := by
  have hkl : k < bl.length := by omega
  have hin : ∀ z ∈ bl.drop (k + 1), ∃ j, ∃ hj : j < bl.length, k + 1 ≤ j ∧ bl[j] = z := fun z hz => by
    obtain ⟨i, hi, e⟩ := List.getElem_of_mem hz
    rw [List.length_drop] at hi
    rw [List.getElem_drop] at e
    exact ⟨k + 1 + i, by omega, by omega, e⟩
  have hfr : ∀ r ∈ bl.drop (k + 1), ∃ k i, At 53 K cs r k i := fun r hr => by
    obtain ⟨j, hj, _, e⟩ := hin r hr
    obtain ⟨k3, i3, h3, _⟩ := (h1 j hj).1.live
    exact ⟨k3, i3, e ▸ h3.at_⟩
  have hb := (h1 k hkl).1
  have htl : (bl.take (k + 1)).length = k + 1 := by rw [List.length_take]; omega
  refine chain_bk hd4 (by rw [List.length_append, htl, hlen2]; omega) hp (fun j hj => ?_)
  rw [List.length_append, htl] at hj
  have hnf : ∀ i (hi : i < bl.length), i ≤ k → ∀ z ∈ bl.drop (k + 1), pOff z ≠ pOff bl[i] := fun i hi hik z hz => by
    obtain ⟨j2, hj2, hj3, rfl⟩ := hin z hz
    exact nodup_off hnd hj2 hi (by omega)
  rcases Nat.lt_trichotomy j k with hjk | hjk | hjk
  · have e1 : (bl.take (k + 1) ++ bl2)[j]'(by rw [List.length_append, htl]; exact hj) = bl[j]'(by omega) := by rw [List.getElem_append_left (by omega), List.getElem_take]
    have e2 : (bl.take (k + 1) ++ bl2).getD (j + 1) 0 = bl.getD (j + 1) 0 := by
      rw [List.getD_eq_getElem?_getD, List.getD_eq_getElem?_getD, List.getElem?_append_left (by omega), List.getElem?_take, if_pos (by omega)]
    rw [e1, e2]
    exact pub_bk hd hb hA hfr h96 (h1 j (by omega)).1 (nodup_off hnd (by omega) hkl (by omega)) (hnf j (by omega) (by omega))
  · subst hjk
    have e1 : (bl.take (j + 1) ++ bl2)[j]'(by rw [List.length_append, htl]; exact hj) = bl[j]'(by omega) := by rw [List.getElem_append_left (by omega), List.getElem_take]
    have e2 : (bl.take (j + 1) ++ bl2).getD (j + 1) 0 = bl2.headD 0 := by
      rw [List.getD_eq_getElem?_getD, List.getElem?_append_right (by omega), htl, Nat.sub_self]
      cases bl2 <;> rfl
    rw [e1, e2]
    exact link_bk hd hb hq2 hA hfr h96 (hnf j hkl (Nat.le_refl _))
  · obtain ⟨i, rfl⟩ : ∃ i, j = k + 1 + i := ⟨j - (k + 1), by omega⟩
    have hi : i < bl2.length := by omega
    have e1 : (bl.take (k + 1) ++ bl2)[k + 1 + i]'(by rw [List.length_append, htl]; exact hj) = bl2[i] := by
      have h9 : (bl.take (k + 1) ++ bl2)[k + 1 + i]? = some bl2[i] := by
        rw [List.getElem?_append_right (by omega), htl, show k + 1 + i - (k + 1) = i by omega, List.getElem?_eq_getElem hi]
      exact Option.some.inj ((List.getElem?_eq_getElem _).symm.trans h9)
    have e2 : (bl.take (k + 1) ++ bl2).getD (k + 1 + i + 1) 0 = bl2.getD (i + 1) 0 := by
      rw [List.getD_eq_getElem?_getD, List.getD_eq_getElem?_getD, List.getElem?_append_right (by omega), htl, show k + 1 + i + 1 - (k + 1) = i + 1 by omega]
    have e3 : p.drop (456 * (k + 1 + i)) = (p.drop (456 * (k + 1))).drop (456 * i) := by rw [List.drop_drop, show 456 * (k + 1) + 456 * i = 456 * (k + 1 + i) by omega]
    have hmem : pOff bl2[i] ∈ bl2.map pOff := List.mem_map.2 ⟨bl2[i], List.getElem_mem hi, rfl⟩
    rw [e1, e2, e3]
    refine pub_bk hd hb hA hfr h96 (h2 i hi) (fun e => (h1 k hkl).2 (e ▸ hmem)) (fun z hz e => ?_)
    obtain ⟨j2, hj2, _, rfl⟩ := hin z hz
    exact (h1 j2 hj2).2 (e ▸ hmem)
end
end Go.Proofs.YtpihhlbfpbngaaaGreatDoor
