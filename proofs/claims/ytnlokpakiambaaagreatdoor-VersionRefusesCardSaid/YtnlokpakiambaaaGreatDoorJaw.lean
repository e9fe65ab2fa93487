/- The walks and laws that the claim leans on, part 23. -/
import Derived.Test.YtnlokpakiambaaaGreatDoorJar
import Derived.Test.YtnlokpakiambaaaGreatDoorJav
set_option maxRecDepth 100000
set_option maxHeartbeats 16000000
namespace Go.Proofs.YtnlokpakiambaaaGreatDoor
open Go.Lib (hid)
section
open Go.RowKit
def zerW (o k : Nat) : List (Nat × Nat) := (List.range k).map fun j => (o + 8 * j, 0)
theorem zerW_succ (o k : Nat) : zerW o (k + 1) = zerW o k ++ [(o + 8 * k, 0)] := by simp [zerW, List.range_succ]
theorem zerW_len (o k : Nat) : (zerW o k).length = k := by simp [zerW]
theorem zerW_mem {o k : Nat} {e : Nat × Nat} (h : e ∈ zerW o k) : ∃ j, j < k ∧ e = (o + 8 * j, 0) := by
 obtain ⟨j, hj, rfl⟩ := List.mem_map.1 h
 exact ⟨j, List.mem_range.1 hj, rfl⟩
theorem zero_any {a : DA} {L T : Nat} {w : World} {S : Fp} {cur : Nat → Nat} (h : Dev a L T w S cur 0) (hp : Pay w) (g : Nat) (hcs : Array Value) (hB : Blk w g 172 hcs) (hc0 : hcs[0]? = some (memV a)) (hgS : ¬ S g) (p cl O : Nat) (hc : cl < 5) (hp0 : p ≠ 0) (hO : pOff p = O) (hOL : O + 8 * payW cl ≤ 64 * L) (hT : T + 200 ≤ 1000000000) :
  Calls Tryz.prog 300 #[.pointer (some ⟨g, 0, none⟩), .int .u64 (p : Int), .int .i64 (cl : Int)] w (RetDev a L (T + 200) w S (wrS cur (zerW O (payW cl))) 0 (.int .i64 0)) := by
 have hL : L ≤ 4096 := by obtain ⟨ls, exe, per, cs, lsC, hdc, hnt⟩ := h; exact hdc.hL
 have hO8 : O % 8 = 0 := by rw [← hO]; unfold pOff; omega
 have HD := hid h
 have HBB := hid hB
 have hc0' : w.cell? ⟨g, 0, none⟩ = some (memV a) := (hB.cell 0).trans hc0
 have HC0 := hid hc0
 obtain ⟨i0, hi0, hz0, hz1, hz2⟩ := info_parts infoWrite
 have HWo := hid (szWords_any cl hc w hp)
 have hpay := pay_le cl
 have HAt : Hid (∀ j, j < payW cl → ∀ W, Calls Tryz.prog 24 #[.int .u64 (p : Int), .int .i64 (j : Int)] W fun e w' => e = .returned (.int .u64 ((O + 8 * j : Nat) : Int)) ∧ W = w') := hid (fun j hj W => by
  have h1 := at_any p j (by omega) W
  have h2 : pAt p j = O + 8 * j := by unfold pAt; rw [if_neg (by omega), hO]
  rw [h2] at h1
  exact h1)
 have HZs := hid (fun k => zerW_succ O k)
 have HB0 : Hid (Below w.heap.size w w) := Below.refl _ _
 have HO0 : Hid (w.ownsRow w.heap.size 90 2 (.slice none 0 0) 0 (wrCells (zerW O 0))) := World.ownsRow_nil _ _ _ _
 have hm1 : 0 < payW cl := by omega
 have HRun : Hid (∀ W A m c p', Below w.heap.size w W → W.ownsRow w.heap.size 211 3 (.slice A m c) m (insCells p') → IsStores (zerW O (payW cl)) p' → Calls Tryz.prog 74 #[.slice A m c, memV a] W (RetDev a L (T + 200) W S (wrS cur (zerW O (payW cl))) 0 (.int .i64 0))) := hid (fun W A m c p' hW ho hp' => by
  refine (run_stores (h.below hW) ho h.lt hp' (fun e he => ?_) (by rw [zerW_len]; omega) (by rw [zerW_len]; omega)).mono ?_
  ·obtain ⟨j, hj, rfl⟩ := zerW_mem he
   exact ⟨by show (O + 8 * j) % 8 = 0; omega, by show O + 8 * j < 64 * L; omega, by show 0 < _; omega⟩
  ·rintro e w' ⟨he, S', hd, hc, hg⟩
   exact ⟨he, S', hd.more (by rw [zerW_len]; omega) (by omega), hc, hg⟩)
 clear h hB hp hO hp0 hc0 hc
 generalize payW cl = q at *
 unfold memV at *
 go_enter Tryz.func300, Tryz.ntmps300
 go_wp2_with (go_at_call 95; refine HWo.out.mono ?_; rintro e w1 ⟨rfl, rfl⟩)
 go_loopw [7, 11] (fun v i wr => ∃ (k : Nat) (A1 : Option Addr) (m1 c1 : Nat), k ≤ q ∧ i = .int .i64 k ∧ v = .slice A1 m1 c1 ∧ m1 = k ∧ Hid (wr.ownsRow w.heap.size 90 2 (.slice A1 m1 c1) m1 (wrCells (zerW O k))) ∧ Hid (Below w.heap.size w wr)) (fun _ i _ => q - (intOf i).toNat)
 case atStart => exact ⟨0, _, _, _, Nat.zero_le _, rfl, rfl, rfl, HO0, HB0⟩
 case round =>
  clear HB0 HO0 hc0'
  obtain ⟨k, A1, m1, c1, hk, rfl, rfl, hm1', HO, H⟩ := hrel
  by_cases hlt : k < q
  ·have hz5 : (0 : Int) ≤ (k : Int) := by omega
   have hz6 : (k : Int) < (q : Int) := by omega
   have hm2 : m1 ≤ 60 := by omega
   have HM := hid hm1'
   have HA := hid (HAt.out k hlt)
   have HEQ : Hid (wrCells (zerW O k) ++ [.int .u64 ((O + 8 * k : Nat) : Int), .int .u64 0] = wrCells (zerW O (k + 1))) := hid (by rw [HZs.out]; simp [wrCells])
   have hq8 : O + 8 * k < 9000000000 := by omega
   generalize O + 8 * k = y at *
   have HLE := hid H.out.size
   have HOD := hid (HO.out.alloc (.cells #[.int .u64 (y : Int), .int .u64 0] 90))
   have HBD := hid (H.out.alloc H.out.size (.cells #[.int .u64 (y : Int), .int .u64 0] 90))
   clear H HO hm1'
   go_wp2_with (first
    | (go_at_call 24; refine (HA.out _).mono ?_; rintro e w1 ⟨rfl, rfl⟩)
    | (at_builtin; refine wpList_app _ (.tmp 14) (.tmp 19) 68 rfl rfl w.heap.size 90 i0 _ 2 16 Tryz.underlying68 hi0 hz0 hz1 hz2 rfl ?q1 (.slice A1 m1 c1) m1 (wrCells (zerW O k)) rfl HOD.out (wr.heap.size + 1) (some ⟨wr.heap.size, 0, none⟩) 1 1 [.int .u64 (y : Int), .int .u64 0] rfl ?q5 ?q6 ?q2 ?q3 ?q4 ?_; (case q1 => omega); (case q5 => exact row_reads_at _ _ rfl _ 1 2 90 _ rfl rfl); (case q6 => (intro u hu; simp at hu; rcases hu with rfl | rfl <;> rfl)); (case q2 => (unfold maxLen; omega)); (case q3 => omega); (case q4 => (have := HLE.out; simp; omega)); intro A3 n3 c3 w8 hn3 ho3 hg3 hb3; have HN3 := hid hn3; have HO3 := hid ho3; have HB3 := hid (HBD.out.trans hb3); clear hn3 ho3 hg3 hb3)
    | go_in)
   have b1 : n3 = k + 1 := by have := HN3.out; have := HM.out; omega
   have HO4 : Hid (w8.ownsRow w.heap.size 90 2 (.slice A3 n3 c3) n3 (wrCells (zerW O (k + 1)))) := hid (by have h := HO3.out; rw [HEQ.out] at h; exact h)
   go_roundw
   case rel =>
    first
     | exact ⟨k + 1, _, _, _, by omega, by go_num, rfl, b1, HO4, HB3⟩
     | (
       repeat apply Exists.intro
       refine ⟨?_, rfl⟩
       exact ⟨k + 1, _, _, _, by omega, by go_num, rfl, b1, HO4, HB3⟩)
   case measure => simp [intOf]; omega
  ·obtain rfl : q = k := by omega
   subst hm1'
   have HLE := hid H.out.size
   have HSt : Hid (∀ W, Below wr.heap.size wr W → Calls Tryz.prog 73 #[.slice A1 m1 c1] W (RetProg w (IsStores (zerW O m1)))) := hid (fun W hW => by
    refine (stores_small A1 m1 c1 (zerW O m1) W (((Reads.of_own HO.out).below hW).more hW.size) hm1 (by omega) (fun e he => by obtain ⟨j, hj, rfl⟩ := zerW_mem he; show O + 8 * j < _; omega)).mono ?_
    intro e w' hr
    exact RetProg.back (H.out.trans (hW.mono H.out.size)) hr)
   have HKr := hid (HBB.out.below H.out HBB.out.lt)
   clear HO HAt HZs HD
   go_wp2_with fail
   have hcw : wr.cell? ⟨g, 0, none⟩ = some (.iface 41 (.pointer (some ⟨a.th 0, 0, none⟩))) := (HKr.out.cell 0).trans HC0.out
   refine wp_region_script (fun w' => w'.cell? ⟨g, 0, none⟩ = some (.iface 41 (.pointer (some ⟨a.th 0, 0, none⟩)))) 7 [(true, 0), (true, 2), (true, 3), (true, 4), (true, 5), (false, 1), (false, 6)] (by kernel_rfl) (by kernel_rfl) hcw ?_
   clear hcw
   refine wpScript_take (.slice A1 m1 c1) (by rfl) (by rfl) (fun w' hS => ?_) ?_
   ·go_simp
   simp only [zA, zB, Act.put, zD, zE, zF]
   refine wpScript_take (.pointer (some ⟨g, 0, none⟩)) (by rfl) (by rfl) (fun w' hS => ?_) ?_
   ·go_simp
   simp only [zA, zB, zC, Act.put, zD, zE, zF]
   refine wpScript_take (.pointer (some ⟨g, 0, none⟩)) (by rfl) (by rfl) (fun w' hS => ?_) ?_
   ·go_simp
   simp only [zA, zB, zC, Act.put, zD, zE, zF]
   refine wpScript_take (.pointer (some ⟨g, 0, none⟩)) (by rfl) (by rfl) (fun w' hS => ?_) ?_
   ·go_simp
   simp only [zA, zB, zC, Act.put, zD, zE, zF]
   refine wpScript_take (.iface 41 (.pointer (some ⟨a.th 0, 0, none⟩))) (by rfl) (by rfl) (fun w' hS => ?_) ?_
   ·go_simp
   simp only [zA, zB, zC, Act.put, zD, zE, zF]
   refine wpScript_do (by rfl) ?_
   go_wp2_with fail
   refine (HSt.out _ (Below.refl _ _).drew).mono ?_
   rintro e w2 ⟨A2, m2, c2, p2, rfl, hp2, ho2, hb2⟩
   have HR2 := hid (HRun.out w2 A2 m2 c2 p2 hb2 ho2 hp2)
   have HB2 := hid hb2
   have hk2 := HBB.out.below hb2 HBB.out.lt
   have HC2 := hid ((hk2.cell 0).trans HC0.out)
   have HK2 := hid hk2
   clear hp2 ho2 hb2 hk2 HSt
   go_wp2_with fail
   refine ⟨HC2.out, ?_⟩
   refine wpScript_do (by rfl) ?_
   go_wp2_with fail
   refine HR2.out.mono ?_
   rintro e w3 ⟨rfl, S3, hd3, hc3, hg3⟩
   have HE := hid (show Dev a L (T + 200) w3 S3 (wrS cur (zerW O m1)) 0 ∧ Chg S w w3 ∧ Grew S S3 w from ⟨hd3, (Chg.of_below HB2.out).trans hc3 (Grew.refl _ _), fun k hk => (hg3 k hk).imp id (fun h => Nat.le_trans HB2.out.size h)⟩)
   have HC3 := hid (((hc3.blk HK2.out hgS).cell 0).trans HC0.out)
   clear hd3 hc3 hg3 HR2 hgS
   go_wp2_with fail
   refine ⟨HC3.out, ?_⟩
   show wpList _ _ _ _ _ _
   simp only [List.drop_succ_cons, List.drop_zero]
   go_wp2_with fail
   refine NoPanic.normal ?_
   go_wp2
   go_ret
   exact ⟨rfl, S3, HE.out.1, HE.out.2.1, HE.out.2.2⟩
end
section
open Go.RowKit
theorem pick_any {a : DA} {s K : Nat} {x : PA} {cs : Nat → CS} {w : World} (h : Plc a s K x cs w) (_hK : K ≤ 128) (_hs : s ≤ 100000) (hf : ∃ k, k < K ∧ (cs k).dv = false) :
  Calls Tryz.prog 307 #[.pointer (some ⟨x.gs, 0, none⟩)] w fun e w' => ∃ k, k < K ∧ (cs k).dv = false ∧ e = .returned (.tuple #[.pointer (some ⟨x.pl, x.po + k * 4, none⟩), .int .i64 0]) ∧ w = w' := by
 obtain ⟨c, _, f1⟩ := h.sets
 have HP := hid h
 have HF := hid hf
 clear h hf
 obtain ⟨gs, pl, po⟩ := x
 dsimp only at *
 go_enter Tryz.func307, Tryz.ntmps307
 go_wp2
 go_loopw [15] (fun i wr => ∃ (k : Nat), k ≤ K ∧ i = .int .i64 k ∧ Hid (∀ j, j < k → (cs j).dv = true) ∧ w = wr) (fun i _ => K - (intOf i).toNat)
 case atStart => exact ⟨0, Nat.zero_le _, rfl, hid (fun j hj => by omega), rfl⟩
 case round =>
  obtain ⟨k, hk, rfl, HA, rfl⟩ := hrel
  by_cases hlt : k < K
  ·obtain ⟨f0, f2, f3, b4, f4⟩ := HP.out.facts (k := k) hlt
   dsimp only at f0 f2 f3 f4
   have hz5 : (0 : Int) ≤ (k : Int) := by omega
   have hz6 : (k : Int) < (K : Int) := by omega
   unfold CS.cls at f2
   by_cases hd : (cs k).dv = true
   ·rw [if_pos hd] at f2
    have hq : decide (((cs k).cl : Int) < 0) = false := decide_eq_false (by omega)
    have HA2 : Hid (∀ j, j < k + 1 → (cs j).dv = true) := hid (fun j hj => by
     by_cases e : j = k
     ·rw [e]; exact hd
     ·exact HA.out j (by omega))
    generalize (cs k).cl = v at *
    clear hd HA
    go_wp2
    go_roundw
    case rel =>
     first
      | exact ⟨k + 1, by omega, by go_num, HA2, trivial⟩
      | exact ⟨k + 1, by omega, by go_num, HA2, rfl⟩
      | (
        repeat apply Exists.intro
        refine ⟨?_, rfl⟩
        exact ⟨k + 1, by omega, by go_num, HA2, rfl⟩)
    case measure => simp [intOf]; omega
   ·rw [if_neg hd] at f2
    have HD : Hid ((cs k).dv = false) := hid (by simpa using hd)
    clear hd HA
    go_wp2
    go_ret2
    exact ⟨k, hlt, HD.out, rfl, rfl⟩
  ·exfalso
   obtain ⟨k0, h1, h2⟩ := HF.out
   have := HA.out k0 (by omega)
   rw [h2] at this
   cases this
end
section
open Go.RowKit Go.Maps
def FreeP (st : Nat → Nat) (n j : Nat) (z : Int) : Prop := (z = -1 ∧ ∀ i, j ≤ i → i < n → st i ≠ 176) ∨ ∃ i : Nat, z = (i : Int) ∧ j ≤ i ∧ i < n ∧ st i = 176 ∧ ∀ i', j ≤ i' → i' < i → st i' ≠ 176
theorem freeFrom_spec (V : Nat) : ∀ (n j : Nat), (freeFrom V n j = none ∧ ∀ i, j ≤ i → i < j + n → bitAt V i = true) ∨ ∃ i, freeFrom V n j = some i ∧ j ≤ i ∧ i < j + n ∧ bitAt V i = false ∧ ∀ i', j ≤ i' → i' < i → bitAt V i' = true
 | 0, j => .inl ⟨rfl, fun i h1 h2 => by omega⟩
 | n + 1, j => by
  cases hb : bitAt V j
  ·exact .inr ⟨j, by simp [freeFrom, hb], Nat.le_refl _, by omega, hb, fun i' h1 h2 => by omega⟩
  ·rcases freeFrom_spec V n (j + 1) with ⟨h1, h2⟩ | ⟨i, h1, h2, h3, h4, h5⟩
   ·refine .inl ⟨by simp [freeFrom, hb, h1], fun i h3 h4 => ?_⟩
    by_cases e : i = j
    ·rw [e]; exact hb
    ·exact h2 i (by omega) (by omega)
   ·refine .inr ⟨i, by simp [freeFrom, hb, h1], by omega, by omega, h4, fun i' h6 h7 => ?_⟩
    by_cases e : i' = j
    ·rw [e]; exact hb
    ·exact h5 i' (by omega) h7
theorem freeR_spec {cur : Nat → Nat} {ln cl g V : Nat} {bs : Nat → BK} (h : ChW cur ln cl g V bs) (j : Nat) : ∃ z : Int, freeR V cl j = .int .i64 z ∧ FreeP (fun i => (bs i).st) (perC cl) j z := by
 have hb : ∀ i, i < perC cl → bitAt V i = true → (bs i).st ≠ 176 := fun i hi hh => by
  have := h.bit i hi
  rw [hh] at this
  simpa using this.symm
 unfold freeR
 rcases freeFrom_spec V (perC cl - j) j with ⟨h1, h2⟩ | ⟨i, h1, h2, h3, h4, h5⟩
 ·rw [h1]
  exact ⟨-1, rfl, .inl ⟨rfl, fun i hi hn => hb i hn (h2 i hi (by omega))⟩⟩
 ·rw [h1]
  refine ⟨i, rfl, .inr ⟨i, rfl, h2, by omega, ?_, fun i' k1 k2 => hb i' (by omega) (h5 i' k1 k2)⟩⟩
  have := h.bit i (by omega)
  rw [h4] at this
  simpa using this.symm
section
variable {a : DA} {L T s n K : Nat} {x : HA} {cs : Nat → CS} {f : Nat → Option Nat} {N m b0 : Nat} {S : Fp} {cur : Nat → Nat} {w w' : World}
theorem DS.chw (h : DS a L T s n K x cs f N m b0 S cur w) {k : Nat} (hk : k < K) (hd : (cs k).dv = true) : ChW cur (s + 32 * k) (cs k).cl (cs k).g (cs k).V (cs k).bs := by
 have := h.ok k hk
 unfold CSok at this
 rw [hd] at this
 exact this
def fptr (s : Nat) (cs : Nat → CS) (kind k i : Nat) : Nat := pMk (blkO (s + 32 * k) (cs k).cl i) ((cs k).bs i).gen kind
def offO (s : Nat) (cs : Nat → CS) (k i : Nat) : Nat := blkO (s + 32 * k) (cs k).cl i
def WithP (s : Nat) (cs : Nat → CS) (f : Nat → Option Nat) (kind k : Nat) (v : Value) : Prop :=
 (v = .tuple #[.int .u64 0, .int .i64 5] ∧ ∀ i, i < perC (cs k).cl → ((cs k).bs i).st = 176 → f (offO s cs k i) ≠ none) ∨
 ∃ i, i < perC (cs k).cl ∧ ((cs k).bs i).st = 176 ∧ f (offO s cs k i) = none ∧ v = .tuple #[.int .u64 (fptr s cs kind k i : Int), .int .i64 0]
def witM (n : Nat) : Value → Nat
 | .int _ (.ofNat i) => n - i
 | _ => 0
theorem within_any (h : DS a L T s n K x cs f N m b0 S cur w) {k : Nat} (hk : k < K) (hd : (cs k).dv = true) (kind : Nat) (hk0 : 0 < kind) (hk8 : kind < 128) :
  Calls Tryz.prog 299 #[.pointer (some ⟨x.h, 0, none⟩), .int .i64 ((s + 32 * k : Nat) : Int), .int .u8 (kind : Int)] w fun e w' => ∃ v, e = .returned v ∧ WithP s cs f kind k v ∧ Below w.heap.size w w' := by
 have hC := h.chw hk hd
 have hL := h.hL
 have hln := h.line hk
 have HD := hid h
 have hper := per_le (cs k).cl
 have HOp : Hid (∀ W, Below w.heap.size w W → Calls Tryz.prog 116 #[memV a, .int .i64 ((s + 32 * k : Nat) : Int)] W fun e w' => e = .returned (.tuple #[chV a (s + 32 * k) (cs k).cl 0 (cs k).g, .int .i64 0]) ∧ Below W.heap.size W w') := hid (fun W hW => chOpen_cls (h.dev.below hW) (h.tab.below hW) (h.pay.below hW) _ _ _ hln hC.cls hC.g0 hC.g1 hC.hdr)
 have HFr : Hid (∀ j W, Below w.heap.size w W → Calls Tryz.prog 305 #[chV a (s + 32 * k) (cs k).cl 0 (cs k).g, .int .i64 ((j : Nat) : Int)] W fun e w' => ∃ z : Int, e = .returned (.int .i64 z) ∧ FreeP (fun i => ((cs k).bs i).st) (perC (cs k).cl) j z ∧ Below W.heap.size W w') := hid (fun j W hW => by
  obtain ⟨z, h1, h2⟩ := freeR_spec hC j
  refine (free_any (h.dev.below hW) (h.pay.below hW) _ _ _ _ j hln hC.cls hC.v64 hC.bits).mono ?_
  rintro e w' ⟨rfl, hb⟩
  exact ⟨z, by rw [h1], h2, hb⟩)
 have HPt : Hid (∀ i, i < perC (cs k).cl → ((cs k).bs i).st = 176 → ∀ W, Below w.heap.size w W → Calls Tryz.prog 306 #[chV a (s + 32 * k) (cs k).cl 0 (cs k).g, .int .i64 (i : Int), .int .u8 (kind : Int)] W fun e w' => e = .returned (.tuple #[.int .u64 (fptr s cs kind k i : Int), .int .i64 0]) ∧ Below W.heap.size W w') := hid (fun i hi hs W hW => by
  have hki : kindOf ((cs k).bs i) kind = kind := by unfold kindOf; rw [if_neg (by omega)]
  have hg := hC.good i hi
  have hg0 : 0 < ((cs k).bs i).gen := by unfold BK.good at hg; rw [if_pos hs] at hg; simp at hg; omega
  have hp := pointer_any (h.dev.below hW) (h.tab.below hW) (h.pay.below hW) (s + 32 * k) (cs k).cl (cs k).g (cs k).V i ((cs k).bs i) (hC.inn i hi) hg (.inl hs) (hC.bit i hi) hln hC.cls hi hC.v64 hC.bits (hC.word i hi) kind (by rw [hki]; exact hk0) (by rw [hki]; exact hk8) (by omega) hg0
  rw [hki] at hp
  exact hp)
 have HOf : Hid (∀ i, i < perC (cs k).cl → ∀ W, Calls Tryz.prog 68 #[.int .u64 (fptr s cs kind k i : Int)] W fun e w' => e = .returned (.int .u64 (offO s cs k i : Int)) ∧ W = w') := hid (fun i hi W => by
  have ho := off_lt hi
  have h1 : pOff (fptr s cs kind k i) = offO s cs k i := pMk_off (by unfold blkO; omega) (by unfold blkO; omega)
  have h2 := off_any (fptr s cs kind k i) W
  rw [h1] at h2
  exact h2)
 have HOl : Hid (∀ i, i < perC (cs k).cl → offO s cs k i < 18446744073709551616) := hid (fun i hi => by have := off_lt hi; unfold offO blkO; omega)
 have HEr : Hid (∀ W, Below w.heap.size w W → Calls Tryz.prog 27 #[.pointer (some ⟨a.th 0, 0, none⟩)] W fun e w' => e = .returned (.int .i64 0) ∧ W = w') := hid (fun W hW => thErr (h.dev.below hW))
 have hm := methErr (some ⟨a.th 0, 0, none⟩)
 have HB0 : Hid (Below w.heap.size w w) := Below.refl _ _
 clear h hC hL hln hd
 have HWn : Hid (∀ v, WithP s cs f kind k v = WithP s cs f kind k v) := hid (fun v => rfl)
 have hx0 : w.cell? ⟨x.h, 0, none⟩ = some (memV a) := HD.out.hs.heap.cell 0
 generalize hln : s + 32 * k = ln at *
 generalize hcl : (cs k).cl = cl at *
 generalize hcg : (cs k).g = cg at *
 have HE := hid (show s + 32 * k = ln ∧ (cs k).cl = cl ∧ (cs k).g = cg from ⟨hln, hcl, hcg⟩)
 clear hln hcl hcg
 unfold chV at *
 unfold memV at *
 go_enter Tryz.func299, Tryz.ntmps299
 go_wp2_with fail
 refine (HOp.out _ HB0.out).mono ?_
 rintro e w1 ⟨rfl, hb1⟩
 have HB1 := hid (hb1.alloc hb1.size (.cells #[.iface 41 (.pointer (some ⟨a.th 0, 0, none⟩)), .int .i64 (ln : Int), .int .i64 (cl : Int), .int .i64 0, .int .u16 (cg : Int)] 221))
 have HK1 := hid (Blk.new w1 221 #[.iface 41 (.pointer (some ⟨a.th 0, 0, none⟩)), .int .i64 (ln : Int), .int .i64 (cl : Int), .int .i64 0, .int .u16 (cg : Int)])
 have HLc := hid hb1.size
 clear hb1 HOp HB0
 go_wp2_with fail
 refine (HFr.out 0 _ HB1.out).mono ?_
 rintro e w2 ⟨z0, rfl, hz0, hb2⟩
 have HB2 := hid (HB1.out.trans (hb2.mono HB1.out.size))
 have HK2 := hid (HK1.out.below hb2 HK1.out.lt)
 have HZ0 := hid hz0
 have HI2 : Hid (Below w2.heap.size w2 w2) := Below.refl _ _
 clear hb2 hz0 HB1 HK1 hx0
 go_wp2
 go_loopw [10] (fun v wr => ∃ (j : Nat) (z : Int), v = .int .i64 z ∧ Hid (FreeP (fun i => ((cs k).bs i).st) (perC cl) j z) ∧ Hid (∀ i, i < j → i < perC cl → ((cs k).bs i).st = 176 → f (offO s cs k i) ≠ none) ∧ Hid (Below w2.heap.size w2 wr)) (fun v _ => witM (perC cl) v)
 case atStart => exact ⟨0, z0, rfl, HZ0, hid (fun i hi => by omega), HI2⟩
 case round =>
  clear HZ0 HI2
  obtain ⟨j, z, rfl, HZ, HA, H⟩ := hrel
  have HBr := hid (HB2.out.trans (H.out.mono HB2.out.size))
  have HKr := hid (HK2.out.below H.out HK2.out.lt)
  have hc0 : wr.cell? ⟨w1.heap.size, 0, none⟩ = some (.iface 41 (.pointer (some ⟨a.th 0, 0, none⟩))) := HKr.out.cell 0
  have hc1 : wr.cell? ⟨w1.heap.size, 1, none⟩ = some (.int .i64 (ln : Int)) := HKr.out.cell 1
  have hc2 : wr.cell? ⟨w1.heap.size, 2, none⟩ = some (.int .i64 (cl : Int)) := HKr.out.cell 2
  have hc3 : wr.cell? ⟨w1.heap.size, 3, none⟩ = some (.int .i64 0) := HKr.out.cell 3
  have hc4 : wr.cell? ⟨w1.heap.size, 4, none⟩ = some (.int .u16 (cg : Int)) := HKr.out.cell 4
  have hx0 : wr.cell? ⟨x.h, 0, none⟩ = some (.iface 41 (.pointer (some ⟨a.th 0, 0, none⟩))) := ((HD.out.hs.heap.below HBr.out HD.out.hs.heap.lt).cell 0)
  rcases HZ.out with ⟨rfl, hno⟩ | ⟨i, rfl, hji, hi, hst, hmin⟩
  ·have HNo : Hid (∀ i, i < perC cl → ((cs k).bs i).st = 176 → f (offO s cs k i) ≠ none) := hid (fun i hi hs => by
    by_cases hij : i < j
    ·exact HA.out i hij hi hs
    ·exact absurd hs (hno i (by omega) hi))
   have HEr2 := hid (HEr.out wr HBr.out)
   clear hno HA HZ HFr HPt hc0 hc1 hc2 hc3 hc4
   go_wp2_with (go_at_call 27; refine HEr2.out.mono ?_; rintro e w3 ⟨rfl, rfl⟩)
   go_ret2
   refine ⟨_, rfl, .inl ⟨rfl, ?_⟩, HBr.out⟩
   obtain ⟨_, h2, _⟩ := HE.out
   rw [h2]
   exact HNo.out
  ·have HP2 := hid (HPt.out i hi hst wr HBr.out)
   have HO2 := hid (HOf.out i hi)
   have HI := hid (show i < perC cl ∧ ((cs k).bs i).st = 176 ∧ offO s cs k i < 18446744073709551616 from ⟨hi, hst, HOl.out i hi⟩)
   have hz5 : decide ((0 : Int) ≤ (i : Int)) = true := decide_eq_true (by omega)
   have hz6 : (0 : Int) ≤ (i : Int) := by omega
   have hz7 : (i : Int) ≤ 62 := by omega
   have HM := hid (show j ≤ i ∧ ∀ i', j ≤ i' → i' < i → ((cs k).bs i').st ≠ 176 from ⟨hji, hmin⟩)
   clear hi hst hji hmin HZ
   generalize hfp : fptr s cs kind k i = fp at *
   have HFP := hid hfp
   clear hfp
   go_wp2_with fail
   refine HP2.out.mono ?_
   rintro e w3 ⟨rfl, hb3⟩
   have HB3 := hid (HBr.out.trans (hb3.mono HBr.out.size))
   have HB23 := hid (H.out.trans (hb3.mono H.out.size))
   have HK3 := hid (HKr.out.below hb3 HKr.out.lt)
   have HEr3 := hid (HEr.out w3 HB3.out)
   have hx0 : w3.cell? ⟨x.h, 0, none⟩ = some (.iface 41 (.pointer (some ⟨a.th 0, 0, none⟩))) := ((HD.out.hs.heap.below HB3.out HD.out.hs.heap.lt).cell 0)
   clear hb3 hc0 hc1 hc2 hc3 hc4 HP2 HPt
   have hx4 : w3.cell? ⟨x.h, 4, none⟩ = some (.map (some x.mr)) := ((HD.out.hs.heap.below HB3.out HD.out.hs.heap.lt).cell 4)
   have hlk := (HD.out.hs.res.chg ((Chg.of_below (S := Fp.no) HB3.out).drew) (fun h => h)).look HI.out.2.2
   generalize hof : offO s cs k i = o at *
   have HOE := hid hof
   clear hof
   go_wp2_with (go_at_call 27; refine HEr3.out.mono ?_; rintro e w4 ⟨rfl, rfl⟩)
   cases hf : f o with
   | none =>
    rw [hf] at hlk
    have hlk2 : (Instr.lookup 168 (.map (some x.mr)) (.int .u64 (o : Int)) true).run Tryz.prog w3.drew = .ok (.tuple #[.int .u64 0, .bool false]) w3.drew := hlk
    have HF := hid hf
    clear hlk hf
    go_region_with (go_at_call 68; refine (HO2.out _).mono ?_; rintro e w4 ⟨rfl, rfl⟩)
    all_goals
     go_wp2
     go_ret2
     refine ⟨_, rfl, .inr ⟨i, ?_, HI.out.2.1, by rw [HOE.out]; exact HF.out, by rw [HFP.out]; rfl⟩, HB3.out.drew⟩
     obtain ⟨_, h2, _⟩ := HE.out
     rw [h2]
     exact HI.out.1
   | some q =>
    rw [hf] at hlk
    have hlk2 : (Instr.lookup 168 (.map (some x.mr)) (.int .u64 (o : Int)) true).run Tryz.prog w3.drew = .ok (.tuple #[.int .u64 (q : Int), .bool true]) w3.drew := hlk
    have HA2 : Hid (∀ i', i' < i + 1 → i' < perC cl → ((cs k).bs i').st = 176 → f (offO s cs k i') ≠ none) := hid (fun i' h1 h2 h3 => by
     by_cases e1 : i' < j
     ·exact HA.out i' e1 h2 h3
     ·by_cases e2 : i' = i
      ·subst e2
       rw [HOE.out, hf]
       intro h; cases h
      ·exact absurd h3 (HM.out.2 i' (by omega) (by omega)))
    have hc0 : w3.cell? ⟨w1.heap.size, 0, none⟩ = some (.iface 41 (.pointer (some ⟨a.th 0, 0, none⟩))) := HK3.out.cell 0
    have hc1 : w3.cell? ⟨w1.heap.size, 1, none⟩ = some (.int .i64 (ln : Int)) := HK3.out.cell 1
    have hc2 : w3.cell? ⟨w1.heap.size, 2, none⟩ = some (.int .i64 (cl : Int)) := HK3.out.cell 2
    have hc3 : w3.cell? ⟨w1.heap.size, 3, none⟩ = some (.int .i64 0) := HK3.out.cell 3
    have hc4 : w3.cell? ⟨w1.heap.size, 4, none⟩ = some (.int .u16 (cg : Int)) := HK3.out.cell 4
    have HB3d := hid HB3.out.drew
    have HFn := hid (HFr.out (i + 1) w3.drew HB3d.out)
    have ei : ((i + 1 : Nat) : Int) = (i : Int) + 1 := by omega
    rw [ei] at HFn
    clear hlk hf HA HM ei
    go_region_with (go_at_call 68; refine (HO2.out _).mono ?_; rintro e w4 ⟨rfl, rfl⟩)
    all_goals
     go_wp2_with (go_at_call 305; refine HFn.out.mono ?_; rintro e w5 ⟨z5, rfl, hz5, hb5⟩; have HZ5 := hid hz5; have HB5 := hid (HB23.out.drew.trans (hb5.mono HB23.out.size)); clear hz5 hb5)
     have HMe : Hid (witM (perC cl) (.int .i64 z5) < witM (perC cl) (.int .i64 (i : Int))) := hid (by
      have hi := HI.out.1
      rcases HZ5.out with ⟨rfl, _⟩ | ⟨i2, rfl, h1, h2, _⟩
      ·show 0 < perC cl - i; omega
      ·show perC cl - i2 < perC cl - i; omega)
     go_roundw
     case rel =>
      first
       | exact ⟨i + 1, z5, rfl, HZ5, HA2, HB5⟩
       | (
         repeat apply Exists.intro
         refine ⟨?_, rfl⟩
         exact ⟨i + 1, z5, rfl, HZ5, HA2, HB5⟩)
     case measure => exact HMe.out
end
end
end Go.Proofs.YtnlokpakiambaaaGreatDoor
