/- The walks and laws that the claim leans on, part 25. -/
import Derived.Test.YtpihhlbfpbngaaaGreatDoorJax
import Derived.Lib.QuoteBits
namespace Go.Proofs.YtpihhlbfpbngaaaGreatDoor
open Go.RowKit
def zerW (o k : Nat) : List (Nat × Nat) := (List.range k).map fun j => (o + 8 * j, 0)
theorem zerW_succ (o k : Nat) : zerW o (k + 1) = zerW o k ++ [(o + 8 * k, 0)] := by simp [zerW, List.range_succ]
theorem zerW_len (o k : Nat) : (zerW o k).length = k := by simp [zerW]
theorem zerW_mem {o k : Nat} {e : Nat × Nat} (h : e ∈ zerW o k) : ∃ j, j < k ∧ e = (o + 8 * j, 0) := by
  obtain ⟨j, hj, rfl⟩ := List.mem_map.1 h
  exact ⟨j, List.mem_range.1 hj, rfl⟩
set_option maxRecDepth 100000 in
set_option maxHeartbeats 2000000 in
theorem zero_any {a : DA} {L T : Nat} {w : World} {S : Fp} {cur : Nat → Nat} (h : Dev a L T w S cur 0) (hp : Pay w) (g : Nat) (hcs : Array Value) (hB : Blk w g 151 hcs) (hc0 : hcs[0]? = some (memV a)) (hgS : ¬ S g) (p cl O : Nat) (hc : cl < 5) (hp0 : p ≠ 0) (hO : pOff p = O) (hOL : O + 8 * payW cl ≤ 64 * L) (hT : T + 200 ≤ 1000000000) :
    Calls Tryz.prog 161 #[.pointer (some ⟨g, 0, none⟩), .int .u64 (p : Int), .int .i64 (cl : Int)] w (RetDev a L (T + 200) w S (wrS cur (zerW O (payW cl))) 0 (.int .i64 0)) := by
  have hL : L ≤ 4096 := by obtain ⟨ls, exe, per, cs, lsC, hdc, hnt⟩ := h; exact hdc.hL
  have hO8 : O % 8 = 0 := by rw [← hO]; unfold pOff; omega
  have HD := Lib.hid h
  have HBB := Lib.hid hB
  have hc0' : w.cell? ⟨g, 0, none⟩ = some (memV a) := (hB.cell 0).trans hc0
  have HC0 := Lib.hid hc0
  obtain ⟨i0, hi0, hz0, hz1, hz2⟩ := info_parts infoWrite
  have HWo := Lib.hid (szWords_any cl hc w hp)
  have hpay := pay_le cl
  have HAt : Hid (∀ j, j < payW cl → ∀ W, Calls Tryz.prog 24 #[.int .u64 (p : Int), .int .i64 (j : Int)] W fun e w' => e = .returned (.int .u64 ((O + 8 * j : Nat) : Int)) ∧ W = w') := Lib.hid (fun j hj W => by
    have h1 := at_any p j (by omega) W
    have h2 : pAt p j = O + 8 * j := by unfold pAt; rw [if_neg (by omega), hO]
    rw [h2] at h1
    exact h1)
  have HZs := Lib.hid (fun k => zerW_succ O k)
  have HB0 : Hid (Below w.heap.size w w) := Below.refl _ _
  have HO0 : Hid (w.ownsRow w.heap.size 76 2 (.slice none 0 0) 0 (wrCells (zerW O 0))) := World.ownsRow_nil _ _ _ _
  have hm1 : 0 < payW cl := by omega
  have HRun : Hid (∀ W A m c p', Below w.heap.size w W → W.ownsRow w.heap.size 237 3 (.slice A m c) m (insCells p') → IsStores (zerW O (payW cl)) p' → Calls Tryz.prog 73 #[.slice A m c, memV a] W (RetDev a L (T + 200) W S (wrS cur (zerW O (payW cl))) 0 (.int .i64 0))) := Lib.hid (fun W A m c p' hW ho hp' => by
    refine (run_stores (h.below hW) ho h.lt hp' (fun e he => ?_) (by rw [zerW_len]; omega) (by rw [zerW_len]; omega)).mono ?_
    · obtain ⟨j, hj, rfl⟩ := zerW_mem he
      exact ⟨by show (O + 8 * j) % 8 = 0; omega, by show O + 8 * j < 64 * L; omega, by show 0 < _; omega⟩
    · rintro e w' ⟨he, S', hd, hc, hg⟩
      exact ⟨he, S', hd.more (by rw [zerW_len]; omega) (by omega), hc, hg⟩)
  clear h hB hp hO hp0 hc0 hc
  generalize payW cl = q at *
  unfold memV at *
  go_enter Tryz.func161, Tryz.ntmps161
  go_wp2_with (go_at_call 147; refine HWo.out.mono ?_; rintro e w1 ⟨rfl, rfl⟩)
  go_loopw [7, 11] (fun v i wr => ∃ (k : Nat) (A1 : Option Addr) (m1 c1 : Nat), k ≤ q ∧ i = .int .i64 k ∧ v = .slice A1 m1 c1 ∧ m1 = k ∧ Hid (wr.ownsRow w.heap.size 76 2 (.slice A1 m1 c1) m1 (wrCells (zerW O k))) ∧ Hid (Below w.heap.size w wr)) (fun _ i _ => q - (intOf i).toNat)
  case atStart => exact ⟨0, _, _, _, Nat.zero_le _, rfl, rfl, rfl, HO0, HB0⟩
  case round =>
    clear HB0 HO0 hc0'
    obtain ⟨k, A1, m1, c1, hk, rfl, rfl, hm1', HO, H⟩ := hrel
    by_cases hlt : k < q
    · have hz5 : (0 : Int) ≤ (k : Int) := by omega
      have hz6 : (k : Int) < (q : Int) := by omega
      have hm2 : m1 ≤ 60 := by omega
      have HM := Lib.hid hm1'
      have HA := Lib.hid (HAt.out k hlt)
      have HEQ : Hid (wrCells (zerW O k) ++ [.int .u64 ((O + 8 * k : Nat) : Int), .int .u64 0] = wrCells (zerW O (k + 1))) := Lib.hid (by rw [HZs.out]; simp [wrCells])
      have hq8 : O + 8 * k < 9000000000 := by omega
      generalize O + 8 * k = y at *
      have HLE := Lib.hid H.out.size
      have HOD := Lib.hid (HO.out.alloc (.cells #[.int .u64 (y : Int), .int .u64 0] 76))
      have HBD := Lib.hid (H.out.alloc H.out.size (.cells #[.int .u64 (y : Int), .int .u64 0] 76))
      clear H HO hm1'
      go_wp2_with (first
        | (go_at_call 24; refine (HA.out _).mono ?_; rintro e w1 ⟨rfl, rfl⟩)
        | (at_builtin; refine wpList_app _ (.tmp 14) (.tmp 19) 69 rfl rfl w.heap.size 76 i0 _ 2 16 Tryz.underlying69 hi0 hz0 hz1 hz2 rfl ?q1 (.slice A1 m1 c1) m1 (wrCells (zerW O k)) rfl HOD.out (wr.heap.size + 1) (some ⟨wr.heap.size, 0, none⟩) 1 1 [.int .u64 (y : Int), .int .u64 0] rfl ?q5 ?q6 ?q2 ?q3 ?q4 ?_; (case q1 => omega); (case q5 => exact row_reads_at _ _ rfl _ 1 2 76 _ rfl rfl); (case q6 => (intro u hu; simp at hu; rcases hu with rfl | rfl <;> rfl)); (case q2 => (unfold maxLen; omega)); (case q3 => omega); (case q4 => (have := HLE.out; simp; omega)); intro A3 n3 c3 w8 hn3 ho3 hg3 hb3; have HN3 := Lib.hid hn3; have HO3 := Lib.hid ho3; have HB3 := Lib.hid (HBD.out.trans hb3); clear hn3 ho3 hg3 hb3)
        | go_in)
      have b1 : n3 = k + 1 := by have := HN3.out; have := HM.out; omega
      have HO4 : Hid (w8.ownsRow w.heap.size 76 2 (.slice A3 n3 c3) n3 (wrCells (zerW O (k + 1)))) := Lib.hid (by have h := HO3.out; rw [HEQ.out] at h; exact h)
      go_roundw
      case rel =>
        first
          | exact ⟨k + 1, _, _, _, by omega, by go_num, rfl, b1, HO4, HB3⟩
          | (repeat apply Exists.intro
             refine ⟨?_, rfl⟩
             exact ⟨k + 1, _, _, _, by omega, by go_num, rfl, b1, HO4, HB3⟩)
      case measure => simp [intOf]; omega
    · obtain rfl : q = k := by omega
      subst hm1'
      have HLE := Lib.hid H.out.size
      have HSt : Hid (∀ W, Below wr.heap.size wr W → Calls Tryz.prog 71 #[.slice A1 m1 c1] W (RetProg w (IsStores (zerW O m1)))) := Lib.hid (fun W hW => by
        refine (stores_small A1 m1 c1 (zerW O m1) W (((Reads.of_own HO.out).below hW).more hW.size) hm1 (by omega) (fun e he => by obtain ⟨j, hj, rfl⟩ := zerW_mem he; show O + 8 * j < _; omega)).mono ?_
        intro e w' hr
        exact RetProg.back (H.out.trans (hW.mono H.out.size)) hr)
      have HKr := Lib.hid (HBB.out.below H.out HBB.out.lt)
      clear HO HAt HZs HD
      go_wp2_with fail
      have hcw : wr.cell? ⟨g, 0, none⟩ = some (.iface 35 (.pointer (some ⟨a.th 0, 0, none⟩))) := (HKr.out.cell 0).trans HC0.out
      refine wp_region_script (fun w' => w'.cell? ⟨g, 0, none⟩ = some (.iface 35 (.pointer (some ⟨a.th 0, 0, none⟩)))) 7 [(true, 0), (true, 2), (true, 3), (true, 4), (true, 5), (false, 1), (false, 6)] (by kernel_rfl) (by kernel_rfl) hcw ?_
      clear hcw
      refine wpScript_take (.slice A1 m1 c1) (by rfl) (by rfl) (fun w' hS => ?_) ?_
      · go_simp
      simp only [zA, zB, Act.put, zD, zE, zF]
      refine wpScript_take (.pointer (some ⟨g, 0, none⟩)) (by rfl) (by rfl) (fun w' hS => ?_) ?_
      · go_simp
      simp only [zA, zB, zC, Act.put, zD, zE, zF]
      refine wpScript_take (.pointer (some ⟨g, 0, none⟩)) (by rfl) (by rfl) (fun w' hS => ?_) ?_
      · go_simp
      simp only [zA, zB, zC, Act.put, zD, zE, zF]
      refine wpScript_take (.pointer (some ⟨g, 0, none⟩)) (by rfl) (by rfl) (fun w' hS => ?_) ?_
      · go_simp
      simp only [zA, zB, zC, Act.put, zD, zE, zF]
      refine wpScript_take (.iface 35 (.pointer (some ⟨a.th 0, 0, none⟩))) (by rfl) (by rfl) (fun w' hS => ?_) ?_
      · go_simp
      simp only [zA, zB, zC, Act.put, zD, zE, zF]
      refine wpScript_do (by rfl) ?_
      go_wp2_with fail
      refine (HSt.out _ (Below.refl _ _).drew).mono ?_
      rintro e w2 ⟨A2, m2, c2, p2, rfl, hp2, ho2, hb2⟩
      have HR2 := Lib.hid (HRun.out w2 A2 m2 c2 p2 hb2 ho2 hp2)
      have HB2 := Lib.hid hb2
      have hk2 := HBB.out.below hb2 HBB.out.lt
      have HC2 := Lib.hid ((hk2.cell 0).trans HC0.out)
      have HK2 := Lib.hid hk2
      clear hp2 ho2 hb2 hk2 HSt
      go_wp2_with fail
      refine ⟨HC2.out, ?_⟩
      refine wpScript_do (by rfl) ?_
      go_wp2_with fail
      refine HR2.out.mono ?_
      rintro e w3 ⟨rfl, S3, hd3, hc3, hg3⟩
      have HE := Lib.hid (show Dev a L (T + 200) w3 S3 (wrS cur (zerW O m1)) 0 ∧ Chg S w w3 ∧ Grew S S3 w from ⟨hd3, (Chg.of_below HB2.out).trans hc3 (Grew.refl _ _), fun k hk => (hg3 k hk).imp id (fun h => Nat.le_trans HB2.out.size h)⟩)
      have HC3 := Lib.hid (((hc3.blk HK2.out hgS).cell 0).trans HC0.out)
      clear hd3 hc3 hg3 HR2 hgS
      go_wp2_with fail
      refine ⟨HC3.out, ?_⟩
      show wpList _ _ _ _ _ _
      simp only [List.drop_succ_cons, List.drop_zero]
      go_wp2_with fail
      refine NoPanic.normal ?_
      go_wp2
      go_ret
      exact ⟨rfl, S3, HE.out.1, HE.out.2.1, HE.out.2.2⟩
end Go.Proofs.YtpihhlbfpbngaaaGreatDoor
namespace Go.Proofs.YtpihhlbfpbngaaaGreatDoor
open Go.RowKit Go.Maps
def csN : CS := ⟨false, 0, 1, 0, fun _ => ⟨1, 0, 176⟩⟩
theorem setIs_plc {a : DA} {s K base g : Nat} {w : World} (h : SetIs a s K w base g) (h1 : 1 ≤ K) : ∃ pl, base ≤ pl ∧ Plc a s K ⟨g, pl, 0⟩ (fun _ => csN) w := by
  obtain ⟨A, m, c, hB, hm, ho⟩ := h
  subst hm
  rcases ho.2 with ⟨_, h0⟩ | ⟨pl, cap, cur, hv, hge, hb, h2, h3, h4, h5⟩
  · omega
  · injection hv with e1 e2 e3
    subst e1 e3
    refine ⟨pl, hge, ⟨_, hB⟩, cur, hb, fun k hk => ?_⟩
    obtain ⟨p0, p1, p2, p3⟩ := plCells_at s m k hk
    have hg : ∀ (j : Nat) (u : Value), (plCells s m)[j]? = some u → cur[0 + j]? = some u := fun j u hu => by
      rw [← h5] at hu
      rw [Nat.zero_add, ← Array.getElem?_toList]
      have hj := (List.getElem?_eq_some_iff.1 hu).1
      rw [List.length_take] at hj
      rw [List.getElem?_take_of_lt (by omega)] at hu
      exact hu
    refine ⟨hg _ _ p0, ?_, ?_, false, ?_⟩
    · rw [Nat.add_assoc]; exact hg _ _ p1
    · rw [Nat.add_assoc]; exact hg _ _ p2
    · rw [Nat.add_assoc]; exact hg _ _ p3
def RetHop (a : DA) (s n K : Nat) (w : World) (e : Ending) (w' : World) : Prop := ∃ x : HA, e = .returned (.tuple #[.pointer (some ⟨x.h, 0, none⟩), .int .i64 0]) ∧ HS a s n K x (fun _ => csN) (fun _ => none) 0 0 w' ∧ (w.heap.size ≤ x.h ∧ w.heap.size ≤ x.gs ∧ w.heap.size ≤ x.pl ∧ w.heap.size ≤ x.mr ∧ w.heap.size ≤ x.mh) ∧ Below w.heap.size w w'
set_option maxRecDepth 100000 in
set_option maxHeartbeats 4000000 in
theorem heapOpenS_any {a : DA} {L T : Nat} {w : World} {S : Fp} {cur : Nat → Nat} {F : Nat} (h : Dev a L T w S cur F) (ht : Tab w) (s n K : Nat) (hn : 32 ≤ n) (hs : s + n ≤ L) (hK : n / 32 = K) (hv : ∀ k, k < K → cur (8 * (s + 32 * k)) = freeW 1) :
    Calls Tryz.prog 139 #[memV a, .int .i64 (s : Int), .int .i64 (n : Int)] w (RetHop a s n K w) := by
  have HA := Lib.hid (arenaOpen_any h ht s n K hn hs hK hv)
  have hL : L ≤ 4096 := by obtain ⟨ls, exe, per, cs, lsC, hdc, hnt⟩ := h; exact hdc.hL
  have hmm1 : ∀ W, (Instr.makeMap 147 none).run Tryz.prog W = .ok (.map (some W.heap.size)) (W.alloc (.map #[] 0)) := fun _ => rfl
  have hmm2 : ∀ W, (Instr.makeMap 148 none).run Tryz.prog W = .ok (.map (some W.heap.size)) (W.alloc (.map #[] 0)) := fun _ => rfl
  have hK2 : K ≤ 128 := by omega
  have hK1 : 1 ≤ K := by omega
  clear h ht hv hK hn hs
  unfold memV at HA
  unfold memV
  go_enter Tryz.func139, Tryz.ntmps139
  go_wp2_with (first
    | (go_at_call 233; refine HA.out.mono ?_; rintro e w1 ⟨rfl, hset, hb1⟩; have HS1 := Lib.hid hset; have HB1 := Lib.hid hb1; have HL := Lib.hid (lines_any HS1.out hK2); clear hset hb1)
    | (go_at_call 197; refine HL.out.mono ?_; rintro e w2 ⟨A, m, c, l, rfl, hm, ho, hb2⟩; have HO := Lib.hid (Reads.of_own ho); have HS2 := Lib.hid (HS1.out.below hb2); have HB2 := Lib.hid (HB1.out.trans (hb2.mono HB1.out.size)); clear ho hb2)
    | go_in)
  have HW := Lib.hid (fun x => owner_any HS2.out hK2 x)
  clear HA HL HS1 HB1
  go_loopw [28] (fun i wr => ∃ (k : Nat), k ≤ m ∧ i = .int .i64 k ∧ w2 = wr) (fun i _ => m - (Go.RowKit.intOf i).toNat)
  case atStart => exact ⟨0, Nat.zero_le _, rfl, rfl⟩
  case round =>
    obtain ⟨k, hk, rfl, rfl⟩ := hrel
    by_cases hlt : k < m
    · obtain ⟨b, off, x, hA, hbB, f0⟩ := i_facts HO.out hlt
      subst hA
      have hz5 : (0 : Int) ≤ (k : Int) := by omega
      have hz6 : (k : Int) < (m : Int) := by omega
      go_wp2_with (first
        | (go_at_call 234; refine (HW.out _).mono ?_; rintro e w3 ⟨rfl, rfl⟩)
        | go_in)
      go_roundw
      case rel =>
        first
          | exact ⟨k + 1, by omega, by go_num, trivial⟩
          | exact ⟨k + 1, by omega, by go_num, rfl⟩
          | (repeat apply Exists.intro
             refine ⟨?_, rfl⟩
             exact ⟨k + 1, by omega, by go_num, rfl⟩)
      case measure => simp [Go.RowKit.intOf]; omega
    · obtain rfl : m = k := by omega
      go_wp2
      go_ret2
      have e9 : ((w2.alloc (.map #[] 0)).alloc (.map #[] 0)).heap.size = w2.heap.size + 1 + 1 := by simp
      have hb2 : Below w.heap.size w ((w2.alloc (.map #[] 0)).alloc (.map #[] 0)) := (HB2.out.alloc HB2.out.size _).alloc (by have := HB2.out.size; simp; omega) _
      obtain ⟨pl, hpl, hplc⟩ := setIs_plc HS2.out hK1
      have hsz := HB2.out.size
      have hb3 : ∀ V, Below w2.heap.size w2 (((w2.alloc (.map #[] 0)).alloc (.map #[] 0)).alloc V) := fun V => (((Below.refl _ w2).alloc (Nat.le_refl _) _).alloc (by simp) _).alloc (by simp; omega) _
      have hm1 : PMap ((w2.alloc (.map #[] 0)).alloc (.map #[] 0)) w2.heap.size 0 (fun _ => none) 0 := (PMap.new w2).chg ((Chg.refl Fp.no _).alloc _) (fun h => h)
      have hm2 := HMap.new (w2.alloc (.map #[] 0))
      refine ⟨⟨w2.heap.size + 1 + 1, w.heap.size, pl, 0, w2.heap.size, w2.heap.size + 1⟩, rfl, ⟨by rw [← e9]; exact Blk.new _ _ _, hplc.below (hb3 _), hm1.chg ((Chg.refl Fp.no _).alloc _) (fun h => h), ?_, ?_⟩, ⟨?_, Nat.le_refl _, ?_, ?_, ?_⟩, hb2.alloc (by rw [e9]; omega) _⟩
      · have := hm2.chg ((Chg.refl Fp.no _).alloc (.cells (heapCells a s n w.heap.size w2.heap.size (w2.heap.size + 1) false) 151)) (fun h => h)
        have e8 : (w2.alloc (.map #[] 0)).heap.size = w2.heap.size + 1 := by simp
        rw [e8] at this
        exact this
      · show w2.heap.size ≠ w2.heap.size + 1
        omega
      · show w.heap.size ≤ w2.heap.size + 1 + 1
        omega
      · show w.heap.size ≤ pl
        omega
      · exact hsz
      · show w.heap.size ≤ w2.heap.size + 1
        omega
end Go.Proofs.YtpihhlbfpbngaaaGreatDoor
namespace Go.Proofs.YtpihhlbfpbngaaaGreatDoor
open Go.RowKit
def freedB (b : BK) : BK := if b.gen = 65535 then ⟨65535, 0, 178⟩ else ⟨b.gen + 1, 0, 176⟩
def takenB (b : BK) (kind : Nat) : BK := ⟨b.gen, kind, 177⟩
theorem freedB_in {b : BK} (h : b.In) : (freedB b).In := by
  unfold freedB
  have := h.g
  split
  · exact ⟨by show 65535 < 65536; omega, by show 0 < 256; omega, by show 178 < 256; omega⟩
  · exact ⟨by show b.gen + 1 < 65536; omega, by show 0 < 256; omega, by show 176 < 256; omega⟩
theorem freedB_good (b : BK) : (freedB b).good = true := by
  unfold freedB
  split
  · simp [BK.good]
  · simp [BK.good]
theorem takenB_in {b : BK} (h : b.In) {kind : Nat} (hk : kind < 256) : (takenB b kind).In := ⟨h.g, hk, by show 177 < 256; omega⟩
theorem takenB_good {b : BK} (hg : b.good = true) (hs : b.st = 176) {kind : Nat} (h0 : 0 < kind) (h8 : kind < 128) : (takenB b kind).good = true := by
  unfold BK.good at hg
  rw [if_pos hs] at hg
  simp at hg
  simp [BK.good, takenB]
  exact ⟨⟨hg.1, by omega⟩, decide_eq_true (by omega)⟩
def updB (bs : Nat → BK) (i : Nat) (b : BK) : Nat → BK := fun j => if j = i then b else bs j
def tkB (bs : Nat → BK) (l : List (Nat × Nat)) : Nat → BK := l.foldl (fun c e => updB c e.1 (takenB (bs e.1) e.2)) bs
def drB (bs c : Nat → BK) (l : List Nat) : Nat → BK := l.foldl (fun c i => updB c i (freedB (bs i))) c
theorem tkB_snoc (bs : Nat → BK) (l : List (Nat × Nat)) (e : Nat × Nat) : tkB bs (l ++ [e]) = updB (tkB bs l) e.1 (takenB (bs e.1) e.2) := by simp [tkB]
theorem drB_snoc (bs c : Nat → BK) (l : List Nat) (i : Nat) : drB bs c (l ++ [i]) = updB (drB bs c l) i (freedB (bs i)) := by simp [drB]
theorem foldB_out {α : Type} (g : α → Nat) (v : α → BK) (i : Nat) : ∀ (l : List α) (c : Nat → BK), i ∉ l.map g → (l.foldl (fun c e => updB c (g e) (v e)) c) i = c i
  | [], _, _ => rfl
  | e :: l, c, h => by
    rw [List.foldl_cons, foldB_out g v i l _ (fun hh => h (by simp at hh ⊢; exact .inr hh))]
    unfold updB
    rw [if_neg (fun hh => h (by simp [hh]))]
theorem foldB_in {α : Type} (g : α → Nat) (v : α → BK) : ∀ (l : List α) (c : Nat → BK), (l.map g).Nodup → ∀ e ∈ l, (l.foldl (fun c e => updB c (g e) (v e)) c) (g e) = v e
  | [], _, _, _, h => by simp at h
  | x :: l, c, hn, e, he => by
    rw [List.map_cons, List.nodup_cons] at hn
    rw [List.foldl_cons]
    rcases List.mem_cons.1 he with rfl | he
    · rw [foldB_out g v _ l _ hn.1]
      simp [updB]
    · exact foldB_in g v l _ hn.2 e he
structure Bits (V cl : Nat) (bs : Nat → BK) : Prop where
  lt : V < 18446744073709551616
  bit : ∀ i, i < perC cl → bitAt V i = decide ((bs i).st ≠ 176)
theorem bitAt_test (V i : Nat) : bitAt V i = V.testBit i := by
  unfold bitAt
  rw [Nat.testBit_eq_decide_div_mod_eq]
  rcases Nat.mod_two_eq_zero_or_one (V / 2 ^ i) with h | h <;> simp [h]
theorem pow_lt64 {i : Nat} (h : i < 64) : 2 ^ i < 18446744073709551616 := by
  have h1 : (2 : Nat) ^ i ≤ 2 ^ 63 := Nat.pow_le_pow_right (by omega) (by omega)
  have h2 : (2 : Nat) ^ 63 = 9223372036854775808 := by decide
  omega
theorem bit_set {V i : Nat} (hV : V < 18446744073709551616) (hi : i < 64) : (V ||| 2 ^ i) < 18446744073709551616 ∧ ∀ j, bitAt (V ||| 2 ^ i) j = if j = i then true else bitAt V j := by
  refine ⟨Nat.or_lt_two_pow (n := 64) hV (pow_lt64 hi), fun j => ?_⟩
  rw [bitAt_test, bitAt_test, Nat.testBit_or, Nat.testBit_two_pow]
  by_cases e : j = i
  · subst e; simp
  · rw [if_neg e]
    simp
    omega
theorem bit_flip {V i : Nat} (hV : V < 18446744073709551616) (hi : i < 64) (hb : bitAt V i = true) : (V ^^^ 2 ^ i) < 18446744073709551616 ∧ ∀ j, bitAt (V ^^^ 2 ^ i) j = if j = i then false else bitAt V j := by
  refine ⟨Nat.xor_lt_two_pow (n := 64) hV (pow_lt64 hi), fun j => ?_⟩
  rw [bitAt_test, bitAt_test, Nat.testBit_xor, Nat.testBit_two_pow]
  rw [bitAt_test] at hb
  by_cases e : j = i
  · subst e; simp [hb]
  · rw [if_neg e]
    have : decide (i = j) = false := decide_eq_false (fun h => e h.symm)
    rw [this]
    simp
theorem Bits.take {V cl i kind : Nat} {bs : Nat → BK} {b : BK} (h : Bits V cl bs) (hi : i < perC cl) : Bits (V ||| 2 ^ i) cl (updB bs i (takenB b kind)) := by
  have hp := per_le cl
  obtain ⟨h1, h2⟩ := bit_set h.lt (i := i) (by omega)
  refine ⟨h1, fun j hj => ?_⟩
  rw [h2]
  unfold updB
  by_cases e : j = i
  · rw [if_pos e, if_pos e]; rfl
  · rw [if_neg e, if_neg e]; exact h.bit j hj
theorem Bits.drop {V cl i : Nat} {bs : Nat → BK} {b : BK} (h : Bits V cl bs) (hi : i < perC cl) (hs : (bs i).st = 177) : Bits (if (freedB b).st = 176 then V ^^^ 2 ^ i else V) cl (updB bs i (freedB b)) := by
  have hp := per_le cl
  have hb : bitAt V i = true := by rw [h.bit i hi, hs]; rfl
  obtain ⟨h1, h2⟩ := bit_flip h.lt (i := i) (by omega) hb
  by_cases hf : (freedB b).st = 176
  · rw [if_pos hf]
    refine ⟨h1, fun j hj => ?_⟩
    rw [h2]
    unfold updB
    by_cases e : j = i
    · rw [if_pos e, if_pos e, hf]; rfl
    · rw [if_neg e, if_neg e]; exact h.bit j hj
  · rw [if_neg hf]
    refine ⟨h.lt, fun j hj => ?_⟩
    unfold updB
    by_cases e : j = i
    · rw [if_pos e, e, hb]
      simp [hf]
    · rw [if_neg e]; exact h.bit j hj
theorem shl_one {i : Nat} (hi : i < 64) : IntKind.u64.wrap ((2 : Int) ^ i) = ((2 ^ i : Nat) : Int) := by
  have h := pow_lt64 hi
  have e : ((2 : Int) ^ i) = ((2 ^ i : Nat) : Int) := by push_cast; rfl
  rw [e, IntKind.wrap_u64]
  generalize (2 ^ i : Nat) = q at *
  omega
theorem two64 : (2 : Nat) ^ 64 = 18446744073709551616 := by decide
theorem u64_andNot_nat (V i : Nat) (hV : V < 18446744073709551616) (hi : i < 64) (hb : bitAt V i = true) : bits .andNot .u64 (V : Int) ((2 ^ i : Nat) : Int) = ((V ^^^ 2 ^ i : Nat) : Int) := by
  have h2 := pow_lt64 hi
  have hx := (bit_flip hV hi hb).1
  have h4 := two64
  have h5 : 2 ^ i < 2 ^ 64 := by omega
  show IntKind.u64.wrap ((BitVec.ofInt 64 (V : Int) &&& ~~~BitVec.ofInt 64 ((2 ^ i : Nat) : Int)).toNat : Int) = _
  rw [BitVec.toNat_and, BitVec.toNat_not, ofInt_u64 V hV, ofInt_u64 (2 ^ i) h2]
  have h6 : 2 ^ 64 - 1 - 2 ^ i = 2 ^ 64 - (2 ^ i + 1) := by omega
  have e : V &&& (2 ^ 64 - (2 ^ i + 1)) = V ^^^ 2 ^ i := by
    apply Nat.eq_of_testBit_eq
    intro j
    rw [Nat.testBit_and, Nat.testBit_xor, Nat.testBit_two_pow_sub_succ h5, Nat.testBit_two_pow]
    rw [bitAt_test] at hb
    by_cases e : i = j
    · subst e
      rw [hb]
      simp [hi]
    · have hd : decide (i = j) = false := decide_eq_false e
      rw [hd]
      by_cases h64 : j < 64
      · simp [h64]
      · have h7 : (2 : Nat) ^ 64 ≤ 2 ^ j := Nat.pow_le_pow_right (by omega) (by omega)
        have : V.testBit j = false := Nat.testBit_lt_two_pow (by omega)
        simp [this]
  rw [h6, e, IntKind.wrap_u64]
  generalize (V ^^^ 2 ^ i : Nat) = q at *
  omega
def tkW (ln cl : Nat) (bs : Nat → BK) (l : List (Nat × Nat)) : List (Nat × Nat) := l.map fun e => (64 * ln + 8 * offB cl e.1, (takenB (bs e.1) e.2).w)
def drW (ln cl : Nat) (bs : Nat → BK) (l : List Nat) : List (Nat × Nat) := l.map fun i => (64 * ln + 8 * offB cl i, (freedB (bs i)).w)
def chgW (ln cl : Nat) (bs : Nat → BK) (take : List (Nat × Nat)) (drop : List Nat) (V : Nat) : List (Nat × Nat) := tkW ln cl bs take ++ drW ln cl bs drop ++ [(64 * ln + 8, V)]
def actB (bs : Nat → BK) (take : List (Nat × Nat)) (drop : List Nat) : Nat → BK := drB bs (tkB bs take) drop
end Go.Proofs.YtpihhlbfpbngaaaGreatDoor
