/- The walks and laws that the claim leans on, part 5. -/
import Derived.Test.YtnlokpakiambaaaGreatDoorJad
set_option maxRecDepth 100000
set_option maxHeartbeats 16000000
namespace Go.Proofs.YtnlokpakiambaaaGreatDoor
open Go.Lib (hid)
section
open Go.RowKit Go.Maps
abbrev kU (x : Nat) : Lit := .int .u64 (x : Int)
theorem kU_inj {x y : Nat} (h : kU x = kU y) : x = y := by
 have : (x : Int) = (y : Int) := by simpa [kU] using h
 omega
section
variable {H : Type} {D0 : DataW H} {left : Lit → Bool} {ss : List Nat}
variable {P : Program} {k : TypeId} {R : Value → Option (DataW H × List MemPlace)} {w : World} {b n : Nat}
end
end
section
open Go.RowKit
def Ins.op : Ins → Nat
 | .st _ _ => 1
 | .fl _ => 2
 | .fe => 3
def Ins.o : Ins → Nat
 | .st o _ => o
 | .fl o => o
 | .fe => 0
def Ins.v : Ins → Nat
 | .st _ v => v
 | _ => 0
theorem Ins.cells_eq (i : Ins) : i.cells = [.int .u8 (i.op : Int), .int .u64 (i.o : Int), .int .u64 (i.v : Int)] := by cases i <;> rfl
theorem Ins.op_lt (i : Ins) : 1 ≤ i.op ∧ i.op ≤ 3 := by cases i <;> simp [Ins.op]
theorem Reads.plain {w : World} {B size n : Nat} {A : Option Addr} {xs : List Value} (h : Reads w B size A n xs) (hn : 0 < n) (hs : 0 < size) :
  ∃ b off, A = some ⟨b, off, none⟩ ∧ b < B ∧ ∀ j u, xs[j]? = some u → w.cell? ⟨b, off + j, none⟩ = some u := by
 obtain ⟨⟨b, off, spot⟩, hA, hb, hc⟩ := h.2 hn
 have hl : 0 < xs.length := by rw [h.1]; exact Nat.mul_pos hn hs
 have h0 := hc 0 _ (List.getElem?_eq_getElem hl)
 have hspot : spot = none := by simpa [Addr.add] using World.cell?_spot h0
 subst hspot
 refine ⟨b, off, hA, hb, fun j u hu => ?_⟩
 rw [← Go.WideShapes.add_plain]
 exact hc j u hu
theorem ins_facts {w : World} {B n : Nat} {A : Option Addr} {p : List Ins} (h : Reads w B 3 A n (insCells p)) {k : Nat} (hk : k < n) :
  ∃ (hl : k < p.length) (b off : Nat), A = some ⟨b, off, none⟩ ∧ b < B ∧
   w.cell? ⟨b, off + k * 3, none⟩ = some (.int .u8 ((p[k]).op : Int)) ∧ w.cell? ⟨b, off + k * 3 + 1, none⟩ = some (.int .u64 ((p[k]).o : Int)) ∧ w.cell? ⟨b, off + k * 3 + 2, none⟩ = some (.int .u64 ((p[k]).v : Int)) := by
 have hl : k < p.length := by have := h.1; rw [insCells_len] at this; omega
 obtain ⟨b, off, hA, hb, hc⟩ := h.plain (by omega) (by omega)
 have e := Ins.cells_eq p[k]
 refine ⟨hl, b, off, hA, hb, ?_, ?_, ?_⟩
 ·exact hc (k * 3) _ ((insCells_at p k 0 hl (by omega)).trans (by rw [e]; rfl))
 ·exact hc (k * 3 + 1) _ ((insCells_at p k 1 hl (by omega)).trans (by rw [e]; rfl))
 ·exact hc (k * 3 + 2) _ ((insCells_at p k 2 hl (by omega)).trans (by rw [e]; rfl))
theorem validP_any (A : Option Addr) (n c : Nat) (p : List Ins) (w : World) (h : Reads w w.heap.size 3 A n (insCells p)) (hn : n ≤ 1000000) :
  Calls Tryz.prog 113 #[.slice A n c] w fun e w' => e = .returned (.bool true) ∧ Below w.heap.size w w' := by
 have HR := hid h
 have HB0 : Hid (Below w.heap.size w w) := Below.refl _ _
 clear h
 go_enter Tryz.func113, Tryz.ntmps113
 go_wp2
 go_loopw [7] (fun i wr => ∃ (k : Nat), k ≤ n ∧ i = .int .i64 k ∧ Hid (Below w.heap.size w wr)) (fun i _ => n - (intOf i).toNat)
 case atStart => exact ⟨0, Nat.zero_le _, rfl, HB0⟩
 case round =>
  clear HB0
  obtain ⟨k, hk, rfl, H⟩ := hrel
  by_cases hlt : k < n
  ·obtain ⟨hl, b, off, hA, hbB, f0, f1, f2⟩ := ins_facts (HR.out.below H.out) hlt
   subst hA
   have ho := Ins.op_lt p[k]
   generalize (p[k]).op = op at *
   generalize (p[k]).o = o at *
   generalize (p[k]).v = v at *
   have hz0 : (0 : Int) ≤ (k : Int) := by omega
   have hz1 : (k : Int) < (n : Int) := by omega
   have e1 : decide ((op : Int) < 1) = false := decide_eq_false (by omega)
   have e2 : decide ((3 : Int) < (op : Int)) = false := decide_eq_false (by omega)
   have e3 : decide (3 < op) = false := decide_eq_false (by omega)
   have HN : Hid (∀ o, Below w.heap.size w (wr.alloc o)) := fun o => H.out.alloc H.out.size o
   clear H
   go_wp2
   go_roundw
   case rel => exact ⟨k + 1, by omega, by go_num, HN.out _⟩
   case measure => simp [intOf]; omega
  ·obtain rfl : n = k := by omega
   go_wp2
   go_ret
   exact ⟨rfl, H.out⟩
def RetIns (a : DA) (L T : Nat) (w : World) (S : Fp) (cur : Nat → Nat) (F : Nat) (b : Bool) (e : Ending) (w' : World) : Prop :=
 e = .returned (.tuple #[]) ∧ ∃ S' F', Dev a L T w' S' cur F' ∧ (b = false → F' = 0) ∧ F' ≤ F + 1 ∧ Chg S w w' ∧ Grew S S' w
theorem exec_any {a : DA} {L T : Nat} {w : World} {S : Fp} {cur : Nat → Nat} {F : Nat} (h : Dev a L T w S cur F) (i : Ins) (b : Bool) (hg : goodI L b i) (hb : b = false → F = 0) (hT : T < 1000000000) (hF : F < 1000000000) :
  Calls Tryz.prog 114 #[.agg #[.int .u8 (i.op : Int), .int .u64 (i.o : Int), .int .u64 (i.v : Int)], memV a] w (RetIns a L (T + 1) w S (runI cur i) F (noteI b i)) := by
 cases i with
 | st o v =>
  obtain ⟨h1, h2, h3, _⟩ := hg
  have hF0 := hb h1
  subst hF0
  refine (exec_st h o v h2 h3 hT).mono ?_
  rintro e w' ⟨rfl, S', hd, hc, hgr⟩
  exact ⟨rfl, S', 0, hd, fun _ => rfl, Nat.zero_le _, hc, hgr⟩
 | fl o =>
  refine (exec_fl h o hg hF).mono ?_
  rintro e w' ⟨rfl, S', hd, hc, hgr⟩
  exact ⟨rfl, S', F + 1, hd.more (by omega) (by omega), fun h => (by cases h), Nat.le_refl _, hc, hgr⟩
 | fe =>
  refine (exec_fe h).mono ?_
  rintro e w' ⟨rfl, S', hd, hc, hgr⟩
  exact ⟨rfl, S', 0, hd.more (by omega) (by omega), fun _ => rfl, Nat.zero_le _, hc, hgr⟩
def RunI (a : DA) (L T : Nat) (w wr : World) (S : Fp) (cur : Nat → Nat) (p : List Ins) (k : Nat) : Prop :=
 ∃ S' F', Dev a L (T + k) wr S' (runP cur (p.take k)) F' ∧ (noteP false (p.take k) = false → F' = 0) ∧ F' ≤ k ∧ Chg S w wr ∧ Grew S S' w
theorem run_any {a : DA} {L T : Nat} {w : World} {S : Fp} {cur : Nat → Nat} (h : Dev a L T w S cur 0) (A : Option Addr) (n c : Nat) (p : List Ins) (hr : Reads w w.heap.size 3 A n (insCells p)) (hoff : ∀ ad, A = some ad → ¬ S ad.block) (hg : goodP L false p) (hn : n ≤ 1000000) (hT : T + n ≤ 1000000000) :
  Calls Tryz.prog 74 #[.slice A n c, memV a] w (RetDev a L (T + n) w S (runP cur p) 0 (.int .i64 0)) := by
 have HV := hid (validP_any A n c p w hr hn)
 have HLN := hid (show p.length = n by have := hr.1; rw [insCells_len] at this; omega)
 have HR := hid hr
 have HOF := hid hoff
 have HGD := hid hg
 have HD0 := hid h
 have HSL := hid h.lt
 have hmE := methErr (some ⟨a.th 0, 0, none⟩)
 have hq : ∀ W, (binOp .eql 166 (.iface 41 (.pointer (some ⟨a.th 0, 0, none⟩))) .nilIface).run Tryz.prog W = .ok (.bool false) W := fun W => by rfl
 clear h hr hoff hg
 unfold memV
 go_enter Tryz.func74, Tryz.ntmps74
 go_wp2_with (go_at_call 113; refine HV.out.mono ?_; rintro e w1 ⟨rfl, hb1⟩; have HI0 : Hid (RunI a L T w w1 S cur p 0) := ⟨S, 0, HD0.out.below hb1, fun _ => rfl, Nat.le_refl _, Chg.of_below hb1, Grew.refl _ _⟩; clear hb1)
 go_loopw [16] (fun i wr => ∃ (k : Nat), k ≤ n ∧ i = .int .i64 k ∧ Hid (RunI a L T w wr S cur p k)) (fun i _ => n - (intOf i).toNat)
 case atStart => exact ⟨0, Nat.zero_le _, rfl, HI0⟩
 case round =>
  clear HI0 HD0 HV
  obtain ⟨k, hk, rfl, H⟩ := hrel
  by_cases hlt : k < n
  ·obtain ⟨S1, F1, hd, hf, hF1, hC, hG⟩ := H.out
   obtain ⟨hl, b, off, hA, hbB, f0, f1, f2⟩ := ins_facts (hC.reads HR.out (Nat.le_refl _) HOF.out) hlt
   subst hA
   have hgi := goodP_at HGD.out k hl
   have HEX := hid (fun o => exec_any (hd.below ((Below.refl _ wr).alloc (Nat.le_refl _) o)) p[k] (noteP false (p.take k)) hgi hf (by omega) (by omega))
   have HRP : Hid (runI (runP cur (p.take k)) p[k] = runP cur (p.take (k + 1))) := show _ = _ by rw [List.take_succ_eq_append_getElem hl, runP_snoc]
   have HNP : Hid (noteI (noteP false (p.take k)) p[k] = noteP false (p.take (k + 1))) := show _ = _ by rw [List.take_succ_eq_append_getElem hl, noteP_app]; rfl
   rw [HRP.out, HNP.out] at HEX
   have HC := hid hC
   have HG := hid hG
   unfold memV at HEX
   generalize (p[k]).op = op at *
   generalize (p[k]).o = o at *
   generalize (p[k]).v = v at *
   have hz0 : (0 : Int) ≤ (k : Int) := by omega
   have hz1 : (k : Int) < (n : Int) := by omega
   clear hgi hd hf hC hG H HRP HNP
   go_wp2_with fail
   refine (HEX.out _).mono ?_
   rintro e w2 ⟨rfl, S2, F2, hd2, hf2, hF2, hC2, hG2⟩
   have HN : Hid (RunI a L T w w2 S cur p (k + 1)) := ⟨S2, F2, by rw [← Nat.add_assoc]; exact hd2, hf2, by omega, HC.out.trans (S' := S1) (((Chg.refl S1 wr).alloc _).trans hC2 (Grew.refl _ _)) HG.out, HG.out.trans (w1 := wr) (fun j hj => (hG2 j hj).imp id (fun h => by simp at h; omega)) HC.out.size⟩
   clear hd2 hf2 hF2 hC2 hG2
   go_wp2
   go_roundw
   case rel => exact ⟨k + 1, by omega, by go_num, HN⟩
   case measure => simp [intOf]; omega
  ·obtain rfl : n = k := by omega
   obtain ⟨S1, F1, hd, hf, hF1, hC, hG⟩ := H.out
   rw [List.take_of_length_le (by rw [HLN.out]; exact Nat.le_refl _)] at hd hf
   have hF0 := hf (goodP_end HGD.out)
   subst hF0
   have HD := hid hd
   have HC := hid hC
   have HG := hid hG
   obtain ⟨s, exe, per, cs, ls, hdc, hnt⟩ := hd
   obtain ⟨g0, _, _, _, g2⟩ := hdc.facts (j := 0) (by omega)
   clear hdc hnt hC hG hf H
   go_wp2
   go_ret
   exact ⟨rfl, S1, HD.out, HC.out, HG.out⟩
end
section
open Go.RowKit
def logCells (a : DA) (s n : Nat) : Array Value := #[memV a, .int .u64 ((64 * s : Nat) : Int), .int .u64 ((64 * n : Nat) : Int)]
theorem eqMem (p : Option Addr) (W : World) : (binOp .eql 166 (.iface 41 (.pointer p)) .nilIface).run Tryz.prog W = .ok (.bool false) W := by kernel_rfl
theorem handle_any {a : DA} {L T : Nat} {w : World} {S : Fp} {cur : Nat → Nat} {F : Nat} (h : Dev a L T w S cur F) (s n : Nat) (hn : 26 ≤ n) (hs : s + n ≤ L) :
  Calls Tryz.prog 143 #[memV a, .int .i64 (s : Int), .int .i64 (n : Int)] w fun e w' => e = .returned (.tuple #[.pointer (some ⟨w.heap.size, 0, none⟩), .int .i64 0]) ∧ w' = w.alloc (.cells (logCells a s n) 231) := by
 obtain ⟨ls, exe, per, cs, lsC, hdc, hnt⟩ := h
 have hL := hdc.hL
 obtain ⟨f0, f2, _, _, _⟩ := hdc.facts (j := 0) (by omega)
 clear hdc hnt
 have hq := eqMem (some ⟨a.th 0, 0, none⟩)
 have hmS := methSize (some ⟨a.th 0, 0, none⟩)
 unfold memV logCells memV
 have e1 : decide ((s : Int) < 0) = false := decide_eq_false (by omega)
 have e2 : decide ((n : Int) < 26) = false := decide_eq_false (by omega)
 have u1 : IntKind.u64.wrap ((L : Int) * 64) = (L : Int) * 64 := by rw [IntKind.wrap_u64]; omega
 have u2 : IntKind.u64.wrap (n : Int) = (n : Int) := by rw [IntKind.wrap_u64]; omega
 have u3 : IntKind.u64.wrap (s : Int) = (s : Int) := by rw [IntKind.wrap_u64]; omega
 have u4 : IntKind.u64.wrap ((L : Int) - (n : Int)) = (L : Int) - (n : Int) := by rw [IntKind.wrap_u64]; omega
 have u5 : IntKind.u64.wrap ((s : Int) * 64) = ((64 * s : Nat) : Int) := by rw [IntKind.wrap_u64]; omega
 have u6 : IntKind.u64.wrap ((n : Int) * 64) = ((64 * n : Nat) : Int) := by rw [IntKind.wrap_u64]; omega
 have d1 : ((L : Int) * 64).tdiv 64 = (L : Int) := by rw [Int.mul_tdiv_cancel _ (by decide)]
 have e3 : decide ((L : Int) < (n : Int)) = false := decide_eq_false (by omega)
 have e4 : decide ((L : Int) - (n : Int) < (s : Int)) = false := decide_eq_false (by omega)
 go_enter Tryz.func143, Tryz.ntmps143
 go_wp2
 go_ret2
 exact ⟨rfl, rfl⟩
end
section
open Go.RowKit
section
variable {w wr : World} {g sz : Nat} {xs : List Nat}
theorem SortI.drew (h : SortI w wr g xs sz) : SortI w wr.drew g xs sz := by
 obtain ⟨cs, ys, h1, h2, h3, h4, h5⟩ := h
 exact ⟨cs, ys, h1, h2, h3, h4, h5.drew⟩
theorem SortI.at_ (h : SortI w wr g xs sz) {i : Nat} (hi : i < xs.length) : ∃ x : Nat, wr.cell? ⟨g, i, none⟩ = some (.int .u64 (x : Int)) ∧ wr.frozen? ⟨g, i, none⟩ = false := by
 obtain ⟨cs, ys, h1, h2, h3, h4, h5⟩ := h
 have hyl : i < ys.length := by rw [h4.length_eq]; exact hi
 exact ⟨ys[i], by rw [h1.cell]; exact h3.2 _ hyl, h1.frozen i⟩
theorem SortI.swap (h : SortI w wr g xs sz) {i j x y : Nat} (hi : i < xs.length) (hj : j < xs.length) (hx : wr.cell? ⟨g, i, none⟩ = some (.int .u64 (x : Int))) (hy : wr.cell? ⟨g, j, none⟩ = some (.int .u64 (y : Int))) :
  SortI w ((wr.setCell ⟨g, i, none⟩ (.int .u64 (y : Int))).setCell ⟨g, j, none⟩ (.int .u64 (x : Int))) g xs sz := by
 obtain ⟨cs, ys, h1, h2, h3, h4, h5⟩ := h
 have i1 : i < ys.length := by rw [h4.length_eq]; exact hi
 have j1 : j < ys.length := by rw [h4.length_eq]; exact hj
 have ex : ys[i] = x := by
  rw [h1.cell, h3.2 _ i1] at hx
  simp at hx; omega
 have ey : ys[j] = y := by
  rw [h1.cell, h3.2 _ j1] at hy
  simp at hy; omega
 subst ex; subst ey
 exact ⟨_, _, (h1.set_ i _).set_ j _, by simpa using h2, (h3.set i _ i1).set j _ (by rw [List.length_set]; exact j1), (List.set_set_perm i1 j1).trans h4, (h5.setCell (p := ⟨g, i, none⟩) (.inl rfl) _).setCell (p := ⟨g, j, none⟩) (.inl rfl) _⟩
theorem SortI.mid (h : SortI w wr g xs sz) {i j : Nat} (hj : j < xs.length) (u : Value) : ∃ v, (wr.setCell ⟨g, i, none⟩ u).cell? ⟨g, j, none⟩ = some v := by
 obtain ⟨cs, ys, h1, h2, h3, h4, h5⟩ := h
 have j1 : j < ys.length := by rw [h4.length_eq]; exact hj
 have h := (h1.set_ i u).cell j
 have hs : j < (cs.setIfInBounds i u).size := by have := h3.1; simp; omega
 exact ⟨_, h.trans (Array.getElem?_eq_getElem hs)⟩
theorem SortI.drewN (h : SortI w wr g xs sz) (n : Nat) : SortI w (wr.drewN n) g xs sz := by
 obtain ⟨cs, ys, h1, h2, h3, h4, h5⟩ := h
 exact ⟨cs, ys, h1, h2, h3, h4, h5.drewN n⟩
end
theorem less_any (x y : Nat) (w : World) : Calls Tryz.prog 206 #[.int .u64 (x : Int), .int .u64 (y : Int)] w fun e w' => e = .returned (.bool (decide (x < y))) ∧ w' = w := by
 go_enter Tryz.func206, Tryz.ntmps206
 go_wp2
 all_goals (go_ret; exact ⟨rfl, rfl⟩)
theorem less_some (x y : Nat) : ∃ bb, Hid (∀ W : World, Calls Tryz.prog 206 #[.int .u64 (x : Int), .int .u64 (y : Int)] W fun e w' => e = .returned (.bool bb) ∧ w' = W) := ⟨_, fun W => less_any x y W⟩
def RetMid (w : World) (g : Nat) (xs : List Nat) (sz a b : Nat) (e : Ending) (w' : World) : Prop := ∃ m : Nat, e = .returned (.int .i64 (m : Int)) ∧ a ≤ m ∧ m ≤ b ∧ SortI w w' g xs sz
def RetPart (w : World) (g : Nat) (xs : List Nat) (sz a b : Nat) (e : Ending) (w' : World) : Prop := ∃ (m : Nat) (c : Bool), e = .returned (.tuple #[.int .i64 (m : Int), .bool c]) ∧ a ≤ m ∧ m < b ∧ SortI w w' g xs sz
theorem reverse_any (g n cap sz a b : Nat) (xs : List Nat) (w : World) (h : SortI w w g xs sz) (hl : xs.length = n) (hab : a < b) (hb : b ≤ n) (hn : n ≤ 1000000) (hc : n ≤ cap) (hcm : cap ≤ 9223372036854775807) :
  Calls Tryz.prog 204 #[.slice (some ⟨g, 0, none⟩) n cap, .int .i64 (a : Int), .int .i64 (b : Int)] w (RetSort w g xs sz) := by
 have H := hid h
 have HL := hid hl
 clear h hl
 obtain ⟨b', rfl⟩ : ∃ b', b = b' + 1 := ⟨b - 1, by omega⟩
 have u1 : IntKind.i64.wrap (b' : Int) = (b' : Int) := by rw [IntKind.wrap_i64]; omega
 go_enter Tryz.func204, Tryz.ntmps204
 go_wp2
 go_loopw [6, 7] (fun i j wr => ∃ (p q : Nat), p ≤ b' + 1 ∧ q ≤ b' ∧ i = .int .i64 p ∧ j = .int .i64 q ∧ Hid (SortI w wr g xs sz)) (fun _ j _ => (intOf j).toNat)
 case atStart => exact ⟨a, b', by omega, by omega, rfl, by go_num, H⟩
 case round =>
  clear H
  obtain ⟨p, q, hp, hq, rfl, rfl, H⟩ := hrel
  by_cases hlt : p < q
  ·have e1 : (p : Int) < (n : Int) := by omega
   have e2 : (q : Int) < (n : Int) := by omega
   obtain ⟨x1, c1, z1⟩ := H.out.at_ (i := p) (by have := HL.out; omega)
   obtain ⟨x2, c2, z2⟩ := H.out.at_ (i := q) (by have := HL.out; omega)
   obtain ⟨x3, c3⟩ := H.out.mid (i := p) (j := q) (by have := HL.out; omega) (.int .u64 (x2 : Int))
   have H1 := hid (H.out.swap (by have := HL.out; omega) (by have := HL.out; omega) c1 c2).drew
   have e3 : decide ((p : Int) < (q : Int)) = true := decide_eq_true (by omega)
   clear H
   go_wp2
   go_region
   go_wp2
   go_roundw
   case rel => exact ⟨p + 1, q - 1, by omega, by omega, by go_num, by go_num, H1⟩
   case measure => simp [intOf]; omega
  ·go_wp2
   go_end0
   exact ⟨rfl, H.out⟩
theorem partition_any (g n cap sz a b p : Nat) (xs : List Nat) (w : World) (h : SortI w w g xs sz) (hl : xs.length = n) (hab : a + 1 < b) (hb : b ≤ n) (hp2 : p < b) (hn : n ≤ 1000000) (hc : n ≤ cap) (hcm : cap ≤ 9223372036854775807) :
  Calls Tryz.prog 208 #[.slice (some ⟨g, 0, none⟩) n cap, .int .i64 (a : Int), .int .i64 (b : Int), .int .i64 (p : Int)] w (RetPart w g xs sz a b) := by
 have H := hid h
 have HL := hid hl
 clear h hl
 obtain ⟨b', rfl⟩ : ∃ b', b = b' + 1 := ⟨b - 1, by omega⟩
 have u1 : IntKind.i64.wrap (b' : Int) = (b' : Int) := by rw [IntKind.wrap_i64]; omega
 have e1 : (a : Int) < (n : Int) := by omega
 have e2 : (p : Int) < (n : Int) := by omega
 go_enter Tryz.func208, Tryz.ntmps208
 obtain ⟨x1, c1, z1⟩ := H.out.at_ (i := a) (by have := HL.out; omega)
 obtain ⟨x2, c2, z2⟩ := H.out.at_ (i := p) (by have := HL.out; omega)
 obtain ⟨x3, c3⟩ := H.out.mid (i := a) (j := p) (by have := HL.out; omega) (.int .u64 (x2 : Int))
 have H1 := hid (H.out.swap (by have := HL.out; omega) (by have := HL.out; omega) c1 c2).drew
 clear H
 go_wp2
 go_region
 clear c1 c2 c3 z1 z2
 go_upto_block 0 with fail
 go_cut [10] from 30 to 45 (fun v wx => ∃ k : Nat, v = .int .i64 k ∧ a + 1 ≤ k ∧ k ≤ b' + 1 ∧ Hid (SortI w wx g xs sz))
 case first =>
  go_wp2_with fail
  go_loopw [10] (fun i wr => ∃ k : Nat, a + 1 ≤ k ∧ k ≤ b' + 1 ∧ i = .int .i64 k ∧ Hid (SortI w wr g xs sz)) (fun i _ => b' + 1 - (intOf i).toNat)
  case atStart => exact ⟨a + 1, by omega, by omega, by go_num, H1⟩
  case round =>
   clear H1
   obtain ⟨k, hk1, hk2, rfl, H⟩ := hrel
   by_cases hle : k ≤ b'
   ·have e3 : (k : Int) < (n : Int) := by omega
    have e4 : decide ((k : Int) ≤ (b' : Int)) = true := decide_eq_true (by omega)
    go_wp2_with fail
    obtain ⟨x1, c1, z1⟩ := H.out.at_ (i := k) (by have := HL.out; omega)
    obtain ⟨x2, c2, z2⟩ := H.out.at_ (i := a) (by have := HL.out; omega)
    obtain ⟨bb, HLs⟩ := less_some x1 x2
    go_quiet ((go_at_call 206; exact Calls.quiet_of_same (HLs.out _)))
    have H1 := hid (H.out.drewN nq)
    clear c1 c2 z1 z2 H
    cases bb
    ·go_wp2_with fail
     go_meet
     exact ⟨k, rfl, hk1, hk2, H1⟩
    ·go_wp2_with fail
     go_roundw
     case rel => exact ⟨k + 1, by omega, by omega, by go_num, H1⟩
     case measure => simp [intOf]; omega
   ·have e4 : decide ((k : Int) ≤ (b' : Int)) = false := decide_eq_false (by omega)
    go_wp2_with fail
    go_quiet (fail)
    have H1 := hid (H.out.drewN nq)
    go_wp2_with fail
    go_meet
    exact ⟨k, rfl, hk1, hk2, H1⟩
 case rest =>
  clear H1
  obtain ⟨k, rfl, hk1, hk2, H⟩ := hcut
  go_upto_block 2 with fail
  go_cut [11] from 46 to 62 (fun v wx => ∃ q : Nat, v = .int .i64 q ∧ a ≤ q ∧ q ≤ b' ∧ Hid (SortI w wx g xs sz))
  case first =>
   go_wp2_with fail
   go_loopw [11] (fun j wr => ∃ q : Nat, a ≤ q ∧ q ≤ b' ∧ j = .int .i64 q ∧ Hid (SortI w wr g xs sz)) (fun j _ => (intOf j).toNat)
   case atStart => exact ⟨b', by omega, by omega, rfl, H⟩
   case round =>
    clear H
    obtain ⟨q, hq1, hq2, rfl, H⟩ := hrel
    by_cases hle : k ≤ q
    ·have e3 : (q : Int) < (n : Int) := by omega
     have e4 : decide ((k : Int) ≤ (q : Int)) = true := decide_eq_true (by omega)
     go_wp2_with fail
     obtain ⟨x1, c1, z1⟩ := H.out.at_ (i := q) (by have := HL.out; omega)
     obtain ⟨x2, c2, z2⟩ := H.out.at_ (i := a) (by have := HL.out; omega)
     obtain ⟨bb, HLs⟩ := less_some x1 x2
     go_quiet ((go_at_call 206; exact Calls.quiet_of_same (HLs.out _)))
     have H1 := hid (H.out.drewN nq)
     clear c1 c2 z1 z2 H
     cases bb
     ·go_wp2_with fail
      go_roundw
      case rel => exact ⟨q - 1, by omega, by omega, by go_num, H1⟩
      case measure => simp [intOf]; omega
     ·go_wp2_with fail
      go_meet
      exact ⟨q, rfl, hq1, hq2, H1⟩
    ·have e4 : decide ((k : Int) ≤ (q : Int)) = false := decide_eq_false (by omega)
     go_wp2_with fail
     go_quiet (fail)
     have H1 := hid (H.out.drewN nq)
     go_wp2_with fail
     go_meet
     exact ⟨q, rfl, hq1, hq2, H1⟩
  case rest =>
   clear H
   obtain ⟨q, rfl, hq1, hq2, H⟩ := hcut
   by_cases hgt : q < k
   ·have e3 : (q : Int) < (n : Int) := by omega
    have e4 : decide ((q : Int) < (k : Int)) = true := decide_eq_true (by omega)
    obtain ⟨x1, c1, z1⟩ := H.out.at_ (i := q) (by have := HL.out; omega)
    obtain ⟨x2, c2, z2⟩ := H.out.at_ (i := a) (by have := HL.out; omega)
    obtain ⟨x3, c3⟩ := H.out.mid (i := q) (j := a) (by have := HL.out; omega) (.int .u64 (x2 : Int))
    have H1 := hid (H.out.swap (by have := HL.out; omega) (by have := HL.out; omega) c1 c2).drew
    clear H
    go_wp2_with fail
    go_region
    clear c1 c2 c3 z1 z2
    go_wp2_with fail
    go_ret2
    exact ⟨q, true, rfl, by omega, by omega, H1.out⟩
   ·have e3 : (q : Int) < (n : Int) := by omega
    have e4 : decide ((q : Int) < (k : Int)) = false := decide_eq_false (by omega)
    have e5 : (k : Int) < (n : Int) := by omega
    obtain ⟨x1, c1, z1⟩ := H.out.at_ (i := k) (by have := HL.out; omega)
    obtain ⟨x2, c2, z2⟩ := H.out.at_ (i := q) (by have := HL.out; omega)
    obtain ⟨x3, c3⟩ := H.out.mid (i := k) (j := q) (by have := HL.out; omega) (.int .u64 (x2 : Int))
    have H1 := hid (H.out.swap (by have := HL.out; omega) (by have := HL.out; omega) c1 c2).drew
    clear H
    go_wp2_with fail
    go_region
    clear c1 c2 c3 z1 z2
    go_wp2_with fail
    go_loopw [10, 11] (fun i j wr => ∃ k q : Nat, a + 1 ≤ k ∧ k ≤ b' + 1 ∧ a ≤ q ∧ q ≤ b' ∧ i = .int .i64 k ∧ j = .int .i64 q ∧ Hid (SortI w wr g xs sz)) (fun i _ _ => b' + 1 - (intOf i).toNat)
    case atStart => exact ⟨k + 1, q - 1, by omega, by omega, by omega, by omega, by go_num, by go_num, H1⟩
    case round =>
     clear H1 e3 e4 e5 hgt
     obtain ⟨k0, q0, hk01, hk02, hq01, hq02, rfl, rfl, H⟩ := hrel
     go_upto_block 6 with fail
     go_cut [10] from 99 to 152 (fun v wx => ∃ k : Nat, v = .int .i64 k ∧ k0 ≤ k ∧ k ≤ b' + 1 ∧ Hid (SortI w wx g xs sz))
     case first =>
      go_wp2_with fail
      go_loopw [10] (fun i wr => ∃ k : Nat, k0 ≤ k ∧ k ≤ b' + 1 ∧ i = .int .i64 k ∧ Hid (SortI w wr g xs sz)) (fun i _ => b' + 1 - (intOf i).toNat)
      case atStart => exact ⟨k0, by omega, by omega, rfl, H⟩
      case round =>
       clear H
       obtain ⟨k, hk1, hk2, rfl, H⟩ := hrel
       by_cases hle : k ≤ q0
       ·have e3 : (k : Int) < (n : Int) := by omega
        have e4 : decide ((k : Int) ≤ (q0 : Int)) = true := decide_eq_true (by omega)
        go_wp2_with fail
        obtain ⟨x1, c1, z1⟩ := H.out.at_ (i := k) (by have := HL.out; omega)
        obtain ⟨x2, c2, z2⟩ := H.out.at_ (i := a) (by have := HL.out; omega)
        obtain ⟨bb, HLs⟩ := less_some x1 x2
        go_quiet ((go_at_call 206; exact Calls.quiet_of_same (HLs.out _)))
        have H1 := hid (H.out.drewN nq)
        clear c1 c2 z1 z2 H
        cases bb
        ·go_wp2_with fail
         go_meet
         exact ⟨k, rfl, hk1, hk2, H1⟩
        ·go_wp2_with fail
         go_roundw
         case rel => exact ⟨k + 1, by omega, by omega, by go_num, H1⟩
         case measure => simp [intOf]; omega
       ·have e4 : decide ((k : Int) ≤ (q0 : Int)) = false := decide_eq_false (by omega)
        go_wp2_with fail
        go_quiet (fail)
        have H1 := hid (H.out.drewN nq)
        go_wp2_with fail
        go_meet
        exact ⟨k, rfl, hk1, hk2, H1⟩
     case rest =>
      clear H
      obtain ⟨k, rfl, hk1, hk2, H⟩ := hcut
      go_upto_block 8 with fail
      go_cut [11] from 99 to 152 (fun v wx => ∃ q : Nat, v = .int .i64 q ∧ a ≤ q ∧ q ≤ b' ∧ Hid (SortI w wx g xs sz))
      case first =>
       go_wp2_with fail
       go_loopw [11] (fun j wr => ∃ q : Nat, a ≤ q ∧ q ≤ b' ∧ j = .int .i64 q ∧ Hid (SortI w wr g xs sz)) (fun j _ => (intOf j).toNat)
       case atStart => exact ⟨q0, by omega, by omega, rfl, H⟩
       case round =>
        clear H
        obtain ⟨q, hq1, hq2, rfl, H⟩ := hrel
        by_cases hle : k ≤ q
        ·have e3 : (q : Int) < (n : Int) := by omega
         have e4 : decide ((k : Int) ≤ (q : Int)) = true := decide_eq_true (by omega)
         go_wp2_with fail
         obtain ⟨x1, c1, z1⟩ := H.out.at_ (i := q) (by have := HL.out; omega)
         obtain ⟨x2, c2, z2⟩ := H.out.at_ (i := a) (by have := HL.out; omega)
         obtain ⟨bb, HLs⟩ := less_some x1 x2
         go_quiet ((go_at_call 206; exact Calls.quiet_of_same (HLs.out _)))
         have H1 := hid (H.out.drewN nq)
         clear c1 c2 z1 z2 H
         cases bb
         ·go_wp2_with fail
          go_roundw
          case rel => exact ⟨q - 1, by omega, by omega, by go_num, H1⟩
          case measure => simp [intOf]; omega
         ·go_wp2_with fail
          go_meet
          exact ⟨q, rfl, hq1, hq2, H1⟩
        ·have e4 : decide ((k : Int) ≤ (q : Int)) = false := decide_eq_false (by omega)
         go_wp2_with fail
         go_quiet (fail)
         have H1 := hid (H.out.drewN nq)
         go_wp2_with fail
         go_meet
         exact ⟨q, rfl, hq1, hq2, H1⟩
      case rest =>
       clear H
       obtain ⟨q, rfl, hq1, hq2, H⟩ := hcut
       by_cases hgt : q < k
       ·have e3 : (q : Int) < (n : Int) := by omega
        have e4 : decide ((q : Int) < (k : Int)) = true := decide_eq_true (by omega)
        obtain ⟨x1, c1, z1⟩ := H.out.at_ (i := q) (by have := HL.out; omega)
        obtain ⟨x2, c2, z2⟩ := H.out.at_ (i := a) (by have := HL.out; omega)
        obtain ⟨x3, c3⟩ := H.out.mid (i := q) (j := a) (by have := HL.out; omega) (.int .u64 (x2 : Int))
        have H1 := hid (H.out.swap (by have := HL.out; omega) (by have := HL.out; omega) c1 c2).drew
        clear H
        go_wp2_with fail
        go_region
        clear c1 c2 c3 z1 z2
        go_wp2_with fail
        go_ret2
        exact ⟨q, false, rfl, by omega, by omega, H1.out⟩
       ·have e3 : (q : Int) < (n : Int) := by omega
        have e4 : decide ((q : Int) < (k : Int)) = false := decide_eq_false (by omega)
        have e5 : (k : Int) < (n : Int) := by omega
        obtain ⟨x1, c1, z1⟩ := H.out.at_ (i := k) (by have := HL.out; omega)
        obtain ⟨x2, c2, z2⟩ := H.out.at_ (i := q) (by have := HL.out; omega)
        obtain ⟨x3, c3⟩ := H.out.mid (i := k) (j := q) (by have := HL.out; omega) (.int .u64 (x2 : Int))
        have H1 := hid (H.out.swap (by have := HL.out; omega) (by have := HL.out; omega) c1 c2).drew
        clear H
        go_wp2_with fail
        go_region
        clear c1 c2 c3 z1 z2
        go_wp2_with fail
        go_roundw
        case rel => exact ⟨k + 1, q - 1, by omega, by omega, by omega, by omega, by go_num, by go_num, H1⟩
        case measure => simp [intOf]; omega
theorem partEqual_any (g n cap sz a b p : Nat) (xs : List Nat) (w : World) (h : SortI w w g xs sz) (hl : xs.length = n) (hab : a + 1 < b) (hb : b ≤ n) (hp2 : p < b) (hn : n ≤ 1000000) (hc : n ≤ cap) (hcm : cap ≤ 9223372036854775807) :
  Calls Tryz.prog 207 #[.slice (some ⟨g, 0, none⟩) n cap, .int .i64 (a : Int), .int .i64 (b : Int), .int .i64 (p : Int)] w (RetMid w g xs sz (a + 1) b) := by
 have H := hid h
 have HL := hid hl
 clear h hl
 obtain ⟨b', rfl⟩ : ∃ b', b = b' + 1 := ⟨b - 1, by omega⟩
 have u1 : IntKind.i64.wrap (b' : Int) = (b' : Int) := by rw [IntKind.wrap_i64]; omega
 have e1 : (a : Int) < (n : Int) := by omega
 have e2 : (p : Int) < (n : Int) := by omega
 go_enter Tryz.func207, Tryz.ntmps207
 obtain ⟨x1, c1, z1⟩ := H.out.at_ (i := a) (by have := HL.out; omega)
 obtain ⟨x2, c2, z2⟩ := H.out.at_ (i := p) (by have := HL.out; omega)
 obtain ⟨x3, c3⟩ := H.out.mid (i := a) (j := p) (by have := HL.out; omega) (.int .u64 (x2 : Int))
 have H1 := hid (H.out.swap (by have := HL.out; omega) (by have := HL.out; omega) c1 c2).drew
 clear H
 go_wp2
 go_region
 clear c1 c2 c3 z1 z2
 go_wp2_with fail
 go_loopw [9, 10] (fun i j wr => ∃ k q : Nat, a + 1 ≤ k ∧ k ≤ b' + 1 ∧ a ≤ q ∧ q ≤ b' ∧ i = .int .i64 k ∧ j = .int .i64 q ∧ Hid (SortI w wr g xs sz)) (fun i _ _ => b' + 1 - (intOf i).toNat)
 case atStart => exact ⟨a + 1, b', by omega, by omega, by omega, by omega, by go_num, by go_num, H1⟩
 case round =>
  clear H1
  obtain ⟨k0, q0, hk01, hk02, hq01, hq02, rfl, rfl, H⟩ := hrel
  go_upto_block 2 with fail
  go_cut [9] from 29 to 82 (fun v wx => ∃ k : Nat, v = .int .i64 k ∧ k0 ≤ k ∧ k ≤ b' + 1 ∧ Hid (SortI w wx g xs sz))
  case first =>
   go_wp2_with fail
   go_loopw [9] (fun i wr => ∃ k : Nat, k0 ≤ k ∧ k ≤ b' + 1 ∧ i = .int .i64 k ∧ Hid (SortI w wr g xs sz)) (fun i _ => b' + 1 - (intOf i).toNat)
   case atStart => exact ⟨k0, by omega, by omega, rfl, H⟩
   case round =>
    clear H
    obtain ⟨k, hk1, hk2, rfl, H⟩ := hrel
    by_cases hle : k ≤ q0
    ·have e3 : (k : Int) < (n : Int) := by omega
     have e4 : decide ((k : Int) ≤ (q0 : Int)) = true := decide_eq_true (by omega)
     go_wp2_with fail
     obtain ⟨x1, c1, z1⟩ := H.out.at_ (i := a) (by have := HL.out; omega)
     obtain ⟨x2, c2, z2⟩ := H.out.at_ (i := k) (by have := HL.out; omega)
     obtain ⟨bb, HLs⟩ := less_some x1 x2
     go_quiet ((go_at_call 206; exact Calls.quiet_of_same (HLs.out _)))
     have H1 := hid (H.out.drewN nq)
     clear c1 c2 z1 z2 H
     cases bb
     ·go_wp2_with fail
      go_roundw
      case rel => exact ⟨k + 1, by omega, by omega, by go_num, H1⟩
      case measure => simp [intOf]; omega
     ·go_wp2_with fail
      go_meet
      exact ⟨k, rfl, hk1, hk2, H1⟩
    ·have e4 : decide ((k : Int) ≤ (q0 : Int)) = false := decide_eq_false (by omega)
     go_wp2_with fail
     go_quiet (fail)
     have H1 := hid (H.out.drewN nq)
     go_wp2_with fail
     go_meet
     exact ⟨k, rfl, hk1, hk2, H1⟩
  case rest =>
   clear H
   obtain ⟨k, rfl, hk1, hk2, H⟩ := hcut
   go_upto_block 4 with fail
   go_cut [10] from 29 to 82 (fun v wx => ∃ q : Nat, v = .int .i64 q ∧ a ≤ q ∧ q ≤ b' ∧ Hid (SortI w wx g xs sz))
   case first =>
    go_wp2_with fail
    go_loopw [10] (fun j wr => ∃ q : Nat, a ≤ q ∧ q ≤ b' ∧ j = .int .i64 q ∧ Hid (SortI w wr g xs sz)) (fun j _ => (intOf j).toNat)
    case atStart => exact ⟨q0, by omega, by omega, rfl, H⟩
    case round =>
     clear H
     obtain ⟨q, hq1, hq2, rfl, H⟩ := hrel
     by_cases hle : k ≤ q
     ·have e3 : (q : Int) < (n : Int) := by omega
      have e4 : decide ((k : Int) ≤ (q : Int)) = true := decide_eq_true (by omega)
      go_wp2_with fail
      obtain ⟨x1, c1, z1⟩ := H.out.at_ (i := a) (by have := HL.out; omega)
      obtain ⟨x2, c2, z2⟩ := H.out.at_ (i := q) (by have := HL.out; omega)
      obtain ⟨bb, HLs⟩ := less_some x1 x2
      go_quiet ((go_at_call 206; exact Calls.quiet_of_same (HLs.out _)))
      have H1 := hid (H.out.drewN nq)
      clear c1 c2 z1 z2 H
      cases bb
      ·go_wp2_with fail
       go_meet
       exact ⟨q, rfl, hq1, hq2, H1⟩
      ·go_wp2_with fail
       go_roundw
       case rel => exact ⟨q - 1, by omega, by omega, by go_num, H1⟩
       case measure => simp [intOf]; omega
     ·have e4 : decide ((k : Int) ≤ (q : Int)) = false := decide_eq_false (by omega)
      go_wp2_with fail
      go_quiet (fail)
      have H1 := hid (H.out.drewN nq)
      go_wp2_with fail
      go_meet
      exact ⟨q, rfl, hq1, hq2, H1⟩
   case rest =>
    clear H
    obtain ⟨q, rfl, hq1, hq2, H⟩ := hcut
    by_cases hgt : q < k
    ·have e4 : decide ((q : Int) < (k : Int)) = true := decide_eq_true (by omega)
     go_wp2_with fail
     go_ret
     exact ⟨k, rfl, by omega, by omega, H.out⟩
    ·have e3 : (q : Int) < (n : Int) := by omega
     have e4 : decide ((q : Int) < (k : Int)) = false := decide_eq_false (by omega)
     have e5 : (k : Int) < (n : Int) := by omega
     obtain ⟨x1, c1, z1⟩ := H.out.at_ (i := k) (by have := HL.out; omega)
     obtain ⟨x2, c2, z2⟩ := H.out.at_ (i := q) (by have := HL.out; omega)
     obtain ⟨x3, c3⟩ := H.out.mid (i := k) (j := q) (by have := HL.out; omega) (.int .u64 (x2 : Int))
     have H1 := hid (H.out.swap (by have := HL.out; omega) (by have := HL.out; omega) c1 c2).drew
     clear H
     go_wp2_with fail
     go_region
     clear c1 c2 c3 z1 z2
     go_wp2_with fail
     go_roundw
     case rel => exact ⟨k + 1, q - 1, by omega, by omega, by omega, by omega, by go_num, by go_num, H1⟩
     case measure => simp [intOf]; omega
end
end Go.Proofs.YtnlokpakiambaaaGreatDoor
