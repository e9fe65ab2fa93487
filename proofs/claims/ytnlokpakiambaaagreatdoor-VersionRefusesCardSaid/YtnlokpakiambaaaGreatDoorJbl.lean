/- The walks and laws that the claim leans on, part 38. -/
import Derived.Test.YtnlokpakiambaaaGreatDoorJbk
set_option maxRecDepth 100000
set_option maxHeartbeats 16000000
namespace Go.Proofs.YtnlokpakiambaaaGreatDoor
open Go.Lib (hid)
section
open Go.RowKit Go.Maps
theorem len_sub {α : Type} [BEq α] [LawfulBEq α] : ∀ (l1 l2 : List α), l1.Nodup → (∀ x ∈ l1, x ∈ l2) → l1.length ≤ l2.length
 | [], _, _, _ => Nat.zero_le _
 | a :: t, l2, hn, h => by
  rw [List.nodup_cons] at hn
  have ha := h a (by simp)
  have h1 := len_sub t (l2.erase a) hn.2 (fun x hx => (List.mem_erase_of_ne (fun e => hn.1 (by rw [← e]; exact hx))).2 (h x (by simp [hx])))
  rw [List.length_erase_of_mem ha] at h1
  have := List.length_pos_of_mem ha
  rw [List.length_cons]
  omega
theorem sum_filterP {α : Type} (g : α → Nat) : ∀ (ks : List Nat), ks.Nodup → ∀ l : List α, (ks.map fun k => (l.filter fun p => g p == k).length).sum ≤ l.length
 | [], _, _ => by simp
 | k :: ks, hn, l => by
  rw [List.nodup_cons] at hn
  have h1 := sum_filterP g ks hn.2 (l.filter fun p => !(g p == k))
  have h2 : ∀ j ∈ ks, ((l.filter fun p => !(g p == k)).filter fun p => g p == j).length = (l.filter fun p => g p == j).length := fun j hj => by
   rw [List.filter_filter]
   congr 1
   apply List.filter_congr
   intro p _
   by_cases e : g p = j
   ·have : g p ≠ k := fun e2 => hn.1 (by rw [← e2, e]; exact hj)
    simp [e]
    exact fun h => this (by rw [e, h])
   ·simp [e]
  have h3 : (ks.map fun j => ((l.filter fun p => !(g p == k)).filter fun p => g p == j).length) = ks.map fun j => (l.filter fun p => g p == j).length := List.map_congr_left h2
  rw [h3] at h1
  have h4 : (l.filter fun p => g p == k).length + (l.filter fun p => !(g p == k)).length = l.length := by
   have : ∀ l : List α, (l.filter fun p => g p == k).length + (l.filter fun p => !(g p == k)).length = l.length := fun l => by
    induction l with
    | nil => rfl
    | cons x t ih =>
     rw [List.filter_cons, List.filter_cons]
     cases (g x == k) <;> simp <;> omega
   exact this l
  rw [List.map_cons, List.sum_cons]
  omega
theorem mul_sum_le (c : Nat) (g : Nat → Nat) : ∀ ks : List Nat, (∀ k ∈ ks, c ≤ g k) → ks.length * c ≤ (ks.map g).sum
 | [], _ => by simp
 | k :: ks, h => by
  have h1 := mul_sum_le c g ks (fun j hj => h j (by simp [hj]))
  have h2 := h k (by simp)
  rw [List.map_cons, List.sum_cons, List.length_cons, Nat.add_mul, Nat.one_mul]
  omega
def need (a c : Nat) : Nat := if a = 0 then 0 else (a - 1) / perC c + 1
theorem need_mono {a b c : Nat} (h : a ≤ b) : need a c ≤ need b c := by
 unfold need
 split
 ·exact Nat.zero_le _
 ·rw [if_neg (by omega)]
  exact Nat.succ_le_succ (Nat.div_le_div_right (by omega))
def room (al : List Nat) : Nat := need (al.count 0) 0 + need (al.count 1) 1 + need (al.count 2) 2 + need (al.count 3) 3 + need (al.count 4) 4
theorem room_mono {a b : List Nat} (h : ∀ c, a.count c ≤ b.count c) : room a ≤ room b := by
 have h0 := need_mono (c := 0) (h 0)
 have h1 := need_mono (c := 1) (h 1)
 have h2 := need_mono (c := 2) (h 2)
 have h3 := need_mono (c := 3) (h 3)
 have h4 := need_mono (c := 4) (h 4)
 unfold room
 omega
structure CapD (s K : Nat) (cs : Nat → CS) (f : Nat → Option Nat) (al : List Nat) (dl : Nat → List Nat) (nv : Nat → List (Nat × Nat)) : Prop where
 nd : ∀ c, (dl c).Nodup
 of : ∀ c k, k ∈ dl c → k < K ∧ (cs k).dv = true ∧ (cs k).cl = c
 all : ∀ k, k < K → (cs k).dv = true → (cs k).cl < 5 ∧ k ∈ dl (cs k).cl
 non : ∀ k i, k < K → (cs k).dv = true → i < perC (cs k).cl → ¬ Vac s K cs f (cs k).cl k i → (k, i) ∈ nv (cs k).cl
 few : ∀ c, (nv c).length ≤ al.count c
 chk : ∀ c, dl c ≠ [] → ((dl c).length - 1) * perC c + 1 ≤ al.count c
def Cap (s K : Nat) (cs : Nat → CS) (f : Nat → Option Nat) (al : List Nat) : Prop := ∃ dl nv, CapD s K cs f al dl nv
section
variable {s K : Nat} {cs cs' : Nat → CS} {f f' : Nat → Option Nat} {al : List Nat}
theorem Cap.new (h : ∀ k, k < K → (cs k).dv = false) : Cap s K cs f [] :=
 ⟨fun _ => [], fun _ => [], { nd := fun _ => List.nodup_nil, of := fun _ _ hk => absurd hk (by simp), all := fun k hk hd => (by rw [h k hk] at hd; cases hd), non := fun k _ hk hd => (by rw [h k hk] at hd; cases hd), few := fun _ => Nat.zero_le _, chk := fun _ h => absurd rfl h }⟩
theorem Cap.same (h : Cap s K cs f al) (he : ∀ k, k < K → (cs' k).dv = (cs k).dv ∧ (cs' k).cl = (cs k).cl) (hv : ∀ k i, k < K → (cs k).dv = true → i < perC (cs k).cl → Vac s K cs f (cs k).cl k i → Vac s K cs' f' (cs k).cl k i) : Cap s K cs' f' al := by
 obtain ⟨dl, nv, h⟩ := h
 refine ⟨dl, nv, h.nd, fun c k hk => ?_, fun k hk hd => ?_, fun k i hk hd hi hn => ?_, h.few, h.chk⟩
 ·obtain ⟨h1, h2, h3⟩ := h.of c k hk
  obtain ⟨e1, e2⟩ := he k h1
  exact ⟨h1, e1.trans h2, e2.trans h3⟩
 ·obtain ⟨e1, e2⟩ := he k hk
  rw [e2]
  exact h.all k hk (e1 ▸ hd)
 ·obtain ⟨e1, e2⟩ := he k hk
  rw [e2] at hi hn ⊢
  exact h.non k i hk (e1 ▸ hd) hi (fun hh => hn (hv k i hk (e1 ▸ hd) hi hh))
theorem CapD.full {dl : Nat → List Nat} {nv : Nat → List (Nat × Nat)} (h : CapD s K cs f al dl nv) {cl : Nat} (hno : ∀ k i, ¬ Vac s K cs f cl k i) : (dl cl).length * perC cl ≤ al.count cl := by
 refine Nat.le_trans (mul_sum_le (perC cl) (fun k => ((nv cl).filter fun p => p.1 == k).length) (dl cl) (fun k hk => ?_)) (Nat.le_trans (sum_filterP (·.1) (dl cl) (h.nd cl) (nv cl)) (h.few cl))
 obtain ⟨h1, h2, h3⟩ := h.of cl k hk
 have h4 := len_sub ((List.range (perC cl)).map fun i => (k, i)) ((nv cl).filter fun p => p.1 == k) (by
  rw [List.nodup_iff_pairwise_ne, List.pairwise_map]
  exact (List.nodup_iff_pairwise_ne.1 List.nodup_range).imp (fun hne e => hne (by injection e))) (fun x hx => by
  obtain ⟨i, hi, rfl⟩ := List.mem_map.1 hx
  have hi := List.mem_range.1 hi
  subst h3
  exact List.mem_filter.2 ⟨h.non k i h1 h2 hi (hno k i), by simp⟩)
 simpa using h4
theorem Cap.has (h : Cap s K cs f al) {cl : Nat} (_hcl : cl < 5) (hr : room (cl :: al) ≤ K) : (∃ k i, Vac s K cs f cl k i) ∨ ∃ k, k < K ∧ (cs k).dv = false := by
 obtain ⟨dl, nv, h⟩ := h
 by_cases h1 : ∃ k i, Vac s K cs f cl k i
 ·exact .inl h1
 by_cases h2 : ∃ k, k < K ∧ (cs k).dv = false
 ·exact .inr h2
 exfalso
 have hno : ∀ k i, ¬ Vac s K cs f cl k i := fun k i hv => h1 ⟨k, i, hv⟩
 have hf := h.full hno
 have hdv : ∀ k, k < K → (cs k).dv = true := fun k hk => by
  cases hd : (cs k).dv with
  | true => rfl
  | false => exact absurd ⟨k, hk, hd⟩ h2
 have hlen := len_sub (List.range K) (dl 0 ++ dl 1 ++ dl 2 ++ dl 3 ++ dl 4) List.nodup_range (fun k hk => by
  have hk := List.mem_range.1 hk
  obtain ⟨c5, hm⟩ := h.all k hk (hdv k hk)
  generalize (cs k).cl = c at *
  simp only [List.mem_append]
  have : c = 0 ∨ c = 1 ∨ c = 2 ∨ c = 3 ∨ c = 4 := by omega
  rcases this with rfl | rfl | rfl | rfl | rfl
  ·exact .inl (.inl (.inl (.inl hm)))
  ·exact .inl (.inl (.inl (.inr hm)))
  ·exact .inl (.inl (.inr hm))
  ·exact .inl (.inr hm)
  ·exact .inr hm)
 simp only [List.length_range, List.length_append] at hlen
 have hb : ∀ c, (dl c).length + (if c = cl then 1 else 0) ≤ need ((cl :: al).count c) c := fun c => by
  have hp := (per_le c).1
  by_cases e : c = cl
  ·subst e
   rw [if_pos rfl, List.count_cons_self]
   unfold need
   rw [if_neg (by omega), Nat.add_sub_cancel]
   exact Nat.succ_le_succ ((Nat.le_div_iff_mul_le (by omega)).2 hf)
  ·rw [if_neg e, List.count_cons_of_ne (fun h => e h.symm), Nat.add_zero]
   by_cases hd : dl c = []
   ·rw [hd]; exact Nat.zero_le _
   ·have h3 := h.chk c hd
    have h4 := List.length_pos_iff.2 hd
    unfold need
    rw [if_neg (by omega)]
    have := (Nat.le_div_iff_mul_le (x := (dl c).length - 1) (y := al.count c - 1) (k := perC c) (by omega)).2 (by omega)
    omega
 have b0 := hb 0
 have b1 := hb 1
 have b2 := hb 2
 have b3 := hb 3
 have b4 := hb 4
 unfold room at hr
 have : cl = 0 ∨ cl = 1 ∨ cl = 2 ∨ cl = 3 ∨ cl = 4 := by omega
 rcases this with rfl | rfl | rfl | rfl | rfl <;> simp only [Nat.reduceEqDiff, ↓reduceIte] at b0 b1 b2 b3 b4 <;> omega
end
theorem offO_inj {s : Nat} {cs : Nat → CS} {k i k' i' : Nat} (h1 : i < perC (cs k).cl) (h2 : i' < perC (cs k').cl) (h : offO s cs k i = offO s cs k' i') : k = k' ∧ i = i' := by
 have a1 := off_lt h1
 have a2 := off_lt h2
 have a3 := offB_ge (cs k).cl i
 have a4 := offB_ge (cs k').cl i'
 unfold offO blkO at h
 have hk : k = k' := by omega
 subst hk
 exact ⟨rfl, offB_inj (c := (cs k).cl) (by omega)⟩
section
variable {a : DA} {L T s n K : Nat} {x : HA} {cs : Nat → CS} {f : Nat → Option Nat} {N m b0 : Nat} {S : Fp} {cur : Nat → Nat} {w : World}
theorem Cap.alloc {cl k i v : Nat} {cs' : Nat → CS} {cur' : Nat → Nat} {al : List Nat} (h : Cap s K cs f al) (hd : DS a L T s n K x cs f N m b0 S cur w) (hcl : cl < 5) (ho : ResOk s K cs f cur cl cs' cur' k i) : Cap s K cs' (updF f (offO s cs' k i) (some v)) (cl :: al) := by
 obtain ⟨dl, nv, h⟩ := h
 obtain ⟨v1, v2, v3, v4, v5, v6⟩ := ho.vac
 have hout : ∀ k2 i2, k2 < K → (cs' k2).dv = true → i2 < perC (cs' k2).cl → ¬ Vac s K cs' (updF f (offO s cs' k i) (some v)) (cs' k2).cl k2 i2 → (k2, i2) = (k, i) ∨ ¬ Vac s K cs' f (cs' k2).cl k2 i2 := fun k2 i2 hk hdv hi hn => by
  by_cases e : offO s cs' k2 i2 = offO s cs' k i
  ·obtain ⟨rfl, rfl⟩ := offO_inj hi (by rw [v3]; exact v4) e
   exact .inl rfl
  ·refine .inr (fun hv => hn ⟨hv.1, hv.2.1, hv.2.2.1, hv.2.2.2.1, hv.2.2.2.2.1, ?_⟩)
   unfold updF
   rw [if_neg e]
   exact hv.2.2.2.2.2
 rcases ho.how with ⟨rfl, _⟩ | ⟨k0, hk0, hd0, hno, rfl, _⟩
 ·refine ⟨dl, fun c => if c = cl then (k, i) :: nv c else nv c, h.nd, h.of, h.all, fun k2 i2 hk hdv hi hn => ?_, fun c => ?_, fun c hc => Nat.le_trans (h.chk c hc) (List.count_le_count_cons)⟩
  ·rcases hout k2 i2 hk hdv hi hn with e | e
   ·injection e with e1 e2
    subst e1 e2
    rw [v3]
    simp
   ·have := h.non k2 i2 hk hdv hi e
    by_cases e2 : (cs' k2).cl = cl
    ·simp [e2] at this ⊢; exact .inr this
    ·simp [e2]; exact this
  ·by_cases e : c = cl
   ·subst e
    simp [List.count_cons_self]
    exact h.few c
   ·simp [e, List.count_cons_of_ne (fun h => e h.symm)]
    exact h.few c
 ·have e0 : updC cs k0 (newC cl (cs k0).g) k0 = newC cl (cs k0).g := by unfold updC; rw [if_pos rfl]
  have e1 : ∀ j, j ≠ k0 → updC cs k0 (newC cl (cs k0).g) j = cs j := fun j hj => by unfold updC; rw [if_neg hj]
  have hk0c : ∀ c, k0 ∉ dl c := fun c hc => by rw [(h.of c k0 hc).2.1] at hd0; cases hd0
  have hfull := h.full hno
  refine ⟨fun c => if c = cl then k0 :: dl c else dl c, fun c => if c = cl then (k, i) :: nv c else nv c, fun c => ?_, fun c j hj => ?_, fun j hj hdv => ?_, fun k2 i2 hk hdv hi hn => ?_, fun c => ?_, fun c hc => ?_⟩
  ·by_cases e : c = cl
   ·simp [e]; exact ⟨hk0c cl, h.nd cl⟩
   ·simp [e]; exact h.nd c
  ·by_cases ej : j = k0
   ·subst ej
    rw [e0]
    by_cases e : c = cl
    ·subst e; exact ⟨hk0, rfl, rfl⟩
    ·simp [e] at hj; exact absurd hj (hk0c c)
   ·rw [e1 j ej]
    refine h.of c j ?_
    by_cases e : c = cl
    ·subst e; simp [ej] at hj; exact hj
    ·simp [e] at hj; exact hj
  ·by_cases ej : j = k0
   ·subst ej
    rw [e0]
    exact ⟨hcl, by simp [newC]⟩
   ·rw [e1 j ej] at hdv ⊢
    obtain ⟨h1, h2⟩ := h.all j hj hdv
    refine ⟨h1, ?_⟩
    by_cases e : (cs j).cl = cl
    ·simp [e] at h2 ⊢; exact .inr h2
    ·simp [e]; exact h2
  ·rcases hout k2 i2 hk hdv hi hn with e | e
   ·injection e with e2 e3
    subst e2 e3
    rw [v3]
    simp
   ·by_cases ej : k2 = k0
    ·subst ej
     rw [e0] at hi
     exfalso
     refine e ⟨hk, hdv, rfl, by rw [e0]; exact hi, ?_, claimed_vac (T' := T) (S' := S) (cur' := cur) hd hk0 hd0 i2 hi hcl⟩
     rw [e0]
     rfl
    ·have hc2 : (updC cs k0 (newC cl (cs k0).g) k2).cl = (cs k2).cl := by rw [e1 k2 ej]
     rw [hc2] at e hi ⊢
     have hnv := h.non k2 i2 hk (by rw [← e1 k2 ej]; exact hdv) hi (fun hv => e ⟨hk, hdv, hc2, hi, by rw [e1 k2 ej]; exact hv.2.2.2.2.1, by unfold offO; rw [e1 k2 ej]; exact hv.2.2.2.2.2⟩)
     by_cases e2 : (cs k2).cl = cl
     ·simp [e2] at hnv ⊢; exact .inr hnv
     ·simp [e2]; exact hnv
  ·by_cases e : c = cl
   ·subst e
    simp [List.count_cons_self]
    exact h.few c
   ·simp [e, List.count_cons_of_ne (fun h => e h.symm)]
    exact h.few c
  ·by_cases e : c = cl
   ·subst e
    simp [List.count_cons_self]
    exact hfull
   ·simp [e] at hc
    simp [e, List.count_cons_of_ne (fun h => e h.symm)]
    exact h.chk c hc
end
end
section
open Go.RowKit Go.Maps
theorem newDirect_any (h t r : Nat) (w : World) :
  Calls Tryz.prog 150 #[.pointer (some ⟨h, 0, none⟩), .pointer (some ⟨t, 0, none⟩), .pointer (some ⟨r, 0, none⟩)] w fun e w' => e = .returned (.pointer (some ⟨w.heap.size, 0, none⟩)) ∧ w' = w.alloc (.cells #[.pointer (some ⟨h, 0, none⟩), .pointer (some ⟨t, 0, none⟩), .pointer (some ⟨r, 0, none⟩)] 147) := by
 go_enter Tryz.func150, Tryz.ntmps150
 go_wp2
 go_ret
 exact ⟨rfl, rfl⟩
structure WA where
 g : Nat
 d : Nat
 r : Nat
 u : Nat
 m : Nat
def bwCells (a : DA) (x : HA) (y : WA) (c : Nat) : Array Value := #[.pointer (some ⟨a.d, 0, none⟩), .pointer (some ⟨a.th 0, 0, none⟩), .pointer (some ⟨x.h, 0, none⟩), .pointer (some ⟨y.d, 0, none⟩), .pointer (some ⟨y.m, 0, none⟩), .int .i64 (c : Int)]
structure BW (a : DA) (L T K : Nat) (x : HA) (y : WA) (cs : Nat → CS) (f : Nat → Option Nat) (N m b0 : Nat) (S : Fp) (cur : Nat → Nat) (w : World) : Prop where
 sd : SD a L T 53 (32 * K) K x cs f N m b0 S cur w y.d y.r
 blk : Blk w y.g 46 (bwCells a x y K)
 und : Blk w y.u 322 (ulogCells a 26 26)
 mgr : Blk w y.m 331 (mgrCells (some ⟨a.th 0, 0, none⟩) (some ⟨y.r, 0, none⟩) (some ⟨y.u, 0, none⟩) (some ⟨x.h, 0, none⟩) none)
 uid : cur (8 * 26) = 0
 off : ¬ S y.g ∧ ¬ S y.u ∧ ¬ S y.m
 new : b0 ≤ y.g ∧ b0 ≤ y.d ∧ b0 ≤ y.r ∧ b0 ≤ y.u ∧ b0 ≤ y.m
 size : L = 53 + 32 * K
 few : K ≤ 12
structure Empt (K : Nat) (cur : Nat → Nat) : Prop where
 r : cur (8 * 0) = 0
 u : cur (8 * 26) = 0
 c : ∀ k, k < K → cur (8 * (53 + 32 * k)) = freeW 1
 b : ∀ i, cur i < 18446744073709551616
def RetBop (a : DA) (L T K b0 : Nat) (S : Fp) (cur : Nat → Nat) (w : World) (e : Ending) (w' : World) : Prop := ∃ x y, e = .returned (.pointer (some ⟨y.g, 0, none⟩)) ∧ BW a L T K x y (fun _ => csN) (fun _ => none) 0 0 b0 S cur w' ∧ Below w.heap.size w w'
theorem bopen_any {a : DA} {L T K b0 : Nat} {w : World} {S : Fp} {cur : Nat → Nat} (h : Dev a L T w S cur 0) (hL : L = 53 + 32 * K) (hK : 1 ≤ K) (hK12 : K ≤ 12) (ht : Tab w) (hpy : Pay w) (hp : Empt K cur) (hb0 : 2 < b0 ∧ 0 < b0 ∧ b0 ≤ w.heap.size ∧ ∀ k, S k → b0 ≤ k) :
  Calls Tryz.prog 103 #[.pointer (some ⟨a.d, 0, none⟩), .int .i64 (K : Int)] w (RetBop a L T K b0 S cur w) := by
 have HD := hid h
 have HT := hid ht
 have HP := hid hp
 have HPy := hid hpy
 have HB0 := hid hb0
 have HLK := hid (show L = 53 + 32 * K ∧ 1 ≤ K ∧ K ≤ 12 from ⟨hL, hK, hK12⟩)
 have HTh := hid (thread_any h)
 have HRo := hid (redoOpen_any h 0 26 (by omega) (by omega))
 have hb1 : Below w.heap.size w (w.alloc (.cells (logCells a 0 26) 231)) := (Below.refl _ _).alloc (Nat.le_refl _) _
 have HB1 := hid hb1
 have HBr := hid (Blk.new w 231 (logCells a 0 26))
 have HRr := hid (redoRecover_idle (h.below hb1) w.heap.size 0 26 HBr.out (by omega) hp.r)
 have hz32 : ((32 * K : Nat) : Int) = 32 * (K : Int) := by omega
 have hLs : 26 + 26 ≤ L := by omega
 have hLh : 53 + 32 * K ≤ L := by omega
 have hKn : 32 ≤ 32 * K := by omega
 have hKd : 32 * K / 32 = K := by omega
 have HAr := hid (show 26 + 26 ≤ L ∧ 53 + 32 * K ≤ L ∧ 32 ≤ 32 * K ∧ 32 * K / 32 = K from ⟨hLs, hLh, hKn, hKd⟩)
 clear h ht hp hb1 hpy hb0 hL hK hLs hLh hKn hKd
 unfold memV at *
 go_enter Tryz.func103, Tryz.ntmps103
 go_wp2_with (first
  | (go_at_call 100; refine HTh.out.mono ?_; rintro e w1 ⟨rfl, rfl⟩)
  | (go_at_call 145; refine HRo.out.mono ?_; rintro e w1 ⟨rfl, rfl⟩)
  | fail)
 generalize (w.alloc (.cells (logCells a 0 26) 231)) = W at *
 clear HRo HTh
 refine HRr.out.mono ?_
 rintro e W1 ⟨rfl, hb1⟩
 have HB2 := hid (HB1.out.trans (hb1.mono HB1.out.size))
 have HBr2 := hid (HBr.out.below hb1 HBr.out.lt)
 have HUo := hid (undoOpen_any (HD.out.below HB2.out) 26 26 (by omega) HAr.out.1)
 clear HRr hb1 HBr HB1
 unfold memV at HUo
 go_wp2_with fail
 refine HUo.out.mono ?_
 rintro e W2 ⟨rfl, rfl⟩
 have HB3 := hid (HB2.out.alloc HB2.out.size (.cells (ulogCells a 26 26) 322))
 have HBr3 := hid (HBr2.out.alloc (.cells (ulogCells a 26 26) 322))
 have HBu3 := hid (Blk.new W1 322 (ulogCells a 26 26))
 have HUr := hid (undoRecover_none (HD.out.below HB3.out) W1.heap.size 26 26 HBu3.out (by have := HAr.out.1; omega) (by omega) (by omega) HP.out.u)
 have HL3 := hid (Nat.le_trans HB2.out.size (Nat.le_refl W1.heap.size))
 obtain ⟨u, hu⟩ : ∃ u, W1.heap.size = u := ⟨_, rfl⟩
 rw [hu] at HBu3 HUr HL3 ⊢
 generalize W1.alloc (.cells (ulogCells a 26 26) 322) = W3 at *
 clear HUo HB2 HBr2 hu
 go_wp2_with fail
 refine HUr.out.mono ?_
 rintro e W4 ⟨rfl, hb1⟩
 have HB4 := hid (HB3.out.trans (hb1.mono HB3.out.size))
 have HBr4 := hid (HBr3.out.below hb1 HBr3.out.lt)
 have HBu4 := hid (HBu3.out.below hb1 HBu3.out.lt)
 have HHo := hid (heapOpenS_any (HD.out.below HB4.out) (HT.out.below HB4.out) 53 (32 * K) K HAr.out.2.2.1 HAr.out.2.1 HAr.out.2.2.2 HP.out.c)
 rw [hz32] at HHo
 clear HUr hb1 HBr3 HBu3 HB3
 unfold memV at HHo
 have hK12' : K ≤ 12 := hK12
 go_wp2_with fail
 refine HHo.out.mono ?_
 rintro e W5 ⟨x, rfl, hhs, hlow, hb1⟩
 have HB5 := hid (HB4.out.trans (hb1.mono HB4.out.size))
 have HBr5 := hid (HBr4.out.below hb1 HBr4.out.lt)
 have HBu5 := hid (HBu4.out.below hb1 HBu4.out.lt)
 have HHs5 := hid hhs
 have HLow := hid (show w.heap.size ≤ x.h ∧ w.heap.size ≤ x.gs ∧ w.heap.size ≤ x.pl ∧ w.heap.size ≤ x.mr ∧ w.heap.size ≤ x.mh by obtain ⟨l1, l2, l3, l4, l5⟩ := hlow; have := HB4.out.size; exact ⟨by omega, by omega, by omega, by omega, by omega⟩)
 clear HHo hb1 HBr4 HBu4 HB4 hhs hlow
 obtain ⟨W6, hW6⟩ : ∃ W6, W5.alloc (.cells (dirCells a x.h w.heap.size) 147) = W6 := ⟨_, rfl⟩
 obtain ⟨W7, hW7⟩ : ∃ W7, W6.alloc (.cells (mgrCells (some ⟨a.th 0, 0, none⟩) (some ⟨w.heap.size, 0, none⟩) (some ⟨u, 0, none⟩) (some ⟨x.h, 0, none⟩) none) 331) = W7 := ⟨_, rfl⟩
 have HND : Hid (Calls Tryz.prog 150 #[.pointer (some ⟨x.h, 0, none⟩), .pointer (some ⟨a.th 0, 0, none⟩), .pointer (some ⟨w.heap.size, 0, none⟩)] W5 fun e w' => e = .returned (.pointer (some ⟨W5.heap.size, 0, none⟩)) ∧ W6 = w') := hid ((newDirect_any x.h (a.th 0) w.heap.size W5).mono (fun e w' h => ⟨h.1, by rw [← hW6]; exact h.2.symm⟩))
 have HTN : Hid (Calls Tryz.prog 151 #[.pointer (some ⟨a.th 0, 0, none⟩), .pointer (some ⟨w.heap.size, 0, none⟩), .pointer (some ⟨u, 0, none⟩), .pointer (some ⟨x.h, 0, none⟩)] W6 fun e w' => e = .returned (.pointer (some ⟨W6.heap.size, 0, none⟩)) ∧ W7 = w') := hid ((txNew_any (some ⟨a.th 0, 0, none⟩) (some ⟨w.heap.size, 0, none⟩) (some ⟨u, 0, none⟩) (some ⟨x.h, 0, none⟩) W6).mono (fun e w' h => ⟨h.1, by rw [← hW7]; exact h.2.symm⟩))
 have hb6 : Below W5.heap.size W5 W6 := by rw [← hW6]; exact (Below.refl _ _).alloc (Nat.le_refl _) _
 have hb7 : Below W6.heap.size W6 W7 := by rw [← hW7]; exact (Below.refl _ _).alloc (Nat.le_refl _) _
 have hs6 : W6.heap.size = W5.heap.size + 1 := by rw [← hW6]; simp
 have hd6 : Blk W6 W5.heap.size 147 (dirCells a x.h w.heap.size) := by rw [← hW6]; exact Blk.new _ _ _
 have hm7 : Blk W7 W6.heap.size 331 (mgrCells (some ⟨a.th 0, 0, none⟩) (some ⟨w.heap.size, 0, none⟩) (some ⟨u, 0, none⟩) (some ⟨x.h, 0, none⟩) none) := by rw [← hW7]; exact Blk.new _ _ _
 have HB57 : Hid (Below W5.heap.size W5 W7) := hid (hb6.trans (hb7.mono (by omega)))
 have HB7 := hid (HB5.out.trans (HB57.out.mono HB5.out.size))
 have HD7 := hid (hd6.below hb7 hd6.lt)
 have HM7 := hid hm7
 have HSz := hid (show W6.heap.size = W5.heap.size + 1 ∧ w.heap.size ≤ W5.heap.size from ⟨hs6, HB5.out.size⟩)
 clear hW6 hW7 hb6 hb7 hs6 hd6 hm7
 go_upto_region 20 with (first
  | (go_at_call 150; refine HND.out.mono ?_; rintro e Wz ⟨rfl, rfl⟩)
  | (go_at_call 151; refine HTN.out.mono ?_; rintro e Wz ⟨rfl, rfl⟩))
 have HBg := hid (Blk.new W7 46 (bwCells a x ⟨W7.heap.size, W5.heap.size, w.heap.size, u, W6.heap.size⟩ K))
 have HBb : Hid (Below W7.heap.size W7 (W7.alloc (.cells (bwCells a x ⟨W7.heap.size, W5.heap.size, w.heap.size, u, W6.heap.size⟩ K) 46))) := hid ((Below.refl _ _).alloc (Nat.le_refl _) _)
 unfold bwCells at HBb HBg
 generalize hW8 : W7.alloc (.cells #[.pointer (some ⟨a.d, 0, none⟩), .pointer (some ⟨a.th 0, 0, none⟩), .pointer (some ⟨x.h, 0, none⟩), .pointer (some ⟨W5.heap.size, 0, none⟩), .pointer (some ⟨W6.heap.size, 0, none⟩), .int .i64 (K : Int)] 46) = W8 at *
 have f3 : W8.cell? ⟨W7.heap.size, 3, none⟩ = some (.pointer (some ⟨W5.heap.size, 0, none⟩)) := HBg.out.cell 3
 have f4 : W8.cell? ⟨W7.heap.size, 4, none⟩ = some (.pointer (some ⟨W6.heap.size, 0, none⟩)) := HBg.out.cell 4
 have HF : Hid (RetBop a L T K b0 S cur w (.returned (.pointer (some ⟨W7.heap.size, 0, none⟩))) W8) := hid (by
  have h58 : Below W5.heap.size W5 W8 := HB57.out.trans (HBb.out.mono HB57.out.size)
  have h8 : Below w.heap.size w W8 := HB5.out.trans (h58.mono HB5.out.size)
  obtain ⟨l1, l2, l3, l4, l5⟩ := HLow.out
  obtain ⟨b1, b2, b3, b4⟩ := HB0.out
  obtain ⟨k1, k2, k3⟩ := HLK.out
  obtain ⟨s1, s2⟩ := HSz.out
  have s7 : W6.heap.size ≤ W7.heap.size := by have := HM7.out.lt; omega
  have hS : ∀ g, w.heap.size ≤ g → ¬ S g := fun g hg hs => by have := HD.out.lt _ hs; omega
  have hu := HL3.out
  refine ⟨x, ⟨W7.heap.size, W5.heap.size, w.heap.size, u, W6.heap.size⟩, rfl, ⟨⟨⟨HD.out.below h8, HHs5.out.below h58, fun k hk => ?_, HP.out.b, fun o p h => (by cases h), HT.out.below h8, HPy.out.below h8, ⟨b1, b2, by omega, by omega, by omega, by omega, by omega, b4⟩, ⟨hS _ l1, hS _ l2, hS _ l3, hS _ l4, hS _ l5⟩, ⟨HAr.out.2.2.2, k2, HAr.out.2.1, by omega⟩⟩, HD7.out.below HBb.out HD7.out.lt, HBr5.out.below h58 HBr5.out.lt, HP.out.r, hS _ s2, hS _ (Nat.le_refl _), by omega⟩, HBg.out, HBu5.out.below h58 HBu5.out.lt, HM7.out.below HBb.out HM7.out.lt, HP.out.u, ⟨hS _ (by show w.heap.size ≤ W7.heap.size; omega), hS _ hu, hS _ (by show w.heap.size ≤ W6.heap.size; omega)⟩, ⟨by show b0 ≤ W7.heap.size; omega, by show b0 ≤ W5.heap.size; omega, b3, by show b0 ≤ u; omega, by show b0 ≤ W6.heap.size; omega⟩, k1, k3⟩, h8⟩
  unfold CSok csN
  exact ⟨HP.out.c k hk, (by show 0 < 1; omega), (by show 1 < 65536; omega)⟩)
 clear HB5 HBr5 HBu5 HHs5 HLow HB57 HB7 HD7 HM7 HSz HBb hW8
 go_wp2_with fail
 go_ret
 exact HF.out
end
end Go.Proofs.YtnlokpakiambaaaGreatDoor
