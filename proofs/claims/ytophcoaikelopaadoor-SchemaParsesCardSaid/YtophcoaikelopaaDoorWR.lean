/- Walks: Parse. -/
import Derived.Test.YtophcoaikelopaaDoorPW
import Derived.Test.YtophcoaikelopaaDoorWO
import Derived.Test.YtophcoaikelopaaDoorOrd
import Derived.Outline
namespace Go.Proofs.YtophcoaikelopaaDoor
open Go.RowKit

set_option maxHeartbeats 400000 in
theorem equal_any (X Y : Option Addr) (m k c c' B B' : Nat) (a b : List UInt8) (w : World) (ha : Reads w B 1 X m (bv a)) (hb : Reads w B' 1 Y k (bv b)) :
    Calls Tryd.prog 55 #[.slice X m c, .slice Y k c'] w fun e w' => e = .returned (.bool (a == b)) ∧ w = w' := by
  have h1 := conv_str c ha
  have h2 := conv_str c' hb
  have h3 : ((⟨a.toArray⟩ : ByteArray).toList == (⟨b.toArray⟩ : ByteArray).toList) = (a == b) := by simp [ByteArray.toList_eq]
  clear ha hb
  generalize (⟨a.toArray⟩ : ByteArray) = sa at *
  generalize (⟨b.toArray⟩ : ByteArray) = sb at *
  generalize (a == b) = q at *
  go_enter Tryd.func55, Tryd.ntmps55
  go_wp2
  go_ret
  exact ⟨rfl, rfl⟩
theorem text_rd (B rb : Nat) (s : RS) (w : World) (h : RSt w B rb s) : Calls Tryd.prog 51 #[.pointer (some ⟨rb, 0, none⟩)] w (RetN w B rb (.string (rdText s)) (rdTextS s)) := text_any B rb s w h
def zt : Array Value := #[.string ⟨#[]⟩, .int .i64 0, .slice none 0 0, .slice none 0 0, .int .u64 0, .int .u64 0]
/-- What stands in memory while 'Parse' runs. -/
structure PInv (w wr : World) (tb : Nat) (name : ByteArray) (ver : Int) (v u : Value) (k q : Nat) (cols : List Col) (idxs : List Idx) (s : RS) : Prop where
  below : Below w.heap.size w wr
  res : Blk wr w.heap.size 51 #[.string ⟨#[]⟩, .int .i64 0, .slice none 0 0, .slice none 0 0, .int .u64 0, .int .u64 0]
  rd : RSt wr w.heap.size (w.heap.size + 1) s
  tbl : Blk wr tb 51 #[.string name, .int .i64 ver, v, u, .int .u64 0, .int .u64 0]
  own : wr.ownsRow (tb + 1) 32 9 v k (colCells cols)
  own2 : wr.ownsRow (tb + 1) 79 2 u q (idxCells idxs)
  lt : w.heap.size + 1 < tb
section
variable {w wr w1 : World} {tb : Nat} {name : ByteArray} {ver : Int} {v u : Value} {k q : Nat} {cols : List Col} {idxs : List Idx} {s s' : RS}
theorem own_kept_ne {base : Nat} {e : TypeId} {size : Nat} {v : Value} {n : Nat} {xs : List Value} (h : wr.ownsRow base e size v n xs) {g : Nat} (hg : wr.grownBy w1 (some g)) (hne : v.ownBlock ≠ some g) : w1.ownsRow base e size v n xs := h.kept hg (.inr hne)
theorem PInv.grown (h : PInv w wr tb name ver v u k q cols idxs s) {g : Nat} (hg : wr.grownBy w1 (some g)) (h1 : w.heap.size + 1 < g) (h2 : g ≠ tb) (h3 : v.ownBlock ≠ some g) (h4 : u.ownBlock ≠ some g) : PInv w w1 tb name ver v u k q cols idxs s :=
  ⟨h.below.grown hg h.below.size (fun j hj => by injection hj with hj; omega), h.res.grown hg (fun e => by injection e; omega), h.rd.grown hg (fun j hj => by injection hj with hj; omega), h.tbl.grown hg (fun e => by injection e with e; exact h2 e.symm), own_kept_ne h.own hg h3, own_kept_ne h.own2 hg h4, h.lt⟩
theorem PInv.read (h : PInv w wr tb name ver v u k q cols idxs s) (hs : RSt w1 w.heap.size (w.heap.size + 1) s') (hg : wr.grownBy w1 (some (w.heap.size + 1))) : PInv w w1 tb name ver v u k q cols idxs s' :=
  ⟨h.below.grown hg h.below.size (fun j hj => by injection hj with hj; omega), h.res.grown hg (fun e => by injection e; omega), hs, h.tbl.grown hg (fun e => by injection e with e; have := h.lt; omega),
    own_kept_ne h.own hg (own_ne h.own (.inl (by have := h.lt; omega))).symm, own_kept_ne h.own2 hg (own_ne h.own2 (.inl (by have := h.lt; omega))).symm, h.lt⟩
theorem PInv.alloc (h : PInv w wr tb name ver v u k q cols idxs s) (o : Obj) : PInv w (wr.alloc o) tb name ver v u k q cols idxs s :=
  ⟨h.below.alloc h.below.size o, h.res.alloc o, h.rd.alloc o, h.tbl.alloc o, h.own.alloc o, h.own2.alloc o, h.lt⟩
theorem PInv.set (h : PInv w wr tb name ver v u k q cols idxs s) {g i : Nat} (x : Value) (h1 : w.heap.size + 1 < g) (h2 : g ≠ tb) (h3 : v.ownBlock ≠ some g) (h4 : u.ownBlock ≠ some g) : PInv w (wr.setCell ⟨g, i, none⟩ x) tb name ver v u k q cols idxs s :=
  h.grown (only_at x) h1 h2 h3 h4
theorem row_reads_at (W : World) (H : Nat) (hH : W.heap.size = H) (l : List Value) (k size : Nat) (e : TypeId) (o : Obj) (ho : o = .cells l.toArray e) (hl : l.length = k * size) : Reads (W.alloc o) (H + 1) size (some ⟨H, 0, none⟩) k l := by
  subst hH; exact rowN_reads W l k size e o ho hl
theorem PInv.step (h : PInv w wr tb name ver v u k q cols idxs s) (hb : Below wr.heap.size wr w1) : PInv w w1 tb name ver v u k q cols idxs s :=
  ⟨h.below.trans (hb.mono h.below.size), h.res.below hb h.res.lt, h.rd.below hb, h.tbl.below hb h.tbl.lt, own_below h.own hb, own_below h.own2 hb, h.lt⟩
theorem PInv.drew (h : PInv w wr tb name ver v u k q cols idxs s) : PInv w wr.drew tb name ver v u k q cols idxs s :=
  ⟨h.below.drew, h.res, h.rd, h.tbl, h.own.drew, h.own2.drew, h.lt⟩
theorem PInv.addC (h : PInv w wr tb name ver v u k q cols idxs s) {v' : Value} {k' : Nat} {c : Col} (hg : wr.grownBy w1 v.ownBlock) (ho : w1.ownsRow (tb + 1) 32 9 v' k' (colCells cols ++ c.cells)) :
    PInv w (w1.setCell ⟨tb, 2, none⟩ v') tb name ver v' u k' q (cols ++ [c]) idxs s := by
  have hlt := h.lt
  have hsz := h.below.size
  have hB : Below (tb + 1) wr w1 := (Below.refl _ _).grown hg h.tbl.lt (fun j hj => (h.own.lt j hj).1)
  have hne : u.ownBlock = none ∨ u.ownBlock ≠ v.ownBlock := own_own_ne h.own2 h.own (by decide)
  rw [← colCells_snoc] at ho
  refine ⟨?_, ?_, ?_, ?_, own_far ho (by show tb < tb + 1; omega) _, own_far (h.own2.kept hg hne) (by show tb < tb + 1; omega) _, hlt⟩
  · exact (h.below.trans (hB.mono (by omega))).setCell (p := ⟨tb, 2, none⟩) (by show w.heap.size ≤ tb; omega) _
  · exact (h.res.below hB (by omega)).far (p := ⟨tb, 2, none⟩) (by show w.heap.size ≠ tb; omega) _
  · exact (h.rd.grown hg (fun j hj => by have := (h.own.lt j hj).1; omega)).far (p := ⟨tb, 2, none⟩) (by show w.heap.size + 1 ≠ tb; omega) (by show w.heap.size ≤ tb; omega) _
  · exact (h.tbl.below hB (by omega)).set_ 2 _
theorem PInv.addI (h : PInv w wr tb name ver v u k q cols idxs s) {u' : Value} {q' : Nat} {c : Idx} (hg : wr.grownBy w1 u.ownBlock) (ho : w1.ownsRow (tb + 1) 79 2 u' q' (idxCells idxs ++ c.cells)) :
    PInv w (w1.setCell ⟨tb, 3, none⟩ u') tb name ver v u' k q' cols (idxs ++ [c]) s := by
  have hlt := h.lt
  have hsz := h.below.size
  have hB : Below (tb + 1) wr w1 := (Below.refl _ _).grown hg h.tbl.lt (fun j hj => (h.own2.lt j hj).1)
  have hne : v.ownBlock = none ∨ v.ownBlock ≠ u.ownBlock := own_own_ne h.own h.own2 (by decide)
  rw [← idxCells_snoc] at ho
  refine ⟨?_, ?_, ?_, ?_, own_far (h.own.kept hg hne) (by show tb < tb + 1; omega) _, own_far ho (by show tb < tb + 1; omega) _, hlt⟩
  · exact (h.below.trans (hB.mono (by omega))).setCell (p := ⟨tb, 3, none⟩) (by show w.heap.size ≤ tb; omega) _
  · exact (h.res.below hB (by omega)).far (p := ⟨tb, 3, none⟩) (by show w.heap.size ≠ tb; omega) _
  · exact (h.rd.grown hg (fun j hj => by have := (h.own2.lt j hj).1; omega)).far (p := ⟨tb, 3, none⟩) (by show w.heap.size + 1 ≠ tb; omega) (by show w.heap.size ≤ tb; omega) _
  · exact (h.tbl.below hB (by omega)).set_ 3 _
end
def colsAt (s : RS) (k : Nat) : List Col := (rdCols s k).1
def stAt (s : RS) (k : Nat) : RS := (rdCols s k).2
theorem colsAt_succ (s : RS) (k : Nat) : colsAt s (k + 1) = colsAt s k ++ [rdCol (stAt s k)] := by unfold colsAt stAt; rw [rdCols]
theorem stAt_succ (s : RS) (k : Nat) : stAt s (k + 1) = rdColS (stAt s k) := by unfold stAt; rw [rdCols]
theorem colsAt_len (s : RS) (k : Nat) : (colsAt s k).length = k := rdCols_len s k
theorem rdText_size (s : RS) : (rdText s).size ≤ 255 := by
  show (rdB (nb s) (rdS 1 s)).toArray.size ≤ 255
  rw [List.size_toArray, rdB_len]
  have := nb_lt s; omega
theorem rdVal_size (ty : Nat) (s : RS) : (rdVal ty s).text.size ≤ 255 := by
  unfold rdVal
  split
  · exact Nat.zero_le _
  split
  · exact Nat.zero_le _
  split
  · exact rdText_size (rdS 1 s)
  · exact Nat.zero_le _
theorem rdCol_name (s : RS) : (rdCol s).name = rdText s := rfl
theorem rdCol_d (s : RS) : (rdCol s).d = rdVal (nb (rdTextS s)) (rdS 2 (rdS 1 (rdS 1 (rdTextS s)))) := by unfold rdCol; with_reducible rfl
theorem colsAt_mem (s : RS) : ∀ k, ∀ c ∈ colsAt s k, c.name.size ≤ 255 ∧ c.d.text.size ≤ 255
  | 0, c, h => by cases h
  | k + 1, c, h => by
    rw [colsAt_succ, List.mem_append] at h
    rcases h with h | h
    · exact colsAt_mem s k c h
    · rw [List.mem_singleton] at h
      subst h
      rw [rdCol_name, rdCol_d]
      exact ⟨rdText_size _, rdVal_size _ _⟩
theorem pCols_eq (l : List UInt8) : pCols l = colsAt (rdS 1 (pS2 l)) (pN l) := rfl
theorem sized_p (l : List UInt8) (x : List Idx) : Sized (pTbl l x) := by
  refine ⟨?_, fun k h => ?_⟩
  · rw [show (pTbl l x).name = pName l by unfold pTbl; with_reducible rfl]
    have h1 := rdText_size (pS1 l)
    unfold pName
    generalize rdText (pS1 l) = x at *
    omega
  · have hc : (pTbl l x).cols = pCols l := by unfold pTbl; with_reducible rfl
    have hm := List.getElem_mem h
    generalize (pTbl l x).cols[k] = c at *
    rw [hc, pCols_eq] at hm
    have := colsAt_mem _ _ c hm
    omega
theorem rdIdxs_none {cols : List Col} {s : RS} {k : Nat} (h : rdIdxs cols s k = none) : ∀ j, rdIdxs cols s (k + j) = none
  | 0 => h
  | j + 1 => by
    have ih := rdIdxs_none h j
    rw [show k + (j + 1) = (k + j) + 1 from rfl, rdIdxs, ih]
theorem rdIdxs_succ {cols : List Col} {s s' : RS} {k : Nat} {x : List Idx} (h : rdIdxs cols s k = some (x, s')) (hl : nb s' < cols.length) : rdIdxs cols s (k + 1) = some (x ++ [⟨cols[nb s'].name, nb (rdS 1 s') != 0⟩], rdS 1 (rdS 1 s')) := by
  rw [rdIdxs, h]; simp only [dif_pos hl]
theorem rdIdxs_out {cols : List Col} {s s' : RS} {k : Nat} {x : List Idx} (h : rdIdxs cols s k = some (x, s')) (hl : ¬ nb s' < cols.length) : rdIdxs cols s (k + 1) = none := by
  rw [rdIdxs, h]; simp only [dif_neg hl]
section
variable {l : List UInt8} {x : List Idx} {s : RS}
theorem parse_none (h : pIdxs l = none) : parse l = none := by unfold parse; rw [h]
theorem parse_no (h : pIdxs l = some (x, s)) (hn : ¬ (valid (pTbl l x) = 0 ∧ s.e = false ∧ enc (pTbl l x) = l)) : parse l = none := by unfold parse; rw [h]; simp only [if_neg hn]
theorem parse_yes (h : pIdxs l = some (x, s)) (h1 : valid (pTbl l x) = 0) (h2 : s.e = false) (h3 : enc (pTbl l x) = l) : parse l = some (pTbl l x) := by unfold parse; rw [h]; simp only [if_pos (show _ ∧ _ ∧ _ from ⟨h1, h2, h3⟩)]
end
/-- What Parse returns. -/
def RetP (w : World) (o : Option Tbl) (e : Ending) (w' : World) : Prop := match o with
  | some t => ∃ v, e = .returned (.tuple #[v, .int .i64 0]) ∧ TblIs w' v t ∧ Below w.heap.size w w'
  | none => e = .returned (.tuple #[.agg #[.string ⟨#[]⟩, .int .i64 0, .slice none 0 0, .slice none 0 0, .int .u64 0, .int .u64 0], .int .i64 11]) ∧ Below w.heap.size w w'
set_option maxRecDepth 100000 in
set_option maxHeartbeats 8000000 in
theorem parse_any (A : Option Addr) (n c : Nat) (l : List UInt8) (w : World) (hT : Tabs w) (hr : Reads w w.heap.size 1 A n (bv l)) (hn : n ≤ c) (hc : c ≤ 9223372036854775807) :
    Calls Tryd.prog 28 #[.slice A n c] w (RetP w (parse l)) := by
  obtain ⟨R, hR⟩ : ∃ R, R = parse l := ⟨_, rfl⟩
  rw [← hR]
  have HR := Lib.hid hR
  have HL := Lib.hid hr
  have HT := Lib.hid hT
  have HS0 : Hid (∀ o, RSt ((w.alloc o).alloc (.cells #[.slice A n c, .bool false] 92)) w.heap.size (w.heap.size + 1) ⟨l, false⟩) := fun o => ⟨A, n, c, Blk.new1 w o 92 _, (hr.alloc (Nat.le_refl _) _).alloc (by simp) _, hn, hc, by omega⟩
  clear hR hr hT
  go_enter Tryd.func28, Tryd.ntmps28
  go_wp2_with fail
  refine (take_any w.heap.size (w.heap.size + 1) 1 1 rfl ⟨l, false⟩ _ (HS0.out _) (by omega)).mono ?_
  rintro e w1 ⟨Y, cy, rfl, hcy, hrd, hs1, hg1⟩
  have hres := ((Blk.new w 51 #[.string ⟨#[]⟩, .int .i64 0, .slice none 0 0, .slice none 0 0, .int .u64 0, .int .u64 0]).alloc _).grown hg1 (fun e => by injection e; omega)
  have hg0 := (only_alloc (only_alloc (World.grownBy.refl w (some (w.heap.size + 1))) _) _).trans hg1
  clear hrd hg1 hcy HS0
  go_wp2_with fail
  refine (text_rd _ _ _ _ hs1).mono ?_
  rintro e w2 ⟨rfl, hs2, hg2⟩
  have hres2 := hres.grown hg2 (fun e => by injection e; omega)
  have hg02 := hg0.trans hg2
  clear hs1 hg2 hres hg0
  go_wp2_with fail
  refine (short_any _ _ _ _ hs2).mono ?_
  rintro e w3 ⟨rfl, hs3, hg3⟩
  have hres3 := hres2.grown hg3 (fun e => by injection e; omega)
  have hg03 := hg02.trans hg3
  clear hs2 hg3 hres2 hg02
  change RSt w3 w.heap.size (w.heap.size + 1) (pS2 l) at hs3
  have HP0 : Hid (PInv w (w3.alloc (.cells #[.string (pName l), .int .i64 (pVer l), .slice none 0 0, .slice none 0 0, .int .u64 0, .int .u64 0] 51)) w3.heap.size (pName l) (pVer l) (.slice none 0 0) (.slice none 0 0) 0 0 [] [] (pS2 l)) := by
    have hb3 : Below w.heap.size w w3 := (Below.refl _ _).grown hg03 (Nat.le_refl _) (fun j hj => by injection hj with hj; omega)
    have := hs3.lt
    exact ⟨hb3.alloc hb3.size _, hres3.alloc _, hs3.alloc _, Blk.new _ _ _, World.ownsRow_nil _ _ _ _, World.ownsRow_nil _ _ _ _, this⟩
  clear hres3 hg03 hs3
  have HN0 := Lib.hid (number_any _ _ _ _ HP0.out.rd)
  change Hid (Calls _ _ _ _ (RetN _ _ _ (.int .i64 (pN l : Int)) _)) at HN0
  have hpn : pN l < 256 := nb_lt _
  have HPN := Lib.hid (show pN l = nb (pS2 l) from rfl)
  have HRC0 := Lib.hid (show rdCols (rdS 1 (pS2 l)) 0 = ([], rdS 1 (pS2 l)) from rfl)
  go_wp2_with fail
  refine HN0.out.mono ?_
  rintro e w4 ⟨rfl, hs4, hg4⟩
  have HP1 := Lib.hid (HP0.out.read hs4 hg4)
  clear hs4 hg4 HN0 HP0
  generalize w3.heap.size = tb at *
  generalize hnm : pName l = nm at *
  generalize hvr : pVer l = vr at *
  have HNM := Lib.hid hnm
  have HVR := Lib.hid hvr
  clear hnm hvr
  go_wp2
  clear HPN HRC0
  generalize hS0 : rdS 1 (pS2 l) = S0 at *
  generalize hN : pN l = N at *
  have HS0e := Lib.hid hS0
  have HNe := Lib.hid hN
  clear hS0 hN
  go_loopw [23] (fun i wr => ∃ (k : Nat) (v : Value), k ≤ N ∧ i = .int .i64 k ∧ Hid (PInv w wr tb nm vr v (.slice none 0 0) k 0 (colsAt S0 k) [] (stAt S0 k))) (fun i _ => N - (intOf i).toNat)
  case atStart => exact ⟨0, _, Nat.zero_le _, rfl, HP1⟩
  case round =>
    clear HP1
    obtain ⟨k, v, hk, rfl, hinv⟩ := hrel
    by_cases hlt : k < N
    · have HST := Lib.hid (colsAt_succ S0 k)
      have HSS := Lib.hid (stAt_succ S0 k)
      generalize colsAt S0 k = cols at *
      generalize stAt S0 k = s at *
      have HCC := Lib.hid (show rdCol s = ⟨rdText s, nb (rdTextS s), nb (rdS 1 (rdTextS s)) != 0, nb2 (rdS 1 (rdS 1 (rdTextS s))), rdVal (nb (rdTextS s)) (rdS 2 (rdS 1 (rdS 1 (rdTextS s))))⟩ from rfl)
      have HCS := Lib.hid (show rdColS s = rdValS (nb (rdTextS s)) (rdS 2 (rdS 1 (rdS 1 (rdTextS s)))) from rfl)
      have HT1 := Lib.hid (text_rd _ _ _ _ hinv.out.rd)
      generalize rdText s = name at *
      generalize rdTextS s = s1 at *
      go_wp2_with fail
      refine HT1.out.mono ?_
      rintro e wa ⟨rfl, hsa, hga⟩
      have HPa := Lib.hid (hinv.out.read hsa hga)
      have HT2 := Lib.hid (number_any _ _ _ _ hsa)
      have hty := nb_lt s1
      generalize nb s1 = ty at *
      clear hsa hga HT1 hinv
      go_wp2_with fail
      refine HT2.out.mono ?_
      rintro e wb ⟨rfl, hsb, hgb⟩
      have HPb := Lib.hid (HPa.out.read hsb hgb)
      have HT3 := Lib.hid (number_any _ _ _ _ hsb)
      have HBB : Hid ((((nb (rdS 1 s1) : Nat) : Int) != 0) = (nb (rdS 1 s1) != 0)) := show _ = _ by
        generalize nb (rdS 1 s1) = q
        cases q <;> rfl
      generalize nb (rdS 1 s1) = q1 at *
      generalize hbq : (q1 != 0) = bq at *
      clear hsb hgb HT2 HPa hbq
      go_wp2_with fail
      refine HT3.out.mono ?_
      rintro e wc ⟨rfl, hsc, hgc⟩
      have hq1 : ((q1 : Int) != 0) = bq := HBB.out
      have HPc := Lib.hid (HPb.out.read hsc hgc)
      have HT4 := Lib.hid (short_any _ _ _ _ hsc)
      generalize nb2 (rdS 1 (rdS 1 s1)) = since at *
      clear hsc hgc HT3 HPb
      go_wp2_with fail
      refine HT4.out.mono ?_
      rintro e wd ⟨rfl, hsd, hgd⟩
      have HPd := Lib.hid (HPc.out.read hsd hgd)
      clear hsd hgd HT4 HPc HBB
      go_wp2_with fail
      clear hq1
      have HT5 := fun o => Lib.hid (rdValue_any w.heap.size (w.heap.size + 1) ty _ (wd.alloc o) (HPd.out.alloc o).rd)
      generalize rdVal ty (rdS 2 (rdS 1 (rdS 1 s1))) = d at *
      generalize rdValS ty (rdS 2 (rdS 1 (rdS 1 s1))) = sd at *
      refine (HT5 _).out.mono ?_
      rintro e we ⟨rfl, hse, hge⟩
      have HPe := Lib.hid ((HPd.out.alloc _).read hse hge)
      have hcb : w.heap.size + 1 < wd.heap.size := HPd.out.rd.lt
      have htb : tb < wd.heap.size := HPd.out.tbl.lt
      have HNEv := Lib.hid (own_ne HPd.out.own (g := wd.heap.size) (.inr (Nat.le_refl _))).symm
      have HNEu := Lib.hid (own_ne HPd.out.own2 (g := wd.heap.size) (.inr (Nat.le_refl _))).symm
      have hB := (Blk.new wd 32 #[.string name, .int .u8 (ty : Int), .bool bq, .int .i64 (since : Int), .int .u8 0, .bool false, .int .i64 0, .string ⟨#[]⟩, .bool false]).grown hge (fun e => by injection e; omega)
      have b0 : we.cell? ⟨wd.heap.size, 0, none⟩ = some (.string name) := hB.cell 0
      have b1 : we.cell? ⟨wd.heap.size, 1, none⟩ = some (.int .u8 (ty : Int)) := hB.cell 1
      have b2 : we.cell? ⟨wd.heap.size, 2, none⟩ = some (.bool bq) := hB.cell 2
      have b3 : we.cell? ⟨wd.heap.size, 3, none⟩ = some (.int .i64 (since : Int)) := hB.cell 3
      have b4 : we.cell? ⟨wd.heap.size, 4, none⟩ = some (.int .u8 0) := hB.cell 4
      have z4 := hB.frozen 4
      have b5 : we.cell? ⟨wd.heap.size, 5, none⟩ = some (.bool false) := hB.cell 5
      have z5 := hB.frozen 5
      have b6 : we.cell? ⟨wd.heap.size, 6, none⟩ = some (.int .i64 0) := hB.cell 6
      have z6 := hB.frozen 6
      have b7 : we.cell? ⟨wd.heap.size, 7, none⟩ = some (.string ⟨#[]⟩) := hB.cell 7
      have z7 := hB.frozen 7
      have b8 : we.cell? ⟨wd.heap.size, 8, none⟩ = some (.bool false) := hB.cell 8
      have z8 := hB.frozen 8
      have t2 : we.cell? ⟨tb, 2, none⟩ = some v := HPe.out.tbl.cell 2
      have hne : tb ≠ wd.heap.size := by omega
      have hne' : ¬ wd.heap.size = tb := by omega
      generalize wd.heap.size = cb at *
      clear hB hse hge HT5 HPd
      obtain ⟨i0, hi0, hz0, hz1, hz2⟩ := info_parts info32
      have HP5 := Lib.hid (((((HPe.out.set (g := cb) (i := 4) (.int .u8 (d.ty : Int)) hcb (Ne.symm hne) HNEv.out HNEu.out).set (g := cb) (i := 5) (.bool d.null) hcb (Ne.symm hne) HNEv.out HNEu.out).set (g := cb) (i := 6) (.int .i64 d.int) hcb (Ne.symm hne) HNEv.out HNEu.out).set (g := cb) (i := 7) (.string d.text) hcb (Ne.symm hne) HNEv.out HNEu.out).set (g := cb) (i := 8) (.bool d.bool) hcb (Ne.symm hne) HNEv.out HNEu.out)
      rw [HCS.out] at HSS
      rw [HCC.out] at HST
      clear HPe HCS HCC HNEv HNEu
      go_wp2_with (at_builtin; refine wpList_app _ (.tmp 42) (.tmp 44) 47 rfl rfl (tb + 1) 32 i0 _ 9 72 Tryd.underlying47 hi0 hz0 hz1 hz2 rfl ?q1 v k (colCells cols) rfl ?q0 (we.heap.size + 1) (some ⟨we.heap.size, 0, none⟩) 1 1 (Col.cells ⟨name, ty, bq, since, d⟩) rfl ?q5 (cells_one _) ?q2 ?q3 ?q4 ?_; (case q1 => omega); (case q0 => exact (HP5.out.alloc _).own); (case q5 => exact row_reads_at _ _ (by simp) _ 1 9 32 _ rfl rfl); (case q2 => (unfold maxLen; omega)); (case q3 => omega); (case q4 => exact (HP5.out.alloc _).tbl.lt); intro A3 n3 c3 w8 hn3 ho3 hg3 hb3; have HN := Lib.hid ((HP5.out.alloc _).addC hg3 ho3); have hG4 := (HP5.out.alloc _).tbl.below hb3 (Nat.lt_succ_self _); have g4 : w8.cell? ⟨tb, 2, none⟩ = some v := hG4.cell 2; have hf4 := hG4.frozen 2; have HN3 := Lib.hid hn3; clear hG4 hn3 ho3 hg3 hb3)
      rw [← HST.out, ← HSS.out] at HN
      obtain rfl := HN3.out
      go_roundw
      case rel => exact ⟨k + 1, _, by omega, by go_num, HN⟩
      case measure => simp [intOf]; omega
    · obtain rfl : N = k := by omega
      have HPC : Hid (pCols l = colsAt S0 N) := show _ = _ by unfold pCols colsAt; rw [HS0e.out, HNe.out]
      have HS3 : Hid (pS3 l = stAt S0 N) := show _ = _ by unfold pS3 stAt; rw [HS0e.out, HNe.out]
      have HCL := Lib.hid (colsAt_len S0 N)
      generalize colsAt S0 N = cols at *
      generalize stAt S0 N = s3 at *
      have HT6 := Lib.hid (number_any _ _ _ _ hinv.out.rd)
      have HN2 : Hid (pN2 l = nb s3) := show _ = _ by unfold pN2; rw [HS3.out]
      have hn2 := nb_lt s3
      generalize nb s3 = N2 at *
      have HPI : Hid (pIdxs l = rdIdxs cols (rdS 1 s3) N2) := show _ = _ by unfold pIdxs; rw [HS3.out, HPC.out, HN2.out]
      go_wp2_with fail
      refine HT6.out.mono ?_
      rintro e w4 ⟨rfl, hs4, hg4⟩
      have HP2 := Lib.hid (hinv.out.read hs4 hg4)
      generalize rdS 1 s3 = S1 at *
      have HI0 : Hid (rdIdxs cols S1 0 = some ([], S1)) := show _ = _ from rfl
      clear hs4 hg4 HT6 hinv hlt hk
      go_wp2
      go_loopw [50] (fun i wr => ∃ (q : Nat) (u : Value) (x : List Idx) (s : RS), q ≤ N2 ∧ i = .int .i64 q ∧ Hid (rdIdxs cols S1 q = some (x, s)) ∧ Hid (PInv w wr tb nm vr v u N q cols x s)) (fun i _ => N2 - (intOf i).toNat)
      case atStart => exact ⟨0, _, _, _, Nat.zero_le _, rfl, HI0, HP2⟩
      case round =>
        clear HP2 HI0
        obtain ⟨q, u, x, s, hq, rfl, hx, hinv⟩ := hrel
        by_cases hlt : q < N2
        · have HT1 := Lib.hid (number_any _ _ _ _ hinv.out.rd)
          have HXS := Lib.hid (fun hl => rdIdxs_succ hx.out hl)
          have HXO := Lib.hid (fun hl => rdIdxs_out hx.out hl)
          have hiN := nb_lt s
          generalize nb s = i1 at *
          go_wp2_with fail
          refine HT1.out.mono ?_
          rintro e wa ⟨rfl, hsa, hga⟩
          have HPa := Lib.hid (hinv.out.read hsa hga)
          have HT2 := Lib.hid (number_any _ _ _ _ hsa)
          have HBB : Hid ((((nb (rdS 1 s) : Nat) : Int) != 0) = (nb (rdS 1 s) != 0)) := show _ = _ by
            generalize nb (rdS 1 s) = q
            cases q <;> rfl
          generalize nb (rdS 1 s) = q1 at *
          generalize hbq : (q1 != 0) = bq at *
          clear hsa hga HT1 hinv hbq
          go_wp2_with fail
          refine HT2.out.mono ?_
          rintro e wb ⟨rfl, hsb, hgb⟩
          have hq1 : ((q1 : Int) != 0) = bq := HBB.out
          have HPb := Lib.hid (HPa.out.read hsb hgb)
          have t2 : wb.cell? ⟨tb, 2, none⟩ = some v := HPb.out.tbl.cell 2
          have t3 : wb.cell? ⟨tb, 3, none⟩ = some u := HPb.out.tbl.cell 3
          obtain ⟨Av, cv, hve⟩ := own_slice HPb.out.own
          obtain ⟨Au, cu, hue⟩ := own_slice HPb.out.own2
          subst hve hue
          clear hsb hgb HT2 HPa HBB
          by_cases hi : i1 < N
          · have e1 : decide ((N : Int) ≤ (i1 : Int)) = false := decide_eq_false (by omega)
            have e2 : decide (N ≤ i1) = false := decide_eq_false (by omega)
            obtain ⟨hl, b1, off, hA, hbB, f0, hrest⟩ := col_facts (Reads.of_own HPb.out.own) hi
            subst hA
            clear hrest
            have HX1 := Lib.hid (HXS.out hl)
            generalize cols[i1] = cc at *
            obtain ⟨i0, hi0, hz0, hz1, hz2⟩ := info_parts info79
            have hz0' : (0 : Int) ≤ (i1 : Int) := by omega
            have hz1' : (i1 : Int) < (N : Int) := by omega
            go_wp2
            clear e1 e2
            refine wp_region_held_tail (fun w' => w'.cell? ⟨tb, 2, none⟩ = some (.slice (some ⟨b1, off, none⟩) N cv) ∧ w'.cell? ⟨tb, 3, none⟩ = some (.slice Au q cu) ∧ w'.cell? ⟨b1, off + i1 * 9, none⟩ = some (.string cc.name)) 10 (by kernel_rfl) (by kernel_rfl) rfl ⟨t2, t3, f0⟩ ?_
            simp only [List.take_succ_cons, List.take_zero]
            refine wpHeld_take (.pointer (some ⟨tb, 3, none⟩)) (by rfl) (fun w' hS => ?_) ?_
            · obtain ⟨s2, s3, s0⟩ := hS
              go_simp
            simp only [Act.put, List.setIfInBounds_toArray, List.set_cons_zero, List.set_cons_succ]
            refine wpHeld_take (.slice Au q cu) (by rfl) (fun w' hS => ?_) ?_
            · obtain ⟨s2, s3, s0⟩ := hS
              go_simp
            simp only [Act.put, List.setIfInBounds_toArray, List.set_cons_zero, List.set_cons_succ]
            refine wpHeld_take (.pointer (some ⟨tb, 2, none⟩)) (by rfl) (fun w' hS => ?_) ?_
            · obtain ⟨s2, s3, s0⟩ := hS
              go_simp
            simp only [Act.put, List.setIfInBounds_toArray, List.set_cons_zero, List.set_cons_succ]
            refine wpHeld_take (.slice (some ⟨b1, off, none⟩) N cv) (by rfl) (fun w' hS => ?_) ?_
            · obtain ⟨s2, s3, s0⟩ := hS
              go_simp
            simp only [Act.put, List.setIfInBounds_toArray, List.set_cons_zero, List.set_cons_succ]
            refine wpHeld_take (.int .i64 (i1 : Int)) (by rfl) (fun w' hS => ?_) ?_
            · obtain ⟨s2, s3, s0⟩ := hS
              go_simp
            simp only [Act.put, List.setIfInBounds_toArray, List.set_cons_zero, List.set_cons_succ]
            refine wpHeld_take (.pointer (some ⟨b1, off + i1 * 9, none⟩)) (by rfl) (fun w' hS => ?_) ?_
            · obtain ⟨s2, s3, s0⟩ := hS
              go_simp
            simp only [Act.put, List.setIfInBounds_toArray, List.set_cons_zero, List.set_cons_succ]
            refine wpHeld_take (.pointer (some ⟨b1, off + i1 * 9, none⟩)) (by rfl) (fun w' hS => ?_) ?_
            · obtain ⟨s2, s3, s0⟩ := hS
              go_simp
            simp only [Act.put, List.setIfInBounds_toArray, List.set_cons_zero, List.set_cons_succ]
            refine wpHeld_take (.string cc.name) (by rfl) (fun w' hS => ?_) ?_
            · obtain ⟨s2, s3, s0⟩ := hS
              go_simp
            simp only [Act.put, List.setIfInBounds_toArray, List.set_cons_zero, List.set_cons_succ]
            refine wpHeld_take (.bool bq) (by rfl) (fun w' hS => ?_) ?_
            · obtain ⟨s2, s3, s0⟩ := hS
              go_simp
            simp only [Act.put, List.setIfInBounds_toArray, List.set_cons_zero, List.set_cons_succ]
            refine wpHeld_take (.agg #[.string cc.name, .bool bq]) (by rfl) (fun w' hS => ?_) ?_
            · obtain ⟨s2, s3, s0⟩ := hS
              go_simp
            simp only [Act.put, List.setIfInBounds_toArray, List.set_cons_zero, List.set_cons_succ]
            show wpList _ _ _ _ _ _
            have t2' : ∀ o, (wb.alloc o).cell? ⟨tb, 2, none⟩ = some (.slice (some ⟨b1, off, none⟩) N cv) := fun o => (HPb.out.alloc o).tbl.cell 2
            have t3' : ∀ o, (wb.alloc o).cell? ⟨tb, 3, none⟩ = some (.slice Au q cu) := fun o => (HPb.out.alloc o).tbl.cell 3
            have f0' : ∀ o, (wb.alloc o).cell? ⟨b1, off + i1 * 9, none⟩ = some (.string cc.name) := fun o => (World.cell?_alloc_lt wb o _ hbB).trans f0
            go_wp2
            refine ⟨⟨t2' _, t3' _, f0' _⟩, ?_⟩
            clear t2' f0' t2 t3 f0
            go_wp2_with (at_builtin; refine wpList_app _ (.tmp 64) (.tmp 73) 48 rfl rfl (tb + 1) 79 i0 _ 2 24 Tryd.underlying48 hi0 hz0 hz1 hz2 rfl ?q1 (.slice Au q cu) q (idxCells x) rfl ?q0 (wb.heap.size + 1) (some ⟨wb.heap.size, 0, none⟩) 1 1 (Idx.cells ⟨cc.name, bq⟩) rfl ?q5 (icells_one _) ?q2 ?q3 ?q4 ?_; (case q1 => omega); (case q0 => exact (HPb.out.alloc _).drew.own2); (case q5 => exact row_reads_at _ _ (by simp) _ 1 2 79 _ rfl rfl); (case q2 => (unfold maxLen; omega)); (case q3 => omega); (case q4 => exact (HPb.out.alloc _).drew.tbl.lt); intro A3 n3 c3 w8 hn3 ho3 hg3 hb3; have HN := Lib.hid ((HPb.out.alloc _).drew.addI hg3 ho3); have hG4 := (HPb.out.alloc _).drew.tbl.below hb3 (Nat.lt_succ_self _); have g4 : w8.cell? ⟨tb, 3, none⟩ = some (.slice Au q cu) := hG4.cell 3; have hf4 := hG4.frozen 3; have HN3 := Lib.hid hn3; clear hG4 hn3 ho3 hg3 hb3)
            rename_i K0 hK0
            refine hK0 _ _ ?_
            go_wp2
            obtain rfl := HN3.out
            go_roundw
            case rel => exact ⟨q + 1, _, _, _, by omega, by go_num, HX1, HN⟩
            case measure => simp [intOf]; omega
          · have e1 : decide ((N : Int) ≤ (i1 : Int)) = true := decide_eq_true (by omega)
            have e2 : decide (N ≤ i1) = true := decide_eq_true (by omega)
            have HRN : Hid (R = none) := show _ = _ by
              rw [HR.out]
              refine parse_none ?_
              rw [HPI.out, show N2 = (q + 1) + (N2 - (q + 1)) by omega]
              exact rdIdxs_none (HXO.out (by rw [HCL.out]; exact hi)) _
            obtain rfl := HRN.out
            have r0 := HPb.out.res.cell 0
            have rz0 := HPb.out.res.frozen 0
            have r1 := HPb.out.res.cell 1
            have rz1 := HPb.out.res.frozen 1
            have r2 := HPb.out.res.cell 2
            have rz2 := HPb.out.res.frozen 2
            have r3 := HPb.out.res.cell 3
            have rz3 := HPb.out.res.frozen 3
            have r4 := HPb.out.res.cell 4
            have rz4 := HPb.out.res.frozen 4
            have r5 := HPb.out.res.cell 5
            have rz5 := HPb.out.res.frozen 5
            simp at r0 r1 r2 r3 r4 r5
            clear HT HL
            go_wp2
            refine bodyPost_ret (v := .tuple #[.agg #[.string ⟨#[]⟩, .int .i64 0, .slice none 0 0, .slice none 0 0, .int .u64 0, .int .u64 0], .int .i64 11]) (by simp [results, Tryd.results28, go_sem, r0, r1, r2, r3, r4, r5]) rfl ⟨rfl, ?_⟩
            iterate 6 (refine Below.setCell ?_ (by simp) _)
            exact HPb.out.below
        · obtain rfl : N2 = q := by omega
          have HPX : Hid (pIdxs l = some (x, s)) := show _ = _ by rw [HPI.out, hx.out]
          have HTB : Hid (pTbl l x = ⟨nm, vr, cols, x, 0, 0⟩) := show _ = _ by unfold pTbl; rw [HNM.out, HVR.out, HPC.out]
          have HSZ := Lib.hid (sized_p l x)
          have HNO : Hid (¬ (valid (pTbl l x) = 0 ∧ s.e = false ∧ enc (pTbl l x) = l) → R = none) := fun h => HR.out.trans (parse_no HPX.out h)
          have HYES : Hid (valid (pTbl l x) = 0 → s.e = false → enc (pTbl l x) = l → R = some (pTbl l x)) := fun h1 h2 h3 => HR.out.trans (parse_yes HPX.out h1 h2 h3)
          rw [HTB.out] at HSZ HNO HYES
          obtain ⟨Av, cv, hve⟩ := own_slice hinv.out.own
          obtain ⟨Au, cu, hue⟩ := own_slice hinv.out.own2
          subst hve hue
          have hcv := own_cap hinv.out.own
          have hcu := own_cap hinv.out.own2
          have HTW := Lib.hid (HT.out.below hinv.out.below)
          have HRC := Lib.hid (Reads.of_own hinv.out.own)
          have HRX := Lib.hid (Reads.of_own hinv.out.own2)
          clear HR HPX HTB HPI HNM HVR HPC hx hlt hq HNe HS0e HS3 HN2 HCL HT
          have t0 : wr.cell? ⟨tb, 0, none⟩ = some (.string nm) := hinv.out.tbl.cell 0
          have t1 : wr.cell? ⟨tb, 1, none⟩ = some (.int .i64 vr) := hinv.out.tbl.cell 1
          have t2 : wr.cell? ⟨tb, 2, none⟩ = some (.slice Av N cv) := hinv.out.tbl.cell 2
          have t3 : wr.cell? ⟨tb, 3, none⟩ = some (.slice Au N2 cu) := hinv.out.tbl.cell 3
          have t4 : wr.cell? ⟨tb, 4, none⟩ = some (.int .u64 0) := hinv.out.tbl.cell 4
          have t5 : wr.cell? ⟨tb, 5, none⟩ = some (.int .u64 0) := hinv.out.tbl.cell 5
          by_cases hv : valid ⟨nm, vr, cols, x, 0, 0⟩ = 0
          · have HBC : Hid (Calls Tryd.prog 26 #[.agg #[.string nm, .int .i64 vr, .slice Av N cv, .slice Au N2 cu, .int .u64 0, .int .u64 0]] wr (RetE wr (enc ⟨nm, vr, cols, x, 0, 0⟩))) := bytes_good ⟨nm, vr, cols, x, 0, 0⟩ Av Au N cv N2 cu wr HTW.out HSZ.out HRC.out HRX.out hv
            have HV := Lib.hid hv
            clear hv
            go_wp2_with fail
            refine HBC.out.mono ?_
            rintro e wB ⟨AE, nE, cE, rfl, hoE, hbE⟩
            have HPB := Lib.hid (hinv.out.step hbE)
            have HOE := Lib.hid (Reads.of_own hoE)
            have HLB := Lib.hid (HL.out.below HPB.out.below)
            obtain ⟨X0, m0, cx0, hBlk, _, _, _, _⟩ := HPB.out.rd
            clear t0 t1 t2 t3 t4 t5 hoE hbE HBC HL
            have ce : wB.cell? ⟨w.heap.size + 1, 1, none⟩ = some (.bool s.e) := hBlk.cell 1
            clear hBlk
            generalize enc ⟨nm, vr, cols, x, 0, 0⟩ = el at *
            have HEQ := Lib.hid (equal_any AE A nE n cE c _ _ el l wB HOE.out HLB.out)
            have r0 := HPB.out.res.cell 0
            have rz0 := HPB.out.res.frozen 0
            have r1 := HPB.out.res.cell 1
            have rz1 := HPB.out.res.frozen 1
            have r2 := HPB.out.res.cell 2
            have rz2 := HPB.out.res.frozen 2
            have r3 := HPB.out.res.cell 3
            have rz3 := HPB.out.res.frozen 3
            have r4 := HPB.out.res.cell 4
            have rz4 := HPB.out.res.frozen 4
            have r5 := HPB.out.res.cell 5
            have rz5 := HPB.out.res.frozen 5
            simp at r0 r1 r2 r3 r4 r5
            cases hse : s.e with
            | true =>
              obtain rfl := HNO.out (fun h => by rw [hse] at h; cases h.2.1)
              rw [hse] at ce
              clear hse
              go_wp2
              refine bodyPost_ret (v := .tuple #[.agg #[.string ⟨#[]⟩, .int .i64 0, .slice none 0 0, .slice none 0 0, .int .u64 0, .int .u64 0], .int .i64 11]) (by simp [results, Tryd.results28, go_sem, r0, r1, r2, r3, r4, r5]) rfl ⟨rfl, ?_⟩
              iterate 6 (refine Below.setCell ?_ (by simp) _)
              exact HPB.out.below
            | false =>
              rw [hse] at ce
              by_cases hel : el = l
              · obtain rfl := HYES.out HV.out hse hel
                rw [show (el == l) = true by simp [hel]] at HEQ
                clear hse hel HNO HYES HV
                have t0 : wB.cell? ⟨tb, 0, none⟩ = some (.string nm) := HPB.out.tbl.cell 0
                have t1 : wB.cell? ⟨tb, 1, none⟩ = some (.int .i64 vr) := HPB.out.tbl.cell 1
                have t2 : wB.cell? ⟨tb, 2, none⟩ = some (.slice Av N cv) := HPB.out.tbl.cell 2
                have t3 : wB.cell? ⟨tb, 3, none⟩ = some (.slice Au N2 cu) := HPB.out.tbl.cell 3
                have t4 : wB.cell? ⟨tb, 4, none⟩ = some (.int .u64 0) := HPB.out.tbl.cell 4
                have t5 : wB.cell? ⟨tb, 5, none⟩ = some (.int .u64 0) := HPB.out.tbl.cell 5
                have HPBo := Lib.hid HPB.out
                go_wp2_with (go_at_call 55; refine HEQ.out.mono ?_; rintro e w9 ⟨rfl, rfl⟩)
                refine bodyPost_ret (v := .tuple #[.agg #[.string nm, .int .i64 vr, .slice Av N cv, .slice Au N2 cu, .int .u64 0, .int .u64 0], .int .i64 0]) (by simp [results, Tryd.results28, go_sem, r0, r1, r2, r3, r4, r5]) rfl ⟨_, rfl, ⟨Av, N, cv, Au, N2, cu, rfl, Reads.of_own (base := tb + 1) (e := 32) (c := cv) ?_, Reads.of_own (base := tb + 1) (e := 79) (c := cu) ?_, hcv.1, hcu.1⟩, ?_⟩
                · iterate 6 (refine own_far ?_ (by have := HPB.out.lt; simp; omega) _)
                  exact HPB.out.own
                · iterate 6 (refine own_far ?_ (by have := HPB.out.lt; simp; omega) _)
                  exact HPB.out.own2
                · iterate 6 (refine Below.setCell ?_ (by simp) _)
                  exact HPB.out.below
              · obtain rfl := HNO.out (fun h => hel h.2.2)
                rw [show (el == l) = false by simp [hel]] at HEQ
                clear hse hel
                go_wp2_with (go_at_call 55; refine HEQ.out.mono ?_; rintro e w9 ⟨rfl, rfl⟩)
                refine bodyPost_ret (v := .tuple #[.agg #[.string ⟨#[]⟩, .int .i64 0, .slice none 0 0, .slice none 0 0, .int .u64 0, .int .u64 0], .int .i64 11]) (by simp [results, Tryd.results28, go_sem, r0, r1, r2, r3, r4, r5]) rfl ⟨rfl, ?_⟩
                iterate 6 (refine Below.setCell ?_ (by simp) _)
                exact HPB.out.below
          · have HBC : Hid (Calls Tryd.prog 26 #[.agg #[.string nm, .int .i64 vr, .slice Av N cv, .slice Au N2 cu, .int .u64 0, .int .u64 0]] wr fun e w' => e = .returned (.tuple #[.slice none 0 0, .int .i64 (valid ⟨nm, vr, cols, x, 0, 0⟩)]) ∧ Below wr.heap.size wr w') := bytes_bad ⟨nm, vr, cols, x, 0, 0⟩ Av Au N cv N2 cu wr HTW.out HSZ.out HRC.out HRX.out (by omega) (by omega) hv
            obtain rfl := HNO.out (fun h => hv h.1)
            clear HNO HYES
            generalize valid ⟨nm, vr, cols, x, 0, 0⟩ = vd at *
            have e1 : (vd != 0) = true := by rw [bne_iff_ne]; exact hv
            clear hv
            go_wp2_with fail
            refine HBC.out.mono ?_
            rintro e wB ⟨rfl, hbE⟩
            have HPB := Lib.hid (hinv.out.step hbE)
            have r0 := HPB.out.res.cell 0
            have rz0 := HPB.out.res.frozen 0
            have r1 := HPB.out.res.cell 1
            have rz1 := HPB.out.res.frozen 1
            have r2 := HPB.out.res.cell 2
            have rz2 := HPB.out.res.frozen 2
            have r3 := HPB.out.res.cell 3
            have rz3 := HPB.out.res.frozen 3
            have r4 := HPB.out.res.cell 4
            have rz4 := HPB.out.res.frozen 4
            have r5 := HPB.out.res.cell 5
            have rz5 := HPB.out.res.frozen 5
            simp at r0 r1 r2 r3 r4 r5
            clear t0 t1 t2 t3 t4 t5
            go_wp2
            refine bodyPost_ret (v := .tuple #[.agg #[.string ⟨#[]⟩, .int .i64 0, .slice none 0 0, .slice none 0 0, .int .u64 0, .int .u64 0], .int .i64 11]) (by simp [results, Tryd.results28, go_sem, r0, r1, r2, r3, r4, r5]) rfl ⟨rfl, ?_⟩
            iterate 6 (refine Below.setCell ?_ (by simp) _)
            exact HPB.out.below
end Go.Proofs.YtophcoaikelopaaDoor
