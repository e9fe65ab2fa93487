/- The walks and laws that the claim leans on, part 36. -/
import Derived.Test.YtnlokpakiambaaaGreatDoorJbi
import Derived.Shelf.SlSortCmp.NoneTotal
import Derived.Ground.SlsfProg
set_option maxRecDepth 100000
set_option maxHeartbeats 16000000
namespace Go.Proofs.YtnlokpakiambaaaGreatDoor
open Go.Lib (hid)
section
open Go.RowKit Go.Maps Go.Shelf Go.Sort
def nmEnc (x:List Nat × Nat):List Value:=[.string (strN x.1), .int .u64 (x.2:Int)]
theorem flat_nm (l:List (List Nat × Nat)):flatK nmEnc 2 l.toArray=(itCells l).toArray:=by
 apply Array.ext
 ·rw [size_flatK,List.size_toArray,List.size_toArray,itCells_len]
 ·intro t h1 h2
  rw [size_flatK,List.size_toArray] at h1
  have h3:=get_flatK nmEnc 2 l.toArray t (by rw [List.size_toArray];exact h1)
  have hq:t / 2 < l.length:=by omega
  have h4:=itCells_at l (t / 2) (t % 2) hq (Nat.mod_lt _ (by decide))
  rw [show t / 2 * 2+t % 2=t by omega] at h4
  have e1:l.toArray[t / 2]! = l[t / 2]:=by
   rw [getElem!_pos l.toArray (t / 2) (by rw [List.size_toArray];exact hq)]
   rfl
  rw [e1] at h3
  rw [← getElem!_pos (flatK nmEnc 2 l.toArray) t (by rw [size_flatK,List.size_toArray];exact h1),h3]
  have h5:((itCells l).toArray)[t]=(itCells l)[t]'(by rw [itCells_len];omega):=rfl
  rw [h5]
  apply Option.some.inj
  rw [← List.getElem?_eq_getElem,h4]
  have hm:t % 2 < 2:=Nat.mod_lt _ (by decide)
  show some (nmEnc l[t / 2])[t % 2]! = (nmEnc l[t / 2])[t % 2]?
  rw [List.getElem?_eq_getElem (show t % 2 < (nmEnc l[t / 2]).length from hm),getElem!_pos (nmEnc l[t / 2]) (t % 2) hm]
  rfl
theorem own_holds {w:World} {base g m c:Nat} {l:List (List Nat × Nat)} (h:w.ownsRow base 106 2 (.slice (some ⟨g,0,none⟩) m c) m (itCells l)):HoldsK nmEnc 2 w g 0 l.toArray:=by
 unfold HoldsK
 rw [flat_nm]
 intro j hj
 rw [List.size_toArray] at hj
 rw [Nat.zero_add]
 refine ⟨?_,h.frozenAt j⟩
 obtain ⟨b,off,hA,_,hc⟩:=(Reads.of_own h).plain (by have:=h.1;rw [this] at hj;omega) (by decide)
 cases hA
 have h1:=hc j _ (List.getElem?_eq_getElem hj)
 rw [Nat.zero_add] at h1
 rw [h1,getElem!_pos (itCells l).toArray j (by rw [List.size_toArray];exact hj)]
 rfl
theorem take_putCells (F cur:Array Value) (h:F.size≤cur.size):((putCells id 0 F cur).toList).take F.size=F.toList:=by
 apply List.ext_getElem?
 intro i
 by_cases hi:i < F.size
 ·rw [List.getElem?_take_of_lt hi,Array.getElem?_toList,Array.getElem?_toList]
  unfold putCells
  rw [Array.getElem?_mapIdx,Array.getElem?_eq_getElem (show i < cur.size by omega),Array.getElem?_eq_getElem hi]
  simp [hi]
 ·rw [List.getElem?_eq_none (by rw [List.length_take];omega),List.getElem?_eq_none (by rw [Array.length_toList];omega)]
theorem sorted_own {w:World} {base g m c n:Nat} {os:Array Obj} {l l':List (List Nat × Nat)} (h:w.ownsRow base 106 2 (.slice (some ⟨g,0,none⟩) m c) m (itCells l)) (hl:l'.length=l.length) (hb:base≤g) :
  (sortWorldK nmEnc 2 w g 0 n l'.toArray os).ownsRow base 106 2 (.slice (some ⟨g,0,none⟩) m c) m (itCells l')∧Below base w (sortWorldK nmEnc 2 w g 0 n l'.toArray os):=by
 have hlen:(itCells l').length=m * 2:=by rw [itCells_len,hl,← itCells_len];exact h.1
 rcases h.2 with ⟨h',_⟩ | ⟨g',cap',cur,h',hbg,hg,hnc,hcm,hcs,htake⟩
 ·simp at h'
 ·simp only [Value.slice.injEq,Option.some.injEq,Addr.mk.injEq,and_true,true_and] at h'
  obtain ⟨rfl,rfl⟩:=h'
  have hgl:g < w.heap.size:=by
   rcases Nat.lt_or_ge g w.heap.size with h | h
   ·exact h
   ·rw [Array.getElem?_eq_none h] at hg
    cases hg
  have hF:(flatK nmEnc 2 l'.toArray)=(itCells l').toArray:=flat_nm l'
  have hheap:(sortWorldK nmEnc 2 w g 0 n l'.toArray os).heap=w.heap.modify g (onCells (putCells id 0 (itCells l').toArray))++os:=by
   unfold sortWorldK putRowK putRow
   rw [hF]
   rfl
  refine ⟨⟨hlen, .inr ⟨g,c,putCells id 0 (itCells l').toArray cur,rfl,hb,?_,hnc,hcm,?_,?_⟩⟩,?_⟩
  ·rw [hheap,Array.getElem?_append_left (by rw [Array.size_modify];exact hgl),Array.getElem?_modify,if_pos rfl,hg]
   rfl
  ·unfold putCells
   rw [Array.size_mapIdx]
   exact hcs
  ·have h1:=take_putCells (itCells l').toArray cur (by rw [List.size_toArray,hlen];have:=Nat.mul_le_mul_right 2 hnc;omega)
   rw [List.size_toArray,hlen] at h1
   rw [h1]
  ·refine ⟨rfl,rfl,rfl,?_,fun k hk=>?_⟩
   ·rw [hheap,Array.size_append,Array.size_modify]
    omega
   ·rw [hheap,Array.getElem?_append_left (by rw [Array.size_modify];omega),Array.getElem?_modify,if_neg (by omega)]
structure SortNm (l l':List (List Nat × Nat)):Prop where
 len:l'.length=l.length
 perm:l'.Perm l
 up:∀ i j (hi:i < l'.length) (hj:j < l'.length),i < j→¬ nmCf l'[j] l'[i] < 0
def SrtNm:Prop:=∀ {w:World} {base m c:Nat} {A:Option Addr} {l:List (List Nat × Nat)},w.ownsRow base 106 2 (.slice A m c) m (itCells l)→m≤100 →
  Calls Tryz.prog 89 #[.slice A m c, .func (.func 90) #[] #[]] w fun e w'=>e = .returned (.tuple #[])∧∃ l',SortNm l l'∧w'.ownsRow base 106 2 (.slice A m c) m (itCells l')∧Below base w w'
end
section
open Go.RowKit Go.Maps Go.Shelf Go.Sort
def Tryz.sortNm_ren : Go.Shelf.Ren := ⟨fun | 6 => 89 | 15 => 136 | 14 => 135 | 28 => 181 | 29 => 182 | 20 => 173 | 21 => 174 | 22 => 175 | 23 => 176 | 24 => 177 | 25 => 178 | 26 => 179 | 27 => 180 | 46 => 222 | 47 => 223 | 48 => 224 | 49 => 225 | 50 => 226 | 57 => 251 | n => n, fun | 22 => 103 | 24 => 106 | 25 => 180 | 3 => 3 | 39 => 144 | 0 => 0 | 53 => 208 | 55 => 23 | 4 => 4 | 46 => 309 | 45 => 308 | 50 => 215 | 5 => 5 | 9 => 9 | 66 => 355 | 70 => 358 | 76 => 377 | 77 => 47 | n => n, fun | n => n⟩
theorem Tryz.sortNm : Go.Proofs.SlLaysF0.n6 Tryz.prog Tryz.sortNm_ren := {
  mixed := by kernel_rfl
  f6 := ⟨Tryz.f89.name, by decide, Tryz.func89.trans (congrArg some (by kernel_rfl))⟩
  f14 := ⟨Tryz.f135.name, by decide, Tryz.func135.trans (congrArg some (by kernel_rfl))⟩
  f15 := Tryz.func136.trans (congrArg some (by kernel_rfl))
  f20 := ⟨Tryz.f173.name, by decide, Tryz.func173.trans (congrArg some (by kernel_rfl))⟩
  f21 := ⟨Tryz.f174.name, by decide, Tryz.func174.trans (congrArg some (by kernel_rfl))⟩
  f22 := ⟨Tryz.f175.name, by decide, Tryz.func175.trans (congrArg some (by kernel_rfl))⟩
  f23 := ⟨Tryz.f176.name, by decide, Tryz.func176.trans (congrArg some (by kernel_rfl))⟩
  f24 := ⟨Tryz.f177.name, by decide, Tryz.func177.trans (congrArg some (by kernel_rfl))⟩
  f25 := ⟨Tryz.f178.name, by decide, Tryz.func178.trans (congrArg some (by kernel_rfl))⟩
  f26 := ⟨Tryz.f179.name, by decide, Tryz.func179.trans (congrArg some (by kernel_rfl))⟩
  f27 := ⟨Tryz.f180.name, by decide, Tryz.func180.trans (congrArg some (by kernel_rfl))⟩
  f28 := Tryz.func181.trans (congrArg some (by kernel_rfl))
  f29 := Tryz.func182.trans (congrArg some (by kernel_rfl))
  f46 := ⟨Tryz.f222.name, by decide, Tryz.func222.trans (congrArg some (by kernel_rfl))⟩
  f47 := Tryz.func223.trans (congrArg some (by kernel_rfl))
  f48 := Tryz.func224.trans (congrArg some (by kernel_rfl))
  f49 := ⟨Tryz.f225.name, by decide, Tryz.func225.trans (congrArg some (by kernel_rfl))⟩
  f50 := ⟨Tryz.f226.name, by decide, Tryz.func226.trans (congrArg some (by kernel_rfl))⟩
  f57 := ⟨Tryz.f251.name, by decide, Tryz.func251.trans (congrArg some (by kernel_rfl))⟩
  t0 := Tryz.underlying0
  a0 := Tryz.isAgg0
  z0 := Tryz.sizeOf0
  v0 := Tryz.zeroValue0
  t3 := Tryz.underlying3
  a3 := Tryz.isAgg3
  z3 := Tryz.sizeOf3
  v3 := Tryz.zeroValue3
  t4 := Tryz.underlying4
  a4 := Tryz.isAgg4
  z4 := Tryz.sizeOf4
  v4 := Tryz.zeroValue4
  t5 := Tryz.underlying5
  a5 := Tryz.isAgg5
  z5 := Tryz.sizeOf5
  v5 := Tryz.zeroValue5
  t9 := Tryz.underlying9
  a9 := Tryz.isAgg9
  z9 := Tryz.sizeOf9
  v9 := Tryz.zeroValue9
  t22 := Tryz.underlying103
  a22 := Tryz.isAgg103
  z22 := Tryz.sizeOf103
  v22 := Tryz.zeroValue103
  t25 := Tryz.underlying180
  a25 := Tryz.isAgg180
  z25 := Tryz.sizeOf180
  v25 := Tryz.zeroValue180
  t39 := Tryz.underlying144
  a39 := Tryz.isAgg144
  z39 := Tryz.sizeOf144
  v39 := Tryz.zeroValue144
  t45 := Tryz.underlying308
  a45 := Tryz.isAgg308
  z45 := Tryz.sizeOf308
  v45 := Tryz.zeroValue308
  t46 := Tryz.underlying309
  a46 := Tryz.isAgg309
  z46 := Tryz.sizeOf309
  v46 := Tryz.zeroValue309
  t50 := Tryz.underlying215
  a50 := Tryz.isAgg215
  z50 := Tryz.sizeOf215
  v50 := Tryz.zeroValue215
  t53 := Tryz.underlying208
  a53 := Tryz.isAgg208
  z53 := Tryz.sizeOf208
  v53 := Tryz.zeroValue208
  t55 := Tryz.underlying23
  a55 := Tryz.isAgg23
  z55 := Tryz.sizeOf23
  v55 := Tryz.zeroValue23
  t66 := Tryz.underlying355
  a66 := Tryz.isAgg355
  z66 := Tryz.sizeOf355
  v66 := Tryz.zeroValue355
  t70 := Tryz.underlying358
  a70 := Tryz.isAgg358
  z70 := Tryz.sizeOf358
  v70 := Tryz.zeroValue358
  t76 := Tryz.underlying377
  a76 := Tryz.isAgg377
  z76 := Tryz.sizeOf377
  v76 := Tryz.zeroValue377
  t77 := Tryz.underlying47
  a77 := Tryz.isAgg47
  z77 := Tryz.sizeOf47
  v77 := Tryz.zeroValue47 }
theorem SortNm.of {l:List (List Nat × Nat)} {d':Array (List Nat × Nat)} (hp:PermIn 0 l.toArray.size l.toArray d') (hs:SortedIn (ltOf nmCf) 0 l.toArray.size d'):SortNm l d'.toList:=by
 obtain ⟨h1,_,h3⟩:=hp
 have h1:d'.size=l.length:=h1
 have h3:(d'.extract 0 l.length).toList.Perm (l.toArray.extract 0 l.length).toList:=h3
 have hs:SortedIn (ltOf nmCf) 0 l.length d':=hs
 have hl:d'.toList.length=l.length:=by rw [Array.length_toList];exact h1
 refine ⟨hl,?_,fun i j hi hj hij hc=>?_⟩
 ·have e1:(d'.extract 0 l.length)=d':=by rw [← h1];exact Array.extract_size
  have e2:(l.toArray.extract 0 l.length)=l.toArray:=by
   have h4:=Array.extract_size (xs:=l.toArray)
   rw [List.size_toArray] at h4
   exact h4
  rw [e1,e2] at h3
  exact h3
 ·have h4:=hs i j (Nat.zero_le _) hij (by omega)
  rw [getElem!_pos d' j (by rw [h1];omega),getElem!_pos d' i (by rw [h1];omega)] at h4
  unfold ltOf at h4
  exact of_decide_eq_false h4 hc
theorem nmSort_any {w:World} {base m c:Nat} {A:Option Addr} {l:List (List Nat × Nat)} (h:w.ownsRow base 106 2 (.slice A m c) m (itCells l)) (hm:m≤100) :
  Calls Tryz.prog 89 #[.slice A m c, .func (.func 90) #[] #[]] w fun e w'=>e = .returned (.tuple #[])∧∃ l',SortNm l l'∧w'.ownsRow base 106 2 (.slice A m c) m (itCells l')∧Below base w w':=by
 have hlm:l.length=m:=by have:=h.1;rw [itCells_len] at this;omega
 by_cases h0:m=0
 ·subst h0
  have hn:l=[]:=List.length_eq_zero_iff.1 hlm
  have hcon:=AnyF.slices_SortFunc_none Tryz.sortNm A c (.func (.func 90) #[] #[]) w
  change Calls Tryz.prog 89 _ _ _ at hcon
  refine hcon.mono ?_
  rintro e w' ⟨rfl,rfl⟩
  refine ⟨rfl,[],⟨by rw [hn],by rw [hn],fun i j hi=>absurd hi (by simp)⟩,?_,Below.refl _ _⟩
  rw [hn] at h
  exact h
 ·have hA:∃ g,A=some ⟨g,0,none⟩∧base≤g∧g < w.heap.size:=by
   rcases h.2 with ⟨h1,h2⟩ | ⟨g,cap,cur,h1,h2,h3,_⟩
   ·exact absurd h2 h0
   ·injection h1 with h1
    refine ⟨g,h1,h2,?_⟩
    rcases Nat.lt_or_ge g w.heap.size with h | h
    ·exact h
    ·rw [Array.getElem?_eq_none h] at h3
     cases h3
  obtain ⟨g,rfl,hb,hg⟩:=hA
  have eg:∀ args w,(callFunc 90 args).run Tryz.prog w = .ok (.enter 90 args) w:=enters_of Tryz.func90 (by kernel_rfl) rfl
  have hcmp:CmpLays Tryz.prog 90 #[] nmEnc 2 nmCf g 0 l.toArray.size w:=fun _ _ _ _ x y=>snList1_any (strN x.1) (strN y.1) x.2 y.2 _
  have hcon:=AnyQ.slices_SortFunc Tryz.sortNm 2 Tryz.isAgg106 Tryz.sizeOf106 nmEnc (fun _=>rfl) (fun x v hv=>by simp [nmEnc] at hv;rcases hv with rfl | rfl <;> rfl) nmCf nmSwo 90 #[] g 0 c l.toArray w eg hcmp (own_holds h) hg (by rw [List.size_toArray,hlm];omega)
  change Calls Tryz.prog 89 _ _ _ at hcon
  rw [List.size_toArray,hlm] at hcon
  refine hcon.mono ?_
  rintro e w' ⟨rfl,d',n,os,hp,hs,rfl⟩
  have hp':PermIn 0 l.toArray.size l.toArray d':=by rw [List.size_toArray,hlm];exact hp
  have hs':SortedIn (ltOf nmCf) 0 l.toArray.size d':=by rw [List.size_toArray,hlm];exact hs
  have hS:=SortNm.of hp' hs'
  obtain ⟨g1,g2⟩:=sorted_own (n:=n) (os:=os) h hS.len hb
  exact ⟨rfl,d'.toList,hS,g1,g2⟩
end
section
open Go.RowKit Go.Maps
theorem decL_mem:∀ (n:Nat) (xs:List Nat) (l:List (List Nat × Nat)),decL n xs=some l→l.length=n∧∀ p∈l,p.1.length≤16∧(∀ b∈p.1,b < 256)∧((∀ x∈xs,x < 18446744073709551616)→p.2 < 18446744073709551616)
 | 0,xs,l,h=>by
  have h':some []=some l:=h
  cases h'
  exact ⟨rfl,fun p hp=>absurd hp (by simp)⟩
 | n+1,xs,l,h=>by
  unfold decL at h
  cases hp:decP (xs.take 4) with
  | none =>
   rw [hp] at h
   cases h
  | some p =>
   rw [hp] at h
   have h2:(decL n (xs.drop 4)).map (p :: ·)=some l:=h
   cases ht:decL n (xs.drop 4) with
   | none =>
    rw [ht] at h2
    cases h2
   | some t =>
    rw [ht] at h2
    have h3:p :: t=l:=by
     injection h2
    subst h3
    obtain ⟨g1,g2⟩:=decL_mem n (xs.drop 4) t ht
    refine ⟨by rw [List.length_cons,g1],fun q hq=>?_⟩
    rcases List.mem_cons.1 hq with rfl | hq
    ·unfold decP at hp
     cases hn:decN ((xs.take 4).take 3) with
     | none =>
      rw [hn] at hp
      cases hp
     | some nm =>
      rw [hn] at hp
      have h4:(nm,(xs.take 4).getD 3 0)=q:=by injection hp
      subst h4
      unfold decN at hn
      split at hn
      ·cases hn
      ·rename_i h16
       split at hn
       ·cases hn
       ·split at hn
        ·have h5:=Option.some.inj hn
         subst h5
         refine ⟨by rw [unpB_len];omega,fun b hb=>?_,fun hx=>?_⟩
         ·unfold unpB at hb
          obtain ⟨i,_,rfl⟩:=List.mem_map.1 hb
          exact Nat.mod_lt _ (by decide)
         ·show (xs.take 4).getD 3 0 < _
          rw [List.getD_eq_getElem?_getD]
          cases he:(xs.take 4)[3]? with
          | none=>exact show (0:Nat) < 18446744073709551616 by omega
          | some y=>exact hx y (List.mem_of_mem_take (List.mem_of_getElem? he))
        ·cases hn
    ·obtain ⟨q1,q2,q3⟩:=g2 q hq
     exact ⟨q1,q2,fun hx=>q3 (fun x hx'=>hx x (List.mem_of_mem_drop hx'))⟩
theorem decA_mem {xs:List Nat} {l:List (List Nat × Nat)} (h:decA xs=some l):l.length≤8∧∀ p∈l,p.1.length≤16∧(∀ b∈p.1,b < 256)∧((∀ x∈xs,x < 18446744073709551616)→p.2 < 18446744073709551616):=by
 unfold decA at h
 split at h
 ·cases h
 ·rename_i h8
  split at h
  ·cases h
  ·obtain ⟨g1,g2⟩:=decL_mem _ _ _ h
   refine ⟨by omega,fun p hp=>?_⟩
   obtain ⟨q1,q2,q3⟩:=g2 p hp
   exact ⟨q1,q2,fun hx=>q3 (fun x hx'=>hx x (List.mem_of_mem_drop hx'))⟩
theorem strN_size (l:List Nat):(strN l).size=l.length:=by
 show (l.map UInt8.ofNat).toArray.size=_
 simp
def rgR (cur:Nat→Nat) (chk:Nat→Nat) (p:Nat):Option (Nat × List (List Nat × Nat)) × Nat :=
 if chk p≠0 then (none,12) else match decA (rgW cur (pOff p / 8+1)) with
  | none=>(none,11)
  | some l=>if sndP (cur (pOff p / 8)) l=true then (some (cur (pOff p / 8),l),0) else (none,11)
def RetRg (w:World) (R:Option (Nat × List (List Nat × Nat)) × Nat) (e:Ending) (w':World):Prop:=(match R.1 with
 | some q=>∃ A m c,e = .returned (.tuple #[.int .u64 (q.1:Int), .slice A m c, .int .i64 0])∧m=q.2.length∧w'.ownsRow w.heap.size 159 2 (.slice A m c) m (itCells q.2)
 | none=>e = .returned (.tuple #[.int .u64 0, .slice none 0 0, .int .i64 (R.2:Int)]))∧Below w.heap.size w w'
theorem aheadDCheck8 (p : Addr) (w : World) : (nilAhead 563 43 (.pointer (some p)) "Check").run Tryz.prog w = .ok (some false) w := by kernel_rfl
section
variable {a:DA} {L T s n K:Nat} {x:HA} {cs:Nat→CS} {f:Nat→Option Nat} {N m b0:Nat} {S:Fp} {cur:Nat→Nat} {w:World} {d r:Nat}
theorem rgRead_any (h:SD a L T s n K x cs f N m b0 S cur w d r) (g p:Nat) (hg:Blk w g 153 #[.int .u64 (p:Int)]) (hp:p < 18446744073709551616) (hr:chkR s K cs p 8=0→p≠0∧pOff p % 8=0∧pOff p+272≤64 * L) :
  Calls Tryz.prog 77 #[.pointer (some ⟨g,0,none⟩), .iface 43 (.pointer (some ⟨d,0,none⟩))] w (RetRg w (rgR cur (fun q=>chkR s K cs q 8) p)):=by
 have HEr:Hid (∀ W,Below w.heap.size w W→Calls Tryz.prog 288 #[.pointer (some ⟨d,0,none⟩)] W fun e w'=>e = .returned (.int .i64 0)∧W=w'):=hid (fun W hW=>errD (h.below hW).ds.dev (h.below hW).dir)
 have HC:Hid (∀ W,Below w.heap.size w W→Calls Tryz.prog 30 #[.pointer (some ⟨d,0,none⟩), .int .u64 (p:Int), .int .u8 8] W fun e w'=>e = .returned (.int .i64 (chkR s K cs p 8:Int))∧Below W.heap.size W w'):=hid (fun W hW=>checkD (h.below hW) p 8 hp (by decide))
 have HG:Hid (∀ W,Below w.heap.size w W→W.cell? ⟨g,0,none⟩=some (.int .u64 (p:Int))):=hid (fun W hW=>(hg.below hW hg.lt).cell 0)
 have hmC:=methDCheck (some ⟨d,0,none⟩)
 have hmE:=methDErr (some ⟨d,0,none⟩)
 have hmL:=methDLoad (some ⟨d,0,none⟩)
 have hmf:∀ (fn:Fn) (first cap:Array Value) (w:World),(Instr.makeFunc fn first cap).run Tryz.prog w = .ok (.func fn first cap) w:=fun _ _ _ _=>rfl
 have hnil:∀ W,(binOp .eql 124 (.iface 43 (.pointer (some ⟨d,0,none⟩))) .nilIface).run Tryz.prog W = .ok (.bool false) W:=fun W=>by rfl
 have hac:=aheadDCheck8 ⟨d,0,none⟩
 have hal:=aheadDLoad7 ⟨d,0,none⟩
 have g0:w.cell? ⟨g,0,none⟩=some (.int .u64 (p:Int)):=hg.cell 0
 have HR0:Hid (rgR cur (fun q=>chkR s K cs q 8) p=if chkR s K cs p 8≠0 then (none,12) else match decA (rgW cur (pOff p / 8+1)) with
  | none=>(none,11)
  | some l=>if sndP (cur (pOff p / 8)) l=true then (some (cur (pOff p / 8),l),0) else (none,11)):=hid rfl
 have HSD:=hid h
 have HRn:=hid hr
 generalize rgR cur (fun q=>chkR s K cs q 8) p=Y at *
 generalize chkR s K cs p 8=ck at *
 have HB0:Hid (Below w.heap.size w w.drew):=hid (Below.refl _ _).drew
 have HE0:=hid (HEr.out w (Below.refl _ _))
 clear h hg hr
 go_enter Tryz.func77,Tryz.ntmps77
 go_upto_region 7 with (go_at_call 288;refine HE0.out.mono ?_;rintro e w1 ⟨rfl,rfl⟩)
 go_cut [33] from 24 to 33 (fun v wx=>v = .bool (decide (ck=0))∧Hid (Below w.heap.size w wx))
 case first =>
  refine wp_region_scriptH (fun w'=>w'.cell? ⟨g,0,none⟩=some (.int .u64 (p:Int))) 10 [] [(1,0),(1,1),(1,2),(1,3),(1,4),(1,5),(1,6),(1,7),(0,8),(1,9)] (by kernel_rfl) (by kernel_rfl) g0 ?_
  refine wpScriptH_take (.iface 43 (.pointer (some ⟨d,0,none⟩))) (by rfl) (by rfl) (fun w' hS=>?_) ?_
  ·go_simp
  simp only [zA,zB,Act.put,zD,zE,zF]
  refine wpScriptH_take (.pointer (some ⟨g,0,none⟩)) (by rfl) (by rfl) (fun w' hS=>?_) ?_
  ·go_simp
  simp only [zA,zB,zC,Act.put,zD,zE,zF]
  refine wpScriptH_take (.pointer (some ⟨g,0,none⟩)) (by rfl) (by rfl) (fun w' hS=>?_) ?_
  ·go_simp
  simp only [zA,zB,zC,Act.put,zD,zE,zF]
  refine wpScriptH_take (.pointer (some ⟨g,0,none⟩)) (by rfl) (by rfl) (fun w' hS=>?_) ?_
  ·go_simp
  simp only [zA,zB,zC,Act.put,zD,zE,zF]
  refine wpScriptH_take (.int .u64 (p:Int)) (by rfl) (by rfl) (fun w' hS=>?_) ?_
  ·go_simp
  simp only [zA,zB,zC,Act.put,zD,zE,zF]
  refine wpScriptH_take (.func (.method "Check") #[.iface 43 (.pointer (some ⟨d, 0, none⟩))] #[]) (by rfl) (by rfl) (fun w' hS => ?_) ?_
  ·go_simp
  simp only [zA,zB,zC,Act.put,zD,zE,zF]
  refine wpScriptH_take (.func (.method "Check") #[.iface 43 (.pointer (some ⟨d, 0, none⟩))] #[]) (by rfl) (by rfl) (fun w' hS => ?_) ?_
  ·go_simp
  simp only [zA,zB,zC,Act.put,zD,zE,zF]
  refine wpScriptH_take (.iface 43 (.pointer (some ⟨d,0,none⟩))) (by rfl) (by rfl) (fun w' hS=>?_) ?_
  ·go_simp
  simp only [zA,zB,zC,Act.put,zD,zE,zF]
  refine wpScriptH_do (by rfl) ?_
  go_wp2_with (go_at_call 30;refine (HC.out _ HB0.out).mono ?_;rintro e w2 ⟨rfl,hb2⟩;have HB2:=hid (HB0.out.trans (hb2.mono HB0.out.size));clear hb2)
  refine ⟨HG.out _ HB2.out,?_⟩
  have hck:((ck:Int) == 0)=decide (ck=0):=by
   by_cases h:ck=0
   ·subst h;rfl
   ·rw [decide_eq_false h,beq_eq_false_iff_ne];omega
  refine wpScriptH_take (.bool (decide (ck=0))) (by rfl) (by rfl) (fun w' hS=>?_) ?_
  ·go_simp
  simp only [zA,zB,zC,Act.put,zD,zE,zF]
  show wpList _ _ _ _ _ _
  simp only [List.drop_succ_cons,List.drop_zero]
  refine NoPanic.normal ?_
  go_wp2_with fail
  go_meet
  exact ⟨rfl,HB2⟩
 case rest =>
 obtain ⟨rfl,HB2⟩:=hcut
 clear g0 HE0 HC hmC hac
 by_cases hck:ck=0
 ·rw [decide_eq_true hck]
  rw [if_neg (fun hn=>hn hck)] at HR0
  obtain ⟨hp0,hp8,hpL⟩:=HRn.out hck
  have HA1:Hid (∀ W,Calls Tryz.prog 24 #[.int .u64 (p:Int), .int .i64 1] W fun e w'=>e = .returned (.int .u64 ((pOff p+8:Nat):Int))∧W=w'):=hid (fun W=>by
   have h1:=at_any p 1 (by omega) W
   rw [show pAt p 1=pOff p+8 by unfold pAt;rw [if_neg (by omega)]] at h1
   exact h1)
  have HA0:Hid (∀ W,Calls Tryz.prog 24 #[.int .u64 (p:Int), .int .i64 0] W fun e w'=>e = .returned (.int .u64 (pOff p:Int))∧W=w'):=hid (fun W=>by
   have h1:=at_any p 0 (by omega) W
   rw [show pAt p 0=pOff p by unfold pAt;rw [if_neg (by omega)];omega] at h1
   exact h1)
  have HRd:Hid (∀ W,Below w.heap.size w W→Calls Tryz.prog 118 #[.iface 43 (.pointer (some ⟨d,0,none⟩)), .int .u64 ((pOff p+8:Nat):Int),arI] W (RetRr W (decA (rgW cur (pOff p / 8+1))))):=hid (fun W hW=>by
   have h1:=rread_any (HSD.out.below hW) (pOff p+8) (by omega) (by omega)
   rw [show (pOff p+8) / 8=pOff p / 8+1 by omega] at h1
   exact h1)
  have HLd:Hid (∀ W,Below w.heap.size w W→Calls Tryz.prog 291 #[.pointer (some ⟨d,0,none⟩), .int .u64 (pOff p:Int)] W fun e w'=>e = .returned (.int .u64 (cur (pOff p / 8):Int))∧W=w'):=hid (fun W hW=>loadD (HSD.out.below hW).ds.dev (HSD.out.below hW).dir (pOff p) _ hp8 (by omega) rfl)
  have HMem:Hid (∀ l,decA (rgW cur (pOff p / 8+1))=some l→l.length≤8∧∀ q∈l,(strN q.1).size≤9223372036854775807):=hid (fun l hl=>by
   obtain ⟨g1,g2⟩:=decA_mem hl
   exact ⟨g1,fun q hq=>by rw [strN_size];have:=(g2 q hq).1;omega⟩)
  generalize cur (pOff p / 8)=st at *
  generalize decA (rgW cur (pOff p / 8+1))=R at *
  generalize pOff p+8=o1 at HA1 HRd
  generalize pOff p=o0 at HA0 HLd
  clear hck hp0 hp8 hpL HRn HSD
  have gc0:wc.cell? ⟨g,0,none⟩=some (.int .u64 (p:Int)):=HG.out wc HB2.out
  rcases R with _ | l
  ·have HY:Hid (Y=(none,11)):=hid HR0.out
   have HRe:Hid (∀ W,Below w.heap.size w W→Calls Tryz.prog 118 #[.iface 43 (.pointer (some ⟨d,0,none⟩)), .int .u64 (o1:Int),arI] W fun e w'=>e = .returned (.tuple #[.slice none 0 0, .int .i64 11])∧Below W.heap.size W w'):=HRd
   clear HR0 HRd
   unfold arI at HRe
   go_wp2_with (first
    | (go_at_call 24;refine (HA1.out _).mono ?_;rintro e w3 ⟨rfl,rfl⟩)
    | (go_at_call 96;refine (codec_any wc).mono ?_;rintro e w4 ⟨rfl,hb4⟩;have HB4:=hid (HB2.out.trans (hb4.mono HB2.out.size));clear hb4)
    | (go_at_call 118;refine (HRe.out w4 HB4.out).mono ?_;rintro e w5 ⟨rfl,hb5⟩;have HB5:=hid (HB4.out.trans (hb5.mono HB4.out.size));clear hb5;have HE5:=hid (HEr.out w5 HB5.out))
    | (go_at_call 288;refine HE5.out.mono ?_;rintro e w6 ⟨rfl,rfl⟩))
   go_ret3
   unfold RetRg
   rw [HY.out]
   exact ⟨rfl,HB5.out⟩
  ·obtain ⟨hl8,hl16⟩:=HMem.out l rfl
   have HRe:Hid (∀ W,Below w.heap.size w W→Calls Tryz.prog 118 #[.iface 43 (.pointer (some ⟨d,0,none⟩)), .int .u64 (o1:Int),arI] W fun e w'=>(∃ A m c,e = .returned (.tuple #[.slice A m c, .int .i64 0])∧m=l.length∧w'.ownsRow W.heap.size 159 2 (.slice A m c) m (itCells l))∧Below W.heap.size W w'):=HRd
   have HRs:Hid (Y=if sndP st l=true then (some (st,l),0) else (none,11)):=hid HR0.out
   have H16:=hid hl16
   have H8:=hid hl8
   clear HR0 HRd HMem hl16 hl8
   unfold arI at HRe
   go_upto_region 11 with (first
    | (go_at_call 24;refine (HA1.out _).mono ?_;rintro e w3 ⟨rfl,rfl⟩)
    | (go_at_call 96;refine (codec_any wc).mono ?_;rintro e w4 ⟨rfl,hb4⟩;have HB4:=hid (HB2.out.trans (hb4.mono HB2.out.size));clear hb4)
    | (go_at_call 118;refine (HRe.out w4 HB4.out).mono ?_;rintro e w5 ⟨⟨A5,m5,c5,rfl,hm5,ho5⟩,hb5⟩;have HB5:=hid (HB4.out.trans (hb5.mono HB4.out.size));have HM5:=hid hm5;have HO5:=hid (own_le ho5 HB4.out.size);clear hb5 hm5 ho5))
   have g5:=HG.out w5 HB5.out
   have HB5d:=hid HB5.out.drew
   clear gc0
   refine wp_region_scriptH (fun w'=>w'=w5.drew) 11 [] [(1,0),(1,1),(1,2),(1,3),(1,4),(1,6),(1,7),(1,8),(0,5),(0,9),(1,10)] (by kernel_rfl) (by kernel_rfl) rfl ?_
   refine wpScriptH_take (.iface 43 (.pointer (some ⟨d,0,none⟩))) (by rfl) (by rfl) (fun w' hS=>?_) ?_
   ·go_simp
   simp only [zA,zB,Act.put,zD,zE,zF]
   refine wpScriptH_take (.pointer (some ⟨g,0,none⟩)) (by rfl) (by rfl) (fun w' hS=>?_) ?_
   ·go_simp
   simp only [zA,zB,zC,Act.put,zD,zE,zF]
   refine wpScriptH_take (.pointer (some ⟨g,0,none⟩)) (by rfl) (by rfl) (fun w' hS=>?_) ?_
   ·go_simp
   simp only [zA,zB,zC,Act.put,zD,zE,zF]
   refine wpScriptH_take (.pointer (some ⟨g,0,none⟩)) (by rfl) (by rfl) (fun w' hS=>?_) ?_
   ·go_simp
   simp only [zA,zB,zC,Act.put,zD,zE,zF]
   refine wpScriptH_take (.int .u64 (p:Int)) (by rfl) (by rfl) (fun w' hS=>?_) ?_
   ·subst hS
    go_simp
   simp only [zA,zB,zC,Act.put,zD,zE,zF]
   refine wpScriptH_take (.func (.method "Load") #[.iface 43 (.pointer (some ⟨d, 0, none⟩))] #[]) (by rfl) (by rfl) (fun w' hS => ?_) ?_
   ·go_simp
   simp only [zA,zB,zC,Act.put,zD,zE,zF]
   refine wpScriptH_take (.func (.method "Load") #[.iface 43 (.pointer (some ⟨d, 0, none⟩))] #[]) (by rfl) (by rfl) (fun w' hS => ?_) ?_
   ·go_simp
   simp only [zA,zB,zC,Act.put,zD,zE,zF]
   refine wpScriptH_take (.iface 43 (.pointer (some ⟨d,0,none⟩))) (by rfl) (by rfl) (fun w' hS=>?_) ?_
   ·go_simp
   simp only [zA,zB,zC,Act.put,zD,zE,zF]
   refine wpScriptH_do (by rfl) ?_
   go_wp2_with (go_at_call 24;refine (HA0.out _).mono ?_;rintro e w6 ⟨rfl,rfl⟩)
   refine ⟨rfl,?_⟩
   refine wpScriptH_do (by rfl) ?_
   go_wp2_with (go_at_call 291;refine (HLd.out _ HB5d.out).mono ?_;rintro e w6 ⟨rfl,rfl⟩)
   refine ⟨rfl,?_⟩
   refine wpScriptH_take (.int .u64 (st:Int)) (by rfl) (by rfl) (fun w' hS=>?_) ?_
   ·go_simp
   simp only [zA,zB,zC,Act.put,zD,zE,zF]
   show wpList _ _ _ _ _ _
   simp only [List.drop_succ_cons,List.drop_zero]
   refine NoPanic.normal ?_
   have HO6:Hid (w5.drew.ownsRow w.heap.size 159 2 (.slice A5 m5 c5) m5 (itCells l)):=hid (own_below HO5.out (Below.refl _ _).drew)
   have HSn:=hid (sound_any A5 m5 c5 st l w5.drew (Reads.of_own HO6.out) (own_cap HO6.out).1 (by rw [HM5.out];exact H8.out) H16.out)
   have HE6:=hid (HEr.out w5.drew HB5d.out)
   generalize sndP st l=ok at *
   cases ok
   ·have HY:Hid (Y=(none,11)):=hid (by rw [HRs.out,if_neg (by decide)])
    clear HRs
    go_wp2_with (first
     | (go_at_call 119;refine HSn.out.mono ?_;rintro e w7 ⟨rfl,hb7⟩;have HB7:=hid (HB5d.out.trans (hb7.mono HB5d.out.size));clear hb7;have HE7:=hid (HEr.out w7 HB7.out))
     | (go_at_call 288;first | refine HE6.out.mono ?_;rintro e w8 ⟨rfl,rfl⟩ | refine HE7.out.mono ?_;rintro e w8 ⟨rfl,rfl⟩))
    go_ret3
    unfold RetRg
    rw [HY.out]
    exact ⟨rfl,HB7.out⟩
   ·have HY:Hid (Y=(some (st,l),0)):=hid (by rw [HRs.out,if_pos rfl])
    clear HRs
    go_wp2_with (first
     | (go_at_call 119;refine HSn.out.mono ?_;rintro e w7 ⟨rfl,hb7⟩;have HB7:=hid (HB5d.out.trans (hb7.mono HB5d.out.size));have HO7:=hid (own_below HO6.out hb7);clear hb7)
     | (go_at_call 288;refine HE6.out.mono ?_;rintro e w8 ⟨rfl,rfl⟩))
    go_ret3
    unfold RetRg
    rw [HY.out]
    exact ⟨⟨_,_,_,rfl,HM5.out,HO7.out⟩,HB7.out⟩
 ·rw [decide_eq_false hck]
  have HY:Hid (Y=(none,12)):=hid (by rw [HR0.out,if_pos hck])
  clear HR0 hck
  have HE2:=hid (HEr.out wc HB2.out)
  go_wp2_with (go_at_call 288;refine HE2.out.mono ?_;rintro e w3 ⟨rfl,rfl⟩)
  go_ret3
  unfold RetRg
  rw [HY.out]
  exact ⟨rfl,HB2.out⟩
end
end
section
open Go.RowKit Go.Maps
structure RgOk (R:Option (Nat × List (List Nat × Nat)) × Nat):Prop where
 none_:R.1=none→R.2≠0
 some_:∀ q,R.1=some q→q.1≤4611686018427387903∧q.2.length≤8∧(∀ p∈q.2,p.1.length≤16∧(∀ b∈p.1,b < 256)∧p.2≤q.1)∧sndP q.1 q.2=true
theorem sndS_le {st:Nat}:∀ {pre l:List (List Nat × Nat)},sndS st pre l=true→∀ p∈l,p.2≤st
 | _,[],_,p,hp=>absurd hp (by simp)
 | pre,x :: t,h,p,hp=>by
  unfold sndS at h
  rw [Bool.and_eq_true,Bool.and_eq_true,Bool.and_eq_true] at h
  rcases List.mem_cons.1 hp with rfl | hp
  ·exact of_decide_eq_true h.1.2.1
  ·exact sndS_le h.2 p hp
theorem rgOk (cur:Nat→Nat) (chk:Nat→Nat) (p:Nat):RgOk (rgR cur chk p):=by
 unfold rgR
 by_cases h:chk p≠0
 ·rw [if_pos h]
  refine ⟨fun _=>?_,fun q hq=>?_⟩
  ·exact (by decide:(12:Nat)≠0)
  ·cases hq
 ·rw [if_neg h]
  cases hl:decA (rgW cur (pOff p / 8+1)) with
  | none =>
   refine ⟨fun _=>?_,fun q hq=>?_⟩
   ·exact (by decide:(11:Nat)≠0)
   ·cases hq
  | some l =>
   show RgOk (if sndP (cur (pOff p / 8)) l=true then (some (cur (pOff p / 8),l),0) else (none,11))
   by_cases hs:sndP (cur (pOff p / 8)) l=true
   ·rw [if_pos hs]
    refine ⟨fun hn=>(by cases hn),fun q hq=>?_⟩
    have hq':(cur (pOff p / 8),l)=q:=by injection hq
    subst hq'
    obtain ⟨g1,g2⟩:=decA_mem hl
    have hs2:=hs
    unfold sndP at hs2
    rw [Bool.and_eq_true] at hs2
    exact ⟨of_decide_eq_true hs2.1,g1,fun p hp=>⟨(g2 p hp).1,(g2 p hp).2.1,sndS_le hs2.2 p hp⟩,hs⟩
   ·rw [if_neg hs]
    refine ⟨fun _=>?_,fun q hq=>?_⟩
    ·exact (by decide:(11:Nat)≠0)
    ·cases hq
abbrev RdC (rv sv:Value) (w:World) (R:Option (Nat × List (List Nat × Nat)) × Nat):Prop:=Calls Tryz.prog 77 #[rv,sv] w (RetRg w R)
def stpR (R:Option (Nat × List (List Nat × Nat)) × Nat):Nat:=match R.1 with
 | some q=>q.1
 | none=>0
def getR (s:ByteArray) (R:Option (Nat × List (List Nat × Nat)) × Nat):Nat × Nat:=match R.1 with
 | some q=>if fndS s 0 q.2 < 0 then (0,5) else ((q.2.getD (fndS s 0 q.2).toNat ([],0)).2,0)
 | none=>(0,R.2)
def minL (m:Nat) (l:List (List Nat × Nat)):Nat:=l.foldl (fun m p=>min m p.2) m
theorem minL_take (m:Nat) (l:List (List Nat × Nat)) (k:Nat) (h:k < l.length):minL m (l.take (k+1))=min (minL m (l.take k)) (l[k]).2:=by
 unfold minL
 rw [List.take_succ_eq_append_getElem h,List.foldl_append]
 rfl
def oldR (R:Option (Nat × List (List Nat × Nat)) × Nat):Nat:=match R.1 with
 | some q=>minL q.1 q.2
 | none=>0
section
variable {R:Option (Nat × List (List Nat × Nat)) × Nat} {rv sv:Value} {w:World}
theorem stamp_any (h:RdC rv sv w R):Calls Tryz.prog 38 #[rv,sv] w fun e w'=>e = .returned (.int .u64 (stpR R:Int))∧Below w.heap.size w w':=by
 have H:=hid h
 clear h
 obtain ⟨R1,c⟩:=R
 rcases R1 with _ | ⟨st,l⟩
 ·have H2:Hid (Calls Tryz.prog 77 #[rv,sv] w fun e w'=>e = .returned (.tuple #[.int .u64 0, .slice none 0 0, .int .i64 (c:Int)])∧Below w.heap.size w w'):=H
  clear H
  go_enter Tryz.func38,Tryz.ntmps38
  go_wp2_with (go_at_call 77;refine H2.out.mono ?_;rintro e w1 ⟨rfl,hb1⟩;have HB1:=hid hb1;clear hb1)
  go_ret
  exact ⟨rfl,HB1.out⟩
 ·have H2:Hid (Calls Tryz.prog 77 #[rv,sv] w fun e w'=>(∃ A m c,e = .returned (.tuple #[.int .u64 (st:Int), .slice A m c, .int .i64 0])∧m=l.length∧w'.ownsRow w.heap.size 159 2 (.slice A m c) m (itCells l))∧Below w.heap.size w w'):=H
  clear H
  go_enter Tryz.func38,Tryz.ntmps38
  go_wp2_with (go_at_call 77;refine H2.out.mono ?_;rintro e w1 ⟨⟨A1,m1,c1,rfl,_,_⟩,hb1⟩;have HB1:=hid hb1;clear hb1)
  go_ret
  exact ⟨rfl,HB1.out⟩
theorem get_any (h:RdC rv sv w R) (hok:RgOk R) (s:ByteArray):Calls Tryz.prog 45 #[rv,sv, .string s] w fun e w'=>e = .returned (.tuple #[.int .u64 ((getR s R).1:Int), .int .i64 ((getR s R).2:Int)])∧Below w.heap.size w w':=by
 have H:=hid h
 clear h
 obtain ⟨R1,c⟩:=R
 rcases R1 with _ | ⟨st,l⟩
 ·have H2:Hid (Calls Tryz.prog 77 #[rv,sv] w fun e w'=>e = .returned (.tuple #[.int .u64 0, .slice none 0 0, .int .i64 (c:Int)])∧Below w.heap.size w w'):=H
  have hc:c≠0:=hok.none_ rfl
  have d0:((c:Int) != 0)=true:=by rw [bne,beq_eq_false_iff_ne.2 (by omega)];rfl
  clear H hok hc
  go_enter Tryz.func45,Tryz.ntmps45
  go_wp2_with (go_at_call 77;refine H2.out.mono ?_;rintro e w1 ⟨rfl,hb1⟩;have HB1:=hid hb1;clear hb1)
  go_ret2
  exact ⟨rfl,HB1.out⟩
 ·have H2:Hid (Calls Tryz.prog 77 #[rv,sv] w fun e w'=>(∃ A m c,e = .returned (.tuple #[.int .u64 (st:Int), .slice A m c, .int .i64 0])∧m=l.length∧w'.ownsRow w.heap.size 159 2 (.slice A m c) m (itCells l))∧Below w.heap.size w w'):=H
  have hl8:=(hok.some_ (st,l) rfl).2.1
  have HL8:Hid (l.length≤8):=hid hl8
  have HGe:=hid (fndS_ge s 0 l)
  have HGr:Hid (getR s (some (st,l),c)=if fndS s 0 l < 0 then (0,5) else ((l.getD (fndS s 0 l).toNat ([],0)).2,0)):=hid rfl
  generalize getR s (some (st,l),c)=Y at *
  have HFn:=hid (fun (A:Option Addr) (n c':Nat) (W:World) (hr:Reads W W.heap.size 2 A n (itCells l)) (hn:n≤100000)=>findS_any A n c' l s W hr hn)
  obtain ⟨fi,hfi⟩:∃ fi,fndS s 0 l=fi:=⟨_,rfl⟩
  rw [hfi] at HFn HGe HGr
  clear H hok hl8 hfi
  go_enter Tryz.func45,Tryz.ntmps45
  go_upto_region 5 with (first
   | (go_at_call 77;refine H2.out.mono ?_;rintro e w1 ⟨⟨A1,m1,c1,rfl,hm1,ho1⟩,hb1⟩;have HB1:=hid hb1;have HM1:=hid hm1;have HO1:=hid ho1;clear hb1 hm1 ho1)
   | (go_at_call 80;refine (HFn.out A1 m1 c1 w1 (Reads.of_own HO1.out) (by rw [HM1.out];have:=HL8.out;omega)).mono ?_;rintro e w2 ⟨rfl,hb2⟩;have HB2:=hid (HB1.out.trans (hb2.mono HB1.out.size));have HO2:=hid (own_below HO1.out hb2);clear hb2))
  by_cases hf:fi < 0
  ·have HY:Hid (Y=(0,5)):=hid (by rw [HGr.out,if_pos hf])
   clear HGr
   go_wp2_with fail
   go_ret2
   rw [HY.out]
   exact ⟨rfl,HB2.out⟩
  ·obtain ⟨j,hj⟩:∃ j:Nat,fi=(j:Int):=⟨fi.toNat,by omega⟩
   subst hj
   have hge:=HGe.out.2.1
   have hjl:j < l.length:=by omega
   have HY:Hid (Y=((l.getD j ([],0)).2,0)):=hid (by rw [HGr.out,if_neg hf,Int.toNat_natCast])
   have hm:=HM1.out
   obtain ⟨hkl,gb,go,hA3,_,f0,f1⟩:=it_facts (Reads.of_own HO2.out) (k:=j) (by omega)
   have hz5:(0:Int)≤(j:Int):=by omega
   have hz6:(j:Int) < (m1:Int):=by omega
   subst hA3
   have HE:Hid (l.getD j ([],0)=l[j]):=hid (by rw [List.getD_eq_getElem?_getD,List.getElem?_eq_getElem hkl];rfl)
   clear hf hge hm HGr
   go_wp2_with fail
   go_ret2
   rw [HY.out,HE.out]
   exact ⟨rfl,HB2.out⟩
theorem oldest_any (h:RdC rv sv w R) (hok:RgOk R):Calls Tryz.prog 41 #[rv,sv] w fun e w'=>e = .returned (.int .u64 (oldR R:Int))∧Below w.heap.size w w':=by
 have H:=hid h
 clear h
 obtain ⟨R1,c⟩:=R
 rcases R1 with _ | ⟨st,l⟩
 ·have H2:Hid (Calls Tryz.prog 77 #[rv,sv] w fun e w'=>e = .returned (.tuple #[.int .u64 0, .slice none 0 0, .int .i64 (c:Int)])∧Below w.heap.size w w'):=H
  clear H hok
  go_enter Tryz.func41,Tryz.ntmps41
  go_upto_region 2 with (go_at_call 77;refine H2.out.mono ?_;rintro e w1 ⟨rfl,hb1⟩;have HB1:=hid hb1;clear hb1)
  go_wp2_with fail
  refine wp_loop_rounds 1 ?_
  rw [rounds_succ]
  go_wp2_with fail
  go_ret
  exact ⟨rfl,HB1.out⟩
 ·have H2:Hid (Calls Tryz.prog 77 #[rv,sv] w fun e w'=>(∃ A m c,e = .returned (.tuple #[.int .u64 (st:Int), .slice A m c, .int .i64 0])∧m=l.length∧w'.ownsRow w.heap.size 159 2 (.slice A m c) m (itCells l))∧Below w.heap.size w w'):=H
  have hl8:=(hok.some_ (st,l) rfl).2.1
  have HL8:Hid (l.length≤8):=hid hl8
  have HOl:Hid (oldR (some (st,l),c)=minL st l):=hid rfl
  generalize oldR (some (st,l),c)=Y at *
  clear H hok hl8
  go_enter Tryz.func41,Tryz.ntmps41
  go_upto_region 2 with (go_at_call 77;refine H2.out.mono ?_;rintro e w1 ⟨⟨A1,m1,c1,rfl,hm1,ho1⟩,hb1⟩;have HB1:=hid hb1;have HM1:=hid hm1;have HO1:=hid ho1;clear hb1 hm1 ho1)
  have HB0:Hid (Below w1.heap.size w1 w1):=hid (Below.refl _ _)
  have HR1:=hid (Reads.of_own HO1.out)
  have hm8:m1≤8:=by rw [HM1.out];exact HL8.out
  go_wp2_with fail
  go_loopw [5,19] (fun v i wr=>∃ k:Nat,k≤m1∧i = .int .i64 (k:Int)∧v = .int .u64 (minL st (l.take k):Int)∧Hid (Below w1.heap.size w1 wr)) (fun _ i _=>m1 - (Go.RowKit.intOf i).toNat)
  case atStart=>exact ⟨0,Nat.zero_le _,rfl,rfl,HB0⟩
  case round =>
   clear HB0
   obtain ⟨k,hk,rfl,rfl,HB⟩:=hrel
   by_cases hlt:k < m1
   ·obtain ⟨hkl,gb,go,hA3,_,f0,f1⟩:=it_facts ((HR1.out.below HB.out).more HB.out.size) (k:=k) hlt
    subst hA3
    have HMin:=hid (minL_take st l k hkl)
    generalize l[k]=p at *
    obtain ⟨pn,pv⟩:=p
    dsimp only at f0 f1 HMin
    have hz5:(0:Int)≤(k:Int):=by omega
    have hz6:(k:Int) < (m1:Int):=by omega
    have HBa:Hid (Below w1.heap.size w1 (wr.alloc (.cells #[.string (strN pn), .int .u64 (pv:Int)] 159))):=hid (HB.out.alloc HB.out.size _)
    generalize minL st (l.take k)=mm at *
    clear hkl
    by_cases hmp:mm≤pv
    ·have hmi:(mm:Int)≤(pv:Int):=by omega
     have HM2:Hid (minL st (l.take (k+1))=mm):=hid (by rw [HMin.out,Nat.min_eq_left hmp])
     clear hmp HMin
     go_wp2_with fail
     go_roundw
     case rel =>
      first
       | exact ⟨k+1,by omega,by go_num,by rw [HM2.out];first | rfl | (congr 1;omega),HBa⟩
       | (
         repeat apply Exists.intro
         refine ⟨?_,rfl⟩
         exact ⟨k+1,by omega,by go_num,by rw [HM2.out];first | rfl | (congr 1;omega),HBa⟩)
     case measure=>simp [Go.RowKit.intOf];omega
    ·have hmi:(pv:Int) < (mm:Int):=by omega
     have HM2:Hid (minL st (l.take (k+1))=pv):=hid (by rw [HMin.out,Nat.min_eq_right (by omega)])
     clear hmp HMin
     go_wp2_with fail
     go_roundw
     case rel =>
      first
       | exact ⟨k+1,by omega,by go_num,by rw [HM2.out];first | rfl | (congr 1;omega),HBa⟩
       | (
         repeat apply Exists.intro
         refine ⟨?_,rfl⟩
         exact ⟨k+1,by omega,by go_num,by rw [HM2.out];first | rfl | (congr 1;omega),HBa⟩)
     case measure=>simp [Go.RowKit.intOf];omega
   ·obtain rfl:k=m1:=by omega
    have HT:Hid (l.take k=l):=hid (List.take_of_length_le (by rw [← HM1.out];exact Nat.le_refl _))
    go_wp2_with fail
    go_ret
    rw [HOl.out]
    exact ⟨by rw [HT.out];rfl,HB1.out.trans (HB.out.mono HB1.out.size)⟩
end
end
end Go.Proofs.YtnlokpakiambaaaGreatDoor
