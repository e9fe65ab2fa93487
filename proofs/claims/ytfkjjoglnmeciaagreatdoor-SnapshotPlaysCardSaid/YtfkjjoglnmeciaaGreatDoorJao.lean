/- The walks and laws that the claim leans on, part 15. -/
import Derived.Test.YtfkjjoglnmeciaaGreatDoorJan
import Derived.Lib.Zigzag
import Derived.Lib.QuoteBits
import Derived.Lib.SlKeysI
import Derived.Deep.Onto
import Derived.Lib.BytesEntry
import Derived.Lib.SlBytesConst
set_option maxRecDepth 100000
set_option maxHeartbeats 16000000
namespace Go.Proofs.YtfkjjoglnmeciaaGreatDoor
open Go.Lib (hid)
section
open Go.RowKit Go.Maps
theorem wpList_app2 {P:Program} (w:World) {ops:Array Oper} {rest:List Oper} {o:Oper} {a:Act} {Q:Exit→Act→World→Prop} (s x:Operand) (t:TypeId)
  (hw:Region.wanted o (yielded ops a.tmps)=true)
  (ho:o.op = .call { callee := .builtin .append,args:=#[s,x],argTypes:=#[t,t] })
  (base:Nat) (e:TypeId) (i:TypeInfo) (z:Value) (size bytes:Nat) (ht:P.underlying t=some (.slice e)) (hi:P.info? e=some i) (hz:i.zero=some z)
  (hsize:i.size=size) (hby:i.bytes=bytes) (hzs:z.cells.size=size) (hsz:0 < size)
  (v:Value) (n:Nat) (xs:List Value) (hs:a.eval s=v) (hown:w.ownsRow base e size v n xs)
  (B:Nat) (A:Option Addr) (m c:Nat) (news:List Value) (hx:a.eval x = .slice A m c) (hr:Reads w B size A m news) (h1:∀ u∈news,u.oneCell'=true)
  (h63:n+m≤maxLen) (hbytes:(n+m) * bytes≤140737488355328) (hbase:base≤w.heap.size)
  (h:∀ A' n' c' w',n'=n+m→w'.ownsRow base e size (.slice A' n' c') n' (xs++news)→w.grownBy w' v.ownBlock→((Value.slice A' n' c').ownBlock=v.ownBlock∨(Value.slice A' n' c').ownBlock=some w.heap.size)→wpList P ops Q rest (a.put o.dst (.slice A' n' c')) w'):wpList P ops Q (o :: rest) a w:=by
 refine Go.BigFrame.wpList_want hw fun K hK=>?_
 refine wp_append_any w s x t ho base e i z size bytes ht hi hz hsize hby hzs hsz v n xs hs hown B A m c news hx hr h1 h63 hbytes hbase fun v' w' h2 h3 h4=>?_
 obtain ⟨A',c',rfl⟩:=own_slice h2
 exact hK _ _ (h A' _ c' w' rfl h2 h3 h4)
structure Mk where
 id:Nat
 k:Nat
 x:Bool
 y:Bool
 D:DataW Unit
 n:Nat
section
variable {c:CX} {w w':World} {S:Fp} {t:TX} {l:List Mk}
end
end
section
open Go.RowKit
section
variable {a:DA} {L T:Nat} {w:World} {S:Fp} {cur:Nat→Nat} {F:Nat} {d g r:Nat}
def ldL (cur:Nat→Nat) (o n k:Nat):List Nat:=(List.range n).map fun j=>if j < k then cur (o+j) else 0
theorem ldL_len (cur:Nat→Nat) (o n k:Nat):(ldL cur o n k).length=n:=by simp [ldL]
theorem ldL_zero (cur:Nat→Nat) (o n:Nat):ldL cur o n 0=List.replicate n 0:=by
 apply List.ext_getElem
 ·simp [ldL]
 ·intro i h1 h2
  simp [ldL]
theorem ldL_set (cur:Nat→Nat) (o n k:Nat):(ldL cur o n k).set k (cur (o+k))=ldL cur o n (k+1):=by
 apply List.ext_getElem
 ·simp [ldL]
 ·intro i h1 h2
  rw [List.getElem_set]
  simp only [ldL,List.getElem_map,List.getElem_range]
  by_cases e:k=i
  ·subst e
   rw [if_pos rfl,if_pos (by omega)]
  ·rw [if_neg e]
   by_cases h:i < k
   ·rw [if_pos h,if_pos (by omega)]
   ·rw [if_neg h,if_neg (by omega)]
theorem ldL_end (cur:Nat→Nat) (o n:Nat):ldL cur o n n=(List.range n).map fun j=>cur (o+j):=by
 apply List.ext_getElem
 ·simp [ldL]
 ·intro i h1 h2
  simp only [ldL,List.getElem_map,List.getElem_range]
  rw [if_pos (by simpa [ldL] using h1)]
end
end
section
open Go.RowKit Go.Maps
structure InB (w:World) (A:Option Addr) (n c:Nat) (l:List Nat):Prop where
 b:∀ z∈l,z < 256
 r:Reads w w.heap.size 1 A n (u8s l)
 le:n≤c
 cap:c≤9223372036854775807
end
section
open Go.RowKit Go.Maps
def decN (xs:List Nat):Option (List Nat) :=
 if 16 < xs.headD 0 then none else
 if unpBad ((xs.drop 1).take ((xs.headD 0+7) / 8)) (xs.headD 0)=true then none else
 if allZ (xs.drop (1+(xs.headD 0+7) / 8))=true then some (unpB ((xs.drop 1).take ((xs.headD 0+7) / 8)) (xs.headD 0)) else none
def strN (l:List Nat):ByteArray:=⟨(l.map UInt8.ofNat).toArray⟩
theorem add_plain (b o j:Nat):(⟨b,o,none⟩:Addr).add j=⟨b,o+j,none⟩:=by unfold Addr.add;split <;> simp_all
theorem Reads.sub_ {w:World} {B n:Nat} {b o:Nat} {xs:List Value} (h:Reads w B 1 (some ⟨b,o,none⟩) n xs) (i j:Nat) (hij:i+j≤n):Reads w B 1 (some ⟨b,o+i,none⟩) j ((xs.drop i).take j):=by
 have h1:=h.1
 refine ⟨by rw [List.length_take,List.length_drop];omega,fun hn=>?_⟩
 obtain ⟨ad,hA,hb,hc⟩:=h.2 (by omega)
 cases hA
 refine ⟨_,rfl,hb,fun k u hu=>?_⟩
 rw [List.getElem?_take] at hu
 split at hu
 ·rw [List.getElem?_drop] at hu
  have h2:=hc (i+k) u hu
  rw [add_plain] at h2 ⊢
  rw [← Nat.add_assoc] at h2
  exact h2
 ·cases hu
theorem uCells_sub (xs:List Nat) (i j:Nat):((uCells xs).drop i).take j=uCells ((xs.drop i).take j):=by
 unfold uCells
 rw [← List.map_drop,← List.map_take]
theorem conv_strN {w:World} {B:Nat} {X:Option Addr} {m:Nat} (c:Nat) {l:List Nat} (h:Reads w B 1 X m (u8s l)) (hb:∀ b∈l,b < 256):(convert 24 9 (.slice X m c)).run Tryz.prog w = .ok (.string (strN l)) w:=by
 have hl:l.length=m:=by have:=h.1;simpa [u8s] using this
 subst hl
 rcases X with _ | ad
 ·have h0:l=[]:=by
   rcases Nat.eq_zero_or_pos l.length with h0 | h0
   ·exact List.eq_nil_of_length_eq_zero h0
   ·obtain ⟨ad,hA,_⟩:=h.2 h0;cases hA
  subst h0
  exact run_convert_bytes_nil (P:=Tryz.prog) w 24 5 Tryz.underlying24 Tryz.underlying5 _ c 9 Tryz.underlying9
 ·have h1:=run_convert_bytes_back (P:=Tryz.prog) w 24 9 5 ad c (l.map UInt8.ofNat) Tryz.underlying24 Tryz.underlying5 Tryz.underlying9 (fun j hj=>?_)
  ·rw [List.length_map] at h1
   exact h1
  ·rw [List.length_map] at hj
   obtain ⟨ad',hA,_,hc⟩:=h.2 (by omega)
   injection hA with hA
   subst hA
   refine hc j _ ?_
   have hbj:=hb _ (List.getElem_mem hj)
   simp only [u8s,List.getElem?_map,List.getElem?_eq_getElem hj,Option.map_some,List.getElem_map]
   rw [UInt8.toNat_ofNat',Nat.mod_eq_of_lt hbj]
def RetNm (w:World) (R:Option (List Nat)) (e:Ending) (w':World):Prop:=(match R with
 | some l=>e = .returned (.tuple #[.string (strN l), .bool true])
 | none=>e = .returned (.tuple #[.string ⟨#[]⟩, .bool false]))∧Below w.heap.size w w'
theorem nmDec_any (A:Option Addr) (c:Nat) (xs:List Nat) (w:World) (h:Reads w w.heap.size 1 A 3 (uCells xs)) (hc:3≤c) (hx:∀ x∈xs,x < 18446744073709551616) :
  Calls Tryz.prog 442 #[.agg #[], .slice A 3 c] w (RetNm w (decN xs)):=by
 obtain ⟨W1,hW1⟩:∃ W1,w.alloc (.cells #[] 439)=W1:=⟨_,rfl⟩
 have hb1:Below w.heap.size w W1:=by rw [← hW1];exact (Below.refl _ _).alloc (Nat.le_refl _) _
 have hbx:Blk W1 w.heap.size 439 #[]:=by rw [← hW1];exact Blk.new _ _ _
 have h1:=(h.below hb1).more hb1.size
 obtain ⟨hkl,gb,go,hA3,hgb,fk⟩:=u_facts h1 (k:=0) (by omega)
 subst hA3
 have hl3:xs.length=3:=by have:=h.1;simpa [uCells] using this
 obtain ⟨n,x1,x2,rfl⟩:∃ n x1 x2,xs=[n,x1,x2]:=by
  match xs,hl3 with
  | [n,x1,x2],_=>exact ⟨n,x1,x2,rfl⟩
 have HF0:Hid (∀ W,Below W1.heap.size W1 W→W.cell? ⟨gb,go,none⟩=some (.int .u64 (n:Int))):=hid (fun W hW=>(hW.cell (p:=⟨gb,go,none⟩) hgb).trans fk)
 have HW1:=hid hW1
 have HB1:=hid hb1
 have HR1:=hid h1
 have HN:=hid (hx n (by simp))
 have HX:=hid hx
 have f0:W1.cell? ⟨gb,go,none⟩=some (.int .u64 (n:Int)):=fk
 have HWd:Hid (Calls Tryz.prog 444 #[.agg #[]] W1 fun e w'=>e = .returned (.int .i64 3)∧Below W1.heap.size W1 w'):=hid (nmWords_any W1)
 clear hW1 hb1 h1 h fk hkl hl3 hx hbx
 by_cases hn:16 < n
 ·have HD:Hid (decN [n,x1,x2]=none):=hid (by unfold decN;rw [if_pos (show 16 < [n,x1,x2].headD 0 from hn)])
  generalize decN [n,x1,x2]=X at *
  have hni:(16:Int) < (n:Int):=by omega
  clear hn
  go_enter Tryz.func442,Tryz.ntmps442
  go_upto_region 1 with fail
  rw [HW1.out]
  go_wp2_with (go_at_call 444;refine HWd.out.mono ?_;rintro e w2 ⟨rfl,hb2⟩;have HB2:=hid hb2;have f2:=HF0.out w2 hb2;clear hb2)
  go_ret2
  unfold RetNm
  rw [HD.out]
  exact ⟨rfl,HB1.out.trans (HB2.out.mono HB1.out.size)⟩
 ·obtain ⟨u,hu⟩:∃ u,(n+7) / 8=u:=⟨_,rfl⟩
  have hu2:u≤2:=by omega
  have hni:(n:Int)≤16:=by omega
  have HD:Hid (decN [n,x1,x2]=if unpBad (([x1,x2]:List Nat).take u) n=true then none else if allZ ([x1,x2].drop u)=true then some (unpB ([x1,x2].take u) n) else none):=hid (by
   unfold decN
   rw [if_neg (show ¬ 16 < [n,x1,x2].headD 0 from hn)]
   show (if unpBad (([x1,x2]:List Nat).take ((n+7) / 8)) n=true then none else if allZ ([n,x1,x2].drop (1+(n+7) / 8))=true then some (unpB ([x1,x2].take ((n+7) / 8)) n) else none)=_
   rw [hu,Nat.add_comm 1 u]
   rfl)
  generalize decN [n,x1,x2]=X at *
  clear hn
  go_enter Tryz.func442,Tryz.ntmps442
  go_upto_region 1 with fail
  rw [HW1.out]
  go_upto_region 3 with (go_at_call 444;refine HWd.out.mono ?_;rintro e w2 ⟨rfl,hb2⟩;have HB2:=hid hb2;have f2:=HF0.out w2 hb2;clear hb2)
  have e4:IntKind.i64.wrap (n:Int)=(n:Int):=by rw [IntKind.wrap_i64];omega
  have e5:wrap64 ((n:Int)+8)=(n:Int)+8:=IntWalk.wrap64_in _ (by omega)
  have e6:wrap64 ((n:Int)+8 - 1)=(n:Int)+8 - 1:=IntWalk.wrap64_in _ (by omega)
  have HC3:=hid hc
  have hc0:c≠0∧c≠1∧c≠2:=by omega
  obtain ⟨hc0,hc1,hc2⟩:=hc0
  rcases (by omega:u=0∨u=1∨u=2) with rfl | rfl | rfl
  ·have e7:((n:Int)+8 - 1) / 8=0:=by omega
   have HU:Hid (Calls Tryz.prog 309 #[.slice (some ⟨gb,go+1,none⟩) 0 (c - 1), .int .i64 (n:Int)] w2 (RetUnp w2 (([x1,x2]:List Nat).take 0) n)):=hid (unpack_any _ 0 (c - 1) n (([x1,x2]:List Nat).take 0) w2 (⟨rfl,fun h=>absurd h (by decide)⟩) (fun x hx=>HX.out x (by first | (simp at hx ⊢;omega) | simp at hx)) (by omega) hu)
   by_cases hb:unpBad (([x1,x2]:List Nat).take 0) n=true
   ·have HD2:Hid (X=none):=hid (by rw [HD.out,if_pos hb])
    have HUb:Hid (Calls Tryz.prog 309 #[.slice (some ⟨gb,go+1,none⟩) 0 (c - 1), .int .i64 (n:Int)] w2 fun e w'=>e = .returned (.tuple #[.slice none 0 0, .int .i64 11])∧Below w2.heap.size w2 w'):=hid (HU.out.mono (fun e w' h=>by
     unfold RetUnp at h
     rw [if_pos hb] at h
     exact h))
    clear hb HD hu HU
    go_upto_region 5 with fail
    go_wp2_with (go_at_call 309;refine HUb.out.mono ?_;rintro e w3 ⟨rfl,hb3⟩;have HB3:=hid (HB2.out.trans (hb3.mono HB2.out.size));clear hb3)
    go_ret2
    unfold RetNm
    rw [HD2.out]
    exact ⟨rfl,HB1.out.trans (HB3.out.mono HB1.out.size)⟩
   ·have HD2:Hid (X=if allZ ([x1,x2].drop 0)=true then some (unpB (([x1,x2]:List Nat).take 0) n) else none):=hid (by rw [HD.out,if_neg hb])
    have HUb:Hid (Calls Tryz.prog 309 #[.slice (some ⟨gb,go+1,none⟩) 0 (c - 1), .int .i64 (n:Int)] w2 (RetB w2 (unpB (([x1,x2]:List Nat).take 0) n))):=hid (HU.out.mono (fun e w' h=>by
     unfold RetUnp at h
     rw [if_neg hb] at h
     exact h))
    clear HU
    have HBy:Hid (∀ b∈unpB (([x1,x2]:List Nat).take 0) n,b < 256):=hid (fun b hb=>by
     unfold unpB at hb
     obtain ⟨i,_,rfl⟩:=List.mem_map.1 hb
     exact Nat.mod_lt _ (by decide))
    generalize unpB (([x1,x2]:List Nat).take 0) n=bs at *
    clear hb HD hu
    go_upto_region 5 with fail
    go_upto_region 6 with (go_at_call 309;refine HUb.out.mono ?_;rintro e w3 ⟨A3,m3,c3,rfl,hm3,hr3,ha3,hb3⟩;have HB3:=hid (HB2.out.trans (hb3.mono HB2.out.size));have HR3:=hid hr3;clear hm3 hr3 ha3 hb3)
    have HZ:Hid (∀ A',A'=some ⟨gb,go+1,none⟩→Calls Tryz.prog 441 #[.slice A' 2 (c - 1)] w3 fun e w'=>e = .returned (.bool (allZ ([x1,x2].drop 0)))∧Below w3.heap.size w3 w'):=hid (fun A' hA=>zeros_any A' 2 (c - 1) _ w3 (by subst hA;exact ((HR1.out.below HB3.out).sub_ 1 2 (by omega)).more HB3.out.size) (by omega))
    generalize allZ ([x1,x2].drop 0)=z at *
    cases z
    ·have HD3:Hid (X=none):=hid (by rw [HD2.out,if_neg (by decide)])
     clear HD2
     go_wp2_with (go_at_call 441;refine (HZ.out _ rfl).mono ?_;rintro e w4 ⟨rfl,hb4⟩;have HB4:=hid (HB3.out.trans (hb4.mono HB3.out.size));clear hb4)
     all_goals go_ret2
     all_goals unfold RetNm
     all_goals rw [HD3.out]
     all_goals exact ⟨rfl,HB1.out.trans (HB4.out.mono HB1.out.size)⟩
    ·have HD3:Hid (X=some bs):=hid (by rw [HD2.out,if_pos rfl])
     clear HD2
     go_wp2_with (go_at_call 441;refine (HZ.out _ rfl).mono ?_;rintro e w4 ⟨rfl,hb4⟩;have HB4:=hid (HB3.out.trans (hb4.mono HB3.out.size));have hcv:=conv_strN c3 (HR3.out.below hb4) HBy.out;clear hb4)
     all_goals go_ret2
     all_goals unfold RetNm
     all_goals rw [HD3.out]
     all_goals exact ⟨rfl,HB1.out.trans (HB4.out.mono HB1.out.size)⟩
  ·have e7:((n:Int)+8 - 1) / 8=1:=by omega
   have HU:Hid (Calls Tryz.prog 309 #[.slice (some ⟨gb,go+1,none⟩) 1 (c - 1), .int .i64 (n:Int)] w2 (RetUnp w2 (([x1,x2]:List Nat).take 1) n)):=hid (unpack_any _ 1 (c - 1) n (([x1,x2]:List Nat).take 1) w2 (((HR1.out.below HB2.out).sub_ 1 1 (by omega)).more HB2.out.size) (fun x hx=>HX.out x (by first | (simp at hx ⊢;omega) | simp at hx)) (by omega) hu)
   by_cases hb:unpBad (([x1,x2]:List Nat).take 1) n=true
   ·have HD2:Hid (X=none):=hid (by rw [HD.out,if_pos hb])
    have HUb:Hid (Calls Tryz.prog 309 #[.slice (some ⟨gb,go+1,none⟩) 1 (c - 1), .int .i64 (n:Int)] w2 fun e w'=>e = .returned (.tuple #[.slice none 0 0, .int .i64 11])∧Below w2.heap.size w2 w'):=hid (HU.out.mono (fun e w' h=>by
     unfold RetUnp at h
     rw [if_pos hb] at h
     exact h))
    clear hb HD hu HU
    go_upto_region 5 with fail
    go_wp2_with (go_at_call 309;refine HUb.out.mono ?_;rintro e w3 ⟨rfl,hb3⟩;have HB3:=hid (HB2.out.trans (hb3.mono HB2.out.size));clear hb3)
    go_ret2
    unfold RetNm
    rw [HD2.out]
    exact ⟨rfl,HB1.out.trans (HB3.out.mono HB1.out.size)⟩
   ·have HD2:Hid (X=if allZ ([x1,x2].drop 1)=true then some (unpB (([x1,x2]:List Nat).take 1) n) else none):=hid (by rw [HD.out,if_neg hb])
    have HUb:Hid (Calls Tryz.prog 309 #[.slice (some ⟨gb,go+1,none⟩) 1 (c - 1), .int .i64 (n:Int)] w2 (RetB w2 (unpB (([x1,x2]:List Nat).take 1) n))):=hid (HU.out.mono (fun e w' h=>by
     unfold RetUnp at h
     rw [if_neg hb] at h
     exact h))
    clear HU
    have HBy:Hid (∀ b∈unpB (([x1,x2]:List Nat).take 1) n,b < 256):=hid (fun b hb=>by
     unfold unpB at hb
     obtain ⟨i,_,rfl⟩:=List.mem_map.1 hb
     exact Nat.mod_lt _ (by decide))
    generalize unpB (([x1,x2]:List Nat).take 1) n=bs at *
    clear hb HD hu
    go_upto_region 5 with fail
    go_upto_region 6 with (go_at_call 309;refine HUb.out.mono ?_;rintro e w3 ⟨A3,m3,c3,rfl,hm3,hr3,ha3,hb3⟩;have HB3:=hid (HB2.out.trans (hb3.mono HB2.out.size));have HR3:=hid hr3;clear hm3 hr3 ha3 hb3)
    have HZ:Hid (∀ A',A'=some ⟨gb,go+2,none⟩→Calls Tryz.prog 441 #[.slice A' 1 (c - 2)] w3 fun e w'=>e = .returned (.bool (allZ ([x1,x2].drop 1)))∧Below w3.heap.size w3 w'):=hid (fun A' hA=>zeros_any A' 1 (c - 2) _ w3 (by subst hA;exact ((HR1.out.below HB3.out).sub_ 2 1 (by omega)).more HB3.out.size) (by omega))
    generalize allZ ([x1,x2].drop 1)=z at *
    cases z
    ·have HD3:Hid (X=none):=hid (by rw [HD2.out,if_neg (by decide)])
     clear HD2
     go_wp2_with (go_at_call 441;refine (HZ.out _ rfl).mono ?_;rintro e w4 ⟨rfl,hb4⟩;have HB4:=hid (HB3.out.trans (hb4.mono HB3.out.size));clear hb4)
     all_goals go_ret2
     all_goals unfold RetNm
     all_goals rw [HD3.out]
     all_goals exact ⟨rfl,HB1.out.trans (HB4.out.mono HB1.out.size)⟩
    ·have HD3:Hid (X=some bs):=hid (by rw [HD2.out,if_pos rfl])
     clear HD2
     go_wp2_with (go_at_call 441;refine (HZ.out _ rfl).mono ?_;rintro e w4 ⟨rfl,hb4⟩;have HB4:=hid (HB3.out.trans (hb4.mono HB3.out.size));have hcv:=conv_strN c3 (HR3.out.below hb4) HBy.out;clear hb4)
     all_goals go_ret2
     all_goals unfold RetNm
     all_goals rw [HD3.out]
     all_goals exact ⟨rfl,HB1.out.trans (HB4.out.mono HB1.out.size)⟩
  ·have e7:((n:Int)+8 - 1) / 8=2:=by omega
   have HU:Hid (Calls Tryz.prog 309 #[.slice (some ⟨gb,go+1,none⟩) 2 (c - 1), .int .i64 (n:Int)] w2 (RetUnp w2 (([x1,x2]:List Nat).take 2) n)):=hid (unpack_any _ 2 (c - 1) n (([x1,x2]:List Nat).take 2) w2 (((HR1.out.below HB2.out).sub_ 1 2 (by omega)).more HB2.out.size) (fun x hx=>HX.out x (by first | (simp at hx ⊢;omega) | simp at hx)) (by omega) hu)
   by_cases hb:unpBad (([x1,x2]:List Nat).take 2) n=true
   ·have HD2:Hid (X=none):=hid (by rw [HD.out,if_pos hb])
    have HUb:Hid (Calls Tryz.prog 309 #[.slice (some ⟨gb,go+1,none⟩) 2 (c - 1), .int .i64 (n:Int)] w2 fun e w'=>e = .returned (.tuple #[.slice none 0 0, .int .i64 11])∧Below w2.heap.size w2 w'):=hid (HU.out.mono (fun e w' h=>by
     unfold RetUnp at h
     rw [if_pos hb] at h
     exact h))
    clear hb HD hu HU
    go_upto_region 5 with fail
    go_wp2_with (go_at_call 309;refine HUb.out.mono ?_;rintro e w3 ⟨rfl,hb3⟩;have HB3:=hid (HB2.out.trans (hb3.mono HB2.out.size));clear hb3)
    go_ret2
    unfold RetNm
    rw [HD2.out]
    exact ⟨rfl,HB1.out.trans (HB3.out.mono HB1.out.size)⟩
   ·have HD2:Hid (X=if allZ ([x1,x2].drop 2)=true then some (unpB (([x1,x2]:List Nat).take 2) n) else none):=hid (by rw [HD.out,if_neg hb])
    have HUb:Hid (Calls Tryz.prog 309 #[.slice (some ⟨gb,go+1,none⟩) 2 (c - 1), .int .i64 (n:Int)] w2 (RetB w2 (unpB (([x1,x2]:List Nat).take 2) n))):=hid (HU.out.mono (fun e w' h=>by
     unfold RetUnp at h
     rw [if_neg hb] at h
     exact h))
    clear HU
    have HBy:Hid (∀ b∈unpB (([x1,x2]:List Nat).take 2) n,b < 256):=hid (fun b hb=>by
     unfold unpB at hb
     obtain ⟨i,_,rfl⟩:=List.mem_map.1 hb
     exact Nat.mod_lt _ (by decide))
    generalize unpB (([x1,x2]:List Nat).take 2) n=bs at *
    clear hb HD hu
    go_upto_region 5 with fail
    go_upto_region 6 with (go_at_call 309;refine HUb.out.mono ?_;rintro e w3 ⟨A3,m3,c3,rfl,hm3,hr3,ha3,hb3⟩;have HB3:=hid (HB2.out.trans (hb3.mono HB2.out.size));have HR3:=hid hr3;clear hm3 hr3 ha3 hb3)
    have HZ:Hid (∀ A',Calls Tryz.prog 441 #[.slice A' 0 (c - 3)] w3 fun e w'=>e = .returned (.bool (allZ ([x1,x2].drop 2)))∧Below w3.heap.size w3 w'):=hid (fun A'=>zeros_any A' 0 (c - 3) _ w3 (⟨rfl,fun h=>absurd h (by decide)⟩) (by omega))
    generalize allZ ([x1,x2].drop 2)=z at *
    cases z
    ·have HD3:Hid (X=none):=hid (by rw [HD2.out,if_neg (by decide)])
     clear HD2
     clear hc0
     go_wp2_with (go_at_call 441;refine (HZ.out _).mono ?_;rintro e w4 ⟨rfl,hb4⟩;have HB4:=hid (HB3.out.trans (hb4.mono HB3.out.size));clear hb4)
     all_goals go_ret2
     all_goals unfold RetNm
     all_goals rw [HD3.out]
     all_goals exact ⟨rfl,HB1.out.trans (HB4.out.mono HB1.out.size)⟩
    ·have HD3:Hid (X=some bs):=hid (by rw [HD2.out,if_pos rfl])
     clear HD2
     clear hc0
     go_wp2_with (go_at_call 441;refine (HZ.out _).mono ?_;rintro e w4 ⟨rfl,hb4⟩;have HB4:=hid (HB3.out.trans (hb4.mono HB3.out.size));have hcv:=conv_strN c3 (HR3.out.below hb4) HBy.out;clear hb4)
     all_goals go_ret2
     all_goals unfold RetNm
     all_goals rw [HD3.out]
     all_goals exact ⟨rfl,HB1.out.trans (HB4.out.mono HB1.out.size)⟩
end
section
open Go.RowKit
structure Still (a:DA) (L:Nat) (cur:Nat→Nat) (w:World):Prop where
 dev:∃ exe,Blk w a.d 158 (devCells a L exe)
 per:Blk w a.pb 32 (uA ((List.range (8 * L)).map cur))
 lin:∃ ls,Blk w a.lb 298 ls∧∀ i,i < L→∃ A c,ls[i * 2+1]?=some (.slice A 0 c)
 hL:L≤4096
theorem still_of {a:DA} {L T:Nat} {w:World} {S:Fp} {cur:Nat→Nat} {D N:Nat→Prop} {F:Nat} (h:DevM a L T w S cur D N F) (hD:∀ k,¬ D k):Still a L cur w:=by
 obtain ⟨s,exe,per,cs,ls,hc,_,hcl⟩:=h
 have hws:∀ i,i < L→s.ws i=[]:=fun i hi=>by
  rw [List.eq_nil_iff_forall_not_mem]
  intro e he
  have h1:=hc.lin i hi e he
  have h2:=hcl (e.1 / 8) (by omega) (hD _) e
  rw [show e.1 / 8 / 8=i by omega] at h2
  exact h2 he rfl
 refine ⟨⟨exe,hc.dev⟩,?_,⟨ls,hc.linB,fun i hi=>?_⟩,hc.hL⟩
 ·have e:per=uA ((List.range (8 * L)).map cur):=by
   apply Array.ext_getElem?
   intro i
   by_cases hi:i < 8 * L
   ·have h1:=hc.link i hi
    rw [hws (i / 8) (by omega)] at h1
    have h1:s.pw i=cur i:=h1
    rw [hc.pv i hi,uA_at (by simpa using hi),h1]
    simp
   ·rw [Array.getElem?_eq_none (by rw [hc.perS];omega),Array.getElem?_eq_none (by simp [uA,uCells];omega)]
  rw [← e]
  exact hc.perB
 ·rw [hc.linH i hi]
  have ho:=hc.own i hi
  have hx:=hc.hx i hi
  rw [hws i hi] at hx
  have hm:s.m i=0:=by
   have h1:=ho.1
   rw [hx] at h1
   simp [wrCells] at h1
   omega
  rcases ho.2 with ⟨h1,_⟩ | ⟨g,cap,cur,h1,_⟩
  ·exact ⟨_,_,by rw [h1]⟩
  ·exact ⟨_,_,by rw [h1,hm]⟩
theorem Still.below {a:DA} {L:Nat} {w w':World} {cur:Nat→Nat} (h:Still a L cur w) (hb:Below w.heap.size w w'):Still a L cur w':=by
 obtain ⟨⟨exe,h1⟩,h2,⟨ls,h3,h4⟩,h5⟩:=h
 exact ⟨⟨exe,h1.below hb h1.lt⟩,h2.below hb h2.lt,⟨ls,h3.below hb h3.lt,h4⟩,h5⟩
theorem dirty_still {a:DA} {L:Nat} {w:World} {cur:Nat→Nat} (h:Still a L cur w) :
  Calls Tryz.prog 191 #[.pointer (some ⟨a.d,0,none⟩)] w fun e w'=>e = .returned (.slice none 0 0)∧w=w':=by
 obtain ⟨⟨exe,h1⟩,_,⟨ls,h3,h4⟩,h5⟩:=h
 have f2:w.cell? ⟨a.d,2,none⟩=some (.slice (some ⟨a.lb,0,none⟩) L L):=h1.cell 2
 have HL:=hid h3
 have H4:=hid h4
 generalize a.lb=lb at *
 clear h1 h3 h4
 go_enter Tryz.func191,Tryz.ntmps191
 go_wp2
 go_loopw [3,12] (fun v3 i wr=>∃ k:Nat,k≤L∧v3 = .slice none 0 0∧i = .int .i64 (k:Int)∧w=wr) (fun _ i _=>L - (Go.RowKit.intOf i).toNat)
 case atStart=>exact ⟨0,Nat.zero_le _,rfl,rfl,rfl⟩
 case round =>
  obtain ⟨k,hk,rfl,rfl,rfl⟩:=hrel
  by_cases hlt:k < L
  ·obtain ⟨A,c,e⟩:=H4.out k hlt
   have f3:w.cell? ⟨lb,k * 2+1,none⟩=some (.slice A 0 c):=by rw [HL.out.cell];exact e
   have hz5:(0:Int)≤(k:Int):=by omega
   have hz6:(k:Int) < (L:Int):=by omega
   clear e
   go_wp2
   go_roundw
   case rel =>
    first
     | exact ⟨k+1,by omega,rfl,by go_num,trivial⟩
     | exact ⟨k+1,by omega,rfl,by go_num,rfl⟩
     | (
       repeat apply Exists.intro
       refine ⟨?_,rfl⟩
       exact ⟨k+1,by omega,rfl,by go_num,rfl⟩)
   case measure=>simp [Go.RowKit.intOf];omega
  ·obtain rfl:L=k:=by omega
   go_wp2
   go_ret
   exact ⟨rfl,rfl⟩
def RetByo (w:World) (l:List Nat) (e:Ending) (w':World):Prop:=∃ g,e = .returned (.slice (some ⟨g,0,none⟩) l.length l.length)∧Reads w' w'.heap.size 1 (some ⟨g,0,none⟩) l.length (u8s l)∧Below w.heap.size w w'
theorem bytesOf_any (A:Option Addr) (q c n:Nat) (xs:List Nat) (w:World) (h:Reads w w.heap.size 1 A q (uCells xs)) (hx:∀ x∈xs,x < 18446744073709551616) (hn:n=8 * q) (hq:q≤100000) :
  Calls Tryz.prog 193 #[.slice A q c] w (RetByo w (unpB xs n)):=by
 have hl0:xs.length=q:=by have:=h.1;simp [uCells] at this;omega
 have HR:=hid h
 have HX:=hid hx
 have hmk:=makeB n (by omega)
 have hq8:n≤8 * q:=by omega
 have u1:wrap64 ((q:Int) * 8)=(n:Int):=by rw [IntWalk.wrap64_in _ (by omega)];omega
 have u2:IntKind.i64.wrap ((q:Int) * 8)=(n:Int):=by rw [IntKind.wrap_i64];omega
 have u3:(q:Int) * 8=(n:Int):=by omega
 have hn9:n≤800000:=by omega
 clear h hx hl0 hn
 go_enter Tryz.func193,Tryz.ntmps193
 go_wp2
 go_loopw [11] (fun i wr=>∃ k:Nat,k≤n∧i = .int .i64 (k:Int)∧Hid (∃ cs,Blk wr w.heap.size 5 cs∧cs.size=n∧∀ j,j < k→cs[j]?=some (.int .u8 ((xs.getD (j / 8) 0 / 256 ^ (j % 8) % 256:Nat):Int)))∧Hid (Below w.heap.size w wr)) (fun i _=>n - (Go.RowKit.intOf i).toNat)
 case atStart =>
  exact ⟨0,Nat.zero_le _,rfl,hid ⟨_,Blk.new w _ _,size_madeCells _ _,fun j hj=>absurd hj (by omega)⟩,hid ((Below.refl _ _).alloc (Nat.le_refl _) _)⟩
 case round =>
  obtain ⟨k,hk,rfl,HC,HB⟩:=hrel
  by_cases hlt:k < n
  ·have hkq:k / 8 < q:=by omega
   obtain ⟨hl,b,off,hA,hbB,f0⟩:=u_facts (HR.out.below HB.out) hkq
   subst hA
   obtain ⟨cs,hB,hsz,hcs⟩:=HC.out
   have e:xs.getD (k / 8) 0=xs[k / 8]:=by rw [List.getD_eq_getElem?_getD,List.getElem?_eq_getElem hl];rfl
   have hx64:=HX.out _ (List.getElem_mem hl)
   rw [← e] at f0 hx64
   have e2:(((xs.getD (k / 8) 0:Nat):Int) / 2 ^ (k % 8 * 8)) % 256=((xs.getD (k / 8) 0 / 256 ^ (k % 8) % 256:Nat):Int):=by
    rw [show (256:Nat) ^ (k % 8)=2 ^ (k % 8 * 8) by rw [show (256:Nat)=2 ^ 8 by decide,← Nat.pow_mul,Nat.mul_comm 8 (k % 8)]]
    push_cast
    rfl
   have hc0:k < cs.size:=by omega
   have HN:Hid (∃ cs',Blk (wr.setCell ⟨w.heap.size,k,none⟩ (.int .u8 ((xs.getD (k / 8) 0 / 256 ^ (k % 8) % 256:Nat):Int))) w.heap.size 5 cs'∧cs'.size=n∧∀ j,j < k+1→cs'[j]?=some (.int .u8 ((xs.getD (j / 8) 0 / 256 ^ (j % 8) % 256:Nat):Int))):=hid ⟨_,hB.set_ k _,by simp [hsz],fun j hj=>by
    rw [Array.getElem?_setIfInBounds]
    by_cases e:k=j
    ·subst e
     simp [hc0]
    ·rw [if_neg e,hcs j (by omega)]⟩
   have HB2:Hid (Below w.heap.size w (wr.setCell ⟨w.heap.size,k,none⟩ (.int .u8 ((xs.getD (k / 8) 0 / 256 ^ (k % 8) % 256:Nat):Int)))):=hid (HB.out.setCell (Nat.le_refl _) _)
   have f1:wr.cell? ⟨w.heap.size,k,none⟩=some cs[k]:=by rw [hB.cell,Array.getElem?_eq_getElem hc0]
   have z1:wr.frozen? ⟨w.heap.size,k,none⟩=false:=hB.frozen _
   have HE2:=hid e2
   clear e hcs HC hbB hB e2
   generalize cs[k]=ck at *
   generalize xs.getD (k / 8) 0=z at *
   generalize z / 256 ^ (k % 8) % 256=r at *
   have hz5:(0:Int)≤(k:Int):=by omega
   have hz6:(k:Int) < (n:Int):=by omega
   have hz7:(k:Int) / 8 < (q:Int):=by omega
   go_wp2
   go_roundw
   case rel =>
    first
     | (
       refine ⟨k+1,by omega,by go_num,?_,?_⟩
       ·rw [HE2.out];exact HN
       ·rw [HE2.out];exact HB2)
     | (
       repeat apply Exists.intro
       refine ⟨?_,rfl⟩
       refine ⟨k+1,by omega,by go_num,?_,?_⟩
       ·rw [HE2.out];exact HN
       ·rw [HE2.out];exact HB2)
   case measure=>simp [Go.RowKit.intOf];omega
  ·have hkn:k=n:=by omega
   have HF:Hid (RetByo w (unpB xs n) (.returned (.slice (some ⟨w.heap.size,0,none⟩) n n)) wr):=hid (by
    obtain ⟨cs,hB,hsz,hcs⟩:=HC.out
    refine ⟨w.heap.size,by rw [unpB_len],reads_of_blk hB ?_ ?_,HB.out⟩
    ·simp [u8s,unpB_len]
    ·intro j u hu
     have hj:j < n:=by
      have h1:=(List.getElem?_eq_some_iff.1 hu).1
      simp [u8s,unpB_len] at h1
      omega
     rw [hcs j (by omega),← hu]
     simp [u8s,unpB,hj])
   have hd1:decide ((k:Int) < (n:Int))=false:=decide_eq_false (by omega)
   have hd2:decide (k < n)=false:=decide_eq_false hlt
   clear hkn hlt hk HC
   go_wp2
   go_ret
   exact HF.out
end
end Go.Proofs.YtfkjjoglnmeciaaGreatDoor
