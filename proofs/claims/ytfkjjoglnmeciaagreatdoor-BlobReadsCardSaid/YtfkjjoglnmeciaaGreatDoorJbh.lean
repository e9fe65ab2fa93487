/- The walks and laws that the claim leans on, part 34. -/
import Derived.Test.YtfkjjoglnmeciaaGreatDoorJbf
set_option maxRecDepth 100000
set_option maxHeartbeats 16000000
namespace Go.Proofs.YtfkjjoglnmeciaaGreatDoor
open Go.Lib (hid)
section
open Go.RowKit Go.Maps
def PSet (w:World) (b n:Nat) (l:List Nat):Prop:=∃ D:DataW Unit,w.ownsMap Tryz.prog 54 (plainElem Tryz.prog 4) b n D∧SetD D l
theorem keyP {x:Nat} (h:x < 18446744073709551616):keyOf Tryz.prog 54 (.int .u64 (x:Int))=some (kU x):=keyOf_int_mk Tryz.underlying54 (wf_u64_nat h)
theorem keyedP:Keyed Tryz.prog 54:=int_keyed Tryz.underlying54
theorem PSet.look {w:World} {b n:Nat} {l:List Nat} (h:PSet w b n l) {x:Nat} (hx:x < 18446744073709551616):(Instr.lookup 397 (.map (some b)) (.int .u64 (x:Int)) false).run Tryz.prog w = .ok (.bool (decide (x∈l))) w:=by
 obtain ⟨D,ho,hd⟩:=h
 obtain ⟨v,ps,hrun,hv⟩:=ho.lookup keyedP Tryz.underlying397 (z := .bool false) (by kernel_rfl) (plainElem_bool Tryz.underlying4 false) (keyP hx)
 obtain ⟨c,rfl,hc⟩:=plainElem_bool_inv Tryz.underlying4 hv
 rw [hd x] at hc
 simp at hc
 rw [hrun,hc.1]
theorem PSet.add {w:World} {b n:Nat} {l:List Nat} (h:PSet w b n l) (hn:n < maxLen) {x:Nat} (hx:x < 18446744073709551616):∃ w',(Instr.mapUpdate 397 (.map (some b)) (.int .u64 (x:Int)) (.bool true)).run Tryz.prog w = .ok () w'∧PSet w' b (n+1) (x :: l)∧w.grownBy w' (some b):=by
 obtain ⟨D,ho,hd⟩:=h
 obtain ⟨w',hrun,ho',hg⟩:=ho.update keyedP Tryz.underlying397 hn (keyP hx) (plainElem_bool Tryz.underlying4 true)
 exact ⟨w',hrun,⟨_,ho',hd.put ho.isMap x⟩,hg⟩
theorem PSet.new (w:World):PSet (w.alloc (.map #[] 0)) w.heap.size 0 []:=⟨_,World.ownsMap_made w _ _ _,SetD.nil⟩
section
theorem take_rev {l:List Nat} {k:Nat} (hl:k < l.length):(l.take (k+1)).reverse=l[k] :: (l.take k).reverse:=by
 rw [List.take_succ_eq_append_getElem hl,List.reverse_append]
 rfl
theorem p_facts {w:World} {B n:Nat} {A:Option Addr} {l:List Nat} (h:Reads w B 1 A n (uCells l)) {k:Nat} (hk:k < n) :
  ∃ (hl:k < l.length) (b off:Nat),A=some ⟨b,off,none⟩∧b < B∧w.cell? ⟨b,off+k,none⟩=some (.int .u64 ((l[k]:Nat):Int)):=by
 have hl:k < l.length:=by have:=h.1;simp [uCells] at this;omega
 obtain ⟨b,off,hA,hb,hc⟩:=h.plain (by omega) (by omega)
 exact ⟨hl,b,off,hA,hb,hc k _ (by simp [uCells,hl])⟩
theorem distinct_any (A1 A2:Option Addr) (n1 c1 n2 c2:Nat) (keep free:List Nat) (w:World) (b:Nat) (hB:Blk w b 40 #[.slice A1 n1 c1, .slice A2 n2 c2]) (h1:Reads w w.heap.size 1 A1 n1 (uCells keep)) (h2:Reads w w.heap.size 1 A2 n2 (uCells free)) (hn:(keep++free).Nodup) (hv:∀ p∈keep++free,p≠0∧p < 18446744073709551616) (hn1:n1≤1000) (hn2:n2≤1000) :
  Calls Tryz.prog 234 #[.slice (some ⟨b,0,none⟩) 2 2] w fun e w'=>e = .returned (.bool true)∧Below w.heap.size w w':=by
 have hmm:∀ W,(Instr.makeMap 397 none).run Tryz.prog W = .ok (.map (some W.heap.size)) (W.alloc (.map #[] 0)):=fun _=>rfl
 have c0:(w.alloc (.map #[] 0)).cell? ⟨b,0,none⟩=some (.slice A1 n1 c1):=(hB.alloc _).cell 0
 have c1':(w.alloc (.map #[] 0)).cell? ⟨b,1,none⟩=some (.slice A2 n2 c2):=(hB.alloc _).cell 1
 have HB0:Hid (Below w.heap.size w (w.alloc (.map #[] 0))):=hid ((Below.refl _ w).alloc (Nat.le_refl _) (.map #[] 0))
 have HS0:Hid (PSet (w.alloc (.map #[] 0)) w.heap.size 0 (keep.take 0).reverse):=hid (PSet.new w)
 have HR1:=hid h1
 have HR2:=hid h2
 have HV:=hid hv
 have HNd:=hid hn
 have HBB:=hid hB
 have HL1:=hid (show keep.length=n1 by have:=h1.1;simp [uCells] at this;omega)
 clear hB h1 h2 hv hn
 go_enter Tryz.func234,Tryz.ntmps234
 go_wp2
 refine wp_loop_rounds 3 ?_
 rw [rounds_succ]
 go_wp2
 go_loopw [17] (fun i wr=>∃ (k:Nat),k≤n1∧i = .int .i64 k∧Hid (PSet wr w.heap.size (k) (keep.take k).reverse)∧Hid (Below w.heap.size w wr)) (fun i _=>n1 - (Go.RowKit.intOf i).toNat)
 case atStart=>exact ⟨0,Nat.zero_le _,rfl,HS0,HB0⟩
 case round =>
  clear HS0 HB0
  obtain ⟨k,hk,rfl,HS,H⟩:=hrel
  by_cases hlt:k < n1
  ·obtain ⟨hl,b,off,hA,hbB,f0⟩:=p_facts (HR1.out.below H.out) hlt
   subst hA
   have hmem:keep[k]∈keep++free:=List.mem_append.2 (.inl (List.getElem_mem hl))
   have hv:=HV.out _ hmem
   have hnk:keep[k] ∉ keep.take k:=fun hh=>by
    obtain ⟨j,hj,he⟩:=List.getElem_of_mem hh
    have hj2:j < k:=by simp at hj;omega
    have he2:keep[j]=keep[k]:=by rw [← he];simp
    exact (List.pairwise_iff_getElem.1 (List.nodup_append.1 HNd.out).1) j k (by omega) hl hj2 he2
   have hnot:keep[k] ∉ (keep.take k).reverse:=fun hh=>by
    exact hnk (by simpa using hh)
   have hlk:=HS.out.look (x:=keep[k]) hv.2
   rw [decide_eq_false hnot] at hlk
   obtain ⟨w2,hr2,hs2,hg2⟩:=HS.out.add (x:=keep[k]) (by unfold maxLen;omega) hv.2
   have HS2:Hid (PSet w2 w.heap.size ((k+1)) (keep.take (k+1)).reverse):=hid (by rw [take_rev hl];exact hs2)
   have HB2:=hid (H.out.trans ((grown_chg (Z:=fun j=>j=w.heap.size) hg2 rfl).toBelow H.out.size (fun j hj=>by omega)))
   have HNl:=hid (nil_any keep[k])
   rw [decide_eq_false hv.1] at HNl
   clear hs2 hg2 hnot hnk hmem hv HS H
   generalize keep[k]=p at *
   have hz5:(0:Int)≤(k:Int):=by omega
   have hz6:(k:Int) < (n1:Int):=by omega
   go_wp2_with (go_at_call 22;refine (HNl.out _).mono ?_;rintro e w3 ⟨rfl,rfl⟩)
   go_roundw
   case rel =>
    first
     | exact ⟨k+1,by omega,by go_num,HS2,HB2⟩
     | (
       repeat apply Exists.intro
       refine ⟨?_,rfl⟩
       exact ⟨k+1,by omega,by go_num,HS2,HB2⟩)
   case measure=>simp [Go.RowKit.intOf];omega
  ·have hkn:n1=k:=by omega
   subst hkn
   have c1r:wr.cell? ⟨b,1,none⟩=some (.slice A2 n2 c2):=(HBB.out.below H.out HBB.out.lt).cell 1
   have HS0:Hid (PSet wr w.heap.size (n1+0) ((free.take 0).reverse++keep.reverse)):=hid (by
    have h:=HS.out
    rw [List.take_of_length_le (by rw [HL1.out];exact Nat.le_refl _)] at h
    simpa using h)
   have HB0:=hid H.out
   clear HS H hlt hk c0 c1'
   go_wp2
   rw [rounds_succ]
   go_wp2
   go_loopw [17] (fun i wr=>∃ (k:Nat),k≤n2∧i = .int .i64 k∧Hid (PSet wr w.heap.size (n1+k) ((free.take k).reverse++keep.reverse))∧Hid (Below w.heap.size w wr)) (fun i _=>n2 - (Go.RowKit.intOf i).toNat)
   case atStart=>exact ⟨0,Nat.zero_le _,rfl,HS0,HB0⟩
   case round =>
    clear HS0 HB0
    obtain ⟨k,hk,rfl,HS,H⟩:=hrel
    by_cases hlt:k < n2
    ·obtain ⟨hl,b,off,hA,hbB,f0⟩:=p_facts (HR2.out.below H.out) hlt
     subst hA
     have hmem:free[k]∈keep++free:=List.mem_append.2 (.inr (List.getElem_mem hl))
     have hv:=HV.out _ hmem
     have hnk:free[k] ∉ free.take k:=fun hh=>by
      obtain ⟨j,hj,he⟩:=List.getElem_of_mem hh
      have hj2:j < k:=by simp at hj;omega
      have he2:free[j]=free[k]:=by rw [← he];simp
      exact (List.pairwise_iff_getElem.1 (List.nodup_append.1 HNd.out).2.1) j k (by omega) hl hj2 he2
     have hnot:free[k] ∉ ((free.take k).reverse++keep.reverse):=fun hh=>by
      rcases List.mem_append.1 hh with hh | hh
      ·exact hnk (by simpa using hh)
      ·exact (List.nodup_append.1 HNd.out).2.2 _ (by simpa using hh) _ (List.getElem_mem hl) rfl
     have hlk:=HS.out.look (x:=free[k]) hv.2
     rw [decide_eq_false hnot] at hlk
     obtain ⟨w2,hr2,hs2,hg2⟩:=HS.out.add (x:=free[k]) (by unfold maxLen;omega) hv.2
     have HS2:Hid (PSet w2 w.heap.size (n1+(k+1)) ((free.take (k+1)).reverse++keep.reverse)):=hid (by rw [take_rev hl];exact hs2)
     have HB2:=hid (H.out.trans ((grown_chg (Z:=fun j=>j=w.heap.size) hg2 rfl).toBelow H.out.size (fun j hj=>by omega)))
     have HNl:=hid (nil_any free[k])
     rw [decide_eq_false hv.1] at HNl
     clear hs2 hg2 hnot hnk hmem hv HS H
     generalize free[k]=p at *
     have hz5:(0:Int)≤(k:Int):=by omega
     have hz6:(k:Int) < (n2:Int):=by omega
     go_wp2_with (go_at_call 22;refine (HNl.out _).mono ?_;rintro e w3 ⟨rfl,rfl⟩)
     go_roundw
     case rel =>
      first
       | exact ⟨k+1,by omega,by go_num,HS2,HB2⟩
       | (
         repeat apply Exists.intro
         refine ⟨?_,rfl⟩
         exact ⟨k+1,by omega,by go_num,HS2,HB2⟩)
     case measure=>simp [Go.RowKit.intOf];omega
    ·have hkn:n2=k:=by omega
     subst hkn
     go_wp2
     rw [rounds_succ]
     go_wp2
     go_ret
     exact ⟨rfl,H.out⟩
end
end
section
open Go.RowKit
def RetAct (w:World) (ln cl:Nat) (bs:Nat→BK) (take:List (Nat × Nat)) (drop:List Nat) (e:Ending) (w':World):Prop :=
 ∃ A m c V',e = .returned (.tuple #[.slice A m c, .int .i64 0])∧Bits V' cl (actB bs take drop)∧w'.ownsRow w.heap.size 114 2 (.slice A m c) m (wrCells (chgW ln cl bs take drop V'))∧Below w.heap.size w w'
section
variable {a:DA} {L T:Nat} {w:World} {S:Fp} {cur:Nat→Nat} {F:Nat}
theorem chActions_any (h:Dev a L T w S cur F) (ht:Tab w) (hp:Pay w) (ln cl g V:Nat) (bs:Nat→BK) (hl:ln+32≤L) (hC:ChW cur ln cl g V bs)
  (A1 A2 A3:Option Addr) (n1 c1 c2 n3 c3:Nat) (take:List (Nat × Nat)) (drop:List Nat) (h1:Reads w w.heap.size 1 A1 n1 (jCells (take.map (·.1)))) (h2:Reads w w.heap.size 1 A2 n1 (u8s (take.map (·.2)))) (h3:Reads w w.heap.size 1 A3 n3 (jCells drop))
  (hn:(take.map (·.1)++drop).Nodup) (hi1:∀ e∈take,e.1 < perC cl∧(bs e.1).st=176∧0 < e.2∧e.2 < 128) (hi3:∀ i∈drop,i < perC cl∧(bs i).st=177) (hne:0 < n1∨0 < n3) (hn1:n1≤100) (hn3:n3≤100) :
  Calls Tryz.prog 240 #[chV a ln cl 0 g, .slice A1 n1 c1, .slice A2 n1 c2, .slice A3 n3 c3] w (RetAct w ln cl bs take drop):=by
 have hb0:Below w.heap.size w (w.alloc (.cells (chCells a ln cl g) 306)):=(Below.refl _ _).alloc (Nat.le_refl _) _
 have HB0:=hid hb0
 have HK:=hid (Blk.new w 306 (chCells a ln cl g))
 have HOn:Hid (∀ W bl,Below w.heap.size w W→Blk W bl 34 #[.slice A1 n1 c1, .slice A3 n3 c3]→Calls Tryz.prog 318 #[chV a ln cl 0 g, .slice (some ⟨bl,0,none⟩) 2 2] W fun e w'=>e = .returned (.bool true)∧Below W.heap.size W w'):=hid (fun W bl hW hB=>once_any a ln cl g hC.cls A1 A3 n1 c1 n3 c3 (take.map (·.1)) drop W (hp.below hW) bl hB ((h1.below hW).more hW.size) ((h3.below hW).more hW.size) hn (fun i hi=>by
  rcases List.mem_append.1 hi with hi | hi
  ·obtain ⟨e,he,rfl⟩:=List.mem_map.1 hi
   exact (hi1 e he).1
  ·exact (hi3 i hi).1) (by omega) (by omega))
 have HEr:Hid (∀ W,Below w.heap.size w W→Calls Tryz.prog 112 #[.pointer (some ⟨a.th 0,0,none⟩)] W fun e w'=>e = .returned (.int .i64 0)∧W=w'):=hid (fun W hW=>thErr (h.below hW))
 have HCh:Hid (∀ W,Below w.heap.size w W→Calls Tryz.prog 319 #[chV a ln cl 0 g, .slice A1 n1 c1, .slice A2 n1 c2, .slice A3 n3 c3] W (RetChg W ln cl bs take drop)):=hid (fun W hW=>changes_any (h.below hW) (ht.below hW) (hp.below hW) ln cl g V bs hl hC A1 A2 A3 n1 c1 c2 n3 c3 take drop ((h1.below hW).more hW.size) ((h2.below hW).more hW.size) ((h3.below hW).more hW.size) hn hi1 hi3 hne hn1 hn3)
 have HR2:=hid h2
 have HI1:=hid hi1
 have HL2:=hid (show take.length=n1 by have:=h2.1;simp [u8s] at this;omega)
 have hm:=methErr (some ⟨a.th 0,0,none⟩)
 have hq:=eqMem (some ⟨a.th 0,0,none⟩)
 clear h ht hp hl hC h1 h2 h3 hn hi1 hi3 hne hb0
 unfold chV at *
 unfold chCells memV at *
 generalize hW:w.alloc (.cells #[.iface 58 (.pointer (some ⟨a.th 0,0,none⟩)), .int .i64 (ln:Int), .int .i64 (cl:Int), .int .i64 0, .int .u16 (g:Int)] 306)=W at *
 have HWe:=hid hW.symm
 clear hW
 go_enter Tryz.func240,Tryz.ntmps240
 go_wp2
 rw [← HWe.out]
 go_loopw [23] (fun i wr=>∃ (k:Nat),k≤n1∧i = .int .i64 k∧Hid (W=wr)) (fun i _=>n1 - (Go.RowKit.intOf i).toNat)
 case atStart=>exact ⟨0,Nat.zero_le _,rfl,hid rfl⟩
 case round =>
  obtain ⟨k,hk,rfl,hw⟩:=hrel
  have hw:=hw.out
  subst hw
  by_cases hlt:k < n1
  ·obtain ⟨hl2,b2,off2,hA2,hbB2,fk⟩:=k_facts (HR2.out.below HB0.out) hlt
   subst hA2
   have e2:(take.map (·.2))[k]=(take[k]'(by rw [HL2.out];exact hlt)).2:=by simp
   rw [e2] at fk
   obtain ⟨_,_,hk0,hk8⟩:=HI1.out (take[k]'(by rw [HL2.out];exact hlt)) (List.getElem_mem _)
   generalize (take[k]'(by rw [HL2.out];exact hlt)).2=kd at *
   have d1:((kd:Int) == 0)=false:=by rw [beq_eq_false_iff_ne];omega
   have d2:decide ((127:Int) < (kd:Int))=false:=decide_eq_false (by omega)
   have d2n:decide (127 < kd)=false:=decide_eq_false (by omega)
   have hz5:(0:Int)≤(k:Int):=by omega
   have hz6:(k:Int) < (n1:Int):=by omega
   clear e2 hl2
   go_wp2
   go_roundw
   case rel =>
    first
     | exact ⟨k+1,by omega,by go_num,hid trivial⟩
     | exact ⟨k+1,by omega,by go_num,hid rfl⟩
     | (
       repeat apply Exists.intro
       refine ⟨?_,rfl⟩
       exact ⟨k+1,by omega,by go_num,hid rfl⟩)
   case measure=>simp [Go.RowKit.intOf];omega
  ·have hkn:k=n1:=by omega
   subst hkn
   clear hlt hk
   have hd0:W.cell? ⟨w.heap.size,0,none⟩=some (.iface 58 (.pointer (some ⟨a.th 0,0,none⟩))):=HK.out.cell 0
   have hd1:W.cell? ⟨w.heap.size,1,none⟩=some (.int .i64 (ln:Int)):=HK.out.cell 1
   have hd2:W.cell? ⟨w.heap.size,2,none⟩=some (.int .i64 (cl:Int)):=HK.out.cell 2
   have hd3:W.cell? ⟨w.heap.size,3,none⟩=some (.int .i64 0):=HK.out.cell 3
   have hd4:W.cell? ⟨w.heap.size,4,none⟩=some (.int .u16 (g:Int)):=HK.out.cell 4
   have HBs:=hid (HB0.out.alloc HB0.out.size (.cells #[.slice A1 k c1, .slice A3 n3 c3] 34))
   have HKs:=hid (Blk.new W 34 #[.slice A1 k c1, .slice A3 n3 c3])
   have HOs:=hid (HOn.out _ _ HBs.out HKs.out)
   have HKc:=hid (HK.out.alloc (.cells #[.slice A1 k c1, .slice A3 n3 c3] 34))
   clear HOn HKs
   go_wp2_with (go_at_call 318;refine HOs.out.mono ?_;rintro e w2 ⟨rfl,hb2⟩;refine stop ?_)
   unfold Stop
   have HB2:=hid (HBs.out.trans (hb2.mono HBs.out.size))
   have HK2:=hid (HKc.out.below hb2 HKc.out.lt)
   clear hb2 hd0 hd1 hd2 hd3 hd4 HOs HBs HKc
   have hd0:w2.cell? ⟨w.heap.size,0,none⟩=some (.iface 58 (.pointer (some ⟨a.th 0,0,none⟩))):=HK2.out.cell 0
   have hd1:w2.cell? ⟨w.heap.size,1,none⟩=some (.int .i64 (ln:Int)):=HK2.out.cell 1
   have hd2:w2.cell? ⟨w.heap.size,2,none⟩=some (.int .i64 (cl:Int)):=HK2.out.cell 2
   have hd3:w2.cell? ⟨w.heap.size,3,none⟩=some (.int .i64 0):=HK2.out.cell 3
   have hd4:w2.cell? ⟨w.heap.size,4,none⟩=some (.int .u16 (g:Int)):=HK2.out.cell 4
   have HC2:=hid (HCh.out w2 HB2.out)
   have HE2:=hid (HEr.out w2 HB2.out)
   go_wp2_with (first
    | (go_at_call 112;refine HE2.out.mono ?_;rintro e w3 ⟨rfl,rfl⟩)
    | (go_at_call 319;refine HC2.out.mono ?_;rintro e w3 ⟨A,m,c,V',rfl,hbt,ho,hb3⟩;refine stop ?_))
   unfold Stop
   have HB3:=hid (HB2.out.trans (hb3.mono HB2.out.size))
   have HK3:=hid (HK2.out.below hb3 HK2.out.lt)
   have HBt:=hid hbt
   have HO3:=hid (own_le (base':=w.heap.size) ho HB2.out.size)
   have HE3:=hid (HEr.out w3 HB3.out)
   have hx0:w3.cell? ⟨w.heap.size,0,none⟩=some (.iface 58 (.pointer (some ⟨a.th 0,0,none⟩))):=HK3.out.cell 0
   clear hb3 hbt ho hd0 hd1 hd2 hd3 hd4 HC2 HE2 HCh
   go_wp2_with (go_at_call 112;refine HE3.out.mono ?_;rintro e w4 ⟨rfl,rfl⟩)
   go_ret2
   exact ⟨_,_,_,V',rfl,HBt.out,HO3.out,HB3.out⟩
end
end
section
open Go.RowKit Go.Maps
section
variable {a:DA} {L T s n K:Nat} {x:HA} {cs:Nat→CS} {f:Nat→Option Nat} {N m b0:Nat} {S:Fp} {cur:Nat→Nat} {w w':World} {k:Nat}
theorem DS.rel (h:DS a L T s n K x cs f N m b0 S cur w) {o p:Nat} (hf:f o=some p) (ho:o < 18446744073709551616) (hk:k < K) (hN:N < maxLen) :
  ∃ (w1 w2 w3:World) (c c2:Int),
   (Builtin.delete_ #[190,32] 0 #[.map (some x.mr), .int .u64 (o:Int)]).run Tryz.prog w.drew = .ok (.tuple #[]) w1 ∧
   (Instr.lookup 191 (.map (some x.mh)) (.int .i64 ((s+32 * k:Nat):Int)) false).run Tryz.prog w1 = .ok (.int .i64 c) w1 ∧
   (Instr.mapUpdate 191 (.map (some x.mh)) (.int .i64 ((s+32 * k:Nat):Int)) (.int .i64 (wrap64 (c - 1)))).run Tryz.prog w1 = .ok () w2 ∧
   (Instr.lookup 191 (.map (some x.mh)) (.int .i64 ((s+32 * k:Nat):Int)) false).run Tryz.prog w2 = .ok (.int .i64 c2) w2 ∧
   (Builtin.delete_ #[191,3] 0 #[.map (some x.mh), .int .i64 ((s+32 * k:Nat):Int)]).run Tryz.prog w2 = .ok (.tuple #[]) w3 ∧
   Blk w1 x.h 194 (heapCells a s n x.gs x.mr x.mh false)∧Blk w2 x.h 194 (heapCells a s n x.gs x.mr x.mh false)∧Blk w3 x.h 194 (heapCells a s n x.gs x.mr x.mh false)∧Plc a s K x.p cs w3 ∧
   (DS a L T s n K x cs (updF f o none) (N+1) (m - 1) b0 S cur w2∧Chg x.fp w w2) ∧
   ∀ w4,Plc a s K x.p cs w4→Chg (fun j=>j=x.pl) w3 w4→DS a L T s n K x cs (updF f o none) (N+1) (m - 1) b0 S cur w4∧Chg x.fp w w4:=by
 obtain ⟨n1,n2,n3,n4,n5,n6,n7,n8⟩:=h.hs.pl_ne
 have hfew:=h.few
 have hd:Chg Fp.no w w.drew:=(Chg.refl _ _).drew
 have hs:=h.hs.chg hd (fun h=>h) (fun h=>h) (fun h=>h) (fun h=>h) (fun h=>h)
 obtain ⟨w1,r1,p1,g1⟩:=hs.res.del ho hf
 have c1:Chg (fun j=>j=x.mr) w.drew w1:=grown_chg g1 rfl
 have hm1:=hs.held.chg c1 (fun e=>hs.ne e.symm)
 obtain ⟨c,r2,hwc⟩:=hm1.look (x:=s+32 * k) (by omega)
 obtain ⟨w2,r3,p2,g2⟩:=hm1.put hN (x:=s+32 * k) (by omega) (wrap64_wf (c - 1))
 have c2:Chg (fun j=>j=x.mh) w1 w2:=grown_chg g2 rfl
 obtain ⟨cc,r4,hwc2⟩:=p2.look (x:=s+32 * k) (by omega)
 obtain ⟨w3,r5,p3,g3⟩:=p2.del (x:=s+32 * k) (by omega)
 have c3:Chg (fun j=>j=x.mh) w2 w3:=grown_chg g3 rfl
 have b1:=c1.blk hs.heap n5
 have b2:=c2.blk b1 n6
 have b3:=c3.blk b2 n6
 have l2:=(hs.plc.chg c1 n3 n1).chg c2 n4 n2
 have l3:=l2.chg c3 n4 n2
 have f2:Chg x.fp w w2:=(((Chg.refl x.fp w).drew).trans (S':=fun j=>j=x.mr) c1 (fun j hj => .inl (.inr (.inl hj)))).trans (S':=fun j=>j=x.mh) c2 (fun j hj => .inl (.inr (.inr hj)))
 have hres:∀ o' p',updF f o none o'=some p'→ResLoc s K cs o' p':=fun o' p' hop=>by
  unfold updF at hop
  split at hop
  ·cases hop
  ·exact h.res o' p' hop
 have q2:=(p1.mono (Nat.le_succ N)).chg c2 h.hs.ne
 refine ⟨w1,w2,w3,c,cc,r1,r2,r3,r4,r5,b1,b2,b3,l3,⟨h.own_ ⟨b2,l2,q2,p2,h.hs.ne⟩ f2 h.ok hres,f2⟩,fun w4 l4 c4=>?_⟩
 have f4:Chg x.fp w w4:=(f2.trans (S':=fun j=>j=x.mh) c3 (fun j hj => .inl (.inr (.inr hj)))).trans (S':=fun j=>j=x.pl) c4 (fun j hj => .inl (.inl hj))
 exact ⟨h.own_ ⟨c4.blk b3 n8,l4,(q2.chg c3 h.hs.ne).chg c4 (fun e=>n1 e.symm),p3.chg c4 (fun e=>n2 e.symm),h.hs.ne⟩ f4 h.ok hres,f4⟩
end
def RetRel (a:DA) (L T s n K:Nat) (x:HA) (cs:Nat→CS) (f:Nat→Option Nat) (N m b0:Nat) (S:Fp) (cur:Nat→Nat) (w:World) (v:Value) (e:Ending) (w':World):Prop:=e = .returned v∧DS a L T s n K x cs f N m b0 S cur w'∧Chg x.fp w w'
section
variable {a:DA} {L T s n K:Nat} {x:HA} {cs:Nat→CS} {f:Nat→Option Nat} {N m b0:Nat} {S:Fp} {cur:Nat→Nat} {w w':World}
theorem release_any (h:DS a L T s n K x cs f N m b0 S cur w) (p:Nat) (hf:f (pOff p)=some p) (hN:N < 1000000000) :
  Calls Tryz.prog 245 #[.pointer (some ⟨x.h,0,none⟩), .int .u64 (p:Int)] w (RetRel a L T s n K x cs (updF f (pOff p) none) (N+1) (m - 1) b0 S cur w (.tuple #[])):=by
 obtain ⟨k,i,hk,hd,hi,hoo,_⟩:=h.res _ _ hf
 have hho:homeOf s K (pOff p)=some k:=by rw [hoo];exact homeOf_blk hk hi
 have ho64:pOff p < 18446744073709551616:=by unfold pOff;omega
 obtain ⟨w1,w2,w3,c,c2,r1,r2,r3,r4,r5,b1,b2,b3,l3,hA,hB⟩:=h.rel hf ho64 hk (by unfold maxLen;omega)
 have hfew:=h.few
 have HOf:=hid (off_any p)
 have hn4:n≤4096:=by have:=h.hK;have:=h.hL;omega
 have HHm:=hid (home_any b1 hfew.2 hn4 h.hK.1 (pOff p) ho64)
 have HHo:=hid (holdP_any l3 hfew.1 (by omega) hk hd false)
 have HDA:=hid hA
 have HDB:=hid hB
 have HHO:=hid hho
 have y0:w.cell? ⟨x.h,4,none⟩=some (.map (some x.mr)):=h.hs.heap.cell 4
 have y1:w1.cell? ⟨x.h,5,none⟩=some (.map (some x.mh)):=b1.cell 5
 have y2:w2.cell? ⟨x.h,5,none⟩=some (.map (some x.mh)):=b2.cell 5
 have y3:w3.cell? ⟨x.h,3,none⟩=some (.pointer (some ⟨x.gs,0,none⟩)):=b3.cell 3
 clear h hoo hf hA hB hho b1 b2 b3 l3 hd hi
 unfold HA.p RetHold at HHo
 dsimp only at HHo
 unfold RetRel
 generalize pOff p=o at *
 obtain ⟨v,hv⟩:∃ v:Int,((s+32 * k:Nat):Int)=v:=⟨_,rfl⟩
 rw [hv] at r2 r3 r4 r5 HHo
 have HVV:=hid hv
 clear hv
 go_enter Tryz.func245,Tryz.ntmps245
 go_wp2_with fail
 go_region_with (go_at_call 135;refine (HOf.out _).mono ?_;rintro e wz ⟨rfl,rfl⟩)
 all_goals
  go_wp2_with (first
   | (go_at_call 135;refine (HOf.out _).mono ?_;rintro e wz ⟨rfl,rfl⟩)
   | (go_at_call 194;refine HHm.out.mono ?_;rintro e wz ⟨l1,bb,rfl,hP,rfl⟩;refine stop ?_))
  unfold Stop
  have hlb:((l1:Nat):Int)=v∧bb=true:=by
   rcases hP with ⟨h1,_,_⟩ | ⟨k',h1,_,h3,h4⟩
   ·rw [HHO.out] at h1;cases h1
   ·rw [HHO.out] at h1
    injection h1 with h1
    subst h1
    exact ⟨by rw [h3];exact HVV.out,h4⟩
  obtain ⟨hl1,rfl⟩:=hlb
  rw [hl1]
  clear hP hl1 HHm HHO
  by_cases hc2:c2≤0
  ·have e1:decide (c2≤0)=true:=decide_eq_true hc2
   clear hc2
   go_wp2_with (go_at_call 320;refine HHo.out.mono ?_;rintro e w4 ⟨rfl,l4,c4⟩;have HE:=hid (HDB.out w4 l4 c4);clear l4 c4)
   go_end0
   exact ⟨rfl,HE.out.1,HE.out.2⟩
  ·have e1:decide (c2≤0)=false:=decide_eq_false hc2
   go_wp2
   go_end0
   exact ⟨rfl,HDA.out.1,HDA.out.2⟩
end
end
section
open Go.RowKit Go.Maps
def chR:Value→Option (DataW Unit × List MemPlace)
 | .pointer (some ⟨g,0,none⟩)=>some (.lit (.int .i64 (g:Int)),[])
 | .pointer none=>some (.lit (.bool false),[])
 | _=>none
def chD:Option Nat→DataW Unit
 | some g => .lit (.int .i64 (g:Int))
 | none => .lit (.bool false)
def chV':Option Nat→Value
 | some g => .pointer (some ⟨g,0,none⟩)
 | none => .pointer none
theorem chR_mk (o:Option Nat):chR (chV' o)=some (chD o,[]):=by cases o <;> rfl
theorem chR_inv {v:Value} {o:Option Nat} {ps:List MemPlace} (h:chR v=some (chD o,ps)):v=chV' o:=by
 unfold chR at h
 split at h
 ·rename_i g
  cases o with
  | none=>simp [chD] at h
  | some g' =>
         simp [chD] at h;obtain ⟨h1,_⟩:=h;have:g=g':=by omega
         subst this;rfl
 ·cases o with
  | none=>rfl
  | some g'=>simp [chD] at h
 ·cases h
def lineK (s k:Nat):Lit := .int .i64 ((s+32 * k:Nat):Int)
theorem lineK_key (s k:Nat):WideAt.IsKeyLit (lineK s k):=by simp [WideAt.IsKeyLit,lineK]
theorem lineK_ne {s k k':Nat} (h:k'≠k):lineK s k'≠lineK s k:=by
 intro e
 unfold lineK at e
 injection e with _ e
 omega
structure ChMD (D:DataW Unit) (s K:Nat) (cb:Nat→Option Nat):Prop where
 at_:∀ k,k < K→D.atKey (lineK s k) (.lit (.bool false))=chD (cb k)
 has:∀ x:Int,Maps.has D (.int .i64 x)=true↔∃ k,k < K∧x=((s+32 * k:Nat):Int)∧(cb k).isSome=true
def ChM (w:World) (mb N s K:Nat) (cb:Nat→Option Nat):Prop:=∃ D:DataW Unit,w.ownsMap Tryz.prog 3 chR mb N D∧ChMD D s K cb
def updO (cb:Nat→Option Nat) (k:Nat) (v:Option Nat):Nat→Option Nat:=fun j=>if j=k then v else cb j
section
variable {w w':World} {mb N s K:Nat} {cb:Nat→Option Nat} {k:Nat}
theorem ChM.look (h:ChM w mb N s K cb) (hk:k < K) (hs:s+32 * k < 9000000000):(Instr.lookup 335 (.map (some mb)) (.int .i64 ((s+32 * k:Nat):Int)) false).run Tryz.prog w = .ok (chV' (cb k)) w:=by
 obtain ⟨D,ho,hd⟩:=h
 obtain ⟨v,ps,hrun,hv⟩:=ho.lookup keyedN Tryz.underlying335 (z := .pointer none) (by kernel_rfl) (show chR (.pointer none)=some (.lit (.bool false),[]) from rfl) (keyI hs)
 have he:=hd.at_ k hk
 unfold lineK at he
 rw [he] at hv
 rw [hrun,chR_inv hv]
theorem ChM.put (h:ChM w mb N s K cb) (hN:N < maxLen) (hk:k < K) (hs:s+32 * k < 9000000000) (g:Nat) :
  ∃ w',(Instr.mapUpdate 335 (.map (some mb)) (.int .i64 ((s+32 * k:Nat):Int)) (.pointer (some ⟨g,0,none⟩))).run Tryz.prog w = .ok () w'∧ChM w' mb (N+1) s K (updO cb k (some g))∧w.grownBy w' (some mb):=by
 obtain ⟨D,ho,hd⟩:=h
 obtain ⟨w',hrun,ho',hg⟩:=ho.update keyedN Tryz.underlying335 hN (keyI hs) (chR_mk (some g))
 refine ⟨w',hrun,⟨_,ho',fun j hj=>?_,fun y=>?_⟩,hg⟩
 ·unfold updO
  by_cases e:j=k
  ·subst e
   rw [if_pos rfl]
   exact atKey_put_same ho.isMap (lineK_key s j) _ _
  ·rw [if_neg e]
   exact (atKey_put_other (lineK_ne e) _ _).trans (hd.at_ j hj)
 ·by_cases e:y=((s+32 * k:Nat):Int)
  ·subst e
   have h1:=has_put_same ho.isMap (lineK_key s k) (chD (some g))
   unfold lineK at h1
   rw [h1]
   exact ⟨fun _=>⟨k,hk,rfl,by simp [updO]⟩,fun _=>rfl⟩
  ·have h1:Maps.has (D.put (lineK s k) (chD (some g))) (.int .i64 y)=Maps.has D (.int .i64 y):=has_put_other (fun e'=>by unfold lineK at e';injection e' with _ e';exact e e') _
   unfold lineK at h1
   rw [h1,hd.has y]
   constructor
   ·rintro ⟨j,hj,hy,hs⟩
    exact ⟨j,hj,hy,by unfold updO;rw [if_neg (fun e'=>e (by rw [hy,e']))];exact hs⟩
   ·rintro ⟨j,hj,hy,hs⟩
    refine ⟨j,hj,hy,?_⟩
    unfold updO at hs
    rw [if_neg (fun e'=>e (by rw [hy,e']))] at hs
    exact hs
theorem ChM.new (w:World) (s K:Nat):ChM (w.alloc (.map #[] 0)) w.heap.size 0 s K (fun _=>none):=⟨_,World.ownsMap_made w _ _ _,fun k _=>by simp [DataW.atKey,chD],fun x=>by simp [Maps.has]⟩
theorem ChM.chg {Z:Fp} (h:ChM w mb N s K cb) (hc:Chg Z w w') (hb:¬ Z mb):ChM w' mb N s K cb:=by
 obtain ⟨D,ho,hd⟩:=h
 exact ⟨D,hc.map ho hb,hd⟩
theorem ChM.lt (h:ChM w mb N s K cb):mb < w.heap.size:=by
 obtain ⟨D,ho,hd⟩:=h
 exact ho.lt
theorem ChM.mono {N':Nat} (h:ChM w mb N s K cb) (hN:N≤N'):ChM w mb N' s K cb:=by
 obtain ⟨D,ho,hd⟩:=h
 exact ⟨D,ho.mono hN,hd⟩
end
def RetAt (w:World) (mb N s K:Nat) (cb:Nat→Option Nat) (k:Nat) (e:Ending) (w':World):Prop :=
 (∃ g,cb k=some g∧e = .returned (.pointer (some ⟨g,0,none⟩))∧w=w') ∨
 (cb k=none∧e = .returned (.pointer (some ⟨w.heap.size,0,none⟩))∧ChM w' mb (N+1) s K (updO cb k (some w.heap.size))∧Blk w' w.heap.size 338 #[.slice none 0 0, .slice none 0 0, .slice none 0 0]∧Chg (fun j=>j=mb) w w')
theorem chAt_any {w:World} {mb N s K:Nat} {cb:Nat→Option Nat} (h:ChM w mb N s K cb) (k:Nat) (hk:k < K) (hs:s+32 * k < 9000000000) (hN:N < 1000000000) (vb:Nat) (hv:w.cell? ⟨vb,0,none⟩=some (.map (some mb))) :
  Calls Tryz.prog 236 #[.int .i64 ((s+32 * k:Nat):Int), .pointer (some ⟨vb,0,none⟩)] w (RetAt w mb N s K cb k):=by
 have hlk:=h.look hk hs
 have hvl:=World.block_lt_of_cell? _ _ hv
 have hml:=h.lt
 cases hc:cb k with
 | some g =>
  rw [hc] at hlk
  have hlk2:(Instr.lookup 335 (.map (some mb)) (.int .i64 ((s+32 * k:Nat):Int)) false).run Tryz.prog w = .ok (.pointer (some ⟨g,0,none⟩)) w:=hlk
  have HC:=hid hc
  clear hlk hc h
  generalize ((s+32 * k:Nat):Int)=v at *
  go_enter Tryz.func236,Tryz.ntmps236
  go_wp2
  go_ret
  exact .inl ⟨g,HC.out,rfl,rfl⟩
 | none =>
  rw [hc] at hlk
  have hlk2:(Instr.lookup 335 (.map (some mb)) (.int .i64 ((s+32 * k:Nat):Int)) false).run Tryz.prog w = .ok (.pointer none) w:=hlk
  have h1:=h.chg ((Chg.refl Fp.no w).alloc (.cells #[.slice none 0 0, .slice none 0 0, .slice none 0 0] 338)) (fun h=>h)
  obtain ⟨w2,r2,h2,g2⟩:=h1.put (by unfold maxLen;omega) hk hs w.heap.size
  have HE:=hid (show ChM w2 mb (N+1) s K (updO cb k (some w.heap.size))∧Blk w2 w.heap.size 338 #[.slice none 0 0, .slice none 0 0, .slice none 0 0]∧Chg (fun j=>j=mb) w w2 from ⟨h2,(Blk.new w _ _).grown g2 (fun e=>by injection e with e;omega),((Chg.refl (fun j=>j=mb) w).alloc _).trans (grown_chg (Z:=fun j=>j=mb) g2 rfl) (Grew.refl _ _)⟩)
  have HC:=hid hc
  clear hlk hc h h1 h2 g2
  generalize ((s+32 * k:Nat):Int)=v at *
  go_enter Tryz.func236,Tryz.ntmps236
  go_wp2
  go_ret
  exact .inr ⟨HC.out,rfl,HE.out.1,HE.out.2.1,HE.out.2.2⟩
end
section
open Go.RowKit Go.Maps
def relF (f:Nat→Option Nat) (l:List Nat):Nat→Option Nat:=l.foldl (fun g p=>updF g (pOff p) none) f
theorem relF_snoc (f:Nat→Option Nat) (l:List Nat) (p:Nat):relF f (l++[p])=updF (relF f l) (pOff p) none:=by simp [relF]
theorem relF_out:∀ (l:List Nat) (f:Nat→Option Nat) (o:Nat),o ∉ l.map pOff→relF f l o=f o
 | [],_,_,_=>rfl
 | p :: l,f,o,h=>by
  show relF (updF f (pOff p) none) l o=f o
  rw [relF_out l _ o (fun hh=>h (by simp at hh ⊢;exact .inr hh))]
  unfold updF
  rw [if_neg (fun hh=>h (by simp [hh]))]
theorem relF_in:∀ (l:List Nat) (f:Nat→Option Nat) (o:Nat),o∈l.map pOff→relF f l o=none
 | p :: l,f,o,h=>by
  show relF (updF f (pOff p) none) l o=none
  by_cases hh:o∈l.map pOff
  ·exact relF_in l _ o hh
  ·rw [relF_out l _ o hh]
   have:o=pOff p:=by
    rw [List.map_cons] at h
    rcases List.mem_cons.1 h with h | h
    ·exact h
    ·exact absurd h hh
   unfold updF
   rw [if_pos this]
section
variable {a:DA} {L T s n K:Nat} {x:HA} {cs:Nat→CS} {f:Nat→Option Nat} {N m b0:Nat} {S:Fp} {cur:Nat→Nat} {w w':World}
theorem settle_any (h:DS a L T s n K x cs f N m b0 S cur w) (A1:Option Addr) (n1 c1:Nat) (keep:List Nat) (h1:Reads w w.heap.size 1 A1 n1 (uCells keep)) (hA:∀ ad,A1=some ad→¬ x.fp ad.block) (hf:∀ p∈keep,f (pOff p)=some p) (hn:(keep.map pOff).Nodup) (hN:N+n1≤1000000000) (hn1:n1≤1000000) (v2:Value) :
  Calls Tryz.prog 125 #[.pointer (some ⟨x.h,0,none⟩), .slice A1 n1 c1,v2] w (RetRel a L T s n K x cs (relF f keep) (N+n1) (m - n1) b0 S cur w (.tuple #[])):=by
 have HR:=hid h1
 have HAd:=hid hA
 have HF:=hid hf
 have HNd:=hid hn
 have HL1:=hid (show keep.length=n1 by have:=h1.1;simp [uCells] at this;omega)
 have HI0:Hid (DS a L T s n K x cs (relF f (keep.take 0)) (N+0) (m - 0) b0 S cur w∧Chg x.fp w w):=hid ⟨h,Chg.refl _ _⟩
 clear h h1 hA hf hn
 go_enter Tryz.func125,Tryz.ntmps125
 go_wp2
 go_loopw [12] (fun i wr=>∃ (k:Nat),k≤n1∧i = .int .i64 k∧Hid (DS a L T s n K x cs (relF f (keep.take k)) (N+k) (m - k) b0 S cur wr∧Chg x.fp w wr)) (fun i _=>n1 - (Go.RowKit.intOf i).toNat)
 case atStart=>exact ⟨0,Nat.zero_le _,rfl,HI0⟩
 case round =>
  clear HI0
  obtain ⟨k,hk,rfl,H⟩:=hrel
  by_cases hlt:k < n1
  ·obtain ⟨hl,b,off,hA,hbB,f0⟩:=p_facts (H.out.2.reads HR.out (Nat.le_refl _) HAd.out) hlt
   subst hA
   have hnk:pOff keep[k] ∉ (keep.take k).map pOff:=fun hh=>by
    obtain ⟨q,hq,he⟩:=List.mem_map.1 hh
    obtain ⟨j,hj,hje⟩:=List.getElem_of_mem hq
    have hj2:j < k:=by simp at hj;omega
    have he2:pOff keep[j]=pOff keep[k]:=by rw [← he,← hje];simp
    exact (List.pairwise_iff_getElem.1 HNd.out) j k (by simp;omega) (by simpa using hl) hj2 (by simpa using he2)
   have hfk:relF f (keep.take k) (pOff keep[k])=some keep[k]:=by rw [relF_out _ _ _ hnk];exact HF.out _ (List.getElem_mem hl)
   have HHo:=hid (holds_any H.out.1.hs keep[k])
   rw [decide_eq_true hfk] at HHo
   have HRl:Hid (∀ W,Below wr.heap.size wr W→Calls Tryz.prog 245 #[.pointer (some ⟨x.h,0,none⟩), .int .u64 (keep[k]:Int)] W (RetRel a L T s n K x cs (relF f (keep.take (k+1))) (N+(k+1)) (m - (k+1)) b0 S cur W (.tuple #[]))):=hid (fun W hW=>by
    have h2:=release_any (H.out.1.below hW) keep[k] hfk (by omega)
    rw [← relF_snoc,← List.take_succ_eq_append_getElem hl,show m - k - 1=m - (k+1) by omega] at h2
    exact h2)
   clear hfk hnk
   have HC:=hid H.out.2
   generalize keep[k]=p at *
   have hz5:(0:Int)≤(k:Int):=by omega
   have hz6:(k:Int) < (n1:Int):=by omega
   go_wp2_with (go_at_call 235;refine HHo.out.mono ?_;rintro e w2 ⟨rfl,hb2⟩;refine stop ?_)
   unfold Stop
   have HR2:=hid (HRl.out w2 hb2)
   have HB2:=hid hb2
   clear hb2 HRl HHo H
   unfold RetRel at HR2
   go_wp2_with (go_at_call 245;refine HR2.out.mono ?_;rintro e w3 ⟨rfl,hd3,hc3⟩;have HN3:Hid (DS a L T s n K x cs (relF f (keep.take (k+1))) (N+(k+1)) (m - (k+1)) b0 S cur w3∧Chg x.fp w w3):=hid ⟨hd3,(HC.out.below HB2.out).trans hc3 (Grew.refl _ _)⟩;clear hd3 hc3)
   go_roundw
   case rel =>
    first
     | exact ⟨k+1,by omega,by go_num,HN3⟩
     | (
       repeat apply Exists.intro
       refine ⟨?_,rfl⟩
       exact ⟨k+1,by omega,by go_num,HN3⟩)
   case measure=>simp [Go.RowKit.intOf];omega
  ·have hkn:n1=k:=by omega
   subst hkn
   have HE:Hid (DS a L T s n K x cs (relF f keep) (N+n1) (m - n1) b0 S cur wr∧Chg x.fp w wr):=hid (by
    have h:=H.out
    rw [List.take_of_length_le (by rw [HL1.out];exact Nat.le_refl _)] at h
    exact h)
   go_wp2
   go_end0
   exact ⟨rfl,HE.out.1,HE.out.2⟩
end
end
end Go.Proofs.YtfkjjoglnmeciaaGreatDoor
