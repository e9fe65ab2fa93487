/- The walks and laws that the claim leans on, part 40. -/
import Derived.Test.YtfkjjoglnmeciaaGreatDoorJbl
import Derived.Test.YtfkjjoglnmeciaaGreatDoorJbm
import Derived.Shelf.GgSortFunc.InsertionK
set_option maxRecDepth 100000
set_option maxHeartbeats 16000000
namespace Go.Proofs.YtfkjjoglnmeciaaGreatDoor
open Go.Lib (hid)
section
open Go.RowKit Go.Maps
def At (s K:Nat) (cs:Nat→CS) (q k i:Nat):Prop:=k < K∧(cs k).dv=true∧i < perC (cs k).cl∧pOff q=offO s cs k i
structure Fr (s K:Nat) (cs:Nat→CS) (f:Nat→Option Nat) (cur:Nat→Nat) (cs':Nat→CS) (f':Nat→Option Nat) (cur':Nat→Nat):Prop where
 head:∀ i,i < 8 * s→cur' i=cur i
 chunk:∀ k,k < K→(cs k).dv=true→cs' k=cs k
 map:∀ o,f o≠none→f' o=f o
 held:∀ k i,k < K→(cs k).dv=true→i < perC (cs k).cl→¬ Vac s K cs f (cs k).cl k i→∀ j,j < payW (cs k).cl→cur' (8 * (s+32 * k)+offB (cs k).cl i+1+j)=cur (8 * (s+32 * k)+offB (cs k).cl i+1+j)
section
variable {s K:Nat} {cs cs' cs2:Nat→CS} {f f' f2:Nat→Option Nat} {cur cur' cur2:Nat→Nat}
theorem At.lines {q k i:Nat} (h:At s K cs q k i):pOff q / 8=8 * (s+32 * k)+offB (cs k).cl i+1∧pOff q % 8=0:=by
 obtain ⟨_,_,_,h4⟩:=h
 unfold offO blkO at h4
 omega
theorem pay_apart {k i k' i' j j':Nat} (hi:i < perC (cs k).cl) (hi':i' < perC (cs k').cl) (hj:j < payW (cs k).cl) (hj':j' < payW (cs k').cl) (hne:¬ (k=k'∧i=i')):8 * (s+32 * k)+offB (cs k).cl i+1+j≠8 * (s+32 * k')+offB (cs k').cl i'+1+j':=fun e=>by
 have a1:=off_lt hi
 have a2:=off_lt hi'
 have a3:=offB_ge (cs k).cl i
 have a4:=offB_ge (cs k').cl i'
 have hk:k=k':=by omega
 subst hk
 have hii:i≠i':=fun h=>hne ⟨rfl,h⟩
 unfold offB at e
 rcases Nat.lt_or_gt_of_ne hii with h | h
 ·have:(i+1) * (payW (cs k).cl+1)≤i' * (payW (cs k).cl+1):=Nat.mul_le_mul_right _ h
  rw [Nat.add_mul,Nat.one_mul] at this
  omega
 ·have:(i'+1) * (payW (cs k).cl+1)≤i * (payW (cs k).cl+1):=Nat.mul_le_mul_right _ h
  rw [Nat.add_mul,Nat.one_mul] at this
  omega
def FreshB (s K:Nat) (cs:Nat→CS) (f:Nat→Option Nat) (q:Nat):Prop:=∀ k i,At s K cs q k i→Vac s K cs f (cs k).cl k i
def InC (s K:Nat) (cs:Nat→CS) (q cl:Nat):Prop:=∃ k i,At s K cs q k i∧(cs k).cl=cl∧((cs k).bs i).gen=pGen q
structure Rq (s K:Nat) (cs:Nat→CS) (f:Nat→Option Nat) (kind q cl:Nat):Prop where
 keep:KeepOk s K cs f q
 cls:InC s K cs q cl
 kind_:pKind q=kind
 top:q / 72057594037927936=0
end
section
variable {a:DA} {L T s n K:Nat} {x:HA} {cs:Nat→CS} {f:Nat→Option Nat} {N m b0:Nat} {S:Fp} {cur:Nat→Nat} {w:World}
theorem Fr.alloc {cl k i v:Nat} {cs':Nat→CS} {cur':Nat→Nat} (hd:DS a L T s n K x cs f N m b0 S cur w) (hcl:cl < 5) (ho:ResOk s K cs f cur cl cs' cur' k i):Fr s K cs f cur cs' (updF f (offO s cs' k i) (some v)) cur':=by
 obtain ⟨v1,v2,v3,v4,v5,v6⟩:=ho.vac
 have hmap:∀ o,f o≠none→updF f (offO s cs' k i) (some v) o=f o:=fun o h=>by
  unfold updF
  rw [if_neg (fun e=>h (by rw [e];exact v6))]
 have hz:∀ (c:Nat→Nat) (n:Nat),(∀ j,j < payW cl→n≠8 * (s+32 * k)+offB cl i+1+j)→wrS c (zerW (offO s cs' k i) (payW cl)) n=c n:=fun c n hn=>wrS_other _ _ _ (fun e he=>by
  obtain ⟨q,hq,rfl⟩:=zerW_mem he
  have:offO s cs' k i=blkO (s+32 * k) cl i:=by unfold offO;rw [v3]
  show (offO s cs' k i+8 * q) / 8≠n
  rw [this]
  have:=hn q hq
  unfold blkO
  omega)
 rcases ho.how with ⟨rfl,hc⟩ | ⟨k0,hk0,hd0,hno,rfl,hc⟩
 ·refine ⟨fun j hj=>?_,fun _ _ _=>rfl,hmap,fun k2 i2 hk hdv hi hn j hj=>?_⟩
  ·rw [hc];exact hz _ _ (fun q hq=>by omega)
  ·rw [hc]
   refine hz _ _ (fun q hq=>?_)
   rw [← v3] at hq ⊢
   refine pay_apart hi (by rw [v3];exact v4) hj hq (fun ⟨e1,e2⟩=>?_)
   subst e1 e2
   exact hn ⟨v1,v2,rfl,by rw [v3];exact v4,v5,v6⟩
 ·have hok:=hd.ok k0 hk0
  unfold CSok at hok
  rw [hd0] at hok
  have e1:∀ j,j≠k0→updC cs k0 (newC cl (cs k0).g) j=cs j:=fun j hj=>by unfold updC;rw [if_neg hj]
  have hne:∀ j,(cs j).dv=true→j≠k0:=fun j hj e=>by rw [e,hd0] at hj;cases hj
  refine ⟨fun j hj=>?_,fun k2 hk hdv=>e1 k2 (hne k2 hdv),hmap,fun k2 i2 hk hdv hi hn j hj=>?_⟩
  ·rw [hc,hz _ _ (fun q hq=>by omega)]
   exact fmtR_out hcl hok.2.2 (.inl (by omega))
  ·have hk2:=hne k2 hdv
   have a1:=off_lt hi
   have a2:=offB_ge (cs k2).cl i2
   rw [hc,hz _ _ (fun q hq=>?_)]
   ·exact fmtR_out hcl hok.2.2 (by omega)
   ·have e2:=e1 k2 hk2
    have hq':q < payW (updC cs k0 (newC cl (cs k0).g) k).cl:=by rw [v3];exact hq
    have h4:=pay_apart (s:=s) (cs:=updC cs k0 (newC cl (cs k0).g)) (k:=k2) (i:=i2) (k':=k) (i':=i) (j:=j) (j':=q) (by rw [e2];exact hi) (by rw [v3];exact v4) (by rw [e2];exact hj) hq' (fun ⟨q1,q2⟩=>by
     subst q1 q2
     exact hn ⟨hk,hdv,rfl,hi,by rw [← e2];exact v5,by unfold offO;rw [← e2];exact v6⟩)
    rw [e2,v3] at h4
    exact h4
theorem Rq.new {cl k i kind T' N' m':Nat} {cs':Nat→CS} {cur':Nat→Nat} {f':Nat→Option Nat} {S':Fp} {w':World} (hd:DS a L T' s n K x cs' f' N' m' b0 S' cur' w') (hk:0 < kind∧kind < 128) (ho:ResOk s K cs f cur cl cs' cur' k i) (hf:f'=updF f (offO s cs' k i) (some (fptr s cs' kind k i))) :
  Rq s K cs' f' kind (fptr s cs' kind k i) cl∧At s K cs' (fptr s cs' kind k i) k i:=by
 obtain ⟨v1,v2,v3,v4,v5,v6⟩:=ho.vac
 have hC:=hd.chw v1 v2
 have hL:=hd.hL
 have hln:=hd.line v1
 have hi:i < perC (cs' k).cl:=by rw [v3];exact v4
 have hol:=off_lt hi
 have hin:=(hC.inn i hi).g
 have hgood:=hC.good i hi
 have hg0:0 < ((cs' k).bs i).gen:=by unfold BK.good at hgood;rw [if_pos v5] at hgood;simp at hgood;omega
 have hO:offO s cs' k i < 34359738368∧offO s cs' k i % 8=0:=by unfold offO blkO;omega
 have hp:pOff (fptr s cs' kind k i)=offO s cs' k i:=pMk_off hO.2 hO.1
 have hat:At s K cs' (fptr s cs' kind k i) k i:=⟨v1,v2,hi,hp⟩
 have hkk:pKind (fptr s cs' kind k i)=kind:=pMk_kind hO.1 hin (by omega)
 refine ⟨⟨⟨⟨k,i,v1,v2,hi,hp,v5⟩,?_,by rw [hkk];exact hk,pMk_ne hg0,(pMk_lt hO.1 hin hk.2).1⟩,⟨k,i,hat,v3,(pMk_gen hO.1 hin).symm⟩,hkk,(pMk_lt hO.1 hin hk.2).2⟩,hat⟩
 rw [hf,hp]
 unfold updF
 rw [if_pos rfl]
end
def alW (n:Nat) (al:List Nat):Nat→List Nat
 | 0=>al
 | j+1=>clsOf (bSize (n - 456 * j)) :: alW n al j
structure W1 (s K:Nat) (cs0:Nat→CS) (f0:Nat→Option Nat) (cur0:Nat→Nat) (al:List Nat) (n:Nat) (cs:Nat→CS) (f:Nat→Option Nat) (cur:Nat→Nat) (bl:List Nat):Prop where
 fr:Fr s K cs0 f0 cur0 cs f cur
 cap:Cap s K cs f (alW n al bl.length)
 rq:∀ j (h:j < bl.length),Rq s K cs f 1 bl[j] (clsOf (bSize (n - 456 * j)))
 nd:(bl.map pOff).Nodup
 fresh:∀ q∈bl,FreshB s K cs0 f0 q
 fo:∀ o,o ∉ bl.map pOff→f o=f0 o
section
variable {a:DA} {L T s n K:Nat} {x:HA} {cs cs0:Nat→CS} {f f0:Nat→Option Nat} {N m b0:Nat} {S:Fp} {cur cur0:Nat→Nat} {w:World}
end
structure W2 (s K:Nat) (cs0:Nat→CS) (f0:Nat→Option Nat) (cur0:Nat→Nat) (al:List Nat) (p:List Nat) (cs:Nat→CS) (f:Nat→Option Nat) (cur:Nat→Nat) (bl:List Nat) (i:Nat):Prop where
 w1:W1 s K cs0 f0 cur0 al p.length cs f cur bl
 words:∀ j (h:j < bl.length),j < i→WordsAt cur bl[j] (payL (bl.getD (j+1) 0) (p.drop (456 * j)))
end
section
open Go.RowKit Go.Maps Go.Shelf Go.Sort
def nmEnc (x:List Nat × Nat):List Value:=[.string (strN x.1), .int .u64 (x.2:Int)]
theorem flat_nm (l:List (List Nat × Nat)):flatK nmEnc 2 l.toArray=(itCells l).toArray:=by
 apply Array.ext
 ·rw [size_flatK,List.size_toArray,List.size_toArray,itCells_len]
 ·intro t h1 h2
  rw [size_flatK,List.size_toArray] at h1
  have h3:=get_flatK nmEnc 2 l.toArray t (by rw [List.size_toArray];exact h1)
  have hq:t / 2 < l.length:=by omega
  have h4:=itCells_at l (t / 2) (t % 2) hq (Nat.mod_lt _ (by decide))
  rw [show t / 2 * 2+t % 2=t by omega] at h4
  have e1:l.toArray[t / 2]! = l[t / 2]:=by
   rw [getElem!_pos l.toArray (t / 2) (by rw [List.size_toArray];exact hq)]
   rfl
  rw [e1] at h3
  rw [← getElem!_pos (flatK nmEnc 2 l.toArray) t (by rw [size_flatK,List.size_toArray];exact h1),h3]
  have h5:((itCells l).toArray)[t]=(itCells l)[t]'(by rw [itCells_len];omega):=rfl
  rw [h5]
  apply Option.some.inj
  rw [← List.getElem?_eq_getElem,h4]
  have hm:t % 2 < 2:=Nat.mod_lt _ (by decide)
  show some (nmEnc l[t / 2])[t % 2]! = (nmEnc l[t / 2])[t % 2]?
  rw [List.getElem?_eq_getElem (show t % 2 < (nmEnc l[t / 2]).length from hm),getElem!_pos (nmEnc l[t / 2]) (t % 2) hm]
  rfl
theorem own_holds {w:World} {base g m c:Nat} {l:List (List Nat × Nat)} (h:w.ownsRow base 254 2 (.slice (some ⟨g,0,none⟩) m c) m (itCells l)):HoldsK nmEnc 2 w g 0 l.toArray:=by
 unfold HoldsK
 rw [flat_nm]
 intro j hj
 rw [List.size_toArray] at hj
 rw [Nat.zero_add]
 refine ⟨?_,h.frozenAt j⟩
 obtain ⟨b,off,hA,_,hc⟩:=(Reads.of_own h).plain (by have:=h.1;rw [this] at hj;omega) (by decide)
 cases hA
 have h1:=hc j _ (List.getElem?_eq_getElem hj)
 rw [Nat.zero_add] at h1
 rw [h1,getElem!_pos (itCells l).toArray j (by rw [List.size_toArray];exact hj)]
 rfl
theorem take_putCells (F cur:Array Value) (h:F.size≤cur.size):((putCells id 0 F cur).toList).take F.size=F.toList:=by
 apply List.ext_getElem?
 intro i
 by_cases hi:i < F.size
 ·rw [List.getElem?_take_of_lt hi,Array.getElem?_toList,Array.getElem?_toList]
  unfold putCells
  rw [Array.getElem?_mapIdx,Array.getElem?_eq_getElem (show i < cur.size by omega),Array.getElem?_eq_getElem hi]
  simp [hi]
 ·rw [List.getElem?_eq_none (by rw [List.length_take];omega),List.getElem?_eq_none (by rw [Array.length_toList];omega)]
theorem sorted_own {w:World} {base g m c n:Nat} {os:Array Obj} {l l':List (List Nat × Nat)} (h:w.ownsRow base 254 2 (.slice (some ⟨g,0,none⟩) m c) m (itCells l)) (hl:l'.length=l.length) (hb:base≤g) :
  (sortWorldK nmEnc 2 w g 0 n l'.toArray os).ownsRow base 254 2 (.slice (some ⟨g,0,none⟩) m c) m (itCells l')∧Below base w (sortWorldK nmEnc 2 w g 0 n l'.toArray os):=by
 have hlen:(itCells l').length=m * 2:=by rw [itCells_len,hl,← itCells_len];exact h.1
 rcases h.2 with ⟨h',_⟩ | ⟨g',cap',cur,h',hbg,hg,hnc,hcm,hcs,htake⟩
 ·simp at h'
 ·simp only [Value.slice.injEq,Option.some.injEq,Addr.mk.injEq,and_true,true_and] at h'
  obtain ⟨rfl,rfl⟩:=h'
  have hgl:g < w.heap.size:=by
   rcases Nat.lt_or_ge g w.heap.size with h | h
   ·exact h
   ·rw [Array.getElem?_eq_none h] at hg
    cases hg
  have hF:(flatK nmEnc 2 l'.toArray)=(itCells l').toArray:=flat_nm l'
  have hheap:(sortWorldK nmEnc 2 w g 0 n l'.toArray os).heap=w.heap.modify g (onCells (putCells id 0 (itCells l').toArray))++os:=by
   unfold sortWorldK putRowK putRow
   rw [hF]
   rfl
  refine ⟨⟨hlen, .inr ⟨g,c,putCells id 0 (itCells l').toArray cur,rfl,hb,?_,hnc,hcm,?_,?_⟩⟩,?_⟩
  ·rw [hheap,Array.getElem?_append_left (by rw [Array.size_modify];exact hgl),Array.getElem?_modify,if_pos rfl,hg]
   rfl
  ·unfold putCells
   rw [Array.size_mapIdx]
   exact hcs
  ·have h1:=take_putCells (itCells l').toArray cur (by rw [List.size_toArray,hlen];have:=Nat.mul_le_mul_right 2 hnc;omega)
   rw [List.size_toArray,hlen] at h1
   rw [h1]
  ·refine ⟨rfl,rfl,rfl,?_,fun k hk=>?_⟩
   ·rw [hheap,Array.size_append,Array.size_modify]
    omega
   ·rw [hheap,Array.getElem?_append_left (by rw [Array.size_modify];omega),Array.getElem?_modify,if_neg (by omega)]
structure SortNm (l l':List (List Nat × Nat)):Prop where
 len:l'.length=l.length
 perm:l'.Perm l
 up:∀ i j (hi:i < l'.length) (hj:j < l'.length),i < j→¬ nmCf l'[j] l'[i] < 0
def SrtNm:Prop:=∀ {w:World} {base m c:Nat} {A:Option Addr} {l:List (List Nat × Nat)},w.ownsRow base 254 2 (.slice A m c) m (itCells l)→m≤100 →
  Calls Tryz.prog 264 #[.slice A m c, .func (.func 265) #[] #[]] w fun e w'=>e = .returned (.tuple #[])∧∃ l',SortNm l l'∧w'.ownsRow base 254 2 (.slice A m c) m (itCells l')∧Below base w w'
end
section
open Go.RowKit Go.Maps
theorem cloneW_any (A:Option Addr) (n c:Nat) (l:List (Nat × Nat)) (w:World) (h:Reads w w.heap.size 2 A n (wrCells l)) (hA:A=none→n=0∧c=0) (hn:n≤1000) :
  Calls Tryz.prog 138 #[.slice A n c] w (fun e w'=>∃ A' m' c',e = .returned (.slice A' m' c')∧m'=n∧w'.ownsRow w.heap.size 114 2 (.slice A' m' c') m' (wrCells l)∧Below w.heap.size w w'):=by
 cases A with
 | none =>
  obtain ⟨rfl,rfl⟩:=hA rfl
  have hl:wrCells l=[]:=by have:=h.1;exact List.eq_nil_of_length_eq_zero (by omega)
  rw [hl]
  clear h
  have hnil:∀ W,(binOp .eql 108 (.slice none 0 0) (.slice none 0 0)).run Tryz.prog W = .ok (.bool true) W:=fun W=>by kernel_rfl
  go_enter Tryz.func138,Tryz.ntmps138
  go_wp2
  go_ret
  exact ⟨none,0,0,rfl,rfl,World.ownsRow_nil _ _ _ _,Below.refl _ _⟩
 | some ad =>
  have H:=hid h
  clear h hA
  have hnil:∀ W,(binOp .eql 108 (.slice (some ad) n c) (.slice none 0 0)).run Tryz.prog W = .ok (.bool false) W:=fun W=>Lib.run_eql_slice_some_nil W _ _ _ Tryz.underlying108
  obtain ⟨i0,hi0,hz0,hz1,hz2⟩:=info_parts infoWrite
  have HO:Hid ((w.alloc (.cells #[] 114)).ownsRow w.heap.size 114 2 (.slice (some ⟨w.heap.size,0,none⟩) 0 0) 0 []):=World.ownsRow_made w #[] 0 (Nat.le_refl _) (by unfold maxLen;omega) (by simp)
  go_enter Tryz.func138,Tryz.ntmps138
  go_wp2_with (at_builtin;refine wpList_app _ (.tmp 5) (.tmp 6) 108 rfl rfl w.heap.size 114 i0 _ 2 16 Tryz.underlying108 hi0 hz0 hz1 hz2 rfl ?q1 (.slice (some ⟨w.heap.size,0,none⟩) 0 0) 0 [] rfl HO.out w.heap.size (some ad) n c (wrCells l) rfl ?q5 ?q6 ?q2 ?q3 ?q4 ?_;(case q1=>omega);(case q5=>exact H.out.alloc (Nat.le_refl _) _);(case q6=>exact wrCells_one l);(case q2=>(unfold maxLen;omega));(case q3=>omega);(case q4=>(simp));intro A3 n3 c3 w8 hn3 ho3 hg3 hb3;have HN3:=hid hn3;have HO3:=hid ho3;have HB3:=hid (((Below.refl _ w).alloc (Nat.le_refl _) _).trans hb3);clear hn3 ho3 hg3 hb3)
  go_ret
  refine ⟨_,_,_,rfl,HN3.out.trans (Nat.zero_add _),?_,HB3.out⟩
  have:=HO3.out
  rw [List.nil_append] at this
  exact this
theorem sum_filter (g:Nat→Nat) (ks:List Nat) (hn:ks.Nodup):∀ l:List Nat,(ks.map fun k=>(l.filter fun p=>g p == k).length).sum≤l.length
 | []=>by
  have:∀ ks:List Nat,(ks.map fun k=>(([]:List Nat).filter fun p=>g p == k).length).sum=0:=fun ks=>by
   induction ks with
   | nil=>rfl
   | cons a t ih =>
    simp at ih ⊢
    exact ih
  rw [this];exact Nat.zero_le _
 | p :: l=>by
  have h1:=sum_filter g ks hn l
  have h2:∀ ks:List Nat,(ks.map fun k=>((p :: l).filter fun p=>g p == k).length).sum=(ks.map fun k=>(l.filter fun p=>g p == k).length).sum+ks.count (g p):=fun ks=>by
   induction ks with
   | nil=>rfl
   | cons a t ih =>
    rw [List.map_cons,List.map_cons,List.sum_cons,List.sum_cons,ih,List.filter_cons,List.count_cons]
    by_cases e:g p=a
    ·subst e;simp;omega
    ·have e1:(g p == a)=false:=by rw [beq_eq_false_iff_ne];exact e
     have e2:(a == g p)=false:=by rw [beq_eq_false_iff_ne];exact fun h=>e h.symm
     rw [e1,e2];simp;omega
  rw [h2,List.length_cons]
  have h3:ks.count (g p)≤1:=List.nodup_iff_count.1 hn (g p)
  omega
theorem acts_len {s:Nat} {cs:Nat→CS} {keep free:List Nat} {V:Nat→Nat} {ks:List Nat} (hn:ks.Nodup) (hne:∀ k∈ks,tlOf s cs keep k≠[]∨dlOf s cs free k≠[]):(ks.flatMap (acW s cs (tlOf s cs keep) (dlOf s cs free) V)).length≤2 * (keep.length+free.length):=by
 have h1:=sum_filter (kOf s) ks hn keep
 have h2:=sum_filter (kOf s) ks hn free
 have h3:∀ ks:List Nat,(∀ k∈ks,tlOf s cs keep k≠[]∨dlOf s cs free k≠[])→(ks.flatMap (acW s cs (tlOf s cs keep) (dlOf s cs free) V)).length≤2 * ((ks.map fun k=>(keep.filter fun p=>kOf s p == k).length).sum+(ks.map fun k=>(free.filter fun p=>kOf s p == k).length).sum):=fun ks=>by
  induction ks with
  | nil=>intro _;simp
  | cons k t ih =>
   intro h
   have h4:=ih (fun j hj=>h j (by simp [hj]))
   rw [List.flatMap_cons,List.length_append,List.map_cons,List.map_cons,List.sum_cons,List.sum_cons]
   unfold acW at h4 ⊢
   rw [chgW_len]
   have e1:(tlOf s cs keep k).length=(keep.filter fun p=>kOf s p == k).length:=by unfold tlOf;rw [List.length_map]
   have e2:(dlOf s cs free k).length=(free.filter fun p=>kOf s p == k).length:=by unfold dlOf;rw [List.length_map]
   have h5:1≤(tlOf s cs keep k).length+(dlOf s cs free k).length:=by
    rcases h k (by simp) with h | h
    ·have:=List.length_pos_iff.2 h;omega
    ·have:=List.length_pos_iff.2 h;omega
   omega
 have:=h3 ks hne
 omega
def RetPub (a:DA) (L T s n K:Nat) (x:HA) (cs:Nat→CS) (f:Nat→Option Nat) (N m b0:Nat) (S:Fp) (cur:Nat→Nat) (w:World) (d r:Nat) (us:List (Nat × Nat)) (keep free:List Nat) (n1:Nat) (e:Ending) (w':World):Prop :=
 ∃ ks V cm S',e = .returned (.int .i64 0)∧AOk s K cs ks (tlOf s cs keep) (dlOf s cs free) V∧(∀ k,k∈ks↔k < K∧(tlOf s cs keep k≠[]∨dlOf s cs free k≠[]))∧cm < 18446744073709551616∧(us++ks.flatMap (acW s cs (tlOf s cs keep) (dlOf s cs free) V)).length≤96 ∧
  SD a L (T+800) s n K x (acC cs ks (tlOf s cs keep) (dlOf s cs free) V) (relF f keep) (N+n1) (m - n1) b0 S' (rdG 0 cur (us++ks.flatMap (acW s cs (tlOf s cs keep) (dlOf s cs free) V)) cm) w' d r∧Chg (sfp S x) w w'∧Grew S S' w
section
variable {a:DA} {L T s n K:Nat} {x:HA} {cs:Nat→CS} {f:Nat→Option Nat} {N m b0:Nat} {S:Fp} {cur:Nat→Nat} {w w':World} {d r:Nat}
theorem publishD (h:SD a L T s n K x cs f N m b0 S cur w d r) (hK12:K≤12) (A0 A1 A2:Option Addr) (n0 c0 n1 c1 n2 c2:Nat) (us:List (Nat × Nat)) (keep free:List Nat) (h0:Reads w w.heap.size 2 A0 n0 (wrCells us)) (h00:A0=none→n0=0∧c0=0) (h1:Reads w w.heap.size 1 A1 n1 (uCells keep)) (h2:Reads w w.heap.size 1 A2 n2 (uCells free))
  (hA1:∀ ad,A1=some ad→¬ sfp S x ad.block) (hk:∀ p∈keep,KeepOk s K cs f p) (hfr:∀ p∈free,FreeOk s K cs p) (hn:((keep++free).map pOff).Nodup) (hu:UOk L 0 s K cs us) (hlen:us.length+2 * (keep.length+free.length)≤96) (hT:T+800≤1000000000) (hN:N+n1≤1000000000) :
  Calls Tryz.prog 54 #[.pointer (some ⟨d,0,none⟩), .slice A0 n0 c0, .slice A1 n1 c1, .slice A2 n2 c2] w (RetPub a L T s n K x cs f N m b0 S cur w d r us keep free n1):=by
 have hl0:us.length=n0:=by have:=h0.1;rw [wrCells_len] at this;omega
 have hl1:keep.length=n1:=by have:=h1.1;simp [uCells] at this;omega
 have hl2:free.length=n2:=by have:=h2.1;simp [uCells] at this;omega
 have HPl:=hid (planR_any h.ds.dev r 0 26 h.log (by have h1:=h.ds.hK;have:=h.ln;omega) (by omega) A0 n0 c0 us h0 (diff_of_nodup hu.nd) hu.off hu.val (by omega) h.idle h.ds.tab)
 have HAc:Hid (∀ W,Below w.heap.size w W→Calls Tryz.prog 122 #[.pointer (some ⟨x.h,0,none⟩), .slice A1 n1 c1, .slice A2 n2 c2] W (RetActs W s K cs keep free)):=hid (fun W hW=>hActions_any (h.ds.below hW) hK12 A1 A2 n1 c1 n2 c2 keep free ((h1.below hW).more hW.size) ((h2.below hW).more hW.size) hk hfr hn (by omega) (by omega))
 have HEr:Hid (∀ W,Below w.heap.size w W→Calls Tryz.prog 112 #[.pointer (some ⟨a.th 0,0,none⟩)] W fun e w'=>e = .returned (.int .i64 0)∧W=w'):=hid (fun W hW=>thErr (h.ds.dev.below hW))
 have HS:=hid h
 have HR0:=hid h0
 have HR00:=hid h00
 have HR1:=hid h1
 have HAd:=hid hA1
 have HKp:=hid hk
 have HFp:=hid hfr
 have HNd:=hid hn
 have HU:=hid hu
 have HLn:=hid (And.intro hl0 (And.intro hl1 hl2))
 have hx7:w.cell? ⟨x.h,7,none⟩=some (.bool false):=h.ds.hs.heap.cell 7
 have c2':w.cell? ⟨d,2,none⟩=some (.pointer (some ⟨r,0,none⟩)):=h.dir.cell 2
 clear h h0 h00 h1 h2 hA1 hk hfr hn hu hl0 hl1 hl2
 go_enter Tryz.func54,Tryz.ntmps54
 go_wp2_with (go_at_call 136;refine HPl.out.mono ?_;rintro e W1 ⟨A3,m3,c3,p3,rfl,_,_,hb1⟩;refine stop ?_)
 unfold Stop
 have HB1:=hid hb1
 have HS1:=hid (HS.out.below hb1)
 have e7:W1.cell? ⟨x.h,7,none⟩=some (.bool false):=HS1.out.ds.hs.heap.cell 7
 have e0:W1.cell? ⟨d,0,none⟩=some (.pointer (some ⟨x.h,0,none⟩)):=HS1.out.dir.cell 0
 have e1:W1.cell? ⟨d,1,none⟩=some (.pointer (some ⟨a.th 0,0,none⟩)):=HS1.out.dir.cell 1
 clear hb1 HPl hx7 c2'
 go_wp2_with (first
  | (go_at_call 112;refine (HEr.out _ HB1.out).mono ?_;rintro e w1 ⟨rfl,rfl⟩)
  | (go_at_call 122;refine (HAc.out _ HB1.out).mono ?_;rintro e W2 ⟨A4,m4,c4,ks,V,rfl,hnk,hks,hbi,hro,hb2⟩;refine stop ?_))
 unfold Stop
 have HB2:=hid (HB1.out.trans (hb2.mono HB1.out.size))
 have HS2:=hid (HS.out.below HB2.out)
 have HRo:=hid (Reads.of_own hro)
 have HAO:Hid (AOk s K cs ks (tlOf s cs keep) (dlOf s cs free) V):=hid (by
  have ha:∀ k∈ks,_:=fun k hk=>acts_hyp HKp.out HFp.out HNd.out ((hks k).1 hk).2
  exact ⟨hnk,fun k hk=>⟨((hks k).1 hk).1,(ha k hk).1⟩,fun k hk=>(ha k hk).2.1,fun k hk=>(ha k hk).2.2.1,fun k hk=>(ha k hk).2.2.2,hbi⟩)
 have HKs:=hid hks
 have HL9:Hid ((us++ks.flatMap (acW s cs (tlOf s cs keep) (dlOf s cs free) V)).length≤96):=hid (by
  rw [List.length_append]
  have:=acts_len (V:=V) hnk (fun k hk=>((hks k).1 hk).2)
  omega)
 have hm4:m4≤96:=by
  have h1:=hro.1
  rw [wrCells_len] at h1
  have h2:=HL9.out
  rw [List.length_append] at h2
  have h3:(ks.flatMap fun k=>chgW (s+32 * k) (cs k).cl (cs k).bs (tlOf s cs keep k) (dlOf s cs free k) (V k)).length=(ks.flatMap (acW s cs (tlOf s cs keep) (dlOf s cs free) V)).length:=rfl
  omega
 have HRo':Hid (Reads W2 W2.heap.size 2 A4 m4 (wrCells (ks.flatMap (acW s cs (tlOf s cs keep) (dlOf s cs free) V)))):=HRo
 have HCl:=hid (cloneW_any A0 n0 c0 us W2.drew ((HR0.out.below HB2.out).more HB2.out.size) HR00.out (by have:=HLn.out.1;omega))
 have e0:W2.cell? ⟨d,0,none⟩=some (.pointer (some ⟨x.h,0,none⟩)):=HS2.out.dir.cell 0
 clear hb2 hnk hks hbi hro HAc HRo e0 e1 e7
 go_upto_region 14 with fail
 refine wp_region_scriptH (fun w'=>Below W2.heap.size W2 w') 8 [] [(1,0),(1,1),(1,2),(1,3),(1,4),(1,6),(0,5),(0,7)] (by kernel_rfl) (by kernel_rfl) (Below.refl _ _).drew ?_
 refine wpScriptH_take (.pointer (some ⟨d,0,none⟩)) (by rfl) (by rfl) (fun w' hS=>?_) ?_
 ·go_simp
 simp only [zA,zB,Act.put,zD,zE,zF]
 refine wpScriptH_take (.pointer (some ⟨d,0,none⟩)) (by rfl) (by rfl) (fun w' hS=>?_) ?_
 ·go_simp
 simp only [zA,zB,zC,Act.put,zD,zE,zF]
 refine wpScriptH_take (.pointer (some ⟨d,2,none⟩)) (by rfl) (by rfl) (fun w' hS=>?_) ?_
 ·go_simp
 simp only [zA,zB,zC,Act.put,zD,zE,zF]
 refine wpScriptH_take (.pointer (some ⟨r,0,none⟩)) (by rfl) (by rfl) (fun w' hS=>?_) ?_
 ·have f1:w'.cell? ⟨d,2,none⟩=some (.pointer (some ⟨r,0,none⟩)):=(HS2.out.dir.below hS HS2.out.dir.lt).cell 2
  go_simp
 simp only [zA,zB,zC,Act.put,zD,zE,zF]
 refine wpScriptH_take (.slice A0 n0 c0) (by rfl) (by rfl) (fun w' hS=>?_) ?_
 ·go_simp
 simp only [zA,zB,zC,Act.put,zD,zE,zF]
 refine wpScriptH_take (.slice A4 m4 c4) (by rfl) (by rfl) (fun w' hS=>?_) ?_
 ·go_simp
 simp only [zA,zB,zC,Act.put,zD,zE,zF]
 refine wpScriptH_do (by rfl) ?_
 go_wp2_with (go_at_call 138;refine HCl.out.mono ?_;rintro e W3 ⟨A5,m5,c5,rfl,hm5,ho5,hb5⟩;have HM5:=hid hm5;have HO5:=hid ho5;clear hm5 ho5)
 have HB5:Hid (Below W2.heap.size W2 W3):=hid ((Below.refl _ W2).drew.trans hb5)
 clear hb5 HCl
 refine ⟨HB5.out,?_⟩
 refine wpScriptH_do (by rfl) ?_
 obtain ⟨i0,hi0,hz0,hz1,hz2⟩:=info_parts infoWrite
 have HR5:=hid ((HRo'.out.below HB5.out).more HB5.out.size)
 have hn0:n0≤96:=by have:=HLn.out.1;omega
 have hm5:m5≤96:=by have:=HM5.out;omega
 have HON:=hid (wrCells_one (ks.flatMap (acW s cs (tlOf s cs keep) (dlOf s cs free) V)))
 refine wpList_app2 _ (.tmp 62) (.tmp 63) 108 rfl rfl W2.heap.size 114 i0 _ 2 16 Tryz.underlying108 hi0 hz0 hz1 hz2 rfl (by omega) (.slice A5 m5 c5) m5 (wrCells us) rfl HO5.out W3.heap.size A4 m4 c4 (wrCells (ks.flatMap (acW s cs (tlOf s cs keep) (dlOf s cs free) V))) rfl HR5.out HON.out (by unfold maxLen;omega) (by omega) HB5.out.size ?_
 intro A6 n6 c6 W4 hn6 ho6 hg6 hb6
 have HB6:Hid (Below W2.heap.size W2 W4):=hid (HB5.out.grown hg6 HB5.out.size (fun i hi=>(HO5.out.lt i hi).1))
 have HS4:=hid (HS.out.below (HB2.out.trans (HB6.out.mono HB2.out.size)))
 have HCm:=hid (commitG_any HS4.out.ds.dev r HS4.out.log A6 n6 c6 (us++ks.flatMap (acW s cs (tlOf s cs keep) (dlOf s cs free) V)) (by
  have h1:=Reads.of_own ho6
  have e:wrCells us++wrCells (ks.flatMap (acW s cs (tlOf s cs keep) (dlOf s cs free) V))=wrCells (us++ks.flatMap (acW s cs (tlOf s cs keep) (dlOf s cs free) V)):=by unfold wrCells;rw [List.flatMap_append]
  rw [e] at h1
  exact h1) (diff_of_nodup (pub_nodup HU.out HAO.out)) (pub_off HS.out.ds HS.out.ln HU.out HAO.out) (pub_val HS.out.ds HU.out HAO.out) (by
   have h1:=ho6.1
   rw [List.length_append,wrCells_len,wrCells_len] at h1
   have h2:=HL9.out
   rw [List.length_append] at h2
   omega) HS4.out.idle HS4.out.ds.tab (by have h1:=HS.out.ds.hK;have:=HS.out.ln;omega) hT)
 clear hn6 ho6 hg6 hb6
 refine ⟨HB6.out,?_⟩
 show wpList _ _ _ _ _ _
 simp only [List.drop_succ_cons,List.drop_zero]
 go_wp2_with (go_at_call 137;refine HCm.out.mono ?_;rintro e W5 ⟨cm,hcm,rfl,S',hdv,hch,hgr⟩)
 refine NoPanic.normal ?_
 have HSz:=hid (Nat.le_trans HB2.out.size HB6.out.size)
 have HCh:Hid (Chg S w W5):=hid (((Chg.of_below (S:=S) HB2.out).below (HB6.out)).trans hch (Grew.refl _ _))
 have HGr:Hid (Grew S S' w):=hid (fun k hk=>by
  rcases hgr k hk with h | h
  ·exact .inl h
  ·exact .inr (by have:=HSz.out;omega))
 have HDS:=hid (HS.out.ds.pub HS.out.ln HU.out HAO.out HL9.out hcm hdv HCh.out HGr.out)
 have HCmt:=hid hcm
 have HSd:Hid (SD a L (T+800) s n K x (acC cs ks (tlOf s cs keep) (dlOf s cs free) V) f N m b0 S' (rdG 0 cur (us++ks.flatMap (acW s cs (tlOf s cs keep) (dlOf s cs free) V)) cm) W5 d r):=hid (HS.out.keep HDS.out (HCh.out.mono (fun _ h => .inl h)) HGr.out (rdG_idle HS.out.idle))
 have HSe:=hid (settle_any HDS.out A1 n1 c1 keep (HCh.out.reads HR1.out (Nat.le_refl _) (fun ad h1 h2=>HAd.out ad h1 (.inl h2)) |>.more HCh.out.size) (fun ad h1 h2=>HAd.out ad h1 (.inr h2)) (fun p hp=>(HKp.out p hp).res) (by
  have:=HNd.out
  rw [List.map_append] at this
  exact (List.nodup_append.1 this).1) (by omega) (by have:=HLn.out.2.1;omega) (.slice A2 n2 c2))
 have g0:W5.cell? ⟨d,0,none⟩=some (.pointer (some ⟨x.h,0,none⟩)):=HSd.out.dir.cell 0
 clear hcm hdv hch hgr HCm
 go_wp2_with (go_at_call 125;refine HSe.out.mono ?_;rintro e W6 ⟨rfl,hd6,hc6⟩;have HD6:=hid hd6;have HC6:=hid hc6;clear hd6 hc6)
 go_ret
 exact ⟨ks,V,cm,S',rfl,HAO.out,HKs.out,HCmt.out,HL9.out,HSd.out.keep HD6.out (HC6.out.mono (fun _ h => .inr h)) (Grew.refl _ _) HSd.out.idle,(HCh.out.mono (fun _ h => .inl h)).trans HC6.out (fun _ h => .inl (.inr h)),HGr.out⟩
end
end
section
open Go.RowKit Go.Maps
section
variable {s K:Nat} {cs:Nat→CS} {f:Nat→Option Nat}
theorem At.lo {q k i:Nat} (h:At s K cs q k i):pOff q=64 * (s+32 * k)+8 * offB (cs k).cl i+8:=by
 have:=h.2.2.2
 unfold offO blkO at this
 omega
theorem At.fnd {q k i:Nat} (h:At s K cs q k i):fndC (s+32 * k) (cs k).cl (pOff q)=some i:=by
 have h1:=h.lo
 have h2:=off_lt h.2.2.1
 have h3:=pay_le (cs k).cl
 have e:(pOff q - 64 * (s+32 * k)) / 8=9+i * (payW (cs k).cl+1):=by unfold offB at h1;omega
 unfold fndC
 rw [if_neg (by omega),e]
 unfold findC
 have e2:9+i * (payW (cs k).cl+1) - 9=i * (payW (cs k).cl+1):=by omega
 have hi:=h.2.2.1
 rw [if_neg (by unfold offB at h2;omega),e2,Nat.mul_mod_left,Nat.mul_div_cancel _ (by omega),if_neg (by omega)]
theorem At.home {q k i:Nat} (h:At s K cs q k i):homeOf s K (pOff q)=some k:=by
 rw [h.2.2.2]
 exact homeOf_blk h.1 h.2.2.1
structure LiveA (s K:Nat) (cs:Nat→CS) (q kind k i:Nat):Prop where
 at_:At s K cs q k i
 bk:(cs k).bs i=⟨pGen q,kind,177⟩
 kind_:pKind q=kind
 nz:q≠0
 lt:q < 18446744073709551616
 top:q / 72057594037927936=0
def Live (s K:Nat) (cs:Nat→CS) (q kind:Nat):Prop:=∃ k i,LiveA s K cs q kind k i
theorem Live.chk {q kind:Nat} (h:Live s K cs q kind):chkR s K cs q kind=0∧chkR s K cs q 0=0:=by
 obtain ⟨k,i,h⟩:=h
 have hb:blkR (s+32 * k) (cs k).cl (cs k).bs q=(i,0):=by
  unfold blkR
  rw [if_neg h.nz,h.at_.fnd]
  show (if q / 72057594037927936≠0 then _ else _)=_
  rw [h.bk,h.top,h.kind_,if_neg (by omega),if_neg (by simp),if_neg (by simp)]
 have hc:∀ kd,chkR s K cs q kd=if kd≠0∧kd≠pKind q then 13 else 0:=fun kd=>by
  unfold chkR
  rw [if_neg h.nz,h.top,if_neg (by omega),h.at_.home]
  show (if (cs k).dv=true then _ else _)=_
  rw [if_pos h.at_.2.1,hb,if_neg (by simp)]
 rw [hc,hc,h.kind_]
 simp
end
section
variable {s K:Nat} {cs:Nat→CS} {f:Nat→Option Nat} {keep free ks:List Nat} {V:Nat→Nat}
theorem At.pub {q k i:Nat} {tl:Nat→List (Nat × Nat)} {dl:Nat→List Nat} (h:At s K cs q k i):At s K (acC cs ks tl dl V) q k i:=by
 obtain ⟨e1,e2,_⟩:=acC_dv cs ks tl dl V k
 refine ⟨h.1,by rw [e1];exact h.2.1,by rw [e2];exact h.2.2.1,?_⟩
 rw [h.2.2.2]
 unfold offO
 rw [e2]
theorem tl_mem {q k i:Nat} (h:At s K cs q k i) (hq:q∈keep):(i,pKind q)∈tlOf s cs keep k:=by
 obtain ⟨e1,e2⟩:=kOf_blk h.2.2.1 h.2.2.2
 unfold tlOf
 exact List.mem_map.2 ⟨q,List.mem_filter.2 ⟨hq,by rw [beq_iff_eq];exact e1⟩,by rw [e2]⟩
theorem pub_keep {q kind c:Nat} (h:AOk s K cs ks (tlOf s cs keep) (dlOf s cs free) V) (hks:∀ k,k∈ks↔k < K∧(tlOf s cs keep k≠[]∨dlOf s cs free k≠[])) (hr:Rq s K cs f kind q c) (hq:q∈keep) (_h128:kind < 128):∃ k i,LiveA s K (acC cs ks (tlOf s cs keep) (dlOf s cs free) V) q kind k i∧(cs k).cl=c∧At s K cs q k i:=by
 obtain ⟨k,i,ha,hc,hg⟩:=hr.cls
 have hm:=tl_mem ha hq
 have hk:k∈ks:=(hks k).2 ⟨ha.1, .inl (fun e=>by rw [e] at hm;exact absurd hm (by simp))⟩
 refine ⟨k,i,⟨ha.pub,?_,hr.kind_,hr.keep.nz.1,hr.keep.nz.2,hr.top⟩,hc,ha⟩
 ·unfold acC
  rw [if_pos hk]
  show actB (cs k).bs _ _ i=_
  have:=actB_tk (bs:=(cs k).bs) (h.once k hk) hm
  rw [this,hr.kind_]
  unfold takenB
  rw [hg]
end
end
section
open Go.RowKit Go.Maps
section
variable {a:DA} {L T K:Nat} {x:HA} {y:WA} {cs:Nat→CS} {f:Nat→Option Nat} {N m b0:Nat} {S:Fp} {cur:Nat→Nat} {w w':World}
theorem BW.keep {T' N' m':Nat} {cs':Nat→CS} {f':Nat→Option Nat} {S':Fp} {cur':Nat→Nat} (h:BW a L T K x y cs f N m b0 S cur w) (hsd:SD a L T' 53 (32 * K) K x cs' f' N' m' b0 S' cur' w' y.d y.r) (hc:Chg (sfp S x) w w') (hg:Grew S S' w) (hu:cur' (8 * 26)=0):BW a L T' K x y cs' f' N' m' b0 S' cur' w':=by
 have hn:∀ {g:Nat} {t:TypeId} {vs:Array Value},Blk w g t vs→¬ S g→t≠408→¬ sfp S x g:=fun hB hS ht e=>e.elim hS (h.sd.ds.fp_ne hB ht)
 exact ⟨hsd,hc.blk h.blk (hn h.blk h.off.1 (by decide)),hc.blk h.und (hn h.und h.off.2.1 (by decide)),hc.blk h.mgr (hn h.mgr h.off.2.2 (by decide)),hu,⟨hg.off ⟨h.blk.lt,h.off.1⟩,hg.off ⟨h.und.lt,h.off.2.1⟩,hg.off ⟨h.mgr.lt,h.off.2.2⟩⟩,h.new,h.size,h.few,h.rest⟩
theorem BW.below (h:BW a L T K x y cs f N m b0 S cur w) (hb:Below w.heap.size w w'):BW a L T K x y cs f N m b0 S cur w' :=
 h.keep (h.sd.below hb) (Chg.of_below hb) (Grew.refl _ _) h.uid
theorem BW.more {T' N':Nat} (h:BW a L T K x y cs f N m b0 S cur w) (hT:T≤T') (hT':T'≤1000000000) (hN:N≤N'):BW a L T' K x y cs f N' m b0 S cur w :=
 { h with sd:={ h.sd.more hT hT' with ds:={ (h.sd.more hT hT').ds with hs:=h.sd.ds.hs.mono hN } } }
end
end
end Go.Proofs.YtfkjjoglnmeciaaGreatDoor
