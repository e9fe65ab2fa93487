/- The walks and laws that the claim leans on, part 42. -/
import Derived.Test.YtfkjjoglnmeciaaGreatDoorJbo
set_option maxRecDepth 100000
set_option maxHeartbeats 16000000
namespace Go.Proofs.YtfkjjoglnmeciaaGreatDoor
open Go.Lib (hid)
section
open Go.RowKit Go.Maps
def At (s K:Nat) (cs:Nat→CS) (q k i:Nat):Prop:=k < K∧(cs k).dv=true∧i < perC (cs k).cl∧pOff q=offO s cs k i
structure Fr (s K:Nat) (cs:Nat→CS) (f:Nat→Option Nat) (cur:Nat→Nat) (cs':Nat→CS) (f':Nat→Option Nat) (cur':Nat→Nat):Prop where
 head:∀ i,i < 8 * s→cur' i=cur i
 chunk:∀ k,k < K→(cs k).dv=true→cs' k=cs k
 map:∀ o,f o≠none→f' o=f o
 held:∀ k i,k < K→(cs k).dv=true→i < perC (cs k).cl→¬ Vac s K cs f (cs k).cl k i→∀ j,j < payW (cs k).cl→cur' (8 * (s+32 * k)+offB (cs k).cl i+1+j)=cur (8 * (s+32 * k)+offB (cs k).cl i+1+j)
 neu:∀ k i,k < K→(cs k).dv=false→(cs' k).dv=true→((cs' k).bs i).st≠177
section
variable {s K:Nat} {cs cs' cs2:Nat→CS} {f f' f2:Nat→Option Nat} {cur cur' cur2:Nat→Nat}
theorem Fr.refl:Fr s K cs f cur cs f cur:=⟨fun _ _=>rfl,fun _ _ _=>rfl,fun _ _=>rfl,fun _ _ _ _ _ _ _ _=>rfl,fun _ _ _ h1 h2=>absurd (h1.symm.trans h2) (by simp)⟩
theorem Fr.off (h:Fr s K cs f cur cs' f' cur') {k:Nat} (hk:k < K) (hd:(cs k).dv=true) (i:Nat):offO s cs' k i=offO s cs k i:=by unfold offO;rw [h.chunk k hk hd]
theorem Fr.non (h:Fr s K cs f cur cs' f' cur') {k i:Nat} (hk:k < K) (hd:(cs k).dv=true) (hi:i < perC (cs k).cl) (hn:¬ Vac s K cs f (cs k).cl k i):¬ Vac s K cs' f' (cs k).cl k i:=fun hv=>by
 obtain ⟨_,_,_,_,h5,h6⟩:=hv
 rw [h.chunk k hk hd] at h5
 rw [h.off hk hd] at h6
 refine hn ⟨hk,hd,rfl,hi,h5,?_⟩
 cases hf:f (offO s cs k i) with
 | none=>rfl
 | some p =>
  have:=h.map _ (show f (offO s cs k i)≠none by rw [hf];simp)
  rw [h6,hf] at this
  cases this
theorem Fr.trans (h:Fr s K cs f cur cs' f' cur') (h2:Fr s K cs' f' cur' cs2 f2 cur2):Fr s K cs f cur cs2 f2 cur2:=by
 refine ⟨fun i hi=>(h2.head i hi).trans (h.head i hi),fun k hk hd=>?_,fun o ho=>?_,fun k i hk hd hi hn j hj=>?_,fun k i hk h3 h4=>?_⟩
 ·have e:=h.chunk k hk hd
  exact (h2.chunk k hk (by rw [e];exact hd)).trans e
 ·have e:=h.map o ho
  exact (h2.map o (by rw [e];exact ho)).trans e
 ·have e:=h.chunk k hk hd
  have h3:=h2.held k i hk (by rw [e];exact hd) (by rw [e];exact hi) (by rw [e];exact h.non hk hd hi hn) j (by rw [e];exact hj)
  rw [e] at h3
  exact h3.trans (h.held k i hk hd hi hn j hj)
 ·cases h5:(cs' k).dv
  ·exact h2.neu k i hk h5 h4
  ·rw [h2.chunk k hk h5]
   exact h.neu k i hk h3 h5
theorem At.lines {q k i:Nat} (h:At s K cs q k i):pOff q / 8=8 * (s+32 * k)+offB (cs k).cl i+1∧pOff q % 8=0:=by
 obtain ⟨_,_,_,h4⟩:=h
 unfold offO blkO at h4
 omega
theorem pay_apart {k i k' i' j j':Nat} (hi:i < perC (cs k).cl) (hi':i' < perC (cs k').cl) (hj:j < payW (cs k).cl) (hj':j' < payW (cs k').cl) (hne:¬ (k=k'∧i=i')):8 * (s+32 * k)+offB (cs k).cl i+1+j≠8 * (s+32 * k')+offB (cs k').cl i'+1+j':=fun e=>by
 have a1:=off_lt hi
 have a2:=off_lt hi'
 have a3:=offB_ge (cs k).cl i
 have a4:=offB_ge (cs k').cl i'
 have hk:k=k':=by omega
 subst hk
 have hii:i≠i':=fun h=>hne ⟨rfl,h⟩
 unfold offB at e
 rcases Nat.lt_or_gt_of_ne hii with h | h
 ·have:(i+1) * (payW (cs k).cl+1)≤i' * (payW (cs k).cl+1):=Nat.mul_le_mul_right _ h
  rw [Nat.add_mul,Nat.one_mul] at this
  omega
 ·have:(i'+1) * (payW (cs k).cl+1)≤i * (payW (cs k).cl+1):=Nat.mul_le_mul_right _ h
  rw [Nat.add_mul,Nat.one_mul] at this
  omega
def FreshB (s K:Nat) (cs:Nat→CS) (f:Nat→Option Nat) (q:Nat):Prop:=∀ k i,At s K cs q k i→Vac s K cs f (cs k).cl k i
theorem pwW_words {q:Nat} {l:List Nat}:WordsAt (wrS cur (pwW (pOff q) l)) q l:=fun j hj=>by
 have h8:pOff q % 8=0:=by unfold pOff;omega
 have h1:=wrS_get (pwW (pOff q) l) cur (by
  unfold pwW
  rw [List.map_map,List.nodup_iff_pairwise_ne,List.pairwise_map]
  exact (List.nodup_iff_pairwise_ne.1 List.nodup_range).imp (fun hne e=>hne (by
   have:pOff q+8 * _=pOff q+8 * _:=e
   omega))) (fun e he=>by
  obtain ⟨j,_,rfl⟩:=pwW_mem he
  show (pOff q+8 * j) % 8=0
  omega) (pOff q+8 * j,l.getD j 0) (by unfold pwW;exact List.mem_map.2 ⟨j,List.mem_range.2 hj,rfl⟩)
 have e:(pOff q+8 * j) / 8=pOff q / 8+j:=by omega
 rw [← e]
 exact h1
theorem pwW_other {q k i n:Nat} {l:List Nat} (h:At s K cs q k i) (hl:l.length≤payW (cs k).cl) (hn:∀ j,j < payW (cs k).cl→n≠8 * (s+32 * k)+offB (cs k).cl i+1+j):wrS cur (pwW (pOff q) l) n=cur n:=by
 obtain ⟨h1,h2⟩:=h.lines
 refine wrS_other _ _ _ (fun e he=>?_)
 obtain ⟨j,hj,rfl⟩:=pwW_mem he
 show (pOff q+8 * j) / 8≠n
 have:=hn j (by omega)
 omega
def InC (s K:Nat) (cs:Nat→CS) (q cl:Nat):Prop:=∃ k i,At s K cs q k i∧(cs k).cl=cl∧((cs k).bs i).gen=pGen q
theorem At.uniq {q k i k' i':Nat} (h:At s K cs q k i) (h':At s K cs q k' i'):k=k'∧i=i':=offO_inj h.2.2.1 h'.2.2.1 (h.2.2.2.symm.trans h'.2.2.2)
structure Rq (s K:Nat) (cs:Nat→CS) (f:Nat→Option Nat) (kind q cl:Nat):Prop where
 keep:KeepOk s K cs f q
 cls:InC s K cs q cl
 kind_:pKind q=kind
 top:q / 72057594037927936=0
end
section
variable {a:DA} {L T s n K:Nat} {x:HA} {cs:Nat→CS} {f:Nat→Option Nat} {N m b0:Nat} {S:Fp} {cur:Nat→Nat} {w:World}
theorem Fr.alloc {cl k i v:Nat} {cs':Nat→CS} {cur':Nat→Nat} (hd:DS a L T s n K x cs f N m b0 S cur w) (hcl:cl < 5) (ho:ResOk s K cs f cur cl cs' cur' k i):Fr s K cs f cur cs' (updF f (offO s cs' k i) (some v)) cur':=by
 obtain ⟨v1,v2,v3,v4,v5,v6⟩:=ho.vac
 have hmap:∀ o,f o≠none→updF f (offO s cs' k i) (some v) o=f o:=fun o h=>by
  unfold updF
  rw [if_neg (fun e=>h (by rw [e];exact v6))]
 have hz:∀ (c:Nat→Nat) (n:Nat),(∀ j,j < payW cl→n≠8 * (s+32 * k)+offB cl i+1+j)→wrS c (zerW (offO s cs' k i) (payW cl)) n=c n:=fun c n hn=>wrS_other _ _ _ (fun e he=>by
  obtain ⟨q,hq,rfl⟩:=zerW_mem he
  have:offO s cs' k i=blkO (s+32 * k) cl i:=by unfold offO;rw [v3]
  show (offO s cs' k i+8 * q) / 8≠n
  rw [this]
  have:=hn q hq
  unfold blkO
  omega)
 rcases ho.how with ⟨rfl,hc⟩ | ⟨k0,hk0,hd0,hno,rfl,hc⟩
 ·refine ⟨fun j hj=>?_,fun _ _ _=>rfl,hmap,fun k2 i2 hk hdv hi hn j hj=>?_,fun _ _ _ h1 h2=>absurd (h1.symm.trans h2) (by simp)⟩
  ·rw [hc];exact hz _ _ (fun q hq=>by omega)
  ·rw [hc]
   refine hz _ _ (fun q hq=>?_)
   rw [← v3] at hq ⊢
   refine pay_apart hi (by rw [v3];exact v4) hj hq (fun ⟨e1,e2⟩=>?_)
   subst e1 e2
   exact hn ⟨v1,v2,rfl,by rw [v3];exact v4,v5,v6⟩
 ·have hok:=hd.ok k0 hk0
  unfold CSok at hok
  rw [hd0] at hok
  have e1:∀ j,j≠k0→updC cs k0 (newC cl (cs k0).g) j=cs j:=fun j hj=>by unfold updC;rw [if_neg hj]
  have hne:∀ j,(cs j).dv=true→j≠k0:=fun j hj e=>by rw [e,hd0] at hj;cases hj
  refine ⟨fun j hj=>?_,fun k2 hk hdv=>e1 k2 (hne k2 hdv),hmap,fun k2 i2 hk hdv hi hn j hj=>?_,fun k2 i2 hk h1 h2=>?_⟩
  ·rw [hc,hz _ _ (fun q hq=>by omega)]
   exact fmtR_out hcl hok.2.2 (.inl (by omega))
  ·have hk2:=hne k2 hdv
   have a1:=off_lt hi
   have a2:=offB_ge (cs k2).cl i2
   rw [hc,hz _ _ (fun q hq=>?_)]
   ·exact fmtR_out hcl hok.2.2 (by omega)
   ·have e2:=e1 k2 hk2
    have hq':q < payW (updC cs k0 (newC cl (cs k0).g) k).cl:=by rw [v3];exact hq
    have h4:=pay_apart (s:=s) (cs:=updC cs k0 (newC cl (cs k0).g)) (k:=k2) (i:=i2) (k':=k) (i':=i) (j:=j) (j':=q) (by rw [e2];exact hi) (by rw [v3];exact v4) (by rw [e2];exact hj) hq' (fun ⟨q1,q2⟩=>by
     subst q1 q2
     exact hn ⟨hk,hdv,rfl,hi,by rw [← e2];exact v5,by unfold offO;rw [← e2];exact v6⟩)
    rw [e2,v3] at h4
    exact h4
  ·by_cases e:k2=k0
   ·subst e
    unfold updC
    rw [if_pos rfl]
    show (176:Nat)≠177
    omega
   ·rw [e1 k2 e,h1] at h2
    cases h2
theorem Rq.step {cl k i v kind q c:Nat} {cs':Nat→CS} {cur':Nat→Nat} (h:Rq s K cs f kind q c) (hd:DS a L T s n K x cs f N m b0 S cur w) (hcl:cl < 5) (ho:ResOk s K cs f cur cl cs' cur' k i):Rq s K cs' (updF f (offO s cs' k i) (some v)) kind q c∧pOff q≠offO s cs' k i:=by
 have hF:=Fr.alloc (v:=v) hd hcl ho
 obtain ⟨k1,i1,⟨h1,h2,h3,h4⟩,h5,h6⟩:=h.cls
 obtain ⟨k2,i2,g1,g2,g3,g4,g5⟩:=h.keep.loc
 have e1:=hF.chunk k1 h1 h2
 have e2:=hF.chunk k2 g1 g2
 have hr:=h.keep.res
 refine ⟨⟨⟨⟨k2,i2,g1,by rw [e2];exact g2,by rw [e2];exact g3,by rw [hF.off g1 g2];exact g4,by rw [e2];exact g5⟩,?_,h.keep.kind,h.keep.nz⟩,⟨k1,i1,⟨h1,by rw [e1];exact h2,by rw [e1];exact h3,by rw [hF.off h1 h2];exact h4⟩,by rw [e1];exact h5,by rw [e1];exact h6⟩,h.kind_,h.top⟩,fun e=>?_⟩
 ·exact (hF.map _ (by rw [hr];simp)).trans hr
 ·rw [e,ho.vac.2.2.2.2.2] at hr
  cases hr
theorem Rq.new {cl k i kind T' N' m':Nat} {cs':Nat→CS} {cur':Nat→Nat} {f':Nat→Option Nat} {S':Fp} {w':World} (hd:DS a L T' s n K x cs' f' N' m' b0 S' cur' w') (hk:0 < kind∧kind < 128) (ho:ResOk s K cs f cur cl cs' cur' k i) (hf:f'=updF f (offO s cs' k i) (some (fptr s cs' kind k i))) :
  Rq s K cs' f' kind (fptr s cs' kind k i) cl∧At s K cs' (fptr s cs' kind k i) k i:=by
 obtain ⟨v1,v2,v3,v4,v5,v6⟩:=ho.vac
 have hC:=hd.chw v1 v2
 have hL:=hd.hL
 have hln:=hd.line v1
 have hi:i < perC (cs' k).cl:=by rw [v3];exact v4
 have hol:=off_lt hi
 have hin:=(hC.inn i hi).g
 have hgood:=hC.good i hi
 have hg0:0 < ((cs' k).bs i).gen:=by unfold BK.good at hgood;rw [if_pos v5] at hgood;simp at hgood;omega
 have hO:offO s cs' k i < 34359738368∧offO s cs' k i % 8=0:=by unfold offO blkO;omega
 have hp:pOff (fptr s cs' kind k i)=offO s cs' k i:=pMk_off hO.2 hO.1
 have hat:At s K cs' (fptr s cs' kind k i) k i:=⟨v1,v2,hi,hp⟩
 have hkk:pKind (fptr s cs' kind k i)=kind:=pMk_kind hO.1 hin (by omega)
 refine ⟨⟨⟨⟨k,i,v1,v2,hi,hp,v5⟩,?_,by rw [hkk];exact hk,pMk_ne hg0,(pMk_lt hO.1 hin hk.2).1⟩,⟨k,i,hat,v3,(pMk_gen hO.1 hin).symm⟩,hkk,(pMk_lt hO.1 hin hk.2).2⟩,hat⟩
 rw [hf,hp]
 unfold updF
 rw [if_pos rfl]
end
def alW (n:Nat) (al:List Nat):Nat→List Nat
 | 0=>al
 | j+1=>clsOf (bSize (n - 456 * j)) :: alW n al j
theorem alW_count (n:Nat) (al:List Nat) (c:Nat):∀ (j d:Nat),(alW n al j).count c≤(alW n al (j+d)).count c
 | _,0=>Nat.le_refl _
 | j,d+1=>Nat.le_trans (alW_count n al c j d) List.count_le_count_cons
theorem alW_room (n:Nat) (al:List Nat) {j k:Nat} (h:j≤k):room (alW n al j)≤room (alW n al k):=room_mono (fun c=>by
 have:=alW_count n al c j (k - j)
 rw [show j+(k - j)=k by omega] at this
 exact this)
theorem bSize_cls (n:Nat):payW (clsOf (bSize n))=bSize n:=by
 have h:∀ c,payW (clsOf (payW c))=payW c:=fun c=>match c with
  | 0=>rfl
  | 1=>rfl
  | 2=>rfl
  | 3=>rfl
  | _+4=>rfl
 unfold bSize
 split
 ·rfl
 ·exact h _
structure W1 (s K:Nat) (cs0:Nat→CS) (f0:Nat→Option Nat) (cur0:Nat→Nat) (al:List Nat) (n:Nat) (cs:Nat→CS) (f:Nat→Option Nat) (cur:Nat→Nat) (bl:List Nat):Prop where
 fr:Fr s K cs0 f0 cur0 cs f cur
 cap:Cap s K cs f (alW n al bl.length)
 rq:∀ j (h:j < bl.length),Rq s K cs f 1 bl[j] (clsOf (bSize (n - 456 * j)))
 nd:(bl.map pOff).Nodup
 fresh:∀ q∈bl,FreshB s K cs0 f0 q
 fo:∀ o,o ∉ bl.map pOff→f o=f0 o
theorem W1.start {s K:Nat} {cs0:Nat→CS} {f0:Nat→Option Nat} {cur0:Nat→Nat} {al:List Nat} (n:Nat) (h:Cap s K cs0 f0 al):W1 s K cs0 f0 cur0 al n cs0 f0 cur0 [] :=
 ⟨Fr.refl,h,fun j h=>absurd h (by simp),List.nodup_nil,fun q hq=>absurd hq (by simp),fun _ _=>rfl⟩
theorem fresh_of {s K:Nat} {cs0 cs cs':Nat→CS} {f0 f:Nat→Option Nat} {cur0 cur _cur':Nat→Nat} {q k i cl:Nat} (hF:Fr s K cs0 f0 cur0 cs f cur) (hF2:∀ k,k < K→(cs k).dv=true→cs' k=cs k) (hv:Vac s K cs' f cl k i) (ha:At s K cs' q k i):FreshB s K cs0 f0 q:=fun k2 i2 h2=>by
 obtain ⟨a1,a2,a3,a4⟩:=h2
 have e1:=hF.chunk k2 a1 a2
 have e2:cs' k2=cs0 k2:=(hF2 k2 a1 (by rw [e1];exact a2)).trans e1
 have h3:At s K cs' q k2 i2:=⟨a1,by rw [e2];exact a2,by rw [e2];exact a3,by unfold offO;rw [e2];exact a4⟩
 obtain ⟨rfl,rfl⟩:=ha.uniq h3
 obtain ⟨v1,v2,v3,v4,v5,v6⟩:=hv
 refine Classical.byContradiction (fun hn=>?_)
 have:=hF.non a1 a2 a3 hn
 refine this ⟨v1,by rw [e1];exact a2,by rw [e1],a3,by rw [e1,← e2];exact v5,?_⟩
 have:offO s cs k i=offO s cs' k i:=by unfold offO;rw [e1,e2]
 rw [this]
 exact v6
section
variable {a:DA} {L T s n K:Nat} {x:HA} {cs cs0:Nat→CS} {f f0:Nat→Option Nat} {N m b0:Nat} {S:Fp} {cur cur0:Nat→Nat} {w:World}
theorem W1.step {al bl:List Nat} {nn k i T' N' m':Nat} {cs':Nat→CS} {cur':Nat→Nat} {S':Fp} {w':World} (h:W1 s K cs0 f0 cur0 al nn cs f cur bl) (hd:DS a L T s n K x cs f N m b0 S cur w) (ho:ResOk s K cs f cur (clsOf (bSize (nn - 456 * bl.length))) cs' cur' k i) (hd':DS a L T' s n K x cs' (updF f (offO s cs' k i) (some (fptr s cs' 1 k i))) N' m' b0 S' cur' w') :
  W1 s K cs0 f0 cur0 al nn cs' (updF f (offO s cs' k i) (some (fptr s cs' 1 k i))) cur' (bl++[fptr s cs' 1 k i]):=by
 have hcl:=clsOf_lt (bSize (nn - 456 * bl.length))
 have hF:=Fr.alloc (v:=fptr s cs' 1 k i) hd hcl ho
 obtain ⟨hq,hat⟩:=Rq.new hd' (kind:=1) (by omega) ho rfl
 refine ⟨h.fr.trans hF,?_,fun j hj=>?_,?_,fun q hq'=>?_,fun o ho'=>?_⟩
 ·rw [List.length_append]
  exact h.cap.alloc hd hcl ho
 ·rw [List.length_append] at hj
  by_cases e:j < bl.length
  ·rw [List.getElem_append_left e]
   exact ((h.rq j e).step hd hcl ho).1
  ·have:j=bl.length:=by simp at hj;omega
   subst this
   rw [List.getElem_append_right (Nat.le_refl _)]
   simpa using hq
 ·rw [List.map_append,List.nodup_append]
  refine ⟨h.nd,by simp,fun u hu v hv=>?_⟩
  obtain ⟨q,hq1,rfl⟩:=List.mem_map.1 hu
  have hv':v=pOff (fptr s cs' 1 k i):=by
   rw [List.map_cons,List.map_nil,List.mem_singleton] at hv
   exact hv
  obtain ⟨j,hj,e⟩:=List.getElem_of_mem hq1
  rw [hv',hat.2.2.2,← e]
  exact ((h.rq j hj).step (v:=0) hd hcl ho).2
 ·rcases List.mem_append.1 hq' with h1 | h1
  ·exact h.fresh q h1
  ·simp at h1
   subst h1
   exact fresh_of (_cur':=cur') h.fr hF.chunk ho.vac hat
 ·rw [List.map_append,List.mem_append] at ho'
  unfold updF
  rw [if_neg (fun e=>ho' (.inr (by simp [e,hat.2.2.2])))]
  exact h.fo o (fun h1=>ho' (.inl h1))
end
structure W2 (s K:Nat) (cs0:Nat→CS) (f0:Nat→Option Nat) (cur0:Nat→Nat) (al:List Nat) (p:List Nat) (cs:Nat→CS) (f:Nat→Option Nat) (cur:Nat→Nat) (bl:List Nat) (i:Nat):Prop where
 w1:W1 s K cs0 f0 cur0 al p.length cs f cur bl
 words:∀ j (h:j < bl.length),j < i→WordsAt cur bl[j] (payL (bl.getD (j+1) 0) (p.drop (456 * j)))
theorem W2.step {s K:Nat} {cs0 cs:Nat→CS} {f0 f:Nat→Option Nat} {cur0 cur:Nat→Nat} {al p bl:List Nat} {i:Nat} (h:W2 s K cs0 f0 cur0 al p cs f cur bl i) (hi:i < bl.length):W2 s K cs0 f0 cur0 al p cs f (wrS cur (pwW (pOff bl[i]) (payL (bl.getD (i+1) 0) (p.drop (456 * i))))) bl (i+1):=by
 have hpl:∀ j,(payL (bl.getD (j+1) 0) (p.drop (456 * j))).length=bSize (p.length - 456 * j):=fun j=>by rw [payL_len,List.length_drop]
 have hat:∀ j (hj:j < bl.length),∃ k i2,At s K cs bl[j] k i2∧payW (cs k).cl=bSize (p.length - 456 * j):=fun j hj=>by
  obtain ⟨k,i2,h1,h2,_⟩:=(h.w1.rq j hj).cls
  exact ⟨k,i2,h1,by rw [h2,bSize_cls]⟩
 obtain ⟨k,i2,h1,h2⟩:=hat i hi
 have hne:∀ j (hj:j < bl.length),j≠i→pOff bl[j]≠pOff bl[i]:=fun j hj hji e=>by
  have hn:=List.nodup_iff_pairwise_ne.1 h.w1.nd
  rw [List.pairwise_map] at hn
  have hp:=List.pairwise_iff_getElem.1 hn
  rcases Nat.lt_or_gt_of_ne hji with h3 | h3
  ·exact hp j i hj hi h3 e
  ·exact hp i j hi hj h3 e.symm
 refine ⟨⟨⟨fun y hy=>?_,h.w1.fr.chunk,h.w1.fr.map,fun k3 i3 hk hdv hi3 hn j hj=>?_,h.w1.fr.neu⟩,h.w1.cap,h.w1.rq,h.w1.nd,h.w1.fresh,h.w1.fo⟩,fun j hj hji=>?_⟩
 ·rw [pwW_other h1 (by rw [hpl,h2];omega) (fun j hj=>by omega)]
  exact h.w1.fr.head y hy
 ·rw [pwW_other h1 (by rw [hpl,h2];omega) (fun j2 hj2=>?_)]
  ·exact h.w1.fr.held k3 i3 hk hdv hi3 hn j hj
  ·have e3:=h.w1.fr.chunk k3 hk hdv
   have h4:=pay_apart (s:=s) (cs:=cs) (k:=k3) (i:=i3) (k':=k) (i':=i2) (j:=j) (j':=j2) (by rw [e3];exact hi3) h1.2.2.1 (by rw [e3];exact hj) hj2 (fun ⟨q1,q2⟩=>by
    subst q1 q2
    refine hn (h.w1.fresh bl[i] (List.getElem_mem hi) k3 i3 ⟨hk,hdv,hi3,?_⟩)
    rw [h1.2.2.2,h.w1.fr.off hk hdv])
   rw [e3] at h4
   exact h4
 ·by_cases e:j=i
  ·subst e
   exact pwW_words
  ·intro y hy
   have hw:=h.words j hj (by omega) y hy
   obtain ⟨k3,i3,h3,h4⟩:=hat j hj
   rw [hpl] at hy
   have hl:=h3.lines.1
   refine (pwW_other h1 (by rw [hpl,h2];omega) (fun j2 hj2=>?_)).trans hw
   rw [hl]
   exact pay_apart h3.2.2.1 h1.2.2.1 (by omega) hj2 (fun ⟨q1,q2⟩=>by
    subst q1 q2
    exact hne j hj e (h3.2.2.2.trans h1.2.2.2.symm))
end
section
open Go.RowKit Go.Maps
theorem arC_at (cur:Nat→Nat) (s:Nat):∀ K,(∀ k,k < K→arC cur s K (8 * (s+32 * k))=freeW 1)∧(∀ i,i < 8 * s→arC cur s K i=cur i)
 | 0=>⟨fun k hk=>absurd hk (Nat.not_lt_zero k),fun _ _=>rfl⟩
 | K+1=>by
  obtain ⟨h1,h2⟩:=arC_at cur s K
  have e:∀ i,arC cur s (K+1) i=if i=8 * (s+32 * K) then freeW 1 else arC cur s K i:=fun i=>by
   show wrS (arC cur s K) [(64 * (s+32 * K),freeW 1)] i=_
   rw [wrS_oneG,show 64 * (s+32 * K) / 8=8 * (s+32 * K) by omega]
  refine ⟨fun k hk=>?_,fun i hi=>?_⟩
  ·rw [e]
   by_cases h:k=K
   ·subst h;rw [if_pos rfl]
   ·rw [if_neg (by omega)];exact h1 k (by omega)
  ·rw [e,if_neg (by omega)]
   exact h2 i hi
theorem arC_bnd (cur:Nat→Nat) (s:Nat) (hc:∀ i,cur i < 18446744073709551616):∀ K i,arC cur s K i < 18446744073709551616
 | 0,i=>hc i
 | K+1,i=>by
  show wrS (arC cur s K) [(64 * (s+32 * K),freeW 1)] i < _
  rw [wrS_oneG]
  have h1:=freeW_lt 1 (by omega)
  have h2:=arC_bnd cur s hc K i
  split <;> omega
def curB (K:Nat):Nat→Nat:=arC (wrS (fun _=>0) [(64 * 0,0)]) 53 K
theorem curB_ok (K:Nat):Empt K (curB K):=by
 obtain ⟨h1,h2⟩:=arC_at (wrS (fun _=>0) [(64 * 0,0)]) 53 K
 have h0:∀ i,wrS (fun _=>0) [(64 * 0,0)] i=0:=fun i=>by rw [wrS_oneG];split <;> rfl
 refine ⟨?_,?_,h1,arC_bnd _ 53 (fun i=>by rw [h0];omega) K⟩
 ·exact (h2 _ (by omega)).trans (h0 _)
 ·exact (h2 _ (by omega)).trans (h0 _)
def RetBeg (K:Nat) (w:World) (e:Ending) (w':World):Prop:=∃ a T x y S,e = .returned (.pointer (some ⟨y.g,0,none⟩))∧BW a (53+32 * K) T K x y (fun _=>csN) (fun _=>none) 0 0 w.heap.size S (curB K) w'∧T≤100∧Below w.heap.size w w'
theorem wrapK (K:Nat) (_h:K≤12):((53+32 * K:Nat):Int)=53+32 * (K:Int)∧((32 * K:Nat):Int)=32 * (K:Int):=by omega
theorem beginB_any (K:Nat) (hK:1≤K) (hK12:K≤12) (w:World) (ht:Tab w) (hpy:Pay w):Calls Tryz.prog 20 #[.int .i64 (K:Int)] w (RetBeg K w):=by
 have HT:=hid ht
 have HPy:=hid hpy
 have HN:=hid (new_any (fun _=>False) (53+32 * K) (by omega) (by omega) w)
 have HK:=hid (And.intro hK hK12)
 have HLow:=hid (show 1 < w.heap.size∧0 < w.heap.size from ⟨ht.size,hpy.size⟩)
 rw [(wrapK K hK12).1] at HN
 clear ht hpy
 go_enter Tryz.func20,Tryz.ntmps20
 go_wp2_with fail
 refine HN.out.mono ?_
 rintro e w1 ⟨a,S1,rfl,hdD,hd1,hS1,hb1⟩
 have HDi:=hid hdD
 clear hdD
 have HH:=hid (fun W (hW:Below w1.heap.size w1 W)=>thread_any (hd1.below hW))
 have HR:=hid (redoFormat_any hd1 0 26 (by omega) (by omega) (by omega))
 have HS1:=hid hS1
 have HB1:=hid hb1
 clear hd1 hS1 hb1 HN
 unfold memV at HR
 have HRf:Hid (Calls Tryz.prog 74 #[.iface 58 (.pointer (some ⟨a.th 0,0,none⟩)), .int .i64 0, .int .i64 26] w1 fun e w'=>∃ S2,e = .returned (.int .i64 0)∧Dev a (53+32 * K) 3 w' S2 (wrS (fun _=>0) [(64 * 0,0)]) 0∧(∀ k,S2 k→w.heap.size≤k)∧Below w.heap.size w w'):=hid (HR.out.mono (fun e w' h=>by
  obtain ⟨he,S2,hd,hc,hg⟩:=h
  refine ⟨S2,he,hd,fun k hk=>(hg k hk).elim (HS1.out k) (fun h=>Nat.le_trans HB1.out.size h),HB1.out.trans (hc.toBelow HB1.out.size HS1.out)⟩))
 clear HR
 go_wp2_with (first
  | (go_at_call 71;refine (HH.out _ (Below.refl _ _)).mono ?_;rintro e Wz ⟨rfl,rfl⟩)
  | (go_at_call 74;refine HRf.out.mono ?_;rintro e w2 ⟨S2,rfl,hd2,hS2,hb2⟩;refine stop ?_))
 unfold Stop
 have HH2:=hid (thread_any hd2)
 have HS2:=hid hS2
 have HB2:=hid hb2
 have hK9:=HK.out
 have HAf:=hid (heapFormat_any hd2 (HT.out.below hb2) (fun h=>by have:=hS2 _ h;have:=HLow.out.1;omega) 53 (32 * K) K (by omega) (by omega) (by omega) (by omega))
 have HAf2:Hid (Calls Tryz.prog 75 #[.iface 58 (.pointer (some ⟨a.th 0,0,none⟩)), .int .i64 53, .int .i64 (32 * (K:Int))] w2 fun e w'=>∃ S3,e = .returned (.int .i64 0)∧Dev a (53+32 * K) (3+3 * K) w' S3 (curB K) 0∧(∀ k,S3 k→w.heap.size≤k)∧Below w.heap.size w w'):=hid (by
  rw [← (wrapK K hK9.2).2]
  refine HAf.out.mono (fun e w' h=>?_)
  obtain ⟨he,S3,hd,hc,hg⟩:=h
  exact ⟨S3,he,hd,fun k hk=>(hg k hk).elim (HS2.out k) (fun h=>Nat.le_trans HB2.out.size h),HB2.out.trans (hc.toBelow HB2.out.size HS2.out)⟩)
 have hk0:(K:Int)≤12:=by omega
 have hk1:(1:Int)≤(K:Int):=by omega
 clear hd2 hS2 hb2 HAf HH HRf HS1 HB1
 go_wp2_with (first
  | (go_at_call 71;refine HH2.out.mono ?_;rintro e Wz ⟨rfl,rfl⟩)
  | (go_at_call 75;refine HAf2.out.mono ?_;rintro e w3 ⟨S3,rfl,hd3,hS3,hb3⟩;refine stop ?_))
 unfold Stop
 have HOp:=hid (bopen_any (b0:=w.heap.size) hd3 HDi.out rfl hK9.1 hK9.2 (HT.out.below hb3) (HPy.out.below hb3) (curB_ok K) ⟨HLow.out.1,HLow.out.2,hb3.size,hS3⟩)
 have HB3:=hid hb3
 clear hd3 hS3 hb3 HAf2 HH2 HS2 HB2
 go_wp2_with (go_at_call 102;refine HOp.out.mono ?_;rintro e w4 ⟨x,y,rfl,hbw,hb4⟩;have HBw:=hid hbw;have HB4:=hid (HB3.out.trans (hb4.mono HB3.out.size));clear hbw hb4)
 go_ret
 exact ⟨a,_,x,y,S3,rfl,HBw.out,by have:=HK.out.2;omega,HB4.out⟩
end
section
open Go.RowKit Go.Maps
section
variable {s K:Nat} {cs:Nat→CS} {f:Nat→Option Nat}
theorem At.lo {q k i:Nat} (h:At s K cs q k i):pOff q=64 * (s+32 * k)+8 * offB (cs k).cl i+8:=by
 have:=h.2.2.2
 unfold offO blkO at this
 omega
theorem At.fnd {q k i:Nat} (h:At s K cs q k i):fndC (s+32 * k) (cs k).cl (pOff q)=some i:=by
 have h1:=h.lo
 have h2:=off_lt h.2.2.1
 have h3:=pay_le (cs k).cl
 have e:(pOff q - 64 * (s+32 * k)) / 8=9+i * (payW (cs k).cl+1):=by unfold offB at h1;omega
 unfold fndC
 rw [if_neg (by omega),e]
 unfold findC
 have e2:9+i * (payW (cs k).cl+1) - 9=i * (payW (cs k).cl+1):=by omega
 have hi:=h.2.2.1
 rw [if_neg (by unfold offB at h2;omega),e2,Nat.mul_mod_left,Nat.mul_div_cancel _ (by omega),if_neg (by omega)]
theorem At.home {q k i:Nat} (h:At s K cs q k i):homeOf s K (pOff q)=some k:=by
 rw [h.2.2.2]
 exact homeOf_blk h.1 h.2.2.1
structure LiveA (s K:Nat) (cs:Nat→CS) (q kind k i:Nat):Prop where
 at_:At s K cs q k i
 bk:(cs k).bs i=⟨pGen q,kind,177⟩
 kind_:pKind q=kind
 nz:q≠0
 lt:q < 18446744073709551616
 top:q / 72057594037927936=0
def Live (s K:Nat) (cs:Nat→CS) (q kind:Nat):Prop:=∃ k i,LiveA s K cs q kind k i
theorem Live.chk {q kind:Nat} (h:Live s K cs q kind):chkR s K cs q kind=0∧chkR s K cs q 0=0:=by
 obtain ⟨k,i,h⟩:=h
 have hb:blkR (s+32 * k) (cs k).cl (cs k).bs q=(i,0):=by
  unfold blkR
  rw [if_neg h.nz,h.at_.fnd]
  show (if q / 72057594037927936≠0 then _ else _)=_
  rw [h.bk,h.top,h.kind_,if_neg (by omega),if_neg (by simp),if_neg (by simp)]
 have hc:∀ kd,chkR s K cs q kd=if kd≠0∧kd≠pKind q then 13 else 0:=fun kd=>by
  unfold chkR
  rw [if_neg h.nz,h.top,if_neg (by omega),h.at_.home]
  show (if (cs k).dv=true then _ else _)=_
  rw [if_pos h.at_.2.1,hb,if_neg (by simp)]
 rw [hc,hc,h.kind_]
 simp
theorem chain_words {L:Nat} {cur:Nat→Nat} {chk:Nat→Nat} {bl p:List Nat} (hlen:bl.length=nBlk p.length) (hp:p.length≤2000) (hw:∀ j (h:j < bl.length),WordsAt cur bl[j] (payL (bl.getD (j+1) 0) (p.drop (456 * j))))
  (hq:∀ j (h:j < bl.length),pOff bl[j]+8 * bSize (p.length - 456 * j)≤64 * L∧bl[j]≠0∧bl[j] < 18446744073709551616∧chk bl[j]=0):∀ d j,j+d+1=bl.length→Chain L cur chk (bl.drop j) (p.drop (456 * j)):=fun d=>by
 induction d with
 | zero =>
  intro j hj
  have hlt:j < bl.length:=by omega
  obtain ⟨q1,q2,q3,q4⟩:=hq j hlt
  have e:bl.drop j=[bl[j]]:=by rw [List.drop_eq_getElem_cons hlt,List.drop_of_length_le (by omega)]
  have hw':=hw j hlt
  rw [List.getD_eq_getElem?_getD,List.getElem?_eq_none (by omega)] at hw'
  rw [e]
  refine ⟨hw',by rw [List.length_drop];omega,by rw [List.length_drop];exact q1,?_,q2,q3,q4,fun h=>absurd rfl h⟩
  rw [List.length_drop]
  unfold nBlk at hlen
  constructor
  ·intro h;split at hlen <;> omega
  ·intro h;exact absurd rfl h
 | succ d ih =>
  intro j hj
  have hlt:j < bl.length:=by omega
  obtain ⟨q1,q2,q3,q4⟩:=hq j hlt
  have e:bl.drop j=bl[j] :: bl.drop (j+1):=List.drop_eq_getElem_cons hlt
  have hne:bl.drop (j+1)≠[]:=fun h=>by have:=congrArg List.length h;rw [List.length_drop] at this;simp at this;omega
  have hh:(bl.drop (j+1)).headD 0=bl.getD (j+1) 0:=by
   rw [List.drop_eq_getElem_cons (show j+1 < bl.length by omega),List.getD_eq_getElem?_getD,List.getElem?_eq_getElem (show j+1 < bl.length by omega)]
   rfl
  rw [e]
  refine ⟨by rw [hh];exact hw j hlt,by rw [List.length_drop];omega,by rw [List.length_drop];exact q1,?_,q2,q3,q4,fun _=>?_⟩
  ·rw [List.length_drop]
   unfold nBlk at hlen
   constructor
   ·intro _;exact hne
   ·intro h;split at hlen <;> omega
  ·rw [List.drop_drop,show 456 * j+456=456 * (j+1) by omega]
   exact ih (j+1) (by omega)
end
section
variable {s K:Nat} {cs:Nat→CS} {f:Nat→Option Nat} {keep free ks:List Nat} {V:Nat→Nat}
theorem At.pub {q k i:Nat} {tl:Nat→List (Nat × Nat)} {dl:Nat→List Nat} (h:At s K cs q k i):At s K (acC cs ks tl dl V) q k i:=by
 obtain ⟨e1,e2,_⟩:=acC_dv cs ks tl dl V k
 refine ⟨h.1,by rw [e1];exact h.2.1,by rw [e2];exact h.2.2.1,?_⟩
 rw [h.2.2.2]
 unfold offO
 rw [e2]
theorem tl_mem {q k i:Nat} (h:At s K cs q k i) (hq:q∈keep):(i,pKind q)∈tlOf s cs keep k:=by
 obtain ⟨e1,e2⟩:=kOf_blk h.2.2.1 h.2.2.2
 unfold tlOf
 exact List.mem_map.2 ⟨q,List.mem_filter.2 ⟨hq,by rw [beq_iff_eq];exact e1⟩,by rw [e2]⟩
theorem dl_mem {q k i:Nat} (h:At s K cs q k i) (hq:q∈free):i∈dlOf s cs free k:=by
 obtain ⟨e1,e2⟩:=kOf_blk h.2.2.1 h.2.2.2
 unfold dlOf
 exact List.mem_map.2 ⟨q,List.mem_filter.2 ⟨hq,by rw [beq_iff_eq];exact e1⟩,e2⟩
theorem pub_keep {q kind c:Nat} (h:AOk s K cs ks (tlOf s cs keep) (dlOf s cs free) V) (hks:∀ k,k∈ks↔k < K∧(tlOf s cs keep k≠[]∨dlOf s cs free k≠[])) (hr:Rq s K cs f kind q c) (hq:q∈keep) (_h128:kind < 128):∃ k i,LiveA s K (acC cs ks (tlOf s cs keep) (dlOf s cs free) V) q kind k i∧(cs k).cl=c∧At s K cs q k i:=by
 obtain ⟨k,i,ha,hc,hg⟩:=hr.cls
 have hm:=tl_mem ha hq
 have hk:k∈ks:=(hks k).2 ⟨ha.1, .inl (fun e=>by rw [e] at hm;exact absurd hm (by simp))⟩
 refine ⟨k,i,⟨ha.pub,?_,hr.kind_,hr.keep.nz.1,hr.keep.nz.2,hr.top⟩,hc,ha⟩
 ·unfold acC
  rw [if_pos hk]
  show actB (cs k).bs _ _ i=_
  have:=actB_tk (bs:=(cs k).bs) (h.once k hk) hm
  rw [this,hr.kind_]
  unfold takenB
  rw [hg]
theorem pub_bs {k i:Nat} (hkp:∀ p∈keep,∃ k i,At s K cs p k i) (hfr:∀ p∈free,∃ k i,At s K cs p k i) (hi:i < perC (cs k).cl) (h1:∀ p∈keep,pOff p≠offO s cs k i) (h2:∀ p∈free,pOff p≠offO s cs k i):(acC cs ks (tlOf s cs keep) (dlOf s cs free) V k).bs i=(cs k).bs i:=by
 unfold acC
 split
 ·show actB (cs k).bs _ _ i=_
  refine actB_out (fun hm=>?_) (fun hm=>?_)
  ·obtain ⟨e,he,rfl⟩:=List.mem_map.1 hm
   unfold tlOf at he
   obtain ⟨p,hp,rfl⟩:=List.mem_map.1 he
   obtain ⟨hp1,hp2⟩:=List.mem_filter.1 hp
   obtain ⟨k2,i2,ha⟩:=hkp p hp1
   obtain ⟨e1,e2⟩:=kOf_blk ha.2.2.1 ha.2.2.2
   rw [beq_iff_eq] at hp2
   have hkk:k2=k:=e1.symm.trans hp2
   subst hkk
   refine h1 p hp1 ?_
   show pOff p=offO s cs k2 (iOf s cs p)
   rw [e2]
   exact ha.2.2.2
  ·unfold dlOf at hm
   obtain ⟨p,hp,hpe⟩:=List.mem_map.1 hm
   obtain ⟨hp1,hp2⟩:=List.mem_filter.1 hp
   obtain ⟨k2,i2,ha⟩:=hfr p hp1
   obtain ⟨e1,e2⟩:=kOf_blk ha.2.2.1 ha.2.2.2
   rw [beq_iff_eq] at hp2
   have hkk:k2=k:=e1.symm.trans hp2
   subst hkk
   refine h2 p hp1 ?_
   rw [← hpe,e2]
   exact ha.2.2.2
 ·rfl
theorem pub_live {q kind k i:Nat} (hkp:∀ p∈keep,∃ k i,At s K cs p k i) (hfr:∀ p∈free,∃ k i,At s K cs p k i) (h:LiveA s K cs q kind k i) (h1:∀ p∈keep,pOff p≠pOff q) (h2:∀ p∈free,pOff p≠pOff q):LiveA s K (acC cs ks (tlOf s cs keep) (dlOf s cs free) V) q kind k i :=
 ⟨h.at_.pub,(pub_bs hkp hfr h.at_.2.2.1 (fun p hp e=>h1 p hp (e.trans h.at_.2.2.2.symm)) (fun p hp e=>h2 p hp (e.trans h.at_.2.2.2.symm))).trans h.bk,h.kind_,h.nz,h.lt,h.top⟩
theorem Cap.pub {al:List Nat} (h:Cap s K cs f al) (hkp:∀ p∈keep,KeepOk s K cs f p) (hfr:∀ p∈free,FreeOk s K cs p):Cap s K (acC cs ks (tlOf s cs keep) (dlOf s cs free) V) (relF f keep) al:=by
 refine h.same (fun k _=>⟨(acC_dv cs ks _ _ V k).1,(acC_dv cs ks _ _ V k).2.1⟩) (fun k i hk hdv hi hv=>?_)
 obtain ⟨_,_,_,_,v5,v6⟩:=hv
 obtain ⟨e1,e2,_⟩:=acC_dv cs ks (tlOf s cs keep) (dlOf s cs free) V k
 have h1:∀ p∈keep,pOff p≠offO s cs k i:=fun p hp e=>by
  have:=(hkp p hp).res
  rw [e,v6] at this
  cases this
 have h2:∀ p∈free,pOff p≠offO s cs k i:=fun p hp e=>by
  obtain ⟨k2,i2,g1,g2,g3,g4,g5⟩:=(hfr p hp).loc
  obtain ⟨rfl,rfl⟩:=offO_inj g3 hi (g4.symm.trans e)
  omega
 refine ⟨hk,by rw [e1];exact hdv,e2,hi,?_,?_⟩
 ·have hb:=pub_bs (ks:=ks) (V:=V) (keep:=keep) (free:=free) (cs:=cs) (s:=s) (K:=K) (fun p hp=>by
   obtain ⟨k2,i2,g1,g2,g3,g4,g5⟩:=(hkp p hp).loc
   exact ⟨k2,i2,g1,g2,g3,g4⟩) (fun p hp=>by
   obtain ⟨k2,i2,g1,g2,g3,g4,g5⟩:=(hfr p hp).loc
   exact ⟨k2,i2,g1,g2,g3,g4⟩) hi h1 h2
  rw [hb]
  exact v5
 ·have e:offO s (acC cs ks (tlOf s cs keep) (dlOf s cs free) V) k i=offO s cs k i:=by unfold offO;rw [e2]
  rw [e,relF_out]
  ·exact v6
  ·intro hm
   obtain ⟨p,hp,hpe⟩:=List.mem_map.1 hm
   exact h1 p hp hpe
end
end
end Go.Proofs.YtfkjjoglnmeciaaGreatDoor
