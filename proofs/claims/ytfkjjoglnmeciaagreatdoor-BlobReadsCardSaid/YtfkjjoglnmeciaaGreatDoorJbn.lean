/- The walks and laws that the claim leans on, part 40. -/
import Derived.Test.YtfkjjoglnmeciaaGreatDoorJbg
import Derived.Test.YtfkjjoglnmeciaaGreatDoorJbj
namespace Go.Proofs.YtfkjjoglnmeciaaGreatDoor
open Go.Lib (hid)
section
open Go.RowKit Go.Maps
section
variable {ln cl V:Nat} {bs:Nat→BK} {take:List (Nat × Nat)} {drop:List Nat}
theorem chgW_mem {e:Nat × Nat} (h:e∈chgW ln cl bs take drop V):(∃ x∈take,e=(64 * ln+8 * offB cl x.1,(takenB (bs x.1) x.2).w))∨(∃ i∈drop,e=(64 * ln+8 * offB cl i,(freedB (bs i)).w))∨e=(64 * ln+8,V):=by
 unfold chgW tkW drW at h
 rcases List.mem_append.1 h with h | h
 ·rcases List.mem_append.1 h with h | h
  ·obtain ⟨x,hx,rfl⟩:=List.mem_map.1 h
   exact .inl ⟨x,hx,rfl⟩
  ·obtain ⟨x,hx,rfl⟩:=List.mem_map.1 h
   exact .inr (.inl ⟨x,hx,rfl⟩)
 ·exact .inr (.inr (List.mem_singleton.1 h))
theorem chgW_at (h1:∀ e∈take,e.1 < perC cl) (h2:∀ i∈drop,i < perC cl) {e:Nat × Nat} (h:e∈chgW ln cl bs take drop V):e.1 % 8=0∧hdrAt ln cl (e.1 / 8)∧e.1 / 8≠8 * ln∧64 * ln≤e.1∧e.1 < 64 * ln+2048∧(e.1 / 8=8 * ln+1∨8 * ln+8≤e.1 / 8):=by
 have hb:∀ i,i < perC cl→(64 * ln+8 * offB cl i) % 8=0∧hdrAt ln cl ((64 * ln+8 * offB cl i) / 8)∧(64 * ln+8 * offB cl i) / 8≠8 * ln∧64 * ln≤64 * ln+8 * offB cl i∧64 * ln+8 * offB cl i < 64 * ln+2048∧((64 * ln+8 * offB cl i) / 8=8 * ln+1∨8 * ln+8≤(64 * ln+8 * offB cl i) / 8):=fun i hi=>by
  have h3:=off_lt hi
  have h4:=offB_ge cl i
  refine ⟨by omega, .inr ⟨i,hi,by omega⟩,by omega,by omega,by omega, .inr (by omega)⟩
 rcases chgW_mem h with ⟨x,hx,rfl⟩ | ⟨i,hi,rfl⟩ | rfl
 ·exact hb _ (h1 x hx)
 ·exact hb _ (h2 i hi)
 ·exact ⟨by show (64 * ln+8) % 8=0;omega, .inl (by show 8 * ln≤(64 * ln+8) / 8∧(64 * ln+8) / 8 < 8 * ln+8;omega),by show (64 * ln+8) / 8≠8 * ln;omega,by show 64 * ln≤64 * ln+8;omega,by show 64 * ln+8 < _;omega, .inl (by show (64 * ln+8) / 8=_;omega)⟩
theorem chgW_nodup (hn:(take.map (·.1)++drop).Nodup):((chgW ln cl bs take drop V).map (·.1)).Nodup:=by
 unfold chgW tkW drW
 rw [List.map_append,List.map_append,List.map_map,List.map_map]
 have e:take.map ((fun x:Nat × Nat=>x.1) ∘ fun e=>(64 * ln+8 * offB cl e.1,(takenB (bs e.1) e.2).w))++drop.map ((fun x:Nat × Nat=>x.1) ∘ fun i=>(64 * ln+8 * offB cl i,(freedB (bs i)).w))=(take.map (·.1)++drop).map fun i=>64 * ln+8 * offB cl i:=by
  rw [List.map_append,List.map_map]
  rfl
 rw [e,List.nodup_append]
 refine ⟨List.pairwise_map.2 (hn.imp (fun hne e=>hne (offB_inj (c:=cl) (by omega)))),by simp,?_⟩
 intro a ha b hb e
 obtain ⟨i,_,rfl⟩:=List.mem_map.1 ha
 simp at hb
 have:=offB_ge cl i
 omega
theorem chgW_val (hV:V < 18446744073709551616) (h1:∀ e∈take,(bs e.1).In∧e.2 < 128) (h2:∀ i∈drop,(bs i).In) {e:Nat × Nat} (h:e∈chgW ln cl bs take drop V):e.2 < 18446744073709551616:=by
 rcases chgW_mem h with ⟨x,hx,rfl⟩ | ⟨i,hi,rfl⟩ | rfl
 ·exact BK.w_lt (takenB_in (h1 x hx).1 (by have:=(h1 x hx).2;omega))
 ·exact BK.w_lt (freedB_in (h2 i hi))
 ·exact hV
theorem actB_tk (hn:(take.map (·.1)++drop).Nodup) {e:Nat × Nat} (he:e∈take):actB bs take drop e.1=takenB (bs e.1) e.2:=by
 obtain ⟨n1,n2,n3⟩:=List.nodup_append.1 hn
 have h1:=foldB_out (fun i:Nat=>i) (fun i=>freedB (bs i)) e.1 drop (tkB bs take) (fun h=>by
  rw [show drop.map (fun i:Nat=>i)=drop from List.map_id' drop] at h
  exact n3 _ (List.mem_map.2 ⟨e,he,rfl⟩) _ h rfl)
 have h2:=foldB_in (fun e:Nat × Nat=>e.1) (fun e=>takenB (bs e.1) e.2) take bs n1 e he
 exact h1.trans h2
theorem actB_dr (hn:(take.map (·.1)++drop).Nodup) {i:Nat} (hi:i∈drop):actB bs take drop i=freedB (bs i):=by
 obtain ⟨n1,n2,n3⟩:=List.nodup_append.1 hn
 exact foldB_in (fun i:Nat=>i) (fun i=>freedB (bs i)) drop (tkB bs take) (by rw [show drop.map (fun i:Nat=>i)=drop from List.map_id' drop];exact n2) i hi
theorem actB_out {i:Nat} (h1:i ∉ take.map (·.1)) (h2:i ∉ drop):actB bs take drop i=bs i:=by
 have h3:=foldB_out (fun i:Nat=>i) (fun i=>freedB (bs i)) i drop (tkB bs take) (fun h=>by
  rw [show drop.map (fun i:Nat=>i)=drop from List.map_id' drop] at h
  exact h2 h)
 have h4:=foldB_out (fun e:Nat × Nat=>e.1) (fun e=>takenB (bs e.1) e.2) i take bs h1
 exact h3.trans h4
end
def lookAt (s:Nat) (cs:Nat→CS) (k i:Nat):Prop:=if (cs k).dv then hdrAt (s+32 * k) (cs k).cl i else i=8 * (s+32 * k)
structure UOk (L s0 s K:Nat) (cs:Nat→CS) (us:List (Nat × Nat)):Prop where
 off:∀ e∈us,OffOk L s0 26 e.1
 val:∀ e∈us,e.2 < 18446744073709551616
 free:∀ e∈us,∀ k,k < K→¬ lookAt s cs k (e.1 / 8)
 nd:(us.map (·.1)).Nodup
structure AOk (s K:Nat) (cs:Nat→CS) (ks:List Nat) (tl:Nat→List (Nat × Nat)) (dl:Nat→List Nat) (V:Nat→Nat):Prop where
 nd:ks.Nodup
 lt:∀ k∈ks,k < K∧(cs k).dv=true
 once:∀ k∈ks,((tl k).map (·.1)++dl k).Nodup
 tk:∀ k∈ks,∀ e∈tl k,e.1 < perC (cs k).cl∧((cs k).bs e.1).st=176∧0 < e.2∧e.2 < 128
 dr:∀ k∈ks,∀ i∈dl k,i < perC (cs k).cl∧((cs k).bs i).st=177
 bits:∀ k∈ks,Bits (V k) (cs k).cl (actB (cs k).bs (tl k) (dl k))
def acW (s:Nat) (cs:Nat→CS) (tl:Nat→List (Nat × Nat)) (dl:Nat→List Nat) (V:Nat→Nat) (k:Nat):List (Nat × Nat):=chgW (s+32 * k) (cs k).cl (cs k).bs (tl k) (dl k) (V k)
def acC (cs:Nat→CS) (ks:List Nat) (tl:Nat→List (Nat × Nat)) (dl:Nat→List Nat) (V:Nat→Nat):Nat→CS:=fun k=>if k∈ks then { cs k with V:=V k,bs:=actB (cs k).bs (tl k) (dl k) } else cs k
theorem nodup_flat {f:Nat→List (Nat × Nat)}:∀ (ks:List Nat),ks.Nodup→(∀ k∈ks,((f k).map (·.1)).Nodup)→(∀ k∈ks,∀ k'∈ks,k≠k'→∀ e∈f k,∀ e'∈f k',e.1≠e'.1)→((ks.flatMap f).map (·.1)).Nodup
 | [],_,_,_=>by simp
 | k :: ks,hn,h1,h2=>by
  rw [List.nodup_cons] at hn
  rw [List.flatMap_cons,List.map_append,List.nodup_append]
  refine ⟨h1 k (by simp),nodup_flat ks hn.2 (fun k' hk'=>h1 k' (by simp [hk'])) (fun a ha b hb=>h2 a (by simp [ha]) b (by simp [hb])),?_⟩
  intro x hx y hy e
  obtain ⟨e1,he1,rfl⟩:=List.mem_map.1 hx
  obtain ⟨e2,he2,rfl⟩:=List.mem_map.1 hy
  obtain ⟨k',hk',he2⟩:=List.mem_flatMap.1 he2
  exact h2 k (by simp) k' (by simp [hk']) (fun e=>hn.1 (e ▸ hk')) e1 he1 e2 he2 e
theorem diff_of_nodup {ws:List (Nat × Nat)} (h:(ws.map (·.1)).Nodup):Diff ws:=fun i j hi hj hne e=>by
 have hp:ws.Pairwise fun p q=>p.1≠q.1:=List.pairwise_map.1 h
 have h1:=List.pairwise_iff_getElem.1 hp
 rcases Nat.lt_or_ge i j with hij | hij
 ·exact h1 i j hi hj hij e
 ·exact h1 j i hj hi (by omega) e.symm
section
variable {a:DA} {L T s n K:Nat} {x:HA} {cs:Nat→CS} {f:Nat→Option Nat} {N m b0:Nat} {S:Fp} {cur:Nat→Nat} {w w':World} {s0:Nat} {us:List (Nat × Nat)} {ks:List Nat} {tl:Nat→List (Nat × Nat)} {dl:Nat→List Nat} {V:Nat→Nat}
theorem AOk.at_ (h:AOk s K cs ks tl dl V) {k:Nat} (hk:k∈ks) {e:Nat × Nat} (he:e∈acW s cs tl dl V k):e.1 % 8=0∧hdrAt (s+32 * k) (cs k).cl (e.1 / 8)∧e.1 / 8≠8 * (s+32 * k)∧64 * (s+32 * k)≤e.1∧e.1 < 64 * (s+32 * k)+2048∧(e.1 / 8=8 * (s+32 * k)+1∨8 * (s+32 * k)+8≤e.1 / 8) :=
 chgW_at (fun e he=>(h.tk k hk e he).1) (fun i hi=>(h.dr k hk i hi).1) he
theorem AOk.mem (_h:AOk s K cs ks tl dl V) {e:Nat × Nat} (he:e∈ks.flatMap (acW s cs tl dl V)):∃ k∈ks,e∈acW s cs tl dl V k:=by
 obtain ⟨k,hk,hk2⟩:=List.mem_flatMap.1 he
 exact ⟨k,hk,hk2⟩
theorem pub_nodup (hu:UOk L s0 s K cs us) (h:AOk s K cs ks tl dl V):((us++ks.flatMap (acW s cs tl dl V)).map (·.1)).Nodup:=by
 rw [List.map_append,List.nodup_append]
 refine ⟨hu.nd,nodup_flat ks h.nd (fun k hk=>chgW_nodup (h.once k hk)) ?_,?_⟩
 ·intro k hk k' hk' hne e he e' he' heq
  have h1:=h.at_ hk he
  have h2:=h.at_ hk' he'
  omega
 ·intro y hy z hz e
  obtain ⟨e1,he1,rfl⟩:=List.mem_map.1 hy
  obtain ⟨e2,he2,rfl⟩:=List.mem_map.1 hz
  obtain ⟨k,hk,hk2⟩:=h.mem he2
  have h1:=(h.at_ hk hk2).2.1
  refine hu.free e1 he1 k (h.lt k hk).1 ?_
  unfold lookAt
  rw [(h.lt k hk).2,if_pos rfl,e]
  exact h1
theorem pub_off (hd:DS a L T s n K x cs f N m b0 S cur w) (hs0:s0+26≤s) (hu:UOk L s0 s K cs us) (h:AOk s K cs ks tl dl V):∀ e∈us++ks.flatMap (acW s cs tl dl V),OffOk L s0 26 e.1:=fun e he=>by
 rcases List.mem_append.1 he with he | he
 ·exact hu.off e he
 ·obtain ⟨k,hk,hk2⟩:=h.mem he
  obtain ⟨h1,_,_,h4,h5,_⟩:=h.at_ hk hk2
  have hl:=hd.line (h.lt k hk).1
  exact ⟨h1,by omega, .inr (by omega)⟩
theorem pub_val (hd:DS a L T s n K x cs f N m b0 S cur w) (hu:UOk L s0 s K cs us) (h:AOk s K cs ks tl dl V):∀ e∈us++ks.flatMap (acW s cs tl dl V),e.2 < 18446744073709551616:=fun e he=>by
 rcases List.mem_append.1 he with he | he
 ·exact hu.val e he
 ·obtain ⟨k,hk,hk2⟩:=h.mem he
  have hC:=hd.chw (h.lt k hk).1 (h.lt k hk).2
  exact chgW_val (h.bits k hk).lt (fun e he=>⟨hC.inn _ (h.tk k hk e he).1,(h.tk k hk e he).2.2.2⟩) (fun i hi=>hC.inn _ (h.dr k hk i hi).1) hk2
theorem pub_rest {cm:Nat} (_hd:DS a L T s n K x cs f N m b0 S cur w) (_hs0:s0+26≤s) (h:AOk s K cs ks tl dl V) (hlen:(us++ks.flatMap (acW s cs tl dl V)).length≤96) {i:Nat} (hi:i < 8 * s0∨8 * s0+208≤i) (h1:∀ e∈us,e.1 / 8≠i) (h2:∀ k∈ks,∀ e∈acW s cs tl dl V k,e.1 / 8≠i) :
  rdG s0 cur (us++ks.flatMap (acW s cs tl dl V)) cm i=cur i:=by
 refine rdG_rest hlen hi (fun e he=>?_)
 rcases List.mem_append.1 he with he | he
 ·exact h1 e he
 ·obtain ⟨k,hk,hk2⟩:=h.mem he
  exact h2 k hk e hk2
theorem pub_pay {cm k i j:Nat} (hd:DS a L T s n K x cs f N m b0 S cur w) (hs0:s0+26≤s) (h:AOk s K cs ks tl dl V) (hlen:(us++ks.flatMap (acW s cs tl dl V)).length≤96) (hk:k < K) (hdv:(cs k).dv=true) (hi:i < perC (cs k).cl) (hj:j < payW (cs k).cl) (h1:∀ e∈us,e.1 / 8≠8 * (s+32 * k)+offB (cs k).cl i+1+j) :
  rdG s0 cur (us++ks.flatMap (acW s cs tl dl V)) cm (8 * (s+32 * k)+offB (cs k).cl i+1+j)=cur (8 * (s+32 * k)+offB (cs k).cl i+1+j):=by
 obtain ⟨p1,p2,p3,p4⟩:=pay_word (ln:=s+32 * k) hi hj
 refine pub_rest hd hs0 h hlen (.inr (by omega)) h1 (fun k' hk' e he heq=>?_)
 obtain ⟨q1,q2,q3,q4,q5,_⟩:=h.at_ hk' he
 by_cases e1:k'=k
 ·subst e1
  rw [heq] at q2
  exact p4 q2
 ·omega
theorem pub_ok {cm:Nat} (hd:DS a L T s n K x cs f N m b0 S cur w) (hs0:s0+26≤s) (hu:UOk L s0 s K cs us) (h:AOk s K cs ks tl dl V) (hlen:(us++ks.flatMap (acW s cs tl dl V)).length≤96) :
  ∀ k,k < K→CSok (rdG s0 cur (us++ks.flatMap (acW s cs tl dl V)) cm) (s+32 * k) (acC cs ks tl dl V k):=fun k hk=>by
 have hno:∀ i,8 * (s+32 * k)≤i→i < 8 * (s+32 * k)+256→lookAt s cs k i→(∀ e∈us,e.1 / 8≠i):=fun i _ _ hl e he heq=>hu.free e he k hk (heq ▸ hl)
 unfold acC
 by_cases hks:k∈ks
 ·rw [if_pos hks]
  have hdv:=(h.lt k hks).2
  have hC:=hd.chw hk hdv
  have hlk:∀ i,hdrAt (s+32 * k) (cs k).cl i→lookAt s cs k i:=fun i hi=>by unfold lookAt;rw [hdv,if_pos rfl];exact hi
  have hget:∀ e∈acW s cs tl dl V k,rdG s0 cur (us++ks.flatMap (acW s cs tl dl V)) cm (e.1 / 8)=e.2:=fun e he=>rdG_get (pub_off hd hs0 hu h) (pub_nodup hu h) (List.mem_append.2 (.inr (List.mem_flatMap.2 ⟨k,hks,he⟩)))
  have hrest:∀ i,hdrAt (s+32 * k) (cs k).cl i→(∀ e∈acW s cs tl dl V k,e.1 / 8≠i)→rdG s0 cur (us++ks.flatMap (acW s cs tl dl V)) cm i=cur i:=fun i hi hne=>by
   have hin:=hdrAt_in hi
   refine pub_rest hd hs0 h hlen (.inr (by omega)) (hno i (by omega) (by omega) (hlk i hi)) (fun k' hk' e he=>?_)
   by_cases e1:k'=k
   ·subst e1;exact hne e he
   ·obtain ⟨q1,q2,q3,q4,q5,_⟩:=h.at_ hk' he
    omega
  unfold CSok
  show if (cs k).dv=true then _ else _
  rw [if_pos hdv]
  have hon:=h.once k hks
  refine ⟨?_,hC.cls,hC.g0,hC.g1,?_,(h.bits k hks).lt,?_,?_,?_,?_,(h.bits k hks).bit,(h.bits k hks).top⟩
  ·exact (hrest _ (.inl ⟨by omega,by omega⟩) (fun e he=>by have:=h.at_ hks he;omega)).trans hC.hdr
  ·have h1:=hget (64 * (s+32 * k)+8,V k) (by unfold acW chgW;simp)
   have e:(64 * (s+32 * k)+8) / 8=8 * (s+32 * k)+1:=by omega
   rw [← e]
   exact h1
  ·intro j h2 h8
   exact (hrest _ (.inl ⟨by omega,by omega⟩) (fun e he=>by have:=h.at_ hks he;omega)).trans (hC.zero j h2 h8)
  ·intro i hi
   show (actB (cs k).bs (tl k) (dl k) i).In
   by_cases h1:i∈(tl k).map (·.1)
   ·obtain ⟨e,he,rfl⟩:=List.mem_map.1 h1
    rw [actB_tk hon he]
    exact takenB_in (hC.inn _ hi) (by have:=(h.tk k hks e he).2.2.2;omega)
   ·by_cases h2:i∈dl k
    ·rw [actB_dr hon h2]
     exact freedB_in (hC.inn _ hi)
    ·rw [actB_out h1 h2]
     exact hC.inn _ hi
  ·intro i hi
   show (actB (cs k).bs (tl k) (dl k) i).good=true
   by_cases h1:i∈(tl k).map (·.1)
   ·obtain ⟨e,he,rfl⟩:=List.mem_map.1 h1
    obtain ⟨_,t2,t3,t4⟩:=h.tk k hks e he
    rw [actB_tk hon he]
    exact takenB_good (hC.good _ hi) t2 t3 t4
   ·by_cases h2:i∈dl k
    ·rw [actB_dr hon h2]
     exact freedB_good _
    ·rw [actB_out h1 h2]
     exact hC.good _ hi
  ·intro i hi
   show _=(actB (cs k).bs (tl k) (dl k) i).w
   have e0:(64 * (s+32 * k)+8 * offB (cs k).cl i) / 8=8 * (s+32 * k)+offB (cs k).cl i:=by omega
   by_cases h1:i∈(tl k).map (·.1)
   ·obtain ⟨e,he,rfl⟩:=List.mem_map.1 h1
    rw [actB_tk hon he,← e0]
    exact hget _ (by
     unfold acW chgW tkW
     exact List.mem_append.2 (.inl (List.mem_append.2 (.inl (List.mem_map.2 ⟨e,he,rfl⟩)))))
   ·by_cases h2:i∈dl k
    ·rw [actB_dr hon h2,← e0]
     exact hget _ (by
      unfold acW chgW drW
      exact List.mem_append.2 (.inl (List.mem_append.2 (.inr (List.mem_map.2 ⟨i,h2,rfl⟩)))))
    ·rw [actB_out h1 h2]
     refine (hrest _ (.inr ⟨i,hi,rfl⟩) (fun e he heq=>?_)).trans (hC.word i hi)
     have h8:=offB_ge (cs k).cl i
     unfold acW at he
     rcases chgW_mem he with ⟨y,hy,rfl⟩ | ⟨i',hi',rfl⟩ | rfl
     ·have:offB (cs k).cl y.1=offB (cs k).cl i:=by
       have:(64 * (s+32 * k)+8 * offB (cs k).cl y.1) / 8=8 * (s+32 * k)+offB (cs k).cl i:=heq
       omega
      exact h1 (List.mem_map.2 ⟨y,hy,offB_inj this⟩)
     ·have:offB (cs k).cl i'=offB (cs k).cl i:=by
       have:(64 * (s+32 * k)+8 * offB (cs k).cl i') / 8=8 * (s+32 * k)+offB (cs k).cl i:=heq
       omega
      exact h2 (offB_inj this ▸ hi')
     ·have:(64 * (s+32 * k)+8) / 8=8 * (s+32 * k)+offB (cs k).cl i:=heq
      omega
 ·rw [if_neg hks]
  have hfar:∀ i,8 * (s+32 * k)≤i→i < 8 * (s+32 * k)+256→∀ k'∈ks,∀ e∈acW s cs tl dl V k',e.1 / 8≠i:=fun i h1 h2 k' hk' e he heq=>by
   obtain ⟨q1,q2,q3,q4,q5,_⟩:=h.at_ hk' he
   have:k'≠k:=fun e=>hks (e ▸ hk')
   omega
  have hok:=hd.ok k hk
  cases hdv:(cs k).dv with
  | true =>
   refine hok.same (fun i h1 h2 h3=>?_)
   have hl:lookAt s cs k i:=by unfold lookAt;rw [hdv,if_pos rfl];exact h3 hdv
   exact pub_rest hd hs0 h hlen (.inr (by omega)) (hno i h1 h2 hl) (hfar i h1 h2)
  | false =>
   unfold CSok at hok ⊢
   rw [hdv] at hok ⊢
   simp only [Bool.false_eq_true,if_false] at hok ⊢
   obtain ⟨o1,o2⟩:=hok
   have hl:lookAt s cs k (8 * (s+32 * k)):=by unfold lookAt;rw [hdv];simp
   exact ⟨(pub_rest hd hs0 h hlen (.inr (by omega)) (hno _ (by omega) (by omega) hl) (hfar _ (by omega) (by omega))).trans o1,o2⟩
theorem acC_dv (cs:Nat→CS) (ks:List Nat) (tl:Nat→List (Nat × Nat)) (dl:Nat→List Nat) (V:Nat→Nat) (k:Nat):(acC cs ks tl dl V k).dv=(cs k).dv∧(acC cs ks tl dl V k).cl=(cs k).cl∧(acC cs ks tl dl V k).g=(cs k).g:=by
 unfold acC
 split <;> exact ⟨rfl,rfl,rfl⟩
theorem Plc.same {p:PA} {cs cs':Nat→CS} (h:Plc a s K p cs w) (he:∀ k,k < K→(cs' k).cls=(cs k).cls∧(cs' k).own=(cs k).own):Plc a s K p cs' w:=by
 obtain ⟨h1,pcs,hp,hk⟩:=h
 refine ⟨h1,pcs,hp,fun k hkK=>?_⟩
 obtain ⟨q1,q2,q3,q4⟩:=hk k hkK
 obtain ⟨e1,e2⟩:=he k hkK
 exact ⟨q1,by rw [e1];exact q2,by rw [e2];exact q3,q4⟩
theorem DS.pub {cm T':Nat} {S':Fp} (hd:DS a L T s n K x cs f N m b0 S cur w) (hs0:s0+26≤s) (hu:UOk L s0 s K cs us) (h:AOk s K cs ks tl dl V) (hlen:(us++ks.flatMap (acW s cs tl dl V)).length≤96) (hcm:cm < 18446744073709551616)
  (hD:Dev a L T' w' S' (rdG s0 cur (us++ks.flatMap (acW s cs tl dl V)) cm) 0) (hc:Chg S w w') (hg:Grew S S' w) :
  DS a L T' s n K x (acC cs ks tl dl V) f N m b0 S' (rdG s0 cur (us++ks.flatMap (acW s cs tl dl V)) cm) w':=by
 have hb:∀ i,rdG s0 cur (us++ks.flatMap (acW s cs tl dl V)) cm i < 18446744073709551616:=rdG_bnd hd.bnd (fun e he=>⟨by have h1:=(pub_off hd hs0 hu h e he).lt;have:=hd.hL;omega,pub_val hd hu h e he⟩) hcm
 obtain ⟨o1,o2,o3,o4,o5⟩:=hd.off
 obtain ⟨l1,l2,l3,l4,l5,l6,l7,l8⟩:=hd.lo
 obtain ⟨z1,z2,z3,z4,z5⟩:=hd.hs.lt
 have hlow:∀ g,g < b0→¬ S g:=fun g hgb hs=>by have:=l8 g hs;omega
 have hs1:=hd.hs.chg hc o1 o2 o3 o4 o5
 refine ⟨hD,⟨hs1.heap,hs1.plc.same (fun k hk=>?_),hs1.res,hs1.held,hs1.ne⟩,pub_ok hd hs0 hu h hlen,hb,fun o p hop=>?_,hd.tab.chg hc (hlow _ l1),fun i hi=>(World.cell?_of_block (w:=w) (hc.block _ hd.pay.size (hlow _ l2))).trans (hd.pay i hi),⟨l1,l2,l3,l4,l5,l6,l7,fun k hk=>?_⟩,⟨?_,?_,?_,?_,?_⟩,hd.hK⟩
 ·obtain ⟨e1,e2,e3⟩:=acC_dv cs ks tl dl V k
  unfold CS.cls CS.own
  rw [e1,e2]
  exact ⟨rfl,rfl⟩
 ·obtain ⟨k,i,hk,hdv,hi,ho,hpo⟩:=hd.res o p hop
  obtain ⟨e1,e2,e3⟩:=acC_dv cs ks tl dl V k
  exact ⟨k,i,hk,by rw [e1];exact hdv,by rw [e2];exact hi,by rw [e2];exact ho,hpo⟩
 ·rcases hg k hk with h' | h'
  ·exact l8 k h'
  ·omega
 all_goals
  refine hg.off ⟨?_,?_⟩
  ·omega
  ·assumption
end
end
section
open Go.RowKit Go.Maps
theorem len_sub {α:Type} [BEq α] [LawfulBEq α]:∀ (l1 l2:List α),l1.Nodup→(∀ x∈l1,x∈l2)→l1.length≤l2.length
 | [],_,_,_=>Nat.zero_le _
 | a :: t,l2,hn,h=>by
  rw [List.nodup_cons] at hn
  have ha:=h a (by simp)
  have h1:=len_sub t (l2.erase a) hn.2 (fun x hx=>(List.mem_erase_of_ne (fun e=>hn.1 (by rw [← e];exact hx))).2 (h x (by simp [hx])))
  rw [List.length_erase_of_mem ha] at h1
  have:=List.length_pos_of_mem ha
  rw [List.length_cons]
  omega
theorem sum_filterP {α:Type} (g:α→Nat):∀ (ks:List Nat),ks.Nodup→∀ l:List α,(ks.map fun k=>(l.filter fun p=>g p == k).length).sum≤l.length
 | [],_,_=>by simp
 | k :: ks,hn,l=>by
  rw [List.nodup_cons] at hn
  have h1:=sum_filterP g ks hn.2 (l.filter fun p => !(g p == k))
  have h2:∀ j∈ks,((l.filter fun p => !(g p == k)).filter fun p=>g p == j).length=(l.filter fun p=>g p == j).length:=fun j hj=>by
   rw [List.filter_filter]
   congr 1
   apply List.filter_congr
   intro p _
   by_cases e:g p=j
   ·have:g p≠k:=fun e2=>hn.1 (by rw [← e2,e];exact hj)
    simp [e]
    exact fun h=>this (by rw [e,h])
   ·simp [e]
  have h3:(ks.map fun j=>((l.filter fun p => !(g p == k)).filter fun p=>g p == j).length)=ks.map fun j=>(l.filter fun p=>g p == j).length:=List.map_congr_left h2
  rw [h3] at h1
  have h4:(l.filter fun p=>g p == k).length+(l.filter fun p => !(g p == k)).length=l.length:=by
   have:∀ l:List α,(l.filter fun p=>g p == k).length+(l.filter fun p => !(g p == k)).length=l.length:=fun l=>by
    induction l with
    | nil=>rfl
    | cons x t ih =>
     rw [List.filter_cons,List.filter_cons]
     cases (g x == k) <;> simp <;> omega
   exact this l
  rw [List.map_cons,List.sum_cons]
  omega
theorem mul_sum_le (c:Nat) (g:Nat→Nat):∀ ks:List Nat,(∀ k∈ks,c≤g k)→ks.length * c≤(ks.map g).sum
 | [],_=>by simp
 | k :: ks,h=>by
  have h1:=mul_sum_le c g ks (fun j hj=>h j (by simp [hj]))
  have h2:=h k (by simp)
  rw [List.map_cons,List.sum_cons,List.length_cons,Nat.add_mul,Nat.one_mul]
  omega
def need (a c:Nat):Nat:=if a=0 then 0 else (a - 1) / perC c+1
theorem need_mono {a b c:Nat} (h:a≤b):need a c≤need b c:=by
 unfold need
 split
 ·exact Nat.zero_le _
 ·rw [if_neg (by omega)]
  exact Nat.succ_le_succ (Nat.div_le_div_right (by omega))
def room (al:List Nat):Nat:=need (al.count 0) 0+need (al.count 1) 1+need (al.count 2) 2+need (al.count 3) 3+need (al.count 4) 4
theorem room_mono {a b:List Nat} (h:∀ c,a.count c≤b.count c):room a≤room b:=by
 have h0:=need_mono (c:=0) (h 0)
 have h1:=need_mono (c:=1) (h 1)
 have h2:=need_mono (c:=2) (h 2)
 have h3:=need_mono (c:=3) (h 3)
 have h4:=need_mono (c:=4) (h 4)
 unfold room
 omega
structure CapD (s K:Nat) (cs:Nat→CS) (f:Nat→Option Nat) (al:List Nat) (dl:Nat→List Nat) (nv:Nat→List (Nat × Nat)):Prop where
 nd:∀ c,(dl c).Nodup
 of:∀ c k,k∈dl c→k < K∧(cs k).dv=true∧(cs k).cl=c
 all:∀ k,k < K→(cs k).dv=true→(cs k).cl < 5∧k∈dl (cs k).cl
 non:∀ k i,k < K→(cs k).dv=true→i < perC (cs k).cl→¬ Vac s K cs f (cs k).cl k i→(k,i)∈nv (cs k).cl
 few:∀ c,(nv c).length≤al.count c
 chk:∀ c,dl c≠[]→((dl c).length - 1) * perC c+1≤al.count c
def Cap (s K:Nat) (cs:Nat→CS) (f:Nat→Option Nat) (al:List Nat):Prop:=∃ dl nv,CapD s K cs f al dl nv
section
variable {s K:Nat} {cs cs':Nat→CS} {f f':Nat→Option Nat} {al:List Nat}
theorem Cap.new (h:∀ k,k < K→(cs k).dv=false):Cap s K cs f [] :=
 ⟨fun _=>[],fun _=>[],{ nd:=fun _=>List.nodup_nil,of:=fun _ _ hk=>absurd hk (by simp),all:=fun k hk hd=>(by rw [h k hk] at hd;cases hd),non:=fun k _ hk hd=>(by rw [h k hk] at hd;cases hd),few:=fun _=>Nat.zero_le _,chk:=fun _ h=>absurd rfl h }⟩
theorem Cap.same (h:Cap s K cs f al) (he:∀ k,k < K→(cs' k).dv=(cs k).dv∧(cs' k).cl=(cs k).cl) (hv:∀ k i,k < K→(cs k).dv=true→i < perC (cs k).cl→Vac s K cs f (cs k).cl k i→Vac s K cs' f' (cs k).cl k i):Cap s K cs' f' al:=by
 obtain ⟨dl,nv,h⟩:=h
 refine ⟨dl,nv,h.nd,fun c k hk=>?_,fun k hk hd=>?_,fun k i hk hd hi hn=>?_,h.few,h.chk⟩
 ·obtain ⟨h1,h2,h3⟩:=h.of c k hk
  obtain ⟨e1,e2⟩:=he k h1
  exact ⟨h1,e1.trans h2,e2.trans h3⟩
 ·obtain ⟨e1,e2⟩:=he k hk
  rw [e2]
  exact h.all k hk (e1 ▸ hd)
 ·obtain ⟨e1,e2⟩:=he k hk
  rw [e2] at hi hn ⊢
  exact h.non k i hk (e1 ▸ hd) hi (fun hh=>hn (hv k i hk (e1 ▸ hd) hi hh))
theorem CapD.full {dl:Nat→List Nat} {nv:Nat→List (Nat × Nat)} (h:CapD s K cs f al dl nv) {cl:Nat} (hno:∀ k i,¬ Vac s K cs f cl k i):(dl cl).length * perC cl≤al.count cl:=by
 refine Nat.le_trans (mul_sum_le (perC cl) (fun k=>((nv cl).filter fun p=>p.1 == k).length) (dl cl) (fun k hk=>?_)) (Nat.le_trans (sum_filterP (·.1) (dl cl) (h.nd cl) (nv cl)) (h.few cl))
 obtain ⟨h1,h2,h3⟩:=h.of cl k hk
 have h4:=len_sub ((List.range (perC cl)).map fun i=>(k,i)) ((nv cl).filter fun p=>p.1 == k) (by
  rw [List.nodup_iff_pairwise_ne,List.pairwise_map]
  exact (List.nodup_iff_pairwise_ne.1 List.nodup_range).imp (fun hne e=>hne (by injection e))) (fun x hx=>by
  obtain ⟨i,hi,rfl⟩:=List.mem_map.1 hx
  have hi:=List.mem_range.1 hi
  subst h3
  exact List.mem_filter.2 ⟨h.non k i h1 h2 hi (hno k i),by simp⟩)
 simpa using h4
theorem Cap.has (h:Cap s K cs f al) {cl:Nat} (_hcl:cl < 5) (hr:room (cl :: al)≤K):(∃ k i,Vac s K cs f cl k i)∨∃ k,k < K∧(cs k).dv=false:=by
 obtain ⟨dl,nv,h⟩:=h
 by_cases h1:∃ k i,Vac s K cs f cl k i
 ·exact .inl h1
 by_cases h2:∃ k,k < K∧(cs k).dv=false
 ·exact .inr h2
 exfalso
 have hno:∀ k i,¬ Vac s K cs f cl k i:=fun k i hv=>h1 ⟨k,i,hv⟩
 have hf:=h.full hno
 have hdv:∀ k,k < K→(cs k).dv=true:=fun k hk=>by
  cases hd:(cs k).dv with
  | true=>rfl
  | false=>exact absurd ⟨k,hk,hd⟩ h2
 have hlen:=len_sub (List.range K) (dl 0++dl 1++dl 2++dl 3++dl 4) List.nodup_range (fun k hk=>by
  have hk:=List.mem_range.1 hk
  obtain ⟨c5,hm⟩:=h.all k hk (hdv k hk)
  generalize (cs k).cl=c at *
  simp only [List.mem_append]
  have:c=0∨c=1∨c=2∨c=3∨c=4:=by omega
  rcases this with rfl | rfl | rfl | rfl | rfl
  ·exact .inl (.inl (.inl (.inl hm)))
  ·exact .inl (.inl (.inl (.inr hm)))
  ·exact .inl (.inl (.inr hm))
  ·exact .inl (.inr hm)
  ·exact .inr hm)
 simp only [List.length_range,List.length_append] at hlen
 have hb:∀ c,(dl c).length+(if c=cl then 1 else 0)≤need ((cl :: al).count c) c:=fun c=>by
  have hp:=(per_le c).1
  by_cases e:c=cl
  ·subst e
   rw [if_pos rfl,List.count_cons_self]
   unfold need
   rw [if_neg (by omega),Nat.add_sub_cancel]
   exact Nat.succ_le_succ ((Nat.le_div_iff_mul_le (by omega)).2 hf)
  ·rw [if_neg e,List.count_cons_of_ne (fun h=>e h.symm),Nat.add_zero]
   by_cases hd:dl c=[]
   ·rw [hd];exact Nat.zero_le _
   ·have h3:=h.chk c hd
    have h4:=List.length_pos_iff.2 hd
    unfold need
    rw [if_neg (by omega)]
    have:=(Nat.le_div_iff_mul_le (x:=(dl c).length - 1) (y:=al.count c - 1) (k:=perC c) (by omega)).2 (by omega)
    omega
 have b0:=hb 0
 have b1:=hb 1
 have b2:=hb 2
 have b3:=hb 3
 have b4:=hb 4
 unfold room at hr
 have:cl=0∨cl=1∨cl=2∨cl=3∨cl=4:=by omega
 rcases this with rfl | rfl | rfl | rfl | rfl <;> simp only [Nat.reduceEqDiff,↓reduceIte] at b0 b1 b2 b3 b4 <;> omega
end
theorem offO_inj {s:Nat} {cs:Nat→CS} {k i k' i':Nat} (h1:i < perC (cs k).cl) (h2:i' < perC (cs k').cl) (h:offO s cs k i=offO s cs k' i'):k=k'∧i=i':=by
 have a1:=off_lt h1
 have a2:=off_lt h2
 have a3:=offB_ge (cs k).cl i
 have a4:=offB_ge (cs k').cl i'
 unfold offO blkO at h
 have hk:k=k':=by omega
 subst hk
 exact ⟨rfl,offB_inj (c:=(cs k).cl) (by omega)⟩
section
variable {a:DA} {L T s n K:Nat} {x:HA} {cs:Nat→CS} {f:Nat→Option Nat} {N m b0:Nat} {S:Fp} {cur:Nat→Nat} {w:World}
theorem Cap.alloc {cl k i v:Nat} {cs':Nat→CS} {cur':Nat→Nat} {al:List Nat} (h:Cap s K cs f al) (hd:DS a L T s n K x cs f N m b0 S cur w) (hcl:cl < 5) (ho:ResOk s K cs f cur cl cs' cur' k i):Cap s K cs' (updF f (offO s cs' k i) (some v)) (cl :: al):=by
 obtain ⟨dl,nv,h⟩:=h
 obtain ⟨v1,v2,v3,v4,v5,v6⟩:=ho.vac
 have hout:∀ k2 i2,k2 < K→(cs' k2).dv=true→i2 < perC (cs' k2).cl→¬ Vac s K cs' (updF f (offO s cs' k i) (some v)) (cs' k2).cl k2 i2→(k2,i2)=(k,i)∨¬ Vac s K cs' f (cs' k2).cl k2 i2:=fun k2 i2 hk hdv hi hn=>by
  by_cases e:offO s cs' k2 i2=offO s cs' k i
  ·obtain ⟨rfl,rfl⟩:=offO_inj hi (by rw [v3];exact v4) e
   exact .inl rfl
  ·refine .inr (fun hv=>hn ⟨hv.1,hv.2.1,hv.2.2.1,hv.2.2.2.1,hv.2.2.2.2.1,?_⟩)
   unfold updF
   rw [if_neg e]
   exact hv.2.2.2.2.2
 rcases ho.how with ⟨rfl,_⟩ | ⟨k0,hk0,hd0,hno,rfl,_⟩
 ·refine ⟨dl,fun c=>if c=cl then (k,i) :: nv c else nv c,h.nd,h.of,h.all,fun k2 i2 hk hdv hi hn=>?_,fun c=>?_,fun c hc=>Nat.le_trans (h.chk c hc) (List.count_le_count_cons)⟩
  ·rcases hout k2 i2 hk hdv hi hn with e | e
   ·injection e with e1 e2
    subst e1 e2
    rw [v3]
    simp
   ·have:=h.non k2 i2 hk hdv hi e
    by_cases e2:(cs' k2).cl=cl
    ·simp [e2] at this ⊢;exact .inr this
    ·simp [e2];exact this
  ·by_cases e:c=cl
   ·subst e
    simp [List.count_cons_self]
    exact h.few c
   ·simp [e,List.count_cons_of_ne (fun h=>e h.symm)]
    exact h.few c
 ·have e0:updC cs k0 (newC cl (cs k0).g) k0=newC cl (cs k0).g:=by unfold updC;rw [if_pos rfl]
  have e1:∀ j,j≠k0→updC cs k0 (newC cl (cs k0).g) j=cs j:=fun j hj=>by unfold updC;rw [if_neg hj]
  have hk0c:∀ c,k0 ∉ dl c:=fun c hc=>by rw [(h.of c k0 hc).2.1] at hd0;cases hd0
  have hfull:=h.full hno
  refine ⟨fun c=>if c=cl then k0 :: dl c else dl c,fun c=>if c=cl then (k,i) :: nv c else nv c,fun c=>?_,fun c j hj=>?_,fun j hj hdv=>?_,fun k2 i2 hk hdv hi hn=>?_,fun c=>?_,fun c hc=>?_⟩
  ·by_cases e:c=cl
   ·simp [e];exact ⟨hk0c cl,h.nd cl⟩
   ·simp [e];exact h.nd c
  ·by_cases ej:j=k0
   ·subst ej
    rw [e0]
    by_cases e:c=cl
    ·subst e;exact ⟨hk0,rfl,rfl⟩
    ·simp [e] at hj;exact absurd hj (hk0c c)
   ·rw [e1 j ej]
    refine h.of c j ?_
    by_cases e:c=cl
    ·subst e;simp [ej] at hj;exact hj
    ·simp [e] at hj;exact hj
  ·by_cases ej:j=k0
   ·subst ej
    rw [e0]
    exact ⟨hcl,by simp [newC]⟩
   ·rw [e1 j ej] at hdv ⊢
    obtain ⟨h1,h2⟩:=h.all j hj hdv
    refine ⟨h1,?_⟩
    by_cases e:(cs j).cl=cl
    ·simp [e] at h2 ⊢;exact .inr h2
    ·simp [e];exact h2
  ·rcases hout k2 i2 hk hdv hi hn with e | e
   ·injection e with e2 e3
    subst e2 e3
    rw [v3]
    simp
   ·by_cases ej:k2=k0
    ·subst ej
     rw [e0] at hi
     exfalso
     refine e ⟨hk,hdv,rfl,by rw [e0];exact hi,?_,claimed_vac (T':=T) (S':=S) (cur':=cur) hd hk0 hd0 i2 hi hcl⟩
     rw [e0]
     rfl
    ·have hc2:(updC cs k0 (newC cl (cs k0).g) k2).cl=(cs k2).cl:=by rw [e1 k2 ej]
     rw [hc2] at e hi ⊢
     have hnv:=h.non k2 i2 hk (by rw [← e1 k2 ej];exact hdv) hi (fun hv=>e ⟨hk,hdv,hc2,hi,by rw [e1 k2 ej];exact hv.2.2.2.2.1,by unfold offO;rw [e1 k2 ej];exact hv.2.2.2.2.2⟩)
     by_cases e2:(cs k2).cl=cl
     ·simp [e2] at hnv ⊢;exact .inr hnv
     ·simp [e2];exact hnv
  ·by_cases e:c=cl
   ·subst e
    simp [List.count_cons_self]
    exact h.few c
   ·simp [e,List.count_cons_of_ne (fun h=>e h.symm)]
    exact h.few c
  ·by_cases e:c=cl
   ·subst e
    simp [List.count_cons_self]
    exact hfull
   ·simp [e] at hc
    simp [e,List.count_cons_of_ne (fun h=>e h.symm)]
    exact h.chk c hc
end
end
end Go.Proofs.YtfkjjoglnmeciaaGreatDoor
