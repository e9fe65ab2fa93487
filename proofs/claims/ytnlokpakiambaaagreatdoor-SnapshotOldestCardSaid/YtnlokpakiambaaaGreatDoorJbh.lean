/- The walks and laws that the claim leans on, part 34. -/
import Derived.Test.YtnlokpakiambaaaGreatDoorJbe
import Derived.Test.YtnlokpakiambaaaGreatDoorJbf
set_option maxRecDepth 100000
set_option maxHeartbeats 16000000
namespace Go.Proofs.YtnlokpakiambaaaGreatDoor
open Go.Lib (hid)
section
open Go.RowKit Go.Maps
section
variable {ln cl V:Nat} {bs:Nat→BK} {take:List (Nat × Nat)} {drop:List Nat}
theorem chgW_mem {e:Nat × Nat} (h:e∈chgW ln cl bs take drop V):(∃ x∈take,e=(64 * ln+8 * offB cl x.1,(takenB (bs x.1) x.2).w))∨(∃ i∈drop,e=(64 * ln+8 * offB cl i,(freedB (bs i)).w))∨e=(64 * ln+8,V):=by
 unfold chgW tkW drW at h
 rcases List.mem_append.1 h with h | h
 ·rcases List.mem_append.1 h with h | h
  ·obtain ⟨x,hx,rfl⟩:=List.mem_map.1 h
   exact .inl ⟨x,hx,rfl⟩
  ·obtain ⟨x,hx,rfl⟩:=List.mem_map.1 h
   exact .inr (.inl ⟨x,hx,rfl⟩)
 ·exact .inr (.inr (List.mem_singleton.1 h))
theorem chgW_at (h1:∀ e∈take,e.1 < perC cl) (h2:∀ i∈drop,i < perC cl) {e:Nat × Nat} (h:e∈chgW ln cl bs take drop V):e.1 % 8=0∧hdrAt ln cl (e.1 / 8)∧e.1 / 8≠8 * ln∧64 * ln≤e.1∧e.1 < 64 * ln+2048∧(e.1 / 8=8 * ln+1∨8 * ln+8≤e.1 / 8):=by
 have hb:∀ i,i < perC cl→(64 * ln+8 * offB cl i) % 8=0∧hdrAt ln cl ((64 * ln+8 * offB cl i) / 8)∧(64 * ln+8 * offB cl i) / 8≠8 * ln∧64 * ln≤64 * ln+8 * offB cl i∧64 * ln+8 * offB cl i < 64 * ln+2048∧((64 * ln+8 * offB cl i) / 8=8 * ln+1∨8 * ln+8≤(64 * ln+8 * offB cl i) / 8):=fun i hi=>by
  have h3:=off_lt hi
  have h4:=offB_ge cl i
  refine ⟨by omega, .inr ⟨i,hi,by omega⟩,by omega,by omega,by omega, .inr (by omega)⟩
 rcases chgW_mem h with ⟨x,hx,rfl⟩ | ⟨i,hi,rfl⟩ | rfl
 ·exact hb _ (h1 x hx)
 ·exact hb _ (h2 i hi)
 ·exact ⟨by show (64 * ln+8) % 8=0;omega, .inl (by show 8 * ln≤(64 * ln+8) / 8∧(64 * ln+8) / 8 < 8 * ln+8;omega),by show (64 * ln+8) / 8≠8 * ln;omega,by show 64 * ln≤64 * ln+8;omega,by show 64 * ln+8 < _;omega, .inl (by show (64 * ln+8) / 8=_;omega)⟩
theorem chgW_nodup (hn:(take.map (·.1)++drop).Nodup):((chgW ln cl bs take drop V).map (·.1)).Nodup:=by
 unfold chgW tkW drW
 rw [List.map_append,List.map_append,List.map_map,List.map_map]
 have e:take.map ((fun x:Nat × Nat=>x.1) ∘ fun e=>(64 * ln+8 * offB cl e.1,(takenB (bs e.1) e.2).w))++drop.map ((fun x:Nat × Nat=>x.1) ∘ fun i=>(64 * ln+8 * offB cl i,(freedB (bs i)).w))=(take.map (·.1)++drop).map fun i=>64 * ln+8 * offB cl i:=by
  rw [List.map_append,List.map_map]
  rfl
 rw [e,List.nodup_append]
 refine ⟨List.pairwise_map.2 (hn.imp (fun hne e=>hne (offB_inj (c:=cl) (by omega)))),by simp,?_⟩
 intro a ha b hb e
 obtain ⟨i,_,rfl⟩:=List.mem_map.1 ha
 simp at hb
 have:=offB_ge cl i
 omega
theorem chgW_val (hV:V < 18446744073709551616) (h1:∀ e∈take,(bs e.1).In∧e.2 < 128) (h2:∀ i∈drop,(bs i).In) {e:Nat × Nat} (h:e∈chgW ln cl bs take drop V):e.2 < 18446744073709551616:=by
 rcases chgW_mem h with ⟨x,hx,rfl⟩ | ⟨i,hi,rfl⟩ | rfl
 ·exact BK.w_lt (takenB_in (h1 x hx).1 (by have:=(h1 x hx).2;omega))
 ·exact BK.w_lt (freedB_in (h2 i hi))
 ·exact hV
theorem actB_tk (hn:(take.map (·.1)++drop).Nodup) {e:Nat × Nat} (he:e∈take):actB bs take drop e.1=takenB (bs e.1) e.2:=by
 obtain ⟨n1,n2,n3⟩:=List.nodup_append.1 hn
 have h1:=foldB_out (fun i:Nat=>i) (fun i=>freedB (bs i)) e.1 drop (tkB bs take) (fun h=>by
  rw [show drop.map (fun i:Nat=>i)=drop from List.map_id' drop] at h
  exact n3 _ (List.mem_map.2 ⟨e,he,rfl⟩) _ h rfl)
 have h2:=foldB_in (fun e:Nat × Nat=>e.1) (fun e=>takenB (bs e.1) e.2) take bs n1 e he
 exact h1.trans h2
theorem actB_dr (hn:(take.map (·.1)++drop).Nodup) {i:Nat} (hi:i∈drop):actB bs take drop i=freedB (bs i):=by
 obtain ⟨n1,n2,n3⟩:=List.nodup_append.1 hn
 exact foldB_in (fun i:Nat=>i) (fun i=>freedB (bs i)) drop (tkB bs take) (by rw [show drop.map (fun i:Nat=>i)=drop from List.map_id' drop];exact n2) i hi
theorem actB_out {i:Nat} (h1:i ∉ take.map (·.1)) (h2:i ∉ drop):actB bs take drop i=bs i:=by
 have h3:=foldB_out (fun i:Nat=>i) (fun i=>freedB (bs i)) i drop (tkB bs take) (fun h=>by
  rw [show drop.map (fun i:Nat=>i)=drop from List.map_id' drop] at h
  exact h2 h)
 have h4:=foldB_out (fun e:Nat × Nat=>e.1) (fun e=>takenB (bs e.1) e.2) i take bs h1
 exact h3.trans h4
end
def lookAt (s:Nat) (cs:Nat→CS) (k i:Nat):Prop:=if (cs k).dv then hdrAt (s+32 * k) (cs k).cl i else i=8 * (s+32 * k)
structure UOk (L s0 s K:Nat) (cs:Nat→CS) (us:List (Nat × Nat)):Prop where
 off:∀ e∈us,OffOk L s0 26 e.1
 val:∀ e∈us,e.2 < 18446744073709551616
 free:∀ e∈us,∀ k,k < K→¬ lookAt s cs k (e.1 / 8)
 nd:(us.map (·.1)).Nodup
structure AOk (s K:Nat) (cs:Nat→CS) (ks:List Nat) (tl:Nat→List (Nat × Nat)) (dl:Nat→List Nat) (V:Nat→Nat):Prop where
 nd:ks.Nodup
 lt:∀ k∈ks,k < K∧(cs k).dv=true
 once:∀ k∈ks,((tl k).map (·.1)++dl k).Nodup
 tk:∀ k∈ks,∀ e∈tl k,e.1 < perC (cs k).cl∧((cs k).bs e.1).st=176∧0 < e.2∧e.2 < 128
 dr:∀ k∈ks,∀ i∈dl k,i < perC (cs k).cl∧((cs k).bs i).st=177
 bits:∀ k∈ks,Bits (V k) (cs k).cl (actB (cs k).bs (tl k) (dl k))
def acW (s:Nat) (cs:Nat→CS) (tl:Nat→List (Nat × Nat)) (dl:Nat→List Nat) (V:Nat→Nat) (k:Nat):List (Nat × Nat):=chgW (s+32 * k) (cs k).cl (cs k).bs (tl k) (dl k) (V k)
def acC (cs:Nat→CS) (ks:List Nat) (tl:Nat→List (Nat × Nat)) (dl:Nat→List Nat) (V:Nat→Nat):Nat→CS:=fun k=>if k∈ks then { cs k with V:=V k,bs:=actB (cs k).bs (tl k) (dl k) } else cs k
theorem nodup_flat {f:Nat→List (Nat × Nat)}:∀ (ks:List Nat),ks.Nodup→(∀ k∈ks,((f k).map (·.1)).Nodup)→(∀ k∈ks,∀ k'∈ks,k≠k'→∀ e∈f k,∀ e'∈f k',e.1≠e'.1)→((ks.flatMap f).map (·.1)).Nodup
 | [],_,_,_=>by simp
 | k :: ks,hn,h1,h2=>by
  rw [List.nodup_cons] at hn
  rw [List.flatMap_cons,List.map_append,List.nodup_append]
  refine ⟨h1 k (by simp),nodup_flat ks hn.2 (fun k' hk'=>h1 k' (by simp [hk'])) (fun a ha b hb=>h2 a (by simp [ha]) b (by simp [hb])),?_⟩
  intro x hx y hy e
  obtain ⟨e1,he1,rfl⟩:=List.mem_map.1 hx
  obtain ⟨e2,he2,rfl⟩:=List.mem_map.1 hy
  obtain ⟨k',hk',he2⟩:=List.mem_flatMap.1 he2
  exact h2 k (by simp) k' (by simp [hk']) (fun e=>hn.1 (e ▸ hk')) e1 he1 e2 he2 e
theorem diff_of_nodup {ws:List (Nat × Nat)} (h:(ws.map (·.1)).Nodup):Diff ws:=fun i j hi hj hne e=>by
 have hp:ws.Pairwise fun p q=>p.1≠q.1:=List.pairwise_map.1 h
 have h1:=List.pairwise_iff_getElem.1 hp
 rcases Nat.lt_or_ge i j with hij | hij
 ·exact h1 i j hi hj hij e
 ·exact h1 j i hj hi (by omega) e.symm
section
variable {a:DA} {L T s n K:Nat} {x:HA} {cs:Nat→CS} {f:Nat→Option Nat} {N m b0:Nat} {S:Fp} {cur:Nat→Nat} {w w':World} {s0:Nat} {us:List (Nat × Nat)} {ks:List Nat} {tl:Nat→List (Nat × Nat)} {dl:Nat→List Nat} {V:Nat→Nat}
theorem AOk.at_ (h:AOk s K cs ks tl dl V) {k:Nat} (hk:k∈ks) {e:Nat × Nat} (he:e∈acW s cs tl dl V k):e.1 % 8=0∧hdrAt (s+32 * k) (cs k).cl (e.1 / 8)∧e.1 / 8≠8 * (s+32 * k)∧64 * (s+32 * k)≤e.1∧e.1 < 64 * (s+32 * k)+2048∧(e.1 / 8=8 * (s+32 * k)+1∨8 * (s+32 * k)+8≤e.1 / 8) :=
 chgW_at (fun e he=>(h.tk k hk e he).1) (fun i hi=>(h.dr k hk i hi).1) he
theorem AOk.mem (_h:AOk s K cs ks tl dl V) {e:Nat × Nat} (he:e∈ks.flatMap (acW s cs tl dl V)):∃ k∈ks,e∈acW s cs tl dl V k:=by
 obtain ⟨k,hk,hk2⟩:=List.mem_flatMap.1 he
 exact ⟨k,hk,hk2⟩
theorem pub_nodup (hu:UOk L s0 s K cs us) (h:AOk s K cs ks tl dl V):((us++ks.flatMap (acW s cs tl dl V)).map (·.1)).Nodup:=by
 rw [List.map_append,List.nodup_append]
 refine ⟨hu.nd,nodup_flat ks h.nd (fun k hk=>chgW_nodup (h.once k hk)) ?_,?_⟩
 ·intro k hk k' hk' hne e he e' he' heq
  have h1:=h.at_ hk he
  have h2:=h.at_ hk' he'
  omega
 ·intro y hy z hz e
  obtain ⟨e1,he1,rfl⟩:=List.mem_map.1 hy
  obtain ⟨e2,he2,rfl⟩:=List.mem_map.1 hz
  obtain ⟨k,hk,hk2⟩:=h.mem he2
  have h1:=(h.at_ hk hk2).2.1
  refine hu.free e1 he1 k (h.lt k hk).1 ?_
  unfold lookAt
  rw [(h.lt k hk).2,if_pos rfl,e]
  exact h1
theorem pub_off (hd:DS a L T s n K x cs f N m b0 S cur w) (hs0:s0+26≤s) (hu:UOk L s0 s K cs us) (h:AOk s K cs ks tl dl V):∀ e∈us++ks.flatMap (acW s cs tl dl V),OffOk L s0 26 e.1:=fun e he=>by
 rcases List.mem_append.1 he with he | he
 ·exact hu.off e he
 ·obtain ⟨k,hk,hk2⟩:=h.mem he
  obtain ⟨h1,_,_,h4,h5,_⟩:=h.at_ hk hk2
  have hl:=hd.line (h.lt k hk).1
  exact ⟨h1,by omega, .inr (by omega)⟩
theorem pub_val (hd:DS a L T s n K x cs f N m b0 S cur w) (hu:UOk L s0 s K cs us) (h:AOk s K cs ks tl dl V):∀ e∈us++ks.flatMap (acW s cs tl dl V),e.2 < 18446744073709551616:=fun e he=>by
 rcases List.mem_append.1 he with he | he
 ·exact hu.val e he
 ·obtain ⟨k,hk,hk2⟩:=h.mem he
  have hC:=hd.chw (h.lt k hk).1 (h.lt k hk).2
  exact chgW_val (h.bits k hk).lt (fun e he=>⟨hC.inn _ (h.tk k hk e he).1,(h.tk k hk e he).2.2.2⟩) (fun i hi=>hC.inn _ (h.dr k hk i hi).1) hk2
theorem pub_rest {cm:Nat} (_hd:DS a L T s n K x cs f N m b0 S cur w) (_hs0:s0+26≤s) (h:AOk s K cs ks tl dl V) (hlen:(us++ks.flatMap (acW s cs tl dl V)).length≤96) {i:Nat} (hi:i < 8 * s0∨8 * s0+208≤i) (h1:∀ e∈us,e.1 / 8≠i) (h2:∀ k∈ks,∀ e∈acW s cs tl dl V k,e.1 / 8≠i) :
  rdG s0 cur (us++ks.flatMap (acW s cs tl dl V)) cm i=cur i:=by
 refine rdG_rest hlen hi (fun e he=>?_)
 rcases List.mem_append.1 he with he | he
 ·exact h1 e he
 ·obtain ⟨k,hk,hk2⟩:=h.mem he
  exact h2 k hk e hk2
theorem pub_pay {cm k i j:Nat} (hd:DS a L T s n K x cs f N m b0 S cur w) (hs0:s0+26≤s) (h:AOk s K cs ks tl dl V) (hlen:(us++ks.flatMap (acW s cs tl dl V)).length≤96) (hk:k < K) (hdv:(cs k).dv=true) (hi:i < perC (cs k).cl) (hj:j < payW (cs k).cl) (h1:∀ e∈us,e.1 / 8≠8 * (s+32 * k)+offB (cs k).cl i+1+j) :
  rdG s0 cur (us++ks.flatMap (acW s cs tl dl V)) cm (8 * (s+32 * k)+offB (cs k).cl i+1+j)=cur (8 * (s+32 * k)+offB (cs k).cl i+1+j):=by
 obtain ⟨p1,p2,p3,p4⟩:=pay_word (ln:=s+32 * k) hi hj
 refine pub_rest hd hs0 h hlen (.inr (by omega)) h1 (fun k' hk' e he heq=>?_)
 obtain ⟨q1,q2,q3,q4,q5,_⟩:=h.at_ hk' he
 by_cases e1:k'=k
 ·subst e1
  rw [heq] at q2
  exact p4 q2
 ·omega
theorem pub_ok {cm:Nat} (hd:DS a L T s n K x cs f N m b0 S cur w) (hs0:s0+26≤s) (hu:UOk L s0 s K cs us) (h:AOk s K cs ks tl dl V) (hlen:(us++ks.flatMap (acW s cs tl dl V)).length≤96) :
  ∀ k,k < K→CSok (rdG s0 cur (us++ks.flatMap (acW s cs tl dl V)) cm) (s+32 * k) (acC cs ks tl dl V k):=fun k hk=>by
 have hno:∀ i,8 * (s+32 * k)≤i→i < 8 * (s+32 * k)+256→lookAt s cs k i→(∀ e∈us,e.1 / 8≠i):=fun i _ _ hl e he heq=>hu.free e he k hk (heq ▸ hl)
 unfold acC
 by_cases hks:k∈ks
 ·rw [if_pos hks]
  have hdv:=(h.lt k hks).2
  have hC:=hd.chw hk hdv
  have hlk:∀ i,hdrAt (s+32 * k) (cs k).cl i→lookAt s cs k i:=fun i hi=>by unfold lookAt;rw [hdv,if_pos rfl];exact hi
  have hget:∀ e∈acW s cs tl dl V k,rdG s0 cur (us++ks.flatMap (acW s cs tl dl V)) cm (e.1 / 8)=e.2:=fun e he=>rdG_get (pub_off hd hs0 hu h) (pub_nodup hu h) (List.mem_append.2 (.inr (List.mem_flatMap.2 ⟨k,hks,he⟩)))
  have hrest:∀ i,hdrAt (s+32 * k) (cs k).cl i→(∀ e∈acW s cs tl dl V k,e.1 / 8≠i)→rdG s0 cur (us++ks.flatMap (acW s cs tl dl V)) cm i=cur i:=fun i hi hne=>by
   have hin:=hdrAt_in hi
   refine pub_rest hd hs0 h hlen (.inr (by omega)) (hno i (by omega) (by omega) (hlk i hi)) (fun k' hk' e he=>?_)
   by_cases e1:k'=k
   ·subst e1;exact hne e he
   ·obtain ⟨q1,q2,q3,q4,q5,_⟩:=h.at_ hk' he
    omega
  unfold CSok
  show if (cs k).dv=true then _ else _
  rw [if_pos hdv]
  have hon:=h.once k hks
  refine ⟨?_,hC.cls,hC.g0,hC.g1,?_,(h.bits k hks).lt,?_,?_,?_,?_,(h.bits k hks).bit⟩
  ·exact (hrest _ (.inl ⟨by omega,by omega⟩) (fun e he=>by have:=h.at_ hks he;omega)).trans hC.hdr
  ·have h1:=hget (64 * (s+32 * k)+8,V k) (by unfold acW chgW;simp)
   have e:(64 * (s+32 * k)+8) / 8=8 * (s+32 * k)+1:=by omega
   rw [← e]
   exact h1
  ·intro j h2 h8
   exact (hrest _ (.inl ⟨by omega,by omega⟩) (fun e he=>by have:=h.at_ hks he;omega)).trans (hC.zero j h2 h8)
  ·intro i hi
   show (actB (cs k).bs (tl k) (dl k) i).In
   by_cases h1:i∈(tl k).map (·.1)
   ·obtain ⟨e,he,rfl⟩:=List.mem_map.1 h1
    rw [actB_tk hon he]
    exact takenB_in (hC.inn _ hi) (by have:=(h.tk k hks e he).2.2.2;omega)
   ·by_cases h2:i∈dl k
    ·rw [actB_dr hon h2]
     exact freedB_in (hC.inn _ hi)
    ·rw [actB_out h1 h2]
     exact hC.inn _ hi
  ·intro i hi
   show (actB (cs k).bs (tl k) (dl k) i).good=true
   by_cases h1:i∈(tl k).map (·.1)
   ·obtain ⟨e,he,rfl⟩:=List.mem_map.1 h1
    obtain ⟨_,t2,t3,t4⟩:=h.tk k hks e he
    rw [actB_tk hon he]
    exact takenB_good (hC.good _ hi) t2 t3 t4
   ·by_cases h2:i∈dl k
    ·rw [actB_dr hon h2]
     exact freedB_good _
    ·rw [actB_out h1 h2]
     exact hC.good _ hi
  ·intro i hi
   show _=(actB (cs k).bs (tl k) (dl k) i).w
   have e0:(64 * (s+32 * k)+8 * offB (cs k).cl i) / 8=8 * (s+32 * k)+offB (cs k).cl i:=by omega
   by_cases h1:i∈(tl k).map (·.1)
   ·obtain ⟨e,he,rfl⟩:=List.mem_map.1 h1
    rw [actB_tk hon he,← e0]
    exact hget _ (by
     unfold acW chgW tkW
     exact List.mem_append.2 (.inl (List.mem_append.2 (.inl (List.mem_map.2 ⟨e,he,rfl⟩)))))
   ·by_cases h2:i∈dl k
    ·rw [actB_dr hon h2,← e0]
     exact hget _ (by
      unfold acW chgW drW
      exact List.mem_append.2 (.inl (List.mem_append.2 (.inr (List.mem_map.2 ⟨i,h2,rfl⟩)))))
    ·rw [actB_out h1 h2]
     refine (hrest _ (.inr ⟨i,hi,rfl⟩) (fun e he heq=>?_)).trans (hC.word i hi)
     have h8:=offB_ge (cs k).cl i
     unfold acW at he
     rcases chgW_mem he with ⟨y,hy,rfl⟩ | ⟨i',hi',rfl⟩ | rfl
     ·have:offB (cs k).cl y.1=offB (cs k).cl i:=by
       have:(64 * (s+32 * k)+8 * offB (cs k).cl y.1) / 8=8 * (s+32 * k)+offB (cs k).cl i:=heq
       omega
      exact h1 (List.mem_map.2 ⟨y,hy,offB_inj this⟩)
     ·have:offB (cs k).cl i'=offB (cs k).cl i:=by
       have:(64 * (s+32 * k)+8 * offB (cs k).cl i') / 8=8 * (s+32 * k)+offB (cs k).cl i:=heq
       omega
      exact h2 (offB_inj this ▸ hi')
     ·have:(64 * (s+32 * k)+8) / 8=8 * (s+32 * k)+offB (cs k).cl i:=heq
      omega
 ·rw [if_neg hks]
  have hfar:∀ i,8 * (s+32 * k)≤i→i < 8 * (s+32 * k)+256→∀ k'∈ks,∀ e∈acW s cs tl dl V k',e.1 / 8≠i:=fun i h1 h2 k' hk' e he heq=>by
   obtain ⟨q1,q2,q3,q4,q5,_⟩:=h.at_ hk' he
   have:k'≠k:=fun e=>hks (e ▸ hk')
   omega
  have hok:=hd.ok k hk
  cases hdv:(cs k).dv with
  | true =>
   refine hok.same (fun i h1 h2 h3=>?_)
   have hl:lookAt s cs k i:=by unfold lookAt;rw [hdv,if_pos rfl];exact h3 hdv
   exact pub_rest hd hs0 h hlen (.inr (by omega)) (hno i h1 h2 hl) (hfar i h1 h2)
  | false =>
   unfold CSok at hok ⊢
   rw [hdv] at hok ⊢
   simp only [Bool.false_eq_true,if_false] at hok ⊢
   obtain ⟨o1,o2⟩:=hok
   have hl:lookAt s cs k (8 * (s+32 * k)):=by unfold lookAt;rw [hdv];simp
   exact ⟨(pub_rest hd hs0 h hlen (.inr (by omega)) (hno _ (by omega) (by omega) hl) (hfar _ (by omega) (by omega))).trans o1,o2⟩
theorem acC_dv (cs:Nat→CS) (ks:List Nat) (tl:Nat→List (Nat × Nat)) (dl:Nat→List Nat) (V:Nat→Nat) (k:Nat):(acC cs ks tl dl V k).dv=(cs k).dv∧(acC cs ks tl dl V k).cl=(cs k).cl∧(acC cs ks tl dl V k).g=(cs k).g:=by
 unfold acC
 split <;> exact ⟨rfl,rfl,rfl⟩
theorem Plc.same {p:PA} {cs cs':Nat→CS} (h:Plc a s K p cs w) (he:∀ k,k < K→(cs' k).cls=(cs k).cls∧(cs' k).own=(cs k).own):Plc a s K p cs' w:=by
 obtain ⟨h1,pcs,hp,hk⟩:=h
 refine ⟨h1,pcs,hp,fun k hkK=>?_⟩
 obtain ⟨q1,q2,q3,q4⟩:=hk k hkK
 obtain ⟨e1,e2⟩:=he k hkK
 exact ⟨q1,by rw [e1];exact q2,by rw [e2];exact q3,q4⟩
theorem DS.pub {cm T':Nat} {S':Fp} (hd:DS a L T s n K x cs f N m b0 S cur w) (hs0:s0+26≤s) (hu:UOk L s0 s K cs us) (h:AOk s K cs ks tl dl V) (hlen:(us++ks.flatMap (acW s cs tl dl V)).length≤96) (hcm:cm < 18446744073709551616)
  (hD:Dev a L T' w' S' (rdG s0 cur (us++ks.flatMap (acW s cs tl dl V)) cm) 0) (hc:Chg S w w') (hg:Grew S S' w) :
  DS a L T' s n K x (acC cs ks tl dl V) f N m b0 S' (rdG s0 cur (us++ks.flatMap (acW s cs tl dl V)) cm) w':=by
 have hb:∀ i,rdG s0 cur (us++ks.flatMap (acW s cs tl dl V)) cm i < 18446744073709551616:=rdG_bnd hd.bnd (fun e he=>⟨by have h1:=(pub_off hd hs0 hu h e he).lt;have:=hd.hL;omega,pub_val hd hu h e he⟩) hcm
 obtain ⟨o1,o2,o3,o4,o5⟩:=hd.off
 obtain ⟨l1,l2,l3,l4,l5,l6,l7,l8⟩:=hd.lo
 obtain ⟨z1,z2,z3,z4,z5⟩:=hd.hs.lt
 have hlow:∀ g,g < b0→¬ S g:=fun g hgb hs=>by have:=l8 g hs;omega
 have hs1:=hd.hs.chg hc o1 o2 o3 o4 o5
 refine ⟨hD,⟨hs1.heap,hs1.plc.same (fun k hk=>?_),hs1.res,hs1.held,hs1.ne⟩,pub_ok hd hs0 hu h hlen,hb,fun o p hop=>?_,hd.tab.chg hc (hlow _ l1),fun i hi=>(World.cell?_of_block (w:=w) (hc.block _ hd.pay.size (hlow _ l2))).trans (hd.pay i hi),⟨l1,l2,l3,l4,l5,l6,l7,fun k hk=>?_⟩,⟨?_,?_,?_,?_,?_⟩,hd.hK⟩
 ·obtain ⟨e1,e2,e3⟩:=acC_dv cs ks tl dl V k
  unfold CS.cls CS.own
  rw [e1,e2]
  exact ⟨rfl,rfl⟩
 ·obtain ⟨k,i,hk,hdv,hi,ho,hpo⟩:=hd.res o p hop
  obtain ⟨e1,e2,e3⟩:=acC_dv cs ks tl dl V k
  exact ⟨k,i,hk,by rw [e1];exact hdv,by rw [e2];exact hi,by rw [e2];exact ho,hpo⟩
 ·rcases hg k hk with h' | h'
  ·exact l8 k h'
  ·omega
 all_goals
  refine hg.off ⟨?_,?_⟩
  ·omega
  ·assumption
end
end
section
open Go.RowKit Go.Maps
theorem arC_at (cur:Nat→Nat) (s:Nat):∀ K,(∀ k,k < K→arC cur s K (8 * (s+32 * k))=freeW 1)∧(∀ i,i < 8 * s→arC cur s K i=cur i)
 | 0=>⟨fun k hk=>absurd hk (Nat.not_lt_zero k),fun _ _=>rfl⟩
 | K+1=>by
  obtain ⟨h1,h2⟩:=arC_at cur s K
  have e:∀ i,arC cur s (K+1) i=if i=8 * (s+32 * K) then freeW 1 else arC cur s K i:=fun i=>by
   show wrS (arC cur s K) [(64 * (s+32 * K),freeW 1)] i=_
   rw [wrS_oneG,show 64 * (s+32 * K) / 8=8 * (s+32 * K) by omega]
  refine ⟨fun k hk=>?_,fun i hi=>?_⟩
  ·rw [e]
   by_cases h:k=K
   ·subst h;rw [if_pos rfl]
   ·rw [if_neg (by omega)];exact h1 k (by omega)
  ·rw [e,if_neg (by omega)]
   exact h2 i hi
theorem arC_bnd (cur:Nat→Nat) (s:Nat) (hc:∀ i,cur i < 18446744073709551616):∀ K i,arC cur s K i < 18446744073709551616
 | 0,i=>hc i
 | K+1,i=>by
  show wrS (arC cur s K) [(64 * (s+32 * K),freeW 1)] i < _
  rw [wrS_oneG]
  have h1:=freeW_lt 1 (by omega)
  have h2:=arC_bnd cur s hc K i
  split <;> omega
def curB (K:Nat):Nat→Nat:=arC (wrS (fun _=>0) [(64 * 0,0)]) 53 K
theorem curB_ok (K:Nat):Empt K (curB K):=by
 obtain ⟨h1,h2⟩:=arC_at (wrS (fun _=>0) [(64 * 0,0)]) 53 K
 have h0:∀ i,wrS (fun _=>0) [(64 * 0,0)] i=0:=fun i=>by rw [wrS_oneG];split <;> rfl
 refine ⟨?_,?_,h1,arC_bnd _ 53 (fun i=>by rw [h0];omega) K⟩
 ·exact (h2 _ (by omega)).trans (h0 _)
 ·exact (h2 _ (by omega)).trans (h0 _)
def RetBeg (K:Nat) (w:World) (e:Ending) (w':World):Prop:=∃ a T x y S,e = .returned (.pointer (some ⟨y.g,0,none⟩))∧BW a (53+32 * K) T K x y (fun _=>csN) (fun _=>none) 0 0 w.heap.size S (curB K) w'∧T≤100∧Below w.heap.size w w'
theorem wrapK (K:Nat) (_h:K≤12):((53+32 * K:Nat):Int)=53+32 * (K:Int)∧((32 * K:Nat):Int)=32 * (K:Int):=by omega
theorem beginB_any (K:Nat) (hK:1≤K) (hK12:K≤12) (w:World) (ht:Tab w) (hpy:Pay w):Calls Tryz.prog 51 #[.int .i64 (K:Int)] w (RetBeg K w):=by
 have HT:=hid ht
 have HPy:=hid hpy
 have HN:=hid (new_any (53+32 * K) (by omega) (by omega) w)
 have HK:=hid (And.intro hK hK12)
 have HLow:=hid (show 2 < w.heap.size∧0 < w.heap.size from ⟨ht.size,hpy.size⟩)
 rw [(wrapK K hK12).1] at HN
 clear ht hpy
 go_enter Tryz.func51,Tryz.ntmps51
 go_wp2_with fail
 refine HN.out.mono ?_
 rintro e w1 ⟨a,S1,rfl,hd1,hS1,hb1⟩
 have HH:=hid (fun W (hW:Below w1.heap.size w1 W)=>thread_any (hd1.below hW))
 have HR:=hid (redoFormat_any hd1 0 26 (by omega) (by omega) (by omega))
 have HS1:=hid hS1
 have HB1:=hid hb1
 clear hd1 hS1 hb1 HN
 unfold memV at HR
 have HRf:Hid (Calls Tryz.prog 101 #[.iface 41 (.pointer (some ⟨a.th 0,0,none⟩)), .int .i64 0, .int .i64 26] w1 fun e w'=>∃ S2,e = .returned (.int .i64 0)∧Dev a (53+32 * K) 3 w' S2 (wrS (fun _=>0) [(64 * 0,0)]) 0∧(∀ k,S2 k→w.heap.size≤k)∧Below w.heap.size w w'):=hid (HR.out.mono (fun e w' h=>by
  obtain ⟨he,S2,hd,hc,hg⟩:=h
  refine ⟨S2,he,hd,fun k hk=>(hg k hk).elim (HS1.out k) (fun h=>Nat.le_trans HB1.out.size h),HB1.out.trans (hc.toBelow HB1.out.size HS1.out)⟩))
 clear HR
 go_wp2_with (first
  | (go_at_call 100;refine (HH.out _ (Below.refl _ _)).mono ?_;rintro e Wz ⟨rfl,rfl⟩)
  | (go_at_call 101;refine HRf.out.mono ?_;rintro e w2 ⟨S2,rfl,hd2,hS2,hb2⟩;refine stop ?_))
 unfold Stop
 have HH2:=hid (thread_any hd2)
 have HS2:=hid hS2
 have HB2:=hid hb2
 have hK9:=HK.out
 have HAf:=hid (heapFormat_any hd2 (HT.out.below hb2) (fun h=>by have:=hS2 _ h;have:=HLow.out.1;omega) 53 (32 * K) K (by omega) (by omega) (by omega) (by omega))
 have HAf2:Hid (Calls Tryz.prog 102 #[.iface 41 (.pointer (some ⟨a.th 0,0,none⟩)), .int .i64 53, .int .i64 (32 * (K:Int))] w2 fun e w'=>∃ S3,e = .returned (.int .i64 0)∧Dev a (53+32 * K) (3+3 * K) w' S3 (curB K) 0∧(∀ k,S3 k→w.heap.size≤k)∧Below w.heap.size w w'):=hid (by
  rw [← (wrapK K hK9.2).2]
  refine HAf.out.mono (fun e w' h=>?_)
  obtain ⟨he,S3,hd,hc,hg⟩:=h
  exact ⟨S3,he,hd,fun k hk=>(hg k hk).elim (HS2.out k) (fun h=>Nat.le_trans HB2.out.size h),HB2.out.trans (hc.toBelow HB2.out.size HS2.out)⟩)
 have hk0:(K:Int)≤12:=by omega
 have hk1:(1:Int)≤(K:Int):=by omega
 clear hd2 hS2 hb2 HAf HH HRf HS1 HB1
 go_wp2_with (first
  | (go_at_call 100;refine HH2.out.mono ?_;rintro e Wz ⟨rfl,rfl⟩)
  | (go_at_call 102;refine HAf2.out.mono ?_;rintro e w3 ⟨S3,rfl,hd3,hS3,hb3⟩;refine stop ?_))
 unfold Stop
 have HOp:=hid (bopen_any (b0:=w.heap.size) hd3 rfl hK9.1 hK9.2 (HT.out.below hb3) (HPy.out.below hb3) (curB_ok K) ⟨HLow.out.1,HLow.out.2,hb3.size,hS3⟩)
 have HB3:=hid hb3
 clear hd3 hS3 hb3 HAf2 HH2 HS2 HB2
 go_wp2_with (go_at_call 103;refine HOp.out.mono ?_;rintro e w4 ⟨x,y,rfl,hbw,hb4⟩;have HBw:=hid hbw;have HB4:=hid (HB3.out.trans (hb4.mono HB3.out.size));clear hbw hb4)
 go_ret
 exact ⟨a,_,x,y,S3,rfl,HBw.out,by have:=HK.out.2;omega,HB4.out⟩
end
section
open Go.RowKit Go.Maps
def At (s K:Nat) (cs:Nat→CS) (q k i:Nat):Prop:=k < K∧(cs k).dv=true∧i < perC (cs k).cl∧pOff q=offO s cs k i
structure Fr (s K:Nat) (cs:Nat→CS) (f:Nat→Option Nat) (cur:Nat→Nat) (cs':Nat→CS) (f':Nat→Option Nat) (cur':Nat→Nat):Prop where
 head:∀ i,i < 8 * s→cur' i=cur i
 chunk:∀ k,k < K→(cs k).dv=true→cs' k=cs k
 map:∀ o,f o≠none→f' o=f o
 held:∀ k i,k < K→(cs k).dv=true→i < perC (cs k).cl→¬ Vac s K cs f (cs k).cl k i→∀ j,j < payW (cs k).cl→cur' (8 * (s+32 * k)+offB (cs k).cl i+1+j)=cur (8 * (s+32 * k)+offB (cs k).cl i+1+j)
section
variable {s K:Nat} {cs cs' cs2:Nat→CS} {f f' f2:Nat→Option Nat} {cur cur' cur2:Nat→Nat}
theorem At.lines {q k i:Nat} (h:At s K cs q k i):pOff q / 8=8 * (s+32 * k)+offB (cs k).cl i+1∧pOff q % 8=0:=by
 obtain ⟨_,_,_,h4⟩:=h
 unfold offO blkO at h4
 omega
theorem pay_apart {k i k' i' j j':Nat} (hi:i < perC (cs k).cl) (hi':i' < perC (cs k').cl) (hj:j < payW (cs k).cl) (hj':j' < payW (cs k').cl) (hne:¬ (k=k'∧i=i')):8 * (s+32 * k)+offB (cs k).cl i+1+j≠8 * (s+32 * k')+offB (cs k').cl i'+1+j':=fun e=>by
 have a1:=off_lt hi
 have a2:=off_lt hi'
 have a3:=offB_ge (cs k).cl i
 have a4:=offB_ge (cs k').cl i'
 have hk:k=k':=by omega
 subst hk
 have hii:i≠i':=fun h=>hne ⟨rfl,h⟩
 unfold offB at e
 rcases Nat.lt_or_gt_of_ne hii with h | h
 ·have:(i+1) * (payW (cs k).cl+1)≤i' * (payW (cs k).cl+1):=Nat.mul_le_mul_right _ h
  rw [Nat.add_mul,Nat.one_mul] at this
  omega
 ·have:(i'+1) * (payW (cs k).cl+1)≤i * (payW (cs k).cl+1):=Nat.mul_le_mul_right _ h
  rw [Nat.add_mul,Nat.one_mul] at this
  omega
def FreshB (s K:Nat) (cs:Nat→CS) (f:Nat→Option Nat) (q:Nat):Prop:=∀ k i,At s K cs q k i→Vac s K cs f (cs k).cl k i
def InC (s K:Nat) (cs:Nat→CS) (q cl:Nat):Prop:=∃ k i,At s K cs q k i∧(cs k).cl=cl∧((cs k).bs i).gen=pGen q
structure Rq (s K:Nat) (cs:Nat→CS) (f:Nat→Option Nat) (kind q cl:Nat):Prop where
 keep:KeepOk s K cs f q
 cls:InC s K cs q cl
 kind_:pKind q=kind
 top:q / 72057594037927936=0
end
section
variable {a:DA} {L T s n K:Nat} {x:HA} {cs:Nat→CS} {f:Nat→Option Nat} {N m b0:Nat} {S:Fp} {cur:Nat→Nat} {w:World}
theorem Fr.alloc {cl k i v:Nat} {cs':Nat→CS} {cur':Nat→Nat} (hd:DS a L T s n K x cs f N m b0 S cur w) (hcl:cl < 5) (ho:ResOk s K cs f cur cl cs' cur' k i):Fr s K cs f cur cs' (updF f (offO s cs' k i) (some v)) cur':=by
 obtain ⟨v1,v2,v3,v4,v5,v6⟩:=ho.vac
 have hmap:∀ o,f o≠none→updF f (offO s cs' k i) (some v) o=f o:=fun o h=>by
  unfold updF
  rw [if_neg (fun e=>h (by rw [e];exact v6))]
 have hz:∀ (c:Nat→Nat) (n:Nat),(∀ j,j < payW cl→n≠8 * (s+32 * k)+offB cl i+1+j)→wrS c (zerW (offO s cs' k i) (payW cl)) n=c n:=fun c n hn=>wrS_other _ _ _ (fun e he=>by
  obtain ⟨q,hq,rfl⟩:=zerW_mem he
  have:offO s cs' k i=blkO (s+32 * k) cl i:=by unfold offO;rw [v3]
  show (offO s cs' k i+8 * q) / 8≠n
  rw [this]
  have:=hn q hq
  unfold blkO
  omega)
 rcases ho.how with ⟨rfl,hc⟩ | ⟨k0,hk0,hd0,hno,rfl,hc⟩
 ·refine ⟨fun j hj=>?_,fun _ _ _=>rfl,hmap,fun k2 i2 hk hdv hi hn j hj=>?_⟩
  ·rw [hc];exact hz _ _ (fun q hq=>by omega)
  ·rw [hc]
   refine hz _ _ (fun q hq=>?_)
   rw [← v3] at hq ⊢
   refine pay_apart hi (by rw [v3];exact v4) hj hq (fun ⟨e1,e2⟩=>?_)
   subst e1 e2
   exact hn ⟨v1,v2,rfl,by rw [v3];exact v4,v5,v6⟩
 ·have hok:=hd.ok k0 hk0
  unfold CSok at hok
  rw [hd0] at hok
  have e1:∀ j,j≠k0→updC cs k0 (newC cl (cs k0).g) j=cs j:=fun j hj=>by unfold updC;rw [if_neg hj]
  have hne:∀ j,(cs j).dv=true→j≠k0:=fun j hj e=>by rw [e,hd0] at hj;cases hj
  refine ⟨fun j hj=>?_,fun k2 hk hdv=>e1 k2 (hne k2 hdv),hmap,fun k2 i2 hk hdv hi hn j hj=>?_⟩
  ·rw [hc,hz _ _ (fun q hq=>by omega)]
   exact fmtR_out hcl hok.2.2 (.inl (by omega))
  ·have hk2:=hne k2 hdv
   have a1:=off_lt hi
   have a2:=offB_ge (cs k2).cl i2
   rw [hc,hz _ _ (fun q hq=>?_)]
   ·exact fmtR_out hcl hok.2.2 (by omega)
   ·have e2:=e1 k2 hk2
    have hq':q < payW (updC cs k0 (newC cl (cs k0).g) k).cl:=by rw [v3];exact hq
    have h4:=pay_apart (s:=s) (cs:=updC cs k0 (newC cl (cs k0).g)) (k:=k2) (i:=i2) (k':=k) (i':=i) (j:=j) (j':=q) (by rw [e2];exact hi) (by rw [v3];exact v4) (by rw [e2];exact hj) hq' (fun ⟨q1,q2⟩=>by
     subst q1 q2
     exact hn ⟨hk,hdv,rfl,hi,by rw [← e2];exact v5,by unfold offO;rw [← e2];exact v6⟩)
    rw [e2,v3] at h4
    exact h4
theorem Rq.new {cl k i kind T' N' m':Nat} {cs':Nat→CS} {cur':Nat→Nat} {f':Nat→Option Nat} {S':Fp} {w':World} (hd:DS a L T' s n K x cs' f' N' m' b0 S' cur' w') (hk:0 < kind∧kind < 128) (ho:ResOk s K cs f cur cl cs' cur' k i) (hf:f'=updF f (offO s cs' k i) (some (fptr s cs' kind k i))) :
  Rq s K cs' f' kind (fptr s cs' kind k i) cl∧At s K cs' (fptr s cs' kind k i) k i:=by
 obtain ⟨v1,v2,v3,v4,v5,v6⟩:=ho.vac
 have hC:=hd.chw v1 v2
 have hL:=hd.hL
 have hln:=hd.line v1
 have hi:i < perC (cs' k).cl:=by rw [v3];exact v4
 have hol:=off_lt hi
 have hin:=(hC.inn i hi).g
 have hgood:=hC.good i hi
 have hg0:0 < ((cs' k).bs i).gen:=by unfold BK.good at hgood;rw [if_pos v5] at hgood;simp at hgood;omega
 have hO:offO s cs' k i < 34359738368∧offO s cs' k i % 8=0:=by unfold offO blkO;omega
 have hp:pOff (fptr s cs' kind k i)=offO s cs' k i:=pMk_off hO.2 hO.1
 have hat:At s K cs' (fptr s cs' kind k i) k i:=⟨v1,v2,hi,hp⟩
 have hkk:pKind (fptr s cs' kind k i)=kind:=pMk_kind hO.1 hin (by omega)
 refine ⟨⟨⟨⟨k,i,v1,v2,hi,hp,v5⟩,?_,by rw [hkk];exact hk,pMk_ne hg0,(pMk_lt hO.1 hin hk.2).1⟩,⟨k,i,hat,v3,(pMk_gen hO.1 hin).symm⟩,hkk,(pMk_lt hO.1 hin hk.2).2⟩,hat⟩
 rw [hf,hp]
 unfold updF
 rw [if_pos rfl]
end
def alW (n:Nat) (al:List Nat):Nat→List Nat
 | 0=>al
 | j+1=>clsOf (bSize (n - 456 * j)) :: alW n al j
structure W1 (s K:Nat) (cs0:Nat→CS) (f0:Nat→Option Nat) (cur0:Nat→Nat) (al:List Nat) (n:Nat) (cs:Nat→CS) (f:Nat→Option Nat) (cur:Nat→Nat) (bl:List Nat):Prop where
 fr:Fr s K cs0 f0 cur0 cs f cur
 cap:Cap s K cs f (alW n al bl.length)
 rq:∀ j (h:j < bl.length),Rq s K cs f 1 bl[j] (clsOf (bSize (n - 456 * j)))
 nd:(bl.map pOff).Nodup
 fresh:∀ q∈bl,FreshB s K cs0 f0 q
 fo:∀ o,o ∉ bl.map pOff→f o=f0 o
section
variable {a:DA} {L T s n K:Nat} {x:HA} {cs cs0:Nat→CS} {f f0:Nat→Option Nat} {N m b0:Nat} {S:Fp} {cur cur0:Nat→Nat} {w:World}
end
structure W2 (s K:Nat) (cs0:Nat→CS) (f0:Nat→Option Nat) (cur0:Nat→Nat) (al:List Nat) (p:List Nat) (cs:Nat→CS) (f:Nat→Option Nat) (cur:Nat→Nat) (bl:List Nat) (i:Nat):Prop where
 w1:W1 s K cs0 f0 cur0 al p.length cs f cur bl
 words:∀ j (h:j < bl.length),j < i→WordsAt cur bl[j] (payL (bl.getD (j+1) 0) (p.drop (456 * j)))
end
end Go.Proofs.YtnlokpakiambaaaGreatDoor
