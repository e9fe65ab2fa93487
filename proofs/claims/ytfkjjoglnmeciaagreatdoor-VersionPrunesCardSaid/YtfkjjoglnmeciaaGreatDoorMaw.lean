/- part 23 -/
import Derived.Test.YtfkjjoglnmeciaaGreatDoorMak
import Derived.Test.YtfkjjoglnmeciaaGreatDoorMau
set_option maxRecDepth 100000
set_option maxHeartbeats 16000000
namespace Go.Proofs.YtfkjjoglnmeciaaGreatDoor
open Go.Lib (hid)
section
open Go.RowKit Go.Maps
theorem y9l {α:Type} [BEq α] [LawfulBEq α]:∀ (l1 l2:List α),l1.Nodup->(∀ x∈l1,x∈l2)->l1.length<=l2.length
 | [],_,_,_=>Nat.zero_le _
 | a :: t,l2,hn,h=>by
  rw [List.nodup_cons] at hn;have ha:=h a (by simp);have h1:=y9l t (l2.erase a) hn.2 (fun x hx=>(List.mem_erase_of_ne (fun e=>hn.1 (by rw [<- e];exact hx))).2 (h x (by simp [hx])));rw [List.length_erase_of_mem ha] at h1;have:=List.length_pos_of_mem ha;rw [List.length_cons];omega
theorem y1l {α:Type} (g:α->Nat):∀ (ks:List Nat),ks.Nodup->∀ l:List α,(ks.map fun k=>(l.filter fun p=>g p == k).length).sum<=l.length
 | [],_,_=>by simp
 | k :: ks,hn,l=>by
  rw [List.nodup_cons] at hn;have h1:=y1l g ks hn.2 (l.filter fun p => !(g p == k));have h2:∀ j∈ks,((l.filter fun p => !(g p == k)).filter fun p=>g p == j).length=(l.filter fun p=>g p == j).length:=fun j hj=>by
   rw [List.filter_filter];congr 1
   apply List.filter_congr;intro p _;by_cases e:g p=j
   ·have:g p≠k:=fun e2=>hn.1 (by rw [<- e2,e];exact hj)
    simp [e];exact fun h=>this (by rw [e,h])
   ·simp [e]
  have h3:(ks.map fun j=>((l.filter fun p => !(g p == k)).filter fun p=>g p == j).length)=ks.map fun j=>(l.filter fun p=>g p == j).length:=List.map_congr_left h2
  rw [h3] at h1;have h4:(l.filter fun p=>g p == k).length+(l.filter fun p => !(g p == k)).length=l.length:=by
   have:∀ l:List α,(l.filter fun p=>g p == k).length+(l.filter fun p => !(g p == k)).length=l.length:=fun l=>by
    induction l with
    | nil=>rfl
    | cons x t ih =>
     rw [List.filter_cons,List.filter_cons];cases (g x == k) <;> simp <;> omega
   exact this l
  rw [List.map_cons,List.sum_cons];omega
theorem y3a (c:Nat) (g:Nat->Nat):∀ ks:List Nat,(∀ k∈ks,c<=g k)->ks.length * c<=(ks.map g).sum
 | [],_=>by simp
 | k :: ks,h=>by
  have h1:=y3a c g ks (fun j hj=>h j (by simp [hj]));have h2:=h k (by simp);rw [List.map_cons,List.sum_cons,List.length_cons,Nat.add_mul,Nat.one_mul];omega
def need (a c:Nat):Nat:=if a=0 then 0 else (a - 1) / perC c+1
theorem z2j {a b c:Nat} (h:a<=b):need a c<=need b c:=by
 unfold need;split
 ·exact Nat.zero_le _
 ·rw [if_neg oM]
  exact Nat.succ_le_succ (Nat.div_le_div_right oM)
def room (al:List Nat):Nat:=need (al.count 0) 0+need (al.count 1) 1+need (al.count 2) 2+need (al.count 3) 3+need (al.count 4) 4
theorem x8s {a b:List Nat} (h:∀ c,a.count c<=b.count c):room a<=room b:=by
 have h0:=z2j (c:=0) (h 0);have h1:=z2j (c:=1) (h 1);have h2:=z2j (c:=2) (h 2);have h3:=z2j (c:=3) (h 3);have h4:=z2j (c:=4) (h 4);unfold room;omega
structure CapD (s K:Nat) (cs:Nat->CS) (f:Nat->Option Nat) (al:List Nat) (dl:Nat->List Nat) (nv:Nat->List (Nat × Nat)):Prop where
 nd:∀ c,(dl c).Nodup
 of:∀ c k,k∈dl c->k < K/\(cs k).dv=true/\(cs k).cl=c
 all:∀ k,k < K->(cs k).dv=true->(cs k).cl < 5/\k∈dl (cs k).cl
 non:∀ k i,k < K->(cs k).dv=true->i < perC (cs k).cl->¬ Vac s K cs f (cs k).cl k i->(k,i)∈nv (cs k).cl
 few:∀ c,(nv c).length<=al.count c
 chk:∀ c,dl c≠[]->((dl c).length - 1) * perC c+1<=al.count c
def Cap (s K:Nat) (cs:Nat->CS) (f:Nat->Option Nat) (al:List Nat):Prop:=∃ dl nv,CapD s K cs f al dl nv
section
variable {s K:Nat} {cs cs':Nat->CS} {f f':Nat->Option Nat} {al:List Nat}
theorem Cap.new (h:∀ k,k < K->(cs k).dv=false):Cap s K cs f [] :=
 ⟨fun _=>[],fun _=>[],{ nd:=fun _=>List.nodup_nil,of:=fun _ _ hk=>absurd hk (by simp),all:=fun k hk hd=>(by rw [h k hk] at hd;cases hd),non:=fun k _ hk hd=>(by rw [h k hk] at hd;cases hd),few:=fun _=>Nat.zero_le _,chk:=fun _ h=>absurd rfl h }⟩
theorem Cap.same (h:Cap s K cs f al) (he:∀ k,k < K->(cs' k).dv=(cs k).dv/\(cs' k).cl=(cs k).cl) (hv:∀ k i,k < K->(cs k).dv=true->i < perC (cs k).cl->Vac s K cs f (cs k).cl k i->Vac s K cs' f' (cs k).cl k i):Cap s K cs' f' al:=by
 obtain ⟨dl,nv,h⟩:=h;refine ⟨dl,nv,h.nd,fun c k hk=>?_,fun k hk hd=>?_,fun k i hk hd hi hn=>?_,h.few,h.chk⟩
 ·obtain ⟨h1,h2,h3⟩:=h.of c k hk
  obtain ⟨e1,e2⟩:=he k h1;exact ⟨h1,e1.trans h2,e2.trans h3⟩
 ·obtain ⟨e1,e2⟩:=he k hk
  rw [e2];exact h.all k hk (e1 ▸ hd)
 ·obtain ⟨e1,e2⟩:=he k hk
  rw [e2] at hi hn ⊢;exact h.non k i hk (e1 ▸ hd) hi (fun hh=>hn (hv k i hk (e1 ▸ hd) hi hh))
theorem CapD.full {dl:Nat->List Nat} {nv:Nat->List (Nat × Nat)} (h:CapD s K cs f al dl nv) {cl:Nat} (hno:∀ k i,¬ Vac s K cs f cl k i):(dl cl).length * perC cl<=al.count cl:=by
 refine Nat.le_trans (y3a (perC cl) (fun k=>((nv cl).filter fun p=>p.1 == k).length) (dl cl) (fun k hk=>?_)) (Nat.le_trans (y1l (·.1) (dl cl) (h.nd cl) (nv cl)) (h.few cl));obtain ⟨h1,h2,h3⟩:=h.of cl k hk;have h4:=y9l ((List.range (perC cl)).map fun i=>(k,i)) ((nv cl).filter fun p=>p.1 == k) (by
  rw [List.nodup_iff_pairwise_ne,List.pairwise_map];exact (List.nodup_iff_pairwise_ne.1 List.nodup_range).imp (fun hne e=>hne (by injection e))) (fun x hx=>by
  obtain ⟨i,hi,rfl⟩:=List.mem_map.1 hx;have hi:=List.mem_range.1 hi;subst h3;exact List.mem_filter.2 ⟨h.non k i h1 h2 hi (hno k i),by simp⟩)
 simpa using h4
theorem Cap.has (h:Cap s K cs f al) {cl:Nat} (_hcl:cl < 5) (hr:room (cl :: al)<=K):(∃ k i,Vac s K cs f cl k i)\/∃ k,k < K/\(cs k).dv=false:=by
 obtain ⟨dl,nv,h⟩:=h;by_cases h1:∃ k i,Vac s K cs f cl k i
 ·exact .inl h1
 by_cases h2:∃ k,k < K/\(cs k).dv=false
 ·exact .inr h2
 exfalso
 have Gc:∀ k i,¬ Vac s K cs f cl k i:=fun k i hv=>h1 ⟨k,i,hv⟩
 have hf:=h.full Gc;have Gb:∀ k,k < K->(cs k).dv=true:=fun k hk=>by
  cases hd:(cs k).dv with
  | true=>rfl
  | false=>exact absurd ⟨k,hk,hd⟩ h2
 have Ga:=y9l (List.range K) (dl 0++dl 1++dl 2++dl 3++dl 4) List.nodup_range (fun k hk=>by
  have hk:=List.mem_range.1 hk;obtain ⟨c5,hm⟩:=h.all k hk (Gb k hk);generalize (cs k).cl=c at *;simp only [List.mem_append];have:c=0\/c=1\/c=2\/c=3\/c=4:=oM;rcases this with rfl | rfl | rfl | rfl | rfl
  ·exact .inl (.inl (.inl (.inl hm)))
  ·exact .inl (.inl (.inl (.inr hm)))
  ·exact .inl (.inl (.inr hm))
  ·exact .inl (.inr hm)
  ·exact .inr hm)
 simp only [List.length_range,List.length_append] at Ga;have hb:∀ c,(dl c).length+(if c=cl then 1 else 0)<=need ((cl :: al).count c) c:=fun c=>by
  have hp:=(z2u c).1;by_cases e:c=cl
  ·subst e
   rw [if_pos rfl,List.count_cons_self];unfold need;rw [if_neg oM,Nat.add_sub_cancel];exact Nat.succ_le_succ ((Nat.le_div_iff_mul_le oM).2 hf)
  ·rw [if_neg e,List.count_cons_of_ne (fun h=>e h.symm),Nat.add_zero]
   by_cases hd:dl c=[]
   ·rw [hd];exact Nat.zero_le _
   ·have h3:=h.chk c hd
    have h4:=List.length_pos_iff.2 hd;unfold need;rw [if_neg oM];have:=(Nat.le_div_iff_mul_le (x:=(dl c).length - 1) (y:=al.count c - 1) (k:=perC c) oM).2 oM;omega
 have b0:=hb 0;have b1:=hb 1;have b2:=hb 2;have b3:=hb 3;have b4:=hb 4;unfold room at hr;have:cl=0\/cl=1\/cl=2\/cl=3\/cl=4:=oM;rcases this with rfl | rfl | rfl | rfl | rfl <;> simp only [Nat.reduceEqDiff,↓reduceIte] at b0 b1 b2 b3 b4 <;> omega
end
theorem z7u {s:Nat} {cs:Nat->CS} {k i k' i':Nat} (h1:i < perC (cs k).cl) (h2:i' < perC (cs k').cl) (h:offO s cs k i=offO s cs k' i'):k=k'/\i=i':=by
 have a1:=off_lt h1;have a2:=off_lt h2;have a3:=z2h (cs k).cl i;have a4:=z2h (cs k').cl i';unfold offO blkO at h;have hk:k=k':=oM;subst hk;exact ⟨rfl,z7t (c:=(cs k).cl) oM⟩
section
variable {a:DA} {L T s n K:Nat} {x:HA} {cs:Nat->CS} {f:Nat->Option Nat} {N m b0:Nat} {S:Fp} {cur:Nat->Nat} {w:World}
theorem Cap.alloc {cl k i v:Nat} {cs':Nat->CS} {cur':Nat->Nat} {al:List Nat} (h:Cap s K cs f al) (hd:DS a L T s n K x cs f N m b0 S cur w) (hcl:cl < 5) (ho:z9g s K cs f cur cl cs' cur' k i):Cap s K cs' (updF f (offO s cs' k i) (some v)) (cl :: al):=by
 obtain ⟨dl,nv,h⟩:=h;obtain ⟨v1,v2,v3,v4,v5,v6⟩:=ho.vac;have Gc:∀ k2 i2,k2 < K->(cs' k2).dv=true->i2 < perC (cs' k2).cl->¬ Vac s K cs' (updF f (offO s cs' k i) (some v)) (cs' k2).cl k2 i2->(k2,i2)=(k,i)\/¬ Vac s K cs' f (cs' k2).cl k2 i2:=fun k2 i2 hk hdv hi hn=>by
  by_cases e:offO s cs' k2 i2=offO s cs' k i
  ·obtain ⟨rfl,rfl⟩:=z7u hi (by rw [v3];exact v4) e
   exact .inl rfl
  ·refine .inr (fun hv=>hn ⟨hv.1,hv.2.1,hv.2.2.1,hv.2.2.2.1,hv.2.2.2.2.1,?_⟩)
   unfold updF;rw [if_neg e];exact hv.2.2.2.2.2
 rcases ho.how with ⟨rfl,_⟩ | ⟨k0,hk0,hd0,hno,rfl,_⟩
 ·refine ⟨dl,fun c=>if c=cl then (k,i) :: nv c else nv c,h.nd,h.of,h.all,fun k2 i2 hk hdv hi hn=>?_,fun c=>?_,fun c hc=>Nat.le_trans (h.chk c hc) (List.count_le_count_cons)⟩
  ·rcases Gc k2 i2 hk hdv hi hn with e | e
   ·injection e with e1 e2
    subst e1 e2;rw [v3];simp
   ·have:=h.non k2 i2 hk hdv hi e
    by_cases e2:(cs' k2).cl=cl
    ·simp [e2] at this ⊢;exact .inr this
    ·simp [e2];exact this
  ·by_cases e:c=cl
   ·subst e
    simp [List.count_cons_self];exact h.few c
   ·simp [e,List.count_cons_of_ne (fun h=>e h.symm)]
    exact h.few c
 ·have e0:updC cs k0 (newC cl (cs k0).g) k0=newC cl (cs k0).g:=by unfold updC;rw [if_pos rfl]
  have e1:∀ j,j≠k0->updC cs k0 (newC cl (cs k0).g) j=cs j:=fun j hj=>by unfold updC;rw [if_neg hj]
  have Gb:∀ c,k0 ∉ dl c:=fun c hc=>by rw [(h.of c k0 hc).2.1] at hd0;cases hd0
  have Ga:=h.full hno;refine ⟨fun c=>if c=cl then k0 :: dl c else dl c,fun c=>if c=cl then (k,i) :: nv c else nv c,fun c=>?_,fun c j hj=>?_,fun j hj hdv=>?_,fun k2 i2 hk hdv hi hn=>?_,fun c=>?_,fun c hc=>?_⟩
  ·by_cases e:c=cl
   ·simp [e];exact ⟨Gb cl,h.nd cl⟩
   ·simp [e];exact h.nd c
  ·by_cases ej:j=k0
   ·subst ej
    rw [e0];by_cases e:c=cl
    ·subst e;exact ⟨hk0,rfl,rfl⟩
    ·simp [e] at hj;exact absurd hj (Gb c)
   ·rw [e1 j ej]
    refine h.of c j ?_;by_cases e:c=cl
    ·subst e;simp [ej] at hj;exact hj
    ·simp [e] at hj;exact hj
  ·by_cases ej:j=k0
   ·subst ej
    rw [e0];exact ⟨hcl,by simp [newC]⟩
   ·rw [e1 j ej] at hdv ⊢
    obtain ⟨h1,h2⟩:=h.all j hj hdv;refine ⟨h1,?_⟩;by_cases e:(cs j).cl=cl
    ·simp [e] at h2 ⊢;exact .inr h2
    ·simp [e];exact h2
  ·rcases Gc k2 i2 hk hdv hi hn with e | e
   ·injection e with e2 e3
    subst e2 e3;rw [v3];simp
   ·by_cases ej:k2=k0
    ·subst ej
     rw [e0] at hi;exfalso
     refine e ⟨hk,hdv,rfl,by rw [e0];exact hi,?_,y0i (T':=T) (S':=S) (cur':=cur) hd hk0 hd0 i2 hi hcl⟩;rw [e0];rfl
    ·have Ge:(updC cs k0 (newC cl (cs k0).g) k2).cl=(cs k2).cl:=by rw [e1 k2 ej]
     rw [Ge] at e hi ⊢;have Gd:=h.non k2 i2 hk (by rw [<- e1 k2 ej];exact hdv) hi (fun hv=>e ⟨hk,hdv,Ge,hi,by rw [e1 k2 ej];exact hv.2.2.2.2.1,by unfold offO;rw [e1 k2 ej];exact hv.2.2.2.2.2⟩);by_cases e2:(cs k2).cl=cl
     ·simp [e2] at Gd ⊢;exact .inr Gd
     ·simp [e2];exact Gd
  ·by_cases e:c=cl
   ·subst e
    simp [List.count_cons_self];exact h.few c
   ·simp [e,List.count_cons_of_ne (fun h=>e h.symm)]
    exact h.few c
  ·by_cases e:c=cl
   ·subst e
    simp [List.count_cons_self];exact Ga
   ·simp [e] at hc
    simp [e,List.count_cons_of_ne (fun h=>e h.symm)];exact h.chk c hc
end
end
section
open Go.RowKit Go.Maps
theorem x3n (A:Option Addr) (n c:Nat) (l:List (Nat × Nat)) (w:World) (h:z0c w w.heap.size 2 A n (z0d l)) (hA:A=none->n=0/\c=0) (hn:n<=1000) :
  Calls Tryz.prog 138 #[.slice A n c] w (fun e w'=>∃ A' m' c',e=.returned (.slice A' m' c')/\m'=n/\w'.ownsRow w.heap.size 114 2 (.slice A' m' c') m' (z0d l)/\Blw w w'):=by
 cases A with
 | none =>
  obtain ⟨rfl,rfl⟩:=hA rfl;have hl:z0d l=[]:=by have:=h.1;exact List.eq_nil_of_length_eq_zero oM
  rw [hl];clear h;have Ga:∀ W,(binOp .eql 108 (.slice none 0 0) (.slice none 0 0)).run Tryz.prog W=.ok (.bool true) W:=fun W=>by kernel_rfl
  go_enter Tryz.func138,Tryz.ntmps138
  go_wp2;go_ret;exact ⟨none,0,0,rfl,rfl,World.ownsRow_nil _ _ _ _,Below.refl _ _⟩
 | some ad =>
  have H:=hid h;clear h hA;have Ga:∀ W,(binOp .eql 108 (.slice (some ad) n c) (.slice none 0 0)).run Tryz.prog W=.ok (.bool false) W:=fun W=>Lib.run_eql_slice_some_nil W _ _ _ Tryz.underlying108
  obtain ⟨i0,Ge,Gf,Gg,Gh⟩:=info_parts z2i;have HO:Hid ((w.alloc (.cells #[] 114)).ownsRow w.heap.size 114 2 (.slice (some ⟨w.heap.size,0,none⟩) 0 0) 0 []):=World.ownsRow_made w #[] 0 (nL _) (by unfold maxLen;omega) (by simp);go_enter Tryz.func138,Tryz.ntmps138
  go_wp2_with (at_builtin;refine z0p _ (.tmp 5) (.tmp 6) 108 rfl rfl w.heap.size 114 i0 _ 2 16 Tryz.underlying108 Ge Gf Gg Gh rfl ?q1 (.slice (some ⟨w.heap.size,0,none⟩) 0 0) 0 [] rfl HO.out w.heap.size (some ad) n c (z0d l) rfl ?q5 ?q6 ?q2 ?q3 ?q4 ?_;(case q1=>omega);(case q5=>exact H.out.alloc (nL _) _);(case q6=>exact z7a l);(case q2=>(unfold maxLen;omega));(case q3=>omega);(case q4=>(simp));intro A3 n3 c3 w8 hn3 ho3 hg3 hb3;have Gc:=hid hn3;have Gd:=hid ho3;have Gb:=hid (((Below.refl _ w).alloc (nL _) _).trans hb3);clear hn3 ho3 hg3 hb3)
  go_ret;refine ⟨_,_,_,rfl,Gc.out.trans (Nat.zero_add _),?_,Gb.out⟩;have:=Gd.out;rw [List.nil_append] at this;exact this
theorem z8m (g:Nat->Nat) (ks:List Nat) (hn:ks.Nodup):∀ l:List Nat,(ks.map fun k=>(l.filter fun p=>g p == k).length).sum<=l.length
 | []=>by
  have:∀ ks:List Nat,(ks.map fun k=>(([]:List Nat).filter fun p=>g p == k).length).sum=0:=fun ks=>by
   induction ks with
   | nil=>rfl
   | cons a t ih =>
    simp at ih ⊢;exact ih
  rw [this];exact Nat.zero_le _
 | p :: l=>by
  have h1:=z8m g ks hn l;have h2:∀ ks:List Nat,(ks.map fun k=>((p :: l).filter fun p=>g p == k).length).sum=(ks.map fun k=>(l.filter fun p=>g p == k).length).sum+ks.count (g p):=fun ks=>by
   induction ks with
   | nil=>rfl
   | cons a t ih =>
    rw [List.map_cons,List.map_cons,List.sum_cons,List.sum_cons,ih,List.filter_cons,List.count_cons];by_cases e:g p=a
    ·subst e;simp;omega
    ·have e1:(g p == a)=false:=by rw [beq_eq_false_iff_ne];exact e
     have e2:(a == g p)=false:=by rw [beq_eq_false_iff_ne];exact fun h=>e h.symm
     rw [e1,e2];simp;omega
  rw [h2,List.length_cons];have h3:ks.count (g p)<=1:=List.nodup_iff_count.1 hn (g p);omega
theorem w0e {s:Nat} {cs:Nat->CS} {keep free:List Nat} {V:Nat->Nat} {ks:List Nat} (hn:ks.Nodup) (hne:∀ k∈ks,tlOf s cs keep k≠[]\/dlOf s cs free k≠[]):(ks.flatMap (acW s cs (tlOf s cs keep) (dlOf s cs free) V)).length<=2 * (keep.length+free.length):=by
 have h1:=z8m (kOf s) ks hn keep;have h2:=z8m (kOf s) ks hn free;have h3:∀ ks:List Nat,(∀ k∈ks,tlOf s cs keep k≠[]\/dlOf s cs free k≠[])->(ks.flatMap (acW s cs (tlOf s cs keep) (dlOf s cs free) V)).length<=2 * ((ks.map fun k=>(keep.filter fun p=>kOf s p == k).length).sum+(ks.map fun k=>(free.filter fun p=>kOf s p == k).length).sum):=fun ks=>by
  induction ks with
  | nil=>intro _;simp
  | cons k t ih =>
   intro h;have h4:=ih (fun j hj=>h j (by simp [hj]));rw [List.flatMap_cons,List.length_append,List.map_cons,List.map_cons,List.sum_cons,List.sum_cons];unfold acW at h4 ⊢;rw [y4b];have e1:(tlOf s cs keep k).length=(keep.filter fun p=>kOf s p == k).length:=by unfold tlOf;rw [List.length_map]
   have e2:(dlOf s cs free k).length=(free.filter fun p=>kOf s p == k).length:=by unfold dlOf;rw [List.length_map]
   have h5:1<=(tlOf s cs keep k).length+(dlOf s cs free k).length:=by
    rcases h k (by simp) with h | h
    ·have:=List.length_pos_iff.2 h;omega
    ·have:=List.length_pos_iff.2 h;omega
   omega
 have:=h3 ks hne;omega
def z7c (a:DA) (L T s n K:Nat) (x:HA) (cs:Nat->CS) (f:Nat->Option Nat) (N m b0:Nat) (S:Fp) (cur:Nat->Nat) (w:World) (d r:Nat) (us:List (Nat × Nat)) (keep free:List Nat) (n1:Nat) (e:Ending) (w':World):Prop :=
 ∃ ks V cm S',e=.returned (.int .i64 0)/\AOk s K cs ks (tlOf s cs keep) (dlOf s cs free) V/\(∀ k,k∈ks↔k < K/\(tlOf s cs keep k≠[]\/dlOf s cs free k≠[]))/\cm < 18446744073709551616/\(us++ks.flatMap (acW s cs (tlOf s cs keep) (dlOf s cs free) V)).length<=96 /\
  SD a L (T+800) s n K x (acC cs ks (tlOf s cs keep) (dlOf s cs free) V) (relF f keep) (N+n1) (m - n1) b0 S' (rdG 0 cur (us++ks.flatMap (acW s cs (tlOf s cs keep) (dlOf s cs free) V)) cm) w' d r/\Chg (sfp S x) w w'/\Grew S S' w
section
variable {a:DA} {L T s n K:Nat} {x:HA} {cs:Nat->CS} {f:Nat->Option Nat} {N m b0:Nat} {S:Fp} {cur:Nat->Nat} {w w':World} {d r:Nat}
theorem x2a (h:SD a L T s n K x cs f N m b0 S cur w d r) (hK12:K<=12) (A0 A1 A2:Option Addr) (n0 c0 n1 c1 n2 c2:Nat) (us:List (Nat × Nat)) (keep free:List Nat) (h0:z0c w w.heap.size 2 A0 n0 (z0d us)) (h00:A0=none->n0=0/\c0=0) (h1:z0c w w.heap.size 1 A1 n1 (z0a keep)) (h2:z0c w w.heap.size 1 A2 n2 (z0a free))
  (hA1:∀ ad,A1=some ad->¬ sfp S x ad.block) (hk:∀ p∈keep,y0b s K cs f p) (hfr:∀ p∈free,y2c s K cs p) (hn:((keep++free).map pOff).Nodup) (hu:UOk L 0 s K cs us) (hlen:us.length+2 * (keep.length+free.length)<=96) (hT:T+800<=1000000000) (hN:N+n1<=1000000000) :
  Calls Tryz.prog 54 #[.pointer (some ⟨d,0,none⟩),.slice A0 n0 c0,.slice A1 n1 c1,.slice A2 n2 c2] w (z7c a L T s n K x cs f N m b0 S cur w d r us keep free n1):=by
 have GG:us.length=n0:=by have:=h0.1;rw [z0z] at this;omega
 have GH:keep.length=n1:=by have:=h1.1;simp [z0a] at this;omega
 have GI:free.length=n2:=by have:=h2.1;simp [z0a] at this;omega
 have G6:=hid (y7u h.ds.dev r 0 26 h.log (by have h1:=h.ds.hK;have:=h.ln;omega) oM A0 n0 c0 us h0 (z7i hu.nd) hu.off hu.val oM h.idle h.ds.tab);have Gx:Hid (∀ W,Blw w W->Calls Tryz.prog 122 #[.pointer (some ⟨x.h,0,none⟩),.slice A1 n1 c1,.slice A2 n2 c2] W (y8l W s K cs keep free)):=hid (fun W hW=>y6y (h.ds.below hW) hK12 A1 A2 n1 c1 n2 c2 keep free ((h1.below hW).more hW.size) ((h2.below hW).more hW.size) hk hfr hn oM oM);have GL:Hid (∀ W,Blw w W->Calls Tryz.prog 112 #[.pointer (some ⟨a.th 0,0,none⟩)] W fun e w'=>e=.returned (.int .i64 0)/\W=w'):=hid (fun W hW=>z9l (h.ds.dev.below hW));have HS:=hid h;have GQ:=hid h0;have Gm:=hid h00;have GR:=hid h1;have Gy:=hid hA1;have G3:=hid hk;have GM:=hid hfr;have G4:=hid hn;have HU:=hid hu;have Gl:=hid (And.intro GG (And.intro GH GI));have GX:w.cell? ⟨x.h,7,none⟩=some (.bool false):=h.ds.hs.heap.cell 7;have GV:w.cell? ⟨d,2,none⟩=some (.pointer (some ⟨r,0,none⟩)):=h.dir.cell 2;clear h h0 h00 h1 h2 hA1 hk hfr hn hu GG GH GI;go_enter Tryz.func54,Tryz.ntmps54
 go_wp2_with (go_at_call 136;refine G6.out.mono ?_;rintro e W1 ⟨A3,m3,c3,p3,rfl,_,_,Gs⟩;refine stop ?_)
 unfold Stop;have Gf:=hid Gs;have Gp:=hid (HS.out.below Gs);have e7:W1.cell? ⟨x.h,7,none⟩=some (.bool false):=Gp.out.ds.hs.heap.cell 7;have e0:W1.cell? ⟨d,0,none⟩=some (.pointer (some ⟨x.h,0,none⟩)):=Gp.out.dir.cell 0;have e1:W1.cell? ⟨d,1,none⟩=some (.pointer (some ⟨a.th 0,0,none⟩)):=Gp.out.dir.cell 1;clear Gs G6 GX GV;go_wp2_with (first
  | (go_at_call 112;refine (GL.out _ Gf.out).mono ?_;rintro e w1 ⟨rfl,rfl⟩)
  | (go_at_call 122;refine (Gx.out _ Gf.out).mono ?_;rintro e W2 ⟨A4,m4,c4,ks,V,rfl,Gv,Ge,GA,Gw,G8⟩;refine stop ?_))
 unfold Stop;have Ga:=hid (Gf.out.trans (G8.mono Gf.out.size));have Gq:=hid (HS.out.below Ga.out);have G7:=hid (z0c.of_own Gw);have Gc:Hid (AOk s K cs ks (tlOf s cs keep) (dlOf s cs free) V):=hid (by
  have ha:∀ k∈ks,_:=fun k hk=>x0u G3.out GM.out G4.out ((Ge k).1 hk).2
  exact ⟨Gv,fun k hk=>⟨((Ge k).1 hk).1,(ha k hk).1⟩,fun k hk=>(ha k hk).2.1,fun k hk=>(ha k hk).2.2.1,fun k hk=>(ha k hk).2.2.2,GA⟩)
 have GN:=hid Ge;have Gh:Hid ((us++ks.flatMap (acW s cs (tlOf s cs keep) (dlOf s cs free) V)).length<=96):=hid (by
  rw [List.length_append];have:=w0e (V:=V) Gv (fun k hk=>((Ge k).1 hk).2);omega)
 have Db:m4<=96:=by
  have h1:=Gw.1;rw [z0z] at h1;have h2:=Gh.out;rw [List.length_append] at h2;have h3:(ks.flatMap fun k=>chgW (s+32 * k) (cs k).cl (cs k).bs (tlOf s cs keep k) (dlOf s cs free k) (V k)).length=(ks.flatMap (acW s cs (tlOf s cs keep) (dlOf s cs free) V)).length:=rfl;omega
 have Gn:Hid (z0c W2 W2.heap.size 2 A4 m4 (z0d (ks.flatMap (acW s cs (tlOf s cs keep) (dlOf s cs free) V)))):=G7;have G0:=hid (x3n A0 n0 c0 us W2.drew ((GQ.out.below Ga.out).more Ga.out.size) Gm.out (by have:=Gl.out.1;omega));have e0:W2.cell? ⟨d,0,none⟩=some (.pointer (some ⟨x.h,0,none⟩)):=Gq.out.dir.cell 0;clear G8 Gv Ge GA Gw Gx G7 e0 e1 e7;go_upto_region 14 with fail
 refine z0g (fun w'=>Blw W2 w') 8 [] [(1,0),(1,1),(1,2),(1,3),(1,4),(1,6),(0,5),(0,7)] (by kernel_rfl) (by kernel_rfl) (Below.refl _ _).drew ?_;refine tkG (.pointer (some ⟨d,0,none⟩)) ?_;refine tkG (.pointer (some ⟨d,0,none⟩)) ?_;refine tkG (.pointer (some ⟨d,2,none⟩)) ?_;refine tkH (.pointer (some ⟨r,0,none⟩)) (fun w' hS=>?_) ?_
 ·have f1:w'.cell? ⟨d,2,none⟩=some (.pointer (some ⟨r,0,none⟩)):=(Gq.out.dir.below hS Gq.out.dir.lt).cell 2
  go_simp
 refine tkG (.slice A0 n0 c0) ?_;refine tkG (.slice A4 m4 c4) ?_;refine z0b (by rfl) ?_;go_wp2_with (go_at_call 138;refine G0.out.mono ?_;rintro e W3 ⟨A5,m5,c5,rfl,Gu,GJ,G9⟩;have GO:=hid Gu;have G5:=hid GJ;clear Gu GJ)
 have Gb:Hid (Blw W2 W3):=hid ((Below.refl _ W2).drew.trans G9);clear G9 G0;refine ⟨Gb.out,?_⟩;refine z0b (by rfl) ?_;obtain ⟨i0,GW,GY,GZ,Da⟩:=info_parts z2i;have GS:=hid ((Gn.out.below Gb.out).more Gb.out.size);have Dc:n0<=96:=by have:=Gl.out.1;omega
 have Gu:m5<=96:=by have:=GO.out;omega
 have GP:=hid (z7a (ks.flatMap (acW s cs (tlOf s cs keep) (dlOf s cs free) V)));refine z3a _ (.tmp 62) (.tmp 63) 108 rfl rfl W2.heap.size 114 i0 _ 2 16 Tryz.underlying108 GW GY GZ Da rfl oM (.slice A5 m5 c5) m5 (z0d us) rfl G5.out W3.heap.size A4 m4 c4 (z0d (ks.flatMap (acW s cs (tlOf s cs keep) (dlOf s cs free) V))) rfl GS.out GP.out (by unfold maxLen;omega) oM Gb.out.size ?_;intro A6 n6 c6 W4 hn6 ho6 hg6 hb6;have Gg:Hid (Blw W2 W4):=hid (Gb.out.grown hg6 Gb.out.size (fun i hi=>(G5.out.lt i hi).1));have Gi:=hid (HS.out.below (Ga.out.trans (Gg.out.mono Ga.out.size)));have G1:=hid (y8y Gi.out.ds.dev r Gi.out.log A6 n6 c6 (us++ks.flatMap (acW s cs (tlOf s cs keep) (dlOf s cs free) V)) (by
  have h1:=z0c.of_own ho6;have e:z0d us++z0d (ks.flatMap (acW s cs (tlOf s cs keep) (dlOf s cs free) V))=z0d (us++ks.flatMap (acW s cs (tlOf s cs keep) (dlOf s cs free) V)):=by unfold z0d;rw [List.flatMap_append]
  rw [e] at h1;exact h1) (z7i (z5z HU.out Gc.out)) (z8j HS.out.ds HS.out.ln HU.out Gc.out) (x8n HS.out.ds HU.out Gc.out) (by
   have h1:=ho6.1;rw [List.length_append,z0z,z0z] at h1;have h2:=Gh.out;rw [List.length_append] at h2;omega) Gi.out.idle Gi.out.ds.tab (by have h1:=HS.out.ds.hK;have:=HS.out.ln;omega) hT)
 clear hn6 ho6 hg6 hb6;refine ⟨Gg.out,?_⟩;show wpList _ _ _ _ _ _;simp only [List.drop_succ_cons,List.drop_zero];go_wp2_with (go_at_call 137;refine G1.out.mono ?_;rintro e W5 ⟨cm,Gt,rfl,S',GE,GC,GF⟩)
 refine NoPanic.normal ?_;have GU:=hid (Nat.le_trans Ga.out.size Gg.out.size);have Gd:Hid (Chg S w W5):=hid (((Chg.of_below (S:=S) Ga.out).below (Gg.out)).trans GC (Grew.refl _ _));have Gk:Hid (Grew S S' w):=hid (fun k hk=>by
  rcases GF k hk with h | h
  ·exact .inl h
  ·exact .inr (by have:=GU.out;omega))
 have G2:=hid (HS.out.ds.pub HS.out.ln HU.out Gc.out Gh.out Gt GE Gd.out Gk.out);have Gj:=hid Gt;have Gr:Hid (SD a L (T+800) s n K x (acC cs ks (tlOf s cs keep) (dlOf s cs free) V) f N m b0 S' (rdG 0 cur (us++ks.flatMap (acW s cs (tlOf s cs keep) (dlOf s cs free) V)) cm) W5 d r):=hid (HS.out.keep G2.out (Gd.out.mono (fun _ h => .inl h)) Gk.out (w2q HS.out.idle));have GT:=hid (x4t G2.out A1 n1 c1 keep (Gd.out.reads GR.out (nL _) (fun ad h1 h2=>Gy.out ad h1 (.inl h2)) |>.more Gd.out.size) (fun ad h1 h2=>Gy.out ad h1 (.inr h2)) (fun p hp=>(G3.out p hp).res) (by
  have:=G4.out;rw [List.map_append] at this;exact (List.nodup_append.1 this).1) oM (by have:=Gl.out.2.1;omega) (.slice A2 n2 c2))
 have g0:W5.cell? ⟨d,0,none⟩=some (.pointer (some ⟨x.h,0,none⟩)):=Gr.out.dir.cell 0;clear Gt GE GC GF G1;go_wp2_with (go_at_call 125;refine GT.out.mono ?_;rintro e W6 ⟨rfl,GD,GB⟩;have GK:=hid GD;have Gz:=hid GB;clear GD GB)
 go_ret;exact ⟨ks,V,cm,S',rfl,Gc.out,GN.out,Gj.out,Gh.out,Gr.out.keep GK.out (Gz.out.mono (fun _ h => .inr h)) (Grew.refl _ _) Gr.out.idle,(Gd.out.mono (fun _ h => .inl h)).trans Gz.out (fun _ h => .inl (.inr h)),Gk.out⟩
end
end
section
open Go.RowKit Go.Maps
theorem y4s (h t r:Nat) (w:World) :
  Calls Tryz.prog 200 #[.pointer (some ⟨h,0,none⟩),.pointer (some ⟨t,0,none⟩),.pointer (some ⟨r,0,none⟩)] w fun e w'=>e=.returned (.pointer (some ⟨w.heap.size,0,none⟩))/\w'=w.alloc (.cells #[.pointer (some ⟨h,0,none⟩),.pointer (some ⟨t,0,none⟩),.pointer (some ⟨r,0,none⟩)] 240):=by
 go_enter Tryz.func200,Tryz.ntmps200
 go_wp2;go_ret;exact ⟨rfl,rfl⟩
structure WA where
 g:Nat
 d:Nat
 r:Nat
 u:Nat
 m:Nat
def y3z (a:DA) (x:HA) (y:WA) (c:Nat):Array Value:=#[.pointer (some ⟨a.d,0,none⟩),.pointer (some ⟨a.th 0,0,none⟩),.pointer (some ⟨x.h,0,none⟩),.pointer (some ⟨y.d,0,none⟩),.pointer (some ⟨y.m,0,none⟩),.int .i64 c]
structure BW (a:DA) (L T K:Nat) (x:HA) (y:WA) (cs:Nat->CS) (f:Nat->Option Nat) (N m b0:Nat) (S:Fp) (cur:Nat->Nat) (w:World):Prop where
 sd:SD a L T 53 (32 * K) K x cs f N m b0 S cur w y.d y.r
 blk:Blk w y.g 61 (y3z a x y K)
 und:Blk w y.u 330 (z2f a 26 26)
 mgr:Blk w y.m 200 (z9w (some ⟨a.th 0,0,none⟩) (some ⟨y.r,0,none⟩) (some ⟨y.u,0,none⟩) (some ⟨x.h,0,none⟩) none)
 uid:cur (8 * 26)=0
 off:¬ S y.g/\¬ S y.u/\¬ S y.m
 new:b0<=y.g/\b0<=y.d/\b0<=y.r/\b0<=y.u/\b0<=y.m
 size:L=53+32 * K
 few:K<=12
 rest:a.dirty=fun _=>False
structure Empt (K:Nat) (cur:Nat->Nat):Prop where
 r:cur (8 * 0)=0
 u:cur (8 * 26)=0
 c:∀ k,k < K->cur (8 * (53+32 * k))=z4d 1
 b:∀ i,cur i < 18446744073709551616
def w6s (a:DA) (L T K b0:Nat) (S:Fp) (cur:Nat->Nat) (w:World) (e:Ending) (w':World):Prop:=∃ x y,e=.returned (.pointer (some ⟨y.g,0,none⟩))/\BW a L T K x y (fun _=>csN) (fun _=>none) 0 0 b0 S cur w'/\Blw w w'
def At (s K:Nat) (cs:Nat->CS) (q k i:Nat):Prop:=k < K/\(cs k).dv=true/\i < perC (cs k).cl/\pOff q=offO s cs k i
structure Fr (s K:Nat) (cs:Nat->CS) (f:Nat->Option Nat) (cur:Nat->Nat) (cs':Nat->CS) (f':Nat->Option Nat) (cur':Nat->Nat):Prop where
 head:∀ i,i < 8 * s->cur' i=cur i
 chunk:∀ k,k < K->(cs k).dv=true->cs' k=cs k
 map:∀ o,f o≠none->f' o=f o
 held:∀ k i,k < K->(cs k).dv=true->i < perC (cs k).cl->¬ Vac s K cs f (cs k).cl k i->∀ j,j < payW (cs k).cl->cur' (8 * (s+32 * k)+offB (cs k).cl i+1+j)=cur (8 * (s+32 * k)+offB (cs k).cl i+1+j)
 neu:∀ k i,k < K->(cs k).dv=false->(cs' k).dv=true->((cs' k).bs i).st≠177
section
variable {s K:Nat} {cs cs' cs2:Nat->CS} {f f' f2:Nat->Option Nat} {cur cur' cur2:Nat->Nat}
theorem Fr.refl:Fr s K cs f cur cs f cur:=⟨fun _ _=>rfl,fun _ _ _=>rfl,fun _ _=>rfl,fun _ _ _ _ _ _ _ _=>rfl,fun _ _ _ h1 h2=>absurd (h1.symm.trans h2) (by simp)⟩
theorem Fr.off (h:Fr s K cs f cur cs' f' cur') {k:Nat} (hk:k < K) (hd:(cs k).dv=true) (i:Nat):offO s cs' k i=offO s cs k i:=by unfold offO;rw [h.chunk k hk hd]
theorem Fr.non (h:Fr s K cs f cur cs' f' cur') {k i:Nat} (hk:k < K) (hd:(cs k).dv=true) (hi:i < perC (cs k).cl) (hn:¬ Vac s K cs f (cs k).cl k i):¬ Vac s K cs' f' (cs k).cl k i:=fun hv=>by
 obtain ⟨_,_,_,_,h5,h6⟩:=hv;rw [h.chunk k hk hd] at h5;rw [h.off hk hd] at h6;refine hn ⟨hk,hd,rfl,hi,h5,?_⟩;cases hf:f (offO s cs k i) with
 | none=>rfl
 | some p =>
  have:=h.map _ (show f (offO s cs k i)≠none by rw [hf];simp);rw [h6,hf] at this;cases this
theorem Fr.trans (h:Fr s K cs f cur cs' f' cur') (h2:Fr s K cs' f' cur' cs2 f2 cur2):Fr s K cs f cur cs2 f2 cur2:=by
 refine ⟨fun i hi=>(h2.head i hi).trans (h.head i hi),fun k hk hd=>?_,fun o ho=>?_,fun k i hk hd hi hn j hj=>?_,fun k i hk h3 h4=>?_⟩
 ·have e:=h.chunk k hk hd
  exact (h2.chunk k hk (by rw [e];exact hd)).trans e
 ·have e:=h.map o ho
  exact (h2.map o (by rw [e];exact ho)).trans e
 ·have e:=h.chunk k hk hd
  have h3:=h2.held k i hk (by rw [e];exact hd) (by rw [e];exact hi) (by rw [e];exact h.non hk hd hi hn) j (by rw [e];exact hj);rw [e] at h3;exact h3.trans (h.held k i hk hd hi hn j hj)
 ·cases h5:(cs' k).dv
  ·exact h2.neu k i hk h5 h4
  ·rw [h2.chunk k hk h5]
   exact h.neu k i hk h3 h5
theorem At.lines {q k i:Nat} (h:At s K cs q k i):pOff q / 8=8 * (s+32 * k)+offB (cs k).cl i+1/\pOff q % 8=0:=by
 obtain ⟨_,_,_,h4⟩:=h;unfold offO blkO at h4;omega
theorem z4k {k i k' i' j j':Nat} (hi:i < perC (cs k).cl) (hi':i' < perC (cs k').cl) (hj:j < payW (cs k).cl) (hj':j' < payW (cs k').cl) (hne:¬ (k=k'/\i=i')):8 * (s+32 * k)+offB (cs k).cl i+1+j≠8 * (s+32 * k')+offB (cs k').cl i'+1+j':=fun e=>by
 have a1:=off_lt hi;have a2:=off_lt hi';have a3:=z2h (cs k).cl i;have a4:=z2h (cs k').cl i';have hk:k=k':=oM;subst hk;have Ga:i≠i':=fun h=>hne ⟨rfl,h⟩
 unfold offB at e;rcases Nat.lt_or_gt_of_ne Ga with h | h
 ·have:(i+1) * (payW (cs k).cl+1)<=i' * (payW (cs k).cl+1):=Nat.mul_le_mul_right _ h
  rw [Nat.add_mul,Nat.one_mul] at this;omega
 ·have:(i'+1) * (payW (cs k).cl+1)<=i * (payW (cs k).cl+1):=Nat.mul_le_mul_right _ h
  rw [Nat.add_mul,Nat.one_mul] at this;omega
def y2d (s K:Nat) (cs:Nat->CS) (f:Nat->Option Nat) (q:Nat):Prop:=∀ k i,At s K cs q k i->Vac s K cs f (cs k).cl k i
theorem y7w {q:Nat} {l:List Nat}:z2t (wrS cur (pwW (pOff q) l)) q l:=fun j hj=>by
 have h8:pOff q % 8=0:=by unfold pOff;omega
 have h1:=y5n (pwW (pOff q) l) cur (by
  unfold pwW;rw [List.map_map,List.nodup_iff_pairwise_ne,List.pairwise_map];exact (List.nodup_iff_pairwise_ne.1 List.nodup_range).imp (fun hne e=>hne (by
   have:pOff q+8 * _=pOff q+8 * _:=e;omega))) (fun e he=>by
  obtain ⟨j,_,rfl⟩:=y1g he;show (pOff q+8 * j) % 8=0;omega) (pOff q+8 * j,l.getD j 0) (by unfold pwW;exact List.mem_map.2 ⟨j,List.mem_range.2 hj,rfl⟩)
 have e:(pOff q+8 * j) / 8=pOff q / 8+j:=oM;rw [<- e];exact h1
theorem z4l {q k i n:Nat} {l:List Nat} (h:At s K cs q k i) (hl:l.length<=payW (cs k).cl) (hn:∀ j,j < payW (cs k).cl->n≠8 * (s+32 * k)+offB (cs k).cl i+1+j):wrS cur (pwW (pOff q) l) n=cur n:=by
 obtain ⟨h1,h2⟩:=h.lines;refine z2k _ _ _ (fun e he=>?_);obtain ⟨j,hj,rfl⟩:=y1g he;show (pOff q+8 * j) / 8≠n;have:=hn j oM;omega
def InC (s K:Nat) (cs:Nat->CS) (q cl:Nat):Prop:=∃ k i,At s K cs q k i/\(cs k).cl=cl/\((cs k).bs i).gen=pGen q
theorem At.uniq {q k i k' i':Nat} (h:At s K cs q k i) (h':At s K cs q k' i'):k=k'/\i=i':=z7u h.2.2.1 h'.2.2.1 (h.2.2.2.symm.trans h'.2.2.2)
structure Rq (s K:Nat) (cs:Nat->CS) (f:Nat->Option Nat) (kind q cl:Nat):Prop where
 keep:y0b s K cs f q
 cls:InC s K cs q cl
 kind_:z1t q=kind
 top:q / 72057594037927936=0
end
section
variable {a:DA} {L T s n K:Nat} {x:HA} {cs:Nat->CS} {f:Nat->Option Nat} {N m b0:Nat} {S:Fp} {cur:Nat->Nat} {w:World}
theorem Fr.alloc {cl k i v:Nat} {cs':Nat->CS} {cur':Nat->Nat} (hd:DS a L T s n K x cs f N m b0 S cur w) (hcl:cl < 5) (ho:z9g s K cs f cur cl cs' cur' k i):Fr s K cs f cur cs' (updF f (offO s cs' k i) (some v)) cur':=by
 obtain ⟨v1,v2,v3,v4,v5,v6⟩:=ho.vac;have Ga:∀ o,f o≠none->updF f (offO s cs' k i) (some v) o=f o:=fun o h=>by
  unfold updF;rw [if_neg (fun e=>h (by rw [e];exact v6))]
 have hz:∀ (c:Nat->Nat) (n:Nat),(∀ j,j < payW cl->n≠8 * (s+32 * k)+offB cl i+1+j)->wrS c (zerW (offO s cs' k i) (payW cl)) n=c n:=fun c n hn=>z2k _ _ _ (fun e he=>by
  obtain ⟨q,hq,rfl⟩:=z6n he;have:offO s cs' k i=blkO (s+32 * k) cl i:=by unfold offO;rw [v3]
  show (offO s cs' k i+8 * q) / 8≠n;rw [this];have:=hn q hq;unfold blkO;omega)
 rcases ho.how with ⟨rfl,hc⟩ | ⟨k0,hk0,hd0,hno,rfl,hc⟩
 ·refine ⟨fun j hj=>?_,fun _ _ _=>rfl,Ga,fun k2 i2 hk hdv hi hn j hj=>?_,fun _ _ _ h1 h2=>absurd (h1.symm.trans h2) (by simp)⟩
  ·rw [hc];exact hz _ _ (fun q hq=>oM)
  ·rw [hc]
   refine hz _ _ (fun q hq=>?_);rw [<- v3] at hq ⊢;refine z4k hi (by rw [v3];exact v4) hj hq (fun ⟨e1,e2⟩=>?_);subst e1 e2;exact hn ⟨v1,v2,rfl,by rw [v3];exact v4,v5,v6⟩
 ·have Gb:=hd.ok k0 hk0
  unfold CSok at Gb;rw [hd0] at Gb;have e1:∀ j,j≠k0->updC cs k0 (newC cl (cs k0).g) j=cs j:=fun j hj=>by unfold updC;rw [if_neg hj]
  have Gc:∀ j,(cs j).dv=true->j≠k0:=fun j hj e=>by rw [e,hd0] at hj;cases hj
  refine ⟨fun j hj=>?_,fun k2 hk hdv=>e1 k2 (Gc k2 hdv),Ga,fun k2 i2 hk hdv hi hn j hj=>?_,fun k2 i2 hk h1 h2=>?_⟩
  ·rw [hc,hz _ _ (fun q hq=>oM)]
   exact z9q hcl Gb.2.2 (.inl oM)
  ·have Gd:=Gc k2 hdv
   have a1:=off_lt hi;have a2:=z2h (cs k2).cl i2;rw [hc,hz _ _ (fun q hq=>?_)]
   ·exact z9q hcl Gb.2.2 oM
   ·have e2:=e1 k2 Gd
    have Ge:q < payW (updC cs k0 (newC cl (cs k0).g) k).cl:=by rw [v3];exact hq
    have h4:=z4k (s:=s) (cs:=updC cs k0 (newC cl (cs k0).g)) (k:=k2) (i:=i2) (k':=k) (i':=i) (j:=j) (j':=q) (by rw [e2];exact hi) (by rw [v3];exact v4) (by rw [e2];exact hj) Ge (fun ⟨q1,q2⟩=>by
     subst q1 q2;exact hn ⟨hk,hdv,rfl,hi,by rw [<- e2];exact v5,by unfold offO;rw [<- e2];exact v6⟩)
    rw [e2,v3] at h4;exact h4
  ·by_cases e:k2=k0
   ·subst e
    unfold updC;rw [if_pos rfl];show (176:Nat)≠177;omega
   ·rw [e1 k2 e,h1] at h2
    cases h2
theorem Rq.step {cl k i v kind q c:Nat} {cs':Nat->CS} {cur':Nat->Nat} (h:Rq s K cs f kind q c) (hd:DS a L T s n K x cs f N m b0 S cur w) (hcl:cl < 5) (ho:z9g s K cs f cur cl cs' cur' k i):Rq s K cs' (updF f (offO s cs' k i) (some v)) kind q c/\pOff q≠offO s cs' k i:=by
 have hF:=Fr.alloc (v:=v) hd hcl ho;obtain ⟨k1,i1,⟨h1,h2,h3,h4⟩,h5,h6⟩:=h.cls;obtain ⟨k2,i2,g1,g2,g3,g4,g5⟩:=h.keep.loc;have e1:=hF.chunk k1 h1 h2;have e2:=hF.chunk k2 g1 g2;have hr:=h.keep.res;refine ⟨⟨⟨⟨k2,i2,g1,by rw [e2];exact g2,by rw [e2];exact g3,by rw [hF.off g1 g2];exact g4,by rw [e2];exact g5⟩,?_,h.keep.kind,h.keep.nz⟩,⟨k1,i1,⟨h1,by rw [e1];exact h2,by rw [e1];exact h3,by rw [hF.off h1 h2];exact h4⟩,by rw [e1];exact h5,by rw [e1];exact h6⟩,h.kind_,h.top⟩,fun e=>?_⟩
 ·exact (hF.map _ (by rw [hr];simp)).trans hr
 ·rw [e,ho.vac.2.2.2.2.2] at hr
  cases hr
theorem Rq.new {cl k i kind T' N' m':Nat} {cs':Nat->CS} {cur':Nat->Nat} {f':Nat->Option Nat} {S':Fp} {w':World} (hd:DS a L T' s n K x cs' f' N' m' b0 S' cur' w') (hk:0 < kind/\kind < 128) (ho:z9g s K cs f cur cl cs' cur' k i) (hf:f'=updF f (offO s cs' k i) (some (fptr s cs' kind k i))) :
  Rq s K cs' f' kind (fptr s cs' kind k i) cl/\At s K cs' (fptr s cs' kind k i) k i:=by
 obtain ⟨v1,v2,v3,v4,v5,v6⟩:=ho.vac;have hC:=hd.chw v1 v2;have hL:=hd.hL;have Gf:=hd.line v1;have hi:i < perC (cs' k).cl:=by rw [v3];exact v4
 have Gg:=off_lt hi;have Gb:=(hC.inn i hi).g;have Ga:=hC.good i hi;have Ge:0 < ((cs' k).bs i).gen:=by unfold BK.good at Ga;rw [if_pos v5] at Ga;simp at Ga;omega
 have hO:offO s cs' k i < 34359738368/\offO s cs' k i % 8=0:=by unfold offO blkO;omega
 have hp:pOff (fptr s cs' kind k i)=offO s cs' k i:=z8i hO.2 hO.1;have Gc:At s K cs' (fptr s cs' kind k i) k i:=⟨v1,v2,hi,hp⟩
 have Gd:z1t (fptr s cs' kind k i)=kind:=x1r hO.1 Gb oM;refine ⟨⟨⟨⟨k,i,v1,v2,hi,hp,v5⟩,?_,by rw [Gd];exact hk,x8e Ge,(x1s hO.1 Gb hk.2).1⟩,⟨k,i,Gc,v3,(x8d hO.1 Gb).symm⟩,Gd,(x1s hO.1 Gb hk.2).2⟩,Gc⟩;rw [hf,hp];unfold updF;rw [if_pos rfl]
end
def alW (n:Nat) (al:List Nat):Nat->List Nat
 | 0=>al
 | j+1=>z1e (z1c (n - 456 * j)) :: alW n al j
theorem y5t (n:Nat) (al:List Nat) (c:Nat):∀ (j d:Nat),(alW n al j).count c<=(alW n al (j+d)).count c
 | _,0=>nL _
 | j,d+1=>Nat.le_trans (y5t n al c j d) List.count_le_count_cons
theorem w0f (n:Nat) (al:List Nat) {j k:Nat} (h:j<=k):room (alW n al j)<=room (alW n al k):=x8s (fun c=>by
 have:=y5t n al c j (k - j);rw [show j+(k - j)=k by omega] at this;exact this)
theorem z5q (n:Nat):payW (z1e (z1c n))=z1c n:=by
 have h:∀ c,payW (z1e (payW c))=payW c:=fun c=>match c with
  | 0=>rfl
  | 1=>rfl
  | 2=>rfl
  | 3=>rfl
  | _+4=>rfl
 unfold z1c;split
 ·rfl
 ·exact h _
structure W1 (s K:Nat) (cs0:Nat->CS) (f0:Nat->Option Nat) (cur0:Nat->Nat) (al:List Nat) (n:Nat) (cs:Nat->CS) (f:Nat->Option Nat) (cur:Nat->Nat) (bl:List Nat):Prop where
 fr:Fr s K cs0 f0 cur0 cs f cur
 cap:Cap s K cs f (alW n al bl.length)
 rq:∀ j (h:j < bl.length),Rq s K cs f 1 bl[j] (z1e (z1c (n - 456 * j)))
 nd:(bl.map pOff).Nodup
 fresh:∀ q∈bl,y2d s K cs0 f0 q
 fo:∀ o,o ∉ bl.map pOff->f o=f0 o
theorem W1.start {s K:Nat} {cs0:Nat->CS} {f0:Nat->Option Nat} {cur0:Nat->Nat} {al:List Nat} (n:Nat) (h:Cap s K cs0 f0 al):W1 s K cs0 f0 cur0 al n cs0 f0 cur0 [] :=
 ⟨Fr.refl,h,fun j h=>absurd h (by simp),List.nodup_nil,fun q hq=>absurd hq (by simp),fun _ _=>rfl⟩
theorem y4i {s K:Nat} {cs0 cs cs':Nat->CS} {f0 f:Nat->Option Nat} {cur0 cur _cur':Nat->Nat} {q k i cl:Nat} (hF:Fr s K cs0 f0 cur0 cs f cur) (hF2:∀ k,k < K->(cs k).dv=true->cs' k=cs k) (hv:Vac s K cs' f cl k i) (ha:At s K cs' q k i):y2d s K cs0 f0 q:=fun k2 i2 h2=>by
 obtain ⟨a1,a2,a3,a4⟩:=h2;have e1:=hF.chunk k2 a1 a2;have e2:cs' k2=cs0 k2:=(hF2 k2 a1 (by rw [e1];exact a2)).trans e1;have h3:At s K cs' q k2 i2:=⟨a1,by rw [e2];exact a2,by rw [e2];exact a3,by unfold offO;rw [e2];exact a4⟩
 obtain ⟨rfl,rfl⟩:=ha.uniq h3;obtain ⟨v1,v2,v3,v4,v5,v6⟩:=hv;refine Classical.byContradiction (fun hn=>?_);have:=hF.non a1 a2 a3 hn;refine this ⟨v1,by rw [e1];exact a2,by rw [e1],a3,by rw [e1,<- e2];exact v5,?_⟩;have:offO s cs k i=offO s cs' k i:=by unfold offO;rw [e1,e2]
 rw [this];exact v6
section
variable {a:DA} {L T s n K:Nat} {x:HA} {cs cs0:Nat->CS} {f f0:Nat->Option Nat} {N m b0:Nat} {S:Fp} {cur cur0:Nat->Nat} {w:World}
theorem W1.step {al bl:List Nat} {nn k i T' N' m':Nat} {cs':Nat->CS} {cur':Nat->Nat} {S':Fp} {w':World} (h:W1 s K cs0 f0 cur0 al nn cs f cur bl) (hd:DS a L T s n K x cs f N m b0 S cur w) (ho:z9g s K cs f cur (z1e (z1c (nn - 456 * bl.length))) cs' cur' k i) (hd':DS a L T' s n K x cs' (updF f (offO s cs' k i) (some (fptr s cs' 1 k i))) N' m' b0 S' cur' w') :
  W1 s K cs0 f0 cur0 al nn cs' (updF f (offO s cs' k i) (some (fptr s cs' 1 k i))) cur' (bl++[fptr s cs' 1 k i]):=by
 have Ga:=z7g (z1c (nn - 456 * bl.length));have hF:=Fr.alloc (v:=fptr s cs' 1 k i) hd Ga ho;obtain ⟨hq,Gb⟩:=Rq.new hd' (kind:=1) oM ho rfl;refine ⟨h.fr.trans hF,?_,fun j hj=>?_,?_,fun q hq'=>?_,fun o ho'=>?_⟩
 ·rw [List.length_append]
  exact h.cap.alloc hd Ga ho
 ·rw [List.length_append] at hj
  by_cases e:j < bl.length
  ·rw [List.getElem_append_left e]
   exact ((h.rq j e).step hd Ga ho).1
  ·have:j=bl.length:=by simp at hj;omega
   subst this;rw [List.getElem_append_right (nL _)];simpa using hq
 ·rw [List.map_append,List.nodup_append]
  refine ⟨h.nd,by simp,fun u hu v hv=>?_⟩;obtain ⟨q,Gc,rfl⟩:=List.mem_map.1 hu;have Gd:v=pOff (fptr s cs' 1 k i):=by
   rw [List.map_cons,List.map_nil,List.mem_singleton] at hv;exact hv
  obtain ⟨j,hj,e⟩:=List.getElem_of_mem Gc;rw [Gd,Gb.2.2.2,<- e];exact ((h.rq j hj).step (v:=0) hd Ga ho).2
 ·rcases List.mem_append.1 hq' with h1 | h1
  ·exact h.fresh q h1
  ·simp at h1
   subst h1;exact y4i (_cur':=cur') h.fr hF.chunk ho.vac Gb
 ·rw [List.map_append,List.mem_append] at ho'
  unfold updF;rw [if_neg (fun e=>ho' (.inr (by simp [e,Gb.2.2.2])))];exact h.fo o (fun h1=>ho' (.inl h1))
end
structure W2 (s K:Nat) (cs0:Nat->CS) (f0:Nat->Option Nat) (cur0:Nat->Nat) (al:List Nat) (p:List Nat) (cs:Nat->CS) (f:Nat->Option Nat) (cur:Nat->Nat) (bl:List Nat) (i:Nat):Prop where
 w1:W1 s K cs0 f0 cur0 al p.length cs f cur bl
 words:∀ j (h:j < bl.length),j < i->z2t cur bl[j] (payL (bl.getD (j+1) 0) (p.drop (456 * j)))
theorem W2.step {s K:Nat} {cs0 cs:Nat->CS} {f0 f:Nat->Option Nat} {cur0 cur:Nat->Nat} {al p bl:List Nat} {i:Nat} (h:W2 s K cs0 f0 cur0 al p cs f cur bl i) (hi:i < bl.length):W2 s K cs0 f0 cur0 al p cs f (wrS cur (pwW (pOff bl[i]) (payL (bl.getD (i+1) 0) (p.drop (456 * i))))) bl (i+1):=by
 have Ga:∀ j,(payL (bl.getD (j+1) 0) (p.drop (456 * j))).length=z1c (p.length - 456 * j):=fun j=>by rw [z3n,List.length_drop]
 have Gb:∀ j (hj:j < bl.length),∃ k i2,At s K cs bl[j] k i2/\payW (cs k).cl=z1c (p.length - 456 * j):=fun j hj=>by
  obtain ⟨k,i2,h1,h2,_⟩:=(h.w1.rq j hj).cls;exact ⟨k,i2,h1,by rw [h2,z5q]⟩
 obtain ⟨k,i2,h1,h2⟩:=Gb i hi;have Gc:∀ j (hj:j < bl.length),j≠i->pOff bl[j]≠pOff bl[i]:=fun j hj hji e=>by
  have hn:=List.nodup_iff_pairwise_ne.1 h.w1.nd;rw [List.pairwise_map] at hn;have hp:=List.pairwise_iff_getElem.1 hn;rcases Nat.lt_or_gt_of_ne hji with h3 | h3
  ·exact hp j i hj hi h3 e
  ·exact hp i j hi hj h3 e.symm
 refine ⟨⟨⟨fun y hy=>?_,h.w1.fr.chunk,h.w1.fr.map,fun k3 i3 hk hdv hi3 hn j hj=>?_,h.w1.fr.neu⟩,h.w1.cap,h.w1.rq,h.w1.nd,h.w1.fresh,h.w1.fo⟩,fun j hj hji=>?_⟩
 ·rw [z4l h1 (by rw [Ga,h2];omega) (fun j hj=>oM)]
  exact h.w1.fr.head y hy
 ·rw [z4l h1 (by rw [Ga,h2];omega) (fun j2 hj2=>?_)]
  ·exact h.w1.fr.held k3 i3 hk hdv hi3 hn j hj
  ·have e3:=h.w1.fr.chunk k3 hk hdv
   have h4:=z4k (s:=s) (cs:=cs) (k:=k3) (i:=i3) (k':=k) (i':=i2) (j:=j) (j':=j2) (by rw [e3];exact hi3) h1.2.2.1 (by rw [e3];exact hj) hj2 (fun ⟨q1,q2⟩=>by
    subst q1 q2;refine hn (h.w1.fresh bl[i] (List.getElem_mem hi) k3 i3 ⟨hk,hdv,hi3,?_⟩);rw [h1.2.2.2,h.w1.fr.off hk hdv])
   rw [e3] at h4;exact h4
 ·by_cases e:j=i
  ·subst e
   exact y7w
  ·intro y hy
   have hw:=h.words j hj oM y hy;obtain ⟨k3,i3,h3,h4⟩:=Gb j hj;rw [Ga] at hy;have hl:=h3.lines.1;refine (z4l h1 (by rw [Ga,h2];omega) (fun j2 hj2=>?_)).trans hw;rw [hl];exact z4k h3.2.2.1 h1.2.2.1 oM hj2 (fun ⟨q1,q2⟩=>by
    subst q1 q2;exact Gc j hj e (h3.2.2.2.trans h1.2.2.2.symm))
end
section
open Go.RowKit Go.Maps
def w3n (a:DA) (L T K b0:Nat) (cs:Nat->CS) (S:Fp) (cur:Nat->Nat) (w:World) (e:Ending) (w':World):Prop:=∃ x y,e=.returned (.pointer (some ⟨y.g,0,none⟩))/\BW a L T K x y cs (fun _=>none) 0 0 b0 S cur w'/\Blw w w'
theorem y2k (cs:Nat->CS) {a:DA} {L T K b0:Nat} {w:World} {S:Fp} {cur:Nat->Nat} (h:Dev a L T w S cur 0) (hdi:a.dirty=fun _=>False) (hL:L=53+32 * K) (hK:1<=K) (hK12:K<=12) (ht:Tab w) (hpy:Pay w) (hp:cur (8 * 0)=0/\cur (8 * 26)=0/\(∀ k,k < K->CSok cur (53+32 * k) (cs k))/\∀ i,cur i < 18446744073709551616) (hb0:1 < b0/\0 < b0/\b0<=w.heap.size/\∀ k,S k->b0<=k) :
  Calls Tryz.prog 102 #[.pointer (some ⟨a.d,0,none⟩),.int .i64 K] w (w3n a L T K b0 cs S cur w):=by
 have HD:=hid h;have HT:=hid ht;have HP:=hid hp;have G8:=hid hpy;have GM:=hid hb0;have GP:=hid (show L=53+32 * K/\1<=K/\K<=12 from ⟨hL,hK,hK12⟩);have GC:=hid (z8n h);have GO:=hid hdi;have G9:=hid (y7x h 0 26 oM oM);have Ga:Blw w (w.alloc (.cells (z1h a 0 26) 353)):=(Below.refl _ _).alloc (nL _) _;have G0:=hid Ga;have Gv:=hid (Blk.new w 353 (z1h a 0 26));have GA:=hid (z9k (h.below Ga) w.heap.size 0 26 Gv.out oM hp.1);have G6:((32 * K:Nat):Int)=32 * (K:Int):=oM;have GH:26+26<=L:=oM;have GG:53+32 * K<=L:=oM;have GF:32<=32 * K:=oM;have GE:32 * K / 32=K:=oM;have Gd:=hid (show 26+26<=L/\53+32 * K<=L/\32<=32 * K/\32 * K / 32=K from ⟨GH,GG,GF,GE⟩);clear h ht hp Ga hpy hb0 hL hK GH GG GF GE hdi;unfold memV at *;go_enter Tryz.func102,Tryz.ntmps102
 go_wp2_with (first
  | (go_at_call 71;refine GC.out.mono ?_;rintro e w1 ⟨rfl,rfl⟩)
  | (go_at_call 177;refine G9.out.mono ?_;rintro e w1 ⟨rfl,rfl⟩)
  | fail)
 generalize (w.alloc (.cells (z1h a 0 26) 353))=W at *;clear G9 GC;refine GA.out.mono ?_;rintro e W1 ⟨rfl,Ga⟩;have Gl:=hid (G0.out.trans (Ga.mono G0.out.size));have Gn:=hid (Gv.out.below Ga Gv.out.lt);have G2:=hid (y8d (HD.out.below Gl.out) 26 26 oM Gd.out.1);clear GA Ga Gv G0;unfold memV at G2;go_wp2_with fail
 refine G2.out.mono ?_;rintro e W2 ⟨rfl,rfl⟩;have Gt:=hid (Gl.out.alloc Gl.out.size (.cells (z2f a 26 26) 330));have Gf:=hid (Gn.out.alloc (.cells (z2f a 26 26) 330));have Gb:=hid (Blk.new W1 330 (z2f a 26 26));have G3:=hid (z9m (HD.out.below Gt.out) W1.heap.size 26 26 Gb.out (by have:=Gd.out.1;omega) oM oM HP.out.2.1);have G7:=hid (Nat.le_trans Gl.out.size (nL W1.heap.size));obtain ⟨u,hu⟩:∃ u,W1.heap.size=u:=⟨_,rfl⟩
 rw [hu] at Gb G3 G7 ⊢;generalize W1.alloc (.cells (z2f a 26 26) 330)=W3 at *;clear G2 Gl Gn hu;go_wp2_with fail
 refine G3.out.mono ?_;rintro e W4 ⟨rfl,Ga⟩;have Ge:=hid (Gt.out.trans (Ga.mono Gt.out.size));have Gg:=hid (Gf.out.below Ga Gf.out.lt);have Gi:=hid (Gb.out.below Ga Gb.out.lt);have Gw:=hid (y4k cs (HD.out.below Ge.out) (HT.out.below Ge.out) (G8.out.below Ge.out) 53 (32 * K) K Gd.out.2.2.1 Gd.out.2.1 Gd.out.2.2.2 HP.out.2.2.1);rw [G6] at Gw;clear G3 Ga Gf Gb Gt;unfold memV at Gw;have GD:K<=12:=hK12;go_wp2_with fail
 refine Gw.out.mono ?_;rintro e W5 ⟨x,rfl,GJ,Gs,Ga⟩;have Gk:=hid (Ge.out.trans (Ga.mono Ge.out.size));have Gh:=hid (Gg.out.below Ga Gg.out.lt);have Gj:=hid (Gi.out.below Ga Gi.out.lt);have Gp:=hid GJ;have Gq:=hid (show w.heap.size<=x.h/\w.heap.size<=x.gs/\w.heap.size<=x.pl/\w.heap.size<=x.mr/\w.heap.size<=x.mh by obtain ⟨l1,l2,l3,l4,l5⟩:=Gs;have:=Ge.out.size;exact ⟨oM,oM,oM,oM,oM⟩);clear Gw Ga Gg Gi Ge GJ Gs;obtain ⟨W6,Gr⟩:∃ W6,W5.alloc (.cells (z1k a x.h w.heap.size) 240)=W6:=⟨_,rfl⟩
 obtain ⟨W7,Gz⟩:∃ W7,W6.alloc (.cells (z9w (some ⟨a.th 0,0,none⟩) (some ⟨w.heap.size,0,none⟩) (some ⟨u,0,none⟩) (some ⟨x.h,0,none⟩) none) 200)=W7:=⟨_,rfl⟩
 have GQ:Hid (Calls Tryz.prog 200 #[.pointer (some ⟨x.h,0,none⟩),.pointer (some ⟨a.th 0,0,none⟩),.pointer (some ⟨w.heap.size,0,none⟩)] W5 fun e w'=>e=.returned (.pointer (some ⟨W5.heap.size,0,none⟩))/\W6=w'):=hid ((y4s x.h (a.th 0) w.heap.size W5).mono (fun e w' h=>⟨h.1,by rw [<- Gr];exact h.2.symm⟩));have GR:Hid (Calls Tryz.prog 182 #[.pointer (some ⟨a.th 0,0,none⟩),.pointer (some ⟨w.heap.size,0,none⟩),.pointer (some ⟨u,0,none⟩),.pointer (some ⟨x.h,0,none⟩)] W6 fun e w'=>e=.returned (.pointer (some ⟨W6.heap.size,0,none⟩))/\W7=w'):=hid ((x9j (some ⟨a.th 0,0,none⟩) (some ⟨w.heap.size,0,none⟩) (some ⟨u,0,none⟩) (some ⟨x.h,0,none⟩) W6).mono (fun e w' h=>⟨h.1,by rw [<- Gz];exact h.2.symm⟩));have GI:Blw W5 W6:=by rw [<- Gr];exact (Below.refl _ _).alloc (nL _) _
 have G4:Blw W6 W7:=by rw [<- Gz];exact (Below.refl _ _).alloc (nL _) _
 have GL:W6.heap.size=W5.heap.size+1:=by rw [<- Gr];simp
 have G5:Blk W6 W5.heap.size 240 (z1k a x.h w.heap.size):=by rw [<- Gr];exact Blk.new _ _ _
 have GK:Blk W7 W6.heap.size 200 (z9w (some ⟨a.th 0,0,none⟩) (some ⟨w.heap.size,0,none⟩) (some ⟨u,0,none⟩) (some ⟨x.h,0,none⟩) none):=by rw [<- Gz];exact Blk.new _ _ _
 have Gc:Hid (Blw W5 W7):=hid (GI.trans (G4.mono oM));have GN:=hid (Gk.out.trans (Gc.out.mono Gk.out.size));have G1:=hid (G5.below G4 G5.lt);have Gx:=hid GK;have GB:=hid (show W6.heap.size=W5.heap.size+1/\w.heap.size<=W5.heap.size from ⟨GL,Gk.out.size⟩);clear Gr Gz GI G4 GL G5 GK;go_upto_region 20 with (first
  | (go_at_call 200;refine GQ.out.mono ?_;rintro e Wz ⟨rfl,rfl⟩)
  | (go_at_call 182;refine GR.out.mono ?_;rintro e Wz ⟨rfl,rfl⟩))
 have Gu:=hid (Blk.new W7 61 (y3z a x ⟨W7.heap.size,W5.heap.size,w.heap.size,u,W6.heap.size⟩ K));have Gm:Hid (Blw W7 (W7.alloc (.cells (y3z a x ⟨W7.heap.size,W5.heap.size,w.heap.size,u,W6.heap.size⟩ K) 61))):=hid ((Below.refl _ _).alloc (nL _) _);unfold y3z at Gm Gu;generalize hW8:W7.alloc (.cells #[.pointer (some ⟨a.d,0,none⟩),.pointer (some ⟨a.th 0,0,none⟩),.pointer (some ⟨x.h,0,none⟩),.pointer (some ⟨W5.heap.size,0,none⟩),.pointer (some ⟨W6.heap.size,0,none⟩),.int .i64 K] 61)=W8 at *;have f3:W8.cell? ⟨W7.heap.size,3,none⟩=some (.pointer (some ⟨W5.heap.size,0,none⟩)):=Gu.out.cell 3;have f4:W8.cell? ⟨W7.heap.size,4,none⟩=some (.pointer (some ⟨W6.heap.size,0,none⟩)):=Gu.out.cell 4;have HF:Hid (w3n a L T K b0 cs S cur w (.returned (.pointer (some ⟨W7.heap.size,0,none⟩))) W8):=hid (by
  have Gy:Blw W5 W8:=Gc.out.trans (Gm.out.mono Gc.out.size);have h8:Blw w W8:=Gk.out.trans (Gy.mono Gk.out.size);obtain ⟨l1,l2,l3,l4,l5⟩:=Gq.out;obtain ⟨b1,b2,b3,b4⟩:=GM.out;obtain ⟨k1,k2,k3⟩:=GP.out;obtain ⟨s1,s2⟩:=GB.out;have s7:W6.heap.size<=W7.heap.size:=by have:=Gx.out.lt;omega
  have hS:∀ g,w.heap.size<=g->¬ S g:=fun g hg hs=>by have:=HD.out.lt _ hs;omega
  have hu:=G7.out;refine ⟨x,⟨W7.heap.size,W5.heap.size,w.heap.size,u,W6.heap.size⟩,rfl,⟨⟨⟨HD.out.below h8,Gp.out.below Gy,HP.out.2.2.1,HP.out.2.2.2,fun o p h=>(by cases h),HT.out.below h8,G8.out.below h8,⟨b1,b2,oM,oM,oM,oM,oM,b4⟩,⟨hS _ l1,hS _ l2,hS _ l3,hS _ l4,hS _ l5⟩,⟨Gd.out.2.2.2,k2,Gd.out.2.1,oM⟩⟩,G1.out.below Gm.out G1.out.lt,Gh.out.below Gy Gh.out.lt,HP.out.1,hS _ s2,hS _ (nL _),oM⟩,Gu.out,Gj.out.below Gy Gj.out.lt,Gx.out.below Gm.out Gx.out.lt,HP.out.2.1,⟨hS _ (by show w.heap.size<=W7.heap.size;omega),hS _ hu,hS _ (by show w.heap.size<=W6.heap.size;omega)⟩,⟨by show b0<=W7.heap.size;omega,by show b0<=W5.heap.size;omega,b3,by show b0<=u;omega,by show b0<=W6.heap.size;omega⟩,k1,k3,GO.out⟩,h8⟩)
 clear Gk Gh Gj Gp Gq Gc GN G1 Gx GB Gm hW8;go_wp2_with fail
 go_ret;exact HF.out
section
variable {s K:Nat} {cs:Nat->CS} {f:Nat->Option Nat}
theorem At.lo {q k i:Nat} (h:At s K cs q k i):pOff q=64 * (s+32 * k)+8 * offB (cs k).cl i+8:=by
 have:=h.2.2.2;unfold offO blkO at this;omega
theorem At.fnd {q k i:Nat} (h:At s K cs q k i):fndC (s+32 * k) (cs k).cl (pOff q)=some i:=by
 have h1:=h.lo;have h2:=off_lt h.2.2.1;have h3:=z5k (cs k).cl;have e:(pOff q - 64 * (s+32 * k)) / 8=9+i * (payW (cs k).cl+1):=by unfold offB at h1;omega
 unfold fndC;rw [if_neg oM,e];unfold y1u;have e2:9+i * (payW (cs k).cl+1) - 9=i * (payW (cs k).cl+1):=oM;have hi:=h.2.2.1;rw [if_neg (by unfold offB at h2;omega),e2,Nat.mul_mod_left,Nat.mul_div_cancel _ oM,if_neg oM]
theorem At.home {q k i:Nat} (h:At s K cs q k i):z3m s K (pOff q)=some k:=by
 rw [h.2.2.2];exact z8b h.1 h.2.2.1
structure z3z (s K:Nat) (cs:Nat->CS) (q kind k i:Nat):Prop where
 at_:At s K cs q k i
 bk:(cs k).bs i=⟨pGen q,kind,177⟩
 kind_:z1t q=kind
 nz:q≠0
 lt:q < 18446744073709551616
 top:q / 72057594037927936=0
def Live (s K:Nat) (cs:Nat->CS) (q kind:Nat):Prop:=∃ k i,z3z s K cs q kind k i
theorem Live.chk {q kind:Nat} (h:Live s K cs q kind):chkR s K cs q kind=0/\chkR s K cs q 0=0:=by
 obtain ⟨k,i,h⟩:=h;have hb:blkR (s+32 * k) (cs k).cl (cs k).bs q=(i,0):=by
  unfold blkR;rw [if_neg h.nz,h.at_.fnd];show (if q / 72057594037927936≠0 then _ else _)=_;rw [h.bk,h.top,h.kind_,if_neg oM,if_neg (by simp),if_neg (by simp)]
 have hc:∀ kd,chkR s K cs q kd=if kd≠0/\kd≠z1t q then 13 else 0:=fun kd=>by
  unfold chkR;rw [if_neg h.nz,h.top,if_neg oM,h.at_.home];show (if (cs k).dv=true then _ else _)=_;rw [if_pos h.at_.2.1,hb,if_neg (by simp)]
 rw [hc,hc,h.kind_];simp
theorem y8w {L:Nat} {cur:Nat->Nat} {chk:Nat->Nat} {bl p:List Nat} (hlen:bl.length=nBlk p.length) (hp:p.length<=2000) (hw:∀ j (h:j < bl.length),z2t cur bl[j] (payL (bl.getD (j+1) 0) (p.drop (456 * j))))
  (hq:∀ j (h:j < bl.length),pOff bl[j]+8 * z1c (p.length - 456 * j)<=64 * L/\bl[j]≠0/\bl[j] < 18446744073709551616/\chk bl[j]=0):∀ d j,j+d+1=bl.length->y5p L cur chk (bl.drop j) (p.drop (456 * j)):=fun d=>by
 induction d with
 | zero =>
  intro j hj;have Ga:j < bl.length:=oM;obtain ⟨q1,q2,q3,q4⟩:=hq j Ga;have e:bl.drop j=[bl[j]]:=by rw [List.drop_eq_getElem_cons Ga,List.drop_of_length_le oM]
  have Gb:=hw j Ga;rw [List.getD_eq_getElem?_getD,List.getElem?_eq_none oM] at Gb;rw [e];refine ⟨Gb,by rw [List.length_drop];omega,by rw [List.length_drop];exact q1,?_,q2,q3,q4,fun h=>absurd rfl h⟩;rw [List.length_drop];unfold nBlk at hlen;constructor
  ·intro h;split at hlen <;> omega
  ·intro h;exact absurd rfl h
 | succ d ih =>
  intro j hj;have Ga:j < bl.length:=oM;obtain ⟨q1,q2,q3,q4⟩:=hq j Ga;have e:bl.drop j=bl[j] :: bl.drop (j+1):=List.drop_eq_getElem_cons Ga;have Gc:bl.drop (j+1)≠[]:=fun h=>by have:=congrArg List.length h;rw [List.length_drop] at this;simp at this;omega
  have hh:(bl.drop (j+1)).headD 0=bl.getD (j+1) 0:=by
   rw [List.drop_eq_getElem_cons (show j+1 < bl.length by omega),List.getD_eq_getElem?_getD,List.getElem?_eq_getElem (show j+1 < bl.length by omega)];rfl
  rw [e];refine ⟨by rw [hh];exact hw j Ga,by rw [List.length_drop];omega,by rw [List.length_drop];exact q1,?_,q2,q3,q4,fun _=>?_⟩
  ·rw [List.length_drop]
   unfold nBlk at hlen;constructor
   ·intro _;exact Gc
   ·intro h;split at hlen <;> omega
  ·rw [List.drop_drop,show 456 * j+456=456 * (j+1) by omega]
   exact ih (j+1) oM
end
section
variable {s K:Nat} {cs:Nat->CS} {f:Nat->Option Nat} {keep free ks:List Nat} {V:Nat->Nat}
theorem At.pub {q k i:Nat} {tl:Nat->List (Nat × Nat)} {dl:Nat->List Nat} (h:At s K cs q k i):At s K (acC cs ks tl dl V) q k i:=by
 obtain ⟨e1,e2,_⟩:=z5o cs ks tl dl V k;refine ⟨h.1,by rw [e1];exact h.2.1,by rw [e2];exact h.2.2.1,?_⟩;rw [h.2.2.2];unfold offO;rw [e2]
theorem w8v {q k i:Nat} (h:At s K cs q k i) (hq:q∈keep):(i,z1t q)∈tlOf s cs keep k:=by
 obtain ⟨e1,e2⟩:=z5v h.2.2.1 h.2.2.2;unfold tlOf;exact List.mem_map.2 ⟨q,List.mem_filter.2 ⟨hq,by rw [beq_iff_eq];exact e1⟩,by rw [e2]⟩
theorem w7r {q k i:Nat} (h:At s K cs q k i) (hq:q∈free):i∈dlOf s cs free k:=by
 obtain ⟨e1,e2⟩:=z5v h.2.2.1 h.2.2.2;unfold dlOf;exact List.mem_map.2 ⟨q,List.mem_filter.2 ⟨hq,by rw [beq_iff_eq];exact e1⟩,e2⟩
theorem y4z {q kind c:Nat} (h:AOk s K cs ks (tlOf s cs keep) (dlOf s cs free) V) (hks:∀ k,k∈ks↔k < K/\(tlOf s cs keep k≠[]\/dlOf s cs free k≠[])) (hr:Rq s K cs f kind q c) (hq:q∈keep) (_h128:kind < 128):∃ k i,z3z s K (acC cs ks (tlOf s cs keep) (dlOf s cs free) V) q kind k i/\(cs k).cl=c/\At s K cs q k i:=by
 obtain ⟨k,i,ha,hc,hg⟩:=hr.cls;have hm:=w8v ha hq;have hk:k∈ks:=(hks k).2 ⟨ha.1,.inl (fun e=>by rw [e] at hm;exact absurd hm (by simp))⟩;refine ⟨k,i,⟨ha.pub,?_,hr.kind_,hr.keep.nz.1,hr.keep.nz.2,hr.top⟩,hc,ha⟩
 ·unfold acC
  rw [if_pos hk];show actB (cs k).bs _ _ i=_;have:=y3v (bs:=(cs k).bs) (h.once k hk) hm;rw [this,hr.kind_];unfold z2v;rw [hg]
theorem x8m {k i:Nat} (hkp:∀ p∈keep,∃ k i,At s K cs p k i) (hfr:∀ p∈free,∃ k i,At s K cs p k i) (hi:i < perC (cs k).cl) (h1:∀ p∈keep,pOff p≠offO s cs k i) (h2:∀ p∈free,pOff p≠offO s cs k i):(acC cs ks (tlOf s cs keep) (dlOf s cs free) V k).bs i=(cs k).bs i:=by
 unfold acC;split
 ·show actB (cs k).bs _ _ i=_
  refine z9n (fun hm=>?_) (fun hm=>?_)
  ·obtain ⟨e,he,rfl⟩:=List.mem_map.1 hm
   unfold tlOf at he;obtain ⟨p,hp,rfl⟩:=List.mem_map.1 he;obtain ⟨Ga,Gb⟩:=List.mem_filter.1 hp;obtain ⟨k2,i2,ha⟩:=hkp p Ga;obtain ⟨e1,e2⟩:=z5v ha.2.2.1 ha.2.2.2;rw [beq_iff_eq] at Gb;have Gc:k2=k:=e1.symm.trans Gb;subst Gc;refine h1 p Ga ?_;show pOff p=offO s cs k2 (iOf s cs p);rw [e2];exact ha.2.2.2
  ·unfold dlOf at hm
   obtain ⟨p,hp,Gd⟩:=List.mem_map.1 hm;obtain ⟨Ga,Gb⟩:=List.mem_filter.1 hp;obtain ⟨k2,i2,ha⟩:=hfr p Ga;obtain ⟨e1,e2⟩:=z5v ha.2.2.1 ha.2.2.2;rw [beq_iff_eq] at Gb;have Gc:k2=k:=e1.symm.trans Gb;subst Gc;refine h2 p Ga ?_;rw [<- Gd,e2];exact ha.2.2.2
 ·rfl
theorem z9x {q kind k i:Nat} (hkp:∀ p∈keep,∃ k i,At s K cs p k i) (hfr:∀ p∈free,∃ k i,At s K cs p k i) (h:z3z s K cs q kind k i) (h1:∀ p∈keep,pOff p≠pOff q) (h2:∀ p∈free,pOff p≠pOff q):z3z s K (acC cs ks (tlOf s cs keep) (dlOf s cs free) V) q kind k i :=
 ⟨h.at_.pub,(x8m hkp hfr h.at_.2.2.1 (fun p hp e=>h1 p hp (e.trans h.at_.2.2.2.symm)) (fun p hp e=>h2 p hp (e.trans h.at_.2.2.2.symm))).trans h.bk,h.kind_,h.nz,h.lt,h.top⟩
theorem Cap.pub {al:List Nat} (h:Cap s K cs f al) (hkp:∀ p∈keep,y0b s K cs f p) (hfr:∀ p∈free,y2c s K cs p):Cap s K (acC cs ks (tlOf s cs keep) (dlOf s cs free) V) (relF f keep) al:=by
 refine h.same (fun k _=>⟨(z5o cs ks _ _ V k).1,(z5o cs ks _ _ V k).2.1⟩) (fun k i hk hdv hi hv=>?_);obtain ⟨_,_,_,_,v5,v6⟩:=hv;obtain ⟨e1,e2,_⟩:=z5o cs ks (tlOf s cs keep) (dlOf s cs free) V k;have h1:∀ p∈keep,pOff p≠offO s cs k i:=fun p hp e=>by
  have:=(hkp p hp).res;rw [e,v6] at this;cases this
 have h2:∀ p∈free,pOff p≠offO s cs k i:=fun p hp e=>by
  obtain ⟨k2,i2,g1,g2,g3,g4,g5⟩:=(hfr p hp).loc;obtain ⟨rfl,rfl⟩:=z7u g3 hi (g4.symm.trans e);omega
 refine ⟨hk,by rw [e1];exact hdv,e2,hi,?_,?_⟩
 ·have hb:=x8m (ks:=ks) (V:=V) (keep:=keep) (free:=free) (cs:=cs) (s:=s) (K:=K) (fun p hp=>by
   obtain ⟨k2,i2,g1,g2,g3,g4,g5⟩:=(hkp p hp).loc;exact ⟨k2,i2,g1,g2,g3,g4⟩) (fun p hp=>by
   obtain ⟨k2,i2,g1,g2,g3,g4,g5⟩:=(hfr p hp).loc;exact ⟨k2,i2,g1,g2,g3,g4⟩) hi h1 h2
  rw [hb];exact v5
 ·have e:offO s (acC cs ks (tlOf s cs keep) (dlOf s cs free) V) k i=offO s cs k i:=by unfold offO;rw [e2]
  rw [e,y5c]
  ·exact v6
  ·intro hm
   obtain ⟨p,hp,Ga⟩:=List.mem_map.1 hm;exact h1 p hp Ga
end
end
section
open Go.RowKit Go.Maps
def z3d (k j:Nat) (al:List Nat):Prop:=al.count 0<=3 * k+2 * j/\al.count 1<=2 * k+2 * j/\al.count 2<=2 * k+2 * j/\al.count 3<=k+j/\al.count 4<=k+j
theorem x2b {k j:Nat} {al:List Nat} (hk:k+j<=8) (h:z3d k j al):room al<=10:=by
 obtain ⟨h0,h1,h2,h3,h4⟩:=h;have n0:=z2j (c:=0) (show al.count 0<=24 by omega);have n1:=z2j (c:=1) (show al.count 1<=16 by omega);have n2:=z2j (c:=2) (show al.count 2<=16 by omega);have n3:=z2j (c:=3) (show al.count 3<=8 by omega);have n4:=z2j (c:=4) (show al.count 4<=8 by omega);have e0:need 24 0=1:=by decide
 have e1:need 16 1=1:=by decide
 have e2:need 16 2=2:=by decide
 have e3:need 8 3=2:=by decide
 have e4:need 8 4=2:=by decide
 unfold room;omega
theorem z3d.nil:z3d 0 0 []:=by
 unfold z3d;simp
theorem z3d.ver {k j:Nat} {al:List Nat} (hj:j<=1) (h:z3d k j al):z3d (k+1) 0 (0 :: al):=by
 obtain ⟨h0,h1,h2,h3,h4⟩:=h;unfold z3d;simp only [List.count_cons];simp;omega
theorem x6m {m:Nat} (h:m<=44):z1e (z1c m)<=2:=by
 unfold z1c;rw [if_neg oM];have:z1e (3+(m+7) / 8)<=2:=by
  unfold z1e;split
  ·omega
  split
  ·omega
  rw [if_pos oM];omega
 rcases Nat.lt_or_ge (z1e (3+(m+7) / 8)) 1 with h0 | h0
 ·rw [show z1e (3+(m+7) / 8)=0 by omega]
  decide
 ·rcases Nat.lt_or_ge (z1e (3+(m+7) / 8)) 2 with h1 | h1
  ·rw [show z1e (3+(m+7) / 8)=1 by omega]
   decide
  ·rw [show z1e (3+(m+7) / 8)=2 by omega]
   decide
theorem z3d.blob {k n:Nat} {al:List Nat} (hn:n<=500) (h:z3d k 0 al):z3d k 1 (alW n al (nBlk n)):=by
 obtain ⟨h0,h1,h2,h3,h4⟩:=h;by_cases h456:n<=456
 ·have e:alW n al (nBlk n)=z1e (z1c n) :: al:=by
   unfold nBlk;rw [if_pos h456];rfl
  rw [e];unfold z3d;simp only [List.count_cons];generalize z1e (z1c n)=c;refine ⟨?_,?_,?_,?_,?_⟩ <;> split <;> omega
 ·have e:alW n al (nBlk n)=z1e (z1c (n - 456)) :: z1e (z1c n) :: al:=by
   unfold nBlk;rw [if_neg h456,show (n - 1) / 456+1=2 by omega];rfl
  have e2:z1e (z1c n)=4:=by
   unfold z1c;rw [if_pos oM];decide
  have h5:=x6m (show n - 456<=44 by omega);rw [e,e2];unfold z3d;simp only [List.count_cons];generalize z1e (z1c (n - 456))=c at *;have hc:c=0\/c=1\/c=2:=oM;rcases hc with rfl | rfl | rfl <;> simp <;> omega
end
end Go.Proofs.YtfkjjoglnmeciaaGreatDoor
