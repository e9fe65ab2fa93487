/- part 5 -/
import Derived.Test.YtfkjjoglnmeciaaGreatDoorMad
import Derived.Deep.Fields
namespace Go.Proofs.YtfkjjoglnmeciaaGreatDoor
open Go.Lib (hid)
section
def gv (ys:List Nat) (i:Nat):Nat:=ys.getD i 0
def sw (ys:List Nat) (i j:Nat):List Nat:=(ys.set i (gv ys j)).set j (gv ys i)
theorem x7d {ys:List Nat} {i:Nat} (h:i < ys.length):gv ys i=ys[i]:=by
 simp [gv,List.getD,List.getElem?_eq_getElem h]
theorem w8t (ys:List Nat) (i j:Nat):(sw ys i j).length=ys.length:=by simp [sw]
theorem w1k {ys:List Nat} {i j:Nat} (hi:i < ys.length) (hj:j < ys.length) (k:Nat):gv (sw ys i j) k=if k=j then gv ys i else if k=i then gv ys j else gv ys k:=by
 unfold gv sw;simp only [List.getD_eq_getElem?_getD,List.getElem?_set,List.length_set];by_cases h1:k=j
 ·subst h1;simp [hj,gv]
 ·by_cases h2:k=i
  ·subst h2;simp [h1,hi,gv,Ne.symm h1]
  ·simp [h1,h2,Ne.symm h1,Ne.symm h2]
theorem z3k {ys:List Nat} {i j:Nat} (hi:i < ys.length) (hj:j < ys.length):gv (sw ys i j) i=gv ys j:=by
 rw [w1k hi hj];by_cases h:i=j
 ·subst h;simp
 ·simp [h]
theorem z5r {ys:List Nat} {i j:Nat} (hi:i < ys.length) (hj:j < ys.length):gv (sw ys i j) j=gv ys i:=by
 rw [w1k hi hj];simp
theorem z1l {ys:List Nat} {i j k:Nat} (hi:i < ys.length) (hj:j < ys.length) (h1:k≠i) (h2:k≠j):gv (sw ys i j) k=gv ys k:=by
 rw [w1k hi hj];simp [h1,h2]
theorem w6k {ys:List Nat} {i j:Nat} (hi:i < ys.length) (hj:j < ys.length):(sw ys i j).Perm ys:=by
 unfold sw;rw [x7d hi,x7d hj];exact List.set_set_perm hi hj
structure PI (a b:Nat) (xs ys:List Nat):Prop where
 perm:ys.Perm xs
 out:∀ k,k < a\/b<=k->gv ys k=gv xs k
 all:∀ Q:Nat->Prop,(∀ k,a<=k->k < b->Q (gv xs k))->∀ k,a<=k->k < b->Q (gv ys k)
theorem PI.refl (a b:Nat) (xs:List Nat):PI a b xs xs:=⟨List.Perm.refl _,fun _ _=>rfl,fun _ h=>h⟩
theorem PI.trans {a b:Nat} {xs ys zs:List Nat} (h:PI a b xs ys) (k:PI a b ys zs):PI a b xs zs :=
 ⟨k.perm.trans h.perm,fun i hi=>(k.out i hi).trans (h.out i hi),fun Q hQ=>k.all Q (h.all Q hQ)⟩
theorem PI.len {a b:Nat} {xs ys:List Nat} (h:PI a b xs ys):ys.length=xs.length:=h.perm.length_eq
theorem PI.sw {a b:Nat} {ys:List Nat} {i j:Nat} (hi:a<=i/\i < b) (hj:a<=j/\j < b) (hb:b<=ys.length):PI a b ys (sw ys i j):=by
 have i1:i < ys.length:=oM;have j1:j < ys.length:=oM;refine ⟨w6k i1 j1,fun k hk=>z1l i1 j1 oM oM,fun Q hQ k hk1 hk2=>?_⟩;rw [w1k i1 j1];by_cases h1:k=j
 ·rw [if_pos h1];exact hQ i hi.1 hi.2
 ·rw [if_neg h1]
  by_cases h2:k=i
  ·rw [if_pos h2];exact hQ j hj.1 hj.2
  ·rw [if_neg h2];exact hQ k hk1 hk2
theorem PI.step {a b:Nat} {xs ys:List Nat} (h:PI a b xs ys) {i j:Nat} (hi:a<=i/\i < b) (hj:a<=j/\j < b) (hb:b<=ys.length):PI a b xs (Go.Proofs.YtfkjjoglnmeciaaGreatDoor.sw ys i j):=h.trans (PI.sw hi hj hb)
theorem PI.widen {a b a' b':Nat} {xs ys:List Nat} (h:PI a b xs ys) (ha:a'<=a) (hb:b<=b'):PI a' b' xs ys:=by
 refine ⟨h.perm,fun k hk=>h.out k oM,fun Q hQ k hk1 hk2=>?_⟩;by_cases hk:k < a\/b<=k
 ·rw [h.out k hk];exact hQ k hk1 hk2
 ·exact h.all Q (fun i hi1 hi2=>hQ i oM oM) k oM oM
def Srt (a b:Nat) (ys:List Nat):Prop:=∀ p q,a<=p->p < q->q < b->gv ys p<=gv ys q
theorem Srt.one (a:Nat) (ys:List Nat):Srt a (a+1) ys:=fun p q h1 h2 h3=>absurd h3 oM
theorem Srt.snoc {a k:Nat} {ys:List Nat} (h:Srt a (k+1) ys) (hk:gv ys k<=gv ys (k+1)):Srt a (k+2) ys:=by
 intro p q h1 h2 h3;by_cases e:q=k+1
 ·subst e
  by_cases e2:p=k
  ·subst e2;exact hk
  ·exact Nat.le_trans (h p k h1 oM oM) hk
 ·exact h p q h1 h2 oM
def InsO (a k q:Nat) (ys:List Nat):Prop:=∀ p r,a<=p->p < r->r<=k->r≠q->gv ys p<=gv ys r
theorem InsO.start {a k:Nat} {ys:List Nat} (h:Srt a k ys):InsO a k k ys:=fun p r h1 h2 h3 h4=>h p r h1 h2 oM
theorem InsO.first {a k:Nat} {ys:List Nat} (h:InsO a k a ys):Srt a (k+1) ys:=fun p q h1 h2 h3=>h p q h1 h2 oM oM
theorem InsO.stop {a k q:Nat} {ys:List Nat} (h:InsO a k (q+1) ys) (ha:a<=q) (hq:gv ys q<=gv ys (q+1)) (hk:q+1<=k):Srt a (k+1) ys:=by
 intro p r h1 h2 h3;by_cases e:r=q+1
 ·subst e
  by_cases e2:p=q
  ·subst e2;exact hq
  ·exact Nat.le_trans (h p q h1 oM oM oM) hq
 ·exact h p r h1 h2 oM e
theorem InsO.step {a k q:Nat} {ys:List Nat} (h:InsO a k (q+1) ys) (ha:a<=q) (hlt:gv ys (q+1) < gv ys q) (hk:q+1<=k) (hl:k < ys.length):InsO a k q (sw ys (q+1) q):=by
 have i1:q+1 < ys.length:=oM;have j1:q < ys.length:=oM;intro p r h1 h2 h3 h4;by_cases r1:r=q+1
 ·subst r1
  rw [z3k i1 j1];by_cases p1:p=q
  ·subst p1;rw [z5r i1 j1];omega
  ·rw [z1l i1 j1 oM p1]
   exact h p q h1 oM oM oM
 ·rw [z1l (k:=r) i1 j1 r1 h4]
  by_cases p1:p=q
  ·subst p1;rw [z5r i1 j1];exact h (p+1) r oM oM h3 oM
  ·by_cases p2:p=q+1
   ·subst p2;rw [z3k i1 j1];exact h q r ha oM h3 oM
   ·rw [z1l i1 j1 p2 p1];exact h p r h1 h2 h3 oM
def HpX (f lo hi r:Nat) (ys:List Nat):Prop :=
 (∀ i c,lo<=i->(c=2 * i+1\/c=2 * i+2)->c < hi->i≠r->gv ys (f+c)<=gv ys (f+i)) /\
 (∀ i c,lo<=i->(r=2 * i+1\/r=2 * i+2)->(c=2 * r+1\/c=2 * r+2)->c < hi->gv ys (f+c)<=gv ys (f+i))
def Hp (f lo hi:Nat) (ys:List Nat):Prop:=∀ i c,lo<=i->(c=2 * i+1\/c=2 * i+2)->c < hi->gv ys (f+c)<=gv ys (f+i)
theorem Hp.start {f lo hi:Nat} {ys:List Nat} (h:Hp f (lo+1) hi ys):HpX f lo hi lo ys :=
 ⟨fun i c h1 h2 h3 h4=>h i c oM h2 h3,fun i c h1 h2 h3 h4=>absurd h2 oM⟩
theorem HpX.leaf {f lo hi r:Nat} {ys:List Nat} (h:HpX f lo hi r ys) (hr:hi<=2 * r+1):Hp f lo hi ys:=by
 intro i c h1 h2 h3;exact h.1 i c h1 h2 h3 oM
theorem HpX.done {f lo hi r m:Nat} {ys:List Nat} (h:HpX f lo hi r ys) (hm:∀ c,(c=2 * r+1\/c=2 * r+2)->c < hi->gv ys (f+c)<=gv ys (f+m)) (hr:gv ys (f+m)<=gv ys (f+r)):Hp f lo hi ys:=by
 intro i c h1 h2 h3;by_cases e:i=r
 ·subst e;exact Nat.le_trans (hm c h2 h3) hr
 ·exact h.1 i c h1 h2 h3 e
theorem HpX.step {f lo hi r m:Nat} {ys:List Nat} (h:HpX f lo hi r ys) (hlo:lo<=r) (hm1:m=2 * r+1\/m=2 * r+2) (hm2:m < hi) (hm:∀ c,(c=2 * r+1\/c=2 * r+2)->c < hi->gv ys (f+c)<=gv ys (f+m)) (hr:gv ys (f+r) < gv ys (f+m)) (hl:f+hi<=ys.length) :
  HpX f lo hi m (sw ys (f+r) (f+m)):=by
 have i1:f+r < ys.length:=oM;have j1:f+m < ys.length:=oM;constructor
 ·intro i c h1 h2 h3 h4
  by_cases e:i=r
  ·subst e
   rw [z3k i1 j1];by_cases e2:c=m
   ·subst e2;rw [z5r i1 j1];omega
   ·rw [z1l i1 j1 oM oM];exact hm c h2 h3
  ·rw [z1l (k:=f+i) i1 j1 oM oM]
   by_cases e2:c=r
   ·subst e2;rw [z3k i1 j1];exact h.2 i m h1 h2 hm1 hm2
   ·have e3:c≠m:=oM
    rw [z1l i1 j1 oM oM];exact h.1 i c h1 h2 h3 e
 ·intro i c h1 h2 h3 h4
  have e:i=r:=oM;subst e;rw [z3k i1 j1,z1l i1 j1 oM oM];exact h.1 m c oM h3 h4 oM
theorem Hp.max {f hi:Nat} {ys:List Nat} (h:Hp f 0 hi ys):∀ n i,i < n->i < hi->gv ys (f+i)<=gv ys f:=by
 intro n;induction n with
 | zero=>intro i h1;omega
 | succ n ih =>
  intro i h1 h2;by_cases e:i=0
  ·subst e;exact nL _
  ·have hp:(i - 1) / 2 < n:=oM
   have:=h ((i - 1) / 2) i (Nat.zero_le _) oM h2;exact Nat.le_trans this (ih _ hp oM)
def HpT (a k e:Nat) (ys:List Nat):Prop:=Hp a 0 k ys/\∀ p q,a<=p->p < q->q < e->a+k<=q->gv ys p<=gv ys q
theorem HpT.pop {a q e:Nat} {ys:List Nat} (h:HpT a (q+1) e ys) (he:a+q < e) (hl:e<=ys.length):Hp a 1 q (sw ys a (a+q))/\∀ p r,a<=p->p < r->r < e->a+q<=r->gv (sw ys a (a+q)) p<=gv (sw ys a (a+q)) r:=by
 have i1:a < ys.length:=oM;have j1:a+q < ys.length:=oM;constructor
 ·intro i c h1 h2 h3
  rw [z1l (k:=a+c) i1 j1 oM oM,z1l i1 j1 oM oM];exact h.1 i c oM h2 oM
 ·intro p r h1 h2 h3 h4
  by_cases e1:r=a+q
  ·subst e1
   rw [z5r i1 j1];by_cases e2:p=a
   ·subst e2;rw [z3k i1 j1];exact h.1.max (q+1) q oM oM
   ·rw [z1l i1 j1 e2 oM]
    obtain ⟨i,rfl⟩:∃ i,p=a+i:=⟨p - a,oM⟩
    exact h.1.max (i+1) i oM oM
  ·rw [z1l (k:=r) i1 j1 oM oM]
   by_cases e2:p=a
   ·subst e2;rw [z3k i1 j1]
    by_cases e3:p+q < r
    ·exact h.2 (p+q) r oM e3 h3 oM
    ·omega
   ·by_cases e3:p=a+q
    ·subst e3;rw [z5r i1 j1];exact h.2 a r oM oM h3 oM
    ·rw [z1l i1 j1 e2 e3];exact h.2 p r h1 h2 h3 oM
theorem HpT.next {a q e:Nat} {ys zs:List Nat} (h:Hp a 0 q zs) (ht:∀ p r,a<=p->p < r->r < e->a+q<=r->gv ys p<=gv ys r) (hp:PI a (a+q) ys zs):HpT a q e zs:=by
 refine ⟨h,fun p r h1 h2 h3 h4=>?_⟩;rw [hp.out r (.inr h4)];by_cases e1:p < a+q
 ·exact hp.all (fun x=>x<=gv ys r) (fun k k1 k2=>ht k r k1 oM h3 h4) p h1 e1
 ·rw [hp.out p (.inr oM)];exact ht p r h1 h2 h3 h4
theorem HpT.srt {a e:Nat} {ys:List Nat} (h:HpT a 0 e ys):Srt a e ys:=fun p q h1 h2 h3=>h.2 p q h1 h2 h3 oM
def Frm (a0 b0 a b:Nat) (ys:List Nat):Prop:=∀ p q,a0<=p->p < q->q < b0->¬ (a<=p/\q < b)->gv ys p<=gv ys q
theorem Frm.start (a b:Nat) (ys:List Nat):Frm a b a b ys:=fun p q h1 _ h3 h4=>absurd ⟨h1,h3⟩ h4
theorem Frm.pi {a0 b0 a b:Nat} {ys zs:List Nat} (h:Frm a0 b0 a b ys) (k:PI a b ys zs) (ha:a0<=a) (hb:b<=b0):Frm a0 b0 a b zs:=by
 intro p q h1 h2 h3 h4;by_cases hp:a<=p/\p < b
 ·rw [k.out q (.inr oM)]
  exact k.all (fun x=>x<=gv ys q) (fun i i1 i2=>h i q oM oM h3 oM) p hp.1 hp.2
 ·rw [k.out p oM]
  by_cases hq:a<=q/\q < b
  ·exact k.all (fun x=>gv ys p<=x) (fun i i1 i2=>h p i h1 oM oM oM) q hq.1 hq.2
  ·rw [k.out q oM];exact h p q h1 h2 h3 h4
theorem Frm.done {a0 b0 a b:Nat} {ys:List Nat} (h:Frm a0 b0 a b ys) (k:Srt a b ys):Srt a0 b0 ys:=by
 intro p q h1 h2 h3;by_cases e:a<=p/\q < b
 ·exact k p q e.1 h2 e.2
 ·exact h p q h1 h2 h3 e
def z4a (a b m:Nat) (ys:List Nat):Prop:=(∀ i,a<=i->i < m->gv ys i < gv ys m)/\(∀ i,m < i->i < b->gv ys m<=gv ys i)
theorem Frm.right {a0 b0 a b m:Nat} {ys:List Nat} (h:Frm a0 b0 a b ys) (hp:z4a a b m ys) (hs:Srt a m ys) (h1:a<=m) (h2:m < b):Frm a0 b0 (m+1) b ys:=by
 intro p q p1 p2 p3 p4;by_cases e:a<=p/\q < b
 ·by_cases e1:q < m
  ·exact hs p q e.1 p2 e1
  ·by_cases e2:q=m
   ·subst e2;exact Nat.le_of_lt (hp.1 p e.1 p2)
   ·have:=hp.2 q oM e.2
    by_cases e3:p=m
    ·subst e3;exact this
    ·have:=hp.1 p e.1 oM;omega
 ·exact h p q p1 p2 p3 e
theorem Frm.left {a0 b0 a b m:Nat} {ys:List Nat} (h:Frm a0 b0 a b ys) (hp:z4a a b m ys) (hs:Srt (m+1) b ys) (h1:a<=m) (h2:m < b):Frm a0 b0 a m ys:=by
 intro p q p1 p2 p3 p4;by_cases e:a<=p/\q < b
 ·by_cases e1:m < p
  ·exact hs p q e1 p2 e.2
  ·by_cases e2:p=m
   ·subst e2;exact hp.2 q p2 e.2
   ·by_cases e3:q=m
    ·subst e3;exact Nat.le_of_lt (hp.1 p e.1 p2)
    ·have k1:=hp.2 q oM e.2
     have k2:=hp.1 p e.1 oM;omega
 ·exact h p q p1 p2 p3 e
theorem z4a.pi_l {a b m:Nat} {ys zs:List Nat} (h:z4a a b m ys) (k:PI a m ys zs) (h2:m < b):z4a a b m zs:=by
 constructor
 ·intro i i1 i2
  rw [k.out m (.inr (nL _))];exact k.all (fun x=>x < gv ys m) h.1 i i1 i2
 ·intro i i1 i2
  rw [k.out m (.inr (nL _)),k.out i (.inr oM)];exact h.2 i i1 i2
theorem z4a.pi_r {a b m:Nat} {ys zs:List Nat} (h:z4a a b m ys) (k:PI (m+1) b ys zs):z4a a b m zs:=by
 constructor
 ·intro i i1 i2
  rw [k.out m (.inl oM),k.out i (.inl oM)];exact h.1 i i1 i2
 ·intro i i1 i2
  rw [k.out m (.inl oM)];exact k.all (fun x=>gv ys m<=x) (fun j j1 j2=>h.2 j oM j2) i oM i2
def Low (a b:Nat) (ys:List Nat):Prop:=∀ i,0 < a->a<=i->i < b->gv ys (a - 1)<=gv ys i
theorem Low.pi {a b:Nat} {ys zs:List Nat} (h:Low a b ys) (k:PI a b ys zs):Low a b zs:=by
 intro i h0 h1 h2;rw [k.out (a - 1) (.inl oM)];exact k.all (fun x=>gv ys (a - 1)<=x) (fun j j1 j2=>h j h0 j1 j2) i h1 h2
def x5l (a b m:Nat) (ys:List Nat):Prop:=(∀ i,a<=i->i < m->gv ys i<=gv ys a)/\(∀ i,m<=i->i < b->gv ys a < gv ys i)
theorem Frm.equal {a0 b0 a b m:Nat} {ys:List Nat} (h:Frm a0 b0 a b ys) (hp:x5l a b m ys) (hlo:∀ i,a<=i->i < b->gv ys a<=gv ys i) (h1:a < m) (h2:m<=b):Frm a0 b0 m b ys:=by
 intro p q p1 p2 p3 p4;by_cases e:a<=p/\q < b
 ·have k1:=hp.1 p e.1 oM
  have k2:=hlo q oM e.2;omega
 ·exact h p q p1 p2 p3 e
theorem x5l.low {a b m:Nat} {ys:List Nat} (hp:x5l a b m ys) (h1:a < m):Low m b ys:=by
 intro i h0 i1 i2;have k1:=hp.1 (m - 1) oM oM;have k2:=hp.2 i i1 i2;omega
theorem z4a.low {a b m:Nat} {ys:List Nat} (hp:z4a a b m ys):Low (m+1) b ys:=by
 intro i h0 i1 i2;simpa using hp.2 i oM i2
theorem w8r {n:Nat} {xs ys:List Nat} (hx:xs.length=n) (h1:Srt 0 n xs) (h2:Srt 0 n ys) (hp:ys.Perm xs):ys=xs:=by
 have pw:∀ (n:Nat) (l:List Nat),l.length=n->Srt 0 n l->l.Pairwise (· <= ·):=by
  intro n l hl h;rw [List.pairwise_iff_getElem];intro i j hi hj hij;have:=h i j (Nat.zero_le _) hij oM;rwa [x7d hi,x7d hj] at this
 exact hp.eq_of_pairwise (fun a b _ _ h1 h2=>Nat.le_antisymm h1 h2) (pw n ys (hp.length_eq.trans hx) h2) (pw n xs hx h1)
end
section
open Go.ChangeShapes Go.WideShapes Go.ChangeAt Go.RowKit
theorem y1i {α:Type} (cells:α->List Value) (size:Nat) (hs:0 < size) (hlen:∀ x,(cells x).length=size) (w:World) (a:Addr) (ok:α->Prop) :
  ∀ n,(∀ i,i < n->∃ x,ok x/\∀ j,j < size->w.cell? (a.add (i * size+j))=(cells x)[j]?) ->
   ∃ l:List α,l.length=n/\(∀ x∈l,ok x)/\(l.flatMap cells).length=n * size/\∀ j u,(l.flatMap cells)[j]?=some u->w.cell? (a.add j)=some u
 | 0,_=>⟨[],rfl,(fun _ h=>by cases h),by simp,(fun j u h=>by simp at h)⟩
 | n+1,h=>by
  obtain ⟨l,h1,h2,h3,h4⟩:=y1i cells size hs hlen w a ok n (fun i hi=>h i oM);obtain ⟨x,hx,hc⟩:=h n oM;refine ⟨l++[x],by simp [h1],fun y hy=>?_,?_,fun j u hu=>?_⟩
  ·rcases List.mem_append.1 hy with hy | hy
   ·exact h2 y hy
   ·rw [List.mem_singleton] at hy;subst hy;exact hx
  ·simp only [List.flatMap_append,List.length_append,h3,List.flatMap_cons,List.flatMap_nil,List.append_nil,hlen]
   rw [Nat.succ_mul]
  ·simp only [List.flatMap_append,List.flatMap_cons,List.flatMap_nil,List.append_nil] at hu
   rcases Nat.lt_or_ge j (n * size) with hj | hj
   ·rw [List.getElem?_append_left oM] at hu
    exact h4 j u hu
   ·rw [List.getElem?_append_right oM,h3] at hu
    have Ga:j - n * size < size:=by
     have:=(List.getElem?_eq_some_iff.1 hu).1;rw [hlen] at this;exact this
    have:=hc (j - n * size) Ga;rw [show n * size+(j - n * size)=j by omega] at this;rw [this];exact hu
theorem x1q {cs:List Value} {j:Nat} {v:Value} (h:(cs.drop j).take 1=[v]):cs[j]?=some v:=by
 have h0:((cs.drop j).take 1)[0]?=some v:=by rw [h];rfl
 rw [List.getElem?_take] at h0;simpa [List.getElem?_drop] using h0
theorem w9u {n:Int} (hw:(Lit.int .u8 n).wf=true):∃ k:Nat,n=(k:Int)/\k < 256:=by
 have hb:0<=n/\n < 256:=by
  have hm:IntKind.u8.min=0:=by decide
  have hx:IntKind.u8.max=255:=by decide
  simp only [Lit.wf,hm,hx,Bool.and_eq_true,decide_eq_true_eq] at hw;omega
 exact ⟨n.toNat,by rw [Int.toNat_of_nonneg hb.1],oM⟩
section
variable {H:Type} {enc:TypeId × Value->H} {w:World} {base:Nat} {sp:Nat->Bool} {held:Bool} {fuel:Nat} {x:DataW H × List MemPlace}
theorem w4x:Tryz.prog.cellsOf 5=1:=by kernel_rfl
end
section
variable {H:Type} {enc:TypeId × Value->H} {W:World} {b0 base:Nat} {sp:Nat->Bool} {held:Bool} {v:Value} {d:DataW H} {p:List MemPlace} {r:Reach}
end
end
end Go.Proofs.YtfkjjoglnmeciaaGreatDoor
