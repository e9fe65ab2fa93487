/- The walks and laws that the claim leans on, part 1. -/
import Derived.Test.YtfkjjoglnmeciaaGreatDoorProg
import Derived.WalkSpells
import Derived.WalkLawsBesides
import Derived.Deep.AppendLies
import Derived.Deep.OwnRows
import Derived.BigQuiet
import Derived.Lib.Hide
import Derived.StillTail
import Derived.Deep.RegionHeld3
namespace Go.Proofs.YtfkjjoglnmeciaaGreatDoor
open Go.Lib (hid)
section
theorem zA {α:Type _} {l:List α} {i:Nat} (h:i < l.toArray.size):l.toArray[i]=l[i]:=rfl
theorem zB {α:Type _} (a:α) (l:List α) (h:0 < (a :: l).length):(a :: l)[0]=a:=rfl
theorem zC {α:Type _} (a:α) (l:List α) (i:Nat) (h:i+1 < (a :: l).length):(a :: l)[i+1]=l[i]'(Nat.lt_of_succ_lt_succ h):=rfl
theorem zD {α:Type _} (l:List α) (i:Nat) (a:α):l.toArray.setIfInBounds i a=(l.set i a).toArray:=List.setIfInBounds_toArray l i a
theorem zE {α:Type _} {x:α} {l:List α} {a:α}:(x :: l).set 0 a=a :: l:=rfl
theorem zF {α:Type _} {x:α} {l:List α} {i:Nat} {a:α}:(x :: l).set (i+1) a=x :: l.set i a:=rfl
end
section
open Go.RowKit Go.WideShapes Go.ChangeShapes
theorem block_of_add (a:Addr) (n:Nat):(a.add n).block=a.block:=by unfold Addr.add;split <;> rfl
def Reads (w:World) (B size:Nat) (A:Option Addr) (n:Nat) (xs:List Value):Prop :=
 xs.length=n * size∧(0 < n→∃ ad,A=some ad∧ad.block < B∧∀ j u,xs[j]?=some u→w.cell? (ad.add j)=some u)
section
variable {w w':World} {B B' size n:Nat} {A:Option Addr} {xs:List Value}
theorem Reads.at_ {k:Nat} (h:Reads w B 1 A n xs) (hk:k < n):∃ ad u,A=some ad∧ad.block < B∧xs[k]?=some u∧w.cell? (ad.add k)=some u:=by
 obtain ⟨ad,e,hb,hc⟩:=h.2 (by omega)
 have hl:k < xs.length:=by have:=h.1;omega
 exact ⟨ad,xs[k],e,hb,List.getElem?_eq_getElem hl,hc k _ (List.getElem?_eq_getElem hl)⟩
theorem Reads.keep (h:Reads w B size A n xs) (hk:∀ p:Addr,p.block < B→w'.cell? p=w.cell? p):Reads w' B size A n xs :=
 ⟨h.1,fun hn=>by
  obtain ⟨ad,e,hb,hc⟩:=h.2 hn
  exact ⟨ad,e,hb,fun j u hu=>(hk _ (by rw [block_of_add];exact hb)).trans (hc j u hu)⟩⟩
theorem Reads.more (h:Reads w B size A n xs) (hB:B≤B'):Reads w B' size A n xs :=
 ⟨h.1,fun hn=>by
  obtain ⟨ad,e,hb,hc⟩:=h.2 hn
  exact ⟨ad,e,by omega,hc⟩⟩
theorem Reads.below (h:Reads w B size A n xs) (hb:Below B w w'):Reads w' B size A n xs:=h.keep fun _ hp=>hb.cell hp
theorem Reads.alloc (h:Reads w B size A n xs) (hB:B≤w.heap.size) (o:Obj):Reads (w.alloc o) B size A n xs:=h.keep fun p hp=>World.cell?_alloc_lt w o p (by omega)
theorem Reads.of_own {base:Nat} {e:TypeId} {c:Nat} (h:w.ownsRow base e size (.slice A n c) n xs):Reads w w.heap.size size A n xs:=by
 refine ⟨h.1,fun hn=>?_⟩
 obtain ⟨g,cap,hv,_,hlt⟩:=h.form hn
 have hA:A=some ⟨g,0,none⟩:=by injection hv
 subst hA
 exact ⟨_,rfl,hlt,h.cells (g:=g) rfl⟩
end
def Blk (w:World) (g:Nat) (t:TypeId) (cs:Array Value):Prop:=w.heap[g]?=some (.cells cs t (0,0))
section
variable {w w':World} {g:Nat} {t:TypeId} {cs:Array Value}
theorem Blk.lt (h:Blk w g t cs):g < w.heap.size:=by
 rcases Nat.lt_or_ge g w.heap.size with hlt | hge
 ·exact hlt
 ·unfold Blk at h;rw [Array.getElem?_eq_none hge] at h;cases h
theorem Blk.cell (h:Blk w g t cs) (i:Nat):w.cell? ⟨g,i,none⟩=cs[i]?:=cell_of_row w g i cs t (0,0) h
theorem Blk.frozen (h:Blk w g t cs) (i:Nat):w.frozen? ⟨g,i,none⟩=false:=by
 unfold Blk at h
 simp [World.frozen?,h]
theorem Blk.new (w:World) (t:TypeId) (cs:Array Value):Blk (w.alloc (.cells cs t)) w.heap.size t cs:=heap_alloc_new w _
theorem Blk.drew (h:Blk w g t cs):Blk w.drew g t cs:=h
theorem Blk.drewN (h:Blk w g t cs) (n:Nat):Blk (w.drewN n) g t cs:=h
theorem Blk.alloc (h:Blk w g t cs) (o:Obj):Blk (w.alloc o) g t cs:=(Below.heap_alloc w o g h.lt).trans h
theorem Blk.set_ (h:Blk w g t cs) (i:Nat) (u:Value):Blk (w.setCell ⟨g,i,none⟩ u) g t (cs.setIfInBounds i u):=by
 unfold Blk at h ⊢
 simp [World.setCell,Array.getElem?_modify,h]
theorem Blk.far (h:Blk w g t cs) {p:Addr} (hp:g≠p.block) (u:Value):Blk (w.setCell p u) g t cs:=(Below.heap_setCell w p u g hp).trans h
theorem Blk.below {B:Nat} (h:Blk w g t cs) (hb:Below B w w') (hg:g < B):Blk w' g t cs:=(hb.block g hg).trans h
theorem Blk.grown {row:Option Nat} (h:Blk w g t cs) (hb:w.grownBy w' row) (hg:some g≠row):Blk w' g t cs:=(hb.block g h.lt hg).trans h
theorem Blk.ne_ {g':Nat} {t':TypeId} {cs':Array Value} (h:Blk w g t cs) (h':Blk w g' t' cs') (hne:t≠t'):g≠g':=by
 rintro rfl
 unfold Blk at h h'
 rw [h] at h'
 injection h' with h'
 injection h' with _ ht
 exact hne ht
theorem own_blk_ne {base:Nat} {e:TypeId} {size n:Nat} {v:Value} {xs:List Value} (h:w.ownsRow base e size v n xs) (hg:Blk w g t cs) (hne:e≠t):v.ownBlock≠some g:=by
 rcases h.2 with ⟨rfl,_⟩ | ⟨g',cap,cur,rfl,_,hh,_⟩
 ·simp [Value.ownBlock]
 ·intro he
  have:g'=g:=by simpa [Value.ownBlock] using he
  subst this
  exact Blk.ne_ (t:=e) hh hg hne rfl
end
section
variable {P:Program} (w:World)
theorem run_append_of_nil (base:Nat) (t ty e:TypeId) (i:TypeInfo) (size:Nat) (ht:P.underlying t=some (.slice e)) (hi:P.info? e=some i)
  (v:Value) (n:Nat) (xs:List Value) (hown:w.ownsRow base e size v n xs) (c:Nat):(Builtin.append_ #[t,t] ty #[v, .slice none 0 c]).run P w = .ok v w:=by
 rcases hown.2 with ⟨rfl,rfl⟩ | ⟨g,cap,cur,rfl,_,_,hnc,_⟩
 ·simp [Builtin.append_,run_underlying ht,sizeOf,typeInfo,hi,Builtin.lenOf,Builtin.firstCells]
 ·simp [Builtin.append_,run_underlying ht,sizeOf,typeInfo,hi,Builtin.lenOf,Builtin.firstCells,hnc,storeCells]
theorem run_append_any (base:Nat) (t ty e:TypeId) (i:TypeInfo) (z:Value) (size bytes:Nat) (ht:P.underlying t=some (.slice e)) (hi:P.info? e=some i) (hz:i.zero=some z)
  (hsize:i.size=size) (hby:i.bytes=bytes) (hzs:z.cells.size=size) (hsz:0 < size)
  (v:Value) (n:Nat) (xs:List Value) (hown:w.ownsRow base e size v n xs)
  (B:Nat) (A:Option Addr) (m c:Nat) (news:List Value) (hr:Reads w B size A m news) (h1:∀ u∈news,u.oneCell'=true)
  (h63:n+m≤maxLen) (hbytes:(n+m) * bytes≤140737488355328) (hbase:base≤w.heap.size) :
  ∃ v' w',(Builtin.append_ #[t,t] ty #[v, .slice A m c]).run P w = .ok v' w'∧w'.ownsRow base e size v' (n+m) (xs++news)∧w.grownBy w' v.ownBlock ∧
   (v'.ownBlock=v.ownBlock∨v'.ownBlock=some w.heap.size):=by
 rcases A with _ | ad
 ·have hm:m=0:=by
   rcases Nat.eq_zero_or_pos m with h0 | h0
   ·exact h0
   ·obtain ⟨ad,h,_⟩:=hr.2 h0
    cases h
  subst hm
  have hn:news=[]:=List.eq_nil_of_length_eq_zero (by simpa using hr.1)
  subst hn
  exact ⟨v,w,run_append_of_nil w base t ty e i size ht hi v n xs hown c,by simpa using hown,World.grownBy.refl w _, .inl rfl⟩
 ·have hcells:∀ j u,news[j]?=some u→w.cell? (ad.add j)=some u:=by
   intro j u hu
   rcases Nat.eq_zero_or_pos m with h0 | h0
   ·subst h0
    have hn:news=[]:=List.eq_nil_of_length_eq_zero (by simpa using hr.1)
    subst hn
    simp at hu
   ·obtain ⟨ad',h,_,hc⟩:=hr.2 h0
    injection h with h
    subst h
    exact hc j u hu
  obtain ⟨v',w',hrun,h2,h3,_,h5⟩:=run_append_own_at (P:=P) w base t ty e i z size bytes ht hi hz hsize hby hzs hsz v n xs hown ad m c news hr.1 hcells h1 h63 hbytes hbase
  exact ⟨v',w',hrun,h2,h3,h5⟩
theorem wp_append_any {o:Oper} {a:Act} {K:Act→World→Prop} {Q:Exit→Act→World→Prop} (s x:Operand) (t:TypeId)
  (ho:o.op = .call { callee := .builtin .append,args:=#[s,x],argTypes:=#[t,t] })
  (base:Nat) (e:TypeId) (i:TypeInfo) (z:Value) (size bytes:Nat) (ht:P.underlying t=some (.slice e)) (hi:P.info? e=some i) (hz:i.zero=some z)
  (hsize:i.size=size) (hby:i.bytes=bytes) (hzs:z.cells.size=size) (hsz:0 < size)
  (v:Value) (n:Nat) (xs:List Value) (hs:a.eval s=v) (hown:w.ownsRow base e size v n xs)
  (B:Nat) (A:Option Addr) (m c:Nat) (news:List Value) (hx:a.eval x = .slice A m c) (hr:Reads w B size A m news) (h1:∀ u∈news,u.oneCell'=true)
  (h63:n+m≤maxLen) (hbytes:(n+m) * bytes≤140737488355328) (hbase:base≤w.heap.size)
  (h:∀ v' w',w'.ownsRow base e size v' (n+m) (xs++news)→w.grownBy w' v.ownBlock→(v'.ownBlock=v.ownBlock∨v'.ownBlock=some w.heap.size)→K (a.put o.dst v') w'):o.wp P a w K Q:=by
 obtain ⟨v',w',hrun,h2,h3,h4⟩:=run_append_any (P:=P) w base t o.type e i z size bytes ht hi hz hsize hby hzs hsz v n xs hown B A m c news hr h1 h63 hbytes hbase
 unfold Oper.wp execOp
 simp only [ho,resolve,invoke,builtin,Sem.run_bind,Sem.run_pure,Result.andThen_ok,List.map_toArray,List.map_cons,List.map_nil,hs,hx,hrun]
 exact h v' w' h2 h3 h4
end
theorem below_drewN {B:Nat} {a w:World} (h:Below B a w) (n:Nat):Below B a (w.drewN n):=⟨h.os,h.tape,h.output,h.size,h.block⟩
section
variable {H:Type} {enc:TypeId × Value→H} {P:Program}
end
end
section
open Go.RowKit
section
variable {P:Program} {ops:Array Oper} {Q:Exit→Act→World→Prop} {md:Region.Mode} {S:World→Prop} {m:Nat}
def wpAnyG (P:Program) (md:Region.Mode) (ops:Array Oper) (Q:Exit→Act→World→Prop) (S:World→Prop) (m:Nat):Nat→Array Bool→Act→World→Prop
 | 0,listed,a,w=>Region.ready md ops listed=[]∧Q .normal a w
 | fuel+1,listed,a,w =>
  (Region.ready md ops listed=[]→Q .normal a w) ∧
  ∀ i∈Region.ready md ops listed,wpOp P ops Q i (fun a' w'=>(i < m→S w')∧wpAnyG P md ops Q S m fuel (listed.setIfInBounds i true) a' w') a w
theorem wpAny_of_G:∀ (fuel:Nat) (listed:Array Bool) (a:Act) (w:World),wpAnyG P md ops Q S m fuel listed a w→wpAny P md ops Q fuel listed a w
 | 0,_,_,_,h=>h
 | fuel+1,_,_,_,h=>⟨h.1,fun i hi=>wpOp_mono (fun a' w' h'=>wpAny_of_G fuel _ a' w' h'.2) (h.2 i hi)⟩
theorem wpAnyG_first {i:Nat} {oi:Oper} {v:Value} (hi:ops[i]?=some oi) (hsel:∀ (j:Nat) (o:Oper) cs b,ops[j]?=some o→o.op ≠ .select cs b)
  (hs:Region.sinkB md ops m=true) (hc:Region.chainB md ops m=true) (hm:m < ops.size) (him:i < m)
  (hQ:∀ c a w,Q (.panic c) (a.put oi.dst v) w→Q (.panic c) a w) :
  ∀ (fuel:Nat) (listed:Array Bool) (a:Act) (w:World),HeadInv md ops m listed →
   (∀ j oj,ops[j]?=some oj→j≠i→listed.getD j true=false→(∀ e∈oj.after,Region.binds md e=true→e.on≠i)→oi.apart ops oj=true) →
   i∈Region.ready md ops listed→YieldsIf P ops S oi v a→S w →
   wpAnyG P md ops Q S m fuel (listed.setIfInBounds i true) (a.put oi.dst v) w→wpAnyG P md ops Q S m (fuel+1) listed a w:=by
 intro fuel
 induction fuel with
 | zero =>
  intro listed a w _ _ hr hy hS H
  refine ⟨fun h=>(by rw [h] at hr;cases hr),fun j hj=>?_⟩
  by_cases hji:j=i
  ·subst hji;exact hy.wpOp hi hS ⟨fun _=>hS,H⟩
  ·have:=ready_mono hj hji
   rw [H.1] at this
   cases this
 | succ fuel ih =>
  intro listed a w inv hfree hr hy hS H
  have hun:=(mem_ready.1 hr).1
  refine ⟨fun h=>(by rw [h] at hr;cases hr),fun j hj=>?_⟩
  by_cases hji:j=i
  ·subst hji;exact hy.wpOp hi hS ⟨fun _=>hS,H⟩
  ·have hjm:j < m:=by
    rcases Nat.lt_or_ge j m with h | h
    ·exact h
    ·exact absurd hj (tail_waits hs hc hm inv _ i rfl him hun j h)
   have h1:=H.2 j (ready_mono hj hji)
   obtain ⟨hjun,oj,hoj,hall⟩:=mem_ready.1 hj
   have hnot:∀ e∈oj.after,Region.binds md e=true→e.on≠i:=fun e he hb heq=>by
    have h1:=hall e he hb
    rw [heq,getD_both hun] at h1
    cases h1
   have h2:=wpOp_putIf hoj (hfree j oj hoj hji hjun hnot) (fun cs b=>hsel i oi cs b hi) (fun cs b=>hsel j oj cs b hoj) hQ hy h1
   have hfree':∀ k ok,ops[k]?=some ok→k≠i→(listed.setIfInBounds j true).getD k true=false →
     (∀ e∈ok.after,Region.binds md e=true→e.on≠i)→oi.apart ops ok=true:=fun k ok hk hki hun hno=>by
    refine hfree k ok hk hki ?_ hno
    by_cases hjk:j=k
    ·subst hjk;exact hjun
    ·rw [getD_set_ne true hjk] at hun;exact hun
   refine wpOp_mono (fun a' w' h3=>⟨h3.2.1,ih (listed.setIfInBounds j true) a' w' (inv.set hj hjm) hfree' (ready_mono hr (Ne.symm hji)) h3.1 (h3.2.1 hjm) ?_⟩) h2
   rw [Array.setIfInBounds_comm _ _ hji]
   exact h3.2.2
theorem wpAnyG_of_seq:∀ (l:List Oper) (k:Nat) (listed:Array Bool) (a:Act) (w:World),m≤k→(∀ j,l[j]?=ops[k+j]?) →
  Region.seqB md ops l.length k listed=true→wpList P ops Q l a w→wpAnyG P md ops Q S m l.length listed a w
 | [],_,_,_,_,_,_,hB,h=>⟨by simpa [Region.seqB] using hB,h⟩
 | o :: l,k,listed,a,w,hk,hl,hB,h=>by
  have h0:ops[k]?=some o:=by simpa using (hl 0).symm
  simp only [List.length_cons,Region.seqB,Bool.and_eq_true,decide_eq_true_eq] at hB
  refine ⟨fun h1=>(by rw [hB.1] at h1;cases h1),fun i hi=>?_⟩
  rw [hB.1] at hi
  have hik:i=k:=by simpa using hi
  subst hik
  have hw:wpOp P ops Q i (wpList P ops Q l) a w:=by unfold wpOp;simp only [h0];exact h
  exact wpOp_mono (fun a' w' h'=>⟨fun hlt=>absurd hlt (by omega),wpAnyG_of_seq l (i+1) _ a' w' (by omega) (fun j=>by have:=hl (j+1);simpa [Nat.add_assoc,Nat.add_comm 1 j] using this) hB.2 h'⟩) hw
def ThenS (S:World→Prop) (Q:Exit→Act→World→Prop) (L:Act→World→Prop):Exit→Act→World→Prop
 | .normal,a,w=>S w∧L a w
 | e,a,w=>Q e a w
end
end
section
open Go.RowKit
theorem own_slice {w:World} {base:Nat} {e:TypeId} {size:Nat} {v:Value} {n:Nat} {xs:List Value} (h:w.ownsRow base e size v n xs):∃ A c,v = .slice A n c:=by
 rcases h.2 with ⟨rfl,rfl⟩ | ⟨g,cap,cur,rfl,_⟩
 ·exact ⟨_,_,rfl⟩
 ·exact ⟨_,_,rfl⟩
theorem rowN_reads (w:World) (l:List Value) (k size:Nat) (e:TypeId) (o:Obj) (ho:o = .cells l.toArray e) (hl:l.length=k * size):Reads (w.alloc o) (w.heap.size+1) size (some ⟨w.heap.size,0,none⟩) k l:=by
 subst ho
 refine ⟨hl,fun _=>⟨_,rfl,by show w.heap.size < _;omega,fun j u hu=>?_⟩⟩
 have ha:(⟨w.heap.size,0,none⟩:Addr).add j=⟨w.heap.size,j,none⟩:=by unfold Addr.add;split <;> simp_all
 have hh:(w.alloc (.cells l.toArray e)).heap[w.heap.size]?=some (.cells l.toArray e (0,0)):=heap_alloc_new w _
 rw [ha,cell_of_row _ _ _ _ _ _ hh]
 simpa using hu
theorem own_below {w w':World} {base:Nat} {e:TypeId} {size:Nat} {v:Value} {n:Nat} {xs:List Value} (h:w.ownsRow base e size v n xs) (hb:Below w.heap.size w w'):w'.ownsRow base e size v n xs:=by
 refine ⟨h.1,?_⟩
 rcases h.2 with h0 | ⟨g,cap,cur,h1,h2,h3,h4⟩
 ·exact .inl h0
 ·refine .inr ⟨g,cap,cur,h1,h2,?_,h4⟩
  have:Blk w g e cur:=h3
  exact (hb.block g this.lt).trans h3
theorem own_cap {w:World} {base:Nat} {e:TypeId} {size:Nat} {A:Option Addr} {n c:Nat} {xs:List Value} (h:w.ownsRow base e size (.slice A n c) n xs):n≤c∧c≤9223372036854775807:=by
 rcases h.2 with ⟨hv,h0⟩ | ⟨g,cap,cur,hv,_,_,hnc,hm,_⟩
 ·injection hv with h1 h2 h3
  omega
 ·injection hv with h1 h2 h3
  subst h3
  exact ⟨hnc,hm⟩
theorem own_ne {w:World} {base:Nat} {e:TypeId} {size:Nat} {v:Value} {n:Nat} {xs:List Value} (h:w.ownsRow base e size v n xs) {g:Nat} (hg:g < base∨w.heap.size≤g):some g≠v.ownBlock:=by
 intro he
 have:=h.lt g he.symm
 omega
theorem own_far {w:World} {base:Nat} {e:TypeId} {size:Nat} {v:Value} {n:Nat} {xs:List Value} (h:w.ownsRow base e size v n xs) {p:Addr} (hp:p.block < base) (u:Value):(w.setCell p u).ownsRow base e size v n xs:=by
 refine ⟨h.1,?_⟩
 rcases h.2 with h0 | ⟨g,cap,cur,h1,h2,h3,h4⟩
 ·exact .inl h0
 ·refine .inr ⟨g,cap,cur,h1,h2,?_,h4⟩
  have:Blk w g e cur:=h3
  exact this.far (p:=p) (by omega) u
section
variable {P:Program} (w:World)
theorem wpList_app {ops:Array Oper} {rest:List Oper} {o:Oper} {a:Act} {Q:Exit→Act→World→Prop} (s x:Operand) (t:TypeId)
  (hw:Region.wanted o (yielded ops a.tmps)=true)
  (ho:o.op = .call { callee := .builtin .append,args:=#[s,x],argTypes:=#[t,t] })
  (base:Nat) (e:TypeId) (i:TypeInfo) (z:Value) (size bytes:Nat) (ht:P.underlying t=some (.slice e)) (hi:P.info? e=some i) (hz:i.zero=some z)
  (hsize:i.size=size) (hby:i.bytes=bytes) (hzs:z.cells.size=size) (hsz:0 < size)
  (v:Value) (n:Nat) (xs:List Value) (hs:a.eval s=v) (hown:w.ownsRow base e size v n xs)
  (B:Nat) (A:Option Addr) (m c:Nat) (news:List Value) (hx:a.eval x = .slice A m c) (hr:Reads w B size A m news) (h1:∀ u∈news,u.oneCell'=true)
  (h63:n+m≤maxLen) (hbytes:(n+m) * bytes≤140737488355328) (hbase:base≤w.heap.size)
  (h:∀ A' n' c' w',n'=n+m→w'.ownsRow base e size (.slice A' n' c') n' (xs++news)→w.grownBy w' v.ownBlock→Below base w w'→wpList P ops Q rest (a.put o.dst (.slice A' n' c')) w'):wpList P ops Q (o :: rest) a w:=by
 refine Go.BigFrame.wpList_want hw fun K hK=>?_
 refine wp_append_any w s x t ho base e i z size bytes ht hi hz hsize hby hzs hsz v n xs hs hown B A m c news hx hr h1 h63 hbytes hbase fun v' w' h2 h3 _=>?_
 obtain ⟨A',c',rfl⟩:=own_slice h2
 exact hK _ _ (h A' _ c' w' rfl h2 h3 ((Below.refl _ _).grown h3 hbase (fun j hj=>(hown.lt j hj).1)))
end
end
section
open Go.RowKit
abbrev Fp:=Nat→Prop
structure Chg (S:Fp) (w w':World):Prop where
 os:w'.os=w.os
 tape:w'.tape=w.tape
 output:w'.output=w.output
 size:w.heap.size≤w'.heap.size
 block:∀ k,k < w.heap.size→¬ S k→w'.heap[k]?=w.heap[k]?
def Grew (S S':Fp) (w:World):Prop:=∀ k,S' k→S k∨w.heap.size≤k
def Off (S:Fp) (w:World) (g:Nat):Prop:=g < w.heap.size∧¬ S g
def Fp.no:Fp:=fun _=>False
section
variable {S S' T:Fp} {w w1 w2:World}
theorem Chg.refl (S:Fp) (w:World):Chg S w w:=⟨rfl,rfl,rfl,Nat.le_refl _,fun _ _ _=>rfl⟩
theorem Chg.trans (h:Chg S w w1) (k:Chg S' w1 w2) (hg:Grew S S' w):Chg S w w2 :=
 ⟨k.os.trans h.os,k.tape.trans h.tape,k.output.trans h.output,Nat.le_trans h.size k.size,fun i hi hs =>
  (k.block i (Nat.lt_of_lt_of_le hi h.size) (fun h'=>(hg i h').elim hs (fun h''=>by omega))).trans (h.block i hi hs)⟩
theorem Chg.mono (h:Chg S w w1) (hs:∀ k,S k→T k):Chg T w w1:=⟨h.os,h.tape,h.output,h.size,fun k hk hn=>h.block k hk (fun h'=>hn (hs k h'))⟩
theorem Chg.alloc (h:Chg S w w1) (o:Obj):Chg S w (w1.alloc o) :=
 ⟨h.os,h.tape,h.output,Nat.le_trans h.size (by simp),fun k hk hn=>(Below.heap_alloc w1 o k (Nat.lt_of_lt_of_le hk h.size)).trans (h.block k hk hn)⟩
theorem Chg.setCell (h:Chg S w w1) {p:Addr} (hp:S p.block∨w.heap.size≤p.block) (u:Value):Chg S w (w1.setCell p u):=by
 refine ⟨h.os,h.tape,h.output,Nat.le_trans h.size (by simp),fun k hk hn=>(Below.heap_setCell w1 p u k ?_).trans (h.block k hk hn)⟩
 rintro rfl
 rcases hp with hp | hp
 ·exact hn hp
 ·omega
theorem Chg.drew (h:Chg S w w1):Chg S w w1.drew:=⟨h.os,h.tape,h.output,h.size,h.block⟩
theorem Chg.drewN (h:Chg S w w1) (n:Nat):Chg S w (w1.drewN n):=⟨h.os,h.tape,h.output,h.size,h.block⟩
theorem Chg.grown {row:Option Nat} (h:Chg S w w1) (hg:w1.grownBy w2 row) (hr:∀ g,row=some g→S g∨w.heap.size≤g):Chg S w w2 :=
 ⟨hg.os.trans h.os,hg.tape.trans h.tape,hg.output.trans h.output,Nat.le_trans h.size hg.size,fun k hk hn =>
  (hg.block k (Nat.lt_of_lt_of_le hk h.size) (fun e=>(hr k e.symm).elim hn (fun h'=>by omega))).trans (h.block k hk hn)⟩
theorem Chg.below (h:Chg S w w1) (hb:Below w1.heap.size w1 w2):Chg S w w2 :=
 ⟨hb.os.trans h.os,hb.tape.trans h.tape,hb.output.trans h.output,Nat.le_trans h.size hb.size,fun k hk hn=>(hb.block k (Nat.lt_of_lt_of_le hk h.size)).trans (h.block k hk hn)⟩
theorem Chg.of_below (hb:Below w.heap.size w w1):Chg S w w1:=(Chg.refl S w).below hb
theorem Chg.toBelow (h:Chg S w w1) {B:Nat} (hB:B≤w.heap.size) (hS:∀ k,S k→B≤k):Below B w w1 :=
 ⟨h.os,h.tape,h.output,h.size,fun k hk=>h.block k (by omega) (fun hs=>by have:=hS k hs;omega)⟩
theorem Chg.blk (h:Chg S w w1) {g:Nat} {t:TypeId} {cs:Array Value} (hB:Blk w g t cs) (hg:¬ S g):Blk w1 g t cs:=(h.block g hB.lt hg).trans hB
theorem Chg.own (h:Chg S w w1) {base:Nat} {e:TypeId} {size:Nat} {v:Value} {n:Nat} {xs:List Value} (ho:w.ownsRow base e size v n xs) (hS:∀ g,v.ownBlock=some g→¬ S g):w1.ownsRow base e size v n xs:=by
 refine ⟨ho.1,?_⟩
 rcases ho.2 with hn | ⟨g,cap,cur,rfl,hb,hgg,rest⟩
 ·exact .inl hn
 ·exact .inr ⟨g,cap,cur,rfl,hb,(h.block g (Array.getElem?_eq_some_iff.1 hgg).1 (hS g rfl)).trans hgg,rest⟩
theorem Chg.map (h:Chg S w w1) {H:Type} {P:Program} {k:TypeId} {R:Value→Option (DataW H × List MemPlace)} {b n:Nat} {D:DataW H} (ho:w.ownsMap P k R b n D) (hb:¬ S b):w1.ownsMap P k R b n D:=by
 have hlt:=ho.lt
 obtain ⟨es,clock,h1,h2⟩:=ho
 exact ⟨es,clock,(h.block b hlt hb).trans h1,h2⟩
theorem Chg.reads (h:Chg S w w1) {B size n:Nat} {A:Option Addr} {xs:List Value} (hr:Reads w B size A n xs) (hB:B≤w.heap.size) (hS:∀ ad,A=some ad→¬ S ad.block):Reads w1 B size A n xs :=
 ⟨hr.1,fun hn=>by
  obtain ⟨ad,rfl,hb,hc⟩:=hr.2 hn
  refine ⟨ad,rfl,hb,fun j u hu=>?_⟩
  rw [World.cell?_of_block (w:=w) (h.block _ (by rw [block_of_add];omega) (by rw [block_of_add];exact hS ad rfl))]
  exact hc j u hu⟩
theorem Grew.refl (S:Fp) (w:World):Grew S S w:=fun _ h => .inl h
theorem Grew.trans {S'':Fp} (h:Grew S S' w) (k:Grew S' S'' w1) (hs:w.heap.size≤w1.heap.size):Grew S S'' w:=fun i hi =>
 (k i hi).elim (h i) (fun h' => .inr (by omega))
theorem Grew.off (h:Grew S S' w) {g:Nat} (ho:Off S w g):¬ S' g:=fun hg=>(h g hg).elim ho.2 (fun h'=>by have:=ho.1;omega)
end
end
section
open Go.RowKit
section
variable {P:Program} {ops:Array Oper} {Q:Exit→Act→World→Prop} {md:Region.Mode} {S:World→Prop} {m:Nat}
def okScript (md:Region.Mode) (ops:Array Oper) (g m:Nat):List (Bool × Nat)→Array Bool→Bool
 | [],listed=>Region.seqB md ops g m listed
 | (true,i) :: r,listed=>decide (i < m) && ((Region.ready md ops listed).contains i && Region.free md ops listed i) && okScript md ops g m r (listed.setIfInBounds i true)
 | (false,i) :: r,listed=>decide (i < m) && decide (Region.ready md ops listed=[i]) && okScript md ops g m r (listed.setIfInBounds i true)
def wpScript (P:Program) (ops:Array Oper) (Q:Exit→Act→World→Prop) (S:World→Prop) (rest:List Oper):List (Bool × Nat)→Act→World→Prop
 | [],a,w=>wpList P ops Q rest a w
 | (true,i) :: r,a,w=>∃ o v,ops[i]?=some o∧YieldsIf P ops S o v a∧wpScript P ops Q S rest r (a.put o.dst v) w
 | (false,i) :: r,a,w=>∃ o,ops[i]?=some o∧wpList P ops (ThenS S Q (wpScript P ops Q S rest r)) [o] a w
theorem wpScript_take {rest:List Oper} {i:Nat} {r:List (Bool × Nat)} {a:Act} {w:World} {o:Oper} (v:Value) (ho:ops[i]?=some o) (hw:Region.wanted o (yielded ops a.tmps)=true) (hy:∀ w,S w→(execOp a.eval o).run P w = .ok (.value v) w) (h:wpScript P ops Q S rest r (a.put o.dst v) w):wpScript P ops Q S rest ((true,i) :: r) a w :=
 ⟨o,v,ho, .inl ⟨hw,hy⟩,h⟩
theorem wpScript_skip {rest:List Oper} {i:Nat} {r:List (Bool × Nat)} {a:Act} {w:World} {o:Oper} (ho:ops[i]?=some o) (hw:Region.wanted o (yielded ops a.tmps)=false) (h:wpScript P ops Q S rest r (a.put o.dst undef) w):wpScript P ops Q S rest ((true,i) :: r) a w :=
 ⟨o,undef,ho, .inr ⟨hw,rfl⟩,h⟩
theorem wpScript_do {rest:List Oper} {i:Nat} {r:List (Bool × Nat)} {a:Act} {w:World} {o:Oper} (ho:ops[i]?=some o) (h:wpList P ops (ThenS S Q (wpScript P ops Q S rest r)) [o] a w):wpScript P ops Q S rest ((false,i) :: r) a w:=⟨o,ho,h⟩
theorem wpAnyG_script {rest:List Oper} (hsel:Region.noSelect ops=true) (hs:Region.sinkB md ops m=true) (hc:Region.chainB md ops m=true) (hm:m < ops.size)
  (hQ:∀ c a a' w,Q (.panic c) a w→Q (.panic c) a' w) (hrest:∀ j,rest[j]?=ops[m+j]?) :
  ∀ (sc:List (Bool × Nat)) (listed:Array Bool) (a:Act) (w:World),HeadInv md ops m listed→okScript md ops rest.length m sc listed=true→S w→wpScript P ops Q S rest sc a w →
   wpAnyG P md ops Q S m (sc.length+rest.length) listed a w
 | [],listed,a,w,_,hB,_,h=>by
  rw [List.length_nil,Nat.zero_add]
  exact wpAnyG_of_seq rest m listed a w (Nat.le_refl _) hrest hB h
 | (true,i) :: r,listed,a,w,inv,hB,hS,h=>by
  simp only [okScript,Bool.and_eq_true,decide_eq_true_eq] at hB
  obtain ⟨⟨him,hr,hf⟩,hB'⟩:=hB
  have hr':i∈Region.ready md ops listed:=by simpa using hr
  obtain ⟨o,v,ho,hy,hK⟩:=h
  rw [List.length_cons,show r.length+1+rest.length=(r.length+rest.length)+1 by omega]
  exact wpAnyG_first ho (Region.noSelect_spec hsel) hs hc hm him (fun c a' w'=>hQ c _ _ w') (r.length+rest.length) listed a w inv (Region.free_spec ho hf) hr' hy hS
   (wpAnyG_script hsel hs hc hm hQ hrest r _ _ _ (inv.set hr' him) hB' hS hK)
 | (false,i) :: r,listed,a,w,inv,hB,hS,h=>by
  simp only [okScript,Bool.and_eq_true,decide_eq_true_eq] at hB
  obtain ⟨⟨him,hr⟩,hB'⟩:=hB
  obtain ⟨o,ho,hK⟩:=h
  have hr':i∈Region.ready md ops listed:=by rw [hr];exact List.mem_singleton.2 rfl
  rw [List.length_cons,show r.length+1+rest.length=(r.length+rest.length)+1 by omega]
  refine ⟨fun h1=>(by rw [hr] at h1;cases h1),fun j hj=>?_⟩
  rw [hr] at hj
  have hik:j=i:=by simpa using hj
  subst hik
  have hw:wpOp P ops (ThenS S Q (wpScript P ops Q S rest r)) j (fun a' w'=>S w'∧wpScript P ops Q S rest r a' w') a w:=by
   unfold wpOp;simp only [ho];exact hK
  have hw2:wpOp P ops Q j (fun a' w'=>S w'∧wpScript P ops Q S rest r a' w') a w:=by
   unfold wpOp at hw ⊢
   simp only [ho] at hw ⊢
   exact hw
  exact wpOp_mono (fun a' w' h'=>⟨fun _=>h'.1,wpAnyG_script hsel hs hc hm hQ hrest r _ a' w' (inv.set hr' him) hB' h'.1 h'.2⟩) hw2
end
def scriptB (l:List Oper) (m:Nat) (sc:List (Bool × Nat)):Bool :=
 Region.noSelect l.toArray && decide (m < l.toArray.size) && Region.sinkB .any l.toArray m && Region.chainB .any l.toArray m && decide (sc.length=m) && okScript .any l.toArray (l.toArray.size - m) m sc (Array.replicate l.toArray.size false)
theorem wp_region_script {P:Program} {Q:Exit→Act→World→Prop} {id:Nat} {a:Act} {w:World} {l:List Oper} (S:World→Prop) (m:Nat) (sc:List (Bool × Nat)) (hm:P.follows .mixedOrders=true) (hB:scriptB l m sc=true)
  (hS:S w.drew) (h:wpScript P l.toArray (NoPanic Q) S (l.drop m) sc a w.drew):(Code.region id l.toArray true).wp P Q a w:=by
 refine wp_region_noPanic ?_
 simp only [scriptB,Bool.and_eq_true,decide_eq_true_eq] at hB
 obtain ⟨⟨⟨⟨⟨hsel,hn⟩,hs⟩,hc⟩,hsc⟩,hok⟩:=hB
 have hrl:(l.drop m).length=l.toArray.size - m:=by simp
 have hn':m < l.length:=by simpa using hn
 have inv0:HeadInv .any l.toArray m (Array.replicate l.toArray.size false) :=
  ⟨by simp,fun j oj _ hl=>(by rw [getD_replicate_false] at hl;cases hl),fun t _ ht=>getD_in (by simpa using ht) (getD_replicate_false _ _)⟩
 refine wp_region_any hm (wpAny_of_G (S:=S) (m:=m) _ _ _ _ ?_)
 have:=wpAnyG_script (P:=P) (Q:=NoPanic Q) (md := .any) (S:=S) (m:=m) (rest:=l.drop m) hsel hs hc hn (fun _ _ _ _ h=>h) (fun j=>by rw [List.getElem?_drop];simp) sc _ a _ inv0 (by rw [hrl];exact hok) hS h
 rw [hrl,hsc,show m+(l.toArray.size - m)=l.toArray.size by simp;omega] at this
 exact this
end
end Go.Proofs.YtfkjjoglnmeciaaGreatDoor
