/- part 1 -/
import Derived.Test.YtfkjjoglnmeciaaGreatDoorProg
import Derived.WalkSpells
import Derived.WalkLawsBesides
import Derived.Deep.AppendLies
import Derived.Deep.OwnRows
import Derived.BigQuiet
import Derived.Lib.Hide
import Derived.StillTail
import Derived.Deep.RegionHeld3
set_option maxRecDepth 100000
set_option maxHeartbeats 16000000
namespace Go.Proofs.YtfkjjoglnmeciaaGreatDoor
open Go.Lib (hid)
section
theorem oM {p:Prop} (h:p:=by omega):p:=h
theorem dT {p:Prop} [Decidable p] (h:p:=by omega):decide p=true:=decide_eq_true h
theorem dF {p:Prop} [Decidable p] (h:¬p:=by omega):decide p=false:=decide_eq_false h
theorem nL (n:Nat):n<=n:=Nat.le_refl n
theorem zA {α:Type _} {l:List α} {i:Nat} (h:i < l.toArray.size):l.toArray[i]=l[i]:=rfl
theorem zB {α:Type _} (a:α) (l:List α) (h:0 < (a :: l).length):(a :: l)[0]=a:=rfl
theorem zC {α:Type _} (a:α) (l:List α) (i:Nat) (h:i+1 < (a :: l).length):(a :: l)[i+1]=l[i]'(Nat.lt_of_succ_lt_succ h):=rfl
theorem zD {α:Type _} (l:List α) (i:Nat) (a:α):l.toArray.setIfInBounds i a=(l.set i a).toArray:=List.setIfInBounds_toArray l i a
theorem zE {α:Type _} {x:α} {l:List α} {a:α}:(x :: l).set 0 a=a :: l:=rfl
theorem zF {α:Type _} {x:α} {l:List α} {i:Nat} {a:α}:(x :: l).set (i+1) a=x :: l.set i a:=rfl
end
section
open Go.RowKit Go.WideShapes Go.ChangeShapes
theorem z3e (a:Addr) (n:Nat):(a.add n).block=a.block:=by unfold Addr.add;split <;> rfl
def z0c (w:World) (B size:Nat) (A:Option Addr) (n:Nat) (xs:List Value):Prop :=
 xs.length=n * size/\(0 < n->∃ ad,A=some ad/\ad.block < B/\∀ j u,xs[j]?=some u->w.cell? (ad.add j)=some u)
section
variable {w w':World} {B B' size n:Nat} {A:Option Addr} {xs:List Value}
theorem z0c.at_ {k:Nat} (h:z0c w B 1 A n xs) (hk:k < n):∃ ad u,A=some ad/\ad.block < B/\xs[k]?=some u/\w.cell? (ad.add k)=some u:=by
 obtain ⟨ad,e,hb,hc⟩:=h.2 oM;have hl:k < xs.length:=by have:=h.1;omega
 exact ⟨ad,xs[k],e,hb,List.getElem?_eq_getElem hl,hc k _ (List.getElem?_eq_getElem hl)⟩
theorem z0c.keep (h:z0c w B size A n xs) (hk:∀ p:Addr,p.block < B->w'.cell? p=w.cell? p):z0c w' B size A n xs :=
 ⟨h.1,fun hn=>by
  obtain ⟨ad,e,hb,hc⟩:=h.2 hn;exact ⟨ad,e,hb,fun j u hu=>(hk _ (by rw [z3e];exact hb)).trans (hc j u hu)⟩⟩
theorem z0c.more (h:z0c w B size A n xs) (hB:B<=B'):z0c w B' size A n xs :=
 ⟨h.1,fun hn=>by
  obtain ⟨ad,e,hb,hc⟩:=h.2 hn;exact ⟨ad,e,oM,hc⟩⟩
abbrev Blw (w w2:World):Prop:=Below w.heap.size w w2
theorem z0c.below (h:z0c w B size A n xs) (hb:Below B w w'):z0c w' B size A n xs:=h.keep fun _ hp=>hb.cell hp
theorem z0c.drew (h:z0c w B size A n xs):z0c w.drew B size A n xs:=h
theorem z0c.alloc (h:z0c w B size A n xs) (hB:B<=w.heap.size) (o:Obj):z0c (w.alloc o) B size A n xs:=h.keep fun p hp=>World.cell?_alloc_lt w o p oM
theorem z0c.of_own {base:Nat} {e:TypeId} {c:Nat} (h:w.ownsRow base e size (.slice A n c) n xs):z0c w w.heap.size size A n xs:=by
 refine ⟨h.1,fun hn=>?_⟩;obtain ⟨g,Gb,hv,_,Ga⟩:=h.form hn;have hA:A=some ⟨g,0,none⟩:=by injection hv
 subst hA;exact ⟨_,rfl,Ga,h.cells (g:=g) rfl⟩
end
def Blk (w:World) (g:Nat) (t:TypeId) (cs:Array Value):Prop:=w.heap[g]?=some (.cells cs t (0,0))
section
variable {w w':World} {g:Nat} {t:TypeId} {cs:Array Value}
theorem Blk.lt (h:Blk w g t cs):g < w.heap.size:=by
 rcases Nat.lt_or_ge g w.heap.size with hlt | hge
 ·exact hlt
 ·unfold Blk at h;rw [Array.getElem?_eq_none hge] at h;cases h
theorem Blk.cell (h:Blk w g t cs) (i:Nat):w.cell? ⟨g,i,none⟩=cs[i]?:=cell_of_row w g i cs t (0,0) h
theorem Blk.frozen (h:Blk w g t cs) (i:Nat):w.frozen? ⟨g,i,none⟩=false:=by
 unfold Blk at h;simp [World.frozen?,h]
theorem Blk.new (w:World) (t:TypeId) (cs:Array Value):Blk (w.alloc (.cells cs t)) w.heap.size t cs:=heap_alloc_new w _
theorem Blk.drew (h:Blk w g t cs):Blk w.drew g t cs:=h
theorem Blk.drewN (h:Blk w g t cs) (n:Nat):Blk (w.drewN n) g t cs:=h
theorem Blk.alloc (h:Blk w g t cs) (o:Obj):Blk (w.alloc o) g t cs:=(Below.heap_alloc w o g h.lt).trans h
theorem Blk.set_ (h:Blk w g t cs) (i:Nat) (u:Value):Blk (w.setCell ⟨g,i,none⟩ u) g t (cs.setIfInBounds i u):=by
 unfold Blk at h ⊢;simp [World.setCell,Array.getElem?_modify,h]
theorem Blk.far (h:Blk w g t cs) {p:Addr} (hp:g≠p.block) (u:Value):Blk (w.setCell p u) g t cs:=(Below.heap_setCell w p u g hp).trans h
theorem Blk.below {B:Nat} (h:Blk w g t cs) (hb:Below B w w') (hg:g < B):Blk w' g t cs:=(hb.block g hg).trans h
theorem Blk.grown {row:Option Nat} (h:Blk w g t cs) (hb:w.grownBy w' row) (hg:some g≠row):Blk w' g t cs:=(hb.block g h.lt hg).trans h
theorem Blk.ne_ {g':Nat} {t':TypeId} {cs':Array Value} (h:Blk w g t cs) (h':Blk w g' t' cs') (hne:t≠t'):g≠g':=by
 rintro rfl;unfold Blk at h h';rw [h] at h';injection h' with h'
 injection h' with _ ht
 exact hne ht
theorem z0i {base:Nat} {e:TypeId} {size n:Nat} {v:Value} {xs:List Value} (h:w.ownsRow base e size v n xs) (hg:Blk w g t cs) (hne:e≠t):v.ownBlock≠some g:=by
 rcases h.2 with ⟨rfl,_⟩ | ⟨g',cap,cur,rfl,_,hh,_⟩
 ·simp [Value.ownBlock]
 ·intro he
  have:g'=g:=by simpa [Value.ownBlock] using he
  subst this;exact Blk.ne_ (t:=e) hh hg hne rfl
end
section
variable {P:Program} (w:World)
theorem z8k (base:Nat) (t ty e:TypeId) (i:TypeInfo) (size:Nat) (ht:P.underlying t=some (.slice e)) (hi:P.info? e=some i)
  (v:Value) (n:Nat) (xs:List Value) (hown:w.ownsRow base e size v n xs) (c:Nat):(Builtin.append_ #[t,t] ty #[v,.slice none 0 c]).run P w=.ok v w:=by
 rcases hown.2 with ⟨rfl,rfl⟩ | ⟨g,cap,cur,rfl,_,_,hnc,_⟩
 ·simp [Builtin.append_,run_underlying ht,sizeOf,typeInfo,hi,Builtin.lenOf,Builtin.firstCells]
 ·simp [Builtin.append_,run_underlying ht,sizeOf,typeInfo,hi,Builtin.lenOf,Builtin.firstCells,hnc,storeCells]
theorem y1z (base:Nat) (t ty e:TypeId) (i:TypeInfo) (z:Value) (size bytes:Nat) (ht:P.underlying t=some (.slice e)) (hi:P.info? e=some i) (hz:i.zero=some z)
  (hsize:i.size=size) (hby:i.bytes=bytes) (hzs:z.cells.size=size) (hsz:0 < size)
  (v:Value) (n:Nat) (xs:List Value) (hown:w.ownsRow base e size v n xs)
  (B:Nat) (A:Option Addr) (m c:Nat) (news:List Value) (hr:z0c w B size A m news) (h1:∀ u∈news,u.oneCell'=true)
  (h63:n+m<=maxLen) (hbytes:(n+m) * bytes<=140737488355328) (hbase:base<=w.heap.size) :
  ∃ v' w',(Builtin.append_ #[t,t] ty #[v,.slice A m c]).run P w=.ok v' w'/\w'.ownsRow base e size v' (n+m) (xs++news)/\w.grownBy w' v.ownBlock /\
   (v'.ownBlock=v.ownBlock\/v'.ownBlock=some w.heap.size):=by
 rcases A with _ | ad
 ·have hm:m=0:=by
   rcases Nat.eq_zero_or_pos m with h0 | h0
   ·exact h0
   ·obtain ⟨ad,h,_⟩:=hr.2 h0
    cases h
  subst hm;have hn:news=[]:=List.eq_nil_of_length_eq_zero (by simpa using hr.1);subst hn;exact ⟨v,w,z8k w base t ty e i size ht hi v n xs hown c,by simpa using hown,World.grownBy.refl w _,.inl rfl⟩
 ·have Ga:∀ j u,news[j]?=some u->w.cell? (ad.add j)=some u:=by
   intro j u hu;rcases Nat.eq_zero_or_pos m with h0 | h0
   ·subst h0
    have hn:news=[]:=List.eq_nil_of_length_eq_zero (by simpa using hr.1);subst hn;simp at hu
   ·obtain ⟨Gc,h,_,hc⟩:=hr.2 h0
    injection h with h
    subst h;exact hc j u hu
  obtain ⟨v',w',Gb,h2,h3,_,h5⟩:=run_append_own_at (P:=P) w base t ty e i z size bytes ht hi hz hsize hby hzs hsz v n xs hown ad m c news hr.1 Ga h1 h63 hbytes hbase;exact ⟨v',w',Gb,h2,h3,h5⟩
theorem z3p {o:Oper} {a:Act} {K:Act->World->Prop} {Q:Exit->Act->World->Prop} (s x:Operand) (t:TypeId)
  (ho:o.op=.call { callee := .builtin .append,args:=#[s,x],argTypes:=#[t,t] })
  (base:Nat) (e:TypeId) (i:TypeInfo) (z:Value) (size bytes:Nat) (ht:P.underlying t=some (.slice e)) (hi:P.info? e=some i) (hz:i.zero=some z)
  (hsize:i.size=size) (hby:i.bytes=bytes) (hzs:z.cells.size=size) (hsz:0 < size)
  (v:Value) (n:Nat) (xs:List Value) (hs:a.eval s=v) (hown:w.ownsRow base e size v n xs)
  (B:Nat) (A:Option Addr) (m c:Nat) (news:List Value) (hx:a.eval x=.slice A m c) (hr:z0c w B size A m news) (h1:∀ u∈news,u.oneCell'=true)
  (h63:n+m<=maxLen) (hbytes:(n+m) * bytes<=140737488355328) (hbase:base<=w.heap.size)
  (h:∀ v' w',w'.ownsRow base e size v' (n+m) (xs++news)->w.grownBy w' v.ownBlock->(v'.ownBlock=v.ownBlock\/v'.ownBlock=some w.heap.size)->K (a.put o.dst v') w'):o.wp P a w K Q:=by
 obtain ⟨v',w',Ga,h2,h3,h4⟩:=y1z (P:=P) w base t o.type e i z size bytes ht hi hz hsize hby hzs hsz v n xs hown B A m c news hr h1 h63 hbytes hbase;unfold Oper.wp execOp;simp only [ho,resolve,invoke,builtin,Sem.run_bind,Sem.run_pure,Result.andThen_ok,List.map_toArray,List.map_cons,List.map_nil,hs,hx,Ga];exact h v' w' h2 h3 h4
end
theorem z3t {B:Nat} {a w:World} (h:Below B a w) (n:Nat):Below B a (w.drewN n):=⟨h.os,h.tape,h.output,h.size,h.block⟩
section
variable {H:Type} {enc:TypeId × Value->H} {P:Program}
end
end
section
open Go.RowKit
section
variable {P:Program} {ops:Array Oper} {Q:Exit->Act->World->Prop} {md:Region.Mode} {S:World->Prop} {m:Nat}
def y3p (P:Program) (md:Region.Mode) (ops:Array Oper) (Q:Exit->Act->World->Prop) (S:World->Prop) (m:Nat):Nat->Array Bool->Act->World->Prop
 | 0,listed,a,w=>Region.ready md ops listed=[]/\Q .normal a w
 | fuel+1,listed,a,w =>
  (Region.ready md ops listed=[]->Q .normal a w) /\
  ∀ i∈Region.ready md ops listed,wpOp P ops Q i (fun a' w'=>(i < m->S w')/\y3p P md ops Q S m fuel (listed.setIfInBounds i true) a' w') a w
theorem y3q:∀ (fuel:Nat) (listed:Array Bool) (a:Act) (w:World),y3p P md ops Q S m fuel listed a w->wpAny P md ops Q fuel listed a w
 | 0,_,_,_,h=>h
 | fuel+1,_,_,_,h=>⟨h.1,fun i hi=>wpOp_mono (fun a' w' h'=>y3q fuel _ a' w' h'.2) (h.2 i hi)⟩
theorem y8h {i:Nat} {oi:Oper} {v:Value} (hi:ops[i]?=some oi) (hsel:∀ (j:Nat) (o:Oper) cs b,ops[j]?=some o->o.op ≠ .select cs b)
  (hs:Region.sinkB md ops m=true) (hc:Region.chainB md ops m=true) (hm:m < ops.size) (him:i < m)
  (hQ:∀ c a w,Q (.panic c) (a.put oi.dst v) w->Q (.panic c) a w) :
  ∀ (fuel:Nat) (listed:Array Bool) (a:Act) (w:World),HeadInv md ops m listed ->
   (∀ j oj,ops[j]?=some oj->j≠i->listed.getD j true=false->(∀ e∈oj.after,Region.binds md e=true->e.on≠i)->oi.apart ops oj=true) ->
   i∈Region.ready md ops listed->YieldsIf P ops S oi v a->S w ->
   y3p P md ops Q S m fuel (listed.setIfInBounds i true) (a.put oi.dst v) w->y3p P md ops Q S m (fuel+1) listed a w:=by
 intro fuel;induction fuel with
 | zero =>
  intro listed a w _ _ hr hy hS H;refine ⟨fun h=>(by rw [h] at hr;cases hr),fun j hj=>?_⟩;by_cases hji:j=i
  ·subst hji;exact hy.wpOp hi hS ⟨fun _=>hS,H⟩
  ·have:=ready_mono hj hji
   rw [H.1] at this;cases this
 | succ fuel ih =>
  intro listed a w inv hfree hr hy hS H;have Gc:=(mem_ready.1 hr).1;refine ⟨fun h=>(by rw [h] at hr;cases hr),fun j hj=>?_⟩;by_cases hji:j=i
  ·subst hji;exact hy.wpOp hi hS ⟨fun _=>hS,H⟩
  ·have Gg:j < m:=by
    rcases Nat.lt_or_ge j m with h | h
    ·exact h
    ·exact absurd hj (tail_waits hs hc hm inv _ i rfl him Gc j h)
   have h1:=H.2 j (ready_mono hj hji);obtain ⟨Gb,oj,Gf,Gd⟩:=mem_ready.1 hj;have Ge:∀ e∈oj.after,Region.binds md e=true->e.on≠i:=fun e he hb heq=>by
    have h1:=Gd e he hb;rw [heq,getD_both Gc] at h1;cases h1
   have h2:=wpOp_putIf Gf (hfree j oj Gf hji Gb Ge) (fun cs b=>hsel i oi cs b hi) (fun cs b=>hsel j oj cs b Gf) hQ hy h1;have Ga:∀ k ok,ops[k]?=some ok->k≠i->(listed.setIfInBounds j true).getD k true=false ->
     (∀ e∈ok.after,Region.binds md e=true->e.on≠i)->oi.apart ops ok=true:=fun k ok hk hki Gc hno=>by
    refine hfree k ok hk hki ?_ hno;by_cases hjk:j=k
    ·subst hjk;exact Gb
    ·rw [getD_set_ne true hjk] at Gc;exact Gc
   refine wpOp_mono (fun a' w' h3=>⟨h3.2.1,ih (listed.setIfInBounds j true) a' w' (inv.set hj Gg) Ga (ready_mono hr (Ne.symm hji)) h3.1 (h3.2.1 Gg) ?_⟩) h2;rw [Array.setIfInBounds_comm _ _ hji];exact h3.2.2
theorem z7z:∀ (l:List Oper) (k:Nat) (listed:Array Bool) (a:Act) (w:World),m<=k->(∀ j,l[j]?=ops[k+j]?) ->
  Region.seqB md ops l.length k listed=true->wpList P ops Q l a w->y3p P md ops Q S m l.length listed a w
 | [],_,_,_,_,_,_,hB,h=>⟨by simpa [Region.seqB] using hB,h⟩
 | o :: l,k,listed,a,w,hk,hl,hB,h=>by
  have h0:ops[k]?=some o:=by simpa using (hl 0).symm
  simp only [List.length_cons,Region.seqB,Bool.and_eq_true,decide_eq_true_eq] at hB;refine ⟨fun h1=>(by rw [hB.1] at h1;cases h1),fun i hi=>?_⟩;rw [hB.1] at hi;have Ga:i=k:=by simpa using hi
  subst Ga;have hw:wpOp P ops Q i (wpList P ops Q l) a w:=by unfold wpOp;simp only [h0];exact h
  exact wpOp_mono (fun a' w' h'=>⟨fun hlt=>absurd hlt oM,z7z l (i+1) _ a' w' oM (fun j=>by have:=hl (j+1);simpa [Nat.add_assoc,Nat.add_comm 1 j] using this) hB.2 h'⟩) hw
def y0e (S:World->Prop) (Q:Exit->Act->World->Prop) (L:Act->World->Prop):Exit->Act->World->Prop
 | .normal,a,w=>S w/\L a w
 | e,a,w=>Q e a w
end
end
section
open Go.RowKit Go.Maps
abbrev kU (x:Nat):Lit := .int .u64 x
theorem w8c {x y:Nat} (h:kU x=kU y):x=y:=by
 have:(x:Int)=(y:Int):=by simpa [kU] using h
 omega
section
variable {H:Type} {D0:DataW H} {left:Lit->Bool} {ss:List Nat}
variable {P:Program} {k:TypeId} {R:Value->Option (DataW H × List MemPlace)} {w:World} {b n:Nat}
end
end
section
open Go.RowKit
theorem z3i {w:World} {base:Nat} {e:TypeId} {size:Nat} {v:Value} {n:Nat} {xs:List Value} (h:w.ownsRow base e size v n xs):∃ A c,v=.slice A n c:=by
 rcases h.2 with ⟨rfl,rfl⟩ | ⟨g,cap,cur,rfl,_⟩
 ·exact ⟨_,_,rfl⟩
 ·exact ⟨_,_,rfl⟩
theorem z6j (w:World) (l:List Value) (k size:Nat) (e:TypeId) (o:Obj) (ho:o=.cells l.toArray e) (hl:l.length=k * size):z0c (w.alloc o) (w.heap.size+1) size (some ⟨w.heap.size,0,none⟩) k l:=by
 subst ho;refine ⟨hl,fun _=>⟨_,rfl,by show w.heap.size < _;omega,fun j u hu=>?_⟩⟩;have ha:(⟨w.heap.size,0,none⟩:Addr).add j=⟨w.heap.size,j,none⟩:=by unfold Addr.add;split <;> simp_all
 have hh:(w.alloc (.cells l.toArray e)).heap[w.heap.size]?=some (.cells l.toArray e (0,0)):=heap_alloc_new w _;rw [ha,cell_of_row _ _ _ _ _ _ hh];simpa using hu
theorem z0r {w w':World} {base:Nat} {e:TypeId} {size:Nat} {v:Value} {n:Nat} {xs:List Value} (h:w.ownsRow base e size v n xs) (hb:Blw w w'):w'.ownsRow base e size v n xs:=by
 refine ⟨h.1,?_⟩;rcases h.2 with h0 | ⟨g,cap,cur,h1,h2,h3,h4⟩
 ·exact .inl h0
 ·refine .inr ⟨g,cap,cur,h1,h2,?_,h4⟩
  have:Blk w g e cur:=h3;exact (hb.block g this.lt).trans h3
theorem z4z {w:World} {base:Nat} {e:TypeId} {size:Nat} {A:Option Addr} {n c:Nat} {xs:List Value} (h:w.ownsRow base e size (.slice A n c) n xs):n<=c/\c<=9223372036854775807:=by
 rcases h.2 with ⟨hv,h0⟩ | ⟨g,cap,cur,hv,_,_,hnc,hm,_⟩
 ·injection hv with h1 h2 h3
  omega
 ·injection hv with h1 h2 h3
  subst h3;exact ⟨hnc,hm⟩
theorem w8l {w:World} {base:Nat} {e:TypeId} {size:Nat} {v:Value} {n:Nat} {xs:List Value} (h:w.ownsRow base e size v n xs) {g:Nat} (hg:g < base\/w.heap.size<=g):some g≠v.ownBlock:=by
 intro he;have:=h.lt g he.symm;omega
theorem w5y {w:World} {base:Nat} {e:TypeId} {size:Nat} {v:Value} {n:Nat} {xs:List Value} (h:w.ownsRow base e size v n xs) {p:Addr} (hp:p.block < base) (u:Value):(w.setCell p u).ownsRow base e size v n xs:=by
 refine ⟨h.1,?_⟩;rcases h.2 with h0 | ⟨g,cap,cur,h1,h2,h3,h4⟩
 ·exact .inl h0
 ·refine .inr ⟨g,cap,cur,h1,h2,?_,h4⟩
  have:Blk w g e cur:=h3;exact this.far (p:=p) oM u
section
variable {P:Program} (w:World)
theorem z0p {ops:Array Oper} {rest:List Oper} {o:Oper} {a:Act} {Q:Exit->Act->World->Prop} (s x:Operand) (t:TypeId)
  (hw:Region.wanted o (yielded ops a.tmps)=true)
  (ho:o.op=.call { callee := .builtin .append,args:=#[s,x],argTypes:=#[t,t] })
  (base:Nat) (e:TypeId) (i:TypeInfo) (z:Value) (size bytes:Nat) (ht:P.underlying t=some (.slice e)) (hi:P.info? e=some i) (hz:i.zero=some z)
  (hsize:i.size=size) (hby:i.bytes=bytes) (hzs:z.cells.size=size) (hsz:0 < size)
  (v:Value) (n:Nat) (xs:List Value) (hs:a.eval s=v) (hown:w.ownsRow base e size v n xs)
  (B:Nat) (A:Option Addr) (m c:Nat) (news:List Value) (hx:a.eval x=.slice A m c) (hr:z0c w B size A m news) (h1:∀ u∈news,u.oneCell'=true)
  (h63:n+m<=maxLen) (hbytes:(n+m) * bytes<=140737488355328) (hbase:base<=w.heap.size)
  (h:∀ A' n' c' w',n'=n+m->w'.ownsRow base e size (.slice A' n' c') n' (xs++news)->w.grownBy w' v.ownBlock->Below base w w'->wpList P ops Q rest (a.put o.dst (.slice A' n' c')) w'):wpList P ops Q (o :: rest) a w:=by
 refine Go.BigFrame.wpList_want hw fun K hK=>?_
 refine z3p w s x t ho base e i z size bytes ht hi hz hsize hby hzs hsz v n xs hs hown B A m c news hx hr h1 h63 hbytes hbase fun v' w' h2 h3 _=>?_
 obtain ⟨A',c',rfl⟩:=z3i h2;exact hK _ _ (h A' _ c' w' rfl h2 h3 ((Below.refl _ _).grown h3 hbase (fun j hj=>(hown.lt j hj).1)))
end
end
section
open Go.RowKit
abbrev Fp:=Nat->Prop
structure Chg (S:Fp) (w w':World):Prop where
 os:w'.os=w.os
 tape:w'.tape=w.tape
 output:w'.output=w.output
 size:w.heap.size<=w'.heap.size
 block:∀ k,k < w.heap.size->¬ S k->w'.heap[k]?=w.heap[k]?
def Grew (S S':Fp) (w:World):Prop:=∀ k,S' k->S k\/w.heap.size<=k
def Off (S:Fp) (w:World) (g:Nat):Prop:=g < w.heap.size/\¬ S g
def Fp.no:Fp:=fun _=>False
section
variable {S S' T:Fp} {w w1 w2:World}
theorem Chg.refl (S:Fp) (w:World):Chg S w w:=⟨rfl,rfl,rfl,nL _,fun _ _ _=>rfl⟩
theorem Chg.trans (h:Chg S w w1) (k:Chg S' w1 w2) (hg:Grew S S' w):Chg S w w2 :=
 ⟨k.os.trans h.os,k.tape.trans h.tape,k.output.trans h.output,Nat.le_trans h.size k.size,fun i hi hs =>
  (k.block i (Nat.lt_of_lt_of_le hi h.size) (fun h'=>(hg i h').elim hs (fun h''=>oM))).trans (h.block i hi hs)⟩
theorem Chg.mono (h:Chg S w w1) (hs:∀ k,S k->T k):Chg T w w1:=⟨h.os,h.tape,h.output,h.size,fun k hk hn=>h.block k hk (fun h'=>hn (hs k h'))⟩
theorem Chg.alloc (h:Chg S w w1) (o:Obj):Chg S w (w1.alloc o) :=
 ⟨h.os,h.tape,h.output,Nat.le_trans h.size (by simp),fun k hk hn=>(Below.heap_alloc w1 o k (Nat.lt_of_lt_of_le hk h.size)).trans (h.block k hk hn)⟩
theorem Chg.setCell (h:Chg S w w1) {p:Addr} (hp:S p.block\/w.heap.size<=p.block) (u:Value):Chg S w (w1.setCell p u):=by
 refine ⟨h.os,h.tape,h.output,Nat.le_trans h.size (by simp),fun k hk hn=>(Below.heap_setCell w1 p u k ?_).trans (h.block k hk hn)⟩;rintro rfl;rcases hp with hp | hp
 ·exact hn hp
 ·omega
theorem Chg.drew (h:Chg S w w1):Chg S w w1.drew:=⟨h.os,h.tape,h.output,h.size,h.block⟩
theorem Chg.drewN (h:Chg S w w1) (n:Nat):Chg S w (w1.drewN n):=⟨h.os,h.tape,h.output,h.size,h.block⟩
theorem Chg.grown {row:Option Nat} (h:Chg S w w1) (hg:w1.grownBy w2 row) (hr:∀ g,row=some g->S g\/w.heap.size<=g):Chg S w w2 :=
 ⟨hg.os.trans h.os,hg.tape.trans h.tape,hg.output.trans h.output,Nat.le_trans h.size hg.size,fun k hk hn =>
  (hg.block k (Nat.lt_of_lt_of_le hk h.size) (fun e=>(hr k e.symm).elim hn (fun h'=>oM))).trans (h.block k hk hn)⟩
theorem Chg.below (h:Chg S w w1) (hb:Blw w1 w2):Chg S w w2 :=
 ⟨hb.os.trans h.os,hb.tape.trans h.tape,hb.output.trans h.output,Nat.le_trans h.size hb.size,fun k hk hn=>(hb.block k (Nat.lt_of_lt_of_le hk h.size)).trans (h.block k hk hn)⟩
theorem Chg.of_below (hb:Blw w w1):Chg S w w1:=(Chg.refl S w).below hb
theorem Chg.toBelow (h:Chg S w w1) {B:Nat} (hB:B<=w.heap.size) (hS:∀ k,S k->B<=k):Below B w w1 :=
 ⟨h.os,h.tape,h.output,h.size,fun k hk=>h.block k oM (fun hs=>by have:=hS k hs;omega)⟩
theorem Chg.blk (h:Chg S w w1) {g:Nat} {t:TypeId} {cs:Array Value} (hB:Blk w g t cs) (hg:¬ S g):Blk w1 g t cs:=(h.block g hB.lt hg).trans hB
theorem Chg.own (h:Chg S w w1) {base:Nat} {e:TypeId} {size:Nat} {v:Value} {n:Nat} {xs:List Value} (ho:w.ownsRow base e size v n xs) (hS:∀ g,v.ownBlock=some g->¬ S g):w1.ownsRow base e size v n xs:=by
 refine ⟨ho.1,?_⟩;rcases ho.2 with hn | ⟨g,cap,cur,rfl,hb,hgg,rest⟩
 ·exact .inl hn
 ·exact .inr ⟨g,cap,cur,rfl,hb,(h.block g (Array.getElem?_eq_some_iff.1 hgg).1 (hS g rfl)).trans hgg,rest⟩
theorem Chg.map (h:Chg S w w1) {H:Type} {P:Program} {k:TypeId} {R:Value->Option (DataW H × List MemPlace)} {b n:Nat} {D:DataW H} (ho:w.ownsMap P k R b n D) (hb:¬ S b):w1.ownsMap P k R b n D:=by
 have Gb:=ho.lt;obtain ⟨es,Ga,h1,h2⟩:=ho;exact ⟨es,Ga,(h.block b Gb hb).trans h1,h2⟩
theorem Chg.reads (h:Chg S w w1) {B size n:Nat} {A:Option Addr} {xs:List Value} (hr:z0c w B size A n xs) (hB:B<=w.heap.size) (hS:∀ ad,A=some ad->¬ S ad.block):z0c w1 B size A n xs :=
 ⟨hr.1,fun hn=>by
  obtain ⟨ad,rfl,hb,hc⟩:=hr.2 hn;refine ⟨ad,rfl,hb,fun j u hu=>?_⟩;rw [World.cell?_of_block (w:=w) (h.block _ (by rw [z3e];omega) (by rw [z3e];exact hS ad rfl))];exact hc j u hu⟩
theorem Grew.refl (S:Fp) (w:World):Grew S S w:=fun _ h => .inl h
theorem Grew.trans {S'':Fp} (h:Grew S S' w) (k:Grew S' S'' w1) (hs:w.heap.size<=w1.heap.size):Grew S S'' w:=fun i hi =>
 (k i hi).elim (h i) (fun h' => .inr oM)
theorem Grew.off (h:Grew S S' w) {g:Nat} (ho:Off S w g):¬ S' g:=fun hg=>(h g hg).elim ho.2 (fun h'=>by have:=ho.1;omega)
end
end
section
open Go.RowKit
section
variable {P:Program} {ops:Array Oper} {Q:Exit->Act->World->Prop} {md:Region.Mode} {S:World->Prop} {m:Nat}
def z6i (md:Region.Mode) (ops:Array Oper) (g m:Nat):List (Bool × Nat)->Array Bool->Bool
 | [],listed=>Region.seqB md ops g m listed
 | (true,i) :: r,listed=>decide (i < m) && ((Region.ready md ops listed).contains i && Region.free md ops listed i) && z6i md ops g m r (listed.setIfInBounds i true)
 | (false,i) :: r,listed=>decide (i < m) && decide (Region.ready md ops listed=[i]) && z6i md ops g m r (listed.setIfInBounds i true)
def z1w (P:Program) (ops:Array Oper) (Q:Exit->Act->World->Prop) (S:World->Prop) (rest:List Oper):List (Bool × Nat)->Act->World->Prop
 | [],a,w=>wpList P ops Q rest a w
 | (true,i) :: r,a,w=>∃ o v,ops[i]?=some o/\YieldsIf P ops S o v a/\z1w P ops Q S rest r (a.put o.dst v) w
 | (false,i) :: r,a,w=>∃ o,ops[i]?=some o/\wpList P ops (y0e S Q (z1w P ops Q S rest r)) [o] a w
theorem y5m {rest:List Oper} {i:Nat} {r:List (Bool × Nat)} {a:Act} {w:World} {o:Oper} (v:Value) (ho:ops[i]?=some o) (hw:Region.wanted o (yielded ops a.tmps)=true) (hy:∀ w,S w->(execOp a.eval o).run P w=.ok (.value v) w) (h:z1w P ops Q S rest r (a.put o.dst v) w):z1w P ops Q S rest ((true,i) :: r) a w :=
 ⟨o,v,ho,.inl ⟨hw,hy⟩,h⟩
theorem tkS {rest:List Oper} {i:Nat} {r:List (Bool × Nat)} {a:Act} {w:World} {o:Oper} {b:Act} (v:Value) (hy:∀ w,S w->(execOp a.eval o).run P w=.ok (.value v) w) (h:z1w P ops Q S rest r b w) (ho:ops[i]?=some o:=by rfl) (hw:Region.wanted o (yielded ops a.tmps)=true:=by rfl) (hb:a.put o.dst v=b:=by conv=>lhs;simp only [Act.put,zA,zB,zC,zD,zE,zF]):z1w P ops Q S rest ((true,i) :: r) a w:=by subst hb;exact y5m v ho hw hy h
theorem z0n {rest:List Oper} {i:Nat} {r:List (Bool × Nat)} {a:Act} {w:World} {o:Oper} (ho:ops[i]?=some o) (hw:Region.wanted o (yielded ops a.tmps)=false) (h:z1w P ops Q S rest r (a.put o.dst undef) w):z1w P ops Q S rest ((true,i) :: r) a w :=
 ⟨o,undef,ho,.inr ⟨hw,rfl⟩,h⟩
theorem z0l {rest:List Oper} {i:Nat} {r:List (Bool × Nat)} {a:Act} {w:World} {o:Oper} (ho:ops[i]?=some o) (h:wpList P ops (y0e S Q (z1w P ops Q S rest r)) [o] a w):z1w P ops Q S rest ((false,i) :: r) a w:=⟨o,ho,h⟩
theorem z5c {rest:List Oper} (hsel:Region.noSelect ops=true) (hs:Region.sinkB md ops m=true) (hc:Region.chainB md ops m=true) (hm:m < ops.size)
  (hQ:∀ c a a' w,Q (.panic c) a w->Q (.panic c) a' w) (hrest:∀ j,rest[j]?=ops[m+j]?) :
  ∀ (sc:List (Bool × Nat)) (listed:Array Bool) (a:Act) (w:World),HeadInv md ops m listed->z6i md ops rest.length m sc listed=true->S w->z1w P ops Q S rest sc a w ->
   y3p P md ops Q S m (sc.length+rest.length) listed a w
 | [],listed,a,w,_,hB,_,h=>by
  rw [List.length_nil,Nat.zero_add];exact z7z rest m listed a w (nL _) hrest hB h
 | (true,i) :: r,listed,a,w,inv,hB,hS,h=>by
  simp only [z6i,Bool.and_eq_true,decide_eq_true_eq] at hB;obtain ⟨⟨him,hr,hf⟩,hB'⟩:=hB;have Ga:i∈Region.ready md ops listed:=by simpa using hr
  obtain ⟨o,v,ho,hy,hK⟩:=h;rw [List.length_cons,show r.length+1+rest.length=(r.length+rest.length)+1 by omega];exact y8h ho (Region.noSelect_spec hsel) hs hc hm him (fun c a' w'=>hQ c _ _ w') (r.length+rest.length) listed a w inv (Region.free_spec ho hf) Ga hy hS
   (z5c hsel hs hc hm hQ hrest r _ _ _ (inv.set Ga him) hB' hS hK)
 | (false,i) :: r,listed,a,w,inv,hB,hS,h=>by
  simp only [z6i,Bool.and_eq_true,decide_eq_true_eq] at hB;obtain ⟨⟨him,hr⟩,hB'⟩:=hB;obtain ⟨o,ho,hK⟩:=h;have Ga:i∈Region.ready md ops listed:=by rw [hr];exact List.mem_singleton.2 rfl
  rw [List.length_cons,show r.length+1+rest.length=(r.length+rest.length)+1 by omega];refine ⟨fun h1=>(by rw [hr] at h1;cases h1),fun j hj=>?_⟩;rw [hr] at hj;have Gb:j=i:=by simpa using hj
  subst Gb;have hw:wpOp P ops (y0e S Q (z1w P ops Q S rest r)) j (fun a' w'=>S w'/\z1w P ops Q S rest r a' w') a w:=by
   unfold wpOp;simp only [ho];exact hK
  have Gc:wpOp P ops Q j (fun a' w'=>S w'/\z1w P ops Q S rest r a' w') a w:=by
   unfold wpOp at hw ⊢;simp only [ho] at hw ⊢;exact hw
  exact wpOp_mono (fun a' w' h'=>⟨fun _=>h'.1,z5c hsel hs hc hm hQ hrest r _ a' w' (inv.set Ga him) hB' h'.1 h'.2⟩) Gc
end
def x8v (l:List Oper) (m:Nat) (sc:List (Bool × Nat)):Bool :=
 Region.noSelect l.toArray && decide (m < l.toArray.size) && Region.sinkB .any l.toArray m && Region.chainB .any l.toArray m && decide (sc.length=m) && z6i .any l.toArray (l.toArray.size - m) m sc (Array.replicate l.toArray.size false)
theorem z0k {P:Program} {Q:Exit->Act->World->Prop} {id:Nat} {a:Act} {w:World} {l:List Oper} (S:World->Prop) (m:Nat) (sc:List (Bool × Nat)) (hm:P.follows .mixedOrders=true) (hB:x8v l m sc=true)
  (hS:S w.drew) (h:z1w P l.toArray (NoPanic Q) S (l.drop m) sc a w.drew):(Code.region id l.toArray true).wp P Q a w:=by
 refine wp_region_noPanic ?_;simp only [x8v,Bool.and_eq_true,decide_eq_true_eq] at hB;obtain ⟨⟨⟨⟨⟨Ga,hn⟩,hs⟩,hc⟩,hsc⟩,hok⟩:=hB;have Gc:(l.drop m).length=l.toArray.size - m:=by simp
 have Gd:m < l.length:=by simpa using hn
 have Gb:HeadInv .any l.toArray m (Array.replicate l.toArray.size false) :=
  ⟨by simp,fun j oj _ hl=>(by rw [getD_replicate_false] at hl;cases hl),fun t _ ht=>getD_in (by simpa using ht) (getD_replicate_false _ _)⟩
 refine wp_region_any hm (y3q (S:=S) (m:=m) _ _ _ _ ?_);have:=z5c (P:=P) (Q:=NoPanic Q) (md := .any) (S:=S) (m:=m) (rest:=l.drop m) Ga hs hc hn (fun _ _ _ _ h=>h) (fun j=>by rw [List.getElem?_drop];simp) sc _ a _ Gb (by rw [Gc];exact hok) hS h;rw [Gc,hsc,show m+(l.toArray.size - m)=l.toArray.size by simp;omega] at this;exact this
end
section
open Go.RowKit
section
variable {P:Program} {ops:Array Oper} {Q:Exit->Act->World->Prop} {md:Region.Mode} {S:World->Prop} {H:Nat->Bool}
def y1t (md:Region.Mode) (ops:Array Oper) (i:Nat):Nat->Nat->Bool
 | 0,_=>false
 | f+1,j=>match ops[j]? with
  | some oj=>oj.after.any fun e=>Region.binds md e && (e.on == i || y1t md ops i f e.on)
  | none=>false
structure Clos (md:Region.Mode) (ops:Array Oper) (listed:Array Bool):Prop where
 closed:∀ j oj,ops[j]?=some oj->listed.getD j false=true->∀ e∈oj.after,Region.binds md e=true->listed.getD e.on false=true
theorem Clos.set {i:Nat} {listed:Array Bool} (inv:Clos md ops listed) (hi:i∈Region.ready md ops listed):Clos md ops (listed.setIfInBounds i true):=by
 obtain ⟨_,oi,Gb,Ga⟩:=mem_ready.1 hi;refine ⟨fun j oj hj hl e he hb=>?_⟩;by_cases hij:i=j
 ·subst hij
  have:oj=oi:=Option.some.inj (hj.symm.trans Gb);subst this;exact getD_set_true (Ga e he hb)
 ·rw [getD_set_ne false hij] at hl
  exact getD_set_true (inv.closed j oj hj hl e he hb)
theorem Clos.deps {i:Nat} {listed:Array Bool} (inv:Clos md ops listed):∀ (f j:Nat),y1t md ops i f j=true->(∀ oj,ops[j]?=some oj->∀ e∈oj.after,Region.binds md e=true->listed.getD e.on false=true)->listed.getD i false=true
 | 0,_,h,_=>by cases h
 | f+1,j,h,hall=>by
  unfold y1t at h;split at h
  ·rename_i oj hj
   obtain ⟨e,he,hb⟩:=Array.any_eq_true'.1 h;simp only [Bool.and_eq_true,Bool.or_eq_true,beq_iff_eq] at hb;have h1:=hall oj hj e he hb.1;rcases hb.2 with h2 | h2
   ·rw [<- h2];exact h1
   ·exact inv.deps f e.on h2 (fun ok hk e' he' hb'=>inv.closed e.on ok hk h1 e' he' hb')
  ·cases h
theorem Clos.not_ready {i j f:Nat} {listed:Array Bool} (inv:Clos md ops listed) (h:y1t md ops i f j=true) (hun:listed.getD i false=false):j ∉ Region.ready md ops listed:=fun hr=>by
 obtain ⟨_,oj,Gb,Ga⟩:=mem_ready.1 hr;have:=inv.deps f j h (fun ok hk e he hb=>by
  have:ok=oj:=Option.some.inj (hk.symm.trans Gb);subst this;exact Ga e he hb)
 rw [hun] at this;cases this
def z2w (P:Program) (md:Region.Mode) (ops:Array Oper) (Q:Exit->Act->World->Prop) (S:World->Prop) (H:Nat->Bool):Nat->Array Bool->Act->World->Prop
 | 0,listed,a,w=>Region.ready md ops listed=[]/\Q .normal a w
 | fuel+1,listed,a,w =>
  (Region.ready md ops listed=[]->Q .normal a w) /\
  ∀ i∈Region.ready md ops listed,wpOp P ops Q i (fun a' w'=>(H i=true->S w')/\z2w P md ops Q S H fuel (listed.setIfInBounds i true) a' w') a w
theorem z8s:∀ (fuel:Nat) (listed:Array Bool) (a:Act) (w:World),z2w P md ops Q S H fuel listed a w->wpAny P md ops Q fuel listed a w
 | 0,_,_,_,h=>h
 | fuel+1,_,_,_,h=>⟨h.1,fun i hi=>wpOp_mono (fun a' w' h'=>z8s fuel _ a' w' h'.2) (h.2 i hi)⟩
theorem z6c {i f:Nat} {oi:Oper} {v:Value} (hi:ops[i]?=some oi) (hsel:∀ (j:Nat) (o:Oper) cs b,ops[j]?=some o->o.op ≠ .select cs b)
  (hQ:∀ c a w,Q (.panic c) (a.put oi.dst v) w->Q (.panic c) a w) :
  ∀ (fuel:Nat) (listed:Array Bool) (a:Act) (w:World),Clos md ops listed ->
   (∀ j,j < ops.size->H j=false->listed.getD j true=true\/y1t md ops i f j=true) ->
   (∀ j oj,ops[j]?=some oj->j≠i->listed.getD j true=false->(∀ e∈oj.after,Region.binds md e=true->e.on≠i)->oi.apart ops oj=true) ->
   i∈Region.ready md ops listed->YieldsIf P ops S oi v a->S w ->
   z2w P md ops Q S H fuel (listed.setIfInBounds i true) (a.put oi.dst v) w->z2w P md ops Q S H (fuel+1) listed a w:=by
 intro fuel;induction fuel with
 | zero =>
  intro listed a w _ _ _ hr hy hS HH;refine ⟨fun h=>(by rw [h] at hr;cases hr),fun j hj=>?_⟩;by_cases hji:j=i
  ·subst hji;exact hy.wpOp hi hS ⟨fun _=>hS,HH⟩
  ·have:=ready_mono hj hji
   rw [HH.1] at this;cases this
 | succ fuel ih =>
  intro listed a w inv hH hfree hr hy hS HH;have Gc:=(mem_ready.1 hr).1;refine ⟨fun h=>(by rw [h] at hr;cases hr),fun j hj=>?_⟩;by_cases hji:j=i
  ·subst hji;exact hy.wpOp hi hS ⟨fun _=>hS,HH⟩
  ·obtain ⟨Gb,oj,Gd,Ge⟩:=mem_ready.1 hj
   have Gi:j < ops.size:=(Array.getElem?_eq_some_iff.1 Gd).1;have Gg:H j=true:=by
    cases hb:H j with
    | true=>rfl
    | false =>
     rcases hH j Gi hb with h | h
     ·rw [Gb] at h;cases h
     ·exact absurd hj (inv.not_ready h (getD_both Gc))
   have h1:=HH.2 j (ready_mono hj hji);have Gf:∀ e∈oj.after,Region.binds md e=true->e.on≠i:=fun e he hb heq=>by
    have h1:=Ge e he hb;rw [heq,getD_both Gc] at h1;cases h1
   have h2:=wpOp_putIf Gd (hfree j oj Gd hji Gb Gf) (fun cs b=>hsel i oi cs b hi) (fun cs b=>hsel j oj cs b Gd) hQ hy h1;have Ga:∀ k ok,ops[k]?=some ok->k≠i->(listed.setIfInBounds j true).getD k true=false ->
     (∀ e∈ok.after,Region.binds md e=true->e.on≠i)->oi.apart ops ok=true:=fun k ok hk hki Gc hno=>by
    refine hfree k ok hk hki ?_ hno;by_cases hjk:j=k
    ·subst hjk;exact Gb
    ·rw [getD_set_ne true hjk] at Gc;exact Gc
   have Gh:∀ k,k < ops.size->H k=false->(listed.setIfInBounds j true).getD k true=true\/y1t md ops i f k=true:=fun k hk hb=>by
    by_cases hjk:j=k
    ·subst hjk;rw [Gg] at hb;cases hb
    ·rw [getD_set_ne true hjk];exact hH k hk hb
   refine wpOp_mono (fun a' w' h3=>⟨h3.2.1,ih (listed.setIfInBounds j true) a' w' (inv.set hj) Gh Ga (ready_mono hr (Ne.symm hji)) h3.1 (h3.2.1 Gg) ?_⟩) h2;rw [Array.setIfInBounds_comm _ _ hji];exact h3.2.2
theorem x0q {i:Nat} {oi:Oper} {v:Value} (hi:ops[i]?=some oi) (hsel:∀ (j:Nat) (o:Oper) cs b,ops[j]?=some o->o.op ≠ .select cs b)
  (hQ:∀ c a w,Q (.panic c) (a.put oi.dst v) w->Q (.panic c) a w) (hHi:H i=false) :
  ∀ (fuel:Nat) (listed:Array Bool) (a:Act) (w:World),
   (∀ j oj,ops[j]?=some oj->j≠i->listed.getD j true=false->(∀ e∈oj.after,Region.binds md e=true->e.on≠i)->oi.apart ops oj=true) ->
   i∈Region.ready md ops listed->YieldsIf P ops (fun _=>True) oi v a ->
   z2w P md ops Q S H fuel (listed.setIfInBounds i true) (a.put oi.dst v) w->z2w P md ops Q S H (fuel+1) listed a w:=by
 intro fuel;induction fuel with
 | zero =>
  intro listed a w _ hr hy HH;refine ⟨fun h=>(by rw [h] at hr;cases hr),fun j hj=>?_⟩;by_cases hji:j=i
  ·subst hji;exact hy.wpOp hi trivial ⟨fun h=>(by rw [hHi] at h;cases h),HH⟩
  ·have:=ready_mono hj hji
   rw [HH.1] at this;cases this
 | succ fuel ih =>
  intro listed a w hfree hr hy HH;have Gc:=(mem_ready.1 hr).1;refine ⟨fun h=>(by rw [h] at hr;cases hr),fun j hj=>?_⟩;by_cases hji:j=i
  ·subst hji;exact hy.wpOp hi trivial ⟨fun h=>(by rw [hHi] at h;cases h),HH⟩
  ·obtain ⟨Gb,oj,Gf,Gd⟩:=mem_ready.1 hj
   have h1:=HH.2 j (ready_mono hj hji);have Ge:∀ e∈oj.after,Region.binds md e=true->e.on≠i:=fun e he hb heq=>by
    have h1:=Gd e he hb;rw [heq,getD_both Gc] at h1;cases h1
   have h2:=wpOp_putIf Gf (hfree j oj Gf hji Gb Ge) (fun cs b=>hsel i oi cs b hi) (fun cs b=>hsel j oj cs b Gf) hQ hy h1;have Ga:∀ k ok,ops[k]?=some ok->k≠i->(listed.setIfInBounds j true).getD k true=false ->
     (∀ e∈ok.after,Region.binds md e=true->e.on≠i)->oi.apart ops ok=true:=fun k ok hk hki Gc hno=>by
    refine hfree k ok hk hki ?_ hno;by_cases hjk:j=k
    ·subst hjk;exact Gb
    ·rw [getD_set_ne true hjk] at Gc;exact Gc
   refine wpOp_mono (fun a' w' h3=>⟨h3.2.1,ih (listed.setIfInBounds j true) a' w' Ga (ready_mono hr (Ne.symm hji)) h3.1 ?_⟩) h2;rw [Array.setIfInBounds_comm _ _ hji];exact h3.2.2
theorem z8a:∀ (l:List Oper) (k:Nat) (listed:Array Bool) (a:Act) (w:World),(∀ i,k<=i->H i=false)->(∀ j,l[j]?=ops[k+j]?) ->
  Region.seqB md ops l.length k listed=true->wpList P ops Q l a w->z2w P md ops Q S H l.length listed a w
 | [],_,_,_,_,_,_,hB,h=>⟨by simpa [Region.seqB] using hB,h⟩
 | o :: l,k,listed,a,w,hk,hl,hB,h=>by
  have h0:ops[k]?=some o:=by simpa using (hl 0).symm
  simp only [List.length_cons,Region.seqB,Bool.and_eq_true,decide_eq_true_eq] at hB;refine ⟨fun h1=>(by rw [hB.1] at h1;cases h1),fun i hi=>?_⟩;rw [hB.1] at hi;have Ga:i=k:=by simpa using hi
  subst Ga;have hw:wpOp P ops Q i (wpList P ops Q l) a w:=by unfold wpOp;simp only [h0];exact h
  exact wpOp_mono (fun a' w' h'=>⟨fun ht=>(by rw [hk i (nL _)] at ht;cases ht),z8a l (i+1) _ a' w' (fun i' h=>hk i' oM) (fun j=>by have:=hl (j+1);simpa [Nat.add_assoc,Nat.add_comm 1 j] using this) hB.2 h'⟩) hw
def z3h (md:Region.Mode) (ops:Array Oper) (H:Nat->Bool) (g m:Nat):List (Nat × Nat)->Array Bool->Bool
 | [],listed=>Region.seqB md ops g m listed
 | (0,i) :: r,listed=>decide (Region.ready md ops listed=[i]) && H i && z3h md ops H g m r (listed.setIfInBounds i true)
 | (1,i) :: r,listed=>((Region.ready md ops listed).contains i && Region.free md ops listed i) && ((List.range ops.size).all fun j=>H j || listed.getD j true || y1t md ops i 40 j) && z3h md ops H g m r (listed.setIfInBounds i true)
 | (_+2,i) :: r,listed=>(!H i) && ((Region.ready md ops listed).contains i && Region.free md ops listed i) && z3h md ops H g m r (listed.setIfInBounds i true)
def z0w (P:Program) (ops:Array Oper) (Q:Exit->Act->World->Prop) (S:World->Prop) (rest:List Oper):List (Nat × Nat)->Act->World->Prop
 | [],a,w=>wpList P ops Q rest a w
 | (0,i) :: r,a,w=>∃ o,ops[i]?=some o/\wpList P ops (y0e S Q (z0w P ops Q S rest r)) [o] a w
 | (1,i) :: r,a,w=>∃ o v,ops[i]?=some o/\YieldsIf P ops S o v a/\z0w P ops Q S rest r (a.put o.dst v) w
 | (_+2,i) :: r,a,w=>∃ o v,ops[i]?=some o/\YieldsIf P ops (fun _=>True) o v a/\z0w P ops Q S rest r (a.put o.dst v) w
theorem z6s {rest:List Oper} {i:Nat} {r:List (Nat × Nat)} {a:Act} {w:World} {o:Oper} (v:Value) (ho:ops[i]?=some o) (hw:Region.wanted o (yielded ops a.tmps)=true) (hy:∀ w,S w->(execOp a.eval o).run P w=.ok (.value v) w) (h:z0w P ops Q S rest r (a.put o.dst v) w):z0w P ops Q S rest ((1,i) :: r) a w :=
 ⟨o,v,ho,.inl ⟨hw,hy⟩,h⟩
theorem tkH {rest:List Oper} {i:Nat} {r:List (Nat × Nat)} {a:Act} {w:World} {o:Oper} {b:Act} (v:Value) (hy:∀ w,S w->(execOp a.eval o).run P w=.ok (.value v) w) (h:z0w P ops Q S rest r b w) (ho:ops[i]?=some o:=by rfl) (hw:Region.wanted o (yielded ops a.tmps)=true:=by rfl) (hb:a.put o.dst v=b:=by conv=>lhs;simp only [Act.put,zA,zB,zC,zD,zE,zF]):z0w P ops Q S rest ((1,i) :: r) a w:=by subst hb;exact z6s v ho hw hy h
theorem tkG {rest:List Oper} {i:Nat} {r:List (Nat × Nat)} {a:Act} {w:World} {o:Oper} {b:Act} (v:Value) (h:z0w P ops Q S rest r b w) (ho:ops[i]?=some o:=by rfl) (hw:Region.wanted o (yielded ops a.tmps)=true:=by rfl) (hy:∀ w,S w->(execOp a.eval o).run P w=.ok (.value v) w:=by intro _ _;go_simp) (hb:a.put o.dst v=b:=by conv=>lhs;simp only [Act.put,zA,zB,zC,zD,zE,zF]):z0w P ops Q S rest ((1,i) :: r) a w:=by subst hb;exact z6s v ho hw hy h
theorem z1y {rest:List Oper} {i:Nat} {r:List (Nat × Nat)} {a:Act} {w:World} {o:Oper} (v:Value) (ho:ops[i]?=some o) (hw:Region.wanted o (yielded ops a.tmps)=true) (hy:∀ w,True->(execOp a.eval o).run P w=.ok (.value v) w) (h:z0w P ops Q S rest r (a.put o.dst v) w):z0w P ops Q S rest ((2,i) :: r) a w :=
 ⟨o,v,ho,.inl ⟨hw,hy⟩,h⟩
theorem z0b {rest:List Oper} {i:Nat} {r:List (Nat × Nat)} {a:Act} {w:World} {o:Oper} (ho:ops[i]?=some o) (h:wpList P ops (y0e S Q (z0w P ops Q S rest r)) [o] a w):z0w P ops Q S rest ((0,i) :: r) a w:=⟨o,ho,h⟩
theorem z3o {rest:List Oper} {m:Nat} (hsel:Region.noSelect ops=true) (hm:∀ i,m<=i->H i=false)
  (hQ:∀ c a a' w,Q (.panic c) a w->Q (.panic c) a' w) (hrest:∀ j,rest[j]?=ops[m+j]?) :
  ∀ (sc:List (Nat × Nat)) (listed:Array Bool) (a:Act) (w:World),Clos md ops listed->z3h md ops H rest.length m sc listed=true->S w->z0w P ops Q S rest sc a w ->
   z2w P md ops Q S H (sc.length+rest.length) listed a w
 | [],listed,a,w,_,hB,_,h=>by
  rw [List.length_nil,Nat.zero_add];exact z8a rest m listed a w hm hrest hB h
 | (0,i) :: r,listed,a,w,inv,hB,hS,h=>by
  simp only [z3h,Bool.and_eq_true,decide_eq_true_eq] at hB;obtain ⟨⟨hr,hHi⟩,hB'⟩:=hB;obtain ⟨o,ho,hK⟩:=h;have Ga:i∈Region.ready md ops listed:=by rw [hr];exact List.mem_singleton.2 rfl
  rw [List.length_cons,show r.length+1+rest.length=(r.length+rest.length)+1 by omega];refine ⟨fun h1=>(by rw [hr] at h1;cases h1),fun j hj=>?_⟩;rw [hr] at hj;have Gc:j=i:=by simpa using hj
  subst Gc;have hw:wpOp P ops (y0e S Q (z0w P ops Q S rest r)) j (fun a' w'=>S w'/\z0w P ops Q S rest r a' w') a w:=by
   unfold wpOp;simp only [ho];exact hK
  have Gd:wpOp P ops Q j (fun a' w'=>S w'/\z0w P ops Q S rest r a' w') a w:=by
   unfold wpOp at hw ⊢;simp only [ho] at hw ⊢;exact hw
  exact wpOp_mono (fun a' w' h'=>⟨fun _=>h'.1,z3o hsel hm hQ hrest r _ a' w' (inv.set Ga) hB' h'.1 h'.2⟩) Gd
 | (1,i) :: r,listed,a,w,inv,hB,hS,h=>by
  simp only [z3h,Bool.and_eq_true] at hB;obtain ⟨⟨⟨hr,hf⟩,hH⟩,hB'⟩:=hB;have Ga:i∈Region.ready md ops listed:=by simpa using hr
  obtain ⟨o,v,ho,hy,hK⟩:=h;have Gb:∀ j,j < ops.size->H j=false->listed.getD j true=true\/y1t md ops i 40 j=true:=fun j hj hb=>by
   have h1:=List.all_eq_true.1 hH j (List.mem_range.2 hj);simp only [hb,Bool.false_or,Bool.or_eq_true] at h1;exact h1
  rw [List.length_cons,show r.length+1+rest.length=(r.length+rest.length)+1 by omega];exact z6c ho (Region.noSelect_spec hsel) (fun c a' w'=>hQ c _ _ w') (r.length+rest.length) listed a w inv Gb (Region.free_spec ho hf) Ga hy hS
   (z3o hsel hm hQ hrest r _ _ _ (inv.set Ga) hB' hS hK)
 | (n+2,i) :: r,listed,a,w,inv,hB,hS,h=>by
  simp only [z3h,Bool.and_eq_true,Bool.not_eq_true'] at hB;obtain ⟨⟨hHi,hr,hf⟩,hB'⟩:=hB;have Ga:i∈Region.ready md ops listed:=by simpa using hr
  obtain ⟨o,v,ho,hy,hK⟩:=h;rw [List.length_cons,show r.length+1+rest.length=(r.length+rest.length)+1 by omega];exact x0q ho (Region.noSelect_spec hsel) (fun c a' w'=>hQ c _ _ w') hHi (r.length+rest.length) listed a w (Region.free_spec ho hf) Ga hy
   (z3o hsel hm hQ hrest r _ _ _ (inv.set Ga) hB' hS hK)
end
def hB (m:Nat) (pu:List Nat) (i:Nat):Bool:=decide (i < m) && !pu.contains i
def x8w (l:List Oper) (m:Nat) (pu:List Nat) (sc:List (Nat × Nat)):Bool :=
 Region.noSelect l.toArray && decide (m<=l.toArray.size) && decide (sc.length=m) && z3h .any l.toArray (hB m pu) (l.toArray.size - m) m sc (Array.replicate l.toArray.size false)
theorem z0g {P:Program} {Q:Exit->Act->World->Prop} {id:Nat} {a:Act} {w:World} {l:List Oper} (S:World->Prop) (m:Nat) (pu:List Nat) (sc:List (Nat × Nat)) (hm:P.follows .mixedOrders=true) (hB1:x8w l m pu sc=true)
  (hS:S w.drew) (h:z0w P l.toArray (NoPanic Q) S (l.drop m) sc a w.drew):(Code.region id l.toArray true).wp P Q a w:=by
 refine wp_region_noPanic ?_;simp only [x8w,Bool.and_eq_true,decide_eq_true_eq] at hB1;obtain ⟨⟨⟨Ga,hn⟩,hsc⟩,hok⟩:=hB1;have Gc:(l.drop m).length=l.toArray.size - m:=by simp
 have Gb:Clos .any l.toArray (Array.replicate l.toArray.size false):=⟨fun j oj _ hl=>(by rw [getD_replicate_false] at hl;cases hl)⟩
 refine wp_region_any hm (z8s (S:=S) (H:=hB m pu) _ _ _ _ ?_);have:=z3o (P:=P) (Q:=NoPanic Q) (md := .any) (S:=S) (H:=hB m pu) (m:=m) (rest:=l.drop m) Ga (fun i hi=>by simp [hB];omega) (fun _ _ _ _ h=>h) (fun j=>by rw [List.getElem?_drop];simp) sc _ a _ Gb (by rw [Gc];exact hok) hS h;rw [Gc,hsc,show m+(l.toArray.size - m)=l.toArray.size by omega] at this;exact this
end
section
open Go.RowKit
structure DA where
 d:Nat
 pb:Nat
 cb:Nat
 lb:Nat
 nt:Nat->Nat
 th:Nat->Nat
 cc:Nat
 dirty:Nat->Prop
structure LS where
 dn:Nat->Nat
 m:Nat->Nat
 h:Nat->Value
 xs:Nat->List Value
 pw:Nat->Nat
 ws:Nat->List (Nat × Nat)
def z0d (ws:List (Nat × Nat)):List Value:=ws.flatMap fun p=>[.int .u64 p.1,.int .u64 p.2]
theorem z0z (ws:List (Nat × Nat)):(z0d ws).length=ws.length * 2:=by
 induction ws with
 | nil=>rfl
 | cons p ws ih=>simp only [z0d,List.flatMap_cons,List.length_append,List.length_cons,List.length_nil] at *;omega
theorem z6m:∀ (ws:List (Nat × Nat)) (k:Nat) (hk:k < ws.length),(z0d ws)[k * 2]?=some (.int .u64 ((ws[k]).1:Int))/\(z0d ws)[k * 2+1]?=some (.int .u64 ((ws[k]).2:Int))
 | p :: ws,0,_=>by simp [z0d]
 | p :: ws,k+1,h=>by
  have ih:=z6m ws k (by simpa using h);simp only [z0d,List.flatMap_cons] at *;rw [List.getElem?_append_right (by simp;omega),List.getElem?_append_right (by simp;omega)];simp only [List.length_cons,List.length_nil,show (k+1) * 2 - (0+1+1)=k * 2 by omega,show (k+1) * 2+1 - (0+1+1)=k * 2+1 by omega];simpa using ih
def upd (cur:Nat->Nat) (i v:Nat):Nat->Nat:=fun k=>if k=i then v else cur k
def wrS (cur:Nat->Nat) (ws:List (Nat × Nat)):Nat->Nat:=ws.foldl (fun c e=>upd c (e.1 / 8) e.2) cur
theorem x2n (f:Nat->Nat) (l:List (Nat × Nat)) (e:Nat × Nat):wrS f (l++[e])=upd (wrS f l) (e.1 / 8) e.2:=by simp [wrS]
theorem y8i:∀ (l:List (Nat × Nat)) (f g:Nat->Nat) (k:Nat),f k=g k->wrS f l k=wrS g l k
 | [],_,_,_,h=>h
 | e :: l,f,g,k,h=>y8i l (upd f (e.1 / 8) e.2) (upd g (e.1 / 8) e.2) k (by unfold upd;rw [h])
theorem x2m:∀ (l:List (Nat × Nat)) (f:Nat->Nat) (k:Nat),(∀ e∈l,e.1 / 8≠k)->wrS f l k=f k
 | [],_,_,_=>rfl
 | e :: l,f,k,h=>(x2m l (upd f (e.1 / 8) e.2) k (fun e he=>h e (List.mem_cons_of_mem _ he))).trans (by unfold upd;rw [if_neg (fun e2=>h e (List.mem_cons_self ..) e2.symm)])
def y5r (L m:Nat) (xs:List Value):Prop:=∀ k,k < m->∃ o v:Nat,xs[k * 2]?=some (.int .u64 o)/\xs[k * 2+1]?=some (.int .u64 v)/\o < 64 * L
def z7h (a:DA) (L:Nat) (exe:Int):Array Value :=
 #[.slice (some ⟨a.pb,0,none⟩) (8 * L) (8 * L),.slice (some ⟨a.cb,0,none⟩) (8 * L) a.cc,.slice (some ⟨a.lb,0,none⟩) L L,
  .pointer (some ⟨a.th 0,0,none⟩),.pointer (some ⟨a.th 1,0,none⟩),.pointer (some ⟨a.th 2,0,none⟩),.pointer (some ⟨a.th 3,0,none⟩),.pointer (some ⟨a.th 4,0,none⟩),.pointer (some ⟨a.th 5,0,none⟩),.pointer (some ⟨a.th 6,0,none⟩),.pointer (some ⟨a.th 7,0,none⟩),
  .bool false,.bool false,.int .i64 0,.int .u64 exe]
structure DevC (a:DA) (L T:Nat) (w:World) (S:Fp) (cur:Nat->Nat) (s:LS) (exe:Int) (per cs ls:Array Value):Prop where
 dev:Blk w a.d 158 (z7h a L exe)
 perB:Blk w a.pb 32 per
 perS:per.size=8 * L
 perI:∀ i,i < 8 * L->∃ v:Int,per[i]?=some (.int .u64 v)
 curB:Blk w a.cb 32 cs
 curS:cs.size=a.cc
 curL:8 * L<=a.cc
 curM:a.cc<=9223372036854775807
 curI:∀ i,i < 8 * L->cs[i]?=some (.int .u64 (cur i:Int))
 linB:Blk w a.lb 298 ls
 linS:ls.size=2 * L
 linD:∀ i,i < L->ls[i * 2]?=some (.int .u64 (s.dn i:Int))
 linH:∀ i,i < L->ls[i * 2+1]?=some (s.h i)
 own:∀ i,i < L->w.ownsRow 0 114 2 (s.h i) (s.m i) (s.xs i)
 ok:∀ i,i < L->y5r L (s.m i) (s.xs i)
 few:∀ i,i < L->s.dn i+s.m i<=T
 apart:∀ i j g,i < L->j < L->(s.h i).ownBlock=some g->(s.h j).ownBlock=some g->i=j
 thr:∀ j,j < 8->Blk w (a.th j) 268 #[.pointer (some ⟨a.d,0,none⟩),.int .i64 j,.int .i64 0,.map (some (a.nt j))]
 sd:S a.d
 sp:S a.pb
 sc:S a.cb
 sl:S a.lb
 sn:S (a.nt 0)
 st:∀ j,j < 8->S (a.th j)
 sh:∀ i g,i < L->(s.h i).ownBlock=some g->S g
 lt:∀ k,S k->k < w.heap.size
 ne:a.pb≠a.cb
 hL:L<=4096
 hT:T<=1000000000
 pv:∀ i,i < 8 * L->per[i]?=some (.int .u64 (s.pw i:Int))
 hx:∀ i,i < L->s.xs i=z0d (s.ws i)
 lin:∀ i,i < L->∀ e∈s.ws i,e.1 / 64=i
 link:∀ k,k < 8 * L->wrS s.pw (s.ws (k / 8)) k=cur k
section
variable {a:DA} {L T:Nat} {w w':World} {S Z:Fp} {cur:Nat->Nat} {s:LS} {exe:Int} {per cs ls:Array Value}
theorem DevC.chg (h:DevC a L T w S cur s exe per cs ls) (hc:Chg Z w w') (hd:∀ k,S k->¬ Z k):DevC a L T w' S cur s exe per cs ls :=
 {h with
  dev:=hc.blk h.dev (hd _ h.sd)
  perB:=hc.blk h.perB (hd _ h.sp)
  curB:=hc.blk h.curB (hd _ h.sc)
  linB:=hc.blk h.linB (hd _ h.sl)
  own:=fun i hi=>hc.own (h.own i hi) (fun g hg=>hd _ (h.sh i g hi hg))
  thr:=fun j hj=>hc.blk (h.thr j hj) (hd _ (h.st j hj))
  lt:=fun k hk=>Nat.lt_of_lt_of_le (h.lt k hk) hc.size }
theorem DevC.facts (h:DevC a L T w S cur s exe per cs ls) {j:Nat} (hj:j < 8) :
  w.cell? ⟨a.th j,0,none⟩=some (.pointer (some ⟨a.d,0,none⟩))/\w.cell? ⟨a.d,2,none⟩=some (.slice (some ⟨a.lb,0,none⟩) L L)/\w.cell? ⟨a.d,11,none⟩=some (.bool false)/\w.cell? ⟨a.d,1,none⟩=some (.slice (some ⟨a.cb,0,none⟩) (8 * L) a.cc)/\w.cell? ⟨a.th j,2,none⟩=some (.int .i64 0) :=
 ⟨(h.thr j hj).cell 0,h.dev.cell 2,h.dev.cell 11,h.dev.cell 1,(h.thr j hj).cell 2⟩
end
theorem x7q (L c d th lb cb:Nat) (v:Int) (off:Nat) (w:World) (h8:((off:Int) % 8 == 0)=true) (hlt:off < 64 * L) (hL:L<=4096)
  (f0:w.cell? ⟨th,0,none⟩=some (.pointer (some ⟨d,0,none⟩))) (f2:w.cell? ⟨d,2,none⟩=some (.slice (some ⟨lb,0,none⟩) L L)) (f11:w.cell? ⟨d,11,none⟩=some (.bool false)) (f1:w.cell? ⟨d,1,none⟩=some (.slice (some ⟨cb,0,none⟩) (8 * L) c))
  (fc:w.cell? ⟨cb,off / 8,none⟩=some (.int .u64 v)) :
  Calls Tryz.prog 65 #[.pointer (some ⟨th,0,none⟩),.int .u64 off] w fun e w'=>e=.returned (.int .u64 v)/\w=w':=by
 have e1:decide ((off:Int) < (L:Int) * 64)=true:=dT;have e5:decide (off < L * 64)=true:=dT;have e2:(off:Int) / 8 < 8 * (L:Int):=oM;have e3:(0:Int)<=(off:Int) / 8:=oM;have e4:((off:Int) / 8).toNat=off / 8:=oM;go_enter Tryz.func65,Tryz.ntmps65
 go_wp2;go_ret;exact ⟨rfl,rfl⟩
theorem w1w {a:DA} {L T:Nat} {w:World} {S:Fp} {cur:Nat->Nat} {s:LS} {exe:Int} {per cs ls:Array Value} (h:DevC a L T w S cur s exe per cs ls) {j:Nat} (hj:j < 8) (off:Nat) (h8:off % 8=0) (hlt:off < 64 * L) :
  Calls Tryz.prog 65 #[.pointer (some ⟨a.th j,0,none⟩),.int .u64 off] w fun e w'=>e=.returned (.int .u64 (cur (off / 8):Int))/\w=w':=by
 obtain ⟨f0,f2,Ga,f1,_⟩:=h.facts hj;refine x7q L a.cc a.d (a.th j) a.lb a.cb _ off w (by rw [beq_iff_eq];omega) hlt h.hL f0 f2 Ga f1 ?_;rw [h.curB.cell];exact h.curI _ oM
def y8j (a:DA) (L:Nat) (w:World) (s:LS) (N:Nat->Prop) (F:Nat):Prop :=
 ∃ l:List (Lit × DataW Unit),w.ownsMap Tryz.prog 3 (plainElem Tryz.prog 32) (a.nt 0) F (.map l)/\(∀ p∈l,∃ i:Nat,i < L/\p=(.int .i64 i,.lit (.int .u64 ((s.dn i+s.m i:Nat):Int))))/\∀ i:Nat,N i->i < L->∃ p∈l,p.1=.int .i64 i
def z8u (L:Nat) (s:LS) (D:Nat->Prop):Prop:=∀ k,k < 8 * L->¬ D k->∀ e∈s.ws (k / 8),e.1 / 8≠k
def DevM (a:DA) (L T:Nat) (w:World) (S:Fp) (cur:Nat->Nat) (D N:Nat->Prop) (F:Nat):Prop:=∃ s exe per cs ls,DevC a L T w S cur s exe per cs ls/\y8j a L w s N F/\z8u L s D
def Dev (a:DA) (L T:Nat) (w:World) (S:Fp) (cur:Nat->Nat) (F:Nat):Prop:=DevM a L T w S cur a.dirty (fun _=>False) F
theorem z8u.mono {L:Nat} {s:LS} {D D':Nat->Prop} (h:z8u L s D) (hs:∀ k,D k->D' k):z8u L s D':=fun k hk hn=>h k hk (fun hd=>hn (hs k hd))
theorem y8j.mono {a:DA} {L:Nat} {w:World} {s:LS} {N N':Nat->Prop} {F:Nat} (h:y8j a L w s N F) (hs:∀ i,N' i->N i):y8j a L w s N' F:=by
 obtain ⟨l,h1,h2,h3⟩:=h;exact ⟨l,h1,h2,fun i hi=>h3 i (hs i hi)⟩
theorem DevM.mono {a:DA} {L T:Nat} {w:World} {S:Fp} {cur:Nat->Nat} {D D' N N':Nat->Prop} {F:Nat} (h:DevM a L T w S cur D N F) (hD:∀ k,D k->D' k) (hN:∀ i,N' i->N i):DevM a L T w S cur D' N' F:=by
 obtain ⟨s,Ga,Gb,cs,ls,h1,h2,h3⟩:=h;exact ⟨s,Ga,Gb,cs,ls,h1,h2.mono hN,h3.mono hD⟩
def z2o (a:DA) (L T:Nat) (w:World) (S:Fp) (cur:Nat->Nat) (D N:Nat->Prop) (F:Nat) (v:Value) (e:Ending) (w':World):Prop :=
 e=.returned v/\∃ S',DevM a L T w' S' cur D N F/\Chg S w w'/\Grew S S' w
def z2c (a:DA) (L T:Nat) (w:World) (S:Fp) (cur:Nat->Nat) (F:Nat) (v:Value) (e:Ending) (w':World):Prop :=
 e=.returned v/\∃ S',Dev a L T w' S' cur F/\Chg S w w'/\Grew S S' w
end
section
open Go.RowKit
theorem z2i:(Tryz.prog.info? 114).map (fun i=>(i.zero,i.size,i.bytes))=some (some (.agg #[.int .u64 0,.int .u64 0]),2,16):=by kernel_rfl
section
variable {P:Program} (w:World)
theorem x0r {ops:Array Oper} {rest:List Oper} {o:Oper} {a:Act} {Q:Exit->Act->World->Prop} (s x:Operand) (t:TypeId)
  (hw:Region.wanted o (yielded ops a.tmps)=true)
  (ho:o.op=.call { callee := .builtin .append,args:=#[s,x],argTypes:=#[t,t] })
  (base:Nat) (e:TypeId) (i:TypeInfo) (z:Value) (size bytes:Nat) (ht:P.underlying t=some (.slice e)) (hi:P.info? e=some i) (hz:i.zero=some z)
  (hsize:i.size=size) (hby:i.bytes=bytes) (hzs:z.cells.size=size) (hsz:0 < size)
  (v:Value) (n:Nat) (xs:List Value) (hs:a.eval s=v) (hown:w.ownsRow base e size v n xs)
  (B:Nat) (A:Option Addr) (m c:Nat) (news:List Value) (hx:a.eval x=.slice A m c) (hr:z0c w B size A m news) (h1:∀ u∈news,u.oneCell'=true)
  (h63:n+m<=maxLen) (hbytes:(n+m) * bytes<=140737488355328) (hbase:base<=w.heap.size)
  (h:∀ A' n' c' w',n'=n+m->w'.ownsRow base e size (.slice A' n' c') n' (xs++news)->w.grownBy w' v.ownBlock->((Value.slice A' n' c').ownBlock=v.ownBlock\/(Value.slice A' n' c').ownBlock=some w.heap.size)->wpList P ops Q rest (a.put o.dst (.slice A' n' c')) w'):wpList P ops Q (o :: rest) a w:=by
 refine Go.BigFrame.wpList_want hw fun K hK=>?_
 refine z3p w s x t ho base e i z size bytes ht hi hz hsize hby hzs hsz v n xs hs hown B A m c news hx hr h1 h63 hbytes hbase fun v' w' h2 h3 h4=>?_
 obtain ⟨A',c',rfl⟩:=z3i h2;exact hK _ _ (h A' _ c' w' rfl h2 h3 h4)
end
theorem z0m (w:World) (g:Nat) (h:w.heap.size=g) (l:List Value) (k size:Nat) (e:TypeId) (o:Obj) (ho:o=.cells l.toArray e) (hl:l.length=k * size):z0c (w.alloc o) (g+1) size (some ⟨g,0,none⟩) k l:=by
 subst h;exact z6j w l k size e o ho hl
theorem z7x (x y:Int):∀ u∈[Value.int .u64 x,Value.int .u64 y],u.oneCell'=true:=by
 intro u hu;simp only [List.mem_cons,List.not_mem_nil,or_false] at hu;rcases hu with rfl | rfl <;> rfl
def w7k (w:World) (d lb cb i j:Nat) (exe off v:Int) (hv:Value) (m:Nat) (xs:List Value) (w':World):Prop :=
 ∃ A' m' c' W,m'=m+1/\W.ownsRow 0 114 2 (.slice A' m' c') m' (xs++[.int .u64 off,.int .u64 v]) /\
  ((w.setCell ⟨d,14,none⟩ (.int .u64 (IntKind.u64.wrap (exe+1)))).alloc (.cells #[.int .u64 off,.int .u64 v] 114)).grownBy W hv.ownBlock /\
  ((Value.slice A' m' c').ownBlock=hv.ownBlock\/(Value.slice A' m' c').ownBlock=some (w.heap.size+1)) /\
  w'=(W.setCell ⟨lb,i * 2+1,none⟩ (.slice A' m' c')).setCell ⟨cb,j,none⟩ (.int .u64 v)
def w0a (w:World) (d lb cb i j:Nat) (exe off v:Int) (hv:Value) (m:Nat) (xs:List Value) (e:Ending) (w':World):Prop :=
 e=.returned (.tuple #[])/\w7k w d lb cb i j exe off v hv m xs w'
theorem x4z (L cc d th lb cb:Nat) (exe:Int) (off v:Nat) (hA:Option Addr) (m hc:Nat) (xs:List Value) (old:Value) (w:World) (h8:((off:Int) % 8 == 0)=true) (hlt:off < 64 * L) (hL:L<=4096) (hm:m<=1000000000)
  (f0:w.cell? ⟨th,0,none⟩=some (.pointer (some ⟨d,0,none⟩))) (f2:w.cell? ⟨d,2,none⟩=some (.slice (some ⟨lb,0,none⟩) L L)) (f11:w.cell? ⟨d,11,none⟩=some (.bool false)) (f12:w.cell? ⟨d,12,none⟩=some (.bool false)) (f14:w.cell? ⟨d,14,none⟩=some (.int .u64 exe)) (z14:w.frozen? ⟨d,14,none⟩=false)
  (f1:w.cell? ⟨d,1,none⟩=some (.slice (some ⟨cb,0,none⟩) (8 * L) cc))
  (fl:w.cell? ⟨lb,off / 64 * 2+1,none⟩=some (.slice hA m hc)) (zl:w.frozen? ⟨lb,off / 64 * 2+1,none⟩=false) (own:w.ownsRow 0 114 2 (.slice hA m hc) m xs)
  (fc:w.cell? ⟨cb,off / 8,none⟩=some old) (zc:w.frozen? ⟨cb,off / 8,none⟩=false)
  (n1:d≠th) (n2:d≠lb) (n3:d≠cb) (n4:th≠lb) (n5:th≠cb) (n6:lb≠cb) (o1:(Value.slice hA m hc).ownBlock≠some d) (o2:(Value.slice hA m hc).ownBlock≠some th) (o3:(Value.slice hA m hc).ownBlock≠some lb) (o4:(Value.slice hA m hc).ownBlock≠some cb) :
  Calls Tryz.prog 76 #[.pointer (some ⟨th,0,none⟩),.int .u64 off,.int .u64 v] w (w0a w d lb cb (off / 64) (off / 8) exe off v (.slice hA m hc) m xs):=by
 have e1:decide ((off:Int) < (L:Int) * 64)=true:=dT;have e5:decide (off < L * 64)=true:=dT;have e2:(off:Int) / 8 < 8 * (L:Int):=oM;have e3:(0:Int)<=(off:Int) / 8:=oM;have e4:((off:Int) / 8).toNat=off / 8:=oM;have e6:(off:Int) / 64 < (L:Int):=oM;have e7:(0:Int)<=(off:Int) / 64:=oM;have e8:((off:Int) / 64).toNat=off / 64:=oM;have m1:=n1.symm;have m2:=n2.symm;have m3:=n3.symm;have m4:=n4.symm;have m5:=n5.symm;have m6:=n6.symm;obtain ⟨i0,Ge,Gf,Gg,Gh⟩:=info_parts z2i;have bd:=World.block_lt_of_cell? _ _ f1;have bt:=World.block_lt_of_cell? _ _ f0;have bl:=World.block_lt_of_cell? _ _ fl;have bc:=World.block_lt_of_cell? _ _ fc;simp only at bd bt bl bc;have HO:Hid (∀ o,((w.setCell ⟨d,14,none⟩ (.int .u64 (IntKind.u64.wrap (exe+1)))).alloc o).ownsRow 0 114 2 (.slice hA m hc) m xs):=fun o =>
  (ownsRow_setCell_other own (a:=⟨d,14,none⟩) o1 _).alloc o
 have HK:Hid (∀ o W,((w.setCell ⟨d,14,none⟩ (.int .u64 (IntKind.u64.wrap (exe+1)))).alloc o).grownBy W (Value.slice hA m hc).ownBlock ->
   W.cell? ⟨th,0,none⟩=some (.pointer (some ⟨d,0,none⟩))/\W.cell? ⟨d,1,none⟩=some (.slice (some ⟨cb,0,none⟩) (8 * L) cc)/\W.cell? ⟨lb,off / 64 * 2+1,none⟩=some (.slice hA m hc)/\W.frozen? ⟨lb,off / 64 * 2+1,none⟩=false/\W.cell? ⟨cb,off / 8,none⟩=some old/\W.frozen? ⟨cb,off / 8,none⟩=false):=fun o W hg=>by
  have Gk:((w.setCell ⟨d,14,none⟩ (.int .u64 (IntKind.u64.wrap (exe+1)))).alloc o).heap.size=w.heap.size+1:=by simp
  have kt:=hg.block th oM (fun e=>o2 e.symm);have kd:=hg.block d oM (fun e=>o1 e.symm);have kl:=hg.block lb oM (fun e=>o3 e.symm);have kc:=hg.block cb oM (fun e=>o4 e.symm);have qt:W.heap[th]?=w.heap[th]?:=kt.trans ((Below.heap_alloc _ o th (by simpa using bt)).trans (Below.heap_setCell w ⟨d,14,none⟩ _ th m1));have ql:W.heap[lb]?=w.heap[lb]?:=kl.trans ((Below.heap_alloc _ o lb (by simpa using bl)).trans (Below.heap_setCell w ⟨d,14,none⟩ _ lb m2));have qc:W.heap[cb]?=w.heap[cb]?:=kc.trans ((Below.heap_alloc _ o cb (by simpa using bc)).trans (Below.heap_setCell w ⟨d,14,none⟩ _ cb m3));refine ⟨(World.cell?_of_block (w:=w) qt).trans f0,?_,(World.cell?_of_block (w:=w) ql).trans fl,(World.frozen?_of_block (w:=w) ql).trans zl,(World.cell?_of_block (w:=w) qc).trans fc,(World.frozen?_of_block (w:=w) qc).trans zc⟩;rw [World.cell?_of_block (a:=⟨d,1,none⟩) kd,World.cell?_alloc_lt _ _ _ (by simpa using bd),World.cell?_setCell_other _ _ _ _ (by simp)];exact f1
 clear own;go_enter Tryz.func76,Tryz.ntmps76
 go_wp2_with (first
  | (at_builtin;refine x0r _ (.tmp 21) (.tmp 25) 108 rfl rfl 0 114 i0 _ 2 16 Tryz.underlying108 Ge Gf Gg Gh rfl ?q1 (.slice hA m hc) m xs rfl ?q0 (w.heap.size+1) (some ⟨w.heap.size,0,none⟩) 1 1 [.int .u64 off,.int .u64 v] rfl ?q5 (z7x _ _) ?q2 ?q3 ?q4 ?_;(case q1=>omega);(case q0=>exact HO.out _);(case q5=>exact z0m _ _ (by simp) _ 1 2 114 _ rfl rfl);(case q2=>(unfold maxLen;omega));(case q3=>omega);(case q4=>(simp));intro A3 n3' c3 w8 hn3 ho3 hg3 hl3;obtain ⟨g0,g1,gl,Gj,gc,Gi⟩:=HK.out _ _ hg3;have Gc:=hid hn3;have Gd:=hid ho3;have Ga:=hid hg3;have Gb:=hid hl3;clear hn3 ho3 hg3 hl3)
  | go_in)
 go_end0;go_wp2;go_end0;exact ⟨rfl,A3,n3',c3,w8,Gc.out,Gd.out,Ga.out,by simpa using Gb.out,rfl⟩
end
section
open Go.RowKit Go.Maps
def nth:List Oper->Nat->Option Oper
 | [],_=>none
 | a :: _,0=>some a
 | _ :: l,i+1=>nth l i
theorem z8g:∀ (l:List Oper) (i:Nat),l.toArray[i]?=nth l i
 | [],i=>by simp [nth]
 | a :: l,0=>by simp [nth]
 | a :: l,i+1=>by
  have h:=z8g l i;simp only [List.getElem?_toArray] at h ⊢;rw [List.getElem?_cons_succ];exact h
section
variable {P:Program} {md:Region.Mode} {ops:Array Oper} {Q:Exit->Act->World->Prop} {S:World->Prop} {H:Nat->Bool}
def z7v (md:Region.Mode) (ops:Array Oper) (H:Nat->Bool):List Nat->Array Bool->Bool
 | [],_=>true
 | i :: r,listed=>((Region.ready md ops listed).contains i && Region.free md ops listed i) && ((List.range ops.size).all fun j=>H j || listed.getD j true || y1t md ops i 40 j) && z7v md ops H r (listed.setIfInBounds i true)
def finA (listed:Array Bool) (sc:List Nat):Array Bool:=sc.foldl (fun l i=>l.setIfInBounds i true) listed
def z6d (P:Program) (md:Region.Mode) (ops:Array Oper) (Q:Exit->Act->World->Prop) (S:World->Prop) (H:Nat->Bool) (k:Nat) (fin:Array Bool):List Nat->Act->World->Prop
 | [],a,w=>z2w P md ops Q S H k fin a w
 | i :: r,a,w=>∃ o v,ops[i]?=some o/\YieldsIf P ops S o v a/\z6d P md ops Q S H k fin r (a.put o.dst v) w
theorem z0e {l:List Oper} (hl:ops=l.toArray) {k i:Nat} {r:List Nat} {fin:Array Bool} {a:Act} {w:World} {o:Oper} (v:Value) (ho:nth l i=some o) (hw:Region.wanted o (yielded ops a.tmps)=true) (hy:∀ w,S w->(execOp a.eval o).run P w=.ok (.value v) w) (h:z6d P md ops Q S H k fin r (a.put o.dst v) w):z6d P md ops Q S H k fin (i :: r) a w :=
 ⟨o,v,by rw [hl,z8g];exact ho,.inl ⟨hw,hy⟩,h⟩
theorem z6r {k:Nat} (hsel:Region.noSelect ops=true) (hQ:∀ c a a' w,Q (.panic c) a w->Q (.panic c) a' w) :
  ∀ (sc:List Nat) (listed:Array Bool) (a:Act) (w:World),Clos md ops listed->z7v md ops H sc listed=true->S w->z6d P md ops Q S H k (finA listed sc) sc a w ->
   z2w P md ops Q S H (sc.length+k) listed a w
 | [],listed,a,w,_,_,_,h=>by
  rw [List.length_nil,Nat.zero_add];exact h
 | i :: r,listed,a,w,inv,hB,hS,h=>by
  simp only [z7v,Bool.and_eq_true] at hB;obtain ⟨⟨⟨hr,hf⟩,hH⟩,hB'⟩:=hB;have Ga:i∈Region.ready md ops listed:=by simpa using hr
  obtain ⟨o,v,ho,hy,hK⟩:=h;have Gb:∀ j,j < ops.size->H j=false->listed.getD j true=true\/y1t md ops i 40 j=true:=fun j hj hb=>by
   have h1:=List.all_eq_true.1 hH j (List.mem_range.2 hj);simp only [hb,Bool.false_or,Bool.or_eq_true] at h1;exact h1
  rw [List.length_cons,show r.length+1+k=(r.length+k)+1 by omega];exact z6c ho (Region.noSelect_spec hsel) (fun c a' w'=>hQ c _ _ w') (r.length+k) listed a w inv Gb (Region.free_spec ho hf) Ga hy hS
   (z6r hsel hQ r _ _ _ (inv.set Ga) hB' hS hK)
theorem z8t {i:Nat} {o:Oper} {L:Act->World->Prop} {a:Act} {w:World} (ho:ops[i]?=some o) (h:wpList P ops (y0e S Q L) [o] a w):wpOp P ops Q i (fun a' w'=>S w'/\L a' w') a w:=by
 have hw:wpOp P ops (y0e S Q L) i (fun a' w'=>S w'/\L a' w') a w:=by
  unfold wpOp;simp only [ho];exact h
 unfold wpOp at hw ⊢;simp only [ho] at hw ⊢;exact hw
theorem z1n {l:List Oper} (hl:ops=l.toArray) {k i j:Nat} {listed:Array Bool} {a:Act} {w:World} {oi oj:Oper} (hr0:Region.ready md l.toArray listed=[i,j]) (hi:nth l i=some oi) (hj:nth l j=some oj)
  (h1:wpList P ops (y0e S Q (z2w P md ops Q S H k (listed.setIfInBounds i true))) [oi] a w) (h2:wpList P ops (y0e S Q (z2w P md ops Q S H k (listed.setIfInBounds j true))) [oj] a w):z2w P md ops Q S H (k+1) listed a w:=by
 have hr:=hr0;rw [<- hl] at hr;refine ⟨fun h=>(by rw [hr] at h;cases h),fun q hq=>?_⟩;rw [hr] at hq;simp only [List.mem_cons,List.not_mem_nil,or_false] at hq;rcases hq with rfl | rfl
 ·exact wpOp_mono (fun a' w' h'=>⟨fun _=>h'.1,h'.2⟩) (z8t (by rw [hl,z8g];exact hi) h1)
 ·exact wpOp_mono (fun a' w' h'=>⟨fun _=>h'.1,h'.2⟩) (z8t (by rw [hl,z8g];exact hj) h2)
theorem z0f {l:List Oper} (hl:ops=l.toArray) {k i:Nat} {listed:Array Bool} {a:Act} {w:World} {oi:Oper} (hr0:Region.ready md l.toArray listed=[i]) (hi:nth l i=some oi)
  (h1:wpList P ops (y0e S Q (z2w P md ops Q S H k (listed.setIfInBounds i true))) [oi] a w):z2w P md ops Q S H (k+1) listed a w:=by
 have hr:=hr0;rw [<- hl] at hr;refine ⟨fun h=>(by rw [hr] at h;cases h),fun q hq=>?_⟩;rw [hr] at hq;simp only [List.mem_cons,List.not_mem_nil,or_false] at hq;subst hq;exact wpOp_mono (fun a' w' h'=>⟨fun _=>h'.1,h'.2⟩) (z8t (by rw [hl,z8g];exact hi) h1)
theorem z1a {l:List Oper} (hl:ops=l.toArray) {listed:Array Bool} {a:Act} {w:World} (hr:Region.ready md l.toArray listed=[]) (h:Q .normal a w):z2w P md ops Q S H 0 listed a w:=⟨by rw [hl];exact hr,h⟩
end
def x8u (l:List Oper) (sc:List Nat):Bool :=
 Region.noSelect l.toArray && z7v .any l.toArray (fun _=>true) sc (Array.replicate l.toArray.size false)
theorem z2g {P:Program} {Q:Exit->Act->World->Prop} {id:Nat} {a:Act} {w:World} {l:List Oper} (S:World->Prop) (n k:Nat) (sc:List Nat) (hm:P.follows .mixedOrders=true) (hB1:x8u l sc=true) (hn:l.toArray.size=n) (hk:sc.length+k=n)
  (hS:S w.drew) (h:∀ ops:Array Oper,Hid (ops=l.toArray)->z6d P .any ops (NoPanic Q) S (fun _=>true) k (finA (Array.replicate n false) sc) sc a w.drew):(Code.region id l.toArray true).wp P Q a w:=by
 refine wp_region_noPanic ?_;simp only [x8u,Bool.and_eq_true] at hB1;obtain ⟨Gb,Gc⟩:=hB1;have Ga:Clos .any l.toArray (Array.replicate l.toArray.size false):=⟨fun j oj _ hl=>(by rw [getD_replicate_false] at hl;cases hl)⟩
 refine wp_region_any hm (z8s (S:=S) (H:=fun _=>true) _ _ _ _ ?_);rw [hn] at Ga Gc ⊢;have:=z6r (P:=P) (Q:=NoPanic Q) (md := .any) (S:=S) (H:=fun _=>true) (k:=k) Gb (fun _ _ _ _ h=>h) sc _ a _ Ga Gc hS (h _ (hid rfl));rw [hk] at this;exact this
end
section
open Go.RowKit Go.Maps
def vAgg (st:Nat) (dl:Bool) (dt ol:Nat):Value := .agg #[.int .u64 st,.bool dl,.int .u64 dt,.int .u64 ol]
def z4p (st:Nat) (dl:Bool) (dt:Nat):Bool:=decide (st<=4611686018427387903) && (dl == decide (dt=0))
theorem y3m (st:Nat) (dl:Bool) (dt ol:Nat) (w:World):Calls Tryz.prog 130 #[vAgg st dl dt ol] w fun e w'=>e=.returned (.bool (z4p st dl dt))/\Blw w w':=by
 have hB:=Blk.new w 97 #[.int .u64 st,.bool dl,.int .u64 dt,.int .u64 ol];have c0:(w.alloc (.cells #[.int .u64 st,.bool dl,.int .u64 dt,.int .u64 ol] 97)).cell? ⟨w.heap.size,0,none⟩=some (.int .u64 st):=hB.cell 0;have c1:(w.alloc (.cells #[.int .u64 st,.bool dl,.int .u64 dt,.int .u64 ol] 97)).cell? ⟨w.heap.size,1,none⟩=some (.bool dl):=hB.cell 1;have c2:(w.alloc (.cells #[.int .u64 st,.bool dl,.int .u64 dt,.int .u64 ol] 97)).cell? ⟨w.heap.size,2,none⟩=some (.int .u64 dt):=hB.cell 2;have HF:Hid (Blw w (w.alloc (.cells #[.int .u64 st,.bool dl,.int .u64 dt,.int .u64 ol] 97))):=hid ((Below.refl _ _).alloc (nL _) _);clear hB;unfold vAgg;by_cases h1:st<=4611686018427387903
 ·have d1:decide ((st:Int)<=4611686018427387903)=true:=dT
  have d2:((dt:Int) == 0)=decide (dt=0):=by
   by_cases h:dt=0
   ·subst h;rfl
   ·rw [decide_eq_false h,beq_eq_false_iff_ne];omega
  have HV:Hid (z4p st dl dt=(dl == decide (dt=0))):=hid (by unfold z4p;rw [decide_eq_true h1,Bool.true_and]);generalize decide (dt=0)=b at *;generalize z4p st dl dt=v at *;clear h1;cases dl <;> cases b
  all_goals
   go_enter Tryz.func130,Tryz.ntmps130
   go_wp2;go_ret;exact ⟨by rw [HV.out];rfl,HF.out⟩
 ·have d1:decide ((st:Int)<=4611686018427387903)=false:=dF
  have HV:Hid (z4p st dl dt=false):=hid (by unfold z4p;rw [decide_eq_false h1,Bool.false_and]);generalize z4p st dl dt=v at *;clear h1;go_enter Tryz.func130,Tryz.ntmps130
  go_wp2;go_ret;exact ⟨by rw [HV.out];simp,HF.out⟩
end
end Go.Proofs.YtfkjjoglnmeciaaGreatDoor
