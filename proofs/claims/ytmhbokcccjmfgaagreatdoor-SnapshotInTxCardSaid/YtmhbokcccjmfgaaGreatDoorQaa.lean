/- part 1 -/
import Derived.Test.YtmhbokcccjmfgaaGreatDoorProg
import Derived.WalkSpells
import Derived.WalkLawsBesides
import Derived.Deep.AppendLies
import Derived.Deep.OwnRows
import Derived.BigQuiet
import Derived.Lib.Hide
import Derived.StillTail
import Derived.Deep.RegionHeld3
import Derived.Deep.CutBlock
import Derived.Lib.ItoaNum
import Derived.Sort.Row
import Derived.Lib.AppendZeros
import Derived.Lib.BufferMore
import Derived.Shelf.SlMaps.Clone
set_option maxRecDepth 100000
set_option maxHeartbeats 16000000
namespace Go.Proofs.YtmhbokcccjmfgaaGreatDoor
open Go.Lib (hid)
section
theorem oM{p:Prop}(h:p:=by omega):p:=h
theorem dT{p:Prop}[Decidable p](h:p:=by omega):decide p=true:=decide_eq_true h
theorem dF{p:Prop}[Decidable p](h:¬p:=by omega):decide p=false:=decide_eq_false h
theorem nL(n:Nat):n<=n:=Nat.le_refl n
theorem zA{α:Type _}{l:List α}{i:Nat}(h:i<l.toArray.size):l.toArray[i]=l[i]:=rfl
theorem zB{α:Type _}(a:α)(l:List α)(h:0<(a::l).length):(a::l)[0]=a:=rfl
theorem zC{α:Type _}(a:α)(l:List α)(i:Nat)(h:i+1<(a::l).length):(a::l)[i+1]=l[i]'(Nat.lt_of_succ_lt_succ h):=rfl
theorem zD{α:Type _}(l:List α)(i:Nat)(a:α):l.toArray.setIfInBounds i a=(l.set i a).toArray:=List.setIfInBounds_toArray l i a
theorem zE{α:Type _}{x:α}{l:List α}{a:α}:(x::l).set 0 a=a::l:=rfl
theorem zF{α:Type _}{x:α}{l:List α}{i:Nat}{a:α}:(x::l).set (i+1) a=x::l.set i a:=rfl
end
section
open Go.RowKit Go.WideShapes Go.ChangeShapes
instance cC:CoeFun Unit (fun _=>Nat->Array Value->World->(Ending->World->Prop)->Prop):=⟨fun _=>Calls Tryz.prog⟩
instance cN:CoeDep Unit () Value:=⟨.int .i64 0⟩
instance cNN:CoeDep (List Unit) [()] Value:=⟨.int .u64 0⟩
instance cB (b:Bool):CoeDep Bool b Value:=⟨.bool b⟩
instance cW (w:World):CoeDep World w Nat:=⟨w.heap.size⟩
instance cNil:CoeDep (Unit×Unit) ((),()) Value:=⟨.slice none 0 0⟩
instance c8 (x:Nat):CoeDep (List (List Nat)) [[x]] Value:=⟨.int .u8 x⟩
instance c8I (x:Int):CoeDep (List (List Int)) [[x]] Value:=⟨.int .u8 x⟩
instance c16 (x:Nat):CoeDep (Array Nat) #[x] Value:=⟨.int .u16 x⟩
instance c16I (x:Int):CoeDep (Array Int) #[x] Value:=⟨.int .u16 x⟩
instance cP (b i:Nat):CoeDep (Nat×Nat) (b,i) Addr:=⟨⟨b,i,none⟩⟩
instance cPw (w:World) (i:Nat):CoeDep (World×Nat) (w,i) Addr:=⟨⟨w.heap.size,i,none⟩⟩
instance cQ (b i:Nat):CoeDep (Nat×Nat) (b,i) Value:=⟨.pointer (some ⟨b,i,none⟩)⟩
instance cQw (w:World) (i:Nat):CoeDep (World×Nat) (w,i) Value:=⟨.pointer (some ⟨w.heap.size,i,none⟩)⟩
instance cz (b:Nat):CoeDep (Nat×Unit) (b,()) Addr:=⟨⟨b,0,none⟩⟩
instance czw (w:World):CoeDep (World×Unit) (w,()) Addr:=⟨⟨w.heap.size,0,none⟩⟩
instance czv (b:Nat):CoeDep (Nat×Unit) (b,()) Value:=⟨.pointer (some ⟨b,0,none⟩)⟩
instance czx (w:World):CoeDep (World×Unit) (w,()) Value:=⟨.pointer (some ⟨w.heap.size,0,none⟩)⟩
instance czo (b:Nat):CoeDep (Option (Nat×Unit)) (some (b,())) (Option Value):=⟨some (.pointer (some ⟨b,0,none⟩))⟩
instance czp (w:World):CoeDep (Option (World×Unit)) (some (w,())) (Option Value):=⟨some (.pointer (some ⟨w.heap.size,0,none⟩))⟩
instance czq (b:Nat):CoeDep (Option (Nat×Unit)) (some (b,())) (Option Addr):=⟨some ⟨b,0,none⟩⟩
instance czr (w:World):CoeDep (Option (World×Unit)) (some (w,())) (Option Addr):=⟨some ⟨w.heap.size,0,none⟩⟩
instance cA (b i:Nat):CoeDep (Option (Nat×Nat)) (some (b,i)) (Option Addr):=⟨some ⟨b,i,none⟩⟩
instance cAw (w:World) (i:Nat):CoeDep (Option (World×Nat)) (some (w,i)) (Option Addr):=⟨some ⟨w.heap.size,i,none⟩⟩
instance cR (b i:Nat):CoeDep (Option (Nat×Nat)) (some (b,i)) (Option Value):=⟨some (.pointer (some ⟨b,i,none⟩))⟩
instance cRw (w:World) (i:Nat):CoeDep (Option (World×Nat)) (some (w,i)) (Option Value):=⟨some (.pointer (some ⟨w.heap.size,i,none⟩))⟩
instance cU (x:Nat):CoeDep Nat x Value:=⟨.int .u64 x⟩
instance cUI (x:Int):CoeDep Int x Value:=⟨.int .u64 x⟩
instance cI (x:Nat):CoeDep (List Nat) [x] Value:=⟨.int .i64 x⟩
instance cII (x:Int):CoeDep (List Int) [x] Value:=⟨.int .i64 x⟩
instance cS (b i n c:Nat):CoeDep (Nat×Nat×Nat×Nat) (b,i,n,c) Value:=⟨.slice (some ⟨b,i,none⟩) n c⟩
instance cSw (w:World) (i n c:Nat):CoeDep (World×Nat×Nat×Nat) (w,i,n,c) Value:=⟨.slice (some ⟨w.heap.size,i,none⟩) n c⟩
instance cF (t b i:Nat):CoeDep (Nat×Nat×Nat) (t,b,i) Value:=⟨.iface t (.pointer (some ⟨b,i,none⟩))⟩
instance cFw (t:Nat) (w:World) (i:Nat):CoeDep (Nat×World×Nat) (t,w,i) Value:=⟨.iface t (.pointer (some ⟨w.heap.size,i,none⟩))⟩
theorem z2f(a:Addr)(n:Nat):(a.add n).block=a.block:=by unfold Addr.add;split<;>rfl
theorem x6o(a:Addr)(i j:Nat):(a.add i).add j=a.add (i+j):=by
 unfold Addr.add;by_cases hi:i=0<;>by_cases hj:j=0<;>simp[hi,hj,Nat.add_assoc]
def z0d(w:World)(B size:Nat)(A:Option Addr)(n:Nat)(xs:List Value):Prop :=
 xs.length=n*size/\(0<n->∃ad,A=some ad/\ad.block<B/\∀j u,xs[j]?=some u->w.cell? (ad.add j)=some u)
section
variable{w w':World}{B B' size n:Nat}{A:Option Addr}{xs:List Value}
theorem z0d.none_:z0d w B size A 0 []:=⟨by simp,fun h=>absurd h oM⟩
theorem z0d.at_{k:Nat}(h:z0d w B 1 A n xs)(hk:k<n):∃ad u,A=some ad/\ad.block<B/\xs[k]?=some u/\w.cell? (ad.add k)=some u:=by
 obtain⟨ad,e,hb,hc⟩:=h.2 oM;have hl:k<xs.length:=by have:=h.1;omega
 exact⟨ad,xs[k],e,hb,List.getElem?_eq_getElem hl,hc k _ (List.getElem?_eq_getElem hl)⟩
theorem z0d.keep(h:z0d w B size A n xs)(hk:∀p:Addr,p.block<B->w'.cell? p=w.cell? p):z0d w' B size A n xs :=
 ⟨h.1,fun hn=>by
  obtain⟨ad,e,hb,hc⟩:=h.2 hn;exact⟨ad,e,hb,fun j u hu=>(hk _ (by rw[z2f];exact hb)).trans (hc j u hu)⟩⟩
theorem z0d.more(h:z0d w B size A n xs)(hB:B<=B'):z0d w B' size A n xs :=
 ⟨h.1,fun hn=>by
  obtain⟨ad,e,hb,hc⟩:=h.2 hn;exact⟨ad,e,oM,hc⟩⟩
abbrev Blw(w w2:World):Prop:=Below w.heap.size w w2
theorem z0d.below(h:z0d w B size A n xs)(hb:Below B w w'):z0d w' B size A n xs:=h.keep fun _ hp=>hb.cell hp
theorem z0d.alloc(h:z0d w B size A n xs)(hB:B<=w.heap.size)(o:Obj):z0d (w.alloc o) B size A n xs:=h.keep fun p hp=>World.cell?_alloc_lt w o p oM
theorem z0d.cut(h:z0d w B size A n xs){k cap:Nat}(hk:k<=n)(hc:n<=cap):
  z0d w B size (if cap=k then A else A.map (·.add (k*size))) (n-k) (xs.drop (k*size)):=by
 refine⟨by rw[List.length_drop,h.1,Nat.sub_mul],fun hn=>?_⟩;obtain⟨ad,rfl,hb,Ga⟩:=h.2 oM;rw[if_neg oM];refine⟨ad.add (k*size),rfl,by rw[z2f];exact hb,fun j u hu=>?_⟩;rw[x6o];exact Ga _ u (by rw[<- hu,List.getElem?_drop])
theorem z0d.of_own{base:Nat}{e:TypeId}{c:Nat}(h:w.ownsRow base e size (.slice A n c) n xs):z0d w w.heap.size size A n xs:=by
 refine⟨h.1,fun hn=>?_⟩;obtain⟨g,Gb,hv,_,Ga⟩:=h.form hn;have hA:A=some ⟨g,0,none⟩:=by injection hv
 subst hA;exact⟨_,rfl,Ga,h.cells (g:=g) rfl⟩
end
def Blk(w:World)(g:Nat)(t:TypeId)(cs:Array Value):Prop:=w.heap[g]?=some (.cells cs t (0,0))
section
variable{w w':World}{g:Nat}{t:TypeId}{cs:Array Value}
theorem Blk.lt(h:Blk w g t cs):g<w.heap.size:=by
 rcases Nat.lt_or_ge g w.heap.size with hlt|hge
 ·exact hlt
 ·unfold Blk at h;rw[Array.getElem?_eq_none hge]at h;cases h
theorem Blk.cell(h:Blk w g t cs)(i:Nat):w.cell? ⟨g,i,none⟩=cs[i]?:=cell_of_row w g i cs t (0,0) h
theorem Blk.frozen(h:Blk w g t cs)(i:Nat):w.frozen? ⟨g,i,none⟩=false:=by
 unfold Blk at h;simp[World.frozen?,h]
theorem Blk.new(w:World)(t:TypeId)(cs:Array Value):Blk (w.alloc (.cells cs t)) w.heap.size t cs:=heap_alloc_new w _
theorem Blk.drew(h:Blk w g t cs):Blk w.drew g t cs:=h
theorem Blk.drewN(h:Blk w g t cs)(n:Nat):Blk (w.drewN n) g t cs:=h
theorem Blk.alloc(h:Blk w g t cs)(o:Obj):Blk (w.alloc o) g t cs:=(Below.heap_alloc w o g h.lt).trans h
theorem Blk.set_(h:Blk w g t cs)(i:Nat)(u:Value):Blk (w.setCell ⟨g,i,none⟩ u) g t (cs.setIfInBounds i u):=by
 unfold Blk at h⊢;simp[World.setCell,Array.getElem?_modify,h]
theorem Blk.far(h:Blk w g t cs){p:Addr}(hp:g≠p.block)(u:Value):Blk (w.setCell p u) g t cs:=(Below.heap_setCell w p u g hp).trans h
theorem Blk.below{B:Nat}(h:Blk w g t cs)(hb:Below B w w')(hg:g<B):Blk w' g t cs:=(hb.block g hg).trans h
theorem Blk.grown{row:Option Nat}(h:Blk w g t cs)(hb:w.grownBy w' row)(hg:some g≠row):Blk w' g t cs:=(hb.block g h.lt hg).trans h
theorem Blk.ne_{g':Nat}{t':TypeId}{cs':Array Value}(h:Blk w g t cs)(h':Blk w g' t' cs')(hne:t≠t'):g≠g':=by
 rintro rfl;unfold Blk at h h';rw[h]at h';injection h' with h'
 injection h' with _ ht
 exact hne ht
theorem z0l{base:Nat}{e:TypeId}{size n:Nat}{v:Value}{xs:List Value}(h:w.ownsRow base e size v n xs)(hg:Blk w g t cs)(hne:e≠t):v.ownBlock≠some g:=by
 rcases h.2 with ⟨rfl,_⟩|⟨g',cap,cur,rfl,_,hh,_⟩
 ·simp[Value.ownBlock]
 ·intro he
  have:g'=g:=by simpa[Value.ownBlock] using he
  subst this;exact Blk.ne_ (t:=e) hh hg hne rfl
end
section
variable{P:Program}(w:World)
theorem z9r(base:Nat)(t ty e:TypeId)(i:TypeInfo)(size:Nat)(ht:P.underlying t=some (.slice e))(hi:P.info? e=some i)
  (v:Value) (n:Nat) (xs:List Value) (hown:w.ownsRow base e size v n xs) (c:Nat):(Builtin.append_ #[t,t] ty #[v,.slice none 0 c]).run P w=.ok v w:=by
 rcases hown.2 with ⟨rfl,rfl⟩|⟨g,cap,cur,rfl,_,_,hnc,_⟩
 ·simp[Builtin.append_,run_underlying ht,sizeOf,typeInfo,hi,Builtin.lenOf,Builtin.firstCells]
 ·simp[Builtin.append_,run_underlying ht,sizeOf,typeInfo,hi,Builtin.lenOf,Builtin.firstCells,hnc,storeCells]
theorem y4b(base:Nat)(t ty e:TypeId)(i:TypeInfo)(z:Value)(size bytes:Nat)(ht:P.underlying t=some (.slice e))(hi:P.info? e=some i)(hz:i.zero=some z)
  (hsize:i.size=size) (hby:i.bytes=bytes) (hzs:z.cells.size=size) (hsz:0<size)
  (v:Value) (n:Nat) (xs:List Value) (hown:w.ownsRow base e size v n xs)
  (B:Nat) (A:Option Addr) (m c:Nat) (news:List Value) (hr:z0d w B size A m news) (h1:∀u∈news,u.oneCell'=true)
  (h63:n+m<=maxLen) (hbytes:(n+m)*bytes<=140737488355328) (hbase:base<=w.heap.size) :
  ∃v' w',(Builtin.append_ #[t,t] ty #[v,.slice A m c]).run P w=.ok v' w'/\w'.ownsRow base e size v' (n+m) (xs++news)/\w.grownBy w' v.ownBlock /\
   (v'.ownBlock=v.ownBlock\/v'.ownBlock=some w.heap.size):=by
 rcases A with _|ad
 ·have hm:m=0:=by
   rcases Nat.eq_zero_or_pos m with h0|h0
   ·exact h0
   ·obtain⟨ad,h,_⟩:=hr.2 h0
    cases h
  subst hm;have hn:news=[]:=List.eq_nil_of_length_eq_zero (by simpa using hr.1);subst hn;exact⟨v,w,z9r w base t ty e i size ht hi v n xs hown c,by simpa using hown,World.grownBy.refl w _,.inl rfl⟩
 ·have Ga:∀j u,news[j]?=some u->w.cell? (ad.add j)=some u:=by
   intro j u hu;rcases Nat.eq_zero_or_pos m with h0|h0
   ·subst h0
    have hn:news=[]:=List.eq_nil_of_length_eq_zero (by simpa using hr.1);subst hn;simp at hu
   ·obtain⟨Gc,h,_,hc⟩:=hr.2 h0
    injection h with h
    subst h;exact hc j u hu
  obtain⟨v',w',Gb,h2,h3,_,h5⟩:=run_append_own_at (P:=P) w base t ty e i z size bytes ht hi hz hsize hby hzs hsz v n xs hown ad m c news hr.1 Ga h1 h63 hbytes hbase;exact⟨v',w',Gb,h2,h3,h5⟩
theorem z3x{o:Oper}{a:Act}{K:Act->World->Prop}{Q:Exit->Act->World->Prop}(s x:Operand)(t:TypeId)
  (ho:o.op=.call { callee := .builtin .append,args:=#[s,x],argTypes:=#[t,t] })
  (base:Nat) (e:TypeId) (i:TypeInfo) (z:Value) (size bytes:Nat) (ht:P.underlying t=some (.slice e)) (hi:P.info? e=some i) (hz:i.zero=some z)
  (hsize:i.size=size) (hby:i.bytes=bytes) (hzs:z.cells.size=size) (hsz:0<size)
  (v:Value) (n:Nat) (xs:List Value) (hs:a.eval s=v) (hown:w.ownsRow base e size v n xs)
  (B:Nat) (A:Option Addr) (m c:Nat) (news:List Value) (hx:a.eval x=.slice A m c) (hr:z0d w B size A m news) (h1:∀u∈news,u.oneCell'=true)
  (h63:n+m<=maxLen) (hbytes:(n+m)*bytes<=140737488355328) (hbase:base<=w.heap.size)
  (h:∀v' w',w'.ownsRow base e size v' (n+m) (xs++news)->w.grownBy w' v.ownBlock->(v'.ownBlock=v.ownBlock\/v'.ownBlock=some w.heap.size)->K (a.put o.dst v') w'):o.wp P a w K Q:=by
 obtain⟨v',w',Ga,h2,h3,h4⟩:=y4b (P:=P) w base t o.type e i z size bytes ht hi hz hsize hby hzs hsz v n xs hown B A m c news hr h1 h63 hbytes hbase;unfold Oper.wp execOp;simp only[ho,resolve,invoke,builtin,Sem.run_bind,Sem.run_pure,Result.andThen_ok,List.map_toArray,List.map_cons,List.map_nil,hs,hx,Ga];exact h v' w' h2 h3 h4
end
theorem z7n{B:Nat}{a w:World}(h:Below B a w)(n:Nat):Below B a (w.drewN n):=⟨h.os,h.tape,h.output,h.size,h.block⟩
section
variable{H:Type}{enc:TypeId×Value->H}{P:Program}
end
end
section
open Go.RowKit
section
variable{P:Program}{ops:Array Oper}{Q:Exit->Act->World->Prop}{md:Region.Mode}{S:World->Prop}{m:Nat}
def y5i(P:Program)(md:Region.Mode)(ops:Array Oper)(Q:Exit->Act->World->Prop)(S:World->Prop)(m:Nat):Nat->Array Bool->Act->World->Prop
 |0,listed,a,w=>Region.ready md ops listed=[]/\Q .normal a w
 |fuel+1,listed,a,w =>
  (Region.ready md ops listed=[]->Q .normal a w) /\
  ∀i∈Region.ready md ops listed,wpOp P ops Q i (fun a' w'=>(i<m->S w')/\y5i P md ops Q S m fuel (listed.setIfInBounds i true) a' w') a w
theorem y5j:∀(fuel:Nat)(listed:Array Bool)(a:Act)(w:World),y5i P md ops Q S m fuel listed a w->wpAny P md ops Q fuel listed a w
 |0,_,_,_,h=>h
 |fuel+1,_,_,_,h=>⟨h.1,fun i hi=>wpOp_mono (fun a' w' h'=>y5j fuel _ a' w' h'.2) (h.2 i hi)⟩
theorem x0r{i oi v}(hi:ops[i]?=some oi)(hsel:∀(j:Nat)(o:Oper) cs b,ops[j]?=some o->o.op≠.select cs b)
  (hs:Region.sinkB md ops m=true) (hc:Region.chainB md ops m=true) (hm:m<ops.size) (him:i<m)
  (hQ:∀c a w,Q (.panic c) (a.put oi.dst v) w->Q (.panic c) a w) :
  ∀(fuel:Nat)(listed:Array Bool)(a:Act)(w:World),HeadInv md ops m listed ->
   (∀j oj,ops[j]?=some oj->j≠i->listed.getD j true=false->(∀e∈oj.after,Region.binds md e=true->e.on≠i)->oi.apart ops oj=true) ->
   i∈Region.ready md ops listed->YieldsIf P ops S oi v a->S w ->
   y5i P md ops Q S m fuel (listed.setIfInBounds i true) (a.put oi.dst v) w->y5i P md ops Q S m (fuel+1) listed a w:=by
 intro fuel;induction fuel with
 |zero =>
  intro listed a w _ _ hr hy hS H;refine⟨fun h=>(by rw[h]at hr;cases hr),fun j hj=>?_⟩;by_cases hji:j=i
  ·subst hji;exact hy.wpOp hi hS ⟨fun _=>hS,H⟩
  ·have:=ready_mono hj hji
   rw[H.1]at this;cases this
 |succ fuel ih =>
  intro listed a w inv hfree hr hy hS H;have Gc:=(mem_ready.1 hr).1;refine⟨fun h=>(by rw[h]at hr;cases hr),fun j hj=>?_⟩;by_cases hji:j=i
  ·subst hji;exact hy.wpOp hi hS ⟨fun _=>hS,H⟩
  ·have Gg:j<m:=by
    rcases Nat.lt_or_ge j m with h|h
    ·exact h
    ·exact absurd hj (tail_waits hs hc hm inv _ i rfl him Gc j h)
   have h1:=H.2 j (ready_mono hj hji);obtain⟨Gb,oj,Gf,Gd⟩:=mem_ready.1 hj;have Ge:∀e∈oj.after,Region.binds md e=true->e.on≠i:=fun e he hb heq=>by
    have h1:=Gd e he hb;rw[heq,getD_both Gc]at h1;cases h1
   have h2:=wpOp_putIf Gf (hfree j oj Gf hji Gb Ge) (fun cs b=>hsel i oi cs b hi) (fun cs b=>hsel j oj cs b Gf) hQ hy h1;have Ga:∀k ok,ops[k]?=some ok->k≠i->(listed.setIfInBounds j true).getD k true=false ->
     (∀e∈ok.after,Region.binds md e=true->e.on≠i)->oi.apart ops ok=true:=fun k ok hk hki Gc hno=>by
    refine hfree k ok hk hki ?_ hno;by_cases hjk:j=k
    ·subst hjk;exact Gb
    ·rw[getD_set_ne true hjk]at Gc;exact Gc
   refine wpOp_mono (fun a' w' h3=>⟨h3.2.1,ih (listed.setIfInBounds j true) a' w' (inv.set hj Gg) Ga (ready_mono hr (Ne.symm hji)) h3.1 (h3.2.1 Gg) ?_⟩) h2;rw[Array.setIfInBounds_comm _ _ hji];exact h3.2.2
theorem z8y:∀(l:List Oper)(k:Nat)(listed:Array Bool)(a:Act)(w:World),m<=k->(∀j,l[j]?=ops[k+j]?) ->
  Region.seqB md ops l.length k listed=true->wpList P ops Q l a w->y5i P md ops Q S m l.length listed a w
 |[],_,_,_,_,_,_,hB,h=>⟨by simpa[Region.seqB] using hB,h⟩
 |o::l,k,listed,a,w,hk,hl,hB,h=>by
  have h0:ops[k]?=some o:=by simpa using (hl 0).symm
  simp only[List.length_cons,Region.seqB,Bool.and_eq_true,decide_eq_true_eq]at hB;refine⟨fun h1=>(by rw[hB.1]at h1;cases h1),fun i hi=>?_⟩;rw[hB.1]at hi;have Ga:i=k:=by simpa using hi
  subst Ga;have hw:wpOp P ops Q i (wpList P ops Q l) a w:=by unfold wpOp;simp only[h0];exact h
  exact wpOp_mono (fun a' w' h'=>⟨fun hlt=>absurd hlt oM,z8y l (i+1) _ a' w' oM (fun j=>by have:=hl (j+1);simpa[Nat.add_assoc,Nat.add_comm 1 j] using this) hB.2 h'⟩) hw
def y1l(S:World->Prop)(Q:Exit->Act->World->Prop)(L:Act->World->Prop):Exit->Act->World->Prop
 | .normal,a,w=>S w/\L a w
 |e,a,w=>Q e a w
end
end
section
open Go.RowKit
theorem z4f{w:World}{base:Nat}{e:TypeId}{size:Nat}{v:Value}{n:Nat}{xs:List Value}(h:w.ownsRow base e size v n xs):∃A c,v=.slice A n c:=by
 rcases h.2 with ⟨rfl,rfl⟩|⟨g,cap,cur,rfl,_⟩
 ·exact⟨_,_,rfl⟩
 ·exact⟨_,_,rfl⟩
theorem z6y(w:World)(l:List Value)(k size:Nat)(e:TypeId)(o:Obj)(ho:o=.cells l.toArray e)(hl:l.length=k*size):z0d (w.alloc o) (w+1) size (some (w,())) k l:=by
 subst ho;refine⟨hl,fun _=>⟨_,rfl,by show w.heap.size<_;omega,fun j u hu=>?_⟩⟩;have ha:((w,()):Addr).add j=(w,j):=by unfold Addr.add;split<;>simp_all
 have hh:(w.alloc (.cells l.toArray e)).heap[w.heap.size]?=some (.cells l.toArray e (0,0)):=heap_alloc_new w _;rw[ha,cell_of_row _ _ _ _ _ _ hh];simpa using hu
theorem z0r{w w' base}{e:TypeId}{size v n xs}(h:w.ownsRow base e size v n xs)(hb:Blw w w'):w'.ownsRow base e size v n xs:=by
 refine⟨h.1,?_⟩;rcases h.2 with h0|⟨g,cap,cur,h1,h2,h3,h4⟩
 ·exact .inl h0
 ·refine .inr ⟨g,cap,cur,h1,h2,?_,h4⟩
  have:Blk w g e cur:=h3;exact(hb.block g this.lt).trans h3
theorem z4p{w:World}{base:Nat}{e:TypeId}{size:Nat}{A:Option Addr}{n c:Nat}{xs:List Value}(h:w.ownsRow base e size (.slice A n c) n xs):n<=c/\c<=9223372036854775807:=by
 rcases h.2 with ⟨hv,h0⟩|⟨g,cap,cur,hv,_,_,hnc,hm,_⟩
 ·injection hv with h1 h2 h3
  omega
 ·injection hv with h1 h2 h3
  subst h3;exact⟨hnc,hm⟩
theorem v3o{w:World}{base:Nat}{e:TypeId}{size:Nat}{v:Value}{n:Nat}{xs:List Value}(h:w.ownsRow base e size v n xs){g:Nat}(hg:g<base\/w<=g):some g≠v.ownBlock:=by
 intro he;have:=h.lt g he.symm;omega
section
variable{P:Program}(w:World)
theorem z0m{ops rest o a Q}(s x:Operand)(t:TypeId)
  (hw:Region.wanted o (yielded ops a.tmps)=true)
  (ho:o.op=.call { callee := .builtin .append,args:=#[s,x],argTypes:=#[t,t] })
  (base:Nat) (e:TypeId) (i:TypeInfo) (z:Value) (size bytes:Nat) (ht:P.underlying t=some (.slice e)) (hi:P.info? e=some i) (hz:i.zero=some z)
  (hsize:i.size=size) (hby:i.bytes=bytes) (hzs:z.cells.size=size) (hsz:0<size)
  (v:Value) (n:Nat) (xs:List Value) (hs:a.eval s=v) (hown:w.ownsRow base e size v n xs)
  (B:Nat) (A:Option Addr) (m c:Nat) (news:List Value) (hx:a.eval x=.slice A m c) (hr:z0d w B size A m news) (h1:∀u∈news,u.oneCell'=true)
  (h63:n+m<=maxLen) (hbytes:(n+m)*bytes<=140737488355328) (hbase:base<=w)
  (h:∀A' n' c' w',n'=n+m->w'.ownsRow base e size (.slice A' n' c') n' (xs++news)->w.grownBy w' v.ownBlock->Below base w w'->wpList P ops Q rest (a.put o.dst (.slice A' n' c')) w'):wpList P ops Q (o::rest) a w:=by
 refine Go.BigFrame.wpList_want hw fun K hK=>?_
 refine z3x w s x t ho base e i z size bytes ht hi hz hsize hby hzs hsz v n xs hs hown B A m c news hx hr h1 h63 hbytes hbase fun v' w' h2 h3 _=>?_
 obtain⟨A',c',rfl⟩:=z4f h2;exact hK _ _ (h A' _ c' w' rfl h2 h3 ((Below.refl _ _).grown h3 hbase (fun j hj=>(hown.lt j hj).1)))
end
end
section
open Go.RowKit
abbrev Fp:=Nat->Prop
structure Chg(S:Fp)(w w':World):Prop where
 os:w'.os=w.os
 tape:w'.tape=w.tape
 output:w'.output=w.output
 size:w.heap.size<=w'.heap.size
 block:∀k,k<w.heap.size->¬S k->w'.heap[k]?=w.heap[k]?
def Grew(S S':Fp)(w:World):Prop:=∀k,S' k->S k\/w<=k
def Off(S:Fp)(w:World)(g:Nat):Prop:=g<w.heap.size/\¬S g
def Fp.no:Fp:=fun _=>False
section
variable{S S' T:Fp}{w w1 w2:World}
theorem Chg.refl S w:Chg S w w:=⟨rfl,rfl,rfl,nL _,fun _ _ _=>rfl⟩
theorem Chg.trans(h:Chg S w w1)(k:Chg S' w1 w2)(hg:Grew S S' w):Chg S w w2 :=
 ⟨k.os.trans h.os,k.tape.trans h.tape,k.output.trans h.output,Nat.le_trans h.size k.size,fun i hi hs =>
  (k.block i (Nat.lt_of_lt_of_le hi h.size) (fun h'=>(hg i h').elim hs (fun h''=>oM))).trans (h.block i hi hs)⟩
theorem Chg.mono(h:Chg S w w1)(hs:∀k,S k->T k):Chg T w w1:=⟨h.os,h.tape,h.output,h.size,fun k hk hn=>h.block k hk (fun h'=>hn (hs k h'))⟩
theorem Chg.alloc(h:Chg S w w1) o:Chg S w (w1.alloc o) :=
 ⟨h.os,h.tape,h.output,Nat.le_trans h.size (by simp),fun k hk hn=>(Below.heap_alloc w1 o k (Nat.lt_of_lt_of_le hk h.size)).trans (h.block k hk hn)⟩
theorem Chg.setCell(h:Chg S w w1){p}(hp:S p.block\/w.heap.size<=p.block) u:Chg S w (w1.setCell p u):=by
 refine⟨h.os,h.tape,h.output,Nat.le_trans h.size (by simp),fun k hk hn=>(Below.heap_setCell w1 p u k ?_).trans (h.block k hk hn)⟩;rintro rfl;rcases hp with hp|hp
 ·exact hn hp
 ·omega
theorem Chg.drew(h:Chg S w w1):Chg S w w1.drew:=⟨h.os,h.tape,h.output,h.size,h.block⟩
theorem Chg.drewN(h:Chg S w w1) n:Chg S w (w1.drewN n):=⟨h.os,h.tape,h.output,h.size,h.block⟩
theorem Chg.grown{row}(h:Chg S w w1)(hg:w1.grownBy w2 row)(hr:∀g,row=some g->S g\/w.heap.size<=g):Chg S w w2 :=
 ⟨hg.os.trans h.os,hg.tape.trans h.tape,hg.output.trans h.output,Nat.le_trans h.size hg.size,fun k hk hn =>
  (hg.block k (Nat.lt_of_lt_of_le hk h.size) (fun e=>(hr k e.symm).elim hn (fun h'=>oM))).trans (h.block k hk hn)⟩
theorem Chg.below(h:Chg S w w1)(hb:Blw w1 w2):Chg S w w2 :=
 ⟨hb.os.trans h.os,hb.tape.trans h.tape,hb.output.trans h.output,Nat.le_trans h.size hb.size,fun k hk hn=>(hb.block k (Nat.lt_of_lt_of_le hk h.size)).trans (h.block k hk hn)⟩
theorem Chg.of_below(hb:Blw w w1):Chg S w w1:=(Chg.refl S w).below hb
theorem Chg.toBelow(h:Chg S w w1){B}(hB:B<=w.heap.size)(hS:∀k,S k->B<=k):Below B w w1 :=
 ⟨h.os,h.tape,h.output,h.size,fun k hk=>h.block k oM (fun hs=>by have:=hS k hs;omega)⟩
theorem Chg.blk(h:Chg S w w1){g}{t:TypeId}{cs}(hB:Blk w g t cs)(hg:¬S g):Blk w1 g t cs:=(h.block g hB.lt hg).trans hB
theorem Chg.own(h:Chg S w w1){base}{e:TypeId}{size v n xs}(ho:w.ownsRow base e size v n xs)(hS:∀g,v.ownBlock=some g->¬S g):w1.ownsRow base e size v n xs:=by
 refine⟨ho.1,?_⟩;rcases ho.2 with hn|⟨g,cap,cur,rfl,hb,hgg,rest⟩
 ·exact .inl hn
 ·exact .inr ⟨g,cap,cur,rfl,hb,(h.block g (Array.getElem?_eq_some_iff.1 hgg).1 (hS g rfl)).trans hgg,rest⟩
theorem Chg.map(h:Chg S w w1){H:Type}{P:Program}{k:TypeId}{R:Value->Option (DataW H×List MemPlace)}{b n:Nat}{D:DataW H}(ho:w.ownsMap P k R b n D)(hb:¬S b):w1.ownsMap P k R b n D:=by
 have Gb:=ho.lt;obtain⟨es,Ga,h1,h2⟩:=ho;exact⟨es,Ga,(h.block b Gb hb).trans h1,h2⟩
theorem Chg.reads(h:Chg S w w1){B size n A xs}(hr:z0d w B size A n xs)(hB:B<=w.heap.size)(hS:∀ad,A=some ad->¬S ad.block):z0d w1 B size A n xs :=
 ⟨hr.1,fun hn=>by
  obtain⟨ad,rfl,hb,hc⟩:=hr.2 hn;refine⟨ad,rfl,hb,fun j u hu=>?_⟩;rw[World.cell?_of_block (w:=w) (h.block _ (by rw[z2f];omega) (by rw[z2f];exact hS ad rfl))];exact hc j u hu⟩
theorem Grew.refl S w:Grew S S w:=fun _ h => .inl h
theorem Grew.trans{S''}(h:Grew S S' w)(k:Grew S' S'' w1)(hs:w.heap.size<=w1.heap.size):Grew S S'' w:=fun i hi =>
 (k i hi).elim (h i) (fun h' => .inr oM)
theorem Grew.off(h:Grew S S' w){g}(ho:Off S w g):¬S' g:=fun hg=>(h g hg).elim ho.2 (fun h'=>by have:=ho.1;omega)
end
end
section
open Go.RowKit
section
variable{P:Program}{ops:Array Oper}{Q:Exit->Act->World->Prop}{md:Region.Mode}{S:World->Prop}{m:Nat}
def z6x(md:Region.Mode)(ops:Array Oper)(g m:Nat):List (Bool×Nat)->Array Bool->Bool
 |[],listed=>Region.seqB md ops g m listed
 |(true,i)::r,listed=>decide (i<m)&&((Region.ready md ops listed).contains i&&Region.free md ops listed i)&&z6x md ops g m r (listed.setIfInBounds i true)
 |(false,i)::r,listed=>decide (i<m)&&decide (Region.ready md ops listed=[i])&&z6x md ops g m r (listed.setIfInBounds i true)
def z2b(P:Program)(ops:Array Oper)(Q:Exit->Act->World->Prop)(S:World->Prop)(rest:List Oper):List (Bool×Nat)->Act->World->Prop
 |[],a,w=>wpList P ops Q rest a w
 |(true,i)::r,a,w=>∃o v,ops[i]?=some o/\YieldsIf P ops S o v a/\z2b P ops Q S rest r (a.put o.dst v) w
 |(false,i)::r,a,w=>∃o,ops[i]?=some o/\wpList P ops (y1l S Q (z2b P ops Q S rest r)) [o] a w
theorem y7l{rest:List Oper}{i:Nat}{r:List (Bool×Nat)}{a:Act}{w:World}{o:Oper}(v:Value)(ho:ops[i]?=some o)(hw:Region.wanted o (yielded ops a.tmps)=true)(hy:∀w,S w->(execOp a.eval o).run P w=.ok (.value v) w)(h:z2b P ops Q S rest r (a.put o.dst v) w):z2b P ops Q S rest ((true,i)::r) a w :=
 ⟨o,v,ho,.inl ⟨hw,hy⟩,h⟩
theorem tkS{rest:List Oper}{i:Nat}{r:List (Bool×Nat)}{a:Act}{w:World}{o:Oper}{b:Act}(v:Value)(hy:∀w,S w->(execOp a.eval o).run P w=.ok (.value v) w)(h:z2b P ops Q S rest r b w)(ho:ops[i]?=some o:=by rfl)(hw:Region.wanted o (yielded ops a.tmps)=true:=by rfl)(hb:a.put o.dst v=b:=by conv=>lhs;simp only[Act.put,zA,zB,zC,zD,zE,zF]):z2b P ops Q S rest ((true,i)::r) a w:=by subst hb;exact y7l v ho hw hy h
theorem z0i{rest i r a w o}(ho:ops[i]?=some o)(hw:Region.wanted o (yielded ops a.tmps)=false)(h:z2b P ops Q S rest r (a.put o.dst undef) w):z2b P ops Q S rest ((true,i)::r) a w :=
 ⟨o,undef,ho,.inr ⟨hw,rfl⟩,h⟩
theorem z0k{rest i r a w o}(ho:ops[i]?=some o)(h:wpList P ops (y1l S Q (z2b P ops Q S rest r)) [o] a w):z2b P ops Q S rest ((false,i)::r) a w:=⟨o,ho,h⟩
theorem z5r{rest}(hsel:Region.noSelect ops=true)(hs:Region.sinkB md ops m=true)(hc:Region.chainB md ops m=true)(hm:m<ops.size)
  (hQ:∀c a a' w,Q (.panic c) a w->Q (.panic c) a' w) (hrest:∀j,rest[j]?=ops[m+j]?) :
  ∀(sc:List (Bool×Nat))(listed:Array Bool)(a:Act)(w:World),HeadInv md ops m listed->z6x md ops rest.length m sc listed=true->S w->z2b P ops Q S rest sc a w ->
   y5i P md ops Q S m (sc.length+rest.length) listed a w
 |[],listed,a,w,_,hB,_,h=>by
  rw[List.length_nil,Nat.zero_add];exact z8y rest m listed a w (nL _) hrest hB h
 |(true,i)::r,listed,a,w,inv,hB,hS,h=>by
  simp only[z6x,Bool.and_eq_true,decide_eq_true_eq]at hB;obtain⟨⟨him,hr,hf⟩,hB'⟩:=hB;have Ga:i∈Region.ready md ops listed:=by simpa using hr
  obtain⟨o,v,ho,hy,hK⟩:=h;rw[List.length_cons,show r.length+1+rest.length=(r.length+rest.length)+1 by omega];exact x0r ho (Region.noSelect_spec hsel) hs hc hm him (fun c a' w'=>hQ c _ _ w') (r.length+rest.length) listed a w inv (Region.free_spec ho hf) Ga hy hS
   (z5r hsel hs hc hm hQ hrest r _ _ _ (inv.set Ga him) hB' hS hK)
 |(false,i)::r,listed,a,w,inv,hB,hS,h=>by
  simp only[z6x,Bool.and_eq_true,decide_eq_true_eq]at hB;obtain⟨⟨him,hr⟩,hB'⟩:=hB;obtain⟨o,ho,hK⟩:=h;have Ga:i∈Region.ready md ops listed:=by rw[hr];exact List.mem_singleton.2 rfl
  rw[List.length_cons,show r.length+1+rest.length=(r.length+rest.length)+1 by omega];refine⟨fun h1=>(by rw[hr]at h1;cases h1),fun j hj=>?_⟩;rw[hr]at hj;have Gb:j=i:=by simpa using hj
  subst Gb;have hw:wpOp P ops (y1l S Q (z2b P ops Q S rest r)) j (fun a' w'=>S w'/\z2b P ops Q S rest r a' w') a w:=by
   unfold wpOp;simp only[ho];exact hK
  have Gc:wpOp P ops Q j (fun a' w'=>S w'/\z2b P ops Q S rest r a' w') a w:=by
   unfold wpOp at hw⊢;simp only[ho]at hw⊢;exact hw
  exact wpOp_mono (fun a' w' h'=>⟨fun _=>h'.1,z5r hsel hs hc hm hQ hrest r _ a' w' (inv.set Ga him) hB' h'.1 h'.2⟩) Gc
end
def w2y(l:List Oper)(m:Nat)(sc:List (Bool×Nat)):Bool :=
 Region.noSelect l.toArray&&decide (m<l.toArray.size)&&Region.sinkB .any l.toArray m&&Region.chainB .any l.toArray m&&decide (sc.length=m)&&z6x .any l.toArray (l.toArray.size-m) m sc (Array.replicate l.toArray.size false)
theorem z0f{P Q id a w l}(S:World->Prop) m (sc:List (Bool×Nat)) (hm:P.follows .mixedOrders=true) (hB:w2y l m sc=true)
  (hS:S w.drew) (h:z2b P l.toArray (NoPanic Q) S (l.drop m) sc a w.drew):(Code.region id l.toArray true).wp P Q a w:=by
 refine wp_region_noPanic ?_;simp only[w2y,Bool.and_eq_true,decide_eq_true_eq]at hB;obtain⟨⟨⟨⟨⟨Ga,hn⟩,hs⟩,hc⟩,hsc⟩,hok⟩:=hB;have Gc:(l.drop m).length=l.toArray.size-m:=by simp
 have Gd:m<l.length:=by simpa using hn
 have Gb:HeadInv .any l.toArray m (Array.replicate l.toArray.size false) :=
  ⟨by simp,fun j oj _ hl=>(by rw[getD_replicate_false]at hl;cases hl),fun t _ ht=>getD_in (by simpa using ht) (getD_replicate_false _ _)⟩
 refine wp_region_any hm (y5j (S:=S) (m:=m) _ _ _ _ ?_);have:=z5r (P:=P) (Q:=NoPanic Q) (md := .any) (S:=S) (m:=m) (rest:=l.drop m) Ga hs hc hn (fun _ _ _ _ h=>h) (fun j=>by rw[List.getElem?_drop];simp) sc _ a _ Gb (by rw[Gc];exact hok) hS h;rw[Gc,hsc,show m+(l.toArray.size-m)=l.toArray.size by simp;omega]at this;exact this
end
section
open Go.RowKit
section
variable{P:Program}{ops:Array Oper}{Q:Exit->Act->World->Prop}{md:Region.Mode}{S:World->Prop}{H:Nat->Bool}
def y3w(md:Region.Mode)(ops:Array Oper)(i:Nat):Nat->Nat->Bool
 |0,_=>false
 |f+1,j=>match ops[j]? with
  |some oj=>oj.after.any fun e=>Region.binds md e&&(e.on==i||y3w md ops i f e.on)
  |none=>false
structure Clos(md:Region.Mode)(ops:Array Oper)(listed:Array Bool):Prop where
 closed:∀j oj,ops[j]?=some oj->listed.getD j false=true->∀e∈oj.after,Region.binds md e=true->listed.getD e.on false=true
theorem Clos.set{i listed}(inv:Clos md ops listed)(hi:i∈Region.ready md ops listed):Clos md ops (listed.setIfInBounds i true):=by
 obtain⟨_,oi,Gb,Ga⟩:=mem_ready.1 hi;refine⟨fun j oj hj hl e he hb=>?_⟩;by_cases hij:i=j
 ·subst hij
  have:oj=oi:=Option.some.inj (hj.symm.trans Gb);subst this;exact getD_set_true (Ga e he hb)
 ·rw[getD_set_ne false hij]at hl
  exact getD_set_true (inv.closed j oj hj hl e he hb)
theorem Clos.deps{i listed}(inv:Clos md ops listed):∀(f j:Nat),y3w md ops i f j=true->(∀oj,ops[j]?=some oj->∀e∈oj.after,Region.binds md e=true->listed.getD e.on false=true)->listed.getD i false=true
 |0,_,h,_=>by cases h
 |f+1,j,h,hall=>by
  unfold y3w at h;split at h
  ·rename_i oj hj
   obtain⟨e,he,hb⟩:=Array.any_eq_true'.1 h;simp only[Bool.and_eq_true,Bool.or_eq_true,beq_iff_eq]at hb;have h1:=hall oj hj e he hb.1;rcases hb.2 with h2|h2
   ·rw[<- h2];exact h1
   ·exact inv.deps f e.on h2 (fun ok hk e' he' hb'=>inv.closed e.on ok hk h1 e' he' hb')
  ·cases h
theorem Clos.not_ready{i j f listed}(inv:Clos md ops listed)(h:y3w md ops i f j=true)(hun:listed.getD i false=false):j∉Region.ready md ops listed:=fun hr=>by
 obtain⟨_,oj,Gb,Ga⟩:=mem_ready.1 hr;have:=inv.deps f j h (fun ok hk e he hb=>by
  have:ok=oj:=Option.some.inj (hk.symm.trans Gb);subst this;exact Ga e he hb)
 rw[hun]at this;cases this
def z3d(P:Program)(md:Region.Mode)(ops:Array Oper)(Q:Exit->Act->World->Prop)(S:World->Prop)(H:Nat->Bool):Nat->Array Bool->Act->World->Prop
 |0,listed,a,w=>Region.ready md ops listed=[]/\Q .normal a w
 |fuel+1,listed,a,w =>
  (Region.ready md ops listed=[]->Q .normal a w) /\
  ∀i∈Region.ready md ops listed,wpOp P ops Q i (fun a' w'=>(H i=true->S w')/\z3d P md ops Q S H fuel (listed.setIfInBounds i true) a' w') a w
theorem z9y:∀(fuel:Nat)(listed:Array Bool)(a:Act)(w:World),z3d P md ops Q S H fuel listed a w->wpAny P md ops Q fuel listed a w
 |0,_,_,_,h=>h
 |fuel+1,_,_,_,h=>⟨h.1,fun i hi=>wpOp_mono (fun a' w' h'=>z9y fuel _ a' w' h'.2) (h.2 i hi)⟩
theorem z6m{i f oi v}(hi:ops[i]?=some oi)(hsel:∀(j:Nat)(o:Oper) cs b,ops[j]?=some o->o.op≠.select cs b)
  (hQ:∀c a w,Q (.panic c) (a.put oi.dst v) w->Q (.panic c) a w) :
  ∀(fuel:Nat)(listed:Array Bool)(a:Act)(w:World),Clos md ops listed ->
   (∀j,j<ops.size->H j=false->listed.getD j true=true\/y3w md ops i f j=true) ->
   (∀j oj,ops[j]?=some oj->j≠i->listed.getD j true=false->(∀e∈oj.after,Region.binds md e=true->e.on≠i)->oi.apart ops oj=true) ->
   i∈Region.ready md ops listed->YieldsIf P ops S oi v a->S w ->
   z3d P md ops Q S H fuel (listed.setIfInBounds i true) (a.put oi.dst v) w->z3d P md ops Q S H (fuel+1) listed a w:=by
 intro fuel;induction fuel with
 |zero =>
  intro listed a w _ _ _ hr hy hS HH;refine⟨fun h=>(by rw[h]at hr;cases hr),fun j hj=>?_⟩;by_cases hji:j=i
  ·subst hji;exact hy.wpOp hi hS ⟨fun _=>hS,HH⟩
  ·have:=ready_mono hj hji
   rw[HH.1]at this;cases this
 |succ fuel ih =>
  intro listed a w inv hH hfree hr hy hS HH;have Gc:=(mem_ready.1 hr).1;refine⟨fun h=>(by rw[h]at hr;cases hr),fun j hj=>?_⟩;by_cases hji:j=i
  ·subst hji;exact hy.wpOp hi hS ⟨fun _=>hS,HH⟩
  ·obtain⟨Gb,oj,Gd,Ge⟩:=mem_ready.1 hj
   have Gi:j<ops.size:=(Array.getElem?_eq_some_iff.1 Gd).1;have Gg:H j=true:=by
    cases hb:H j with
    |true=>rfl
    |false =>
     rcases hH j Gi hb with h|h
     ·rw[Gb]at h;cases h
     ·exact absurd hj (inv.not_ready h (getD_both Gc))
   have h1:=HH.2 j (ready_mono hj hji);have Gf:∀e∈oj.after,Region.binds md e=true->e.on≠i:=fun e he hb heq=>by
    have h1:=Ge e he hb;rw[heq,getD_both Gc]at h1;cases h1
   have h2:=wpOp_putIf Gd (hfree j oj Gd hji Gb Gf) (fun cs b=>hsel i oi cs b hi) (fun cs b=>hsel j oj cs b Gd) hQ hy h1;have Ga:∀k ok,ops[k]?=some ok->k≠i->(listed.setIfInBounds j true).getD k true=false ->
     (∀e∈ok.after,Region.binds md e=true->e.on≠i)->oi.apart ops ok=true:=fun k ok hk hki Gc hno=>by
    refine hfree k ok hk hki ?_ hno;by_cases hjk:j=k
    ·subst hjk;exact Gb
    ·rw[getD_set_ne true hjk]at Gc;exact Gc
   have Gh:∀k,k<ops.size->H k=false->(listed.setIfInBounds j true).getD k true=true\/y3w md ops i f k=true:=fun k hk hb=>by
    by_cases hjk:j=k
    ·subst hjk;rw[Gg]at hb;cases hb
    ·rw[getD_set_ne true hjk];exact hH k hk hb
   refine wpOp_mono (fun a' w' h3=>⟨h3.2.1,ih (listed.setIfInBounds j true) a' w' (inv.set hj) Gh Ga (ready_mono hr (Ne.symm hji)) h3.1 (h3.2.1 Gg) ?_⟩) h2;rw[Array.setIfInBounds_comm _ _ hji];exact h3.2.2
theorem x3u{i oi v}(hi:ops[i]?=some oi)(hsel:∀(j:Nat)(o:Oper) cs b,ops[j]?=some o->o.op≠.select cs b)
  (hQ:∀c a w,Q (.panic c) (a.put oi.dst v) w->Q (.panic c) a w) (hHi:H i=false) :
  ∀(fuel:Nat)(listed:Array Bool)(a:Act)(w:World),
   (∀j oj,ops[j]?=some oj->j≠i->listed.getD j true=false->(∀e∈oj.after,Region.binds md e=true->e.on≠i)->oi.apart ops oj=true) ->
   i∈Region.ready md ops listed->YieldsIf P ops (fun _=>True) oi v a ->
   z3d P md ops Q S H fuel (listed.setIfInBounds i true) (a.put oi.dst v) w->z3d P md ops Q S H (fuel+1) listed a w:=by
 intro fuel;induction fuel with
 |zero =>
  intro listed a w _ hr hy HH;refine⟨fun h=>(by rw[h]at hr;cases hr),fun j hj=>?_⟩;by_cases hji:j=i
  ·subst hji;exact hy.wpOp hi trivial ⟨fun h=>(by rw[hHi]at h;cases h),HH⟩
  ·have:=ready_mono hj hji
   rw[HH.1]at this;cases this
 |succ fuel ih =>
  intro listed a w hfree hr hy HH;have Gc:=(mem_ready.1 hr).1;refine⟨fun h=>(by rw[h]at hr;cases hr),fun j hj=>?_⟩;by_cases hji:j=i
  ·subst hji;exact hy.wpOp hi trivial ⟨fun h=>(by rw[hHi]at h;cases h),HH⟩
  ·obtain⟨Gb,oj,Gf,Gd⟩:=mem_ready.1 hj
   have h1:=HH.2 j (ready_mono hj hji);have Ge:∀e∈oj.after,Region.binds md e=true->e.on≠i:=fun e he hb heq=>by
    have h1:=Gd e he hb;rw[heq,getD_both Gc]at h1;cases h1
   have h2:=wpOp_putIf Gf (hfree j oj Gf hji Gb Ge) (fun cs b=>hsel i oi cs b hi) (fun cs b=>hsel j oj cs b Gf) hQ hy h1;have Ga:∀k ok,ops[k]?=some ok->k≠i->(listed.setIfInBounds j true).getD k true=false ->
     (∀e∈ok.after,Region.binds md e=true->e.on≠i)->oi.apart ops ok=true:=fun k ok hk hki Gc hno=>by
    refine hfree k ok hk hki ?_ hno;by_cases hjk:j=k
    ·subst hjk;exact Gb
    ·rw[getD_set_ne true hjk]at Gc;exact Gc
   refine wpOp_mono (fun a' w' h3=>⟨h3.2.1,ih (listed.setIfInBounds j true) a' w' Ga (ready_mono hr (Ne.symm hji)) h3.1 ?_⟩) h2;rw[Array.setIfInBounds_comm _ _ hji];exact h3.2.2
theorem z8z:∀(l:List Oper)(k:Nat)(listed:Array Bool)(a:Act)(w:World),(∀i,k<=i->H i=false)->(∀j,l[j]?=ops[k+j]?) ->
  Region.seqB md ops l.length k listed=true->wpList P ops Q l a w->z3d P md ops Q S H l.length listed a w
 |[],_,_,_,_,_,_,hB,h=>⟨by simpa[Region.seqB] using hB,h⟩
 |o::l,k,listed,a,w,hk,hl,hB,h=>by
  have h0:ops[k]?=some o:=by simpa using (hl 0).symm
  simp only[List.length_cons,Region.seqB,Bool.and_eq_true,decide_eq_true_eq]at hB;refine⟨fun h1=>(by rw[hB.1]at h1;cases h1),fun i hi=>?_⟩;rw[hB.1]at hi;have Ga:i=k:=by simpa using hi
  subst Ga;have hw:wpOp P ops Q i (wpList P ops Q l) a w:=by unfold wpOp;simp only[h0];exact h
  exact wpOp_mono (fun a' w' h'=>⟨fun ht=>(by rw[hk i (nL _)]at ht;cases ht),z8z l (i+1) _ a' w' (fun i' h=>hk i' oM) (fun j=>by have:=hl (j+1);simpa[Nat.add_assoc,Nat.add_comm 1 j] using this) hB.2 h'⟩) hw
def z3p(md:Region.Mode)(ops:Array Oper)(H:Nat->Bool)(g m:Nat):List (Nat×Nat)->Array Bool->Bool
 |[],listed=>Region.seqB md ops g m listed
 |(0,i)::r,listed=>decide (Region.ready md ops listed=[i])&&H i&&z3p md ops H g m r (listed.setIfInBounds i true)
 |(1,i)::r,listed=>((Region.ready md ops listed).contains i&&Region.free md ops listed i)&&((List.range ops.size).all fun j=>H j||listed.getD j true||y3w md ops i 40 j)&&z3p md ops H g m r (listed.setIfInBounds i true)
 |(_+2,i)::r,listed=>(!H i)&&((Region.ready md ops listed).contains i&&Region.free md ops listed i)&&z3p md ops H g m r (listed.setIfInBounds i true)
def z1e(P:Program)(ops:Array Oper)(Q:Exit->Act->World->Prop)(S:World->Prop)(rest:List Oper):List (Nat×Nat)->Act->World->Prop
 |[],a,w=>wpList P ops Q rest a w
 |(0,i)::r,a,w=>∃o,ops[i]?=some o/\wpList P ops (y1l S Q (z1e P ops Q S rest r)) [o] a w
 |(1,i)::r,a,w=>∃o v,ops[i]?=some o/\YieldsIf P ops S o v a/\z1e P ops Q S rest r (a.put o.dst v) w
 |(_+2,i)::r,a,w=>∃o v,ops[i]?=some o/\YieldsIf P ops (fun _=>True) o v a/\z1e P ops Q S rest r (a.put o.dst v) w
theorem z7l{rest:List Oper}{i:Nat}{r:List (Nat×Nat)}{a:Act}{w:World}{o:Oper}(v:Value)(ho:ops[i]?=some o)(hw:Region.wanted o (yielded ops a.tmps)=true)(hy:∀w,S w->(execOp a.eval o).run P w=.ok (.value v) w)(h:z1e P ops Q S rest r (a.put o.dst v) w):z1e P ops Q S rest ((1,i)::r) a w :=
 ⟨o,v,ho,.inl ⟨hw,hy⟩,h⟩
theorem tkH{rest:List Oper}{i:Nat}{r:List (Nat×Nat)}{a:Act}{w:World}{o:Oper}{b:Act}(v:Value)(hy:∀w,S w->(execOp a.eval o).run P w=.ok (.value v) w)(h:z1e P ops Q S rest r b w)(ho:ops[i]?=some o:=by rfl)(hw:Region.wanted o (yielded ops a.tmps)=true:=by rfl)(hb:a.put o.dst v=b:=by conv=>lhs;simp only[Act.put,zA,zB,zC,zD,zE,zF]):z1e P ops Q S rest ((1,i)::r) a w:=by subst hb;exact z7l v ho hw hy h
theorem tkG{rest:List Oper}{i:Nat}{r:List (Nat×Nat)}{a:Act}{w:World}{o:Oper}{b:Act}(v:Value)(h:z1e P ops Q S rest r b w)(ho:ops[i]?=some o:=by rfl)(hw:Region.wanted o (yielded ops a.tmps)=true:=by rfl)(hy:∀w,S w->(execOp a.eval o).run P w=.ok (.value v) w:=by intro _ _;go_simp)(hb:a.put o.dst v=b:=by conv=>lhs;simp only[Act.put,zA,zB,zC,zD,zE,zF]):z1e P ops Q S rest ((1,i)::r) a w:=by subst hb;exact z7l v ho hw hy h
theorem z1t{rest i r a w o} v (ho:ops[i]?=some o) (hw:Region.wanted o (yielded ops a.tmps)=true) (hy:∀w,True->(execOp a.eval o).run P w=.ok (.value v) w) (h:z1e P ops Q S rest r (a.put o.dst v) w):z1e P ops Q S rest ((2,i)::r) a w :=
 ⟨o,v,ho,.inl ⟨hw,hy⟩,h⟩
theorem z0c{rest i r a w o}(ho:ops[i]?=some o)(h:wpList P ops (y1l S Q (z1e P ops Q S rest r)) [o] a w):z1e P ops Q S rest ((0,i)::r) a w:=⟨o,ho,h⟩
theorem z3w{rest m}(hsel:Region.noSelect ops=true)(hm:∀i,m<=i->H i=false)
  (hQ:∀c a a' w,Q (.panic c) a w->Q (.panic c) a' w) (hrest:∀j,rest[j]?=ops[m+j]?) :
  ∀(sc:List (Nat×Nat))(listed:Array Bool)(a:Act)(w:World),Clos md ops listed->z3p md ops H rest.length m sc listed=true->S w->z1e P ops Q S rest sc a w ->
   z3d P md ops Q S H (sc.length+rest.length) listed a w
 |[],listed,a,w,_,hB,_,h=>by
  rw[List.length_nil,Nat.zero_add];exact z8z rest m listed a w hm hrest hB h
 |(0,i)::r,listed,a,w,inv,hB,hS,h=>by
  simp only[z3p,Bool.and_eq_true,decide_eq_true_eq]at hB;obtain⟨⟨hr,hHi⟩,hB'⟩:=hB;obtain⟨o,ho,hK⟩:=h;have Ga:i∈Region.ready md ops listed:=by rw[hr];exact List.mem_singleton.2 rfl
  rw[List.length_cons,show r.length+1+rest.length=(r.length+rest.length)+1 by omega];refine⟨fun h1=>(by rw[hr]at h1;cases h1),fun j hj=>?_⟩;rw[hr]at hj;have Gc:j=i:=by simpa using hj
  subst Gc;have hw:wpOp P ops (y1l S Q (z1e P ops Q S rest r)) j (fun a' w'=>S w'/\z1e P ops Q S rest r a' w') a w:=by
   unfold wpOp;simp only[ho];exact hK
  have Gd:wpOp P ops Q j (fun a' w'=>S w'/\z1e P ops Q S rest r a' w') a w:=by
   unfold wpOp at hw⊢;simp only[ho]at hw⊢;exact hw
  exact wpOp_mono (fun a' w' h'=>⟨fun _=>h'.1,z3w hsel hm hQ hrest r _ a' w' (inv.set Ga) hB' h'.1 h'.2⟩) Gd
 |(1,i)::r,listed,a,w,inv,hB,hS,h=>by
  simp only[z3p,Bool.and_eq_true]at hB;obtain⟨⟨⟨hr,hf⟩,hH⟩,hB'⟩:=hB;have Ga:i∈Region.ready md ops listed:=by simpa using hr
  obtain⟨o,v,ho,hy,hK⟩:=h;have Gb:∀j,j<ops.size->H j=false->listed.getD j true=true\/y3w md ops i 40 j=true:=fun j hj hb=>by
   have h1:=List.all_eq_true.1 hH j (List.mem_range.2 hj);simp only[hb,Bool.false_or,Bool.or_eq_true]at h1;exact h1
  rw[List.length_cons,show r.length+1+rest.length=(r.length+rest.length)+1 by omega];exact z6m ho (Region.noSelect_spec hsel) (fun c a' w'=>hQ c _ _ w') (r.length+rest.length) listed a w inv Gb (Region.free_spec ho hf) Ga hy hS
   (z3w hsel hm hQ hrest r _ _ _ (inv.set Ga) hB' hS hK)
 |(n+2,i)::r,listed,a,w,inv,hB,hS,h=>by
  simp only[z3p,Bool.and_eq_true,Bool.not_eq_true']at hB;obtain⟨⟨hHi,hr,hf⟩,hB'⟩:=hB;have Ga:i∈Region.ready md ops listed:=by simpa using hr
  obtain⟨o,v,ho,hy,hK⟩:=h;rw[List.length_cons,show r.length+1+rest.length=(r.length+rest.length)+1 by omega];exact x3u ho (Region.noSelect_spec hsel) (fun c a' w'=>hQ c _ _ w') hHi (r.length+rest.length) listed a w (Region.free_spec ho hf) Ga hy
   (z3w hsel hm hQ hrest r _ _ _ (inv.set Ga) hB' hS hK)
end
def hB(m:Nat)(pu:List Nat)(i:Nat):Bool:=decide (i<m)&&!pu.contains i
def w2z(l:List Oper)(m:Nat)(pu:List Nat)(sc:List (Nat×Nat)):Bool :=
 Region.noSelect l.toArray&&decide (m<=l.toArray.size)&&decide (sc.length=m)&&z3p .any l.toArray (hB m pu) (l.toArray.size-m) m sc (Array.replicate l.toArray.size false)
theorem z0e{P Q id a w l}(S:World->Prop) m pu sc (hm:P.follows .mixedOrders=true) (hB1:w2z l m pu sc=true)
  (hS:S w.drew) (h:z1e P l.toArray (NoPanic Q) S (l.drop m) sc a w.drew):(Code.region id l.toArray true).wp P Q a w:=by
 refine wp_region_noPanic ?_;simp only[w2z,Bool.and_eq_true,decide_eq_true_eq]at hB1;obtain⟨⟨⟨Ga,hn⟩,hsc⟩,hok⟩:=hB1;have Gc:(l.drop m).length=l.toArray.size-m:=by simp
 have Gb:Clos .any l.toArray (Array.replicate l.toArray.size false):=⟨fun j oj _ hl=>(by rw[getD_replicate_false]at hl;cases hl)⟩
 refine wp_region_any hm (z9y (S:=S) (H:=hB m pu) _ _ _ _ ?_);have:=z3w (P:=P) (Q:=NoPanic Q) (md := .any) (S:=S) (H:=hB m pu) (m:=m) (rest:=l.drop m) Ga (fun i hi=>by simp[hB];omega) (fun _ _ _ _ h=>h) (fun j=>by rw[List.getElem?_drop];simp) sc _ a _ Gb (by rw[Gc];exact hok) hS h;rw[Gc,hsc,show m+(l.toArray.size-m)=l.toArray.size by omega]at this;exact this
end
section
open Go.RowKit
structure DA where
 d:Nat
 pb:Nat
 cb:Nat
 lb:Nat
 nt:Nat->Nat
 th:Nat->Nat
 cc:Nat
 dirty:Nat->Prop
structure LS where
 dn:Nat->Nat
 m:Nat->Nat
 h:Nat->Value
 xs:Nat->List Value
 pw:Nat->Nat
 ws:Nat->List (Nat×Nat)
def z0a(ws:List (Nat×Nat)):List Value:=ws.flatMap fun p=>[p.1,p.2]
theorem z1a ws:(z0a ws).length=ws.length*2:=by
 induction ws with
 |nil=>rfl
 |cons p ws ih=>simp only[z0a,List.flatMap_cons,List.length_append,List.length_cons,List.length_nil]at*;omega
theorem z2v:∀(ws:List (Nat×Nat))(k:Nat)(hk:k<ws.length),(z0a ws)[k*2]?=some (.int .u64 ((ws[k]).1:Int))/\(z0a ws)[k*2+1]?=some (.int .u64 ((ws[k]).2:Int))
 |p::ws,0,_=>by simp[z0a]
 |p::ws,k+1,h=>by
  have ih:=z2v ws k (by simpa using h);simp only[z0a,List.flatMap_cons]at*;rw[List.getElem?_append_right (by simp;omega),List.getElem?_append_right (by simp;omega)];simp only[List.length_cons,List.length_nil,show(k+1)*2-(0+1+1)=k*2 by omega,show(k+1)*2+1-(0+1+1)=k*2+1 by omega];simpa using ih
def upd(cur:Nat->Nat)(i v:Nat):Nat->Nat:=fun k=>if k=i then v else cur k
def wrS(cur:Nat->Nat)(ws:List (Nat×Nat)):Nat->Nat:=ws.foldl (fun c e=>upd c (e.1/8) e.2) cur
theorem x5u(f:Nat->Nat) l (e:Nat×Nat):wrS f (l++[e])=upd (wrS f l) (e.1/8) e.2:=by simp[wrS]
theorem x0s:∀(l:List (Nat×Nat))(f g:Nat->Nat)(k:Nat),f k=g k->wrS f l k=wrS g l k
 |[],_,_,_,h=>h
 |e::l,f,g,k,h=>x0s l (upd f (e.1/8) e.2) (upd g (e.1/8) e.2) k (by unfold upd;rw[h])
theorem x5t:∀(l:List (Nat×Nat))(f:Nat->Nat)(k:Nat),(∀e∈l,e.1/8≠k)->wrS f l k=f k
 |[],_,_,_=>rfl
 |e::l,f,k,h=>(x5t l (upd f (e.1/8) e.2) k (fun e he=>h e (List.mem_cons_of_mem _ he))).trans (by unfold upd;rw[if_neg (fun e2=>h e (List.mem_cons_self ..) e2.symm)])
def y7o(L m:Nat)(xs:List Value):Prop:=∀k,k<m->∃o v:Nat,xs[k*2]?=some (.int .u64 o)/\xs[k*2+1]?=some (.int .u64 v)/\o<64*L
def y0t(a:DA)(L:Nat)(exe:Int):Array Value :=
 #[(a.pb,0,8*L,8*L),(a.cb,0,8*L,a.cc),(a.lb,0,L,L),
  (a.th 0,0),(a.th 1,0),(a.th 2,0),(a.th 3,0),(a.th 4,0),(a.th 5,0),(a.th 6,0),(a.th 7,0),
  false,false,(),exe]
structure DevC(a:DA)(L T:Nat)(w:World)(S:Fp)(cur:Nat->Nat)(s:LS)(exe:Int)(per cs ls:Array Value):Prop where
 dev:Blk w a.d 111 (y0t a L exe)
 perB:Blk w a.pb 32 per
 perS:per.size=8*L
 perI:∀i,i<8*L->∃v:Int,per[i]?=some (.int .u64 v)
 curB:Blk w a.cb 32 cs
 curS:cs.size=a.cc
 curL:8*L<=a.cc
 curM:a.cc<=9223372036854775807
 curI:∀i,i<8*L->cs[i]?=some (.int .u64 (cur i:Int))
 linB:Blk w a.lb 243 ls
 linS:ls.size=2*L
 linD:∀i,i<L->ls[i*2]?=some (.int .u64 (s.dn i:Int))
 linH:∀i,i<L->ls[i*2+1]?=some (s.h i)
 own:∀i,i<L->w.ownsRow 0 117 2 (s.h i) (s.m i) (s.xs i)
 ok:∀i,i<L->y7o L (s.m i) (s.xs i)
 few:∀i,i<L->s.dn i+s.m i<=T
 apart:∀i j g,i<L->j<L->(s.h i).ownBlock=some g->(s.h j).ownBlock=some g->i=j
 thr:∀j,j<8->Blk w (a.th j) 217 #[(a.d,0),[j],(),.map (some (a.nt j))]
 sd:S a.d
 sp:S a.pb
 sc:S a.cb
 sl:S a.lb
 sn:S (a.nt 0)
 st:∀j,j<8->S (a.th j)
 sh:∀i g,i<L->(s.h i).ownBlock=some g->S g
 lt:∀k,S k->k<w
 ne:a.pb≠a.cb
 hL:L<=4096
 hT:T<=1000000000
 pv:∀i,i<8*L->per[i]?=some (.int .u64 (s.pw i:Int))
 hx:∀i,i<L->s.xs i=z0a (s.ws i)
 lin:∀i,i<L->∀e∈s.ws i,e.1/64=i
 link:∀k,k<8*L->wrS s.pw (s.ws (k/8)) k=cur k
section
variable{a:DA}{L T:Nat}{w w':World}{S Z:Fp}{cur:Nat->Nat}{s:LS}{exe:Int}{per cs ls:Array Value}
theorem DevC.chg(h:DevC a L T w S cur s exe per cs ls)(hc:Chg Z w w')(hd:∀k,S k->¬Z k):DevC a L T w' S cur s exe per cs ls :=
 {h with
  dev:=hc.blk h.dev (hd _ h.sd)
  perB:=hc.blk h.perB (hd _ h.sp)
  curB:=hc.blk h.curB (hd _ h.sc)
  linB:=hc.blk h.linB (hd _ h.sl)
  own:=fun i hi=>hc.own (h.own i hi) (fun g hg=>hd _ (h.sh i g hi hg))
  thr:=fun j hj=>hc.blk (h.thr j hj) (hd _ (h.st j hj))
  lt:=fun k hk=>Nat.lt_of_lt_of_le (h.lt k hk) hc.size }
theorem DevC.facts(h:DevC a L T w S cur s exe per cs ls){j}(hj:j<8):
  w.cell? (a.th j,0)=some (a.d,0)/\w.cell? (a.d,2)=some ↑(a.lb,0,L,L)/\w.cell? (a.d,11)=some ↑false/\w.cell? (a.d,1)=some ↑(a.cb,0,8*L,a.cc)/\w.cell? (a.th j,2)=some ↑() :=
 ⟨(h.thr j hj).cell 0,h.dev.cell 2,h.dev.cell 11,h.dev.cell 1,(h.thr j hj).cell 2⟩
end
theorem w1r(L c d th lb cb:Nat)(v:Int)(off:Nat)(w:World)(h8:((off:Int)%8==0)=true)(hlt:off<64*L)(hL:L<=4096)
  (f0:w.cell? (th,())=some (d,())) (f2:w.cell? ⟨d,2,none⟩=some (.slice (some (lb,())) L L)) (f11:w.cell? ⟨d,11,none⟩=some ↑false) (f1:w.cell? ⟨d,1,none⟩=some (.slice (some (cb,())) (8*L) c))
  (fc:w.cell? (cb,off/8)=some ↑v) :
  () 39 #[(th,()),off] w fun e w'=>e=.returned v/\w=w':=by
 have e1:decide ((off:Int)<(L:Int)*64)=true:=dT;have e5:decide (off<L*64)=true:=dT;have e2:(off:Int)/8<8*(L:Int):=oM;have e3:(0:Int)<=(off:Int)/8:=oM;have e4:((off:Int)/8).toNat=off/8:=oM;go_enter Tryz.func39,Tryz.ntmps39
 go_wp2;go_ret;exact⟨rfl,rfl⟩
theorem x5f{a L T w S cur s exe per cs ls}(h:DevC a L T w S cur s exe per cs ls){j}(hj:j<8)(off:Nat)(h8:off%8=0)(hlt:off<64*L):
  () 39 #[(a.th j,()),off] w fun e w'=>e=.returned (cur (off/8))/\w=w':=by
 obtain⟨f0,f2,Ga,f1,_⟩:=h.facts hj;refine w1r L a.cc a.d (a.th j) a.lb a.cb _ off w (by rw[beq_iff_eq];omega) hlt h.hL f0 f2 Ga f1 ?_;rw[h.curB.cell];exact h.curI _ oM
def x0t(a:DA)(L:Nat)(w:World)(s:LS)(N:Nat->Prop)(F:Nat):Prop :=
 ∃l:List (Lit×DataW Unit),w.ownsMap Tryz.prog 3 (plainElem Tryz.prog 32) (a.nt 0) F (.map l)/\(∀p∈l,∃i:Nat,i<L/\p=(.int .i64 i,.lit (.int .u64 ((s.dn i+s.m i:Nat):Int))))/\∀i:Nat,N i->i<L->∃p∈l,p.1=.int .i64 i
def y0a(L:Nat)(s:LS)(D:Nat->Prop):Prop:=∀k,k<8*L->¬D k->∀e∈s.ws (k/8),e.1/8≠k
def DevM(a:DA)(L T:Nat)(w:World)(S:Fp)(cur:Nat->Nat)(D N:Nat->Prop)(F:Nat):Prop:=∃s exe per cs ls,DevC a L T w S cur s exe per cs ls/\x0t a L w s N F/\y0a L s D
def Dev(a:DA)(L T:Nat)(w:World)(S:Fp)(cur:Nat->Nat)(F:Nat):Prop:=DevM a L T w S cur a.dirty (fun _=>False) F
theorem y0a.mono{L s D D'}(h:y0a L s D)(hs:∀k,D k->D' k):y0a L s D':=fun k hk hn=>h k hk (fun hd=>hn (hs k hd))
theorem x0t.mono{a:DA}{L:Nat}{w:World}{s:LS}{N N':Nat->Prop}{F:Nat}(h:x0t a L w s N F)(hs:∀i,N' i->N i):x0t a L w s N' F:=by
 obtain⟨l,h1,h2,h3⟩:=h;exact⟨l,h1,h2,fun i hi=>h3 i (hs i hi)⟩
theorem DevM.mono{a L T w S cur D D' N N' F}(h:DevM a L T w S cur D N F)(hD:∀k,D k->D' k)(hN:∀i,N' i->N i):DevM a L T w S cur D' N' F:=by
 obtain⟨s,Ga,Gb,cs,ls,h1,h2,h3⟩:=h;exact⟨s,Ga,Gb,cs,ls,h1,h2.mono hN,h3.mono hD⟩
def z5e(a:DA)(L T:Nat)(w:World)(S:Fp)(cur:Nat->Nat)(D N:Nat->Prop)(F:Nat)(v:Value)(e:Ending)(w':World):Prop :=
 e=.returned v/\∃S',DevM a L T w' S' cur D N F/\Chg S w w'/\Grew S S' w
def z0x(a:DA)(L T:Nat)(w:World)(S:Fp)(cur:Nat->Nat)(F:Nat)(v:Value)(e:Ending)(w':World):Prop :=
 e=.returned v/\∃S',Dev a L T w' S' cur F/\Chg S w w'/\Grew S S' w
end
section
open Go.RowKit
theorem z1l:(Tryz.prog.info? 117).map (fun i=>(i.zero,i.size,i.bytes))=some (some (.agg #[[()],[()]]),2,16):=by kernel_rfl
section
variable{P:Program}(w:World)
theorem x3v{ops rest o a Q} s x t
  (hw:Region.wanted o (yielded ops a.tmps)=true)
  (ho:o.op=.call { callee := .builtin .append,args:=#[s,x],argTypes:=#[t,t] })
  base e i z size bytes (ht:P.underlying t=some (.slice e)) (hi:P.info? e=some i) (hz:i.zero=some z)
  (hsize:i.size=size) (hby:i.bytes=bytes) (hzs:z.cells.size=size) (hsz:0<size)
  v n (xs:List Value) (hs:a.eval s=v) (hown:w.ownsRow base e size v n xs)
  B A m c (news:List Value) (hx:a.eval x=.slice A m c) (hr:z0d w B size A m news) (h1:∀u∈news,u.oneCell'=true)
  (h63:n+m<=maxLen) (hbytes:(n+m)*bytes<=140737488355328) (hbase:base<=w)
  (h:∀A' n' c' w',n'=n+m->w'.ownsRow base e size (.slice A' n' c') n' (xs++news)->w.grownBy w' v.ownBlock->((Value.slice A' n' c').ownBlock=v.ownBlock\/(Value.slice A' n' c').ownBlock=some w.heap.size)->wpList P ops Q rest (a.put o.dst (.slice A' n' c')) w'):wpList P ops Q (o::rest) a w:=by
 refine Go.BigFrame.wpList_want hw fun K hK=>?_
 refine z3x w s x t ho base e i z size bytes ht hi hz hsize hby hzs hsz v n xs hs hown B A m c news hx hr h1 h63 hbytes hbase fun v' w' h2 h3 h4=>?_
 obtain⟨A',c',rfl⟩:=z4f h2;exact hK _ _ (h A' _ c' w' rfl h2 h3 h4)
end
theorem z0j(w:World)(g:Nat)(h:w.heap.size=g)(l:List Value)(k size:Nat)(e:TypeId)(o:Obj)(ho:o=.cells l.toArray e)(hl:l.length=k*size):z0d (w.alloc o) (g+1) size (some (g,())) k l:=by
 subst h;exact z6y w l k size e o ho hl
theorem z2k x y:∀u∈[Value.int .u64 x,Value.int .u64 y],u.oneCell'=true:=by
 intro u hu;simp only[List.mem_cons,List.not_mem_nil,or_false]at hu;rcases hu with rfl|rfl<;>rfl
def v2p(w:World)(d lb cb i j:Nat)(exe off v:Int)(hv:Value)(m:Nat)(xs:List Value)(w':World):Prop :=
 ∃A' m' c' W,m'=m+1/\W.ownsRow 0 117 2 (.slice A' m' c') m' (xs++[.int .u64 off,.int .u64 v]) /\
  ((w.setCell (d,14) (IntKind.u64.wrap (exe+1))).alloc (.cells #[off,v] 117)).grownBy W hv.ownBlock /\
  ((Value.slice A' m' c').ownBlock=hv.ownBlock\/(Value.slice A' m' c').ownBlock=some (w.heap.size+1)) /\
  w'=(W.setCell (lb,i*2+1) (.slice A' m' c')).setCell (cb,j) v
def w3y(w:World)(d lb cb i j:Nat)(exe off v:Int)(hv:Value)(m:Nat)(xs:List Value)(e:Ending)(w':World):Prop :=
 e=.returned (.tuple #[])/\v2p w d lb cb i j exe off v hv m xs w'
theorem x8r(L cc d th lb cb:Nat)(exe:Int)(off v:Nat)(hA:Option Addr)(m hc:Nat)(xs:List Value)(old:Value)(w:World)(h8:((off:Int)%8==0)=true)(hlt:off<64*L)(hL:L<=4096)(hm:m<=1000000000)
  (f0:w.cell? (th,())=some (d,())) (f2:w.cell? ⟨d,2,none⟩=some (.slice (some (lb,())) L L)) (f11:w.cell? ⟨d,11,none⟩=some ↑false) (f12:w.cell? ⟨d,12,none⟩=some ↑false) (f14:w.cell? ⟨d,14,none⟩=some ↑exe) (z14:w.frozen? ⟨d,14,none⟩=false)
  (f1:w.cell? ⟨d,1,none⟩=some (.slice (some (cb,())) (8*L) cc))
  (fl:w.cell? (lb,off/64*2+1)=some (.slice hA m hc)) (zl:w.frozen? (lb,off/64*2+1)=false) (own:w.ownsRow 0 117 2 (.slice hA m hc) m xs)
  (fc:w.cell? (cb,off/8)=some old) (zc:w.frozen? (cb,off/8)=false)
  (n1:d≠th) (n2:d≠lb) (n3:d≠cb) (n4:th≠lb) (n5:th≠cb) (n6:lb≠cb) (o1:(Value.slice hA m hc).ownBlock≠some d) (o2:(Value.slice hA m hc).ownBlock≠some th) (o3:(Value.slice hA m hc).ownBlock≠some lb) (o4:(Value.slice hA m hc).ownBlock≠some cb) :
  () 44 #[(th,()),off,v] w (w3y w d lb cb (off/64) (off/8) exe off v (.slice hA m hc) m xs):=by
 have e1:decide ((off:Int)<(L:Int)*64)=true:=dT;have e5:decide (off<L*64)=true:=dT;have e2:(off:Int)/8<8*(L:Int):=oM;have e3:(0:Int)<=(off:Int)/8:=oM;have e4:((off:Int)/8).toNat=off/8:=oM;have e6:(off:Int)/64<(L:Int):=oM;have e7:(0:Int)<=(off:Int)/64:=oM;have e8:((off:Int)/64).toNat=off/64:=oM;have m1:=n1.symm;have m2:=n2.symm;have m3:=n3.symm;have m4:=n4.symm;have m5:=n5.symm;have m6:=n6.symm;obtain⟨i0,Ge,Gf,Gg,Gh⟩:=info_parts z1l;have bd:=World.block_lt_of_cell? _ _ f1;have bt:=World.block_lt_of_cell? _ _ f0;have bl:=World.block_lt_of_cell? _ _ fl;have bc:=World.block_lt_of_cell? _ _ fc;simp only at bd bt bl bc;have HO:Hid (∀o,((w.setCell ⟨d,14,none⟩ (IntKind.u64.wrap (exe+1))).alloc o).ownsRow 0 117 2 (.slice hA m hc) m xs):=fun o =>
  (ownsRow_setCell_other own (a:=⟨d,14,none⟩) o1 _).alloc o
 have HK:Hid (∀o W,((w.setCell ⟨d,14,none⟩ (IntKind.u64.wrap (exe+1))).alloc o).grownBy W (Value.slice hA m hc).ownBlock ->
   W.cell? (th,())=some (d,())/\W.cell? ⟨d,1,none⟩=some (.slice (some (cb,())) (8*L) cc)/\W.cell? (lb,off/64*2+1)=some (.slice hA m hc)/\W.frozen? (lb,off/64*2+1)=false/\W.cell? (cb,off/8)=some old/\W.frozen? (cb,off/8)=false):=fun o W hg=>by
  have Gk:((w.setCell ⟨d,14,none⟩ (IntKind.u64.wrap (exe+1))).alloc o).heap.size=w.heap.size+1:=by simp
  have kt:=hg.block th oM (fun e=>o2 e.symm);have kd:=hg.block d oM (fun e=>o1 e.symm);have kl:=hg.block lb oM (fun e=>o3 e.symm);have kc:=hg.block cb oM (fun e=>o4 e.symm);have qt:W.heap[th]?=w.heap[th]?:=kt.trans ((Below.heap_alloc _ o th (by simpa using bt)).trans (Below.heap_setCell w ⟨d,14,none⟩ _ th m1));have ql:W.heap[lb]?=w.heap[lb]?:=kl.trans ((Below.heap_alloc _ o lb (by simpa using bl)).trans (Below.heap_setCell w ⟨d,14,none⟩ _ lb m2));have qc:W.heap[cb]?=w.heap[cb]?:=kc.trans ((Below.heap_alloc _ o cb (by simpa using bc)).trans (Below.heap_setCell w ⟨d,14,none⟩ _ cb m3));refine⟨(World.cell?_of_block (w:=w) qt).trans f0,?_,(World.cell?_of_block (w:=w) ql).trans fl,(World.frozen?_of_block (w:=w) ql).trans zl,(World.cell?_of_block (w:=w) qc).trans fc,(World.frozen?_of_block (w:=w) qc).trans zc⟩;rw[World.cell?_of_block (a:=⟨d,1,none⟩) kd,World.cell?_alloc_lt _ _ _ (by simpa using bd),World.cell?_setCell_other _ _ _ _ (by simp)];exact f1
 clear own;go_enter Tryz.func44,Tryz.ntmps44
 go_wp2_with (first
  |(at_builtin;refine x3v _ (.tmp 21) (.tmp 25) 118 rfl rfl 0 117 i0 _ 2 16 Tryz.underlying118 Ge Gf Gg Gh rfl ?q1 (.slice hA m hc) m xs rfl ?q0 (w.heap.size+1) (some (w,())) 1 1 [off,v] rfl ?q5 (z2k _ _) ?q2 ?q3 ?q4 ?_;(case q1=>omega);(case q0=>exact HO.out _);(case q5=>exact z0j _ _ (by simp) _ 1 2 117 _ rfl rfl);(case q2=>(unfold maxLen;omega));(case q3=>omega);(case q4=>(simp));intro A3 n3' c3 w8 hn3 ho3 hg3 hl3;obtain⟨g0,g1,gl,Gj,gc,Gi⟩:=HK.out _ _ hg3;have Gc:=hid hn3;have Gd:=hid ho3;have Ga:=hid hg3;have Gb:=hid hl3;clear hn3 ho3 hg3 hl3)
  |go_in)
 go_end0;go_wp2;go_end0;exact⟨rfl,A3,n3',c3,w8,Gc.out,Gd.out,Ga.out,by simpa using Gb.out,rfl⟩
end
section
open Go.RowKit Go.Maps
def z5x:Lit->Nat
 | .int _ a=>a.toNat
 |_=>0
def z2w{H:Type}:DataW H->List Nat
 | .map es=>es.map fun p=>z5x p.1
 |_=>[]
abbrev kU(x:Nat):Lit := .int .u64 x
theorem z1h{P}{k:TypeId}(hk:P.underlying k=some (.int .u64)){key kl}(h:keyOf P k key=some kl):∃x:Nat,key=↑x/\kl=kU x/\x<18446744073709551616:=by
 cases key<;>simp[keyOf,hk,mapKey]at h
 rename_i q a
 obtain⟨⟨rfl,hw⟩,rfl⟩:=h;have hb:0<=a/\a<18446744073709551616:=by
  have hm:IntKind.u64.min=0:=by decide
  have hx:IntKind.u64.max=18446744073709551615:=by decide
  simp only[Lit.wf,hm,hx,Bool.and_eq_true,decide_eq_true_eq]at hw;omega
 exact⟨a.toNat,by rw[Int.toNat_of_nonneg hb.1],by unfold kU;rw[Int.toNat_of_nonneg hb.1],oM⟩
theorem v3e{x y}(h:kU x=kU y):x=y:=by
 have:(x:Int)=(y:Int):=by simpa[kU] using h
 omega
theorem x8d{H:Type}{es:List (Lit×DataW H)}(hp:es.Pairwise (fun p q=>p.1≠q.1))(hk:∀p∈es,∃x,p.1=kU x){ss:List Nat}(hnd:ss.Nodup)(hm:∀x,x∈ss↔has (.map es) (kU x)=true):
  ss.Perm (z2w (.map es)):=by
 refine(List.perm_ext_iff_of_nodup hnd ?_).2 fun x=>?_
 ·show(es.map fun p=>z5x p.1).Nodup
  refine List.pairwise_map.2 (hp.imp_of_mem fun {p q} Ga hq' hne e=>hne ?_);obtain⟨a,ha⟩:=hk p Ga;obtain⟨b,hb⟩:=hk q hq';rw[ha,hb]at e⊢;have:a=b:=by simpa[z5x,kU] using e
  rw[this]
 ·rw[hm x,has_eq,List.any_eq_true]
  show _↔x∈es.map fun p=>z5x p.1
  rw[List.mem_map];constructor
  ·rintro⟨p,Ga,hs⟩
   obtain⟨a,ha⟩:=hk p Ga;rw[ha]at hs;refine⟨p,Ga,?_⟩;rw[ha];have:(a:Int)=(x:Int):=by simpa[Lit.sameKey,kU] using hs
   simp[z5x];omega
  ·rintro⟨p,Ga,rfl⟩
   obtain⟨a,ha⟩:=hk p Ga;exact⟨p,Ga,by rw[ha];simp[Lit.sameKey,z5x]⟩
def z7m{H:Type}(D0:DataW H)(left:Lit->Bool)(ss:List Nat):Prop:=ss.Nodup/\∀x,x∈ss↔(has D0 (kU x)=true/\left (kU x)=false)
section
variable{H:Type}{D0:DataW H}{left:Lit->Bool}{ss:List Nat}
theorem z7m.start(D0:DataW H):z7m D0 (has D0) []:=⟨List.nodup_nil,fun x=>by cases has D0 (kU x)<;>simp⟩
theorem z7m.step(h:z7m D0 left ss){x:Nat}{y:DataW H}(hlk:left (kU x)=true)(hat:∀zd,D0.atKey (kU x) zd=y):z7m D0 (fun z=>left z&&!z.sameKey (kU x)) (ss++[x]):=by
 have Ga:has D0 (kU x)=true:=has_true_of_atKey hat;have Gb:x∉ss:=fun hx=>by have:=((h.2 x).1 hx).2;rw[hlk]at this;cases this
 refine⟨List.nodup_append.2 ⟨h.1,by simp,fun a ha b hb=>by simp at hb;subst hb;exact fun e=>Gb (e▸ha)⟩,fun y=>?_⟩;by_cases hy:y=x
 ·subst hy;simp[Ga,Lit.sameKey]
 ·have:¬((y:Int)=(x:Int)):=oM
  have h2:(kU y).sameKey (kU x)=false:=by simp[Lit.sameKey];omega
  simp[h.2 y,hy,h2]
variable{P:Program}{k:TypeId}{R:Value->Option (DataW H×List MemPlace)}{w:World}{b n:Nat}
theorem z7m.perm(h:z7m D0 left ss)(hown:w.ownsMap P k R b n D0)(K:Keyed P k)(hk:P.underlying k=some (.int .u64))(hl:∀kl,left kl=false):ss.Perm (z2w D0):=by
 obtain⟨es,hD,Gd,_⟩:=hown.entries K;have Gc:∀p∈es,KeysOf P k p.1:=by
  obtain⟨Ge,Ga,_,F,_,Gb⟩:=hown;rw[Gb]at hD;injection hD with hD
  subst hD;exact fun p hp=>fit_keys F p (mem_sorted.1 hp)
 subst hD;exact x8d Gd (fun p hp=>by obtain⟨v,hv⟩:=Gc p hp;obtain⟨x,_,hx,_⟩:=z1h hk hv;exact⟨x,hx⟩) h.1 (fun x=>by rw[h.2 x,hl];simp)
end
end
section
open Go.RowKit Go.Maps
def stV(a b c d:Nat)(x y:Bool):Value := .agg #[.map (some a),.map (some b),.map (some c),.map (some d),x,y]
def nth:List Oper->Nat->Option Oper
 |[],_=>none
 |a::_,0=>some a
 |_::l,i+1=>nth l i
theorem z9o:∀(l:List Oper)(i:Nat),l.toArray[i]?=nth l i
 |[],i=>by simp[nth]
 |a::l,0=>by simp[nth]
 |a::l,i+1=>by
  have h:=z9o l i;simp only[List.getElem?_toArray]at h⊢;rw[List.getElem?_cons_succ];exact h
section
variable{P:Program}{md:Region.Mode}{ops:Array Oper}{Q:Exit->Act->World->Prop}{S:World->Prop}{H:Nat->Bool}
def z8v(md:Region.Mode)(ops:Array Oper)(H:Nat->Bool):List Nat->Array Bool->Bool
 |[],_=>true
 |i::r,listed=>((Region.ready md ops listed).contains i&&Region.free md ops listed i)&&((List.range ops.size).all fun j=>H j||listed.getD j true||y3w md ops i 40 j)&&z8v md ops H r (listed.setIfInBounds i true)
def finA(listed:Array Bool)(sc:List Nat):Array Bool:=sc.foldl (fun l i=>l.setIfInBounds i true) listed
def z6n(P:Program)(md:Region.Mode)(ops:Array Oper)(Q:Exit->Act->World->Prop)(S:World->Prop)(H:Nat->Bool)(k:Nat)(fin:Array Bool):List Nat->Act->World->Prop
 |[],a,w=>z3d P md ops Q S H k fin a w
 |i::r,a,w=>∃o v,ops[i]?=some o/\YieldsIf P ops S o v a/\z6n P md ops Q S H k fin r (a.put o.dst v) w
theorem z1b{l}(hl:ops=l.toArray){k i r fin a w o} v (ho:nth l i=some o) (hw:Region.wanted o (yielded ops a.tmps)=true) (hy:∀w,S w->(execOp a.eval o).run P w=.ok (.value v) w) (h:z6n P md ops Q S H k fin r (a.put o.dst v) w):z6n P md ops Q S H k fin (i::r) a w :=
 ⟨o,v,by rw[hl,z9o];exact ho,.inl ⟨hw,hy⟩,h⟩
theorem z7k{k}(hsel:Region.noSelect ops=true)(hQ:∀c a a' w,Q (.panic c) a w->Q (.panic c) a' w):
  ∀(sc:List Nat)(listed:Array Bool)(a:Act)(w:World),Clos md ops listed->z8v md ops H sc listed=true->S w->z6n P md ops Q S H k (finA listed sc) sc a w ->
   z3d P md ops Q S H (sc.length+k) listed a w
 |[],listed,a,w,_,_,_,h=>by
  rw[List.length_nil,Nat.zero_add];exact h
 |i::r,listed,a,w,inv,hB,hS,h=>by
  simp only[z8v,Bool.and_eq_true]at hB;obtain⟨⟨⟨hr,hf⟩,hH⟩,hB'⟩:=hB;have Ga:i∈Region.ready md ops listed:=by simpa using hr
  obtain⟨o,v,ho,hy,hK⟩:=h;have Gb:∀j,j<ops.size->H j=false->listed.getD j true=true\/y3w md ops i 40 j=true:=fun j hj hb=>by
   have h1:=List.all_eq_true.1 hH j (List.mem_range.2 hj);simp only[hb,Bool.false_or,Bool.or_eq_true]at h1;exact h1
  rw[List.length_cons,show r.length+1+k=(r.length+k)+1 by omega];exact z6m ho (Region.noSelect_spec hsel) (fun c a' w'=>hQ c _ _ w') (r.length+k) listed a w inv Gb (Region.free_spec ho hf) Ga hy hS
   (z7k hsel hQ r _ _ _ (inv.set Ga) hB' hS hK)
theorem z9z{i o L a w}(ho:ops[i]?=some o)(h:wpList P ops (y1l S Q L) [o] a w):wpOp P ops Q i (fun a' w'=>S w'/\L a' w') a w:=by
 have hw:wpOp P ops (y1l S Q L) i (fun a' w'=>S w'/\L a' w') a w:=by
  unfold wpOp;simp only[ho];exact h
 unfold wpOp at hw⊢;simp only[ho]at hw⊢;exact hw
theorem z7d{l}(hl:ops=l.toArray){k i j listed a w oi oj}(hr0:Region.ready md l.toArray listed=[i,j])(hi:nth l i=some oi)(hj:nth l j=some oj)
  (h1:wpList P ops (y1l S Q (z3d P md ops Q S H k (listed.setIfInBounds i true))) [oi] a w) (h2:wpList P ops (y1l S Q (z3d P md ops Q S H k (listed.setIfInBounds j true))) [oj] a w):z3d P md ops Q S H (k+1) listed a w:=by
 have hr:=hr0;rw[<- hl]at hr;refine⟨fun h=>(by rw[hr]at h;cases h),fun q hq=>?_⟩;rw[hr]at hq;simp only[List.mem_cons,List.not_mem_nil,or_false]at hq;rcases hq with rfl|rfl
 ·exact wpOp_mono (fun a' w' h'=>⟨fun _=>h'.1,h'.2⟩) (z9z (by rw[hl,z9o];exact hi) h1)
 ·exact wpOp_mono (fun a' w' h'=>⟨fun _=>h'.1,h'.2⟩) (z9z (by rw[hl,z9o];exact hj) h2)
theorem z0z{l}(hl:ops=l.toArray){k i listed a w oi}(hr0:Region.ready md l.toArray listed=[i])(hi:nth l i=some oi)
  (h1:wpList P ops (y1l S Q (z3d P md ops Q S H k (listed.setIfInBounds i true))) [oi] a w):z3d P md ops Q S H (k+1) listed a w:=by
 have hr:=hr0;rw[<- hl]at hr;refine⟨fun h=>(by rw[hr]at h;cases h),fun q hq=>?_⟩;rw[hr]at hq;simp only[List.mem_cons,List.not_mem_nil,or_false]at hq;subst hq;exact wpOp_mono (fun a' w' h'=>⟨fun _=>h'.1,h'.2⟩) (z9z (by rw[hl,z9o];exact hi) h1)
theorem z3y{l:List Oper}(hl:ops=l.toArray){listed:Array Bool}{a:Act}{w:World}(hr:Region.ready md l.toArray listed=[])(h:Q .normal a w):z3d P md ops Q S H 0 listed a w:=⟨by rw[hl];exact hr,h⟩
end
def w2x(l:List Oper)(sc:List Nat):Bool :=
 Region.noSelect l.toArray&&z8v .any l.toArray (fun _=>true) sc (Array.replicate l.toArray.size false)
theorem z5d{P Q id a w l}(S:World->Prop) n k sc (hm:P.follows .mixedOrders=true) (hB1:w2x l sc=true) (hn:l.toArray.size=n) (hk:sc.length+k=n)
  (hS:S w.drew) (h:∀ops:Array Oper,Hid (ops=l.toArray)->z6n P .any ops (NoPanic Q) S (fun _=>true) k (finA (Array.replicate n false) sc) sc a w.drew):(Code.region id l.toArray true).wp P Q a w:=by
 refine wp_region_noPanic ?_;simp only[w2x,Bool.and_eq_true]at hB1;obtain⟨Gb,Gc⟩:=hB1;have Ga:Clos .any l.toArray (Array.replicate l.toArray.size false):=⟨fun j oj _ hl=>(by rw[getD_replicate_false]at hl;cases hl)⟩
 refine wp_region_any hm (z9y (S:=S) (H:=fun _=>true) _ _ _ _ ?_);rw[hn]at Ga Gc⊢;have:=z7k (P:=P) (Q:=NoPanic Q) (md := .any) (S:=S) (H:=fun _=>true) (k:=k) Gb (fun _ _ _ _ h=>h) sc _ a _ Ga Gc hS (h _ (hid rfl));rw[hk]at this;exact this
end
end Go.Proofs.YtmhbokcccjmfgaaGreatDoor
