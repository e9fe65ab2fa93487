/- The walks and laws that the claim leans on, part 2. -/
import Derived.Test.YtfkjjoglnmeciaaGreatDoorJaa
set_option maxRecDepth 100000
set_option maxHeartbeats 16000000
namespace Go.Proofs.YtfkjjoglnmeciaaGreatDoor
open Go.Lib (hid)
section
open Go.RowKit
section
variable {P:Program} {ops:Array Oper} {Q:Exit→Act→World→Prop} {md:Region.Mode} {S:World→Prop} {H:Nat→Bool}
def depsB (md:Region.Mode) (ops:Array Oper) (i:Nat):Nat→Nat→Bool
 | 0,_=>false
 | f+1,j=>match ops[j]? with
  | some oj=>oj.after.any fun e=>Region.binds md e && (e.on == i || depsB md ops i f e.on)
  | none=>false
structure Clos (md:Region.Mode) (ops:Array Oper) (listed:Array Bool):Prop where
 closed:∀ j oj,ops[j]?=some oj→listed.getD j false=true→∀ e∈oj.after,Region.binds md e=true→listed.getD e.on false=true
theorem Clos.set {i:Nat} {listed:Array Bool} (inv:Clos md ops listed) (hi:i∈Region.ready md ops listed):Clos md ops (listed.setIfInBounds i true):=by
 obtain ⟨_,oi,hoi,hall⟩:=mem_ready.1 hi
 refine ⟨fun j oj hj hl e he hb=>?_⟩
 by_cases hij:i=j
 ·subst hij
  have:oj=oi:=Option.some.inj (hj.symm.trans hoi)
  subst this
  exact getD_set_true (hall e he hb)
 ·rw [getD_set_ne false hij] at hl
  exact getD_set_true (inv.closed j oj hj hl e he hb)
theorem Clos.deps {i:Nat} {listed:Array Bool} (inv:Clos md ops listed):∀ (f j:Nat),depsB md ops i f j=true→(∀ oj,ops[j]?=some oj→∀ e∈oj.after,Region.binds md e=true→listed.getD e.on false=true)→listed.getD i false=true
 | 0,_,h,_=>by cases h
 | f+1,j,h,hall=>by
  unfold depsB at h
  split at h
  ·rename_i oj hj
   obtain ⟨e,he,hb⟩:=Array.any_eq_true'.1 h
   simp only [Bool.and_eq_true,Bool.or_eq_true,beq_iff_eq] at hb
   have h1:=hall oj hj e he hb.1
   rcases hb.2 with h2 | h2
   ·rw [← h2];exact h1
   ·exact inv.deps f e.on h2 (fun ok hk e' he' hb'=>inv.closed e.on ok hk h1 e' he' hb')
  ·cases h
theorem Clos.not_ready {i j f:Nat} {listed:Array Bool} (inv:Clos md ops listed) (h:depsB md ops i f j=true) (hun:listed.getD i false=false):j ∉ Region.ready md ops listed:=fun hr=>by
 obtain ⟨_,oj,hoj,hall⟩:=mem_ready.1 hr
 have:=inv.deps f j h (fun ok hk e he hb=>by
  have:ok=oj:=Option.some.inj (hk.symm.trans hoj)
  subst this
  exact hall e he hb)
 rw [hun] at this
 cases this
def wpAnyH (P:Program) (md:Region.Mode) (ops:Array Oper) (Q:Exit→Act→World→Prop) (S:World→Prop) (H:Nat→Bool):Nat→Array Bool→Act→World→Prop
 | 0,listed,a,w=>Region.ready md ops listed=[]∧Q .normal a w
 | fuel+1,listed,a,w =>
  (Region.ready md ops listed=[]→Q .normal a w) ∧
  ∀ i∈Region.ready md ops listed,wpOp P ops Q i (fun a' w'=>(H i=true→S w')∧wpAnyH P md ops Q S H fuel (listed.setIfInBounds i true) a' w') a w
theorem wpAny_of_H:∀ (fuel:Nat) (listed:Array Bool) (a:Act) (w:World),wpAnyH P md ops Q S H fuel listed a w→wpAny P md ops Q fuel listed a w
 | 0,_,_,_,h=>h
 | fuel+1,_,_,_,h=>⟨h.1,fun i hi=>wpOp_mono (fun a' w' h'=>wpAny_of_H fuel _ a' w' h'.2) (h.2 i hi)⟩
theorem wpAnyH_first {i f:Nat} {oi:Oper} {v:Value} (hi:ops[i]?=some oi) (hsel:∀ (j:Nat) (o:Oper) cs b,ops[j]?=some o→o.op ≠ .select cs b)
  (hQ:∀ c a w,Q (.panic c) (a.put oi.dst v) w→Q (.panic c) a w) :
  ∀ (fuel:Nat) (listed:Array Bool) (a:Act) (w:World),Clos md ops listed →
   (∀ j,j < ops.size→H j=false→listed.getD j true=true∨depsB md ops i f j=true) →
   (∀ j oj,ops[j]?=some oj→j≠i→listed.getD j true=false→(∀ e∈oj.after,Region.binds md e=true→e.on≠i)→oi.apart ops oj=true) →
   i∈Region.ready md ops listed→YieldsIf P ops S oi v a→S w →
   wpAnyH P md ops Q S H fuel (listed.setIfInBounds i true) (a.put oi.dst v) w→wpAnyH P md ops Q S H (fuel+1) listed a w:=by
 intro fuel
 induction fuel with
 | zero =>
  intro listed a w _ _ _ hr hy hS HH
  refine ⟨fun h=>(by rw [h] at hr;cases hr),fun j hj=>?_⟩
  by_cases hji:j=i
  ·subst hji;exact hy.wpOp hi hS ⟨fun _=>hS,HH⟩
  ·have:=ready_mono hj hji
   rw [HH.1] at this
   cases this
 | succ fuel ih =>
  intro listed a w inv hH hfree hr hy hS HH
  have hun:=(mem_ready.1 hr).1
  refine ⟨fun h=>(by rw [h] at hr;cases hr),fun j hj=>?_⟩
  by_cases hji:j=i
  ·subst hji;exact hy.wpOp hi hS ⟨fun _=>hS,HH⟩
  ·obtain ⟨hjun,oj,hoj,hall⟩:=mem_ready.1 hj
   have hjl:j < ops.size:=(Array.getElem?_eq_some_iff.1 hoj).1
   have hjH:H j=true:=by
    cases hb:H j with
    | true=>rfl
    | false =>
     rcases hH j hjl hb with h | h
     ·rw [hjun] at h;cases h
     ·exact absurd hj (inv.not_ready h (getD_both hun))
   have h1:=HH.2 j (ready_mono hj hji)
   have hnot:∀ e∈oj.after,Region.binds md e=true→e.on≠i:=fun e he hb heq=>by
    have h1:=hall e he hb
    rw [heq,getD_both hun] at h1
    cases h1
   have h2:=wpOp_putIf hoj (hfree j oj hoj hji hjun hnot) (fun cs b=>hsel i oi cs b hi) (fun cs b=>hsel j oj cs b hoj) hQ hy h1
   have hfree':∀ k ok,ops[k]?=some ok→k≠i→(listed.setIfInBounds j true).getD k true=false →
     (∀ e∈ok.after,Region.binds md e=true→e.on≠i)→oi.apart ops ok=true:=fun k ok hk hki hun hno=>by
    refine hfree k ok hk hki ?_ hno
    by_cases hjk:j=k
    ·subst hjk;exact hjun
    ·rw [getD_set_ne true hjk] at hun;exact hun
   have hH':∀ k,k < ops.size→H k=false→(listed.setIfInBounds j true).getD k true=true∨depsB md ops i f k=true:=fun k hk hb=>by
    by_cases hjk:j=k
    ·subst hjk;rw [hjH] at hb;cases hb
    ·rw [getD_set_ne true hjk];exact hH k hk hb
   refine wpOp_mono (fun a' w' h3=>⟨h3.2.1,ih (listed.setIfInBounds j true) a' w' (inv.set hj) hH' hfree' (ready_mono hr (Ne.symm hji)) h3.1 (h3.2.1 hjH) ?_⟩) h2
   rw [Array.setIfInBounds_comm _ _ hji]
   exact h3.2.2
theorem wpAnyH_pure {i:Nat} {oi:Oper} {v:Value} (hi:ops[i]?=some oi) (hsel:∀ (j:Nat) (o:Oper) cs b,ops[j]?=some o→o.op ≠ .select cs b)
  (hQ:∀ c a w,Q (.panic c) (a.put oi.dst v) w→Q (.panic c) a w) (hHi:H i=false) :
  ∀ (fuel:Nat) (listed:Array Bool) (a:Act) (w:World),
   (∀ j oj,ops[j]?=some oj→j≠i→listed.getD j true=false→(∀ e∈oj.after,Region.binds md e=true→e.on≠i)→oi.apart ops oj=true) →
   i∈Region.ready md ops listed→YieldsIf P ops (fun _=>True) oi v a →
   wpAnyH P md ops Q S H fuel (listed.setIfInBounds i true) (a.put oi.dst v) w→wpAnyH P md ops Q S H (fuel+1) listed a w:=by
 intro fuel
 induction fuel with
 | zero =>
  intro listed a w _ hr hy HH
  refine ⟨fun h=>(by rw [h] at hr;cases hr),fun j hj=>?_⟩
  by_cases hji:j=i
  ·subst hji;exact hy.wpOp hi trivial ⟨fun h=>(by rw [hHi] at h;cases h),HH⟩
  ·have:=ready_mono hj hji
   rw [HH.1] at this
   cases this
 | succ fuel ih =>
  intro listed a w hfree hr hy HH
  have hun:=(mem_ready.1 hr).1
  refine ⟨fun h=>(by rw [h] at hr;cases hr),fun j hj=>?_⟩
  by_cases hji:j=i
  ·subst hji;exact hy.wpOp hi trivial ⟨fun h=>(by rw [hHi] at h;cases h),HH⟩
  ·obtain ⟨hjun,oj,hoj,hall⟩:=mem_ready.1 hj
   have h1:=HH.2 j (ready_mono hj hji)
   have hnot:∀ e∈oj.after,Region.binds md e=true→e.on≠i:=fun e he hb heq=>by
    have h1:=hall e he hb
    rw [heq,getD_both hun] at h1
    cases h1
   have h2:=wpOp_putIf hoj (hfree j oj hoj hji hjun hnot) (fun cs b=>hsel i oi cs b hi) (fun cs b=>hsel j oj cs b hoj) hQ hy h1
   have hfree':∀ k ok,ops[k]?=some ok→k≠i→(listed.setIfInBounds j true).getD k true=false →
     (∀ e∈ok.after,Region.binds md e=true→e.on≠i)→oi.apart ops ok=true:=fun k ok hk hki hun hno=>by
    refine hfree k ok hk hki ?_ hno
    by_cases hjk:j=k
    ·subst hjk;exact hjun
    ·rw [getD_set_ne true hjk] at hun;exact hun
   refine wpOp_mono (fun a' w' h3=>⟨h3.2.1,ih (listed.setIfInBounds j true) a' w' hfree' (ready_mono hr (Ne.symm hji)) h3.1 ?_⟩) h2
   rw [Array.setIfInBounds_comm _ _ hji]
   exact h3.2.2
theorem wpAnyH_of_seq:∀ (l:List Oper) (k:Nat) (listed:Array Bool) (a:Act) (w:World),(∀ i,k≤i→H i=false)→(∀ j,l[j]?=ops[k+j]?) →
  Region.seqB md ops l.length k listed=true→wpList P ops Q l a w→wpAnyH P md ops Q S H l.length listed a w
 | [],_,_,_,_,_,_,hB,h=>⟨by simpa [Region.seqB] using hB,h⟩
 | o :: l,k,listed,a,w,hk,hl,hB,h=>by
  have h0:ops[k]?=some o:=by simpa using (hl 0).symm
  simp only [List.length_cons,Region.seqB,Bool.and_eq_true,decide_eq_true_eq] at hB
  refine ⟨fun h1=>(by rw [hB.1] at h1;cases h1),fun i hi=>?_⟩
  rw [hB.1] at hi
  have hik:i=k:=by simpa using hi
  subst hik
  have hw:wpOp P ops Q i (wpList P ops Q l) a w:=by unfold wpOp;simp only [h0];exact h
  exact wpOp_mono (fun a' w' h'=>⟨fun ht=>(by rw [hk i (Nat.le_refl _)] at ht;cases ht),wpAnyH_of_seq l (i+1) _ a' w' (fun i' h=>hk i' (by omega)) (fun j=>by have:=hl (j+1);simpa [Nat.add_assoc,Nat.add_comm 1 j] using this) hB.2 h'⟩) hw
def okScriptH (md:Region.Mode) (ops:Array Oper) (H:Nat→Bool) (g m:Nat):List (Nat × Nat)→Array Bool→Bool
 | [],listed=>Region.seqB md ops g m listed
 | (0,i) :: r,listed=>decide (Region.ready md ops listed=[i]) && H i && okScriptH md ops H g m r (listed.setIfInBounds i true)
 | (1,i) :: r,listed=>((Region.ready md ops listed).contains i && Region.free md ops listed i) && ((List.range ops.size).all fun j=>H j || listed.getD j true || depsB md ops i 40 j) && okScriptH md ops H g m r (listed.setIfInBounds i true)
 | (_+2,i) :: r,listed=>(!H i) && ((Region.ready md ops listed).contains i && Region.free md ops listed i) && okScriptH md ops H g m r (listed.setIfInBounds i true)
def wpScriptH (P:Program) (ops:Array Oper) (Q:Exit→Act→World→Prop) (S:World→Prop) (rest:List Oper):List (Nat × Nat)→Act→World→Prop
 | [],a,w=>wpList P ops Q rest a w
 | (0,i) :: r,a,w=>∃ o,ops[i]?=some o∧wpList P ops (ThenS S Q (wpScriptH P ops Q S rest r)) [o] a w
 | (1,i) :: r,a,w=>∃ o v,ops[i]?=some o∧YieldsIf P ops S o v a∧wpScriptH P ops Q S rest r (a.put o.dst v) w
 | (_+2,i) :: r,a,w=>∃ o v,ops[i]?=some o∧YieldsIf P ops (fun _=>True) o v a∧wpScriptH P ops Q S rest r (a.put o.dst v) w
theorem wpScriptH_take {rest:List Oper} {i:Nat} {r:List (Nat × Nat)} {a:Act} {w:World} {o:Oper} (v:Value) (ho:ops[i]?=some o) (hw:Region.wanted o (yielded ops a.tmps)=true) (hy:∀ w,S w→(execOp a.eval o).run P w = .ok (.value v) w) (h:wpScriptH P ops Q S rest r (a.put o.dst v) w):wpScriptH P ops Q S rest ((1,i) :: r) a w :=
 ⟨o,v,ho, .inl ⟨hw,hy⟩,h⟩
theorem wpScriptH_pure {rest:List Oper} {i:Nat} {r:List (Nat × Nat)} {a:Act} {w:World} {o:Oper} (v:Value) (ho:ops[i]?=some o) (hw:Region.wanted o (yielded ops a.tmps)=true) (hy:∀ w,True→(execOp a.eval o).run P w = .ok (.value v) w) (h:wpScriptH P ops Q S rest r (a.put o.dst v) w):wpScriptH P ops Q S rest ((2,i) :: r) a w :=
 ⟨o,v,ho, .inl ⟨hw,hy⟩,h⟩
theorem wpScriptH_do {rest:List Oper} {i:Nat} {r:List (Nat × Nat)} {a:Act} {w:World} {o:Oper} (ho:ops[i]?=some o) (h:wpList P ops (ThenS S Q (wpScriptH P ops Q S rest r)) [o] a w):wpScriptH P ops Q S rest ((0,i) :: r) a w:=⟨o,ho,h⟩
theorem wpAnyH_script {rest:List Oper} {m:Nat} (hsel:Region.noSelect ops=true) (hm:∀ i,m≤i→H i=false)
  (hQ:∀ c a a' w,Q (.panic c) a w→Q (.panic c) a' w) (hrest:∀ j,rest[j]?=ops[m+j]?) :
  ∀ (sc:List (Nat × Nat)) (listed:Array Bool) (a:Act) (w:World),Clos md ops listed→okScriptH md ops H rest.length m sc listed=true→S w→wpScriptH P ops Q S rest sc a w →
   wpAnyH P md ops Q S H (sc.length+rest.length) listed a w
 | [],listed,a,w,_,hB,_,h=>by
  rw [List.length_nil,Nat.zero_add]
  exact wpAnyH_of_seq rest m listed a w hm hrest hB h
 | (0,i) :: r,listed,a,w,inv,hB,hS,h=>by
  simp only [okScriptH,Bool.and_eq_true,decide_eq_true_eq] at hB
  obtain ⟨⟨hr,hHi⟩,hB'⟩:=hB
  obtain ⟨o,ho,hK⟩:=h
  have hr':i∈Region.ready md ops listed:=by rw [hr];exact List.mem_singleton.2 rfl
  rw [List.length_cons,show r.length+1+rest.length=(r.length+rest.length)+1 by omega]
  refine ⟨fun h1=>(by rw [hr] at h1;cases h1),fun j hj=>?_⟩
  rw [hr] at hj
  have hik:j=i:=by simpa using hj
  subst hik
  have hw:wpOp P ops (ThenS S Q (wpScriptH P ops Q S rest r)) j (fun a' w'=>S w'∧wpScriptH P ops Q S rest r a' w') a w:=by
   unfold wpOp;simp only [ho];exact hK
  have hw2:wpOp P ops Q j (fun a' w'=>S w'∧wpScriptH P ops Q S rest r a' w') a w:=by
   unfold wpOp at hw ⊢
   simp only [ho] at hw ⊢
   exact hw
  exact wpOp_mono (fun a' w' h'=>⟨fun _=>h'.1,wpAnyH_script hsel hm hQ hrest r _ a' w' (inv.set hr') hB' h'.1 h'.2⟩) hw2
 | (1,i) :: r,listed,a,w,inv,hB,hS,h=>by
  simp only [okScriptH,Bool.and_eq_true] at hB
  obtain ⟨⟨⟨hr,hf⟩,hH⟩,hB'⟩:=hB
  have hr':i∈Region.ready md ops listed:=by simpa using hr
  obtain ⟨o,v,ho,hy,hK⟩:=h
  have hH':∀ j,j < ops.size→H j=false→listed.getD j true=true∨depsB md ops i 40 j=true:=fun j hj hb=>by
   have h1:=List.all_eq_true.1 hH j (List.mem_range.2 hj)
   simp only [hb,Bool.false_or,Bool.or_eq_true] at h1
   exact h1
  rw [List.length_cons,show r.length+1+rest.length=(r.length+rest.length)+1 by omega]
  exact wpAnyH_first ho (Region.noSelect_spec hsel) (fun c a' w'=>hQ c _ _ w') (r.length+rest.length) listed a w inv hH' (Region.free_spec ho hf) hr' hy hS
   (wpAnyH_script hsel hm hQ hrest r _ _ _ (inv.set hr') hB' hS hK)
 | (n+2,i) :: r,listed,a,w,inv,hB,hS,h=>by
  simp only [okScriptH,Bool.and_eq_true,Bool.not_eq_true'] at hB
  obtain ⟨⟨hHi,hr,hf⟩,hB'⟩:=hB
  have hr':i∈Region.ready md ops listed:=by simpa using hr
  obtain ⟨o,v,ho,hy,hK⟩:=h
  rw [List.length_cons,show r.length+1+rest.length=(r.length+rest.length)+1 by omega]
  exact wpAnyH_pure ho (Region.noSelect_spec hsel) (fun c a' w'=>hQ c _ _ w') hHi (r.length+rest.length) listed a w (Region.free_spec ho hf) hr' hy
   (wpAnyH_script hsel hm hQ hrest r _ _ _ (inv.set hr') hB' hS hK)
end
def hB (m:Nat) (pu:List Nat) (i:Nat):Bool:=decide (i < m) && !pu.contains i
def scriptH (l:List Oper) (m:Nat) (pu:List Nat) (sc:List (Nat × Nat)):Bool :=
 Region.noSelect l.toArray && decide (m≤l.toArray.size) && decide (sc.length=m) && okScriptH .any l.toArray (hB m pu) (l.toArray.size - m) m sc (Array.replicate l.toArray.size false)
theorem wp_region_scriptH {P:Program} {Q:Exit→Act→World→Prop} {id:Nat} {a:Act} {w:World} {l:List Oper} (S:World→Prop) (m:Nat) (pu:List Nat) (sc:List (Nat × Nat)) (hm:P.follows .mixedOrders=true) (hB1:scriptH l m pu sc=true)
  (hS:S w.drew) (h:wpScriptH P l.toArray (NoPanic Q) S (l.drop m) sc a w.drew):(Code.region id l.toArray true).wp P Q a w:=by
 refine wp_region_noPanic ?_
 simp only [scriptH,Bool.and_eq_true,decide_eq_true_eq] at hB1
 obtain ⟨⟨⟨hsel,hn⟩,hsc⟩,hok⟩:=hB1
 have hrl:(l.drop m).length=l.toArray.size - m:=by simp
 have inv0:Clos .any l.toArray (Array.replicate l.toArray.size false):=⟨fun j oj _ hl=>(by rw [getD_replicate_false] at hl;cases hl)⟩
 refine wp_region_any hm (wpAny_of_H (S:=S) (H:=hB m pu) _ _ _ _ ?_)
 have:=wpAnyH_script (P:=P) (Q:=NoPanic Q) (md := .any) (S:=S) (H:=hB m pu) (m:=m) (rest:=l.drop m) hsel (fun i hi=>by simp [hB];omega) (fun _ _ _ _ h=>h) (fun j=>by rw [List.getElem?_drop];simp) sc _ a _ inv0 (by rw [hrl];exact hok) hS h
 rw [hrl,hsc,show m+(l.toArray.size - m)=l.toArray.size by omega] at this
 exact this
end
section
open Go.RowKit
structure DA where
 d:Nat
 pb:Nat
 cb:Nat
 lb:Nat
 nt:Nat→Nat
 th:Nat→Nat
 cc:Nat
 dirty:Nat→Prop
structure LS where
 dn:Nat→Nat
 m:Nat→Nat
 h:Nat→Value
 xs:Nat→List Value
 pw:Nat→Nat
 ws:Nat→List (Nat × Nat)
def wrCells (ws:List (Nat × Nat)):List Value:=ws.flatMap fun p=>[.int .u64 (p.1:Int), .int .u64 (p.2:Int)]
theorem wrCells_len (ws:List (Nat × Nat)):(wrCells ws).length=ws.length * 2:=by
 induction ws with
 | nil=>rfl
 | cons p ws ih=>simp only [wrCells,List.flatMap_cons,List.length_append,List.length_cons,List.length_nil] at *;omega
theorem wrCells_at:∀ (ws:List (Nat × Nat)) (k:Nat) (hk:k < ws.length),(wrCells ws)[k * 2]?=some (.int .u64 ((ws[k]).1:Int))∧(wrCells ws)[k * 2+1]?=some (.int .u64 ((ws[k]).2:Int))
 | p :: ws,0,_=>by simp [wrCells]
 | p :: ws,k+1,h=>by
  have ih:=wrCells_at ws k (by simpa using h)
  simp only [wrCells,List.flatMap_cons] at *
  rw [List.getElem?_append_right (by simp;omega),List.getElem?_append_right (by simp;omega)]
  simp only [List.length_cons,List.length_nil,show (k+1) * 2 - (0+1+1)=k * 2 by omega,show (k+1) * 2+1 - (0+1+1)=k * 2+1 by omega]
  simpa using ih
def upd (cur:Nat→Nat) (i v:Nat):Nat→Nat:=fun k=>if k=i then v else cur k
def wrS (cur:Nat→Nat) (ws:List (Nat × Nat)):Nat→Nat:=ws.foldl (fun c e=>upd c (e.1 / 8) e.2) cur
theorem wrS_snoc (f:Nat→Nat) (l:List (Nat × Nat)) (e:Nat × Nat):wrS f (l++[e])=upd (wrS f l) (e.1 / 8) e.2:=by simp [wrS]
theorem wrS_congr:∀ (l:List (Nat × Nat)) (f g:Nat→Nat) (k:Nat),f k=g k→wrS f l k=wrS g l k
 | [],_,_,_,h=>h
 | e :: l,f,g,k,h=>wrS_congr l (upd f (e.1 / 8) e.2) (upd g (e.1 / 8) e.2) k (by unfold upd;rw [h])
theorem wrS_away:∀ (l:List (Nat × Nat)) (f:Nat→Nat) (k:Nat),(∀ e∈l,e.1 / 8≠k)→wrS f l k=f k
 | [],_,_,_=>rfl
 | e :: l,f,k,h=>(wrS_away l (upd f (e.1 / 8) e.2) k (fun e he=>h e (List.mem_cons_of_mem _ he))).trans (by unfold upd;rw [if_neg (fun e2=>h e (List.mem_cons_self ..) e2.symm)])
def HistOk (L m:Nat) (xs:List Value):Prop:=∀ k,k < m→∃ o v:Nat,xs[k * 2]?=some (.int .u64 (o:Int))∧xs[k * 2+1]?=some (.int .u64 (v:Int))∧o < 64 * L
def devCells (a:DA) (L:Nat) (exe:Int):Array Value :=
 #[.slice (some ⟨a.pb,0,none⟩) (8 * L) (8 * L), .slice (some ⟨a.cb,0,none⟩) (8 * L) a.cc, .slice (some ⟨a.lb,0,none⟩) L L,
  .pointer (some ⟨a.th 0,0,none⟩), .pointer (some ⟨a.th 1,0,none⟩), .pointer (some ⟨a.th 2,0,none⟩), .pointer (some ⟨a.th 3,0,none⟩), .pointer (some ⟨a.th 4,0,none⟩), .pointer (some ⟨a.th 5,0,none⟩), .pointer (some ⟨a.th 6,0,none⟩), .pointer (some ⟨a.th 7,0,none⟩),
  .bool false, .bool false, .int .i64 0, .int .u64 exe]
structure DevC (a:DA) (L T:Nat) (w:World) (S:Fp) (cur:Nat→Nat) (s:LS) (exe:Int) (per cs ls:Array Value):Prop where
 dev:Blk w a.d 158 (devCells a L exe)
 perB:Blk w a.pb 32 per
 perS:per.size=8 * L
 perI:∀ i,i < 8 * L→∃ v:Int,per[i]?=some (.int .u64 v)
 curB:Blk w a.cb 32 cs
 curS:cs.size=a.cc
 curL:8 * L≤a.cc
 curM:a.cc≤9223372036854775807
 curI:∀ i,i < 8 * L→cs[i]?=some (.int .u64 (cur i:Int))
 linB:Blk w a.lb 298 ls
 linS:ls.size=2 * L
 linD:∀ i,i < L→ls[i * 2]?=some (.int .u64 (s.dn i:Int))
 linH:∀ i,i < L→ls[i * 2+1]?=some (s.h i)
 own:∀ i,i < L→w.ownsRow 0 114 2 (s.h i) (s.m i) (s.xs i)
 ok:∀ i,i < L→HistOk L (s.m i) (s.xs i)
 few:∀ i,i < L→s.dn i+s.m i≤T
 apart:∀ i j g,i < L→j < L→(s.h i).ownBlock=some g→(s.h j).ownBlock=some g→i=j
 thr:∀ j,j < 8→Blk w (a.th j) 268 #[.pointer (some ⟨a.d,0,none⟩), .int .i64 (j:Int), .int .i64 0, .map (some (a.nt j))]
 sd:S a.d
 sp:S a.pb
 sc:S a.cb
 sl:S a.lb
 sn:S (a.nt 0)
 st:∀ j,j < 8→S (a.th j)
 sh:∀ i g,i < L→(s.h i).ownBlock=some g→S g
 lt:∀ k,S k→k < w.heap.size
 ne:a.pb≠a.cb
 hL:L≤4096
 hT:T≤1000000000
 pv:∀ i,i < 8 * L→per[i]?=some (.int .u64 (s.pw i:Int))
 hx:∀ i,i < L→s.xs i=wrCells (s.ws i)
 lin:∀ i,i < L→∀ e∈s.ws i,e.1 / 64=i
 link:∀ k,k < 8 * L→wrS s.pw (s.ws (k / 8)) k=cur k
section
variable {a:DA} {L T:Nat} {w w':World} {S Z:Fp} {cur:Nat→Nat} {s:LS} {exe:Int} {per cs ls:Array Value}
theorem DevC.chg (h:DevC a L T w S cur s exe per cs ls) (hc:Chg Z w w') (hd:∀ k,S k→¬ Z k):DevC a L T w' S cur s exe per cs ls :=
 {h with
  dev:=hc.blk h.dev (hd _ h.sd)
  perB:=hc.blk h.perB (hd _ h.sp)
  curB:=hc.blk h.curB (hd _ h.sc)
  linB:=hc.blk h.linB (hd _ h.sl)
  own:=fun i hi=>hc.own (h.own i hi) (fun g hg=>hd _ (h.sh i g hi hg))
  thr:=fun j hj=>hc.blk (h.thr j hj) (hd _ (h.st j hj))
  lt:=fun k hk=>Nat.lt_of_lt_of_le (h.lt k hk) hc.size }
theorem DevC.facts (h:DevC a L T w S cur s exe per cs ls) {j:Nat} (hj:j < 8) :
  w.cell? ⟨a.th j,0,none⟩=some (.pointer (some ⟨a.d,0,none⟩))∧w.cell? ⟨a.d,2,none⟩=some (.slice (some ⟨a.lb,0,none⟩) L L)∧w.cell? ⟨a.d,11,none⟩=some (.bool false)∧w.cell? ⟨a.d,1,none⟩=some (.slice (some ⟨a.cb,0,none⟩) (8 * L) a.cc)∧w.cell? ⟨a.th j,2,none⟩=some (.int .i64 0) :=
 ⟨(h.thr j hj).cell 0,h.dev.cell 2,h.dev.cell 11,h.dev.cell 1,(h.thr j hj).cell 2⟩
end
theorem load_core (L c d th lb cb:Nat) (v:Int) (off:Nat) (w:World) (h8:((off:Int) % 8 == 0)=true) (hlt:off < 64 * L) (hL:L≤4096)
  (f0:w.cell? ⟨th,0,none⟩=some (.pointer (some ⟨d,0,none⟩))) (f2:w.cell? ⟨d,2,none⟩=some (.slice (some ⟨lb,0,none⟩) L L)) (f11:w.cell? ⟨d,11,none⟩=some (.bool false)) (f1:w.cell? ⟨d,1,none⟩=some (.slice (some ⟨cb,0,none⟩) (8 * L) c))
  (fc:w.cell? ⟨cb,off / 8,none⟩=some (.int .u64 v)) :
  Calls Tryz.prog 65 #[.pointer (some ⟨th,0,none⟩), .int .u64 (off:Int)] w fun e w'=>e = .returned (.int .u64 v)∧w=w':=by
 have e1:decide ((off:Int) < (L:Int) * 64)=true:=decide_eq_true (by omega)
 have e5:decide (off < L * 64)=true:=decide_eq_true (by omega)
 have e2:(off:Int) / 8 < 8 * (L:Int):=by omega
 have e3:(0:Int)≤(off:Int) / 8:=by omega
 have e4:((off:Int) / 8).toNat=off / 8:=by omega
 go_enter Tryz.func65,Tryz.ntmps65
 go_wp2
 go_ret
 exact ⟨rfl,rfl⟩
theorem load_any {a:DA} {L T:Nat} {w:World} {S:Fp} {cur:Nat→Nat} {s:LS} {exe:Int} {per cs ls:Array Value} (h:DevC a L T w S cur s exe per cs ls) {j:Nat} (hj:j < 8) (off:Nat) (h8:off % 8=0) (hlt:off < 64 * L) :
  Calls Tryz.prog 65 #[.pointer (some ⟨a.th j,0,none⟩), .int .u64 (off:Int)] w fun e w'=>e = .returned (.int .u64 (cur (off / 8):Int))∧w=w':=by
 obtain ⟨f0,f2,f11,f1,_⟩:=h.facts hj
 refine load_core L a.cc a.d (a.th j) a.lb a.cb _ off w (by rw [beq_iff_eq];omega) hlt h.hL f0 f2 f11 f1 ?_
 rw [h.curB.cell]
 exact h.curI _ (by omega)
def NoteM (a:DA) (L:Nat) (w:World) (s:LS) (N:Nat→Prop) (F:Nat):Prop :=
 ∃ l:List (Lit × DataW Unit),w.ownsMap Tryz.prog 3 (plainElem Tryz.prog 32) (a.nt 0) F (.map l)∧(∀ p∈l,∃ i:Nat,i < L∧p=(.int .i64 (i:Int), .lit (.int .u64 ((s.dn i+s.m i:Nat):Int))))∧∀ i:Nat,N i→i < L→∃ p∈l,p.1 = .int .i64 (i:Int)
def CleanL (L:Nat) (s:LS) (D:Nat→Prop):Prop:=∀ k,k < 8 * L→¬ D k→∀ e∈s.ws (k / 8),e.1 / 8≠k
def DevM (a:DA) (L T:Nat) (w:World) (S:Fp) (cur:Nat→Nat) (D N:Nat→Prop) (F:Nat):Prop:=∃ s exe per cs ls,DevC a L T w S cur s exe per cs ls∧NoteM a L w s N F∧CleanL L s D
def Dev (a:DA) (L T:Nat) (w:World) (S:Fp) (cur:Nat→Nat) (F:Nat):Prop:=DevM a L T w S cur a.dirty (fun _=>False) F
theorem CleanL.mono {L:Nat} {s:LS} {D D':Nat→Prop} (h:CleanL L s D) (hs:∀ k,D k→D' k):CleanL L s D':=fun k hk hn=>h k hk (fun hd=>hn (hs k hd))
theorem NoteM.mono {a:DA} {L:Nat} {w:World} {s:LS} {N N':Nat→Prop} {F:Nat} (h:NoteM a L w s N F) (hs:∀ i,N' i→N i):NoteM a L w s N' F:=by
 obtain ⟨l,h1,h2,h3⟩:=h
 exact ⟨l,h1,h2,fun i hi=>h3 i (hs i hi)⟩
theorem DevM.mono {a:DA} {L T:Nat} {w:World} {S:Fp} {cur:Nat→Nat} {D D' N N':Nat→Prop} {F:Nat} (h:DevM a L T w S cur D N F) (hD:∀ k,D k→D' k) (hN:∀ i,N' i→N i):DevM a L T w S cur D' N' F:=by
 obtain ⟨s,exe,per,cs,ls,h1,h2,h3⟩:=h
 exact ⟨s,exe,per,cs,ls,h1,h2.mono hN,h3.mono hD⟩
def RetDevM (a:DA) (L T:Nat) (w:World) (S:Fp) (cur:Nat→Nat) (D N:Nat→Prop) (F:Nat) (v:Value) (e:Ending) (w':World):Prop :=
 e = .returned v∧∃ S',DevM a L T w' S' cur D N F∧Chg S w w'∧Grew S S' w
def RetDev (a:DA) (L T:Nat) (w:World) (S:Fp) (cur:Nat→Nat) (F:Nat) (v:Value) (e:Ending) (w':World):Prop :=
 e = .returned v∧∃ S',Dev a L T w' S' cur F∧Chg S w w'∧Grew S S' w
end
section
open Go.RowKit
theorem infoWrite:(Tryz.prog.info? 114).map (fun i=>(i.zero,i.size,i.bytes))=some (some (.agg #[.int .u64 0, .int .u64 0]),2,16):=by kernel_rfl
section
variable {P:Program} (w:World)
theorem wpList_appL {ops:Array Oper} {rest:List Oper} {o:Oper} {a:Act} {Q:Exit→Act→World→Prop} (s x:Operand) (t:TypeId)
  (hw:Region.wanted o (yielded ops a.tmps)=true)
  (ho:o.op = .call { callee := .builtin .append,args:=#[s,x],argTypes:=#[t,t] })
  (base:Nat) (e:TypeId) (i:TypeInfo) (z:Value) (size bytes:Nat) (ht:P.underlying t=some (.slice e)) (hi:P.info? e=some i) (hz:i.zero=some z)
  (hsize:i.size=size) (hby:i.bytes=bytes) (hzs:z.cells.size=size) (hsz:0 < size)
  (v:Value) (n:Nat) (xs:List Value) (hs:a.eval s=v) (hown:w.ownsRow base e size v n xs)
  (B:Nat) (A:Option Addr) (m c:Nat) (news:List Value) (hx:a.eval x = .slice A m c) (hr:Reads w B size A m news) (h1:∀ u∈news,u.oneCell'=true)
  (h63:n+m≤maxLen) (hbytes:(n+m) * bytes≤140737488355328) (hbase:base≤w.heap.size)
  (h:∀ A' n' c' w',n'=n+m→w'.ownsRow base e size (.slice A' n' c') n' (xs++news)→w.grownBy w' v.ownBlock→((Value.slice A' n' c').ownBlock=v.ownBlock∨(Value.slice A' n' c').ownBlock=some w.heap.size)→wpList P ops Q rest (a.put o.dst (.slice A' n' c')) w'):wpList P ops Q (o :: rest) a w:=by
 refine Go.BigFrame.wpList_want hw fun K hK=>?_
 refine wp_append_any w s x t ho base e i z size bytes ht hi hz hsize hby hzs hsz v n xs hs hown B A m c news hx hr h1 h63 hbytes hbase fun v' w' h2 h3 h4=>?_
 obtain ⟨A',c',rfl⟩:=own_slice h2
 exact hK _ _ (h A' _ c' w' rfl h2 h3 h4)
end
theorem row_reads_at (w:World) (g:Nat) (h:w.heap.size=g) (l:List Value) (k size:Nat) (e:TypeId) (o:Obj) (ho:o = .cells l.toArray e) (hl:l.length=k * size):Reads (w.alloc o) (g+1) size (some ⟨g,0,none⟩) k l:=by
 subst h;exact rowN_reads w l k size e o ho hl
theorem u64s_one (x y:Int):∀ u∈[Value.int .u64 x,Value.int .u64 y],u.oneCell'=true:=by
 intro u hu
 simp only [List.mem_cons,List.not_mem_nil,or_false] at hu
 rcases hu with rfl | rfl <;> rfl
def StoreW (w:World) (d lb cb i j:Nat) (exe off v:Int) (hv:Value) (m:Nat) (xs:List Value) (w':World):Prop :=
 ∃ A' m' c' W,m'=m+1∧W.ownsRow 0 114 2 (.slice A' m' c') m' (xs++[.int .u64 off, .int .u64 v]) ∧
  ((w.setCell ⟨d,14,none⟩ (.int .u64 (IntKind.u64.wrap (exe+1)))).alloc (.cells #[.int .u64 off, .int .u64 v] 114)).grownBy W hv.ownBlock ∧
  ((Value.slice A' m' c').ownBlock=hv.ownBlock∨(Value.slice A' m' c').ownBlock=some (w.heap.size+1)) ∧
  w'=(W.setCell ⟨lb,i * 2+1,none⟩ (.slice A' m' c')).setCell ⟨cb,j,none⟩ (.int .u64 v)
def RetStore (w:World) (d lb cb i j:Nat) (exe off v:Int) (hv:Value) (m:Nat) (xs:List Value) (e:Ending) (w':World):Prop :=
 e = .returned (.tuple #[])∧StoreW w d lb cb i j exe off v hv m xs w'
theorem store_core (L cc d th lb cb:Nat) (exe:Int) (off v:Nat) (hA:Option Addr) (m hc:Nat) (xs:List Value) (old:Value) (w:World) (h8:((off:Int) % 8 == 0)=true) (hlt:off < 64 * L) (hL:L≤4096) (hm:m≤1000000000)
  (f0:w.cell? ⟨th,0,none⟩=some (.pointer (some ⟨d,0,none⟩))) (f2:w.cell? ⟨d,2,none⟩=some (.slice (some ⟨lb,0,none⟩) L L)) (f11:w.cell? ⟨d,11,none⟩=some (.bool false)) (f12:w.cell? ⟨d,12,none⟩=some (.bool false)) (f14:w.cell? ⟨d,14,none⟩=some (.int .u64 exe)) (z14:w.frozen? ⟨d,14,none⟩=false)
  (f1:w.cell? ⟨d,1,none⟩=some (.slice (some ⟨cb,0,none⟩) (8 * L) cc))
  (fl:w.cell? ⟨lb,off / 64 * 2+1,none⟩=some (.slice hA m hc)) (zl:w.frozen? ⟨lb,off / 64 * 2+1,none⟩=false) (own:w.ownsRow 0 114 2 (.slice hA m hc) m xs)
  (fc:w.cell? ⟨cb,off / 8,none⟩=some old) (zc:w.frozen? ⟨cb,off / 8,none⟩=false)
  (n1:d≠th) (n2:d≠lb) (n3:d≠cb) (n4:th≠lb) (n5:th≠cb) (n6:lb≠cb) (o1:(Value.slice hA m hc).ownBlock≠some d) (o2:(Value.slice hA m hc).ownBlock≠some th) (o3:(Value.slice hA m hc).ownBlock≠some lb) (o4:(Value.slice hA m hc).ownBlock≠some cb) :
  Calls Tryz.prog 76 #[.pointer (some ⟨th,0,none⟩), .int .u64 (off:Int), .int .u64 (v:Int)] w (RetStore w d lb cb (off / 64) (off / 8) exe off v (.slice hA m hc) m xs):=by
 have e1:decide ((off:Int) < (L:Int) * 64)=true:=decide_eq_true (by omega)
 have e5:decide (off < L * 64)=true:=decide_eq_true (by omega)
 have e2:(off:Int) / 8 < 8 * (L:Int):=by omega
 have e3:(0:Int)≤(off:Int) / 8:=by omega
 have e4:((off:Int) / 8).toNat=off / 8:=by omega
 have e6:(off:Int) / 64 < (L:Int):=by omega
 have e7:(0:Int)≤(off:Int) / 64:=by omega
 have e8:((off:Int) / 64).toNat=off / 64:=by omega
 have m1:=n1.symm
 have m2:=n2.symm
 have m3:=n3.symm
 have m4:=n4.symm
 have m5:=n5.symm
 have m6:=n6.symm
 obtain ⟨i0,hi0,hz0,hz1,hz2⟩:=info_parts infoWrite
 have bd:=World.block_lt_of_cell? _ _ f1
 have bt:=World.block_lt_of_cell? _ _ f0
 have bl:=World.block_lt_of_cell? _ _ fl
 have bc:=World.block_lt_of_cell? _ _ fc
 simp only at bd bt bl bc
 have HO:Hid (∀ o,((w.setCell ⟨d,14,none⟩ (.int .u64 (IntKind.u64.wrap (exe+1)))).alloc o).ownsRow 0 114 2 (.slice hA m hc) m xs):=fun o =>
  (ownsRow_setCell_other own (a:=⟨d,14,none⟩) o1 _).alloc o
 have HK:Hid (∀ o W,((w.setCell ⟨d,14,none⟩ (.int .u64 (IntKind.u64.wrap (exe+1)))).alloc o).grownBy W (Value.slice hA m hc).ownBlock →
   W.cell? ⟨th,0,none⟩=some (.pointer (some ⟨d,0,none⟩))∧W.cell? ⟨d,1,none⟩=some (.slice (some ⟨cb,0,none⟩) (8 * L) cc)∧W.cell? ⟨lb,off / 64 * 2+1,none⟩=some (.slice hA m hc)∧W.frozen? ⟨lb,off / 64 * 2+1,none⟩=false∧W.cell? ⟨cb,off / 8,none⟩=some old∧W.frozen? ⟨cb,off / 8,none⟩=false):=fun o W hg=>by
  have hsz:((w.setCell ⟨d,14,none⟩ (.int .u64 (IntKind.u64.wrap (exe+1)))).alloc o).heap.size=w.heap.size+1:=by simp
  have kt:=hg.block th (by omega) (fun e=>o2 e.symm)
  have kd:=hg.block d (by omega) (fun e=>o1 e.symm)
  have kl:=hg.block lb (by omega) (fun e=>o3 e.symm)
  have kc:=hg.block cb (by omega) (fun e=>o4 e.symm)
  have qt:W.heap[th]?=w.heap[th]?:=kt.trans ((Below.heap_alloc _ o th (by simpa using bt)).trans (Below.heap_setCell w ⟨d,14,none⟩ _ th m1))
  have ql:W.heap[lb]?=w.heap[lb]?:=kl.trans ((Below.heap_alloc _ o lb (by simpa using bl)).trans (Below.heap_setCell w ⟨d,14,none⟩ _ lb m2))
  have qc:W.heap[cb]?=w.heap[cb]?:=kc.trans ((Below.heap_alloc _ o cb (by simpa using bc)).trans (Below.heap_setCell w ⟨d,14,none⟩ _ cb m3))
  refine ⟨(World.cell?_of_block (w:=w) qt).trans f0,?_,(World.cell?_of_block (w:=w) ql).trans fl,(World.frozen?_of_block (w:=w) ql).trans zl,(World.cell?_of_block (w:=w) qc).trans fc,(World.frozen?_of_block (w:=w) qc).trans zc⟩
  rw [World.cell?_of_block (a:=⟨d,1,none⟩) kd,World.cell?_alloc_lt _ _ _ (by simpa using bd),World.cell?_setCell_other _ _ _ _ (by simp)]
  exact f1
 clear own
 go_enter Tryz.func76,Tryz.ntmps76
 go_wp2_with (first
  | (at_builtin;refine wpList_appL _ (.tmp 21) (.tmp 25) 108 rfl rfl 0 114 i0 _ 2 16 Tryz.underlying108 hi0 hz0 hz1 hz2 rfl ?q1 (.slice hA m hc) m xs rfl ?q0 (w.heap.size+1) (some ⟨w.heap.size,0,none⟩) 1 1 [.int .u64 (off:Int), .int .u64 (v:Int)] rfl ?q5 (u64s_one _ _) ?q2 ?q3 ?q4 ?_;(case q1=>omega);(case q0=>exact HO.out _);(case q5=>exact row_reads_at _ _ (by simp) _ 1 2 114 _ rfl rfl);(case q2=>(unfold maxLen;omega));(case q3=>omega);(case q4=>(simp));intro A3 n3' c3 w8 hn3 ho3 hg3 hl3;obtain ⟨g0,g1,gl,gzl,gc,gzc⟩:=HK.out _ _ hg3;have HN3:=hid hn3;have HO3:=hid ho3;have HG3:=hid hg3;have HL3:=hid hl3;clear hn3 ho3 hg3 hl3)
  | go_in)
 go_end0
 go_wp2
 go_end0
 exact ⟨rfl,A3,n3',c3,w8,HN3.out,HO3.out,HG3.out,by simpa using HL3.out,rfl⟩
end
section
open Go.RowKit Go.Maps
def nth:List Oper→Nat→Option Oper
 | [],_=>none
 | a :: _,0=>some a
 | _ :: l,i+1=>nth l i
theorem nth_get:∀ (l:List Oper) (i:Nat),l.toArray[i]?=nth l i
 | [],i=>by simp [nth]
 | a :: l,0=>by simp [nth]
 | a :: l,i+1=>by
  have h:=nth_get l i
  simp only [List.getElem?_toArray] at h ⊢
  rw [List.getElem?_cons_succ]
  exact h
section
variable {P:Program} {md:Region.Mode} {ops:Array Oper} {Q:Exit→Act→World→Prop} {S:World→Prop} {H:Nat→Bool}
def okScriptA (md:Region.Mode) (ops:Array Oper) (H:Nat→Bool):List Nat→Array Bool→Bool
 | [],_=>true
 | i :: r,listed=>((Region.ready md ops listed).contains i && Region.free md ops listed i) && ((List.range ops.size).all fun j=>H j || listed.getD j true || depsB md ops i 40 j) && okScriptA md ops H r (listed.setIfInBounds i true)
def finA (listed:Array Bool) (sc:List Nat):Array Bool:=sc.foldl (fun l i=>l.setIfInBounds i true) listed
def wpScriptA (P:Program) (md:Region.Mode) (ops:Array Oper) (Q:Exit→Act→World→Prop) (S:World→Prop) (H:Nat→Bool) (k:Nat) (fin:Array Bool):List Nat→Act→World→Prop
 | [],a,w=>wpAnyH P md ops Q S H k fin a w
 | i :: r,a,w=>∃ o v,ops[i]?=some o∧YieldsIf P ops S o v a∧wpScriptA P md ops Q S H k fin r (a.put o.dst v) w
theorem wpScriptA_take {l:List Oper} (hl:ops=l.toArray) {k i:Nat} {r:List Nat} {fin:Array Bool} {a:Act} {w:World} {o:Oper} (v:Value) (ho:nth l i=some o) (hw:Region.wanted o (yielded ops a.tmps)=true) (hy:∀ w,S w→(execOp a.eval o).run P w = .ok (.value v) w) (h:wpScriptA P md ops Q S H k fin r (a.put o.dst v) w):wpScriptA P md ops Q S H k fin (i :: r) a w :=
 ⟨o,v,by rw [hl,nth_get];exact ho, .inl ⟨hw,hy⟩,h⟩
theorem wpAnyH_scriptA {k:Nat} (hsel:Region.noSelect ops=true) (hQ:∀ c a a' w,Q (.panic c) a w→Q (.panic c) a' w) :
  ∀ (sc:List Nat) (listed:Array Bool) (a:Act) (w:World),Clos md ops listed→okScriptA md ops H sc listed=true→S w→wpScriptA P md ops Q S H k (finA listed sc) sc a w →
   wpAnyH P md ops Q S H (sc.length+k) listed a w
 | [],listed,a,w,_,_,_,h=>by
  rw [List.length_nil,Nat.zero_add]
  exact h
 | i :: r,listed,a,w,inv,hB,hS,h=>by
  simp only [okScriptA,Bool.and_eq_true] at hB
  obtain ⟨⟨⟨hr,hf⟩,hH⟩,hB'⟩:=hB
  have hr':i∈Region.ready md ops listed:=by simpa using hr
  obtain ⟨o,v,ho,hy,hK⟩:=h
  have hH':∀ j,j < ops.size→H j=false→listed.getD j true=true∨depsB md ops i 40 j=true:=fun j hj hb=>by
   have h1:=List.all_eq_true.1 hH j (List.mem_range.2 hj)
   simp only [hb,Bool.false_or,Bool.or_eq_true] at h1
   exact h1
  rw [List.length_cons,show r.length+1+k=(r.length+k)+1 by omega]
  exact wpAnyH_first ho (Region.noSelect_spec hsel) (fun c a' w'=>hQ c _ _ w') (r.length+k) listed a w inv hH' (Region.free_spec ho hf) hr' hy hS
   (wpAnyH_scriptA hsel hQ r _ _ _ (inv.set hr') hB' hS hK)
theorem wpOp_thenS {i:Nat} {o:Oper} {L:Act→World→Prop} {a:Act} {w:World} (ho:ops[i]?=some o) (h:wpList P ops (ThenS S Q L) [o] a w):wpOp P ops Q i (fun a' w'=>S w'∧L a' w') a w:=by
 have hw:wpOp P ops (ThenS S Q L) i (fun a' w'=>S w'∧L a' w') a w:=by
  unfold wpOp;simp only [ho];exact h
 unfold wpOp at hw ⊢
 simp only [ho] at hw ⊢
 exact hw
theorem wpAnyH_two {l:List Oper} (hl:ops=l.toArray) {k i j:Nat} {listed:Array Bool} {a:Act} {w:World} {oi oj:Oper} (hr0:Region.ready md l.toArray listed=[i,j]) (hi:nth l i=some oi) (hj:nth l j=some oj)
  (h1:wpList P ops (ThenS S Q (wpAnyH P md ops Q S H k (listed.setIfInBounds i true))) [oi] a w) (h2:wpList P ops (ThenS S Q (wpAnyH P md ops Q S H k (listed.setIfInBounds j true))) [oj] a w):wpAnyH P md ops Q S H (k+1) listed a w:=by
 have hr:=hr0
 rw [← hl] at hr
 refine ⟨fun h=>(by rw [hr] at h;cases h),fun q hq=>?_⟩
 rw [hr] at hq
 simp only [List.mem_cons,List.not_mem_nil,or_false] at hq
 rcases hq with rfl | rfl
 ·exact wpOp_mono (fun a' w' h'=>⟨fun _=>h'.1,h'.2⟩) (wpOp_thenS (by rw [hl,nth_get];exact hi) h1)
 ·exact wpOp_mono (fun a' w' h'=>⟨fun _=>h'.1,h'.2⟩) (wpOp_thenS (by rw [hl,nth_get];exact hj) h2)
theorem wpAnyH_one {l:List Oper} (hl:ops=l.toArray) {k i:Nat} {listed:Array Bool} {a:Act} {w:World} {oi:Oper} (hr0:Region.ready md l.toArray listed=[i]) (hi:nth l i=some oi)
  (h1:wpList P ops (ThenS S Q (wpAnyH P md ops Q S H k (listed.setIfInBounds i true))) [oi] a w):wpAnyH P md ops Q S H (k+1) listed a w:=by
 have hr:=hr0
 rw [← hl] at hr
 refine ⟨fun h=>(by rw [hr] at h;cases h),fun q hq=>?_⟩
 rw [hr] at hq
 simp only [List.mem_cons,List.not_mem_nil,or_false] at hq
 subst hq
 exact wpOp_mono (fun a' w' h'=>⟨fun _=>h'.1,h'.2⟩) (wpOp_thenS (by rw [hl,nth_get];exact hi) h1)
theorem wpAnyH_end {l:List Oper} (hl:ops=l.toArray) {listed:Array Bool} {a:Act} {w:World} (hr:Region.ready md l.toArray listed=[]) (h:Q .normal a w):wpAnyH P md ops Q S H 0 listed a w:=⟨by rw [hl];exact hr,h⟩
end
def scriptA (l:List Oper) (sc:List Nat):Bool :=
 Region.noSelect l.toArray && okScriptA .any l.toArray (fun _=>true) sc (Array.replicate l.toArray.size false)
theorem wp_region_scriptA {P:Program} {Q:Exit→Act→World→Prop} {id:Nat} {a:Act} {w:World} {l:List Oper} (S:World→Prop) (n k:Nat) (sc:List Nat) (hm:P.follows .mixedOrders=true) (hB1:scriptA l sc=true) (hn:l.toArray.size=n) (hk:sc.length+k=n)
  (hS:S w.drew) (h:∀ ops:Array Oper,Hid (ops=l.toArray)→wpScriptA P .any ops (NoPanic Q) S (fun _=>true) k (finA (Array.replicate n false) sc) sc a w.drew):(Code.region id l.toArray true).wp P Q a w:=by
 refine wp_region_noPanic ?_
 simp only [scriptA,Bool.and_eq_true] at hB1
 obtain ⟨hsel,hok⟩:=hB1
 have inv0:Clos .any l.toArray (Array.replicate l.toArray.size false):=⟨fun j oj _ hl=>(by rw [getD_replicate_false] at hl;cases hl)⟩
 refine wp_region_any hm (wpAny_of_H (S:=S) (H:=fun _=>true) _ _ _ _ ?_)
 rw [hn] at inv0 hok ⊢
 have:=wpAnyH_scriptA (P:=P) (Q:=NoPanic Q) (md := .any) (S:=S) (H:=fun _=>true) (k:=k) hsel (fun _ _ _ _ h=>h) sc _ a _ inv0 hok hS (h _ (hid rfl))
 rw [hk] at this
 exact this
end
end Go.Proofs.YtfkjjoglnmeciaaGreatDoor
