/- The walks and laws that the claim leans on, part 3. -/
import Derived.Test.YtfkjjoglnmeciaaGreatDoorQab
import Derived.RangeFuncCalls
import Derived.Deep.CutBlock
import Derived.Lib.ItoaNum
import Derived.Lib.AppendZeros
import Derived.Lib.BufferMore
import Derived.Shelf.SlMaps.Clone
import Derived.Shelf.SlIter.Sorted
set_option maxRecDepth 100000
set_option maxHeartbeats 16000000
namespace Go.Proofs.YtfkjjoglnmeciaaGreatDoor
open Go.Lib (hid)
section
open Go.RowKit Go.Maps
def nth:List Oper→Nat→Option Oper
 | [],_=>none
 | a :: _,0=>some a
 | _ :: l,i+1=>nth l i
theorem nth_get:∀ (l:List Oper) (i:Nat),l.toArray[i]?=nth l i
 | [],i=>by simp [nth]
 | a :: l,0=>by simp [nth]
 | a :: l,i+1=>by
  have h:=nth_get l i;simp only [List.getElem?_toArray] at h ⊢;rw [List.getElem?_cons_succ];exact h
section
variable {P:Program} {md:Region.Mode} {ops:Array Oper} {Q:Exit→Act→World→Prop} {S:World→Prop} {H:Nat→Bool}
def okScriptA (md:Region.Mode) (ops:Array Oper) (H:Nat→Bool):List Nat→Array Bool→Bool
 | [],_=>true
 | i :: r,listed=>((Region.ready md ops listed).contains i && Region.free md ops listed i) && ((List.range ops.size).all fun j=>H j || listed.getD j true || depsB md ops i 40 j) && okScriptA md ops H r (listed.setIfInBounds i true)
def finA (listed:Array Bool) (sc:List Nat):Array Bool:=sc.foldl (fun l i=>l.setIfInBounds i true) listed
def wpScriptA (P:Program) (md:Region.Mode) (ops:Array Oper) (Q:Exit→Act→World→Prop) (S:World→Prop) (H:Nat→Bool) (k:Nat) (fin:Array Bool):List Nat→Act→World→Prop
 | [],a,w=>wpAnyH P md ops Q S H k fin a w
 | i :: r,a,w=>∃ o v,ops[i]?=some o∧YieldsIf P ops S o v a∧wpScriptA P md ops Q S H k fin r (a.put o.dst v) w
theorem wpScriptA_take {l:List Oper} (hl:ops=l.toArray) {k i:Nat} {r:List Nat} {fin:Array Bool} {a:Act} {w:World} {o:Oper} (v:Value) (ho:nth l i=some o) (hw:Region.wanted o (yielded ops a.tmps)=true) (hy:∀ w,S w→(execOp a.eval o).run P w = .ok (.value v) w) (h:wpScriptA P md ops Q S H k fin r (a.put o.dst v) w):wpScriptA P md ops Q S H k fin (i :: r) a w :=
 ⟨o,v,by rw [hl,nth_get];exact ho, .inl ⟨hw,hy⟩,h⟩
theorem wpAnyH_scriptA {k:Nat} (hsel:Region.noSelect ops=true) (hQ:∀ c a a' w,Q (.panic c) a w→Q (.panic c) a' w) :
  ∀ (sc:List Nat) (listed:Array Bool) (a:Act) (w:World),Clos md ops listed→okScriptA md ops H sc listed=true→S w→wpScriptA P md ops Q S H k (finA listed sc) sc a w →
   wpAnyH P md ops Q S H (sc.length+k) listed a w
 | [],listed,a,w,_,_,_,h=>by
  rw [List.length_nil,Nat.zero_add];exact h
 | i :: r,listed,a,w,inv,hB,hS,h=>by
  simp only [okScriptA,Bool.and_eq_true] at hB;obtain ⟨⟨⟨hr,hf⟩,hH⟩,hB'⟩:=hB;have hr':i∈Region.ready md ops listed:=by simpa using hr
  obtain ⟨o,v,ho,hy,hK⟩:=h;have hH':∀ j,j < ops.size→H j=false→listed.getD j true=true∨depsB md ops i 40 j=true:=fun j hj hb=>by
   have h1:=List.all_eq_true.1 hH j (List.mem_range.2 hj);simp only [hb,Bool.false_or,Bool.or_eq_true] at h1;exact h1
  rw [List.length_cons,show r.length+1+k=(r.length+k)+1 by omega];exact wpAnyH_first ho (Region.noSelect_spec hsel) (fun c a' w'=>hQ c _ _ w') (r.length+k) listed a w inv hH' (Region.free_spec ho hf) hr' hy hS
   (wpAnyH_scriptA hsel hQ r _ _ _ (inv.set hr') hB' hS hK)
theorem wpOp_thenS {i:Nat} {o:Oper} {L:Act→World→Prop} {a:Act} {w:World} (ho:ops[i]?=some o) (h:wpList P ops (ThenS S Q L) [o] a w):wpOp P ops Q i (fun a' w'=>S w'∧L a' w') a w:=by
 have hw:wpOp P ops (ThenS S Q L) i (fun a' w'=>S w'∧L a' w') a w:=by
  unfold wpOp;simp only [ho];exact h
 unfold wpOp at hw ⊢;simp only [ho] at hw ⊢;exact hw
theorem wpAnyH_two {l:List Oper} (hl:ops=l.toArray) {k i j:Nat} {listed:Array Bool} {a:Act} {w:World} {oi oj:Oper} (hr0:Region.ready md l.toArray listed=[i,j]) (hi:nth l i=some oi) (hj:nth l j=some oj)
  (h1:wpList P ops (ThenS S Q (wpAnyH P md ops Q S H k (listed.setIfInBounds i true))) [oi] a w) (h2:wpList P ops (ThenS S Q (wpAnyH P md ops Q S H k (listed.setIfInBounds j true))) [oj] a w):wpAnyH P md ops Q S H (k+1) listed a w:=by
 have hr:=hr0;rw [← hl] at hr;refine ⟨fun h=>(by rw [hr] at h;cases h),fun q hq=>?_⟩;rw [hr] at hq;simp only [List.mem_cons,List.not_mem_nil,or_false] at hq;rcases hq with rfl | rfl
 ·exact wpOp_mono (fun a' w' h'=>⟨fun _=>h'.1,h'.2⟩) (wpOp_thenS (by rw [hl,nth_get];exact hi) h1)
 ·exact wpOp_mono (fun a' w' h'=>⟨fun _=>h'.1,h'.2⟩) (wpOp_thenS (by rw [hl,nth_get];exact hj) h2)
theorem wpAnyH_one {l:List Oper} (hl:ops=l.toArray) {k i:Nat} {listed:Array Bool} {a:Act} {w:World} {oi:Oper} (hr0:Region.ready md l.toArray listed=[i]) (hi:nth l i=some oi)
  (h1:wpList P ops (ThenS S Q (wpAnyH P md ops Q S H k (listed.setIfInBounds i true))) [oi] a w):wpAnyH P md ops Q S H (k+1) listed a w:=by
 have hr:=hr0;rw [← hl] at hr;refine ⟨fun h=>(by rw [hr] at h;cases h),fun q hq=>?_⟩;rw [hr] at hq;simp only [List.mem_cons,List.not_mem_nil,or_false] at hq;subst hq;exact wpOp_mono (fun a' w' h'=>⟨fun _=>h'.1,h'.2⟩) (wpOp_thenS (by rw [hl,nth_get];exact hi) h1)
theorem wpAnyH_end {l:List Oper} (hl:ops=l.toArray) {listed:Array Bool} {a:Act} {w:World} (hr:Region.ready md l.toArray listed=[]) (h:Q .normal a w):wpAnyH P md ops Q S H 0 listed a w:=⟨by rw [hl];exact hr,h⟩
end
def scriptA (l:List Oper) (sc:List Nat):Bool :=
 Region.noSelect l.toArray && okScriptA .any l.toArray (fun _=>true) sc (Array.replicate l.toArray.size false)
theorem wp_region_scriptA {P:Program} {Q:Exit→Act→World→Prop} {id:Nat} {a:Act} {w:World} {l:List Oper} (S:World→Prop) (n k:Nat) (sc:List Nat) (hm:P.follows .mixedOrders=true) (hB1:scriptA l sc=true) (hn:l.toArray.size=n) (hk:sc.length+k=n)
  (hS:S w.drew) (h:∀ ops:Array Oper,Hid (ops=l.toArray)→wpScriptA P .any ops (NoPanic Q) S (fun _=>true) k (finA (Array.replicate n false) sc) sc a w.drew):(Code.region id l.toArray true).wp P Q a w:=by
 refine wp_region_noPanic ?_;simp only [scriptA,Bool.and_eq_true] at hB1;obtain ⟨hsel,hok⟩:=hB1;have inv0:Clos .any l.toArray (Array.replicate l.toArray.size false):=⟨fun j oj _ hl=>(by rw [getD_replicate_false] at hl;cases hl)⟩
 refine wp_region_any hm (wpAny_of_H (S:=S) (H:=fun _=>true) _ _ _ _ ?_);rw [hn] at inv0 hok ⊢;have:=wpAnyH_scriptA (P:=P) (Q:=NoPanic Q) (md := .any) (S:=S) (H:=fun _=>true) (k:=k) hsel (fun _ _ _ _ h=>h) sc _ a _ inv0 hok hS (h _ (hid rfl));rw [hk] at this;exact this
end
section
open Go.RowKit Go.Maps
def OnlyN (Q:Exit→Act→World→Prop):Exit→Act→World→Prop
 | .normal,a,w=>Q .normal a w
 | _,_,_=>False
theorem OnlyN.imp {Q:Exit→Act→World→Prop}:∀ e a w,OnlyN Q e a w→Q e a w:=fun e a w h=>by
 cases e <;> first | exact h | exact h.elim
theorem OnlyN.not_letsP {Q:Exit→Act→World→Prop}:¬ LetsOut (NoPanic (OnlyN Q)):=fun ⟨_,_,h⟩=>h
def noDefer (l:List Oper):Bool:=l.all fun o=>match o.op with | .defer _=>false | _=>true
theorem noDefer_spec {l:List Oper} (h:noDefer l=true) {o:Oper} (ho:o∈l):∀ c,o.op ≠ .defer c:=fun c e=>by
 have h1:=List.all_eq_true.1 h o ho;rw [e] at h1;cases h1
theorem rowsIn_round {k n:Nat} {P:Program} {row:String} {args:Array Value} {w:World} {R:Value→World→Prop} (h:Rows P row args w R):RowsIn (Fence.wide.inRound k) n P row args w R:=fun c cs _ =>
 let ⟨v,w',r,s⟩:=h c cs
 ⟨v,w',r,stepsIn_wide.2 s⟩
theorem operIn_round {k n:Nat} {P:Program} {o:Oper} {a:Act} {w:World} {K:Act→World→Prop} {Q:Exit→Act→World→Prop} (hd:∀ c,o.op ≠ .defer c) (h:o.wp P a w K Q):o.wpIn (Fence.wide.inRound k) n P a w K Q:=by
 refine ⟨fun _ _=>trivial,?_⟩;rw [show (Fence.wide.inRound k).round=some k from rfl,Oper.semAt_some k _ _ hd];unfold Oper.wp at h;generalize (execOp a.eval o).run P w=r at *;cases r with
 | ok x w' =>
  cases x <;> simp only [Oper.upon,Oper.uponIn] at h ⊢
  case enter =>
   refine ⟨fun (he:false=true)=>absurd he (by decide),CallsIn.inRound k (callsIn_wide.2 ?_)⟩;exact Calls.mono h (fun e w'' he=>by cases e <;> exact he)
  case row=>exact ⟨fun (he:false=true)=>absurd he (by decide),rowsIn_round h⟩
  all_goals exact h
 | halt x w'=>cases x <;> simp only [Oper.upon,Oper.uponIn] at h ⊢ <;> exact h
theorem opIn_round {k n:Nat} {P:Program} {l:List Oper} {Q:Exit→Act→World→Prop} {i:Nat} {K:Act→World→Prop} {a:Act} {w:World} (hd:noDefer l=true) (hq:¬ LetsOut Q) (h:wpOp P l.toArray Q i K a w):wpOpIn (Fence.wide.inRound k) n P l.toArray Q i K a w:=by
 unfold wpOp at h;unfold wpOpIn;cases ho:l.toArray[i]? with
 | none=>rw [ho] at h;exact h
 | some o =>
  rw [ho] at h;have hm:o∈l:=by
   have:=Array.mem_of_getElem? ho;simpa using this
  simp only [] at h ⊢;by_cases hw:Region.wanted o (yielded l.toArray a.tmps)=true
  ·rw [if_pos hw] at h ⊢
   exact operIn_round (noDefer_spec hd hm) (h.elim id (fun h=>absurd h.2 hq))
  ·rw [if_neg hw] at h ⊢
   exact ⟨fun _ _=>trivial,h⟩
theorem anyIn_round {k n:Nat} {P:Program} {md:Region.Mode} {l:List Oper} {Q:Exit→Act→World→Prop} (hd:noDefer l=true) (hq:¬ LetsOut Q):∀ (fuel:Nat) (listed:Array Bool) (a:Act) (w:World),wpAny P md l.toArray Q fuel listed a w→wpAnyIn (Fence.wide.inRound k) n P md l.toArray Q fuel listed a w
 | 0,_,_,_,h=>h
 | fuel+1,_,a,w,h=>⟨h.1,fun i hi=>wpOpIn_mono (fun a' w' h'=>anyIn_round hd hq fuel _ a' w' h') (opIn_round hd hq (h.2 i hi))⟩
theorem wpIn_region_scriptH {k n id:Nat} {P:Program} {Q:Exit→Act→World→Prop} {a:Act} {w:World} {l:List Oper} (S:World→Prop) (m:Nat) (pu:List Nat) (sc:List (Nat × Nat)) (hm:P.follows .mixedOrders=true) (hB1:scriptH l m pu sc=true) (hd:noDefer l=true)
  (hS:S w.drew) (h:wpScriptH P l.toArray (NoPanic (OnlyN Q)) S (l.drop m) sc a w.drew):(Code.region id l.toArray true).wpIn (Fence.wide.inRound k) n P Q a w:=by
 refine Code.wpIn_mono (fun e a w h=>OnlyN.imp e a w (NoPanic.imp e a w h)) (wpIn_region_any hm ?_);simp only [scriptH,Bool.and_eq_true,decide_eq_true_eq] at hB1;obtain ⟨⟨⟨hsel,hn⟩,hsc⟩,hok⟩:=hB1;have hrl:(l.drop m).length=l.toArray.size - m:=by simp
 have inv0:Clos .any l.toArray (Array.replicate l.toArray.size false):=⟨fun j oj _ hl=>(by rw [getD_replicate_false] at hl;cases hl)⟩
 refine anyIn_round hd OnlyN.not_letsP _ _ _ _ (wpAny_of_H (S:=S) (H:=hB m pu) _ _ _ _ ?_);have:=wpAnyH_script (P:=P) (Q:=NoPanic (OnlyN Q)) (md := .any) (S:=S) (H:=hB m pu) (m:=m) (rest:=l.drop m) hsel (fun i hi=>by simp [hB];omega) (fun _ _ _ _ h=>h) (fun j=>by rw [List.getElem?_drop];simp) sc _ a _ inv0 (by rw [hrl];exact hok) hS h;rw [hrl,hsc,show m+(l.toArray.size - m)=l.toArray.size by omega] at this;exact this
theorem OnlyN.thenN {K:Act→World→Prop} {Q:Exit→Act→World→Prop} {a:Act} {w:World} (h:K a w):OnlyN (Exit.then K Q) .normal a w:=h
theorem wpScriptH_pass {P:Program} {ops:Array Oper} {Q:Exit→Act→World→Prop} {S:World→Prop} {rest:List Oper} {i:Nat} {r:List (Nat × Nat)} {a:Act} {w:World} {o:Oper} (ho:ops[i]?=some o) (hw:Region.wanted o (yielded ops a.tmps)=false) (h:wpScriptH P ops Q S rest r (a.put o.dst undef) w):wpScriptH P ops Q S rest ((1,i) :: r) a w :=
 ⟨o,undef,ho, .inr ⟨hw,rfl⟩,h⟩
end
section
open Go.RowKit
theorem map_ne_blk {H:Type} {P:Program} {k:TypeId} {R:Value→Option (DataW H × List MemPlace)} {w:World} {b n g:Nat} {D:DataW H} {t:TypeId} {cs:Array Value} (h:w.ownsMap P k R b n D) (hB:Blk w g t cs):b≠g:=by
 rintro rfl;obtain ⟨es,clock,h1,_⟩:=h;have h2:w.heap[b]?=some (.cells cs t (0,0)):=hB;rw [h1] at h2;cases h2
theorem map_ne_own {H:Type} {P:Program} {k:TypeId} {R:Value→Option (DataW H × List MemPlace)} {w:World} {b n:Nat} {D:DataW H} (h:w.ownsMap P k R b n D) {base:Nat} {e:TypeId} {size m:Nat} {v:Value} {xs:List Value} (ho:w.ownsRow base e size v m xs):some b≠v.ownBlock:=by
 intro he;rcases ho.2 with ⟨rfl,_⟩ | ⟨g,cap,cur,rfl,_,hh,_⟩
 ·simp [Value.ownBlock] at he
 ·have:b=g:=by simpa [Value.ownBlock] using he
  subst this;exact map_ne_blk h (show Blk w b e cur from hh) rfl
theorem own_lt {w:World} {base:Nat} {e:TypeId} {size n:Nat} {v:Value} {xs:List Value} (h:w.ownsRow base e size v n xs) {g:Nat} (hg:v.ownBlock=some g):g < w.heap.size:=(h.lt g hg).2
theorem set_at {cs:Array Value} {j:Nat} {u:Value} (i:Nat) (hj:j < cs.size):(cs.setIfInBounds j u)[i]?=if i=j then some u else cs[i]?:=by
 rw [Array.getElem?_setIfInBounds];by_cases h:j=i
 ·subst h;simp [hj]
 ·rw [if_neg h,if_neg (fun e=>h e.symm)]
theorem histOk_snoc {L m:Nat} {xs:List Value} (h:HistOk L m xs) (hl:xs.length=m * 2) (off v:Nat) (ho:off < 64 * L):HistOk L (m+1) (xs++[.int .u64 (off:Int), .int .u64 (v:Int)]):=by
 intro k hk;rcases Nat.lt_or_ge k m with h1 | h1
 ·obtain ⟨o,u,g1,g2,g3⟩:=h k h1
  exact ⟨o,u,by rw [List.getElem?_append_left oM];exact g1,by rw [List.getElem?_append_left oM];exact g2,g3⟩
 ·obtain rfl:k=m:=oM
  refine ⟨off,v,?_,?_,ho⟩
  ·rw [List.getElem?_append_right oM,hl,Nat.sub_self];rfl
  ·rw [List.getElem?_append_right oM,hl,show k * 2+1 - k * 2=1 by omega];rfl
section
variable {a:DA} {L T:Nat} {w:World} {S:Fp} {cur:Nat→Nat} {s:LS} {exe:Int} {per cs ls:Array Value}
theorem store_any {D N:Nat→Prop} (h:DevC a L T w S cur s exe per cs ls) (hN:NoteM a L w s N 0) (hCl:CleanL L s D) (off v:Nat) (h8:off % 8=0) (hlt:off < 64 * L) (hT:T < 1000000000) :
  Calls Tryz.prog 76 #[.pointer (some ⟨a.th 0,0,none⟩), .int .u64 (off:Int), .int .u64 (v:Int)] w (RetDevM a L (T+1) w S (upd cur (off / 8) v) (fun k=>D k∨k=off / 8) (fun _=>False) 0 (.tuple #[])):=by
 obtain ⟨f0,f2,f11,f1,_⟩:=h.facts (j:=0) oM;have hi:off / 64 < L:=oM;have hj:off / 8 < 8 * L:=oM;have ho:=h.own _ hi;have hfew:=h.few _ hi;obtain ⟨hA,hc,hv⟩:=own_slice ho;have hth:=h.thr 0 oM;have n1:a.d≠a.th 0:=h.dev.ne_ hth (by decide);have n2:a.d≠a.lb:=h.dev.ne_ h.linB (by decide);have n3:a.d≠a.cb:=h.dev.ne_ h.curB (by decide);have n4:a.th 0≠a.lb:=hth.ne_ h.linB (by decide);have n5:a.th 0≠a.cb:=hth.ne_ h.curB (by decide);have n6:a.lb≠a.cb:=h.linB.ne_ h.curB (by decide);have n7:a.d≠a.pb:=h.dev.ne_ h.perB (by decide);have n8:a.lb≠a.pb:=h.linB.ne_ h.perB (by decide);have o1:=own_blk_ne ho h.dev (by decide);have o2:=own_blk_ne ho hth (by decide);have o3:=own_blk_ne ho h.linB (by decide);have o4:=own_blk_ne ho h.curB (by decide);have o5:=own_blk_ne ho h.perB (by decide);have hcs:=h.curS;have hcl:=h.curL;have hls:=h.linS;refine (store_core L a.cc a.d (a.th 0) a.lb a.cb exe off v hA (s.m (off / 64)) hc (s.xs (off / 64)) (.int .u64 (cur (off / 8):Int)) w (by rw [beq_iff_eq];omega) hlt h.hL oM f0 f2 f11 (h.dev.cell 12) (h.dev.cell 14) (h.dev.frozen 14) f1
  (by rw [h.linB.cell,h.linH _ hi,hv]) (h.linB.frozen _) (hv ▸ ho) (by rw [h.curB.cell];exact h.curI _ hj) (h.curB.frozen _) n1 n2 n3 n4 n5 n6 (hv ▸ o1) (hv ▸ o2) (hv ▸ o3) (hv ▸ o4)).mono ?_
 rintro e w' ⟨rfl,A',m',c',W,hm,ho',hg,hl,rfl⟩;rw [← hv] at hg hl;have hsz:w.heap.size+1≤W.heap.size:=by have:=hg.size;simp at this;exact this
 have k0:∀ {g:Nat} {t:TypeId} {xs:Array Value},Blk w g t xs→g≠a.d→some g≠(s.h (off / 64)).ownBlock→Blk W g t xs:=fun hB h1 h2=>((hB.far (p:=⟨a.d,14,none⟩) h1 _).alloc _).grown hg h2
 have kd:Blk W a.d _ (devCells a L (IntKind.u64.wrap (exe+1))):=((h.dev.set_ 14 _).alloc _).grown hg (fun e=>o1 e.symm);have kl:=k0 h.linB n2.symm (fun e=>o3 e.symm);have kc:=k0 h.curB n3.symm (fun e=>o4 e.symm);have kp:=k0 h.perB n7.symm (fun e=>o5 e.symm);have kt:∀ j,j < 8→Blk W (a.th j) _ #[.pointer (some ⟨a.d,0,none⟩), .int .i64 (j:Int), .int .i64 0, .map (some (a.nt j))]:=fun j hj'=>k0 (h.thr j hj') ((h.thr j hj').ne_ h.dev (by decide)) (fun e=>own_blk_ne ho (h.thr j hj') (by decide) e.symm)
 have p3:=own_blk_ne ho' kl (by decide);have p4:=own_blk_ne ho' kc (by decide);obtain ⟨l0,hmap,hnotes,_⟩:=hN;have hmW:W.ownsMap Tryz.prog 3 (plainElem Tryz.prog 32) (a.nt 0) 0 (.map l0):=((hmap.setCell (a:=⟨a.d,14,none⟩) (map_ne_blk hmap h.dev) _).alloc _).kept hg (map_ne_own hmap ho);have hl0:l0=[]:=by
  have:=hmap.size_le;exact List.eq_nil_of_length_eq_zero (by simpa [Maps.size] using this)
 refine ⟨rfl,fun k=>S k∨(Value.slice A' m' c').ownBlock=some k,⟨⟨s.dn,fun k=>if k=off / 64 then m' else s.m k,fun k=>if k=off / 64 then .slice A' m' c' else s.h k,fun k=>if k=off / 64 then s.xs (off / 64)++[.int .u64 (off:Int), .int .u64 (v:Int)] else s.xs k,s.pw,fun k=>if k=off / 64 then s.ws (off / 64)++[(off,v)] else s.ws k⟩,IntKind.u64.wrap (exe+1),per,cs.setIfInBounds (off / 8) (.int .u64 (v:Int)),ls.setIfInBounds (off / 64 * 2+1) (.slice A' m' c'),?_,?_,?_⟩,?_,?_⟩
 ·have hold:∀ k,k < L→k≠off / 64→((W.setCell ⟨a.lb,off / 64 * 2+1,none⟩ (.slice A' m' c')).setCell ⟨a.cb,off / 8,none⟩ (.int .u64 (v:Int))).ownsRow 0 _ 2 (s.h k) (s.m k) (s.xs k):=fun k hk hne=>by
   have h1:=h.own k hk;have h2:=((ownsRow_setCell_other h1 (a:=⟨a.d,14,none⟩) (own_blk_ne h1 h.dev (by decide)) (.int .u64 (IntKind.u64.wrap (exe+1)))).alloc (.cells #[.int .u64 (off:Int), .int .u64 (v:Int)] 114)).kept hg ?_
   ·have h3:=own_blk_ne h2 kl (by decide)
    have h4:=own_blk_ne h2 kc (by decide);exact ownsRow_setCell_other (ownsRow_setCell_other h2 (a:=⟨a.lb,off / 64 * 2+1,none⟩) h3 _) (a:=⟨a.cb,off / 8,none⟩) h4 _
   ·cases hb:(s.h k).ownBlock with
    | none=>exact .inl rfl
    | some g=>exact .inr (fun e=>hne (h.apart k _ g hk hi hb e.symm))
  exact
  {dev:=(kd.far (p:=⟨a.lb,off / 64 * 2+1,none⟩) n2 _).far (p:=⟨a.cb,off / 8,none⟩) n3 _
   perB:=(kp.far (p:=⟨a.lb,off / 64 * 2+1,none⟩) n8.symm _).far (p:=⟨a.cb,off / 8,none⟩) h.ne _
   perS:=h.perS
   perI:=h.perI
   curB:=(kc.far (p:=⟨a.lb,off / 64 * 2+1,none⟩) n6.symm _).set_ (off / 8) _
   curS:=by simpa using h.curS
   curL:=h.curL
   curM:=h.curM
   curI:=fun k hk=>by
    rw [set_at k oM];unfold upd;by_cases hkj:k=off / 8
    ·rw [if_pos hkj,if_pos hkj]
    ·rw [if_neg hkj,if_neg hkj];exact h.curI k hk
   linB:=((kl.set_ (off / 64 * 2+1) _).far (p:=⟨a.cb,off / 8,none⟩) n6 _)
   linS:=by simpa using h.linS
   linD:=fun k hk=>by rw [set_at _ oM,if_neg oM];exact h.linD k hk
   linH:=fun k hk=>by
    rw [set_at _ oM];by_cases hki:k=off / 64
    ·rw [if_pos oM];simp only [if_pos hki]
    ·rw [if_neg oM];simp only [if_neg hki];exact h.linH k hk
   own:=fun k hk=>by
    by_cases hki:k=off / 64
    ·simp only [if_pos hki]
     exact ownsRow_setCell_other (ownsRow_setCell_other ho' (a:=⟨a.lb,off / 64 * 2+1,none⟩) p3 _) (a:=⟨a.cb,off / 8,none⟩) p4 _
    ·simp only [if_neg hki]
     exact hold k hk hki
   ok:=fun k hk=>by
    by_cases hki:k=off / 64
    ·simp only [if_pos hki,hm]
     exact histOk_snoc (h.ok _ hi) ho.1 off v hlt
    ·simp only [if_neg hki]
     exact h.ok k hk
   few:=fun k hk=>by
    have:=h.few k hk;by_cases hki:k=off / 64
    ·subst hki;simp only [if_true];omega
    ·simp only [if_neg hki];omega
   apart:=fun x y g hx hy h1 h2=>by
    by_cases hx':x=off / 64 <;> by_cases hy':y=off / 64
    ·omega
    ·simp only [if_pos hx'] at h1
     simp only [if_neg hy'] at h2;rcases hl with hl | hl
     ·rw [hl] at h1;have:=h.apart _ y g hi hy h1 h2;omega
     ·rw [hl] at h1
      have h3:=own_lt (h.own y hy) h2;injection h1 with h1
      omega
    ·simp only [if_neg hx'] at h1
     simp only [if_pos hy'] at h2;rcases hl with hl | hl
     ·rw [hl] at h2;have:=h.apart x _ g hx hi h1 h2;omega
     ·rw [hl] at h2
      have h3:=own_lt (h.own x hx) h1;injection h2 with h2
      omega
    ·simp only [if_neg hx'] at h1
     simp only [if_neg hy'] at h2;exact h.apart x y g hx hy h1 h2
   thr:=fun j hj'=>((kt j hj').far (p:=⟨a.lb,off / 64 * 2+1,none⟩) ((h.thr j hj').ne_ h.linB (by decide)) _).far (p:=⟨a.cb,off / 8,none⟩) ((h.thr j hj').ne_ h.curB (by decide)) _
   sd := .inl h.sd
   sp := .inl h.sp
   sc := .inl h.sc
   sl := .inl h.sl
   sn := .inl h.sn
   st:=fun j hj' => .inl (h.st j hj')
   sh:=fun k g hk hg'=>by
    by_cases hki:k=off / 64
    ·simp only [if_pos hki] at hg';exact .inr hg'
    ·simp only [if_neg hki] at hg';exact .inl (h.sh k g hk hg')
   lt:=fun k hk=>by
    have hsz':((W.setCell ⟨a.lb,off / 64 * 2+1,none⟩ (.slice A' m' c')).setCell ⟨a.cb,off / 8,none⟩ (.int .u64 (v:Int))).heap.size=W.heap.size:=by simp
    rw [hsz'];rcases hk with hk | hk
    ·have:=h.lt k hk;omega
    ·exact own_lt ho' hk
   ne:=h.ne
   hL:=h.hL
   hT:=oM
   pv:=h.pv
   hx:=fun k hk=>by
    by_cases hki:k=off / 64
    ·simp only [if_pos hki]
     rw [h.hx _ hi];simp [wrCells]
    ·simp only [if_neg hki]
     exact h.hx k hk
   lin:=fun k hk e he=>by
    by_cases hki:k=off / 64
    ·simp only [if_pos hki] at he
     rcases List.mem_append.1 he with he | he
     ·rw [hki];exact h.lin _ hi e he
     ·simp only [List.mem_cons,List.not_mem_nil,or_false] at he
      rw [he];exact hki.symm
    ·simp only [if_neg hki] at he
     exact h.lin k hk e he
   link:=fun k hk=>by
    by_cases hki:k / 8=off / 64
    ·simp only [if_pos hki]
     rw [wrS_snoc];unfold upd;by_cases hkj:k=off / 8
     ·rw [if_pos hkj,if_pos hkj]
     ·rw [if_neg hkj,if_neg hkj,← hki]
      exact h.link k hk
    ·simp only [if_neg hki]
     unfold upd;rw [if_neg oM];exact h.link k hk }
 ·refine ⟨l0,?_,(fun p hp=>by rw [hl0] at hp;cases hp),fun _ h=>h.elim⟩
  have h1:=hmW.setCell (a:=⟨a.lb,off / 64 * 2+1,none⟩) (map_ne_blk hmW kl) (.slice A' m' c');exact h1.setCell (a:=⟨a.cb,off / 8,none⟩) (map_ne_blk hmW kc) _
 ·intro k hk hnd e he
  by_cases hki:k / 8=off / 64
  ·simp only [if_pos hki] at he
   rcases List.mem_append.1 he with he | he
   ·exact hCl k hk (fun hd=>hnd (.inl hd)) e (by rw [hki];exact he)
   ·simp only [List.mem_cons,List.not_mem_nil,or_false] at he
    subst he;exact fun e2=>hnd (.inr e2.symm)
  ·simp only [if_neg hki] at he
   exact hCl k hk (fun hd=>hnd (.inl hd)) e he
 ·have c1:Chg S w W:=(((Chg.refl S w).setCell (p:=⟨a.d,14,none⟩) (.inl h.sd) _).alloc _).grown hg (fun g hg' => .inl (h.sh _ g hi hg'))
  exact (c1.setCell (p:=⟨a.lb,off / 64 * 2+1,none⟩) (.inl h.sl) _).setCell (p:=⟨a.cb,off / 8,none⟩) (.inl h.sc) _
 ·intro k hk
  rcases hk with hk | hk
  ·exact .inl hk
  ·rcases hl with hl | hl
   ·rw [hl] at hk;exact .inl (h.sh _ k hi hk)
   ·rw [hl] at hk
    injection hk with hk
    exact .inr oM
end
end
section
open Go.RowKit Go.Maps Go.Shelf
theorem wrS_other:∀ (l:List (Nat × Nat)) (cur:Nat→Nat) (k:Nat),(∀ e∈l,e.1 / 8≠k)→wrS cur l k=cur k
 | [],_,_,_=>rfl
 | e :: l,cur,k,h=>by
  show wrS (upd cur (e.1 / 8) e.2) l k=cur k;rw [wrS_other l _ k (fun x hx=>h x (by simp [hx]))];have:=h e (by simp);simp [upd];omega
theorem wrS_get:∀ (l:List (Nat × Nat)) (cur:Nat→Nat),(l.map (·.1)).Nodup→(∀ e∈l,e.1 % 8=0)→∀ e∈l,wrS cur l (e.1 / 8)=e.2
 | [],_,_,_,_,h=>by simp at h
 | x :: l,cur,hn,ha,e,he=>by
  show wrS (upd cur (x.1 / 8) x.2) l (e.1 / 8)=e.2;simp only [List.map_cons,List.nodup_cons] at hn;rcases List.mem_cons.1 he with rfl | he
  ·rw [wrS_other l _ _ (fun y hy h=>hn.1 (by
    have h1:=ha y (by simp [hy]);have h2:=ha e (by simp);have:y.1=e.1:=oM;exact List.mem_map.2 ⟨y,hy,this⟩))]
   simp [upd]
  ·exact wrS_get l _ hn.2 (fun y hy=>ha y (by simp [hy])) e he
theorem wrS_bnd:∀ (l:List (Nat × Nat)) (cur:Nat→Nat),(∀ i,cur i < 18446744073709551616)→(∀ e∈l,e.2 < 18446744073709551616)→∀ i,wrS cur l i < 18446744073709551616
 | [],_,h,_,i=>h i
 | x :: l,cur,h,hl,i=>wrS_bnd l (upd cur (x.1 / 8) x.2) (fun j=>by
   unfold upd;split
   ·exact hl x (by simp)
   ·exact h j) (fun e he=>hl e (by simp [he])) i
section
variable {cur base:Nat→Nat} {D:DataW Unit} {ws:List (Nat × Nat)}
end
end
section
open Go.RowKit Go.Maps
def closB (md:Region.Mode) (ops:Array Oper) (listed:Array Bool):Bool :=
 (List.range ops.size).all fun j => !listed.getD j false || (match ops[j]? with | some oj=>oj.after.toList.all fun e => !Region.binds md e || listed.getD e.on false | none=>true)
theorem closB_spec {md:Region.Mode} {ops:Array Oper} {listed:Array Bool} (h:closB md ops listed=true):Clos md ops listed:=by
 refine ⟨fun j oj hj hl e he hb=>?_⟩;have hlt:j < ops.size:=(Array.getElem?_eq_some_iff.1 hj).1;have h1:=List.all_eq_true.1 h j (List.mem_range.2 hlt);rw [hl,hj] at h1;simp only [Bool.not_true,Bool.false_or] at h1;have h2:=List.all_eq_true.1 h1 e (by simpa using he);rw [hb] at h2;simpa using h2
def freeB (md:Region.Mode) (l:List Oper) (listed:Array Bool) (i:Nat):Bool :=
 Region.noSelect l.toArray && closB md l.toArray listed && (Region.ready md l.toArray listed).contains i && Region.free md l.toArray listed i
theorem wpAnyH_free {P:Program} {md:Region.Mode} {ops:Array Oper} {Q:Exit→Act→World→Prop} {S:World→Prop} {l:List Oper} (hl:ops=l.toArray) {k i:Nat} {listed:Array Bool} {a:Act} {w:World} {o:Oper} (v:Value) (ho:nth l i=some o) (hB:freeB md l listed i=true) (hw:Region.wanted o (yielded ops a.tmps)=true) (hy:∀ w,S w→(execOp a.eval o).run P w = .ok (.value v) w) (hS:S w)
  (h:wpAnyH P md ops (NoPanic Q) S (fun _=>true) k (listed.setIfInBounds i true) (a.put o.dst v) w):wpAnyH P md ops (NoPanic Q) S (fun _=>true) (k+1) listed a w:=by
 subst hl;simp only [freeB,Bool.and_eq_true] at hB;obtain ⟨⟨⟨h1,h2⟩,h3⟩,h4⟩:=hB;have ho':l.toArray[i]?=some o:=by rw [nth_get];exact ho
 exact wpAnyH_first ho' (Region.noSelect_spec h1) (fun _ _ _ h=>h) (f:=40) k listed a w (closB_spec h2) (fun j _ hj=>(by cases hj)) (Region.free_spec ho' h4) (by simpa using h3) (.inl ⟨hw,hy⟩) hS h
end
section
open Go.RowKit Go.Maps
theorem wf_u64_nat {x:Nat} (h:x < 18446744073709551616):(Lit.int .u64 (x:Int)).wf=true:=by
 exact WalkArith.wf_u64 ⟨oM,oM⟩
theorem mem_insert {H:Type} {x p:Lit × DataW H}:∀ {l:List (Lit × DataW H)},p∈DataW.insert x l→p=x∨p∈l
 | [],h=>by simp [DataW.insert] at h;exact .inl h
 | y :: r,h=>by
  unfold DataW.insert at h;split at h
  ·rw [List.mem_cons] at h;exact h
  ·rw [List.mem_cons] at h
   rcases h with h | h
   ·exact .inr (by rw [h];exact List.mem_cons_self ..)
   ·exact (mem_insert h).imp id (List.mem_cons_of_mem _)
theorem insert_self {H:Type} (x:Lit × DataW H):∀ l:List (Lit × DataW H),x∈DataW.insert x l
 | []=>by simp [DataW.insert]
 | y :: r=>by
  unfold DataW.insert;split
  ·exact List.mem_cons_self ..
  ·exact List.mem_cons_of_mem _ (insert_self x r)
theorem insert_old {H:Type} {x p:Lit × DataW H}:∀ {l:List (Lit × DataW H)},p∈l→p∈DataW.insert x l
 | y :: r,h=>by
  unfold DataW.insert;split
  ·exact List.mem_cons_of_mem _ h
  ·rcases List.mem_cons.1 h with h | h
   ·rw [h];exact List.mem_cons_self ..
   ·exact List.mem_cons_of_mem _ (insert_old h)
def RetFlush (w:World) (d nb F:Nat) (exe:Int) (l:List (Lit × DataW Unit)) (i x:Nat) (e:Ending) (w':World):Prop :=
 e = .returned (.tuple #[])∧w'.ownsMap Tryz.prog 3 (plainElem Tryz.prog 32) nb (F+1) ((DataW.map l).put (.int .i64 (i:Int)) (.lit (.int .u64 (x:Int)))) ∧
  (w.setCell ⟨d,14,none⟩ (.int .u64 (IntKind.u64.wrap (exe+1)))).drew.grownBy w' (some nb)
theorem flush_core (L d th lb nb:Nat) (exe:Int) (off F dn:Nat) (hA:Option Addr) (m hc:Nat) (l:List (Lit × DataW Unit)) (w:World) (hlt:off < 64 * L) (hL:L≤4096) (hm:dn+m≤1000000000) (hF:F < 1000000000)
  (f0:w.cell? ⟨th,0,none⟩=some (.pointer (some ⟨d,0,none⟩))) (f2:w.cell? ⟨d,2,none⟩=some (.slice (some ⟨lb,0,none⟩) L L)) (f11:w.cell? ⟨d,11,none⟩=some (.bool false)) (f12:w.cell? ⟨d,12,none⟩=some (.bool false)) (f14:w.cell? ⟨d,14,none⟩=some (.int .u64 exe)) (z14:w.frozen? ⟨d,14,none⟩=false)
  (f3:w.cell? ⟨th,3,none⟩=some (.map (some nb))) (fd:w.cell? ⟨lb,off / 64 * 2,none⟩=some (.int .u64 (dn:Int))) (fl:w.cell? ⟨lb,off / 64 * 2+1,none⟩=some (.slice hA m hc))
  (own:w.ownsMap Tryz.prog 3 (plainElem Tryz.prog 32) nb F (.map l))
  (n1:d≠th) (n2:d≠lb) (n3:nb≠d) :
  Calls Tryz.prog 427 #[.pointer (some ⟨th,0,none⟩), .int .u64 (off:Int)] w (RetFlush w d nb F exe l (off / 64) (dn+m)):=by
 have e1:decide ((off:Int) < (L:Int) * 64)=true:=dT;have e5:decide (off < L * 64)=true:=dT;have e6:(off:Int) / 64 < (L:Int):=oM;have e7:(0:Int)≤(off:Int) / 64:=oM;have e8:((off:Int) / 64).toNat=off / 64:=oM;have m1:=n1.symm;have m2:=n2.symm;have u1:IntKind.u64.wrap (m:Int)=(m:Int):=by rw [IntKind.wrap_u64];omega
 have u2:IntKind.u64.wrap ((dn:Int)+(m:Int))=(dn:Int)+(m:Int):=by rw [IntKind.wrap_u64];omega
 have HOW:Hid ((w.setCell ⟨d,14,none⟩ (.int .u64 (IntKind.u64.wrap (exe+1)))).drew.ownsMap Tryz.prog 3 (plainElem Tryz.prog 32) nb F (.map l)):=(own.setCell (a:=⟨d,14,none⟩) n3 _).drew;clear own;go_enter Tryz.func427,Tryz.ntmps427
 go_wp2;refine wp_region_script (fun w'=>w'.cell? ⟨th,3,none⟩=some (.map (some nb))∧w'.cell? ⟨lb,off / 64 * 2,none⟩=some (.int .u64 (dn:Int))∧w'.cell? ⟨lb,off / 64 * 2+1,none⟩=some (.slice hA m hc)) 16 [(true,0),(true,1),(true,2),(true,3),(true,4),(true,5),(true,6),(true,7),(true,8),(true,9),(true,10),(true,11),(true,12),(true,13),(true,14),(true,15)] (by kernel_rfl) (by kernel_rfl) ?_ ?_
 ·refine ⟨?_,?_,?_⟩
  ·rw [World.cell?_drew,World.cell?_setCell_other _ _ _ _ (by simp)];exact f3
  ·rw [World.cell?_drew,World.cell?_setCell_other _ _ _ _ (by simp)];exact fd
  ·rw [World.cell?_drew,World.cell?_setCell_other _ _ _ _ (by simp)];exact fl
 clear f0 f2 f11 f12 f14 z14 f3 fd fl e1 e5;refine tkS (.pointer (some ⟨th,0,none⟩)) (fun w' hS=>?_) ?_
 ·go_simp
 simp only [zA,zB,Act.put,zD,zE,zF];refine tkS (.pointer (some ⟨th,0,none⟩)) (fun w' hS=>?_) ?_
 ·go_simp
 simp only [zA,zB,zC,Act.put,zD,zE,zF];refine tkS (.pointer (some ⟨th,3,none⟩)) (fun w' hS=>?_) ?_
 ·go_simp
 simp only [zA,zB,zC,Act.put,zD,zE,zF];refine tkS (.map (some nb)) (fun w' hS=>?_) ?_
 ·obtain ⟨s1,s2,s3⟩:=hS
  go_simp
 simp only [zA,zB,zC,Act.put,zD,zE,zF];refine tkS (.int .i64 ((off:Int) / 64)) (fun w' hS=>?_) ?_
 ·go_simp
 simp only [zA,zB,zC,Act.put,zD,zE,zF];refine tkS (.pointer (some ⟨lb,off / 64 * 2,none⟩)) (fun w' hS=>?_) ?_
 ·go_simp
 simp only [zA,zB,zC,Act.put,zD,zE,zF];refine tkS (.pointer (some ⟨lb,off / 64 * 2,none⟩)) (fun w' hS=>?_) ?_
 ·go_simp
 simp only [zA,zB,zC,Act.put,zD,zE,zF];refine tkS (.pointer (some ⟨lb,off / 64 * 2,none⟩)) (fun w' hS=>?_) ?_
 ·go_simp
 simp only [zA,zB,zC,Act.put,zD,zE,zF];refine tkS (.int .u64 (dn:Int)) (fun w' hS=>?_) ?_
 ·obtain ⟨s1,s2,s3⟩:=hS
  go_simp
 simp only [zA,zB,zC,Act.put,zD,zE,zF];refine tkS (.pointer (some ⟨lb,off / 64 * 2,none⟩)) (fun w' hS=>?_) ?_
 ·go_simp
 simp only [zA,zB,zC,Act.put,zD,zE,zF];refine tkS (.pointer (some ⟨lb,off / 64 * 2,none⟩)) (fun w' hS=>?_) ?_
 ·go_simp
 simp only [zA,zB,zC,Act.put,zD,zE,zF];refine tkS (.pointer (some ⟨lb,off / 64 * 2+1,none⟩)) (fun w' hS=>?_) ?_
 ·go_simp
 simp only [zA,zB,zC,Act.put,zD,zE,zF];refine tkS (.slice hA m hc) (fun w' hS=>?_) ?_
 ·obtain ⟨s1,s2,s3⟩:=hS
  go_simp
 simp only [zA,zB,zC,Act.put,zD,zE,zF];refine tkS (.int .i64 (m:Int)) (fun w' hS=>?_) ?_
 ·go_simp
 simp only [zA,zB,zC,Act.put,zD,zE,zF];refine tkS (.int .u64 (m:Int)) (fun w' hS=>?_) ?_
 ·go_simp
 simp only [zA,zB,zC,Act.put,zD,zE,zF];refine tkS (.int .u64 ((dn:Int)+(m:Int))) (fun w' hS=>?_) ?_
 ·go_simp
 simp only [zA,zB,zC,Act.put,zD,zE,zF];show wpList _ _ _ _ _ _;simp only [List.drop_succ_cons,List.drop_zero];clear u1 u2;go_wp2_with (at_mapUpdate;refine wpList_mapUpdate_own _ rfl _ _ _ 266 rfl 3 32 (int_keyed Tryz.underlying3) Tryz.underlying266 _ nb F (.map l) rfl HOW.out ?q1 _ _ _ rfl rfl (keyOf_int_mk Tryz.underlying3 ?q2) _ [] (plainElem_int Tryz.underlying32 ?q3) ?_;(case q1=>(unfold maxLen;omega));(case q2=>exact WalkArith.wf_i64 ⟨oM,oM⟩);(case q3=>exact WalkArith.wf_u64 ⟨oM,oM⟩);intro w1 hown1 hg1;have HM:=hid hown1;have HG:=hid hg1;clear hown1 hg1)
 refine NoPanic.normal ?_;go_wp2;go_end0;refine ⟨rfl,?_,HG.out⟩;rw [show ((off / 64:Nat):Int)=(off:Int) / 64 by omega,show ((dn+m:Nat):Int)=(dn:Int)+(m:Int) by omega];exact HM.out
section
variable {a:DA} {L T:Nat} {w:World} {S:Fp} {cur:Nat→Nat} {s:LS} {exe:Int} {per cs ls:Array Value} {F:Nat}
theorem flush_any {D N:Nat→Prop} (h:DevC a L T w S cur s exe per cs ls) (hN:NoteM a L w s N F) (hCl:CleanL L s D) (off:Nat) (hlt:off < 64 * L) (hF:F < 1000000000) :
  Calls Tryz.prog 427 #[.pointer (some ⟨a.th 0,0,none⟩), .int .u64 (off:Int)] w (RetDevM a L T w S cur D (fun i=>N i∨i=off / 64) (F+1) (.tuple #[])):=by
 obtain ⟨f0,f2,f11,f1,_⟩:=h.facts (j:=0) oM;have hi:off / 64 < L:=oM;have ho:=h.own _ hi;have hfew:=h.few _ hi;have hT:=h.hT;obtain ⟨hA,hc,hv⟩:=own_slice ho;have hth:=h.thr 0 oM;have n1:a.d≠a.th 0:=h.dev.ne_ hth (by decide);have n2:a.d≠a.lb:=h.dev.ne_ h.linB (by decide);obtain ⟨l0,hmap,hnotes,hns⟩:=hN;have n3:=map_ne_blk hmap h.dev;refine (flush_core L a.d (a.th 0) a.lb (a.nt 0) exe off F (s.dn (off / 64)) hA (s.m (off / 64)) hc l0 w hlt h.hL oM hF f0 f2 f11 (h.dev.cell 12) (h.dev.cell 14) (h.dev.frozen 14) (hth.cell 3)
  (by rw [h.linB.cell,h.linD _ hi]) (by rw [h.linB.cell,h.linH _ hi,hv]) hmap n1 n2 n3).mono ?_
 rintro e w' ⟨rfl,hm',hg⟩;have hne:∀ {g:Nat} {t:TypeId} {cs:Array Value},Blk w g t cs→some g≠some (a.nt 0):=fun hB e=>by injection e with e;exact map_ne_blk hmap hB e.symm
 have k0:∀ {g:Nat} {t:TypeId} {xs:Array Value},Blk w g t xs→g≠a.d→Blk w' g t xs:=fun hB h1=>((hB.far (p:=⟨a.d,14,none⟩) h1 _).drew).grown hg (hne hB)
 have kd:Blk w' a.d _ (devCells a L (IntKind.u64.wrap (exe+1))):=((h.dev.set_ 14 _).drew).grown hg (hne h.dev);have hsz:w.heap.size≤w'.heap.size:=by have:=hg.size;simp at this;exact this
 refine ⟨rfl,S,⟨s,IntKind.u64.wrap (exe+1),per,cs,ls,?_,?_,hCl⟩,?_,Grew.refl _ _⟩
 ·exact
  {h with
   dev:=kd
   perB:=k0 h.perB (h.perB.ne_ h.dev (by decide))
   curB:=k0 h.curB (h.curB.ne_ h.dev (by decide))
   linB:=k0 h.linB (h.linB.ne_ h.dev (by decide))
   own:=fun k hk=>by
    have h1:=h.own k hk;have h2:=(ownsRow_setCell_other h1 (a:=⟨a.d,14,none⟩) (own_blk_ne h1 h.dev (by decide)) (.int .u64 (IntKind.u64.wrap (exe+1)))).drew;refine h2.kept hg ?_;cases hb:(s.h k).ownBlock with
    | none=>exact .inl rfl
    | some g=>exact .inr (fun e=>map_ne_own hmap h1 (by rw [hb];exact e.symm))
   thr:=fun j hj=>k0 (h.thr j hj) ((h.thr j hj).ne_ h.dev (by decide))
   lt:=fun k hk=>by have:=h.lt k hk;omega }
 ·refine ⟨_,hm',fun p hp=>?_,fun i hiN hiL=>?_⟩
  ·rcases mem_insert hp with hp | hp
   ·exact ⟨off / 64,hi,hp⟩
   ·exact hnotes p (List.mem_filter.1 hp).1
  ·by_cases hio:i=off / 64
   ·subst hio
    exact ⟨_,insert_self _ _,rfl⟩
   ·obtain ⟨p,hp,he⟩:=hns i (hiN.resolve_right hio) hiL
    refine ⟨p,insert_old (List.mem_filter.2 ⟨hp,?_⟩),he⟩;rw [he];simp [Lit.sameKey];omega
 ·exact (((Chg.refl S w).setCell (p:=⟨a.d,14,none⟩) (.inl h.sd) _).drew).grown hg (fun g hg'=>by injection hg' with hg';subst hg';exact .inl h.sn)
end
end
end Go.Proofs.YtfkjjoglnmeciaaGreatDoor
