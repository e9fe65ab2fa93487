/- The walks and laws that the claim leans on, part 3. -/
import Derived.Test.YtfkjjoglnmeciaaGreatDoorJab
import Derived.Deep.CutBlock
import Derived.Lib.ItoaNum
import Derived.Lib.AppendZeros
import Derived.Lib.BufferMore
import Derived.Shelf.SlMaps.Clone
import Derived.Shelf.SlIter.Sorted
set_option maxRecDepth 100000
set_option maxHeartbeats 16000000
namespace Go.Proofs.YtfkjjoglnmeciaaGreatDoor
open Go.Lib (hid)
section
open Go.RowKit
theorem map_ne_blk {H:Type} {P:Program} {k:TypeId} {R:Value→Option (DataW H × List MemPlace)} {w:World} {b n g:Nat} {D:DataW H} {t:TypeId} {cs:Array Value} (h:w.ownsMap P k R b n D) (hB:Blk w g t cs):b≠g:=by
 rintro rfl
 obtain ⟨es,clock,h1,_⟩:=h
 have h2:w.heap[b]?=some (.cells cs t (0,0)):=hB
 rw [h1] at h2
 cases h2
theorem map_ne_own {H:Type} {P:Program} {k:TypeId} {R:Value→Option (DataW H × List MemPlace)} {w:World} {b n:Nat} {D:DataW H} (h:w.ownsMap P k R b n D) {base:Nat} {e:TypeId} {size m:Nat} {v:Value} {xs:List Value} (ho:w.ownsRow base e size v m xs):some b≠v.ownBlock:=by
 intro he
 rcases ho.2 with ⟨rfl,_⟩ | ⟨g,cap,cur,rfl,_,hh,_⟩
 ·simp [Value.ownBlock] at he
 ·have:b=g:=by simpa [Value.ownBlock] using he
  subst this
  exact map_ne_blk h (show Blk w b e cur from hh) rfl
theorem own_lt {w:World} {base:Nat} {e:TypeId} {size n:Nat} {v:Value} {xs:List Value} (h:w.ownsRow base e size v n xs) {g:Nat} (hg:v.ownBlock=some g):g < w.heap.size:=(h.lt g hg).2
theorem set_at {cs:Array Value} {j:Nat} {u:Value} (i:Nat) (hj:j < cs.size):(cs.setIfInBounds j u)[i]?=if i=j then some u else cs[i]?:=by
 rw [Array.getElem?_setIfInBounds]
 by_cases h:j=i
 ·subst h;simp [hj]
 ·rw [if_neg h,if_neg (fun e=>h e.symm)]
theorem histOk_snoc {L m:Nat} {xs:List Value} (h:HistOk L m xs) (hl:xs.length=m * 2) (off v:Nat) (ho:off < 64 * L):HistOk L (m+1) (xs++[.int .u64 (off:Int), .int .u64 (v:Int)]):=by
 intro k hk
 rcases Nat.lt_or_ge k m with h1 | h1
 ·obtain ⟨o,u,g1,g2,g3⟩:=h k h1
  exact ⟨o,u,by rw [List.getElem?_append_left (by omega)];exact g1,by rw [List.getElem?_append_left (by omega)];exact g2,g3⟩
 ·obtain rfl:k=m:=by omega
  refine ⟨off,v,?_,?_,ho⟩
  ·rw [List.getElem?_append_right (by omega),hl,Nat.sub_self];rfl
  ·rw [List.getElem?_append_right (by omega),hl,show k * 2+1 - k * 2=1 by omega];rfl
section
variable {a:DA} {L T:Nat} {w:World} {S:Fp} {cur:Nat→Nat} {s:LS} {exe:Int} {per cs ls:Array Value}
theorem store_any {D N:Nat→Prop} (h:DevC a L T w S cur s exe per cs ls) (hN:NoteM a L w s N 0) (hCl:CleanL L s D) (off v:Nat) (h8:off % 8=0) (hlt:off < 64 * L) (hT:T < 1000000000) :
  Calls Tryz.prog 76 #[.pointer (some ⟨a.th 0,0,none⟩), .int .u64 (off:Int), .int .u64 (v:Int)] w (RetDevM a L (T+1) w S (upd cur (off / 8) v) (fun k=>D k∨k=off / 8) (fun _=>False) 0 (.tuple #[])):=by
 obtain ⟨f0,f2,f11,f1,_⟩:=h.facts (j:=0) (by omega)
 have hi:off / 64 < L:=by omega
 have hj:off / 8 < 8 * L:=by omega
 have ho:=h.own _ hi
 have hfew:=h.few _ hi
 obtain ⟨hA,hc,hv⟩:=own_slice ho
 have hth:=h.thr 0 (by omega)
 have n1:a.d≠a.th 0:=h.dev.ne_ hth (by decide)
 have n2:a.d≠a.lb:=h.dev.ne_ h.linB (by decide)
 have n3:a.d≠a.cb:=h.dev.ne_ h.curB (by decide)
 have n4:a.th 0≠a.lb:=hth.ne_ h.linB (by decide)
 have n5:a.th 0≠a.cb:=hth.ne_ h.curB (by decide)
 have n6:a.lb≠a.cb:=h.linB.ne_ h.curB (by decide)
 have n7:a.d≠a.pb:=h.dev.ne_ h.perB (by decide)
 have n8:a.lb≠a.pb:=h.linB.ne_ h.perB (by decide)
 have o1:=own_blk_ne ho h.dev (by decide)
 have o2:=own_blk_ne ho hth (by decide)
 have o3:=own_blk_ne ho h.linB (by decide)
 have o4:=own_blk_ne ho h.curB (by decide)
 have o5:=own_blk_ne ho h.perB (by decide)
 have hcs:=h.curS
 have hcl:=h.curL
 have hls:=h.linS
 refine (store_core L a.cc a.d (a.th 0) a.lb a.cb exe off v hA (s.m (off / 64)) hc (s.xs (off / 64)) (.int .u64 (cur (off / 8):Int)) w (by rw [beq_iff_eq];omega) hlt h.hL (by omega) f0 f2 f11 (h.dev.cell 12) (h.dev.cell 14) (h.dev.frozen 14) f1
  (by rw [h.linB.cell,h.linH _ hi,hv]) (h.linB.frozen _) (hv ▸ ho) (by rw [h.curB.cell];exact h.curI _ hj) (h.curB.frozen _) n1 n2 n3 n4 n5 n6 (hv ▸ o1) (hv ▸ o2) (hv ▸ o3) (hv ▸ o4)).mono ?_
 rintro e w' ⟨rfl,A',m',c',W,hm,ho',hg,hl,rfl⟩
 rw [← hv] at hg hl
 have hsz:w.heap.size+1≤W.heap.size:=by have:=hg.size;simp at this;exact this
 have k0:∀ {g:Nat} {t:TypeId} {xs:Array Value},Blk w g t xs→g≠a.d→some g≠(s.h (off / 64)).ownBlock→Blk W g t xs:=fun hB h1 h2=>((hB.far (p:=⟨a.d,14,none⟩) h1 _).alloc _).grown hg h2
 have kd:Blk W a.d _ (devCells a L (IntKind.u64.wrap (exe+1))):=((h.dev.set_ 14 _).alloc _).grown hg (fun e=>o1 e.symm)
 have kl:=k0 h.linB n2.symm (fun e=>o3 e.symm)
 have kc:=k0 h.curB n3.symm (fun e=>o4 e.symm)
 have kp:=k0 h.perB n7.symm (fun e=>o5 e.symm)
 have kt:∀ j,j < 8→Blk W (a.th j) _ #[.pointer (some ⟨a.d,0,none⟩), .int .i64 (j:Int), .int .i64 0, .map (some (a.nt j))]:=fun j hj'=>k0 (h.thr j hj') ((h.thr j hj').ne_ h.dev (by decide)) (fun e=>own_blk_ne ho (h.thr j hj') (by decide) e.symm)
 have p3:=own_blk_ne ho' kl (by decide)
 have p4:=own_blk_ne ho' kc (by decide)
 obtain ⟨l0,hmap,hnotes,_⟩:=hN
 have hmW:W.ownsMap Tryz.prog 3 (plainElem Tryz.prog 32) (a.nt 0) 0 (.map l0):=((hmap.setCell (a:=⟨a.d,14,none⟩) (map_ne_blk hmap h.dev) _).alloc _).kept hg (map_ne_own hmap ho)
 have hl0:l0=[]:=by
  have:=hmap.size_le
  exact List.eq_nil_of_length_eq_zero (by simpa [Maps.size] using this)
 refine ⟨rfl,fun k=>S k∨(Value.slice A' m' c').ownBlock=some k,⟨⟨s.dn,fun k=>if k=off / 64 then m' else s.m k,fun k=>if k=off / 64 then .slice A' m' c' else s.h k,fun k=>if k=off / 64 then s.xs (off / 64)++[.int .u64 (off:Int), .int .u64 (v:Int)] else s.xs k,s.pw,fun k=>if k=off / 64 then s.ws (off / 64)++[(off,v)] else s.ws k⟩,IntKind.u64.wrap (exe+1),per,cs.setIfInBounds (off / 8) (.int .u64 (v:Int)),ls.setIfInBounds (off / 64 * 2+1) (.slice A' m' c'),?_,?_,?_⟩,?_,?_⟩
 ·have hold:∀ k,k < L→k≠off / 64→((W.setCell ⟨a.lb,off / 64 * 2+1,none⟩ (.slice A' m' c')).setCell ⟨a.cb,off / 8,none⟩ (.int .u64 (v:Int))).ownsRow 0 _ 2 (s.h k) (s.m k) (s.xs k):=fun k hk hne=>by
   have h1:=h.own k hk
   have h2:=((ownsRow_setCell_other h1 (a:=⟨a.d,14,none⟩) (own_blk_ne h1 h.dev (by decide)) (.int .u64 (IntKind.u64.wrap (exe+1)))).alloc (.cells #[.int .u64 (off:Int), .int .u64 (v:Int)] 114)).kept hg ?_
   ·have h3:=own_blk_ne h2 kl (by decide)
    have h4:=own_blk_ne h2 kc (by decide)
    exact ownsRow_setCell_other (ownsRow_setCell_other h2 (a:=⟨a.lb,off / 64 * 2+1,none⟩) h3 _) (a:=⟨a.cb,off / 8,none⟩) h4 _
   ·cases hb:(s.h k).ownBlock with
    | none=>exact .inl rfl
    | some g=>exact .inr (fun e=>hne (h.apart k _ g hk hi hb e.symm))
  exact
  {dev:=(kd.far (p:=⟨a.lb,off / 64 * 2+1,none⟩) n2 _).far (p:=⟨a.cb,off / 8,none⟩) n3 _
   perB:=(kp.far (p:=⟨a.lb,off / 64 * 2+1,none⟩) n8.symm _).far (p:=⟨a.cb,off / 8,none⟩) h.ne _
   perS:=h.perS
   perI:=h.perI
   curB:=(kc.far (p:=⟨a.lb,off / 64 * 2+1,none⟩) n6.symm _).set_ (off / 8) _
   curS:=by simpa using h.curS
   curL:=h.curL
   curM:=h.curM
   curI:=fun k hk=>by
    rw [set_at k (by omega)]
    unfold upd
    by_cases hkj:k=off / 8
    ·rw [if_pos hkj,if_pos hkj]
    ·rw [if_neg hkj,if_neg hkj];exact h.curI k hk
   linB:=((kl.set_ (off / 64 * 2+1) _).far (p:=⟨a.cb,off / 8,none⟩) n6 _)
   linS:=by simpa using h.linS
   linD:=fun k hk=>by rw [set_at _ (by omega),if_neg (by omega)];exact h.linD k hk
   linH:=fun k hk=>by
    rw [set_at _ (by omega)]
    by_cases hki:k=off / 64
    ·rw [if_pos (by omega)];simp only [if_pos hki]
    ·rw [if_neg (by omega)];simp only [if_neg hki];exact h.linH k hk
   own:=fun k hk=>by
    by_cases hki:k=off / 64
    ·simp only [if_pos hki]
     exact ownsRow_setCell_other (ownsRow_setCell_other ho' (a:=⟨a.lb,off / 64 * 2+1,none⟩) p3 _) (a:=⟨a.cb,off / 8,none⟩) p4 _
    ·simp only [if_neg hki]
     exact hold k hk hki
   ok:=fun k hk=>by
    by_cases hki:k=off / 64
    ·simp only [if_pos hki,hm]
     exact histOk_snoc (h.ok _ hi) ho.1 off v hlt
    ·simp only [if_neg hki]
     exact h.ok k hk
   few:=fun k hk=>by
    have:=h.few k hk
    by_cases hki:k=off / 64
    ·subst hki;simp only [if_true];omega
    ·simp only [if_neg hki];omega
   apart:=fun x y g hx hy h1 h2=>by
    by_cases hx':x=off / 64 <;> by_cases hy':y=off / 64
    ·omega
    ·simp only [if_pos hx'] at h1
     simp only [if_neg hy'] at h2
     rcases hl with hl | hl
     ·rw [hl] at h1;have:=h.apart _ y g hi hy h1 h2;omega
     ·rw [hl] at h1
      have h3:=own_lt (h.own y hy) h2
      injection h1 with h1
      omega
    ·simp only [if_neg hx'] at h1
     simp only [if_pos hy'] at h2
     rcases hl with hl | hl
     ·rw [hl] at h2;have:=h.apart x _ g hx hi h1 h2;omega
     ·rw [hl] at h2
      have h3:=own_lt (h.own x hx) h1
      injection h2 with h2
      omega
    ·simp only [if_neg hx'] at h1
     simp only [if_neg hy'] at h2
     exact h.apart x y g hx hy h1 h2
   thr:=fun j hj'=>((kt j hj').far (p:=⟨a.lb,off / 64 * 2+1,none⟩) ((h.thr j hj').ne_ h.linB (by decide)) _).far (p:=⟨a.cb,off / 8,none⟩) ((h.thr j hj').ne_ h.curB (by decide)) _
   sd := .inl h.sd
   sp := .inl h.sp
   sc := .inl h.sc
   sl := .inl h.sl
   sn := .inl h.sn
   st:=fun j hj' => .inl (h.st j hj')
   sh:=fun k g hk hg'=>by
    by_cases hki:k=off / 64
    ·simp only [if_pos hki] at hg';exact .inr hg'
    ·simp only [if_neg hki] at hg';exact .inl (h.sh k g hk hg')
   lt:=fun k hk=>by
    have hsz':((W.setCell ⟨a.lb,off / 64 * 2+1,none⟩ (.slice A' m' c')).setCell ⟨a.cb,off / 8,none⟩ (.int .u64 (v:Int))).heap.size=W.heap.size:=by simp
    rw [hsz']
    rcases hk with hk | hk
    ·have:=h.lt k hk;omega
    ·exact own_lt ho' hk
   ne:=h.ne
   hL:=h.hL
   hT:=by omega
   pv:=h.pv
   hx:=fun k hk=>by
    by_cases hki:k=off / 64
    ·simp only [if_pos hki]
     rw [h.hx _ hi]
     simp [wrCells]
    ·simp only [if_neg hki]
     exact h.hx k hk
   lin:=fun k hk e he=>by
    by_cases hki:k=off / 64
    ·simp only [if_pos hki] at he
     rcases List.mem_append.1 he with he | he
     ·rw [hki];exact h.lin _ hi e he
     ·simp only [List.mem_cons,List.not_mem_nil,or_false] at he
      rw [he];exact hki.symm
    ·simp only [if_neg hki] at he
     exact h.lin k hk e he
   link:=fun k hk=>by
    by_cases hki:k / 8=off / 64
    ·simp only [if_pos hki]
     rw [wrS_snoc]
     unfold upd
     by_cases hkj:k=off / 8
     ·rw [if_pos hkj,if_pos hkj]
     ·rw [if_neg hkj,if_neg hkj,← hki]
      exact h.link k hk
    ·simp only [if_neg hki]
     unfold upd
     rw [if_neg (by omega)]
     exact h.link k hk }
 ·refine ⟨l0,?_,(fun p hp=>by rw [hl0] at hp;cases hp),fun _ h=>h.elim⟩
  have h1:=hmW.setCell (a:=⟨a.lb,off / 64 * 2+1,none⟩) (map_ne_blk hmW kl) (.slice A' m' c')
  exact h1.setCell (a:=⟨a.cb,off / 8,none⟩) (map_ne_blk hmW kc) _
 ·intro k hk hnd e he
  by_cases hki:k / 8=off / 64
  ·simp only [if_pos hki] at he
   rcases List.mem_append.1 he with he | he
   ·exact hCl k hk (fun hd=>hnd (.inl hd)) e (by rw [hki];exact he)
   ·simp only [List.mem_cons,List.not_mem_nil,or_false] at he
    subst he
    exact fun e2=>hnd (.inr e2.symm)
  ·simp only [if_neg hki] at he
   exact hCl k hk (fun hd=>hnd (.inl hd)) e he
 ·have c1:Chg S w W:=(((Chg.refl S w).setCell (p:=⟨a.d,14,none⟩) (.inl h.sd) _).alloc _).grown hg (fun g hg' => .inl (h.sh _ g hi hg'))
  exact (c1.setCell (p:=⟨a.lb,off / 64 * 2+1,none⟩) (.inl h.sl) _).setCell (p:=⟨a.cb,off / 8,none⟩) (.inl h.sc) _
 ·intro k hk
  rcases hk with hk | hk
  ·exact .inl hk
  ·rcases hl with hl | hl
   ·rw [hl] at hk;exact .inl (h.sh _ k hi hk)
   ·rw [hl] at hk
    injection hk with hk
    exact .inr (by omega)
end
end
section
open Go.RowKit Go.Maps Go.Shelf
theorem wrS_other:∀ (l:List (Nat × Nat)) (cur:Nat→Nat) (k:Nat),(∀ e∈l,e.1 / 8≠k)→wrS cur l k=cur k
 | [],_,_,_=>rfl
 | e :: l,cur,k,h=>by
  show wrS (upd cur (e.1 / 8) e.2) l k=cur k
  rw [wrS_other l _ k (fun x hx=>h x (by simp [hx]))]
  have:=h e (by simp)
  simp [upd];omega
theorem wrS_get:∀ (l:List (Nat × Nat)) (cur:Nat→Nat),(l.map (·.1)).Nodup→(∀ e∈l,e.1 % 8=0)→∀ e∈l,wrS cur l (e.1 / 8)=e.2
 | [],_,_,_,_,h=>by simp at h
 | x :: l,cur,hn,ha,e,he=>by
  show wrS (upd cur (x.1 / 8) x.2) l (e.1 / 8)=e.2
  simp only [List.map_cons,List.nodup_cons] at hn
  rcases List.mem_cons.1 he with rfl | he
  ·rw [wrS_other l _ _ (fun y hy h=>hn.1 (by
    have h1:=ha y (by simp [hy]);have h2:=ha e (by simp)
    have:y.1=e.1:=by omega
    exact List.mem_map.2 ⟨y,hy,this⟩))]
   simp [upd]
  ·exact wrS_get l _ hn.2 (fun y hy=>ha y (by simp [hy])) e he
theorem wrS_bnd:∀ (l:List (Nat × Nat)) (cur:Nat→Nat),(∀ i,cur i < 18446744073709551616)→(∀ e∈l,e.2 < 18446744073709551616)→∀ i,wrS cur l i < 18446744073709551616
 | [],_,h,_,i=>h i
 | x :: l,cur,h,hl,i=>wrS_bnd l (upd cur (x.1 / 8) x.2) (fun j=>by
   unfold upd
   split
   ·exact hl x (by simp)
   ·exact h j) (fun e he=>hl e (by simp [he])) i
section
variable {cur base:Nat→Nat} {D:DataW Unit} {ws:List (Nat × Nat)}
end
end
section
open Go.RowKit Go.Maps
def closB (md:Region.Mode) (ops:Array Oper) (listed:Array Bool):Bool :=
 (List.range ops.size).all fun j => !listed.getD j false || (match ops[j]? with | some oj=>oj.after.toList.all fun e => !Region.binds md e || listed.getD e.on false | none=>true)
theorem closB_spec {md:Region.Mode} {ops:Array Oper} {listed:Array Bool} (h:closB md ops listed=true):Clos md ops listed:=by
 refine ⟨fun j oj hj hl e he hb=>?_⟩
 have hlt:j < ops.size:=(Array.getElem?_eq_some_iff.1 hj).1
 have h1:=List.all_eq_true.1 h j (List.mem_range.2 hlt)
 rw [hl,hj] at h1
 simp only [Bool.not_true,Bool.false_or] at h1
 have h2:=List.all_eq_true.1 h1 e (by simpa using he)
 rw [hb] at h2
 simpa using h2
def freeB (md:Region.Mode) (l:List Oper) (listed:Array Bool) (i:Nat):Bool :=
 Region.noSelect l.toArray && closB md l.toArray listed && (Region.ready md l.toArray listed).contains i && Region.free md l.toArray listed i
theorem wpAnyH_free {P:Program} {md:Region.Mode} {ops:Array Oper} {Q:Exit→Act→World→Prop} {S:World→Prop} {l:List Oper} (hl:ops=l.toArray) {k i:Nat} {listed:Array Bool} {a:Act} {w:World} {o:Oper} (v:Value) (ho:nth l i=some o) (hB:freeB md l listed i=true) (hw:Region.wanted o (yielded ops a.tmps)=true) (hy:∀ w,S w→(execOp a.eval o).run P w = .ok (.value v) w) (hS:S w)
  (h:wpAnyH P md ops (NoPanic Q) S (fun _=>true) k (listed.setIfInBounds i true) (a.put o.dst v) w):wpAnyH P md ops (NoPanic Q) S (fun _=>true) (k+1) listed a w:=by
 subst hl
 simp only [freeB,Bool.and_eq_true] at hB
 obtain ⟨⟨⟨h1,h2⟩,h3⟩,h4⟩:=hB
 have ho':l.toArray[i]?=some o:=by rw [nth_get];exact ho
 exact wpAnyH_first ho' (Region.noSelect_spec h1) (fun _ _ _ h=>h) (f:=40) k listed a w (closB_spec h2) (fun j _ hj=>(by cases hj)) (Region.free_spec ho' h4) (by simpa using h3) (.inl ⟨hw,hy⟩) hS h
end
section
open Go.RowKit Go.Maps
theorem wf_u64_nat {x:Nat} (h:x < 18446744073709551616):(Lit.int .u64 (x:Int)).wf=true:=by
 exact WalkArith.wf_u64 ⟨by omega,by omega⟩
theorem mem_insert {H:Type} {x p:Lit × DataW H}:∀ {l:List (Lit × DataW H)},p∈DataW.insert x l→p=x∨p∈l
 | [],h=>by simp [DataW.insert] at h;exact .inl h
 | y :: r,h=>by
  unfold DataW.insert at h
  split at h
  ·rw [List.mem_cons] at h;exact h
  ·rw [List.mem_cons] at h
   rcases h with h | h
   ·exact .inr (by rw [h];exact List.mem_cons_self ..)
   ·exact (mem_insert h).imp id (List.mem_cons_of_mem _)
theorem insert_self {H:Type} (x:Lit × DataW H):∀ l:List (Lit × DataW H),x∈DataW.insert x l
 | []=>by simp [DataW.insert]
 | y :: r=>by
  unfold DataW.insert
  split
  ·exact List.mem_cons_self ..
  ·exact List.mem_cons_of_mem _ (insert_self x r)
theorem insert_old {H:Type} {x p:Lit × DataW H}:∀ {l:List (Lit × DataW H)},p∈l→p∈DataW.insert x l
 | y :: r,h=>by
  unfold DataW.insert
  split
  ·exact List.mem_cons_of_mem _ h
  ·rcases List.mem_cons.1 h with h | h
   ·rw [h];exact List.mem_cons_self ..
   ·exact List.mem_cons_of_mem _ (insert_old h)
def RetFlush (w:World) (d nb F:Nat) (exe:Int) (l:List (Lit × DataW Unit)) (i x:Nat) (e:Ending) (w':World):Prop :=
 e = .returned (.tuple #[])∧w'.ownsMap Tryz.prog 3 (plainElem Tryz.prog 32) nb (F+1) ((DataW.map l).put (.int .i64 (i:Int)) (.lit (.int .u64 (x:Int)))) ∧
  (w.setCell ⟨d,14,none⟩ (.int .u64 (IntKind.u64.wrap (exe+1)))).drew.grownBy w' (some nb)
theorem flush_core (L d th lb nb:Nat) (exe:Int) (off F dn:Nat) (hA:Option Addr) (m hc:Nat) (l:List (Lit × DataW Unit)) (w:World) (hlt:off < 64 * L) (hL:L≤4096) (hm:dn+m≤1000000000) (hF:F < 1000000000)
  (f0:w.cell? ⟨th,0,none⟩=some (.pointer (some ⟨d,0,none⟩))) (f2:w.cell? ⟨d,2,none⟩=some (.slice (some ⟨lb,0,none⟩) L L)) (f11:w.cell? ⟨d,11,none⟩=some (.bool false)) (f12:w.cell? ⟨d,12,none⟩=some (.bool false)) (f14:w.cell? ⟨d,14,none⟩=some (.int .u64 exe)) (z14:w.frozen? ⟨d,14,none⟩=false)
  (f3:w.cell? ⟨th,3,none⟩=some (.map (some nb))) (fd:w.cell? ⟨lb,off / 64 * 2,none⟩=some (.int .u64 (dn:Int))) (fl:w.cell? ⟨lb,off / 64 * 2+1,none⟩=some (.slice hA m hc))
  (own:w.ownsMap Tryz.prog 3 (plainElem Tryz.prog 32) nb F (.map l))
  (n1:d≠th) (n2:d≠lb) (n3:nb≠d) :
  Calls Tryz.prog 427 #[.pointer (some ⟨th,0,none⟩), .int .u64 (off:Int)] w (RetFlush w d nb F exe l (off / 64) (dn+m)):=by
 have e1:decide ((off:Int) < (L:Int) * 64)=true:=decide_eq_true (by omega)
 have e5:decide (off < L * 64)=true:=decide_eq_true (by omega)
 have e6:(off:Int) / 64 < (L:Int):=by omega
 have e7:(0:Int)≤(off:Int) / 64:=by omega
 have e8:((off:Int) / 64).toNat=off / 64:=by omega
 have m1:=n1.symm
 have m2:=n2.symm
 have u1:IntKind.u64.wrap (m:Int)=(m:Int):=by rw [IntKind.wrap_u64];omega
 have u2:IntKind.u64.wrap ((dn:Int)+(m:Int))=(dn:Int)+(m:Int):=by rw [IntKind.wrap_u64];omega
 have HOW:Hid ((w.setCell ⟨d,14,none⟩ (.int .u64 (IntKind.u64.wrap (exe+1)))).drew.ownsMap Tryz.prog 3 (plainElem Tryz.prog 32) nb F (.map l)):=(own.setCell (a:=⟨d,14,none⟩) n3 _).drew
 clear own
 go_enter Tryz.func427,Tryz.ntmps427
 go_wp2
 refine wp_region_script (fun w'=>w'.cell? ⟨th,3,none⟩=some (.map (some nb))∧w'.cell? ⟨lb,off / 64 * 2,none⟩=some (.int .u64 (dn:Int))∧w'.cell? ⟨lb,off / 64 * 2+1,none⟩=some (.slice hA m hc)) 16 [(true,0),(true,1),(true,2),(true,3),(true,4),(true,5),(true,6),(true,7),(true,8),(true,9),(true,10),(true,11),(true,12),(true,13),(true,14),(true,15)] (by kernel_rfl) (by kernel_rfl) ?_ ?_
 ·refine ⟨?_,?_,?_⟩
  ·rw [World.cell?_drew,World.cell?_setCell_other _ _ _ _ (by simp)];exact f3
  ·rw [World.cell?_drew,World.cell?_setCell_other _ _ _ _ (by simp)];exact fd
  ·rw [World.cell?_drew,World.cell?_setCell_other _ _ _ _ (by simp)];exact fl
 clear f0 f2 f11 f12 f14 z14 f3 fd fl e1 e5
 refine wpScript_take (.pointer (some ⟨th,0,none⟩)) (by rfl) (by rfl) (fun w' hS=>?_) ?_
 ·go_simp
 simp only [zA,zB,Act.put,zD,zE,zF]
 refine wpScript_take (.pointer (some ⟨th,0,none⟩)) (by rfl) (by rfl) (fun w' hS=>?_) ?_
 ·go_simp
 simp only [zA,zB,zC,Act.put,zD,zE,zF]
 refine wpScript_take (.pointer (some ⟨th,3,none⟩)) (by rfl) (by rfl) (fun w' hS=>?_) ?_
 ·go_simp
 simp only [zA,zB,zC,Act.put,zD,zE,zF]
 refine wpScript_take (.map (some nb)) (by rfl) (by rfl) (fun w' hS=>?_) ?_
 ·obtain ⟨s1,s2,s3⟩:=hS
  go_simp
 simp only [zA,zB,zC,Act.put,zD,zE,zF]
 refine wpScript_take (.int .i64 ((off:Int) / 64)) (by rfl) (by rfl) (fun w' hS=>?_) ?_
 ·go_simp
 simp only [zA,zB,zC,Act.put,zD,zE,zF]
 refine wpScript_take (.pointer (some ⟨lb,off / 64 * 2,none⟩)) (by rfl) (by rfl) (fun w' hS=>?_) ?_
 ·go_simp
 simp only [zA,zB,zC,Act.put,zD,zE,zF]
 refine wpScript_take (.pointer (some ⟨lb,off / 64 * 2,none⟩)) (by rfl) (by rfl) (fun w' hS=>?_) ?_
 ·go_simp
 simp only [zA,zB,zC,Act.put,zD,zE,zF]
 refine wpScript_take (.pointer (some ⟨lb,off / 64 * 2,none⟩)) (by rfl) (by rfl) (fun w' hS=>?_) ?_
 ·go_simp
 simp only [zA,zB,zC,Act.put,zD,zE,zF]
 refine wpScript_take (.int .u64 (dn:Int)) (by rfl) (by rfl) (fun w' hS=>?_) ?_
 ·obtain ⟨s1,s2,s3⟩:=hS
  go_simp
 simp only [zA,zB,zC,Act.put,zD,zE,zF]
 refine wpScript_take (.pointer (some ⟨lb,off / 64 * 2,none⟩)) (by rfl) (by rfl) (fun w' hS=>?_) ?_
 ·go_simp
 simp only [zA,zB,zC,Act.put,zD,zE,zF]
 refine wpScript_take (.pointer (some ⟨lb,off / 64 * 2,none⟩)) (by rfl) (by rfl) (fun w' hS=>?_) ?_
 ·go_simp
 simp only [zA,zB,zC,Act.put,zD,zE,zF]
 refine wpScript_take (.pointer (some ⟨lb,off / 64 * 2+1,none⟩)) (by rfl) (by rfl) (fun w' hS=>?_) ?_
 ·go_simp
 simp only [zA,zB,zC,Act.put,zD,zE,zF]
 refine wpScript_take (.slice hA m hc) (by rfl) (by rfl) (fun w' hS=>?_) ?_
 ·obtain ⟨s1,s2,s3⟩:=hS
  go_simp
 simp only [zA,zB,zC,Act.put,zD,zE,zF]
 refine wpScript_take (.int .i64 (m:Int)) (by rfl) (by rfl) (fun w' hS=>?_) ?_
 ·go_simp
 simp only [zA,zB,zC,Act.put,zD,zE,zF]
 refine wpScript_take (.int .u64 (m:Int)) (by rfl) (by rfl) (fun w' hS=>?_) ?_
 ·go_simp
 simp only [zA,zB,zC,Act.put,zD,zE,zF]
 refine wpScript_take (.int .u64 ((dn:Int)+(m:Int))) (by rfl) (by rfl) (fun w' hS=>?_) ?_
 ·go_simp
 simp only [zA,zB,zC,Act.put,zD,zE,zF]
 show wpList _ _ _ _ _ _
 simp only [List.drop_succ_cons,List.drop_zero]
 clear u1 u2
 go_wp2_with (at_mapUpdate;refine wpList_mapUpdate_own _ rfl _ _ _ 266 rfl 3 32 (int_keyed Tryz.underlying3) Tryz.underlying266 _ nb F (.map l) rfl HOW.out ?q1 _ _ _ rfl rfl (keyOf_int_mk Tryz.underlying3 ?q2) _ [] (plainElem_int Tryz.underlying32 ?q3) ?_;(case q1=>(unfold maxLen;omega));(case q2=>exact WalkArith.wf_i64 ⟨by omega,by omega⟩);(case q3=>exact WalkArith.wf_u64 ⟨by omega,by omega⟩);intro w1 hown1 hg1;have HM:=hid hown1;have HG:=hid hg1;clear hown1 hg1)
 refine NoPanic.normal ?_
 go_wp2
 go_end0
 refine ⟨rfl,?_,HG.out⟩
 rw [show ((off / 64:Nat):Int)=(off:Int) / 64 by omega,show ((dn+m:Nat):Int)=(dn:Int)+(m:Int) by omega]
 exact HM.out
section
variable {a:DA} {L T:Nat} {w:World} {S:Fp} {cur:Nat→Nat} {s:LS} {exe:Int} {per cs ls:Array Value} {F:Nat}
theorem flush_any {D N:Nat→Prop} (h:DevC a L T w S cur s exe per cs ls) (hN:NoteM a L w s N F) (hCl:CleanL L s D) (off:Nat) (hlt:off < 64 * L) (hF:F < 1000000000) :
  Calls Tryz.prog 427 #[.pointer (some ⟨a.th 0,0,none⟩), .int .u64 (off:Int)] w (RetDevM a L T w S cur D (fun i=>N i∨i=off / 64) (F+1) (.tuple #[])):=by
 obtain ⟨f0,f2,f11,f1,_⟩:=h.facts (j:=0) (by omega)
 have hi:off / 64 < L:=by omega
 have ho:=h.own _ hi
 have hfew:=h.few _ hi
 have hT:=h.hT
 obtain ⟨hA,hc,hv⟩:=own_slice ho
 have hth:=h.thr 0 (by omega)
 have n1:a.d≠a.th 0:=h.dev.ne_ hth (by decide)
 have n2:a.d≠a.lb:=h.dev.ne_ h.linB (by decide)
 obtain ⟨l0,hmap,hnotes,hns⟩:=hN
 have n3:=map_ne_blk hmap h.dev
 refine (flush_core L a.d (a.th 0) a.lb (a.nt 0) exe off F (s.dn (off / 64)) hA (s.m (off / 64)) hc l0 w hlt h.hL (by omega) hF f0 f2 f11 (h.dev.cell 12) (h.dev.cell 14) (h.dev.frozen 14) (hth.cell 3)
  (by rw [h.linB.cell,h.linD _ hi]) (by rw [h.linB.cell,h.linH _ hi,hv]) hmap n1 n2 n3).mono ?_
 rintro e w' ⟨rfl,hm',hg⟩
 have hne:∀ {g:Nat} {t:TypeId} {cs:Array Value},Blk w g t cs→some g≠some (a.nt 0):=fun hB e=>by injection e with e;exact map_ne_blk hmap hB e.symm
 have k0:∀ {g:Nat} {t:TypeId} {xs:Array Value},Blk w g t xs→g≠a.d→Blk w' g t xs:=fun hB h1=>((hB.far (p:=⟨a.d,14,none⟩) h1 _).drew).grown hg (hne hB)
 have kd:Blk w' a.d _ (devCells a L (IntKind.u64.wrap (exe+1))):=((h.dev.set_ 14 _).drew).grown hg (hne h.dev)
 have hsz:w.heap.size≤w'.heap.size:=by have:=hg.size;simp at this;exact this
 refine ⟨rfl,S,⟨s,IntKind.u64.wrap (exe+1),per,cs,ls,?_,?_,hCl⟩,?_,Grew.refl _ _⟩
 ·exact
  {h with
   dev:=kd
   perB:=k0 h.perB (h.perB.ne_ h.dev (by decide))
   curB:=k0 h.curB (h.curB.ne_ h.dev (by decide))
   linB:=k0 h.linB (h.linB.ne_ h.dev (by decide))
   own:=fun k hk=>by
    have h1:=h.own k hk
    have h2:=(ownsRow_setCell_other h1 (a:=⟨a.d,14,none⟩) (own_blk_ne h1 h.dev (by decide)) (.int .u64 (IntKind.u64.wrap (exe+1)))).drew
    refine h2.kept hg ?_
    cases hb:(s.h k).ownBlock with
    | none=>exact .inl rfl
    | some g=>exact .inr (fun e=>map_ne_own hmap h1 (by rw [hb];exact e.symm))
   thr:=fun j hj=>k0 (h.thr j hj) ((h.thr j hj).ne_ h.dev (by decide))
   lt:=fun k hk=>by have:=h.lt k hk;omega }
 ·refine ⟨_,hm',fun p hp=>?_,fun i hiN hiL=>?_⟩
  ·rcases mem_insert hp with hp | hp
   ·exact ⟨off / 64,hi,hp⟩
   ·exact hnotes p (List.mem_filter.1 hp).1
  ·by_cases hio:i=off / 64
   ·subst hio
    exact ⟨_,insert_self _ _,rfl⟩
   ·obtain ⟨p,hp,he⟩:=hns i (hiN.resolve_right hio) hiL
    refine ⟨p,insert_old (List.mem_filter.2 ⟨hp,?_⟩),he⟩
    rw [he]
    simp [Lit.sameKey]
    omega
 ·exact (((Chg.refl S w).setCell (p:=⟨a.d,14,none⟩) (.inl h.sd) _).drew).grown hg (fun g hg'=>by injection hg' with hg';subst hg';exact .inl h.sn)
end
end
section
open Go.RowKit
def Ints (n:Nat) (cs:Array Value) (f:Nat→Nat):Prop:=cs.size=n∧∀ i,i < n→cs[i]?=some (.int .u64 (f i:Int))
theorem Ints.set {n:Nat} {cs:Array Value} {f:Nat→Nat} (h:Ints n cs f) {j:Nat} (hj:j < n) (v:Nat):Ints n (cs.setIfInBounds j (.int .u64 (v:Int))) (upd f j v):=by
 refine ⟨by simpa using h.1,fun i hi=>?_⟩
 rw [set_at i (by rw [h.1];exact hj)]
 unfold upd
 by_cases hij:i=j
 ·rw [if_pos hij,if_pos hij]
 ·rw [if_neg hij,if_neg hij];exact h.2 i hi
def RetApply (w:World) (pb n:Nat) (f:Nat→Nat) (e:Ending) (w':World):Prop:=e = .returned (.tuple #[])∧∃ cs,Blk w' pb 32 cs∧Ints n cs f∧Chg (fun k=>k=pb) w w'
theorem apply_any (L pb g m hc:Nat) (per:Array Value) (xs:List Value) (f:Nat→Nat) (ws:List (Nat × Nat)) (hxs:xs=wrCells ws) (w:World) (hB:Blk w pb 32 per) (hI:Ints (8 * L) per f) (own:w.ownsRow 0 114 2 (.slice (some ⟨g,0,none⟩) m hc) m xs) (hok:HistOk L m xs) (hm:m≤1000000000) (hL:L≤4096) :
  Calls Tryz.prog 192 #[.slice (some ⟨pb,0,none⟩) (8 * L) (8 * L), .slice (some ⟨g,0,none⟩) m hc] w (RetApply w pb (8 * L) (wrS f ws)):=by
 have hne:g≠pb:=fun e=>own_blk_ne own hB (by decide) (by rw [e];rfl)
 have HR:=hid own
 have HOK:=hid hok
 have HX:=hid hxs
 have HWl:Hid (ws.length=m):=hid (by have h1:=own.1;rw [hxs,wrCells_len] at h1;omega)
 have H0:Hid (∃ cs,Blk w pb 32 cs∧Ints (8 * L) cs (wrS f (ws.take 0))∧Chg (fun k=>k=pb) w w):=⟨per,hB,hI,Chg.refl _ _⟩
 have hgl:=(own.lt g rfl).2
 clear own hok hB hI hxs
 go_enter Tryz.func192,Tryz.ntmps192
 go_wp2
 go_loopw [8] (fun i wr=>∃ (k:Nat),k≤m∧i = .int .i64 k∧Hid (∃ cs,Blk wr pb 32 cs∧Ints (8 * L) cs (wrS f (ws.take k))∧Chg (fun k=>k=pb) w wr)) (fun i _=>m - (RowKit.intOf i).toNat)
 case atStart=>exact ⟨0,Nat.zero_le _,rfl,H0⟩
 case round =>
  clear H0
  obtain ⟨k,hk,rfl,H⟩:=hrel
  by_cases hlt:k < m
  ·obtain ⟨cs,hB,hI,hC⟩:=H.out
   obtain ⟨o0,v0,q1,_,hol0⟩:=HOK.out k hlt
   have hkw:k < ws.length:=by rw [HWl.out];exact hlt
   obtain ⟨⟨o,v⟩,hov⟩:∃ e,ws[k]=e:=⟨_,rfl⟩
   have g12:=wrCells_at ws k hkw
   rw [hov] at g12
   obtain ⟨g1,g2⟩:=g12
   simp only at g1 g2
   rw [← HX.out] at g1 g2
   have hol:o < 64 * L:=by
    rw [g1] at q1
    injection q1 with q1
    injection q1 with _ q1
    omega
   have HTk:Hid (wrS f (ws.take (k+1))=upd (wrS f (ws.take k)) (o / 8) v):=hid (by rw [List.take_succ_eq_append_getElem hkw,wrS_snoc,hov])
   clear q1 hol0 hov
   have hcell:∀ j u,xs[j]?=some u→wr.cell? ⟨g,j,none⟩=some u:=fun j u hu=>by
    have h1:=(hC.own HR.out (fun g' hg'=>by simp [Value.ownBlock] at hg';subst hg';exact hne)).cells (g:=g) rfl j u hu
    have ha:(⟨g,0,none⟩:Addr).add j=⟨g,j,none⟩:=by unfold Addr.add;split <;> simp_all
    rw [ha] at h1
    exact h1
   have c1:=hcell _ _ g1
   have c2:=hcell _ _ g2
   obtain ⟨old,hold⟩:∃ old:Int,cs[o / 8]?=some (.int .u64 old):=⟨_,hI.2 (o / 8) (by omega)⟩
   have c3:wr.cell? ⟨pb,o / 8,none⟩=some (.int .u64 old):=by rw [hB.cell];exact hold
   have c4:∀ ob,(wr.alloc ob).cell? ⟨pb,o / 8,none⟩=some (.int .u64 old):=fun ob=>((hB.alloc ob).cell _).trans hold
   have z4:∀ ob,(wr.alloc ob).frozen? ⟨pb,o / 8,none⟩=false:=fun ob=>(hB.alloc ob).frozen _
   have e2:(o:Int) / 8 < 8 * (L:Int):=by omega
   have e3:(0:Int)≤(o:Int) / 8:=by omega
   have e4:((o:Int) / 8).toNat=o / 8:=by omega
   have hz0:(0:Int)≤(k:Int):=by omega
   have hz1:(k:Int) < (m:Int):=by omega
   have hlp:=hB.lt
   have HN:Hid (∃ cs,Blk ((wr.setCell ⟨pb,o / 8,none⟩ (.int .u64 (v:Int))).alloc (.cells #[.int .u64 (o:Int), .int .u64 (v:Int)] 114)) pb 32 cs∧Ints (8 * L) cs (wrS f (ws.take (k+1)))∧Chg (fun k=>k=pb) w ((wr.setCell ⟨pb,o / 8,none⟩ (.int .u64 (v:Int))).alloc (.cells #[.int .u64 (o:Int), .int .u64 (v:Int)] 114))) :=
    ⟨_,(hB.set_ (o / 8) _).alloc _,by rw [HTk.out];exact hI.set (by omega) v,(hC.setCell (p:=⟨pb,o / 8,none⟩) (.inl rfl) _).alloc _⟩
   clear hcell hB hI hC hold g1 g2 H HTk hkw
   go_wp2
   go_roundw
   case rel=>exact ⟨k+1,by omega,by go_num,HN⟩
   case measure=>simp [RowKit.intOf];omega
  ·obtain rfl:m=k:=by omega
   go_wp2
   go_end0
   obtain ⟨cs,hB,hI,hC⟩:=H.out
   rw [List.take_of_length_le (by rw [HWl.out];exact Nat.le_refl _)] at hI
   exact ⟨rfl,cs,hB,hI,hC⟩
theorem blk_set2 {w:World} {g:Nat} {t:TypeId} {cs:Array Value} (h:Blk w g t cs) (j:Nat) (u v:Value):Blk ((w.setCell ⟨g,j,none⟩ u).setCell ⟨g,j,none⟩ v) g t (cs.setIfInBounds j v):=by
 have h1:=(h.set_ j u).set_ j v
 rw [Array.setIfInBounds_setIfInBounds] at h1
 exact h1
def RetPersist (w:World) (pb lb n i:Nat) (dn:Int) (ls:Array Value) (f:Nat→Nat) (e:Ending) (w':World):Prop:=e = .returned (.tuple #[])∧∃ cs,Blk w' pb 32 cs∧Ints n cs f ∧
 Blk w' lb 298 ((ls.setIfInBounds (i * 2) (.int .u64 dn)).setIfInBounds (i * 2+1) (.slice none 0 0))∧Chg (fun k=>k=pb∨k=lb) w w'
theorem persist_core (L d pb lb g m hc i dn:Nat) (per ls:Array Value) (xs:List Value) (f:Nat→Nat) (ws:List (Nat × Nat)) (hxs:xs=wrCells ws) (w:World) (hi:i < L) (hB:Blk w pb 32 per) (hI:Ints (8 * L) per f) (own:w.ownsRow 0 114 2 (.slice (some ⟨g,0,none⟩) m hc) m xs) (hok:HistOk L m xs) (hm:dn+m≤1000000000) (hL:L≤4096)
  (f0:w.cell? ⟨d,0,none⟩=some (.slice (some ⟨pb,0,none⟩) (8 * L) (8 * L))) (f2:w.cell? ⟨d,2,none⟩=some (.slice (some ⟨lb,0,none⟩) L L)) (hl:Blk w lb 298 ls) (l0:ls[i * 2]?=some (.int .u64 (dn:Int))) (l1:ls[i * 2+1]?=some (.slice (some ⟨g,0,none⟩) m hc)) :
  Calls Tryz.prog 428 #[.pointer (some ⟨d,0,none⟩), .int .i64 (i:Int), .int .i64 (m:Int)] w (RetPersist w pb lb (8 * L) i ((dn+m:Nat):Int) ls (wrS f ws)):=by
 have hcap:=own_cap own
 have hne:lb≠pb:=hl.ne_ hB (by decide)
 have c1:w.cell? ⟨lb,i * 2+1,none⟩=some (.slice (some ⟨g,0,none⟩) m hc):=by rw [hl.cell];exact l1
 have HAP:=hid (apply_any L pb g m hc per xs f ws hxs w.drew hB hI own hok (by omega) hL)
 have HL:=hid hl
 have L0:=hid l0
 have L1:=hid l1
 have e6:(i:Int) < (L:Int):=by omega
 have e7:(0:Int)≤(i:Int):=by omega
 have e8:(0:Int)≤(m:Int):=by omega
 have e9:(m:Int)≤(hc:Int):=by omega
 have u1:IntKind.u64.wrap (m:Int)=(m:Int):=by rw [IntKind.wrap_u64];omega
 have u2:IntKind.u64.wrap ((dn:Int)+(m:Int))=(dn:Int)+(m:Int):=by rw [IntKind.wrap_u64];omega
 clear hB hI own hok hl l0 l1 hxs
 go_enter Tryz.func428,Tryz.ntmps428
 go_wp2
 refine wp_region_script (fun w'=>w'.cell? ⟨d,0,none⟩=some (.slice (some ⟨pb,0,none⟩) (8 * L) (8 * L))∧w'.cell? ⟨lb,i * 2+1,none⟩=some (.slice (some ⟨g,0,none⟩) m hc)) 10 [(true,0),(true,1),(true,2),(true,3),(true,4),(true,5),(true,6),(true,7),(true,8),(true,9)] (by kernel_rfl) (by kernel_rfl) ⟨f0,c1⟩ ?_
 clear f0 f2 c1
 refine wpScript_take (.pointer (some ⟨d,0,none⟩)) (by rfl) (by rfl) (fun w' hS=>?_) ?_
 ·go_simp
 simp only [zA,zB,Act.put,zD,zE,zF]
 refine wpScript_take (.pointer (some ⟨d,0,none⟩)) (by rfl) (by rfl) (fun w' hS=>?_) ?_
 ·go_simp
 simp only [zA,zB,zC,Act.put,zD,zE,zF]
 refine wpScript_take (.pointer (some ⟨d,0,none⟩)) (by rfl) (by rfl) (fun w' hS=>?_) ?_
 ·go_simp
 simp only [zA,zB,zC,Act.put,zD,zE,zF]
 refine wpScript_take (.slice (some ⟨pb,0,none⟩) (8 * L) (8 * L)) (by rfl) (by rfl) (fun w' hS=>?_) ?_
 ·obtain ⟨s1,s2⟩:=hS
  go_simp
 simp only [zA,zB,zC,Act.put,zD,zE,zF]
 refine wpScript_take (.pointer (some ⟨lb,i * 2,none⟩)) (by rfl) (by rfl) (fun w' hS=>?_) ?_
 ·go_simp
 simp only [zA,zB,zC,Act.put,zD,zE,zF]
 refine wpScript_take (.pointer (some ⟨lb,i * 2,none⟩)) (by rfl) (by rfl) (fun w' hS=>?_) ?_
 ·go_simp
 simp only [zA,zB,zC,Act.put,zD,zE,zF]
 refine wpScript_take (.pointer (some ⟨lb,i * 2+1,none⟩)) (by rfl) (by rfl) (fun w' hS=>?_) ?_
 ·go_simp
 simp only [zA,zB,zC,Act.put,zD,zE,zF]
 refine wpScript_take (.slice (some ⟨g,0,none⟩) m hc) (by rfl) (by rfl) (fun w' hS=>?_) ?_
 ·obtain ⟨s1,s2⟩:=hS
  go_simp
 simp only [zA,zB,zC,Act.put,zD,zE,zF]
 refine wpScript_take (.int .i64 (m:Int)) (by rfl) (by rfl) (fun w' hS=>?_) ?_
 ·go_simp
 simp only [zA,zB,zC,Act.put,zD,zE,zF]
 refine wpScript_take (.slice (some ⟨g,0,none⟩) m hc) (by rfl) (by rfl) (fun w' hS=>?_) ?_
 ·go_simp
 simp only [zA,zB,zC,Act.put,zD,zE,zF]
 show wpList _ _ _ _ _ _
 simp only [List.drop_succ_cons,List.drop_zero]
 go_wp2_with fail
 refine HAP.out.mono ?_
 rintro e W ⟨rfl,cs,hB,hI,hC⟩
 have hl:Blk W lb 298 ls:=Chg.blk (w:=w) ⟨hC.os,hC.tape,hC.output,hC.size,hC.block⟩ HL.out hne
 have d0:W.cell? ⟨lb,i * 2,none⟩=some (.int .u64 (dn:Int)):=(hl.cell _).trans L0.out
 have d1:W.cell? ⟨lb,i * 2+1,none⟩=some (.slice (some ⟨g,0,none⟩) m hc):=(hl.cell _).trans L1.out
 have z0:=hl.frozen (i * 2)
 have z1:=hl.frozen (i * 2+1)
 have HB:=hid hB
 have HI:=hid hI
 have HC:=hid hC
 have HW:=hid hl
 clear hB hI hC hl HAP
 go_wp2_with fail
 refine NoPanic.normal ?_
 go_wp2
 all_goals
  go_end0
  refine ⟨rfl,cs,?_,HI.out,?_,?_⟩
  ·iterate 3 (refine Blk.far ?_ (fun e=>hne e.symm) _)
   exact HB.out
  ·exact blk_set2 (HW.out.set_ (i * 2) (.int .u64 ((dn:Int)+(m:Int)))) _ _ _
  ·iterate 3 (refine Chg.setCell ?_ (.inl (.inr rfl)) _)
   exact Chg.mono (S:=fun k=>k=pb) (w:=w) ⟨HC.out.os,HC.out.tape,HC.out.output,HC.out.size,HC.out.block⟩ (fun k hk => .inl hk)
end
end Go.Proofs.YtfkjjoglnmeciaaGreatDoor
