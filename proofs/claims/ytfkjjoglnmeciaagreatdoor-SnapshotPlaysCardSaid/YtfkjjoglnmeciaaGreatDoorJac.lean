/- The walks and laws that the claim leans on, part 3. -/
import Derived.Test.YtfkjjoglnmeciaaGreatDoorJab
import Derived.Deep.CutBlock
import Derived.Lib.ItoaNum
import Derived.Lib.AppendZeros
import Derived.Lib.BufferMore
import Derived.Shelf.SlMaps.Clone
import Derived.Shelf.SlIter.Sorted
set_option maxRecDepth 100000
set_option maxHeartbeats 16000000
namespace Go.Proofs.YtfkjjoglnmeciaaGreatDoor
open Go.Lib (hid)
section
open Go.RowKit Go.Maps
def nmI:Value := .iface 439 (.agg #[])
def unI:Value := .iface 440 (.agg #[])
def prI:Value := .iface 446 (.agg #[nmI,unI])
def arC0:Array Value:=#[.int .i64 8,prI]
def arI:Value := .iface 375 (.agg arC0)
theorem methNmW (w : World) : (method 640 439 (.agg #[]) "Words").run Tryz.prog w = .ok (444, .agg #[]) w := by kernel_rfl
theorem methUnW (w : World) : (method 640 440 (.agg #[]) "Words").run Tryz.prog w = .ok (447, .agg #[]) w := by kernel_rfl
theorem methPrW (w : World) : (method 640 446 (.agg #[nmI, unI]) "Words").run Tryz.prog w = .ok (450, .agg #[nmI, unI]) w := by kernel_rfl
theorem methArW (w : World) : (method 640 375 (.agg arC0) "Words").run Tryz.prog w = .ok (268, .agg arC0) w := by kernel_rfl
theorem nmWords_any (w:World):Calls Tryz.prog 444 #[.agg #[]] w fun e w'=>e = .returned (.int .i64 3)∧Below w.heap.size w w':=by
 go_enter Tryz.func444,Tryz.ntmps444
 go_wp2
 go_ret
 exact ⟨rfl,(Below.refl _ _).alloc (Nat.le_refl _) _⟩
theorem unWords_any (w:World):Calls Tryz.prog 447 #[.agg #[]] w fun e w'=>e = .returned (.int .i64 1)∧Below w.heap.size w w':=by
 go_enter Tryz.func447,Tryz.ntmps447
 go_wp2
 go_ret
 exact ⟨rfl,(Below.refl _ _).alloc (Nat.le_refl _) _⟩
theorem nmSize_any (w:World):Calls Tryz.prog 451 #[nmI] w fun e w'=>e = .returned (.int .i64 3)∧Below w.heap.size w w':=by
 have hm:=methNmW
 have hnil:∀ W,(binOp .eql 442 (.iface 439 (.agg #[])) .nilIface).run Tryz.prog W = .ok (.bool false) W:=fun W=>by rfl
 unfold nmI
 go_enter Tryz.func451,Tryz.ntmps451
 go_wp2_with (go_at_call 444;refine (nmWords_any w).mono ?_;rintro e w1 ⟨rfl,hb⟩)
 go_ret
 exact ⟨rfl,hb⟩
theorem unSize_any (w:World):Calls Tryz.prog 452 #[unI] w fun e w'=>e = .returned (.int .i64 1)∧Below w.heap.size w w':=by
 have hm:=methUnW
 have hnil:∀ W,(binOp .eql 444 (.iface 440 (.agg #[])) .nilIface).run Tryz.prog W = .ok (.bool false) W:=fun W=>by rfl
 unfold unI
 go_enter Tryz.func452,Tryz.ntmps452
 go_wp2_with (go_at_call 447;refine (unWords_any w).mono ?_;rintro e w1 ⟨rfl,hb⟩)
 go_ret
 exact ⟨rfl,hb⟩
theorem prWords_any (w:World):Calls Tryz.prog 450 #[.agg #[nmI,unI]] w fun e w'=>e = .returned (.int .i64 4)∧Below w.heap.size w w':=by
 obtain ⟨W1,hW1⟩:∃ W1,w.alloc (.cells #[nmI,unI] 446)=W1:=⟨_,rfl⟩
 have hb1:Below w.heap.size w W1:=by rw [← hW1];exact (Below.refl _ _).alloc (Nat.le_refl _) _
 have hk:Blk W1 w.heap.size 446 #[nmI,unI]:=by rw [← hW1];exact Blk.new _ _ _
 have HW1:=hid hW1
 have HB1:=hid hb1
 have HK:=hid hk
 clear hW1 hb1 hk
 go_enter Tryz.func450,Tryz.ntmps450
 go_upto_region 1 with fail
 rw [HW1.out]
 refine wp_region_scriptH (fun w'=>Below W1.heap.size W1 w') 8 [] [(1,0),(1,1),(1,3),(1,4),(0,2),(0,5),(1,6),(1,7)] (by kernel_rfl) (by kernel_rfl) (Below.refl _ _).drew ?_
 refine wpScriptH_take (.pointer (some ⟨w.heap.size,0,none⟩)) (by rfl) (by rfl) (fun w' hS=>?_) ?_
 ·go_simp
 simp only [zA,zB,Act.put,zD,zE,zF]
 refine wpScriptH_take (nmI) (by rfl) (by rfl) (fun w' hS=>?_) ?_
 ·have c0:w'.cell? ⟨w.heap.size,0,none⟩=some nmI:=(HK.out.below hS HK.out.lt).cell 0
  go_simp
 simp only [zA,zB,zC,Act.put,zD,zE,zF]
 refine wpScriptH_take (.pointer (some ⟨w.heap.size,1,none⟩)) (by rfl) (by rfl) (fun w' hS=>?_) ?_
 ·go_simp
 simp only [zA,zB,zC,Act.put,zD,zE,zF]
 refine wpScriptH_take (unI) (by rfl) (by rfl) (fun w' hS=>?_) ?_
 ·have c0:w'.cell? ⟨w.heap.size,1,none⟩=some unI:=(HK.out.below hS HK.out.lt).cell 1
  go_simp
 simp only [zA,zB,zC,Act.put,zD,zE,zF]
 refine wpScriptH_do (by rfl) ?_
 go_wp2_with (go_at_call 451;refine (nmSize_any _).mono ?_;rintro e w2 ⟨rfl,hb2⟩;have HB2:Hid (Below W1.heap.size W1 w2):=hid ((Below.refl _ _).drew.trans (hb2.mono (Below.refl W1.heap.size W1).drew.size));clear hb2)
 refine ⟨HB2.out,?_⟩
 refine wpScriptH_do (by rfl) ?_
 go_wp2_with (go_at_call 452;refine (unSize_any _).mono ?_;rintro e w3 ⟨rfl,hb3⟩;have HB3:Hid (Below W1.heap.size W1 w3):=hid (HB2.out.trans (hb3.mono HB2.out.size));clear hb3)
 refine ⟨HB3.out,?_⟩
 refine wpScriptH_take (.int .i64 3) (by rfl) (by rfl) (fun w' hS=>?_) ?_
 ·go_simp
 simp only [zA,zB,zC,Act.put,zD,zE,zF]
 refine wpScriptH_take (.int .i64 1) (by rfl) (by rfl) (fun w' hS=>?_) ?_
 ·go_simp
 simp only [zA,zB,zC,Act.put,zD,zE,zF]
 show wpList _ _ _ _ _ _
 simp only [List.drop_succ_cons,List.drop_zero]
 refine NoPanic.normal ?_
 go_wp2
 go_ret
 exact ⟨rfl,HB1.out.trans (HB3.out.mono HB1.out.size)⟩
theorem prSize_any (w:World):Calls Tryz.prog 333 #[prI] w fun e w'=>e = .returned (.int .i64 4)∧Below w.heap.size w w':=by
 have hm:=methPrW
 have hnil:∀ W,(binOp .eql 373 (.iface 446 (.agg #[nmI,unI])) .nilIface).run Tryz.prog W = .ok (.bool false) W:=fun W=>by rfl
 unfold prI
 go_enter Tryz.func333,Tryz.ntmps333
 go_wp2_with (go_at_call 450;refine (prWords_any w).mono ?_;rintro e w1 ⟨rfl,hb⟩)
 go_ret
 exact ⟨rfl,hb⟩
theorem arWords_any (w:World):Calls Tryz.prog 268 #[.agg arC0] w fun e w'=>e = .returned (.int .i64 33)∧Below w.heap.size w w':=by
 unfold arC0
 obtain ⟨W1,hW1⟩:∃ W1,w.alloc (.cells #[.int .i64 8,prI] 375)=W1:=⟨_,rfl⟩
 have hb1:Below w.heap.size w W1:=by rw [← hW1];exact (Below.refl _ _).alloc (Nat.le_refl _) _
 have hk:Blk W1 w.heap.size 375 #[.int .i64 8,prI]:=by rw [← hW1];exact Blk.new _ _ _
 have HW1:=hid hW1
 have HB1:=hid hb1
 have HK:=hid hk
 have c1:W1.cell? ⟨w.heap.size,1,none⟩=some prI:=hk.cell 1
 clear hW1 hb1 hk
 go_enter Tryz.func268,Tryz.ntmps268
 go_upto_region 1 with fail
 rw [HW1.out]
 go_wp2_with (go_at_call 333;refine (prSize_any _).mono ?_;rintro e w2 ⟨rfl,hb2⟩;have HB2:=hid hb2;clear hb2)
 have hk2:=HK.out.below HB2.out HK.out.lt
 have d0:w2.cell? ⟨w.heap.size,0,none⟩=some (.int .i64 8):=hk2.cell 0
 clear c1 hk2
 go_region
 go_wp2
 go_ret
 exact ⟨rfl,HB1.out.trans (HB2.out.mono HB1.out.size).drew⟩
theorem arSize_any (w:World):Calls Tryz.prog 363 #[arI] w fun e w'=>e = .returned (.int .i64 33)∧Below w.heap.size w w':=by
 have hm:=methArW
 have hnil:∀ W,(binOp .eql 473 (.iface 375 (.agg arC0)) .nilIface).run Tryz.prog W = .ok (.bool false) W:=fun W=>by rfl
 unfold arI
 go_enter Tryz.func363,Tryz.ntmps363
 go_wp2_with (go_at_call 268;refine (arWords_any w).mono ?_;rintro e w1 ⟨rfl,hb⟩)
 go_ret
 exact ⟨rfl,hb⟩
theorem codec_any (w:World):Calls Tryz.prog 267 #[] w fun e w'=>e = .returned (.agg arC0)∧Below w.heap.size w w':=by
 go_enter Tryz.func267,Tryz.ntmps267
 go_wp2
 refine bodyPost_ret (v := .agg arC0) ?_ rfl ?_
 ·simp [results,Tryz.results267,go_sem]
  rfl
 ·exact ⟨rfl,(Below.refl _ _).alloc (Nat.le_refl _) _⟩
end
section
open Go.RowKit Go.Maps
def nth:List Oper→Nat→Option Oper
 | [],_=>none
 | a :: _,0=>some a
 | _ :: l,i+1=>nth l i
theorem nth_get:∀ (l:List Oper) (i:Nat),l.toArray[i]?=nth l i
 | [],i=>by simp [nth]
 | a :: l,0=>by simp [nth]
 | a :: l,i+1=>by
  have h:=nth_get l i
  simp only [List.getElem?_toArray] at h ⊢
  rw [List.getElem?_cons_succ]
  exact h
section
variable {P:Program} {md:Region.Mode} {ops:Array Oper} {Q:Exit→Act→World→Prop} {S:World→Prop} {H:Nat→Bool}
def okScriptA (md:Region.Mode) (ops:Array Oper) (H:Nat→Bool):List Nat→Array Bool→Bool
 | [],_=>true
 | i :: r,listed=>((Region.ready md ops listed).contains i && Region.free md ops listed i) && ((List.range ops.size).all fun j=>H j || listed.getD j true || depsB md ops i 40 j) && okScriptA md ops H r (listed.setIfInBounds i true)
def finA (listed:Array Bool) (sc:List Nat):Array Bool:=sc.foldl (fun l i=>l.setIfInBounds i true) listed
def wpScriptA (P:Program) (md:Region.Mode) (ops:Array Oper) (Q:Exit→Act→World→Prop) (S:World→Prop) (H:Nat→Bool) (k:Nat) (fin:Array Bool):List Nat→Act→World→Prop
 | [],a,w=>wpAnyH P md ops Q S H k fin a w
 | i :: r,a,w=>∃ o v,ops[i]?=some o∧YieldsIf P ops S o v a∧wpScriptA P md ops Q S H k fin r (a.put o.dst v) w
theorem wpScriptA_take {l:List Oper} (hl:ops=l.toArray) {k i:Nat} {r:List Nat} {fin:Array Bool} {a:Act} {w:World} {o:Oper} (v:Value) (ho:nth l i=some o) (hw:Region.wanted o (yielded ops a.tmps)=true) (hy:∀ w,S w→(execOp a.eval o).run P w = .ok (.value v) w) (h:wpScriptA P md ops Q S H k fin r (a.put o.dst v) w):wpScriptA P md ops Q S H k fin (i :: r) a w :=
 ⟨o,v,by rw [hl,nth_get];exact ho, .inl ⟨hw,hy⟩,h⟩
theorem wpAnyH_scriptA {k:Nat} (hsel:Region.noSelect ops=true) (hQ:∀ c a a' w,Q (.panic c) a w→Q (.panic c) a' w) :
  ∀ (sc:List Nat) (listed:Array Bool) (a:Act) (w:World),Clos md ops listed→okScriptA md ops H sc listed=true→S w→wpScriptA P md ops Q S H k (finA listed sc) sc a w →
   wpAnyH P md ops Q S H (sc.length+k) listed a w
 | [],listed,a,w,_,_,_,h=>by
  rw [List.length_nil,Nat.zero_add]
  exact h
 | i :: r,listed,a,w,inv,hB,hS,h=>by
  simp only [okScriptA,Bool.and_eq_true] at hB
  obtain ⟨⟨⟨hr,hf⟩,hH⟩,hB'⟩:=hB
  have hr':i∈Region.ready md ops listed:=by simpa using hr
  obtain ⟨o,v,ho,hy,hK⟩:=h
  have hH':∀ j,j < ops.size→H j=false→listed.getD j true=true∨depsB md ops i 40 j=true:=fun j hj hb=>by
   have h1:=List.all_eq_true.1 hH j (List.mem_range.2 hj)
   simp only [hb,Bool.false_or,Bool.or_eq_true] at h1
   exact h1
  rw [List.length_cons,show r.length+1+k=(r.length+k)+1 by omega]
  exact wpAnyH_first ho (Region.noSelect_spec hsel) (fun c a' w'=>hQ c _ _ w') (r.length+k) listed a w inv hH' (Region.free_spec ho hf) hr' hy hS
   (wpAnyH_scriptA hsel hQ r _ _ _ (inv.set hr') hB' hS hK)
theorem wpOp_thenS {i:Nat} {o:Oper} {L:Act→World→Prop} {a:Act} {w:World} (ho:ops[i]?=some o) (h:wpList P ops (ThenS S Q L) [o] a w):wpOp P ops Q i (fun a' w'=>S w'∧L a' w') a w:=by
 have hw:wpOp P ops (ThenS S Q L) i (fun a' w'=>S w'∧L a' w') a w:=by
  unfold wpOp;simp only [ho];exact h
 unfold wpOp at hw ⊢
 simp only [ho] at hw ⊢
 exact hw
theorem wpAnyH_two {l:List Oper} (hl:ops=l.toArray) {k i j:Nat} {listed:Array Bool} {a:Act} {w:World} {oi oj:Oper} (hr0:Region.ready md l.toArray listed=[i,j]) (hi:nth l i=some oi) (hj:nth l j=some oj)
  (h1:wpList P ops (ThenS S Q (wpAnyH P md ops Q S H k (listed.setIfInBounds i true))) [oi] a w) (h2:wpList P ops (ThenS S Q (wpAnyH P md ops Q S H k (listed.setIfInBounds j true))) [oj] a w):wpAnyH P md ops Q S H (k+1) listed a w:=by
 have hr:=hr0
 rw [← hl] at hr
 refine ⟨fun h=>(by rw [hr] at h;cases h),fun q hq=>?_⟩
 rw [hr] at hq
 simp only [List.mem_cons,List.not_mem_nil,or_false] at hq
 rcases hq with rfl | rfl
 ·exact wpOp_mono (fun a' w' h'=>⟨fun _=>h'.1,h'.2⟩) (wpOp_thenS (by rw [hl,nth_get];exact hi) h1)
 ·exact wpOp_mono (fun a' w' h'=>⟨fun _=>h'.1,h'.2⟩) (wpOp_thenS (by rw [hl,nth_get];exact hj) h2)
theorem wpAnyH_one {l:List Oper} (hl:ops=l.toArray) {k i:Nat} {listed:Array Bool} {a:Act} {w:World} {oi:Oper} (hr0:Region.ready md l.toArray listed=[i]) (hi:nth l i=some oi)
  (h1:wpList P ops (ThenS S Q (wpAnyH P md ops Q S H k (listed.setIfInBounds i true))) [oi] a w):wpAnyH P md ops Q S H (k+1) listed a w:=by
 have hr:=hr0
 rw [← hl] at hr
 refine ⟨fun h=>(by rw [hr] at h;cases h),fun q hq=>?_⟩
 rw [hr] at hq
 simp only [List.mem_cons,List.not_mem_nil,or_false] at hq
 subst hq
 exact wpOp_mono (fun a' w' h'=>⟨fun _=>h'.1,h'.2⟩) (wpOp_thenS (by rw [hl,nth_get];exact hi) h1)
theorem wpAnyH_end {l:List Oper} (hl:ops=l.toArray) {listed:Array Bool} {a:Act} {w:World} (hr:Region.ready md l.toArray listed=[]) (h:Q .normal a w):wpAnyH P md ops Q S H 0 listed a w:=⟨by rw [hl];exact hr,h⟩
end
def scriptA (l:List Oper) (sc:List Nat):Bool :=
 Region.noSelect l.toArray && okScriptA .any l.toArray (fun _=>true) sc (Array.replicate l.toArray.size false)
theorem wp_region_scriptA {P:Program} {Q:Exit→Act→World→Prop} {id:Nat} {a:Act} {w:World} {l:List Oper} (S:World→Prop) (n k:Nat) (sc:List Nat) (hm:P.follows .mixedOrders=true) (hB1:scriptA l sc=true) (hn:l.toArray.size=n) (hk:sc.length+k=n)
  (hS:S w.drew) (h:∀ ops:Array Oper,Hid (ops=l.toArray)→wpScriptA P .any ops (NoPanic Q) S (fun _=>true) k (finA (Array.replicate n false) sc) sc a w.drew):(Code.region id l.toArray true).wp P Q a w:=by
 refine wp_region_noPanic ?_
 simp only [scriptA,Bool.and_eq_true] at hB1
 obtain ⟨hsel,hok⟩:=hB1
 have inv0:Clos .any l.toArray (Array.replicate l.toArray.size false):=⟨fun j oj _ hl=>(by rw [getD_replicate_false] at hl;cases hl)⟩
 refine wp_region_any hm (wpAny_of_H (S:=S) (H:=fun _=>true) _ _ _ _ ?_)
 rw [hn] at inv0 hok ⊢
 have:=wpAnyH_scriptA (P:=P) (Q:=NoPanic Q) (md := .any) (S:=S) (H:=fun _=>true) (k:=k) hsel (fun _ _ _ _ h=>h) sc _ a _ inv0 hok hS (h _ (hid rfl))
 rw [hk] at this
 exact this
end
section
open Go.RowKit
theorem map_ne_blk {H:Type} {P:Program} {k:TypeId} {R:Value→Option (DataW H × List MemPlace)} {w:World} {b n g:Nat} {D:DataW H} {t:TypeId} {cs:Array Value} (h:w.ownsMap P k R b n D) (hB:Blk w g t cs):b≠g:=by
 rintro rfl
 obtain ⟨es,clock,h1,_⟩:=h
 have h2:w.heap[b]?=some (.cells cs t (0,0)):=hB
 rw [h1] at h2
 cases h2
theorem map_ne_own {H:Type} {P:Program} {k:TypeId} {R:Value→Option (DataW H × List MemPlace)} {w:World} {b n:Nat} {D:DataW H} (h:w.ownsMap P k R b n D) {base:Nat} {e:TypeId} {size m:Nat} {v:Value} {xs:List Value} (ho:w.ownsRow base e size v m xs):some b≠v.ownBlock:=by
 intro he
 rcases ho.2 with ⟨rfl,_⟩ | ⟨g,cap,cur,rfl,_,hh,_⟩
 ·simp [Value.ownBlock] at he
 ·have:b=g:=by simpa [Value.ownBlock] using he
  subst this
  exact map_ne_blk h (show Blk w b e cur from hh) rfl
theorem own_lt {w:World} {base:Nat} {e:TypeId} {size n:Nat} {v:Value} {xs:List Value} (h:w.ownsRow base e size v n xs) {g:Nat} (hg:v.ownBlock=some g):g < w.heap.size:=(h.lt g hg).2
theorem set_at {cs:Array Value} {j:Nat} {u:Value} (i:Nat) (hj:j < cs.size):(cs.setIfInBounds j u)[i]?=if i=j then some u else cs[i]?:=by
 rw [Array.getElem?_setIfInBounds]
 by_cases h:j=i
 ·subst h;simp [hj]
 ·rw [if_neg h,if_neg (fun e=>h e.symm)]
theorem histOk_snoc {L m:Nat} {xs:List Value} (h:HistOk L m xs) (hl:xs.length=m * 2) (off v:Nat) (ho:off < 64 * L):HistOk L (m+1) (xs++[.int .u64 (off:Int), .int .u64 (v:Int)]):=by
 intro k hk
 rcases Nat.lt_or_ge k m with h1 | h1
 ·obtain ⟨o,u,g1,g2,g3⟩:=h k h1
  exact ⟨o,u,by rw [List.getElem?_append_left (by omega)];exact g1,by rw [List.getElem?_append_left (by omega)];exact g2,g3⟩
 ·obtain rfl:k=m:=by omega
  refine ⟨off,v,?_,?_,ho⟩
  ·rw [List.getElem?_append_right (by omega),hl,Nat.sub_self];rfl
  ·rw [List.getElem?_append_right (by omega),hl,show k * 2+1 - k * 2=1 by omega];rfl
section
variable {a:DA} {L T:Nat} {w:World} {S:Fp} {cur:Nat→Nat} {s:LS} {exe:Int} {per cs ls:Array Value}
theorem store_any {D N:Nat→Prop} (h:DevC a L T w S cur s exe per cs ls) (hN:NoteM a L w s N 0) (hCl:CleanL L s D) (off v:Nat) (h8:off % 8=0) (hlt:off < 64 * L) (hT:T < 1000000000) :
  Calls Tryz.prog 76 #[.pointer (some ⟨a.th 0,0,none⟩), .int .u64 (off:Int), .int .u64 (v:Int)] w (RetDevM a L (T+1) w S (upd cur (off / 8) v) (fun k=>D k∨k=off / 8) (fun _=>False) 0 (.tuple #[])):=by
 obtain ⟨f0,f2,f11,f1,_⟩:=h.facts (j:=0) (by omega)
 have hi:off / 64 < L:=by omega
 have hj:off / 8 < 8 * L:=by omega
 have ho:=h.own _ hi
 have hfew:=h.few _ hi
 obtain ⟨hA,hc,hv⟩:=own_slice ho
 have hth:=h.thr 0 (by omega)
 have n1:a.d≠a.th 0:=h.dev.ne_ hth (by decide)
 have n2:a.d≠a.lb:=h.dev.ne_ h.linB (by decide)
 have n3:a.d≠a.cb:=h.dev.ne_ h.curB (by decide)
 have n4:a.th 0≠a.lb:=hth.ne_ h.linB (by decide)
 have n5:a.th 0≠a.cb:=hth.ne_ h.curB (by decide)
 have n6:a.lb≠a.cb:=h.linB.ne_ h.curB (by decide)
 have n7:a.d≠a.pb:=h.dev.ne_ h.perB (by decide)
 have n8:a.lb≠a.pb:=h.linB.ne_ h.perB (by decide)
 have o1:=own_blk_ne ho h.dev (by decide)
 have o2:=own_blk_ne ho hth (by decide)
 have o3:=own_blk_ne ho h.linB (by decide)
 have o4:=own_blk_ne ho h.curB (by decide)
 have o5:=own_blk_ne ho h.perB (by decide)
 have hcs:=h.curS
 have hcl:=h.curL
 have hls:=h.linS
 refine (store_core L a.cc a.d (a.th 0) a.lb a.cb exe off v hA (s.m (off / 64)) hc (s.xs (off / 64)) (.int .u64 (cur (off / 8):Int)) w (by rw [beq_iff_eq];omega) hlt h.hL (by omega) f0 f2 f11 (h.dev.cell 12) (h.dev.cell 14) (h.dev.frozen 14) f1
  (by rw [h.linB.cell,h.linH _ hi,hv]) (h.linB.frozen _) (hv ▸ ho) (by rw [h.curB.cell];exact h.curI _ hj) (h.curB.frozen _) n1 n2 n3 n4 n5 n6 (hv ▸ o1) (hv ▸ o2) (hv ▸ o3) (hv ▸ o4)).mono ?_
 rintro e w' ⟨rfl,A',m',c',W,hm,ho',hg,hl,rfl⟩
 rw [← hv] at hg hl
 have hsz:w.heap.size+1≤W.heap.size:=by have:=hg.size;simp at this;exact this
 have k0:∀ {g:Nat} {t:TypeId} {xs:Array Value},Blk w g t xs→g≠a.d→some g≠(s.h (off / 64)).ownBlock→Blk W g t xs:=fun hB h1 h2=>((hB.far (p:=⟨a.d,14,none⟩) h1 _).alloc _).grown hg h2
 have kd:Blk W a.d _ (devCells a L (IntKind.u64.wrap (exe+1))):=((h.dev.set_ 14 _).alloc _).grown hg (fun e=>o1 e.symm)
 have kl:=k0 h.linB n2.symm (fun e=>o3 e.symm)
 have kc:=k0 h.curB n3.symm (fun e=>o4 e.symm)
 have kp:=k0 h.perB n7.symm (fun e=>o5 e.symm)
 have kt:∀ j,j < 8→Blk W (a.th j) _ #[.pointer (some ⟨a.d,0,none⟩), .int .i64 (j:Int), .int .i64 0, .map (some (a.nt j))]:=fun j hj'=>k0 (h.thr j hj') ((h.thr j hj').ne_ h.dev (by decide)) (fun e=>own_blk_ne ho (h.thr j hj') (by decide) e.symm)
 have p3:=own_blk_ne ho' kl (by decide)
 have p4:=own_blk_ne ho' kc (by decide)
 obtain ⟨l0,hmap,hnotes,_⟩:=hN
 have hmW:W.ownsMap Tryz.prog 3 (plainElem Tryz.prog 32) (a.nt 0) 0 (.map l0):=((hmap.setCell (a:=⟨a.d,14,none⟩) (map_ne_blk hmap h.dev) _).alloc _).kept hg (map_ne_own hmap ho)
 have hl0:l0=[]:=by
  have:=hmap.size_le
  exact List.eq_nil_of_length_eq_zero (by simpa [Maps.size] using this)
 refine ⟨rfl,fun k=>S k∨(Value.slice A' m' c').ownBlock=some k,⟨⟨s.dn,fun k=>if k=off / 64 then m' else s.m k,fun k=>if k=off / 64 then .slice A' m' c' else s.h k,fun k=>if k=off / 64 then s.xs (off / 64)++[.int .u64 (off:Int), .int .u64 (v:Int)] else s.xs k,s.pw,fun k=>if k=off / 64 then s.ws (off / 64)++[(off,v)] else s.ws k⟩,IntKind.u64.wrap (exe+1),per,cs.setIfInBounds (off / 8) (.int .u64 (v:Int)),ls.setIfInBounds (off / 64 * 2+1) (.slice A' m' c'),?_,?_,?_⟩,?_,?_⟩
 ·have hold:∀ k,k < L→k≠off / 64→((W.setCell ⟨a.lb,off / 64 * 2+1,none⟩ (.slice A' m' c')).setCell ⟨a.cb,off / 8,none⟩ (.int .u64 (v:Int))).ownsRow 0 _ 2 (s.h k) (s.m k) (s.xs k):=fun k hk hne=>by
   have h1:=h.own k hk
   have h2:=((ownsRow_setCell_other h1 (a:=⟨a.d,14,none⟩) (own_blk_ne h1 h.dev (by decide)) (.int .u64 (IntKind.u64.wrap (exe+1)))).alloc (.cells #[.int .u64 (off:Int), .int .u64 (v:Int)] 114)).kept hg ?_
   ·have h3:=own_blk_ne h2 kl (by decide)
    have h4:=own_blk_ne h2 kc (by decide)
    exact ownsRow_setCell_other (ownsRow_setCell_other h2 (a:=⟨a.lb,off / 64 * 2+1,none⟩) h3 _) (a:=⟨a.cb,off / 8,none⟩) h4 _
   ·cases hb:(s.h k).ownBlock with
    | none=>exact .inl rfl
    | some g=>exact .inr (fun e=>hne (h.apart k _ g hk hi hb e.symm))
  exact
  {dev:=(kd.far (p:=⟨a.lb,off / 64 * 2+1,none⟩) n2 _).far (p:=⟨a.cb,off / 8,none⟩) n3 _
   perB:=(kp.far (p:=⟨a.lb,off / 64 * 2+1,none⟩) n8.symm _).far (p:=⟨a.cb,off / 8,none⟩) h.ne _
   perS:=h.perS
   perI:=h.perI
   curB:=(kc.far (p:=⟨a.lb,off / 64 * 2+1,none⟩) n6.symm _).set_ (off / 8) _
   curS:=by simpa using h.curS
   curL:=h.curL
   curM:=h.curM
   curI:=fun k hk=>by
    rw [set_at k (by omega)]
    unfold upd
    by_cases hkj:k=off / 8
    ·rw [if_pos hkj,if_pos hkj]
    ·rw [if_neg hkj,if_neg hkj];exact h.curI k hk
   linB:=((kl.set_ (off / 64 * 2+1) _).far (p:=⟨a.cb,off / 8,none⟩) n6 _)
   linS:=by simpa using h.linS
   linD:=fun k hk=>by rw [set_at _ (by omega),if_neg (by omega)];exact h.linD k hk
   linH:=fun k hk=>by
    rw [set_at _ (by omega)]
    by_cases hki:k=off / 64
    ·rw [if_pos (by omega)];simp only [if_pos hki]
    ·rw [if_neg (by omega)];simp only [if_neg hki];exact h.linH k hk
   own:=fun k hk=>by
    by_cases hki:k=off / 64
    ·simp only [if_pos hki]
     exact ownsRow_setCell_other (ownsRow_setCell_other ho' (a:=⟨a.lb,off / 64 * 2+1,none⟩) p3 _) (a:=⟨a.cb,off / 8,none⟩) p4 _
    ·simp only [if_neg hki]
     exact hold k hk hki
   ok:=fun k hk=>by
    by_cases hki:k=off / 64
    ·simp only [if_pos hki,hm]
     exact histOk_snoc (h.ok _ hi) ho.1 off v hlt
    ·simp only [if_neg hki]
     exact h.ok k hk
   few:=fun k hk=>by
    have:=h.few k hk
    by_cases hki:k=off / 64
    ·subst hki;simp only [if_true];omega
    ·simp only [if_neg hki];omega
   apart:=fun x y g hx hy h1 h2=>by
    by_cases hx':x=off / 64 <;> by_cases hy':y=off / 64
    ·omega
    ·simp only [if_pos hx'] at h1
     simp only [if_neg hy'] at h2
     rcases hl with hl | hl
     ·rw [hl] at h1;have:=h.apart _ y g hi hy h1 h2;omega
     ·rw [hl] at h1
      have h3:=own_lt (h.own y hy) h2
      injection h1 with h1
      omega
    ·simp only [if_neg hx'] at h1
     simp only [if_pos hy'] at h2
     rcases hl with hl | hl
     ·rw [hl] at h2;have:=h.apart x _ g hx hi h1 h2;omega
     ·rw [hl] at h2
      have h3:=own_lt (h.own x hx) h1
      injection h2 with h2
      omega
    ·simp only [if_neg hx'] at h1
     simp only [if_neg hy'] at h2
     exact h.apart x y g hx hy h1 h2
   thr:=fun j hj'=>((kt j hj').far (p:=⟨a.lb,off / 64 * 2+1,none⟩) ((h.thr j hj').ne_ h.linB (by decide)) _).far (p:=⟨a.cb,off / 8,none⟩) ((h.thr j hj').ne_ h.curB (by decide)) _
   sd := .inl h.sd
   sp := .inl h.sp
   sc := .inl h.sc
   sl := .inl h.sl
   sn := .inl h.sn
   st:=fun j hj' => .inl (h.st j hj')
   sh:=fun k g hk hg'=>by
    by_cases hki:k=off / 64
    ·simp only [if_pos hki] at hg';exact .inr hg'
    ·simp only [if_neg hki] at hg';exact .inl (h.sh k g hk hg')
   lt:=fun k hk=>by
    have hsz':((W.setCell ⟨a.lb,off / 64 * 2+1,none⟩ (.slice A' m' c')).setCell ⟨a.cb,off / 8,none⟩ (.int .u64 (v:Int))).heap.size=W.heap.size:=by simp
    rw [hsz']
    rcases hk with hk | hk
    ·have:=h.lt k hk;omega
    ·exact own_lt ho' hk
   ne:=h.ne
   hL:=h.hL
   hT:=by omega
   pv:=h.pv
   hx:=fun k hk=>by
    by_cases hki:k=off / 64
    ·simp only [if_pos hki]
     rw [h.hx _ hi]
     simp [wrCells]
    ·simp only [if_neg hki]
     exact h.hx k hk
   lin:=fun k hk e he=>by
    by_cases hki:k=off / 64
    ·simp only [if_pos hki] at he
     rcases List.mem_append.1 he with he | he
     ·rw [hki];exact h.lin _ hi e he
     ·simp only [List.mem_cons,List.not_mem_nil,or_false] at he
      rw [he];exact hki.symm
    ·simp only [if_neg hki] at he
     exact h.lin k hk e he
   link:=fun k hk=>by
    by_cases hki:k / 8=off / 64
    ·simp only [if_pos hki]
     rw [wrS_snoc]
     unfold upd
     by_cases hkj:k=off / 8
     ·rw [if_pos hkj,if_pos hkj]
     ·rw [if_neg hkj,if_neg hkj,← hki]
      exact h.link k hk
    ·simp only [if_neg hki]
     unfold upd
     rw [if_neg (by omega)]
     exact h.link k hk }
 ·refine ⟨l0,?_,(fun p hp=>by rw [hl0] at hp;cases hp),fun _ h=>h.elim⟩
  have h1:=hmW.setCell (a:=⟨a.lb,off / 64 * 2+1,none⟩) (map_ne_blk hmW kl) (.slice A' m' c')
  exact h1.setCell (a:=⟨a.cb,off / 8,none⟩) (map_ne_blk hmW kc) _
 ·intro k hk hnd e he
  by_cases hki:k / 8=off / 64
  ·simp only [if_pos hki] at he
   rcases List.mem_append.1 he with he | he
   ·exact hCl k hk (fun hd=>hnd (.inl hd)) e (by rw [hki];exact he)
   ·simp only [List.mem_cons,List.not_mem_nil,or_false] at he
    subst he
    exact fun e2=>hnd (.inr e2.symm)
  ·simp only [if_neg hki] at he
   exact hCl k hk (fun hd=>hnd (.inl hd)) e he
 ·have c1:Chg S w W:=(((Chg.refl S w).setCell (p:=⟨a.d,14,none⟩) (.inl h.sd) _).alloc _).grown hg (fun g hg' => .inl (h.sh _ g hi hg'))
  exact (c1.setCell (p:=⟨a.lb,off / 64 * 2+1,none⟩) (.inl h.sl) _).setCell (p:=⟨a.cb,off / 8,none⟩) (.inl h.sc) _
 ·intro k hk
  rcases hk with hk | hk
  ·exact .inl hk
  ·rcases hl with hl | hl
   ·rw [hl] at hk;exact .inl (h.sh _ k hi hk)
   ·rw [hl] at hk
    injection hk with hk
    exact .inr (by omega)
end
end
section
open Go.RowKit Go.Maps Go.Shelf
theorem wrS_other:∀ (l:List (Nat × Nat)) (cur:Nat→Nat) (k:Nat),(∀ e∈l,e.1 / 8≠k)→wrS cur l k=cur k
 | [],_,_,_=>rfl
 | e :: l,cur,k,h=>by
  show wrS (upd cur (e.1 / 8) e.2) l k=cur k
  rw [wrS_other l _ k (fun x hx=>h x (by simp [hx]))]
  have:=h e (by simp)
  simp [upd];omega
theorem wrS_get:∀ (l:List (Nat × Nat)) (cur:Nat→Nat),(l.map (·.1)).Nodup→(∀ e∈l,e.1 % 8=0)→∀ e∈l,wrS cur l (e.1 / 8)=e.2
 | [],_,_,_,_,h=>by simp at h
 | x :: l,cur,hn,ha,e,he=>by
  show wrS (upd cur (x.1 / 8) x.2) l (e.1 / 8)=e.2
  simp only [List.map_cons,List.nodup_cons] at hn
  rcases List.mem_cons.1 he with rfl | he
  ·rw [wrS_other l _ _ (fun y hy h=>hn.1 (by
    have h1:=ha y (by simp [hy]);have h2:=ha e (by simp)
    have:y.1=e.1:=by omega
    exact List.mem_map.2 ⟨y,hy,this⟩))]
   simp [upd]
  ·exact wrS_get l _ hn.2 (fun y hy=>ha y (by simp [hy])) e he
theorem wrS_bnd:∀ (l:List (Nat × Nat)) (cur:Nat→Nat),(∀ i,cur i < 18446744073709551616)→(∀ e∈l,e.2 < 18446744073709551616)→∀ i,wrS cur l i < 18446744073709551616
 | [],_,h,_,i=>h i
 | x :: l,cur,h,hl,i=>wrS_bnd l (upd cur (x.1 / 8) x.2) (fun j=>by
   unfold upd
   split
   ·exact hl x (by simp)
   ·exact h j) (fun e he=>hl e (by simp [he])) i
section
variable {cur base:Nat→Nat} {D:DataW Unit} {ws:List (Nat × Nat)}
end
end
section
open Go.RowKit Go.Maps
def closB (md:Region.Mode) (ops:Array Oper) (listed:Array Bool):Bool :=
 (List.range ops.size).all fun j => !listed.getD j false || (match ops[j]? with | some oj=>oj.after.toList.all fun e => !Region.binds md e || listed.getD e.on false | none=>true)
theorem closB_spec {md:Region.Mode} {ops:Array Oper} {listed:Array Bool} (h:closB md ops listed=true):Clos md ops listed:=by
 refine ⟨fun j oj hj hl e he hb=>?_⟩
 have hlt:j < ops.size:=(Array.getElem?_eq_some_iff.1 hj).1
 have h1:=List.all_eq_true.1 h j (List.mem_range.2 hlt)
 rw [hl,hj] at h1
 simp only [Bool.not_true,Bool.false_or] at h1
 have h2:=List.all_eq_true.1 h1 e (by simpa using he)
 rw [hb] at h2
 simpa using h2
def freeB (md:Region.Mode) (l:List Oper) (listed:Array Bool) (i:Nat):Bool :=
 Region.noSelect l.toArray && closB md l.toArray listed && (Region.ready md l.toArray listed).contains i && Region.free md l.toArray listed i
theorem wpAnyH_free {P:Program} {md:Region.Mode} {ops:Array Oper} {Q:Exit→Act→World→Prop} {S:World→Prop} {l:List Oper} (hl:ops=l.toArray) {k i:Nat} {listed:Array Bool} {a:Act} {w:World} {o:Oper} (v:Value) (ho:nth l i=some o) (hB:freeB md l listed i=true) (hw:Region.wanted o (yielded ops a.tmps)=true) (hy:∀ w,S w→(execOp a.eval o).run P w = .ok (.value v) w) (hS:S w)
  (h:wpAnyH P md ops (NoPanic Q) S (fun _=>true) k (listed.setIfInBounds i true) (a.put o.dst v) w):wpAnyH P md ops (NoPanic Q) S (fun _=>true) (k+1) listed a w:=by
 subst hl
 simp only [freeB,Bool.and_eq_true] at hB
 obtain ⟨⟨⟨h1,h2⟩,h3⟩,h4⟩:=hB
 have ho':l.toArray[i]?=some o:=by rw [nth_get];exact ho
 exact wpAnyH_first ho' (Region.noSelect_spec h1) (fun _ _ _ h=>h) (f:=40) k listed a w (closB_spec h2) (fun j _ hj=>(by cases hj)) (Region.free_spec ho' h4) (by simpa using h3) (.inl ⟨hw,hy⟩) hS h
end
end Go.Proofs.YtfkjjoglnmeciaaGreatDoor
