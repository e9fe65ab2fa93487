/- The walks and laws that the claim leans on, part 49. -/
import Derived.Test.YtnlokpakiambaaaGreatDoorJbv
namespace Go.Proofs.YtnlokpakiambaaaGreatDoor
open Go.Lib (hid)
section
open Go.RowKit Go.Maps
structure SpW (gh gw th d head stamp:Nat) (L0:List (Nat × Bool × Nat × Nat)) (ec fc gc lb:Nat) (wc:World):Prop where
 h0:∀ W,Below wc.heap.size wc W→W.cell? ⟨gh,0,none⟩=some (.pointer (some ⟨gw,0,none⟩))∧W.cell? ⟨gw,1,none⟩=some (.pointer (some ⟨th,0,none⟩))
 er:∀ W,Below wc.heap.size wc W→Calls Tryz.prog 27 #[.pointer (some ⟨th,0,none⟩)] W fun e w'=>e = .returned (.int .i64 0)∧W=w'
 ch:∀ W,Below wc.heap.size wc W→∀ (gs gp:Nat),Blk W gs 124 #[.iface 43 (.pointer (some ⟨d,0,none⟩))]→Blk W gp 27 #[.int .u64 (head:Int)]→∀ (Zb:Fp),(∀ k,Zb k→k < W.heap.size) →
  SeqStopsK Fence.wide 6 Tryz.prog 69 #[.pointer (some ⟨gs,0,none⟩), .pointer (some ⟨gp,0,none⟩)] vEnc (KpC wc.heap.size Zb) (fun xs=>xs=L0) (fun pre=>GoodC 4611686018427387904 pre) 4096 W
 ck:∀ W,Below wc.heap.size wc W→Calls Tryz.prog 22 #[.iface 43 (.pointer (some ⟨d,0,none⟩)), .int .u64 (head:Int)] W fun e w'=>e = .returned (.int .i64 (ec:Int))∧Below W.heap.size W w'
 bl:∀ W,Below wc.heap.size wc W→Calls Tryz.prog 18 #[.iface 43 (.pointer (some ⟨d,0,none⟩)), .int .u64 (head:Int)] W fun e w'=>(∃ A c,e = .returned (.tuple #[.slice A lb c, .int .i64 (fc:Int)]))∧Below W.heap.size W w'
 at_:∀ W,Below wc.heap.size wc W→Calls Tryz.prog 15 #[.iface 43 (.pointer (some ⟨d,0,none⟩)), .int .u64 (head:Int), .int .u64 (stamp:Int)] W fun e w'=>(∃ v,e = .returned v)∧Below W.heap.size W w'
 pr:∀ W,Below wc.heap.size wc W→Calls Tryz.prog 26 #[.iface 43 (.pointer (some ⟨d,0,none⟩)), .int .u64 (head:Int), .int .u64 (stamp:Int)] W fun e w'=>(∃ x y z,e = .returned (.tuple #[x,y,z, .int .i64 (gc:Int)]))∧Below W.heap.size W w'
 pl:(ec=0∧fc=0∧gc=0∧L0.length≤lb∧oldC L0=0)∨(ec=11∧fc≠0)
theorem spW_of {a:DA} {L T s n K:Nat} {x:HA} {cs:Nat→CS} {f:Nat→Option Nat} {N m b0:Nat} {S:Fp} {cur:Nat→Nat} {wc:World} {d r gh gw:Nat} (h:SD a L T s n K x cs f N m b0 S cur wc d r) (head stamp:Nat) (hh:head < 18446744073709551616)
  (h0:∀ W,Below wc.heap.size wc W→W.cell? ⟨gh,0,none⟩=some (.pointer (some ⟨gw,0,none⟩))∧W.cell? ⟨gw,1,none⟩=some (.pointer (some ⟨a.th 0,0,none⟩))):∃ L0 ec fc gc lb,SpW gh gw (a.th 0) d head stamp L0 ec fc gc lb wc:=by
 refine ⟨_,_,_,_,_,h0,fun W hW=>thErr (h.below hW).ds.dev,fun W hW gs gp hs hp Zb hZ=>chain_stops h hW head hh gs gp hs hp Zb hZ,fun W hW=>vcheck_any (h.below hW) head hh,fun W hW=>(vblocks_any (h.below hW) head hh).mono (fun e w' he=>?_),fun W hW=>(vat_any (h.below hW) head stamp hh).mono (fun e w' he=>⟨⟨_,he.1⟩,he.2⟩),fun W hW=>vprune_any (h.below hW) head stamp hh,spoilt_plain _ _ head stamp _ rfl⟩
 obtain ⟨A,m,c,h1,h2,_,_,h5⟩:=he
 subst h2
 exact ⟨⟨A,c,h1⟩,h5⟩
theorem KeepsFrom.of_chg {Z:Fp} {B:Nat} {W W':World} (h:Chg Z W W') (hZ:∀ k,Z k→k < B):KeepsFrom B W W' :=
 ⟨h.size,fun i o hB hi _=>(h.block i (Array.getElem?_eq_some_iff.1 hi).1 (fun hz=>by have:=hZ i hz;omega)).trans hi⟩
theorem KpC.of_chg {n:Nat} {Zb:Fp} {A B:World} (h:Chg Zb A B) (hn:n≤A.heap.size) (hZ:∀ k,Zb k→n≤k):KpC n Zb A B :=
 ⟨h.toBelow hn hZ,fun k o ho _ hz=>(h.block k (Array.getElem?_eq_some_iff.1 ho).1 hz).trans ho⟩
structure SpI (n0 gb nb:Nat) (wc:World) (pre:List (Nat × Bool × Nat × Nat)) (W:World):Prop where
 was:Blk W gb 36 (vArr (stC (0,false,0,0) pre))
 cnt:Blk W (gb+1) 3 #[.int .i64 (pre.length:Int)]
 below:Below n0 wc W
 big:nb≤W.heap.size
theorem SpI.own {n0 gb nb B:Nat} {wc:World} (hB:gb+1 < B) (hn:n0≤B) (hnb:n0≤nb):OwnFrom B (SpI n0 gb nb wc):=by
 intro s W W' row hs hg hr
 have hne:∀ k,k < B→some k≠row:=fun k hk e=>by
  have h1:=(hr k e.symm).1
  omega
 exact ⟨hs.was.grown hg (hne _ (by omega)),hs.cnt.grown hg (hne _ (by omega)),hs.below.grown hg (Nat.le_trans hnb hs.big) (fun k e=>by have h1:=(hr k e).1;omega),Nat.le_trans hs.big hg.size⟩
theorem vs_slots (p0:Tmp) (x:Nat × Bool × Nat × Nat) (t:Array Value):(#[p0].zip (vEnc x)).foldl (fun t (p,v)=>t.setIfInBounds p v) t=t.setIfInBounds p0 (.agg (vArr x)):=by
 simp [vEnc,vArr,Array.zip]
theorem wp_rangeFunc_vs {g:Operand} {p0 q0:Tmp} {assign body:Code} {Q:Exit→Act→World→Prop} {a:Act} {w wc:World} {gf n0 gb:Nat} {lb:Array Value} {S Sp:List (Nat × Bool × Nat × Nat)→Prop} (hg:a.eval g = .func (.func gf) #[] lb) (eg:∀ args w,(callFunc gf args).run Tryz.prog w = .ok (.enter gf args) w)
  (hseq:SeqStopsK Fence.wide 6 Tryz.prog gf lb vEnc (KpC n0 (fun k=>k=gb∨k=gb+1)) S Sp 4096 w) (hn0:n0≤w.heap.size) (hgb:gb+1 < w.heap.size) (h0:SpI n0 gb w.heap.size wc [] w)
  (hassign:∀ (l:Nat) (pre:List (Nat × Bool × Nat × Nat)) (x:Nat × Bool × Nat × Nat) (W:World) (K:Act→World→Prop),SpI n0 gb w.heap.size wc pre W →
   (∀ (W':World),Below W.heap.size W W'→Blk W' W.heap.size 36 (vArr x)→K { tmps:=(a.tmps.setIfInBounds p0 (.agg (vArr x))).setIfInBounds q0 (.pointer (some ⟨W.heap.size,0,none⟩)),defers:=[] } W') →
   assign.wpIn (Fence.wide.inRound l) 5 Tryz.prog (Exit.then K (fun _ _ _=>False)) { tmps:=a.tmps.setIfInBounds p0 (.agg (vArr x)),defers:=[] } W)
  (hbody:∀ (l:Nat) (pre:List (Nat × Bool × Nat × Nat)) (x:Nat × Bool × Nat × Nat) (g:Nat) (W:World),gb+1 < g→Blk W g 36 (vArr x)→SpI n0 gb w.heap.size wc pre W→pre.length < 4096 →
   body.wpIn (Fence.wide.inRound l) 5 Tryz.prog (ownPostG w.heap.size (KpC n0 (fun k=>k=gb∨k=gb+1)) (SpI n0 gb w.heap.size wc) (fun _ pre _=>¬ Sp pre) (pre++[x]) W) { tmps:=(a.tmps.setIfInBounds p0 (.agg (vArr x))).setIfInBounds q0 (.pointer (some ⟨g,0,none⟩)),defers:=[] } W)
  (hdone:∀ (D:Nat) (xs:List (Nat × Bool × Nat × Nat)) (W:World),w.heap.size≤D→S xs→SpI n0 gb w.heap.size wc xs W→W.heap[D]?=some (.deferred (some []))→Q .normal { a with defers:={ target := .collected D,args:=#[] } :: a.defers } W) :
  (Code.rangeFunc g #[p0] assign body).wp Tryz.prog Q a w:=by
 refine (wpIn_wide (n:=7)).1 (wpIn_rangeFunc_ownH (F:=Fence.wide) (n:=7) (encs:=vEnc) (Kp:=KpC n0 (fun k=>k=gb∨k=gb+1)) (S:=S) (Sp:=Sp) (N:=4096) (w0:=w) rfl (by decide) hg trivial eg hseq KpC.trans (KpC.put hn0) (Below.refl _ _) (fun _=>rfl)
  (SpI n0 gb w.heap.size wc) (fun _ pre _=>¬ Sp pre) (SpI.own hgb hn0 hn0) (fun c s A B row h hg hr=>h) h0
  (fun x a' W=>∃ g,w.heap.size≤g∧Blk W g 36 (vArr x)∧a'={ tmps:=(a.tmps.setIfInBounds p0 (.agg (vArr x))).setIfInBounds q0 (.pointer (some ⟨g,0,none⟩)),defers:=[] }) ?ax ?assign ?body hdone ?stop)
 case ax =>
  intro x a' s W W' row hs hg hr
  obtain ⟨g,h1,h2,h3⟩:=hs
  refine ⟨g,h1,h2.grown hg (fun e=>?_),h3⟩
  obtain ⟨_,o,ho,hc⟩:=hr g e.symm
  have h4:W.heap[g]?=some (.cells (vArr x) 36 (0,0)):=h2
  rw [h4] at ho
  cases ho
  exact absurd hc (by simp [Obj.isCells])
 case assign =>
  intro l pre x W K hI hK
  rw [vs_slots]
  refine hassign l pre x W K hI (fun W' hb hk=>?_)
  have h1:=hI.big
  exact hK _ _ (KeepsFrom.of_chg (Chg.of_below hb) (Z:=fun _=>False) (fun k hk=>hk.elim)) (KpC.of_below hb (Nat.le_trans hn0 h1)) ⟨hI.was.below hb hI.was.lt,hI.cnt.below hb hI.cnt.lt,hI.below.trans (hb.mono (Nat.le_trans hn0 h1)),Nat.le_trans h1 hb.size⟩ ⟨_,h1,hk,rfl⟩
 case body =>
  intro l pre x a' W hl hr hI hA hN
  obtain ⟨g,h1,h2,rfl⟩:=hA
  exact hbody l pre x g W (by omega) h2 hI hN
 case stop=>exact fun D c pre W hD hSp hx _=>absurd hSp hx
theorem sp_store {w0 w:World} {k gh:Nat} {rl:List RV} {z:HP} (h:HsJ w0 k gh rl (vvs rl) z w) (hk:k≤8) {i:Nat} (hi:i < rl.length) (j v stamp:Nat) (hj3:j < 3) (hv:v < 18446744073709551616) :
  ∃ o:Nat,(∀ W,Calls Tryz.prog 24 #[.int .u64 ((rl[i]).v.q:Int), .int .i64 (j:Int)] W fun e w'=>e = .returned (.int .u64 (o:Int))∧W=w') ∧
   ∀ W,Below w.heap.size w W→Calls Tryz.prog 23 #[.pointer (some ⟨z.a.th 0,0,none⟩), .int .u64 (o:Int), .int .u64 (v:Int)] W fun e w'=>e = .returned (.tuple #[])∧Hid (Below w0.heap.size w0 w'∧∃ L0 ec fc gc lb,SpW gh z.y.g (z.a.th 0) z.y.d (hdQ (vvs rl)) stamp L0 ec fc gc lb w'):=by
 obtain ⟨older,hver⟩:=h.hist.ver (rl[i]).v (by unfold vvs;exact List.mem_map.2 ⟨rl[i],List.getElem_mem hi,rfl⟩)
 obtain ⟨kk,ii,hlv⟩:=hver.live
 have hpw:=payW_3 (z.cs kk).cl
 refine ⟨pOff (rl[i]).v.q+8 * j,fun W=>?_,fun W hW=>?_⟩
 ·have h1:=at_any (rl[i]).v.q j (by omega) W
  have h2:pAt (rl[i]).v.q j=pOff (rl[i]).v.q+8 * j:=by unfold pAt;rw [if_neg (by have:=hlv.nz;omega)]
  rw [h2] at h1
  exact h1
 ·have hj:=h.below_ hW
  have hT:=hj.tm
  refine (hj.bw.storeW hlv.at_ (j:=j) (v:=v) (by omega) hv (by omega)).mono ?_
  rintro e w' ⟨rfl,S',hbw,hc,hg⟩
  refine ⟨rfl,hid ⟨hj.below.trans (hc.toBelow hj.below.size (fun k hk=>hj.old k (.inl hk))),spW_of hbw.sd (hdQ (vvs rl)) stamp hj.hist.hd64 (fun W' hW'=>⟨?_,?_⟩)⟩⟩
  ·have h1:=(hc.blk hj.blk (fun e=>hj.offg (.inl e)))
   exact (h1.below hW' h1.lt).cell 0
  ·exact (hbw.blk.below hW' hbw.blk.lt).cell 1
theorem SpI.step {n0 gb nb B:Nat} {wc W W':World} {pre:List (Nat × Bool × Nat × Nat)} (h:SpI n0 gb nb wc pre W) (hB:gb+1 < B) (hn:n0≤gb) (sp:Nat) (dl:Bool) (dt ol:Nat) (k:Int) (hk:k=((pre.length+1:Nat):Int))
  (he:W'=(((((W.setCell ⟨gb,0,none⟩ (.int .u64 (sp:Int))).setCell ⟨gb,1,none⟩ (.bool dl)).setCell ⟨gb,2,none⟩ (.int .u64 (dt:Int))).setCell ⟨gb,3,none⟩ (.int .u64 (ol:Int))).setCell ⟨gb+1,0,none⟩ (.int .i64 k)).drew) :
  KeepsFrom B W W'∧KpC n0 (fun k=>k=gb∨k=gb+1) W W'∧SpI n0 gb nb wc (pre++[(sp,dl,dt,ol)]) W':=by
 have hw:=h.was
 have hc:=h.cnt
 have hlw:=h.was.lt
 have hlc:=h.cnt.lt
 have hch0:Chg (fun k=>k=gb∨k=gb+1) W (((((W.setCell ⟨gb,0,none⟩ (.int .u64 (sp:Int))).setCell ⟨gb,1,none⟩ (.bool dl)).setCell ⟨gb,2,none⟩ (.int .u64 (dt:Int))).setCell ⟨gb,3,none⟩ (.int .u64 (ol:Int))).setCell ⟨gb+1,0,none⟩ (.int .i64 k)) :=
  (((((Chg.refl (fun k=>k=gb∨k=gb+1) W).setCell (p:=⟨gb,0,none⟩) (.inl (.inl rfl)) _).setCell (p:=⟨gb,1,none⟩) (.inl (.inl rfl)) _).setCell (p:=⟨gb,2,none⟩) (.inl (.inl rfl)) _).setCell (p:=⟨gb,3,none⟩) (.inl (.inl rfl)) _).setCell (p:=⟨gb+1,0,none⟩) (.inl (.inr rfl)) _
 have hch:Chg (fun k=>k=gb∨k=gb+1) W W':=by
  rw [he]
  exact hch0.below (Below.refl _ _).drew
 have hn2:=h.below.size
 have hk1:KpC n0 (fun k=>k=gb∨k=gb+1) W W':=KpC.of_chg hch (by omega) (fun k hk=>by omega)
 have hl:(pre++[(sp,dl,dt,ol)]).length=pre.length+1:=by simp
 refine ⟨KeepsFrom.of_chg hch (fun k hk=>by omega),hk1,⟨?_,?_,h.below.trans hk1.1,Nat.le_trans h.big hch.size⟩⟩
 ·rw [stC_add,he]
  have h2:=(((hw.set_ 0 (.int .u64 (sp:Int))).set_ 1 (.bool dl)).set_ 2 (.int .u64 (dt:Int))).set_ 3 (.int .u64 (ol:Int))
  exact (((Chg.refl (fun k=>k=gb+1) _).setCell (p:=⟨gb+1,0,none⟩) (.inl rfl) _).blk h2 (by omega)).drew
 ·rw [hl,he,← hk]
  have h2:=((((Chg.refl (fun k=>k=gb) W).setCell (p:=⟨gb,0,none⟩) (.inl rfl) (.int .u64 (sp:Int))).setCell (p:=⟨gb,1,none⟩) (.inl rfl) (.bool dl)).setCell (p:=⟨gb,2,none⟩) (.inl rfl) (.int .u64 (dt:Int))).setCell (p:=⟨gb,3,none⟩) (.inl rfl) (.int .u64 (ol:Int))
  exact ((h2.blk hc (by omega)).set_ 0 _).drew
end
end Go.Proofs.YtnlokpakiambaaaGreatDoor
