/- The walks and laws that the claim leans on, part 35. -/
import Derived.Test.YtfkjjoglnmeciaaGreatDoorJbe
import Derived.Test.YtfkjjoglnmeciaaGreatDoorJbh
set_option maxRecDepth 100000
set_option maxHeartbeats 16000000
namespace Go.Proofs.YtfkjjoglnmeciaaGreatDoor
open Go.Lib (hid)
section
open Go.RowKit Go.Maps
def updX {α:Type} (f:Nat→α) (k:Nat) (v:α):Nat→α:=fun j=>if j=k then v else f j
theorem updX_same {α:Type} (f:Nat→α) (k:Nat) (v:α):updX f k v k=v:=by simp [updX]
theorem updX_other {α:Type} {f:Nat→α} {k j:Nat} {v:α} (h:j≠k):updX f k v j=f j:=by simp [updX,h]
structure CI where
 cb:Nat→Option Nat
 tA:Nat→Option Addr
 tc:Nat→Nat
 kA:Nat→Option Addr
 kc:Nat→Nat
 dA:Nat→Option Addr
 dc:Nat→Nat
 tl:Nat→List (Nat × Nat)
 dl:Nat→List Nat
def CI.tv (c:CI) (k:Nat):Value := .slice (c.tA k) (c.tl k).length (c.tc k)
def CI.kv (c:CI) (k:Nat):Value := .slice (c.kA k) (c.tl k).length (c.kc k)
def CI.dv (c:CI) (k:Nat):Value := .slice (c.dA k) (c.dl k).length (c.dc k)
structure ChI (w:World) (base mb N s K:Nat) (c:CI):Prop where
 map:ChM w mb N s K c.cb
 mbb:mb < base
 blk:∀ k g,k < K→c.cb k=some g→Blk w g 338 #[c.tv k,c.kv k,c.dv k]∧base≤g
 o1:∀ k,k < K→w.ownsRow base 3 1 (c.tv k) (c.tl k).length (jCells ((c.tl k).map (·.1)))
 o2:∀ k,k < K→w.ownsRow base 5 1 (c.kv k) (c.tl k).length (u8s ((c.tl k).map (·.2)))
 o3:∀ k,k < K→w.ownsRow base 3 1 (c.dv k) (c.dl k).length (jCells (c.dl k))
 a1:∀ k k' g,k < K→k' < K→(c.tv k).ownBlock=some g→(c.tv k').ownBlock=some g→k=k'
 a2:∀ k k' g,k < K→k' < K→(c.kv k).ownBlock=some g→(c.kv k').ownBlock=some g→k=k'
 a3:∀ k k' g,k < K→k' < K→(c.dv k).ownBlock=some g→(c.dv k').ownBlock=some g→k=k'
 a13:∀ k k' g,k < K→k' < K→(c.tv k).ownBlock=some g→(c.dv k').ownBlock≠some g
 ac:∀ k k' g,k < K→k' < K→c.cb k=some g→c.cb k'=some g→k=k'
 none_:∀ k,k < K→c.cb k=none→c.tl k=[]∧c.dl k=[]∧c.tv k = .slice none 0 0∧c.kv k = .slice none 0 0∧c.dv k = .slice none 0 0
section
variable {w w':World} {base mb N s K:Nat} {c:CI} {k g:Nat}
theorem ChI.chg {Z:Fp} (h:ChI w base mb N s K c) (hc:Chg Z w w') (hZ:∀ g,base≤g→¬ Z g) (hm:¬ Z mb):ChI w' base mb N s K c :=
 {h with
  map:=h.map.chg hc hm
  blk:=fun k g hk hg=>⟨hc.blk (h.blk k g hk hg).1 (hZ _ (h.blk k g hk hg).2),(h.blk k g hk hg).2⟩
  o1:=fun k hk=>hc.own (h.o1 k hk) (fun g hg=>hZ _ ((h.o1 k hk).lt g hg).1)
  o2:=fun k hk=>hc.own (h.o2 k hk) (fun g hg=>hZ _ ((h.o2 k hk).lt g hg).1)
  o3:=fun k hk=>hc.own (h.o3 k hk) (fun g hg=>hZ _ ((h.o3 k hk).lt g hg).1) }
theorem ChI.below (h:ChI w base mb N s K c) (hb:Below w.heap.size w w'):ChI w' base mb N s K c:=h.chg (Chg.of_below (S:=Fp.no) hb) (fun _ _ h=>h) (fun h=>h)
theorem ChI.made (h:ChI w base mb N s K c) (hk:k < K) (hn:c.cb k=none) (hb:base≤w.heap.size) (hm:ChM w' mb (N+1) s K (updO c.cb k (some w.heap.size))) (hB:Blk w' w.heap.size 338 #[.slice none 0 0, .slice none 0 0, .slice none 0 0]) (hc:Chg (fun j=>j=mb) w w') :
  ChI w' base mb (N+1) s K { c with cb:=updO c.cb k (some w.heap.size) }:=by
 have hmm:∀ {t:TypeId} {e:TypeId} {size n:Nat} {v:Value} {xs:List Value} {g:Nat},w.ownsRow base e size v n xs→v.ownBlock=some g→¬ g=mb:=fun {_ _ _ _ _ _ g} ho hg e=>by
  obtain ⟨D,hD,_⟩:=h.map
  exact map_ne_own hD ho (by rw [hg,e])
 obtain ⟨n1,n2,n3,n4,n5⟩:=h.none_ k hk hn
 refine ⟨hm,h.mbb,fun j g' hj hg'=>?_,fun j hj=>hc.own (h.o1 j hj) (fun g hg=>hmm (t:=3) (h.o1 j hj) hg),fun j hj=>hc.own (h.o2 j hj) (fun g hg=>hmm (t:=3) (h.o2 j hj) hg),fun j hj=>hc.own (h.o3 j hj) (fun g hg=>hmm (t:=3) (h.o3 j hj) hg),h.a1,h.a2,h.a3,h.a13,fun i j g' hi hj h1 h2=>?_,fun j hj hj0=>?_⟩
 ·dsimp only at hg'
  unfold updO at hg'
  by_cases e:j=k
  ·rw [if_pos e] at hg'
   injection hg' with hg'
   subst hg'
   subst e
   refine ⟨?_,hb⟩
   show Blk w' w.heap.size _ #[c.tv j,c.kv j,c.dv j]
   rw [n3,n4,n5]
   exact hB
  ·rw [if_neg e] at hg'
   obtain ⟨b1,b2⟩:=h.blk j g' hj hg'
   refine ⟨hc.blk b1 (fun e'=>?_),b2⟩
   obtain ⟨D,hD,_⟩:=h.map
   exact blk_ne_map hD b1 e'
 ·dsimp only at h1 h2
  unfold updO at h1 h2
  by_cases e1:i=k
  ·by_cases e2:j=k
   ·rw [e1,e2]
   ·rw [if_pos e1] at h1
    rw [if_neg e2] at h2
    injection h1 with h1
    have:=(h.blk j g' hj h2).1.lt
    omega
  ·by_cases e2:j=k
   ·rw [if_neg e1] at h1
    rw [if_pos e2] at h2
    injection h2 with h2
    have:=(h.blk i g' hi h1).1.lt
    omega
   ·rw [if_neg e1] at h1
    rw [if_neg e2] at h2
    exact h.ac i j g' hi hj h1 h2
 ·dsimp only at hj0
  unfold updO at hj0
  by_cases e:j=k
  ·rw [if_pos e] at hj0;cases hj0
  ·rw [if_neg e] at hj0
   exact h.none_ j hj hj0
def CI.take (c:CI) (k:Nat) (A2:Option Addr) (c2:Nat) (A4:Option Addr) (c4:Nat) (i kd:Nat):CI :=
 { c with tA:=updX c.tA k A2,tc:=updX c.tc k c2,kA:=updX c.kA k A4,kc:=updX c.kc k c4,tl:=updX c.tl k (c.tl k++[(i,kd)]) }
theorem ChI.take {w1 w2 w3 w4:World} {A2 A4:Option Addr} {n2 c2 n4 c4 i kd:Nat} (h:ChI w base mb N s K c) (hk:k < K) (hg:c.cb k=some g)
  (e1:Chg Fp.no w w1) (g2:w1.grownBy w2 (c.tv k).ownBlock) (r2:w2.ownsRow base 3 1 (.slice A2 n2 c2) n2 (jCells ((c.tl k).map (·.1))++[.int .i64 (i:Int)])) (hn2:n2=(c.tl k).length+1) (b2:(Value.slice A2 n2 c2).ownBlock=(c.tv k).ownBlock∨(Value.slice A2 n2 c2).ownBlock=some w1.heap.size)
  (e3:Chg Fp.no w2 w3) (g4:w3.grownBy w4 (c.kv k).ownBlock) (r4:w4.ownsRow base 5 1 (.slice A4 n4 c4) n4 (u8s ((c.tl k).map (·.2))++[.int .u8 (kd:Int)])) (hn4:n4=(c.tl k).length+1) (b4:(Value.slice A4 n4 c4).ownBlock=(c.kv k).ownBlock∨(Value.slice A4 n4 c4).ownBlock=some w3.heap.size) :
  ChI ((w4.setCell ⟨g,0,none⟩ (.slice A2 n2 c2)).setCell ⟨g,1,none⟩ (.slice A4 n4 c4)) base mb N s K (c.take k A2 c2 A4 c4 i kd)∧Chg (fun j=>base≤j) w ((w4.setCell ⟨g,0,none⟩ (.slice A2 n2 c2)).setCell ⟨g,1,none⟩ (.slice A4 n4 c4)):=by
 obtain ⟨hgB,hgb⟩:=h.blk k g hk hg
 have z2:(w2.heap.size) ≥ w1.heap.size:=g2.size
 have z1:=e1.size
 have z3:=e3.size
 have hZ:Chg (fun j=>j=g∨(c.tv k).ownBlock=some j∨(c.kv k).ownBlock=some j) w ((w4.setCell ⟨g,0,none⟩ (.slice A2 n2 c2)).setCell ⟨g,1,none⟩ (.slice A4 n4 c4)):=by
  have q1:Chg (fun j=>j=g∨(c.tv k).ownBlock=some j∨(c.kv k).ownBlock=some j) w w1:=e1.mono (fun _ h=>h.elim)
  have q2:=q1.grown g2 (fun g' hg' => .inl (.inr (.inl hg')))
  have q3:=q2.trans e3 (fun _ h=>h.elim)
  have q4:=q3.grown g4 (fun g' hg' => .inl (.inr (.inr hg')))
  exact (q4.setCell (.inl (.inl rfl)) _).setCell (.inl (.inl rfl)) _
 obtain ⟨D,hD,_⟩:=id h.map
 have nt:∀ j,j < K→j≠k→∀ g',(c.tv j).ownBlock=some g'→¬ (g'=g∨(c.tv k).ownBlock=some g'∨(c.kv k).ownBlock=some g'):=fun j hj hjk g' hg' hz=>by
  rcases hz with e | e | e
  ·subst e;exact own_blk_ne (h.o1 j hj) hgB (by decide) hg'
  ·exact hjk (h.a1 j k g' hj hk hg' e)
  ·rcases own_own_ne (h.o1 j hj) (h.o2 k hk) (by decide) with e2 | e2
   ·rw [e2] at hg';cases hg'
   ·exact e2 (by rw [hg',e])
 have nk:∀ j,j < K→j≠k→∀ g',(c.kv j).ownBlock=some g'→¬ (g'=g∨(c.tv k).ownBlock=some g'∨(c.kv k).ownBlock=some g'):=fun j hj hjk g' hg' hz=>by
  rcases hz with e | e | e
  ·subst e;exact own_blk_ne (h.o2 j hj) hgB (by decide) hg'
  ·rcases own_own_ne (h.o2 j hj) (h.o1 k hk) (by decide) with e2 | e2
   ·rw [e2] at hg';cases hg'
   ·exact e2 (by rw [hg',e])
  ·exact hjk (h.a2 j k g' hj hk hg' e)
 have nd:∀ j,j < K→∀ g',(c.dv j).ownBlock=some g'→¬ (g'=g∨(c.tv k).ownBlock=some g'∨(c.kv k).ownBlock=some g'):=fun j hj g' hg' hz=>by
  rcases hz with e | e | e
  ·subst e;exact own_blk_ne (h.o3 j hj) hgB (by decide) hg'
  ·exact h.a13 k j g' hk hj e hg'
  ·rcases own_own_ne (h.o3 j hj) (h.o2 k hk) (by decide) with e2 | e2
   ·rw [e2] at hg';cases hg'
   ·exact e2 (by rw [hg',e])
 have fresh1:∀ g',g' < w.heap.size→(Value.slice A2 n2 c2).ownBlock=some g'→(c.tv k).ownBlock=some g':=fun g' hlt hg'=>by
  rcases b2 with e | e
  ·rw [← e];exact hg'
  ·rw [e] at hg';injection hg' with hg';omega
 have fresh2:∀ g',g' < w.heap.size→(Value.slice A4 n4 c4).ownBlock=some g'→(c.kv k).ownBlock=some g':=fun g' hlt hg'=>by
  rcases b4 with e | e
  ·rw [← e];exact hg'
  ·rw [e] at hg';injection hg' with hg';omega
 have hgl:=hgB.lt
 have k1:=e1.blk hgB (fun h=>h)
 have k2:=k1.grown g2 (fun e=>own_blk_ne (h.o1 k hk) hgB (by decide) e.symm)
 have k3:=e3.blk k2 (fun h=>h)
 have k4:=k3.grown g4 (fun e=>own_blk_ne (h.o2 k hk) hgB (by decide) e.symm)
 have k5:=(k4.set_ 0 (.slice A2 n2 c2)).set_ 1 (.slice A4 n4 c4)
 have hne2:∀ u,(Value.slice A2 n2 c2).ownBlock=some u→u≠g:=fun u hu e=>by
  rw [e] at hu
  exact own_blk_ne r2 k2 (by decide) hu
 have hne4:∀ u,(Value.slice A4 n4 c4).ownBlock=some u→u≠g:=fun u hu e=>by
  rw [e] at hu
  exact own_blk_ne r4 k4 (by decide) hu
 have r3:=e3.own r2 (fun _ _ h=>h)
 have o2':=e3.own ((e1.own (h.o2 k hk) (fun _ _ h=>h)).kept g2 (own_own_ne (h.o2 k hk) (h.o1 k hk) (by decide))) (fun _ _ h=>h)
 have r2':=r3.kept g4 (own_own_ne r3 o2' (by decide))
 have s2:=ownsRow_setCell_other (ownsRow_setCell_other r2' (a:=⟨g,0,none⟩) (fun e=>hne2 g e rfl) (.slice A2 n2 c2)) (a:=⟨g,1,none⟩) (fun e=>hne2 g e rfl) (.slice A4 n4 c4)
 have s4:=ownsRow_setCell_other (ownsRow_setCell_other r4 (a:=⟨g,0,none⟩) (fun e=>hne4 g e rfl) (.slice A2 n2 c2)) (a:=⟨g,1,none⟩) (fun e=>hne4 g e rfl) (.slice A4 n4 c4)
 have tvk:(c.take k A2 c2 A4 c4 i kd).tv k = .slice A2 n2 c2:=by
  show Value.slice (updX c.tA k A2 k) (updX c.tl k (c.tl k++[(i,kd)]) k).length (updX c.tc k c2 k)=_
  rw [updX_same,updX_same,updX_same,List.length_append,hn2];rfl
 have kvk:(c.take k A2 c2 A4 c4 i kd).kv k = .slice A4 n4 c4:=by
  show Value.slice (updX c.kA k A4 k) (updX c.tl k (c.tl k++[(i,kd)]) k).length (updX c.kc k c4 k)=_
  rw [updX_same,updX_same,updX_same,List.length_append,hn4];rfl
 have tvj:∀ j,j≠k→(c.take k A2 c2 A4 c4 i kd).tv j=c.tv j:=fun j hj=>by
  show Value.slice (updX c.tA k A2 j) (updX c.tl k (c.tl k++[(i,kd)]) j).length (updX c.tc k c2 j)=_
  rw [updX_other hj,updX_other hj,updX_other hj];rfl
 have kvj:∀ j,j≠k→(c.take k A2 c2 A4 c4 i kd).kv j=c.kv j:=fun j hj=>by
  show Value.slice (updX c.kA k A4 j) (updX c.tl k (c.tl k++[(i,kd)]) j).length (updX c.kc k c4 j)=_
  rw [updX_other hj,updX_other hj,updX_other hj];rfl
 have tlj:∀ j,j≠k→(c.take k A2 c2 A4 c4 i kd).tl j=c.tl j:=fun j hj=>updX_other hj
 have tlk:(c.take k A2 c2 A4 c4 i kd).tl k=c.tl k++[(i,kd)]:=updX_same _ _ _
 have dvj:∀ j,(c.take k A2 c2 A4 c4 i kd).dv j=c.dv j:=fun j=>rfl
 have hmb:¬ (mb=g∨(c.tv k).ownBlock=some mb∨(c.kv k).ownBlock=some mb):=fun hz=>by
  rcases hz with e | e | e
  ·exact blk_ne_map hD hgB e.symm
  ·exact map_ne_own hD (h.o1 k hk) e.symm
  ·exact map_ne_own hD (h.o2 k hk) e.symm
 refine ⟨⟨h.map.chg hZ hmb,h.mbb,fun j g' hj hg'=>?_,fun j hj=>?_,fun j hj=>?_,fun j hj=>?_,fun i' j g' hi hj h1 h2=>?_,fun i' j g' hi hj h1 h2=>?_,h.a3,fun i' j g' hi hj h1=>?_,h.ac,fun j hj hj0=>?_⟩,hZ.mono (fun j hj=>?_)⟩
 ·by_cases e:j=k
  ·subst e
   have hgg:g'=g:=by
    have h9:c.cb j=some g':=hg'
    rw [hg] at h9
    injection h9 with h9
    exact h9.symm
   subst hgg
   refine ⟨?_,hgb⟩
   rw [tvk,kvk,dvj]
   simpa using k5
  ·obtain ⟨b1,b2'⟩:=h.blk j g' hj hg'
   refine ⟨?_,b2'⟩
   rw [tvj j e,kvj j e,dvj]
   refine hZ.blk b1 (fun hz=>?_)
   rcases hz with e' | e' | e'
   ·subst e';exact e (h.ac j k g' hj hk hg' hg)
   ·exact own_blk_ne (h.o1 k hk) b1 (by decide) e'
   ·exact own_blk_ne (h.o2 k hk) b1 (by decide) e'
 ·by_cases e:j=k
  ·subst e
   rw [tvk,tlk,List.map_append,show jCells ((c.tl j).map (·.1)++[(i,kd)].map (·.1))=jCells ((c.tl j).map (·.1))++[.int .i64 (i:Int)] by simp [jCells],List.length_append]
   rw [show (c.tl j).length+[(i,kd)].length=n2 by rw [hn2];rfl]
   exact s2
  ·rw [tvj j e,tlj j e]
   exact hZ.own (h.o1 j hj) (nt j hj e)
 ·by_cases e:j=k
  ·subst e
   rw [kvk,tlk,List.map_append,show u8s ((c.tl j).map (·.2)++[(i,kd)].map (·.2))=u8s ((c.tl j).map (·.2))++[.int .u8 (kd:Int)] by simp [u8s],List.length_append]
   rw [show (c.tl j).length+[(i,kd)].length=n4 by rw [hn4];rfl]
   exact s4
  ·rw [kvj j e,tlj j e]
   exact hZ.own (h.o2 j hj) (nk j hj e)
 ·exact hZ.own (h.o3 j hj) (nd j hj)
 ·by_cases e1':i'=k
  ·by_cases e2':j=k
   ·rw [e1',e2']
   ·rw [e1',tvk] at h1
    rw [tvj j e2'] at h2
    exact absurd (h.a1 j k g' hj hk h2 (fresh1 g' ((h.o1 j hj).lt g' h2).2 h1)) e2'
  ·by_cases e2':j=k
   ·rw [e2',tvk] at h2
    rw [tvj i' e1'] at h1
    exact absurd (h.a1 i' k g' hi hk h1 (fresh1 g' ((h.o1 i' hi).lt g' h1).2 h2)) e1'
   ·rw [tvj i' e1'] at h1
    rw [tvj j e2'] at h2
    exact h.a1 i' j g' hi hj h1 h2
 ·by_cases e1':i'=k
  ·by_cases e2':j=k
   ·rw [e1',e2']
   ·rw [e1',kvk] at h1
    rw [kvj j e2'] at h2
    exact absurd (h.a2 j k g' hj hk h2 (fresh2 g' ((h.o2 j hj).lt g' h2).2 h1)) e2'
  ·by_cases e2':j=k
   ·rw [e2',kvk] at h2
    rw [kvj i' e1'] at h1
    exact absurd (h.a2 i' k g' hi hk h1 (fresh2 g' ((h.o2 i' hi).lt g' h1).2 h2)) e1'
   ·rw [kvj i' e1'] at h1
    rw [kvj j e2'] at h2
    exact h.a2 i' j g' hi hj h1 h2
 ·intro h2
  rw [dvj] at h2
  by_cases e1':i'=k
  ·rw [e1',tvk] at h1
   exact h.a13 k j g' hk hj (fresh1 g' ((h.o3 j hj).lt g' h2).2 h1) h2
  ·rw [tvj i' e1'] at h1
   exact h.a13 i' j g' hi hj h1 h2
 ·have hjk:j≠k:=fun e=>by
   have h9:c.cb j=none:=hj0
   rw [e,hg] at h9
   cases h9
  rw [tlj j hjk,tvj j hjk,kvj j hjk,dvj]
  exact h.none_ j hj hj0
 ·rcases hj with e | e | e
  ·rw [e];exact hgb
  ·exact ((h.o1 k hk).lt j e).1
  ·exact ((h.o2 k hk).lt j e).1
end
end
section
open Go.RowKit Go.Maps
section
variable {w w':World} {base mb N s K:Nat} {c:CI} {k g:Nat}
def CI.zero:CI:=⟨fun _=>none,fun _=>none,fun _=>0,fun _=>none,fun _=>0,fun _=>none,fun _=>0,fun _=>[],fun _=>[]⟩
theorem ChI.zero (hm:ChM w mb N s K (fun _=>none)) (hb:mb < base):ChI w base mb N s K CI.zero:=by
 refine ⟨hm,hb,fun k g hk hg=>?_,fun k _=>World.ownsRow_nil _ _ _ _,fun k _=>World.ownsRow_nil _ _ _ _,fun k _=>World.ownsRow_nil _ _ _ _,fun k k' g _ _ h=>?_,fun k k' g _ _ h=>?_,fun k k' g _ _ h=>?_,fun k k' g _ _ h=>?_,fun k k' g _ _ h=>?_,fun k _ _=>⟨rfl,rfl,rfl,rfl,rfl⟩⟩
 ·cases hg
 ·cases h
 ·cases h
 ·cases h
 ·cases h
 ·cases h
def CI.drop (c:CI) (k:Nat) (A2:Option Addr) (c2:Nat) (i:Nat):CI :=
 { c with dA:=updX c.dA k A2,dc:=updX c.dc k c2,dl:=updX c.dl k (c.dl k++[i]) }
theorem ChI.drop {w1 w2:World} {A2:Option Addr} {n2 c2 i:Nat} (h:ChI w base mb N s K c) (hk:k < K) (hg:c.cb k=some g)
  (e1:Chg Fp.no w w1) (g2:w1.grownBy w2 (c.dv k).ownBlock) (r2:w2.ownsRow base 3 1 (.slice A2 n2 c2) n2 (jCells (c.dl k)++[.int .i64 (i:Int)])) (hn2:n2=(c.dl k).length+1) (b2:(Value.slice A2 n2 c2).ownBlock=(c.dv k).ownBlock∨(Value.slice A2 n2 c2).ownBlock=some w1.heap.size) :
  ChI (w2.setCell ⟨g,2,none⟩ (.slice A2 n2 c2)) base mb N s K (c.drop k A2 c2 i)∧Chg (fun j=>base≤j) w (w2.setCell ⟨g,2,none⟩ (.slice A2 n2 c2)):=by
 obtain ⟨hgB,hgb⟩:=h.blk k g hk hg
 have z2:(w2.heap.size) ≥ w1.heap.size:=g2.size
 have z1:=e1.size
 have hZ:Chg (fun j=>j=g∨(c.dv k).ownBlock=some j) w (w2.setCell ⟨g,2,none⟩ (.slice A2 n2 c2)):=by
  have q1:Chg (fun j=>j=g∨(c.dv k).ownBlock=some j) w w1:=e1.mono (fun _ h=>h.elim)
  exact (q1.grown g2 (fun g' hg' => .inl (.inr hg'))).setCell (.inl (.inl rfl)) _
 obtain ⟨D,hD,_⟩:=id h.map
 have nt:∀ j,j < K→∀ g',(c.tv j).ownBlock=some g'→¬ (g'=g∨(c.dv k).ownBlock=some g'):=fun j hj g' hg' hz=>by
  rcases hz with e | e
  ·subst e;exact own_blk_ne (h.o1 j hj) hgB (by decide) hg'
  ·exact h.a13 j k g' hj hk hg' e
 have nk:∀ j,j < K→∀ g',(c.kv j).ownBlock=some g'→¬ (g'=g∨(c.dv k).ownBlock=some g'):=fun j hj g' hg' hz=>by
  rcases hz with e | e
  ·subst e;exact own_blk_ne (h.o2 j hj) hgB (by decide) hg'
  ·rcases own_own_ne (h.o2 j hj) (h.o3 k hk) (by decide) with e2 | e2
   ·rw [e2] at hg';cases hg'
   ·exact e2 (by rw [hg',e])
 have nd:∀ j,j < K→j≠k→∀ g',(c.dv j).ownBlock=some g'→¬ (g'=g∨(c.dv k).ownBlock=some g'):=fun j hj hjk g' hg' hz=>by
  rcases hz with e | e
  ·subst e;exact own_blk_ne (h.o3 j hj) hgB (by decide) hg'
  ·exact hjk (h.a3 j k g' hj hk hg' e)
 have fresh1:∀ g',g' < w.heap.size→(Value.slice A2 n2 c2).ownBlock=some g'→(c.dv k).ownBlock=some g':=fun g' hlt hg'=>by
  rcases b2 with e | e
  ·rw [← e];exact hg'
  ·rw [e] at hg';injection hg' with hg';omega
 have k1:=e1.blk hgB (fun h=>h)
 have k2:=k1.grown g2 (fun e=>own_blk_ne (h.o3 k hk) hgB (by decide) e.symm)
 have k5:=k2.set_ 2 (.slice A2 n2 c2)
 have hne2:∀ u,(Value.slice A2 n2 c2).ownBlock=some u→u≠g:=fun u hu e=>by
  rw [e] at hu
  exact own_blk_ne r2 k2 (by decide) hu
 have s2:=ownsRow_setCell_other r2 (a:=⟨g,2,none⟩) (fun e=>hne2 g e rfl) (.slice A2 n2 c2)
 have dvk:(c.drop k A2 c2 i).dv k = .slice A2 n2 c2:=by
  show Value.slice (updX c.dA k A2 k) (updX c.dl k (c.dl k++[i]) k).length (updX c.dc k c2 k)=_
  rw [updX_same,updX_same,updX_same,List.length_append,hn2];rfl
 have dvj:∀ j,j≠k→(c.drop k A2 c2 i).dv j=c.dv j:=fun j hj=>by
  show Value.slice (updX c.dA k A2 j) (updX c.dl k (c.dl k++[i]) j).length (updX c.dc k c2 j)=_
  rw [updX_other hj,updX_other hj,updX_other hj];rfl
 have dlj:∀ j,j≠k→(c.drop k A2 c2 i).dl j=c.dl j:=fun j hj=>updX_other hj
 have dlk:(c.drop k A2 c2 i).dl k=c.dl k++[i]:=updX_same _ _ _
 have tvj:∀ j,(c.drop k A2 c2 i).tv j=c.tv j:=fun j=>rfl
 have kvj:∀ j,(c.drop k A2 c2 i).kv j=c.kv j:=fun j=>rfl
 have hmb:¬ (mb=g∨(c.dv k).ownBlock=some mb):=fun hz=>by
  rcases hz with e | e
  ·exact blk_ne_map hD hgB e.symm
  ·exact map_ne_own hD (h.o3 k hk) e.symm
 refine ⟨⟨h.map.chg hZ hmb,h.mbb,fun j g' hj hg'=>?_,fun j hj=>hZ.own (h.o1 j hj) (nt j hj),fun j hj=>hZ.own (h.o2 j hj) (nk j hj),fun j hj=>?_,h.a1,h.a2,fun i' j g' hi hj h1 h2=>?_,fun i' j g' hi hj h1=>?_,h.ac,fun j hj hj0=>?_⟩,hZ.mono (fun j hj=>?_)⟩
 ·by_cases e:j=k
  ·subst e
   have hgg:g'=g:=by
    have h9:c.cb j=some g':=hg'
    rw [hg] at h9
    injection h9 with h9
    exact h9.symm
   subst hgg
   refine ⟨?_,hgb⟩
   rw [tvj,kvj,dvk]
   simpa using k5
  ·obtain ⟨b1,b2'⟩:=h.blk j g' hj hg'
   refine ⟨?_,b2'⟩
   rw [tvj,kvj,dvj j e]
   refine hZ.blk b1 (fun hz=>?_)
   rcases hz with e' | e'
   ·subst e';exact e (h.ac j k g' hj hk hg' hg)
   ·exact own_blk_ne (h.o3 k hk) b1 (by decide) e'
 ·by_cases e:j=k
  ·subst e
   rw [dvk,dlk,show jCells (c.dl j++[i])=jCells (c.dl j)++[.int .i64 (i:Int)] by simp [jCells],List.length_append]
   rw [show (c.dl j).length+[i].length=n2 by rw [hn2];rfl]
   exact s2
  ·rw [dvj j e,dlj j e]
   exact hZ.own (h.o3 j hj) (nd j hj e)
 ·by_cases e1':i'=k
  ·by_cases e2':j=k
   ·rw [e1',e2']
   ·rw [e1',dvk] at h1
    rw [dvj j e2'] at h2
    exact absurd (h.a3 j k g' hj hk h2 (fresh1 g' ((h.o3 j hj).lt g' h2).2 h1)) e2'
  ·by_cases e2':j=k
   ·rw [e2',dvk] at h2
    rw [dvj i' e1'] at h1
    exact absurd (h.a3 i' k g' hi hk h1 (fresh1 g' ((h.o3 i' hi).lt g' h1).2 h2)) e1'
   ·rw [dvj i' e1'] at h1
    rw [dvj j e2'] at h2
    exact h.a3 i' j g' hi hj h1 h2
 ·intro h2
  rw [tvj] at h1
  by_cases e2':j=k
  ·rw [e2',dvk] at h2
   exact h.a13 i' k g' hi hk h1 (fresh1 g' ((h.o1 i' hi).lt g' h1).2 h2)
  ·rw [dvj j e2'] at h2
   exact h.a13 i' j g' hi hj h1 h2
 ·have hjk:j≠k:=fun e=>by
   have h9:c.cb j=none:=hj0
   rw [e,hg] at h9
   cases h9
  rw [dlj j hjk,dvj j hjk]
  exact h.none_ j hj hj0
 ·rcases hj with e | e
  ·rw [e];exact hgb
  ·exact ((h.o3 k hk).lt j e).1
theorem chAt2_any (h:ChI w base mb N s K c) (hk:k < K) (hs:s+32 * k < 9000000000) (hN:N < 1000000000) (hb:base≤w.heap.size) (vb:Nat) (hv:w.cell? ⟨vb,0,none⟩=some (.map (some mb))) :
  Calls Tryz.prog 236 #[.int .i64 ((s+32 * k:Nat):Int), .pointer (some ⟨vb,0,none⟩)] w fun e w'=>∃ g c1,e = .returned (.pointer (some ⟨g,0,none⟩))∧ChI w' base mb (N+1) s K c1∧c1.cb k=some g∧c1.tl=c.tl∧c1.dl=c.dl∧(∀ j,j≠k→c1.cb j=c.cb j)∧Chg (fun j=>j=mb) w w':=by
 refine (chAt_any h.map k hk hs hN vb hv).mono ?_
 rintro e w' (⟨g,hg,he,rfl⟩ | ⟨hn,he,hm,hB,hc⟩)
 ·exact ⟨g,c,he,{ h with map:=h.map.mono (Nat.le_succ N) },hg,rfl,rfl,fun _ _=>rfl,Chg.refl _ _⟩
 ·exact ⟨w.heap.size,{ c with cb:=updO c.cb k (some w.heap.size) },he,h.made hk hn hb hm hB hc,by simp [updO],rfl,rfl,fun j hj=>by simp [updO,hj],hc⟩
end
end
section
open Go.RowKit Go.Maps
structure SD (a:DA) (L T s n K:Nat) (x:HA) (cs:Nat→CS) (f:Nat→Option Nat) (N m b0:Nat) (S:Fp) (cur:Nat→Nat) (w:World) (d r:Nat):Prop where
 ds:DS a L T s n K x cs f N m b0 S cur w
 dir:Blk w d 240 (dirCells a x.h r)
 log:Blk w r 353 (logCells a 0 26)
 idle:cur (8 * 0)=0
 offd:¬ S d
 offr:¬ S r
 ln:0+26≤s
section
variable {a:DA} {L T s n K:Nat} {x:HA} {cs:Nat→CS} {f:Nat→Option Nat} {N m b0:Nat} {S:Fp} {cur:Nat→Nat} {w w':World} {d r:Nat}
theorem SD.below (h:SD a L T s n K x cs f N m b0 S cur w d r) (hb:Below w.heap.size w w'):SD a L T s n K x cs f N m b0 S cur w' d r :=
 { h with ds:=h.ds.below hb,dir:=h.dir.below hb h.dir.lt,log:=h.log.below hb h.log.lt }
theorem SD.more {T':Nat} (h:SD a L T s n K x cs f N m b0 S cur w d r) (hT:T≤T') (hT':T'≤1000000000):SD a L T' s n K x cs f N m b0 S cur w d r:={ h with ds:=h.ds.more hT hT' }
theorem DS.fp_ne (h:DS a L T s n K x cs f N m b0 S cur w) {g:Nat} {t:TypeId} {vs:Array Value} (hB:Blk w g t vs) (hne:t≠408):¬ x.fp g:=fun hz=>by
 obtain ⟨h1,pcs,hp,hk⟩:=h.hs.plc
 obtain ⟨m1,m2⟩:=h.hs.map_ne hB
 rcases hz with e | e | e
 ·exact hB.ne_ hp hne e
 ·exact m1 e
 ·exact m2 e
theorem DS.drewS (h:DS a L T s n K x cs f N m b0 S cur w):DS a L T s n K x cs f N m b0 S cur w.drew:=h.below (Below.refl _ _).drew
def sfp (S:Fp) (x:HA):Fp:=fun j=>S j∨x.fp j
theorem SD.keep {T' N' m':Nat} {cs':Nat→CS} {f':Nat→Option Nat} {S':Fp} {cur':Nat→Nat} (h:SD a L T s n K x cs f N m b0 S cur w d r) (hd:DS a L T' s n K x cs' f' N' m' b0 S' cur' w') (hc:Chg (sfp S x) w w') (hg:Grew S S' w) (hi:cur' (8 * 0)=0):SD a L T' s n K x cs' f' N' m' b0 S' cur' w' d r:=by
 refine ⟨hd,hc.blk h.dir ?_,hc.blk h.log ?_,hi,hg.off ⟨h.dir.lt,h.offd⟩,hg.off ⟨h.log.lt,h.offr⟩,h.ln⟩
 ·rintro (e | e)
  ·exact h.offd e
  ·exact h.ds.fp_ne h.dir (by decide) e
 ·rintro (e | e)
  ·exact h.offr e
  ·exact h.ds.fp_ne h.log (by decide) e
theorem ResOk.ahead {cl k i:Nat} {cs':Nat→CS} {cur':Nat→Nat} (h:ResOk s K cs f cur cl cs' cur' k i) (hd:DS a L T s n K x cs f N m b0 S cur w) (hcl:cl < 5) {j:Nat} (hj:j < 8 * s):cur' j=cur j:=by
 obtain ⟨v1,v2,v3,v4,v5,v6⟩:=h.vac
 have hz:∀ c:Nat→Nat,wrS c (zerW (offO s cs' k i) (payW cl)) j=c j:=fun c=>wrS_other _ _ _ (fun e he=>by
  obtain ⟨q,hq,rfl⟩:=zerW_mem he
  have:offO s cs' k i=blkO (s+32 * k) cl i:=by unfold offO;rw [v3]
  show (offO s cs' k i+8 * q) / 8≠j
  rw [this]
  unfold blkO
  omega)
 rcases h.how with ⟨_,e⟩ | ⟨k0,hk0,hd0,_,_,e⟩
 ·rw [e,hz]
 ·rw [e,hz]
  have hok:=hd.ok k0 hk0
  unfold CSok at hok
  rw [hd0] at hok
  exact fmtR_out hcl hok.2.2 (.inl (by omega))
theorem checkD (h:SD a L T s n K x cs f N m b0 S cur w d r) (p kind:Nat) (hp64:p < 18446744073709551616) (hk:kind < 256) :
  Calls Tryz.prog 431 #[.pointer (some ⟨d,0,none⟩), .int .u64 (p:Int), .int .u8 (kind:Int)] w fun e w'=>e = .returned (.int .i64 (chkR s K cs p kind:Int))∧Below w.heap.size w w':=by
 have HC:=hid (check_any h.ds p kind hp64 hk)
 have c0:w.cell? ⟨d,0,none⟩=some (.pointer (some ⟨x.h,0,none⟩)):=h.dir.cell 0
 clear h
 go_enter Tryz.func431,Tryz.ntmps431
 go_wp2_with fail
 refine HC.out.mono ?_
 rintro e w1 ⟨rfl,hb⟩
 have HB:=hid hb
 clear hb
 go_wp2
 go_ret
 exact ⟨rfl,HB.out⟩
theorem thID (h:Dev a L T w S cur 0) :
  Calls Tryz.prog 292 #[.pointer (some ⟨a.th 0,0,none⟩)] w fun e w'=>e = .returned (.int .i64 0)∧w=w':=by
 obtain ⟨ls,exe,per,cs,lsC,hdc,hnt⟩:=h
 have f0:w.cell? ⟨a.th 0,1,none⟩=some (.int .i64 0):=(hdc.thr 0 (by omega)).cell 1
 clear hdc hnt
 go_enter Tryz.func292,Tryz.ntmps292
 go_wp2
 go_ret
 exact ⟨rfl,rfl⟩
def RetAl (a:DA) (L T s n K:Nat) (x:HA) (cs:Nat→CS) (f:Nat→Option Nat) (N m b0:Nat) (S:Fp) (cur:Nat→Nat) (w:World) (d r:Nat) (cl kind:Nat) (e:Ending) (w':World):Prop :=
 ∃ k i S' cs' cur',e = .returned (.tuple #[.int .u64 (fptr s cs' kind k i:Int), .int .i64 0])∧ResOk s K cs f cur cl cs' cur' k i∧SD a L (T+400) s n K x cs' (updF f (offO s cs' k i) (some (fptr s cs' kind k i))) (N+1) (m+1) b0 S' cur' w' d r∧Chg (sfp S x) w w'∧Grew S S' w
theorem allocD (h:SD a L T s n K x cs f N m b0 S cur w d r) (nw kind:Nat) (h1:1≤nw) (h60:nw≤60) (hk0:0 < kind) (hk8:kind < 128) (hN:N < 1000000000) (hT:T+400≤1000000000)
  (hcap:(∃ k i,Vac s K cs f (clsOf nw) k i)∨∃ k,k < K∧(cs k).dv=false) :
  Calls Tryz.prog 429 #[.pointer (some ⟨d,0,none⟩), .int .i64 (nw:Int), .int .u8 (kind:Int)] w (RetAl a L T s n K x cs f N m b0 S cur w d r (clsOf nw) kind):=by
 have HR:=hid (reserve_any h.ds.drewS nw kind h1 h60 hk0 hk8 hN hT hcap)
 have HAr:=hid (arguments_any nw kind h1 h60 hk0 hk8)
 have HEr:=hid (thErr h.ds.dev)
 have HId:Hid (∀ W,Below w.heap.size w W→Calls Tryz.prog 292 #[.pointer (some ⟨a.th 0,0,none⟩)] W fun e w'=>e = .returned (.int .i64 0)∧W=w'):=hid (fun W hW=>thID (h.ds.dev.below hW))
 have hm:=methErr (some ⟨a.th 0,0,none⟩)
 have HS:=hid h
 have HCl:=hid (clsOf_lt nw)
 have hx0:w.cell? ⟨x.h,0,none⟩=some (.iface 58 (.pointer (some ⟨a.th 0,0,none⟩))):=h.ds.hs.heap.cell 0
 have hx7:w.cell? ⟨x.h,7,none⟩=some (.bool false):=h.ds.hs.heap.cell 7
 have c0:w.cell? ⟨d,0,none⟩=some (.pointer (some ⟨x.h,0,none⟩)):=h.dir.cell 0
 have c1:w.cell? ⟨d,1,none⟩=some (.pointer (some ⟨a.th 0,0,none⟩)):=h.dir.cell 1
 clear h hcap
 generalize clsOf nw=cl at *
 go_enter Tryz.func429,Tryz.ntmps429
 go_upto_region 14 with (first
  | (go_at_call 345;refine (HAr.out _).mono ?_;rintro e w1 ⟨rfl,rfl⟩)
  | (go_at_call 292;refine (HId.out _ (Below.refl _ _)).mono ?_;rintro e w1 ⟨rfl,rfl⟩)
  | (go_at_call 112;refine HEr.out.mono ?_;rintro e w1 ⟨rfl,rfl⟩))
 refine wp_region_scriptH (fun w'=>Blk w' d 240 (dirCells a x.h r)) 14 [12,13] [(1,0),(1,1),(1,2),(1,3),(1,4),(1,5),(1,6),(1,7),(1,9),(1,10),(0,8),(0,11),(2,12),(2,13)] (by kernel_rfl) (by kernel_rfl) HS.out.dir.drew ?_
 refine wpScriptH_take (.pointer (some ⟨d,0,none⟩)) (by rfl) (by rfl) (fun w' hS=>?_) ?_
 ·go_simp
 simp only [zA,zB,Act.put,zD,zE,zF]
 refine wpScriptH_take (.pointer (some ⟨d,0,none⟩)) (by rfl) (by rfl) (fun w' hS=>?_) ?_
 ·go_simp
 simp only [zA,zB,zC,Act.put,zD,zE,zF]
 refine wpScriptH_take (.pointer (some ⟨d,0,none⟩)) (by rfl) (by rfl) (fun w' hS=>?_) ?_
 ·go_simp
 simp only [zA,zB,zC,Act.put,zD,zE,zF]
 refine wpScriptH_take (.pointer (some ⟨x.h,0,none⟩)) (by rfl) (by rfl) (fun w' hS=>?_) ?_
 ·have f1:w'.cell? ⟨d,0,none⟩=some (.pointer (some ⟨x.h,0,none⟩)):=Blk.cell hS 0
  go_simp
 simp only [zA,zB,zC,Act.put,zD,zE,zF]
 refine wpScriptH_take (.pointer (some ⟨d,0,none⟩)) (by rfl) (by rfl) (fun w' hS=>?_) ?_
 ·go_simp
 simp only [zA,zB,zC,Act.put,zD,zE,zF]
 refine wpScriptH_take (.pointer (some ⟨d,0,none⟩)) (by rfl) (by rfl) (fun w' hS=>?_) ?_
 ·go_simp
 simp only [zA,zB,zC,Act.put,zD,zE,zF]
 refine wpScriptH_take (.pointer (some ⟨d,1,none⟩)) (by rfl) (by rfl) (fun w' hS=>?_) ?_
 ·go_simp
 simp only [zA,zB,zC,Act.put,zD,zE,zF]
 refine wpScriptH_take (.pointer (some ⟨a.th 0,0,none⟩)) (by rfl) (by rfl) (fun w' hS=>?_) ?_
 ·have f1:w'.cell? ⟨d,1,none⟩=some (.pointer (some ⟨a.th 0,0,none⟩)):=Blk.cell hS 1
  go_simp
 simp only [zA,zB,zC,Act.put,zD,zE,zF]
 refine wpScriptH_take (.int .i64 (nw:Int)) (by rfl) (by rfl) (fun w' hS=>?_) ?_
 ·go_simp
 simp only [zA,zB,zC,Act.put,zD,zE,zF]
 refine wpScriptH_take (.int .u8 (kind:Int)) (by rfl) (by rfl) (fun w' hS=>?_) ?_
 ·go_simp
 simp only [zA,zB,zC,Act.put,zD,zE,zF]
 refine wpScriptH_do (by rfl) ?_
 go_wp2_with (go_at_call 292;refine (HId.out _ (Below.refl _ _).drew).mono ?_;rintro e w1 ⟨rfl,rfl⟩)
 refine ⟨HS.out.dir.drew,?_⟩
 refine wpScriptH_do (by rfl) ?_
 go_wp2_with (go_at_call 291;refine HR.out.mono ?_;rintro e w2 ⟨k,i,S',cs',cur',rfl,hok,hds,hc,hg⟩)
 have HK:Hid (SD a L (T+400) s n K x cs' (updF f (offO s cs' k i) (some (fptr s cs' kind k i))) (N+1) (m+1) b0 S' cur' w2 d r∧Chg (sfp S x) w w2∧Grew S S' w):=hid (by
  have hc':Chg (sfp S x) w w2:=((Chg.refl (sfp S x) w).drew).trans hc (fun j hj => .inl hj)
  exact ⟨HS.out.keep hds hc' hg ((hok.ahead HS.out.ds HCl.out (by have:=HS.out.ln;omega)).trans HS.out.idle),hc',hg⟩)
 have HO:=hid hok
 clear hok hds hc hg
 refine ⟨HK.out.1.dir,?_⟩
 refine wpScriptH_pure (.int .u64 (fptr s cs' kind k i:Int)) (by rfl) (by rfl) (fun w' hS=>?_) ?_
 ·go_simp
 simp only [zA,zB,zC,Act.put,zD,zE,zF]
 refine wpScriptH_pure (.int .i64 0) (by rfl) (by rfl) (fun w' hS=>?_) ?_
 ·go_simp
 simp only [zA,zB,zC,Act.put,zD,zE,zF]
 show wpList _ _ _ _ _ _
 simp only [List.drop_succ_cons,List.drop_zero]
 go_wp2
 refine NoPanic.normal ?_
 go_wp2
 go_ret2
 exact ⟨k,i,S',cs',cur',rfl,HO.out,HK.out.1,HK.out.2.1,HK.out.2.2⟩
end
end
end Go.Proofs.YtfkjjoglnmeciaaGreatDoor
