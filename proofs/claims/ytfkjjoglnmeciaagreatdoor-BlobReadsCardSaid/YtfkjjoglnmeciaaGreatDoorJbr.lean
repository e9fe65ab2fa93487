/- The walks and laws that the claim leans on, part 44. -/
import Derived.Test.YtfkjjoglnmeciaaGreatDoorJbq
set_option maxRecDepth 100000
set_option maxHeartbeats 16000000
namespace Go.Proofs.YtfkjjoglnmeciaaGreatDoor
open Go.Lib (hid)
section
open Go.RowKit Go.Maps
def RetWcr (K b0:Nat) (cs:Nat→CS) (cur:Nat→Nat) (w:World) (e:Ending) (w':World):Prop:=∃ a S x y,e = .returned (.pointer (some ⟨y.g,0,none⟩))∧BW a (53+32 * K) 0 K x y cs (fun _=>none) 0 0 b0 S cur w'∧Below w.heap.size w w'
theorem worldCrash_any {a:DA} {L T K:Nat} {x:HA} {y:WA} {cs:Nat→CS} {f:Nat→Option Nat} {N m b0:Nat} {S:Fp} {cur:Nat→Nat} {w:World} (h:BW a L T K x y cs f N m b0 S cur w) (b1:Nat) (hb1:b0≤b1∧b1≤w.heap.size) (A:Option Addr) (n c:Nat) :
  Calls Tryz.prog 29 #[.pointer (some ⟨y.g,0,none⟩), .slice A n c, .int .i64 (-1)] w (RetWcr K b1 cs cur w):=by
 have hLs:=h.size
 have hst:=still_of h.sd.ds.dev (fun k=>by rw [h.rest];exact id)
 have HC:=hid (crashD_still (fun _=>False) hst h.sd.ds.bnd (by omega) A n c)
 obtain ⟨hn1,hn2,_,_⟩:=h.sd.ds.hK
 have hfew:=h.few
 have hlo:=h.sd.ds.lo
 have HO:Hid (∀ (a':DA) (S':Fp) (W:World),a'.dirty=(fun _=>False)→Dev a' L 0 W S' cur 0→(∀ k,S' k→w.heap.size≤k)→Below w.heap.size w W→Calls Tryz.prog 102 #[.pointer (some ⟨a'.d,0,none⟩), .int .i64 (K:Int)] W (RetWcr K b1 cs cur w)):=hid (fun a' S' W hd' hdev hS hW=>by
  refine (bopenG_any (b0:=b1) cs hdev hd' hLs hn2 hfew (h.sd.ds.tab.below hW) (h.sd.ds.pay.below hW) ⟨h.sd.idle,h.uid,h.sd.ds.ok,h.sd.ds.bnd⟩ ⟨by omega,by omega,Nat.le_trans hb1.2 hW.size,fun k hk=>Nat.le_trans hb1.2 (hS k hk)⟩).mono ?_
  rintro e w' ⟨x',y',rfl,hbw,hb'⟩
  rw [hLs] at hbw
  exact ⟨a',S',x',y',rfl,hbw,hW.trans (hb'.mono hW.size)⟩)
 have f0:w.cell? ⟨y.g,0,none⟩=some (.pointer (some ⟨a.d,0,none⟩)):=h.blk.cell 0
 have HK:Hid (∀ W,Below w.heap.size w W→W.cell? ⟨y.g,5,none⟩=some (.int .i64 (K:Int))):=hid (fun W hW=>(h.blk.below hW h.blk.lt).cell 5)
 clear h hst hlo
 go_enter Tryz.func29,Tryz.ntmps29
 go_wp2_with (first
  | (go_at_call 16;refine HC.out.mono ?_;rintro e w1 ⟨a',S',rfl,hd',hdev,hS,hb⟩;have HO1:=hid (HO.out a' S' _ hd' hdev hS hb);have f5:=HK.out _ hb;clear hd' hdev hS hb)
  | (go_at_call 102;refine HO1.out.mono ?_;rintro e w2 ⟨a2,S2,x2,y2,rfl,h2,h3⟩;have H2:=hid h2;have H3:=hid h3;clear h2 h3)
  | fail)
 go_ret
 exact ⟨a2,S2,x2,y2,rfl,H2.out,H3.out⟩
end
section
open Go.RowKit Go.Maps
theorem methDAlloc (p : Option Addr) (w : World) : (method 640 59 (.pointer p) "Alloc").run Tryz.prog w = .ok (429, .pointer p) w := by kernel_rfl
theorem aheadDAlloc (p : Addr) (w : World) : (nilAhead 640 59 (.pointer (some p)) "Alloc").run Tryz.prog w = .ok (some false) w := by kernel_rfl
structure WrI (a:DA) (L T s n K:Nat) (x:HA) (N m b0:Nat) (S0:Fp) (d r:Nat) (w wr:World) (A:Option Addr) (mm c:Nat) (bl:List Nat) (cs:Nat→CS) (f:Nat→Option Nat) (S:Fp) (cur:Nat→Nat):Prop where
 sd:SD a L T s n K x cs f N m b0 S cur wr d r
 chg:Chg (sfp S0 x) w wr
 grew:Grew S0 S w
 spc:Blk wr w.heap.size 83 #[dirV d]
 cell:Blk wr (w.heap.size+1) 40 #[.slice A mm c]
 own:wr.ownsRow (w.heap.size+2) 54 1 (.slice A mm c) mm (uCells bl)
 len:mm=bl.length
 off:¬ S w.heap.size∧¬ S (w.heap.size+1)∧∀ g,(Value.slice A mm c).ownBlock=some g→¬ S g
section
variable {a:DA} {L T s n K:Nat} {x:HA} {N m b0:Nat} {S0:Fp} {d r:Nat} {w wr w':World} {A:Option Addr} {mm c:Nat} {bl:List Nat} {cs:Nat→CS} {f:Nat→Option Nat} {S:Fp} {cur:Nat→Nat}
theorem WrI.size (h:WrI a L T s n K x N m b0 S0 d r w wr A mm c bl cs f S cur):w.heap.size+2≤wr.heap.size:=by
 have:=h.cell.lt
 omega
theorem WrI.sdo {T' N' m':Nat} {cs':Nat→CS} {f':Nat→Option Nat} {S':Fp} {cur':Nat→Nat} (h:WrI a L T s n K x N m b0 S0 d r w wr A mm c bl cs f S cur) (hlo:LoS x d r b0 w.heap.size) (hd:SD a L T' s n K x cs' f' N' m' b0 S' cur' w' d r) (hc:Chg (sfp S x) wr w') (hg:Grew S S' wr) :
  WrI a L T' s n K x N' m' b0 S0 d r w w' A mm c bl cs' f' S' cur':=by
 have hfp:∀ k,w.heap.size≤k→¬ x.fp k:=fun k hk hz=>by
  rcases hz with e | e | e
  ·have:=hlo.pl;omega
  ·have:=hlo.mr;omega
  ·have:=hlo.mh;omega
 have hsz:=h.size
 have hown:=h.own.lt
 refine ⟨hd,h.chg.trans hc (fun k hk=>?_),h.grew.trans hg h.chg.size,hc.blk h.spc ?_,hc.blk h.cell ?_,hc.own h.own (fun g hg'=>?_),h.len,⟨hg.off ⟨by omega,h.off.1⟩,hg.off ⟨by omega,h.off.2.1⟩,fun g hg'=>hg.off ⟨(hown g hg').2,h.off.2.2 g hg'⟩⟩⟩
 ·rcases hk with hk | hk
  ·rcases h.grew k hk with h1 | h1
   ·exact .inl (.inl h1)
   ·exact .inr h1
  ·exact .inl (.inr hk)
 ·rintro (e | e)
  ·exact h.off.1 e
  ·exact hfp _ (Nat.le_refl _) e
 ·rintro (e | e)
  ·exact h.off.2.1 e
  ·exact hfp _ (by omega) e
 ·rintro (e | e)
  ·exact h.off.2.2 g hg' e
  ·exact hfp g (by have:=(hown g hg').1;omega) e
theorem WrI.below (h:WrI a L T s n K x N m b0 S0 d r w wr A mm c bl cs f S cur) (hb:Below wr.heap.size wr w'):WrI a L T s n K x N m b0 S0 d r w w' A mm c bl cs f S cur :=
 ⟨h.sd.below hb,h.chg.below hb,h.grew,h.spc.below hb h.spc.lt,h.cell.below hb h.cell.lt,own_below h.own hb,h.len,h.off⟩
theorem WrI.push {W W':World} {A':Option Addr} {m' c' q:Nat} {o:Obj} (h:WrI a L T s n K x N m b0 S0 d r w wr A mm c bl cs f S cur) (hlo:LoS x d r b0 w.heap.size) (hW:W=wr.alloc o) (hm:m'=mm+1) (ho:W'.ownsRow (w.heap.size+2) 54 1 (.slice A' m' c') m' (uCells bl++[.int .u64 (q:Int)])) (hg:W.grownBy W' (Value.slice A mm c).ownBlock) (hv:(Value.slice A' m' c').ownBlock=(Value.slice A mm c).ownBlock∨(Value.slice A' m' c').ownBlock=some W.heap.size) :
  WrI a L T s n K x N m b0 S0 d r w (W'.setCell ⟨w.heap.size+1,0,none⟩ (.slice A' m' c')) A' m' c' (bl++[q]) cs f S cur:=by
 subst hW
 have hsz:=h.size
 have hown:=h.own.lt
 have h1:=h.below ((Below.refl _ wr).alloc (Nat.le_refl _) o)
 have hc:Chg (fun k=>k=w.heap.size+1∨(Value.slice A mm c).ownBlock=some k) (wr.alloc o) (W'.setCell ⟨w.heap.size+1,0,none⟩ (.slice A' m' c')) :=
  ((Chg.refl _ (wr.alloc o)).grown hg (fun g e => .inl (.inr e))).setCell (p:=⟨w.heap.size+1,0,none⟩) (.inl (.inl rfl)) _
 have hZ:∀ k,(k=w.heap.size+1∨(Value.slice A mm c).ownBlock=some k)→¬ S k∧w.heap.size≤k:=fun k hk=>by
  rcases hk with rfl | hk
  ·exact ⟨h.off.2.1,by omega⟩
  ·exact ⟨h.off.2.2 k hk,by have:=(hown k hk).1;omega⟩
 have hsd:=h1.sd.chg hlo hc hZ
 have hcl:Blk W' (w.heap.size+1) 40 #[.slice A mm c]:=h1.cell.grown hg (fun e=>by have:=(hown _ e.symm).1;omega)
 refine ⟨hsd,?_,h.grew,?_,hcl.set_ 0 _,?_,?_,⟨h.off.1,h.off.2.1,fun g hg'=>?_⟩⟩
 ·refine h1.chg.trans (S':=fun k=>k=w.heap.size+1∨(Value.slice A mm c).ownBlock=some k) hc (fun k hk=>?_)
  exact .inr (hZ k hk).2
 ·refine hc.blk h1.spc ?_
  rintro (e | e)
  ·omega
  ·have:=(hown _ e).1;omega
 ·have e:uCells (bl++[q])=uCells bl++[.int .u64 (q:Int)]:=by simp [uCells]
  rw [e]
  exact own_far ho (p:=⟨w.heap.size+1,0,none⟩) (by show w.heap.size+1 < _;omega) _
 ·rw [List.length_append,hm,h.len];rfl
 ·rcases hv with e | e
  ·exact h.off.2.2 g (e ▸ hg')
  ·rw [e] at hg'
   injection hg' with hg'
   subst hg'
   intro hs
   have:=h1.sd.ds.dev.lt _ hs
   omega
end
end
section
open Go.RowKit Go.Maps
structure PutP (L K:Nat) (f:Nat→Option Nat) (al p:List Nat) (i:Nat) (bl:List Nat) (cs':Nat→CS) (f':Nat→Option Nat) (cur':Nat→Nat):Prop where
 len:bl.length=nBlk p.length
 chain:Chain L cur' (fun q=>chkR 53 K cs' q 1) bl p
 live:∀ j (h:j < bl.length),∃ k i2,LiveA 53 K cs' bl[j] 1 k i2∧payW (cs' k).cl=bSize (p.length - 456 * j)
 words:∀ j (h:j < bl.length),WordsAt cur' bl[j] (payL (bl.getD (j+1) 0) (p.drop (456 * j)))
 cap:Cap 53 K cs' f' (alW p.length al (nBlk p.length))
 fo:∀ o,o ∉ bl.map pOff→f' o=f o
 fi:∀ o,o∈bl.map pOff→f' o=none
 nd:(bl.map pOff).Nodup
section
variable {a:DA} {L T n K:Nat} {x:HA} {cs cs2:Nat→CS} {f f2:Nat→Option Nat} {N m b0:Nat} {S:Fp} {cur cur2:Nat→Nat} {w:World} {al p bl ks:List Nat} {V:Nat→Nat} {cm i:Nat}
theorem nBlk_drop (p:List Nat):0 < nBlk p.length:=by unfold nBlk;split <;> omega
theorem putP_of (hd:DS a L T 53 n K x cs2 f2 N m b0 S cur2 w) (hw:W2 53 K cs f cur al p cs2 f2 cur2 bl bl.length) (hlen:bl.length=nBlk p.length) (hp:p.length≤2000) (hA:AOk 53 K cs2 ks (tlOf 53 cs2 bl) (dlOf 53 cs2 []) V) (hks:∀ k,k∈ks↔k < K∧(tlOf 53 cs2 bl k≠[]∨dlOf 53 cs2 [] k≠[]))
  (h96:([(3328+8 * i,bl.headD 0)]++ks.flatMap (acW 53 cs2 (tlOf 53 cs2 bl) (dlOf 53 cs2 []) V)).length≤96) (hi:i < 8) :
  PutP L K f al p i bl (acC cs2 ks (tlOf 53 cs2 bl) (dlOf 53 cs2 []) V) (relF f2 bl) (rdG 0 cur2 ([(3328+8 * i,bl.headD 0)]++ks.flatMap (acW 53 cs2 (tlOf 53 cs2 bl) (dlOf 53 cs2 []) V)) cm):=by
 have hkeep:∀ q∈bl,KeepOk 53 K cs2 f2 q:=fun q hq=>by
  obtain ⟨j,hj,e⟩:=List.getElem_of_mem hq
  rw [← e]
  exact (hw.w1.rq j hj).keep
 have hlive:∀ j (h:j < bl.length),∃ k i2,LiveA 53 K (acC cs2 ks (tlOf 53 cs2 bl) (dlOf 53 cs2 []) V) bl[j] 1 k i2∧payW ((acC cs2 ks (tlOf 53 cs2 bl) (dlOf 53 cs2 []) V) k).cl=bSize (p.length - 456 * j)∧At 53 K cs2 bl[j] k i2∧payW (cs2 k).cl=bSize (p.length - 456 * j):=fun j hj=>by
  obtain ⟨k,i2,h1,h2,h3⟩:=pub_keep hA hks (hw.w1.rq j hj) (List.getElem_mem hj) (by omega)
  obtain ⟨_,e2,_⟩:=acC_dv cs2 ks (tlOf 53 cs2 bl) (dlOf 53 cs2 []) V k
  exact ⟨k,i2,h1,by rw [e2,h2,bSize_cls],h3,by rw [h2,bSize_cls]⟩
 have hwords:∀ j (h:j < bl.length),WordsAt (rdG 0 cur2 ([(3328+8 * i,bl.headD 0)]++ks.flatMap (acW 53 cs2 (tlOf 53 cs2 bl) (dlOf 53 cs2 []) V)) cm) bl[j] (payL (bl.getD (j+1) 0) (p.drop (456 * j))):=fun j hj y hy=>by
  obtain ⟨k,i2,_,_,h3,h4⟩:=hlive j hj
  have h5:=hw.words j hj hj y hy
  rw [payL_len,List.length_drop] at hy
  have hl:=h3.lines.1
  rw [hl] at h5 ⊢
  refine (pub_pay hd (by omega) hA h96 h3.1 h3.2.1 h3.2.2.1 (by omega) (fun e he=>?_)).trans h5
  simp at he
  subst he
  show (3328+8 * i) / 8≠_
  omega
 refine ⟨hlen,?_,fun j hj=>?_,hwords,?_,fun o ho=>?_,fun o ho=>relF_in _ _ _ ho,hw.w1.nd⟩
 ·have h1:=chain_words (L:=L) (chk:=fun q=>chkR 53 K (acC cs2 ks (tlOf 53 cs2 bl) (dlOf 53 cs2 []) V) q 1) hlen hp hwords (fun j hj=>by
   obtain ⟨k,i2,h1,h2,h3,h4⟩:=hlive j hj
   have h5:=(h3.inL hd).1
   exact ⟨by omega,h1.nz,h1.lt,(Live.chk ⟨k,i2,h1⟩).1⟩) (bl.length - 1) 0 (by have:=nBlk_drop p;omega)
  simpa using h1
 ·obtain ⟨k,i2,h1,h2,_,_⟩:=hlive j hj
  exact ⟨k,i2,h1,h2⟩
 ·have h1:=hw.w1.cap.pub (ks:=ks) (V:=V) hkeep (free:=[]) (fun q hq=>absurd hq (by simp))
  rw [hlen] at h1
  exact h1
 ·rw [relF_out _ _ _ ho]
  exact hw.w1.fo o ho
end
end
section
open Go.RowKit Go.Maps
def RetWk (w:World) (R:Nat × List Nat × List Nat) (e:Ending) (w':World):Prop :=
 if R.1=0 then ∃ A m c A2 m2 c2,e = .returned (.tuple #[.slice A m c, .slice A2 m2 c2, .int .i64 0])∧m=R.2.1.length∧m2=R.2.2.length∧Reads w' w'.heap.size 1 A m (uCells R.2.1)∧Reads w' w'.heap.size 1 A2 m2 (u8s R.2.2)∧(∀ ad,A=some ad→w.heap.size≤ad.block)∧(∀ ad,A2=some ad→w.heap.size≤ad.block)∧(m≤c∧m2≤c2)∧Below w.heap.size w w'
 else e = .returned (.tuple #[.slice none 0 0, .slice none 0 0, .int .i64 (R.1:Int)])∧Below w.heap.size w w'
def walkR (L:Nat) (cur:Nat→Nat) (chk:Nat→Nat) (p:Nat):Nat × List Nat × List Nat:=if chk p≠0 then (chk p,[],[]) else walkA L cur chk 6 p (-1) [] []
def slLen:Value→Nat
 | .slice _ n _=>n
 | _=>0
structure WkI (w wr:World) (A:Option Addr) (m c:Nat) (A2:Option Addr) (m2 c2:Nat) (bs by_:List Nat):Prop where
 o1:wr.ownsRow w.heap.size 54 1 (.slice A m c) m (uCells bs)
 o2:wr.ownsRow w.heap.size 5 1 (.slice A2 m2 c2) m2 (u8s by_)
 l1:m=bs.length
 l2:m2=by_.length
 below:Below w.heap.size w wr
section
variable {a:DA} {L T s n K:Nat} {x:HA} {cs:Nat→CS} {f:Nat→Option Nat} {N m b0:Nat} {S:Fp} {cur:Nat→Nat} {w w':World} {d r:Nat}
theorem walk_any (h:SD a L T s n K x cs f N m b0 S cur w d r) (p:Nat) (hp64:p < 18446744073709551616) :
  Calls Tryz.prog 110 #[dirV d, .int .u64 (p:Int)] w (RetWk w (walkR L cur (fun q=>chkR s K cs q 1) p)):=by
 have HC:=hid (checkD h p 1 hp64 (by omega))
 rw [show ((1:Nat):Int)=1 from rfl] at HC
 have HS:=hid h
 have HEr:Hid (∀ W,Below w.heap.size w W→Calls Tryz.prog 432 #[.pointer (some ⟨d,0,none⟩)] W fun e w'=>e = .returned (.int .i64 0)∧W=w'):=hid (fun W hW=>errD (h.ds.dev.below hW) (h.dir.below hW h.dir.lt))
 have hmE:=methDErr (some ⟨d,0,none⟩)
 have hmC:=methDCheck (some ⟨d,0,none⟩)
 have hnil:∀ W,(binOp .eql 83 (.iface 59 (.pointer (some ⟨d,0,none⟩))) .nilIface).run Tryz.prog W = .ok (.bool false) W:=fun W=>by rfl
 have HLd:Hid (∀ (W:World) (q:Nat),Below w.heap.size w W→q≠0→q < 18446744073709551616→Calls Tryz.prog 222 #[.iface 59 (.pointer (some ⟨d,0,none⟩)), .int .u64 (q:Int)] W (RetLd W (loadR L cur q))):=hid (fun W q hW hq0 hq=>bload_any (h.ds.dev.below hW) (h.dir.below hW h.dir.lt) (h.ds.pay.below hW) h.ds.bnd q hq0 hq)
 have HRf:Hid (∀ (W:World) (q:Nat),Below w.heap.size w W→q < 18446744073709551616→Calls Tryz.prog 224 #[.iface 59 (.pointer (some ⟨d,0,none⟩)), .int .u64 (q:Int)] W fun e w'=>e = .returned (.int .i64 (refR (chkR s K cs q 1):Int))∧Below W.heap.size W w'):=hid (fun W q hW hq=>refuse_any (h.below hW) q hq)
 have HCnz:Hid (∀ q:Nat,chkR s K cs q 1=0→q≠0):=hid (fun q hq e=>by subst e;unfold chkR at hq;simp at hq)
 unfold walkR
 generalize hchk:(fun q=>chkR s K cs q 1)=chk at *
 have hcp:chkR s K cs p 1=chk p:=by rw [← hchk]
 have hcq:∀ q,chkR s K cs q 1=chk q:=fun q=>by rw [← hchk]
 rw [hcp] at HC
 simp only [hcq] at HRf HCnz
 clear hcp hcq hchk h
 unfold dirV
 by_cases hc0:chk p=0
 ·rw [if_neg (by omega)]
  rw [hc0,show ((0:Nat):Int)=0 from rfl] at HC
  have hp0:=HCnz.out p hc0
  clear hc0
  obtain ⟨R,hR⟩:∃ R,walkA L cur chk 6 p (-1) [] []=R:=⟨_,rfl⟩
  rw [hR]
  have HR:=hid hR
  clear hR
  obtain ⟨i0,hi0,hz0,hz1,hz2⟩:=info_parts infoPtr
  obtain ⟨u0,hu0,hv0,hv1,hv2⟩:=info_parts infoU8b
  go_enter Tryz.func110,Tryz.ntmps110
  go_wp2_with (first
   | (go_at_call 432;refine (HEr.out _ (Below.refl _ _)).mono ?_;rintro e w2 ⟨rfl,rfl⟩)
   | (go_at_call 431;refine HC.out.mono ?_;rintro e w1 ⟨rfl,hb1⟩;have HB1:=hid hb1;clear hb1))
  have HI0:Hid (WkI w w1 none 0 0 none 0 0 [] []):=hid ⟨World.ownsRow_nil _ _ _ _,World.ownsRow_nil _ _ _ _,rfl,rfl,HB1.out⟩
  clear HC HEr HB1
  go_loopw [9,10,1,11] (fun v1 v2 v3 v4 wr=>∃ (k q:Nat) (want:Int) (bs by_:List Nat) (A:Option Addr) (m c:Nat) (A2:Option Addr) (m2 c2:Nat),v1 = .slice A m c∧v2 = .slice A2 m2 c2∧v3 = .int .u64 (q:Int)∧v4 = .int .i64 want∧m+k=6∧q≠0∧q < 18446744073709551616∧((want < 0∧k=6)∨(0≤want∧want≤456 * k∧1≤k))∧m2≤456 * m∧Hid (walkA L cur chk k q want bs by_=R)∧Hid (WkI w wr A m c A2 m2 c2 bs by_)) (fun v1 _ _ _ _=>6 - slLen v1)
  case atStart=>exact ⟨6,p, -1,[],[],none,0,0,none,0,0,rfl,rfl,rfl,rfl,rfl,hp0,hp64, .inl ⟨by omega,rfl⟩,by omega,HR,HI0⟩
  case round =>
   clear HI0 HR
   obtain ⟨k,q,want,bs,by_,A,m,c,A2,m2,c2,rfl,rfl,rfl,rfl,hmk,hq0,hq64,hwk,hm2,HR,HI⟩:=hrel
   obtain ⟨k,rfl⟩:∃ j,k=j+1:=⟨k - 1,by omega⟩
   have hR:=HR.out
   unfold walkA at hR
   have HL:=hid (HLd.out wr q HI.out.below hq0 hq64)
   cases hl:loadR L cur q with
   | none =>
    rw [hl] at hR HL
    have HL2:Hid (Calls Tryz.prog 222 #[.iface 59 (.pointer (some ⟨d,0,none⟩)), .int .u64 (q:Int)] wr fun e w'=>e = .returned (.tuple #[.slice none 0 0, .int .i64 0, .int .i64 11])∧Below wr.heap.size wr w'):=HL
    have HF:Hid (R=(11,[],[])):=hid hR.symm
    clear hR HL hl HR hwk hm2
    go_wp2_with (go_at_call 222;refine HL2.out.mono ?_;rintro e w2 ⟨rfl,hb2⟩;have HB2:=hid hb2;clear hb2)
    go_ret3
    rw [HF.out]
    exact ⟨rfl,HI.out.below.trans (HB2.out.mono HI.out.below.size)⟩
   | some o =>
    obtain ⟨l,rest⟩:=o
    obtain ⟨l1,l2,l3,l4⟩:=loadR_len hl
    rw [hl] at hR HL
    obtain ⟨nn,hnn⟩:∃ nn,l.length=nn:=⟨_,rfl⟩
    have HL2:Hid (Calls Tryz.prog 222 #[.iface 59 (.pointer (some ⟨d,0,none⟩)), .int .u64 (q:Int)] wr fun e w'=>∃ g,e = .returned (.tuple #[.slice (some ⟨g,0,none⟩) nn nn, .int .i64 (rest:Int), .int .i64 0])∧Blk w' g 32 (uA l)∧wr.heap.size≤g∧Below wr.heap.size wr w'):=by rw [← hnn];exact HL
    have hn3:=bSize_le rest
    have hn4:=bSize_ge rest
    have HLb:Hid (∀ x∈l,x < 18446744073709551616):=hid (fun x hx=>by
     obtain ⟨j,hj,rfl⟩:=List.getElem_of_mem hx
     rw [l4 j hj]
     exact HS.out.ds.bnd _)
    rw [hnn] at l1
    have HNn:=hid hnn
    have hnn60:nn≤60∧3≤nn∧usedW rest < nn:=⟨by omega,by omega,by unfold usedW;omega⟩
    obtain ⟨l0,hl0⟩:∃ l0,l.getD 0 0=l0:=⟨_,rfl⟩
    have HL0:Hid ((uA l)[0]?=some (.int .u64 (l0:Int))):=hid (by
     rw [uA_at (by omega),← hl0,List.getD_eq_getElem?_getD,List.getElem?_eq_getElem (show 0 < l.length by omega)]
     rfl)
    have hl064:l0 < 18446744073709551616:=by
     rw [← hl0,List.getD_eq_getElem?_getD,List.getElem?_eq_getElem (show 0 < l.length by omega)]
     exact HLb.out _ (List.getElem_mem _)
    have hR2:(if 0≤want∧(rest:Int)≠want then (11,[],[]) else if partE l rest≠0 then (partE l rest,[],[]) else if rest≤456 then (0,bs++[q],by_++partB l rest) else if chk l0≠0 then (11,[],[]) else walkA L cur chk k l0 ((rest:Int) - 456) (bs++[q]) (by_++partB l rest))=R:=by rw [← hl0];exact hR
    have HR2:=hid hR2
    clear hR hR2 HL HR hl l1 l3 l4 hnn hl0 hn3 hn4
    go_wp2_with (go_at_call 222;refine HL2.out.mono ?_;rintro e w2 ⟨g,rfl,hB2,hg2,hb2⟩;refine stop ?_)
    unfold Stop
    have HB2:=hid hB2
    have HG2:=hid hg2
    have HBe2:=hid hb2
    have HBl:=hid (HI.out.below.trans (hb2.mono HI.out.below.size))
    clear hB2 hg2 hb2 HL2
    by_cases hw:0≤want∧(rest:Int)≠want
    ·have d1:decide ((0:Int)≤want)=true:=decide_eq_true hw.1
     have d0:(0:Int)≤want:=hw.1
     have d2:((rest:Int) != want)=true:=by rw [bne,beq_eq_false_iff_ne.2 hw.2];rfl
     have HF:Hid (R=(11,[],[])):=hid (by have h:=HR2.out;rw [if_pos hw] at h;exact h.symm)
     clear hw hwk
     go_wp2
     go_ret3
     rw [HF.out]
     exact ⟨rfl,HBl.out⟩
    ·have HR3:Hid ((if partE l rest≠0 then (partE l rest,[],[]) else if rest≤456 then (0,bs++[q],by_++partB l rest) else if chk l0≠0 then (11,[],[]) else walkA L cur chk k l0 ((rest:Int) - 456) (bs++[q]) (by_++partB l rest))=R):=hid (by have h:=HR2.out;rw [if_neg hw] at h;exact h)
     have hrk:rest≤456 * (k+1):=by omega
     have hd:decide ((0:Int)≤want)=false∨(decide ((0:Int)≤want)=true∧(0:Int)≤want∧((rest:Int) != want)=false):=by
      rcases Int.lt_or_le want 0 with h | h
      ·exact .inl (decide_eq_false (by omega))
      ·have:(rest:Int)=want:=Classical.byContradiction (fun h2=>hw ⟨h,h2⟩)
       exact .inr ⟨decide_eq_true h,h,by rw [bne,beq_iff_eq.2 this];rfl⟩
     clear hw hwk HR2
     go_upto_region 15 with fail
     go_cut [46] from 40 to 47 (fun v wx=>v = .bool false∧Hid (wx=w2))
     case first =>
      rcases hd with d1 | ⟨d1,d0,d2⟩
      ·go_wp2_with fail
       go_meet
       exact ⟨rfl,hid rfl⟩
      ·go_wp2_with fail
       go_meet
       exact ⟨rfl,hid rfl⟩
     case rest =>
      obtain ⟨rfl,hwc⟩:=hcut
      have hw:=hwc.out.symm
      subst hw
      clear hwc hd
      have HPt:=hid (part_any (some ⟨g,0,none⟩) nn nn rest l w2 (by have h:=uA_reads HB2.out;rw [HNn.out] at h;exact h) HLb.out (HS.out.ds.tab.below HBl.out) hnn60.1 (Nat.le_refl _) (by omega) hnn60.2.2 l2)
      by_cases he:partE l rest=0
      ·have HR4:Hid ((if rest≤456 then (0,bs++[q],by_++partB l rest) else if chk l0≠0 then (11,[],[]) else walkA L cur chk k l0 ((rest:Int) - 456) (bs++[q]) (by_++partB l rest))=R):=hid (by have h:=HR3.out;rw [if_neg (fun h=>h he)] at h;exact h)
       have HPt2:Hid (Calls Tryz.prog 223 #[.slice (some ⟨g,0,none⟩) nn nn, .int .i64 (rest:Int)] w2 (RetB w2 (partB l rest))):=hid (HPt.out.mono (fun e w' h=>by unfold RetBpt at h;rw [if_pos he] at h;exact h))
       have hpl:(partB l rest).length≤456:=by unfold partB;rw [unpB_len];omega
       generalize partB l rest=pb at *
       clear HPt he HR3
       go_wp2_with (go_at_call 223;refine HPt2.out.mono ?_;rintro e w3 ⟨A3,m3,c3,rfl,hm3,hr3,hf3,hb3⟩;refine stop ?_)
       unfold Stop
       subst hm3
       have hm3':pb.length≤456:=hpl
       have HR3:=hid hr3
       have HF3:=hid hf3
       have HBe3:=hid (HBe2.out.trans (hb3.mono HBe2.out.size))
       have HBl3:=hid (HBl.out.trans (hb3.mono HBl.out.size))
       have HB3:=hid (HB2.out.below hb3 HB2.out.lt)
       clear hr3 hf3 hb3 HPt2
       have HO1:=hid ((own_below HI.out.o1 HBe3.out).alloc (.cells #[.int .u64 (q:Int)] 54))
       have HO2:=hid ((own_below HI.out.o2 HBe3.out).alloc (.cells #[.int .u64 (q:Int)] 54))
       have HLE:=hid HBl3.out.size
       go_upto_region 21 with (at_builtin;refine wpList_app _ (.tmp 56) (.tmp 58) 40 rfl rfl w.heap.size 54 i0 _ 1 8 Tryz.underlying40 hi0 hz0 hz1 hz2 rfl ?q1 (.slice A m c) m (uCells bs) rfl HO1.out (w3.heap.size+1) (some ⟨w3.heap.size,0,none⟩) 1 1 [.int .u64 (q:Int)] rfl ?q5 ?q6 ?q2 ?q3 ?q4 ?_;(case q1=>omega);(case q5=>exact row_reads_at _ _ rfl _ 1 1 54 _ rfl rfl);(case q6=>(intro u hu;simp at hu;subst hu;rfl));(case q2=>(unfold maxLen;omega));(case q3=>omega);(case q4=>(have:=HLE.out;simp;omega));intro A4 n4 c4 w4 hn4 ho4 hg4 hb4;have HN4:=hid hn4;have HO4:=hid ho4;have HG4:=hid hg4;have HB4':=hid hb4;clear hn4 ho4 hg4 hb4)
       have hn4:n4=m+1:=HN4.out
       have HBl4:Hid (Below w.heap.size w w4):=hid ((HBl3.out.alloc HBl3.out.size _).trans HB4'.out)
       have HO24:=hid (HO2.out.kept HG4.out (own_own_ne HO2.out HO1.out (by decide)))
       have hown1:∀ gg,(Value.slice A m c).ownBlock=some gg→gg < wr.heap.size:=fun gg h=>(HI.out.o1.lt gg h).2
       have HB4:Hid (Blk w4 g 32 (uA l)):=hid ((HB3.out.alloc (.cells #[.int .u64 (q:Int)] 54)).grown HG4.out (fun e=>by have h1:=hown1 g e.symm;have h2:=HG2.out;omega))
       have HR34:Hid (Reads w4 w4.heap.size 1 A3 pb.length (u8s pb)):=hid (by
        have hc:Chg (fun k=>(Value.slice A m c).ownBlock=some k) w3 w4:=((Chg.refl _ w3).alloc _).grown HG4.out (fun gg e => .inl e)
        refine (hc.reads HR3.out (Nat.le_refl _) (fun ad h1 h2=>?_)).more hc.size
        have h3:=hown1 _ h2
        have h4:=HF3.out ad h1
        have h5:=HBe2.out.size
        omega)
       clear HO1 HO2 HR3 HF3 HB3 HB4' HG4 hown1 hn4
       go_upto_region 22 with (at_builtin;go_must (refine wpList_app _ (.tmp 60) (.tmp 61) 24 rfl rfl w.heap.size 5 u0 _ 1 1 Tryz.underlying24 hu0 hv0 hv1 hv2 rfl ?q1 (.slice A2 m2 c2) m2 (u8s by_) rfl HO24.out w4.heap.size A3 pb.length c3 (u8s pb) rfl HR34.out ?q6 ?q2 ?q3 ?q4 ?_;(case q1=>omega);(case q6=>(intro u hu;unfold u8s at hu;obtain ⟨y,_,rfl⟩:=List.mem_map.1 hu;rfl));(case q2=>(unfold maxLen;omega));(case q3=>omega);(case q4=>exact HBl4.out.size);intro A5 n5 c5 w5 hn5 ho5 hg5 hb5;have HN5:=hid hn5;have HO5:=hid ho5;have HG5:=hid hg5;have HB5':=hid hb5;clear hn5 ho5 hg5 hb5))
       have HI5:Hid (WkI w w5 A4 n4 c4 A5 n5 c5 (bs++[q]) (by_++pb)):=hid (by
        refine ⟨?_,?_,?_,?_,HBl4.out.trans HB5'.out⟩
        ·have h:=HO4.out.kept HG5.out (own_own_ne HO4.out HO24.out (by decide))
         have e:uCells (bs++[q])=uCells bs++[.int .u64 (q:Int)]:=by simp [uCells]
         rw [e]
         exact h
        ·have e:u8s (by_++pb)=u8s by_++u8s pb:=by simp [u8s]
         rw [e]
         exact HO5.out
        ·rw [List.length_append,HN4.out,HI.out.l1];rfl
        ·rw [List.length_append,HN5.out,HI.out.l2])
       have HB5:Hid (Blk w5 g 32 (uA l)):=hid (HB4.out.grown HG5.out (fun e=>by have h1:=(HI.out.o2.lt g e.symm).2;have h2:=HG2.out;omega))
       have HRel:Hid (n4+k=6∧n5≤456 * n4∧6 - n4 < 6 - m):=hid (by have h5:n5=m2+pb.length:=HN5.out;have h4:n4=m+1:=HN4.out;omega)
       clear HO4 HO24 HG5 HB5' HB4 HR34 HN4 HN5 HI HBl HBl3 HBl4 HBe2 HBe3
       by_cases hr:rest≤456
       ·have d1:decide ((rest:Int)≤456)=true:=decide_eq_true (by omega)
        have HF:Hid (R=(0,bs++[q],by_++pb)):=hid (by have h:=HR4.out;rw [if_pos hr] at h;exact h.symm)
        clear hr hrk
        go_wp2
        go_ret3
        rw [HF.out]
        exact ⟨A4,n4,c4,A5,n5,c5,rfl,HI5.out.l1,HI5.out.l2,Reads.of_own HI5.out.o1,Reads.of_own HI5.out.o2,fun ad h=>(HI5.out.o1.lt ad.block (by rw [h];rfl)).1,fun ad h=>(HI5.out.o2.lt ad.block (by rw [h];rfl)).1,⟨(own_cap HI5.out.o1).1,(own_cap HI5.out.o2).1⟩,HI5.out.below⟩
       ·have d1:decide ((rest:Int)≤456)=false:=decide_eq_false (by omega)
        have w1:wrap64 ((rest:Int) - 456)=(rest:Int) - 456:=IntWalk.wrap64_in _ (by omega)
        have c0:w5.cell? ⟨g,0,none⟩=some (.int .u64 (l0:Int)):=by rw [HB5.out.cell];exact HL0.out
        have z0:(0:Int) < (nn:Int):=by omega
        have HRe:=hid (HRf.out w5 l0 HI5.out.below hl064)
        by_cases hc:chk l0=0
        ·have HR5:Hid (walkA L cur chk k l0 ((rest:Int) - 456) (bs++[q]) (by_++pb)=R):=hid (by have h:=HR4.out;rw [if_neg hr,if_neg (by omega)] at h;exact h)
         have hl00:=HCnz.out l0 hc
         rw [hc] at HRe
         rw [show ((refR 0:Nat):Int)=0 from rfl] at HRe
         clear hc HR4
         go_wp2_with (go_at_call 224;refine HRe.out.mono ?_;rintro e w6 ⟨rfl,hb6⟩;have HB6:=hid hb6;clear hb6)
         have HI6:Hid (WkI w w6 A4 n4 c4 A5 n5 c5 (bs++[q]) (by_++pb)):=hid ⟨own_below HI5.out.o1 HB6.out,own_below HI5.out.o2 HB6.out,HI5.out.l1,HI5.out.l2,HI5.out.below.trans (HB6.out.mono HI5.out.below.size)⟩
         go_roundw
         case rel =>
          first
           | exact ⟨k,l0,_,_,_,A4,n4,c4,A5,n5,c5,rfl,rfl,rfl,rfl,HRel.out.1,hl00,hl064, .inr ⟨by omega,by omega,by omega⟩,HRel.out.2.1,HR5,HI6⟩
           | (
             repeat apply Exists.intro
             refine ⟨?_,rfl⟩
             exact ⟨k,l0,_,_,_,A4,n4,c4,A5,n5,c5,rfl,rfl,rfl,rfl,HRel.out.1,hl00,hl064, .inr ⟨by omega,by omega,by omega⟩,HRel.out.2.1,HR5,HI6⟩)
         case measure =>
          have h9:=HRel.out.2.2
          simpa [slLen] using h9
        ·have HF:Hid (R=(11,[],[])):=hid (by have h:=HR4.out;rw [if_neg hr,if_pos hc] at h;exact h.symm)
         have e11:((refR (chk l0):Nat):Int)=11:=by unfold refR;rw [if_neg hc];rfl
         rw [e11] at HRe
         clear hc HR4
         go_wp2_with (go_at_call 224;refine HRe.out.mono ?_;rintro e w6 ⟨rfl,hb6⟩;have HB6:=hid hb6;clear hb6)
         go_ret3
         rw [HF.out]
         exact ⟨rfl,HI5.out.below.trans (HB6.out.mono HI5.out.below.size)⟩
      ·obtain ⟨v,hv⟩:∃ v,partE l rest=v:=⟨_,rfl⟩
       have HF:Hid (R=(v,[],[])∧v≠0):=hid ⟨by have h:=HR3.out;rw [if_pos he,hv] at h;exact h.symm,by omega⟩
       have HPt2:Hid (Calls Tryz.prog 223 #[.slice (some ⟨g,0,none⟩) nn nn, .int .i64 (rest:Int)] w2 fun e w'=>e = .returned (.tuple #[.slice none 0 0, .int .i64 (v:Int)])∧Below w2.heap.size w2 w'):=hid (HPt.out.mono (fun e w' h=>by unfold RetBpt at h;rw [if_neg he,hv] at h;exact h))
       have d1:((v:Int) != 0)=true:=by rw [bne,beq_eq_false_iff_ne.2 (by omega)];rfl
       clear HPt he hv HR3
       go_wp2_with (go_at_call 223;refine HPt2.out.mono ?_;rintro e w3 ⟨rfl,hb3⟩;have HB3:=hid hb3;clear hb3)
       go_ret3
       rw [HF.out.1]
       unfold RetWk
       rw [if_neg HF.out.2]
       exact ⟨rfl,HBl.out.trans (HB3.out.mono HBl.out.size)⟩
 ·obtain ⟨v,hv⟩:∃ v,chk p=v:=⟨_,rfl⟩
  rw [hv] at HC hc0 ⊢
  rw [if_pos hc0]
  have d1:((v:Int) != 0)=true:=by rw [bne,beq_eq_false_iff_ne.2 (by omega)];rfl
  have HF:Hid (∀ w':World,Below w.heap.size w w'→RetWk w (v,[],[]) (.returned (.tuple #[.slice none 0 0, .slice none 0 0, .int .i64 (v:Int)])) w'):=hid (fun w' hb=>by unfold RetWk;rw [if_neg hc0];exact ⟨rfl,hb⟩)
  clear hc0 hv HLd HRf HCnz
  go_enter Tryz.func110,Tryz.ntmps110
  go_wp2_with (first
   | (go_at_call 432;refine (HEr.out _ (Below.refl _ _)).mono ?_;rintro e w2 ⟨rfl,rfl⟩)
   | (go_at_call 431;refine HC.out.mono ?_;rintro e w1 ⟨rfl,hb1⟩;have HB1:=hid hb1;clear hb1))
  go_ret3
  exact HF.out _ HB1.out
end
end
end Go.Proofs.YtfkjjoglnmeciaaGreatDoor
