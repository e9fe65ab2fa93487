/- The walks and laws that the claim leans on, part 31. -/
import Derived.Test.YtnlokpakiambaaaGreatDoorJau
import Derived.Test.YtnlokpakiambaaaGreatDoorJbd
set_option maxRecDepth 100000
set_option maxHeartbeats 16000000
namespace Go.Proofs.YtnlokpakiambaaaGreatDoor
open Go.Lib (hid)
section
open Go.RowKit Go.Maps
def wrA (l:List (Nat × Nat)):Array Value:=(wrCells l).toArray
theorem wrCells_set:∀ (l:List (Nat × Nat)) (k a b:Nat),k < l.length→((wrCells l).set (k * 2) (.int .u64 (a:Int))).set (k * 2+1) (.int .u64 (b:Int))=wrCells (l.set k (a,b))
 | x :: l,0,a,b,_=>rfl
 | x :: l,k+1,a,b,h=>by
  have ih:=wrCells_set l k a b (by simpa using h)
  have e:wrCells (x :: l) = .int .u64 (x.1:Int) :: .int .u64 (x.2:Int) :: wrCells l:=rfl
  rw [e,show (k+1) * 2=k * 2+1+1 by omega]
  simp only [List.set_cons_succ]
  rw [ih]
  rfl
theorem wrA_size (l:List (Nat × Nat)):(wrA l).size=2 * l.length:=by
 unfold wrA
 rw [List.size_toArray]
 induction l with
 | nil=>rfl
 | cons x t ih =>
  have e:wrCells (x :: t) = .int .u64 (x.1:Int) :: .int .u64 (x.2:Int) :: wrCells t:=rfl
  rw [e,List.length_cons,List.length_cons,ih,List.length_cons]
  omega
theorem wrA_set {l:List (Nat × Nat)} {k a b:Nat} (h:k < l.length):((wrA l).setIfInBounds (k * 2) (.int .u64 (a:Int))).setIfInBounds (k * 2+1) (.int .u64 (b:Int))=wrA (l.set k (a,b)):=by
 unfold wrA
 rw [List.setIfInBounds_toArray,List.setIfInBounds_toArray,wrCells_set l k a b h]
def plK (off:Nat) (xs:List Nat) (k:Nat):List (Nat × Nat):=(List.range 33).map fun j=>if j < k then (off+8 * j,xs.getD j 0) else (0,0)
def plOf (off:Nat) (xs:List Nat):List (Nat × Nat):=(List.range 33).map fun j=>(off+8 * j,xs.getD j 0)
theorem plK_len (off:Nat) (xs:List Nat) (k:Nat):(plK off xs k).length=33:=by simp [plK]
theorem plK_set (off:Nat) (xs:List Nat) (k:Nat):(plK off xs k).set k (off+8 * k,xs.getD k 0)=plK off xs (k+1):=by
 apply List.ext_getElem
 ·simp [plK]
 ·intro i h1 h2
  rw [List.getElem_set]
  simp only [plK,List.getElem_map,List.getElem_range]
  by_cases e:k=i
  ·subst e
   rw [if_pos rfl,if_pos (by omega)]
  ·rw [if_neg e]
   by_cases h:i < k
   ·rw [if_pos h,if_pos (by omega)]
   ·rw [if_neg h,if_neg (by omega)]
theorem plK_end (off:Nat) (xs:List Nat):plK off xs 33=plOf off xs:=by
 unfold plK plOf
 apply List.map_congr_left
 intro j hj
 rw [if_pos (List.mem_range.1 hj)]
theorem makeW33 (W:World):(Instr.makeSlice 68 (.int .i64 33) (.int .i64 33)).run Tryz.prog W = .ok (.slice (some ⟨W.heap.size,0,none⟩) 33 33) (W.alloc (.cells (madeCells #[.int .u64 0, .int .u64 0] (33 * 2)) 90)):=by
 obtain ⟨j0,hj0,hk0,hk1,hk2⟩:=info_parts infoWrite
 have h:=run_makeSlice (P:=Tryz.prog) W 68 90 j0 (.agg #[.int .u64 0, .int .u64 0]) Tryz.underlying68 hj0 hk0 .i64 .i64 33 33 (by omega) (by omega) (by rw [hk1];decide) (by rw [hk2];decide) (by omega)
 rw [hk1] at h
 exact h
theorem made33:madeCells #[Value.int .u64 0, .int .u64 0] (33 * 2)=wrA (List.replicate 33 (0,0)):=by kernel_rfl
def RetPl2 (w:World) (ws:List (Nat × Nat)) (e:Ending) (w':World):Prop:=∃ g:Nat,w.heap.size≤g∧e = .returned (.tuple #[.slice (some ⟨g,0,none⟩) 33 33, .int .i64 0])∧Blk w' g 90 (wrA ws)∧Below w.heap.size w w'
theorem rplan_any (off:Nat) (A:Option Addr) (n cc:Nat) (l:List (List Nat × Nat)) (w:World) (h8:off % 8=0) (hoff:off≤1000000) (hr:Reads w w.heap.size 2 A n (itCells l)) (hn:n≤8) (hl:∀ p∈l,p.1.length≤16∧∀ b∈p.1,b < 256) :
  Calls Tryz.prog 122 #[.int .u64 (off:Int),arI, .slice A n cc] w (RetPl2 w (plOf off (encA l))):=by
 have hln:l.length=n:=by have:=hr.1;rw [itCells_len] at this;omega
 have HLe:Hid ((encA l).length=33):=hid (by unfold encA;exact wrk_len (fun p hp=>(hl p hp).1) (Nat.le_refl _) (by omega))
 have HRv:=hid hr
 have HLi:=hid hl
 have HN:=hid (And.intro hoff hn)
 have hm:=methArE
 have e4:((off:Int) % 8 != 0)=false:=by rw [bne,beq_iff_eq.2 (by omega)];rfl
 have ho2:(off:Int)≤1000000:=by omega
 have hmkS:=makeU 33 (by decide)
 rw [make_uA] at hmkS
 rw [show ((33:Nat):Int)=33 from rfl] at hmkS
 obtain ⟨Z,hZ⟩:∃ Z:List Nat,Z=List.replicate 33 0:=⟨_,rfl⟩
 rw [← hZ] at hmkS
 have HZ:=hid hZ
 have hmkW:=makeW33
 rw [made33] at hmkW
 obtain ⟨Zw,hZw⟩:∃ Zw:List (Nat × Nat),Zw=List.replicate 33 (0,0):=⟨_,rfl⟩
 rw [← hZw] at hmkW
 have HZw:=hid hZw
 clear hZ hZw hr hl hln h8
 unfold arI
 go_enter Tryz.func122,Tryz.ntmps122
 go_upto_region 4 with (go_at_call 164;refine (arSize_any w).mono ?_;rintro e w1 ⟨rfl,hb1⟩;have HB1:=hid hb1;clear hb1)
 go_upto_region 5 with fail
 obtain ⟨ge,hgee⟩:∃ ge,w1.heap.size=ge:=⟨_,rfl⟩
 obtain ⟨W4,hW4⟩:∃ W4,w1.alloc (.cells (uA Z) 23)=W4:=⟨_,rfl⟩
 have hb4:Below w.heap.size w W4:=by rw [← hW4];exact HB1.out.alloc HB1.out.size _
 have hk4:Blk W4 ge 23 (uA Z):=by rw [← hW4,← hgee];exact Blk.new _ _ _
 have hge:w.heap.size≤ge:=by rw [← hgee];exact HB1.out.size
 have HGq:=hid hgee
 have HGe:=hid hge
 have HW4:=hid hW4
 have HB4:=hid hb4
 have HE4:=hid (arEnc_any A n cc l ge 0 Z W4 ((HRv.out.below hb4).more hb4.size) HN.out.2 HLi.out hk4 (by rw [HZ.out];decide))
 have HPw:Hid (putW Z 0 (encA l)=encA l):=hid (by
  unfold putW
  rw [HLe.out,HZ.out]
  simp)
 clear hW4 hb4 hk4 hge hgee hmkS
 rw [HW4.out,HGq.out]
 go_upto_region 7 with (go_at_call 316;refine HE4.out.mono ?_;rintro e w5 ⟨rfl,hk5,hb5⟩;rw [HPw.out] at hk5;have HK5:=hid hk5;have HB5:=hid (HB4.out.trans (hb5.mono HGe.out));clear hk5 hb5)
 go_upto_region 8 with fail
 obtain ⟨gq,hgqe⟩:∃ gq,w5.heap.size=gq:=⟨_,rfl⟩
 obtain ⟨W7,hW7⟩:∃ W7,w5.alloc (.cells (wrA Zw) 90)=W7:=⟨_,rfl⟩
 have hb7:Below w.heap.size w W7:=by rw [← hW7];exact HB5.out.alloc HB5.out.size _
 have hk7:Blk W7 gq 90 (wrA Zw):=by rw [← hW7,← hgqe];exact Blk.new _ _ _
 have hk7e:Blk W7 ge 23 (uA (encA l)):=by rw [← hW7];exact HK5.out.alloc _
 have hgq:ge < gq:=by rw [← hgqe];exact HK5.out.lt
 have HGqe:=hid hgqe
 have HGq:=hid hgq
 have HW7:=hid hW7
 have HB7:=hid hb7
 have HK7:Hid (Blk W7 gq 90 (wrA (plK off (encA l) 0))):=hid (by
  have e:plK off (encA l) 0=Zw:=by
   rw [HZw.out]
   unfold plK
   simp only [Nat.not_lt_zero,if_false]
   rfl
  rw [e]
  exact hk7)
 have HKe:=hid hk7e
 have HB0:Hid (Below gq W7 W7):=hid (Below.refl _ _)
 clear hW7 hb7 hk7 hk7e hgq hgqe hmkW
 rw [HW7.out,HGqe.out]
 generalize encA l=xs at *
 go_wp2_with fail
 go_loopw [41] (fun i wr=>∃ k:Nat,k≤33∧i = .int .i64 (k:Int)∧Hid (Blk wr gq 90 (wrA (plK off xs k)))∧Hid (Below gq W7 wr)) (fun i _=>33 - (Go.RowKit.intOf i).toNat)
 case atStart=>exact ⟨0,Nat.zero_le _,rfl,HK7,HB0⟩
 case round =>
  clear HB0 HK7
  obtain ⟨k,hk,rfl,HKr,HBr⟩:=hrel
  by_cases hlt:k < 33
  ·have hkl:k < xs.length:=by rw [HLe.out];exact hlt
   have hc:wr.cell? ⟨ge,k,none⟩=some (.int .u64 (xs[k]:Int)):=by
    rw [HBr.out.cell (p:=⟨ge,k,none⟩) HGq.out,HKe.out.cell]
    exact uA_at hkl
   have HS:=hid (plK_set off xs k)
   have hxd:xs.getD k 0=xs[k]:=by simp [hkl]
   rw [hxd] at HS
   have HKs:=hid ((HKr.out.set_ (k * 2) (.int .u64 ((off+8 * k:Nat):Int))).set_ (k * 2+1) (.int .u64 (xs[k]:Int)))
   rw [wrA_set (by rw [plK_len];exact hlt),HS.out] at HKs
   have HBs:=hid ((HBr.out.setCell (p:=⟨gq,k * 2,none⟩) (Nat.le_refl _) (.int .u64 ((off+8 * k:Nat):Int))).setCell (p:=⟨gq,k * 2+1,none⟩) (Nat.le_refl _) (.int .u64 (xs[k]:Int)))
   have hz5:(0:Int)≤(k:Int):=by omega
   have hz6:(k:Int) < 33:=by omega
   generalize xs[k]=x at *
   have z0:wr.frozen? ⟨gq,k * 2,none⟩=false:=HKr.out.frozen _
   have z1:wr.frozen? ⟨gq,k * 2+1,none⟩=false:=HKr.out.frozen _
   obtain ⟨u0,u1,y0,y1⟩:∃ u0 u1:Value,wr.cell? ⟨gq,k * 2,none⟩=some u0∧wr.cell? ⟨gq,k * 2+1,none⟩=some u1:=by
    have hs:(wrA (plK off xs k)).size=2 * 33:=by rw [wrA_size,plK_len]
    exact ⟨_,_,(HKr.out.cell _).trans (Array.getElem?_eq_getElem (by omega)),(HKr.out.cell _).trans (Array.getElem?_eq_getElem (by omega))⟩
   clear hkl hxd HS
   go_wp2_with fail
   go_roundw
   rw [show (off:Int)+(k:Int) * 8=((off+8 * k:Nat):Int) by omega]
   case rel=>exact ⟨k+1,by omega,by go_num,HKs,HBs⟩
   case measure=>simp [Go.RowKit.intOf];omega
  ·obtain rfl:k=33:=by omega
   go_wp2_with fail
   go_ret2
   refine ⟨gq,?_,rfl,?_,?_⟩
   ·have h1:=HB5.out.size
    rw [HGqe.out] at h1
    exact h1
   ·have h1:=HKr.out
    rw [plK_end] at h1
    exact h1
   ·refine HB7.out.trans (HBr.out.mono ?_)
    have h1:=HB5.out.size
    rw [HGqe.out] at h1
    exact h1
end
section
open Go.RowKit Go.Maps Go.Shelf Go.Sort
theorem cb_cons (x y:UInt8) (a b:List UInt8):Lib.compareBytes (x :: a) (y :: b)=if x.toNat < y.toNat then -1 else if y.toNat < x.toNat then 1 else Lib.compareBytes a b:=by
 rw [Lib.compareBytes]
 simp only [UInt8.lt_iff_toNat_lt]
theorem cb_self:∀ a:List UInt8,Lib.compareBytes a a=0
 | []=>rfl
 | x :: a=>by rw [cb_cons,if_neg (Nat.lt_irrefl _),if_neg (Nat.lt_irrefl _),cb_self a]
theorem cb_nil_cons (y:UInt8) (b:List UInt8):Lib.compareBytes [] (y :: b) = -1:=rfl
theorem cb_cons_nil (y:UInt8) (b:List UInt8):Lib.compareBytes (y :: b) []=1:=rfl
theorem cb_trans:∀ a b c:List UInt8,Lib.compareBytes a b < 0→Lib.compareBytes b c < 0→Lib.compareBytes a c < 0
 | [],[],_,h1,_=>absurd h1 (by decide)
 | [],_ :: _,[],_,h2=>absurd h2 (by rw [cb_cons_nil];decide)
 | [],_ :: _,_ :: _,_,_=>by rw [cb_nil_cons];decide
 | _ :: _,[],_,h1,_=>absurd h1 (by rw [cb_cons_nil];decide)
 | _ :: _,_ :: _,[],_,h2=>absurd h2 (by rw [cb_cons_nil];decide)
 | x :: a,y :: b,z :: c,h1,h2=>by
  have ih:=cb_trans a b c
  rw [cb_cons] at h1 h2 ⊢
  split at h1 <;> split at h2 <;> split <;> try split
  all_goals first
   | omega
   | (split at h1 <;> split at h2 <;> first | omega | exact ih (by assumption) (by assumption))
   | (split at h1 <;> omega)
   | (split at h2 <;> omega)
theorem cb_ntrans:∀ a b c:List UInt8,0≤Lib.compareBytes a b→0≤Lib.compareBytes b c→0≤Lib.compareBytes a c
 | [],[],_,_,h2=>h2
 | [],_ :: _,_,h1,_=>absurd h1 (by rw [cb_nil_cons];decide)
 | _ :: _,_,[],_,_=>by rw [cb_cons_nil];decide
 | _ :: _,[],_ :: _,_,h2=>absurd h2 (by rw [cb_nil_cons];decide)
 | x :: a,y :: b,z :: c,h1,h2=>by
  have ih:=cb_ntrans a b c
  rw [cb_cons] at h1 h2 ⊢
  split at h1 <;> split at h2 <;> split <;> try split
  all_goals first
   | omega
   | (split at h1 <;> split at h2 <;> first | omega | exact ih (by assumption) (by assumption))
   | (split at h1 <;> omega)
   | (split at h2 <;> omega)
def nmCf (x y:List Nat × Nat):Int:=snCmp (strN x.1) (strN y.1)
theorem nmSwo:SWO (fun x y:List Nat × Nat=>decide (nmCf x y < 0)) where
 irrefl x:=decide_eq_false (by unfold nmCf snCmp;rw [cb_self];decide)
 trans x y z h1 h2:=decide_eq_true (cb_trans _ _ _ (of_decide_eq_true h1) (of_decide_eq_true h2))
 ntrans x y z h1 h2:=decide_eq_false (by
  have g1:=of_decide_eq_false h1
  have g2:=of_decide_eq_false h2
  have g3:=cb_ntrans _ _ _ (show 0≤nmCf x y by omega) (show 0≤nmCf y z by omega)
  have g4:0≤nmCf x z:=g3
  omega)
end
section
open Go.RowKit Go.Maps
theorem infoU8:(Tryz.prog.info? 5).map (fun i=>(i.zero,i.size,i.bytes))=some (some (.int .u8 0),1,1):=by kernel_rfl
def kOf (s p:Nat):Nat:=(pOff p - 64 * s) / 2048
def iOf (s:Nat) (cs:Nat→CS) (p:Nat):Nat:=((pOff p - 64 * (s+32 * kOf s p) - 8) / 8 - 8) / (payW (cs (kOf s p)).cl+1)
theorem kOf_blk {s:Nat} {cs:Nat→CS} {k i p:Nat} (hi:i < perC (cs k).cl) (hp:pOff p=offO s cs k i):kOf s p=k∧iOf s cs p=i:=by
 have h1:=off_lt hi
 have h2:=pay_le (cs k).cl
 have hk:kOf s p=k:=by unfold kOf;rw [hp];unfold offO blkO;omega
 refine ⟨hk,?_⟩
 unfold iOf
 rw [hk,hp]
 unfold offO blkO
 have e:(64 * (s+32 * k)+8 * offB (cs k).cl i+8 - 64 * (s+32 * k) - 8) / 8 - 8=i * (payW (cs k).cl+1):=by unfold offB;omega
 rw [e,Nat.mul_div_cancel _ (by omega)]
def tlOf (s:Nat) (cs:Nat→CS) (l:List Nat) (k:Nat):List (Nat × Nat):=(l.filter fun p=>kOf s p == k).map fun p=>(iOf s cs p,pKind p)
def dlOf (s:Nat) (cs:Nat→CS) (l:List Nat) (k:Nat):List Nat:=(l.filter fun p=>kOf s p == k).map fun p=>iOf s cs p
theorem tlOf_snoc (s:Nat) (cs:Nat→CS) (l:List Nat) (p k:Nat):tlOf s cs (l++[p]) k=if k=kOf s p then tlOf s cs l k++[(iOf s cs p,pKind p)] else tlOf s cs l k:=by
 unfold tlOf
 rw [List.filter_append,List.map_append]
 by_cases h:k=kOf s p
 ·rw [if_pos h];simp [h]
 ·rw [if_neg h]
  have:(kOf s p == k)=false:=by rw [beq_eq_false_iff_ne];exact fun e=>h e.symm
  simp [this]
theorem dlOf_snoc (s:Nat) (cs:Nat→CS) (l:List Nat) (p k:Nat):dlOf s cs (l++[p]) k=if k=kOf s p then dlOf s cs l k++[iOf s cs p] else dlOf s cs l k:=by
 unfold dlOf
 rw [List.filter_append,List.map_append]
 by_cases h:k=kOf s p
 ·rw [if_pos h];simp [h]
 ·rw [if_neg h]
  have:(kOf s p == k)=false:=by rw [beq_eq_false_iff_ne];exact fun e=>h e.symm
  simp [this]
theorem nodup_of_map {g:Nat→Nat} {l:List Nat} (h:(l.map g).Nodup):l.Nodup:=(List.pairwise_map.1 h).imp (fun hne e=>hne (congrArg g e))
structure ActI (w wr:World) (mb NN s K:Nat) (cs:Nat→CS) (kl fl:List Nat) (c:CI):Prop where
 chi:ChI wr (mb+2) mb NN s K c
 tl:∀ k,k < K→c.tl k=tlOf s cs kl k
 dl:∀ k,k < K→c.dl k=dlOf s cs fl k
 cbs:∀ k,k < K→((c.cb k).isSome=true↔tlOf s cs kl k≠[]∨dlOf s cs fl k≠[])
 vb:Blk wr (mb+1) 236 #[.map (some mb)]
 below:Below w.heap.size w wr
 mbl:w.heap.size≤mb
 size:mb+2≤wr.heap.size
structure ActM (w wr:World) (mb NN s K:Nat) (cs:Nat→CS) (kl fl:List Nat) (c:CI) (k g:Nat):Prop where
 chi:ChI wr (mb+2) mb NN s K c
 tl:∀ j,j < K→c.tl j=tlOf s cs kl j
 dl:∀ j,j < K→c.dl j=dlOf s cs fl j
 cbs:∀ j,j < K→j≠k→((c.cb j).isSome=true↔tlOf s cs kl j≠[]∨dlOf s cs fl j≠[])
 cg:c.cb k=some g
 vb:Blk wr (mb+1) 236 #[.map (some mb)]
 below:Below w.heap.size w wr
 mbl:w.heap.size≤mb
 size:mb+2≤wr.heap.size
theorem ActI.mid {w wr w3 w4:World} {mb NN s K:Nat} {cs:Nat→CS} {kl fl:List Nat} {c c1:CI} {k g:Nat} (h:ActI w wr mb NN s K cs kl fl c) (hb3:Below wr.heap.size wr w3) (hci:ChI w4 (mb+2) mb (NN+1) s K c1) (hcg:c1.cb k=some g) (htl:c1.tl=c.tl) (hdl:c1.dl=c.dl) (hcb:∀ j,j≠k→c1.cb j=c.cb j) (hch:Chg (fun j=>j=mb) w3 w4) :
  ActM w w4 mb (NN+1) s K cs kl fl c1 k g:=by
 have b4:Below w.heap.size w3 w4:=hch.toBelow (Nat.le_trans h.below.size hb3.size) (fun j hj=>by have:=h.mbl;omega)
 refine ⟨hci,fun j hj=>by rw [htl];exact h.tl j hj,fun j hj=>by rw [hdl];exact h.dl j hj,fun j hj hne=>by rw [hcb j hne];exact h.cbs j hj,hcg,?_,(h.below.trans (hb3.mono h.below.size)).trans b4,h.mbl,Nat.le_trans h.size (Nat.le_trans hb3.size hch.size)⟩
 exact hch.blk (h.vb.below hb3 h.vb.lt) (fun e=>by omega)
theorem ActM.take {w wr w4:World} {mb NN s K:Nat} {cs:Nat→CS} {kl fl:List Nat} {c:CI} {k g p:Nat} {A2 A4:Option Addr} {c2 c4:Nat} (h:ActM w wr mb NN s K cs kl fl c k g) (hk:k < K) (hko:kOf s p=k) (hi:ChI w4 (mb+2) mb NN s K (c.take k A2 c2 A4 c4 (iOf s cs p) (pKind p))) (hc:Chg (fun j=>mb+2≤j) wr w4) :
  ActI w w4 mb NN s K cs (kl++[p]) fl (c.take k A2 c2 A4 c4 (iOf s cs p) (pKind p)):=by
 have e:∀ j,j < K→(c.take k A2 c2 A4 c4 (iOf s cs p) (pKind p)).tl j=tlOf s cs (kl++[p]) j:=fun j hj=>by
  rw [tlOf_snoc,hko]
  show updX c.tl k (c.tl k++[(iOf s cs p,pKind p)]) j=_
  by_cases hjk:j=k
  ·subst hjk
   rw [if_pos rfl,updX_same,h.tl j hj]
  ·rw [if_neg hjk,updX_other hjk,h.tl j hj]
 refine ⟨hi,e,h.dl,fun j hj=>?_,hc.blk h.vb (fun e=>by omega),h.below.trans (hc.toBelow h.below.size (fun j hj=>by have:=h.mbl;omega)),h.mbl,Nat.le_trans h.size hc.size⟩
 by_cases hjk:j=k
 ·subst hjk
  refine ⟨fun _ => .inl ?_,fun _=>?_⟩
  ·rw [tlOf_snoc,hko,if_pos rfl];simp
  ·show (c.cb j).isSome=true
   rw [h.cg];rfl
 ·rw [tlOf_snoc,hko,if_neg hjk]
  exact h.cbs j hj hjk
theorem ActM.drop {w wr w4:World} {mb NN s K:Nat} {cs:Nat→CS} {kl fl:List Nat} {c:CI} {k g p:Nat} {A2:Option Addr} {c2:Nat} (h:ActM w wr mb NN s K cs kl fl c k g) (hk:k < K) (hko:kOf s p=k) (hi:ChI w4 (mb+2) mb NN s K (c.drop k A2 c2 (iOf s cs p))) (hc:Chg (fun j=>mb+2≤j) wr w4) :
  ActI w w4 mb NN s K cs kl (fl++[p]) (c.drop k A2 c2 (iOf s cs p)):=by
 have e:∀ j,j < K→(c.drop k A2 c2 (iOf s cs p)).dl j=dlOf s cs (fl++[p]) j:=fun j hj=>by
  rw [dlOf_snoc,hko]
  show updX c.dl k (c.dl k++[iOf s cs p]) j=_
  by_cases hjk:j=k
  ·subst hjk
   rw [if_pos rfl,updX_same,h.dl j hj]
  ·rw [if_neg hjk,updX_other hjk,h.dl j hj]
 refine ⟨hi,h.tl,e,fun j hj=>?_,hc.blk h.vb (fun e=>by omega),h.below.trans (hc.toBelow h.below.size (fun j hj=>by have:=h.mbl;omega)),h.mbl,Nat.le_trans h.size hc.size⟩
 by_cases hjk:j=k
 ·subst hjk
  refine ⟨fun _ => .inr ?_,fun _=>?_⟩
  ·rw [dlOf_snoc,hko,if_pos rfl];simp
  ·show (c.cb j).isSome=true
   rw [h.cg];rfl
 ·rw [dlOf_snoc,hko,if_neg hjk]
  exact h.cbs j hj hjk
theorem tlOf_len (s:Nat) (cs:Nat→CS) (l:List Nat) (k:Nat):(tlOf s cs l k).length≤l.length:=by
 unfold tlOf;rw [List.length_map];exact List.length_filter_le _ _
theorem dlOf_len (s:Nat) (cs:Nat→CS) (l:List Nat) (k:Nat):(dlOf s cs l k).length≤l.length:=by
 unfold dlOf;rw [List.length_map];exact List.length_filter_le _ _
structure KeepOk (s K:Nat) (cs:Nat→CS) (f:Nat→Option Nat) (p:Nat):Prop where
 loc:∃ k i,k < K∧(cs k).dv=true∧i < perC (cs k).cl∧pOff p=offO s cs k i∧((cs k).bs i).st=176
 res:f (pOff p)=some p
 kind:0 < pKind p∧pKind p < 128
 nz:p≠0∧p < 18446744073709551616
structure FreeOk (s K:Nat) (cs:Nat→CS) (p:Nat):Prop where
 loc:∃ k i,k < K∧(cs k).dv=true∧i < perC (cs k).cl∧pOff p=offO s cs k i∧((cs k).bs i).st=177
 chk:chkR s K cs p 0=0
 nz:p≠0∧p < 18446744073709551616
def RetActs (w:World) (s K:Nat) (cs:Nat→CS) (keep free:List Nat) (e:Ending) (w':World):Prop :=
 ∃ A m c,∃ ks:List Nat,∃ V:Nat→Nat,e = .returned (.tuple #[.slice A m c, .int .i64 0])∧ks.Nodup∧(∀ k,k∈ks↔k < K∧(tlOf s cs keep k≠[]∨dlOf s cs free k≠[]))∧(∀ k∈ks,Bits (V k) (cs k).cl (actB (cs k).bs (tlOf s cs keep k) (dlOf s cs free k))) ∧
  w'.ownsRow w.heap.size 90 2 (.slice A m c) m (wrCells (ks.flatMap fun k=>chgW (s+32 * k) (cs k).cl (cs k).bs (tlOf s cs keep k) (dlOf s cs free k) (V k)))∧Below w.heap.size w w'
theorem jc_facts {w:World} {B n:Nat} {A:Option Addr} {l:List Nat} (h:Reads w B 1 A n (jCells l)) {k:Nat} (hk:k < n) :
  ∃ (hl:k < l.length) (b off:Nat),A=some ⟨b,off,none⟩∧b < B∧w.cell? ⟨b,off+k,none⟩=some (.int .i64 ((l[k]:Nat):Int)):=by
 have hl:k < l.length:=by have:=h.1;simp [jCells] at this;omega
 obtain ⟨b,off,hA,hb,hc⟩:=h.plain (by omega) (by omega)
 exact ⟨hl,b,off,hA,hb,hc k _ (by simp [jCells,hl])⟩
theorem chgW_len (ln cl:Nat) (bs:Nat→BK) (take:List (Nat × Nat)) (drop:List Nat) (V:Nat):(chgW ln cl bs take drop V).length=take.length+drop.length+1:=by
 simp [chgW,tkW,drW]
 omega
theorem wrCells_one (ws:List (Nat × Nat)):∀ u∈wrCells ws,u.oneCell'=true:=by
 intro u hu
 obtain ⟨p,_,hp⟩:=List.mem_flatMap.1 hu
 simp only [List.mem_cons,List.not_mem_nil,or_false] at hp
 rcases hp with rfl | rfl <;> rfl
theorem flatMap_same {f g:Nat→List (Nat × Nat)}:∀ (l:List Nat),(∀ x∈l,f x=g x)→l.flatMap f=l.flatMap g
 | [],_=>rfl
 | x :: l,h=>by
  rw [List.flatMap_cons,List.flatMap_cons,h x (by simp),flatMap_same l (fun y hy=>h y (by simp [hy]))]
theorem flatMap_len {f:Nat→List (Nat × Nat)} {B:Nat}:∀ (l:List Nat),(∀ x∈l,(f x).length≤B)→(l.flatMap f).length≤B * l.length
 | [],_=>by simp
 | x :: l,h=>by
  rw [List.flatMap_cons,List.length_append,List.length_cons]
  have h1:=h x (by simp)
  have h2:=flatMap_len l (fun y hy=>h y (by simp [hy]))
  rw [Nat.mul_succ]
  omega
theorem acts_hyp {s K:Nat} {cs:Nat→CS} {f:Nat→Option Nat} {keep free:List Nat} (hk:∀ p∈keep,KeepOk s K cs f p) (hfr:∀ p∈free,FreeOk s K cs p) (hn:((keep++free).map pOff).Nodup) {k:Nat} (hne:tlOf s cs keep k≠[]∨dlOf s cs free k≠[]) :
  (cs k).dv=true∧((tlOf s cs keep k).map (·.1)++dlOf s cs free k).Nodup∧(∀ e∈tlOf s cs keep k,e.1 < perC (cs k).cl∧((cs k).bs e.1).st=176∧0 < e.2∧e.2 < 128)∧∀ i∈dlOf s cs free k,i < perC (cs k).cl∧((cs k).bs i).st=177:=by
 have h1:∀ p∈keep,kOf s p=k→(cs k).dv=true∧iOf s cs p < perC (cs k).cl∧pOff p=offO s cs k (iOf s cs p)∧((cs k).bs (iOf s cs p)).st=176:=fun p hp he=>by
  obtain ⟨k',i,hkK,hd,hi,hpo,hst⟩:=(hk p hp).loc
  obtain ⟨e1,e2⟩:=kOf_blk hi hpo
  rw [he] at e1
  subst e1
  subst e2
  exact ⟨hd,hi,hpo,hst⟩
 have h2:∀ p∈free,kOf s p=k→(cs k).dv=true∧iOf s cs p < perC (cs k).cl∧pOff p=offO s cs k (iOf s cs p)∧((cs k).bs (iOf s cs p)).st=177:=fun p hp he=>by
  obtain ⟨k',i,hkK,hd,hi,hpo,hst⟩:=(hfr p hp).loc
  obtain ⟨e1,e2⟩:=kOf_blk hi hpo
  rw [he] at e1
  subst e1
  subst e2
  exact ⟨hd,hi,hpo,hst⟩
 have m1:∀ e∈tlOf s cs keep k,∃ p∈keep,kOf s p=k∧e=(iOf s cs p,pKind p):=fun e he=>by
  obtain ⟨p,hp,rfl⟩:=List.mem_map.1 he
  obtain ⟨hp1,hp2⟩:=List.mem_filter.1 hp
  exact ⟨p,hp1,by simpa using hp2,rfl⟩
 have m2:∀ i∈dlOf s cs free k,∃ p∈free,kOf s p=k∧i=iOf s cs p:=fun e he=>by
  obtain ⟨p,hp,rfl⟩:=List.mem_map.1 he
  obtain ⟨hp1,hp2⟩:=List.mem_filter.1 hp
  exact ⟨p,hp1,by simpa using hp2,rfl⟩
 refine ⟨?_,?_,fun e he=>?_,fun i hi=>?_⟩
 ·rcases hne with h | h
  ·obtain ⟨e,he⟩:=List.exists_mem_of_ne_nil _ h
   obtain ⟨p,hp,hkp,_⟩:=m1 e he
   exact (h1 p hp hkp).1
  ·obtain ⟨e,he⟩:=List.exists_mem_of_ne_nil _ h
   obtain ⟨p,hp,hkp,_⟩:=m2 e he
   exact (h2 p hp hkp).1
 ·have e:(tlOf s cs keep k).map (·.1)++dlOf s cs free k=((keep++free).filter fun p=>kOf s p == k).map (iOf s cs):=by
   rw [List.filter_append,List.map_append]
   unfold tlOf dlOf
   rw [List.map_map]
   rfl
  rw [e]
  refine List.pairwise_map.2 ?_
  have hp:(keep++free).Pairwise fun p q=>pOff p≠pOff q:=List.pairwise_map.1 hn
  refine (hp.filter _).imp_of_mem (fun {p q} hp hq hne e=>hne ?_)
  obtain ⟨p1,p2⟩:=List.mem_filter.1 hp
  obtain ⟨q1,q2⟩:=List.mem_filter.1 hq
  have p3:kOf s p=k:=by simpa using p2
  have q3:kOf s q=k:=by simpa using q2
  have pe:pOff p=offO s cs k (iOf s cs p):=by
   rcases List.mem_append.1 p1 with h | h
   ·exact (h1 p h p3).2.2.1
   ·exact (h2 p h p3).2.2.1
  have qe:pOff q=offO s cs k (iOf s cs q):=by
   rcases List.mem_append.1 q1 with h | h
   ·exact (h1 q h q3).2.2.1
   ·exact (h2 q h q3).2.2.1
  rw [pe,qe,e]
 ·obtain ⟨p,hp,hkp,rfl⟩:=m1 e he
  obtain ⟨_,a2,_,a4⟩:=h1 p hp hkp
  exact ⟨a2,a4,(hk p hp).kind⟩
 ·obtain ⟨p,hp,hkp,rfl⟩:=m2 i hi
  obtain ⟨_,a2,_,a4⟩:=h2 p hp hkp
  exact ⟨a2,a4⟩
def RetKs (W:World) (s K:Nat) (cb:Nat→Option Nat) (e:Ending) (w':World):Prop :=
 ∃ A m c,∃ ks:List Nat,e = .returned (.slice A m c)∧ks.Nodup∧(∀ k,k∈ks↔k < K∧(cb k).isSome=true)∧ks.length=m∧m≤K∧w'.ownsRow W.heap.size 3 1 (.slice A m c) m (jCells (ks.map fun k=>s+32 * k))∧Below W.heap.size W w'
theorem ks_of {s:Nat} {ls ks0:List Nat} (h:ls.Perm (ks0.map fun k=>s+32 * k)):∃ ks:List Nat,ks.Perm ks0∧ls=ks.map fun k=>s+32 * k:=by
 refine ⟨ls.map fun y=>(y - s) / 32,?_,?_⟩
 ·have h1:=h.map fun y=>(y - s) / 32
  rw [List.map_map] at h1
  have e:(ks0.map ((fun y=>(y - s) / 32) ∘ fun k=>s+32 * k))=ks0:=by
   have:((fun y=>(y - s) / 32) ∘ fun k=>s+32 * k)=id:=by
    funext k
    simp
   rw [this,List.map_id]
  rw [e] at h1
  exact h1
 ·rw [List.map_map]
  have e:ls.map ((fun k=>s+32 * k) ∘ fun y=>(y - s) / 32)=ls.map id:=List.map_congr_left (fun y hy=>by
   obtain ⟨k,_,rfl⟩:=List.mem_map.1 (h.mem_iff.1 hy)
   simp)
  rw [e,List.map_id]
theorem chSorted_any {w:World} {mb N s K:Nat} {cb:Nat→Option Nat} (h:ChM w mb N s K cb) (hK:K≤12) (_hN:N≤1000000) :
  Calls Tryz.prog 131 #[.func (.func 169) #[] #[.pointer (some ⟨w.heap.size,0,none⟩)]] (w.alloc (.cells #[.map (some mb)] 236)) (RetKs (w.alloc (.cells #[.map (some mb)] 236)) s K cb):=by
 obtain ⟨D,ho,hd⟩:=h
 have hp:((((List.range K).filter fun k=>(cb k).isSome).map fun k=>s+32 * k).map Int.ofNat).Perm (intKeys D):=by
  have hc:CollectedI D (fun _=>false) ((((List.range K).filter fun k=>(cb k).isSome).map fun k=>s+32 * k).map Int.ofNat):=by
   refine ⟨?_,fun x=>?_⟩
   ·refine List.pairwise_map.2 (List.pairwise_map.2 ?_)
    exact (List.nodup_range.filter _).imp (fun hne e=>hne (by have e':((s+32 * _:Nat):Int)=((s+32 * _:Nat):Int):=e;omega))
   ·rw [hd.has x]
    simp only [List.mem_map,List.mem_filter,List.mem_range]
    constructor
    ·rintro ⟨a,⟨k,⟨hk,hs⟩,rfl⟩,rfl⟩
     exact ⟨⟨k,hk,rfl,hs⟩,trivial⟩
    ·rintro ⟨⟨k,hk,rfl,hs⟩,_⟩
     exact ⟨_,⟨k,⟨hk,hs⟩,rfl⟩,rfl⟩
  exact hc.perm ho keyedI Tryz.underlying3 (fun _=>rfl)
 have hsz:Maps.size D≤12:=by
  obtain ⟨es,hD,_⟩:=ho.entries keyedI
  subst hD
  have h1:=hp.length_eq
  rw [List.length_map,List.length_map] at h1
  have h2:=List.length_filter_le (fun k=>(cb k).isSome) (List.range K)
  rw [List.length_range] at h2
  have h3:(intKeys (.map es)).length=Maps.size (.map es):=by
   show (es.map _).length=_
   rw [List.length_map]
   rfl
  omega
 have hg:=keysChg_gives 9 w.heap.size mb N D (w.alloc (.cells #[.map (some mb)] 236)) (by simp) ((Blk.new w 236 #[.map (some mb)]).cell 0) (ho.alloc _) (by omega)
 have he:(fun ss:List Int=>ss.Perm (intKeys D))=fun ss=>ss.Perm ((((List.range K).filter fun k=>(cb k).isSome).map fun k=>s+32 * k).map Int.ofNat):=by
  funext ss
  exact propext ⟨fun h=>h.trans hp.symm,fun h=>h.trans hp⟩
 rw [he] at hg
 refine (sorted_int _ _ (enters_of Tryz.func169 (by kernel_rfl) rfl) _ (Maps.size D) hsz _ hg).mono ?_
 rintro e w' ⟨A,m,c,ys,rfl,hys,rfl,hrow,hb⟩
 obtain ⟨ks,hks,rfl⟩:=ks_of hys
 refine ⟨A,_,c,ks,rfl,hks.nodup_iff.2 (List.nodup_range.filter _),fun k=>?_,by simp,?_,hrow,hb⟩
 ·rw [hks.mem_iff]
  simp
 ·have h1:=hks.length_eq
  have h2:=List.length_filter_le (fun k=>(cb k).isSome) (List.range K)
  rw [List.length_range] at h2
  rw [List.length_map]
  omega
end
end Go.Proofs.YtnlokpakiambaaaGreatDoor
