/- The walks and laws that the claim leans on, part 25. -/
import Derived.Test.YtfkjjoglnmeciaaGreatDoorJat
import Derived.Lib.SlKeysI
set_option maxRecDepth 100000
set_option maxHeartbeats 16000000
namespace Go.Proofs.YtfkjjoglnmeciaaGreatDoor
open Go.Lib (hid)
section
open Go.RowKit
theorem i_facts {w:World} {B n:Nat} {A:Option Addr} {l:List Int} (h:Reads w B 1 A n (iCells l)) {k:Nat} (hk:k < n) :
  ∃ (b off:Nat) (x:Int),A=some ⟨b,off,none⟩∧b < B∧w.cell? ⟨b,off+k,none⟩=some (.int .i64 x):=by
 have hl:k < l.length:=by have:=h.1;simp [iCells] at this;omega
 obtain ⟨b,off,hA,hb,hc⟩:=h.plain (by omega) (by omega)
 exact ⟨b,off,l[k],hA,hb,hc k _ (by simp [iCells,hl])⟩
theorem SetIs.below {a:DA} {s K base g:Nat} {w w':World} (h:SetIs a s K w base g) (hb:Below w.heap.size w w'):SetIs a s K w' base g:=by
 obtain ⟨A,m,c,hB,hm,ho⟩:=h
 exact ⟨A,m,c,hB.below hb hB.lt,hm,own_below ho hb⟩
def heapCells (a:DA) (s n gs mr mh:Nat) (lk:Bool):Array Value:=#[memV a, .int .i64 (s:Int), .int .i64 (n:Int), .pointer (some ⟨gs,0,none⟩), .map (some mr), .map (some mh), .map none, .bool lk]
end
section
open Go.RowKit
structure CS where
 dv:Bool
 cl:Nat
 g:Nat
 V:Nat
 bs:Nat→BK
def CS.cls (c:CS):Int:=if c.dv then (c.cl:Int) else -1
def CS.own (c:CS):Int:=if c.dv then 0 else -1
def CSok (cur:Nat→Nat) (ln:Nat) (c:CS):Prop:=if c.dv then ChW cur ln c.cl c.g c.V c.bs else cur (8 * ln)=freeW c.g∧0 < c.g∧c.g < 65536
structure PA where
 gs:Nat
 pl:Nat
 po:Nat
def PlcC (s K po:Nat) (cs:Nat→CS) (pcs:Array Value):Prop:=∀ k,k < K→pcs[po+k * 4]?=some (.int .i64 ((s+32 * k:Nat):Int))∧pcs[po+k * 4+1]?=some (.int .i64 (cs k).cls)∧pcs[po+k * 4+2]?=some (.int .i64 (cs k).own)∧∃ b,pcs[po+k * 4+3]?=some (.bool b)
structure Plc (a:DA) (s K:Nat) (x:PA) (cs:Nat→CS) (w:World):Prop where
 set_:∃ c,Blk w x.gs 406 #[memV a, .slice (some ⟨x.pl,x.po,none⟩) K c]
 pls:∃ pcs,Blk w x.pl 408 pcs∧PlcC s K x.po cs pcs
section
variable {a:DA} {s K:Nat} {x:PA} {cs:Nat→CS} {w w':World}
theorem Plc.chg {Z:Fp} (h:Plc a s K x cs w) (hc:Chg Z w w') (h1:¬ Z x.gs) (h2:¬ Z x.pl):Plc a s K x cs w':=by
 obtain ⟨⟨c,hs⟩,pcs,hp,hk⟩:=h
 exact ⟨⟨c,hc.blk hs h1⟩,pcs,hc.blk hp h2,hk⟩
theorem Plc.below (h:Plc a s K x cs w) (hb:Below w.heap.size w w'):Plc a s K x cs w':=h.chg (Chg.of_below (S:=Fp.no) hb) (fun h=>h) (fun h=>h)
theorem Plc.ne (h:Plc a s K x cs w):x.gs≠x.pl:=by
 obtain ⟨⟨c,hs⟩,pcs,hp,hk⟩:=h
 exact hs.ne_ hp (by decide)
theorem Plc.lt (h:Plc a s K x cs w):x.gs < w.heap.size∧x.pl < w.heap.size:=by
 obtain ⟨⟨c,hs⟩,pcs,hp,hk⟩:=h
 exact ⟨hs.lt,hp.lt⟩
theorem Plc.sets (h:Plc a s K x cs w):∃ c,w.cell? ⟨x.gs,0,none⟩=some (memV a)∧w.cell? ⟨x.gs,1,none⟩=some (.slice (some ⟨x.pl,x.po,none⟩) K c):=by
 obtain ⟨⟨c,hs⟩,pcs,hp,hk⟩:=h
 exact ⟨c,hs.cell 0,hs.cell 1⟩
theorem Plc.facts (h:Plc a s K x cs w) {k:Nat} (hk:k < K):w.cell? ⟨x.pl,x.po+k * 4,none⟩=some (.int .i64 ((s+32 * k:Nat):Int))∧w.cell? ⟨x.pl,x.po+k * 4+1,none⟩=some (.int .i64 (cs k).cls)∧w.cell? ⟨x.pl,x.po+k * 4+2,none⟩=some (.int .i64 (cs k).own)∧∃ b,w.cell? ⟨x.pl,x.po+k * 4+3,none⟩=some (.bool b):=by
 obtain ⟨⟨c,hs⟩,pcs,hp,hkk⟩:=h
 obtain ⟨h0,h1,h2,b,h3⟩:=hkk k hk
 exact ⟨by rw [hp.cell];exact h0,by rw [hp.cell];exact h1,by rw [hp.cell];exact h2,b,by rw [hp.cell];exact h3⟩
theorem Plc.frozen (h:Plc a s K x cs w) (i:Nat):w.frozen? ⟨x.pl,i,none⟩=false:=by
 obtain ⟨⟨c,hs⟩,pcs,hp,hkk⟩:=h
 exact hp.frozen i
theorem set_get {pcs:Array Value} {i j:Nat} {u v:Value} (h:pcs[i]?=some u):(pcs.setIfInBounds j v)[i]?=some (if i=j then v else u):=by
 rw [Array.getElem?_setIfInBounds]
 have hi:=(Array.getElem?_eq_some_iff.1 h).1
 by_cases e:j=i
 ·subst e;simp [hi]
 ·rw [if_neg e,if_neg (fun h=>e h.symm)];exact h
theorem Plc.hold (h:Plc a s K x cs w) {k:Nat} (_hk:k < K) (b:Bool):Plc a s K x cs (w.setCell ⟨x.pl,x.po+k * 4+3,none⟩ (.bool b)):=by
 have hne:=h.ne
 obtain ⟨⟨c,hs⟩,pcs,hp,hkk⟩:=h
 refine ⟨⟨c,hs.far hne _⟩,_,hp.set_ _ _,fun j hj=>?_⟩
 obtain ⟨h0,h1,h2,b',h3⟩:=hkk j hj
 refine ⟨?_,?_,?_,if x.po+j * 4+3=x.po+k * 4+3 then b else b',?_⟩
 ·rw [set_get h0,if_neg (by omega)]
 ·rw [set_get h1,if_neg (by omega)]
 ·rw [set_get h2,if_neg (by omega)]
 ·rw [set_get h3];split <;> rfl
def updC (cs:Nat→CS) (k:Nat) (c:CS):Nat→CS:=fun j=>if j=k then c else cs j
theorem Plc.claim (h:Plc a s K x cs w) {k:Nat} (_hk:k < K) (c:CS):Plc a s K x (updC cs k c) ((w.setCell ⟨x.pl,x.po+k * 4+1,none⟩ (.int .i64 c.cls)).setCell ⟨x.pl,x.po+k * 4+2,none⟩ (.int .i64 c.own)):=by
 have hne:=h.ne
 obtain ⟨⟨c',hs⟩,pcs,hp,hkk⟩:=h
 refine ⟨⟨c',(hs.far hne _).far hne _⟩,_,(hp.set_ _ _).set_ _ _,fun j hj=>?_⟩
 obtain ⟨h0,h1,h2,b',h3⟩:=hkk j hj
 refine ⟨?_,?_,?_,b',?_⟩
 ·rw [set_get (set_get h0),if_neg (by omega),if_neg (by omega)]
 ·rw [set_get (set_get h1),if_neg (by omega)]
  unfold updC
  by_cases e:j=k
  ·subst e;simp
  ·rw [if_neg (by omega),if_neg e]
 ·rw [set_get (set_get h2)]
  unfold updC
  by_cases e:j=k
  ·subst e;simp
  ·rw [if_neg (by omega),if_neg (by omega),if_neg e]
 ·rw [set_get (set_get h3),if_neg (by omega),if_neg (by omega)]
end
theorem findP_any {a:DA} {s K:Nat} {x:PA} {cs:Nat→CS} {w:World} (h:Plc a s K x cs w) (hK:K≤128) (_hs:s≤100000) {k0:Nat} (hk0:k0 < K) :
  Calls Tryz.prog 343 #[.pointer (some ⟨x.gs,0,none⟩), .int .i64 ((s+32 * k0:Nat):Int)] w fun e w'=>e = .returned (.pointer (some ⟨x.pl,x.po+k0 * 4,none⟩))∧w=w':=by
 obtain ⟨c,_,f1⟩:=h.sets
 have HP:=hid h
 clear h
 obtain ⟨gs,pl,po⟩:=x
 dsimp only at *
 generalize hv0:s+32 * k0=v0 at *
 go_enter Tryz.func343,Tryz.ntmps343
 go_wp2
 go_loopw [13] (fun i wr=>∃ (k:Nat),k≤k0∧i = .int .i64 k∧w=wr) (fun i _=>k0 - (RowKit.intOf i).toNat)
 case atStart=>exact ⟨0,Nat.zero_le _,rfl,rfl⟩
 case round =>
  obtain ⟨k,hk,rfl,rfl⟩:=hrel
  obtain ⟨f0,f2,f3,b4,f4⟩:=HP.out.facts (k:=k) (by omega)
  dsimp only at f0 f2 f3 f4
  have hz5:(0:Int)≤(k:Int):=by omega
  have hz6:(k:Int) < (K:Int):=by omega
  generalize hv:s+32 * k=v at *
  by_cases hlt:k=k0
  ·subst hlt
   have hq:((v:Int) == (v0:Int))=true:=by rw [beq_iff_eq];omega
   clear hv hv0
   go_wp2
   go_ret
   exact ⟨rfl,rfl⟩
  ·have hq:((v:Int) == (v0:Int))=false:=by rw [beq_eq_false_iff_ne];omega
   clear hv
   go_wp2
   go_roundw
   case rel =>
    first
     | exact ⟨k+1,by omega,by go_num,trivial⟩
     | exact ⟨k+1,by omega,by go_num,rfl⟩
     | (
       repeat apply Exists.intro
       refine ⟨?_,rfl⟩
       exact ⟨k+1,by omega,by go_num,rfl⟩)
   case measure=>simp [RowKit.intOf];omega
theorem ownerP_any {a:DA} {s K:Nat} {x:PA} {cs:Nat→CS} {w:World} (h:Plc a s K x cs w) (hK:K≤128) (hs:s≤100000) {k0:Nat} (hk0:k0 < K) :
  Calls Tryz.prog 289 #[.pointer (some ⟨x.gs,0,none⟩), .int .i64 ((s+32 * k0:Nat):Int)] w fun e w'=>e = .returned (.int .i64 (cs k0).own)∧w=w':=by
 have HF:=hid (findP_any h hK hs hk0)
 obtain ⟨_,_,f3,_⟩:=h.facts hk0
 clear h
 go_enter Tryz.func289,Tryz.ntmps289
 go_wp2_with fail
 refine HF.out.mono ?_
 rintro e w1 ⟨rfl,rfl⟩
 go_wp2
 go_ret
 exact ⟨rfl,rfl⟩
def RetHold (a:DA) (s K:Nat) (x:PA) (cs:Nat→CS) (w:World) (e:Ending) (w':World):Prop:=e = .returned (.int .i64 0)∧Plc a s K x cs w'∧Chg (fun k=>k=x.pl) w w'
theorem holdP_any {a:DA} {s K:Nat} {x:PA} {cs:Nat→CS} {w:World} (h:Plc a s K x cs w) (hK:K≤128) (hs:s≤100000) {k0:Nat} (hk0:k0 < K) (hd:(cs k0).dv=true) (b:Bool) :
  Calls Tryz.prog 320 #[.pointer (some ⟨x.gs,0,none⟩), .int .i64 ((s+32 * k0:Nat):Int), .bool b] w (RetHold a s K x cs w):=by
 have HF:=hid (findP_any h hK hs hk0)
 obtain ⟨f0,f2,f3,b4,f4⟩:=h.facts hk0
 have z4:=h.frozen (x.po+k0 * 4+3)
 have HN:Hid (Plc a s K x cs (w.setCell ⟨x.pl,x.po+k0 * 4+3,none⟩ (.bool b))∧Chg (fun k=>k=x.pl) w (w.setCell ⟨x.pl,x.po+k0 * 4+3,none⟩ (.bool b))):=hid ⟨h.hold hk0 b,(Chg.refl (fun k=>k=x.pl) w).setCell (p:=⟨x.pl,x.po+k0 * 4+3,none⟩) (.inl rfl) _⟩
 have hcl:(cs k0).cls=((cs k0).cl:Int):=by unfold CS.cls;rw [hd];rfl
 rw [hcl] at f2
 have d2:decide (((cs k0).cl:Int) < 0)=false:=decide_eq_false (by omega)
 generalize (cs k0).cl=ccl at *
 clear h hcl
 go_enter Tryz.func320,Tryz.ntmps320
 go_wp2_with fail
 refine HF.out.mono ?_
 rintro e w1 ⟨rfl,rfl⟩
 go_wp2
 go_ret
 exact ⟨rfl,HN.out.1,HN.out.2⟩
def RetLns (w:World) (l:List Int) (e:Ending) (w':World):Prop:=∃ A m c,e = .returned (.slice A m c)∧w'.ownsRow w.heap.size 3 1 (.slice A m c) m (iCells l)∧Below w.heap.size w w'
theorem iCells_len (l:List Int):(iCells l).length=l.length:=by simp [iCells]
theorem linesP_any {a:DA} {s K:Nat} {x:PA} {cs:Nat→CS} {w:World} (h:Plc a s K x cs w) (hK:K≤128) (_hs:s≤100000) :
  Calls Tryz.prog 197 #[.pointer (some ⟨x.gs,0,none⟩)] w (RetLns w ((List.range K).map fun k=>((s+32 * k:Nat):Int))):=by
 obtain ⟨c,_,f1⟩:=h.sets
 have HP:=hid h
 obtain ⟨i0,hi0,hz0,hz1,hz2⟩:=info_parts infoInt
 have HB0:Hid (Below w.heap.size w w):=Below.refl _ _
 have HO0:Hid (w.ownsRow w.heap.size 3 1 (.slice none 0 0) 0 (iCells [])):=World.ownsRow_nil _ _ _ _
 clear h
 obtain ⟨gs,pl,po⟩:=x
 dsimp only at *
 go_enter Tryz.func197,Tryz.ntmps197
 go_wp2
 go_loopw [3,13] (fun p i wr=>∃ (k:Nat) (A1:Option Addr) (m1 c1:Nat),k≤K∧i = .int .i64 k∧p = .slice A1 m1 c1∧m1=k∧Hid (wr.ownsRow w.heap.size 3 1 (.slice A1 m1 c1) m1 (iCells ((List.range k).map fun k=>((s+32 * k:Nat):Int))))∧Hid (Below w.heap.size w wr)) (fun _ i _=>K - (RowKit.intOf i).toNat)
 case atStart=>exact ⟨0,_,_,_,Nat.zero_le _,rfl,rfl,rfl,HO0,HB0⟩
 case round =>
  clear HB0 HO0
  obtain ⟨k,A1,m1,c1,hk,rfl,rfl,hm1',HO,H⟩:=hrel
  by_cases hlt:k < K
  ·obtain ⟨f0,f2,f3,b4,f4⟩:=(HP.out.below H.out).facts (k:=k) hlt
   dsimp only at f0 f2 f3 f4
   have hz5:(0:Int)≤(k:Int):=by omega
   have hz6:(k:Int) < (K:Int):=by omega
   have hm1:m1≤128:=by omega
   have HM:=hid hm1'
   have HEQ:Hid (iCells ((List.range k).map fun k=>((s+32 * k:Nat):Int))++[.int .i64 ((s+32 * k:Nat):Int)]=iCells ((List.range (k+1)).map fun k=>((s+32 * k:Nat):Int))):=hid (by rw [List.range_succ,List.map_append];simp [iCells])
   generalize ((s+32 * k:Nat):Int)=v at *
   generalize (cs k).cls=v1 at *
   generalize (cs k).own=v2 at *
   have HLE:=hid H.out.size
   have HOD:=hid ((HO.out.alloc (.cells #[.int .i64 v, .int .i64 v1, .int .i64 v2, .bool b4] 408)).alloc (.cells #[.int .i64 v] 3))
   have HBD:=hid ((H.out.alloc H.out.size (.cells #[.int .i64 v, .int .i64 v1, .int .i64 v2, .bool b4] 408)).alloc (by have:=H.out.size;simp;omega) (.cells #[.int .i64 v] 3))
   clear H HO hm1'
   go_wp2_with (first
    | (at_builtin;refine wpList_app _ (.tmp 17) (.tmp 20) 34 rfl rfl w.heap.size 3 i0 _ 1 8 Tryz.underlying34 hi0 hz0 hz1 hz2 rfl ?q1 (.slice A1 m1 c1) m1 (iCells ((List.range k).map fun k=>((s+32 * k:Nat):Int))) rfl HOD.out (wr.heap.size+1+1) (some ⟨wr.heap.size+1,0,none⟩) 1 1 [.int .i64 v] rfl ?q5 ?q6 ?q2 ?q3 ?q4 ?_;(case q1=>omega);(case q5=>exact row_reads_at _ _ (by simp) _ 1 1 3 _ rfl rfl);(case q6=>(intro u hu;simp at hu;subst hu;rfl));(case q2=>(unfold maxLen;omega));(case q3=>omega);(case q4=>(have:=HLE.out;simp;omega));intro A3 n3 c3 w8 hn3 ho3 hg3 hb3;have HN3:=hid hn3;have HO3:=hid ho3;have HB3:=hid (HBD.out.trans hb3);clear hn3 ho3 hg3 hb3)
    | go_in)
   have b1:n3=k+1:=by have:=HN3.out;have:=HM.out;omega
   have HO4:Hid (w8.ownsRow w.heap.size 3 1 (.slice A3 n3 c3) n3 (iCells ((List.range (k+1)).map fun k=>((s+32 * k:Nat):Int)))):=hid (by have h:=HO3.out;rw [HEQ.out] at h;exact h)
   go_roundw
   case rel =>
    first
     | exact ⟨k+1,_,_,_,by omega,by go_num,rfl,b1,HO4,HB3⟩
     | (
       repeat apply Exists.intro
       refine ⟨?_,rfl⟩
       exact ⟨k+1,_,_,_,by omega,by go_num,rfl,b1,HO4,HB3⟩)
   case measure=>simp [RowKit.intOf];omega
  ·obtain rfl:K=k:=by omega
   go_wp2
   go_ret
   exact ⟨_,_,_,rfl,HO.out,H.out⟩
end
section
open Go.RowKit Go.Maps Go.Sort Go.Shelf
abbrev encI (x:Int):Value := .int .i64 x
theorem encI_inj {x y:Int} (h:encI x=encI y):x=y:=by simpa [encI] using h
theorem keyedI:Keyed Tryz.prog 3:=int_keyed Tryz.underlying3
theorem keysChg_one {H:Type} (n l Bm b nn:Nat) (D0:DataW H) {R:Value→Option (DataW H × List MemPlace)} (J:List Int→World→Prop)
  (hY:∀ pre x W,J pre W→pre.length < Maps.size D0→YieldAt Fence.wide (n - 1) Tryz.prog l #[encI x] W fun e W'=>e = .returned (.bool true)∧J (pre++[x]) W'∧KeepsWalks W W')
  (W:World) (hJ:AbidesFrom W.heap.size J) (hm:W.cell? ⟨Bm,0,none⟩=some (.map (some b))) (hown:W.ownsMap Tryz.prog 3 R b nn D0) (h0:J [] W) (hn:1≤n) :
  CallsIn Fence.wide n Tryz.prog 317 #[.func (.yield l) #[] #[], .pointer (some ⟨Bm,0,none⟩)] W fun e W'=>(∃ v,e = .returned v)∧∃ ss:List Int,ss.Perm (intKeys D0)∧J ss W':=by
 have h10:Fence.wide.fn 317:=trivial
 have hro:Fence.wide.round=none:=rfl
 refine callsIn_of_wp Tryz.func317 rfl h10 ?_ hro
 simp only [Tryz.ntmps317,List.size_toArray,List.length_cons,List.length_nil,Nat.reduceAdd,Nat.reduceSub,Array.replicate_succ,Array.replicate_zero,List.push_toArray,List.append_toArray,List.nil_append,List.cons_append]
 gi_wp2_with (first
  | (gi_at_range;refine wpListIn_range_own _ rfl _ 335 rfl 3 336 keyedI Tryz.underlying335 _ b nn _ rfl hown ?_;intro w0 hrg0 hg0 hs0)
  | gi_in)
 go_frame
 gi_loopw [3] (fun _ wr=>∃ (left:Lit→Bool) (cnt:Nat) (ss:List Int),wr.ranges Tryz.prog 3 R b W.heap.size nn D0 left cnt∧ss.length+cnt≤Maps.size D0∧CollectedI D0 left ss∧J ss wr)
  (fun _ wr=>wr.rangeLeft b W.heap.size)
 case atStart =>
  exact ⟨_,_,[],hrg0,by simp,CollectedI.start D0,hJ [] W w0 none h0 hg0 (fun r e=>by cases e)⟩
 case round =>
  obtain ⟨left,cnt,ss,hrg,hcs,hC,hJs⟩:=hrel
  gi_wp2_with (first
   | (gi_at_next;refine wpListIn_next_ranges _ rfl _ rfl 3 keyedI R encI id (fun key kl hk=>by obtain ⟨x,hx,_⟩:=Maps.keyOf_i64 Tryz.underlying3 hk;exact ⟨x,hx⟩) (fun v _ _=>⟨v,rfl⟩) b W.heap.size nn _ _ _ rfl hrg ?_ ?_)
   | gi_in)
  ·intro hc0 hl0
   gi_wp2
   go_end0
   exact ⟨⟨_,rfl⟩,ss,hC.perm hown keyedI Tryz.underlying3 hl0,hJs⟩
  ·intro x c kl yd yp w2 cnt2 hkey hlk hv hat hrg2 hlt hg2 hs2 hen
   obtain ⟨x',ex,rfl,_⟩:=Maps.keyOf_i64 Tryz.underlying3 hkey
   obtain rfl:x=x':=encI_inj ex
   have hJ2:J ss w2:=hJ ss wr w2 (some W.heap.size) hJs hg2 (fun r e=>by cases e;exact ⟨Nat.le_refl _,hrg.iter_walk⟩)
   obtain ⟨fn,tmps,assign,body,hy,hR⟩:=hY ss x w2 hJ2 (by omega)
   clear hs2
   gi_wp2
   refine hR.mono ?_
   rintro e W3 ⟨rfl,hJ3,hk3⟩
   gi_wp2
   have hrg3:=hrg2.of_walks hk3
   go_roundw
   case rel=>exact ⟨_,cnt2,ss++[x],hrg3,by simp;omega,hC.step hlk hat,hJ3⟩
   case measure=>rw [hrg3.left_eq,hrg.left_eq];exact hlt
theorem keysChg_gives {H:Type} (n Bm b nn:Nat) (D0:DataW H) {R:Value→Option (DataW H × List MemPlace)} (w:World) (hBm:Bm < w.heap.size)
  (hm:w.cell? ⟨Bm,0,none⟩=some (.map (some b))) (hown:w.ownsMap Tryz.prog 3 R b nn D0) (hn:1≤n) :
  SeqGives Fence.wide n Tryz.prog 317 #[.pointer (some ⟨Bm,0,none⟩)] encI (fun ss=>ss.Perm (intKeys D0)) (Maps.size D0) w:=fun l J W hW hJ hY h0=>by
 have hown':W.ownsMap Tryz.prog 3 R b nn D0:=by
  have hbl:=hown.lt
  obtain ⟨es,clock,hb,Ft,hs,hD⟩:=hown
  exact ⟨es,clock,(hW.block b hbl).trans hb,Ft,hs,hD⟩
 exact keysChg_one n l Bm b nn D0 J hY W hJ ((hW.cell (p:=⟨Bm,0,none⟩) hBm).trans hm) hown' h0 hn
theorem keysChg_any (mb:Option Nat) (w:World) :
  Calls Tryz.prog 239 #[.map mb] w fun e w'=>e = .returned (.func (.func 317) #[] #[.pointer (some ⟨w.heap.size,0,none⟩)])∧w'=w.alloc (.cells #[.map mb] 335):=by
 go_enter Tryz.func239,Tryz.ntmps239
 go_wp2
 go_ret
 exact ⟨rfl,rfl⟩
def apAssignI : Code := (Code.region 2 #[{ dst := some 5, op := Op.assign (Operand.tmp 7), type := 3, pos := "iter.go:51", after := #[], guard := none }] false)
def apBodyI : Code := (Code.block 1 (Code.region 3 #[{ dst := some 8, op := Op.load (34) (Operand.tmp 2), type := 34, pos := "iter.go:52", after := #[], guard := none }, { dst := some 9, op := Op.move (Operand.tmp 5), type := 3, pos := "iter.go:52", after := #[], guard := none }, { dst := some 10, op := Op.buildSlice (34) 1 #[(0, Operand.tmp 9)], type := 34, pos := "iter.go:52", after := #[{ on := 1, ground := Ground.data }], guard := none }, { dst := some 11, op := Op.call { callee := Callee.builtin Builtin.append, args := #[Operand.tmp 8, Operand.tmp 10], argTypes := #[34, 34] }, type := 34, pos := "iter.go:52", after := #[{ on := 0, ground := Ground.data }, { on := 2, ground := Ground.data }], guard := none }, { dst := none, op := Op.store (34) (Operand.tmp 2) (Operand.tmp 11), type := 0, pos := "iter.go:52", after := #[{ on := 3, ground := Ground.data }, { on := 3, ground := Ground.chain }, { on := 0, ground := Ground.phase }, { on := 1, ground := Ground.phase }, { on := 2, ground := Ground.phase }, { on := 3, ground := Ground.phase }], guard := none }] false))
def apRecI (fn:FuncId) (sv:Value) (Bs D:Nat) (st:LoopState) (pend:Option Code):Loop :=
 { state:=st,pending:=pend,fn,tmps:=#[.slice none 0 0,sv, .pointer (some ⟨Bs,0,none⟩),undef, .slice none 0 0,undef,sv,undef,undef,undef,undef,undef,undef],params:=#[7],assign:=apAssignI,body:=apBodyI,defers:=D }
structure ApAtI (w0:World) (fn:FuncId) (sv:Value) (Bs l D:Nat) (ss:List Int) (W:World):Prop where
 box:∃ v,W.heap[Bs]?=some (.cells #[v] (34) (0,0))∧W.ownsRow w0.heap.size (3) 1 v ss.length (ss.map encI)∧(v = .slice none 0 0↔ss=[])
 L:W.heap[l]?=some (.loop (apRecI fn sv Bs D .ready none))
 K:W.heap[D]?=some (.deferred (some []))
 below:Below w0.heap.size w0 W
theorem ap_abidesI (w0:World) (fn:FuncId) (sv:Value) (Bs l D B:Nat) (hB:w0.heap.size≤B):AbidesFrom B (ApAtI w0 fn sv Bs l D):=fun s W W' row h hg hrow=>by
 have hrow':∀ r,row=some r→∃ o:Obj,W.heap[r]?=some o∧o.isWalk=true:=fun r e=>(hrow r e).2
 obtain ⟨v,hv,hr,hn⟩:=h.box
 exact ⟨⟨v,(grownBy_keeps hg hrow' hv rfl).trans hv,ownsRow_abides_a hr hg hrow',hn⟩,(grownBy_keeps hg hrow' h.L rfl).trans h.L,(grownBy_keeps hg hrow' h.K rfl).trans h.K,
  h.below.grown hg h.below.size (fun k e=>Nat.le_trans hB (hrow k e).1)⟩
theorem apYieldI (m:Nat) (w0:World) (fn:FuncId) (hfn:Fence.wide.fn fn) (sv:Value) (Bs l D:Nat) (hBl:Bs≠l) (hDl:D≠l) (hDB:D≠Bs) (h0B:w0.heap.size≤Bs) (h0l:w0.heap.size≤l)
  (N:Nat) (hN:N≤maxLen) (hNb:N * 8≤140737488355328) (ss:List Int) (x:Int) (W:World) (h:ApAtI w0 fn sv Bs l D ss W) (hlen:ss.length < N) :
  YieldAt Fence.wide m Tryz.prog l #[encI x] W fun e W'=>e = .returned (.bool true)∧ApAtI w0 fn sv Bs l D (ss++[x]) W'∧KeepsWalks W W':=by
 have hne:(34:Nat)≠3:=by decide
 obtain ⟨i0,hi,hz0,hz1,hz2⟩:=info_parts infoInt
 obtain ⟨v,hv,hrow,_⟩:=h.box
 refine ⟨fn,#[.slice none 0 0,sv, .pointer (some ⟨Bs,0,none⟩),undef, .slice none 0 0,undef,sv,encI x,undef,undef,undef,undef,undef],apAssignI,apBodyI,by simpa [apRecI] using run_yield (P:=Tryz.prog) (args:=#[encI x]) h.L rfl,roundIn_of_wpIn hfn ?_⟩
 have hl:l < W.heap.size:=(Array.getElem?_eq_some_iff.1 h.L).1
 have hbr:=run_beginRound (P:=Tryz.prog) h.L rfl
 obtain ⟨W2,hW2⟩:∃ W2,W.putObj l (.loop { apRecI fn sv Bs D .ready none with state := .busy })=W2:=⟨_,rfl⟩
 rw [hW2] at hbr
 have hg2:W.grownBy W2 (some l):=by rw [← hW2];exact grownBy_putObj_a _ _ _
 have hk2:KeepsWalks W W2:=by rw [← hW2];exact KeepsWalks.putObj _ h.L rfl
 have hv2:W2.heap[Bs]?=some (.cells #[v] (34) (0,0)):=by rw [← hW2];exact (World.putObj_heap_other hBl).trans hv
 have hK2:W2.heap[D]?=some (.deferred (some [])):=by rw [← hW2];exact (World.putObj_heap_other hDl).trans h.K
 have hL2:W2.heap[l]?=some (.loop { apRecI fn sv Bs D .ready none with state := .busy }):=by rw [← hW2];exact World.putObj_heap_same hl
 have hrow2:W2.ownsRow w0.heap.size (3) 1 v ss.length (ss.map encI):=hrow.kept hg2 (ownsRow_ne_a hrow h.L (fun cur e=>by first | cases e | exact hne (Obj.cells.inj e).2.1))
 have hb2:Below w0.heap.size w0 W2:=h.below.grown hg2 h.below.size (fun k e=>by cases e;exact h0l)
 obtain ⟨hc2,hf2⟩:=cell_of_box_a hv2
 have hBlt:Bs < W2.heap.size:=(Array.getElem?_eq_some_iff.1 hv2).1
 have hl2:l < W2.heap.size:=(Array.getElem?_eq_some_iff.1 hL2).1
 have hDlt:D < W2.heap.size:=(Array.getElem?_eq_some_iff.1 hK2).1
 have ne_of:∀ {j:Nat} {o:Obj},W2.heap[j]?=some o→(∀ cur,o ≠ .cells cur (3) (0,0))→some j≠v.ownBlock:=fun hj hno=>by
  rcases ownsRow_ne_a hrow2 hj hno with e | e
  ·rw [e];simp
  ·exact fun e'=>e e'.symm
 clear hW2
 unfold apAssignI
 gi_wp2_with gi_round_op_a
 unfold apBodyI
 gi_wp2_with (first
  | (
    gi_at_builtin;refine wpListIn_append_own _ rfl _ _ (34) rfl w0.heap.size (3) i0 (.int .i64 0) 1 8 Tryz.underlying34 hi hz0 hz1 hz2 rfl (by decide) _ _ _ rfl (hrow2.alloc _) ⟨W2.heap.size,0,none⟩ 1 1 [encI x] rfl rfl (cell_one_new _ _ _) (by simp [Value.oneCell',encI]) (by omega) (by omega) (by have:=hb2.size;simp;omega) ?_;intro v' w3 hown' hg3 hnil3
    have hv3:w3.heap[Bs]?=some (.cells #[v] (34) (0,0)):=(hg3.block Bs (by simp;omega) (ne_of hv2 (fun cur e=>by first | cases e | exact hne (Obj.cells.inj e).2.1))).trans ((Below.heap_alloc _ _ Bs hBlt).trans hv2)
    obtain ⟨hc3,hf3⟩:=cell_of_box_a hv3
    obtain ⟨g',cap',cur',rfl,hbase',hgb',hr1,hr2,hr3,hr4⟩:∃ g' cap' cur',v' = .slice (some ⟨g',0,none⟩) (ss.length+1) cap'∧w0.heap.size≤g'∧w3.heap[g']?=some (.cells cur' (3) (0,0))∧ss.length+1≤cap'∧cap'≤maxLen∧cur'.size=cap' * 1∧cur'.toList.take ((ss.length+1) * 1)=ss.map encI++[encI x]:=by
     rcases hown'.2 with ⟨_,h0⟩ | h'
     ·exact absurd h0 (by omega)
     ·exact h'
    go_frame)
  | gi_round_op_a)
 have hg3':(W2.alloc (.cells #[encI x] (3))).grownBy w3 v.ownBlock:=hg3
 have hL3:w3.heap[l]?=some (.loop { apRecI fn sv Bs D .ready none with state := .busy }):=(hg3'.block l (by simp;omega) (ne_of hL2 (fun cur e=>by first | cases e | exact hne (Obj.cells.inj e).2.1))).trans ((Below.heap_alloc _ _ l hl2).trans hL2)
 have hK3:w3.heap[D]?=some (.deferred (some [])):=(hg3'.block D (by simp;omega) (ne_of hK2 (fun cur e=>by first | cases e | exact hne (Obj.cells.inj e).2.1))).trans ((Below.heap_alloc _ _ D hDlt).trans hK2)
 obtain ⟨w4,hw4⟩:∃ w4,w3.setCell ⟨Bs,0,none⟩ (.slice (some ⟨g',0,none⟩) (ss.length+1) cap')=w4:=⟨_,rfl⟩
 rw [hw4]
 have hg4:w3.grownBy w4 (some Bs):=by rw [← hw4];exact grownBy_setCell0_a _ _ _
 have hv4:w4.heap[Bs]?=some (.cells #[.slice (some ⟨g',0,none⟩) (ss.length+1) cap'] (34) (0,0)):=by rw [← hw4];exact heap_setCell_box_a _ hv3
 have hL4:w4.heap[l]?=some (.loop { apRecI fn sv Bs D .ready none with state := .busy }):=(hg4.block l (Array.getElem?_eq_some_iff.1 hL3).1 (fun e=>hBl (by cases e;rfl))).trans hL3
 have hK4:w4.heap[D]?=some (.deferred (some [])):=(hg4.block D (Array.getElem?_eq_some_iff.1 hK3).1 (fun e=>hDB (by cases e;rfl))).trans hK3
 have hrow4:=hown'.kept hg4 (ownsRow_ne_a hown' hv3 (fun cur e=>by first | cases e | exact hne (Obj.cells.inj e).2.1))
 have hl4:l < w4.heap.size:=(Array.getElem?_eq_some_iff.1 hL4).1
 have hb3:Below w0.heap.size w0 w3:=(hb2.alloc hb2.size _).grown hg3' (by have:=hb2.size;simp;omega) (fun k e=>(hrow2.lt k e).1)
 have hb4:Below w0.heap.size w0 w4:=hb3.grown hg4 hb3.size (fun k e=>by cases e;exact h0B)
 have hk4:KeepsWalks W w4:=((hk2.trans (KeepsWalks.alloc _ _)).trans (KeepsWalks.of_grownBy hg3' (ownsRow_not_walk_a (hrow2.alloc _)))).trans (by rw [← hw4];exact KeepsWalks.setCell _ _ _)
 clear hw4
 refine ⟨_,_,run_endRound none hL4,rfl,⟨⟨_,(World.putObj_heap_other hBl).trans hv4,?_,by simp⟩,World.putObj_heap_same hl4,(World.putObj_heap_other hDl).trans hK4,hb4.grown (grownBy_putObj_a _ _ _) hb4.size (fun k e=>by cases e;exact h0l)⟩,hk4.trans (KeepsWalks.putObj _ hL4 rfl)⟩
 have:=hrow4.kept (grownBy_putObj_a w4 l (.loop { { apRecI fn sv Bs D .ready none with state := .busy } with state:=if (none:Option Code).isNone then .ready else .done,pending:=none })) (ownsRow_ne_a hrow4 hL4 (fun cur e=>by first | cases e | exact hne (Obj.cells.inj e).2.1))
 simpa using this
theorem appendSeq_inI (n:Nat) (hn:2≤n) (g:Nat) (lb:Array Value) (eg:∀ args w,(callFunc g args).run Tryz.prog w = .ok (.enter g args) w)
  (S:List Int→Prop) (N:Nat) (hN:N≤maxLen) (hNb:N * 8≤140737488355328) (w:World) (hseq:SeqGives Fence.wide (n - 1) Tryz.prog g lb encI S N w) :
  CallsIn Fence.wide n Tryz.prog (358) #[.slice none 0 0, .func (.func g) #[] lb] w fun e w'=>∃ (v:Value) (ss:List Int),e = .returned v∧S ss∧w'.ownsRow w.heap.size (3) 1 v ss.length (ss.map encI)∧(v = .slice none 0 0↔ss=[])∧Below w.heap.size w w':=by
 have h1:1≤n:=by omega
 have hne:(34:Nat)≠3:=by decide
 have hro:Fence.wide.round=none:=rfl
 refine callsIn_of_wp_marks Tryz.func358 rfl trivial ?_ hro
 simp only [Tryz.ntmps358,List.size_toArray,List.length_cons,List.length_nil,Nat.reduceAdd,Nat.reduceSub,Array.replicate_succ,Array.replicate_zero,List.push_toArray,List.append_toArray,List.nil_append,List.cons_append]
 gi_wp2
 refine wpIn_rangeFunc ?_
 intro fn hfn
 rw [hro]
 obtain ⟨W0,hW0⟩:∃ W0,w.alloc (.cells #[.slice none 0 0] (34))=W0:=⟨_,rfl⟩
 have hs0:W0.heap.size=w.heap.size+1:=by rw [← hW0];simp
 have hv0:W0.heap[w.heap.size]?=some (.cells #[.slice none 0 0] (34) (0,0)):=by rw [← hW0];exact World.alloc_heap_new w _
 have hb0:Below w.heap.size w W0:=by rw [← hW0];exact (Below.refl _ w).alloc (Nat.le_refl _) _
 rw [hW0]
 obtain ⟨W1,hW1⟩:∃ W1,(W0.alloc (.deferred (some []))).alloc (.loop (apRecI fn (.func (.func g) #[] lb) w.heap.size W0.heap.size .ready none))=W1:=⟨_,rfl⟩
 have hold:∀ k,k < W0.heap.size→W1.heap[k]?=W0.heap[k]?:=fun k hk=>by
  rw [← hW1];exact (Below.heap_alloc _ _ k (by simp;omega)).trans (Below.heap_alloc _ _ k hk)
 have hb1:Below w.heap.size w W1:=by rw [← hW1];exact (hb0.alloc hb0.size _).alloc (by have:=hb0.size;simp;omega) _
 have hs1:W1.heap.size=W0.heap.size+2:=by rw [← hW1];simp
 have hM:ApAtI w fn (.func (.func g) #[] lb) w.heap.size (W0.heap.size+1) W0.heap.size [] W1 :=
  ⟨⟨_,(hold w.heap.size (by omega)).trans hv0,⟨rfl, .inl ⟨rfl,rfl⟩⟩,by simp⟩,
   by rw [← hW1];have:=World.alloc_heap_new (W0.alloc (.deferred (some []))) (.loop (apRecI fn (.func (.func g) #[] lb) w.heap.size W0.heap.size .ready none));rwa [World.size_alloc] at this,
   by rw [← hW1];exact (Below.heap_alloc _ _ _ (by simp)).trans (World.alloc_heap_new W0 _),hb1⟩
 refine ⟨W0.heap.size+1,[{ target := .collected W0.heap.size,args:=#[] }],W1,{ target := .fn (.func g) lb,args:=#[.func (.yield (W0.heap.size+1)) #[] #[]] },W1,g,
  #[.func (.yield (W0.heap.size+1)) #[] #[]]++lb,W1,?_,?_,?_,?_,fun _=>h1,?_⟩
 ·rw [← hW1];exact run_enterLoop_outer _ _ _ _ _
 ·simp [resolve,go_sem]
 ·intro f' hf';simp [Target.leads] at hf';subst hf';exact trivial
 ·simp [invoke,go_sem,eg]
 ·refine (hseq (W0.heap.size+1) (ApAtI w fn (.func (.func g) #[] lb) w.heap.size (W0.heap.size+1) W0.heap.size) W1 hb1 (ap_abidesI _ _ _ _ _ _ _ hb1.size)
   (fun pre x W hJ hl=>apYieldI (n - 1 - 1) w fn hfn _ w.heap.size (W0.heap.size+1) W0.heap.size (by omega) (by omega) (by omega) (Nat.le_refl _) (by omega) N hN hNb pre x W hJ hl) hM).mono ?_
  rintro e W2 ⟨⟨v0,rfl⟩,ss,hS,h2⟩
  obtain ⟨v,hv,hrow,hnil⟩:=h2.box
  have hend:=run_endLoop (P:=Tryz.prog) h2.L (by simp [apRecI])
  obtain ⟨W3,hW3⟩:∃ W3,W2.putObj (W0.heap.size+1) (.loop { apRecI fn (.func (.func g) #[] lb) w.heap.size W0.heap.size .ready none with state := .exhausted })=W3:=⟨_,rfl⟩
  rw [hW3] at hend
  have hg3:W2.grownBy W3 (some (W0.heap.size+1)):=by rw [← hW3];exact grownBy_putObj_a _ _ _
  have hv3:W3.heap[w.heap.size]?=some (.cells #[v] (34) (0,0)):=by rw [← hW3];exact (World.putObj_heap_other (by omega)).trans hv
  have hK3:W3.heap[W0.heap.size]?=some (.deferred (some [])):=by rw [← hW3];exact (World.putObj_heap_other (by omega)).trans h2.K
  have hrow3:=hrow.kept hg3 (ownsRow_ne_a hrow h2.L (fun cur e=>by first | cases e | exact hne (Obj.cells.inj e).2.1))
  have hb3:Below w.heap.size w W3:=h2.below.grown hg3 h2.below.size (fun k e=>by cases e;omega)
  obtain ⟨hc3,hf3⟩:=cell_of_box_a hv3
  clear hW3
  refine ⟨none,W3,hend,?_⟩
  gi_wp2
  rw [← hs0]
  refine ⟨by simp, .inl ⟨_,_,rfl,run_takeDeferred hK3,?_⟩⟩
  exact ⟨_,results_tmp rfl _ _ _,v,ss,rfl,hS,hrow3.kept (grownBy_putObj_a _ _ _) (ownsRow_ne_a hrow3 hK3 (fun cur e=>by first | cases e | exact hne (Obj.cells.inj e).2.1)),hnil,hb3.grown (grownBy_putObj_a _ _ _) hb3.size (fun k e=>by cases e;omega)⟩
theorem collect_anyI (g:Nat) (lb:Array Value) (eg:∀ args w,(callFunc g args).run Tryz.prog w = .ok (.enter g args) w)
  (S:List Int→Prop) (N:Nat) (hN:N≤1000000) (w:World) (hseq:SeqGives Fence.wide 9 Tryz.prog g lb encI S N w) :
  Calls Tryz.prog 315 #[.func (.func g) #[] lb] w fun e w'=>∃ (v:Value) (ss:List Int),e = .returned v∧S ss∧w'.ownsRow w.heap.size 3 1 v ss.length (ss.map encI)∧(v = .slice none 0 0↔ss=[])∧Below w.heap.size w w':=by
 have HA:=hid ((callsIn_wide (n:=10)).1 (appendSeq_inI 10 (by omega) g lb eg S N (by unfold maxLen;omega) (by omega) w hseq))
 go_enter Tryz.func315,Tryz.ntmps315
 go_wp2_with (go_at_call 358;refine HA.out.mono ?_;rintro e w' ⟨v,ss,rfl,hS,hrow,hnil,hb⟩)
 go_ret
 exact ⟨v,ss,rfl,hS,hrow,hnil,hb⟩
theorem insert_nilI (w:World):Calls Tryz.prog 382 #[.slice none 0 0, .int .i64 0, .int .i64 0] w fun e w'=>e = .returned (.tuple #[])∧w=w':=by
 go_enter Tryz.func382,Tryz.ntmps382
 go_wp2
 refine wp_loop_rounds 1 ?_
 rw [rounds_succ]
 go_wp2
 go_end0
 exact ⟨rfl,rfl⟩
theorem pdq_nilI (lim:Int) (w:World):Calls Tryz.prog 359 #[.slice none 0 0, .int .i64 0, .int .i64 0, .int .i64 lim] w fun e w'=>e = .returned (.tuple #[])∧w=w':=by
 go_enter Tryz.func359,Tryz.ntmps359
 go_wp2
 refine wp_loop_rounds 1 ?_
 rw [rounds_succ]
 go_wp2_with fail
 refine (insert_nilI _).mono ?_
 rintro e w1 ⟨rfl,rfl⟩
 go_wp2
 refine bodyPost_ret (results_none rfl _ _ _) rfl ?_
 exact ⟨rfl,rfl⟩
theorem sort_nilI (w:World):Calls Tryz.prog 316 #[.slice none 0 0] w fun e w'=>e = .returned (.tuple #[])∧w=w':=by
 go_enter Tryz.func316,Tryz.ntmps316
 go_wp2_with (first
  | (go_at_call 359;refine (pdq_nilI _ _).mono ?_;rintro e w1 ⟨rfl,rfl⟩)
  | go_in)
 go_end0
 exact ⟨rfl,rfl⟩
end
section
open Go.RowKit Go.Maps
def OIdx (w:World) (b n:Nat) (ws:List (Nat × Nat)) (k:Nat):Prop:=∃ D:DataW Unit,w.ownsMap Tryz.prog 32 (plainElem Tryz.prog 3) b n D∧∀ i (h:i < ws.length),i < k→D.atKey (kU (ws[i]).1) (.lit (.int .i64 0)) = .lit (.int .i64 (i:Int))
def Diff (ws:List (Nat × Nat)):Prop:=∀ i j (hi:i < ws.length) (hj:j < ws.length),i≠j→(ws[i]).1≠(ws[j]).1
theorem OIdx.new (w:World) (ws:List (Nat × Nat)):OIdx (w.alloc (.map #[] 0)) w.heap.size 0 ws 0:=⟨_,World.ownsMap_made w _ _ _,fun i _ h=>absurd h (by omega)⟩
theorem OIdx.look {w:World} {b n k:Nat} {ws:List (Nat × Nat)} (h:OIdx w b n ws k) {i:Nat} (hl:i < ws.length) (hk:i < k) (hx:(ws[i]).1 < 18446744073709551616) :
  (Instr.lookup 427 (.map (some b)) (.int .u64 ((ws[i]).1:Int)) false).run Tryz.prog w = .ok (.int .i64 (i:Int)) w:=by
 obtain ⟨D,ho,hd⟩:=h
 obtain ⟨c,hrun,hc,_⟩:=ho.lookup_int keyedU Tryz.underlying427 Tryz.underlying3 (by kernel_rfl) (keyU hx)
 rw [hd i hl hk] at hc
 injection hc with hc
 injection hc with _ hc
 rw [hrun,← hc]
theorem OIdx.add {w:World} {b n k:Nat} {ws:List (Nat × Nat)} (h:OIdx w b n ws k) (hn:n < maxLen) (hd':Diff ws) (hl:k < ws.length) (hx:(ws[k]).1 < 18446744073709551616) (hk:k≤1000000) :
  ∃ w',(Instr.mapUpdate 427 (.map (some b)) (.int .u64 ((ws[k]).1:Int)) (.int .i64 (k:Int))).run Tryz.prog w = .ok () w'∧OIdx w' b (n+1) ws (k+1)∧w.grownBy w' (some b):=by
 obtain ⟨D,ho,hd⟩:=h
 obtain ⟨w',hrun,ho',hg⟩:=ho.update keyedU Tryz.underlying427 hn (keyU hx) (plainElem_int Tryz.underlying3 (a:=(k:Int)) (by
  have hm:IntKind.i64.min = -9223372036854775808:=by decide
  have hx:IntKind.i64.max=9223372036854775807:=by decide
  simp only [Lit.wf,hm,hx,Bool.and_eq_true,decide_eq_true_eq]
  omega))
 refine ⟨w',hrun,⟨_,ho',fun i hi hik=>?_⟩,hg⟩
 by_cases e:i=k
 ·subst e
  rw [atKey_put_same ho.isMap (kU_key _)]
 ·rw [atKey_put_other (kU_ne (hd' i k hi hl e)),hd i hi (by omega)]
theorem OIdx.alloc {w:World} {b n k:Nat} {ws:List (Nat × Nat)} (h:OIdx w b n ws k) (o:Obj):OIdx (w.alloc o) b n ws k:=by
 obtain ⟨D,ho,hd⟩:=h
 exact ⟨D,ho.alloc o,hd⟩
theorem OIdx.kept {w w':World} {b n k:Nat} {ws:List (Nat × Nat)} {row:Option Nat} (h:OIdx w b n ws k) (hg:w.grownBy w' row) (hne:some b≠row):OIdx w' b n ws k:=by
 obtain ⟨D,ho,hd⟩:=h
 exact ⟨D,ho.kept hg hne,hd⟩
theorem OIdx.ne_own {w:World} {b n k:Nat} {ws:List (Nat × Nat)} (h:OIdx w b n ws k) {base:Nat} {e:TypeId} {size m:Nat} {v:Value} {xs:List Value} (ho:w.ownsRow base e size v m xs):some b≠v.ownBlock:=by
 obtain ⟨D,hm,_⟩:=h
 exact map_ne_own hm ho
theorem last_any (A:Option Addr) (n c:Nat) (ws:List (Nat × Nat)) (w:World) (h:Reads w w.heap.size 2 A n (wrCells ws)) (hd:Diff ws) (hv:∀ i (h:i < ws.length),(ws[i]).1 < 18446744073709551616) (hn:n≤1000) :
  Calls Tryz.prog 248 #[.slice A n c] w (RetWr w ws):=by
 obtain ⟨i0,hi0,hz0,hz1,hz2⟩:=info_parts infoWrite
 have HR:=hid h
 have HD:=hid hd
 have HV:=hid hv
 have HLN:=hid (show ws.length=n by have:=h.1;rw [wrCells_len] at this;omega)
 have hmm:∀ W,(Instr.makeMap 427 none).run Tryz.prog W = .ok (.map (some W.heap.size)) (W.alloc (.map #[] 0)):=fun _=>rfl
 have HI0:Hid (OIdx (w.alloc (.map #[] 0)) w.heap.size 0 ws 0):=hid (OIdx.new w ws)
 have HB0:Hid (Below w.heap.size w (w.alloc (.map #[] 0))):=hid ((Below.refl _ w).alloc (Nat.le_refl _) _)
 clear h hd hv
 go_enter Tryz.func248,Tryz.ntmps248
 go_wp2
 clear hmm
 go_loopw [12] (fun i wr=>∃ k:Nat,k≤n∧i = .int .i64 (k:Int)∧Hid (OIdx wr w.heap.size k ws k)∧Hid (Below w.heap.size w wr)) (fun i _=>n - (Go.RowKit.intOf i).toNat)
 case atStart=>exact ⟨0,Nat.zero_le _,rfl,HI0,HB0⟩
 case round =>
  clear HI0 HB0
  obtain ⟨k,hk,rfl,HI,HB⟩:=hrel
  by_cases hlt:k < n
  ·obtain ⟨hl,b,off,hA,hbB,f0,f1⟩:=wr_facts (HR.out.below HB.out) hlt
   subst hA
   have hz5:(0:Int)≤(k:Int):=by omega
   have hz6:(k:Int) < (n:Int):=by omega
   obtain ⟨w3,hrun,hos,hgr⟩:=(HI.out.alloc (.cells #[.int .u64 ((ws[k]).1:Int), .int .u64 ((ws[k]).2:Int)] 114)).add (by unfold maxLen;omega) HD.out hl (HV.out k hl) (by omega)
   have HI3:=hid hos
   have HB3:=hid ((HB.out.alloc HB.out.size (.cells #[.int .u64 ((ws[k]).1:Int), .int .u64 ((ws[k]).2:Int)] 114)).grown hgr (Nat.le_trans HB.out.size (by simp)) (fun g hg=>by cases hg;exact Nat.le_refl _))
   generalize ws[k]=e at *
   clear hos hgr HI HB
   go_wp2
   go_roundw
   case rel=>exact ⟨k+1,by omega,by go_num,HI3,HB3⟩
   case measure=>simp [Go.RowKit.intOf];omega
  ·have hkn:k=n:=by omega
   subst hkn
   have HO0:Hid (wr.ownsRow w.heap.size 114 2 (.slice none 0 0) 0 (wrCells (ws.take 0))):=hid (World.ownsRow_nil _ _ _ _)
   go_wp2
   go_loopw [6,24] (fun l i wr=>∃ (q:Nat) (A1:Option Addr) (c1:Nat),q≤k∧i = .int .i64 (q:Int)∧l = .slice A1 q c1∧Hid (wr.ownsRow w.heap.size 114 2 (.slice A1 q c1) q (wrCells (ws.take q)))∧Hid (OIdx wr w.heap.size k ws k)∧Hid (Below w.heap.size w wr)) (fun _ i _=>k - (Go.RowKit.intOf i).toNat)
   case atStart=>exact ⟨0,_,_,Nat.zero_le _,rfl,rfl,HO0,HI,HB⟩
   case round =>
    clear HI HB HO0
    obtain ⟨q,A1,c1,hq,rfl,rfl,HO,HI,HB⟩:=hrel
    by_cases hlt2:q < k
    ·obtain ⟨hl,b,off,hA,hbB,f0,f1⟩:=wr_facts (HR.out.below HB.out) hlt2
     subst hA
     have hz5:(0:Int)≤(q:Int):=by omega
     have hz6:(q:Int) < (k:Int):=by omega
     have hlk:=(HI.out.alloc (.cells #[.int .u64 ((ws[q]).1:Int), .int .u64 ((ws[q]).2:Int)] 114)).look hl hlt2 (HV.out q hl)
     have HTS:=hid (takeS ws q hl)
     generalize ws[q]=e at *
     have hsz:w.heap.size≤wr.heap.size:=HB.out.size
     go_wp2_with (at_builtin;refine stop ?_)
     unfold Stop
     have HR1:=hid (row_reads_at (wr.alloc (.cells #[.int .u64 (e.1:Int), .int .u64 (e.2:Int)] 114)) _ rfl [.int .u64 (e.1:Int), .int .u64 (e.2:Int)] 1 2 114 _ rfl rfl)
     rw [World.size_alloc] at HR1
     refine wpList_app _ (.tmp 35) (.tmp 37) 108 rfl rfl w.heap.size 114 i0 _ 2 16 Tryz.underlying108 hi0 hz0 hz1 hz2 rfl (by omega) (.slice A1 q c1) q (wrCells (ws.take q)) rfl ((HO.out.alloc _).alloc _) (wr.heap.size+1+1) (some ⟨wr.heap.size+1,0,none⟩) 1 1 [.int .u64 (e.1:Int), .int .u64 (e.2:Int)] rfl HR1.out (u64s_one _ _) (by unfold maxLen;omega) (by omega) (by simp;omega) ?_
     intro A3 n3 c3 w8 hn3 ho3 hg3 hb3
     have hn3':n3=q+1:=by omega
     subst hn3'
     have HO4:Hid (w8.ownsRow w.heap.size 114 2 (.slice A3 (q+1) c3) (q+1) (wrCells (ws.take (q+1)))):=hid (by rw [HTS.out,wrCells_snoc];exact ho3)
     have HI4:Hid (OIdx w8 w.heap.size k ws k):=hid (((HI.out.alloc _).alloc _).kept hg3 (HI.out.ne_own HO.out))
     have HB4:=hid (((HB.out.alloc HB.out.size _).alloc (by simp;omega) _).trans hb3)
     clear hn3 ho3 hg3 hb3 hlk
     go_wp2
     go_roundw
     case rel =>
      first
       | exact ⟨q+1,_,_,by omega,by go_num,rfl,HO4,HI4,HB4⟩
       | (
         repeat apply Exists.intro
         refine ⟨?_,rfl⟩
         exact ⟨q+1,_,_,by omega,by go_num,rfl,HO4,HI4,HB4⟩)
     case measure=>simp [Go.RowKit.intOf];omega
    ·have hqk:q=k:=by omega
     subst hqk
     go_wp2
     go_ret
     have h:=HO.out
     rw [List.take_of_length_le (by rw [HLN.out];exact Nat.le_refl _)] at h
     exact ⟨_,_,_,rfl,HLN.out.symm,h,HB.out⟩
end
end Go.Proofs.YtfkjjoglnmeciaaGreatDoor
