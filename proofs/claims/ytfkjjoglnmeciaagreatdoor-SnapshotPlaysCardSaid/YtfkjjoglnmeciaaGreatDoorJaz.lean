/- The walks and laws that the claim leans on, part 26. -/
import Derived.Test.YtfkjjoglnmeciaaGreatDoorJao
import Derived.Test.YtfkjjoglnmeciaaGreatDoorJay
set_option maxRecDepth 100000
set_option maxHeartbeats 16000000
namespace Go.Proofs.YtfkjjoglnmeciaaGreatDoor
open Go.Lib (hid)
section
open Go.RowKit Go.Maps Go.Sort Go.Shelf
def jCells (xs:List Nat):List Value:=xs.map fun x:Nat=>Value.int .i64 (x:Int)
theorem encI_cells (xs:List Nat):(xs.map Int.ofNat).map encI=jCells xs:=by simp [jCells,encI,Function.comp_def]
theorem perm_nat {ss:List Int} {ks:List Nat} (h:ss.Perm (ks.map Int.ofNat)):∃ xs:List Nat,ss=xs.map Int.ofNat∧xs.Perm ks:=by
 refine ⟨ss.map Int.toNat,?_,?_⟩
 ·rw [List.map_map]
  symm
  refine (List.map_congr_left (g:=id) ?_).trans (List.map_id ss)
  intro a ha
  obtain ⟨k,_,rfl⟩:=List.mem_map.1 (h.mem_iff.1 ha)
  rfl
 ·have h2:=h.map Int.toNat
  rw [List.map_map] at h2
  have e:(Int.toNat ∘ Int.ofNat)=id:=by funext x;rfl
  rwa [e,List.map_id] at h2
def RowI (cs:Array Value) (xs:List Nat):Prop:=xs.length≤cs.size∧∀ i (h:i < xs.length),cs[i]?=some (.int .i64 ((xs[i]:Nat):Int))
theorem RowI.set {cs:Array Value} {xs:List Nat} (h:RowI cs xs) (j x:Nat) (hj:j < xs.length):RowI (cs.setIfInBounds j (.int .i64 (x:Int))) (xs.set j x):=by
 refine ⟨by simpa using h.1,fun i hi=>?_⟩
 rw [List.length_set] at hi
 rw [set_at i (by have:=h.1;omega),List.getElem_set]
 by_cases hij:i=j
 ·rw [if_pos hij,if_pos hij.symm]
 ·rw [if_neg hij,if_neg (fun e=>hij e.symm)];exact h.2 i hi
def SortJ (w wr:World) (g:Nat) (xs:List Nat) (sz:Nat):Prop:=∃ cs ys,Blk wr g 3 cs∧cs.size=sz∧RowI cs ys∧ys.Perm xs∧Chg (fun k=>k=g) w wr
def RetSortJ (w:World) (g:Nat) (xs:List Nat) (sz:Nat) (e:Ending) (w':World):Prop:=e = .returned (.tuple #[])∧SortJ w w' g xs sz
theorem insertion_int (g n cap sz:Nat) (xs:List Nat) (w:World) (h:SortJ w w g xs sz) (hl:xs.length=n) (hn:n≤1000000) (hc:n≤cap) (hcm:cap≤9223372036854775807) :
  Calls Tryz.prog 382 #[.slice (some ⟨g,0,none⟩) n cap, .int .i64 0, .int .i64 (n:Int)] w (RetSortJ w g xs sz):=by
 have H0:=hid h
 have HL:=hid hl
 clear h hl
 go_enter Tryz.func382,Tryz.ntmps382
 go_wp2
 go_loopw [6] (fun i wr=>∃ (k:Nat),1≤k∧k≤n+1∧i = .int .i64 k∧Hid (SortJ w wr g xs sz)) (fun i _=>n+1 - (Go.RowKit.intOf i).toNat)
 case atStart=>exact ⟨1,by omega,by omega,rfl,H0⟩
 case round =>
  clear H0
  obtain ⟨k,hk1,hk,rfl,H⟩:=hrel
  by_cases hlt:k < n
  ·go_wp2
   go_loopw [7] (fun j wr=>∃ (q:Nat),q≤k∧j = .int .i64 q∧Hid (SortJ w wr g xs sz)) (fun j _=>(Go.RowKit.intOf j).toNat)
   case atStart=>exact ⟨k,Nat.le_refl _,rfl,H⟩
   case round =>
    clear H
    obtain ⟨q,hq,rfl,H⟩:=hrel
    by_cases hq0:q=0
    ·subst hq0
     have HB:=H.out
     have H1:Hid (SortJ w wr.drew g xs sz):=by
      obtain ⟨cs,ys,h1,h2,h3,h4,h5⟩:=H.out
      exact ⟨cs,ys,h1,h2,h3,h4,h5.drew⟩
     clear HB H
     go_wp2
     refine wp_region_script (fun w'=>w'=wr.drew) 14 [(true,0),(true,1),(true,2),(true,3),(true,4),(true,5),(true,6),(true,7),(true,8),(true,9),(true,10),(true,11),(true,12),(false,13)] (by kernel_rfl) (by kernel_rfl) rfl ?_
     refine wpScript_take (.int .i64 0) (by rfl) (by rfl) (fun w' hS=>?_) ?_
     ·go_simp
     simp only [zA,zB,Act.put,zD,zE,zF]
     refine wpScript_take (.int .i64 0) (by rfl) (by rfl) (fun w' hS=>?_) ?_
     ·go_simp
     simp only [zA,zB,zC,Act.put,zD,zE,zF]
     refine wpScript_take (.bool false) (by rfl) (by rfl) (fun w' hS=>?_) ?_
     ·go_simp
     simp only [zA,zB,zC,Act.put,zD,zE,zF]
     refine wpScript_take (.bool false) (by rfl) (by rfl) (fun w' hS=>?_) ?_
     ·go_simp
     simp only [zA,zB,zC,Act.put,zD,zE,zF]
     refine wpScript_skip (by rfl) (by rfl) ?_
     simp only [zA,zB,zC,Act.put,zD,zE,zF]
     refine wpScript_skip (by rfl) (by rfl) ?_
     simp only [zA,zB,zC,Act.put,zD,zE,zF]
     refine wpScript_skip (by rfl) (by rfl) ?_
     simp only [zA,zB,zC,Act.put,zD,zE,zF]
     refine wpScript_skip (by rfl) (by rfl) ?_
     simp only [zA,zB,zC,Act.put,zD,zE,zF]
     refine wpScript_skip (by rfl) (by rfl) ?_
     simp only [zA,zB,zC,Act.put,zD,zE,zF]
     refine wpScript_skip (by rfl) (by rfl) ?_
     simp only [zA,zB,zC,Act.put,zD,zE,zF]
     refine wpScript_skip (by rfl) (by rfl) ?_
     simp only [zA,zB,zC,Act.put,zD,zE,zF]
     refine wpScript_skip (by rfl) (by rfl) ?_
     simp only [zA,zB,zC,Act.put,zD,zE,zF]
     refine wpScript_skip (by rfl) (by rfl) ?_
     simp only [zA,zB,zC,Act.put,zD,zE,zF]
     refine wpScript_do (by rfl) ?_
     go_wp2_with fail
     refine ⟨rfl,?_⟩
     show wpList _ _ _ _ _ _
     simp only [List.drop_succ_cons,List.drop_zero]
     go_wp2_with fail
     refine NoPanic.normal ?_
     go_wp2
     go_roundw
     case rel=>exact ⟨k+1,by omega,by omega,by go_num,H1⟩
     case measure=>simp [Go.RowKit.intOf];omega
    ·obtain ⟨q',rfl⟩:∃ q',q=q'+1:=⟨q - 1,by omega⟩
     obtain ⟨cs,ys,h1,h2,h3,h4,h5⟩:=H.out
     have hyl:ys.length=n:=by rw [h4.length_eq];exact HL.out
     have i1:q'+1 < ys.length:=by omega
     have i0:q' < ys.length:=by omega
     have c1:wr.cell? ⟨g,q'+1,none⟩=some (.int .i64 ((ys[q'+1]:Nat):Int)):=by rw [h1.cell];exact h3.2 _ i1
     have c0:wr.cell? ⟨g,q',none⟩=some (.int .i64 ((ys[q']:Nat):Int)):=by rw [h1.cell];exact h3.2 _ i0
     have HP:=hid (List.set_set_perm i1 i0)
     have HRW:=hid ((h3.set (q'+1) ys[q'] i1).set q' ys[q'+1] (by rw [List.length_set];exact i0))
     have z1:=h1.frozen (q'+1)
     have z0:=h1.frozen q'
     have HBk:=hid h1
     have HSz:=hid h2
     have HPm:=hid h4
     have HCh:=hid h5
     have HRo:=hid h3
     generalize hx1:ys[q'+1]=x1 at *
     generalize hx0:ys[q']=x0 at *
     clear hx1 hx0 h1 h2 h3 h4 h5 H
     have e1:(0:Int) < (q':Int)+1:=by omega
     have e2:(q':Int)+1 < (n:Int):=by omega
     have e3:(q':Int) < (n:Int):=by omega
     have e4:(0:Int)≤(q':Int):=by omega
     have e5:decide ((0:Int) < (q':Int)+1)=true:=decide_eq_true (by omega)
     have e6:((q':Int)+1).toNat=q'+1:=by omega
     have e7:¬ ((q':Int)+1 < 0):=by omega
     have e8:IntKind.i64.wrap (q':Int)=(q':Int):=by rw [IntKind.wrap_i64];omega
     have e9:(0:Int)≤(q':Int)+1:=by omega
     go_wp2
     refine wp_region_script (fun w'=>w'=wr.drew) 14 [(true,0),(true,1),(true,2),(true,3),(true,4),(true,5),(true,6),(true,7),(true,8),(true,9),(true,10),(true,11),(true,12),(false,13)] (by kernel_rfl) (by kernel_rfl) rfl ?_
     refine wpScript_take (.int .i64 ((q':Int)+1)) (by rfl) (by rfl) (fun w' hS=>?_) ?_
     ·go_simp
     simp only [zA,zB,Act.put,zD,zE,zF]
     refine wpScript_take (.int .i64 0) (by rfl) (by rfl) (fun w' hS=>?_) ?_
     ·go_simp
     simp only [zA,zB,zC,Act.put,zD,zE,zF]
     refine wpScript_take (.bool true) (by rfl) (by rfl) (fun w' hS=>?_) ?_
     ·go_simp
     simp only [zA,zB,zC,Act.put,zD,zE,zF]
     refine wpScript_take (.bool true) (by rfl) (by rfl) (fun w' hS=>?_) ?_
     ·go_simp
     simp only [zA,zB,zC,Act.put,zD,zE,zF]
     refine wpScript_take (.slice (some ⟨g,0,none⟩) n cap) (by rfl) (by rfl) (fun w' hS=>?_) ?_
     ·go_simp
     simp only [zA,zB,zC,Act.put,zD,zE,zF]
     refine wpScript_take (.int .i64 ((q':Int)+1)) (by rfl) (by rfl) (fun w' hS=>?_) ?_
     ·go_simp
     simp only [zA,zB,zC,Act.put,zD,zE,zF]
     refine wpScript_take (.pointer (some ⟨g,q'+1,none⟩)) (by rfl) (by rfl) (fun w' hS=>?_) ?_
     ·go_simp
     simp only [zA,zB,zC,Act.put,zD,zE,zF]
     refine wpScript_take (.int .i64 (x1:Int)) (by rfl) (by rfl) (fun w' hS=>?_) ?_
     ·subst hS
      go_simp
     simp only [zA,zB,zC,Act.put,zD,zE,zF]
     refine wpScript_take (.slice (some ⟨g,0,none⟩) n cap) (by rfl) (by rfl) (fun w' hS=>?_) ?_
     ·go_simp
     simp only [zA,zB,zC,Act.put,zD,zE,zF]
     refine wpScript_take (.int .i64 ((q':Int)+1)) (by rfl) (by rfl) (fun w' hS=>?_) ?_
     ·go_simp
     simp only [zA,zB,zC,Act.put,zD,zE,zF]
     refine wpScript_take (.int .i64 (q':Int)) (by rfl) (by rfl) (fun w' hS=>?_) ?_
     ·go_simp
     simp only [zA,zB,zC,Act.put,zD,zE,zF]
     refine wpScript_take (.pointer (some ⟨g,q',none⟩)) (by rfl) (by rfl) (fun w' hS=>?_) ?_
     ·go_simp
     simp only [zA,zB,zC,Act.put,zD,zE,zF]
     refine wpScript_take (.int .i64 (x0:Int)) (by rfl) (by rfl) (fun w' hS=>?_) ?_
     ·subst hS
      go_simp
     simp only [zA,zB,zC,Act.put,zD,zE,zF]
     refine wpScript_do (by rfl) ?_
     go_wp2
     refine ⟨rfl,?_⟩
     show wpList _ _ _ _ _ _
     simp only [List.drop_succ_cons,List.drop_zero]
     by_cases hx:x1 < x0
     ·have t1:decide ((x1:Int) < (x0:Int))=true:=decide_eq_true (by omega)
      have t2:decide (x1 < x0)=true:=decide_eq_true hx
      go_wp2_with fail
      refine NoPanic.normal ?_
      clear e5 t1 t2
      go_wp2
      have H1:Hid (SortJ w ((wr.setCell ⟨g,q'+1,none⟩ (.int .i64 (x0:Int))).setCell ⟨g,q',none⟩ (.int .i64 (x1:Int))).drew.drew g xs sz) :=
       ⟨(cs.setIfInBounds (q'+1) (.int .i64 (x0:Int))).setIfInBounds q' (.int .i64 (x1:Int)),(ys.set (q'+1) x0).set q' x1,(HBk.out.set_ (q'+1) _).set_ q' _,by have:=HSz.out;simpa using this,HRW.out,HP.out.trans HPm.out,((HCh.out.setCell (p:=⟨g,q'+1,none⟩) (.inl rfl) _).setCell (p:=⟨g,q',none⟩) (.inl rfl) _).drew.drew⟩
      go_region
      go_wp2
      exact ⟨⟨q',by omega,rfl,H1⟩,by simp [Go.RowKit.intOf]⟩
     ·have t1:decide ((x1:Int) < (x0:Int))=false:=decide_eq_false (by omega)
      have t2:decide (x1 < x0)=false:=decide_eq_false hx
      have H1:Hid (SortJ w wr.drew g xs sz):=⟨cs,ys,HBk.out,HSz.out,HRo.out,HPm.out,HCh.out.drew⟩
      go_wp2_with fail
      refine NoPanic.normal ?_
      go_wp2
      go_roundw
      case rel=>exact ⟨k+1,by omega,by omega,by go_num,H1⟩
      case measure=>simp [Go.RowKit.intOf];omega
  ·go_wp2
   go_end0
   exact ⟨rfl,H.out⟩
theorem pdq_int (g n cap sz:Nat) (lim:Int) (xs:List Nat) (w:World) (h:SortJ w w g xs sz) (hl:xs.length=n) (hn:n≤12) (hc:n≤cap) (hcm:cap≤9223372036854775807) :
  Calls Tryz.prog 359 #[.slice (some ⟨g,0,none⟩) n cap, .int .i64 0, .int .i64 (n:Int), .int .i64 lim] w (RetSortJ w g xs sz):=by
 have HI:=hid (insertion_int g n cap sz xs w h hl (by omega) hc hcm)
 have e1:decide ((n:Int)≤12)=true:=decide_eq_true (by omega)
 have e2:decide (n≤12)=true:=decide_eq_true hn
 clear h hl
 go_enter Tryz.func359,Tryz.ntmps359
 go_wp2
 refine wp_loop_rounds 1 ?_
 rw [rounds_succ]
 go_wp2_with fail
 refine HI.out.mono ?_
 rintro e w1 ⟨rfl,h1⟩
 have H1:=hid h1
 clear h1
 go_wp2
 go_end0
 exact ⟨rfl,H1.out⟩
theorem row_ownJ {w:World} {base g m c:Nat} {cs:Array Value} {ys:List Nat} (hB:Blk w g 3 cs) (hb:base≤g) (hm:m≤c) (hc:c≤maxLen) (hs:cs.size=c) (hr:RowI cs ys) (hl:ys.length=m):w.ownsRow base 3 1 (.slice (some ⟨g,0,none⟩) m c) m (jCells ys):=by
 refine ⟨by simp [jCells,hl], .inr ⟨g,c,cs,rfl,hb,hB,hm,hc,by omega,?_⟩⟩
 apply List.ext_getElem?
 intro i
 by_cases hi:i < m
 ·rw [List.getElem?_take_of_lt (by omega),Array.getElem?_toList,hr.2 i (by omega)]
  simp [jCells,hl ▸ hi]
 ·rw [List.getElem?_eq_none (by simp;omega),List.getElem?_eq_none (by simp [jCells];omega)]
theorem own_rowJ {w:World} {base g m c:Nat} {xs:List Nat} (h:w.ownsRow base 3 1 (.slice (some ⟨g,0,none⟩) m c) m (jCells xs)):∃ cur,Blk w g 3 cur∧cur.size=c∧RowI cur xs∧xs.length=m:=by
 have hl:xs.length=m:=by have:=h.1;simpa [jCells] using this
 rcases h.2 with ⟨hv,_⟩ | ⟨g',cap',cur,hv,hb,hh,h1,h2,h3,h4⟩
 ·cases hv
 ·simp only [Value.slice.injEq,Option.some.injEq,Addr.mk.injEq,and_true,true_and] at hv
  obtain ⟨rfl,rfl⟩:=hv
  refine ⟨cur,hh,by omega,⟨by omega,fun i hi=>?_⟩,hl⟩
  have h5:(cur.toList.take (m * 1))[i]?=(jCells xs)[i]?:=by rw [h4]
  rw [List.getElem?_take_of_lt (by omega)] at h5
  rw [← Array.getElem?_toList,h5]
  simp [jCells,hi]
theorem sort_int (g n cap sz:Nat) (xs:List Nat) (w:World) (h:SortJ w w g xs sz) (hl:xs.length=n) (hn:n≤12) (hc:n≤cap) (hcm:cap≤9223372036854775807) :
  Calls Tryz.prog 316 #[.slice (some ⟨g,0,none⟩) n cap] w (RetSortJ w g xs sz):=by
 have e1:IntKind.u64.wrap (n:Int)=(n:Int):=by rw [IntKind.wrap_u64];omega
 have HLn:=hid (len_any n w (by omega))
 have HP:=hid (pdq_int g n cap sz (Lib.bitLen n) xs w h hl hn hc hcm)
 generalize Lib.bitLen n=k at *
 clear h hl
 go_enter Tryz.func316,Tryz.ntmps316
 go_wp2_with (first
  | (go_at_call 109;refine HLn.out.mono ?_;rintro e w' ⟨rfl,rfl⟩)
  | (go_at_call 359;refine HP.out.mono ?_;rintro e w1 ⟨rfl,h1⟩;have H1:=hid h1;clear h1))
 go_end0
 exact ⟨rfl,H1.out⟩
def RetN (w:World) (P:List Nat→Prop) (e:Ending) (w':World):Prop:=∃ A m c ys,e = .returned (.slice A m c)∧P ys∧m=ys.length∧w'.ownsRow w.heap.size 3 1 (.slice A m c) m (jCells ys)∧Below w.heap.size w w'
theorem sorted_int (g:Nat) (lb:Array Value) (eg:∀ args w,(callFunc g args).run Tryz.prog w = .ok (.enter g args) w)
  (ks:List Nat) (N:Nat) (hN:N≤12) (w:World) (hseq:SeqGives Fence.wide 9 Tryz.prog g lb encI (fun ss=>ss.Perm (ks.map Int.ofNat)) N w) :
  Calls Tryz.prog 238 #[.func (.func g) #[] lb] w (RetN w (fun ys=>ys.Perm ks)):=by
 have HC:=hid (collect_anyI g lb eg _ N (by omega) w hseq.bounded)
 go_enter Tryz.func238,Tryz.ntmps238
 go_wp2_with (go_at_call 315;refine HC.out.mono ?_;rintro e W ⟨v,ss,rfl,⟨hS,hlen⟩,hrow,hnil,hb⟩;refine stop ?_)
 unfold Stop
 obtain ⟨xs,rfl,hxs⟩:=perm_nat hS
 rw [encI_cells,List.length_map] at hrow
 rw [List.length_map] at hlen
 rcases hrow.2 with ⟨rfl,hz⟩ | ⟨gb,cap,cur,rfl,hbase,hgb,r1,r2,r3,r4⟩
 ·have hss:xs=[]:=List.eq_nil_of_length_eq_zero hz
  subst hss
  have HR:=hid hrow
  have HB:=hid hb
  have HP:=hid hxs
  clear hrow hb hS hxs hnil HC hseq
  go_wp2_with (go_at_call 316;refine (sort_nilI _).mono ?_;rintro e w1 ⟨rfl,rfl⟩)
  go_ret
  exact ⟨none,0,0,[],rfl,HP.out,rfl,HR.out,HB.out⟩
 ·obtain ⟨cs,hB,hcs,hR,hl⟩:=own_rowJ hrow
  have hso:SortJ W W gb xs cap:=⟨cs,xs,hB,hcs,hR,List.Perm.refl _,Chg.refl _ _⟩
  have HS:=hid (sort_int gb xs.length cap cap xs W hso rfl (by omega) r1 (by unfold maxLen at r2;omega))
  have HB:=hid hb
  have HP:=hid hxs
  have HF:Hid (w.heap.size≤gb∧xs.length≤cap∧cap≤maxLen):=hid ⟨hbase,r1,r2⟩
  clear hrow hb hS hxs hnil HC hseq hB hcs hR hl hso r1 r2 r3 r4 hgb hbase
  go_wp2_with (go_at_call 316;refine HS.out.mono ?_;rintro e w1 ⟨rfl,hs⟩;have HSo:=hid hs;clear hs)
  obtain ⟨cs1,ys,hB1,hz1,hR1,hp1,hc1⟩:=HSo.out
  have hyl:=hp1.length_eq
  have HO:=hid (row_ownJ (base:=w.heap.size) hB1 HF.out.1 HF.out.2.1 HF.out.2.2 hz1 hR1 hyl)
  have HB1:Hid (Below w.heap.size w w1):=hid (HB.out.trans (hc1.toBelow HB.out.size (fun k hk=>by rw [hk];exact HF.out.1)))
  have HP1:=hid (hp1.trans HP.out)
  have HL1:=hid hyl
  clear hB1 hz1 hR1 hp1 hc1 hyl HSo HS HB HP
  go_wp2
  go_ret
  exact ⟨_,_,_,ys,rfl,HP1.out,HL1.out.symm,HO.out,HB1.out⟩
end
section
open Go.RowKit Go.Maps
def IsRedo (s:Nat) (ws:List (Nat × Nat)) (p:List Ins):Prop:=(ws=[]∧p=[])∨(ws≠[]∧∃ cm p1 p2 p3,cm < 18446744073709551616∧IsStores (entW (64 * s) 0 ws) p1∧IsStores [(64 * s,cm)] p2∧IsTwo ws [(64 * s,0)] p3∧p=p1++p2++p3)
def flatW:List (Nat × Nat)→List Nat
 | []=>[]
 | e :: l=>e.1 :: e.2 :: flatW l
theorem flatW_snoc:∀ (l:List (Nat × Nat)) (e:Nat × Nat),flatW (l++[e])=flatW l++[e.1,e.2]
 | [],e=>rfl
 | x :: l,e=>by
  have:=flatW_snoc l e
  simp [flatW,this]
theorem flatW_mem:∀ (l:List (Nat × Nat)) (x:Nat),x∈flatW l→∃ e∈l,x=e.1∨x=e.2
 | [],x,h=>by simp [flatW] at h
 | e :: l,x,h=>by
  simp only [flatW,List.mem_cons] at h
  rcases h with h | h | h
  ·exact ⟨e,by simp, .inl h⟩
  ·exact ⟨e,by simp, .inr h⟩
  ·obtain ⟨y,hy,h2⟩:=flatW_mem l x h
   exact ⟨y,by simp [hy],h2⟩
theorem planR_any {a:DA} {L T:Nat} {w:World} {S:Fp} {cur:Nat→Nat} {F:Nat} (h:Dev a L T w S cur F) (g s n:Nat) (hB:Blk w g 353 (logCells a s n)) (hs:s+n≤L) (hn:26≤n)
  (A:Option Addr) (N c:Nat) (ws:List (Nat × Nat)) (hr:Reads w w.heap.size 2 A N (wrCells ws)) (hd:Diff ws) (ho:∀ e∈ws,OffOk L s n e.1) (hv:∀ e∈ws,e.2 < 18446744073709551616) (hN:N≤96) (hidle:cur (8 * s)=0) (ht:Tab w) :
  Calls Tryz.prog 136 #[.pointer (some ⟨g,0,none⟩), .slice A N c] w (RetPlan w (IsRedo s ws)):=by
 have hL:L≤4096:=by obtain ⟨ls,exe,per,cs,lsC,hdc,hnt⟩:=h;exact hdc.hL
 have HD:=hid h
 have HBB:=hid hB
 have HRo:=hid hr
 obtain ⟨i0,hi0,hz0,hz1,hz2⟩:=info_parts infoWrite
 obtain ⟨j0,hj0,hy0,hy1,hy2⟩:=info_parts infoU64
 have HTb:=hid ht
 have HVal:Hid (∀ e∈ws,e.1 < 18446744073709551616∧e.2 < 18446744073709551616):=hid (fun e he=>⟨by have:=(ho e he).lt;omega,hv e he⟩)
 have hz64:64 * s≤1000000:=by omega
 have HLN:=hid (show ws.length=N by have:=hr.1;rw [wrCells_len] at this;omega)
 have f0:w.cell? ⟨g,0,none⟩=some (memV a):=hB.cell 0
 have hq:=eqMem (some ⟨a.th 0,0,none⟩)
 have hmE:=methErr (some ⟨a.th 0,0,none⟩)
 have hmL:=methLoad (some ⟨a.th 0,0,none⟩)
 have hna:=aheadLoad ⟨a.th 0,0,none⟩
 have HLd:Hid (∀ W,Below w.heap.size w W→Calls Tryz.prog 65 #[.pointer (some ⟨a.th 0,0,none⟩), .int .u64 ((64 * s:Nat):Int)] W fun e w'=>e = .returned (.int .u64 0)∧W=w'):=hid (fun W hW=>load_at h (64 * s) 0 (by omega) (by omega) (by rw [show 64 * s / 8=8 * s by omega];exact hidle) W hW)
 have HV1:Hid (∀ i (h:i < ws.length),(ws[i]).1 < 18446744073709551616):=hid (fun i hi=>by have:=(ho _ (List.getElem_mem hi)).lt;omega)
 have HAl:Hid (∀ k (hk:k < ws.length) W,Below w.heap.size w W→Calls Tryz.prog 247 #[.pointer (some ⟨g,0,none⟩), .int .u64 ((ws[k]).1:Int)] W fun e w'=>e = .returned (.bool true)∧Below W.heap.size W w'):=hid (fun k hk W hW =>
  allowedR_any (h.below hW) g s n (hB.below hW hB.lt) hs _ (ho _ (List.getElem_mem hk)))
 have HEr:Hid (∀ W,Below w.heap.size w W→Calls Tryz.prog 112 #[.pointer (some ⟨a.th 0,0,none⟩)] W fun e w'=>e = .returned (.int .i64 0)∧W=w'):=hid (fun W hW=>err_dev (h.below hW) (j:=0) (by omega))
 have HLa:Hid (∀ W,Below w.heap.size w W→Calls Tryz.prog 248 #[.slice A N c] W (RetWr W ws)):=hid (fun W hW=>last_any A N c ws W ((hr.below hW).more hW.size) hd HV1.out (by omega))
 have HB0:Hid (Below w.heap.size w w):=Below.refl _ _
 clear h hB hr ho hd
 unfold memV at *
 go_enter Tryz.func136,Tryz.ntmps136
 go_wp2
 go_loopw [29] (fun i wr=>∃ (k:Nat),k≤N∧i = .int .i64 k∧Hid (Below w.heap.size w wr)) (fun i _=>N - (Go.RowKit.intOf i).toNat)
 case atStart=>exact ⟨0,Nat.zero_le _,rfl,HB0⟩
 case round =>
  clear HB0
  obtain ⟨k,hk,rfl,H⟩:=hrel
  by_cases hlt:k < N
  ·obtain ⟨hkl,b,off,hA,hbB,q0,q1⟩:=wr_facts (HRo.out.below H.out) hlt
   subst hA
   have hz5:(0:Int)≤(k:Int):=by omega
   have hz6:(k:Int) < (N:Int):=by omega
   have hba:Below w.heap.size w (wr.alloc (.cells #[.int .u64 ((ws[k]).1:Int), .int .u64 ((ws[k]).2:Int)] 114)):=H.out.alloc H.out.size _
   have HA:=hid (HAl.out k hkl _ hba)
   have HBa:=hid hba
   clear hba
   generalize ws[k]=o at *
   go_wp2_with fail
   refine HA.out.mono ?_
   rintro e1 w2 ⟨rfl,hb2⟩
   have HB2:=hid (HBa.out.trans (hb2.mono HBa.out.size))
   clear hb2 HA H HBa
   go_wp2
   go_roundw
   case rel =>
    first
     | exact ⟨k+1,by omega,by go_num,HB2⟩
     | (
       repeat apply Exists.intro
       refine ⟨?_,rfl⟩
       exact ⟨k+1,by omega,by go_num,HB2⟩)
   case measure=>simp [Go.RowKit.intOf];omega
  ·have hkN:k=N:=by omega
   subst hkN
   clear HAl
   go_wp2_with fail
   refine (HLa.out wr H.out).mono ?_
   rintro e1 w1 ⟨A1,m1,c1,rfl,hm1,ho1,hb1⟩
   have HB1:=hid (H.out.trans (hb1.mono H.out.size))
   have HO1:=hid ho1
   have hmk:m1=k:=by have:=HLN.out;omega
   subst hmk
   have g0:w1.cell? ⟨g,0,none⟩=some (.iface 58 (.pointer (some ⟨a.th 0,0,none⟩))):=(HBB.out.below HB1.out HBB.out.lt).cell 0
   have g1:w1.cell? ⟨g,1,none⟩=some (.int .u64 ((64 * s:Nat):Int)):=(HBB.out.below HB1.out HBB.out.lt).cell 1
   have HE1:=hid (HEr.out w1 HB1.out)
   clear hm1 ho1 hb1 HLa H
   go_wp2_with fail
   refine HE1.out.mono ?_
   rintro e w2 ⟨rfl,rfl⟩
   have HB1d:=hid (below_drewN HB1.out 1)
   generalize hz:64 * s=z at *
   have HZ:=hid hz
   clear hz
   go_wp2_with fail
   go_cut [10] from 18 to 132 (fun v wx=>v = .int .u64 0∧Hid (Below w1.heap.size w1 wx))
   case first =>
    go_region_with (go_at_call 65;refine (HLd.out _ HB1d.out).mono ?_;rintro e w3 ⟨rfl,rfl⟩)
    all_goals (go_wp2_with fail;go_meet;exact ⟨rfl,(Below.refl _ w1).drew⟩)
   case rest =>
    obtain ⟨rfl,HW⟩:=hcut
    rename World=>wz
    have HBz:=hid (HB1.out.trans (HW.out.mono HB1.out.size))
    have HE2:=hid (HEr.out wz HBz.out)
    have HOz:=hid (own_below HO1.out HW.out)
    clear HW HE1 HB1d HLd
    have hBk:=HBB.out.below HBz.out HBB.out.lt
    have d0:wz.cell? ⟨g,0,none⟩=some (.iface 58 (.pointer (some ⟨a.th 0,0,none⟩))):=hBk.cell 0
    have d1:wz.cell? ⟨g,1,none⟩=some (.int .u64 (z:Int)):=by rw [← HZ.out];exact hBk.cell 1
    clear hBk g0 g1
    rcases Nat.eq_zero_or_pos m1 with h0 | h0
    ·subst h0
     have hws:ws=[]:=List.eq_nil_of_length_eq_zero HLN.out
     go_wp2_with fail
     refine HE2.out.mono ?_
     rintro e w2 ⟨rfl,rfl⟩
     go_wp2
     go_ret2
     exact ⟨_,_,_,[],rfl, .inl ⟨hws,rfl⟩,World.ownsRow_nil _ _ _ _,HBz.out⟩
    ·have e9:((m1:Int) == 0)=false:=by rw [beq_eq_false_iff_ne];omega
     have hrd:=hid ((Reads.of_own HOz.out).more (Nat.le_refl _))
     have HO0:Hid (wz.ownsRow wz.heap.size 114 2 (.slice none 0 0) 0 (wrCells (entW z 0 (ws.take 0)))):=World.ownsRow_nil _ _ _ _
     have HU0:Hid (wz.ownsRow wz.heap.size 32 1 (.slice none 0 0) 0 (uCells (flatW (ws.take 0)))):=World.ownsRow_nil _ _ _ _
     have HQ0:Hid (Below wz.heap.size wz wz):=Below.refl _ _
     clear hidle
     go_wp2_with fail
     refine HE2.out.mono ?_
     rintro e w2 ⟨rfl,rfl⟩
     clear HE2 hmE
     go_wp2
     go_loopw [12,13,78] (fun l u i wr=>∃ (t:Nat) (A2:Option Addr) (m2 c2:Nat) (A3:Option Addr) (m3 c3:Nat),t≤m1∧i = .int .i64 t∧l = .slice A2 m2 c2∧u = .slice A3 m3 c3∧Hid (m2=2 * t∧m3=2 * t)∧Hid (wr.ownsRow wz.heap.size 114 2 (.slice A2 m2 c2) m2 (wrCells (entW z 0 (ws.take t))))∧Hid (wr.ownsRow wz.heap.size 32 1 (.slice A3 m3 c3) m3 (uCells (flatW (ws.take t))))∧Hid (Below wz.heap.size wz wr)) (fun _ _ i _=>m1 - (Go.RowKit.intOf i).toNat)
     case atStart=>exact ⟨0,_,_,_,_,_,_,Nat.zero_le _,rfl,rfl,rfl,hid ⟨rfl,rfl⟩,HO0,HU0,HQ0⟩
     case round =>
      clear HO0 HU0 HQ0
      obtain ⟨t,A2,m2,c2,A3,m3,c3,ht,rfl,rfl,rfl,HM,HO,HU,HQ⟩:=hrel
      by_cases hlt4:t < m1
      ·obtain ⟨htl,b,off,hA,hbB,q0,q1⟩:=wr_facts (hrd.out.below HQ.out) hlt4
       subst hA
       have hz5:(0:Int)≤(t:Int):=by omega
       have hz6:(t:Int) < (m1:Int):=by omega
       have HTS:=hid (takeS ws t htl)
       have HEn4:=hid (entW_snoc z (ws.take t) 0 (ws[t]))
       have HFl:=hid (flatW_snoc (ws.take t) (ws[t]))
       rw [← HTS.out,show (ws.take t).length=t by simp;omega,Nat.zero_add] at HEn4
       rw [← HTS.out] at HFl
       generalize ws[t]=e at *
       have u1:IntKind.u64.wrap ((z:Int)+64)=((z+64:Nat):Int):=by rw [IntKind.wrap_u64];omega
       have u2:IntKind.u64.wrap (t:Int)=(t:Int):=by rw [IntKind.wrap_u64];omega
       have u3:IntKind.u64.wrap ((t:Int) * 16)=((16 * t:Nat):Int):=by rw [IntKind.wrap_u64];omega
       have u4:IntKind.u64.wrap (((z+64:Nat):Int)+((16 * t:Nat):Int))=((z+64+16 * t:Nat):Int):=by rw [IntKind.wrap_u64];omega
       have u5:IntKind.u64.wrap (((z+64+16 * t:Nat):Int)+8)=((z+64+16 * t+8:Nat):Int):=by rw [IntKind.wrap_u64];omega
       have hmm2:=HM.out.1
       have hmm3:=HM.out.2
       subst hmm2
       subst hmm3
       have HBk:=hid (Blk.new wr 114 #[.int .u64 (e.1:Int), .int .u64 (e.2:Int)])
       have HOa:=hid (HO.out.alloc (.cells #[.int .u64 (e.1:Int), .int .u64 (e.2:Int)] 114))
       have HUa:=hid (HU.out.alloc (.cells #[.int .u64 (e.1:Int), .int .u64 (e.2:Int)] 114))
       have HQa:=hid (HQ.out.alloc HQ.out.size (.cells #[.int .u64 (e.1:Int), .int .u64 (e.2:Int)] 114))
       have HNE:Hid (∀ g',(Value.slice A2 (2 * t) c2).ownBlock=some g'→g' < wr.heap.size):=fun g' hg'=>(HO.out.lt g' hg').2
       have f1:wr.cell? ⟨g,1,none⟩=some (.int .u64 (z:Int)):=(World.cell?_of_block (HQ.out.block g (by have:=HBB.out.below HBz.out HBB.out.lt;exact this.lt))).trans d1
       have hlg:g < wr.heap.size:=by have h1:=(HBB.out.below HBz.out HBB.out.lt).lt;have h2:=HQ.out.size;omega
       clear HO HQ HU HM
       generalize z+64+16 * t+8=y2 at *
       generalize z+64+16 * t=y at *
       generalize z+64=x at *
       generalize 16 * t=q at *
       go_wp2_with (at_builtin;refine stop ?_)
       unfold Stop
       refine wpList_app2 _ (.tmp 92) (.tmp 97) 108 rfl rfl wz.heap.size 114 i0 _ 2 16 Tryz.underlying108 hi0 hz0 hz1 hz2 rfl (by omega) (.slice A2 (2 * t) c2) (2 * t) (wrCells (entW z 0 (ws.take t))) rfl (HOa.out.alloc _) (wr.heap.size+1+1) (some ⟨wr.heap.size+1,0,none⟩) 1 1 [.int .u64 (y:Int), .int .u64 (e.1:Int)] rfl (row_reads_at _ _ (by simp) _ 1 2 114 _ rfl rfl) (u64s_one _ _) (by unfold maxLen;omega) (by omega) (by have:=HQa.out.size;simp;simp at this;omega) ?_
       intro A4 n4 c4 w5 hn4 ho4 hg4 hp4
       have hb4:Below wz.heap.size _ w5:=(Below.refl _ _).grown hg4 (by have:=HQa.out.size;simp;simp at this;omega) (fun j hj=>(HOa.out.lt j hj).1)
       have hk5:=(HBk.out.alloc (.cells #[.int .u64 (y:Int), .int .u64 (e.1:Int)] 114)).grown hg4 (fun e=>by have:=HNE.out _ e.symm;omega)
       have HBk5:=hid hk5
       have d5:w5.cell? ⟨wr.heap.size,1,none⟩=some (.int .u64 (e.2:Int)):=hk5.cell 1
       have HO5:=hid ho4
       have HU5:=hid ((HUa.out.alloc (.cells #[.int .u64 (y:Int), .int .u64 (e.1:Int)] 114)).kept hg4 (own_own_ne HUa.out HOa.out (by decide)))
       have HQ5:=hid ((HQa.out.alloc HQa.out.size _).trans hb4)
       have HN5:Hid (∀ g',(Value.slice A4 n4 c4).ownBlock=some g'→g'≠wr.heap.size):=hid (fun g' hg' e=>by
        rcases hp4 with h | h
        ·have:=HNE.out g' (h.symm.trans hg');omega
        ·rw [h] at hg';simp at hg';omega)
       have hn4':n4=2 * t+1:=by omega
       subst hn4'
       have hl5:wr.heap.size < w5.heap.size:=hk5.lt
       clear hn4 ho4 hg4 hb4 hp4 hk5 HBk HOa HUa HQa HNE
       go_wp2_with (at_builtin;refine stop ?_)
       unfold Stop
       refine wpList_app _ (.tmp 99) (.tmp 105) 108 rfl rfl wz.heap.size 114 i0 _ 2 16 Tryz.underlying108 hi0 hz0 hz1 hz2 rfl (by omega) (.slice A4 (2 * t+1) c4) (2 * t+1) _ rfl (HO5.out.alloc _) (w5.heap.size+1) (some ⟨w5.heap.size,0,none⟩) 1 1 [.int .u64 (y2:Int), .int .u64 (e.2:Int)] rfl (row_reads_at _ _ rfl _ 1 2 114 _ rfl rfl) (u64s_one _ _) (by unfold maxLen;omega) (by omega) (by have:=HQ5.out.size;simp;omega) ?_
       intro A5 n5 c5 w6 hn5 ho5 hg5 hb5
       have HO6:Hid (w6.ownsRow wz.heap.size 114 2 (.slice A5 n5 c5) n5 (wrCells (entW z 0 (ws.take (t+1))))):=hid (by rw [HEn4.out,show ∀ l:List (Nat × Nat),l++[(y,e.1),(y2,e.2)]=(l++[(y,e.1)])++[(y2,e.2)] from fun l=>by simp,wrCells_snoc,wrCells_snoc];exact ho5)
       have HQ6:=hid ((HQ5.out.alloc HQ5.out.size _).trans hb5)
       have HU6:=hid ((HU5.out.alloc (.cells #[.int .u64 (y2:Int), .int .u64 (e.2:Int)] 114)).kept hg5 (own_own_ne HU5.out HO5.out (by decide)))
       have hk6:=(HBk5.out.alloc (.cells #[.int .u64 (y2:Int), .int .u64 (e.2:Int)] 114)).grown hg5 (fun e=>HN5.out _ e.symm rfl)
       have d6:w6.cell? ⟨wr.heap.size,0,none⟩=some (.int .u64 (e.1:Int)):=hk6.cell 0
       have d7:w6.cell? ⟨wr.heap.size,1,none⟩=some (.int .u64 (e.2:Int)):=hk6.cell 1
       have hl6:wr.heap.size < w6.heap.size:=hk6.lt
       have HN6:Hid (n5=2 * (t+1)):=hid (by omega)
       clear hn5 ho5 hg5 hb5 hk6 HO5 HU5 HQ5 HBk5 HN5 d5
       go_wp2_with (at_builtin;refine stop ?_)
       unfold Stop
       refine wpList_app _ (.tmp 107) (.tmp 112) 99 rfl rfl wz.heap.size 32 j0 _ 1 8 Tryz.underlying99 hj0 hy0 hy1 hy2 rfl (by omega) (.slice A3 (2 * t) c3) (2 * t) _ rfl (HU6.out.alloc _) (w6.heap.size+1) (some ⟨w6.heap.size,0,none⟩) 2 2 [.int .u64 (e.1:Int), .int .u64 (e.2:Int)] rfl (row_reads_at _ _ rfl _ 2 1 32 _ rfl rfl) (u64s_one _ _) (by unfold maxLen;omega) (by omega) (by have:=HQ6.out.size;simp;omega) ?_
       intro A6 n6 c6 w7 hn6 ho6 hg6 hb6
       have HU7:Hid (w7.ownsRow wz.heap.size 32 1 (.slice A6 n6 c6) n6 (uCells (flatW (ws.take (t+1))))):=hid (by rw [HFl.out];show w7.ownsRow _ _ _ _ _ (uCells (flatW (ws.take t)++[e.1,e.2]));unfold uCells;rw [List.map_append];exact ho6)
       have HO7:=hid ((HO6.out.alloc (.cells #[.int .u64 (e.1:Int), .int .u64 (e.2:Int)] 32)).kept hg6 (own_own_ne HO6.out HU6.out (by decide)))
       have HQ7:=hid ((HQ6.out.alloc HQ6.out.size _).trans hb6)
       have HM7:Hid (n5=2 * (t+1)∧n6=2 * (t+1)):=hid ⟨HN6.out,by omega⟩
       clear hn6 ho6 hg6 hb6 HO6 HU6 HQ6 HN6 d6 d7
       go_wp2
       go_roundw
       case rel =>
        first
         | exact ⟨t+1,_,_,_,_,_,_,by omega,by go_num,rfl,rfl,HM7,HO7,HU7,HQ7⟩
         | (
           repeat apply Exists.intro
           refine ⟨?_,rfl⟩
           exact ⟨t+1,_,_,_,_,_,_,by omega,by go_num,rfl,rfl,HM7,HO7,HU7,HQ7⟩)
       case measure=>simp [Go.RowKit.intOf];omega
      ·have htm:m1=t:=by omega
       subst htm
       have htk:ws.take m1=ws:=List.take_of_length_le (by have:=HLN.out;omega)
       rw [htk] at HO HU
       have hmm2:=HM.out.1
       have hmm3:=HM.out.2
       subst hmm2
       subst hmm3
       have HBr:=hid (HBz.out.trans (HQ.out.mono HBz.out.size))
       have HWd:=hid (words_any A3 (2 * m1) c3 wr.heap.size (flatW ws) wr (Reads.of_own HU.out) (fun x hx=>by
        obtain ⟨e,he,h | h⟩:=flatW_mem ws x hx
        ·rw [h];exact (HVal.out e he).1
        ·rw [h];exact (HVal.out e he).2) (by omega) (HTb.out.below HBr.out))
       have u1:IntKind.u64.wrap (m1:Int)=(m1:Int):=by rw [IntKind.wrap_u64];omega
       go_wp2_with fail
       refine HWd.out.mono ?_
       rintro e w2 ⟨v,hv,rfl,rfl⟩
       have u2:IntKind.u64.wrap (v:Int)=(v:Int):=by rw [IntKind.wrap_u64];omega
       obtain ⟨cm,hcm,hcl⟩:∃ cm:Nat,bits BinOp.or IntKind.u64 (m1:Int) ((v:Int) * 4294967296)=(cm:Int)∧cm < 18446744073709551616:=by
        refine ⟨m1+v * 4294967296,?_,by omega⟩
        have h:=Go.u64_or32 (y:=(m1:Int)) (x:=(v:Int) * 4294967296) (by omega) (by omega) (by omega) (by omega) (by omega)
        rw [h]
        omega
       have hfl:ws.length=m1:=HLN.out
       have HBk:=hid (HBB.out.below HBr.out HBB.out.lt)
       have HSt:=hid (stores_small A2 (2 * m1) c2 _ wr (Reads.of_own HO.out) (by omega) (by omega) (fun e he=>by
        obtain ⟨j2,h1,h2,_⟩:=entW_mem _ _ _ _ he
        omega))
       have HMk:Hid (∀ W,Below wr.heap.size wr W→Calls Tryz.prog 170 #[.pointer (some ⟨g,0,none⟩), .int .u64 (cm:Int)] W (RetProg W (IsStores [(z,cm)]))):=hid (fun W hW=>by
        have h:=mark_any a s n g cm W (HBk.out.below hW HBk.out.lt) (by omega)
        rw [HZ.out] at h
        exact h)
       have HFi:Hid (∀ W,Below wr.heap.size wr W→Calls Tryz.prog 250 #[.pointer (some ⟨g,0,none⟩), .slice A1 m1 c1] W (RetProg W (IsTwo ws [(z,0)]))):=hid (fun W hW=>by
        have hr:=hrd.out.below (HQ.out.trans (hW.mono HQ.out.size))
        have h:=finish_any a s n g A1 m1 c1 ws W (hr.more (Nat.le_trans HQ.out.size hW.size)) h0 (by omega) (fun e he=>(HVal.out e he).1) (HBk.out.below hW HBk.out.lt) (by omega)
        rw [HZ.out] at h
        exact h)
       clear HWd HU HO
       go_wp2_with fail
       refine HSt.out.mono ?_
       rintro e1 w4 ⟨B1,n1,d1,p1,rfl,hp1,ho1,hb1⟩
       have HP1:=hid hp1
       have HO1:=hid ho1
       have HB4:=hid hb1
       have HMk4:=hid (HMk.out w4 hb1)
       clear hp1 ho1 hb1 HSt
       go_wp2_with fail
       refine HMk4.out.mono ?_
       rintro e1 w5 ⟨B2,n2,d2',p2,rfl,hp2,ho2,hb2⟩
       have HP2:=hid hp2
       have HB5:=hid (HB4.out.trans (hb2.mono HB4.out.size))
       have hl1:n1≤390:=by
        have h1:=HO1.out.1
        have h2:=isStores_len HP1.out
        rw [insCells_len] at h1
        rw [entW_len] at h2
        omega
       have hl2:n2≤3:=by
        have h1:=ho2.1
        have h2:=isStores_len HP2.out
        rw [insCells_len] at h1
        simp at h2
        omega
       have HTh:=hid (then_any B1 B2 n1 d1 n2 d2' p1 p2 w5 (Reads.of_own (own_below HO1.out hb2)) (Reads.of_own ho2) (by omega) (by omega))
       clear hp2 ho2 hb2 HMk4 HO1
       go_wp2_with fail
       refine HTh.out.mono ?_
       rintro e1 w6 ⟨B3,n3,d3,rfl,hn3,ho3,hb3⟩
       have HO3:=hid ho3
       have HB6:=hid (HB5.out.trans (hb3.mono HB5.out.size))
       have HFi6:=hid (HFi.out w6 HB6.out)
       have hl3:n3≤393:=by omega
       clear hn3 ho3 hb3 HTh
       go_wp2_with fail
       refine HFi6.out.mono ?_
       rintro e1 w7 ⟨B4,n4,d4,p4,rfl,hp4,ho4,hb4⟩
       have HP4:=hid hp4
       have HB7:=hid (HB6.out.trans (hb4.mono HB6.out.size))
       have hl4:n4≤200:=by
        have h1:=ho4.1
        have h2:=isTwo_len HP4.out
        rw [insCells_len] at h1
        simp at h2
        omega
       have HTh2:=hid (then_any B3 B4 n3 d3 n4 d4 (p1++p2) p4 w7 (Reads.of_own (own_below HO3.out hb4)) (Reads.of_own ho4) (by omega) (by omega))
       clear hp4 ho4 hb4 HFi6 HO3
       go_wp2_with fail
       refine HTh2.out.mono ?_
       rintro e1 w8 ⟨B5,n5,d5,rfl,hn5,ho5,hb5⟩
       have HO5:=hid ho5
       have HB8:=hid (HBr.out.trans ((HB7.out.trans (hb5.mono HB7.out.size)).mono HBr.out.size))
       have HZ7:=hid (Nat.le_trans HBr.out.size HB7.out.size)
       clear hn5 ho5 hb5 HTh2
       go_wp2
       go_ret2
       have hz:=HZ.out
       subst hz
       exact ⟨_,_,_,_,rfl, .inr ⟨fun h=>by rw [h] at hfl;simp at hfl;omega,cm,p1,p2,p4,hcl,HP1.out,HP2.out,HP4.out,rfl⟩,own_le HO5.out HZ7.out,HB8.out⟩
end
end Go.Proofs.YtfkjjoglnmeciaaGreatDoor
