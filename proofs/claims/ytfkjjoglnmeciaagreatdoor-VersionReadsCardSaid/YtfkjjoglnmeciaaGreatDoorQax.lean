/- The walks and laws that the claim leans on, part 24. -/
import Derived.Test.YtfkjjoglnmeciaaGreatDoorQaw
set_option maxRecDepth 100000
set_option maxHeartbeats 16000000
namespace Go.Proofs.YtfkjjoglnmeciaaGreatDoor
open Go.Lib (hid)
section
open Go.RowKit Go.Maps Go.Sort Go.Shelf
def jCells (xs:List Nat):List Value:=xs.map fun x:Nat=>Value.int .i64 (x:Int)
theorem encI_cells (xs:List Nat):(xs.map Int.ofNat).map encI=jCells xs:=by simp [jCells,encI,Function.comp_def]
theorem perm_nat {ss:List Int} {ks:List Nat} (h:ss.Perm (ks.map Int.ofNat)):∃ xs:List Nat,ss=xs.map Int.ofNat∧xs.Perm ks:=by
 refine ⟨ss.map Int.toNat,?_,?_⟩
 ·rw [List.map_map]
  symm
  refine (List.map_congr_left (g:=id) ?_).trans (List.map_id ss);intro a ha;obtain ⟨k,_,rfl⟩:=List.mem_map.1 (h.mem_iff.1 ha);rfl
 ·have h2:=h.map Int.toNat
  rw [List.map_map] at h2;have e:(Int.toNat ∘ Int.ofNat)=id:=by funext x;rfl
  rwa [e,List.map_id] at h2
def RowI (cs:Array Value) (xs:List Nat):Prop:=xs.length≤cs.size∧∀ i (h:i < xs.length),cs[i]?=some (.int .i64 ((xs[i]:Nat):Int))
theorem RowI.set {cs:Array Value} {xs:List Nat} (h:RowI cs xs) (j x:Nat) (hj:j < xs.length):RowI (cs.setIfInBounds j (.int .i64 (x:Int))) (xs.set j x):=by
 refine ⟨by simpa using h.1,fun i hi=>?_⟩;rw [List.length_set] at hi;rw [set_at i (by have:=h.1;omega),List.getElem_set];by_cases hij:i=j
 ·rw [if_pos hij,if_pos hij.symm]
 ·rw [if_neg hij,if_neg (fun e=>hij e.symm)];exact h.2 i hi
def SortJ (w wr:World) (g:Nat) (xs:List Nat) (sz:Nat):Prop:=∃ cs ys,Blk wr g 3 cs∧cs.size=sz∧RowI cs ys∧ys.Perm xs∧Chg (fun k=>k=g) w wr
def RetSortJ (w:World) (g:Nat) (xs:List Nat) (sz:Nat) (e:Ending) (w':World):Prop:=e = .returned (.tuple #[])∧SortJ w w' g xs sz
theorem insertion_int (g n cap sz:Nat) (xs:List Nat) (w:World) (h:SortJ w w g xs sz) (hl:xs.length=n) (hn:n≤1000000) (hc:n≤cap) (hcm:cap≤9223372036854775807) :
  Calls Tryz.prog 382 #[.slice (some ⟨g,0,none⟩) n cap, .int .i64 0, .int .i64 (n:Int)] w (RetSortJ w g xs sz):=by
 have H0:=hid h;have HL:=hid hl;clear h hl;go_enter Tryz.func382,Tryz.ntmps382
 go_wp2;go_loopw [6] (fun i wr=>∃ (k:Nat),1≤k∧k≤n+1∧i = .int .i64 k∧Hid (SortJ w wr g xs sz)) (fun i _=>n+1 - (Go.RowKit.intOf i).toNat)
 case atStart=>exact ⟨1,oM,oM,rfl,H0⟩
 case round =>
  clear H0;obtain ⟨k,hk1,hk,rfl,H⟩:=hrel;by_cases hlt:k < n
  ·go_wp2
   go_loopw [7] (fun j wr=>∃ (q:Nat),q≤k∧j = .int .i64 q∧Hid (SortJ w wr g xs sz)) (fun j _=>(Go.RowKit.intOf j).toNat)
   case atStart=>exact ⟨k,nL _,rfl,H⟩
   case round =>
    clear H;obtain ⟨q,hq,rfl,H⟩:=hrel;by_cases hq0:q=0
    ·subst hq0
     have HB:=H.out;have H1:Hid (SortJ w wr.drew g xs sz):=by
      obtain ⟨cs,ys,h1,h2,h3,h4,h5⟩:=H.out;exact ⟨cs,ys,h1,h2,h3,h4,h5.drew⟩
     clear HB H;go_wp2;refine wp_region_script (fun w'=>w'=wr.drew) 14 [(true,0),(true,1),(true,2),(true,3),(true,4),(true,5),(true,6),(true,7),(true,8),(true,9),(true,10),(true,11),(true,12),(false,13)] (by kernel_rfl) (by kernel_rfl) rfl ?_;refine tkS (.int .i64 0) (fun w' hS=>?_) ?_
     ·go_simp
     simp only [zA,zB,Act.put,zD,zE,zF];refine tkS (.int .i64 0) (fun w' hS=>?_) ?_
     ·go_simp
     simp only [zA,zB,zC,Act.put,zD,zE,zF];refine tkS (.bool false) (fun w' hS=>?_) ?_
     ·go_simp
     simp only [zA,zB,zC,Act.put,zD,zE,zF];refine tkS (.bool false) (fun w' hS=>?_) ?_
     ·go_simp
     simp only [zA,zB,zC,Act.put,zD,zE,zF];refine wpScript_skip (by rfl) (by rfl) ?_;simp only [zA,zB,zC,Act.put,zD,zE,zF];refine wpScript_skip (by rfl) (by rfl) ?_;simp only [zA,zB,zC,Act.put,zD,zE,zF];refine wpScript_skip (by rfl) (by rfl) ?_;simp only [zA,zB,zC,Act.put,zD,zE,zF];refine wpScript_skip (by rfl) (by rfl) ?_;simp only [zA,zB,zC,Act.put,zD,zE,zF];refine wpScript_skip (by rfl) (by rfl) ?_;simp only [zA,zB,zC,Act.put,zD,zE,zF];refine wpScript_skip (by rfl) (by rfl) ?_;simp only [zA,zB,zC,Act.put,zD,zE,zF];refine wpScript_skip (by rfl) (by rfl) ?_;simp only [zA,zB,zC,Act.put,zD,zE,zF];refine wpScript_skip (by rfl) (by rfl) ?_;simp only [zA,zB,zC,Act.put,zD,zE,zF];refine wpScript_skip (by rfl) (by rfl) ?_;simp only [zA,zB,zC,Act.put,zD,zE,zF];refine wpScript_do (by rfl) ?_;go_wp2_with fail
     refine ⟨rfl,?_⟩;show wpList _ _ _ _ _ _;simp only [List.drop_succ_cons,List.drop_zero];go_wp2_with fail
     refine NoPanic.normal ?_;go_wp2;go_roundw
     case rel=>exact ⟨k+1,oM,oM,by go_num,H1⟩
     case measure=>simp [Go.RowKit.intOf];omega
    ·obtain ⟨q',rfl⟩:∃ q',q=q'+1:=⟨q - 1,oM⟩
     obtain ⟨cs,ys,h1,h2,h3,h4,h5⟩:=H.out;have hyl:ys.length=n:=by rw [h4.length_eq];exact HL.out
     have i1:q'+1 < ys.length:=oM;have i0:q' < ys.length:=oM;have c1:wr.cell? ⟨g,q'+1,none⟩=some (.int .i64 ((ys[q'+1]:Nat):Int)):=by rw [h1.cell];exact h3.2 _ i1
     have c0:wr.cell? ⟨g,q',none⟩=some (.int .i64 ((ys[q']:Nat):Int)):=by rw [h1.cell];exact h3.2 _ i0
     have HP:=hid (List.set_set_perm i1 i0);have HRW:=hid ((h3.set (q'+1) ys[q'] i1).set q' ys[q'+1] (by rw [List.length_set];exact i0));have z1:=h1.frozen (q'+1);have z0:=h1.frozen q';have HBk:=hid h1;have HSz:=hid h2;have HPm:=hid h4;have HCh:=hid h5;have HRo:=hid h3;generalize hx1:ys[q'+1]=x1 at *;generalize hx0:ys[q']=x0 at *;clear hx1 hx0 h1 h2 h3 h4 h5 H;have e1:(0:Int) < (q':Int)+1:=oM;have e2:(q':Int)+1 < (n:Int):=oM;have e3:(q':Int) < (n:Int):=oM;have e4:(0:Int)≤(q':Int):=oM;have e5:decide ((0:Int) < (q':Int)+1)=true:=dT;have e6:((q':Int)+1).toNat=q'+1:=oM;have e7:¬ ((q':Int)+1 < 0):=oM;have e8:IntKind.i64.wrap (q':Int)=(q':Int):=by rw [IntKind.wrap_i64];omega
     have e9:(0:Int)≤(q':Int)+1:=oM;go_wp2;refine wp_region_script (fun w'=>w'=wr.drew) 14 [(true,0),(true,1),(true,2),(true,3),(true,4),(true,5),(true,6),(true,7),(true,8),(true,9),(true,10),(true,11),(true,12),(false,13)] (by kernel_rfl) (by kernel_rfl) rfl ?_;refine tkS (.int .i64 ((q':Int)+1)) (fun w' hS=>?_) ?_
     ·go_simp
     simp only [zA,zB,Act.put,zD,zE,zF];refine tkS (.int .i64 0) (fun w' hS=>?_) ?_
     ·go_simp
     simp only [zA,zB,zC,Act.put,zD,zE,zF];refine tkS (.bool true) (fun w' hS=>?_) ?_
     ·go_simp
     simp only [zA,zB,zC,Act.put,zD,zE,zF];refine tkS (.bool true) (fun w' hS=>?_) ?_
     ·go_simp
     simp only [zA,zB,zC,Act.put,zD,zE,zF];refine tkS (.slice (some ⟨g,0,none⟩) n cap) (fun w' hS=>?_) ?_
     ·go_simp
     simp only [zA,zB,zC,Act.put,zD,zE,zF];refine tkS (.int .i64 ((q':Int)+1)) (fun w' hS=>?_) ?_
     ·go_simp
     simp only [zA,zB,zC,Act.put,zD,zE,zF];refine tkS (.pointer (some ⟨g,q'+1,none⟩)) (fun w' hS=>?_) ?_
     ·go_simp
     simp only [zA,zB,zC,Act.put,zD,zE,zF];refine tkS (.int .i64 (x1:Int)) (fun w' hS=>?_) ?_
     ·subst hS
      go_simp
     simp only [zA,zB,zC,Act.put,zD,zE,zF];refine tkS (.slice (some ⟨g,0,none⟩) n cap) (fun w' hS=>?_) ?_
     ·go_simp
     simp only [zA,zB,zC,Act.put,zD,zE,zF];refine tkS (.int .i64 ((q':Int)+1)) (fun w' hS=>?_) ?_
     ·go_simp
     simp only [zA,zB,zC,Act.put,zD,zE,zF];refine tkS (.int .i64 (q':Int)) (fun w' hS=>?_) ?_
     ·go_simp
     simp only [zA,zB,zC,Act.put,zD,zE,zF];refine tkS (.pointer (some ⟨g,q',none⟩)) (fun w' hS=>?_) ?_
     ·go_simp
     simp only [zA,zB,zC,Act.put,zD,zE,zF];refine tkS (.int .i64 (x0:Int)) (fun w' hS=>?_) ?_
     ·subst hS
      go_simp
     simp only [zA,zB,zC,Act.put,zD,zE,zF];refine wpScript_do (by rfl) ?_;go_wp2;refine ⟨rfl,?_⟩;show wpList _ _ _ _ _ _;simp only [List.drop_succ_cons,List.drop_zero];by_cases hx:x1 < x0
     ·have t1:decide ((x1:Int) < (x0:Int))=true:=dT
      have t2:decide (x1 < x0)=true:=decide_eq_true hx;go_wp2_with fail
      refine NoPanic.normal ?_;clear e5 t1 t2;go_wp2;have H1:Hid (SortJ w ((wr.setCell ⟨g,q'+1,none⟩ (.int .i64 (x0:Int))).setCell ⟨g,q',none⟩ (.int .i64 (x1:Int))).drew.drew g xs sz) :=
       ⟨(cs.setIfInBounds (q'+1) (.int .i64 (x0:Int))).setIfInBounds q' (.int .i64 (x1:Int)),(ys.set (q'+1) x0).set q' x1,(HBk.out.set_ (q'+1) _).set_ q' _,by have:=HSz.out;simpa using this,HRW.out,HP.out.trans HPm.out,((HCh.out.setCell (p:=⟨g,q'+1,none⟩) (.inl rfl) _).setCell (p:=⟨g,q',none⟩) (.inl rfl) _).drew.drew⟩
      go_region;go_wp2;exact ⟨⟨q',oM,rfl,H1⟩,by simp [Go.RowKit.intOf]⟩
     ·have t1:decide ((x1:Int) < (x0:Int))=false:=dF
      have t2:decide (x1 < x0)=false:=decide_eq_false hx;have H1:Hid (SortJ w wr.drew g xs sz):=⟨cs,ys,HBk.out,HSz.out,HRo.out,HPm.out,HCh.out.drew⟩
      go_wp2_with fail
      refine NoPanic.normal ?_;go_wp2;go_roundw
      case rel=>exact ⟨k+1,oM,oM,by go_num,H1⟩
      case measure=>simp [Go.RowKit.intOf];omega
  ·go_wp2
   go_end0;exact ⟨rfl,H.out⟩
theorem pdq_int (g n cap sz:Nat) (lim:Int) (xs:List Nat) (w:World) (h:SortJ w w g xs sz) (hl:xs.length=n) (hn:n≤12) (hc:n≤cap) (hcm:cap≤9223372036854775807) :
  Calls Tryz.prog 359 #[.slice (some ⟨g,0,none⟩) n cap, .int .i64 0, .int .i64 (n:Int), .int .i64 lim] w (RetSortJ w g xs sz):=by
 have HI:=hid (insertion_int g n cap sz xs w h hl oM hc hcm);have e1:decide ((n:Int)≤12)=true:=dT;have e2:decide (n≤12)=true:=decide_eq_true hn;clear h hl;go_enter Tryz.func359,Tryz.ntmps359
 go_wp2;refine wp_loop_rounds 1 ?_;rw [rounds_succ];go_wp2_with fail
 refine HI.out.mono ?_;rintro e w1 ⟨rfl,h1⟩;have H1:=hid h1;clear h1;go_wp2;go_end0;exact ⟨rfl,H1.out⟩
theorem row_ownJ {w:World} {base g m c:Nat} {cs:Array Value} {ys:List Nat} (hB:Blk w g 3 cs) (hb:base≤g) (hm:m≤c) (hc:c≤maxLen) (hs:cs.size=c) (hr:RowI cs ys) (hl:ys.length=m):w.ownsRow base 3 1 (.slice (some ⟨g,0,none⟩) m c) m (jCells ys):=by
 refine ⟨by simp [jCells,hl], .inr ⟨g,c,cs,rfl,hb,hB,hm,hc,oM,?_⟩⟩;apply List.ext_getElem?;intro i;by_cases hi:i < m
 ·rw [List.getElem?_take_of_lt oM,Array.getElem?_toList,hr.2 i oM]
  simp [jCells,hl ▸ hi]
 ·rw [List.getElem?_eq_none (by simp;omega),List.getElem?_eq_none (by simp [jCells];omega)]
theorem own_rowJ {w:World} {base g m c:Nat} {xs:List Nat} (h:w.ownsRow base 3 1 (.slice (some ⟨g,0,none⟩) m c) m (jCells xs)):∃ cur,Blk w g 3 cur∧cur.size=c∧RowI cur xs∧xs.length=m:=by
 have hl:xs.length=m:=by have:=h.1;simpa [jCells] using this
 rcases h.2 with ⟨hv,_⟩ | ⟨g',cap',cur,hv,hb,hh,h1,h2,h3,h4⟩
 ·cases hv
 ·simp only [Value.slice.injEq,Option.some.injEq,Addr.mk.injEq,and_true,true_and] at hv
  obtain ⟨rfl,rfl⟩:=hv;refine ⟨cur,hh,oM,⟨oM,fun i hi=>?_⟩,hl⟩;have h5:(cur.toList.take (m * 1))[i]?=(jCells xs)[i]?:=by rw [h4]
  rw [List.getElem?_take_of_lt oM] at h5;rw [← Array.getElem?_toList,h5];simp [jCells,hi]
theorem sort_int (g n cap sz:Nat) (xs:List Nat) (w:World) (h:SortJ w w g xs sz) (hl:xs.length=n) (hn:n≤12) (hc:n≤cap) (hcm:cap≤9223372036854775807) :
  Calls Tryz.prog 316 #[.slice (some ⟨g,0,none⟩) n cap] w (RetSortJ w g xs sz):=by
 have e1:IntKind.u64.wrap (n:Int)=(n:Int):=by rw [IntKind.wrap_u64];omega
 have HLn:=hid (len_any n w oM);have HP:=hid (pdq_int g n cap sz (Lib.bitLen n) xs w h hl hn hc hcm);generalize Lib.bitLen n=k at *;clear h hl;go_enter Tryz.func316,Tryz.ntmps316
 go_wp2_with (first
  | (go_at_call 109;refine HLn.out.mono ?_;rintro e w' ⟨rfl,rfl⟩)
  | (go_at_call 359;refine HP.out.mono ?_;rintro e w1 ⟨rfl,h1⟩;have H1:=hid h1;clear h1))
 go_end0;exact ⟨rfl,H1.out⟩
def RetN (w:World) (P:List Nat→Prop) (e:Ending) (w':World):Prop:=∃ A m c ys,e = .returned (.slice A m c)∧P ys∧m=ys.length∧w'.ownsRow w.heap.size 3 1 (.slice A m c) m (jCells ys)∧Below w.heap.size w w'
theorem sorted_int (g:Nat) (lb:Array Value) (eg:∀ args w,(callFunc g args).run Tryz.prog w = .ok (.enter g args) w)
  (ks:List Nat) (N:Nat) (hN:N≤12) (w:World) (hseq:SeqGives Fence.wide 9 Tryz.prog g lb encI (fun ss=>ss.Perm (ks.map Int.ofNat)) N w) :
  Calls Tryz.prog 238 #[.func (.func g) #[] lb] w (RetN w (fun ys=>ys.Perm ks)):=by
 have HC:=hid (collect_anyI g lb eg _ N oM w hseq.bounded);go_enter Tryz.func238,Tryz.ntmps238
 go_wp2_with (go_at_call 315;refine HC.out.mono ?_;rintro e W ⟨v,ss,rfl,⟨hS,hlen⟩,hrow,hnil,hb⟩;refine stop ?_)
 unfold Stop;obtain ⟨xs,rfl,hxs⟩:=perm_nat hS;rw [encI_cells,List.length_map] at hrow;rw [List.length_map] at hlen;rcases hrow.2 with ⟨rfl,hz⟩ | ⟨gb,cap,cur,rfl,hbase,hgb,r1,r2,r3,r4⟩
 ·have hss:xs=[]:=List.eq_nil_of_length_eq_zero hz
  subst hss;have HR:=hid hrow;have HB:=hid hb;have HP:=hid hxs;clear hrow hb hS hxs hnil HC hseq;go_wp2_with (go_at_call 316;refine (sort_nilI _).mono ?_;rintro e w1 ⟨rfl,rfl⟩)
  go_ret;exact ⟨none,0,0,[],rfl,HP.out,rfl,HR.out,HB.out⟩
 ·obtain ⟨cs,hB,hcs,hR,hl⟩:=own_rowJ hrow
  have hso:SortJ W W gb xs cap:=⟨cs,xs,hB,hcs,hR,List.Perm.refl _,Chg.refl _ _⟩
  have HS:=hid (sort_int gb xs.length cap cap xs W hso rfl oM r1 (by unfold maxLen at r2;omega));have HB:=hid hb;have HP:=hid hxs;have HF:Hid (w.heap.size≤gb∧xs.length≤cap∧cap≤maxLen):=hid ⟨hbase,r1,r2⟩;clear hrow hb hS hxs hnil HC hseq hB hcs hR hl hso r1 r2 r3 r4 hgb hbase;go_wp2_with (go_at_call 316;refine HS.out.mono ?_;rintro e w1 ⟨rfl,hs⟩;have HSo:=hid hs;clear hs)
  obtain ⟨cs1,ys,hB1,hz1,hR1,hp1,hc1⟩:=HSo.out;have hyl:=hp1.length_eq;have HO:=hid (row_ownJ (base:=w.heap.size) hB1 HF.out.1 HF.out.2.1 HF.out.2.2 hz1 hR1 hyl);have HB1:Hid (Below w.heap.size w w1):=hid (HB.out.trans (hc1.toBelow HB.out.size (fun k hk=>by rw [hk];exact HF.out.1)));have HP1:=hid (hp1.trans HP.out);have HL1:=hid hyl;clear hB1 hz1 hR1 hp1 hc1 hyl HSo HS HB HP;go_wp2;go_ret;exact ⟨_,_,_,ys,rfl,HP1.out,HL1.out.symm,HO.out,HB1.out⟩
end
section
open Go.RowKit Go.Maps
def FreeP (st:Nat→Nat) (n j:Nat) (z:Int):Prop:=(z = -1∧∀ i,j≤i→i < n→st i≠176)∨∃ i:Nat,z=(i:Int)∧j≤i∧i < n∧st i=176∧∀ i',j≤i'→i' < i→st i'≠176
theorem freeFrom_spec (V:Nat):∀ (n j:Nat),(freeFrom V n j=none∧∀ i,j≤i→i < j+n→bitAt V i=true)∨∃ i,freeFrom V n j=some i∧j≤i∧i < j+n∧bitAt V i=false∧∀ i',j≤i'→i' < i→bitAt V i'=true
 | 0,j => .inl ⟨rfl,fun i h1 h2=>oM⟩
 | n+1,j=>by
  cases hb:bitAt V j
  ·exact .inr ⟨j,by simp [freeFrom,hb],nL _,oM,hb,fun i' h1 h2=>oM⟩
  ·rcases freeFrom_spec V n (j+1) with ⟨h1,h2⟩ | ⟨i,h1,h2,h3,h4,h5⟩
   ·refine .inl ⟨by simp [freeFrom,hb,h1],fun i h3 h4=>?_⟩
    by_cases e:i=j
    ·rw [e];exact hb
    ·exact h2 i oM oM
   ·refine .inr ⟨i,by simp [freeFrom,hb,h1],oM,oM,h4,fun i' h6 h7=>?_⟩
    by_cases e:i'=j
    ·rw [e];exact hb
    ·exact h5 i' oM h7
theorem freeR_spec {cur:Nat→Nat} {ln cl g V:Nat} {bs:Nat→BK} (h:ChW cur ln cl g V bs) (j:Nat):∃ z:Int,freeR V cl j = .int .i64 z∧FreeP (fun i=>(bs i).st) (perC cl) j z:=by
 have hb:∀ i,i < perC cl→bitAt V i=true→(bs i).st≠176:=fun i hi hh=>by
  have:=h.bit i hi;rw [hh] at this;simpa using this.symm
 unfold freeR;rcases freeFrom_spec V (perC cl - j) j with ⟨h1,h2⟩ | ⟨i,h1,h2,h3,h4,h5⟩
 ·rw [h1]
  exact ⟨-1,rfl, .inl ⟨rfl,fun i hi hn=>hb i hn (h2 i hi oM)⟩⟩
 ·rw [h1]
  refine ⟨i,rfl, .inr ⟨i,rfl,h2,oM,?_,fun i' k1 k2=>hb i' oM (h5 i' k1 k2)⟩⟩;have:=h.bit i oM;rw [h4] at this;simpa using this.symm
section
variable {a:DA} {L T s n K:Nat} {x:HA} {cs:Nat→CS} {f:Nat→Option Nat} {N m b0:Nat} {S:Fp} {cur:Nat→Nat} {w w':World}
theorem DS.chw (h:DS a L T s n K x cs f N m b0 S cur w) {k:Nat} (hk:k < K) (hd:(cs k).dv=true):ChW cur (s+32 * k) (cs k).cl (cs k).g (cs k).V (cs k).bs:=by
 have:=h.ok k hk;unfold CSok at this;rw [hd] at this;exact this
def fptr (s:Nat) (cs:Nat→CS) (kind k i:Nat):Nat:=pMk (blkO (s+32 * k) (cs k).cl i) ((cs k).bs i).gen kind
def offO (s:Nat) (cs:Nat→CS) (k i:Nat):Nat:=blkO (s+32 * k) (cs k).cl i
def WithP (s:Nat) (cs:Nat→CS) (f:Nat→Option Nat) (kind k:Nat) (v:Value):Prop :=
 (v = .tuple #[.int .u64 0, .int .i64 5]∧∀ i,i < perC (cs k).cl→((cs k).bs i).st=176→f (offO s cs k i)≠none) ∨
 ∃ i,i < perC (cs k).cl∧((cs k).bs i).st=176∧f (offO s cs k i)=none∧v = .tuple #[.int .u64 (fptr s cs kind k i:Int), .int .i64 0]
def witM (n:Nat):Value→Nat
 | .int _ (.ofNat i)=>n - i
 | _=>0
theorem within_any (h:DS a L T s n K x cs f N m b0 S cur w) {k:Nat} (hk:k < K) (hd:(cs k).dv=true) (kind:Nat) (hk0:0 < kind) (hk8:kind < 128) :
  Calls Tryz.prog 348 #[.pointer (some ⟨x.h,0,none⟩), .int .i64 ((s+32 * k:Nat):Int), .int .u8 (kind:Int)] w fun e w'=>∃ v,e = .returned v∧WithP s cs f kind k v∧Below w.heap.size w w':=by
 have hC:=h.chw hk hd;have hL:=h.hL;have hln:=h.line hk;have HD:=hid h;have hper:=per_le (cs k).cl;have HOp:Hid (∀ W,Below w.heap.size w W→Calls Tryz.prog 195 #[memV a, .int .i64 ((s+32 * k:Nat):Int)] W fun e w'=>e = .returned (.tuple #[chV a (s+32 * k) (cs k).cl 0 (cs k).g, .int .i64 0])∧Below W.heap.size W w'):=hid (fun W hW=>chOpen_cls (h.dev.below hW) (h.tab.below hW) (h.pay.below hW) _ _ _ hln hC.cls hC.g0 hC.g1 hC.hdr);have HFr:Hid (∀ j W,Below w.heap.size w W→Calls Tryz.prog 380 #[chV a (s+32 * k) (cs k).cl 0 (cs k).g, .int .i64 ((j:Nat):Int)] W fun e w'=>∃ z:Int,e = .returned (.int .i64 z)∧FreeP (fun i=>((cs k).bs i).st) (perC (cs k).cl) j z∧Below W.heap.size W w'):=hid (fun j W hW=>by
  obtain ⟨z,h1,h2⟩:=freeR_spec hC j;refine (free_any (h.dev.below hW) (h.pay.below hW) _ _ _ _ j hln hC.cls hC.v64 hC.bits).mono ?_;rintro e w' ⟨rfl,hb⟩;exact ⟨z,by rw [h1],h2,hb⟩)
 have HPt:Hid (∀ i,i < perC (cs k).cl→((cs k).bs i).st=176→∀ W,Below w.heap.size w W→Calls Tryz.prog 210 #[chV a (s+32 * k) (cs k).cl 0 (cs k).g, .int .i64 (i:Int), .int .u8 (kind:Int)] W fun e w'=>e = .returned (.tuple #[.int .u64 (fptr s cs kind k i:Int), .int .i64 0])∧Below W.heap.size W w'):=hid (fun i hi hs W hW=>by
  have hki:kindOf ((cs k).bs i) kind=kind:=by unfold kindOf;rw [if_neg oM]
  have hg:=hC.good i hi;have hg0:0 < ((cs k).bs i).gen:=by unfold BK.good at hg;rw [if_pos hs] at hg;simp at hg;omega
  have hp:=pointer_any (h.dev.below hW) (h.tab.below hW) (h.pay.below hW) (s+32 * k) (cs k).cl (cs k).g (cs k).V i ((cs k).bs i) (hC.inn i hi) hg (.inl hs) (hC.bit i hi) hln hC.cls hi hC.v64 hC.bits (hC.word i hi) kind (by rw [hki];exact hk0) (by rw [hki];exact hk8) oM hg0;rw [hki] at hp;exact hp)
 have HOf:Hid (∀ i,i < perC (cs k).cl→∀ W,Calls Tryz.prog 135 #[.int .u64 (fptr s cs kind k i:Int)] W fun e w'=>e = .returned (.int .u64 (offO s cs k i:Int))∧W=w'):=hid (fun i hi W=>by
  have ho:=off_lt hi;have h1:pOff (fptr s cs kind k i)=offO s cs k i:=pMk_off (by unfold blkO;omega) (by unfold blkO;omega);have h2:=off_any (fptr s cs kind k i) W;rw [h1] at h2;exact h2)
 have HOl:Hid (∀ i,i < perC (cs k).cl→offO s cs k i < 18446744073709551616):=hid (fun i hi=>by have:=off_lt hi;unfold offO blkO;omega);have HEr:Hid (∀ W,Below w.heap.size w W→Calls Tryz.prog 112 #[.pointer (some ⟨a.th 0,0,none⟩)] W fun e w'=>e = .returned (.int .i64 0)∧W=w'):=hid (fun W hW=>thErr (h.dev.below hW));have hm:=methErr (some ⟨a.th 0,0,none⟩);have HB0:Hid (Below w.heap.size w w):=Below.refl _ _;clear h hC hL hln hd;have HWn:Hid (∀ v,WithP s cs f kind k v=WithP s cs f kind k v):=hid (fun v=>rfl);have hx0:w.cell? ⟨x.h,0,none⟩=some (memV a):=HD.out.hs.heap.cell 0;generalize hln:s+32 * k=ln at *;generalize hcl:(cs k).cl=cl at *;generalize hcg:(cs k).g=cg at *;have HE:=hid (show s+32 * k=ln∧(cs k).cl=cl∧(cs k).g=cg from ⟨hln,hcl,hcg⟩);clear hln hcl hcg;unfold chV at *;unfold memV at *;go_enter Tryz.func348,Tryz.ntmps348
 go_wp2_with fail
 refine (HOp.out _ HB0.out).mono ?_;rintro e w1 ⟨rfl,hb1⟩;have HB1:=hid (hb1.alloc hb1.size (.cells #[.iface 58 (.pointer (some ⟨a.th 0,0,none⟩)), .int .i64 (ln:Int), .int .i64 (cl:Int), .int .i64 0, .int .u16 (cg:Int)] 306));have HK1:=hid (Blk.new w1 306 #[.iface 58 (.pointer (some ⟨a.th 0,0,none⟩)), .int .i64 (ln:Int), .int .i64 (cl:Int), .int .i64 0, .int .u16 (cg:Int)]);have HLc:=hid hb1.size;clear hb1 HOp HB0;go_wp2_with fail
 refine (HFr.out 0 _ HB1.out).mono ?_;rintro e w2 ⟨z0,rfl,hz0,hb2⟩;have HB2:=hid (HB1.out.trans (hb2.mono HB1.out.size));have HK2:=hid (HK1.out.below hb2 HK1.out.lt);have HZ0:=hid hz0;have HI2:Hid (Below w2.heap.size w2 w2):=Below.refl _ _;clear hb2 hz0 HB1 HK1 hx0;go_wp2;go_loopw [10] (fun v wr=>∃ (j:Nat) (z:Int),v = .int .i64 z∧Hid (FreeP (fun i=>((cs k).bs i).st) (perC cl) j z)∧Hid (∀ i,i < j→i < perC cl→((cs k).bs i).st=176→f (offO s cs k i)≠none)∧Hid (Below w2.heap.size w2 wr)) (fun v _=>witM (perC cl) v)
 case atStart=>exact ⟨0,z0,rfl,HZ0,hid (fun i hi=>oM),HI2⟩
 case round =>
  clear HZ0 HI2;obtain ⟨j,z,rfl,HZ,HA,H⟩:=hrel;have HBr:=hid (HB2.out.trans (H.out.mono HB2.out.size));have HKr:=hid (HK2.out.below H.out HK2.out.lt);have hc0:wr.cell? ⟨w1.heap.size,0,none⟩=some (.iface 58 (.pointer (some ⟨a.th 0,0,none⟩))):=HKr.out.cell 0;have hc1:wr.cell? ⟨w1.heap.size,1,none⟩=some (.int .i64 (ln:Int)):=HKr.out.cell 1;have hc2:wr.cell? ⟨w1.heap.size,2,none⟩=some (.int .i64 (cl:Int)):=HKr.out.cell 2;have hc3:wr.cell? ⟨w1.heap.size,3,none⟩=some (.int .i64 0):=HKr.out.cell 3;have hc4:wr.cell? ⟨w1.heap.size,4,none⟩=some (.int .u16 (cg:Int)):=HKr.out.cell 4;have hx0:wr.cell? ⟨x.h,0,none⟩=some (.iface 58 (.pointer (some ⟨a.th 0,0,none⟩))):=((HD.out.hs.heap.below HBr.out HD.out.hs.heap.lt).cell 0)
  rcases HZ.out with ⟨rfl,hno⟩ | ⟨i,rfl,hji,hi,hst,hmin⟩
  ·have HNo:Hid (∀ i,i < perC cl→((cs k).bs i).st=176→f (offO s cs k i)≠none):=hid (fun i hi hs=>by
    by_cases hij:i < j
    ·exact HA.out i hij hi hs
    ·exact absurd hs (hno i oM hi))
   have HEr2:=hid (HEr.out wr HBr.out);clear hno HA HZ HFr HPt hc0 hc1 hc2 hc3 hc4;go_wp2_with (go_at_call 112;refine HEr2.out.mono ?_;rintro e w3 ⟨rfl,rfl⟩)
   go_ret2;refine ⟨_,rfl, .inl ⟨rfl,?_⟩,HBr.out⟩;obtain ⟨_,h2,_⟩:=HE.out;rw [h2];exact HNo.out
  ·have HP2:=hid (HPt.out i hi hst wr HBr.out)
   have HO2:=hid (HOf.out i hi);have HI:=hid (show i < perC cl∧((cs k).bs i).st=176∧offO s cs k i < 18446744073709551616 from ⟨hi,hst,HOl.out i hi⟩);have hz5:decide ((0:Int)≤(i:Int))=true:=dT;have hz6:(0:Int)≤(i:Int):=oM;have hz7:(i:Int)≤62:=oM;have HM:=hid (show j≤i∧∀ i',j≤i'→i' < i→((cs k).bs i').st≠176 from ⟨hji,hmin⟩);clear hi hst hji hmin HZ;generalize hfp:fptr s cs kind k i=fp at *;have HFP:=hid hfp;clear hfp;go_wp2_with fail
   refine HP2.out.mono ?_;rintro e w3 ⟨rfl,hb3⟩;have HB3:=hid (HBr.out.trans (hb3.mono HBr.out.size));have HB23:=hid (H.out.trans (hb3.mono H.out.size));have HK3:=hid (HKr.out.below hb3 HKr.out.lt);have HEr3:=hid (HEr.out w3 HB3.out);have hx0:w3.cell? ⟨x.h,0,none⟩=some (.iface 58 (.pointer (some ⟨a.th 0,0,none⟩))):=((HD.out.hs.heap.below HB3.out HD.out.hs.heap.lt).cell 0)
   clear hb3 hc0 hc1 hc2 hc3 hc4 HP2 HPt;have hx4:w3.cell? ⟨x.h,4,none⟩=some (.map (some x.mr)):=((HD.out.hs.heap.below HB3.out HD.out.hs.heap.lt).cell 4)
   have hlk:=(HD.out.hs.res.chg ((Chg.of_below (S:=Fp.no) HB3.out).drew) (fun h=>h)).look HI.out.2.2;generalize hof:offO s cs k i=o at *;have HOE:=hid hof;clear hof;go_wp2_with (go_at_call 112;refine HEr3.out.mono ?_;rintro e w4 ⟨rfl,rfl⟩)
   cases hf:f o with
   | none =>
    rw [hf] at hlk;have hlk2:(Instr.lookup 190 (.map (some x.mr)) (.int .u64 (o:Int)) true).run Tryz.prog w3.drew = .ok (.tuple #[.int .u64 0, .bool false]) w3.drew:=hlk;have HF:=hid hf;clear hlk hf;go_region_with (go_at_call 135;refine (HO2.out _).mono ?_;rintro e w4 ⟨rfl,rfl⟩)
    all_goals
     go_wp2;go_ret2;refine ⟨_,rfl, .inr ⟨i,?_,HI.out.2.1,by rw [HOE.out];exact HF.out,by rw [HFP.out];rfl⟩,HB3.out.drew⟩;obtain ⟨_,h2,_⟩:=HE.out;rw [h2];exact HI.out.1
   | some q =>
    rw [hf] at hlk;have hlk2:(Instr.lookup 190 (.map (some x.mr)) (.int .u64 (o:Int)) true).run Tryz.prog w3.drew = .ok (.tuple #[.int .u64 (q:Int), .bool true]) w3.drew:=hlk;have HA2:Hid (∀ i',i' < i+1→i' < perC cl→((cs k).bs i').st=176→f (offO s cs k i')≠none):=hid (fun i' h1 h2 h3=>by
     by_cases e1:i' < j
     ·exact HA.out i' e1 h2 h3
     ·by_cases e2:i'=i
      ·subst e2
       rw [HOE.out,hf];intro h;cases h
      ·exact absurd h3 (HM.out.2 i' oM oM))
    have hc0:w3.cell? ⟨w1.heap.size,0,none⟩=some (.iface 58 (.pointer (some ⟨a.th 0,0,none⟩))):=HK3.out.cell 0;have hc1:w3.cell? ⟨w1.heap.size,1,none⟩=some (.int .i64 (ln:Int)):=HK3.out.cell 1;have hc2:w3.cell? ⟨w1.heap.size,2,none⟩=some (.int .i64 (cl:Int)):=HK3.out.cell 2;have hc3:w3.cell? ⟨w1.heap.size,3,none⟩=some (.int .i64 0):=HK3.out.cell 3;have hc4:w3.cell? ⟨w1.heap.size,4,none⟩=some (.int .u16 (cg:Int)):=HK3.out.cell 4;have HB3d:=hid HB3.out.drew;have HFn:=hid (HFr.out (i+1) w3.drew HB3d.out);have ei:((i+1:Nat):Int)=(i:Int)+1:=oM;rw [ei] at HFn;clear hlk hf HA HM ei;go_region_with (go_at_call 135;refine (HO2.out _).mono ?_;rintro e w4 ⟨rfl,rfl⟩)
    all_goals
     go_wp2_with (go_at_call 380;refine HFn.out.mono ?_;rintro e w5 ⟨z5,rfl,hz5,hb5⟩;have HZ5:=hid hz5;have HB5:=hid (HB23.out.drew.trans (hb5.mono HB23.out.size));clear hz5 hb5)
     have HMe:Hid (witM (perC cl) (.int .i64 z5) < witM (perC cl) (.int .i64 (i:Int))):=hid (by
      have hi:=HI.out.1;rcases HZ5.out with ⟨rfl,_⟩ | ⟨i2,rfl,h1,h2,_⟩
      ·show 0 < perC cl - i;omega
      ·show perC cl - i2 < perC cl - i;omega)
     go_roundw
     case rel =>
      first
       | exact ⟨i+1,z5,rfl,HZ5,HA2,HB5⟩
       | (
         repeat apply Exists.intro
         refine ⟨?_,rfl⟩;exact ⟨i+1,z5,rfl,HZ5,HA2,HB5⟩)
     case measure=>exact HMe.out
end
end
end Go.Proofs.YtfkjjoglnmeciaaGreatDoor
