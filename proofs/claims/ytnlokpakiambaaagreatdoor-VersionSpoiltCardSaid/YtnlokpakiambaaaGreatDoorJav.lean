/- The walks and laws that the claim leans on, part 22. -/
import Derived.Test.YtnlokpakiambaaaGreatDoorJap
import Derived.Test.YtnlokpakiambaaaGreatDoorJat
set_option maxRecDepth 100000
set_option maxHeartbeats 16000000
namespace Go.Proofs.YtnlokpakiambaaaGreatDoor
open Go.Lib (hid)
section
open Go.RowKit
theorem pick_any {a:DA} {s K:Nat} {x:PA} {cs:Nat→CS} {w:World} (h:Plc a s K x cs w) (_hK:K≤128) (_hs:s≤100000) (hf:∃ k,k < K∧(cs k).dv=false) :
  Calls Tryz.prog 307 #[.pointer (some ⟨x.gs,0,none⟩)] w fun e w'=>∃ k,k < K∧(cs k).dv=false∧e = .returned (.tuple #[.pointer (some ⟨x.pl,x.po+k * 4,none⟩), .int .i64 0])∧w=w':=by
 obtain ⟨c,_,f1⟩:=h.sets
 have HP:=hid h
 have HF:=hid hf
 clear h hf
 obtain ⟨gs,pl,po⟩:=x
 dsimp only at *
 go_enter Tryz.func307,Tryz.ntmps307
 go_wp2
 go_loopw [15] (fun i wr=>∃ (k:Nat),k≤K∧i = .int .i64 k∧Hid (∀ j,j < k→(cs j).dv=true)∧w=wr) (fun i _=>K - (RowKit.intOf i).toNat)
 case atStart=>exact ⟨0,Nat.zero_le _,rfl,hid (fun j hj=>by omega),rfl⟩
 case round =>
  obtain ⟨k,hk,rfl,HA,rfl⟩:=hrel
  by_cases hlt:k < K
  ·obtain ⟨f0,f2,f3,b4,f4⟩:=HP.out.facts (k:=k) hlt
   dsimp only at f0 f2 f3 f4
   have hz5:(0:Int)≤(k:Int):=by omega
   have hz6:(k:Int) < (K:Int):=by omega
   unfold CS.cls at f2
   by_cases hd:(cs k).dv=true
   ·rw [if_pos hd] at f2
    have hq:decide (((cs k).cl:Int) < 0)=false:=decide_eq_false (by omega)
    have HA2:Hid (∀ j,j < k+1→(cs j).dv=true):=hid (fun j hj=>by
     by_cases e:j=k
     ·rw [e];exact hd
     ·exact HA.out j (by omega))
    generalize (cs k).cl=v at *
    clear hd HA
    go_wp2
    go_roundw
    case rel =>
     first
      | exact ⟨k+1,by omega,by go_num,HA2,trivial⟩
      | exact ⟨k+1,by omega,by go_num,HA2,rfl⟩
      | (
        repeat apply Exists.intro
        refine ⟨?_,rfl⟩
        exact ⟨k+1,by omega,by go_num,HA2,rfl⟩)
    case measure=>simp [RowKit.intOf];omega
   ·rw [if_neg hd] at f2
    have HD:Hid ((cs k).dv=false):=hid (by simpa using hd)
    clear hd HA
    go_wp2
    go_ret2
    exact ⟨k,hlt,HD.out,rfl,rfl⟩
  ·exfalso
   obtain ⟨k0,h1,h2⟩:=HF.out
   have:=HA.out k0 (by omega)
   rw [h2] at this
   cases this
end
section
open Go.RowKit Go.Maps Go.Sort Go.Shelf
def jCells (xs:List Nat):List Value:=xs.map fun x:Nat=>Value.int .i64 (x:Int)
theorem encI_cells (xs:List Nat):(xs.map Int.ofNat).map encI=jCells xs:=by simp [jCells,encI,Function.comp_def]
theorem perm_nat {ss:List Int} {ks:List Nat} (h:ss.Perm (ks.map Int.ofNat)):∃ xs:List Nat,ss=xs.map Int.ofNat∧xs.Perm ks:=by
 refine ⟨ss.map Int.toNat,?_,?_⟩
 ·rw [List.map_map]
  symm
  refine (List.map_congr_left (g:=id) ?_).trans (List.map_id ss)
  intro a ha
  obtain ⟨k,_,rfl⟩:=List.mem_map.1 (h.mem_iff.1 ha)
  rfl
 ·have h2:=h.map Int.toNat
  rw [List.map_map] at h2
  have e:(Int.toNat ∘ Int.ofNat)=id:=by funext x;rfl
  rwa [e,List.map_id] at h2
def RowI (cs:Array Value) (xs:List Nat):Prop:=xs.length≤cs.size∧∀ i (h:i < xs.length),cs[i]?=some (.int .i64 ((xs[i]:Nat):Int))
theorem RowI.set {cs:Array Value} {xs:List Nat} (h:RowI cs xs) (j x:Nat) (hj:j < xs.length):RowI (cs.setIfInBounds j (.int .i64 (x:Int))) (xs.set j x):=by
 refine ⟨by simpa using h.1,fun i hi=>?_⟩
 rw [List.length_set] at hi
 rw [set_at i (by have:=h.1;omega),List.getElem_set]
 by_cases hij:i=j
 ·rw [if_pos hij,if_pos hij.symm]
 ·rw [if_neg hij,if_neg (fun e=>hij e.symm)];exact h.2 i hi
def SortJ (w wr:World) (g:Nat) (xs:List Nat) (sz:Nat):Prop:=∃ cs ys,Blk wr g 3 cs∧cs.size=sz∧RowI cs ys∧ys.Perm xs∧Chg (fun k=>k=g) w wr
def RetSortJ (w:World) (g:Nat) (xs:List Nat) (sz:Nat) (e:Ending) (w':World):Prop:=e = .returned (.tuple #[])∧SortJ w w' g xs sz
theorem insertion_int (g n cap sz:Nat) (xs:List Nat) (w:World) (h:SortJ w w g xs sz) (hl:xs.length=n) (hn:n≤1000000) (hc:n≤cap) (hcm:cap≤9223372036854775807) :
  Calls Tryz.prog 240 #[.slice (some ⟨g,0,none⟩) n cap, .int .i64 0, .int .i64 (n:Int)] w (RetSortJ w g xs sz):=by
 have H0:=hid h
 have HL:=hid hl
 clear h hl
 go_enter Tryz.func240,Tryz.ntmps240
 go_wp2
 go_loopw [6] (fun i wr=>∃ (k:Nat),1≤k∧k≤n+1∧i = .int .i64 k∧Hid (SortJ w wr g xs sz)) (fun i _=>n+1 - (Go.RowKit.intOf i).toNat)
 case atStart=>exact ⟨1,by omega,by omega,rfl,H0⟩
 case round =>
  clear H0
  obtain ⟨k,hk1,hk,rfl,H⟩:=hrel
  by_cases hlt:k < n
  ·go_wp2
   go_loopw [7] (fun j wr=>∃ (q:Nat),q≤k∧j = .int .i64 q∧Hid (SortJ w wr g xs sz)) (fun j _=>(Go.RowKit.intOf j).toNat)
   case atStart=>exact ⟨k,Nat.le_refl _,rfl,H⟩
   case round =>
    clear H
    obtain ⟨q,hq,rfl,H⟩:=hrel
    by_cases hq0:q=0
    ·subst hq0
     have HB:=H.out
     have H1:Hid (SortJ w wr.drew g xs sz):=by
      obtain ⟨cs,ys,h1,h2,h3,h4,h5⟩:=H.out
      exact ⟨cs,ys,h1,h2,h3,h4,h5.drew⟩
     clear HB H
     go_wp2
     refine wp_region_script (fun w'=>w'=wr.drew) 14 [(true,0),(true,1),(true,2),(true,3),(true,4),(true,5),(true,6),(true,7),(true,8),(true,9),(true,10),(true,11),(true,12),(false,13)] (by kernel_rfl) (by kernel_rfl) rfl ?_
     refine wpScript_take (.int .i64 0) (by rfl) (by rfl) (fun w' hS=>?_) ?_
     ·go_simp
     simp only [zA,zB,Act.put,zD,zE,zF]
     refine wpScript_take (.int .i64 0) (by rfl) (by rfl) (fun w' hS=>?_) ?_
     ·go_simp
     simp only [zA,zB,zC,Act.put,zD,zE,zF]
     refine wpScript_take (.bool false) (by rfl) (by rfl) (fun w' hS=>?_) ?_
     ·go_simp
     simp only [zA,zB,zC,Act.put,zD,zE,zF]
     refine wpScript_take (.bool false) (by rfl) (by rfl) (fun w' hS=>?_) ?_
     ·go_simp
     simp only [zA,zB,zC,Act.put,zD,zE,zF]
     refine wpScript_skip (by rfl) (by rfl) ?_
     simp only [zA,zB,zC,Act.put,zD,zE,zF]
     refine wpScript_skip (by rfl) (by rfl) ?_
     simp only [zA,zB,zC,Act.put,zD,zE,zF]
     refine wpScript_skip (by rfl) (by rfl) ?_
     simp only [zA,zB,zC,Act.put,zD,zE,zF]
     refine wpScript_skip (by rfl) (by rfl) ?_
     simp only [zA,zB,zC,Act.put,zD,zE,zF]
     refine wpScript_skip (by rfl) (by rfl) ?_
     simp only [zA,zB,zC,Act.put,zD,zE,zF]
     refine wpScript_skip (by rfl) (by rfl) ?_
     simp only [zA,zB,zC,Act.put,zD,zE,zF]
     refine wpScript_skip (by rfl) (by rfl) ?_
     simp only [zA,zB,zC,Act.put,zD,zE,zF]
     refine wpScript_skip (by rfl) (by rfl) ?_
     simp only [zA,zB,zC,Act.put,zD,zE,zF]
     refine wpScript_skip (by rfl) (by rfl) ?_
     simp only [zA,zB,zC,Act.put,zD,zE,zF]
     refine wpScript_do (by rfl) ?_
     go_wp2_with fail
     refine ⟨rfl,?_⟩
     show wpList _ _ _ _ _ _
     simp only [List.drop_succ_cons,List.drop_zero]
     go_wp2_with fail
     refine NoPanic.normal ?_
     go_wp2
     go_roundw
     case rel=>exact ⟨k+1,by omega,by omega,by go_num,H1⟩
     case measure=>simp [Go.RowKit.intOf];omega
    ·obtain ⟨q',rfl⟩:∃ q',q=q'+1:=⟨q - 1,by omega⟩
     obtain ⟨cs,ys,h1,h2,h3,h4,h5⟩:=H.out
     have hyl:ys.length=n:=by rw [h4.length_eq];exact HL.out
     have i1:q'+1 < ys.length:=by omega
     have i0:q' < ys.length:=by omega
     have c1:wr.cell? ⟨g,q'+1,none⟩=some (.int .i64 ((ys[q'+1]:Nat):Int)):=by rw [h1.cell];exact h3.2 _ i1
     have c0:wr.cell? ⟨g,q',none⟩=some (.int .i64 ((ys[q']:Nat):Int)):=by rw [h1.cell];exact h3.2 _ i0
     have HP:=hid (List.set_set_perm i1 i0)
     have HRW:=hid ((h3.set (q'+1) ys[q'] i1).set q' ys[q'+1] (by rw [List.length_set];exact i0))
     have z1:=h1.frozen (q'+1)
     have z0:=h1.frozen q'
     have HBk:=hid h1
     have HSz:=hid h2
     have HPm:=hid h4
     have HCh:=hid h5
     have HRo:=hid h3
     generalize hx1:ys[q'+1]=x1 at *
     generalize hx0:ys[q']=x0 at *
     clear hx1 hx0 h1 h2 h3 h4 h5 H
     have e1:(0:Int) < (q':Int)+1:=by omega
     have e2:(q':Int)+1 < (n:Int):=by omega
     have e3:(q':Int) < (n:Int):=by omega
     have e4:(0:Int)≤(q':Int):=by omega
     have e5:decide ((0:Int) < (q':Int)+1)=true:=decide_eq_true (by omega)
     have e6:((q':Int)+1).toNat=q'+1:=by omega
     have e7:¬ ((q':Int)+1 < 0):=by omega
     have e8:IntKind.i64.wrap (q':Int)=(q':Int):=by rw [IntKind.wrap_i64];omega
     have e9:(0:Int)≤(q':Int)+1:=by omega
     go_wp2
     refine wp_region_script (fun w'=>w'=wr.drew) 14 [(true,0),(true,1),(true,2),(true,3),(true,4),(true,5),(true,6),(true,7),(true,8),(true,9),(true,10),(true,11),(true,12),(false,13)] (by kernel_rfl) (by kernel_rfl) rfl ?_
     refine wpScript_take (.int .i64 ((q':Int)+1)) (by rfl) (by rfl) (fun w' hS=>?_) ?_
     ·go_simp
     simp only [zA,zB,Act.put,zD,zE,zF]
     refine wpScript_take (.int .i64 0) (by rfl) (by rfl) (fun w' hS=>?_) ?_
     ·go_simp
     simp only [zA,zB,zC,Act.put,zD,zE,zF]
     refine wpScript_take (.bool true) (by rfl) (by rfl) (fun w' hS=>?_) ?_
     ·go_simp
     simp only [zA,zB,zC,Act.put,zD,zE,zF]
     refine wpScript_take (.bool true) (by rfl) (by rfl) (fun w' hS=>?_) ?_
     ·go_simp
     simp only [zA,zB,zC,Act.put,zD,zE,zF]
     refine wpScript_take (.slice (some ⟨g,0,none⟩) n cap) (by rfl) (by rfl) (fun w' hS=>?_) ?_
     ·go_simp
     simp only [zA,zB,zC,Act.put,zD,zE,zF]
     refine wpScript_take (.int .i64 ((q':Int)+1)) (by rfl) (by rfl) (fun w' hS=>?_) ?_
     ·go_simp
     simp only [zA,zB,zC,Act.put,zD,zE,zF]
     refine wpScript_take (.pointer (some ⟨g,q'+1,none⟩)) (by rfl) (by rfl) (fun w' hS=>?_) ?_
     ·go_simp
     simp only [zA,zB,zC,Act.put,zD,zE,zF]
     refine wpScript_take (.int .i64 (x1:Int)) (by rfl) (by rfl) (fun w' hS=>?_) ?_
     ·subst hS
      go_simp
     simp only [zA,zB,zC,Act.put,zD,zE,zF]
     refine wpScript_take (.slice (some ⟨g,0,none⟩) n cap) (by rfl) (by rfl) (fun w' hS=>?_) ?_
     ·go_simp
     simp only [zA,zB,zC,Act.put,zD,zE,zF]
     refine wpScript_take (.int .i64 ((q':Int)+1)) (by rfl) (by rfl) (fun w' hS=>?_) ?_
     ·go_simp
     simp only [zA,zB,zC,Act.put,zD,zE,zF]
     refine wpScript_take (.int .i64 (q':Int)) (by rfl) (by rfl) (fun w' hS=>?_) ?_
     ·go_simp
     simp only [zA,zB,zC,Act.put,zD,zE,zF]
     refine wpScript_take (.pointer (some ⟨g,q',none⟩)) (by rfl) (by rfl) (fun w' hS=>?_) ?_
     ·go_simp
     simp only [zA,zB,zC,Act.put,zD,zE,zF]
     refine wpScript_take (.int .i64 (x0:Int)) (by rfl) (by rfl) (fun w' hS=>?_) ?_
     ·subst hS
      go_simp
     simp only [zA,zB,zC,Act.put,zD,zE,zF]
     refine wpScript_do (by rfl) ?_
     go_wp2
     refine ⟨rfl,?_⟩
     show wpList _ _ _ _ _ _
     simp only [List.drop_succ_cons,List.drop_zero]
     by_cases hx:x1 < x0
     ·have t1:decide ((x1:Int) < (x0:Int))=true:=decide_eq_true (by omega)
      have t2:decide (x1 < x0)=true:=decide_eq_true hx
      go_wp2_with fail
      refine NoPanic.normal ?_
      clear e5 t1 t2
      go_wp2
      have H1:Hid (SortJ w ((wr.setCell ⟨g,q'+1,none⟩ (.int .i64 (x0:Int))).setCell ⟨g,q',none⟩ (.int .i64 (x1:Int))).drew.drew g xs sz) :=
       ⟨(cs.setIfInBounds (q'+1) (.int .i64 (x0:Int))).setIfInBounds q' (.int .i64 (x1:Int)),(ys.set (q'+1) x0).set q' x1,(HBk.out.set_ (q'+1) _).set_ q' _,by have:=HSz.out;simpa using this,HRW.out,HP.out.trans HPm.out,((HCh.out.setCell (p:=⟨g,q'+1,none⟩) (.inl rfl) _).setCell (p:=⟨g,q',none⟩) (.inl rfl) _).drew.drew⟩
      go_region
      go_wp2
      exact ⟨⟨q',by omega,rfl,H1⟩,by simp [Go.RowKit.intOf]⟩
     ·have t1:decide ((x1:Int) < (x0:Int))=false:=decide_eq_false (by omega)
      have t2:decide (x1 < x0)=false:=decide_eq_false hx
      have H1:Hid (SortJ w wr.drew g xs sz):=⟨cs,ys,HBk.out,HSz.out,HRo.out,HPm.out,HCh.out.drew⟩
      go_wp2_with fail
      refine NoPanic.normal ?_
      go_wp2
      go_roundw
      case rel=>exact ⟨k+1,by omega,by omega,by go_num,H1⟩
      case measure=>simp [Go.RowKit.intOf];omega
  ·go_wp2
   go_end0
   exact ⟨rfl,H.out⟩
theorem pdq_int (g n cap sz:Nat) (lim:Int) (xs:List Nat) (w:World) (h:SortJ w w g xs sz) (hl:xs.length=n) (hn:n≤12) (hc:n≤cap) (hcm:cap≤9223372036854775807) :
  Calls Tryz.prog 216 #[.slice (some ⟨g,0,none⟩) n cap, .int .i64 0, .int .i64 (n:Int), .int .i64 lim] w (RetSortJ w g xs sz):=by
 have HI:=hid (insertion_int g n cap sz xs w h hl (by omega) hc hcm)
 have e1:decide ((n:Int)≤12)=true:=decide_eq_true (by omega)
 have e2:decide (n≤12)=true:=decide_eq_true hn
 clear h hl
 go_enter Tryz.func216,Tryz.ntmps216
 go_wp2
 refine wp_loop_rounds 1 ?_
 rw [rounds_succ]
 go_wp2_with fail
 refine HI.out.mono ?_
 rintro e w1 ⟨rfl,h1⟩
 have H1:=hid h1
 clear h1
 go_wp2
 go_end0
 exact ⟨rfl,H1.out⟩
theorem row_ownJ {w:World} {base g m c:Nat} {cs:Array Value} {ys:List Nat} (hB:Blk w g 3 cs) (hb:base≤g) (hm:m≤c) (hc:c≤maxLen) (hs:cs.size=c) (hr:RowI cs ys) (hl:ys.length=m):w.ownsRow base 3 1 (.slice (some ⟨g,0,none⟩) m c) m (jCells ys):=by
 refine ⟨by simp [jCells,hl], .inr ⟨g,c,cs,rfl,hb,hB,hm,hc,by omega,?_⟩⟩
 apply List.ext_getElem?
 intro i
 by_cases hi:i < m
 ·rw [List.getElem?_take_of_lt (by omega),Array.getElem?_toList,hr.2 i (by omega)]
  simp [jCells,hl ▸ hi]
 ·rw [List.getElem?_eq_none (by simp;omega),List.getElem?_eq_none (by simp [jCells];omega)]
theorem own_rowJ {w:World} {base g m c:Nat} {xs:List Nat} (h:w.ownsRow base 3 1 (.slice (some ⟨g,0,none⟩) m c) m (jCells xs)):∃ cur,Blk w g 3 cur∧cur.size=c∧RowI cur xs∧xs.length=m:=by
 have hl:xs.length=m:=by have:=h.1;simpa [jCells] using this
 rcases h.2 with ⟨hv,_⟩ | ⟨g',cap',cur,hv,hb,hh,h1,h2,h3,h4⟩
 ·cases hv
 ·simp only [Value.slice.injEq,Option.some.injEq,Addr.mk.injEq,and_true,true_and] at hv
  obtain ⟨rfl,rfl⟩:=hv
  refine ⟨cur,hh,by omega,⟨by omega,fun i hi=>?_⟩,hl⟩
  have h5:(cur.toList.take (m * 1))[i]?=(jCells xs)[i]?:=by rw [h4]
  rw [List.getElem?_take_of_lt (by omega)] at h5
  rw [← Array.getElem?_toList,h5]
  simp [jCells,hi]
theorem sort_int (g n cap sz:Nat) (xs:List Nat) (w:World) (h:SortJ w w g xs sz) (hl:xs.length=n) (hn:n≤12) (hc:n≤cap) (hcm:cap≤9223372036854775807) :
  Calls Tryz.prog 168 #[.slice (some ⟨g,0,none⟩) n cap] w (RetSortJ w g xs sz):=by
 have e1:IntKind.u64.wrap (n:Int)=(n:Int):=by rw [IntKind.wrap_u64];omega
 have HLn:=hid (len_any n w (by omega))
 have HP:=hid (pdq_int g n cap sz (Lib.bitLen n) xs w h hl hn hc hcm)
 generalize Lib.bitLen n=k at *
 clear h hl
 go_enter Tryz.func168,Tryz.ntmps168
 go_wp2_with (first
  | (go_at_call 136;refine HLn.out.mono ?_;rintro e w' ⟨rfl,rfl⟩)
  | (go_at_call 216;refine HP.out.mono ?_;rintro e w1 ⟨rfl,h1⟩;have H1:=hid h1;clear h1))
 go_end0
 exact ⟨rfl,H1.out⟩
def RetN (w:World) (P:List Nat→Prop) (e:Ending) (w':World):Prop:=∃ A m c ys,e = .returned (.slice A m c)∧P ys∧m=ys.length∧w'.ownsRow w.heap.size 3 1 (.slice A m c) m (jCells ys)∧Below w.heap.size w w'
theorem sorted_int (g:Nat) (lb:Array Value) (eg:∀ args w,(callFunc g args).run Tryz.prog w = .ok (.enter g args) w)
  (ks:List Nat) (N:Nat) (hN:N≤12) (w:World) (hseq:SeqGives Fence.wide 9 Tryz.prog g lb encI (fun ss=>ss.Perm (ks.map Int.ofNat)) N w) :
  Calls Tryz.prog 131 #[.func (.func g) #[] lb] w (RetN w (fun ys=>ys.Perm ks)):=by
 have HC:=hid (collect_anyI g lb eg _ N (by omega) w hseq.bounded)
 go_enter Tryz.func131,Tryz.ntmps131
 go_wp2_with (go_at_call 167;refine HC.out.mono ?_;rintro e W ⟨v,ss,rfl,⟨hS,hlen⟩,hrow,hnil,hb⟩;refine stop ?_)
 unfold Stop
 obtain ⟨xs,rfl,hxs⟩:=perm_nat hS
 rw [encI_cells,List.length_map] at hrow
 rw [List.length_map] at hlen
 rcases hrow.2 with ⟨rfl,hz⟩ | ⟨gb,cap,cur,rfl,hbase,hgb,r1,r2,r3,r4⟩
 ·have hss:xs=[]:=List.eq_nil_of_length_eq_zero hz
  subst hss
  have HR:=hid hrow
  have HB:=hid hb
  have HP:=hid hxs
  clear hrow hb hS hxs hnil HC hseq
  go_wp2_with (go_at_call 168;refine (sort_nilI _).mono ?_;rintro e w1 ⟨rfl,rfl⟩)
  go_ret
  exact ⟨none,0,0,[],rfl,HP.out,rfl,HR.out,HB.out⟩
 ·obtain ⟨cs,hB,hcs,hR,hl⟩:=own_rowJ hrow
  have hso:SortJ W W gb xs cap:=⟨cs,xs,hB,hcs,hR,List.Perm.refl _,Chg.refl _ _⟩
  have HS:=hid (sort_int gb xs.length cap cap xs W hso rfl (by omega) r1 (by unfold maxLen at r2;omega))
  have HB:=hid hb
  have HP:=hid hxs
  have HF:Hid (w.heap.size≤gb∧xs.length≤cap∧cap≤maxLen):=hid ⟨hbase,r1,r2⟩
  clear hrow hb hS hxs hnil HC hseq hB hcs hR hl hso r1 r2 r3 r4 hgb hbase
  go_wp2_with (go_at_call 168;refine HS.out.mono ?_;rintro e w1 ⟨rfl,hs⟩;have HSo:=hid hs;clear hs)
  obtain ⟨cs1,ys,hB1,hz1,hR1,hp1,hc1⟩:=HSo.out
  have hyl:=hp1.length_eq
  have HO:=hid (row_ownJ (base:=w.heap.size) hB1 HF.out.1 HF.out.2.1 HF.out.2.2 hz1 hR1 hyl)
  have HB1:Hid (Below w.heap.size w w1):=hid (HB.out.trans (hc1.toBelow HB.out.size (fun k hk=>by rw [hk];exact HF.out.1)))
  have HP1:=hid (hp1.trans HP.out)
  have HL1:=hid hyl
  clear hB1 hz1 hR1 hp1 hc1 hyl HSo HS HB HP
  go_wp2
  go_ret
  exact ⟨_,_,_,ys,rfl,HP1.out,HL1.out.symm,HO.out,HB1.out⟩
end
end Go.Proofs.YtnlokpakiambaaaGreatDoor
