/- The walks and laws that the claim leans on, part 27. -/
import Derived.Test.YtfkjjoglnmeciaaGreatDoorJau
import Derived.Test.YtfkjjoglnmeciaaGreatDoorJay
set_option maxRecDepth 100000
set_option maxHeartbeats 16000000
namespace Go.Proofs.YtfkjjoglnmeciaaGreatDoor
open Go.Lib (hid)
section
open Go.RowKit
def RetBpt (w:World) (l:List Nat) (rest:Nat) (e:Ending) (w':World):Prop:=if partE l rest=0 then RetB w (partB l rest) e w' else e = .returned (.tuple #[.slice none 0 0, .int .i64 (partE l rest:Int)])∧Below w.heap.size w w'
theorem part_any (A:Option Addr) (n c rest:Nat) (l:List Nat) (w:World) (h:Reads w w.heap.size 1 A n (uCells l)) (hx:∀ x∈l,x < 18446744073709551616) (ht:Tab w) (hn:n≤60) (hc:n≤c) (_hc2:c≤1000) (hu:usedW rest < n) (hr:rest≤2000) :
  Calls Tryz.prog 223 #[.slice A n c, .int .i64 (rest:Int)] w (RetBpt w l rest):=by
 have hl0:l.length=n:=by have:=h.1;simp [uCells] at this;omega
 obtain ⟨j,hj⟩:∃ j,n=j+1:=⟨n - 1,by omega⟩
 subst hj
 obtain ⟨hlj,b,off,hA,hbB,f0⟩:=u_facts h (k:=j) (by omega)
 subst hA
 obtain ⟨hlz,b',off',hA',_,g0⟩:=u_facts h (k:=0) (by omega)
 injection hA' with hA'
 injection hA' with h1 h2
 subst h1 h2
 rw [Nat.add_zero] at g0
 have hS:=reads_sub h (k:=0) (m:=j) (by omega) (by omega) (by omega)
 rw [List.drop_zero,Nat.add_zero,Nat.sub_zero] at hS
 have hxs:∀ x∈l.take j,x < 18446744073709551616:=fun x hx'=>hx x (List.mem_of_mem_take hx')
 have HWd:=hid (wordsX_any (some ⟨b,off,none⟩) j c w.heap.size (l.take j) w.drew hS hxs (by omega) ht)
 have hsl:=sumW_lt (l.take j)
 have HE:Hid (partE l rest=if l[j]≠sumW (l.take j) then 10 else if decide (456 < rest)≠decide (l[0]≠0) then 11 else if ((l.take j).drop (usedW rest)).any (fun x=>decide (x≠0))=true then 11 else if unpBad ((l.take (usedW rest)).drop 2) (min rest 456)=true then 11 else 0):=hid (by
  unfold partE
  have e1:l.getD (l.length - 1) 0=l[j]:=by rw [hl0,Nat.add_sub_cancel,List.getD_eq_getElem?_getD,List.getElem?_eq_getElem hlj];rfl
  have e2:l.getD 0 0=l[0]:=by rw [List.getD_eq_getElem?_getD,List.getElem?_eq_getElem hlz];rfl
  rw [e1,e2,hl0,Nat.add_sub_cancel])
 have HX:=hid hx
 have HH:=hid h
 have hxj:=hx _ (List.getElem_mem hlj)
 have hx0:=hx _ (List.getElem_mem hlz)
 have HL:=hid hl0
 clear h hx hS hxs hl0
 generalize l[j]=xj at *
 generalize l[0]=x0 at *
 generalize hsm:sumW (l.take j)=sm at *
 have HSm:=hid hsm
 clear hsm
 have w1:wrap64 (((j+1:Nat):Int) - 1)=(j:Int):=by rw [IntWalk.wrap64_in _ (by omega)];omega
 have w2:((j+1:Nat):Int) - 1=(j:Int):=by omega
 have w3:(j:Int) < ((j+1:Nat):Int):=by omega
 have w4:(0:Int)≤(j:Int):=by omega
 have w5:(j:Int)≤(c:Int):=by omega
 have w6:(0:Int) < ((j+1:Nat):Int):=by omega
 have w7:((0:Nat):Int) < ((j+1:Nat):Int):=by omega
 generalize hN:j+1=n at *
 have HN:=hid hN
 clear hN
 go_enter Tryz.func223,Tryz.ntmps223
 go_upto_region 2 with fail
 refine wp_region_scriptH (fun w'=>w'=w.drew) 9 [] [(1,0),(1,1),(1,2),(1,3),(1,4),(1,5),(1,6),(0,7),(0,8)] (by kernel_rfl) (by kernel_rfl) rfl ?_
 refine wpScriptH_take (.slice (some ⟨b,off,none⟩) n c) (by rfl) (by rfl) (fun w' hS=>?_) ?_
 ·go_simp
 simp only [zA,zB,Act.put,zD,zE,zF]
 refine wpScriptH_take (.int .i64 (j:Int)) (by rfl) (by rfl) (fun w' hS=>?_) ?_
 ·go_simp
 simp only [zA,zB,zC,Act.put,zD,zE,zF]
 refine wpScriptH_take (.pointer (some ⟨b,off+j,none⟩)) (by rfl) (by rfl) (fun w' hS=>?_) ?_
 ·go_simp
 simp only [zA,zB,zC,Act.put,zD,zE,zF]
 refine wpScriptH_take (.int .u64 (xj:Int)) (by rfl) (by rfl) (fun w' hS=>?_) ?_
 ·subst hS
  go_simp
 simp only [zA,zB,zC,Act.put,zD,zE,zF]
 refine wpScriptH_take (.slice (some ⟨b,off,none⟩) n c) (by rfl) (by rfl) (fun w' hS=>?_) ?_
 ·go_simp
 simp only [zA,zB,zC,Act.put,zD,zE,zF]
 refine wpScriptH_take (.int .i64 (j:Int)) (by rfl) (by rfl) (fun w' hS=>?_) ?_
 ·go_simp
 simp only [zA,zB,zC,Act.put,zD,zE,zF]
 refine wpScriptH_take (.slice (some ⟨b,off,none⟩) j c) (by rfl) (by rfl) (fun w' hS=>?_) ?_
 ·go_simp
 simp only [zA,zB,zC,Act.put,zD,zE,zF]
 refine wpScriptH_do (by rfl) ?_
 go_wp2_with (go_at_call 249;refine HWd.out.mono ?_;rintro e w1 ⟨rfl,rfl⟩)
 refine ⟨rfl,?_⟩
 refine wpScriptH_do (by rfl) ?_
 go_wp2_with fail
 refine ⟨rfl,?_⟩
 show wpList _ _ _ _ _ _
 simp only [List.drop_succ_cons,List.drop_zero]
 clear HWd
 by_cases c1:xj=sm
 ·have d1:((xj:Int) != (sm:Int))=false:=by rw [bne,beq_iff_eq.2 (by omega)];rfl
  have HC1:=hid c1
  clear c1
  by_cases c2:decide (456 < rest)=decide (x0≠0)
  ·have d2:(decide ((456:Int) < (rest:Int)) == ((x0:Int) != 0))=true:=by
    have e1:decide ((456:Int) < (rest:Int))=decide (456 < rest):=by
     by_cases h:456 < rest
     ·rw [decide_eq_true h,decide_eq_true (by omega)]
     ·rw [decide_eq_false h,decide_eq_false (by omega)]
    have e2:((x0:Int) != 0)=decide (x0≠0):=by
     by_cases h:x0=0
     ·subst h;rfl
     ·rw [decide_eq_true h,bne,beq_eq_false_iff_ne.2 (by omega)];rfl
    rw [e1,e2,c2];exact beq_self_eq_true _
   have HC2:=hid c2
   clear c2
   obtain ⟨nn,hnn⟩:∃ nn,min rest 456=nn:=⟨_,rfl⟩
   have m1:min (rest:Int) 456=(nn:Int):=by omega
   obtain ⟨u9,hu9⟩:∃ u9,usedW rest=u9:=⟨_,rfl⟩
   have hu1:u9=2+(nn+7) / 8:=by rw [← hu9,← hnn];rfl
   have hnn4:nn≤456:=by omega
   have hnn0:(0:Int)≤(nn:Int):=by omega
   have v1:(2:Int)+((nn:Int)+8 - 1) / 8=(u9:Int):=by omega
   have v2:wrap64 (2+((nn:Int)+8 - 1) / 8)=(u9:Int):=by rw [v1];exact IntWalk.wrap64_in _ (by omega)
   have hu7:u9≤j:=by omega
   have v3:(u9:Int)≤(j:Int):=by omega
   have HU9:=hid hu9
   have HNN:=hid hnn
   have HU1:=hid hu1
   clear hu9 hu1 m1
   go_wp2_with fail
   refine NoPanic.normal ?_
   go_upto_region 4 with fail
   go_upto_region 6 with fail
   go_cut [7] from 31 to 32 (fun x wx=>x = .int .i64 (nn:Int)∧Hid (wx=w.drew))
   case first =>
    rcases Nat.lt_or_ge 456 rest with hc4 | hc4
    ·have hn4:nn=456:=by omega
     subst hn4
     have k1:decide ((456:Int) < (rest:Int))=true:=decide_eq_true (by omega)
     have k2:decide ((rest:Int) < 456)=false:=decide_eq_false (by omega)
     have k3:(456:Int)≤(rest:Int):=by omega
     clear hnn
     go_wp2_with fail
     go_meet
     exact ⟨rfl,hid rfl⟩
    ·have hn4:rest=nn:=by omega
     subst hn4
     have k1:decide ((456:Int) < (rest:Int))=false:=decide_eq_false (by omega)
     have k3:(rest:Int)≤456:=by omega
     clear hnn
     go_wp2_with fail
     go_meet
     exact ⟨rfl,hid rfl⟩
   case rest =>
    obtain ⟨rfl,hwc⟩:=hcut
    have hw:=hwc.out
    subst hw
    clear hwc
    go_upto_region 7 with fail
    go_cut [8] from 33 to 37 (fun y wx=>y = .int .i64 (u9:Int)∧Hid (wx=w.drew))
    case first =>
     go_wp2_with fail
     go_meet
     exact ⟨rfl,hid rfl⟩
    case rest =>
     obtain ⟨rfl,hwc⟩:=hcut
     have hw:=hwc.out
     subst hw
     clear hwc v1 v2
     go_wp2
     go_loopw [43] (fun i wr=>∃ k:Nat,k≤j - u9∧i = .int .i64 (k:Int)∧Hid (((((l.take j).drop u9).take k).any fun x=>decide (x≠0))=false)∧Hid (w.drew=wr)) (fun i _=>(j - u9) - (Go.RowKit.intOf i).toNat)
     case atStart=>exact ⟨0,Nat.zero_le _,rfl,hid (by simp),hid rfl⟩
     case round =>
      obtain ⟨k,hk,rfl,HA,hwr⟩:=hrel
      have hw:=hwr.out
      subst hw
      by_cases hlt:k < j - u9
      ·obtain ⟨hlk,b2,off2,hA2,_,fk⟩:=u_facts HH.out (k:=u9+k) (by have:=HN.out;omega)
       injection hA2 with hA2
       injection hA2 with h1 h2
       subst h1 h2
       have hel:((l.take j).drop u9)[k]?=some l[u9+k]:=by rw [List.getElem?_drop,List.getElem?_take_of_lt (by omega),List.getElem?_eq_getElem hlk]
       have HT:Hid (((l.take j).drop u9).take (k+1)=((l.take j).drop u9).take k++[l[u9+k]]):=hid (by rw [List.take_add_one,hel];rfl)
       have HEl:=hid hel
       have hxk:=HX.out _ (List.getElem_mem hlk)
       rw [← Nat.add_assoc] at fk
       generalize l[u9+k]=xk at *
       have hz5:(0:Int)≤(k:Int):=by omega
       have hz6:(k:Int) < ((j - u9:Nat):Int):=by omega
       have hz7:(k:Int) < (j:Int) - (u9:Int):=by omega
       clear hel
       by_cases hx0:xk=0
       ·have d3:((xk:Int) != 0)=false:=by rw [bne,beq_iff_eq.2 (by omega)];rfl
        have HA2:Hid (((((l.take j).drop u9).take (k+1)).any fun x=>decide (x≠0))=false):=hid (by rw [HT.out,List.any_append,HA.out];simp [hx0])
        clear hx0 HT HEl
        go_wp2
        go_roundw
        case rel =>
         first
          | exact ⟨k+1,by omega,by go_num,HA2,hid True.intro⟩
          | exact ⟨k+1,by omega,by go_num,HA2,hid rfl⟩
          | (
            repeat apply Exists.intro
            refine ⟨?_,rfl⟩
            exact ⟨k+1,by omega,by go_num,HA2,hid rfl⟩)
        case measure=>simp [Go.RowKit.intOf];omega
       ·have d3:((xk:Int) != 0)=true:=by rw [bne,beq_eq_false_iff_ne.2 (by omega)];rfl
        have hE:Hid (partE l rest=11):=hid (by
         rw [HE.out,if_neg (fun h=>h HC1.out),if_neg (fun h=>h HC2.out),if_pos]
         rw [HU9.out,List.any_eq_true]
         exact ⟨xk,List.mem_of_getElem? HEl.out,by simp [hx0]⟩)
        clear hx0 HT HEl
        go_wp2
        go_ret2
        unfold RetBpt
        rw [hE.out,if_neg (by omega)]
        exact ⟨rfl,(Below.refl _ _).drew⟩
      ·have hA3:Hid ((((l.take j).drop (usedW rest)).any fun x=>decide (x≠0))=false):=hid (by
        have h:=HA.out
        rw [List.take_of_length_le (by rw [List.length_drop,List.length_take];omega)] at h
        rw [HU9.out]
        exact h)
       have hS2:=reads_sub HH.out (k:=2) (m:=u9) (by have:=HU1.out;omega) (by have:=HN.out;omega) (by omega)
       have HUp:=hid (unpack_any (some ⟨b,off+2,none⟩) (u9 - 2) (c - 2) nn ((l.take u9).drop 2) w.drew ((hS2.below (Below.refl _ _).drew)) (fun x hx=>HX.out x (List.mem_of_mem_take (List.mem_of_mem_drop hx))) (by omega) (by have:=HU1.out;omega))
       have hu2:2≤u9:=by have:=HU1.out;omega
       have v4:(2:Int)≤(u9:Int):=by omega
       have v5:(u9:Int)≤(c:Int):=by omega
       have hd1:decide ((k:Int) < ((j - u9:Nat):Int))=false:=decide_eq_false (by omega)
       have hd2:decide (k < j - u9)=false:=decide_eq_false hlt
       have hd3:decide ((k:Int) < (j:Int) - (u9:Int))=false:=decide_eq_false (by omega)
       have hpE:Hid (partE l rest=if unpBad ((l.take u9).drop 2) nn=true then 11 else 0):=hid (by
        rw [HE.out,if_neg (fun h=>h HC1.out),if_neg (fun h=>h HC2.out),if_neg (by rw [hA3.out];simp),HU9.out,HNN.out])
       have hpB:Hid (partB l rest=unpB ((l.take u9).drop 2) nn):=hid (by unfold partB;rw [HU9.out,HNN.out])
       clear hS2 hlt hA3 hk HE HA
       generalize (l.take u9).drop 2=xs at *
       by_cases hub:unpBad xs nn=true
       ·have HU2:Hid (Calls Tryz.prog 309 #[.slice (some ⟨b,off+2,none⟩) (u9 - 2) (c - 2), .int .i64 (nn:Int)] w.drew fun e w'=>e = .returned (.tuple #[.slice none 0 0, .int .i64 11])∧Below w.heap.size w w'):=hid (HUp.out.mono (fun e w' h=>by unfold RetUnp at h;rw [if_pos hub] at h;exact ⟨h.1,(Below.refl _ _).drew.trans h.2⟩))
        have hE:Hid (partE l rest=11):=hid (by rw [hpE.out,if_pos hub])
        clear HUp hub
        go_wp2_with (go_at_call 309;refine HU2.out.mono ?_;rintro e w2 ⟨rfl,hb2⟩;have HB2:=hid hb2;clear hb2)
        go_ret2
        unfold RetBpt
        rw [hE.out,if_neg (by omega)]
        exact ⟨rfl,HB2.out⟩
       ·have HU2:Hid (Calls Tryz.prog 309 #[.slice (some ⟨b,off+2,none⟩) (u9 - 2) (c - 2), .int .i64 (nn:Int)] w.drew (RetB w.drew (unpB xs nn))):=hid (HUp.out.mono (fun e w' h=>by unfold RetUnp at h;rw [if_neg hub] at h;exact h))
        have hE:Hid (partE l rest=0):=hid (by rw [hpE.out,if_neg hub])
        clear HUp hub
        go_wp2_with (go_at_call 309;refine HU2.out.mono ?_;rintro e w2 ⟨A2,m2,c2,rfl,hm2,hr2,hf2,hb2⟩;have HB2:=hid (show _∧_∧_∧_ from ⟨hm2,hr2,hf2,hb2⟩);clear hm2 hr2 hf2 hb2)
        go_ret2
        unfold RetBpt
        rw [hE.out,if_pos rfl,hpB.out]
        exact ⟨A2,m2,c2,rfl,HB2.out.1,HB2.out.2.1,HB2.out.2.2.1,(Below.refl _ _).drew.trans HB2.out.2.2.2⟩
  ·have d2:(decide ((456:Int) < (rest:Int)) == ((x0:Int) != 0))=false:=by
    have e1:decide ((456:Int) < (rest:Int))=decide (456 < rest):=by
     by_cases h:456 < rest
     ·rw [decide_eq_true h,decide_eq_true (by omega)]
     ·rw [decide_eq_false h,decide_eq_false (by omega)]
    have e2:((x0:Int) != 0)=decide (x0≠0):=by
     by_cases h:x0=0
     ·subst h;rfl
     ·rw [decide_eq_true h,bne,beq_eq_false_iff_ne.2 (by omega)];rfl
    rw [e1,e2];exact beq_eq_false_iff_ne.2 c2
   have HC2:=hid c2
   clear c2
   go_wp2
   refine NoPanic.normal ?_
   go_wp2
   go_ret2
   have hE:partE l rest=11:=by rw [HE.out,if_neg (fun h=>h HC1.out),if_pos HC2.out]
   unfold RetBpt
   rw [hE,if_neg (by omega)]
   exact ⟨rfl,(Below.refl _ _).drew⟩
 ·have d1:((xj:Int) != (sm:Int))=true:=by rw [bne,beq_eq_false_iff_ne.2 (by omega)];rfl
  have HC1:=hid c1
  clear c1
  go_wp2
  refine NoPanic.normal ?_
  go_wp2
  go_ret2
  have hE:partE l rest=10:=by rw [HE.out,if_pos HC1.out]
  unfold RetBpt
  rw [hE,if_neg (by omega)]
  exact ⟨rfl,(Below.refl _ _).drew⟩
end
section
open Go.RowKit Go.Maps Go.Sort Go.Shelf
def jCells (xs:List Nat):List Value:=xs.map fun x:Nat=>Value.int .i64 (x:Int)
theorem encI_cells (xs:List Nat):(xs.map Int.ofNat).map encI=jCells xs:=by simp [jCells,encI,Function.comp_def]
theorem perm_nat {ss:List Int} {ks:List Nat} (h:ss.Perm (ks.map Int.ofNat)):∃ xs:List Nat,ss=xs.map Int.ofNat∧xs.Perm ks:=by
 refine ⟨ss.map Int.toNat,?_,?_⟩
 ·rw [List.map_map]
  symm
  refine (List.map_congr_left (g:=id) ?_).trans (List.map_id ss)
  intro a ha
  obtain ⟨k,_,rfl⟩:=List.mem_map.1 (h.mem_iff.1 ha)
  rfl
 ·have h2:=h.map Int.toNat
  rw [List.map_map] at h2
  have e:(Int.toNat ∘ Int.ofNat)=id:=by funext x;rfl
  rwa [e,List.map_id] at h2
def RowI (cs:Array Value) (xs:List Nat):Prop:=xs.length≤cs.size∧∀ i (h:i < xs.length),cs[i]?=some (.int .i64 ((xs[i]:Nat):Int))
theorem RowI.set {cs:Array Value} {xs:List Nat} (h:RowI cs xs) (j x:Nat) (hj:j < xs.length):RowI (cs.setIfInBounds j (.int .i64 (x:Int))) (xs.set j x):=by
 refine ⟨by simpa using h.1,fun i hi=>?_⟩
 rw [List.length_set] at hi
 rw [set_at i (by have:=h.1;omega),List.getElem_set]
 by_cases hij:i=j
 ·rw [if_pos hij,if_pos hij.symm]
 ·rw [if_neg hij,if_neg (fun e=>hij e.symm)];exact h.2 i hi
def SortJ (w wr:World) (g:Nat) (xs:List Nat) (sz:Nat):Prop:=∃ cs ys,Blk wr g 3 cs∧cs.size=sz∧RowI cs ys∧ys.Perm xs∧Chg (fun k=>k=g) w wr
def RetSortJ (w:World) (g:Nat) (xs:List Nat) (sz:Nat) (e:Ending) (w':World):Prop:=e = .returned (.tuple #[])∧SortJ w w' g xs sz
theorem insertion_int (g n cap sz:Nat) (xs:List Nat) (w:World) (h:SortJ w w g xs sz) (hl:xs.length=n) (hn:n≤1000000) (hc:n≤cap) (hcm:cap≤9223372036854775807) :
  Calls Tryz.prog 382 #[.slice (some ⟨g,0,none⟩) n cap, .int .i64 0, .int .i64 (n:Int)] w (RetSortJ w g xs sz):=by
 have H0:=hid h
 have HL:=hid hl
 clear h hl
 go_enter Tryz.func382,Tryz.ntmps382
 go_wp2
 go_loopw [6] (fun i wr=>∃ (k:Nat),1≤k∧k≤n+1∧i = .int .i64 k∧Hid (SortJ w wr g xs sz)) (fun i _=>n+1 - (Go.RowKit.intOf i).toNat)
 case atStart=>exact ⟨1,by omega,by omega,rfl,H0⟩
 case round =>
  clear H0
  obtain ⟨k,hk1,hk,rfl,H⟩:=hrel
  by_cases hlt:k < n
  ·go_wp2
   go_loopw [7] (fun j wr=>∃ (q:Nat),q≤k∧j = .int .i64 q∧Hid (SortJ w wr g xs sz)) (fun j _=>(Go.RowKit.intOf j).toNat)
   case atStart=>exact ⟨k,Nat.le_refl _,rfl,H⟩
   case round =>
    clear H
    obtain ⟨q,hq,rfl,H⟩:=hrel
    by_cases hq0:q=0
    ·subst hq0
     have HB:=H.out
     have H1:Hid (SortJ w wr.drew g xs sz):=by
      obtain ⟨cs,ys,h1,h2,h3,h4,h5⟩:=H.out
      exact ⟨cs,ys,h1,h2,h3,h4,h5.drew⟩
     clear HB H
     go_wp2
     refine wp_region_script (fun w'=>w'=wr.drew) 14 [(true,0),(true,1),(true,2),(true,3),(true,4),(true,5),(true,6),(true,7),(true,8),(true,9),(true,10),(true,11),(true,12),(false,13)] (by kernel_rfl) (by kernel_rfl) rfl ?_
     refine wpScript_take (.int .i64 0) (by rfl) (by rfl) (fun w' hS=>?_) ?_
     ·go_simp
     simp only [zA,zB,Act.put,zD,zE,zF]
     refine wpScript_take (.int .i64 0) (by rfl) (by rfl) (fun w' hS=>?_) ?_
     ·go_simp
     simp only [zA,zB,zC,Act.put,zD,zE,zF]
     refine wpScript_take (.bool false) (by rfl) (by rfl) (fun w' hS=>?_) ?_
     ·go_simp
     simp only [zA,zB,zC,Act.put,zD,zE,zF]
     refine wpScript_take (.bool false) (by rfl) (by rfl) (fun w' hS=>?_) ?_
     ·go_simp
     simp only [zA,zB,zC,Act.put,zD,zE,zF]
     refine wpScript_skip (by rfl) (by rfl) ?_
     simp only [zA,zB,zC,Act.put,zD,zE,zF]
     refine wpScript_skip (by rfl) (by rfl) ?_
     simp only [zA,zB,zC,Act.put,zD,zE,zF]
     refine wpScript_skip (by rfl) (by rfl) ?_
     simp only [zA,zB,zC,Act.put,zD,zE,zF]
     refine wpScript_skip (by rfl) (by rfl) ?_
     simp only [zA,zB,zC,Act.put,zD,zE,zF]
     refine wpScript_skip (by rfl) (by rfl) ?_
     simp only [zA,zB,zC,Act.put,zD,zE,zF]
     refine wpScript_skip (by rfl) (by rfl) ?_
     simp only [zA,zB,zC,Act.put,zD,zE,zF]
     refine wpScript_skip (by rfl) (by rfl) ?_
     simp only [zA,zB,zC,Act.put,zD,zE,zF]
     refine wpScript_skip (by rfl) (by rfl) ?_
     simp only [zA,zB,zC,Act.put,zD,zE,zF]
     refine wpScript_skip (by rfl) (by rfl) ?_
     simp only [zA,zB,zC,Act.put,zD,zE,zF]
     refine wpScript_do (by rfl) ?_
     go_wp2_with fail
     refine ⟨rfl,?_⟩
     show wpList _ _ _ _ _ _
     simp only [List.drop_succ_cons,List.drop_zero]
     go_wp2_with fail
     refine NoPanic.normal ?_
     go_wp2
     go_roundw
     case rel=>exact ⟨k+1,by omega,by omega,by go_num,H1⟩
     case measure=>simp [Go.RowKit.intOf];omega
    ·obtain ⟨q',rfl⟩:∃ q',q=q'+1:=⟨q - 1,by omega⟩
     obtain ⟨cs,ys,h1,h2,h3,h4,h5⟩:=H.out
     have hyl:ys.length=n:=by rw [h4.length_eq];exact HL.out
     have i1:q'+1 < ys.length:=by omega
     have i0:q' < ys.length:=by omega
     have c1:wr.cell? ⟨g,q'+1,none⟩=some (.int .i64 ((ys[q'+1]:Nat):Int)):=by rw [h1.cell];exact h3.2 _ i1
     have c0:wr.cell? ⟨g,q',none⟩=some (.int .i64 ((ys[q']:Nat):Int)):=by rw [h1.cell];exact h3.2 _ i0
     have HP:=hid (List.set_set_perm i1 i0)
     have HRW:=hid ((h3.set (q'+1) ys[q'] i1).set q' ys[q'+1] (by rw [List.length_set];exact i0))
     have z1:=h1.frozen (q'+1)
     have z0:=h1.frozen q'
     have HBk:=hid h1
     have HSz:=hid h2
     have HPm:=hid h4
     have HCh:=hid h5
     have HRo:=hid h3
     generalize hx1:ys[q'+1]=x1 at *
     generalize hx0:ys[q']=x0 at *
     clear hx1 hx0 h1 h2 h3 h4 h5 H
     have e1:(0:Int) < (q':Int)+1:=by omega
     have e2:(q':Int)+1 < (n:Int):=by omega
     have e3:(q':Int) < (n:Int):=by omega
     have e4:(0:Int)≤(q':Int):=by omega
     have e5:decide ((0:Int) < (q':Int)+1)=true:=decide_eq_true (by omega)
     have e6:((q':Int)+1).toNat=q'+1:=by omega
     have e7:¬ ((q':Int)+1 < 0):=by omega
     have e8:IntKind.i64.wrap (q':Int)=(q':Int):=by rw [IntKind.wrap_i64];omega
     have e9:(0:Int)≤(q':Int)+1:=by omega
     go_wp2
     refine wp_region_script (fun w'=>w'=wr.drew) 14 [(true,0),(true,1),(true,2),(true,3),(true,4),(true,5),(true,6),(true,7),(true,8),(true,9),(true,10),(true,11),(true,12),(false,13)] (by kernel_rfl) (by kernel_rfl) rfl ?_
     refine wpScript_take (.int .i64 ((q':Int)+1)) (by rfl) (by rfl) (fun w' hS=>?_) ?_
     ·go_simp
     simp only [zA,zB,Act.put,zD,zE,zF]
     refine wpScript_take (.int .i64 0) (by rfl) (by rfl) (fun w' hS=>?_) ?_
     ·go_simp
     simp only [zA,zB,zC,Act.put,zD,zE,zF]
     refine wpScript_take (.bool true) (by rfl) (by rfl) (fun w' hS=>?_) ?_
     ·go_simp
     simp only [zA,zB,zC,Act.put,zD,zE,zF]
     refine wpScript_take (.bool true) (by rfl) (by rfl) (fun w' hS=>?_) ?_
     ·go_simp
     simp only [zA,zB,zC,Act.put,zD,zE,zF]
     refine wpScript_take (.slice (some ⟨g,0,none⟩) n cap) (by rfl) (by rfl) (fun w' hS=>?_) ?_
     ·go_simp
     simp only [zA,zB,zC,Act.put,zD,zE,zF]
     refine wpScript_take (.int .i64 ((q':Int)+1)) (by rfl) (by rfl) (fun w' hS=>?_) ?_
     ·go_simp
     simp only [zA,zB,zC,Act.put,zD,zE,zF]
     refine wpScript_take (.pointer (some ⟨g,q'+1,none⟩)) (by rfl) (by rfl) (fun w' hS=>?_) ?_
     ·go_simp
     simp only [zA,zB,zC,Act.put,zD,zE,zF]
     refine wpScript_take (.int .i64 (x1:Int)) (by rfl) (by rfl) (fun w' hS=>?_) ?_
     ·subst hS
      go_simp
     simp only [zA,zB,zC,Act.put,zD,zE,zF]
     refine wpScript_take (.slice (some ⟨g,0,none⟩) n cap) (by rfl) (by rfl) (fun w' hS=>?_) ?_
     ·go_simp
     simp only [zA,zB,zC,Act.put,zD,zE,zF]
     refine wpScript_take (.int .i64 ((q':Int)+1)) (by rfl) (by rfl) (fun w' hS=>?_) ?_
     ·go_simp
     simp only [zA,zB,zC,Act.put,zD,zE,zF]
     refine wpScript_take (.int .i64 (q':Int)) (by rfl) (by rfl) (fun w' hS=>?_) ?_
     ·go_simp
     simp only [zA,zB,zC,Act.put,zD,zE,zF]
     refine wpScript_take (.pointer (some ⟨g,q',none⟩)) (by rfl) (by rfl) (fun w' hS=>?_) ?_
     ·go_simp
     simp only [zA,zB,zC,Act.put,zD,zE,zF]
     refine wpScript_take (.int .i64 (x0:Int)) (by rfl) (by rfl) (fun w' hS=>?_) ?_
     ·subst hS
      go_simp
     simp only [zA,zB,zC,Act.put,zD,zE,zF]
     refine wpScript_do (by rfl) ?_
     go_wp2
     refine ⟨rfl,?_⟩
     show wpList _ _ _ _ _ _
     simp only [List.drop_succ_cons,List.drop_zero]
     by_cases hx:x1 < x0
     ·have t1:decide ((x1:Int) < (x0:Int))=true:=decide_eq_true (by omega)
      have t2:decide (x1 < x0)=true:=decide_eq_true hx
      go_wp2_with fail
      refine NoPanic.normal ?_
      clear e5 t1 t2
      go_wp2
      have H1:Hid (SortJ w ((wr.setCell ⟨g,q'+1,none⟩ (.int .i64 (x0:Int))).setCell ⟨g,q',none⟩ (.int .i64 (x1:Int))).drew.drew g xs sz) :=
       ⟨(cs.setIfInBounds (q'+1) (.int .i64 (x0:Int))).setIfInBounds q' (.int .i64 (x1:Int)),(ys.set (q'+1) x0).set q' x1,(HBk.out.set_ (q'+1) _).set_ q' _,by have:=HSz.out;simpa using this,HRW.out,HP.out.trans HPm.out,((HCh.out.setCell (p:=⟨g,q'+1,none⟩) (.inl rfl) _).setCell (p:=⟨g,q',none⟩) (.inl rfl) _).drew.drew⟩
      go_region
      go_wp2
      exact ⟨⟨q',by omega,rfl,H1⟩,by simp [Go.RowKit.intOf]⟩
     ·have t1:decide ((x1:Int) < (x0:Int))=false:=decide_eq_false (by omega)
      have t2:decide (x1 < x0)=false:=decide_eq_false hx
      have H1:Hid (SortJ w wr.drew g xs sz):=⟨cs,ys,HBk.out,HSz.out,HRo.out,HPm.out,HCh.out.drew⟩
      go_wp2_with fail
      refine NoPanic.normal ?_
      go_wp2
      go_roundw
      case rel=>exact ⟨k+1,by omega,by omega,by go_num,H1⟩
      case measure=>simp [Go.RowKit.intOf];omega
  ·go_wp2
   go_end0
   exact ⟨rfl,H.out⟩
theorem pdq_int (g n cap sz:Nat) (lim:Int) (xs:List Nat) (w:World) (h:SortJ w w g xs sz) (hl:xs.length=n) (hn:n≤12) (hc:n≤cap) (hcm:cap≤9223372036854775807) :
  Calls Tryz.prog 359 #[.slice (some ⟨g,0,none⟩) n cap, .int .i64 0, .int .i64 (n:Int), .int .i64 lim] w (RetSortJ w g xs sz):=by
 have HI:=hid (insertion_int g n cap sz xs w h hl (by omega) hc hcm)
 have e1:decide ((n:Int)≤12)=true:=decide_eq_true (by omega)
 have e2:decide (n≤12)=true:=decide_eq_true hn
 clear h hl
 go_enter Tryz.func359,Tryz.ntmps359
 go_wp2
 refine wp_loop_rounds 1 ?_
 rw [rounds_succ]
 go_wp2_with fail
 refine HI.out.mono ?_
 rintro e w1 ⟨rfl,h1⟩
 have H1:=hid h1
 clear h1
 go_wp2
 go_end0
 exact ⟨rfl,H1.out⟩
theorem row_ownJ {w:World} {base g m c:Nat} {cs:Array Value} {ys:List Nat} (hB:Blk w g 3 cs) (hb:base≤g) (hm:m≤c) (hc:c≤maxLen) (hs:cs.size=c) (hr:RowI cs ys) (hl:ys.length=m):w.ownsRow base 3 1 (.slice (some ⟨g,0,none⟩) m c) m (jCells ys):=by
 refine ⟨by simp [jCells,hl], .inr ⟨g,c,cs,rfl,hb,hB,hm,hc,by omega,?_⟩⟩
 apply List.ext_getElem?
 intro i
 by_cases hi:i < m
 ·rw [List.getElem?_take_of_lt (by omega),Array.getElem?_toList,hr.2 i (by omega)]
  simp [jCells,hl ▸ hi]
 ·rw [List.getElem?_eq_none (by simp;omega),List.getElem?_eq_none (by simp [jCells];omega)]
theorem own_rowJ {w:World} {base g m c:Nat} {xs:List Nat} (h:w.ownsRow base 3 1 (.slice (some ⟨g,0,none⟩) m c) m (jCells xs)):∃ cur,Blk w g 3 cur∧cur.size=c∧RowI cur xs∧xs.length=m:=by
 have hl:xs.length=m:=by have:=h.1;simpa [jCells] using this
 rcases h.2 with ⟨hv,_⟩ | ⟨g',cap',cur,hv,hb,hh,h1,h2,h3,h4⟩
 ·cases hv
 ·simp only [Value.slice.injEq,Option.some.injEq,Addr.mk.injEq,and_true,true_and] at hv
  obtain ⟨rfl,rfl⟩:=hv
  refine ⟨cur,hh,by omega,⟨by omega,fun i hi=>?_⟩,hl⟩
  have h5:(cur.toList.take (m * 1))[i]?=(jCells xs)[i]?:=by rw [h4]
  rw [List.getElem?_take_of_lt (by omega)] at h5
  rw [← Array.getElem?_toList,h5]
  simp [jCells,hi]
theorem sort_int (g n cap sz:Nat) (xs:List Nat) (w:World) (h:SortJ w w g xs sz) (hl:xs.length=n) (hn:n≤12) (hc:n≤cap) (hcm:cap≤9223372036854775807) :
  Calls Tryz.prog 316 #[.slice (some ⟨g,0,none⟩) n cap] w (RetSortJ w g xs sz):=by
 have e1:IntKind.u64.wrap (n:Int)=(n:Int):=by rw [IntKind.wrap_u64];omega
 have HLn:=hid (len_any n w (by omega))
 have HP:=hid (pdq_int g n cap sz (Lib.bitLen n) xs w h hl hn hc hcm)
 generalize Lib.bitLen n=k at *
 clear h hl
 go_enter Tryz.func316,Tryz.ntmps316
 go_wp2_with (first
  | (go_at_call 109;refine HLn.out.mono ?_;rintro e w' ⟨rfl,rfl⟩)
  | (go_at_call 359;refine HP.out.mono ?_;rintro e w1 ⟨rfl,h1⟩;have H1:=hid h1;clear h1))
 go_end0
 exact ⟨rfl,H1.out⟩
def RetN (w:World) (P:List Nat→Prop) (e:Ending) (w':World):Prop:=∃ A m c ys,e = .returned (.slice A m c)∧P ys∧m=ys.length∧w'.ownsRow w.heap.size 3 1 (.slice A m c) m (jCells ys)∧Below w.heap.size w w'
theorem sorted_int (g:Nat) (lb:Array Value) (eg:∀ args w,(callFunc g args).run Tryz.prog w = .ok (.enter g args) w)
  (ks:List Nat) (N:Nat) (hN:N≤12) (w:World) (hseq:SeqGives Fence.wide 9 Tryz.prog g lb encI (fun ss=>ss.Perm (ks.map Int.ofNat)) N w) :
  Calls Tryz.prog 238 #[.func (.func g) #[] lb] w (RetN w (fun ys=>ys.Perm ks)):=by
 have HC:=hid (collect_anyI g lb eg _ N (by omega) w hseq.bounded)
 go_enter Tryz.func238,Tryz.ntmps238
 go_wp2_with (go_at_call 315;refine HC.out.mono ?_;rintro e W ⟨v,ss,rfl,⟨hS,hlen⟩,hrow,hnil,hb⟩;refine stop ?_)
 unfold Stop
 obtain ⟨xs,rfl,hxs⟩:=perm_nat hS
 rw [encI_cells,List.length_map] at hrow
 rw [List.length_map] at hlen
 rcases hrow.2 with ⟨rfl,hz⟩ | ⟨gb,cap,cur,rfl,hbase,hgb,r1,r2,r3,r4⟩
 ·have hss:xs=[]:=List.eq_nil_of_length_eq_zero hz
  subst hss
  have HR:=hid hrow
  have HB:=hid hb
  have HP:=hid hxs
  clear hrow hb hS hxs hnil HC hseq
  go_wp2_with (go_at_call 316;refine (sort_nilI _).mono ?_;rintro e w1 ⟨rfl,rfl⟩)
  go_ret
  exact ⟨none,0,0,[],rfl,HP.out,rfl,HR.out,HB.out⟩
 ·obtain ⟨cs,hB,hcs,hR,hl⟩:=own_rowJ hrow
  have hso:SortJ W W gb xs cap:=⟨cs,xs,hB,hcs,hR,List.Perm.refl _,Chg.refl _ _⟩
  have HS:=hid (sort_int gb xs.length cap cap xs W hso rfl (by omega) r1 (by unfold maxLen at r2;omega))
  have HB:=hid hb
  have HP:=hid hxs
  have HF:Hid (w.heap.size≤gb∧xs.length≤cap∧cap≤maxLen):=hid ⟨hbase,r1,r2⟩
  clear hrow hb hS hxs hnil HC hseq hB hcs hR hl hso r1 r2 r3 r4 hgb hbase
  go_wp2_with (go_at_call 316;refine HS.out.mono ?_;rintro e w1 ⟨rfl,hs⟩;have HSo:=hid hs;clear hs)
  obtain ⟨cs1,ys,hB1,hz1,hR1,hp1,hc1⟩:=HSo.out
  have hyl:=hp1.length_eq
  have HO:=hid (row_ownJ (base:=w.heap.size) hB1 HF.out.1 HF.out.2.1 HF.out.2.2 hz1 hR1 hyl)
  have HB1:Hid (Below w.heap.size w w1):=hid (HB.out.trans (hc1.toBelow HB.out.size (fun k hk=>by rw [hk];exact HF.out.1)))
  have HP1:=hid (hp1.trans HP.out)
  have HL1:=hid hyl
  clear hB1 hz1 hR1 hp1 hc1 hyl HSo HS HB HP
  go_wp2
  go_ret
  exact ⟨_,_,_,ys,rfl,HP1.out,HL1.out.symm,HO.out,HB1.out⟩
end
end Go.Proofs.YtfkjjoglnmeciaaGreatDoor
