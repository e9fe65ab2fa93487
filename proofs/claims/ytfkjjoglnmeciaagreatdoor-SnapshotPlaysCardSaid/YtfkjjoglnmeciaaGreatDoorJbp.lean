/- The walks and laws that the claim leans on, part 42. -/
import Derived.Test.YtfkjjoglnmeciaaGreatDoorJau
import Derived.Test.YtfkjjoglnmeciaaGreatDoorJbo
set_option maxRecDepth 100000
set_option maxHeartbeats 16000000
namespace Go.Proofs.YtfkjjoglnmeciaaGreatDoor
open Go.Lib (hid)
section
open Go.RowKit Go.Maps
theorem decL_mem:∀ (n:Nat) (xs:List Nat) (l:List (List Nat × Nat)),decL n xs=some l→l.length=n∧∀ p∈l,p.1.length≤16∧(∀ b∈p.1,b < 256)∧((∀ x∈xs,x < 18446744073709551616)→p.2 < 18446744073709551616)
 | 0,xs,l,h=>by
  have h':some []=some l:=h
  cases h'
  exact ⟨rfl,fun p hp=>absurd hp (by simp)⟩
 | n+1,xs,l,h=>by
  unfold decL at h
  cases hp:decP (xs.take 4) with
  | none =>
   rw [hp] at h
   cases h
  | some p =>
   rw [hp] at h
   have h2:(decL n (xs.drop 4)).map (p :: ·)=some l:=h
   cases ht:decL n (xs.drop 4) with
   | none =>
    rw [ht] at h2
    cases h2
   | some t =>
    rw [ht] at h2
    have h3:p :: t=l:=by
     injection h2
    subst h3
    obtain ⟨g1,g2⟩:=decL_mem n (xs.drop 4) t ht
    refine ⟨by rw [List.length_cons,g1],fun q hq=>?_⟩
    rcases List.mem_cons.1 hq with rfl | hq
    ·unfold decP at hp
     cases hn:decN ((xs.take 4).take 3) with
     | none =>
      rw [hn] at hp
      cases hp
     | some nm =>
      rw [hn] at hp
      have h4:(nm,(xs.take 4).getD 3 0)=q:=by injection hp
      subst h4
      unfold decN at hn
      split at hn
      ·cases hn
      ·rename_i h16
       split at hn
       ·cases hn
       ·split at hn
        ·have h5:=Option.some.inj hn
         subst h5
         refine ⟨by rw [unpB_len];omega,fun b hb=>?_,fun hx=>?_⟩
         ·unfold unpB at hb
          obtain ⟨i,_,rfl⟩:=List.mem_map.1 hb
          exact Nat.mod_lt _ (by decide)
         ·show (xs.take 4).getD 3 0 < _
          rw [List.getD_eq_getElem?_getD]
          cases he:(xs.take 4)[3]? with
          | none=>exact show (0:Nat) < 18446744073709551616 by omega
          | some y=>exact hx y (List.mem_of_mem_take (List.mem_of_getElem? he))
        ·cases hn
    ·obtain ⟨q1,q2,q3⟩:=g2 q hq
     exact ⟨q1,q2,fun hx=>q3 (fun x hx'=>hx x (List.mem_of_mem_drop hx'))⟩
theorem decA_mem {xs:List Nat} {l:List (List Nat × Nat)} (h:decA xs=some l):l.length≤8∧∀ p∈l,p.1.length≤16∧(∀ b∈p.1,b < 256)∧((∀ x∈xs,x < 18446744073709551616)→p.2 < 18446744073709551616):=by
 unfold decA at h
 split at h
 ·cases h
 ·rename_i h8
  split at h
  ·cases h
  ·obtain ⟨g1,g2⟩:=decL_mem _ _ _ h
   refine ⟨by omega,fun p hp=>?_⟩
   obtain ⟨q1,q2,q3⟩:=g2 p hp
   exact ⟨q1,q2,fun hx=>q3 (fun x hx'=>hx x (List.mem_of_mem_drop hx'))⟩
theorem strN_size (l:List Nat):(strN l).size=l.length:=by
 show (l.map UInt8.ofNat).toArray.size=_
 simp
def rgR (cur:Nat→Nat) (chk:Nat→Nat) (p:Nat):Option (Nat × List (List Nat × Nat)) × Nat :=
 if chk p≠0 then (none,12) else match decA (rgW cur (pOff p / 8+1)) with
  | none=>(none,11)
  | some l=>if sndP (cur (pOff p / 8)) l=true then (some (cur (pOff p / 8),l),0) else (none,11)
def RetRg (w:World) (R:Option (Nat × List (List Nat × Nat)) × Nat) (e:Ending) (w':World):Prop:=(match R.1 with
 | some q=>∃ A m c,e = .returned (.tuple #[.int .u64 (q.1:Int), .slice A m c, .int .i64 0])∧m=q.2.length∧w'.ownsRow w.heap.size 368 2 (.slice A m c) m (itCells q.2)
 | none=>e = .returned (.tuple #[.int .u64 0, .slice none 0 0, .int .i64 (R.2:Int)]))∧Below w.heap.size w w'
theorem aheadDCheck8 (p : Addr) (w : World) : (nilAhead 640 59 (.pointer (some p)) "Check").run Tryz.prog w = .ok (some false) w := by kernel_rfl
section
variable {a:DA} {L T s n K:Nat} {x:HA} {cs:Nat→CS} {f:Nat→Option Nat} {N m b0:Nat} {S:Fp} {cur:Nat→Nat} {w:World} {d r:Nat}
theorem rgRead_any (h:SD a L T s n K x cs f N m b0 S cur w d r) (g p:Nat) (hg:Blk w g 265 #[.int .u64 (p:Int)]) (hp:p < 18446744073709551616) (hr:chkR s K cs p 8=0→p≠0∧pOff p % 8=0∧pOff p+272≤64 * L) :
  Calls Tryz.prog 260 #[.pointer (some ⟨g,0,none⟩), .iface 59 (.pointer (some ⟨d,0,none⟩))] w (RetRg w (rgR cur (fun q=>chkR s K cs q 8) p)):=by
 have HEr:Hid (∀ W,Below w.heap.size w W→Calls Tryz.prog 432 #[.pointer (some ⟨d,0,none⟩)] W fun e w'=>e = .returned (.int .i64 0)∧W=w'):=hid (fun W hW=>errD (h.below hW).ds.dev (h.below hW).dir)
 have HC:Hid (∀ W,Below w.heap.size w W→Calls Tryz.prog 431 #[.pointer (some ⟨d,0,none⟩), .int .u64 (p:Int), .int .u8 8] W fun e w'=>e = .returned (.int .i64 (chkR s K cs p 8:Int))∧Below W.heap.size W w'):=hid (fun W hW=>checkD (h.below hW) p 8 hp (by decide))
 have HG:Hid (∀ W,Below w.heap.size w W→W.cell? ⟨g,0,none⟩=some (.int .u64 (p:Int))):=hid (fun W hW=>(hg.below hW hg.lt).cell 0)
 have hmC:=methDCheck (some ⟨d,0,none⟩)
 have hmE:=methDErr (some ⟨d,0,none⟩)
 have hmL:=methDLoad (some ⟨d,0,none⟩)
 have hmf:∀ (fn:Fn) (first cap:Array Value) (w:World),(Instr.makeFunc fn first cap).run Tryz.prog w = .ok (.func fn first cap) w:=fun _ _ _ _=>rfl
 have hnil:∀ W,(binOp .eql 83 (.iface 59 (.pointer (some ⟨d,0,none⟩))) .nilIface).run Tryz.prog W = .ok (.bool false) W:=fun W=>by rfl
 have hac:=aheadDCheck8 ⟨d,0,none⟩
 have hal:=aheadDLoad7 ⟨d,0,none⟩
 have g0:w.cell? ⟨g,0,none⟩=some (.int .u64 (p:Int)):=hg.cell 0
 have HR0:Hid (rgR cur (fun q=>chkR s K cs q 8) p=if chkR s K cs p 8≠0 then (none,12) else match decA (rgW cur (pOff p / 8+1)) with
  | none=>(none,11)
  | some l=>if sndP (cur (pOff p / 8)) l=true then (some (cur (pOff p / 8),l),0) else (none,11)):=hid rfl
 have HSD:=hid h
 have HRn:=hid hr
 generalize rgR cur (fun q=>chkR s K cs q 8) p=Y at *
 generalize chkR s K cs p 8=ck at *
 have HB0:Hid (Below w.heap.size w w.drew):=hid (Below.refl _ _).drew
 have HE0:=hid (HEr.out w (Below.refl _ _))
 clear h hg hr
 go_enter Tryz.func260,Tryz.ntmps260
 go_upto_region 7 with (go_at_call 432;refine HE0.out.mono ?_;rintro e w1 ⟨rfl,rfl⟩)
 go_cut [33] from 24 to 33 (fun v wx=>v = .bool (decide (ck=0))∧Hid (Below w.heap.size w wx))
 case first =>
  refine wp_region_scriptH (fun w'=>w'.cell? ⟨g,0,none⟩=some (.int .u64 (p:Int))) 10 [] [(1,0),(1,1),(1,2),(1,3),(1,4),(1,5),(1,6),(1,7),(0,8),(1,9)] (by kernel_rfl) (by kernel_rfl) g0 ?_
  refine wpScriptH_take (.iface 59 (.pointer (some ⟨d,0,none⟩))) (by rfl) (by rfl) (fun w' hS=>?_) ?_
  ·go_simp
  simp only [zA,zB,Act.put,zD,zE,zF]
  refine wpScriptH_take (.pointer (some ⟨g,0,none⟩)) (by rfl) (by rfl) (fun w' hS=>?_) ?_
  ·go_simp
  simp only [zA,zB,zC,Act.put,zD,zE,zF]
  refine wpScriptH_take (.pointer (some ⟨g,0,none⟩)) (by rfl) (by rfl) (fun w' hS=>?_) ?_
  ·go_simp
  simp only [zA,zB,zC,Act.put,zD,zE,zF]
  refine wpScriptH_take (.pointer (some ⟨g,0,none⟩)) (by rfl) (by rfl) (fun w' hS=>?_) ?_
  ·go_simp
  simp only [zA,zB,zC,Act.put,zD,zE,zF]
  refine wpScriptH_take (.int .u64 (p:Int)) (by rfl) (by rfl) (fun w' hS=>?_) ?_
  ·go_simp
  simp only [zA,zB,zC,Act.put,zD,zE,zF]
  refine wpScriptH_take (.func (.method "Check") #[.iface 59 (.pointer (some ⟨d, 0, none⟩))] #[]) (by rfl) (by rfl) (fun w' hS => ?_) ?_
  ·go_simp
  simp only [zA,zB,zC,Act.put,zD,zE,zF]
  refine wpScriptH_take (.func (.method "Check") #[.iface 59 (.pointer (some ⟨d, 0, none⟩))] #[]) (by rfl) (by rfl) (fun w' hS => ?_) ?_
  ·go_simp
  simp only [zA,zB,zC,Act.put,zD,zE,zF]
  refine wpScriptH_take (.iface 59 (.pointer (some ⟨d,0,none⟩))) (by rfl) (by rfl) (fun w' hS=>?_) ?_
  ·go_simp
  simp only [zA,zB,zC,Act.put,zD,zE,zF]
  refine wpScriptH_do (by rfl) ?_
  go_wp2_with (go_at_call 431;refine (HC.out _ HB0.out).mono ?_;rintro e w2 ⟨rfl,hb2⟩;have HB2:=hid (HB0.out.trans (hb2.mono HB0.out.size));clear hb2)
  refine ⟨HG.out _ HB2.out,?_⟩
  have hck:((ck:Int) == 0)=decide (ck=0):=by
   by_cases h:ck=0
   ·subst h;rfl
   ·rw [decide_eq_false h,beq_eq_false_iff_ne];omega
  refine wpScriptH_take (.bool (decide (ck=0))) (by rfl) (by rfl) (fun w' hS=>?_) ?_
  ·go_simp
  simp only [zA,zB,zC,Act.put,zD,zE,zF]
  show wpList _ _ _ _ _ _
  simp only [List.drop_succ_cons,List.drop_zero]
  refine NoPanic.normal ?_
  go_wp2_with fail
  go_meet
  exact ⟨rfl,HB2⟩
 case rest =>
 obtain ⟨rfl,HB2⟩:=hcut
 clear g0 HE0 HC hmC hac
 by_cases hck:ck=0
 ·rw [decide_eq_true hck]
  rw [if_neg (fun hn=>hn hck)] at HR0
  obtain ⟨hp0,hp8,hpL⟩:=HRn.out hck
  have HA1:Hid (∀ W,Calls Tryz.prog 49 #[.int .u64 (p:Int), .int .i64 1] W fun e w'=>e = .returned (.int .u64 ((pOff p+8:Nat):Int))∧W=w'):=hid (fun W=>by
   have h1:=at_any p 1 (by omega) W
   rw [show pAt p 1=pOff p+8 by unfold pAt;rw [if_neg (by omega)]] at h1
   exact h1)
  have HA0:Hid (∀ W,Calls Tryz.prog 49 #[.int .u64 (p:Int), .int .i64 0] W fun e w'=>e = .returned (.int .u64 (pOff p:Int))∧W=w'):=hid (fun W=>by
   have h1:=at_any p 0 (by omega) W
   rw [show pAt p 0=pOff p by unfold pAt;rw [if_neg (by omega)];omega] at h1
   exact h1)
  have HRd:Hid (∀ W,Below w.heap.size w W→Calls Tryz.prog 326 #[.iface 59 (.pointer (some ⟨d,0,none⟩)), .int .u64 ((pOff p+8:Nat):Int),arI] W (RetRr W (decA (rgW cur (pOff p / 8+1))))):=hid (fun W hW=>by
   have h1:=rread_any (HSD.out.below hW) (pOff p+8) (by omega) (by omega)
   rw [show (pOff p+8) / 8=pOff p / 8+1 by omega] at h1
   exact h1)
  have HLd:Hid (∀ W,Below w.heap.size w W→Calls Tryz.prog 435 #[.pointer (some ⟨d,0,none⟩), .int .u64 (pOff p:Int)] W fun e w'=>e = .returned (.int .u64 (cur (pOff p / 8):Int))∧W=w'):=hid (fun W hW=>loadD (HSD.out.below hW).ds.dev (HSD.out.below hW).dir (pOff p) _ hp8 (by omega) rfl)
  have HMem:Hid (∀ l,decA (rgW cur (pOff p / 8+1))=some l→l.length≤8∧∀ q∈l,(strN q.1).size≤9223372036854775807):=hid (fun l hl=>by
   obtain ⟨g1,g2⟩:=decA_mem hl
   exact ⟨g1,fun q hq=>by rw [strN_size];have:=(g2 q hq).1;omega⟩)
  generalize cur (pOff p / 8)=st at *
  generalize decA (rgW cur (pOff p / 8+1))=R at *
  generalize pOff p+8=o1 at HA1 HRd
  generalize pOff p=o0 at HA0 HLd
  clear hck hp0 hp8 hpL HRn HSD
  have gc0:wc.cell? ⟨g,0,none⟩=some (.int .u64 (p:Int)):=HG.out wc HB2.out
  rcases R with _ | l
  ·have HY:Hid (Y=(none,11)):=hid HR0.out
   have HRe:Hid (∀ W,Below w.heap.size w W→Calls Tryz.prog 326 #[.iface 59 (.pointer (some ⟨d,0,none⟩)), .int .u64 (o1:Int),arI] W fun e w'=>e = .returned (.tuple #[.slice none 0 0, .int .i64 11])∧Below W.heap.size W w'):=HRd
   clear HR0 HRd
   unfold arI at HRe
   go_wp2_with (first
    | (go_at_call 49;refine (HA1.out _).mono ?_;rintro e w3 ⟨rfl,rfl⟩)
    | (go_at_call 267;refine (codec_any wc).mono ?_;rintro e w4 ⟨rfl,hb4⟩;have HB4:=hid (HB2.out.trans (hb4.mono HB2.out.size));clear hb4)
    | (go_at_call 326;refine (HRe.out w4 HB4.out).mono ?_;rintro e w5 ⟨rfl,hb5⟩;have HB5:=hid (HB4.out.trans (hb5.mono HB4.out.size));clear hb5;have HE5:=hid (HEr.out w5 HB5.out))
    | (go_at_call 432;refine HE5.out.mono ?_;rintro e w6 ⟨rfl,rfl⟩))
   go_ret3
   unfold RetRg
   rw [HY.out]
   exact ⟨rfl,HB5.out⟩
  ·obtain ⟨hl8,hl16⟩:=HMem.out l rfl
   have HRe:Hid (∀ W,Below w.heap.size w W→Calls Tryz.prog 326 #[.iface 59 (.pointer (some ⟨d,0,none⟩)), .int .u64 (o1:Int),arI] W fun e w'=>(∃ A m c,e = .returned (.tuple #[.slice A m c, .int .i64 0])∧m=l.length∧w'.ownsRow W.heap.size 368 2 (.slice A m c) m (itCells l))∧Below W.heap.size W w'):=HRd
   have HRs:Hid (Y=if sndP st l=true then (some (st,l),0) else (none,11)):=hid HR0.out
   have H16:=hid hl16
   have H8:=hid hl8
   clear HR0 HRd HMem hl16 hl8
   unfold arI at HRe
   go_upto_region 11 with (first
    | (go_at_call 49;refine (HA1.out _).mono ?_;rintro e w3 ⟨rfl,rfl⟩)
    | (go_at_call 267;refine (codec_any wc).mono ?_;rintro e w4 ⟨rfl,hb4⟩;have HB4:=hid (HB2.out.trans (hb4.mono HB2.out.size));clear hb4)
    | (go_at_call 326;refine (HRe.out w4 HB4.out).mono ?_;rintro e w5 ⟨⟨A5,m5,c5,rfl,hm5,ho5⟩,hb5⟩;have HB5:=hid (HB4.out.trans (hb5.mono HB4.out.size));have HM5:=hid hm5;have HO5:=hid (own_le ho5 HB4.out.size);clear hb5 hm5 ho5))
   have g5:=HG.out w5 HB5.out
   have HB5d:=hid HB5.out.drew
   clear gc0
   refine wp_region_scriptH (fun w'=>w'=w5.drew) 11 [] [(1,0),(1,1),(1,2),(1,3),(1,4),(1,6),(1,7),(1,8),(0,5),(0,9),(1,10)] (by kernel_rfl) (by kernel_rfl) rfl ?_
   refine wpScriptH_take (.iface 59 (.pointer (some ⟨d,0,none⟩))) (by rfl) (by rfl) (fun w' hS=>?_) ?_
   ·go_simp
   simp only [zA,zB,Act.put,zD,zE,zF]
   refine wpScriptH_take (.pointer (some ⟨g,0,none⟩)) (by rfl) (by rfl) (fun w' hS=>?_) ?_
   ·go_simp
   simp only [zA,zB,zC,Act.put,zD,zE,zF]
   refine wpScriptH_take (.pointer (some ⟨g,0,none⟩)) (by rfl) (by rfl) (fun w' hS=>?_) ?_
   ·go_simp
   simp only [zA,zB,zC,Act.put,zD,zE,zF]
   refine wpScriptH_take (.pointer (some ⟨g,0,none⟩)) (by rfl) (by rfl) (fun w' hS=>?_) ?_
   ·go_simp
   simp only [zA,zB,zC,Act.put,zD,zE,zF]
   refine wpScriptH_take (.int .u64 (p:Int)) (by rfl) (by rfl) (fun w' hS=>?_) ?_
   ·subst hS
    go_simp
   simp only [zA,zB,zC,Act.put,zD,zE,zF]
   refine wpScriptH_take (.func (.method "Load") #[.iface 59 (.pointer (some ⟨d, 0, none⟩))] #[]) (by rfl) (by rfl) (fun w' hS => ?_) ?_
   ·go_simp
   simp only [zA,zB,zC,Act.put,zD,zE,zF]
   refine wpScriptH_take (.func (.method "Load") #[.iface 59 (.pointer (some ⟨d, 0, none⟩))] #[]) (by rfl) (by rfl) (fun w' hS => ?_) ?_
   ·go_simp
   simp only [zA,zB,zC,Act.put,zD,zE,zF]
   refine wpScriptH_take (.iface 59 (.pointer (some ⟨d,0,none⟩))) (by rfl) (by rfl) (fun w' hS=>?_) ?_
   ·go_simp
   simp only [zA,zB,zC,Act.put,zD,zE,zF]
   refine wpScriptH_do (by rfl) ?_
   go_wp2_with (go_at_call 49;refine (HA0.out _).mono ?_;rintro e w6 ⟨rfl,rfl⟩)
   refine ⟨rfl,?_⟩
   refine wpScriptH_do (by rfl) ?_
   go_wp2_with (go_at_call 435;refine (HLd.out _ HB5d.out).mono ?_;rintro e w6 ⟨rfl,rfl⟩)
   refine ⟨rfl,?_⟩
   refine wpScriptH_take (.int .u64 (st:Int)) (by rfl) (by rfl) (fun w' hS=>?_) ?_
   ·go_simp
   simp only [zA,zB,zC,Act.put,zD,zE,zF]
   show wpList _ _ _ _ _ _
   simp only [List.drop_succ_cons,List.drop_zero]
   refine NoPanic.normal ?_
   have HO6:Hid (w5.drew.ownsRow w.heap.size 368 2 (.slice A5 m5 c5) m5 (itCells l)):=hid (own_below HO5.out (Below.refl _ _).drew)
   have HSn:=hid (sound_any A5 m5 c5 st l w5.drew (Reads.of_own HO6.out) (own_cap HO6.out).1 (by rw [HM5.out];exact H8.out) H16.out)
   have HE6:=hid (HEr.out w5.drew HB5d.out)
   generalize sndP st l=ok at *
   cases ok
   ·have HY:Hid (Y=(none,11)):=hid (by rw [HRs.out,if_neg (by decide)])
    clear HRs
    go_wp2_with (first
     | (go_at_call 327;refine HSn.out.mono ?_;rintro e w7 ⟨rfl,hb7⟩;have HB7:=hid (HB5d.out.trans (hb7.mono HB5d.out.size));clear hb7;have HE7:=hid (HEr.out w7 HB7.out))
     | (go_at_call 432;first | refine HE6.out.mono ?_;rintro e w8 ⟨rfl,rfl⟩ | refine HE7.out.mono ?_;rintro e w8 ⟨rfl,rfl⟩))
    go_ret3
    unfold RetRg
    rw [HY.out]
    exact ⟨rfl,HB7.out⟩
   ·have HY:Hid (Y=(some (st,l),0)):=hid (by rw [HRs.out,if_pos rfl])
    clear HRs
    go_wp2_with (first
     | (go_at_call 327;refine HSn.out.mono ?_;rintro e w7 ⟨rfl,hb7⟩;have HB7:=hid (HB5d.out.trans (hb7.mono HB5d.out.size));have HO7:=hid (own_below HO6.out hb7);clear hb7)
     | (go_at_call 432;refine HE6.out.mono ?_;rintro e w8 ⟨rfl,rfl⟩))
    go_ret3
    unfold RetRg
    rw [HY.out]
    exact ⟨⟨_,_,_,rfl,HM5.out,HO7.out⟩,HB7.out⟩
 ·rw [decide_eq_false hck]
  have HY:Hid (Y=(none,12)):=hid (by rw [HR0.out,if_pos hck])
  clear HR0 hck
  have HE2:=hid (HEr.out wc HB2.out)
  go_wp2_with (go_at_call 432;refine HE2.out.mono ?_;rintro e w3 ⟨rfl,rfl⟩)
  go_ret3
  unfold RetRg
  rw [HY.out]
  exact ⟨rfl,HB2.out⟩
end
end
section
open Go.RowKit Go.Maps
structure RgOk (R:Option (Nat × List (List Nat × Nat)) × Nat):Prop where
 none_:R.1=none→R.2≠0
 some_:∀ q,R.1=some q→q.1≤4611686018427387903∧q.2.length≤8∧(∀ p∈q.2,p.1.length≤16∧(∀ b∈p.1,b < 256)∧p.2≤q.1)∧sndP q.1 q.2=true
theorem sndS_le {st:Nat}:∀ {pre l:List (List Nat × Nat)},sndS st pre l=true→∀ p∈l,p.2≤st
 | _,[],_,p,hp=>absurd hp (by simp)
 | pre,x :: t,h,p,hp=>by
  unfold sndS at h
  rw [Bool.and_eq_true,Bool.and_eq_true,Bool.and_eq_true] at h
  rcases List.mem_cons.1 hp with rfl | hp
  ·exact of_decide_eq_true h.1.2.1
  ·exact sndS_le h.2 p hp
theorem rgOk (cur:Nat→Nat) (chk:Nat→Nat) (p:Nat):RgOk (rgR cur chk p):=by
 unfold rgR
 by_cases h:chk p≠0
 ·rw [if_pos h]
  refine ⟨fun _=>?_,fun q hq=>?_⟩
  ·exact (by decide:(12:Nat)≠0)
  ·cases hq
 ·rw [if_neg h]
  cases hl:decA (rgW cur (pOff p / 8+1)) with
  | none =>
   refine ⟨fun _=>?_,fun q hq=>?_⟩
   ·exact (by decide:(11:Nat)≠0)
   ·cases hq
  | some l =>
   show RgOk (if sndP (cur (pOff p / 8)) l=true then (some (cur (pOff p / 8),l),0) else (none,11))
   by_cases hs:sndP (cur (pOff p / 8)) l=true
   ·rw [if_pos hs]
    refine ⟨fun hn=>(by cases hn),fun q hq=>?_⟩
    have hq':(cur (pOff p / 8),l)=q:=by injection hq
    subst hq'
    obtain ⟨g1,g2⟩:=decA_mem hl
    have hs2:=hs
    unfold sndP at hs2
    rw [Bool.and_eq_true] at hs2
    exact ⟨of_decide_eq_true hs2.1,g1,fun p hp=>⟨(g2 p hp).1,(g2 p hp).2.1,sndS_le hs2.2 p hp⟩,hs⟩
   ·rw [if_neg hs]
    refine ⟨fun _=>?_,fun q hq=>?_⟩
    ·exact (by decide:(11:Nat)≠0)
    ·cases hq
abbrev RdC (rv sv:Value) (w:World) (R:Option (Nat × List (List Nat × Nat)) × Nat):Prop:=Calls Tryz.prog 260 #[rv,sv] w (RetRg w R)
def stpR (R:Option (Nat × List (List Nat × Nat)) × Nat):Nat:=match R.1 with
 | some q=>q.1
 | none=>0
def getR (s:ByteArray) (R:Option (Nat × List (List Nat × Nat)) × Nat):Nat × Nat:=match R.1 with
 | some q=>if fndS s 0 q.2 < 0 then (0,5) else ((q.2.getD (fndS s 0 q.2).toNat ([],0)).2,0)
 | none=>(0,R.2)
def minL (m:Nat) (l:List (List Nat × Nat)):Nat:=l.foldl (fun m p=>min m p.2) m
theorem minL_take (m:Nat) (l:List (List Nat × Nat)) (k:Nat) (h:k < l.length):minL m (l.take (k+1))=min (minL m (l.take k)) (l[k]).2:=by
 unfold minL
 rw [List.take_succ_eq_append_getElem h,List.foldl_append]
 rfl
def oldR (R:Option (Nat × List (List Nat × Nat)) × Nat):Nat:=match R.1 with
 | some q=>minL q.1 q.2
 | none=>0
section
variable {R:Option (Nat × List (List Nat × Nat)) × Nat} {rv sv:Value} {w:World}
theorem stamp_any (h:RdC rv sv w R):Calls Tryz.prog 145 #[rv,sv] w fun e w'=>e = .returned (.int .u64 (stpR R:Int))∧Below w.heap.size w w':=by
 have H:=hid h
 clear h
 obtain ⟨R1,c⟩:=R
 rcases R1 with _ | ⟨st,l⟩
 ·have H2:Hid (Calls Tryz.prog 260 #[rv,sv] w fun e w'=>e = .returned (.tuple #[.int .u64 0, .slice none 0 0, .int .i64 (c:Int)])∧Below w.heap.size w w'):=H
  clear H
  go_enter Tryz.func145,Tryz.ntmps145
  go_wp2_with (go_at_call 260;refine H2.out.mono ?_;rintro e w1 ⟨rfl,hb1⟩;have HB1:=hid hb1;clear hb1)
  go_ret
  exact ⟨rfl,HB1.out⟩
 ·have H2:Hid (Calls Tryz.prog 260 #[rv,sv] w fun e w'=>(∃ A m c,e = .returned (.tuple #[.int .u64 (st:Int), .slice A m c, .int .i64 0])∧m=l.length∧w'.ownsRow w.heap.size 368 2 (.slice A m c) m (itCells l))∧Below w.heap.size w w'):=H
  clear H
  go_enter Tryz.func145,Tryz.ntmps145
  go_wp2_with (go_at_call 260;refine H2.out.mono ?_;rintro e w1 ⟨⟨A1,m1,c1,rfl,_,_⟩,hb1⟩;have HB1:=hid hb1;clear hb1)
  go_ret
  exact ⟨rfl,HB1.out⟩
theorem get_any (h:RdC rv sv w R) (hok:RgOk R) (s:ByteArray):Calls Tryz.prog 155 #[rv,sv, .string s] w fun e w'=>e = .returned (.tuple #[.int .u64 ((getR s R).1:Int), .int .i64 ((getR s R).2:Int)])∧Below w.heap.size w w':=by
 have H:=hid h
 clear h
 obtain ⟨R1,c⟩:=R
 rcases R1 with _ | ⟨st,l⟩
 ·have H2:Hid (Calls Tryz.prog 260 #[rv,sv] w fun e w'=>e = .returned (.tuple #[.int .u64 0, .slice none 0 0, .int .i64 (c:Int)])∧Below w.heap.size w w'):=H
  have hc:c≠0:=hok.none_ rfl
  have d0:((c:Int) != 0)=true:=by rw [bne,beq_eq_false_iff_ne.2 (by omega)];rfl
  clear H hok hc
  go_enter Tryz.func155,Tryz.ntmps155
  go_wp2_with (go_at_call 260;refine H2.out.mono ?_;rintro e w1 ⟨rfl,hb1⟩;have HB1:=hid hb1;clear hb1)
  go_ret2
  exact ⟨rfl,HB1.out⟩
 ·have H2:Hid (Calls Tryz.prog 260 #[rv,sv] w fun e w'=>(∃ A m c,e = .returned (.tuple #[.int .u64 (st:Int), .slice A m c, .int .i64 0])∧m=l.length∧w'.ownsRow w.heap.size 368 2 (.slice A m c) m (itCells l))∧Below w.heap.size w w'):=H
  have hl8:=(hok.some_ (st,l) rfl).2.1
  have HL8:Hid (l.length≤8):=hid hl8
  have HGe:=hid (fndS_ge s 0 l)
  have HGr:Hid (getR s (some (st,l),c)=if fndS s 0 l < 0 then (0,5) else ((l.getD (fndS s 0 l).toNat ([],0)).2,0)):=hid rfl
  generalize getR s (some (st,l),c)=Y at *
  have HFn:=hid (fun (A:Option Addr) (n c':Nat) (W:World) (hr:Reads W W.heap.size 2 A n (itCells l)) (hn:n≤100000)=>findS_any A n c' l s W hr hn)
  obtain ⟨fi,hfi⟩:∃ fi,fndS s 0 l=fi:=⟨_,rfl⟩
  rw [hfi] at HFn HGe HGr
  clear H hok hl8 hfi
  go_enter Tryz.func155,Tryz.ntmps155
  go_upto_region 5 with (first
   | (go_at_call 260;refine H2.out.mono ?_;rintro e w1 ⟨⟨A1,m1,c1,rfl,hm1,ho1⟩,hb1⟩;have HB1:=hid hb1;have HM1:=hid hm1;have HO1:=hid ho1;clear hb1 hm1 ho1)
   | (go_at_call 262;refine (HFn.out A1 m1 c1 w1 (Reads.of_own HO1.out) (by rw [HM1.out];have:=HL8.out;omega)).mono ?_;rintro e w2 ⟨rfl,hb2⟩;have HB2:=hid (HB1.out.trans (hb2.mono HB1.out.size));have HO2:=hid (own_below HO1.out hb2);clear hb2))
  by_cases hf:fi < 0
  ·have HY:Hid (Y=(0,5)):=hid (by rw [HGr.out,if_pos hf])
   clear HGr
   go_wp2_with fail
   go_ret2
   rw [HY.out]
   exact ⟨rfl,HB2.out⟩
  ·obtain ⟨j,hj⟩:∃ j:Nat,fi=(j:Int):=⟨fi.toNat,by omega⟩
   subst hj
   have hge:=HGe.out.2.1
   have hjl:j < l.length:=by omega
   have HY:Hid (Y=((l.getD j ([],0)).2,0)):=hid (by rw [HGr.out,if_neg hf,Int.toNat_natCast])
   have hm:=HM1.out
   obtain ⟨hkl,gb,go,hA3,_,f0,f1⟩:=it_facts (Reads.of_own HO2.out) (k:=j) (by omega)
   have hz5:(0:Int)≤(j:Int):=by omega
   have hz6:(j:Int) < (m1:Int):=by omega
   subst hA3
   have HE:Hid (l.getD j ([],0)=l[j]):=hid (by rw [List.getD_eq_getElem?_getD,List.getElem?_eq_getElem hkl];rfl)
   clear hf hge hm HGr
   go_wp2_with fail
   go_ret2
   rw [HY.out,HE.out]
   exact ⟨rfl,HB2.out⟩
theorem oldest_any (h:RdC rv sv w R) (hok:RgOk R):Calls Tryz.prog 148 #[rv,sv] w fun e w'=>e = .returned (.int .u64 (oldR R:Int))∧Below w.heap.size w w':=by
 have H:=hid h
 clear h
 obtain ⟨R1,c⟩:=R
 rcases R1 with _ | ⟨st,l⟩
 ·have H2:Hid (Calls Tryz.prog 260 #[rv,sv] w fun e w'=>e = .returned (.tuple #[.int .u64 0, .slice none 0 0, .int .i64 (c:Int)])∧Below w.heap.size w w'):=H
  clear H hok
  go_enter Tryz.func148,Tryz.ntmps148
  go_upto_region 2 with (go_at_call 260;refine H2.out.mono ?_;rintro e w1 ⟨rfl,hb1⟩;have HB1:=hid hb1;clear hb1)
  go_wp2_with fail
  refine wp_loop_rounds 1 ?_
  rw [rounds_succ]
  go_wp2_with fail
  go_ret
  exact ⟨rfl,HB1.out⟩
 ·have H2:Hid (Calls Tryz.prog 260 #[rv,sv] w fun e w'=>(∃ A m c,e = .returned (.tuple #[.int .u64 (st:Int), .slice A m c, .int .i64 0])∧m=l.length∧w'.ownsRow w.heap.size 368 2 (.slice A m c) m (itCells l))∧Below w.heap.size w w'):=H
  have hl8:=(hok.some_ (st,l) rfl).2.1
  have HL8:Hid (l.length≤8):=hid hl8
  have HOl:Hid (oldR (some (st,l),c)=minL st l):=hid rfl
  generalize oldR (some (st,l),c)=Y at *
  clear H hok hl8
  go_enter Tryz.func148,Tryz.ntmps148
  go_upto_region 2 with (go_at_call 260;refine H2.out.mono ?_;rintro e w1 ⟨⟨A1,m1,c1,rfl,hm1,ho1⟩,hb1⟩;have HB1:=hid hb1;have HM1:=hid hm1;have HO1:=hid ho1;clear hb1 hm1 ho1)
  have HB0:Hid (Below w1.heap.size w1 w1):=hid (Below.refl _ _)
  have HR1:=hid (Reads.of_own HO1.out)
  have hm8:m1≤8:=by rw [HM1.out];exact HL8.out
  go_wp2_with fail
  go_loopw [5,19] (fun v i wr=>∃ k:Nat,k≤m1∧i = .int .i64 (k:Int)∧v = .int .u64 (minL st (l.take k):Int)∧Hid (Below w1.heap.size w1 wr)) (fun _ i _=>m1 - (Go.RowKit.intOf i).toNat)
  case atStart=>exact ⟨0,Nat.zero_le _,rfl,rfl,HB0⟩
  case round =>
   clear HB0
   obtain ⟨k,hk,rfl,rfl,HB⟩:=hrel
   by_cases hlt:k < m1
   ·obtain ⟨hkl,gb,go,hA3,_,f0,f1⟩:=it_facts ((HR1.out.below HB.out).more HB.out.size) (k:=k) hlt
    subst hA3
    have HMin:=hid (minL_take st l k hkl)
    generalize l[k]=p at *
    obtain ⟨pn,pv⟩:=p
    dsimp only at f0 f1 HMin
    have hz5:(0:Int)≤(k:Int):=by omega
    have hz6:(k:Int) < (m1:Int):=by omega
    have HBa:Hid (Below w1.heap.size w1 (wr.alloc (.cells #[.string (strN pn), .int .u64 (pv:Int)] 368))):=hid (HB.out.alloc HB.out.size _)
    generalize minL st (l.take k)=mm at *
    clear hkl
    by_cases hmp:mm≤pv
    ·have hmi:(mm:Int)≤(pv:Int):=by omega
     have HM2:Hid (minL st (l.take (k+1))=mm):=hid (by rw [HMin.out,Nat.min_eq_left hmp])
     clear hmp HMin
     go_wp2_with fail
     go_roundw
     case rel =>
      first
       | exact ⟨k+1,by omega,by go_num,by rw [HM2.out];first | done | rfl | (congr 1;omega),HBa⟩
       | exact ⟨k+1,by omega,by go_num,by rw [HM2.out];first | rfl | (congr 1;omega),HBa⟩
       | (
         repeat apply Exists.intro
         refine ⟨?_,rfl⟩
         exact ⟨k+1,by omega,by go_num,by rw [HM2.out];first | rfl | (congr 1;omega),HBa⟩)
     case measure=>simp [Go.RowKit.intOf];omega
    ·have hmi:(pv:Int) < (mm:Int):=by omega
     have HM2:Hid (minL st (l.take (k+1))=pv):=hid (by rw [HMin.out,Nat.min_eq_right (by omega)])
     clear hmp HMin
     go_wp2_with fail
     go_roundw
     case rel =>
      first
       | exact ⟨k+1,by omega,by go_num,by rw [HM2.out];first | done | rfl | (congr 1;omega),HBa⟩
       | exact ⟨k+1,by omega,by go_num,by rw [HM2.out];first | rfl | (congr 1;omega),HBa⟩
       | (
         repeat apply Exists.intro
         refine ⟨?_,rfl⟩
         exact ⟨k+1,by omega,by go_num,by rw [HM2.out];first | rfl | (congr 1;omega),HBa⟩)
     case measure=>simp [Go.RowKit.intOf];omega
   ·obtain rfl:k=m1:=by omega
    have HT:Hid (l.take k=l):=hid (List.take_of_length_le (by rw [← HM1.out];exact Nat.le_refl _))
    go_wp2_with fail
    go_ret
    rw [HOl.out]
    exact ⟨by rw [HT.out];rfl,HB1.out.trans (HB.out.mono HB1.out.size)⟩
end
end
end Go.Proofs.YtfkjjoglnmeciaaGreatDoor
