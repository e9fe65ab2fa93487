/- The walks and laws that the claim leans on, part 9. -/
import Derived.Test.YtnlokpakiambaaaGreatDoorJah
import Derived.Deep.Fields
set_option maxRecDepth 100000
set_option maxHeartbeats 16000000
namespace Go.Proofs.YtnlokpakiambaaaGreatDoor
open Go.Lib (hid)
section
open Go.ChangeShapes Go.WideShapes Go.ChangeAt Go.RowKit
theorem reads_elems {α:Type} (cells:α→List Value) (size:Nat) (hs:0 < size) (hlen:∀ x,(cells x).length=size) (w:World) (a:Addr) (ok:α→Prop) :
  ∀ n,(∀ i,i < n→∃ x,ok x∧∀ j,j < size→w.cell? (a.add (i * size+j))=(cells x)[j]?) →
   ∃ l:List α,l.length=n∧(∀ x∈l,ok x)∧(l.flatMap cells).length=n * size∧∀ j u,(l.flatMap cells)[j]?=some u→w.cell? (a.add j)=some u
 | 0,_=>⟨[],rfl,(fun _ h=>by cases h),by simp,(fun j u h=>by simp at h)⟩
 | n+1,h=>by
  obtain ⟨l,h1,h2,h3,h4⟩:=reads_elems cells size hs hlen w a ok n (fun i hi=>h i (by omega))
  obtain ⟨x,hx,hc⟩:=h n (by omega)
  refine ⟨l++[x],by simp [h1],fun y hy=>?_,?_,fun j u hu=>?_⟩
  ·rcases List.mem_append.1 hy with hy | hy
   ·exact h2 y hy
   ·rw [List.mem_singleton] at hy;subst hy;exact hx
  ·simp only [List.flatMap_append,List.length_append,h3,List.flatMap_cons,List.flatMap_nil,List.append_nil,hlen]
   rw [Nat.succ_mul]
  ·simp only [List.flatMap_append,List.flatMap_cons,List.flatMap_nil,List.append_nil] at hu
   rcases Nat.lt_or_ge j (n * size) with hj | hj
   ·rw [List.getElem?_append_left (by omega)] at hu
    exact h4 j u hu
   ·rw [List.getElem?_append_right (by omega),h3] at hu
    have hjl:j - n * size < size:=by
     have:=(List.getElem?_eq_some_iff.1 hu).1
     rw [hlen] at this;exact this
    have:=hc (j - n * size) hjl
    rw [show n * size+(j - n * size)=j by omega] at this
    rw [this];exact hu
theorem one_at {cs:List Value} {j:Nat} {v:Value} (h:(cs.drop j).take 1=[v]):cs[j]?=some v:=by
 have h0:((cs.drop j).take 1)[0]?=some v:=by rw [h];rfl
 rw [List.getElem?_take] at h0
 simpa [List.getElem?_drop] using h0
theorem wf_u8 {n:Int} (hw:(Lit.int .u8 n).wf=true):∃ k:Nat,n=(k:Int)∧k < 256:=by
 have hb:0≤n∧n < 256:=by
  have hm:IntKind.u8.min=0:=by decide
  have hx:IntKind.u8.max=255:=by decide
  simp only [Lit.wf,hm,hx,Bool.and_eq_true,decide_eq_true_eq] at hw
  omega
 exact ⟨n.toNat,by rw [Int.toNat_of_nonneg hb.1],by omega⟩
section
variable {H:Type} {enc:TypeId × Value→H} {w:World} {base:Nat} {sp:Nat→Bool} {held:Bool} {fuel:Nat} {x:DataW H × List MemPlace}
theorem cellsU8:Tryz.prog.cellsOf 5=1:=by kernel_rfl
end
section
variable {H:Type} {enc:TypeId × Value→H} {W:World} {b0 base:Nat} {sp:Nat→Bool} {held:Bool} {v:Value} {d:DataW H} {p:List MemPlace} {r:Reach}
end
end
section
open Go.RowKit
theorem choose_b (g n cap sz a b:Nat) (xs:List Nat) (w:World) (h:SortI w w g xs sz) (hl:xs.length=n) (hb:b≤n) (h8:a+8≤b) (hn:n≤1000000) :
  Calls Tryz.prog 203 #[.slice (some ⟨g,0,none⟩) n cap, .int .i64 (a:Int), .int .i64 (b:Int)] w (RetCh w g xs sz a b):=by
 obtain ⟨l,rfl⟩:∃ l,b=a+l:=⟨b - a,by omega⟩
 exact choose_any g n cap sz a l xs w h hl hb (by omega) hn
theorem break_b (g n cap sz a b:Nat) (xs:List Nat) (w:World) (h:SortI w w g xs sz) (hl:xs.length=n) (hb:b≤n) (h8:a+8≤b) (hn:n≤1000000) (hc:n≤cap) (hcm:cap≤9223372036854775807) :
  Calls Tryz.prog 202 #[.slice (some ⟨g,0,none⟩) n cap, .int .i64 (a:Int), .int .i64 (b:Int)] w (RetSort w g xs sz):=by
 obtain ⟨l,rfl⟩:∃ l,b=a+l:=⟨b - a,by omega⟩
 exact breakP_any g n cap sz a l xs w h hl hb (by omega) hn hc hcm
theorem heap_b (g n cap sz a b:Nat) (xs:List Nat) (w:World) (h:SortI w w g xs sz) (hl:xs.length=n) (hb:b≤n) (h8:a+1≤b) (hn:n≤1000000) (hc:n≤cap) (hcm:cap≤9223372036854775807) :
  Calls Tryz.prog 201 #[.slice (some ⟨g,0,none⟩) n cap, .int .i64 (a:Int), .int .i64 (b:Int)] w (RetSort w g xs sz):=by
 obtain ⟨l,rfl⟩:∃ l,b=a+(l+1):=⟨b - a - 1,by omega⟩
 exact heap_any g n cap sz a l xs w h hl hb hn hc hcm
def PdqB (g n cap sz:Nat) (xs:List Nat) (d:Nat):Prop:=∀ (a b lm:Nat) (w:World),SortI w w g xs sz→a≤b→b≤n→b - a < d→lm≤64 →
  Calls Tryz.prog 159 #[.slice (some ⟨g,0,none⟩) n cap, .int .i64 (a:Int), .int .i64 (b:Int), .int .i64 (lm:Int)] w (RetSort w g xs sz)
theorem pdq_step (g n cap sz a0 b0 lm0:Nat) (xs:List Nat) (w:World) (h:SortI w w g xs sz) (hl:xs.length=n) (hab0:a0≤b0) (hb0:b0≤n) (hlm0:lm0≤64) (hn:n≤1000000) (hc:n≤cap) (hcm:cap≤9223372036854775807) (ih:PdqB g n cap sz xs (b0 - a0)) :
  Calls Tryz.prog 159 #[.slice (some ⟨g,0,none⟩) n cap, .int .i64 (a0:Int), .int .i64 (b0:Int), .int .i64 (lm0:Int)] w (RetSort w g xs sz):=by
 have H:=hid h
 have HL:=hid hl
 have IH:=hid ih
 clear h hl ih
 go_enter Tryz.func159,Tryz.ntmps159
 go_wp2
 go_loopw [1,2,3,8,9] (fun va vb vl v8 v9 wr=>∃ (a b lm:Nat) (p q:Bool),va = .int .i64 (a:Int)∧vb = .int .i64 (b:Int)∧vl = .int .i64 (lm:Int)∧v8 = .bool p∧v9 = .bool q∧a≤b∧b≤n∧lm≤64∧b - a≤b0 - a0∧Hid (SortI w wr g xs sz)) (fun va vb _ _ _ _=>(RowKit.intOf vb).toNat - (RowKit.intOf va).toNat)
 case atStart=>exact ⟨a0,b0,lm0,true,true,rfl,rfl,rfl,rfl,rfl,hab0,hb0,hlm0,Nat.le_refl _,H⟩
 case round =>
  clear H
  obtain ⟨a,b,lm,p,q,rfl,rfl,rfl,rfl,rfl,hab,hb,hlm,hd,H⟩:=hrel
  by_cases h12:b - a≤12
  ·have e1:decide ((b:Int) - (a:Int)≤12)=true:=decide_eq_true (by omega)
   have HI:=hid (insertR_any g n cap sz a b xs wr H.out.self HL.out hab hb hn hc hcm)
   go_wp2_with fail
   refine HI.out.mono ?_
   rintro e w1 ⟨rfl,h1⟩
   have H1:=hid (H.out.trans h1)
   clear h1 HI H
   go_wp2_with fail
   go_end0
   exact ⟨rfl,H1.out⟩
  ·have e1:decide ((b:Int) - (a:Int)≤12)=false:=decide_eq_false (by omega)
   by_cases hz:lm=0
   ·subst hz
    have HI:=hid (heap_b g n cap sz a b xs wr H.out.self HL.out hb (by omega) hn hc hcm)
    go_wp2_with fail
    refine HI.out.mono ?_
    rintro e w1 ⟨rfl,h1⟩
    have H1:=hid (H.out.trans h1)
    clear h1 HI H
    go_wp2_with fail
    go_end0
    exact ⟨rfl,H1.out⟩
   ·have e2:((lm:Int) == 0)=false:=by rw [beq_eq_false_iff_ne];omega
    obtain ⟨lm',rfl⟩:∃ k,lm=k+1:=⟨lm - 1,by omega⟩
    have hab8:a+8≤b:=by omega
    clear h12 hz
    go_upto_if 35 with fail
    go_cut [3] from 19 to 133 (fun v wx=>∃ k:Nat,v = .int .i64 (k:Int)∧k≤64∧Hid (SortI w wx g xs sz))
    case first =>
     cases p
     ·have HI:=hid (break_b g n cap sz a b xs wr H.out.self HL.out hb hab8 hn hc hcm)
      go_wp2_with fail
      refine HI.out.mono ?_
      rintro e w1 ⟨rfl,h1⟩
      have H1:=hid (H.out.trans h1)
      clear h1 HI H
      go_wp2_with fail
      go_meet
      exact ⟨lm',by go_num,by omega,H1⟩
     ·go_wp2_with fail
      go_meet
      exact ⟨lm'+1,by go_num,by omega,H⟩
    case rest =>
     clear H hlm e1 e2
     obtain ⟨lm,rfl,hlm,H⟩:=hcut
     have HC:=hid (choose_b g n cap sz a b xs wc H.out.self HL.out hb hab8 hn)
     go_wp2_with fail
     refine HC.out.mono ?_
     rintro e w1 ⟨m0,k0,rfl,hm1,hm2,h1⟩
     have H1:=hid (H.out.trans h1)
     clear h1 HC H
     go_upto_if 50 with fail
     go_cut [11,12] from 19 to 133 (fun v u wx=>∃ (m:Nat) (k:Int),v = .int .i64 (m:Int)∧u = .int .i64 k∧a≤m∧m < b∧Hid (SortI w wx g xs sz))
     case first =>
      by_cases hk:k0=2
      ·subst hk
       have HR:=hid (reverse_any g n cap sz a b xs w1 H1.out.self HL.out (by omega) hb hn hc hcm)
       obtain ⟨m',hm'⟩:∃ m':Nat,(b:Int) - 1 - ((m0:Int) - (a:Int))=(m':Int)∧a≤m'∧m' < b:=⟨b - 1 - (m0 - a),by omega,by omega,by omega⟩
       have HM:=hid hm'
       clear hm'
       go_wp2_with fail
       refine HR.out.mono ?_
       rintro e w2 ⟨rfl,h2⟩
       have H2:=hid (H1.out.trans h2)
       clear h2 HR H1
       go_wp2_with fail
       go_meet
       exact ⟨m',1,by first | rfl | exact congrArg (Value.int .i64) HM.out.1,rfl,HM.out.2.1,HM.out.2.2,H2⟩
      ·have e3:(k0 == 2)=false:=by rw [beq_eq_false_iff_ne];exact hk
       go_wp2_with fail
       go_meet
       exact ⟨m0,k0,rfl,rfl,hm1,hm2,H1⟩
     case rest =>
      clear H1 hm1 hm2
      obtain ⟨m,k,rfl,rfl,hm1,hm2,H⟩:=hcut
      go_upto_region 15 with fail
      go_cut [68] from 19 to 133 (fun v wx=>∃ bb:Bool,v = .bool bb∧Hid (SortI w wx g xs sz))
      case first =>
       cases p
       ·go_wp2_with fail
        go_meet
        exact ⟨false,rfl,H⟩
       ·cases q
        ·go_wp2_with fail
         go_meet
         exact ⟨false,rfl,H⟩
        ·go_wp2_with fail
         go_meet
         exact ⟨_,rfl,H⟩
      case rest =>
       clear H
       obtain ⟨bb,rfl,H⟩:=hcut
       go_upto_if 68 with fail
       go_cut [13] from 19 to 133 (fun _ wx=>Hid (SortI w wx g xs sz))
       case first =>
        cases bb
        ·go_wp2_with fail
         go_meet
         exact H
        ·have HT:=hid (partialIns_any g n cap sz a b xs wc H.out.self HL.out (by omega) hb hn hc hcm)
         go_wp2_with fail
         refine HT.out.mono ?_
         rintro e w2 ⟨c,rfl,h2⟩
         have H2:=hid (H.out.trans h2)
         clear h2 HT H
         cases c
         ·go_wp2_with fail
          go_meet
          exact H2
         ·go_wp2_with fail
          go_end0
          exact ⟨rfl,H2.out⟩
       case rest =>
        clear H
        have H:=hcut
        clear hcut
        go_upto_region 17 with fail
        go_cut [87] from 19 to 133 (fun v wx=>∃ bb:Bool,v = .bool bb∧Hid (SortI w wx g xs sz))
        case first =>
         by_cases ha:0 < a
         ·obtain ⟨a',rfl⟩:∃ a',a=a'+1:=⟨a - 1,by omega⟩
          have f0:decide ((0:Int) < (a':Int)+1)=true:=decide_eq_true (by omega)
          have f1:(a':Int) < (n:Int):=by omega
          have f2:(m:Int) < (n:Int):=by omega
          have f3:IntKind.i64.wrap (a':Int)=(a':Int):=by rw [IntKind.wrap_i64];omega
          generalize wc=wr at *
          go_wp2_with fail
          obtain ⟨x1,c1,z1⟩:=H.out.at_ (i:=a') (by have:=HL.out;omega)
          obtain ⟨x2,c2,z2⟩:=H.out.at_ (i:=m) (by have:=HL.out;omega)
          obtain ⟨bb,HLs⟩:=less_some x1 x2
          go_quiet ((go_at_call 206;exact Calls.quiet_of_same (HLs.out _)))
          have H1:=hid (H.out.drewN nq)
          clear c1 c2 z1 z2 H
          go_wp2_with fail
          go_meet
          exact ⟨_,rfl,H1⟩
         ·have f0:decide ((0:Int) < (a:Int))=false:=decide_eq_false (by omega)
          go_quiet (fail)
          have H1:=hid (H.out.drewN nq)
          go_wp2_with fail
          go_meet
          exact ⟨false,rfl,H1⟩
        case rest =>
         clear H
         obtain ⟨bb,rfl,H⟩:=hcut
         cases bb
         ·have HP:=hid (partition_any g n cap sz a b m xs wc H.out.self HL.out (by omega) hb hm2 hn hc hcm)
          go_wp2_with fail
          refine HP.out.mono ?_
          rintro e w2 ⟨m2,c,rfl,g1,g2,h2⟩
          have H2:=hid (H.out.trans h2)
          clear h2 HP H
          have I1:=hid (IH.out a m2 lm w2 H2.out.self g1 (by omega) (by omega) hlm)
          have i2:=IH.out (m2+1) b lm w2 H2.out.self (by omega) hb (by omega) hlm
          rw [show ((m2+1:Nat):Int)=(m2:Int)+1 by omega] at i2
          have I2:=hid i2
          clear i2
          by_cases hlr:m2 - a < b - m2
          ·have e3:decide ((m2:Int) - (a:Int) < (b:Int) - (m2:Int))=true:=decide_eq_true (by omega)
           go_wp2_with fail
           refine I1.out.mono ?_
           rintro e w3 ⟨rfl,h3⟩
           have H3:=hid (H2.out.trans h3)
           clear h3 H2 I1 I2
           go_wp2_with fail
           go_roundw
           case rel=>exact ⟨m2+1,b,lm,_,c,by go_num,rfl,rfl,rfl,rfl,by omega,hb,hlm,by omega,H3⟩
           case measure=>simp [RowKit.intOf];omega
          ·have e3:decide ((m2:Int) - (a:Int) < (b:Int) - (m2:Int))=false:=decide_eq_false (by omega)
           go_wp2_with fail
           refine I2.out.mono ?_
           rintro e w3 ⟨rfl,h3⟩
           have H3:=hid (H2.out.trans h3)
           clear h3 H2 I1 I2
           go_wp2_with fail
           go_roundw
           case rel=>exact ⟨a,m2,lm,_,c,rfl,rfl,rfl,rfl,rfl,g1,by omega,hlm,by omega,H3⟩
           case measure=>simp [RowKit.intOf];omega
         ·have HP:=hid (partEqual_any g n cap sz a b m xs wc H.out.self HL.out (by omega) hb hm2 hn hc hcm)
          go_wp2_with fail
          refine HP.out.mono ?_
          rintro e w2 ⟨m2,rfl,g1,g2,h2⟩
          have H2:=hid (H.out.trans h2)
          clear h2 HP H
          go_wp2_with fail
          go_roundw
          case rel=>exact ⟨m2,b,lm,p,q,rfl,rfl,rfl,rfl,rfl,g2,hb,hlm,by omega,H2⟩
          case measure=>simp [RowKit.intOf];omega
theorem pdq_any (g n cap sz:Nat) (xs:List Nat) (hl:xs.length=n) (hn:n≤1000000) (hc:n≤cap) (hcm:cap≤9223372036854775807):∀ d,PdqB g n cap sz xs d
 | 0=>fun a b lm w h hab hb hd hlm=>absurd hd (by omega)
 | d+1=>fun a b lm w h hab hb hd hlm=>pdq_step g n cap sz a b lm xs w h hl hab hb hlm hn hc hcm (fun a' b' lm' w' h' k1 k2 k3 k4=>pdq_any g n cap sz xs hl hn hc hcm d a' b' lm' w' h' k1 k2 (by omega) k4)
theorem sort_any (g n cap sz:Nat) (xs:List Nat) (w:World) (h:SortI w w g xs sz) (hl:xs.length=n) (hn:n≤1000000) (hc:n≤cap) (hcm:cap≤9223372036854775807) :
  Calls Tryz.prog 111 #[.slice (some ⟨g,0,none⟩) n cap] w (RetSort w g xs sz):=by
 have e1:IntKind.u64.wrap (n:Int)=(n:Int):=by rw [IntKind.wrap_u64];omega
 have HLn:=hid (len_any n w hn)
 have hk:Lib.bitLen n≤20:=Lib.bitLen_le n 20 (by omega) (by omega)
 have HP:=hid (pdq_any g n cap sz xs hl hn hc hcm (n+1) 0 n (Lib.bitLen n) w h (by omega) (Nat.le_refl _) (by omega) (by omega))
 generalize Lib.bitLen n=k at *
 clear h hl
 go_enter Tryz.func111,Tryz.ntmps111
 go_wp2_with (first
  | (go_at_call 136;refine HLn.out.mono ?_;rintro e w' ⟨rfl,rfl⟩)
  | (go_at_call 159;refine HP.out.mono ?_;rintro e w1 ⟨rfl,h1⟩;have H1:=hid h1;clear h1))
 go_end0
 exact ⟨rfl,H1.out⟩
end
section
open Go.RowKit
theorem redoRecover_idle {a:DA} {L T:Nat} {w:World} {S:Fp} {cur:Nat→Nat} {F:Nat} (h:Dev a L T w S cur F) (g s n:Nat) (hB:Blk w g 231 (logCells a s n)) (hs:s < L) (h0:cur (8 * s)=0) :
  Calls Tryz.prog 146 #[.pointer (some ⟨g,0,none⟩)] w fun e w'=>e = .returned (.tuple #[.int .i64 0, .int .i64 0])∧Below w.heap.size w w':=by
 have HL:=hid (look_idle h g s n hB hs h0)
 have HD:=hid h
 have HBB:=hid hB
 have c0:w.cell? ⟨g,0,none⟩=some (memV a):=hB.cell 0
 obtain ⟨ls,exe,per,cs,lsC,hdc,hnt⟩:=h
 obtain ⟨f0,_,_,_,f4⟩:=hdc.facts (j:=0) (by omega)
 have hmE:=methErr (some ⟨a.th 0,0,none⟩)
 have hq:=eqMem (some ⟨a.th 0,0,none⟩)
 clear hdc hnt hB
 unfold memV at *
 go_enter Tryz.func146,Tryz.ntmps146
 go_wp2_with (first
  | (go_at_call 188;refine HL.out.mono ?_;rintro e w1 ⟨rfl,hb1⟩;have HW:=hid hb1;have d0:w1.cell? ⟨g,0,none⟩=some (.iface 41 (.pointer (some ⟨a.th 0,0,none⟩))):=(HBB.out.below hb1 HBB.out.lt).cell 0;obtain ⟨ls1,exe1,per1,cs1,lsC1,hdc1,hnt1⟩:=HD.out.below hb1;obtain ⟨k0,_,_,_,k4⟩:=hdc1.facts (j:=0) (by omega);clear hb1 hdc1 hnt1)
  | go_in)
 go_ret2
 exact ⟨rfl,HW.out⟩
end
section
open Go.RowKit
theorem saved_none {a:DA} {L T:Nat} {w:World} {S:Fp} {cur:Nat→Nat} {F:Nat} (h:Dev a L T w S cur F) (g s n:Nat) (hB:Blk w g 322 (ulogCells a s n)) (hs:s < L) (hn:2≤n) (hn2:n≤4096) (h0:cur (8 * s)=0) :
  Calls Tryz.prog 253 #[.pointer (some ⟨g,0,none⟩)] w fun e w'=>e = .returned (.slice none 0 0)∧Below w.heap.size w w':=by
 have HLd:=hid (load_at h (64 * s) 0 (by omega) (by omega) (by rw [show 64 * s / 8=8 * s by omega];exact h0))
 have hm:=methLoad (some ⟨a.th 0,0,none⟩)
 have hna:=aheadLoad ⟨a.th 0,0,none⟩
 have hq:=eqMem (some ⟨a.th 0,0,none⟩)
 have HBB:=hid hB
 have f0:w.cell? ⟨g,0,none⟩=some (memV a):=hB.cell 0
 have f1:w.cell? ⟨g,1,none⟩=some (.int .u64 ((64 * s:Nat):Int)):=hB.cell 1
 have HB0:Hid (Below w.heap.size w w.drew):=(Below.refl _ _).drew
 have u1:IntKind.u64.wrap (4 * ((n:Int) - 1))=4 * ((n:Int) - 1):=by rw [IntKind.wrap_u64];omega
 have e1:decide (4 * ((n:Int) - 1) < 0)=false:=decide_eq_false (by omega)
 have hz0:(2:Int)≤(n:Int):=by omega
 have hz1:(n:Int)≤4096:=by omega
 unfold memV at *
 generalize 64 * s=z at *
 clear hB h
 go_enter Tryz.func253,Tryz.ntmps253
 go_wp2
 go_cut [4] from 14 to 22 (fun v wx=>v = .int .u64 0∧Hid (Below w.heap.size w wx))
 case first =>
  go_region_with (go_at_call 53;refine (HLd.out _ HB0.out).mono ?_;rintro e w1 ⟨rfl,rfl⟩)
  all_goals (go_wp2_with fail;go_meet;exact ⟨rfl,HB0⟩)
 case rest =>
  obtain ⟨rfl,HW⟩:=hcut
  have k0:wc.cell? ⟨g,0,none⟩=some (.iface 41 (.pointer (some ⟨a.th 0,0,none⟩))):=(HBB.out.below HW.out HBB.out.lt).cell 0
  have k2:wc.cell? ⟨g,2,none⟩=some (.int .i64 (n:Int)):=(HBB.out.below HW.out HBB.out.lt).cell 2
  go_wp2
  go_loopw [5,30] (fun l i wr=>l = .slice none 0 0∧i = .int .i64 0∧Hid (Below w.heap.size w wr)) (fun _ _ _=>0)
  case atStart=>exact ⟨rfl,rfl,HW⟩
  case round =>
   obtain ⟨rfl,rfl,HR⟩:=hrel
   go_wp2
   go_ret
   exact ⟨rfl,HR.out⟩
theorem entries_none {a:DA} {L T:Nat} {w:World} {S:Fp} {cur:Nat→Nat} {F:Nat} (h:Dev a L T w S cur F) (g s n:Nat) (hB:Blk w g 322 (ulogCells a s n)) (hs:s < L) (hn:2≤n) (hn2:n≤4096) (h0:cur (8 * s)=0) :
  Calls Tryz.prog 229 #[.pointer (some ⟨g,0,none⟩)] w fun e w'=>e = .returned (.tuple #[.slice none 0 0, .int .i64 0])∧Below w.heap.size w w':=by
 have HL:=hid (saved_none h g s n hB hs hn hn2 h0)
 have HD:=hid h
 have HBB:=hid hB
 have c0:w.cell? ⟨g,0,none⟩=some (memV a):=hB.cell 0
 obtain ⟨ls,exe,per,cs,lsC,hdc,hnt⟩:=h
 obtain ⟨f0,_,_,_,f4⟩:=hdc.facts (j:=0) (by omega)
 have hmE:=methErr (some ⟨a.th 0,0,none⟩)
 have hq:=eqMem (some ⟨a.th 0,0,none⟩)
 clear hdc hnt hB
 unfold memV at *
 go_enter Tryz.func229,Tryz.ntmps229
 go_wp2_with (first
  | (go_at_call 253;refine HL.out.mono ?_;rintro e w1 ⟨rfl,hb1⟩;have HW:=hid hb1;have d0:w1.cell? ⟨g,0,none⟩=some (.iface 41 (.pointer (some ⟨a.th 0,0,none⟩))):=(HBB.out.below hb1 HBB.out.lt).cell 0;obtain ⟨ls1,exe1,per1,cs1,lsC1,hdc1,hnt1⟩:=HD.out.below hb1;obtain ⟨k0,_,_,_,k4⟩:=hdc1.facts (j:=0) (by omega);clear hb1 hdc1 hnt1)
  | go_in)
 go_ret2
 exact ⟨rfl,HW.out⟩
end
section
open Go.RowKit
structure BK where
 gen:Nat
 kind:Nat
 st:Nat
def BK.x (b:BK):Nat:=b.gen+b.kind * 65536+b.st * 16777216
def BK.w (b:BK):Nat:=sealW b.x
def BK.v (b:BK):Value := .agg #[.int .u16 (b.gen:Int), .int .u8 (b.kind:Int), .int .u8 (b.st:Int)]
structure BK.In (b:BK):Prop where
 g:b.gen < 65536
 k:b.kind < 256
 s:b.st < 256
theorem BK.In.x {b:BK} (h:b.In):b.x < 4294967296:=by
 have:=h.g;have:=h.k;have:=h.s
 unfold BK.x;omega
def BK.good (b:BK):Bool:=if b.st=176 then b.gen != 0 && b.kind == 0 else if b.st=177 then b.gen != 0 && b.kind != 0 && decide (b.kind≤127) else if b.st=178 then b.gen == 65535 && b.kind == 0 else false
def chV (a:DA) (ln c o g:Nat):Value := .agg #[memV a, .int .i64 (ln:Int), .int .i64 (c:Int), .int .i64 (o:Int), .int .u16 (g:Int)]
theorem bk_or (g k s:Nat) (hg:g < 65536) (hk:k < 256) (hs:s < 256):bits .or .u32 (bits .or .u32 (g:Int) ((k:Int) * 65536)) ((s:Int) * 16777216)=((g+k * 65536+s * 16777216:Nat):Int):=by
 rw [Go.u32_or16 (y:=(g:Int)) (x:=(k:Int) * 65536) (by omega) (by omega) (by omega) (by omega) (by omega)]
 rw [Go.u32_or24 (y:=(g:Int)+(k:Int) * 65536) (x:=(s:Int) * 16777216) (by omega) (by omega) (by omega) (by omega) (by omega)]
 omega
section
theorem bkWord_any (b:BK) (hb:b.In) (w:World) (ht:Tab w):Calls Tryz.prog 219 #[b.v] w fun e w'=>e = .returned (.int .u64 (b.w:Int))∧Below w.heap.size w w':=by
 obtain ⟨g,k,s⟩:=b
 obtain ⟨hg,hk,hs⟩:=hb
 have hbx:Below w.heap.size w (w.alloc (.cells #[.int .u16 (g:Int), .int .u8 (k:Int), .int .u8 (s:Int)] 286)):=(Below.refl _ w).alloc (Nat.le_refl _) _
 have HS:=hid (seal_any (BK.x ⟨g,k,s⟩) (BK.In.x ⟨hg,hk,hs⟩) _ (ht.below hbx))
 have HB:=hid hbx
 have e1:IntKind.u32.wrap (g:Int)=(g:Int):=by rw [IntKind.wrap_u32];dsimp only at hg;omega
 have e2:IntKind.u32.wrap (k:Int)=(k:Int):=by rw [IntKind.wrap_u32];dsimp only at hk;omega
 have e3:IntKind.u32.wrap (s:Int)=(s:Int):=by rw [IntKind.wrap_u32];dsimp only at hs;omega
 have e4:bits .or .u32 (bits .or .u32 (g:Int) ((k:Int) * 65536)) ((s:Int) * 16777216)=(BK.x ⟨g,k,s⟩:Int):=bk_or g k s hg hk hs
 unfold BK.w BK.v
 dsimp only at hg hk hs ⊢
 clear ht hbx
 generalize BK.x ⟨g,k,s⟩=xx at *
 generalize sealW xx=z at *
 go_enter Tryz.func219,Tryz.ntmps219
 go_wp2_with fail
 refine HS.out.mono ?_
 rintro e w1 ⟨rfl,hb1⟩
 have HB1:=hid (HB.out.trans (hb1.mono HB.out.size))
 clear hb1 HS
 go_wp2
 go_ret
 exact ⟨rfl,HB1.out⟩
theorem sealed_any (b:BK) (hb:b.In) (w:World) (ht:Tab w):Calls Tryz.prog 212 #[.int .u64 (b.w:Int)] w fun e w'=>e = .returned (.tuple #[b.v, .bool true])∧Below w.heap.size w w':=by
 obtain ⟨g,k,s⟩:=b
 have hx:=hb.x
 obtain ⟨hg,hk,hs⟩:=hb
 dsimp only at hg hk hs
 have hbx:Below w.heap.size w (w.alloc (.cells #[.int .u16 0, .int .u8 0, .int .u8 0] 286)):=(Below.refl _ w).alloc (Nat.le_refl _) _
 have HS:=hid (seal_any (BK.x ⟨g,k,s⟩) hx _ (ht.below hbx))
 have HB:=hid hbx
 have hxx:BK.x ⟨g,k,s⟩=g+k * 65536+s * 16777216:=rfl
 have e1:IntKind.u32.wrap ((sealW (BK.x ⟨g,k,s⟩):Nat):Int)=(BK.x ⟨g,k,s⟩:Int):=by rw [IntKind.wrap_u32];unfold sealW;omega
 have e2:IntKind.u16.wrap (BK.x ⟨g,k,s⟩:Int)=(g:Int):=by rw [IntKind.wrap_u16];omega
 have e3:IntKind.u8.wrap ((BK.x ⟨g,k,s⟩:Int) / 65536)=(k:Int):=by rw [IntKind.wrap_u8];omega
 have e4:IntKind.u8.wrap ((BK.x ⟨g,k,s⟩:Int) / 16777216)=(s:Int):=by rw [IntKind.wrap_u8];omega
 unfold BK.w BK.v
 dsimp only
 clear ht hbx hxx
 generalize BK.x ⟨g,k,s⟩=xx at *
 generalize sealW xx=z at *
 go_enter Tryz.func212,Tryz.ntmps212
 go_wp2_with fail
 refine HS.out.mono ?_
 rintro e w1 ⟨rfl,hb1⟩
 have hb2:=HB.out.trans (hb1.mono HB.out.size)
 have HBk:=(Blk.new w 286 #[.int .u16 0, .int .u8 0, .int .u8 0]).below hb1 (by simp)
 have c0:w1.cell? ⟨w.heap.size,0,none⟩=some (.int .u16 0):=HBk.cell 0
 have c1:w1.cell? ⟨w.heap.size,1,none⟩=some (.int .u8 0):=HBk.cell 1
 have c2:w1.cell? ⟨w.heap.size,2,none⟩=some (.int .u8 0):=HBk.cell 2
 have z0:w1.frozen? ⟨w.heap.size,0,none⟩=false:=HBk.frozen 0
 have z1:w1.frozen? ⟨w.heap.size,1,none⟩=false:=HBk.frozen 1
 have z2:w1.frozen? ⟨w.heap.size,2,none⟩=false:=HBk.frozen 2
 have HB1:=hid hb2
 clear hb1 hb2 HBk HS
 go_wp2
 have n01:(⟨w.heap.size,0,none⟩:Addr)≠⟨w.heap.size,1,none⟩:=by simp
 have n02:(⟨w.heap.size,0,none⟩:Addr)≠⟨w.heap.size,2,none⟩:=by simp
 have n12:(⟨w.heap.size,1,none⟩:Addr)≠⟨w.heap.size,2,none⟩:=by simp
 refine bodyPost_ret (v := .tuple #[.agg #[.int .u16 (g:Int), .int .u8 (k:Int), .int .u8 (s:Int)], .bool true]) (by simp [results,Tryz.results212,go_sem,c0,c1,c2]) rfl ⟨rfl,?_⟩
 exact ((HB1.out.setCell (p:=⟨w.heap.size,0,none⟩) (Nat.le_refl _) (.int .u16 (g:Int))).setCell (p:=⟨w.heap.size,1,none⟩) (Nat.le_refl _) (.int .u8 (k:Int))).setCell (p:=⟨w.heap.size,2,none⟩) (Nat.le_refl _) (.int .u8 (s:Int))
theorem nz_facts {x:Nat} (h:¬x=0):((x:Int) == 0)=false∧((x:Int) != 0)=true∧(x == 0)=false∧(x != 0)=true:=by
 have e1:((x:Int) == 0)=false:=by rw [beq_eq_false_iff_ne];omega
 have e2:(x == 0)=false:=by rw [beq_eq_false_iff_ne];exact h
 exact ⟨e1,by simp only [bne,e1,Bool.not_false],e2,by simp only [bne,e2,Bool.not_false]⟩
theorem good_any (b:BK) (hb:b.In) (w:World):Calls Tryz.prog 218 #[b.v] w fun e w'=>e = .returned (.bool b.good)∧Below w.heap.size w w':=by
 obtain ⟨g,k,s⟩:=b
 obtain ⟨hg,hk,hs⟩:=hb
 dsimp only at hg hk hs
 generalize hr:(BK.mk g k s).good=r
 unfold BK.good at hr
 dsimp only at hr
 have HR:=hid hr
 clear hr
 unfold BK.v
 dsimp only
 by_cases h1:s=176
 ·subst h1
  by_cases hg0:g=0
  ·subst hg0
   go_enter Tryz.func218,Tryz.ntmps218
   go_wp2
   go_ret
   exact ⟨by rw [← HR.out];simp,(Below.refl _ w).alloc (Nat.le_refl _) _⟩
  ·obtain ⟨g1,g2,g3,g4⟩:=nz_facts hg0
   by_cases hk0:k=0
   ·subst hk0
    go_enter Tryz.func218,Tryz.ntmps218
    go_wp2
    go_ret
    exact ⟨by rw [← HR.out];simp [g4],(Below.refl _ w).alloc (Nat.le_refl _) _⟩
   ·obtain ⟨k1,k2,k3,k4⟩:=nz_facts hk0
    go_enter Tryz.func218,Tryz.ntmps218
    go_wp2
    go_ret
    exact ⟨by rw [← HR.out];simp [g4,k3],(Below.refl _ w).alloc (Nat.le_refl _) _⟩
 ·have s1:((s:Int) == 176)=false:=by rw [beq_eq_false_iff_ne];omega
  by_cases h2:s=177
  ·subst h2
   by_cases hg0:g=0
   ·subst hg0
    go_enter Tryz.func218,Tryz.ntmps218
    go_wp2
    go_ret
    exact ⟨by rw [← HR.out];simp,(Below.refl _ w).alloc (Nat.le_refl _) _⟩
   ·obtain ⟨g1,g2,g3,g4⟩:=nz_facts hg0
    by_cases hk0:k=0
    ·subst hk0
     go_enter Tryz.func218,Tryz.ntmps218
     go_wp2
     go_ret
     exact ⟨by rw [← HR.out];simp,(Below.refl _ w).alloc (Nat.le_refl _) _⟩
    ·obtain ⟨k1,k2,k3,k4⟩:=nz_facts hk0
     by_cases hk7:k≤127
     ·have k5:decide ((k:Int)≤127)=true:=decide_eq_true (by omega)
      go_enter Tryz.func218,Tryz.ntmps218
      go_wp2
      go_ret
      exact ⟨by rw [← HR.out];simp [g4,k4,hk7],(Below.refl _ w).alloc (Nat.le_refl _) _⟩
     ·have k5:decide ((k:Int)≤127)=false:=decide_eq_false (by omega)
      go_enter Tryz.func218,Tryz.ntmps218
      go_wp2
      go_ret
      exact ⟨by rw [← HR.out];simp [hk7],(Below.refl _ w).alloc (Nat.le_refl _) _⟩
  ·have s2:((s:Int) == 177)=false:=by rw [beq_eq_false_iff_ne];omega
   by_cases h3:s=178
   ·subst h3
    by_cases hg0:g=65535
    ·subst hg0
     by_cases hk0:k=0
     ·subst hk0
      go_enter Tryz.func218,Tryz.ntmps218
      go_wp2
      go_ret
      exact ⟨by rw [← HR.out];simp,(Below.refl _ w).alloc (Nat.le_refl _) _⟩
     ·obtain ⟨k1,k2,k3,k4⟩:=nz_facts hk0
      go_enter Tryz.func218,Tryz.ntmps218
      go_wp2
      go_ret
      exact ⟨by rw [← HR.out];simp [k3],(Below.refl _ w).alloc (Nat.le_refl _) _⟩
    ·have g1:((g:Int) == 65535)=false:=by rw [beq_eq_false_iff_ne];omega
     go_enter Tryz.func218,Tryz.ntmps218
     go_wp2
     go_ret
     exact ⟨by rw [← HR.out];simp [hg0],(Below.refl _ w).alloc (Nat.le_refl _) _⟩
   ·have s3:((s:Int) == 178)=false:=by rw [beq_eq_false_iff_ne];omega
    go_enter Tryz.func218,Tryz.ntmps218
    go_wp2
    go_ret
    exact ⟨by rw [← HR.out];simp [h1,h2,h3],(Below.refl _ w).alloc (Nat.le_refl _) _⟩
theorem chClass_any (a:DA) (ln c o g:Nat) (w:World):Calls Tryz.prog 139 #[chV a ln c o g] w fun e w'=>e = .returned (.int .i64 (c:Int))∧Below w.heap.size w w':=by
 have HB:=hid ((Below.refl _ w).alloc (Nat.le_refl _) (.cells #[memV a, .int .i64 (ln:Int), .int .i64 (c:Int), .int .i64 (o:Int), .int .u16 (g:Int)] 221))
 have hq:=eqMem (some ⟨a.th 0,0,none⟩)
 unfold chV
 unfold memV at *
 go_enter Tryz.func139,Tryz.ntmps139
 go_wp2
 go_ret
 exact ⟨rfl,HB.out⟩
theorem chBlocks_any (a:DA) (ln c o g:Nat) (hc:c < 5) (w:World) (hp:Pay w):Calls Tryz.prog 249 #[chV a ln c o g] w fun e w'=>e = .returned (.int .i64 (perC c:Int))∧Below w.heap.size w w':=by
 have hba:Below w.heap.size w (w.alloc (.cells #[memV a, .int .i64 (ln:Int), .int .i64 (c:Int), .int .i64 (o:Int), .int .u16 (g:Int)] 221)):=(Below.refl _ w).alloc (Nat.le_refl _) _
 have HB:=hid hba
 have HC:=hid (chClass_any a ln c o g (w.alloc (.cells #[memV a, .int .i64 (ln:Int), .int .i64 (c:Int), .int .i64 (o:Int), .int .u16 (g:Int)] 221)))
 have HP:Hid (∀ W,Below w.heap.size w W→Calls Tryz.prog 184 #[.int .i64 (c:Int)] W fun e w'=>e = .returned (.int .i64 (perC c:Int))∧W=w'):=hid (fun W hW=>perChunk_any c hc W (hp.below hW))
 clear hba hp
 unfold chV at *
 unfold memV at *
 go_enter Tryz.func249,Tryz.ntmps249
 go_wp2_with fail
 refine HC.out.mono ?_
 rintro e w1 ⟨rfl,hb1⟩
 have HB1:=hid (HB.out.trans (hb1.mono HB.out.size))
 have HP1:=hid (HP.out w1 HB1.out)
 clear hb1 HC HP HB
 go_wp2_with fail
 refine HP1.out.mono ?_
 rintro e w2 ⟨rfl,rfl⟩
 go_wp2
 go_ret
 exact ⟨rfl,HB1.out⟩
theorem chHas_any (a:DA) (ln c o g i:Nat) (hc:c < 5) (w:World) (hp:Pay w):Calls Tryz.prog 217 #[chV a ln c o g, .int .i64 (i:Int)] w fun e w'=>e = .returned (.bool (decide (i < perC c)))∧Below w.heap.size w w':=by
 have hba:Below w.heap.size w (w.alloc (.cells #[memV a, .int .i64 (ln:Int), .int .i64 (c:Int), .int .i64 (o:Int), .int .u16 (g:Int)] 221)):=(Below.refl _ w).alloc (Nat.le_refl _) _
 have HB:=hid hba
 have HC:=hid (chBlocks_any a ln c o g hc _ (hp.below hba))
 have d1:decide ((i:Int) < (perC c:Int))=decide (i < perC c):=by
  by_cases h:i < perC c
  ·rw [decide_eq_true h,decide_eq_true (by omega)]
  ·rw [decide_eq_false h,decide_eq_false (by omega)]
 have h0:(0:Int)≤(i:Int):=by omega
 clear hba hp
 unfold chV at *
 unfold memV at *
 generalize perC c=r at *
 go_enter Tryz.func217,Tryz.ntmps217
 go_wp2_with fail
 refine HC.out.mono ?_
 rintro e w1 ⟨rfl,hb1⟩
 have HB1:=hid (HB.out.trans (hb1.mono HB.out.size))
 clear hb1 HC HB
 go_wp2
 go_ret
 exact ⟨by first | rfl | (simp) ,HB1.out⟩
end
end
section
open Go.RowKit Go.Maps
structure CX where
 w0:World
 a:DA
 x:SA
 gw:Nat
 cs:Array Value
section
variable {c:CX} {w w':World} {S:Fp} {lk:Bool} {last:Option Addr} {cur:Nat→Nat} {T:Nat}
end
structure TX where
 words:Nat
 inner:Nat
 own:Nat
 freed:Nat
 held:Nat
 cover:Nat
 outside:Bool
 surplus:Bool
 open_ : Bool
 mode:Nat
 marks:Value
 ids:Nat
 tail:Value
section
variable {c:CX} {g:Nat} {w w':World} {S:Fp} {t:TX} {D:DataW Unit} {n:Nat} {cur:Nat→Nat} {T:Nat}
end
end
section
open Go.RowKit
theorem sort_small (g n cap sz:Nat) (xs:List Nat) (w:World) (h:SortI w w g xs sz) (hl:xs.length=n) (hn:n≤1000000) (hc:n≤cap) (hcm:cap≤9223372036854775807) :
  Calls Tryz.prog 111 #[.slice (some ⟨g,0,none⟩) n cap] w (RetSort w g xs sz):=sort_any g n cap sz xs w h hl hn hc hcm
end
section
open Go.RowKit
theorem loadU_none {a:DA} {L T:Nat} {w:World} {S:Fp} {cur:Nat→Nat} {F:Nat} (h:Dev a L T w S cur F) (g s n:Nat) (hB:Blk w g 322 (ulogCells a s n)) (hs:s < L) (hn:2≤n) (hn2:n≤4096) (h0:cur (8 * s)=0) :
  Calls Tryz.prog 189 #[.pointer (some ⟨g,0,none⟩)] w fun e w'=>e = .returned (.tuple #[.slice none 0 0, .bool true, .int .i64 0])∧Below w.heap.size w w':=by
 have HL:=hid (entries_none h g s n hB hs hn hn2 h0)
 clear h hB
 go_enter Tryz.func189,Tryz.ntmps189
 go_wp2_with (go_at_call 229;refine HL.out.mono ?_;rintro e w1 ⟨rfl,hb1⟩;have HW:=hid hb1;clear hb1)
 go_loopw [7,20] (fun l i wr=>l = .slice none 0 0∧i = .int .i64 0∧Hid (Below w.heap.size w wr)) (fun _ _ _=>0)
 case atStart=>exact ⟨rfl,rfl,HW⟩
 case round =>
  obtain ⟨rfl,rfl,HR⟩:=hrel
  go_wp2
  go_ret3
  exact ⟨rfl,HR.out⟩
theorem undoRecover_none {a:DA} {L T:Nat} {w:World} {S:Fp} {cur:Nat→Nat} {F:Nat} (h:Dev a L T w S cur F) (g s n:Nat) (hB:Blk w g 322 (ulogCells a s n)) (hs:s < L) (hn:2≤n) (hn2:n≤4096) (h0:cur (8 * s)=0) :
  Calls Tryz.prog 148 #[.pointer (some ⟨g,0,none⟩)] w fun e w'=>e = .returned (.tuple #[.int .i64 0, .int .i64 0])∧Below w.heap.size w w':=by
 have HL:=hid (loadU_none h g s n hB hs hn hn2 h0)
 clear h hB
 go_enter Tryz.func148,Tryz.ntmps148
 go_wp2_with (go_at_call 189;refine HL.out.mono ?_;rintro e w1 ⟨rfl,hb1⟩;have HW:=hid hb1;clear hb1)
 go_ret2
 exact ⟨rfl,HW.out⟩
end
section
open Go.RowKit
theorem look_core {a:DA} {L T:Nat} {w:World} {S:Fp} {cur:Nat→Nat} {F:Nat} (h:Dev a L T w S cur F) (c:Nat) (hc:c+32≤L) (V:Nat) (x0 x1 x2:Int) (hv:cur (8 * c)=V)
  (hh:∀ W,Below w.heap.size w W→Calls Tryz.prog 210 #[.int .u64 (V:Int)] W fun e w'=>e = .returned (.tuple #[.agg #[.int .i64 x0, .int .i64 x1, .int .u16 x2], .bool true])∧Below W.heap.size W w') :
  Calls Tryz.prog 160 #[memV a, .int .i64 (c:Int)] w fun e w'=>e = .returned (.tuple #[.agg #[.int .i64 x0, .int .i64 x1, .int .u16 x2], .int .i64 0])∧Below w.heap.size w w':=by
 have HLd:=hid (load_at h (64 * c) V (by omega) (by omega) (by rw [show 64 * c / 8=8 * c by omega];exact hv))
 have HD:=hid h
 have HH:=hid hh
 have hm:=methLoad (some ⟨a.th 0,0,none⟩)
 have hna:=aheadLoad ⟨a.th 0,0,none⟩
 have hmE:=methErr (some ⟨a.th 0,0,none⟩)
 have hmS:=methSize (some ⟨a.th 0,0,none⟩)
 have hq:=eqMem (some ⟨a.th 0,0,none⟩)
 have HB0:Hid (Below w.heap.size w (w.alloc (.cells #[.int .i64 0, .int .i64 0, .int .u16 0] 219))):=(Below.refl _ _).alloc (Nat.le_refl _) _
 obtain ⟨ls,exe,per,cs,lsC,hdc,hnt⟩:=h.below HB0.out
 have hL:=hdc.hL
 obtain ⟨f0,f2,_,_,f4⟩:=hdc.facts (j:=0) (by omega)
 have HBk:=hid (Blk.new w 219 #[.int .i64 0, .int .i64 0, .int .u16 0])
 clear hdc hnt h hh
 unfold memV at *
 have e1:decide ((c:Int) < 0)=false:=decide_eq_false (by omega)
 have u1:IntKind.u64.wrap ((L:Int) * 64)=(L:Int) * 64:=by rw [IntKind.wrap_u64];omega
 have u3:IntKind.u64.wrap (c:Int)=(c:Int):=by rw [IntKind.wrap_u64];omega
 have u4:IntKind.u64.wrap ((L:Int) - 32)=(L:Int) - 32:=by rw [IntKind.wrap_u64];omega
 have u5:IntKind.u64.wrap ((c:Int) * 64)=((64 * c:Nat):Int):=by rw [IntKind.wrap_u64];omega
 have d1:((L:Int) * 64).tdiv 64=(L:Int):=by rw [Int.mul_tdiv_cancel _ (by decide)]
 have e2:decide ((L:Int) < 32)=false:=decide_eq_false (by omega)
 have e3:decide ((L:Int) - 32 < (c:Int))=false:=decide_eq_false (by omega)
 generalize 64 * c=z at *
 go_enter Tryz.func160,Tryz.ntmps160
 go_wp2
 generalize w.alloc (.cells #[.int .i64 0, .int .i64 0, .int .u16 0] 219)=W at *
 have HB1:Hid (Below W.heap.size W W.drew):=(Below.refl _ _).drew
 have HB2:Hid (Below w.heap.size w W.drew):=HB0.out.drew
 go_cut [8] from 38 to 44 (fun v wx=>v = .int .u64 (V:Int)∧Hid (Below W.heap.size W wx))
 case first =>
  go_region_with (first | (go_at_call 53;refine (HLd.out _ HB2.out).mono ?_;rintro e w1 ⟨rfl,rfl⟩) | go_in)
  all_goals (go_wp2_with fail;go_meet;exact ⟨rfl,HB1⟩)
 case rest =>
  obtain ⟨rfl,HW⟩:=hcut
  have HWw:=hid (HB0.out.trans (HW.out.mono HB0.out.size))
  obtain ⟨ls1,exe1,per1,cs1,lsC1,hdc1,hnt1⟩:=HD.out.below HWw.out
  obtain ⟨k0,_,_,_,k4⟩:=hdc1.facts (j:=0) (by omega)
  have HHw:=hid (HH.out wc HWw.out)
  have HBc:=hid (HBk.out.below HW.out HBk.out.lt)
  clear hdc1 hnt1
  go_wp2_with (first
   | (go_at_call 210;refine HHw.out.mono ?_;rintro e w1 ⟨rfl,hb1⟩;have HB3:=hid (HWw.out.trans (hb1.mono HWw.out.size));have hk:=HBc.out.below hb1 HBc.out.lt;have hlt:=hk.lt;have c0:w1.cell? ⟨w.heap.size,0,none⟩=some (.int .i64 0):=hk.cell 0;have c1:w1.cell? ⟨w.heap.size,1,none⟩=some (.int .i64 0):=hk.cell 1;have c2:w1.cell? ⟨w.heap.size,2,none⟩=some (.int .u16 0):=hk.cell 2;have z0:w1.frozen? ⟨w.heap.size,0,none⟩=false:=hk.frozen 0;have z1:w1.frozen? ⟨w.heap.size,1,none⟩=false:=hk.frozen 1;have z2:w1.frozen? ⟨w.heap.size,2,none⟩=false:=hk.frozen 2;clear hb1 hk)
   | go_in)
  refine bodyPost_ret (v := .tuple #[.agg #[.int .i64 x0, .int .i64 x1, .int .u16 x2], .int .i64 0]) (by simp [results,Tryz.results160,go_sem,c0,c1,c2,hlt]) rfl ⟨rfl,?_⟩
  have h1:=((HB3.out.setCell (p:=⟨w.heap.size,0,none⟩) (Nat.le_refl _) (.int .i64 x0)).setCell (p:=⟨w.heap.size,1,none⟩) (Nat.le_refl _) (.int .i64 x1)).setCell (p:=⟨w.heap.size,2,none⟩) (Nat.le_refl _) (.int .u16 x2)
  exact h1.alloc h1.size _
end
end Go.Proofs.YtnlokpakiambaaaGreatDoor
