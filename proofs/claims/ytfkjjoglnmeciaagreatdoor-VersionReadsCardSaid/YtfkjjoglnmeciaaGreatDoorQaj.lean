/- The walks and laws that the claim leans on, part 10. -/
import Derived.Test.YtfkjjoglnmeciaaGreatDoorQai
set_option maxRecDepth 100000
set_option maxHeartbeats 16000000
namespace Go.Proofs.YtfkjjoglnmeciaaGreatDoor
open Go.Lib (hid)
section
open Go.RowKit
theorem choose_b (g n cap sz a b:Nat) (xs:List Nat) (w:World) (h:SortI w w g xs sz) (hl:xs.length=n) (hb:b≤n) (h8:a+8≤b) (hn:n≤1000000) :
  Calls Tryz.prog 254 #[.slice (some ⟨g,0,none⟩) n cap, .int .i64 (a:Int), .int .i64 (b:Int)] w (RetCh w g xs sz a b):=by
 obtain ⟨l,rfl⟩:∃ l,b=a+l:=⟨b - a,oM⟩
 exact choose_any g n cap sz a l xs w h hl hb oM hn
theorem break_b (g n cap sz a b:Nat) (xs:List Nat) (w:World) (h:SortI w w g xs sz) (hl:xs.length=n) (hb:b≤n) (h8:a+8≤b) (hn:n≤1000000) (hc:n≤cap) (hcm:cap≤9223372036854775807) :
  Calls Tryz.prog 253 #[.slice (some ⟨g,0,none⟩) n cap, .int .i64 (a:Int), .int .i64 (b:Int)] w (RetSort w g xs sz):=by
 obtain ⟨l,rfl⟩:∃ l,b=a+l:=⟨b - a,oM⟩
 exact breakP_any g n cap sz a l xs w h hl hb oM hn hc hcm
theorem heap_b (g n cap sz a b:Nat) (xs:List Nat) (w:World) (h:SortI w w g xs sz) (hl:xs.length=n) (hb:b≤n) (h8:a+1≤b) (hn:n≤1000000) (hc:n≤cap) (hcm:cap≤9223372036854775807) :
  Calls Tryz.prog 252 #[.slice (some ⟨g,0,none⟩) n cap, .int .i64 (a:Int), .int .i64 (b:Int)] w (RetSort w g xs sz):=by
 obtain ⟨l,rfl⟩:∃ l,b=a+(l+1):=⟨b - a - 1,oM⟩
 exact heap_any g n cap sz a l xs w h hl hb hn hc hcm
def PdqB (g n cap sz:Nat) (xs:List Nat) (d:Nat):Prop:=∀ (a b lm:Nat) (w:World),SortI w w g xs sz→a≤b→b≤n→b - a < d→lm≤64 →
  Calls Tryz.prog 141 #[.slice (some ⟨g,0,none⟩) n cap, .int .i64 (a:Int), .int .i64 (b:Int), .int .i64 (lm:Int)] w (RetSort w g xs sz)
theorem pdq_step (g n cap sz a0 b0 lm0:Nat) (xs:List Nat) (w:World) (h:SortI w w g xs sz) (hl:xs.length=n) (hab0:a0≤b0) (hb0:b0≤n) (hlm0:lm0≤64) (hn:n≤1000000) (hc:n≤cap) (hcm:cap≤9223372036854775807) (ih:PdqB g n cap sz xs (b0 - a0)) :
  Calls Tryz.prog 141 #[.slice (some ⟨g,0,none⟩) n cap, .int .i64 (a0:Int), .int .i64 (b0:Int), .int .i64 (lm0:Int)] w (RetSort w g xs sz):=by
 have H:=hid h;have HL:=hid hl;have IH:=hid ih;clear h hl ih;go_enter Tryz.func141,Tryz.ntmps141
 go_wp2;go_loopw [1,2,3,8,9] (fun va vb vl v8 v9 wr=>∃ (a b lm:Nat) (p q:Bool),va = .int .i64 (a:Int)∧vb = .int .i64 (b:Int)∧vl = .int .i64 (lm:Int)∧v8 = .bool p∧v9 = .bool q∧a≤b∧b≤n∧lm≤64∧b - a≤b0 - a0∧Hid (SortI w wr g xs sz)) (fun va vb _ _ _ _=>(RowKit.intOf vb).toNat - (RowKit.intOf va).toNat)
 case atStart=>exact ⟨a0,b0,lm0,true,true,rfl,rfl,rfl,rfl,rfl,hab0,hb0,hlm0,nL _,H⟩
 case round =>
  clear H;obtain ⟨a,b,lm,p,q,rfl,rfl,rfl,rfl,rfl,hab,hb,hlm,hd,H⟩:=hrel;by_cases h12:b - a≤12
  ·have e1:decide ((b:Int) - (a:Int)≤12)=true:=dT
   have HI:=hid (insertR_any g n cap sz a b xs wr H.out.self HL.out hab hb hn hc hcm);go_wp2_with fail
   refine HI.out.mono ?_;rintro e w1 ⟨rfl,h1⟩;have H1:=hid (H.out.trans h1);clear h1 HI H;go_wp2_with fail
   go_end0;exact ⟨rfl,H1.out⟩
  ·have e1:decide ((b:Int) - (a:Int)≤12)=false:=dF
   by_cases hz:lm=0
   ·subst hz
    have HI:=hid (heap_b g n cap sz a b xs wr H.out.self HL.out hb oM hn hc hcm);go_wp2_with fail
    refine HI.out.mono ?_;rintro e w1 ⟨rfl,h1⟩;have H1:=hid (H.out.trans h1);clear h1 HI H;go_wp2_with fail
    go_end0;exact ⟨rfl,H1.out⟩
   ·have e2:((lm:Int) == 0)=false:=by rw [beq_eq_false_iff_ne];omega
    obtain ⟨lm',rfl⟩:∃ k,lm=k+1:=⟨lm - 1,oM⟩
    have hab8:a+8≤b:=oM;clear h12 hz;go_upto_if 35 with fail
    go_cut [3] from 19 to 133 (fun v wx=>∃ k:Nat,v = .int .i64 (k:Int)∧k≤64∧Hid (SortI w wx g xs sz))
    case first =>
     cases p
     ·have HI:=hid (break_b g n cap sz a b xs wr H.out.self HL.out hb hab8 hn hc hcm)
      go_wp2_with fail
      refine HI.out.mono ?_;rintro e w1 ⟨rfl,h1⟩;have H1:=hid (H.out.trans h1);clear h1 HI H;go_wp2_with fail
      go_meet;exact ⟨lm',by go_num,oM,H1⟩
     ·go_wp2_with fail
      go_meet;exact ⟨lm'+1,by go_num,oM,H⟩
    case rest =>
     clear H hlm e1 e2;obtain ⟨lm,rfl,hlm,H⟩:=hcut;have HC:=hid (choose_b g n cap sz a b xs wc H.out.self HL.out hb hab8 hn);go_wp2_with fail
     refine HC.out.mono ?_;rintro e w1 ⟨m0,k0,rfl,hm1,hm2,h1⟩;have H1:=hid (H.out.trans h1);clear h1 HC H;go_upto_if 50 with fail
     go_cut [11,12] from 19 to 133 (fun v u wx=>∃ (m:Nat) (k:Int),v = .int .i64 (m:Int)∧u = .int .i64 k∧a≤m∧m < b∧Hid (SortI w wx g xs sz))
     case first =>
      by_cases hk:k0=2
      ·subst hk
       have HR:=hid (reverse_any g n cap sz a b xs w1 H1.out.self HL.out oM hb hn hc hcm);obtain ⟨m',hm'⟩:∃ m':Nat,(b:Int) - 1 - ((m0:Int) - (a:Int))=(m':Int)∧a≤m'∧m' < b:=⟨b - 1 - (m0 - a),oM,oM,oM⟩
       have HM:=hid hm';clear hm';go_wp2_with fail
       refine HR.out.mono ?_;rintro e w2 ⟨rfl,h2⟩;have H2:=hid (H1.out.trans h2);clear h2 HR H1;go_wp2_with fail
       go_meet;exact ⟨m',1,by first | rfl | exact congrArg (Value.int .i64) HM.out.1,rfl,HM.out.2.1,HM.out.2.2,H2⟩
      ·have e3:(k0 == 2)=false:=by rw [beq_eq_false_iff_ne];exact hk
       go_wp2_with fail
       go_meet;exact ⟨m0,k0,rfl,rfl,hm1,hm2,H1⟩
     case rest =>
      clear H1 hm1 hm2;obtain ⟨m,k,rfl,rfl,hm1,hm2,H⟩:=hcut;go_upto_region 15 with fail
      go_cut [68] from 19 to 133 (fun v wx=>∃ bb:Bool,v = .bool bb∧Hid (SortI w wx g xs sz))
      case first =>
       cases p
       ·go_wp2_with fail
        go_meet;exact ⟨false,rfl,H⟩
       ·cases q
        ·go_wp2_with fail
         go_meet;exact ⟨false,rfl,H⟩
        ·go_wp2_with fail
         go_meet;exact ⟨_,rfl,H⟩
      case rest =>
       clear H;obtain ⟨bb,rfl,H⟩:=hcut;go_upto_if 68 with fail
       go_cut [13] from 19 to 133 (fun _ wx=>Hid (SortI w wx g xs sz))
       case first =>
        cases bb
        ·go_wp2_with fail
         go_meet;exact H
        ·have HT:=hid (partialIns_any g n cap sz a b xs wc H.out.self HL.out oM hb hn hc hcm)
         go_wp2_with fail
         refine HT.out.mono ?_;rintro e w2 ⟨c,rfl,h2⟩;have H2:=hid (H.out.trans h2);clear h2 HT H;cases c
         ·go_wp2_with fail
          go_meet;exact H2
         ·go_wp2_with fail
          go_end0;exact ⟨rfl,H2.out⟩
       case rest =>
        clear H;have H:=hcut;clear hcut;go_upto_region 17 with fail
        go_cut [87] from 19 to 133 (fun v wx=>∃ bb:Bool,v = .bool bb∧Hid (SortI w wx g xs sz))
        case first =>
         by_cases ha:0 < a
         ·obtain ⟨a',rfl⟩:∃ a',a=a'+1:=⟨a - 1,oM⟩
          have f0:decide ((0:Int) < (a':Int)+1)=true:=dT;have f1:(a':Int) < (n:Int):=oM;have f2:(m:Int) < (n:Int):=oM;have f3:IntKind.i64.wrap (a':Int)=(a':Int):=by rw [IntKind.wrap_i64];omega
          generalize wc=wr at *;go_wp2_with fail
          obtain ⟨x1,c1,z1⟩:=H.out.at_ (i:=a') (by have:=HL.out;omega);obtain ⟨x2,c2,z2⟩:=H.out.at_ (i:=m) (by have:=HL.out;omega);obtain ⟨bb,HLs⟩:=less_some x1 x2;go_quiet ((go_at_call 257;exact Calls.quiet_of_same (HLs.out _)))
          have H1:=hid (H.out.drewN nq);clear c1 c2 z1 z2 H;go_wp2_with fail
          go_meet;exact ⟨_,rfl,H1⟩
         ·have f0:decide ((0:Int) < (a:Int))=false:=dF
          go_quiet (fail)
          have H1:=hid (H.out.drewN nq);go_wp2_with fail
          go_meet;exact ⟨false,rfl,H1⟩
        case rest =>
         clear H;obtain ⟨bb,rfl,H⟩:=hcut;cases bb
         ·have HP:=hid (partition_any g n cap sz a b m xs wc H.out.self HL.out oM hb hm2 hn hc hcm)
          go_wp2_with fail
          refine HP.out.mono ?_;rintro e w2 ⟨m2,c,rfl,g1,g2,h2⟩;have H2:=hid (H.out.trans h2);clear h2 HP H;have I1:=hid (IH.out a m2 lm w2 H2.out.self g1 oM oM hlm);have i2:=IH.out (m2+1) b lm w2 H2.out.self oM hb oM hlm;rw [show ((m2+1:Nat):Int)=(m2:Int)+1 by omega] at i2;have I2:=hid i2;clear i2;by_cases hlr:m2 - a < b - m2
          ·have e3:decide ((m2:Int) - (a:Int) < (b:Int) - (m2:Int))=true:=dT
           go_wp2_with fail
           refine I1.out.mono ?_;rintro e w3 ⟨rfl,h3⟩;have H3:=hid (H2.out.trans h3);clear h3 H2 I1 I2;go_wp2_with fail
           go_roundw
           case rel=>exact ⟨m2+1,b,lm,_,c,by go_num,rfl,rfl,rfl,rfl,oM,hb,hlm,oM,H3⟩
           case measure=>simp [RowKit.intOf];omega
          ·have e3:decide ((m2:Int) - (a:Int) < (b:Int) - (m2:Int))=false:=dF
           go_wp2_with fail
           refine I2.out.mono ?_;rintro e w3 ⟨rfl,h3⟩;have H3:=hid (H2.out.trans h3);clear h3 H2 I1 I2;go_wp2_with fail
           go_roundw
           case rel=>exact ⟨a,m2,lm,_,c,rfl,rfl,rfl,rfl,rfl,g1,oM,hlm,oM,H3⟩
           case measure=>simp [RowKit.intOf];omega
         ·have HP:=hid (partEqual_any g n cap sz a b m xs wc H.out.self HL.out oM hb hm2 hn hc hcm)
          go_wp2_with fail
          refine HP.out.mono ?_;rintro e w2 ⟨m2,rfl,g1,g2,h2⟩;have H2:=hid (H.out.trans h2);clear h2 HP H;go_wp2_with fail
          go_roundw
          case rel=>exact ⟨m2,b,lm,p,q,rfl,rfl,rfl,rfl,rfl,g2,hb,hlm,oM,H2⟩
          case measure=>simp [RowKit.intOf];omega
theorem pdq_any (g n cap sz:Nat) (xs:List Nat) (hl:xs.length=n) (hn:n≤1000000) (hc:n≤cap) (hcm:cap≤9223372036854775807):∀ d,PdqB g n cap sz xs d
 | 0=>fun a b lm w h hab hb hd hlm=>absurd hd oM
 | d+1=>fun a b lm w h hab hb hd hlm=>pdq_step g n cap sz a b lm xs w h hl hab hb hlm hn hc hcm (fun a' b' lm' w' h' k1 k2 k3 k4=>pdq_any g n cap sz xs hl hn hc hcm d a' b' lm' w' h' k1 k2 oM k4)
theorem sort_any (g n cap sz:Nat) (xs:List Nat) (w:World) (h:SortI w w g xs sz) (hl:xs.length=n) (hn:n≤1000000) (hc:n≤cap) (hcm:cap≤9223372036854775807) :
  Calls Tryz.prog 58 #[.slice (some ⟨g,0,none⟩) n cap] w (RetSort w g xs sz):=by
 have e1:IntKind.u64.wrap (n:Int)=(n:Int):=by rw [IntKind.wrap_u64];omega
 have HLn:=hid (len_any n w hn);have hk:Lib.bitLen n≤20:=Lib.bitLen_le n 20 oM oM;have HP:=hid (pdq_any g n cap sz xs hl hn hc hcm (n+1) 0 n (Lib.bitLen n) w h oM (nL _) oM oM);generalize Lib.bitLen n=k at *;clear h hl;go_enter Tryz.func58,Tryz.ntmps58
 go_wp2_with (first
  | (go_at_call 109;refine HLn.out.mono ?_;rintro e w' ⟨rfl,rfl⟩)
  | (go_at_call 141;refine HP.out.mono ?_;rintro e w1 ⟨rfl,h1⟩;have H1:=hid h1;clear h1))
 go_end0;exact ⟨rfl,H1.out⟩
end
section
open Go.RowKit
theorem redoRecover_idle {a:DA} {L T:Nat} {w:World} {S:Fp} {cur:Nat→Nat} {F:Nat} (h:Dev a L T w S cur F) (g s n:Nat) (hB:Blk w g 353 (logCells a s n)) (hs:s < L) (h0:cur (8 * s)=0) :
  Calls Tryz.prog 179 #[.pointer (some ⟨g,0,none⟩)] w fun e w'=>e = .returned (.tuple #[.int .i64 0, .int .i64 0])∧Below w.heap.size w w':=by
 have HL:=hid (look_idle h g s n hB hs h0);have HD:=hid h;have HBB:=hid hB;have c0:w.cell? ⟨g,0,none⟩=some (memV a):=hB.cell 0;obtain ⟨ls,exe,per,cs,lsC,hdc,hnt⟩:=h;obtain ⟨f0,_,_,_,f4⟩:=hdc.facts (j:=0) oM;have hmE:=methErr (some ⟨a.th 0,0,none⟩);have hq:=eqMem (some ⟨a.th 0,0,none⟩);clear hdc hnt hB;unfold memV at *;go_enter Tryz.func179,Tryz.ntmps179
 go_wp2_with (first
  | (go_at_call 285;refine HL.out.mono ?_;rintro e w1 ⟨rfl,hb1⟩;have HW:=hid hb1;have d0:w1.cell? ⟨g,0,none⟩=some (.iface 58 (.pointer (some ⟨a.th 0,0,none⟩))):=(HBB.out.below hb1 HBB.out.lt).cell 0;obtain ⟨ls1,exe1,per1,cs1,lsC1,hdc1,hnt1⟩:=HD.out.below hb1;obtain ⟨k0,_,_,_,k4⟩:=hdc1.facts (j:=0) oM;clear hb1 hdc1 hnt1)
  | go_in)
 go_ret2;exact ⟨rfl,HW.out⟩
end
section
open Go.RowKit
theorem saved_none {a:DA} {L T:Nat} {w:World} {S:Fp} {cur:Nat→Nat} {F:Nat} (h:Dev a L T w S cur F) (g s n:Nat) (hB:Blk w g 330 (ulogCells a s n)) (hs:s < L) (hn:2≤n) (hn2:n≤4096) (h0:cur (8 * s)=0) :
  Calls Tryz.prog 375 #[.pointer (some ⟨g,0,none⟩)] w fun e w'=>e = .returned (.slice none 0 0)∧Below w.heap.size w w':=by
 have HLd:=hid (load_at h (64 * s) 0 oM oM (by rw [show 64 * s / 8=8 * s by omega];exact h0));have hm:=methLoad (some ⟨a.th 0,0,none⟩);have hna:=aheadLoad ⟨a.th 0,0,none⟩;have hq:=eqMem (some ⟨a.th 0,0,none⟩);have HBB:=hid hB;have f0:w.cell? ⟨g,0,none⟩=some (memV a):=hB.cell 0;have f1:w.cell? ⟨g,1,none⟩=some (.int .u64 ((64 * s:Nat):Int)):=hB.cell 1;have HB0:Hid (Below w.heap.size w w.drew):=(Below.refl _ _).drew;have u1:IntKind.u64.wrap (4 * ((n:Int) - 1))=4 * ((n:Int) - 1):=by rw [IntKind.wrap_u64];omega
 have e1:decide (4 * ((n:Int) - 1) < 0)=false:=dF;have hz0:(2:Int)≤(n:Int):=oM;have hz1:(n:Int)≤4096:=oM;unfold memV at *;generalize 64 * s=z at *;clear hB h;go_enter Tryz.func375,Tryz.ntmps375
 go_wp2;go_cut [4] from 14 to 22 (fun v wx=>v = .int .u64 0∧Hid (Below w.heap.size w wx))
 case first =>
  go_region_with (go_at_call 65;refine (HLd.out _ HB0.out).mono ?_;rintro e w1 ⟨rfl,rfl⟩)
  all_goals (go_wp2_with fail;go_meet;exact ⟨rfl,HB0⟩)
 case rest =>
  obtain ⟨rfl,HW⟩:=hcut;have k0:wc.cell? ⟨g,0,none⟩=some (.iface 58 (.pointer (some ⟨a.th 0,0,none⟩))):=(HBB.out.below HW.out HBB.out.lt).cell 0;have k2:wc.cell? ⟨g,2,none⟩=some (.int .i64 (n:Int)):=(HBB.out.below HW.out HBB.out.lt).cell 2;go_wp2;go_loopw [5,30] (fun l i wr=>l = .slice none 0 0∧i = .int .i64 0∧Hid (Below w.heap.size w wr)) (fun _ _ _=>0)
  case atStart=>exact ⟨rfl,rfl,HW⟩
  case round =>
   obtain ⟨rfl,rfl,HR⟩:=hrel;go_wp2;go_ret;exact ⟨rfl,HR.out⟩
theorem entries_none {a:DA} {L T:Nat} {w:World} {S:Fp} {cur:Nat→Nat} {F:Nat} (h:Dev a L T w S cur F) (g s n:Nat) (hB:Blk w g 330 (ulogCells a s n)) (hs:s < L) (hn:2≤n) (hn2:n≤4096) (h0:cur (8 * s)=0) :
  Calls Tryz.prog 341 #[.pointer (some ⟨g,0,none⟩)] w fun e w'=>e = .returned (.tuple #[.slice none 0 0, .int .i64 0])∧Below w.heap.size w w':=by
 have HL:=hid (saved_none h g s n hB hs hn hn2 h0);have HD:=hid h;have HBB:=hid hB;have c0:w.cell? ⟨g,0,none⟩=some (memV a):=hB.cell 0;obtain ⟨ls,exe,per,cs,lsC,hdc,hnt⟩:=h;obtain ⟨f0,_,_,_,f4⟩:=hdc.facts (j:=0) oM;have hmE:=methErr (some ⟨a.th 0,0,none⟩);have hq:=eqMem (some ⟨a.th 0,0,none⟩);clear hdc hnt hB;unfold memV at *;go_enter Tryz.func341,Tryz.ntmps341
 go_wp2_with (first
  | (go_at_call 375;refine HL.out.mono ?_;rintro e w1 ⟨rfl,hb1⟩;have HW:=hid hb1;have d0:w1.cell? ⟨g,0,none⟩=some (.iface 58 (.pointer (some ⟨a.th 0,0,none⟩))):=(HBB.out.below hb1 HBB.out.lt).cell 0;obtain ⟨ls1,exe1,per1,cs1,lsC1,hdc1,hnt1⟩:=HD.out.below hb1;obtain ⟨k0,_,_,_,k4⟩:=hdc1.facts (j:=0) oM;clear hb1 hdc1 hnt1)
  | go_in)
 go_ret2;exact ⟨rfl,HW.out⟩
end
section
open Go.RowKit
structure BK where
 gen:Nat
 kind:Nat
 st:Nat
def BK.x (b:BK):Nat:=b.gen+b.kind * 65536+b.st * 16777216
def BK.w (b:BK):Nat:=sealW b.x
def BK.v (b:BK):Value := .agg #[.int .u16 (b.gen:Int), .int .u8 (b.kind:Int), .int .u8 (b.st:Int)]
structure BK.In (b:BK):Prop where
 g:b.gen < 65536
 k:b.kind < 256
 s:b.st < 256
theorem BK.In.x {b:BK} (h:b.In):b.x < 4294967296:=by
 have:=h.g;have:=h.k;have:=h.s;unfold BK.x;omega
def BK.good (b:BK):Bool:=if b.st=176 then b.gen != 0 && b.kind == 0 else if b.st=177 then b.gen != 0 && b.kind != 0 && decide (b.kind≤127) else if b.st=178 then b.gen == 65535 && b.kind == 0 else false
def chV (a:DA) (ln c o g:Nat):Value := .agg #[memV a, .int .i64 (ln:Int), .int .i64 (c:Int), .int .i64 (o:Int), .int .u16 (g:Int)]
theorem bk_or (g k s:Nat) (hg:g < 65536) (hk:k < 256) (hs:s < 256):bits .or .u32 (bits .or .u32 (g:Int) ((k:Int) * 65536)) ((s:Int) * 16777216)=((g+k * 65536+s * 16777216:Nat):Int):=by
 rw [Go.u32_or16 (y:=(g:Int)) (x:=(k:Int) * 65536) oM oM oM oM oM];rw [Go.u32_or24 (y:=(g:Int)+(k:Int) * 65536) (x:=(s:Int) * 16777216) oM oM oM oM oM];omega
section
theorem bkWord_any (b:BK) (hb:b.In) (w:World) (ht:Tab w):Calls Tryz.prog 360 #[b.v] w fun e w'=>e = .returned (.int .u64 (b.w:Int))∧Below w.heap.size w w':=by
 obtain ⟨g,k,s⟩:=b;obtain ⟨hg,hk,hs⟩:=hb;have hbx:Below w.heap.size w (w.alloc (.cells #[.int .u16 (g:Int), .int .u8 (k:Int), .int .u8 (s:Int)] 401)):=(Below.refl _ w).alloc (nL _) _;have HS:=hid (seal_any (BK.x ⟨g,k,s⟩) (BK.In.x ⟨hg,hk,hs⟩) _ (ht.below hbx));have HB:=hid hbx;have e1:IntKind.u32.wrap (g:Int)=(g:Int):=by rw [IntKind.wrap_u32];dsimp only at hg;omega
 have e2:IntKind.u32.wrap (k:Int)=(k:Int):=by rw [IntKind.wrap_u32];dsimp only at hk;omega
 have e3:IntKind.u32.wrap (s:Int)=(s:Int):=by rw [IntKind.wrap_u32];dsimp only at hs;omega
 have e4:bits .or .u32 (bits .or .u32 (g:Int) ((k:Int) * 65536)) ((s:Int) * 16777216)=(BK.x ⟨g,k,s⟩:Int):=bk_or g k s hg hk hs;unfold BK.w BK.v;dsimp only at hg hk hs ⊢;clear ht hbx;generalize BK.x ⟨g,k,s⟩=xx at *;generalize sealW xx=z at *;go_enter Tryz.func360,Tryz.ntmps360
 go_wp2_with fail
 refine HS.out.mono ?_;rintro e w1 ⟨rfl,hb1⟩;have HB1:=hid (HB.out.trans (hb1.mono HB.out.size));clear hb1 HS;go_wp2;go_ret;exact ⟨rfl,HB1.out⟩
theorem sealed_any (b:BK) (hb:b.In) (w:World) (ht:Tab w):Calls Tryz.prog 352 #[.int .u64 (b.w:Int)] w fun e w'=>e = .returned (.tuple #[b.v, .bool true])∧Below w.heap.size w w':=by
 obtain ⟨g,k,s⟩:=b;have hx:=hb.x;obtain ⟨hg,hk,hs⟩:=hb;dsimp only at hg hk hs;have hbx:Below w.heap.size w (w.alloc (.cells #[.int .u16 0, .int .u8 0, .int .u8 0] 401)):=(Below.refl _ w).alloc (nL _) _;have HS:=hid (seal_any (BK.x ⟨g,k,s⟩) hx _ (ht.below hbx));have HB:=hid hbx;have hxx:BK.x ⟨g,k,s⟩=g+k * 65536+s * 16777216:=rfl;have e1:IntKind.u32.wrap ((sealW (BK.x ⟨g,k,s⟩):Nat):Int)=(BK.x ⟨g,k,s⟩:Int):=by rw [IntKind.wrap_u32];unfold sealW;omega
 have e2:IntKind.u16.wrap (BK.x ⟨g,k,s⟩:Int)=(g:Int):=by rw [IntKind.wrap_u16];omega
 have e3:IntKind.u8.wrap ((BK.x ⟨g,k,s⟩:Int) / 65536)=(k:Int):=by rw [IntKind.wrap_u8];omega
 have e4:IntKind.u8.wrap ((BK.x ⟨g,k,s⟩:Int) / 16777216)=(s:Int):=by rw [IntKind.wrap_u8];omega
 unfold BK.w BK.v;dsimp only;clear ht hbx hxx;generalize BK.x ⟨g,k,s⟩=xx at *;generalize sealW xx=z at *;go_enter Tryz.func352,Tryz.ntmps352
 go_wp2_with fail
 refine HS.out.mono ?_;rintro e w1 ⟨rfl,hb1⟩;have hb2:=HB.out.trans (hb1.mono HB.out.size);have HBk:=(Blk.new w 401 #[.int .u16 0, .int .u8 0, .int .u8 0]).below hb1 (by simp);have c0:w1.cell? ⟨w.heap.size,0,none⟩=some (.int .u16 0):=HBk.cell 0;have c1:w1.cell? ⟨w.heap.size,1,none⟩=some (.int .u8 0):=HBk.cell 1;have c2:w1.cell? ⟨w.heap.size,2,none⟩=some (.int .u8 0):=HBk.cell 2;have z0:w1.frozen? ⟨w.heap.size,0,none⟩=false:=HBk.frozen 0;have z1:w1.frozen? ⟨w.heap.size,1,none⟩=false:=HBk.frozen 1;have z2:w1.frozen? ⟨w.heap.size,2,none⟩=false:=HBk.frozen 2;have HB1:=hid hb2;clear hb1 hb2 HBk HS;go_wp2;have n01:(⟨w.heap.size,0,none⟩:Addr)≠⟨w.heap.size,1,none⟩:=by simp
 have n02:(⟨w.heap.size,0,none⟩:Addr)≠⟨w.heap.size,2,none⟩:=by simp
 have n12:(⟨w.heap.size,1,none⟩:Addr)≠⟨w.heap.size,2,none⟩:=by simp
 refine bodyPost_ret (v := .tuple #[.agg #[.int .u16 (g:Int), .int .u8 (k:Int), .int .u8 (s:Int)], .bool true]) (by simp [results,Tryz.results352,go_sem,c0,c1,c2]) rfl ⟨rfl,?_⟩;exact ((HB1.out.setCell (p:=⟨w.heap.size,0,none⟩) (nL _) (.int .u16 (g:Int))).setCell (p:=⟨w.heap.size,1,none⟩) (nL _) (.int .u8 (k:Int))).setCell (p:=⟨w.heap.size,2,none⟩) (nL _) (.int .u8 (s:Int))
theorem nz_facts {x:Nat} (h:¬x=0):((x:Int) == 0)=false∧((x:Int) != 0)=true∧(x == 0)=false∧(x != 0)=true:=by
 have e1:((x:Int) == 0)=false:=by rw [beq_eq_false_iff_ne];omega
 have e2:(x == 0)=false:=by rw [beq_eq_false_iff_ne];exact h
 exact ⟨e1,by simp only [bne,e1,Bool.not_false],e2,by simp only [bne,e2,Bool.not_false]⟩
theorem good_any (b:BK) (hb:b.In) (w:World):Calls Tryz.prog 299 #[b.v] w fun e w'=>e = .returned (.bool b.good)∧Below w.heap.size w w':=by
 obtain ⟨g,k,s⟩:=b;obtain ⟨hg,hk,hs⟩:=hb;dsimp only at hg hk hs;generalize hr:(BK.mk g k s).good=r;unfold BK.good at hr;dsimp only at hr;have HR:=hid hr;clear hr;unfold BK.v;dsimp only;by_cases h1:s=176
 ·subst h1
  by_cases hg0:g=0
  ·subst hg0
   go_enter Tryz.func299,Tryz.ntmps299
   go_wp2;go_ret;exact ⟨by rw [← HR.out];simp,(Below.refl _ w).alloc (nL _) _⟩
  ·obtain ⟨g1,g2,g3,g4⟩:=nz_facts hg0
   by_cases hk0:k=0
   ·subst hk0
    go_enter Tryz.func299,Tryz.ntmps299
    go_wp2;go_ret;exact ⟨by rw [← HR.out];simp [g4],(Below.refl _ w).alloc (nL _) _⟩
   ·obtain ⟨k1,k2,k3,k4⟩:=nz_facts hk0
    go_enter Tryz.func299,Tryz.ntmps299
    go_wp2;go_ret;exact ⟨by rw [← HR.out];simp [g4,k3],(Below.refl _ w).alloc (nL _) _⟩
 ·have s1:((s:Int) == 176)=false:=by rw [beq_eq_false_iff_ne];omega
  by_cases h2:s=177
  ·subst h2
   by_cases hg0:g=0
   ·subst hg0
    go_enter Tryz.func299,Tryz.ntmps299
    go_wp2;go_ret;exact ⟨by rw [← HR.out];simp,(Below.refl _ w).alloc (nL _) _⟩
   ·obtain ⟨g1,g2,g3,g4⟩:=nz_facts hg0
    by_cases hk0:k=0
    ·subst hk0
     go_enter Tryz.func299,Tryz.ntmps299
     go_wp2;go_ret;exact ⟨by rw [← HR.out];simp,(Below.refl _ w).alloc (nL _) _⟩
    ·obtain ⟨k1,k2,k3,k4⟩:=nz_facts hk0
     by_cases hk7:k≤127
     ·have k5:decide ((k:Int)≤127)=true:=dT
      go_enter Tryz.func299,Tryz.ntmps299
      go_wp2;go_ret;exact ⟨by rw [← HR.out];simp [g4,k4,hk7],(Below.refl _ w).alloc (nL _) _⟩
     ·have k5:decide ((k:Int)≤127)=false:=dF
      go_enter Tryz.func299,Tryz.ntmps299
      go_wp2;go_ret;exact ⟨by rw [← HR.out];simp [hk7],(Below.refl _ w).alloc (nL _) _⟩
  ·have s2:((s:Int) == 177)=false:=by rw [beq_eq_false_iff_ne];omega
   by_cases h3:s=178
   ·subst h3
    by_cases hg0:g=65535
    ·subst hg0
     by_cases hk0:k=0
     ·subst hk0
      go_enter Tryz.func299,Tryz.ntmps299
      go_wp2;go_ret;exact ⟨by rw [← HR.out];simp,(Below.refl _ w).alloc (nL _) _⟩
     ·obtain ⟨k1,k2,k3,k4⟩:=nz_facts hk0
      go_enter Tryz.func299,Tryz.ntmps299
      go_wp2;go_ret;exact ⟨by rw [← HR.out];simp [k3],(Below.refl _ w).alloc (nL _) _⟩
    ·have g1:((g:Int) == 65535)=false:=by rw [beq_eq_false_iff_ne];omega
     go_enter Tryz.func299,Tryz.ntmps299
     go_wp2;go_ret;exact ⟨by rw [← HR.out];simp [hg0],(Below.refl _ w).alloc (nL _) _⟩
   ·have s3:((s:Int) == 178)=false:=by rw [beq_eq_false_iff_ne];omega
    go_enter Tryz.func299,Tryz.ntmps299
    go_wp2;go_ret;exact ⟨by rw [← HR.out];simp [h1,h2,h3],(Below.refl _ w).alloc (nL _) _⟩
theorem chClass_any (a:DA) (ln c o g:Nat) (w:World):Calls Tryz.prog 208 #[chV a ln c o g] w fun e w'=>e = .returned (.int .i64 (c:Int))∧Below w.heap.size w w':=by
 have HB:=hid ((Below.refl _ w).alloc (nL _) (.cells #[memV a, .int .i64 (ln:Int), .int .i64 (c:Int), .int .i64 (o:Int), .int .u16 (g:Int)] 306));have hq:=eqMem (some ⟨a.th 0,0,none⟩);unfold chV;unfold memV at *;go_enter Tryz.func208,Tryz.ntmps208
 go_wp2;go_ret;exact ⟨rfl,HB.out⟩
theorem chBlocks_any (a:DA) (ln c o g:Nat) (hc:c < 5) (w:World) (hp:Pay w):Calls Tryz.prog 353 #[chV a ln c o g] w fun e w'=>e = .returned (.int .i64 (perC c:Int))∧Below w.heap.size w w':=by
 have hba:Below w.heap.size w (w.alloc (.cells #[memV a, .int .i64 (ln:Int), .int .i64 (c:Int), .int .i64 (o:Int), .int .u16 (g:Int)] 306)):=(Below.refl _ w).alloc (nL _) _;have HB:=hid hba;have HC:=hid (chClass_any a ln c o g (w.alloc (.cells #[memV a, .int .i64 (ln:Int), .int .i64 (c:Int), .int .i64 (o:Int), .int .u16 (g:Int)] 306)));have HP:Hid (∀ W,Below w.heap.size w W→Calls Tryz.prog 207 #[.int .i64 (c:Int)] W fun e w'=>e = .returned (.int .i64 (perC c:Int))∧W=w'):=hid (fun W hW=>perChunk_any c hc W (hp.below hW));clear hba hp;unfold chV at *;unfold memV at *;go_enter Tryz.func353,Tryz.ntmps353
 go_wp2_with fail
 refine HC.out.mono ?_;rintro e w1 ⟨rfl,hb1⟩;have HB1:=hid (HB.out.trans (hb1.mono HB.out.size));have HP1:=hid (HP.out w1 HB1.out);clear hb1 HC HP HB;go_wp2_with fail
 refine HP1.out.mono ?_;rintro e w2 ⟨rfl,rfl⟩;go_wp2;go_ret;exact ⟨rfl,HB1.out⟩
theorem chHas_any (a:DA) (ln c o g i:Nat) (hc:c < 5) (w:World) (hp:Pay w):Calls Tryz.prog 298 #[chV a ln c o g, .int .i64 (i:Int)] w fun e w'=>e = .returned (.bool (decide (i < perC c)))∧Below w.heap.size w w':=by
 have hba:Below w.heap.size w (w.alloc (.cells #[memV a, .int .i64 (ln:Int), .int .i64 (c:Int), .int .i64 (o:Int), .int .u16 (g:Int)] 306)):=(Below.refl _ w).alloc (nL _) _;have HB:=hid hba;have HC:=hid (chBlocks_any a ln c o g hc _ (hp.below hba));have d1:decide ((i:Int) < (perC c:Int))=decide (i < perC c):=by
  by_cases h:i < perC c
  ·rw [decide_eq_true h,dT]
  ·rw [decide_eq_false h,dF]
 have h0:(0:Int)≤(i:Int):=oM;clear hba hp;unfold chV at *;unfold memV at *;generalize perC c=r at *;go_enter Tryz.func298,Tryz.ntmps298
 go_wp2_with fail
 refine HC.out.mono ?_;rintro e w1 ⟨rfl,hb1⟩;have HB1:=hid (HB.out.trans (hb1.mono HB.out.size));clear hb1 HC HB;go_wp2;go_ret;exact ⟨by first | rfl | (simp) ,HB1.out⟩
end
end
section
open Go.RowKit Go.Maps
structure CX where
 w0:World
 a:DA
 x:SA
 gw:Nat
 cs:Array Value
section
variable {c:CX} {w w':World} {S:Fp} {lk:Bool} {last:Option Addr} {cur:Nat→Nat} {T:Nat}
end
structure TX where
 words:Nat
 inner:Nat
 own:Nat
 freed:Nat
 held:Nat
 cover:Nat
 outside:Bool
 surplus:Bool
 open_ : Bool
 mode:Nat
 marks:Value
 ids:Nat
 tail:Value
section
variable {c:CX} {g:Nat} {w w':World} {S:Fp} {t:TX} {D:DataW Unit} {n:Nat} {cur:Nat→Nat} {T:Nat}
end
end
section
open Go.RowKit
theorem sort_small (g n cap sz:Nat) (xs:List Nat) (w:World) (h:SortI w w g xs sz) (hl:xs.length=n) (hn:n≤1000000) (hc:n≤cap) (hcm:cap≤9223372036854775807) :
  Calls Tryz.prog 58 #[.slice (some ⟨g,0,none⟩) n cap] w (RetSort w g xs sz):=sort_any g n cap sz xs w h hl hn hc hcm
end
section
open Go.RowKit
theorem loadU_none {a:DA} {L T:Nat} {w:World} {S:Fp} {cur:Nat→Nat} {F:Nat} (h:Dev a L T w S cur F) (g s n:Nat) (hB:Blk w g 330 (ulogCells a s n)) (hs:s < L) (hn:2≤n) (hn2:n≤4096) (h0:cur (8 * s)=0) :
  Calls Tryz.prog 286 #[.pointer (some ⟨g,0,none⟩)] w fun e w'=>e = .returned (.tuple #[.slice none 0 0, .bool true, .int .i64 0])∧Below w.heap.size w w':=by
 have HL:=hid (entries_none h g s n hB hs hn hn2 h0);clear h hB;go_enter Tryz.func286,Tryz.ntmps286
 go_wp2_with (go_at_call 341;refine HL.out.mono ?_;rintro e w1 ⟨rfl,hb1⟩;have HW:=hid hb1;clear hb1)
 go_loopw [7,20] (fun l i wr=>l = .slice none 0 0∧i = .int .i64 0∧Hid (Below w.heap.size w wr)) (fun _ _ _=>0)
 case atStart=>exact ⟨rfl,rfl,HW⟩
 case round =>
  obtain ⟨rfl,rfl,HR⟩:=hrel;go_wp2;go_ret3
  exact ⟨rfl,HR.out⟩
theorem undoRecover_none {a:DA} {L T:Nat} {w:World} {S:Fp} {cur:Nat→Nat} {F:Nat} (h:Dev a L T w S cur F) (g s n:Nat) (hB:Blk w g 330 (ulogCells a s n)) (hs:s < L) (hn:2≤n) (hn2:n≤4096) (h0:cur (8 * s)=0) :
  Calls Tryz.prog 180 #[.pointer (some ⟨g,0,none⟩)] w fun e w'=>e = .returned (.tuple #[.int .i64 0, .int .i64 0])∧Below w.heap.size w w':=by
 have HL:=hid (loadU_none h g s n hB hs hn hn2 h0);clear h hB;go_enter Tryz.func180,Tryz.ntmps180
 go_wp2_with (go_at_call 286;refine HL.out.mono ?_;rintro e w1 ⟨rfl,hb1⟩;have HW:=hid hb1;clear hb1)
 go_ret2;exact ⟨rfl,HW.out⟩
end
section
open Go.RowKit
theorem look_core {a:DA} {L T:Nat} {w:World} {S:Fp} {cur:Nat→Nat} {F:Nat} (h:Dev a L T w S cur F) (c:Nat) (hc:c+32≤L) (V:Nat) (x0 x1 x2:Int) (hv:cur (8 * c)=V)
  (hh:∀ W,Below w.heap.size w W→Calls Tryz.prog 350 #[.int .u64 (V:Int)] W fun e w'=>e = .returned (.tuple #[.agg #[.int .i64 x0, .int .i64 x1, .int .u16 x2], .bool true])∧Below W.heap.size W w') :
  Calls Tryz.prog 293 #[memV a, .int .i64 (c:Int)] w fun e w'=>e = .returned (.tuple #[.agg #[.int .i64 x0, .int .i64 x1, .int .u16 x2], .int .i64 0])∧Below w.heap.size w w':=by
 have HLd:=hid (load_at h (64 * c) V oM oM (by rw [show 64 * c / 8=8 * c by omega];exact hv));have HD:=hid h;have HH:=hid hh;have hm:=methLoad (some ⟨a.th 0,0,none⟩);have hna:=aheadLoad ⟨a.th 0,0,none⟩;have hmE:=methErr (some ⟨a.th 0,0,none⟩);have hmS:=methSize (some ⟨a.th 0,0,none⟩);have hq:=eqMem (some ⟨a.th 0,0,none⟩);have HB0:Hid (Below w.heap.size w (w.alloc (.cells #[.int .i64 0, .int .i64 0, .int .u16 0] 304))):=(Below.refl _ _).alloc (nL _) _;obtain ⟨ls,exe,per,cs,lsC,hdc,hnt⟩:=h.below HB0.out;have hL:=hdc.hL;obtain ⟨f0,f2,_,_,f4⟩:=hdc.facts (j:=0) oM;have HBk:=hid (Blk.new w 304 #[.int .i64 0, .int .i64 0, .int .u16 0]);clear hdc hnt h hh;unfold memV at *;have e1:decide ((c:Int) < 0)=false:=dF;have u1:IntKind.u64.wrap ((L:Int) * 64)=(L:Int) * 64:=by rw [IntKind.wrap_u64];omega
 have u3:IntKind.u64.wrap (c:Int)=(c:Int):=by rw [IntKind.wrap_u64];omega
 have u4:IntKind.u64.wrap ((L:Int) - 32)=(L:Int) - 32:=by rw [IntKind.wrap_u64];omega
 have u5:IntKind.u64.wrap ((c:Int) * 64)=((64 * c:Nat):Int):=by rw [IntKind.wrap_u64];omega
 have d1:((L:Int) * 64).tdiv 64=(L:Int):=by rw [Int.mul_tdiv_cancel _ (by decide)]
 have e2:decide ((L:Int) < 32)=false:=dF;have e3:decide ((L:Int) - 32 < (c:Int))=false:=dF;generalize 64 * c=z at *;go_enter Tryz.func293,Tryz.ntmps293
 go_wp2;generalize w.alloc (.cells #[.int .i64 0, .int .i64 0, .int .u16 0] 304)=W at *;have HB1:Hid (Below W.heap.size W W.drew):=(Below.refl _ _).drew;have HB2:Hid (Below w.heap.size w W.drew):=HB0.out.drew;go_cut [8] from 38 to 44 (fun v wx=>v = .int .u64 (V:Int)∧Hid (Below W.heap.size W wx))
 case first =>
  go_region_with (first | (go_at_call 65;refine (HLd.out _ HB2.out).mono ?_;rintro e w1 ⟨rfl,rfl⟩) | go_in)
  all_goals (go_wp2_with fail;go_meet;exact ⟨rfl,HB1⟩)
 case rest =>
  obtain ⟨rfl,HW⟩:=hcut;have HWw:=hid (HB0.out.trans (HW.out.mono HB0.out.size));obtain ⟨ls1,exe1,per1,cs1,lsC1,hdc1,hnt1⟩:=HD.out.below HWw.out;obtain ⟨k0,_,_,_,k4⟩:=hdc1.facts (j:=0) oM;have HHw:=hid (HH.out wc HWw.out);have HBc:=hid (HBk.out.below HW.out HBk.out.lt);clear hdc1 hnt1;go_wp2_with (first
   | (go_at_call 350;refine HHw.out.mono ?_;rintro e w1 ⟨rfl,hb1⟩;have HB3:=hid (HWw.out.trans (hb1.mono HWw.out.size));have hk:=HBc.out.below hb1 HBc.out.lt;have hlt:=hk.lt;have c0:w1.cell? ⟨w.heap.size,0,none⟩=some (.int .i64 0):=hk.cell 0;have c1:w1.cell? ⟨w.heap.size,1,none⟩=some (.int .i64 0):=hk.cell 1;have c2:w1.cell? ⟨w.heap.size,2,none⟩=some (.int .u16 0):=hk.cell 2;have z0:w1.frozen? ⟨w.heap.size,0,none⟩=false:=hk.frozen 0;have z1:w1.frozen? ⟨w.heap.size,1,none⟩=false:=hk.frozen 1;have z2:w1.frozen? ⟨w.heap.size,2,none⟩=false:=hk.frozen 2;clear hb1 hk)
   | go_in)
  refine bodyPost_ret (v := .tuple #[.agg #[.int .i64 x0, .int .i64 x1, .int .u16 x2], .int .i64 0]) (by simp [results,Tryz.results293,go_sem,c0,c1,c2,hlt]) rfl ⟨rfl,?_⟩;have h1:=((HB3.out.setCell (p:=⟨w.heap.size,0,none⟩) (nL _) (.int .i64 x0)).setCell (p:=⟨w.heap.size,1,none⟩) (nL _) (.int .i64 x1)).setCell (p:=⟨w.heap.size,2,none⟩) (nL _) (.int .u16 x2);exact h1.alloc h1.size _
end
section
open Go.RowKit
section
variable {a:DA} {L T:Nat} {w:World} {S:Fp} {cur:Nat→Nat} {F:Nat}
theorem start_any (ln:Nat) (hl:ln≤1000000) (W:World):Calls Tryz.prog 339 #[.int .i64 (ln:Int)] W fun e w'=>e = .returned (.int .u64 ((64 * ln:Nat):Int))∧W=w':=by
 have u3:IntKind.u64.wrap (ln:Int)=(ln:Int):=by rw [IntKind.wrap_u64];omega
 have u5:IntKind.u64.wrap ((ln:Int) * 64)=((64 * ln:Nat):Int):=by rw [IntKind.wrap_u64];omega
 generalize 64 * ln=z at *;go_enter Tryz.func339,Tryz.ntmps339
 go_wp2;go_ret;exact ⟨rfl,rfl⟩
def chCells (a:DA) (ln c g:Nat):Array Value:=#[memV a, .int .i64 (ln:Int), .int .i64 (c:Int), .int .i64 0, .int .u16 (g:Int)]
theorem bits_any (h:Dev a L T w S cur F) (ln cl g V:Nat) (hl:ln+32≤L) (hv:cur (8 * ln+1)=V):Calls Tryz.prog 351 #[chV a ln cl 0 g] w fun e w'=>e = .returned (.int .u64 (V:Int))∧Below w.heap.size w w':=by
 obtain ⟨_,_,_,_,_,hdc,_⟩:=id h;have hL:=hdc.hL;clear hdc;have HLd:=hid (load_at h (64 * ln+8) V oM oM (by rw [show (64 * ln+8) / 8=8 * ln+1 by omega];exact hv));have HSt:=hid (start_any ln oM);have hna:=aheadLoad ⟨a.th 0,0,none⟩;have hm:=methLoad (some ⟨a.th 0,0,none⟩);have HB0:Hid (Below w.heap.size w (w.alloc (.cells (chCells a ln cl g) 306))):=(Below.refl _ _).alloc (nL _) _;have HK:=hid (Blk.new w 306 (chCells a ln cl g));clear h hv;unfold chV;unfold chCells memV at *;have hz:64 * ln+8 < 9000000000:=oM;have e1:IntKind.u64.wrap (((64 * ln:Nat):Int)+8)=((64 * ln+8:Nat):Int):=by rw [IntKind.wrap_u64];omega
 generalize 64 * ln+8=z8 at *;generalize 64 * ln=z at *;go_enter Tryz.func351,Tryz.ntmps351
 go_wp2_with fail
 generalize w.alloc (.cells #[.iface 58 (.pointer (some ⟨a.th 0,0,none⟩)), .int .i64 (ln:Int), .int .i64 (cl:Int), .int .i64 0, .int .u16 (g:Int)] 306)=W at *;have f0:W.cell? ⟨w.heap.size,0,none⟩=some (.iface 58 (.pointer (some ⟨a.th 0,0,none⟩))):=HK.out.cell 0;have f1:W.cell? ⟨w.heap.size,1,none⟩=some (.int .i64 (ln:Int)):=HK.out.cell 1;have HB2:Hid (Below w.heap.size w W.drew):=HB0.out.drew;go_region_with (first
  | (go_at_call 65;refine (HLd.out _ HB2.out).mono ?_;rintro e w1 ⟨rfl,rfl⟩)
  | (go_at_call 339;refine (HSt.out _).mono ?_;rintro e w1 ⟨rfl,rfl⟩))
 all_goals (go_wp2;go_ret;exact ⟨rfl,HB2.out⟩)
theorem blkAt_any (ln cl g i:Nat) (hl:ln≤1000000) (hc:cl < 5) (hi:i < perC cl) (w:World) (hp:Pay w):Calls Tryz.prog 301 #[chV a ln cl 0 g, .int .i64 (i:Int)] w fun e w'=>e = .returned (.int .u64 ((64 * ln+8 * offB cl i:Nat):Int))∧Below w.heap.size w w':=by
 have hb:Below w.heap.size w (w.alloc (.cells (chCells a ln cl g) 306)):=(Below.refl _ _).alloc (nL _) _;have HB0:=hid hb;have HO:=hid (offset_any cl i hc hi _ (hp.below hb));have HSt:=hid (start_any ln oM);have ho:=off_lt hi;clear hb hp;unfold chV;unfold chCells memV at *;have u1:IntKind.u64.wrap (offB cl i:Int)=(offB cl i:Int):=by rw [IntKind.wrap_u64];omega
 have u2:IntKind.u64.wrap ((offB cl i:Int) * 8)=(offB cl i:Int) * 8:=by rw [IntKind.wrap_u64];omega
 have u3:IntKind.u64.wrap (((64 * ln:Nat):Int)+(offB cl i:Int) * 8)=((64 * ln+8 * offB cl i:Nat):Int):=by rw [IntKind.wrap_u64];omega
 have hz:64 * ln < 9000000000:=oM;generalize 64 * ln+8 * offB cl i=zz at *;generalize offB cl i=ob at *;generalize 64 * ln=z at *;clear ho;go_enter Tryz.func301,Tryz.ntmps301
 go_wp2_with (first
  | (go_at_call 354;refine HO.out.mono ?_;rintro e w1 ⟨rfl,rfl⟩)
  | (go_at_call 339;refine (HSt.out _).mono ?_;rintro e w1 ⟨rfl,rfl⟩))
 go_ret;exact ⟨rfl,HB0.out⟩
end
end
end Go.Proofs.YtfkjjoglnmeciaaGreatDoor
