/- The walks and laws that the claim leans on, part 28. -/
import Derived.Test.YtfkjjoglnmeciaaGreatDoorJaz
import Derived.Lib.QuoteBits
set_option maxRecDepth 100000
set_option maxHeartbeats 16000000
namespace Go.Proofs.YtfkjjoglnmeciaaGreatDoor
open Go.Lib (hid)
section
open Go.RowKit Go.Maps
def FreeP (st:Nat→Nat) (n j:Nat) (z:Int):Prop:=(z = -1∧∀ i,j≤i→i < n→st i≠176)∨∃ i:Nat,z=(i:Int)∧j≤i∧i < n∧st i=176∧∀ i',j≤i'→i' < i→st i'≠176
theorem freeFrom_spec (V:Nat):∀ (n j:Nat),(freeFrom V n j=none∧∀ i,j≤i→i < j+n→bitAt V i=true)∨∃ i,freeFrom V n j=some i∧j≤i∧i < j+n∧bitAt V i=false∧∀ i',j≤i'→i' < i→bitAt V i'=true
 | 0,j => .inl ⟨rfl,fun i h1 h2=>by omega⟩
 | n+1,j=>by
  cases hb:bitAt V j
  ·exact .inr ⟨j,by simp [freeFrom,hb],Nat.le_refl _,by omega,hb,fun i' h1 h2=>by omega⟩
  ·rcases freeFrom_spec V n (j+1) with ⟨h1,h2⟩ | ⟨i,h1,h2,h3,h4,h5⟩
   ·refine .inl ⟨by simp [freeFrom,hb,h1],fun i h3 h4=>?_⟩
    by_cases e:i=j
    ·rw [e];exact hb
    ·exact h2 i (by omega) (by omega)
   ·refine .inr ⟨i,by simp [freeFrom,hb,h1],by omega,by omega,h4,fun i' h6 h7=>?_⟩
    by_cases e:i'=j
    ·rw [e];exact hb
    ·exact h5 i' (by omega) h7
theorem freeR_spec {cur:Nat→Nat} {ln cl g V:Nat} {bs:Nat→BK} (h:ChW cur ln cl g V bs) (j:Nat):∃ z:Int,freeR V cl j = .int .i64 z∧FreeP (fun i=>(bs i).st) (perC cl) j z:=by
 have hb:∀ i,i < perC cl→bitAt V i=true→(bs i).st≠176:=fun i hi hh=>by
  have:=h.bit i hi
  rw [hh] at this
  simpa using this.symm
 unfold freeR
 rcases freeFrom_spec V (perC cl - j) j with ⟨h1,h2⟩ | ⟨i,h1,h2,h3,h4,h5⟩
 ·rw [h1]
  exact ⟨-1,rfl, .inl ⟨rfl,fun i hi hn=>hb i hn (h2 i hi (by omega))⟩⟩
 ·rw [h1]
  refine ⟨i,rfl, .inr ⟨i,rfl,h2,by omega,?_,fun i' k1 k2=>hb i' (by omega) (h5 i' k1 k2)⟩⟩
  have:=h.bit i (by omega)
  rw [h4] at this
  simpa using this.symm
section
variable {a:DA} {L T s n K:Nat} {x:HA} {cs:Nat→CS} {f:Nat→Option Nat} {N m b0:Nat} {S:Fp} {cur:Nat→Nat} {w w':World}
theorem DS.chw (h:DS a L T s n K x cs f N m b0 S cur w) {k:Nat} (hk:k < K) (hd:(cs k).dv=true):ChW cur (s+32 * k) (cs k).cl (cs k).g (cs k).V (cs k).bs:=by
 have:=h.ok k hk
 unfold CSok at this
 rw [hd] at this
 exact this
def fptr (s:Nat) (cs:Nat→CS) (kind k i:Nat):Nat:=pMk (blkO (s+32 * k) (cs k).cl i) ((cs k).bs i).gen kind
def offO (s:Nat) (cs:Nat→CS) (k i:Nat):Nat:=blkO (s+32 * k) (cs k).cl i
def WithP (s:Nat) (cs:Nat→CS) (f:Nat→Option Nat) (kind k:Nat) (v:Value):Prop :=
 (v = .tuple #[.int .u64 0, .int .i64 5]∧∀ i,i < perC (cs k).cl→((cs k).bs i).st=176→f (offO s cs k i)≠none) ∨
 ∃ i,i < perC (cs k).cl∧((cs k).bs i).st=176∧f (offO s cs k i)=none∧v = .tuple #[.int .u64 (fptr s cs kind k i:Int), .int .i64 0]
def witM (n:Nat):Value→Nat
 | .int _ (.ofNat i)=>n - i
 | _=>0
theorem within_any (h:DS a L T s n K x cs f N m b0 S cur w) {k:Nat} (hk:k < K) (hd:(cs k).dv=true) (kind:Nat) (hk0:0 < kind) (hk8:kind < 128) :
  Calls Tryz.prog 348 #[.pointer (some ⟨x.h,0,none⟩), .int .i64 ((s+32 * k:Nat):Int), .int .u8 (kind:Int)] w fun e w'=>∃ v,e = .returned v∧WithP s cs f kind k v∧Below w.heap.size w w':=by
 have hC:=h.chw hk hd
 have hL:=h.hL
 have hln:=h.line hk
 have HD:=hid h
 have hper:=per_le (cs k).cl
 have HOp:Hid (∀ W,Below w.heap.size w W→Calls Tryz.prog 195 #[memV a, .int .i64 ((s+32 * k:Nat):Int)] W fun e w'=>e = .returned (.tuple #[chV a (s+32 * k) (cs k).cl 0 (cs k).g, .int .i64 0])∧Below W.heap.size W w'):=hid (fun W hW=>chOpen_cls (h.dev.below hW) (h.tab.below hW) (h.pay.below hW) _ _ _ hln hC.cls hC.g0 hC.g1 hC.hdr)
 have HFr:Hid (∀ j W,Below w.heap.size w W→Calls Tryz.prog 380 #[chV a (s+32 * k) (cs k).cl 0 (cs k).g, .int .i64 ((j:Nat):Int)] W fun e w'=>∃ z:Int,e = .returned (.int .i64 z)∧FreeP (fun i=>((cs k).bs i).st) (perC (cs k).cl) j z∧Below W.heap.size W w'):=hid (fun j W hW=>by
  obtain ⟨z,h1,h2⟩:=freeR_spec hC j
  refine (free_any (h.dev.below hW) (h.pay.below hW) _ _ _ _ j hln hC.cls hC.v64 hC.bits).mono ?_
  rintro e w' ⟨rfl,hb⟩
  exact ⟨z,by rw [h1],h2,hb⟩)
 have HPt:Hid (∀ i,i < perC (cs k).cl→((cs k).bs i).st=176→∀ W,Below w.heap.size w W→Calls Tryz.prog 210 #[chV a (s+32 * k) (cs k).cl 0 (cs k).g, .int .i64 (i:Int), .int .u8 (kind:Int)] W fun e w'=>e = .returned (.tuple #[.int .u64 (fptr s cs kind k i:Int), .int .i64 0])∧Below W.heap.size W w'):=hid (fun i hi hs W hW=>by
  have hki:kindOf ((cs k).bs i) kind=kind:=by unfold kindOf;rw [if_neg (by omega)]
  have hg:=hC.good i hi
  have hg0:0 < ((cs k).bs i).gen:=by unfold BK.good at hg;rw [if_pos hs] at hg;simp at hg;omega
  have hp:=pointer_any (h.dev.below hW) (h.tab.below hW) (h.pay.below hW) (s+32 * k) (cs k).cl (cs k).g (cs k).V i ((cs k).bs i) (hC.inn i hi) hg (.inl hs) (hC.bit i hi) hln hC.cls hi hC.v64 hC.bits (hC.word i hi) kind (by rw [hki];exact hk0) (by rw [hki];exact hk8) (by omega) hg0
  rw [hki] at hp
  exact hp)
 have HOf:Hid (∀ i,i < perC (cs k).cl→∀ W,Calls Tryz.prog 135 #[.int .u64 (fptr s cs kind k i:Int)] W fun e w'=>e = .returned (.int .u64 (offO s cs k i:Int))∧W=w'):=hid (fun i hi W=>by
  have ho:=off_lt hi
  have h1:pOff (fptr s cs kind k i)=offO s cs k i:=pMk_off (by unfold blkO;omega) (by unfold blkO;omega)
  have h2:=off_any (fptr s cs kind k i) W
  rw [h1] at h2
  exact h2)
 have HOl:Hid (∀ i,i < perC (cs k).cl→offO s cs k i < 18446744073709551616):=hid (fun i hi=>by have:=off_lt hi;unfold offO blkO;omega)
 have HEr:Hid (∀ W,Below w.heap.size w W→Calls Tryz.prog 112 #[.pointer (some ⟨a.th 0,0,none⟩)] W fun e w'=>e = .returned (.int .i64 0)∧W=w'):=hid (fun W hW=>thErr (h.dev.below hW))
 have hm:=methErr (some ⟨a.th 0,0,none⟩)
 have HB0:Hid (Below w.heap.size w w):=Below.refl _ _
 clear h hC hL hln hd
 have HWn:Hid (∀ v,WithP s cs f kind k v=WithP s cs f kind k v):=hid (fun v=>rfl)
 have hx0:w.cell? ⟨x.h,0,none⟩=some (memV a):=HD.out.hs.heap.cell 0
 generalize hln:s+32 * k=ln at *
 generalize hcl:(cs k).cl=cl at *
 generalize hcg:(cs k).g=cg at *
 have HE:=hid (show s+32 * k=ln∧(cs k).cl=cl∧(cs k).g=cg from ⟨hln,hcl,hcg⟩)
 clear hln hcl hcg
 unfold chV at *
 unfold memV at *
 go_enter Tryz.func348,Tryz.ntmps348
 go_wp2_with fail
 refine (HOp.out _ HB0.out).mono ?_
 rintro e w1 ⟨rfl,hb1⟩
 have HB1:=hid (hb1.alloc hb1.size (.cells #[.iface 58 (.pointer (some ⟨a.th 0,0,none⟩)), .int .i64 (ln:Int), .int .i64 (cl:Int), .int .i64 0, .int .u16 (cg:Int)] 306))
 have HK1:=hid (Blk.new w1 306 #[.iface 58 (.pointer (some ⟨a.th 0,0,none⟩)), .int .i64 (ln:Int), .int .i64 (cl:Int), .int .i64 0, .int .u16 (cg:Int)])
 have HLc:=hid hb1.size
 clear hb1 HOp HB0
 go_wp2_with fail
 refine (HFr.out 0 _ HB1.out).mono ?_
 rintro e w2 ⟨z0,rfl,hz0,hb2⟩
 have HB2:=hid (HB1.out.trans (hb2.mono HB1.out.size))
 have HK2:=hid (HK1.out.below hb2 HK1.out.lt)
 have HZ0:=hid hz0
 have HI2:Hid (Below w2.heap.size w2 w2):=Below.refl _ _
 clear hb2 hz0 HB1 HK1 hx0
 go_wp2
 go_loopw [10] (fun v wr=>∃ (j:Nat) (z:Int),v = .int .i64 z∧Hid (FreeP (fun i=>((cs k).bs i).st) (perC cl) j z)∧Hid (∀ i,i < j→i < perC cl→((cs k).bs i).st=176→f (offO s cs k i)≠none)∧Hid (Below w2.heap.size w2 wr)) (fun v _=>witM (perC cl) v)
 case atStart=>exact ⟨0,z0,rfl,HZ0,hid (fun i hi=>by omega),HI2⟩
 case round =>
  clear HZ0 HI2
  obtain ⟨j,z,rfl,HZ,HA,H⟩:=hrel
  have HBr:=hid (HB2.out.trans (H.out.mono HB2.out.size))
  have HKr:=hid (HK2.out.below H.out HK2.out.lt)
  have hc0:wr.cell? ⟨w1.heap.size,0,none⟩=some (.iface 58 (.pointer (some ⟨a.th 0,0,none⟩))):=HKr.out.cell 0
  have hc1:wr.cell? ⟨w1.heap.size,1,none⟩=some (.int .i64 (ln:Int)):=HKr.out.cell 1
  have hc2:wr.cell? ⟨w1.heap.size,2,none⟩=some (.int .i64 (cl:Int)):=HKr.out.cell 2
  have hc3:wr.cell? ⟨w1.heap.size,3,none⟩=some (.int .i64 0):=HKr.out.cell 3
  have hc4:wr.cell? ⟨w1.heap.size,4,none⟩=some (.int .u16 (cg:Int)):=HKr.out.cell 4
  have hx0:wr.cell? ⟨x.h,0,none⟩=some (.iface 58 (.pointer (some ⟨a.th 0,0,none⟩))):=((HD.out.hs.heap.below HBr.out HD.out.hs.heap.lt).cell 0)
  rcases HZ.out with ⟨rfl,hno⟩ | ⟨i,rfl,hji,hi,hst,hmin⟩
  ·have HNo:Hid (∀ i,i < perC cl→((cs k).bs i).st=176→f (offO s cs k i)≠none):=hid (fun i hi hs=>by
    by_cases hij:i < j
    ·exact HA.out i hij hi hs
    ·exact absurd hs (hno i (by omega) hi))
   have HEr2:=hid (HEr.out wr HBr.out)
   clear hno HA HZ HFr HPt hc0 hc1 hc2 hc3 hc4
   go_wp2_with (go_at_call 112;refine HEr2.out.mono ?_;rintro e w3 ⟨rfl,rfl⟩)
   go_ret2
   refine ⟨_,rfl, .inl ⟨rfl,?_⟩,HBr.out⟩
   obtain ⟨_,h2,_⟩:=HE.out
   rw [h2]
   exact HNo.out
  ·have HP2:=hid (HPt.out i hi hst wr HBr.out)
   have HO2:=hid (HOf.out i hi)
   have HI:=hid (show i < perC cl∧((cs k).bs i).st=176∧offO s cs k i < 18446744073709551616 from ⟨hi,hst,HOl.out i hi⟩)
   have hz5:decide ((0:Int)≤(i:Int))=true:=decide_eq_true (by omega)
   have hz6:(0:Int)≤(i:Int):=by omega
   have hz7:(i:Int)≤62:=by omega
   have HM:=hid (show j≤i∧∀ i',j≤i'→i' < i→((cs k).bs i').st≠176 from ⟨hji,hmin⟩)
   clear hi hst hji hmin HZ
   generalize hfp:fptr s cs kind k i=fp at *
   have HFP:=hid hfp
   clear hfp
   go_wp2_with fail
   refine HP2.out.mono ?_
   rintro e w3 ⟨rfl,hb3⟩
   have HB3:=hid (HBr.out.trans (hb3.mono HBr.out.size))
   have HB23:=hid (H.out.trans (hb3.mono H.out.size))
   have HK3:=hid (HKr.out.below hb3 HKr.out.lt)
   have HEr3:=hid (HEr.out w3 HB3.out)
   have hx0:w3.cell? ⟨x.h,0,none⟩=some (.iface 58 (.pointer (some ⟨a.th 0,0,none⟩))):=((HD.out.hs.heap.below HB3.out HD.out.hs.heap.lt).cell 0)
   clear hb3 hc0 hc1 hc2 hc3 hc4 HP2 HPt
   have hx4:w3.cell? ⟨x.h,4,none⟩=some (.map (some x.mr)):=((HD.out.hs.heap.below HB3.out HD.out.hs.heap.lt).cell 4)
   have hlk:=(HD.out.hs.res.chg ((Chg.of_below (S:=Fp.no) HB3.out).drew) (fun h=>h)).look HI.out.2.2
   generalize hof:offO s cs k i=o at *
   have HOE:=hid hof
   clear hof
   go_wp2_with (go_at_call 112;refine HEr3.out.mono ?_;rintro e w4 ⟨rfl,rfl⟩)
   cases hf:f o with
   | none =>
    rw [hf] at hlk
    have hlk2:(Instr.lookup 190 (.map (some x.mr)) (.int .u64 (o:Int)) true).run Tryz.prog w3.drew = .ok (.tuple #[.int .u64 0, .bool false]) w3.drew:=hlk
    have HF:=hid hf
    clear hlk hf
    go_region_with (go_at_call 135;refine (HO2.out _).mono ?_;rintro e w4 ⟨rfl,rfl⟩)
    all_goals
     go_wp2
     go_ret2
     refine ⟨_,rfl, .inr ⟨i,?_,HI.out.2.1,by rw [HOE.out];exact HF.out,by rw [HFP.out];rfl⟩,HB3.out.drew⟩
     obtain ⟨_,h2,_⟩:=HE.out
     rw [h2]
     exact HI.out.1
   | some q =>
    rw [hf] at hlk
    have hlk2:(Instr.lookup 190 (.map (some x.mr)) (.int .u64 (o:Int)) true).run Tryz.prog w3.drew = .ok (.tuple #[.int .u64 (q:Int), .bool true]) w3.drew:=hlk
    have HA2:Hid (∀ i',i' < i+1→i' < perC cl→((cs k).bs i').st=176→f (offO s cs k i')≠none):=hid (fun i' h1 h2 h3=>by
     by_cases e1:i' < j
     ·exact HA.out i' e1 h2 h3
     ·by_cases e2:i'=i
      ·subst e2
       rw [HOE.out,hf]
       intro h;cases h
      ·exact absurd h3 (HM.out.2 i' (by omega) (by omega)))
    have hc0:w3.cell? ⟨w1.heap.size,0,none⟩=some (.iface 58 (.pointer (some ⟨a.th 0,0,none⟩))):=HK3.out.cell 0
    have hc1:w3.cell? ⟨w1.heap.size,1,none⟩=some (.int .i64 (ln:Int)):=HK3.out.cell 1
    have hc2:w3.cell? ⟨w1.heap.size,2,none⟩=some (.int .i64 (cl:Int)):=HK3.out.cell 2
    have hc3:w3.cell? ⟨w1.heap.size,3,none⟩=some (.int .i64 0):=HK3.out.cell 3
    have hc4:w3.cell? ⟨w1.heap.size,4,none⟩=some (.int .u16 (cg:Int)):=HK3.out.cell 4
    have HB3d:=hid HB3.out.drew
    have HFn:=hid (HFr.out (i+1) w3.drew HB3d.out)
    have ei:((i+1:Nat):Int)=(i:Int)+1:=by omega
    rw [ei] at HFn
    clear hlk hf HA HM ei
    go_region_with (go_at_call 135;refine (HO2.out _).mono ?_;rintro e w4 ⟨rfl,rfl⟩)
    all_goals
     go_wp2_with (go_at_call 380;refine HFn.out.mono ?_;rintro e w5 ⟨z5,rfl,hz5,hb5⟩;have HZ5:=hid hz5;have HB5:=hid (HB23.out.drew.trans (hb5.mono HB23.out.size));clear hz5 hb5)
     have HMe:Hid (witM (perC cl) (.int .i64 z5) < witM (perC cl) (.int .i64 (i:Int))):=hid (by
      have hi:=HI.out.1
      rcases HZ5.out with ⟨rfl,_⟩ | ⟨i2,rfl,h1,h2,_⟩
      ·show 0 < perC cl - i;omega
      ·show perC cl - i2 < perC cl - i;omega)
     go_roundw
     case rel =>
      first
       | exact ⟨i+1,z5,rfl,HZ5,HA2,HB5⟩
       | (
         repeat apply Exists.intro
         refine ⟨?_,rfl⟩
         exact ⟨i+1,z5,rfl,HZ5,HA2,HB5⟩)
     case measure=>exact HMe.out
end
end
section
open Go.RowKit
theorem hd_or (c g:Nat) (hc:c < 5) (hg:g < 65536):bits .or .u32 ((3305111552+g:Nat):Int) (((c+1) * 65536+1048576:Nat):Int)=(hdX c g:Int):=by
 rw [u32_or_nat _ _ (by omega) (by omega)]
 congr 1
 have e1:3305111552+g=3305111552 ||| g:=Nat.two_pow_add_eq_or_of_lt (i:=16) (b:=g) (by omega) 50432
 have e2:3305111552 ||| ((c+1) * 65536+1048576)=2 ^ 16 * (50432+(c+1)+16):=by
  have hc5:c=0∨c=1∨c=2∨c=3∨c=4:=by omega
  rcases hc5 with rfl | rfl | rfl | rfl | rfl <;> decide
 rw [e1,Nat.or_assoc,Nat.or_comm g,← Nat.or_assoc,e2,← Nat.two_pow_add_eq_or_of_lt (by omega)]
 unfold hdX
 omega
theorem hd_or2 (c:Nat) (hc:c < 5):bits .or .u32 (((c:Int)+1) * 65536) 1048576=(((c+1) * 65536+1048576:Nat):Int):=by
 have hc5:c=0∨c=1∨c=2∨c=3∨c=4:=by omega
 rcases hc5 with rfl | rfl | rfl | rfl | rfl <;> decide
section
theorem wordCls_any (c g:Nat) (hc:c < 5) (hg:g < 65536) (w:World) (ht:Tab w) :
  Calls Tryz.prog 340 #[.agg #[.int .i64 (c:Int), .int .i64 0, .int .u16 (g:Int)]] w fun e w'=>e = .returned (.int .u64 (hdrW c g:Int))∧Below w.heap.size w w':=by
 have HB0:Hid (∀ x,Below w.heap.size w (w.alloc x)):=fun x=>(Below.refl _ _).alloc (Nat.le_refl _) x
 have HS:=hid (fun x=>seal_any (hdX c g) (by unfold hdX;omega) (w.alloc x) (ht.below (HB0.out x)))
 have e1:=own_or g hg
 have e2:=hd_or c g hc hg
 have e3:=hd_or2 c hc
 have u1:IntKind.u32.wrap (g:Int)=(g:Int):=by rw [IntKind.wrap_u32'];omega
 have u2:IntKind.u32.wrap ((c:Int)+1)=(c:Int)+1:=by rw [IntKind.wrap_u32'];omega
 have u3:IntKind.u32.wrap (((c:Int)+1) * 65536)=((c:Int)+1) * 65536:=by rw [IntKind.wrap_u32'];omega
 have d1:decide ((0:Int)≤(c:Int))=true:=decide_eq_true (by omega)
 unfold hdrW
 generalize hdX c g=z at *
 generalize ((c+1) * 65536+1048576)=y at *
 generalize 3305111552+g=q at *
 clear ht
 go_enter Tryz.func340,Tryz.ntmps340
 go_wp2_with (go_at_call 374;refine (HS.out _).mono ?_;rintro e w1 ⟨rfl,hb1⟩;have HB1:=hid ((HB0.out _).trans (hb1.mono (by simp)));clear hb1)
 go_ret
 exact ⟨rfl,HB1.out⟩
def IsFmt (ln cl g:Nat) (p:List Ins):Prop:=∃ p1 p2,p=p1++p2∧IsStores (fmtW ln cl g) p1∧IsStores [(64 * ln,hdrW cl g)] p2
theorem stores_len {ws:List (Nat × Nat)} {p:List Ins} (h:IsStores ws p):p.length≤2 * ws.length+1:=by
 obtain ⟨fs,rfl,hl,_⟩:=h
 simp
 omega
theorem chPlan_any (ln cl g:Nat) (hl:ln≤4064) (hc:cl < 5) (h0:0 < g) (hg:g < 65536) (w:World) (ht:Tab w) (hp:Pay w) :
  Calls Tryz.prog 379 #[.int .i64 (ln:Int), .agg #[.int .i64 (cl:Int), .int .i64 0, .int .u16 (g:Int)]] w (RetProgOk w (IsFmt ln cl g)):=by
 have HT:=hid ht
 have HPy:=hid hp
 obtain ⟨i0,hi0,hz0,hz1,hz2⟩:=info_parts infoWrite
 have HB0:Hid (Below w.heap.size w (w.alloc (.cells #[.int .i64 (cl:Int), .int .i64 0, .int .u16 (g:Int)] 304))):=(Below.refl _ _).alloc (Nat.le_refl _) _
 have HK0:=hid (Blk.new w 304 #[.int .i64 (cl:Int), .int .i64 0, .int .u16 (g:Int)])
 generalize hW:w.alloc (.cells #[.int .i64 (cl:Int), .int .i64 0, .int .u16 (g:Int)] 304)=W at *
 have HWe:=hid hW.symm
 clear hW
 have HTW:=hid (ht.below HB0.out)
 have HPW:=hid (hp.below HB0.out)
 have HF:=hid (formatted_any cl g hc W HPW.out)
 have HBw:Hid (∀ V,Below W.heap.size W V→Calls Tryz.prog 360 #[.agg #[.int .u16 (g:Int), .int .u8 0, .int .u8 176]] V fun e w'=>e = .returned (.int .u64 (BK.w ⟨g,0,176⟩:Int))∧Below V.heap.size V w'):=hid (fun V hV=>bkWord_any ⟨g,0,176⟩ ⟨hg,by show (0:Nat) < 256;omega,by show (176:Nat) < 256;omega⟩ V (HTW.out.below hV))
 have HPC:Hid (∀ V,Below W.heap.size W V→Calls Tryz.prog 207 #[.int .i64 (cl:Int)] V fun e w'=>e = .returned (.int .i64 (perC cl:Int))∧V=w'):=hid (fun V hV=>perChunk_any cl hc V (HPW.out.below hV))
 have HOf:Hid (∀ k,k < perC cl→∀ V,Below W.heap.size W V→Calls Tryz.prog 354 #[.int .i64 (cl:Int), .int .i64 (k:Int)] V fun e w'=>e = .returned (.tuple #[.int .i64 (offB cl k:Int), .int .i64 0])∧V=w'):=hid (fun k hk V hV=>offset_any cl k hc hk V (HPW.out.below hV))
 have HSt:=hid (start_any ln (by omega))
 have HWd:Hid (∀ V,Below W.heap.size W V→Calls Tryz.prog 340 #[.agg #[.int .i64 (cl:Int), .int .i64 0, .int .u16 (g:Int)]] V fun e w'=>e = .returned (.int .u64 (hdrW cl g:Int))∧Below V.heap.size V w'):=hid (fun V hV=>wordCls_any cl g hc hg V (HTW.out.below hV))
 have HOl:Hid (∀ k,k < perC cl→offB cl k < 256):=hid (fun k hk=>by have:=off_lt hk;have:=pay_le cl;omega)
 have hper:=per_le cl
 have HBs:=hid (fun k=>fmtB_succ ln cl g k)
 have HZs:=hid (fun k=>fmtZ_succ ln k)
 have d1:decide ((0:Int)≤(ln:Int))=true:=decide_eq_true (by omega)
 have d2:decide ((ln:Int)≤4064)=true:=decide_eq_true (by omega)
 have d3:((g:Int) == 0)=false:=by rw [beq_eq_false_iff_ne];omega
 clear ht hp hc h0 hg
 generalize hz:64 * ln=z at *
 have hz4:z≤260096:=by omega
 have HZ:=hid hz
 clear hz hl
 go_enter Tryz.func379,Tryz.ntmps379
 go_wp2_with fail
 rw [← HWe.out]
 have c0:W.cell? ⟨w.heap.size,0,none⟩=some (.int .i64 (cl:Int)):=HK0.out.cell 0
 have c1:W.cell? ⟨w.heap.size,1,none⟩=some (.int .i64 0):=HK0.out.cell 1
 have c2:W.cell? ⟨w.heap.size,2,none⟩=some (.int .u16 (g:Int)):=HK0.out.cell 2
 go_wp2_with (first
  | (go_at_call 381;refine HF.out.mono ?_;rintro e w1 ⟨rfl,hb1⟩;have HB1:=hid hb1;have k1:=HK0.out.below hb1 HK0.out.lt;have c0':w1.cell? ⟨w.heap.size,0,none⟩=some (.int .i64 (cl:Int)):=k1.cell 0;have c1':w1.cell? ⟨w.heap.size,1,none⟩=some (.int .i64 0):=k1.cell 1;have c2':w1.cell? ⟨w.heap.size,2,none⟩=some (.int .u16 (g:Int)):=k1.cell 2;clear hb1 k1 c0 c1 c2)
  | (go_at_call 360;refine (HBw.out _ HB1.out).mono ?_;rintro e w2 ⟨rfl,hb2⟩;have HB2:=hid (HB1.out.trans (hb2.mono HB1.out.size));have k1:=HK0.out.below HB2.out HK0.out.lt;have c0:w2.cell? ⟨w.heap.size,0,none⟩=some (.int .i64 (cl:Int)):=k1.cell 0;clear hb2 k1 c0' c1' c2')
  | (go_at_call 207;refine (HPC.out _ HB2.out).mono ?_;rintro e w3 ⟨rfl,rfl⟩)
  | go_in)
 clear c0
 have HL2:Hid (W.heap.size≤w2.heap.size):=hid HB2.out.size
 have HO0:Hid (w2.ownsRow W.heap.size 114 2 (.slice none 0 0) 0 (wrCells (fmtB ln cl g 0))):=World.ownsRow_nil _ _ _ _
 generalize BK.w ⟨g,0,176⟩=bw at *
 go_loopw [6,33] (fun v i wr=>∃ (k:Nat) (A1:Option Addr) (m1 c1:Nat),k≤perC cl∧i = .int .i64 k∧v = .slice A1 m1 c1∧m1=k∧Hid (wr.ownsRow W.heap.size 114 2 (.slice A1 m1 c1) m1 (wrCells (fmtB ln cl g k)))∧Hid (Below W.heap.size W wr)) (fun _ i _=>perC cl - (RowKit.intOf i).toNat)
 case atStart=>exact ⟨0,_,_,_,Nat.zero_le _,rfl,rfl,rfl,HO0,HB2⟩
 case round =>
  clear HO0 HB2
  obtain ⟨k,A1,m1,c1,hk,rfl,rfl,hm1',HO,H⟩:=hrel
  by_cases hlt:k < perC cl
  ·have hz5:(0:Int)≤(k:Int):=by omega
   have hz6:(k:Int) < (perC cl:Int):=by omega
   have hm2:m1≤62:=by omega
   have HM:=hid hm1'
   have HOk:=hid (HOf.out k hlt wr H.out)
   have hol:=HOl.out k hlt
   have c0:wr.cell? ⟨w.heap.size,0,none⟩=some (.int .i64 (cl:Int)):=(HK0.out.below H.out HK0.out.lt).cell 0
   have HEQ:Hid (wrCells (fmtB ln cl g k)++[.int .u64 ((z+8 * offB cl k:Nat):Int), .int .u64 (bw:Int)]=wrCells (fmtB ln cl g (k+1))):=hid (by rw [HBs.out];simp [wrCells])
   generalize offB cl k=ob at *
   have u1:IntKind.u64.wrap (ob:Int)=(ob:Int):=by rw [IntKind.wrap_u64];omega
   have u2:IntKind.u64.wrap ((ob:Int) * 8)=(ob:Int) * 8:=by rw [IntKind.wrap_u64];omega
   have u3:IntKind.u64.wrap ((z:Int)+(ob:Int) * 8)=((z+8 * ob:Nat):Int):=by rw [IntKind.wrap_u64];omega
   have hy9:z+8 * ob < 9000000000:=by omega
   generalize z+8 * ob=y at *
   have HLE:=hid H.out.size
   have HOD:=hid (HO.out.alloc (.cells #[.int .u64 (y:Int), .int .u64 (bw:Int)] 114))
   have HBD:=hid (H.out.alloc H.out.size (.cells #[.int .u64 (y:Int), .int .u64 (bw:Int)] 114))
   clear H HO hm1'
   go_wp2_with (first
    | (go_at_call 354;refine HOk.out.mono ?_;rintro e w3 ⟨rfl,rfl⟩)
    | (go_at_call 339;refine (HSt.out _).mono ?_;rintro e w3 ⟨rfl,rfl⟩)
    | (at_builtin;refine wpList_app _ (.tmp 43) (.tmp 52) 108 rfl rfl W.heap.size 114 i0 _ 2 16 Tryz.underlying108 hi0 hz0 hz1 hz2 rfl ?q1 (.slice A1 m1 c1) m1 (wrCells (fmtB ln cl g k)) rfl HOD.out (wr.heap.size+1) (some ⟨wr.heap.size,0,none⟩) 1 1 [.int .u64 (y:Int), .int .u64 (bw:Int)] rfl ?q5 ?q6 ?q2 ?q3 ?q4 ?_;(case q1=>omega);(case q5=>exact row_reads_at _ _ rfl _ 1 2 114 _ rfl rfl);(case q6=>(intro u hu;simp at hu;rcases hu with rfl | rfl <;> rfl));(case q2=>(unfold maxLen;omega));(case q3=>omega);(case q4=>(have:=HLE.out;simp;omega));intro A3 n3 c3 w8 hn3 ho3 hg3 hb3;have HN3:=hid hn3;have HO3:=hid ho3;have HB3:=hid (HBD.out.trans hb3);clear hn3 ho3 hg3 hb3)
    | go_in)
   have b1:n3=k+1:=by have:=HN3.out;have:=HM.out;omega
   have HO4:Hid (w8.ownsRow W.heap.size 114 2 (.slice A3 n3 c3) n3 (wrCells (fmtB ln cl g (k+1)))):=hid (by have h:=HO3.out;rw [HEQ.out] at h;exact h)
   go_roundw
   case rel =>
    first
     | exact ⟨k+1,_,_,_,by omega,by go_num,rfl,b1,HO4,HB3⟩
     | (
       repeat apply Exists.intro
       refine ⟨?_,rfl⟩
       exact ⟨k+1,_,_,_,by omega,by go_num,rfl,b1,HO4,HB3⟩)
   case measure=>simp [RowKit.intOf];omega
  ·have hkp:perC cl=k:=by omega
   clear HOf HOl HPC HBw
   have HO0:Hid (wr.ownsRow W.heap.size 114 2 (.slice A1 m1 c1) m1 (wrCells (fmtB ln cl g (perC cl)++fmtZ ln 0))):=hid (by rw [hkp];simp only [fmtZ,List.range_zero,List.map_nil,List.append_nil];exact HO.out)
   have hm2:m1≤62:=by omega
   have HM0:=hid (show m1=perC cl by omega)
   have hd1:decide ((k:Int) < (perC cl:Int))=false:=decide_eq_false (by omega)
   have hd2:decide (k < perC cl)=false:=decide_eq_false hlt
   clear HO hkp hm1' hk hlt
   go_wp2
   clear hd1 hd2
   go_loopw [6,11] (fun v i wr=>∃ (j:Nat) (A2:Option Addr) (m2 c2:Nat),j≤7∧i = .int .u64 ((j+1:Nat):Int)∧v = .slice A2 m2 c2∧m2=m1+j∧Hid (wr.ownsRow W.heap.size 114 2 (.slice A2 m2 c2) m2 (wrCells (fmtB ln cl g (perC cl)++fmtZ ln j)))∧Hid (Below W.heap.size W wr)) (fun _ i _=>8 - (RowKit.intOf i).toNat)
   case atStart=>exact ⟨0,_,_,_,Nat.zero_le _,rfl,rfl,rfl,HO0,H⟩
   case round =>
    clear HO0 H
    obtain ⟨j,A2,m2,c2,hj,rfl,rfl,hm2',HO,H⟩:=hrel
    by_cases hlt:j < 7
    ·have d8:decide (((j+1:Nat):Int) < 8)=true:=decide_eq_true (by omega)
     have d8n:decide (j+1 < 8)=true:=decide_eq_true (by omega)
     have hm3:m2≤80:=by omega
     have HM:=hid hm2'
     have HEQ:Hid (wrCells (fmtB ln cl g (perC cl)++fmtZ ln j)++[.int .u64 ((z+8 * (j+1):Nat):Int), .int .u64 0]=wrCells (fmtB ln cl g (perC cl)++fmtZ ln (j+1))):=hid (by rw [HZs.out];simp [wrCells])
     have u2:IntKind.u64.wrap (((j+1:Nat):Int) * 8)=((j+1:Nat):Int) * 8:=by rw [IntKind.wrap_u64];omega
     have u3:IntKind.u64.wrap ((z:Int)+((j+1:Nat):Int) * 8)=((z+8 * (j+1):Nat):Int):=by rw [IntKind.wrap_u64];omega
     have u4:IntKind.u64.wrap (((j+1:Nat):Int)+1)=((j+1+1:Nat):Int):=by rw [IntKind.wrap_u64];omega
     have hy9:z+8 * (j+1) < 9000000000:=by omega
     generalize z+8 * (j+1)=y at *
     have hj2:j+1+1≤8:=by omega
     have HJ:Hid (∃ j2,j2=j+1):=hid ⟨_,rfl⟩
     generalize hj1:j+1=j1 at *
     generalize hj3:j1+1=j3 at *
     have HJ1:=hid hj1
     have HJ3:=hid hj3
     clear hj1 hj3 HJ
     have HLE:=hid H.out.size
     have HOD:=hid (HO.out.alloc (.cells #[.int .u64 (y:Int), .int .u64 0] 114))
     have HBD:=hid (H.out.alloc H.out.size (.cells #[.int .u64 (y:Int), .int .u64 0] 114))
     clear H HO hm2'
     go_wp2_with (first
      | (go_at_call 339;refine (HSt.out _).mono ?_;rintro e w3 ⟨rfl,rfl⟩)
      | (at_builtin;refine wpList_app _ (.tmp 59) (.tmp 66) 108 rfl rfl W.heap.size 114 i0 _ 2 16 Tryz.underlying108 hi0 hz0 hz1 hz2 rfl ?q1 (.slice A2 m2 c2) m2 (wrCells (fmtB ln cl g (perC cl)++fmtZ ln j)) rfl HOD.out (wr.heap.size+1) (some ⟨wr.heap.size,0,none⟩) 1 1 [.int .u64 (y:Int), .int .u64 0] rfl ?q5 ?q6 ?q2 ?q3 ?q4 ?_;(case q1=>omega);(case q5=>exact row_reads_at _ _ rfl _ 1 2 114 _ rfl rfl);(case q6=>(intro u hu;simp at hu;rcases hu with rfl | rfl <;> rfl));(case q2=>(unfold maxLen;omega));(case q3=>omega);(case q4=>(have:=HLE.out;simp;omega));intro A3 n3 c3 w8 hn3 ho3 hg3 hb3;have HN3:=hid hn3;have HO3:=hid ho3;have HB3:=hid (HBD.out.trans hb3);clear hn3 ho3 hg3 hb3)
      | go_in)
     have b1:n3=m1+(j+1):=by have:=HN3.out;have:=HM.out;omega
     have HO4:Hid (w8.ownsRow W.heap.size 114 2 (.slice A3 n3 c3) n3 (wrCells (fmtB ln cl g (perC cl)++fmtZ ln (j+1)))):=hid (by have h:=HO3.out;rw [HEQ.out,← HJ1.out] at h;exact h)
     have HV:Hid ((j3:Int)=((j+1+1:Nat):Int)):=hid (by rw [← HJ3.out,← HJ1.out])
     go_roundw
     case rel =>
      first
       | exact ⟨j+1,_,_,_,by omega,by rw [← HV.out],rfl,b1,HO4,HB3⟩
       | (
         repeat apply Exists.intro
         refine ⟨?_,rfl⟩
         exact ⟨j+1,_,_,_,by omega,by rw [← HV.out],rfl,b1,HO4,HB3⟩)
     case measure=>(have h1:=HJ1.out;have h3:=HJ3.out;simp [RowKit.intOf];omega)
    ·have hj7:j=7:=by omega
     subst hj7
     have HOF:Hid (wr.ownsRow W.heap.size 114 2 (.slice A2 m2 c2) m2 (wrCells (fmtW ln cl g))):=HO
     have HM2:Hid (m2≤69∧0 < m2):=hid (by have:=HM0.out;omega)
     have HVs:Hid (∀ e∈fmtW ln cl g,e.1 < 18446744073709551616):=hid (fun e he=>by
      unfold fmtW at he
      rcases List.mem_append.1 he with he | he
      ·obtain ⟨i,hi,rfl⟩:=fmtB_mem he
       have:=off_lt hi
       have:=HZ.out
       show 64 * ln+8 * offB cl i < _
       omega
      ·obtain ⟨i,hi,rfl⟩:=fmtZ_mem he
       have:=HZ.out
       show 64 * ln+8 * (i+1) < _
       omega)
     clear HO hm2' hlt hj HM0 hm2 HBs HZs
     go_wp2_with fail
     refine wp_region_script (fun w'=>Below W.heap.size W w') 4 [(true,0),(true,2),(false,1),(false,3)] (by kernel_rfl) (by kernel_rfl) H.out.drew ?_
     refine wpScript_take (.int .i64 (ln:Int)) (by rfl) (by rfl) (fun w' hS=>?_) ?_
     ·go_simp
     simp only [zA,zB,Act.put,zD,zE,zF]
     refine wpScript_take (.agg #[.int .i64 (cl:Int), .int .i64 0, .int .u16 (g:Int)]) (by rfl) (by rfl) (fun w' hS=>?_) ?_
     ·have f0:w'.cell? ⟨w.heap.size,0,none⟩=some (.int .i64 (cl:Int)):=(HK0.out.below hS HK0.out.lt).cell 0
      have f1:w'.cell? ⟨w.heap.size,1,none⟩=some (.int .i64 0):=(HK0.out.below hS HK0.out.lt).cell 1
      have f2:w'.cell? ⟨w.heap.size,2,none⟩=some (.int .u16 (g:Int)):=(HK0.out.below hS HK0.out.lt).cell 2
      go_simp
     simp only [zA,zB,zC,Act.put,zD,zE,zF]
     refine wpScript_do (by rfl) ?_
     go_wp2_with fail
     refine (HSt.out _).mono ?_
     rintro e w4 ⟨rfl,rfl⟩
     go_wp2_with fail
     refine ⟨H.out.drew,?_⟩
     refine wpScript_do (by rfl) ?_
     go_wp2_with fail
     refine (HWd.out _ H.out.drew).mono ?_
     rintro e w5 ⟨rfl,hb5⟩
     have HBd:Hid (Below wr.heap.size wr w5):=hid ((Below.refl _ wr).drew.trans hb5)
     have HB5:=hid (H.out.trans (HBd.out.mono H.out.size))
     have HO5:=hid (own_below HOF.out HBd.out)
     have HX:Hid (hdrW cl g=hdrW cl g):=hid rfl
     generalize hhd:hdrW cl g=hd at *
     have HHD:=hid hhd
     have HS1:=hid (stores_small _ 1 1 _ _ (one_reads w5 z hd) (by omega) (by omega) (fun e he=>by simp at he;subst he;show z < _;omega))
     have HB6:Hid (∀ o,Below W.heap.size W (w5.alloc o)):=hid (fun o=>HB5.out.alloc HB5.out.size o)
     have HO6:Hid (∀ o,(w5.alloc o).ownsRow W.heap.size 114 2 (.slice A2 m2 c2) m2 (wrCells (fmtW ln cl g))):=hid (fun o=>HO5.out.alloc o)
     clear hb5 hhd HX HOF HO5 HWd HBd
     go_wp2_with fail
     refine ⟨HB5.out,?_⟩
     show wpList _ _ _ _ _ _
     simp only [List.drop_succ_cons,List.drop_zero]
     go_wp2_with (go_at_call 105;refine HS1.out.mono ?_;intro e w6 h1;obtain ⟨A4,m4,c4,p4,rfl,hp4,ho4,hb4⟩:=h1;refine stop ?_)
     unfold Stop
     have HB7:=hid ((HB6.out _).trans (hb4.mono (HB6.out _).size))
     have HO7:=hid (own_below (HO6.out _) hb4)
     have HP4:=hid hp4
     have HO4:=hid (own_le ho4 (HB6.out _).size)
     have HS2:=hid (stores_small A2 m2 c2 (fmtW ln cl g) w6 (Reads.of_own HO7.out) HM2.out.2 (by have:=HM2.out;omega) HVs.out)
     have h4l:=stores_len hp4
     have hm4:m4≤400:=by have h:=ho4.1;rw [insCells_len] at h;simp at h4l;omega
     clear hp4 ho4 hb4 HS1 HB6 HO6 HO7 HB5 H h4l
     go_wp2_with fail
     refine NoPanic.normal ?_
     go_wp2_with (go_at_call 105;refine HS2.out.mono ?_;intro e w7 h1;obtain ⟨A5,m5,c5,p5,rfl,hp5,ho5,hb5⟩:=h1;refine stop ?_)
     unfold Stop
     have HO8:=hid (own_below HO4.out hb5)
     have h5l:=stores_len hp5
     have hm5:m5≤400:=by have h:=ho5.1;rw [insCells_len] at h;rw [fmtW_len] at h5l;have:=per_le cl;omega
     have HTh:=hid (then_any A5 A4 m5 c5 m4 c4 p5 p4 w7 (Reads.of_own ho5) (Reads.of_own HO8.out) hm5 hm4)
     have HP5:=hid hp5
     have HB8:=hid (HB7.out.trans (hb5.mono HB7.out.size))
     clear hp5 ho5 hb5 HS2 HO4 HO8 HB7 h5l
     go_wp2_with fail
     refine HTh.out.mono ?_
     rintro e w8 ⟨A6,m6,c6,rfl,hm6,ho6,hb6⟩
     have HO9:=hid (own_le (base':=w.heap.size) ho6 (Nat.le_trans HB0.out.size HB8.out.size))
     have HB9:=hid (HB0.out.trans ((HB8.out.trans (hb6.mono HB8.out.size)).mono HB0.out.size))
     clear ho6 hb6 hm6 HTh HB8
     go_wp2
     go_ret2
     refine ⟨_,_,_,_,rfl,⟨p5,p4,rfl,HP5.out,?_⟩,HO9.out,HB9.out⟩
     rw [HZ.out,HHD.out]
     exact HP4.out
end
end
section
open Go.RowKit
def freedB (b:BK):BK:=if b.gen=65535 then ⟨65535,0,178⟩ else ⟨b.gen+1,0,176⟩
def takenB (b:BK) (kind:Nat):BK:=⟨b.gen,kind,177⟩
theorem freedB_in {b:BK} (h:b.In):(freedB b).In:=by
 unfold freedB
 have:=h.g
 split
 ·exact ⟨by show 65535 < 65536;omega,by show 0 < 256;omega,by show 178 < 256;omega⟩
 ·exact ⟨by show b.gen+1 < 65536;omega,by show 0 < 256;omega,by show 176 < 256;omega⟩
theorem freedB_good (b:BK):(freedB b).good=true:=by
 unfold freedB
 split
 ·simp [BK.good]
 ·simp [BK.good]
theorem takenB_in {b:BK} (h:b.In) {kind:Nat} (hk:kind < 256):(takenB b kind).In:=⟨h.g,hk,by show 177 < 256;omega⟩
theorem takenB_good {b:BK} (hg:b.good=true) (hs:b.st=176) {kind:Nat} (h0:0 < kind) (h8:kind < 128):(takenB b kind).good=true:=by
 unfold BK.good at hg
 rw [if_pos hs] at hg
 simp at hg
 simp [BK.good,takenB]
 exact ⟨⟨hg.1,by omega⟩,decide_eq_true (by omega)⟩
def updB (bs:Nat→BK) (i:Nat) (b:BK):Nat→BK:=fun j=>if j=i then b else bs j
def tkB (bs:Nat→BK) (l:List (Nat × Nat)):Nat→BK:=l.foldl (fun c e=>updB c e.1 (takenB (bs e.1) e.2)) bs
def drB (bs c:Nat→BK) (l:List Nat):Nat→BK:=l.foldl (fun c i=>updB c i (freedB (bs i))) c
theorem tkB_snoc (bs:Nat→BK) (l:List (Nat × Nat)) (e:Nat × Nat):tkB bs (l++[e])=updB (tkB bs l) e.1 (takenB (bs e.1) e.2):=by simp [tkB]
theorem drB_snoc (bs c:Nat→BK) (l:List Nat) (i:Nat):drB bs c (l++[i])=updB (drB bs c l) i (freedB (bs i)):=by simp [drB]
theorem foldB_out {α:Type} (g:α→Nat) (v:α→BK) (i:Nat):∀ (l:List α) (c:Nat→BK),i ∉ l.map g→(l.foldl (fun c e=>updB c (g e) (v e)) c) i=c i
 | [],_,_=>rfl
 | e :: l,c,h=>by
  rw [List.foldl_cons,foldB_out g v i l _ (fun hh=>h (by simp at hh ⊢;exact .inr hh))]
  unfold updB
  rw [if_neg (fun hh=>h (by simp [hh]))]
theorem foldB_in {α:Type} (g:α→Nat) (v:α→BK):∀ (l:List α) (c:Nat→BK),(l.map g).Nodup→∀ e∈l,(l.foldl (fun c e=>updB c (g e) (v e)) c) (g e)=v e
 | [],_,_,_,h=>by simp at h
 | x :: l,c,hn,e,he=>by
  rw [List.map_cons,List.nodup_cons] at hn
  rw [List.foldl_cons]
  rcases List.mem_cons.1 he with rfl | he
  ·rw [foldB_out g v _ l _ hn.1]
   simp [updB]
  ·exact foldB_in g v l _ hn.2 e he
structure Bits (V cl:Nat) (bs:Nat→BK):Prop where
 lt:V < 18446744073709551616
 bit:∀ i,i < perC cl→bitAt V i=decide ((bs i).st≠176)
 top:V < 2 ^ perC cl
theorem bitAt_test (V i:Nat):bitAt V i=V.testBit i:=by
 unfold bitAt
 rw [Nat.testBit_eq_decide_div_mod_eq]
 rcases Nat.mod_two_eq_zero_or_one (V / 2 ^ i) with h | h <;> simp [h]
theorem pow_lt64 {i:Nat} (h:i < 64):2 ^ i < 18446744073709551616:=by
 have h1:(2:Nat) ^ i≤2 ^ 63:=Nat.pow_le_pow_right (by omega) (by omega)
 have h2:(2:Nat) ^ 63=9223372036854775808:=by decide
 omega
theorem bit_set {V i:Nat} (hV:V < 18446744073709551616) (hi:i < 64):(V ||| 2 ^ i) < 18446744073709551616∧∀ j,bitAt (V ||| 2 ^ i) j=if j=i then true else bitAt V j:=by
 refine ⟨Nat.or_lt_two_pow (n:=64) hV (pow_lt64 hi),fun j=>?_⟩
 rw [bitAt_test,bitAt_test,Nat.testBit_or,Nat.testBit_two_pow]
 by_cases e:j=i
 ·subst e;simp
 ·rw [if_neg e]
  simp
  omega
theorem bit_flip {V i:Nat} (hV:V < 18446744073709551616) (hi:i < 64) (hb:bitAt V i=true):(V ^^^ 2 ^ i) < 18446744073709551616∧∀ j,bitAt (V ^^^ 2 ^ i) j=if j=i then false else bitAt V j:=by
 refine ⟨Nat.xor_lt_two_pow (n:=64) hV (pow_lt64 hi),fun j=>?_⟩
 rw [bitAt_test,bitAt_test,Nat.testBit_xor,Nat.testBit_two_pow]
 rw [bitAt_test] at hb
 by_cases e:j=i
 ·subst e;simp [hb]
 ·rw [if_neg e]
  have:decide (i=j)=false:=decide_eq_false (fun h=>e h.symm)
  rw [this]
  simp
theorem Bits.take {V cl i kind:Nat} {bs:Nat→BK} {b:BK} (h:Bits V cl bs) (hi:i < perC cl):Bits (V ||| 2 ^ i) cl (updB bs i (takenB b kind)):=by
 have hp:=per_le cl
 obtain ⟨h1,h2⟩:=bit_set h.lt (i:=i) (by omega)
 refine ⟨h1,fun j hj=>?_,Nat.or_lt_two_pow h.top (Nat.pow_lt_pow_right (by omega) hi)⟩
 rw [h2]
 unfold updB
 by_cases e:j=i
 ·rw [if_pos e,if_pos e];rfl
 ·rw [if_neg e,if_neg e];exact h.bit j hj
theorem Bits.drop {V cl i:Nat} {bs:Nat→BK} {b:BK} (h:Bits V cl bs) (hi:i < perC cl) (hs:(bs i).st=177):Bits (if (freedB b).st=176 then V ^^^ 2 ^ i else V) cl (updB bs i (freedB b)):=by
 have hp:=per_le cl
 have hb:bitAt V i=true:=by rw [h.bit i hi,hs];rfl
 obtain ⟨h1,h2⟩:=bit_flip h.lt (i:=i) (by omega) hb
 by_cases hf:(freedB b).st=176
 ·rw [if_pos hf]
  refine ⟨h1,fun j hj=>?_,Nat.xor_lt_two_pow h.top (Nat.pow_lt_pow_right (by omega) hi)⟩
  rw [h2]
  unfold updB
  by_cases e:j=i
  ·rw [if_pos e,if_pos e,hf];rfl
  ·rw [if_neg e,if_neg e];exact h.bit j hj
 ·rw [if_neg hf]
  refine ⟨h.lt,fun j hj=>?_,h.top⟩
  unfold updB
  by_cases e:j=i
  ·rw [if_pos e,e,hb]
   simp [hf]
  ·rw [if_neg e];exact h.bit j hj
theorem shl_one {i:Nat} (hi:i < 64):IntKind.u64.wrap ((2:Int) ^ i)=((2 ^ i:Nat):Int):=by
 have h:=pow_lt64 hi
 have e:((2:Int) ^ i)=((2 ^ i:Nat):Int):=by push_cast;rfl
 rw [e,IntKind.wrap_u64]
 generalize (2 ^ i:Nat)=q at *
 omega
theorem two64:(2:Nat) ^ 64=18446744073709551616:=by decide
theorem u64_andNot_nat (V i:Nat) (hV:V < 18446744073709551616) (hi:i < 64) (hb:bitAt V i=true):bits .andNot .u64 (V:Int) ((2 ^ i:Nat):Int)=((V ^^^ 2 ^ i:Nat):Int):=by
 have h2:=pow_lt64 hi
 have hx:=(bit_flip hV hi hb).1
 have h4:=two64
 have h5:2 ^ i < 2 ^ 64:=by omega
 show IntKind.u64.wrap ((BitVec.ofInt 64 (V:Int) &&& ~~~BitVec.ofInt 64 ((2 ^ i:Nat):Int)).toNat:Int)=_
 rw [BitVec.toNat_and,BitVec.toNat_not,ofInt_u64 V hV,ofInt_u64 (2 ^ i) h2]
 have h6:2 ^ 64 - 1 - 2 ^ i=2 ^ 64 - (2 ^ i+1):=by omega
 have e:V &&& (2 ^ 64 - (2 ^ i+1))=V ^^^ 2 ^ i:=by
  apply Nat.eq_of_testBit_eq
  intro j
  rw [Nat.testBit_and,Nat.testBit_xor,Nat.testBit_two_pow_sub_succ h5,Nat.testBit_two_pow]
  rw [bitAt_test] at hb
  by_cases e:i=j
  ·subst e
   rw [hb]
   simp [hi]
  ·have hd:decide (i=j)=false:=decide_eq_false e
   rw [hd]
   by_cases h64:j < 64
   ·simp [h64]
   ·have h7:(2:Nat) ^ 64≤2 ^ j:=Nat.pow_le_pow_right (by omega) (by omega)
    have:V.testBit j=false:=Nat.testBit_lt_two_pow (by omega)
    simp [this]
 rw [h6,e,IntKind.wrap_u64]
 generalize (V ^^^ 2 ^ i:Nat)=q at *
 omega
def tkW (ln cl:Nat) (bs:Nat→BK) (l:List (Nat × Nat)):List (Nat × Nat):=l.map fun e=>(64 * ln+8 * offB cl e.1,(takenB (bs e.1) e.2).w)
def drW (ln cl:Nat) (bs:Nat→BK) (l:List Nat):List (Nat × Nat):=l.map fun i=>(64 * ln+8 * offB cl i,(freedB (bs i)).w)
def chgW (ln cl:Nat) (bs:Nat→BK) (take:List (Nat × Nat)) (drop:List Nat) (V:Nat):List (Nat × Nat):=tkW ln cl bs take++drW ln cl bs drop++[(64 * ln+8,V)]
def actB (bs:Nat→BK) (take:List (Nat × Nat)) (drop:List Nat):Nat→BK:=drB bs (tkB bs take) drop
end
end Go.Proofs.YtfkjjoglnmeciaaGreatDoor
