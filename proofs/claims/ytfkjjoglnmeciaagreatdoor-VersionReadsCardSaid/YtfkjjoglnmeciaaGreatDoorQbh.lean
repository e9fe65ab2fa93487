/- The walks and laws that the claim leans on, part 34. -/
import Derived.Test.YtfkjjoglnmeciaaGreatDoorQav
import Derived.Test.YtfkjjoglnmeciaaGreatDoorQax
import Derived.Test.YtfkjjoglnmeciaaGreatDoorQay
set_option maxRecDepth 100000
set_option maxHeartbeats 16000000
namespace Go.Proofs.YtfkjjoglnmeciaaGreatDoor
open Go.Lib (hid)
section
open Go.RowKit Go.Maps
def chkR (s K:Nat) (cs:Nat→CS) (p kind:Nat):Nat:=if p=0 then 1 else if p / 72057594037927936≠0 then 2 else match homeOf s K (pOff p) with
 | none=>2
 | some k=>if (cs k).dv=true then (if (blkR (s+32 * k) (cs k).cl (cs k).bs p).2≠0 then (blkR (s+32 * k) (cs k).cl (cs k).bs p).2 else if kind≠0∧kind≠pKind p then 13 else 0) else 2
section
variable {a:DA} {L T s n K:Nat} {x:HA} {cs:Nat→CS} {f:Nat→Option Nat} {N m b0:Nat} {S:Fp} {cur:Nat→Nat} {w w':World}
theorem DS.home (h:DS a L T s n K x cs f N m b0 S cur w) (p:Nat) (W:World) (hW:Below w.heap.size w W) :
  Calls Tryz.prog 194 #[.pointer (some ⟨x.h,0,none⟩), .int .u64 (pOff p:Int)] W fun e w'=>∃ (ln:Nat) (b:Bool),e = .returned (.tuple #[.int .i64 (ln:Int), .bool b])∧HomeP s K (pOff p) ln b∧W=w':=by
 have h1:=h.hK;have h2:=h.hL;exact home_any (h.hs.heap.below hW h.hs.heap.lt) oM oM h1.1 (pOff p) (by unfold pOff;omega)
theorem check_any (h:DS a L T s n K x cs f N m b0 S cur w) (p kind:Nat) (hp64:p < 18446744073709551616) (hk:kind < 256) :
  Calls Tryz.prog 96 #[.pointer (some ⟨x.h,0,none⟩), .int .u64 (p:Int), .int .u8 (kind:Int)] w fun e w'=>e = .returned (.int .i64 (chkR s K cs p kind:Int))∧Below w.heap.size w w':=by
 have HD:=hid h;have HNil:=hid (nil_any p w);have HEr:Hid (∀ W,Below w.heap.size w W→Calls Tryz.prog 112 #[.pointer (some ⟨a.th 0,0,none⟩)] W fun e w'=>e = .returned (.int .i64 0)∧W=w'):=hid (fun W hW=>thErr (h.dev.below hW));have HOf:=hid (off_any p);have HKn:=hid (kind_any p);have HHm:=hid (h.home p w (Below.refl _ _));have hm:=methErr (some ⟨a.th 0,0,none⟩);have hx0:w.cell? ⟨x.h,0,none⟩=some (.iface 58 (.pointer (some ⟨a.th 0,0,none⟩))):=h.hs.heap.cell 0;have HB0:Hid (Below w.heap.size w w):=Below.refl _ _;clear h;by_cases hp0:p=0
 ·have HR:Hid (chkR s K cs p kind=1):=hid (by unfold chkR;rw [if_pos hp0])
  rw [decide_eq_true hp0] at HNil;clear hp0;go_enter Tryz.func96,Tryz.ntmps96
  go_wp2_with (go_at_call 22;refine HNil.out.mono ?_;rintro e w1 ⟨rfl,rfl⟩)
  go_ret;exact ⟨by rw [HR.out];rfl,HB0.out⟩
 ·rw [decide_eq_false hp0] at HNil
  have HRR:Hid (chkR s K cs p kind=if p / 72057594037927936≠0 then 2 else match homeOf s K (pOff p) with
   | none=>2
   | some k=>if (cs k).dv=true then (if (blkR (s+32 * k) (cs k).cl (cs k).bs p).2≠0 then (blkR (s+32 * k) (cs k).cl (cs k).bs p).2 else if kind≠0∧kind≠pKind p then 13 else 0) else 2):=hid (by unfold chkR;rw [if_neg hp0])
  clear hp0;generalize chkR s K cs p kind=rr at *;generalize hpo:pOff p=po at *;have HPO:=hid hpo;clear hpo;go_enter Tryz.func96,Tryz.ntmps96
  go_wp2_with (first
   | (go_at_call 22;refine HNil.out.mono ?_;rintro e w1 ⟨rfl,rfl⟩)
   | (go_at_call 112;refine (HEr.out _ HB0.out).mono ?_;rintro e w1 ⟨rfl,rfl⟩)
   | (go_at_call 135;refine (HOf.out _).mono ?_;rintro e w1 ⟨rfl,rfl⟩)
   | (go_at_call 194;refine HHm.out.mono ?_;rintro e w1 ⟨ln,b,rfl,hP,rfl⟩;refine stop ?_))
  unfold Stop;clear HNil HOf HHm;rcases hP with ⟨hho,rfl,rfl⟩ | ⟨k,hho,hk,rfl,rfl⟩
  ·have HR:Hid (rr=2):=hid (by rw [HRR.out,hho];split <;> rfl)
   clear hho HRR;go_wp2;go_ret;exact ⟨by rw [HR.out];rfl,HB0.out⟩
  ·rw [hho] at HRR
   clear hho;dsimp only at HRR;have HKk:=hid hk;by_cases hpt:p / 72057594037927936=0
   ·rw [if_neg (fun hh=>hh hpt)] at HRR
    have q0:((p:Int) / 72057594037927936 == 0)=true:=by rw [beq_iff_eq];omega
    have q1:(p:Int) / 72057594037927936=0:=oM;clear hpt;have hln:=HD.out.line hk;cases hd:(cs k).dv with
    | false =>
     have hu:cur (8 * (s+32 * k))=freeW (cs k).g∧0 < (cs k).g∧(cs k).g < 65536:=by
      have:=HD.out.ok k hk;unfold CSok at this;rw [hd] at this;exact this
     have HR:Hid (rr=2):=hid (by rw [HRR.out,hd];rfl);have HOp:=hid (chOpen_undiv HD.out.dev HD.out.tab (s+32 * k) (cs k).g hln hu.2.1 hu.2.2 hu.1);unfold chNone memV at HOp;clear HRR hd hu hk;generalize ((s+32 * k:Nat):Int)=v at *;go_wp2_with (go_at_call 195;refine HOp.out.mono ?_;rintro e w1 ⟨rfl,hb1⟩;refine stop ?_)
     unfold Stop;have HB1:=hid (hb1.alloc hb1.size (.cells #[.nilIface, .int .i64 0, .int .i64 0, .int .i64 0, .int .u16 0] 306));have HEr1:=hid (HEr.out _ HB1.out);have hx1:w1.cell? ⟨x.h,0,none⟩=some (.iface 58 (.pointer (some ⟨a.th 0,0,none⟩))):=(HD.out.hs.heap.below hb1 HD.out.hs.heap.lt).cell 0;have hxl:x.h < w1.heap.size:=Nat.lt_of_lt_of_le HD.out.hs.heap.lt hb1.size;clear hb1 HOp hx0;go_wp2_with (go_at_call 112;refine HEr1.out.mono ?_;rintro e w2 ⟨rfl,rfl⟩)
     go_ret;exact ⟨by rw [HR.out];rfl,HB1.out⟩
    | true =>
     rw [hd] at HRR;have hC:=HD.out.chw hk hd;have HOp:=hid (chOpen_cls HD.out.dev HD.out.tab HD.out.pay (s+32 * k) (cs k).cl (cs k).g hln hC.cls hC.g0 hC.g1 hC.hdr);have HBk:Hid (∀ W,Below w.heap.size w W→Calls Tryz.prog 196 #[chV a (s+32 * k) (cs k).cl 0 (cs k).g, .int .u64 (p:Int)] W fun e w'=>e = .returned (.tuple #[.int .i64 ((blkR (s+32 * k) (cs k).cl (cs k).bs p).1:Int), .int .i64 ((blkR (s+32 * k) (cs k).cl (cs k).bs p).2:Int)])∧Below W.heap.size W w'):=hid (fun W hW=>chBlock_any (HD.out.dev.below hW) (HD.out.tab.below hW) (HD.out.pay.below hW) (s+32 * k) (cs k).cl (cs k).g (cs k).V p (cs k).bs hln hC hp64);clear hC hd hln hk;rw [if_pos rfl] at HRR;generalize blkR (s+32 * k) (cs k).cl (cs k).bs p=br at *;obtain ⟨bi,be⟩:=br;dsimp only at *;unfold chV memV at *;generalize s+32 * k=ln at *;generalize (cs k).cl=cl at *;generalize (cs k).g=g at *;go_wp2_with (go_at_call 195;refine HOp.out.mono ?_;rintro e w1 ⟨rfl,hb1⟩;refine stop ?_)
     unfold Stop;have HB1:=hid (hb1.alloc hb1.size (.cells #[.iface 58 (.pointer (some ⟨a.th 0,0,none⟩)), .int .i64 (ln:Int), .int .i64 (cl:Int), .int .i64 0, .int .u16 (g:Int)] 306));have HEr1:=hid (HEr.out _ HB1.out);have HBk1:=hid (HBk.out _ HB1.out);have hx1:w1.cell? ⟨x.h,0,none⟩=some (.iface 58 (.pointer (some ⟨a.th 0,0,none⟩))):=(HD.out.hs.heap.below hb1 HD.out.hs.heap.lt).cell 0;have hxl:x.h < w1.heap.size:=Nat.lt_of_lt_of_le HD.out.hs.heap.lt hb1.size;clear hb1 HOp hx0 HBk;by_cases hbe:be=0
     ·subst hbe
      rw [if_neg (fun hh=>hh rfl)] at HRR;by_cases hk0:kind=0
      ·subst hk0
       rw [if_neg (fun hh=>hh.1 rfl)] at HRR;go_wp2_with (first
        | (go_at_call 112;refine HEr1.out.mono ?_;rintro e w2 ⟨rfl,rfl⟩)
        | (go_at_call 196;refine HBk1.out.mono ?_;rintro e w2 ⟨rfl,hb2⟩;have HB2:=hid (HB1.out.trans (hb2.mono HB1.out.size));clear hb2))
       go_ret;exact ⟨by rw [HRR.out];rfl,HB2.out⟩
      ·obtain ⟨g1,g2,g3,g4⟩:=nz_facts hk0
       by_cases hkd:kind=pKind p
       ·have e1:((kind:Int) == (pKind p:Int))=true:=by rw [beq_iff_eq];omega
        rw [if_neg (fun hh=>hh.2 hkd)] at HRR;clear hkd;generalize pKind p=pk at *;go_wp2_with (first
         | (go_at_call 112;refine HEr1.out.mono ?_;rintro e w2 ⟨rfl,rfl⟩)
         | (go_at_call 150;refine (HKn.out _).mono ?_;rintro e w3 ⟨rfl,rfl⟩)
         | (go_at_call 196;refine HBk1.out.mono ?_;rintro e w2 ⟨rfl,hb2⟩;have HB2:=hid (HB1.out.trans (hb2.mono HB1.out.size));clear hb2))
        go_ret;exact ⟨by rw [HRR.out];rfl,HB2.out⟩
       ·have e1:((kind:Int) == (pKind p:Int))=false:=by rw [beq_eq_false_iff_ne];omega
        rw [if_pos ⟨hk0,hkd⟩] at HRR;clear hkd;generalize pKind p=pk at *;go_wp2_with (first
         | (go_at_call 112;refine HEr1.out.mono ?_;rintro e w2 ⟨rfl,rfl⟩)
         | (go_at_call 150;refine (HKn.out _).mono ?_;rintro e w3 ⟨rfl,rfl⟩)
         | (go_at_call 196;refine HBk1.out.mono ?_;rintro e w2 ⟨rfl,hb2⟩;have HB2:=hid (HB1.out.trans (hb2.mono HB1.out.size));clear hb2))
        go_ret;exact ⟨by rw [HRR.out];rfl,HB2.out⟩
     ·rw [if_pos hbe] at HRR
      obtain ⟨g1,g2,g3,g4⟩:=nz_facts hbe;clear hbe;go_wp2_with (first
       | (go_at_call 112;refine HEr1.out.mono ?_;rintro e w2 ⟨rfl,rfl⟩)
       | (go_at_call 196;refine HBk1.out.mono ?_;rintro e w2 ⟨rfl,hb2⟩;have HB2:=hid (HB1.out.trans (hb2.mono HB1.out.size));clear hb2))
      go_ret;exact ⟨by rw [HRR.out];rfl,HB2.out⟩
   ·rw [if_pos hpt] at HRR
    have q0:((p:Int) / 72057594037927936 == 0)=false:=by rw [beq_eq_false_iff_ne];omega
    clear hpt;generalize ((s+32 * k:Nat):Int)=v at *;go_wp2;go_ret;exact ⟨by rw [HRR.out];rfl,HB0.out⟩
end
end
section
open Go.RowKit Go.Maps
section
variable {a:DA} {L T s n K:Nat} {x:HA} {cs:Nat→CS} {f:Nat→Option Nat} {N m b0:Nat} {S:Fp} {cur:Nat→Nat} {w w':World}
theorem hPlace_any (h:DS a L T s n K x cs f N m b0 S cur w) {k i:Nat} (hk:k < K) (hd:(cs k).dv=true) (hi:i < perC (cs k).cl) (p:Nat) (hpo:pOff p=offO s cs k i) :
  Calls Tryz.prog 237 #[.pointer (some ⟨x.h,0,none⟩), .int .u64 (p:Int)] w fun e w'=>e = .returned (.tuple #[.int .i64 ((s+32 * k:Nat):Int), .int .i64 (i:Int), .int .i64 ((cs k).cl:Int)])∧Below w.heap.size w w':=by
 have hC:=h.chw hk hd;have hln:=h.line hk;have hL:=h.hL;have HD:=hid h;have HOf:Hid (∀ W,Calls Tryz.prog 135 #[.int .u64 (p:Int)] W fun e w'=>e = .returned (.int .u64 (offO s cs k i:Int))∧W=w'):=hid (fun W=>by have h2:=off_any p W;rw [hpo] at h2;exact h2);have hho:homeOf s K (offO s cs k i)=some k:=homeOf_blk hk hi;have HHm:=hid (h.home p w (Below.refl _ _));rw [hpo] at HHm;have HHo:=hid hho;have HOp:=hid (chOpen_cls h.dev h.tab h.pay (s+32 * k) (cs k).cl (cs k).g hln hC.cls hC.g0 hC.g1 hC.hdr);have HCc:Hid (∀ W,Below w.heap.size w W→Calls Tryz.prog 208 #[chV a (s+32 * k) (cs k).cl 0 (cs k).g] W fun e w'=>e = .returned (.int .i64 ((cs k).cl:Int))∧Below W.heap.size W w'):=hid (fun W _=>chClass_any a _ _ _ _ W);have hfc:=findC_off hi;have HFi:Hid (∀ W,Below w.heap.size w W→Calls Tryz.prog 314 #[.int .i64 ((cs k).cl:Int), .int .i64 ((offB (cs k).cl i+1:Nat):Int)] W fun e w'=>e = .returned (.tuple #[.int .i64 (i:Int), .bool true])∧W=w'):=hid (fun W hW=>by
  have h1:=szFind_any (cs k).cl (offB (cs k).cl i+1) hC.cls (by have:=off_lt hi;omega) W (h.pay.below hW);unfold findR at h1;rw [hfc] at h1;exact h1)
 have hx0:w.cell? ⟨x.h,0,none⟩=some (.iface 58 (.pointer (some ⟨a.th 0,0,none⟩))):=h.hs.heap.cell 0;have ho:=off_lt hi;have hoe:offO s cs k i=64 * (s+32 * k)+8 * offB (cs k).cl i+8:=rfl;have hob:=offB_ge (cs k).cl i;clear h hC hpo hho hd hfc;have HE:Hid (s+32 * k=s+32 * k):=hid rfl;generalize hlne:s+32 * k=ln at *;have HLE:=hid hlne;clear hlne HE;have u1:IntKind.u64.wrap (ln:Int)=(ln:Int):=by rw [IntKind.wrap_u64];omega
 have u2:IntKind.u64.wrap ((ln:Int) * 64)=(ln:Int) * 64:=by rw [IntKind.wrap_u64];omega
 obtain ⟨y,hy⟩:∃ y,8 * offB (cs k).cl i+8=y:=⟨_,rfl⟩
 have u3:IntKind.u64.wrap ((offO s cs k i:Int) - (ln:Int) * 64)=(y:Int):=by rw [IntKind.wrap_u64,hoe];omega
 have u4:(y:Int) / 8=((offB (cs k).cl i+1:Nat):Int):=oM;have u5:IntKind.i64.wrap ((offB (cs k).cl i+1:Nat):Int)=((offB (cs k).cl i+1:Nat):Int):=IntWalk.i64_in _ oM;have uq:IntKind.u64.wrap ((offB (cs k).cl i+1:Nat):Int)=((offB (cs k).cl i+1:Nat):Int):=by rw [IntKind.wrap_u64];omega
 have hq:((offB (cs k).cl i+1:Nat):Int)≤256:=oM;clear hoe hy;generalize offB (cs k).cl i+1=q at *;generalize offO s cs k i=o at *;unfold chV memV at *;generalize (cs k).cl=cl at *;generalize (cs k).g=g at *;go_enter Tryz.func237,Tryz.ntmps237
 go_wp2_with (first
  | (go_at_call 135;refine (HOf.out _).mono ?_;rintro e w1 ⟨rfl,rfl⟩)
  | (go_at_call 194;refine HHm.out.mono ?_;rintro e w1 ⟨l1,b1,rfl,hP,rfl⟩;refine stop ?_))
 unfold Stop;have hlb:l1=ln∧b1=true:=by
  rcases hP with ⟨h1,_,_⟩ | ⟨k',h1,_,h3,h4⟩
  ·rw [HHo.out] at h1;cases h1
  ·rw [HHo.out] at h1
   injection h1 with h1
   subst h1;exact ⟨by rw [h3];exact HLE.out,h4⟩
 obtain ⟨rfl,rfl⟩:=hlb;clear hP HHo HHm;go_wp2_with (go_at_call 195;refine HOp.out.mono ?_;rintro e w1 ⟨rfl,hb1⟩;refine stop ?_)
 unfold Stop;have HB1:=hid (hb1.alloc hb1.size (.cells #[.iface 58 (.pointer (some ⟨a.th 0,0,none⟩)), .int .i64 (l1:Int), .int .i64 (cl:Int), .int .i64 0, .int .u16 (g:Int)] 306));have HK1:=hid (Blk.new w1 306 #[.iface 58 (.pointer (some ⟨a.th 0,0,none⟩)), .int .i64 (l1:Int), .int .i64 (cl:Int), .int .i64 0, .int .u16 (g:Int)]);clear hb1 HOp hx0;generalize hW1:w1.alloc (.cells #[.iface 58 (.pointer (some ⟨a.th 0,0,none⟩)), .int .i64 (l1:Int), .int .i64 (cl:Int), .int .i64 0, .int .u16 (g:Int)] 306)=W1 at *;have HW1:=hid hW1.symm;clear hW1;have hc0:W1.cell? ⟨w1.heap.size,0,none⟩=some (.iface 58 (.pointer (some ⟨a.th 0,0,none⟩))):=HK1.out.cell 0;have hc1:W1.cell? ⟨w1.heap.size,1,none⟩=some (.int .i64 (l1:Int)):=HK1.out.cell 1;have hc2:W1.cell? ⟨w1.heap.size,2,none⟩=some (.int .i64 (cl:Int)):=HK1.out.cell 2;have hc3:W1.cell? ⟨w1.heap.size,3,none⟩=some (.int .i64 0):=HK1.out.cell 3;have hc4:W1.cell? ⟨w1.heap.size,4,none⟩=some (.int .u16 (g:Int)):=HK1.out.cell 4;go_wp2_with (first
  | (go_at_call 135;refine (HOf.out _).mono ?_;rintro e w1 ⟨rfl,rfl⟩)
  | (go_at_call 208;refine stop ?_))
 unfold Stop;rw [← HW1.out];refine (HCc.out W1 HB1.out).mono ?_;rintro e W2 ⟨rfl,hb2⟩;have HB2:=hid (HB1.out.trans (hb2.mono HB1.out.size));have HK2:=hid (HK1.out.below hb2 HK1.out.lt);have HF2:=hid (HFi.out W2 HB2.out);have HC2:=hid (HCc.out W2 HB2.out);have hd0:W2.cell? ⟨w1.heap.size,0,none⟩=some (.iface 58 (.pointer (some ⟨a.th 0,0,none⟩))):=HK2.out.cell 0;have hd1:W2.cell? ⟨w1.heap.size,1,none⟩=some (.int .i64 (l1:Int)):=HK2.out.cell 1;have hd2:W2.cell? ⟨w1.heap.size,2,none⟩=some (.int .i64 (cl:Int)):=HK2.out.cell 2;have hd3:W2.cell? ⟨w1.heap.size,3,none⟩=some (.int .i64 0):=HK2.out.cell 3;have hd4:W2.cell? ⟨w1.heap.size,4,none⟩=some (.int .u16 (g:Int)):=HK2.out.cell 4;clear hb2 hc0 hc1 hc2 hc3 hc4 HCc HFi HOf;go_wp2_with (first
  | (go_at_call 314;refine HF2.out.mono ?_;rintro e w3 ⟨rfl,rfl⟩)
  | (go_at_call 208;refine HC2.out.mono ?_;rintro e W3 ⟨rfl,hb3⟩;have HB3:=hid (HB2.out.trans (hb3.mono HB2.out.size));clear hb3))
 go_ret3
 exact ⟨rfl,HB3.out⟩
theorem hWords_any (h:DS a L T s n K x cs f N m b0 S cur w) {k i:Nat} (hk:k < K) (hd:(cs k).dv=true) (hi:i < perC (cs k).cl) (p:Nat) (hpo:pOff p=offO s cs k i) (hp0:p≠0) (hp64:p < 18446744073709551616) (hc:f (pOff p)=some p∨chkR s K cs p 0=0) :
  Calls Tryz.prog 131 #[.pointer (some ⟨x.h,0,none⟩), .int .u64 (p:Int)] w fun e w'=>e = .returned (.tuple #[.int .i64 (payW (cs k).cl:Int), .int .i64 0])∧Below w.heap.size w w':=by
 have HD:=hid h;have hC:=h.chw hk hd;have HNil:=hid (nil_any p w);rw [decide_eq_false hp0] at HNil;have HEr:Hid (∀ W,Below w.heap.size w W→Calls Tryz.prog 112 #[.pointer (some ⟨a.th 0,0,none⟩)] W fun e w'=>e = .returned (.int .i64 0)∧W=w'):=hid (fun W hW=>thErr (h.dev.below hW));have HHo:=hid (holds_any h.hs p);have HCh:Hid (f (pOff p)≠some p→∀ W,Below w.heap.size w W→Calls Tryz.prog 96 #[.pointer (some ⟨x.h,0,none⟩), .int .u64 (p:Int), .int .u8 0] W fun e w'=>e = .returned (.int .i64 0)∧Below W.heap.size W w'):=hid (fun hn W hW=>by
  have h1:=check_any (h.below hW) p 0 hp64 oM;rw [hc.resolve_left hn] at h1;exact h1)
 have HPl:Hid (∀ W,Below w.heap.size w W→Calls Tryz.prog 237 #[.pointer (some ⟨x.h,0,none⟩), .int .u64 (p:Int)] W fun e w'=>e = .returned (.tuple #[.int .i64 ((s+32 * k:Nat):Int), .int .i64 (i:Int), .int .i64 ((cs k).cl:Int)])∧Below W.heap.size W w'):=hid (fun W hW=>hPlace_any (h.below hW) hk hd hi p hpo);have HWo:Hid (∀ W,Below w.heap.size w W→Calls Tryz.prog 202 #[.int .i64 ((cs k).cl:Int)] W fun e w'=>e = .returned (.int .i64 (payW (cs k).cl:Int))∧W=w'):=hid (fun W hW=>szWords_any _ hC.cls W (h.pay.below hW));have hm:=methErr (some ⟨a.th 0,0,none⟩);have HH:Hid (∀ W,Below w.heap.size w W→W.cell? ⟨x.h,0,none⟩=some (.iface 58 (.pointer (some ⟨a.th 0,0,none⟩)))):=hid (fun W hW=>(h.hs.heap.below hW h.hs.heap.lt).cell 0);have hx0:=HH.out w (Below.refl _ _);have HB0:Hid (Below w.heap.size w w):=Below.refl _ _;clear h hC hpo hc hi hd;generalize ((s+32 * k:Nat):Int)=v at *;generalize (cs k).cl=cl at *;generalize payW cl=r at *;go_enter Tryz.func131,Tryz.ntmps131
 go_wp2_with (first
  | (go_at_call 22;refine HNil.out.mono ?_;rintro e w1 ⟨rfl,rfl⟩)
  | (go_at_call 112;refine (HEr.out _ HB0.out).mono ?_;rintro e w1 ⟨rfl,rfl⟩)
  | (go_at_call 235;refine HHo.out.mono ?_;rintro e w1 ⟨rfl,hb1⟩;refine stop ?_))
 unfold Stop;have HB1:=hid hb1;clear hb1 HNil HHo hx0;by_cases hf:f (pOff p)=some p
 ·rw [decide_eq_true hf]
  clear HCh hf;go_wp2_with (go_at_call 237;refine (HPl.out _ HB1.out).mono ?_;rintro e w2 ⟨rfl,hb2⟩;refine stop ?_)
  unfold Stop;have HB2:=hid (HB1.out.trans (hb2.mono HB1.out.size));have hx2:=HH.out w2 HB2.out;clear hb2;go_wp2_with (first
   | (go_at_call 112;refine (HEr.out _ HB2.out).mono ?_;rintro e w1 ⟨rfl,rfl⟩)
   | (go_at_call 202;refine (HWo.out _ HB2.out).mono ?_;rintro e w1 ⟨rfl,rfl⟩))
  go_ret2;exact ⟨rfl,HB2.out⟩
 ·rw [decide_eq_false hf]
  have HC1:=hid (HCh.out hf _ HB1.out);clear HCh hf;go_wp2_with (go_at_call 96;refine HC1.out.mono ?_;rintro e w2 ⟨rfl,hb2⟩;refine stop ?_)
  unfold Stop;have HB2:=hid (HB1.out.trans (hb2.mono HB1.out.size));clear hb2 HC1;go_wp2_with (go_at_call 237;refine (HPl.out _ HB2.out).mono ?_;rintro e w3 ⟨rfl,hb3⟩;refine stop ?_)
  unfold Stop;have HB3:=hid (HB2.out.trans (hb3.mono HB2.out.size));have hx2:=HH.out w3 HB3.out;clear hb3;go_wp2_with (first
   | (go_at_call 112;refine (HEr.out _ HB3.out).mono ?_;rintro e w1 ⟨rfl,rfl⟩)
   | (go_at_call 202;refine (HWo.out _ HB3.out).mono ?_;rintro e w1 ⟨rfl,rfl⟩))
  go_ret2;exact ⟨rfl,HB3.out⟩
end
end
end Go.Proofs.YtfkjjoglnmeciaaGreatDoor
