/- The walks and laws that the claim leans on, part 34. -/
import Derived.Test.YtfkjjoglnmeciaaGreatDoorJas
import Derived.Test.YtfkjjoglnmeciaaGreatDoorJba
set_option maxRecDepth 100000
set_option maxHeartbeats 16000000
namespace Go.Proofs.YtfkjjoglnmeciaaGreatDoor
open Go.Lib (hid)
section
open Go.RowKit Go.Maps
def homeOf (s K off:Nat):Option Nat:=if off < 64 * s then none else if K≤(off - 64 * s) / 2048 then none else some ((off - 64 * s) / 2048)
theorem homeOf_in {s K off k:Nat} (hk:k < K) (h1:64 * (s+32 * k)≤off) (h2:off < 64 * (s+32 * k)+2048):homeOf s K off=some k:=by
 unfold homeOf
 rw [if_neg (by omega),if_neg (by omega)]
 congr 1
 omega
theorem homeOf_blk {s K cl k i:Nat} (hk:k < K) (hi:i < perC cl):homeOf s K (blkO (s+32 * k) cl i)=some k:=by
 have h1:=off_lt hi
 have h2:=pay_le cl
 exact homeOf_in hk (by unfold blkO;omega) (by unfold blkO;omega)
def HomeP (s K off:Nat) (ln:Nat) (b:Bool):Prop:=(homeOf s K off=none∧ln=0∧b=false)∨∃ k,homeOf s K off=some k∧k < K∧ln=s+32 * k∧b=true
section
theorem home_any {a:DA} {s n K gs mr mh h:Nat} {lk:Bool} {w:World} (hB:Blk w h 194 (heapCells a s n gs mr mh lk)) (hs:s≤4096) (hn:n≤4096) (hK:n / 32=K) (off:Nat) (ho:off < 18446744073709551616) :
  Calls Tryz.prog 194 #[.pointer (some ⟨h,0,none⟩), .int .u64 (off:Int)] w fun e w'=>∃ (ln:Nat) (b:Bool),e = .returned (.tuple #[.int .i64 (ln:Int), .bool b])∧HomeP s K off ln b∧w=w':=by
 have f1:w.cell? ⟨h,1,none⟩=some (.int .i64 (s:Int)):=hB.cell 1
 have f2:w.cell? ⟨h,2,none⟩=some (.int .i64 (n:Int)):=hB.cell 2
 have u1:IntKind.u64.wrap (s:Int)=(s:Int):=by rw [IntKind.wrap_u64];omega
 have u2:IntKind.u64.wrap ((s:Int) * 64)=((64 * s:Nat):Int):=by rw [IntKind.wrap_u64];omega
 have d2:(n:Int).tdiv 32=(K:Int):=by rw [Int.tdiv_eq_ediv_of_nonneg (by omega)];omega
 have d3:(n:Int) / 32=(K:Int):=by omega
 have u3:IntKind.u64.wrap (K:Int)=(K:Int):=by rw [IntKind.wrap_u64];omega
 have hK1:K≤128:=by omega
 clear hB hK
 by_cases h1:off < 64 * s
 ·have HP:Hid (HomeP s K off 0 false):=hid (.inl ⟨by unfold homeOf;rw [if_pos h1],rfl,rfl⟩)
  have e1:decide ((off:Int) < ((64 * s:Nat):Int))=true:=decide_eq_true (by omega)
  have e1n:decide (off < 64 * s)=true:=decide_eq_true h1
  have hz:64 * s≤262144:=by omega
  clear h1
  generalize 64 * s=z at *
  go_enter Tryz.func194,Tryz.ntmps194
  go_wp2
  go_ret2
  exact ⟨0,false,rfl,HP.out,rfl⟩
 ·have e1:decide ((off:Int) < ((64 * s:Nat):Int))=false:=decide_eq_false (by omega)
  have e1n:decide (off < 64 * s)=false:=decide_eq_false h1
  obtain ⟨y,hy⟩:∃ y,off - 64 * s=y:=⟨_,rfl⟩
  have u4:IntKind.u64.wrap ((off:Int) - ((64 * s:Nat):Int))=(y:Int):=by rw [IntKind.wrap_u64];omega
  have hyl:y < 18446744073709551616:=by omega
  have e4:(y:Int) / 2048=((y / 2048:Nat):Int):=by omega
  have hz:64 * s≤262144:=by omega
  by_cases h2:K≤y / 2048
  ·have HP:Hid (HomeP s K off 0 false):=hid (.inl ⟨by unfold homeOf;rw [if_neg h1,hy,if_pos h2],rfl,rfl⟩)
   have e2:decide ((K:Int)≤((y / 2048:Nat):Int))=true:=decide_eq_true (by omega)
   have e2n:decide (K≤y / 2048)=true:=decide_eq_true h2
   clear h1 h2 hy
   generalize y / 2048=q at *
   generalize 64 * s=z at *
   go_enter Tryz.func194,Tryz.ntmps194
   go_wp2
   go_ret2
   exact ⟨0,false,rfl,HP.out,rfl⟩
  ·have HP:Hid (HomeP s K off (s+32 * (y / 2048)) true):=hid (.inr ⟨y / 2048,by unfold homeOf;rw [if_neg h1,hy,if_neg h2],by omega,rfl,rfl⟩)
   have e2:decide ((K:Int)≤((y / 2048:Nat):Int))=false:=decide_eq_false (by omega)
   have e2n:decide (K≤y / 2048)=false:=decide_eq_false h2
   have hq:y / 2048≤128:=by omega
   have u5:IntKind.i64.wrap ((y / 2048:Nat):Int)=((y / 2048:Nat):Int):=IntWalk.i64_in _ (by omega)
   clear h1 h2 hy
   generalize y / 2048=q at *
   generalize 64 * s=z at *
   go_enter Tryz.func194,Tryz.ntmps194
   go_wp2
   go_ret2
   exact ⟨s+32 * q,true,by rw [show ((s+32 * q:Nat):Int)=(s:Int)+(q:Int) * 32 by omega];rfl,HP.out,rfl⟩
theorem holds_any {a:DA} {s n K N m:Nat} {x:HA} {cs:Nat→CS} {f:Nat→Option Nat} {w:World} (h:HS a s n K x cs f N m w) (p:Nat) :
  Calls Tryz.prog 235 #[.pointer (some ⟨x.h,0,none⟩), .int .u64 (p:Int)] w fun e w'=>e = .returned (.bool (decide (f (pOff p)=some p)))∧Below w.heap.size w w':=by
 have HOf:=hid (off_any p)
 have hlk:=(h.res.chg ((Chg.refl Fp.no w).drew) (fun h=>h)).look (x:=pOff p) (by unfold pOff;omega)
 have y4:w.cell? ⟨x.h,4,none⟩=some (.map (some x.mr)):=h.heap.cell 4
 have HBd:Hid (Below w.heap.size w w.drew):=hid (Below.refl _ _).drew
 clear h
 generalize pOff p=o at *
 cases hf:f o with
 | none =>
  rw [hf] at hlk
  have hlk2:(Instr.lookup 190 (.map (some x.mr)) (.int .u64 (o:Int)) true).run Tryz.prog w.drew = .ok (.tuple #[.int .u64 0, .bool false]) w.drew:=hlk
  clear hlk hf
  go_enter Tryz.func235,Tryz.ntmps235
  go_wp2_with fail
  go_region_with (go_at_call 135;refine (HOf.out _).mono ?_;rintro e w1 ⟨rfl,rfl⟩)
  all_goals
   go_wp2
   go_ret
   exact ⟨rfl,HBd.out⟩
 | some q =>
  rw [hf] at hlk
  have hlk2:(Instr.lookup 190 (.map (some x.mr)) (.int .u64 (o:Int)) true).run Tryz.prog w.drew = .ok (.tuple #[.int .u64 (q:Int), .bool true]) w.drew:=hlk
  have eqb:((q:Int) == (p:Int))=decide (q=p):=by
   by_cases e:q=p
   ·subst e;simp
   ·rw [decide_eq_false e,beq_eq_false_iff_ne];omega
  have HQ:Hid (decide (some q=some p)=decide (q=p)):=hid (by simp)
  clear hlk hf
  generalize decide (q=p)=bq at *
  go_enter Tryz.func235,Tryz.ntmps235
  go_wp2_with fail
  go_region_with (go_at_call 135;refine (HOf.out _).mono ?_;rintro e w1 ⟨rfl,rfl⟩)
  all_goals
   go_wp2
   go_ret
   exact ⟨by rw [HQ.out];rfl,HBd.out⟩
end
end
section
open Go.RowKit Go.Maps
def chkR (s K:Nat) (cs:Nat→CS) (p kind:Nat):Nat:=if p=0 then 1 else if p / 72057594037927936≠0 then 2 else match homeOf s K (pOff p) with
 | none=>2
 | some k=>if (cs k).dv=true then (if (blkR (s+32 * k) (cs k).cl (cs k).bs p).2≠0 then (blkR (s+32 * k) (cs k).cl (cs k).bs p).2 else if kind≠0∧kind≠pKind p then 13 else 0) else 2
section
variable {a:DA} {L T s n K:Nat} {x:HA} {cs:Nat→CS} {f:Nat→Option Nat} {N m b0:Nat} {S:Fp} {cur:Nat→Nat} {w w':World}
theorem DS.home (h:DS a L T s n K x cs f N m b0 S cur w) (p:Nat) (W:World) (hW:Below w.heap.size w W) :
  Calls Tryz.prog 194 #[.pointer (some ⟨x.h,0,none⟩), .int .u64 (pOff p:Int)] W fun e w'=>∃ (ln:Nat) (b:Bool),e = .returned (.tuple #[.int .i64 (ln:Int), .bool b])∧HomeP s K (pOff p) ln b∧W=w':=by
 have h1:=h.hK
 have h2:=h.hL
 exact home_any (h.hs.heap.below hW h.hs.heap.lt) (by omega) (by omega) h1.1 (pOff p) (by unfold pOff;omega)
theorem check_any (h:DS a L T s n K x cs f N m b0 S cur w) (p kind:Nat) (hp64:p < 18446744073709551616) (hk:kind < 256) :
  Calls Tryz.prog 96 #[.pointer (some ⟨x.h,0,none⟩), .int .u64 (p:Int), .int .u8 (kind:Int)] w fun e w'=>e = .returned (.int .i64 (chkR s K cs p kind:Int))∧Below w.heap.size w w':=by
 have HD:=hid h
 have HNil:=hid (nil_any p w)
 have HEr:Hid (∀ W,Below w.heap.size w W→Calls Tryz.prog 112 #[.pointer (some ⟨a.th 0,0,none⟩)] W fun e w'=>e = .returned (.int .i64 0)∧W=w'):=hid (fun W hW=>thErr (h.dev.below hW))
 have HOf:=hid (off_any p)
 have HKn:=hid (kind_any p)
 have HHm:=hid (h.home p w (Below.refl _ _))
 have hm:=methErr (some ⟨a.th 0,0,none⟩)
 have hx0:w.cell? ⟨x.h,0,none⟩=some (.iface 58 (.pointer (some ⟨a.th 0,0,none⟩))):=h.hs.heap.cell 0
 have HB0:Hid (Below w.heap.size w w):=Below.refl _ _
 clear h
 by_cases hp0:p=0
 ·have HR:Hid (chkR s K cs p kind=1):=hid (by unfold chkR;rw [if_pos hp0])
  rw [decide_eq_true hp0] at HNil
  clear hp0
  go_enter Tryz.func96,Tryz.ntmps96
  go_wp2_with (go_at_call 22;refine HNil.out.mono ?_;rintro e w1 ⟨rfl,rfl⟩)
  go_ret
  exact ⟨by rw [HR.out];rfl,HB0.out⟩
 ·rw [decide_eq_false hp0] at HNil
  have HRR:Hid (chkR s K cs p kind=if p / 72057594037927936≠0 then 2 else match homeOf s K (pOff p) with
   | none=>2
   | some k=>if (cs k).dv=true then (if (blkR (s+32 * k) (cs k).cl (cs k).bs p).2≠0 then (blkR (s+32 * k) (cs k).cl (cs k).bs p).2 else if kind≠0∧kind≠pKind p then 13 else 0) else 2):=hid (by unfold chkR;rw [if_neg hp0])
  clear hp0
  generalize chkR s K cs p kind=rr at *
  generalize hpo:pOff p=po at *
  have HPO:=hid hpo
  clear hpo
  go_enter Tryz.func96,Tryz.ntmps96
  go_wp2_with (first
   | (go_at_call 22;refine HNil.out.mono ?_;rintro e w1 ⟨rfl,rfl⟩)
   | (go_at_call 112;refine (HEr.out _ HB0.out).mono ?_;rintro e w1 ⟨rfl,rfl⟩)
   | (go_at_call 135;refine (HOf.out _).mono ?_;rintro e w1 ⟨rfl,rfl⟩)
   | (go_at_call 194;refine HHm.out.mono ?_;rintro e w1 ⟨ln,b,rfl,hP,rfl⟩;refine stop ?_))
  unfold Stop
  clear HNil HOf HHm
  rcases hP with ⟨hho,rfl,rfl⟩ | ⟨k,hho,hk,rfl,rfl⟩
  ·have HR:Hid (rr=2):=hid (by rw [HRR.out,hho];split <;> rfl)
   clear hho HRR
   go_wp2
   go_ret
   exact ⟨by rw [HR.out];rfl,HB0.out⟩
  ·rw [hho] at HRR
   clear hho
   dsimp only at HRR
   have HKk:=hid hk
   by_cases hpt:p / 72057594037927936=0
   ·rw [if_neg (fun hh=>hh hpt)] at HRR
    have q0:((p:Int) / 72057594037927936 == 0)=true:=by rw [beq_iff_eq];omega
    have q1:(p:Int) / 72057594037927936=0:=by omega
    clear hpt
    have hln:=HD.out.line hk
    cases hd:(cs k).dv with
    | false =>
     have hu:cur (8 * (s+32 * k))=freeW (cs k).g∧0 < (cs k).g∧(cs k).g < 65536:=by
      have:=HD.out.ok k hk
      unfold CSok at this
      rw [hd] at this
      exact this
     have HR:Hid (rr=2):=hid (by rw [HRR.out,hd];rfl)
     have HOp:=hid (chOpen_undiv HD.out.dev HD.out.tab (s+32 * k) (cs k).g hln hu.2.1 hu.2.2 hu.1)
     unfold chNone memV at HOp
     clear HRR hd hu hk
     generalize ((s+32 * k:Nat):Int)=v at *
     go_wp2_with (go_at_call 195;refine HOp.out.mono ?_;rintro e w1 ⟨rfl,hb1⟩;refine stop ?_)
     unfold Stop
     have HB1:=hid (hb1.alloc hb1.size (.cells #[.nilIface, .int .i64 0, .int .i64 0, .int .i64 0, .int .u16 0] 306))
     have HEr1:=hid (HEr.out _ HB1.out)
     have hx1:w1.cell? ⟨x.h,0,none⟩=some (.iface 58 (.pointer (some ⟨a.th 0,0,none⟩))):=(HD.out.hs.heap.below hb1 HD.out.hs.heap.lt).cell 0
     have hxl:x.h < w1.heap.size:=Nat.lt_of_lt_of_le HD.out.hs.heap.lt hb1.size
     clear hb1 HOp hx0
     go_wp2_with (go_at_call 112;refine HEr1.out.mono ?_;rintro e w2 ⟨rfl,rfl⟩)
     go_ret
     exact ⟨by rw [HR.out];rfl,HB1.out⟩
    | true =>
     rw [hd] at HRR
     have hC:=HD.out.chw hk hd
     have HOp:=hid (chOpen_cls HD.out.dev HD.out.tab HD.out.pay (s+32 * k) (cs k).cl (cs k).g hln hC.cls hC.g0 hC.g1 hC.hdr)
     have HBk:Hid (∀ W,Below w.heap.size w W→Calls Tryz.prog 196 #[chV a (s+32 * k) (cs k).cl 0 (cs k).g, .int .u64 (p:Int)] W fun e w'=>e = .returned (.tuple #[.int .i64 ((blkR (s+32 * k) (cs k).cl (cs k).bs p).1:Int), .int .i64 ((blkR (s+32 * k) (cs k).cl (cs k).bs p).2:Int)])∧Below W.heap.size W w'):=hid (fun W hW=>chBlock_any (HD.out.dev.below hW) (HD.out.tab.below hW) (HD.out.pay.below hW) (s+32 * k) (cs k).cl (cs k).g (cs k).V p (cs k).bs hln hC hp64)
     clear hC hd hln hk
     rw [if_pos rfl] at HRR
     generalize blkR (s+32 * k) (cs k).cl (cs k).bs p=br at *
     obtain ⟨bi,be⟩:=br
     dsimp only at *
     unfold chV memV at *
     generalize s+32 * k=ln at *
     generalize (cs k).cl=cl at *
     generalize (cs k).g=g at *
     go_wp2_with (go_at_call 195;refine HOp.out.mono ?_;rintro e w1 ⟨rfl,hb1⟩;refine stop ?_)
     unfold Stop
     have HB1:=hid (hb1.alloc hb1.size (.cells #[.iface 58 (.pointer (some ⟨a.th 0,0,none⟩)), .int .i64 (ln:Int), .int .i64 (cl:Int), .int .i64 0, .int .u16 (g:Int)] 306))
     have HEr1:=hid (HEr.out _ HB1.out)
     have HBk1:=hid (HBk.out _ HB1.out)
     have hx1:w1.cell? ⟨x.h,0,none⟩=some (.iface 58 (.pointer (some ⟨a.th 0,0,none⟩))):=(HD.out.hs.heap.below hb1 HD.out.hs.heap.lt).cell 0
     have hxl:x.h < w1.heap.size:=Nat.lt_of_lt_of_le HD.out.hs.heap.lt hb1.size
     clear hb1 HOp hx0 HBk
     by_cases hbe:be=0
     ·subst hbe
      rw [if_neg (fun hh=>hh rfl)] at HRR
      by_cases hk0:kind=0
      ·subst hk0
       rw [if_neg (fun hh=>hh.1 rfl)] at HRR
       go_wp2_with (first
        | (go_at_call 112;refine HEr1.out.mono ?_;rintro e w2 ⟨rfl,rfl⟩)
        | (go_at_call 196;refine HBk1.out.mono ?_;rintro e w2 ⟨rfl,hb2⟩;have HB2:=hid (HB1.out.trans (hb2.mono HB1.out.size));clear hb2))
       go_ret
       exact ⟨by rw [HRR.out];rfl,HB2.out⟩
      ·obtain ⟨g1,g2,g3,g4⟩:=nz_facts hk0
       by_cases hkd:kind=pKind p
       ·have e1:((kind:Int) == (pKind p:Int))=true:=by rw [beq_iff_eq];omega
        rw [if_neg (fun hh=>hh.2 hkd)] at HRR
        clear hkd
        generalize pKind p=pk at *
        go_wp2_with (first
         | (go_at_call 112;refine HEr1.out.mono ?_;rintro e w2 ⟨rfl,rfl⟩)
         | (go_at_call 150;refine (HKn.out _).mono ?_;rintro e w3 ⟨rfl,rfl⟩)
         | (go_at_call 196;refine HBk1.out.mono ?_;rintro e w2 ⟨rfl,hb2⟩;have HB2:=hid (HB1.out.trans (hb2.mono HB1.out.size));clear hb2))
        go_ret
        exact ⟨by rw [HRR.out];rfl,HB2.out⟩
       ·have e1:((kind:Int) == (pKind p:Int))=false:=by rw [beq_eq_false_iff_ne];omega
        rw [if_pos ⟨hk0,hkd⟩] at HRR
        clear hkd
        generalize pKind p=pk at *
        go_wp2_with (first
         | (go_at_call 112;refine HEr1.out.mono ?_;rintro e w2 ⟨rfl,rfl⟩)
         | (go_at_call 150;refine (HKn.out _).mono ?_;rintro e w3 ⟨rfl,rfl⟩)
         | (go_at_call 196;refine HBk1.out.mono ?_;rintro e w2 ⟨rfl,hb2⟩;have HB2:=hid (HB1.out.trans (hb2.mono HB1.out.size));clear hb2))
        go_ret
        exact ⟨by rw [HRR.out];rfl,HB2.out⟩
     ·rw [if_pos hbe] at HRR
      obtain ⟨g1,g2,g3,g4⟩:=nz_facts hbe
      clear hbe
      go_wp2_with (first
       | (go_at_call 112;refine HEr1.out.mono ?_;rintro e w2 ⟨rfl,rfl⟩)
       | (go_at_call 196;refine HBk1.out.mono ?_;rintro e w2 ⟨rfl,hb2⟩;have HB2:=hid (HB1.out.trans (hb2.mono HB1.out.size));clear hb2))
      go_ret
      exact ⟨by rw [HRR.out];rfl,HB2.out⟩
   ·rw [if_pos hpt] at HRR
    have q0:((p:Int) / 72057594037927936 == 0)=false:=by rw [beq_eq_false_iff_ne];omega
    clear hpt
    generalize ((s+32 * k:Nat):Int)=v at *
    go_wp2
    go_ret
    exact ⟨by rw [HRR.out];rfl,HB0.out⟩
end
end
section
open Go.RowKit Go.Maps
section
variable {a:DA} {L T s n K:Nat} {x:HA} {cs:Nat→CS} {f:Nat→Option Nat} {N m b0:Nat} {S:Fp} {cur:Nat→Nat} {w w':World}
theorem hPlace_any (h:DS a L T s n K x cs f N m b0 S cur w) {k i:Nat} (hk:k < K) (hd:(cs k).dv=true) (hi:i < perC (cs k).cl) (p:Nat) (hpo:pOff p=offO s cs k i) :
  Calls Tryz.prog 237 #[.pointer (some ⟨x.h,0,none⟩), .int .u64 (p:Int)] w fun e w'=>e = .returned (.tuple #[.int .i64 ((s+32 * k:Nat):Int), .int .i64 (i:Int), .int .i64 ((cs k).cl:Int)])∧Below w.heap.size w w':=by
 have hC:=h.chw hk hd
 have hln:=h.line hk
 have hL:=h.hL
 have HD:=hid h
 have HOf:Hid (∀ W,Calls Tryz.prog 135 #[.int .u64 (p:Int)] W fun e w'=>e = .returned (.int .u64 (offO s cs k i:Int))∧W=w'):=hid (fun W=>by have h2:=off_any p W;rw [hpo] at h2;exact h2)
 have hho:homeOf s K (offO s cs k i)=some k:=homeOf_blk hk hi
 have HHm:=hid (h.home p w (Below.refl _ _))
 rw [hpo] at HHm
 have HHo:=hid hho
 have HOp:=hid (chOpen_cls h.dev h.tab h.pay (s+32 * k) (cs k).cl (cs k).g hln hC.cls hC.g0 hC.g1 hC.hdr)
 have HCc:Hid (∀ W,Below w.heap.size w W→Calls Tryz.prog 208 #[chV a (s+32 * k) (cs k).cl 0 (cs k).g] W fun e w'=>e = .returned (.int .i64 ((cs k).cl:Int))∧Below W.heap.size W w'):=hid (fun W _=>chClass_any a _ _ _ _ W)
 have hfc:=findC_off hi
 have HFi:Hid (∀ W,Below w.heap.size w W→Calls Tryz.prog 314 #[.int .i64 ((cs k).cl:Int), .int .i64 ((offB (cs k).cl i+1:Nat):Int)] W fun e w'=>e = .returned (.tuple #[.int .i64 (i:Int), .bool true])∧W=w'):=hid (fun W hW=>by
  have h1:=szFind_any (cs k).cl (offB (cs k).cl i+1) hC.cls (by have:=off_lt hi;omega) W (h.pay.below hW)
  unfold findR at h1
  rw [hfc] at h1
  exact h1)
 have hx0:w.cell? ⟨x.h,0,none⟩=some (.iface 58 (.pointer (some ⟨a.th 0,0,none⟩))):=h.hs.heap.cell 0
 have ho:=off_lt hi
 have hoe:offO s cs k i=64 * (s+32 * k)+8 * offB (cs k).cl i+8:=rfl
 have hob:=offB_ge (cs k).cl i
 clear h hC hpo hho hd hfc
 have HE:Hid (s+32 * k=s+32 * k):=hid rfl
 generalize hlne:s+32 * k=ln at *
 have HLE:=hid hlne
 clear hlne HE
 have u1:IntKind.u64.wrap (ln:Int)=(ln:Int):=by rw [IntKind.wrap_u64];omega
 have u2:IntKind.u64.wrap ((ln:Int) * 64)=(ln:Int) * 64:=by rw [IntKind.wrap_u64];omega
 obtain ⟨y,hy⟩:∃ y,8 * offB (cs k).cl i+8=y:=⟨_,rfl⟩
 have u3:IntKind.u64.wrap ((offO s cs k i:Int) - (ln:Int) * 64)=(y:Int):=by rw [IntKind.wrap_u64,hoe];omega
 have u4:(y:Int) / 8=((offB (cs k).cl i+1:Nat):Int):=by omega
 have u5:IntKind.i64.wrap ((offB (cs k).cl i+1:Nat):Int)=((offB (cs k).cl i+1:Nat):Int):=IntWalk.i64_in _ (by omega)
 have uq:IntKind.u64.wrap ((offB (cs k).cl i+1:Nat):Int)=((offB (cs k).cl i+1:Nat):Int):=by rw [IntKind.wrap_u64];omega
 have hq:((offB (cs k).cl i+1:Nat):Int)≤256:=by omega
 clear hoe hy
 generalize offB (cs k).cl i+1=q at *
 generalize offO s cs k i=o at *
 unfold chV memV at *
 generalize (cs k).cl=cl at *
 generalize (cs k).g=g at *
 go_enter Tryz.func237,Tryz.ntmps237
 go_wp2_with (first
  | (go_at_call 135;refine (HOf.out _).mono ?_;rintro e w1 ⟨rfl,rfl⟩)
  | (go_at_call 194;refine HHm.out.mono ?_;rintro e w1 ⟨l1,b1,rfl,hP,rfl⟩;refine stop ?_))
 unfold Stop
 have hlb:l1=ln∧b1=true:=by
  rcases hP with ⟨h1,_,_⟩ | ⟨k',h1,_,h3,h4⟩
  ·rw [HHo.out] at h1;cases h1
  ·rw [HHo.out] at h1
   injection h1 with h1
   subst h1
   exact ⟨by rw [h3];exact HLE.out,h4⟩
 obtain ⟨rfl,rfl⟩:=hlb
 clear hP HHo HHm
 go_wp2_with (go_at_call 195;refine HOp.out.mono ?_;rintro e w1 ⟨rfl,hb1⟩;refine stop ?_)
 unfold Stop
 have HB1:=hid (hb1.alloc hb1.size (.cells #[.iface 58 (.pointer (some ⟨a.th 0,0,none⟩)), .int .i64 (l1:Int), .int .i64 (cl:Int), .int .i64 0, .int .u16 (g:Int)] 306))
 have HK1:=hid (Blk.new w1 306 #[.iface 58 (.pointer (some ⟨a.th 0,0,none⟩)), .int .i64 (l1:Int), .int .i64 (cl:Int), .int .i64 0, .int .u16 (g:Int)])
 clear hb1 HOp hx0
 generalize hW1:w1.alloc (.cells #[.iface 58 (.pointer (some ⟨a.th 0,0,none⟩)), .int .i64 (l1:Int), .int .i64 (cl:Int), .int .i64 0, .int .u16 (g:Int)] 306)=W1 at *
 have HW1:=hid hW1.symm
 clear hW1
 have hc0:W1.cell? ⟨w1.heap.size,0,none⟩=some (.iface 58 (.pointer (some ⟨a.th 0,0,none⟩))):=HK1.out.cell 0
 have hc1:W1.cell? ⟨w1.heap.size,1,none⟩=some (.int .i64 (l1:Int)):=HK1.out.cell 1
 have hc2:W1.cell? ⟨w1.heap.size,2,none⟩=some (.int .i64 (cl:Int)):=HK1.out.cell 2
 have hc3:W1.cell? ⟨w1.heap.size,3,none⟩=some (.int .i64 0):=HK1.out.cell 3
 have hc4:W1.cell? ⟨w1.heap.size,4,none⟩=some (.int .u16 (g:Int)):=HK1.out.cell 4
 go_wp2_with (first
  | (go_at_call 135;refine (HOf.out _).mono ?_;rintro e w1 ⟨rfl,rfl⟩)
  | (go_at_call 208;refine stop ?_))
 unfold Stop
 rw [← HW1.out]
 refine (HCc.out W1 HB1.out).mono ?_
 rintro e W2 ⟨rfl,hb2⟩
 have HB2:=hid (HB1.out.trans (hb2.mono HB1.out.size))
 have HK2:=hid (HK1.out.below hb2 HK1.out.lt)
 have HF2:=hid (HFi.out W2 HB2.out)
 have HC2:=hid (HCc.out W2 HB2.out)
 have hd0:W2.cell? ⟨w1.heap.size,0,none⟩=some (.iface 58 (.pointer (some ⟨a.th 0,0,none⟩))):=HK2.out.cell 0
 have hd1:W2.cell? ⟨w1.heap.size,1,none⟩=some (.int .i64 (l1:Int)):=HK2.out.cell 1
 have hd2:W2.cell? ⟨w1.heap.size,2,none⟩=some (.int .i64 (cl:Int)):=HK2.out.cell 2
 have hd3:W2.cell? ⟨w1.heap.size,3,none⟩=some (.int .i64 0):=HK2.out.cell 3
 have hd4:W2.cell? ⟨w1.heap.size,4,none⟩=some (.int .u16 (g:Int)):=HK2.out.cell 4
 clear hb2 hc0 hc1 hc2 hc3 hc4 HCc HFi HOf
 go_wp2_with (first
  | (go_at_call 314;refine HF2.out.mono ?_;rintro e w3 ⟨rfl,rfl⟩)
  | (go_at_call 208;refine HC2.out.mono ?_;rintro e W3 ⟨rfl,hb3⟩;have HB3:=hid (HB2.out.trans (hb3.mono HB2.out.size));clear hb3))
 go_ret3
 exact ⟨rfl,HB3.out⟩
end
end
end Go.Proofs.YtfkjjoglnmeciaaGreatDoor
