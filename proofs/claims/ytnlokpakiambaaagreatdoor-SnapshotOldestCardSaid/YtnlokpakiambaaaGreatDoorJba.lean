/- The walks and laws that the claim leans on, part 27. -/
import Derived.Test.YtnlokpakiambaaaGreatDoorJaq
import Derived.Test.YtnlokpakiambaaaGreatDoorJay
import Derived.Test.YtnlokpakiambaaaGreatDoorJaz
set_option maxRecDepth 100000
set_option maxHeartbeats 16000000
namespace Go.Proofs.YtnlokpakiambaaaGreatDoor
open Go.Lib (hid)
section
open Go.RowKit Go.Maps
def chkR (s K:Nat) (cs:Nat→CS) (p kind:Nat):Nat:=if p=0 then 1 else if p / 72057594037927936≠0 then 2 else match homeOf s K (pOff p) with
 | none=>2
 | some k=>if (cs k).dv=true then (if (blkR (s+32 * k) (cs k).cl (cs k).bs p).2≠0 then (blkR (s+32 * k) (cs k).cl (cs k).bs p).2 else if kind≠0∧kind≠pKind p then 13 else 0) else 2
section
variable {a:DA} {L T s n K:Nat} {x:HA} {cs:Nat→CS} {f:Nat→Option Nat} {N m b0:Nat} {S:Fp} {cur:Nat→Nat} {w w':World}
theorem DS.home (h:DS a L T s n K x cs f N m b0 S cur w) (p:Nat) (W:World) (hW:Below w.heap.size w W) :
  Calls Tryz.prog 115 #[.pointer (some ⟨x.h,0,none⟩), .int .u64 (pOff p:Int)] W fun e w'=>∃ (ln:Nat) (b:Bool),e = .returned (.tuple #[.int .i64 (ln:Int), .bool b])∧HomeP s K (pOff p) ln b∧W=w':=by
 have h1:=h.hK
 have h2:=h.hL
 exact home_any (h.hs.heap.below hW h.hs.heap.lt) (by omega) (by omega) h1.1 (pOff p) (by unfold pOff;omega)
theorem check_any (h:DS a L T s n K x cs f N m b0 S cur w) (p kind:Nat) (hp64:p < 18446744073709551616) (hk:kind < 256) :
  Calls Tryz.prog 75 #[.pointer (some ⟨x.h,0,none⟩), .int .u64 (p:Int), .int .u8 (kind:Int)] w fun e w'=>e = .returned (.int .i64 (chkR s K cs p kind:Int))∧Below w.heap.size w w':=by
 have HD:=hid h
 have HNil:=hid (nil_any p w)
 have HEr:Hid (∀ W,Below w.heap.size w W→Calls Tryz.prog 27 #[.pointer (some ⟨a.th 0,0,none⟩)] W fun e w'=>e = .returned (.int .i64 0)∧W=w'):=hid (fun W hW=>thErr (h.dev.below hW))
 have HOf:=hid (off_any p)
 have HKn:=hid (kind_any p)
 have HHm:=hid (h.home p w (Below.refl _ _))
 have hm:=methErr (some ⟨a.th 0,0,none⟩)
 have hx0:w.cell? ⟨x.h,0,none⟩=some (.iface 41 (.pointer (some ⟨a.th 0,0,none⟩))):=h.hs.heap.cell 0
 have HB0:Hid (Below w.heap.size w w):=Below.refl _ _
 clear h
 by_cases hp0:p=0
 ·have HR:Hid (chkR s K cs p kind=1):=hid (by unfold chkR;rw [if_pos hp0])
  rw [decide_eq_true hp0] at HNil
  clear hp0
  go_enter Tryz.func75,Tryz.ntmps75
  go_wp2_with (go_at_call 67;refine HNil.out.mono ?_;rintro e w1 ⟨rfl,rfl⟩)
  go_ret
  exact ⟨by rw [HR.out];rfl,HB0.out⟩
 ·rw [decide_eq_false hp0] at HNil
  have HRR:Hid (chkR s K cs p kind=if p / 72057594037927936≠0 then 2 else match homeOf s K (pOff p) with
   | none=>2
   | some k=>if (cs k).dv=true then (if (blkR (s+32 * k) (cs k).cl (cs k).bs p).2≠0 then (blkR (s+32 * k) (cs k).cl (cs k).bs p).2 else if kind≠0∧kind≠pKind p then 13 else 0) else 2):=hid (by unfold chkR;rw [if_neg hp0])
  clear hp0
  generalize chkR s K cs p kind=rr at *
  generalize hpo:pOff p=po at *
  have HPO:=hid hpo
  clear hpo
  go_enter Tryz.func75,Tryz.ntmps75
  go_wp2_with (first
   | (go_at_call 67;refine HNil.out.mono ?_;rintro e w1 ⟨rfl,rfl⟩)
   | (go_at_call 27;refine (HEr.out _ HB0.out).mono ?_;rintro e w1 ⟨rfl,rfl⟩)
   | (go_at_call 68;refine (HOf.out _).mono ?_;rintro e w1 ⟨rfl,rfl⟩)
   | (go_at_call 115;refine HHm.out.mono ?_;rintro e w1 ⟨ln,b,rfl,hP,rfl⟩;refine stop ?_))
  unfold Stop
  clear HNil HOf HHm
  rcases hP with ⟨hho,rfl,rfl⟩ | ⟨k,hho,hk,rfl,rfl⟩
  ·have HR:Hid (rr=2):=hid (by rw [HRR.out,hho];split <;> rfl)
   clear hho HRR
   go_wp2
   go_ret
   exact ⟨by rw [HR.out];rfl,HB0.out⟩
  ·rw [hho] at HRR
   clear hho
   dsimp only at HRR
   have HKk:=hid hk
   by_cases hpt:p / 72057594037927936=0
   ·rw [if_neg (fun hh=>hh hpt)] at HRR
    have q0:((p:Int) / 72057594037927936 == 0)=true:=by rw [beq_iff_eq];omega
    have q1:(p:Int) / 72057594037927936=0:=by omega
    clear hpt
    have hln:=HD.out.line hk
    cases hd:(cs k).dv with
    | false =>
     have hu:cur (8 * (s+32 * k))=freeW (cs k).g∧0 < (cs k).g∧(cs k).g < 65536:=by
      have:=HD.out.ok k hk
      unfold CSok at this
      rw [hd] at this
      exact this
     have HR:Hid (rr=2):=hid (by rw [HRR.out,hd];rfl)
     have HOp:=hid (chOpen_undiv HD.out.dev HD.out.tab (s+32 * k) (cs k).g hln hu.2.1 hu.2.2 hu.1)
     unfold chNone memV at HOp
     clear HRR hd hu hk
     generalize ((s+32 * k:Nat):Int)=v at *
     go_wp2_with (go_at_call 116;refine HOp.out.mono ?_;rintro e w1 ⟨rfl,hb1⟩;refine stop ?_)
     unfold Stop
     have HB1:=hid (hb1.alloc hb1.size (.cells #[.nilIface, .int .i64 0, .int .i64 0, .int .i64 0, .int .u16 0] 221))
     have HEr1:=hid (HEr.out _ HB1.out)
     have hx1:w1.cell? ⟨x.h,0,none⟩=some (.iface 41 (.pointer (some ⟨a.th 0,0,none⟩))):=(HD.out.hs.heap.below hb1 HD.out.hs.heap.lt).cell 0
     have hxl:x.h < w1.heap.size:=Nat.lt_of_lt_of_le HD.out.hs.heap.lt hb1.size
     clear hb1 HOp hx0
     go_wp2_with (go_at_call 27;refine HEr1.out.mono ?_;rintro e w2 ⟨rfl,rfl⟩)
     go_ret
     exact ⟨by rw [HR.out];rfl,HB1.out⟩
    | true =>
     rw [hd] at HRR
     have hC:=HD.out.chw hk hd
     have HOp:=hid (chOpen_cls HD.out.dev HD.out.tab HD.out.pay (s+32 * k) (cs k).cl (cs k).g hln hC.cls hC.g0 hC.g1 hC.hdr)
     have HBk:Hid (∀ W,Below w.heap.size w W→Calls Tryz.prog 117 #[chV a (s+32 * k) (cs k).cl 0 (cs k).g, .int .u64 (p:Int)] W fun e w'=>e = .returned (.tuple #[.int .i64 ((blkR (s+32 * k) (cs k).cl (cs k).bs p).1:Int), .int .i64 ((blkR (s+32 * k) (cs k).cl (cs k).bs p).2:Int)])∧Below W.heap.size W w'):=hid (fun W hW=>chBlock_any (HD.out.dev.below hW) (HD.out.tab.below hW) (HD.out.pay.below hW) (s+32 * k) (cs k).cl (cs k).g (cs k).V p (cs k).bs hln hC hp64)
     clear hC hd hln hk
     rw [if_pos rfl] at HRR
     generalize blkR (s+32 * k) (cs k).cl (cs k).bs p=br at *
     obtain ⟨bi,be⟩:=br
     dsimp only at *
     unfold chV memV at *
     generalize s+32 * k=ln at *
     generalize (cs k).cl=cl at *
     generalize (cs k).g=g at *
     go_wp2_with (go_at_call 116;refine HOp.out.mono ?_;rintro e w1 ⟨rfl,hb1⟩;refine stop ?_)
     unfold Stop
     have HB1:=hid (hb1.alloc hb1.size (.cells #[.iface 41 (.pointer (some ⟨a.th 0,0,none⟩)), .int .i64 (ln:Int), .int .i64 (cl:Int), .int .i64 0, .int .u16 (g:Int)] 221))
     have HEr1:=hid (HEr.out _ HB1.out)
     have HBk1:=hid (HBk.out _ HB1.out)
     have hx1:w1.cell? ⟨x.h,0,none⟩=some (.iface 41 (.pointer (some ⟨a.th 0,0,none⟩))):=(HD.out.hs.heap.below hb1 HD.out.hs.heap.lt).cell 0
     have hxl:x.h < w1.heap.size:=Nat.lt_of_lt_of_le HD.out.hs.heap.lt hb1.size
     clear hb1 HOp hx0 HBk
     by_cases hbe:be=0
     ·subst hbe
      rw [if_neg (fun hh=>hh rfl)] at HRR
      by_cases hk0:kind=0
      ·subst hk0
       rw [if_neg (fun hh=>hh.1 rfl)] at HRR
       go_wp2_with (first
        | (go_at_call 27;refine HEr1.out.mono ?_;rintro e w2 ⟨rfl,rfl⟩)
        | (go_at_call 117;refine HBk1.out.mono ?_;rintro e w2 ⟨rfl,hb2⟩;have HB2:=hid (HB1.out.trans (hb2.mono HB1.out.size));clear hb2))
       go_ret
       exact ⟨by rw [HRR.out];rfl,HB2.out⟩
      ·obtain ⟨g1,g2,g3,g4⟩:=nz_facts hk0
       by_cases hkd:kind=pKind p
       ·have e1:((kind:Int) == (pKind p:Int))=true:=by rw [beq_iff_eq];omega
        rw [if_neg (fun hh=>hh.2 hkd)] at HRR
        clear hkd
        generalize pKind p=pk at *
        go_wp2_with (first
         | (go_at_call 27;refine HEr1.out.mono ?_;rintro e w2 ⟨rfl,rfl⟩)
         | (go_at_call 29;refine (HKn.out _).mono ?_;rintro e w3 ⟨rfl,rfl⟩)
         | (go_at_call 117;refine HBk1.out.mono ?_;rintro e w2 ⟨rfl,hb2⟩;have HB2:=hid (HB1.out.trans (hb2.mono HB1.out.size));clear hb2))
        go_ret
        exact ⟨by rw [HRR.out];rfl,HB2.out⟩
       ·have e1:((kind:Int) == (pKind p:Int))=false:=by rw [beq_eq_false_iff_ne];omega
        rw [if_pos ⟨hk0,hkd⟩] at HRR
        clear hkd
        generalize pKind p=pk at *
        go_wp2_with (first
         | (go_at_call 27;refine HEr1.out.mono ?_;rintro e w2 ⟨rfl,rfl⟩)
         | (go_at_call 29;refine (HKn.out _).mono ?_;rintro e w3 ⟨rfl,rfl⟩)
         | (go_at_call 117;refine HBk1.out.mono ?_;rintro e w2 ⟨rfl,hb2⟩;have HB2:=hid (HB1.out.trans (hb2.mono HB1.out.size));clear hb2))
        go_ret
        exact ⟨by rw [HRR.out];rfl,HB2.out⟩
     ·rw [if_pos hbe] at HRR
      obtain ⟨g1,g2,g3,g4⟩:=nz_facts hbe
      clear hbe
      go_wp2_with (first
       | (go_at_call 27;refine HEr1.out.mono ?_;rintro e w2 ⟨rfl,rfl⟩)
       | (go_at_call 117;refine HBk1.out.mono ?_;rintro e w2 ⟨rfl,hb2⟩;have HB2:=hid (HB1.out.trans (hb2.mono HB1.out.size));clear hb2))
      go_ret
      exact ⟨by rw [HRR.out];rfl,HB2.out⟩
   ·rw [if_pos hpt] at HRR
    have q0:((p:Int) / 72057594037927936 == 0)=false:=by rw [beq_eq_false_iff_ne];omega
    clear hpt
    generalize ((s+32 * k:Nat):Int)=v at *
    go_wp2
    go_ret
    exact ⟨by rw [HRR.out];rfl,HB0.out⟩
end
end
section
open Go.RowKit Go.Maps
section
variable {a:DA} {L T s n K:Nat} {x:HA} {cs:Nat→CS} {f:Nat→Option Nat} {N m b0:Nat} {S:Fp} {cur:Nat→Nat} {w w':World} {cl k i:Nat}
theorem Vac.cls (hv:Vac s K cs f cl k i):offO s cs k i=blkO (s+32 * k) cl i:=by unfold offO;rw [hv.2.2.1]
theorem pay_word {ln cl i j:Nat} (hi:i < perC cl) (hj:j < payW cl):(blkO ln cl i+8 * j) / 8=8 * ln+offB cl i+1+j∧8 * ln≤8 * ln+offB cl i+1+j∧8 * ln+offB cl i+1+j < 8 * ln+256∧¬ hdrAt ln cl (8 * ln+offB cl i+1+j):=by
 have h1:=off_lt hi
 have h2:=offB_ge cl i
 refine ⟨by unfold blkO;omega,by omega,by omega,hdrAt_pay hi hj⟩
theorem DS.ok_pay (h:DS a L T s n K x cs f N m b0 S cur w) {cl i:Nat} (hk:k < K) (hd:(cs k).dv=true) (hc:(cs k).cl=cl) (hi:i < perC cl) {ws:List (Nat × Nat)} (hw:∀ e∈ws,∃ j,j < payW cl∧e.1=blkO (s+32 * k) cl i+8 * j) :
  ∀ k',k' < K→CSok (wrS cur ws) (s+32 * k') (cs k'):=fun k' hk'=>by
 refine (h.ok k' hk').same (fun y h1 h2 h3=>wrS_other ws _ _ (fun e he=>?_))
 obtain ⟨j,hj,hej⟩:=hw e he
 obtain ⟨p1,p2,p3,p4⟩:=pay_word (ln:=s+32 * k) hi hj
 rw [hej,p1]
 intro hy
 by_cases e1:k'=k
 ·subst e1
  have:=h3 hd
  rw [hc,← hy] at this
  exact p4 this
 ·omega
theorem DS.zeroed {T':Nat} {S':Fp} (h:DS a L T s n K x cs f N m b0 S cur w) (hv:Vac s K cs f cl k i) (hd:Dev a L T' w' S' (wrS cur (zerW (offO s cs k i) (payW cl))) 0) (hc:Chg S w w') (hg:Grew S S' w) :
  DS a L T' s n K x cs f N m b0 S' (wrS cur (zerW (offO s cs k i) (payW cl))) w':=by
 refine h.dev_ hd hc hg ?_ (wrS_bnd _ _ h.bnd (fun e he=>by obtain ⟨j,_,rfl⟩:=zerW_mem he;show 0 < _;omega))
 refine h.ok_pay hv.1 hv.2.1 hv.2.2.1 hv.2.2.2.1 (fun e he=>?_)
 obtain ⟨j,hj,rfl⟩:=zerW_mem he
 exact ⟨j,hj,by rw [hv.cls]⟩
theorem DS.vac_facts (h:DS a L T s n K x cs f N m b0 S cur w) (hv:Vac s K cs f cl k i) (kind:Nat) (hk8:kind < 128):cl < 5∧offO s cs k i % 8=0∧offO s cs k i+8 * payW cl≤64 * L∧pOff (fptr s cs kind k i)=offO s cs k i∧fptr s cs kind k i≠0∧fptr s cs kind k i < 18446744073709551616∧0 < ((cs k).bs i).gen∧((cs k).bs i).gen < 65536:=by
 obtain ⟨h1,h2,h3,h4,h5,h6⟩:=hv
 have hC:=h.chw h1 h2
 have hL:=h.hL
 have hln:=h.line h1
 have ho:=Go.Proofs.YtnlokpakiambaaaGreatDoor.off_lt h4
 have hin:=(hC.inn i (by rw [h3];exact h4)).g
 have hgood:=hC.good i (by rw [h3];exact h4)
 have hg0:0 < ((cs k).bs i).gen:=by unfold BK.good at hgood;rw [if_pos h5] at hgood;simp at hgood;omega
 have e1:offO s cs k i=64 * (s+32 * k)+8 * offB cl i+8:=by unfold offO blkO;rw [h3]
 refine ⟨by rw [← h3];exact hC.cls,by omega,by omega,?_,?_,?_,hg0,hin⟩
 ·exact pMk_off (by rw [show blkO (s+32 * k) (cs k).cl i=offO s cs k i from rfl];omega) (by rw [show blkO (s+32 * k) (cs k).cl i=offO s cs k i from rfl];omega)
 ·exact pMk_ne hg0
 ·exact (pMk_lt (by rw [show blkO (s+32 * k) (cs k).cl i=offO s cs k i from rfl];omega) hin hk8).1
theorem grown_chg {Z:Fp} {b:Nat} (hg:w.grownBy w' (some b)) (hZ:Z b):Chg Z w w':=(Chg.refl Z w).grown hg (fun g e=>by injection e with e;subst e;exact .inl hZ)
theorem DS.rsv (h:DS a L T s n K x cs f N m b0 S cur w) (hv:Vac s K cs f cl k i) (kind:Nat) (_hk0:0 < kind) (hk8:kind < 128) (hN:N < maxLen) :
  ∃ (w7 w8:World) (c:Int),
   (Instr.mapUpdate 168 (.map (some x.mr)) (.int .u64 (offO s cs k i:Int)) (.int .u64 (fptr s cs kind k i:Int))).run Tryz.prog w.drew = .ok () w7 ∧
   (Instr.lookup 169 (.map (some x.mh)) (.int .i64 ((s+32 * k:Nat):Int)) false).run Tryz.prog w7 = .ok (.int .i64 c) w7 ∧
   (Instr.mapUpdate 169 (.map (some x.mh)) (.int .i64 ((s+32 * k:Nat):Int)) (.int .i64 (wrap64 (c+1)))).run Tryz.prog w7 = .ok () w8 ∧
   Blk w7 x.h 172 (heapCells a s n x.gs x.mr x.mh false)∧Blk w8 x.h 172 (heapCells a s n x.gs x.mr x.mh false)∧Plc a s K x.p cs w8 ∧
   ∀ w9,Plc a s K x.p cs w9→Chg (fun j=>j=x.pl) w8 w9→DS a L T s n K x cs (updF f (offO s cs k i) (some (fptr s cs kind k i))) (N+1) (m+1) b0 S cur w9∧Chg x.fp w w9:=by
 obtain ⟨q1,q2,q3,q4,q5,q6,q7,q8⟩:=h.vac_facts hv kind hk8
 obtain ⟨n1,n2,n3,n4,n5,n6,n7,n8⟩:=h.hs.pl_ne
 have hfew:=h.few
 have hkK:=hv.1
 have hd:Chg Fp.no w w.drew:=(Chg.refl _ _).drew
 have hs:=h.hs.chg hd (fun h=>h) (fun h=>h) (fun h=>h) (fun h=>h) (fun h=>h)
 obtain ⟨w7,r7,p7,g7⟩:=hs.res.put hN (show offO s cs k i < 18446744073709551616 by have:=h.hL;omega) q6 hv.2.2.2.2.2
 have c7:Chg (fun j=>j=x.mr) w.drew w7:=grown_chg g7 rfl
 have hm7:=hs.held.chg c7 (fun e=>hs.ne e.symm)
 obtain ⟨c,r8,hwc⟩:=hm7.look (x:=s+32 * k) (by omega)
 obtain ⟨w8,r9,p8,g8⟩:=hm7.put hN (x:=s+32 * k) (by omega) (wrap64_wf (c+1))
 have c8:Chg (fun j=>j=x.mh) w7 w8:=grown_chg g8 rfl
 have b7:=c7.blk hs.heap n5
 have b8:=c8.blk b7 n6
 have l7:=hs.plc.chg c7 n3 n1
 have l8:=l7.chg c8 n4 n2
 refine ⟨w7,w8,c,r7,r8,r9,b7,b8,l8,fun w9 l9 c9=>?_⟩
 have hfp:Chg x.fp w w9:=((((Chg.refl x.fp w).drew).trans (S':=fun j=>j=x.mr) c7 (fun j hj => .inl (.inr (.inl hj)))).trans (S':=fun j=>j=x.mh) c8 (fun j hj => .inl (.inr (.inr hj)))).trans (S':=fun j=>j=x.pl) c9 (fun j hj => .inl (.inl hj))
 refine ⟨h.own_ ⟨c9.blk b8 n8,l9,(p7.chg c8 h.hs.ne).chg c9 (fun e=>n1 e.symm),p8.chg c9 (fun e=>n2 e.symm),h.hs.ne⟩ hfp h.ok ?_,hfp⟩
 intro o p hop
 unfold updF at hop
 split at hop
 ·rename_i ho
  injection hop with hp
  subst ho
  exact ⟨k,i,hkK,hv.2.1,by rw [hv.2.2.1];exact hv.2.2.2.1,rfl,by rw [← hp];exact q4⟩
 ·exact h.res o p hop
end
end
section
open Go.RowKit Go.Maps
section
variable {a:DA} {L T s n K:Nat} {x:HA} {cs:Nat→CS} {f:Nat→Option Nat} {N m b0:Nat} {S:Fp} {cur:Nat→Nat} {w w':World}
theorem hPlace_any (h:DS a L T s n K x cs f N m b0 S cur w) {k i:Nat} (hk:k < K) (hd:(cs k).dv=true) (hi:i < perC (cs k).cl) (p:Nat) (hpo:pOff p=offO s cs k i) :
  Calls Tryz.prog 94 #[.pointer (some ⟨x.h,0,none⟩), .int .u64 (p:Int)] w fun e w'=>e = .returned (.tuple #[.int .i64 ((s+32 * k:Nat):Int), .int .i64 (i:Int), .int .i64 ((cs k).cl:Int)])∧Below w.heap.size w w':=by
 have hC:=h.chw hk hd
 have hln:=h.line hk
 have hL:=h.hL
 have HD:=hid h
 have HOf:Hid (∀ W,Calls Tryz.prog 68 #[.int .u64 (p:Int)] W fun e w'=>e = .returned (.int .u64 (offO s cs k i:Int))∧W=w'):=hid (fun W=>by have h2:=off_any p W;rw [hpo] at h2;exact h2)
 have hho:homeOf s K (offO s cs k i)=some k:=homeOf_blk hk hi
 have HHm:=hid (h.home p w (Below.refl _ _))
 rw [hpo] at HHm
 have HHo:=hid hho
 have HOp:=hid (chOpen_cls h.dev h.tab h.pay (s+32 * k) (cs k).cl (cs k).g hln hC.cls hC.g0 hC.g1 hC.hdr)
 have HCc:Hid (∀ W,Below w.heap.size w W→Calls Tryz.prog 139 #[chV a (s+32 * k) (cs k).cl 0 (cs k).g] W fun e w'=>e = .returned (.int .i64 ((cs k).cl:Int))∧Below W.heap.size W w'):=hid (fun W _=>chClass_any a _ _ _ _ W)
 have hfc:=findC_off hi
 have HFi:Hid (∀ W,Below w.heap.size w W→Calls Tryz.prog 138 #[.int .i64 ((cs k).cl:Int), .int .i64 ((offB (cs k).cl i+1:Nat):Int)] W fun e w'=>e = .returned (.tuple #[.int .i64 (i:Int), .bool true])∧W=w'):=hid (fun W hW=>by
  have h1:=szFind_any (cs k).cl (offB (cs k).cl i+1) hC.cls (by have:=off_lt hi;omega) W (h.pay.below hW)
  unfold findR at h1
  rw [hfc] at h1
  exact h1)
 have hx0:w.cell? ⟨x.h,0,none⟩=some (.iface 41 (.pointer (some ⟨a.th 0,0,none⟩))):=h.hs.heap.cell 0
 have ho:=off_lt hi
 have hoe:offO s cs k i=64 * (s+32 * k)+8 * offB (cs k).cl i+8:=rfl
 have hob:=offB_ge (cs k).cl i
 clear h hC hpo hho hd hfc
 have HE:Hid (s+32 * k=s+32 * k):=hid rfl
 generalize hlne:s+32 * k=ln at *
 have HLE:=hid hlne
 clear hlne HE
 have u1:IntKind.u64.wrap (ln:Int)=(ln:Int):=by rw [IntKind.wrap_u64];omega
 have u2:IntKind.u64.wrap ((ln:Int) * 64)=(ln:Int) * 64:=by rw [IntKind.wrap_u64];omega
 obtain ⟨y,hy⟩:∃ y,8 * offB (cs k).cl i+8=y:=⟨_,rfl⟩
 have u3:IntKind.u64.wrap ((offO s cs k i:Int) - (ln:Int) * 64)=(y:Int):=by rw [IntKind.wrap_u64,hoe];omega
 have u4:(y:Int) / 8=((offB (cs k).cl i+1:Nat):Int):=by omega
 have u5:IntKind.i64.wrap ((offB (cs k).cl i+1:Nat):Int)=((offB (cs k).cl i+1:Nat):Int):=IntWalk.i64_in _ (by omega)
 have uq:IntKind.u64.wrap ((offB (cs k).cl i+1:Nat):Int)=((offB (cs k).cl i+1:Nat):Int):=by rw [IntKind.wrap_u64];omega
 have hq:((offB (cs k).cl i+1:Nat):Int)≤256:=by omega
 clear hoe hy
 generalize offB (cs k).cl i+1=q at *
 generalize offO s cs k i=o at *
 unfold chV memV at *
 generalize (cs k).cl=cl at *
 generalize (cs k).g=g at *
 go_enter Tryz.func94,Tryz.ntmps94
 go_wp2_with (first
  | (go_at_call 68;refine (HOf.out _).mono ?_;rintro e w1 ⟨rfl,rfl⟩)
  | (go_at_call 115;refine HHm.out.mono ?_;rintro e w1 ⟨l1,b1,rfl,hP,rfl⟩;refine stop ?_))
 unfold Stop
 have hlb:l1=ln∧b1=true:=by
  rcases hP with ⟨h1,_,_⟩ | ⟨k',h1,_,h3,h4⟩
  ·rw [HHo.out] at h1;cases h1
  ·rw [HHo.out] at h1
   injection h1 with h1
   subst h1
   exact ⟨by rw [h3];exact HLE.out,h4⟩
 obtain ⟨rfl,rfl⟩:=hlb
 clear hP HHo HHm
 go_wp2_with (go_at_call 116;refine HOp.out.mono ?_;rintro e w1 ⟨rfl,hb1⟩;refine stop ?_)
 unfold Stop
 have HB1:=hid (hb1.alloc hb1.size (.cells #[.iface 41 (.pointer (some ⟨a.th 0,0,none⟩)), .int .i64 (l1:Int), .int .i64 (cl:Int), .int .i64 0, .int .u16 (g:Int)] 221))
 have HK1:=hid (Blk.new w1 221 #[.iface 41 (.pointer (some ⟨a.th 0,0,none⟩)), .int .i64 (l1:Int), .int .i64 (cl:Int), .int .i64 0, .int .u16 (g:Int)])
 clear hb1 HOp hx0
 generalize hW1:w1.alloc (.cells #[.iface 41 (.pointer (some ⟨a.th 0,0,none⟩)), .int .i64 (l1:Int), .int .i64 (cl:Int), .int .i64 0, .int .u16 (g:Int)] 221)=W1 at *
 have HW1:=hid hW1.symm
 clear hW1
 have hc0:W1.cell? ⟨w1.heap.size,0,none⟩=some (.iface 41 (.pointer (some ⟨a.th 0,0,none⟩))):=HK1.out.cell 0
 have hc1:W1.cell? ⟨w1.heap.size,1,none⟩=some (.int .i64 (l1:Int)):=HK1.out.cell 1
 have hc2:W1.cell? ⟨w1.heap.size,2,none⟩=some (.int .i64 (cl:Int)):=HK1.out.cell 2
 have hc3:W1.cell? ⟨w1.heap.size,3,none⟩=some (.int .i64 0):=HK1.out.cell 3
 have hc4:W1.cell? ⟨w1.heap.size,4,none⟩=some (.int .u16 (g:Int)):=HK1.out.cell 4
 go_wp2_with (first
  | (go_at_call 68;refine (HOf.out _).mono ?_;rintro e w1 ⟨rfl,rfl⟩)
  | (go_at_call 139;refine stop ?_))
 unfold Stop
 rw [← HW1.out]
 refine (HCc.out W1 HB1.out).mono ?_
 rintro e W2 ⟨rfl,hb2⟩
 have HB2:=hid (HB1.out.trans (hb2.mono HB1.out.size))
 have HK2:=hid (HK1.out.below hb2 HK1.out.lt)
 have HF2:=hid (HFi.out W2 HB2.out)
 have HC2:=hid (HCc.out W2 HB2.out)
 have hd0:W2.cell? ⟨w1.heap.size,0,none⟩=some (.iface 41 (.pointer (some ⟨a.th 0,0,none⟩))):=HK2.out.cell 0
 have hd1:W2.cell? ⟨w1.heap.size,1,none⟩=some (.int .i64 (l1:Int)):=HK2.out.cell 1
 have hd2:W2.cell? ⟨w1.heap.size,2,none⟩=some (.int .i64 (cl:Int)):=HK2.out.cell 2
 have hd3:W2.cell? ⟨w1.heap.size,3,none⟩=some (.int .i64 0):=HK2.out.cell 3
 have hd4:W2.cell? ⟨w1.heap.size,4,none⟩=some (.int .u16 (g:Int)):=HK2.out.cell 4
 clear hb2 hc0 hc1 hc2 hc3 hc4 HCc HFi HOf
 go_wp2_with (first
  | (go_at_call 138;refine HF2.out.mono ?_;rintro e w3 ⟨rfl,rfl⟩)
  | (go_at_call 139;refine HC2.out.mono ?_;rintro e W3 ⟨rfl,hb3⟩;have HB3:=hid (HB2.out.trans (hb3.mono HB2.out.size));clear hb3))
 go_ret3
 exact ⟨rfl,HB3.out⟩
end
end
section
open Go.RowKit Go.Maps
structure ResOk (s K:Nat) (cs:Nat→CS) (f:Nat→Option Nat) (cur:Nat→Nat) (cl:Nat) (cs':Nat→CS) (cur':Nat→Nat) (k i:Nat):Prop where
 vac:Vac s K cs' f cl k i
 how:(cs'=cs∧cur'=wrS cur (zerW (offO s cs' k i) (payW cl)))∨∃ k0,k0 < K∧(cs k0).dv=false∧(∀ k i,¬ Vac s K cs f cl k i)∧cs'=updC cs k0 (newC cl (cs k0).g)∧cur'=wrS (fmtR cur (s+32 * k0) cl (cs k0).g) (zerW (offO s cs' k i) (payW cl))
def RetRes (a:DA) (L T s n K:Nat) (x:HA) (cs:Nat→CS) (f:Nat→Option Nat) (N m b0:Nat) (S:Fp) (cur:Nat→Nat) (w:World) (cl kind:Nat) (e:Ending) (w':World):Prop :=
 ∃ k i S' cs' cur',e = .returned (.tuple #[.int .u64 (fptr s cs' kind k i:Int), .int .i64 0])∧ResOk s K cs f cur cl cs' cur' k i∧DS a L (T+400) s n K x cs' (updF f (offO s cs' k i) (some (fptr s cs' kind k i))) (N+1) (m+1) b0 S' cur' w'∧Chg (fun j=>S j∨x.fp j) w w'∧Grew S S' w
section
theorem arguments_any (n kind:Nat) (h1:1≤n) (h60:n≤60) (hk0:0 < kind) (hk8:kind < 128) (w:World) :
  Calls Tryz.prog 294 #[.int .i64 0, .int .i64 (n:Int), .int .u8 (kind:Int)] w fun e w'=>e = .returned (.int .i64 0)∧w=w':=by
 have d1:decide ((n:Int) < 1)=false:=decide_eq_false (by omega)
 have d2:decide ((60:Int) < (n:Int))=false:=decide_eq_false (by omega)
 have d3:((kind:Int) == 0)=false:=by rw [beq_eq_false_iff_ne];omega
 have d4:decide ((127:Int) < (kind:Int))=false:=decide_eq_false (by omega)
 go_enter Tryz.func294,Tryz.ntmps294
 go_wp2
 go_ret
 exact ⟨rfl,rfl⟩
variable {a:DA} {L T s n K:Nat} {x:HA} {cs:Nat→CS} {f:Nat→Option Nat} {N m b0:Nat} {S:Fp} {cur:Nat→Nat} {w w':World}
theorem claimed_vac {T':Nat} {S':Fp} {cur':Nat→Nat} {cl k:Nat} (h:DS a L T s n K x cs f N m b0 S cur w) (hk:k < K) (hd:(cs k).dv=false) (i:Nat) (hi:i < perC cl) (hc:cl < 5):f (offO s (updC cs k (newC cl (cs k).g)) k i)=none:=by
 cases hf:f (offO s (updC cs k (newC cl (cs k).g)) k i) with
 | none=>rfl
 | some p =>
  exfalso
  obtain ⟨j,i',hj,hdv,hi',ho,_⟩:=h.res _ p hf
  have hjk:j≠k:=fun e=>by rw [e,hd] at hdv;cases hdv
  have e:(updC cs k (newC cl (cs k).g) k)=newC cl (cs k).g:=by unfold updC;rw [if_pos rfl]
  unfold offO at ho
  rw [e] at ho
  have h1:=off_lt hi
  have h2:=off_lt hi'
  have h3:=offB_ge cl i
  have h4:=offB_ge (cs j).cl i'
  have ho':blkO (s+32 * k) cl i=blkO (s+32 * j) (cs j).cl i':=ho
  unfold blkO at ho'
  omega
theorem reserve_any (h:DS a L T s n K x cs f N m b0 S cur w) (nw kind:Nat) (h1:1≤nw) (h60:nw≤60) (hk0:0 < kind) (hk8:kind < 128) (hN:N < 1000000000) (hT:T+400≤1000000000)
  (hcap:(∃ k i,Vac s K cs f (clsOf nw) k i)∨∃ k,k < K∧(cs k).dv=false) :
  Calls Tryz.prog 296 #[.pointer (some ⟨x.h,0,none⟩), .int .i64 0, .int .i64 (nw:Int), .int .u8 (kind:Int)] w (RetRes a L T s n K x cs f N m b0 S cur w (clsOf nw) kind):=by
 have HAr:=hid (arguments_any nw kind h1 h60 hk0 hk8 w)
 have HEr:=hid (thErr h.dev)
 have HCs:=hid (class_any nw h1 h60 w h.pay)
 have HSe:=hid (search_any h (clsOf nw) kind hk0 hk8)
 have hm:=methErr (some ⟨a.th 0,0,none⟩)
 have HD:=hid h
 have HKd:=hid (show 0 < kind∧kind < 128∧N < maxLen∧T+400≤1000000000∧clsOf nw < 5 from ⟨hk0,hk8,by unfold maxLen;omega,hT,clsOf_lt nw⟩)
 have HCap:=hid hcap
 have hx0:w.cell? ⟨x.h,0,none⟩=some (.iface 41 (.pointer (some ⟨a.th 0,0,none⟩))):=h.hs.heap.cell 0
 have hcl0:(0:Int)≤((clsOf nw:Nat):Int):=by omega
 clear h hcap hk0 hk8 hN hT h1 h60
 unfold RetRes
 generalize clsOf nw=cl at *
 go_enter Tryz.func296,Tryz.ntmps296
 go_wp2_with (first
  | (go_at_call 294;refine HAr.out.mono ?_;rintro e w1 ⟨rfl,rfl⟩)
  | (go_at_call 27;refine HEr.out.mono ?_;rintro e w1 ⟨rfl,rfl⟩)
  | (go_at_call 195;refine HCs.out.mono ?_;rintro e w1 ⟨rfl,rfl⟩)
  | (go_at_call 297;refine HSe.out.mono ?_;rintro e w2 ⟨v,rfl,hP,hb2⟩;refine stop ?_))
 unfold Stop
 have HB2:=hid hb2
 clear hb2 HAr HEr HCs HSe hx0
 rcases hP with ⟨rfl,hno⟩ | ⟨k,i,hv,rfl⟩
 ·have hf:∃ k,k < K∧(cs k).dv=false:=HCap.out.elim (fun ⟨k,i,hv⟩=>absurd hv (hno k i)) id
  have HD2:=hid (HD.out.below HB2.out)
  have HCl:=hid (claimH_any HD2.out cl HKd.out.2.2.2.2 hf (by have:=HKd.out.2.2.2.1;omega))
  have HNo:=hid hno
  clear hf hno
  unfold RetClaim at HCl
  go_wp2_with (go_at_call 298;refine HCl.out.mono ?_;rintro e w3 ⟨k0,S3,hk0,hd0,rfl,hds3,hc3,hg3⟩;generalize hv0:((s+32 * k0:Nat):Int)=v0 at *;refine stop ?_)
  unfold Stop
  have HD3:=hid hds3
  have HC3:=hid (show Chg (fun j=>S j∨x.fp j) w2 w3∧Grew S S3 w2 from ⟨hc3,hg3⟩)
  have HK0:=hid (show k0 < K∧(cs k0).dv=false from ⟨hk0,hd0⟩)
  have hdv:(updC cs k0 (newC cl (cs k0).g) k0).dv=true:=by unfold updC;rw [if_pos rfl];rfl
  have HWi:=hid (within_any hds3 hk0 hdv kind HKd.out.1 HKd.out.2.1)
  have HNf:Hid (f (offO s (updC cs k0 (newC cl (cs k0).g)) k0 0)=none):=hid (claimed_vac (T':=T) (S':=S) (cur':=cur) HD.out hk0 hd0 0 (by have:=per_le cl;omega) HKd.out.2.2.2.2)
  clear hds3 hc3 hg3 hk0 hd0 hdv HCl
  have HV0:=hid hv0
  rw [hv0] at HWi
  clear hv0
  go_wp2_with (go_at_call 299;refine HWi.out.mono ?_;rintro e w5 ⟨v,rfl,hP,hb5⟩;refine stop ?_)
  unfold Stop
  have HD5:=hid (HD3.out.below hb5)
  have HC5:Hid (Chg (fun j=>S j∨x.fp j) w w5∧Grew S S3 w):=hid ⟨((Chg.of_below HB2.out).trans (S':=fun j=>S j∨x.fp j) HC3.out.1 (Grew.refl _ _)).below hb5,fun j hj=>(HC3.out.2 j hj).imp id (fun h=>Nat.le_trans HB2.out.size h)⟩
  clear hb5 HWi
  rcases hP with ⟨rfl,hnone⟩ | ⟨i,hi,hst,hfi,rfl⟩
  ·exfalso
   refine hnone 0 ?_ ?_ HNf.out
   ·have e:(updC cs k0 (newC cl (cs k0).g) k0).cl=cl:=by unfold updC;rw [if_pos rfl];rfl
    rw [e]
    have:=per_le cl
    omega
   ·unfold updC;rw [if_pos rfl];rfl
  ·have hv5:Vac s K (updC cs k0 (newC cl (cs k0).g)) f cl k0 i:=by
    have e1:updC cs k0 (newC cl (cs k0).g) k0=newC cl (cs k0).g:=by unfold updC;rw [if_pos rfl]
    rw [e1] at hi hst
    exact ⟨HK0.out.1,by rw [e1];rfl,by rw [e1];rfl,hi,by rw [e1];exact hst,hfi⟩
   clear hi hst hfi HNf
   have hvv0:=HV0.out
   generalize hcs5:updC cs k0 (newC cl (cs k0).g)=cs5 at *
   have HCS5:=hid hcs5
   clear hcs5
   have HV5:=hid hv5
   obtain ⟨q1,q2,q3,q4,q5,q6,q7,q8⟩:=HD5.out.vac_facts hv5 kind HKd.out.2.1
   have HZe:=hid (zero_any HD5.out.dev HD5.out.pay x.h _ HD5.out.hs.heap rfl HD5.out.off.1 (fptr s cs5 kind k0 i) cl (offO s cs5 k0 i) q1 q5 q4 q3 (by have:=HKd.out.2.2.2.1;omega))
   have HOf:Hid (∀ W,Calls Tryz.prog 68 #[.int .u64 (fptr s cs5 kind k0 i:Int)] W fun e w'=>e = .returned (.int .u64 (offO s cs5 k0 i:Int))∧W=w'):=hid (fun W=>by have h2:=off_any (fptr s cs5 kind k0 i) W;rw [q4] at h2;exact h2)
   have HZd:Hid (∀ w6 S6,Dev a L ((T+200)+200) w6 S6 (wrS (fmtR cur (s+32 * k0) cl (cs k0).g) (zerW (offO s cs5 k0 i) (payW cl))) 0→Chg S3 w5 w6→Grew S3 S6 w5→DS a L ((T+200)+200) s n K x cs5 f N m b0 S6 (wrS (fmtR cur (s+32 * k0) cl (cs k0).g) (zerW (offO s cs5 k0 i) (payW cl))) w6):=hid (fun w6 S6 hd hc hg=>HD5.out.zeroed hv5 hd hc hg)
   have hx0:w5.cell? ⟨x.h,0,none⟩=some (.iface 41 (.pointer (some ⟨a.th 0,0,none⟩))):=HD5.out.hs.heap.cell 0
   clear q1 q2 q3 q4 q5 q6 q7 q8 hv5
   generalize hfp:fptr s cs5 kind k0 i=fp at *
   generalize hof:offO s cs5 k0 i=o at *
   rw [← hvv0];clear hvv0;generalize hvv:((s+32 * k0:Nat):Int)=v at *
   have HFP:=hid hfp
   have HOF:=hid hof
   have HVV:=hid hvv
   clear hfp hof hvv
   go_wp2_with (go_at_call 300;refine HZe.out.mono ?_;rintro e w6 ⟨rfl,S6,hd6,hc6,hg6⟩;refine stop ?_)
   unfold Stop
   have HD6:=hid (HZd.out w6 S6 hd6 hc6 hg6)
   have HC6:=hid (show Chg S3 w5 w6∧Grew S3 S6 w5 from ⟨hc6,hg6⟩)
   obtain ⟨w7,w8,c,r7,r8,r9,b7,b8,l8,hfin⟩:=HD6.out.rsv HV5.out kind HKd.out.1 HKd.out.2.1 HKd.out.2.2.1
   rw [HOF.out,HFP.out] at r7
   rw [HVV.out] at r8 r9
   have HFin:=hid hfin
   have HHo:=hid (holdP_any l8 HD6.out.few.1 (by have:=HD6.out.few.2;omega) HV5.out.1 HV5.out.2.1 true)
   rw [HVV.out] at HHo
   unfold HA.p RetHold at HHo
   dsimp only at HHo
   have y4:w6.cell? ⟨x.h,4,none⟩=some (.map (some x.mr)):=HD6.out.hs.heap.cell 4
   have y5:w7.cell? ⟨x.h,5,none⟩=some (.map (some x.mh)):=b7.cell 5
   have y3:w8.cell? ⟨x.h,3,none⟩=some (.pointer (some ⟨x.gs,0,none⟩)):=b8.cell 3
   clear hd6 hc6 hg6 hfin b7 b8 l8 HZe HZd hx0
   go_wp2_with fail
   go_region_with (go_at_call 68;refine (HOf.out _).mono ?_;rintro e w1 ⟨rfl,rfl⟩)
   all_goals
    go_wp2_with (go_at_call 172;refine HHo.out.mono ?_;rintro e w9 ⟨rfl,l9,c9⟩;refine stop ?_)
    unfold Stop
    have HE:=hid (HFin.out w9 l9 c9)
    clear l9 c9 HHo HFin r7 r8 r9 y3 y4 y5
    go_wp2
    go_ret2
    refine ⟨k0,i,S6,_,_,by rw [HFP.out];rfl,⟨HV5.out, .inr ⟨k0,HK0.out.1,HK0.out.2,HNo.out,HCS5.out.symm,by rw [HOF.out]⟩⟩,HE.out.1.more (by omega) HKd.out.2.2.2.1,?_,?_⟩
    ·exact (HC5.out.1.trans (S':=S3) HC6.out.1 (fun j hj=>(HC5.out.2 j hj).imp .inl id)).trans (S':=x.fp) HE.out.2 (fun j hj => .inl (.inr hj))
    ·exact HC5.out.2.trans HC6.out.2 HC5.out.1.size
 ·have hv5:=hv
  clear hv
  have HD5:=hid (HD.out.below HB2.out)
  have HC5:Hid (Chg (fun j=>S j∨x.fp j) w w2∧Grew S S w):=hid ⟨Chg.of_below HB2.out,Grew.refl _ _⟩
  have HV5:=hid hv5
  obtain ⟨q1,q2,q3,q4,q5,q6,q7,q8⟩:=HD5.out.vac_facts hv5 kind HKd.out.2.1
  have HZe:=hid (zero_any HD5.out.dev HD5.out.pay x.h _ HD5.out.hs.heap rfl HD5.out.off.1 (fptr s cs kind k i) cl (offO s cs k i) q1 q5 q4 q3 (by have:=HKd.out.2.2.2.1;omega))
  have HOf:Hid (∀ W,Calls Tryz.prog 68 #[.int .u64 (fptr s cs kind k i:Int)] W fun e w'=>e = .returned (.int .u64 (offO s cs k i:Int))∧W=w'):=hid (fun W=>by have h2:=off_any (fptr s cs kind k i) W;rw [q4] at h2;exact h2)
  have HZd:Hid (∀ w6 S6,Dev a L (T+200) w6 S6 (wrS cur (zerW (offO s cs k i) (payW cl))) 0→Chg S w2 w6→Grew S S6 w2→DS a L (T+200) s n K x cs f N m b0 S6 (wrS cur (zerW (offO s cs k i) (payW cl))) w6):=hid (fun w6 S6 hd hc hg=>HD5.out.zeroed hv5 hd hc hg)
  have hx0:w2.cell? ⟨x.h,0,none⟩=some (.iface 41 (.pointer (some ⟨a.th 0,0,none⟩))):=HD5.out.hs.heap.cell 0
  clear q1 q2 q3 q4 q5 q6 q7 q8 hv5
  generalize hfp:fptr s cs kind k i=fp at *
  generalize hof:offO s cs k i=o at *
  generalize hvv:((s+32 * k:Nat):Int)=v at *
  have HFP:=hid hfp
  have HOF:=hid hof
  have HVV:=hid hvv
  clear hfp hof hvv
  go_wp2_with (go_at_call 300;refine HZe.out.mono ?_;rintro e w6 ⟨rfl,S6,hd6,hc6,hg6⟩;refine stop ?_)
  unfold Stop
  have HD6:=hid (HZd.out w6 S6 hd6 hc6 hg6)
  have HC6:=hid (show Chg S w2 w6∧Grew S S6 w2 from ⟨hc6,hg6⟩)
  obtain ⟨w7,w8,c,r7,r8,r9,b7,b8,l8,hfin⟩:=HD6.out.rsv HV5.out kind HKd.out.1 HKd.out.2.1 HKd.out.2.2.1
  rw [HOF.out,HFP.out] at r7
  rw [HVV.out] at r8 r9
  have HFin:=hid hfin
  have HHo:=hid (holdP_any l8 HD6.out.few.1 (by have:=HD6.out.few.2;omega) HV5.out.1 HV5.out.2.1 true)
  rw [HVV.out] at HHo
  unfold HA.p RetHold at HHo
  dsimp only at HHo
  have y4:w6.cell? ⟨x.h,4,none⟩=some (.map (some x.mr)):=HD6.out.hs.heap.cell 4
  have y5:w7.cell? ⟨x.h,5,none⟩=some (.map (some x.mh)):=b7.cell 5
  have y3:w8.cell? ⟨x.h,3,none⟩=some (.pointer (some ⟨x.gs,0,none⟩)):=b8.cell 3
  clear hd6 hc6 hg6 hfin b7 b8 l8 HZe HZd hx0
  go_wp2_with fail
  go_region_with (go_at_call 68;refine (HOf.out _).mono ?_;rintro e w1 ⟨rfl,rfl⟩)
  all_goals
   go_wp2_with (go_at_call 172;refine HHo.out.mono ?_;rintro e w9 ⟨rfl,l9,c9⟩;refine stop ?_)
   unfold Stop
   have HE:=hid (HFin.out w9 l9 c9)
   clear l9 c9 HHo HFin r7 r8 r9 y3 y4 y5
   go_wp2
   go_ret2
   refine ⟨k,i,S6,_,_,by rw [HFP.out];rfl,⟨HV5.out, .inl ⟨rfl,by rw [HOF.out]⟩⟩,HE.out.1.more (by omega) HKd.out.2.2.2.1,?_,?_⟩
   ·exact (HC5.out.1.trans (S':=S) HC6.out.1 (fun j hj=>(HC5.out.2 j hj).imp .inl id)).trans (S':=x.fp) HE.out.2 (fun j hj => .inl (.inr hj))
   ·exact HC5.out.2.trans HC6.out.2 HC5.out.1.size
end
end
end Go.Proofs.YtnlokpakiambaaaGreatDoor
