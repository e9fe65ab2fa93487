/- The walks and laws that the claim leans on, part 19. -/
import Derived.Test.YtfkjjoglnmeciaaGreatDoorJaq
set_option maxRecDepth 100000
set_option maxHeartbeats 16000000
namespace Go.Proofs.YtfkjjoglnmeciaaGreatDoor
open Go.Lib (hid)
section
open Go.RowKit
def blkR (ln cl:Nat) (bs:Nat→BK) (p:Nat):Nat × Nat:=if p=0 then (0,1) else match fndC ln cl (pOff p) with
 | none=>(0,2)
 | some i=>if p / 72057594037927936≠0 then (0,2) else if (bs i).st≠177∨(bs i).gen≠pGen p then (0,12) else if (bs i).kind≠pKind p then (0,13) else (i,0)
section
variable {a:DA} {L T:Nat} {w:World} {S:Fp} {cur:Nat→Nat} {F:Nat}
theorem chBlock_any (h:Dev a L T w S cur F) (ht:Tab w) (hp:Pay w) (ln cl g V p:Nat) (bs:Nat→BK) (hl:ln+32≤L) (hC:ChW cur ln cl g V bs) (_hp64:p < 18446744073709551616) :
  Calls Tryz.prog 196 #[chV a ln cl 0 g, .int .u64 (p:Int)] w fun e w'=>e = .returned (.tuple #[.int .i64 ((blkR ln cl bs p).1:Int), .int .i64 ((blkR ln cl bs p).2:Int)])∧Below w.heap.size w w':=by
 obtain ⟨_,_,_,_,_,hdc,_⟩:=id h
 have hL:=hdc.hL
 clear hdc
 have hb0:Below w.heap.size w (w.alloc (.cells (chCells a ln cl g) 306)):=(Below.refl _ _).alloc (Nat.le_refl _) _
 have HB0:=hid hb0
 have HNil:=hid (nil_any p)
 have HOff:=hid (off_any p)
 have HFi:Hid (∀ W,Below w.heap.size w W→Calls Tryz.prog 294 #[chV a ln cl 0 g, .int .u64 (pOff p:Int)] W fun e w'=>e = .returned (fndR ln cl (pOff p))∧Below W.heap.size W w'):=hid (fun W hW=>chFind_any a ln cl g (pOff p) (by omega) hC.cls (by unfold pOff;omega) W (hp.below hW))
 have HEr:Hid (∀ W,Below w.heap.size w W→Calls Tryz.prog 112 #[.pointer (some ⟨a.th 0,0,none⟩)] W fun e w'=>e = .returned (.int .i64 0)∧W=w'):=hid (fun W hW=>thErr (h.below hW))
 have HRd:Hid (∀ i,i < perC cl→∀ W,Below w.heap.size w W→Calls Tryz.prog 295 #[chV a ln cl 0 g, .int .i64 (i:Int)] W fun e w'=>e = .returned (.tuple #[(bs i).v, .bool true, .bool (bitAt V i)])∧Below W.heap.size W w'):=hid (fun i hi W hW=>read_any (h.below hW) (ht.below hW) (hp.below hW) ln cl g V i (bs i) (hC.inn i hi) hl hC.cls hi hC.v64 hC.bits (hC.word i hi))
 have HGn:=hid (gen_any p)
 have HKn:=hid (kind_any p)
 have HK:=hid (Blk.new w 306 (chCells a ln cl g))
 have hm:=methErr (some ⟨a.th 0,0,none⟩)
 have HC:=hid hC
 clear h ht hp hb0 hC
 unfold chV at *
 unfold chCells memV at *
 by_cases hp0:p=0
 ·have HR:Hid (blkR ln cl bs p=(0,1)):=hid (by unfold blkR;rw [if_pos hp0])
  rw [HR.out]
  rw [decide_eq_true hp0] at HNil
  clear hp0
  go_enter Tryz.func196,Tryz.ntmps196
  go_wp2_with (go_at_call 22;refine (HNil.out _).mono ?_;rintro e w1 ⟨rfl,rfl⟩)
  go_ret2
  exact ⟨rfl,HB0.out⟩
 ·rw [decide_eq_false hp0] at HNil
  have HRR:Hid (blkR ln cl bs p=match fndC ln cl (pOff p) with
   | none=>(0,2)
   | some i=>if p / 72057594037927936≠0 then (0,2) else if (bs i).st≠177∨(bs i).gen≠pGen p then (0,12) else if (bs i).kind≠pKind p then (0,13) else (i,0)):=hid (by unfold blkR;rw [if_neg hp0])
  clear hp0
  have HFq:Hid (∃ (k:Nat) (b:Bool),fndR ln cl (pOff p) = .tuple #[.int .i64 (k:Int), .bool b]∧(b=true→fndC ln cl (pOff p)=some k∧k < perC cl)∧(b=false→fndC ln cl (pOff p)=none)):=hid (by
   unfold fndR
   generalize hf:fndC ln cl (pOff p)=o
   cases o with
   | none=>exact ⟨0,false,rfl,(fun h=>absurd h (by decide)),fun _=>rfl⟩
   | some i=>exact ⟨i,true,rfl,fun _=>⟨rfl,(fndC_some hf).1⟩,(fun h=>absurd h (by decide))⟩)
  obtain ⟨fk,fb,hfq,hft,hff⟩:=HFq.out
  rw [hfq] at HFi
  have HFT:=hid hft
  have HFF:=hid hff
  clear hfq HFq hft hff
  generalize pOff p=po at *
  generalize blkR ln cl bs p=rr at *
  go_enter Tryz.func196,Tryz.ntmps196
  go_wp2_with (go_at_call 22;refine (HNil.out _).mono ?_;rintro e w1 ⟨rfl,rfl⟩)
  refine wp_region_script (fun w'=>Below w.heap.size w w'∧Blk w' w.heap.size 306 #[.iface 58 (.pointer (some ⟨a.th 0,0,none⟩)), .int .i64 (ln:Int), .int .i64 (cl:Int), .int .i64 0, .int .u16 (g:Int)]) 8 [(true,0),(true,1),(false,2),(false,3),(true,4),(true,5),(true,6),(true,7)] (by kernel_rfl) (by kernel_rfl) ⟨HB0.out.drew,HK.out.drew⟩ ?_
  refine wpScript_take (.agg #[.iface 58 (.pointer (some ⟨a.th 0,0,none⟩)), .int .i64 (ln:Int), .int .i64 (cl:Int), .int .i64 0, .int .u16 (g:Int)]) (by rfl) (by rfl) (fun w' hS=>?_) ?_
  ·have hk:=hS.2
   have f0:w'.cell? ⟨w.heap.size,0,none⟩=some (.iface 58 (.pointer (some ⟨a.th 0,0,none⟩))):=hk.cell 0
   have f1:w'.cell? ⟨w.heap.size,1,none⟩=some (.int .i64 (ln:Int)):=hk.cell 1
   have f2:w'.cell? ⟨w.heap.size,2,none⟩=some (.int .i64 (cl:Int)):=hk.cell 2
   have f3:w'.cell? ⟨w.heap.size,3,none⟩=some (.int .i64 0):=hk.cell 3
   have f4:w'.cell? ⟨w.heap.size,4,none⟩=some (.int .u16 (g:Int)):=hk.cell 4
   go_simp
  simp only [zA,zB,Act.put,zD,zE,zF]
  refine wpScript_take (.int .u64 (p:Int)) (by rfl) (by rfl) (fun w' hS=>?_) ?_
  ·go_simp
  simp only [zA,zB,zC,Act.put,zD,zE,zF]
  refine wpScript_do (by rfl) ?_
  go_wp2_with fail
  refine (HOff.out _).mono ?_
  rintro e w1 ⟨rfl,rfl⟩
  go_wp2_with fail
  refine ⟨⟨HB0.out.drew,HK.out.drew⟩,?_⟩
  refine wpScript_do (by rfl) ?_
  go_wp2_with fail
  refine (HFi.out _ HB0.out.drew).mono ?_
  rintro e w1 ⟨rfl,hb1⟩
  have HB1:=hid (HB0.out.drew.trans (hb1.mono HB0.out.drew.size))
  have HK1:=hid (HK.out.drew.below hb1 HK.out.drew.lt)
  clear hb1 HFi HOff HNil HB0 HK
  go_wp2_with fail
  refine ⟨⟨HB1.out,HK1.out⟩,?_⟩
  refine wpScript_take (.tuple #[.int .i64 (fk:Int), .bool fb]) (by rfl) (by rfl) (fun w' hS=>?_) ?_
  ·go_simp
  simp only [zA,zB,zC,Act.put,zD,zE,zF]
  refine wpScript_take (.int .i64 (fk:Int)) (by rfl) (by rfl) (fun w' hS=>?_) ?_
  ·go_simp
  simp only [zA,zB,zC,Act.put,zD,zE,zF]
  refine wpScript_take (.bool fb) (by rfl) (by rfl) (fun w' hS=>?_) ?_
  ·go_simp
  simp only [zA,zB,zC,Act.put,zD,zE,zF]
  refine wpScript_take (.int .i64 (fk:Int)) (by rfl) (by rfl) (fun w' hS=>?_) ?_
  ·go_simp
  simp only [zA,zB,zC,Act.put,zD,zE,zF]
  show wpList _ _ _ _ _ _
  simp only [List.drop_succ_cons,List.drop_zero]
  have f0:w1.cell? ⟨w.heap.size,0,none⟩=some (.iface 58 (.pointer (some ⟨a.th 0,0,none⟩))):=HK1.out.cell 0
  have f1:w1.cell? ⟨w.heap.size,1,none⟩=some (.int .i64 (ln:Int)):=HK1.out.cell 1
  have f2:w1.cell? ⟨w.heap.size,2,none⟩=some (.int .i64 (cl:Int)):=HK1.out.cell 2
  have f3:w1.cell? ⟨w.heap.size,3,none⟩=some (.int .i64 0):=HK1.out.cell 3
  have f4:w1.cell? ⟨w.heap.size,4,none⟩=some (.int .u16 (g:Int)):=HK1.out.cell 4
  cases fb
  ·have HF:=hid (HFF.out rfl)
   rw [HF.out] at HRR
   clear HF HFF HFT
   go_wp2_with fail
   refine NoPanic.normal ?_
   go_wp2
   go_ret2
   exact ⟨by rw [HRR.out];rfl,HB1.out⟩
  ·have HF:=hid (HFT.out rfl)
   rw [HF.out.1] at HRR
   dsimp only at HRR
   obtain ⟨hfk⟩:PLift (fk < perC cl):=⟨HF.out.2⟩
   by_cases hpt:p / 72057594037927936=0
   ·have q0:((p:Int) / 72057594037927936 == 0)=true:=by rw [beq_iff_eq];omega
    have q1:(p:Int) / 72057594037927936=0:=by omega
    rw [if_neg (fun hh=>hh hpt)] at HRR
    clear hpt HF HFF HFT
    go_wp2_with fail
    refine NoPanic.normal ?_
    go_wp2_with (go_at_call 112;refine (HEr.out _ HB1.out).mono ?_;rintro e w2 ⟨rfl,rfl⟩)
    refine (HRd.out fk hfk _ HB1.out).mono ?_
    rintro e w2 ⟨rfl,hb2⟩
    obtain ⟨hbit⟩:PLift (bitAt V fk=decide ((bs fk).st≠176)):=⟨HC.out.bit fk hfk⟩
    have hin:=HC.out.inn fk hfk
    obtain ⟨hbg,hbk,hbs⟩:=hin
    generalize bitAt V fk=bt at *
    have HBI:=hid hbit
    clear hbit
    unfold BK.v at *
    generalize bs fk=b at *
    obtain ⟨gen,kd,st⟩:=b
    dsimp only at *
    have f0':w2.cell? ⟨w.heap.size,0,none⟩=some (.iface 58 (.pointer (some ⟨a.th 0,0,none⟩))):=(HK1.out.below hb2 HK1.out.lt).cell 0
    have hl1:=HK1.out.lt
    have hl2:=hb2.size
    have hlt:w.heap.size < w2.heap.size:=by omega
    have HBX:=hid ((HB1.out.trans (hb2.mono HB1.out.size)).alloc (Nat.le_trans HB1.out.size hb2.size) (.cells #[.int .u16 (gen:Int), .int .u8 (kd:Int), .int .u8 (st:Int)] 401))
    have HBB:=hid (Blk.new w2 401 #[.int .u16 (gen:Int), .int .u8 (kd:Int), .int .u8 (st:Int)])
    clear hb2 hl1 hl2 HRd HC HK1 f0 f1 f2 f3 f4 q0 q1
    go_wp2_with (go_at_call 112;refine (HEr.out _ HBX.out).mono ?_;rintro e w3 ⟨rfl,rfl⟩)
    generalize w2.alloc (.cells #[.int .u16 (gen:Int), .int .u8 (kd:Int), .int .u8 (st:Int)] 401)=W at *
    generalize w2.heap.size=p2 at *
    have c0:W.cell? ⟨p2,0,none⟩=some (.int .u16 (gen:Int)):=HBB.out.cell 0
    have c1:W.cell? ⟨p2,1,none⟩=some (.int .u8 (kd:Int)):=HBB.out.cell 1
    have c2:W.cell? ⟨p2,2,none⟩=some (.int .u8 (st:Int)):=HBB.out.cell 2
    clear f0' hlt HEr HB1
    by_cases h176:st=176
    ·have hb2:bt=false:=by rw [HBI.out,decide_eq_false (fun hh=>hh h176)]
     subst hb2
     rw [if_pos (.inl (by omega))] at HRR
     clear HBI h176
     refine wp_region_script (fun w'=>Blk w' p2 401 #[.int .u16 (gen:Int), .int .u8 (kd:Int), .int .u8 (st:Int)]) 16 [(true,0),(true,1),(true,2),(true,3),(true,4),(true,5),(true,6),(true,7),(true,8),(true,9),(true,10),(true,11),(true,12),(true,13),(true,14),(true,15)] (by kernel_rfl) (by kernel_rfl) HBB.out.drew ?_
     refine wpScript_take (.bool true) (by rfl) (by rfl) (fun w' hS=>?_) ?_
     ·go_simp
     simp only [zA,zB,Act.put,zD,zE,zF]
     refine wpScript_take (.bool false) (by rfl) (by rfl) (fun w' hS=>?_) ?_
     ·go_simp
     simp only [zA,zB,zC,Act.put,zD,zE,zF]
     refine wpScript_take (.bool false) (by rfl) (by rfl) (fun w' hS=>?_) ?_
     ·go_simp
     simp only [zA,zB,zC,Act.put,zD,zE,zF]
     refine wpScript_take (.bool false) (by rfl) (by rfl) (fun w' hS=>?_) ?_
     ·go_simp
     simp only [zA,zB,zC,Act.put,zD,zE,zF]
     refine wpScript_take (.bool true) (by rfl) (by rfl) (fun w' hS=>?_) ?_
     ·go_simp
     simp only [zA,zB,zC,Act.put,zD,zE,zF]
     refine wpScript_take (.bool true) (by rfl) (by rfl) (fun w' hS=>?_) ?_
     ·go_simp
     simp only [zA,zB,zC,Act.put,zD,zE,zF]
     refine wpScript_take (.bool true) (by rfl) (by rfl) (fun w' hS=>?_) ?_
     ·go_simp
     simp only [zA,zB,zC,Act.put,zD,zE,zF]
     refine wpScript_skip (by rfl) (by rfl) ?_
     simp only [zA,zB,zC,Act.put,zD,zE,zF]
     refine wpScript_skip (by rfl) (by rfl) ?_
     simp only [zA,zB,zC,Act.put,zD,zE,zF]
     refine wpScript_skip (by rfl) (by rfl) ?_
     simp only [zA,zB,zC,Act.put,zD,zE,zF]
     refine wpScript_take (.bool true) (by rfl) (by rfl) (fun w' hS=>?_) ?_
     ·go_simp
     simp only [zA,zB,zC,Act.put,zD,zE,zF]
     refine wpScript_take (.bool true) (by rfl) (by rfl) (fun w' hS=>?_) ?_
     ·go_simp
     simp only [zA,zB,zC,Act.put,zD,zE,zF]
     refine wpScript_skip (by rfl) (by rfl) ?_
     simp only [zA,zB,zC,Act.put,zD,zE,zF]
     refine wpScript_skip (by rfl) (by rfl) ?_
     simp only [zA,zB,zC,Act.put,zD,zE,zF]
     refine wpScript_skip (by rfl) (by rfl) ?_
     simp only [zA,zB,zC,Act.put,zD,zE,zF]
     refine wpScript_skip (by rfl) (by rfl) ?_
     simp only [zA,zB,zC,Act.put,zD,zE,zF]
     show wpList _ _ _ _ _ _
     simp only [List.drop_succ_cons,List.drop_zero]
     go_wp2_with fail
     refine NoPanic.normal ?_
     go_wp2
     go_ret2
     exact ⟨by rw [HRR.out];rfl,HBX.out.drew⟩
    ·have hb2:bt=true:=by rw [HBI.out,decide_eq_true h176]
     subst hb2
     by_cases h177:st=177
     ·subst h177
      by_cases hgen:gen=pGen p
      ·have d1:((gen:Int) == (pGen p:Int))=true:=by rw [beq_iff_eq];omega
       have d2:((gen:Int) != (pGen p:Int))=false:=by simp only [bne,d1,Bool.not_true]
       rw [if_neg (by omega)] at HRR
       clear HBI h176 hgen
       by_cases hkd:kd=pKind p
       ·have e1:((kd:Int) == (pKind p:Int))=true:=by rw [beq_iff_eq];omega
        rw [if_neg (fun hh=>hh hkd)] at HRR
        clear hkd
        generalize pGen p=pg at *
        generalize pKind p=pk at *
        refine wp_region_script (fun w'=>Blk w' p2 401 #[.int .u16 (gen:Int), .int .u8 (kd:Int), .int .u8 ((177:Nat):Int)]) 16 [(true,0),(true,1),(true,2),(true,3),(true,4),(true,5),(true,6),(true,7),(true,8),(true,9),(true,10),(true,11),(true,12),(true,13),(true,14),(false,15)] (by kernel_rfl) (by kernel_rfl) HBB.out.drew ?_
        refine wpScript_take (.bool true) (by rfl) (by rfl) (fun w' hS=>?_) ?_
        ·go_simp
        simp only [zA,zB,Act.put,zD,zE,zF]
        refine wpScript_take (.bool false) (by rfl) (by rfl) (fun w' hS=>?_) ?_
        ·go_simp
        simp only [zA,zB,zC,Act.put,zD,zE,zF]
        refine wpScript_take (.bool false) (by rfl) (by rfl) (fun w' hS=>?_) ?_
        ·go_simp
        simp only [zA,zB,zC,Act.put,zD,zE,zF]
        refine wpScript_take (.bool true) (by rfl) (by rfl) (fun w' hS=>?_) ?_
        ·go_simp
        simp only [zA,zB,zC,Act.put,zD,zE,zF]
        refine wpScript_take (.bool false) (by rfl) (by rfl) (fun w' hS=>?_) ?_
        ·go_simp
        simp only [zA,zB,zC,Act.put,zD,zE,zF]
        refine wpScript_take (.bool false) (by rfl) (by rfl) (fun w' hS=>?_) ?_
        ·go_simp
        simp only [zA,zB,zC,Act.put,zD,zE,zF]
        refine wpScript_take (.bool false) (by rfl) (by rfl) (fun w' hS=>?_) ?_
        ·go_simp
        simp only [zA,zB,zC,Act.put,zD,zE,zF]
        refine wpScript_take (.pointer (some ⟨p2,2,none⟩)) (by rfl) (by rfl) (fun w' hS=>?_) ?_
        ·go_simp
        simp only [zA,zB,zC,Act.put,zD,zE,zF]
        refine wpScript_take (.int .u8 177) (by rfl) (by rfl) (fun w' hS=>?_) ?_
        ·have f2:w'.cell? ⟨p2,2,none⟩=some (.int .u8 177):=hS.cell 2
         go_simp
        simp only [zA,zB,zC,Act.put,zD,zE,zF]
        refine wpScript_take (.bool false) (by rfl) (by rfl) (fun w' hS=>?_) ?_
        ·go_simp
        simp only [zA,zB,zC,Act.put,zD,zE,zF]
        refine wpScript_take (.bool false) (by rfl) (by rfl) (fun w' hS=>?_) ?_
        ·go_simp
        simp only [zA,zB,zC,Act.put,zD,zE,zF]
        refine wpScript_take (.bool false) (by rfl) (by rfl) (fun w' hS=>?_) ?_
        ·go_simp
        simp only [zA,zB,zC,Act.put,zD,zE,zF]
        refine wpScript_take (.pointer (some ⟨p2,0,none⟩)) (by rfl) (by rfl) (fun w' hS=>?_) ?_
        ·go_simp
        simp only [zA,zB,zC,Act.put,zD,zE,zF]
        refine wpScript_take (.int .u16 (gen:Int)) (by rfl) (by rfl) (fun w' hS=>?_) ?_
        ·have f2:w'.cell? ⟨p2,0,none⟩=some (.int .u16 (gen:Int)):=hS.cell 0
         go_simp
        simp only [zA,zB,zC,Act.put,zD,zE,zF]
        refine wpScript_take (.int .u64 (p:Int)) (by rfl) (by rfl) (fun w' hS=>?_) ?_
        ·go_simp
        simp only [zA,zB,zC,Act.put,zD,zE,zF]
        refine wpScript_do (by rfl) ?_
        go_wp2_with fail
        refine (HGn.out _).mono ?_
        rintro e w3 ⟨rfl,rfl⟩
        go_wp2_with fail
        refine ⟨HBB.out.drew,?_⟩
        show wpList _ _ _ _ _ _
        simp only [List.drop_succ_cons,List.drop_zero]
        go_wp2_with fail
        refine NoPanic.normal ?_
        go_wp2_with fail
        go_region_with (go_at_call 150;refine (HKn.out _).mono ?_;rintro e w3 ⟨rfl,rfl⟩)
        all_goals
         go_wp2
         go_ret2
         exact ⟨by rw [HRR.out];rfl,HBX.out.drew.drew⟩
       ·have e1:((kd:Int) == (pKind p:Int))=false:=by rw [beq_eq_false_iff_ne];omega
        rw [if_pos hkd] at HRR
        clear hkd
        generalize pGen p=pg at *
        generalize pKind p=pk at *
        refine wp_region_script (fun w'=>Blk w' p2 401 #[.int .u16 (gen:Int), .int .u8 (kd:Int), .int .u8 ((177:Nat):Int)]) 16 [(true,0),(true,1),(true,2),(true,3),(true,4),(true,5),(true,6),(true,7),(true,8),(true,9),(true,10),(true,11),(true,12),(true,13),(true,14),(false,15)] (by kernel_rfl) (by kernel_rfl) HBB.out.drew ?_
        refine wpScript_take (.bool true) (by rfl) (by rfl) (fun w' hS=>?_) ?_
        ·go_simp
        simp only [zA,zB,Act.put,zD,zE,zF]
        refine wpScript_take (.bool false) (by rfl) (by rfl) (fun w' hS=>?_) ?_
        ·go_simp
        simp only [zA,zB,zC,Act.put,zD,zE,zF]
        refine wpScript_take (.bool false) (by rfl) (by rfl) (fun w' hS=>?_) ?_
        ·go_simp
        simp only [zA,zB,zC,Act.put,zD,zE,zF]
        refine wpScript_take (.bool true) (by rfl) (by rfl) (fun w' hS=>?_) ?_
        ·go_simp
        simp only [zA,zB,zC,Act.put,zD,zE,zF]
        refine wpScript_take (.bool false) (by rfl) (by rfl) (fun w' hS=>?_) ?_
        ·go_simp
        simp only [zA,zB,zC,Act.put,zD,zE,zF]
        refine wpScript_take (.bool false) (by rfl) (by rfl) (fun w' hS=>?_) ?_
        ·go_simp
        simp only [zA,zB,zC,Act.put,zD,zE,zF]
        refine wpScript_take (.bool false) (by rfl) (by rfl) (fun w' hS=>?_) ?_
        ·go_simp
        simp only [zA,zB,zC,Act.put,zD,zE,zF]
        refine wpScript_take (.pointer (some ⟨p2,2,none⟩)) (by rfl) (by rfl) (fun w' hS=>?_) ?_
        ·go_simp
        simp only [zA,zB,zC,Act.put,zD,zE,zF]
        refine wpScript_take (.int .u8 177) (by rfl) (by rfl) (fun w' hS=>?_) ?_
        ·have f2:w'.cell? ⟨p2,2,none⟩=some (.int .u8 177):=hS.cell 2
         go_simp
        simp only [zA,zB,zC,Act.put,zD,zE,zF]
        refine wpScript_take (.bool false) (by rfl) (by rfl) (fun w' hS=>?_) ?_
        ·go_simp
        simp only [zA,zB,zC,Act.put,zD,zE,zF]
        refine wpScript_take (.bool false) (by rfl) (by rfl) (fun w' hS=>?_) ?_
        ·go_simp
        simp only [zA,zB,zC,Act.put,zD,zE,zF]
        refine wpScript_take (.bool false) (by rfl) (by rfl) (fun w' hS=>?_) ?_
        ·go_simp
        simp only [zA,zB,zC,Act.put,zD,zE,zF]
        refine wpScript_take (.pointer (some ⟨p2,0,none⟩)) (by rfl) (by rfl) (fun w' hS=>?_) ?_
        ·go_simp
        simp only [zA,zB,zC,Act.put,zD,zE,zF]
        refine wpScript_take (.int .u16 (gen:Int)) (by rfl) (by rfl) (fun w' hS=>?_) ?_
        ·have f2:w'.cell? ⟨p2,0,none⟩=some (.int .u16 (gen:Int)):=hS.cell 0
         go_simp
        simp only [zA,zB,zC,Act.put,zD,zE,zF]
        refine wpScript_take (.int .u64 (p:Int)) (by rfl) (by rfl) (fun w' hS=>?_) ?_
        ·go_simp
        simp only [zA,zB,zC,Act.put,zD,zE,zF]
        refine wpScript_do (by rfl) ?_
        go_wp2_with fail
        refine (HGn.out _).mono ?_
        rintro e w3 ⟨rfl,rfl⟩
        go_wp2_with fail
        refine ⟨HBB.out.drew,?_⟩
        show wpList _ _ _ _ _ _
        simp only [List.drop_succ_cons,List.drop_zero]
        go_wp2_with fail
        refine NoPanic.normal ?_
        go_wp2_with fail
        go_region_with (go_at_call 150;refine (HKn.out _).mono ?_;rintro e w3 ⟨rfl,rfl⟩)
        all_goals
         go_wp2
         go_ret2
         exact ⟨by rw [HRR.out];rfl,HBX.out.drew.drew⟩
      ·have d1:((gen:Int) == (pGen p:Int))=false:=by rw [beq_eq_false_iff_ne];omega
       rw [if_pos (.inr hgen)] at HRR
       clear HBI h176 hgen
       generalize pGen p=pg at *
       refine wp_region_script (fun w'=>Blk w' p2 401 #[.int .u16 (gen:Int), .int .u8 (kd:Int), .int .u8 ((177:Nat):Int)]) 16 [(true,0),(true,1),(true,2),(true,3),(true,4),(true,5),(true,6),(true,7),(true,8),(true,9),(true,10),(true,11),(true,12),(true,13),(true,14),(false,15)] (by kernel_rfl) (by kernel_rfl) HBB.out.drew ?_
       refine wpScript_take (.bool true) (by rfl) (by rfl) (fun w' hS=>?_) ?_
       ·go_simp
       simp only [zA,zB,Act.put,zD,zE,zF]
       refine wpScript_take (.bool false) (by rfl) (by rfl) (fun w' hS=>?_) ?_
       ·go_simp
       simp only [zA,zB,zC,Act.put,zD,zE,zF]
       refine wpScript_take (.bool false) (by rfl) (by rfl) (fun w' hS=>?_) ?_
       ·go_simp
       simp only [zA,zB,zC,Act.put,zD,zE,zF]
       refine wpScript_take (.bool true) (by rfl) (by rfl) (fun w' hS=>?_) ?_
       ·go_simp
       simp only [zA,zB,zC,Act.put,zD,zE,zF]
       refine wpScript_take (.bool false) (by rfl) (by rfl) (fun w' hS=>?_) ?_
       ·go_simp
       simp only [zA,zB,zC,Act.put,zD,zE,zF]
       refine wpScript_take (.bool false) (by rfl) (by rfl) (fun w' hS=>?_) ?_
       ·go_simp
       simp only [zA,zB,zC,Act.put,zD,zE,zF]
       refine wpScript_take (.bool false) (by rfl) (by rfl) (fun w' hS=>?_) ?_
       ·go_simp
       simp only [zA,zB,zC,Act.put,zD,zE,zF]
       refine wpScript_take (.pointer (some ⟨p2,2,none⟩)) (by rfl) (by rfl) (fun w' hS=>?_) ?_
       ·go_simp
       simp only [zA,zB,zC,Act.put,zD,zE,zF]
       refine wpScript_take (.int .u8 177) (by rfl) (by rfl) (fun w' hS=>?_) ?_
       ·have f2:w'.cell? ⟨p2,2,none⟩=some (.int .u8 177):=hS.cell 2
        go_simp
       simp only [zA,zB,zC,Act.put,zD,zE,zF]
       refine wpScript_take (.bool false) (by rfl) (by rfl) (fun w' hS=>?_) ?_
       ·go_simp
       simp only [zA,zB,zC,Act.put,zD,zE,zF]
       refine wpScript_take (.bool false) (by rfl) (by rfl) (fun w' hS=>?_) ?_
       ·go_simp
       simp only [zA,zB,zC,Act.put,zD,zE,zF]
       refine wpScript_take (.bool false) (by rfl) (by rfl) (fun w' hS=>?_) ?_
       ·go_simp
       simp only [zA,zB,zC,Act.put,zD,zE,zF]
       refine wpScript_take (.pointer (some ⟨p2,0,none⟩)) (by rfl) (by rfl) (fun w' hS=>?_) ?_
       ·go_simp
       simp only [zA,zB,zC,Act.put,zD,zE,zF]
       refine wpScript_take (.int .u16 (gen:Int)) (by rfl) (by rfl) (fun w' hS=>?_) ?_
       ·have f2:w'.cell? ⟨p2,0,none⟩=some (.int .u16 (gen:Int)):=hS.cell 0
        go_simp
       simp only [zA,zB,zC,Act.put,zD,zE,zF]
       refine wpScript_take (.int .u64 (p:Int)) (by rfl) (by rfl) (fun w' hS=>?_) ?_
       ·go_simp
       simp only [zA,zB,zC,Act.put,zD,zE,zF]
       refine wpScript_do (by rfl) ?_
       go_wp2_with fail
       refine (HGn.out _).mono ?_
       rintro e w3 ⟨rfl,rfl⟩
       go_wp2_with fail
       refine ⟨HBB.out.drew,?_⟩
       show wpList _ _ _ _ _ _
       simp only [List.drop_succ_cons,List.drop_zero]
       go_wp2_with fail
       refine NoPanic.normal ?_
       go_wp2
       go_ret2
       exact ⟨by rw [HRR.out];rfl,HBX.out.drew⟩
     ·have d1:((st:Int) == 177)=false:=by rw [beq_eq_false_iff_ne];omega
      have d3:¬ ((st:Int)=177):=by omega
      rw [if_pos (.inl h177)] at HRR
      clear HBI h176 h177
      refine wp_region_script (fun w'=>Blk w' p2 401 #[.int .u16 (gen:Int), .int .u8 (kd:Int), .int .u8 (st:Int)]) 16 [(true,0),(true,1),(true,2),(true,3),(true,4),(true,5),(true,6),(true,7),(true,8),(true,9),(true,10),(true,11),(true,12),(true,13),(true,14),(true,15)] (by kernel_rfl) (by kernel_rfl) HBB.out.drew ?_
      refine wpScript_take (.bool true) (by rfl) (by rfl) (fun w' hS=>?_) ?_
      ·go_simp
      simp only [zA,zB,Act.put,zD,zE,zF]
      refine wpScript_take (.bool false) (by rfl) (by rfl) (fun w' hS=>?_) ?_
      ·go_simp
      simp only [zA,zB,zC,Act.put,zD,zE,zF]
      refine wpScript_take (.bool false) (by rfl) (by rfl) (fun w' hS=>?_) ?_
      ·go_simp
      simp only [zA,zB,zC,Act.put,zD,zE,zF]
      refine wpScript_take (.bool true) (by rfl) (by rfl) (fun w' hS=>?_) ?_
      ·go_simp
      simp only [zA,zB,zC,Act.put,zD,zE,zF]
      refine wpScript_take (.bool false) (by rfl) (by rfl) (fun w' hS=>?_) ?_
      ·go_simp
      simp only [zA,zB,zC,Act.put,zD,zE,zF]
      refine wpScript_take (.bool false) (by rfl) (by rfl) (fun w' hS=>?_) ?_
      ·go_simp
      simp only [zA,zB,zC,Act.put,zD,zE,zF]
      refine wpScript_take (.bool false) (by rfl) (by rfl) (fun w' hS=>?_) ?_
      ·go_simp
      simp only [zA,zB,zC,Act.put,zD,zE,zF]
      refine wpScript_take (.pointer (some ⟨p2,2,none⟩)) (by rfl) (by rfl) (fun w' hS=>?_) ?_
      ·go_simp
      simp only [zA,zB,zC,Act.put,zD,zE,zF]
      refine wpScript_take (.int .u8 (st:Int)) (by rfl) (by rfl) (fun w' hS=>?_) ?_
      ·have f2:w'.cell? ⟨p2,2,none⟩=some (.int .u8 (st:Int)):=hS.cell 2
       go_simp
      simp only [zA,zB,zC,Act.put,zD,zE,zF]
      refine wpScript_take (.bool true) (by rfl) (by rfl) (fun w' hS=>?_) ?_
      ·go_simp
      simp only [zA,zB,zC,Act.put,zD,zE,zF]
      refine wpScript_take (.bool true) (by rfl) (by rfl) (fun w' hS=>?_) ?_
      ·go_simp
      simp only [zA,zB,zC,Act.put,zD,zE,zF]
      refine wpScript_take (.bool true) (by rfl) (by rfl) (fun w' hS=>?_) ?_
      ·go_simp
      simp only [zA,zB,zC,Act.put,zD,zE,zF]
      refine wpScript_skip (by rfl) (by rfl) ?_
      simp only [zA,zB,zC,Act.put,zD,zE,zF]
      refine wpScript_skip (by rfl) (by rfl) ?_
      simp only [zA,zB,zC,Act.put,zD,zE,zF]
      refine wpScript_skip (by rfl) (by rfl) ?_
      simp only [zA,zB,zC,Act.put,zD,zE,zF]
      refine wpScript_skip (by rfl) (by rfl) ?_
      simp only [zA,zB,zC,Act.put,zD,zE,zF]
      show wpList _ _ _ _ _ _
      simp only [List.drop_succ_cons,List.drop_zero]
      go_wp2_with fail
      refine NoPanic.normal ?_
      go_wp2
      go_ret2
      exact ⟨by rw [HRR.out];rfl,HBX.out.drew⟩
   ·have q0:((p:Int) / 72057594037927936 == 0)=false:=by rw [beq_eq_false_iff_ne];omega
    rw [if_pos hpt] at HRR
    clear hpt HF HFF HFT
    go_wp2_with fail
    refine NoPanic.normal ?_
    go_wp2
    go_ret2
    exact ⟨by rw [HRR.out];rfl,HB1.out⟩
end
end
end Go.Proofs.YtfkjjoglnmeciaaGreatDoor
