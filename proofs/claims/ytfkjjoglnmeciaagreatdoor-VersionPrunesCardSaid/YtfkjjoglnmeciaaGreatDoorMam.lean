/- part 13 -/
import Derived.Test.YtfkjjoglnmeciaaGreatDoorMal
set_option maxRecDepth 100000
set_option maxHeartbeats 16000000
namespace Go.Proofs.YtfkjjoglnmeciaaGreatDoor
open Go.Lib (hid)
section
open Go.RowKit
def blkR (ln cl:Nat) (bs:Nat->BK) (p:Nat):Nat × Nat:=if p=0 then (0,1) else match fndC ln cl (pOff p) with
 | none=>(0,2)
 | some i=>if p / 72057594037927936≠0 then (0,2) else if (bs i).st≠177\/(bs i).gen≠pGen p then (0,12) else if (bs i).kind≠z1t p then (0,13) else (i,0)
section
variable {a:DA} {L T:Nat} {w:World} {S:Fp} {cur:Nat->Nat} {F:Nat}
theorem y8u (h:Dev a L T w S cur F) (ht:Tab w) (hp:Pay w) (ln cl g V p:Nat) (bs:Nat->BK) (hl:ln+32<=L) (hC:ChW cur ln cl g V bs) (_hp64:p < 18446744073709551616) :
  Calls Tryz.prog 196 #[chV a ln cl 0 g,.int .u64 p] w fun e w'=>e=.returned (.tuple #[.int .i64 ((blkR ln cl bs p).1:Int),.int .i64 ((blkR ln cl bs p).2:Int)])/\Blw w w':=by
 obtain ⟨_,_,_,_,_,Gx,_⟩:=id h;have hL:=Gx.hL;clear Gx;have Gw:Blw w (w.alloc (.cells (z0o a ln cl g) 306)):=(Below.refl _ _).alloc (nL _) _;have Gg:=hid Gw;have Gc:=hid (y1a p);have Gj:=hid (z4y p);have Gp:Hid (∀ W,Blw w W->Calls Tryz.prog 294 #[chV a ln cl 0 g,.int .u64 (pOff p:Int)] W fun e w'=>e=.returned (fndR ln cl (pOff p))/\Blw W w'):=hid (fun W hW=>x3b a ln cl g (pOff p) oM hC.cls (by unfold pOff;omega) W (hp.below hW));have Gn:Hid (∀ W,Blw w W->Calls Tryz.prog 112 #[.pointer (some ⟨a.th 0,0,none⟩)] W fun e w'=>e=.returned (.int .i64 0)/\W=w'):=hid (fun W hW=>z9l (h.below hW));have Gv:Hid (∀ i,i < perC cl->∀ W,Blw w W->Calls Tryz.prog 295 #[chV a ln cl 0 g,.int .i64 i] W fun e w'=>e=.returned (.tuple #[(bs i).v,.bool true,.bool (z1r V i)])/\Blw W w'):=hid (fun i hi W hW=>z9y (h.below hW) (ht.below hW) (hp.below hW) ln cl g V i (bs i) (hC.inn i hi) hl hC.cls hi hC.v64 hC.bits (hC.word i hi));have Gq:=hid (w5j p);have Gu:=hid (z9t p);have HK:=hid (Blk.new w 306 (z0o a ln cl g));have hm:=z1z (some ⟨a.th 0,0,none⟩);have HC:=hid hC;clear h ht hp Gw hC;unfold chV at *;unfold z0o memV at *;by_cases hp0:p=0
 ·have HR:Hid (blkR ln cl bs p=(0,1)):=hid (by unfold blkR;rw [if_pos hp0])
  rw [HR.out];rw [decide_eq_true hp0] at Gc;clear hp0;go_enter Tryz.func196,Tryz.ntmps196
  go_wp2_with (go_at_call 22;refine (Gc.out _).mono ?_;rintro e w1 ⟨rfl,rfl⟩)
  go_ret2;exact ⟨rfl,Gg.out⟩
 ·rw [decide_eq_false hp0] at Gc
  have Ga:Hid (blkR ln cl bs p=match fndC ln cl (pOff p) with
   | none=>(0,2)
   | some i=>if p / 72057594037927936≠0 then (0,2) else if (bs i).st≠177\/(bs i).gen≠pGen p then (0,12) else if (bs i).kind≠z1t p then (0,13) else (i,0)):=hid (by unfold blkR;rw [if_neg hp0])
  clear hp0;have Gt:Hid (∃ (k:Nat) (b:Bool),fndR ln cl (pOff p)=.tuple #[.int .i64 k,.bool b]/\(b=true->fndC ln cl (pOff p)=some k/\k < perC cl)/\(b=false->fndC ln cl (pOff p)=none)):=hid (by
   unfold fndR;generalize hf:fndC ln cl (pOff p)=o;cases o with
   | none=>exact ⟨0,false,rfl,(fun h=>absurd h (by decide)),fun _=>rfl⟩
   | some i=>exact ⟨i,true,rfl,fun _=>⟨rfl,(y6p hf).1⟩,(fun h=>absurd h (by decide))⟩)
  obtain ⟨fk,fb,Gz,G0,Gy⟩:=Gt.out;rw [Gz] at Gp;have Gm:=hid G0;have Gl:=hid Gy;clear Gz Gt G0 Gy;generalize pOff p=po at *;generalize blkR ln cl bs p=rr at *;go_enter Tryz.func196,Tryz.ntmps196
  go_wp2_with (go_at_call 22;refine (Gc.out _).mono ?_;rintro e w1 ⟨rfl,rfl⟩)
  refine z0k (fun w'=>Blw w w'/\Blk w' w.heap.size 306 #[.iface 58 (.pointer (some ⟨a.th 0,0,none⟩)),.int .i64 ln,.int .i64 cl,.int .i64 0,.int .u16 g]) 8 [(true,0),(true,1),(false,2),(false,3),(true,4),(true,5),(true,6),(true,7)] (by kernel_rfl) (by kernel_rfl) ⟨Gg.out.drew,HK.out.drew⟩ ?_;refine tkS (.agg #[.iface 58 (.pointer (some ⟨a.th 0,0,none⟩)),.int .i64 ln,.int .i64 cl,.int .i64 0,.int .u16 g]) (fun w' hS=>?_) ?_
  ·have hk:=hS.2
   have f0:w'.cell? ⟨w.heap.size,0,none⟩=some (.iface 58 (.pointer (some ⟨a.th 0,0,none⟩))):=hk.cell 0;have f1:w'.cell? ⟨w.heap.size,1,none⟩=some (.int .i64 ln):=hk.cell 1;have f2:w'.cell? ⟨w.heap.size,2,none⟩=some (.int .i64 cl):=hk.cell 2;have f3:w'.cell? ⟨w.heap.size,3,none⟩=some (.int .i64 0):=hk.cell 3;have f4:w'.cell? ⟨w.heap.size,4,none⟩=some (.int .u16 g):=hk.cell 4;go_simp
  refine tkS (.int .u64 p) (fun w' hS=>?_) ?_
  ·go_simp
  refine z0l (by rfl) ?_;go_wp2_with fail
  refine (Gj.out _).mono ?_;rintro e w1 ⟨rfl,rfl⟩;go_wp2_with fail
  refine ⟨⟨Gg.out.drew,HK.out.drew⟩,?_⟩;refine z0l (by rfl) ?_;go_wp2_with fail
  refine (Gp.out _ Gg.out.drew).mono ?_;rintro e w1 ⟨rfl,Gr⟩;have Ge:=hid (Gg.out.drew.trans (Gr.mono Gg.out.drew.size));have Gd:=hid (HK.out.drew.below Gr HK.out.drew.lt);clear Gr Gp Gj Gc Gg HK;go_wp2_with fail
  refine ⟨⟨Ge.out,Gd.out⟩,?_⟩;refine tkS (.tuple #[.int .i64 fk,.bool fb]) (fun w' hS=>?_) ?_
  ·go_simp
  refine tkS (.int .i64 fk) (fun w' hS=>?_) ?_
  ·go_simp
  refine tkS (.bool fb) (fun w' hS=>?_) ?_
  ·go_simp
  refine tkS (.int .i64 fk) (fun w' hS=>?_) ?_
  ·go_simp
  show wpList _ _ _ _ _ _;simp only [List.drop_succ_cons,List.drop_zero];have f0:w1.cell? ⟨w.heap.size,0,none⟩=some (.iface 58 (.pointer (some ⟨a.th 0,0,none⟩))):=Gd.out.cell 0;have f1:w1.cell? ⟨w.heap.size,1,none⟩=some (.int .i64 ln):=Gd.out.cell 1;have f2:w1.cell? ⟨w.heap.size,2,none⟩=some (.int .i64 cl):=Gd.out.cell 2;have f3:w1.cell? ⟨w.heap.size,3,none⟩=some (.int .i64 0):=Gd.out.cell 3;have f4:w1.cell? ⟨w.heap.size,4,none⟩=some (.int .u16 g):=Gd.out.cell 4;cases fb
  ·have HF:=hid (Gl.out rfl)
   rw [HF.out] at Ga;clear HF Gl Gm;go_wp2_with fail
   refine NoPanic.normal ?_;go_wp2;go_ret2;exact ⟨by rw [Ga.out];rfl,Ge.out⟩
  ·have HF:=hid (Gm.out rfl)
   rw [HF.out.1] at Ga;dsimp only at Ga;obtain ⟨Gs⟩:PLift (fk < perC cl):=⟨HF.out.2⟩
   by_cases hpt:p / 72057594037927936=0
   ·have q0:((p:Int) / 72057594037927936 == 0)=true:=by rw [beq_iff_eq];omega
    have q1:(p:Int) / 72057594037927936=0:=oM;rw [if_neg (fun hh=>hh hpt)] at Ga;clear hpt HF Gl Gm;go_wp2_with fail
    refine NoPanic.normal ?_;go_wp2_with (go_at_call 112;refine (Gn.out _ Ge.out).mono ?_;rintro e w2 ⟨rfl,rfl⟩)
    refine (Gv.out fk Gs _ Ge.out).mono ?_;rintro e w2 ⟨rfl,Gf⟩;obtain ⟨Gk⟩:PLift (z1r V fk=decide ((bs fk).st≠176)):=⟨HC.out.bit fk Gs⟩
    have G2:=HC.out.inn fk Gs;obtain ⟨G6,G7,G8⟩:=G2;generalize z1r V fk=bt at *;have Gh:=hid Gk;clear Gk;unfold BK.v at *;generalize bs fk=b at *;obtain ⟨gen,kd,st⟩:=b;dsimp only at *;have G1:w2.cell? ⟨w.heap.size,0,none⟩=some (.iface 58 (.pointer (some ⟨a.th 0,0,none⟩))):=(Gd.out.below Gf Gd.out.lt).cell 0;have G3:=Gd.out.lt;have G4:=Gf.size;have G5:w.heap.size < w2.heap.size:=oM;have Gi:=hid ((Ge.out.trans (Gf.mono Ge.out.size)).alloc (Nat.le_trans Ge.out.size Gf.size) (.cells #[.int .u16 gen,.int .u8 kd,.int .u8 st] 401));have Gb:=hid (Blk.new w2 401 #[.int .u16 gen,.int .u8 kd,.int .u8 st]);clear Gf G3 G4 Gv HC Gd f0 f1 f2 f3 f4 q0 q1;go_wp2_with (go_at_call 112;refine (Gn.out _ Gi.out).mono ?_;rintro e w3 ⟨rfl,rfl⟩)
    generalize w2.alloc (.cells #[.int .u16 gen,.int .u8 kd,.int .u8 st] 401)=W at *;generalize w2.heap.size=p2 at *;have c0:W.cell? ⟨p2,0,none⟩=some (.int .u16 gen):=Gb.out.cell 0;have c1:W.cell? ⟨p2,1,none⟩=some (.int .u8 kd):=Gb.out.cell 1;have c2:W.cell? ⟨p2,2,none⟩=some (.int .u8 st):=Gb.out.cell 2;clear G1 G5 Gn Ge;by_cases h176:st=176
    ·have Gf:bt=false:=by rw [Gh.out,decide_eq_false (fun hh=>hh h176)]
     subst Gf;rw [if_pos (.inl oM)] at Ga;clear Gh h176;refine z0k (fun w'=>Blk w' p2 401 #[.int .u16 gen,.int .u8 kd,.int .u8 st]) 16 [(true,0),(true,1),(true,2),(true,3),(true,4),(true,5),(true,6),(true,7),(true,8),(true,9),(true,10),(true,11),(true,12),(true,13),(true,14),(true,15)] (by kernel_rfl) (by kernel_rfl) Gb.out.drew ?_;refine tkS (.bool true) (fun w' hS=>?_) ?_
     ·go_simp
     refine tkS (.bool false) (fun w' hS=>?_) ?_
     ·go_simp
     refine tkS (.bool false) (fun w' hS=>?_) ?_
     ·go_simp
     refine tkS (.bool false) (fun w' hS=>?_) ?_
     ·go_simp
     refine tkS (.bool true) (fun w' hS=>?_) ?_
     ·go_simp
     refine tkS (.bool true) (fun w' hS=>?_) ?_
     ·go_simp
     refine tkS (.bool true) (fun w' hS=>?_) ?_
     ·go_simp
     refine z0n (by rfl) (by rfl) ?_;simp only [zA,zB,zC,Act.put,zD,zE,zF];refine z0n (by rfl) (by rfl) ?_;simp only [zA,zB,zC,Act.put,zD,zE,zF];refine z0n (by rfl) (by rfl) ?_;simp only [zA,zB,zC,Act.put,zD,zE,zF];refine tkS (.bool true) (fun w' hS=>?_) ?_
     ·go_simp
     refine tkS (.bool true) (fun w' hS=>?_) ?_
     ·go_simp
     refine z0n (by rfl) (by rfl) ?_;simp only [zA,zB,zC,Act.put,zD,zE,zF];refine z0n (by rfl) (by rfl) ?_;simp only [zA,zB,zC,Act.put,zD,zE,zF];refine z0n (by rfl) (by rfl) ?_;simp only [zA,zB,zC,Act.put,zD,zE,zF];refine z0n (by rfl) (by rfl) ?_;simp only [zA,zB,zC,Act.put,zD,zE,zF];show wpList _ _ _ _ _ _;simp only [List.drop_succ_cons,List.drop_zero];go_wp2_with fail
     refine NoPanic.normal ?_;go_wp2;go_ret2;exact ⟨by rw [Ga.out];rfl,Gi.out.drew⟩
    ·have Gf:bt=true:=by rw [Gh.out,decide_eq_true h176]
     subst Gf;by_cases h177:st=177
     ·subst h177
      by_cases hgen:gen=pGen p
      ·have d1:((gen:Int) == (pGen p:Int))=true:=by rw [beq_iff_eq];omega
       have d2:((gen:Int) != (pGen p:Int))=false:=by simp only [bne,d1,Bool.not_true]
       rw [if_neg oM] at Ga;clear Gh h176 hgen;by_cases hkd:kd=z1t p
       ·have e1:((kd:Int) == (z1t p:Int))=true:=by rw [beq_iff_eq];omega
        rw [if_neg (fun hh=>hh hkd)] at Ga;clear hkd;generalize pGen p=pg at *;generalize z1t p=pk at *;refine z0k (fun w'=>Blk w' p2 401 #[.int .u16 gen,.int .u8 kd,.int .u8 ((177:Nat):Int)]) 16 [(true,0),(true,1),(true,2),(true,3),(true,4),(true,5),(true,6),(true,7),(true,8),(true,9),(true,10),(true,11),(true,12),(true,13),(true,14),(false,15)] (by kernel_rfl) (by kernel_rfl) Gb.out.drew ?_;refine tkS (.bool true) (fun w' hS=>?_) ?_
        ·go_simp
        refine tkS (.bool false) (fun w' hS=>?_) ?_
        ·go_simp
        refine tkS (.bool false) (fun w' hS=>?_) ?_
        ·go_simp
        refine tkS (.bool true) (fun w' hS=>?_) ?_
        ·go_simp
        refine tkS (.bool false) (fun w' hS=>?_) ?_
        ·go_simp
        refine tkS (.bool false) (fun w' hS=>?_) ?_
        ·go_simp
        refine tkS (.bool false) (fun w' hS=>?_) ?_
        ·go_simp
        refine tkS (.pointer (some ⟨p2,2,none⟩)) (fun w' hS=>?_) ?_
        ·go_simp
        refine tkS (.int .u8 177) (fun w' hS=>?_) ?_
        ·have f2:w'.cell? ⟨p2,2,none⟩=some (.int .u8 177):=hS.cell 2
         go_simp
        refine tkS (.bool false) (fun w' hS=>?_) ?_
        ·go_simp
        refine tkS (.bool false) (fun w' hS=>?_) ?_
        ·go_simp
        refine tkS (.bool false) (fun w' hS=>?_) ?_
        ·go_simp
        refine tkS (.pointer (some ⟨p2,0,none⟩)) (fun w' hS=>?_) ?_
        ·go_simp
        refine tkS (.int .u16 gen) (fun w' hS=>?_) ?_
        ·have f2:w'.cell? ⟨p2,0,none⟩=some (.int .u16 gen):=hS.cell 0
         go_simp
        refine tkS (.int .u64 p) (fun w' hS=>?_) ?_
        ·go_simp
        refine z0l (by rfl) ?_;go_wp2_with fail
        refine (Gq.out _).mono ?_;rintro e w3 ⟨rfl,rfl⟩;go_wp2_with fail
        refine ⟨Gb.out.drew,?_⟩;show wpList _ _ _ _ _ _;simp only [List.drop_succ_cons,List.drop_zero];go_wp2_with fail
        refine NoPanic.normal ?_;go_wp2_with fail
        go_region_with (go_at_call 150;refine (Gu.out _).mono ?_;rintro e w3 ⟨rfl,rfl⟩)
        all_goals
         go_wp2;go_ret2;exact ⟨by rw [Ga.out];rfl,Gi.out.drew.drew⟩
       ·have e1:((kd:Int) == (z1t p:Int))=false:=by rw [beq_eq_false_iff_ne];omega
        rw [if_pos hkd] at Ga;clear hkd;generalize pGen p=pg at *;generalize z1t p=pk at *;refine z0k (fun w'=>Blk w' p2 401 #[.int .u16 gen,.int .u8 kd,.int .u8 ((177:Nat):Int)]) 16 [(true,0),(true,1),(true,2),(true,3),(true,4),(true,5),(true,6),(true,7),(true,8),(true,9),(true,10),(true,11),(true,12),(true,13),(true,14),(false,15)] (by kernel_rfl) (by kernel_rfl) Gb.out.drew ?_;refine tkS (.bool true) (fun w' hS=>?_) ?_
        ·go_simp
        refine tkS (.bool false) (fun w' hS=>?_) ?_
        ·go_simp
        refine tkS (.bool false) (fun w' hS=>?_) ?_
        ·go_simp
        refine tkS (.bool true) (fun w' hS=>?_) ?_
        ·go_simp
        refine tkS (.bool false) (fun w' hS=>?_) ?_
        ·go_simp
        refine tkS (.bool false) (fun w' hS=>?_) ?_
        ·go_simp
        refine tkS (.bool false) (fun w' hS=>?_) ?_
        ·go_simp
        refine tkS (.pointer (some ⟨p2,2,none⟩)) (fun w' hS=>?_) ?_
        ·go_simp
        refine tkS (.int .u8 177) (fun w' hS=>?_) ?_
        ·have f2:w'.cell? ⟨p2,2,none⟩=some (.int .u8 177):=hS.cell 2
         go_simp
        refine tkS (.bool false) (fun w' hS=>?_) ?_
        ·go_simp
        refine tkS (.bool false) (fun w' hS=>?_) ?_
        ·go_simp
        refine tkS (.bool false) (fun w' hS=>?_) ?_
        ·go_simp
        refine tkS (.pointer (some ⟨p2,0,none⟩)) (fun w' hS=>?_) ?_
        ·go_simp
        refine tkS (.int .u16 gen) (fun w' hS=>?_) ?_
        ·have f2:w'.cell? ⟨p2,0,none⟩=some (.int .u16 gen):=hS.cell 0
         go_simp
        refine tkS (.int .u64 p) (fun w' hS=>?_) ?_
        ·go_simp
        refine z0l (by rfl) ?_;go_wp2_with fail
        refine (Gq.out _).mono ?_;rintro e w3 ⟨rfl,rfl⟩;go_wp2_with fail
        refine ⟨Gb.out.drew,?_⟩;show wpList _ _ _ _ _ _;simp only [List.drop_succ_cons,List.drop_zero];go_wp2_with fail
        refine NoPanic.normal ?_;go_wp2_with fail
        go_region_with (go_at_call 150;refine (Gu.out _).mono ?_;rintro e w3 ⟨rfl,rfl⟩)
        all_goals
         go_wp2;go_ret2;exact ⟨by rw [Ga.out];rfl,Gi.out.drew.drew⟩
      ·have d1:((gen:Int) == (pGen p:Int))=false:=by rw [beq_eq_false_iff_ne];omega
       rw [if_pos (.inr hgen)] at Ga;clear Gh h176 hgen;generalize pGen p=pg at *;refine z0k (fun w'=>Blk w' p2 401 #[.int .u16 gen,.int .u8 kd,.int .u8 ((177:Nat):Int)]) 16 [(true,0),(true,1),(true,2),(true,3),(true,4),(true,5),(true,6),(true,7),(true,8),(true,9),(true,10),(true,11),(true,12),(true,13),(true,14),(false,15)] (by kernel_rfl) (by kernel_rfl) Gb.out.drew ?_;refine tkS (.bool true) (fun w' hS=>?_) ?_
       ·go_simp
       refine tkS (.bool false) (fun w' hS=>?_) ?_
       ·go_simp
       refine tkS (.bool false) (fun w' hS=>?_) ?_
       ·go_simp
       refine tkS (.bool true) (fun w' hS=>?_) ?_
       ·go_simp
       refine tkS (.bool false) (fun w' hS=>?_) ?_
       ·go_simp
       refine tkS (.bool false) (fun w' hS=>?_) ?_
       ·go_simp
       refine tkS (.bool false) (fun w' hS=>?_) ?_
       ·go_simp
       refine tkS (.pointer (some ⟨p2,2,none⟩)) (fun w' hS=>?_) ?_
       ·go_simp
       refine tkS (.int .u8 177) (fun w' hS=>?_) ?_
       ·have f2:w'.cell? ⟨p2,2,none⟩=some (.int .u8 177):=hS.cell 2
        go_simp
       refine tkS (.bool false) (fun w' hS=>?_) ?_
       ·go_simp
       refine tkS (.bool false) (fun w' hS=>?_) ?_
       ·go_simp
       refine tkS (.bool false) (fun w' hS=>?_) ?_
       ·go_simp
       refine tkS (.pointer (some ⟨p2,0,none⟩)) (fun w' hS=>?_) ?_
       ·go_simp
       refine tkS (.int .u16 gen) (fun w' hS=>?_) ?_
       ·have f2:w'.cell? ⟨p2,0,none⟩=some (.int .u16 gen):=hS.cell 0
        go_simp
       refine tkS (.int .u64 p) (fun w' hS=>?_) ?_
       ·go_simp
       refine z0l (by rfl) ?_;go_wp2_with fail
       refine (Gq.out _).mono ?_;rintro e w3 ⟨rfl,rfl⟩;go_wp2_with fail
       refine ⟨Gb.out.drew,?_⟩;show wpList _ _ _ _ _ _;simp only [List.drop_succ_cons,List.drop_zero];go_wp2_with fail
       refine NoPanic.normal ?_;go_wp2;go_ret2;exact ⟨by rw [Ga.out];rfl,Gi.out.drew⟩
     ·have d1:((st:Int) == 177)=false:=by rw [beq_eq_false_iff_ne];omega
      have d3:¬ ((st:Int)=177):=oM;rw [if_pos (.inl h177)] at Ga;clear Gh h176 h177;refine z0k (fun w'=>Blk w' p2 401 #[.int .u16 gen,.int .u8 kd,.int .u8 st]) 16 [(true,0),(true,1),(true,2),(true,3),(true,4),(true,5),(true,6),(true,7),(true,8),(true,9),(true,10),(true,11),(true,12),(true,13),(true,14),(true,15)] (by kernel_rfl) (by kernel_rfl) Gb.out.drew ?_;refine tkS (.bool true) (fun w' hS=>?_) ?_
      ·go_simp
      refine tkS (.bool false) (fun w' hS=>?_) ?_
      ·go_simp
      refine tkS (.bool false) (fun w' hS=>?_) ?_
      ·go_simp
      refine tkS (.bool true) (fun w' hS=>?_) ?_
      ·go_simp
      refine tkS (.bool false) (fun w' hS=>?_) ?_
      ·go_simp
      refine tkS (.bool false) (fun w' hS=>?_) ?_
      ·go_simp
      refine tkS (.bool false) (fun w' hS=>?_) ?_
      ·go_simp
      refine tkS (.pointer (some ⟨p2,2,none⟩)) (fun w' hS=>?_) ?_
      ·go_simp
      refine tkS (.int .u8 st) (fun w' hS=>?_) ?_
      ·have f2:w'.cell? ⟨p2,2,none⟩=some (.int .u8 st):=hS.cell 2
       go_simp
      refine tkS (.bool true) (fun w' hS=>?_) ?_
      ·go_simp
      refine tkS (.bool true) (fun w' hS=>?_) ?_
      ·go_simp
      refine tkS (.bool true) (fun w' hS=>?_) ?_
      ·go_simp
      refine z0n (by rfl) (by rfl) ?_;simp only [zA,zB,zC,Act.put,zD,zE,zF];refine z0n (by rfl) (by rfl) ?_;simp only [zA,zB,zC,Act.put,zD,zE,zF];refine z0n (by rfl) (by rfl) ?_;simp only [zA,zB,zC,Act.put,zD,zE,zF];refine z0n (by rfl) (by rfl) ?_;simp only [zA,zB,zC,Act.put,zD,zE,zF];show wpList _ _ _ _ _ _;simp only [List.drop_succ_cons,List.drop_zero];go_wp2_with fail
      refine NoPanic.normal ?_;go_wp2;go_ret2;exact ⟨by rw [Ga.out];rfl,Gi.out.drew⟩
   ·have q0:((p:Int) / 72057594037927936 == 0)=false:=by rw [beq_eq_false_iff_ne];omega
    rw [if_pos hpt] at Ga;clear hpt HF Gl Gm;go_wp2_with fail
    refine NoPanic.normal ?_;go_wp2;go_ret2;exact ⟨by rw [Ga.out];rfl,Ge.out⟩
end
end
section
open Go.RowKit
theorem y1j {w:World} {B n b off:Nat} {l:List Nat} (h:z0c w B 1 (some ⟨b,off,none⟩) n (z0a l)) {k m:Nat} (hk:k<=m) (hm:m<=n) (hn:0 < n):z0c w B 1 (some ⟨b,off+k,none⟩) (m - k) (z0a ((l.take m).drop k)):=by
 have hl:l.length=n:=by have:=h.1;simp [z0a] at this;omega
 refine ⟨by simp [z0a];omega,fun _=>⟨_,rfl,?_,fun j u hu=>?_⟩⟩
 ·obtain ⟨ad,e,hb,_⟩:=h.2 hn
  injection e with e
  subst e;exact hb
 ·simp only [z0a,List.getElem?_map,List.getElem?_drop,Option.map_eq_some_iff] at hu
  obtain ⟨z,hz,rfl⟩:=hu;have Ga:k+j < m:=by
   have:=(List.getElem?_eq_some_iff.1 hz).1;simp at this;omega
  rw [List.getElem?_take_of_lt Ga] at hz;obtain ⟨Gd,e2⟩:=List.getElem?_eq_some_iff.1 hz;obtain ⟨Gc,b2,Gb,hA,_,f0⟩:=z2b h (k:=k+j) oM;injection hA with hA
  injection hA with h1 h2
  subst h1 h2;have e:(⟨b,off+k,none⟩:Addr).add j=⟨b,off+(k+j),none⟩:=by
   unfold Addr.add;split
   ·rename_i h;subst h;rfl
   ·rw [Nat.add_assoc]
  rw [e,f0,e2]
def z6o (rest:Nat):Nat:=2+(min rest 456+7) / 8
def z4j (l:List Nat) (rest:Nat):Nat:=if l.getD (l.length - 1) 0≠sumW (l.take (l.length - 1)) then 10 else if decide (456 < rest)≠decide (l.getD 0 0≠0) then 11 else if ((l.take (l.length - 1)).drop (z6o rest)).any (fun x=>decide (x≠0))=true then 11 else if z4o ((l.take (z6o rest)).drop 2) (min rest 456)=true then 11 else 0
def z5n (l:List Nat) (rest:Nat):List Nat:=unpB ((l.take (z6o rest)).drop 2) (min rest 456)
theorem x1v (next:Nat) (p:List Nat):(payL next p).getD ((payL next p).length - 1) 0=sumW ((payL next p).take ((payL next p).length - 1))/\(payL next p).take ((payL next p).length - 1)=payB next p:=by
 have h1:(payL next p).length - 1=(payB next p).length:=by unfold payL;simp
 rw [h1];unfold payL;rw [List.take_left,List.getD_eq_getElem?_getD,List.getElem?_append_right (nL _)];simp
theorem y1c (next:Nat) (p:List Nat):(payL next p).getD 0 0=next/\(payL next p).getD 1 0=p.length * 4294967297:=by
 unfold payL payB;exact ⟨rfl,rfl⟩
theorem y7q (next:Nat) (p:List Nat):((payL next p).take (z6o p.length)).drop 2=z2a (p.take 456):=by
 have hl:(z2a (p.take 456)).length=(min p.length 456+7) / 8:=by rw [z3x,List.length_take,Nat.min_comm]
 have e:payL next p=([next,p.length * 4294967297]++z2a (p.take 456))++(List.replicate (z1c p.length - 3 - (z2a (p.take 456)).length) 0++[sumW (payB next p)]):=by
  unfold payL;conv=>lhs;arg 1;unfold payB
  simp only [List.append_assoc]
 have h2:z6o p.length=([next,p.length * 4294967297]++z2a (p.take 456)).length:=by unfold z6o;rw [List.length_append,hl];simp
 rw [e,h2,List.take_left];rfl
theorem x8i (next:Nat) (p:List Nat):(((payL next p).take ((payL next p).length - 1)).drop (z6o p.length)).any (fun x=>decide (x≠0))=false:=by
 rw [(x1v next p).2];have hl:(z2a (p.take 456)).length=(min p.length 456+7) / 8:=by rw [z3x,List.length_take,Nat.min_comm]
 have h2:z6o p.length=([next,p.length * 4294967297]++z2a (p.take 456)).length:=by unfold z6o;rw [List.length_append,hl];simp
 have e:payB next p=([next,p.length * 4294967297]++z2a (p.take 456))++List.replicate (z1c p.length - 3 - (z2a (p.take 456)).length) 0:=rfl;rw [e,h2,List.drop_left];simp
theorem x8g {next:Nat} {p:List Nat} (hp:∀ b∈p,b < 256) (hn:456 < p.length↔next≠0):z4j (payL next p) p.length=0:=by
 have hl:(p.take 456).length=min p.length 456:=by rw [List.length_take,Nat.min_comm]
 unfold z4j;rw [if_neg (fun h=>h (x1v next p).1),(y1c next p).1,if_neg (fun h=>h (decide_eq_decide.2 hn)),x8i,y7q,if_neg (by simp),<- hl,x0m (fun b hb=>hp b (List.mem_of_mem_take hb))];rfl
theorem x8f {next:Nat} {p:List Nat} (hp:∀ b∈p,b < 256):z5n (payL next p) p.length=p.take 456:=by
 have hl:(p.take 456).length=min p.length 456:=by rw [List.length_take,Nat.min_comm]
 unfold z5n;rw [y7q,<- hl,x9k (fun b hb=>hp b (List.mem_of_mem_take hb))]
def z4g (L:Nat) (cur:Nat->Nat) (p:Nat):Option (List Nat × Nat) :=
 if 64 * L < pOff p+16 then none else
 if cur (pOff p / 8+1) % 4294967296≠cur (pOff p / 8+1) / 4294967296\/2000 < cur (pOff p / 8+1) % 4294967296 then none else
 if 64 * L < pOff p+8 * z1c (cur (pOff p / 8+1) % 4294967296) then none else
 some ((List.range (z1c (cur (pOff p / 8+1) % 4294967296))).map fun j=>cur (pOff p / 8+j),cur (pOff p / 8+1) % 4294967296)
def z2t (cur:Nat->Nat) (p:Nat) (l:List Nat):Prop:=∀ j,j < l.length->cur (pOff p / 8+j)=l.getD j 0
theorem x7p {L:Nat} {cur:Nat->Nat} {q next:Nat} {p:List Nat} (h:z2t cur q (payL next p)) (hl:p.length<=2000) (hL:pOff q+8 * z1c p.length<=64 * L):z4g L cur q=some (payL next p,p.length):=by
 obtain ⟨h3,Ga⟩:=z4q p.length;have e1:cur (pOff q / 8+1)=p.length * 4294967297:=by rw [h 1 (by rw [z3n];omega),(y1c next p).2]
 have m1:cur (pOff q / 8+1) % 4294967296=p.length:=by rw [e1];omega
 have m2:cur (pOff q / 8+1) / 4294967296=p.length:=by rw [e1];omega
 unfold z4g;rw [m1,m2,if_neg oM,if_neg oM,if_neg oM];congr 2
 apply List.ext_getElem
 ·rw [List.length_map,List.length_range,z3n]
 ·intro j h1 h2
  rw [List.getElem_map,List.getElem_range,h j h2,List.getD_eq_getElem?_getD,List.getElem?_eq_getElem h2];rfl
theorem x7o {L:Nat} {cur:Nat->Nat} {q rest:Nat} {l:List Nat} (h:z4g L cur q=some (l,rest)):l.length=z1c rest/\rest<=2000/\pOff q+8 * z1c rest<=64 * L/\∀ j (hj:j < l.length),l[j]=cur (pOff q / 8+j):=by
 unfold z4g at h;split at h
 ·cases h
 ·split at h
  ·cases h
  ·split at h
   ·cases h
   ·injection h with h
    injection h with h1 h2
    subst h1 h2;refine ⟨by simp,oM,oM,fun j hj=>by simp⟩
def z7y (L:Nat) (cur:Nat->Nat) (chk:Nat->Nat):Nat->Nat->Int->List Nat->List Nat->Nat × List Nat × List Nat
 | 0,_,_,_,_=>(11,[],[])
 | k+1,p,want,bs,by_=>match z4g L cur p with
  | none=>(11,[],[])
  | some (l,rest)=>if 0<=want/\(rest:Int)≠want then (11,[],[]) else
   if z4j l rest≠0 then (z4j l rest,[],[]) else
   if rest<=456 then (0,bs++[p],by_++z5n l rest) else
   if chk (l.getD 0 0)≠0 then (11,[],[]) else z7y L cur chk k (l.getD 0 0) ((rest:Int) - 456) (bs++[p]) (by_++z5n l rest)
def y5p (L:Nat) (cur:Nat->Nat) (chk:Nat->Nat):List Nat->List Nat->Prop
 | [],_=>False
 | q :: t,p=>z2t cur q (payL (t.headD 0) p)/\p.length<=2000/\pOff q+8 * z1c p.length<=64 * L/\(456 < p.length↔t≠[])/\q≠0/\q < 18446744073709551616/\chk q=0/\(t≠[]->y5p L cur chk t (p.drop 456))
theorem y5p.nz {L:Nat} {cur:Nat->Nat} {chk:Nat->Nat} {q:Nat} {t p:List Nat} (h:y5p L cur chk (q :: t) p):(456 < p.length↔t.headD 0≠0):=by
 obtain ⟨_,_,_,h4,_,_,_,h8⟩:=h;cases t with
 | nil=>simpa using h4
 | cons r t =>
  obtain ⟨_,_,_,_,h5,_⟩:=h8 (by simp);simp at h4 ⊢;exact ⟨fun _=>h5,fun _=>h4⟩
theorem x5d {L:Nat} {cur:Nat->Nat} {chk:Nat->Nat} (k:Nat):∀ (q:Nat) (t p bs by_:List Nat) (want:Int),y5p L cur chk (q :: t) p->(∀ b∈p,b < 256)->(want < 0\/want=p.length)->p.length<=456 * k->0 < k->z7y L cur chk k q want bs by_=(0,bs++q :: t,by_++p):=by
 induction k with
 | zero=>intro q t p bs by_ want _ _ _ _ h;exact absurd h (Nat.lt_irrefl 0)
 | succ k ih =>
  intro q t p bs by_ want h hp hw hk _;have Ga:=h.nz;obtain ⟨h1,h2,h3,h4,h5,h6,h7,h8⟩:=h;unfold z7y;rw [x7p h1 h2 h3];show (if 0<=want/\((p.length:Nat):Int)≠want then _ else _)=_;rw [if_neg oM,x8g hp Ga,if_neg oM,x8f hp,(y1c _ p).1];by_cases hr:p.length<=456
  ·rw [if_pos hr]
   have ht:t=[]:=by
    cases t with
    | nil=>rfl
    | cons r t=>exact absurd (h4.2 (by simp)) oM
   rw [ht,List.take_of_length_le hr]
  ·rw [if_neg hr]
   cases t with
   | nil=>exact absurd rfl (h4.1 oM)
   | cons r t =>
    have hc:=h8 (by simp);have Gb:chk r=0:=hc.2.2.2.2.2.2.1;show (if chk r≠0 then _ else _)=_;rw [if_neg oM];show z7y L cur chk k r _ _ _=_;rw [ih r t (p.drop 456) _ _ _ hc (fun b hb=>hp b (List.mem_of_mem_drop hb)) (.inr (by rw [List.length_drop];omega)) (by rw [List.length_drop];omega) oM];simp only [List.append_assoc,List.cons_append,List.nil_append,List.take_append_drop]
def nBlk (n:Nat):Nat:=if n<=456 then 1 else (n - 1) / 456+1
def pwW (o:Nat) (l:List Nat):List (Nat × Nat):=(List.range l.length).map fun j=>(o+8 * j,l.getD j 0)
theorem y1g {o:Nat} {l:List Nat} {e:Nat × Nat} (h:e∈pwW o l):∃ j,j < l.length/\e=(o+8 * j,l.getD j 0):=by
 obtain ⟨j,hj,rfl⟩:=List.mem_map.1 h;exact ⟨j,List.mem_range.1 hj,rfl⟩
theorem y1f (o:Nat) (l:List Nat):(pwW o l).length=l.length:=by simp [pwW]
theorem z7t {c i j:Nat} (h:offB c i=offB c j):i=j:=by
 rcases Nat.lt_trichotomy i j with h1 | h1 | h1
 ·have:=y4u (c:=c) h1;omega
 ·exact h1
 ·have:=y4u (c:=c) h1;omega
theorem z2h (c i:Nat):8<=offB c i:=by unfold offB;omega
def fmtB (ln cl g k:Nat):List (Nat × Nat):=(List.range k).map fun i=>(64 * ln+8 * offB cl i,BK.w ⟨g,0,176⟩)
def fmtZ (ln k:Nat):List (Nat × Nat):=(List.range k).map fun j=>(64 * ln+8 * (j+1),0)
def fmtW (ln cl g:Nat):List (Nat × Nat):=fmtB ln cl g (perC cl)++fmtZ ln 7
theorem x6v (ln cl g k:Nat):fmtB ln cl g (k+1)=fmtB ln cl g k++[(64 * ln+8 * offB cl k,BK.w ⟨g,0,176⟩)]:=by simp [fmtB,List.range_succ]
theorem x6w (ln k:Nat):fmtZ ln (k+1)=fmtZ ln k++[(64 * ln+8 * (k+1),0)]:=by simp [fmtZ,List.range_succ]
theorem x1b {ln cl g k:Nat} {e:Nat × Nat} (h:e∈fmtB ln cl g k):∃ i,i < k/\e=(64 * ln+8 * offB cl i,BK.w ⟨g,0,176⟩):=by
 unfold fmtB at h;obtain ⟨i,hi,rfl⟩:=List.mem_map.1 h;exact ⟨i,List.mem_range.1 hi,rfl⟩
theorem x1d {ln k:Nat} {e:Nat × Nat} (h:e∈fmtZ ln k):∃ j,j < k/\e=(64 * ln+8 * (j+1),0):=by
 unfold fmtZ at h;obtain ⟨i,hi,rfl⟩:=List.mem_map.1 h;exact ⟨i,List.mem_range.1 hi,rfl⟩
theorem y8a {x:Nat} (hx:x < 4294967296):z4m x < 18446744073709551616:=by
 have h:=Crc.sum_lt (z9z x);unfold z4m;omega
theorem BK.w_lt {b:BK} (h:b.In):b.w < 18446744073709551616:=y8a h.x
theorem x7f {cl g:Nat} (hc:cl < 5) (hg:g < 65536):hdrW cl g < 18446744073709551616:=y8a (by unfold hdX;omega)
theorem x1c (ln cl g:Nat):(fmtW ln cl g).length=perC cl+7:=by simp [fmtW,fmtB,fmtZ]
theorem z7l {ln cl g:Nat} (hc:cl < 5) (hg:g < 65536) {e:Nat × Nat} (h:e∈fmtW ln cl g):e.1 % 8=0/\64 * ln < e.1/\e.1 < 64 * ln+2048/\e.2 < 18446744073709551616:=by
 unfold fmtW at h;rcases List.mem_append.1 h with h | h
 ·obtain ⟨i,hi,rfl⟩:=x1b h
  have h1:=off_lt hi;have h2:=z2h cl i;have h3:=z5k cl;exact ⟨oM,oM,oM,BK.w_lt ⟨hg,by show (0:Nat) < 256;omega,by show (176:Nat) < 256;omega⟩⟩
 ·obtain ⟨j,hj,rfl⟩:=x1d h
  exact ⟨oM,oM,oM,oM⟩
theorem z3w {f:Nat->Nat}:∀ {k:Nat},(∀ i j,i < k->j < k->f i=f j->i=j)->((List.range k).map f).Nodup
 | 0,_=>by simp
 | k+1,h=>by
  rw [List.range_succ,List.map_append,List.nodup_append];refine ⟨z3w (fun i j hi hj=>h i j oM oM),by simp,?_⟩;intro x hx y hy e;obtain ⟨i,hi,rfl⟩:=List.mem_map.1 hx;simp at hy;have Ga:=List.mem_range.1 hi;have:=h i k oM oM (e.trans hy);omega
theorem x3t (ln cl g:Nat):((fmtW ln cl g).map (·.1)).Nodup:=by
 unfold fmtW fmtB fmtZ;rw [List.map_append,List.map_map,List.map_map,List.nodup_append];refine ⟨z3w (fun i j _ _ h=>?_),z3w (fun i j _ _ h=>?_),?_⟩
 ·simp at h;exact z7t (c:=cl) oM
 ·simp at h;omega
 ·intro x hx y hy e
  obtain ⟨i,hi,rfl⟩:=List.mem_map.1 hx;obtain ⟨j,hj,rfl⟩:=List.mem_map.1 hy;have:=List.mem_range.1 hj;have:=z2h cl i;simp at e;omega
def fmtR (cur:Nat->Nat) (ln cl g:Nat):Nat->Nat:=wrS (wrS cur (fmtW ln cl g)) [(64 * ln,hdrW cl g)]
theorem z9q {cur:Nat->Nat} {ln cl g i:Nat} (hc:cl < 5) (hg:g < 65536) (h:i < 8 * ln\/8 * ln+256<=i):fmtR cur ln cl g i=cur i:=by
 unfold fmtR;rw [z2k,z2k]
 ·intro e he
  have:=z7l hc hg he;omega
 ·intro e he
  simp at he;subst he;show 64 * ln / 8≠i;omega
theorem w1d {cur:Nat->Nat} {ln cl g:Nat} (hc:cl < 5) (hg:g < 65536) (hb:∀ i,cur i < 18446744073709551616) (i:Nat):fmtR cur ln cl g i < 18446744073709551616:=by
 unfold fmtR;refine z5d _ _ (z5d _ _ hb (fun e he=>(z7l hc hg he).2.2.2)) (fun e he=>?_) i;simp at he;subst he;exact x7f hc hg
theorem y2i (i:Nat):z1r 0 i=false:=by simp [z1r]
theorem w5i {cur:Nat->Nat} {ln cl g:Nat} (hc:cl < 5) (h0:0 < g) (hg:g < 65536):ChW (fmtR cur ln cl g) ln cl g 0 (fun _=>⟨g,0,176⟩):=by
 have hw:∀ e∈fmtW ln cl g,fmtR cur ln cl g (e.1 / 8)=e.2:=fun e he=>by
  unfold fmtR;have hm:=z7l hc hg he;rw [z2k _ _ _ (fun x hx=>by simp at hx;subst hx;show 64 * ln / 8≠e.1 / 8;omega)];exact y5n _ _ (x3t ln cl g) (fun x hx=>(z7l hc hg hx).1) e he
 have hz:∀ j,j < 7->fmtR cur ln cl g (8 * ln+(j+1))=0:=fun j hj=>by
  have h:=hw (64 * ln+8 * (j+1),0) (by unfold fmtW;exact List.mem_append.2 (.inr (List.mem_map.2 ⟨j,List.mem_range.2 hj,rfl⟩)));have e:(64 * ln+8 * (j+1)) / 8=8 * ln+(j+1):=oM;rw [<- e];exact h
 refine ⟨?_,hc,h0,hg,?_,oM,?_,?_,?_,?_,?_,Nat.pow_pos oM⟩
 ·have e:8 * ln=64 * ln / 8:=oM
  rw [e];unfold fmtR;show upd _ (64 * ln / 8) (hdrW cl g) (64 * ln / 8)=_;simp [upd]
 ·exact hz 0 oM
 ·intro j h2 h8
  have h:=hz (j - 1) oM;rw [show j - 1+1=j by omega] at h;exact h
 ·intro i hi;exact ⟨hg,by show (0:Nat) < 256;omega,by show (176:Nat) < 256;omega⟩
 ·intro i hi
  have:(g != 0)=true:=by simp;omega
  simp [BK.good,this]
 ·intro i hi
  have h:=hw (64 * ln+8 * offB cl i,BK.w ⟨g,0,176⟩) (by unfold fmtW;exact List.mem_append.2 (.inl (List.mem_map.2 ⟨i,List.mem_range.2 hi,rfl⟩)));have e:(64 * ln+8 * offB cl i) / 8=8 * ln+offB cl i:=oM;rw [<- e];exact h
 ·intro i hi;rw [y2i];rfl
def z9j (ln cl i:Nat):Prop:=(8 * ln<=i/\i < 8 * ln+8)\/∃ j,j < perC cl/\i=8 * ln+offB cl j
theorem ChW.same {cur cur':Nat->Nat} {ln cl g V:Nat} {bs:Nat->BK} (h:ChW cur ln cl g V bs) (he:∀ i,z9j ln cl i->cur' i=cur i):ChW cur' ln cl g V bs :=
 {h with
  hdr:=(he _ (.inl ⟨oM,oM⟩)).trans h.hdr
  bits:=(he _ (.inl ⟨oM,oM⟩)).trans h.bits
  zero:=fun j h2 h8=>(he _ (.inl ⟨oM,oM⟩)).trans (h.zero j h2 h8)
  word:=fun i hi=>(he _ (.inr ⟨i,hi,rfl⟩)).trans (h.word i hi) }
theorem z9s {ln cl i:Nat} (h:z9j ln cl i):8 * ln<=i/\i < 8 * ln+256:=by
 rcases h with h | ⟨j,hj,rfl⟩
 ·omega
 ·have:=off_lt hj;omega
theorem x7e {ln cl i j:Nat} (hi:i < perC cl) (hj:j < payW cl):¬ z9j ln cl (8 * ln+offB cl i+1+j):=by
 intro h;have h8:=z2h cl i;rcases h with h | ⟨k,hk,h⟩
 ·omega
 ·rcases Nat.lt_trichotomy i k with h1 | h1 | h1
  ·have:=y4u (c:=cl) h1;omega
  ·subst h1;omega
  ·have:=y4u (c:=cl) h1;omega
theorem CSok.same {cur cur':Nat->Nat} {ln:Nat} {c:CS} (h:CSok cur ln c) (he:∀ i,8 * ln<=i->i < 8 * ln+256->(c.dv=true->z9j ln c.cl i)->cur' i=cur i):CSok cur' ln c:=by
 unfold CSok at *;cases hd:c.dv
 ·rw [hd] at h
  obtain ⟨h1,h2,h3⟩:=h;exact ⟨(he _ oM oM (fun h=>by rw [hd] at h;cases h)).trans h1,h2,h3⟩
 ·rw [hd] at h
  exact ChW.same h (fun i hi=>he i (z9s hi).1 (z9s hi).2 (fun _=>hi))
def newC (cl g:Nat):CS:=⟨true,cl,g,0,fun _=>⟨g,0,176⟩⟩
theorem w5u {cur:Nat->Nat} {ln cl g:Nat} (hc:cl < 5) (h0:0 < g) (hg:g < 65536):CSok (fmtR cur ln cl g) ln (newC cl g):=w5i hc h0 hg
end
section
open Go.RowKit Go.Maps
structure HA where
 h:Nat
 gs:Nat
 pl:Nat
 po:Nat
 mr:Nat
 mh:Nat
def HA.p (x:HA):PA:=⟨x.gs,x.pl,x.po⟩
def HA.fp (x:HA):Fp:=fun k=>k=x.pl\/k=x.mr\/k=x.mh
structure HS (a:DA) (s n K:Nat) (x:HA) (cs:Nat->CS) (f:Nat->Option Nat) (N m:Nat) (w:World):Prop where
 heap:Blk w x.h 194 (z3g a s n x.gs x.mr x.mh false)
 plc:Plc a s K x.p cs w
 res:PMap w x.mr N f m
 held:HMap w x.mh N
 ne:x.mr≠x.mh
theorem z4e {H:Type} {P:Program} {k:TypeId} {R:Value->Option (DataW H × List MemPlace)} {w:World} {b n g:Nat} {D:DataW H} {t:TypeId} {cs:Array Value} (h:w.ownsMap P k R b n D) (hB:Blk w g t cs):g≠b:=by
 intro e;subst e;obtain ⟨es,Ga,hb,_⟩:=h;unfold Blk at hB;rw [hB] at hb;cases hb
section
variable {a:DA} {s n K:Nat} {x:HA} {cs:Nat->CS} {f:Nat->Option Nat} {N m:Nat} {w w':World}
theorem HS.map_ne (h:HS a s n K x cs f N m w) {g:Nat} {t:TypeId} {vs:Array Value} (hB:Blk w g t vs):g≠x.mr/\g≠x.mh:=by
 obtain ⟨D,ho,_⟩:=h.res;obtain ⟨D2,Ga⟩:=h.held;exact ⟨z4e ho hB,z4e Ga hB⟩
theorem HS.pl_ne (h:HS a s n K x cs f N m w):x.pl≠x.mr/\x.pl≠x.mh/\x.gs≠x.mr/\x.gs≠x.mh/\x.h≠x.mr/\x.h≠x.mh/\x.gs≠x.pl/\x.h≠x.pl:=by
 obtain ⟨⟨c,hs⟩,pcs,hp,_⟩:=h.plc;obtain ⟨h1,h2⟩:=h.map_ne hp;obtain ⟨h3,h4⟩:=h.map_ne hs;obtain ⟨h5,h6⟩:=h.map_ne h.heap;exact ⟨h1,h2,h3,h4,h5,h6,h.plc.ne,h.heap.ne_ hp (by decide)⟩
theorem HS.chg {Z:Fp} (h:HS a s n K x cs f N m w) (hc:Chg Z w w') (h1:¬ Z x.h) (h2:¬ Z x.gs) (h3:¬ Z x.pl) (h4:¬ Z x.mr) (h5:¬ Z x.mh):HS a s n K x cs f N m w' :=
 ⟨hc.blk h.heap h1,h.plc.chg hc h2 h3,h.res.chg hc h4,h.held.chg hc h5,h.ne⟩
theorem HS.below (h:HS a s n K x cs f N m w) (hb:Blw w w'):HS a s n K x cs f N m w':=h.chg (Chg.of_below (S:=Fp.no) hb) (fun h=>h) (fun h=>h) (fun h=>h) (fun h=>h) (fun h=>h)
theorem HS.lt (h:HS a s n K x cs f N m w):x.h < w.heap.size/\x.gs < w.heap.size/\x.pl < w.heap.size/\x.mr < w.heap.size/\x.mh < w.heap.size :=
 ⟨h.heap.lt,h.plc.lt.1,h.plc.lt.2,h.res.lt,h.held.lt⟩
end
def blkO (ln cl i:Nat):Nat:=64 * ln+8 * offB cl i+8
def x5m (s K:Nat) (cs:Nat->CS) (o p:Nat):Prop:=∃ k i,k < K/\(cs k).dv=true/\i < perC (cs k).cl/\o=blkO (s+32 * k) (cs k).cl i/\pOff p=o
structure DS (a:DA) (L T s n K:Nat) (x:HA) (cs:Nat->CS) (f:Nat->Option Nat) (N m b0:Nat) (S:Fp) (cur:Nat->Nat) (w:World):Prop where
 dev:Dev a L T w S cur 0
 hs:HS a s n K x cs f N m w
 ok:∀ k,k < K->CSok cur (s+32 * k) (cs k)
 bnd:∀ i,cur i < 18446744073709551616
 res:∀ o p,f o=some p->x5m s K cs o p
 tab:Tab w
 pay:Pay w
 lo:1 < b0/\0 < b0/\b0<=x.h/\b0<=x.gs/\b0<=x.pl/\b0<=x.mr/\b0<=x.mh/\∀ k,S k->b0<=k
 off:¬ S x.h/\¬ S x.gs/\¬ S x.pl/\¬ S x.mr/\¬ S x.mh
 hK:n / 32=K/\1<=K/\s+n<=L/\0 < s
section
variable {a:DA} {L T s n K:Nat} {x:HA} {cs:Nat->CS} {f:Nat->Option Nat} {N m b0:Nat} {S:Fp} {cur:Nat->Nat} {w w':World}
theorem DS.below (h:DS a L T s n K x cs f N m b0 S cur w) (hb:Blw w w'):DS a L T s n K x cs f N m b0 S cur w' :=
 { h with dev:=h.dev.below hb,hs:=h.hs.below hb,tab:=h.tab.below hb,pay:=h.pay.below hb }
theorem DS.hL (h:DS a L T s n K x cs f N m b0 S cur w):L<=4096:=by
 obtain ⟨ls,Gc,Gf,Gb,Ge,Ga,Gd⟩:=h.dev;exact Ga.hL
theorem DS.line (h:DS a L T s n K x cs f N m b0 S cur w) {k:Nat} (hk:k < K):s+32 * k+32<=L:=by
 have h1:=h.hK;omega
theorem DS.few (h:DS a L T s n K x cs f N m b0 S cur w):K<=128/\s<=4096:=by
 have h1:=h.hK;have h2:=h.hL;omega
theorem DS.more {T':Nat} (h:DS a L T s n K x cs f N m b0 S cur w) (hT:T<=T') (hT':T'<=1000000000):DS a L T' s n K x cs f N m b0 S cur w :=
 { h with dev:=h.dev.more hT hT' }
theorem DS.dev_ {T':Nat} {S':Fp} {cur':Nat->Nat} (h:DS a L T s n K x cs f N m b0 S cur w) (hd:Dev a L T' w' S' cur' 0) (hc:Chg S w w') (hg:Grew S S' w) (hok:∀ k,k < K->CSok cur' (s+32 * k) (cs k)) (hb:∀ i,cur' i < 18446744073709551616) :
  DS a L T' s n K x cs f N m b0 S' cur' w':=by
 obtain ⟨o1,o2,o3,o4,o5⟩:=h.off;obtain ⟨l1,l2,l3,l4,l5,l6,l7,l8⟩:=h.lo;obtain ⟨z1,z2,z3,z4,z5⟩:=h.hs.lt;have Ga:∀ g,g < b0->¬ S g:=fun g hgb hs=>by have:=l8 g hs;omega
 refine ⟨hd,h.hs.chg hc o1 o2 o3 o4 o5,hok,hb,h.res,h.tab.chg hc (Ga _ l1),fun i hi=>(World.cell?_of_block (w:=w) (hc.block _ h.pay.size (Ga _ l2))).trans (h.pay i hi),⟨l1,l2,l3,l4,l5,l6,l7,fun k hk=>?_⟩,⟨?_,?_,?_,?_,?_⟩,h.hK⟩
 ·rcases hg k hk with h' | h'
  ·exact l8 k h'
  ·omega
 all_goals
  refine hg.off ⟨?_,?_⟩
  ·omega
  ·assumption
theorem DS.own_ {cs':Nat->CS} {f':Nat->Option Nat} {N' m':Nat} (h:DS a L T s n K x cs f N m b0 S cur w) (hs:HS a s n K x cs' f' N' m' w') (hc:Chg x.fp w w') (hok:∀ k,k < K->CSok cur (s+32 * k) (cs' k)) (hr:∀ o p,f' o=some p->x5m s K cs' o p) :
  DS a L T s n K x cs' f' N' m' b0 S cur w':=by
 obtain ⟨o1,o2,o3,o4,o5⟩:=h.off;obtain ⟨l1,l2,l3,l4,l5,l6,l7,l8⟩:=h.lo;have Ga:∀ g,g < b0->¬ x.fp g:=fun g hgb hs=>by
  rcases hs with h | h | h <;> omega
 exact ⟨h.dev.chg hc (fun k hk hz=>by rcases hz with rfl | rfl | rfl <;> contradiction),hs,hok,h.bnd,hr,h.tab.chg hc (Ga _ l1),fun i hi=>(World.cell?_of_block (w:=w) (hc.block _ h.pay.size (Ga _ l2))).trans (h.pay i hi),h.lo,h.off,h.hK⟩
end
end
section
open Go.RowKit
def z4f (s:Nat) (cs:Nat->CS) (cl K:Nat):List Int:=((List.range K).filter fun k=>(cs k).dv && (cs k).cl == cl).map fun k=>((s+32 * k:Nat):Int)
theorem x3j (s:Nat) (cs:Nat->CS) (cl K:Nat):z4f s cs cl (K+1)=if ((cs K).dv && (cs K).cl == cl)=true then z4f s cs cl K++[((s+32 * K:Nat):Int)] else z4f s cs cl K:=by
 unfold z4f;rw [List.range_succ,List.filter_append,List.map_append];by_cases h:((cs K).dv && (cs K).cl == cl)=true
 ·rw [if_pos h];simp [h]
 ·rw [if_neg h];simp [h]
theorem w5b (c:CS) (cl:Nat):((c.own == 0) && (c.cls == (cl:Int)))=(c.dv && c.cl == cl):=by
 unfold CS.own CS.cls;cases c.dv
 ·rfl
 ·simp only [if_true,Bool.true_and,beq_self_eq_true]
  by_cases h:c.cl=cl
  ·rw [h];simp
  ·rw [beq_eq_false_iff_ne.2 h,beq_eq_false_iff_ne];omega
theorem x6j {s:Nat} {cs:Nat->CS} {cl K:Nat} {x:Int} (h:x∈z4f s cs cl K):∃ k,k < K/\(cs k).dv=true/\(cs k).cl=cl/\x=((s+32 * k:Nat):Int):=by
 unfold z4f at h;obtain ⟨k,hk,rfl⟩:=List.mem_map.1 h;obtain ⟨h1,h2⟩:=List.mem_filter.1 hk;simp at h1 h2;exact ⟨k,h1,h2.1,h2.2,rfl⟩
theorem w0s {s:Nat} {cs:Nat->CS} {cl K k:Nat} (hk:k < K) (h1:(cs k).dv=true) (h2:(cs k).cl=cl):((s+32 * k:Nat):Int)∈z4f s cs cl K:=by
 unfold z4f;refine List.mem_map.2 ⟨k,List.mem_filter.2 ⟨List.mem_range.2 hk,?_⟩,rfl⟩;simp [h1,h2]
theorem y6b (s:Nat) (cs:Nat->CS) (cl K:Nat):(z4f s cs cl K).length<=K:=by
 unfold z4f;rw [List.length_map];exact Nat.le_trans (List.length_filter_le _ _) (by simp)
theorem x3i {a:DA} {s K:Nat} {x:PA} {cs:Nat->CS} {w:World} (h:Plc a s K x cs w) (hK:K<=128) (_hs:s<=100000) (cl:Nat) :
  Calls Tryz.prog 376 #[.pointer (some ⟨x.gs,0,none⟩),.int .i64 0,.int .i64 cl] w (x0t w (z4f s cs cl K)):=by
 obtain ⟨c,_,f1⟩:=h.sets;have HP:=hid h;obtain ⟨i0,Gq,Gr,Gs,Gt⟩:=info_parts y4l;have Gf:Hid (Blw w w):=Below.refl _ _;have Gh:Hid (w.ownsRow w.heap.size 3 1 (.slice none 0 0) 0 (z1x [])):=World.ownsRow_nil _ _ _ _;have Gv:decide ((cl:Int) < 0)=false:=dF;clear h;obtain ⟨gs,pl,po⟩:=x;dsimp only at *;go_enter Tryz.func376,Tryz.ntmps376
 go_wp2;go_loopw [7,25] (fun p i wr=>∃ (k:Nat) (A1:Option Addr) (m1 c1:Nat) (l:List Int),k<=K/\i=.int .i64 k/\p=.slice A1 m1 c1/\Hid (l=z4f s cs cl k)/\Hid (wr.ownsRow w.heap.size 3 1 (.slice A1 m1 c1) m1 (z1x l))/\Hid (Blw w wr)) (fun _ i _=>K - (RowKit.intOf i).toNat)
 case atStart=>exact ⟨0,_,_,_,[],Nat.zero_le _,rfl,rfl,hid rfl,Gh,Gf⟩
 case round =>
  clear Gf Gh;obtain ⟨k,A1,m1,c1,l,hk,rfl,rfl,HL,HO,H⟩:=hrel;by_cases hlt:k < K
  ·obtain ⟨f0,f2,f3,b4,f4⟩:=(HP.out.below H.out).facts (k:=k) hlt
   dsimp only at f0 f2 f3 f4;have Gx:(0:Int)<=(k:Int):=oM;have Gy:(k:Int) < (K:Int):=oM;have Gw:m1<=128:=by have h1:=HO.out.1;have h2:=y6b s cs cl k;rw [z6g,HL.out] at h1;omega
   have Gc:=hid (w5b (cs k) cl);have Ge:=hid (x3j s cs cl k);generalize hbb:((cs k).dv && (cs k).cl == cl)=bb at *;rw [<- HL.out] at Ge;have Gk:Hid (z4f s cs cl (k+1)=z4f s cs cl (k+1)):=hid rfl;clear hbb;generalize ((s+32 * k:Nat):Int)=v at *;generalize (cs k).cls=v1 at *;generalize (cs k).own=v2 at *;have Gl:=hid H.out.size;have Gd:=hid ((HO.out.alloc (.cells #[.int .i64 v,.int .i64 v1,.int .i64 v2,.bool b4] 408)));have Gb:=hid ((H.out.alloc H.out.size (.cells #[.int .i64 v,.int .i64 v1,.int .i64 v2,.bool b4] 408)));have Gn:=hid (Gd.out.alloc (.cells #[.int .i64 v] 3));have Gj:=hid (Gb.out.alloc (by have:=H.out.size;simp;omega) (.cells #[.int .i64 v] 3));clear H HO Gk;cases bb
   ·have Ga:Hid (l=z4f s cs cl (k+1)):=hid (by rw [Ge.out];rfl)
    by_cases hv2:v2=0
    ·have q1:(v2 == 0)=true:=by rw [hv2];rfl
     have q2:(v1 == (cl:Int))=false:=by have:=Gc.out;rw [q1] at this;simpa using this
     clear hv2 Gc Ge HL;go_wp2;go_roundw
     case rel =>
      first
       | exact ⟨k+1,_,_,_,_,oM,by go_num,rfl,Ga,Gd,Gb⟩
       | (
         repeat apply Exists.intro
         refine ⟨?_,rfl⟩;exact ⟨k+1,_,_,_,_,oM,by go_num,rfl,Ga,Gd,Gb⟩)
     case measure=>simp [RowKit.intOf];omega
    ·have q1:(v2 == 0)=false:=by rw [beq_eq_false_iff_ne];exact hv2
     clear hv2 Gc Ge HL;go_wp2;go_roundw
     case rel =>
      first
       | exact ⟨k+1,_,_,_,_,oM,by go_num,rfl,Ga,Gd,Gb⟩
       | (
         repeat apply Exists.intro
         refine ⟨?_,rfl⟩;exact ⟨k+1,_,_,_,_,oM,by go_num,rfl,Ga,Gd,Gb⟩)
     case measure=>simp [RowKit.intOf];omega
   ·have Ga:Hid (l++[v]=z4f s cs cl (k+1)):=hid (by rw [Ge.out];rfl)
    have q1:(v2 == 0)=true:=by have:=Gc.out;rw [Bool.and_eq_true] at this;exact this.1
    have q2:(v1 == (cl:Int))=true:=by have:=Gc.out;rw [Bool.and_eq_true] at this;exact this.2
    clear Gc Ge HL Gd Gb;go_wp2_with (first
     | (at_builtin;refine z0p _ (.tmp 39) (.tmp 42) 34 rfl rfl w.heap.size 3 i0 _ 1 8 Tryz.underlying34 Gq Gr Gs Gt rfl ?q1 (.slice A1 m1 c1) m1 (z1x l) rfl Gn.out (wr.heap.size+1+1) (some ⟨wr.heap.size+1,0,none⟩) 1 1 [.int .i64 v] rfl ?q5 ?q6 ?q2 ?q3 ?q4 ?_;(case q1=>omega);(case q5=>exact z0m _ _ (by simp) _ 1 1 3 _ rfl rfl);(case q6=>(intro u hu;simp at hu;subst hu;rfl));(case q2=>(unfold maxLen;omega));(case q3=>omega);(case q4=>(have:=Gl.out;simp;omega));intro A3 n3 c3 w8 hn3 ho3 hg3 hb3;have Gu:=hid hn3;have Gm:=hid ho3;have Gg:=hid (Gj.out.trans hb3);clear hn3 ho3 hg3 hb3)
     | go_in)
    have Gi:Hid (w8.ownsRow w.heap.size 3 1 (.slice A3 n3 c3) n3 (z1x (l++[v]))):=hid (by have h:=Gm.out;simpa [z1x] using h);go_roundw
    case rel =>
     first
      | exact ⟨k+1,_,_,_,_,oM,by go_num,rfl,Ga,Gi,Gg⟩
      | (
        repeat apply Exists.intro
        refine ⟨?_,rfl⟩;exact ⟨k+1,_,_,_,_,oM,by go_num,rfl,Ga,Gi,Gg⟩)
    case measure=>simp [RowKit.intOf];omega
  ·obtain rfl:K=k:=oM
   have Gp:Hid (wr.ownsRow w.heap.size 3 1 (.slice A1 m1 c1) m1 (z1x (z4f s cs cl K))):=hid (by rw [<- HL.out];exact HO.out);go_wp2;go_ret;exact ⟨_,_,_,rfl,Gp.out,H.out⟩
end
end Go.Proofs.YtfkjjoglnmeciaaGreatDoor
