/- part 13 -/
import Derived.Test.YtmhbokcccjmfgaaGreatDoorQal
set_option maxRecDepth 100000
set_option maxHeartbeats 16000000
namespace Go.Proofs.YtmhbokcccjmfgaaGreatDoor
open Go.Lib (hid)
section
open Go.RowKit
def blkR(ln cl:Nat)(bs:Nat->BK)(p:Nat):Nat×Nat:=if p=0 then (0,1)else match fndC ln cl (pOff p)with
 |none=>(0,2)
 |some i=>if p/72057594037927936≠0 then (0,2)else if (bs i).st≠177\/(bs i).gen≠pGen p then (0,12)else if (bs i).kind≠z2h p then (0,13)else (i,0)
section
variable{a:DA}{L T:Nat}{w:World}{S:Fp}{cur:Nat->Nat}{F:Nat}
theorem x2b(h:Dev a L T w S cur F)(ht:Tab w)(hp:Pay w)(ln cl g V p:Nat)(bs:Nat->BK)(hl:ln+32<=L)(hC:ChW cur ln cl g V bs)(_hp64:p<18446744073709551616):
  () 152 #[chV a ln cl 0 g,p] w fun e w'=>e=.returned (.tuple #[.int .i64 ((blkR ln cl bs p).1:Int),.int .i64 ((blkR ln cl bs p).2:Int)])/\Blw w w':=by
 obtain⟨_,_,_,_,_,Gx,_⟩:=id h;have hL:=Gx.hL;clear Gx;have Gw:Blw w (w.alloc (.cells (z0w a ln cl g) 251)):=(Below.refl _ _).alloc (nL _) _;have Gg:=hid Gw;have Gc:=hid (z9m p);have Gj:=hid (z4o p);have Gp:Hid (∀W,Blw w W->() 230 #[chV a ln cl 0 g,(pOff p)] W fun e w'=>e=.returned (fndR ln cl (pOff p))/\Blw W w'):=hid (fun W hW=>x6u a ln cl g (pOff p) oM hC.cls (by unfold pOff;omega) W (hp.below hW));have Gn:Hid (∀W,Blw w W->() 76 #[(a.th 0,())] W fun e w'=>e=.returned ()/\W=w'):=hid (fun W hW=>z9u (h.below hW));have Gv:Hid (∀i,i<perC cl->∀W,Blw w W->() 231 #[chV a ln cl 0 g,[i]] W fun e w'=>e=.returned (.tuple #[(bs i).v,true,(z1z V i)])/\Blw W w'):=hid (fun i hi W hW=>y7d (h.below hW) (ht.below hW) (hp.below hW) ln cl g V i (bs i) (hC.inn i hi) hl hC.cls hi hC.v64 hC.bits (hC.word i hi));have Gq:=hid (v0a p);have Gu:=hid (y1b p);have HK:=hid (Blk.new w 251 (z0w a ln cl g));have hm:=z1x (some (a.th 0,()));have HC:=hid hC;clear h ht hp Gw hC;unfold chV at*;unfold z0w memV at*;by_cases hp0:p=0
 ·have HR:Hid (blkR ln cl bs p=(0,1)):=hid (by unfold blkR;rw[if_pos hp0])
  rw[HR.out];rw[decide_eq_true hp0]at Gc;clear hp0;go_enter Tryz.func152,Tryz.ntmps152
  go_wp2_with (go_at_call 72;refine(Gc.out _).mono ?_;rintro e w1⟨rfl,rfl⟩)
  go_ret2;exact⟨rfl,Gg.out⟩
 ·rw[decide_eq_false hp0]at Gc
  have Ga:Hid (blkR ln cl bs p=match fndC ln cl (pOff p)with
   |none=>(0,2)
   |some i=>if p/72057594037927936≠0 then (0,2)else if (bs i).st≠177\/(bs i).gen≠pGen p then (0,12)else if (bs i).kind≠z2h p then (0,13)else (i,0)):=hid (by unfold blkR;rw[if_neg hp0])
  clear hp0;have Gt:Hid (∃(k:Nat)(b:Bool),fndR ln cl (pOff p)=.tuple #[[k],b]/\(b=true->fndC ln cl (pOff p)=some k/\k<perC cl)/\(b=false->fndC ln cl (pOff p)=none)):=hid (by
   unfold fndR;generalize hf:fndC ln cl (pOff p)=o;cases o with
   |none=>exact⟨0,false,rfl,(fun h=>absurd h (by decide)),fun _=>rfl⟩
   |some i=>exact⟨i,true,rfl,fun _=>⟨rfl,(w0x hf).1⟩,(fun h=>absurd h (by decide))⟩)
  obtain⟨fk,fb,Gz,G0,Gy⟩:=Gt.out;rw[Gz]at Gp;have Gm:=hid G0;have Gl:=hid Gy;clear Gz Gt G0 Gy;generalize pOff p=po at*;generalize blkR ln cl bs p=rr at*;go_enter Tryz.func152,Tryz.ntmps152
  go_wp2_with (go_at_call 72;refine(Gc.out _).mono ?_;rintro e w1⟨rfl,rfl⟩)
  refine z0f (fun w'=>Blw w w'/\Blk w' w.heap.size 251 #[.iface 57 (a.th 0,()),[ln],[cl],(),#[g]]) 8 [(true,0),(true,1),(false,2),(false,3),(true,4),(true,5),(true,6),(true,7)] (by kernel_rfl) (by kernel_rfl) ⟨Gg.out.drew,HK.out.drew⟩ ?_;refine tkS (.agg #[(57,a.th 0,0),[ln],[cl],(),#[g]]) (fun w' hS=>?_) ?_
  ·have hk:=hS.2
   have f0:w'.cell? (w,0)=some ↑(57,a.th 0,0):=hk.cell 0;have f1:w'.cell? (w,1)=some ↑[ln]:=hk.cell 1;have f2:w'.cell? (w,2)=some ↑[cl]:=hk.cell 2;have f3:w'.cell? (w,3)=some ↑():=hk.cell 3;have f4:w'.cell? (w,4)=some ↑#[g]:=hk.cell 4;go_simp
  refine tkS p (fun w' hS=>?_) ?_
  ·go_simp
  refine z0k (by rfl) ?_;go_wp2_with fail
  refine(Gj.out _).mono ?_;rintro e w1⟨rfl,rfl⟩;go_wp2_with fail
  refine⟨⟨Gg.out.drew,HK.out.drew⟩,?_⟩;refine z0k (by rfl) ?_;go_wp2_with fail
  refine(Gp.out _ Gg.out.drew).mono ?_;rintro e w1⟨rfl,Gr⟩;have Ge:=hid (Gg.out.drew.trans (Gr.mono Gg.out.drew.size));have Gd:=hid (HK.out.drew.below Gr HK.out.drew.lt);clear Gr Gp Gj Gc Gg HK;go_wp2_with fail
  refine⟨⟨Ge.out,Gd.out⟩,?_⟩;refine tkS (.tuple #[[fk],fb]) (fun w' hS=>?_) ?_
  ·go_simp
  refine tkS [fk] (fun w' hS=>?_) ?_
  ·go_simp
  refine tkS fb (fun w' hS=>?_) ?_
  ·go_simp
  refine tkS [fk] (fun w' hS=>?_) ?_
  ·go_simp
  show wpList _ _ _ _ _ _;simp only[List.drop_succ_cons,List.drop_zero];have f0:w1.cell? (w,0)=some ↑(57,a.th 0,0):=Gd.out.cell 0;have f1:w1.cell? (w,1)=some ↑[ln]:=Gd.out.cell 1;have f2:w1.cell? (w,2)=some ↑[cl]:=Gd.out.cell 2;have f3:w1.cell? (w,3)=some ↑():=Gd.out.cell 3;have f4:w1.cell? (w,4)=some ↑#[g]:=Gd.out.cell 4;cases fb
  ·have HF:=hid (Gl.out rfl)
   rw[HF.out]at Ga;clear HF Gl Gm;go_wp2_with fail
   refine NoPanic.normal ?_;go_wp2;go_ret2;exact⟨by rw[Ga.out];rfl,Ge.out⟩
  ·have HF:=hid (Gm.out rfl)
   rw[HF.out.1]at Ga;dsimp only at Ga;obtain⟨Gs⟩:PLift (fk<perC cl):=⟨HF.out.2⟩
   by_cases hpt:p/72057594037927936=0
   ·have q0:((p:Int)/72057594037927936==0)=true:=by rw[beq_iff_eq];omega
    have q1:(p:Int)/72057594037927936=0:=oM;rw[if_neg (fun hh=>hh hpt)]at Ga;clear hpt HF Gl Gm;go_wp2_with fail
    refine NoPanic.normal ?_;go_wp2_with (go_at_call 76;refine(Gn.out _ Ge.out).mono ?_;rintro e w2⟨rfl,rfl⟩)
    refine(Gv.out fk Gs _ Ge.out).mono ?_;rintro e w2⟨rfl,Gf⟩;obtain⟨Gk⟩:PLift (z1z V fk=decide ((bs fk).st≠176)):=⟨HC.out.bit fk Gs⟩
    have G2:=HC.out.inn fk Gs;obtain⟨G6,G7,G8⟩:=G2;generalize z1z V fk=bt at*;have Gh:=hid Gk;clear Gk;unfold BK.v at*;generalize bs fk=b at*;obtain⟨gen,kd,st⟩:=b;dsimp only at*;have G1:w2.cell? (w,0)=some ↑(57,a.th 0,0):=(Gd.out.below Gf Gd.out.lt).cell 0;have G3:=Gd.out.lt;have G4:=Gf.size;have G5:w.heap.size<w2.heap.size:=oM;have Gi:=hid ((Ge.out.trans (Gf.mono Ge.out.size)).alloc (Nat.le_trans Ge.out.size Gf.size) (.cells #[#[gen],[[kd]],[[st]]] 335));have Gb:=hid (Blk.new w2 335 #[#[gen],[[kd]],[[st]]]);clear Gf G3 G4 Gv HC Gd f0 f1 f2 f3 f4 q0 q1;go_wp2_with (go_at_call 76;refine(Gn.out _ Gi.out).mono ?_;rintro e w3⟨rfl,rfl⟩)
    generalize w2.alloc (.cells #[#[gen],[[kd]],[[st]]] 335)=W at*;generalize w2.heap.size=p2 at*;have c0:W.cell? (p2,0)=some ↑#[gen]:=Gb.out.cell 0;have c1:W.cell? (p2,1)=some ↑[[kd]]:=Gb.out.cell 1;have c2:W.cell? (p2,2)=some ↑[[st]]:=Gb.out.cell 2;clear G1 G5 Gn Ge;by_cases h176:st=176
    ·have Gf:bt=false:=by rw[Gh.out,decide_eq_false (fun hh=>hh h176)]
     subst Gf;rw[if_pos (.inl oM)]at Ga;clear Gh h176;refine z0f (fun w'=>Blk w' p2 335 #[#[gen],[[kd]],[[st]]]) 16 [(true,0),(true,1),(true,2),(true,3),(true,4),(true,5),(true,6),(true,7),(true,8),(true,9),(true,10),(true,11),(true,12),(true,13),(true,14),(true,15)] (by kernel_rfl) (by kernel_rfl) Gb.out.drew ?_;refine tkS true (fun w' hS=>?_) ?_
     ·go_simp
     refine tkS false (fun w' hS=>?_) ?_
     ·go_simp
     refine tkS false (fun w' hS=>?_) ?_
     ·go_simp
     refine tkS false (fun w' hS=>?_) ?_
     ·go_simp
     refine tkS true (fun w' hS=>?_) ?_
     ·go_simp
     refine tkS true (fun w' hS=>?_) ?_
     ·go_simp
     refine tkS true (fun w' hS=>?_) ?_
     ·go_simp
     refine z0i (by rfl) (by rfl) ?_;simp only[zA,zB,zC,Act.put,zD,zE,zF];refine z0i (by rfl) (by rfl) ?_;simp only[zA,zB,zC,Act.put,zD,zE,zF];refine z0i (by rfl) (by rfl) ?_;simp only[zA,zB,zC,Act.put,zD,zE,zF];refine tkS true (fun w' hS=>?_) ?_
     ·go_simp
     refine tkS true (fun w' hS=>?_) ?_
     ·go_simp
     refine z0i (by rfl) (by rfl) ?_;simp only[zA,zB,zC,Act.put,zD,zE,zF];refine z0i (by rfl) (by rfl) ?_;simp only[zA,zB,zC,Act.put,zD,zE,zF];refine z0i (by rfl) (by rfl) ?_;simp only[zA,zB,zC,Act.put,zD,zE,zF];refine z0i (by rfl) (by rfl) ?_;simp only[zA,zB,zC,Act.put,zD,zE,zF];show wpList _ _ _ _ _ _;simp only[List.drop_succ_cons,List.drop_zero];go_wp2_with fail
     refine NoPanic.normal ?_;go_wp2;go_ret2;exact⟨by rw[Ga.out];rfl,Gi.out.drew⟩
    ·have Gf:bt=true:=by rw[Gh.out,decide_eq_true h176]
     subst Gf;by_cases h177:st=177
     ·subst h177
      by_cases hgen:gen=pGen p
      ·have d1:((gen:Int)==(pGen p:Int))=true:=by rw[beq_iff_eq];omega
       have d2:((gen:Int) != (pGen p:Int))=false:=by simp only[bne,d1,Bool.not_true]
       rw[if_neg oM]at Ga;clear Gh h176 hgen;by_cases hkd:kd=z2h p
       ·have e1:((kd:Int)==(z2h p:Int))=true:=by rw[beq_iff_eq];omega
        rw[if_neg (fun hh=>hh hkd)]at Ga;clear hkd;generalize pGen p=pg at*;generalize z2h p=pk at*;refine z0f (fun w'=>Blk w' p2 335 #[#[gen],[[kd]],[[177]]]) 16 [(true,0),(true,1),(true,2),(true,3),(true,4),(true,5),(true,6),(true,7),(true,8),(true,9),(true,10),(true,11),(true,12),(true,13),(true,14),(false,15)] (by kernel_rfl) (by kernel_rfl) Gb.out.drew ?_;refine tkS true (fun w' hS=>?_) ?_
        ·go_simp
        refine tkS false (fun w' hS=>?_) ?_
        ·go_simp
        refine tkS false (fun w' hS=>?_) ?_
        ·go_simp
        refine tkS true (fun w' hS=>?_) ?_
        ·go_simp
        refine tkS false (fun w' hS=>?_) ?_
        ·go_simp
        refine tkS false (fun w' hS=>?_) ?_
        ·go_simp
        refine tkS false (fun w' hS=>?_) ?_
        ·go_simp
        refine tkS (p2,2) (fun w' hS=>?_) ?_
        ·go_simp
        refine tkS (.int .u8 177) (fun w' hS=>?_) ?_
        ·have f2:w'.cell? (p2,2)=some (.int .u8 177):=hS.cell 2
         go_simp
        refine tkS false (fun w' hS=>?_) ?_
        ·go_simp
        refine tkS false (fun w' hS=>?_) ?_
        ·go_simp
        refine tkS false (fun w' hS=>?_) ?_
        ·go_simp
        refine tkS (p2,0) (fun w' hS=>?_) ?_
        ·go_simp
        refine tkS #[gen] (fun w' hS=>?_) ?_
        ·have f2:w'.cell? (p2,0)=some ↑#[gen]:=hS.cell 0
         go_simp
        refine tkS p (fun w' hS=>?_) ?_
        ·go_simp
        refine z0k (by rfl) ?_;go_wp2_with fail
        refine(Gq.out _).mono ?_;rintro e w3⟨rfl,rfl⟩;go_wp2_with fail
        refine⟨Gb.out.drew,?_⟩;show wpList _ _ _ _ _ _;simp only[List.drop_succ_cons,List.drop_zero];go_wp2_with fail
        refine NoPanic.normal ?_;go_wp2_with fail
        go_region_with (go_at_call 104;refine(Gu.out _).mono ?_;rintro e w3⟨rfl,rfl⟩)
        all_goals
         go_wp2;go_ret2;exact⟨by rw[Ga.out];rfl,Gi.out.drew.drew⟩
       ·have e1:((kd:Int)==(z2h p:Int))=false:=by rw[beq_eq_false_iff_ne];omega
        rw[if_pos hkd]at Ga;clear hkd;generalize pGen p=pg at*;generalize z2h p=pk at*;refine z0f (fun w'=>Blk w' p2 335 #[#[gen],[[kd]],[[177]]]) 16 [(true,0),(true,1),(true,2),(true,3),(true,4),(true,5),(true,6),(true,7),(true,8),(true,9),(true,10),(true,11),(true,12),(true,13),(true,14),(false,15)] (by kernel_rfl) (by kernel_rfl) Gb.out.drew ?_;refine tkS true (fun w' hS=>?_) ?_
        ·go_simp
        refine tkS false (fun w' hS=>?_) ?_
        ·go_simp
        refine tkS false (fun w' hS=>?_) ?_
        ·go_simp
        refine tkS true (fun w' hS=>?_) ?_
        ·go_simp
        refine tkS false (fun w' hS=>?_) ?_
        ·go_simp
        refine tkS false (fun w' hS=>?_) ?_
        ·go_simp
        refine tkS false (fun w' hS=>?_) ?_
        ·go_simp
        refine tkS (p2,2) (fun w' hS=>?_) ?_
        ·go_simp
        refine tkS (.int .u8 177) (fun w' hS=>?_) ?_
        ·have f2:w'.cell? (p2,2)=some (.int .u8 177):=hS.cell 2
         go_simp
        refine tkS false (fun w' hS=>?_) ?_
        ·go_simp
        refine tkS false (fun w' hS=>?_) ?_
        ·go_simp
        refine tkS false (fun w' hS=>?_) ?_
        ·go_simp
        refine tkS (p2,0) (fun w' hS=>?_) ?_
        ·go_simp
        refine tkS #[gen] (fun w' hS=>?_) ?_
        ·have f2:w'.cell? (p2,0)=some ↑#[gen]:=hS.cell 0
         go_simp
        refine tkS p (fun w' hS=>?_) ?_
        ·go_simp
        refine z0k (by rfl) ?_;go_wp2_with fail
        refine(Gq.out _).mono ?_;rintro e w3⟨rfl,rfl⟩;go_wp2_with fail
        refine⟨Gb.out.drew,?_⟩;show wpList _ _ _ _ _ _;simp only[List.drop_succ_cons,List.drop_zero];go_wp2_with fail
        refine NoPanic.normal ?_;go_wp2_with fail
        go_region_with (go_at_call 104;refine(Gu.out _).mono ?_;rintro e w3⟨rfl,rfl⟩)
        all_goals
         go_wp2;go_ret2;exact⟨by rw[Ga.out];rfl,Gi.out.drew.drew⟩
      ·have d1:((gen:Int)==(pGen p:Int))=false:=by rw[beq_eq_false_iff_ne];omega
       rw[if_pos (.inr hgen)]at Ga;clear Gh h176 hgen;generalize pGen p=pg at*;refine z0f (fun w'=>Blk w' p2 335 #[#[gen],[[kd]],[[177]]]) 16 [(true,0),(true,1),(true,2),(true,3),(true,4),(true,5),(true,6),(true,7),(true,8),(true,9),(true,10),(true,11),(true,12),(true,13),(true,14),(false,15)] (by kernel_rfl) (by kernel_rfl) Gb.out.drew ?_;refine tkS true (fun w' hS=>?_) ?_
       ·go_simp
       refine tkS false (fun w' hS=>?_) ?_
       ·go_simp
       refine tkS false (fun w' hS=>?_) ?_
       ·go_simp
       refine tkS true (fun w' hS=>?_) ?_
       ·go_simp
       refine tkS false (fun w' hS=>?_) ?_
       ·go_simp
       refine tkS false (fun w' hS=>?_) ?_
       ·go_simp
       refine tkS false (fun w' hS=>?_) ?_
       ·go_simp
       refine tkS (p2,2) (fun w' hS=>?_) ?_
       ·go_simp
       refine tkS (.int .u8 177) (fun w' hS=>?_) ?_
       ·have f2:w'.cell? (p2,2)=some (.int .u8 177):=hS.cell 2
        go_simp
       refine tkS false (fun w' hS=>?_) ?_
       ·go_simp
       refine tkS false (fun w' hS=>?_) ?_
       ·go_simp
       refine tkS false (fun w' hS=>?_) ?_
       ·go_simp
       refine tkS (p2,0) (fun w' hS=>?_) ?_
       ·go_simp
       refine tkS #[gen] (fun w' hS=>?_) ?_
       ·have f2:w'.cell? (p2,0)=some ↑#[gen]:=hS.cell 0
        go_simp
       refine tkS p (fun w' hS=>?_) ?_
       ·go_simp
       refine z0k (by rfl) ?_;go_wp2_with fail
       refine(Gq.out _).mono ?_;rintro e w3⟨rfl,rfl⟩;go_wp2_with fail
       refine⟨Gb.out.drew,?_⟩;show wpList _ _ _ _ _ _;simp only[List.drop_succ_cons,List.drop_zero];go_wp2_with fail
       refine NoPanic.normal ?_;go_wp2;go_ret2;exact⟨by rw[Ga.out];rfl,Gi.out.drew⟩
     ·have d1:((st:Int)==177)=false:=by rw[beq_eq_false_iff_ne];omega
      have d3:¬((st:Int)=177):=oM;rw[if_pos (.inl h177)]at Ga;clear Gh h176 h177;refine z0f (fun w'=>Blk w' p2 335 #[#[gen],[[kd]],[[st]]]) 16 [(true,0),(true,1),(true,2),(true,3),(true,4),(true,5),(true,6),(true,7),(true,8),(true,9),(true,10),(true,11),(true,12),(true,13),(true,14),(true,15)] (by kernel_rfl) (by kernel_rfl) Gb.out.drew ?_;refine tkS true (fun w' hS=>?_) ?_
      ·go_simp
      refine tkS false (fun w' hS=>?_) ?_
      ·go_simp
      refine tkS false (fun w' hS=>?_) ?_
      ·go_simp
      refine tkS true (fun w' hS=>?_) ?_
      ·go_simp
      refine tkS false (fun w' hS=>?_) ?_
      ·go_simp
      refine tkS false (fun w' hS=>?_) ?_
      ·go_simp
      refine tkS false (fun w' hS=>?_) ?_
      ·go_simp
      refine tkS (p2,2) (fun w' hS=>?_) ?_
      ·go_simp
      refine tkS [[st]] (fun w' hS=>?_) ?_
      ·have f2:w'.cell? (p2,2)=some ↑[[st]]:=hS.cell 2
       go_simp
      refine tkS true (fun w' hS=>?_) ?_
      ·go_simp
      refine tkS true (fun w' hS=>?_) ?_
      ·go_simp
      refine tkS true (fun w' hS=>?_) ?_
      ·go_simp
      refine z0i (by rfl) (by rfl) ?_;simp only[zA,zB,zC,Act.put,zD,zE,zF];refine z0i (by rfl) (by rfl) ?_;simp only[zA,zB,zC,Act.put,zD,zE,zF];refine z0i (by rfl) (by rfl) ?_;simp only[zA,zB,zC,Act.put,zD,zE,zF];refine z0i (by rfl) (by rfl) ?_;simp only[zA,zB,zC,Act.put,zD,zE,zF];show wpList _ _ _ _ _ _;simp only[List.drop_succ_cons,List.drop_zero];go_wp2_with fail
      refine NoPanic.normal ?_;go_wp2;go_ret2;exact⟨by rw[Ga.out];rfl,Gi.out.drew⟩
   ·have q0:((p:Int)/72057594037927936==0)=false:=by rw[beq_eq_false_iff_ne];omega
    rw[if_pos hpt]at Ga;clear hpt HF Gl Gm;go_wp2_with fail
    refine NoPanic.normal ?_;go_wp2;go_ret2;exact⟨by rw[Ga.out];rfl,Ge.out⟩
end
end
section
open Go.RowKit Go.Maps
theorem x7y p w : (method 585 58 (.pointer p) "Alloc").run Tryz.prog w=.ok (376,.pointer p) w := by kernel_rfl
theorem x1v p w : (nilAhead 585 58 (.pointer (some p)) "Alloc").run Tryz.prog w=.ok (some false) w := by kernel_rfl
section
variable{a:DA}{L T s n K:Nat}{x:HA}{N m b0:Nat}{S0:Fp}{d r:Nat}{w wr w':World}{A:Option Addr}{mm c:Nat}{bl:List Nat}{cs:Nat->CS}{f:Nat->Option Nat}{S:Fp}{cur:Nat->Nat}
end
end
section
open Go.RowKit Go.Maps
theorem y4u p w : (method 585 58 (.pointer p) "Check").run Tryz.prog w=.ok (378,.pointer p) w := by kernel_rfl
section
variable{a:DA}{L T s n K:Nat}{x:HA}{cs:Nat->CS}{f:Nat->Option Nat}{N m b0:Nat}{S:Fp}{cur:Nat->Nat}{w w':World}{d r:Nat}
end
end
section
open Go.RowKit Go.Maps
section
variable{a:DA}{L T s n K:Nat}{x:HA}{cs:Nat->CS}{f:Nat->Option Nat}{N m b0:Nat}{S:Fp}{cur:Nat->Nat}{w w':World}{d r:Nat}
theorem y1w p w : (nilAhead 585 58 (.pointer (some p)) "Load").run Tryz.prog w=.ok (some false) w := by kernel_rfl
end
end
section
open Go.RowKit Go.Maps
structure YSA where
 r:Nat
 u:Nat
 h:Nat
 gs:Nat
 pl:Nat
 po:Nat
 mr:Nat
 mh:Nat
 m:Nat
def YSA.hh(x:YSA)(lk:Bool):HA:=⟨x.h,x.gs,x.pl,x.po,x.mr,x.mh,lk⟩
structure YCX where
 b0:Nat
 a:DA
 x:YSA
 L:Nat
 s0:Nat
 s1:Nat
 s:Nat
 n:Nat
 K:Nat
 cs:Nat->CS
 f:Nat->Option Nat
 N:Nat
 k:Nat
 hpl:s0+26<=s1/\s1+26<=s/\s+n<=L/\L<=4096/\n/32=K/\1<=K
 hdr:∀i,a.dirty i
structure YSys(c:YCX)(w:World)(lk:Bool)(last:Option Addr):Prop where
 r:Blk w c.x.r 316 (z1q c.a c.s0 26)
 u:Blk w c.x.u 258 (z0s c.a c.s1 26)
 h:Blk w c.x.h 168 (z2d c.a c.s c.n c.x.gs c.x.mr c.x.mh lk)
 m:Blk w c.x.m 140 (z5l (some (c.a.th 0,0)) (some (c.x.r,0)) (some (c.x.u,0)) (some (c.x.h,0)) last)
 hs:HS c.a c.s c.n c.K (c.x.hh lk) c.cs c.f c.N c.k w
 tab:Tab w
 pay:Pay w
structure z5v(S:Fp)(c:YCX):Prop where
 r:¬S c.x.r
 u:¬S c.x.u
 h:¬S c.x.h
 m:¬S c.x.m
 gs:¬S c.x.gs
 pl:¬S c.x.pl
 mr:¬S c.x.mr
 mh:¬S c.x.mh
 t1:¬S 2
 t2:¬S 0
theorem z5v.no c:z5v Fp.no c:=⟨fun h=>h,fun h=>h,fun h=>h,fun h=>h,fun h=>h,fun h=>h,fun h=>h,fun h=>h,fun h=>h,fun h=>h⟩
structure z1y(c:YCX)(w:World)(S:Fp)(lk:Bool)(last:Option Addr)(cur:Nat->Nat)(T:Nat):Prop where
 dev:Dev c.a c.L T w S cur 0
 sys:YSys c w lk last
 apart:z5v S c
 old:∀k,S k->c.b0<=k
 news:c.b0<=c.x.r/\c.b0<=c.x.u/\c.b0<=c.x.h/\c.b0<=c.x.m/\c.b0<=c.x.gs/\c.b0<=c.x.pl/\c.b0<=c.x.mr/\c.b0<=c.x.mh
 low:2<c.b0/\0<c.b0
section
variable{c:YCX}{w w':World}{S:Fp}{lk:Bool}{last:Option Addr}{cur:Nat->Nat}{T:Nat}
theorem z1y.sz(h:z1y c w S lk last cur T):c.b0<=w:=Nat.le_of_lt (Nat.lt_of_le_of_lt h.news.1 h.sys.r.lt)
theorem z5v.grew{S'}(h:z5v S c)(hs:YSys c w lk last)(hg:Grew S S' w):z5v S' c:=by
 obtain⟨z1,z2,z3,z4,z5⟩:=hs.hs.lt;exact⟨hg.off ⟨hs.r.lt,h.r⟩,hg.off ⟨hs.u.lt,h.u⟩,hg.off ⟨hs.h.lt,h.h⟩,hg.off ⟨hs.m.lt,h.m⟩,hg.off ⟨z2,h.gs⟩,hg.off ⟨z3,h.pl⟩,hg.off ⟨z4,h.mr⟩,hg.off ⟨z5,h.mh⟩,hg.off ⟨hs.tab.size,h.t1⟩,hg.off ⟨hs.pay.size,h.t2⟩⟩
theorem y5v{Z}(h:Pay w)(hc:Chg Z w w')(hz:¬Z 0):Pay w':=fun i hi=>(World.cell?_of_block (w:=w) (hc.block _ h.size hz)).trans (h i hi)
theorem YSys.chg{Z}(h:YSys c w lk last)(hc:Chg Z w w')(hz:z5v Z c):YSys c w' lk last :=
 ⟨hc.blk h.r hz.r,hc.blk h.u hz.u,hc.blk h.h hz.h,hc.blk h.m hz.m,h.hs.chg hc hz.h hz.gs hz.pl hz.mr hz.mh,h.tab.chg hc hz.t1,y5v h.pay hc hz.t2⟩
theorem z1y.step(h:z1y c w S lk last cur T){T' cur' S'}(hd:Dev c.a c.L T' w' S' cur' 0)(hc:Chg S w w')(hg:Grew S S' w):z1y c w' S' lk last cur' T' :=
 {h with
  dev:=hd
  sys:=h.sys.chg hc h.apart
  apart:=h.apart.grew h.sys hg
  old:=fun k hk=>(hg k hk).elim (h.old k) (fun h'=>Nat.le_trans h.sz h') }
theorem z1y.chg(h:z1y c w S lk last cur T){Z}(hc:Chg Z w w')(hz:∀k,S k->¬Z k)(ha:z5v Z c):z1y c w' S lk last cur T :=
 {h with
  dev:=h.dev.chg hc hz
  sys:=h.sys.chg hc ha }
theorem z1y.more_(h:z1y c w S lk last cur T)(hb:Blw w w'):z1y c w' S lk last cur T :=
 h.chg (Z:=Fp.no) (Chg.of_below hb) (fun _ _ h=>h) (z5v.no c)
theorem YSys.ne_h(h:YSys c w lk last):c.x.gs≠c.x.h/\c.x.pl≠c.x.h/\c.x.mr≠c.x.h/\c.x.mh≠c.x.h:=by
 obtain⟨k1,k2,k3,k4,k5,k6,k7,k8⟩:=h.hs.pl_ne;obtain⟨⟨c',hs⟩,_⟩:=h.hs.plc;exact⟨hs.ne_ h.h (by decide),fun e=>k8 e.symm,fun e=>k5 e.symm,fun e=>k6 e.symm⟩
theorem YSys.ne_m(h:YSys c w lk last):c.x.gs≠c.x.m/\c.x.pl≠c.x.m/\c.x.mr≠c.x.m/\c.x.mh≠c.x.m:=by
 obtain⟨k1,k2⟩:=h.hs.map_ne h.m;obtain⟨⟨c',hs⟩,pcs,hp,_⟩:=h.hs.plc;exact⟨hs.ne_ h.m (by decide),hp.ne_ h.m (by decide),fun e=>k1 e.symm,fun e=>k2 e.symm⟩
theorem z1y.lock(h:z1y c w S lk last cur T)(v:Bool):z1y c (w.setCell ⟨c.x.h,7,none⟩ v) S v last cur T:=by
 have hc:Chg (fun j=>j=c.x.h) w (w.setCell ⟨c.x.h,7,none⟩ v):=(Chg.refl (fun j=>j=c.x.h) w).setCell (p:=⟨c.x.h,7,none⟩) (.inl rfl) _;have h2:=h.sys.h.set_ 7 v;rw[w5u]at h2;obtain⟨n1,n2,n3,n4⟩:=h.sys.ne_h;have Ga:=h.low;have Gb:=h.news;exact { h with
  dev:=h.dev.chg hc (fun k hk e=>h.apart.h (e▸hk))
  sys:=⟨hc.blk h.sys.r (h.sys.r.ne_ h.sys.h (by decide)),hc.blk h.sys.u (h.sys.u.ne_ h.sys.h (by decide)),h2,hc.blk h.sys.m (h.sys.m.ne_ h.sys.h (by decide)),
   ⟨h2,h.sys.hs.plc.chg hc n1 n2,h.sys.hs.res.chg hc n3,h.sys.hs.held.chg hc n4,h.sys.hs.ne⟩,h.sys.tab.chg hc oM,y5v h.sys.pay hc oM⟩ }
theorem z1y.setLast(h:z1y c w S lk last cur T) v:z1y c (w.setCell (c.x.m,4) (.pointer v)) S lk v cur T:=by
 have hc:Chg (fun j=>j=c.x.m) w (w.setCell (c.x.m,4) (.pointer v)):=(Chg.refl (fun j=>j=c.x.m) w).setCell (p:=⟨c.x.m,4,none⟩) (.inl rfl) _;have h2:=h.sys.m.set_ 4 (.pointer v);rw[v0u]at h2;obtain⟨n1,n2,n3,n4⟩:=h.sys.ne_m;have Gb:=h.low;have Gc:=h.news;have Ga:¬(c.x.h=c.x.m):=h.sys.h.ne_ h.sys.m (by decide);exact { h with
  dev:=h.dev.chg hc (fun k hk e=>h.apart.m (e▸hk))
  sys:=⟨hc.blk h.sys.r (h.sys.r.ne_ h.sys.m (by decide)),hc.blk h.sys.u (h.sys.u.ne_ h.sys.m (by decide)),hc.blk h.sys.h Ga,h2,
   h.sys.hs.chg hc Ga n1 n2 n3 n4,h.sys.tab.chg hc oM,y5v h.sys.pay hc oM⟩ }
def y1n(t:TypeId):Prop:=t≠316/\t≠258/\t≠168/\t≠140/\t≠340/\t≠342
theorem z1y.apart1(h:z1y c w S lk last cur T){g}{t:TypeId}{cs}(hB:Blk w g t cs)(hn:c.b0<=g)(ht:y1n t):z5v (fun j=>j=g) c:=by
 obtain⟨k1,k2⟩:=h.sys.hs.map_ne hB;obtain⟨⟨c',hs⟩,pcs,hp,_⟩:=h.sys.hs.plc;obtain⟨t1,t2,t3,t4,t5,t6⟩:=ht;have Ga:=h.low;exact⟨h.sys.r.ne_ hB (Ne.symm t1),h.sys.u.ne_ hB (Ne.symm t2),h.sys.h.ne_ hB (Ne.symm t3),h.sys.m.ne_ hB (Ne.symm t4),hs.ne_ hB (Ne.symm t5),hp.ne_ hB (Ne.symm t6),fun e=>k1 e.symm,fun e=>k2 e.symm,fun e=>by have:=e;omega,fun e=>by have:=e;omega⟩
theorem z1y.apartM(h:z1y c w S lk last cur T){H:Type}{P:Program}{k:TypeId}{R:Value->Option (DataW H×List MemPlace)}{b n:Nat}{D:DataW H}(hm:w.ownsMap P k R b n D)(hn:c.b0<=b)(h1:b≠c.x.mr)(h2:b≠c.x.mh):z5v (fun j=>j=b) c:=by
 obtain⟨⟨c',hs⟩,pcs,hp,_⟩:=h.sys.hs.plc;have Ga:=h.low;exact⟨fun e=>z0p hm h.sys.r e.symm,fun e=>z0p hm h.sys.u e.symm,fun e=>z0p hm h.sys.h e.symm,fun e=>z0p hm h.sys.m e.symm,fun e=>z0p hm hs e.symm,fun e=>z0p hm hp e.symm,fun e=>h1 e.symm,fun e=>h2 e.symm,fun e=>by have:=e;omega,fun e=>by have:=e;omega⟩
end
structure YTxS(c:YCX)(g:Nat)(w:World)(S:Fp)(t:TX)(D:DataW Unit)(n:Nat)(cur:Nat->Nat)(T:Nat):Prop where
 base:z1y c w S true (some (g,0)) cur T
 tx:Blk w g 150 (z1c c.x.m t)
 maps:TxM w t D n
 outg:¬S g
 outm:¬S t.words/\¬S t.inner/\¬S t.own/\¬S t.freed/\¬S t.held/\¬S t.cover
 newg:c.b0<=g
 neww:c.b0<=t.words
 nem:t.words≠c.x.mr/\t.words≠c.x.mh
section
variable{c:YCX}{g:Nat}{w w':World}{S:Fp}{t:TX}{D:DataW Unit}{n:Nat}{cur:Nat->Nat}{T:Nat}
theorem YTxS.step(h:YTxS c g w S t D n cur T){T' cur' v e}(hr:z0x c.a c.L T' w S cur' 0 v e w'):e=.returned v/\∃S',YTxS c g w' S' t D n cur' T'/\Chg S w w'/\Grew S S' w:=by
 obtain⟨he,S',hd,hc,hg⟩:=hr;have hm:=h.maps;obtain⟨o1,o2,o3,o4,o5,o6⟩:=h.outm;exact⟨he,S',⟨h.base.step hd hc hg,hc.blk h.tx h.outg,hm.chg hc h.outm,hg.off ⟨h.tx.lt,h.outg⟩,⟨hg.off ⟨hm.words.lt,o1⟩,hg.off ⟨hm.inner.lt,o2⟩,hg.off ⟨hm.own.lt,o3⟩,hg.off ⟨hm.freed.lt,o4⟩,hg.off ⟨hm.held.lt,o5⟩,hg.off ⟨hm.cover.lt,o6⟩⟩,h.newg,h.neww,h.nem⟩,hc,hg⟩
theorem YTxS.more_(h:YTxS c g w S t D n cur T)(hb:Blw w w'):YTxS c g w' S t D n cur T :=
 {h with
  base:=h.base.more_ hb
  tx:=(Chg.of_below (S:=Fp.no) hb).blk h.tx (fun h=>h)
  maps:=h.maps.chg (Z:=Fp.no) (Chg.of_below hb) ⟨fun h=>h,fun h=>h,fun h=>h,fun h=>h,fun h=>h,fun h=>h⟩ }
theorem z1y.txSet{lk last}(h:z1y c w S lk last cur T){cs}(ht:Blk w g 150 cs)(hS:¬S g)(hn:c.b0<=g)(i:Nat)(u:Value):z1y c (w.setCell (g,i) u) S lk last cur T :=
 h.chg (Z:=fun j=>j=g) ((Chg.refl (fun j=>j=g) w).setCell (p:=⟨g,i,none⟩) (.inl rfl) u) (fun k hk e=>hS (e▸hk)) (h.apart1 ht hn (by unfold y1n;decide))
theorem YTxS.set(h:YTxS c g w S t D n cur T)(i:Nat)(u:Value)(t':TX)(hs:(z1c c.x.m t).setIfInBounds i u=z1c c.x.m t')
  (e:t'.words=t.words/\t'.inner=t.inner/\t'.own=t.own/\t'.freed=t.freed/\t'.held=t.held/\t'.cover=t.cover):YTxS c g (w.setCell (g,i) u) S t' D n cur T:=by
 have hc:Chg (fun j=>j=g) w (w.setCell (g,i) u):=(Chg.refl (fun j=>j=g) w).setCell (p:=⟨g,i,none⟩) (.inl rfl) u;have h2:=h.tx.set_ i u;rw[hs]at h2;have hm:=h.maps;have Ga:TxM (w.setCell (g,i) u) t D n:=hm.chg hc ⟨z0p hm.words h.tx,z0p hm.inner h.tx,z0p hm.own h.tx,z0p hm.freed h.tx,z0p hm.held h.tx,z0p hm.cover h.tx⟩;obtain⟨e1,e2,e3,e4,e5,e6⟩:=e;refine⟨h.base.txSet h.tx h.outg h.newg i u,h2,⟨?_,?_,?_,?_,?_,?_,?_⟩,h.outg,?_,h.newg,?_,?_⟩
 ·rw[e1];exact Ga.words
 ·rw[e2];exact Ga.inner
 ·rw[e3];exact Ga.own
 ·rw[e4];exact Ga.freed
 ·rw[e5];exact Ga.held
 ·rw[e6];exact Ga.cover
 ·rw[e1,e2,e3,e4,e5,e6];exact Ga.ne
 ·rw[e1,e2,e3,e4,e5,e6];exact h.outm
 ·rw[e1];exact h.neww
 ·rw[e1];exact h.nem
structure x0x(c:YCX)(g:Nat)(t:TX)(N:Nat):Prop where
 r:c.x.r<N
 u:c.x.u<N
 h:c.x.h<N
 m:c.x.m<N
 gs:c.x.gs<N
 pl:c.x.pl<N
 mr:c.x.mr<N
 mh:c.x.mh<N
 t1:2<N
 t2:0<N
 g:g<N
 words:t.words<N
 inner:t.inner<N
 own:t.own<N
 freed:t.freed<N
 held:t.held<N
 cover:t.cover<N
theorem YTxS.lts(h:YTxS c g w S t D n cur T):x0x c g t w :=
 ⟨h.base.sys.r.lt,h.base.sys.u.lt,h.base.sys.h.lt,h.base.sys.m.lt,h.base.sys.hs.lt.2.1,h.base.sys.hs.lt.2.2.1,h.base.sys.hs.lt.2.2.2.1,h.base.sys.hs.lt.2.2.2.2,h.base.sys.tab.size,h.base.sys.pay.size,h.tx.lt,h.maps.words.lt,h.maps.inner.lt,h.maps.own.lt,h.maps.freed.lt,h.maps.held.lt,h.maps.cover.lt⟩
theorem YTxS.high{N Z}(h:YTxS c g w S t D n cur T)(hl:x0x c g t N)(hc:Chg Z w w')(hz:∀k,Z k->N<=k)(hS:∀k,S k->¬Z k):YTxS c g w' S t D n cur T:=by
 have Ga:∀k,k<N->¬Z k:=fun k hk h=>by have:=hz k h;omega
 refine { h with
  base:=h.base.chg hc hS ⟨Ga _ hl.r,Ga _ hl.u,Ga _ hl.h,Ga _ hl.m,Ga _ hl.gs,Ga _ hl.pl,Ga _ hl.mr,Ga _ hl.mh,Ga _ hl.t1,Ga _ hl.t2⟩
  tx:=hc.blk h.tx (Ga _ hl.g)
  maps:=h.maps.chg hc ⟨Ga _ hl.words,Ga _ hl.inner,Ga _ hl.own,Ga _ hl.freed,Ga _ hl.held,Ga _ hl.cover⟩ }
theorem YTxS.other{N}(h:YTxS c g w S t D n cur T)(hl:x0x c g t N){b}(hb:N<=b)(hS:¬S b)(i:Nat)(u:Value):YTxS c g (w.setCell (b,i) u) S t D n cur T :=
 h.high (Z:=fun j=>j=b) hl ((Chg.refl (fun j=>j=b) w).setCell (p:=⟨b,i,none⟩) (.inl rfl) u) (fun k hk=>by rw[hk];exact hb) (fun k hk e=>hS (e▸hk))
theorem YTxS.put(h:YTxS c g w S t D n cur T){D':DataW Unit}{n':Nat}(hg:w.grownBy w' (some t.words))(ho:w'.ownsMap Tryz.prog 32 z9g t.words n' D'):YTxS c g w' S t D' n' cur T:=by
 have hc:Chg (fun j=>j=t.words) w w':=(Chg.refl (fun j=>j=t.words) w).grown hg (fun g hg => .inl (by cases hg;rfl));have hm:=h.maps;have hb:=h.base;exact⟨hb.chg hc (fun k hk e=>h.outm.1 (e▸hk)) (hb.apartM hm.words h.neww h.nem.1 h.nem.2),
  hc.blk h.tx (fun e=>z0p hm.words h.tx e.symm),⟨ho,hc.map hm.inner hm.ne.1,hc.map hm.own hm.ne.2.1,hc.map hm.freed hm.ne.2.2.1,hc.map hm.held hm.ne.2.2.2.1,hc.map hm.cover hm.ne.2.2.2.2,hm.ne⟩,h.outg,h.outm,h.newg,h.neww,h.nem⟩
end
end
section
open Go.RowKit Go.Maps
def Vac(s K:Nat)(cs:Nat->CS)(f:Nat->Option Nat)(cl k i:Nat):Prop:=k<K/\(cs k).dv=true/\(cs k).cl=cl/\i<perC cl/\((cs k).bs i).st=176/\f (offO s cs k i)=none
def SchP(s K:Nat)(cs:Nat->CS)(f:Nat->Option Nat)(cl kind:Nat)(v:Value):Prop :=
 (v=.tuple #[[()],(),.int .i64 5]/\∀k i,¬Vac s K cs f cl k i) \/
 ∃k i,Vac s K cs f cl k i/\v=.tuple #[(fptr s cs kind k i),[s+32*k],()]
section
variable{a:DA}{L T s n K:Nat}{x:HA}{cs:Nat->CS}{f:Nat->Option Nat}{N m b0:Nat}{S:Fp}{cur:Nat->Nat}{w w':World}
theorem x7v z (hz:(Lit.int .i64 z).wf=true) W:(Instr.lookup 166 (.map none) [z] false).run Tryz.prog W=.ok false W :=
 Maps.look_nil false y4r Tryz.underlying166 (by kernel_rfl) (keyOf_int_mk Tryz.underlying3 hz)
theorem x8j(h:DS a L T s n K x cs f N m b0 S cur w) cl kind (hk0:0<kind) (hk8:kind<128) :
  () 276 #[(x.h,0),(),[cl],[[kind]]] w fun e w'=>∃v,e=.returned v/\SchP s K cs f cl kind v/\Blw w w':=by
 have Ga:=h.few;have Gl:=hid (x6y h.hs.plc Ga.1 oM cl);have G1:Hid (∀k,k<K->(cs k).dv=true->∀W,Blw w W->() 278 #[(x.h,0),[s+32*k],[[kind]]] W fun e w'=>∃v,e=.returned v/\w4c s cs f kind k v/\Blw W w'):=hid (fun k hk hd W hW=>y5h (h.below hW) hk hd kind hk0 hk8);have HD:=hid h.hs.heap;have G3:w.cell? (x.h,3)=some (x.gs,0):=h.hs.heap.cell 3;have HL:Hid (∀y∈z4v s cs cl K,∃k,k<K/\(cs k).dv=true/\(cs k).cl=cl/\y=((s+32*k:Nat):Int)):=hid (fun y hy=>w0h hy);have Gw:Hid (∀k,k<K->(cs k).dv=true->(cs k).cl=cl->((s+32*k:Nat):Int)∈z4v s cs cl K):=hid (fun k h1 h2 h3=>w5a h1 h2 h3);have Gv:=hid Ga;have Gx:=hid (Nat.le_trans (y8r s cs cl K) Ga.1);clear h Ga;unfold HA.p at*;dsimp only at*;generalize z4v s cs cl K=l at*;go_enter Tryz.func276,Tryz.ntmps276
 go_wp2_with (go_at_call 316;refine Gl.out.mono ?_;rintro e w1⟨A,q,c,rfl,Gd,Gq⟩;refine stop ?_)
 unfold Stop;have Gz:=hid (z0d.of_own Gd);have Gc:=hid Gq;have Gt:q<=128:=by have:=Gd.1;rw[z6u]at this;have:=Gx.out;omega
 have Gn:=hid (show l.length=q by have:=Gd.1;rw[z6u]at this;omega);clear Gd Gq Gl G3;go_wp2_with fail
 have Gm:Hid (Blw w1 w1):=Below.refl _ _;go_loopw [23] (fun i wr=>∃(j:Nat),j<=q/\i=↑[j]/\Hid (∀t,t<j->∀k,k<K->(cs k).dv=true->(cs k).cl=cl->l[t]?=some ((s+32*k:Nat):Int)->∀i,¬Vac s K cs f cl k i)/\Hid (Blw w1 wr)) (fun i _=>q-(RowKit.intOf i).toNat)
 case atStart=>exact⟨0,Nat.zero_le _,rfl,hid (fun t ht=>oM),Gm⟩
 case round =>
  clear Gm;obtain⟨j,hj,rfl,HA,H⟩:=hrel;by_cases hlt:j<q
  ·have Gi:j<l.length:=by rw[Gn.out];exact hlt
   obtain⟨b,G4,hA,G5,Gb⟩:=(Gz.out.below H.out).plain oM oM;have f0:wr.cell? (b,G4+j)=some (.int .i64 l[j]):=Gb j _ (by simp[z2s,Gi]);subst hA;obtain⟨k,hk,Gh,Gs,hy⟩:=HL.out l[j] (List.getElem_mem Gi);have Gg:=hid (show l[j]?=some ((s+32*k:Nat):Int) by rw[List.getElem?_eq_getElem Gi,hy]);rw[hy]at f0;have G7:(0:Int)<=(j:Int):=oM;have G8:(j:Int)<(q:Int):=oM;have Gk:=hid (Gc.out.trans (H.out.mono Gc.out.size));have f6:wr.cell? (x.h,6)=some (.map none):=(HD.out.below Gk.out HD.out.lt).cell 6;have Gp:=hid (G1.out k hk Gh wr Gk.out);have G6:=x7v ((s+32*k:Nat):Int) (WalkArith.wf_i64 ⟨oM,by have:=Gv.out;omega⟩);have HK:=hid (show k<K/\(cs k).dv=true/\(cs k).cl=cl from⟨hk,Gh,Gs⟩);clear Gb hy hk Gh Gs;generalize hv:((s+32*k:Nat):Int)=v at*;have HV:=hid hv;clear hv;go_wp2_with (go_at_call 278;refine Gp.out.mono ?_;rintro e w2⟨v2,rfl,hP,Gr⟩;refine stop ?_)
   unfold Stop;have Ge:=hid (H.out.trans (Gr.mono H.out.size));clear Gr H Gp f0 f6;rcases hP with ⟨rfl,hnone⟩|⟨i,hi,hst,hfi,rfl⟩
   ·have Gj:Hid (∀t,t<j+1->∀k,k<K->(cs k).dv=true->(cs k).cl=cl->l[t]?=some ((s+32*k:Nat):Int)->∀i,¬Vac s K cs f cl k i):=hid (fun t ht k' hk' hd' hc' hl' i' hv'=>by
     by_cases e:t=j
     ·subst e
      have h1:=Gg.out;rw[hl',<- HV.out]at h1;simp at h1;have h2:k'=k:=oM;subst h2;obtain⟨_,_,h3,h4,h5,h6⟩:=hv';exact hnone i' (by rw[h3];exact h4) h5 h6
     ·exact HA.out t oM k' hk' hd' hc' hl' i' hv')
    clear hnone HA Gg HV;go_wp2;go_roundw
    case rel =>
     first
      |exact⟨j+1,oM,by go_num,Gj,Ge⟩
      |(
        repeat apply Exists.intro
        refine⟨?_,rfl⟩;exact⟨j+1,oM,by go_num,Gj,Ge⟩)
    case measure=>simp[RowKit.intOf];omega
   ·have G0:Hid (Vac s K cs f cl k i):=hid ⟨HK.out.1,HK.out.2.1,HK.out.2.2,by rw[<- HK.out.2.2];exact hi,hst,hfi⟩
    have Gf:=hid (Gc.out.trans (Ge.out.mono Gc.out.size));clear hi hst hfi HA Gg HK;generalize hfp:fptr s cs kind k i=fp at*;have Gu:=hid hfp;clear hfp;go_wp2;go_ret3
    exact⟨_,rfl,.inr ⟨k,i,G0.out,by rw[HV.out,Gu.out];rfl⟩,Gf.out⟩
  ·obtain rfl:q=j:=oM
   have Gy:Hid (∀k i,¬Vac s K cs f cl k i):=hid (fun k i hv=>by
    have h1:=Gw.out k hv.1 hv.2.1 hv.2.2.1;obtain⟨t,ht,G2⟩:=List.getElem_of_mem h1;exact HA.out t (by have:=Gn.out;omega) k hv.1 hv.2.1 hv.2.2.1 (by rw[List.getElem?_eq_getElem ht,G2]) i hv)
   have Gf:=hid (Gc.out.trans (H.out.mono Gc.out.size));clear HA;go_wp2;go_ret3
   exact⟨_,rfl,.inl ⟨rfl,Gy.out⟩,Gf.out⟩
end
end
section
open Go.RowKit Go.Maps
theorem v1j{a L T w S cur}(h:Dev a L T w S cur 0){A m c base p ln cl g}(ho:w.ownsRow base 225 3 (.slice A m c) m (z0h p))(hb:∀k,S k->k<base)(hp:w3p ln cl g p)(hl:ln+32<=L)(hc:cl<5)(hg:g<65536)(hT:T+200<=1000000000):
  () 46 #[.slice A m c,memV a] w (z0x a L (T+200) w S (fmtR cur ln cl g) 0 ()):=by
 obtain⟨p1,p2,rfl,Gg,Gh⟩:=hp;obtain⟨Gd,Gi,Ga⟩:=z1k (L:=L) Gg (fun e he=>by have:=z8n hc hg he;exact⟨this.1,oM,this.2.2.2⟩) cur;obtain⟨Ge,Gj,Gb⟩:=z1k (L:=L) Gh (fun e he=>by simp at he;subst he;exact⟨by show 64*ln%8=0;omega,by show 64*ln<64*L;omega,w1d hc hg⟩) (wrS cur (fmtW ln cl g));have hm:(p1++p2).length=m:=by have:=ho.1;rw[z0o]at this;omega
 have Gk:=z3b cl;rw[x4s]at Ga;simp only[List.length_append,List.length_cons,List.length_nil]at hm Gb;refine(z6k h A m c _ (z0d.of_own ho) (z7v ho hb) (z4x Gd Ge) oM oM).mono ?_;rintro e w'⟨he,S',hd,Gc,Gf⟩;rw[z3v,Gi,Gj]at hd;exact⟨he,S',hd.more oM oM,Gc,Gf⟩
def z8b(a:DA)(L T s n K:Nat)(x:HA)(cs:Nat->CS)(f:Nat->Option Nat)(N m b0:Nat)(S:Fp)(cur:Nat->Nat)(w:World)(cl:Nat)(e:Ending)(w':World):Prop :=
 ∃k S',k<K/\(cs k).dv=false/\e=.returned (.tuple #[[s+32*k],()])/\DS a L (T+200) s n K x (updC cs k (newC cl (cs k).g)) f N m b0 S' (fmtR cur (s+32*k) cl (cs k).g) w'/\Chg (fun j=>S j\/x.fp j) w w'/\Grew S S' w
section
variable{a:DA}{L T s n K:Nat}{x:HA}{cs:Nat->CS}{f:Nat->Option Nat}{N m b0:Nat}{S:Fp}{cur:Nat->Nat}{w w':World}
theorem DS.undiv(h:DS a L T s n K x cs f N m b0 S cur w){k}(hk:k<K)(hd:(cs k).dv=false):cur (8*(s+32*k))=z4n (cs k).g/\0<(cs k).g/\(cs k).g<65536:=by
 have:=h.ok k hk;unfold CSok at this;rw[hd]at this;exact this
theorem DS.claimed{T' S' w1 k cl}(h:DS a L T s n K x cs f N m b0 S cur w)(hk:k<K)(hd:(cs k).dv=false)(hc:cl<5)(hdev:Dev a L T' w1 S' (fmtR cur (s+32*k) cl (cs k).g) 0)(hch:Chg S w w1)(hg:Grew S S' w):
  DS a L T' s n K x (updC cs k (newC cl (cs k).g)) f N m b0 S' (fmtR cur (s+32*k) cl (cs k).g) ((w1.setCell (x.pl,x.po+k*4+1) [cl]).setCell (x.pl,x.po+k*4+2) ()) /\
   Chg (fun j=>S j\/x.fp j) w ((w1.setCell (x.pl,x.po+k*4+1) [cl]).setCell (x.pl,x.po+k*4+2) ()):=by
 obtain⟨hw,Gl,Gh⟩:=h.undiv hk hd;obtain⟨o1,o2,o3,o4,o5⟩:=h.off;obtain⟨z1,z2,z3,z4,z5⟩:=h.hs.lt;have Gc:HS a s n K x cs f N m w1:=h.hs.chg hch o1 o2 o3 o4 o5;obtain⟨n1,n2,n3,n4,n5,n6,n7,n8⟩:=Gc.pl_ne;have Ge:Chg x.fp w1 ((w1.setCell (x.pl,x.po+k*4+1) [cl]).setCell (x.pl,x.po+k*4+2) ()):=((Chg.refl _ w1).setCell (.inl (.inl rfl)) _).setCell (.inl (.inl rfl)) _;have Gf:Chg (fun j=>j=x.pl) w1 ((w1.setCell (x.pl,x.po+k*4+1) [cl]).setCell (x.pl,x.po+k*4+2) ()):=((Chg.refl (fun j=>j=x.pl) w1).setCell (p:=⟨x.pl,x.po+k*4+1,none⟩) (.inl rfl) _).setCell (p:=⟨x.pl,x.po+k*4+2,none⟩) (.inl rfl) _;have Gp:∀j,j≠k->∀i,8*(s+32*j)<=i->i<8*(s+32*j)+256->(i<8*(s+32*k)\/8*(s+32*k)+256<=i):=fun j hj i h1 h2=>oM
 have Gi:∀j,j<K->CSok (fmtR cur (s+32*k) cl (cs k).g) (s+32*j) (updC cs k (newC cl (cs k).g) j):=fun j hj=>by
  unfold updC;by_cases e:j=k
  ·subst e;rw[if_pos rfl];exact v0v hc Gl Gh
  ·rw[if_neg e]
   exact(h.ok j hj).same (fun i h1 h2 _=>y0z hc Gh (Gp j e i h1 h2))
 have Gj:=Gc.plc.claim hk (newC cl (cs k).g);rw[show(newC cl (cs k).g).cls=(cl:Int)from rfl,show(newC cl (cs k).g).own=0 from rfl]at Gj;have Gn:HS a s n K x (updC cs k (newC cl (cs k).g)) f N m ((w1.setCell (x.pl,x.po+k*4+1) [cl]).setCell (x.pl,x.po+k*4+2) ()) :=
  ⟨Gf.blk Gc.heap n8,Gj,Gc.res.chg Gf (fun e=>n1 e.symm),Gc.held.chg Gf (fun e=>n2 e.symm),Gc.ne⟩
 have Gd:∀g,g<b0->¬S g:=fun g hgb hs=>by have:=h.lo.2.2.2.2.2.2.2 g hs;omega
 have Gb:∀g,g<b0->¬x.fp g:=fun g hgb hs=>by
  obtain⟨l1,l2,l3,l4,l5,l6,l7,l8⟩:=h.lo;rcases hs with h|h|h<;>omega
 have Ga:∀g,¬S g->g<w->¬S' g:=fun g h1 h2=>hg.off ⟨h2,h1⟩
 have Gk:∀g,S' g->¬x.fp g:=fun g h1 h2=>by
  rcases h2 with rfl|rfl|rfl
  ·exact Ga _ o3 z3 h1
  ·exact Ga _ o4 z4 h1
  ·exact Ga _ o5 z5 h1
 obtain⟨l1,l2,l3,l4,l5,l6,l7,l8⟩:=h.lo;refine⟨⟨hdev.chg Ge Gk,Gn,Gi,w5j hc Gh h.bnd,?_,(h.tab.chg hch (Gd _ l1)).chg Ge (Gb _ l1),?_,⟨l1,l2,l3,l4,l5,l6,l7,fun j hj=>?_⟩,⟨Ga _ o1 z1,Ga _ o2 z2,Ga _ o3 z3,Ga _ o4 z4,Ga _ o5 z5⟩,h.hK⟩,?_⟩
 ·rintro o p hop
  obtain⟨j,i,hj,Gg,hi,ho,hp⟩:=h.res o p hop;have Gm:j≠k:=fun e=>by rw[e,hd]at Gg;cases Gg
  have e:updC cs k (newC cl (cs k).g) j=cs j:=by unfold updC;rw[if_neg Gm]
  exact⟨j,i,hj,by rw[e];exact Gg,by rw[e];exact hi,by rw[e];exact ho,hp⟩
 ·intro i hi
  have h1:=(World.cell?_of_block (w:=w) (a:=⟨0,i,none⟩) (hch.block _ h.pay.size (Gd _ l2))).trans (h.pay i hi);exact(World.cell?_of_block (w:=w1) (Ge.block _ (Nat.lt_of_lt_of_le h.pay.size hch.size) (Gb _ l2))).trans h1
 ·rcases hg j hj with h'|h'
  ·exact l8 j h'
  ·omega
 ·exact(hch.mono (fun j hj => .inl hj)).trans (S':=x.fp) Ge (fun j hj => .inl (.inr hj))
def w7r(w:World)(g:Nat)(er hp:Value)(wx:World):Prop:=er=↑()/\∃gh,hp=↑(gh,0)/\Blk wx gh 249 #[.int .i64 (-1),.int .i64 (-1),#[g]]/\Blw w wx
theorem x4i{w wx g gh}(h1:Blk wx gh 249 #[.int .i64 (-1),.int .i64 (-1),#[g]])(h2:Blw w wx):Hid (w7r w g () (gh,0) wx):=hid ⟨rfl,gh,rfl,h1,h2⟩
theorem x7b(h:DS a L T s n K x cs f N m b0 S cur w) cl (hc:cl<5) (hf:∃k,k<K/\(cs k).dv=false) (hT:T+200<=1000000000) :
  () 317 #[(x.gs,0),(),[cl]] w (z8b a L T s n K x cs f N m b0 S cur w cl):=by
 have Gl:=h.few;have hL:=h.hL;have HD:=hid h;have Gv:=hid (w6s h.hs.plc Gl.1 oM hf);have Gu:=hid (z2i cl hc w h.pay);have Gr:=hid (z9u h.dev);have hm:=z1x (some (a.th 0,0));obtain⟨cc,g0,g1⟩:=h.hs.plc.sets;have e1:((perC cl:Int)==0)=false:=by rw[beq_eq_false_iff_ne];have:=z3b cl;omega
 generalize perC cl=r at*;have HC:=hid hc;clear h hf hc;unfold HA.p at*;unfold z8b;unfold memV at g0;dsimp only at*;go_enter Tryz.func317,Tryz.ntmps317
 go_wp2_with (first
  |(go_at_call 173;refine Gu.out.mono ?_;rintro e w1⟨rfl,rfl⟩)
  |(go_at_call 76;refine Gr.out.mono ?_;rintro e w1⟨rfl,rfl⟩)
  |(go_at_call 342;refine Gv.out.mono ?_;rintro e w1⟨k,hk,Gg,rfl,rfl⟩;refine stop ?_))
 unfold Stop;obtain⟨G5,Gm,Gi⟩:=HD.out.undiv hk Gg;have Gt:Hid (∀W,Blw w W->() 229 #[(57,a.th 0,0),[s+32*k]] W fun e w'=>e=.returned (.tuple #[.agg #[.int .i64 (-1),.int .i64 (-1),.int .u16 ((cs k).g:Int)],()])/\Blw W w'):=hid (fun W hW=>z9k (HD.out.dev.below hW) (HD.out.tab.below hW) (s+32*k) (cs k).g (HD.out.line hk) Gm Gi G5);have Gw:Hid (∀W,Blw w W->() 319 #[[s+32*k],.agg #[[cl],(),.int .u16 ((cs k).g:Int)]] W (y1j W (w3p (s+32*k) cl (cs k).g))):=hid (fun W hW=>x6v (s+32*k) cl (cs k).g (by have:=HD.out.line hk;omega) HC.out Gm Gi W (HD.out.tab.below hW) (HD.out.pay.below hW));have Gz:Hid (∀W A m c p,Blw w W->W.ownsRow w.heap.size 225 3 (.slice A m c) m (z0h p)->w3p (s+32*k) cl (cs k).g p->() 46 #[.slice A m c,(57,a.th 0,0)] W (z0x a L (T+200) W S (fmtR cur (s+32*k) cl (cs k).g) 0 ())):=hid (fun W A m c p hW ho hp=>v1j (HD.out.dev.below hW) ho HD.out.dev.lt hp (HD.out.line hk) HC.out Gi hT);have Gq:Hid (∀S' w1,Dev a L (T+200) w1 S' (fmtR cur (s+32*k) cl (cs k).g) 0->Chg S w w1->Grew S S' w->_):=hid (fun S' w1 h1 h2 h3=>HD.out.claimed (T':=T+200) (S':=S') (w1:=w1) hk Gg HC.out h1 h2 h3);have Gh:Hid (∀W,Plc a s K ⟨x.gs,x.pl,x.po⟩ cs W->W.cell? (x.pl,x.po+k*4)=some ↑[s+32*k]/\W.cell? (x.pl,x.po+k*4+1)=some (.int .i64 (-1))/\W.cell? (x.pl,x.po+k*4+2)=some (.int .i64 (-1))):=hid (fun W hW=>by
  obtain⟨q0,q1,q2,_⟩:=hW.facts hk;unfold CS.cls CS.own at*;rw[Gg]at q1 q2;exact⟨q0,q1,q2⟩)
 have Gs:=hid (show k<K/\(cs k).dv=false from⟨hk,Gg⟩);obtain⟨q0,q1,q2⟩:=Gh.out w HD.out.hs.plc;obtain⟨_,GE,GF,_,_⟩:=HD.out.hs.lt;clear G5 Gm Gi hk Gg Gv Gu Gr q1 q2;generalize hgg:(cs k).g=g at*;have GA:=hid hgg;clear hgg;generalize hv:((s+32*k:Nat):Int)=v at*;have HV:=hid hv;clear hv;go_wp2_with fail
 go_cut [10,11]from 43 to 94 (fun er hp wx=>Hid (w7r w g er hp wx))
 case first =>
  go_region_with (go_at_call 229;refine(Gt.out _ (by first|exact(Below.refl _ _).drew|exact(Below.refl _ _).drew.alloc (nL _) _)).mono ?_;rintro e w2⟨rfl,Gc⟩;have Ga:=hid Gc;(first|(have k2:Blk w2 w.heap.size 249 #[(),(),.int .u16 0]:=(Blk.new w.drew _ _).below Gc (Blk.new w.drew _ _).lt;have p0:w2.cell? (w,0)=some ↑():=k2.cell 0;have p1:w2.cell? (w,1)=some ↑():=k2.cell 1;have p2:w2.cell? (w,2)=some (.int .u16 0):=k2.cell 2;have z0:w2.frozen? (w,0)=false:=k2.frozen 0;have z1:w2.frozen? (w,1)=false:=k2.frozen 1;have z2:w2.frozen? (w,2)=false:=k2.frozen 2;have K2:Hid (Blk w2 w.heap.size 249 #[(),(),.int .u16 0]):=hid k2;clear k2)|(have k2:Blk w2 w.heap.size 249 #[(),(),.int .u16 0]:=((Blk.new w _ _).drew).below Gc ((Blk.new w _ _).drew).lt;have p0:w2.cell? (w,0)=some ↑():=k2.cell 0;have p1:w2.cell? (w,1)=some ↑():=k2.cell 1;have p2:w2.cell? (w,2)=some (.int .u16 0):=k2.cell 2;have z0:w2.frozen? (w,0)=false:=k2.frozen 0;have z1:w2.frozen? (w,1)=false:=k2.frozen 1;have z2:w2.frozen? (w,2)=false:=k2.frozen 2;have K2:Hid (Blk w2 w.heap.size 249 #[(),(),.int .u16 0]):=hid k2;clear k2)|skip);clear Gc)
  all_goals
   go_wp2_with fail
   go_meet;first
    |(
      have GC:=((K2.out.set_ 0 (.int .i64 (-1))).set_ 1 (.int .i64 (-1))).set_ 2 #[g];have GB:Blw w w2:=by first|exact((Below.refl w.heap.size w).drew.alloc (nL _) _).trans (Ga.out.mono (by simp))|exact((Below.refl w.heap.size w).alloc (nL _) _).drew.trans (Ga.out.mono (by simp))
      exact x4i GC (((GB.setCell (p:=⟨w.heap.size,0,none⟩) (nL _) _).setCell (p:=⟨w.heap.size,1,none⟩) (nL _) _).setCell (p:=⟨w.heap.size,2,none⟩) (nL _) _))
    |exact x4i (Blk.new _ _ _) (((Below.refl w.heap.size w).drew.trans Ga.out).alloc Ga.out.size _)
 case rest =>
  obtain⟨rfl,gh,rfl,G7,G0⟩:=hcut.out;have Gj:=hid G7;have Gp:=hid G0;clear G7 G0 hcut;clear Gt q0;have Gx:=hid (HD.out.hs.plc.below Gp.out);obtain⟨q0,q1,q2⟩:=Gh.out wc Gx.out;have k2:wc.cell? (gh,2)=some ↑#[g]:=Gj.out.cell 2;go_wp2_with fail
  refine z0f (fun w'=>Blw wc w') 14 [(true,0),(true,1),(true,2),(true,3),(true,4),(true,5),(true,6),(true,7),(true,8),(false,9),(true,10),(true,11),(true,12),(false,13)] (by kernel_rfl) (by kernel_rfl) (Below.refl _ _).drew ?_;clear q0 q1 q2 k2;refine tkS (x.pl,x.po+k*4) (fun w' hS=>?_) ?_
  ·go_simp
  refine tkS (x.pl,x.po+k*4) (fun w' hS=>?_) ?_
  ·go_simp
  refine tkS (x.pl,x.po+k*4) (fun w' hS=>?_) ?_
  ·go_simp
  refine tkS [v] (fun w' hS=>?_) ?_
  ·have f0:w'.cell? (x.pl,x.po+k*4)=some ↑[v]:=(Gh.out w' (Gx.out.below hS)).1
   go_simp
  refine tkS [cl] (fun w' hS=>?_) ?_
  ·go_simp
  refine tkS () (fun w' hS=>?_) ?_
  ·go_simp
  refine tkS (gh,2) (fun w' hS=>?_) ?_
  ·go_simp
  refine tkS #[g] (fun w' hS=>?_) ?_
  ·have f0:w'.cell? (gh,2)=some ↑#[g]:=(Gj.out.below hS Gj.out.lt).cell 2
   go_simp
  refine tkS (.agg #[[cl],(),#[g]]) (fun w' hS=>?_) ?_
  ·go_simp
  refine z0k (by rfl) ?_;go_wp2_with fail
  have Gd:Hid (Blw w wc.drew):=hid Gp.out.drew;have Gf:=hid (Gw.out _ Gd.out);refine Gf.out.mono ?_;rintro e w2⟨A2,m2,c2,p2,rfl,G9,G8,Gc⟩;have Ga:=hid (Gd.out.trans (Gc.mono Gd.out.size));have Gy:=hid (Gz.out w2 A2 m2 c2 p2 Ga.out (z2u G8 Gd.out.size) G9);have Ge:Hid (Blw wc w2):=hid ((Below.refl _ wc).drew.trans Gc);clear G9 G8 Gc Gw Gf Gz Gd;go_wp2_with fail
  refine⟨Ge.out,?_⟩;refine tkS (.tuple #[.slice A2 m2 c2,()]) (fun w' hS=>?_) ?_
  ·go_simp
  refine tkS (.slice A2 m2 c2) (fun w' hS=>?_) ?_
  ·go_simp
  refine tkS () (fun w' hS=>?_) ?_
  ·go_simp
  refine z0k (by rfl) ?_;go_wp2_with fail
  refine⟨Ge.out,?_⟩;show wpList _ _ _ _ _ _;simp only[List.drop_succ_cons,List.drop_zero];go_wp2_with fail
  refine NoPanic.normal ?_;have g0:w2.cell? (x.gs,0)=some ↑(57,a.th 0,0):=by
   obtain⟨GD,h1,_⟩:=(HD.out.hs.plc.below Ga.out).sets;exact h1
  go_wp2_with fail
  refine Gy.out.mono ?_;rintro e w3⟨rfl,S3,G3,G1,G6⟩;have Gk:Chg S w w3:=(Chg.of_below Ga.out).trans G1 (Grew.refl _ _);have Gn:Grew S S3 w:=fun k hk=>(G6 k hk).imp id (fun h=>Nat.le_trans Ga.out.size h)
  obtain⟨G4,G2⟩:=Gq.out S3 w3 G3 Gk Gn;have HE:=hid (show DS a L (T+200) s n K x (updC cs k (newC cl g)) f N m b0 S3 (fmtR cur (s+32*k) cl g) _/\_/\Grew S S3 w from⟨G4,G2,Gn⟩);obtain⟨o1,o2,o3,o4,o5⟩:=HD.out.off;have Gb:=HD.out.hs.plc.chg Gk o2 o3;obtain⟨q0,q1,q2⟩:=Gh.out w3 Gb;have z1:w3.frozen? (x.pl,x.po+k*4+1)=false:=Gb.frozen _;have z2:w3.frozen? (x.pl,x.po+k*4+2)=false:=Gb.frozen _;clear G3 G1 G6 Gk Gn G4 G2 Gy Gq Gb o1 o2 o3 o4 o5 g0;go_wp2;go_ret2;exact⟨k,S3,Gs.out.1,Gs.out.2,by rw[HV.out];rfl,by rw[GA.out];exact HE.out.1,HE.out.2.1,HE.out.2.2⟩
theorem x7a(h:DS a L T s n K x cs f N m b0 S cur w) cl (hc:cl<5) (hf:∃k,k<K/\(cs k).dv=false) (hT:T+200<=1000000000) :
  () 277 #[(x.h,0),(),[cl]] w (z8b a L T s n K x cs f N m b0 S cur w cl):=by
 have HC:=hid (x7b h cl hc hf hT);have c6:w.cell? (x.h,6)=some (.map none):=h.hs.heap.cell 6;have c3:w.cell? (x.h,3)=some (x.gs,0):=h.hs.heap.cell 3;have Ga:∀W,(Builtin.len_ #[166] 3 #[.map none]).run Tryz.prog W=.ok () W:=fun W=>Maps.len_nil Tryz.underlying166 _
 clear h hc hf;unfold z8b at*;go_enter Tryz.func277,Tryz.ntmps277
 go_wp2_with (go_at_call 317;refine HC.out.mono ?_;rintro e w1⟨k,S1,h1,h2,rfl,h4,h5,h6⟩;refine stop ?_)
 unfold Stop;have HE:=hid (show _/\_/\_/\_/\_ from⟨h1,h2,h4,h5,h6⟩);clear h1 h2 h4 h5 h6 HC;generalize ((s+32*k:Nat):Int)=v at*;go_wp2;go_ret2;obtain⟨h1,h2,h4,h5,h6⟩:=HE.out;exact⟨k,S1,h1,h2,rfl,h4,h5,h6⟩
end
end
end Go.Proofs.YtmhbokcccjmfgaaGreatDoor
