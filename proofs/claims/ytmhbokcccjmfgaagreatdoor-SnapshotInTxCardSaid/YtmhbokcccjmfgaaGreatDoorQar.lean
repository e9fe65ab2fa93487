/- part 18 -/
import Derived.Test.YtmhbokcccjmfgaaGreatDoorQaq
set_option maxRecDepth 100000
set_option maxHeartbeats 16000000
namespace Go.Proofs.YtmhbokcccjmfgaaGreatDoor
open Go.Lib (hid)
section
open Go.RowKit
def tkV(bs:Nat->BK):Nat->Nat
 |0=>0
 |n+1=>if (bs n).st=176 then tkV bs n else tkV bs n|||2^n
theorem w8l(bs:Nat->BK):∀n,tkV bs n<2^n
 |0=>by simp[tkV]
 |n+1=>by
  have h:=w8l bs n;have h2:(2:Nat)^n<2^(n+1):=Nat.pow_lt_pow_right oM oM;unfold tkV;split
  ·omega
  ·exact Nat.or_lt_two_pow oM h2
theorem w3g(bs:Nat->BK):∀n i,(tkV bs n).testBit i=(decide (i<n)&&decide ((bs i).st≠176))
 |0,i=>by simp[tkV]
 |n+1,i=>by
  have ih:=w3g bs n i;unfold tkV;by_cases e:i=n
  ·subst e
   split
   ·rename_i h;rw[ih];simp[h]
   ·rename_i h;rw[Nat.testBit_or,ih,Nat.testBit_two_pow];simp[h]
  ·have h2:decide (i<n+1)=decide (i<n):=decide_eq_decide.2 ⟨fun h=>oM,fun h=>oM⟩
   have h3:decide (n=i)=false:=decide_eq_false (fun h=>e h.symm);rw[h2];split
   ·exact ih
   ·rw[Nat.testBit_or,ih,Nat.testBit_two_pow,h3,Bool.or_false]
theorem v1q{cur ln cl g V bs}(h:ChW cur ln cl g V bs):tkV bs (perC cl)=V:=by
 apply Nat.eq_of_testBit_eq;intro i;rw[w3g];by_cases hi:i<perC cl
 ·have:=h.bit i hi
  rw[z3g]at this;rw[this];simp[hi]
 ·have hl:=Nat.testBit_lt_two_pow (Nat.lt_of_lt_of_le h.top (Nat.pow_le_pow_right oM (Nat.le_of_not_lt hi)))
  rw[hl];simp[hi]
section
variable{a:DA}{L T:Nat}{w:World}{S:Fp}{cur:Nat->Nat}{F:Nat}
theorem y3v(h:Dev a L T w S cur F)(ht:Tab w)(hp:Pay w) ln cl g V (bs:Nat->BK) (hl:ln+32<=L) (hC:ChW cur ln cl g V bs) :
  () 274 #[chV a ln cl 0 g] w fun e w'=>e=.returned true/\Blw w w':=by
 obtain⟨_,_,_,_,_,GS,_⟩:=id h;have hL:=GS.hL;clear GS;have De:=hC.cls;have GI:=hid (z2m h (64*ln) (hdrW cl g) oM oM (by rw[show 64*ln/8=8*ln by omega];exact hC.hdr));have GQ:Hid (∀k:Nat,2<=k->k<8->∀W,Blw w W->() 39 #[(a.th 0,0),.int .u64 (((64*ln+8*k:Nat)):Int)] W fun e w'=>e=.returned [()]/\W=w'):=hid (fun k h2 h8 W hW=>by
  have:=z2m h (64*ln+8*k) 0 oM oM (by rw[show(64*ln+8*k)/8=8*ln+k by omega];exact hC.zero k h2 h8) W hW;exact this)
 have GE:Hid (∀i,i<perC cl->∀W,Blw w W->() 39 #[(a.th 0,0),.int .u64 (((64*ln+8*offB cl i:Nat)):Int)] W fun e w'=>e=.returned (.int .u64 ((bs i).w:Int))/\W=w'):=hid (fun i hi W hW=>by
  have ho:=off_lt hi;exact z2m h (64*ln+8*offB cl i) (bs i).w oM oM (by rw[show(64*ln+8*offB cl i)/8=8*ln+offB cl i by omega];exact hC.word i hi) W hW)
 have GO:=hid (z5c ln oM);have GH:Hid (∀W,Blw w W->() 280 #[(hdrW cl g)] W fun e w'=>e=.returned (.tuple #[.agg #[[cl],(),#[g]],true])/\Blw W w'):=hid (fun W hW=>y4o cl g hC.cls hC.g0 hC.g1 W (ht.below hW) (hp.below hW));have GM:Hid (∀W,Blw w W->() 173 #[[cl]] W fun e w'=>e=.returned [perC cl]/\W=w'):=hid (fun W hW=>z2i cl hC.cls W (hp.below hW));have GC:Hid (∀i,i<perC cl->∀W,Blw w W->() 244 #[chV a ln cl 0 g,[i]] W fun e w'=>e=.returned (64*ln+8*offB cl i)/\Blw W w'):=hid (fun i hi W hW=>z8i ln cl g i oM hC.cls hi W (hp.below hW));have GN:Hid (∀i,i<perC cl->∀W,Blw w W->() 282 #[.int .u64 ((bs i).w:Int)] W fun e w'=>e=.returned (.tuple #[(bs i).v,true])/\Blw W w'):=hid (fun i hi W hW=>y5b (bs i) (hC.inn i hi) W (ht.below hW));have GF:Hid (∀i,i<perC cl->∀W,() 242 #[(bs i).v] W fun e w'=>e=.returned true/\Blw W w'):=hid (fun i hi W=>by
  have:=y6o (bs i) (hC.inn i hi) W;rw[hC.good i hi]at this;exact this)
 have G5:Hid (∀W,Blw w W->() 281 #[chV a ln cl 0 g] W fun e w'=>e=.returned V/\Blw W w'):=hid (fun W hW=>y0s (h.below hW) ln cl g V hl hC.bits);have GZ:=hid (v1q hC);have GJ:Hid (∀i,i<perC cl->(bs i).In):=hid hC.inn;have GY:Hid (∀i,i<perC cl->offB cl i<256):=hid (fun i hi=>by have:=off_lt hi;omega);have GR:Blw w (w.alloc (.cells (z0w a ln cl g) 251)):=(Below.refl _ _).alloc (nL _) _;have Gs:=hid GR;have HK:=hid (Blk.new w 251 (z0w a ln cl g));have Dh:=z3b cl;have hm:=z3u (some (a.th 0,0));have Df:=z3n (a.th 0,0);clear h hp ht GR hC;unfold chV at*;unfold z0w memV at*;generalize hdrW cl g=hw at*;have hz:64*ln<900000000:=oM;generalize hz0:64*ln=z at*;go_enter Tryz.func274,Tryz.ntmps274
 go_wp2_with fail
 generalize w.alloc (.cells #[(57,a.th 0,0),[ln],[cl],(),#[g]] 251)=W0 at*;have f0:W0.cell? (w,0)=some ↑(57,a.th 0,0):=HK.out.cell 0;have f1:W0.cell? (w,1)=some ↑[ln]:=HK.out.cell 1;go_wp2_with (first
  |(go_at_call 269;refine(GO.out _).mono ?_;rintro e w1⟨rfl,rfl⟩)
  |(go_at_call 39;refine(GI.out _ Gs.out).mono ?_;rintro e w1⟨rfl,rfl⟩)
  |(go_at_call 280;refine(GH.out _ Gs.out).mono ?_;rintro e w1⟨rfl,G8⟩;have Ga:=hid (Gs.out.trans (G8.mono Gs.out.size));have Gu:=hid (HK.out.below G8 HK.out.lt);clear G8;have G9:=Gu.out.lt;have f2:w1.cell? (w,2)=some ↑[cl]:=Gu.out.cell 2;have f3:w1.cell? (w,3)=some ↑():=Gu.out.cell 3)
  |go_in)
 clear f0 f1 f2 f3 G9 Gs HK GI GH GO;have Gz:=hid (Ga.out.alloc Ga.out.size (.cells #[[cl],(),#[g]] 249));have G1:=hid (Gu.out.alloc (.cells #[[cl],(),#[g]] 249));generalize w1.alloc (.cells #[[cl],(),#[g]] 249)=w2 at*;clear Ga Gu;go_loopw [6] (fun i wr=>∃k:Nat,2<=k/\k<=8/\i=↑k/\w2=wr) (fun i _=>8-(Go.RowKit.intOf i).toNat)
 case atStart=>exact⟨2,oM,oM,rfl,rfl⟩
 case round =>
  obtain⟨k,GU,Da,rfl,rfl⟩:=hrel;by_cases hlt:k<8
  ·have f0:w2.cell? (w,0)=some ↑(57,a.th 0,0):=G1.out.cell 0
   have dk:decide ((k:Int)<8)=true:=dT;have u1:IntKind.u64.wrap ((k:Int)*8)=(k:Int)*8:=by rw[IntKind.wrap_u64];omega
   have u2:IntKind.u64.wrap ((z:Int)+(k:Int)*8)=((z+8*k:Nat):Int):=by rw[IntKind.wrap_u64];omega
   have u3:IntKind.u64.wrap ((k:Int)+1)=(k:Int)+1:=by rw[IntKind.wrap_u64];omega
   go_wp2_with (first
    |(go_at_call 39;refine(GQ.out k GU hlt _ Gz.out).mono ?_;rintro e w3⟨rfl,rfl⟩)
    |go_in)
   go_roundw
   case rel=>first|exact⟨k+1,oM,oM,by go_num,rfl⟩|exact⟨k+1,oM,oM,by go_num,trivial⟩
   case measure=>simp[Go.RowKit.intOf];omega
  ·obtain rfl:k=8:=oM
   clear GQ hlt GU Da;have f2:w2.cell? (w,2)=some ↑[cl]:=G1.out.cell 2;go_wp2_with (first
    |(go_at_call 173;refine(GM.out _ Gz.out).mono ?_;rintro e w3⟨rfl,rfl⟩)
    |go_in)
   clear GM f2;generalize perC cl=n at*;go_loopw [7,56] (fun v i wr=>∃k:Nat,k<=n/\v=↑(tkV bs k)/\i=↑[k]/\Hid (Blw w wr)/\Hid (Blk wr w 251 #[(57,a.th 0,0),[ln],[cl],(),#[g]])) (fun _ i _=>n-(Go.RowKit.intOf i).toNat)
   case atStart=>exact⟨0,oM,rfl,rfl,Gz,G1⟩
   case round =>
    clear Gz G1;obtain⟨k,hk,rfl,rfl,HB,HK⟩:=hrel;have f0:wr.cell? (w,0)=some ↑(57,a.th 0,0):=HK.out.cell 0;have f1:wr.cell? (w,1)=some ↑[ln]:=HK.out.cell 1;have f2:wr.cell? (w,2)=some ↑[cl]:=HK.out.cell 2;have f3:wr.cell? (w,3)=some ↑():=HK.out.cell 3;have f4:wr.cell? (w,4)=some ↑#[g]:=HK.out.cell 4;by_cases hlt:k<n
    ·have dk:decide ((k:Int)<(n:Int))=true:=dT
     have Gg:Hid (Blw wr wr.drew):=hid (Below.refl _ _).drew;have GB:=hid (GC.out k hlt);have G7:=hid (GE.out k hlt);have Gx:=hid (GN.out k hlt);have GG:=hid (GF.out k hlt);have Di:w.heap.size<wr.heap.size:=HK.out.lt;have Dg:=GY.out k hlt;have HT:Hid (tkV bs (k+1)=if (bs k).st=176 then tkV bs k else tkV bs k|||2^k):=hid rfl;have Db:=w8l bs k;have Dc:=z4m (i:=k) oM;have u2:=y3e (i:=k) oM;have u3:=u64_or_nat (tkV bs k) (2^k) oM Dc;have GT:=GJ.out k hlt;have s1:IntKind.u64.wrap (k:Int)=(k:Int):=by rw[IntKind.wrap_u64];omega
     clear GC GE GN GF GJ G5 Db;unfold BK.v at*;generalize (bs k).w=bw at*;obtain⟨gg,hg⟩:∃x,(bs k).gen=x:=⟨_,rfl⟩
     obtain⟨kk,GV⟩:∃x,(bs k).kind=x:=⟨_,rfl⟩
     obtain⟨ss,GA⟩:∃x,(bs k).st=x:=⟨_,rfl⟩
     rw[hg,GV,GA]at Gx GG;rw[GA]at HT;have GW:ss<256:=by have:=GT.s;omega
     clear GT hg GV GA;generalize z+8*offB cl k=zo at*;go_upto_region 14 with fail
     go_cut [9,10]from 59 to 71 (fun v9 v10 wx=>∃b:Nat,v9=↑(b,0)/\v10=↑true/\Hid (Blk wx b 335 #[#[gg],[[kk]],[[ss]]])/\Hid (Blw wr wx))
     case first =>
      refine z5d (fun w'=>Blw wr w') 15 9 [0,1,2,3,5,6] (by kernel_rfl) (by kernel_rfl) (by rfl) (by rfl) Gg.out ?_;intro ops HO;refine z1b HO.out (w,0) (by rfl) (by rfl) (fun w' hS=>?_) ?_
      ·go_simp
      simp only[Act.put,zD,zE,zF];refine z1b HO.out (57,a.th 0,0) (by rfl) (by rfl) (fun w' hS=>?_) ?_
      ·have kk:=HK.out.below hS HK.out.lt;have f0:=kk.cell 0;clear kk
       go_simp
      simp only[Act.put,zD,zE,zF];refine z1b HO.out (.agg #[(57,a.th 0,0),[ln],[cl],(),#[g]]) (by rfl) (by rfl) (fun w' hS=>?_) ?_
      ·have kk:=HK.out.below hS HK.out.lt;have f0:=kk.cell 0;have f1:=kk.cell 1;have f2:=kk.cell 2;have f3:=kk.cell 3;have f4:=kk.cell 4;clear kk
       go_simp
      simp only[Act.put,zD,zE,zF];refine z1b HO.out [k] (by rfl) (by rfl) (fun w' hS=>?_) ?_
      ·go_simp
      simp only[Act.put,zD,zE,zF];refine z1b HO.out (57,a.th 0,0) (by rfl) (by rfl) (fun w' hS=>?_) ?_
      ·go_simp
      simp only[Act.put,zD,zE,zF];refine z1b HO.out (57,a.th 0,0) (by rfl) (by rfl) (fun w' hS=>?_) ?_
      ·go_simp
      simp only[Act.put,zD,zE,zF];refine z7d HO.out (i:=4) (j:=12) (by kernel_rfl) (by rfl) (by rfl) ?_ ?_
      ·go_wp2_with (go_at_call 244;refine(GB.out _ (HB.out.trans (Gg.out.mono HB.out.size))).mono ?_;rintro e w1⟨rfl,hb⟩;have Ga:=hid (Gg.out.trans (hb.mono Gg.out.size));clear hb)
       refine⟨Ga.out,?_⟩;refine z7d HO.out (i:=7) (j:=12) (by kernel_rfl) (by rfl) (by rfl) ?_ ?_
       ·go_wp2_with (go_at_call 39;refine(G7.out _ (HB.out.trans (Ga.out.mono HB.out.size))).mono ?_;rintro e w2⟨rfl,rfl⟩)
        refine⟨Ga.out,?_⟩;refine z7d HO.out (i:=8) (j:=12) (by kernel_rfl) (by rfl) (by rfl) ?_ ?_
        ·go_wp2_with (go_at_call 282;refine(Gx.out _ (HB.out.trans (Ga.out.mono HB.out.size))).mono ?_;rintro e w3⟨rfl,hb⟩;have Gh:=hid (Ga.out.trans (hb.mono Ga.out.size));clear hb)
         refine⟨Gh.out,?_⟩;refine z0v HO.out (i:=9) (.tuple #[.agg #[#[gg],[[kk]],[[ss]]],true]) (by rfl) (by kernel_rfl) (by rfl) (fun w' hS=>?_) Gh.out ?_
         ·go_simp
         simp only[Act.put,zD,zE,zF];refine z0v HO.out (i:=10) (.agg #[#[gg],[[kk]],[[ss]]]) (by rfl) (by kernel_rfl) (by rfl) (fun w' hS=>?_) Gh.out ?_
         ·go_simp
         simp only[Act.put,zD,zE,zF];refine z0v HO.out (i:=11) true (by rfl) (by kernel_rfl) (by rfl) (fun w' hS=>?_) Gh.out ?_
         ·go_simp
         simp only[Act.put,zD,zE,zF];refine z0z HO.out (i:=12) (by kernel_rfl) (by rfl) ?_;go_wp2_with fail
         refine⟨Gh.out.alloc Gh.out.size _,?_⟩;have Gn:Hid (Blk (w3.alloc (.cells #[.int .u16 0,.int .u8 0,.int .u8 0] 335)) w3 335 #[.int .u16 0,.int .u8 0,.int .u8 0]):=hid (Blk.new w3 335 _);have G3:=hid (Gh.out.alloc Gh.out.size (.cells #[.int .u16 0,.int .u8 0,.int .u8 0] 335));have Gi:Hid (wr.heap.size<=w3.heap.size):=hid Gh.out.size;generalize w3.alloc (.cells #[.int .u16 0,.int .u8 0,.int .u8 0] 335)=W4 at*;have c0:W4.cell? (w3,0)=some (.int .u16 0):=Gn.out.cell 0;have z0:W4.frozen? (w3,0)=false:=Gn.out.frozen 0;have c1:W4.cell? (w3,1)=some (.int .u8 0):=Gn.out.cell 1;have z1:W4.frozen? (w3,1)=false:=Gn.out.frozen 1;have c2:W4.cell? (w3,2)=some (.int .u8 0):=Gn.out.cell 2;have z2:W4.frozen? (w3,2)=false:=Gn.out.frozen 2;refine z0z HO.out (i:=13) (by kernel_rfl) (by rfl) ?_;go_wp2_with fail
         refine⟨(((G3.out.setCell (p:=⟨w3.heap.size,0,none⟩) Gi.out _).setCell (p:=⟨w3.heap.size,1,none⟩) Gi.out _).setCell (p:=⟨w3.heap.size,2,none⟩) Gi.out _),?_⟩;refine z0z HO.out (i:=14) (by kernel_rfl) (by rfl) ?_;go_wp2_with fail
         refine⟨(((G3.out.setCell (p:=⟨w3.heap.size,0,none⟩) Gi.out _).setCell (p:=⟨w3.heap.size,1,none⟩) Gi.out _).setCell (p:=⟨w3.heap.size,2,none⟩) Gi.out _),?_⟩;refine z3y HO.out (by kernel_rfl) ?_;refine NoPanic.normal ?_;go_wp2_with fail
         go_meet;exact⟨w3.heap.size,rfl,rfl,hid (((Gn.out.set_ 0 _).set_ 1 _).set_ 2 _),hid (((G3.out.setCell (p:=⟨w3.heap.size,0,none⟩) Gi.out _).setCell (p:=⟨w3.heap.size,1,none⟩) Gi.out _).setCell (p:=⟨w3.heap.size,2,none⟩) Gi.out _)⟩
        ·go_wp2_with fail
         refine⟨Ga.out.alloc Ga.out.size _,?_⟩;have GK:Hid (Blk (w1.alloc (.cells #[.int .u16 0,.int .u8 0,.int .u8 0] 335)) w1 335 #[.int .u16 0,.int .u8 0,.int .u8 0]):=hid (Blk.new w1 335 _);have G4:=hid (Ga.out.alloc Ga.out.size (.cells #[.int .u16 0,.int .u8 0,.int .u8 0] 335));have Gj:Hid (wr.heap.size<=w1.heap.size):=hid Ga.out.size;generalize w1.alloc (.cells #[.int .u16 0,.int .u8 0,.int .u8 0] 335)=W5 at*;refine z0z HO.out (i:=8) (by kernel_rfl) (by rfl) ?_;go_wp2_with (go_at_call 282;refine(Gx.out _ (HB.out.trans (G4.out.mono HB.out.size))).mono ?_;rintro e w6⟨rfl,hb⟩;have Gm:=hid (G4.out.trans (hb.mono G4.out.size));have Gp:=hid (GK.out.below hb GK.out.lt);clear hb)
         refine⟨Gm.out,?_⟩;refine z0v HO.out (i:=9) (.tuple #[.agg #[#[gg],[[kk]],[[ss]]],true]) (by rfl) (by kernel_rfl) (by rfl) (fun w' hS=>?_) Gm.out ?_
         ·go_simp
         simp only[Act.put,zD,zE,zF];refine z0v HO.out (i:=10) (.agg #[#[gg],[[kk]],[[ss]]]) (by rfl) (by kernel_rfl) (by rfl) (fun w' hS=>?_) Gm.out ?_
         ·go_simp
         simp only[Act.put,zD,zE,zF];refine z0v HO.out (i:=11) true (by rfl) (by kernel_rfl) (by rfl) (fun w' hS=>?_) Gm.out ?_
         ·go_simp
         simp only[Act.put,zD,zE,zF];have c0:w6.cell? (w1,0)=some (.int .u16 0):=Gp.out.cell 0;have z0:w6.frozen? (w1,0)=false:=Gp.out.frozen 0;have c1:w6.cell? (w1,1)=some (.int .u8 0):=Gp.out.cell 1;have z1:w6.frozen? (w1,1)=false:=Gp.out.frozen 1;have c2:w6.cell? (w1,2)=some (.int .u8 0):=Gp.out.cell 2;have z2:w6.frozen? (w1,2)=false:=Gp.out.frozen 2;refine z0z HO.out (i:=13) (by kernel_rfl) (by rfl) ?_;go_wp2_with fail
         refine⟨(((Gm.out.setCell (p:=⟨w1.heap.size,0,none⟩) Gj.out _).setCell (p:=⟨w1.heap.size,1,none⟩) Gj.out _).setCell (p:=⟨w1.heap.size,2,none⟩) Gj.out _),?_⟩;refine z0z HO.out (i:=14) (by kernel_rfl) (by rfl) ?_;go_wp2_with fail
         refine⟨(((Gm.out.setCell (p:=⟨w1.heap.size,0,none⟩) Gj.out _).setCell (p:=⟨w1.heap.size,1,none⟩) Gj.out _).setCell (p:=⟨w1.heap.size,2,none⟩) Gj.out _),?_⟩;refine z3y HO.out (by kernel_rfl) ?_;refine NoPanic.normal ?_;go_wp2_with fail
         go_meet;exact⟨w1.heap.size,rfl,rfl,hid (((Gp.out.set_ 0 _).set_ 1 _).set_ 2 _),hid (((Gm.out.setCell (p:=⟨w1.heap.size,0,none⟩) Gj.out _).setCell (p:=⟨w1.heap.size,1,none⟩) Gj.out _).setCell (p:=⟨w1.heap.size,2,none⟩) Gj.out _)⟩
       ·go_wp2_with fail
        refine⟨Ga.out.alloc Ga.out.size _,?_⟩;have GL:Hid (Blk (w1.alloc (.cells #[.int .u16 0,.int .u8 0,.int .u8 0] 335)) w1 335 #[.int .u16 0,.int .u8 0,.int .u8 0]):=hid (Blk.new w1 335 _);have Gt:=hid (Ga.out.alloc Ga.out.size (.cells #[.int .u16 0,.int .u8 0,.int .u8 0] 335));have Gk:Hid (wr.heap.size<=w1.heap.size):=hid Ga.out.size;generalize w1.alloc (.cells #[.int .u16 0,.int .u8 0,.int .u8 0] 335)=W7 at*;refine z0z HO.out (i:=7) (by kernel_rfl) (by rfl) ?_;go_wp2_with (go_at_call 39;refine(G7.out _ (HB.out.trans (Gt.out.mono HB.out.size))).mono ?_;rintro e w8⟨rfl,rfl⟩)
        refine⟨Gt.out,?_⟩;refine z0z HO.out (i:=8) (by kernel_rfl) (by rfl) ?_;go_wp2_with (go_at_call 282;refine(Gx.out _ (HB.out.trans (Gt.out.mono HB.out.size))).mono ?_;rintro e w9⟨rfl,hb⟩;have Gf:=hid (Gt.out.trans (hb.mono Gt.out.size));have Gq:=hid (GL.out.below hb GL.out.lt);clear hb)
        refine⟨Gf.out,?_⟩;refine z0v HO.out (i:=9) (.tuple #[.agg #[#[gg],[[kk]],[[ss]]],true]) (by rfl) (by kernel_rfl) (by rfl) (fun w' hS=>?_) Gf.out ?_
        ·go_simp
        simp only[Act.put,zD,zE,zF];refine z0v HO.out (i:=10) (.agg #[#[gg],[[kk]],[[ss]]]) (by rfl) (by kernel_rfl) (by rfl) (fun w' hS=>?_) Gf.out ?_
        ·go_simp
        simp only[Act.put,zD,zE,zF];refine z0v HO.out (i:=11) true (by rfl) (by kernel_rfl) (by rfl) (fun w' hS=>?_) Gf.out ?_
        ·go_simp
        simp only[Act.put,zD,zE,zF];have c0:w9.cell? (w1,0)=some (.int .u16 0):=Gq.out.cell 0;have z0:w9.frozen? (w1,0)=false:=Gq.out.frozen 0;have c1:w9.cell? (w1,1)=some (.int .u8 0):=Gq.out.cell 1;have z1:w9.frozen? (w1,1)=false:=Gq.out.frozen 1;have c2:w9.cell? (w1,2)=some (.int .u8 0):=Gq.out.cell 2;have z2:w9.frozen? (w1,2)=false:=Gq.out.frozen 2;refine z0z HO.out (i:=13) (by kernel_rfl) (by rfl) ?_;go_wp2_with fail
        refine⟨(((Gf.out.setCell (p:=⟨w1.heap.size,0,none⟩) Gk.out _).setCell (p:=⟨w1.heap.size,1,none⟩) Gk.out _).setCell (p:=⟨w1.heap.size,2,none⟩) Gk.out _),?_⟩;refine z0z HO.out (i:=14) (by kernel_rfl) (by rfl) ?_;go_wp2_with fail
        refine⟨(((Gf.out.setCell (p:=⟨w1.heap.size,0,none⟩) Gk.out _).setCell (p:=⟨w1.heap.size,1,none⟩) Gk.out _).setCell (p:=⟨w1.heap.size,2,none⟩) Gk.out _),?_⟩;refine z3y HO.out (by kernel_rfl) ?_;refine NoPanic.normal ?_;go_wp2_with fail
        go_meet;exact⟨w1.heap.size,rfl,rfl,hid (((Gq.out.set_ 0 _).set_ 1 _).set_ 2 _),hid (((Gf.out.setCell (p:=⟨w1.heap.size,0,none⟩) Gk.out _).setCell (p:=⟨w1.heap.size,1,none⟩) Gk.out _).setCell (p:=⟨w1.heap.size,2,none⟩) Gk.out _)⟩
      ·go_wp2_with fail
       refine⟨((Below.refl _ wr).alloc (nL _) _).drew,?_⟩;have Gv:Hid (Blk (wr.alloc (.cells #[.int .u16 0,.int .u8 0,.int .u8 0] 335)).drew wr 335 #[.int .u16 0,.int .u8 0,.int .u8 0]):=hid (Blk.new wr 335 _).drew;have Gl:Hid (Blw wr (wr.alloc (.cells #[.int .u16 0,.int .u8 0,.int .u8 0] 335)).drew):=hid ((Below.refl _ wr).alloc (nL _) _).drew;have Gb:Hid (wr.heap.size<=wr.heap.size):=hid (nL _);generalize (wr.alloc (.cells #[.int .u16 0,.int .u8 0,.int .u8 0] 335)).drew=W10 at*;refine z0z HO.out (i:=4) (by kernel_rfl) (by rfl) ?_;go_wp2_with (go_at_call 244;refine(GB.out _ (HB.out.trans (Gl.out.mono HB.out.size))).mono ?_;rintro e w11⟨rfl,hb⟩;have Ge:=hid (Gl.out.trans (hb.mono Gl.out.size));have Gw:=hid (Gv.out.below hb Gv.out.lt);clear hb)
       refine⟨Ge.out,?_⟩;refine z0z HO.out (i:=7) (by kernel_rfl) (by rfl) ?_;go_wp2_with (go_at_call 39;refine(G7.out _ (HB.out.trans (Ge.out.mono HB.out.size))).mono ?_;rintro e w12⟨rfl,rfl⟩)
       refine⟨Ge.out,?_⟩;refine z0z HO.out (i:=8) (by kernel_rfl) (by rfl) ?_;go_wp2_with (go_at_call 282;refine(Gx.out _ (HB.out.trans (Ge.out.mono HB.out.size))).mono ?_;rintro e w13⟨rfl,hb⟩;have Gc:=hid (Ge.out.trans (hb.mono Ge.out.size));have Gd:=hid (Gw.out.below hb Gw.out.lt);clear hb)
       refine⟨Gc.out,?_⟩;refine z0v HO.out (i:=9) (.tuple #[.agg #[#[gg],[[kk]],[[ss]]],true]) (by rfl) (by kernel_rfl) (by rfl) (fun w' hS=>?_) Gc.out ?_
       ·go_simp
       simp only[Act.put,zD,zE,zF];refine z0v HO.out (i:=10) (.agg #[#[gg],[[kk]],[[ss]]]) (by rfl) (by kernel_rfl) (by rfl) (fun w' hS=>?_) Gc.out ?_
       ·go_simp
       simp only[Act.put,zD,zE,zF];refine z0v HO.out (i:=11) true (by rfl) (by kernel_rfl) (by rfl) (fun w' hS=>?_) Gc.out ?_
       ·go_simp
       simp only[Act.put,zD,zE,zF];have c0:w13.cell? (wr,0)=some (.int .u16 0):=Gd.out.cell 0;have z0:w13.frozen? (wr,0)=false:=Gd.out.frozen 0;have c1:w13.cell? (wr,1)=some (.int .u8 0):=Gd.out.cell 1;have z1:w13.frozen? (wr,1)=false:=Gd.out.frozen 1;have c2:w13.cell? (wr,2)=some (.int .u8 0):=Gd.out.cell 2;have z2:w13.frozen? (wr,2)=false:=Gd.out.frozen 2;refine z0z HO.out (i:=13) (by kernel_rfl) (by rfl) ?_;go_wp2_with fail
       refine⟨(((Gc.out.setCell (p:=⟨wr.heap.size,0,none⟩) Gb.out _).setCell (p:=⟨wr.heap.size,1,none⟩) Gb.out _).setCell (p:=⟨wr.heap.size,2,none⟩) Gb.out _),?_⟩;refine z0z HO.out (i:=14) (by kernel_rfl) (by rfl) ?_;go_wp2_with fail
       refine⟨(((Gc.out.setCell (p:=⟨wr.heap.size,0,none⟩) Gb.out _).setCell (p:=⟨wr.heap.size,1,none⟩) Gb.out _).setCell (p:=⟨wr.heap.size,2,none⟩) Gb.out _),?_⟩;refine z3y HO.out (by kernel_rfl) ?_;refine NoPanic.normal ?_;go_wp2_with fail
       go_meet;exact⟨wr.heap.size,rfl,rfl,hid (((Gd.out.set_ 0 _).set_ 1 _).set_ 2 _),hid (((Gc.out.setCell (p:=⟨wr.heap.size,0,none⟩) Gb.out _).setCell (p:=⟨wr.heap.size,1,none⟩) Gb.out _).setCell (p:=⟨wr.heap.size,2,none⟩) Gb.out _)⟩
     case rest =>
      obtain⟨b,rfl,rfl,G6,GD⟩:=hcut;have kb:=G6.out;have b0:wc.cell? (b,0)=some ↑#[gg]:=kb.cell 0;have b1:wc.cell? (b,1)=some ↑[[kk]]:=kb.cell 1;have b2:wc.cell? (b,2)=some ↑[[ss]]:=kb.cell 2;clear kb f0 f1 f2 f3 f4;go_wp2_with (first
       |(go_at_call 242;refine(GG.out _).mono ?_;rintro e w9⟨rfl,Gr⟩;have Gf:=hid (GD.out.trans (Gr.mono GD.out.size));have Dd:w9.cell? (b,2)=some ↑[[ss]]:=(G6.out.below Gr G6.out.lt).cell 2;clear Gr;refine stop ?_)
       |fail)
      unfold Stop;have G0:=hid (HB.out.trans (Gf.out.mono HB.out.size));have G2:=hid (HK.out.below Gf.out HK.out.lt);clear b0 b1 b2;by_cases hs:ss=176
      ·subst hs
       have Gy:Hid (tkV bs (k+1)=tkV bs k):=hid (by rw[HT.out,if_pos rfl]);clear HT u3;go_wp2_with fail
       go_roundw
       case rel =>
        first
         |exact⟨k+1,oM,by rw[Gy.out],by go_num,G0,G2⟩
         |(
           repeat apply Exists.intro
           refine⟨?_,rfl⟩;exact⟨k+1,oM,by rw[Gy.out],by go_num,G0,G2⟩)
       case measure=>simp[Go.RowKit.intOf];omega
      ·have Gy:Hid (tkV bs (k+1)=tkV bs k|||2^k):=hid (by rw[HT.out,if_neg hs])
       have ds:((ss:Int) != 176)=true:=by rw[bne,beq_eq_false_iff_ne.2 oM];rfl
       have GP:=hid u3;clear HT hs u3;generalize 2^k=pk at*;go_wp2_with fail
       go_roundw
       case rel =>
        first
         |exact⟨k+1,oM,by rw[Gy.out,<- GP.out],by go_num,G0,G2⟩
         |(
           repeat apply Exists.intro
           refine⟨?_,rfl⟩;exact⟨k+1,oM,by rw[Gy.out,<- GP.out],by go_num,G0,G2⟩)
       case measure=>simp[Go.RowKit.intOf];omega
    ·obtain rfl:n=k:=oM
     have GX:=hid (G5.out wr HB.out);have hV:tkV bs n=V:=GZ.out;rw[hV];have dV:((V:Int)==(V:Int))=true:=beq_self_eq_true _;clear hV G5;go_wp2_with (go_at_call 281;refine GX.out.mono ?_;rintro e w9⟨rfl,Gr⟩;have Gf:=hid (HB.out.trans (Gr.mono HB.out.size));clear Gr)
     go_ret;exact⟨rfl,Gf.out⟩
theorem x2c(h:Dev a L T w S cur F)(ht:Tab w)(hp:Pay w){ln cl g V bs}(hC:ChW cur ln cl g V bs)(hl:ln+32<=L):
  () 226 #[chV a ln cl 0 g] w fun e w'=>e=.returned ()/\Blw w w':=by
 have HE:=hid (fun (W:World) (hW:Blw w W)=>z9u (h.below hW));have Gf:=hid (fun (W:World) (hW:Blw w W)=>y3v (h.below hW) (ht.below hW) (hp.below hW) ln cl g V bs hl hC);have hm:=z1x (some (a.th 0,0));have Gi:∀W,(binOp .eql 163 (57,a.th 0,0) .nilIface).run Tryz.prog W=.ok false W:=fun W=>by rfl
 have Ga:Blw w (w.alloc (.cells (z0w a ln cl g) 251)):=(Below.refl _ _).alloc (nL _) _;have Gc:=hid Ga;have Gg:=hid (HE.out _ Ga);have Ge:=hid (Gf.out _ Ga);have HK:=hid (Blk.new w 251 (z0w a ln cl g));clear h ht hp hC Ga;unfold chV at*;unfold z0w memV at*;go_enter Tryz.func226,Tryz.ntmps226
 go_upto_region 1 with fail
 generalize w.alloc (.cells #[(57,a.th 0,0),[ln],[cl],(),#[g]] 251)=W0 at*;have f0:W0.cell? (w,0)=some ↑(57,a.th 0,0):=HK.out.cell 0;have f1:W0.cell? (w,1)=some ↑[ln]:=HK.out.cell 1;have f2:W0.cell? (w,2)=some ↑[cl]:=HK.out.cell 2;have f3:W0.cell? (w,3)=some ↑():=HK.out.cell 3;have f4:W0.cell? (w,4)=some ↑#[g]:=HK.out.cell 4;go_wp2_with (first
  |(go_at_call 274;refine Ge.out.mono ?_;rintro e w5⟨rfl,Gb⟩;have Gd:=hid (Gc.out.trans (Gb.mono Gc.out.size));have Gh:=hid (HE.out _ Gd.out);have k0:w5.cell? (w,0)=some ↑(57,a.th 0,0):=(HK.out.below Gb HK.out.lt).cell 0;clear Gb f0 f1 f2 f3 f4)
  |(go_at_call 76;refine Gh.out.mono ?_;rintro e w6⟨rfl,rfl⟩)
  |(go_at_call 76;refine Gg.out.mono ?_;rintro e w6⟨rfl,rfl⟩)
  |go_in)
 go_ret;exact⟨rfl,Gd.out⟩
end
end
section
open Go.RowKit Go.Maps
def PSet(w:World)(b n:Nat)(l:List Nat):Prop:=∃D:DataW Unit,w.ownsMap Tryz.prog 64 (plainElem Tryz.prog 4) b n D/\SetD D l
theorem keyP{x:Nat}(h:x<18446744073709551616):keyOf Tryz.prog 64 x=some (kU x):=keyOf_int_mk Tryz.underlying64 (z9x h)
theorem w8e:Keyed Tryz.prog 64:=int_keyed Tryz.underlying64
theorem PSet.look{w:World}{b n:Nat}{l:List Nat}(h:PSet w b n l){x:Nat}(hx:x<18446744073709551616):(Instr.lookup 330 (.map (some b)) x false).run Tryz.prog w=.ok (decide (x∈l)) w:=by
 obtain⟨D,ho,hd⟩:=h;obtain⟨v,ps,Ga,hv⟩:=ho.lookup w8e Tryz.underlying330 (z := .bool false) (by kernel_rfl) (plainElem_bool Tryz.underlying4 false) (keyP hx);obtain⟨c,rfl,hc⟩:=z4l Tryz.underlying4 hv;rw[hd x]at hc;simp at hc;rw[Ga,hc.1]
theorem PSet.add{w:World}{b n:Nat}{l:List Nat}(h:PSet w b n l)(hn:n<maxLen){x:Nat}(hx:x<18446744073709551616):∃w',(Instr.mapUpdate 330 (.map (some b)) x true).run Tryz.prog w=.ok () w'/\PSet w' b (n+1) (x::l)/\w.grownBy w' (some b):=by
 obtain⟨D,ho,hd⟩:=h;obtain⟨w',Ga,Gb,hg⟩:=ho.update w8e Tryz.underlying330 hn (keyP hx) (plainElem_bool Tryz.underlying4 true);exact⟨w',Ga,⟨_,Gb,hd.put ho.isMap x⟩,hg⟩
theorem PSet.new(w:World):PSet (w.alloc (.map #[] 0)) w 0 []:=⟨_,World.ownsMap_made w _ _ _,SetD.nil⟩
section
theorem x5s{l:List Nat}{k:Nat}(hl:k<l.length):(l.take (k+1)).reverse=l[k]::(l.take k).reverse:=by
 rw[List.take_succ_eq_append_getElem hl,List.reverse_append];rfl
theorem z7w{w B n A l}(h:z0d w B 1 A n (z0g l)){k}(hk:k<n):
  ∃(hl:k<l.length)(b off:Nat),A=some (b,off)/\b<B/\w.cell? (b,off+k)=some ↑(l[k]:Nat):=by
 have hl:k<l.length:=by have:=h.1;simp[z0g]at this;omega
 obtain⟨b,off,hA,hb,hc⟩:=h.plain oM oM;exact⟨hl,b,off,hA,hb,hc k _ (by simp[z0g,hl])⟩
theorem y8w A1 A2 n1 c1 n2 c2 keep free w b (hB:Blk w b 40 #[.slice A1 n1 c1,.slice A2 n2 c2]) (h1:z0d w w.heap.size 1 A1 n1 (z0g keep)) (h2:z0d w w.heap.size 1 A2 n2 (z0g free)) (hn:(keep++free).Nodup) (hv:∀p∈keep++free,p≠0/\p<18446744073709551616) (hn1:n1<=1000) (hn2:n2<=1000) :
  () 180 #[.slice (some (b,())) 2 2] w fun e w'=>e=.returned true/\Blw w w':=by
 have G1:∀W,(Instr.makeMap 330 none).run Tryz.prog W=.ok (.map (some W.heap.size)) (W.alloc (.map #[] 0)):=fun _=>rfl
 have c0:(w.alloc (.map #[] 0)).cell? (b,())=some (.slice A1 n1 c1):=(hB.alloc _).cell 0;have Gu:(w.alloc (.map #[] 0)).cell? ⟨b,1,none⟩=some (.slice A2 n2 c2):=(hB.alloc _).cell 1;have Gc:Hid (Blw w (w.alloc (.map #[] 0))):=hid ((Below.refl _ w).alloc (nL _) (.map #[] 0));have Gf:Hid (PSet (w.alloc (.map #[] 0)) w.heap.size 0 (keep.take 0).reverse):=hid (PSet.new w);have Gs:=hid h1;have Gt:=hid h2;have HV:=hid hv;have Gk:=hid hn;have Gq:=hid hB;have Gr:=hid (show keep.length=n1 by have:=h1.1;simp[z0g]at this;omega);clear hB h1 h2 hv hn;go_enter Tryz.func180,Tryz.ntmps180
 go_wp2;refine wp_loop_rounds 3 ?_;rw[rounds_succ];go_wp2;go_loopw [17] (fun i wr=>∃(k:Nat),k<=n1/\i=↑[k]/\Hid (PSet wr w.heap.size (k) (keep.take k).reverse)/\Hid (Blw w wr)) (fun i _=>n1-(Go.RowKit.intOf i).toNat)
 case atStart=>exact⟨0,Nat.zero_le _,rfl,Gf,Gc⟩
 case round =>
  clear Gf Gc;obtain⟨k,hk,rfl,HS,H⟩:=hrel;by_cases hlt:k<n1
  ·obtain⟨hl,b,Gz,hA,Gv,f0⟩:=z7w (Gs.out.below H.out) hlt
   subst hA;have Ga:keep[k]∈keep++free:=List.mem_append.2 (.inl (List.getElem_mem hl));have hv:=HV.out _ Ga;have Gi:keep[k]∉keep.take k:=fun hh=>by
    obtain⟨j,hj,he⟩:=List.getElem_of_mem hh;have Gm:j<k:=by simp at hj;omega
    have Gl:keep[j]=keep[k]:=by rw[<- he];simp
    exact(List.pairwise_iff_getElem.1 (List.nodup_append.1 Gk.out).1) j k oM hl Gm Gl
   have Gb:keep[k]∉(keep.take k).reverse:=fun hh=>by
    exact Gi (by simpa using hh)
   have Gp:=HS.out.look (x:=keep[k]) hv.2;rw[decide_eq_false Gb]at Gp;obtain⟨w2,Gw,Gj,Gh⟩:=HS.out.add (x:=keep[k]) (by unfold maxLen;omega) hv.2;have Gg:Hid (PSet w2 w.heap.size ((k+1)) (keep.take (k+1)).reverse):=hid (by rw[x5s hl];exact Gj);have Gd:=hid (H.out.trans ((z3o (Z:=fun j=>j=w.heap.size) Gh rfl).toBelow H.out.size (fun j hj=>oM)));have Ge:=hid (z9m keep[k]);rw[decide_eq_false hv.1]at Ge;clear Gj Gh Gb Gi Ga hv HS H;generalize keep[k]=p at*;have Gx:(0:Int)<=(k:Int):=oM;have Gy:(k:Int)<(n1:Int):=oM;go_wp2_with (go_at_call 72;refine(Ge.out _).mono ?_;rintro e w3⟨rfl,rfl⟩)
   go_roundw
   case rel =>
    first
     |exact⟨k+1,oM,by go_num,Gg,Gd⟩
     |(
       repeat apply Exists.intro
       refine⟨?_,rfl⟩;exact⟨k+1,oM,by go_num,Gg,Gd⟩)
   case measure=>simp[Go.RowKit.intOf];omega
  ·have Gn:n1=k:=oM
   subst Gn;have G0:wr.cell? ⟨b,1,none⟩=some (.slice A2 n2 c2):=(Gq.out.below H.out Gq.out.lt).cell 1;have Gf:Hid (PSet wr w.heap.size (n1+0) ((free.take 0).reverse++keep.reverse)):=hid (by
    have h:=HS.out;rw[List.take_of_length_le (by rw[Gr.out];exact nL _)]at h;simpa using h)
   have Gc:=hid H.out;clear HS H hlt hk c0 Gu;go_wp2;rw[rounds_succ];go_wp2;go_loopw [17] (fun i wr=>∃(k:Nat),k<=n2/\i=↑[k]/\Hid (PSet wr w.heap.size (n1+k) ((free.take k).reverse++keep.reverse))/\Hid (Blw w wr)) (fun i _=>n2-(Go.RowKit.intOf i).toNat)
   case atStart=>exact⟨0,Nat.zero_le _,rfl,Gf,Gc⟩
   case round =>
    clear Gf Gc;obtain⟨k,hk,rfl,HS,H⟩:=hrel;by_cases hlt:k<n2
    ·obtain⟨hl,b,Gz,hA,Gv,f0⟩:=z7w (Gt.out.below H.out) hlt
     subst hA;have Ga:free[k]∈keep++free:=List.mem_append.2 (.inr (List.getElem_mem hl));have hv:=HV.out _ Ga;have Gi:free[k]∉free.take k:=fun hh=>by
      obtain⟨j,hj,he⟩:=List.getElem_of_mem hh;have Gm:j<k:=by simp at hj;omega
      have Gl:free[j]=free[k]:=by rw[<- he];simp
      exact(List.pairwise_iff_getElem.1 (List.nodup_append.1 Gk.out).2.1) j k oM hl Gm Gl
     have Gb:free[k]∉((free.take k).reverse++keep.reverse):=fun hh=>by
      rcases List.mem_append.1 hh with hh|hh
      ·exact Gi (by simpa using hh)
      ·exact(List.nodup_append.1 Gk.out).2.2 _ (by simpa using hh) _ (List.getElem_mem hl) rfl
     have Gp:=HS.out.look (x:=free[k]) hv.2;rw[decide_eq_false Gb]at Gp;obtain⟨w2,Gw,Gj,Gh⟩:=HS.out.add (x:=free[k]) (by unfold maxLen;omega) hv.2;have Gg:Hid (PSet w2 w.heap.size (n1+(k+1)) ((free.take (k+1)).reverse++keep.reverse)):=hid (by rw[x5s hl];exact Gj);have Gd:=hid (H.out.trans ((z3o (Z:=fun j=>j=w.heap.size) Gh rfl).toBelow H.out.size (fun j hj=>oM)));have Ge:=hid (z9m free[k]);rw[decide_eq_false hv.1]at Ge;clear Gj Gh Gb Gi Ga hv HS H;generalize free[k]=p at*;have Gx:(0:Int)<=(k:Int):=oM;have Gy:(k:Int)<(n2:Int):=oM;go_wp2_with (go_at_call 72;refine(Ge.out _).mono ?_;rintro e w3⟨rfl,rfl⟩)
     go_roundw
     case rel =>
      first
       |exact⟨k+1,oM,by go_num,Gg,Gd⟩
       |(
         repeat apply Exists.intro
         refine⟨?_,rfl⟩;exact⟨k+1,oM,by go_num,Gg,Gd⟩)
     case measure=>simp[Go.RowKit.intOf];omega
    ·have Gn:n2=k:=oM
     subst Gn;go_wp2;rw[rounds_succ];go_wp2;go_ret;exact⟨rfl,H.out⟩
end
end
section
open Go.RowKit Go.Maps
theorem w7h{a s K base g cs w}(h:w7y a s cs K w base g)(h1:1<=K):∃pl,base<=pl/\Plc a s K ⟨g,pl,0⟩ cs w:=by
 obtain⟨A,m,c,hB,hm,ho⟩:=h;subst hm;rcases ho.2 with ⟨_,h0⟩|⟨pl,cap,cur,hv,hge,hb,h2,h3,h4,h5⟩
 ·omega
 ·injection hv with e1 e2 e3
  subst e1 e3;refine⟨pl,hge,⟨_,hB⟩,cur,hb,fun k hk=>?_⟩;obtain⟨p0,p1,p2,p3⟩:=y2y s cs m k hk;have hg:∀(j:Nat)(u:Value),(z2r s cs m)[j]?=some u->cur[0+j]?=some u:=fun j u hu=>by
   rw[<- h5]at hu;rw[Nat.zero_add,<- Array.getElem?_toList];have hj:=(List.getElem?_eq_some_iff.1 hu).1;rw[List.length_take]at hj;rw[List.getElem?_take_of_lt oM]at hu;exact hu
  refine⟨hg _ _ p0,?_,?_,false,?_⟩
  ·rw[Nat.add_assoc];exact hg _ _ p1
  ·rw[Nat.add_assoc];exact hg _ _ p2
  ·rw[Nat.add_assoc];exact hg _ _ p3
theorem v3g{w B n s K A}(h:z0d w B 1 A n (z2s ((List.range K).map fun k=>((s+32*k:Nat):Int)))){k}(hk:k<n):
  ∃(b off:Nat),A=some (b,off)/\b<B/\w.cell? (b,off+k)=some ↑[s+32*k]:=by
 have hl:k<K:=by have:=h.1;simp[z2s]at this;omega
 obtain⟨b,off,hA,hb,hc⟩:=h.plain oM oM;exact⟨b,off,hA,hb,hc k _ (by simp[z2s,hl])⟩
def v2e(a:DA)(s n K:Nat)(cs:Nat->CS)(w:World)(e:Ending)(w':World):Prop:=∃x:HA,x.lk=false/\e=.returned (.tuple #[(x.h,0),()])/\HS a s n K x cs (fun _=>none) 0 0 w'/\(w<=x.h/\w<=x.gs/\w<=x.pl/\w<=x.mr/\w<=x.mh)/\Blw w w'
theorem y6q{a L T w S cur F}(cs:Nat->CS)(h:Dev a L T w S cur F)(ht:Tab w)(hp:Pay w) s n K (hn:32<=n) (hs:s+n<=L) (hK:n/32=K) (hv:∀k,k<K->CSok cur (s+32*k) (cs k)) :
  () 135 #[memV a,[s],[n]] w (v2e a s n K cs w):=by
 have HA:=hid (y3u cs h ht hp s n K hn hs hK hv);have hL:L<=4096:=by obtain⟨ls,GA,GG,cs,GE,G3,GB⟩:=h;exact G3.hL
 have G7:∀W,(Instr.makeMap 144 none).run Tryz.prog W=.ok (.map (some W.heap.size)) (W.alloc (.map #[] 0)):=fun _=>rfl
 have G8:∀W,(Instr.makeMap 165 none).run Tryz.prog W=.ok (.map (some W.heap.size)) (W.alloc (.map #[] 0)):=fun _=>rfl
 have Gu:K<=128:=oM;have G1:1<=K:=oM;have Gy:s<=100000:=oM;have Gl:Hid (∀k,k<K->(cs k).dv=true->∀W,Blw w W->() 151 #[memV a,[s+32*k]] W fun e w'=>e=.returned (.tuple #[chV a (s+32*k) (cs k).cl 0 (cs k).g,()])/\Blw W w'):=hid (fun k hk hd W hW=>by
  have hc:=hv k hk;unfold CSok at hc;rw[if_pos hd]at hc;exact z4u (h.below hW) (ht.below hW) (hp.below hW) (s+32*k) _ _ oM hc.cls hc.g0 hc.g1 hc.hdr)
 have Gt:Hid (∀k,k<K->(cs k).dv=true->∀W,Blw w W->() 226 #[chV a (s+32*k) (cs k).cl 0 (cs k).g] W fun e w'=>e=.returned ()/\Blw W w'):=hid (fun k hk hd W hW=>by
  have hc:=hv k hk;unfold CSok at hc;rw[if_pos hd]at hc;exact x2c (h.below hW) (ht.below hW) (hp.below hW) hc oM)
 clear h ht hp hv hK hn hs;unfold memV at HA Gl;unfold memV;go_enter Tryz.func135,Tryz.ntmps135
 go_wp2_with (first
  |(go_at_call 224;refine HA.out.mono ?_;rintro e w1⟨rfl,Gg,Gv⟩;obtain⟨pl,Gn,Gd⟩:=w7h Gg G1;have Gm:=hid Gd;have G0:=hid Gn;have Gj:=hid Gv;have HL:=hid (x7u Gm.out Gu Gy);clear Gg Gv Gn Gd)
  |(go_at_call 153;refine HL.out.mono ?_;rintro e w2⟨A,m,c,rfl,ho,Gf⟩;have G6:m=K:=(by have h1:=ho.1;rw[z6u]at h1;simp at h1;omega);have HO:=hid (z0d.of_own ho);have Gh:=hid (Gm.out.below Gf);have Ga:=hid (Gj.out.trans (Gf.mono Gj.out.size));clear ho Gf)
  |go_in)
 clear HA HL Gm Gj;subst G6;go_loopw [28] (fun i wr=>∃(k:Nat),k<=m/\i=↑[k]/\Hid (Blw w2 wr)) (fun i _=>m-(Go.RowKit.intOf i).toNat)
 case atStart=>exact⟨0,Nat.zero_le _,rfl,hid (Below.refl _ _)⟩
 case round =>
  obtain⟨k,hk,rfl,HR⟩:=hrel;by_cases hlt:k<m
  ·obtain⟨b,GF,hA,G2,f0⟩:=v3g (HO.out.below HR.out) hlt
   subst hA;have Ge:=hid (x8a (Gh.out.below HR.out) Gu Gy hlt);have Gc:=hid (Gt.out k hlt);have Gb:=hid (Gl.out k hlt);obtain⟨ln,Gx⟩:∃ln,s+32*k=ln:=⟨_,rfl⟩
   rw[Gx]at f0 Ge Gc Gb;have GC:(0:Int)<=(k:Int):=oM;have GD:(k:Int)<(m:Int):=oM;clear Gx G2;by_cases hd:(cs k).dv=true
   ·have ho:(cs k).own=0:=by unfold CS.own;rw[if_pos hd]
    rw[ho]at Ge;have Gr:=hid (Gb.out hd wr (Ga.out.trans (HR.out.mono Ga.out.size)));have Gs:=hid (Gc.out hd);generalize (cs k).cl=ccl at*;generalize (cs k).g=cg at*;unfold chV memV at Gr Gs;clear hd ho Gc Gb;go_wp2_with (first
     |(go_at_call 225;refine Ge.out.mono ?_;rintro e w3⟨rfl,rfl⟩)
     |(go_at_call 151;refine Gr.out.mono ?_;rintro e w3⟨rfl,Gi⟩;have Gp:=hid (HR.out.trans (Gi.mono HR.out.size));clear Gi)
     |fail)
    have Gk:=hid (Gp.out.alloc Gp.out.size (.cells #[(57,a.th 0,0),[ln],[ccl],(),#[cg]] 251));have Gz:=hid (Gs.out _ (Ga.out.trans (Gk.out.mono Ga.out.size)));go_wp2_with (first
     |(go_at_call 226;refine Gz.out.mono ?_;rintro e w5⟨rfl,Gw⟩;have Gq:=hid (Gk.out.trans (Gw.mono Gk.out.size));clear Gw)
     |fail)
    go_roundw
    case rel =>
     first
      |exact⟨k+1,oM,by go_num,Gq⟩
      |(
        repeat apply Exists.intro
        refine⟨?_,rfl⟩;exact⟨k+1,oM,by go_num,Gq⟩)
    case measure=>simp[Go.RowKit.intOf];omega
   ·have ho:(cs k).own= -1:=by unfold CS.own;rw[if_neg hd]
    rw[ho]at Ge;clear hd ho Gc Gb;go_wp2_with (first
     |(go_at_call 225;refine Ge.out.mono ?_;rintro e w3⟨rfl,rfl⟩)
     |fail)
    go_roundw
    case rel =>
     first
      |exact⟨k+1,oM,by go_num,HR⟩
      |(
        repeat apply Exists.intro
        refine⟨?_,rfl⟩;exact⟨k+1,oM,by go_num,HR⟩)
    case measure=>simp[Go.RowKit.intOf];omega
  ·obtain rfl:m=k:=oM
   go_wp2;go_ret2;have Ga:=hid (Ga.out.trans (HR.out.mono Ga.out.size));have Gh:=hid (Gh.out.below HR.out);clear HR HO Gl Gt;have e9:((wr.alloc (.map #[] 0)).alloc (.map #[] 0)).heap.size=wr.heap.size+1+1:=by simp
   have Gf:Blw w ((wr.alloc (.map #[] 0)).alloc (.map #[] 0)):=(Ga.out.alloc Ga.out.size _).alloc (by have:=Ga.out.size;simp;omega) _;have Gd:=Gh.out;have Gn:=G0.out;have G9:=Ga.out.size;have Gi:∀V,Blw wr (((wr.alloc (.map #[] 0)).alloc (.map #[] 0)).alloc V):=fun V=>(((Below.refl _ wr).alloc (nL _) _).alloc (by simp) _).alloc (by simp;omega) _
   have G4:PMap ((wr.alloc (.map #[] 0)).alloc (.map #[] 0)) wr 0 (fun _=>none) 0:=(PMap.new wr).chg ((Chg.refl Fp.no _).alloc _) (fun h=>h);have G5:=HMap.new (wr.alloc (.map #[] 0));refine⟨⟨wr+1+1,w.heap.size,pl,0,wr.heap.size,wr.heap.size+1,false⟩,rfl,rfl,⟨by rw[<- e9];exact Blk.new _ _ _,Gd.below (Gi _),G4.chg ((Chg.refl Fp.no _).alloc _) (fun h=>h),?_,?_⟩,⟨?_,nL _,?_,?_,?_⟩,Gf.alloc (by rw[e9];omega) _⟩
   ·have:=G5.chg ((Chg.refl Fp.no _).alloc (.cells (z2d a s n w wr (wr+1) false) 168)) (fun h=>h)
    have e8:(wr.alloc (.map #[] 0)).heap.size=wr.heap.size+1:=by simp
    rw[e8]at this;exact this
   ·show wr.heap.size≠wr.heap.size+1
    omega
   ·show w.heap.size<=wr.heap.size+1+1
    omega
   ·show w.heap.size<=pl
    omega
   ·exact G9
   ·show w.heap.size<=wr.heap.size+1
    omega
end
section
open Go.RowKit
def v1w(w:World)(ln cl:Nat)(bs:Nat->BK)(take:List (Nat×Nat))(drop:List Nat)(e:Ending)(w':World):Prop :=
 ∃A m c V',e=.returned (.tuple #[.slice A m c,()])/\Bits V' cl (actB bs take drop)/\w'.ownsRow w 117 2 (.slice A m c) m (z0a (chgW ln cl bs take drop V'))/\Blw w w'
section
variable{a:DA}{L T:Nat}{w:World}{S:Fp}{cur:Nat->Nat}{F:Nat}
theorem y6f(h:Dev a L T w S cur F)(ht:Tab w)(hp:Pay w) ln cl g V (bs:Nat->BK) (hl:ln+32<=L) (hC:ChW cur ln cl g V bs)
  A1 A2 A3 n1 c1 c2 n3 c3 take drop (h1:z0d w w 1 A1 n1 (z1f (take.map (·.1)))) (h2:z0d w w 1 A2 n1 (u8s (take.map (·.2)))) (h3:z0d w w 1 A3 n3 (z1f drop))
  (hn:(take.map (·.1)++drop).Nodup) (hi1:∀e∈take,e.1<perC cl/\(bs e.1).st=176/\0<e.2/\e.2<128) (hi3:∀i∈drop,i<perC cl/\(bs i).st=177) (hne:0<n1\/0<n3) (hn1:n1<=100) (hn3:n3<=100) :
  () 186 #[chV a ln cl 0 g,.slice A1 n1 c1,.slice A2 n1 c2,.slice A3 n3 c3] w (v1w w ln cl bs take drop):=by
 have Gw:Blw w (w.alloc (.cells (z0w a ln cl g) 251)):=(Below.refl _ _).alloc (nL _) _;have Gd:=hid Gw;have HK:=hid (Blk.new w 251 (z0w a ln cl g));have Gu:Hid (∀W bl,Blw w W->Blk W bl 34 #[.slice A1 n1 c1,.slice A3 n3 c3]->() 251 #[chV a ln cl 0 g,(bl,0,2,2)] W fun e w'=>e=.returned true/\Blw W w'):=hid (fun W bl hW hB=>w6h a ln cl g hC.cls A1 A3 n1 c1 n3 c3 (take.map (·.1)) drop W (hp.below hW) bl hB ((h1.below hW).more hW.size) ((h3.below hW).more hW.size) hn (fun i hi=>by
  rcases List.mem_append.1 hi with hi|hi
  ·obtain⟨e,he,rfl⟩:=List.mem_map.1 hi
   exact(hi1 e he).1
  ·exact(hi3 i hi).1) oM oM)
 have Gs:Hid (∀W,Blw w W->() 76 #[(a.th 0,0)] W fun e w'=>e=.returned ()/\W=w'):=hid (fun W hW=>z9u (h.below hW));have Gq:Hid (∀W,Blw w W->() 252 #[chV a ln cl 0 g,.slice A1 n1 c1,.slice A2 n1 c2,.slice A3 n3 c3] W (w7t W ln cl bs take drop)):=hid (fun W hW=>x2d (h.below hW) (ht.below hW) (hp.below hW) ln cl g V bs hl hC A1 A2 A3 n1 c1 c2 n3 c3 take drop ((h1.below hW).more hW.size) ((h2.below hW).more hW.size) ((h3.below hW).more hW.size) hn hi1 hi3 hne hn1 hn3);have G3:=hid h2;have G0:=hid hi1;have Gf:=hid (show take.length=n1 by have:=h2.1;simp[u8s]at this;omega);have hm:=z1x (some (a.th 0,0));have hq:=z7p (some (a.th 0,0));clear h ht hp hl hC h1 h2 h3 hn hi1 hi3 hne Gw;unfold chV at*;unfold z0w memV at*;generalize hW:w.alloc (.cells #[(57,a.th 0,0),[ln],[cl],(),#[g]] 251)=W at*;have G4:=hid hW.symm;clear hW;go_enter Tryz.func186,Tryz.ntmps186
 go_wp2;rw[<- G4.out];go_loopw [23] (fun i wr=>∃(k:Nat),k<=n1/\i=↑[k]/\Hid (W=wr)) (fun i _=>n1-(Go.RowKit.intOf i).toNat)
 case atStart=>exact⟨0,Nat.zero_le _,rfl,hid rfl⟩
 case round =>
  obtain⟨k,hk,rfl,hw⟩:=hrel;have hw:=hw.out;subst hw;by_cases hlt:k<n1
  ·obtain⟨G8,b2,G9,G5,G6,fk⟩:=w1k (G3.out.below Gd.out) hlt
   subst G5;have e2:(take.map (·.2))[k]=(take[k]'(by rw[Gf.out];exact hlt)).2:=by simp
   rw[e2]at fk;obtain⟨_,_,GB,GC⟩:=G0.out (take[k]'(by rw[Gf.out];exact hlt)) (List.getElem_mem _);generalize (take[k]'(by rw[Gf.out];exact hlt)).2=kd at*;have d1:((kd:Int)==0)=false:=by rw[beq_eq_false_iff_ne];omega
   have d2:decide ((127:Int)<(kd:Int))=false:=dF;have GA:decide (127<kd)=false:=dF;have GE:(0:Int)<=(k:Int):=oM;have GF:(k:Int)<(n1:Int):=oM;clear e2 G8;go_wp2;go_roundw
   case rel =>
    first
     |exact⟨k+1,oM,by go_num,hid trivial⟩
     |exact⟨k+1,oM,by go_num,hid rfl⟩
     |(
       repeat apply Exists.intro
       refine⟨?_,rfl⟩;exact⟨k+1,oM,by go_num,hid rfl⟩)
   case measure=>simp[Go.RowKit.intOf];omega
  ·have G7:k=n1:=oM
   subst G7;clear hlt hk;have Gi:W.cell? (w,0)=some ↑(57,a.th 0,0):=HK.out.cell 0;have Gj:W.cell? (w,1)=some ↑[ln]:=HK.out.cell 1;have Gk:W.cell? (w,2)=some ↑[cl]:=HK.out.cell 2;have Gl:W.cell? (w,3)=some ↑():=HK.out.cell 3;have Gm:W.cell? (w,4)=some ↑#[g]:=HK.out.cell 4;have Gc:=hid (Gd.out.alloc Gd.out.size (.cells #[.slice A1 k c1,.slice A3 n3 c3] 34));have Gt:=hid (Blk.new W 34 #[.slice A1 k c1,.slice A3 n3 c3]);have Gv:=hid (Gu.out _ _ Gc.out Gt.out);have Ge:=hid (HK.out.alloc (.cells #[.slice A1 k c1,.slice A3 n3 c3] 34));clear Gu Gt;go_wp2_with (go_at_call 251;refine Gv.out.mono ?_;rintro e w2⟨rfl,Gg⟩;refine stop ?_)
   unfold Stop;have Gb:=hid (Gc.out.trans (Gg.mono Gc.out.size));have Ga:=hid (Ge.out.below Gg Ge.out.lt);clear Gg Gi Gj Gk Gl Gm Gv Gc Ge;have Gi:w2.cell? (w,0)=some ↑(57,a.th 0,0):=Ga.out.cell 0;have Gj:w2.cell? (w,1)=some ↑[ln]:=Ga.out.cell 1;have Gk:w2.cell? (w,2)=some ↑[cl]:=Ga.out.cell 2;have Gl:w2.cell? (w,3)=some ↑():=Ga.out.cell 3;have Gm:w2.cell? (w,4)=some ↑#[g]:=Ga.out.cell 4;have Gp:=hid (Gq.out w2 Gb.out);have Gr:=hid (Gs.out w2 Gb.out);go_wp2_with (first
    |(go_at_call 76;refine Gr.out.mono ?_;rintro e w3⟨rfl,rfl⟩)
    |(go_at_call 252;refine Gp.out.mono ?_;rintro e w3⟨A,m,c,V',rfl,Gx,ho,Gh⟩;refine stop ?_))
   unfold Stop;have Gn:=hid (Gb.out.trans (Gh.mono Gb.out.size));have G1:=hid (Ga.out.below Gh Ga.out.lt);have Gy:=hid Gx;have G2:=hid (z2u (base':=w.heap.size) ho Gb.out.size);have Gz:=hid (Gs.out w3 Gn.out);have GD:w3.cell? (w,0)=some ↑(57,a.th 0,0):=G1.out.cell 0;clear Gh Gx ho Gi Gj Gk Gl Gm Gp Gr Gq;go_wp2_with (go_at_call 76;refine Gz.out.mono ?_;rintro e w4⟨rfl,rfl⟩)
   go_ret2;exact⟨_,_,_,V',rfl,Gy.out,G2.out,Gn.out⟩
end
end
section
open Go.RowKit Go.Maps
section
variable{a:DA}{L T s n K:Nat}{x:HA}{cs:Nat->CS}{f:Nat->Option Nat}{N m b0:Nat}{S:Fp}{cur:Nat->Nat}{w w':World}{k:Nat}
theorem DS.rel(h:DS a L T s n K x cs f N m b0 S cur w){o p}(hf:f o=some p)(ho:o<18446744073709551616)(hk:k<K)(hN:N<maxLen):
  ∃(w1 w2 w3:World)(c c2:Int),
   (Builtin.delete_ #[144,32] 0 #[.map (some x.mr),o]).run Tryz.prog w.drew=.ok (.tuple #[]) w1 /\
   (Instr.lookup 165 (.map (some x.mh)) [s+32*k] false).run Tryz.prog w1=.ok [c] w1 /\
   (Instr.mapUpdate 165 (.map (some x.mh)) [s+32*k] [wrap64 (c-1)]).run Tryz.prog w1=.ok () w2 /\
   (Instr.lookup 165 (.map (some x.mh)) [s+32*k] false).run Tryz.prog w2=.ok [c2] w2 /\
   (Builtin.delete_ #[165,3] 0 #[.map (some x.mh),[s+32*k]]).run Tryz.prog w2=.ok (.tuple #[]) w3 /\
   Blk w1 x.h 168 (z2d a s n x.gs x.mr x.mh x.lk)/\Blk w2 x.h 168 (z2d a s n x.gs x.mr x.mh x.lk)/\Blk w3 x.h 168 (z2d a s n x.gs x.mr x.mh x.lk)/\Plc a s K x.p cs w3 /\
   (DS a L T s n K x cs (updF f o none) (N+1) (m-1) b0 S cur w2/\Chg x.fp w w2) /\
   ∀w4,Plc a s K x.p cs w4->Chg (fun j=>j=x.pl) w3 w4->DS a L T s n K x cs (updF f o none) (N+1) (m-1) b0 S cur w4/\Chg x.fp w w4:=by
 obtain⟨n1,n2,n3,n4,n5,n6,n7,n8⟩:=h.hs.pl_ne;have Gc:=h.few;have hd:Chg Fp.no w w.drew:=(Chg.refl _ _).drew;have hs:=h.hs.chg hd (fun h=>h) (fun h=>h) (fun h=>h) (fun h=>h) (fun h=>h);obtain⟨w1,r1,p1,g1⟩:=hs.res.del ho hf;have c1:Chg (fun j=>j=x.mr) w.drew w1:=z3o g1 rfl;have Gb:=hs.held.chg c1 (fun e=>hs.ne e.symm);obtain⟨c,r2,Ge⟩:=Gb.look (x:=s+32*k) oM;obtain⟨w2,r3,p2,g2⟩:=Gb.put hN (x:=s+32*k) oM (wrap64_wf (c-1));have c2:Chg (fun j=>j=x.mh) w1 w2:=z3o g2 rfl;obtain⟨cc,r4,Gd⟩:=p2.look (x:=s+32*k) oM;obtain⟨w3,r5,p3,g3⟩:=p2.del (x:=s+32*k) oM;have c3:Chg (fun j=>j=x.mh) w2 w3:=z3o g3 rfl;have b1:=c1.blk hs.heap n5;have b2:=c2.blk b1 n6;have b3:=c3.blk b2 n6;have l2:=(hs.plc.chg c1 n3 n1).chg c2 n4 n2;have l3:=l2.chg c3 n4 n2;have f2:Chg x.fp w w2:=(((Chg.refl x.fp w).drew).trans (S':=fun j=>j=x.mr) c1 (fun j hj => .inl (.inr (.inl hj)))).trans (S':=fun j=>j=x.mh) c2 (fun j hj => .inl (.inr (.inr hj)));have Ga:∀o' p',updF f o none o'=some p'->x3w s K cs o' p':=fun o' p' hop=>by
  unfold updF at hop;split at hop
  ·cases hop
  ·exact h.res o' p' hop
 have q2:=(p1.mono (Nat.le_succ N)).chg c2 h.hs.ne;refine⟨w1,w2,w3,c,cc,r1,r2,r3,r4,r5,b1,b2,b3,l3,⟨h.own_ ⟨b2,l2,q2,p2,h.hs.ne⟩ f2 h.ok Ga,f2⟩,fun w4 l4 c4=>?_⟩;have f4:Chg x.fp w w4:=(f2.trans (S':=fun j=>j=x.mh) c3 (fun j hj => .inl (.inr (.inr hj)))).trans (S':=fun j=>j=x.pl) c4 (fun j hj => .inl (.inl hj));exact⟨h.own_ ⟨c4.blk b3 n8,l4,(q2.chg c3 h.hs.ne).chg c4 (fun e=>n1 e.symm),p3.chg c4 (fun e=>n2 e.symm),h.hs.ne⟩ f4 h.ok Ga,f4⟩
end
def y7q(a:DA)(L T s n K:Nat)(x:HA)(cs:Nat->CS)(f:Nat->Option Nat)(N m b0:Nat)(S:Fp)(cur:Nat->Nat)(w:World)(v:Value)(e:Ending)(w':World):Prop:=e=.returned v/\DS a L T s n K x cs f N m b0 S cur w'/\Chg x.fp w w'
section
variable{a:DA}{L T s n K:Nat}{x:HA}{cs:Nat->CS}{f:Nat->Option Nat}{N m b0:Nat}{S:Fp}{cur:Nat->Nat}{w w':World}
theorem x3h(h:DS a L T s n K x cs f N m b0 S cur w) p (hf:f (pOff p)=some p) (hN:N<1000000000) :
  () 192 #[(x.h,0),p] w (y7q a L T s n K x cs (updF f (pOff p) none) (N+1) (m-1) b0 S cur w (.tuple #[])):=by
 obtain⟨k,i,hk,hd,hi,Gj,_⟩:=h.res _ _ hf;have Gh:z4y s K (pOff p)=some k:=by rw[Gj];exact z9i hk hi
 have Gb:pOff p<18446744073709551616:=by unfold pOff;omega
 obtain⟨w1,w2,w3,c,c2,r1,r2,r3,r4,r5,b1,b2,b3,l3,hA,hB⟩:=h.rel hf Gb hk (by unfold maxLen;omega);have Ga:=h.few;have Gg:=hid (z4o p);have Gn:n<=4096:=by have:=h.hK;have:=h.hL;omega
 have Gf:=hid (x4x b1 Ga.2 Gn h.hK.1 (pOff p) Gb);have Gc:=hid (y2o l3 Ga.1 oM hk hd false);have Ge:=hid hA;have Gk:=hid hB;have Gd:=hid Gh;have y0:w.cell? (x.h,4)=some (.map (some x.mr)):=h.hs.heap.cell 4;have y1:w1.cell? (x.h,5)=some (.map (some x.mh)):=b1.cell 5;have y2:w2.cell? (x.h,5)=some (.map (some x.mh)):=b2.cell 5;have y3:w3.cell? (x.h,3)=some (x.gs,0):=b3.cell 3;clear h Gj hf hA hB Gh b1 b2 b3 l3 hd hi;unfold HA.p y5l at Gc;dsimp only at Gc;unfold y7q;generalize pOff p=o at*;obtain⟨v,hv⟩:∃v:Int,((s+32*k:Nat):Int)=v:=⟨_,rfl⟩
 rw[hv]at r2 r3 r4 r5 Gc;have Gl:=hid hv;clear hv;go_enter Tryz.func192,Tryz.ntmps192
 go_wp2_with fail
 go_region_with (go_at_call 143;refine(Gg.out _).mono ?_;rintro e wz⟨rfl,rfl⟩)
 all_goals
  go_wp2_with (first
   |(go_at_call 143;refine(Gg.out _).mono ?_;rintro e wz⟨rfl,rfl⟩)
   |(go_at_call 150;refine Gf.out.mono ?_;rintro e wz⟨l1,bb,rfl,hP,rfl⟩;refine stop ?_))
  unfold Stop;have Gm:((l1:Nat):Int)=v/\bb=true:=by
   rcases hP with ⟨h1,_,_⟩|⟨k',h1,_,h3,h4⟩
   ·rw[Gd.out]at h1;cases h1
   ·rw[Gd.out]at h1
    injection h1 with h1
    subst h1;exact⟨by rw[h3];exact Gl.out,h4⟩
  obtain⟨Gi,rfl⟩:=Gm;rw[Gi];clear hP Gi Gf Gd;by_cases hc2:c2<=0
  ·have e1:decide (c2<=0)=true:=decide_eq_true hc2
   clear hc2;go_wp2_with (go_at_call 253;refine Gc.out.mono ?_;rintro e w4⟨rfl,l4,c4⟩;have HE:=hid (Gk.out w4 l4 c4);clear l4 c4)
   go_end0;exact⟨rfl,HE.out.1,HE.out.2⟩
  ·have e1:decide (c2<=0)=false:=decide_eq_false hc2
   go_wp2;go_end0;exact⟨rfl,Ge.out.1,Ge.out.2⟩
end
end
section
open Go.RowKit Go.Maps
def chR:Value->Option (DataW Unit×List MemPlace)
 | .pointer (some ⟨g,0,none⟩)=>some (.lit (.int .i64 g),[])
 | .pointer none=>some (.lit (.bool false),[])
 |_=>none
def chD:Option Nat->DataW Unit
 |some g => .lit (.int .i64 g)
 |none => .lit (.bool false)
def chV':Option Nat->Value
 |some g => .pointer (some (g,0))
 |none => .pointer none
theorem v2w(o:Option Nat):chR (chV' o)=some (chD o,[]):=by cases o<;>rfl
theorem w9l{v:Value}{o:Option Nat}{ps:List MemPlace}(h:chR v=some (chD o,ps)):v=chV' o:=by
 unfold chR at h;split at h
 ·rename_i g
  cases o with
  |none=>simp[chD]at h
  |some g' =>
         simp[chD]at h;obtain⟨h1,_⟩:=h;have:g=g':=oM;subst this;rfl
 ·cases o with
  |none=>rfl
  |some g'=>simp[chD]at h
 ·cases h
def y2v(s k:Nat):Lit := .int .i64 ((s+32*k:Nat):Int)
theorem y9m s k:WideAt.IsKeyLit (y2v s k):=by simp[WideAt.IsKeyLit,y2v]
theorem w6a{s k k'}(h:k'≠k):y2v s k'≠y2v s k:=by
 intro e;unfold y2v at e;injection e with _ e
 omega
structure ChMD(D:DataW Unit)(s K:Nat)(cb:Nat->Option Nat):Prop where
 at_:∀k,k<K->D.atKey (y2v s k) (.lit (.bool false))=chD (cb k)
 has:∀x:Int,Maps.has D (.int .i64 x)=true↔∃k,k<K/\x=((s+32*k:Nat):Int)/\(cb k).isSome=true
def ChM(w:World)(mb N s K:Nat)(cb:Nat->Option Nat):Prop:=∃D:DataW Unit,w.ownsMap Tryz.prog 3 chR mb N D/\ChMD D s K cb
def updO(cb:Nat->Option Nat)(k:Nat)(v:Option Nat):Nat->Option Nat:=fun j=>if j=k then v else cb j
section
variable{w w':World}{mb N s K:Nat}{cb:Nat->Option Nat}{k:Nat}
theorem ChM.look(h:ChM w mb N s K cb)(hk:k<K)(hs:s+32*k<9000000000):(Instr.lookup 271 (.map (some mb)) (.int .i64 ((s+32*k:Nat):Int)) false).run Tryz.prog w=.ok (chV' (cb k)) w:=by
 obtain⟨D,ho,hd⟩:=h;obtain⟨v,ps,Ga,hv⟩:=ho.lookup y4r Tryz.underlying271 (z := .pointer none) (by kernel_rfl) (show chR (.pointer none)=some (.lit (.bool false),[])from rfl) (keyI hs);have he:=hd.at_ k hk;unfold y2v at he;rw[he]at hv;rw[Ga,w9l hv]
theorem ChM.put(h:ChM w mb N s K cb)(hN:N<maxLen)(hk:k<K)(hs:s+32*k<9000000000) g :
  ∃w',(Instr.mapUpdate 271 (.map (some mb)) (.int .i64 ((s+32*k:Nat):Int)) (.pointer (some ⟨g,0,none⟩))).run Tryz.prog w=.ok () w'/\ChM w' mb (N+1) s K (updO cb k (some g))/\w.grownBy w' (some mb):=by
 obtain⟨D,ho,hd⟩:=h;obtain⟨w',Ga,Gb,hg⟩:=ho.update y4r Tryz.underlying271 hN (keyI hs) (v2w (some g));refine⟨w',Ga,⟨_,Gb,fun j hj=>?_,fun y=>?_⟩,hg⟩
 ·unfold updO
  by_cases e:j=k
  ·subst e
   rw[if_pos rfl];exact atKey_put_same ho.isMap (y9m s j) _ _
  ·rw[if_neg e]
   exact(atKey_put_other (w6a e) _ _).trans (hd.at_ j hj)
 ·by_cases e:y=((s+32*k:Nat):Int)
  ·subst e
   have h1:=has_put_same ho.isMap (y9m s k) (chD (some g));unfold y2v at h1;rw[h1];exact⟨fun _=>⟨k,hk,rfl,by simp[updO]⟩,fun _=>rfl⟩
  ·have h1:Maps.has (D.put (y2v s k) (chD (some g))) (.int .i64 y)=Maps.has D (.int .i64 y):=has_put_other (fun e'=>by unfold y2v at e';injection e' with _ e';exact e e') _
   unfold y2v at h1;rw[h1,hd.has y];constructor
   ·rintro⟨j,hj,hy,hs⟩
    exact⟨j,hj,hy,by unfold updO;rw[if_neg (fun e'=>e (by rw[hy,e']))];exact hs⟩
   ·rintro⟨j,hj,hy,hs⟩
    refine⟨j,hj,hy,?_⟩;unfold updO at hs;rw[if_neg (fun e'=>e (by rw[hy,e']))]at hs;exact hs
theorem ChM.new(w:World)(s K:Nat):ChM (w.alloc (.map #[] 0)) w 0 s K (fun _=>none):=⟨_,World.ownsMap_made w _ _ _,fun k _=>by simp[DataW.atKey,chD],fun x=>by simp[Maps.has]⟩
theorem ChM.chg{Z}(h:ChM w mb N s K cb)(hc:Chg Z w w')(hb:¬Z mb):ChM w' mb N s K cb:=by
 obtain⟨D,ho,hd⟩:=h;exact⟨D,hc.map ho hb,hd⟩
theorem ChM.lt(h:ChM w mb N s K cb):mb<w:=by
 obtain⟨D,ho,hd⟩:=h;exact ho.lt
theorem ChM.mono{N'}(h:ChM w mb N s K cb)(hN:N<=N'):ChM w mb N' s K cb:=by
 obtain⟨D,ho,hd⟩:=h;exact⟨D,ho.mono hN,hd⟩
end
def v3z(w:World)(mb N s K:Nat)(cb:Nat->Option Nat)(k:Nat)(e:Ending)(w':World):Prop :=
 (∃g,cb k=some g/\e=.returned (g,0)/\w=w') \/
 (cb k=none/\e=.returned (w,0)/\ChM w' mb (N+1) s K (updO cb k (some w.heap.size))/\Blk w' w 274 #[((),()),((),()),((),())]/\Chg (fun j=>j=mb) w w')
theorem w4w{w mb N s K cb}(h:ChM w mb N s K cb)(k:Nat)(hk:k<K)(hs:s+32*k<9000000000)(hN:N<1000000000)(vb:Nat)(hv:w.cell? (vb,())=some (.map (some mb))):
  () 182 #[[s+32*k],(vb,())] w (v3z w mb N s K cb k):=by
 have Ga:=h.look hk hs;have Gd:=World.block_lt_of_cell? _ _ hv;have Gc:=h.lt;cases hc:cb k with
 |some g =>
  rw[hc]at Ga;have Gb:(Instr.lookup 271 (.map (some mb)) [s+32*k] false).run Tryz.prog w=.ok (g,()) w:=Ga;have HC:=hid hc;clear Ga hc h;generalize ((s+32*k:Nat):Int)=v at*;go_enter Tryz.func182,Tryz.ntmps182
  go_wp2;go_ret;exact .inl ⟨g,HC.out,rfl,rfl⟩
 |none =>
  rw[hc]at Ga;have Gb:(Instr.lookup 271 (.map (some mb)) [s+32*k] false).run Tryz.prog w=.ok (.pointer none) w:=Ga;have h1:=h.chg ((Chg.refl Fp.no w).alloc (.cells #[((),()),((),()),((),())] 274)) (fun h=>h);obtain⟨w2,r2,h2,g2⟩:=h1.put (by unfold maxLen;omega) hk hs w;have HE:=hid (show ChM w2 mb (N+1) s K (updO cb k (some w.heap.size))/\Blk w2 w 274 #[((),()),((),()),((),())]/\Chg (fun j=>j=mb) w w2 from⟨h2,(Blk.new w _ _).grown g2 (fun e=>by injection e with e;omega),((Chg.refl (fun j=>j=mb) w).alloc _).trans (z3o (Z:=fun j=>j=mb) g2 rfl) (Grew.refl _ _)⟩);have HC:=hid hc;clear Ga hc h h1 h2 g2;generalize ((s+32*k:Nat):Int)=v at*;go_enter Tryz.func182,Tryz.ntmps182
  go_wp2;go_ret;exact .inr ⟨HC.out,rfl,HE.out.1,HE.out.2.1,HE.out.2.2⟩
end
section
open Go.RowKit Go.Maps
def relF(f:Nat->Option Nat)(l:List Nat):Nat->Option Nat:=l.foldl (fun g p=>updF g (pOff p) none) f
theorem w2r(f:Nat->Option Nat) l p:relF f (l++[p])=updF (relF f l) (pOff p) none:=by simp[relF]
theorem x5i:∀(l:List Nat)(f:Nat->Option Nat)(o:Nat),o∉l.map pOff->relF f l o=f o
 |[],_,_,_=>rfl
 |p::l,f,o,h=>by
  show relF (updF f (pOff p) none) l o=f o;rw[x5i l _ o (fun hh=>h (by simp at hh⊢;exact .inr hh))];unfold updF;rw[if_neg (fun hh=>h (by simp[hh]))]
section
variable{a:DA}{L T s n K:Nat}{x:HA}{cs:Nat->CS}{f:Nat->Option Nat}{N m b0:Nat}{S:Fp}{cur:Nat->Nat}{w w':World}
theorem x8k(h:DS a L T s n K x cs f N m b0 S cur w) A1 n1 c1 keep (h1:z0d w w 1 A1 n1 (z0g keep)) (hA:∀ad,A1=some ad->¬x.fp ad.block) (hf:∀p∈keep,f (pOff p)=some p) (hn:(keep.map pOff).Nodup) (hN:N+n1<=1000000000) (hn1:n1<=1000000) v2 :
  () 96 #[(x.h,0),.slice A1 n1 c1,v2] w (y7q a L T s n K x cs (relF f keep) (N+n1) (m-n1) b0 S cur w (.tuple #[])):=by
 have HR:=hid h1;have Gk:=hid hA;have HF:=hid hf;have Gn:=hid hn;have Gm:=hid (show keep.length=n1 by have:=h1.1;simp[z0g]at this;omega);have Gd:Hid (DS a L T s n K x cs (relF f (keep.take 0)) (N+0) (m-0) b0 S cur w/\Chg x.fp w w):=hid ⟨h,Chg.refl _ _⟩;clear h h1 hA hf hn;go_enter Tryz.func96,Tryz.ntmps96
 go_wp2;go_loopw [12] (fun i wr=>∃(k:Nat),k<=n1/\i=↑[k]/\Hid (DS a L T s n K x cs (relF f (keep.take k)) (N+k) (m-k) b0 S cur wr/\Chg x.fp w wr)) (fun i _=>n1-(Go.RowKit.intOf i).toNat)
 case atStart=>exact⟨0,Nat.zero_le _,rfl,Gd⟩
 case round =>
  clear Gd;obtain⟨k,hk,rfl,H⟩:=hrel;by_cases hlt:k<n1
  ·obtain⟨hl,b,Gw,hA,Gt,f0⟩:=z7w (H.out.2.reads HR.out (nL _) Gk.out) hlt
   subst hA;have Gj:pOff keep[k]∉(keep.take k).map pOff:=fun hh=>by
    obtain⟨q,hq,he⟩:=List.mem_map.1 hh;obtain⟨j,hj,Gr⟩:=List.getElem_of_mem hq;have Gq:j<k:=by simp at hj;omega
    have Gp:pOff keep[j]=pOff keep[k]:=by rw[<- he,<- Gr];simp
    exact(List.pairwise_iff_getElem.1 Gn.out) j k (by simp;omega) (by simpa using hl) Gq (by simpa using Gp)
   have Gc:relF f (keep.take k) (pOff keep[k])=some keep[k]:=by rw[x5i _ _ _ Gj];exact HF.out _ (List.getElem_mem hl)
   have Ga:=hid (y9i H.out.1.hs keep[k]);rw[decide_eq_true Gc]at Ga;have Gg:Hid (∀W,Blw wr W->() 192 #[(x.h,0),(keep[k])] W (y7q a L T s n K x cs (relF f (keep.take (k+1))) (N+(k+1)) (m-(k+1)) b0 S cur W (.tuple #[]))):=hid (fun W hW=>by
    have h2:=x3h (H.out.1.below hW) keep[k] Gc oM;rw[<- w2r,<- List.take_succ_eq_append_getElem hl,show m-k-1=m-(k+1) by omega]at h2;exact h2)
   clear Gc Gj;have HC:=hid H.out.2;generalize keep[k]=p at*;have Gu:(0:Int)<=(k:Int):=oM;have Gv:(k:Int)<(n1:Int):=oM;go_wp2_with (go_at_call 181;refine Ga.out.mono ?_;rintro e w2⟨rfl,Gb⟩;refine stop ?_)
   unfold Stop;have Gf:=hid (Gg.out w2 Gb);have Gl:=hid Gb;clear Gb Gg Ga H;unfold y7q at Gf;go_wp2_with (go_at_call 192;refine Gf.out.mono ?_;rintro e w3⟨rfl,Gi,Gh⟩;have Ge:Hid (DS a L T s n K x cs (relF f (keep.take (k+1))) (N+(k+1)) (m-(k+1)) b0 S cur w3/\Chg x.fp w w3):=hid ⟨Gi,(HC.out.below Gl.out).trans Gh (Grew.refl _ _)⟩;clear Gi Gh)
   go_roundw
   case rel =>
    first
     |exact⟨k+1,oM,by go_num,Ge⟩
     |(
       repeat apply Exists.intro
       refine⟨?_,rfl⟩;exact⟨k+1,oM,by go_num,Ge⟩)
   case measure=>simp[Go.RowKit.intOf];omega
  ·have Gs:n1=k:=oM
   subst Gs;have HE:Hid (DS a L T s n K x cs (relF f keep) (N+n1) (m-n1) b0 S cur wr/\Chg x.fp w wr):=hid (by
    have h:=H.out;rw[List.take_of_length_le (by rw[Gm.out];exact nL _)]at h;exact h)
   go_wp2;go_end0;exact⟨rfl,HE.out.1,HE.out.2⟩
end
end
end Go.Proofs.YtmhbokcccjmfgaaGreatDoor
