/- part 18 -/
import Derived.Test.YtfkjjoglnmeciaaGreatDoorMaq
set_option maxRecDepth 100000
set_option maxHeartbeats 16000000
namespace Go.Proofs.YtfkjjoglnmeciaaGreatDoor
open Go.Lib (hid)
section
open Go.RowKit
theorem x7m {w:World} {B n:Nat} {A:Option Addr} {l:List Nat} (h:z0c w B 1 A n (u8s l)) {k:Nat} (hk:k < n) :
  ∃ (hl:k < l.length) (b off:Nat),A=some ⟨b,off,none⟩/\b < B/\w.cell? ⟨b,off+k,none⟩=some (.int .u8 ((l[k]:Nat):Int)):=by
 have hl:k < l.length:=by have:=h.1;simp [u8s] at this;omega
 obtain ⟨b,off,hA,hb,hc⟩:=h.plain oM oM;exact ⟨hl,b,off,hA,hb,hc k _ (by simp [u8s,hl])⟩
def w3p (w:World) (ln cl:Nat) (bs:Nat->BK) (take:List (Nat × Nat)) (drop:List Nat) (e:Ending) (w':World):Prop :=
 ∃ A m c V',e=.returned (.tuple #[.slice A m c,.bool true])/\Bits V' cl (actB bs take drop)/\w'.ownsRow w.heap.size 114 2 (.slice A m c) m (z0d (chgW ln cl bs take drop V'))/\Blw w w'
theorem w3c (ln cl:Nat) (bs:Nat->BK) (l:List (Nat × Nat)) (e:Nat × Nat):tkW ln cl bs (l++[e])=tkW ln cl bs l++[(64 * ln+8 * offB cl e.1,(z2v (bs e.1) e.2).w)]:=by simp [tkW]
theorem w0w (ln cl:Nat) (bs:Nat->BK) (l:List Nat) (i:Nat):drW ln cl bs (l++[i])=drW ln cl bs l++[(64 * ln+8 * offB cl i,(z1u (bs i)).w)]:=by simp [drW]
section
variable {a:DA} {L T:Nat} {w:World} {S:Fp} {cur:Nat->Nat} {F:Nat}
theorem y8x (h:Dev a L T w S cur F) (ht:Tab w) (hp:Pay w) (ln cl g V:Nat) (bs:Nat->BK) (hl:ln+32<=L) (hC:ChW cur ln cl g V bs)
  (A1 A2 A3:Option Addr) (n1 c1 c2 n3 c3:Nat) (take:List (Nat × Nat)) (drop:List Nat) (h1:z0c w w.heap.size 1 A1 n1 (z0x (take.map (·.1)))) (h2:z0c w w.heap.size 1 A2 n1 (u8s (take.map (·.2)))) (h3:z0c w w.heap.size 1 A3 n3 (z0x drop))
  (hn:(take.map (·.1)++drop).Nodup) (hi1:∀ e∈take,e.1 < perC cl/\(bs e.1).st=176/\0 < e.2/\e.2 < 128) (hi3:∀ i∈drop,i < perC cl/\(bs i).st=177) (hne:0 < n1\/0 < n3) (hn1:n1<=100) (hn3:n3<=100) :
  Calls Tryz.prog 319 #[chV a ln cl 0 g,.slice A1 n1 c1,.slice A2 n1 c2,.slice A3 n3 c3] w (w3p w ln cl bs take drop):=by
 obtain ⟨_,_,_,_,_,D6,_⟩:=id h;have hL:=D6.hL;clear D6;obtain ⟨j0,Do,Dt,Du,Dv⟩:=info_parts z2i;have Dg:Blw w (w.alloc (.cells (z0o a ln cl g) 306)):=(Below.refl _ _).alloc (nL _) _;have Gf:=hid Dg;have HK:=hid (Blk.new w 306 (z0o a ln cl g));have DB:=hid (z9o (h.below Dg) ln cl g V hl hC.bits);have Dd:Hid (∀ i,i < perC cl->∀ W,Blw w W->Calls Tryz.prog 295 #[chV a ln cl 0 g,.int .i64 i] W fun e w'=>e=.returned (.tuple #[(bs i).v,.bool true,.bool (z1r V i)])/\Blw W w'):=hid (fun i hi W hW=>z9y (h.below hW) (ht.below hW) (hp.below hW) ln cl g V i (bs i) (hC.inn i hi) hl hC.cls hi hC.v64 hC.bits (hC.word i hi));have GY:Hid (∀ i,i < perC cl->∀ W,Blw w W->Calls Tryz.prog 301 #[chV a ln cl 0 g,.int .i64 i] W fun e w'=>e=.returned (.int .u64 ((64 * ln+8 * offB cl i:Nat):Int))/\Blw W w'):=hid (fun i hi W hW=>z7e ln cl g i oM hC.cls hi W (hp.below hW));have De:Hid (∀ b:BK,b.In->∀ W,Blw w W->Calls Tryz.prog 360 #[b.v] W fun e w'=>e=.returned (.int .u64 b.w)/\Blw W w'):=hid (fun b hb W hW=>y2j b hb W (ht.below hW));have Dz:Hid (∀ b:BK,b.In->b.good=true->∀ W,Blw w W->Calls Tryz.prog 299 #[b.v] W fun e w'=>e=.returned (.bool true)/\Blw W w'):=hid (fun b hb hg W _=>by
  have h:=y4j b hb W;rw [hg] at h;exact h)
 have Dy:Hid (∀ b:BK,b.In->∀ W,Blw w W->Calls Tryz.prog 361 #[b.v] W fun e w'=>e=.returned (z1u b).v/\Blw W w'):=hid (fun b hb W _=>x7a b hb W);have DM:=hid (z4n ln oM);have DJ:=hid h1;have DK:=hid h2;have DL:=hid h3;have Dc:=hid (show take.length=n1 by have:=h1.1;simp [z0x] at this;omega);have D0:=hid (show drop.length=n3 by have:=h3.1;simp [z0x] at this;omega);have HC:=hid hC;have DG:=hid hn;have DD:=hid hi1;have DE:=hid hi3;have GN:=hid (z2u cl).2;have DN:Hid (Bits V cl bs):=hid ⟨hC.v64,hC.bit,hC.top⟩;have GC:(((n1:Int) == 0) && ((n3:Int) == 0))=false:=by
  rw [Bool.and_eq_false_iff,beq_eq_false_iff_ne,beq_eq_false_iff_ne];omega
 have DF:=hid (show ln<=4096 by omega);clear h ht hp hl hC h1 h2 h3 hn hi1 hi3 hne Dg;unfold chV at *;unfold z0o memV at *;generalize hW:w.alloc (.cells #[.iface 58 (.pointer (some ⟨a.th 0,0,none⟩)),.int .i64 ln,.int .i64 cl,.int .i64 0,.int .u16 g] 306)=W at *;have DO:=hid hW.symm;clear hW;go_enter Tryz.func319,Tryz.ntmps319
 go_upto_region 1 with fail
 go_cut [29] from 22 to 135 (fun v wx=>v=.bool false/\Hid (wx=W))
 case first =>
  rw [<- DO.out];by_cases h0:n1=0
  ·have e1:((n1:Int) == 0)=true:=by rw [beq_iff_eq];omega
   have e3:((n3:Int) == 0)=false:=by rw [e1] at GC;simpa using GC
   clear h0;go_wp2_with fail
   go_meet;exact ⟨rfl,hid rfl⟩
  ·have e1:((n1:Int) == 0)=false:=by rw [beq_eq_false_iff_ne];omega
   clear h0;go_wp2_with fail
   go_meet;exact ⟨rfl,hid rfl⟩
 case rest =>
  obtain ⟨rfl,D8⟩:=hcut;have hw:=D8.out;subst hw;clear GC D8;have DW:wc.cell? ⟨w.heap.size,0,none⟩=some (.iface 58 (.pointer (some ⟨a.th 0,0,none⟩))):=HK.out.cell 0;have DX:wc.cell? ⟨w.heap.size,1,none⟩=some (.int .i64 ln):=HK.out.cell 1;have DY:wc.cell? ⟨w.heap.size,2,none⟩=some (.int .i64 cl):=HK.out.cell 2;have DZ:wc.cell? ⟨w.heap.size,3,none⟩=some (.int .i64 0):=HK.out.cell 3;have Fa:wc.cell? ⟨w.heap.size,4,none⟩=some (.int .u16 g):=HK.out.cell 4;go_wp2_with (go_at_call 351;refine DB.out.mono ?_;rintro e w1 ⟨rfl,D4⟩;have Dx:=hid D4;clear D4)
  clear DW DX DY DZ Fa;have GK:Hid (w1.ownsRow wc.heap.size 114 2 (.slice none 0 0) 0 (z0d (tkW ln cl bs (take.take 0)))):=World.ownsRow_nil _ _ _ _;have GO:Hid (Bits V cl (tkB bs (take.take 0))):=DN;go_loopw [10,11,34] (fun ws v i wr=>∃ (k V' m4 c4:Nat) (A4:Option Addr),k<=n1/\i=.int .i64 k/\v=.int .u64 V'/\ws=.slice A4 m4 c4/\m4=k/\Hid (Bits V' cl (tkB bs (take.take k)))/\Hid (wr.ownsRow wc.heap.size 114 2 (.slice A4 m4 c4) m4 (z0d (tkW ln cl bs (take.take k))))/\Hid (Blw wc wr)) (fun _ _ i _=>n1 - (Go.RowKit.intOf i).toNat)
  case atStart=>exact ⟨0,V,0,0,none,Nat.zero_le _,rfl,rfl,rfl,rfl,GO,GK,Dx⟩
  case round =>
   clear GO GK Dx;obtain ⟨k,V',m4,c4,A4,hk,rfl,rfl,rfl,GX,HS,HO,H⟩:=hrel;by_cases hlt:k < n1
   ·have G5:=hid (Gf.out.trans (H.out.mono Gf.out.size))
    obtain ⟨hl,b,Fh,hA,DV,f0⟩:=y4r (DJ.out.below G5.out) hlt;obtain ⟨Fe,b2,Dw,DU,GT,fk⟩:=x7m (DK.out.below G5.out) hlt;subst hA;subst DU;have GE:k < take.length:=by rw [Dc.out];exact hlt
    have e1:(take.map (·.1))[k]=(take[k]).1:=by simp
    have e2:(take.map (·.2))[k]=(take[k]).2:=by simp
    rw [e1] at f0;rw [e2] at fk;obtain ⟨hi,G1,Fi,Fj⟩:=DD.out take[k] (List.getElem_mem GE);have DT:=GN.out;have Gm:Hid (Bits (V' ||| 2 ^ (take[k]).1) cl (tkB bs (take.take (k+1)))):=hid (by rw [List.take_succ_eq_append_getElem GE,w3b];exact HS.out.take hi);have GV:Hid (tkW ln cl bs (take.take (k+1))=tkW ln cl bs (take.take k)++[(64 * ln+8 * offB cl (take[k]).1,(z2v (bs (take[k]).1) (take[k]).2).w)]):=hid (by rw [List.take_succ_eq_append_getElem GE,w3c]);have GB:=HS.out.lt;generalize take[k]=e0 at *;obtain ⟨i0,kd⟩:=e0;dsimp only at *;have GD:=HC.out.inn i0 hi;have D7:=HC.out.good i0 hi;have Gr:z1r V i0=false:=by rw [HC.out.bit i0 hi,G1];rfl
    have Gx:=hid (Dd.out i0 hi wr G5.out);rw [Gr] at Gx;have Db:=hid (Dz.out (bs i0) GD D7);have GF:=hid (GY.out i0 hi);have GP:=hid (De.out (z2v (bs i0) kd) (y1m GD oM));have u2:=y1k (i:=i0) oM;have u3:=u64_or_nat V' (2 ^ i0) GB (z4c oM);have Dn:(i0:Int) < 62:=oM;clear e1 e2 hl Fe Gr D7 HS;unfold z2v at *;generalize hbw:(BK.mk (bs i0).gen kd 177).w=bw at *;generalize GC:bs i0=bb at *;obtain ⟨bg,Gy,DP⟩:=bb;dsimp only at G1 GD;subst G1;unfold BK.v at *;dsimp only at *;have u1:IntKind.u64.wrap (i0:Int)=(i0:Int):=by rw [IntKind.wrap_u64];omega
    have GZ:Hid (z0d (tkW ln cl bs (take.take k))++[.int .u64 ((64 * ln+8 * offB cl i0:Nat):Int),.int .u64 bw]=z0d (tkW ln cl bs (take.take (k+1)))):=hid (by rw [GV.out];simp [z0d,GC,hbw]);generalize 64 * ln+8 * offB cl i0=y at *;have Ff:(0:Int)<=(k:Int):=oM;have Fg:(k:Int) < (n1:Int):=oM;have Fc:(0:Int)<=(i0:Int):=oM;have Dq:m4<=100:=oM;have HM:=hid GX;clear GX;generalize (V' ||| 2 ^ i0)=V2 at *;generalize (2 ^ i0:Nat)=q2 at *;have Ga:=HK.out.below H.out HK.out.lt;have Di:wr.cell? ⟨w.heap.size,0,none⟩=some (.iface 58 (.pointer (some ⟨a.th 0,0,none⟩))):=Ga.cell 0;have Dj:wr.cell? ⟨w.heap.size,1,none⟩=some (.int .i64 ln):=Ga.cell 1;have Dk:wr.cell? ⟨w.heap.size,2,none⟩=some (.int .i64 cl):=Ga.cell 2;have Dl:wr.cell? ⟨w.heap.size,3,none⟩=some (.int .i64 0):=Ga.cell 3;have Dm:wr.cell? ⟨w.heap.size,4,none⟩=some (.int .u16 g):=Ga.cell 4;clear Ga;have Gh:((176:Nat):Int)=176:=rfl;rw [Gh] at Gx Db;clear Gh;go_wp2_with (go_at_call 295;refine Gx.out.mono ?_;rintro e w2 ⟨rfl,Gq⟩;refine stop ?_)
    unfold Stop;clear Di Dj Dk Dl Dm;have Gu:=hid ((H.out.trans (Gq.mono H.out.size)).alloc (Nat.le_trans H.out.size Gq.size) (.cells #[.int .u16 bg,.int .u8 Gy,.int .u8 176] 401));have Gg:=hid (Gf.out.trans (Gu.out.mono Gf.out.size));have GL:=hid ((z0r HO.out Gq).alloc (.cells #[.int .u16 bg,.int .u8 Gy,.int .u8 176] 401));have G6:=hid (Blk.new w2 401 #[.int .u16 bg,.int .u8 Gy,.int .u8 176]);have Gw:=hid (Nat.le_trans H.out.size Gq.size);clear Gq Gx H HO;go_wp2_with (go_at_call 299;refine (Db.out _ Gg.out).mono ?_;rintro e w3 ⟨rfl,Gt⟩;refine stop ?_)
    unfold Stop;have G3:=hid (Gu.out.trans (Gt.mono Gu.out.size));have GG:=hid (Gg.out.trans (Gt.mono Gg.out.size));have G9:=hid (z0r GL.out Gt);have Gd:=hid (G6.out.below Gt G6.out.lt);have x1:w3.cell? ⟨w2.heap.size,1,none⟩=some (.int .u8 Gy):=Gd.out.cell 1;have x2:w3.cell? ⟨w2.heap.size,2,none⟩=some (.int .u8 176):=Gd.out.cell 2;have y1:w3.frozen? ⟨w2.heap.size,1,none⟩=false:=Gd.out.frozen 1;have y2:w3.frozen? ⟨w2.heap.size,2,none⟩=false:=Gd.out.frozen 2;have DQ:w3.cell? ⟨b2,Dw+k,none⟩=some (.int .u8 kd):=(GG.out.cell (Nat.lt_of_lt_of_le GT (nL _))).trans (((G5.out.cell (Nat.lt_of_lt_of_le GT (nL _))).symm.trans fk));clear Gt Gu Gg GL G6 Db f0 fk;go_wp2_with fail
    have Df:=(Gd.out.set_ 1 (.int .u8 kd)).set_ 2 (.int .u8 177);have G7:=hid (((HK.out.below G3.out HK.out.lt).far (p:=⟨w2.heap.size,1,none⟩) (by have:=HK.out.lt;have:=Gw.out;show w.heap.size≠w2.heap.size;omega) (.int .u8 kd)).far (p:=⟨w2.heap.size,2,none⟩) (by have:=HK.out.lt;have:=Gw.out;show w.heap.size≠w2.heap.size;omega) (.int .u8 177));have Ge:(Value.slice A4 m4 c4).ownBlock≠some w2.heap.size:=fun e=>z0i G9.out Gd.out (by decide) e
    have GM:=hid (ownsRow_setCell_other (ownsRow_setCell_other G9.out (a:=⟨w2.heap.size,1,none⟩) Ge (.int .u8 kd)) (a:=⟨w2.heap.size,2,none⟩) Ge (.int .u8 177));have Gb:=hid ((G3.out.setCell (p:=⟨w2.heap.size,1,none⟩) Gw.out (.int .u8 kd)).setCell (p:=⟨w2.heap.size,2,none⟩) Gw.out (.int .u8 177));have Gc:=hid (Gf.out.trans (Gb.out.mono Gf.out.size));clear x1 x2 y1 y2 DQ Ge G3 GG G9 Gd;generalize (w3.setCell ⟨w2.heap.size,1,none⟩ (.int .u8 kd)).setCell ⟨w2.heap.size,2,none⟩ (.int .u8 177)=wk at *;generalize w2.heap.size=p2 at *;have Gv:=hid Df;refine z0k (fun w'=>Blw wk w') 8 [(true,0),(true,1),(true,2),(true,4),(false,3),(false,5),(true,6),(false,7)] (by kernel_rfl) (by kernel_rfl) (Below.refl _ _).drew ?_;refine tkS (.slice A4 m4 c4) (fun w' hS=>?_) ?_
    ·go_simp
    refine tkS (.agg #[.iface 58 (.pointer (some ⟨a.th 0,0,none⟩)),.int .i64 ln,.int .i64 cl,.int .i64 0,.int .u16 g]) (fun w' hS=>?_) ?_
    ·have Ga:=G7.out.below hS G7.out.lt
     have f0:w'.cell? ⟨w.heap.size,0,none⟩=some (.iface 58 (.pointer (some ⟨a.th 0,0,none⟩))):=Ga.cell 0;have f1:w'.cell? ⟨w.heap.size,1,none⟩=some (.int .i64 ln):=Ga.cell 1;have f2:w'.cell? ⟨w.heap.size,2,none⟩=some (.int .i64 cl):=Ga.cell 2;have f3:w'.cell? ⟨w.heap.size,3,none⟩=some (.int .i64 0):=Ga.cell 3;have f4:w'.cell? ⟨w.heap.size,4,none⟩=some (.int .u16 g):=Ga.cell 4;go_simp
    refine tkS (.int .i64 i0) (fun w' hS=>?_) ?_
    ·go_simp
    refine tkS (.agg #[.int .u16 bg,.int .u8 kd,.int .u8 177]) (fun w' hS=>?_) ?_
    ·have Ga:=Gv.out.below hS Gv.out.lt
     have f0:w'.cell? ⟨p2,0,none⟩=some (.int .u16 bg):=Ga.cell 0;have f1:w'.cell? ⟨p2,1,none⟩=some (.int .u8 kd):=Ga.cell 1;have f2:w'.cell? ⟨p2,2,none⟩=some (.int .u8 177):=Ga.cell 2;go_simp
    refine z0l (by rfl) ?_;go_wp2_with fail
    refine (GF.out _ Gc.out.drew).mono ?_;rintro e w4 ⟨rfl,GR⟩;have Gn:=hid ((Below.refl wk.heap.size wk).drew.trans GR);have Gp:=hid (Gc.out.trans (Gn.out.mono Gc.out.size));clear GR;go_wp2_with fail
    refine ⟨Gn.out,?_⟩;refine z0l (by rfl) ?_;go_wp2_with fail
    refine (GP.out _ Gp.out).mono ?_;rintro e w5 ⟨rfl,GS⟩;have Gi:=hid (Gn.out.trans (GS.mono Gn.out.size));clear GS Gp;go_wp2_with fail
    refine ⟨Gi.out,?_⟩;refine tkS (.agg #[.int .u64 y,.int .u64 bw]) (fun w' hS=>?_) ?_
    ·go_simp
    refine z0l (by rfl) ?_;go_wp2_with fail
    have Gs:=hid (Gi.out.alloc Gi.out.size (.cells #[.int .u64 y,.int .u64 bw] 114));have Gj:=hid ((z0r GM.out Gi.out).alloc (.cells #[.int .u64 y,.int .u64 bw] 114));have GI:=hid (Gb.out.trans (Gs.out.mono Gb.out.size));have GJ:=hid Gi.out.size;have G8:=hid Gb.out.size;refine ⟨Gs.out,?_⟩;show wpList _ _ _ _ _ _;simp only [List.drop_succ_cons,List.drop_zero];clear Gn Gi Gs Gv G7 GM Gb Gc GF GP;go_wp2_with (at_builtin;refine z0p _ (.tmp 67) (.tmp 74) 108 rfl rfl wc.heap.size 114 j0 _ 2 16 Tryz.underlying108 Do Dt Du Dv rfl ?q1 (.slice A4 m4 c4) m4 (z0d (tkW ln cl bs (take.take k))) rfl Gj.out (w5.heap.size+1) (some ⟨w5.heap.size,0,none⟩) 1 1 [.int .u64 y,.int .u64 bw] rfl ?q5 ?q6 ?q2 ?q3 ?q4 ?_;(case q1=>omega);(case q5=>exact z0m _ _ rfl _ 1 2 114 _ rfl rfl);(case q6=>(intro u hu;simp at hu;rcases hu with rfl | rfl <;> rfl));(case q2=>(unfold maxLen;omega));(case q3=>omega);(case q4=>(have:=GJ.out;have:=G8.out;simp;omega));intro A7 n7 c7 w8 Gl ho7 hg7 hb7;have GU:=hid Gl;have G2:=hid ho7;have G4:=hid (GI.out.trans hb7);have G0:=hg7;clear Gl ho7 hg7 hb7)
    have GA:Hid (w8.ownsRow wc.heap.size 114 2 (.slice A7 n7 c7) n7 (z0d (tkW ln cl bs (take.take (k+1))))):=hid (by have h:=G2.out;rw [GZ.out] at h;exact h);clear G2 Gj GI;clear G0;refine NoPanic.normal ?_;have Gl:n7=k+1:=by have:=GU.out;have:=HM.out;omega
    go_wp2;go_roundw
    case rel =>
     first
      | exact ⟨k+1,V2,n7,c7,A7,oM,by go_num,rfl,rfl,Gl,Gm,GA,G4⟩
      | (
        repeat apply Exists.intro
        refine ⟨?_,rfl⟩;exact ⟨k+1,V2,n7,c7,A7,oM,by go_num,rfl,rfl,Gl,Gm,GA,G4⟩)
    case measure=>simp [Go.RowKit.intOf];omega
   ·have Dp:k=n1:=oM
    subst Dp;have GO:Hid (Bits V' cl (drB bs (tkB bs take) (drop.take 0))):=hid (by
     have h:=HS.out;rw [List.take_of_length_le (by rw [Dc.out];exact nL _)] at h;exact h)
    have GK:Hid (wr.ownsRow wc.heap.size 114 2 (.slice A4 m4 c4) m4 (z0d (tkW ln cl bs take++drW ln cl bs (drop.take 0)))):=hid (by
     have h:=HO.out;rw [List.take_of_length_le (by rw [Dc.out];exact nL _)] at h;simpa [drW] using h)
    have D1:=hid GX;clear HS HO hk hlt GX;go_wp2;go_loopw [10,11,84] (fun ws v i wr=>∃ (k V' m5 c5:Nat) (A5:Option Addr),k<=n3/\i=.int .i64 k/\v=.int .u64 V'/\ws=.slice A5 m5 c5/\m5=m4+k/\Hid (Bits V' cl (drB bs (tkB bs take) (drop.take k)))/\Hid (wr.ownsRow wc.heap.size 114 2 (.slice A5 m5 c5) m5 (z0d (tkW ln cl bs take++drW ln cl bs (drop.take k))))/\Hid (Blw wc wr)) (fun _ _ i _=>n3 - (Go.RowKit.intOf i).toNat)
    case atStart=>exact ⟨0,V',m4,c4,A4,Nat.zero_le _,rfl,rfl,rfl,rfl,GO,GK,H⟩
    case round =>
     clear GO GK H;obtain ⟨k3,V3,m5,c5,A5,hk,rfl,rfl,rfl,Dr,HS,HO,H⟩:=hrel;by_cases hlt:k3 < n3
     ·have G5:=hid (Gf.out.trans (H.out.mono Gf.out.size))
      obtain ⟨hl,b,Fh,hA,DV,f0⟩:=y4r (DL.out.below G5.out) hlt;subst hA;obtain ⟨hi,G1⟩:=DE.out drop[k3] (List.getElem_mem hl);have DT:=GN.out;have Ds:=List.nodup_append.1 DG.out;have Dh:(drB bs (tkB bs take) (drop.take k3)) drop[k3]=bs drop[k3]:=by
       unfold drB;rw [z3u (fun i=>i) (fun i=>z1u (bs i)) drop[k3] (drop.take k3) (tkB bs take) ?_]
       ·exact z3u (fun e:Nat × Nat=>e.1) (fun e=>z2v (bs e.1) e.2) drop[k3] take bs (fun hh=>Ds.2.2 _ hh _ (List.getElem_mem hl) rfl)
       ·intro hh
        rw [List.map_id'] at hh;obtain ⟨j,hj,he⟩:=List.getElem_of_mem hh;have Fd:j < k3:=by simp at hj;omega
        have Fb:drop[j]=drop[k3]:=by rw [<- he];simp
        exact (List.pairwise_iff_getElem.1 Ds.2.1) j k3 oM hl Fd Fb
      have Gm:Hid (Bits (if (z1u (bs drop[k3])).st=176 then V3 ^^^ 2 ^ drop[k3] else V3) cl (drB bs (tkB bs take) (drop.take (k3+1)))):=hid (by rw [List.take_succ_eq_append_getElem hl,w0v];exact HS.out.drop hi (by rw [Dh];exact G1));have GV:Hid (drW ln cl bs (drop.take (k3+1))=drW ln cl bs (drop.take k3)++[(64 * ln+8 * offB cl drop[k3],(z1u (bs drop[k3])).w)]):=hid (by rw [List.take_succ_eq_append_getElem hl,w0w]);have GB:=HS.out.lt;have D5:z1r V3 drop[k3]=true:=by rw [HS.out.bit _ hi,Dh,G1];rfl
      clear Dh Ds HS;generalize drop[k3]=i0 at *;have GD:=HC.out.inn i0 hi;have Gr:z1r V i0=true:=by rw [HC.out.bit i0 hi,G1];rfl
      have Gx:=hid (Dd.out i0 hi wr G5.out);rw [Gr] at Gx;have Da:=hid (Dy.out (bs i0) GD);have GF:=hid (GY.out i0 hi);have GP:=hid (De.out (z1u (bs i0)) (y0n GD));have u2:=y1k (i:=i0) oM;have u3:=y2a V3 i0 GB oM D5;have Dn:(i0:Int) < 62:=oM;clear hl Gr D5;generalize hfb:z1u (bs i0)=fb at *;generalize hbw:fb.w=bw at *;generalize GC:bs i0=bb at *;obtain ⟨GW,Gy,DP⟩:=bb;obtain ⟨bg,bk,Gk⟩:=fb;dsimp only at G1 GD Gm;subst G1;unfold BK.v at *;dsimp only at *;have u1:IntKind.u64.wrap (i0:Int)=(i0:Int):=by rw [IntKind.wrap_u64];omega
      have GZ:Hid (z0d (tkW ln cl bs take++drW ln cl bs (drop.take k3))++[.int .u64 ((64 * ln+8 * offB cl i0:Nat):Int),.int .u64 bw]=z0d (tkW ln cl bs take++drW ln cl bs (drop.take (k3+1)))):=hid (by rw [GV.out];simp [z0d]);generalize 64 * ln+8 * offB cl i0=y at *;have Ff:(0:Int)<=(k3:Int):=oM;have Fg:(k3:Int) < (n3:Int):=oM;have Fc:(0:Int)<=(i0:Int):=oM;have Dq:m5<=200:=by have:=D1.out;omega
      have HM:=hid Dr;clear Dr;generalize (V3 ^^^ 2 ^ i0)=V2 at *;generalize (2 ^ i0:Nat)=q2 at *;clear GV hfb hbw GC;have Ga:=HK.out.below H.out HK.out.lt;have Di:wr.cell? ⟨w.heap.size,0,none⟩=some (.iface 58 (.pointer (some ⟨a.th 0,0,none⟩))):=Ga.cell 0;have Dj:wr.cell? ⟨w.heap.size,1,none⟩=some (.int .i64 ln):=Ga.cell 1;have Dk:wr.cell? ⟨w.heap.size,2,none⟩=some (.int .i64 cl):=Ga.cell 2;have Dl:wr.cell? ⟨w.heap.size,3,none⟩=some (.int .i64 0):=Ga.cell 3;have Dm:wr.cell? ⟨w.heap.size,4,none⟩=some (.int .u16 g):=Ga.cell 4;clear Ga;have GQ:((177:Nat):Int)=177:=rfl;rw [GQ] at Gx Da;clear GQ;go_wp2_with (go_at_call 295;refine Gx.out.mono ?_;rintro e w2 ⟨rfl,Gq⟩;refine stop ?_)
      unfold Stop;clear Di Dj Dk Dl Dm;have Gu:=hid ((H.out.trans (Gq.mono H.out.size)).alloc (Nat.le_trans H.out.size Gq.size) (.cells #[.int .u16 GW,.int .u8 Gy,.int .u8 177] 401));have Gg:=hid (Gf.out.trans (Gu.out.mono Gf.out.size));have GL:=hid ((z0r HO.out Gq).alloc (.cells #[.int .u16 GW,.int .u8 Gy,.int .u8 177] 401));have G6:=hid (Blk.new w2 401 #[.int .u16 GW,.int .u8 Gy,.int .u8 177]);have Gw:=hid (Nat.le_trans H.out.size Gq.size);clear Gq Gx H HO;go_wp2_with (go_at_call 361;refine (Da.out _ Gg.out).mono ?_;rintro e w3 ⟨rfl,Gt⟩;refine stop ?_)
      unfold Stop;have G3:=hid (Gu.out.trans (Gt.mono Gu.out.size));have G9:=hid (z0r GL.out Gt);have Gd:=hid (G6.out.below Gt G6.out.lt);have x0:w3.cell? ⟨w2.heap.size,0,none⟩=some (.int .u16 GW):=Gd.out.cell 0;have x1:w3.cell? ⟨w2.heap.size,1,none⟩=some (.int .u8 Gy):=Gd.out.cell 1;have x2:w3.cell? ⟨w2.heap.size,2,none⟩=some (.int .u8 177):=Gd.out.cell 2;have y0:w3.frozen? ⟨w2.heap.size,0,none⟩=false:=Gd.out.frozen 0;have y1:w3.frozen? ⟨w2.heap.size,1,none⟩=false:=Gd.out.frozen 1;have y2:w3.frozen? ⟨w2.heap.size,2,none⟩=false:=Gd.out.frozen 2;clear Gt Gu Gg GL G6 Da f0;go_wp2_with fail
      have Df:=((Gd.out.set_ 0 (.int .u16 bg)).set_ 1 (.int .u8 bk)).set_ 2 (.int .u8 Gk);have Gz:w.heap.size≠w2.heap.size:=by have:=HK.out.lt;have:=Gw.out;omega
      have G7:=hid ((((HK.out.below G3.out HK.out.lt).far (p:=⟨w2.heap.size,0,none⟩) Gz (.int .u16 bg)).far (p:=⟨w2.heap.size,1,none⟩) Gz (.int .u8 bk)).far (p:=⟨w2.heap.size,2,none⟩) Gz (.int .u8 Gk));have Ge:(Value.slice A5 m5 c5).ownBlock≠some w2.heap.size:=fun e=>z0i G9.out Gd.out (by decide) e
      have GM:=hid (ownsRow_setCell_other (ownsRow_setCell_other (ownsRow_setCell_other G9.out (a:=⟨w2.heap.size,0,none⟩) Ge (.int .u16 bg)) (a:=⟨w2.heap.size,1,none⟩) Ge (.int .u8 bk)) (a:=⟨w2.heap.size,2,none⟩) Ge (.int .u8 Gk));have Gb:=hid (((G3.out.setCell (p:=⟨w2.heap.size,0,none⟩) Gw.out (.int .u16 bg)).setCell (p:=⟨w2.heap.size,1,none⟩) Gw.out (.int .u8 bk)).setCell (p:=⟨w2.heap.size,2,none⟩) Gw.out (.int .u8 Gk));have Gc:=hid (Gf.out.trans (Gb.out.mono Gf.out.size));clear x0 x1 x2 y0 y1 y2 Ge Gz G3 G9 Gd;generalize ((w3.setCell ⟨w2.heap.size,0,none⟩ (.int .u16 bg)).setCell ⟨w2.heap.size,1,none⟩ (.int .u8 bk)).setCell ⟨w2.heap.size,2,none⟩ (.int .u8 Gk)=wk at *;generalize w2.heap.size=p2 at *;have Gv:=hid Df;refine z0k (fun w'=>Blw wk w') 8 [(true,0),(true,1),(true,2),(true,4),(false,3),(false,5),(true,6),(false,7)] (by kernel_rfl) (by kernel_rfl) (Below.refl _ _).drew ?_;refine tkS (.slice A5 m5 c5) (fun w' hS=>?_) ?_
      ·go_simp
      refine tkS (.agg #[.iface 58 (.pointer (some ⟨a.th 0,0,none⟩)),.int .i64 ln,.int .i64 cl,.int .i64 0,.int .u16 g]) (fun w' hS=>?_) ?_
      ·have Ga:=G7.out.below hS G7.out.lt
       have f0:w'.cell? ⟨w.heap.size,0,none⟩=some (.iface 58 (.pointer (some ⟨a.th 0,0,none⟩))):=Ga.cell 0;have f1:w'.cell? ⟨w.heap.size,1,none⟩=some (.int .i64 ln):=Ga.cell 1;have f2:w'.cell? ⟨w.heap.size,2,none⟩=some (.int .i64 cl):=Ga.cell 2;have f3:w'.cell? ⟨w.heap.size,3,none⟩=some (.int .i64 0):=Ga.cell 3;have f4:w'.cell? ⟨w.heap.size,4,none⟩=some (.int .u16 g):=Ga.cell 4;go_simp
      refine tkS (.int .i64 i0) (fun w' hS=>?_) ?_
      ·go_simp
      refine tkS (.agg #[.int .u16 bg,.int .u8 bk,.int .u8 Gk]) (fun w' hS=>?_) ?_
      ·have Ga:=Gv.out.below hS Gv.out.lt
       have f0:w'.cell? ⟨p2,0,none⟩=some (.int .u16 bg):=Ga.cell 0;have f1:w'.cell? ⟨p2,1,none⟩=some (.int .u8 bk):=Ga.cell 1;have f2:w'.cell? ⟨p2,2,none⟩=some (.int .u8 Gk):=Ga.cell 2;go_simp
      refine z0l (by rfl) ?_;go_wp2_with fail
      refine (GF.out _ Gc.out.drew).mono ?_;rintro e w4 ⟨rfl,GR⟩;have Gn:=hid ((Below.refl wk.heap.size wk).drew.trans GR);have Gp:=hid (Gc.out.trans (Gn.out.mono Gc.out.size));clear GR;go_wp2_with fail
      refine ⟨Gn.out,?_⟩;refine z0l (by rfl) ?_;go_wp2_with fail
      refine (GP.out _ Gp.out).mono ?_;rintro e w5 ⟨rfl,GS⟩;have Gi:=hid (Gn.out.trans (GS.mono Gn.out.size));clear GS Gp;go_wp2_with fail
      refine ⟨Gi.out,?_⟩;refine tkS (.agg #[.int .u64 y,.int .u64 bw]) (fun w' hS=>?_) ?_
      ·go_simp
      refine z0l (by rfl) ?_;go_wp2_with fail
      have Gs:=hid (Gi.out.alloc Gi.out.size (.cells #[.int .u64 y,.int .u64 bw] 114));have Gj:=hid ((z0r GM.out Gi.out).alloc (.cells #[.int .u64 y,.int .u64 bw] 114));have GI:=hid (Gb.out.trans (Gs.out.mono Gb.out.size));have GJ:=hid Gi.out.size;have G8:=hid Gb.out.size;refine ⟨Gs.out,?_⟩;show wpList _ _ _ _ _ _;simp only [List.drop_succ_cons,List.drop_zero];have GH:=hid (Gv.out.below Gs.out Gv.out.lt);have D2:Hid (some p2≠(Value.slice A5 m5 c5).ownBlock):=hid (fun e=>z0i Gj.out GH.out (by decide) e.symm);clear Gn Gi Gs Gv G7 GM Gb Gc GF GP;go_wp2_with (at_builtin;refine z0p _ (.tmp 108) (.tmp 115) 108 rfl rfl wc.heap.size 114 j0 _ 2 16 Tryz.underlying108 Do Dt Du Dv rfl ?q1 (.slice A5 m5 c5) m5 (z0d (tkW ln cl bs take++drW ln cl bs (drop.take k3))) rfl Gj.out (w5.heap.size+1) (some ⟨w5.heap.size,0,none⟩) 1 1 [.int .u64 y,.int .u64 bw] rfl ?q5 ?q6 ?q2 ?q3 ?q4 ?_;(case q1=>omega);(case q5=>exact z0m _ _ rfl _ 1 2 114 _ rfl rfl);(case q6=>(intro u hu;simp at hu;rcases hu with rfl | rfl <;> rfl));(case q2=>(unfold maxLen;omega));(case q3=>omega);(case q4=>(have:=GJ.out;have:=G8.out;simp;omega));intro A7 n7 c7 w8 Gl ho7 hg7 hb7;have GU:=hid Gl;have G2:=hid ho7;have G4:=hid (GI.out.trans hb7);have G0:=hg7;clear Gl ho7 hg7 hb7)
      have GA:Hid (w8.ownsRow wc.heap.size 114 2 (.slice A7 n7 c7) n7 (z0d (tkW ln cl bs take++drW ln cl bs (drop.take (k3+1))))):=hid (by have h:=G2.out;rw [GZ.out] at h;exact h);clear G2 Gj GI;have Gl:n7=m4+(k3+1):=by have:=GU.out;have:=HM.out;omega
      clear GU;refine NoPanic.normal ?_;have x2:w8.cell? ⟨p2,2,none⟩=some (.int .u8 Gk):=(GH.out.grown G0 D2.out).cell 2;clear G0 D2;by_cases Gh:Gk=176
      ·rw [if_pos Gh] at Gm
       have e5:((Gk:Int) == 176)=true:=by rw [beq_iff_eq];omega
       have e6:(Gk:Int)=176:=oM;clear Gh;go_wp2;go_roundw
       case rel =>
        first
         | exact ⟨k3+1,V2,n7,c7,A7,oM,by go_num,rfl,rfl,Gl,Gm,GA,G4⟩
         | (
           repeat apply Exists.intro
           refine ⟨?_,rfl⟩;exact ⟨k3+1,V2,n7,c7,A7,oM,by go_num,rfl,rfl,Gl,Gm,GA,G4⟩)
       case measure=>simp [Go.RowKit.intOf];omega
      ·rw [if_neg Gh] at Gm
       have e5:((Gk:Int) == 176)=false:=by rw [beq_eq_false_iff_ne];omega
       have e6:¬ (Gk:Int)=176:=oM;clear Gh;go_wp2;go_roundw
       case rel =>
        first
         | exact ⟨k3+1,V3,n7,c7,A7,oM,by go_num,rfl,rfl,Gl,Gm,GA,G4⟩
         | (
           repeat apply Exists.intro
           refine ⟨?_,rfl⟩;exact ⟨k3+1,V3,n7,c7,A7,oM,by go_num,rfl,rfl,Gl,Gm,GA,G4⟩)
       case measure=>simp [Go.RowKit.intOf];omega
     ·have Dp:k3=n3:=oM
      subst Dp;have Gm:Hid (Bits V3 cl (actB bs take drop)):=hid (by
       have h:=HS.out;rw [List.take_of_length_le (by rw [D0.out];exact nL _)] at h;exact h)
      have D3:Hid (wr.ownsRow wc.heap.size 114 2 (.slice A5 m5 c5) m5 (z0d (tkW ln cl bs take++drW ln cl bs drop))):=hid (by
       have h:=HO.out;rw [List.take_of_length_le (by rw [D0.out];exact nL _)] at h;exact h)
      have Fl:m5<=200:=by have:=D1.out;omega
      have GJ:=hid H.out.size;have Fm:wr.cell? ⟨w.heap.size,1,none⟩=some (.int .i64 ln):=(HK.out.below H.out HK.out.lt).cell 1;have DC:Hid (z0d (tkW ln cl bs take++drW ln cl bs drop)++[.int .u64 ((64 * ln+8:Nat):Int),.int .u64 V3]=z0d (chgW ln cl bs take drop V3)):=hid (by unfold chgW;simp [z0d]);have Fk:=DF.out;have u1:IntKind.u64.wrap (((64 * ln:Nat):Int)+8)=((64 * ln+8:Nat):Int):=by rw [IntKind.wrap_u64];omega
      have Fo:64 * ln+8 < 9000000000:=oM;generalize 64 * ln+8=z8 at *;generalize 64 * ln=z at *;have DI:=hid (D3.out.alloc (.cells #[.int .u64 z8,.int .u64 V3] 114));have D9:=hid (H.out.alloc H.out.size (.cells #[.int .u64 z8,.int .u64 V3] 114));clear HS HO D3 H hk hlt Dr Dd GY De Dz Dy;go_wp2_with (first
       | (go_at_call 339;refine (DM.out _).mono ?_;rintro e w3 ⟨rfl,rfl⟩)
       | (at_builtin;refine z0p _ (.tmp 126) (.tmp 133) 108 rfl rfl wc.heap.size 114 j0 _ 2 16 Tryz.underlying108 Do Dt Du Dv rfl ?q1 (.slice A5 m5 c5) m5 (z0d (tkW ln cl bs take++drW ln cl bs drop)) rfl DI.out (wr.heap.size+1) (some ⟨wr.heap.size,0,none⟩) 1 1 [.int .u64 z8,.int .u64 V3] rfl ?q5 ?q6 ?q2 ?q3 ?q4 ?_;(case q1=>omega);(case q5=>exact z0m _ _ rfl _ 1 2 114 _ rfl rfl);(case q6=>(intro u hu;simp at hu;rcases hu with rfl | rfl <;> rfl));(case q2=>(unfold maxLen;omega));(case q3=>omega);(case q4=>(have:=GJ.out;simp;omega));intro A6 n6 c6 w8 hn6 ho6 hg6 hb6;have DH:=hid ho6;have Gs:=hid (D9.out.trans hb6);clear hn6 ho6 hg6 hb6)
       | go_in)
      go_ret2;have G2:=z6q (base':=w.heap.size) DH.out Gf.out.size;rw [DC.out] at G2;exact ⟨_,_,_,V3,rfl,Gm.out,G2,Gf.out.trans (Gs.out.mono Gf.out.size)⟩
end
end
section
open Go.RowKit
def tkV (bs:Nat->BK):Nat->Nat
 | 0=>0
 | n+1=>if (bs n).st=176 then tkV bs n else tkV bs n ||| 2 ^ n
theorem w4f (bs:Nat->BK):∀ n,tkV bs n < 2 ^ n
 | 0=>by simp [tkV]
 | n+1=>by
  have h:=w4f bs n;have h2:(2:Nat) ^ n < 2 ^ (n+1):=Nat.pow_lt_pow_right oM oM;unfold tkV;split
  ·omega
  ·exact Nat.or_lt_two_pow oM h2
theorem x9i (bs:Nat->BK):∀ n i,(tkV bs n).testBit i=(decide (i < n) && decide ((bs i).st≠176))
 | 0,i=>by simp [tkV]
 | n+1,i=>by
  have ih:=x9i bs n i;unfold tkV;by_cases e:i=n
  ·subst e
   split
   ·rename_i h;rw [ih];simp [h]
   ·rename_i h;rw [Nat.testBit_or,ih,Nat.testBit_two_pow];simp [h]
  ·have h2:decide (i < n+1)=decide (i < n):=decide_eq_decide.2 ⟨fun h=>oM,fun h=>oM⟩
   have h3:decide (n=i)=false:=decide_eq_false (fun h=>e h.symm);rw [h2];split
   ·exact ih
   ·rw [Nat.testBit_or,ih,Nat.testBit_two_pow,h3,Bool.or_false]
theorem w6l {cur:Nat->Nat} {ln cl g V:Nat} {bs:Nat->BK} (h:ChW cur ln cl g V bs):tkV bs (perC cl)=V:=by
 apply Nat.eq_of_testBit_eq;intro i;rw [x9i];by_cases hi:i < perC cl
 ·have:=h.bit i hi
  rw [z2y] at this;rw [this];simp [hi]
 ·have hl:=Nat.testBit_lt_two_pow (Nat.lt_of_lt_of_le h.top (Nat.pow_le_pow_right oM (Nat.le_of_not_lt hi)))
  rw [hl];simp [hi]
section
variable {a:DA} {L T:Nat} {w:World} {S:Fp} {cur:Nat->Nat} {F:Nat}
theorem y1s (h:Dev a L T w S cur F) (ht:Tab w) (hp:Pay w) (ln cl g V:Nat) (bs:Nat->BK) (hl:ln+32<=L) (hC:ChW cur ln cl g V bs) :
  Calls Tryz.prog 344 #[chV a ln cl 0 g] w fun e w'=>e=.returned (.bool true)/\Blw w w':=by
 obtain ⟨_,_,_,_,_,GS,_⟩:=id h;have hL:=GS.hL;clear GS;have De:=hC.cls;have GI:=hid (z3v h (64 * ln) (hdrW cl g) oM oM (by rw [show 64 * ln / 8=8 * ln by omega];exact hC.hdr));have GQ:Hid (∀ k:Nat,2<=k->k < 8->∀ W,Blw w W->Calls Tryz.prog 65 #[.pointer (some ⟨a.th 0,0,none⟩),.int .u64 (((64 * ln+8 * k:Nat)):Int)] W fun e w'=>e=.returned (.int .u64 0)/\W=w'):=hid (fun k h2 h8 W hW=>by
  have:=z3v h (64 * ln+8 * k) 0 oM oM (by rw [show (64 * ln+8 * k) / 8=8 * ln+k by omega];exact hC.zero k h2 h8) W hW;exact this)
 have GE:Hid (∀ i,i < perC cl->∀ W,Blw w W->Calls Tryz.prog 65 #[.pointer (some ⟨a.th 0,0,none⟩),.int .u64 (((64 * ln+8 * offB cl i:Nat)):Int)] W fun e w'=>e=.returned (.int .u64 ((bs i).w:Int))/\W=w'):=hid (fun i hi W hW=>by
  have ho:=off_lt hi;exact z3v h (64 * ln+8 * offB cl i) (bs i).w oM oM (by rw [show (64 * ln+8 * offB cl i) / 8=8 * ln+offB cl i by omega];exact hC.word i hi) W hW)
 have GO:=hid (z4n ln oM);have GH:Hid (∀ W,Blw w W->Calls Tryz.prog 350 #[.int .u64 (hdrW cl g:Int)] W fun e w'=>e=.returned (.tuple #[.agg #[.int .i64 cl,.int .i64 0,.int .u16 g],.bool true])/\Blw W w'):=hid (fun W hW=>y2s cl g hC.cls hC.g0 hC.g1 W (ht.below hW) (hp.below hW));have GM:Hid (∀ W,Blw w W->Calls Tryz.prog 207 #[.int .i64 cl] W fun e w'=>e=.returned (.int .i64 (perC cl:Int))/\W=w'):=hid (fun W hW=>z1v cl hC.cls W (hp.below hW));have GC:Hid (∀ i,i < perC cl->∀ W,Blw w W->Calls Tryz.prog 301 #[chV a ln cl 0 g,.int .i64 i] W fun e w'=>e=.returned (.int .u64 ((64 * ln+8 * offB cl i:Nat):Int))/\Blw W w'):=hid (fun i hi W hW=>z7e ln cl g i oM hC.cls hi W (hp.below hW));have GN:Hid (∀ i,i < perC cl->∀ W,Blw w W->Calls Tryz.prog 352 #[.int .u64 ((bs i).w:Int)] W fun e w'=>e=.returned (.tuple #[(bs i).v,.bool true])/\Blw W w'):=hid (fun i hi W hW=>y3e (bs i) (hC.inn i hi) W (ht.below hW));have GF:Hid (∀ i,i < perC cl->∀ W,Calls Tryz.prog 299 #[(bs i).v] W fun e w'=>e=.returned (.bool true)/\Blw W w'):=hid (fun i hi W=>by
  have:=y4j (bs i) (hC.inn i hi) W;rw [hC.good i hi] at this;exact this)
 have G5:Hid (∀ W,Blw w W->Calls Tryz.prog 351 #[chV a ln cl 0 g] W fun e w'=>e=.returned (.int .u64 V)/\Blw W w'):=hid (fun W hW=>z9o (h.below hW) ln cl g V hl hC.bits);have GZ:=hid (w6l hC);have GJ:Hid (∀ i,i < perC cl->(bs i).In):=hid hC.inn;have GY:Hid (∀ i,i < perC cl->offB cl i < 256):=hid (fun i hi=>by have:=off_lt hi;omega);have GR:Blw w (w.alloc (.cells (z0o a ln cl g) 306)):=(Below.refl _ _).alloc (nL _) _;have Gs:=hid GR;have HK:=hid (Blk.new w 306 (z0o a ln cl g));have Dh:=z2u cl;have hm:=z4v (some ⟨a.th 0,0,none⟩);have Df:=z3s ⟨a.th 0,0,none⟩;clear h hp ht GR hC;unfold chV at *;unfold z0o memV at *;generalize hdrW cl g=hw at *;have hz:64 * ln < 900000000:=oM;generalize hz0:64 * ln=z at *;go_enter Tryz.func344,Tryz.ntmps344
 go_wp2_with fail
 generalize w.alloc (.cells #[.iface 58 (.pointer (some ⟨a.th 0,0,none⟩)),.int .i64 ln,.int .i64 cl,.int .i64 0,.int .u16 g] 306)=W0 at *;have f0:W0.cell? ⟨w.heap.size,0,none⟩=some (.iface 58 (.pointer (some ⟨a.th 0,0,none⟩))):=HK.out.cell 0;have f1:W0.cell? ⟨w.heap.size,1,none⟩=some (.int .i64 ln):=HK.out.cell 1;go_wp2_with (first
  | (go_at_call 339;refine (GO.out _).mono ?_;rintro e w1 ⟨rfl,rfl⟩)
  | (go_at_call 65;refine (GI.out _ Gs.out).mono ?_;rintro e w1 ⟨rfl,rfl⟩)
  | (go_at_call 350;refine (GH.out _ Gs.out).mono ?_;rintro e w1 ⟨rfl,G8⟩;have Ga:=hid (Gs.out.trans (G8.mono Gs.out.size));have Gu:=hid (HK.out.below G8 HK.out.lt);clear G8;have G9:=Gu.out.lt;have f2:w1.cell? ⟨w.heap.size,2,none⟩=some (.int .i64 cl):=Gu.out.cell 2;have f3:w1.cell? ⟨w.heap.size,3,none⟩=some (.int .i64 0):=Gu.out.cell 3)
  | go_in)
 clear f0 f1 f2 f3 G9 Gs HK GI GH GO;have Gz:=hid (Ga.out.alloc Ga.out.size (.cells #[.int .i64 cl,.int .i64 0,.int .u16 g] 304));have G1:=hid (Gu.out.alloc (.cells #[.int .i64 cl,.int .i64 0,.int .u16 g] 304));generalize w1.alloc (.cells #[.int .i64 cl,.int .i64 0,.int .u16 g] 304)=w2 at *;clear Ga Gu;go_loopw [6] (fun i wr=>∃ k:Nat,2<=k/\k<=8/\i=.int .u64 k/\w2=wr) (fun i _=>8 - (Go.RowKit.intOf i).toNat)
 case atStart=>exact ⟨2,oM,oM,rfl,rfl⟩
 case round =>
  obtain ⟨k,GU,Da,rfl,rfl⟩:=hrel;by_cases hlt:k < 8
  ·have f0:w2.cell? ⟨w.heap.size,0,none⟩=some (.iface 58 (.pointer (some ⟨a.th 0,0,none⟩))):=G1.out.cell 0
   have dk:decide ((k:Int) < 8)=true:=dT;have u1:IntKind.u64.wrap ((k:Int) * 8)=(k:Int) * 8:=by rw [IntKind.wrap_u64];omega
   have u2:IntKind.u64.wrap ((z:Int)+(k:Int) * 8)=((z+8 * k:Nat):Int):=by rw [IntKind.wrap_u64];omega
   have u3:IntKind.u64.wrap ((k:Int)+1)=(k:Int)+1:=by rw [IntKind.wrap_u64];omega
   go_wp2_with (first
    | (go_at_call 65;refine (GQ.out k GU hlt _ Gz.out).mono ?_;rintro e w3 ⟨rfl,rfl⟩)
    | go_in)
   go_roundw
   case rel=>first | exact ⟨k+1,oM,oM,by go_num,rfl⟩ | exact ⟨k+1,oM,oM,by go_num,trivial⟩
   case measure=>simp [Go.RowKit.intOf];omega
  ·obtain rfl:k=8:=oM
   clear GQ hlt GU Da;have f2:w2.cell? ⟨w.heap.size,2,none⟩=some (.int .i64 cl):=G1.out.cell 2;go_wp2_with (first
    | (go_at_call 207;refine (GM.out _ Gz.out).mono ?_;rintro e w3 ⟨rfl,rfl⟩)
    | go_in)
   clear GM f2;generalize perC cl=n at *;go_loopw [7,56] (fun v i wr=>∃ k:Nat,k<=n/\v=.int .u64 (tkV bs k:Int)/\i=.int .i64 k/\Hid (Blw w wr)/\Hid (Blk wr w.heap.size 306 #[.iface 58 (.pointer (some ⟨a.th 0,0,none⟩)),.int .i64 ln,.int .i64 cl,.int .i64 0,.int .u16 g])) (fun _ i _=>n - (Go.RowKit.intOf i).toNat)
   case atStart=>exact ⟨0,oM,rfl,rfl,Gz,G1⟩
   case round =>
    clear Gz G1;obtain ⟨k,hk,rfl,rfl,HB,HK⟩:=hrel;have f0:wr.cell? ⟨w.heap.size,0,none⟩=some (.iface 58 (.pointer (some ⟨a.th 0,0,none⟩))):=HK.out.cell 0;have f1:wr.cell? ⟨w.heap.size,1,none⟩=some (.int .i64 ln):=HK.out.cell 1;have f2:wr.cell? ⟨w.heap.size,2,none⟩=some (.int .i64 cl):=HK.out.cell 2;have f3:wr.cell? ⟨w.heap.size,3,none⟩=some (.int .i64 0):=HK.out.cell 3;have f4:wr.cell? ⟨w.heap.size,4,none⟩=some (.int .u16 g):=HK.out.cell 4;by_cases hlt:k < n
    ·have dk:decide ((k:Int) < (n:Int))=true:=dT
     have Gg:Hid (Blw wr wr.drew):=hid (Below.refl _ _).drew;have GB:=hid (GC.out k hlt);have G7:=hid (GE.out k hlt);have Gx:=hid (GN.out k hlt);have GG:=hid (GF.out k hlt);have Di:w.heap.size < wr.heap.size:=HK.out.lt;have Dg:=GY.out k hlt;have HT:Hid (tkV bs (k+1)=if (bs k).st=176 then tkV bs k else tkV bs k ||| 2 ^ k):=hid rfl;have Db:=w4f bs k;have Dc:=z4c (i:=k) oM;have u2:=y1k (i:=k) oM;have u3:=u64_or_nat (tkV bs k) (2 ^ k) oM Dc;have GT:=GJ.out k hlt;have s1:IntKind.u64.wrap (k:Int)=(k:Int):=by rw [IntKind.wrap_u64];omega
     clear GC GE GN GF GJ G5 Db;unfold BK.v at *;generalize (bs k).w=bw at *;obtain ⟨gg,hg⟩:∃ x,(bs k).gen=x:=⟨_,rfl⟩
     obtain ⟨kk,GV⟩:∃ x,(bs k).kind=x:=⟨_,rfl⟩
     obtain ⟨ss,GA⟩:∃ x,(bs k).st=x:=⟨_,rfl⟩
     rw [hg,GV,GA] at Gx GG;rw [GA] at HT;have GW:ss < 256:=by have:=GT.s;omega
     clear GT hg GV GA;generalize z+8 * offB cl k=zo at *;go_upto_region 14 with fail
     go_cut [9,10] from 59 to 71 (fun v9 v10 wx=>∃ b:Nat,v9=.pointer (some ⟨b,0,none⟩)/\v10=.bool true/\Hid (Blk wx b 401 #[.int .u16 gg,.int .u8 kk,.int .u8 ss])/\Hid (Blw wr wx))
     case first =>
      refine z2g (fun w'=>Blw wr w') 15 9 [0,1,2,3,5,6] (by kernel_rfl) (by kernel_rfl) (by rfl) (by rfl) Gg.out ?_;intro ops HO;refine z0e HO.out (.pointer (some ⟨w.heap.size,0,none⟩)) (by rfl) (by rfl) (fun w' hS=>?_) ?_
      ·go_simp
      simp only [Act.put,zD,zE,zF];refine z0e HO.out (.iface 58 (.pointer (some ⟨a.th 0,0,none⟩))) (by rfl) (by rfl) (fun w' hS=>?_) ?_
      ·have kk:=HK.out.below hS HK.out.lt;have f0:=kk.cell 0;clear kk
       go_simp
      simp only [Act.put,zD,zE,zF];refine z0e HO.out (.agg #[.iface 58 (.pointer (some ⟨a.th 0,0,none⟩)),.int .i64 ln,.int .i64 cl,.int .i64 0,.int .u16 g]) (by rfl) (by rfl) (fun w' hS=>?_) ?_
      ·have kk:=HK.out.below hS HK.out.lt;have f0:=kk.cell 0;have f1:=kk.cell 1;have f2:=kk.cell 2;have f3:=kk.cell 3;have f4:=kk.cell 4;clear kk
       go_simp
      simp only [Act.put,zD,zE,zF];refine z0e HO.out (.int .i64 k) (by rfl) (by rfl) (fun w' hS=>?_) ?_
      ·go_simp
      simp only [Act.put,zD,zE,zF];refine z0e HO.out (.iface 58 (.pointer (some ⟨a.th 0,0,none⟩))) (by rfl) (by rfl) (fun w' hS=>?_) ?_
      ·go_simp
      simp only [Act.put,zD,zE,zF];refine z0e HO.out (.iface 58 (.pointer (some ⟨a.th 0,0,none⟩))) (by rfl) (by rfl) (fun w' hS=>?_) ?_
      ·go_simp
      simp only [Act.put,zD,zE,zF];refine z1n HO.out (i:=4) (j:=12) (by kernel_rfl) (by rfl) (by rfl) ?_ ?_
      ·go_wp2_with (go_at_call 301;refine (GB.out _ (HB.out.trans (Gg.out.mono HB.out.size))).mono ?_;rintro e w1 ⟨rfl,hb⟩;have Ga:=hid (Gg.out.trans (hb.mono Gg.out.size));clear hb)
       refine ⟨Ga.out,?_⟩;refine z1n HO.out (i:=7) (j:=12) (by kernel_rfl) (by rfl) (by rfl) ?_ ?_
       ·go_wp2_with (go_at_call 65;refine (G7.out _ (HB.out.trans (Ga.out.mono HB.out.size))).mono ?_;rintro e w2 ⟨rfl,rfl⟩)
        refine ⟨Ga.out,?_⟩;refine z1n HO.out (i:=8) (j:=12) (by kernel_rfl) (by rfl) (by rfl) ?_ ?_
        ·go_wp2_with (go_at_call 352;refine (Gx.out _ (HB.out.trans (Ga.out.mono HB.out.size))).mono ?_;rintro e w3 ⟨rfl,hb⟩;have Gh:=hid (Ga.out.trans (hb.mono Ga.out.size));clear hb)
         refine ⟨Gh.out,?_⟩;refine z0q HO.out (i:=9) (.tuple #[.agg #[.int .u16 gg,.int .u8 kk,.int .u8 ss],.bool true]) (by rfl) (by kernel_rfl) (by rfl) (fun w' hS=>?_) Gh.out ?_
         ·go_simp
         simp only [Act.put,zD,zE,zF];refine z0q HO.out (i:=10) (.agg #[.int .u16 gg,.int .u8 kk,.int .u8 ss]) (by rfl) (by kernel_rfl) (by rfl) (fun w' hS=>?_) Gh.out ?_
         ·go_simp
         simp only [Act.put,zD,zE,zF];refine z0q HO.out (i:=11) (.bool true) (by rfl) (by kernel_rfl) (by rfl) (fun w' hS=>?_) Gh.out ?_
         ·go_simp
         simp only [Act.put,zD,zE,zF];refine z0f HO.out (i:=12) (by kernel_rfl) (by rfl) ?_;go_wp2_with fail
         refine ⟨Gh.out.alloc Gh.out.size _,?_⟩;have Gn:Hid (Blk (w3.alloc (.cells #[.int .u16 0,.int .u8 0,.int .u8 0] 401)) w3.heap.size 401 #[.int .u16 0,.int .u8 0,.int .u8 0]):=hid (Blk.new w3 401 _);have G3:=hid (Gh.out.alloc Gh.out.size (.cells #[.int .u16 0,.int .u8 0,.int .u8 0] 401));have Gi:Hid (wr.heap.size<=w3.heap.size):=hid Gh.out.size;generalize w3.alloc (.cells #[.int .u16 0,.int .u8 0,.int .u8 0] 401)=W4 at *;have c0:W4.cell? ⟨w3.heap.size,0,none⟩=some (.int .u16 0):=Gn.out.cell 0;have z0:W4.frozen? ⟨w3.heap.size,0,none⟩=false:=Gn.out.frozen 0;have c1:W4.cell? ⟨w3.heap.size,1,none⟩=some (.int .u8 0):=Gn.out.cell 1;have z1:W4.frozen? ⟨w3.heap.size,1,none⟩=false:=Gn.out.frozen 1;have c2:W4.cell? ⟨w3.heap.size,2,none⟩=some (.int .u8 0):=Gn.out.cell 2;have z2:W4.frozen? ⟨w3.heap.size,2,none⟩=false:=Gn.out.frozen 2;refine z0f HO.out (i:=13) (by kernel_rfl) (by rfl) ?_;go_wp2_with fail
         refine ⟨(((G3.out.setCell (p:=⟨w3.heap.size,0,none⟩) Gi.out _).setCell (p:=⟨w3.heap.size,1,none⟩) Gi.out _).setCell (p:=⟨w3.heap.size,2,none⟩) Gi.out _),?_⟩;refine z0f HO.out (i:=14) (by kernel_rfl) (by rfl) ?_;go_wp2_with fail
         refine ⟨(((G3.out.setCell (p:=⟨w3.heap.size,0,none⟩) Gi.out _).setCell (p:=⟨w3.heap.size,1,none⟩) Gi.out _).setCell (p:=⟨w3.heap.size,2,none⟩) Gi.out _),?_⟩;refine z1a HO.out (by kernel_rfl) ?_;refine NoPanic.normal ?_;go_wp2_with fail
         go_meet;exact ⟨w3.heap.size,rfl,rfl,hid (((Gn.out.set_ 0 _).set_ 1 _).set_ 2 _),hid (((G3.out.setCell (p:=⟨w3.heap.size,0,none⟩) Gi.out _).setCell (p:=⟨w3.heap.size,1,none⟩) Gi.out _).setCell (p:=⟨w3.heap.size,2,none⟩) Gi.out _)⟩
        ·go_wp2_with fail
         refine ⟨Ga.out.alloc Ga.out.size _,?_⟩;have GK:Hid (Blk (w1.alloc (.cells #[.int .u16 0,.int .u8 0,.int .u8 0] 401)) w1.heap.size 401 #[.int .u16 0,.int .u8 0,.int .u8 0]):=hid (Blk.new w1 401 _);have G4:=hid (Ga.out.alloc Ga.out.size (.cells #[.int .u16 0,.int .u8 0,.int .u8 0] 401));have Gj:Hid (wr.heap.size<=w1.heap.size):=hid Ga.out.size;generalize w1.alloc (.cells #[.int .u16 0,.int .u8 0,.int .u8 0] 401)=W5 at *;refine z0f HO.out (i:=8) (by kernel_rfl) (by rfl) ?_;go_wp2_with (go_at_call 352;refine (Gx.out _ (HB.out.trans (G4.out.mono HB.out.size))).mono ?_;rintro e w6 ⟨rfl,hb⟩;have Gm:=hid (G4.out.trans (hb.mono G4.out.size));have Gp:=hid (GK.out.below hb GK.out.lt);clear hb)
         refine ⟨Gm.out,?_⟩;refine z0q HO.out (i:=9) (.tuple #[.agg #[.int .u16 gg,.int .u8 kk,.int .u8 ss],.bool true]) (by rfl) (by kernel_rfl) (by rfl) (fun w' hS=>?_) Gm.out ?_
         ·go_simp
         simp only [Act.put,zD,zE,zF];refine z0q HO.out (i:=10) (.agg #[.int .u16 gg,.int .u8 kk,.int .u8 ss]) (by rfl) (by kernel_rfl) (by rfl) (fun w' hS=>?_) Gm.out ?_
         ·go_simp
         simp only [Act.put,zD,zE,zF];refine z0q HO.out (i:=11) (.bool true) (by rfl) (by kernel_rfl) (by rfl) (fun w' hS=>?_) Gm.out ?_
         ·go_simp
         simp only [Act.put,zD,zE,zF];have c0:w6.cell? ⟨w1.heap.size,0,none⟩=some (.int .u16 0):=Gp.out.cell 0;have z0:w6.frozen? ⟨w1.heap.size,0,none⟩=false:=Gp.out.frozen 0;have c1:w6.cell? ⟨w1.heap.size,1,none⟩=some (.int .u8 0):=Gp.out.cell 1;have z1:w6.frozen? ⟨w1.heap.size,1,none⟩=false:=Gp.out.frozen 1;have c2:w6.cell? ⟨w1.heap.size,2,none⟩=some (.int .u8 0):=Gp.out.cell 2;have z2:w6.frozen? ⟨w1.heap.size,2,none⟩=false:=Gp.out.frozen 2;refine z0f HO.out (i:=13) (by kernel_rfl) (by rfl) ?_;go_wp2_with fail
         refine ⟨(((Gm.out.setCell (p:=⟨w1.heap.size,0,none⟩) Gj.out _).setCell (p:=⟨w1.heap.size,1,none⟩) Gj.out _).setCell (p:=⟨w1.heap.size,2,none⟩) Gj.out _),?_⟩;refine z0f HO.out (i:=14) (by kernel_rfl) (by rfl) ?_;go_wp2_with fail
         refine ⟨(((Gm.out.setCell (p:=⟨w1.heap.size,0,none⟩) Gj.out _).setCell (p:=⟨w1.heap.size,1,none⟩) Gj.out _).setCell (p:=⟨w1.heap.size,2,none⟩) Gj.out _),?_⟩;refine z1a HO.out (by kernel_rfl) ?_;refine NoPanic.normal ?_;go_wp2_with fail
         go_meet;exact ⟨w1.heap.size,rfl,rfl,hid (((Gp.out.set_ 0 _).set_ 1 _).set_ 2 _),hid (((Gm.out.setCell (p:=⟨w1.heap.size,0,none⟩) Gj.out _).setCell (p:=⟨w1.heap.size,1,none⟩) Gj.out _).setCell (p:=⟨w1.heap.size,2,none⟩) Gj.out _)⟩
       ·go_wp2_with fail
        refine ⟨Ga.out.alloc Ga.out.size _,?_⟩;have GL:Hid (Blk (w1.alloc (.cells #[.int .u16 0,.int .u8 0,.int .u8 0] 401)) w1.heap.size 401 #[.int .u16 0,.int .u8 0,.int .u8 0]):=hid (Blk.new w1 401 _);have Gt:=hid (Ga.out.alloc Ga.out.size (.cells #[.int .u16 0,.int .u8 0,.int .u8 0] 401));have Gk:Hid (wr.heap.size<=w1.heap.size):=hid Ga.out.size;generalize w1.alloc (.cells #[.int .u16 0,.int .u8 0,.int .u8 0] 401)=W7 at *;refine z0f HO.out (i:=7) (by kernel_rfl) (by rfl) ?_;go_wp2_with (go_at_call 65;refine (G7.out _ (HB.out.trans (Gt.out.mono HB.out.size))).mono ?_;rintro e w8 ⟨rfl,rfl⟩)
        refine ⟨Gt.out,?_⟩;refine z0f HO.out (i:=8) (by kernel_rfl) (by rfl) ?_;go_wp2_with (go_at_call 352;refine (Gx.out _ (HB.out.trans (Gt.out.mono HB.out.size))).mono ?_;rintro e w9 ⟨rfl,hb⟩;have Gf:=hid (Gt.out.trans (hb.mono Gt.out.size));have Gq:=hid (GL.out.below hb GL.out.lt);clear hb)
        refine ⟨Gf.out,?_⟩;refine z0q HO.out (i:=9) (.tuple #[.agg #[.int .u16 gg,.int .u8 kk,.int .u8 ss],.bool true]) (by rfl) (by kernel_rfl) (by rfl) (fun w' hS=>?_) Gf.out ?_
        ·go_simp
        simp only [Act.put,zD,zE,zF];refine z0q HO.out (i:=10) (.agg #[.int .u16 gg,.int .u8 kk,.int .u8 ss]) (by rfl) (by kernel_rfl) (by rfl) (fun w' hS=>?_) Gf.out ?_
        ·go_simp
        simp only [Act.put,zD,zE,zF];refine z0q HO.out (i:=11) (.bool true) (by rfl) (by kernel_rfl) (by rfl) (fun w' hS=>?_) Gf.out ?_
        ·go_simp
        simp only [Act.put,zD,zE,zF];have c0:w9.cell? ⟨w1.heap.size,0,none⟩=some (.int .u16 0):=Gq.out.cell 0;have z0:w9.frozen? ⟨w1.heap.size,0,none⟩=false:=Gq.out.frozen 0;have c1:w9.cell? ⟨w1.heap.size,1,none⟩=some (.int .u8 0):=Gq.out.cell 1;have z1:w9.frozen? ⟨w1.heap.size,1,none⟩=false:=Gq.out.frozen 1;have c2:w9.cell? ⟨w1.heap.size,2,none⟩=some (.int .u8 0):=Gq.out.cell 2;have z2:w9.frozen? ⟨w1.heap.size,2,none⟩=false:=Gq.out.frozen 2;refine z0f HO.out (i:=13) (by kernel_rfl) (by rfl) ?_;go_wp2_with fail
        refine ⟨(((Gf.out.setCell (p:=⟨w1.heap.size,0,none⟩) Gk.out _).setCell (p:=⟨w1.heap.size,1,none⟩) Gk.out _).setCell (p:=⟨w1.heap.size,2,none⟩) Gk.out _),?_⟩;refine z0f HO.out (i:=14) (by kernel_rfl) (by rfl) ?_;go_wp2_with fail
        refine ⟨(((Gf.out.setCell (p:=⟨w1.heap.size,0,none⟩) Gk.out _).setCell (p:=⟨w1.heap.size,1,none⟩) Gk.out _).setCell (p:=⟨w1.heap.size,2,none⟩) Gk.out _),?_⟩;refine z1a HO.out (by kernel_rfl) ?_;refine NoPanic.normal ?_;go_wp2_with fail
        go_meet;exact ⟨w1.heap.size,rfl,rfl,hid (((Gq.out.set_ 0 _).set_ 1 _).set_ 2 _),hid (((Gf.out.setCell (p:=⟨w1.heap.size,0,none⟩) Gk.out _).setCell (p:=⟨w1.heap.size,1,none⟩) Gk.out _).setCell (p:=⟨w1.heap.size,2,none⟩) Gk.out _)⟩
      ·go_wp2_with fail
       refine ⟨((Below.refl _ wr).alloc (nL _) _).drew,?_⟩;have Gv:Hid (Blk (wr.alloc (.cells #[.int .u16 0,.int .u8 0,.int .u8 0] 401)).drew wr.heap.size 401 #[.int .u16 0,.int .u8 0,.int .u8 0]):=hid (Blk.new wr 401 _).drew;have Gl:Hid (Blw wr (wr.alloc (.cells #[.int .u16 0,.int .u8 0,.int .u8 0] 401)).drew):=hid ((Below.refl _ wr).alloc (nL _) _).drew;have Gb:Hid (wr.heap.size<=wr.heap.size):=hid (nL _);generalize (wr.alloc (.cells #[.int .u16 0,.int .u8 0,.int .u8 0] 401)).drew=W10 at *;refine z0f HO.out (i:=4) (by kernel_rfl) (by rfl) ?_;go_wp2_with (go_at_call 301;refine (GB.out _ (HB.out.trans (Gl.out.mono HB.out.size))).mono ?_;rintro e w11 ⟨rfl,hb⟩;have Ge:=hid (Gl.out.trans (hb.mono Gl.out.size));have Gw:=hid (Gv.out.below hb Gv.out.lt);clear hb)
       refine ⟨Ge.out,?_⟩;refine z0f HO.out (i:=7) (by kernel_rfl) (by rfl) ?_;go_wp2_with (go_at_call 65;refine (G7.out _ (HB.out.trans (Ge.out.mono HB.out.size))).mono ?_;rintro e w12 ⟨rfl,rfl⟩)
       refine ⟨Ge.out,?_⟩;refine z0f HO.out (i:=8) (by kernel_rfl) (by rfl) ?_;go_wp2_with (go_at_call 352;refine (Gx.out _ (HB.out.trans (Ge.out.mono HB.out.size))).mono ?_;rintro e w13 ⟨rfl,hb⟩;have Gc:=hid (Ge.out.trans (hb.mono Ge.out.size));have Gd:=hid (Gw.out.below hb Gw.out.lt);clear hb)
       refine ⟨Gc.out,?_⟩;refine z0q HO.out (i:=9) (.tuple #[.agg #[.int .u16 gg,.int .u8 kk,.int .u8 ss],.bool true]) (by rfl) (by kernel_rfl) (by rfl) (fun w' hS=>?_) Gc.out ?_
       ·go_simp
       simp only [Act.put,zD,zE,zF];refine z0q HO.out (i:=10) (.agg #[.int .u16 gg,.int .u8 kk,.int .u8 ss]) (by rfl) (by kernel_rfl) (by rfl) (fun w' hS=>?_) Gc.out ?_
       ·go_simp
       simp only [Act.put,zD,zE,zF];refine z0q HO.out (i:=11) (.bool true) (by rfl) (by kernel_rfl) (by rfl) (fun w' hS=>?_) Gc.out ?_
       ·go_simp
       simp only [Act.put,zD,zE,zF];have c0:w13.cell? ⟨wr.heap.size,0,none⟩=some (.int .u16 0):=Gd.out.cell 0;have z0:w13.frozen? ⟨wr.heap.size,0,none⟩=false:=Gd.out.frozen 0;have c1:w13.cell? ⟨wr.heap.size,1,none⟩=some (.int .u8 0):=Gd.out.cell 1;have z1:w13.frozen? ⟨wr.heap.size,1,none⟩=false:=Gd.out.frozen 1;have c2:w13.cell? ⟨wr.heap.size,2,none⟩=some (.int .u8 0):=Gd.out.cell 2;have z2:w13.frozen? ⟨wr.heap.size,2,none⟩=false:=Gd.out.frozen 2;refine z0f HO.out (i:=13) (by kernel_rfl) (by rfl) ?_;go_wp2_with fail
       refine ⟨(((Gc.out.setCell (p:=⟨wr.heap.size,0,none⟩) Gb.out _).setCell (p:=⟨wr.heap.size,1,none⟩) Gb.out _).setCell (p:=⟨wr.heap.size,2,none⟩) Gb.out _),?_⟩;refine z0f HO.out (i:=14) (by kernel_rfl) (by rfl) ?_;go_wp2_with fail
       refine ⟨(((Gc.out.setCell (p:=⟨wr.heap.size,0,none⟩) Gb.out _).setCell (p:=⟨wr.heap.size,1,none⟩) Gb.out _).setCell (p:=⟨wr.heap.size,2,none⟩) Gb.out _),?_⟩;refine z1a HO.out (by kernel_rfl) ?_;refine NoPanic.normal ?_;go_wp2_with fail
       go_meet;exact ⟨wr.heap.size,rfl,rfl,hid (((Gd.out.set_ 0 _).set_ 1 _).set_ 2 _),hid (((Gc.out.setCell (p:=⟨wr.heap.size,0,none⟩) Gb.out _).setCell (p:=⟨wr.heap.size,1,none⟩) Gb.out _).setCell (p:=⟨wr.heap.size,2,none⟩) Gb.out _)⟩
     case rest =>
      obtain ⟨b,rfl,rfl,G6,GD⟩:=hcut;have kb:=G6.out;have b0:wc.cell? ⟨b,0,none⟩=some (.int .u16 gg):=kb.cell 0;have b1:wc.cell? ⟨b,1,none⟩=some (.int .u8 kk):=kb.cell 1;have b2:wc.cell? ⟨b,2,none⟩=some (.int .u8 ss):=kb.cell 2;clear kb f0 f1 f2 f3 f4;go_wp2_with (first
       | (go_at_call 299;refine (GG.out _).mono ?_;rintro e w9 ⟨rfl,Gr⟩;have Gf:=hid (GD.out.trans (Gr.mono GD.out.size));have Dd:w9.cell? ⟨b,2,none⟩=some (.int .u8 ss):=(G6.out.below Gr G6.out.lt).cell 2;clear Gr;refine stop ?_)
       | fail)
      unfold Stop;have G0:=hid (HB.out.trans (Gf.out.mono HB.out.size));have G2:=hid (HK.out.below Gf.out HK.out.lt);clear b0 b1 b2;by_cases hs:ss=176
      ·subst hs
       have Gy:Hid (tkV bs (k+1)=tkV bs k):=hid (by rw [HT.out,if_pos rfl]);clear HT u3;go_wp2_with fail
       go_roundw
       case rel =>
        first
         | exact ⟨k+1,oM,by rw [Gy.out],by go_num,G0,G2⟩
         | (
           repeat apply Exists.intro
           refine ⟨?_,rfl⟩;exact ⟨k+1,oM,by rw [Gy.out],by go_num,G0,G2⟩)
       case measure=>simp [Go.RowKit.intOf];omega
      ·have Gy:Hid (tkV bs (k+1)=tkV bs k ||| 2 ^ k):=hid (by rw [HT.out,if_neg hs])
       have ds:((ss:Int) != 176)=true:=by rw [bne,beq_eq_false_iff_ne.2 oM];rfl
       have GP:=hid u3;clear HT hs u3;generalize 2 ^ k=pk at *;go_wp2_with fail
       go_roundw
       case rel =>
        first
         | exact ⟨k+1,oM,by rw [Gy.out,<- GP.out],by go_num,G0,G2⟩
         | (
           repeat apply Exists.intro
           refine ⟨?_,rfl⟩;exact ⟨k+1,oM,by rw [Gy.out,<- GP.out],by go_num,G0,G2⟩)
       case measure=>simp [Go.RowKit.intOf];omega
    ·obtain rfl:n=k:=oM
     have GX:=hid (G5.out wr HB.out);have hV:tkV bs n=V:=GZ.out;rw [hV];have dV:((V:Int) == (V:Int))=true:=beq_self_eq_true _;clear hV G5;go_wp2_with (go_at_call 351;refine GX.out.mono ?_;rintro e w9 ⟨rfl,Gr⟩;have Gf:=hid (HB.out.trans (Gr.mono HB.out.size));clear Gr)
     go_ret;exact ⟨rfl,Gf.out⟩
theorem y8v (h:Dev a L T w S cur F) (ht:Tab w) (hp:Pay w) {ln cl g V:Nat} {bs:Nat->BK} (hC:ChW cur ln cl g V bs) (hl:ln+32<=L) :
  Calls Tryz.prog 290 #[chV a ln cl 0 g] w fun e w'=>e=.returned (.int .i64 0)/\Blw w w':=by
 have HE:=hid (fun (W:World) (hW:Blw w W)=>z9l (h.below hW));have Gf:=hid (fun (W:World) (hW:Blw w W)=>y1s (h.below hW) (ht.below hW) (hp.below hW) ln cl g V bs hl hC);have hm:=z1z (some ⟨a.th 0,0,none⟩);have Gi:∀ W,(binOp .eql 188 (.iface 58 (.pointer (some ⟨a.th 0,0,none⟩))) .nilIface).run Tryz.prog W=.ok (.bool false) W:=fun W=>by rfl
 have Ga:Blw w (w.alloc (.cells (z0o a ln cl g) 306)):=(Below.refl _ _).alloc (nL _) _;have Gc:=hid Ga;have Gg:=hid (HE.out _ Ga);have Ge:=hid (Gf.out _ Ga);have HK:=hid (Blk.new w 306 (z0o a ln cl g));clear h ht hp hC Ga;unfold chV at *;unfold z0o memV at *;go_enter Tryz.func290,Tryz.ntmps290
 go_upto_region 1 with fail
 generalize w.alloc (.cells #[.iface 58 (.pointer (some ⟨a.th 0,0,none⟩)),.int .i64 ln,.int .i64 cl,.int .i64 0,.int .u16 g] 306)=W0 at *;have f0:W0.cell? ⟨w.heap.size,0,none⟩=some (.iface 58 (.pointer (some ⟨a.th 0,0,none⟩))):=HK.out.cell 0;have f1:W0.cell? ⟨w.heap.size,1,none⟩=some (.int .i64 ln):=HK.out.cell 1;have f2:W0.cell? ⟨w.heap.size,2,none⟩=some (.int .i64 cl):=HK.out.cell 2;have f3:W0.cell? ⟨w.heap.size,3,none⟩=some (.int .i64 0):=HK.out.cell 3;have f4:W0.cell? ⟨w.heap.size,4,none⟩=some (.int .u16 g):=HK.out.cell 4;go_wp2_with (first
  | (go_at_call 344;refine Ge.out.mono ?_;rintro e w5 ⟨rfl,Gb⟩;have Gd:=hid (Gc.out.trans (Gb.mono Gc.out.size));have Gh:=hid (HE.out _ Gd.out);have k0:w5.cell? ⟨w.heap.size,0,none⟩=some (.iface 58 (.pointer (some ⟨a.th 0,0,none⟩))):=(HK.out.below Gb HK.out.lt).cell 0;clear Gb f0 f1 f2 f3 f4)
  | (go_at_call 112;refine Gh.out.mono ?_;rintro e w6 ⟨rfl,rfl⟩)
  | (go_at_call 112;refine Gg.out.mono ?_;rintro e w6 ⟨rfl,rfl⟩)
  | go_in)
 go_ret;exact ⟨rfl,Gd.out⟩
end
end
end Go.Proofs.YtfkjjoglnmeciaaGreatDoor
