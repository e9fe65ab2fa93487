/- part 32 -/
import Derived.Test.YtfkjjoglnmeciaaGreatDoorMbe
set_option maxRecDepth 100000
set_option maxHeartbeats 16000000
namespace Go.Proofs.YtfkjjoglnmeciaaGreatDoor
open Go.Lib (hid)
section
open Go.RowKit Go.Maps
theorem y2h (b o j:Nat):(⟨b,o,none⟩:Addr).add j=⟨b,o+j,none⟩:=by unfold Addr.add;split <;> simp_all
theorem z0c.dropR {w:World} {B size n m b o:Nat} {xs:List Value} (h:z0c w B size (some ⟨b,o,none⟩) n xs) (hm:m<=n):z0c w B size (some ⟨b,o+m * size,none⟩) (n - m) (xs.drop (m * size)):=by
 refine ⟨by rw [List.length_drop,h.1,Nat.sub_mul],fun hn=>?_⟩;obtain ⟨ad,hA,hb,hc⟩:=h.2 oM;cases hA;refine ⟨_,rfl,hb,fun k u hu=>?_⟩;rw [List.getElem?_drop] at hu;have h2:=hc (m * size+k) u hu;rw [y2h] at h2 ⊢;rw [<- Nat.add_assoc] at h2;exact h2
theorem z9f:∀ (l:List RV) (m:Nat),m<=l.length->(z0u l).drop (m * 5)=z0u (l.drop m)
 | _,0,_=>by simp
 | [],m+1,h=>absurd h (by simp)
 | r :: t,m+1,h=>by
  have h1:=z9f t m (by simpa using h);show (r.cells++z0u t).drop ((m+1) * 5)=z0u (t.drop m);rw [<- h1,show (m+1) * 5=r.cells.length+m * 5 by show _=5+m * 5;omega,<- List.drop_drop,List.drop_left]
theorem x0h (A:Option Addr) (n c k:Nat) (h:k<=n) (W:World):(Instr.slice 90 (.slice A n c) (some (.int .i64 k)) none none).run Tryz.prog W=.ok (.slice (if c=k then A else A.map (·.add (k * 5))) (n - k) (c - k)) W:=by
 have h3:(0:Int)<=(k:Int):=oM;have hs:∀ W,(sizeOf 101).run Tryz.prog W=.ok 5 W:=fun W=>by kernel_rfl
 unfold Instr.slice;simp [go_sem,Instr.sliceBounds,Instr.sliceBound,h3,hs];intro h9;omega
theorem x8z (A:Option Addr) (n c k:Nat) (h:k<=c) (W:World):(Instr.slice 90 (.slice A n c) none (some (.int .i64 k)) none).run Tryz.prog W=.ok (.slice A k c) W:=by
 have h3:(0:Int)<=(k:Int):=oM;have hs:∀ W,(sizeOf 101).run Tryz.prog W=.ok 5 W:=fun W=>by kernel_rfl
 unfold Instr.slice;simp [go_sem,Instr.sliceBounds,Instr.sliceBound,h3,hs];intro h9;omega
theorem x4u {P:Program} {ops:Array Oper} {Q:Exit->Act->World->Prop} {S:World->Prop} {rest:List Oper} {i:Nat} {r:List (Nat × Nat)} {a:Act} {w:World} {o:Oper} (ho:ops[i]?=some o) (hw:Region.wanted o (yielded ops a.tmps)=false) (h:z0w P ops Q S rest r (a.put o.dst undef) w):z0w P ops Q S rest ((1,i) :: r) a w :=
 ⟨o,undef,ho,.inr ⟨hw,rfl⟩,h⟩
theorem w9i {w:World} {A:Option Addr} {n c k:Nat} {l:List RV} (hr:z0c w w.heap.size 5 A n (z0u l)) (hk:k<=n) (hc:n<=c):z0c w w.heap.size 5 (if c=k then A else A.map (·.add (k * 5))) (n - k) (z0u (l.drop k)):=by
 have hl:=z5l hr;by_cases hn:0 < n - k
 ·obtain ⟨ad,hA,_,_⟩:=hr.2 oM
  rw [if_neg oM];obtain ⟨b,o,Ga,_⟩:=hr.plain oM oM;subst Ga;have h1:=hr.dropR hk;rw [z9f l k oM] at h1;show z0c w w.heap.size 5 (some ((⟨b,o,none⟩:Addr).add (k * 5))) (n - k) _;rw [y2h];exact h1
 ·have e:l.drop k=[]:=List.drop_of_length_le oM
  rw [e,show n - k=0 by omega];exact ⟨rfl,fun h=>absurd h (Nat.lt_irrefl 0)⟩
theorem z8p (A:Option Addr) (n c:Nat) (l:List DR) (old:Nat) (A2:Option Addr) (n2 c2:Nat) (w:World) (hin:x5g w A n c l) (hold:old < 18446744073709551616) (ht:Tab w) (hpy:Pay w) :
  Calls Tryz.prog 8 #[.slice A n c,.int .u64 old,.slice A2 n2 c2] w fun e w'=>e=.returned (.bool true)/\Blw w w':=by
 have Fe:=hid (x5c w ht hpy);have Fg:Hid (∀ W,Blw w W->Calls Tryz.prog 40 #[.slice A n c] W fun e w'=>∃ gh:Nat,e=.returned (.pointer (some ⟨gh,0,none⟩))/\Hid (BgS W l (min n 8) gh w')):=hid (fun W hW=>y3k A n c l ⟨(hin.1.below hW).more hW.size,hin.2.1,hin.2.2.1,fun r hr=>(hin.2.2.2 r hr).below hW⟩ (ht.below hW) (hpy.below hW));have FZ:=hid hold;clear hin ht hpy hold;go_enter Tryz.func8,Tryz.ntmps8
 go_wp2_with (first
  | (go_at_call 39;refine Fe.out.mono ?_;rintro e w1 ⟨rfl,F3⟩;have Dk:=hid F3;clear F3)
  | (go_at_call 40;refine (Fg.out w1 Dk.out).mono ?_;rintro e w2 ⟨gh,rfl,F5⟩;have Ff:=hid F5.out;clear F5;refine stop ?_))
 unfold Stop;obtain ⟨rl,z,hj,GA, -⟩:=Ff.out;have FD:rl.length<=8:=by rw [GA.1];exact Nat.min_le_right _ _
 have FS:=hid (Dk.out.trans (hj.below.mono Dk.out.size));obtain ⟨kk,gb,pu,us,ql,GS⟩:=w8y (old:=old) hj GA FD (Nat.min_le_right _ _);have Fb:=w4g hj;generalize z.y.g=gw at *;generalize z.y.d=d at *;obtain ⟨Al,nl,cl,DZ,F9,G0⟩:=Fb.h1;rw [<- DZ] at GS;have HA:=hid GS;have HR:=hid Fb;have DK:=hid G0;have GV:=hid (show nl=rl.length/\nl<=8/\nl<=cl from ⟨DZ,oM,F9⟩);obtain ⟨GX,GB⟩:∃ GX,hdQ (vvs rl)=GX:=⟨_,rfl⟩
 have Ju:=hid GB;have HS:Hid (∀ W,Blw w2 W->W.cell? ⟨gh,0,none⟩=some (.pointer (some ⟨gw,0,none⟩))/\W.cell? ⟨gw,3,none⟩=some (.pointer (some ⟨d,0,none⟩))/\W.cell? ⟨gh,1,none⟩=some (.slice Al nl cl)):=hid (fun W hW=>⟨GS.h0 W hW,GS.h3 W hW,(G0 W hW).1⟩);have G7:=hid GS.lk;have DI:=hid GS.pr;have Fi:Hid (∀ W,Blw w2 W->Calls Tryz.prog 48 #[.slice Al nl cl,.int .u64 old] W fun e w'=>e=.returned (.int .i64 kk)/\Blw W w'):=hid (fun W hW=>GS.kp W hW Al cl (G0 W hW).2);rw [GB] at G7 DI;clear Fe Fg Ff hj GA FD GS Fb DZ F9 G0 GB;have s0:=HS.out w2 (Below.refl _ _);go_upto_region 6 with fail
 refine z0g (fun w'=>w'.cell? ⟨gh,0,none⟩=some (.pointer (some ⟨gw,0,none⟩))/\w'.cell? ⟨gw,3,none⟩=some (.pointer (some ⟨d,0,none⟩))/\w'.cell? ⟨gh,1,none⟩=some (.slice Al nl cl)) 14 [] [(1,0),(1,1),(1,2),(1,3),(1,4),(1,5),(1,6),(1,7),(1,8),(1,9),(1,10),(0,11),(1,12),(1,13)] (by kernel_rfl) (by kernel_rfl) s0 ?_;refine tkG (.pointer (some ⟨gh,0,none⟩)) ?_;refine tkG (.pointer (some ⟨gh,0,none⟩)) ?_;refine tkG (.pointer (some ⟨gh,0,none⟩)) ?_;refine tkH (.pointer (some ⟨gw,0,none⟩)) (fun w' hS=>?_) ?_
 ·obtain ⟨s1,s2,s3⟩:=hS
  go_simp
 refine tkG (.pointer (some ⟨gw,0,none⟩)) ?_;refine tkG (.pointer (some ⟨gw,3,none⟩)) ?_;refine tkH (.pointer (some ⟨d,0,none⟩)) (fun w' hS=>?_) ?_
 ·obtain ⟨s1,s2,s3⟩:=hS
  go_simp
 refine tkG (.pointer (some ⟨gh,0,none⟩)) ?_;refine tkG (.pointer (some ⟨gh,0,none⟩)) ?_;refine tkG (.pointer (some ⟨gh,0,none⟩)) ?_;refine tkH (.pointer (some ⟨gw,0,none⟩)) (fun w' hS=>?_) ?_
 ·obtain ⟨s1,s2,s3⟩:=hS
  go_simp
 refine z0b (by rfl) ?_;go_wp2_with (go_at_call 33;refine (G7.out _ (Below.refl _ _).drew).mono ?_;rintro e w3 ⟨rfl,FQ⟩;have Dn:Hid (Blw w2 w3):=hid (by rw [FQ];exact (Below.refl _ _).drew.drew);clear FQ)
 refine ⟨HS.out _ Dn.out,?_⟩;refine tkG (.pointer (some ⟨d,0,none⟩)) ?_;refine tkG (.int .u64 GX) ?_;show wpList _ _ _ _ _ _;simp only [List.drop_succ_cons,List.drop_zero];refine NoPanic.normal ?_;clear s0;go_wp2_with (go_at_call 47;refine (DI.out w3 Dn.out).mono ?_;rintro e w4 ⟨A0,n0,A1,n1,c1,rfl,h4⟩;have H4:=hid h4.out;clear h4;refine stop ?_)
 unfold Stop;have Do:=hid (Dn.out.trans (H4.out.2.2.2.2.2.mono Dn.out.size));obtain ⟨s0,s1,s2⟩:=HS.out w4 Do.out;go_wp2_with (go_at_call 48;refine (Fi.out w4 Do.out).mono ?_;rintro e w5 ⟨rfl,h5⟩;have GH:=hid h5;clear h5;refine stop ?_)
 unfold Stop;have D8:=hid (Do.out.trans (GH.out.mono Do.out.size));clear s0 s1 s2;go_upto_region 10 with fail
 go_cut [71] from 61 to 71 (fun v wx=>∃ b:Bool,v=.bool b/\Hid (b=decide (0 < kk/\kk < nl)/\Blw w5 wx))
 case first =>
  obtain ⟨s0,s1,s2⟩:=HS.out w5 D8.out;by_cases h0:0 < kk
  ·have z0:(0:Int) < (kk:Int):=oM
   by_cases h1:kk < nl
   ·have z1:(kk:Int) < (nl:Int):=oM
    have HD:Hid (true=decide (0 < kk/\kk < nl)):=hid (decide_eq_true ⟨h0,h1⟩).symm;go_wp2;go_meet;exact ⟨_,rfl,hid ⟨HD.out,Below.refl _ _⟩⟩
   ·have z1:decide ((kk:Int) < (nl:Int))=false:=dF
    have HD:Hid (false=decide (0 < kk/\kk < nl)):=hid (decide_eq_false (fun h=>h1 h.2)).symm;go_wp2;go_meet;exact ⟨_,rfl,hid ⟨HD.out,Below.refl _ _⟩⟩
  ·have z0:decide ((0:Int) < (kk:Int))=false:=dF
   have HD:Hid (false=decide (0 < kk/\kk < nl)):=hid (decide_eq_false (fun h=>h0 h.1)).symm;go_wp2;go_meet;exact ⟨_,rfl,hid ⟨HD.out,Below.refl _ _⟩⟩
 case rest =>
 obtain ⟨Je,rfl,G2⟩:=hcut;obtain ⟨w6,Jo⟩:∃ z,z=wc:=⟨_,rfl⟩
 subst Jo;have Dp:=hid (D8.out.trans (G2.out.2.mono D8.out.size));go_upto_if 71 with fail
 go_cut [15] from 72 to 83 (fun v wx=>∃ (A3:Option Addr) (n3:Nat),v=.slice A3 n3 n3/\Hid (n3=pu.length/\z0c wx wx.heap.size 2 A3 n3 (z0d pu)/\Blw w6 wx))
 case first =>
  cases Je
  ·have HP:=hid (HA.out.c3 (of_decide_eq_false G2.out.1.symm))
   go_wp2;go_meet;exact ⟨_,_,rfl,hid ⟨by rw [HP.out];rfl,by rw [HP.out];exact ⟨rfl,fun h=>absurd h (Nat.lt_irrefl 0)⟩,Below.refl _ _⟩⟩
  ·obtain ⟨k0,k1⟩:=of_decide_eq_true G2.out.1.symm
   obtain ⟨j,rfl⟩:∃ j,kk=j+1:=⟨kk - 1,oM⟩
   obtain ⟨s0,s1,s2⟩:=HS.out w6 Dp.out;obtain ⟨Dg,DQ,DT,Jh,_,f0,f1,f2,f3,f4⟩:=z2n (DK.out w6 Dp.out).2 (k:=j) oM;subst Jh;have HP:Hid (pu=[(pAt (rl[j]).v.q 2,0)]):=hid (HA.out.c4 k0 k1 Dg);generalize rl[j]=r at *;obtain ⟨v,B,nb,cb,D,nd,cd⟩:=r;obtain ⟨st,dl,q,bl,p⟩:=v;dsimp only at f0 f1 f2 f3 f4 HP;have Js:(0:Int)<=(j:Int):=oM;have Jt:(j:Int) < (nl:Int):=oM;have J3:nl<=8:=GV.out.2.1;have Ja:Hid ((1:Nat)=pu.length):=hid (by rw [HP.out];rfl);clear f0 f1 f3 f4 Dg;go_wp2_with (go_at_call 49;refine (z8w q 2 oM _).mono ?_;rintro e w7 ⟨rfl,rfl⟩)
   go_meet;exact ⟨_,_,rfl,hid ⟨Ja.out,by rw [HP.out];exact z4i w6 (pAt q 2) 0,(Below.refl _ _).alloc (nL _) _⟩⟩
 case rest =>
 obtain ⟨A3,n3,rfl,H7⟩:=hcut;obtain ⟨w7,Jp⟩:∃ z,z=wc:=⟨_,rfl⟩
 subst Jp;have GT:=hid (Dp.out.trans (H7.out.2.2.mono Dp.out.size));have G5:Hid (Blw w4 w7):=hid (GH.out.trans ((G2.out.2.trans (H7.out.2.2.mono G2.out.2.size)).mono GH.out.size));have DY:n3=n0:=by rw [H7.out.1,H4.out.1]
 subst DY;have DH:=hid ((H4.out.2.1.below G5.out).more G5.out.size);have DJ:=hid ((H4.out.2.2.2.2.1.below G5.out).more G5.out.size);have GU:=hid (And.intro H4.out.2.2.1 H4.out.2.2.2.1);have Fm:=hid H7.out.2.1;have Fq:=hid H7.out.1;clear H7 H4 G2 D8 GH Dn Do Dp;go_upto_region 12 with fail
 go_cut [118] from 84 to 118 (fun v wx=>v=.bool false/\Hid (Blw w7 wx))
 case first =>
  have DN:Hid (∀ W,Blw w7 W->Calls Tryz.prog 50 #[.slice A0 n3 n3,.slice A3 n3 n3] W fun e w'=>e=.returned (.bool true)/\Blw W w'):=hid (fun W hW=>x6q A0 A3 n3 n3 n3 pu W ((DH.out.below hW).more hW.size) ((Fm.out.below hW).more hW.size) (by
   have h1:=Fq.out;have h2:pu.length<=1:=by
    by_cases h:0 < kk/\kk < nl
    ·rw [HA.out.c4 h.1 h.2 (by have:=GV.out;omega)];simp
    ·rw [HA.out.c3 h];simp
   omega))
  have DO:Hid (∀ W,Blw w7 W->Calls Tryz.prog 51 #[.slice A1 n1 c1] W fun e w'=>∃ A' c',e=.returned (.slice A' n1 c')/\Hid (z0c w' w'.heap.size 1 A' n1 (z0a ql)/\Blw W w')):=hid (fun W hW=>(y9z A1 n1 c1 ql W ((DJ.out.below hW).more hW.size) (by have h1:=GU.out.2;have h2:=HA.out.qlen.2;omega)).mono (fun e w' h=>by
   obtain ⟨A',c',h1,h2,h3⟩:=h;exact ⟨A',c',h1,hid ⟨z0c.of_own h2,h3⟩⟩))
  obtain ⟨X,hX⟩:∃ X,(if cl=kk then Al else Al.map (·.add (kk * 5)))=X:=⟨_,rfl⟩
  obtain ⟨m9,DX⟩:∃ m9,nl - kk=m9:=⟨_,rfl⟩
  obtain ⟨c9,Df⟩:∃ c9,cl - kk=c9:=⟨_,rfl⟩
  have DL:Hid (∀ W,(Instr.slice 90 (.slice Al nl cl) (some (.int .i64 kk)) none none).run Tryz.prog W=.ok (.slice X m9 c9) W):=hid (fun W=>by
   rw [x0h Al nl cl kk HA.out.nlen.2.2 W,hX,DX,Df])
  have Dy:Hid (∀ W,Blw w7 W->W.cell? ⟨gh,1,none⟩=some (.slice Al nl cl)):=hid (fun W hW=>(HS.out W (GT.out.trans (hW.mono GT.out.size))).2.2);have DP:Hid (∀ W,Blw w7 W->Calls Tryz.prog 52 #[.slice X m9 c9] W fun e w'=>∃ A' c',e=.returned (.slice A' n1 c')/\Hid (z0c w' w'.heap.size 1 A' n1 (z0a ql)/\Blw W w')):=hid (fun W hW=>by
   have F1:=GT.out.trans (hW.mono GT.out.size);have h1:=w9i (DK.out W F1).2 HA.out.nlen.2.2 GV.out.2.2;rw [hX,DX] at h1;refine (y1h X m9 c9 (rl.drop kk) W h1 (by have:=GV.out;omega) (fun r hr=>⟨(HR.out.rin W F1 r (List.mem_of_mem_drop hr)).1,Nat.le_trans (HA.out.bl2 r (List.mem_of_mem_drop hr)) oM⟩)).mono ?_;rintro e w' ⟨A',m',c',e1,e2,e3,e4⟩;have hq:z0h (vvs (rl.drop kk))=ql:=by
    rw [HA.out.qlen.1];unfold vvs;rw [List.map_drop]
   rw [hq] at e2 e3;have e5:m'=n1:=by rw [e2,GU.out.2]
   subst e5;exact ⟨A',c',e1,hid ⟨z0c.of_own e3,e4⟩⟩)
  have De:=hid HA.out.gbd;clear hX DX Df;by_cases hk0:kk=0
  ·by_cases hn0:0 < nl
   ·have hg:gb=true:=by rw [De.out];exact decide_eq_true ⟨hk0,hn0⟩
    subst hg;have z0:((kk:Int) == 0)=true:=by rw [beq_iff_eq];omega
    have DE:=hid hn0;clear hk0 hn0;refine z0g (fun W=>Blw w7 W) 35 [] [(1,0),(1,1),(1,2),(1,3),(1,4),(0,5),(1,6),(1,7),(1,8),(1,9),(1,11),(1,12),(1,13),(1,14),(1,15),(1,16),(0,10),(0,17),(0,18),(1,19),(1,20),(1,21),(1,22),(1,23),(1,24),(1,25),(1,26),(1,27),(1,28),(1,29),(1,30),(1,31),(1,32),(1,33),(1,34)] (by kernel_rfl) (by kernel_rfl) (Below.refl _ _).drew ?_;refine tkG (.int .i64 0) ?_;refine tkG (.bool false) ?_;refine tkG (.bool false) ?_;refine tkG (.slice A0 n3 n3) ?_;refine tkG (.slice A3 n3 n3) ?_;refine z0b (by rfl) ?_;go_wp2_with (go_at_call 50;refine (DN.out _ (Below.refl _ _).drew).mono ?_;rintro e w8 ⟨rfl,GR⟩;have Gr:Hid (Blw w7 w8):=hid ((Below.refl _ _).drew.trans GR);clear GR)
    refine ⟨Gr.out,?_⟩;refine tkG (.bool false) ?_;refine tkG (.bool false) ?_;refine tkG (.bool false) ?_;refine tkG (.slice A1 n1 c1) ?_;refine tkG (.pointer (some ⟨gh,0,none⟩)) ?_;refine tkG (.pointer (some ⟨gh,0,none⟩)) ?_;refine tkG (.pointer (some ⟨gh,1,none⟩)) ?_;refine tkH (.slice Al nl cl) (fun w' hS=>?_) ?_
    ·have s1:=Dy.out w' hS
     go_simp
    refine tkG (.int .i64 kk) ?_;refine tkH (.slice X m9 c9) (fun w' hS=>?_) ?_
    ·have s1:=DL.out w'
     go_simp
    refine z0b (by rfl) ?_;go_wp2_with (go_at_call 51;refine (DO.out _ Gr.out).mono ?_;rintro e w9 ⟨A9,k9,rfl,h9⟩;have H9:=hid h9.out;clear h9)
    have Gz:Hid (Blw w7 w9):=hid (Gr.out.trans (H9.out.2.mono Gr.out.size));refine ⟨Gz.out,?_⟩;refine z0b (by rfl) ?_;go_wp2_with (go_at_call 52;refine (DP.out _ Gz.out).mono ?_;rintro e w10 ⟨Di,Dh,rfl,GQ⟩;have Gy:=hid GQ.out;clear GQ)
    have Ge:Hid (Blw w7 w10):=hid (Gz.out.trans (Gy.out.2.mono Gz.out.size));have G6:=hid (z7k A9 Di n1 k9 Dh ql w10 ((H9.out.1.below Gy.out.2).more Gy.out.2.size) Gy.out.1 (by have h1:=GU.out.2;have h2:=HA.out.qlen.2;omega));refine ⟨Ge.out,?_⟩;refine z0b (by rfl) ?_;go_wp2_with (go_at_call 44;refine G6.out.mono ?_;rintro e w11 ⟨rfl,Gk⟩;have Gi:Hid (Blw w7 w11):=hid (Ge.out.trans (Gk.mono Ge.out.size));clear Gk)
    refine ⟨Gi.out,?_⟩;refine tkG (.bool false) ?_;refine tkG (.bool false) ?_;refine tkG (.bool false) ?_;refine tkG (.bool true) ?_;refine tkG (.int .i64 kk) ?_;refine tkG (.bool true) ?_;refine tkG (.bool true) ?_;refine tkG (.pointer (some ⟨gh,0,none⟩)) ?_;refine tkG (.pointer (some ⟨gh,0,none⟩)) ?_;refine tkG (.pointer (some ⟨gh,1,none⟩)) ?_;refine tkH (.slice Al nl cl) (fun w' hS=>?_) ?_
    ·have s1:=Dy.out w' hS
     go_simp
    refine tkG (.int .i64 nl) ?_;refine tkH (.bool true) (fun w' hS=>?_) ?_
    ·go_simp
     exact DE.out
    refine tkG (.bool true) ?_;refine tkG (.bool false) ?_;refine tkG (.bool false) ?_;show wpList _ _ _ _ _ _;simp only [List.drop_succ_cons,List.drop_zero];refine NoPanic.normal ?_;go_wp2_with fail
    go_meet;exact ⟨rfl,Gi⟩
   ·have hg:gb=false:=by rw [De.out];exact decide_eq_false (fun h=>hn0 h.2)
    subst hg;have z0:((kk:Int) == 0)=true:=by rw [beq_iff_eq];omega
    have DE:Hid (nl=0):=hid oM;clear hk0 hn0;refine z0g (fun W=>Blw w7 W) 35 [] [(1,0),(1,1),(1,2),(1,3),(1,4),(0,5),(1,6),(1,7),(1,8),(1,9),(1,11),(1,12),(1,13),(1,14),(1,15),(1,16),(0,10),(0,17),(0,18),(1,19),(1,20),(1,21),(1,22),(1,23),(1,24),(1,25),(1,26),(1,27),(1,28),(1,29),(1,30),(1,31),(1,32),(1,33),(1,34)] (by kernel_rfl) (by kernel_rfl) (Below.refl _ _).drew ?_;refine tkG (.int .i64 0) ?_;refine tkG (.bool false) ?_;refine tkG (.bool false) ?_;refine tkG (.slice A0 n3 n3) ?_;refine tkG (.slice A3 n3 n3) ?_;refine z0b (by rfl) ?_;go_wp2_with (go_at_call 50;refine (DN.out _ (Below.refl _ _).drew).mono ?_;rintro e w8 ⟨rfl,GR⟩;have Gr:Hid (Blw w7 w8):=hid ((Below.refl _ _).drew.trans GR);clear GR)
    refine ⟨Gr.out,?_⟩;refine tkG (.bool false) ?_;refine tkG (.bool false) ?_;refine tkG (.bool false) ?_;refine tkG (.slice A1 n1 c1) ?_;refine tkG (.pointer (some ⟨gh,0,none⟩)) ?_;refine tkG (.pointer (some ⟨gh,0,none⟩)) ?_;refine tkG (.pointer (some ⟨gh,1,none⟩)) ?_;refine tkH (.slice Al nl cl) (fun w' hS=>?_) ?_
    ·have s1:=Dy.out w' hS
     go_simp
    refine tkG (.int .i64 kk) ?_;refine tkH (.slice X m9 c9) (fun w' hS=>?_) ?_
    ·have s1:=DL.out w'
     go_simp
    refine z0b (by rfl) ?_;go_wp2_with (go_at_call 51;refine (DO.out _ Gr.out).mono ?_;rintro e w9 ⟨A9,k9,rfl,h9⟩;have H9:=hid h9.out;clear h9)
    have Gz:Hid (Blw w7 w9):=hid (Gr.out.trans (H9.out.2.mono Gr.out.size));refine ⟨Gz.out,?_⟩;refine z0b (by rfl) ?_;go_wp2_with (go_at_call 52;refine (DP.out _ Gz.out).mono ?_;rintro e w10 ⟨Di,Dh,rfl,GQ⟩;have Gy:=hid GQ.out;clear GQ)
    have Ge:Hid (Blw w7 w10):=hid (Gz.out.trans (Gy.out.2.mono Gz.out.size));have G6:=hid (z7k A9 Di n1 k9 Dh ql w10 ((H9.out.1.below Gy.out.2).more Gy.out.2.size) Gy.out.1 (by have h1:=GU.out.2;have h2:=HA.out.qlen.2;omega));refine ⟨Ge.out,?_⟩;refine z0b (by rfl) ?_;go_wp2_with (go_at_call 44;refine G6.out.mono ?_;rintro e w11 ⟨rfl,Gk⟩;have Gi:Hid (Blw w7 w11):=hid (Ge.out.trans (Gk.mono Ge.out.size));clear Gk)
    refine ⟨Gi.out,?_⟩;refine tkG (.bool false) ?_;refine tkG (.bool false) ?_;refine tkG (.bool false) ?_;refine tkG (.bool false) ?_;refine tkG (.int .i64 kk) ?_;refine tkG (.bool true) ?_;refine tkG (.bool true) ?_;refine tkG (.pointer (some ⟨gh,0,none⟩)) ?_;refine tkG (.pointer (some ⟨gh,0,none⟩)) ?_;refine tkG (.pointer (some ⟨gh,1,none⟩)) ?_;refine tkH (.slice Al nl cl) (fun w' hS=>?_) ?_
    ·have s1:=Dy.out w' hS
     go_simp
    refine tkG (.int .i64 nl) ?_;refine tkH (.bool false) (fun w' hS=>?_) ?_
    ·go_simp
     exact DE.out
    refine tkG (.bool false) ?_;refine tkG (.bool false) ?_;refine tkG (.bool false) ?_;show wpList _ _ _ _ _ _;simp only [List.drop_succ_cons,List.drop_zero];refine NoPanic.normal ?_;go_wp2_with fail
    go_meet;exact ⟨rfl,Gi⟩
  ·have hg:gb=false:=by rw [De.out];exact decide_eq_false (fun h=>hk0 h.1)
   subst hg;have z0:((kk:Int) == 0)=false:=by rw [beq_eq_false_iff_ne];omega
   clear hk0;refine z0g (fun W=>Blw w7 W) 35 [] [(1,0),(1,1),(1,2),(1,3),(1,4),(0,5),(1,6),(1,7),(1,8),(1,9),(1,11),(1,12),(1,13),(1,14),(1,15),(1,16),(0,10),(0,17),(0,18),(1,19),(1,20),(1,21),(1,22),(1,23),(1,24),(1,25),(1,26),(1,27),(1,28),(1,29),(1,30),(1,31),(1,32),(1,33),(1,34)] (by kernel_rfl) (by kernel_rfl) (Below.refl _ _).drew ?_;refine tkG (.int .i64 0) ?_;refine tkG (.bool false) ?_;refine tkG (.bool false) ?_;refine tkG (.slice A0 n3 n3) ?_;refine tkG (.slice A3 n3 n3) ?_;refine z0b (by rfl) ?_;go_wp2_with (go_at_call 50;refine (DN.out _ (Below.refl _ _).drew).mono ?_;rintro e w8 ⟨rfl,GR⟩;have Gr:Hid (Blw w7 w8):=hid ((Below.refl _ _).drew.trans GR);clear GR)
   refine ⟨Gr.out,?_⟩;refine tkG (.bool false) ?_;refine tkG (.bool false) ?_;refine tkG (.bool false) ?_;refine tkG (.slice A1 n1 c1) ?_;refine tkG (.pointer (some ⟨gh,0,none⟩)) ?_;refine tkG (.pointer (some ⟨gh,0,none⟩)) ?_;refine tkG (.pointer (some ⟨gh,1,none⟩)) ?_;refine tkH (.slice Al nl cl) (fun w' hS=>?_) ?_
   ·have s1:=Dy.out w' hS
    go_simp
   refine tkG (.int .i64 kk) ?_;refine tkH (.slice X m9 c9) (fun w' hS=>?_) ?_
   ·have s1:=DL.out w'
    go_simp
   refine z0b (by rfl) ?_;go_wp2_with (go_at_call 51;refine (DO.out _ Gr.out).mono ?_;rintro e w9 ⟨A9,k9,rfl,h9⟩;have H9:=hid h9.out;clear h9)
   have Gz:Hid (Blw w7 w9):=hid (Gr.out.trans (H9.out.2.mono Gr.out.size));refine ⟨Gz.out,?_⟩;refine z0b (by rfl) ?_;go_wp2_with (go_at_call 52;refine (DP.out _ Gz.out).mono ?_;rintro e w10 ⟨Di,Dh,rfl,GQ⟩;have Gy:=hid GQ.out;clear GQ)
   have Ge:Hid (Blw w7 w10):=hid (Gz.out.trans (Gy.out.2.mono Gz.out.size));have G6:=hid (z7k A9 Di n1 k9 Dh ql w10 ((H9.out.1.below Gy.out.2).more Gy.out.2.size) Gy.out.1 (by have h1:=GU.out.2;have h2:=HA.out.qlen.2;omega));refine ⟨Ge.out,?_⟩;refine z0b (by rfl) ?_;go_wp2_with (go_at_call 44;refine G6.out.mono ?_;rintro e w11 ⟨rfl,Gk⟩;have Gi:Hid (Blw w7 w11):=hid (Ge.out.trans (Gk.mono Ge.out.size));clear Gk)
   refine ⟨Gi.out,?_⟩;refine tkG (.bool false) ?_;refine tkG (.bool false) ?_;refine tkG (.bool false) ?_;refine tkG (.bool false) ?_;refine tkG (.int .i64 kk) ?_;refine tkG (.bool false) ?_;refine tkG (.bool false) ?_;refine x4u (by rfl) (by rfl) ?_;simp only [zA,zB,zC,Act.put,zD,zE,zF];refine x4u (by rfl) (by rfl) ?_;simp only [zA,zB,zC,Act.put,zD,zE,zF];refine x4u (by rfl) (by rfl) ?_;simp only [zA,zB,zC,Act.put,zD,zE,zF];refine x4u (by rfl) (by rfl) ?_;simp only [zA,zB,zC,Act.put,zD,zE,zF];refine x4u (by rfl) (by rfl) ?_;simp only [zA,zB,zC,Act.put,zD,zE,zF];refine x4u (by rfl) (by rfl) ?_;simp only [zA,zB,zC,Act.put,zD,zE,zF];refine tkG (.bool false) ?_;refine tkG (.bool false) ?_;refine tkG (.bool false) ?_;show wpList _ _ _ _ _ _;simp only [List.drop_succ_cons,List.drop_zero];refine NoPanic.normal ?_;go_wp2_with fail
   go_meet;exact ⟨rfl,Gi⟩
 case rest =>
 obtain ⟨rfl,H8⟩:=hcut;obtain ⟨w8,Jq⟩:∃ z,z=wc:=⟨_,rfl⟩
 subst Jq;have Gr:=hid (GT.out.trans (H8.out.mono GT.out.size));have Fo:=hid ((DH.out.below H8.out).more H8.out.size);have Fs:=hid ((DJ.out.below H8.out).more H8.out.size);clear H8 GT G5 DH DJ Fm Fq Fi DI G7;go_upto_if 119 with fail
 go_cut [10] from 120 to 122 (fun v wx=>∃ (A4:Option Addr) (n4:Nat),v=.slice A4 n4 n4/\Hid (z0c wx wx.heap.size 2 A4 n4 (z0d us)/\(A4=none->n4=0)/\Blw w8 wx))
 case first =>
  have De:=hid HA.out.gbd;cases gb
  ·have HU:=hid (HA.out.c2 (of_decide_eq_false De.out.symm))
   go_wp2;go_meet;exact ⟨_,_,rfl,hid ⟨by rw [HU.out];exact Fo.out,GU.out.1,Below.refl _ _⟩⟩
  ·have HU:=hid (HA.out.c1 (of_decide_eq_true De.out.symm)).1
   go_wp2_with (go_at_call 53;refine (y0w 0 (by decide) _).mono ?_;rintro e w9 ⟨rfl,rfl⟩)
   go_meet;exact ⟨_,_,rfl,hid ⟨by rw [HU.out];exact z4i w8 3328 0,(fun h=>by cases h),(Below.refl _ _).alloc (nL _) _⟩⟩
 case rest =>
 obtain ⟨A4,n4,rfl,H9⟩:=hcut;obtain ⟨w9,Jr⟩:∃ z,z=wc:=⟨_,rfl⟩
 subst Jr;have Dx:=hid (HA.out.pb w9 (Gr.out.trans (H9.out.2.2.mono Gr.out.size)) A4 A1 n4 n4 n1 c1 H9.out.1 (fun h=>⟨H9.out.2.1 h,H9.out.2.1 h⟩) ((Fs.out.below H9.out.2.2).more H9.out.2.2.size));clear H9 Gr Fo Fs GU;go_wp2_with (go_at_call 54;refine Dx.out.mono ?_;rintro e w10 ⟨rfl,Dh,J4,GC,GY⟩;refine stop ?_)
 unfold Stop;obtain ⟨lt,Da⟩:∃ lt,(vvs rl).take kk=lt:=⟨_,rfl⟩
 rw [Da] at GC;have FC:lt.length<=4096:=by
  rw [<- Da,List.length_take];have h1:=HA.out.nlen;omega
 have s0:w10.cell? ⟨gh,0,none⟩=some (.pointer (some ⟨gw,0,none⟩)):=by rw [<- GY];exact GC.blk.cell 0
 have DC:=hid (GC.crashq FC A2 n2 c2);rw [GY] at DC;have Ge:=hid (Dk.out.trans (GC.below.mono Dk.out.size));have DD:=hid Da;clear Dx GC GY Da FC;go_wp2_with (go_at_call 29;refine DC.out.mono ?_;rintro e w11 ⟨gc,dc,rfl,FP,Fc,Gk⟩;refine stop ?_)
 unfold Stop;have GF:=hid FP;have Fx:=hid Fc;have Gi:=hid (Ge.out.trans (Gk.mono Ge.out.size));obtain ⟨A5,n5,c5,FH,F8,GE⟩:=Fc.h1;have GP:=hid GE;have GK:=hid (show n5=rl.length/\n5<=c5/\n5<=8 from ⟨FH,F8,by have:=GV.out;omega⟩);have f1:=(GE w11 (Below.refl _ _)).1;clear FP Fc Gk FH F8 GE s0 DC Ge FS HS DK HR;have DM:=hid (x4y A5 n5 c5 rl w11 (GP.out w11 (Below.refl _ _)).2 (by have:=GK.out;omega) HA.out.sp);obtain ⟨m6,FF⟩:∃ m,3 * n5=m:=⟨_,rfl⟩
 rw [FF] at DM;have FY:Hid (m6<=24):=hid (by have:=GK.out;omega);clear FF;go_wp2_with (go_at_call 55;refine DM.out.mono ?_;rintro e w12 ⟨A6,c6,rfl,h6,F4⟩;refine stop ?_)
 unfold Stop;obtain ⟨xs,FR⟩:∃ xs,stL rl=xs:=⟨_,rfl⟩
 rw [FR] at h6;have HX:=hid (z0c.of_own h6);have Dl:=hid F4;clear h6 F4 f1 DM FR;go_wp2_with fail
 go_loopw [142] (fun v wr=>∃ k:Nat,k<=m6/\v=.int .i64 k/\Hid (Blw w12 wr)) (fun v _=>m6 - (Go.RowKit.intOf v).toNat)
 case atStart=>exact ⟨0,Nat.zero_le _,rfl,hid (Below.refl _ _)⟩
 case round =>
  obtain ⟨k,hk,rfl,GI⟩:=hrel;obtain ⟨Dc,Fd⟩:∃ z,z=wr:=⟨_,rfl⟩
  subst Fd;have Gs:Hid (Blw w11 Dc):=hid (Dl.out.trans (GI.out.mono Dl.out.size));by_cases Da:k < m6
  ·obtain ⟨Dg,Jy,Jz,Jj,_,fk⟩:=z2b ((HX.out.below GI.out).more GI.out.size) (k:=k) Da
   subst Jj;generalize xs[k]=x at *;have Js:(0:Int)<=(k:Int):=oM;have Jt:(k:Int) < (m6:Int):=oM;have DV:k<=24:=by have:=FY.out;omega
   clear Dg;by_cases hx:x < old
   ·have x1:¬ old<=x:=oM
    have x2:x < old:=hx;clear hx;go_wp2_with fail
    go_roundw
    case rel =>
     first
      | exact ⟨k+1,oM,by go_num,GI⟩
      | (
        repeat apply Exists.intro
        refine ⟨?_,rfl⟩;exact ⟨k+1,oM,by go_num,GI⟩)
    case measure=>simp [Go.RowKit.intOf];omega
   ·by_cases hx2:4611686018427387904 < x
    ·have x1:old<=x:=oM
     have x2:¬ x<=4611686018427387904:=oM;have x3:4611686018427387904 < x:=hx2;clear hx hx2;go_wp2_with fail
     go_roundw
     case rel =>
      first
       | exact ⟨k+1,oM,by go_num,GI⟩
       | (
         repeat apply Exists.intro
         refine ⟨?_,rfl⟩;exact ⟨k+1,oM,by go_num,GI⟩)
     case measure=>simp [Go.RowKit.intOf];omega
    ·have x1:old<=x:=oM
     have x2:x<=4611686018427387904:=oM;have Jw:=hid x1;have HC:=hid (y9w rl old x oM);clear hx hx2;obtain ⟨Gl,e0,vs,G3,GG,F2,D5,FJ⟩:∃ Gl e0 vs G3 GG,atV x lt=(e0,vs,false,G3,GG)/\y5b x (vvs rl)=(Gl,e0)/\(e0=5\/e0=0/\∃ h:Gl < rl.length,vs=(rl[Gl]).v.st/\G3=(rl[Gl]).v.dt/\(rl[Gl]).v.dl=false/\(rl[Gl]).v∈lt):=by
      rw [<- DD.out,HA.out.kdef];rcases HC.out with ⟨h1,h2⟩ | ⟨i,h,ol,h1,h2,h3,h4⟩
      ·exact ⟨0,5,0,0,0,h1,h2,.inl rfl⟩
      ·exact ⟨i,0,_,_,ol,h1,h2,.inr ⟨rfl,h,rfl,rfl,h3,h4⟩⟩
     have DG:=hid FJ;have Fv:Hid (Calls Tryz.prog 56 #[.slice A5 n5 c5,.int .u64 x] Dc fun e w'=>e=.returned (.tuple #[.int .i64 Gl,.int .i64 e0])/\Blw Dc w'):=hid (by
      have h:=x8o A5 n5 c5 rl x Dc (GP.out Dc Gs.out).2 (by have:=GK.out;omega) GK.out.2.1 HA.out.desc;rw [D5] at h;exact h)
     have Dj:Hid (∀ W,Blw w11 W->Calls Tryz.prog 57 #[.iface 59 (.pointer (some ⟨dc,0,none⟩)),.int .u64 (hdQ lt:Int),.int .u64 x] W fun e w'=>e=.returned (.tuple #[.agg #[.int .u64 vs,.bool false,.int .u64 G3,.int .u64 GG],.int .i64 e0])/\Blw W w'):=hid (fun W hW=>by
      have h:=GF.out.at_ W hW x;rw [F2] at h;exact h)
     have G7:=hid GF.out.lk;have Dq:=hid GF.out.h3;generalize hdQ lt=hd at Dj G7;have f1:=(GP.out Dc Gs.out).1;clear HC F2 D5 FJ;go_wp2_with (go_at_call 56;refine Fv.out.mono ?_;rintro e w14 ⟨rfl,G9⟩;have Gt:=hid G9;clear G9;refine stop ?_)
     unfold Stop;have Gc:=hid (Gs.out.trans (Gt.out.mono Gs.out.size));clear f1 fk x1 x2 Fv;go_upto_region 26 with fail
     go_cut [21,22] from 162 to 173 (fun v21 v22 wx=>∃ g8,v21=.pointer (some ⟨g8,0,none⟩)/\v22=.int .i64 e0/\Hid (Blk wx g8 97 #[.int .u64 vs,.bool false,.int .u64 G3,.int .u64 GG]/\Blw w14 wx))
     case first =>
      have DB:Hid (Blw w14 w14.drew):=hid (Below.refl _ _).drew;refine z2g (fun w'=>Blw w14 w') 15 8 [0,1,2,3,4,5,7] (by kernel_rfl) (by kernel_rfl) (by rfl) (by rfl) DB.out ?_;intro ops HO;refine z0e HO.out (.pointer (some ⟨gc,0,none⟩)) (by rfl) (by rfl) (fun w' hS=>?_) ?_
      ·go_simp
      simp only [Act.put,zD,zE,zF];refine z0e HO.out (.pointer (some ⟨gc,0,none⟩)) (by rfl) (by rfl) (fun w' hS=>?_) ?_
      ·go_simp
      simp only [Act.put,zD,zE,zF];refine z0e HO.out (.pointer (some ⟨gc,3,none⟩)) (by rfl) (by rfl) (fun w' hS=>?_) ?_
      ·go_simp
      simp only [Act.put,zD,zE,zF];refine z0e HO.out (.pointer (some ⟨dc,0,none⟩)) (by rfl) (by rfl) (fun w' hS=>?_) ?_
      ·have s0:=Dq.out w' (Gc.out.trans (hS.mono Gc.out.size))
       go_simp
      simp only [Act.put,zD,zE,zF];refine z0e HO.out (.iface 59 (.pointer (some ⟨dc,0,none⟩))) (by rfl) (by rfl) (fun w' hS=>?_) ?_
      ·go_simp
      simp only [Act.put,zD,zE,zF];refine z0e HO.out (.pointer (some ⟨gc,0,none⟩)) (by rfl) (by rfl) (fun w' hS=>?_) ?_
      ·go_simp
      simp only [Act.put,zD,zE,zF];refine z0e HO.out (.int .u64 x) (by rfl) (by rfl) (fun w' hS=>?_) ?_
      ·go_simp
      simp only [Act.put,zD,zE,zF];refine z1n HO.out (i:=6) (j:=12) (by kernel_rfl) (by rfl) (by rfl) ?_ ?_
      ·go_wp2_with (go_at_call 33;refine (G7.out _ (Gc.out.trans (DB.out.mono Gc.out.size))).mono ?_;rintro e Gb ⟨rfl,GM⟩;have Ga:Hid (Blw w14 Gb):=hid (by rw [GM];exact DB.out.drew);clear GM)
       refine ⟨Ga.out,?_⟩;refine z1n HO.out (i:=8) (j:=12) (by kernel_rfl) (by rfl) (by rfl) ?_ ?_
       ·go_wp2_with (go_at_call 57;refine (Dj.out _ (Gc.out.trans (Ga.out.mono Gc.out.size))).mono ?_;rintro e w16 ⟨rfl,hb⟩;have Gd:=hid (Ga.out.trans (hb.mono Ga.out.size));clear hb)
        refine ⟨Gd.out,?_⟩;refine z0q HO.out (i:=9) (.tuple #[.agg #[.int .u64 vs,.bool false,.int .u64 G3,.int .u64 GG],.int .i64 e0]) (by rfl) (by kernel_rfl) (by rfl) (fun w' hS=>?_) Gd.out ?_
        ·go_simp
        simp only [Act.put,zD,zE,zF];refine z0q HO.out (i:=10) (.agg #[.int .u64 vs,.bool false,.int .u64 G3,.int .u64 GG]) (by rfl) (by kernel_rfl) (by rfl) (fun w' hS=>?_) Gd.out ?_
        ·go_simp
        simp only [Act.put,zD,zE,zF];refine z0q HO.out (i:=11) (.int .i64 e0) (by rfl) (by kernel_rfl) (by rfl) (fun w' hS=>?_) Gd.out ?_
        ·go_simp
        simp only [Act.put,zD,zE,zF];refine z0f HO.out (i:=12) (by kernel_rfl) (by rfl) ?_;go_wp2_with fail
        refine ⟨Gd.out.alloc Gd.out.size _,?_⟩;have Gm:Hid (Blk (w16.alloc (.cells #[.int .u64 0,.bool false,.int .u64 0,.int .u64 0] 97)) w16.heap.size 97 #[.int .u64 0,.bool false,.int .u64 0,.int .u64 0]):=hid (Blk.new w16 97 _);have G1:=hid (Gd.out.alloc Gd.out.size (.cells #[.int .u64 0,.bool false,.int .u64 0,.int .u64 0] 97));have Gf:Hid (w14.heap.size<=w16.heap.size):=hid Gd.out.size;generalize w16.alloc (.cells #[.int .u64 0,.bool false,.int .u64 0,.int .u64 0] 97)=W17 at *;have c0:W17.cell? ⟨w16.heap.size,0,none⟩=some (.int .u64 0):=Gm.out.cell 0;have z0:W17.frozen? ⟨w16.heap.size,0,none⟩=false:=Gm.out.frozen 0;have c1:W17.cell? ⟨w16.heap.size,1,none⟩=some (.bool false):=Gm.out.cell 1;have z1:W17.frozen? ⟨w16.heap.size,1,none⟩=false:=Gm.out.frozen 1;have c2:W17.cell? ⟨w16.heap.size,2,none⟩=some (.int .u64 0):=Gm.out.cell 2;have z2:W17.frozen? ⟨w16.heap.size,2,none⟩=false:=Gm.out.frozen 2;have c3:W17.cell? ⟨w16.heap.size,3,none⟩=some (.int .u64 0):=Gm.out.cell 3;have z3:W17.frozen? ⟨w16.heap.size,3,none⟩=false:=Gm.out.frozen 3;refine z0f HO.out (i:=13) (by kernel_rfl) (by rfl) ?_;go_wp2_with fail
        refine ⟨((((G1.out.setCell (p:=⟨w16.heap.size,0,none⟩) Gf.out _).setCell (p:=⟨w16.heap.size,1,none⟩) Gf.out _).setCell (p:=⟨w16.heap.size,2,none⟩) Gf.out _).setCell (p:=⟨w16.heap.size,3,none⟩) Gf.out _),?_⟩;refine z0f HO.out (i:=14) (by kernel_rfl) (by rfl) ?_;go_wp2_with fail
        refine ⟨((((G1.out.setCell (p:=⟨w16.heap.size,0,none⟩) Gf.out _).setCell (p:=⟨w16.heap.size,1,none⟩) Gf.out _).setCell (p:=⟨w16.heap.size,2,none⟩) Gf.out _).setCell (p:=⟨w16.heap.size,3,none⟩) Gf.out _),?_⟩;refine z1a HO.out (by kernel_rfl) ?_;refine NoPanic.normal ?_;go_wp2_with fail
        go_meet;exact ⟨w16.heap.size,rfl,rfl,hid ⟨(((Gm.out.set_ 0 _).set_ 1 _).set_ 2 _).set_ 3 _,((((G1.out.setCell (p:=⟨w16.heap.size,0,none⟩) Gf.out _).setCell (p:=⟨w16.heap.size,1,none⟩) Gf.out _).setCell (p:=⟨w16.heap.size,2,none⟩) Gf.out _).setCell (p:=⟨w16.heap.size,3,none⟩) Gf.out _)⟩⟩
       ·go_wp2_with fail
        refine ⟨Ga.out.alloc Ga.out.size _,?_⟩;have Dr:Hid (Blk (Gb.alloc (.cells #[.int .u64 0,.bool false,.int .u64 0,.int .u64 0] 97)) Gb.heap.size 97 #[.int .u64 0,.bool false,.int .u64 0,.int .u64 0]):=hid (Blk.new Gb 97 _);have Gu:=hid (Ga.out.alloc Ga.out.size (.cells #[.int .u64 0,.bool false,.int .u64 0,.int .u64 0] 97));have Gg:Hid (w14.heap.size<=Gb.heap.size):=hid Ga.out.size;generalize Gb.alloc (.cells #[.int .u64 0,.bool false,.int .u64 0,.int .u64 0] 97)=W18 at *;refine z0f HO.out (i:=8) (by kernel_rfl) (by rfl) ?_;go_wp2_with (go_at_call 57;refine (Dj.out _ (Gc.out.trans (Gu.out.mono Gc.out.size))).mono ?_;rintro e w19 ⟨rfl,hb⟩;have Gj:=hid (Gu.out.trans (hb.mono Gu.out.size));have Gn:=hid (Dr.out.below hb Dr.out.lt);clear hb)
        refine ⟨Gj.out,?_⟩;refine z0q HO.out (i:=9) (.tuple #[.agg #[.int .u64 vs,.bool false,.int .u64 G3,.int .u64 GG],.int .i64 e0]) (by rfl) (by kernel_rfl) (by rfl) (fun w' hS=>?_) Gj.out ?_
        ·go_simp
        simp only [Act.put,zD,zE,zF];refine z0q HO.out (i:=10) (.agg #[.int .u64 vs,.bool false,.int .u64 G3,.int .u64 GG]) (by rfl) (by kernel_rfl) (by rfl) (fun w' hS=>?_) Gj.out ?_
        ·go_simp
        simp only [Act.put,zD,zE,zF];refine z0q HO.out (i:=11) (.int .i64 e0) (by rfl) (by kernel_rfl) (by rfl) (fun w' hS=>?_) Gj.out ?_
        ·go_simp
        simp only [Act.put,zD,zE,zF];have c0:w19.cell? ⟨Gb.heap.size,0,none⟩=some (.int .u64 0):=Gn.out.cell 0;have z0:w19.frozen? ⟨Gb.heap.size,0,none⟩=false:=Gn.out.frozen 0;have c1:w19.cell? ⟨Gb.heap.size,1,none⟩=some (.bool false):=Gn.out.cell 1;have z1:w19.frozen? ⟨Gb.heap.size,1,none⟩=false:=Gn.out.frozen 1;have c2:w19.cell? ⟨Gb.heap.size,2,none⟩=some (.int .u64 0):=Gn.out.cell 2;have z2:w19.frozen? ⟨Gb.heap.size,2,none⟩=false:=Gn.out.frozen 2;have c3:w19.cell? ⟨Gb.heap.size,3,none⟩=some (.int .u64 0):=Gn.out.cell 3;have z3:w19.frozen? ⟨Gb.heap.size,3,none⟩=false:=Gn.out.frozen 3;refine z0f HO.out (i:=13) (by kernel_rfl) (by rfl) ?_;go_wp2_with fail
        refine ⟨((((Gj.out.setCell (p:=⟨Gb.heap.size,0,none⟩) Gg.out _).setCell (p:=⟨Gb.heap.size,1,none⟩) Gg.out _).setCell (p:=⟨Gb.heap.size,2,none⟩) Gg.out _).setCell (p:=⟨Gb.heap.size,3,none⟩) Gg.out _),?_⟩;refine z0f HO.out (i:=14) (by kernel_rfl) (by rfl) ?_;go_wp2_with fail
        refine ⟨((((Gj.out.setCell (p:=⟨Gb.heap.size,0,none⟩) Gg.out _).setCell (p:=⟨Gb.heap.size,1,none⟩) Gg.out _).setCell (p:=⟨Gb.heap.size,2,none⟩) Gg.out _).setCell (p:=⟨Gb.heap.size,3,none⟩) Gg.out _),?_⟩;refine z1a HO.out (by kernel_rfl) ?_;refine NoPanic.normal ?_;go_wp2_with fail
        go_meet;exact ⟨Gb.heap.size,rfl,rfl,hid ⟨(((Gn.out.set_ 0 _).set_ 1 _).set_ 2 _).set_ 3 _,((((Gj.out.setCell (p:=⟨Gb.heap.size,0,none⟩) Gg.out _).setCell (p:=⟨Gb.heap.size,1,none⟩) Gg.out _).setCell (p:=⟨Gb.heap.size,2,none⟩) Gg.out _).setCell (p:=⟨Gb.heap.size,3,none⟩) Gg.out _)⟩⟩
      ·go_wp2_with fail
       refine ⟨((Below.refl _ _).alloc (nL _) _).drew,?_⟩;have Ds:Hid (Blk ((w14.alloc (.cells #[.int .u64 0,.bool false,.int .u64 0,.int .u64 0] 97)).drew) w14.heap.size 97 #[.int .u64 0,.bool false,.int .u64 0,.int .u64 0]):=hid (Blk.new w14 97 _).drew;have Gv:Hid (Blw w14 ((w14.alloc (.cells #[.int .u64 0,.bool false,.int .u64 0,.int .u64 0] 97)).drew)):=hid ((Below.refl _ _).alloc (nL _) _).drew;have Gh:Hid (w14.heap.size<=w14.heap.size):=hid (nL _);generalize (w14.alloc (.cells #[.int .u64 0,.bool false,.int .u64 0,.int .u64 0] 97)).drew=W20 at *;refine z0f HO.out (i:=6) (by kernel_rfl) (by rfl) ?_;go_wp2_with (go_at_call 33;refine (G7.out _ (Gc.out.trans (Gv.out.mono Gc.out.size))).mono ?_;rintro e w21 ⟨rfl,Db⟩;have Gw:Hid (Blw w14 w21):=hid (by rw [Db];exact Gv.out.drew);have F6:Blw W20 w21:=(by rw [Db];exact (Below.refl _ _).drew);have Dt:=hid (Ds.out.below F6 Ds.out.lt);clear F6;clear Db)
       refine ⟨Gw.out,?_⟩;refine z0f HO.out (i:=8) (by kernel_rfl) (by rfl) ?_;go_wp2_with (go_at_call 57;refine (Dj.out _ (Gc.out.trans (Gw.out.mono Gc.out.size))).mono ?_;rintro e w22 ⟨rfl,hb⟩;have Gx:=hid (Gw.out.trans (hb.mono Gw.out.size));have Gp:=hid (Dt.out.below hb Dt.out.lt);clear hb)
       refine ⟨Gx.out,?_⟩;refine z0q HO.out (i:=9) (.tuple #[.agg #[.int .u64 vs,.bool false,.int .u64 G3,.int .u64 GG],.int .i64 e0]) (by rfl) (by kernel_rfl) (by rfl) (fun w' hS=>?_) Gx.out ?_
       ·go_simp
       simp only [Act.put,zD,zE,zF];refine z0q HO.out (i:=10) (.agg #[.int .u64 vs,.bool false,.int .u64 G3,.int .u64 GG]) (by rfl) (by kernel_rfl) (by rfl) (fun w' hS=>?_) Gx.out ?_
       ·go_simp
       simp only [Act.put,zD,zE,zF];refine z0q HO.out (i:=11) (.int .i64 e0) (by rfl) (by kernel_rfl) (by rfl) (fun w' hS=>?_) Gx.out ?_
       ·go_simp
       simp only [Act.put,zD,zE,zF];have c0:w22.cell? ⟨w14.heap.size,0,none⟩=some (.int .u64 0):=Gp.out.cell 0;have z0:w22.frozen? ⟨w14.heap.size,0,none⟩=false:=Gp.out.frozen 0;have c1:w22.cell? ⟨w14.heap.size,1,none⟩=some (.bool false):=Gp.out.cell 1;have z1:w22.frozen? ⟨w14.heap.size,1,none⟩=false:=Gp.out.frozen 1;have c2:w22.cell? ⟨w14.heap.size,2,none⟩=some (.int .u64 0):=Gp.out.cell 2;have z2:w22.frozen? ⟨w14.heap.size,2,none⟩=false:=Gp.out.frozen 2;have c3:w22.cell? ⟨w14.heap.size,3,none⟩=some (.int .u64 0):=Gp.out.cell 3;have z3:w22.frozen? ⟨w14.heap.size,3,none⟩=false:=Gp.out.frozen 3;refine z0f HO.out (i:=13) (by kernel_rfl) (by rfl) ?_;go_wp2_with fail
       refine ⟨((((Gx.out.setCell (p:=⟨w14.heap.size,0,none⟩) Gh.out _).setCell (p:=⟨w14.heap.size,1,none⟩) Gh.out _).setCell (p:=⟨w14.heap.size,2,none⟩) Gh.out _).setCell (p:=⟨w14.heap.size,3,none⟩) Gh.out _),?_⟩;refine z0f HO.out (i:=14) (by kernel_rfl) (by rfl) ?_;go_wp2_with fail
       refine ⟨((((Gx.out.setCell (p:=⟨w14.heap.size,0,none⟩) Gh.out _).setCell (p:=⟨w14.heap.size,1,none⟩) Gh.out _).setCell (p:=⟨w14.heap.size,2,none⟩) Gh.out _).setCell (p:=⟨w14.heap.size,3,none⟩) Gh.out _),?_⟩;refine z1a HO.out (by kernel_rfl) ?_;refine NoPanic.normal ?_;go_wp2_with fail
       go_meet;exact ⟨w14.heap.size,rfl,rfl,hid ⟨(((Gp.out.set_ 0 _).set_ 1 _).set_ 2 _).set_ 3 _,((((Gx.out.setCell (p:=⟨w14.heap.size,0,none⟩) Gh.out _).setCell (p:=⟨w14.heap.size,1,none⟩) Gh.out _).setCell (p:=⟨w14.heap.size,2,none⟩) Gh.out _).setCell (p:=⟨w14.heap.size,3,none⟩) Gh.out _)⟩⟩
     case rest =>
     obtain ⟨g8,rfl,rfl,Dd⟩:=hcut;obtain ⟨Gb,GM⟩:∃ z,z=wc:=⟨_,rfl⟩
     subst GM;have Ga:=hid (Gc.out.trans (Dd.out.2.mono Gc.out.size));have G4:=hid (GI.out.trans ((Gt.out.trans (Dd.out.2.mono Gt.out.size)).mono GI.out.size));clear Dj G7 Gt Gc Gs;rcases DG.out with rfl | ⟨rfl,hi,hvs,hvdt,hdl,hmem⟩
     ·clear DG
      rw [show ((5:Nat):Int)=5 from rfl];go_upto_region 27 with fail
      have GN:=hid G4.out.drew;go_region;go_wp2_with fail
      go_roundw
      case rel =>
       first
        | exact ⟨k+1,oM,by go_num,GN⟩
        | (
          repeat apply Exists.intro
          refine ⟨?_,rfl⟩;exact ⟨k+1,oM,by go_num,GN⟩)
      case measure=>simp [Go.RowKit.intOf];omega
     ·clear DG
      have hin:=Fx.out.rin Gb Ga.out (rl[Gl]) (List.getElem_mem hi);have F7:=HA.out.bl2 (rl[Gl]) (List.getElem_mem hi);obtain ⟨Dg,DQ,DT,Ji,FB,f0,f1,f2,f3,f4⟩:=z2n (GP.out Gb Ga.out).2 (k:=Gl) (by have:=GK.out;omega);have FW:=hid FB;clear FB;subst Ji;have G8:=hid (fun W (hW:Blw Gb W)=>GF.out.rd W (Ga.out.trans (hW.mono Ga.out.size)) (rl[Gl]).v hmem hdl);have Dx:=hid (GF.out.pb (rl[Gl]).v hmem);have Fa:=GF.out.bz (rl[Gl]).v hmem hdl;have HI:Hid (Gl < n5):=hid (by have:=GK.out;omega);have FX:=hid DV;generalize rl[Gl]=r at *;obtain ⟨v,B,nb,cb,D,nd,cd⟩:=r;obtain ⟨st,dl,q,bl,p⟩:=v;dsimp only at hin F7 f0 f1 f2 f3 f4 G8 Dx Fa hvs hvdt hdl;obtain ⟨Jm,bb,bo,Jk,_,Fy⟩:=z2b hin.1 (k:=0) (by have h:=hin.1.1;simp [z0a] at h;omega);subst Jk;have J0:(0:Int) < (nb:Int):=by have h:=hin.1.1;simp [z0a] at h;omega
      have J1:(0:Int)<=(Gl:Int):=oM;have J2:(Gl:Int) < (n5:Int):=by have:=HI.out;omega
      have FA:VV.dt ⟨st,dl,q,bl,p⟩=bl[0]:=z5s bl Fa;rw [FA] at hvdt G8;rw [<- hvdt] at Fy G8;rw [Nat.add_zero] at Fy;subst hvs;have FT:=hid hin.2;have g1:=(GP.out Gb Ga.out).1;have v0:Gb.cell? ⟨g8,0,none⟩=some (.int .u64 vs):=Dd.out.1.cell 0;have v2:Gb.cell? ⟨g8,2,none⟩=some (.int .u64 G3):=Dd.out.1.cell 2;have c3:=Dq.out Gb Ga.out;have Jx:=hid v2;have FV:=hid (And.intro g1 f4);clear hin F7 f1 f2 hvdt FA hdl hmem Jm Dg Fa hi;rw [show ((0:Nat):Int)=0 from rfl];go_upto_region 27 with fail
      go_region;go_upto_region 30 with fail
      refine z0g (fun W=>Blw Gb W) 13 [] [(1,0),(1,1),(1,2),(1,3),(1,4),(1,5),(1,6),(0,7),(1,8),(1,9),(1,10),(1,11),(1,12)] (by kernel_rfl) (by kernel_rfl) (Below.refl _ _).drew.drew ?_;refine tkG (.pointer (some ⟨gc,0,none⟩)) ?_;refine tkG (.pointer (some ⟨gc,0,none⟩)) ?_;refine tkG (.pointer (some ⟨gc,3,none⟩)) ?_;refine tkH (.pointer (some ⟨dc,0,none⟩)) (fun w' hS=>?_) ?_
      ·have s0:=Dq.out w' (Ga.out.trans (hS.mono Ga.out.size))
       go_simp
      refine tkG (.iface 59 (.pointer (some ⟨dc,0,none⟩))) ?_;refine tkG (.pointer (some ⟨g8,2,none⟩)) ?_;refine tkH (.int .u64 G3) (fun w' hS=>?_) ?_
      ·have s0:=(Dd.out.1.below hS Dd.out.1.lt).cell 2
       go_simp
      refine z0b (by rfl) ?_;go_wp2_with (go_at_call 30;refine (G8.out _ (Below.refl _ _).drew.drew).mono ?_;rintro e w16 ⟨A7,m7,c7,rfl,FG,FM,D0⟩;have Jc:=hid FM;have Gd:Hid (Blw Gb w16):=hid ((Below.refl _ _).drew.drew.trans D0);have Jv:=hid FG;clear FM D0 FG)
      refine ⟨Gd.out,?_⟩;refine tkG (.tuple #[.slice A7 m7 c7,.int .i64 0]) ?_;refine tkG (.slice A7 m7 c7) ?_;refine tkG (.int .i64 0) ?_;refine tkG (.slice A7 m7 c7) ?_;refine tkG (.int .i64 0) ?_;show wpList _ _ _ _ _ _;simp only [List.drop_succ_cons,List.drop_zero];refine NoPanic.normal ?_;have Dm:=hid (Ga.out.trans (Gd.out.mono Ga.out.size));have GO:=hid (G4.out.trans (Gd.out.mono G4.out.size));obtain ⟨Jf,Fz⟩:=FV.out;have g1:=(GP.out w16 Dm.out).1;have f4:w16.cell? ⟨DQ,DT+Gl * 5+4,none⟩=some (.slice D nd cd):=(Gd.out.cell (p:=⟨DQ,DT+Gl * 5+4,none⟩) FW.out).trans Fz;have HE:=hid (y5w A7 D m7 c7 nd cd _ _ p w16 Jc.out ((FT.out.below Gd.out).more Gd.out.size) Dx.out);clear Jf Fz G8;go_wp2_with (go_at_call 32;refine HE.out.mono ?_;rintro e w17 ⟨rfl,rfl⟩)
      go_roundw
      case rel =>
       first
        | exact ⟨k+1,oM,by go_num,GO⟩
        | (
          repeat apply Exists.intro
          refine ⟨?_,rfl⟩;exact ⟨k+1,oM,by go_num,GO⟩)
      case measure=>simp [Go.RowKit.intOf];omega
  ·obtain rfl:m6=k:=oM
   obtain ⟨ll,GD,FE⟩:=GF.out.lv;have Fk:=hid (FE Dc Gs.out);have Jb:=hid GD;have DW:=GD.length_eq;obtain ⟨Gq,D3⟩:∃ Gq,ll.length=Gq:=⟨_,rfl⟩
   have GJ:Hid (ll.length=Gq/\(z0h lt).length=Gq/\Gq<=24):=hid ⟨D3,oM,by
    have h1:(z0h lt).length<=24:=by
     rw [<- DD.out];have h2:∀ l:List RV,(∀ r∈l,r.v.bl.length<=2)->(z0h (vvs l)).length<=3 * l.length:=fun l=>by
      induction l with
      | nil=>intro _;simp [vvs,z0h]
      | cons r t ih =>
       intro h;have h1:=h r (by simp);have h4:=ih (fun u hu=>h u (by simp [hu]));unfold vvs at h4 ⊢;rw [List.map_cons,z2e,List.length_append,List.length_cons,List.length_cons];omega
     have e:(vvs rl).take kk=vvs (rl.take kk):=by unfold vvs;rw [List.map_take]
     rw [e];have h3:=h2 (rl.take kk) (fun r hr=>HA.out.bl2 r (List.mem_of_mem_take hr));rw [List.length_take] at h3;have h4:=GK.out;omega
    omega⟩
   clear GD FE DW D3 hk Da;go_wp2_with (go_at_call 25;refine Fk.out.mono ?_;rintro e w14 ⟨v,rfl,ho,G9⟩;refine stop ?_)
   unfold Stop;rw [GJ.out.1] at ho;obtain ⟨Av,cv,rfl⟩:=z3i ho;have Gt:=hid (Gs.out.trans (G9.mono Gs.out.size));have Ft:=hid (y9z Av Gq cv ll w14 (z0c.of_own ho) (by have:=GJ.out;omega));clear ho G9 Fk;go_wp2_with (go_at_call 51;refine Ft.out.mono ?_;rintro e Gb ⟨A8,c8,rfl,D4,GW⟩;refine stop ?_)
   unfold Stop;have DF:=hid D4;have Ga:=hid (Gt.out.trans (GW.mono Gt.out.size));have Jd:=hid GW.size;clear D4 GW Ft;have g1:=(GP.out Gb Ga.out).1;have Jn:∀ W,(Instr.slice 90 (.slice A5 n5 c5) none (some (.int .i64 kk)) none).run Tryz.prog W=.ok (.slice A5 kk c5) W:=fun W=>x8z A5 n5 c5 kk (by have h1:=HA.out.nlen;have h2:=GK.out;have h3:=GV.out;omega) W
   have Fu:Hid (Calls Tryz.prog 52 #[.slice A5 kk c5] Gb fun e w'=>∃ A' c',e=.returned (.slice A' Gq c')/\Hid (w'.ownsRow Gb.heap.size 32 1 (.slice A' Gq c') Gq (z0a (z0h lt))/\Blw Gb w')):=hid (by
    have h1:=(GP.out Gb Ga.out).2;have h4:=HA.out.nlen;have h5:=GK.out;have Jl:kk<=n5:=by have h6:=GV.out;omega
    have h2:=h1.takeR Jl;rw [z6a rl kk oM] at h2;refine (y1h A5 kk c5 (rl.take kk) Gb h2 oM (fun r hr=>⟨(Fx.out.rin Gb Ga.out r (List.mem_of_mem_take hr)).1,Nat.le_trans (HA.out.bl2 r (List.mem_of_mem_take hr)) oM⟩)).mono ?_;rintro e w' ⟨A',m',c',e1,e2,e3,e4⟩;have hq:z0h (vvs (rl.take kk))=z0h lt:=by
     rw [<- DD.out];unfold vvs;rw [List.map_take]
    rw [hq] at e2 e3;rw [GJ.out.2.1] at e2;subst e2;exact ⟨A',c',e1,hid ⟨e3,e4⟩⟩)
   go_wp2_with (go_at_call 52;refine Fu.out.mono ?_;rintro e w16 ⟨A9,c9,rfl,F0⟩;have D7:=hid F0.out;clear F0;refine stop ?_)
   unfold Stop;have Gd:=hid (Ga.out.trans (D7.out.2.mono Ga.out.size));have Fw:=hid (y8b Gb.heap.size (.slice A9 Gq c9) Gq (z0h lt) w16 D7.out.1 (by have:=GJ.out;omega));have Du:=hid (z0r DF.out D7.out.2);clear g1 Jn Fu;go_wp2_with (go_at_call 58;refine Fw.out.mono ?_;rintro e w17 ⟨rfl,l9,FL,FO,FI,Df⟩;refine stop ?_)
   unfold Stop;have GL:∀ j,some j=(Value.slice A9 Gq c9).ownBlock->Gb.heap.size<=j:=fun j hj=>(x8a D7.out.1 hj.symm).1
   have G1:Hid (Blw w11 w17):=hid (Gd.out.trans (Df.toBelow Gd.out.size (fun j hj=>Nat.le_trans Ga.out.size (GL j hj))));have Dv:=hid (x7z Du.out Df (fun g hg e=>by
    have h1:=(x8a DF.out hg).2;have h2:=GL g e;omega))
   have D9:=hid (And.intro FL FO);have Fl:=hid FI;have Dz:=hid (y8b w14.heap.size (.slice A8 Gq c8) Gq ll w17 Dv.out (by have:=GJ.out;omega));have Fj:=hid GL;clear FL FO FI Df GL Fw Du;go_wp2_with (go_at_call 58;refine Dz.out.mono ?_;rintro e w18 ⟨rfl,l8,FK,FN,D4,DU⟩;refine stop ?_)
   unfold Stop;have GZ:∀ j,some j=(Value.slice A8 Gq c8).ownBlock->w14.heap.size<=j/\j < Gb.heap.size:=fun j hj=>x8a DF.out hj.symm
   have Gu:Hid (Blw w11 w18):=hid (G1.out.trans (DU.toBelow G1.out.size (fun j hj=>Nat.le_trans Gt.out.size (GZ j hj).1)));have Dw:=hid (x7z Fl.out DU (fun g hg e=>by
    have h1:=(GZ g e).2;have h2:=Fj.out g hg.symm;omega))
   have Jg:l8=l9:=w8r (n:=Gq) (D9.out.1.length_eq.trans GJ.out.2.1) (GJ.out.2.1 ▸ D9.out.2) (GJ.out.1 ▸ FN) (FK.trans (Jb.out.trans D9.out.1.symm));subst Jg;have FU:=hid (z7k A8 A9 Gq c8 c9 l8 w18.drew (z0c.of_own D4).drew (z0c.of_own Dw.out).drew (by have:=GJ.out;omega));have G7:=hid GF.out.lk;have Fh:=hid GF.out.ck;have Dq:=hid GF.out.h3;generalize hdQ lt=hd at Fh G7;clear FK FN D4 DU GZ Dz Dv Fl Dw D9 Fj;go_upto_region 38 with fail
   refine z0g (fun W=>Blw w11 W) 15 [] [(1,0),(1,1),(0,2),(1,3),(1,4),(1,5),(1,6),(1,7),(1,8),(1,9),(0,10),(0,11),(1,12),(1,13),(1,14)] (by kernel_rfl) (by kernel_rfl) Gu.out.drew ?_;refine tkG (.slice A8 Gq c8) ?_;refine tkG (.slice A9 Gq c9) ?_;refine z0b (by rfl) ?_;go_wp2_with (go_at_call 44;refine (FU.out).mono ?_;rintro e w19 ⟨rfl,D1⟩;have Gj:=hid (Gu.out.drew.trans (D1.mono Gu.out.drew.size));clear D1)
   refine ⟨Gj.out,?_⟩;refine tkG (.bool true) ?_;refine tkG (.pointer (some ⟨gc,0,none⟩)) ?_;refine tkG (.pointer (some ⟨gc,0,none⟩)) ?_;refine tkG (.pointer (some ⟨gc,3,none⟩)) ?_;refine tkH (.pointer (some ⟨dc,0,none⟩)) (fun w' hS=>?_) ?_
   ·have s0:=Dq.out w' hS
    go_simp
   refine tkG (.iface 59 (.pointer (some ⟨dc,0,none⟩))) ?_;refine tkG (.pointer (some ⟨gc,0,none⟩)) ?_;refine z0b (by rfl) ?_;go_wp2_with (go_at_call 33;refine (G7.out _ Gj.out).mono ?_;rintro e w20 ⟨rfl,D6⟩;have Gv:Hid (Blw w11 w20):=hid (by rw [D6];exact Gj.out.drew);clear D6)
   refine ⟨Gv.out,?_⟩;refine z0b (by rfl) ?_;go_wp2_with (go_at_call 59;refine (Fh.out _ Gv.out).mono ?_;rintro e w21 ⟨rfl,D2⟩;have Gw:=hid (Gv.out.trans (D2.mono Gv.out.size));clear D2)
   refine ⟨Gw.out,?_⟩;refine tkG (.bool true) ?_;refine tkG (.bool true) ?_;refine tkG (.bool true) ?_;show wpList _ _ _ _ _ _;simp only [List.drop_succ_cons,List.drop_zero];refine NoPanic.normal ?_;go_wp2_with fail
   go_ret;exact ⟨rfl,Gi.out.trans (Gw.out.mono Gi.out.size)⟩
end
end Go.Proofs.YtfkjjoglnmeciaaGreatDoor
