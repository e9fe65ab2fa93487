/- part 23 -/
import Derived.Test.YtmhbokcccjmfgaaGreatDoorQav
set_option maxRecDepth 100000
set_option maxHeartbeats 16000000
namespace Go.Proofs.YtmhbokcccjmfgaaGreatDoor
open Go.Lib (hid)
section
open Go.RowKit Go.Maps
theorem x4l:∀(n:Nat)(xs:List Nat)(l:List (List Nat×Nat)),decL n xs=some l->l.length=n/\∀p∈l,p.1.length<=16/\(∀b∈p.1,b<256)/\((∀x∈xs,x<18446744073709551616)->p.2<18446744073709551616)
 |0,xs,l,h=>by
  have h':some []=some l:=h;cases h';exact⟨rfl,fun p hp=>absurd hp (by simp)⟩
 |n+1,xs,l,h=>by
  unfold decL at h;cases hp:decP (xs.take 4)with
  |none =>
   rw[hp]at h;cases h
  |some p =>
   rw[hp]at h;have h2:(decL n (xs.drop 4)).map (p::·)=some l:=h;cases ht:decL n (xs.drop 4)with
   |none =>
    rw[ht]at h2;cases h2
   |some t =>
    rw[ht]at h2;have h3:p::t=l:=by
     injection h2
    subst h3;obtain⟨g1,g2⟩:=x4l n (xs.drop 4) t ht;refine⟨by rw[List.length_cons,g1],fun q hq=>?_⟩;rcases List.mem_cons.1 hq with rfl|hq
    ·unfold decP at hp
     cases hn:decN ((xs.take 4).take 3)with
     |none =>
      rw[hn]at hp;cases hp
     |some nm =>
      rw[hn]at hp;have h4:(nm,(xs.take 4).getD 3 0)=q:=by injection hp
      subst h4;unfold decN at hn;split at hn
      ·cases hn
      ·rename_i h16
       split at hn
       ·cases hn
       ·split at hn
        ·have h5:=Option.some.inj hn
         subst h5;refine⟨by rw[y1i];omega,fun b hb=>?_,fun hx=>?_⟩
         ·unfold unpB at hb
          obtain⟨i,_,rfl⟩:=List.mem_map.1 hb;exact Nat.mod_lt _ (by decide)
         ·show(xs.take 4).getD 3 0<_
          rw[List.getD_eq_getElem?_getD];cases he:(xs.take 4)[3]? with
          |none=>exact show(0:Nat)<18446744073709551616 by omega
          |some y=>exact hx y (List.mem_of_mem_take (List.mem_of_getElem? he))
        ·cases hn
    ·obtain⟨q1,q2,q3⟩:=g2 q hq
     exact⟨q1,q2,fun hx=>q3 (fun x hx'=>hx x (List.mem_of_mem_drop hx'))⟩
theorem y6j{xs l}(h:decA xs=some l):l.length<=8/\∀p∈l,p.1.length<=16/\(∀b∈p.1,b<256)/\((∀x∈xs,x<18446744073709551616)->p.2<18446744073709551616):=by
 unfold decA at h;split at h
 ·cases h
 ·rename_i h8
  split at h
  ·cases h
  ·obtain⟨g1,g2⟩:=x4l _ _ _ h
   refine⟨oM,fun p hp=>?_⟩;obtain⟨q1,q2,q3⟩:=g2 p hp;exact⟨q1,q2,fun hx=>q3 (fun x hx'=>hx x (List.mem_of_mem_drop hx'))⟩
theorem x0k l:(strN l).size=l.length:=by
 show(l.map UInt8.ofNat).toArray.size=_;simp
def rgR(cur:Nat->Nat)(chk:Nat->Nat)(p:Nat):Option (Nat×List (List Nat×Nat))×Nat :=
 if chk p≠0 then (none,12)else match decA (rgW cur (pOff p/8+1))with
  |none=>(none,11)
  |some l=>if sndP (cur (pOff p/8)) l=true then (some (cur (pOff p/8),l),0)else (none,11)
def y1k(w:World)(R:Option (Nat×List (List Nat×Nat))×Nat)(e:Ending)(w':World):Prop:=(match R.1 with
 |some q=>∃A m c,e=.returned (.tuple #[q.1,.slice A m c,()])/\m=q.2.length/\w'.ownsRow w 299 2 (.slice A m c) m (z0b q.2)
 |none=>e=.returned (.tuple #[[()],((),()),[R.2]]))/\Blw w w'
theorem y8h p w : (nilAhead 585 58 (.pointer (some p)) "Check").run Tryz.prog w=.ok (some false) w := by kernel_rfl
section
variable{a:DA}{L T s n K:Nat}{x:HA}{cs:Nat->CS}{f:Nat->Option Nat}{N m b0:Nat}{S:Fp}{cur:Nat->Nat}{w:World}{d r:Nat}
theorem y5a(h:SD a L T s n K x cs f N m b0 S cur w d r)(g p:Nat)(hg:Blk w g 202 #[p])(hp:p<18446744073709551616)(hr:chkR s K cs p 8=0->p≠0/\pOff p%8=0/\pOff p+272<=64*L):
  () 193 #[(g,()),.iface 58 (d,())] w (y1k w (rgR cur (fun q=>chkR s K cs q 8) p)):=by
 have Gh:Hid (∀W,Blw w W->() 379 #[(d,())] W fun e w'=>e=.returned ()/\W=w'):=hid (fun W hW=>errD (h.below hW).ds.dev (h.below hW).dir);have HC:Hid (∀W,Blw w W->() 378 #[(d,()),p,.int .u8 8] W fun e w'=>e=.returned [chkR s K cs p 8]/\Blw W w'):=hid (fun W hW=>w8c (h.below hW) p 8 hp (by decide));have HG:Hid (∀W,Blw w W->W.cell? (g,())=some ↑p):=hid (fun W hW=>(hg.below hW hg.lt).cell 0);have GF:=y4u (some (d,()));have GK:=z8u (some (d,()));have GL:=y2w (some (d,()));have GM:∀(fn:Fn)(first cap:Array Value)(w:World),(Instr.makeFunc fn first cap).run Tryz.prog w=.ok (.func fn first cap) w:=fun _ _ _ _=>rfl
 have GG:∀W,(binOp .eql 63 (.iface 58 (d,())) .nilIface).run Tryz.prog W=.ok false W:=fun W=>by rfl
 have GE:=y8h (d,());have GJ:=y1w (d,());have g0:w.cell? (g,())=some ↑p:=hg.cell 0;have Ge:Hid (rgR cur (fun q=>chkR s K cs q 8) p=if chkR s K cs p 8≠0 then (none,12)else match decA (rgW cur (pOff p/8+1))with
  |none=>(none,11)
  |some l=>if sndP (cur (pOff p/8)) l=true then (some (cur (pOff p/8),l),0)else (none,11)):=hid rfl
 have Gr:=hid h;have G0:=hid hr;generalize rgR cur (fun q=>chkR s K cs q 8) p=Y at*;generalize chkR s K cs p 8=ck at*;have Gt:Hid (Blw w w.drew):=hid (Below.refl _ _).drew;have Gw:=hid (Gh.out w (Below.refl _ _));clear h hg hr;go_enter Tryz.func193,Tryz.ntmps193
 go_upto_region 7 with (go_at_call 379;refine Gw.out.mono ?_;rintro e w1⟨rfl,rfl⟩)
 go_cut [33]from 24 to 33 (fun v wx=>v=↑(decide (ck=0))/\Hid (Blw w wx))
 case first =>
  refine z0e (fun w'=>w'.cell? (g,())=some ↑p) 10 [] [(1,0),(1,1),(1,2),(1,3),(1,4),(1,5),(1,6),(1,7),(0,8),(1,9)] (by kernel_rfl) (by kernel_rfl) g0 ?_;refine tkG (.iface 58 (d,())) ?_;refine tkG (g,()) ?_;refine tkG (g,()) ?_;refine tkG (g,()) ?_;refine tkG p ?_;refine tkH (.func (.method "Check") #[.iface 58 (d,())] #[]) (fun w' hS => ?_) ?_
  ·go_simp
  refine tkH (.func (.method "Check") #[.iface 58 (d,())] #[]) (fun w' hS => ?_) ?_
  ·go_simp
  refine tkG (.iface 58 (d,())) ?_;refine z0c (by rfl) ?_;go_wp2_with (go_at_call 378;refine(HC.out _ Gt.out).mono ?_;rintro e w2⟨rfl,G2⟩;have Gb:=hid (Gt.out.trans (G2.mono Gt.out.size));clear G2)
  refine⟨HG.out _ Gb.out,?_⟩;have Gd:((ck:Int)==0)=decide (ck=0):=by
   by_cases h:ck=0
   ·subst h;rfl
   ·rw[decide_eq_false h,beq_eq_false_iff_ne];omega
  refine tkG (decide (ck=0)) ?_;show wpList _ _ _ _ _ _;simp only[List.drop_succ_cons,List.drop_zero];refine NoPanic.normal ?_;go_wp2_with fail
  go_meet;exact⟨rfl,Gb⟩
 case rest =>
 obtain⟨rfl,Gb⟩:=hcut;clear g0 Gw HC GF GE;by_cases Gd:ck=0
 ·rw[decide_eq_true Gd]
  rw[if_neg (fun hn=>hn Gd)]at Ge;obtain⟨GH,G6,GI⟩:=G0.out Gd;have Gs:Hid (∀W,() 65 #[p,.int .i64 1] W fun e w'=>e=.returned (pOff p+8:Nat)/\W=w'):=hid (fun W=>by
   have h1:=y0d p 1 oM W;rw[show pAt p 1=pOff p+8 by unfold pAt;rw[if_neg oM]]at h1;exact h1)
  have Gv:Hid (∀W,() 65 #[p,()] W fun e w'=>e=.returned (pOff p)/\W=w'):=hid (fun W=>by
   have h1:=y0d p 0 oM W;rw[show pAt p 0=pOff p by unfold pAt;rw[if_neg oM];omega]at h1;exact h1)
  have Gj:Hid (∀W,Blw w W->() 254 #[.iface 58 (d,()),(pOff p+8:Nat),arI] W (w3x W (decA (rgW cur (pOff p/8+1))))):=hid (fun W hW=>by
   have h1:=w2s (Gr.out.below hW) (pOff p+8) oM oM;rw[show(pOff p+8)/8=pOff p/8+1 by omega]at h1;exact h1)
  have Gy:Hid (∀W,Blw w W->() 382 #[(d,()),(pOff p)] W fun e w'=>e=.returned (cur (pOff p/8))/\W=w'):=hid (fun W hW=>v0f (Gr.out.below hW).ds.dev (Gr.out.below hW).dir (pOff p) _ G6 oM rfl);have Gi:Hid (∀l,decA (rgW cur (pOff p/8+1))=some l->l.length<=8/\∀q∈l,(strN q.1).size<=9223372036854775807):=hid (fun l hl=>by
   obtain⟨g1,g2⟩:=y6j hl;exact⟨g1,fun q hq=>by rw[x0k];have:=(g2 q hq).1;omega⟩)
  generalize cur (pOff p/8)=st at*;generalize decA (rgW cur (pOff p/8+1))=R at*;generalize pOff p+8=o1 at Gs Gj;generalize pOff p=o0 at Gv Gy;clear Gd GH G6 GI G0 Gr;have GD:wc.cell? (g,())=some ↑p:=HG.out wc Gb.out;rcases R with _|l
  ·have HY:Hid (Y=(none,11)):=hid Ge.out
   have Gk:Hid (∀W,Blw w W->() 254 #[.iface 58 (d,()),o1,arI] W fun e w'=>e=.returned (.tuple #[((),()),.int .i64 11])/\Blw W w'):=Gj;clear Ge Gj;unfold arI at Gk;go_wp2_with (first
    |(go_at_call 65;refine(Gs.out _).mono ?_;rintro e w3⟨rfl,rfl⟩)
    |(go_at_call 202;refine(z4b wc).mono ?_;rintro e w4⟨rfl,Gl⟩;have Gc:=hid (Gb.out.trans (Gl.mono Gb.out.size));clear Gl)
    |(go_at_call 254;refine(Gk.out w4 Gc.out).mono ?_;rintro e w5⟨rfl,Gm⟩;have Gg:=hid (Gc.out.trans (Gm.mono Gc.out.size));clear Gm;have G9:=hid (Gh.out w5 Gg.out))
    |(go_at_call 379;refine G9.out.mono ?_;rintro e w6⟨rfl,rfl⟩))
   go_ret3
   unfold y1k;rw[HY.out];exact⟨rfl,Gg.out⟩
  ·obtain⟨G3,Gn⟩:=Gi.out l rfl
   have Gk:Hid (∀W,Blw w W->() 254 #[.iface 58 (d,()),o1,arI] W fun e w'=>(∃A m c,e=.returned (.tuple #[.slice A m c,()])/\m=l.length/\w'.ownsRow W.heap.size 299 2 (.slice A m c) m (z0b l))/\Blw W w'):=Gj;have Gq:Hid (Y=if sndP st l=true then (some (st,l),0)else (none,11)):=hid Ge.out;have G7:=hid Gn;have H8:=hid G3;clear Ge Gj Gi Gn G3;unfold arI at Gk;go_upto_region 11 with (first
    |(go_at_call 65;refine(Gs.out _).mono ?_;rintro e w3⟨rfl,rfl⟩)
    |(go_at_call 202;refine(z4b wc).mono ?_;rintro e w4⟨rfl,Gl⟩;have Gc:=hid (Gb.out.trans (Gl.mono Gb.out.size));clear Gl)
    |(go_at_call 254;refine(Gk.out w4 Gc.out).mono ?_;rintro e w5⟨⟨A5,m5,c5,rfl,G4,G5⟩,Gm⟩;have Gg:=hid (Gc.out.trans (Gm.mono Gc.out.size));have Gz:=hid G4;have GB:=hid (z2u G5 Gc.out.size);clear Gm G4 G5))
   have g5:=HG.out w5 Gg.out;have Ga:=hid Gg.out.drew;clear GD;refine z0e (fun w'=>w'=w5.drew) 11 [] [(1,0),(1,1),(1,2),(1,3),(1,4),(1,6),(1,7),(1,8),(0,5),(0,9),(1,10)] (by kernel_rfl) (by kernel_rfl) rfl ?_;refine tkG (.iface 58 (d,())) ?_;refine tkG (g,()) ?_;refine tkG (g,()) ?_;refine tkG (g,()) ?_;refine tkH p (fun w' hS=>?_) ?_
   ·subst hS
    go_simp
   refine tkH (.func (.method "Load") #[.iface 58 (d,())] #[]) (fun w' hS => ?_) ?_
   ·go_simp
   refine tkH (.func (.method "Load") #[.iface 58 (d,())] #[]) (fun w' hS => ?_) ?_
   ·go_simp
   refine tkG (.iface 58 (d,())) ?_;refine z0c (by rfl) ?_;go_wp2_with (go_at_call 65;refine(Gv.out _).mono ?_;rintro e w6⟨rfl,rfl⟩)
   refine⟨rfl,?_⟩;refine z0c (by rfl) ?_;go_wp2_with (go_at_call 382;refine(Gy.out _ Ga.out).mono ?_;rintro e w6⟨rfl,rfl⟩)
   refine⟨rfl,?_⟩;refine tkG st ?_;show wpList _ _ _ _ _ _;simp only[List.drop_succ_cons,List.drop_zero];refine NoPanic.normal ?_;have Gu:Hid (w5.drew.ownsRow w.heap.size 299 2 (.slice A5 m5 c5) m5 (z0b l)):=hid (z0r GB.out (Below.refl _ _).drew);have G1:=hid (x0h A5 m5 c5 st l w5.drew (z0d.of_own Gu.out) (z4p Gu.out).1 (by rw[Gz.out];exact H8.out) G7.out);have Gx:=hid (Gh.out w5.drew Ga.out);generalize sndP st l=ok at*;cases ok
   ·have HY:Hid (Y=(none,11)):=hid (by rw[Gq.out,if_neg (by decide)])
    clear Gq;go_wp2_with (first
     |(go_at_call 255;refine G1.out.mono ?_;rintro e w7⟨rfl,Gf⟩;have Gp:=hid (Ga.out.trans (Gf.mono Ga.out.size));clear Gf;have GA:=hid (Gh.out w7 Gp.out))
     |(go_at_call 379;first|refine Gx.out.mono ?_;rintro e w8⟨rfl,rfl⟩|refine GA.out.mono ?_;rintro e w8⟨rfl,rfl⟩))
    go_ret3
    unfold y1k;rw[HY.out];exact⟨rfl,Gp.out⟩
   ·have HY:Hid (Y=(some (st,l),0)):=hid (by rw[Gq.out,if_pos rfl])
    clear Gq;go_wp2_with (first
     |(go_at_call 255;refine G1.out.mono ?_;rintro e w7⟨rfl,Gf⟩;have Gp:=hid (Ga.out.trans (Gf.mono Ga.out.size));have GC:=hid (z0r Gu.out Gf);clear Gf)
     |(go_at_call 379;refine Gx.out.mono ?_;rintro e w8⟨rfl,rfl⟩))
    go_ret3
    unfold y1k;rw[HY.out];exact⟨⟨_,_,_,rfl,Gz.out,GC.out⟩,Gp.out⟩
 ·rw[decide_eq_false Gd]
  have HY:Hid (Y=(none,12)):=hid (by rw[Ge.out,if_pos Gd]);clear Ge Gd;have G8:=hid (Gh.out wc Gb.out);go_wp2_with (go_at_call 379;refine G8.out.mono ?_;rintro e w3⟨rfl,rfl⟩)
  go_ret3
  unfold y1k;rw[HY.out];exact⟨rfl,Gb.out⟩
end
end
section
open Go.RowKit Go.Maps
structure RgOk(R:Option (Nat×List (List Nat×Nat))×Nat):Prop where
 none_:R.1=none->R.2≠0
 some_:∀q,R.1=some q->q.1<=4611686018427387903/\q.2.length<=8/\(∀p∈q.2,p.1.length<=16/\(∀b∈p.1,b<256)/\p.2<=q.1)/\sndP q.1 q.2=true
theorem w3a{st}:∀{pre l:List (List Nat×Nat)},sndS st pre l=true->∀p∈l,p.2<=st
 |_,[],_,p,hp=>absurd hp (by simp)
 |pre,x::t,h,p,hp=>by
  unfold sndS at h;rw[Bool.and_eq_true,Bool.and_eq_true,Bool.and_eq_true]at h;rcases List.mem_cons.1 hp with rfl|hp
  ·exact of_decide_eq_true h.1.2.1
  ·exact w3a h.2 p hp
theorem rgOk(cur:Nat->Nat)(chk:Nat->Nat) p:RgOk (rgR cur chk p):=by
 unfold rgR;by_cases h:chk p≠0
 ·rw[if_pos h]
  refine⟨fun _=>?_,fun q hq=>?_⟩
  ·exact(by decide:(12:Nat)≠0)
  ·cases hq
 ·rw[if_neg h]
  cases hl:decA (rgW cur (pOff p/8+1))with
  |none =>
   refine⟨fun _=>?_,fun q hq=>?_⟩
   ·exact(by decide:(11:Nat)≠0)
   ·cases hq
  |some l =>
   show RgOk (if sndP (cur (pOff p/8)) l=true then (some (cur (pOff p/8),l),0)else (none,11));by_cases hs:sndP (cur (pOff p/8)) l=true
   ·rw[if_pos hs]
    refine⟨fun hn=>(by cases hn),fun q hq=>?_⟩;have Gb:(cur (pOff p/8),l)=q:=by injection hq
    subst Gb;obtain⟨g1,g2⟩:=y6j hl;have Ga:=hs;unfold sndP at Ga;rw[Bool.and_eq_true]at Ga;exact⟨of_decide_eq_true Ga.1,g1,fun p hp=>⟨(g2 p hp).1,(g2 p hp).2.1,w3a Ga.2 p hp⟩,hs⟩
   ·rw[if_neg hs]
    refine⟨fun _=>?_,fun q hq=>?_⟩
    ·exact(by decide:(11:Nat)≠0)
    ·cases hq
abbrev RdC(rv sv:Value)(w:World)(R:Option (Nat×List (List Nat×Nat))×Nat):Prop:=() 193 #[rv,sv] w (y1k w R)
def stpR(R:Option (Nat×List (List Nat×Nat))×Nat):Nat:=match R.1 with
 |some q=>q.1
 |none=>0
def getR(s:ByteArray)(R:Option (Nat×List (List Nat×Nat))×Nat):Nat×Nat:=match R.1 with
 |some q=>if fndS s 0 q.2<0 then (0,5)else ((q.2.getD (fndS s 0 q.2).toNat ([],0)).2,0)
 |none=>(0,R.2)
def minL(m:Nat)(l:List (List Nat×Nat)):Nat:=l.foldl (fun m p=>min m p.2) m
theorem y9u m (l:List (List Nat×Nat)) k (h:k<l.length):minL m (l.take (k+1))=min (minL m (l.take k)) (l[k]).2:=by
 unfold minL;rw[List.take_succ_eq_append_getElem h,List.foldl_append];rfl
def oldR(R:Option (Nat×List (List Nat×Nat))×Nat):Nat:=match R.1 with
 |some q=>minL q.1 q.2
 |none=>0
section
variable{R:Option (Nat×List (List Nat×Nat))×Nat}{rv sv:Value}{w:World}
theorem x0i(h:RdC rv sv w R):() 98 #[rv,sv] w fun e w'=>e=.returned (stpR R)/\Blw w w':=by
 have H:=hid h;clear h;obtain⟨R1,c⟩:=R;rcases R1 with _|⟨st,l⟩
 ·have H2:Hid (() 193 #[rv,sv] w fun e w'=>e=.returned (.tuple #[[()],((),()),[c]])/\Blw w w'):=H
  clear H;go_enter Tryz.func98,Tryz.ntmps98
  go_wp2_with (go_at_call 193;refine H2.out.mono ?_;rintro e w1⟨rfl,Ga⟩;have Gb:=hid Ga;clear Ga)
  go_ret;exact⟨rfl,Gb.out⟩
 ·have H2:Hid (() 193 #[rv,sv] w fun e w'=>(∃A m c,e=.returned (.tuple #[st,.slice A m c,()])/\m=l.length/\w'.ownsRow w 299 2 (.slice A m c) m (z0b l))/\Blw w w'):=H
  clear H;go_enter Tryz.func98,Tryz.ntmps98
  go_wp2_with (go_at_call 193;refine H2.out.mono ?_;rintro e w1⟨⟨A1,m1,c1,rfl,_,_⟩,Ga⟩;have Gb:=hid Ga;clear Ga)
  go_ret;exact⟨rfl,Gb.out⟩
theorem v0b(h:RdC rv sv w R)(hok:RgOk R) s:() 109 #[rv,sv,.string s] w fun e w'=>e=.returned (.tuple #[.int .u64 ((getR s R).1:Int),.int .i64 ((getR s R).2:Int)])/\Blw w w':=by
 have H:=hid h;clear h;obtain⟨R1,c⟩:=R;rcases R1 with _|⟨st,l⟩
 ·have H2:Hid (() 193 #[rv,sv] w fun e w'=>e=.returned (.tuple #[[()],((),()),[c]])/\Blw w w'):=H
  have hc:c≠0:=hok.none_ rfl;have d0:((c:Int) != 0)=true:=by rw[bne,beq_eq_false_iff_ne.2 oM];rfl
  clear H hok hc;go_enter Tryz.func109,Tryz.ntmps109
  go_wp2_with (go_at_call 193;refine H2.out.mono ?_;rintro e w1⟨rfl,Gb⟩;have Gc:=hid Gb;clear Gb)
  go_ret2;exact⟨rfl,Gc.out⟩
 ·have H2:Hid (() 193 #[rv,sv] w fun e w'=>(∃A m c,e=.returned (.tuple #[st,.slice A m c,()])/\m=l.length/\w'.ownsRow w 299 2 (.slice A m c) m (z0b l))/\Blw w w'):=H
  have Gk:=(hok.some_ (st,l) rfl).2.1;have Gn:Hid (l.length<=8):=hid Gk;have Gg:=hid (z9h s 0 l);have Ga:Hid (getR s (some (st,l),c)=if fndS s 0 l<0 then (0,5)else ((l.getD (fndS s 0 l).toNat ([],0)).2,0)):=hid rfl;generalize getR s (some (st,l),c)=Y at*;have Gf:=hid (fun (A:Option Addr) (n c':Nat) (W:World) (hr:z0d W W 2 A n (z0b l)) (hn:n<=100000)=>z4w A n c' l s W hr hn);obtain⟨fi,Gj⟩:∃fi,fndS s 0 l=fi:=⟨_,rfl⟩
  rw[Gj]at Gf Gg Ga;clear H hok Gk Gj;go_enter Tryz.func109,Tryz.ntmps109
  go_upto_region 5 with (first
   |(go_at_call 193;refine H2.out.mono ?_;rintro e w1⟨⟨A1,m1,c1,rfl,Gl,Gm⟩,Gb⟩;have Gc:=hid Gb;have Gh:=hid Gl;have Gi:=hid Gm;clear Gb Gl Gm)
   |(go_at_call 197;refine(Gf.out A1 m1 c1 w1 (z0d.of_own Gi.out) (by rw[Gh.out];have:=Gn.out;omega)).mono ?_;rintro e w2⟨rfl,Gd⟩;have Ge:=hid (Gc.out.trans (Gd.mono Gc.out.size));have Gp:=hid (z0r Gi.out Gd);clear Gd))
  by_cases hf:fi<0
  ·have HY:Hid (Y=(0,5)):=hid (by rw[Ga.out,if_pos hf])
   clear Ga;go_wp2_with fail
   go_ret2;rw[HY.out];exact⟨rfl,Ge.out⟩
  ·obtain⟨j,hj⟩:∃j:Nat,fi=(j:Int):=⟨fi.toNat,oM⟩
   subst hj;have Gr:=Gg.out.2.1;have Gt:j<l.length:=oM;have HY:Hid (Y=((l.getD j ([],0)).2,0)):=hid (by rw[Ga.out,if_neg hf,Int.toNat_natCast]);have hm:=Gh.out;obtain⟨Gs,gb,go,Gq,_,f0,f1⟩:=z2a (z0d.of_own Gp.out) (k:=j) oM;have Gu:(0:Int)<=(j:Int):=oM;have Gv:(j:Int)<(m1:Int):=oM;subst Gq;have HE:Hid (l.getD j ([],0)=l[j]):=hid (by rw[List.getD_eq_getElem?_getD,List.getElem?_eq_getElem Gs];rfl);clear hf Gr hm Ga;go_wp2_with fail
   go_ret2;rw[HY.out,HE.out];exact⟨rfl,Ge.out⟩
theorem y4y(h:RdC rv sv w R)(hok:RgOk R):() 102 #[rv,sv] w fun e w'=>e=.returned (oldR R)/\Blw w w':=by
 have H:=hid h;clear h;obtain⟨R1,c⟩:=R;rcases R1 with _|⟨st,l⟩
 ·have H2:Hid (() 193 #[rv,sv] w fun e w'=>e=.returned (.tuple #[[()],((),()),[c]])/\Blw w w'):=H
  clear H hok;go_enter Tryz.func102,Tryz.ntmps102
  go_upto_region 2 with (go_at_call 193;refine H2.out.mono ?_;rintro e w1⟨rfl,Gd⟩;have Ge:=hid Gd;clear Gd)
  go_wp2_with fail
  refine wp_loop_rounds 1 ?_;rw[rounds_succ];go_wp2_with fail
  go_ret;exact⟨rfl,Ge.out⟩
 ·have H2:Hid (() 193 #[rv,sv] w fun e w'=>(∃A m c,e=.returned (.tuple #[st,.slice A m c,()])/\m=l.length/\w'.ownsRow w 299 2 (.slice A m c) m (z0b l))/\Blw w w'):=H
  have Gi:=(hok.some_ (st,l) rfl).2.1;have Gl:Hid (l.length<=8):=hid Gi;have Gn:Hid (oldR (some (st,l),c)=minL st l):=hid rfl;generalize oldR (some (st,l),c)=Y at*;clear H hok Gi;go_enter Tryz.func102,Tryz.ntmps102
  go_upto_region 2 with (go_at_call 193;refine H2.out.mono ?_;rintro e w1⟨⟨A1,m1,c1,rfl,Gj,Gk⟩,Gd⟩;have Ge:=hid Gd;have Gg:=hid Gj;have Gm:=hid Gk;clear Gd Gj Gk)
  have Gf:Hid (Blw w1 w1):=hid (Below.refl _ _);have Gp:=hid (z0d.of_own Gm.out);have Gs:m1<=8:=by rw[Gg.out];exact Gl.out
  go_wp2_with fail
  go_loopw [5,19] (fun v i wr=>∃k:Nat,k<=m1/\i=↑[k]/\v=↑(minL st (l.take k))/\Hid (Blw w1 wr)) (fun _ i _=>m1-(Go.RowKit.intOf i).toNat)
  case atStart=>exact⟨0,Nat.zero_le _,rfl,rfl,Gf⟩
  case round =>
   clear Gf;obtain⟨k,hk,rfl,rfl,HB⟩:=hrel;by_cases hlt:k<m1
   ·obtain⟨Gh,gb,go,Gq,_,f0,f1⟩:=z2a ((Gp.out.below HB.out).more HB.out.size) (k:=k) hlt
    subst Gq;have Ga:=hid (y9u st l k Gh);generalize l[k]=p at*;obtain⟨pn,pv⟩:=p;dsimp only at f0 f1 Ga;have Gt:(0:Int)<=(k:Int):=oM;have Gu:(k:Int)<(m1:Int):=oM;have Gc:Hid (Blw w1 (wr.alloc (.cells #[.string (strN pn),pv] 299))):=hid (HB.out.alloc HB.out.size _);generalize minL st (l.take k)=mm at*;clear Gh;by_cases hmp:mm<=pv
    ·have Gr:(mm:Int)<=(pv:Int):=oM
     have Gb:Hid (minL st (l.take (k+1))=mm):=hid (by rw[Ga.out,Nat.min_eq_left hmp]);clear hmp Ga;go_wp2_with fail
     go_roundw
     case rel =>
      first
       |exact⟨k+1,oM,by go_num,by rw[Gb.out];first|done|rfl|(congr 1;omega),Gc⟩
       |(
         repeat apply Exists.intro
         refine⟨?_,rfl⟩;exact⟨k+1,oM,by go_num,by rw[Gb.out];first|done|rfl|(congr 1;omega),Gc⟩)
     case measure=>simp[Go.RowKit.intOf];omega
    ·have Gr:(pv:Int)<(mm:Int):=oM
     have Gb:Hid (minL st (l.take (k+1))=pv):=hid (by rw[Ga.out,Nat.min_eq_right oM]);clear hmp Ga;go_wp2_with fail
     go_roundw
     case rel =>
      first
       |exact⟨k+1,oM,by go_num,by rw[Gb.out];first|done|rfl|(congr 1;omega),Gc⟩
       |(
         repeat apply Exists.intro
         refine⟨?_,rfl⟩;exact⟨k+1,oM,by go_num,by rw[Gb.out];first|done|rfl|(congr 1;omega),Gc⟩)
     case measure=>simp[Go.RowKit.intOf];omega
   ·obtain rfl:k=m1:=oM
    have HT:Hid (l.take k=l):=hid (List.take_of_length_le (by rw[<- Gg.out];exact nL _));go_wp2_with fail
    go_ret;rw[Gn.out];exact⟨by rw[HT.out];rfl,Ge.out.trans (HB.out.mono Ge.out.size)⟩
end
end
section
open Go.RowKit Go.Maps
theorem w6j{w:World}{b:Nat}{t:TypeId}{sz n c m:Nat}{A:Option Addr}{xs:List Value}(h:w.ownsRow b t sz (.slice A n c) m xs):A=none->n=0/\c=0:=by
 intro hA;subst hA;rcases h.2 with ⟨h1,_⟩|⟨g,cap,cur,h1,_⟩
 ·cases h1
  exact⟨rfl,rfl⟩
 ·cases h1
def flW(cur:Nat->Nat)(us:List (Nat×Nat)):List (Nat×Nat):=us.filter fun u=>decide (cur (u.1/8)≠u.2)
theorem x4q(cur:Nat->Nat)(us:List (Nat×Nat))(k:Nat)(h:k<us.length):flW cur (us.take (k+1))=if cur (us[k].1/8)≠us[k].2 then flW cur (us.take k)++[us[k]]else flW cur (us.take k):=by
 unfold flW;rw[List.take_succ_eq_append_getElem h,List.filter_append];by_cases e:cur (us[k].1/8)≠us[k].2
 ·rw[if_pos e,List.filter_cons_of_pos (by simpa using e)]
  rfl
 ·rw[if_neg e,List.filter_cons_of_neg (by simpa using e)]
  simp
theorem x2j(cur:Nat->Nat) us:(flW cur us).length<=us.length:=List.length_filter_le _ _
theorem z8w off xs:(plOf off xs).length=33:=by simp[plOf]
section
variable{a:DA}{L T s n K:Nat}{x:HA}{cs:Nat->CS}{f:Nat->Option Nat}{N m b0:Nat}{S:Fp}{cur:Nat->Nat}{w w':World}{d r:Nat}
def x6b(a:DA)(L T s n K:Nat)(x:HA)(cs:Nat->CS)(f:Nat->Option Nat)(N m b0:Nat)(S:Fp)(cur:Nat->Nat)(w:World)(d r:Nat)(us:List (Nat×Nat))(e:Ending)(w':World):Prop :=
 ∃cm S',e=.returned ()/\cm<18446744073709551616/\SD a L (T+800) s n K x cs f N m b0 S' (rdG 0 cur us cm) w' d r/\Chg (sfp S x) w w'/\Grew S S' w
theorem z6a.words{us e}(h:z6a a L T s n K x cs f N m b0 S cur w d r us [] [] 0 e w'):x6b a L T s n K x cs f N m b0 S cur w d r us e w':=by
 obtain⟨ks,V,cm,S',h1,h2,h3,h4,h5,h6,h7,h8⟩:=h;have hk:ks=[]:=by
  apply List.eq_nil_iff_forall_not_mem.2;intro k hk;have:=((h3 k).1 hk).2;simp[tlOf,dlOf]at this
 subst hk;have Ga:acC cs [] (tlOf s cs []) (dlOf s cs []) V=cs:=by
  funext k
  unfold acC;rw[if_neg (by simp)]
 rw[Ga]at h6;rw[List.flatMap_nil,List.append_nil]at h6;exact⟨cm,S',h1,h4,h6,h7,h8⟩
theorem UOk.filter{us}(h:UOk L 0 s K cs us)(p:Nat×Nat->Bool):UOk L 0 s K cs (us.filter p) :=
 ⟨fun e he=>h.off e (List.mem_filter.1 he).1,fun e he=>h.val e (List.mem_filter.1 he).1,fun e he=>h.free e (List.mem_filter.1 he).1,List.Nodup.sublist (List.Sublist.map _ List.filter_sublist) h.nd⟩
theorem x5j(h:SD a L T s n K x cs f N m b0 S cur w d r)(hK12:K<=12)(g p:Nat)(hg:Blk w g 202 #[p])(hp0:p≠0)(h8:pOff p%8=0)(hL:pOff p+272<=64*L)(hpo:pOff p<=900000)(A:Option Addr)(k0 c0:Nat)(l:List (List Nat×Nat))(hr:z0d w w 2 A k0 (z0b l))(hn:k0<=8)(hl:∀p∈l,p.1.length<=16/\∀b∈p.1,b<256)(hu:UOk L 0 s K cs (plOf (pOff p+8) (encA l)))(hT:T+800<=1000000000)(hN:N<=1000000000):
  () 198 #[(g,()),.iface 58 (d,()),.slice A k0 c0] w (x6b a L T s n K x cs f N m b0 S cur w d r (flW cur (plOf (pOff p+8) (encA l)))):=by
 have GB:Hid (∀W,() 65 #[p,.int .i64 1] W fun e w'=>e=.returned (pOff p+8:Nat)/\W=w'):=hid (fun W=>by
  have h1:=y0d p 1 oM W;rw[show pAt p 1=pOff p+8 by unfold pAt;rw[if_neg oM]]at h1;exact h1)
 have G2:Hid (∀W,Blw w W->() 260 #[(pOff p+8:Nat),arI,.slice A k0 c0] W (x9g W (plOf (pOff p+8) (encA l)))):=hid (fun W hW=>x0c (pOff p+8) A k0 c0 l W oM oM ((hr.below hW).more hW.size) hn hl);have GF:Hid (∀W,Blw w W->∀o,o%8=0->o<64*L->() 382 #[(d,()),o] W fun e w'=>e=.returned (cur (o/8))/\W=w'):=hid (fun W hW o h1 h2=>v0f (h.below hW).ds.dev (h.below hW).dir o _ h1 h2 rfl);have GJ:Hid (∀(W:World)(A0:Option Addr)(n0 c0:Nat),Blw w W->z0d W W 2 A0 n0 (z0a (flW cur (plOf (pOff p+8) (encA l))))->(A0=none->n0=0/\c0=0)->() 99 #[(d,()),.slice A0 n0 c0,((),()),((),())] W (x6b a L T s n K x cs f N m b0 S cur w d r (flW cur (plOf (pOff p+8) (encA l))))):=hid (fun W A0 n0 c0 hW h0 h00=>by
  have h1:=y7b (h.below hW) hK12 A0 none none n0 c0 0 0 0 0 (flW cur (plOf (pOff p+8) (encA l))) [] [] h0 h00 ⟨rfl,fun h=>absurd h (Nat.lt_irrefl 0)⟩ ⟨rfl,fun h=>absurd h (Nat.lt_irrefl 0)⟩ (fun ad h=>by cases h) (fun p hp=>absurd hp (by simp)) (fun p hp=>absurd hp (by simp)) (by simp) (hu.filter _) (by have:=x2j cur (plOf (pOff p+8) (encA l));rw[z8w]at this;simp;omega) hT oM;exact h1.mono (fun e w' h=>(z6a.back hW h).words))
 have GE:Hid (∀W S' T' cur',SD a L T' s n K x cs f N m b0 S' cur' W d r->() 379 #[(d,())] W fun e w'=>e=.returned ()/\W=w'):=hid (fun W S' T' cur' h=>errD h.ds.dev h.dir);have GH:Hid (∀k (hk:k<33),∃o v:Nat,(plOf (pOff p+8) (encA l))[k]?=some (o,v)/\o%8=0/\o<64*L):=hid (fun k hk=>by
  refine⟨pOff p+8+8*k,(encA l).getD k 0,?_,oM,oM⟩;unfold plOf;rw[List.getElem?_map,List.getElem?_range hk];rfl)
 have G3:Hid ((plOf (pOff p+8) (encA l)).length=33):=hid (z8w _ _);have g0:w.cell? (g,())=some ↑p:=hg.cell 0;have GV:=z6h (some (d,()));have GT:=z8u (some (d,()));have GU:=y2w (some (d,()));generalize plOf (pOff p+8) (encA l)=us at*;generalize pOff p+8=o1 at*;obtain⟨i0,GN,GO,GP,GQ⟩:=info_parts z1l;clear h hg hr hl hu h8 hL hpo;unfold arI at G2;go_enter Tryz.func198,Tryz.ntmps198
 go_upto_region 4 with (first
  |(go_at_call 65;refine(GB.out _).mono ?_;rintro e w3⟨rfl,rfl⟩)
  |(go_at_call 202;refine(z4b w).mono ?_;rintro e w4⟨rfl,G5⟩;have Gh:=hid G5;clear G5)
  |(go_at_call 260;refine(G2.out w4 Gh.out).mono ?_;rintro e w5⟨gq,GS,rfl,G7,G6⟩;have Gi:=hid (Gh.out.trans (G6.mono Gh.out.size));have Gt:=hid G7;clear G6 G7))
 have Gs:Hid (w.heap.size<=w5.heap.size):=hid Gi.out.size;have Gy:Hid (w5.ownsRow w5 117 2 ((),()) 0 (z0a (flW cur (us.take 0)))):=World.ownsRow_nil _ _ _ _;have Gp:Hid (Blw w5 w5):=hid (Below.refl _ _);clear g0;go_wp2_with fail
 go_loopw [9,30] (fun l i wr=>∃(k:Nat)(A:Option Addr)(q c:Nat),k<=33/\i=↑[k]/\l=.slice A q c/\q<=k/\Hid (q=(flW cur (us.take k)).length)/\Hid (wr.ownsRow w5 117 2 (.slice A q c) q (z0a (flW cur (us.take k))))/\Hid (Blw w5 wr)) (fun _ i _=>33-(Go.RowKit.intOf i).toNat)
 case atStart=>exact⟨0,_,_,_,Nat.zero_le _,rfl,rfl,nL _,rfl,Gy,Gp⟩
 case round =>
  clear Gy Gp;obtain⟨k,A1,q,c1,hk,rfl,rfl,GW,Gj,HO,H2⟩:=hrel;by_cases hlt:k<33
  ·have Gf:k<us.length:=by rw[G3.out];exact hlt
   obtain⟨o,v,GA,G8,G9⟩:=GH.out k hlt;have Gg:us[k]=(o,v):=Option.some.inj ((List.getElem?_eq_getElem Gf).symm.trans GA);have Gc:=hid (x4q cur us k Gf);rw[Gg]at Gc;have GX:(0:Int)<=(k:Int):=oM;have GY:(k:Int)<33:=oM;have Gu:=hid (Gt.out.below H2.out Gt.out.lt);have d0:wr.cell? (gq,k*2)=some ↑o:=by
    rw[Gu.out.cell];have h1:=(z2v us k Gf).1;rw[Gg]at h1;unfold wrA;rw[List.getElem?_toArray];exact h1
   have d1:wr.cell? (gq,k*2+1)=some ↑v:=by
    rw[Gu.out.cell];have h1:=(z2v us k Gf).2;rw[Gg]at h1;unfold wrA;rw[List.getElem?_toArray];exact h1
   have GG:Hid (∀W,Blw w5 W->() 382 #[(d,()),o] W fun e w'=>e=.returned (cur (o/8))/\W=w'):=hid (fun W hW=>GF.out W (Gi.out.trans (hW.mono Gs.out)) o G8 G9);generalize cur (o/8)=y at*;clear GA Gg Gf G8 G9;obtain⟨W7,Ge⟩:∃W7,wr.alloc (.cells #[o,v] 117)=W7:=⟨_,rfl⟩
   have Gn:Blk W7 wr 117 #[o,v]:=by rw[<- Ge];exact Blk.new _ _ _
   have G1:Hid (W7.ownsRow w5 117 2 (.slice A1 q c1) q (z0a (flW cur (us.take k)))):=hid (by rw[<- Ge];exact HO.out.alloc _);have Gr:Hid (Blw w5 W7):=hid (by rw[<- Ge];exact H2.out.alloc H2.out.size _);have GM:=hid Ge;have Ga:Hid (Blw w5 W7.drew):=hid Gr.out.drew;have Gl:Hid (W7.drew.ownsRow w5 117 2 (.slice A1 q c1) q (z0a (flW cur (us.take k)))):=hid (z0r G1.out (Below.refl _ _).drew);have s1:W7.drew.cell? (wr,())=some ↑o:=Gn.cell 0;have s2:W7.drew.cell? ⟨wr.heap.size,1,none⟩=some ↑v:=Gn.cell 1;have GR:=y1w (d,());obtain⟨b,hb⟩:∃b,((y:Int) != (v:Int))=b:=⟨_,rfl⟩
   have Gm:Hid (flW cur (us.take (k+1))=if b=true then flW cur (us.take k)++[(o,v)]else flW cur (us.take k)):=hid (by
    rw[Gc.out,<- hb];by_cases e:y=v
    ·subst e
     simp
    ·rw[if_pos e,if_pos (by rw[bne_iff_ne];omega)])
   clear Ge Gn Gc G1 Gr;go_upto_region 8 with fail
   rw[GM.out];refine z0e (fun w'=>w'=W7.drew) 7 [] [(1,0),(1,1),(1,2),(1,4),(1,5),(0,3),(1,6)] (by kernel_rfl) (by kernel_rfl) rfl ?_;refine tkG (.iface 58 (d,())) ?_;refine tkG (wr,()) ?_;refine tkH o (fun w' hS=>?_) ?_
   ·subst hS
    go_simp
   refine tkG (.pointer (some ⟨wr.heap.size,1,none⟩)) ?_;refine tkH v (fun w' hS=>?_) ?_
   ·subst hS
    go_simp
   refine z0c (by rfl) ?_;go_wp2_with (go_at_call 382;refine(GG.out _ Ga.out).mono ?_;rintro e w6⟨rfl,rfl⟩)
   refine⟨rfl,?_⟩;refine tkG b ?_;show wpList _ _ _ _ _ _;simp only[List.drop_succ_cons,List.drop_zero];refine NoPanic.normal ?_;cases b
   ·have Gb:=Gj.out
    have Gk:=Gl.out;rw[<- (Gm.out.trans (if_neg (by decide)))]at Gb Gk;have Gd:=hid Gb;have Gz:=hid Gk;clear Gb Gk;go_wp2_with fail
    go_roundw
    case rel =>
     first
      |exact⟨k+1,_,_,_,oM,by go_num,rfl,oM,Gd,Gz,Ga⟩
      |(
        repeat apply Exists.intro
        refine⟨?_,rfl⟩;exact⟨k+1,_,_,_,oM,by go_num,rfl,oM,Gd,Gz,Ga⟩)
    case measure=>simp[Go.RowKit.intOf];omega
   ·have Gc:=hid (Gm.out.trans (if_pos rfl))
    clear Gm;have Gw:=hid Ga.out.size;obtain⟨W8,G4⟩:∃W8,W7.drew=W8:=⟨_,rfl⟩
    rw[G4]at Ga Gl s1 s2 Gw⊢;clear G4;go_wp2_with (at_builtin;refine stop ?_)
    unfold Stop;have GL:=hid (z0j W8 _ rfl [o,v] 1 2 117 _ rfl rfl);refine z0m _ (.tmp 41) (.tmp 43) 118 rfl rfl w5 117 i0 _ 2 16 Tryz.underlying118 GN GO GP GQ rfl oM (.slice A1 q c1) q (z0a (flW cur (us.take k))) rfl (Gl.out.alloc _) (W8.heap.size+1) (some (W8,())) 1 1 [o,v] rfl GL.out (z2k _ _) (by unfold maxLen;omega) oM (by have:=Gw.out;simp;omega) ?_;intro A3 n3 c3 w8 hn3 ho3 hg3 hb3;have G0:Hid (w8.ownsRow w5 117 2 (.slice A3 n3 c3) n3 (z0a (flW cur (us.take (k+1))))):=hid (by rw[Gc.out,z1o];exact ho3);have Gq:=hid ((Ga.out.alloc Ga.out.size _).trans hb3);have b1:n3<=q+1:=oM;have b2:q+1<=n3:=oM;have Gv:Hid (q+1=(flW cur (us.take (k+1))).length):=hid (by rw[Gc.out,List.length_append,<- Gj.out];simp);have Gx:Hid (n3=q+1):=hid oM;clear hn3 ho3 hg3 hb3;go_wp2_with fail
    go_roundw
    case rel =>
     first
      |exact⟨k+1,_,_,_,oM,by go_num,rfl,oM,hid (Gx.out.trans Gv.out),G0,Gq⟩
      |(
        repeat apply Exists.intro
        refine⟨?_,rfl⟩;exact⟨k+1,_,_,_,oM,by go_num,rfl,oM,hid (Gx.out.trans Gv.out),G0,Gq⟩)
    case measure=>simp[Go.RowKit.intOf];omega
  ·obtain rfl:k=33:=oM
   have HT:=Gj.out;have h0:=HO.out;rw[List.take_of_length_le (by rw[G3.out];exact nL _)]at HT h0;have GC:=hid (Gi.out.trans (H2.out.mono Gs.out));have GK:=hid (GJ.out wr A1 q c1 GC.out (z0d.of_own h0) (w6j h0));clear hlt HT h0;go_wp2_with (first
    |(go_at_call 99;refine GK.out.mono ?_;rintro e w6 h6;have GI:=hid h6;obtain⟨cm,S',rfl,q1,q2,q3,q4⟩:=h6;have GD:=hid (GE.out w6 _ _ _ q2);clear q1 q2 q3 q4)
    |(go_at_call 379;refine GD.out.mono ?_;rintro e w7⟨rfl,rfl⟩))
   go_ret;obtain⟨cm,S',q0,q1,q2,q3,q4⟩:=GI.out;exact⟨cm,S',rfl,q1,q2,q3,q4⟩
end
end
section
open Go.RowKit Go.Maps
section
variable{a:DA}{L T n K:Nat}{x:HA}{cs cs2:Nat->CS}{f f2:Nat->Option Nat}{N m b0:Nat}{S:Fp}{cur cur2:Nat->Nat}{w:World}{ks keep free:List Nat}{V:Nat->Nat}{cm d r:Nat}
theorem v1m(h:SD a L T 53 n K x cs f N m b0 S cur w d r):¬sfp S x w:=by
 rintro (e|e)
 ·exact Nat.lt_irrefl _ (h.ds.dev.lt _ e)
 ·have h1:=h.lo
  have h2:=h1.pl;have h3:=h1.mr;have h4:=h1.mh;have e':w.heap.size=x.pl\/w.heap.size=x.mr\/w.heap.size=x.mh:=e;omega
variable{y:WA}
end
end
section
open Go.RowKit Go.Maps
structure VV where
 st:Nat
 dl:Bool
 q:Nat
 bl:List Nat
 p:List Nat
section
variable{K:Nat}{cs cs':Nat->CS}{cur cur':Nat->Nat}{v:VV}{older:Nat}
end
section
variable{a:DA}{L T n K:Nat}{x:HA}{cs0 cs cs' cs2:Nat->CS}{f0 f f2:Nat->Option Nat}{N m b0:Nat}{S:Fp}{cur0 cur cur' cur2:Nat->Nat}{w:World}{al p bl ks:List Nat}{V:Nat->Nat}{cm i:Nat}
theorem w2n(hd:DS a L T 53 n K x cs2 f2 N m b0 S cur2 w){v q kind c l}(hA:AOk 53 K cs2 ks (tlOf 53 cs2 bl) (dlOf 53 cs2 []) V)(hks:∀k,k∈ks↔k<K/\(tlOf 53 cs2 bl k≠[]\/dlOf 53 cs2 [] k≠[]))
  (h96:([(3328+8*i,v)]++ks.flatMap (acW 53 cs2 (tlOf 53 cs2 bl) (dlOf 53 cs2 []) V)).length<=96) (hi:i<8) (hr:Rq 53 K cs2 f2 kind q c) (hq:q∈bl) (h128:kind<128) (hl:l.length<=payW c) (hw:z2l cur2 q l) :
  (∃k i2,x5y 53 K (acC cs2 ks (tlOf 53 cs2 bl) (dlOf 53 cs2 []) V) q kind k i2/\(acC cs2 ks (tlOf 53 cs2 bl) (dlOf 53 cs2 []) V k).cl=c)/\z2l (rdG 0 cur2 ([(3328+8*i,v)]++ks.flatMap (acW 53 cs2 (tlOf 53 cs2 bl) (dlOf 53 cs2 []) V)) cm) q l:=by
 obtain⟨k,i2,h1,h2,h3⟩:=w6y hA hks hr hq h128;obtain⟨_,e2,_⟩:=x4c cs2 ks (tlOf 53 cs2 bl) (dlOf 53 cs2 []) V k;refine⟨⟨k,i2,h1,by rw[e2,h2]⟩,fun y hy=>?_⟩;have h5:=hw y hy;have Ga:=h3.lines.1;rw[Ga]at h5⊢;refine(v1h hd oM hA h96 h3.1 h3.2.1 h3.2.2.1 (by rw[h2];omega) (fun e he=>?_)).trans h5;simp at he;subst he;show(3328+8*i)/8≠_;omega
theorem w6z(hd:DS a L T 53 n K x cs2 f2 N m b0 S cur2 w){v}(hA:AOk 53 K cs2 ks (tlOf 53 cs2 bl) (dlOf 53 cs2 []) V)(hi:i<8)(hv:v<18446744073709551616):rdG 0 cur2 ([(3328+8*i,v)]++ks.flatMap (acW 53 cs2 (tlOf 53 cs2 bl) (dlOf 53 cs2 []) V)) cm (416+i)=v:=by
 have hu:=w1q hd i v hi hv;have h:=y7c (cur:=cur2) (cm:=cm) (y7a hd oM hu hA) (y2z hu hA) (e:=(3328+8*i,v)) (by simp);have e:(3328+8*i)/8=416+i:=oM;rw[<- e];exact h
end
end
section
open Go.RowKit Go.Maps Go.Shelf
theorem y8b A n c ws w (h:z0d w w 2 A n (z0a ws)) (hn:n<=1000) :
  () 190 #[.slice A n c] w (RetU w (fun ys=>ys=ws.map (·.1))):=by
 obtain⟨i0,Gk,Gm,Gn,Gp⟩:=info_parts z7r;have Gi:ws.length=n:=by have:=h.1;rw[z1a]at this;omega
 have HR:=hid h;have Ge:Hid (w.ownsRow w 32 1 ((),()) 0 (z0g ((ws.take 0).map (·.1)))):=World.ownsRow_nil _ _ _ _;have Gb:=hid (Below.refl w w);have Ga:=hid Gi;clear h Gi;go_enter Tryz.func190,Tryz.ntmps190
 go_wp2;go_loopw [3,8] (fun l i wr=>∃(k:Nat)(A:Option Addr)(m c:Nat),k<=n/\i=↑[k]/\l=.slice A m c/\m<=k/\k<=m/\Hid (wr.ownsRow w 32 1 (.slice A m c) m (z0g ((ws.take k).map (·.1))))/\Hid (Blw w wr)) (fun _ i _=>n-(RowKit.intOf i).toNat)
 case atStart=>exact⟨0,_,_,_,Nat.zero_le _,rfl,rfl,nL _,nL _,Ge,Gb⟩
 case round =>
  clear Ge Gb;obtain⟨k,A1,m,c1,hk,rfl,rfl,Gs,Gt,HO,H⟩:=hrel;by_cases hlt:k<n
  ·have Gl:k<ws.length:=by have:=Ga.out;omega
   have Gu:(k:Int)<(n:Int):=oM;have Gh:=HR.out.below H.out;obtain⟨_,b,Gv,rfl,Gq,f1,f2⟩:=z3a Gh hlt;have Gj:=hid (x0m ws k Gl);generalize ws[k]=e at*;have Gd:=hid H.out.size;clear Gh;go_wp2_with (at_builtin;refine stop ?_)
   unfold Stop;have Gg:=hid (z0j (wr.alloc (.cells #[e.1,e.2] 117)) _ rfl [e.1] 1 1 32 _ rfl rfl);rw[World.size_alloc]at Gg;refine z0m _ (.tmp 12) (.tmp 15) 107 rfl rfl w 32 i0 _ 1 8 Tryz.underlying107 Gk Gm Gn Gp rfl oM (.slice A1 m c1) m (z0g ((ws.take k).map (·.1))) rfl ((HO.out.alloc _).alloc _) (wr.heap.size+1+1) (some (wr.heap.size+1,0)) 1 1 [e.1] rfl Gg.out (by intro u hu;simp at hu;subst hu;rfl) (by unfold maxLen;omega) oM (by have:=Gd.out;simp;omega) ?_;intro A3 n3 c3 w8 hn3 ho3 hg3 hb3;have Gf:Hid (w8.ownsRow w 32 1 (.slice A3 n3 c3) n3 (z0g ((ws.take (k+1)).map (·.1)))):=hid (by rw[Gj.out,List.map_append];simpa[z0g] using ho3);have Gc:=hid (((H.out.alloc H.out.size _).alloc (by have:=Gd.out;simp;omega) _).trans hb3);have b1:n3<=k+1:=oM;have b2:k+1<=n3:=oM;clear hn3 ho3 hg3 hb3;go_wp2;go_roundw
   case rel =>
    first
     |exact⟨k+1,_,_,_,oM,by go_num,rfl,b1,b2,Gf,Gc⟩
     |(
       repeat apply Exists.intro
       refine⟨?_,rfl⟩;exact⟨k+1,_,_,_,oM,by go_num,rfl,b1,b2,Gf,Gc⟩)
   case measure=>simp[RowKit.intOf];omega
  ·have Gr:k=n:=oM
   go_wp2;go_ret;have h:=HO.out;rw[List.take_of_length_le (by have:=Ga.out;omega)]at h;exact⟨_,_,_,_,rfl,rfl,by have:=Ga.out;simp;omega,h,H.out⟩
structure x0w(c:YCX)(ws:List (Nat×Nat)):Prop where
 off:∀e∈ws,z3e c.L c.s1 26 e.1
 val:∀e∈ws,e.2<18446744073709551616
 few:ws.length<=100
theorem x0w.ok{c ws}(h:x0w c ws)(h0:ws≠[]):x8z c.L c.s1 26 ws:=⟨h.off,h.val,h.few,h0⟩
def YrbC(s:Nat)(cur:Nat->Nat)(ws:List (Nat×Nat)):Nat->Nat:=if ws=[]then cur else wrS (wrS cur ws) [(64*s,0)]
def YcmC(s:Nat)(cur:Nat->Nat)(ws:List (Nat×Nat)):Nat->Nat:=if ws=[]then cur else wrS cur [(64*s,0)]
theorem y3s{c T w S cur}(h:Dev c.a c.L T w S cur 0) g (hB:Blk w g 258 (z0s c.a c.s1 26)) ws (hl:LogU cur c.s1 ws) (hw:x0w c ws) (hT:T+240<=1000000000) :
  () 167 #[(g,0)] w (z0x c.a c.L (T+240) w S (YrbC c.s1 cur ws) 0 ()):=by
 unfold YrbC;by_cases h0:ws=[]
 ·rw[if_pos h0]
  subst h0;refine(y7g h g c.s1 26 hB (by have:=c.hpl;omega) (by have:=c.hpl;omega) oM hl.count).mono ?_;rintro e w'⟨rfl,hb⟩;exact z0x.of_below h oM hT hb
 ·rw[if_neg h0]
  exact y7f h g c.s1 26 hB (by have:=c.hpl;omega) (by have:=c.hpl;omega) ws hl (hw.ok h0) hT
theorem w4h{s cur ws}(hl:LogU cur s ws):LogU (YrbC s cur ws) s []:=by
 refine LogU.none ?_;unfold YrbC;by_cases h0:ws=[]
 ·rw[if_pos h0]
  subst h0;exact hl.count
 ·rw[if_neg h0]
  simp[wrS,upd];intro h;omega
theorem x4a{a L T w S cur}(h:Dev a L T w S cur 0) A c base (ho:w.ownsRow base 225 3 (.slice A 0 c) 0 (z0h [])) (hb:∀k,S k->k<base) (hT:T<=1000000000) :
  () 46 #[.slice A 0 c,memV a] w (z0x a L T w S cur 0 ()) :=
 z6k h A 0 c [] (z0d.of_own ho) (z7v ho hb) ⟨rfl,fun _ _ h=>h⟩ oM oM
theorem w4i(w:World)(b:Nat):w.ownsRow b 225 3 ((),()) 0 (z0h []):=World.ownsRow_nil _ _ _ _
theorem y1r{a L T w S cur F}(h:Dev a L T w S cur F) g s n (hB:Blk w g 258 (z0s a s n)) (hs:s<L) (hn:2<=n) (hn2:n<=4096) (h0:cur (8*s)=0) :
  () 207 #[(g,0)] w fun e w'=>e=.returned (.tuple #[((),()),()])/\Blw w w':=by
 have HP:=hid (y4s h g s n hB hs hn hn2 h0);clear h hB;go_enter Tryz.func207,Tryz.ntmps207
 go_wp2_with fail
 refine HP.out.mono ?_;rintro e w1⟨rfl,h1⟩;have H1:=hid h1;clear h1;go_wp2;go_ret2;exact⟨rfl,H1.out⟩
theorem y7x{a L T w S cur}(h:Dev a L T w S cur 0) g s n (hB:Blk w g 258 (z0s a s n)) (hs:s<L) (hn:2<=n) (hn2:n<=4096) (h0:cur (8*s)=0) (hT:T<=1000000000) :
  () 191 #[(g,())] w (z0x a L T w S cur 0 ()):=by
 have HP:=hid (y1r h g s n hB hs hn hn2 h0);have HR:Hid (∀W,Blw w W->() 46 #[((),()),memV a] W (z0x a L T W S cur 0 ())):=hid (fun W hW=>x4a (h.below hW) none 0 w.heap.size (w4i W _) h.lt hT);have HB:=hid hB;clear h hB;go_enter Tryz.func191,Tryz.ntmps191
 go_wp2_with fail
 refine HP.out.mono ?_;rintro e w1⟨rfl,h1⟩;have H1:=hid h1;have k0:w1.cell? (g,())=some (memV a):=(HB.out.below h1 HB.out.lt).cell 0;clear h1;go_wp2_with fail
 refine(HR.out w1 H1.out).mono ?_;rintro e w2⟨rfl,h2⟩;have H2:=hid h2;clear h2;go_wp2;go_ret;exact z0x.back H1.out ⟨rfl,H2.out⟩
theorem y7w{c T w S cur}(h:Dev c.a c.L T w S cur 0) g (hB:Blk w g 258 (z0s c.a c.s1 26)) ws (hl:LogU cur c.s1 ws) (hw:x0w c ws) (hT:T+240<=1000000000) :
  () 191 #[(g,0)] w (z0x c.a c.L (T+240) w S (YcmC c.s1 cur ws) 0 ()):=by
 unfold YcmC;by_cases h0:ws=[]
 ·rw[if_pos h0]
  subst h0;refine(y7x h g c.s1 26 hB (by have:=c.hpl;omega) (by have:=c.hpl;omega) oM hl.count oM).mono ?_;rintro e w'⟨he,S',hd,hc,hg⟩;exact⟨he,S',hd.more oM hT,hc,hg⟩
 ·rw[if_neg h0]
  exact x2g h g c.s1 26 hB (by have:=c.hpl;omega) (by have:=c.hpl;omega) ws hl (hw.ok h0) hT
theorem YTxS.moreT{c g w S t D n cur T T'}(h:YTxS c g w S t D n cur T)(hT:T<=T')(hT':T'<=1000000000):YTxS c g w S t D n cur T' :=
 { h with base:={ h.base with dev:=h.base.dev.more hT hT' } }
def YStI(c:YCX)(g:Nat)(W w:World)(S:Fp)(t:TX)(D:DataW Unit)(n:Nat)(cur:Nat->Nat)(T:Nat):Prop:=∃S',YTxS c g w S' t D n cur T/\Chg S W w/\Grew S S' W
theorem YStI.step{c g W w w' S t D n cur cur' T T' v e S1}(hx:YTxS c g w S1 t D n cur T)(hc:Chg S W w)(hg:Grew S S1 W)(hr:z0x c.a c.L T' w S1 cur' 0 v e w'):e=.returned v/\YStI c g W w' S t D n cur' T':=by
 obtain⟨he,S2,Gc,Ga,Gb⟩:=hx.step hr;exact⟨he,S2,Gc,hc.trans Ga hg,hg.trans Gb hc.size⟩
theorem YStI.below{c g W w w' S t D n cur T}(h:YStI c g W w S t D n cur T)(hb:Blw w w'):YStI c g W w' S t D n cur T:=by
 obtain⟨S',hx,hc,hg⟩:=h;exact⟨S',hx.more_ hb,hc.below hb,hg⟩
end
section
open Go.RowKit Go.Maps
def nxtR(p:Nat)(R:Option (Nat×List (List Nat×Nat))×Nat):Nat×List (Nat×Nat):=match R.1 with
 |some q=>if q.1=4611686018427387903 then (0,[])else (q.1+1,[(pOff p,q.1+1)])
 |none=>(0,[])
def w3w(w:World)(Y:Nat×List (Nat×Nat))(e:Ending)(w':World):Prop:=(match Y.2 with
 |[]=>e=.returned (.tuple #[Y.1,((),())])
 |u::_=>∃g:Nat,w<=g/\e=.returned (.tuple #[Y.1,(g,0,1,1)])/\Blk w' g 117 #[u.1,u.2])/\Blw w w'
section
variable{R:Option (Nat×List (List Nat×Nat))×Nat}{rv sv:Value}{w:World}
theorem y9v(g p:Nat)(h:RdC (g,()) sv w R)(hok:RgOk R)(hg:Blk w g 202 #[p])(hs:R.1≠none)(hp:p≠0):() 97 #[(g,()),sv] w (w3w w (nxtR p R)):=by
 have H:=hid h;clear h;obtain⟨R1,c⟩:=R;rcases R1 with _|⟨st,l⟩
 ·exact absurd rfl hs
 ·have H2:Hid (() 193 #[(g,()),sv] w fun e w'=>(∃A m c,e=.returned (.tuple #[st,.slice A m c,()])/\m=l.length/\w'.ownsRow w 299 2 (.slice A m c) m (z0b l))/\Blw w w'):=H
  have Gc:st<=4611686018427387903:=(hok.some_ (st,l) rfl).1;have Gb:Hid (∀W,() 65 #[p,()] W fun e w'=>e=.returned (pOff p)/\W=w'):=hid (fun W=>by
   have h1:=y0d p 0 oM W;rw[show pAt p 0=pOff p by unfold pAt;rw[if_neg oM];omega]at h1;exact h1)
  have HG:Hid (∀W,Blw w W->W.cell? (g,())=some ↑p):=hid (fun W hW=>(hg.below hW hg.lt).cell 0);have HY:Hid (nxtR p (some (st,l),c)=if st=4611686018427387903 then (0,[])else (st+1,[(pOff p,st+1)])):=hid rfl;generalize nxtR p (some (st,l),c)=Y at*;generalize pOff p=o at*;have hz:(st:Int)<=4611686018427387903:=oM;clear H hok hg hs;go_enter Tryz.func97,Tryz.ntmps97
  go_upto_region 2 with (go_at_call 193;refine H2.out.mono ?_;rintro e w1⟨⟨A1,m1,c1,rfl,_,_⟩,hb1⟩;have Ga:=hid hb1;clear hb1)
  by_cases he:st=4611686018427387903
  ·rw[if_pos he]at HY
   have d1:((st:Int)==4611686018427387903)=true:=beq_iff_eq.2 oM;go_wp2_with fail
   go_ret2;rw[HY.out];exact⟨rfl,Ga.out⟩
  ·rw[if_neg he]at HY
   have d1:((st:Int)==4611686018427387903)=false:=beq_eq_false_iff_ne.2 oM;have g1:=HG.out w1 Ga.out;go_upto_region 4 with fail
   have hw:IntKind.u64.wrap ((st:Int)+1)=(st:Int)+1:=by rw[IntKind.wrap_u64];omega
   go_wp2_with (go_at_call 65;refine(Gb.out _).mono ?_;rintro e w6⟨rfl,rfl⟩)
   go_ret2;rw[HY.out];refine⟨⟨w1.heap.size,Ga.out.size,rfl,?_⟩,Ga.out.alloc Ga.out.size _⟩;exact Blk.new _ _ _
end
end
section
open Go.RowKit Go.Maps
theorem w5g{l}(hl:l.length<=16)(hb:∀b∈l,b<256):∀v∈encN l,v<18446744073709551616:=fun v hv=>by
 unfold encN at hv;rcases List.mem_cons.1 hv with rfl|hv
 ·omega
 ·rcases List.mem_append.1 hv with hv|hv
  ·exact w6m hb v hv
  ·have:=List.eq_of_mem_replicate hv
   omega
theorem y0v{l}(h8:l.length<=8)(h:∀p∈l,p.1.length<=16/\(∀b∈p.1,b<256)/\p.2<18446744073709551616):∀v∈encA l,v<18446744073709551616:=fun v hv=>by
 unfold encA wrk at hv;rcases List.mem_cons.1 hv with rfl|hv
 ·omega
 ·rcases List.mem_append.1 hv with hv|hv
  ·rw[List.take_of_length_le (nL _)]at hv
   obtain⟨p,hp,hv⟩:=List.mem_flatMap.1 hv;obtain⟨h1,h2,h3⟩:=h p hp;unfold encP at hv;rcases List.mem_append.1 hv with hv|hv
   ·exact w5g h1 h2 v hv
   ·have:=List.mem_singleton.1 hv
    omega
  ·have:=List.eq_of_mem_replicate hv
   omega
theorem y2r:∀(l:List (List Nat×Nat))(k:Nat)(p:List Nat×Nat),k<l.length->((z0b l).set (k*2) (.string (strN p.1))).set (k*2+1) p.2=z0b (l.set k p)
 |x::l,0,p,_=>rfl
 |x::l,k+1,p,h=>by
  have ih:=y2r l k p (by simpa using h);have e:z0b (x::l)=.string (strN x.1):: .int .u64 x.2::z0b l:=rfl;rw[e,show(k+1)*2=k*2+1+1 by omega];simp only[List.set_cons_succ];rw[ih];rfl
def z3i(s:ByteArray)(l:List (List Nat×Nat)):List (List Nat×Nat):=(l.set (fndS s 0 l).toNat (l.getD (l.length-1) ([],0))).take (l.length-1)
def drpR(s:ByteArray)(R:Option (Nat×List (List Nat×Nat))×Nat):Nat×List (List Nat×Nat):=match R.1 with
 |some q=>if fndS s 0 q.2<0 then (5,[])else (0,z3i s q.2)
 |none=>(R.2,[])
theorem w0n{s l}(h:0<l.length):∀p∈z3i s l,p∈l:=fun p hp=>by
 unfold z3i at hp;rcases List.mem_or_eq_of_mem_set (List.mem_of_mem_take hp)with h1|h1
 ·exact h1
 ·rw[h1,List.getD_eq_getElem?_getD,List.getElem?_eq_getElem oM]
  exact List.getElem_mem _
structure w3r(L s K:Nat)(cs:Nat->CS)(p:Nat):Prop where
 ne:p≠0
 al:pOff p%8=0
 inl:pOff p+272<=64*L
 le:pOff p<=900000
 uok:∀xs:List Nat,(∀v∈xs,v<18446744073709551616)->UOk L 0 s K cs (plOf (pOff p+8) xs)
section
variable{R:Option (Nat×List (List Nat×Nat))×Nat}{rv sv:Value}{w:World}
theorem x4n(h:RdC rv sv w R)(hok:RgOk R) s (he:(drpR s R).1≠0):() 106 #[rv,sv,.string s] w fun e w'=>e=.returned (.int .i64 ((drpR s R).1:Int))/\Blw w w':=by
 have H:=hid h;clear h;obtain⟨R1,c⟩:=R;rcases R1 with _|⟨st,l⟩
 ·have H2:Hid (() 193 #[rv,sv] w fun e w'=>e=.returned (.tuple #[[()],((),()),[c]])/\Blw w w'):=H
  have hc:c≠0:=hok.none_ rfl;have d0:((c:Int) != 0)=true:=by rw[bne,beq_eq_false_iff_ne.2 oM];rfl
  clear H hok hc he;go_enter Tryz.func106,Tryz.ntmps106
  go_wp2_with (go_at_call 193;refine H2.out.mono ?_;rintro e w1⟨rfl,Ga⟩;have Gb:=hid Ga;clear Ga)
  go_ret;exact⟨rfl,Gb.out⟩
 ·have H2:Hid (() 193 #[rv,sv] w fun e w'=>(∃A m c,e=.returned (.tuple #[st,.slice A m c,()])/\m=l.length/\w'.ownsRow w 299 2 (.slice A m c) m (z0b l))/\Blw w w'):=H
  have Gd:=(hok.some_ (st,l) rfl).2.1;have Gi:Hid (l.length<=8):=hid Gd;have hf:fndS s 0 l<0:=by
   have h1:(if fndS s 0 l<0 then (5,[])else (0,z3i s l)).1≠0:=he;by_cases h2:fndS s 0 l<0
   ·exact h2
   ·rw[if_neg h2]at h1
    exact absurd rfl h1
  have HY:Hid (drpR s (some (st,l),c)=(5,[])):=hid (show(if fndS s 0 l<0 then (5,[])else (0,z3i s l))=_ by rw[if_pos hf]);generalize drpR s (some (st,l),c)=Y at*;have Gh:=hid (fun (A:Option Addr) (n c':Nat) (W:World) (hr:z0d W W 2 A n (z0b l)) (hn:n<=100000)=>z4w A n c' l s W hr hn);generalize fndS s 0 l=fi at*;clear H hok Gd he;go_enter Tryz.func106,Tryz.ntmps106
  go_wp2_with (first
   |(go_at_call 193;refine H2.out.mono ?_;rintro e w1⟨⟨A1,m1,c1,rfl,Ge,Gf⟩,Ga⟩;have Gb:=hid Ga;have Gj:=hid Ge;have Gk:=hid Gf;clear Ga Ge Gf)
   |(go_at_call 197;refine(Gh.out A1 m1 c1 w1 (z0d.of_own Gk.out) (by rw[Gj.out];have:=Gi.out;omega)).mono ?_;rintro e w2⟨rfl,Gc⟩;have Gg:=hid (Gb.out.trans (Gc.mono Gb.out.size));clear Gc))
  go_ret;rw[HY.out];exact⟨rfl,Gg.out⟩
end
section
variable{sv:Value}{ty:TypeId}{d:Nat}{w w':World}
theorem x4o(P:World->Prop)(g:Nat)(st:Nat)(l:List (List Nat×Nat))(hrd:RdC (g,()) sv w (some (st,l),0))(hok:RgOk (some (st,l),0))(nm:ByteArray)(hf:¬fndS nm 0 l<0)
  (hpb:∀(W:World)(A:Option Addr)(k0 c0:Nat),Blw w W->z0d W W.heap.size 2 A k0 (z0b (z3i nm l))->k0<=8->(z3i nm l).length<=8->(∀p∈z3i nm l,p.1.length<=16/\(∀b∈p.1,b<256)/\p.2<18446744073709551616)->() 198 #[(g,()),sv,.slice A k0 c0] W fun e w'=>e=.returned ()/\P w') :
  () 106 #[(g,()),sv,.string nm] w fun e w'=>e=.returned ()/\P w':=by
 have H2:Hid (() 193 #[(g,()),sv] w fun e w'=>(∃A m c,e=.returned (.tuple #[st,.slice A m c,()])/\m=l.length/\w'.ownsRow w.heap.size 299 2 (.slice A m c) m (z0b l))/\Blw w w'):=hid hrd;obtain⟨Gs,Gn,Gp,_⟩:=hok.some_ (st,l) rfl;have Gb:l.length<=8:=Gn;have G3:=(z9h nm 0 l).2.1;obtain⟨i,hi⟩:∃i:Nat,fndS nm 0 l=(i:Int):=⟨(fndS nm 0 l).toNat,oM⟩
 have Gf:i<l.length:=oM;have hlast:l.length-1<l.length:=Nat.sub_lt (Nat.lt_of_le_of_lt (Nat.zero_le _) Gf) Nat.one_pos;have Gh:=hid (fun (A:Option Addr) (n c':Nat) (W:World) (hr:z0d W W.heap.size 2 A n (z0b l)) (hn:n<=100000)=>z4w A n c' l nm W hr hn);have HD:Hid (z3i nm l=(l.set i (l[l.length-1]'hlast)).take (l.length-1)):=hid (by
  unfold z3i;rw[hi,Int.toNat_natCast,List.getD_eq_getElem?_getD,List.getElem?_eq_getElem hlast];rfl)
 have G2:∀p∈z3i nm l,p.1.length<=16/\(∀b∈p.1,b<256)/\p.2<18446744073709551616:=fun p hp=>by
  obtain⟨q1,q2,q3⟩:=Gp p (w0n (s:=nm) (l:=l) (Nat.lt_of_le_of_lt (Nat.zero_le _) Gf) p hp);have:p.2<=st:=q3;have:st<=4611686018427387903:=Gs;exact⟨q1,q2,oM⟩
 have G1:(z3i nm l).length<=8:=by
  rw[HD.out,List.length_take,List.length_set];omega
 have Gl:=hid (fun W A k0 c0 hW hr hk0=>hpb W A k0 c0 hW hr hk0 G1 G2);rw[hi]at Gh;have Gi:=hid (And.intro Gf Gb);clear hpb hrd hok Gs Gn Gb Gp G3 hi hf;go_enter Tryz.func106,Tryz.ntmps106
 have G5:(0:Int)<=(i:Int):=oM;go_upto_region 7 with (first
  |(go_at_call 193;refine H2.out.mono ?_;rintro e w1⟨⟨A1,m1,c1,rfl,Gq,Gr⟩,hb1⟩;have Gg:=hid hb1;have Gj:=hid Gq;have Gk:=hid Gr;clear hb1 Gq Gr)
  |(go_at_call 197;refine(Gh.out A1 m1 c1 w1 (z0d.of_own Gk.out) (by rw[Gj.out];have:=Gi.out;omega)).mono ?_;rintro e w2⟨rfl,Gd⟩;have Gt:=hid (Gg.out.trans (Gd.mono Gg.out.size));have Ga:=hid (z0r Gk.out Gd);clear Gd))
 have Gc:=Gi.out;have Gm:=Gj.out;obtain⟨j,rfl⟩:∃j,m1=j+1:=⟨m1-1,oM⟩
 obtain⟨_,gb,go,Gz,_,f0,f1⟩:=z2a (z0d.of_own Ga.out) (k:=i) oM;subst Gz;obtain⟨G9,G7,G8,G0,_,f2,f3⟩:=z2a (z0d.of_own Ga.out) (k:=j) oM;cases G0;obtain⟨G4,Ge⟩:go=0/\w.heap.size<=gb:=by
  rcases Ga.out.2 with ⟨h1,_⟩|⟨_,_,_,h1,h2,_⟩
  ·cases h1
  ·cases h1
   exact⟨rfl,h2⟩
 subst G4;rw[Nat.zero_add]at f0 f1 f2 f3;have Gv:Hid (z3i nm l=(l.set i l[j]).take j):=hid (by
  rw[HD.out];have e:l.length-1=j:=oM;simp only[e])
 generalize l[j]=q at*;have Gw:Hid (((w2.setCell (gb,i*2) (.string (strN q.1))).setCell (gb,i*2+1) q.2).ownsRow w.heap.size 299 2 (.slice (some (gb,())) (j+1) c1) (j+1) (z0b (l.set i q))):=hid (by
  have h1:=((Ga.out.stored (i*2) (.string (strN q.1))).1.stored (i*2+1) q.2).1;rw[y2r l i q Gc.1]at h1;exact h1)
 have Gu:Hid (Blw w ((w2.setCell (gb,i*2) (.string (strN q.1))).setCell (gb,i*2+1) q.2)):=hid ((Gt.out.setCell (p:=⟨gb,i*2,none⟩) Ge _).setCell (p:=⟨gb,i*2+1,none⟩) Ge _);have z0:w2.frozen? (gb,i*2)=false:=Ga.out.frozenAt _;have z1:w2.frozen? (gb,i*2+1)=false:=Ga.out.frozenAt _;have G6:(i:Int)<(j:Int)+1:=oM;have GA:(0:Int)<=(j:Int):=oM;have GB:(j:Int)<=7:=oM;have GC:(j:Int)+1<=(c1:Int):=by have:=(z4p Ga.out).1;omega
 generalize l[i]=u0 at*;have HJ:=hid (And.intro Gc Gm);clear HD Gc Gm Ge hlast;go_upto_region 8 with fail
 generalize (w2.setCell (gb,i*2) (.string (strN q.1))).setCell (gb,i*2+1) q.2=w3 at*;have Gy:=hid (Gl.out w3 (some (gb,())) j c1 Gu.out (by
  have h1:=z0d.of_own (v1a Gw.out (m:=j) oM);rw[z6g _ _ (by rw[List.length_set];have:=HJ.out;omega),<- Gv.out]at h1;exact h1) oM)
 clear f0 f1 f2 f3 z0 z1 Gl G5 G6;have GD:(j:Int)<=(c1:Int):=oM;go_wp2_with (go_at_call 198;refine Gy.out.mono ?_;rintro e w4 h4;have Gx:=hid h4;obtain⟨rfl,q1⟩:=h4;clear q1)
 go_ret;exact⟨rfl,Gx.out.2⟩
end
section
variable{a:DA}{L T s n K:Nat}{x:HA}{cs:Nat->CS}{f:Nat->Option Nat}{N m b0:Nat}{S:Fp}{cur:Nat->Nat}{w w':World}{d r:Nat}
theorem w9u(h:SD a L T s n K x cs f N m b0 S cur w d r)(hK12:K<=12)(g p:Nat)(hg:Blk w g 202 #[p])(hP:w3r L s K cs p)(st:Nat)(l:List (List Nat×Nat))(hrd:RdC (g,()) (.iface 58 (d,())) w (some (st,l),0))(hok:RgOk (some (st,l),0))(nm:ByteArray)(hf:¬fndS nm 0 l<0)(hT:T+800<=1000000000)(hN:N<=1000000000):
  () 106 #[(g,()),.iface 58 (d,()),.string nm] w (x6b a L T s n K x cs f N m b0 S cur w d r (flW cur (plOf (pOff p+8) (encA (z3i nm l))))):=by
 refine(x4o (fun w'=>∃cm S',cm<18446744073709551616/\SD a L (T+800) s n K x cs f N m b0 S' (rdG 0 cur (flW cur (plOf (pOff p+8) (encA (z3i nm l)))) cm) w' d r/\Chg (sfp S x) w w'/\Grew S S' w) g st l hrd hok nm hf (fun W A k0 c0 hW hr hk0 hDl hDm=>?_)).mono ?_
 ·refine(x5j (h.below hW) hK12 g p (hg.below hW hg.lt) hP.ne hP.al hP.inl hP.le A k0 c0 (z3i nm l) hr hk0 (fun p hp=>⟨(hDm p hp).1,(hDm p hp).2.1⟩) (hP.uok _ (y0v hDl hDm)) hT hN).mono ?_
  rintro e w'⟨cm,S',q0,q1,q2,q3,q4⟩;exact⟨q0,cm,S',q1,q2,(Chg.of_below hW).trans q3 (fun j hj => .inl hj),fun k hk=>(q4 k hk).imp id (fun h=>Nat.le_trans hW.size h)⟩
 ·rintro e w'⟨he,cm,S',q1,q2,q3,q4⟩
  exact⟨cm,S',he,q1,q2,q3,q4⟩
end
end
section
open Go.RowKit Go.Maps
theorem x4f n:allZ (List.replicate n 0)=true:=by
 unfold allZ;rw[List.all_eq_true];intro x hx;rw[List.eq_of_mem_replicate hx];rfl
theorem w5b{l}(hl:l.length<=16)(hb:∀b∈l,b<256):decN (encN l)=some l:=by
 have h1:=z4g l;have e1:(encN l).headD 0=l.length:=rfl;have e2:((encN l).drop 1).take ((l.length+7)/8)=z3r l:=by
  show(z3r l++List.replicate (2-(z3r l).length) 0).take ((l.length+7)/8)=z3r l;rw[<- h1,List.take_left' rfl]
 have e3:(encN l).drop (1+(l.length+7)/8)=List.replicate (2-(z3r l).length) 0:=by
  rw[Nat.add_comm 1];show(z3r l++List.replicate (2-(z3r l).length) 0).drop ((l.length+7)/8)=_;rw[<- h1,List.drop_left' rfl]
 unfold decN;rw[e1,if_neg oM,e2,x3s hb,if_neg (by decide),e3,x4f,if_pos rfl,w3k hb]
theorem w5c{p}(hl:p.1.length<=16)(hb:∀b∈p.1,b<256):decP (encP p)=some p:=by
 have h3:=y0w hl;unfold decP encP;rw[List.take_left' h3,w5b hl hb];have e:(encN p.1++[p.2]).getD 3 0=p.2:=by
  rw[List.getD_eq_getElem?_getD,List.getElem?_append_right oM,h3];rfl
 rw[e];rfl
theorem x4k:∀(l:List (List Nat×Nat))(ys:List Nat),(∀p∈l,p.1.length<=16/\∀b∈p.1,b<256)->decL l.length (l.flatMap encP++ys)=some l
 |[],_,_=>rfl
 |p::t,ys,h=>by
  have h4:=y0x (h p (by simp)).1;have ih:=x4k t ys (fun q hq=>h q (by simp[hq]));rw[List.length_cons,decL];rw[List.flatMap_cons,List.append_assoc,List.take_left' h4,List.drop_left' h4,w5c (h p (by simp)).1 (h p (by simp)).2,ih];rfl
theorem y6i{l}(h8:l.length<=8)(h:∀p∈l,p.1.length<=16/\∀b∈p.1,b<256):decA (encA l)=some l:=by
 have hf:=y0y (l:=l) (fun p hp=>(h p hp).1);have ee:encA l=l.length::(l.flatMap encP++List.replicate (32-4*l.length) 0):=by
  unfold encA wrk;rw[List.take_of_length_le (nL _)]
 have e1:(encA l).headD 0=l.length:=by rw[ee];rfl
 have e2:(encA l).drop (1+l.length*4)=List.replicate (32-4*l.length) 0:=by
  rw[ee,Nat.add_comm 1,List.drop_succ_cons,List.drop_left' oM]
 unfold decA;rw[e1,if_neg oM,e2,x4f,if_neg (by decide),ee];exact x4k l _ h
theorem z6s{l}(h8:l.length<=8)(h:∀p∈l,p.1.length<=16):(encA l).length=33:=y7m h (nL _) h8
section
variable{L s K:Nat}{cs:Nat->CS}{off cm:Nat}{xs:List Nat}{cur:Nat->Nat}
theorem z3l{e}:e∈plOf off xs↔∃j,j<33/\e=(off+8*j,xs.getD j 0):=by
 unfold plOf;rw[List.mem_map];constructor
 ·rintro⟨j,hj,rfl⟩
  exact⟨j,List.mem_range.1 hj,rfl⟩
 ·rintro⟨j,hj,rfl⟩
  exact⟨j,List.mem_range.2 hj,rfl⟩
theorem w0s:(flW cur (plOf off xs)).length<=96:=by
 have h1:=x2j cur (plOf off xs);rw[z8w]at h1;omega
theorem w6v(hu:UOk L 0 s K cs (plOf off xs))(h8:off%8=0){j}(hj:j<33):rdG 0 cur (flW cur (plOf off xs)) cm (off/8+j)=xs.getD j 0:=by
 have hf:=hu.filter (fun u=>decide (cur (u.1/8)≠u.2));have he:(off+8*j,xs.getD j 0)∈plOf off xs:=z3l.2 ⟨j,hj,rfl⟩;have hi:(off+8*j)/8=off/8+j:=oM;by_cases hc:cur ((off+8*j)/8)=xs.getD j 0
 ·have ho:=(hu.off _ he).out
  have Gd:off+8*j<64*0\/64*0+64*26<=off+8*j:=ho;rw[y1e w0s (.inr oM) (fun e' he' heq=>?_),<- hi,hc];obtain⟨h1,h2⟩:=List.mem_filter.1 he';obtain⟨j',Gc,rfl⟩:=z3l.1 h1;have Ga:(off+8*j')/8=off/8+j:=heq;have Gb:j'=j:=oM;subst Gb;exact of_decide_eq_true h2 hc
 ·have hm:(off+8*j,xs.getD j 0)∈flW cur (plOf off xs):=List.mem_filter.2 ⟨he,decide_eq_true hc⟩
  rw[<- hi];exact y7c (e:=(off+8*j,xs.getD j 0)) hf.off hf.nd hm
theorem w6w(h8:off%8=0){i}(hi:208<=i)(ho:i<off/8\/off/8+33<=i):rdG 0 cur (flW cur (plOf off xs)) cm i=cur i:=by
 refine y1e w0s (.inr oM) (fun e he heq=>?_);obtain⟨j,hj,rfl⟩:=z3l.1 (List.mem_filter.1 he).1;have Ga:(off+8*j)/8=i:=heq;omega
end
end
end Go.Proofs.YtmhbokcccjmfgaaGreatDoor
