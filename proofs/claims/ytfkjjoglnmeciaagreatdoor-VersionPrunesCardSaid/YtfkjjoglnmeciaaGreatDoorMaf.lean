/- part 6 -/
import Derived.Test.YtfkjjoglnmeciaaGreatDoorMad
set_option maxRecDepth 100000
set_option maxHeartbeats 16000000
namespace Go.Proofs.YtfkjjoglnmeciaaGreatDoor
open Go.Lib (hid)
section
open Go.RowKit
theorem w0r (g n cap sz a b:Nat) (xs:List Nat) (w:World) (h:z0s w w g xs sz) (hl:xs.length=n) (hb:b<=n) (h8:a+8<=b) (hn:n<=1000000) :
  Calls Tryz.prog 254 #[.slice (some ⟨g,0,none⟩) n cap,.int .i64 a,.int .i64 b] w (w6t w g xs sz a b):=by
 obtain ⟨l,rfl⟩:∃ l,b=a+l:=⟨b - a,oM⟩
 exact x3h g n cap sz a l xs w h hl hb oM hn
theorem w4w (g n cap sz a b:Nat) (xs:List Nat) (w:World) (h:z0s w w g xs sz) (hl:xs.length=n) (hb:b<=n) (h8:a+8<=b) (hn:n<=1000000) (hc:n<=cap) (hcm:cap<=9223372036854775807) :
  Calls Tryz.prog 253 #[.slice (some ⟨g,0,none⟩) n cap,.int .i64 a,.int .i64 b] w (z2x w g xs sz):=by
 obtain ⟨l,rfl⟩:∃ l,b=a+l:=⟨b - a,oM⟩
 exact x2z g n cap sz a l xs w h hl hb oM hn hc hcm
theorem w7z (g n cap sz a b:Nat) (xs:List Nat) (w:World) (h:z0s w w g xs sz) (hl:xs.length=n) (hb:b<=n) (h8:a+1<=b) (hn:n<=1000000) (hc:n<=cap) (hcm:cap<=9223372036854775807) :
  Calls Tryz.prog 252 #[.slice (some ⟨g,0,none⟩) n cap,.int .i64 a,.int .i64 b] w (z2x w g xs sz):=by
 obtain ⟨l,rfl⟩:∃ l,b=a+(l+1):=⟨b - a - 1,oM⟩
 exact w1m g n cap sz a l xs w h hl hb hn hc hcm
def PdqB (g n cap sz:Nat) (xs:List Nat) (d:Nat):Prop:=∀ (a b lm:Nat) (w:World),z0s w w g xs sz->a<=b->b<=n->b - a < d->lm<=64 ->
  Calls Tryz.prog 141 #[.slice (some ⟨g,0,none⟩) n cap,.int .i64 a,.int .i64 b,.int .i64 lm] w (z2x w g xs sz)
theorem w2k (g n cap sz a0 b0 lm0:Nat) (xs:List Nat) (w:World) (h:z0s w w g xs sz) (hl:xs.length=n) (hab0:a0<=b0) (hb0:b0<=n) (hlm0:lm0<=64) (hn:n<=1000000) (hc:n<=cap) (hcm:cap<=9223372036854775807) (ih:PdqB g n cap sz xs (b0 - a0)) :
  Calls Tryz.prog 141 #[.slice (some ⟨g,0,none⟩) n cap,.int .i64 a0,.int .i64 b0,.int .i64 lm0] w (z2x w g xs sz):=by
 have H:=hid h;have HL:=hid hl;have IH:=hid ih;clear h hl ih;go_enter Tryz.func141,Tryz.ntmps141
 go_wp2;go_loopw [1,2,3,8,9] (fun va vb vl v8 v9 wr=>∃ (a b lm:Nat) (p q:Bool),va=.int .i64 a/\vb=.int .i64 b/\vl=.int .i64 lm/\v8=.bool p/\v9=.bool q/\a<=b/\b<=n/\lm<=64/\b - a<=b0 - a0/\Hid (z0s w wr g xs sz)) (fun va vb _ _ _ _=>(RowKit.intOf vb).toNat - (RowKit.intOf va).toNat)
 case atStart=>exact ⟨a0,b0,lm0,true,true,rfl,rfl,rfl,rfl,rfl,hab0,hb0,hlm0,nL _,H⟩
 case round =>
  clear H;obtain ⟨a,b,lm,p,q,rfl,rfl,rfl,rfl,rfl,Gh,hb,Ga,hd,H⟩:=hrel;by_cases h12:b - a<=12
  ·have e1:decide ((b:Int) - (a:Int)<=12)=true:=dT
   have HI:=hid (y9f g n cap sz a b xs wr H.out.self HL.out Gh hb hn hc hcm);go_wp2_with fail
   refine HI.out.mono ?_;rintro e w1 ⟨rfl,h1⟩;have H1:=hid (H.out.trans h1);clear h1 HI H;go_wp2_with fail
   go_end0;exact ⟨rfl,H1.out⟩
  ·have e1:decide ((b:Int) - (a:Int)<=12)=false:=dF
   by_cases hz:lm=0
   ·subst hz
    have HI:=hid (w7z g n cap sz a b xs wr H.out.self HL.out hb oM hn hc hcm);go_wp2_with fail
    refine HI.out.mono ?_;rintro e w1 ⟨rfl,h1⟩;have H1:=hid (H.out.trans h1);clear h1 HI H;go_wp2_with fail
    go_end0;exact ⟨rfl,H1.out⟩
   ·have e2:((lm:Int) == 0)=false:=by rw [beq_eq_false_iff_ne];omega
    obtain ⟨Gf,rfl⟩:∃ k,lm=k+1:=⟨lm - 1,oM⟩
    have Gb:a+8<=b:=oM;clear h12 hz;go_upto_if 35 with fail
    go_cut [3] from 19 to 133 (fun v wx=>∃ k:Nat,v=.int .i64 k/\k<=64/\Hid (z0s w wx g xs sz))
    case first =>
     cases p
     ·have HI:=hid (w4w g n cap sz a b xs wr H.out.self HL.out hb Gb hn hc hcm)
      go_wp2_with fail
      refine HI.out.mono ?_;rintro e w1 ⟨rfl,h1⟩;have H1:=hid (H.out.trans h1);clear h1 HI H;go_wp2_with fail
      go_meet;exact ⟨Gf,by go_num,oM,H1⟩
     ·go_wp2_with fail
      go_meet;exact ⟨Gf+1,by go_num,oM,H⟩
    case rest =>
     clear H Ga e1 e2;obtain ⟨lm,rfl,Ga,H⟩:=hcut;have HC:=hid (w0r g n cap sz a b xs wc H.out.self HL.out hb Gb hn);go_wp2_with fail
     refine HC.out.mono ?_;rintro e w1 ⟨m0,k0,rfl,Gd,Gc,h1⟩;have H1:=hid (H.out.trans h1);clear h1 HC H;go_upto_if 50 with fail
     go_cut [11,12] from 19 to 133 (fun v u wx=>∃ (m:Nat) (k:Int),v=.int .i64 m/\u=.int .i64 k/\a<=m/\m < b/\Hid (z0s w wx g xs sz))
     case first =>
      by_cases hk:k0=2
      ·subst hk
       have HR:=hid (x0d g n cap sz a b xs w1 H1.out.self HL.out oM hb hn hc hcm);obtain ⟨m',Ge⟩:∃ m':Nat,(b:Int) - 1 - ((m0:Int) - (a:Int))=(m':Int)/\a<=m'/\m' < b:=⟨b - 1 - (m0 - a),oM,oM,oM⟩
       have HM:=hid Ge;clear Ge;go_wp2_with fail
       refine HR.out.mono ?_;rintro e w2 ⟨rfl,h2⟩;have H2:=hid (H1.out.trans h2);clear h2 HR H1;go_wp2_with fail
       go_meet;exact ⟨m',1,by first | rfl | exact congrArg (Value.int .i64) HM.out.1,rfl,HM.out.2.1,HM.out.2.2,H2⟩
      ·have e3:(k0 == 2)=false:=by rw [beq_eq_false_iff_ne];exact hk
       go_wp2_with fail
       go_meet;exact ⟨m0,k0,rfl,rfl,Gd,Gc,H1⟩
     case rest =>
      clear H1 Gd Gc;obtain ⟨m,k,rfl,rfl,Gd,Gc,H⟩:=hcut;go_upto_region 15 with fail
      go_cut [68] from 19 to 133 (fun v wx=>∃ bb:Bool,v=.bool bb/\Hid (z0s w wx g xs sz))
      case first =>
       cases p
       ·go_wp2_with fail
        go_meet;exact ⟨false,rfl,H⟩
       ·cases q
        ·go_wp2_with fail
         go_meet;exact ⟨false,rfl,H⟩
        ·go_wp2_with fail
         go_meet;exact ⟨_,rfl,H⟩
      case rest =>
       clear H;obtain ⟨bb,rfl,H⟩:=hcut;go_upto_if 68 with fail
       go_cut [13] from 19 to 133 (fun _ wx=>Hid (z0s w wx g xs sz))
       case first =>
        cases bb
        ·go_wp2_with fail
         go_meet;exact H
        ·have HT:=hid (y1x g n cap sz a b xs wc H.out.self HL.out oM hb hn hc hcm)
         go_wp2_with fail
         refine HT.out.mono ?_;rintro e w2 ⟨c,rfl,h2⟩;have H2:=hid (H.out.trans h2);clear h2 HT H;cases c
         ·go_wp2_with fail
          go_meet;exact H2
         ·go_wp2_with fail
          go_end0;exact ⟨rfl,H2.out⟩
       case rest =>
        clear H;have H:=hcut;clear hcut;go_upto_region 17 with fail
        go_cut [87] from 19 to 133 (fun v wx=>∃ bb:Bool,v=.bool bb/\Hid (z0s w wx g xs sz))
        case first =>
         by_cases ha:0 < a
         ·obtain ⟨a',rfl⟩:∃ a',a=a'+1:=⟨a - 1,oM⟩
          have f0:decide ((0:Int) < (a':Int)+1)=true:=dT;have f1:(a':Int) < (n:Int):=oM;have f2:(m:Int) < (n:Int):=oM;have f3:IntKind.i64.wrap (a':Int)=(a':Int):=by rw [IntKind.wrap_i64];omega
          generalize wc=wr at *;go_wp2_with fail
          obtain ⟨x1,c1,z1⟩:=H.out.at_ (i:=a') (by have:=HL.out;omega);obtain ⟨x2,c2,z2⟩:=H.out.at_ (i:=m) (by have:=HL.out;omega);obtain ⟨bb,Gg⟩:=z1p x1 x2;go_quiet ((go_at_call 257;exact Calls.quiet_of_same (Gg.out _)))
          have H1:=hid (H.out.drewN nq);clear c1 c2 z1 z2 H;go_wp2_with fail
          go_meet;exact ⟨_,rfl,H1⟩
         ·have f0:decide ((0:Int) < (a:Int))=false:=dF
          go_quiet (fail)
          have H1:=hid (H.out.drewN nq);go_wp2_with fail
          go_meet;exact ⟨false,rfl,H1⟩
        case rest =>
         clear H;obtain ⟨bb,rfl,H⟩:=hcut;cases bb
         ·have HP:=hid (y4x g n cap sz a b m xs wc H.out.self HL.out oM hb Gc hn hc hcm)
          go_wp2_with fail
          refine HP.out.mono ?_;rintro e w2 ⟨m2,c,rfl,g1,g2,h2⟩;have H2:=hid (H.out.trans h2);clear h2 HP H;have I1:=hid (IH.out a m2 lm w2 H2.out.self g1 oM oM Ga);have i2:=IH.out (m2+1) b lm w2 H2.out.self oM hb oM Ga;rw [show ((m2+1:Nat):Int)=(m2:Int)+1 by omega] at i2;have I2:=hid i2;clear i2;by_cases hlr:m2 - a < b - m2
          ·have e3:decide ((m2:Int) - (a:Int) < (b:Int) - (m2:Int))=true:=dT
           go_wp2_with fail
           refine I1.out.mono ?_;rintro e w3 ⟨rfl,h3⟩;have H3:=hid (H2.out.trans h3);clear h3 H2 I1 I2;go_wp2_with fail
           go_roundw
           case rel=>exact ⟨m2+1,b,lm,_,c,by go_num,rfl,rfl,rfl,rfl,oM,hb,Ga,oM,H3⟩
           case measure=>simp [RowKit.intOf];omega
          ·have e3:decide ((m2:Int) - (a:Int) < (b:Int) - (m2:Int))=false:=dF
           go_wp2_with fail
           refine I2.out.mono ?_;rintro e w3 ⟨rfl,h3⟩;have H3:=hid (H2.out.trans h3);clear h3 H2 I1 I2;go_wp2_with fail
           go_roundw
           case rel=>exact ⟨a,m2,lm,_,c,rfl,rfl,rfl,rfl,rfl,g1,oM,Ga,oM,H3⟩
           case measure=>simp [RowKit.intOf];omega
         ·have HP:=hid (y4v g n cap sz a b m xs wc H.out.self HL.out oM hb Gc hn hc hcm)
          go_wp2_with fail
          refine HP.out.mono ?_;rintro e w2 ⟨m2,rfl,g1,g2,h2⟩;have H2:=hid (H.out.trans h2);clear h2 HP H;go_wp2_with fail
          go_roundw
          case rel=>exact ⟨m2,b,lm,p,q,rfl,rfl,rfl,rfl,rfl,g2,hb,Ga,oM,H2⟩
          case measure=>simp [RowKit.intOf];omega
theorem x8j (g n cap sz:Nat) (xs:List Nat) (hl:xs.length=n) (hn:n<=1000000) (hc:n<=cap) (hcm:cap<=9223372036854775807):∀ d,PdqB g n cap sz xs d
 | 0=>fun a b lm w h hab hb hd hlm=>absurd hd oM
 | d+1=>fun a b lm w h hab hb hd hlm=>w2k g n cap sz a b lm xs w h hl hab hb hlm hn hc hcm (fun a' b' lm' w' h' k1 k2 k3 k4=>x8j g n cap sz xs hl hn hc hcm d a' b' lm' w' h' k1 k2 oM k4)
theorem w2x (g n cap sz:Nat) (xs:List Nat) (w:World) (h:z0s w w g xs sz) (hl:xs.length=n) (hn:n<=1000000) (hc:n<=cap) (hcm:cap<=9223372036854775807) :
  Calls Tryz.prog 58 #[.slice (some ⟨g,0,none⟩) n cap] w (z2x w g xs sz):=by
 have e1:IntKind.u64.wrap (n:Int)=(n:Int):=by rw [IntKind.wrap_u64];omega
 have Ga:=hid (y0u n w hn);have hk:Lib.bitLen n<=20:=Lib.bitLen_le n 20 oM oM;have HP:=hid (x8j g n cap sz xs hl hn hc hcm (n+1) 0 n (Lib.bitLen n) w h oM (nL _) oM oM);generalize Lib.bitLen n=k at *;clear h hl;go_enter Tryz.func58,Tryz.ntmps58
 go_wp2_with (first
  | (go_at_call 109;refine Ga.out.mono ?_;rintro e w' ⟨rfl,rfl⟩)
  | (go_at_call 141;refine HP.out.mono ?_;rintro e w1 ⟨rfl,h1⟩;have H1:=hid h1;clear h1))
 go_end0;exact ⟨rfl,H1.out⟩
theorem x4v (g n cap sz:Nat) (xs:List Nat) (w:World) (h:z0s w w g xs sz) (hl:xs.length=n) (hn:n<=1000000) (hc:n<=cap) (hcm:cap<=9223372036854775807) :
  Calls Tryz.prog 58 #[.slice (some ⟨g,0,none⟩) n cap] w (z2x w g xs sz):=w2x g n cap sz xs w h hl hn hc hcm
theorem y0p:(Tryz.prog.info? 284).map (fun i=>(i.zero,i.size,i.bytes))=some (some (.agg #[.int .u8 0,.int .u64 0,.int .u64 0]),3,24):=by kernel_rfl
theorem z5t:(Tryz.prog.info? 32).map (fun i=>(i.zero,i.size,i.bytes))=some (some (.int .u64 0),1,8):=by kernel_rfl
theorem z5f {w:World} {B n:Nat} {A:Option Addr} {ws:List (Nat × Nat)} (h:z0c w B 2 A n (z0d ws)) {k:Nat} (hk:k < n) :
  ∃ (hl:k < ws.length) (b off:Nat),A=some ⟨b,off,none⟩/\b < B/\w.cell? ⟨b,off+k * 2,none⟩=some (.int .u64 ((ws[k]).1:Int))/\w.cell? ⟨b,off+k * 2+1,none⟩=some (.int .u64 ((ws[k]).2:Int)):=by
 have hl:k < ws.length:=by have:=h.1;rw [z0z] at this;omega
 obtain ⟨b,off,hA,hb,hc⟩:=h.plain oM oM;exact ⟨hl,b,off,hA,hb,hc (k * 2) _ (z6m ws k hl).1,hc (k * 2+1) _ (z6m ws k hl).2⟩
def z0a (xs:List Nat):List Value:=xs.map fun x:Nat=>Value.int .u64 x
theorem z2z (xs:List Nat):∀ u∈z0a xs,u.oneCell'=true:=by
 intro u hu;simp only [z0a,List.mem_map] at hu;obtain ⟨x,_,rfl⟩:=hu;rfl
theorem z1f {w:World} {b1 b2:Nat} {e1 e2:TypeId} {s1 s2:Nat} {v1 v2:Value} {n1 n2:Nat} {x1 x2:List Value} (h1:w.ownsRow b1 e1 s1 v1 n1 x1) (h2:w.ownsRow b2 e2 s2 v2 n2 x2) (hne:e1≠e2):v1.ownBlock=none\/v1.ownBlock≠v2.ownBlock:=by
 rcases h1.2 with ⟨rfl,_⟩ | ⟨g,cap,cur,rfl,_,hh,_⟩
 ·exact .inl rfl
 ·right
  have:=z0i h2 (show Blk w g e1 cur from hh) (Ne.symm hne);intro he;exact this (by rw [<- he];rfl)
def z1i (o:Nat):Nat:=o - o % 64
theorem x3y (w:World) (o:Nat):z0c (w.alloc (.cells #[.int .u64 ((o:Int) - (o:Int) % 64)] 32)) (w.heap.size+1) 1 (some ⟨w.heap.size,0,none⟩) 1 (z0a [z1i o]):=by
 refine z0m w _ rfl _ 1 1 32 _ ?_ rfl;have e:((z1i o:Nat):Int)=(o:Int) - (o:Int) % 64:=by unfold z1i;omega
 simp only [z0a,List.map_cons,List.map_nil,e]
def stI (p:Nat × Nat):Ins := .st p.1 p.2
structure w0c (w wr:World) (ws:List (Nat × Nat)) (k:Nat) (A1:Option Addr) (m1 c1:Nat) (A2:Option Addr) (m2 c2:Nat):Prop where
 below:Blw w wr
 prog:wr.ownsRow w.heap.size 284 3 (.slice A1 m1 c1) m1 (z0j ((ws.take k).map stI))
 lines:wr.ownsRow w.heap.size 32 1 (.slice A2 m2 c2) m2 (z0a ((ws.take k).map fun p=>z1i p.1))
 h1:m1=k
 h2:m2=k
section
variable {w wr w8 w9:World} {ws:List (Nat × Nat)} {k:Nat} {A1:Option Addr} {m1 c1:Nat} {A2:Option Addr} {m2 c2:Nat} {e:Nat × Nat} {A3:Option Addr} {n3 c3:Nat} {A4:Option Addr} {n4 c4:Nat} {o:Obj}
theorem w9p (H:w0c w wr ws k A1 m1 c1 A2 m2 c2) (hn3:n3=m1+1) (ho3:w8.ownsRow w.heap.size 284 3 (.slice A3 n3 c3) n3 (z0j ((ws.take k).map stI)++(stI e).cells))
  (hg3:((wr.alloc (.cells #[.int .u64 e.1,.int .u64 e.2] 114)).alloc o).grownBy w8 (Value.slice A1 m1 c1).ownBlock) (hb3:Below w.heap.size ((wr.alloc (.cells #[.int .u64 e.1,.int .u64 e.2] 114)).alloc o) w8) :
  Hid (w8.ownsRow w.heap.size 284 3 (.slice A3 n3 c3) n3 (z0j ((ws.take k).map stI)++(stI e).cells))/\Hid (n3=k+1)/\Hid (Blw w w8)/\Hid (w8.ownsRow w.heap.size 32 1 (.slice A2 m2 c2) m2 (z0a ((ws.take k).map fun p=>z1i p.1))) /\
   w8.cell? ⟨wr.heap.size,0,none⟩=some (.int .u64 e.1)/\w.heap.size<=w8.heap.size:=by
 have Gb:=H.below.size;have h1:=H.h1;have hB:Blw w w8:=((H.below.alloc Gb _).alloc (by simp;omega) _).trans hb3;have Ga:=((Blk.new wr 114 #[.int .u64 e.1,.int .u64 e.2]).alloc o).grown hg3 (w8l H.prog (g:=wr.heap.size) (.inr (nL _)));exact ⟨ho3,show n3=k+1 by omega,hB,((H.lines.alloc _).alloc _).kept hg3 (z1f H.lines H.prog (by decide)),Ga.cell 0,hB.size⟩
theorem w9q (h2:m2=k) (hTK:ws.take (k+1)=ws.take k++[e]) (ho3:w8.ownsRow w.heap.size 284 3 (.slice A3 n3 c3) n3 (z0j ((ws.take k).map stI)++(stI e).cells)) (hn3:n3=k+1) (hB:Blw w w8) (hL:w8.ownsRow w.heap.size 32 1 (.slice A2 m2 c2) m2 (z0a ((ws.take k).map fun p=>z1i p.1)))
  (hn4:n4=m2+1) (ho4:w9.ownsRow w.heap.size 32 1 (.slice A4 n4 c4) n4 (z0a ((ws.take k).map fun p=>z1i p.1)++z0a [z1i e.1])) (hg4:(w8.alloc o).grownBy w9 (Value.slice A2 m2 c2).ownBlock) (hb4:Below w.heap.size (w8.alloc o) w9):w0c w w9 ws (k+1) A3 n3 c3 A4 n4 c4:=by
 refine ⟨(hB.alloc hB.size _).trans hb4,?_,?_,hn3,oM⟩
 ·rw [hTK,List.map_append,z5u]
  have e1:z0j (List.map stI [e])=(stI e).cells:=by simp [z0j]
  rw [e1];exact (ho3.alloc _).kept hg4 (z1f ho3 hL (by decide))
 ·rw [hTK,List.map_append]
  have e1:z0a (List.map (fun p:Nat × Nat=>z1i p.1) (ws.take k)++List.map (fun p:Nat × Nat=>z1i p.1) [e])=z0a ((ws.take k).map fun p=>z1i p.1)++z0a [z1i e.1]:=by simp [z0a]
  rw [e1];exact ho4
end
theorem x8c {w:World} {base g m c:Nat} {xs:List Nat} (h:w.ownsRow base 32 1 (.slice (some ⟨g,0,none⟩) m c) m (z0a xs)):∃ cur,Blk w g 32 cur/\cur.size=c/\RowU cur xs/\xs.length=m:=by
 have hl:xs.length=m:=by have:=h.1;simpa [z0a] using this
 rcases h.2 with ⟨hv,_⟩ | ⟨g',cap',cur,hv,hb,hh,h1,h2,h3,h4⟩
 ·cases hv
 ·simp only [Value.slice.injEq,Option.some.injEq,Addr.mk.injEq,and_true,true_and] at hv
  obtain ⟨rfl,rfl⟩:=hv;refine ⟨cur,hh,oM,⟨oM,fun i hi=>?_⟩,hl⟩;have h5:(cur.toList.take (m * 1))[i]?=(z0a xs)[i]?:=by rw [h4]
  rw [List.getElem?_take_of_lt oM] at h5;rw [<- Array.getElem?_toList,h5];simp [z0a,hi]
def FlI (w wr:World) (ws:List (Nat × Nat)) (g m1 j:Nat) (cs:Array Value) (A1:Option Addr) (n1 c1:Nat):Prop :=
 ∃ fs:List Nat,Blw w wr/\Blk wr g 32 cs/\wr.ownsRow w.heap.size 284 3 (.slice A1 n1 c1) n1 (z0j (ws.map stI++fs.map Ins.fl))/\fs.length=j/\n1=m1+j/\(∀ o∈fs,∃ e∈ws,o=z1i e.1)/\∀ i,i < j->∀ x:Nat,cs[i]?=some (.int .u64 x)->x∈fs
theorem fl1 {w wr w8:World} {ws:List (Nat × Nat)} {g m1 j:Nat} {cs:Array Value} {A1:Option Addr} {n1 c1:Nat} {A3:Option Addr} {n3 c3 x:Nat} {o:Obj} {fs:List Nat} (hB:Blw w wr) (hG:Blk wr g 32 cs) (hP:wr.ownsRow w.heap.size 284 3 (.slice A1 n1 c1) n1 (z0j (ws.map stI++fs.map Ins.fl))) (hf:fs.length=j) (hn1:n1=m1+j) (hq:∀ o∈fs,∃ e∈ws,o=z1i e.1) (hal:∀ i,i < j->∀ x:Nat,cs[i]?=some (.int .u64 x)->x∈fs) (hxc:cs[j]?=some (.int .u64 x))
  (hx:∃ e∈ws,x=z1i e.1) (hn3:n3=n1+1) (ho3:w8.ownsRow w.heap.size 284 3 (.slice A3 n3 c3) n3 (z0j (ws.map stI++fs.map Ins.fl)++(Ins.fl x).cells)) (hg3:(wr.alloc o).grownBy w8 (Value.slice A1 n1 c1).ownBlock) (hb3:Below w.heap.size (wr.alloc o) w8):FlI w w8 ws g m1 (j+1) cs A3 n3 c3:=by
 refine ⟨fs++[x],(hB.alloc hB.size _).trans hb3,(hG.alloc o).grown hg3 (fun e=>z0i hP hG (by decide) e.symm),?_,by simp [hf],oM,fun y hy=>?_,fun i hi y hy=>?_⟩
 ·have e1:z0j (ws.map stI++(fs++[x]).map Ins.fl)=z0j (ws.map stI++fs.map Ins.fl)++(Ins.fl x).cells:=by simp [z0j]
  rw [e1];exact ho3
 ·rw [List.mem_append,List.mem_singleton] at hy
  rcases hy with hy | rfl
  ·exact hq y hy
  ·exact hx
 ·rw [List.mem_append,List.mem_singleton]
  by_cases hij:i=j
  ·right
   rw [hij,hxc] at hy;injection hy with hy
   injection hy with _ hy
   omega
  ·exact .inl (hal i oM y hy)
def z0y (ws:List (Nat × Nat)) (p:List Ins):Prop:=∃ fs:List Nat,p=ws.map stI++fs.map Ins.fl++[Ins.fe]/\fs.length<=ws.length/\(∀ o∈fs,∃ e∈ws,o=z1i e.1)/\∀ e∈ws,z1i e.1∈fs
def z2s (w:World) (P:List Ins->Prop) (e:Ending) (w':World):Prop:=∃ A m c p,e=.returned (.slice A m c)/\P p/\w'.ownsRow w.heap.size 284 3 (.slice A m c) m (z0j p)/\Blw w w'
theorem z1q (A:Option Addr) (n c:Nat) (ws:List (Nat × Nat)) (w:World) (h:z0c w w.heap.size 2 A n (z0d ws)) (h0:0 < n) (hn:n<=1000) (hv:∀ e∈ws,e.1 < 18446744073709551616) :
  Calls Tryz.prog 105 #[.slice A n c] w (z2s w (z0y ws)):=by
 have HR:=hid h;have G2:=hid (show ws.length=n by have:=h.1;rw [z0z] at this;omega);have HV:=hid hv;obtain ⟨j0,G9,GA,Gr,GB⟩:=info_parts z5t;have GW:∀ W:World,(Instr.makeSlice 99 (.int .i64 0) (.int .i64 n)).run Tryz.prog W=.ok (.slice (some ⟨W.heap.size,0,none⟩) 0 n) (W.alloc (.cells (madeCells (Value.int .u64 0).cells n) 32)):=fun W=>by
  have h:=run_makeSlice (P:=Tryz.prog) W 99 32 j0 (.int .u64 0) Tryz.underlying99 G9 GA .i64 .i64 0 (n:Int) oM oM (by rw [Gr];omega) (by rw [GB];omega) oM;rw [Gr] at h;simpa using h
 have hM:(madeCells (Value.int .u64 0).cells n).size=n * 1:=by rw [size_madeCells];simp
 generalize madeCells (Value.int .u64 0).cells n=M at *;have Gh:Hid (∀ C:Nat,w0c w (w.alloc (.cells M 32)) ws 0 none 0 0 (some ⟨w.heap.size,0,none⟩) 0 n):=fun _ =>
  ⟨(Below.refl _ _).alloc (nL _) _,World.ownsRow_nil _ _ _ _,World.ownsRow_made w M n (nL _) (by unfold maxLen;omega) hM,rfl,rfl⟩
 have e0:((n:Int) == 0)=false:=by rw [beq_eq_false_iff_ne];omega
 obtain ⟨i0,Gq,Gv,Gx,Gz⟩:=info_parts y0p;clear h hv hM;go_enter Tryz.func105,Tryz.ntmps105
 go_wp2;clear GW;go_loopw [3,4,17] (fun p l i wr=>∃ (k:Nat) (A1:Option Addr) (m1 c1:Nat) (A2:Option Addr) (m2 c2:Nat),k<=n/\i=.int .i64 k/\p=.slice A1 m1 c1/\l=.slice A2 m2 c2/\Hid (w0c w wr ws k A1 m1 c1 A2 m2 c2)) (fun _ _ i _=>n - (RowKit.intOf i).toNat)
 case atStart=>exact ⟨0,_,_,_,_,_,_,Nat.zero_le _,rfl,rfl,rfl,Gh.out 0⟩
 case round =>
  clear Gh;obtain ⟨k,A1,m1,c1,A2,m2,c2,hk,rfl,rfl,rfl,H⟩:=hrel;by_cases hlt:k < n
  ·obtain ⟨hl,b,Dc,hA,GY,f0,f1⟩:=z5f (HR.out.below H.out.below) hlt
   subst hA;have GQ:Hid ((ws.take (k+1))=ws.take k++[ws[k]]):=List.take_succ_eq_append_getElem hl;have Db:=HV.out ws[k] (List.getElem_mem hl);generalize ws[k]=e at *;have q1:m1<=k:=by have:=H.out.h1;omega
   have q2:m2<=k:=by have:=H.out.h2;omega
   have Gw:(0:Int)<=(k:Int):=oM;have Gy:(k:Int) < (n:Int):=oM;have u1:IntKind.u64.wrap ((e.1:Int) - (e.1:Int) % 64)=(e.1:Int) - (e.1:Int) % 64:=by rw [IntKind.wrap_u64];omega
   have GF:w.heap.size<=wr.heap.size:=H.out.below.size;go_wp2_with (first
    | (at_builtin;refine z0p _ (.tmp 21) (.tmp 27) 151 rfl rfl w.heap.size 284 i0 _ 3 24 Tryz.underlying151 Gq Gv Gx Gz rfl ?q1 (.slice A1 m1 c1) m1 (z0j ((ws.take k).map stI)) rfl ?q0 (wr.heap.size+1+1) (some ⟨wr.heap.size+1,0,none⟩) 1 1 (stI e).cells rfl ?q5 (Ins.cells_one (stI e)) ?q2 ?q3 ?q4 ?_;(case q1=>omega);(case q0=>exact (H.out.prog.alloc _).alloc _);(case q5=>exact z0m _ _ (by simp) _ 1 3 284 _ rfl rfl);(case q2=>(unfold maxLen;omega));(case q3=>omega);(case q4=>(simp;omega));intro A3 n3 c3 w8 hn3 ho3 hg3 hb3;obtain ⟨GN,GM,GI,G1,g0,Da⟩:=w9p H.out hn3 ho3 hg3 hb3;clear hn3 ho3 hg3 hb3)
    | (at_builtin;refine z0p _ (.tmp 29) (.tmp 33) 99 rfl rfl w.heap.size 32 j0 _ 1 8 Tryz.underlying99 G9 GA Gr GB rfl ?r1 (.slice A2 m2 c2) m2 (z0a ((ws.take k).map fun p=>z1i p.1)) rfl ?r0 (w8.heap.size+1) (some ⟨w8.heap.size,0,none⟩) 1 1 (z0a [z1i e.1]) rfl ?r5 (z2z [z1i e.1]) ?r2 ?r3 ?r4 ?_;(case r1=>omega);(case r0=>exact G1.out.alloc _);(case r5=>exact x3y w8 e.1);(case r2=>(unfold maxLen;omega));(case r3=>omega);(case r4=>(simp;omega));intro A4 n4 c4 w9 hn4 ho4 hg4 hb4;have HI:=hid (w9q H.out.h2 GQ.out GN.out GM.out GI.out G1.out hn4 ho4 hg4 hb4);clear hn4 ho4 hg4 hb4)
    | go_in)
   exact ⟨⟨k+1,_,_,_,_,_,_,oM,by go_num,rfl,rfl,HI⟩,by simp [RowKit.intOf];omega⟩
  ·obtain rfl:n=k:=oM
   obtain ⟨hB,hP,hL,h1,h2⟩:=H.out;rw [List.take_of_length_le (by rw [G2.out];exact nL _)] at hP hL;have b1:m1<=n:=oM;have b2:m2<=n:=oM;have b3:n<=m2:=oM;obtain ⟨g,GX,GG,G7,Gp⟩:=hL.form oM;have GT:A2=some ⟨g,0,none⟩:=by injection GG
   subst GT;obtain ⟨GS,Gn,G6,GE,GH⟩:=x8c hL;have Gb:=z4z hL;have HS:=hid (x4v g m2 c2 c2 (ws.map fun p=>z1i p.1) wr ⟨GS,_,Gn,G6,GE,List.Perm.refl _,Chg.refl _ _⟩ GH oM Gb.1 Gb.2);have HP:=hid hP;have Gf:=hid hB;have G0:=hid Gn;clear GG hL hP hB Gn G6 GE H h1 h2 Gp;go_wp2_with fail
   refine HS.out.mono ?_;rintro e w5 ⟨rfl,GR,ys,Gm,Gi,Ge,Ga,Gc⟩;have Gl:=hid (Gc.own HP.out (fun g' hg' e=>z0i HP.out G0.out (by decide) (by rw [hg',e])));have Gk:Hid (Blw w w5):=Gf.out.trans (Gc.toBelow Gf.out.size (fun k hk=>by subst hk;exact G7));have HQ:=hid (y8z (fun x=>∃ e∈ws,x=z1i e.1) (fun x=>∃ e∈ws,x=z1i e.1) g m2 c2 c2 w5 ⟨GR,Gm,Gi,⟨oM,fun i hi=>by
    have G8:i < ys.length:=by rw [Ga.length_eq,GH];exact hi
    refine ⟨ys[i],?_,Ge.2 i G8⟩;have:=(Ga.mem_iff).1 (List.getElem_mem G8);rw [List.mem_map] at this;obtain ⟨e,he,GU⟩:=this;exact ⟨e,he,GU.symm⟩⟩,Chg.refl _ _,fun x hx=>by
    obtain ⟨e,he,rfl⟩:=hx;have hm:z1i e.1∈ys:=(Ga.mem_iff).2 (List.mem_map.2 ⟨e,he,rfl⟩);obtain ⟨i,hi,GV⟩:=List.getElem_of_mem hm;have hl:=Ga.length_eq;exact ⟨i,oM,by rw [<- GV];exact Ge.2 i hi⟩⟩ oM Gb.1 Gb.2)
   have Gg:=hid Gm;clear Gm Gi Ge Ga Gc HS HP Gf G0;go_wp2_with fail
   refine HQ.out.mono ?_;rintro e w6 ⟨m3,rfl,GZ,G4,G5,Gt,GC,Gd,GD⟩;have GP:=hid GD;have G3:=hid (Gd.own Gl.out (fun g' hg' e=>z0i Gl.out Gg.out (by decide) (by rw [hg',e])));have Gh:Hid (FlI w w6 ws g m1 0 G4 A1 m1 c1):=⟨[],Gk.out.trans (Gd.toBelow Gk.out.size (fun k hk=>by subst hk;exact G7)),G5,by simpa using G3.out,rfl,rfl,fun _ h=>(by cases h),fun i hi=>absurd hi (Nat.not_lt_zero i)⟩
   have GO:=hid GC;clear G5 Gt GC Gd GD Gl Gk Gg HQ G3;go_wp2;go_loopw [3,41] (fun p i wr=>∃ (j:Nat) (A1:Option Addr) (n1 c1:Nat),j<=m3/\i=.int .i64 j/\p=.slice A1 n1 c1/\Hid (FlI w wr ws g m1 j G4 A1 n1 c1)) (fun _ i _=>m3 - (RowKit.intOf i).toNat)
   case atStart=>exact ⟨0,_,_,_,Nat.zero_le _,rfl,rfl,Gh⟩
   case round =>
    clear Gh;obtain ⟨j,B1,n1,d1,hj,rfl,rfl,H⟩:=hrel;obtain ⟨fs,hB,hG,hP,hf,Gs,hq,Gj⟩:=H.out;have b4:n1<=m1+j:=oM;have GF:=hB.size;by_cases hlt:j < m3
    ·obtain ⟨x,hx,Gu⟩:=GO.out.2 j hlt
     have c0:wr.cell? ⟨g,j,none⟩=some (.int .u64 x):=by rw [hG.cell];exact Gu
     have HF:=hid (fun (A3:Option Addr) (n3 c3:Nat) (w8:World) (o:Obj) h1 h2 h3 h4=>fl1 (A3:=A3) (n3:=n3) (c3:=c3) (w8:=w8) (o:=o) hB hG hP hf Gs hq Gj Gu hx h1 h2 h3 h4);have HP:=hid hP;have Gw:(0:Int)<=(j:Int):=oM;have Gy:(j:Int) < (m3:Int):=oM;clear hB hG hP hf Gs hq hx Gu Gj H;go_wp2_with (first
      | (at_builtin;refine z0p _ (.tmp 45) (.tmp 48) 151 rfl rfl w.heap.size 284 i0 _ 3 24 Tryz.underlying151 Gq Gv Gx Gz rfl ?q1 (.slice B1 n1 d1) n1 (z0j (ws.map stI++fs.map Ins.fl)) rfl ?q0 (wr.heap.size+1) (some ⟨wr.heap.size,0,none⟩) 1 1 (Ins.fl x).cells rfl ?q5 (Ins.cells_one (Ins.fl x)) ?q2 ?q3 ?q4 ?_;(case q1=>omega);(case q0=>exact HP.out.alloc _);(case q5=>exact z0m _ _ rfl _ 1 3 284 _ rfl rfl);(case q2=>(unfold maxLen;omega));(case q3=>omega);(case q4=>(simp;omega));intro A3 n3 c3 w8 hn3 ho3 hg3 hb3;have HN:=hid (HF.out A3 n3 c3 w8 _ hn3 ho3 hg3 hb3);clear hn3 ho3 hg3 hb3)
      | go_in)
     exact ⟨⟨j+1,_,_,_,oM,by go_num,rfl,HN⟩,by simp [RowKit.intOf];omega⟩
    ·obtain rfl:m3=j:=oM
     have HP:=hid hP;have Gf:=hid hB;have GL:=hid (show (∀ o∈fs,∃ e∈ws,o=z1i e.1)/\∀ e∈ws,z1i e.1∈fs from ⟨hq,fun e he=>by
      obtain ⟨i,hi,hv⟩:=GP.out (z1i e.1) ⟨e,he,rfl⟩;exact Gj i hi _ hv⟩)
     have GK:Hid (fs.length<=ws.length):=show _<=_ by rw [G2.out,hf];omega
     clear hB hG hP hf Gs hq Gj H;go_wp2_with (first
      | (at_builtin;refine z0p _ (.tmp 51) (.tmp 53) 151 rfl rfl w.heap.size 284 i0 _ 3 24 Tryz.underlying151 Gq Gv Gx Gz rfl ?q1 (.slice B1 n1 d1) n1 (z0j (ws.map stI++fs.map Ins.fl)) rfl ?q0 (wr.heap.size+1) (some ⟨wr.heap.size,0,none⟩) 1 1 Ins.fe.cells rfl ?q5 (Ins.cells_one Ins.fe) ?q2 ?q3 ?q4 ?_;(case q1=>omega);(case q0=>exact HP.out.alloc _);(case q5=>exact z0m _ _ rfl _ 1 3 284 _ rfl rfl);(case q2=>(unfold maxLen;omega));(case q3=>omega);(case q4=>(simp;omega));intro A3 n3 c3 w8 hn3 ho3 hg3 hb3;have HO:=hid ho3;have GJ:=hid hb3;clear hn3 ho3 hg3 hb3)
      | go_in)
     go_ret;refine ⟨A3,n3,c3,ws.map stI++fs.map Ins.fl++[Ins.fe],rfl,⟨fs,rfl,GK.out,GL.out⟩,?_,(Gf.out.alloc GF _).trans GJ.out⟩;have:=HO.out;rw [z5u];simpa [z0j] using this
end
section
open Go.RowKit
theorem z6q {w:World} {base base':Nat} {e:TypeId} {size:Nat} {v:Value} {n:Nat} {xs:List Value} (h:w.ownsRow base e size v n xs) (hb:base'<=base):w.ownsRow base' e size v n xs:=by
 refine ⟨h.1,?_⟩;rcases h.2 with h0 | ⟨g,cap,cur,h1,h2,h3⟩
 ·exact .inl h0
 ·exact .inr ⟨g,cap,cur,h1,Nat.le_trans hb h2,h3⟩
def y0c (w:World) (m:Nat) (l:List Ins) (e:Ending) (w':World):Prop :=
 ∃ A' m' c',e=.returned (.slice A' m' c')/\m'=m/\w'.ownsRow w.heap.size 284 3 (.slice A' m' c') m' (z0j l)/\Blw w w'
theorem w1j (n:Nat) (w:World) (h0:0 < n) (hn:n<=1000) :
  Calls Tryz.prog 357 #[.slice none 0 0,.int .i64 n] w (y0c w 0 []):=by
 obtain ⟨i0,Gd,Ge,Gg,Gf⟩:=info_parts y0p;have Gb:=Lib.run_append_nil_zeros (P:=Tryz.prog) w 151 3 151 284 i0 _ .i64 .i64 Tryz.underlying151 Tryz.underlying3 Gd Ge n h0 oM oM (by rw [Gf];omega);generalize hcap:grownCap w n 0 284=cap at Gb;have Gc:n<=cap:=by rw [<- hcap];exact grownCap_ge w _ 0 284
 have Ga:cap<=maxLen:=by rw [<- hcap];exact grownCap_le_maxLen w _ 0 284 (by unfold maxLen;omega)
 have HO:Hid (∀ X:Array Value,X.size=cap * 3->(w.drew.alloc (.cells X 284)).ownsRow w.heap.size 284 3 (.slice (some ⟨w.heap.size,0,none⟩) 0 cap) 0 []):=fun X hX =>
  World.ownsRow_made w.drew X cap (nL _) Ga hX
 generalize hZ:Builtin.zeroCells _ n++Builtin.zeroCells _ (cap - n)=Z at Gb;have HZ:Hid (Z.size=cap * 3):=show _=_ by rw [<- hZ,Array.size_append,size_zeroCells,size_zeroCells,show (Value.agg #[.int .u8 0,.int .u64 0,.int .u64 0]).cells.size=3 from rfl];omega
 clear hZ hcap Gd Ge Gg Gf;have Gh:(0:Int)<=0:=Int.le_refl _;have Gi:cap<=9223372036854775807:=Ga;go_enter Tryz.func357,Tryz.ntmps357
 go_wp2_with (at_builtin;refine Lib.wpList_append_run _ rfl _ _ _ _ rfl _ _ rfl rfl _ _ Gb ?_)
 go_ret;refine ⟨_,_,_,rfl,rfl,HO.out Z HZ.out,?_⟩;exact (Below.refl _ _).drew.alloc (nL _) _
theorem x7c (w:World):Calls Tryz.prog 357 #[.slice none 0 0,.int .i64 0] w (y0c w 0 []):=by
 have HO:Hid (∀ _:Nat,w.ownsRow w.heap.size 284 3 (.slice none 0 0) 0 []):=fun _=>World.ownsRow_nil _ _ _ _
 go_enter Tryz.func357,Tryz.ntmps357
 go_wp2;go_ret;exact ⟨_,_,_,rfl,rfl,HO.out 0,Below.refl _ _⟩
theorem w1i (n:Nat) (w:World) (hn:n<=1000):Calls Tryz.prog 357 #[.slice none 0 0,.int .i64 n] w (y0c w 0 []):=by
 rcases Nat.eq_zero_or_pos n with rfl | h
 ·exact x7c w
 ·exact w1j n w h hn
def w0i (a b:List Ins):Nat->List Ins
 | 0=>[]
 | 1=>a
 | _=>a++b
theorem w5c (A A2:Option Addr) (n c n2 c2:Nat) (a b:List Ins) (g:Nat) (w:World) (hb:Blk w g 151 #[.slice A n c,.slice A2 n2 c2]) (h1:z0c w w.heap.size 3 A n (z0j a)) (h2:z0c w w.heap.size 3 A2 n2 (z0j b)) (hn1:n<=400) (hn2:n2<=400) :
  Calls Tryz.prog 311 #[.slice (some ⟨g,0,none⟩) 2 2] w (y0c w (n+n2) (a++b)):=by
 have HB:=hid hb;have H1:=hid h1;have H2:=hid h2;have f0:w.cell? ⟨g,0,none⟩=some (.slice A n c):=hb.cell 0;have f1:w.cell? ⟨g,1,none⟩=some (.slice A2 n2 c2):=hb.cell 1;have HG:=hid (w1i (n+n2) w oM);clear hb h1 h2;go_enter Tryz.func311,Tryz.ntmps311
 go_wp2;go_loopw [3,11] (fun z i wr=>∃ (k m:Nat),k<=2/\i=.int .i64 k/\z=.int .i64 m/\(k=0->m=0)/\(k=1->m=n)/\(k=2->m=n+n2)/\w=wr) (fun _ i _=>2 - (RowKit.intOf i).toNat)
 case atStart=>exact ⟨0,0,oM,rfl,rfl,fun _=>rfl,oM,oM,rfl⟩
 case round =>
  obtain ⟨k,m,hk,rfl,rfl,Gd,Ge,Gf,rfl⟩:=hrel;have hd:¬ ((m:Int)+(n:Int) < 0):=oM;have Gq:¬ ((m:Int)+(n2:Int) < 0):=oM;rcases (show k=0\/k=1\/k=2 by omega) with rfl | rfl | rfl
  ·obtain rfl:=Gd rfl
   go_wp2;go_roundw
   case rel=>exact ⟨1,n,oM,by go_num,by go_num,oM,oM,oM,trivial⟩
   case measure=>simp [RowKit.intOf]
  ·obtain rfl:=Ge rfl
   go_wp2;go_roundw
   case rel=>exact ⟨2,m+n2,oM,by go_num,by go_num,oM,oM,oM,trivial⟩
   case measure=>simp [RowKit.intOf]
  ·obtain rfl:=Gf rfl
   obtain ⟨i0,Gk,Gm,Gn,Go⟩:=info_parts y0p;go_wp2_with (go_at_call 357;refine HG.out.mono ?_;rintro e w1 ⟨A1,n1,c1,rfl,hn1,Gl,Gj⟩;have Gi:=hid Gl;have Gg:=hid Gj;have Gh:=hid hn1;clear Gl Gj hn1)
   go_loopw [6,27] (fun v i wr=>∃ (k:Nat) (A':Option Addr) (m c':Nat),k<=2/\i=.int .i64 k/\v=.slice A' m c'/\(k=0->m=0)/\(k=1->m=n)/\(k=2->m=n+n2)/\Hid (wr.ownsRow w.heap.size 284 3 (.slice A' m c') m (z0j (w0i a b k)))/\Hid (Blw w wr)) (fun _ i _=>2 - (RowKit.intOf i).toNat)
   case atStart=>exact ⟨0,_,_,_,oM,rfl,rfl,fun _=>Gh.out,oM,oM,Gi,Gg⟩
   case round =>
    obtain ⟨k,A',m,c',hk,rfl,rfl,Gd,Ge,Gf,HO,HW⟩:=hrel;clear Gi Gg Gh;have f0:wr.cell? ⟨g,0,none⟩=some (.slice A n c):=(HB.out.below HW.out HB.out.lt).cell 0;have f1:wr.cell? ⟨g,1,none⟩=some (.slice A2 n2 c2):=(HB.out.below HW.out HB.out.lt).cell 1;rcases (show k=0\/k=1\/k=2 by omega) with rfl | rfl | rfl
    ·obtain rfl:=Gd rfl
     go_wp2_with (at_builtin;refine z0p _ (.tmp 31) (.tmp 32) 151 rfl rfl w.heap.size 284 i0 _ 3 24 Tryz.underlying151 Gk Gm Gn Go rfl ?q1 (.slice A' 0 c') 0 (z0j (w0i a b 0)) rfl HO.out w.heap.size A n c (z0j a) rfl ?q5 ?q6 ?q2 ?q3 ?q4 ?_;(case q1=>omega);(case q5=>exact H1.out.below HW.out);(case q6=>exact z9d a);(case q2=>(unfold maxLen;omega));(case q3=>omega);(case q4=>exact HW.out.size);intro A3 n3 c3 w8 hn3 ho3 hg3 hb3;have Gb:=hid hn3;have Gc:=hid ho3;have Ga:=hid (HW.out.trans hb3);clear hn3 ho3 hg3 hb3)
     go_roundw
     case rel=>exact ⟨1,_,_,_,oM,by go_num,rfl,oM,fun _=>Gb.out.trans (Nat.zero_add _),oM,Gc,Ga⟩
     case measure=>simp [RowKit.intOf]
    ·obtain rfl:=Ge rfl
     go_wp2_with (at_builtin;refine z0p _ (.tmp 31) (.tmp 32) 151 rfl rfl w.heap.size 284 i0 _ 3 24 Tryz.underlying151 Gk Gm Gn Go rfl ?q1 (.slice A' m c') m (z0j (w0i a b 1)) rfl HO.out w.heap.size A2 n2 c2 (z0j b) rfl ?q5 ?q6 ?q2 ?q3 ?q4 ?_;(case q1=>omega);(case q5=>exact H2.out.below HW.out);(case q6=>exact z9d b);(case q2=>(unfold maxLen;omega));(case q3=>omega);(case q4=>exact HW.out.size);intro A3 n3 c3 w8 hn3 ho3 hg3 hb3;have Gb:=hid hn3;have Gc:=hid ho3;have Ga:=hid (HW.out.trans hb3);clear hn3 ho3 hg3 hb3)
     have Gp:Hid (w8.ownsRow w.heap.size 284 3 (.slice A3 n3 c3) n3 (z0j (w0i a b 2))):=by have h:=Gc.out;rw [<- z5u] at h;exact h
     go_roundw
     case rel=>exact ⟨2,_,_,_,oM,by go_num,rfl,oM,oM,fun _=>Gb.out,Gp,Ga⟩
     case measure=>simp [RowKit.intOf]
    ·obtain rfl:=Gf rfl
     go_wp2;go_ret;exact ⟨_,_,_,rfl,rfl,HO.out,HW.out⟩
theorem y0a (A A2:Option Addr) (n c n2 c2:Nat) (a b:List Ins) (w:World) (h1:z0c w w.heap.size 3 A n (z0j a)) (h2:z0c w w.heap.size 3 A2 n2 (z0j b)) (hn1:n<=400) (hn2:n2<=400) :
  Calls Tryz.prog 228 #[.slice A n c,.slice A2 n2 c2] w (y0c w (n+n2) (a++b)):=by
 have Ga:Hid (Blw w (w.alloc (.cells #[.slice A n c,.slice A2 n2 c2] 151))):=(Below.refl _ _).alloc (nL _) _;have HC:=hid (w5c A A2 n c n2 c2 a b w.heap.size (w.alloc (.cells #[.slice A n c,.slice A2 n2 c2] 151)) (Blk.new _ _ _) ((h1.below Ga.out).more (by simp)) ((h2.below Ga.out).more (by simp)) hn1 hn2);clear h1 h2;go_enter Tryz.func228,Tryz.ntmps228
 go_wp2_with (go_at_call 311;refine HC.out.mono ?_;rintro e w1 ⟨A1,n1,c1,rfl,hn1,Gc,Gb⟩;have Gf:=hid Gc;have Gd:=hid Gb;have Ge:=hid hn1;clear Gc Gb hn1)
 go_ret;exact ⟨_,_,_,rfl,Ge.out,z6q Gf.out (by simp),Ga.out.trans (Gd.out.mono (by simp))⟩
theorem x2d:∀ (ws:List (Nat × Nat)) (cur:Nat->Nat),runP cur (ws.map stI)=wrS cur ws
 | [],_=>rfl
 | e :: ws,cur=>by
  have:=x2d ws (upd cur (e.1 / 8) e.2);simpa [runP,wrS,stI,runI] using this
theorem x2c:∀ (fs:List Nat) (cur:Nat->Nat),runP cur (fs.map Ins.fl)=cur
 | [],_=>rfl
 | f :: fs,cur=>by
  have:=x2c fs cur;simpa [runP,runI] using this
theorem y6v {L:Nat}:∀ (ws:List (Nat × Nat)) (q:List Ins),(∀ e∈ws,e.1 % 8=0/\e.1 < 64 * L/\e.2 < 18446744073709551616)->y1v L false q->y1v L false (ws.map stI++q)
 | [],_,_,h=>h
 | e :: ws,q,hw,h=>⟨⟨rfl,hw e (by simp)⟩,y6v ws q (fun e he=>hw e (by simp [he])) h⟩
theorem y6u {L:Nat}:∀ (fs:List Nat) (b:Bool),(∀ o∈fs,o < 64 * L)->y1v L b (fs.map Ins.fl++[Ins.fe])
 | [],_,_=>⟨trivial,rfl⟩
 | f :: fs,_,h=>⟨h f (by simp),y6u fs true (fun o ho=>h o (by simp [ho]))⟩
theorem x1a:∀ (ws:List (Nat × Nat)) (D N:Nat->Prop),(∀ k,(dirP (D,N) (ws.map stI)).1 k->D k\/∃ e∈ws,k=e.1 / 8)
 | [],_,_,_,h => .inl h
 | e :: ws,D,N,k,h=>by
  rcases x1a ws (fun k=>D k\/k=e.1 / 8) (fun _=>False) k h with (h | h) | ⟨e',he',h⟩
  ·exact .inl h
  ·exact .inr ⟨e,by simp,h⟩
  ·exact .inr ⟨e',by simp [he'],h⟩
theorem y6i:∀ (fs:List Nat) (D N:Nat->Prop) (i:Nat),N i->(dirP (D,N) (fs.map Ins.fl)).2 i
 | [],_,_,_,h=>h
 | f :: fs,D,N,i,h=>y6i fs D (fun i=>N i\/i=f / 64) i (.inl h)
theorem y4d:∀ (fs:List Nat) (D N:Nat->Prop),(∀ k,(dirP (D,N) (fs.map Ins.fl)).1 k->D k)/\∀ f∈fs,(dirP (D,N) (fs.map Ins.fl)).2 (f / 64)
 | [],_,_=>⟨fun _ h=>h,fun _ h=>by cases h⟩
 | f :: fs,D,N=>by
  have ih:=y4d fs D (fun i=>N i\/i=f / 64);refine ⟨fun k h=>ih.1 k h,fun g hg=>?_⟩;rcases List.mem_cons.1 hg with rfl | hg
  ·exact y6i fs D _ _ (.inr rfl)
  ·exact ih.2 g hg
theorem x9e {ws:List (Nat × Nat)} {fs:List Nat} (h:∀ e∈ws,z1i e.1∈fs):x2q (ws.map stI++fs.map Ins.fl++[Ins.fe]):=fun D k hk=>by
 rw [z7j,z7j] at hk;have Ga:(dirP (dirP (D,fun _=>False) (ws.map stI)) (fs.map Ins.fl)).1 k/\¬ (dirP (dirP (D,fun _=>False) (ws.map stI)) (fs.map Ins.fl)).2 (k / 8):=hk;rcases x1a ws D _ k ((y4d fs _ _).1 k Ga.1) with h1 | ⟨e,he,h1⟩
 ·exact h1
 ·refine absurd ?_ Ga.2
  have h2:=(y4d fs (dirP (D,fun _=>False) (ws.map stI)).1 (dirP (D,fun _=>False) (ws.map stI)).2).2 _ (h e he);have h3:z1i e.1 / 64=k / 8:=by unfold z1i;omega
  rw [h3] at h2;exact h2
theorem z1o {L:Nat} {ws:List (Nat × Nat)} {p:List Ins} (h:z0y ws p) (hw:∀ e∈ws,e.1 % 8=0/\e.1 < 64 * L/\e.2 < 18446744073709551616) (cur:Nat->Nat) :
  y6s L false p/\runP cur p=wrS cur ws/\p.length<=2 * ws.length+1:=by
 obtain ⟨fs,rfl,hl,hq,Ga⟩:=h;refine ⟨⟨?_,x9e Ga⟩,?_,by simp;omega⟩
 ·rw [List.append_assoc]
  refine y6v ws _ hw (y6u fs false fun o ho=>?_);obtain ⟨e,he,rfl⟩:=hq o ho;have:=(hw e he).2.1;unfold z1i;omega
 ·rw [z6k,z6k,x2d,x2c]
  rfl
theorem y2m (ad:Addr) (n c:Nat) (l:List Nat) (w:World) (h:z0c w w.heap.size 1 (some ad) n (z0a l)) (hn:n<=100000) :
  Calls Tryz.prog 190 #[.slice (some ad) n c] w (fun e w'=>∃ A' m' c',e=.returned (.slice A' m' c')/\m'=n/\w'.ownsRow w.heap.size 32 1 (.slice A' m' c') m' (z0a l)/\Blw w w'):=by
 have H:=hid h;clear h;have Ge:∀ W,(binOp .eql 99 (.slice (some ad) n c) (.slice none 0 0)).run Tryz.prog W=.ok (.bool false) W:=fun W=>Lib.run_eql_slice_some_nil W _ _ _ Tryz.underlying99
 obtain ⟨i0,Gd,Gf,Gg,Gh⟩:=info_parts z5t;have HO:Hid ((w.alloc (.cells #[] 32)).ownsRow w.heap.size 32 1 (.slice (some ⟨w.heap.size,0,none⟩) 0 0) 0 []):=World.ownsRow_made w #[] 0 (nL _) (by unfold maxLen;omega) (by simp);go_enter Tryz.func190,Tryz.ntmps190
 go_wp2_with (at_builtin;refine z0p _ (.tmp 5) (.tmp 6) 99 rfl rfl w.heap.size 32 i0 _ 1 8 Tryz.underlying99 Gd Gf Gg Gh rfl ?q1 (.slice (some ⟨w.heap.size,0,none⟩) 0 0) 0 [] rfl HO.out w.heap.size (some ad) n c (z0a l) rfl ?q5 ?q6 ?q2 ?q3 ?q4 ?_;(case q1=>omega);(case q5=>exact H.out.alloc (nL _) _);(case q6=>exact z2z l);(case q2=>(unfold maxLen;omega));(case q3=>omega);(case q4=>(simp));intro A3 n3 c3 w8 hn3 ho3 hg3 hb3;have Gb:=hid hn3;have Gc:=hid ho3;have Ga:=hid (((Below.refl _ w).alloc (nL _) _).trans hb3);clear hn3 ho3 hg3 hb3)
 go_ret;refine ⟨_,_,_,rfl,Gb.out.trans (Nat.zero_add _),?_,Ga.out⟩;have:=Gc.out;rw [List.nil_append] at this;exact this
end
section
open Go.RowKit Go.Maps
theorem z2b {w:World} {B n:Nat} {A:Option Addr} {l:List Nat} (h:z0c w B 1 A n (z0a l)) {k:Nat} (hk:k < n) :
  ∃ (hl:k < l.length) (b off:Nat),A=some ⟨b,off,none⟩/\b < B/\w.cell? ⟨b,off+k,none⟩=some (.int .u64 ((l[k]):Int)):=by
 have hl:k < l.length:=by have:=h.1;simp [z0a] at this;omega
 obtain ⟨b,off,hA,hb,hc⟩:=h.plain oM oM;exact ⟨hl,b,off,hA,hb,hc k _ (by simp [z0a,hl])⟩
def entW (z n:Nat):List (Nat × Nat)->List (Nat × Nat)
 | []=>[]
 | e :: l=>(z+64+16 * n,e.1) :: (z+64+16 * n+8,e.2) :: entW z (n+1) l
theorem y6l (z:Nat):∀ (l:List (Nat × Nat)) (n:Nat) (e:Nat × Nat),entW z n (l++[e])=entW z n l++[(z+64+16 * (n+l.length),e.1),(z+64+16 * (n+l.length)+8,e.2)]
 | [],n,e=>by simp [entW]
 | x :: l,n,e=>by
  have:=y6l z l (n+1) e;simp only [List.cons_append,entW,this,List.length_cons];rw [show n+1+l.length=n+(l.length+1) by omega]
theorem y4f (z:Nat):∀ (l:List (Nat × Nat)) (n:Nat),(entW z n l).length=2 * l.length
 | [],n=>rfl
 | x :: l,n=>by have:=y4f z l (n+1);simp only [entW,List.length_cons,this];omega
theorem z9p (z:Nat):∀ (l:List (Nat × Nat)) (n:Nat) (e:Nat × Nat),e∈entW z n l->∃ j,j < l.length/\(e.1=z+64+16 * (n+j)\/e.1=z+64+16 * (n+j)+8)/\∃ x∈l,e.2=x.1\/e.2=x.2
 | [],n,e,h=>by simp [entW] at h
 | x :: l,n,e,h=>by
  simp only [entW,List.mem_cons] at h;rcases h with rfl | rfl | h
  ·exact ⟨0,by simp,.inl (by simp),x,by simp,.inl rfl⟩
  ·exact ⟨0,by simp,.inr (by simp),x,by simp,.inr rfl⟩
  ·obtain ⟨j,h1,h2,y,hy,h3⟩:=z9p z l (n+1) e h
   refine ⟨j+1,by simp;omega,?_,y,by simp [hy],h3⟩;rcases h2 with h2 | h2
   ·exact .inl oM
   ·exact .inr oM
def w4o (w:World) (P:List Ins->Prop) (e:Ending) (w':World):Prop:=∃ A m c p,e=.returned (.tuple #[.slice A m c,.int .i64 0])/\P p/\w'.ownsRow w.heap.size 284 3 (.slice A m c) m (z0j p)/\Blw w w'
theorem z2p {ws:List (Nat × Nat)} {p:List Ins} (h:z0y ws p):p.length<=2 * ws.length+1:=by
 obtain ⟨fs,rfl,hf,_⟩:=h;simp;omega
def OIdx (w:World) (b n:Nat) (ws:List (Nat × Nat)) (k:Nat):Prop:=∃ D:DataW Unit,w.ownsMap Tryz.prog 32 (plainElem Tryz.prog 3) b n D/\∀ i (h:i < ws.length),i < k->D.atKey (kU (ws[i]).1) (.lit (.int .i64 0))=.lit (.int .i64 i)
def Diff (ws:List (Nat × Nat)):Prop:=∀ i j (hi:i < ws.length) (hj:j < ws.length),i≠j->(ws[i]).1≠(ws[j]).1
theorem OIdx.new (w:World) (ws:List (Nat × Nat)):OIdx (w.alloc (.map #[] 0)) w.heap.size 0 ws 0:=⟨_,World.ownsMap_made w _ _ _,fun i _ h=>absurd h oM⟩
theorem OIdx.look {w:World} {b n k:Nat} {ws:List (Nat × Nat)} (h:OIdx w b n ws k) {i:Nat} (hl:i < ws.length) (hk:i < k) (hx:(ws[i]).1 < 18446744073709551616) :
  (Instr.lookup 427 (.map (some b)) (.int .u64 ((ws[i]).1:Int)) false).run Tryz.prog w=.ok (.int .i64 i) w:=by
 obtain ⟨D,ho,hd⟩:=h;obtain ⟨c,Ga,hc,_⟩:=ho.lookup_int y0s Tryz.underlying427 Tryz.underlying3 (by kernel_rfl) (keyU hx);rw [hd i hl hk] at hc;injection hc with hc
 injection hc with _ hc
 rw [Ga,<- hc]
theorem OIdx.add {w:World} {b n k:Nat} {ws:List (Nat × Nat)} (h:OIdx w b n ws k) (hn:n < maxLen) (hd':Diff ws) (hl:k < ws.length) (hx:(ws[k]).1 < 18446744073709551616) (hk:k<=1000000) :
  ∃ w',(Instr.mapUpdate 427 (.map (some b)) (.int .u64 ((ws[k]).1:Int)) (.int .i64 k)).run Tryz.prog w=.ok () w'/\OIdx w' b (n+1) ws (k+1)/\w.grownBy w' (some b):=by
 obtain ⟨D,ho,hd⟩:=h;obtain ⟨w',Ga,Gb,hg⟩:=ho.update y0s Tryz.underlying427 hn (keyU hx) (plainElem_int Tryz.underlying3 (a:=(k:Int)) (by
  have hm:IntKind.i64.min = -9223372036854775808:=by decide
  have hx:IntKind.i64.max=9223372036854775807:=by decide
  simp only [Lit.wf,hm,hx,Bool.and_eq_true,decide_eq_true_eq];omega))
 refine ⟨w',Ga,⟨_,Gb,fun i hi hik=>?_⟩,hg⟩;by_cases e:i=k
 ·subst e
  rw [atKey_put_same ho.isMap (x1j _)]
 ·rw [atKey_put_other (x3w (hd' i k hi hl e)),hd i hi oM]
theorem OIdx.alloc {w:World} {b n k:Nat} {ws:List (Nat × Nat)} (h:OIdx w b n ws k) (o:Obj):OIdx (w.alloc o) b n ws k:=by
 obtain ⟨D,ho,hd⟩:=h;exact ⟨D,ho.alloc o,hd⟩
theorem OIdx.kept {w w':World} {b n k:Nat} {ws:List (Nat × Nat)} {row:Option Nat} (h:OIdx w b n ws k) (hg:w.grownBy w' row) (hne:some b≠row):OIdx w' b n ws k:=by
 obtain ⟨D,ho,hd⟩:=h;exact ⟨D,ho.kept hg hne,hd⟩
theorem OIdx.ne_own {w:World} {b n k:Nat} {ws:List (Nat × Nat)} (h:OIdx w b n ws k) {base:Nat} {e:TypeId} {size m:Nat} {v:Value} {xs:List Value} (ho:w.ownsRow base e size v m xs):some b≠v.ownBlock:=by
 obtain ⟨D,hm,_⟩:=h;exact z2q hm ho
theorem w1r (A:Option Addr) (n c:Nat) (ws:List (Nat × Nat)) (w:World) (h:z0c w w.heap.size 2 A n (z0d ws)) (hd:Diff ws) (hv:∀ i (h:i < ws.length),(ws[i]).1 < 18446744073709551616) (hn:n<=1000) :
  Calls Tryz.prog 248 #[.slice A n c] w (w7i w ws):=by
 obtain ⟨i0,Gq,Gw,Gx,Gy⟩:=info_parts z2i;have HR:=hid h;have HD:=hid hd;have HV:=hid hv;have Gf:=hid (show ws.length=n by have:=h.1;rw [z0z] at this;omega);have Gt:∀ W,(Instr.makeMap 427 none).run Tryz.prog W=.ok (.map (some W.heap.size)) (W.alloc (.map #[] 0)):=fun _=>rfl
 have Gd:Hid (OIdx (w.alloc (.map #[] 0)) w.heap.size 0 ws 0):=hid (OIdx.new w ws);have Gb:Hid (Blw w (w.alloc (.map #[] 0))):=hid ((Below.refl _ w).alloc (nL _) _);clear h hd hv;go_enter Tryz.func248,Tryz.ntmps248
 go_wp2;clear Gt;go_loopw [12] (fun i wr=>∃ k:Nat,k<=n/\i=.int .i64 k/\Hid (OIdx wr w.heap.size k ws k)/\Hid (Blw w wr)) (fun i _=>n - (Go.RowKit.intOf i).toNat)
 case atStart=>exact ⟨0,Nat.zero_le _,rfl,Gd,Gb⟩
 case round =>
  clear Gd Gb;obtain ⟨k,hk,rfl,HI,HB⟩:=hrel;by_cases hlt:k < n
  ·obtain ⟨hl,b,G1,hA,Gp,f0,f1⟩:=z5f (HR.out.below HB.out) hlt
   subst hA;have Gz:(0:Int)<=(k:Int):=oM;have G0:(k:Int) < (n:Int):=oM;obtain ⟨w3,Gv,Gk,Gj⟩:=(HI.out.alloc (.cells #[.int .u64 ((ws[k]).1:Int),.int .u64 ((ws[k]).2:Int)] 114)).add (by unfold maxLen;omega) HD.out hl (HV.out k hl) oM;have Gm:=hid Gk;have Gl:=hid ((HB.out.alloc HB.out.size (.cells #[.int .u64 ((ws[k]).1:Int),.int .u64 ((ws[k]).2:Int)] 114)).grown Gj (Nat.le_trans HB.out.size (by simp)) (fun g hg=>by cases hg;exact nL _));generalize ws[k]=e at *;clear Gk Gj HI HB;go_wp2;go_roundw
   case rel=>exact ⟨k+1,oM,by go_num,Gm,Gl⟩
   case measure=>simp [Go.RowKit.intOf];omega
  ·have Gr:k=n:=oM
   subst Gr;have Gg:Hid (wr.ownsRow w.heap.size 114 2 (.slice none 0 0) 0 (z0d (ws.take 0))):=hid (World.ownsRow_nil _ _ _ _);go_wp2;go_loopw [6,24] (fun l i wr=>∃ (q:Nat) (A1:Option Addr) (c1:Nat),q<=k/\i=.int .i64 q/\l=.slice A1 q c1/\Hid (wr.ownsRow w.heap.size 114 2 (.slice A1 q c1) q (z0d (ws.take q)))/\Hid (OIdx wr w.heap.size k ws k)/\Hid (Blw w wr)) (fun _ i _=>k - (Go.RowKit.intOf i).toNat)
   case atStart=>exact ⟨0,_,_,Nat.zero_le _,rfl,rfl,Gg,HI,HB⟩
   case round =>
    clear HI HB Gg;obtain ⟨q,A1,c1,hq,rfl,rfl,HO,HI,HB⟩:=hrel;by_cases hlt2:q < k
    ·obtain ⟨hl,b,G1,hA,Gp,f0,f1⟩:=z5f (HR.out.below HB.out) hlt2
     subst hA;have Gz:(0:Int)<=(q:Int):=oM;have G0:(q:Int) < (k:Int):=oM;have Gs:=(HI.out.alloc (.cells #[.int .u64 ((ws[q]).1:Int),.int .u64 ((ws[q]).2:Int)] 114)).look hl hlt2 (HV.out q hl);have Gn:=hid (w8u ws q hl);generalize ws[q]=e at *;have G2:w.heap.size<=wr.heap.size:=HB.out.size;go_wp2_with (at_builtin;refine stop ?_)
     unfold Stop;have Gi:=hid (z0m (wr.alloc (.cells #[.int .u64 e.1,.int .u64 e.2] 114)) _ rfl [.int .u64 e.1,.int .u64 e.2] 1 2 114 _ rfl rfl);rw [World.size_alloc] at Gi;refine z0p _ (.tmp 35) (.tmp 37) 108 rfl rfl w.heap.size 114 i0 _ 2 16 Tryz.underlying108 Gq Gw Gx Gy rfl oM (.slice A1 q c1) q (z0d (ws.take q)) rfl ((HO.out.alloc _).alloc _) (wr.heap.size+1+1) (some ⟨wr.heap.size+1,0,none⟩) 1 1 [.int .u64 e.1,.int .u64 e.2] rfl Gi.out (z7x _ _) (by unfold maxLen;omega) oM (by simp;omega) ?_;intro A3 n3 c3 w8 hn3 ho3 hg3 hb3;have Ga:n3=q+1:=oM;subst Ga;have Gh:Hid (w8.ownsRow w.heap.size 114 2 (.slice A3 (q+1) c3) (q+1) (z0d (ws.take (q+1)))):=hid (by rw [Gn.out,z6e];exact ho3);have Ge:Hid (OIdx w8 w.heap.size k ws k):=hid (((HI.out.alloc _).alloc _).kept hg3 (HI.out.ne_own HO.out));have Gc:=hid (((HB.out.alloc HB.out.size _).alloc (by simp;omega) _).trans hb3);clear hn3 ho3 hg3 hb3 Gs;go_wp2;go_roundw
     case rel =>
      first
       | exact ⟨q+1,_,_,oM,by go_num,rfl,Gh,Ge,Gc⟩
       | (
         repeat apply Exists.intro
         refine ⟨?_,rfl⟩;exact ⟨q+1,_,_,oM,by go_num,rfl,Gh,Ge,Gc⟩)
     case measure=>simp [Go.RowKit.intOf];omega
    ·have Gu:q=k:=oM
     subst Gu;go_wp2;go_ret;have h:=HO.out;rw [List.take_of_length_le (by rw [Gf.out];exact nL _)] at h;exact ⟨_,_,_,rfl,Gf.out.symm,h,HB.out⟩
end
section
open Go.RowKit
theorem z2s.back {w w1 w':World} {P:List Ins->Prop} {e:Ending} (hb:Blw w w1) (h:z2s w1 P e w'):z2s w P e w':=by
 obtain ⟨A,m,c,p,he,hp,ho,Ga⟩:=h;exact ⟨A,m,c,p,he,hp,z6q ho hb.size,hb.trans (Ga.mono hb.size)⟩
theorem z2c.back {a:DA} {L T:Nat} {w w1 w':World} {S:Fp} {cur:Nat->Nat} {F:Nat} {v:Value} {e:Ending} (hb:Blw w w1) (h:z2c a L T w1 S cur F v e w'):z2c a L T w S cur F v e w':=by
 obtain ⟨he,S',hd,hc,hg⟩:=h;exact ⟨he,S',hd,(Chg.of_below hb).trans hc (Grew.refl _ _),(Grew.refl S w).trans hg hb.size⟩
theorem z2c.then_ {a:DA} {L T:Nat} {w w1 w':World} {S S1:Fp} {cur:Nat->Nat} {F:Nat} {v:Value} {e:Ending} (hc1:Chg S w w1) (hg1:Grew S S1 w) (h:z2c a L T w1 S1 cur F v e w'):z2c a L T w S cur F v e w':=by
 obtain ⟨he,S',hd,hc,hg⟩:=h;exact ⟨he,S',hd,hc1.trans hc hg1,hg1.trans hg hc1.size⟩
theorem z8l {a:DA} {L T:Nat} {w:World} {S:Fp} {cur:Nat->Nat} (h:Dev a L T w S cur 0) {A:Option Addr} {m c base:Nat} {p:List Ins} {ws:List (Nat × Nat)} (ho:w.ownsRow base 284 3 (.slice A m c) m (z0j p)) (hb:∀ k,S k->k < base) (hp:z0y ws p)
  (hw:∀ e∈ws,e.1 % 8=0/\e.1 < 64 * L/\e.2 < 18446744073709551616) (hl:ws.length<=1000) (hT:T+(2 * ws.length+1)<=1000000000) :
  Calls Tryz.prog 78 #[.slice A m c,memV a] w (z2c a L (T+(2 * ws.length+1)) w S (wrS cur ws) 0 (.int .i64 0)):=by
 obtain ⟨hg,hr,Gb⟩:=z1o hp hw cur;have hm:p.length=m:=by have:=ho.1;rw [z0v] at this;omega
 refine (y5d h A m c p (z0c.of_own ho) ?_ hg oM oM).mono ?_
 ·intro ad had hs
  rcases ho.2 with ⟨hv,_⟩ | ⟨g,cap,cs,hv,hge,_⟩
  ·injection hv with h1;rw [h1] at had;cases had
  ·injection hv with h1
   rw [h1] at had;injection had with h2
   subst h2;have:=hb _ hs;simp at this;omega
 ·rintro e w' ⟨he,S',hd,hc,Ga⟩
  rw [hr] at hd;exact ⟨he,S',hd.more oM oM,hc,Ga⟩
theorem z4i (w:World) (o v:Nat):z0c (w.alloc (.cells #[.int .u64 o,.int .u64 v] 114)) (w.alloc (.cells #[.int .u64 o,.int .u64 v] 114)).heap.size 2 (some ⟨w.heap.size,0,none⟩) 1 (z0d [(o,v)]):=by
 rw [show (w.alloc (.cells #[.int .u64 o,.int .u64 v] 114)).heap.size=w.heap.size+1 by simp];exact z0m w _ rfl _ 1 2 114 _ rfl rfl
theorem y4q (a:DA) (s n g v:Nat) (w:World) (hB:Blk w g 353 (z1h a s n)) (hs:64 * s < 18446744073709551616) :
  Calls Tryz.prog 170 #[.pointer (some ⟨g,0,none⟩),.int .u64 v] w (z2s w (z0y [(64 * s,v)])):=by
 have f1:w.cell? ⟨g,1,none⟩=some (.int .u64 ((64 * s:Nat):Int)):=hB.cell 1;have HS:=hid (z1q _ 1 1 _ _ (z4i w (64 * s) v) oM oM (fun e he=>by simp at he;subst he;exact hs));generalize 64 * s=o at *;clear hB;go_enter Tryz.func170,Tryz.ntmps170
 go_wp2_with (go_at_call 105;refine HS.out.mono ?_;intro e w1 h1;have h2:=z2s.back ((Below.refl _ _).alloc (nL _) _) h1;obtain ⟨A1,m1,c1,p1,rfl,Gc,Gb,Ga⟩:=h2;have Gf:=hid Gc;have Ge:=hid Gb;have Gd:=hid Ga;clear h1 Gc Gb Ga)
 go_ret;exact ⟨_,_,_,_,rfl,Gf.out,Ge.out,Gd.out⟩
theorem y1y {a:DA} {L T:Nat} {w:World} {S:Fp} {cur:Nat->Nat} (h:Dev a L T w S cur 0) (s n:Nat) (hn:26<=n) (hs:s+n<=L) (hT:T+3<=1000000000) :
  Calls Tryz.prog 74 #[memV a,.int .i64 s,.int .i64 n] w (z2c a L (T+3) w S (wrS cur [(64 * s,0)]) 0 (.int .i64 0)):=by
 have HD:=hid h;have HH:=hid (y2r h s n hn hs);have Ga:Hid (Blw w (w.alloc (.cells (z1h a s n) 353))):=(Below.refl _ _).alloc (nL _) _;obtain ⟨ls,Gi,Gl,cs,Gk,Gb,Gh⟩:=HD.out.below Ga.out;have hL:=Gb.hL;obtain ⟨f0,_,_,_,g2⟩:=Gb.facts (j:=0) oM;have HM:=hid (y4q a s n w.heap.size 0 (w.alloc (.cells (z1h a s n) 353)) (Blk.new _ _ _) oM);have Gc:=hid Gb.lt;have HR:Hid (∀ (A:Option Addr) (m c:Nat) (p:List Ins) (w1:World),z0y [(64 * s,0)] p->w1.ownsRow (w.alloc (.cells (z1h a s n) 353)).heap.size 284 3 (.slice A m c) m (z0j p)->Below (w.alloc (.cells (z1h a s n) 353)).heap.size (w.alloc (.cells (z1h a s n) 353)) w1 ->
   Calls Tryz.prog 78 #[.slice A m c,memV a] w1 (z2c a L (T+3) w S (wrS cur [(64 * s,0)]) 0 (.int .i64 0))):=fun A m c p w1 hp ho hb=>by
  refine (z8l ((HD.out.below Ga.out).below hb) ho Gc.out hp (fun e he=>by simp at he;subst he;omega) (by simp) (by simpa using hT)).mono ?_;intro e w2 h2;exact z2c.back (Ga.out.trans (hb.mono (by simp))) (by simpa using h2)
 have Gj:=z1z (some ⟨a.th 0,0,none⟩);clear Gb Gh h Ga HD Gc;unfold memV at *;go_enter Tryz.func74,Tryz.ntmps74
 go_wp2_with (first
  | (go_at_call 169;refine HH.out.mono ?_;rintro e w1 ⟨rfl,rfl⟩)
  | (go_at_call 170;refine HM.out.mono ?_;rintro e w1 ⟨A1,m1,c1,p1,rfl,Gf,Ge,Gd⟩;have Gg:=hid (HR.out A1 m1 c1 p1 w1 Gf Ge Gd);clear Gf Ge Gd)
  | (go_at_call 78;refine Gg.out.mono ?_;rintro e w2 ⟨rfl,h2⟩;have HZ:=hid h2;clear h2)
  | go_in)
 go_ret;exact ⟨rfl,HZ.out⟩
theorem w1o:(Tryz.prog.info? 298).map (fun i=>(i.zero,i.size,i.bytes))=some (some (.agg #[.int .u64 0,.slice none 0 0]),2,32):=by kernel_rfl
def Of1 (w wx:World) (pb L:Nat) (pl:List Nat) (v:Value):Prop:=∃ d cb cc lb cs ls,v=.pointer (some ⟨d,0,none⟩)/\Blk wx d 158 #[.slice (some ⟨pb,0,none⟩) (8 * L) (8 * L),.slice (some ⟨cb,0,none⟩) (8 * L) cc,.slice (some ⟨lb,0,none⟩) L L,.pointer none,.pointer none,.pointer none,.pointer none,.pointer none,.pointer none,.pointer none,.pointer none,.bool false,.bool false,.int .i64 0,.int .u64 0] /\
 Blk wx cb 32 cs/\cs.size=cc/\8 * L<=cc/\cc<=9223372036854775807/\RowU cs pl/\Blk wx lb 298 ls/\ls=madeCells (Value.agg #[.int .u64 0,.slice none 0 0]).cells (L * 2)/\Blw w wx/\w.heap.size<=cb/\w.heap.size<=lb/\w.heap.size<=d
theorem Blk.new2 (w:World) (o:Obj) (t:TypeId) (cs:Array Value):Blk ((w.alloc o).alloc (.cells cs t)) (w.heap.size+1) t cs:=by
 have h:=Blk.new (w.alloc o) t cs;rw [show (w.alloc o).heap.size=w.heap.size+1 by simp] at h;exact h
theorem w5w {w wx:World} {pb L d lb m1 c1:Nat} {pl:List Nat} {A1:Option Addr} (h0:0 < L) (hd:Blk wx d 158 #[.slice (some ⟨pb,0,none⟩) (8 * L) (8 * L),.slice A1 m1 c1,.slice (some ⟨lb,0,none⟩) L L,.pointer none,.pointer none,.pointer none,.pointer none,.pointer none,.pointer none,.pointer none,.pointer none,.bool false,.bool false,.int .i64 0,.int .u64 0]) (ho:wx.ownsRow w.heap.size 32 1 (.slice A1 m1 c1) m1 (z0a pl)) (hm:m1=8 * L)
  (hl:Blk wx lb 298 (madeCells (Value.agg #[.int .u64 0,.slice none 0 0]).cells (L * 2))) (hb:Blw w wx) (h1:w.heap.size<=lb) (h2:w.heap.size<=d):Of1 w wx pb L pl (.pointer (some ⟨d,0,none⟩)):=by
 obtain ⟨g,Gi,Gh,Ge,Gf⟩:=ho.form oM;have hA:A1=some ⟨g,0,none⟩:=by injection Gh
 subst hA;obtain ⟨Ga,Gc,Gd,Gg,Gj⟩:=x8c ho;have Gb:=z4z ho;subst hm;exact ⟨d,g,c1,lb,Ga,_,rfl,hd,Gc,Gd,oM,oM,Gg,hl,rfl,hb,Ge,h1,h2⟩
structure OfI (w wr:World) (pb L d cb cc lb:Nat) (cs ls:Array Value) (th nt:Nat->Nat) (k:Nat):Prop where
 dev:∃ dc,Blk wr d 158 dc/\dc.size=15/\dc[0]?=some (.slice (some ⟨pb,0,none⟩) (8 * L) (8 * L))/\dc[1]?=some (.slice (some ⟨cb,0,none⟩) (8 * L) cc)/\dc[2]?=some (.slice (some ⟨lb,0,none⟩) L L)/\dc[11]?=some (.bool false)/\dc[12]?=some (.bool false)/\dc[13]?=some (.int .i64 0)/\dc[14]?=some (.int .u64 0)/\∀ j,j < k->dc[3+j]?=some (.pointer (some ⟨th j,0,none⟩))
 cur:Blk wr cb 32 cs
 lin:Blk wr lb 298 ls
 thr:∀ j,j < k->Blk wr (th j) 268 #[.pointer (some ⟨d,0,none⟩),.int .i64 j,.int .i64 0,.map (some (nt j))]
 map:0 < k->wr.ownsMap Tryz.prog 3 (plainElem Tryz.prog 32) (nt 0) 0 (.map ([]:List (Lit × DataW Unit)))
 below:Blw w wr
 gd:w.heap.size<=d
 gt:∀ j,j < k->w.heap.size<=th j/\w.heap.size<=nt j
theorem w8j {w wr:World} {pb L d cb cc lb:Nat} {cs ls:Array Value} {th nt:Nat->Nat} {k:Nat} (H:OfI w wr pb L d cb cc lb cs ls th nt k) (hk:k < 8) :
  OfI w (((wr.setCell ⟨d,3+k,none⟩ (.pointer (some ⟨wr.heap.size+1,0,none⟩))).alloc (.map #[] 0)).alloc (.cells #[.pointer (some ⟨d,0,none⟩),.int .i64 k,.int .i64 0,.map (some wr.heap.size)] 268)) pb L d cb cc lb cs ls (fun j=>if j=k then wr.heap.size+1 else th j) (fun j=>if j=k then wr.heap.size else nt j) (k+1):=by
 obtain ⟨⟨dc,hd,Ga,e0,e1,e2,e3,e4,e5,e6,e7⟩,hcu,hli,hth,hmp,hbl,hgd,hgt⟩:=H;have hs:(wr.setCell ⟨d,3+k,none⟩ (.pointer (some ⟨wr.heap.size+1,0,none⟩))).heap.size=wr.heap.size:=by simp
 have hc:Chg (fun g=>g=d) wr (((wr.setCell ⟨d,3+k,none⟩ (.pointer (some ⟨wr.heap.size+1,0,none⟩))).alloc (.map #[] 0)).alloc (.cells #[.pointer (some ⟨d,0,none⟩),.int .i64 k,.int .i64 0,.map (some wr.heap.size)] 268)):=(((Chg.refl (fun g=>g=d) wr).setCell (p:=⟨d,3+k,none⟩) (.inl rfl) _).alloc _).alloc _;refine ⟨⟨_,((hd.set_ (3+k) _).alloc _).alloc _,by simpa using Ga,?_,?_,?_,?_,?_,?_,?_,?_⟩,hc.blk hcu (fun e=>hcu.ne_ hd (by decide) e),hc.blk hli (fun e=>hli.ne_ hd (by decide) e),?_,?_,?_,hgd,?_⟩
 ·rw [Array.getElem?_setIfInBounds_ne oM];exact e0
 ·rw [Array.getElem?_setIfInBounds_ne oM];exact e1
 ·rw [Array.getElem?_setIfInBounds_ne oM];exact e2
 ·rw [Array.getElem?_setIfInBounds_ne oM];exact e3
 ·rw [Array.getElem?_setIfInBounds_ne oM];exact e4
 ·rw [Array.getElem?_setIfInBounds_ne oM];exact e5
 ·rw [Array.getElem?_setIfInBounds_ne oM];exact e6
 ·intro j hj
  by_cases hjk:j=k
  ·subst hjk
   rw [Array.getElem?_setIfInBounds_self_of_lt oM];simp
  ·rw [Array.getElem?_setIfInBounds_ne oM,e7 j oM]
   simp [hjk]
 ·intro j hj
  by_cases hjk:j=k
  ·subst hjk
   have h:=Blk.new2 (wr.setCell ⟨d,3+j,none⟩ (.pointer (some ⟨wr.heap.size+1,0,none⟩))) (.map #[] 0) 268 #[.pointer (some ⟨d,0,none⟩),.int .i64 j,.int .i64 0,.map (some wr.heap.size)];rw [hs] at h;simpa using h
  ·have h:=hc.blk (hth j oM) (fun e=>(hth j oM).ne_ hd (by decide) e)
   simpa [hjk] using h
 ·intro _
  by_cases hk0:0=k
  ·subst hk0
   have h:=World.ownsMap_made (H:=Unit) (wr.setCell ⟨d,3+0,none⟩ (.pointer (some ⟨wr.heap.size+1,0,none⟩))) Tryz.prog 3 (plainElem Tryz.prog 32);rw [hs] at h;have h2:=((Chg.refl Fp.no _).alloc (.cells #[.pointer (some ⟨d,0,none⟩),.int .i64 ((0:Nat):Int),.int .i64 0,.map (some wr.heap.size)] 268)).map h (fun h=>h);simpa using h2
  ·have h:=hc.map (hmp oM) (fun e=>z1s (hmp oM) hd e)
   simpa [hk0] using h
 ·have h1:=(hbl.setCell (p:=⟨d,3+k,none⟩) hgd (.pointer (some ⟨wr.heap.size+1,0,none⟩)))
  exact (h1.alloc h1.size _).alloc (Nat.le_trans h1.size (by simp)) _
 ·intro j hj
  have:=hbl.size;by_cases hjk:j=k
  ·simp [hjk];omega
  ·simpa [hjk] using hgt j oM
def w7a (w:World) (pb L:Nat) (pl:List Nat) (e:Ending) (w':World):Prop:=∃ (d cb cc lb:Nat) (cs ls:Array Value) (th nt:Nat->Nat),e=.returned (.pointer (some ⟨d,0,none⟩))/\OfI w w' pb L d cb cc lb cs ls th nt 8/\cs.size=cc/\8 * L<=cc/\cc<=9223372036854775807/\RowU cs pl/\ls=madeCells (Value.agg #[.int .u64 0,.slice none 0 0]).cells (L * 2)/\w.heap.size<=cb/\w.heap.size<=lb
theorem w4b (pb L:Nat) (pl:List Nat) (hL:L<=4096) (h0:0 < L) (w:World) (hp:z0c w w.heap.size 1 (some ⟨pb,0,none⟩) (8 * L) (z0a pl)) :
  Calls Tryz.prog 168 #[.slice (some ⟨pb,0,none⟩) (8 * L) (8 * L)] w (w7a w pb L pl):=by
 obtain ⟨j0,Gs,Gt,Gg,Gu⟩:=info_parts w1o;have Gv:∀ W:World,(Instr.makeSlice 155 (.int .i64 L) (.int .i64 L)).run Tryz.prog W=.ok (.slice (some ⟨W.heap.size,0,none⟩) L L) (W.alloc (.cells (madeCells (Value.agg #[.int .u64 0,.slice none 0 0]).cells (L * 2)) 298)):=fun W=>by
  have h:=run_makeSlice (P:=Tryz.prog) W 155 298 j0 _ Tryz.underlying155 Gs Gt .i64 .i64 (L:Int) (L:Int) oM oM (by rw [Gg];omega) (by rw [Gu];omega) oM;rw [Gg] at h;simpa using h
 have HJ:Hid (∀ (wx:World) (d lb m1 c1:Nat) (A1:Option Addr),_):=fun wx d lb m1 c1 A1=>w5w (pl:=pl) (w:=w) (wx:=wx) (pb:=pb) (d:=d) (lb:=lb) (m1:=m1) (c1:=c1) (A1:=A1) h0
 generalize madeCells (Value.agg #[.int .u64 0,.slice none 0 0]).cells (L * 2)=M at *;have HC:=hid (fun (W:World) (hW:Blw w W)=>y2m ⟨pb,0,none⟩ (8 * L) (8 * L) _ W ((hp.below hW).more hW.size) oM);generalize hN:8 * L=N at *;have d1:(N:Int).tdiv 8=(L:Int):=by rw [Int.tdiv_eq_ediv_of_nonneg oM];omega
 have d2:(N:Int) / 8=(L:Int):=oM;have wL:IntKind.i64.wrap (L:Int)=(L:Int):=by rw [IntKind.wrap_i64];omega
 have HN:=hid hN;clear hN hp;go_enter Tryz.func168,Tryz.ntmps168
 go_wp2_with fail
 go_cut [3] from 5 to 13 (fun v wx=>Hid (Of1 w wx pb L pl v))
 case first =>
  go_region_with (go_at_call 190;refine (HC.out _ (by first | exact (Below.refl _ _).drew | exact (Below.refl _ _).drew.alloc (nL _) _)).mono ?_;rintro e w1 ⟨A1,m1,c1,rfl,Gi,Gj,Gf⟩;have Ge:=hid Gj;have Ga:=hid Gf;have Gd:=hid Gi;clear Gj Gf Gi)
  ·go_wp2_with fail
   go_meet;exact HJ.out _ _ _ _ _ _ (Blk.new2 _ _ _ _) ((Ge.out.alloc _).alloc _) Gd.out ((Blk.new _ _ _).alloc _) (((Below.refl w.heap.size w).drew.trans Ga.out).alloc Ga.out.size _ |>.alloc (Nat.le_trans Ga.out.size (by simp)) _) Ga.out.size (Nat.le_trans Ga.out.size (by simp))
  ·go_wp2_with fail
   go_meet;have hb:Blw w w1:=((Below.refl w.heap.size w).drew.alloc (nL _) _).trans (Ga.out.mono (by simp));exact HJ.out _ _ _ _ _ _ (Blk.new _ _ _) ((z6q Ge.out (by simp)).alloc _) Gd.out (((Blk.new w.drew _ _).below Ga.out (Blk.new w.drew _ _).lt).alloc _) (hb.alloc hb.size _) (nL _) hb.size
 case rest =>
  obtain ⟨d,cb,cc,lb,cs,ls,rfl,hd,hc,Gq,Gn,Gp,Gk,hl,Gh,hb,g1,g2,g3⟩:=hcut.out;have Gc:Hid (OfI w wc pb L d cb cc lb cs ls (fun _=>0) (fun _=>0) 0):=⟨⟨_,hd,rfl,rfl,rfl,rfl,rfl,rfl,rfl,rfl,fun j hj=>oM⟩,hc,hl,fun j hj=>oM,fun h=>oM,hb,g3,fun j hj=>oM⟩
  have HF:=hid (show cs.size=cc/\8 * L<=cc/\cc<=9223372036854775807/\RowU cs pl/\ls=madeCells (Value.agg #[.int .u64 0,.slice none 0 0]).cells (L * 2)/\w.heap.size<=cb/\w.heap.size<=lb from ⟨Gq,Gn,Gp,Gk,Gh,g1,g2⟩);clear hcut hd hc Gk hl Gh hb HC HJ Gv d1 d2 wL;go_wp2;go_loopw [14] (fun i wr=>∃ (k:Nat) (th nt:Nat->Nat),k<=8/\i=.int .i64 k/\Hid (OfI w wr pb L d cb cc lb cs ls th nt k)) (fun i _=>8 - (RowKit.intOf i).toNat)
  case atStart=>exact ⟨0,_,_,Nat.zero_le _,rfl,Gc⟩
  case round =>
   clear Gc;obtain ⟨k,th,nt,hk,rfl,H⟩:=hrel;by_cases hlt:k < 8
   ·obtain ⟨dc,Gb,Gr,_⟩:=H.out.dev
    obtain ⟨u0,Gl⟩:∃ u,dc[3+k]?=some u:=⟨_,Array.getElem?_eq_getElem oM⟩
    have c0:wr.cell? ⟨d,3+k,none⟩=some u0:=by rw [Gb.cell];exact Gl
    have c1:wr.frozen? ⟨d,3+k,none⟩=false:=Gb.frozen _;have Gw:=Gb.lt;have Gx:∀ W:World,(Instr.makeMap 266 none).run Tryz.prog W=.ok (.map (some W.heap.size)) (W.alloc (.map #[] 0)):=fun _=>rfl
    have Gy:(0:Int)<=(k:Int):=oM;have Gz:(k:Int) < 8:=oM;have Gm:=hid (w8j H.out hlt);clear H Gb Gr Gl;go_wp2;exact ⟨⟨k+1,_,_,oM,by go_num,Gm⟩,by simp [RowKit.intOf];omega⟩
   ·obtain rfl:k=8:=oM
    go_wp2;go_ret;exact ⟨d,cb,cc,lb,cs,ls,th,nt,rfl,H.out,HF.out⟩
end
section
open Go.RowKit Go.Maps
theorem y9t {w:World} {S:Fp} {base:Nat} {e:TypeId} {size m c n:Nat} {A:Option Addr} {xs:List Value} (ho:w.ownsRow base e size (.slice A m c) n xs) (hb:∀ k,S k->k < base):∀ ad,A=some ad->¬ S ad.block:=fun ad had hs=>by
 rcases ho.2 with ⟨hv,_⟩ | ⟨g,cap,cs,hv,hge,_⟩
 ·injection hv with h1;rw [h1] at had;cases had
 ·injection hv with h1
  rw [h1] at had;injection had with h2
  subst h2;have:=hb _ hs;simp at this;omega
theorem x9q (s:Nat):∀ (l:List (Nat × Nat)) (n k:Nat) (cur:Nat->Nat),(k < 8 * s+8+2 * n\/8 * s+8+2 * (n+l.length)<=k)->wrS cur (entW (64 * s) n l) k=cur k
 | [],n,k,cur,_=>rfl
 | e :: l,n,k,cur,h=>by
  simp only [List.length_cons] at h;show wrS (upd (upd cur ((64 * s+64+16 * n) / 8) e.1) ((64 * s+64+16 * n+8) / 8) e.2) (entW (64 * s) (n+1) l) k=_;rw [x9q s l (n+1) k _ oM];simp only [upd];rw [if_neg oM,if_neg oM]
end
end Go.Proofs.YtfkjjoglnmeciaaGreatDoor
