/- part 5 -/
import Derived.Test.YtmhbokcccjmfgaaGreatDoorQad
set_option maxRecDepth 100000
set_option maxHeartbeats 16000000
namespace Go.Proofs.YtmhbokcccjmfgaaGreatDoor
open Go.Lib (hid)
section
open Go.RowKit Go.Maps
def letU(c:UInt8):Bool:=decide ((65<=(c.toNat:Int)/\(c.toNat:Int)<=90)\/(97<=(c.toNat:Int)/\(c.toNat:Int)<=122))
def digU(c:UInt8):Bool:=decide ((c.toNat:Int)=95)||decide (48<=(c.toNat:Int)/\(c.toNat:Int)<=57)
def nmGo:Nat->List UInt8->Bool
 |_,[]=>true
 |k,c::t=>(letU c||(decide (k≠0)&&digU c))&&nmGo (k+1) t
def nmOk(s:ByteArray):Bool:=nmGo 0 s.data.toList&&(decide (1<=s.size)&&decide (s.size<=16))
theorem y4k(s:ByteArray)(k:Nat)(h:k<s.size):s.data.toList.drop k=s[k]::s.data.toList.drop (k+1):=by
 rw[List.drop_eq_getElem_cons (by simpa using h)];rfl
theorem v3m:(List.range 256).all (fun n=>decide ((97<=bits .or .u8 (n:Int) 32/\bits .or .u8 (n:Int) 32<=122)↔((65<=(n:Int)/\(n:Int)<=90)\/(97<=(n:Int)/\(n:Int)<=122))))=true:=by kernel_rfl
theorem v4i c:∃v:Int,bits .or .u8 (c.toNat:Int) 32=v/\((97<=v/\v<=122)↔letU c=true):=by
 refine⟨_,rfl,?_⟩;have h:=List.all_eq_true.1 v3m c.toNat (List.mem_range.2 c.toNat_lt);rw[decide_eq_true_eq]at h;unfold letU;rw[decide_eq_true_eq];exact h
theorem y3i(s:ByteArray)(hs:s.size<=9223372036854775807)(w:World):() 196 #[.string s] w fun e w'=>e=.returned (nmOk s)/\w=w':=by
 obtain⟨V,hV⟩:∃V,V=nmOk s:=⟨_,rfl⟩
 rw[<- hV];have HV:=hid hV;have Gf:Hid (nmGo 0 s.data.toList=nmGo 0 (s.data.toList.drop 0)):=hid rfl;clear hV;go_enter Tryz.func196,Tryz.ntmps196
 go_wp2_with fail
 go_loopw [8] (fun i wr=>∃k:Nat,k<=s.size/\i=↑[k]/\Hid (nmGo 0 s.data.toList=nmGo k (s.data.toList.drop k))/\Hid (w=wr)) (fun i _=>s.size-(Go.RowKit.intOf i).toNat)
 case atStart=>exact⟨0,Nat.zero_le _,rfl,Gf,hid rfl⟩
 case round =>
  clear Gf;obtain⟨k,hk,rfl,HN,HW⟩:=hrel;by_cases hlt:k<s.size
  ·have HS:Hid (nmGo 0 s.data.toList=((letU s[k]||(decide (k≠0)&&digU s[k]))&&nmGo (k+1) (s.data.toList.drop (k+1)))):=hid (by rw[HN.out,y4k s k hlt];rfl)
   obtain⟨v,hv,hl⟩:=v4i s[k];have HL:=hid hl;clear hl HN;cases hle:letU s[k]
   ·have Gc:¬(97<=v/\v<=122):=fun h=>by
     have:=HL.out.1 h;rw[hle]at this;exact absurd this (by decide)
    rw[hle,Bool.false_or]at HS;clear hle HL;go_upto_region 5 with fail
    go_cut [5]from 15 to 20 (fun v wx=>v=↑false/\Hid (wr=wx))
    case first =>
     by_cases Gh:97<=v
     ·have Gd:¬v<=122:=fun h=>Gc ⟨Gh,h⟩
      clear Gc;go_wp2_with fail
      go_meet;exact⟨rfl,hid rfl⟩
     ·clear Gc
      go_wp2_with fail
      go_meet;exact⟨rfl,hid rfl⟩
    case rest =>
    obtain⟨rfl,Gi⟩:=hcut;have Ge:=Gi.out;subst Ge;clear Gi Gc hv;by_cases hk0:k=0
    ·have Ga:Hid (V=false):=hid (by rw[HV.out,nmOk,HS.out,dF];rfl)
     have e0:((k:Int)==0)=true:=beq_iff_eq.2 oM;clear HS hk0;go_wp2;go_ret;exact⟨by rw[Ga.out];rfl,HW.out⟩
    ·have e0:((k:Int)==0)=false:=beq_eq_false_iff_ne.2 oM
     rw[decide_eq_true hk0,Bool.true_and]at HS;clear hk0;cases hd:digU s[k]
     ·have Ga:Hid (V=false):=hid (by rw[HV.out,nmOk,HS.out,hd];rfl)
      unfold digU at hd;rw[Bool.or_eq_false_iff]at hd;have d1:=of_decide_eq_false hd.1;have d2:=of_decide_eq_false hd.2;have e1:((s[k].toNat:Int) != 95)=true:=by rw[bne,beq_eq_false_iff_ne.2 d1];rfl
      clear HS hd d1;by_cases d3:(48:Int)<=(s[k].toNat:Int)
      ·have d4:¬(s[k].toNat:Int)<=57:=fun h=>d2 ⟨d3,h⟩
       clear d2;go_wp2;go_ret;exact⟨by rw[Ga.out];rfl,HW.out⟩
      ·clear d2
       go_wp2;go_ret;exact⟨by rw[Ga.out];rfl,HW.out⟩
     ·have Gb:Hid (nmGo 0 s.data.toList=nmGo (k+1) (s.data.toList.drop (k+1))):=hid (by rw[HS.out,hd];rfl)
      unfold digU at hd;rw[Bool.or_eq_true]at hd;clear HS;rcases hd with hd|hd
      ·have d1:=of_decide_eq_true hd
       have e1:((s[k].toNat:Int) != 95)=false:=by rw[bne,beq_iff_eq.2 d1];rfl
       clear hd d1;go_wp2;go_roundw
       case rel =>
        first
         |exact⟨k+1,oM,by go_num,Gb,HW⟩
         |(
           repeat apply Exists.intro
           refine⟨?_,rfl⟩;exact⟨k+1,oM,by go_num,Gb,HW⟩)
       case measure=>simp[Go.RowKit.intOf];omega
      ·obtain⟨d3,d4⟩:=of_decide_eq_true hd
       have e1:((s[k].toNat:Int) != 95)=true:=by rw[bne,beq_eq_false_iff_ne.2 oM];rfl
       clear hd;go_wp2;go_roundw
       case rel =>
        first
         |exact⟨k+1,oM,by go_num,Gb,HW⟩
         |(
           repeat apply Exists.intro
           refine⟨?_,rfl⟩;exact⟨k+1,oM,by go_num,Gb,HW⟩)
       case measure=>simp[Go.RowKit.intOf];omega
   ·obtain⟨Gh,Gd⟩:=HL.out.2 hle
    have Gb:Hid (nmGo 0 s.data.toList=nmGo (k+1) (s.data.toList.drop (k+1))):=hid (by rw[HS.out,hle];rfl);clear hle HL HS;go_wp2;go_roundw
    case rel =>
     first
      |exact⟨k+1,oM,by go_num,Gb,HW⟩
      |(
        repeat apply Exists.intro
        refine⟨?_,rfl⟩;exact⟨k+1,oM,by go_num,Gb,HW⟩)
    case measure=>simp[Go.RowKit.intOf];omega
  ·obtain rfl:k=s.size:=oM
   have HS:Hid (nmGo 0 s.data.toList=true):=hid (by rw[HN.out,List.drop_of_length_le (by simp)];rfl);have Ga:Hid (V=(decide (1<=s.size)&&decide (s.size<=16))):=hid (by rw[HV.out,nmOk,HS.out,Bool.true_and]);clear HS HN hlt hk;by_cases h1:1<=s.size
   ·by_cases h2:s.size<=16
    ·rw[decide_eq_true h1,decide_eq_true h2]at Ga
     have Gg:(1:Int)<=(s.size:Int):=oM;have Gj:(s.size:Int)<=16:=oM;go_wp2;go_ret;exact⟨by rw[Ga.out];first|rfl|(simp;omega),HW.out⟩
    ·rw[decide_eq_true h1,decide_eq_false h2]at Ga
     have Gg:(1:Int)<=(s.size:Int):=oM;have Gj:(16:Int)<(s.size:Int):=oM;go_wp2;go_ret;exact⟨by rw[Ga.out];first|rfl|(simp;omega),HW.out⟩
   ·rw[decide_eq_false h1]at Ga
    have Gg:(s.size:Int)<1:=oM;go_wp2;go_ret;exact⟨by rw[Ga.out];first|rfl|(simp;omega),HW.out⟩
theorem x3g s (hs:s.size<=9223372036854775807) w:() 205 #[.string s] w fun e w'=>e=.returned (nmOk s)/\w=w':=by
 obtain⟨V,hV⟩:∃V,V=nmOk s:=⟨_,rfl⟩
 rw[<- hV];have HV:=hid hV;clear hV;by_cases h1:s.size<1
 ·have Ga:Hid (V=false):=hid (by rw[HV.out,nmOk,dF,Bool.false_and,Bool.and_false])
  have Gl:(s.size:Int)<1:=oM;go_enter Tryz.func205,Tryz.ntmps205
  go_wp2;go_ret;exact⟨by rw[Ga.out];rfl,rfl⟩
 by_cases h2:16<s.size
 ·have Ga:Hid (V=false):=hid (by rw[HV.out,nmOk,decide_eq_false (show ¬s.size<=16 by omega),Bool.and_false,Bool.and_false])
  have Gl:¬(s.size:Int)<1:=oM;have Gm:16<(s.size:Int):=oM;go_enter Tryz.func205,Tryz.ntmps205
  go_wp2;go_ret;exact⟨by rw[Ga.out];rfl,rfl⟩
 have Gk:Hid (V=nmGo 0 s.data.toList):=hid (by rw[HV.out,nmOk,decide_eq_true (show 1<=s.size by omega),decide_eq_true (show s.size<=16 by omega),Bool.and_true,Bool.and_true]);have Gj:Hid (V=nmGo 0 (s.data.toList.drop 0)):=hid Gk.out;have Gl:¬(s.size:Int)<1:=oM;have Gm:¬16<(s.size:Int):=oM;clear HV Gk;go_enter Tryz.func205,Tryz.ntmps205
 go_wp2_with fail
 go_loopw [3] (fun i wr=>∃k:Nat,k<=s.size/\i=↑[k]/\Hid (V=nmGo k (s.data.toList.drop k))/\Hid (w=wr)) (fun i _=>s.size-(Go.RowKit.intOf i).toNat)
 case atStart=>exact⟨0,Nat.zero_le _,rfl,Gj,hid rfl⟩
 case round =>
  clear Gj;obtain⟨k,hk,rfl,HN,HW⟩:=hrel;by_cases hlt:k<s.size
  ·have HS:Hid (V=((letU s[k]||(decide (k≠0)&&digU s[k]))&&nmGo (k+1) (s.data.toList.drop (k+1)))):=hid (by rw[HN.out,y4k s k hlt];rfl)
   obtain⟨c,hc⟩:∃c,(s[k]'hlt).toNat=c:=⟨_,rfl⟩
   obtain⟨b1,Gg⟩:∃b,letU s[k]=b:=⟨_,rfl⟩
   obtain⟨b2,Gh⟩:∃b,digU s[k]=b:=⟨_,rfl⟩
   have Gf:Hid (decide ((65<=(c:Int)/\(c:Int)<=90)\/(97<=(c:Int)/\(c:Int)<=122))=b1):=hid (by rw[<- Gg,<- hc];rfl);have Gd:Hid ((decide ((c:Int)=95)||decide (48<=(c:Int)/\(c:Int)<=57))=b2):=hid (by rw[<- Gh,<- hc];rfl);rw[Gg,Gh]at HS;clear Gg Gh HN;have Gq:(k:Int)<(s.size:Int):=oM;go_upto_region 6 with fail
   go_cut [4]from 20 to 41 (fun v wx=>v=↑b1/\Hid (wr=wx))
   case first =>
    have h:=Gf.out;clear Gf Gd HS;by_cases h97:97<=(c:Int)<;>by_cases h122:(c:Int)<=122<;>by_cases h65:65<=(c:Int)<;>by_cases h90:(c:Int)<=90<;>first
     |(exfalso;omega)
     |(
       first|rw[dT]at h|rw[dF]at h
       subst h;go_wp2_with fail
       go_meet;exact⟨rfl,hid rfl⟩)
   case rest =>
   obtain⟨rfl,Gc⟩:=hcut;have Gb:=Gc.out;subst Gb;clear Gc Gf;go_upto_region 7 with fail
   go_cut [5]from 42 to 57 (fun v wx=>v=↑b2/\Hid (wr=wx))
   case first =>
    have h:=Gd.out;clear Gd HS;by_cases h48:48<=(c:Int)<;>by_cases h57:(c:Int)<=57<;>by_cases h95:(c:Int)=95<;>first
     |(exfalso;omega)
     |(
       first|rw[decide_eq_true h95]at h|rw[decide_eq_false h95]at h
       first|rw[decide_eq_true (show(48:Int)<=c/\(c:Int)<=57 from⟨h48,h57⟩)]at h|rw[decide_eq_false (show ¬((48:Int)<=c/\(c:Int)<=57) by omega)]at h
       have h':=h.symm;subst h';have Gp:((c:Int)==95)=decide ((c:Int)=95):=rfl;go_wp2_with fail
       go_meet;exact⟨rfl,hid rfl⟩)
   case rest =>
   obtain⟨rfl,Gc⟩:=hcut;have Gb:=Gc.out;subst Gb;clear Gc Gd;obtain⟨b0,Gn⟩:∃b,((k:Int)==0)=b:=⟨_,rfl⟩
   have Gi:Hid (b0=decide (k=0)):=hid (by
    rw[<- Gn];by_cases hk0:k=0
    ·subst hk0;rfl
    ·rw[decide_eq_false hk0,beq_eq_false_iff_ne]
     omega)
   have Ge:Hid (V=((b1||(!b0&&b2))&&nmGo (k+1) (s.data.toList.drop (k+1)))):=hid (by
    rw[HS.out,Gi.out];by_cases hk0:k=0
    ·rw[decide_eq_true hk0,decide_eq_false (fun h=>h hk0)];rfl
    ·rw[decide_eq_false hk0,decide_eq_true hk0];rfl)
   clear HS Gi hc;cases b1<;>cases b0<;>cases b2
   all_goals first
    |(
      have Ga:Hid (V=false):=hid (by rw[Ge.out];rfl);clear Ge;go_wp2;go_ret;exact⟨by rw[Ga.out];rfl,HW.out⟩)
    |(
      have Ga:Hid (V=nmGo (k+1) (s.data.toList.drop (k+1))):=hid (by rw[Ge.out];rfl);clear Ge;go_wp2;go_roundw
      case rel =>
       first
        |exact⟨k+1,oM,by go_num,Ga,HW⟩
        |(
         repeat apply Exists.intro
         refine⟨?_,rfl⟩;exact⟨k+1,oM,by go_num,Ga,HW⟩)
      case measure=>simp[Go.RowKit.intOf];omega)
  ·obtain rfl:k=s.size:=oM
   have Ga:Hid (V=true):=hid (by rw[HN.out,List.drop_of_length_le (by simp)];rfl);clear HN hlt hk;go_wp2;go_ret;exact⟨by rw[Ga.out];rfl,HW.out⟩
end
section
open Go.RowKit
theorem w4z g n cap sz a b xs w (h:z0t w w g xs sz) (hl:xs.length=n) (hb:b<=n) (h8:a+8<=b) (hn:n<=1000000) :
  () 286 #[.slice (some (g,())) n cap,[a],[b]] w (v2a w g xs sz a b):=by
 obtain⟨l,rfl⟩:∃l,b=a+l:=⟨b-a,oM⟩
 exact x6x g n cap sz a l xs w h hl hb oM hn
theorem w9h g n cap sz a b xs w (h:z0t w w g xs sz) (hl:xs.length=n) (hb:b<=n) (h8:a+8<=b) (hn:n<=1000000) (hc:n<=cap) (hcm:cap<=9223372036854775807) :
  () 285 #[(g,0,n,cap),[a],[b]] w (z3f w g xs sz):=by
 obtain⟨l,rfl⟩:∃l,b=a+l:=⟨b-a,oM⟩
 exact x6t g n cap sz a l xs w h hl hb oM hn hc hcm
theorem v3c g n cap sz a b xs w (h:z0t w w g xs sz) (hl:xs.length=n) (hb:b<=n) (h8:a+1<=b) (hn:n<=1000000) (hc:n<=cap) (hcm:cap<=9223372036854775807) :
  () 284 #[(g,0,n,cap),[a],[b]] w (z3f w g xs sz):=by
 obtain⟨l,rfl⟩:∃l,b=a+(l+1):=⟨b-a-1,oM⟩
 exact w5t g n cap sz a l xs w h hl hb hn hc hcm
def PdqB(g n cap sz:Nat)(xs:List Nat)(d:Nat):Prop:=∀(a b lm:Nat)(w:World),z0t w w g xs sz->a<=b->b<=n->b-a<d->lm<=64 ->
  () 232 #[(g,0,n,cap),[a],[b],[lm]] w (z3f w g xs sz)
theorem w6q g n cap sz a0 b0 lm0 xs w (h:z0t w w g xs sz) (hl:xs.length=n) (hab0:a0<=b0) (hb0:b0<=n) (hlm0:lm0<=64) (hn:n<=1000000) (hc:n<=cap) (hcm:cap<=9223372036854775807) (ih:PdqB g n cap sz xs (b0-a0)) :
  () 232 #[.slice (some (g,())) n cap,[a0],[b0],[lm0]] w (z3f w g xs sz):=by
 have H:=hid h;have HL:=hid hl;have IH:=hid ih;clear h hl ih;go_enter Tryz.func232,Tryz.ntmps232
 go_wp2;go_loopw [1,2,3,8,9] (fun va vb vl v8 v9 wr=>∃(a b lm:Nat)(p q:Bool),va=↑[a]/\vb=↑[b]/\vl=↑[lm]/\v8=↑p/\v9=↑q/\a<=b/\b<=n/\lm<=64/\b-a<=b0-a0/\Hid (z0t w wr g xs sz)) (fun va vb _ _ _ _=>(RowKit.intOf vb).toNat-(RowKit.intOf va).toNat)
 case atStart=>exact⟨a0,b0,lm0,true,true,rfl,rfl,rfl,rfl,rfl,hab0,hb0,hlm0,nL _,H⟩
 case round =>
  clear H;obtain⟨a,b,lm,p,q,rfl,rfl,rfl,rfl,rfl,Gh,hb,Ga,hd,H⟩:=hrel;by_cases h12:b-a<=12
  ·have e1:decide ((b:Int)-(a:Int)<=12)=true:=dT
   have HI:=hid (x2n g n cap sz a b xs wr H.out.self HL.out Gh hb hn hc hcm);go_wp2_with fail
   refine HI.out.mono ?_;rintro e w1⟨rfl,h1⟩;have H1:=hid (H.out.trans h1);clear h1 HI H;go_wp2_with fail
   go_end0;exact⟨rfl,H1.out⟩
  ·have e1:decide ((b:Int)-(a:Int)<=12)=false:=dF
   by_cases hz:lm=0
   ·subst hz
    have HI:=hid (v3c g n cap sz a b xs wr H.out.self HL.out hb oM hn hc hcm);go_wp2_with fail
    refine HI.out.mono ?_;rintro e w1⟨rfl,h1⟩;have H1:=hid (H.out.trans h1);clear h1 HI H;go_wp2_with fail
    go_end0;exact⟨rfl,H1.out⟩
   ·have e2:((lm:Int)==0)=false:=by rw[beq_eq_false_iff_ne];omega
    obtain⟨Gf,rfl⟩:∃k,lm=k+1:=⟨lm-1,oM⟩
    have Gb:a+8<=b:=oM;clear h12 hz;go_upto_if 35 with fail
    go_cut [3]from 19 to 133 (fun v wx=>∃k:Nat,v=↑[k]/\k<=64/\Hid (z0t w wx g xs sz))
    case first =>
     cases p
     ·have HI:=hid (w9h g n cap sz a b xs wr H.out.self HL.out hb Gb hn hc hcm)
      go_wp2_with fail
      refine HI.out.mono ?_;rintro e w1⟨rfl,h1⟩;have H1:=hid (H.out.trans h1);clear h1 HI H;go_wp2_with fail
      go_meet;exact⟨Gf,by go_num,oM,H1⟩
     ·go_wp2_with fail
      go_meet;exact⟨Gf+1,by go_num,oM,H⟩
    case rest =>
     clear H Ga e1 e2;obtain⟨lm,rfl,Ga,H⟩:=hcut;have HC:=hid (w4z g n cap sz a b xs wc H.out.self HL.out hb Gb hn);go_wp2_with fail
     refine HC.out.mono ?_;rintro e w1⟨m0,k0,rfl,Gd,Gc,h1⟩;have H1:=hid (H.out.trans h1);clear h1 HC H;go_upto_if 50 with fail
     go_cut [11,12]from 19 to 133 (fun v u wx=>∃(m:Nat)(k:Int),v=↑[m]/\u=↑[k]/\a<=m/\m<b/\Hid (z0t w wx g xs sz))
     case first =>
      by_cases hk:k0=2
      ·subst hk
       have HR:=hid (x3j g n cap sz a b xs w1 H1.out.self HL.out oM hb hn hc hcm);obtain⟨m',Ge⟩:∃m':Nat,(b:Int)-1-((m0:Int)-(a:Int))=(m':Int)/\a<=m'/\m'<b:=⟨b-1-(m0-a),oM,oM,oM⟩
       have HM:=hid Ge;clear Ge;go_wp2_with fail
       refine HR.out.mono ?_;rintro e w2⟨rfl,h2⟩;have H2:=hid (H1.out.trans h2);clear h2 HR H1;go_wp2_with fail
       go_meet;exact⟨m',1,by first|rfl|exact congrArg (Value.int .i64) HM.out.1,rfl,HM.out.2.1,HM.out.2.2,H2⟩
      ·have e3:(k0==2)=false:=by rw[beq_eq_false_iff_ne];exact hk
       go_wp2_with fail
       go_meet;exact⟨m0,k0,rfl,rfl,Gd,Gc,H1⟩
     case rest =>
      clear H1 Gd Gc;obtain⟨m,k,rfl,rfl,Gd,Gc,H⟩:=hcut;go_upto_region 15 with fail
      go_cut [68]from 19 to 133 (fun v wx=>∃bb:Bool,v=↑bb/\Hid (z0t w wx g xs sz))
      case first =>
       cases p
       ·go_wp2_with fail
        go_meet;exact⟨false,rfl,H⟩
       ·cases q
        ·go_wp2_with fail
         go_meet;exact⟨false,rfl,H⟩
        ·go_wp2_with fail
         go_meet;exact⟨_,rfl,H⟩
      case rest =>
       clear H;obtain⟨bb,rfl,H⟩:=hcut;go_upto_if 68 with fail
       go_cut [13]from 19 to 133 (fun _ wx=>Hid (z0t w wx g xs sz))
       case first =>
        cases bb
        ·go_wp2_with fail
         go_meet;exact H
        ·have HT:=hid (y3z g n cap sz a b xs wc H.out.self HL.out oM hb hn hc hcm)
         go_wp2_with fail
         refine HT.out.mono ?_;rintro e w2⟨c,rfl,h2⟩;have H2:=hid (H.out.trans h2);clear h2 HT H;cases c
         ·go_wp2_with fail
          go_meet;exact H2
         ·go_wp2_with fail
          go_end0;exact⟨rfl,H2.out⟩
       case rest =>
        clear H;have H:=hcut;clear hcut;go_upto_region 17 with fail
        go_cut [87]from 19 to 133 (fun v wx=>∃bb:Bool,v=↑bb/\Hid (z0t w wx g xs sz))
        case first =>
         by_cases ha:0<a
         ·obtain⟨a',rfl⟩:∃a',a=a'+1:=⟨a-1,oM⟩
          have f0:decide ((0:Int)<(a':Int)+1)=true:=dT;have f1:(a':Int)<(n:Int):=oM;have f2:(m:Int)<(n:Int):=oM;have f3:IntKind.i64.wrap (a':Int)=(a':Int):=by rw[IntKind.wrap_i64];omega
          generalize wc=wr at*;go_wp2_with fail
          obtain⟨x1,c1,z1⟩:=H.out.at_ (i:=a') (by have:=HL.out;omega);obtain⟨x2,c2,z2⟩:=H.out.at_ (i:=m) (by have:=HL.out;omega);obtain⟨bb,Gg⟩:=z1w x1 x2;go_quiet ((go_at_call 289;exact Calls.quiet_of_same (Gg.out _)))
          have H1:=hid (H.out.drewN nq);clear c1 c2 z1 z2 H;go_wp2_with fail
          go_meet;exact⟨_,rfl,H1⟩
         ·have f0:decide ((0:Int)<(a:Int))=false:=dF
          go_quiet (fail)
          have H1:=hid (H.out.drewN nq);go_wp2_with fail
          go_meet;exact⟨false,rfl,H1⟩
        case rest =>
         clear H;obtain⟨bb,rfl,H⟩:=hcut;cases bb
         ·have HP:=hid (y6z g n cap sz a b m xs wc H.out.self HL.out oM hb Gc hn hc hcm)
          go_wp2_with fail
          refine HP.out.mono ?_;rintro e w2⟨m2,c,rfl,g1,g2,h2⟩;have H2:=hid (H.out.trans h2);clear h2 HP H;have I1:=hid (IH.out a m2 lm w2 H2.out.self g1 oM oM Ga);have i2:=IH.out (m2+1) b lm w2 H2.out.self oM hb oM Ga;rw[show((m2+1:Nat):Int)=(m2:Int)+1 by omega]at i2;have I2:=hid i2;clear i2;by_cases hlr:m2-a<b-m2
          ·have e3:decide ((m2:Int)-(a:Int)<(b:Int)-(m2:Int))=true:=dT
           go_wp2_with fail
           refine I1.out.mono ?_;rintro e w3⟨rfl,h3⟩;have H3:=hid (H2.out.trans h3);clear h3 H2 I1 I2;go_wp2_with fail
           go_roundw
           case rel=>exact⟨m2+1,b,lm,_,c,by go_num,rfl,rfl,rfl,rfl,oM,hb,Ga,oM,H3⟩
           case measure=>simp[RowKit.intOf];omega
          ·have e3:decide ((m2:Int)-(a:Int)<(b:Int)-(m2:Int))=false:=dF
           go_wp2_with fail
           refine I2.out.mono ?_;rintro e w3⟨rfl,h3⟩;have H3:=hid (H2.out.trans h3);clear h3 H2 I1 I2;go_wp2_with fail
           go_roundw
           case rel=>exact⟨a,m2,lm,_,c,rfl,rfl,rfl,rfl,rfl,g1,oM,Ga,oM,H3⟩
           case measure=>simp[RowKit.intOf];omega
         ·have HP:=hid (y6y g n cap sz a b m xs wc H.out.self HL.out oM hb Gc hn hc hcm)
          go_wp2_with fail
          refine HP.out.mono ?_;rintro e w2⟨m2,rfl,g1,g2,h2⟩;have H2:=hid (H.out.trans h2);clear h2 HP H;go_wp2_with fail
          go_roundw
          case rel=>exact⟨m2,b,lm,p,q,rfl,rfl,rfl,rfl,rfl,g2,hb,Ga,oM,H2⟩
          case measure=>simp[RowKit.intOf];omega
theorem w2h g n cap sz xs (hl:xs.length=n) (hn:n<=1000000) (hc:n<=cap) (hcm:cap<=9223372036854775807):∀d,PdqB g n cap sz xs d
 |0=>fun a b lm w h hab hb hd hlm=>absurd hd oM
 |d+1=>fun a b lm w h hab hb hd hlm=>w6q g n cap sz a b lm xs w h hl hab hb hlm hn hc hcm (fun a' b' lm' w' h' k1 k2 k3 k4=>w2h g n cap sz xs hl hn hc hcm d a' b' lm' w' h' k1 k2 oM k4)
theorem w7j g n cap sz xs w (h:z0t w w g xs sz) (hl:xs.length=n) (hn:n<=1000000) (hc:n<=cap) (hcm:cap<=9223372036854775807) :
  () 160 #[(g,0,n,cap)] w (z3f w g xs sz):=by
 have e1:IntKind.u64.wrap (n:Int)=(n:Int):=by rw[IntKind.wrap_u64];omega
 have Ga:=hid (x2v n w hn);have hk:Lib.bitLen n<=20:=Lib.bitLen_le n 20 oM oM;have HP:=hid (w2h g n cap sz xs hl hn hc hcm (n+1) 0 n (Lib.bitLen n) w h oM (nL _) oM oM);generalize Lib.bitLen n=k at*;clear h hl;go_enter Tryz.func160,Tryz.ntmps160
 go_wp2_with (first
  |(go_at_call 233;refine Ga.out.mono ?_;rintro e w'⟨rfl,rfl⟩)
  |(go_at_call 232;refine HP.out.mono ?_;rintro e w1⟨rfl,h1⟩;have H1:=hid h1;clear h1))
 go_end0;exact⟨rfl,H1.out⟩
end
end Go.Proofs.YtmhbokcccjmfgaaGreatDoor
