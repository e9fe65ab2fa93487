/- part 12 -/
import Derived.Test.YtmhbokcccjmfgaaGreatDoorQak
set_option maxRecDepth 100000
set_option maxHeartbeats 16000000
namespace Go.Proofs.YtmhbokcccjmfgaaGreatDoor
open Go.Lib (hid)
section
open Go.RowKit Go.Maps
structure HA where
 h:Nat
 gs:Nat
 pl:Nat
 po:Nat
 mr:Nat
 mh:Nat
 lk:Bool
def HA.p(x:HA):PA:=⟨x.gs,x.pl,x.po⟩
def HA.fp(x:HA):Fp:=fun k=>k=x.pl\/k=x.mr\/k=x.mh
structure HS(a:DA)(s n K:Nat)(x:HA)(cs:Nat->CS)(f:Nat->Option Nat)(N m:Nat)(w:World):Prop where
 heap:Blk w x.h 168 (z2d a s n x.gs x.mr x.mh x.lk)
 plc:Plc a s K x.p cs w
 res:PMap w x.mr N f m
 held:HMap w x.mh N
 ne:x.mr≠x.mh
theorem z4t{H:Type}{P:Program}{k:TypeId}{R:Value->Option (DataW H×List MemPlace)}{w:World}{b n g:Nat}{D:DataW H}{t:TypeId}{cs:Array Value}(h:w.ownsMap P k R b n D)(hB:Blk w g t cs):g≠b:=by
 intro e;subst e;obtain⟨es,Ga,hb,_⟩:=h;unfold Blk at hB;rw[hB]at hb;cases hb
section
variable{a:DA}{s n K:Nat}{x:HA}{cs:Nat->CS}{f:Nat->Option Nat}{N m:Nat}{w w':World}
theorem HS.map_ne(h:HS a s n K x cs f N m w){g:Nat}{t:TypeId}{vs:Array Value}(hB:Blk w g t vs):g≠x.mr/\g≠x.mh:=by
 obtain⟨D,ho,_⟩:=h.res;obtain⟨D2,Ga⟩:=h.held;exact⟨z4t ho hB,z4t Ga hB⟩
theorem HS.pl_ne(h:HS a s n K x cs f N m w):x.pl≠x.mr/\x.pl≠x.mh/\x.gs≠x.mr/\x.gs≠x.mh/\x.h≠x.mr/\x.h≠x.mh/\x.gs≠x.pl/\x.h≠x.pl:=by
 obtain⟨⟨c,hs⟩,pcs,hp,_⟩:=h.plc;obtain⟨h1,h2⟩:=h.map_ne hp;obtain⟨h3,h4⟩:=h.map_ne hs;obtain⟨h5,h6⟩:=h.map_ne h.heap;exact⟨h1,h2,h3,h4,h5,h6,h.plc.ne,h.heap.ne_ hp (by decide)⟩
theorem HS.chg{Z}(h:HS a s n K x cs f N m w)(hc:Chg Z w w')(h1:¬Z x.h)(h2:¬Z x.gs)(h3:¬Z x.pl)(h4:¬Z x.mr)(h5:¬Z x.mh):HS a s n K x cs f N m w' :=
 ⟨hc.blk h.heap h1,h.plc.chg hc h2 h3,h.res.chg hc h4,h.held.chg hc h5,h.ne⟩
theorem HS.below(h:HS a s n K x cs f N m w)(hb:Blw w w'):HS a s n K x cs f N m w':=h.chg (Chg.of_below (S:=Fp.no) hb) (fun h=>h) (fun h=>h) (fun h=>h) (fun h=>h) (fun h=>h)
theorem HS.mono{N'}(h:HS a s n K x cs f N m w)(hN:N<=N'):HS a s n K x cs f N' m w:=⟨h.heap,h.plc,h.res.mono hN,h.held.mono hN,h.ne⟩
theorem HS.lt(h:HS a s n K x cs f N m w):x.h<w/\x.gs<w/\x.pl<w/\x.mr<w/\x.mh<w :=
 ⟨h.heap.lt,h.plc.lt.1,h.plc.lt.2,h.res.lt,h.held.lt⟩
end
def blkO(ln cl i:Nat):Nat:=64*ln+8*offB cl i+8
def x3w(s K:Nat)(cs:Nat->CS)(o p:Nat):Prop:=∃k i,k<K/\(cs k).dv=true/\i<perC (cs k).cl/\o=blkO (s+32*k) (cs k).cl i/\pOff p=o
structure DS(a:DA)(L T s n K:Nat)(x:HA)(cs:Nat->CS)(f:Nat->Option Nat)(N m b0:Nat)(S:Fp)(cur:Nat->Nat)(w:World):Prop where
 dev:Dev a L T w S cur 0
 hs:HS a s n K x cs f N m w
 ok:∀k,k<K->CSok cur (s+32*k) (cs k)
 bnd:∀i,cur i<18446744073709551616
 res:∀o p,f o=some p->x3w s K cs o p
 tab:Tab w
 pay:Pay w
 lo:2<b0/\0<b0/\b0<=x.h/\b0<=x.gs/\b0<=x.pl/\b0<=x.mr/\b0<=x.mh/\∀k,S k->b0<=k
 off:¬S x.h/\¬S x.gs/\¬S x.pl/\¬S x.mr/\¬S x.mh
 hK:n/32=K/\1<=K/\s+n<=L/\0<s
section
variable{a:DA}{L T s n K:Nat}{x:HA}{cs:Nat->CS}{f:Nat->Option Nat}{N m b0:Nat}{S:Fp}{cur:Nat->Nat}{w w':World}
theorem DS.below(h:DS a L T s n K x cs f N m b0 S cur w)(hb:Blw w w'):DS a L T s n K x cs f N m b0 S cur w' :=
 { h with dev:=h.dev.below hb,hs:=h.hs.below hb,tab:=h.tab.below hb,pay:=h.pay.below hb }
theorem DS.hL(h:DS a L T s n K x cs f N m b0 S cur w):L<=4096:=by
 obtain⟨ls,Gc,Gf,Gb,Ge,Ga,Gd⟩:=h.dev;exact Ga.hL
theorem DS.line(h:DS a L T s n K x cs f N m b0 S cur w){k}(hk:k<K):s+32*k+32<=L:=by
 have h1:=h.hK;omega
theorem DS.few(h:DS a L T s n K x cs f N m b0 S cur w):K<=128/\s<=4096:=by
 have h1:=h.hK;have h2:=h.hL;omega
theorem DS.more{T'}(h:DS a L T s n K x cs f N m b0 S cur w)(hT:T<=T')(hT':T'<=1000000000):DS a L T' s n K x cs f N m b0 S cur w :=
 { h with dev:=h.dev.more hT hT' }
theorem DS.dev_{T' S' cur'}(h:DS a L T s n K x cs f N m b0 S cur w)(hd:Dev a L T' w' S' cur' 0)(hc:Chg S w w')(hg:Grew S S' w)(hok:∀k,k<K->CSok cur' (s+32*k) (cs k))(hb:∀i,cur' i<18446744073709551616):
  DS a L T' s n K x cs f N m b0 S' cur' w':=by
 obtain⟨o1,o2,o3,o4,o5⟩:=h.off;obtain⟨l1,l2,l3,l4,l5,l6,l7,l8⟩:=h.lo;obtain⟨z1,z2,z3,z4,z5⟩:=h.hs.lt;have Ga:∀g,g<b0->¬S g:=fun g hgb hs=>by have:=l8 g hs;omega
 refine⟨hd,h.hs.chg hc o1 o2 o3 o4 o5,hok,hb,h.res,h.tab.chg hc (Ga _ l1),fun i hi=>(World.cell?_of_block (w:=w) (hc.block _ h.pay.size (Ga _ l2))).trans (h.pay i hi),⟨l1,l2,l3,l4,l5,l6,l7,fun k hk=>?_⟩,⟨?_,?_,?_,?_,?_⟩,h.hK⟩
 ·rcases hg k hk with h'|h'
  ·exact l8 k h'
  ·omega
 all_goals
  refine hg.off ⟨?_,?_⟩
  ·omega
  ·assumption
theorem DS.own_{cs' f' N' m'}(h:DS a L T s n K x cs f N m b0 S cur w)(hs:HS a s n K x cs' f' N' m' w')(hc:Chg x.fp w w')(hok:∀k,k<K->CSok cur (s+32*k) (cs' k))(hr:∀o p,f' o=some p->x3w s K cs' o p):
  DS a L T s n K x cs' f' N' m' b0 S cur w':=by
 obtain⟨o1,o2,o3,o4,o5⟩:=h.off;obtain⟨l1,l2,l3,l4,l5,l6,l7,l8⟩:=h.lo;have Ga:∀g,g<b0->¬x.fp g:=fun g hgb hs=>by
  rcases hs with h|h|h<;>omega
 exact⟨h.dev.chg hc (fun k hk hz=>by rcases hz with rfl|rfl|rfl<;>contradiction),hs,hok,h.bnd,hr,h.tab.chg hc (Ga _ l1),fun i hi=>(World.cell?_of_block (w:=w) (hc.block _ h.pay.size (Ga _ l2))).trans (h.pay i hi),h.lo,h.off,h.hK⟩
end
end
section
open Go.RowKit
def z4v(s:Nat)(cs:Nat->CS)(cl K:Nat):List Int:=((List.range K).filter fun k=>(cs k).dv&&(cs k).cl==cl).map fun k=>((s+32*k:Nat):Int)
theorem x6z s (cs:Nat->CS) cl K:z4v s cs cl (K+1)=if ((cs K).dv&&(cs K).cl==cl)=true then z4v s cs cl K++[((s+32*K:Nat):Int)]else z4v s cs cl K:=by
 unfold z4v;rw[List.range_succ,List.filter_append,List.map_append];by_cases h:((cs K).dv&&(cs K).cl==cl)=true
 ·rw[if_pos h];simp[h]
 ·rw[if_neg h];simp[h]
theorem w9n(c:CS)(cl:Nat):((c.own==0)&&(c.cls==(cl:Int)))=(c.dv&&c.cl==cl):=by
 unfold CS.own CS.cls;cases c.dv
 ·rfl
 ·simp only[if_true,Bool.true_and,beq_self_eq_true]
  by_cases h:c.cl=cl
  ·rw[h];simp
  ·rw[beq_eq_false_iff_ne.2 h,beq_eq_false_iff_ne];omega
theorem w0h{s cs cl K x}(h:x∈z4v s cs cl K):∃k,k<K/\(cs k).dv=true/\(cs k).cl=cl/\x=((s+32*k:Nat):Int):=by
 unfold z4v at h;obtain⟨k,hk,rfl⟩:=List.mem_map.1 h;obtain⟨h1,h2⟩:=List.mem_filter.1 hk;simp at h1 h2;exact⟨k,h1,h2.1,h2.2,rfl⟩
theorem w5a{s cs cl K k}(hk:k<K)(h1:(cs k).dv=true)(h2:(cs k).cl=cl):((s+32*k:Nat):Int)∈z4v s cs cl K:=by
 unfold z4v;refine List.mem_map.2 ⟨k,List.mem_filter.2 ⟨List.mem_range.2 hk,?_⟩,rfl⟩;simp[h1,h2]
theorem y8r s (cs:Nat->CS) cl K:(z4v s cs cl K).length<=K:=by
 unfold z4v;rw[List.length_map];exact Nat.le_trans (List.length_filter_le _ _) (by simp)
theorem x6y{a s K x cs w}(h:Plc a s K x cs w)(hK:K<=128)(_hs:s<=100000) cl :
  () 316 #[(x.gs,()),(),[cl]] w (w7v w (z4v s cs cl K)):=by
 obtain⟨c,_,f1⟩:=h.sets;have HP:=hid h;obtain⟨i0,Gq,Gr,Gs,Gt⟩:=info_parts y6r;have Gf:Hid (Blw w w):=Below.refl _ _;have Gh:Hid (w.ownsRow w 3 1 ((),()) 0 (z2s [])):=World.ownsRow_nil _ _ _ _;have Gv:decide ((cl:Int)<0)=false:=dF;clear h;obtain⟨gs,pl,po⟩:=x;dsimp only at*;go_enter Tryz.func316,Tryz.ntmps316
 go_wp2;go_loopw [7,25] (fun p i wr=>∃(k:Nat)(A1:Option Addr)(m1 c1:Nat)(l:List Int),k<=K/\i=↑[k]/\p=.slice A1 m1 c1/\Hid (l=z4v s cs cl k)/\Hid (wr.ownsRow w 3 1 (.slice A1 m1 c1) m1 (z2s l))/\Hid (Blw w wr)) (fun _ i _=>K-(RowKit.intOf i).toNat)
 case atStart=>exact⟨0,_,_,_,[],Nat.zero_le _,rfl,rfl,hid rfl,Gh,Gf⟩
 case round =>
  clear Gf Gh;obtain⟨k,A1,m1,c1,l,hk,rfl,rfl,HL,HO,H⟩:=hrel;by_cases hlt:k<K
  ·obtain⟨f0,f2,f3,b4,f4⟩:=(HP.out.below H.out).facts (k:=k) hlt
   dsimp only at f0 f2 f3 f4;have Gx:(0:Int)<=(k:Int):=oM;have Gy:(k:Int)<(K:Int):=oM;have Gw:m1<=128:=by have h1:=HO.out.1;have h2:=y8r s cs cl k;rw[z6u,HL.out]at h1;omega
   have Gc:=hid (w9n (cs k) cl);have Ge:=hid (x6z s cs cl k);generalize hbb:((cs k).dv&&(cs k).cl==cl)=bb at*;rw[<- HL.out]at Ge;have Gk:Hid (z4v s cs cl (k+1)=z4v s cs cl (k+1)):=hid rfl;clear hbb;generalize ((s+32*k:Nat):Int)=v at*;generalize (cs k).cls=v1 at*;generalize (cs k).own=v2 at*;have Gl:=hid H.out.size;have Gd:=hid ((HO.out.alloc (.cells #[[v],[v1],[v2],b4] 342)));have Gb:=hid ((H.out.alloc H.out.size (.cells #[[v],[v1],[v2],b4] 342)));have Gn:=hid (Gd.out.alloc (.cells #[[v]] 3));have Gj:=hid (Gb.out.alloc (by have:=H.out.size;simp;omega) (.cells #[[v]] 3));clear H HO Gk;cases bb
   ·have Ga:Hid (l=z4v s cs cl (k+1)):=hid (by rw[Ge.out];rfl)
    by_cases hv2:v2=0
    ·have q1:(v2==0)=true:=by rw[hv2];rfl
     have q2:(v1==(cl:Int))=false:=by have:=Gc.out;rw[q1]at this;simpa using this
     clear hv2 Gc Ge HL;go_wp2;go_roundw
     case rel =>
      first
       |exact⟨k+1,_,_,_,_,oM,by go_num,rfl,Ga,Gd,Gb⟩
       |(
         repeat apply Exists.intro
         refine⟨?_,rfl⟩;exact⟨k+1,_,_,_,_,oM,by go_num,rfl,Ga,Gd,Gb⟩)
     case measure=>simp[RowKit.intOf];omega
    ·have q1:(v2==0)=false:=by rw[beq_eq_false_iff_ne];exact hv2
     clear hv2 Gc Ge HL;go_wp2;go_roundw
     case rel =>
      first
       |exact⟨k+1,_,_,_,_,oM,by go_num,rfl,Ga,Gd,Gb⟩
       |(
         repeat apply Exists.intro
         refine⟨?_,rfl⟩;exact⟨k+1,_,_,_,_,oM,by go_num,rfl,Ga,Gd,Gb⟩)
     case measure=>simp[RowKit.intOf];omega
   ·have Ga:Hid (l++[v]=z4v s cs cl (k+1)):=hid (by rw[Ge.out];rfl)
    have q1:(v2==0)=true:=by have:=Gc.out;rw[Bool.and_eq_true]at this;exact this.1
    have q2:(v1==(cl:Int))=true:=by have:=Gc.out;rw[Bool.and_eq_true]at this;exact this.2
    clear Gc Ge HL Gd Gb;go_wp2_with (first
     |(at_builtin;refine z0m _ (.tmp 39) (.tmp 42) 34 rfl rfl w 3 i0 _ 1 8 Tryz.underlying34 Gq Gr Gs Gt rfl ?q1 (.slice A1 m1 c1) m1 (z2s l) rfl Gn.out (wr.heap.size+1+1) (some (wr.heap.size+1,())) 1 1 [[v]] rfl ?q5 ?q6 ?q2 ?q3 ?q4 ?_;(case q1=>omega);(case q5=>exact z0j _ _ (by simp) _ 1 1 3 _ rfl rfl);(case q6=>(intro u hu;simp at hu;subst hu;rfl));(case q2=>(unfold maxLen;omega));(case q3=>omega);(case q4=>(have:=Gl.out;simp;omega));intro A3 n3 c3 w8 hn3 ho3 hg3 hb3;have Gu:=hid hn3;have Gm:=hid ho3;have Gg:=hid (Gj.out.trans hb3);clear hn3 ho3 hg3 hb3)
     |go_in)
    have Gi:Hid (w8.ownsRow w 3 1 (.slice A3 n3 c3) n3 (z2s (l++[v]))):=hid (by have h:=Gm.out;simpa[z2s] using h);go_roundw
    case rel =>
     first
      |exact⟨k+1,_,_,_,_,oM,by go_num,rfl,Ga,Gi,Gg⟩
      |(
        repeat apply Exists.intro
        refine⟨?_,rfl⟩;exact⟨k+1,_,_,_,_,oM,by go_num,rfl,Ga,Gi,Gg⟩)
    case measure=>simp[RowKit.intOf];omega
  ·obtain rfl:K=k:=oM
   have Gp:Hid (wr.ownsRow w 3 1 (.slice A1 m1 c1) m1 (z2s (z4v s cs cl K))):=hid (by rw[<- HL.out];exact HO.out);go_wp2;go_ret;exact⟨_,_,_,rfl,Gp.out,H.out⟩
def zerW(o k:Nat):List (Nat×Nat):=(List.range k).map fun j=>(o+8*j,0)
theorem w3n o k:zerW o (k+1)=zerW o k++[(o+8*k,0)]:=by simp[zerW,List.range_succ]
theorem y7n o k:(zerW o k).length=k:=by simp[zerW]
theorem z5t{o k e}(h:e∈zerW o k):∃j,j<k/\e=(o+8*j,0):=by
 obtain⟨j,hj,rfl⟩:=List.mem_map.1 h;exact⟨j,List.mem_range.1 hj,rfl⟩
theorem x5v{a L T w S cur}(h:Dev a L T w S cur 0)(hp:Pay w) g hcs (hB:Blk w g 168 hcs) (hc0:hcs[0]?=some (memV a)) (hgS:¬S g) p cl O (hc:cl<5) (hp0:p≠0) (hO:pOff p=O) (hOL:O+8*payW cl<=64*L) (hT:T+200<=1000000000) :
  () 279 #[(g,()),p,[cl]] w (z0x a L (T+200) w S (wrS cur (zerW O (payW cl))) 0 ()):=by
 have hL:L<=4096:=by obtain⟨ls,GF,GN,cs,GM,G8,GI⟩:=h;exact G8.hL
 have GG:O%8=0:=by rw[<- hO];unfold pOff;omega
 have HD:=hid h;have Gb:=hid hB;have Gg:w.cell? (g,())=some (memV a):=(hB.cell 0).trans hc0;have Ge:=hid hc0;obtain⟨i0,G9,GC,GD,GE⟩:=info_parts z1l;have G7:=hid (y3f cl hc w hp);have GB:=z7i cl;have Gj:Hid (∀j,j<payW cl->∀W,() 65 #[p,[j]] W fun e w'=>e=.returned (O+8*j:Nat)/\W=w'):=hid (fun j hj W=>by
  have h1:=y0d p j oM W;have h2:pAt p j=O+8*j:=by unfold pAt;rw[if_neg oM,hO]
  rw[h2]at h1;exact h1)
 have Gt:=hid (fun k=>w3n O k);have Gk:Hid (Blw w w):=Below.refl _ _;have Gp:Hid (w.ownsRow w 117 2 ((),()) 0 (z0a (zerW O 0))):=World.ownsRow_nil _ _ _ _;have GA:0<payW cl:=oM;have Gf:Hid (∀W A m c p',Blw w W->W.ownsRow w 225 3 (.slice A m c) m (z0h p')->z0y (zerW O (payW cl)) p'->() 46 #[.slice A m c,memV a] W (z0x a L (T+200) W S (wrS cur (zerW O (payW cl))) 0 ())):=hid (fun W A m c p' hW ho hp'=>by
  refine(z9s (h.below hW) ho h.lt hp' (fun e he=>?_) (by rw[y7n];omega) (by rw[y7n];omega)).mono ?_
  ·obtain⟨j,hj,rfl⟩:=z5t he
   exact⟨by show(O+8*j)%8=0;omega,by show O+8*j<64*L;omega,by show 0<_;omega⟩
  ·rintro e w'⟨he,S',hd,hc,hg⟩
   exact⟨he,S',hd.more (by rw[y7n];omega) oM,hc,hg⟩)
 clear h hB hp hO hp0 hc0 hc;generalize payW cl=q at*;unfold memV at*;go_enter Tryz.func279,Tryz.ntmps279
 go_wp2_with (go_at_call 159;refine G7.out.mono ?_;rintro e w1⟨rfl,rfl⟩)
 go_loopw [7,11] (fun v i wr=>∃(k:Nat)(A1:Option Addr)(m1 c1:Nat),k<=q/\i=↑[k]/\v=.slice A1 m1 c1/\m1=k/\Hid (wr.ownsRow w 117 2 (.slice A1 m1 c1) m1 (z0a (zerW O k)))/\Hid (Blw w wr)) (fun _ i _=>q-(RowKit.intOf i).toNat)
 case atStart=>exact⟨0,_,_,_,Nat.zero_le _,rfl,rfl,rfl,Gp,Gk⟩
 case round =>
  clear Gk Gp Gg;obtain⟨k,A1,m1,c1,hk,rfl,rfl,Ga,HO,H⟩:=hrel;by_cases hlt:k<q
  ·have GK:(0:Int)<=(k:Int):=oM
   have GL:(k:Int)<(q:Int):=oM;have GH:m1<=60:=oM;have HM:=hid Ga;have HA:=hid (Gj.out k hlt);have G1:Hid (z0a (zerW O k)++[.int .u64 ((O+8*k:Nat):Int),.int .u64 0]=z0a (zerW O (k+1))):=hid (by rw[Gt.out];simp[z0a]);have GJ:O+8*k<9000000000:=oM;generalize O+8*k=y at*;have Gn:=hid H.out.size;have G6:=hid (HO.out.alloc (.cells #[y,[()]] 117));have Gy:=hid (H.out.alloc H.out.size (.cells #[y,[()]] 117));clear H HO Ga;go_wp2_with (first
    |(go_at_call 65;refine(HA.out _).mono ?_;rintro e w1⟨rfl,rfl⟩)
    |(at_builtin;refine z0m _ (.tmp 14) (.tmp 19) 118 rfl rfl w 117 i0 _ 2 16 Tryz.underlying118 G9 GC GD GE rfl ?q1 (.slice A1 m1 c1) m1 (z0a (zerW O k)) rfl G6.out (wr+1) (some (wr,())) 1 1 [y,[()]] rfl ?q5 ?q6 ?q2 ?q3 ?q4 ?_;(case q1=>omega);(case q5=>exact z0j _ _ rfl _ 1 2 117 _ rfl rfl);(case q6=>(intro u hu;simp at hu;rcases hu with rfl|rfl<;>rfl));(case q2=>(unfold maxLen;omega));(case q3=>omega);(case q4=>(have:=Gn.out;simp;omega));intro A3 n3 c3 w8 hn3 ho3 Gd hb3;have G4:=hid hn3;have G5:=hid ho3;have Gm:=hid (Gy.out.trans hb3);clear hn3 ho3 Gd hb3)
    |go_in)
   have b1:n3=k+1:=by have:=G4.out;have:=HM.out;omega
   have Gq:Hid (w8.ownsRow w 117 2 (.slice A3 n3 c3) n3 (z0a (zerW O (k+1)))):=hid (by have h:=G5.out;rw[G1.out]at h;exact h);go_roundw
   case rel =>
    first
     |exact⟨k+1,_,_,_,oM,by go_num,rfl,b1,Gq,Gm⟩
     |(
       repeat apply Exists.intro
       refine⟨?_,rfl⟩;exact⟨k+1,_,_,_,oM,by go_num,rfl,b1,Gq,Gm⟩)
   case measure=>simp[RowKit.intOf];omega
  ·obtain rfl:q=k:=oM
   subst Ga;have Gn:=hid H.out.size;have Gs:Hid (∀W,Blw wr W->() 81 #[.slice A1 m1 c1] W (z2e w (z0y (zerW O m1)))):=hid (fun W hW=>by
    refine(z1n A1 m1 c1 (zerW O m1) W (((z0d.of_own HO.out).below hW).more hW.size) GA oM (fun e he=>by obtain⟨j,hj,rfl⟩:=z5t he;show O+8*j<_;omega)).mono ?_;intro e w' hr;exact z2e.back (H.out.trans (hW.mono H.out.size)) hr)
   have G3:=hid (Gb.out.below H.out Gb.out.lt);clear HO Gj Gt HD;go_wp2_with fail
   have Gu:wr.cell? (g,())=some (.iface 57 (a.th 0,())):=(G3.out.cell 0).trans Ge.out;refine z0f (fun w'=>w'.cell? (g,())=some (.iface 57 (a.th 0,()))) 7 [(true,0),(true,2),(true,3),(true,4),(true,5),(false,1),(false,6)] (by kernel_rfl) (by kernel_rfl) Gu ?_;clear Gu;refine tkS (.slice A1 m1 c1) (fun w' hS=>?_) ?_
   ·go_simp
   refine tkS (g,()) (fun w' hS=>?_) ?_
   ·go_simp
   refine tkS (g,()) (fun w' hS=>?_) ?_
   ·go_simp
   refine tkS (g,()) (fun w' hS=>?_) ?_
   ·go_simp
   refine tkS (.iface 57 (a.th 0,())) (fun w' hS=>?_) ?_
   ·go_simp
   refine z0k (by rfl) ?_;go_wp2_with fail
   refine(Gs.out _ (Below.refl _ _).drew).mono ?_;rintro e w2⟨A2,m2,c2,p2,rfl,Gx,Gw,Gc⟩;have Gr:=hid (Gf.out w2 A2 m2 c2 p2 Gc Gw Gx);have Gl:=hid Gc;have Gi:=Gb.out.below Gc Gb.out.lt;have Gz:=hid ((Gi.cell 0).trans Ge.out);have G2:=hid Gi;clear Gx Gw Gc Gi Gs;go_wp2_with fail
   refine⟨Gz.out,?_⟩;refine z0k (by rfl) ?_;go_wp2_with fail
   refine Gr.out.mono ?_;rintro e w3⟨rfl,S3,Gv,Gh,Gd⟩;have HE:=hid (show Dev a L (T+200) w3 S3 (wrS cur (zerW O m1)) 0/\Chg S w w3/\Grew S S3 w from⟨Gv,(Chg.of_below Gl.out).trans Gh (Grew.refl _ _),fun k hk=>(Gd k hk).imp id (fun h=>Nat.le_trans Gl.out.size h)⟩);have G0:=hid (((Gh.blk G2.out hgS).cell 0).trans Ge.out);clear Gv Gh Gd Gr hgS;go_wp2_with fail
   refine⟨G0.out,?_⟩;show wpList _ _ _ _ _ _;simp only[List.drop_succ_cons,List.drop_zero];go_wp2_with fail
   refine NoPanic.normal ?_;go_wp2;go_ret;exact⟨rfl,S3,HE.out.1,HE.out.2.1,HE.out.2.2⟩
theorem w6s{a s K x cs w}(h:Plc a s K x cs w)(_hK:K<=128)(_hs:s<=100000)(hf:∃k,k<K/\(cs k).dv=false):
  () 342 #[(x.gs,0)] w fun e w'=>∃k,k<K/\(cs k).dv=false/\e=.returned (.tuple #[(x.pl,x.po+k*4),()])/\w=w':=by
 obtain⟨c,_,f1⟩:=h.sets;have HP:=hid h;have HF:=hid hf;clear h hf;obtain⟨gs,pl,po⟩:=x;dsimp only at*;go_enter Tryz.func342,Tryz.ntmps342
 go_wp2;go_loopw [15] (fun i wr=>∃(k:Nat),k<=K/\i=↑[k]/\Hid (∀j,j<k->(cs j).dv=true)/\w=wr) (fun i _=>K-(RowKit.intOf i).toNat)
 case atStart=>exact⟨0,Nat.zero_le _,rfl,hid (fun j hj=>oM),rfl⟩
 case round =>
  obtain⟨k,hk,rfl,HA,rfl⟩:=hrel;by_cases hlt:k<K
  ·obtain⟨f0,f2,f3,b4,f4⟩:=HP.out.facts (k:=k) hlt
   dsimp only at f0 f2 f3 f4;have Gb:(0:Int)<=(k:Int):=oM;have Gc:(k:Int)<(K:Int):=oM;unfold CS.cls at f2;by_cases hd:(cs k).dv=true
   ·rw[if_pos hd]at f2
    have hq:decide (((cs k).cl:Int)<0)=false:=dF;have Ga:Hid (∀j,j<k+1->(cs j).dv=true):=hid (fun j hj=>by
     by_cases e:j=k
     ·rw[e];exact hd
     ·exact HA.out j oM)
    generalize (cs k).cl=v at*;clear hd HA;go_wp2;go_roundw
    case rel =>
     first
      |exact⟨k+1,oM,by go_num,Ga,trivial⟩
      |exact⟨k+1,oM,by go_num,Ga,rfl⟩
      |(
        repeat apply Exists.intro
        refine⟨?_,rfl⟩;exact⟨k+1,oM,by go_num,Ga,rfl⟩)
    case measure=>simp[RowKit.intOf];omega
   ·rw[if_neg hd]at f2
    have HD:Hid ((cs k).dv=false):=hid (by simpa using hd);clear hd HA;go_wp2;go_ret2;exact⟨k,hlt,HD.out,rfl,rfl⟩
  ·exfalso
   obtain⟨k0,h1,h2⟩:=HF.out;have:=HA.out k0 oM;rw[h2]at this;cases this
end
section
open Go.RowKit Go.Maps
def csN:CS:=⟨false,0,1,0,fun _=>⟨1,0,176⟩⟩
end
section
open Go.RowKit Go.Maps Go.Shelf
def rdG(s:Nat)(cur:Nat->Nat)(ws:List (Nat×Nat))(cm:Nat):Nat->Nat:=if ws=[]then cur else wrS (wrS (wrS (wrS cur (entW (64*s) 0 ws)) [(64*s,cm)]) ws) [(64*s,0)]
theorem z3m(cur:Nat->Nat) o v i:wrS cur [(o,v)] i=if i=o/8 then v else cur i:=rfl
section
variable{cur:Nat->Nat}{ws:List (Nat×Nat)}{cm s:Nat}
theorem y7c{L}(hg:∀e∈ws,z3e L s 26 e.1)(hn:(ws.map (·.1)).Nodup){e}(he:e∈ws):rdG s cur ws cm (e.1/8)=e.2:=by
 unfold rdG;have h1:=(hg e he).out;have h2:=(hg e he).al;rw[if_neg (fun h=>by rw[h]at he;simp at he),z3m,if_neg oM];exact z5s ws _ hn (fun x hx=>(hg x hx).al) e he
theorem y1e(hl:ws.length<=96){i}(hi:i<8*s\/8*s+208<=i)(ho:∀e∈ws,e.1/8≠i):rdG s cur ws cm i=cur i:=by
 unfold rdG;split
 ·rfl
 ·rw[z3m,if_neg oM,z1s ws _ _ ho,z3m,if_neg oM,z6o s ws 0 i cur oM]
theorem x5h(h:cur (8*s)=0):rdG s cur ws cm (8*s)=0:=by
 unfold rdG;split
 ·exact h
 ·rw[z3m,if_pos oM]
theorem w2q(h:∀i,cur i<18446744073709551616)(hg:∀e∈ws,e.1<18446744073709551616/\e.2<18446744073709551616)(hc:cm<18446744073709551616) i:rdG s cur ws cm i<18446744073709551616:=by
 unfold rdG;split
 ·exact h i
 ·refine z3k _ _ (z3k _ _ (z3k _ _ (z3k _ _ h ?_) ?_) (fun e he=>(hg e he).2)) ?_ i
  ·intro e he
   obtain⟨j,_,_,x,hx,h1|h1⟩:=z5h _ _ _ _ he
   ·rw[h1];exact(hg x hx).1
   ·rw[h1];exact(hg x hx).2
  ·intro e he
   simp at he;subst he;exact hc
  ·intro e he
   simp at he;subst he;show 0<_;omega
end
theorem w2u{a L T s w S cur}(h:Dev a L T w S cur 0){A m c base p ws}(ho:w.ownsRow base 225 3 (.slice A m c) m (z0h p))(hb:∀k,S k->k<base)(hp:x9e s ws p)
  (hw:∀e∈ws,z3e L s 26 e.1) (hv:∀e∈ws,e.2<18446744073709551616) (hl:ws.length<=96) (hsL:s+26<=L) (hT:T+800<=1000000000) :
  () 46 #[.slice A m c,memV a] w fun e w'=>∃cm,cm<18446744073709551616/\z0x a L (T+800) w S (rdG s cur ws cm) 0 () e w':=by
 have hL:L<=4096:=by obtain⟨ls,Gq,Gt,cs,Gs,Gf,Gr⟩:=h;exact Gf.hL
 rcases hp with ⟨rfl,rfl⟩|⟨hne,cm,p1,p2,p3,hcm,hp1,hp2,⟨p4,p5,hp4,hp5,rfl⟩,rfl⟩
 ·have hm:m=0:=by have:=ho.1;simp[z0h]at this;omega
  subst hm;refine(z6k h A 0 c [] (z0d.of_own ho) (z7v ho hb) ⟨rfl,fun _ _ h=>h⟩ oM oM).mono ?_;rintro e w'⟨he,S',hd,hc,Gd⟩;exact⟨0,oM,he,S',hd.more oM oM,hc,Gd⟩
 ·have h1:∀e∈entW (64*s) 0 ws,e.1%8=0/\e.1<64*L/\e.2<18446744073709551616:=fun e he=>by
   obtain⟨j,hj,h1,x,hx,h2⟩:=z5h _ _ _ _ he;have:=(hw x hx).lt;have:=hv x hx;refine⟨oM,oM,?_⟩;rcases h2 with h2|h2<;>omega
  have h2:∀v,v<18446744073709551616->∀e∈[((64*s:Nat),v)],e.1%8=0/\e.1<64*L/\e.2<18446744073709551616:=fun v hv e he=>by
   simp only[List.mem_cons,List.not_mem_nil,or_false]at he;subst he;exact⟨by show 64*s%8=0;omega,by show 64*s<64*L;omega,hv⟩
  have h3:∀e∈ws,e.1%8=0/\e.1<64*L/\e.2<18446744073709551616:=fun e he=>⟨(hw e he).al,(hw e he).lt,hv e he⟩
  obtain⟨Gg,Gk,Ga⟩:=z1k hp1 h1 cur;obtain⟨Gh,Gl,Gb⟩:=z1k hp2 (h2 cm hcm) (wrS cur (entW (64*s) 0 ws));obtain⟨Gi,Gm,Ge⟩:=z1k hp4 h3 (wrS (wrS cur (entW (64*s) 0 ws)) [(64*s,cm)]);obtain⟨Gj,Gn,Gc⟩:=z1k hp5 (h2 0 oM) (wrS (wrS (wrS cur (entW (64*s) 0 ws)) [(64*s,cm)]) ws);have hm:(p1++p2++(p4++p5)).length=m:=by have:=ho.1;rw[z0o]at this;omega
  rw[z6t]at Ga;simp only[List.length_append,List.length_cons,List.length_nil]at hm Gb Gc;refine(z6k h A m c _ (z0d.of_own ho) (z7v ho hb) (z4x (z4x Gg Gh) (z4x Gi Gj)) oM oM).mono ?_;rintro e w'⟨he,S',hd,hc,Gd⟩;rw[z3v,z3v,z3v,Gk,Gl,Gm,Gn]at hd;have Gp:rdG s cur ws cm=wrS (wrS (wrS (wrS cur (entW (64*s) 0 ws)) [(64*s,cm)]) ws) [(64*s,0)]:=by unfold rdG;rw[if_neg hne]
  rw[<- Gp]at hd;exact⟨cm,hcm,he,S',hd.more oM oM,hc,Gd⟩
def v2c(a:DA)(L s T':Nat)(w:World)(S:Fp)(cur:Nat->Nat)(ws:List (Nat×Nat))(e:Ending)(w':World):Prop:=∃cm,cm<18446744073709551616/\z0x a L T' w S (rdG s cur ws cm) 0 () e w'
theorem y2f{a L T s w S cur}(h:Dev a L T w S cur 0) g (hB:Blk w g 316 (z1q a s 26))
  A N c ws (hr:z0d w w.heap.size 2 A N (z0a ws)) (hd:Diff ws) (ho:∀e∈ws,z3e L s 26 e.1) (hv:∀e∈ws,e.2<18446744073709551616) (hN:N<=96) (hidle:cur (8*s)=0) (ht:Tab w) (hsL:s+26<=L) (hT:T+800<=1000000000) :
  () 187 #[(g,0),.slice A N c] w (v2c a L s (T+800) w S cur ws):=by
 have HP:=hid (x0a h g s 26 hB hsL oM A N c ws hr hd ho hv hN hidle ht);have Ge:ws.length=N:=by have:=hr.1;rw[z1a]at this;omega
 have Gh:Hid (∀W A1 m1 c1 p,Blw w W->W.ownsRow w.heap.size 225 3 (.slice A1 m1 c1) m1 (z0h p)->x9e s ws p->() 46 #[.slice A1 m1 c1,memV a] W fun e w'=>∃cm,cm<18446744073709551616/\z0x a L (T+800) W S (rdG s cur ws cm) 0 () e w'):=hid (fun W A1 m1 c1 p hW hown hp =>
  w2u (h.below hW) hown h.lt hp ho hv oM hsL hT)
 have Gg:=hid hB;clear h hB hr hd ho hv hN hidle ht Ge;go_enter Tryz.func187,Tryz.ntmps187
 go_wp2_with fail
 refine HP.out.mono ?_;rintro e W1⟨A1,m1,c1,p,rfl,hp,Gi,Ga⟩;have f0:W1.cell? (g,0)=some (memV a):=(Gg.out.below Ga Gg.out.lt).cell 0;have HR:=hid (Gh.out W1 A1 m1 c1 p Ga Gi hp);have Gf:=hid Ga;unfold memV at f0;unfold memV at HR;clear hp Gi Ga HP Gh;go_wp2_with fail
 refine HR.out.mono ?_;rintro e W2⟨cm,Gj,rfl,S2,Gc,Gb,Gd⟩;have H2:=hid (show Dev a L (T+800) W2 S2 (rdG s cur ws cm) 0/\Chg S W1 W2/\Grew S S2 W1 from⟨Gc,Gb,Gd⟩);clear Gc Gb Gd HR;go_wp2;go_ret;obtain⟨Gc,Gb,Gd⟩:=H2.out;exact⟨cm,Gj,rfl,S2,Gc,(Chg.of_below Gf.out).trans Gb (Grew.refl _ _),fun k hk=>(Gd k hk).imp id (fun h=>Nat.le_trans Gf.out.size h)⟩
end
section
open Go.RowKit Go.Maps
def SG(S:Fp)(g:Nat):Fp:=fun k=>S k\/k=g
theorem v3l(w:World)(o:Nat)(k:Nat)(hk:w.heap.size=k):z0d (w.alloc (.cells #[o] 32)) (w.alloc (.cells #[o] 32)).heap.size 1 (some (k,())) 1 (z0g [o]):=by
 subst hk;rw[show(w.alloc (.cells #[o] 32)).heap.size=w.heap.size+1 by simp];exact z0j w _ rfl _ 1 1 32 _ rfl rfl
theorem v2z o:(fr (([]:List (Nat×Nat)).map (·.1)) [o]).2=[o]:=by simp[fr,z5w]
theorem w5w{ws ws2 p}(h:IsFl ws ws2 p)(h1:ws2.length=1)(h2:ws.length<=100):3<=p.length/\p.length<=1000:=by
 obtain⟨fs,p2,rfl,hf,_,Ga,rfl,Gb,_⟩:=h;simp;omega
def y4d(v:Value):Prop:=∃(ad:Addr)(m c:Nat),v=.slice (some ad) m c
def w8o(st:Nat->Nat)(n j:Nat)(z:Int):Prop:=(z= -1/\∀i,j<=i->i<n->st i≠176)\/∃i:Nat,z=(i:Int)/\j<=i/\i<n/\st i=176/\∀i',j<=i'->i'<i->st i'≠176
theorem z8p V:∀(n j:Nat),(z2q V n j=none/\∀i,j<=i->i<j+n->z1z V i=true)\/∃i,z2q V n j=some i/\j<=i/\i<j+n/\z1z V i=false/\∀i',j<=i'->i'<i->z1z V i'=true
 |0,j => .inl ⟨rfl,fun i h1 h2=>oM⟩
 |n+1,j=>by
  cases hb:z1z V j
  ·exact .inr ⟨j,by simp[z2q,hb],nL _,oM,hb,fun i' h1 h2=>oM⟩
  ·rcases z8p V n (j+1)with ⟨h1,h2⟩|⟨i,h1,h2,h3,h4,h5⟩
   ·refine .inl ⟨by simp[z2q,hb,h1],fun i h3 h4=>?_⟩
    by_cases e:i=j
    ·rw[e];exact hb
    ·exact h2 i oM oM
   ·refine .inr ⟨i,by simp[z2q,hb,h1],oM,oM,h4,fun i' h6 h7=>?_⟩
    by_cases e:i'=j
    ·rw[e];exact hb
    ·exact h5 i' oM h7
theorem x7r{cur ln cl g V bs}(h:ChW cur ln cl g V bs) j:∃z:Int,y9a V cl j=↑[z]/\w8o (fun i=>(bs i).st) (perC cl) j z:=by
 have hb:∀i,i<perC cl->z1z V i=true->(bs i).st≠176:=fun i hi hh=>by
  have:=h.bit i hi;rw[hh]at this;simpa using this.symm
 unfold y9a;rcases z8p V (perC cl-j) j with ⟨h1,h2⟩|⟨i,h1,h2,h3,h4,h5⟩
 ·rw[h1]
  exact⟨-1,rfl,.inl ⟨rfl,fun i hi hn=>hb i hn (h2 i hi oM)⟩⟩
 ·rw[h1]
  refine⟨i,rfl,.inr ⟨i,rfl,h2,oM,?_,fun i' k1 k2=>hb i' oM (h5 i' k1 k2)⟩⟩;have:=h.bit i oM;rw[h4]at this;simpa using this.symm
section
variable{a:DA}{L T s n K:Nat}{x:HA}{cs:Nat->CS}{f:Nat->Option Nat}{N m b0:Nat}{S:Fp}{cur:Nat->Nat}{w w':World}
theorem DS.chw(h:DS a L T s n K x cs f N m b0 S cur w){k}(hk:k<K)(hd:(cs k).dv=true):ChW cur (s+32*k) (cs k).cl (cs k).g (cs k).V (cs k).bs:=by
 have:=h.ok k hk;unfold CSok at this;rw[hd]at this;exact this
def fptr(s:Nat)(cs:Nat->CS)(kind k i:Nat):Nat:=pMk (blkO (s+32*k) (cs k).cl i) ((cs k).bs i).gen kind
def offO(s:Nat)(cs:Nat->CS)(k i:Nat):Nat:=blkO (s+32*k) (cs k).cl i
def w4c(s:Nat)(cs:Nat->CS)(f:Nat->Option Nat)(kind k:Nat)(v:Value):Prop :=
 (v=.tuple #[[()],.int .i64 5]/\∀i,i<perC (cs k).cl->((cs k).bs i).st=176->f (offO s cs k i)≠none) \/
 ∃i,i<perC (cs k).cl/\((cs k).bs i).st=176/\f (offO s cs k i)=none/\v=.tuple #[(fptr s cs kind k i),()]
def witM(n:Nat):Value->Nat
 | .int _ (.ofNat i)=>n-i
 |_=>0
theorem y5h(h:DS a L T s n K x cs f N m b0 S cur w){k}(hk:k<K)(hd:(cs k).dv=true) kind (hk0:0<kind) (hk8:kind<128) :
  () 278 #[(x.h,0),[s+32*k],[[kind]]] w fun e w'=>∃v,e=.returned v/\w4c s cs f kind k v/\Blw w w':=by
 have hC:=h.chw hk hd;have hL:=h.hL;have Gb:=h.line hk;have HD:=hid h;have GN:=z3b (cs k).cl;have GC:Hid (∀W,Blw w W->() 151 #[memV a,[s+32*k]] W fun e w'=>e=.returned (.tuple #[chV a (s+32*k) (cs k).cl 0 (cs k).g,()])/\Blw W w'):=hid (fun W hW=>z4u (h.dev.below hW) (h.tab.below hW) (h.pay.below hW) _ _ _ Gb hC.cls hC.g0 hC.g1 hC.hdr);have Gn:Hid (∀j W,Blw w W->() 320 #[chV a (s+32*k) (cs k).cl 0 (cs k).g,[j]] W fun e w'=>∃z:Int,e=.returned [z]/\w8o (fun i=>((cs k).bs i).st) (perC (cs k).cl) j z/\Blw W w'):=hid (fun j W hW=>by
  obtain⟨z,h1,h2⟩:=x7r hC j;refine(w5l (h.dev.below hW) (h.pay.below hW) _ _ _ _ j Gb hC.cls hC.v64 hC.bits).mono ?_;rintro e w'⟨rfl,hb⟩;exact⟨z,by rw[h1],h2,hb⟩)
 have Gq:Hid (∀i,i<perC (cs k).cl->((cs k).bs i).st=176->∀W,Blw w W->() 176 #[chV a (s+32*k) (cs k).cl 0 (cs k).g,[i],[[kind]]] W fun e w'=>e=.returned (.tuple #[(fptr s cs kind k i),()])/\Blw W w'):=hid (fun i hi hs W hW=>by
  have Gy:z7h ((cs k).bs i) kind=kind:=by unfold z7h;rw[if_neg oM]
  have hg:=hC.good i hi;have GM:0<((cs k).bs i).gen:=by unfold BK.good at hg;rw[if_pos hs]at hg;simp at hg;omega
  have hp:=x3c (h.dev.below hW) (h.tab.below hW) (h.pay.below hW) (s+32*k) (cs k).cl (cs k).g (cs k).V i ((cs k).bs i) (hC.inn i hi) hg (.inl hs) (hC.bit i hi) Gb hC.cls hi hC.v64 hC.bits (hC.word i hi) kind (by rw[Gy];exact hk0) (by rw[Gy];exact hk8) oM GM;rw[Gy]at hp;exact hp)
 have GK:Hid (∀i,i<perC (cs k).cl->∀W,() 143 #[(fptr s cs kind k i)] W fun e w'=>e=.returned (offO s cs k i)/\W=w'):=hid (fun i hi W=>by
  have ho:=off_lt hi;have h1:pOff (fptr s cs kind k i)=offO s cs k i:=x3a (by unfold blkO;omega) (by unfold blkO;omega);have h2:=z4o (fptr s cs kind k i) W;rw[h1]at h2;exact h2)
 have GL:Hid (∀i,i<perC (cs k).cl->offO s cs k i<18446744073709551616):=hid (fun i hi=>by have:=off_lt hi;unfold offO blkO;omega);have G6:Hid (∀W,Blw w W->() 76 #[(a.th 0,0)] W fun e w'=>e=.returned ()/\W=w'):=hid (fun W hW=>z9u (h.dev.below hW));have hm:=z1x (some (a.th 0,0));have G3:Hid (Blw w w):=Below.refl _ _;clear h hC hL Gb hd;have GP:Hid (∀v,w4c s cs f kind k v=w4c s cs f kind k v):=hid (fun v=>rfl);have G0:w.cell? (x.h,0)=some (memV a):=HD.out.hs.heap.cell 0;generalize Gb:s+32*k=ln at*;generalize hcl:(cs k).cl=cl at*;generalize hcg:(cs k).g=cg at*;have HE:=hid (show s+32*k=ln/\(cs k).cl=cl/\(cs k).g=cg from⟨Gb,hcl,hcg⟩);clear Gb hcl hcg;unfold chV at*;unfold memV at*;go_enter Tryz.func278,Tryz.ntmps278
 go_wp2_with fail
 refine(GC.out _ G3.out).mono ?_;rintro e w1⟨rfl,Gi⟩;have Gh:=hid (Gi.alloc Gi.size (.cells #[(57,a.th 0,0),[ln],[cl],(),#[cg]] 251));have Gp:=hid (Blk.new w1 251 #[(57,a.th 0,0),[ln],[cl],(),#[cg]]);have GO:=hid Gi.size;clear Gi GC G3;go_wp2_with fail
 refine(Gn.out 0 _ Gh.out).mono ?_;rintro e w2⟨z0,rfl,GG,Gs⟩;have G4:=hid (Gh.out.trans (Gs.mono Gh.out.size));have G9:=hid (Gp.out.below Gs Gp.out.lt);have GE:=hid GG;have G8:Hid (Blw w2 w2):=Below.refl _ _;clear Gs GG Gh Gp G0;go_wp2;go_loopw [10] (fun v wr=>∃(j:Nat)(z:Int),v=↑[z]/\Hid (w8o (fun i=>((cs k).bs i).st) (perC cl) j z)/\Hid (∀i,i<j->i<perC cl->((cs k).bs i).st=176->f (offO s cs k i)≠none)/\Hid (Blw w2 wr)) (fun v _=>witM (perC cl) v)
 case atStart=>exact⟨0,z0,rfl,GE,hid (fun i hi=>oM),G8⟩
 case round =>
  clear GE G8;obtain⟨j,z,rfl,HZ,HA,H⟩:=hrel;have Gd:=hid (G4.out.trans (H.out.mono G4.out.size));have Ga:=hid (G9.out.below H.out G9.out.lt);have Gt:wr.cell? (w1,0)=some ↑(57,a.th 0,0):=Ga.out.cell 0;have Gu:wr.cell? (w1,1)=some ↑[ln]:=Ga.out.cell 1;have Gv:wr.cell? (w1,2)=some ↑[cl]:=Ga.out.cell 2;have Gw:wr.cell? (w1,3)=some ↑():=Ga.out.cell 3;have Gx:wr.cell? (w1,4)=some ↑#[cg]:=Ga.out.cell 4;have G0:wr.cell? (x.h,0)=some ↑(57,a.th 0,0):=((HD.out.hs.heap.below Gd.out HD.out.hs.heap.lt).cell 0)
  rcases HZ.out with ⟨rfl,hno⟩|⟨i,rfl,hji,hi,hst,hmin⟩
  ·have GJ:Hid (∀i,i<perC cl->((cs k).bs i).st=176->f (offO s cs k i)≠none):=hid (fun i hi hs=>by
    by_cases hij:i<j
    ·exact HA.out i hij hi hs
    ·exact absurd hs (hno i oM hi))
   have Gl:=hid (G6.out wr Gd.out);clear hno HA HZ Gn Gq Gt Gu Gv Gw Gx;go_wp2_with (go_at_call 76;refine Gl.out.mono ?_;rintro e w3⟨rfl,rfl⟩)
   go_ret2;refine⟨_,rfl,.inl ⟨rfl,?_⟩,Gd.out⟩;obtain⟨_,h2,_⟩:=HE.out;rw[h2];exact GJ.out
  ·have GD:=hid (Gq.out i hi hst wr Gd.out)
   have GA:=hid (GK.out i hi);have HI:=hid (show i<perC cl/\((cs k).bs i).st=176/\offO s cs k i<18446744073709551616 from⟨hi,hst,GL.out i hi⟩);have G1:decide ((0:Int)<=(i:Int))=true:=dT;have GR:(0:Int)<=(i:Int):=oM;have GS:(i:Int)<=62:=oM;have HM:=hid (show j<=i/\∀i',j<=i'->i'<i->((cs k).bs i').st≠176 from⟨hji,hmin⟩);clear hi hst hji hmin HZ;generalize hfp:fptr s cs kind k i=fp at*;have GH:=hid hfp;clear hfp;go_wp2_with fail
   refine GD.out.mono ?_;rintro e w3⟨rfl,Gj⟩;have Gc:=hid (Gd.out.trans (Gj.mono Gd.out.size));have Gf:=hid (H.out.trans (Gj.mono H.out.size));have Gg:=hid (Ga.out.below Gj Ga.out.lt);have Gm:=hid (G6.out w3 Gc.out);have G0:w3.cell? (x.h,0)=some ↑(57,a.th 0,0):=((HD.out.hs.heap.below Gc.out HD.out.hs.heap.lt).cell 0)
   clear Gj Gt Gu Gv Gw Gx GD Gq;have GQ:w3.cell? (x.h,4)=some (.map (some x.mr)):=((HD.out.hs.heap.below Gc.out HD.out.hs.heap.lt).cell 4)
   have Ge:=(HD.out.hs.res.chg ((Chg.of_below (S:=Fp.no) Gc.out).drew) (fun h=>h)).look HI.out.2.2;generalize hof:offO s cs k i=o at*;have GB:=hid hof;clear hof;go_wp2_with (go_at_call 76;refine Gm.out.mono ?_;rintro e w4⟨rfl,rfl⟩)
   cases hf:f o with
   |none =>
    rw[hf]at Ge;have Gz:(Instr.lookup 144 (.map (some x.mr)) o true).run Tryz.prog w3.drew=.ok (.tuple #[[()],false]) w3.drew:=Ge;have HF:=hid hf;clear Ge hf;go_region_with (go_at_call 143;refine(GA.out _).mono ?_;rintro e w4⟨rfl,rfl⟩)
    all_goals
     go_wp2;go_ret2;refine⟨_,rfl,.inr ⟨i,?_,HI.out.2.1,by rw[GB.out];exact HF.out,by rw[GH.out];rfl⟩,Gc.out.drew⟩;obtain⟨_,h2,_⟩:=HE.out;rw[h2];exact HI.out.1
   |some q =>
    rw[hf]at Ge;have Gz:(Instr.lookup 144 (.map (some x.mr)) o true).run Tryz.prog w3.drew=.ok (.tuple #[q,true]) w3.drew:=Ge;have G2:Hid (∀i',i'<i+1->i'<perC cl->((cs k).bs i').st=176->f (offO s cs k i')≠none):=hid (fun i' h1 h2 h3=>by
     by_cases e1:i'<j
     ·exact HA.out i' e1 h2 h3
     ·by_cases e2:i'=i
      ·subst e2
       rw[GB.out,hf];intro h;cases h
      ·exact absurd h3 (HM.out.2 i' oM oM))
    have Gt:w3.cell? (w1,0)=some ↑(57,a.th 0,0):=Gg.out.cell 0;have Gu:w3.cell? (w1,1)=some ↑[ln]:=Gg.out.cell 1;have Gv:w3.cell? (w1,2)=some ↑[cl]:=Gg.out.cell 2;have Gw:w3.cell? (w1,3)=some ↑():=Gg.out.cell 3;have Gx:w3.cell? (w1,4)=some ↑#[cg]:=Gg.out.cell 4;have Gk:=hid Gc.out.drew;have G7:=hid (Gn.out (i+1) w3.drew Gk.out);have ei:((i+1:Nat):Int)=(i:Int)+1:=oM;rw[ei]at G7;clear Ge hf HA HM ei;go_region_with (go_at_call 143;refine(GA.out _).mono ?_;rintro e w4⟨rfl,rfl⟩)
    all_goals
     go_wp2_with (go_at_call 320;refine G7.out.mono ?_;rintro e w5⟨z5,rfl,G1,GF⟩;have Gr:=hid G1;have G5:=hid (Gf.out.drew.trans (GF.mono Gf.out.size));clear G1 GF)
     have GI:Hid (witM (perC cl) [z5]<witM (perC cl) [i]):=hid (by
      have hi:=HI.out.1;rcases Gr.out with ⟨rfl,_⟩|⟨i2,rfl,h1,h2,_⟩
      ·show 0<perC cl-i;omega
      ·show perC cl-i2<perC cl-i;omega)
     go_roundw
     case rel =>
      first
       |exact⟨i+1,z5,rfl,Gr,G2,G5⟩
       |(
         repeat apply Exists.intro
         refine⟨?_,rfl⟩;exact⟨i+1,z5,rfl,Gr,G2,G5⟩)
     case measure=>exact GI.out
end
end
section
open Go.RowKit
theorem v4e c g (hc:c<5) (hg:g<65536):bits .or .u32 ((3305111552+g:Nat):Int) (((c+1)*65536+1048576:Nat):Int)=(hdX c g:Int):=by
 rw[u32_or_nat _ _ oM oM];congr 1
 have e1:3305111552+g=3305111552|||g:=Nat.two_pow_add_eq_or_of_lt (i:=16) (b:=g) oM 50432
 have e2:3305111552|||((c+1)*65536+1048576)=2^16*(50432+(c+1)+16):=by
  have Ga:c=0\/c=1\/c=2\/c=3\/c=4:=oM;rcases Ga with rfl|rfl|rfl|rfl|rfl<;>decide
 rw[e1,Nat.or_assoc,Nat.or_comm g,<- Nat.or_assoc,e2,<- Nat.two_pow_add_eq_or_of_lt oM];unfold hdX;omega
theorem v3b(c:Nat)(hc:c<5):bits .or .u32 (((c:Int)+1)*65536) 1048576=(((c+1)*65536+1048576:Nat):Int):=by
 have Ga:c=0\/c=1\/c=2\/c=3\/c=4:=oM;rcases Ga with rfl|rfl|rfl|rfl|rfl<;>decide
section
theorem x3t(c g:Nat)(hc:c<5)(hg:g<65536)(w:World)(ht:Tab w):
  () 270 #[.agg #[[c],(),#[g]]] w fun e w'=>e=.returned (hdrW c g)/\Blw w w':=by
 have Ga:Hid (∀x,Blw w (w.alloc x)):=fun x=>(Below.refl _ _).alloc (nL _) x
 have HS:=hid (fun x=>z6z (hdX c g) (by unfold hdX;omega) (w.alloc x) (ht.below (Ga.out x)));have e1:=w8h g hg;have e2:=v4e c g hc hg;have e3:=v3b c hc;have u1:IntKind.u32.wrap (g:Int)=(g:Int):=by rw[IntKind.wrap_u32'];omega
 have u2:IntKind.u32.wrap ((c:Int)+1)=(c:Int)+1:=by rw[IntKind.wrap_u32'];omega
 have u3:IntKind.u32.wrap (((c:Int)+1)*65536)=((c:Int)+1)*65536:=by rw[IntKind.wrap_u32'];omega
 have d1:decide ((0:Int)<=(c:Int))=true:=dT;unfold hdrW;generalize hdX c g=z at*;generalize ((c+1)*65536+1048576)=y at*;generalize 3305111552+g=q at*;clear ht;go_enter Tryz.func270,Tryz.ntmps270
 go_wp2_with (go_at_call 314;refine(HS.out _).mono ?_;rintro e w1⟨rfl,Gb⟩;have Gc:=hid ((Ga.out _).trans (Gb.mono (by simp)));clear Gb)
 go_ret;exact⟨rfl,Gc.out⟩
def w3p(ln cl g:Nat)(p:List Ins):Prop:=∃p1 p2,p=p1++p2/\z0y (fmtW ln cl g) p1/\z0y [(64*ln,hdrW cl g)] p2
theorem y5e{ws p}(h:z0y ws p):p.length<=2*ws.length+1:=by
 obtain⟨fs,rfl,hl,_⟩:=h;simp;omega
theorem x6v ln cl g (hl:ln<=4064) (hc:cl<5) (h0:0<g) (hg:g<65536) w (ht:Tab w) (hp:Pay w) :
  () 319 #[[ln],.agg #[[cl],(),#[g]]] w (y1j w (w3p ln cl g)):=by
 have HT:=hid ht;have Dt:=hid hp;obtain⟨i0,GS,GW,GX,GY⟩:=info_parts z1l;have Gf:Hid (Blw w (w.alloc (.cells #[[cl],(),#[g]] 249))):=(Below.refl _ _).alloc (nL _) _;have Ga:=hid (Blk.new w 249 #[[cl],(),#[g]]);generalize hW:w.alloc (.cells #[[cl],(),#[g]] 249)=W at*;have Dg:=hid hW.symm;clear hW;have GK:=hid (ht.below Gf.out);have Gx:=hid (hp.below Gf.out);have HF:=hid (z8o cl g hc W Gx.out);have G6:Hid (∀V,Blw W V->() 301 #[.agg #[#[g],.int .u8 0,.int .u8 176]] V fun e w'=>e=.returned (BK.w ⟨g,0,176⟩)/\Blw V w'):=hid (fun V hV=>y4h ⟨g,0,176⟩ ⟨hg,by show(0:Nat)<256;omega,by show(176:Nat)<256;omega⟩ V (GK.out.below hV));have GH:Hid (∀V,Blw W V->() 173 #[[cl]] V fun e w'=>e=.returned [perC cl]/\V=w'):=hid (fun V hV=>z2i cl hc V (Gx.out.below hV));have GF:Hid (∀k,k<perC cl->∀V,Blw W V->() 298 #[[cl],[k]] V fun e w'=>e=.returned (.tuple #[[offB cl k],()])/\V=w'):=hid (fun k hk V hV=>y4x cl k hc hk V (Gx.out.below hV));have Gy:=hid (z5c ln oM);have GM:Hid (∀V,Blw W V->() 270 #[.agg #[[cl],(),#[g]]] V fun e w'=>e=.returned (hdrW cl g)/\Blw V w'):=hid (fun V hV=>x3t cl g hc hg V (GK.out.below hV));have GG:Hid (∀k,k<perC cl->offB cl k<256):=hid (fun k hk=>by have:=off_lt hk;have:=z7i cl;omega);have Dq:=z3b cl;have G5:=hid (fun k=>w0v ln cl g k);have GN:=hid (fun k=>w0w ln k);have d1:decide ((0:Int)<=(ln:Int))=true:=dT;have d2:decide ((ln:Int)<=4064)=true:=dT;have d3:((g:Int)==0)=false:=by rw[beq_eq_false_iff_ne];omega
 clear ht hp hc h0 hg;generalize hz:64*ln=z at*;have Dy:z<=260096:=oM;have HZ:=hid hz;clear hz hl;go_enter Tryz.func319,Tryz.ntmps319
 go_wp2_with fail
 rw[<- Dg.out];have c0:W.cell? (w,())=some ↑[cl]:=Ga.out.cell 0;have c1:W.cell? ⟨w.heap.size,1,none⟩=some ↑():=Ga.out.cell 1;have c2:W.cell? ⟨w.heap.size,2,none⟩=some ↑#[g]:=Ga.out.cell 2;go_wp2_with (first
  |(go_at_call 321;refine HF.out.mono ?_;rintro e w1⟨rfl,Gz⟩;have Gm:=hid Gz;have k1:=Ga.out.below Gz Ga.out.lt;have Dh:w1.cell? (w,())=some ↑[cl]:=k1.cell 0;have Di:w1.cell? ⟨w.heap.size,1,none⟩=some ↑():=k1.cell 1;have Dj:w1.cell? ⟨w.heap.size,2,none⟩=some ↑#[g]:=k1.cell 2;clear Gz k1 c0 c1 c2)
  |(go_at_call 301;refine(G6.out _ Gm.out).mono ?_;rintro e w2⟨rfl,GQ⟩;have Gg:=hid (Gm.out.trans (GQ.mono Gm.out.size));have k1:=Ga.out.below Gg.out Ga.out.lt;have c0:w2.cell? (w,())=some ↑[cl]:=k1.cell 0;clear GQ k1 Dh Di Dj)
  |(go_at_call 173;refine(GH.out _ Gg.out).mono ?_;rintro e w3⟨rfl,rfl⟩)
  |go_in)
 clear c0;have Ds:Hid (W.heap.size<=w2.heap.size):=hid Gg.out.size;have Gi:Hid (w2.ownsRow W.heap.size 117 2 ((),()) 0 (z0a (fmtB ln cl g 0))):=World.ownsRow_nil _ _ _ _;generalize BK.w ⟨g,0,176⟩=bw at*;go_loopw [6,33] (fun v i wr=>∃(k:Nat)(A1:Option Addr)(m1 c1:Nat),k<=perC cl/\i=↑[k]/\v=.slice A1 m1 c1/\m1=k/\Hid (wr.ownsRow W.heap.size 117 2 (.slice A1 m1 c1) m1 (z0a (fmtB ln cl g k)))/\Hid (Blw W wr)) (fun _ i _=>perC cl-(RowKit.intOf i).toNat)
 case atStart=>exact⟨0,_,_,_,Nat.zero_le _,rfl,rfl,rfl,Gi,Gg⟩
 case round =>
  clear Gi Gg;obtain⟨k,A1,m1,c1,hk,rfl,rfl,Gc,HO,H⟩:=hrel;by_cases hlt:k<perC cl
  ·have Dz:(0:Int)<=(k:Int):=oM
   have D0:(k:Int)<(perC cl:Int):=oM;have GU:m1<=62:=oM;have HM:=hid Gc;have Dc:=hid (GF.out k hlt wr H.out);have Dx:=GG.out k hlt;have c0:wr.cell? (w,())=some ↑[cl]:=(Ga.out.below H.out Ga.out.lt).cell 0;have Gr:Hid (z0a (fmtB ln cl g k)++[.int .u64 ((z+8*offB cl k:Nat):Int),.int .u64 bw]=z0a (fmtB ln cl g (k+1))):=hid (by rw[G5.out];simp[z0a]);generalize offB cl k=ob at*;have u1:IntKind.u64.wrap (ob:Int)=(ob:Int):=by rw[IntKind.wrap_u64];omega
   have u2:IntKind.u64.wrap ((ob:Int)*8)=(ob:Int)*8:=by rw[IntKind.wrap_u64];omega
   have u3:IntKind.u64.wrap ((z:Int)+(ob:Int)*8)=((z+8*ob:Nat):Int):=by rw[IntKind.wrap_u64];omega
   have Dr:z+8*ob<9000000000:=oM;generalize z+8*ob=y at*;have Gt:=hid H.out.size;have Gw:=hid (HO.out.alloc (.cells #[y,bw] 117));have Gp:=hid (H.out.alloc H.out.size (.cells #[y,bw] 117));clear H HO Gc;go_wp2_with (first
    |(go_at_call 298;refine Dc.out.mono ?_;rintro e w3⟨rfl,rfl⟩)
    |(go_at_call 269;refine(Gy.out _).mono ?_;rintro e w3⟨rfl,rfl⟩)
    |(at_builtin;refine z0m _ (.tmp 43) (.tmp 52) 118 rfl rfl W.heap.size 117 i0 _ 2 16 Tryz.underlying118 GS GW GX GY rfl ?q1 (.slice A1 m1 c1) m1 (z0a (fmtB ln cl g k)) rfl Gw.out (wr.heap.size+1) (some (wr,())) 1 1 [y,bw] rfl ?q5 ?q6 ?q2 ?q3 ?q4 ?_;(case q1=>omega);(case q5=>exact z0j _ _ rfl _ 1 2 117 _ rfl rfl);(case q6=>(intro u hu;simp at hu;rcases hu with rfl|rfl<;>rfl));(case q2=>(unfold maxLen;omega));(case q3=>omega);(case q4=>(have:=Gt.out;simp;omega));intro A3 n3 c3 w8 hn3 ho3 hg3 hb3;have Gu:=hid hn3;have Gv:=hid ho3;have Gh:=hid (Gp.out.trans hb3);clear hn3 ho3 hg3 hb3)
    |go_in)
   have b1:n3=k+1:=by have:=Gu.out;have:=HM.out;omega
   have Gb:Hid (w8.ownsRow W.heap.size 117 2 (.slice A3 n3 c3) n3 (z0a (fmtB ln cl g (k+1)))):=hid (by have h:=Gv.out;rw[Gr.out]at h;exact h);go_roundw
   case rel =>
    first
     |exact⟨k+1,_,_,_,oM,by go_num,rfl,b1,Gb,Gh⟩
     |(
       repeat apply Exists.intro
       refine⟨?_,rfl⟩;exact⟨k+1,_,_,_,oM,by go_num,rfl,b1,Gb,Gh⟩)
   case measure=>simp[RowKit.intOf];omega
  ·have GT:perC cl=k:=oM
   clear GF GG GH G6;have Gi:Hid (wr.ownsRow W.heap.size 117 2 (.slice A1 m1 c1) m1 (z0a (fmtB ln cl g (perC cl)++fmtZ ln 0))):=hid (by rw[GT];simp only[fmtZ,List.range_zero,List.map_nil,List.append_nil];exact HO.out);have GU:m1<=62:=oM;have G8:=hid (show m1=perC cl by omega);have Dk:decide ((k:Int)<(perC cl:Int))=false:=dF;have Dl:decide (k<perC cl)=false:=decide_eq_false hlt;clear HO GT Gc hk hlt;go_wp2;clear Dk Dl;go_loopw [6,11] (fun v i wr=>∃(j:Nat)(A2:Option Addr)(m2 c2:Nat),j<=7/\i=↑(j+1:Nat)/\v=.slice A2 m2 c2/\m2=m1+j/\Hid (wr.ownsRow W.heap.size 117 2 (.slice A2 m2 c2) m2 (z0a (fmtB ln cl g (perC cl)++fmtZ ln j)))/\Hid (Blw W wr)) (fun _ i _=>8-(RowKit.intOf i).toNat)
   case atStart=>exact⟨0,_,_,_,Nat.zero_le _,rfl,rfl,rfl,Gi,H⟩
   case round =>
    clear Gi H;obtain⟨j,A2,m2,c2,hj,rfl,rfl,Gd,HO,H⟩:=hrel;by_cases hlt:j<7
    ·have d8:decide (((j+1:Nat):Int)<8)=true:=dT
     have Du:decide (j+1<8)=true:=dT;have Dw:m2<=80:=oM;have HM:=hid Gd;have Gr:Hid (z0a (fmtB ln cl g (perC cl)++fmtZ ln j)++[.int .u64 ((z+8*(j+1):Nat):Int),.int .u64 0]=z0a (fmtB ln cl g (perC cl)++fmtZ ln (j+1))):=hid (by rw[GN.out];simp[z0a]);have u2:IntKind.u64.wrap (((j+1:Nat):Int)*8)=((j+1:Nat):Int)*8:=by rw[IntKind.wrap_u64];omega
     have u3:IntKind.u64.wrap ((z:Int)+((j+1:Nat):Int)*8)=((z+8*(j+1):Nat):Int):=by rw[IntKind.wrap_u64];omega
     have u4:IntKind.u64.wrap (((j+1:Nat):Int)+1)=((j+1+1:Nat):Int):=by rw[IntKind.wrap_u64];omega
     have Dr:z+8*(j+1)<9000000000:=oM;generalize z+8*(j+1)=y at*;have Dv:j+1+1<=8:=oM;have HJ:Hid (∃j2,j2=j+1):=hid ⟨_,rfl⟩;generalize hj1:j+1=j1 at*;generalize hj3:j1+1=j3 at*;have Gs:=hid hj1;have G7:=hid hj3;clear hj1 hj3 HJ;have Gt:=hid H.out.size;have Gw:=hid (HO.out.alloc (.cells #[y,[()]] 117));have Gp:=hid (H.out.alloc H.out.size (.cells #[y,[()]] 117));clear H HO Gd;go_wp2_with (first
      |(go_at_call 269;refine(Gy.out _).mono ?_;rintro e w3⟨rfl,rfl⟩)
      |(at_builtin;refine z0m _ (.tmp 59) (.tmp 66) 118 rfl rfl W.heap.size 117 i0 _ 2 16 Tryz.underlying118 GS GW GX GY rfl ?q1 (.slice A2 m2 c2) m2 (z0a (fmtB ln cl g (perC cl)++fmtZ ln j)) rfl Gw.out (wr.heap.size+1) (some (wr,())) 1 1 [y,[()]] rfl ?q5 ?q6 ?q2 ?q3 ?q4 ?_;(case q1=>omega);(case q5=>exact z0j _ _ rfl _ 1 2 117 _ rfl rfl);(case q6=>(intro u hu;simp at hu;rcases hu with rfl|rfl<;>rfl));(case q2=>(unfold maxLen;omega));(case q3=>omega);(case q4=>(have:=Gt.out;simp;omega));intro A3 n3 c3 w8 hn3 ho3 hg3 hb3;have Gu:=hid hn3;have Gv:=hid ho3;have Gh:=hid (Gp.out.trans hb3);clear hn3 ho3 hg3 hb3)
      |go_in)
     have b1:n3=m1+(j+1):=by have:=Gu.out;have:=HM.out;omega
     have Gb:Hid (w8.ownsRow W.heap.size 117 2 (.slice A3 n3 c3) n3 (z0a (fmtB ln cl g (perC cl)++fmtZ ln (j+1)))):=hid (by have h:=Gv.out;rw[Gr.out,<- Gs.out]at h;exact h);have HV:Hid ((j3:Int)=((j+1+1:Nat):Int)):=hid (by rw[<- G7.out,<- Gs.out]);go_roundw
     case rel =>
      first
       |exact⟨j+1,_,_,_,oM,by rw[<- HV.out],rfl,b1,Gb,Gh⟩
       |(
         repeat apply Exists.intro
         refine⟨?_,rfl⟩;exact⟨j+1,_,_,_,oM,by rw[<- HV.out],rfl,b1,Gb,Gh⟩)
     case measure=>(have h1:=Gs.out;have h3:=G7.out;simp[RowKit.intOf];omega)
    ·have Dm:j=7:=oM
     subst Dm;have GE:Hid (wr.ownsRow W.heap.size 117 2 (.slice A2 m2 c2) m2 (z0a (fmtW ln cl g))):=HO;have G9:Hid (m2<=69/\0<m2):=hid (by have:=G8.out;omega);have Df:Hid (∀e∈fmtW ln cl g,e.1<18446744073709551616):=hid (fun e he=>by
      unfold fmtW at he;rcases List.mem_append.1 he with he|he
      ·obtain⟨i,hi,rfl⟩:=x4r he
       have:=off_lt hi;have:=HZ.out;show 64*ln+8*offB cl i<_;omega
      ·obtain⟨i,hi,rfl⟩:=x4t he
       have:=HZ.out;show 64*ln+8*(i+1)<_;omega)
     clear HO Gd hlt hj G8 GU G5 GN;go_wp2_with fail
     refine z0f (fun w'=>Blw W w') 4 [(true,0),(true,2),(false,1),(false,3)] (by kernel_rfl) (by kernel_rfl) H.out.drew ?_;refine tkS [ln] (fun w' hS=>?_) ?_
     ·go_simp
     refine tkS (.agg #[[cl],(),#[g]]) (fun w' hS=>?_) ?_
     ·have f0:w'.cell? (w,())=some ↑[cl]:=(Ga.out.below hS Ga.out.lt).cell 0
      have f1:w'.cell? ⟨w.heap.size,1,none⟩=some ↑():=(Ga.out.below hS Ga.out.lt).cell 1;have f2:w'.cell? ⟨w.heap.size,2,none⟩=some ↑#[g]:=(Ga.out.below hS Ga.out.lt).cell 2;go_simp
     refine z0k (by rfl) ?_;go_wp2_with fail
     refine(Gy.out _).mono ?_;rintro e w4⟨rfl,rfl⟩;go_wp2_with fail
     refine⟨H.out.drew,?_⟩;refine z0k (by rfl) ?_;go_wp2_with fail
     refine(GM.out _ H.out.drew).mono ?_;rintro e w5⟨rfl,Ge⟩;have Gq:Hid (Blw wr w5):=hid ((Below.refl _ wr).drew.trans Ge);have Gj:=hid (H.out.trans (Gq.out.mono H.out.size));have GA:=hid (z0r GE.out Gq.out);have HX:Hid (hdrW cl g=hdrW cl g):=hid rfl;generalize hhd:hdrW cl g=hd at*;have Da:=hid hhd;have GI:=hid (z1n _ 1 1 _ _ (z6i w5 z hd) oM oM (fun e he=>by simp at he;subst he;show z<_;omega));have Gk:Hid (∀o,Blw W (w5.alloc o)):=hid (fun o=>Gj.out.alloc Gj.out.size o);have GB:Hid (∀o,(w5.alloc o).ownsRow W.heap.size 117 2 (.slice A2 m2 c2) m2 (z0a (fmtW ln cl g))):=hid (fun o=>GA.out.alloc o);clear Ge hhd HX GE GA GM Gq;go_wp2_with fail
     refine⟨Gj.out,?_⟩;show wpList _ _ _ _ _ _;simp only[List.drop_succ_cons,List.drop_zero];go_wp2_with (go_at_call 81;refine GI.out.mono ?_;intro e w6 h1;obtain⟨A4,m4,c4,p4,rfl,G3,G1,G0⟩:=h1;refine stop ?_)
     unfold Stop;have Gn:=hid ((Gk.out _).trans (G0.mono (Gk.out _).size));have GC:=hid (z0r (GB.out _) G0);have Dd:=hid G3;have Gb:=hid (z2u G1 (Gk.out _).size);have GJ:=hid (z1n A2 m2 c2 (fmtW ln cl g) w6 (z0d.of_own GC.out) G9.out.2 (by have:=G9.out;omega) Df.out);have GO:=y5e G3;have Dn:m4<=400:=by have h:=G1.1;rw[z0o]at h;simp at GO;omega
     clear G3 G1 G0 GI Gk GB GC Gj H GO;go_wp2_with fail
     refine NoPanic.normal ?_;go_wp2_with (go_at_call 81;refine GJ.out.mono ?_;intro e w7 h1;obtain⟨A5,m5,c5,p5,rfl,G4,G2,Ge⟩:=h1;refine stop ?_)
     unfold Stop;have GD:=hid (z0r Gb.out Ge);have GP:=y5e G4;have Do:m5<=400:=by have h:=G2.1;rw[z0o]at h;rw[x4s]at GP;have:=z3b cl;omega
     have GL:=hid (z5p A5 A4 m5 c5 m4 c4 p5 p4 w7 (z0d.of_own G2) (z0d.of_own GD.out) Do Dn);have De:=hid G4;have Gl:=hid (Gn.out.trans (Ge.mono Gn.out.size));clear G4 G2 Ge GJ Gb GD Gn GP;go_wp2_with fail
     refine GL.out.mono ?_;rintro e w8⟨A6,m6,c6,rfl,Dp,GV,GR⟩;have Db:=hid (z2u (base':=w.heap.size) GV (Nat.le_trans Gf.out.size Gl.out.size));have GZ:=hid (Gf.out.trans ((Gl.out.trans (GR.mono Gl.out.size)).mono Gf.out.size));clear GV GR Dp GL Gl;go_wp2;go_ret2;refine⟨_,_,_,_,rfl,⟨p5,p4,rfl,De.out,?_⟩,Db.out,GZ.out⟩;rw[HZ.out,Da.out];exact Dd.out
end
end
section
open Go.RowKit
def z2c(b:BK):BK:=if b.gen=65535 then ⟨65535,0,178⟩else ⟨b.gen+1,0,176⟩
def z3c(b:BK)(kind:Nat):BK:=⟨b.gen,kind,177⟩
theorem y2l{b}(h:b.In):(z2c b).In:=by
 unfold z2c;have:=h.g;split
 ·exact⟨by show 65535<65536;omega,by show 0<256;omega,by show 178<256;omega⟩
 ·exact⟨by show b.gen+1<65536;omega,by show 0<256;omega,by show 176<256;omega⟩
theorem x2k b:(z2c b).good=true:=by
 unfold z2c;split
 ·simp[BK.good]
 ·simp[BK.good]
theorem y3g{b}(h:b.In){kind}(hk:kind<256):(z3c b kind).In:=⟨h.g,hk,by show 177<256;omega⟩
theorem x3o{b}(hg:b.good=true)(hs:b.st=176){kind}(h0:0<kind)(h8:kind<128):(z3c b kind).good=true:=by
 unfold BK.good at hg;rw[if_pos hs]at hg;simp at hg;simp[BK.good,z3c];exact⟨⟨hg.1,oM⟩,dT⟩
def updB(bs:Nat->BK)(i:Nat)(b:BK):Nat->BK:=fun j=>if j=i then b else bs j
def tkB(bs:Nat->BK)(l:List (Nat×Nat)):Nat->BK:=l.foldl (fun c e=>updB c e.1 (z3c (bs e.1) e.2)) bs
def drB(bs c:Nat->BK)(l:List Nat):Nat->BK:=l.foldl (fun c i=>updB c i (z2c (bs i))) c
theorem w7n(bs:Nat->BK) l (e:Nat×Nat):tkB bs (l++[e])=updB (tkB bs l) e.1 (z3c (bs e.1) e.2):=by simp[tkB]
theorem w5d(bs c:Nat->BK) l i:drB bs c (l++[i])=updB (drB bs c l) i (z2c (bs i)):=by simp[drB]
theorem z4c{α:Type}(g:α->Nat)(v:α->BK) i:∀(l:List α)(c:Nat->BK),i∉l.map g->(l.foldl (fun c e=>updB c (g e) (v e)) c) i=c i
 |[],_,_=>rfl
 |e::l,c,h=>by
  rw[List.foldl_cons,z4c g v i l _ (fun hh=>h (by simp at hh⊢;exact .inr hh))];unfold updB;rw[if_neg (fun hh=>h (by simp[hh]))]
theorem y6n{α:Type}(g:α->Nat)(v:α->BK):∀(l:List α)(c:Nat->BK),(l.map g).Nodup->∀e∈l,(l.foldl (fun c e=>updB c (g e) (v e)) c) (g e)=v e
 |[],_,_,_,h=>by simp at h
 |x::l,c,hn,e,he=>by
  rw[List.map_cons,List.nodup_cons]at hn;rw[List.foldl_cons];rcases List.mem_cons.1 he with rfl|he
  ·rw[z4c g v _ l _ hn.1]
   simp[updB]
  ·exact y6n g v l _ hn.2 e he
structure Bits(V cl:Nat)(bs:Nat->BK):Prop where
 lt:V<18446744073709551616
 bit:∀i,i<perC cl->z1z V i=decide ((bs i).st≠176)
 top:V<2^perC cl
theorem z3g V i:z1z V i=V.testBit i:=by
 unfold z1z;rw[Nat.testBit_eq_decide_div_mod_eq];rcases Nat.mod_two_eq_zero_or_one (V/2^i)with h|h<;>simp[h]
theorem z4m{i}(h:i<64):2^i<18446744073709551616:=by
 have h1:(2:Nat)^i<=2^63:=Nat.pow_le_pow_right oM oM;have h2:(2:Nat)^63=9223372036854775808:=by decide
 omega
theorem w0d{V i}(hV:V<18446744073709551616)(hi:i<64):(V|||2^i)<18446744073709551616/\∀j,z1z (V|||2^i) j=if j=i then true else z1z V j:=by
 refine⟨Nat.or_lt_two_pow (n:=64) hV (z4m hi),fun j=>?_⟩;rw[z3g,z3g,Nat.testBit_or,Nat.testBit_two_pow];by_cases e:j=i
 ·subst e;simp
 ·rw[if_neg e]
  simp;omega
theorem x4g{V i}(hV:V<18446744073709551616)(hi:i<64)(hb:z1z V i=true):(V^^^2^i)<18446744073709551616/\∀j,z1z (V^^^2^i) j=if j=i then false else z1z V j:=by
 refine⟨Nat.xor_lt_two_pow (n:=64) hV (z4m hi),fun j=>?_⟩;rw[z3g,z3g,Nat.testBit_xor,Nat.testBit_two_pow];rw[z3g]at hb;by_cases e:j=i
 ·subst e;simp[hb]
 ·rw[if_neg e]
  have:decide (i=j)=false:=decide_eq_false (fun h=>e h.symm);rw[this];simp
theorem Bits.take{V cl i kind bs b}(h:Bits V cl bs)(hi:i<perC cl):Bits (V|||2^i) cl (updB bs i (z3c b kind)):=by
 have hp:=z3b cl;obtain⟨h1,h2⟩:=w0d h.lt (i:=i) oM;refine⟨h1,fun j hj=>?_,Nat.or_lt_two_pow h.top (Nat.pow_lt_pow_right oM hi)⟩;rw[h2];unfold updB;by_cases e:j=i
 ·rw[if_pos e,if_pos e];rfl
 ·rw[if_neg e,if_neg e];exact h.bit j hj
theorem Bits.drop{V cl i bs b}(h:Bits V cl bs)(hi:i<perC cl)(hs:(bs i).st=177):Bits (if (z2c b).st=176 then V^^^2^i else V) cl (updB bs i (z2c b)):=by
 have hp:=z3b cl;have hb:z1z V i=true:=by rw[h.bit i hi,hs];rfl
 obtain⟨h1,h2⟩:=x4g h.lt (i:=i) oM hb;by_cases hf:(z2c b).st=176
 ·rw[if_pos hf]
  refine⟨h1,fun j hj=>?_,Nat.xor_lt_two_pow h.top (Nat.pow_lt_pow_right oM hi)⟩;rw[h2];unfold updB;by_cases e:j=i
  ·rw[if_pos e,if_pos e,hf];rfl
  ·rw[if_neg e,if_neg e];exact h.bit j hj
 ·rw[if_neg hf]
  refine⟨h.lt,fun j hj=>?_,h.top⟩;unfold updB;by_cases e:j=i
  ·rw[if_pos e,e,hb]
   simp[hf]
  ·rw[if_neg e];exact h.bit j hj
theorem y3e{i}(hi:i<64):IntKind.u64.wrap ((2:Int)^i)=((2^i:Nat):Int):=by
 have h:=z4m hi;have e:((2:Int)^i)=((2^i:Nat):Int):=by push_cast;rfl
 rw[e,IntKind.wrap_u64];generalize (2^i:Nat)=q at*;omega
theorem v4o:(2:Nat)^64=18446744073709551616:=by decide
theorem y4c V i (hV:V<18446744073709551616) (hi:i<64) (hb:z1z V i=true):bits .andNot .u64 (V:Int) ((2^i:Nat):Int)=((V^^^2^i:Nat):Int):=by
 have h2:=z4m hi;have hx:=(x4g hV hi hb).1;have h4:=v4o;have h5:2^i<2^64:=oM;show IntKind.u64.wrap ((BitVec.ofInt 64 (V:Int)&&& ~~~BitVec.ofInt 64 ((2^i:Nat):Int)).toNat:Int)=_;rw[BitVec.toNat_and,BitVec.toNat_not,ofInt_u64 V hV,ofInt_u64 (2^i) h2];have h6:2^64-1-2^i=2^64-(2^i+1):=oM;have e:V&&& (2^64-(2^i+1))=V^^^2^i:=by
  apply Nat.eq_of_testBit_eq;intro j;rw[Nat.testBit_and,Nat.testBit_xor,Nat.testBit_two_pow_sub_succ h5,Nat.testBit_two_pow];rw[z3g]at hb;by_cases e:i=j
  ·subst e
   rw[hb];simp[hi]
  ·have hd:decide (i=j)=false:=decide_eq_false e
   rw[hd];by_cases h64:j<64
   ·simp[h64]
   ·have h7:(2:Nat)^64<=2^j:=Nat.pow_le_pow_right oM oM
    have:V.testBit j=false:=Nat.testBit_lt_two_pow oM;simp[this]
 rw[h6,e,IntKind.wrap_u64];generalize (V^^^2^i:Nat)=q at*;omega
def tkW(ln cl:Nat)(bs:Nat->BK)(l:List (Nat×Nat)):List (Nat×Nat):=l.map fun e=>(64*ln+8*offB cl e.1,(z3c (bs e.1) e.2).w)
def drW(ln cl:Nat)(bs:Nat->BK)(l:List Nat):List (Nat×Nat):=l.map fun i=>(64*ln+8*offB cl i,(z2c (bs i)).w)
def chgW(ln cl:Nat)(bs:Nat->BK)(take:List (Nat×Nat))(drop:List Nat)(V:Nat):List (Nat×Nat):=tkW ln cl bs take++drW ln cl bs drop++[(64*ln+8,V)]
def actB(bs:Nat->BK)(take:List (Nat×Nat))(drop:List Nat):Nat->BK:=drB bs (tkB bs take) drop
end
section
open Go.RowKit Go.Maps
def z4y(s K off:Nat):Option Nat:=if off<64*s then none else if K<=(off-64*s)/2048 then none else some ((off-64*s)/2048)
theorem w1e{s K off k}(hk:k<K)(h1:64*(s+32*k)<=off)(h2:off<64*(s+32*k)+2048):z4y s K off=some k:=by
 unfold z4y;rw[if_neg oM,if_neg oM];congr 1
 omega
theorem z9i{s K cl k i}(hk:k<K)(hi:i<perC cl):z4y s K (blkO (s+32*k) cl i)=some k:=by
 have h1:=off_lt hi;have h2:=z7i cl;exact w1e hk (by unfold blkO;omega) (by unfold blkO;omega)
def x9c(s K off:Nat)(ln:Nat)(b:Bool):Prop:=(z4y s K off=none/\ln=0/\b=false)\/∃k,z4y s K off=some k/\k<K/\ln=s+32*k/\b=true
section
theorem x4x{a s n K gs mr mh h lk w}(hB:Blk w h 168 (z2d a s n gs mr mh lk))(hs:s<=4096)(hn:n<=4096)(hK:n/32=K)(off:Nat)(ho:off<18446744073709551616):
  () 150 #[(h,()),off] w fun e w'=>∃(ln:Nat)(b:Bool),e=.returned (.tuple #[[ln],b])/\x9c s K off ln b/\w=w':=by
 have f1:w.cell? ⟨h,1,none⟩=some ↑[s]:=hB.cell 1;have f2:w.cell? ⟨h,2,none⟩=some ↑[n]:=hB.cell 2;have u1:IntKind.u64.wrap (s:Int)=(s:Int):=by rw[IntKind.wrap_u64];omega
 have u2:IntKind.u64.wrap ((s:Int)*64)=((64*s:Nat):Int):=by rw[IntKind.wrap_u64];omega
 have d2:(n:Int).tdiv 32=(K:Int):=by rw[Int.tdiv_eq_ediv_of_nonneg oM];omega
 have d3:(n:Int)/32=(K:Int):=oM;have u3:IntKind.u64.wrap (K:Int)=(K:Int):=by rw[IntKind.wrap_u64];omega
 have Gc:K<=128:=oM;clear hB hK;by_cases h1:off<64*s
 ·have HP:Hid (x9c s K off 0 false):=hid (.inl ⟨by unfold z4y;rw[if_pos h1],rfl,rfl⟩)
  have e1:decide ((off:Int)<((64*s:Nat):Int))=true:=dT;have Ga:decide (off<64*s)=true:=decide_eq_true h1;have hz:64*s<=262144:=oM;clear h1;generalize 64*s=z at*;go_enter Tryz.func150,Tryz.ntmps150
  go_wp2;go_ret2;exact⟨0,false,rfl,HP.out,rfl⟩
 ·have e1:decide ((off:Int)<((64*s:Nat):Int))=false:=dF
  have Ga:decide (off<64*s)=false:=decide_eq_false h1;obtain⟨y,hy⟩:∃y,off-64*s=y:=⟨_,rfl⟩
  have u4:IntKind.u64.wrap ((off:Int)-((64*s:Nat):Int))=(y:Int):=by rw[IntKind.wrap_u64];omega
  have Gd:y<18446744073709551616:=oM;have e4:(y:Int)/2048=((y/2048:Nat):Int):=oM;have hz:64*s<=262144:=oM;by_cases h2:K<=y/2048
  ·have HP:Hid (x9c s K off 0 false):=hid (.inl ⟨by unfold z4y;rw[if_neg h1,hy,if_pos h2],rfl,rfl⟩)
   have e2:decide ((K:Int)<=((y/2048:Nat):Int))=true:=dT;have Gb:decide (K<=y/2048)=true:=decide_eq_true h2;clear h1 h2 hy;generalize y/2048=q at*;generalize 64*s=z at*;go_enter Tryz.func150,Tryz.ntmps150
   go_wp2;go_ret2;exact⟨0,false,rfl,HP.out,rfl⟩
  ·have HP:Hid (x9c s K off (s+32*(y/2048)) true):=hid (.inr ⟨y/2048,by unfold z4y;rw[if_neg h1,hy,if_neg h2],oM,rfl,rfl⟩)
   have e2:decide ((K:Int)<=((y/2048:Nat):Int))=false:=dF;have Gb:decide (K<=y/2048)=false:=decide_eq_false h2;have hq:y/2048<=128:=oM;have u5:IntKind.i64.wrap ((y/2048:Nat):Int)=((y/2048:Nat):Int):=IntWalk.i64_in _ oM;clear h1 h2 hy;generalize y/2048=q at*;generalize 64*s=z at*;go_enter Tryz.func150,Tryz.ntmps150
   go_wp2;go_ret2;exact⟨s+32*q,true,by rw[show((s+32*q:Nat):Int)=(s:Int)+(q:Int)*32 by omega];rfl,HP.out,rfl⟩
theorem y9i{a s n K N m x cs f w}(h:HS a s n K x cs f N m w)(p:Nat):
  () 181 #[(x.h,()),p] w fun e w'=>e=.returned (decide (f (pOff p)=some p))/\Blw w w':=by
 have Gd:=hid (z4o p);have Ga:=(h.res.chg ((Chg.refl Fp.no w).drew) (fun h=>h)).look (x:=pOff p) (by unfold pOff;omega);have y4:w.cell? ⟨x.h,4,none⟩=some (.map (some x.mr)):=h.heap.cell 4;have Gc:Hid (Blw w w.drew):=hid (Below.refl _ _).drew;clear h;generalize pOff p=o at*;cases hf:f o with
 |none =>
  rw[hf]at Ga;have Gb:(Instr.lookup 144 (.map (some x.mr)) o true).run Tryz.prog w.drew=.ok (.tuple #[[()],false]) w.drew:=Ga;clear Ga hf;go_enter Tryz.func181,Tryz.ntmps181
  go_wp2_with fail
  go_region_with (go_at_call 143;refine(Gd.out _).mono ?_;rintro e w1⟨rfl,rfl⟩)
  all_goals
   go_wp2;go_ret;exact⟨rfl,Gc.out⟩
 |some q =>
  rw[hf]at Ga;have Gb:(Instr.lookup 144 (.map (some x.mr)) o true).run Tryz.prog w.drew=.ok (.tuple #[q,true]) w.drew:=Ga;have Ge:((q:Int)==(p:Int))=decide (q=p):=by
   by_cases e:q=p
   ·subst e;simp
   ·rw[decide_eq_false e,beq_eq_false_iff_ne];omega
  have HQ:Hid (decide (some q=some p)=decide (q=p)):=hid (by simp);clear Ga hf;generalize decide (q=p)=bq at*;go_enter Tryz.func181,Tryz.ntmps181
  go_wp2_with fail
  go_region_with (go_at_call 143;refine(Gd.out _).mono ?_;rintro e w1⟨rfl,rfl⟩)
  all_goals
   go_wp2;go_ret;exact⟨by rw[HQ.out];rfl,Gc.out⟩
end
end
end Go.Proofs.YtmhbokcccjmfgaaGreatDoor
