/- part 9 -/
import Derived.Test.YtmhbokcccjmfgaaGreatDoorQah
set_option maxRecDepth 100000
set_option maxHeartbeats 16000000
namespace Go.Proofs.YtmhbokcccjmfgaaGreatDoor
open Go.Lib (hid)
section
open Go.RowKit Go.Maps Go.Sort Go.Shelf
def z1f(xs:List Nat):List Value:=xs.map fun x:Nat=>Value.int .i64 x
theorem x7h xs:(xs.map Int.ofNat).map encI=z1f xs:=by simp[z1f,encI,Function.comp_def]
theorem w6r{ss ks}(h:ss.Perm (ks.map Int.ofNat)):∃xs:List Nat,ss=xs.map Int.ofNat/\xs.Perm ks:=by
 refine⟨ss.map Int.toNat,?_,?_⟩
 ·rw[List.map_map]
  symm
  refine(List.map_congr_left (g:=id) ?_).trans (List.map_id ss);intro a ha;obtain⟨k,_,rfl⟩:=List.mem_map.1 (h.mem_iff.1 ha);rfl
 ·have h2:=h.map Int.toNat
  rw[List.map_map]at h2;have e:(Int.toNat ∘Int.ofNat)=id:=by funext x;rfl
  rwa[e,List.map_id]at h2
def RowI(cs:Array Value)(xs:List Nat):Prop:=xs.length<=cs.size/\∀i (h:i<xs.length),cs[i]?=some (.int .i64 ((xs[i]:Nat):Int))
theorem RowI.set{cs xs}(h:RowI cs xs) j x (hj:j<xs.length):RowI (cs.setIfInBounds j [x]) (xs.set j x):=by
 refine⟨by simpa using h.1,fun i hi=>?_⟩;rw[List.length_set]at hi;rw[z5y i (by have:=h.1;omega),List.getElem_set];by_cases hij:i=j
 ·rw[if_pos hij,if_pos hij.symm]
 ·rw[if_neg hij,if_neg (fun e=>hij e.symm)];exact h.2 i hi
def y3n(w wr:World)(g:Nat)(xs:List Nat)(sz:Nat):Prop:=∃cs ys,Blk wr g 3 cs/\cs.size=sz/\RowI cs ys/\ys.Perm xs/\Chg (fun k=>k=g) w wr
def y5n(w:World)(g:Nat)(xs:List Nat)(sz:Nat)(e:Ending)(w':World):Prop:=e=.returned (.tuple #[])/\y3n w w' g xs sz
theorem y6s g n cap sz xs w (h:y3n w w g xs sz) (hl:xs.length=n) (hn:n<=1000000) (hc:n<=cap) (hcm:cap<=9223372036854775807) :
  () 328 #[(g,0,n,cap),(),[n]] w (y5n w g xs sz):=by
 have H0:=hid h;have HL:=hid hl;clear h hl;go_enter Tryz.func328,Tryz.ntmps328
 go_wp2;go_loopw [6] (fun i wr=>∃(k:Nat),1<=k/\k<=n+1/\i=↑[k]/\Hid (y3n w wr g xs sz)) (fun i _=>n+1-(Go.RowKit.intOf i).toNat)
 case atStart=>exact⟨1,oM,oM,rfl,H0⟩
 case round =>
  clear H0;obtain⟨k,Gg,hk,rfl,H⟩:=hrel;by_cases hlt:k<n
  ·go_wp2
   go_loopw [7] (fun j wr=>∃(q:Nat),q<=k/\j=↑[q]/\Hid (y3n w wr g xs sz)) (fun j _=>(Go.RowKit.intOf j).toNat)
   case atStart=>exact⟨k,nL _,rfl,H⟩
   case round =>
    clear H;obtain⟨q,hq,rfl,H⟩:=hrel;by_cases hq0:q=0
    ·subst hq0
     have HB:=H.out;have H1:Hid (y3n w wr.drew g xs sz):=by
      obtain⟨cs,ys,h1,h2,h3,h4,h5⟩:=H.out;exact⟨cs,ys,h1,h2,h3,h4,h5.drew⟩
     clear HB H;go_wp2;refine z0f (fun w'=>w'=wr.drew) 14 [(true,0),(true,1),(true,2),(true,3),(true,4),(true,5),(true,6),(true,7),(true,8),(true,9),(true,10),(true,11),(true,12),(false,13)] (by kernel_rfl) (by kernel_rfl) rfl ?_;refine tkS () (fun w' hS=>?_) ?_
     ·go_simp
     refine tkS () (fun w' hS=>?_) ?_
     ·go_simp
     refine tkS false (fun w' hS=>?_) ?_
     ·go_simp
     refine tkS false (fun w' hS=>?_) ?_
     ·go_simp
     refine z0i (by rfl) (by rfl) ?_;simp only[zA,zB,zC,Act.put,zD,zE,zF];refine z0i (by rfl) (by rfl) ?_;simp only[zA,zB,zC,Act.put,zD,zE,zF];refine z0i (by rfl) (by rfl) ?_;simp only[zA,zB,zC,Act.put,zD,zE,zF];refine z0i (by rfl) (by rfl) ?_;simp only[zA,zB,zC,Act.put,zD,zE,zF];refine z0i (by rfl) (by rfl) ?_;simp only[zA,zB,zC,Act.put,zD,zE,zF];refine z0i (by rfl) (by rfl) ?_;simp only[zA,zB,zC,Act.put,zD,zE,zF];refine z0i (by rfl) (by rfl) ?_;simp only[zA,zB,zC,Act.put,zD,zE,zF];refine z0i (by rfl) (by rfl) ?_;simp only[zA,zB,zC,Act.put,zD,zE,zF];refine z0i (by rfl) (by rfl) ?_;simp only[zA,zB,zC,Act.put,zD,zE,zF];refine z0k (by rfl) ?_;go_wp2_with fail
     refine⟨rfl,?_⟩;show wpList _ _ _ _ _ _;simp only[List.drop_succ_cons,List.drop_zero];go_wp2_with fail
     refine NoPanic.normal ?_;go_wp2;go_roundw
     case rel=>exact⟨k+1,oM,oM,by go_num,H1⟩
     case measure=>simp[Go.RowKit.intOf];omega
    ·obtain⟨q',rfl⟩:∃q',q=q'+1:=⟨q-1,oM⟩
     obtain⟨cs,ys,h1,h2,h3,h4,h5⟩:=H.out;have Gh:ys.length=n:=by rw[h4.length_eq];exact HL.out
     have i1:q'+1<ys.length:=oM;have i0:q'<ys.length:=oM;have c1:wr.cell? (g,q'+1)=some ↑[ys[q'+1]]:=by rw[h1.cell];exact h3.2 _ i1
     have c0:wr.cell? (g,q')=some ↑[ys[q']]:=by rw[h1.cell];exact h3.2 _ i0
     have HP:=hid (List.set_set_perm i1 i0);have Ge:=hid ((h3.set (q'+1) ys[q'] i1).set q' ys[q'+1] (by rw[List.length_set];exact i0));have z1:=h1.frozen (q'+1);have z0:=h1.frozen q';have Ga:=hid h1;have Gd:=hid h2;have Gc:=hid h4;have Gb:=hid h5;have Gf:=hid h3;generalize hx1:ys[q'+1]=x1 at*;generalize hx0:ys[q']=x0 at*;clear hx1 hx0 h1 h2 h3 h4 h5 H;have e1:(0:Int)<(q':Int)+1:=oM;have e2:(q':Int)+1<(n:Int):=oM;have e3:(q':Int)<(n:Int):=oM;have e4:(0:Int)<=(q':Int):=oM;have e5:decide ((0:Int)<(q':Int)+1)=true:=dT;have e6:((q':Int)+1).toNat=q'+1:=oM;have e7:¬((q':Int)+1<0):=oM;have e8:IntKind.i64.wrap (q':Int)=(q':Int):=by rw[IntKind.wrap_i64];omega
     have e9:(0:Int)<=(q':Int)+1:=oM;go_wp2;refine z0f (fun w'=>w'=wr.drew) 14 [(true,0),(true,1),(true,2),(true,3),(true,4),(true,5),(true,6),(true,7),(true,8),(true,9),(true,10),(true,11),(true,12),(false,13)] (by kernel_rfl) (by kernel_rfl) rfl ?_;refine tkS (.int .i64 ((q':Int)+1)) (fun w' hS=>?_) ?_
     ·go_simp
     refine tkS () (fun w' hS=>?_) ?_
     ·go_simp
     refine tkS true (fun w' hS=>?_) ?_
     ·go_simp
     refine tkS true (fun w' hS=>?_) ?_
     ·go_simp
     refine tkS (g,0,n,cap) (fun w' hS=>?_) ?_
     ·go_simp
     refine tkS (.int .i64 ((q':Int)+1)) (fun w' hS=>?_) ?_
     ·go_simp
     refine tkS (g,q'+1) (fun w' hS=>?_) ?_
     ·go_simp
     refine tkS [x1] (fun w' hS=>?_) ?_
     ·subst hS
      go_simp
     refine tkS (g,0,n,cap) (fun w' hS=>?_) ?_
     ·go_simp
     refine tkS (.int .i64 ((q':Int)+1)) (fun w' hS=>?_) ?_
     ·go_simp
     refine tkS [q'] (fun w' hS=>?_) ?_
     ·go_simp
     refine tkS (g,q') (fun w' hS=>?_) ?_
     ·go_simp
     refine tkS [x0] (fun w' hS=>?_) ?_
     ·subst hS
      go_simp
     refine z0k (by rfl) ?_;go_wp2;refine⟨rfl,?_⟩;show wpList _ _ _ _ _ _;simp only[List.drop_succ_cons,List.drop_zero];by_cases hx:x1<x0
     ·have t1:decide ((x1:Int)<(x0:Int))=true:=dT
      have t2:decide (x1<x0)=true:=decide_eq_true hx;go_wp2_with fail
      refine NoPanic.normal ?_;clear e5 t1 t2;go_wp2;have H1:Hid (y3n w ((wr.setCell (g,q'+1) [x0]).setCell (g,q') [x1]).drew.drew g xs sz) :=
       ⟨(cs.setIfInBounds (q'+1) [x0]).setIfInBounds q' [x1],(ys.set (q'+1) x0).set q' x1,(Ga.out.set_ (q'+1) _).set_ q' _,by have:=Gd.out;simpa using this,Ge.out,HP.out.trans Gc.out,((Gb.out.setCell (p:=⟨g,q'+1,none⟩) (.inl rfl) _).setCell (p:=⟨g,q',none⟩) (.inl rfl) _).drew.drew⟩
      go_region;go_wp2;exact⟨⟨q',oM,rfl,H1⟩,by simp[Go.RowKit.intOf]⟩
     ·have t1:decide ((x1:Int)<(x0:Int))=false:=dF
      have t2:decide (x1<x0)=false:=decide_eq_false hx;have H1:Hid (y3n w wr.drew g xs sz):=⟨cs,ys,Ga.out,Gd.out,Gf.out,Gc.out,Gb.out.drew⟩
      go_wp2_with fail
      refine NoPanic.normal ?_;go_wp2;go_roundw
      case rel=>exact⟨k+1,oM,oM,by go_num,H1⟩
      case measure=>simp[Go.RowKit.intOf];omega
  ·go_wp2
   go_end0;exact⟨rfl,H.out⟩
theorem v1c(g n cap sz:Nat)(lim:Int)(xs:List Nat)(w:World)(h:y3n w w g xs sz)(hl:xs.length=n)(hn:n<=12)(hc:n<=cap)(hcm:cap<=9223372036854775807):
  () 300 #[.slice (some (g,())) n cap,(),[n],[lim]] w (y5n w g xs sz):=by
 have HI:=hid (y6s g n cap sz xs w h hl oM hc hcm);have e1:decide ((n:Int)<=12)=true:=dT;have e2:decide (n<=12)=true:=decide_eq_true hn;clear h hl;go_enter Tryz.func300,Tryz.ntmps300
 go_wp2;refine wp_loop_rounds 1 ?_;rw[rounds_succ];go_wp2_with fail
 refine HI.out.mono ?_;rintro e w1⟨rfl,h1⟩;have H1:=hid h1;clear h1;go_wp2;go_end0;exact⟨rfl,H1.out⟩
theorem w7e{w base g m c cs ys}(hB:Blk w g 3 cs)(hb:base<=g)(hm:m<=c)(hc:c<=maxLen)(hs:cs.size=c)(hr:RowI cs ys)(hl:ys.length=m):w.ownsRow base 3 1 (g,0,m,c) m (z1f ys):=by
 refine⟨by simp[z1f,hl],.inr ⟨g,c,cs,rfl,hb,hB,hm,hc,oM,?_⟩⟩;apply List.ext_getElem?;intro i;by_cases hi:i<m
 ·rw[List.getElem?_take_of_lt oM,Array.getElem?_toList,hr.2 i oM]
  simp[z1f,hl▸hi]
 ·rw[List.getElem?_eq_none (by simp;omega),List.getElem?_eq_none (by simp[z1f];omega)]
theorem w6k{w base g m c xs}(h:w.ownsRow base 3 1 (g,0,m,c) m (z1f xs)):∃cur,Blk w g 3 cur/\cur.size=c/\RowI cur xs/\xs.length=m:=by
 have hl:xs.length=m:=by have:=h.1;simpa[z1f] using this
 rcases h.2 with ⟨hv,_⟩|⟨g',cap',cur,hv,hb,hh,h1,h2,h3,h4⟩
 ·cases hv
 ·simp only[Value.slice.injEq,Option.some.injEq,Addr.mk.injEq,and_true,true_and]at hv
  obtain⟨rfl,rfl⟩:=hv;refine⟨cur,hh,oM,⟨oM,fun i hi=>?_⟩,hl⟩;have h5:(cur.toList.take (m*1))[i]?=(z1f xs)[i]?:=by rw[h4]
  rw[List.getElem?_take_of_lt oM]at h5;rw[<- Array.getElem?_toList,h5];simp[z1f,hi]
theorem w7k(g n cap sz:Nat)(xs:List Nat)(w:World)(h:y3n w w g xs sz)(hl:xs.length=n)(hn:n<=12)(hc:n<=cap)(hcm:cap<=9223372036854775807):
  () 249 #[.slice (some (g,())) n cap] w (y5n w g xs sz):=by
 have e1:IntKind.u64.wrap (n:Int)=(n:Int):=by rw[IntKind.wrap_u64];omega
 have Ga:=hid (x2v n w oM);have HP:=hid (v1c g n cap sz (Lib.bitLen n) xs w h hl hn hc hcm);generalize Lib.bitLen n=k at*;clear h hl;go_enter Tryz.func249,Tryz.ntmps249
 go_wp2_with (first
  |(go_at_call 233;refine Ga.out.mono ?_;rintro e w'⟨rfl,rfl⟩)
  |(go_at_call 300;refine HP.out.mono ?_;rintro e w1⟨rfl,h1⟩;have H1:=hid h1;clear h1))
 go_end0;exact⟨rfl,H1.out⟩
def RetN(w:World)(P:List Nat->Prop)(e:Ending)(w':World):Prop:=∃A m c ys,e=.returned (.slice A m c)/\P ys/\m=ys.length/\w'.ownsRow w 3 1 (.slice A m c) m (z1f ys)/\Blw w w'
theorem x8o g lb (eg:∀args w,(callFunc g args).run Tryz.prog w=.ok (.enter g args) w)
  ks N (hN:N<=12) w (hseq:SeqGives Fence.wide 9 Tryz.prog g lb encI (fun ss=>ss.Perm (ks.map Int.ofNat)) N w) :
  () 184 #[.func (.func g) #[] lb] w (RetN w (fun ys=>ys.Perm ks)):=by
 have HC:=hid (y0h g lb eg _ N oM w hseq.bounded);go_enter Tryz.func184,Tryz.ntmps184
 go_wp2_with (go_at_call 248;refine HC.out.mono ?_;rintro e W⟨v,ss,rfl,⟨hS,Gb⟩,hrow,hnil,hb⟩;refine stop ?_)
 unfold Stop;obtain⟨xs,rfl,Ga⟩:=w6r hS;rw[x7h,List.length_map]at hrow;rw[List.length_map]at Gb;rcases hrow.2 with ⟨rfl,hz⟩|⟨gb,cap,cur,rfl,hbase,hgb,r1,r2,r3,r4⟩
 ·have Gp:xs=[]:=List.eq_nil_of_length_eq_zero hz
  subst Gp;have HR:=hid hrow;have HB:=hid hb;have HP:=hid Ga;clear hrow hb hS Ga hnil HC hseq;go_wp2_with (go_at_call 249;refine(x0g _).mono ?_;rintro e w1⟨rfl,rfl⟩)
  go_ret;exact⟨none,0,0,[],rfl,HP.out,rfl,HR.out,HB.out⟩
 ·obtain⟨cs,hB,Gi,hR,hl⟩:=w6k hrow
  have Gj:y3n W W gb xs cap:=⟨cs,xs,hB,Gi,hR,List.Perm.refl _,Chg.refl _ _⟩
  have HS:=hid (w7k gb xs.length cap cap xs W Gj rfl oM r1 (by unfold maxLen at r2;omega));have HB:=hid hb;have HP:=hid Ga;have HF:Hid (w<=gb/\xs.length<=cap/\cap<=maxLen):=hid ⟨hbase,r1,r2⟩;clear hrow hb hS Ga hnil HC hseq hB Gi hR hl Gj r1 r2 r3 r4 hgb hbase;go_wp2_with (go_at_call 249;refine HS.out.mono ?_;rintro e w1⟨rfl,hs⟩;have Ge:=hid hs;clear hs)
  obtain⟨Gq,ys,Gf,Gk,Gg,Gc,Gh⟩:=Ge.out;have Gd:=Gc.length_eq;have HO:=hid (w7e (base:=w.heap.size) Gf HF.out.1 HF.out.2.1 HF.out.2.2 Gk Gg Gd);have Gl:Hid (Blw w w1):=hid (HB.out.trans (Gh.toBelow HB.out.size (fun k hk=>by rw[hk];exact HF.out.1)));have Gn:=hid (Gc.trans HP.out);have Gm:=hid Gd;clear Gf Gk Gg Gc Gh Gd Ge HS HB HP;go_wp2;go_ret;exact⟨_,_,_,ys,rfl,Gn.out,Gm.out.symm,HO.out,Gl.out⟩
end
section
open Go.RowKit
def uA(l:List Nat):Array Value:=(z0g l).toArray
theorem x3q{l i}(h:i<l.length):(uA l)[i]?=some (.int .u64 (l[i]:Int)):=by
 unfold uA z0g;simp[h]
theorem y0k{l:List Nat}{i v:Nat}:(uA l).setIfInBounds i v=uA (l.set i v):=by
 unfold uA z0g;simp[List.map_set]
theorem y1h{w g l}(h:Blk w g 32 (uA l)):z0d w w 1 (some (g,0)) l.length (z0g l) :=
 z6j h (by simp[z0g]) (fun j u hu=>by unfold uA;simpa using hu)
end
section
open Go.RowKit Go.Maps Go.Sort Go.Shelf
theorem y5u{H:Type}(n l Bm b nn:Nat)(D0:DataW H){R}(J:List Nat->World->Prop)
  (hY:∀pre x W,J pre W->pre.length<Maps.size D0->YieldAt Fence.wide (n-1) Tryz.prog l #[encW x] W fun e W'=>e=.returned true/\J (pre++[x]) W'/\KeepsWalks W W')
  (W:World) (hJ:AbidesFrom W J) (hm:W.cell? (Bm,())=some (.map (some b))) (hown:W.ownsMap Tryz.prog 32 R b nn D0) (h0:J [] W) (hn:1<=n) :
  CallsIn Fence.wide n Tryz.prog 295 #[.func (.yield l) #[] #[],(Bm,())] W fun e W'=>(∃v,e=.returned v)/\∃ss:List Nat,ss.Perm (z2w D0)/\J ss W':=by
 have Gh:Fence.wide.fn 295:=trivial;have Gl:Fence.wide.round=none:=rfl;refine callsIn_of_wp Tryz.func295 rfl Gh ?_ Gl;simp only[Tryz.ntmps295,List.size_toArray,List.length_cons,List.length_nil,Nat.reduceAdd,Nat.reduceSub,Array.replicate_succ,Array.replicate_zero,List.push_toArray,List.append_toArray,List.nil_append,List.cons_append];gi_wp2_with (first
  |(gi_at_range;refine wpListIn_range_own _ rfl _ 141 rfl 32 182 z1g Tryz.underlying141 _ b nn _ rfl hown ?_;intro w0 hrg0 hg0 hs0)
  |gi_in)
 go_frame
 gi_loopw [3] (fun _ wr=>∃(Ga:Lit->Bool)(Gd:Nat)(ss:List Nat),wr.ranges Tryz.prog 32 R b W nn D0 Ga Gd/\ss.length+Gd<=Maps.size D0/\z7m D0 Ga ss/\J ss wr)
  (fun _ wr=>wr.rangeLeft b W)
 case atStart =>
  exact⟨_,_,[],hrg0,by simp,z7m.start D0,hJ [] W w0 none h0 hg0 (fun r e=>by cases e)⟩
 case round =>
  obtain⟨Ga,Gd,ss,Ge,Gn,hC,Gf⟩:=hrel;gi_wp2_with (first
   |(gi_at_next;refine wpListIn_next_ranges _ rfl _ rfl 32 z1g R encW id (fun key kl hk=>by obtain⟨x,hx,_⟩:=z1h Tryz.underlying32 hk;exact⟨x,hx⟩) (fun v _ _=>⟨v,rfl⟩) b W nn _ _ _ rfl Ge ?_ ?_)
   |gi_in)
  ·intro hc0 hl0
   gi_wp2
   go_end0;exact⟨⟨_,rfl⟩,ss,hC.perm hown z1g Tryz.underlying32 hl0,Gf⟩
  ·intro x c kl yd yp w2 cnt2 hkey hlk hv hat hrg2 hlt hg2 hs2 hen
   obtain⟨x',ex,rfl,_⟩:=z1h Tryz.underlying32 hkey;obtain rfl:x=x':=z8l ex;have Gi:J ss w2:=hJ ss wr w2 (some W.heap.size) Gf hg2 (fun r e=>by cases e;exact⟨nL _,Ge.iter_walk⟩);obtain⟨fn,Gm,Gc,Gg,hy,hR⟩:=hY ss x w2 Gi oM;clear hs2;gi_wp2
   refine hR.mono ?_;rintro e W3⟨rfl,Gj,Gk⟩;gi_wp2
   have Gb:=hrg2.of_walks Gk;go_roundw
   case rel=>exact⟨_,cnt2,ss++[x],Gb,by simp;omega,hC.step hlk hat,Gj⟩
   case measure=>rw[Gb.left_eq,Ge.left_eq];exact hlt
theorem y1p{H:Type}(n Bm b nn:Nat)(D0:DataW H){R}(w:World)(hBm:Bm<w)
  (hm:w.cell? (Bm,())=some (.map (some b))) (hown:w.ownsMap Tryz.prog 32 R b nn D0) (hn:1<=n) :
  SeqGives Fence.wide n Tryz.prog 295 #[(Bm,())] encW (fun ss=>ss.Perm (z2w D0)) (Maps.size D0) w:=fun l J W hW hJ hY h0=>by
 have Gb:W.ownsMap Tryz.prog 32 R b nn D0:=by
  have Gc:=hown.lt;obtain⟨es,Ga,hb,Ft,hs,hD⟩:=hown;exact⟨es,Ga,(hW.block b Gc).trans hb,Ft,hs,hD⟩
 exact y5u n l Bm b nn D0 J hY W hJ ((hW.cell (p:=⟨Bm,0,none⟩) hBm).trans hm) Gb h0 hn
theorem y5t(mb:Option Nat) w :
  () 238 #[.map mb] w fun e w'=>e=.returned (.func (.func 295) #[] #[(w,0)])/\w'=w.alloc (.cells #[.map mb] 141):=by
 go_enter Tryz.func238,Tryz.ntmps238
 go_wp2;go_ret;exact⟨rfl,rfl⟩
theorem y3r{H:Type}(n l Bm b nn:Nat)(D0:DataW H){R}(J:List Nat->World->Prop)
  (hY:∀pre x W,J pre W->pre.length<Maps.size D0->YieldAt Fence.wide (n-1) Tryz.prog l #[encW x] W fun e W'=>e=.returned true/\J (pre++[x]) W'/\KeepsWalks W W')
  (W:World) (hJ:AbidesFrom W J) (hm:W.cell? (Bm,())=some (.map (some b))) (hown:W.ownsMap Tryz.prog 32 R b nn D0) (h0:J [] W) (hn:1<=n) :
  CallsIn Fence.wide n Tryz.prog 245 #[.func (.yield l) #[] #[],(Bm,())] W fun e W'=>(∃v,e=.returned v)/\∃ss:List Nat,ss.Perm (z2w D0)/\J ss W':=by
 have Gh:Fence.wide.fn 245:=trivial;have Gl:Fence.wide.round=none:=rfl;refine callsIn_of_wp Tryz.func245 rfl Gh ?_ Gl;simp only[Tryz.ntmps245,List.size_toArray,List.length_cons,List.length_nil,Nat.reduceAdd,Nat.reduceSub,Array.replicate_succ,Array.replicate_zero,List.push_toArray,List.append_toArray,List.nil_append,List.cons_append];gi_wp2_with (first
  |(gi_at_range;refine wpListIn_range_own _ rfl _ 143 rfl 32 173 z1g Tryz.underlying143 _ b nn _ rfl hown ?_;intro w0 hrg0 hg0 hs0)
  |gi_in)
 go_frame
 gi_loopw [3] (fun _ wr=>∃(Ga:Lit->Bool)(Gd:Nat)(ss:List Nat),wr.ranges Tryz.prog 32 R b W nn D0 Ga Gd/\ss.length+Gd<=Maps.size D0/\z7m D0 Ga ss/\J ss wr)
  (fun _ wr=>wr.rangeLeft b W)
 case atStart =>
  exact⟨_,_,[],hrg0,by simp,z7m.start D0,hJ [] W w0 none h0 hg0 (fun r e=>by cases e)⟩
 case round =>
  obtain⟨Ga,Gd,ss,Ge,Gn,hC,Gf⟩:=hrel;gi_wp2_with (first
   |(gi_at_next;refine wpListIn_next_ranges _ rfl _ rfl 32 z1g R encW id (fun key kl hk=>by obtain⟨x,hx,_⟩:=z1h Tryz.underlying32 hk;exact⟨x,hx⟩) (fun v _ _=>⟨v,rfl⟩) b W nn _ _ _ rfl Ge ?_ ?_)
   |gi_in)
  ·intro hc0 hl0
   gi_wp2
   go_end0;exact⟨⟨_,rfl⟩,ss,hC.perm hown z1g Tryz.underlying32 hl0,Gf⟩
  ·intro x c kl yd yp w2 cnt2 hkey hlk hv hat hrg2 hlt hg2 hs2 hen
   obtain⟨x',ex,rfl,_⟩:=z1h Tryz.underlying32 hkey;obtain rfl:x=x':=z8l ex;have Gi:J ss w2:=hJ ss wr w2 (some W.heap.size) Gf hg2 (fun r e=>by cases e;exact⟨nL _,Ge.iter_walk⟩);obtain⟨fn,Gm,Gc,Gg,hy,hR⟩:=hY ss x w2 Gi oM;clear hs2;gi_wp2
   refine hR.mono ?_;rintro e W3⟨rfl,Gj,Gk⟩;gi_wp2
   have Gb:=hrg2.of_walks Gk;go_roundw
   case rel=>exact⟨_,cnt2,ss++[x],Gb,by simp;omega,hC.step hlk hat,Gj⟩
   case measure=>rw[Gb.left_eq,Ge.left_eq];exact hlt
theorem y0m{H:Type}(n Bm b nn:Nat)(D0:DataW H){R}(w:World)(hBm:Bm<w)
  (hm:w.cell? (Bm,())=some (.map (some b))) (hown:w.ownsMap Tryz.prog 32 R b nn D0) (hn:1<=n) :
  SeqGives Fence.wide n Tryz.prog 245 #[(Bm,())] encW (fun ss=>ss.Perm (z2w D0)) (Maps.size D0) w:=fun l J W hW hJ hY h0=>by
 have Gb:W.ownsMap Tryz.prog 32 R b nn D0:=by
  have Gc:=hown.lt;obtain⟨es,Ga,hb,Ft,hs,hD⟩:=hown;exact⟨es,Ga,(hW.block b Gc).trans hb,Ft,hs,hD⟩
 exact y3r n l Bm b nn D0 J hY W hJ ((hW.cell (p:=⟨Bm,0,none⟩) hBm).trans hm) Gb h0 hn
theorem y3q(mb:Option Nat) w :
  () 177 #[.map mb] w fun e w'=>e=.returned (.func (.func 245) #[] #[(w,0)])/\w'=w.alloc (.cells #[.map mb] 143):=by
 go_enter Tryz.func177,Tryz.ntmps177
 go_wp2;go_ret;exact⟨rfl,rfl⟩
end
section
open Go.RowKit
def z4n(o:Nat):Nat:=z5b (3305111552+o)
theorem w8h(o:Nat)(ho:o<65536):bits .or .u32 (o:Int) 3305111552=((3305111552+o:Nat):Int):=by
 have h:=u32_or_nat o 3305111552 oM oM;rw[show((3305111552:Nat):Int)=3305111552 from rfl]at h;rw[h];congr 1
 have:=Nat.two_pow_add_eq_or_of_lt (i:=16) (b:=o) oM 50432;rw[show 2^16*50432=3305111552 from rfl]at this;rw[Nat.or_comm,<- this]
theorem x0q(o:Nat)(ho:o<65536)(w:World)(ht:Tab w):
  () 270 #[.agg #[.int .i64 (-1),.int .i64 (-1),#[o]]] w fun e w'=>e=.returned (z4n o)/\Blw w w':=by
 have Ga:Hid (∀x,Blw w (w.alloc x)):=fun x=>(Below.refl _ _).alloc (nL _) x
 have HS:=hid (fun x=>z6z (3305111552+o) oM (w.alloc x) (ht.below (Ga.out x)));have e1:=w8h o ho;have u1:IntKind.u32.wrap (o:Int)=(o:Int):=by rw[IntKind.wrap_u32'];omega
 unfold z4n;generalize 3305111552+o=z at*;clear ht;go_enter Tryz.func270,Tryz.ntmps270
 go_wp2_with (go_at_call 314;refine(HS.out _).mono ?_;rintro e w1⟨rfl,Gb⟩;have Gc:=hid ((Ga.out _).trans (Gb.mono (by simp)));clear Gb)
 go_ret;exact⟨rfl,Gc.out⟩
def y1j(w:World)(P:List Ins->Prop)(e:Ending)(w':World):Prop:=∃A m c p,e=.returned (.tuple #[.slice A m c,()])/\P p/\w'.ownsRow w 225 3 (.slice A m c) m (z0h p)/\Blw w w'
theorem w0j c o (hc:c<=4064) (ho:o<65536) (h0:o≠0) w (ht:Tab w) :
  () 219 #[[c],#[o]] w (y1j w (z0y [(64*c,z4n o)])):=by
 have HT:=hid ht;have d1:decide ((0:Int)<=(c:Int))=true:=dT;have d2:decide ((c:Int)<=4064)=true:=dT;have d3:((o:Int)==0)=false:=by rw[beq_eq_false_iff_ne];omega
 have u1:IntKind.u64.wrap (c:Int)=(c:Int):=by rw[IntKind.wrap_u64];omega
 have Gj:64*c<18446744073709551616:=oM;have u2:IntKind.u64.wrap ((c:Int)*64)=((64*c:Nat):Int):=by rw[IntKind.wrap_u64];omega
 generalize 64*c=z at*;clear ht;go_enter Tryz.func219,Tryz.ntmps219
 go_wp2;have HC:=hid (Blk.new w 249 #[.int .i64 (-1),.int .i64 (-1),#[o]]);have Gd:Hid (Blw w (w.alloc (.cells #[.int .i64 (-1),.int .i64 (-1),#[o]] 249))):=(Below.refl _ _).alloc (nL _) _;generalize w.alloc (.cells #[.int .i64 (-1),.int .i64 (-1),#[o]] 249)=W at*;have Gb:Hid (Blw W W.drew):=(Below.refl _ _).drew;refine z0f (fun w'=>Blw W w') 4 [(true,0),(true,2),(false,1),(false,3)] (by kernel_rfl) (by kernel_rfl) Gb.out ?_;refine tkS [c] (fun w' hS=>?_) ?_
 ·go_simp
 refine tkS (.agg #[.int .i64 (-1),.int .i64 (-1),#[o]]) (fun w' hS=>?_) ?_
 ·have f0:w'.cell? (w,())=some (.int .i64 (-1)):=(HC.out.below hS HC.out.lt).cell 0
  have f1:w'.cell? ⟨w.heap.size,1,none⟩=some (.int .i64 (-1)):=(HC.out.below hS HC.out.lt).cell 1;have f2:w'.cell? ⟨w.heap.size,2,none⟩=some ↑#[o]:=(HC.out.below hS HC.out.lt).cell 2;go_simp
 refine z0k (by rfl) ?_;go_wp2;refine⟨Gb.out,?_⟩;refine z0k (by rfl) ?_;go_wp2_with fail
 refine(x0q o ho W.drew ((HT.out.below Gd.out).below Gb.out)).mono ?_;rintro e w1⟨rfl,Gc⟩;have Ga:=hid (Gb.out.trans (Gc.mono Gb.out.size));have HS:=hid (z1n _ 1 1 _ _ (z6i w1 z (z4n o)) oM oM (fun e he=>by simp at he;subst he;exact Gj));have Gg:Hid (∀x,Blw w (w1.alloc x)):=fun x=>((Gd.out.trans (Ga.out.mono Gd.out.size)).alloc (Nat.le_trans Gd.out.size Ga.out.size) x)
 generalize z4n o=y at*;clear Gc;go_wp2_with fail
 refine⟨Ga.out,?_⟩;show wpList ..;simp only[List.drop_succ_cons,List.drop_zero];go_wp2_with (go_at_call 81;refine HS.out.mono ?_;intro e w2 h1;have h2:=z2e.back (Gg.out _) h1;obtain⟨A1,m1,c1,p1,rfl,Gf,Ge,Gc⟩:=h2;have Gi:=hid Gf;have Gh:=hid Ge;have Ga:=hid Gc;clear h1 Gf Ge Gc)
 refine NoPanic.normal ?_;go_wp2;go_ret2;exact⟨_,_,_,_,rfl,Gi.out,Gh.out,Ga.out⟩
theorem x2w z n i (h:i<n):(madeCells z n)[i]?=some z[i%z.size]! := by
 unfold madeCells;rw[Array.getElem?_map,Array.getElem?_range,if_pos h];rfl
theorem y9s L i (hi:i<L):(madeCells (Value.agg #[.int .u64 0,.slice none 0 0]).cells (L*2))[i*2]?=some (.int .u64 0)/\(madeCells (Value.agg #[.int .u64 0,.slice none 0 0]).cells (L*2))[i*2+1]?=some (.slice none 0 0):=by
 have hz:(Value.agg #[.int .u64 0,.slice none 0 0]).cells=#[.int .u64 0,.slice none 0 0]:=rfl;rw[hz,x2w _ _ _ oM,x2w _ _ _ oM];have e1:i*2%(#[Value.int .u64 0,Value.slice none 0 0]:Array Value).size=0:=by show i*2%2=0;omega
 have e2:(i*2+1)%(#[Value.int .u64 0,Value.slice none 0 0]:Array Value).size=1:=by show(i*2+1)%2=1;omega
 rw[e1,e2];exact⟨rfl,rfl⟩
def x9f(w:World)(L:Nat)(D:Nat->Prop)(v:Nat->Value)(cur:Nat->Nat)(e:Ending)(w':World):Prop:=∃(a:DA)(S:Fp),e=.returned (v a.d)/\a.dirty=D/\Dev a L 0 w' S cur 0/\(∀k,S k->w<=k)/\Blw w w'
theorem w0m{dc a L}(hs:dc.size=15)(e0:dc[0]?=some (.slice (some ⟨a.pb,0,none⟩) (8*L) (8*L)))(e1:dc[1]?=some (.slice (some ⟨a.cb,0,none⟩) (8*L) a.cc))(e2:dc[2]?=some (.slice (some ⟨a.lb,0,none⟩) L L))(e3:dc[11]?=some (.bool false))(e4:dc[12]?=some (.bool false))(e5:dc[13]?=some (.int .i64 0))(e6:dc[14]?=some (.int .u64 0))
  (e7:∀j,j<8->dc[3+j]?=some (.pointer (some ⟨a.th j,0,none⟩))):dc=y0t a L 0:=by
 apply Array.ext_getElem?;intro i;by_cases hi:i<15
 ·rcases (show i=0\/i=1\/i=2\/i=3\/i=4\/i=5\/i=6\/i=7\/i=8\/i=9\/i=10\/i=11\/i=12\/i=13\/i=14 by omega)with rfl|rfl|rfl|rfl|rfl|rfl|rfl|rfl|rfl|rfl|rfl|rfl|rfl|rfl|rfl
  ·exact e0
  ·exact e1
  ·exact e2
  ·exact e7 0 oM
  ·exact e7 1 oM
  ·exact e7 2 oM
  ·exact e7 3 oM
  ·exact e7 4 oM
  ·exact e7 5 oM
  ·exact e7 6 oM
  ·exact e7 7 oM
  ·exact e3
  ·exact e4
  ·exact e5
  ·exact e6
 ·rw[Array.getElem?_eq_none oM,Array.getElem?_eq_none (by show 15<=i;omega)]
theorem v2y{w0 w w' L d cb cc lb pb per cs ls th nt pl}(D:Nat->Prop)(v:Nat->Value)(hL:L<=4096)(hlt:w0.heap.size<=pb)(hper:Blk w pb 32 per)(hps:per.size=8*L)(hpr:RowU per pl)(hpl:pl.length=8*L)(hb0:Blw w0 w)(H:OfI w w' pb L d cb cc lb cs ls th nt 8)(h1:cs.size=cc)(h2:8*L<=cc)(h3:cc<=9223372036854775807)
  (hru:RowU cs pl) (hls:ls=madeCells (Value.agg #[[()],((),())]).cells (L*2)) (g1:w.heap.size<=cb) (g2:w.heap.size<=lb) :
  x9f w0 L D v (fun k=>pl.getD k 0) (.returned (v d)) w':=by
 obtain⟨⟨dc,hd,Gf,e0,e1,e2,e3,e4,e5,e6,e7⟩,hcu,hli,hth,hmp,hbl,hgd,hgt⟩:=H;have h0:=hb0.size;have Gd:Blw w0 w':=hb0.trans (hbl.mono h0);have Gc:Blk w' pb 32 per:=hper.below hbl hper.lt;have Ge:=w0m (a:=⟨d,pb,cb,lb,nt,th,cc,D⟩) Gf e0 e1 e2 e3 e4 e5 e6 e7;subst Ge;have Gb:=hmp oM;have Gg:=Gb.lt;have Gh:=hper.lt;have Ga:∀{c:Array Value},RowU c pl->∀i,i<8*L->c[i]?=some (.int .u64 ((pl.getD i 0:Nat):Int)):=fun hr i hi=>by
  rw[hr.2 i oM,List.getD_eq_getElem?_getD,List.getElem?_eq_getElem oM];rfl
 refine⟨⟨d,pb,cb,lb,nt,th,cc,D⟩,fun k=>w0.heap.size<=k/\k<w'.heap.size,rfl,rfl,⟨⟨fun _=>0,fun _=>0,fun _ => .slice none 0 0,fun _=>[],fun k=>pl.getD k 0,fun _=>[]⟩,0,per,cs,ls,?_,⟨[],Gb,fun p hp=>(by cases hp),fun i h=>h.elim⟩,fun k _ _ e he=>(by cases he)⟩,fun k hk=>hk.1,Gd⟩;exact {
  dev:=hd
  perB:=Gc
  perS:=hps
  perI:=fun i hi=>⟨_,Ga hpr i hi⟩
  curB:=hcu
  curS:=h1
  curL:=h2
  curM:=h3
  curI:=fun i hi=>Ga hru i hi
  linB:=hli
  linS:=by rw[hls,size_madeCells];omega
  linD:=fun i hi=>by rw[hls];exact(y9s L i hi).1
  linH:=fun i hi=>by rw[hls];exact(y9s L i hi).2
  own:=fun i hi=>World.ownsRow_nil _ _ _ _
  ok:=fun i hi k hk=>absurd hk (by simp)
  few:=fun i hi=>nL _
  apart:=fun i j g hi hj h=>by cases h
  thr:=hth
  sd:=⟨by show w0.heap.size<=d;omega,hd.lt⟩
  sp:=⟨hlt,Gc.lt⟩
  sc:=⟨by show w0.heap.size<=cb;omega,hcu.lt⟩
  sl:=⟨by show w0.heap.size<=lb;omega,hli.lt⟩
  sn:=⟨by have:=(hgt 0 oM).2;show w0.heap.size<=nt 0;omega,Gg⟩
  st:=fun j hj=>⟨by have:=(hgt j hj).1;show w0.heap.size<=th j;omega,(hth j hj).lt⟩
  sh:=fun i g hi h=>by cases h
  lt:=fun k hk=>hk.2
  ne:=by show pb≠cb;omega
  hL:=hL
  hT:=oM
  pv:=fun i hi=>Ga hpr i hi
  hx:=fun _ _=>rfl
  lin:=fun _ _ e he=>by cases he
  link:=fun _ _=>rfl }
theorem v0w(D:Nat->Prop) L (h0:0<L) (hL:L<=4096) w:() 41 #[[L]] w (x9f w L D (fun d => .tuple #[(d,0),()]) (fun _=>0)):=by
 obtain⟨j0,Gd,Ge,Gb,Gf⟩:=info_parts z7r;have Gg:∀W:World,(Instr.makeSlice 107 [8*L] [8*L]).run Tryz.prog W=.ok (W,0,8*L,8*L) (W.alloc (.cells (madeCells #[[()]] (8*L)) 32)):=fun W=>by
  have h:=run_makeSlice (P:=Tryz.prog) W 107 32 j0 [()] Tryz.underlying107 Gd Ge .i64 .i64 ((8*L:Nat):Int) ((8*L:Nat):Int) oM oM (by rw[Gb];omega) (by rw[Gf];omega) oM;rw[Gb,Int.toNat_natCast,Nat.mul_one]at h;exact h
 have HO:=hid (v3k w.heap.size L (List.replicate (8*L) 0) hL h0 (w.alloc (.cells (madeCells #[[()]] (8*L)) 32)) (by
  rw[show(w.alloc (.cells (madeCells #[[()]] (8*L)) 32)).heap.size=w.heap.size+1 by simp];refine z0j w _ rfl _ (8*L) 1 32 _ ?_ ?_
  ·refine congrArg (fun x=>Obj.cells x 32) (Array.ext' ?_)
   rw[toList_madeCells_one];simp[z0g]
  ·simp[z0g]))
 have HN:Hid (∀e w',v2h (w.alloc (.cells (madeCells #[[()]] (8*L)) 32)) w.heap.size L (List.replicate (8*L) 0) e w'->∃d:Nat,e=.returned (d,0)/\x9f w L D (fun d => .tuple #[(d,0),()]) (fun _=>0) (.returned (.tuple #[(d,0),()])) w'):=by
  rintro e w1⟨d,cb,cc,lb,cs,ls,th,nt,rfl,h1,h2,h3,h4,h5,h6,h7,h8⟩;refine⟨d,rfl,?_⟩;have hz:(fun k=>(List.replicate (8*L) 0).getD k 0)=fun _=>0:=funext fun k=>by simp[List.getD_eq_getElem?_getD,List.getElem?_replicate];split<;>rfl
  have Ga:Blw w (w.alloc (.cells (madeCells #[[()]] (8*L)) 32)):=(Below.refl _ _).alloc (nL _) _;have h:=v2y (w0:=w) D (fun d => .tuple #[(d,0),()]) hL (nL _) (Blk.new w 32 (madeCells #[[()]] (8*L))) (by simp[size_madeCells]) (pl:=List.replicate (8*L) 0) ⟨by simp[size_madeCells],fun i hi=>by
   have Gc:i<8*L:=by simpa using hi
   rw[x2w _ _ _ Gc,List.getElem_replicate];congr 1
   show(#[Value.int .u64 0]:Array Value)[i%1]! =_;rw[Nat.mod_one];rfl⟩ (by simp) Ga h1 h2 h3 h4 h5 h6 h7 h8
  rw[hz]at h;exact h
 have e1:decide ((L:Int)<1)=false:=dF;have e2:decide ((4096:Int)<(L:Int))=false:=dF;have u1:IntKind.i64.wrap ((L:Int)*8)=((8*L:Nat):Int):=by rw[IntKind.wrap_i64];omega
 have u2:(L:Int)*8=((8*L:Nat):Int):=oM;generalize madeCells #[[()]] (8*L)=M at*;generalize 8*L=N at*;go_enter Tryz.func41,Tryz.ntmps41
 go_wp2_with (go_at_call 122;refine HO.out.mono ?_;intro e w1 h1;obtain⟨d,rfl,h2⟩:=HN.out e w1 h1;have HZ:=hid h2;clear h1 h2)
 go_ret2;exact HZ.out
structure z3e(L s n o:Nat):Prop where
 al:o%8=0
 lt:o<64*L
 out:o<64*s\/64*s+64*n<=o
theorem y1x{a L T w S cur F}(h:Dev a L T w S cur F) g s n (hB:Blk w g 258 (z0s a s n)) (hs:s+n<=L) o (ho:z3e L s n o) :
  () 272 #[(g,0),o] w fun e w'=>e=.returned true/\Blw w w':=by
 have c0:w.cell? (g,0)=some (memV a):=hB.cell 0;have c1:w.cell? (g,1)=some ↑(64*s:Nat):=hB.cell 1;have c2:w.cell? (g,2)=some ↑[n]:=hB.cell 2;have Gg:=z6w (some (a.th 0,0));obtain⟨ls,Gf,Gi,cs,Gh,Ga,Gd⟩:=h;have hL:=Ga.hL;obtain⟨f0,f2,_,_,f4⟩:=Ga.facts (j:=0) oM;obtain⟨o1,o2,o3⟩:=ho;have Gb:Hid (Blw w w.drew):=(Below.refl _ _).drew;have e1:((o:Int)%8==0)=true:=by rw[beq_iff_eq];omega
 have Ge:(o:Int)%8=0:=oM;have u1:IntKind.u64.wrap ((L:Int)*64)=(L:Int)*64:=by rw[IntKind.wrap_u64];omega
 have e2:decide ((L:Int)*64<=(o:Int))=false:=dF;have u2:IntKind.u64.wrap (n:Int)=(n:Int):=by rw[IntKind.wrap_u64];omega
 have u3:IntKind.u64.wrap ((n:Int)*64)=(n:Int)*64:=by rw[IntKind.wrap_u64];omega
 clear Ga Gd hB;unfold memV at*;by_cases hlt:o<64*s
 ·have e3:decide ((o:Int)<((64*s:Nat):Int))=true:=dT
  have Gc:decide (o<64*s)=true:=decide_eq_true hlt;generalize 64*s=z at*;go_enter Tryz.func272,Tryz.ntmps272
  go_wp2;go_region;go_wp2;go_ret;exact⟨rfl,Gb.out⟩
 ·have e3:decide ((o:Int)<((64*s:Nat):Int))=false:=dF
  have Gc:decide (o<64*s)=false:=decide_eq_false hlt;have u4:IntKind.u64.wrap ((o:Int)-((64*s:Nat):Int))=(o:Int)-((64*s:Nat):Int):=by rw[IntKind.wrap_u64];omega
  have e4:decide ((n:Int)*64<=(o:Int)-((64*s:Nat):Int))=true:=dT;generalize 64*s=z at*;go_enter Tryz.func272,Tryz.ntmps272
  go_wp2;go_region;go_wp2;go_ret;exact⟨rfl,Gb.out⟩
theorem z6l a s n g c w (hB:Blk w g 258 (z0s a s n)) (hs:64*s<18446744073709551616) (hc:c<=1000000) :
  () 223 #[(g,0),[c]] w (z2e w (z0y [(64*s,c)])):=by
 have f1:w.cell? (g,1)=some ↑(64*s:Nat):=hB.cell 1;have HS:=hid (z1n _ 1 1 _ _ (z6i w (64*s) c) oM oM (fun e he=>by simp at he;subst he;exact hs));have u1:IntKind.u64.wrap (c:Int)=(c:Int):=by rw[IntKind.wrap_u64];omega
 generalize 64*s=o at*;clear hB;go_enter Tryz.func223,Tryz.ntmps223
 go_wp2_with (go_at_call 81;refine HS.out.mono ?_;intro e w1 h1;have h2:=z2e.back ((Below.refl _ _).alloc (nL _) _) h1;obtain⟨A1,m1,c1,p1,rfl,Gc,Gb,Ga⟩:=h2;have Gf:=hid Gc;have Ge:=hid Gb;have Gd:=hid Ga;clear h1 Gc Gb Ga)
 go_ret;exact⟨_,_,_,_,rfl,Gf.out,Ge.out,Gd.out⟩
def w8s(w:World)(ws:List (Nat×Nat))(e:Ending)(w':World):Prop:=∃A m c,e=.returned (.tuple #[.slice A m c,ws.isEmpty,()])/\m=ws.length/\w'.ownsRow w 117 2 (.slice A m c) m (z0a ws)/\Blw w w'
theorem y9o{a L T w S cur F}(h:Dev a L T w S cur F) g s n (hB:Blk w g 258 (z0s a s n)) (hs:s+n<=L) (hn:2<=n) ws (hl:LogU cur s ws) (hc:ws.length<=4*(n-1)) (hw:∀e∈ws,z3e L s n e.1) :
  () 222 #[(g,0)] w (w8s w ws):=by
 obtain⟨i0,Gt,Gx,Gy,Gz⟩:=info_parts z1l;have hL:L<=4096:=by obtain⟨ls,G1,GA,cs,G8,Gr,G3⟩:=h;exact Gr.hL
 have HE:=hid (y2j h g s n hB hs hn ws hl hc);have Gn:Hid (∀k (hk:k<ws.length) W,Blw w W->() 272 #[(g,0),.int .u64 ((ws[k]).1:Int)] W fun e w'=>e=.returned true/\Blw W w'):=fun k hk W hW =>
  y1x (h.below hW) g s n (hB.below hW hB.lt) hs _ (hw _ (List.getElem_mem hk))
 have hN:ws.length<=16384:=oM;clear h hB hl hc hs hn hw;go_enter Tryz.func222,Tryz.ntmps222
 go_wp2_with fail
 refine HE.out.mono ?_;rintro e w1⟨A,m,c,rfl,hm,ho,Gl⟩;have HR:=hid (z0d.of_own ho);have Ga:=hid Gl;have Gv:m<=ws.length:=oM;have Gw:ws.length<=m:=oM;have Gh:Hid (w1.ownsRow w1 117 2 ((),()) 0 (z0a (ws.take 0))):=World.ownsRow_nil _ _ _ _;have Gg:Hid (Blw w1 w1):=Below.refl _ _;clear hm ho Gl HE;go_wp2;go_loopw [7,20] (fun l i wr=>∃(k:Nat)(A2:Option Addr)(m2 c2:Nat),k<=m/\i=↑[k]/\l=.slice A2 m2 c2/\m2<=k/\k<=m2/\Hid (wr.ownsRow w1 117 2 (.slice A2 m2 c2) m2 (z0a (ws.take k)))/\Hid (Blw w1 wr)) (fun _ i _=>m-(RowKit.intOf i).toNat)
 case atStart=>exact⟨0,_,_,_,Nat.zero_le _,rfl,rfl,nL _,nL _,Gh,Gg⟩
 case round =>
  clear Gh Gg;obtain⟨k,A2,m2,c2,hk,rfl,rfl,G4,G5,HO,H⟩:=hrel;by_cases hlt:k<m
  ·have Gm:k<ws.length:=oM
   obtain⟨_,b,G9,hA,G2,f0,f1⟩:=z3a (HR.out.below H.out) hlt;subst hA;have G6:(0:Int)<=(k:Int):=oM;have G7:(k:Int)<(m:Int):=oM;have Gk:Blw w (wr.alloc (.cells #[.int .u64 ((ws[k]).1:Int),.int .u64 ((ws[k]).2:Int)] 117)):=(Ga.out.trans (H.out.mono Ga.out.size)).alloc (Nat.le_trans Ga.out.size H.out.size) _;have HA:=hid (Gn.out k Gm _ Gk);have Gq:=hid (x0m ws k Gm);have G0:=hid H.out.size;have HX:Hid (∀o,Blw w1 (wr.alloc o)):=fun o=>H.out.alloc H.out.size o
   have Gj:Hid (∀o,(wr.alloc o).ownsRow w1 117 2 (.slice A2 m2 c2) m2 (z0a (ws.take k))):=fun o=>HO.out.alloc o
   have Gd:=hid (Blk.new wr 117 #[.int .u64 ((ws[k]).1:Int),.int .u64 ((ws[k]).2:Int)]);clear Gk;generalize ws[k]=e at*;go_wp2_with fail
   refine HA.out.mono ?_;rintro e1 w2⟨rfl,Gb⟩;have Gc:=hid ((HX.out _).trans (Gb.mono (HX.out _).size));have Gp:=hid (z0r (Gj.out _) Gb);have Ge:=Gd.out.below Gb Gd.out.lt;have d0:w2.cell? (wr,0)=some ↑e.1:=Ge.cell 0;have d1:w2.cell? (wr,1)=some ↑e.2:=Ge.cell 1;clear Gb Ge HA HX Gj Gd H HO;go_wp2_with (at_builtin;refine stop ?_)
   unfold Stop;refine z0m _ (.tmp 28) (.tmp 30) 118 rfl rfl w1 117 i0 _ 2 16 Tryz.underlying118 Gt Gx Gy Gz rfl oM (.slice A2 m2 c2) m2 (z0a (ws.take k)) rfl (Gp.out.alloc _) (w2+1) (some (w2,0)) 1 1 [e.1,e.2] rfl (z0j _ _ rfl _ 1 2 117 _ rfl rfl) (z2k _ _) (by unfold maxLen;omega) oM (by have:=Gc.out.size;simp;omega) ?_;intro A3 n3 c3 w8 hn3 ho3 hg3 hb3;have Gi:Hid (w8.ownsRow w1 117 2 (.slice A3 n3 c3) n3 (z0a (ws.take (k+1)))):=hid (by rw[Gq.out,z1o];exact ho3);have Gf:=hid ((Gc.out.alloc Gc.out.size _).trans hb3);have b1:n3<=k+1:=oM;have b2:k+1<=n3:=oM;clear hn3 ho3 hg3 hb3;go_wp2;go_roundw
   case rel =>
    first
     |exact⟨k+1,_,_,_,oM,by go_num,rfl,b1,b2,Gi,Gf⟩
     |(
       repeat apply Exists.intro
       refine⟨?_,rfl⟩;exact⟨k+1,_,_,_,oM,by go_num,rfl,b1,b2,Gi,Gf⟩)
   case measure=>simp[RowKit.intOf];omega
  ·have Gu:k=m:=oM
   subst Gu;have Gs:((k:Int)==0)=ws.isEmpty:=by
    cases ws with
    |nil =>
         have:k=0:=by simp at Gv;omega
         subst this;rfl
    |cons x l =>
           have:k≠0:=by simp at Gw;omega
           simp;omega
   go_wp2;go_ret3
   refine⟨A2,m2,c2,rfl,oM,?_,Ga.out.trans (H.out.mono Ga.out.size)⟩;have h:=z2u HO.out Ga.out.size;rw[List.take_of_length_le oM]at h;exact h
end
section
open Go.RowKit Go.Maps Go.Shelf
theorem x7i xs:xs.map encW=z0g xs:=rfl
theorem v1i{w base g m c cs ys}(hB:Blk w g 32 cs)(hb:base<=g)(hm:m<=c)(hc:c<=maxLen)(hs:cs.size=c)(hr:RowU cs ys)(hl:ys.length=m):w.ownsRow base 32 1 (g,0,m,c) m (z0g ys):=by
 refine⟨by simp[z0g,hl],.inr ⟨g,c,cs,rfl,hb,hB,hm,hc,oM,?_⟩⟩;apply List.ext_getElem?;intro i;by_cases hi:i<m
 ·rw[List.getElem?_take_of_lt oM,Array.getElem?_toList,hr.2 i oM]
  simp[z0g,hl▸hi]
 ·rw[List.getElem?_eq_none (by simp;omega),List.getElem?_eq_none (by simp[z0g];omega)]
theorem x7s w:() 283 #[((),()),(),()] w fun e w'=>e=.returned (.tuple #[])/\w=w':=by
 go_enter Tryz.func283,Tryz.ntmps283
 go_wp2;refine wp_loop_rounds 1 ?_;rw[rounds_succ];go_wp2;go_end0;exact⟨rfl,rfl⟩
theorem v1d(lim:Int)(w:World):() 232 #[((),()),(),(),[lim]] w fun e w'=>e=.returned (.tuple #[])/\w=w':=by
 go_enter Tryz.func232,Tryz.ntmps232
 go_wp2;refine wp_loop_rounds 1 ?_;rw[rounds_succ];go_wp2_with fail
 refine(x7s _).mono ?_;rintro e w1⟨rfl,rfl⟩;go_wp2;refine bodyPost_ret (results_none rfl _ _ _) rfl ?_;exact⟨rfl,rfl⟩
theorem w7l(w:World):() 160 #[((),())] w fun e w'=>e=.returned (.tuple #[])/\w=w':=by
 go_enter Tryz.func160,Tryz.ntmps160
 go_wp2_with (first
  |(go_at_call 232;refine(v1d _ _).mono ?_;rintro e w1⟨rfl,rfl⟩)
  |go_in)
 go_end0;exact⟨rfl,rfl⟩
def RetU(w:World)(P:List Nat->Prop)(e:Ending)(w':World):Prop:=∃A m c ys,e=.returned (.slice A m c)/\P ys/\m=ys.length/\w'.ownsRow w 32 1 (.slice A m c) m (z0g ys)/\Blw w w'
theorem z7a g lb (eg:∀args w,(callFunc g args).run Tryz.prog w=.ok (.enter g args) w)
  ks N (hN:N<=1000) w (hseq:SeqGives Fence.wide 9 Tryz.prog g lb encW (fun ss=>ss.Perm ks) N w) :
  () 91 #[.func (.func g) #[] lb] w (RetU w (fun ys=>ys.Perm ks)):=by
 have HC:=hid (x2f g lb eg _ N oM w hseq.bounded);go_enter Tryz.func91,Tryz.ntmps91
 go_wp2_with (go_at_call 178;refine HC.out.mono ?_;rintro e W⟨v,ss,rfl,⟨hS,Gm⟩,hrow,hnil,hb⟩;refine stop ?_)
 unfold Stop;rw[x7i]at hrow;rcases hrow.2 with ⟨rfl,hz⟩|⟨gb,cap,cur,rfl,hbase,hgb,r1,r2,r3,r4⟩
 ·have Gn:ss=[]:=List.eq_nil_of_length_eq_zero hz
  subst Gn;have HR:=hid hrow;have HB:=hid hb;have HP:=hid hS;clear hrow hb hS hnil HC hseq;go_wp2_with (go_at_call 160;refine(w7l _).mono ?_;rintro e w1⟨rfl,rfl⟩)
  go_ret;exact⟨none,0,0,[],rfl,HP.out,rfl,HR.out,HB.out⟩
 ·obtain⟨cs,hB,Gg,hR,hl⟩:=x2z hrow
  have Gh:z0t W W gb ss cap:=⟨cs,ss,hB,Gg,hR,List.Perm.refl _,Chg.refl _ _⟩
  have HS:=hid (y5c gb ss.length cap cap ss W Gh rfl oM r1 (by unfold maxLen at r2;omega));have HB:=hid hb;have HP:=hid hS;have HF:Hid (w<=gb/\ss.length<=cap/\cap<=maxLen):=hid ⟨hbase,r1,r2⟩;clear hrow hb hS hnil HC hseq hB Gg hR hl Gh r1 r2 r3 r4 hgb hbase;go_wp2_with (go_at_call 160;refine HS.out.mono ?_;rintro e w1⟨rfl,hs⟩;have Gc:=hid hs;clear hs)
  obtain⟨Gp,ys,Gd,Gi,Ge,Ga,Gf⟩:=Gc.out;have Gb:=Ga.length_eq;have HO:=hid (v1i (base:=w.heap.size) Gd HF.out.1 HF.out.2.1 HF.out.2.2 Gi Ge Gb);have Gj:Hid (Blw w w1):=hid (HB.out.trans (Gf.toBelow HB.out.size (fun k hk=>by rw[hk];exact HF.out.1)));have Gl:=hid (Ga.trans HP.out);have Gk:=hid Gb;clear Gd Gi Ge Ga Gf Gb Gc HS HB HP;go_wp2;go_ret;exact⟨_,_,_,ys,rfl,Gl.out,Gk.out.symm,HO.out,Gj.out⟩
end
section
open Go.RowKit
theorem x2x n:madeCells #[[()]] n=uA (List.replicate n 0):=by
 apply Array.ext';rw[toList_madeCells_one];unfold uA z0g;simp
theorem z7g{a L T w S cur F}(h:Dev a L T w S cur F) s n (hn:32<=n) (hs:s+n<=L) :
  () 218 #[memV a,[s],[n]] w fun e w'=>e=.returned true/\w=w':=by
 obtain⟨ls,Gc,Gf,cs,Ge,Ga,Gb⟩:=h;have hL:=Ga.hL;obtain⟨f0,f2,_,_,_⟩:=Ga.facts (j:=0) oM;clear Ga Gb;have hq:=z7p (some (a.th 0,0));have Gd:=z6w (some (a.th 0,0));unfold memV;have e1:decide ((s:Int)<0)=false:=dF;have e2:decide ((n:Int)<32)=false:=dF;have u1:IntKind.u64.wrap ((L:Int)*64)=(L:Int)*64:=by rw[IntKind.wrap_u64];omega
 have u2:IntKind.u64.wrap (n:Int)=(n:Int):=by rw[IntKind.wrap_u64];omega
 have u3:IntKind.u64.wrap (s:Int)=(s:Int):=by rw[IntKind.wrap_u64];omega
 have u4:IntKind.u64.wrap ((L:Int)-(s:Int))=(L:Int)-(s:Int):=by rw[IntKind.wrap_u64];omega
 have d1:((L:Int)*64).tdiv 64=(L:Int):=by rw[Int.mul_tdiv_cancel _ (by decide)]
 have d2:(n:Int).tdiv 32=(n:Int)/32:=by rw[Int.tdiv_eq_ediv_of_nonneg oM]
 have e3:decide ((L:Int)<(s:Int))=false:=dF;have e4:decide ((L:Int)-(s:Int)<(n:Int))=false:=dF;have u5:IntKind.u64.wrap ((n:Int)/32)=(n:Int)/32:=by rw[IntKind.wrap_u64];omega
 have u6:IntKind.u64.wrap ((n:Int)/32*32)=(n:Int)/32*32:=by rw[IntKind.wrap_u64];omega
 have u7:IntKind.u64.wrap ((s:Int)+(n:Int)/32*32)=(s:Int)+(n:Int)/32*32:=by rw[IntKind.wrap_u64];omega
 have e5:decide ((s:Int)+(n:Int)/32*32<=4096)=true:=dT;go_enter Tryz.func218,Tryz.ntmps218
 go_wp2;go_ret;exact⟨rfl,rfl⟩
def arC(cur:Nat->Nat)(s:Nat):Nat->Nat->Nat
 |0=>cur
 |k+1=>wrS (arC cur s k) [(64*(s+32*k),z4n 1)]
def AreI(a:DA)(L T:Nat)(w wr:World)(S:Fp)(cur:Nat->Nat)(s k:Nat):Prop:=∃S',Dev a L (T+3*k) wr S' (arC cur s k) 0/\Chg S w wr/\Grew S S' w
theorem x4u o (ho:o<65536):z4n o<18446744073709551616:=w7g _ oM
theorem y2a{a L T w S cur}(h:Dev a L T w S cur 0)(ht:Tab w)(hg:¬S 2) s n K (hn:32<=n) (hs:s+n<=L) (hK:n/32=K) (hT:T+3*K<=1000000000) :
  () 125 #[memV a,[s],[n]] w (z0x a L (T+3*K) w S (arC cur s K) 0 ()):=by
 have HV:=hid (z7g h s n hn hs);have Gd:Hid (AreI a L T w w S cur s 0):=⟨S,h,Chg.refl _ _,Grew.refl _ _⟩
 have HG:=hid hg;have HT:=hid ht;obtain⟨ls,Gi,Gp,cs,Gn,Ga,Gc⟩:=h;have hL:=Ga.hL;obtain⟨f0,_,_,_,g2⟩:=Ga.facts (j:=0) oM;have Gq:=z1x (some (a.th 0,0));have d2:(n:Int).tdiv 32=(K:Int):=by rw[Int.tdiv_eq_ediv_of_nonneg oM];omega
 have d3:(n:Int)/32=(K:Int):=oM;have Gj:K*32<=n:=oM;clear Ga Gc ht hg hK;unfold memV at*;go_enter Tryz.func125,Tryz.ntmps125
 go_wp2_with (first
  |(go_at_call 218;refine HV.out.mono ?_;rintro e w1⟨rfl,rfl⟩)
  |go_in)
 clear f0 g2 HV;go_loopw [24] (fun i wr=>∃(k:Nat),k<=K/\i=↑[k]/\Hid (AreI a L T w wr S cur s k)) (fun i _=>K-(RowKit.intOf i).toNat)
 case atStart=>exact⟨0,Nat.zero_le _,rfl,Gd⟩
 case round =>
  clear Gd;obtain⟨k,hk,rfl,H⟩:=hrel;by_cases hlt:k<K
  ·obtain⟨S1,hd,hc,Gb⟩:=H.out
   have HC:=hid (w0j (s+32*k) 1 oM oM oM wr (HT.out.chg hc HG.out));have HR:Hid (∀(A:Option Addr)(m c:Nat)(p:List Ins)(w1:World),z0y [(64*(s+32*k),z4n 1)] p->w1.ownsRow wr.heap.size 225 3 (.slice A m c) m (z0h p)->Blw wr w1 ->
     () 46 #[.slice A m c,memV a] w1 (fun e w2=>e=.returned ()/\AreI a L T w w2 S cur s (k+1))):=fun A m c p w1 hp ho hb=>by
    refine(z9s (hd.below hb) ho hd.lt hp (fun e he=>by simp only[List.mem_singleton]at he;subst he;exact⟨oM,oM,x4u 1 oM⟩) (by simp) (by simp;omega)).mono ?_;intro e w2 h2;obtain⟨he,S2,Gl,Gk,Gm⟩:=z0x.then_ hc Gb (z0x.back hb h2);exact⟨he,S2,Gl.more (by simp;omega) oM,Gk,Gm⟩
   have e7:((s+32*k:Nat):Int)=(s:Int)+(k:Int)*32:=oM;rw[e7]at HC;generalize 64*(s+32*k)=z at*;clear hd hc Gb e7 H;unfold memV at*;go_wp2_with (first
    |(go_at_call 219;refine HC.out.mono ?_;rintro e w1⟨A1,m1,c1,p1,rfl,Gg,Gf,Ge⟩;have Gh:=hid (HR.out A1 m1 c1 p1 w1 Gg Gf Ge);clear Gg Gf Ge)
    |(go_at_call 46;refine Gh.out.mono ?_;rintro e w2⟨rfl,h2⟩;have HZ:=hid h2;clear h2)
    |go_in)
   go_roundw
   case rel =>
    repeat apply Exists.intro
    refine⟨?_,rfl⟩;exact⟨k+1,oM,by go_num,HZ⟩
   case measure=>simp[RowKit.intOf];omega
  ·obtain rfl:k=K:=oM
   obtain⟨S1,hd,hc,Gb⟩:=H.out;have HZ:=hid (show ∃S',Dev a L (T+3*k) wr S' (arC cur s k) 0/\Chg S w wr/\Grew S S' w from H.out);obtain⟨ls,Gi,Gp,cs,Gn,Ga,Gc⟩:=hd;obtain⟨f0,_,_,_,g2⟩:=Ga.facts (j:=0) oM;clear Ga Gc hc Gb H;go_wp2;go_ret;exact⟨rfl,HZ.out⟩
def hdX(c g:Nat):Nat:=g+(c+1)*65536+1048576+3305111552
def hdrW(c g:Nat):Nat:=z5b (hdX c g)
section
theorem z8o(c g:Nat)(hc:c<5)(w:World)(hp:Pay w):() 321 #[.agg #[[c],(),#[g]]] w fun e w'=>e=.returned true/\Blw w w':=by
 have hb:Blw w (w.alloc (.cells #[[c],(),#[g]] 249)):=(Below.refl _ w).alloc (nL _) _;have HB:=hid hb;have HP:=hid (z2i c hc _ (hp.below hb));have d1:(0:Int)<(perC c:Int):=by have:=z3b c;omega
 clear hp hb;generalize perC c=r at*;go_enter Tryz.func321,Tryz.ntmps321
 go_wp2_with (go_at_call 173;refine HP.out.mono ?_;rintro e w1⟨rfl,rfl⟩)
 go_ret;exact⟨rfl,HB.out⟩
theorem y9h g (hg0:0<g) (hg:g<65536) w (ht:Tab w) :
  () 280 #[(z4n g)] w fun e w'=>e=.returned (.tuple #[.agg #[.int .i64 (-1),.int .i64 (-1),#[g]],true])/\Blw w w':=by
 have HS:=hid (fun (W:World) (hW:Blw w W)=>z6z (3305111552+g) oM W (ht.below hW));have hs:IntKind.u32.wrap (z5b (3305111552+g):Int)=((3305111552+g:Nat):Int):=by
  rw[IntKind.wrap_u32'];unfold z5b;omega
 unfold z4n;have Gb:Hid (∀x,Blw w (w.alloc x)):=fun x=>(Below.refl _ _).alloc (nL _) x
 have b0:((3305111552+g:Nat):Int)/16777216=197:=oM;have b1:((3305111552+g:Nat):Int)/65536=50432:=oM;have b2:((3305111552+g:Nat):Int)/1048576=3152:=oM;have b4:bits .and .u32 50432 15=0:=by decide
 have b5:bits .and .u32 3152 15=0:=by decide
 have b3:IntKind.u16.wrap ((3305111552+g:Nat):Int)=(g:Int):=by rw[IntKind.wrap_u16];omega
 have b6:((g:Int)==0)=false:=by rw[beq_eq_false_iff_ne];omega
 have hx:3305111552+g<4294967296:=oM;generalize 3305111552+g=xx at*;generalize z5b xx=z at*;have q1:((z:Int)==(z:Int))=true:=by simp
 clear ht;go_enter Tryz.func280,Tryz.ntmps280
 go_wp2_with (go_at_call 314;refine(HS.out _ (Gb.out _)).mono ?_;rintro e w1⟨rfl,Ga⟩;have Gc:=hid Ga;have hk:=(Blk.new w 249 #[(),(),.int .u16 0]).below Ga (Blk.new w 249 #[(),(),.int .u16 0]).lt;have Gd:=hk.lt;have c0:w1.cell? (w,0)=some ↑():=hk.cell 0;have c1:w1.cell? (w,1)=some ↑():=hk.cell 1;have c2:w1.cell? (w,2)=some (.int .u16 0):=hk.cell 2;have z0:w1.frozen? (w,0)=false:=hk.frozen 0;have z1:w1.frozen? (w,1)=false:=hk.frozen 1;have z2:w1.frozen? (w,2)=false:=hk.frozen 2;clear Ga hk)
 have Ge:((w,0):Addr)≠(w,1):=by simp
 have Gf:((w,0):Addr)≠(w,2):=by simp
 have Gg:((w,1):Addr)≠(w,2):=by simp
 refine bodyPost_ret (v := .tuple #[.agg #[.int .i64 (-1),.int .i64 (-1),#[g]],true]) (by simp[results,Tryz.results280,go_sem,c0,c1,c2,Gd]) rfl ⟨rfl,?_⟩;have h0:=(Gb.out (.cells #[(),(),.int .u16 0] 249)).trans (Gc.out.mono (by simp));have h1:=((h0.setCell (p:=⟨w.heap.size,0,none⟩) (nL _) (.int .i64 (-1))).setCell (p:=⟨w.heap.size,1,none⟩) (nL _) (.int .i64 (-1))).setCell (p:=⟨w.heap.size,2,none⟩) (nL _) #[g];exact h1.alloc h1.size _
theorem y4o c g (hc:c<5) (hg0:0<g) (hg:g<65536) w (ht:Tab w) (hp:Pay w) :
  () 280 #[(hdrW c g)] w fun e w'=>e=.returned (.tuple #[.agg #[[c],(),#[g]],true])/\Blw w w':=by
 have hx:hdX c g<4294967296:=by unfold hdX;omega
 have HS:=hid (fun (W:World) (hW:Blw w W)=>z6z (hdX c g) hx W (ht.below hW));have HF:=hid (fun (W:World) (hW:Blw w W)=>z8o c g hc W (hp.below hW));have hs:IntKind.u32.wrap (z5b (hdX c g):Int)=(hdX c g:Int):=by
  rw[IntKind.wrap_u32'];unfold z5b;omega
 unfold hdrW;have Gc:Hid (∀x,Blw w (w.alloc x)):=fun x=>(Below.refl _ _).alloc (nL _) x
 have b0:(hdX c g:Int)/16777216=197:=by unfold hdX;omega
 have b1:bits .and .u32 ((hdX c g:Int)/65536) 15=(c:Int)+1:=by
  have e:(hdX c g:Int)/65536=50432+16+(c:Int)+1:=by unfold hdX;omega
  rw[e];have Gj:c=0\/c=1\/c=2\/c=3\/c=4:=oM;rcases Gj with rfl|rfl|rfl|rfl|rfl<;>decide
 have b2:(hdX c g:Int)/1048576=3153:=by unfold hdX;omega
 have b5:bits .and .u32 3153 15=1:=by decide
 have b3:IntKind.u16.wrap (hdX c g:Int)=(g:Int):=by rw[IntKind.wrap_u16];unfold hdX;omega
 have b6:((g:Int)==0)=false:=by rw[beq_eq_false_iff_ne];omega
 have d0:decide ((c:Int)<0)=false:=dF;generalize hdX c g=xx at*;generalize z5b xx=z at*;have q1:((z:Int)==(z:Int))=true:=by simp
 clear ht hp;go_enter Tryz.func280,Tryz.ntmps280
 go_wp2_with (go_at_call 314;refine(HS.out _ (Gc.out _)).mono ?_;rintro e w1⟨rfl,Gg⟩;have Gd:=hid ((Gc.out (.cells #[(),(),.int .u16 0] 249)).trans (Gg.mono (by simp)));have HK:=hid ((Blk.new w 249 #[(),(),.int .u16 0]).below Gg (Blk.new w 249 #[(),(),.int .u16 0]).lt);clear Gg)
 have Ga:=hid (Gd.out.alloc Gd.out.size (.cells #[[c],(),#[g]] 249));have Ge:=hid (HK.out.below (Below.refl _ w1 |>.alloc (nL _) (.cells #[[c],(),#[g]] 249)) HK.out.lt);have Gf:=hid (Blk.new w1 249 #[[c],(),#[g]]);generalize hw2:w1.alloc (.cells #[[c],(),#[g]] 249)=w2 at*;have Gh:=hid (HF.out w2 Ga.out);clear HF HS HK Gd hw2;refine Gh.out.mono ?_;rintro e w3⟨rfl,Gb⟩;have Gi:=hid (Ga.out.trans (Gb.mono Ga.out.size));have hk:=Ge.out.below Gb Ge.out.lt;have hn:=Gf.out.below Gb Gf.out.lt;have g0:w3.cell? (w1,())=some ↑[c]:=hn.cell 0;have g1:w3.cell? ⟨w1.heap.size,1,none⟩=some ↑():=hn.cell 1;have g2:w3.cell? ⟨w1.heap.size,2,none⟩=some ↑#[g]:=hn.cell 2;have c0:w3.cell? (w,())=some ↑():=hk.cell 0;have c1:w3.cell? ⟨w.heap.size,1,none⟩=some ↑():=hk.cell 1;have c2:w3.cell? ⟨w.heap.size,2,none⟩=some (.int .u16 0):=hk.cell 2;have z0:w3.frozen? (w,())=false:=hk.frozen 0;have z1:w3.frozen? ⟨w.heap.size,1,none⟩=false:=hk.frozen 1;have z2:w3.frozen? ⟨w.heap.size,2,none⟩=false:=hk.frozen 2;clear Gb hk hn Gh Ge Gf Ga Gc;go_wp2;have Gk:((w,()):Addr)≠⟨w.heap.size,1,none⟩:=by simp
 have Gl:((w,()):Addr)≠⟨w.heap.size,2,none⟩:=by simp
 have Gm:(⟨w.heap.size,1,none⟩:Addr)≠⟨w.heap.size,2,none⟩:=by simp
 refine bodyPost_ret (v := .tuple #[.agg #[[c],(),#[g]],true]) (by simp[results,Tryz.results280,go_sem,c0,c1,c2]) rfl ⟨rfl,?_⟩;exact((Gi.out.setCell (p:=⟨w.heap.size,0,none⟩) (nL _) [c]).setCell (p:=⟨w.heap.size,1,none⟩) (nL _) ()).setCell (p:=⟨w.heap.size,2,none⟩) (nL _) #[g]
end
end
end Go.Proofs.YtmhbokcccjmfgaaGreatDoor
