/- part 28 -/
import Derived.Test.YtmhbokcccjmfgaaGreatDoorQba
set_option maxRecDepth 100000
set_option maxHeartbeats 16000000
namespace Go.Proofs.YtmhbokcccjmfgaaGreatDoor
open Go.Lib (hid)
section
open Go.RowKit Go.Maps
structure YIsP(gr:Nat)(sv:Value)(st:Nat)(l:List (List Nat×Nat))(P:World->Prop):Prop where
 ok:LOk st l
 below:∀{w w':World},P w->Blw w w'->P w'
 rd:∀{w:World},P w->RdC (gr,0) sv w (some (st,l),0)/\RgOk (some (st,l),0)
section
variable{P:World->Prop}{sv:Value}{gr st:Nat}{l:List (List Nat×Nat)}{w:World}
theorem YIsP.stamp(I:YIsP gr sv st l P)(h:P w):() 98 #[(gr,0),sv] w fun e w'=>e=.returned st/\Blw w w':=x0i (I.rd h).1
theorem YIsP.oldest(I:YIsP gr sv st l P)(h:P w):() 102 #[(gr,0),sv] w fun e w'=>e=.returned (minL st l)/\Blw w w':=y4y (I.rd h).1 (I.rd h).2
theorem YIsP.list(I:YIsP gr sv st l P)(h:P w):() 101 #[(gr,0),sv] w (w8r w l):=y9n (fun {_ _ _ _ _ _} h hm=>y4v h hm) (I.rd h).1 (I.rd h).2 st l rfl
theorem YIsP.get(I:YIsP gr sv st l P)(h:P w) nm:() 109 #[(gr,0),sv,.string nm] w fun e w'=>e=.returned (.tuple #[.int .u64 ((getR nm (some (st,l),0)).1:Int),.int .i64 ((getR nm (some (st,l),0)).2:Int)])/\Blw w w':=v0b (I.rd h).1 (I.rd h).2 nm
end
section
variable{P:World->Prop}{sv:Value}{gr st:Nat}{l rl:List (List Nat×Nat)}{w:World}
theorem x1e(I:YIsP gr sv st l P)(h:P w)(hrl:RLk l rl) A n c (hr:z0d w w 2 A n (z0b rl)) nm :
  () 33 #[(gr,0),sv,.agg #[st,.slice A n c],.string nm] w fun e w'=>e=.returned true/\Blw w w':=by
 have Gl:=I.ok;have GL:rl.length=n:=by have:=hr.1;rw[z0q]at this;omega
 have Dc:=hrl.perm.length_eq;have h8:=Gl.len;obtain⟨W1,Gr⟩:∃W1,w.alloc (.cells #[st,.slice A n c] 87)=W1:=⟨_,rfl⟩
 have Gj:Blw w W1:=by rw[<- Gr];exact(Below.refl _ _).alloc (nL _) _
 have GK:Blk W1 w 87 #[st,.slice A n c]:=by rw[<- Gr];exact Blk.new _ _ _
 have GF:=hid (I.below h Gj);have GS:=hid ((hr.below Gj).more Gj.size);have Gz:=hid Gj;have GU:=hid Gr;have G5:=hid GK;have GR:Hid (() 101 #[(gr,0),sv] W1 fun e w'=>(∃A1 c1,e=.returned (.slice A1 n c1)/\Hid (z0d w' w' 2 A1 n (z0b rl)))/\Blw W1 w'):=hid ((I.list GF.out).mono (fun e w' h=>by
  obtain⟨A1,m,c1,l',he,hs,ho,hb⟩:=h;have e1:=hs.eq Gl.nd hrl;subst e1;have hm:m=n:=by
   have h1:=ho.1;rw[z0q]at h1;omega
  subst hm;exact⟨⟨A1,c1,he,hid (z0d.of_own ho)⟩,hb⟩))
 have GO:Hid (∀k (hk:k<rl.length),getR (strN (rl[k]).1) (some (st,l),0)=((rl[k]).2,0)):=hid (fun k hk=>hrl.get_at Gl.nd hk);have GP:Hid (getR nm (some (st,l),0)=rfG nm rl):=hid (hrl.get Gl.nd nm);have G7:Hid (minL st l=minL st rl):=hid (hrl.min_ st).symm;have HL:=hid GL;have GM:n<=8:=oM;have d5:((n:Int) != (n:Int))=false:=by rw[bne,beq_self_eq_true];rfl
 have d6:((st:Int) != (st:Int))=false:=by rw[bne,beq_self_eq_true];rfl
 clear h hrl hr Gl GL Dc h8 Gj GK Gr;go_enter Tryz.func33,Tryz.ntmps33
 go_upto_region 1 with fail
 rw[GU.out];go_upto_region 2 with (go_at_call 101;refine GR.out.mono ?_;rintro e w2⟨⟨A1,c1,rfl,GZ⟩,hb2⟩;have Gg:=hid hb2;clear hb2)
 have Gw:=hid (I.below GF.out Gg.out);have GA:=hid ((GS.out.below Gg.out).more Gg.out.size);have Gn:=hid (G5.out.below Gg.out G5.out.lt);have HG:Hid (∀W,Blw w2 W->W.cell? (w,0)=some ↑st/\W.cell? (w,1)=some (.slice A n c)):=hid (fun W hW=>⟨(Gn.out.below hW Gn.out.lt).cell 0,(Gn.out.below hW Gn.out.lt).cell 1⟩);have GD:Hid (∀W,Blw w2 W->() 98 #[(gr,0),sv] W fun e w'=>e=.returned st/\Blw W w'):=hid (fun W hW=>(I.stamp (I.below Gw.out hW)));obtain⟨mn,Gy⟩:∃mn,minL st rl=mn:=⟨_,rfl⟩
 have G8:Hid (∀W,Blw w2 W->() 102 #[(gr,0),sv] W fun e w'=>e=.returned mn/\Blw W w'):=hid (fun W hW=>by
  have h1:=(I.oldest (I.below Gw.out hW))
  rw[G7.out,Gy]at h1;exact h1)
 have GB:Hid (∀W,Blw w2 W->() 108 #[.agg #[st,.slice A n c]] W fun e w'=>e=.returned mn/\Blw W w'):=hid (fun W hW=>by
  have h1:=y7e st A n c rl W ((GA.out.below hW).more hW.size) oM;rw[Gy]at h1;exact h1)
 have d7:((mn:Int) != (mn:Int))=false:=by rw[bne,beq_self_eq_true];rfl
 clear Gy;go_cut [42]from 21 to 42 (fun v wx=>v=↑false/\Hid (Blw w2 wx))
 case first =>
  refine z0e (fun w'=>Blw w2 w') 22 [] [(1,0),(1,1),(1,2),(1,3),(1,4),(1,5),(1,6),(1,7),(1,8),(1,10),(1,11),(0,9),(1,12),(1,13),(1,14),(1,15),(1,16),(1,18),(0,17),(0,19),(1,20),(1,21)] (by kernel_rfl) (by kernel_rfl) ((Below.refl _ _).drew) ?_;refine tkG (.slice A1 n c1) ?_;refine tkG [n] ?_;refine tkG (w,1) ?_;refine tkH (.slice A n c) (fun w' hS=>?_) ?_
  ·obtain⟨s0,s1⟩:=HG.out _ hS
   go_simp
  refine tkG [n] ?_;refine tkG false ?_;refine tkG false ?_;refine tkG (gr,0) ?_;refine tkG (sv) ?_;refine tkG (w,0) ?_;refine tkH st (fun w' hS=>?_) ?_
  ·obtain⟨s0,s1⟩:=HG.out _ hS
   go_simp
  refine z0c (by rfl) ?_;go_wp2_with (go_at_call 98;refine(GD.out _ (Below.refl _ _).drew).mono ?_;rintro e w3⟨rfl,Gf⟩;have Gd:Hid (Blw w2 w3):=hid ((Below.refl _ _).drew.trans Gf);clear Gf)
  refine⟨Gd.out,?_⟩;refine tkG false ?_;refine tkG false ?_;refine tkG false ?_;refine tkG (gr,0) ?_;refine tkG (sv) ?_;refine tkH (.agg #[st,.slice A n c]) (fun w' hS=>?_) ?_
  ·obtain⟨s0,s1⟩:=HG.out _ hS
   go_simp
  refine z0c (by rfl) ?_;go_wp2_with (go_at_call 102;refine(G8.out _ Gd.out).mono ?_;rintro e w4⟨rfl,Gk⟩;have Gb:Hid (Blw w2 w4):=hid (Gd.out.trans (Gk.mono Gd.out.size));clear Gk)
  refine⟨Gb.out,?_⟩;refine z0c (by rfl) ?_;go_wp2_with (go_at_call 108;refine(GB.out _ Gb.out).mono ?_;rintro e w5⟨rfl,GH⟩;have Gm:Hid (Blw w2 w5):=hid (Gb.out.trans (GH.mono Gb.out.size));clear GH)
  refine⟨Gm.out,?_⟩;refine tkG false ?_;refine tkG false ?_;show wpList _ _ _ _ _ _;simp only[List.drop_succ_cons,List.drop_zero];refine NoPanic.normal ?_;go_wp2_with fail
  go_meet;exact⟨rfl,Gm⟩
 case rest =>
 obtain⟨rfl,Ge⟩:=hcut;clear GD G8 GB d7 G7;have GG:=hid (I.below Gw.out Ge.out);have GC:=hid (GA.out.below Ge.out);have Gv:=hid (GZ.out.below Ge.out);have GQ:=hid (HG.out _ Ge.out);obtain⟨e0,e1⟩:=GQ.out;have Gi:Hid (Blw w wc):=hid (Gz.out.trans ((Gg.out.trans (Ge.out.mono Gg.out.size)).mono Gz.out.size));have G4:Hid (Blw wc wc):=hid (Below.refl _ _);have Gq:w2.heap.size<=wc.heap.size:=Ge.out.size;go_wp2_with fail
 go_loopw [46] (fun vi wi=>∃k:Nat,k<=n/\vi=↑[k]/\Hid (Blw wc wi)) (fun vi _=>n-(Go.RowKit.intOf vi).toNat)
 case atStart=>exact⟨0,Nat.zero_le _,rfl,G4⟩
 case round =>
  clear G4;obtain⟨k,hk,rfl,HI⟩:=hrel;by_cases hlt:k<n
  ·obtain⟨Db,gb,go,GX,Dd,f0,f1⟩:=z2a ((GC.out.more Gq).below HI.out) (k:=k) hlt
   subst GX;obtain⟨_,Ga,Gc,GY,Da,f2,f3⟩:=z2a ((Gv.out.more Gq).below HI.out) (k:=k) hlt;subst GY;have G3:=hid (GO.out k Db);generalize rl[k]=p at*;obtain⟨pn,pv⟩:=p;dsimp only at f0 f1 f2 f3 G3;have De:(0:Int)<=(k:Int):=oM;have Df:(k:Int)<(n:Int):=oM;obtain⟨W3,Gs⟩:∃W3,wr.alloc (.cells #[.string (strN pn),pv] 204)=W3:=⟨_,rfl⟩
   have Gf:Blw wr W3:=by rw[<- Gs];exact(Below.refl _ _).alloc (nL _) _
   have Gx:Blk W3 wr 204 #[.string (strN pn),pv]:=by rw[<- Gs];exact Blk.new _ _ _
   have GE:=hid Gs;have Gd:=hid (HI.out.trans (Gf.mono HI.out.size));have Gp:=hid Gx;have Gu:=hid (I.get (I.below GG.out Gd.out) (strN pn));rw[G3.out]at Gu;have GW:=Gx.cell 0;have q2:Ga<wr:=by have:=HI.out.size;omega
   have G1:=hid ((Gf.cell (p:=⟨Ga,Gc+k*2,none⟩) q2).trans f2);have G2:=hid ((Gf.cell (p:=⟨Ga,Gc+k*2+1,none⟩) q2).trans f3);clear Gs Gf Gx;go_upto_region 7 with fail
   rw[GE.out];go_upto_region 8 with (go_at_call 109;refine Gu.out.mono ?_;rintro e w4⟨rfl,Gk⟩;have Gb:=hid Gk;clear Gk)
   have g0:=(Gp.out.below Gb.out Gp.out.lt).cell 0;have g1:=(Gp.out.below Gb.out Gp.out.lt).cell 1;have q3:Ga<W3:=Nat.lt_of_lt_of_le q2 (by rw[<- GE.out];simp);have g2:=(Gb.out.cell (p:=⟨Ga,Gc+k*2,none⟩) q3).trans G1.out;have g3:=(Gb.out.cell (p:=⟨Ga,Gc+k*2+1,none⟩) q3).trans G2.out;have Gm:=hid (Gd.out.trans (Gb.out.mono Gd.out.size));have d1:((strN pn).toList==(strN pn).toList)=true:=beq_self_eq_true _;have d2:((pv:Int) != (pv:Int))=false:=by rw[bne,beq_self_eq_true];rfl
   clear G1 G2 f0 f1 f2 f3 GW Gu;refine z0e (fun w'=>w'=w4.drew) 28 [] [(1,0),(1,1),(1,2),(1,3),(1,4),(1,5),(1,6),(1,7),(1,8),(1,9),(1,10),(1,11),(1,12),(1,13),(1,14),(1,15),(1,16),(1,17),(1,18),(1,19),(1,20),(1,21),(1,22),(1,23),(1,24),(1,25),(1,26),(1,27)] (by kernel_rfl) (by kernel_rfl) rfl ?_;refine tkG (Ga,Gc,n,c1) ?_;refine tkG [k] ?_;refine tkG (Ga,Gc+k*2) ?_;refine tkG (Ga,Gc+k*2) ?_;refine tkH (.string (strN pn)) (fun w' hS=>?_) ?_
   ·subst hS
    go_simp
   refine tkG (wr,0) ?_;refine tkH (.string (strN pn)) (fun w' hS=>?_) ?_
   ·subst hS
    go_simp
   refine tkG false ?_;refine tkG false ?_;refine tkG (Ga,Gc,n,c1) ?_;refine tkG [k] ?_;refine tkG (Ga,Gc+k*2) ?_;refine tkG (Ga,Gc+k*2+1) ?_;refine tkH pv (fun w' hS=>?_) ?_
   ·subst hS
    go_simp
   refine tkG (wr,1) ?_;refine tkH pv (fun w' hS=>?_) ?_
   ·subst hS
    go_simp
   refine tkG false ?_;refine tkG false ?_;refine tkG false ?_;refine tkG () ?_;refine tkG false ?_;refine tkG false ?_;refine tkG false ?_;refine tkG pv ?_;refine tkG (wr,1) ?_;refine tkH pv (fun w' hS=>?_) ?_
   ·subst hS
    go_simp
   refine tkG false ?_;refine tkG false ?_;show wpList _ _ _ _ _ _;simp only[List.drop_succ_cons,List.drop_zero];refine NoPanic.normal ?_;have Gh:Hid (Blw wc w4.drew):=hid Gm.out.drew;clear g0 g1 g2 g3 d1 d2;go_wp2_with fail
   go_roundw
   case rel =>
    first
     |exact⟨k+1,oM,by go_num,Gh⟩
     |(
       repeat apply Exists.intro
       refine⟨?_,rfl⟩;exact⟨k+1,oM,by go_num,Gh⟩)
   case measure=>simp[Go.RowKit.intOf];omega
  ·obtain rfl:k=n:=oM
   have GV:=hid (I.below GG.out HI.out);have Gt:=hid (I.get GV.out nm);rw[GP.out]at Gt;have G9:=hid (fun (W:World) (hW:Blw wr W)=>x8g st A k c rl nm W ((((GC.out.more Gq).below HI.out).more HI.out.size).below hW |>.more hW.size) oM);have G6:=hid (fun (W:World) (hW:Blw wr W)=>HG.out W (Ge.out.trans ((HI.out.trans (hW.mono HI.out.size)).mono Gq)));generalize rfG nm rl=Y at*;obtain⟨rv,rc⟩:=Y;clear e0 e1;have d1:((rc:Int)==(rc:Int))=true:=beq_self_eq_true _;have d2:((rv:Int)==(rv:Int))=true:=beq_self_eq_true _;go_upto_region 12 with (go_at_call 109;refine Gt.out.mono ?_;rintro e w6⟨rfl,GI⟩;have Gh:=hid GI;clear GI)
   obtain⟨k0,k1⟩:=G6.out _ Gh.out;have GT:=hid (G9.out _ Gh.out);have G0:Hid (Blw w w6):=hid (Gi.out.trans ((HI.out.trans (Gh.out.mono HI.out.size)).mono Gi.out.size));clear G9 G6 Gt;go_wp2_with (go_at_call 110;refine GT.out.mono ?_;rintro e w7⟨rfl,GJ⟩;have GN:=hid GJ;clear GJ)
   go_ret;exact⟨rfl,G0.out.trans (GN.out.mono G0.out.size)⟩
end
end
section
open Go.RowKit Go.Maps
theorem w1h:(Tryz.prog.info? 204).map (fun i=>(i.zero,i.size,i.bytes))=some (some (.agg #[.string ⟨#[]⟩,[()]]),2,24):=by kernel_rfl
theorem x7z(w:World)(t:TypeId):(w.alloc (.cells #[] t)).ownsRow w t 2 (.slice (some (w,())) 0 0) 0 [] :=
 ⟨rfl,.inr ⟨w.heap.size,0,#[],rfl,nL _,heap_alloc_new w _,nL _,by unfold maxLen;omega,rfl,rfl⟩⟩
theorem x2p(l l':List (List Nat×Nat)):z0b (l++l')=z0b l++z0b l':=by
 unfold z0b;rw[List.flatMap_append]
theorem w7d{w B size n m A xs}(h:z0d w B size A n xs)(hm:m<=n):z0d w B size A m (xs.take (m*size)):=by
 obtain⟨h1,h2⟩:=h;have h3:m*size<=n*size:=Nat.mul_le_mul_right _ hm;refine⟨by rw[List.length_take];omega,fun hp=>?_⟩;obtain⟨ad,e,hb,hc⟩:=h2 oM;refine⟨ad,e,hb,fun j u hu=>hc j u ?_⟩;rw[List.getElem?_take]at hu;split at hu
 ·exact hu
 ·cases hu
theorem y9k(l:List (List Nat×Nat)) k:(z0b l).drop (k*2)=z0b (l.drop k):=by
 induction l generalizing k with
 |nil=>simp[z0b]
 |cons p t ih =>
  cases k with
  |zero=>simp
  |succ k =>
   have e:z0b (p::t)=.string (strN p.1):: .int .u64 p.2::z0b t:=rfl;rw[e,show(k+1)*2=k*2+1+1 by omega,List.drop_succ_cons,List.drop_succ_cons,ih];rfl
theorem y2q(l:List (List Nat×Nat)):∀u∈z0b l,u.oneCell'=true:=fun u hu=>by
 obtain⟨p,_,hp⟩:=List.mem_flatMap.1 hu;simp at hp;rcases hp with rfl|rfl<;>rfl
theorem v2v:∀a b:List UInt8,Op.bytesLess a b=decide (Lib.compareBytes a b<0)
 |[],[]=>rfl
 |[],_::_=>rfl
 |_::_,[]=>rfl
 |x::a,y::b=>by
  have ih:=v2v a b;rw[z7o];show(decide (x<y)||(x==y&&Op.bytesLess a b))=_;rw[ih];by_cases h1:x.toNat<y.toNat
  ·rw[if_pos h1,decide_eq_true (UInt8.lt_iff_toNat_lt.2 h1)]
   rfl
  ·rw[if_neg h1,decide_eq_false (fun h=>h1 (UInt8.lt_iff_toNat_lt.1 h)),Bool.false_or]
   by_cases h2:y.toNat<x.toNat
   ·rw[if_pos h2]
    have e:(x==y)=false:=beq_eq_false_iff_ne.2 (fun h=>by subst h;omega);rw[e];rfl
   ·rw[if_neg h2]
    have e:(x==y)=true:=beq_iff_eq.2 (UInt8.toNat_inj.1 oM);rw[e,Bool.true_and]
theorem v0x x s:(Op.bytesLess x.toList s.toList=decide (z7z x s<0))/\(x.toList==s.toList)=decide (z7z x s=0):=by
 constructor
 ·rw[ByteArray.toList_eq,ByteArray.toList_eq]
  exact v2v _ _
 ·rw[w7m]
  by_cases h:x=s
  ·subst h
   rw[decide_eq_true rfl,decide_eq_true (show z7z x x=0 from x1z _)]
  ·rw[decide_eq_false h,decide_eq_false (show ¬z7z x s=0 from fun h2=>h (ByteArray.ext (Array.toList_inj.1 (w9i _ _ h2))))]
section
variable{p:List Nat×Nat}
theorem x4z:∀l:List (List Nat×Nat),(∀x∈l,¬nmCf p x<0)->insN p l=l++[p]
 |[],_=>rfl
 |x::t,h=>by
  unfold insN;rw[if_neg (h x (by simp)),x4z t (fun y hy=>h y (by simp[hy]))];rfl
theorem y4p:∀(l t:List (List Nat×Nat))(x:List Nat×Nat),(∀x∈l,¬nmCf p x<0)->nmCf p x<0->insN p (l++x::t)=l++p::x::t
 |[],t,x,_,hx=>by
  show insN p (x::t)=_;unfold insN;rw[if_pos hx];rfl
 |y::l,t,x,h,hx=>by
  show insN p (y::(l++x::t))=_;unfold insN;rw[if_neg (h y (by simp)),y4p l t x (fun z hz=>h z (by simp[hz])) hx];rfl
def TkI(p:List Nat×Nat)(l:List (List Nat×Nat))(k:Nat)(d:Bool)(xs:List (List Nat×Nat)):Prop :=
 if d=true then insN p l=xs++l.drop k else (∀x∈l.take k,¬nmCf p x<0)/\xs=l.take k
theorem TkI.zero(l:List (List Nat×Nat)):TkI p l 0 false []:=by
 unfold TkI;rw[if_neg (by decide)];exact⟨fun x hx=>by simp at hx,rfl⟩
variable{l xs:List (List Nat×Nat)}{k:Nat}
theorem TkI.done_(h:TkI p l k true xs)(hk:k<l.length):TkI p l (k+1) true (xs++[l[k]]):=by
 unfold TkI at h⊢;rw[if_pos rfl]at h⊢;rw[h,List.drop_eq_getElem_cons hk,List.append_assoc];rfl
theorem TkI.first_(h:TkI p l k false xs)(hk:k<l.length)(hc:nmCf p l[k]<0):TkI p l (k+1) true (xs++[p]++[l[k]]):=by
 unfold TkI at h⊢;rw[if_neg (by decide)]at h;rw[if_pos rfl];have h1:=y4p (p:=p) (l.take k) (l.drop (k+1)) l[k] h.1 hc;rw[List.getElem_cons_drop,List.take_append_drop]at h1;rw[h1,h.2,List.append_assoc,List.append_assoc,<- List.getElem_cons_drop (h:=hk)];rfl
theorem TkI.on_(h:TkI p l k false xs)(hk:k<l.length)(hc:¬nmCf p l[k]<0):TkI p l (k+1) false (xs++[l[k]]):=by
 unfold TkI at h⊢;rw[if_neg (by decide)]at h⊢;rw[List.take_succ_eq_append_getElem hk];refine⟨fun x hx=>?_,by rw[h.2]⟩;rcases List.mem_append.1 hx with hx|hx
 ·exact h.1 x hx
 ·rw[List.mem_singleton.1 hx]
  exact hc
theorem TkI.last_(h:TkI p l l.length false xs):insN p l=xs++[p]:=by
 unfold TkI at h;rw[if_neg (by decide),List.take_length]at h;rw[x4z l h.1,h.2]
theorem TkI.end_(h:TkI p l l.length true xs):insN p l=xs:=by
 unfold TkI at h;rw[if_pos rfl,List.drop_length,List.append_nil]at h;exact h
theorem TkI.len_{d}(h:TkI p l k d xs)(hk:k<=l.length):xs.length<=k+1:=by
 unfold TkI at h;cases d
 ·rw[if_neg (by decide)]at h
  rw[h.2,List.length_take];omega
 ·rw[if_pos rfl]at h
  have h1:=(z8s p l).length_eq;rw[h,List.length_append,List.length_drop,List.length_cons]at h1;omega
end
def x9h(w:World)(A:Option Addr)(st:Nat)(R:List (List Nat×Nat)×Nat)(e:Ending)(w':World):Prop :=
 ∃(A':Option Addr)(n' c':Nat),e=.returned (.tuple #[.agg #[st,.slice A' n' c'],[R.2]])/\n'<=c'/\c'<=9223372036854775807/\z0d w' w' 2 A' n' (z0b R.1)/\(A'=A\/∀ad,A'=some ad->w<=ad.block/\ad.block<w')/\Blw w w'
section
variable(st:Nat)(A:Option Addr)(n c:Nat)(l:List (List Nat×Nat))(s:ByteArray)(w:World)
theorem y3b(h:z0d w w 2 A n (z0b l))(hn:n<=100)(hc:n<=c/\c<=9223372036854775807):
  Calls Tryz.prog 105 #[.agg #[.int .u64 st,.slice A n c],.string s] w (x9h w A st (rfD s l)):=by
 have G8:l.length=n:=by have:=h.1;rw[z0q]at this;omega
 obtain⟨W1,Gl⟩:∃W1,(w.alloc (.cells #[.int .u64 st,.slice A n c] 87)).alloc (.cells #[.int .u64 0,.slice none 0 0] 87)=W1:=⟨_,rfl⟩
 have Gi:Blw w W1:=by rw[<- Gl];exact((Below.refl _ _).alloc (nL _) _).alloc (by simp) _
 have Ge:Blk W1 w 87 #[.int .u64 st,.slice A n c]:=by rw[<- Gl];exact(Blk.new _ _ _).alloc _
 have Gf:Blk W1 (w+1) 87 #[.int .u64 0,.slice none 0 0]:=by
  rw[<- Gl];have h1:=Blk.new (w.alloc (.cells #[.int .u64 st,.slice A n c] 87)) 87 #[.int .u64 0,.slice none 0 0];rw[show(w.alloc (.cells #[.int .u64 st,.slice A n c] 87)).heap.size=w.heap.size+1 by simp]at h1;exact h1
 have HR:=hid ((h.below Gi).more Gi.size);have GH:=hid h;have HL:=hid G8;have Gk:=hid Gi;have GI:=hid Gl;have Gn:=hid Ge;have Gg:=hid Gf;have Gq:=hid (z7y st A n c l s W1 ((h.below Gi).more Gi.size) oM);have Gr:=hid (z9h s 0 l);have HY:Hid (rfD s l=if fndS s 0 l<0 then (l,5)else (l.eraseIdx (fndS s 0 l).toNat,0)):=hid rfl;generalize rfD s l=Y at*;obtain⟨fi,G4⟩:∃fi,fndS s 0 l=fi:=⟨_,rfl⟩
 rw[G4]at Gq Gr HY;have k0:=Ge.cell 0;have k1:=Ge.cell 1;clear h G8 Gi Ge Gf Gl G4;go_enter Tryz.func105,Tryz.ntmps105
 go_upto_region 1 with fail
 rw[GI.out];go_upto_region 2 with (go_at_call 204;refine Gq.out.mono ?_;rintro e w2⟨rfl,G2⟩;have Ga:=hid G2;clear G2)
 by_cases hf:fi<0
 ·have Gs:Hid (Y=(l,5)):=hid (by rw[HY.out,if_pos hf])
  have Ge:=Gn.out.below Ga.out Gn.out.lt;have Gf:=Gg.out.below Ga.out Gg.out.lt;have e0:=Ge.cell 0;have e1:=Ge.cell 1;have d0:=Gf.cell 0;have d1:=Gf.cell 1;have z0:=Gf.frozen 0;have z1:=Gf.frozen 1;clear Ge Gf k0 k1 HY;go_wp2_with fail
  have Gm:Blw w ((w2.setCell ⟨w+1,0,none⟩ (.int .u64 st)).setCell ⟨w+1,1,none⟩ (.slice A n c)):=((Gk.out.trans (Ga.out.mono Gk.out.size)).setCell (by simp) _).setCell (by simp) _;have Gd:=hid Gm;have G6:Blk ((w2.setCell ⟨w+1,0,none⟩ (.int .u64 st)).setCell ⟨w+1,1,none⟩ (.slice A n c)) (w+1) 87 #[.int .u64 st,.slice A n c]:=((Gg.out.below Ga.out Gg.out.lt).set_ 0 _).set_ 1 _;have c0:=G6.cell 0;have c1:=G6.cell 1;refine bodyPost_ret (v := .tuple #[.agg #[.int .u64 st,.slice A n c],.int .i64 5]) (by simp[results,Tryz.results105,go_sem,c0,c1]) rfl ⟨A,n,c,?_⟩;rw[Gs.out];exact⟨rfl,hc.1,hc.2,(GH.out.below Gd.out).more Gd.out.size,.inl rfl,Gd.out⟩
 ·obtain⟨j,hj⟩:∃j:Nat,fi=(j:Int):=⟨fi.toNat,oM⟩
  subst hj;have GK:=Gr.out.2.1;have hm:=HL.out;have GL:j<n:=oM;have Gs:Hid (Y=(l.eraseIdx j,0)):=hid (by rw[HY.out,if_neg hf,Int.toNat_natCast]);have HG:Hid (∀W,Blw W1 W->Blk W w 87 #[.int .u64 st,.slice A n c]/\Blk W (w+1) 87 #[.int .u64 0,.slice none 0 0]/\z0d W W 2 A n (z0b l)):=hid (fun W hW=>⟨Gn.out.below hW Gn.out.lt,Gg.out.below hW Gg.out.lt,(HR.out.below hW).more hW.size⟩);obtain⟨gb,go,GJ,_,_⟩:=(z2a (HR.out.below Ga.out) (k:=j) GL).2;subst GJ;have GQ:(0:Int)<=(j:Int):=oM;have GR:(j:Int)<=(c:Int):=oM;have GS:(j:Int)+1<=(n:Int):=oM;have GT:IntKind.i64.wrap ((j:Int)+1)=(j:Int)+1:=by rw[IntKind.wrap_i64];omega
  obtain⟨A2,Gt⟩:∃A2,(if c=j+1 then some (⟨gb,go,none⟩:Addr)else some ⟨gb,go+(j+1)*2,none⟩)=A2:=⟨_,rfl⟩
  have GF:Hid (∀W,Blw W1 W->z0d W W 2 A2 (n-(j+1)) (z0b (l.drop (j+1)))):=hid (fun W hW=>by
   have h1:=(HG.out W hW).2.2.cut (k:=j+1) (cap:=c) oM hc.1;rw[y9k]at h1;rw[<- Gt];have e:Option.map (fun x=>Addr.add x ((j+1)*2)) (some (⟨gb,go,none⟩:Addr))=some ⟨gb,go+(j+1)*2,none⟩:=by
    rw[Option.map_some,add_plain]
   rw[e]at h1;exact h1)
  have GG:Hid (∀W,Blw W1 W->z0d W W 2 (some ⟨gb,go,none⟩) j (z0b (l.take j))):=hid (fun W hW=>by
   have h1:=w7d (HG.out W hW).2.2 (m:=j) oM;rw[z6g l j oM]at h1;exact h1)
  obtain⟨i0,G5,G9,GA,GB⟩:=info_parts w1h;have e0:=(HG.out w2 Ga.out).1.cell 0;have e1:=(HG.out w2 Ga.out).1.cell 1;clear hf GK HY Gr Gq k0 k1;go_upto_region 4 with fail
  refine z0e (fun w'=>w'.cell? ⟨w.heap.size,0,none⟩=some (.int .u64 st)/\w'.cell? ⟨w.heap.size,1,none⟩=some (.slice (some ⟨gb,go,none⟩) n c)) 17 [] [(1,0),(1,1),(1,3),(1,4),(1,5),(1,6),(1,8),(1,9),(1,10),(1,11),(1,12),(0,2),(0,7),(0,13),(1,14),(0,15),(1,16)] (by kernel_rfl) (by kernel_rfl) ⟨e0,e1⟩ ?_;refine tkG (.pointer (some ⟨w.heap.size,0,none⟩)) ?_;refine tkH (.int .u64 st) (fun w' hS=>?_) ?_
  ·obtain⟨s0,s1⟩:=hS
   go_simp
  refine tkG (.pointer (some ⟨w.heap.size,1,none⟩)) ?_;refine tkH (.slice (some ⟨gb,go,none⟩) n c) (fun w' hS=>?_) ?_
  ·obtain⟨s0,s1⟩:=hS
   go_simp
  refine tkG (.int .i64 j) ?_;refine tkG (.slice (some ⟨gb,go,none⟩) j c) ?_;refine tkG (.pointer (some ⟨w.heap.size,1,none⟩)) ?_;refine tkH (.slice (some ⟨gb,go,none⟩) n c) (fun w' hS=>?_) ?_
  ·obtain⟨s0,s1⟩:=hS
   go_simp
  refine tkG (.int .i64 j) ?_;refine tkG (.int .i64 ((j:Int)+1)) ?_;refine tkH (.slice A2 (n-(j+1):Nat) (c-(j+1):Nat)) (fun w' hS=>?_) ?_
  ·rw[<- Gt]
   go_simp;intro h;omega
  clear Gt;refine z0c (by rfl) ?_;go_wp2_with fail
  have Gm:Blw w2 (w2.alloc (.cells #[] 204)).drew:=((Below.refl w2 w2).alloc (nL _) _).drew;have Gd:=hid (Ga.out.trans (Gm.mono Ga.out.size));have Gz:Hid ((w2.alloc (.cells #[] 204)).drew.ownsRow w2 204 2 (.slice (some ⟨w2.heap.size,0,none⟩) 0 0) 0 []):=hid (x7z w2 _);have Gu:w2.heap.size<=(w2.alloc (.cells #[] 204)).drew.heap.size:=Gm.size;have Gh:Hid (W1.heap.size<=w2.heap.size):=hid Ga.out.size;refine⟨⟨(HG.out _ Gd.out).1.cell 0,(HG.out _ Gd.out).1.cell 1⟩,?_⟩;clear Gm e0 e1;generalize hW3:(w2.alloc (.cells #[] 204)).drew=w3 at*;clear hW3;refine z0c (by rfl) ?_;refine y3k _ (.tmp 15) (.tmp 19) 85 rfl rfl w2 204 i0 _ 2 24 Tryz.underlying85 G5 G9 GA GB rfl oM (.slice (some ⟨w2.heap.size,0,none⟩) 0 0) 0 [] rfl Gz.out _ (some ⟨gb,go,none⟩) j c (z0b (l.take j)) rfl (GG.out _ Gd.out) (y2q _) ?_ ?_ ?_ ?_
  ·unfold maxLen;omega
  ·omega
  ·exact Gu
  intro A4 n4 c4 w4 Gw ho4 hg4 hv4;have Gx:Hid (Below w2 w3 w4):=hid ((Below.refl _ _).grown hg4 Gu (fun g hg=>(Gz.out.lt g hg).1));have Gc:Hid (Blw W1 w4):=hid (Gd.out.trans (Gx.out.mono Gh.out));have G0:Hid (w4.ownsRow w2 204 2 (.slice A4 n4 c4) n4 (z0b (l.take j))):=hid (by simpa using ho4);have Gy:Hid (n4=j):=hid oM;have G1:w2.heap.size<=w4.heap.size:=Nat.le_trans Gu Gx.out.size;clear Gw ho4 hg4 hv4;go_wp2_with fail
  refine⟨⟨(HG.out _ Gc.out).1.cell 0,(HG.out _ Gc.out).1.cell 1⟩,?_⟩;have Gw:=Gy.out;refine z0c (by rfl) ?_;refine y3k _ (.tmp 20) (.tmp 25) 85 rfl rfl w2 204 i0 _ 2 24 Tryz.underlying85 G5 G9 GA GB rfl oM (.slice A4 n4 c4) n4 (z0b (l.take j)) rfl G0.out _ A2 (n-(j+1)) (c-(j+1)) (z0b (l.drop (j+1))) rfl (GF.out _ Gc.out) (y2q _) ?_ ?_ ?_ ?_
  ·unfold maxLen;omega
  ·omega
  ·exact G1
  intro A5 n5 c5 w5 hn5 ho5 hg5 hv5;have GC:Hid (Below w2 w4 w5):=hid ((Below.refl _ _).grown hg5 G1 (fun g hg=>(G0.out.lt g hg).1));have Gb:Hid (Blw W1 w5):=hid (Gc.out.trans (GC.out.mono Gh.out));have GE:Hid (w5.ownsRow w2 204 2 (.slice A5 n5 c5) n5 (z0b (l.eraseIdx j))):=hid (by
   rw[List.eraseIdx_eq_take_drop_succ,x2p];exact ho5)
  clear hn5 ho5 hg5 hv5 Gw Gy;go_wp2_with fail
  refine⟨⟨(HG.out _ Gb.out).1.cell 0,(HG.out _ Gb.out).1.cell 1⟩,?_⟩;refine tkG (.agg #[.int .u64 st,.slice A5 n5 c5]) ?_;have Gj:=(HG.out _ Gb.out).2.1;have GM:=Gj.cell 0;have GN:=Gj.cell 1;have GO:=Gj.frozen 0;have GP:=Gj.frozen 1;refine z0c (by rfl) ?_;go_wp2_with fail
  have G3:Blw w ((w5.setCell ⟨w+1,0,none⟩ (.int .u64 st)).setCell ⟨w+1,1,none⟩ (.slice A5 n5 c5)):=((Gk.out.trans (Gb.out.mono Gk.out.size)).setCell (by simp) _).setCell (by simp) _;have GD:=hid G3;have G7:Blk ((w5.setCell ⟨w+1,0,none⟩ (.int .u64 st)).setCell ⟨w+1,1,none⟩ (.slice A5 n5 c5)) (w+1) 87 #[.int .u64 st,.slice A5 n5 c5]:=(Gj.set_ 0 _).set_ 1 _;have Gv:Blk ((w5.setCell ⟨w+1,0,none⟩ (.int .u64 st)).setCell ⟨w+1,1,none⟩ (.slice A5 n5 c5)) w 87 #[.int .u64 st,.slice (some ⟨gb,go,none⟩) n c]:=((HG.out _ Gb.out).1.far (by simp) _).far (by simp) _;have Gp:Hid (((w5.setCell ⟨w+1,0,none⟩ (.int .u64 st)).setCell ⟨w+1,1,none⟩ (.slice A5 n5 c5)).ownsRow w2 204 2 (.slice A5 n5 c5) n5 (z0b (l.eraseIdx j))):=hid (by
   have h2:=Ga.out.size;have h3:=Gg.out.lt;exact ownsRow_setCell_below (ownsRow_setCell_below GE.out (show w.heap.size+1<w2.heap.size by omega) _) (show w.heap.size+1<w2.heap.size by omega) _)
  have c0:=G7.cell 0;have c1:=G7.cell 1;refine⟨⟨Gv.cell 0,Gv.cell 1⟩,?_⟩;clear GM GN GO GP Gj G3 Gv;generalize ((w5.setCell ⟨w+1,0,none⟩ (.int .u64 st)).setCell ⟨w+1,1,none⟩ (.slice A5 n5 c5))=w6 at*;refine tkG (.int .i64 0) ?_;show wpList _ _ _ _ _ _;simp only[List.drop_succ_cons,List.drop_zero];refine NoPanic.normal ?_;go_wp2_with fail
  refine bodyPost_ret (v := .tuple #[.agg #[.int .u64 st,.slice A5 n5 c5],.int .i64 0]) (by simp[results,Tryz.results105,go_sem,c0,c1]) rfl ⟨A5,n5,c5,?_⟩;rw[Gs.out];refine⟨rfl,(z4p Gp.out).1,(z4p Gp.out).2,z0d.of_own Gp.out,.inr (fun ad hA=>?_),GD.out⟩;subst hA;have h1:=Gp.out.lt ad.block rfl;have h2:=Gh.out;have h3:=Gk.out.size;omega
theorem y3c(h:z0d w w.heap.size 2 A n (z0b l))(hn:n<=8)(hc:n<=c/\c<=9223372036854775807)(hst:st<18446744073709551616)(hs:s.size<=9223372036854775807):
  () 107 #[.agg #[st,.slice A n c],.string s] w (x9h w A st (rfT s st l)):=by
 have GY:l.length=n:=by have:=h.1;rw[z0q]at this;omega
 obtain⟨W1,Gp⟩:∃W1,(w.alloc (.cells #[st,.slice A n c] 87)).alloc (.cells #[[()],((),())] 87)=W1:=⟨_,rfl⟩
 have Gc:Blw w W1:=by rw[<- Gp];exact((Below.refl _ _).alloc (nL _) _).alloc (by simp) _
 have Gd:Blk W1 w.heap.size 87 #[st,.slice A n c]:=by rw[<- Gp];exact(Blk.new _ _ _).alloc _
 have Gb:Blk W1 (w.heap.size+1) 87 #[[()],((),())]:=by
  rw[<- Gp];have h1:=Blk.new (w.alloc (.cells #[st,.slice A n c] 87)) 87 #[[()],((),())];rw[show(w.alloc (.cells #[st,.slice A n c] 87)).heap.size=w.heap.size+1 by simp]at h1;exact h1
 have Dx:=hid h;have HL:=hid GY;have Dc:=hid Gc;have Dk:=hid Gp;have Gm:=hid (x3g s hs W1);have HG:Hid (∀W,Blw W1 W->Blk W w.heap.size 87 #[st,.slice A n c]/\Blk W (w.heap.size+1) 87 #[[()],((),())]/\z0d W W.heap.size 2 A n (z0b l)/\Blw w W):=hid (fun W hW=>⟨Gd.below hW Gd.lt,Gb.below hW Gb.lt,(((h.below Gc).more Gc.size).below hW).more hW.size,Gc.trans (hW.mono Gc.size)⟩);have Gz:=hid (z7y st A n c l s W1 ((h.below Gc).more Gc.size) oM);have Dd:=hid hc;have Gk:Hid (∀(w2:World)(k:Nat),Blw W1 w2->rfT s st l=(l,k)->(x9h w A st (rfT s st l)) (.returned (.tuple #[.agg #[st,.slice A n c],[k]])) ((w2.setCell (w.heap.size+1,0) st).setCell (w.heap.size+1,1) (.slice A n c))/\Blk ((w2.setCell (w.heap.size+1,0) st).setCell (w.heap.size+1,1) (.slice A n c)) (w.heap.size+1) 87 #[st,.slice A n c]):=hid (fun w2 k hW hk=>by
  have Gl:Blw w ((w2.setCell (w.heap.size+1,0) st).setCell (w.heap.size+1,1) (.slice A n c)):=((Gc.trans (hW.mono Gc.size)).setCell (by simp) _).setCell (by simp) _;refine⟨⟨A,n,c,?_⟩,((HG.out w2 hW).2.1.set_ 0 _).set_ 1 _⟩;rw[hk];exact⟨rfl,hc.1,hc.2,(h.below Gl).more Gl.size,.inl rfl,Gl⟩)
 have HY:Hid (rfT s st l=if nmOk s=false then (l,15)else if 0<=fndS s 0 l then (l,6)else if l.length=8 then (l,4)else (insN (z1d s,st) l,0)):=hid rfl;generalize rfT s st l=Y at*;obtain⟨fi,GX⟩:∃fi,fndS s 0 l=fi:=⟨_,rfl⟩
 rw[GX]at Gz HY;have k0:=Gd.cell 0;have k1:=Gd.cell 1;have d0:=Gb.cell 0;have d1:=Gb.cell 1;have z0:=Gb.frozen 0;have z1:=Gb.frozen 1;clear h GY Gc Gd Gb Gp GX hc;go_enter Tryz.func107,Tryz.ntmps107
 go_upto_region 1 with fail
 rw[Dk.out];cases hnm:nmOk s with
 |false =>
  rw[hnm]at Gm;have Gf:Hid (Y=(l,15)):=hid (by rw[HY.out,if_pos hnm]);clear HY hnm;go_wp2_with (go_at_call 205;refine Gm.out.mono ?_;rintro e w2⟨rfl,rfl⟩)
  obtain⟨q1,q2⟩:=Gk.out W1 15 (Below.refl _ _) Gf.out;have c0:=q2.cell 0;have c1:=q2.cell 1;exact bodyPost_ret (v := .tuple #[.agg #[st,.slice A n c],.int .i64 15]) (by simp[results,Tryz.results107,go_sem,c0,c1]) rfl q1
 |true =>
  rw[hnm]at Gm;go_upto_region 3 with (go_at_call 205;refine Gm.out.mono ?_;rintro e w2⟨rfl,rfl⟩)
  go_upto_if 17 with (go_at_call 204;refine Gz.out.mono ?_;rintro e w3⟨rfl,Gl⟩;have Ga:=hid Gl;clear Gl)
  obtain⟨Gd,Gb,Da,GV⟩:=HG.out w3 Ga.out;have Dw:=hid Da;have Du:=hid GV;have Dv:=hid Gd;have De:=hid Gb;have e0:=Gd.cell 0;have e1:=Gd.cell 1;have Dy:=Gb.cell 0;have Dz:=Gb.cell 1;have D4:=Gb.frozen 0;have D5:=Gb.frozen 1;have GB:nmOk s≠false:=by rw[hnm];decide
  clear Gd Gb Da GV k0 k1 d0 d1 z0 z1 Gm Gz hnm;by_cases hf:0<=fi
  ·have Gf:Hid (Y=(l,6)):=hid (by rw[HY.out,if_neg GB,if_pos hf])
   obtain⟨q1,q2⟩:=Gk.out w3 6 Ga.out Gf.out;have c0:=q2.cell 0;have c1:=q2.cell 1;have Q1:=hid q1;have GW:decide (0<=fi)=true:=decide_eq_true hf;clear HY q1 q2 Gk;go_wp2_with fail
   exact bodyPost_ret (v := .tuple #[.agg #[st,.slice A n c],.int .i64 6]) (by simp[results,Tryz.results107,go_sem,c0,c1]) rfl Q1.out
  have Dq:fi<0:=oM;have GW:decide (0<=fi)=false:=decide_eq_false hf;by_cases h8:n=8
  ·have Gf:Hid (Y=(l,4)):=hid (by rw[HY.out,if_neg GB,if_neg hf,if_pos (by have:=HL.out;omega)])
   obtain⟨q1,q2⟩:=Gk.out w3 4 Ga.out Gf.out;have c0:=q2.cell 0;have c1:=q2.cell 1;have Q1:=hid q1;have GT:((n:Int)==8)=true:=by rw[beq_iff_eq];omega
   clear HY q1 q2 Gk hf h8;go_wp2_with fail
   exact bodyPost_ret (v := .tuple #[.agg #[st,.slice A n c],.int .i64 4]) (by simp[results,Tryz.results107,go_sem,c0,c1]) rfl Q1.out
  have Gf:Hid (Y=(insN (z1d s,st) l,0)):=hid (by rw[HY.out,if_neg GB,if_neg hf,if_neg (by have:=HL.out;omega)]);have GT:((n:Int)==8)=false:=by rw[beq_eq_false_iff_ne];omega
  have GZ:n<=7:=oM;have Di:Hid (strN (z1d s)=s):=hid (z5o s);have Gj:Hid (TkI (z1d s,st) l 0 false []):=hid (TkI.zero l);have GK:Hid (w3.ownsRow w3.heap.size 204 2 ((),()) 0 (z0b [])):=hid (World.ownsRow_nil _ _ _ _);have GG:Hid (Blw w3 w3):=hid (Below.refl _ _);obtain⟨i0,G7,GD,GE,GF⟩:=info_parts w1h;obtain⟨P,hP⟩:∃P,(z1d s,st)=P:=⟨_,rfl⟩
  have HP:Hid (strN P.1=s/\P.2=st):=hid (by rw[<- hP];exact⟨Di.out,rfl⟩);rw[hP]at Gj Gf;clear HY hf h8 Gk hP;go_wp2_with fail
  clear GW Dq GT;go_loopw [6,7,27] (fun v6 v7 vi wr=>∃(k m c':Nat)(A':Option Addr)(d:Bool)(xs:List (List Nat×Nat)),k<=n/\m<=9/\vi=↑[k]/\v7=↑d/\v6=.slice A' m c'/\Hid (wr.ownsRow w3.heap.size 204 2 (.slice A' m c') m (z0b xs))/\Hid (TkI P l k d xs)/\Hid (Blw w3 wr)) (fun _ _ vi _=>n-(Go.RowKit.intOf vi).toNat)
  case atStart=>exact⟨0,0,0,none,false,[],Nat.zero_le _,oM,rfl,rfl,rfl,GK,Gj,GG⟩
  case round =>
   clear Gj GK GG;obtain⟨k,m,c',A',d,xs,hk,GA,rfl,rfl,rfl,HO,Gi,HB⟩:=hrel;have HM:Hid (m=xs.length):=hid (by
    have h1:=HO.out.1;rw[z0q]at h1;omega)
   have Gu:=hid (HG.out wr (Ga.out.trans (HB.out.mono Ga.out.size)));by_cases Gr:k<n
   ·obtain⟨G9,gb,go,Do,_,f0,f1⟩:=z2a Gu.out.2.2.1 (k:=k) Gr
    subst Do;have G2:Hid (m<=k+1):=hid (by rw[HM.out];exact Gi.out.len_ (by have:=HL.out;omega));have GO:Hid (d=true->TkI P l (k+1) true (xs++[l[k]])):=hid (fun h=>by subst h;exact Gi.out.done_ G9);have GP:Hid (d=false->nmCf P l[k]<0->TkI P l (k+1) true (xs++[P]++[l[k]])):=hid (fun h hc=>by subst h;exact Gi.out.first_ G9 hc);have GQ:Hid (d=false->¬nmCf P l[k]<0->TkI P l (k+1) false (xs++[l[k]])):=hid (fun h hc=>by subst h;exact Gi.out.on_ G9 hc);generalize l[k]=p at*;have Gy:Hid (nmCf P p= -z7z (strN p.1) s):=hid (by
     have h1:=x2a (strN p.1).data.toList s.data.toList;show z7z (strN P.1) (strN p.1)=_;rw[HP.out.1];exact h1)
    obtain⟨pn,pv⟩:=p;dsimp only at f0 f1 Gy;have D2:(0:Int)<=(k:Int):=oM;have D3:(k:Int)<(n:Int):=oM;obtain⟨W4,Gq⟩:∃W4,wr.alloc (.cells #[.string (strN pn),pv] 204)=W4:=⟨_,rfl⟩
    have GU:Blw wr W4:=by rw[<- Gq];exact(Below.refl _ _).alloc (nL _) _
    have G8:Blk W4 wr.heap.size 204 #[.string (strN pn),pv]:=by rw[<- Gq];exact Blk.new _ _ _
    have G3:Hid (W4.ownsRow w3.heap.size 204 2 (.slice A' m c') m (z0b xs)):=hid (by rw[<- Gq];exact HO.out.alloc _);have Gh:Hid (Blw w3 W4):=hid (HB.out.trans (GU.mono HB.out.size));have Dl:=hid Gq;have G1:=hid G8;have GN:Hid (∀g,(Value.slice A' m c').ownBlock=some g->g<wr.heap.size):=hid (fun g hg=>(HO.out.lt g hg).2);have g0:W4.cell? (wr,0)=some (.string (strN pn)):=G8.cell 0;obtain⟨Gg,Gs,_,_⟩:=HG.out W4 (Ga.out.trans (Gh.out.mono Ga.out.size));have b0:W4.cell? (w,0)=some ↑st:=Gg.cell 0;clear Gq GU G8 Gg Gs Gu Gi;go_upto_region 12 with fail
    rw[Dl.out];go_cut [38]from 31 to 38 (fun v wx=>∃g:Bool,v=↑g/\Hid (g=(!d&&decide (nmCf P (pn,pv)<0)))/\Hid (W4=wx))
    case first =>
     cases d
     case true =>
      go_wp2_with fail
      go_meet;exact⟨false,rfl,hid rfl,hid rfl⟩
     case false =>
      obtain⟨q1,q2⟩:=v0x (strN pn) s;have G6:=Gy.out;by_cases h1:z7z (strN pn) s<0
      ·rw[decide_eq_true h1]at q1
       rw[dF]at q2;have HR:Hid (decide (nmCf P (pn,pv)<0)=false):=hid (dF);clear G6;go_wp2_with fail
       go_meet;exact⟨_,rfl,hid (by rw[HR.out];rfl),hid rfl⟩
      ·by_cases h2:z7z (strN pn) s=0
       ·rw[decide_eq_false h1]at q1
        rw[decide_eq_true h2]at q2;have HR:Hid (decide (nmCf P (pn,pv)<0)=false):=hid (dF);clear G6 h2;go_wp2_with fail
        go_meet;exact⟨_,rfl,hid (by rw[HR.out];rfl),hid rfl⟩
       ·rw[decide_eq_false h1]at q1
        rw[decide_eq_false h2]at q2;have HR:Hid (decide (nmCf P (pn,pv)<0)=true):=hid (dT);clear G6 h2;go_wp2_with fail
        go_meet;exact⟨_,rfl,hid (by rw[HR.out];rfl),hid rfl⟩
    case rest =>
    obtain⟨g,rfl,G0,Db⟩:=hcut;have GC:=Db.out;subst GC;clear Db Gy;have D0:k<=6:=oM;go_upto_if 38 with fail
    go_cut [6,7]from 39 to 45 (fun v6 v7 wx=>∃(m1 c1:Nat)(A1:Option Addr)(d1:Bool)(Gt:List (List Nat×Nat)),m1<=k+2/\v7=↑d1/\v6=.slice A1 m1 c1/\Hid (wx.ownsRow w3.heap.size 204 2 (.slice A1 m1 c1) m1 (z0b Gt))/\Hid (TkI P l (k+1) d1 (Gt++[(pn,pv)]))/\Hid (Blw w3 wx)/\Hid (Blk wx wr.heap.size 204 #[.string (strN pn),pv]))
    case first =>
     cases g
     case false =>
      go_wp2_with fail
      go_meet;refine⟨m,c',A',d,xs,by have:=G2.out;omega,rfl,rfl,G3,hid ?_,Gh,G1⟩;cases d
      ·have h1:=G0.out
       rw[Bool.not_false,Bool.true_and]at h1;exact GQ.out rfl (Int.not_lt.1 (of_decide_eq_false h1.symm))
      ·exact GO.out rfl
     case true =>
      have D1:=G2.out;obtain⟨Gg,Gs,_,_⟩:=HG.out W4 (Ga.out.trans (Gh.out.mono Ga.out.size));have b0:W4.cell? (w,0)=some ↑st:=Gg.cell 0;clear Gg Gs;go_wp2_with (at_builtin;refine stop ?_)
      unfold Stop;have Gn:=hid (z0j W4 _ rfl [.string s,st] 1 2 204 _ rfl rfl);refine z0m _ (.tmp 39) (.tmp 44) 85 rfl rfl w3.heap.size 204 i0 _ 2 24 Tryz.underlying85 G7 GD GE GF rfl oM (.slice A' m c') m (z0b xs) rfl (G3.out.alloc _) (W4.heap.size+1) (some (W4,0)) 1 1 [.string s,st] rfl Gn.out (fun u hu=>by simp at hu;rcases hu with rfl|rfl<;>rfl) (by unfold maxLen;omega) oM (by have:=Gh.out.size;simp;omega) ?_;intro A5 n5 c5 w5 hn5 ho5 hg5 hb5;have Gw:=hid ((Gh.out.alloc Gh.out.size _).trans hb5);have Df:Hid (Blk w5 wr.heap.size 204 #[.string (strN pn),pv]):=hid ((G1.out.alloc _).grown hg5 (fun e=>by have:=GN.out _ e.symm;omega));have G4:Hid (w5.ownsRow w3.heap.size 204 2 (.slice A5 n5 c5) n5 (z0b (xs++[P]))):=hid (by
       rw[z2t,HP.out.1,HP.out.2];exact ho5)
      have Dh:Hid (n5<=k+2):=hid oM;clear hn5 ho5 hg5 hb5 b0;go_wp2_with fail
      go_meet;refine⟨n5,c5,A5,true,xs++[P],Dh.out,rfl,rfl,G4,hid ?_,Gw,Df⟩;have h1:=G0.out.symm;rw[Bool.and_eq_true]at h1;exact GP.out (by simpa using h1.1) (of_decide_eq_true h1.2)
    case rest =>
    obtain⟨m1,c1,A1,d1,Gt,Dr,rfl,rfl,Dj,GR,Gx,GI⟩:=hcut;obtain⟨w6,Ds⟩:∃z,z=wc:=⟨_,rfl⟩
    subst Ds;have Dm:=GI.out.cell 0;have Dn:=GI.out.cell 1;clear G3 Gh G1 GO GP GQ G0 GN g0 b0 HO HB HM G2 f0 f1 GA;go_wp2_with (at_builtin;refine stop ?_)
    unfold Stop;have Gn:=hid (z0j w6 _ rfl [.string (strN pn),pv] 1 2 204 _ rfl rfl);refine z0m _ (.tmp 46) (.tmp 48) 85 rfl rfl w3.heap.size 204 i0 _ 2 24 Tryz.underlying85 G7 GD GE GF rfl oM (.slice A1 m1 c1) m1 (z0b Gt) rfl (Dj.out.alloc _) (w6.heap.size+1) (some (w6,0)) 1 1 [.string (strN pn),pv] rfl Gn.out (fun u hu=>by simp at hu;rcases hu with rfl|rfl<;>rfl) (by unfold maxLen;omega) oM (by have:=Gx.out.size;simp;omega) ?_;intro A7 n7 c7 w7 GZ ho7 hg7 hb7;have GH:=hid ((Gx.out.alloc Gx.out.size _).trans hb7);have GL:Hid (w7.ownsRow w3.heap.size 204 2 (.slice A7 n7 c7) n7 (z0b (Gt++[(pn,pv)]))):=hid (by
     rw[z2t];exact ho7)
    have GJ:Hid (n7<=9):=hid oM;clear GZ ho7 hg7 hb7 Dm Dn Dr;go_wp2_with fail
    go_roundw
    case rel =>
     first
      |exact⟨k+1,n7,_,_,_,_,oM,GJ.out,by go_num,rfl,rfl,GL,GR,GH⟩
      |(
        repeat apply Exists.intro
        refine⟨?_,rfl⟩;exact⟨k+1,n7,_,_,_,_,oM,GJ.out,by go_num,rfl,rfl,GL,GR,GH⟩)
    case measure=>simp[Go.RowKit.intOf];omega
   ·obtain rfl:k=n:=oM
    have Dt:Hid (Blw W1 wr):=hid (Ga.out.trans (HB.out.mono Ga.out.size));have GS:Hid (TkI P l l.length d xs):=hid (by rw[HL.out];exact Gi.out);obtain⟨Gg,Gs,_,_⟩:=Gu.out;have b0:wr.cell? (w,0)=some ↑st:=Gg.cell 0;have Dg:Hid (m<=9):=hid GA;clear Gu Gg Gs Gr hk Gi;have Ge:Hid (∀(wz:World)(A9:Option Addr)(n9 c9:Nat)(zs:List (List Nat×Nat)),Blw w3 wz->wz.ownsRow w3.heap.size 204 2 (.slice A9 n9 c9) n9 (z0b zs)->insN P l=zs->x9h w A st Y (.returned (.tuple #[.agg #[st,.slice A9 n9 c9],()])) ((wz.setCell (w.heap.size+1,0) st).setCell (w.heap.size+1,1) (.slice A9 n9 c9))/\Blk wz (w.heap.size+1) 87 #[[()],((),())]/\wz.cell? (w,0)=some ↑st/\Blk ((wz.setCell (w.heap.size+1,0) st).setCell (w.heap.size+1,1) (.slice A9 n9 c9)) (w.heap.size+1) 87 #[st,.slice A9 n9 c9]):=hid (fun wz A9 n9 c9 zs hz ho he=>by
     obtain⟨q1,q2,_,q4⟩:=HG.out wz (Ga.out.trans (hz.mono Ga.out.size));have h3:=Dc.out.size;have h4:=Ga.out.size;have h5:=De.out.lt;have Gr:w.heap.size+1<w3.heap.size:=h5;have Dp:Blw w ((wz.setCell (w.heap.size+1,0) st).setCell (w.heap.size+1,1) (.slice A9 n9 c9)):=(q4.setCell (by simp) _).setCell (by simp) _;have Gv:=ownsRow_setCell_below (ownsRow_setCell_below ho (a:=⟨w.heap.size+1,0,none⟩) Gr st) (a:=⟨w.heap.size+1,1,none⟩) Gr (.slice A9 n9 c9);refine⟨⟨A9,n9,c9,?_⟩,q2,q1.cell 0,(q2.set_ 0 _).set_ 1 _⟩;rw[Gf.out,he];refine⟨rfl,(z4p Gv).1,(z4p Gv).2,z0d.of_own Gv,.inr (fun ad hA=>?_),Dp⟩;subst hA;have h1:=Gv.lt ad.block rfl;omega)
    have GM:=hid HO.out;go_upto_region 17 with fail
    cases d
    case true =>
     obtain⟨Q1,q2,q3,q4⟩:=Ge.out wr A' m c' xs HB.out GM.out GS.out.end_;have G5:=hid Q1;have d0:=q2.cell 0;have d1:=q2.cell 1;have z0:=q2.frozen 0;have z1:=q2.frozen 1;have c0:=q4.cell 0;have c1:=q4.cell 1;clear Q1 q2 q4 Ge;go_wp2_with fail
     exact bodyPost_ret (v := .tuple #[.agg #[st,.slice A' m c'],()]) (by simp[results,Tryz.results107,go_sem,c0,c1]) rfl G5.out
    case false =>
     have GA:=Dg.out;go_wp2_with (at_builtin;refine stop ?_)
     unfold Stop;have Gn:=hid (z0j wr _ rfl [.string s,st] 1 2 204 _ rfl rfl);refine z0m _ (.tmp 53) (.tmp 58) 85 rfl rfl w3.heap.size 204 i0 _ 2 24 Tryz.underlying85 G7 GD GE GF rfl oM (.slice A' m c') m (z0b xs) rfl (GM.out.alloc _) (wr.heap.size+1) (some (wr,0)) 1 1 [.string s,st] rfl Gn.out (fun u hu=>by simp at hu;rcases hu with rfl|rfl<;>rfl) (by unfold maxLen;omega) oM (by have:=HB.out.size;simp;omega) ?_;intro A5 n5 c5 w5 hn5 ho5 hg5 hb5;have Gw:=hid ((HB.out.alloc HB.out.size _).trans hb5);have G4:Hid (w5.ownsRow w3.heap.size 204 2 (.slice A5 n5 c5) n5 (z0b (xs++[P]))):=hid (by
      rw[z2t,HP.out.1,HP.out.2];exact ho5)
     clear hn5 ho5 hg5 hb5 b0;obtain⟨Q1,q2,q3,q4⟩:=Ge.out w5 A5 n5 c5 (xs++[P]) Gw.out G4.out GS.out.last_;have G5:=hid Q1;have d0:=q2.cell 0;have d1:=q2.cell 1;have z0:=q2.frozen 0;have z1:=q2.frozen 1;have c0:=q4.cell 0;have c1:=q4.cell 1;clear Q1 q2 q4 Ge;go_wp2_with fail
     exact bodyPost_ret (v := .tuple #[.agg #[st,.slice A5 n5 c5],()]) (by simp[results,Tryz.results107,go_sem,c0,c1]) rfl G5.out
end
end
section
open Go.RowKit Go.Maps
section
variable{B G:Nat}{bs:List Nat}{a:DA}{x:HA}{y:WA}{q gr T N st:Nat}{l rl:List (List Nat×Nat)}{w w':World}
theorem z0u{n}(hb:Below n w w')(hs:∀g∈bs,g<n):z1i bs w w':=fun g hg=>hb.block g (hs g hg)
def w3t(B:Nat)(bs:List Nat)(A:Option Addr)(a:DA)(x:HA)(y:WA)(q gr T N st:Nat)(w:World)(e:Ending)(w':World):Prop :=
 ∃(A':Option Addr)(n' c' st':Nat)(l' rl':List (List Nat×Nat))(bs':List Nat),e=.returned (.tuple #[.agg #[st',.slice A' n' c'],true])/\Hid (st'<=st+1/\RgX B bs' a x y q gr (T+800) N st' l' w'/\RLk l' rl'/\RlIn bs' A' n' c' rl' w'/\(∀g∈bs,g∈bs')/\Below B w w'/\z1i bs w w'/\(A'=A\/∀ad,A'=some ad->w<=ad.block))
theorem w9s(h:RgX B bs a x y q gr T N st l w)(hs:y7r B x y gr G)(hG:G<=w.heap.size)(hrl:RLk l rl) A n c (hr:RlIn bs A n c rl w) kd nm (hkd:kd<256) (h0:kd%4=0) (hst:st<1000) (hT:T+800<=1000000000) (hN:N<=1000000000) :
  () 30 #[(gr,0),(58,y.d,0),.agg #[st,.slice A n c],.agg #[[[kd]],.string nm]] w (w3t B bs A a x y q gr T N st w):=by
 obtain⟨W1,Gh⟩:∃W1,((w.alloc (.cells #[st,.slice A n c] 87)).alloc (.cells #[[[kd]],.string nm] 79)).alloc (.cells #[[()],((),())] 87)=W1:=⟨_,rfl⟩
 have Gv:Blw w W1:=by rw[<- Gh];exact(((Below.refl _ _).alloc (nL _) _).alloc (by simp) _).alloc (by simp;omega) _
 have Gb:Blk W1 w 87 #[st,.slice A n c]:=by rw[<- Gh];exact((Blk.new _ _ _).alloc _).alloc _
 have Gi:Blk W1 (w.heap.size+1) 79 #[[[kd]],.string nm]:=by
  rw[<- Gh];refine Blk.alloc ?_ _;have h1:=Blk.new (w.alloc (.cells #[st,.slice A n c] 87)) 79 #[[[kd]],.string nm];rw[show(w.alloc (.cells #[st,.slice A n c] 87)).heap.size=w.heap.size+1 by simp]at h1;exact h1
 have G8:Blk W1 (w.heap.size+2) 87 #[[()],((),())]:=by
  rw[<- Gh];have h1:=Blk.new ((w.alloc (.cells #[st,.slice A n c] 87)).alloc (.cells #[[[kd]],.string nm] 79)) 87 #[[()],((),())];rw[show((w.alloc (.cells #[st,.slice A n c] 87)).alloc (.cells #[[[kd]],.string nm] 79)).heap.size=w.heap.size+2 by simp]at h1;exact h1
 have HX:=hid h;have GG:=hid hr;have GE:=hid hrl;have Gp:=hid Gv;have GI:=hid Gh;have Gs:=hid Gb;have G0:=hid G8;have HT:=hid (And.intro hT hN);have G3:=hid hs;have Gy:=hid hG;have G2:Hid (() 97 #[(gr,0),(58,y.d,0)] W1 fun e w'=>(∃g:Nat,W1.heap.size<=g/\e=.returned (.tuple #[(st+1:Nat),(g,0,1,1)])/\Blk w' g 117 #[(pOff q),(st+1:Nat)])/\Blw W1 w'):=hid (by
  have h1:=(h.below Gv).rgW.next_;rw[if_neg oM]at h1;exact h1)
 have GT:=Gi.cell 0;have e0:((kd:Int)%4==0)=true:=by rw[beq_iff_eq];omega
 have hw:IntKind.u64.wrap ((st:Int)+1)=(st:Int)+1:=by rw[IntKind.wrap_u64];omega
 clear h hrl hr Gv Gb Gi G8 Gh hT hN hs hG;go_enter Tryz.func30,Tryz.ntmps30
 go_upto_region 1 with fail
 rw[GI.out];go_upto_region 4 with (go_at_call 97;refine G2.out.mono ?_;rintro e w4⟨⟨gn,G7,rfl,G9⟩,hb4⟩;have G1:=hid G9;have Gz:=hid G7;have Gj:=hid hb4;clear G9 G7 hb4)
 have GJ:=hid (HX.out.below (Gp.out.trans (Gj.out.mono Gp.out.size)));have Gk:=hid (Gp.out.trans (Gj.out.mono Gp.out.size));have Gb:=Gs.out.below Gj.out Gs.out.lt;have Gl:=hid Gb;have Gm:=hid (G0.out.below Gj.out G0.out.lt);have GN:=Gb.cell 0;have GO:=Gb.cell 1;have GU:=Gb.frozen 0;clear Gb GT G2;go_upto_region 5 with fail
 have Gw:Blw w (w4.setCell (w,0) (.int .u64 ((st:Int)+1))).drew:=(Gk.out.setCell (nL _) _).drew;have Gq:=hid Gw;have Gc:Hid (Blk (w4.setCell (w,0) (.int .u64 ((st:Int)+1))).drew w 87 #[.int .u64 ((st:Int)+1),.slice A n c]):=hid (Gl.out.set_ 0 _).drew;have Gn:Hid (Blk (w4.setCell (w,0) (.int .u64 ((st:Int)+1))).drew (w.heap.size+2) 87 #[[()],((),())]):=hid (Gm.out.far (by simp) _).drew;have Gu:Hid (Blk (w4.setCell (w,0) (.int .u64 ((st:Int)+1))).drew gn 117 #[(pOff q),(st+1:Nat)]):=hid (G1.out.far (by
  show gn≠w.heap.size;have h1:=Gs.out.lt;have h2:=Gz.out;omega) _).drew
 have GH:Hid (w.heap.size+2<(w4.setCell (w,0) (.int .u64 ((st:Int)+1))).drew.heap.size):=hid Gn.out.lt;have GK:Hid (RgX B ([w.heap.size,w.heap.size+1,w.heap.size+2]++bs) a x y q gr T N st l (w4.setCell (w,0) (.int .u64 ((st:Int)+1))).drew):=hid (HX.out.news Gw _ (fun g hg=>by
  have h1:=GH.out;simp at hg;omega))
 clear Gw G1 Gl Gm GJ Gk Gj Gz GN GO GU;have GD:Hid (w4.setCell (w,0) (.int .u64 ((st:Int)+1))=w4.setCell (w,0) (.int .u64 ((st:Int)+1))):=hid rfl;refine z0e (fun w'=>w'.cell? (w,0)=some (.int .u64 ((st:Int)+1))/\w'.cell? (w,1)=some (.slice A n c)) 18 [] [(1,0),(1,1),(1,2),(1,3),(1,4),(1,5),(1,6),(1,7),(1,8),(1,9),(1,10),(1,11),(1,12),(0,13),(1,14),(1,15),(0,16),(1,17)] (by kernel_rfl) (by kernel_rfl) ⟨Gc.out.cell 0,Gc.out.cell 1⟩ ?_;generalize (w4.setCell (w,0) (.int .u64 ((st:Int)+1))).drew=w5 at*;clear GD;have GF:=hid (GK.out.pubNext oM Gu.out HT.out.1 HT.out.2);refine tkH (.agg #[.int .u64 ((st:Int)+1),.slice A n c]) (fun w' hS=>?_) ?_
 ·obtain⟨s0,s1⟩:=hS
  go_simp
 refine tkG (.int .u64 ((st:Int)+1)) ?_;refine tkG (w,0) ?_;refine tkH (.int .u64 ((st:Int)+1)) (fun w' hS=>?_) ?_
 ·obtain⟨s0,s1⟩:=hS
  go_simp
 refine tkG true ?_;refine tkG true ?_;refine tkG (gn,0,1,1) ?_;refine tkG (.int .i64 1) ?_;refine tkG true ?_;refine tkG true ?_;refine tkG true ?_;refine tkG (58,y.d,0) ?_;refine tkG (gn,0,1,1) ?_;have hm:=z6h (some (y.d,0));have GR:=z8g (y.d,0);refine z0c (by rfl) ?_;go_wp2_with (go_at_call 99;refine GF.out.mono ?_;rintro e w6⟨rfl,GB,G5,Gb⟩;have GL:=hid GB;have Gx:=hid G5;have Ge:=hid Gb;clear GB G5 Gb)
 have Gd:=hid (Ge.out.blk Gc.out (by simp));have Ga:=Ge.out.blk Gn.out (by simp);have Gt:=hid Ga;refine⟨⟨Gd.out.cell 0,Gd.out.cell 1⟩,?_⟩;refine tkG true ?_;refine tkG true ?_;have GP:=Ga.cell 0;have GQ:=Ga.cell 1;have GV:=Ga.frozen 0;have GW:=Ga.frozen 1;clear Ga hm GR;refine z0c (by rfl) ?_;go_wp2_with fail
 have GC:RgX B ([w.heap.size,w.heap.size+1,w.heap.size+2]++bs) a x y q gr (T+800) N (st+1) l ((w6.setCell (w.heap.size+2,0) (.int .u64 ((st:Int)+1))).setCell (w.heap.size+2,1) (.slice A n c)):=(GL.out.setCell G3.out (by show G<=w.heap.size+2;have:=Gy.out;omega) (by simp) _).setCell G3.out (by show G<=w.heap.size+2;have:=Gy.out;omega) (by simp) _;have Gi:Blk ((w6.setCell (w.heap.size+2,0) (.int .u64 ((st:Int)+1))).setCell (w.heap.size+2,1) (.slice A n c)) (w.heap.size+2) 87 #[.int .u64 ((st:Int)+1),.slice A n c]:=(Gt.out.set_ 0 _).set_ 1 _;have Gf:Blk ((w6.setCell (w.heap.size+2,0) (.int .u64 ((st:Int)+1))).setCell (w.heap.size+2,1) (.slice A n c)) w 87 #[.int .u64 ((st:Int)+1),.slice A n c]:=(Gd.out.far (by simp) _).far (by simp) _;have G6:Below w w6 ((w6.setCell (w.heap.size+2,0) (.int .u64 ((st:Int)+1))).setCell (w.heap.size+2,1) (.slice A n c)):=((Below.refl _ _).setCell (by simp) _).setCell (by simp) _;have GM:=hid GC;have Gr:=hid G6;have d0:=Gi.cell 0;have d1:=Gi.cell 1;refine⟨⟨Gf.cell 0,Gf.cell 1⟩,?_⟩;clear GC Gi Gf G6 GP GQ GV GW;generalize ((w6.setCell (w.heap.size+2,0) (.int .u64 ((st:Int)+1))).setCell (w.heap.size+2,1) (.slice A n c))=w7 at*;refine tkG true ?_;show wpList _ _ _ _ _ _;simp only[List.drop_succ_cons,List.drop_zero];refine NoPanic.normal ?_;go_wp2_with fail
 have Gg:∀g∈bs,g∈([w.heap.size,w.heap.size+1,w.heap.size+2]++bs):=fun g hg=>List.mem_append_right _ hg
 have GA:z1i bs w w7:=((z0u Gq.out HX.out.lts).trans (Ge.out.less Gg)).trans (z0u Gr.out HX.out.lts);have GS:w.heap.size<=w7.heap.size:=Nat.le_trans Gq.out.size (Nat.le_trans Gx.out.size Gr.out.size);have G4:B<=w.heap.size:=HX.out.rgW.size;refine bodyPost_ret (v := .tuple #[.agg #[.int .u64 ((st:Int)+1),.slice A n c],true]) (by simp[results,Tryz.results30,go_sem,d0,d1]) rfl ⟨A,n,c,st+1,l,rl,_,rfl,hid ⟨nL _,GM.out,GE.out,(GG.out.kept GA GS).more Gg,Gg,(Gq.out.mono G4).trans (Gx.out.trans (Gr.out.mono G4)),GA,.inl rfl⟩⟩
end
end
end Go.Proofs.YtmhbokcccjmfgaaGreatDoor
