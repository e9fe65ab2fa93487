/- part 22 -/
import Derived.Test.YtmhbokcccjmfgaaGreatDoorQau
import Derived.Shelf.SlSortCmp.NoneTotal
import Derived.Ground.SlsfProg
set_option maxRecDepth 100000
set_option maxHeartbeats 16000000
namespace Go.Proofs.YtmhbokcccjmfgaaGreatDoor
open Go.Lib (hid)
section
open Go.RowKit Go.Maps
def At(s K:Nat)(cs:Nat->CS)(q k i:Nat):Prop:=k<K/\(cs k).dv=true/\i<perC (cs k).cl/\pOff q=offO s cs k i
structure Fr(s K:Nat)(cs:Nat->CS)(f:Nat->Option Nat)(cur:Nat->Nat)(cs':Nat->CS)(f':Nat->Option Nat)(cur':Nat->Nat):Prop where
 head:∀i,i<8*s->cur' i=cur i
 chunk:∀k,k<K->(cs k).dv=true->cs' k=cs k
 map:∀o,f o≠none->f' o=f o
 held:∀k i,k<K->(cs k).dv=true->i<perC (cs k).cl->¬Vac s K cs f (cs k).cl k i->∀j,j<payW (cs k).cl->cur' (8*(s+32*k)+offB (cs k).cl i+1+j)=cur (8*(s+32*k)+offB (cs k).cl i+1+j)
 neu:∀k i,k<K->(cs k).dv=false->(cs' k).dv=true->((cs' k).bs i).st≠177
section
variable{s K:Nat}{cs cs' cs2:Nat->CS}{f f' f2:Nat->Option Nat}{cur cur' cur2:Nat->Nat}
theorem At.lines{q k i}(h:At s K cs q k i):pOff q/8=8*(s+32*k)+offB (cs k).cl i+1/\pOff q%8=0:=by
 obtain⟨_,_,_,h4⟩:=h;unfold offO blkO at h4;omega
theorem y9y{k i k' i' j j'}(hi:i<perC (cs k).cl)(hi':i'<perC (cs k').cl)(hj:j<payW (cs k).cl)(hj':j'<payW (cs k').cl)(hne:¬(k=k'/\i=i')):8*(s+32*k)+offB (cs k).cl i+1+j≠8*(s+32*k')+offB (cs k').cl i'+1+j':=fun e=>by
 have a1:=off_lt hi;have a2:=off_lt hi';have a3:=z2y (cs k).cl i;have a4:=z2y (cs k').cl i';have hk:k=k':=oM;subst hk;have Ga:i≠i':=fun h=>hne ⟨rfl,h⟩
 unfold offB at e;rcases Nat.lt_or_gt_of_ne Ga with h|h
 ·have:(i+1)*(payW (cs k).cl+1)<=i'*(payW (cs k).cl+1):=Nat.mul_le_mul_right _ h
  rw[Nat.add_mul,Nat.one_mul]at this;omega
 ·have:(i'+1)*(payW (cs k).cl+1)<=i*(payW (cs k).cl+1):=Nat.mul_le_mul_right _ h
  rw[Nat.add_mul,Nat.one_mul]at this;omega
def v1v(s K:Nat)(cs:Nat->CS)(f:Nat->Option Nat)(q:Nat):Prop:=∀k i,At s K cs q k i->Vac s K cs f (cs k).cl k i
def InC(s K:Nat)(cs:Nat->CS)(q cl:Nat):Prop:=∃k i,At s K cs q k i/\(cs k).cl=cl/\((cs k).bs i).gen=pGen q
structure Rq(s K:Nat)(cs:Nat->CS)(f:Nat->Option Nat)(kind q cl:Nat):Prop where
 keep:y7p s K cs f q
 cls:InC s K cs q cl
 kind_:z2h q=kind
 top:q/72057594037927936=0
end
section
variable{a:DA}{L T s n K:Nat}{x:HA}{cs:Nat->CS}{f:Nat->Option Nat}{N m b0:Nat}{S:Fp}{cur:Nat->Nat}{w:World}
theorem Fr.alloc{cl k i v cs' cur'}(hd:DS a L T s n K x cs f N m b0 S cur w)(hcl:cl<5)(ho:y5k s K cs f cur cl cs' cur' k i):Fr s K cs f cur cs' (updF f (offO s cs' k i) (some v)) cur':=by
 obtain⟨v1,v2,v3,v4,v5,v6⟩:=ho.vac;have Ga:∀o,f o≠none->updF f (offO s cs' k i) (some v) o=f o:=fun o h=>by
  unfold updF;rw[if_neg (fun e=>h (by rw[e];exact v6))]
 have hz:∀(c:Nat->Nat)(n:Nat),(∀j,j<payW cl->n≠8*(s+32*k)+offB cl i+1+j)->wrS c (zerW (offO s cs' k i) (payW cl)) n=c n:=fun c n hn=>z1s _ _ _ (fun e he=>by
  obtain⟨q,hq,rfl⟩:=z5t he;have:offO s cs' k i=blkO (s+32*k) cl i:=by unfold offO;rw[v3]
  show(offO s cs' k i+8*q)/8≠n;rw[this];have:=hn q hq;unfold blkO;omega)
 rcases ho.how with ⟨rfl,hc⟩|⟨k0,hk0,hd0,hno,rfl,hc⟩
 ·refine⟨fun j hj=>?_,fun _ _ _=>rfl,Ga,fun k2 i2 hk hdv hi hn j hj=>?_,fun _ _ _ h1 h2=>absurd (h1.symm.trans h2) (by simp)⟩
  ·rw[hc];exact hz _ _ (fun q hq=>oM)
  ·rw[hc]
   refine hz _ _ (fun q hq=>?_);rw[<- v3]at hq⊢;refine y9y hi (by rw[v3];exact v4) hj hq (fun⟨e1,e2⟩=>?_);subst e1 e2;exact hn ⟨v1,v2,rfl,by rw[v3];exact v4,v5,v6⟩
 ·have Gb:=hd.ok k0 hk0
  unfold CSok at Gb;rw[hd0]at Gb;have e1:∀j,j≠k0->updC cs k0 (newC cl (cs k0).g) j=cs j:=fun j hj=>by unfold updC;rw[if_neg hj]
  have Gc:∀j,(cs j).dv=true->j≠k0:=fun j hj e=>by rw[e,hd0]at hj;cases hj
  refine⟨fun j hj=>?_,fun k2 hk hdv=>e1 k2 (Gc k2 hdv),Ga,fun k2 i2 hk hdv hi hn j hj=>?_,fun k2 i2 hk h1 h2=>?_⟩
  ·rw[hc,hz _ _ (fun q hq=>oM)]
   exact y0z hcl Gb.2.2 (.inl oM)
  ·have Gd:=Gc k2 hdv
   have a1:=off_lt hi;have a2:=z2y (cs k2).cl i2;rw[hc,hz _ _ (fun q hq=>?_)]
   ·exact y0z hcl Gb.2.2 oM
   ·have e2:=e1 k2 Gd
    have Ge:q<payW (updC cs k0 (newC cl (cs k0).g) k).cl:=by rw[v3];exact hq
    have h4:=y9y (s:=s) (cs:=updC cs k0 (newC cl (cs k0).g)) (k:=k2) (i:=i2) (k':=k) (i':=i) (j:=j) (j':=q) (by rw[e2];exact hi) (by rw[v3];exact v4) (by rw[e2];exact hj) Ge (fun⟨q1,q2⟩=>by
     subst q1 q2;exact hn ⟨hk,hdv,rfl,hi,by rw[<- e2];exact v5,by unfold offO;rw[<- e2];exact v6⟩)
    rw[e2,v3]at h4;exact h4
  ·by_cases e:k2=k0
   ·subst e
    unfold updC;rw[if_pos rfl];show(176:Nat)≠177;omega
   ·rw[e1 k2 e,h1]at h2
    cases h2
theorem Rq.new{cl k i kind T' N' m' cs' cur' f' S' w'}(hd:DS a L T' s n K x cs' f' N' m' b0 S' cur' w')(hk:0<kind/\kind<128)(ho:y5k s K cs f cur cl cs' cur' k i)(hf:f'=updF f (offO s cs' k i) (some (fptr s cs' kind k i))):
  Rq s K cs' f' kind (fptr s cs' kind k i) cl/\At s K cs' (fptr s cs' kind k i) k i:=by
 obtain⟨v1,v2,v3,v4,v5,v6⟩:=ho.vac;have hC:=hd.chw v1 v2;have hL:=hd.hL;have Gf:=hd.line v1;have hi:i<perC (cs' k).cl:=by rw[v3];exact v4
 have Gg:=off_lt hi;have Gb:=(hC.inn i hi).g;have Ga:=hC.good i hi;have Ge:0<((cs' k).bs i).gen:=by unfold BK.good at Ga;rw[if_pos v5]at Ga;simp at Ga;omega
 have hO:offO s cs' k i<34359738368/\offO s cs' k i%8=0:=by unfold offO blkO;omega
 have hp:pOff (fptr s cs' kind k i)=offO s cs' k i:=x3a hO.2 hO.1;have Gc:At s K cs' (fptr s cs' kind k i) k i:=⟨v1,v2,hi,hp⟩
 have Gd:z2h (fptr s cs' kind k i)=kind:=w6l hO.1 Gb oM;refine⟨⟨⟨⟨k,i,v1,v2,hi,hp,v5⟩,?_,by rw[Gd];exact hk,w8i Ge,(w2g hO.1 Gb hk.2).1⟩,⟨k,i,Gc,v3,(v1b hO.1 Gb).symm⟩,Gd,(w2g hO.1 Gb hk.2).2⟩,Gc⟩;rw[hf,hp];unfold updF;rw[if_pos rfl]
end
def alW(n:Nat)(al:List Nat):Nat->List Nat
 |0=>al
 |j+1=>z3h (w9e (n-456*j))::alW n al j
structure W1(s K:Nat)(cs0:Nat->CS)(f0:Nat->Option Nat)(cur0:Nat->Nat)(al:List Nat)(n:Nat)(cs:Nat->CS)(f:Nat->Option Nat)(cur:Nat->Nat)(bl:List Nat):Prop where
 fr:Fr s K cs0 f0 cur0 cs f cur
 cap:Cap s K cs f (alW n al bl.length)
 rq:∀j (h:j<bl.length),Rq s K cs f 1 bl[j] (z3h (w9e (n-456*j)))
 nd:(bl.map pOff).Nodup
 fresh:∀q∈bl,v1v s K cs0 f0 q
 fo:∀o,o∉bl.map pOff->f o=f0 o
section
variable{a:DA}{L T s n K:Nat}{x:HA}{cs cs0:Nat->CS}{f f0:Nat->Option Nat}{N m b0:Nat}{S:Fp}{cur cur0:Nat->Nat}{w:World}
end
structure W2(s K:Nat)(cs0:Nat->CS)(f0:Nat->Option Nat)(cur0:Nat->Nat)(al:List Nat)(p:List Nat)(cs:Nat->CS)(f:Nat->Option Nat)(cur:Nat->Nat)(bl:List Nat)(i:Nat):Prop where
 w1:W1 s K cs0 f0 cur0 al p.length cs f cur bl
 words:∀j (h:j<bl.length),j<i->z2l cur bl[j] (payL (bl.getD (j+1) 0) (p.drop (456*j)))
end
section
open Go.RowKit Go.Maps Go.Shelf Go.Sort
def z7s(x:List Nat×Nat):List Value:=[.string (strN x.1),x.2]
theorem w0t(l:List (List Nat×Nat)):flatK z7s 2 l.toArray=(z0b l).toArray:=by
 apply Array.ext
 ·rw[size_flatK,List.size_toArray,List.size_toArray,z0q]
 ·intro t h1 h2
  rw[size_flatK,List.size_toArray]at h1;have h3:=get_flatK z7s 2 l.toArray t (by rw[List.size_toArray];exact h1);have hq:t/2<l.length:=oM;have h4:=z6v l (t/2) (t%2) hq (Nat.mod_lt _ (by decide));rw[show t/2*2+t%2=t by omega]at h4;have e1:l.toArray[t/2]! =l[t/2]:=by
   rw[getElem!_pos l.toArray (t/2) (by rw[List.size_toArray];exact hq)];rfl
  rw[e1]at h3;rw[<- getElem!_pos (flatK z7s 2 l.toArray) t (by rw[size_flatK,List.size_toArray];exact h1),h3];have h5:((z0b l).toArray)[t]=(z0b l)[t]'(by rw[z0q];omega):=rfl;rw[h5];apply Option.some.inj;rw[<- List.getElem?_eq_getElem,h4];have hm:t%2<2:=Nat.mod_lt _ (by decide);show some (z7s l[t/2])[t%2]! =(z7s l[t/2])[t%2]?;rw[List.getElem?_eq_getElem (show t%2<(z7s l[t/2]).length from hm),getElem!_pos (z7s l[t/2]) (t%2) hm];rfl
theorem w2e{w base g m c l}(h:w.ownsRow base 195 2 (.slice (some (g,())) m c) m (z0b l)):HoldsK z7s 2 w g 0 l.toArray:=by
 unfold HoldsK;rw[w0t];intro j hj;rw[List.size_toArray]at hj;rw[Nat.zero_add];refine⟨?_,h.frozenAt j⟩;obtain⟨b,Ga,hA,_,hc⟩:=(z0d.of_own h).plain (by have:=h.1;rw[this]at hj;omega) (by decide);cases hA;have h1:=hc j _ (List.getElem?_eq_getElem hj);rw[Nat.zero_add]at h1;rw[h1,getElem!_pos (z0b l).toArray j (by rw[List.size_toArray];exact hj)];rfl
theorem y7j F cur (h:F.size<=cur.size):((putCells id 0 F cur).toList).take F.size=F.toList:=by
 apply List.ext_getElem?;intro i;by_cases hi:i<F.size
 ·rw[List.getElem?_take_of_lt hi,Array.getElem?_toList,Array.getElem?_toList]
  unfold putCells;rw[Array.getElem?_mapIdx,Array.getElem?_eq_getElem (show i<cur.size by omega),Array.getElem?_eq_getElem hi];simp[hi]
 ·rw[List.getElem?_eq_none (by rw[List.length_take];omega),List.getElem?_eq_none (by rw[Array.length_toList];omega)]
theorem x8p{w base g m c n os l l'}(h:w.ownsRow base 195 2 (.slice (some (g,())) m c) m (z0b l))(hl:l'.length=l.length)(hb:base<=g):
  (sortWorldK z7s 2 w g 0 n l'.toArray os).ownsRow base 195 2 (.slice (some (g,())) m c) m (z0b l')/\Below base w (sortWorldK z7s 2 w g 0 n l'.toArray os):=by
 have Gb:(z0b l').length=m*2:=by rw[z0q,hl,<- z0q];exact h.1
 rcases h.2 with ⟨h',_⟩|⟨g',cap',cur,h',hbg,hg,hnc,hcm,hcs,htake⟩
 ·simp at h'
 ·simp only[Value.slice.injEq,Option.some.injEq,Addr.mk.injEq,and_true,true_and]at h'
  obtain⟨rfl,rfl⟩:=h';have Gc:g<w:=by
   rcases Nat.lt_or_ge g w with h|h
   ·exact h
   ·rw[Array.getElem?_eq_none h]at hg
    cases hg
  have hF:(flatK z7s 2 l'.toArray)=(z0b l').toArray:=w0t l';have Ga:(sortWorldK z7s 2 w g 0 n l'.toArray os).heap=w.heap.modify g (onCells (putCells id 0 (z0b l').toArray))++os:=by
   unfold sortWorldK putRowK putRow;rw[hF];rfl
  refine⟨⟨Gb,.inr ⟨g,c,putCells id 0 (z0b l').toArray cur,rfl,hb,?_,hnc,hcm,?_,?_⟩⟩,?_⟩
  ·rw[Ga,Array.getElem?_append_left (by rw[Array.size_modify];exact Gc),Array.getElem?_modify,if_pos rfl,hg]
   rfl
  ·unfold putCells
   rw[Array.size_mapIdx];exact hcs
  ·have h1:=y7j (z0b l').toArray cur (by rw[List.size_toArray,Gb];have:=Nat.mul_le_mul_right 2 hnc;omega)
   rw[List.size_toArray,Gb]at h1;rw[h1]
  ·refine⟨rfl,rfl,rfl,?_,fun k hk=>?_⟩
   ·rw[Ga,Array.size_append,Array.size_modify]
    omega
   ·rw[Ga,Array.getElem?_append_left (by rw[Array.size_modify];omega),Array.getElem?_modify,if_neg oM]
structure y0b(l l':List (List Nat×Nat)):Prop where
 len:l'.length=l.length
 perm:l'.Perm l
 up:∀i j (hi:i<l'.length) (hj:j<l'.length),i<j->¬nmCf l'[j] l'[i]<0
def v2o:Prop:=∀{w:World}{base m c:Nat}{A:Option Addr}{l:List (List Nat×Nat)},w.ownsRow base 195 2 (.slice A m c) m (z0b l)->m<=100 ->
  () 199 #[.slice A m c,.func (.func 200) #[] #[]] w fun e w'=>e=.returned (.tuple #[])/\∃l',y0b l l'/\w'.ownsRow base 195 2 (.slice A m c) m (z0b l')/\Below base w w'
end
section
open Go.RowKit Go.Maps
theorem w0e{a L T K b0 w S cur}(h:Dev a L T w S cur 0)(hdi:a.dirty=fun _=>False)(hL:L=53+32*K)(hK:1<=K)(hK12:K<=12)(ht:Tab w)(hpy:Pay w)(hp:Empt K cur)(hb0:2<b0/\0<b0/\b0<=w.heap.size/\∀k,S k->b0<=k):
  () 74 #[(a.d,0),[K]] w (v1z a L T K b0 S cur w):=by
 refine(x6s (fun _=>csN) h hdi hL hK hK12 ht hpy ⟨hp.r,hp.u,fun k hk=>?_,hp.b⟩ hb0).mono (fun e w' h=>h);unfold CSok csN;exact⟨hp.c k hk,(by show 0<1;omega),(by show 1<65536;omega)⟩
theorem w8b(cur:Nat->Nat) s:∀K,(∀k,k<K->arC cur s K (8*(s+32*k))=z4n 1)/\(∀i,i<8*s->arC cur s K i=cur i)
 |0=>⟨fun k hk=>absurd hk (Nat.not_lt_zero k),fun _ _=>rfl⟩
 |K+1=>by
  obtain⟨h1,h2⟩:=w8b cur s K;have e:∀i,arC cur s (K+1) i=if i=8*(s+32*K)then z4n 1 else arC cur s K i:=fun i=>by
   show wrS (arC cur s K) [(64*(s+32*K),z4n 1)] i=_;rw[z3m,show 64*(s+32*K)/8=8*(s+32*K) by omega]
  refine⟨fun k hk=>?_,fun i hi=>?_⟩
  ·rw[e]
   by_cases h:k=K
   ·subst h;rw[if_pos rfl]
   ·rw[if_neg oM];exact h1 k oM
  ·rw[e,if_neg oM]
   exact h2 i hi
theorem x9z(cur:Nat->Nat) s (hc:∀i,cur i<18446744073709551616):∀K i,arC cur s K i<18446744073709551616
 |0,i=>hc i
 |K+1,i=>by
  show wrS (arC cur s K) [(64*(s+32*K),z4n 1)] i<_;rw[z3m];have h1:=x4u 1 oM;have h2:=x9z cur s hc K i;split<;>omega
def curB(K:Nat):Nat->Nat:=arC (wrS (fun _=>0) [(64*0,0)]) 53 K
theorem w9p K:Empt K (curB K):=by
 obtain⟨h1,h2⟩:=w8b (wrS (fun _=>0) [(64*0,0)]) 53 K;have h0:∀i,wrS (fun _=>0) [(64*0,0)] i=0:=fun i=>by rw[z3m];split<;>rfl
 refine⟨?_,?_,h1,x9z _ 53 (fun i=>by rw[h0];omega) K⟩
 ·exact(h2 _ oM).trans (h0 _)
 ·exact(h2 _ oM).trans (h0 _)
def v1y(K:Nat)(w:World)(e:Ending)(w':World):Prop:=∃a T x y S,e=.returned (y.g,0)/\BW a (53+32*K) T K x y (fun _=>csN) (fun _=>none) 0 0 w.heap.size S (curB K) w'/\T<=100/\Blw w w'
theorem v3w K (_h:K<=12):((53+32*K:Nat):Int)=53+32*(K:Int)/\((32*K:Nat):Int)=32*(K:Int):=oM
theorem x6q K (hK:1<=K) (hK12:K<=12) w (ht:Tab w) (hpy:Pay w):() 16 #[[K]] w (v1y K w):=by
 have HT:=hid ht;have G2:=hid hpy;have HN:=hid (v0w (fun _=>False) (53+32*K) oM oM w);have HK:=hid (And.intro hK hK12);have Ga:=hid (show 2<w.heap.size/\0<w.heap.size from⟨ht.size,hpy.size⟩);rw[(v3w K hK12).1]at HN;clear ht hpy;go_enter Tryz.func16,Tryz.ntmps16
 go_wp2_with fail
 refine HN.out.mono ?_;rintro e w1⟨a,S1,rfl,Gx,Gk,Gr,Gt⟩;have G0:=hid Gx;clear Gx;have HH:=hid (fun W (hW:Blw w1 W)=>z9v (Gk.below hW));have HR:=hid (y4a Gk 0 26 oM oM oM);have Gf:=hid Gr;have Gd:=hid Gt;clear Gk Gr Gt HN;unfold memV at HR;have Gq:Hid (() 42 #[(57,a.th 0,0),(),.int .i64 26] w1 fun e w'=>∃S2,e=.returned ()/\Dev a (53+32*K) 3 w' S2 (wrS (fun _=>0) [(64*0,0)]) 0/\(∀k,S2 k->w.heap.size<=k)/\Blw w w'):=hid (HR.out.mono (fun e w' h=>by
  obtain⟨he,S2,hd,hc,hg⟩:=h;refine⟨S2,he,hd,fun k hk=>(hg k hk).elim (Gf.out k) (fun h=>Nat.le_trans Gd.out.size h),Gd.out.trans (hc.toBelow Gd.out.size Gf.out)⟩))
 clear HR;go_wp2_with (first
  |(go_at_call 38;refine(HH.out _ (Below.refl _ _)).mono ?_;rintro e Wz⟨rfl,rfl⟩)
  |(go_at_call 42;refine Gq.out.mono ?_;rintro e w2⟨S2,rfl,Gl,Gi,Gj⟩;refine stop ?_))
 unfold Stop;have Gp:=hid (z9v Gl);have Gg:=hid Gi;have Ge:=hid Gj;have Gh:=HK.out;have Gm:=hid (y3y Gl (HT.out.below Gj) (fun h=>by have:=Gi _ h;have:=Ga.out.1;omega) 53 (32*K) K oM oM oM oM);have Gb:Hid (() 43 #[(57,a.th 0,0),.int .i64 53,.int .i64 (32*(K:Int))] w2 fun e w'=>∃S3,e=.returned ()/\Dev a (53+32*K) (3+3*K) w' S3 (curB K) 0/\(∀k,S3 k->w.heap.size<=k)/\Blw w w'):=hid (by
  rw[<- (v3w K Gh.2).2];refine Gm.out.mono (fun e w' h=>?_);obtain⟨he,S3,hd,hc,hg⟩:=h;exact⟨S3,he,hd,fun k hk=>(hg k hk).elim (Gg.out k) (fun h=>Nat.le_trans Ge.out.size h),Ge.out.trans (hc.toBelow Ge.out.size Gg.out)⟩)
 have G3:(K:Int)<=12:=oM;have G4:(1:Int)<=(K:Int):=oM;clear Gl Gi Gj Gm HH Gq Gf Gd;go_wp2_with (first
  |(go_at_call 38;refine Gp.out.mono ?_;rintro e Wz⟨rfl,rfl⟩)
  |(go_at_call 43;refine Gb.out.mono ?_;rintro e w3⟨S3,rfl,Gw,Gs,Gc⟩;refine stop ?_))
 unfold Stop;have G1:=hid (w0e (b0:=w.heap.size) Gw G0.out rfl Gh.1 Gh.2 (HT.out.below Gc) (G2.out.below Gc) (w9p K) ⟨Ga.out.1,Ga.out.2,Gc.size,Gs⟩);have Gn:=hid Gc;clear Gw Gs Gc Gb Gp Gg Ge;go_wp2_with (go_at_call 74;refine G1.out.mono ?_;rintro e w4⟨x,y,rfl,Gv,Gu⟩;have Gz:=hid Gv;have Gy:=hid (Gn.out.trans (Gu.mono Gn.out.size));clear Gv Gu)
 go_ret;exact⟨a,_,x,y,S3,rfl,Gz.out,by have:=HK.out.2;omega,Gy.out⟩
theorem x7f A n c l w (h:z0d w w 2 A n (z0a l)) (hA:A=none->n=0/\c=0) (hn:n<=1000) :
  () 195 #[.slice A n c] w (fun e w'=>∃A' m' c',e=.returned (.slice A' m' c')/\m'=n/\w'.ownsRow w 117 2 (.slice A' m' c') m' (z0a l)/\Blw w w'):=by
 cases A with
 |none =>
  obtain⟨rfl,rfl⟩:=hA rfl;have hl:z0a l=[]:=by have:=h.1;exact List.eq_nil_of_length_eq_zero oM
  rw[hl];clear h;have Ga:∀W,(binOp .eql 118 ((),()) ((),())).run Tryz.prog W=.ok true W:=fun W=>by kernel_rfl
  go_enter Tryz.func195,Tryz.ntmps195
  go_wp2;go_ret;exact⟨none,0,0,rfl,rfl,World.ownsRow_nil _ _ _ _,Below.refl _ _⟩
 |some ad =>
  have H:=hid h;clear h hA;have Ga:∀W,(binOp .eql 118 (.slice (some ad) n c) ((),())).run Tryz.prog W=.ok false W:=fun W=>Lib.run_eql_slice_some_nil W _ _ _ Tryz.underlying118
  obtain⟨i0,Ge,Gf,Gg,Gh⟩:=info_parts z1l;have HO:Hid ((w.alloc (.cells #[] 117)).ownsRow w 117 2 (w,0,0,0) 0 []):=World.ownsRow_made w #[] 0 (nL _) (by unfold maxLen;omega) (by simp);go_enter Tryz.func195,Tryz.ntmps195
  go_wp2_with (at_builtin;refine z0m _ (.tmp 5) (.tmp 6) 118 rfl rfl w 117 i0 _ 2 16 Tryz.underlying118 Ge Gf Gg Gh rfl ?q1 (w,0,0,0) 0 [] rfl HO.out w (some ad) n c (z0a l) rfl ?q5 ?q6 ?q2 ?q3 ?q4 ?_;(case q1=>omega);(case q5=>exact H.out.alloc (nL _) _);(case q6=>exact z8a l);(case q2=>(unfold maxLen;omega));(case q3=>omega);(case q4=>(simp));intro A3 n3 c3 w8 hn3 ho3 hg3 hb3;have Gc:=hid hn3;have Gd:=hid ho3;have Gb:=hid (((Below.refl _ w).alloc (nL _) _).trans hb3);clear hn3 ho3 hg3 hb3)
  go_ret;refine⟨_,_,_,rfl,Gc.out.trans (Nat.zero_add _),?_,Gb.out⟩;have:=Gd.out;rw[List.nil_append]at this;exact this
theorem z9t(g:Nat->Nat)(ks:List Nat)(hn:ks.Nodup):∀l:List Nat,(ks.map fun k=>(l.filter fun p=>g p==k).length).sum<=l.length
 |[]=>by
  have:∀ks:List Nat,(ks.map fun k=>(([]:List Nat).filter fun p=>g p==k).length).sum=0:=fun ks=>by
   induction ks with
   |nil=>rfl
   |cons a t ih =>
    simp at ih⊢;exact ih
  rw[this];exact Nat.zero_le _
 |p::l=>by
  have h1:=z9t g ks hn l;have h2:∀ks:List Nat,(ks.map fun k=>((p::l).filter fun p=>g p==k).length).sum=(ks.map fun k=>(l.filter fun p=>g p==k).length).sum+ks.count (g p):=fun ks=>by
   induction ks with
   |nil=>rfl
   |cons a t ih =>
    rw[List.map_cons,List.map_cons,List.sum_cons,List.sum_cons,ih,List.filter_cons,List.count_cons];by_cases e:g p=a
    ·subst e;simp;omega
    ·have e1:(g p==a)=false:=by rw[beq_eq_false_iff_ne];exact e
     have e2:(a==g p)=false:=by rw[beq_eq_false_iff_ne];exact fun h=>e h.symm
     rw[e1,e2];simp;omega
  rw[h2,List.length_cons];have h3:ks.count (g p)<=1:=List.nodup_iff_count.1 hn (g p);omega
theorem w4n{s:Nat}{cs:Nat->CS}{keep free:List Nat}{V:Nat->Nat}{ks:List Nat}(hn:ks.Nodup)(hne:∀k∈ks,tlOf s cs keep k≠[]\/dlOf s cs free k≠[]):(ks.flatMap (acW s cs (tlOf s cs keep) (dlOf s cs free) V)).length<=2*(keep.length+free.length):=by
 have h1:=z9t (kOf s) ks hn keep;have h2:=z9t (kOf s) ks hn free;have h3:∀ks:List Nat,(∀k∈ks,tlOf s cs keep k≠[]\/dlOf s cs free k≠[])->(ks.flatMap (acW s cs (tlOf s cs keep) (dlOf s cs free) V)).length<=2*((ks.map fun k=>(keep.filter fun p=>kOf s p==k).length).sum+(ks.map fun k=>(free.filter fun p=>kOf s p==k).length).sum):=fun ks=>by
  induction ks with
  |nil=>intro _;simp
  |cons k t ih =>
   intro h;have h4:=ih (fun j hj=>h j (by simp[hj]));rw[List.flatMap_cons,List.length_append,List.map_cons,List.map_cons,List.sum_cons,List.sum_cons];unfold acW at h4⊢;rw[y6g];have e1:(tlOf s cs keep k).length=(keep.filter fun p=>kOf s p==k).length:=by unfold tlOf;rw[List.length_map]
   have e2:(dlOf s cs free k).length=(free.filter fun p=>kOf s p==k).length:=by unfold dlOf;rw[List.length_map]
   have h5:1<=(tlOf s cs keep k).length+(dlOf s cs free k).length:=by
    rcases h k (by simp)with h|h
    ·have:=List.length_pos_iff.2 h;omega
    ·have:=List.length_pos_iff.2 h;omega
   omega
 have:=h3 ks hne;omega
def z6a(a:DA)(L T s n K:Nat)(x:HA)(cs:Nat->CS)(f:Nat->Option Nat)(N m b0:Nat)(S:Fp)(cur:Nat->Nat)(w:World)(d r:Nat)(us:List (Nat×Nat))(keep free:List Nat)(n1:Nat)(e:Ending)(w':World):Prop :=
 ∃ks V cm S',e=.returned ()/\AOk s K cs ks (tlOf s cs keep) (dlOf s cs free) V/\(∀k,k∈ks↔k<K/\(tlOf s cs keep k≠[]\/dlOf s cs free k≠[]))/\cm<18446744073709551616/\(us++ks.flatMap (acW s cs (tlOf s cs keep) (dlOf s cs free) V)).length<=96 /\
  SD a L (T+800) s n K x (acC cs ks (tlOf s cs keep) (dlOf s cs free) V) (relF f keep) (N+n1) (m-n1) b0 S' (rdG 0 cur (us++ks.flatMap (acW s cs (tlOf s cs keep) (dlOf s cs free) V)) cm) w' d r/\Chg (sfp S x) w w'/\Grew S S' w
section
variable{a:DA}{L T s n K:Nat}{x:HA}{cs:Nat->CS}{f:Nat->Option Nat}{N m b0:Nat}{S:Fp}{cur:Nat->Nat}{w w':World}{d r:Nat}
theorem y7b(h:SD a L T s n K x cs f N m b0 S cur w d r)(hK12:K<=12) A0 A1 A2 n0 c0 n1 c1 n2 c2 us keep free (h0:z0d w w.heap.size 2 A0 n0 (z0a us)) (h00:A0=none->n0=0/\c0=0) (h1:z0d w w.heap.size 1 A1 n1 (z0g keep)) (h2:z0d w w.heap.size 1 A2 n2 (z0g free))
  (hA1:∀ad,A1=some ad->¬sfp S x ad.block) (hk:∀p∈keep,y7p s K cs f p) (hfr:∀p∈free,x9b s K cs p) (hn:((keep++free).map pOff).Nodup) (hu:UOk L 0 s K cs us) (hlen:us.length+2*(keep.length+free.length)<=96) (hT:T+800<=1000000000) (hN:N+n1<=1000000000) :
  () 99 #[(d,()),.slice A0 n0 c0,.slice A1 n1 c1,.slice A2 n2 c2] w (z6a a L T s n K x cs f N m b0 S cur w d r us keep free n1):=by
 have GG:us.length=n0:=by have:=h0.1;rw[z1a]at this;omega
 have GH:keep.length=n1:=by have:=h1.1;simp[z0g]at this;omega
 have GI:free.length=n2:=by have:=h2.1;simp[z0g]at this;omega
 have G6:=hid (x0a h.ds.dev r 0 26 h.log (by have h1:=h.ds.hK;have:=h.ln;omega) oM A0 n0 c0 us h0 (z8k hu.nd) hu.off hu.val oM h.idle h.ds.tab);have Gx:Hid (∀W,Blw w W->() 93 #[(x.h,()),.slice A1 n1 c1,.slice A2 n2 c2] W (x0u W s K cs keep free)):=hid (fun W hW=>y9f (h.ds.below hW) hK12 A1 A2 n1 c1 n2 c2 keep free ((h1.below hW).more hW.size) ((h2.below hW).more hW.size) hk hfr hn oM oM);have GL:Hid (∀W,Blw w W->() 76 #[(a.th 0,())] W fun e w'=>e=.returned ()/\W=w'):=hid (fun W hW=>z9u (h.ds.dev.below hW));have HS:=hid h;have GQ:=hid h0;have Gn:=hid h00;have GR:=hid h1;have Gy:=hid hA1;have G3:=hid hk;have GM:=hid hfr;have G4:=hid hn;have HU:=hid hu;have Gm:=hid (And.intro GG (And.intro GH GI));have GX:w.cell? ⟨x.h,7,none⟩=some ↑false:=(h.ds.hs.heap.cell 7).trans (congrArg (fun b=>some (Value.bool b)) h.ul);have GV:w.cell? ⟨d,2,none⟩=some (r,()):=h.dir.cell 2;clear h h0 h00 h1 h2 hA1 hk hfr hn hu GG GH GI;go_enter Tryz.func99,Tryz.ntmps99
 go_wp2_with (go_at_call 194;refine G6.out.mono ?_;rintro e W1⟨A3,m3,c3,p3,rfl,_,_,Gs⟩;refine stop ?_)
 unfold Stop;have Gf:=hid Gs;have Gi:=hid (HS.out.below Gs);have e7:W1.cell? ⟨x.h,7,none⟩=some ↑false:=(Gi.out.ds.hs.heap.cell 7).trans (congrArg (fun b=>some (Value.bool b)) Gi.out.ul);have e0:W1.cell? (d,())=some (x.h,()):=Gi.out.dir.cell 0;have e1:W1.cell? ⟨d,1,none⟩=some (a.th 0,()):=Gi.out.dir.cell 1;clear Gs G6 GX GV;go_wp2_with (first
  |(go_at_call 76;refine(GL.out _ Gf.out).mono ?_;rintro e w1⟨rfl,rfl⟩)
  |(go_at_call 93;refine(Gx.out _ Gf.out).mono ?_;rintro e W2⟨A4,m4,c4,ks,V,rfl,Gv,Ge,GA,Gw,G8⟩;refine stop ?_))
 unfold Stop;have Ga:=hid (Gf.out.trans (G8.mono Gf.out.size));have Gq:=hid (HS.out.below Ga.out);have G7:=hid (z0d.of_own Gw);have Gc:Hid (AOk s K cs ks (tlOf s cs keep) (dlOf s cs free) V):=hid (by
  have ha:∀k∈ks,_:=fun k hk=>x4e G3.out GM.out G4.out ((Ge k).1 hk).2
  exact⟨Gv,fun k hk=>⟨((Ge k).1 hk).1,(ha k hk).1⟩,fun k hk=>(ha k hk).2.1,fun k hk=>(ha k hk).2.2.1,fun k hk=>(ha k hk).2.2.2,GA⟩)
 have GN:=hid Ge;have Gh:Hid ((us++ks.flatMap (acW s cs (tlOf s cs keep) (dlOf s cs free) V)).length<=96):=hid (by
  rw[List.length_append];have:=w4n (V:=V) Gv (fun k hk=>((Ge k).1 hk).2);omega)
 have Db:m4<=96:=by
  have h1:=Gw.1;rw[z1a]at h1;have h2:=Gh.out;rw[List.length_append]at h2;have h3:(ks.flatMap fun k=>chgW (s+32*k) (cs k).cl (cs k).bs (tlOf s cs keep k) (dlOf s cs free k) (V k)).length=(ks.flatMap (acW s cs (tlOf s cs keep) (dlOf s cs free) V)).length:=rfl;omega
 have Gp:Hid (z0d W2 W2.heap.size 2 A4 m4 (z0a (ks.flatMap (acW s cs (tlOf s cs keep) (dlOf s cs free) V)))):=G7;have G0:=hid (x7f A0 n0 c0 us W2.drew ((GQ.out.below Ga.out).more Ga.out.size) Gn.out (by have:=Gm.out.1;omega));have e0:W2.cell? (d,())=some (x.h,()):=Gq.out.dir.cell 0;clear G8 Gv Ge GA Gw Gx G7 e0 e1 e7;go_upto_region 14 with fail
 refine z0e (fun w'=>Blw W2 w') 8 [] [(1,0),(1,1),(1,2),(1,3),(1,4),(1,6),(0,5),(0,7)] (by kernel_rfl) (by kernel_rfl) (Below.refl _ _).drew ?_;refine tkG (d,()) ?_;refine tkG (d,()) ?_;refine tkG (.pointer (some ⟨d,2,none⟩)) ?_;refine tkH (r,()) (fun w' hS=>?_) ?_
 ·have f1:w'.cell? ⟨d,2,none⟩=some (r,()):=(Gq.out.dir.below hS Gq.out.dir.lt).cell 2
  go_simp
 refine tkG (.slice A0 n0 c0) ?_;refine tkG (.slice A4 m4 c4) ?_;refine z0c (by rfl) ?_;go_wp2_with (go_at_call 195;refine G0.out.mono ?_;rintro e W3⟨A5,m5,c5,rfl,Gu,GJ,G9⟩;have GO:=hid Gu;have G5:=hid GJ;clear Gu GJ)
 have Gb:Hid (Blw W2 W3):=hid ((Below.refl _ W2).drew.trans G9);clear G9 G0;refine⟨Gb.out,?_⟩;refine z0c (by rfl) ?_;obtain⟨i0,GW,GY,GZ,Da⟩:=info_parts z1l;have GS:=hid ((Gp.out.below Gb.out).more Gb.out.size);have Dc:n0<=96:=by have:=Gm.out.1;omega
 have Gu:m5<=96:=by have:=GO.out;omega
 have GP:=hid (z8a (ks.flatMap (acW s cs (tlOf s cs keep) (dlOf s cs free) V)));refine z3j _ (.tmp 62) (.tmp 63) 118 rfl rfl W2.heap.size 117 i0 _ 2 16 Tryz.underlying118 GW GY GZ Da rfl oM (.slice A5 m5 c5) m5 (z0a us) rfl G5.out W3.heap.size A4 m4 c4 (z0a (ks.flatMap (acW s cs (tlOf s cs keep) (dlOf s cs free) V))) rfl GS.out GP.out (by unfold maxLen;omega) oM Gb.out.size ?_;intro A6 n6 c6 W4 hn6 ho6 hg6 hb6;have Gg:Hid (Blw W2 W4):=hid (Gb.out.grown hg6 Gb.out.size (fun i hi=>(G5.out.lt i hi).1));have Gj:=hid (HS.out.below (Ga.out.trans (Gg.out.mono Ga.out.size)));have G1:=hid (y2f Gj.out.ds.dev r Gj.out.log A6 n6 c6 (us++ks.flatMap (acW s cs (tlOf s cs keep) (dlOf s cs free) V)) (by
  have h1:=z0d.of_own ho6;have e:z0a us++z0a (ks.flatMap (acW s cs (tlOf s cs keep) (dlOf s cs free) V))=z0a (us++ks.flatMap (acW s cs (tlOf s cs keep) (dlOf s cs free) V)):=by unfold z0a;rw[List.flatMap_append]
  rw[e]at h1;exact h1) (z8k (y2z HU.out Gc.out)) (y7a HS.out.ds HS.out.ln HU.out Gc.out) (w2m HS.out.ds HU.out Gc.out) (by
   have h1:=ho6.1;rw[List.length_append,z1a,z1a]at h1;have h2:=Gh.out;rw[List.length_append]at h2;omega) Gj.out.idle Gj.out.ds.tab (by have h1:=HS.out.ds.hK;have:=HS.out.ln;omega) hT)
 clear hn6 ho6 hg6 hb6;refine⟨Gg.out,?_⟩;show wpList _ _ _ _ _ _;simp only[List.drop_succ_cons,List.drop_zero];go_wp2_with (go_at_call 187;refine G1.out.mono ?_;rintro e W5⟨cm,Gt,rfl,S',GE,GC,GF⟩)
 refine NoPanic.normal ?_;have GU:=hid (Nat.le_trans Ga.out.size Gg.out.size);have Gd:Hid (Chg S w W5):=hid (((Chg.of_below (S:=S) Ga.out).below (Gg.out)).trans GC (Grew.refl _ _));have Gl:Hid (Grew S S' w):=hid (fun k hk=>by
  rcases GF k hk with h|h
  ·exact .inl h
  ·exact .inr (by have:=GU.out;omega))
 have G2:=hid (HS.out.ds.pub HS.out.ln HU.out Gc.out Gh.out Gt GE Gd.out Gl.out);have Gk:=hid Gt;have Gr:Hid (SD a L (T+800) s n K x (acC cs ks (tlOf s cs keep) (dlOf s cs free) V) f N m b0 S' (rdG 0 cur (us++ks.flatMap (acW s cs (tlOf s cs keep) (dlOf s cs free) V)) cm) W5 d r):=hid (HS.out.keep G2.out (Gd.out.mono (fun _ h => .inl h)) Gl.out (x5h HS.out.idle));have GT:=hid (x8k G2.out A1 n1 c1 keep (Gd.out.reads GR.out (nL _) (fun ad h1 h2=>Gy.out ad h1 (.inl h2)) |>.more Gd.out.size) (fun ad h1 h2=>Gy.out ad h1 (.inr h2)) (fun p hp=>(G3.out p hp).res) (by
  have:=G4.out;rw[List.map_append]at this;exact(List.nodup_append.1 this).1) oM (by have:=Gm.out.2.1;omega) (.slice A2 n2 c2))
 have g0:W5.cell? (d,())=some (x.h,()):=Gr.out.dir.cell 0;clear Gt GE GC GF G1;go_wp2_with (go_at_call 96;refine GT.out.mono ?_;rintro e W6⟨rfl,GD,GB⟩;have GK:=hid GD;have Gz:=hid GB;clear GD GB)
 go_ret;exact⟨ks,V,cm,S',rfl,Gc.out,GN.out,Gk.out,Gh.out,Gr.out.keep GK.out (Gz.out.mono (fun _ h => .inr h)) (Grew.refl _ _) Gr.out.idle,(Gd.out.mono (fun _ h => .inl h)).trans Gz.out (fun _ h => .inl (.inr h)),Gl.out⟩
end
end
section
open Go.RowKit Go.Maps
section
variable{s K:Nat}{cs:Nat->CS}{f:Nat->Option Nat}
theorem At.lo{q k i}(h:At s K cs q k i):pOff q=64*(s+32*k)+8*offB (cs k).cl i+8:=by
 have:=h.2.2.2;unfold offO blkO at this;omega
theorem At.fnd{q k i}(h:At s K cs q k i):fndC (s+32*k) (cs k).cl (pOff q)=some i:=by
 have h1:=h.lo;have h2:=off_lt h.2.2.1;have h3:=z7i (cs k).cl;have e:(pOff q-64*(s+32*k))/8=9+i*(payW (cs k).cl+1):=by unfold offB at h1;omega
 unfold fndC;rw[if_neg oM,e];unfold y3x;have e2:9+i*(payW (cs k).cl+1)-9=i*(payW (cs k).cl+1):=oM;have hi:=h.2.2.1;rw[if_neg (by unfold offB at h2;omega),e2,Nat.mul_mod_left,Nat.mul_div_cancel _ oM,if_neg oM]
theorem At.home{q k i}(h:At s K cs q k i):z4y s K (pOff q)=some k:=by
 rw[h.2.2.2];exact z9i h.1 h.2.2.1
structure x5y(s K:Nat)(cs:Nat->CS)(q kind k i:Nat):Prop where
 at_:At s K cs q k i
 bk:(cs k).bs i=⟨pGen q,kind,177⟩
 kind_:z2h q=kind
 nz:q≠0
 lt:q<18446744073709551616
 top:q/72057594037927936=0
def Live(s K:Nat)(cs:Nat->CS)(q kind:Nat):Prop:=∃k i,x5y s K cs q kind k i
theorem Live.chk{q kind}(h:Live s K cs q kind):chkR s K cs q kind=0/\chkR s K cs q 0=0:=by
 obtain⟨k,i,h⟩:=h;have hb:blkR (s+32*k) (cs k).cl (cs k).bs q=(i,0):=by
  unfold blkR;rw[if_neg h.nz,h.at_.fnd];show(if q/72057594037927936≠0 then _ else _)=_;rw[h.bk,h.top,h.kind_,if_neg oM,if_neg (by simp),if_neg (by simp)]
 have hc:∀kd,chkR s K cs q kd=if kd≠0/\kd≠z2h q then 13 else 0:=fun kd=>by
  unfold chkR;rw[if_neg h.nz,h.top,if_neg oM,h.at_.home];show(if (cs k).dv=true then _ else _)=_;rw[if_pos h.at_.2.1,hb,if_neg (by simp)]
 rw[hc,hc,h.kind_];simp
end
section
variable{s K:Nat}{cs:Nat->CS}{f:Nat->Option Nat}{keep free ks:List Nat}{V:Nat->Nat}
theorem At.pub{q k i tl dl}(h:At s K cs q k i):At s K (acC cs ks tl dl V) q k i:=by
 obtain⟨e1,e2,_⟩:=x4c cs ks tl dl V k;refine⟨h.1,by rw[e1];exact h.2.1,by rw[e2];exact h.2.2.1,?_⟩;rw[h.2.2.2];unfold offO;rw[e2]
theorem v3u{q k i}(h:At s K cs q k i)(hq:q∈keep):(i,z2h q)∈tlOf s cs keep k:=by
 obtain⟨e1,e2⟩:=y2s h.2.2.1 h.2.2.2;unfold tlOf;exact List.mem_map.2 ⟨q,List.mem_filter.2 ⟨hq,by rw[beq_iff_eq];exact e1⟩,by rw[e2]⟩
theorem w6y{q kind c}(h:AOk s K cs ks (tlOf s cs keep) (dlOf s cs free) V)(hks:∀k,k∈ks↔k<K/\(tlOf s cs keep k≠[]\/dlOf s cs free k≠[]))(hr:Rq s K cs f kind q c)(hq:q∈keep)(_h128:kind<128):∃k i,x5y s K (acC cs ks (tlOf s cs keep) (dlOf s cs free) V) q kind k i/\(cs k).cl=c/\At s K cs q k i:=by
 obtain⟨k,i,ha,hc,hg⟩:=hr.cls;have hm:=v3u ha hq;have hk:k∈ks:=(hks k).2 ⟨ha.1,.inl (fun e=>by rw[e]at hm;exact absurd hm (by simp))⟩;refine⟨k,i,⟨ha.pub,?_,hr.kind_,hr.keep.nz.1,hr.keep.nz.2,hr.top⟩,hc,ha⟩
 ·unfold acC
  rw[if_pos hk];show actB (cs k).bs _ _ i=_;have:=y5z (bs:=(cs k).bs) (h.once k hk) hm;rw[this,hr.kind_];unfold z3c;rw[hg]
end
end
section
open Go.RowKit Go.Maps
section
variable{a:DA}{L T K:Nat}{x:HA}{y:WA}{cs:Nat->CS}{f:Nat->Option Nat}{N m b0:Nat}{S:Fp}{cur:Nat->Nat}{w w':World}
theorem BW.keep{T' N' m' cs' f' S' cur'}(h:BW a L T K x y cs f N m b0 S cur w)(hsd:SD a L T' 53 (32*K) K x cs' f' N' m' b0 S' cur' w' y.d y.r)(hc:Chg (sfp S x) w w')(hg:Grew S S' w)(hu:cur' (8*26)=0):BW a L T' K x y cs' f' N' m' b0 S' cur' w':=by
 have hn:∀{g:Nat}{t:TypeId}{vs:Array Value},Blk w g t vs->¬S g->t≠342->¬sfp S x g:=fun hB hS ht e=>e.elim hS (h.sd.ds.fp_ne hB ht)
 exact⟨hsd,hc.blk h.blk (hn h.blk h.off.1 (by decide)),hc.blk h.und (hn h.und h.off.2.1 (by decide)),hc.blk h.mgr (hn h.mgr h.off.2.2 (by decide)),hu,⟨hg.off ⟨h.blk.lt,h.off.1⟩,hg.off ⟨h.und.lt,h.off.2.1⟩,hg.off ⟨h.mgr.lt,h.off.2.2⟩⟩,h.new,h.size,h.few,h.rest⟩
theorem BW.below(h:BW a L T K x y cs f N m b0 S cur w)(hb:Blw w w'):BW a L T K x y cs f N m b0 S cur w' :=
 h.keep (h.sd.below hb) (Chg.of_below hb) (Grew.refl _ _) h.uid
theorem BW.more{T' N'}(h:BW a L T K x y cs f N m b0 S cur w)(hT:T<=T')(hT':T'<=1000000000)(hN:N<=N'):BW a L T' K x y cs f N' m b0 S cur w :=
 { h with sd:={ h.sd.more hT hT' with ds:={ (h.sd.more hT hT').ds with hs:=h.sd.ds.hs.mono hN } } }
end
end
section
open Go.RowKit Go.Maps
theorem w1u w : (method 585 306 (.agg arC0) "Decode").run Tryz.prog w=.ok (386,.agg arC0) w := by kernel_rfl
def rgW(cur:Nat->Nat)(o:Nat):List Nat:=(List.range 33).map fun j=>cur (o+j)
def w3x(w:World)(R:Option (List (List Nat×Nat)))(e:Ending)(w':World):Prop:=(match R with
 |some l=>∃A m c,e=.returned (.tuple #[.slice A m c,()])/\m=l.length/\w'.ownsRow w 299 2 (.slice A m c) m (z0b l)
 |none=>e=.returned (.tuple #[((),()),.int .i64 11]))/\Blw w w'
section
variable{a:DA}{L T s n K:Nat}{x:HA}{cs:Nat->CS}{f:Nat->Option Nat}{N m b0:Nat}{S:Fp}{cur:Nat->Nat}{w:World}{d r:Nat}
theorem w2s(h:SD a L T s n K x cs f N m b0 S cur w d r) off (h8:off%8=0) (hlt:off+264<=64*L) :
  () 254 #[(58,d,0),off,arI] w (w3x w (decA (rgW cur (off/8)))):=by
 have hL:L<=4096:=by obtain⟨ls,G2,GC,cs,GB,G1,G8⟩:=h.ds.dev;exact G1.hL
 have Gs:=hid (fun W (hW:Blw w W)=>v4k (h.below hW).ds.dev (h.below hW).dir);have Gp:Hid (∀W,Blw w W->() 379 #[(d,0)] W fun e w'=>e=.returned ()/\W=w'):=hid (fun W hW=>errD (h.below hW).ds.dev (h.below hW).dir);have Gx:Hid (∀k,k<33->∀W,Blw w W->() 382 #[(d,0),(off+8*k:Nat)] W fun e w'=>e=.returned (cur (off/8+k))/\W=w'):=hid (fun k hk W hW=>v0f (h.below hW).ds.dev (h.below hW).dir (off+8*k) _ oM oM (by congr 1;omega));have Gj:=h.ds.bnd;have G4:=w1v (some (d,0));have G5:=z8u (some (d,0));have G6:=y2w (some (d,0));have G7:=w1u;have Gk:∀W,(binOp .eql 163 (58,d,0) .nilIface).run Tryz.prog W=.ok false W:=fun W=>by rfl
 have Gg:∀y∈rgW cur (off/8),y<18446744073709551616:=fun y hy=>by
  unfold rgW at hy;obtain⟨j,_,rfl⟩:=List.mem_map.1 hy;exact Gj _
 have Gw:=hid Gg;obtain⟨M,hM⟩:∃M,64*L=M:=⟨_,rfl⟩
 rw[hM]at Gs;obtain⟨q,hq⟩:∃q,M-off=q:=⟨_,rfl⟩
 have e1:IntKind.u64.wrap ((M:Int)-(off:Int))=(q:Int):=by rw[IntKind.wrap_u64];omega
 have e2:(33:Int)<=(q:Int)/8:=oM;have e9:IntKind.u64.wrap ((q:Int)/8)=(q:Int)/8:=by rw[IntKind.wrap_u64];omega
 have e3:(off:Int)<=(M:Int):=oM;have e4:((off:Int)%8 != 0)=false:=by rw[bne,beq_iff_eq.2 oM];rfl
 have G0:=hid (And.intro h8 (show off+264<=262144 by omega));have Gd:=x7x 33 (by decide);rw[show madeCells #[[()]] 33=uA (ldL cur (off/8) 33 0) by rw[x5b];apply Array.ext';rw[toList_madeCells_one];unfold uA z0g;simp]at Gd;rw[show((33:Nat):Int)=33 from rfl]at Gd;have G3:=Gj;clear h Gj Gg hL hlt hM hq h8;unfold arI;go_enter Tryz.func254,Tryz.ntmps254
 go_upto_region 12 with (first
  |(go_at_call 303;refine(z9f w).mono ?_;rintro e w1⟨rfl,Gt⟩;have Ge:=hid Gt;clear Gt)
  |(go_at_call 383;refine(Gs.out w1 Ge.out).mono ?_;rintro e w2⟨rfl,rfl⟩)
  |(go_at_call 379;refine(Gp.out w1 Ge.out).mono ?_;rintro e w2⟨rfl,rfl⟩))
 have Ga:Hid (Blk (w1.alloc (.cells (uA (ldL cur (off/8) 33 0)) 32)) w1.heap.size 32 (uA (ldL cur (off/8) 33 0))):=hid (Blk.new w1 _ _);have Gb:Hid (Blw w1 (w1.alloc (.cells (uA (ldL cur (off/8) 33 0)) 32))):=hid ((Below.refl _ _).alloc (nL _) _);clear Gd e1 e2 e3 e4 e9 Gk;go_wp2_with fail
 go_loopw [56] (fun i wr=>∃k:Nat,k<=33/\i=↑[k]/\Hid (Blk wr w1.heap.size 32 (uA (ldL cur (off/8) 33 k)))/\Hid (Blw w1 wr)) (fun i _=>33-(Go.RowKit.intOf i).toNat)
 case atStart=>exact⟨0,Nat.zero_le _,rfl,Ga,Gb⟩
 case round =>
  clear Ga Gb;obtain⟨k,hk,rfl,Ga,Gb⟩:=hrel;by_cases hlt:k<33
  ·have Gc:=hid (Ge.out.trans (Gb.out.mono Ge.out.size))
   have Gq:=hid (Gx.out k hlt wr Gc.out);have Gr:Hid (Blk (wr.setCell (w1,k) (cur (off/8+k))) w1.heap.size 32 (uA (ldL cur (off/8) 33 (k+1)))):=hid (by
    have h1:=Ga.out.set_ k (cur (off/8+k));rw[y0k,w1o]at h1;exact h1)
   have Gm:Hid (Blw w1 (wr.setCell (w1,k) (cur (off/8+k)))):=hid (Gb.out.setCell (nL _) _);have G9:(0:Int)<=(k:Int):=oM;have GA:(k:Int)<33:=oM;have c9:wr.cell? (w1,k)=some (.int .u64 (((ldL cur (off/8) 33 k)[k]'(by rw[z9j];exact hlt):Nat):Int)):=by rw[Ga.out.cell];exact x3q (by rw[z9j];exact hlt)
   have z9:wr.frozen? (w1,k)=false:=Ga.out.frozen k;generalize (ldL cur (off/8) 33 k)[k]'(by rw[z9j];exact hlt)=old at*;generalize cur (off/8+k)=vk at*;have ho:=G0.out.2;have e5:IntKind.u64.wrap (k:Int)=(k:Int):=by rw[IntKind.wrap_u64];omega
   have e6:IntKind.u64.wrap ((k:Int)*8)=(k:Int)*8:=by rw[IntKind.wrap_u64];omega
   have e7:IntKind.u64.wrap ((off:Int)+(k:Int)*8)=((off+8*k:Nat):Int):=by rw[IntKind.wrap_u64];omega
   generalize off+8*k=ok at Gq e7;clear Ga Gb ho;go_wp2_with (go_at_call 382;refine Gq.out.mono ?_;rintro e w2⟨rfl,rfl⟩)
   go_roundw
   case rel =>
    first
     |exact⟨k+1,oM,by go_num,Gr,Gm⟩
     |(
       repeat apply Exists.intro
       refine⟨?_,rfl⟩;exact⟨k+1,oM,by go_num,Gr,Gm⟩)
   case measure=>simp[Go.RowKit.intOf];omega
  ·obtain rfl:k=33:=oM
   have Gc:=hid (Ge.out.trans (Gb.out.mono Ge.out.size));have Gn:=hid (Gp.out wr Gc.out);have Gl:Hid (() 386 #[.agg arC0,(w1,0,33,33)] wr (x0v wr (decA (rgW cur (off/8))))):=hid (by
    have h1:=Ga.out;rw[w1n]at h1;have h2:z0d wr wr.heap.size 1 (some (w1,0)) 33 (z0g (rgW cur (off/8))):=by
     have h3:=y1h h1;rw[show((List.range 33).map fun j=>cur (off/8+j)).length=33 by simp]at h3;exact h3
    exact y8k _ 33 rfl _ wr h2 Gw.out)
   clear Ga Gb hlt hk;generalize decA (rgW cur (off/8))=R at*;rcases R with _|l
   ·have Gh:Hid (() 386 #[.agg arC0,(w1,0,33,33)] wr fun e w'=>e=.returned (.tuple #[((),()),false])/\Blw wr w'):=Gl
    rw[show((33:Nat):Int)=33 from rfl];go_wp2_with (first
     |(go_at_call 379;refine Gn.out.mono ?_;rintro e w5⟨rfl,rfl⟩)
     |(go_at_call 386;refine Gh.out.mono ?_;rintro e w6⟨rfl,Gf⟩;have Gi:=hid (Gc.out.trans (Gf.mono Gc.out.size));clear Gf))
    go_ret2;exact⟨rfl,Gi.out⟩
   ·have Gh:Hid (() 386 #[.agg arC0,(w1,0,33,33)] wr fun e w'=>(∃A m c,e=.returned (.tuple #[.slice A m c,true])/\m=l.length/\w'.ownsRow wr.heap.size 299 2 (.slice A m c) m (z0b l))/\Blw wr w'):=Gl
    rw[show((33:Nat):Int)=33 from rfl];go_wp2_with (first
     |(go_at_call 379;refine Gn.out.mono ?_;rintro e w5⟨rfl,rfl⟩)
     |(go_at_call 386;refine Gh.out.mono ?_;rintro e w6⟨⟨A6,m6,c6,rfl,Gu,Gv⟩,Gf⟩;have Gi:=hid (Gc.out.trans (Gf.mono Gc.out.size));have Gy:=hid Gu;have Gz:=hid Gv;clear Gf Gu Gv))
    go_ret2;exact⟨⟨_,_,_,rfl,Gy.out,z2u Gz.out Gc.out.size⟩,Gi.out⟩
end
end
section
open Go.RowKit Go.Maps
section
variable{a:DA}{L T n K:Nat}{x:HA}{cs:Nat->CS}{f:Nat->Option Nat}{N m b0:Nat}{S:Fp}{cur:Nat->Nat}{w:World}{ks free:List Nat}{V:Nat->Nat}{cm:Nat}
theorem At.notLook{q k i y}(h:At 53 K cs q k i)(hy:y<payW (cs k).cl){k'}(_hk':k'<K):¬z4d 53 cs k' (8*(53+32*k)+offB (cs k).cl i+1+y):=fun hl=>by
 obtain⟨_,p2,p3,p4⟩:=y1d (ln:=53+32*k) h.2.2.1 hy;have h9:=z2y (cs k).cl i;unfold z4d at hl;by_cases e:k'=k
 ·subst e
  rw[h.2.1,if_pos rfl]at hl;exact p4 hl
 ·split at hl
  ·have:=y1a hl
   omega
  ·omega
end
end
section
open Go.RowKit Go.Maps
def v2i(w:World)(p ck:Nat)(e:Ending)(w':World):Prop:=(if ck=0 then ∃g:Nat,w<=g/\e=.returned (.tuple #[(g,0),()])/\Blk w' g 202 #[p]else e=.returned (.tuple #[.pointer none,[ck]]))/\Blw w w'
section
variable{a:DA}{L T s n K:Nat}{x:HA}{cs:Nat->CS}{f:Nat->Option Nat}{N m b0:Nat}{S:Fp}{cur:Nat->Nat}{w:World}{d r:Nat}
theorem x8m(h:SD a L T s n K x cs f N m b0 S cur w d r)(p:Nat)(hp:p<18446744073709551616):
  () 32 #[.iface 58 (d,()),p] w (v2i w p (chkR s K cs p 8)):=by
 have Gc:=hid (errD h.ds.dev h.dir);have HC:=hid (w8c h p 8 hp (by decide));have Ge:=y4u (some (d,()));have Gf:=z8u (some (d,()));have Gd:∀W,(binOp .eql 63 (.iface 58 (d,())) .nilIface).run Tryz.prog W=.ok false W:=fun W=>by rfl
 generalize chkR s K cs p 8=ck at*;clear h;go_enter Tryz.func32,Tryz.ntmps32
 go_upto_region 7 with (first
  |(go_at_call 379;refine Gc.out.mono ?_;rintro e w1⟨rfl,rfl⟩)
  |(go_at_call 378;refine HC.out.mono ?_;rintro e w2⟨rfl,Gb⟩;have Ga:=hid Gb;clear Gb))
 by_cases hck:ck=0
 ·subst hck
  go_wp2_with fail
  go_ret2;refine⟨?_,Ga.out.alloc Ga.out.size _⟩;rw[if_pos rfl];exact⟨w2.heap.size,Ga.out.size,rfl,Blk.new _ _ _⟩
 ·have d0:((ck:Int) != 0)=true:=by rw[bne,beq_eq_false_iff_ne.2 oM];rfl
  go_wp2_with fail
  go_ret2;refine⟨?_,Ga.out⟩;rw[if_neg hck];rfl
end
end
section
open Go.RowKit Go.Maps Go.Shelf Go.Sort
def Tryz.sortNm_ren : Go.Shelf.Ren := ⟨fun|6 => 199|15 => 233|14 => 261|28 => 292|29 => 293|20 => 304|21 => 305|22 => 306|23 => 307|24 => 308|25 => 309|26 => 310|27 => 311|46 => 338|47 => 323|48 => 324|49 => 339|50 => 340|57 => 349|n => n,fun|22 => 192|24 => 195|25 => 302|3 => 3|39 => 239|0 => 0|53 => 331|55 => 32|4 => 4|46 => 392|45 => 391|50 => 246|5 => 5|9 => 9|66 => 426|70 => 429|76 => 446|77 => 447|n => n,fun|n => n⟩
theorem Tryz.sortNm : Go.Proofs.SlLaysF0.n6 Tryz.prog Tryz.sortNm_ren := {
  mixed := by kernel_rfl
  f6 := ⟨Tryz.f199.name,by decide,Tryz.func199.trans (congrArg some (by kernel_rfl))⟩
  f14 := ⟨Tryz.f261.name,by decide,Tryz.func261.trans (congrArg some (by kernel_rfl))⟩
  f15 := Tryz.func233.trans (congrArg some (by kernel_rfl))
  f20 := ⟨Tryz.f304.name,by decide,Tryz.func304.trans (congrArg some (by kernel_rfl))⟩
  f21 := ⟨Tryz.f305.name,by decide,Tryz.func305.trans (congrArg some (by kernel_rfl))⟩
  f22 := ⟨Tryz.f306.name,by decide,Tryz.func306.trans (congrArg some (by kernel_rfl))⟩
  f23 := ⟨Tryz.f307.name,by decide,Tryz.func307.trans (congrArg some (by kernel_rfl))⟩
  f24 := ⟨Tryz.f308.name,by decide,Tryz.func308.trans (congrArg some (by kernel_rfl))⟩
  f25 := ⟨Tryz.f309.name,by decide,Tryz.func309.trans (congrArg some (by kernel_rfl))⟩
  f26 := ⟨Tryz.f310.name,by decide,Tryz.func310.trans (congrArg some (by kernel_rfl))⟩
  f27 := ⟨Tryz.f311.name,by decide,Tryz.func311.trans (congrArg some (by kernel_rfl))⟩
  f28 := Tryz.func292.trans (congrArg some (by kernel_rfl))
  f29 := Tryz.func293.trans (congrArg some (by kernel_rfl))
  f46 := ⟨Tryz.f338.name,by decide,Tryz.func338.trans (congrArg some (by kernel_rfl))⟩
  f47 := Tryz.func323.trans (congrArg some (by kernel_rfl))
  f48 := Tryz.func324.trans (congrArg some (by kernel_rfl))
  f49 := ⟨Tryz.f339.name,by decide,Tryz.func339.trans (congrArg some (by kernel_rfl))⟩
  f50 := ⟨Tryz.f340.name,by decide,Tryz.func340.trans (congrArg some (by kernel_rfl))⟩
  f57 := ⟨Tryz.f349.name,by decide,Tryz.func349.trans (congrArg some (by kernel_rfl))⟩
  t0 := Tryz.underlying0
  a0 := Tryz.isAgg0
  z0 := Tryz.sizeOf0
  v0 := Tryz.zeroValue0
  t3 := Tryz.underlying3
  a3 := Tryz.isAgg3
  z3 := Tryz.sizeOf3
  v3 := Tryz.zeroValue3
  t4 := Tryz.underlying4
  a4 := Tryz.isAgg4
  z4 := Tryz.sizeOf4
  v4 := Tryz.zeroValue4
  t5 := Tryz.underlying5
  a5 := Tryz.isAgg5
  z5 := Tryz.sizeOf5
  v5 := Tryz.zeroValue5
  t9 := Tryz.underlying9
  a9 := Tryz.isAgg9
  z9 := Tryz.sizeOf9
  v9 := Tryz.zeroValue9
  t22 := Tryz.underlying192
  a22 := Tryz.isAgg192
  z22 := Tryz.sizeOf192
  v22 := Tryz.zeroValue192
  t25 := Tryz.underlying302
  a25 := Tryz.isAgg302
  z25 := Tryz.sizeOf302
  v25 := Tryz.zeroValue302
  t39 := Tryz.underlying239
  a39 := Tryz.isAgg239
  z39 := Tryz.sizeOf239
  v39 := Tryz.zeroValue239
  t45 := Tryz.underlying391
  a45 := Tryz.isAgg391
  z45 := Tryz.sizeOf391
  v45 := Tryz.zeroValue391
  t46 := Tryz.underlying392
  a46 := Tryz.isAgg392
  z46 := Tryz.sizeOf392
  v46 := Tryz.zeroValue392
  t50 := Tryz.underlying246
  a50 := Tryz.isAgg246
  z50 := Tryz.sizeOf246
  v50 := Tryz.zeroValue246
  t53 := Tryz.underlying331
  a53 := Tryz.isAgg331
  z53 := Tryz.sizeOf331
  v53 := Tryz.zeroValue331
  t55 := Tryz.underlying32
  a55 := Tryz.isAgg32
  z55 := Tryz.sizeOf32
  v55 := Tryz.zeroValue32
  t66 := Tryz.underlying426
  a66 := Tryz.isAgg426
  z66 := Tryz.sizeOf426
  v66 := Tryz.zeroValue426
  t70 := Tryz.underlying429
  a70 := Tryz.isAgg429
  z70 := Tryz.sizeOf429
  v70 := Tryz.zeroValue429
  t76 := Tryz.underlying446
  a76 := Tryz.isAgg446
  z76 := Tryz.sizeOf446
  v76 := Tryz.zeroValue446
  t77 := Tryz.underlying447
  a77 := Tryz.isAgg447
  z77 := Tryz.sizeOf447
  v77 := Tryz.zeroValue447 }
theorem y0b.of{l d'}(hp:PermIn 0 l.toArray.size l.toArray d')(hs:SortedIn (ltOf nmCf) 0 l.toArray.size d'):y0b l d'.toList:=by
 obtain⟨h1,_,h3⟩:=hp;have h1:d'.size=l.length:=h1;have h3:(d'.extract 0 l.length).toList.Perm (l.toArray.extract 0 l.length).toList:=h3;have hs:SortedIn (ltOf nmCf) 0 l.length d':=hs;have hl:d'.toList.length=l.length:=by rw[Array.length_toList];exact h1
 refine⟨hl,?_,fun i j hi hj hij hc=>?_⟩
 ·have e1:(d'.extract 0 l.length)=d':=by rw[<- h1];exact Array.extract_size
  have e2:(l.toArray.extract 0 l.length)=l.toArray:=by
   have h4:=Array.extract_size (xs:=l.toArray);rw[List.size_toArray]at h4;exact h4
  rw[e1,e2]at h3;exact h3
 ·have h4:=hs i j (Nat.zero_le _) hij oM
  rw[getElem!_pos d' j (by rw[h1];omega),getElem!_pos d' i (by rw[h1];omega)]at h4;unfold ltOf at h4;exact of_decide_eq_false h4 hc
theorem y4v{w base m c A l}(h:w.ownsRow base 195 2 (.slice A m c) m (z0b l))(hm:m<=100):
  () 199 #[.slice A m c,.func (.func 200) #[] #[]] w fun e w'=>e=.returned (.tuple #[])/\∃l',y0b l l'/\w'.ownsRow base 195 2 (.slice A m c) m (z0b l')/\Below base w w':=by
 have Gb:l.length=m:=by have:=h.1;rw[z0q]at this;omega
 by_cases h0:m=0
 ·subst h0
  have hn:l=[]:=List.length_eq_zero_iff.1 Gb;have Ga:=AnyF.slices_SortFunc_none Tryz.sortNm A c (.func (.func 200) #[] #[]) w;change () 199 _ _ _ at Ga;refine Ga.mono ?_;rintro e w'⟨rfl,rfl⟩;refine⟨rfl,[],⟨by rw[hn],by rw[hn],fun i j hi=>absurd hi (by simp)⟩,?_,Below.refl _ _⟩;rw[hn]at h;exact h
 ·have hA:∃g,A=some (g,0)/\base<=g/\g<w:=by
   rcases h.2 with ⟨h1,h2⟩|⟨g,cap,cur,h1,h2,h3,_⟩
   ·exact absurd h2 h0
   ·injection h1 with h1
    refine⟨g,h1,h2,?_⟩;rcases Nat.lt_or_ge g w with h|h
    ·exact h
    ·rw[Array.getElem?_eq_none h]at h3
     cases h3
  obtain⟨g,rfl,hb,hg⟩:=hA;have eg:∀args w,(callFunc 200 args).run Tryz.prog w=.ok (.enter 200 args) w:=enters_of Tryz.func200 (by kernel_rfl) rfl;have Gc:CmpLays Tryz.prog 200 #[] z7s 2 nmCf g 0 l.toArray.size w:=fun _ _ _ _ x y=>x3l (strN x.1) (strN y.1) x.2 y.2 _
  have Ga:=AnyQ.slices_SortFunc Tryz.sortNm 2 Tryz.isAgg195 Tryz.sizeOf195 z7s (fun _=>rfl) (fun x v hv=>by simp[z7s]at hv;rcases hv with rfl|rfl<;>rfl) nmCf v4h 200 #[] g 0 c l.toArray w eg Gc (w2e h) hg (by rw[List.size_toArray,Gb];omega);change () 199 _ _ _ at Ga;rw[List.size_toArray,Gb]at Ga;refine Ga.mono ?_;rintro e w'⟨rfl,d',n,os,hp,hs,rfl⟩;have Gd:PermIn 0 l.toArray.size l.toArray d':=by rw[List.size_toArray,Gb];exact hp
  have Ge:SortedIn (ltOf nmCf) 0 l.toArray.size d':=by rw[List.size_toArray,Gb];exact hs
  have hS:=y0b.of Gd Ge;obtain⟨g1,g2⟩:=x8p (n:=n) (os:=os) h hS.len hb;exact⟨rfl,d'.toList,hS,g1,g2⟩
end
section
open Go.RowKit Go.Maps Go.Sort Go.Shelf
theorem w9a(W:World)(b:Nat)(ho:W.ownsMap Tryz.prog 32 oneR b 0 (.map [])):
  () 91 #[.func (.func 179) #[] #[(W,())]] (W.alloc (.cells #[.map (some b)] 144)) fun e w'=>(∃A c,e=.returned (.slice A 0 c))/\Below (W.alloc (.cells #[.map (some b)] 144)).heap.size (W.alloc (.cells #[.map (some b)] 144)) w':=by
 refine(z7a _ _ (enters_of Tryz.func179 (by kernel_rfl) rfl) (z2w (.map []:DataW Unit)) (Maps.size (.map []:DataW Unit)) (by simp[Maps.size]) _ (y6t 9 W.heap.size b 0 _ _ (by simp) ((Blk.new W 144 #[.map (some b)]).cell 0) (ho.alloc _) oM)).mono ?_;rintro e w'⟨A,m,c,ys,rfl,hp,hm,ho,hb⟩;have hy:ys=[]:=by have:=hp.length_eq;simp[z2w]at this;exact this
 subst hy;subst hm;exact⟨⟨A,c,rfl⟩,hb⟩
theorem w8z(W:World)(b:Nat)(ho:W.ownsMap Tryz.prog 32 oneR b 0 (.map [])):
  () 91 #[.func (.func 245) #[] #[(W,())]] (W.alloc (.cells #[.map (some b)] 143)) fun e w'=>(∃A c,e=.returned (.slice A 0 c))/\Below (W.alloc (.cells #[.map (some b)] 143)).heap.size (W.alloc (.cells #[.map (some b)] 143)) w':=by
 refine(z7a _ _ (enters_of Tryz.func245 (by kernel_rfl) rfl) (z2w (.map []:DataW Unit)) (Maps.size (.map []:DataW Unit)) (by simp[Maps.size]) _ (y0m 9 W.heap.size b 0 _ _ (by simp) ((Blk.new W 143 #[.map (some b)]).cell 0) (ho.alloc _) oM)).mono ?_;rintro e w'⟨A,m,c,ys,rfl,hp,hm,ho,hb⟩;have hy:ys=[]:=by have:=hp.length_eq;simp[z2w]at this;exact this
 subst hy;subst hm;exact⟨⟨A,c,rfl⟩,hb⟩
theorem y0c w a b c d x y kept (ho:w.ownsMap Tryz.prog 32 oneR c 0 (.map [])) :
  Calls Tryz.prog 89 #[stV a b c d x y,.bool kept] w fun e w'=>e=.returned (.slice none 0 0)/\Blw w w':=by
 have Ga:Blw w (w.alloc (.cells #[.map (some a),.map (some b),.map (some c),.map (some d),.bool x,.bool y] 146)):=(Below.refl _ w).alloc (nL _) _;have HS:=hid (w8z _ c (ho.alloc (.cells #[.map (some a),.map (some b),.map (some c),.map (some d),.bool x,.bool y] 146)));have HB:=hid Ga;have Gc:=hid ((Blk.new w 146 #[.map (some a),.map (some b),.map (some c),.map (some d),.bool x,.bool y]));clear ho Ga;unfold stV;go_enter Tryz.func89,Tryz.ntmps89
 go_wp2_with fail
 generalize w.alloc (.cells #[.map (some a),.map (some b),.map (some c),.map (some d),.bool x,.bool y] 146)=W at*;refine(y3q _ _).mono ?_;rintro e w1⟨rfl,rfl⟩;go_wp2_with fail
 refine HS.out.mono ?_;rintro e w2⟨⟨A,c0,rfl⟩,hb2⟩;have Gb:=hid (HB.out.trans ((((Below.refl _ W).alloc (nL _) _).trans (hb2.mono (by simp))).mono HB.out.size));clear hb2 HS;go_wp2_with fail
 refine wp_loop_rounds 1 ?_;rw[rounds_succ];go_wp2;go_ret;exact⟨rfl,Gb.out⟩
end
section
open Go.RowKit Go.Maps
section
variable{P:Program}(w:World)
theorem y3k{ops rest o a Q} s x t
  (hw:Region.wanted o (yielded ops a.tmps)=true)
  (ho:o.op=.call { callee := .builtin .append,args:=#[s,x],argTypes:=#[t,t] })
  base e i z size bytes (ht:P.underlying t=some (.slice e)) (hi:P.info? e=some i) (hz:i.zero=some z)
  (hsize:i.size=size) (hby:i.bytes=bytes) (hzs:z.cells.size=size) (hsz:0<size)
  v n (xs:List Value) (hs:a.eval s=v) (hown:w.ownsRow base e size v n xs)
  B A m c (news:List Value) (hx:a.eval x=.slice A m c) (hr:z0d w B size A m news) (h1:∀u∈news,u.oneCell'=true)
  (h63:n+m<=maxLen) (hbytes:(n+m)*bytes<=140737488355328) (hbase:base<=w)
  (h:∀A' n' c' w',n'=n+m->w'.ownsRow base e size (.slice A' n' c') n' (xs++news)->w.grownBy w' v.ownBlock->((Value.slice A' n' c').ownBlock=v.ownBlock\/(Value.slice A' n' c').ownBlock=some w.heap.size)->wpList P ops Q rest (a.put o.dst (.slice A' n' c')) w'):wpList P ops Q (o::rest) a w:=by
 refine Go.BigFrame.wpList_want hw fun K hK=>?_
 refine z3x w s x t ho base e i z size bytes ht hi hz hsize hby hzs hsz v n xs hs hown B A m c news hx hr h1 h63 hbytes hbase fun v' w' h2 h3 h4=>?_
 obtain⟨A',c',rfl⟩:=z4f h2;exact hK _ _ (h A' _ c' w' rfl h2 h3 h4)
end
section
variable{a:DA}{L T s n K:Nat}{x:HA}{cs:Nat->CS}{f:Nat->Option Nat}{N m b0:Nat}{S:Fp}{cur:Nat->Nat}{w w':World}{d r:Nat}
structure LoS(x:HA)(d r b0 B:Nat):Prop where
 h:x.h<B
 gs:x.gs<B
 pl:x.pl<B
 mr:x.mr<B
 mh:x.mh<B
 d:d<B
 r:r<B
 b:b0<=B
theorem SD.lo(h:SD a L T s n K x cs f N m b0 S cur w d r):LoS x d r b0 w:=by
 obtain⟨h1,h2,h3,h4,h5⟩:=h.ds.hs.lt;obtain⟨_,_,l3,_⟩:=h.ds.lo;exact⟨h1,h2,h3,h4,h5,h.dir.lt,h.log.lt,oM⟩
theorem SD.chg{Z B}(h:SD a L T s n K x cs f N m b0 S cur w d r)(hl:LoS x d r b0 B)(hc:Chg Z w w')(hZ:∀k,Z k->¬S k/\B<=k):SD a L T s n K x cs f N m b0 S cur w' d r:=by
 have hn:∀g,g<B->¬Z g:=fun g hg hz=>by have:=(hZ g hz).2;omega
 obtain⟨l1,l2,l3,l4,l5,l6,l7,l8⟩:=h.ds.lo;refine { h with ds:={ h.ds with dev:=h.ds.dev.chg hc (fun j hj hz=>(hZ j hz).1 hj),hs:=h.ds.hs.chg hc (hn _ hl.h) (hn _ hl.gs) (hn _ hl.pl) (hn _ hl.mr) (hn _ hl.mh),tab:=h.ds.tab.chg hc (hn _ (by have:=hl.b;omega)),pay:=fun i hi=>?_ },dir:=hc.blk h.dir (hn _ hl.d),log:=hc.blk h.log (hn _ hl.r) };exact(World.cell?_of_block (w:=w) (hc.block _ h.ds.pay.size (hn _ (by have:=hl.b;show 0<B;omega)))).trans (h.ds.pay i hi)
theorem At.inL{q k i}(h:At s K cs q k i)(hd:DS a L T s n K x cs f N m b0 S cur w):pOff q+8*payW (cs k).cl<=64*L/\pOff q%8=0:=by
 have h1:=h.lo;have h2:=off_lt h.2.2.1;have h3:=hd.line h.1;omega
end
end
section
open Go.RowKit Go.Maps
theorem z6h p w : (method 585 58 (.pointer p) "Publish").run Tryz.prog w=.ok (99,.pointer p) w := by kernel_rfl
theorem z8g p w : (nilAhead 585 58 (.pointer (some p)) "Publish").run Tryz.prog w=.ok (some false) w := by kernel_rfl
theorem w1p n (hn:n<8) w:() 83 #[[n]] w fun e w'=>e=.returned (3328+8*n:Nat)/\w=w':=by
 have hc:n=0\/n=1\/n=2\/n=3\/n=4\/n=5\/n=6\/n=7:=oM;rcases hc with rfl|rfl|rfl|rfl|rfl|rfl|rfl|rfl
 all_goals
  go_enter Tryz.func83,Tryz.ntmps83
  go_wp2;go_ret;exact⟨rfl,rfl⟩
section
variable{a:DA}{L T s n K:Nat}{x:HA}{cs:Nat->CS}{f:Nat->Option Nat}{N m b0:Nat}{S:Fp}{cur:Nat->Nat}{w w':World}{d r:Nat}
theorem z6a.back{us keep free n1 e W}(hW:Blw w W)(h:z6a a L T s n K x cs f N m b0 S cur W d r us keep free n1 e w'):z6a a L T s n K x cs f N m b0 S cur w d r us keep free n1 e w':=by
 obtain⟨ks,V,cm,S',h1,h2,h3,h4,h5,h6,h7,h8⟩:=h;exact⟨ks,V,cm,S',h1,h2,h3,h4,h5,h6,(Chg.of_below hW).trans h7 (fun j hj => .inl hj),fun k hk=>(h8 k hk).imp id (fun h=>Nat.le_trans hW.size h)⟩
theorem x4w{ln cl i}(h:z8q ln cl i):8*ln<=i:=by
 rcases h with h|⟨j,_,h⟩<;>omega
theorem w1q(hd:DS a L T 53 n K x cs f N m b0 S cur w) i q (hi:i<8) (hq:q<18446744073709551616):UOk L 0 53 K cs [(3328+8*i,q)]:=by
 have hK:=hd.hK;refine⟨fun e he=>?_,fun e he=>?_,fun e he k hk hl=>?_,by simp⟩
 ·simp at he
  subst he;exact⟨by show(3328+8*i)%8=0;omega,by show 3328+8*i<64*L;omega,.inr (by show 64*0+64*26<=3328+8*i;omega)⟩
 ·simp at he
  subst he;exact hq
 ·simp at he
  subst he;have Ga:z4d 53 cs k ((3328+8*i)/8):=hl;unfold z4d at Ga;split at Ga
  ·have:=x4w Ga
   omega
  ·omega
theorem v1l(h:SD a L T 53 n K x cs f N m b0 S cur w d r)(hK12:K<=12)(g i q:Nat)(hi:i<8)(hq:q<18446744073709551616)(A1:Option Addr)(n1 c1:Nat)(keep:List Nat)(h1:z0d w w.heap.size 1 A1 n1 (z0g keep))(hA1:∀ad,A1=some ad->¬sfp S x ad.block)(hk:∀p∈keep,y7p 53 K cs f p)(hn:(keep.map pOff).Nodup)(hlen:keep.length<=20)(hT:T+800<=1000000000)(hN:N+n1<=1000000000):
  () 19 #[(g,()),dirV d,[i],q,.slice A1 n1 c1] w (z6a a L T 53 n K x cs f N m b0 S cur w d r [(3328+8*i,q)] keep [] n1):=by
 have Gb:=hid (w1p i hi);have Gc:Hid (∀(W W':World),W=w.drew->W'=W.alloc (.cells #[(3328+8*i:Nat),q] 117)->() 99 #[(d,()),.slice (some (W,())) 1 1,.slice A1 n1 c1,((),())] W' (z6a a L T 53 n K x cs f N m b0 S cur w d r [(3328+8*i,q)] keep [] n1)):=hid (fun W W' hW hW'=>by
  subst hW hW';have hb:Blw w (w.drew.alloc (.cells #[(3328+8*i:Nat),q] 117)):=(Below.refl _ _).drew.alloc (nL _) _;have h0:=y7b (h.below hb) hK12 (some (w.drew.heap.size,())) A1 none 1 1 n1 c1 0 0 [(3328+8*i,q)] keep [] (z6i w.drew _ q) (fun h=>by cases h) ((h1.below hb).more hb.size) ⟨rfl,fun h=>absurd h (Nat.lt_irrefl 0)⟩ hA1 hk (fun p hp=>absurd hp (by simp)) (by rw[List.append_nil];exact hn) (w1q h.ds i q hi hq) (by simp;omega) hT hN;exact h0.mono (fun e w' h=>z6a.back hb h))
 have hm:=z6h (some (d,()));have Ge:=z8g (d,());have Gd:∀(fn:Fn)(first cap:Array Value)(w:World),(Instr.makeFunc fn first cap).run Tryz.prog w=.ok (.func fn first cap) w:=fun _ _ _ _=>rfl
 generalize 3328+8*i=O at*;clear h h1 hA1 hk hn;unfold dirV;go_enter Tryz.func19,Tryz.ntmps19
 go_upto_region 1 with fail
 refine z0e (fun _=>True) 10 [] [(1,0),(1,1),(1,3),(1,6),(1,7),(1,8),(1,9),(0,2),(1,4),(0,5)] (by kernel_rfl) (by kernel_rfl) trivial ?_;refine tkG (.iface 58 (d,())) ?_;refine tkG [i] ?_;refine tkG q ?_;refine tkG (.slice A1 n1 c1) ?_;refine tkH (.func (.method "Publish") #[.iface 58 (d,())] #[]) (fun w' hS => ?_) ?_
 ·go_simp
 refine tkH (.func (.method "Publish") #[.iface 58 (d,())] #[]) (fun w' hS => ?_) ?_
 ·go_simp
 refine tkG (.iface 58 (d,())) ?_;refine z0c (by rfl) ?_;go_wp2_with (go_at_call 83;refine(Gb.out _).mono ?_;rintro e w1⟨rfl,rfl⟩)
 refine⟨trivial,?_⟩;refine tkG (.agg #[O,q]) ?_;refine z0c (by rfl) ?_;go_wp2_with fail
 refine⟨trivial,?_⟩;show wpList _ _ _ _ _ _;simp only[List.drop_succ_cons,List.drop_zero];go_wp2_with (go_at_call 99;refine(Gc.out _ _ rfl rfl).mono ?_;intro e w2 h2;have Ga:=hid h2;clear h2;obtain⟨ks,V,cm,S',rfl,q2,q3,q4,q5,q6,q7,q8⟩:=Ga.out;clear q2 q3 q4 q5 q6 q7 q8)
 refine NoPanic.normal ?_;go_wp2_with fail
 go_ret;exact Ga.out
end
end
end Go.Proofs.YtmhbokcccjmfgaaGreatDoor
