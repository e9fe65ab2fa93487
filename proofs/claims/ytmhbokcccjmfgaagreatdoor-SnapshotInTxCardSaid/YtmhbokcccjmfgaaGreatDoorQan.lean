/- part 14 -/
import Derived.Test.YtmhbokcccjmfgaaGreatDoorQaj
import Derived.Lib.ConvBytes
set_option maxRecDepth 100000
set_option maxHeartbeats 16000000
namespace Go.Proofs.YtmhbokcccjmfgaaGreatDoor
open Go.Lib (hid)
section
open Go.RowKit
def unpB(xs:List Nat)(n:Nat):List Nat:=(List.range n).map fun i=>xs.getD (i/8) 0/256^(i%8)%256
theorem y1i xs n:(unpB xs n).length=n:=by simp[unpB]
theorem w3k{p}(hp:∀b∈p,b<256):unpB (z3r p) p.length=p:=by
 apply List.ext_getElem
 ·simp[unpB]
 ·intro i h1 h2
  obtain⟨x,hx,he⟩:=x8b hp h2;simp only[unpB,List.getElem_map,List.getElem_range];rw[List.getD_eq_getElem?_getD,hx];exact he
def z4h(xs:List Nat)(n:Nat):Bool:=decide (n%8≠0)&&decide (xs.getD (n/8) 0/256^(n%8)≠0)
theorem x3s{p}(hp:∀b∈p,b<256):z4h (z3r p) p.length=false:=by
 unfold z4h;by_cases h:p.length%8=0
 ·simp[h]
 ·have e:(z3r p).getD (p.length/8) 0=lev ((p.drop (8*(p.length/8))).take 8):=by
   rw[List.getD_eq_getElem?_getD];unfold z3r;rw[List.getElem?_map,List.getElem?_range oM];rfl
  have hl:((p.drop (8*(p.length/8))).take 8).length=p.length%8:=by simp;omega
  have h1:=x5d ((p.drop (8*(p.length/8))).take 8) (fun b hb=>hp b (List.mem_of_mem_drop (List.mem_of_mem_take hb)));rw[hl]at h1;rw[e,Nat.div_eq_of_lt h1];simp
def RetB(w:World)(l:List Nat)(e:Ending)(w':World):Prop:=∃A m c,e=.returned (.tuple #[.slice A m c,()])/\m=l.length/\z0d w' w' 1 A m (u8s l)/\(∀ad,A=some ad->w<=ad.block)/\Blw w w'
def z4r(w:World)(xs:List Nat)(n:Nat)(e:Ending)(w':World):Prop:=if z4h xs n=true then e=.returned (.tuple #[((),()),.int .i64 11])/\Blw w w' else RetB w (unpB xs n) e w'
theorem v0e:(Tryz.prog.info? 5).map (fun i=>(i.zero,i.size,i.bytes))=some (some (.int .u8 0),1,1):=by kernel_rfl
theorem v4g n (hn:n<=1000000) W:(Instr.makeSlice 24 [n] [n]).run Tryz.prog W=.ok (W,0,n,n) (W.alloc (.cells (madeCells #[.int .u8 0] n) 5)):=by
 obtain⟨j0,Gb,Gc,Ga,Gd⟩:=info_parts v0e;have h:=run_makeSlice (P:=Tryz.prog) W 24 5 j0 (.int .u8 0) Tryz.underlying24 Gb Gc .i64 .i64 (n:Int) (n:Int) oM oM (by rw[Ga];omega) (by rw[Gd];omega) oM;rw[Ga,Int.toNat_natCast,Nat.mul_one]at h;exact h
theorem z9w A q c n xs w (h:z0d w w.heap.size 1 A q (z0g xs)) (hx:∀x∈xs,x<18446744073709551616) (hn:n<=100000) (hq:(n+7)/8=q) :
  () 237 #[.slice A q c,[n]] w (z4r w xs n):=by
 have Gh:xs.length=q:=by have:=h.1;simp[z0g]at this;omega
 have HW:=hid (y3j n hn);rw[hq]at HW;have HR:=hid h;have HX:=hid hx;have HL:=hid Gh;have HQ:=hid hq;have Gw:=v4g n oM;have Gy:n<=8*q:=oM;have Gz:q<=100000:=oM;have Gx:decide ((n:Int)<0)=false:=dF;have HC:Hid (z4h xs n=true->n%8≠0):=hid (fun hb=>by unfold z4h at hb;simp at hb;exact hb.1);clear h hx Gh;have HI:Hid (n%8≠0->∃(j b Gb:Nat),(q:Int)-1=(j:Int)/\j<q/\A=some (b,Gb)/\w.cell? (b,Gb+j)=some ↑(xs.getD (n/8) 0)/\xs.getD (n/8) 0<18446744073709551616/\((((xs.getD (n/8) 0:Nat):Int)/2^(n%8*8)) != 0)=z4h xs n):=hid (fun h8=>by
  have hj:n/8<q:=oM;obtain⟨hl,b,Gb,hA,Gf,f0⟩:=z4q HR.out hj;have e:xs.getD (n/8) 0=xs[n/8]:=by rw[List.getD_eq_getElem?_getD,List.getElem?_eq_getElem hl];rfl
  refine⟨n/8,b,Gb,oM,hj,hA,by rw[e];exact f0,by rw[e];exact HX.out _ (List.getElem_mem hl),?_⟩;have e2:(((xs.getD (n/8) 0:Nat):Int)/2^(n%8*8))=((xs.getD (n/8) 0/256^(n%8):Nat):Int):=by
   rw[show(256:Nat)=2^8 by decide,<- Nat.pow_mul,Nat.mul_comm 8 (n%8)];push_cast;rfl
  rw[e2];unfold z4h;generalize xs.getD (n/8) 0/256^(n%8)=z;by_cases hz:z=0
  ·subst hz;simp
  ·have h1:(((z:Nat):Int) != 0)=true:=by rw[bne,beq_eq_false_iff_ne.2 oM];rfl
   rw[h1,decide_eq_true h8,decide_eq_true hz];rfl)
 by_cases hb:z4h xs n=true
 ·have h8:=HC.out hb
  obtain⟨j,b,Gb,ej,Gr,hA,f0,Ga,hz⟩:=HI.out h8;subst hA;rw[hb]at hz;have Gk:=hid hb;have e1:(((n:Int)%8) != 0)=true:=by rw[bne,beq_eq_false_iff_ne.2 oM];rfl
  have Gm:wrap64 ((q:Int)-1)=(j:Int):=by rw[ej];exact IntWalk.wrap64_in _ oM
  generalize xs.getD (n/8) 0=z at*;have Gp:(0:Int)<=(j:Int):=oM;have Gq:(j:Int)<(q:Int):=oM;clear HI HC hb h8;go_enter Tryz.func237,Tryz.ntmps237
  go_wp2_with (go_at_call 234;refine(HW.out _).mono ?_;rintro e w1⟨rfl,rfl⟩)
  go_ret2;unfold z4r;rw[if_pos Gk.out];exact⟨rfl,Below.refl _ _⟩
 ·have Gl:=hid hb
  go_enter Tryz.func237,Tryz.ntmps237
  go_upto_region 5 with (go_at_call 234;refine(HW.out _).mono ?_;rintro e w1⟨rfl,rfl⟩)
  go_cut [31]from 15 to 31 (fun v wx=>v=↑false/\Hid (wx=w))
  case first =>
   by_cases h8:n%8=0
   ·have e1:(((n:Int)%8) != 0)=false:=by rw[bne,beq_iff_eq.2 oM];rfl
    clear HI HC hb;go_wp2_with fail
    go_meet;exact⟨rfl,hid rfl⟩
   ·obtain⟨j,b,Gb,ej,Gr,hA,f0,Ga,hz⟩:=HI.out h8
    subst hA;have Gn:z4h xs n=false:=by simpa using hb
    rw[Gn]at hz;have e1:(((n:Int)%8) != 0)=true:=by rw[bne,beq_eq_false_iff_ne.2 oM];rfl
    have Gm:wrap64 ((q:Int)-1)=(j:Int):=by rw[ej];exact IntWalk.wrap64_in _ oM
    generalize xs.getD (n/8) 0=z at*;have Gp:(0:Int)<=(j:Int):=oM;have Gq:(j:Int)<(q:Int):=oM;clear HI HC hb h8;go_wp2_with fail
    go_meet;exact⟨rfl,hid rfl⟩
  case rest =>
   obtain⟨rfl,Gj⟩:=hcut;have hw:=Gj.out.symm;subst hw;clear Gj HI HC hb;go_wp2;go_loopw [36] (fun i wr=>∃k:Nat,k<=n/\i=↑[k]/\Hid (∃cs,Blk wr w.heap.size 5 cs/\cs.size=n/\∀j,j<k->cs[j]?=some (.int .u8 ((xs.getD (j/8) 0/256^(j%8)%256:Nat):Int)))/\Hid (Blw w wr)) (fun i _=>n-(Go.RowKit.intOf i).toNat)
   case atStart =>
    exact⟨0,Nat.zero_le _,rfl,hid ⟨_,Blk.new w _ _,size_madeCells _ _,fun j hj=>absurd hj oM⟩,hid ((Below.refl _ _).alloc (nL _) _)⟩
   case round =>
    obtain⟨k,hk,rfl,HC,HB⟩:=hrel;by_cases hlt:k<n
    ·have Gt:k/8<q:=oM
     obtain⟨hl,b,Gb,hA,Gf,f0⟩:=z4q (HR.out.below HB.out) Gt;subst hA;obtain⟨cs,hB,Gi,Gd⟩:=HC.out;have e:xs.getD (k/8) 0=xs[k/8]:=by rw[List.getD_eq_getElem?_getD,List.getElem?_eq_getElem hl];rfl
     have Ga:=HX.out _ (List.getElem_mem hl);rw[<- e]at f0 Ga;have e2:(((xs.getD (k/8) 0:Nat):Int)/2^(k%8*8))%256=((xs.getD (k/8) 0/256^(k%8)%256:Nat):Int):=by
      rw[show(256:Nat)^(k%8)=2^(k%8*8) by rw[show(256:Nat)=2^8 by decide,<- Nat.pow_mul,Nat.mul_comm 8 (k%8)]];push_cast;rfl
     have Gg:k<cs.size:=oM;have HN:Hid (∃cs',Blk (wr.setCell (w,k) [[xs.getD (k/8) 0/256^(k%8)%256]]) w.heap.size 5 cs'/\cs'.size=n/\∀j,j<k+1->cs'[j]?=some (.int .u8 ((xs.getD (j/8) 0/256^(j%8)%256:Nat):Int))):=hid ⟨_,hB.set_ k _,by simp[Gi],fun j hj=>by
      rw[Array.getElem?_setIfInBounds];by_cases e:k=j
      ·subst e
       simp[Gg]
      ·rw[if_neg e,Gd j oM]⟩
     have Ge:Hid (Blw w (wr.setCell (w,k) [[xs.getD (k/8) 0/256^(k%8)%256]])):=hid (HB.out.setCell (nL _) _);have f1:wr.cell? (w,k)=some cs[k]:=by rw[hB.cell,Array.getElem?_eq_getElem Gg]
     have z1:wr.frozen? (w,k)=false:=hB.frozen _;have Gc:=hid e2;clear e Gd HC Gf hB e2;generalize cs[k]=ck at*;generalize xs.getD (k/8) 0=z at*;generalize z/256^(k%8)%256=r at*;have G0:(0:Int)<=(k:Int):=oM;have G1:(k:Int)<(n:Int):=oM;have G2:(k:Int)/8<(q:Int):=oM;go_wp2;go_roundw
     case rel =>
      first
       |(
         refine⟨k+1,oM,by go_num,?_,?_⟩
         ·rw[Gc.out];exact HN
         ·rw[Gc.out];exact Ge)
       |(
         repeat apply Exists.intro
         refine⟨?_,rfl⟩;refine⟨k+1,oM,by go_num,?_,?_⟩
         ·rw[Gc.out];exact HN
         ·rw[Gc.out];exact Ge)
     case measure=>simp[Go.RowKit.intOf];omega
    ·have Gs:k=n:=oM
     have HF:Hid (z4r w xs n (.returned (.tuple #[(w,0,n,n),()])) wr):=hid (by
      obtain⟨cs,hB,Gi,Gd⟩:=HC.out;unfold z4r;rw[if_neg Gl.out];refine⟨_,n,n,rfl,(y1i _ _).symm,z6j hB ?_ ?_,fun ad h=>by injection h with h;subst h;exact nL _,HB.out⟩
      ·simp[u8s,y1i]
      ·intro j u hu
       have hj:j<n:=by
        have h1:=(List.getElem?_eq_some_iff.1 hu).1;simp[u8s,y1i]at h1;omega
       rw[Gd j oM,<- hu];simp[u8s,unpB,hj])
     have Gu:decide ((k:Int)<(n:Int))=false:=dF;have Gv:decide (k<n)=false:=decide_eq_false hlt;clear Gs hlt hk HC;go_wp2;go_ret2;exact HF.out
end
section
open Go.RowKit Go.Maps
def allZ(l:List Nat):Bool:=l.all (fun x=>x==0)
theorem z9a A n c xs w (h:z0d w w 1 A n (z0g xs)) (hn:n<=100000) :
  () 388 #[.slice A n c] w fun e w'=>e=.returned (allZ xs)/\Blw w w':=by
 have Ge:xs.length=n:=by have:=h.1;simp[z0g]at this;omega
 have HR:=hid h;have HL:=hid Ge;have Gc:Hid (Blw w w):=Below.refl _ _;have Gd:Hid (allZ xs=allZ (xs.drop 0)):=hid (by rw[List.drop_zero]);clear h Ge;go_enter Tryz.func388,Tryz.ntmps388
 go_wp2;go_loopw [7] (fun v wr=>∃k:Nat,k<=n/\v=↑[k]/\Hid (allZ xs=allZ (xs.drop k))/\Hid (Blw w wr)) (fun v _=>n-(Go.RowKit.intOf v).toNat)
 case atStart=>exact⟨0,Nat.zero_le _,rfl,Gd,Gc⟩
 case round =>
  clear Gd Gc;obtain⟨k,hk,rfl,HN,H⟩:=hrel;by_cases hlt:k<n
  ·obtain⟨Gb,gb,go,Gf,_,fk⟩:=z4q ((HR.out.below H.out).more H.out.size) (k:=k) hlt
   subst Gf;have HS:Hid (allZ (xs.drop k)=((xs[k]==0)&&allZ (xs.drop (k+1)))):=hid (by rw[List.drop_eq_getElem_cons Gb];rfl);generalize xs[k]=x at*;have Gg:(0:Int)<=(k:Int):=oM;have Gh:(k:Int)<(n:Int):=oM;by_cases hx:x=0
   ·subst hx
    have Ga:Hid (allZ xs=allZ (xs.drop (k+1))):=hid (by rw[HN.out,HS.out];rfl);clear HS HN Gb;go_wp2;go_roundw
    case rel =>
     first
      |exact⟨k+1,oM,by go_num,Ga,H⟩
      |(
        repeat apply Exists.intro
        refine⟨?_,rfl⟩;exact⟨k+1,oM,by go_num,Ga,H⟩)
    case measure=>simp[Go.RowKit.intOf];omega
   ·have Ga:Hid (allZ xs=false):=hid (by rw[HN.out,HS.out,beq_eq_false_iff_ne.2 hx];rfl)
    have d0:((x:Int) != 0)=true:=by rw[bne,beq_eq_false_iff_ne.2 oM];rfl
    clear HS HN Gb hx;go_wp2;go_ret;rw[Ga.out];exact⟨rfl,H.out⟩
  ·have Ga:Hid (allZ xs=true):=hid (by rw[HN.out,List.drop_of_length_le (by have:=HL.out;omega)];rfl)
   obtain rfl:k=n:=oM;clear hlt hk;go_wp2;go_ret;rw[Ga.out];exact⟨rfl,H.out⟩
theorem w3i A c x w (h:z0d w w 1 A 1 (z0g [x])) :
  () 392 #[.agg #[],.slice A 1 c] w fun e w'=>e=.returned (.tuple #[x,true])/\Blw w w':=by
 obtain⟨Gb,gb,go,Ga,_,fk⟩:=z4q ((h.below ((Below.refl w w).alloc (nL _) (.cells #[] 368))).more ((Below.refl w w).alloc (nL _) (.cells #[] 368)).size) (k:=0) oM;subst Ga;have f0:(w.alloc (.cells #[] 368)).cell? (gb,go)=some ↑x:=fk;clear fk h;go_enter Tryz.func392,Tryz.ntmps392
 go_wp2;go_ret2;exact⟨rfl,(Below.refl _ _).alloc (nL _) _⟩
def decN(xs:List Nat):Option (List Nat) :=
 if 16<xs.headD 0 then none else
 if z4h ((xs.drop 1).take ((xs.headD 0+7)/8)) (xs.headD 0)=true then none else
 if allZ (xs.drop (1+(xs.headD 0+7)/8))=true then some (unpB ((xs.drop 1).take ((xs.headD 0+7)/8)) (xs.headD 0))else none
def strN(l:List Nat):ByteArray:=⟨(l.map UInt8.ofNat).toArray⟩
theorem add_plain(b o j:Nat):((b,o):Addr).add j=(b,o+j):=by unfold Addr.add;split<;>simp_all
theorem z0d.sub_{w:World}{B n:Nat}{b o:Nat}{xs:List Value}(h:z0d w B 1 (some (b,o)) n xs)(i j:Nat)(hij:i+j<=n):z0d w B 1 (some (b,o+i)) j ((xs.drop i).take j):=by
 have h1:=h.1;refine⟨by rw[List.length_take,List.length_drop];omega,fun hn=>?_⟩;obtain⟨ad,hA,hb,hc⟩:=h.2 oM;cases hA;refine⟨_,rfl,hb,fun k u hu=>?_⟩;rw[List.getElem?_take]at hu;split at hu
 ·rw[List.getElem?_drop]at hu
  have h2:=hc (i+k) u hu;rw[add_plain]at h2⊢;rw[<- Nat.add_assoc]at h2;exact h2
 ·cases hu
theorem z7b xs i j:((z0g xs).drop i).take j=z0g ((xs.drop i).take j):=by
 unfold z0g;rw[<- List.map_drop,<- List.map_take]
theorem y2g{w B X m} c {l}(h:z0d w B 1 X m (u8s l)) (hb:∀b∈l,b<256):(convert 24 9 (.slice X m c)).run Tryz.prog w=.ok (.string (strN l)) w:=by
 have hl:l.length=m:=by have:=h.1;simpa[u8s] using this
 subst hl;rcases X with _|ad
 ·have h0:l=[]:=by
   rcases Nat.eq_zero_or_pos l.length with h0|h0
   ·exact List.eq_nil_of_length_eq_zero h0
   ·obtain⟨ad,hA,_⟩:=h.2 h0;cases hA
  subst h0;exact run_convert_bytes_nil (P:=Tryz.prog) w 24 5 Tryz.underlying24 Tryz.underlying5 _ c 9 Tryz.underlying9
 ·have h1:=run_convert_bytes_back (P:=Tryz.prog) w 24 9 5 ad c (l.map UInt8.ofNat) Tryz.underlying24 Tryz.underlying5 Tryz.underlying9 (fun j hj=>?_)
  ·rw[List.length_map]at h1
   exact h1
  ·rw[List.length_map]at hj
   obtain⟨Gb,hA,_,hc⟩:=h.2 oM;injection hA with hA
   subst hA;refine hc j _ ?_;have Ga:=hb _ (List.getElem_mem hj);simp only[u8s,List.getElem?_map,List.getElem?_eq_getElem hj,Option.map_some,List.getElem_map];rw[UInt8.toNat_ofNat',Nat.mod_eq_of_lt Ga]
def y0l(w:World)(R:Option (List Nat))(e:Ending)(w':World):Prop:=(match R with
 |some l=>e=.returned (.tuple #[.string (strN l),true])
 |none=>e=.returned (.tuple #[.string ⟨#[]⟩,false]))/\Blw w w'
theorem w2b A c xs w (h:z0d w w.heap.size 1 A 3 (z0g xs)) (hc:3<=c) (hx:∀x∈xs,x<18446744073709551616) :
  Calls Tryz.prog 389 #[.agg #[],.slice A 3 c] w (y0l w (decN xs)):=by
 obtain⟨W1,Gr⟩:∃W1,w.alloc (.cells #[] 367)=W1:=⟨_,rfl⟩
 have Gs:Blw w W1:=by rw[<- Gr];exact(Below.refl _ _).alloc (nL _) _
 have G0:Blk W1 w.heap.size 367 #[]:=by rw[<- Gr];exact Blk.new _ _ _
 have h1:=(h.below Gs).more Gs.size;obtain⟨G2,gb,go,Gz,G1,fk⟩:=z4q h1 (k:=0) oM;subst Gz;have Gy:xs.length=3:=by have:=h.1;simpa[z0g] using this
 obtain⟨n,x1,x2,rfl⟩:∃n x1 x2,xs=[n,x1,x2]:=by
  match xs,Gy with
  |[n,x1,x2],_=>exact⟨n,x1,x2,rfl⟩
 have Gu:Hid (∀W,Blw W1 W->W.cell? ⟨gb,go,none⟩=some (.int .u64 n)):=hid (fun W hW=>(hW.cell (p:=⟨gb,go,none⟩) G1).trans fk);have Gv:=hid Gr;have Gb:=hid Gs;have Gq:=hid h1;have HN:=hid (hx n (by simp));have HX:=hid hx;have f0:W1.cell? ⟨gb,go,none⟩=some (.int .u64 n):=fk;have Gw:Hid (Calls Tryz.prog 391 #[.agg #[]] W1 fun e w'=>e=.returned (.int .i64 3)/\Blw W1 w'):=hid (z7t W1);clear Gr Gs h1 h fk G2 Gy hx G0;by_cases hn:16<n
 ·have HD:Hid (decN [n,x1,x2]=none):=hid (by unfold decN;rw[if_pos (show 16<[n,x1,x2].headD 0 from hn)])
  generalize decN [n,x1,x2]=X at*;have G3:(16:Int)<(n:Int):=oM;clear hn;go_enter Tryz.func389,Tryz.ntmps389
  go_upto_region 1 with fail
  rw[Gv.out];go_wp2_with (go_at_call 391;refine Gw.out.mono ?_;rintro e w2⟨rfl,Gk⟩;have Ge:=hid Gk;have f2:=Gu.out w2 Gk;clear Gk)
  go_ret2;unfold y0l;rw[HD.out];exact⟨rfl,Gb.out.trans (Ge.out.mono Gb.out.size)⟩
 ·obtain⟨u,hu⟩:∃u,(n+7)/8=u:=⟨_,rfl⟩
  have G7:u<=2:=oM;have G3:(n:Int)<=16:=oM;have HD:Hid (decN [n,x1,x2]=if z4h (([x1,x2]:List Nat).take u) n=true then none else if allZ ([x1,x2].drop u)=true then some (unpB ([x1,x2].take u) n)else none):=hid (by
   unfold decN;rw[if_neg (show ¬16<[n,x1,x2].headD 0 from hn)];show(if z4h (([x1,x2]:List Nat).take ((n+7)/8)) n=true then none else if allZ ([n,x1,x2].drop (1+(n+7)/8))=true then some (unpB ([x1,x2].take ((n+7)/8)) n)else none)=_;rw[hu,Nat.add_comm 1 u];rfl)
  generalize decN [n,x1,x2]=X at*;clear hn;go_enter Tryz.func389,Tryz.ntmps389
  go_upto_region 1 with fail
  rw[Gv.out];go_upto_region 3 with (go_at_call 391;refine Gw.out.mono ?_;rintro e w2⟨rfl,Gk⟩;have Ge:=hid Gk;have f2:=Gu.out w2 Gk;clear Gk)
  have e4:IntKind.i64.wrap (n:Int)=(n:Int):=by rw[IntKind.wrap_i64];omega
  have e5:wrap64 ((n:Int)+8)=(n:Int)+8:=IntWalk.wrap64_in _ oM;have e6:wrap64 ((n:Int)+8-1)=(n:Int)+8-1:=IntWalk.wrap64_in _ oM;have G4:=hid hc;have Gt:c≠0/\c≠1/\c≠2:=oM;obtain⟨Gt,G5,G6⟩:=Gt;rcases (by omega:u=0\/u=1\/u=2)with rfl|rfl|rfl
  ·have e7:((n:Int)+8-1)/8=0:=oM
   have HU:Hid (Calls Tryz.prog 237 #[.slice (some ⟨gb,go+1,none⟩) 0 (c-1),.int .i64 n] w2 (z4r w2 (([x1,x2]:List Nat).take 0) n)):=hid (z9w _ 0 (c-1) n (([x1,x2]:List Nat).take 0) w2 (⟨rfl,fun h=>absurd h (by decide)⟩) (fun x hx=>HX.out x (by first|(simp at hx⊢;omega)|simp at hx)) oM hu);by_cases hb:z4h (([x1,x2]:List Nat).take 0) n=true
   ·have Gc:Hid (X=none):=hid (by rw[HD.out,if_pos hb])
    have Gi:Hid (Calls Tryz.prog 237 #[.slice (some ⟨gb,go+1,none⟩) 0 (c-1),.int .i64 n] w2 fun e w'=>e=.returned (.tuple #[.slice none 0 0,.int .i64 11])/\Blw w2 w'):=hid (HU.out.mono (fun e w' h=>by
     unfold z4r at h;rw[if_pos hb]at h;exact h))
    clear hb HD hu HU;go_upto_region 5 with fail
    go_wp2_with (go_at_call 237;refine Gi.out.mono ?_;rintro e w3⟨rfl,Gf⟩;have Ga:=hid (Ge.out.trans (Gf.mono Ge.out.size));clear Gf)
    go_ret2;unfold y0l;rw[Gc.out];exact⟨rfl,Gb.out.trans (Ga.out.mono Gb.out.size)⟩
   ·have Gc:Hid (X=if allZ ([x1,x2].drop 0)=true then some (unpB (([x1,x2]:List Nat).take 0) n)else none):=hid (by rw[HD.out,if_neg hb])
    have Gi:Hid (Calls Tryz.prog 237 #[.slice (some ⟨gb,go+1,none⟩) 0 (c-1),.int .i64 n] w2 (RetB w2 (unpB (([x1,x2]:List Nat).take 0) n))):=hid (HU.out.mono (fun e w' h=>by
     unfold z4r at h;rw[if_neg hb]at h;exact h))
    clear HU;have Gl:Hid (∀b∈unpB (([x1,x2]:List Nat).take 0) n,b<256):=hid (fun b hb=>by
     unfold unpB at hb;obtain⟨i,_,rfl⟩:=List.mem_map.1 hb;exact Nat.mod_lt _ (by decide))
    generalize unpB (([x1,x2]:List Nat).take 0) n=bs at*;clear hb HD hu;go_upto_region 5 with fail
    go_upto_region 6 with (go_at_call 237;refine Gi.out.mono ?_;rintro e w3⟨A3,m3,c3,rfl,Gp,Gj,Gn,Gf⟩;have Ga:=hid (Ge.out.trans (Gf.mono Ge.out.size));have Gm:=hid Gj;clear Gp Gj Gn Gf)
    have HZ:Hid (∀A',A'=some ⟨gb,go+1,none⟩->Calls Tryz.prog 388 #[.slice A' 2 (c-1)] w3 fun e w'=>e=.returned (.bool (allZ ([x1,x2].drop 0)))/\Blw w3 w'):=hid (fun A' hA=>z9a A' 2 (c-1) _ w3 (by subst hA;exact((Gq.out.below Ga.out).sub_ 1 2 oM).more Ga.out.size) oM);generalize allZ ([x1,x2].drop 0)=z at*;cases z
    ·have Gh:Hid (X=none):=hid (by rw[Gc.out,if_neg (by decide)])
     clear Gc;go_wp2_with (go_at_call 388;refine(HZ.out _ rfl).mono ?_;rintro e w4⟨rfl,Gd⟩;have Gg:=hid (Ga.out.trans (Gd.mono Ga.out.size));clear Gd)
     all_goals go_ret2
     all_goals unfold y0l
     all_goals rw[Gh.out]
     all_goals exact⟨rfl,Gb.out.trans (Gg.out.mono Gb.out.size)⟩
    ·have Gh:Hid (X=some bs):=hid (by rw[Gc.out,if_pos rfl])
     clear Gc;go_wp2_with (go_at_call 388;refine(HZ.out _ rfl).mono ?_;rintro e w4⟨rfl,Gd⟩;have Gg:=hid (Ga.out.trans (Gd.mono Ga.out.size));have Gx:=y2g c3 (Gm.out.below Gd) Gl.out;clear Gd)
     all_goals go_ret2
     all_goals unfold y0l
     all_goals rw[Gh.out]
     all_goals exact⟨rfl,Gb.out.trans (Gg.out.mono Gb.out.size)⟩
  ·have e7:((n:Int)+8-1)/8=1:=oM
   have HU:Hid (Calls Tryz.prog 237 #[.slice (some ⟨gb,go+1,none⟩) 1 (c-1),.int .i64 n] w2 (z4r w2 (([x1,x2]:List Nat).take 1) n)):=hid (z9w _ 1 (c-1) n (([x1,x2]:List Nat).take 1) w2 (((Gq.out.below Ge.out).sub_ 1 1 oM).more Ge.out.size) (fun x hx=>HX.out x (by first|(simp at hx⊢;omega)|simp at hx)) oM hu);by_cases hb:z4h (([x1,x2]:List Nat).take 1) n=true
   ·have Gc:Hid (X=none):=hid (by rw[HD.out,if_pos hb])
    have Gi:Hid (Calls Tryz.prog 237 #[.slice (some ⟨gb,go+1,none⟩) 1 (c-1),.int .i64 n] w2 fun e w'=>e=.returned (.tuple #[.slice none 0 0,.int .i64 11])/\Blw w2 w'):=hid (HU.out.mono (fun e w' h=>by
     unfold z4r at h;rw[if_pos hb]at h;exact h))
    clear hb HD hu HU;go_upto_region 5 with fail
    go_wp2_with (go_at_call 237;refine Gi.out.mono ?_;rintro e w3⟨rfl,Gf⟩;have Ga:=hid (Ge.out.trans (Gf.mono Ge.out.size));clear Gf)
    go_ret2;unfold y0l;rw[Gc.out];exact⟨rfl,Gb.out.trans (Ga.out.mono Gb.out.size)⟩
   ·have Gc:Hid (X=if allZ ([x1,x2].drop 1)=true then some (unpB (([x1,x2]:List Nat).take 1) n)else none):=hid (by rw[HD.out,if_neg hb])
    have Gi:Hid (Calls Tryz.prog 237 #[.slice (some ⟨gb,go+1,none⟩) 1 (c-1),.int .i64 n] w2 (RetB w2 (unpB (([x1,x2]:List Nat).take 1) n))):=hid (HU.out.mono (fun e w' h=>by
     unfold z4r at h;rw[if_neg hb]at h;exact h))
    clear HU;have Gl:Hid (∀b∈unpB (([x1,x2]:List Nat).take 1) n,b<256):=hid (fun b hb=>by
     unfold unpB at hb;obtain⟨i,_,rfl⟩:=List.mem_map.1 hb;exact Nat.mod_lt _ (by decide))
    generalize unpB (([x1,x2]:List Nat).take 1) n=bs at*;clear hb HD hu;go_upto_region 5 with fail
    go_upto_region 6 with (go_at_call 237;refine Gi.out.mono ?_;rintro e w3⟨A3,m3,c3,rfl,Gp,Gj,Gn,Gf⟩;have Ga:=hid (Ge.out.trans (Gf.mono Ge.out.size));have Gm:=hid Gj;clear Gp Gj Gn Gf)
    have HZ:Hid (∀A',A'=some ⟨gb,go+2,none⟩->Calls Tryz.prog 388 #[.slice A' 1 (c-2)] w3 fun e w'=>e=.returned (.bool (allZ ([x1,x2].drop 1)))/\Blw w3 w'):=hid (fun A' hA=>z9a A' 1 (c-2) _ w3 (by subst hA;exact((Gq.out.below Ga.out).sub_ 2 1 oM).more Ga.out.size) oM);generalize allZ ([x1,x2].drop 1)=z at*;cases z
    ·have Gh:Hid (X=none):=hid (by rw[Gc.out,if_neg (by decide)])
     clear Gc;go_wp2_with (go_at_call 388;refine(HZ.out _ rfl).mono ?_;rintro e w4⟨rfl,Gd⟩;have Gg:=hid (Ga.out.trans (Gd.mono Ga.out.size));clear Gd)
     all_goals go_ret2
     all_goals unfold y0l
     all_goals rw[Gh.out]
     all_goals exact⟨rfl,Gb.out.trans (Gg.out.mono Gb.out.size)⟩
    ·have Gh:Hid (X=some bs):=hid (by rw[Gc.out,if_pos rfl])
     clear Gc;go_wp2_with (go_at_call 388;refine(HZ.out _ rfl).mono ?_;rintro e w4⟨rfl,Gd⟩;have Gg:=hid (Ga.out.trans (Gd.mono Ga.out.size));have Gx:=y2g c3 (Gm.out.below Gd) Gl.out;clear Gd)
     all_goals go_ret2
     all_goals unfold y0l
     all_goals rw[Gh.out]
     all_goals exact⟨rfl,Gb.out.trans (Gg.out.mono Gb.out.size)⟩
  ·have e7:((n:Int)+8-1)/8=2:=oM
   have HU:Hid (Calls Tryz.prog 237 #[.slice (some ⟨gb,go+1,none⟩) 2 (c-1),.int .i64 n] w2 (z4r w2 (([x1,x2]:List Nat).take 2) n)):=hid (z9w _ 2 (c-1) n (([x1,x2]:List Nat).take 2) w2 (((Gq.out.below Ge.out).sub_ 1 2 oM).more Ge.out.size) (fun x hx=>HX.out x (by first|(simp at hx⊢;omega)|simp at hx)) oM hu);by_cases hb:z4h (([x1,x2]:List Nat).take 2) n=true
   ·have Gc:Hid (X=none):=hid (by rw[HD.out,if_pos hb])
    have Gi:Hid (Calls Tryz.prog 237 #[.slice (some ⟨gb,go+1,none⟩) 2 (c-1),.int .i64 n] w2 fun e w'=>e=.returned (.tuple #[.slice none 0 0,.int .i64 11])/\Blw w2 w'):=hid (HU.out.mono (fun e w' h=>by
     unfold z4r at h;rw[if_pos hb]at h;exact h))
    clear hb HD hu HU;go_upto_region 5 with fail
    go_wp2_with (go_at_call 237;refine Gi.out.mono ?_;rintro e w3⟨rfl,Gf⟩;have Ga:=hid (Ge.out.trans (Gf.mono Ge.out.size));clear Gf)
    go_ret2;unfold y0l;rw[Gc.out];exact⟨rfl,Gb.out.trans (Ga.out.mono Gb.out.size)⟩
   ·have Gc:Hid (X=if allZ ([x1,x2].drop 2)=true then some (unpB (([x1,x2]:List Nat).take 2) n)else none):=hid (by rw[HD.out,if_neg hb])
    have Gi:Hid (Calls Tryz.prog 237 #[.slice (some ⟨gb,go+1,none⟩) 2 (c-1),.int .i64 n] w2 (RetB w2 (unpB (([x1,x2]:List Nat).take 2) n))):=hid (HU.out.mono (fun e w' h=>by
     unfold z4r at h;rw[if_neg hb]at h;exact h))
    clear HU;have Gl:Hid (∀b∈unpB (([x1,x2]:List Nat).take 2) n,b<256):=hid (fun b hb=>by
     unfold unpB at hb;obtain⟨i,_,rfl⟩:=List.mem_map.1 hb;exact Nat.mod_lt _ (by decide))
    generalize unpB (([x1,x2]:List Nat).take 2) n=bs at*;clear hb HD hu;go_upto_region 5 with fail
    go_upto_region 6 with (go_at_call 237;refine Gi.out.mono ?_;rintro e w3⟨A3,m3,c3,rfl,Gp,Gj,Gn,Gf⟩;have Ga:=hid (Ge.out.trans (Gf.mono Ge.out.size));have Gm:=hid Gj;clear Gp Gj Gn Gf)
    have HZ:Hid (∀A',Calls Tryz.prog 388 #[.slice A' 0 (c-3)] w3 fun e w'=>e=.returned (.bool (allZ ([x1,x2].drop 2)))/\Blw w3 w'):=hid (fun A'=>z9a A' 0 (c-3) _ w3 (⟨rfl,fun h=>absurd h (by decide)⟩) oM);generalize allZ ([x1,x2].drop 2)=z at*;cases z
    ·have Gh:Hid (X=none):=hid (by rw[Gc.out,if_neg (by decide)])
     clear Gc;clear Gt;go_wp2_with (go_at_call 388;refine(HZ.out _).mono ?_;rintro e w4⟨rfl,Gd⟩;have Gg:=hid (Ga.out.trans (Gd.mono Ga.out.size));clear Gd)
     all_goals go_ret2
     all_goals unfold y0l
     all_goals rw[Gh.out]
     all_goals exact⟨rfl,Gb.out.trans (Gg.out.mono Gb.out.size)⟩
    ·have Gh:Hid (X=some bs):=hid (by rw[Gc.out,if_pos rfl])
     clear Gc;clear Gt;go_wp2_with (go_at_call 388;refine(HZ.out _).mono ?_;rintro e w4⟨rfl,Gd⟩;have Gg:=hid (Ga.out.trans (Gd.mono Ga.out.size));have Gx:=y2g c3 (Gm.out.below Gd) Gl.out;clear Gd)
     all_goals go_ret2
     all_goals unfold y0l
     all_goals rw[Gh.out]
     all_goals exact⟨rfl,Gb.out.trans (Gg.out.mono Gb.out.size)⟩
theorem v0l w : (method 585 367 (.agg #[]) "Decode").run Tryz.prog w=.ok (389,.agg #[]) w := by kernel_rfl
theorem v0r w : (method 585 368 (.agg #[]) "Decode").run Tryz.prog w=.ok (392,.agg #[]) w := by kernel_rfl
def decP(xs:List Nat):Option (List Nat×Nat):=(decN (xs.take 3)).map (fun l=>(l,xs.getD 3 0))
def itV(p:List Nat×Nat):Array Value:=#[.string (strN p.1),p.2]
def x6a(w:World)(R:Option (List Nat×Nat))(e:Ending)(w':World):Prop:=(match R with
 |some p=>e=.returned (.tuple #[.agg (itV p),true])
 |none=>e=.returned (.tuple #[.agg #[.string ⟨#[]⟩,[()]],false]))/\Blw w w'
structure PdW(w:World)(b o:Nat)(xs:List Nat)(s:ByteArray)(v:Nat)(W:World):Prop where
 below:Blw w W
 rd:z0d W w 1 (some (b,o)) 4 (z0g xs)
 k1:Blk W w 374 #[nmI,unI]
 k2:Blk W (w+1) 299 #[.string ⟨#[]⟩,[()]]
 k3:Blk W (w+1+1) 299 #[.string ⟨#[]⟩,[()]]
 k4:Blk W (w+1+1+1) 299 #[.string s,v]
theorem PdW.below_{w W W' b o xs s v}(h:PdW w b o xs s v W)(hb:Blw W W'):PdW w b o xs s v W':=by
 have h1:=h.below.size;refine⟨h.below.trans (hb.mono h1),?_,h.k1.below hb h.k1.lt,h.k2.below hb h.k2.lt,h.k3.below hb h.k3.lt,h.k4.below hb h.k4.lt⟩;exact h.rd.below (hb.mono h1)
theorem PdW.setS{w W b o xs s v}(h:PdW w b o xs s v W) s':PdW w b o xs s' v (W.setCell (w.heap.size+1+1+1,0) (.string s')):=by
 have hc:Chg (fun k=>k=w.heap.size+1+1+1) W (W.setCell (w.heap.size+1+1+1,0) (.string s')):=(Chg.refl (fun k=>k=w.heap.size+1+1+1) W).setCell (p:=⟨w.heap.size+1+1+1,0,none⟩) (.inl rfl) _;have hb:Below w W (W.setCell (w.heap.size+1+1+1,0) (.string s')):=hc.toBelow h.below.size (fun k hk=>by have e:k=w.heap.size+1+1+1:=hk;omega);exact⟨h.below.trans hb,h.rd.below hb,hc.blk h.k1 oM,hc.blk h.k2 oM,hc.blk h.k3 oM,h.k4.set_ 0 _⟩
theorem PdW.setV{w W b o xs s v}(h:PdW w b o xs s v W) v':PdW w b o xs s v' (W.setCell (w.heap.size+1+1+1,1) v'):=by
 have hc:Chg (fun k=>k=w.heap.size+1+1+1) W (W.setCell (w.heap.size+1+1+1,1) v'):=(Chg.refl (fun k=>k=w.heap.size+1+1+1) W).setCell (p:=⟨w.heap.size+1+1+1,1,none⟩) (.inl rfl) _;have hb:Below w W (W.setCell (w.heap.size+1+1+1,1) v'):=hc.toBelow h.below.size (fun k hk=>by have e:k=w.heap.size+1+1+1:=hk;omega);exact⟨h.below.trans hb,h.rd.below hb,hc.blk h.k1 oM,hc.blk h.k2 oM,hc.blk h.k3 oM,h.k4.set_ 1 _⟩
theorem PdW.fin{w W b o xs s v}(h:PdW w b o xs s v W) s' v':Blw w ((W.setCell (w.heap.size+1,0) (.string s')).setCell (w.heap.size+1,1) v')/\((W.setCell (w.heap.size+1,0) (.string s')).setCell (w.heap.size+1,1) v').cell? (w.heap.size+1,0)=some (.string s')/\((W.setCell (w.heap.size+1,0) (.string s')).setCell (w.heap.size+1,1) v').cell? (w.heap.size+1,1)=some v':=by
 have hk:=(h.k2.set_ 0 (.string s')).set_ 1 v';exact⟨(h.below.setCell (Nat.le_succ _) _).setCell (Nat.le_succ _) _,hk.cell 0,hk.cell 1⟩
def stO:Option (List Nat)->ByteArray
 |some l=>strN l
 |none=>⟨#[]⟩
theorem w2k A c xs w (h:z0d w w.heap.size 1 A 4 (z0g xs)) (hc:4<=c) (hx:∀x∈xs,x<18446744073709551616) :
  () 395 #[.agg #[nmI,unI],.slice A 4 c] w (x6a w (decP xs)):=by
 have Gr:xs.length=4:=by have:=h.1;simpa[z0g] using this
 obtain⟨b,o,hA,hb,_⟩:=h.plain oM oM;subst hA;obtain⟨W2,Gh⟩:∃W2,(((w.alloc (.cells #[nmI,unI] 374)).alloc (.cells #[.string ⟨#[]⟩,[()]] 299)).alloc (.cells #[.string ⟨#[]⟩,[()]] 299)).alloc (.cells #[.string ⟨#[]⟩,[()]] 299)=W2:=⟨_,rfl⟩
 have sz:∀(W:World)(o:Obj),(W.alloc o).heap.size=W.heap.size+1:=fun W o=>by simp
 have Gk:Blw w W2:=by
  rw[<- Gh];have h1:=(Below.refl w.heap.size w).alloc (nL _) (.cells #[nmI,unI] 374);have h2:=h1.alloc h1.size (.cells #[.string ⟨#[]⟩,[()]] 299);have h3:=h2.alloc h2.size (.cells #[.string ⟨#[]⟩,[()]] 299);exact h3.alloc h3.size _
 have hk:Blk W2 w.heap.size 374 #[nmI,unI]/\Blk W2 (w.heap.size+1) 299 #[.string ⟨#[]⟩,[()]]/\Blk W2 (w.heap.size+1+1) 299 #[.string ⟨#[]⟩,[()]]/\Blk W2 (w.heap.size+1+1+1) 299 #[.string ⟨#[]⟩,[()]]:=by
  rw[<- Gh];have k1:=Blk.new w 374 #[nmI,unI];have k2:=Blk.new (w.alloc (.cells #[nmI,unI] 374)) 299 #[.string ⟨#[]⟩,[()]];have k3:=Blk.new ((w.alloc (.cells #[nmI,unI] 374)).alloc (.cells #[.string ⟨#[]⟩,[()]] 299)) 299 #[.string ⟨#[]⟩,[()]];have k4:=Blk.new (((w.alloc (.cells #[nmI,unI] 374)).alloc (.cells #[.string ⟨#[]⟩,[()]] 299)).alloc (.cells #[.string ⟨#[]⟩,[()]] 299)) 299 #[.string ⟨#[]⟩,[()]];simp only[sz]at k2 k3 k4;exact⟨((k1.alloc _).alloc _).alloc _,(k2.alloc _).alloc _,k3.alloc _,k4⟩
 have Gs:PdW w b o xs ⟨#[]⟩ 0 W2:=⟨Gk,h.below Gk,hk.1,hk.2.1,hk.2.2.1,hk.2.2.2⟩
 have Gw:=hid Gh;have Gt:=hid Gs;have hm:=v0l;have G0:=v0r;have n0:W2.cell? (w,0)=some (.iface 367 (.agg #[])):=hk.1.cell 0;have n1:W2.cell? (w,1)=some (.iface 368 (.agg #[])):=hk.1.cell 1;have Gi:Hid (∀s v W,PdW w b o xs s v W->() 389 #[.agg #[],(b,o,3,3)] W (y0l W (decN (xs.take 3)))):=hid (fun s v W hW=>by
  have h1:=(hW.rd.sub_ 0 3 oM).more hW.below.size;rw[z7b,List.drop_zero]at h1;exact w2b _ 3 _ W h1 (nL _) (fun x hx'=>hx x (List.mem_of_mem_take hx')))
 have Gj:Hid (∀s v W,PdW w b o xs s v W->() 392 #[.agg #[],(b,o+3,1,c-3)] W fun e w'=>e=.returned (.tuple #[(xs.getD 3 0),true])/\Blw W w'):=hid (fun s v W hW=>by
  have h1:=(hW.rd.sub_ 3 1 oM).more hW.below.size;rw[z7b]at h1;have e:(xs.drop 3).take 1=[xs.getD 3 0]:=by
   match xs,Gr with
   |[_,_,_,_],_=>rfl
  rw[e]at h1;exact w3i _ (c-3) _ W h1)
 have Gg:Hid (decP xs=(decN (xs.take 3)).map (fun l=>(l,xs.getD 3 0))):=hid rfl;generalize decP xs=Y at*;generalize xs.getD 3 0=v3 at*;generalize decN (xs.take 3)=R3 at*;have Gq:c≠0/\c≠1/\c≠2/\c≠3:=oM;obtain⟨Gq,Gx,Gy,Gz⟩:=Gq;clear Gh Gk hk hx h sz Gs Gr;go_enter Tryz.func395,Tryz.ntmps395
 go_upto_region 2 with fail
 rw[Gw.out];go_upto_region 7 with (first
  |(go_at_call 397;refine(z7x W2).mono ?_;rintro e w3⟨rfl,Gn⟩;have Gl:=hid (Gt.out.below_ Gn);have n3:w3.cell? (w,0)=some (.iface 367 (.agg #[])):=Gl.out.k1.cell 0;clear Gn)
  |(go_at_call 398;refine(z9n _).mono ?_;rintro e w4⟨rfl,Gp⟩;have Gm:=hid (Gl.out.below_ Gp);clear Gp))
 clear n0 n1 n3;go_cut [9]from 25 to 37 (fun v9 wx=>v9=↑R3.isSome/\Hid (PdW w b o xs (stO R3) 0 wx))
 case first =>
  have n0:w4.cell? (w,0)=some (.iface 367 (.agg #[])):=Gm.out.k1.cell 0;have Gd:=hid (Gm.out.below_ (Below.refl _ _).drew);have Gf:=hid (Gi.out _ _ _ Gd.out);clear Gi Gj;cases R3
  ·go_region_with (go_at_call 389;refine Gf.out.mono ?_;rintro e w5⟨rfl,Gc⟩;have Ga:=hid (Gd.out.below_ Gc);have z5:w5.frozen? (w.heap.size+1+1+1,0)=false:=Ga.out.k4.frozen 0;have z6:w5.cell? (w.heap.size+1+1+1,0)=some (.string ⟨#[]⟩):=Ga.out.k4.cell 0;clear Gc)
   all_goals go_wp2_with fail
   all_goals go_meet
   all_goals exact⟨rfl,hid (Ga.out.setS _)⟩
  ·go_region_with (go_at_call 389;refine Gf.out.mono ?_;rintro e w5⟨rfl,Gc⟩;have Ga:=hid (Gd.out.below_ Gc);have z5:w5.frozen? (w.heap.size+1+1+1,0)=false:=Ga.out.k4.frozen 0;have z6:w5.cell? (w.heap.size+1+1+1,0)=some (.string ⟨#[]⟩):=Ga.out.k4.cell 0;clear Gc)
   all_goals go_wp2_with fail
   all_goals go_meet
   all_goals exact⟨rfl,hid (Ga.out.setS _)⟩
 case rest =>
 obtain⟨rfl,Gb⟩:=hcut;have Gv:=hid (Gj.out _ _ _ (Gb.out.below_ (Below.refl _ _).drew));clear Gi Gj;cases R3
 ·have HY:Hid (Y=none):=hid Gg.out
  have k0:wc.cell? (w.heap.size+1+1,0)=some (.string ⟨#[]⟩):=Gb.out.k3.cell 0;have k1:wc.cell? (w.heap.size+1+1,1)=some ↑[()]:=Gb.out.k3.cell 1;have f0:wc.frozen? (w.heap.size+1,0)=false:=Gb.out.k2.frozen 0;have f1:wc.frozen? (w.heap.size+1,1)=false:=Gb.out.k2.frozen 1;have f2:wc.cell? (w.heap.size+1,0)=some (.string ⟨#[]⟩):=Gb.out.k2.cell 0;have f3:wc.cell? (w.heap.size+1,1)=some ↑[()]:=Gb.out.k2.cell 1;clear Gg;go_wp2_with fail
  obtain⟨p1,p2,p3⟩:=Gb.out.fin ⟨#[]⟩ [()];exact bodyPost_ret (v := .tuple #[.agg #[.string ⟨#[]⟩,[()]],false]) (by simp[results,Tryz.results395,go_sem,p2,p3]) rfl (by unfold x6a;rw[HY.out];exact⟨rfl,p1⟩)
 ·rename_i l3
  have HY:Hid (Y=some (l3,v3)):=hid Gg.out;have n1:wc.cell? (w,1)=some (.iface 368 (.agg #[])):=Gb.out.k1.cell 1;clear Gg;go_upto_region 10 with fail
  go_cut [9]from 41 to 52 (fun v9 wx=>v9=↑true/\Hid (PdW w b o xs (strN l3) v3 wx))
  case first =>
   have Gu:=hid (Gb.out.below_ (Below.refl _ _).drew);go_region_with (go_at_call 392;refine Gv.out.mono ?_;rintro e w5⟨rfl,Gc⟩;have Ga:=hid (Gu.out.below_ Gc);have z5:w5.frozen? (w.heap.size+1+1+1,1)=false:=Ga.out.k4.frozen 1;have z6:w5.cell? (w.heap.size+1+1+1,1)=some ↑[()]:=Ga.out.k4.cell 1;clear Gc)
   all_goals go_wp2_with fail
   all_goals go_meet
   all_goals exact⟨rfl,hid (Ga.out.setV _)⟩
  case rest =>
  clear n1;obtain⟨rfl,Ge⟩:=hcut;have k0:wc.cell? (w.heap.size+1+1+1,0)=some (.string (strN l3)):=Ge.out.k4.cell 0;have k1:wc.cell? (w.heap.size+1+1+1,1)=some ↑v3:=Ge.out.k4.cell 1;have f0:wc.frozen? (w.heap.size+1,0)=false:=Ge.out.k2.frozen 0;have f1:wc.frozen? (w.heap.size+1,1)=false:=Ge.out.k2.frozen 1;have f2:wc.cell? (w.heap.size+1,0)=some (.string ⟨#[]⟩):=Ge.out.k2.cell 0;have f3:wc.cell? (w.heap.size+1,1)=some ↑[()]:=Ge.out.k2.cell 1;go_wp2_with fail
  obtain⟨p1,p2,p3⟩:=Ge.out.fin (strN l3) v3;exact bodyPost_ret (v := .tuple #[.agg #[.string (strN l3),v3],true]) (by simp[results,Tryz.results395,go_sem,p2,p3]) rfl (by unfold x6a;rw[HY.out];exact⟨rfl,p1⟩)
theorem v0m w : (method 585 367 (.agg #[]) "Encode").run Tryz.prog w=.ok (390,.agg #[]) w := by kernel_rfl
theorem v0s w : (method 585 368 (.agg #[]) "Encode").run Tryz.prog w=.ok (393,.agg #[]) w := by kernel_rfl
def encN(l:List Nat):List Nat:=l.length::(z3r l++List.replicate (2-(z3r l).length) 0)
theorem y0w{l}(h:l.length<=16):(encN l).length=3:=by
 have h1:=z4g l;unfold encN;rw[List.length_cons,List.length_append,List.length_replicate];omega
def putW(L:List Nat)(o:Nat)(xs:List Nat):List Nat:=L.take o++(xs++L.drop (o+xs.length))
theorem w7b{L o xs}(h:o+xs.length<=L.length):(putW L o xs).length=L.length:=by
 unfold putW;rw[List.length_append,List.length_append,List.length_take,List.length_drop];omega
theorem w7c{L o v}(h:o<L.length):putW L o [v]=L.set o v:=by
 unfold putW;rw[List.set_eq_take_append_cons_drop,if_pos h];rfl
theorem w3j(g o c v:Nat)(L:List Nat)(w:World)(h:Blk w g 32 (uA L))(ho:o<L.length):
  () 393 #[.agg #[],v,.slice (some (g,o)) 1 c] w fun e w'=>e=.returned true/\Blk w' g 32 (uA (putW L o [v]))/\Chg (fun k=>k=g) w w':=by
 have c0:w.cell? (g,o)=some ↑(L[o]):=by rw[h.cell];exact x3q ho
 have z0:w.frozen? (g,o)=false:=h.frozen o;have Ga:g<w:=h.lt;have HK:=hid h;have HO:=hid ho;generalize L[o]=old at*;clear h ho;go_enter Tryz.func393,Tryz.ntmps393
 go_wp2;go_ret;have hc:Chg (fun k=>k=g) w ((w.setCell (g,o) v).alloc (.cells #[] 368)):=((Chg.refl (fun k=>k=g) w).setCell (p:=⟨g,o,none⟩) (.inl rfl) _).alloc _;have h2:=(HK.out.set_ o v).alloc (.cells #[] 368);rw[y0k,<- w7c HO.out]at h2;exact⟨rfl,h2,hc⟩
theorem x8s{w w' l}(hb:∀b∈l,b<256)(e:w'=Lib.bytesWorld w 5 (strN l)):z0d w' w' 1 (some (w,0)) l.length (u8s l)/\Blw w w':=by
 subst e;refine⟨⟨by simp[u8s],fun hn=>⟨_,rfl,by rw[Lib.bytesWorld_size];exact Nat.lt_succ_self _,fun j u hu=>?_⟩⟩,?_⟩
 ·rw[add_plain,Nat.zero_add]
  have hj:j<l.length:=by
   have h1:=(List.getElem?_eq_some_iff.1 hu).1;simpa[u8s] using h1
  rw[Lib.bytesWorld_cell w 5 (strN l) j (by rw[show(strN l).size=l.length by show(l.map UInt8.ofNat).toArray.size=_;simp];exact hj),<- hu];have Ga:=hb _ (List.getElem_mem hj);have e1:(strN l).data.toList.getD j 0=UInt8.ofNat l[j]:=by
   show((l.map UInt8.ofNat).toArray.toList).getD j 0=_;rw[List.getD_eq_getElem?_getD];simp[hj]
  rw[e1,UInt8.toNat_ofNat',Nat.mod_eq_of_lt Ga];simp[u8s,hj]
 ·exact⟨rfl,rfl,rfl,by rw[Lib.bytesWorld_size];omega,fun k hk=>Lib.bytesWorld_at_old w _ _ k hk⟩
theorem w2o{L pk o n}(ho:o+3<=L.length)(hp:pk.length<=2):
  splice ((((L.set o 0).set (o+1) 0).set (o+2) 0).set o n) (o+1) pk=putW L o (n::(pk++List.replicate (2-pk.length) 0)):=by
 have hd:(L.drop o).length≥3:=by rw[List.length_drop];omega
 obtain⟨A,x,y,z,B,rfl,hA⟩:∃A x y z B,L=A++x::y::z::B/\A.length=o:=by
  refine⟨L.take o,?_⟩
  match h:L.drop o,hd with
  |x::y::z::B,_=>exact⟨x,y,z,B,by rw[<- h,List.take_append_drop],by rw[List.length_take];omega⟩
 subst hA;have e1:((((A++x::y::z::B).set A.length 0).set (A.length+1) 0).set (A.length+2) 0).set A.length n=A++n::0::0::B:=by
  rw[List.set_append_right _ _ (nL _),List.set_append_right _ _ oM,List.set_append_right _ _ oM,List.set_append_right _ _ (nL _)];simp
 rw[e1];unfold splice putW;have t1:(A++n::0::0::B).take (A.length+1)=A++[n]:=by
  rw[List.take_append,List.take_of_length_le oM,Nat.add_sub_cancel_left];rfl
 have d0:∀j,(A++n::0::0::B).drop (A.length+j)=(n::0::0::B).drop j:=fun j=>by
  rw[List.drop_append,List.drop_of_length_le oM,List.nil_append,Nat.add_sub_cancel_left]
 have d1:∀j,(A++x::y::z::B).drop (A.length+j)=(x::y::z::B).drop j:=fun j=>by
  rw[List.drop_append,List.drop_of_length_le oM,List.nil_append,Nat.add_sub_cancel_left]
 rw[t1,Nat.add_assoc,d0,d1,List.take_append,List.take_of_length_le (nL _),Nat.sub_self]
 match pk,hp with
 |[],_=>simp
 |[a],_=>simp
 |[a,b],_=>simp
theorem x5o L pk o:splice (z0g L) o (z0g pk)=z0g (splice L o pk):=by
 unfold splice z0g;simp
theorem w2c g o l L w (h:Blk w g 32 (uA L)) (ho:o+3<=L.length) (hl:l.length<=16) (hb:∀b∈l,b<256) :
  () 390 #[.agg #[],.string (strN l),(g,o,3,3)] w fun e w'=>e=.returned true/\Blk w' g 32 (uA (putW L o (encN l)))/\Below g w w':=by
 obtain⟨W1,Ge⟩:∃W1,w.alloc (.cells #[] 367)=W1:=⟨_,rfl⟩
 have Gp:Blw w W1:=by rw[<- Ge];exact(Below.refl _ _).alloc (nL _) _
 have Gv:Blk W1 w 367 #[]:=by rw[<- Ge];exact Blk.new _ _ _
 have G5:=hid Ge;have Gk:=hid Gp;have GB:=hid Gv;have HG:=hid h;have HN:=hid (And.intro ho (And.intro hl hb));have GC:(strN l).size=l.length:=by show(l.map UInt8.ofNat).toArray.size=_;simp
 have G9:((strN l).size:Int)<=16:=oM;clear Ge Gp Gv h;go_enter Tryz.func390,Tryz.ntmps390
 go_upto_region 1 with fail
 rw[G5.out];go_upto_region 3 with (go_at_call 391;refine(z7t W1).mono ?_;rintro e w2⟨rfl,Gq⟩;have Gl:=hid (Gk.out.trans (Gq.mono Gk.out.size));clear Gq)
 have Gc:=hid (HG.out.below Gl.out HG.out.lt);have Gs:∀ty,(Builtin.clear_ #[107] ty #[(g,o,3,3)]).run Tryz.prog w2=.ok (.tuple #[]) (w2.setCells g o (List.replicate 3 [()])):=fun ty =>
  Lib.run_clear_slice w2 107 32 ty [()] Tryz.underlying107 (fun _=>by kernel_rfl) rfl rfl g o 3 3 oM (fun j hj=>by
   rw[Gc.out.cell,x3q oM];rfl) (fun j _=>Gc.out.frozen _)
 obtain⟨W3,Gf⟩:∃W3,w2.setCells g o (List.replicate 3 [()])=W3:=⟨_,rfl⟩
 have Gg:Blk W3 g 32 (uA (((L.set o 0).set (o+1) 0).set (o+2) 0)):=by
  have h1:=((Gc.out.set_ o (0:Nat)).set_ (o+1) (0:Nat)).set_ (o+1+1) (0:Nat);rw[y0k,y0k,y0k]at h1;rw[<- Gf];exact h1
 have Gj:Below g w W3:=by
  rw[<- Gf];exact((((Gl.out.mono (Nat.le_of_lt HG.out.lt)).setCell (p:=⟨g,o,none⟩) (nL _) _).setCell (p:=⟨g,o+1,none⟩) (nL _) _).setCell (p:=⟨g,o+1+1,none⟩) (nL _) _)
 rw[Gf]at Gs;have c0:W3.cell? (g,o)=some (.int .u64 ((((L.set o 0).set (o+1) 0).set (o+2) 0)[o]'(by simp;omega):Int)):=by rw[Gg.cell];exact x3q (by simp;omega)
 have z0:W3.frozen? (g,o)=false:=Gg.frozen o;have Gy:=hid Gj;have Gd:Hid (Blk (W3.setCell (g,o) l.length) g 32 (uA ((((L.set o 0).set (o+1) 0).set (o+2) 0).set o l.length))):=hid (by
  have h1:=Gg.set_ o l.length;rw[y0k]at h1;exact h1)
 have Gm:Hid (Below g w (W3.setCell (g,o) l.length)):=hid (Gj.setCell (nL _) _);have e1:IntKind.u64.wrap (l.length:Int)=(l.length:Int):=by rw[IntKind.wrap_u64];omega
 generalize (((L.set o 0).set (o+1) 0).set (o+2) 0)[o]'(by simp;omega)=old at*;clear Gf Gg Gj;go_upto_region 5 with fail
 obtain⟨W4,Gh⟩:∃W4,W3.setCell (g,o) l.length=W4:=⟨_,rfl⟩
 rw[Gh]at Gd Gm;have G6:=hid Gh;clear Gh Gs c0 z0 Gc Gy;rw[G6.out];have Gt:∀W,(convert 9 24 (.string (strN l))).run Tryz.prog W=.ok (.slice (some (W,0)) (strN l).size (grownCap W (strN l).size 0 5)) (Lib.bytesWorld W 5 (strN l)):=fun W=>Lib.run_convert_string_bytes (P:=Tryz.prog) W 9 24 5 (strN l) Tryz.underlying9 Tryz.underlying24 Tryz.underlying5
 have Gb:=hid (x8s (w:=W4.drew) HN.out.2.2 rfl);obtain⟨W5,Gi⟩:∃W5,Lib.bytesWorld W4.drew 5 (strN l)=W5:=⟨_,rfl⟩
 have G7:=hid Gi;rw[Gi]at Gb;have G3:=hid (fun c=>w6n (some (W4.drew.heap.size,0)) l.length c l W5 Gb.out.1 HN.out.2.2 (by have:=HN.out.2.1;omega));clear Gi;refine z0e (fun _=>True) 5 [] [(1,0),(1,1),(1,2),(0,3),(0,4)] (by kernel_rfl) (by kernel_rfl) trivial ?_;refine tkG (g,o,3,3) ?_;refine tkG (g,o+1,2,2) ?_;refine tkG (.string (strN l)) ?_;refine z0c (by rfl) ?_;go_wp2_with fail
 refine⟨trivial,?_⟩;rw[G7.out];refine z0c (by rfl) ?_;go_wp2_with (go_at_call 162;refine(G3.out _).mono ?_;rintro e w6⟨A6,m6,c6,rfl,Gw,Gx,G8,Gr⟩;have Gn:=hid Gw;have G4:=hid Gx;have Gz:=hid Gr;clear Gw Gx G8 Gr)
 refine⟨trivial,?_⟩;show wpList _ _ _ _ _ _;simp only[List.drop_succ_cons,List.drop_zero];have Ga:Hid (Blw W4 w6):=hid ((Below.refl _ W4).drew.trans (Gb.out.2.trans (Gz.out.mono Gb.out.2.size)));have Gu:g<W4:=Gd.out.lt;have G2:=hid (Gd.out.below Ga.out Gd.out.lt);have GA:(z3r l).length<=2:=by have h1:=z4g l;have h2:=HN.out.2.1;omega
 refine wpList_copy_splice rfl (.tmp 24) (.tmp 27) 107 107 rfl 32 Tryz.underlying107 (by kernel_rfl) (some (g,o+1)) A6 2 2 m6 c6 rfl rfl g (o+1) (z0g ((((L.set o 0).set (o+1) 0).set (o+2) 0).set o l.length)) 32 G2.out (z0g (z3r l)) ?n1 ?n2 ?n3 ?n4 g w (Gm.out.trans (Ga.out.mono (Nat.le_of_lt Gu))) (nL _) ?_
 case n1 =>
  show _=min m6 2;have h1:=Gn.out;rw[Nat.min_eq_left oM];simp[z0g];omega
 case n2 =>
  intro h0;refine⟨rfl,?_⟩;obtain⟨ad,hA,_,hc⟩:=G4.out.2 (by have:=Gn.out;simp[z0g]at h0;omega);exact⟨ad,hA,hc⟩
 case n3=>have h1:=HN.out.1;simp[z0g];omega
 case n4=>intro v hv;unfold z0g at hv;obtain⟨y,_,rfl⟩:=List.mem_map.1 hv;rfl
 intro W7 hg7 hb7;have G1:=hg7;have G0:=hid hb7;clear hg7 hb7 GA Gu;go_wp2_with fail
 refine NoPanic.normal ?_;go_wp2_with fail
 go_ret;have h1:=G1.out;rw[x5o,w2o HN.out.1 (by have h1:=z4g l;have h2:=HN.out.2.1;omega)]at h1;exact⟨rfl,h1,G0.out⟩
theorem v0o w : (method 585 374 (.agg #[nmI,unI]) "Decode").run Tryz.prog w=.ok (395,.agg #[nmI,unI]) w := by kernel_rfl
theorem w5s:∀(l:List Nat)(h:0<l.length),l.headD 0=l[0]
 |_::_,_=>rfl
def decL:Nat->List Nat->Option (List (List Nat×Nat))
 |0,_=>some []
 |n+1,xs=>match decP (xs.take 4)with
  |none=>none
  |some p=>(decL n (xs.drop 4)).map (p::·)
def decA(xs:List Nat):Option (List (List Nat×Nat)) :=
 if 8<xs.headD 0 then none else
 if allZ (xs.drop (1+xs.headD 0*4))=false then none else decL (xs.headD 0) (xs.drop 1)
def z0b(l:List (List Nat×Nat)):List Value:=l.flatMap fun p=>[.string (strN p.1),p.2]
theorem z2t(l:List (List Nat×Nat))(p:List Nat×Nat):z0b (l++[p])=z0b l++[.string (strN p.1),.int .u64 p.2]:=by simp[z0b]
theorem z0q(l:List (List Nat×Nat)):(z0b l).length=l.length*2:=by
 induction l with
 |nil=>rfl
 |cons p t ih =>
  simp only[z0b,List.flatMap_cons,List.length_append,List.length_cons,List.length_nil]at ih⊢;rw[ih];omega
def x0v(w:World)(R:Option (List (List Nat×Nat)))(e:Ending)(w':World):Prop:=(match R with
 |some l=>∃A m c,e=.returned (.tuple #[.slice A m c,true])/\m=l.length/\w'.ownsRow w 299 2 (.slice A m c) m (z0b l)
 |none=>e=.returned (.tuple #[((),()),false]))/\Blw w w'
theorem x4y:(Tryz.prog.info? 299).map (fun i=>(i.zero,i.size,i.bytes))=some (some (.agg #[.string ⟨#[]⟩,[()]]),2,24):=by kernel_rfl
def sO:Option (List Nat×Nat)->ByteArray
 |some p=>strN p.1
 |none=>⟨#[]⟩
def vO:Option (List Nat×Nat)->Nat
 |some p=>p.2
 |none=>0
theorem x6a.out_{w R e w'}(h:x6a w R e w'):e=.returned (.tuple #[.agg #[.string (sO R),(vO R)],R.isSome])/\Blw w w':=by
 cases R with
 |none=>exact h
 |some p=>exact h
theorem w0l{n k:Nat}{xs:List Nat}(h:k<n):decL (n-k) (xs.drop (1+k*4))=match decP ((xs.drop (1+k*4)).take 4)with
  |none=>none
  |some p=>(decL (n-(k+1)) (xs.drop (1+(k+1)*4))).map (p::·):=by
 rw[show n-k=(n-(k+1))+1 by omega];show(match decP ((xs.drop (1+k*4)).take 4)with
  |none=>none
  |some p=>(decL (n-(k+1)) ((xs.drop (1+k*4)).drop 4)).map (p::·))=_
 rw[List.drop_drop,show 1+k*4+4=1+(k+1)*4 by omega]
theorem y8k A c (hc:c=33) xs w (h:z0d w w.heap.size 1 A 33 (z0g xs)) (hx:∀x∈xs,x<18446744073709551616) :
  Calls Tryz.prog 386 #[.agg arC0,.slice A 33 c] w (x0v w (decA xs)):=by
 unfold arC0;have hl:xs.length=33:=by have:=h.1;simpa[z0g] using this
 obtain⟨W1,Gr⟩:∃W1,w.alloc (.cells #[.int .i64 8,prI] 306)=W1:=⟨_,rfl⟩
 have Gs:Blw w W1:=by rw[<- Gr];exact(Below.refl _ _).alloc (nL _) _
 have hk:Blk W1 w.heap.size 306 #[.int .i64 8,prI]:=by rw[<- Gr];exact Blk.new _ _ _
 have h1:=(h.below Gs).more Gs.size;obtain⟨G2,b,o,GV,GG,fk⟩:=z4q h1 (k:=0) oM;subst GV;obtain⟨n,Gu⟩:∃n,xs[0]=n:=⟨_,rfl⟩
 have GI:xs.headD 0=n:=by
  rw[<- Gu];exact w5s xs G2
 rw[Gu]at fk;have Gk:Hid (∀W,Blw W1 W->W.cell? ⟨b,o,none⟩=some (.int .u64 n)):=hid (fun W hW=>(hW.cell (p:=⟨b,o,none⟩) GG).trans fk);have GU:=hid Gr;have Gb:=hid Gs;have HK:=hid hk;have GS:Hid (w.heap.size<W1.heap.size):=hid hk.lt;have Gl:=hid h1;have HX:=hid hx;have HC:=hid hc;have HL:=hid hl;have Gy:Hid (n<18446744073709551616):=hid (by rw[<- Gu];exact hx _ (List.getElem_mem G2));have Gg:Hid (decA xs=if 8<n then none else if allZ (xs.drop (1+n*4))=false then none else decL n (xs.drop 1)):=hid (by unfold decA;rw[GI]);generalize decA xs=Y at*;have c0:W1.cell? ⟨w.heap.size,0,none⟩=some (.int .i64 8):=hk.cell 0;have c1:W1.cell? ⟨w.heap.size,1,none⟩=some prI:=hk.cell 1;have G7:Hid (∀W,Blw W1 W->W.cell? ⟨w.heap.size,0,none⟩=some (.int .i64 8)/\W.cell? ⟨w.heap.size,1,none⟩=some (.iface 374 (.agg #[nmI,unI]))):=hid (fun W hW=>⟨(HK.out.below hW HK.out.lt).cell 0,(HK.out.below hW HK.out.lt).cell 1⟩);clear Gr Gs hk h1 h hx hl fk Gu GI G2 GG;go_enter Tryz.func386,Tryz.ntmps386
 go_upto_region 1 with fail
 rw[GU.out];go_upto_region 2 with (go_at_call 203;refine(z5f W1).mono ?_;rintro e w2⟨rfl,GE⟩;have Gi:=hid GE;clear GE)
 clear c0 c1;have f0:=Gk.out w2 Gi.out;obtain⟨k0,k1⟩:=G7.out w2 Gi.out;by_cases Gh:8<n
 ·have HY:Hid (Y=none):=hid (by rw[Gg.out,if_pos Gh])
  have G3:(8:Int)<(n:Int):=oM;have GP:Hid (Blw w w2.drew):=hid (Gb.out.trans (Gi.out.mono Gb.out.size)).drew;clear Gh Gg;go_region;go_wp2_with fail
  go_ret2;unfold x0v;rw[HY.out];exact⟨rfl,GP.out⟩
 ·have G3:(n:Int)<=8:=oM
  have Gf:=hid Gi.out.drew;go_region;go_upto_region 5 with (go_at_call 263;refine(z9q _).mono ?_;rintro e w3⟨rfl,Gn⟩;have Gd:=hid (Gf.out.trans (Gn.mono Gf.out.size));clear Gn)
  clear k0 k1;have f3:=Gk.out w3 Gd.out;have e4:IntKind.i64.wrap (n:Int)=(n:Int):=by rw[IntKind.wrap_i64];omega
  have e5:wrap64 ((n:Int)*4)=(n:Int)*4:=IntWalk.wrap64_in _ oM;have e6:wrap64 (1+(n:Int)*4)=1+(n:Int)*4:=IntWalk.wrap64_in _ oM;have HZ:Hid (∀A' c',(A'=some ⟨b,o+(1+n*4),none⟩\/33-(1+n*4)=0)->Calls Tryz.prog 388 #[.slice A' (33-(1+n*4)) c'] w3 fun e w'=>e=.returned (.bool (allZ (xs.drop (1+n*4))))/\Blw w3 w'):=hid (fun A' c' hA=>by
   refine z9a A' _ c' _ w3 ?_ oM;have hl:=HL.out;rcases hA with rfl|hz
   ·have h2:=((Gl.out.below Gd.out).more Gd.out.size).sub_ (1+n*4) (33-(1+n*4)) oM
    rw[z7b,List.take_of_length_le (by rw[List.length_drop];omega)]at h2;exact h2
   ·exact⟨by simp[z0g,hl],fun h=>absurd h oM⟩)
  rw[if_neg Gh]at Gg;obtain⟨z,hz⟩:∃z,allZ (xs.drop (1+n*4))=z:=⟨_,rfl⟩
  rw[hz]at HZ Gg;have Gj:=hid (show n<=8 by omega);clear hz Gh;go_cut [45]from 35 to 45 (fun v wx=>v=.bool (!z)/\Hid (Blw W1 wx))
  case first =>
   by_cases hn7:n=8
   ·have GW:=HC.out
    subst hn7;subst GW;rw[show((8:Nat):Int)=8 from rfl]at f3;clear e4 e5 e6 G3;go_wp2_with (go_at_call 388;refine(HZ.out _ _ (.inr oM)).mono ?_;rintro e w4⟨rfl,Gp⟩;have Ga:=hid (Gd.out.trans (Gp.mono Gd.out.size));clear Gp)
    go_meet;exact⟨rfl,Ga⟩
   ·have Db:¬c=1+n*4:=by have:=HC.out;omega
    have GF:(33:Int)<=(c:Int):=by have:=HC.out;omega
    clear hn7;go_wp2_with (go_at_call 388;refine(HZ.out _ _ (.inl rfl)).mono ?_;rintro e w4⟨rfl,Gp⟩;have Ga:=hid (Gd.out.trans (Gp.mono Gd.out.size));clear Gp)
    go_meet;exact⟨rfl,Ga⟩
  case rest =>
  obtain⟨rfl,Ga⟩:=hcut;clear f3 e5 e6 HZ;cases z
  ·have HY:Hid (Y=none):=hid (by rw[Gg.out,if_pos rfl])
   go_wp2_with fail
   go_ret2;unfold x0v;rw[HY.out];exact⟨rfl,Gb.out.trans (Ga.out.mono Gb.out.size)⟩
  ·have G6:Hid (Y=decL n (xs.drop 1)):=hid (by rw[Gg.out,if_neg (by decide)])
   clear Gg;have f4:=Gk.out wc Ga.out;obtain⟨i0,GJ,GL,GM,GN⟩:=info_parts x4y;obtain⟨W5,GK,Gq,GH⟩:=run_make_own (P:=Tryz.prog) wc W1.heap.size 287 299 i0 _ 2 Tryz.underlying287 GJ GL GM .i64 .u64 n (by rw[GN];have:=Gj.out;omega) (by have:=Gj.out;unfold maxLen;omega) Ga.out.size;have Gc:Hid (Blw W1 W5):=hid (Ga.out.grown GH Ga.out.size (fun k e=>by cases e));have f5:=Gk.out W5 Gc.out;have GA:=hid Gq;clear Gq GH;go_wp2_with fail
   have Gz:Hid (∀k,k<8->∀W,Blw W1 W->Calls Tryz.prog 395 #[.agg #[nmI,unI],.slice (some ⟨b,o+(1+k*4),none⟩) 4 4] W (x6a W (decP ((xs.drop (1+k*4)).take 4)))):=hid (fun k hk W hW=>by
    have hl:=HL.out;have h2:=((Gl.out.below hW).more hW.size).sub_ (1+k*4) 4 oM;rw[z7b]at h2;exact w2k _ 4 _ W h2 (nL _) (fun x hx=>HX.out x (List.mem_of_mem_drop (List.mem_of_mem_take hx))))
   have GC:Hid (Y=(decL (n-0) (xs.drop (1+0*4))).map (([]:List (List Nat×Nat))++·)):=hid (by
    rw[G6.out];show decL n (xs.drop 1)=(decL n (xs.drop 1)).map (fun x=>[]++x);cases decL n (xs.drop 1)<;>rfl)
   have hm:=v0o;have Da:=hid Gc.out.size;clear G6 Gk f4 f5 GK Ga Gd Gi Gf Gl HX HL HK Gy e4 G3;go_loopw [8,54] (fun v i wr=>∃(k:Nat)(A1:Option Addr)(m1 c1:Nat)(l:List (List Nat×Nat)),k<=n/\i=.int .i64 k/\v=.slice A1 m1 c1/\m1<=k/\Hid (m1=l.length/\l.length=k)/\Hid (Y=(decL (n-k) (xs.drop (1+k*4))).map (l++·))/\Hid (wr.ownsRow W1.heap.size 299 2 (.slice A1 m1 c1) m1 (z0b l))/\Hid (Blw W1 wr)) (fun _ i _=>n-(Go.RowKit.intOf i).toNat)
   case atStart=>exact⟨0,_,_,_,[],Nat.zero_le _,rfl,rfl,nL _,hid ⟨rfl,rfl⟩,GC,GA,Gc⟩
   case round =>
    clear GC GA Gc;obtain⟨k,A1,m1,c1,l,hk,rfl,rfl,GK,Gx,Gm,HO,HB⟩:=hrel;by_cases hlt:k<n
    ·have Gh:=Gj.out
     have e5:wrap64 ((k:Int)*4)=(k:Int)*4:=IntWalk.wrap64_in _ oM;have e6:wrap64 (1+(k:Int)*4)=1+(k:Int)*4:=IntWalk.wrap64_in _ oM;have e7:wrap64 (1+(k:Int)*4+4)=1+(k:Int)*4+4:=IntWalk.wrap64_in _ oM;have GB:=hid (w0l (xs:=xs) hlt);rw[GB.out]at Gm;have G0:=hid (Gz.out k oM);generalize decP ((xs.drop (1+k*4)).take 4)=R at*;clear Gz GB;obtain⟨g0,g1⟩:=G7.out wr HB.out;have GZ:(k:Int)<(n:Int):=oM;have GR:=hid hlt;have GX:(k:Int)<=7:=oM;have GF:(33:Int)<=(c:Int):=by have:=HC.out;omega
     have q0:IntKind.i64.wrap (1+(k:Int)*4+4)=1+(k:Int)*4+4:=by rw[IntKind.wrap_i64];omega
     have qa:¬1+(k:Int)*4+4<1+(k:Int)*4:=oM;have q1:(0:Int)<=1+(k:Int)*4+4:=oM;have q2:1+(k:Int)*4+4<=33:=oM;have q3:1+(k:Int)*4+4<=max (1+(k:Int)*4+4) 0:=oM;have q4:(0:Int)<=1+(k:Int)*4:=oM;have q5:1+(k:Int)*4<=max (1+(k:Int)*4+4) 0:=oM;have q6:(1+(k:Int)*4).toNat=1+k*4:=oM;have q7:(1+(k:Int)*4+4).toNat=1+k*4+4:=oM;have q8:¬1+k*4+4=1+k*4:=oM;have q9:1+k*4+4-(1+k*4)=4:=oM;go_upto_region 12 with fail
     go_cut [11,12]from 61 to 77 (fun v11 v12 wx=>∃g:Nat,v11=.pointer (some ⟨g,0,none⟩)/\v12=.bool R.isSome/\Hid (Blk wx g 299 #[.string (sO R),.int .u64 (vO R:Int)])/\Hid (Blw wr wx))
     case first =>
      have Gw:Hid (Blw W1 wr.drew):=hid HB.out.drew;have GO:Hid (Blw W1 (wr.drew.alloc (.cells #[.string ⟨#[]⟩,.int .u64 0] 299))):=hid (Gw.out.alloc Gw.out.size _);have G5:=hid (Blk.new wr.drew 299 #[.string ⟨#[]⟩,.int .u64 0]);have Dc:w.heap.size<wr.heap.size:=Nat.lt_of_lt_of_le GS.out HB.out.size;have G1:Hid (∀W,Blw W1 W->Calls Tryz.prog 395 #[.agg #[nmI,unI],.slice (some ⟨b,o+(1+k*4),none⟩) 4 4] W fun e w'=>e=.returned (.tuple #[.agg #[.string (sO R),.int .u64 (vO R:Int)],.bool R.isSome])/\Blw W w'):=hid (fun W hW=>(G0.out W hW).mono (fun e w' h=>h.out_));have Ge:Hid (Blw wr wr.drew/\Blw wr (wr.drew.alloc (.cells #[.string ⟨#[]⟩,.int .u64 0] 299))):=hid ⟨(Below.refl _ _).drew,(Below.refl wr.heap.size wr).drew.alloc (nL _) _⟩;generalize sO R=sR at*;generalize vO R=vR at*;generalize R.isSome=bR at*;clear G0 Gm HO Gx Gj GR;go_region_with (go_at_call 395;refine(G1.out _ (by first|exact Gw.out|exact GO.out)).mono ?_;rintro e w5⟨rfl,Gt⟩;(first|(have Gc:=hid (Ge.out.1.trans (Gt.mono Ge.out.1.size)))|(have Gc:=hid (Ge.out.2.trans (Gt.mono Ge.out.2.size))));(first|(have kk:=G5.out.below Gt G5.out.lt;have z0:w5.frozen? ⟨wr.heap.size,0,none⟩=false:=kk.frozen 0;have z1:w5.frozen? ⟨wr.heap.size,1,none⟩=false:=kk.frozen 1;have z2:w5.cell? ⟨wr.heap.size,0,none⟩=some (.string ⟨#[]⟩):=kk.cell 0;have z3:w5.cell? ⟨wr.heap.size,1,none⟩=some (.int .u64 0):=kk.cell 1;have GQ:=hid kk;clear kk)|skip);clear Gt)
      all_goals go_wp2_with fail
      all_goals go_meet
      all_goals first
       |exact⟨w5.heap.size,rfl,rfl,hid (Blk.new _ _ _),hid (Gc.out.alloc Gc.out.size _)⟩
       |exact⟨wr.heap.size,rfl,rfl,hid ((GQ.out.set_ 0 _).set_ 1 _),hid ((Gc.out.setCell (nL _) _).setCell (nL _) _)⟩
     case rest =>
     obtain⟨g,rfl,rfl,G4,Ge⟩:=hcut;clear g0 g1 q0 qa q1 q2 q3 q4 q5 q6 q7 q8 q9 e5 e6 e7 GF GX G0;cases R
     ·have HY:Hid (Y=none):=hid Gm.out
      go_wp2_with fail
      go_ret2;unfold x0v;rw[HY.out];exact⟨rfl,Gb.out.trans ((HB.out.trans (Ge.out.mono HB.out.size)).mono Gb.out.size)⟩
     ·rename_i p
      have GD:Hid (Y=(decL (n-(k+1)) (xs.drop (1+(k+1)*4))).map ((l++[p])++·)):=hid (by
       rw[Gm.out];show((decL (n-(k+1)) (xs.drop (1+(k+1)*4))).map (p::·)).map (l++·)=_;cases decL (n-(k+1)) (xs.drop (1+(k+1)*4))with
       |none=>rfl
       |some t=>simp)
      have g0:wc.cell? ⟨g,0,none⟩=some (.string (strN p.1)):=G4.out.cell 0;have g1:wc.cell? ⟨g,1,none⟩=some (.int .u64 p.2):=G4.out.cell 1;have GT:=hid (z0r HO.out Ge.out);have Gv:=hid (HB.out.trans (Ge.out.mono HB.out.size));have Gh:=Gj.out;go_wp2_with (at_builtin;refine stop ?_)
      unfold Stop;have GY:=Gx.out;have Gl:=hid (z0j wc _ rfl [.string (strN p.1),.int .u64 p.2] 1 2 299 _ rfl rfl);refine z0m _ (.tmp 80) (.tmp 82) 287 rfl rfl W1.heap.size 299 i0 _ 2 24 Tryz.underlying287 GJ GL GM GN rfl oM (.slice A1 m1 c1) m1 (z0b l) rfl (GT.out.alloc _) (wc.heap.size+1) (some ⟨wc.heap.size,0,none⟩) 1 1 [.string (strN p.1),.int .u64 p.2] rfl Gl.out (fun u hu=>by simp at hu;rcases hu with rfl|rfl<;>rfl) (by unfold maxLen;omega) oM (by have:=Gv.out.size;simp;omega) ?_;intro A3 n3 c3 w8 hn3 ho3 hg3 Gn;have G9:Hid (w8.ownsRow W1.heap.size 299 2 (.slice A3 n3 c3) n3 (z0b (l++[p]))):=hid (by rw[z2t];exact ho3);have Ga:=hid ((Gv.out.alloc Gv.out.size _).trans Gn);have b1:n3<=k+1:=oM;have G8:Hid (n3=(l++[p]).length/\(l++[p]).length=k+1):=hid (by rw[List.length_append];simp;omega);clear hn3 ho3 hg3 Gn g0 g1 GY;have e8:wrap64 ((k:Int)+1)=(k:Int)+1:=IntWalk.wrap64_in _ oM;go_wp2;go_roundw
      case rel =>
       first
        |exact⟨k+1,_,_,_,l++[p],oM,by go_num,rfl,b1,G8,GD,G9,Ga⟩
        |(
          repeat apply Exists.intro
          refine⟨?_,rfl⟩;exact⟨k+1,_,_,_,l++[p],oM,by go_num,rfl,b1,G8,GD,G9,Ga⟩)
      case measure=>simp[Go.RowKit.intOf];omega
    ·obtain rfl:k=n:=oM
     have HY:Hid (Y=some l):=hid (by
      rw[Gm.out,Nat.sub_self];show some (l++[])=_;rw[List.append_nil])
     clear hlt Gz;go_wp2;go_ret2;unfold x0v;rw[HY.out];exact⟨⟨_,_,_,rfl,Gx.out.1,z2u HO.out Gb.out.size⟩,Gb.out.trans (HB.out.mono Gb.out.size)⟩
end
end Go.Proofs.YtmhbokcccjmfgaaGreatDoor
