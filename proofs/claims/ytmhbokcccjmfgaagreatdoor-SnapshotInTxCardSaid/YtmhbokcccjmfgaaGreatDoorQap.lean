/- part 16 -/
import Derived.Test.YtmhbokcccjmfgaaGreatDoorQam
import Derived.Test.YtmhbokcccjmfgaaGreatDoorQao
set_option maxRecDepth 100000
set_option maxHeartbeats 16000000
namespace Go.Proofs.YtmhbokcccjmfgaaGreatDoor
open Go.Lib (hid)
section
open Go.RowKit
section
theorem w0z b (hb:b.In) w:() 302 #[b.v] w fun e w'=>e=.returned (z2c b).v/\Blw w w':=by
 obtain⟨g,k,s⟩:=b;obtain⟨hg,hk,hs⟩:=hb;dsimp only at hg hk hs;unfold BK.v z2c;dsimp only;have HB:Hid (Blw w ((w.alloc (.cells #[#[g],[[k]],[[s]]] 335)).alloc (.cells #[.int .u16 0,.int .u8 0,.int .u8 0] 335))):=hid (((Below.refl _ w).alloc (nL _) _).alloc (by simp) _);by_cases h1:g=65535
 ·subst h1
  rw[if_pos rfl];go_enter Tryz.func302,Tryz.ntmps302
  go_wp2;have Ga:=Blk.new2 w (.cells #[.int .u16 65535,[[k]],[[s]]] 335) 335 #[.int .u16 65535,.int .u8 0,.int .u8 178];have Gb:Blw w ((w.alloc (.cells #[.int .u16 65535,[[k]],[[s]]] 335)).alloc (.cells #[.int .u16 65535,.int .u8 0,.int .u8 178] 335)):=((Below.refl _ w).alloc (nL _) _).alloc (by simp) _;generalize (w.alloc (.cells #[.int .u16 65535,[[k]],[[s]]] 335)).alloc (.cells #[.int .u16 65535,.int .u8 0,.int .u8 178] 335)=W at*;have c0:W.cell? (w.heap.size+1,0)=some (.int .u16 65535):=Ga.cell 0;have c1:W.cell? (w.heap.size+1,1)=some (.int .u8 0):=Ga.cell 1;have c2:W.cell? (w.heap.size+1,2)=some (.int .u8 178):=Ga.cell 2;refine bodyPost_ret (v := .agg #[.int .u16 65535,.int .u8 0,.int .u8 178]) (by simp[results,Tryz.results302,go_sem,c0,c1,c2]) rfl ⟨rfl,Gb⟩
 ·rw[if_neg h1]
  have e1:((g:Int)==65535)=false:=by rw[beq_eq_false_iff_ne];omega
  have e2:IntKind.u16.wrap ((g:Int)+1)=((g+1:Nat):Int):=by rw[IntKind.wrap_u16];omega
  dsimp only;generalize g+1=g1 at*;go_enter Tryz.func302,Tryz.ntmps302
  go_wp2;have Ga:=Blk.new2 w (.cells #[#[g],[[k]],[[s]]] 335) 335 #[#[g1],.int .u8 0,.int .u8 176];have Gb:Blw w ((w.alloc (.cells #[#[g],[[k]],[[s]]] 335)).alloc (.cells #[#[g1],.int .u8 0,.int .u8 176] 335)):=((Below.refl _ w).alloc (nL _) _).alloc (by simp) _;generalize (w.alloc (.cells #[#[g],[[k]],[[s]]] 335)).alloc (.cells #[#[g1],.int .u8 0,.int .u8 176] 335)=W at*;have c0:W.cell? (w.heap.size+1,0)=some ↑#[g1]:=Ga.cell 0;have c1:W.cell? (w.heap.size+1,1)=some (.int .u8 0):=Ga.cell 1;have c2:W.cell? (w.heap.size+1,2)=some (.int .u8 176):=Ga.cell 2;refine bodyPost_ret (v := .agg #[#[g1],.int .u8 0,.int .u8 176]) (by simp[results,Tryz.results302,go_sem,c0,c1,c2]) rfl ⟨rfl,Gb⟩
def z5u(V:Nat)(l:List Nat):Prop:=V<18446744073709551616/\∀i,z1z V i=decide (i∈l)
theorem z5u.nil:z5u 0 []:=⟨oM,fun i=>by rw[y4g];simp⟩
theorem z5u.add{V l}(h:z5u V l){i}(hi:i<64):z5u (V|||2^i) (l++[i]):=by
 obtain⟨h1,h2⟩:=w0d h.1 hi;refine⟨h1,fun j=>?_⟩;rw[h2];by_cases e:j=i
 ·subst e;simp
 ·rw[if_neg e,h.2 j];simp[e]
theorem y6v{w B n A l}(h:z0d w B 1 A n (z1f l)){k}(hk:k<n):
  ∃(hl:k<l.length)(b off:Nat),A=some (b,off)/\b<B/\w.cell? (b,off+k)=some ↑[l[k]]:=by
 have hl:k<l.length:=by have:=h.1;simp[z1f]at this;omega
 obtain⟨b,off,hA,hb,hc⟩:=h.plain oM oM;exact⟨hl,b,off,hA,hb,hc k _ (by simp[z1f,hl])⟩
theorem w6h a ln cl g (hc:cl<5) A1 A2 n1 c1 n2 c2 take drop w (hp:Pay w) bl (hbl:Blk w bl 34 #[.slice A1 n1 c1,.slice A2 n2 c2]) (h1:z0d w w.heap.size 1 A1 n1 (z1f take)) (h2:z0d w w.heap.size 1 A2 n2 (z1f drop)) (hn:(take++drop).Nodup) (hi:∀i∈take++drop,i<perC cl) (hn1:n1<=1000) (hn2:n2<=1000) :
  () 251 #[chV a ln cl 0 g,(bl,0,2,2)] w fun e w'=>e=.returned true/\Blw w w':=by
 have Gy:Blw w (w.alloc (.cells (z0w a ln cl g) 251)):=(Below.refl _ _).alloc (nL _) _;have Ge:=hid Gy;have HK:=hid (Blk.new w 251 (z0w a ln cl g));have Gn:=hid (hbl.alloc (.cells (z0w a ln cl g) 251));have Gh:Hid (∀i,i<perC cl->∀W,Blw w W->() 241 #[chV a ln cl 0 g,[i]] W fun e w'=>e=.returned true/\Blw W w'):=hid (fun i hi W hW=>by
  have h:=y2d a ln cl 0 g i hc W (hp.below hW);rw[decide_eq_true hi]at h;exact h)
 have G1:=hid h1;have G2:=hid h2;have G0:=hid (show take.length=n1 by have:=h1.1;simp[z1f]at this;omega);have GF:=hid (show drop.length=n2 by have:=h2.1;simp[z1f]at this;omega);have HI:=hid (show(take++drop).Nodup/\(∀i∈take++drop,i<perC cl)/\perC cl<=62 from⟨hn,hi,(z3b cl).2⟩);clear hp h1 h2 hn hi hbl hc;unfold chV at*;unfold z0w memV at*;generalize hW:w.alloc (.cells #[(57,a.th 0,0),[ln],[cl],(),#[g]] 251)=W at*;have Gx:=hid hW.symm;clear hW Gy;have Gw:Hid (Blw W W):=Below.refl _ _;go_enter Tryz.func251,Tryz.ntmps251
 have q0:W.cell? (bl,0)=some (.slice A1 n1 c1):=Gn.out.cell 0;have q1:W.cell? (bl,1)=some (.slice A2 n2 c2):=Gn.out.cell 1;rw[Gx.out]at q0 q1;go_wp2;refine wp_loop_rounds 3 ?_;rw[rounds_succ];go_wp2;rw[<- Gx.out];have Gi:Hid (z5u 0 (take.take 0)):=hid z5u.nil;go_loopw [5,18] (fun v i wr=>∃(k V:Nat),k<=n1/\i=↑[k]/\v=↑V/\Hid (z5u V (take.take k))/\Hid (Blw W wr)) (fun _ i _=>n1-(Go.RowKit.intOf i).toNat)
 case atStart=>exact⟨0,0,Nat.zero_le _,rfl,rfl,Gi,Gw⟩
 case round =>
  clear Gi Gw;obtain⟨k,V,hk,rfl,rfl,HS,H⟩:=hrel;by_cases hlt:k<n1
  ·have Gg:=hid (Ge.out.trans (H.out.mono Ge.out.size))
   obtain⟨hl,b,GE,hA,G5,f0⟩:=y6v (G1.out.below Gg.out) hlt;subst hA;have Gb:take[k]∈take++drop:=List.mem_append.2 (.inl (List.getElem_mem hl));have hi:=HI.out.2.1 _ Gb;have G3:=HI.out.2.2;have Gm:take[k]∉take.take k:=fun hh=>by
    obtain⟨j,hj,he⟩:=List.getElem_of_mem hh;have Gs:j<k:=by simp at hj;omega
    have Gq:take[j]=take[k]:=by rw[<- he];simp
    have Gu:=(List.nodup_append.1 HI.out.1).1;exact(List.pairwise_iff_getElem.1 Gu) j k oM hl Gs Gq
   have Gc:take[k]∉(take.take k):=Gm;have Gj:Hid (z5u (V|||2^take[k]) (take.take (k+1))):=hid (by rw[List.take_succ_eq_append_getElem hl];exact HS.out.add oM);have Gl:z1z V take[k]=false:=by rw[HS.out.2];exact decide_eq_false Gc
   have Gd:=w0c V take[k] HS.out.1;rw[Gl]at Gd;have Gp:=hid (Gh.out _ hi wr Gg.out);have u2:=y3e (i:=take[k]) oM;have u3:=u64_or_nat V (2^take[k]) HS.out.1 (z4m oM);clear Gl Gc Gb HS Gm;generalize take[k]=i0 at*;have u1:IntKind.u64.wrap (i0:Int)=(i0:Int):=by rw[IntKind.wrap_u64];omega
   have GC:(0:Int)<=(k:Int):=oM;have GD:(k:Int)<(n1:Int):=oM;have Gr:(i0:Int)<62:=oM;have GB:(0:Int)<=(i0:Int):=oM;generalize (V|||2^i0)=V2 at*;generalize (2^i0:Nat)=p2 at*;have Ga:=HK.out.below H.out HK.out.lt;have G6:wr.cell? (w,0)=some ↑(57,a.th 0,0):=Ga.cell 0;have G7:wr.cell? (w,1)=some ↑[ln]:=Ga.cell 1;have G8:wr.cell? (w,2)=some ↑[cl]:=Ga.cell 2;have G9:wr.cell? (w,3)=some ↑():=Ga.cell 3;have GA:wr.cell? (w,4)=some ↑#[g]:=Ga.cell 4;clear Ga;go_wp2_with (go_at_call 241;refine Gp.out.mono ?_;rintro e w2⟨rfl,Gk⟩;have Gf:=hid (H.out.trans (Gk.mono H.out.size));clear Gk)
   go_roundw
   case rel =>
    first
     |exact⟨k+1,V2,oM,by go_num,rfl,Gj,Gf⟩
     |(
       repeat apply Exists.intro
       refine⟨?_,rfl⟩;exact⟨k+1,V2,oM,by go_num,rfl,Gj,Gf⟩)
   case measure=>simp[Go.RowKit.intOf];omega
  ·have Gt:k=n1:=oM
   subst Gt;have Gi:Hid (z5u V (take++drop.take 0)):=hid (by
    have h:=HS.out;rw[List.take_of_length_le (by rw[G0.out];exact nL _)]at h;simpa using h)
   have Gv:=hid H.out;have GG:wr.cell? (bl,1)=some (.slice A2 n2 c2):=(Gn.out.below H.out Gn.out.lt).cell 1;obtain⟨V1,G4⟩:∃V1,V=V1:=⟨_,rfl⟩
   subst G4;clear HS H hlt hk q0 q1;go_wp2;rw[rounds_succ];go_wp2;go_loopw [5,18] (fun v i wr=>∃(k V:Nat),k<=n2/\i=↑[k]/\v=↑V/\Hid (z5u V (take++drop.take k))/\Hid (Blw W wr)) (fun _ i _=>n2-(Go.RowKit.intOf i).toNat)
   case atStart=>exact⟨0,V,Nat.zero_le _,rfl,rfl,Gi,Gv⟩
   case round =>
    clear Gi Gv;obtain⟨k,V,hk,rfl,rfl,HS,H⟩:=hrel;by_cases hlt:k<n2
    ·have Gg:=hid (Ge.out.trans (H.out.mono Ge.out.size))
     obtain⟨hl,b,GE,hA,G5,f0⟩:=y6v (G2.out.below Gg.out) hlt;subst hA;have Gb:drop[k]∈take++drop:=List.mem_append.2 (.inr (List.getElem_mem hl));have hi:=HI.out.2.1 _ Gb;have G3:=HI.out.2.2;have Gm:drop[k]∉drop.take k:=fun hh=>by
      obtain⟨j,hj,he⟩:=List.getElem_of_mem hh;have Gs:j<k:=by simp at hj;omega
      have Gq:drop[j]=drop[k]:=by rw[<- he];simp
      have Gu:=(List.nodup_append.1 HI.out.1).2.1;exact(List.pairwise_iff_getElem.1 Gu) j k oM hl Gs Gq
     have Gc:drop[k]∉(take++drop.take k):=fun hh=>by
      rcases List.mem_append.1 hh with hh|hh
      ·exact(List.nodup_append.1 HI.out.1).2.2 _ hh _ (List.getElem_mem hl) rfl
      ·exact Gm hh
     have Gj:Hid (z5u (V|||2^drop[k]) (take++drop.take (k+1))):=hid (by rw[List.take_succ_eq_append_getElem hl,<- List.append_assoc];exact HS.out.add oM);have Gl:z1z V drop[k]=false:=by rw[HS.out.2];exact decide_eq_false Gc
     have Gd:=w0c V drop[k] HS.out.1;rw[Gl]at Gd;have Gp:=hid (Gh.out _ hi wr Gg.out);have u2:=y3e (i:=drop[k]) oM;have u3:=u64_or_nat V (2^drop[k]) HS.out.1 (z4m oM);clear Gl Gc Gb HS Gm;generalize drop[k]=i0 at*;have u1:IntKind.u64.wrap (i0:Int)=(i0:Int):=by rw[IntKind.wrap_u64];omega
     have GC:(0:Int)<=(k:Int):=oM;have GD:(k:Int)<(n2:Int):=oM;have Gr:(i0:Int)<62:=oM;have GB:(0:Int)<=(i0:Int):=oM;generalize (V|||2^i0)=V2 at*;generalize (2^i0:Nat)=p2 at*;have Ga:=HK.out.below H.out HK.out.lt;have G6:wr.cell? (w,0)=some ↑(57,a.th 0,0):=Ga.cell 0;have G7:wr.cell? (w,1)=some ↑[ln]:=Ga.cell 1;have G8:wr.cell? (w,2)=some ↑[cl]:=Ga.cell 2;have G9:wr.cell? (w,3)=some ↑():=Ga.cell 3;have GA:wr.cell? (w,4)=some ↑#[g]:=Ga.cell 4;clear Ga;go_wp2_with (go_at_call 241;refine Gp.out.mono ?_;rintro e w2⟨rfl,Gk⟩;have Gf:=hid (H.out.trans (Gk.mono H.out.size));clear Gk)
     go_roundw
     case rel =>
      first
       |exact⟨k+1,V2,oM,by go_num,rfl,Gj,Gf⟩
       |(
         repeat apply Exists.intro
         refine⟨?_,rfl⟩;exact⟨k+1,V2,oM,by go_num,rfl,Gj,Gf⟩)
     case measure=>simp[Go.RowKit.intOf];omega
    ·have Gt:k=n2:=oM
     subst Gt;have Gz:=hid (Ge.out.trans (H.out.mono Ge.out.size));go_wp2;rw[rounds_succ];go_wp2;go_ret;exact⟨rfl,Gz.out⟩
end
end
section
open Go.RowKit Go.Maps
def chkR(s K:Nat)(cs:Nat->CS)(p kind:Nat):Nat:=if p=0 then 1 else if p/72057594037927936≠0 then 2 else match z4y s K (pOff p)with
 |none=>2
 |some k=>if (cs k).dv=true then (if (blkR (s+32*k) (cs k).cl (cs k).bs p).2≠0 then (blkR (s+32*k) (cs k).cl (cs k).bs p).2 else if kind≠0/\kind≠z2h p then 13 else 0)else 2
section
variable{a:DA}{L T s n K:Nat}{x:HA}{cs:Nat->CS}{f:Nat->Option Nat}{N m b0:Nat}{S:Fp}{cur:Nat->Nat}{w w':World}
theorem DS.home(h:DS a L T s n K x cs f N m b0 S cur w) p W (hW:Blw w W) :
  () 150 #[(x.h,0),(pOff p)] W fun e w'=>∃(ln:Nat)(b:Bool),e=.returned (.tuple #[[ln],b])/\x9c s K (pOff p) ln b/\W=w':=by
 have h1:=h.hK;have h2:=h.hL;exact x4x (h.hs.heap.below hW h.hs.heap.lt) oM oM h1.1 (pOff p) (by unfold pOff;omega)
theorem y2e(h:DS a L T s n K x cs f N m b0 S cur w)(p kind:Nat)(hp64:p<18446744073709551616)(hk:kind<256):
  () 64 #[(x.h,()),p,[[kind]]] w fun e w'=>e=.returned [chkR s K cs p kind]/\Blw w w':=by
 have HD:=hid h;have Gd:=hid (z9m p w);have Gl:Hid (∀W,Blw w W->() 76 #[(a.th 0,())] W fun e w'=>e=.returned ()/\W=w'):=hid (fun W hW=>z9u (h.dev.below hW));have Gq:=hid (z4o p);have Gp:=hid (y1b p);have Gn:=hid (h.home p w (Below.refl _ _));have hm:=z1x (some (a.th 0,()));have Gr:w.cell? (x.h,())=some (.iface 57 (a.th 0,())):=h.hs.heap.cell 0;have Gj:Hid (Blw w w):=Below.refl _ _;clear h;by_cases hp0:p=0
 ·have HR:Hid (chkR s K cs p kind=1):=hid (by unfold chkR;rw[if_pos hp0])
  rw[decide_eq_true hp0]at Gd;clear hp0;go_enter Tryz.func64,Tryz.ntmps64
  go_wp2_with (go_at_call 72;refine Gd.out.mono ?_;rintro e w1⟨rfl,rfl⟩)
  go_ret;exact⟨by rw[HR.out];rfl,Gj.out⟩
 ·rw[decide_eq_false hp0]at Gd
  have Ga:Hid (chkR s K cs p kind=if p/72057594037927936≠0 then 2 else match z4y s K (pOff p)with
   |none=>2
   |some k=>if (cs k).dv=true then (if (blkR (s+32*k) (cs k).cl (cs k).bs p).2≠0 then (blkR (s+32*k) (cs k).cl (cs k).bs p).2 else if kind≠0/\kind≠z2h p then 13 else 0)else 2):=hid (by unfold chkR;rw[if_neg hp0])
  clear hp0;generalize chkR s K cs p kind=rr at*;generalize hpo:pOff p=po at*;have Gv:=hid hpo;clear hpo;go_enter Tryz.func64,Tryz.ntmps64
  go_wp2_with (first
   |(go_at_call 72;refine Gd.out.mono ?_;rintro e w1⟨rfl,rfl⟩)
   |(go_at_call 76;refine(Gl.out _ Gj.out).mono ?_;rintro e w1⟨rfl,rfl⟩)
   |(go_at_call 143;refine(Gq.out _).mono ?_;rintro e w1⟨rfl,rfl⟩)
   |(go_at_call 150;refine Gn.out.mono ?_;rintro e w1⟨ln,b,rfl,hP,rfl⟩;refine stop ?_))
  unfold Stop;clear Gd Gq Gn;rcases hP with ⟨hho,rfl,rfl⟩|⟨k,hho,hk,rfl,rfl⟩
  ·have HR:Hid (rr=2):=hid (by rw[Ga.out,hho];split<;>rfl)
   clear hho Ga;go_wp2;go_ret;exact⟨by rw[HR.out];rfl,Gj.out⟩
  ·rw[hho]at Ga
   clear hho;dsimp only at Ga;have Gu:=hid hk;by_cases hpt:p/72057594037927936=0
   ·rw[if_neg (fun hh=>hh hpt)]at Ga
    have q0:((p:Int)/72057594037927936==0)=true:=by rw[beq_iff_eq];omega
    have q1:(p:Int)/72057594037927936=0:=oM;clear hpt;have Gk:=HD.out.line hk;cases hd:(cs k).dv with
    |false =>
     have hu:cur (8*(s+32*k))=z4n (cs k).g/\0<(cs k).g/\(cs k).g<65536:=by
      have:=HD.out.ok k hk;unfold CSok at this;rw[hd]at this;exact this
     have HR:Hid (rr=2):=hid (by rw[Ga.out,hd];rfl);have Gi:=hid (y8p HD.out.dev HD.out.tab (s+32*k) (cs k).g Gk hu.2.1 hu.2.2 hu.1);unfold w0g memV at Gi;clear Ga hd hu hk;generalize ((s+32*k:Nat):Int)=v at*;go_wp2_with (go_at_call 151;refine Gi.out.mono ?_;rintro e w1⟨rfl,Ge⟩;refine stop ?_)
     unfold Stop;have Gb:=hid (Ge.alloc Ge.size (.cells #[.nilIface,(),(),(),.int .u16 0] 251));have Gc:=hid (Gl.out _ Gb.out);have Gs:w1.cell? (x.h,())=some (.iface 57 (a.th 0,())):=(HD.out.hs.heap.below Ge HD.out.hs.heap.lt).cell 0;have Gt:x.h<w1.heap.size:=Nat.lt_of_lt_of_le HD.out.hs.heap.lt Ge.size;clear Ge Gi Gr;go_wp2_with (go_at_call 76;refine Gc.out.mono ?_;rintro e w2⟨rfl,rfl⟩)
     go_ret;exact⟨by rw[HR.out];rfl,Gb.out⟩
    |true =>
     rw[hd]at Ga;have hC:=HD.out.chw hk hd;have Gi:=hid (z4u HD.out.dev HD.out.tab HD.out.pay (s+32*k) (cs k).cl (cs k).g Gk hC.cls hC.g0 hC.g1 hC.hdr);have Gm:Hid (∀W,Blw w W->() 152 #[chV a (s+32*k) (cs k).cl 0 (cs k).g,p] W fun e w'=>e=.returned (.tuple #[.int .i64 ((blkR (s+32*k) (cs k).cl (cs k).bs p).1:Int),.int .i64 ((blkR (s+32*k) (cs k).cl (cs k).bs p).2:Int)])/\Blw W w'):=hid (fun W hW=>x2b (HD.out.dev.below hW) (HD.out.tab.below hW) (HD.out.pay.below hW) (s+32*k) (cs k).cl (cs k).g (cs k).V p (cs k).bs Gk hC hp64);clear hC hd Gk hk;rw[if_pos rfl]at Ga;generalize blkR (s+32*k) (cs k).cl (cs k).bs p=br at*;obtain⟨bi,be⟩:=br;dsimp only at*;unfold chV memV at*;generalize s+32*k=ln at*;generalize (cs k).cl=cl at*;generalize (cs k).g=g at*;go_wp2_with (go_at_call 151;refine Gi.out.mono ?_;rintro e w1⟨rfl,Ge⟩;refine stop ?_)
     unfold Stop;have Gb:=hid (Ge.alloc Ge.size (.cells #[.iface 57 (a.th 0,()),[ln],[cl],(),#[g]] 251));have Gc:=hid (Gl.out _ Gb.out);have Gg:=hid (Gm.out _ Gb.out);have Gs:w1.cell? (x.h,())=some (.iface 57 (a.th 0,())):=(HD.out.hs.heap.below Ge HD.out.hs.heap.lt).cell 0;have Gt:x.h<w1.heap.size:=Nat.lt_of_lt_of_le HD.out.hs.heap.lt Ge.size;clear Ge Gi Gr Gm;by_cases hbe:be=0
     ·subst hbe
      rw[if_neg (fun hh=>hh rfl)]at Ga;by_cases hk0:kind=0
      ·subst hk0
       rw[if_neg (fun hh=>hh.1 rfl)]at Ga;go_wp2_with (first
        |(go_at_call 76;refine Gc.out.mono ?_;rintro e w2⟨rfl,rfl⟩)
        |(go_at_call 152;refine Gg.out.mono ?_;rintro e w2⟨rfl,Gf⟩;have Gh:=hid (Gb.out.trans (Gf.mono Gb.out.size));clear Gf))
       go_ret;exact⟨by rw[Ga.out];rfl,Gh.out⟩
      ·obtain⟨g1,g2,g3,g4⟩:=z5m hk0
       by_cases hkd:kind=z2h p
       ·have e1:((kind:Int)==(z2h p:Int))=true:=by rw[beq_iff_eq];omega
        rw[if_neg (fun hh=>hh.2 hkd)]at Ga;clear hkd;generalize z2h p=pk at*;go_wp2_with (first
         |(go_at_call 76;refine Gc.out.mono ?_;rintro e w2⟨rfl,rfl⟩)
         |(go_at_call 104;refine(Gp.out _).mono ?_;rintro e w3⟨rfl,rfl⟩)
         |(go_at_call 152;refine Gg.out.mono ?_;rintro e w2⟨rfl,Gf⟩;have Gh:=hid (Gb.out.trans (Gf.mono Gb.out.size));clear Gf))
        go_ret;exact⟨by rw[Ga.out];rfl,Gh.out⟩
       ·have e1:((kind:Int)==(z2h p:Int))=false:=by rw[beq_eq_false_iff_ne];omega
        rw[if_pos ⟨hk0,hkd⟩]at Ga;clear hkd;generalize z2h p=pk at*;go_wp2_with (first
         |(go_at_call 76;refine Gc.out.mono ?_;rintro e w2⟨rfl,rfl⟩)
         |(go_at_call 104;refine(Gp.out _).mono ?_;rintro e w3⟨rfl,rfl⟩)
         |(go_at_call 152;refine Gg.out.mono ?_;rintro e w2⟨rfl,Gf⟩;have Gh:=hid (Gb.out.trans (Gf.mono Gb.out.size));clear Gf))
        go_ret;exact⟨by rw[Ga.out];rfl,Gh.out⟩
     ·rw[if_pos hbe]at Ga
      obtain⟨g1,g2,g3,g4⟩:=z5m hbe;clear hbe;go_wp2_with (first
       |(go_at_call 76;refine Gc.out.mono ?_;rintro e w2⟨rfl,rfl⟩)
       |(go_at_call 152;refine Gg.out.mono ?_;rintro e w2⟨rfl,Gf⟩;have Gh:=hid (Gb.out.trans (Gf.mono Gb.out.size));clear Gf))
      go_ret;exact⟨by rw[Ga.out];rfl,Gh.out⟩
   ·rw[if_pos hpt]at Ga
    have q0:((p:Int)/72057594037927936==0)=false:=by rw[beq_eq_false_iff_ne];omega
    clear hpt;generalize ((s+32*k:Nat):Int)=v at*;go_wp2;go_ret;exact⟨by rw[Ga.out];rfl,Gj.out⟩
end
end
section
open Go.RowKit Go.Maps
theorem z6v:∀(l:List (List Nat×Nat))(k j:Nat)(hk:k<l.length),j<2->(z0b l)[k*2+j]?=[Value.string (strN (l[k]).1),.int .u64 ((l[k]).2:Int)][j]?
 |p::l,0,j,_,hj=>by
  show([Value.string (strN p.1),.int .u64 p.2]++z0b l)[0*2+j]?=_;rw[Nat.zero_mul,Nat.zero_add,List.getElem?_append_left (show j<2 from hj)];rfl
 |p::l,k+1,j,hk,hj=>by
  have hk':k<l.length:=by simpa using hk
  have ih:=z6v l k j hk' hj;show([Value.string (strN p.1),.int .u64 p.2]++z0b l)[(k+1)*2+j]?=_;rw[List.getElem?_append_right (show(2:Nat)<=(k+1)*2+j by omega)];show(z0b l)[(k+1)*2+j-2]?=_;rw[show(k+1)*2+j-2=k*2+j by omega];exact ih
theorem z2a{w B n A l}(h:z0d w B 2 A n (z0b l)){k}(hk:k<n):
  ∃(hl:k<l.length)(b off:Nat),A=some (b,off)/\b<B/\w.cell? (b,off+k*2)=some (.string (strN (l[k]).1))/\w.cell? (b,off+k*2+1)=some (.int .u64 ((l[k]).2:Int)):=by
 have hl:k<l.length:=by have:=h.1;rw[z0q]at this;omega
 obtain⟨b,off,hA,hb,hc⟩:=h.plain oM oM;exact⟨hl,b,off,hA,hb,hc (k*2) _ (z6v l k 0 hl oM),hc (k*2+1) _ (z6v l k 1 hl oM)⟩
def fndS(s:ByteArray):Nat->List (List Nat×Nat)->Int
 |_,[] => -1
 |i,p::t=>if strN p.1=s then (i:Int)else fndS s (i+1) t
theorem w7m(a s:ByteArray):(a.toList==s.toList)=decide (a=s):=by
 rw[ByteArray.toList_eq,ByteArray.toList_eq];by_cases h:a=s
 ·subst h
  simp
 ·rw[decide_eq_false h,beq_eq_false_iff_ne]
  exact fun e=>h (ByteArray.ext (Array.toList_inj.1 e))
theorem w0q(a s:ByteArray)(v g:Nat)(w:World)(h:Blk w g 9 #[.string s]):
  () 259 #[.agg #[.string a,v],(g,())] w fun e w'=>e=.returned (decide (a=s))/\Blw w w':=by
 have c1:(w.alloc (.cells #[.string a,v] 299)).cell? (g,())=some (.string s):=(h.alloc _).cell 0;clear h;go_enter Tryz.func259,Tryz.ntmps259
 go_wp2;go_ret;exact⟨by rw[<- w7m];rfl,(Below.refl _ _).alloc (nL _) _⟩
theorem v0d A n c (l:List (List Nat×Nat)) s g w (h:z0d w w 2 A n (z0b l)) (hb:Blk w g 9 #[.string s]) (hn:n<=100000) :
  () 258 #[.slice A n c,.func (.func 259) #[] #[(g,0)]] w fun e w'=>e=.returned [fndS s 0 l]/\Blw w w':=by
 have Gg:l.length=n:=by have:=h.1;rw[z0q]at this;omega
 have HR:=hid h;have HL:=hid Gg;have HG:=hid hb;have Ge:Hid (Blw w w):=Below.refl _ _;obtain⟨Y,hY⟩:∃Y,fndS s 0 l=Y:=⟨_,rfl⟩
 rw[hY];have Gf:Hid (Y=fndS s 0 (l.drop 0)):=hid (by rw[List.drop_zero,hY]);clear h Gg hb hY;go_enter Tryz.func258,Tryz.ntmps258
 go_wp2_with fail
 go_loopw [8] (fun v wr=>∃k:Nat,k<=n/\v=↑[k]/\Hid (Y=fndS s k (l.drop k))/\Hid (Blw w wr)) (fun v _=>n-(Go.RowKit.intOf v).toNat)
 case atStart=>exact⟨0,Nat.zero_le _,rfl,Gf,Ge⟩
 case round =>
  clear Gf Ge;obtain⟨k,hk,rfl,HN,H⟩:=hrel;by_cases hlt:k<n
  ·obtain⟨Gd,gb,go,Gh,_,f0,f1⟩:=z2a ((HR.out.below H.out).more H.out.size) (k:=k) hlt
   subst Gh;have HS:Hid (Y=if strN (l[k]).1=s then (k:Int)else fndS s (k+1) (l.drop (k+1))):=hid (by
    rw[HN.out,List.drop_eq_getElem_cons Gd];rfl)
   generalize l[k]=p at*;obtain⟨pn,pv⟩:=p;dsimp only at f0 f1 HS;have HF:=hid (w0q (strN pn) s pv g wr (HG.out.below H.out HG.out.lt));have Gi:(0:Int)<=(k:Int):=oM;have Gj:(k:Int)<(n:Int):=oM;by_cases hx:strN pn=s
   ·have Ga:Hid (Y=(k:Int)):=hid (by rw[HS.out,if_pos hx])
    rw[decide_eq_true hx]at HF;clear HS HN Gd hx;go_wp2_with (go_at_call 259;refine HF.out.mono ?_;rintro e w2⟨rfl,Gb⟩;have Gc:=hid (H.out.trans (Gb.mono H.out.size));clear Gb)
    go_ret;rw[Ga.out];exact⟨rfl,Gc.out⟩
   ·have Ga:Hid (Y=fndS s (k+1) (l.drop (k+1))):=hid (by rw[HS.out,if_neg hx])
    rw[decide_eq_false hx]at HF;clear HS HN Gd hx;go_wp2_with (go_at_call 259;refine HF.out.mono ?_;rintro e w2⟨rfl,Gb⟩;have Gc:=hid (H.out.trans (Gb.mono H.out.size));clear Gb)
    go_roundw
    case rel =>
     first
      |exact⟨k+1,oM,by go_num,Ga,Gc⟩
      |(
        repeat apply Exists.intro
        refine⟨?_,rfl⟩;exact⟨k+1,oM,by go_num,Ga,Gc⟩)
    case measure=>simp[Go.RowKit.intOf];omega
  ·have Ga:Hid (Y= -1):=hid (by rw[HN.out,List.drop_of_length_le (by have:=HL.out;omega)];rfl)
   obtain rfl:k=n:=oM;clear hlt hk;go_wp2;go_ret;rw[Ga.out];exact⟨rfl,H.out⟩
theorem z4w A n c (l:List (List Nat×Nat)) s w (h:z0d w w 2 A n (z0b l)) (hn:n<=100000) :
  () 197 #[.slice A n c,.string s] w fun e w'=>e=.returned [fndS s 0 l]/\Blw w w':=by
 have Ga:=(Below.refl w w).alloc (nL _) (.cells #[.string s] 9);have HI:=hid (v0d A n c l s w (w.alloc (.cells #[.string s] 9)) ((h.below Ga).more Ga.size) (Blk.new _ _ _) hn);have Gb:=hid Ga;have Ge:∀(fn:Fn)(first cap:Array Value)(w:World),(Instr.makeFunc fn first cap).run Tryz.prog w=.ok (.func fn first cap) w:=fun _ _ _ _=>rfl
 clear h Ga;go_enter Tryz.func197,Tryz.ntmps197
 go_wp2_with (go_at_call 258;refine HI.out.mono ?_;rintro e w2⟨rfl,Gc⟩;have Gd:=hid (Gb.out.trans (Gc.mono Gb.out.size));clear Gc)
 go_ret;exact⟨rfl,Gd.out⟩
section
variable{a:DA}{L T s n K:Nat}{x:HA}{cs:Nat->CS}{f:Nat->Option Nat}{N m b0:Nat}{S:Fp}{cur:Nat->Nat}{w w':World}{cl k i:Nat}
theorem Vac.cls(hv:Vac s K cs f cl k i):offO s cs k i=blkO (s+32*k) cl i:=by unfold offO;rw[hv.2.2.1]
theorem y1d{ln cl i j}(hi:i<perC cl)(hj:j<payW cl):(blkO ln cl i+8*j)/8=8*ln+offB cl i+1+j/\8*ln<=8*ln+offB cl i+1+j/\8*ln+offB cl i+1+j<8*ln+256/\¬z8q ln cl (8*ln+offB cl i+1+j):=by
 have h1:=off_lt hi;have h2:=z2y cl i;refine⟨by unfold blkO;omega,oM,oM,w1c hi hj⟩
theorem DS.ok_pay(h:DS a L T s n K x cs f N m b0 S cur w){cl i}(hk:k<K)(hd:(cs k).dv=true)(hc:(cs k).cl=cl)(hi:i<perC cl){ws}(hw:∀e∈ws,∃j,j<payW cl/\e.1=blkO (s+32*k) cl i+8*j):
  ∀k',k'<K->CSok (wrS cur ws) (s+32*k') (cs k'):=fun k' hk'=>by
 refine(h.ok k' hk').same (fun y h1 h2 h3=>z1s ws _ _ (fun e he=>?_));obtain⟨j,hj,Ga⟩:=hw e he;obtain⟨p1,p2,p3,p4⟩:=y1d (ln:=s+32*k) hi hj;rw[Ga,p1];intro hy;by_cases e1:k'=k
 ·subst e1
  have:=h3 hd;rw[hc,<- hy]at this;exact p4 this
 ·omega
theorem DS.zeroed{T' S'}(h:DS a L T s n K x cs f N m b0 S cur w)(hv:Vac s K cs f cl k i)(hd:Dev a L T' w' S' (wrS cur (zerW (offO s cs k i) (payW cl))) 0)(hc:Chg S w w')(hg:Grew S S' w):
  DS a L T' s n K x cs f N m b0 S' (wrS cur (zerW (offO s cs k i) (payW cl))) w':=by
 refine h.dev_ hd hc hg ?_ (z3k _ _ h.bnd (fun e he=>by obtain⟨j,_,rfl⟩:=z5t he;show 0<_;omega));refine h.ok_pay hv.1 hv.2.1 hv.2.2.1 hv.2.2.2.1 (fun e he=>?_);obtain⟨j,hj,rfl⟩:=z5t he;exact⟨j,hj,by rw[hv.cls]⟩
theorem DS.vac_facts(h:DS a L T s n K x cs f N m b0 S cur w)(hv:Vac s K cs f cl k i) kind (hk8:kind<128):cl<5/\offO s cs k i%8=0/\offO s cs k i+8*payW cl<=64*L/\pOff (fptr s cs kind k i)=offO s cs k i/\fptr s cs kind k i≠0/\fptr s cs kind k i<18446744073709551616/\0<((cs k).bs i).gen/\((cs k).bs i).gen<65536:=by
 obtain⟨h1,h2,h3,h4,h5,h6⟩:=hv;have hC:=h.chw h1 h2;have hL:=h.hL;have Gd:=h.line h1;have ho:=Go.Proofs.YtmhbokcccjmfgaaGreatDoor.off_lt h4;have Gc:=(hC.inn i (by rw[h3];exact h4)).g;have Ga:=hC.good i (by rw[h3];exact h4);have Gb:0<((cs k).bs i).gen:=by unfold BK.good at Ga;rw[if_pos h5]at Ga;simp at Ga;omega
 have e1:offO s cs k i=64*(s+32*k)+8*offB cl i+8:=by unfold offO blkO;rw[h3]
 refine⟨by rw[<- h3];exact hC.cls,oM,oM,?_,?_,?_,Gb,Gc⟩
 ·exact x3a (by rw[show blkO (s+32*k) (cs k).cl i=offO s cs k i from rfl];omega) (by rw[show blkO (s+32*k) (cs k).cl i=offO s cs k i from rfl];omega)
 ·exact w8i Gb
 ·exact(w2g (by rw[show blkO (s+32*k) (cs k).cl i=offO s cs k i from rfl];omega) Gc hk8).1
theorem z3o{Z b}(hg:w.grownBy w' (some b))(hZ:Z b):Chg Z w w':=(Chg.refl Z w).grown hg (fun g e=>by injection e with e;subst e;exact .inl hZ)
theorem DS.rsv(h:DS a L T s n K x cs f N m b0 S cur w)(hv:Vac s K cs f cl k i) kind (_hk0:0<kind) (hk8:kind<128) (hN:N<maxLen) :
  ∃(w7 w8:World)(c:Int),
   (Instr.mapUpdate 144 (.map (some x.mr)) (offO s cs k i) (fptr s cs kind k i)).run Tryz.prog w.drew=.ok () w7 /\
   (Instr.lookup 165 (.map (some x.mh)) [s+32*k] false).run Tryz.prog w7=.ok [c] w7 /\
   (Instr.mapUpdate 165 (.map (some x.mh)) [s+32*k] [wrap64 (c+1)]).run Tryz.prog w7=.ok () w8 /\
   Blk w7 x.h 168 (z2d a s n x.gs x.mr x.mh x.lk)/\Blk w8 x.h 168 (z2d a s n x.gs x.mr x.mh x.lk)/\Plc a s K x.p cs w8 /\
   ∀w9,Plc a s K x.p cs w9->Chg (fun j=>j=x.pl) w8 w9->DS a L T s n K x cs (updF f (offO s cs k i) (some (fptr s cs kind k i))) (N+1) (m+1) b0 S cur w9/\Chg x.fp w w9:=by
 obtain⟨q1,q2,q3,q4,q5,q6,q7,q8⟩:=h.vac_facts hv kind hk8;obtain⟨n1,n2,n3,n4,n5,n6,n7,n8⟩:=h.hs.pl_ne;have Gc:=h.few;have Gd:=hv.1;have hd:Chg Fp.no w w.drew:=(Chg.refl _ _).drew;have hs:=h.hs.chg hd (fun h=>h) (fun h=>h) (fun h=>h) (fun h=>h) (fun h=>h);obtain⟨w7,r7,p7,g7⟩:=hs.res.put hN (show offO s cs k i<18446744073709551616 by have:=h.hL;omega) q6 hv.2.2.2.2.2;have c7:Chg (fun j=>j=x.mr) w.drew w7:=z3o g7 rfl;have Gb:=hs.held.chg c7 (fun e=>hs.ne e.symm);obtain⟨c,r8,Ge⟩:=Gb.look (x:=s+32*k) oM;obtain⟨w8,r9,p8,g8⟩:=Gb.put hN (x:=s+32*k) oM (wrap64_wf (c+1));have c8:Chg (fun j=>j=x.mh) w7 w8:=z3o g8 rfl;have b7:=c7.blk hs.heap n5;have b8:=c8.blk b7 n6;have l7:=hs.plc.chg c7 n3 n1;have l8:=l7.chg c8 n4 n2;refine⟨w7,w8,c,r7,r8,r9,b7,b8,l8,fun w9 l9 c9=>?_⟩;have Ga:Chg x.fp w w9:=((((Chg.refl x.fp w).drew).trans (S':=fun j=>j=x.mr) c7 (fun j hj => .inl (.inr (.inl hj)))).trans (S':=fun j=>j=x.mh) c8 (fun j hj => .inl (.inr (.inr hj)))).trans (S':=fun j=>j=x.pl) c9 (fun j hj => .inl (.inl hj));refine⟨h.own_ ⟨c9.blk b8 n8,l9,(p7.chg c8 h.hs.ne).chg c9 (fun e=>n1 e.symm),p8.chg c9 (fun e=>n2 e.symm),h.hs.ne⟩ Ga h.ok ?_,Ga⟩;intro o p hop;unfold updF at hop;split at hop
 ·rename_i ho
  injection hop with hp
  subst ho;exact⟨k,i,Gd,hv.2.1,by rw[hv.2.2.1];exact hv.2.2.2.1,rfl,by rw[<- hp];exact q4⟩
 ·exact h.res o p hop
end
end
section
open Go.RowKit Go.Maps
section
variable{a:DA}{L T s n K:Nat}{x:HA}{cs:Nat->CS}{f:Nat->Option Nat}{N m b0:Nat}{S:Fp}{cur:Nat->Nat}{w w':World}
theorem y4m(h:DS a L T s n K x cs f N m b0 S cur w){k i}(hk:k<K)(hd:(cs k).dv=true)(hi:i<perC (cs k).cl) p (hpo:pOff p=offO s cs k i) :
  () 183 #[(x.h,0),p] w fun e w'=>e=.returned (.tuple #[[s+32*k],[i],.int .i64 ((cs k).cl:Int)])/\Blw w w':=by
 have hC:=h.chw hk hd;have G2:=h.line hk;have hL:=h.hL;have HD:=hid h;have Gh:Hid (∀W,() 143 #[p] W fun e w'=>e=.returned (offO s cs k i)/\W=w'):=hid (fun W=>by have h2:=z4o p W;rw[hpo]at h2;exact h2);have Gp:z4y s K (offO s cs k i)=some k:=z9i hk hi;have Gf:=hid (h.home p w (Below.refl _ _));rw[hpo]at Gf;have Gg:=hid Gp;have Gl:=hid (z4u h.dev h.tab h.pay (s+32*k) (cs k).cl (cs k).g G2 hC.cls hC.g0 hC.g1 hC.hdr);have Ge:Hid (∀W,Blw w W->() 174 #[chV a (s+32*k) (cs k).cl 0 (cs k).g] W fun e w'=>e=.returned (.int .i64 ((cs k).cl:Int))/\Blw W w'):=hid (fun W _=>y2c a _ _ _ _ W);have Gn:=w0r hi;have Gk:Hid (∀W,Blw w W->() 247 #[.int .i64 ((cs k).cl:Int),[offB (cs k).cl i+1]] W fun e w'=>e=.returned (.tuple #[[i],true])/\W=w'):=hid (fun W hW=>by
  have h1:=y5f (cs k).cl (offB (cs k).cl i+1) hC.cls (by have:=off_lt hi;omega) W (h.pay.below hW);unfold y0n at h1;rw[Gn]at h1;exact h1)
 have G3:w.cell? (x.h,0)=some ↑(57,a.th 0,0):=h.hs.heap.cell 0;have ho:=off_lt hi;have Gq:offO s cs k i=64*(s+32*k)+8*offB (cs k).cl i+8:=rfl;have G9:=z2y (cs k).cl i;clear h hC hpo Gp hd Gn;have HE:Hid (s+32*k=s+32*k):=hid rfl;generalize hlne:s+32*k=ln at*;have Gu:=hid hlne;clear hlne HE;have u1:IntKind.u64.wrap (ln:Int)=(ln:Int):=by rw[IntKind.wrap_u64];omega
 have u2:IntKind.u64.wrap ((ln:Int)*64)=(ln:Int)*64:=by rw[IntKind.wrap_u64];omega
 obtain⟨y,hy⟩:∃y,8*offB (cs k).cl i+8=y:=⟨_,rfl⟩
 have u3:IntKind.u64.wrap ((offO s cs k i:Int)-(ln:Int)*64)=(y:Int):=by rw[IntKind.wrap_u64,Gq];omega
 have u4:(y:Int)/8=((offB (cs k).cl i+1:Nat):Int):=oM;have u5:IntKind.i64.wrap ((offB (cs k).cl i+1:Nat):Int)=((offB (cs k).cl i+1:Nat):Int):=IntWalk.i64_in _ oM;have uq:IntKind.u64.wrap ((offB (cs k).cl i+1:Nat):Int)=((offB (cs k).cl i+1:Nat):Int):=by rw[IntKind.wrap_u64];omega
 have hq:((offB (cs k).cl i+1:Nat):Int)<=256:=oM;clear Gq hy;generalize offB (cs k).cl i+1=q at*;generalize offO s cs k i=o at*;unfold chV memV at*;generalize (cs k).cl=cl at*;generalize (cs k).g=g at*;go_enter Tryz.func183,Tryz.ntmps183
 go_wp2_with (first
  |(go_at_call 143;refine(Gh.out _).mono ?_;rintro e w1⟨rfl,rfl⟩)
  |(go_at_call 150;refine Gf.out.mono ?_;rintro e w1⟨l1,b1,rfl,hP,rfl⟩;refine stop ?_))
 unfold Stop;have G1:l1=ln/\b1=true:=by
  rcases hP with ⟨h1,_,_⟩|⟨k',h1,_,h3,h4⟩
  ·rw[Gg.out]at h1;cases h1
  ·rw[Gg.out]at h1
   injection h1 with h1
   subst h1;exact⟨by rw[h3];exact Gu.out,h4⟩
 obtain⟨rfl,rfl⟩:=G1;clear hP Gg Gf;go_wp2_with (go_at_call 151;refine Gl.out.mono ?_;rintro e w1⟨rfl,Gi⟩;refine stop ?_)
 unfold Stop;have Gd:=hid (Gi.alloc Gi.size (.cells #[(57,a.th 0,0),[l1],[cl],(),#[g]] 251));have Ga:=hid (Blk.new w1 251 #[(57,a.th 0,0),[l1],[cl],(),#[g]]);clear Gi Gl G3;generalize hW1:w1.alloc (.cells #[(57,a.th 0,0),[l1],[cl],(),#[g]] 251)=W1 at*;have Gv:=hid hW1.symm;clear hW1;have Gw:W1.cell? (w1,0)=some ↑(57,a.th 0,0):=Ga.out.cell 0;have Gx:W1.cell? (w1,1)=some ↑[l1]:=Ga.out.cell 1;have Gy:W1.cell? (w1,2)=some ↑[cl]:=Ga.out.cell 2;have Gz:W1.cell? (w1,3)=some ↑():=Ga.out.cell 3;have G0:W1.cell? (w1,4)=some ↑#[g]:=Ga.out.cell 4;go_wp2_with (first
  |(go_at_call 143;refine(Gh.out _).mono ?_;rintro e w1⟨rfl,rfl⟩)
  |(go_at_call 174;refine stop ?_))
 unfold Stop;rw[<- Gv.out];refine(Ge.out W1 Gd.out).mono ?_;rintro e W2⟨rfl,Gj⟩;have Gc:=hid (Gd.out.trans (Gj.mono Gd.out.size));have Gb:=hid (Ga.out.below Gj Ga.out.lt);have Gt:=hid (Gk.out W2 Gc.out);have Gs:=hid (Ge.out W2 Gc.out);have G4:W2.cell? (w1,0)=some ↑(57,a.th 0,0):=Gb.out.cell 0;have G5:W2.cell? (w1,1)=some ↑[l1]:=Gb.out.cell 1;have G6:W2.cell? (w1,2)=some ↑[cl]:=Gb.out.cell 2;have G7:W2.cell? (w1,3)=some ↑():=Gb.out.cell 3;have G8:W2.cell? (w1,4)=some ↑#[g]:=Gb.out.cell 4;clear Gj Gw Gx Gy Gz G0 Ge Gk Gh;go_wp2_with (first
  |(go_at_call 247;refine Gt.out.mono ?_;rintro e w3⟨rfl,rfl⟩)
  |(go_at_call 174;refine Gs.out.mono ?_;rintro e W3⟨rfl,Gm⟩;have Gr:=hid (Gc.out.trans (Gm.mono Gc.out.size));clear Gm))
 go_ret3
 exact⟨rfl,Gr.out⟩
end
end
section
open Go.RowKit Go.Maps
def sndS(st:Nat):List (List Nat×Nat)->List (List Nat×Nat)->Bool
 |_,[]=>true
 |pre,x::t=>(nmOk (strN x.1)&&(decide (x.2<=st)&&decide (fndS (strN x.1) 0 pre<0)))&&sndS st (pre++[x]) t
def sndP(st:Nat)(l:List (List Nat×Nat)):Bool:=decide (st<=4611686018427387903)&&sndS st [] l
theorem z6g(l:List (List Nat×Nat)) k (h:k<=l.length):(z0b l).take (k*2)=z0b (l.take k):=by
 have e:z0b l=z0b (l.take k)++z0b (l.drop k):=by
  unfold z0b;rw[<- List.flatMap_append,List.take_append_drop]
 rw[e,List.take_left' (by rw[z0q,List.length_take];omega)]
theorem x3e{w B n m A l}(h:z0d w B 2 A n (z0b l))(hm:m<=n):z0d w B 2 A m (z0b (l.take m)):=by
 have hl:l.length=n:=by have:=h.1;rw[z0q]at this;omega
 rw[<- z6g l m oM];obtain⟨h1,h2⟩:=h;refine⟨by rw[List.length_take];omega,fun hp=>?_⟩;obtain⟨ad,e,hb,hc⟩:=h2 oM;refine⟨ad,e,hb,fun j u hu=>hc j u ?_⟩;rw[List.getElem?_take]at hu;split at hu
 ·exact hu
 ·cases hu
theorem z9h s:∀(i:Nat)(l:List (List Nat×Nat)),-1<=fndS s i l/\fndS s i l<(i:Int)+l.length/\(fndS s i l<0->fndS s i l= -1)
 |i,[]=>by
  refine⟨Int.le_refl _,?_,fun _=>rfl⟩;show(-1:Int)<(i:Int)+0;omega
 |i,p::t=>by
  unfold fndS;by_cases h:strN p.1=s
  ·rw[if_pos h]
   refine⟨oM,by rw[List.length_cons];omega,fun h=>oM⟩
  ·rw[if_neg h]
   obtain⟨h1,h2,h3⟩:=z9h s (i+1) t;refine⟨h1,by rw[List.length_cons];push_cast at h2⊢;omega,h3⟩
theorem x0h(A:Option Addr)(n c st:Nat)(l:List (List Nat×Nat))(w:World)(h:z0d w w 2 A n (z0b l))(hnc:n<=c)(hn:n<=8)(hl16:∀p∈l,(strN p.1).size<=9223372036854775807):
  () 255 #[st,.slice A n c] w fun e w'=>e=.returned (sndP st l)/\Blw w w':=by
 have Gi:l.length=n:=by have:=h.1;rw[z0q]at this;omega
 have HR:=hid h;have HL:=hid Gi;have Gu:=hid hl16;have Gm:Hid (Blw w w):=Below.refl _ _;by_cases hst:st<=4611686018427387903
 ·have HP:Hid (sndP st l=sndS st (l.take 0) (l.drop 0)):=hid (by unfold sndP;rw[decide_eq_true hst];rfl)
  have G2:(st:Int)<=4611686018427387903:=oM;generalize sndP st l=Y at*;clear h Gi hl16 hst;go_enter Tryz.func255,Tryz.ntmps255
  go_wp2_with fail
  go_loopw [11] (fun v wr=>∃k:Nat,k<=n/\v=↑[k]/\Hid (Y=sndS st (l.take k) (l.drop k))/\Hid (Blw w wr)) (fun v _=>n-(Go.RowKit.intOf v).toNat)
  case atStart=>exact⟨0,Nat.zero_le _,rfl,HP,Gm⟩
  case round =>
   clear HP Gm;obtain⟨k,hk,rfl,HN,H⟩:=hrel;by_cases hlt:k<n
   ·have Gj:=(HR.out.below H.out).more H.out.size
    obtain⟨Gh,gb,go,Gz,_,f0,f1⟩:=z2a Gj (k:=k) hlt;subst Gz;have HS:Hid (Y=((nmOk (strN (l[k]).1)&&(decide ((l[k]).2<=st)&&decide (fndS (strN (l[k]).1) 0 (l.take k)<0)))&&sndS st (l.take (k+1)) (l.drop (k+1)))):=hid (by
     rw[HN.out,List.drop_eq_getElem_cons Gh,List.take_succ_eq_append_getElem Gh];rfl)
    have Gk:=Gu.out _ (List.getElem_mem Gh);have HT:=hid (x3e Gj (m:=k) oM);generalize l[k]=p at*;obtain⟨pn,pv⟩:=p;dsimp only at f0 f1 HS Gk;have G5:(0:Int)<=(k:Int):=oM;have G6:(k:Int)<(n:Int):=oM;obtain⟨W2,Ge⟩:∃W2,wr.alloc (.cells #[.string (strN pn),pv] 299)=W2:=⟨_,rfl⟩
    have Gp:Blw wr W2:=by rw[<- Ge];exact(Below.refl _ _).alloc (nL _) _
    have Gt:Blk W2 wr 299 #[.string (strN pn),pv]:=by rw[<- Ge];exact Blk.new _ _ _
    have Gy:=hid Ge;have Gv:=hid Gp;have Gn:=hid Gt;clear Ge Gp Gt Gj HN;go_upto_region 6 with fail
    rw[Gy.out];have Gc:=hid (fun W=>y3i (strN pn) Gk W);have Gg:=hid (fun W (hW:Blw wr W) c'=>z4w (some (gb,go)) k c' (l.take k) (strN pn) W ((HT.out.below hW).more hW.size) oM);have Gs:=z9h (strN pn) 0 (l.take k);have Ga:Hid (Blw wr W2.drew):=hid Gv.out.drew;have c0:W2.cell? (wr,())=some (.string (strN pn)):=Gn.out.cell 0;have c1:W2.cell? ⟨wr.heap.size,1,none⟩=some ↑pv:=Gn.out.cell 1;obtain⟨Gl,Gd⟩:∃b,nmOk (strN pn)=b:=⟨_,rfl⟩
    obtain⟨fi,Gr⟩:∃i,fndS (strN pn) 0 (l.take k)=i:=⟨_,rfl⟩
    rw[Gd]at Gc HS;rw[Gr]at Gg HS Gs;have G0:(n:Int)<=(c:Int):=oM;clear Gd Gr Gk f0 f1 HT;go_cut [34]from 16 to 34 (fun v wx=>v=↑(!(Gl&&(decide (pv<=st)&&decide (fi<0))))/\Hid (Blw wr wx))
    case first =>
     cases Gl
     ·refine z0f (fun w'=>Blw wr w'/\w'.cell? (wr,())=some (.string (strN pn))/\w'.cell? ⟨wr.heap.size,1,none⟩=some ↑pv) 16 [(true,0),(true,1),(false,2),(true,3),(true,4),(true,5),(true,6),(true,7),(true,8),(true,9),(true,10),(true,11),(true,12),(true,13),(true,14),(true,15)] (by kernel_rfl) (by kernel_rfl) ⟨Ga.out,c0,c1⟩ ?_
      refine tkS (wr,()) (fun w' hS=>?_) ?_
      ·go_simp
      refine tkS (.string (strN pn)) (fun w' hS=>?_) ?_
      ·obtain⟨_,s1,s2⟩:=hS
       go_simp
      refine z0k (by rfl) ?_;go_wp2_with (go_at_call 196;refine(Gc.out _).mono ?_;rintro e w3⟨rfl,rfl⟩)
      refine⟨⟨Ga.out,c0,c1⟩,?_⟩;refine tkS true (fun w' hS=>?_) ?_
      ·go_simp
      refine tkS true (fun w' hS=>?_) ?_
      ·go_simp
      refine z0i (by rfl) (by rfl) ?_;simp only[zA,zB,zC,Act.put,zD,zE,zF];refine z0i (by rfl) (by rfl) ?_;simp only[zA,zB,zC,Act.put,zD,zE,zF];refine z0i (by rfl) (by rfl) ?_;simp only[zA,zB,zC,Act.put,zD,zE,zF];refine z0i (by rfl) (by rfl) ?_;simp only[zA,zB,zC,Act.put,zD,zE,zF];refine tkS true (fun w' hS=>?_) ?_
      ·go_simp
      refine tkS true (fun w' hS=>?_) ?_
      ·go_simp
      refine z0i (by rfl) (by rfl) ?_;simp only[zA,zB,zC,Act.put,zD,zE,zF];refine z0i (by rfl) (by rfl) ?_;simp only[zA,zB,zC,Act.put,zD,zE,zF];refine z0i (by rfl) (by rfl) ?_;simp only[zA,zB,zC,Act.put,zD,zE,zF];refine z0i (by rfl) (by rfl) ?_;simp only[zA,zB,zC,Act.put,zD,zE,zF];refine z0i (by rfl) (by rfl) ?_;simp only[zA,zB,zC,Act.put,zD,zE,zF];show wpList _ _ _ _ _ _;simp only[List.drop_succ_cons,List.drop_zero];go_wp2_with fail
      refine NoPanic.normal ?_;go_wp2_with fail
      go_meet;exact⟨by first|rfl|(rw[HP.out];rfl),Ga⟩
     ·by_cases hpv:pv<=st
      ·have G1:(pv:Int)<=(st:Int):=oM
       have HP:=hid (decide_eq_true hpv);clear hpv;refine z0f (fun w'=>Blw wr w'/\w'.cell? (wr,())=some (.string (strN pn))/\w'.cell? ⟨wr.heap.size,1,none⟩=some ↑pv) 16 [(true,0),(true,1),(false,2),(true,3),(true,4),(true,5),(true,6),(true,7),(true,8),(true,9),(true,10),(true,11),(true,12),(true,13),(true,14),(true,15)] (by kernel_rfl) (by kernel_rfl) ⟨Ga.out,c0,c1⟩ ?_;refine tkS (wr,()) (fun w' hS=>?_) ?_
       ·go_simp
       refine tkS (.string (strN pn)) (fun w' hS=>?_) ?_
       ·obtain⟨_,s1,s2⟩:=hS
        go_simp
       refine z0k (by rfl) ?_;go_wp2_with (go_at_call 196;refine(Gc.out _).mono ?_;rintro e w3⟨rfl,rfl⟩)
       refine⟨⟨Ga.out,c0,c1⟩,?_⟩;refine tkS false (fun w' hS=>?_) ?_
       ·go_simp
       refine tkS false (fun w' hS=>?_) ?_
       ·go_simp
       refine tkS (.pointer (some ⟨wr.heap.size,1,none⟩)) (fun w' hS=>?_) ?_
       ·go_simp
       refine tkS pv (fun w' hS=>?_) ?_
       ·obtain⟨_,s1,s2⟩:=hS
        go_simp
       refine tkS st (fun w' hS=>?_) ?_
       ·go_simp
       refine tkS false (fun w' hS=>?_) ?_
       ·have G4:pv<=st:=oM
        go_simp
       refine tkS false (fun w' hS=>?_) ?_
       ·go_simp
       refine tkS false (fun w' hS=>?_) ?_
       ·go_simp
       refine tkS (gb,go,n,c) (fun w' hS=>?_) ?_
       ·go_simp
       refine tkS [k] (fun w' hS=>?_) ?_
       ·go_simp
       refine tkS (gb,go,k,c) (fun w' hS=>?_) ?_
       ·have G3:(k:Int)<=(c:Int):=oM
        go_simp
       refine tkS (wr,()) (fun w' hS=>?_) ?_
       ·go_simp
       refine tkS (.string (strN pn)) (fun w' hS=>?_) ?_
       ·obtain⟨_,s1,s2⟩:=hS
        go_simp
       show wpList _ _ _ _ _ _;simp only[List.drop_succ_cons,List.drop_zero];go_wp2_with (go_at_call 197;refine(Gg.out _ Ga.out c).mono ?_;rintro e w3⟨rfl,Gq⟩;have Gw:=hid (Ga.out.trans (Gq.mono Ga.out.size));clear Gq)
       refine NoPanic.normal ?_;go_wp2_with fail
       go_meet;exact⟨by rw[HP.out];congr 1;by_cases h:fi<0<;>simp[h]<;>omega,Gw⟩
      ·have G1:(st:Int)<(pv:Int):=oM
       have HP:=hid (decide_eq_false hpv);clear hpv;refine z0f (fun w'=>Blw wr w'/\w'.cell? (wr,())=some (.string (strN pn))/\w'.cell? ⟨wr.heap.size,1,none⟩=some ↑pv) 16 [(true,0),(true,1),(false,2),(true,3),(true,4),(true,5),(true,6),(true,7),(true,8),(true,9),(true,10),(true,11),(true,12),(true,13),(true,14),(true,15)] (by kernel_rfl) (by kernel_rfl) ⟨Ga.out,c0,c1⟩ ?_;refine tkS (wr,()) (fun w' hS=>?_) ?_
       ·go_simp
       refine tkS (.string (strN pn)) (fun w' hS=>?_) ?_
       ·obtain⟨_,s1,s2⟩:=hS
        go_simp
       refine z0k (by rfl) ?_;go_wp2_with (go_at_call 196;refine(Gc.out _).mono ?_;rintro e w3⟨rfl,rfl⟩)
       refine⟨⟨Ga.out,c0,c1⟩,?_⟩;refine tkS false (fun w' hS=>?_) ?_
       ·go_simp
       refine tkS false (fun w' hS=>?_) ?_
       ·go_simp
       refine tkS (.pointer (some ⟨wr.heap.size,1,none⟩)) (fun w' hS=>?_) ?_
       ·go_simp
       refine tkS pv (fun w' hS=>?_) ?_
       ·obtain⟨_,s1,s2⟩:=hS
        go_simp
       refine tkS st (fun w' hS=>?_) ?_
       ·go_simp
       refine tkS true (fun w' hS=>?_) ?_
       ·go_simp
       refine tkS true (fun w' hS=>?_) ?_
       ·go_simp
       refine tkS true (fun w' hS=>?_) ?_
       ·go_simp
       refine z0i (by rfl) (by rfl) ?_;simp only[zA,zB,zC,Act.put,zD,zE,zF];refine z0i (by rfl) (by rfl) ?_;simp only[zA,zB,zC,Act.put,zD,zE,zF];refine z0i (by rfl) (by rfl) ?_;simp only[zA,zB,zC,Act.put,zD,zE,zF];refine z0i (by rfl) (by rfl) ?_;simp only[zA,zB,zC,Act.put,zD,zE,zF];refine z0i (by rfl) (by rfl) ?_;simp only[zA,zB,zC,Act.put,zD,zE,zF];show wpList _ _ _ _ _ _;simp only[List.drop_succ_cons,List.drop_zero];go_wp2_with fail
       refine NoPanic.normal ?_;go_wp2_with fail
       go_meet;exact⟨by first|rfl|(rw[HP.out];rfl),Ga⟩
    case rest =>
    obtain⟨rfl,Gx⟩:=hcut;have Gf:=hid (H.out.trans (Gx.out.mono H.out.size));clear c0 c1 Gs Gg Gc;cases hb:(Gl&&(decide (pv<=st)&&decide (fi<0)))
    ·have Gb:Hid (Y=false):=hid (by rw[HS.out,hb];rfl)
     clear HS hb;go_wp2_with fail
     go_ret;rw[Gb.out];exact⟨rfl,Gf.out⟩
    ·have Gb:Hid (Y=sndS st (l.take (k+1)) (l.drop (k+1))):=hid (by rw[HS.out,hb];rfl)
     clear HS hb;go_wp2_with fail
     go_roundw
     case rel =>
      first
       |exact⟨k+1,oM,by go_num,Gb,Gf⟩
       |(
         repeat apply Exists.intro
         refine⟨?_,rfl⟩;exact⟨k+1,oM,by go_num,Gb,Gf⟩)
     case measure=>simp[Go.RowKit.intOf];omega
   ·have Gb:Hid (Y=true):=hid (by rw[HN.out,List.drop_of_length_le (by have:=HL.out;omega)];rfl)
    obtain rfl:k=n:=oM;clear hlt hk;go_wp2_with fail
    go_ret;rw[Gb.out];exact⟨rfl,H.out⟩
 ·have Gb:Hid (sndP st l=false):=hid (by unfold sndP;rw[decide_eq_false hst];rfl)
  have G2:(4611686018427387903:Int)<(st:Int):=oM;generalize sndP st l=Y at*;clear h Gi hl16 hst;go_enter Tryz.func255,Tryz.ntmps255
  go_wp2_with fail
  go_ret;rw[Gb.out];exact⟨rfl,Below.refl _ _⟩
theorem v0j w : (method 585 306 (.agg arC0) "Encode").run Tryz.prog w=.ok (387,.agg arC0) w := by kernel_rfl
def wrk(l:List (List Nat×Nat))(k:Nat):List Nat:=l.length::((l.take k).flatMap encP++List.replicate (32-4*k) 0)
def encA(l:List (List Nat×Nat)):List Nat:=wrk l l.length
theorem y0y:∀{l:List (List Nat×Nat)},(∀p∈l,p.1.length<=16)->(l.flatMap encP).length=4*l.length
 |[],_=>rfl
 |p::t,h=>by
  rw[List.flatMap_cons,List.length_append,y0x (h p (by simp)),y0y (fun q hq=>h q (by simp[hq])),List.length_cons];omega
theorem y7m{l k}(h:∀p∈l,p.1.length<=16)(hk:k<=l.length)(hl:l.length<=8):(wrk l k).length=33:=by
 unfold wrk;rw[List.length_cons,List.length_append,y0y (fun p hp=>h p (List.mem_of_mem_take hp)),List.length_replicate,List.length_take];omega
theorem w7q{l k}(h:∀p∈l,p.1.length<=16)(hk:k<l.length)(hl:l.length<=8):putW (wrk l k) (1+k*4) (encP l[k])=wrk l (k+1):=by
 have h4:=y0x (h l[k] (List.getElem_mem hk));have hf:=y0y (l:=l.take k) (fun p hp=>h p (List.mem_of_mem_take hp));rw[List.length_take,Nat.min_eq_left oM]at hf;unfold putW wrk;rw[h4,List.take_succ_eq_append_getElem hk,List.flatMap_append];have e1:(l.length::((l.take k).flatMap encP++List.replicate (32-4*k) 0)).take (1+k*4)=l.length::(l.take k).flatMap encP:=by
  rw[Nat.add_comm 1,List.take_succ_cons,List.take_append,List.take_of_length_le oM,hf,show k*4-4*k=0 by omega,List.take_zero,List.append_nil]
 have e2:(l.length::((l.take k).flatMap encP++List.replicate (32-4*k) 0)).drop (1+k*4+4)=List.replicate (32-4*(k+1)) 0:=by
  rw[show 1+k*4+4=(4*k+4)+1 by omega,List.drop_succ_cons,List.drop_append,List.drop_of_length_le (oM),hf,List.nil_append,show 4*k+4-4*k=4 by omega,List.drop_replicate,show 32-4*k-4=32-4*(k+1) by omega]
 rw[e1,e2];simp
theorem w7i(l:List (List Nat×Nat)):(List.replicate 33 0).set 0 l.length=wrk l 0:=by
 unfold wrk;simp[List.replicate]
theorem w0a A n cc (l:List (List Nat×Nat)) g o L w (hr:z0d w w 2 A n (z0b l)) (hn:n<=8) (hl:∀p∈l,p.1.length<=16/\∀b∈p.1,b<256) (h:Blk w g 32 (uA L)) (ho:o+33<=L.length) :
  () 387 #[.agg arC0,.slice A n cc,.slice (some (g,o)) 33 33] w fun e w'=>e=.returned true/\Blk w' g 32 (uA (putW L o (encA l)))/\Below g w w':=by
 unfold arC0;have GD:l.length=n:=by have:=hr.1;rw[z0q]at this;omega
 obtain⟨W1,Gm⟩:∃W1,w.alloc (.cells #[.int .i64 8,prI] 306)=W1:=⟨_,rfl⟩
 have G5:Blw w W1:=by rw[<- Gm];exact(Below.refl _ _).alloc (nL _) _
 have hk:Blk W1 w 306 #[.int .i64 8,prI]:=by rw[<- Gm];exact Blk.new _ _ _
 have GS:=hid Gm;have Gd:=hid G5;have HK:=hid hk;have HG:=hid h;have GP:=hid hr;have Gf:=hid GD;have HL:=hid hl;have HN:=hid (And.intro ho hn);have hm:=v0p;have c0:W1.cell? (w,())=some (.int .i64 8):=hk.cell 0;have c1:W1.cell? ⟨w.heap.size,1,none⟩=some prI:=hk.cell 1;have Dc:(n:Int)<=8:=oM;clear Gm G5 hk h hr GD hl;go_enter Tryz.func387,Tryz.ntmps387
 go_upto_region 1 with fail
 rw[GS.out];go_upto_region 2 with (go_at_call 203;refine(z5f W1).mono ?_;rintro e w2⟨rfl,Gv⟩;have Gg:=hid Gv;have d0:w2.cell? (w,())=some (.int .i64 8):=(HK.out.below Gv HK.out.lt).cell 0;clear Gv)
 clear c0 c1;have Gb:=x7x 33 (by decide);rw[x2x]at Gb;rw[show((33:Nat):Int)=33 from rfl]at Gb;obtain⟨Z,hZ⟩:∃Z:List Nat,Z=List.replicate 33 0:=⟨_,rfl⟩
 rw[<- hZ]at Gb;have HZ:=hid hZ;clear hZ;go_upto_region 4 with fail
 obtain⟨gw,Ga⟩:∃gw,w2.heap.size=gw:=⟨_,rfl⟩
 obtain⟨W4,Gn⟩:∃W4,w2.alloc (.cells (uA Z) 32)=W4:=⟨_,rfl⟩
 have Gw:Blw W1 W4:=by rw[<- Gn];exact Gg.out.alloc Gg.out.size _
 have Gr:Blk W4 gw 32 (uA Z):=by rw[<- Gn,<- Ga];exact Blk.new _ _ _
 have GA:w<gw:=by rw[<- Ga];exact Nat.lt_of_lt_of_le HK.out.lt Gg.out.size
 have GY:Z.length=33:=by rw[HZ.out];rfl
 have GL:=hid Ga;have Gk:=hid GA;have GT:=hid Gn;have GZ:=hid Gw;have c0:W4.cell? (gw,())=some (.int .u64 (Z[0]'oM:Int)):=by rw[Gr.cell];exact x3q oM
 have z0:W4.frozen? (gw,())=false:=Gr.frozen 0;have Gt:Hid (Blk (W4.setCell (gw,()) n) gw 32 (uA (wrk l 0))):=hid (by
  have h1:=Gr.set_ 0 n;rw[y0k,HZ.out]at h1;rw[show(List.replicate 33 0).set 0 n=wrk l 0 by rw[<- Gf.out];exact w7i l]at h1;exact h1)
 have Gh:Hid (Blw W1 (W4.setCell (gw,()) n)):=hid (Gw.setCell (p:=⟨gw,0,none⟩) (show W1.heap.size<=gw by rw[<- Ga];exact Gg.out.size) _);have e1:IntKind.u64.wrap (n:Int)=(n:Int):=by rw[IntKind.wrap_u64];omega
 obtain⟨W5,Gu⟩:∃W5,W4.setCell (gw,()) n=W5:=⟨_,rfl⟩
 rw[Gu]at Gt Gh;have GU:=hid Gu;generalize Z[0]'oM=old at*;clear Gn Gw Gr GA GY Ga Gu d0;go_upto_region 5 with fail
 rw[GT.out,GL.out];go_upto_region 6 with fail
 rw[GU.out];have d1:W5.cell? ⟨w.heap.size,1,none⟩=some prI:=(HK.out.below Gh.out HK.out.lt).cell 1;clear c0 z0;go_upto_region 7 with (go_at_call 263;refine(z9q W5).mono ?_;rintro e w6⟨rfl,Gx⟩;have Gi:=hid (Gh.out.trans (Gx.mono Gh.out.size));have G1:=hid (Gt.out.below Gx Gt.out.lt);clear Gx)
 have GH:Hid (∀W,Below gw w6 W->W.cell? ⟨w.heap.size,1,none⟩=some (.iface 374 (.agg #[nmI,unI]))):=hid (fun W hW=>(hW.cell (p:=⟨w.heap.size,1,none⟩) (by show w.heap.size<gw;exact Gk.out)).trans ((HK.out.below Gi.out HK.out.lt).cell 1));have GQ:Hid (∀W,Below gw w6 W->z0d W w 2 A n (z0b l)):=hid (fun W hW=>by
  have h1:=GP.out.below Gd.out;have h2:=Gd.out.size;have h3:=h1.below (Gi.out.mono h2);exact h3.below (hW.mono (Nat.le_of_lt Gk.out)))
 have Gz:Hid (Below gw w6 w6):=hid (Below.refl _ _);clear d1 Gb;go_wp2_with fail
 go_loopw [42] (fun i wr=>∃k:Nat,k<=n/\i=↑[k]/\Hid (Blk wr gw 32 (uA (wrk l k)))/\Hid (Below gw w6 wr)) (fun i _=>n-(Go.RowKit.intOf i).toNat)
 case atStart=>exact⟨0,Nat.zero_le _,rfl,G1,Gz⟩
 case round =>
  clear Gz G1;obtain⟨k,hk,rfl,Gl,Gj⟩:=hrel;by_cases hlt:k<n
  ·obtain⟨GC,gb,go,GX,_,f0,f1⟩:=z2a (GQ.out wr Gj.out) (k:=k) hlt
   subst GX;have GR:Hid (putW (wrk l k) (1+k*4) (encP l[k])=wrk l (k+1)):=hid (w7q (fun p hp=>(HL.out p hp).1) GC (by have:=Gf.out;omega));have HP:=hid (HL.out _ (List.getElem_mem GC));have GW:=hid (y7m (l:=l) (k:=k) (fun p hp=>(HL.out p hp).1) oM (by have:=Gf.out;omega));generalize l[k]=p at*;have Dd:(0:Int)<=(k:Int):=oM;have De:(k:Int)<(n:Int):=oM;have Db:(k:Int)<=7:=oM;obtain⟨W7,Gp⟩:∃W7,wr.alloc (.cells #[.string (strN p.1),p.2] 299)=W7:=⟨_,rfl⟩
   have Gq:Blw wr W7:=by rw[<- Gp];exact(Below.refl _ _).alloc (nL _) _
   have Gs:Blk W7 wr 299 #[.string (strN p.1),p.2]:=by rw[<- Gp];exact Blk.new _ _ _
   have GV:=hid Gp;have Da:=hid Gq;have G3:=hid Gs;have Ge:Hid (Below gw w6 W7):=hid (Gj.out.trans (Gq.mono (Nat.le_of_lt Gl.out.lt)));have GM:=hid (Gl.out.below Gq Gl.out.lt);have GI:=hid (w2l p gw (1+k*4) (wrk l k) W7.drew GM.out (by rw[GW.out];omega) HP.out.1 HP.out.2);have s0:W7.cell? ⟨w.heap.size,1,none⟩=some (.iface 374 (.agg #[nmI,unI]))/\W7.cell? (wr,())=some (.string (strN p.1))/\W7.cell? ⟨wr.heap.size,1,none⟩=some ↑p.2:=⟨GH.out W7 Ge.out,Gs.cell 0,Gs.cell 1⟩
   have e5:wrap64 ((k:Int)*4)=(k:Int)*4:=IntWalk.wrap64_in _ oM;have e6:wrap64 (1+(k:Int)*4)=1+(k:Int)*4:=IntWalk.wrap64_in _ oM;have e7:wrap64 (1+(k:Int)*4+4)=1+(k:Int)*4+4:=IntWalk.wrap64_in _ oM;have q0:IntKind.i64.wrap (1+(k:Int)*4+4)=1+(k:Int)*4+4:=by rw[IntKind.wrap_i64];omega
   have qa:¬1+(k:Int)*4+4<1+(k:Int)*4:=oM;have q1:(0:Int)<=1+(k:Int)*4+4:=oM;have q2:1+(k:Int)*4+4<=33:=oM;have q3:1+(k:Int)*4+4<=max (1+(k:Int)*4+4) 0:=oM;have q4:(0:Int)<=1+(k:Int)*4:=oM;have q5:1+(k:Int)*4<=max (1+(k:Int)*4+4) 0:=oM;have q6:(1+(k:Int)*4).toNat=1+k*4:=oM;have q7:(1+(k:Int)*4+4).toNat=1+k*4+4:=oM;have q8:¬1+k*4+4=1+k*4:=oM;have q9:1+k*4+4-(1+k*4)=4:=oM;clear Gp Gq Gs;go_upto_region 11 with fail
   rw[GV.out];go_cut [66]from 51 to 66 (fun v wx=>v=↑false/\Hid (Blk wx gw 32 (uA (wrk l (k+1))))/\Hid (Below gw w6 wx))
   case first =>
    refine z0e (fun W=>W.cell? ⟨w.heap.size,1,none⟩=some (.iface 374 (.agg #[nmI,unI]))/\W.cell? (wr,())=some (.string (strN p.1))/\W.cell? ⟨wr.heap.size,1,none⟩=some ↑p.2) 14 [] [(1,0),(1,1),(1,2),(1,3),(1,4),(1,5),(1,6),(1,7),(1,8),(1,9),(1,10),(1,11),(1,12),(1,13)] (by kernel_rfl) (by kernel_rfl) s0 ?_;refine tkG (.pointer (some ⟨w.heap.size,1,none⟩)) ?_;refine tkH (.iface 374 (.agg #[nmI,unI])) (fun w' hS=>?_) ?_
    ·obtain⟨s1,s2,s3⟩:=hS
     go_simp
    refine tkH (.agg #[.string (strN p.1),p.2]) (fun w' hS=>?_) ?_
    ·obtain⟨s1,s2,s3⟩:=hS
     go_simp
    refine tkG (.slice (some (gw,())) 33 33) ?_;refine tkG (.int .i64 (1+(k:Int)*4)) ?_;refine tkG (.int .i64 (1+(k:Int)*4)) ?_;refine tkG (.int .i64 4) ?_;refine tkG (.int .i64 (1+(k:Int)*4+4)) ?_;refine tkG (.int .i64 (1+(k:Int)*4)) ?_;refine tkG (.int .i64 4) ?_;refine tkG (.int .i64 (1+(k:Int)*4+4)) ?_;refine tkG (.slice (some (gw,1+k*4)) 4 4) ?_;refine tkG (.iface 374 (.agg #[nmI,unI])) ?_;refine tkG (.iface 374 (.agg #[nmI,unI])) ?_;show wpList _ _ _ _ _ _;simp only[List.drop_succ_cons,List.drop_zero];go_wp2_with (go_at_call 396;refine GI.out.mono ?_;rintro e w8⟨rfl,GB,G6⟩;have GN:=hid GB;have GE:Hid (Below gw w6 w8):=hid (Ge.out.drew.trans G6);clear GB G6)
    refine NoPanic.normal ?_;go_wp2_with fail
    go_meet;refine⟨rfl,?_,GE⟩;have h1:=GN.out;rw[GR.out]at h1;exact hid h1
   case rest =>
   obtain⟨rfl,G2,G0⟩:=hcut;clear s0 e5 e6 e7 q0 qa q1 q2 q3 q4 q5 q6 q7 q8 q9;go_wp2_with fail
   go_roundw
   case rel =>
    first
     |exact⟨k+1,oM,by go_num,G2,G0⟩
     |(
       repeat apply Exists.intro
       refine⟨?_,rfl⟩;exact⟨k+1,oM,by go_num,G2,G0⟩)
   case measure=>simp[Go.RowKit.intOf];omega
  ·obtain rfl:k=n:=oM
   have Gc:=HG.out.lt;have Gy:=HG.out.below Gd.out Gc;have G8:=Gy.below Gi.out Gy.lt;have G9:Blk wr g 32 (uA L):=(Gj.out.block g (by have h1:=Gk.out;omega)).trans G8;have G7:Below g w wr:=by
    have h1:=Gk.out;have h2:=Gd.out.size;exact((Gd.out.trans (Gi.out.mono h2)).mono (Nat.le_of_lt Gc)).trans (Gj.out.mono oM)
   have GK:=hid G9;have GG:=hid G7;have G3:Hid (Blk wr gw 32 (uA (encA l))):=hid (by unfold encA;rw[Gf.out];exact Gl.out);have G4:Hid ((encA l).length=33):=hid (by unfold encA;exact y7m (fun p hp=>(HL.out p hp).1) (nL _) (by have:=Gf.out;omega));have GO:=hid (y1h G3.out);clear Gc Gy G8 G9 G7 hlt hk;go_wp2_with (refine y3l _ rfl (.tmp 68) (.tmp 69) rfl g o 33 33 33 (some (gw,())) L (encA l) rfl rfl GK.out G4.out HN.out.1 _ (by have h1:=GO.out;rw[G4.out]at h1;exact h1) w GG.out ?_;intro W9 hg9 hb9;have GJ:=hid hg9;have GF:=hid hb9;clear hg9 hb9)
   go_ret;exact⟨rfl,GJ.out,GF.out⟩
end
end Go.Proofs.YtmhbokcccjmfgaaGreatDoor
