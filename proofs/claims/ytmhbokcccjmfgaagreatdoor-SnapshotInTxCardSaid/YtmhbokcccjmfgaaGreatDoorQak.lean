/- part 11 -/
import Derived.Test.YtmhbokcccjmfgaaGreatDoorQaj
set_option maxRecDepth 100000
set_option maxHeartbeats 16000000
namespace Go.Proofs.YtmhbokcccjmfgaaGreatDoor
open Go.Lib (hid)
section
open Go.RowKit Go.Maps
theorem z7v{w:World}{S:Fp}{base:Nat}{e:TypeId}{size m c n:Nat}{A:Option Addr}{xs:List Value}(ho:w.ownsRow base e size (.slice A m c) n xs)(hb:∀k,S k->k<base):∀ad,A=some ad->¬S ad.block:=fun ad had hs=>by
 rcases ho.2 with ⟨hv,_⟩|⟨g,cap,cs,hv,hge,_⟩
 ·injection hv with h1;rw[h1]at had;cases had
 ·injection hv with h1
  rw[h1]at had;injection had with h2
  subst h2;have:=hb _ hs;simp at this;omega
theorem w2v{a L T w S cur}(h:Dev a L T w S cur 0){A m c base p1 p2 ws1 ws2}(ho:w.ownsRow base 225 3 (.slice A m c) m (z0h (p1++p2)))(hb:∀k,S k->k<base)(hp1:z0y ws1 p1)(hp2:z0y ws2 p2)
  (hw1:∀e∈ws1,e.1%8=0/\e.1<64*L/\e.2<18446744073709551616) (hw2:∀e∈ws2,e.1%8=0/\e.1<64*L/\e.2<18446744073709551616) (hl1:ws1.length<=1000) (hl2:ws2.length<=1000) (T':Nat) (hT:T+(2*ws1.length+1)+(2*ws2.length+1)<=T') (hT':T'<=1000000000) :
  () 46 #[.slice A m c,memV a] w (z0x a L T' w S (wrS (wrS cur ws1) ws2) 0 ()):=by
 obtain⟨Gc,Gf,Ga⟩:=z1k hp1 hw1 cur;obtain⟨Gd,Gg,Gb⟩:=z1k hp2 hw2 (wrS cur ws1);have hm:(p1++p2).length=m:=by have:=ho.1;rw[z0o]at this;omega
 have Gh:p1.length+p2.length=m:=by rw[<- hm];simp
 refine(z6k h A m c _ (z0d.of_own ho) (z7v ho hb) (z4x Gc Gd) oM oM).mono ?_;rintro e w'⟨he,S',hd,hc,Ge⟩;rw[z3v,Gf,Gg]at hd;exact⟨he,S',hd.more oM oM,hc,Ge⟩
def svC(cur:Nat->Nat)(z n:Nat)(os:List Nat):Nat->Nat:=if os=[]then cur else wrS (wrS cur (entW z n (frW cur os))) [(z,n+os.length)]
theorem w7f{a:DA}{L T:Nat}{w:World}{S:Fp}{cur:Nat->Nat}(h:Dev a L T w S cur 0){A:Option Addr}{m c base s n:Nat}{p:List Ins}{os:List Nat}(ho:w.ownsRow base 225 3 (.slice A m c) m (z0h p))(hb:∀k,S k->k<base)(hp:x9d (64*s) n (frW cur os) p)
  (hos:∀o∈os,o<64*L) (hcv:∀i,i<8*L->cur i<18446744073709551616) (hs:64*s+64+16*(n+os.length)<=64*L) (h6:os.length<=99) (hT:T+(4*os.length+4)<=1000000000) :
  () 46 #[.slice A m c,memV a] w (z0x a L (T+(4*os.length+4)) w S (svC cur (64*s) n os) 0 ()):=by
 have hL:L<=4096:=by obtain⟨ls,Ge,Gh,cs,Gg,Gc,Gf⟩:=h;exact Gc.hL
 rcases hp with ⟨hf,rfl⟩|⟨hf,p1,p2,hp1,hp2,rfl⟩
 ·have h0:os=[]:=by simpa[frW] using hf
  subst h0;have hm:m=0:=by have:=ho.1;simp[z0h]at this;omega
  subst hm;refine(z6k h A 0 c [] (z0d.of_own ho) (z7v ho hb) ⟨rfl,fun _ _ h=>h⟩ oM oM).mono ?_;rintro e w'⟨he,S',hd,hc,Gd⟩;exact⟨he,S',Dev.more (by simpa[svC,runP] using hd) oM oM,hc,Gd⟩
 ·have h0:os≠[]:=fun h=>hf (by simp[h,frW])
  have Ga:(frW cur os).length=os.length:=by simp[frW]
  rw[Ga]at hp2;have e1:svC cur (64*s) n os=wrS (wrS cur (entW (64*s) n (frW cur os))) [(64*s,n+os.length)]:=if_neg h0;rw[e1];refine w2v h ho hb hp1 hp2 (fun e he=>?_) (fun e he=>?_) ?_ ?_ _ ?_ hT
  ·obtain⟨j,h1,h2,x,hx,h3⟩:=z5h _ _ _ _ he
   rw[Ga]at h1;have Gb:x.1<18446744073709551616/\x.2<18446744073709551616:=by
    simp only[frW,List.mem_map]at hx;obtain⟨o,ho,rfl⟩:=hx;have:=hos o ho;exact⟨by simp;omega,hcv _ oM⟩
   refine⟨oM,oM,?_⟩;rcases h3 with h3|h3<;>rw[h3]
   ·exact Gb.1
   ·exact Gb.2
  ·simp at he
   subst he;exact⟨by simp;omega,by simp;omega,by simp;omega⟩
  ·rw[z6t,Ga];omega
  ·simp
  ·rw[z6t,Ga];simp;omega
theorem z6o s:∀(l:List (Nat×Nat))(n k:Nat)(cur:Nat->Nat),(k<8*s+8+2*n\/8*s+8+2*(n+l.length)<=k)->wrS cur (entW (64*s) n l) k=cur k
 |[],n,k,cur,_=>rfl
 |e::l,n,k,cur,h=>by
  simp only[List.length_cons]at h;show wrS (upd (upd cur ((64*s+64+16*n)/8) e.1) ((64*s+64+16*n+8)/8) e.2) (entW (64*s) (n+1) l) k=_;rw[z6o s l (n+1) k _ oM];simp only[upd];rw[if_neg oM,if_neg oM]
theorem w8m s:∀(l:List (Nat×Nat))(n i:Nat)(cur:Nat->Nat)(h:i<l.length),wrS cur (entW (64*s) n l) (8*s+8+2*(n+i))=(l[i]).1/\wrS cur (entW (64*s) n l) (8*s+8+2*(n+i)+1)=(l[i]).2
 |e::l,n,0,cur,_=>by
  show wrS (upd (upd cur ((64*s+64+16*n)/8) e.1) ((64*s+64+16*n+8)/8) e.2) (entW (64*s) (n+1) l) _=_/\wrS (upd (upd cur ((64*s+64+16*n)/8) e.1) ((64*s+64+16*n+8)/8) e.2) (entW (64*s) (n+1) l) _=_;rw[z6o s l (n+1) _ _ oM,z6o s l (n+1) _ _ oM];simp only[upd];rw[if_neg oM,if_pos oM,if_pos oM];exact⟨rfl,rfl⟩
 |e::l,n,i+1,cur,h=>by
  have ih:=w8m s l (n+1) i (upd (upd cur ((64*s+64+16*n)/8) e.1) ((64*s+64+16*n+8)/8) e.2) (by simpa using h);rw[show n+1+i=n+(i+1) by omega]at ih;exact ih
theorem y9p{cur s ws}(h:LogU cur s ws) os:LogU (svC cur (64*s) ws.length os) s (ws++frW cur os):=by
 by_cases h0:os=[]
 ·subst h0
  simpa[svC,frW] using h
 ·have e1:svC cur (64*s) ws.length os=wrS (wrS cur (entW (64*s) ws.length (frW cur os))) [(64*s,ws.length+os.length)]:=if_neg h0
  have Ga:(frW cur os).length=os.length:=by simp[frW]
  rw[e1];have hu:∀k,wrS (wrS cur (entW (64*s) ws.length (frW cur os))) [(64*s,ws.length+os.length)] k=if k=8*s then ws.length+os.length else wrS cur (entW (64*s) ws.length (frW cur os)) k:=fun k=>by
   show upd _ (64*s/8) _ k=_;simp only[upd];rw[show 64*s/8=8*s by omega]
  refine⟨?_,fun i hi=>?_⟩
  ·rw[hu,if_pos rfl];simp[Ga]
  ·rw[hu,if_neg oM,hu,if_neg oM]
   by_cases hlt:i<ws.length
   ·rw[z6o s _ _ _ _ oM,z6o s _ _ _ _ oM,List.getElem_append_left hlt]
    exact h.at_ i hlt
   ·have h2:=w8m s (frW cur os) ws.length (i-ws.length) cur (by simp at hi;omega)
    rw[show ws.length+(i-ws.length)=i by omega]at h2;rw[List.getElem_append_right oM];exact h2
theorem v1o{cur s n os k}(hk:k<8*s\/8*s+8+2*(n+os.length)<=k):svC cur (64*s) n os k=cur k:=by
 unfold svC;split
 ·rfl
 ·show upd _ (64*s/8) _ k=_
  simp only[upd];rw[if_neg oM,z6o s _ _ _ _ (by simp[frW];omega)]
theorem y3d{a L T w S cur}(h:Dev a L T w S cur 0) g s n (hB:Blk w g 258 (z0s a s n)) (hs:s+n<=L) (hn:2<=n) ws (hl:LogU cur s ws) (hwv:∀e∈ws,e.1<18446744073709551616)
  A0 N c0 offs os (hos:(fr (ws.map (·.1)) offs).2=os) (hr:z0d w w.heap.size 1 A0 N (z0g offs)) (ho:∀o∈offs,z3e L s n o) (hc:ws.length+os.length<=4*(n-1)) (hN:N<=1000) (h12:2*os.length<=198)
  (hcv:∀i,i<8*L->cur i<18446744073709551616) (hT:T+(4*os.length+4)<=1000000000) :
  () 214 #[(g,0),.slice A0 N c0] w (z0x a L (T+(4*os.length+4)) w S (svC cur (64*s) ws.length os) 0 ()):=by
 have hL:L<=4096:=by obtain⟨ls,Gh,Gk,cs,Gj,Gg,Gi⟩:=h;exact Gg.hL
 have HP:=hid (w6x h g s n hB hs hn ws hl hwv A0 N c0 offs os hos hr ho hc hN h12);have HR:Hid (∀(A:Option Addr)(m c:Nat)(p:List Ins)(w1:World),x9d (64*s) ws.length (frW cur os) p->w1.ownsRow w.heap.size 225 3 (.slice A m c) m (z0h p)->Blw w w1 ->
   () 46 #[.slice A m c,memV a] w1 (z0x a L (T+(4*os.length+4)) w S (svC cur (64*s) ws.length os) 0 ())):=fun A m c p w1 hp Ga hb=>by
  refine(w7f (h.below hb) Ga h.lt hp (fun o hO=>?_) hcv oM oM hT).mono ?_
  ·rw[<- hos]at hO
   rcases w0y offs _ o hO with h|h
   ·simp at h
   ·exact(ho o h).lt
  ·intro e w2 h2
   exact z0x.back hb h2
 have Gc:=hid hB;have Gd:Hid (∀w1,Blw w w1->w1.cell? (g,0)=some (memV a)):=fun w1 hb=>(Gc.out.below hb Gc.out.lt).cell 0
 clear h hB hl hr hs hn hc hcv;unfold memV at*;go_enter Tryz.func214,Tryz.ntmps214
 go_wp2_with fail
 refine HP.out.mono ?_;rintro e w1⟨A1,m1,c1,p1,rfl,Gf,Ga,Gb⟩;have Ge:=hid (HR.out A1 m1 c1 p1 w1 Gf Ga Gb);have d0:=Gd.out w1 Gb;clear Gf Ga Gb HP HR Gd;go_wp2_with fail
 refine Ge.out.mono ?_;rintro e w2⟨rfl,h2⟩;have HZ:=hid h2;clear h2 Ge;go_wp2;go_ret;exact⟨rfl,HZ.out⟩
end
section
open Go.RowKit
def w3z(w:World)(e:Ending)(w':World):Prop:=∃v:Nat,v<4294967296/\e=.returned (.int .u32 v)/\w=w'
theorem w3m A n cap B xs w (hrd:z0d w B 1 A n (z0g xs)) (hv:∀x∈xs,x<18446744073709551616) (hn:n<=1000000) (ht:Tab w) :
  () 235 #[.slice A n cap] w (w3z w):=by
 have HR:=hid hrd;have HT:=hid ht;have HV:Hid (∀k (hk:k<xs.length),xs[k]<18446744073709551616):=hid (fun k hk=>hv _ (List.getElem_mem hk));have uc:IntKind.u32.signed=false:=rfl;clear hrd hv ht;go_enter Tryz.func235,Tryz.ntmps235
 go_wp2;go_loopw [3,8] (fun r i wr=>∃k s:Nat,k<=n/\s<4294967296/\i=↑[k]/\r=.int .u32 s/\Hid (w=wr)) (fun _ i _=>n-(Go.RowKit.intOf i).toNat)
 case atStart=>exact⟨0,4294967295,Nat.zero_le _,oM,by go_num,by go_num,hid rfl⟩
 case round =>
  obtain⟨k,s,hk,hs,rfl,rfl,hw⟩:=hrel;have hw:=hw.out;subst hw;by_cases hlt:k<n
  ·obtain⟨Gc,b,Gk,hA,Gg,q0⟩:=z4q HR.out hlt
   subst hA;have hx:=HV.out k Gc;have Gh:(0:Int)<=(k:Int):=oM;have Gi:(k:Int)<(n:Int):=oM;generalize xs[k]=x at*;go_wp2;clear q0;go_loopw [3,5,12] (fun r y i wr=>∃j s z:Nat,j<=8/\s<4294967296/\z<18446744073709551616/\i=↑[j]/\r=.int .u32 s/\y=↑z/\Hid (w=wr)) (fun _ _ i _=>8-(Go.RowKit.intOf i).toNat)
   case atStart=>exact⟨0,s,x,oM,hs,hx,by go_num,rfl,rfl,hid rfl⟩
   case round =>
    clear hs hx;obtain⟨j,s,z,hj,hs,hz,rfl,rfl,rfl,hw⟩:=hrel;have hw:=hw.out;subst hw;by_cases h8:j<8
    ·have e1:IntKind.u8.wrap (z:Int)=((z%256:Nat):Int):=by rw[IntKind.wrap_u8];omega
     have HS:=hid (x5p s (z%256) hs oM w HT.out);have Ge:=Crc.step_lt hs (show z%256<256 by omega);generalize z%256=by_ at*;generalize Crc.step s by_=s2 at*;have Gj:(z:Int)/256=((z/256:Nat):Int):=oM;have Gf:z/256<18446744073709551616:=oM;generalize z/256=z2 at*;go_wp2_with fail
     refine HS.out.mono ?_;rintro e w1⟨rfl,rfl⟩;go_wp2;go_roundw
     case rel=>exact⟨j+1,s2,z2,oM,Ge,Gf,by go_num,rfl,rfl,hid trivial⟩
     case measure=>simp[Go.RowKit.intOf];omega
    ·have Gb:j=8:=oM
     subst Gb;go_wp2;go_roundw
     case rel =>
      first
       |exact⟨k+1,s,oM,hs,by go_num,rfl,hid trivial⟩
       |(
         repeat apply Exists.intro
         refine⟨?_,trivial⟩;exact⟨k+1,s,oM,hs,by go_num,rfl,hid trivial⟩)
       |(
         refine⟨_,?_⟩;exact⟨k+1,s,oM,hs,by go_num,rfl,hid trivial⟩)
     case measure=>simp[Go.RowKit.intOf];omega
  ·have Gd:k=n:=oM
   subst Gd;have hx:=x3p s hs;have Ga:s^^^Crc.ones<4294967296:=Crc.xor_lt hs (by decide);generalize s^^^Crc.ones=v at*;go_wp2;go_ret;exact⟨v,Ga,by first|rfl|(rw[hx]),rfl⟩
end
section
open Go.RowKit Go.Maps
def w3q(ws ws2:List (Nat×Nat))(p:List Ins):Prop:=∃p1 p2,z0y ws p1/\z0y ws2 p2/\p=p1++p2
theorem w1j{ws ws2 p}(h:w3q ws ws2 p):p.length<=2*ws.length+2*ws2.length+2:=by
 obtain⟨p1,p2,h1,h2,rfl⟩:=h;have:=z1m h1;have:=z1m h2;simp;omega
theorem x7l a s k g A n c ws w (h:z0d w w.heap.size 2 A n (z0a ws)) (h0:0<n) (hn:n<=100) (hv:∀e∈ws,e.1<18446744073709551616) (hB:Blk w g 316 (z1q a s k)) (hs:64*s<18446744073709551616) :
  () 221 #[(g,0),.slice A n c] w (z2e w (w3q ws [(64*s,0)])):=by
 have Gj:=hid (z1n A n c ws w h h0 oM hv);have Gs:=hid (show ws.length=n by have:=h.1;rw[z1a]at this;omega);have Gz:=hid hB;have Gt:Hid (∀W,Blw w W->() 124 #[(g,0),[()]] W (z2e W (z0y [(64*s,0)]))):=hid (fun W hW=>y6u a s k g 0 W (hB.below hW hB.lt) hs);clear h hv hB;go_enter Tryz.func221,Tryz.ntmps221
 go_wp2_with fail
 refine Gj.out.mono ?_;rintro e1 w4⟨B1,n1,d1,p1,rfl,Gp,Gm,Gc⟩;have Gg:=hid Gp;have Gb:=hid Gm;have Gf:=hid Gc;have Gi:=hid (Gt.out w4 Gc);clear Gp Gm Gc Gj;go_wp2_with fail
 refine Gi.out.mono ?_;rintro e1 w5⟨B2,n2,Gv,p2,rfl,Gq,Ge,Gd⟩;have Gh:=hid Gq;have Ga:=hid (Gf.out.trans (Gd.mono Gf.out.size));have Gw:n1<=400:=by
  have h1:=Gb.out.1;have h2:=z1m Gg.out;rw[z0o]at h1;have:=Gs.out;omega
 have Gx:n2<=400:=by
  have h1:=Ge.1;have h2:=z1m Gh.out;rw[z0o]at h1;simp at h2;omega
 have Gk:=hid (z5p B1 B2 n1 d1 n2 Gv p1 p2 w5 (z0d.of_own (z0r Gb.out Gd)) (z0d.of_own Ge) Gw Gx);clear Gq Ge Gd Gi Gb;go_wp2_with fail
 refine Gk.out.mono ?_;rintro e1 w6⟨B3,n3,d3,rfl,Gy,Gn,Gl⟩;have Gu:=hid Gn;have Gr:=hid (Ga.out.trans (Gl.mono Ga.out.size));clear Gy Gn Gl Gk;go_wp2;go_ret;exact⟨_,_,_,_,rfl,⟨p1,p2,Gg.out,Gh.out,rfl⟩,z2u Gu.out Ga.out.size,Gr.out⟩
end
section
open Go.RowKit
structure CS where
 dv:Bool
 cl:Nat
 g:Nat
 V:Nat
 bs:Nat->BK
def CS.cls(c:CS):Int:=if c.dv then (c.cl:Int)else-1
def CS.own(c:CS):Int:=if c.dv then 0 else-1
def CSok(cur:Nat->Nat)(ln:Nat)(c:CS):Prop:=if c.dv then ChW cur ln c.cl c.g c.V c.bs else cur (8*ln)=z4n c.g/\0<c.g/\c.g<65536
structure PA where
 gs:Nat
 pl:Nat
 po:Nat
def PlcC(s K po:Nat)(cs:Nat->CS)(pcs:Array Value):Prop:=∀k,k<K->pcs[po+k*4]?=some (.int .i64 ((s+32*k:Nat):Int))/\pcs[po+k*4+1]?=some (.int .i64 (cs k).cls)/\pcs[po+k*4+2]?=some (.int .i64 (cs k).own)/\∃b,pcs[po+k*4+3]?=some (.bool b)
structure Plc(a:DA)(s K:Nat)(x:PA)(cs:Nat->CS)(w:World):Prop where
 set_:∃c,Blk w x.gs 340 #[memV a,.slice (some ⟨x.pl,x.po,none⟩) K c]
 pls:∃pcs,Blk w x.pl 342 pcs/\PlcC s K x.po cs pcs
section
variable{a:DA}{s K:Nat}{x:PA}{cs:Nat->CS}{w w':World}
theorem Plc.chg{Z:Fp}(h:Plc a s K x cs w)(hc:Chg Z w w')(h1:¬Z x.gs)(h2:¬Z x.pl):Plc a s K x cs w':=by
 obtain⟨⟨c,hs⟩,pcs,hp,hk⟩:=h;exact⟨⟨c,hc.blk hs h1⟩,pcs,hc.blk hp h2,hk⟩
theorem Plc.below(h:Plc a s K x cs w)(hb:Blw w w'):Plc a s K x cs w':=h.chg (Chg.of_below (S:=Fp.no) hb) (fun h=>h) (fun h=>h)
theorem Plc.ne(h:Plc a s K x cs w):x.gs≠x.pl:=by
 obtain⟨⟨c,hs⟩,pcs,hp,hk⟩:=h;exact hs.ne_ hp (by decide)
theorem Plc.lt(h:Plc a s K x cs w):x.gs<w/\x.pl<w:=by
 obtain⟨⟨c,hs⟩,pcs,hp,hk⟩:=h;exact⟨hs.lt,hp.lt⟩
theorem Plc.sets(h:Plc a s K x cs w):∃c,w.cell? ⟨x.gs,0,none⟩=some (memV a)/\w.cell? ⟨x.gs,1,none⟩=some (.slice (some ⟨x.pl,x.po,none⟩) K c):=by
 obtain⟨⟨c,hs⟩,pcs,hp,hk⟩:=h;exact⟨c,hs.cell 0,hs.cell 1⟩
theorem Plc.facts(h:Plc a s K x cs w){k:Nat}(hk:k<K):w.cell? ⟨x.pl,x.po+k*4,none⟩=some (.int .i64 ((s+32*k:Nat):Int))/\w.cell? ⟨x.pl,x.po+k*4+1,none⟩=some (.int .i64 (cs k).cls)/\w.cell? ⟨x.pl,x.po+k*4+2,none⟩=some (.int .i64 (cs k).own)/\∃b,w.cell? ⟨x.pl,x.po+k*4+3,none⟩=some (.bool b):=by
 obtain⟨⟨c,hs⟩,pcs,hp,hkk⟩:=h;obtain⟨h0,h1,h2,b,h3⟩:=hkk k hk;exact⟨by rw[hp.cell];exact h0,by rw[hp.cell];exact h1,by rw[hp.cell];exact h2,b,by rw[hp.cell];exact h3⟩
theorem Plc.frozen(h:Plc a s K x cs w)(i:Nat):w.frozen? ⟨x.pl,i,none⟩=false:=by
 obtain⟨⟨c,hs⟩,pcs,hp,hkk⟩:=h;exact hp.frozen i
theorem z3s{pcs:Array Value}{i j:Nat}{u v:Value}(h:pcs[i]?=some u):(pcs.setIfInBounds j v)[i]?=some (if i=j then v else u):=by
 rw[Array.getElem?_setIfInBounds];have hi:=(Array.getElem?_eq_some_iff.1 h).1;by_cases e:j=i
 ·subst e;simp[hi]
 ·rw[if_neg e,if_neg (fun h=>e h.symm)];exact h
theorem Plc.hold(h:Plc a s K x cs w){k:Nat}(_hk:k<K)(b:Bool):Plc a s K x cs (w.setCell ⟨x.pl,x.po+k*4+3,none⟩ (.bool b)):=by
 have Ga:=h.ne;obtain⟨⟨c,hs⟩,pcs,hp,hkk⟩:=h;refine⟨⟨c,hs.far Ga _⟩,_,hp.set_ _ _,fun j hj=>?_⟩;obtain⟨h0,h1,h2,b',h3⟩:=hkk j hj;refine⟨?_,?_,?_,if x.po+j*4+3=x.po+k*4+3 then b else b',?_⟩
 ·rw[z3s h0,if_neg oM]
 ·rw[z3s h1,if_neg oM]
 ·rw[z3s h2,if_neg oM]
 ·rw[z3s h3];split<;>rfl
def updC(cs:Nat->CS)(k:Nat)(c:CS):Nat->CS:=fun j=>if j=k then c else cs j
theorem Plc.claim(h:Plc a s K x cs w){k:Nat}(_hk:k<K)(c:CS):Plc a s K x (updC cs k c) ((w.setCell ⟨x.pl,x.po+k*4+1,none⟩ (.int .i64 c.cls)).setCell ⟨x.pl,x.po+k*4+2,none⟩ (.int .i64 c.own)):=by
 have Ga:=h.ne;obtain⟨⟨c',hs⟩,pcs,hp,hkk⟩:=h;refine⟨⟨c',(hs.far Ga _).far Ga _⟩,_,(hp.set_ _ _).set_ _ _,fun j hj=>?_⟩;obtain⟨h0,h1,h2,b',h3⟩:=hkk j hj;refine⟨?_,?_,?_,b',?_⟩
 ·rw[z3s (z3s h0),if_neg oM,if_neg oM]
 ·rw[z3s (z3s h1),if_neg oM]
  unfold updC;by_cases e:j=k
  ·subst e;simp
  ·rw[if_neg oM,if_neg e]
 ·rw[z3s (z3s h2)]
  unfold updC;by_cases e:j=k
  ·subst e;simp
  ·rw[if_neg oM,if_neg oM,if_neg e]
 ·rw[z3s (z3s h3),if_neg oM,if_neg oM]
end
theorem y8y{a:DA}{s K:Nat}{x:PA}{cs:Nat->CS}{w:World}(h:Plc a s K x cs w)(hK:K<=128)(_hs:s<=100000){k0:Nat}(hk0:k0<K):
  Calls Tryz.prog 273 #[.pointer (some ⟨x.gs,0,none⟩),.int .i64 ((s+32*k0:Nat):Int)] w fun e w'=>e=.returned (.pointer (some ⟨x.pl,x.po+k0*4,none⟩))/\w=w':=by
 obtain⟨c,_,f1⟩:=h.sets;have HP:=hid h;clear h;obtain⟨gs,pl,po⟩:=x;dsimp only at*;generalize hv0:s+32*k0=v0 at*;go_enter Tryz.func273,Tryz.ntmps273
 go_wp2;go_loopw [13] (fun i wr=>∃(k:Nat),k<=k0/\i=.int .i64 k/\w=wr) (fun i _=>k0-(RowKit.intOf i).toNat)
 case atStart=>exact⟨0,Nat.zero_le _,rfl,rfl⟩
 case round =>
  obtain⟨k,hk,rfl,rfl⟩:=hrel;obtain⟨f0,f2,f3,b4,f4⟩:=HP.out.facts (k:=k) oM;dsimp only at f0 f2 f3 f4;have Ga:(0:Int)<=(k:Int):=oM;have Gb:(k:Int)<(K:Int):=oM;generalize hv:s+32*k=v at*;by_cases hlt:k=k0
  ·subst hlt
   have hq:((v:Int)==(v0:Int))=true:=by rw[beq_iff_eq];omega
   clear hv hv0;go_wp2;go_ret;exact⟨rfl,rfl⟩
  ·have hq:((v:Int)==(v0:Int))=false:=by rw[beq_eq_false_iff_ne];omega
   clear hv;go_wp2;go_roundw
   case rel =>
    first
     |exact⟨k+1,oM,by go_num,trivial⟩
     |exact⟨k+1,oM,by go_num,rfl⟩
     |(
       repeat apply Exists.intro
       refine⟨?_,rfl⟩;exact⟨k+1,oM,by go_num,rfl⟩)
   case measure=>simp[RowKit.intOf];omega
theorem x8a{a:DA}{s K:Nat}{x:PA}{cs:Nat->CS}{w:World}(h:Plc a s K x cs w)(hK:K<=128)(hs:s<=100000){k0:Nat}(hk0:k0<K):
  Calls Tryz.prog 225 #[.pointer (some ⟨x.gs,0,none⟩),.int .i64 ((s+32*k0:Nat):Int)] w fun e w'=>e=.returned (.int .i64 (cs k0).own)/\w=w':=by
 have HF:=hid (y8y h hK hs hk0);obtain⟨_,_,f3,_⟩:=h.facts hk0;clear h;go_enter Tryz.func225,Tryz.ntmps225
 go_wp2_with fail
 refine HF.out.mono ?_;rintro e w1⟨rfl,rfl⟩;go_wp2;go_ret;exact⟨rfl,rfl⟩
def y5l(a:DA)(s K:Nat)(x:PA)(cs:Nat->CS)(w:World)(e:Ending)(w':World):Prop:=e=.returned (.int .i64 0)/\Plc a s K x cs w'/\Chg (fun k=>k=x.pl) w w'
theorem y2o{a:DA}{s K:Nat}{x:PA}{cs:Nat->CS}{w:World}(h:Plc a s K x cs w)(hK:K<=128)(hs:s<=100000){k0:Nat}(hk0:k0<K)(hd:(cs k0).dv=true)(b:Bool):
  Calls Tryz.prog 253 #[.pointer (some ⟨x.gs,0,none⟩),.int .i64 ((s+32*k0:Nat):Int),.bool b] w (y5l a s K x cs w):=by
 have HF:=hid (y8y h hK hs hk0);obtain⟨f0,f2,f3,b4,f4⟩:=h.facts hk0;have z4:=h.frozen (x.po+k0*4+3);have HN:Hid (Plc a s K x cs (w.setCell ⟨x.pl,x.po+k0*4+3,none⟩ (.bool b))/\Chg (fun k=>k=x.pl) w (w.setCell ⟨x.pl,x.po+k0*4+3,none⟩ (.bool b))):=hid ⟨h.hold hk0 b,(Chg.refl (fun k=>k=x.pl) w).setCell (p:=⟨x.pl,x.po+k0*4+3,none⟩) (.inl rfl) _⟩;have Ga:(cs k0).cls=((cs k0).cl:Int):=by unfold CS.cls;rw[hd];rfl
 rw[Ga]at f2;have d2:decide (((cs k0).cl:Int)<0)=false:=dF;generalize (cs k0).cl=ccl at*;clear h Ga;go_enter Tryz.func253,Tryz.ntmps253
 go_wp2_with fail
 refine HF.out.mono ?_;rintro e w1⟨rfl,rfl⟩;go_wp2;go_ret;exact⟨rfl,HN.out.1,HN.out.2⟩
def w7v(w:World)(l:List Int)(e:Ending)(w':World):Prop:=∃A m c,e=.returned (.slice A m c)/\w'.ownsRow w 3 1 (.slice A m c) m (z2s l)/\Blw w w'
theorem z6u(l:List Int):(z2s l).length=l.length:=by simp[z2s]
theorem x7u{a:DA}{s K:Nat}{x:PA}{cs:Nat->CS}{w:World}(h:Plc a s K x cs w)(hK:K<=128)(_hs:s<=100000):
  Calls Tryz.prog 153 #[.pointer (some ⟨x.gs,0,none⟩)] w (w7v w ((List.range K).map fun k=>((s+32*k:Nat):Int))):=by
 obtain⟨c,_,f1⟩:=h.sets;have HP:=hid h;obtain⟨i0,Gl,Gm,Gn,Gp⟩:=info_parts y6r;have Gb:Hid (Blw w w):=Below.refl _ _;have Gd:Hid (w.ownsRow w 3 1 (.slice none 0 0) 0 (z2s [])):=World.ownsRow_nil _ _ _ _;clear h;obtain⟨gs,pl,po⟩:=x;dsimp only at*;go_enter Tryz.func153,Tryz.ntmps153
 go_wp2;go_loopw [3,13] (fun p i wr=>∃(k:Nat)(A1:Option Addr)(m1 c1:Nat),k<=K/\i=.int .i64 k/\p=.slice A1 m1 c1/\m1=k/\Hid (wr.ownsRow w 3 1 (.slice A1 m1 c1) m1 (z2s ((List.range k).map fun k=>((s+32*k:Nat):Int))))/\Hid (Blw w wr)) (fun _ i _=>K-(RowKit.intOf i).toNat)
 case atStart=>exact⟨0,_,_,_,Nat.zero_le _,rfl,rfl,rfl,Gd,Gb⟩
 case round =>
  clear Gb Gd;obtain⟨k,A1,m1,c1,hk,rfl,rfl,Ga,HO,H⟩:=hrel;by_cases hlt:k<K
  ·obtain⟨f0,f2,f3,b4,f4⟩:=(HP.out.below H.out).facts (k:=k) hlt
   dsimp only at f0 f2 f3 f4;have Gr:(0:Int)<=(k:Int):=oM;have Gs:(k:Int)<(K:Int):=oM;have Gq:m1<=128:=oM;have HM:=hid Ga;have Gg:Hid (z2s ((List.range k).map fun k=>((s+32*k:Nat):Int))++[.int .i64 ((s+32*k:Nat):Int)]=z2s ((List.range (k+1)).map fun k=>((s+32*k:Nat):Int))):=hid (by rw[List.range_succ,List.map_append];simp[z2s]);generalize ((s+32*k:Nat):Int)=v at*;generalize (cs k).cls=v1 at*;generalize (cs k).own=v2 at*;have Gh:=hid H.out.size;have Gk:=hid ((HO.out.alloc (.cells #[.int .i64 v,.int .i64 v1,.int .i64 v2,.bool b4] 342)).alloc (.cells #[.int .i64 v] 3));have Gf:=hid ((H.out.alloc H.out.size (.cells #[.int .i64 v,.int .i64 v1,.int .i64 v2,.bool b4] 342)).alloc (by have:=H.out.size;simp;omega) (.cells #[.int .i64 v] 3));clear H HO Ga;go_wp2_with (first
    |(at_builtin;refine z0m _ (.tmp 17) (.tmp 20) 34 rfl rfl w 3 i0 _ 1 8 Tryz.underlying34 Gl Gm Gn Gp rfl ?q1 (.slice A1 m1 c1) m1 (z2s ((List.range k).map fun k=>((s+32*k:Nat):Int))) rfl Gk.out (wr+1+1) (some ⟨wr+1,0,none⟩) 1 1 [.int .i64 v] rfl ?q5 ?q6 ?q2 ?q3 ?q4 ?_;(case q1=>omega);(case q5=>exact z0j _ _ (by simp) _ 1 1 3 _ rfl rfl);(case q6=>(intro u hu;simp at hu;subst hu;rfl));(case q2=>(unfold maxLen;omega));(case q3=>omega);(case q4=>(have:=Gh.out;simp;omega));intro A3 n3 c3 w8 hn3 ho3 hg3 hb3;have Gi:=hid hn3;have Gj:=hid ho3;have Gc:=hid (Gf.out.trans hb3);clear hn3 ho3 hg3 hb3)
    |go_in)
   have b1:n3=k+1:=by have:=Gi.out;have:=HM.out;omega
   have Ge:Hid (w8.ownsRow w 3 1 (.slice A3 n3 c3) n3 (z2s ((List.range (k+1)).map fun k=>((s+32*k:Nat):Int)))):=hid (by have h:=Gj.out;rw[Gg.out]at h;exact h);go_roundw
   case rel =>
    first
     |exact⟨k+1,_,_,_,oM,by go_num,rfl,b1,Ge,Gc⟩
     |(
       repeat apply Exists.intro
       refine⟨?_,rfl⟩;exact⟨k+1,_,_,_,oM,by go_num,rfl,b1,Ge,Gc⟩)
   case measure=>simp[RowKit.intOf];omega
  ·obtain rfl:K=k:=oM
   go_wp2;go_ret;exact⟨_,_,_,rfl,HO.out,H.out⟩
end
section
open Go.RowKit Go.Maps
structure x8z(L s n:Nat)(ws:List (Nat×Nat)):Prop where
 off:∀e∈ws,z3e L s n e.1
 val:∀e∈ws,e.2<18446744073709551616
 few:ws.length<=100
 some_:ws≠[]
theorem x3f{a L T w S cur}(h:Dev a L T w S cur 0) g s n (hB:Blk w g 258 (z0s a s n)) (hs:s+n<=L) (hn:26<=n) ws (hl:LogU cur s ws) (hw:x8z L s n ws) (hT:T+240<=1000000000) :
  () 134 #[(g,0)] w (z0x a L (T+240) w S (wrS (wrS cur ws) [(64*s,0)]) 0 (.tuple #[[ws.length],()])):=by
 have hL:L<=4096:=by obtain⟨ls,G8,GD,cs,GC,G2,GB⟩:=h;exact G2.hL
 have G3:=hw.few;have G6:0<ws.length:=List.length_pos_iff.2 hw.some_;have Gn:=hid (y9o h g s n hB hs oM ws hl oM hw.off);have HR:Hid (∀(A:Option Addr)(m c:Nat)(p1 p2:List Ins)(w1:World)(base:Nat),z0y ws p1->z0y [(64*s,0)] p2->w.heap.size<=base->w1.ownsRow base 225 3 (.slice A m c) m (z0h (p1++p2))->Blw w w1 ->
   () 46 #[.slice A m c,memV a] w1 (z0x a L (T+240) w S (wrS (wrS cur ws) [(64*s,0)]) 0 ())):=fun A m c p1 p2 w1 base Gf Gg hbase Ge hb=>by
  refine(w2v (h.below hb) Ge (fun k hk=>Nat.lt_of_lt_of_le (h.lt k hk) hbase) Gf Gg (fun e he=>⟨(hw.off e he).al,(hw.off e he).lt,hw.val e he⟩) (fun e he=>?_) oM (by simp) (T+240) (by simp;omega) hT).mono ?_
  ·simp at he;subst he;exact⟨by simp;omega,by simp;omega,by simp⟩
  ·intro e w2 h2
   exact z0x.back hb h2
 have Gz:Hid (∀W,Blw w W->() 223 #[(g,0),()] W (z2e W (z0y [(64*s,0)]))):=fun W hW =>
  z6l a s n g 0 W (hB.below hW hB.lt) oM oM
 have Gm:=hid hB;have Gd:Hid (∀w1,Blw w w1->w1.cell? (g,0)=some (memV a)):=fun w1 hb=>(Gm.out.below hb Gm.out.lt).cell 0
 have G0:Hid (∀e∈ws,e.1<18446744073709551616):=fun e he=>by have:=(hw.off e he).lt;omega
 have Gx:Hid (ws.isEmpty=false):=hid (by simp[hw.some_]);clear h hB hl hs hn hw;unfold memV at*;go_enter Tryz.func134,Tryz.ntmps134
 go_wp2_with fail
 refine Gn.out.mono ?_;rintro e w1⟨A,m,c,rfl,hm,ho,Ga⟩;have Gh:=hid Ga;have G9:m<=ws.length:=oM;have GA:ws.length<=m:=oM;have Gt:=hid (z1n A m c ws w1.drew (z0d.of_own ho) oM oM G0.out);rw[Gx.out];have e6:(ws.length:Int)=(m:Int):=oM;clear hm ho Ga Gn;go_wp2;have Gy:Hid (w1.drew.cell? (g,0)=some ↑(57,a.th 0,0)):=Gd.out w1.drew Gh.out.drew;refine z0f (fun w'=>w'.cell? (g,0)=some ↑(57,a.th 0,0)) 9 [(true,0),(true,2),(true,5),(true,6),(true,7),(true,8),(false,1),(false,3),(false,4)] (by kernel_rfl) (by kernel_rfl) Gy.out ?_;refine tkS (.slice A m c) (fun w' hS=>?_) ?_
 ·go_simp
 refine tkS (g,0) (fun w' hS=>?_) ?_
 ·go_simp
 refine tkS (g,0) (fun w' hS=>?_) ?_
 ·go_simp
 refine tkS (g,0) (fun w' hS=>?_) ?_
 ·go_simp
 refine tkS (g,0) (fun w' hS=>?_) ?_
 ·go_simp
 refine tkS (57,a.th 0,0) (fun w' hS=>?_) ?_
 ·go_simp
 refine z0k (by rfl) ?_;go_wp2_with fail
 refine Gt.out.mono ?_;rintro e1 w4⟨B1,n1,d1,p1,rfl,Gf,Ge,Ga⟩;have Gp:=hid Gf;have Gi:=hid Ge;have Gb:=hid (Gh.out.drew.trans (Ga.mono Gh.out.size));have Gs:=hid (Gz.out w4 Gb.out);clear Gf Ge Ga Gt;go_wp2_with fail
 refine⟨Gd.out w4 Gb.out,?_⟩;refine z0k (by rfl) ?_;go_wp2_with fail
 refine Gs.out.mono ?_;rintro e1 w5⟨B2,n2,G1,p2,rfl,Gg,Gk,Gj⟩;have Gq:=hid Gg;have Gc:=hid (Gb.out.trans (Gj.mono Gb.out.size));have G4:n1<=400:=by
  have h1:=Gi.out.1;have h2:=z1m Gp.out;rw[z0o]at h1;omega
 have G5:n2<=400:=by
  have h1:=Gk.1;have h2:=z1m Gq.out;rw[z0o]at h1;simp at h2;omega
 have Gu:=hid (z5p B1 B2 n1 d1 n2 G1 p1 p2 w5 (z0d.of_own (z0r Gi.out Gj)) (z0d.of_own Gk) G4 G5);clear Gg Gk Gj Gs Gi;go_wp2_with fail
 refine⟨Gd.out w5 Gc.out,?_⟩;refine z0k (by rfl) ?_;go_wp2_with fail
 refine Gu.out.mono ?_;rintro e1 w6⟨B3,n3,d3,rfl,G7,Gw,Gv⟩;have Gl:=hid (Gc.out.trans (Gv.mono Gc.out.size));have Gr:=hid (HR.out B3 n3 d3 p1 p2 w6 w5.heap.size Gp.out Gq.out Gc.out.size Gw Gl.out);clear G7 Gw Gv Gu HR;go_wp2_with fail
 refine⟨Gd.out w6 Gl.out,?_⟩;show wpList _ _ _ _ _ _;simp only[List.drop_succ_cons,List.drop_zero];go_wp2_with fail
 refine Gr.out.mono ?_;rintro e1 w7⟨rfl,h7⟩;have HZ:=hid h7;clear h7 Gr;go_wp2;refine NoPanic.normal ?_;go_wp2;go_ret2;refine⟨?_,HZ.out⟩;rw[e6];rfl
def x9e(s:Nat)(ws:List (Nat×Nat))(p:List Ins):Prop:=(ws=[]/\p=[])\/(ws≠[]/\∃cm p1 p2 p3,cm<18446744073709551616/\z0y (entW (64*s) 0 ws) p1/\z0y [(64*s,cm)] p2/\w3q ws [(64*s,0)] p3/\p=p1++p2++p3)
def y0o:List (Nat×Nat)->List Nat
 |[]=>[]
 |e::l=>e.1::e.2::y0o l
theorem y4l:∀(l:List (Nat×Nat))(e:Nat×Nat),y0o (l++[e])=y0o l++[e.1,e.2]
 |[],e=>rfl
 |x::l,e=>by
  have:=y4l l e;simp[y0o,this]
theorem y8z:∀(l:List (Nat×Nat))(x:Nat),x∈y0o l->∃e∈l,x=e.1\/x=e.2
 |[],x,h=>by simp[y0o]at h
 |e::l,x,h=>by
  simp only[y0o,List.mem_cons]at h;rcases h with h|h|h
  ·exact⟨e,by simp,.inl h⟩
  ·exact⟨e,by simp,.inr h⟩
  ·obtain⟨y,hy,h2⟩:=y8z l x h
   exact⟨y,by simp[hy],h2⟩
theorem x0a{a L T w S cur F}(h:Dev a L T w S cur F) g s n (hB:Blk w g 316 (z1q a s n)) (hs:s+n<=L) (hn:26<=n)
  A N c ws (hr:z0d w w.heap.size 2 A N (z0a ws)) (hd:Diff ws) (ho:∀e∈ws,z3e L s n e.1) (hv:∀e∈ws,e.2<18446744073709551616) (hN:N<=96) (hidle:cur (8*s)=0) (ht:Tab w) :
  () 194 #[(g,0),.slice A N c] w (y5m w (x9e s ws)):=by
 have hL:L<=4096:=by obtain⟨ls,DQ,Fe,cs,Fd,D6,Fc⟩:=h;exact D6.hL
 have HD:=hid h;have Ga:=hid hB;have Dz:=hid hr;obtain⟨i0,Dn,Ds,Dt,Du⟩:=info_parts z1l;obtain⟨j0,D7,DJ,DK,DL⟩:=info_parts z7r;have D0:=hid ht;have Gd:Hid (∀e∈ws,e.1<18446744073709551616/\e.2<18446744073709551616):=hid (fun e he=>⟨by have:=(ho e he).lt;omega,hv e he⟩);have DO:64*s<=1000000:=oM;have G0:=hid (show ws.length=N by have:=hr.1;rw[z1a]at this;omega);have f0:w.cell? (g,0)=some (memV a):=hB.cell 0;have hq:=z7p (some (a.th 0,0));have DC:=z1x (some (a.th 0,0));have Fa:=z3u (some (a.th 0,0));have Fb:=z3n (a.th 0,0);have GT:Hid (∀W,Blw w W->() 39 #[(a.th 0,0),(64*s:Nat)] W fun e w'=>e=.returned [()]/\W=w'):=hid (fun W hW=>z2m h (64*s) 0 oM oM (by rw[show 64*s/8=8*s by omega];exact hidle) W hW);have D1:Hid (∀i (h:i<ws.length),(ws[i]).1<18446744073709551616):=hid (fun i hi=>by have:=(ho _ (List.getElem_mem hi)).lt;omega);have GK:Hid (∀k (hk:k<ws.length) W,Blw w W->() 256 #[(g,0),.int .u64 ((ws[k]).1:Int)] W fun e w'=>e=.returned true/\Blw W w'):=hid (fun k hk W hW =>
  y8i (h.below hW) g s n (hB.below hW hB.lt) hs _ (ho _ (List.getElem_mem hk)))
 have GQ:Hid (∀W,Blw w W->() 76 #[(a.th 0,0)] W fun e w'=>e=.returned ()/\W=w'):=hid (fun W hW=>z7q (h.below hW) (j:=0) oM);have GS:Hid (∀W,Blw w W->() 257 #[.slice A N c] W (w4a W ws)):=hid (fun W hW=>w5y A N c ws W ((hr.below hW).more hW.size) hd D1.out oM);have GL:Hid (Blw w w):=Below.refl _ _;clear h hB hr ho hd;unfold memV at*;go_enter Tryz.func194,Tryz.ntmps194
 go_wp2;go_loopw [29] (fun i wr=>∃(k:Nat),k<=N/\i=↑[k]/\Hid (Blw w wr)) (fun i _=>N-(Go.RowKit.intOf i).toNat)
 case atStart=>exact⟨0,Nat.zero_le _,rfl,GL⟩
 case round =>
  clear GL;obtain⟨k,hk,rfl,H⟩:=hrel;by_cases hlt:k<N
  ·obtain⟨D9,b,DP,hA,D4,q0,q1⟩:=z3a (Dz.out.below H.out) hlt
   subst hA;have DM:(0:Int)<=(k:Int):=oM;have DN:(k:Int)<(N:Int):=oM;have GG:Blw w (wr.alloc (.cells #[.int .u64 ((ws[k]).1:Int),.int .u64 ((ws[k]).2:Int)] 117)):=H.out.alloc H.out.size _;have HA:=hid (GK.out k D9 _ GG);have G8:=hid GG;clear GG;generalize ws[k]=o at*;go_wp2_with fail
   refine HA.out.mono ?_;rintro e1 w2⟨rfl,Gi⟩;have GM:=hid (G8.out.trans (Gi.mono G8.out.size));clear Gi HA H G8;go_wp2;go_roundw
   case rel =>
    first
     |exact⟨k+1,oM,by go_num,GM⟩
     |(
       repeat apply Exists.intro
       refine⟨?_,rfl⟩;exact⟨k+1,oM,by go_num,GM⟩)
   case measure=>simp[Go.RowKit.intOf];omega
  ·have D8:k=N:=oM
   subst D8;clear GK;go_wp2_with fail
   refine(GS.out wr H.out).mono ?_;rintro e1 w1⟨A1,m1,c1,rfl,DB,Gx,Gh⟩;have Gg:=hid (H.out.trans (Gh.mono H.out.size));have Gs:=hid Gx;have DD:m1=k:=by have:=G0.out;omega
   subst DD;have g0:w1.cell? (g,0)=some ↑(57,a.th 0,0):=(Ga.out.below Gg.out Ga.out.lt).cell 0;have g1:w1.cell? (g,1)=some ↑(64*s:Nat):=(Ga.out.below Gg.out Ga.out.lt).cell 1;have GP:=hid (GQ.out w1 Gg.out);clear DB Gx Gh GS H;go_wp2_with fail
   refine GP.out.mono ?_;rintro e w2⟨rfl,rfl⟩;have Gl:=hid (z7n Gg.out 1);generalize hz:64*s=z at*;have HZ:=hid hz;clear hz;go_wp2_with fail
   go_cut [10]from 18 to 132 (fun v wx=>v=↑[()]/\Hid (Blw w1 wx))
   case first =>
    go_region_with (go_at_call 39;refine(GT.out _ Gl.out).mono ?_;rintro e w3⟨rfl,rfl⟩)
    all_goals (go_wp2_with fail;go_meet;exact⟨rfl,(Below.refl _ w1).drew⟩)
   case rest =>
    obtain⟨rfl,HW⟩:=hcut;rename World=>wz
    have Gc:=hid (Gg.out.trans (HW.out.mono Gg.out.size));have G9:=hid (GQ.out wz Gc.out);have Dy:=hid (z0r Gs.out HW.out);clear HW GP Gl GT;have GF:=Ga.out.below Gc.out Ga.out.lt;have d0:wz.cell? (g,0)=some ↑(57,a.th 0,0):=GF.cell 0;have d1:wz.cell? (g,1)=some ↑z:=by rw[<- HZ.out];exact GF.cell 1
    clear GF g0 g1;rcases Nat.eq_zero_or_pos m1 with h0|h0
    ·subst h0
     have DI:ws=[]:=List.eq_nil_of_length_eq_zero G0.out;go_wp2_with fail
     refine G9.out.mono ?_;rintro e w2⟨rfl,rfl⟩;go_wp2;go_ret2;exact⟨_,_,_,[],rfl,.inl ⟨DI,rfl⟩,World.ownsRow_nil _ _ _ _,Gc.out⟩
    ·have e9:((m1:Int)==0)=false:=by rw[beq_eq_false_iff_ne];omega
     have Dr:=hid ((z0d.of_own Dy.out).more (nL _));have GX:Hid (wz.ownsRow wz.heap.size 117 2 ((),()) 0 (z0a (entW z 0 (ws.take 0)))):=World.ownsRow_nil _ _ _ _;have Di:Hid (wz.ownsRow wz.heap.size 32 1 ((),()) 0 (z0g (y0o (ws.take 0)))):=World.ownsRow_nil _ _ _ _;have Dd:Hid (Blw wz wz):=Below.refl _ _;clear hidle;go_wp2_with fail
     refine G9.out.mono ?_;rintro e w2⟨rfl,rfl⟩;clear G9 DC;go_wp2;go_loopw [12,13,78] (fun l u i wr=>∃(t:Nat)(A2:Option Addr)(m2 c2:Nat)(A3:Option Addr)(m3 c3:Nat),t<=m1/\i=↑[t]/\l=.slice A2 m2 c2/\u=.slice A3 m3 c3/\Hid (m2=2*t/\m3=2*t)/\Hid (wr.ownsRow wz.heap.size 117 2 (.slice A2 m2 c2) m2 (z0a (entW z 0 (ws.take t))))/\Hid (wr.ownsRow wz.heap.size 32 1 (.slice A3 m3 c3) m3 (z0g (y0o (ws.take t))))/\Hid (Blw wz wr)) (fun _ _ i _=>m1-(Go.RowKit.intOf i).toNat)
     case atStart=>exact⟨0,_,_,_,_,_,_,Nat.zero_le _,rfl,rfl,rfl,hid ⟨rfl,rfl⟩,GX,Di,Dd⟩
     case round =>
      clear GX Di Dd;obtain⟨t,A2,m2,c2,A3,m3,c3,ht,rfl,rfl,rfl,HM,HO,HU,HQ⟩:=hrel;by_cases hlt4:t<m1
      ·obtain⟨DG,b,DP,hA,D4,q0,q1⟩:=z3a (Dr.out.below HQ.out) hlt4
       subst hA;have DM:(0:Int)<=(t:Int):=oM;have DN:(t:Int)<(m1:Int):=oM;have Dg:=hid (x0m ws t DG);have Gp:=hid (y2i z (ws.take t) 0 (ws[t]));have GR:=hid (y4l (ws.take t) (ws[t]));rw[<- Dg.out,show(ws.take t).length=t by simp;omega,Nat.zero_add]at Gp;rw[<- Dg.out]at GR;generalize ws[t]=e at*;have u1:IntKind.u64.wrap ((z:Int)+64)=((z+64:Nat):Int):=by rw[IntKind.wrap_u64];omega
       have u2:IntKind.u64.wrap (t:Int)=(t:Int):=by rw[IntKind.wrap_u64];omega
       have u3:IntKind.u64.wrap ((t:Int)*16)=((16*t:Nat):Int):=by rw[IntKind.wrap_u64];omega
       have u4:IntKind.u64.wrap (((z+64:Nat):Int)+((16*t:Nat):Int))=((z+64+16*t:Nat):Int):=by rw[IntKind.wrap_u64];omega
       have u5:IntKind.u64.wrap (((z+64+16*t:Nat):Int)+8)=((z+64+16*t+8:Nat):Int):=by rw[IntKind.wrap_u64];omega
       have Ge:=HM.out.1;have Gf:=HM.out.2;subst Ge;subst Gf;have Gb:=hid (Blk.new wr 117 #[e.1,e.2]);have G1:=hid (HO.out.alloc (.cells #[e.1,e.2] 117));have GE:=hid (HU.out.alloc (.cells #[e.1,e.2] 117));have Gu:=hid (HQ.out.alloc HQ.out.size (.cells #[e.1,e.2] 117));have GA:Hid (∀g',(Value.slice A2 (2*t) c2).ownBlock=some g'->g'<wr.heap.size):=fun g' hg'=>(HO.out.lt g' hg').2
       have f1:wr.cell? (g,1)=some ↑z:=(World.cell?_of_block (HQ.out.block g (by have:=Ga.out.below Gc.out Ga.out.lt;exact this.lt))).trans d1;have DZ:g<wr.heap.size:=by have h1:=(Ga.out.below Gc.out Ga.out.lt).lt;have h2:=HQ.out.size;omega
       clear HO HQ HU HM;generalize z+64+16*t+8=y2 at*;generalize z+64+16*t=y at*;generalize z+64=x at*;generalize 16*t=q at*;go_wp2_with (at_builtin;refine stop ?_)
       unfold Stop;refine z3j _ (.tmp 92) (.tmp 97) 118 rfl rfl wz.heap.size 117 i0 _ 2 16 Tryz.underlying118 Dn Ds Dt Du rfl oM (.slice A2 (2*t) c2) (2*t) (z0a (entW z 0 (ws.take t))) rfl (G1.out.alloc _) (wr.heap.size+1+1) (some (wr.heap.size+1,0)) 1 1 [y,e.1] rfl (z0j _ _ (by simp) _ 1 2 117 _ rfl rfl) (z2k _ _) (by unfold maxLen;omega) oM (by have:=Gu.out.size;simp;simp at this;omega) ?_;intro A4 n4 c4 w5 hn4 Gk hg4 Gz;have Gj:Below wz.heap.size _ w5:=(Below.refl _ _).grown hg4 (by have:=Gu.out.size;simp;simp at this;omega) (fun j hj=>(G1.out.lt j hj).1);have G4:=(Gb.out.alloc (.cells #[y,e.1] 117)).grown hg4 (fun e=>by have:=GA.out _ e.symm;omega);have Gm:=hid G4;have d5:w5.cell? (wr,1)=some ↑e.2:=G4.cell 1;have Gt:=hid Gk;have GC:=hid ((GE.out.alloc (.cells #[y,e.1] 117)).kept hg4 (z1v GE.out G1.out (by decide)));have G2:=hid ((Gu.out.alloc Gu.out.size _).trans Gj);have GV:Hid (∀g',(Value.slice A4 n4 c4).ownBlock=some g'->g'≠wr.heap.size):=hid (fun g' hg' e=>by
        rcases Gz with h|h
        ·have:=GA.out g' (h.symm.trans hg');omega
        ·rw[h]at hg';simp at hg';omega)
       have GH:n4=2*t+1:=oM;subst GH;have DX:wr.heap.size<w5.heap.size:=G4.lt;clear hn4 Gk hg4 Gj Gz G4 Gb G1 GE Gu GA;go_wp2_with (at_builtin;refine stop ?_)
       unfold Stop;refine z0m _ (.tmp 99) (.tmp 105) 118 rfl rfl wz.heap.size 117 i0 _ 2 16 Tryz.underlying118 Dn Ds Dt Du rfl oM (.slice A4 (2*t+1) c4) (2*t+1) _ rfl (Gt.out.alloc _) (w5.heap.size+1) (some (w5,0)) 1 1 [y2,e.2] rfl (z0j _ _ rfl _ 1 2 117 _ rfl rfl) (z2k _ _) (by unfold maxLen;omega) oM (by have:=G2.out.size;simp;omega) ?_;intro A5 n5 c5 w6 GI Gy hg5 Gw;have GB:Hid (w6.ownsRow wz.heap.size 117 2 (.slice A5 n5 c5) n5 (z0a (entW z 0 (ws.take (t+1))))):=hid (by rw[Gp.out,show ∀l:List (Nat×Nat),l++[(y,e.1),(y2,e.2)]=(l++[(y,e.1)])++[(y2,e.2)]from fun l=>by simp,z1o,z1o];exact Gy);have G3:=hid ((G2.out.alloc G2.out.size _).trans Gw);have GD:=hid ((GC.out.alloc (.cells #[y2,e.2] 117)).kept hg5 (z1v GC.out Gt.out (by decide)));have G5:=(Gm.out.alloc (.cells #[y2,e.2] 117)).grown hg5 (fun e=>GV.out _ e.symm rfl);have d6:w6.cell? (wr,0)=some ↑e.1:=G5.cell 0;have d7:w6.cell? (wr,1)=some ↑e.2:=G5.cell 1;have DY:wr.heap.size<w6.heap.size:=G5.lt;have GW:Hid (n5=2*(t+1)):=hid oM;clear GI Gy hg5 Gw G5 Gt GC G2 Gm GV d5;go_wp2_with (at_builtin;refine stop ?_)
       unfold Stop;refine z0m _ (.tmp 107) (.tmp 112) 107 rfl rfl wz.heap.size 32 j0 _ 1 8 Tryz.underlying107 D7 DJ DK DL rfl oM (.slice A3 (2*t) c3) (2*t) _ rfl (GD.out.alloc _) (w6.heap.size+1) (some (w6,0)) 2 2 [e.1,e.2] rfl (z0j _ _ rfl _ 2 1 32 _ rfl rfl) (z2k _ _) (by unfold maxLen;omega) oM (by have:=G3.out.size;simp;omega) ?_;intro A6 n6 c6 w7 hn6 ho6 hg6 hb6;have Dj:Hid (w7.ownsRow wz.heap.size 32 1 (.slice A6 n6 c6) n6 (z0g (y0o (ws.take (t+1))))):=hid (by rw[GR.out];show w7.ownsRow _ _ _ _ _ (z0g (y0o (ws.take t)++[e.1,e.2]));unfold z0g;rw[List.map_append];exact ho6);have GZ:=hid ((GB.out.alloc (.cells #[e.1,e.2] 32)).kept hg6 (z1v GB.out GD.out (by decide)));have De:=hid ((G3.out.alloc G3.out.size _).trans hb6);have GU:Hid (n5=2*(t+1)/\n6=2*(t+1)):=hid ⟨GW.out,oM⟩;clear hn6 ho6 hg6 hb6 GB GD G3 GW d6 d7;go_wp2;go_roundw
       case rel =>
        first
         |exact⟨t+1,_,_,_,_,_,_,oM,by go_num,rfl,rfl,GU,GZ,Dj,De⟩
         |(
           repeat apply Exists.intro
           refine⟨?_,rfl⟩;exact⟨t+1,_,_,_,_,_,_,oM,by go_num,rfl,rfl,GU,GZ,Dj,De⟩)
       case measure=>simp[Go.RowKit.intOf];omega
      ·have DH:m1=t:=oM
       subst DH;have DF:ws.take m1=ws:=List.take_of_length_le (by have:=G0.out;omega);rw[DF]at HO HU;have Ge:=HM.out.1;have Gf:=HM.out.2;subst Ge;subst Gf;have Gn:=hid (Gc.out.trans (HQ.out.mono Gc.out.size));have Dk:=hid (w3m A3 (2*m1) c3 wr.heap.size (y0o ws) wr (z0d.of_own HU.out) (fun x hx=>by
        obtain⟨e,he,h|h⟩:=y8z ws x hx
        ·rw[h];exact(Gd.out e he).1
        ·rw[h];exact(Gd.out e he).2) oM (D0.out.below Gn.out))
       have u1:IntKind.u64.wrap (m1:Int)=(m1:Int):=by rw[IntKind.wrap_u64];omega
       go_wp2_with fail
       refine Dk.out.mono ?_;rintro e w2⟨v,hv,rfl,rfl⟩;have u2:IntKind.u64.wrap (v:Int)=(v:Int):=by rw[IntKind.wrap_u64];omega
       obtain⟨cm,DR,D5⟩:∃cm:Nat,bits BinOp.or IntKind.u64 (m1:Int) ((v:Int)*4294967296)=(cm:Int)/\cm<18446744073709551616:=by
        refine⟨m1+v*4294967296,?_,oM⟩;have h:=Go.u64_or32 (y:=(m1:Int)) (x:=(v:Int)*4294967296) oM oM oM oM oM;rw[h];omega
       have Dm:ws.length=m1:=G0.out;have Gb:=hid (Ga.out.below Gn.out Ga.out.lt);have Df:=hid (z1n A2 (2*m1) c2 _ wr (z0d.of_own HO.out) oM oM (fun e he=>by
        obtain⟨j2,h1,h2,_⟩:=z5h _ _ _ _ he;omega))
       have Dx:Hid (∀W,Blw wr W->() 124 #[(g,0),cm] W (z2e W (z0y [(z,cm)]))):=hid (fun W hW=>by
        have h:=y6u a s n g cm W (Gb.out.below hW Gb.out.lt) oM;rw[HZ.out]at h;exact h)
       have Dw:Hid (∀W,Blw wr W->() 221 #[(g,0),.slice A1 m1 c1] W (z2e W (w3q ws [(z,0)]))):=hid (fun W hW=>by
        have hr:=Dr.out.below (HQ.out.trans (hW.mono HQ.out.size));have h:=x7l a s n g A1 m1 c1 ws W (hr.more (Nat.le_trans HQ.out.size hW.size)) h0 oM (fun e he=>(Gd.out e he).1) (Gb.out.below hW Gb.out.lt) oM;rw[HZ.out]at h;exact h)
       clear Dk HU HO;go_wp2_with fail
       refine Df.out.mono ?_;rintro e1 w4⟨B1,n1,d1,p1,rfl,Dp,Gx,Gh⟩;have Da:=hid Dp;have Gs:=hid Gx;have GN:=hid Gh;have Gr:=hid (Dx.out w4 Gh);clear Dp Gx Gh Df;go_wp2_with fail
       refine Gr.out.mono ?_;rintro e1 w5⟨B2,n2,D3,p2,rfl,Dq,GJ,Gi⟩;have Db:=hid Dq;have GO:=hid (GN.out.trans (Gi.mono GN.out.size));have DT:n1<=390:=by
        have h1:=Gs.out.1;have h2:=z1m Da.out;rw[z0o]at h1;rw[z6t]at h2;omega
       have DU:n2<=3:=by
        have h1:=GJ.1;have h2:=z1m Db.out;rw[z0o]at h1;simp at h2;omega
       have Dh:=hid (z5p B1 B2 n1 d1 n2 D3 p1 p2 w5 (z0d.of_own (z0r Gs.out Gi)) (z0d.of_own GJ) oM oM);clear Dq GJ Gi Gr Gs;go_wp2_with fail
       refine Dh.out.mono ?_;rintro e1 w6⟨B3,n3,d3,rfl,DE,Do,Dl⟩;have GY:=hid Do;have G6:=hid (GO.out.trans (Dl.mono GO.out.size));have Gq:=hid (Dw.out w6 G6.out);have DV:n3<=393:=oM;clear DE Do Dl Dh;go_wp2_with fail
       refine Gq.out.mono ?_;rintro e1 w7⟨B4,n4,d4,p4,rfl,Gz,Gk,Gj⟩;have Dc:=hid Gz;have G7:=hid (G6.out.trans (Gj.mono G6.out.size));have DW:n4<=200:=by
        have h1:=Gk.1;have h2:=w1j Dc.out;rw[z0o]at h1;simp at h2;omega
       have Gv:=hid (z5p B3 B4 n3 d3 n4 d4 (p1++p2) p4 w7 (z0d.of_own (z0r GY.out Gj)) (z0d.of_own Gk) oM oM);clear Gz Gk Gj Gq GY;go_wp2_with fail
       refine Gv.out.mono ?_;rintro e1 w8⟨B5,n5,d5,rfl,GI,Gy,Gw⟩;have Gt:=hid Gy;have Dv:=hid (Gn.out.trans ((G7.out.trans (Gw.mono G7.out.size)).mono Gn.out.size));have D2:=hid (Nat.le_trans Gn.out.size G7.out.size);clear GI Gy Gw Gv;go_wp2;go_ret2;have hz:=HZ.out;subst hz;exact⟨_,_,_,_,rfl,.inr ⟨fun h=>by rw[h]at Dm;simp at Dm;omega,cm,p1,p2,p4,D5,Da.out,Db.out,Dc.out,rfl⟩,z2u Gt.out D2.out,Dv.out⟩
theorem y4z{w:World}{B n b off:Nat}{p:List Ins}(h:z0d w B 3 (some (b,off)) n (z0h p))(k:Nat)(hk:k<n):z0d w B 3 (some (b,off+k*3)) (n-k) (z0h (p.drop k)):=by
 have hl:p.length=n:=by have:=h.1;rw[z0o]at this;omega
 obtain⟨b',Ga,hA,hb,hc⟩:=h.plain oM oM;cases hA;refine⟨by rw[z0o];simp;omega,fun _=>⟨_,rfl,hb,fun j u hu=>?_⟩⟩;have e1:z0h p=z0h (p.take k)++z0h (p.drop k):=by rw[<- z4k,List.take_append_drop]
 have e2:(z0h (p.take k)).length=k*3:=by rw[z0o];simp;omega
 have h1:=hc (k*3+j) u (by rw[e1,List.getElem?_append_right oM,e2,show k*3+j-k*3=j by omega];exact hu);rw[Go.WideShapes.add_plain];rw[<- Nat.add_assoc]at h1;exact h1
def IsFl(ws ws2:List (Nat×Nat))(p:List Ins):Prop:=∃(fs:List Nat)(p2:List Ins),p=fs.map Ins.fl++[Ins.fe]++p2/\fs.length<=ws.length/\((∀o∈fs,∃e∈ws,o=z1p e.1)/\∀e∈ws,z1p e.1∈fs)/\z0y ws2 p2
theorem z7j{a L T w S cur}(h:Dev a L T w S cur 0)(g s n:Nat)(hB:Blk w g 258 (z0s a s n))(hs:s+n<=L)(hn:26<=n)(ws:List (Nat×Nat))(hl:LogU cur s ws)(hw:x8z L s n ws):
  () 207 #[(g,())] w (y5m w (IsFl ws [(64*s,0)])):=by
 have hL:L<=4096:=by obtain⟨ls,GB,GQ,cs,GP,G0,GG⟩:=h;exact G0.hL
 have G3:=hw.few;have G5:0<ws.length:=List.length_pos_iff.2 hw.some_;have Gi:=hid (y9o h g s n hB hs oM ws hl oM hw.off);have Gw:Hid (∀W,Blw w W->() 223 #[(g,()),()] W (z2e W (z0y [(64*s,0)]))):=fun W hW =>
  z6l a s n g 0 W (hB.below hW hB.lt) oM oM
 have Gx:Hid (∀e∈ws,e.1<18446744073709551616):=fun e he=>by have:=(hw.off e he).lt;omega
 have Gu:Hid (ws.isEmpty=false):=hid (by simp[hw.some_]);clear h hB hl hs hn hw;go_enter Tryz.func207,Tryz.ntmps207
 go_wp2_with fail
 refine Gi.out.mono ?_;rintro e w1⟨A,m,c,rfl,hm,ho,Ga⟩;have Gh:=hid Ga;have GE:m<=ws.length:=oM;have GF:ws.length<=m:=oM;have Gm:=hid (z1n A m c ws w1 (z0d.of_own ho) oM oM Gx.out);rw[Gu.out];clear hm ho Ga Gi;go_wp2_with fail
 refine Gm.out.mono ?_;rintro e1 w4⟨B1,n1,d1,p1,rfl,G9,Gb,Ga⟩;obtain⟨fs,rfl,G1,G2⟩:=G9;have Gd:=hid (Gh.out.trans (Ga.mono Gh.out.size));have G6:n1=ws.length+fs.length+1:=by
  have h1:=Gb.1;rw[z0o]at h1;simp at h1;omega
 obtain⟨gb,GA,hv,GC,GD⟩:=Gb.form oM;injection hv with hv1 hv2 hv3
 subst hv1;have Gz:n1<=d1:=by
  rcases Gb.2 with ⟨_,h0⟩|⟨g',cap',cs,hv',_,_,hle,_⟩
  ·omega
  ·injection hv' with _ _ h3
   omega
 have Gq:(ws.map stI++fs.map Ins.fl++[Ins.fe]).drop m=fs.map Ins.fl++[Ins.fe]:=by
  rw[List.append_assoc,List.drop_append_of_le_length (by simp;omega),List.drop_of_length_le (by simp;omega),List.nil_append]
 have Gg:=y4z (z0d.of_own Gb) m oM;rw[Gq,Nat.zero_add]at Gg;have G7:n1<=300:=oM;have GH:(m:Int)<=(n1:Int):=oM;have GI:(n1:Int)<=(d1:Int):=oM;have GJ:(0:Int)<=(m:Int):=oM;have GK:m<d1:=oM;have GL:¬(d1-m=0):=oM;have GM:(m:Int)<(d1:Int):=oM;have GN:¬(d1=m):=oM;have GO:¬(m=d1):=oM;have Gk:=hid Gg;have Gl:=hid (Gw.out w4 Gd.out);clear Gb Ga Gg Gm hv2 hv3 G6 Gq;go_wp2_with fail
 refine Gl.out.mono ?_;rintro e1 w5⟨B2,n2,Gy,p2,rfl,Gs,Gf,Gc⟩;have Gj:=hid Gs;have Ge:=hid (Gd.out.trans (Gc.mono Gd.out.size));have G4:n2<=400:=by
  have h1:=Gf.1;have h2:=z1m Gj.out;rw[z0o]at h1;simp at h2;omega
 have Gn:=hid (z5p (some (gb,m*3)) B2 (n1-m) (d1-m) n2 Gy (fs.map Ins.fl++[Ins.fe]) p2 w5 ((Gk.out.below Gc).more Gc.size) (z0d.of_own Gf) oM G4);clear Gs Gf Gc Gl Gk;go_wp2_with fail
 refine Gn.out.mono ?_;rintro e1 w6⟨B3,n3,d3,rfl,G8,Gr,Gp⟩;have Gv:=hid Gr;have Gt:=hid (Ge.out.trans (Gp.mono Ge.out.size));clear G8 Gr Gp Gn;go_wp2;go_ret2;exact⟨_,_,_,_,rfl,⟨fs,p2,rfl,G1,G2,Gj.out⟩,z2u Gv.out Ge.out.size,Gt.out⟩
theorem v3r{a L T w S cur}(h:Dev a L T w S cur 0){A m c base p ws ws2}(ho:w.ownsRow base 225 3 (.slice A m c) m (z0h p))(hb:∀k,S k->k<base)(hp:IsFl ws ws2 p)
  (hw1:∀e∈ws,e.1<64*L) (hw2:∀e∈ws2,e.1%8=0/\e.1<64*L/\e.2<18446744073709551616) (hl1:ws.length<=1000) (hl2:ws2.length<=1000) T' (hT:T+(ws.length+1)+(2*ws2.length+1)<=T') (hT':T'<=1000000000) :
  () 46 #[.slice A m c,memV a] w (z0x a L T' w S (wrS cur ws2) 0 ()):=by
 obtain⟨fs,p2,rfl,Gj,Gb,Gf⟩:=hp;obtain⟨Gd,Gi,Ga⟩:=z1k Gf hw2 cur;have Gg:y2n L false (fs.map Ins.fl++[Ins.fe]):=y2m fs false (fun o ho=>by
  obtain⟨e,he,rfl⟩:=Gb.1 o ho;have:=hw1 e he;unfold z1p;omega)
 have Gc:y9b L false (fs.map Ins.fl++[Ins.fe]):=⟨Gg,x0l (ws:=[]) (fs:=fs) (by simp)⟩
 have Gh:runP cur (fs.map Ins.fl++[Ins.fe])=cur:=by rw[z3v,y7h];rfl
 have hm:(fs.map Ins.fl++[Ins.fe]++p2).length=m:=by have:=ho.1;rw[z0o]at this;omega
 have Gk:fs.length+1+p2.length=m:=by rw[<- hm];simp;omega
 refine(z6k h A m c _ (z0d.of_own ho) (z7v ho hb) (z4x Gc Gd) oM oM).mono ?_;rintro e w'⟨he,S',hd,hc,Ge⟩;rw[z3v,Gh,Gi]at hd;exact⟨he,S',hd.more oM oM,hc,Ge⟩
theorem x2g{a L T w S cur}(h:Dev a L T w S cur 0) g s n (hB:Blk w g 258 (z0s a s n)) (hs:s+n<=L) (hn:26<=n) ws (hl:LogU cur s ws) (hw:x8z L s n ws) (hT:T+240<=1000000000) :
  () 191 #[(g,0)] w (z0x a L (T+240) w S (wrS cur [(64*s,0)]) 0 ()):=by
 have hL:L<=4096:=by obtain⟨ls,Gi,Gl,cs,Gk,Gg,Gj⟩:=h;exact Gg.hL
 have Gh:=hw.few;have HP:=hid (z7j h g s n hB hs hn ws hl hw);have HR:Hid (∀(A:Option Addr)(m c:Nat)(p:List Ins)(w1:World),IsFl ws [(64*s,0)] p->w1.ownsRow w.heap.size 225 3 (.slice A m c) m (z0h p)->Blw w w1 ->
   () 46 #[.slice A m c,memV a] w1 (z0x a L (T+240) w S (wrS cur [(64*s,0)]) 0 ())):=fun A m c p w1 hp Ga hb=>by
  refine(v3r (h.below hb) Ga h.lt hp (fun e he=>(hw.off e he).lt) (fun e he=>?_) oM (by simp) (T+240) (by simp;omega) hT).mono ?_
  ·simp at he;subst he;exact⟨by simp;omega,by simp;omega,by simp⟩
  ·intro e w2 h2
   exact z0x.back hb h2
 have Gc:=hid hB;have Gd:Hid (∀w1,Blw w w1->w1.cell? (g,0)=some (memV a)):=fun w1 hb=>(Gc.out.below hb Gc.out.lt).cell 0
 clear h hB hl hs hn hw;unfold memV at*;go_enter Tryz.func191,Tryz.ntmps191
 go_wp2_with fail
 refine HP.out.mono ?_;rintro e w1⟨A1,m1,c1,p1,rfl,Gf,Ga,Gb⟩;have Ge:=hid (HR.out A1 m1 c1 p1 w1 Gf Ga Gb);have d0:=Gd.out w1 Gb;clear Gf Ga Gb HP HR Gd;go_wp2_with fail
 refine Ge.out.mono ?_;rintro e w2⟨rfl,h2⟩;have HZ:=hid h2;clear h2 Ge;go_wp2;go_ret;exact⟨rfl,HZ.out⟩
theorem y7f{a L T w S cur}(h:Dev a L T w S cur 0) g s n (hB:Blk w g 258 (z0s a s n)) (hs:s+n<=L) (hn:26<=n) ws (hl:LogU cur s ws) (hw:x8z L s n ws) (hT:T+240<=1000000000) :
  () 167 #[(g,0)] w (z0x a L (T+240) w S (wrS (wrS cur ws) [(64*s,0)]) 0 ()):=by
 have HP:=hid (x3f h g s n hB hs hn ws hl hw hT);clear h hB hl;go_enter Tryz.func167,Tryz.ntmps167
 go_wp2_with fail
 refine HP.out.mono ?_;rintro e w1⟨rfl,h1⟩;have HZ:=hid h1;clear h1 HP;go_wp2;go_ret;exact⟨rfl,HZ.out⟩
def v4a(w:World)(e:Ending)(w':World):Prop:=∃A' m' c',e=.returned (.slice (some A') m' c')/\Blw w w'
theorem x7d ad n c (p:List Ins) w (h:z0d w w 3 (some ad) n (z0h p)) (h0:0<n) (hn:n<=100000) :
  () 208 #[.slice (some ad) n c] w (v4a w):=by
 have H:=hid h;clear h;have Gd:∀W,(binOp .eql 103 (.slice (some ad) n c) ((),())).run Tryz.prog W=.ok false W:=fun W=>Lib.run_eql_slice_some_nil W _ _ _ Tryz.underlying103
 obtain⟨i0,Gc,Gf,Gg,Gh⟩:=info_parts z8r;have HO:Hid ((w.alloc (.cells #[] 225)).ownsRow w 225 3 (w,0,0,0) 0 []):=World.ownsRow_made w #[] 0 (nL _) (by unfold maxLen;omega) (by simp);go_enter Tryz.func208,Tryz.ntmps208
 go_wp2_with (at_builtin;refine stop ?_)
 unfold Stop;refine z0m _ (.tmp 5) (.tmp 6) 103 rfl rfl w 225 i0 _ 3 24 Tryz.underlying103 Gc Gf Gg Gh rfl oM (w,0,0,0) 0 [] rfl HO.out w (some ad) n c (z0h p) rfl (H.out.alloc (nL _) _) (z6f p) (by unfold maxLen;omega) oM (by simp) ?_;intro A3 n3 c3 w8 hn3 ho3 hg3 hb3;obtain⟨g3,Gb,Ge,_,_⟩:=ho3.form oM;injection Ge with hv4 _ _
 subst hv4;have Ga:=hid (((Below.refl _ w).alloc (nL _) _).trans hb3);clear hn3 ho3 hg3 hb3;go_wp2;go_ret;exact⟨_,_,_,rfl,Ga.out⟩
end
section
open Go.RowKit
theorem y1c{c i j}(h:offB c i=offB c j):i=j:=by
 rcases Nat.lt_trichotomy i j with h1|h1|h1
 ·have:=y6x (c:=c) h1;omega
 ·exact h1
 ·have:=y6x (c:=c) h1;omega
theorem z2y c i:8<=offB c i:=by unfold offB;omega
def fmtB(ln cl g k:Nat):List (Nat×Nat):=(List.range k).map fun i=>(64*ln+8*offB cl i,BK.w ⟨g,0,176⟩)
def fmtZ(ln k:Nat):List (Nat×Nat):=(List.range k).map fun j=>(64*ln+8*(j+1),0)
def fmtW(ln cl g:Nat):List (Nat×Nat):=fmtB ln cl g (perC cl)++fmtZ ln 7
theorem w0v ln cl g k:fmtB ln cl g (k+1)=fmtB ln cl g k++[(64*ln+8*offB cl k,BK.w ⟨g,0,176⟩)]:=by simp[fmtB,List.range_succ]
theorem w0w ln k:fmtZ ln (k+1)=fmtZ ln k++[(64*ln+8*(k+1),0)]:=by simp[fmtZ,List.range_succ]
theorem x4r{ln cl g k e}(h:e∈fmtB ln cl g k):∃i,i<k/\e=(64*ln+8*offB cl i,BK.w ⟨g,0,176⟩):=by
 unfold fmtB at h;obtain⟨i,hi,rfl⟩:=List.mem_map.1 h;exact⟨i,List.mem_range.1 hi,rfl⟩
theorem x4t{ln k e}(h:e∈fmtZ ln k):∃j,j<k/\e=(64*ln+8*(j+1),0):=by
 unfold fmtZ at h;obtain⟨i,hi,rfl⟩:=List.mem_map.1 h;exact⟨i,List.mem_range.1 hi,rfl⟩
theorem x0e{x}(hx:x<4294967296):z5b x<18446744073709551616:=by
 have h:=Crc.sum_lt (y1g x);unfold z5b;omega
theorem BK.w_lt{b:BK}(h:b.In):b.w<18446744073709551616:=x0e h.x
theorem w1d{cl g}(hc:cl<5)(hg:g<65536):hdrW cl g<18446744073709551616:=x0e (by unfold hdX;omega)
theorem x4s ln cl g:(fmtW ln cl g).length=perC cl+7:=by simp[fmtW,fmtB,fmtZ]
theorem z8n{ln cl g:Nat}(hc:cl<5)(hg:g<65536){e:Nat×Nat}(h:e∈fmtW ln cl g):e.1%8=0/\64*ln<e.1/\e.1<64*ln+2048/\e.2<18446744073709551616:=by
 unfold fmtW at h;rcases List.mem_append.1 h with h|h
 ·obtain⟨i,hi,rfl⟩:=x4r h
  have h1:=off_lt hi;have h2:=z2y cl i;have h3:=z7i cl;exact⟨oM,oM,oM,BK.w_lt ⟨hg,by show(0:Nat)<256;omega,by show(176:Nat)<256;omega⟩⟩
 ·obtain⟨j,hj,rfl⟩:=x4t h
  exact⟨oM,oM,oM,oM⟩
theorem z4e{f:Nat->Nat}:∀{k:Nat},(∀i j,i<k->j<k->f i=f j->i=j)->((List.range k).map f).Nodup
 |0,_=>by simp
 |k+1,h=>by
  rw[List.range_succ,List.map_append,List.nodup_append];refine⟨z4e (fun i j hi hj=>h i j oM oM),by simp,?_⟩;intro x hx y hy e;obtain⟨i,hi,rfl⟩:=List.mem_map.1 hx;simp at hy;have Ga:=List.mem_range.1 hi;have:=h i k oM oM (e.trans hy);omega
theorem x7o(ln cl g:Nat):((fmtW ln cl g).map (·.1)).Nodup:=by
 unfold fmtW fmtB fmtZ;rw[List.map_append,List.map_map,List.map_map,List.nodup_append];refine⟨z4e (fun i j _ _ h=>?_),z4e (fun i j _ _ h=>?_),?_⟩
 ·simp at h;exact y1c (c:=cl) oM
 ·simp at h;omega
 ·intro x hx y hy e
  obtain⟨i,hi,rfl⟩:=List.mem_map.1 hx;obtain⟨j,hj,rfl⟩:=List.mem_map.1 hy;have:=List.mem_range.1 hj;have:=z2y cl i;simp at e;omega
def fmtR(cur:Nat->Nat)(ln cl g:Nat):Nat->Nat:=wrS (wrS cur (fmtW ln cl g)) [(64*ln,hdrW cl g)]
theorem y0z{cur ln cl g i}(hc:cl<5)(hg:g<65536)(h:i<8*ln\/8*ln+256<=i):fmtR cur ln cl g i=cur i:=by
 unfold fmtR;rw[z1s,z1s]
 ·intro e he
  have:=z8n hc hg he;omega
 ·intro e he
  simp at he;subst he;show 64*ln/8≠i;omega
theorem w5j{cur ln cl g}(hc:cl<5)(hg:g<65536)(hb:∀i,cur i<18446744073709551616) i:fmtR cur ln cl g i<18446744073709551616:=by
 unfold fmtR;refine z3k _ _ (z3k _ _ hb (fun e he=>(z8n hc hg he).2.2.2)) (fun e he=>?_) i;simp at he;subst he;exact w1d hc hg
theorem y4g i:z1z 0 i=false:=by simp[z1z]
theorem w9y{cur ln cl g}(hc:cl<5)(h0:0<g)(hg:g<65536):ChW (fmtR cur ln cl g) ln cl g 0 (fun _=>⟨g,0,176⟩):=by
 have hw:∀e∈fmtW ln cl g,fmtR cur ln cl g (e.1/8)=e.2:=fun e he=>by
  unfold fmtR;have hm:=z8n hc hg he;rw[z1s _ _ _ (fun x hx=>by simp at hx;subst hx;show 64*ln/8≠e.1/8;omega)];exact z5s _ _ (x7o ln cl g) (fun x hx=>(z8n hc hg hx).1) e he
 have hz:∀j,j<7->fmtR cur ln cl g (8*ln+(j+1))=0:=fun j hj=>by
  have h:=hw (64*ln+8*(j+1),0) (by unfold fmtW;exact List.mem_append.2 (.inr (List.mem_map.2 ⟨j,List.mem_range.2 hj,rfl⟩)));have e:(64*ln+8*(j+1))/8=8*ln+(j+1):=oM;rw[<- e];exact h
 refine⟨?_,hc,h0,hg,?_,oM,?_,?_,?_,?_,?_,Nat.pow_pos oM⟩
 ·have e:8*ln=64*ln/8:=oM
  rw[e];unfold fmtR;show upd _ (64*ln/8) (hdrW cl g) (64*ln/8)=_;simp[upd]
 ·exact hz 0 oM
 ·intro j h2 h8
  have h:=hz (j-1) oM;rw[show j-1+1=j by omega]at h;exact h
 ·intro i hi;exact⟨hg,by show(0:Nat)<256;omega,by show(176:Nat)<256;omega⟩
 ·intro i hi
  have:(g != 0)=true:=by simp;omega
  simp[BK.good,this]
 ·intro i hi
  have h:=hw (64*ln+8*offB cl i,BK.w ⟨g,0,176⟩) (by unfold fmtW;exact List.mem_append.2 (.inl (List.mem_map.2 ⟨i,List.mem_range.2 hi,rfl⟩)));have e:(64*ln+8*offB cl i)/8=8*ln+offB cl i:=oM;rw[<- e];exact h
 ·intro i hi;rw[y4g];rfl
def z8q(ln cl i:Nat):Prop:=(8*ln<=i/\i<8*ln+8)\/∃j,j<perC cl/\i=8*ln+offB cl j
theorem ChW.same{cur cur' ln cl g V bs}(h:ChW cur ln cl g V bs)(he:∀i,z8q ln cl i->cur' i=cur i):ChW cur' ln cl g V bs :=
 {h with
  hdr:=(he _ (.inl ⟨oM,oM⟩)).trans h.hdr
  bits:=(he _ (.inl ⟨oM,oM⟩)).trans h.bits
  zero:=fun j h2 h8=>(he _ (.inl ⟨oM,oM⟩)).trans (h.zero j h2 h8)
  word:=fun i hi=>(he _ (.inr ⟨i,hi,rfl⟩)).trans (h.word i hi) }
theorem y1a{ln cl i}(h:z8q ln cl i):8*ln<=i/\i<8*ln+256:=by
 rcases h with h|⟨j,hj,rfl⟩
 ·omega
 ·have:=off_lt hj;omega
theorem w1c{ln cl i j}(hi:i<perC cl)(hj:j<payW cl):¬z8q ln cl (8*ln+offB cl i+1+j):=by
 intro h;have h8:=z2y cl i;rcases h with h|⟨k,hk,h⟩
 ·omega
 ·rcases Nat.lt_trichotomy i k with h1|h1|h1
  ·have:=y6x (c:=cl) h1;omega
  ·subst h1;omega
  ·have:=y6x (c:=cl) h1;omega
theorem CSok.same{cur cur' ln c}(h:CSok cur ln c)(he:∀i,8*ln<=i->i<8*ln+256->(c.dv=true->z8q ln c.cl i)->cur' i=cur i):CSok cur' ln c:=by
 unfold CSok at*;cases hd:c.dv
 ·rw[hd]at h
  obtain⟨h1,h2,h3⟩:=h;exact⟨(he _ oM oM (fun h=>by rw[hd]at h;cases h)).trans h1,h2,h3⟩
 ·rw[hd]at h
  exact ChW.same h (fun i hi=>he i (y1a hi).1 (y1a hi).2 (fun _=>hi))
def newC(cl g:Nat):CS:=⟨true,cl,g,0,fun _=>⟨g,0,176⟩⟩
theorem v0v{cur ln cl g}(hc:cl<5)(h0:0<g)(hg:g<65536):CSok (fmtR cur ln cl g) ln (newC cl g):=w9y hc h0 hg
end
end Go.Proofs.YtmhbokcccjmfgaaGreatDoor
