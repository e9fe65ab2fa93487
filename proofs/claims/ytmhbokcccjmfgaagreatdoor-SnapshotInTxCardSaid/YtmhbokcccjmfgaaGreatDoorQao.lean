/- part 15 -/
import Derived.Test.YtmhbokcccjmfgaaGreatDoorQan
set_option maxRecDepth 100000
set_option maxHeartbeats 16000000
namespace Go.Proofs.YtmhbokcccjmfgaaGreatDoor
open Go.Lib (hid)
section
open Go.RowKit
theorem y3y{a L T w S cur}(h:Dev a L T w S cur 0)(ht:Tab w)(hg:¬S 2) s n K (hn:32<=n) (hs:s+n<=L) (hK:n/32=K) (hT:T+3*K<=1000000000) :
  () 43 #[memV a,[s],[n]] w (z0x a L (T+3*K) w S (arC cur s K) 0 ()):=by
 have HA:=hid (y2a h ht hg s n K hn hs hK hT);clear h ht;unfold memV at*;go_enter Tryz.func43,Tryz.ntmps43
 go_wp2_with fail
 refine HA.out.mono ?_;rintro e w1⟨rfl,h1⟩;have H1:=hid h1;clear h1;go_wp2;go_ret;exact⟨rfl,H1.out⟩
def z2p(a:DA)(h r:Nat):Array Value:=#[(h,0),(a.th 0,0),(r,0)]
def dirV(d:Nat):Value := .iface 58 (d,0)
theorem y2w p w : (method 585 58 (.pointer p) "Load").run Tryz.prog w=.ok (382,.pointer p) w := by kernel_rfl
theorem z8u p w : (method 585 58 (.pointer p) "Err").run Tryz.prog w=.ok (379,.pointer p) w := by kernel_rfl
theorem w1v p w : (method 585 58 (.pointer p) "Size").run Tryz.prog w=.ok (383,.pointer p) w := by kernel_rfl
section
variable{a:DA}{L T:Nat}{w:World}{S:Fp}{cur:Nat->Nat}{D N:Nat->Prop}{F:Nat}{d g r:Nat}
theorem v0f(h:Dev a L T w S cur F)(hB:Blk w d 292 (z2p a g r)) off v (h8:off%8=0) (hlt:off<64*L) (hv:cur (off/8)=v) :
  () 382 #[(d,0),off] w (fun e w'=>e=.returned v/\w=w'):=by
 have HD:=hid (z2m h off v h8 hlt hv w (Below.refl _ _));have c1:w.cell? (d,1)=some (a.th 0,0):=hB.cell 1;clear h hB;go_enter Tryz.func382,Tryz.ntmps382
 go_wp2_with fail
 refine HD.out.mono ?_;rintro e w1⟨rfl,rfl⟩;go_wp2;go_ret;exact⟨rfl,rfl⟩
theorem errD(h:Dev a L T w S cur F)(hB:Blk w d 292 (z2p a g r)):
  () 379 #[(d,0)] w (fun e w'=>e=.returned ()/\w=w'):=by
 have HD:=hid (z9u h);have c1:w.cell? (d,1)=some (a.th 0,0):=hB.cell 1;clear h hB;go_enter Tryz.func379,Tryz.ntmps379
 go_wp2_with fail
 refine HD.out.mono ?_;rintro e w1⟨rfl,rfl⟩;go_wp2;go_ret;exact⟨rfl,rfl⟩
theorem v4k(h:Dev a L T w S cur F)(hB:Blk w d 292 (z2p a g r)):
  () 383 #[(d,0)] w (fun e w'=>e=.returned (64*L:Nat)/\w=w'):=by
 have HD:=hid (x5m h);rw[show((64*L:Nat):Int)=(L:Int)*64 by omega]at*;have c1:w.cell? (d,1)=some (a.th 0,0):=hB.cell 1;clear h hB;go_enter Tryz.func383,Tryz.ntmps383
 go_wp2_with fail
 refine HD.out.mono ?_;rintro e w1⟨rfl,rfl⟩;go_wp2;go_ret;exact⟨rfl,rfl⟩
end
end
section
open Go.RowKit Go.Maps Go.Sort Go.Shelf
theorem x9p(W:World)(b n:Nat)(D:DataW Unit)(ho:W.ownsMap Tryz.prog 32 z9g b n D)(hn:Maps.size D<=100):
  () 91 #[.func (.func 295) #[] #[(W,())]] (W.alloc (.cells #[.map (some b)] 141)) (RetU (W.alloc (.cells #[.map (some b)] 141)) (fun ys=>ys.Perm (z2w D))) :=
 z7a _ _ (enters_of Tryz.func295 (by kernel_rfl) rfl) (z2w D) (Maps.size D) oM _ (y1p 9 W.heap.size b n D _ (by simp) ((Blk.new W 141 #[.map (some b)]).cell 0) (ho.alloc _) oM)
theorem y7u(w:World)(a b c d:Nat)(x y:Bool)(D:DataW Unit)(n:Nat)(ho:w.ownsMap Tryz.prog 32 z9g a n D)(hsz:Maps.size D<=100):
  () 188 #[stV a b c d x y] w (v2b w D):=by
 obtain⟨i0,Gz,G0,G1,G2⟩:=info_parts z1l;have HK:=hid ho;have Gq:Hid (∀W,Blw w W->() 91 #[.func (.func 295) #[] #[(W,())]] (W.alloc (.cells #[.map (some a)] 141)) (RetU (W.alloc (.cells #[.map (some a)] 141)) (fun ys=>ys.Perm (z2w D)))):=fun W hW=>x9p W a n D ((Chg.of_below (S:=Fp.no) hW).map ho (fun h=>h)) hsz
 clear ho;unfold stV;go_enter Tryz.func188,Tryz.ntmps188
 go_wp2_with (go_at_call 238;refine(y5t _ _).mono ?_;rintro e w1⟨rfl,rfl⟩;refine stop ?_)
 unfold Stop;have Gb:Blw w (w.alloc (.cells #[.map (some a),.map (some b),.map (some c),.map (some d),x,y] 146)):=(Below.refl _ w).alloc (nL _) _;have HS:=hid (Gq.out _ Gb);have Gd:=hid ((Blk.new w 146 #[.map (some a),.map (some b),.map (some c),.map (some d),x,y]).alloc (.cells #[.map (some a)] 141));have Gc:=hid (Gb.alloc Gb.size (.cells #[.map (some a)] 141));have Gi:Hid (w+1<((w.alloc (.cells #[.map (some a),.map (some b),.map (some c),.map (some d),x,y] 146)).alloc (.cells #[.map (some a)] 141)).heap.size):=hid (by simp);rw[World.size_alloc]at HS;clear Gq Gb;generalize (w.alloc (.cells #[.map (some a),.map (some b),.map (some c),.map (some d),x,y] 146)).alloc (.cells #[.map (some a)] 141)=W at*;go_wp2_with fail
 refine HS.out.mono ?_;rintro e W1⟨A,N,c0,ys,rfl,hp,hN,Gu,Ga⟩;have Gp:=hid hp;have HR:=hid (z0d.of_own Gu);have HW:=hid (Gc.out.trans (Ga.mono Gc.out.size));have Ge:=hid (Gd.out.below Ga Gd.out.lt);have Gr:Hid (N=ys.length):=hid hN;have Gw:Hid (w.heap.size<W1.heap.size):=hid (by have:=Gi.out;have:=Ga.size;omega);have Gy:N<=100:=by
  have h1:=hp.length_eq;have h2:(z2w D).length<=100:=by
   obtain⟨es,hD,_,_⟩:=HK.out.entries z1g;rw[hD]at hsz⊢;simpa[z2w,Maps.size] using hsz
  omega
 clear hp Gu Ga HS Gd Gc Gi hN;have Gm:Hid (W1.ownsRow W1 117 2 ((),()) 0 (z0a (chW D (ys.take 0)))):=World.ownsRow_nil _ _ _ _;have Gg:Hid (Blw W1 W1):=hid (Below.refl _ _);go_wp2;go_loopw [3,11] (fun l i wr=>∃(k:Nat)(A:Option Addr)(m c:Nat),k<=N/\i=↑[k]/\l=.slice A m c/\m<=k/\Hid (m=(chW D (ys.take k)).length)/\Hid (wr.ownsRow W1 117 2 (.slice A m c) m (z0a (chW D (ys.take k))))/\Hid (Blw W1 wr)) (fun _ i _=>N-(RowKit.intOf i).toNat)
 case atStart=>exact⟨0,_,_,_,Nat.zero_le _,rfl,rfl,nL _,rfl,Gm,Gg⟩
 case round =>
  clear Gm Gg;obtain⟨k,A1,m,c1,hk,rfl,rfl,G6,Gk,HO,H2⟩:=hrel;have H:=hid (HW.out.trans (H2.out.mono HW.out.size));by_cases hlt:k<N
  ·have Gs:k<ys.length:=by have:=Gr.out;omega
   have G7:(k:Int)<(N:Int):=oM;obtain⟨_,b0,G8,rfl,G3,f1⟩:=z4q (HR.out.below H2.out) hlt;have k0:wr.cell? (w,())=some (.map (some a)):=(Ge.out.below H2.out Gw.out).cell 0;have Gt:=w6c ((Chg.of_below (S:=Fp.no) H.out).map HK.out (fun h=>h)) (o:=ys[k]) (v3f HK.out (Gp.out.mem_iff.1 (List.getElem_mem Gs)));have Gf:=hid (w4x D ys k Gs);generalize cAt D ys[k]=z at*;obtain⟨v1,x1,p1⟩:=z;simp only[]at Gt Gf;unfold z2o at Gt;generalize ys[k]=o at*;have Gv:=hid H2.out.size;have G4:∀W:World,(Instr.field 182 (.agg #[v1,x1,p1]) 0).run Tryz.prog W=.ok v1 W:=fun _=>by kernel_rfl
   go_wp2_with (at_builtin;refine stop ?_)
   unfold Stop;have Gx:=hid (z0j wr _ rfl [o,v1] 1 2 117 _ rfl rfl);refine z0m _ (.tmp 15) (.tmp 23) 118 rfl rfl W1 117 i0 _ 2 16 Tryz.underlying118 Gz G0 G1 G2 rfl oM (.slice A1 m c1) m (z0a (chW D (ys.take k))) rfl (HO.out.alloc _) (wr+1) (some (wr,())) 1 1 [o,v1] rfl Gx.out (z2k _ _) (by unfold maxLen;omega) oM (by have:=Gv.out;simp;omega) ?_;intro A3 n3 c3 w8 hn3 ho3 hg3 hb3;have Gn:Hid (w8.ownsRow W1 117 2 (.slice A3 n3 c3) n3 (z0a (chW D (ys.take (k+1))))):=hid (by rw[Gf.out,z1o];exact ho3);have Gh:=hid ((H2.out.alloc H2.out.size _).trans hb3);have b1:n3<=m+1:=oM;have b2:m+1<=n3:=oM;have Gj:Hid (m+1=(chW D (ys.take (k+1))).length):=hid (by rw[Gf.out,List.length_append,<- Gk.out];simp);have Gl:Hid (n3=m+1):=hid oM;clear hn3 ho3 hg3 hb3;go_wp2;go_roundw
   case rel =>
    first
     |exact⟨k+1,_,_,_,oM,by go_num,rfl,oM,hid (Gl.out.trans Gj.out),Gn,Gh⟩
     |(
       repeat apply Exists.intro
       refine⟨?_,rfl⟩;exact⟨k+1,_,_,_,oM,by go_num,rfl,oM,hid (Gl.out.trans Gj.out),Gn,Gh⟩)
   case measure=>simp[RowKit.intOf];omega
  ·have G5:k=N:=oM
   go_wp2;go_ret;have h:=HO.out;have hl:=Gk.out;rw[List.take_of_length_le (by have:=Gr.out;omega)]at h hl;exact⟨ys,Gp.out,_,_,_,rfl,hl,z2u h HW.out.size,H.out⟩
end
section
open Go.RowKit Go.Maps
theorem v0p w : (method 585 374 (.agg #[nmI,unI]) "Encode").run Tryz.prog w=.ok (396,.agg #[nmI,unI]) w := by kernel_rfl
def encP(p:List Nat×Nat):List Nat:=encN p.1++[p.2]
theorem y0x{p}(h:p.1.length<=16):(encP p).length=4:=by
 unfold encP;rw[List.length_append,y0w h];rfl
theorem w2p{p}(h:p.1.length<=16):putW (putW (List.replicate 4 0) 0 (encN p.1)) 3 [p.2]=encP p:=by
 have h3:=y0w h;unfold putW encP;rw[h3];simp only[List.take_zero,List.nil_append,Nat.zero_add];rw[List.take_append,List.take_of_length_le oM,h3,Nat.sub_self,List.take_zero,List.append_nil,List.drop_append,h3];simp[h3]
theorem x8q L xs o:splice L o xs=putW L o xs:=rfl
theorem y3l(w:World){ops rest oo a Q}(hgd:oo.guard=none)(d s:Operand)
  (hop:oo.op=.call { callee := .builtin .copy,args:=#[d,s],argTypes:=#[107,107] })
  (g o n cap cap2:Nat) (A:Option Addr) (L xs:List Nat) (hd:a.eval d=↑(g,o,n,cap)) (hs:a.eval s=.slice A n cap2)
  (hg:Blk w g 32 (uA L)) (hn:xs.length=n) (hfit:o+n<=L.length) (B:Nat) (hr:z0d w B 1 A n (z0g xs)) (w0:World) (hb:Below g w0 w)
  (h:∀w',Blk w' g 32 (uA (putW L o xs))->Below g w0 w'->wpList Tryz.prog ops Q rest (a.put oo.dst (goInt n)) w'):wpList Tryz.prog ops Q (oo::rest) a w:=by
 have Ga:w.heap[g]?=some (.cells (z0g L).toArray 32 (0,0)):=hg;refine wpList_copy_splice hgd d s 107 107 hop 32 Tryz.underlying107 (by kernel_rfl) (some (g,o)) A n cap n cap2 hd hs g o (z0g L) 32 Ga (z0g xs) (by simp[z0g,hn]) (fun h0=>?_) (by simp[z0g,hn];omega) (fun v hv=>by unfold z0g at hv;obtain⟨y,_,rfl⟩:=List.mem_map.1 hv;rfl) g w0 hb (nL _) (fun w' h1 h2=>?_)
 ·refine⟨rfl,?_⟩
  obtain⟨ad,hA,_,hc⟩:=hr.2 (by simp[z0g]at h0;omega);exact⟨ad,hA,hc⟩
 ·have h3:=h1.out
  rw[x5o,x8q]at h3;have h4:=h w' h3 h2;rw[show(z0g xs).length=n by simp[z0g,hn]];exact h4
theorem w2l(p:List Nat×Nat) g o L w (h:Blk w g 32 (uA L)) (ho:o+4<=L.length) (h16:p.1.length<=16) (hb:∀b∈p.1,b<256) :
  () 396 #[.agg #[nmI,unI],.agg #[.string (strN p.1),p.2],.slice (some (g,o)) 4 4] w fun e w'=>e=.returned true/\Blk w' g 32 (uA (putW L o (encP p)))/\Below g w w':=by
 obtain⟨W2,Gg⟩:∃W2,(w.alloc (.cells #[nmI,unI] 374)).alloc (.cells #[.string (strN p.1),p.2] 299)=W2:=⟨_,rfl⟩
 have sz:(w.alloc (.cells #[nmI,unI] 374)).heap.size=w.heap.size+1:=by simp
 have Gy:Blw w W2:=by
  rw[<- Gg];have h1:=(Below.refl w w).alloc (nL _) (.cells #[nmI,unI] 374);exact h1.alloc h1.size _
 have hk:Blk W2 w 374 #[nmI,unI]/\Blk W2 (w.heap.size+1) 299 #[.string (strN p.1),p.2]:=by
  rw[<- Gg];have k1:=Blk.new w 374 #[nmI,unI];have k2:=Blk.new (w.alloc (.cells #[nmI,unI] 374)) 299 #[.string (strN p.1),p.2];rw[sz]at k2;exact⟨k1.alloc _,k2⟩
 have GI:=hid Gg;have Gi:=hid Gy;have HK:=hid hk;have HG:=hid h;have HN:=hid (And.intro ho (And.intro h16 hb));have hm:=v0m;have GL:=v0s;have n0:W2.cell? (w,())=some (.iface 367 (.agg #[])):=hk.1.cell 0;have n1:W2.cell? ⟨w.heap.size,1,none⟩=some (.iface 368 (.agg #[])):=hk.1.cell 1;clear Gg Gy hk h sz;go_enter Tryz.func396,Tryz.ntmps396
 go_upto_region 1 with fail
 rw[GI.out];go_upto_region 4 with (go_at_call 397;refine(z7x W2).mono ?_;rintro e w3⟨rfl,Gz⟩;have Gj:=hid Gz;clear Gz)
 clear n0 n1;have Gc:=x7x 4 (by decide);rw[x2x]at Gc;rw[show((4:Nat):Int)=4 from rfl]at Gc;obtain⟨Z,hZ⟩:∃Z:List Nat,Z=List.replicate 4 0:=⟨_,rfl⟩
 rw[<- hZ]at Gc;have HZ:=hid hZ;clear hZ;obtain⟨W4,Gh⟩:∃W4,w3.alloc (.cells (uA Z) 32)=W4:=⟨_,rfl⟩
 have Gk:Blw W2 W4:=by rw[<- Gh];exact Gj.out.alloc Gj.out.size _
 have G5:Blk W4 w3 32 (uA Z):=by rw[<- Gh];exact Blk.new _ _ _
 have GJ:=hid Gh;have Gp:=hid Gk;have Gt:=hid G5;have n0:W4.cell? (w,())=some (.iface 367 (.agg #[])):=(HK.out.1.below Gk HK.out.1.lt).cell 0;clear Gh Gk G5;go_upto_region 5 with fail
 rw[GJ.out];go_upto_region 6 with (go_at_call 398;refine(z9n _).mono ?_;rintro e w5⟨rfl,Gl⟩;have Gd:=hid (Gp.out.trans (Gl.mono Gp.out.size));have Gu:=hid (Gt.out.below Gl Gt.out.lt);clear Gl)
 have GK:Z.length=4:=by rw[HZ.out];rfl
 have Gn:w.heap.size+1<w3.heap.size:=Nat.lt_of_lt_of_le HK.out.2.lt Gj.out.size;obtain⟨gw,Gb⟩:∃gw,w3.heap.size=gw:=⟨_,rfl⟩
 rw[Gb]at Gn Gu;have Gf:Hid (∀W,Below gw w5 W->W.cell? (w,())=some (.iface 367 (.agg #[]))/\W.cell? ⟨w.heap.size,1,none⟩=some (.iface 368 (.agg #[]))/\W.cell? (w.heap.size+1,())=some (.string (strN p.1))/\W.cell? ⟨w.heap.size+1,1,none⟩=some ↑p.2):=hid (fun W hW=>by
  have k1:=HK.out.1.below Gd.out HK.out.1.lt;have k2:=HK.out.2.below Gd.out HK.out.2.lt;exact⟨(hW.cell (p:=⟨w.heap.size,0,none⟩) (by show w.heap.size<gw;omega)).trans (k1.cell 0),(hW.cell (p:=⟨w.heap.size,1,none⟩) (by show w.heap.size<gw;omega)).trans (k1.cell 1),(hW.cell (p:=⟨w.heap.size+1,0,none⟩) (by show w.heap.size+1<gw;omega)).trans (k2.cell 0),(hW.cell (p:=⟨w.heap.size+1,1,none⟩) (by show w.heap.size+1<gw;omega)).trans (k2.cell 1)⟩)
 have Gs:=hid Gn;have GD:=hid Gb;have Gx:=hid (w2c gw 0 p.1 Z w5.drew Gu.out oM h16 hb);have s0:=Gf.out w5 (Below.refl _ _);clear GK Gn Gb n0;rw[GD.out];go_cut [49]from 25 to 49 (fun v wx=>v=↑false/\Hid (Blk wx gw 32 (uA (encP p)))/\Hid (Below gw w5 wx))
 case first =>
  refine z0e (fun W=>W.cell? (w,())=some (.iface 367 (.agg #[]))/\W.cell? ⟨w.heap.size,1,none⟩=some (.iface 368 (.agg #[]))/\W.cell? (w.heap.size+1,())=some (.string (strN p.1))/\W.cell? ⟨w.heap.size+1,1,none⟩=some ↑p.2) 25 [] [(1,0),(1,1),(1,2),(1,3),(1,4),(1,5),(1,6),(1,7),(1,8),(1,9),(0,10),(1,11),(1,12),(1,13),(1,14),(1,15),(1,16),(1,17),(1,18),(1,19),(1,20),(1,21),(0,22),(1,23),(1,24)] (by kernel_rfl) (by kernel_rfl) s0 ?_;refine tkG (w,()) ?_;refine tkH (.iface 367 (.agg #[])) (fun w' hS=>?_) ?_
  ·obtain⟨s1,s2,s3,s4⟩:=hS
   go_simp
  refine tkG (w.heap.size+1,()) ?_;refine tkH (.string (strN p.1)) (fun w' hS=>?_) ?_
  ·obtain⟨s1,s2,s3,s4⟩:=hS
   go_simp
  refine tkG (.slice (some (gw,())) 4 4) ?_;refine tkG (.int .i64 3) ?_;refine tkG (.int .i64 3) ?_;refine tkG (.slice (some (gw,())) 3 3) ?_;refine tkG (.iface 367 (.agg #[])) ?_;refine tkG (.iface 367 (.agg #[])) ?_;refine z0c (by rfl) ?_;go_wp2_with (go_at_call 390;refine Gx.out.mono ?_;rintro e w6⟨rfl,G6,G0⟩;have Gv:=hid G6;have Gq:Hid (Below gw w5 w6):=hid ((Below.refl gw w5).drew.trans G0);clear G6 G0)
  refine⟨Gf.out w6 Gq.out,?_⟩;have G9:(putW Z 0 (encN p.1)).length=4:=by rw[w7b (by rw[y0w h16,HZ.out];decide),HZ.out];rfl
  have GH:=hid (w3j gw 3 1 p.2 (putW Z 0 (encN p.1)) w6 Gv.out (by rw[G9];decide));clear G9;refine tkG false ?_;refine tkG false ?_;refine tkG (.pointer (some ⟨w.heap.size,1,none⟩)) ?_;refine tkH (.iface 368 (.agg #[])) (fun w' hS=>?_) ?_
  ·obtain⟨s1,s2,s3,s4⟩:=hS
   go_simp
  refine tkG (.pointer (some ⟨w.heap.size+1,1,none⟩)) ?_;refine tkH p.2 (fun w' hS=>?_) ?_
  ·obtain⟨s1,s2,s3,s4⟩:=hS
   go_simp
  refine tkG (.slice (some (gw,())) 4 4) ?_;refine tkG (.int .i64 3) ?_;refine tkG (.slice (some ⟨gw,3,none⟩) 1 1) ?_;refine tkG (.iface 368 (.agg #[])) ?_;refine tkG (.iface 368 (.agg #[])) ?_;refine z0c (by rfl) ?_;go_wp2_with (go_at_call 393;refine GH.out.mono ?_;rintro e w7⟨rfl,G7,G2⟩;have GE:=hid G7;have Ge:Hid (Below gw w5 w7):=hid (Gq.out.trans (G2.toBelow (Nat.le_of_lt Gv.out.lt) (fun k hk=>by have e:k=gw:=hk;omega)));clear G7 G2)
  refine⟨Gf.out w7 Ge.out,?_⟩;refine tkG false ?_;refine tkG false ?_;show wpList _ _ _ _ _ _;simp only[List.drop_succ_cons,List.drop_zero];refine NoPanic.normal ?_;go_wp2_with fail
  go_meet;refine⟨rfl,?_,Ge⟩;have h1:=GE.out;rw[HZ.out,w2p h16]at h1;exact hid h1
 case rest =>
 obtain⟨rfl,GF,Gr⟩:=hcut;clear s0 Gx Gf;have Ga:=HG.out.lt;have Gm:=HG.out.below Gi.out Ga;have G3:=Gm.below Gd.out Gm.lt;have G4:Blk wc g 32 (uA L):=(Gr.out.block g (by have h1:=Gs.out;omega)).trans G3;have G1:Below g w wc:=by
  have h1:=Gs.out;have h2:=Gi.out.size;have h3:=Gd.out.size;exact((Gi.out.trans (Gd.out.mono h2)).mono (Nat.le_of_lt Ga)).trans (Gr.out.mono oM)
 have G8:=y0x h16;have GG:=hid (y1h GF.out);clear Gm G3;have GC:=hid G4;have GA:=hid G1;have Gw:=hid G8;clear G4 G1 G8 Ga;go_wp2_with (refine y3l _ rfl (.tmp 50) (.tmp 51) rfl g o 4 4 4 (some (gw,())) L (encP p) rfl rfl GC.out Gw.out HN.out.1 _ (by have h1:=GG.out;rw[Gw.out]at h1;exact h1) w GA.out ?_;intro W7 hg7 hb7;have GB:=hid hg7;have Ge:=hid hb7;clear hg7 hb7)
 go_ret;exact⟨rfl,GB.out,Ge.out⟩
end
end Go.Proofs.YtmhbokcccjmfgaaGreatDoor
