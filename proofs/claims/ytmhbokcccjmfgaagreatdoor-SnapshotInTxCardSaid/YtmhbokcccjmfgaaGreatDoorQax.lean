/- part 24 -/
import Derived.Test.YtmhbokcccjmfgaaGreatDoorQat
import Derived.Test.YtmhbokcccjmfgaaGreatDoorQaw
set_option maxRecDepth 100000
set_option maxHeartbeats 16000000
namespace Go.Proofs.YtmhbokcccjmfgaaGreatDoor
open Go.Lib (hid)
section
open Go.RowKit Go.Maps
def w8r(w:World)(l:List (List Nat×Nat))(e:Ending)(w':World):Prop:=∃A m c l',e=.returned (.slice A m c)/\y0b l l'/\w'.ownsRow w 195 2 (.slice A m c) m (z0b l')/\Blw w w'
theorem w1f:(Tryz.prog.info? 195).map (fun i=>(i.zero,i.size,i.bytes))=some (some (.agg #[.string ⟨#[]⟩,[()]]),2,24):=by kernel_rfl
section
variable{R:Option (Nat×List (List Nat×Nat))×Nat}{rv sv:Value}{w:World}
theorem y9n(hs:v2o)(h:RdC rv sv w R)(hok:RgOk R)(st:Nat)(l:List (List Nat×Nat))(hR:R.1=some (st,l)):() 101 #[rv,sv] w (w8r w l):=by
 have H:=hid h;clear h;have Gm:l.length<=8:=(hok.some_ _ hR).2.1;obtain⟨R1,c⟩:=R;have G2:R1=some (st,l):=hR;subst G2;have H2:Hid (() 193 #[rv,sv] w fun e w'=>(∃A m c,e=.returned (.tuple #[st,.slice A m c,()])/\m=l.length/\w'.ownsRow w 299 2 (.slice A m c) m (z0b l))/\Blw w w'):=H;have HS:Hid v2o:=hid hs;have Gi:=hid Gm;obtain⟨i0,G0,G3,G4,G5⟩:=info_parts w1f;clear H hok hR Gm hs;go_enter Tryz.func101,Tryz.ntmps101
 go_upto_region 4 with (go_at_call 193;refine H2.out.mono ?_;rintro e w1⟨⟨A1,m1,c1,rfl,Gn,Gp⟩,hb1⟩;have Gc:=hid hb1;have Gd:=hid Gn;have Gt:=hid Gp;clear hb1 Gn Gp)
 have Gj:Hid (w1.ownsRow w1 195 2 ((),()) 0 (z0b (l.take 0))):=World.ownsRow_nil _ _ _ _;have Gg:Hid (Blw w1 w1):=hid (Below.refl _ _);go_loopw [8,20] (fun v i wr=>∃(k:Nat)(A:Option Addr)(c:Nat),k<=m1/\i=↑[k]/\v=.slice A k c/\Hid (wr.ownsRow w1 195 2 (.slice A k c) k (z0b (l.take k)))/\Hid (Blw w1 wr)) (fun _ i _=>m1-(Go.RowKit.intOf i).toNat)
 case atStart=>exact⟨0,_,_,Nat.zero_le _,rfl,rfl,Gj,Gg⟩
 case round =>
  clear Gj Gg;obtain⟨k,A2,c2,hk,rfl,rfl,HO,HB⟩:=hrel;by_cases hlt:k<m1
  ·have G7:m1<=8:=by rw[Gd.out];exact Gi.out
   obtain⟨G1,gb,go,Gz,_,f0,f1⟩:=z2a ((z0d.of_own Gt.out).below HB.out) (k:=k) hlt;subst Gz;have G8:(0:Int)<=(k:Int):=oM;have G9:(k:Int)<(m1:Int):=oM;have G6:k<=8:=oM;have Gx:Hid (z0b (l.take (k+1))=z0b (l.take k)++[.string (strN l[k].1),.int .u64 (l[k].2:Int)]):=hid (by rw[List.take_succ_eq_append_getElem G1,z2t]);generalize l[k]=p at*;obtain⟨W2,Gb⟩:∃W2,wr.alloc (.cells #[.string (strN p.1),p.2] 299)=W2:=⟨_,rfl⟩
   have Gf:Blk W2 wr 299 #[.string (strN p.1),p.2]:=by rw[<- Gb];exact Blk.new _ _ _
   have Ge:Hid (W2.ownsRow w1 195 2 (.slice A2 k c2) k (z0b (l.take k))):=hid (by rw[<- Gb];exact HO.out.alloc _);have Ga:Hid (Blw w1 W2):=hid (by rw[<- Gb];exact HB.out.alloc HB.out.size _);have Gy:=hid Gb;have g0:W2.cell? (wr,())=some (.string (strN p.1)):=Gf.cell 0;have g1:W2.cell? ⟨wr.heap.size,1,none⟩=some ↑p.2:=Gf.cell 1;clear Gb Gf;go_upto_region 6 with fail
   rw[Gy.out];have Gs:=hid Ga.out.size;go_wp2_with (at_builtin;refine stop ?_)
   unfold Stop;have Gu:=hid (z0j W2 _ rfl [.string (strN p.1),p.2] 1 2 195 _ rfl rfl);refine z0m _ (.tmp 24) (.tmp 30) 192 rfl rfl w1 195 i0 _ 2 24 Tryz.underlying192 G0 G3 G4 G5 rfl oM (.slice A2 k c2) k (z0b (l.take k)) rfl (Ge.out.alloc _) (W2+1) (some (W2,())) 1 1 [.string (strN p.1),p.2] rfl Gu.out (fun u hu=>by simp at hu;rcases hu with rfl|rfl<;>rfl) (by unfold maxLen;omega) oM (by have:=Gs.out;simp;omega) ?_;intro A3 n3 c3 w8 hn3 ho3 hg3 hb3;obtain rfl:n3=k+1:=hn3;have Gk:Hid (w8.ownsRow w1 195 2 (.slice A3 (k+1) c3) (k+1) (z0b (l.take (k+1)))):=hid (by rw[Gx.out];exact ho3);have Gh:=hid ((Ga.out.alloc Ga.out.size _).trans hb3);clear ho3 hg3 hb3 g0 g1;go_wp2_with fail
   go_roundw
   case rel =>
    first
     |exact⟨k+1,_,_,oM,by go_num,rfl,Gk,Gh⟩
     |(
       repeat apply Exists.intro
       refine⟨?_,rfl⟩;exact⟨k+1,_,_,oM,by go_num,rfl,Gk,Gh⟩)
   case measure=>simp[Go.RowKit.intOf];omega
  ·obtain rfl:k=m1:=oM
   have ho:=HO.out;rw[List.take_of_length_le (by rw[Gd.out];exact nL _)]at ho;have Gw:=hid (HS.out ho (by rw[Gd.out];have:=Gi.out;omega));clear ho;go_wp2_with (go_at_call 199;refine Gw.out.mono ?_;rintro e w2⟨rfl,l',Gr,Gq,Gl⟩;have Gv:=hid Gr;have Ge:=hid (z2u Gq Gc.out.size);have Ga:=hid (Gc.out.trans ((HB.out.trans Gl).mono Gc.out.size));clear Gr Gq Gl)
   go_ret;exact⟨_,_,_,l',rfl,Gv.out,Ge.out,Ga.out⟩
end
end
section
open Go.RowKit Go.Maps
section
variable{a:DA}{L T s n K:Nat}{x:HA}{cs:Nat->CS}{f:Nat->Option Nat}{N m b0:Nat}{S:Fp}{cur:Nat->Nat}{w:World}{d r:Nat}
def v2d(a:DA)(L T s n K:Nat)(x:HA)(cs:Nat->CS)(f:Nat->Option Nat)(N m b0:Nat)(S:Fp)(cur:Nat->Nat)(w:World)(d r:Nat)(e:Ending)(w':World):Prop :=
 ∃k i S' cs' cur' g,e=.returned (.tuple #[(fptr s cs' 8 k i),(g,0,1,1),()])/\y5k s K cs f cur (z3h 34) cs' cur' k i/\SD a L (T+400) s n K x cs' (updF f (offO s cs' k i) (some (fptr s cs' 8 k i))) (N+1) (m+1) b0 S' cur' w' d r/\Blk w' g 64 #[(fptr s cs' 8 k i)]/\¬sfp S' x g/\Chg (sfp S x) w w'/\Grew S S' w
theorem x0f(h:SD a L T 53 n K x cs f N m b0 S cur w d r)(hN:N<1000000000)(hT:T+400<=1000000000)
  (hcap:(∃k i,Vac 53 K cs f (z3h 34) k i)\/∃k,k<K/\(cs k).dv=false) :
  () 103 #[(58,d,0)] w (v2d a L T 53 n K x cs f N m b0 S cur w d r):=by
 have Gl:=hid (errD h.ds.dev h.dir);have Gk:Hid (∀W,Blw w W->() 376 #[(d,0),.int .i64 34,.int .u8 8] W (v1x a L T 53 n K x cs f N m b0 S cur W d r (z3h 34) 8)):=hid (fun W hW=>v2u (h.below hW) 34 8 oM oM oM oM hN hT hcap);have Gr:=z8u (some (d,0));have Gq:=x7y (some (d,0));have Gt:=x1v (d,0);have Gs:∀(fn:Fn)(first cap:Array Value)(w:World),(Instr.makeFunc fn first cap).run Tryz.prog w=.ok (.func fn first cap) w:=fun _ _ _ _=>rfl
 have Gn:∀W,(binOp .eql 63 (58,d,0) .nilIface).run Tryz.prog W=.ok false W:=fun W=>by rfl
 have Gp:IntKind.i64.wrap 34=34:=by rfl
 clear h hcap;go_enter Tryz.func103,Tryz.ntmps103
 go_upto_region 6 with (go_at_call 379;refine Gl.out.mono ?_;rintro e w1⟨rfl,rfl⟩)
 refine z0e (fun _=>True) 13 [] [(1,0),(1,4),(1,5),(1,6),(0,1),(0,2),(1,3),(0,7),(1,8),(1,9),(1,10),(1,11),(1,12)] (by kernel_rfl) (by kernel_rfl) trivial ?_;refine tkG (58,d,0) ?_;refine tkH (.func (.method "Alloc") #[(58,d,0)] #[]) (fun w' hS => ?_) ?_
 ·go_simp
 refine tkH (.func (.method "Alloc") #[(58,d,0)] #[]) (fun w' hS => ?_) ?_
 ·go_simp
 refine tkG (58,d,0) ?_;refine z0c (by rfl) ?_;go_wp2_with (go_at_call 202;refine(z4b _).mono ?_;rintro e w2⟨rfl,Gh⟩;have Gf:=hid ((Below.refl w w).drew.trans Gh);clear Gh)
 refine⟨trivial,?_⟩;refine z0c (by rfl) ?_;go_wp2_with (go_at_call 203;refine(z5f _).mono ?_;rintro e w3⟨rfl,Gi⟩;have Gd:=hid (Gf.out.trans (Gi.mono Gf.out.size));clear Gi)
 refine⟨trivial,?_⟩;refine tkG (.int .i64 34) ?_;refine z0c (by rfl) ?_;go_wp2_with (go_at_call 376;refine(Gk.out _ Gd.out).mono ?_;rintro e w4⟨k,i,S4,Gg,Ge,rfl,Gj,Gc,Ga,Gb⟩;refine stop ?_)
 unfold Stop;have Gm:=hid (And.intro Gj (And.intro Gc (And.intro ((Chg.of_below Gd.out).trans Ga (fun j hj => .inl hj)) (fun k hk=>(Gb k hk).imp id (fun h=>Nat.le_trans Gd.out.size h)))));obtain⟨q,hq⟩:∃q,fptr 53 Gg 8 k i=q:=⟨_,rfl⟩
 have HQ:=hid hq;rw[hq];clear Gj Gc Ga Gb hq;go_wp2_with fail
 refine⟨trivial,?_⟩;refine tkG (.tuple #[q,()]) ?_;refine tkG q ?_;refine tkG () ?_;refine tkG q ?_;refine tkG () ?_;show wpList _ _ _ _ _ _;simp only[List.drop_succ_cons,List.drop_zero];refine NoPanic.normal ?_;go_wp2_with fail
 go_ret3
 obtain⟨h1,h2,h3,h4⟩:=Gm.out;have hb:Blw w4 (w4.alloc (.cells #[q] 64)):=(Below.refl _ _).alloc (nL _) _;refine⟨k,i,S4,Gg,Ge,w4.heap.size,?_,h1,h2.below hb,?_,v1m h2,h3.trans (Chg.of_below hb) (fun j hj => .inl hj),h4⟩
 ·rw[HQ.out]
  rfl
 ·rw[HQ.out]
  exact Blk.new _ _ _
end
end
section
open Go.RowKit Go.Maps
structure RV where
 v:VV
 B:Option Addr
 nb:Nat
 cb:Nat
 D:Option Addr
 nd:Nat
 cd:Nat
end
section
open Go.RowKit Go.Maps Go.Shelf
def z2x(c:YCX)(i:Nat):Prop:=i<8*c.s1\/8*c.s1+208<=i
theorem x1j{c o}(h:z3e c.L c.s1 26 o):z2x c (o/8):=by
 have:=h.out;have:=h.al;unfold z2x;omega
theorem x9n{c:YCX}{o o':Nat}(h:z3e c.L c.s1 26 o)(h':z3e c.L c.s1 26 o')(e:o/8=o'/8):o=o':=by
 have:=h.al;have:=h'.al;omega
theorem x9m{c cur ws}(h:LogU cur c.s1 ws){i}(hi:z2x c i)(hc:ws.length<=100) v:LogU (upd cur i v) c.s1 ws:=by
 unfold z2x at hi;refine⟨?_,fun j hj=>⟨?_,?_⟩⟩
 ·have:=h.count
  simp only[upd];rw[if_neg oM];exact this
 ·have:=(h.at_ j hj).1
  simp only[upd];rw[if_neg oM];exact this
 ·have:=(h.at_ j hj).2
  simp only[upd];rw[if_neg oM];exact this
theorem w4m{c:YCX}{cur:Nat->Nat}(h:∀i,cur i<18446744073709551616){n:Nat}{os:List Nat}(ho:∀o∈os,o<18446744073709551616)(hn:n+os.length<18446744073709551616)(i:Nat):svC cur (64*c.s1) n os i<18446744073709551616:=by
 unfold svC;split
 ·exact h i
 ·refine z3k _ _ (z3k _ _ h ?_) ?_ i
  ·intro e he
   obtain⟨j,hj,_,x,hx,h1|h1⟩:=z5h (64*c.s1) _ _ e he
   ·obtain⟨o,Ga,rfl⟩:=List.mem_map.1 hx
    rw[h1];exact ho o Ga
   ·obtain⟨o,Ga,rfl⟩:=List.mem_map.1 hx
    rw[h1];exact h _
  ·intro e he
   simp at he;subst he;exact hn
structure z4i(c:YCX)(cur base:Nat->Nat)(D:DataW Unit)(ws:List (Nat×Nat)):Prop where
 map:IsMap D
 log:LogU cur c.s1 ws
 keys:∀o,has D (kU o)=true↔o∈ws.map (·.1)
 nd:(ws.map (·.1)).Nodup
 off:∀e∈ws,z3e c.L c.s1 26 e.1
 old:∀e∈ws,e.2=base (e.1/8)
 cell:∀o,has D (kU o)=true->D.atKey (kU o) (z2g 0 0 false)=z2g (cur (o/8)) (base (o/8)) true
 rest:∀i,z2x c i->has D (kU (8*i))=false->cur i=base i
 bnd:∀i,cur i<18446744073709551616
 bbnd:∀i,base i<18446744073709551616
section
variable{c:YCX}{cur base:Nat->Nat}{D:DataW Unit}{ws:List (Nat×Nat)}
theorem z4i.start(h0:cur (8*c.s1)=0)(hb:∀i,cur i<18446744073709551616):z4i c cur cur (.map []) [] :=
 ⟨⟨_,rfl⟩,LogU.none h0,fun o=>by simp[has],by simp,fun e h=>by simp at h,fun e h=>by simp at h,fun _ h=>by simp[has]at h,fun _ _ _=>rfl,hb,hb⟩
theorem z4i.offD(h:z4i c cur base D ws){o:Nat}(ho:has D (kU o)=true):z3e c.L c.s1 26 o:=by
 obtain⟨e,he,rfl⟩:=List.mem_map.1 ((h.keys o).1 ho);exact h.off e he
theorem z4i.allIn(h:z4i c cur base D ws):∀o,has D (kU o)=true->(cAt D o).2.2=true:=fun o ho=>by
 unfold cAt;rw[h.cell o ho,y6d]
theorem z4i.val(h:z4i c cur base D ws):∀e∈ws,e.2<18446744073709551616:=fun e he=>by rw[h.old e he];exact h.bbnd _
theorem z4i.put_new(h:z4i c cur base D ws){o v:Nat}(ho:z3e c.L c.s1 26 o)(hD:has D (kU o)=false)(hv:v<18446744073709551616)(hc:ws.length+1<=100):
  z4i c (upd (svC cur (64*c.s1) ws.length [o]) (o/8) v) base (D.put (kU o) (z2g v (cur (o/8)) true)) (ws++[(o,cur (o/8))]):=by
 have Gc:=(x1j ho)
 have Gb:cur (o/8)=base (o/8):=h.rest _ Gc (by rw[show 8*(o/8)=o by have:=ho.al;omega];exact hD);have Gf:o∉ws.map (·.1):=fun hm=>by rw[(h.keys o).2 hm]at hD;cases hD
 have Ge:∀i,z2x c i->svC cur (64*c.s1) ws.length [o] i=cur i:=fun i hi=>v1o (s:=c.s1) (by unfold z2x at hi;simp;omega)
 have hl:LogU (svC cur (64*c.s1) ws.length [o]) c.s1 (ws++frW cur [o]):=y9p h.log [o];refine⟨h.map.put _ _,?_,fun x=>?_,?_,?_,?_,fun x hx=>?_,fun i hi hx=>?_,?_,h.bbnd⟩
 ·exact x9m hl Gc (by simp[frW];omega) v
 ·by_cases e:x=o
  ·subst e
   rw[has_put_same h.map (z4z x)];simp
  ·rw[has_put_other (z7f e),h.keys x]
   simp[e]
 ·rw[List.map_append,List.nodup_append]
  exact⟨h.nd,by simp,fun a ha b hb=>by simp at hb;subst hb;exact fun e=>Gf (e▸ha)⟩
 ·intro e he
  rcases List.mem_append.1 he with he|he
  ·exact h.off e he
  ·simp at he;subst he;exact ho
 ·intro e he
  rcases List.mem_append.1 he with he|he
  ·exact h.old e he
  ·simp at he;subst he;exact Gb
 ·by_cases e:x=o
  ·subst e
   rw[atKey_put_same h.map (z4z x),Gb];simp[upd]
  ·rw[has_put_other (z7f e)]at hx
   have Gd:=h.offD hx;have Ga:x/8≠o/8:=fun e'=>e (x9n Gd ho e')
   rw[atKey_put_other (z7f e),h.cell x hx];simp only[upd];rw[if_neg Ga,Ge _ (x1j Gd)]
 ·by_cases e:8*i=o
  ·rw[e,has_put_same h.map (z4z o)]at hx;cases hx
  ·rw[has_put_other (z7f e)]at hx
   have Ga:i≠o/8:=by have:=ho.al;omega
   simp only[upd];rw[if_neg Ga,Ge i hi];exact h.rest i hi hx
 ·exact w3l (w4m h.bnd (fun x hx=>by simp at hx;subst hx;have:=ho.lt;have:=c.hpl;omega) (by simp;omega)) hv _
theorem z4i.put_old(h:z4i c cur base D ws){o v:Nat}(hD:has D (kU o)=true)(hv:v<18446744073709551616)(hc:ws.length<=100):
  z4i c (upd cur (o/8) v) base (D.put (kU o) (z2g v (base (o/8)) true)) ws:=by
 have ho:=h.offD hD;have Gb:=(x1j ho)
 refine⟨h.map.put _ _,x9m h.log Gb hc v,fun x=>?_,h.nd,h.off,h.old,fun x hx=>?_,fun i hi hx=>?_,w3l h.bnd hv _,h.bbnd⟩
 ·by_cases e:x=o
  ·subst e
   rw[has_put_same h.map (z4z x)];simpa using (h.keys x).1 hD
  ·rw[has_put_other (z7f e),h.keys x]
 ·by_cases e:x=o
  ·subst e
   rw[atKey_put_same h.map (z4z x)];simp[upd]
  ·rw[has_put_other (z7f e)]at hx
   have Gc:=h.offD hx;have Ga:x/8≠o/8:=fun e'=>e (x9n Gc ho e')
   rw[atKey_put_other (z7f e),h.cell x hx];simp only[upd];rw[if_neg Ga]
 ·by_cases e:8*i=o
  ·rw[e,has_put_same h.map (z4z o)]at hx;cases hx
  ·rw[has_put_other (z7f e)]at hx
   have Ga:i≠o/8:=by have:=ho.al;omega
   simp only[upd];rw[if_neg Ga];exact h.rest i hi hx
theorem z4i.back(h:z4i c cur base D ws){i}(hi:z2x c i):YrbC c.s1 cur ws i=base i:=by
 unfold YrbC;by_cases h0:ws=[]
 ·rw[if_pos h0]
  refine h.rest i hi ?_;cases hh:has D (kU (8*i))with
  |false=>rfl
  |true=>have:=(h.keys _).1 hh;rw[h0]at this;simp at this
 ·rw[if_neg h0]
  have h1:wrS (wrS cur ws) [(64*c.s1,0)] i=wrS cur ws i:=z1s _ _ _ (fun e he=>by simp at he;subst he;unfold z2x at hi;show 64*c.s1/8≠i;omega);rw[h1];cases hh:has D (kU (8*i))with
  |false =>
   rw[z1s ws cur i (fun e he hc=>by
    have hk:has D (kU e.1)=true:=(h.keys _).2 (List.mem_map.2 ⟨e,he,rfl⟩);have:e.1=8*i:=by have:=(h.off e he).al;omega
    rw[this,hh]at hk;cases hk)]
   exact h.rest i hi hh
  |true =>
   obtain⟨e,he,Ga⟩:=List.mem_map.1 ((h.keys _).1 hh);have:=z5s ws cur h.nd (fun e he=>(h.off e he).al) e he;rw[show e.1/8=i by omega]at this;rw[this,h.old e he];congr 1;omega
theorem z4i.rbnd(h:z4i c cur base D ws) i:YrbC c.s1 cur ws i<18446744073709551616:=by
 unfold YrbC;split
 ·exact h.bnd i
 ·exact z3k _ _ (z3k _ _ h.bnd h.val) (fun e he=>by simp at he;subst he;omega) i
end
end
section
open Go.RowKit Go.Maps Go.Sort Go.Shelf
def x3y(c:YCX)(g:Nat)(w:World)(S:Fp)(t:TX)(D:DataW Unit)(n:Nat)(cur:Nat->Nat)(T:Nat)(v:Value)(e:Ending)(w':World):Prop:=e=.returned v/\YStI c g w w' S t D n cur T
def v2q(D:DataW Unit):Prop:=∀o,has D (kU o)=true->(cAt D o).2.2=true
theorem x0z{c g w S t D n cur T}(h:YTxS c g w S t D n cur T)(hmode:t.mode=2)(hpl:v2q D){ws}(hl:LogU cur c.s1 ws)(hw:x0w c ws)(hT:T<=1000000)(hcv:∀i,cur i<18446744073709551616):
  () 94 #[(g,0),((),())] w (x3y c g w S t D n (YcmC c.s1 cur ws) (T+480) ()):=by
 have c7:w.cell? (g,7)=some (.int .u8 2):=(h.tx.cell 7).trans (by simp[z1c,hmode]);have c0:w.cell? (g,0)=some (.map (some t.words)):=h.tx.cell 0;have HM:=hid h.maps.words;have HX:=hid h;have Gs:=h.base;clear h;go_enter Tryz.func94,Tryz.ntmps94
 go_wp2_with (first
  |(at_range;refine wpList_range_own _ rfl _ 141 rfl 32 182 z1g Tryz.underlying141 _ t.words n D rfl HM.out ?_;intro w0 hrg0 hg0 hs0;have Gl:=hid hrg0;have Gg:=hid ((Below.refl _ w).grown hg0 (nL _) (fun k e=>by cases e));clear hrg0 hg0 hs0)
  |go_in)
 go_frame
 go_loopw [6] (fun _ wr=>∃(Ge:Lit->Bool)(Gr:Nat),Hid (wr.ranges Tryz.prog 32 z9g t.words w.heap.size n D Ge Gr)/\Hid (Blw w wr)) (fun _ wr=>wr.rangeLeft t.words w.heap.size)
 case atStart=>exact⟨_,_,Gl,Gg⟩
 case round =>
  clear Gl Gg;obtain⟨Ge,Gr,HR,HB⟩:=hrel;go_wp2_with (first
   |(at_next;refine wpList_next_ranges _ rfl _ rfl 32 z1g z9g encW id (fun key kl hk=>by obtain⟨x,hx,_⟩:=z1h Tryz.underlying32 hk;exact⟨x,hx⟩) (fun v _ _=>⟨v,rfl⟩) t.words w.heap.size n _ _ _ rfl HR.out ?_ ?_)
   |go_in)
  ·intro _ _
   have Gp:=hid (HX.out.more_ HB.out);have Gk:=hid (y8b none 0 0 [] wr ⟨rfl,fun h=>absurd h oM⟩ oM);clear HR HM c7 c0;go_wp2_with fail
   refine Gk.out.mono ?_;rintro e W1⟨A,m,c1,ys,rfl,rfl,hm,ho,hb⟩;have G0:m=0:=hm;subst G0;have Gc:=hid (Gp.out.more_ hb);have Gb:=hid (HB.out.trans (hb.mono HB.out.size));have Gn:=hid (x1n Gc.out (y3d Gc.out.base.dev c.x.u c.s1 26 Gc.out.base.sys.u (by have:=c.hpl;omega) (by have:=c.hpl;omega) ws hl (fun e he=>by have:=(hw.off e he).lt;have:=c.hpl;omega) A 0 c1 [] [] (by simp[fr]) (z0d.of_own ho) (fun q hq=>by simp at hq) (by have:=hw.few;simp;omega) oM (by simp) (fun i _=>hcv i) (by simp;omega)));clear hm ho hb Gk Gp HB;go_wp2_with fail
   refine Gn.out.mono ?_;intro e W2 h2;obtain⟨rfl,Gu⟩:=YStI.step Gc.out (Chg.of_below (S:=S) Gb.out) (Grew.refl _ _) h2;have Gf:=hid Gu;clear h2 Gu Gn Gc Gb;have Gw:svC cur (64*c.s1) ws.length []=cur:=by simp[svC]
   rw[Gw]at Gf;obtain⟨S2,Ga,Gt,Gd⟩:=Gf.out;have k6:W2.cell? (g,6)=some (c.x.m,0):=Ga.tx.cell 6;have k2:W2.cell? (c.x.m,2)=some (c.x.u,0):=Ga.base.sys.m.cell 2;have Gi:=hid (y7w Ga.base.dev c.x.u Ga.base.sys.u ws hl hw (by simp;omega));have Gq:=hid Ga;have Gh:=hid Gt;have Gj:=hid Gd;clear Ga Gt Gd Gf Gw;go_wp2_with fail
   refine wp_loop_rounds 1 ?_;rw[rounds_succ];go_wp2_with fail
   refine Gi.out.mono ?_;intro e W3 h3;obtain⟨rfl,Gv⟩:=YStI.step Gq.out Gh.out Gj.out h3;have Gx:=hid Gv;clear h3 Gv Gi Gq Gh Gj;go_wp2;go_ret;obtain⟨S',hx,hc,hg⟩:=Gx.out;exact⟨rfl,S',hx.moreT (by simp) oM,hc,hg⟩
  ·intro x c1 kl yd yp w2 cnt2 hkey hlk hv hat hrg2 hlt Gd hs2 hen
   obtain⟨x',ex,rfl,_⟩:=z1h Tryz.underlying32 hkey;obtain rfl:x=x':=z8l ex;obtain⟨a1,b1,p1,rfl,hz⟩:=y2b hv;have G1:p1=true:=by
    have h1:=hpl x (has_true_of_atKey hat);have h2:D.atKey (kU x) (z2g 0 0 false)=z2g a1 b1 p1:=(hat _).trans (congrArg Prod.fst hz);unfold cAt at h1;rw[h2,y6d]at h1;exact h1
   subst G1;have Gm:=hid hrg2;have Gb:=hid (HB.out.grown Gd HB.out.size (fun k e=>by cases e;exact nL _));have Gy:=hid hlt;have Gz:=hid HR.out.left_eq;unfold z2o at hen;clear hkey hlk hv hat hrg2 hlt Gd hs2 ex hz;go_wp2;go_roundw
   case rel=>exact⟨_,cnt2,hid (Gm.out.alloc _),hid (Gb.out.alloc Gb.out.size _)⟩
   case measure=>rw[(Gm.out.alloc _).left_eq,Gz.out];exact Gy.out
theorem x1c{c g w S t D n cur T}(h:YTxS c g w S t D n cur T)(hmode:t.mode=1)(o:Nat):
  () 113 #[(g,()),o] w fun e w'=>e=.returned (z2o 0 0 false)/\Blw w w':=by
 have c7:(w.alloc (.cells #[[()],[()],false] 182)).cell? ⟨g,7,none⟩=some (.int .u8 1):=((h.tx.alloc _).cell 7).trans (by simp[z1c,hmode]);have HB:Hid (Blw w (w.alloc (.cells #[[()],[()],false] 182))):=hid ((Below.refl _ w).alloc (nL _) _);have Ga:g<w:=h.tx.lt;clear h;go_enter Tryz.func113,Tryz.ntmps113
 go_wp2;refine bodyPost_ret (v:=z2o 0 0 false) (by simp[results,Tryz.results113,go_sem,z2o]) rfl ⟨rfl,HB.out⟩
def x6i(W:World)(b v:Nat):World:=(((W.setCell (b,0) [()]).setCell (b,1) [()]).setCell (b,2) false).setCell (b,0) v
theorem YTxS.put5{c g W S t D n cur T N}(h:YTxS c g W S t D n cur T)(hl:x0x c g t N){b}(hb:N<=b)(hS:¬S b) v:YTxS c g (x6i W b v) S t D n cur T :=
 (((h.other hl hb hS 0 _).other hl hb hS 1 _).other hl hb hS 2 _).other hl hb hS 0 _
theorem x9j{W b}{tt:TypeId}{v1 x1 p1}(h:Blk W b tt #[v1,x1,p1]) v:Blk (x6i W b v) b tt #[v,[()],false] :=
 (((h.set_ 0 [()]).set_ 1 [()]).set_ 2 false).set_ 0 v
theorem x9o W b v:Chg (fun j=>j=b) W (x6i W b v) :=
 ((((Chg.refl (fun j=>j=b) W).setCell (p:=⟨b,0,none⟩) (.inl rfl) _).setCell (p:=⟨b,1,none⟩) (.inl rfl) _).setCell (p:=⟨b,2,none⟩) (.inl rfl) _).setCell (p:=⟨b,0,none⟩) (.inl rfl) _
def w8a(c:YCX)(g:Nat)(w:World)(S:Fp)(t:TX)(D:DataW Unit)(n:Nat)(cur:Nat->Nat)(T:Nat)(e:Ending)(w':World):Prop :=
 e=.returned (.tuple #[])/\YTxS c g w' S t D n cur T/\Chg (fun j=>j=t.words) w w'
theorem y1t{c g w S t D n cur T}(h:YTxS c g w S t D n cur T)(hop:t.open_=true)(hmode:t.mode=1)(o v:Nat)(h8:o%8=0)(hlt:o<64*c.L)(hD:has D (kU o)=false)(hsz:Maps.size D<96)(hn:n<=1000):
  () 34 #[(g,()),o,v] w (w8a c g w S t (D.put (kU o) (z2g v 0 false)) (n+1) cur T):=by
 have Gv:=hid h.lts;have Gk:o<18446744073709551616:=by have:=c.hpl;omega
 have Gq:=hid (z8f h o h8 hlt);have Gn:=hid (z6p h o Gk);have Gy:Hid (∀k,w.heap.size<=k->¬S k):=fun k hk hs=>by have:=h.base.dev.lt _ hs;omega
 obtain⟨v1,x1,p1,Gt,_⟩:=z5a h.maps.words Gk;rw[hD]at Gt;have Gi:Blw w (w.alloc (.cells #[v1,x1,p1] 182)):=(Below.refl _ w).alloc (nL _) _;have Ge:=h.more_ Gi;have Gm:=hid (x1c Ge hmode o);have G4:∀ty,(Builtin.len_ #[141] ty #[.map (some t.words)]).run Tryz.prog (w.alloc (.cells #[v1,x1,p1] 182))=.ok [Maps.size D] (w.alloc (.cells #[v1,x1,p1] 182)):=fun ty=>Ge.maps.words.len Tryz.underlying141 ty
 have G5:decide (96<=(Maps.size D:Int))=false:=dF;have Gl:=hid (Blk.new w 182 #[v1,x1,p1]);have Gs:=hid Ge;have Gg:=hid Gi;have Gz:Hid (w.heap.size<(w.alloc (.cells #[v1,x1,p1] 182)).heap.size):=hid (by simp);have c8:w.cell? ⟨g,8,none⟩=some ↑true:=(h.tx.cell 8).trans (by simp[z1c,hop]);have c0:w.cell? (g,())=some (.map (some t.words)):=h.tx.cell 0;have d0:(w.alloc (.cells #[v1,x1,p1] 182)).cell? (g,())=some (.map (some t.words)):=Ge.tx.cell 0;have G6:g<w.heap.size:=h.tx.lt;clear h Ge Gi hop hmode hD;unfold z2o at Gt;go_enter Tryz.func34,Tryz.ntmps34
 go_wp2_with (first
  |(go_at_call 111;refine Gq.out.mono ?_;rintro e w1⟨rfl,rfl⟩)
  |(go_at_call 112;refine Gn.out.mono ?_;rintro e w1⟨rfl,rfl⟩)
  |(go_at_call 113;refine stop ?_)
  |go_in)
 unfold Stop;refine Gm.out.mono ?_;rintro e W1⟨rfl,Gf⟩;unfold z2o;have Gr:=hid (Gs.out.more_ Gf);have Ga:=hid (Gl.out.below Gf Gz.out);have Gh:=hid (Gg.out.trans (Gf.mono Gg.out.size));have Gx:=hid (Gy.out _ (nL _));clear Gf Gm Gq Gn Gs Gl Gg;have b0:W1.cell? (w,())=some ↑v1:=Ga.out.cell 0;have b1:W1.cell? ⟨w.heap.size,1,none⟩=some ↑x1:=Ga.out.cell 1;have b2:W1.cell? ⟨w.heap.size,2,none⟩=some ↑p1:=Ga.out.cell 2;have z0:W1.frozen? (w,())=false:=Ga.out.frozen 0;have z1:W1.frozen? ⟨w.heap.size,1,none⟩=false:=Ga.out.frozen 1;have z2:W1.frozen? ⟨w.heap.size,2,none⟩=false:=Ga.out.frozen 2;have G0:=hid (Gr.out.put5 Gv.out (nL _) Gx.out v);have Gb:=hid (x9j Ga.out v);have G2:Hid (Chg (fun j=>j=t.words) w (x6i W1 w.heap.size v)):=hid ((Chg.of_below Gh.out).trans ((x9o W1 w.heap.size v).mono (T:=fun j=>w.heap.size<=j) (fun k hk=>by rw[hk];exact nL _)) (fun k hk => .inr hk));have Gp:Hid (x6i W1 w.heap.size v=(((W1.setCell (w,()) [()]).setCell ⟨w.heap.size,1,none⟩ [()]).setCell ⟨w.heap.size,2,none⟩ false).setCell (w,()) v):=hid rfl;go_wp2_with fail
 rw[<- Gp.out];generalize x6i W1 w.heap.size v=W2 at*;clear b0 b1 b2 z0 z1 z2 Gr Ga Gp;have Gc:Hid (YTxS c g W2.drew S t D n cur T):=hid (G0.out.more_ (Below.refl _ _).drew);obtain⟨w3,Gd,Gu,Gj⟩:=Gc.out.maps.words.update z1g Tryz.underlying141 (by unfold maxLen;omega) (keyU Gk) (z6r v 0 false);have G1:=hid (Gc.out.put Gj Gu);have G3:=hid (G2.out.drew.grown Gj (fun g hg => .inl (by cases hg;rfl)));unfold z2o at Gd;rw[show((0:Nat):Int)=0 from rfl]at Gd;clear Gu Gj;have Gw:Hid (W2.drew.cell? (g,())=some (.map (some t.words))/\W2.drew.cell? (w,())=some ↑v/\W2.drew.cell? ⟨w.heap.size,1,none⟩=some ↑[()]/\W2.drew.cell? ⟨w.heap.size,2,none⟩=some ↑false):=hid ⟨Gc.out.tx.cell 0,Gb.out.cell 0,Gb.out.cell 1,Gb.out.cell 2⟩;refine z0f (fun w'=>w'.cell? (g,())=some (.map (some t.words))/\w'.cell? (w,())=some ↑v/\w'.cell? ⟨w.heap.size,1,none⟩=some ↑[()]/\w'.cell? ⟨w.heap.size,2,none⟩=some ↑false) 7 [(true,0),(true,1),(true,2),(true,3),(true,4),(true,5),(true,6)] (by kernel_rfl) (by kernel_rfl) Gw.out ?_;refine tkS (g,()) (fun w' hS=>?_) ?_
 ·go_simp
 refine tkS (g,()) (fun w' hS=>?_) ?_
 ·go_simp
 refine tkS (g,()) (fun w' hS=>?_) ?_
 ·go_simp
 refine tkS (g,()) (fun w' hS=>?_) ?_
 ·go_simp
 refine tkS (.map (some t.words)) (fun w' hS=>?_) ?_
 ·obtain⟨f1,_,_,_⟩:=hS
  go_simp
 refine tkS o (fun w' hS=>?_) ?_
 ·go_simp
 refine tkS (.agg #[v,[()],false]) (fun w' hS=>?_) ?_
 ·obtain⟨_,f1,f2,f3⟩:=hS
  go_simp
 show wpList _ _ _ _ _ _;simp only[List.drop_succ_cons,List.drop_zero];go_wp2;refine NoPanic.normal ?_;go_wp2;go_end0;exact⟨rfl,G1.out,G3.out⟩
theorem y1u{c g w S t D n cur T}(h:YTxS c g w S t D n cur T)(hop:t.open_=true)(o v:Nat)(h8:o%8=0)(hlt:o<64*c.L)(v0:Nat)(hD:has D (kU o)=true)(hat:D.atKey (kU o) (z2g 0 0 false)=z2g v0 0 false)(hn:n<=1000):
  () 34 #[(g,()),o,v] w (w8a c g w S t (D.put (kU o) (z2g v 0 false)) (n+1) cur T):=by
 have Gp:=hid h.lts;have Gf:o<18446744073709551616:=by have:=c.hpl;omega
 have Gh:=hid (z8f h o h8 hlt);have Gg:=hid (z6p h o Gf);have Gr:Hid (∀k,w.heap.size<=k->¬S k):=fun k hk hs=>by have:=h.base.dev.lt _ hs;omega
 obtain⟨v1,x1,p1,Gm,hc⟩:=z5a h.maps.words Gf;rw[hat]at hc;obtain⟨rfl,rfl,rfl⟩:=z8j hc;rw[hD]at Gm;have Gl:Blw w (w.alloc (.cells #[v0,[()],false] 182)):=(Below.refl _ w).alloc (nL _) _;have Gi:=hid (h.more_ Gl);have Gc:=hid (Blk.new w 182 #[v0,[()],false]);have c8:w.cell? ⟨g,8,none⟩=some ↑true:=(h.tx.cell 8).trans (by simp[z1c,hop]);have c0:w.cell? (g,())=some (.map (some t.words)):=h.tx.cell 0;have Gj:=hid (Gi.out.other Gp.out (nL _) (Gr.out _ (nL _)) 0 v);have Ga:Hid (Blk ((w.alloc (.cells #[v0,[()],false] 182)).setCell (w,()) v) w.heap.size 182 #[v,[()],false]):=hid (Gc.out.set_ 0 v);have Gk:(w.alloc (.cells #[v0,[()],false] 182)).setCell (w,()) v=w.alloc (.cells #[v,[()],false] 182):=by simp[go_sem]
 rw[Gk]at Gj Ga;have Gt:Hid (Chg (fun j=>j=t.words) w (w.alloc (.cells #[v,[()],false] 182))):=hid (Chg.of_below ((Below.refl _ w).alloc (nL _) _));have Gv:g<w.heap.size:=h.tx.lt;clear h Gl hop hD hat hc Gk Gc Gi;unfold z2o at Gm;go_enter Tryz.func34,Tryz.ntmps34
 go_wp2_with (first
  |(go_at_call 111;refine Gh.out.mono ?_;rintro e w1⟨rfl,rfl⟩)
  |(go_at_call 112;refine Gg.out.mono ?_;rintro e w1⟨rfl,rfl⟩)
  |go_in)
 generalize w.alloc (.cells #[v,[()],false] 182)=W2 at*;clear Gh Gg;have Gb:Hid (YTxS c g W2.drew S t D n cur T):=hid (Gj.out.more_ (Below.refl _ _).drew);obtain⟨w3,Gd,Gn,Ge⟩:=Gb.out.maps.words.update z1g Tryz.underlying141 (by unfold maxLen;omega) (keyU Gf) (z6r v 0 false);have Gs:=hid (Gb.out.put Ge Gn);have Gu:=hid (Gt.out.drew.grown Ge (fun g hg => .inl (by cases hg;rfl)));unfold z2o at Gd;rw[show((0:Nat):Int)=0 from rfl]at Gd;clear Gn Ge;have Gq:Hid (W2.drew.cell? (g,())=some (.map (some t.words))/\W2.drew.cell? (w,())=some ↑v/\W2.drew.cell? ⟨w.heap.size,1,none⟩=some ↑[()]/\W2.drew.cell? ⟨w.heap.size,2,none⟩=some ↑false):=hid ⟨Gb.out.tx.cell 0,Ga.out.cell 0,Ga.out.cell 1,Ga.out.cell 2⟩;refine z0f (fun w'=>w'.cell? (g,())=some (.map (some t.words))/\w'.cell? (w,())=some ↑v/\w'.cell? ⟨w.heap.size,1,none⟩=some ↑[()]/\w'.cell? ⟨w.heap.size,2,none⟩=some ↑false) 7 [(true,0),(true,1),(true,2),(true,3),(true,4),(true,5),(true,6)] (by kernel_rfl) (by kernel_rfl) Gq.out ?_;refine tkS (g,()) (fun w' hS=>?_) ?_
 ·go_simp
 refine tkS (g,()) (fun w' hS=>?_) ?_
 ·go_simp
 refine tkS (g,()) (fun w' hS=>?_) ?_
 ·go_simp
 refine tkS (g,()) (fun w' hS=>?_) ?_
 ·go_simp
 refine tkS (.map (some t.words)) (fun w' hS=>?_) ?_
 ·obtain⟨f1,_,_,_⟩:=hS
  go_simp
 refine tkS o (fun w' hS=>?_) ?_
 ·go_simp
 refine tkS (.agg #[v,[()],false]) (fun w' hS=>?_) ?_
 ·obtain⟨_,f1,f2,f3⟩:=hS
  go_simp
 show wpList _ _ _ _ _ _;simp only[List.drop_succ_cons,List.drop_zero];go_wp2;refine NoPanic.normal ?_;go_wp2;go_end0;exact⟨rfl,Gs.out,Gu.out⟩
end
section
open Go.RowKit Go.Maps
def z1d(s:ByteArray):List Nat:=s.data.toList.map UInt8.toNat
theorem z5o s:strN (z1d s)=s:=by
 unfold strN z1d;rw[List.map_map];have e:(UInt8.ofNat ∘UInt8.toNat)=id:=by
  funext c
  simp
 rw[e,List.map_id]
theorem y8m s:∀b∈z1d s,b<256:=fun b hb=>by
 obtain⟨c,_,rfl⟩:=List.mem_map.1 hb;exact c.toNat_lt
theorem y4i s:(z1d s).length=s.size:=by
 unfold z1d;rw[List.length_map];rfl
def tkR(s:ByteArray)(R:Option (Nat×List (List Nat×Nat))×Nat):(Nat×Nat)×List (List Nat×Nat):=if nmOk s=false then ((0,15),[])else match R.1 with
 |some q=>if 0<=fndS s 0 q.2 then ((0,6),[])else if q.2.length=8 then ((0,4),[])else ((q.1,0),q.2++[(z1d s,q.1)])
 |none=>((0,R.2),[])
theorem y9w{s}(h:nmOk s=true):s.size<=16:=by
 unfold nmOk at h;simp only[Bool.and_eq_true,decide_eq_true_eq]at h;exact h.2.2
section
variable{sv:Value}{ty:TypeId}{d:Nat}{w w':World}
theorem x5q{R:Option (Nat×List (List Nat×Nat))×Nat}{g:Nat}(h:RdC (g,()) (.iface ty (d,())) w R)(hok:RgOk R)(s:ByteArray)(hs:s.size<=9223372036854775807)(he:(tkR s R).1.2≠0):() 100 #[(g,()),(.iface ty (d,())),.string s] w fun e w'=>e=.returned (.tuple #[[()],.int .i64 ((tkR s R).1.2:Int)])/\Blw w w':=by
 have Gl:∀W,(binOp .eql 63 (.iface ty (d,())) .nilIface).run Tryz.prog W=.ok false W:=fun W=>by rfl
 have H:=hid h;have HV:=hid (fun W=>y3i s hs W);clear h;cases hn:nmOk s with
 |false =>
  have HY:Hid (tkR s R=((0,15),[])):=hid (by unfold tkR;rw[if_pos hn]);rw[hn]at HV;clear hn H hok he;go_enter Tryz.func100,Tryz.ntmps100
  go_wp2_with (go_at_call 196;refine(HV.out _).mono ?_;rintro e w1⟨rfl,rfl⟩)
  go_ret2;rw[HY.out];exact⟨rfl,Below.refl _ _⟩
 |true =>
  rw[hn]at HV;obtain⟨R1,c⟩:=R;rcases R1 with _|⟨st,l⟩
  ·have H2:Hid (() 193 #[(g,()),(.iface ty (d,()))] w fun e w'=>e=.returned (.tuple #[[()],((),()),[c]])/\Blw w w'):=H
   have HY:Hid (tkR s (none,c)=((0,c),[])):=hid (by unfold tkR;rw[if_neg (by rw[hn];decide)]);have hc:c≠0:=hok.none_ rfl;have d0:((c:Int) != 0)=true:=by rw[bne,beq_eq_false_iff_ne.2 oM];rfl
   clear hn H hok he hc;go_enter Tryz.func100,Tryz.ntmps100
   go_wp2_with (first
    |(go_at_call 196;refine(HV.out _).mono ?_;rintro e w1⟨rfl,rfl⟩)
    |(go_at_call 193;refine H2.out.mono ?_;rintro e w1⟨rfl,Ga⟩;have Gb:=hid Ga;clear Ga))
   go_ret2;rw[HY.out];exact⟨rfl,Gb.out⟩
  ·have H2:Hid (() 193 #[(g,()),(.iface ty (d,()))] w fun e w'=>(∃A m c,e=.returned (.tuple #[st,.slice A m c,()])/\m=l.length/\w'.ownsRow w 299 2 (.slice A m c) m (z0b l))/\Blw w w'):=H
   have Gj:Hid (l.length<=8):=hid (hok.some_ (st,l) rfl).2.1;have HY:Hid (tkR s (some (st,l),c)=if 0<=fndS s 0 l then ((0,6),[])else if l.length=8 then ((0,4),[])else ((st,0),l++[(z1d s,st)])):=hid (by unfold tkR;rw[if_neg (by rw[hn];decide)]);have HE:=hid he;generalize tkR s (some (st,l),c)=Y at*;have Gh:=hid (fun (A:Option Addr) (n c':Nat) (W:World) (hr:z0d W W 2 A n (z0b l)) (hn:n<=100000)=>z4w A n c' l s W hr hn);generalize fndS s 0 l=fi at*;clear hn H hok he;go_enter Tryz.func100,Tryz.ntmps100
   by_cases hf:0<=fi
   ·have Gg:Hid (Y=((0,6),[])):=hid (by rw[HY.out,if_pos hf])
    clear HY;go_wp2_with (first
     |(go_at_call 196;refine(HV.out _).mono ?_;rintro e w1⟨rfl,rfl⟩)
     |(go_at_call 193;refine H2.out.mono ?_;rintro e w1⟨⟨A1,m1,c1,rfl,Gi,Gd⟩,Ga⟩;have Gb:=hid Ga;have Gk:=hid Gi;have Gf:=hid Gd;clear Ga Gi Gd)
     |(go_at_call 197;refine(Gh.out A1 m1 c1 w1 (z0d.of_own Gf.out) (by rw[Gk.out];have:=Gj.out;omega)).mono ?_;rintro e w2⟨rfl,Gc⟩;have Ge:=hid (Gb.out.trans (Gc.mono Gb.out.size));clear Gc))
    go_ret2;rw[Gg.out];exact⟨rfl,Ge.out⟩
   ·have h8:l.length=8:=by
     have h1:=HE.out;rw[HY.out,if_neg hf]at h1;by_cases h2:l.length=8
     ·exact h2
     ·rw[if_neg h2]at h1
      exact absurd rfl h1
    have Gg:Hid (Y=((0,4),[])):=hid (by rw[HY.out,if_neg hf,if_pos h8]);have Gm:fi<0:=oM;rw[h8]at H2;clear HY h8 hf;go_wp2_with (first
     |(go_at_call 196;refine(HV.out _).mono ?_;rintro e w1⟨rfl,rfl⟩)
     |(go_at_call 193;refine H2.out.mono ?_;rintro e w1⟨⟨A1,m1,c1,rfl,rfl,Gd⟩,Ga⟩;have Gb:=hid Ga;have Gf:=hid Gd;clear Ga Gd)
     |(go_at_call 197;refine(Gh.out A1 8 c1 w1 (z0d.of_own Gf.out) (by decide)).mono ?_;rintro e w2⟨rfl,Gc⟩;have Ge:=hid (Gb.out.trans (Gc.mono Gb.out.size));clear Gc))
    go_ret2;rw[Gg.out];exact⟨rfl,Ge.out⟩
theorem x5r(P:World->Prop)(g:Nat)(st:Nat)(l:List (List Nat×Nat))(hrd:RdC (g,()) (.iface ty (d,())) w (some (st,l),0))(hok:RgOk (some (st,l),0))(nm:ByteArray)(hnm:nmOk nm=true)(hf:fndS nm 0 l<0)(hl7:l.length≠8)
  (hpb:∀(W:World)(A:Option Addr)(k0 c0:Nat),Blw w W->z0d W W.heap.size 2 A k0 (z0b (l++[(z1d nm,st)]))->k0<=8->(l++[(z1d nm,st)]).length<=8->(∀p∈l++[(z1d nm,st)],p.1.length<=16/\(∀b∈p.1,b<256)/\p.2<18446744073709551616)->() 198 #[(g,()),(.iface ty (d,())),.slice A k0 c0] W fun e w'=>e=.returned ()/\P w') :
  () 100 #[(g,()),(.iface ty (d,())),.string nm] w fun e w'=>e=.returned (.tuple #[st,()])/\P w':=by
 have G0:∀W,(binOp .eql 63 (.iface ty (d,())) .nilIface).run Tryz.prog W=.ok false W:=fun W=>by rfl
 have H2:Hid (() 193 #[(g,()),(.iface ty (d,()))] w fun e w'=>(∃A m c,e=.returned (.tuple #[st,.slice A m c,()])/\m=l.length/\w'.ownsRow w.heap.size 299 2 (.slice A m c) m (z0b l))/\Blw w w'):=hid hrd;have Gr:=y9w hnm;have HV:=hid (fun W=>y3i nm oM W);rw[hnm]at HV;obtain⟨Gq,Gl,Gm,_⟩:=hok.some_ (st,l) rfl;have Gf:st<=4611686018427387903:=Gq;have Ga:l.length<=7:=by
  have:l.length<=8:=Gl;omega
 have Gt:=hid (fun (A:Option Addr) (n c':Nat) (W:World) (hr:z0d W W.heap.size 2 A n (z0b l)) (hn:n<=100000)=>z4w A n c' l nm W hr hn);have Gk:∀p∈l++[(z1d nm,st)],p.1.length<=16/\(∀b∈p.1,b<256)/\p.2<18446744073709551616:=fun p hp=>by
  rcases List.mem_append.1 hp with hp|hp
  ·obtain⟨q1,q2,q3⟩:=Gm p hp
   have q4:p.2<=st:=q3;exact⟨q1,q2,oM⟩
  ·have e:=List.mem_singleton.1 hp
   subst e;exact⟨by rw[y4i];exact Gr,y8m nm,show st<_ by omega⟩
 have Gj:(l++[(z1d nm,st)]).length<=8:=by
  rw[List.length_append];simp;omega
 have Gi:=hid (fun W A k0 c0 hW hr hk0=>hpb W A k0 c0 hW hr hk0 Gj Gk);have Gu:Hid (z0b (l++[(z1d nm,st)])=z0b l++[.string nm,.int .u64 st]):=hid (by rw[z2t,z5o]);generalize z0b (l++[(z1d nm,st)])=its at*;generalize fndS nm 0 l=fi at*;have Gc:=hid Ga;obtain⟨i0,Gz,G1,G2,G3⟩:=info_parts x4y;clear hpb hrd hok Gq Gf Gl hl7 Ga Gm Gk Gj hnm Gr;go_enter Tryz.func100,Tryz.ntmps100
 go_upto_region 10 with (first
  |(go_at_call 196;refine(HV.out _).mono ?_;rintro e w1⟨rfl,rfl⟩)
  |(go_at_call 193;refine H2.out.mono ?_;rintro e w1⟨⟨A1,m1,c1,rfl,Gn,Gp⟩,hb1⟩;have Gg:=hid hb1;have Gd:=hid Gn;have Gh:=hid Gp;clear hb1 Gn Gp)
  |(go_at_call 197;refine(Gt.out A1 m1 c1 w1 (z0d.of_own Gh.out) (by rw[Gd.out];have:=Gc.out;omega)).mono ?_;rintro e w2⟨rfl,Ge⟩;have Gb:=hid (Gg.out.trans (Ge.mono Gg.out.size));have Gv:=hid (z0r Gh.out Ge);clear Ge))
 have d8:((m1:Int)==8)=false:=beq_eq_false_iff_ne.2 (by have:=Gc.out;have:=Gd.out;omega);go_upto_region 12 with fail
 have G4:m1<=7:=by rw[Gd.out];exact Gc.out
 go_wp2_with (at_builtin;refine stop ?_)
 unfold Stop;have Gy:=hid (z0j w2 _ rfl [.string nm,st] 1 2 299 _ rfl rfl);refine z0m _ (.tmp 40) (.tmp 44) 287 rfl rfl w.heap.size 299 i0 _ 2 24 Tryz.underlying287 Gz G1 G2 G3 rfl oM (.slice A1 m1 c1) m1 (z0b l) rfl (Gv.out.alloc _) (w2.heap.size+1) (some (w2,())) 1 1 [.string nm,st] rfl Gy.out (fun u hu=>by simp at hu;rcases hu with rfl|rfl<;>rfl) (by unfold maxLen;omega) oM (by have:=Gb.out.size;simp;omega) ?_;intro A3 n3 c3 w3 hn3 ho3 hg3 hb3;have Gs:=hid ((Gb.out.alloc Gb.out.size _).trans hb3);have Gx:=hid (Gi.out w3 A3 n3 c3 Gs.out (by
  rw[Gu.out];exact z0d.of_own ho3) oM)
 clear hn3 ho3 hg3 hb3 Gi;go_wp2_with (go_at_call 198;refine Gx.out.mono ?_;rintro e w4 h4;have Gw:=hid h4;obtain⟨rfl,q1⟩:=h4;clear q1)
 go_ret2;exact⟨rfl,Gw.out.2⟩
end
section
variable{a:DA}{L T s n K:Nat}{x:HA}{cs:Nat->CS}{f:Nat->Option Nat}{N m b0:Nat}{S:Fp}{cur:Nat->Nat}{w w':World}{d r:Nat}
def v2m(a:DA)(L T s n K:Nat)(x:HA)(cs:Nat->CS)(f:Nat->Option Nat)(N m b0:Nat)(S:Fp)(cur:Nat->Nat)(w:World)(d r:Nat)(us:List (Nat×Nat))(st:Nat)(e:Ending)(w':World):Prop :=
 ∃cm S',e=.returned (.tuple #[st,()])/\cm<18446744073709551616/\SD a L (T+800) s n K x cs f N m b0 S' (rdG 0 cur us cm) w' d r/\Chg (sfp S x) w w'/\Grew S S' w
theorem v1p(h:SD a L T s n K x cs f N m b0 S cur w d r)(hK12:K<=12)(g p:Nat)(hg:Blk w g 202 #[p])(hP:w3r L s K cs p)(st:Nat)(l:List (List Nat×Nat))(hrd:RdC (g,()) (.iface 58 (d,())) w (some (st,l),0))(hok:RgOk (some (st,l),0))(nm:ByteArray)(hnm:nmOk nm=true)(hf:fndS nm 0 l<0)(hl7:l.length≠8)(hT:T+800<=1000000000)(hN:N<=1000000000):
  () 100 #[(g,()),.iface 58 (d,()),.string nm] w (v2m a L T s n K x cs f N m b0 S cur w d r (flW cur (plOf (pOff p+8) (encA (l++[(z1d nm,st)])))) st):=by
 refine(x5r (fun w'=>∃cm S',cm<18446744073709551616/\SD a L (T+800) s n K x cs f N m b0 S' (rdG 0 cur (flW cur (plOf (pOff p+8) (encA (l++[(z1d nm,st)])))) cm) w' d r/\Chg (sfp S x) w w'/\Grew S S' w) g st l hrd hok nm hnm hf hl7 (fun W A k0 c0 hW hr hk0 hDl hDm=>?_)).mono ?_
 ·refine(x5j (h.below hW) hK12 g p (hg.below hW hg.lt) hP.ne hP.al hP.inl hP.le A k0 c0 (l++[(z1d nm,st)]) hr hk0 (fun p hp=>⟨(hDm p hp).1,(hDm p hp).2.1⟩) (hP.uok _ (y0v hDl hDm)) hT hN).mono ?_
  rintro e w'⟨cm,S',q0,q1,q2,q3,q4⟩;exact⟨q0,cm,S',q1,q2,(Chg.of_below hW).trans q3 (fun j hj => .inl hj),fun k hk=>(q4 k hk).imp id (fun h=>Nat.le_trans hW.size h)⟩
 ·rintro e w'⟨he,cm,S',q1,q2,q3,q4⟩
  exact⟨cm,S',he,q1,q2,q3,q4⟩
end
end
section
open Go.RowKit Go.Maps
section
variable{a:DA}{L T n K:Nat}{x:HA}{cs:Nat->CS}{f:Nat->Option Nat}{N m b0:Nat}{S:Fp}{cur:Nat->Nat}{w:World}
theorem w6o(hd:DS a L T 53 n K x cs f N m b0 S cur w){q k i}(h:x5y 53 K cs q 8 k i)(hc:(cs k).cl=4)(hL:64*L<=900000):w3r L 53 K cs q:=by
 have Gc:=(h.at_.inL hd).1;have hl:=h.at_.lines;have Gd:=h.at_.lo;rw[hc]at Gc;have Gb:payW 4=60:=rfl;rw[Gb]at Gc;refine⟨h.nz,hl.2,oM,oM,fun xs hx=>⟨fun e he=>?_,fun e he=>?_,fun e he k' hk' hlk=>?_,?_⟩⟩
 ·obtain⟨j,hj,rfl⟩:=z3l.1 he
  exact⟨by show(pOff q+8+8*j)%8=0;omega,by show pOff q+8+8*j<64*L;omega,.inr (by show 64*0+64*26<=pOff q+8+8*j;omega)⟩
 ·obtain⟨j,hj,rfl⟩:=z3l.1 he
  show xs.getD j 0<_;rw[List.getD_eq_getElem?_getD];cases hg:xs[j]? with
  |none=>exact show(0:Nat)<18446744073709551616 by omega
  |some y=>exact hx y (List.mem_of_getElem? hg)
 ·obtain⟨j,hj,rfl⟩:=z3l.1 he
  have h4:=h.at_.notLook (y:=j+1) (by rw[hc,Gb];omega) hk';have Ga:z4d 53 cs k' ((pOff q+8+8*j)/8):=hlk;rw[show(pOff q+8+8*j)/8=pOff q/8+(j+1) by omega,hl.1]at Ga;exact h4 Ga
 ·unfold plOf
  rw[List.map_map];have e:((fun u:Nat×Nat=>u.1)∘fun j=>(pOff q+8+8*j,xs.getD j 0))=fun j=>pOff q+8+8*j:=rfl
  rw[e];exact(List.nodup_range (n:=33)).map _ (fun a b hab h2=>hab oM)
end
end
section
open Go.RowKit Go.Maps
structure HP where
 a:DA
 T:Nat
 x:HA
 y:WA
 cs:Nat->CS
 f:Nat->Option Nat
 N:Nat
 m:Nat
 b0:Nat
 S:Fp
 cur:Nat->Nat
 A:Option Addr
 n:Nat
 c:Nat
 al:List Nat
theorem w8j{a L T n K x cs f N m b0 S cur w d r}(h:SD a L T 53 n K x cs f N m b0 S cur w d r){i}(hi:sfp S x i):i<w:=by
 rcases hi with e|e
 ·exact h.ds.dev.lt _ e
 ·have h1:=h.lo
  have h2:=h1.pl;have h3:=h1.mr;have h4:=h1.mh;have e':i=x.pl\/i=x.mr\/i=x.mh:=e;omega
section
variable{w0 w w':World}{k gh:Nat}{rl:List RV}{vl:List VV}{z:HP}
variable{dl:Bool}{bl p:List Nat}{wA wB wC wD wE:World}{T1 N1:Nat}{cs1:Nat->CS}{f1:Nat->Option Nat}{S1:Fp}{cur1:Nat->Nat}{al1:List Nat}
variable{st older q:Nat}
end
end
section
open Go.RowKit Go.Maps Go.Shelf
structure z3q(c:YCX)(o:Nat):Prop where
 al:o%8=0
 lt:o<64*c.L
 out:o<64*c.s0\/(64*c.s0+1664<=o/\o<64*c.s1)\/64*c.s1+1664<=o
section
variable{c:YCX}
theorem z3q.u{o}(h:z3q c o):z3e c.L c.s1 26 o:=⟨h.al,h.lt,by have:=h.out;have:=c.hpl;omega⟩
theorem z3q.r{o}(h:z3q c o):z3e c.L c.s0 26 o:=⟨h.al,h.lt,by have:=h.out;have:=c.hpl;omega⟩
def z4j(c:YCX)(i:Nat):Prop:=i<8*c.s0\/(8*c.s0+208<=i/\i<8*c.s1)\/8*c.s1+208<=i
theorem z3q.div{o}(h:z3q c o):z4j c (o/8):=by
 have:=h.out;have:=h.al;unfold z4j;omega
theorem z4j.log{i}(h:z4j c i):z2x c i:=by have:=c.hpl;unfold z4j at h;unfold z2x;omega
end
abbrev YFm:=Nat->Option Nat
def YFm.no:YFm:=fun _=>none
def YFm.put(f:YFm)(o v:Nat):YFm:=fun x=>if x=o then some v else f x
def Yvw(f:YFm)(base:Nat->Nat)(i:Nat):Nat:=(f (8*i)).getD (base i)
def z8c(mode:Nat)(base:Nat->Nat)(o v:Nat):DataW Unit:=z2g v (if mode=2 then base (o/8)else 0) (decide (mode=2))
structure z3t(c:YCX)(mode:Nat)(base:Nat->Nat)(D:DataW Unit)(f:YFm)(k:Nat):Prop where
 tidy:Tidy D
 size:Maps.size D=k
 key:∀o,has D (kU o)=(f o).isSome
 cell:∀o v,f o=some v->D.atKey (kU o) (z2g 0 0 false)=z8c mode base o v
 good:∀o v,f o=some v->z3q c o/\v<18446744073709551616
def y7v(f:YFm)(k o:Nat):Nat:=if (f o).isSome then k else k+1
section
variable{c:YCX}{mode:Nat}{base:Nat->Nat}{D:DataW Unit}{f:YFm}{k:Nat}
theorem z3t.start mode (base:Nat->Nat):z3t c mode base (.map []) YFm.no 0 :=
 ⟨tidy_empty,rfl,fun o=>by simp[has,YFm.no],fun o v h=>by simp[YFm.no]at h,fun o v h=>by simp[YFm.no]at h⟩
theorem z3t.put(h:z3t c mode base D f k){o v}(ho:z3q c o)(hv:v<18446744073709551616):z3t c mode base (D.put (kU o) (z8c mode base o v)) (f.put o v) (y7v f k o):=by
 refine⟨h.tidy.put (z4z o) _,?_,fun x=>?_,fun x u hx=>?_,fun x u hx=>?_⟩
 ·rw[size_put h.tidy,h.key o,h.size]
  unfold y7v;rfl
 ·by_cases e:x=o
  ·subst e
   rw[has_put_same h.tidy.isMap (z4z x)];simp[YFm.put]
  ·rw[has_put_other (z7f e),h.key x]
   simp[YFm.put,e]
 ·by_cases e:x=o
  ·subst e
   simp[YFm.put]at hx;rw[atKey_put_same h.tidy.isMap (z4z x),hx]
  ·simp[YFm.put,e]at hx
   rw[atKey_put_other (z7f e),h.cell x u hx]
 ·by_cases e:x=o
  ·subst e
   simp[YFm.put]at hx;exact⟨ho,hx▸hv⟩
  ·simp[YFm.put,e]at hx
   exact h.good x u hx
theorem z3t.some_(h:z3t c mode base D f k){o}(ho:has D (kU o)=true):∃v,f o=some v:=by
 rw[h.key]at ho;exact Option.isSome_iff_exists.1 ho
theorem z3t.none_(h:z3t c mode base D f k){o}(ho:f o=none):has D (kU o)=false:=by
 rw[h.key,ho];rfl
theorem z3t.hasS(h:z3t c mode base D f k){o v}(ho:f o=some v):has D (kU o)=true:=by
 rw[h.key,ho];rfl
theorem z3t.curU{cur ws}(h:z3t c 2 base D f k)(hu:z4i c cur base D ws){i}(hi:z4j c i):cur i=Yvw f base i:=by
 unfold Yvw;cases hf:f (8*i)with
 |none=>exact hu.rest i hi.log (h.none_ hf)
 |some v =>
  have h1:=h.cell _ _ hf;have h2:=hu.cell _ (h.hasS hf);rw[h1]at h2;unfold z8c at h2;have h3:=(z8j h2).1;rw[h3];show cur i=cur (8*i/8);congr 1;omega
theorem z3t.lenU{cur:Nat->Nat}{ws:List (Nat×Nat)}{w:World}{b n:Nat}(h:z3t c mode base D f k)(hu:z4i c cur base D ws)(ho:w.ownsMap Tryz.prog 32 z9g b n D):ws.length=k:=by
 have hp:(ws.map (·.1)).Perm (z2w D):=(List.perm_ext_iff_of_nodup hu.nd (z5q ho)).2 fun o=>by rw[<- hu.keys,y6p ho]
 have:=hp.length_eq;rw[z7c ho,h.size]at this;simpa using this
end
theorem y5x(cur:Nat->Nat) o v i:wrS cur [(o,v)] i=if i=o/8 then v else cur i:=rfl
section
variable{c:YCX}
theorem w4k{cur ws cm}(hg:∀e∈ws,z3q c e.1)(hn:(ws.map (·.1)).Nodup){e}(he:e∈ws):rdG c.s0 cur ws cm (e.1/8)=e.2:=by
 unfold rdG;have hb:=(hg e he).div;rw[if_neg (fun h=>by rw[h]at he;simp at he),y5x,if_neg (by have:=c.hpl;unfold z4j at hb;omega)];exact z5s ws _ hn (fun x hx=>(hg x hx).al) e he
theorem y8d{cur ws cm}(hl:ws.length<=96){i}(hi:z4j c i\/i=8*c.s1)(ho:∀e∈ws,e.1/8≠i):rdG c.s0 cur ws cm i=cur i:=by
 unfold rdG;split
 ·rfl
 ·have Ga:i<8*c.s0\/8*c.s0+208<=i:=by have:=c.hpl;unfold z4j at hi;omega
  rw[y5x,if_neg oM,z1s ws _ _ ho,y5x,if_neg oM,z6o c.s0 ws 0 i cur oM]
end
section
variable{c:YCX}{base:Nat->Nat}{D:DataW Unit}{f:YFm}{k:Nat}
theorem z3t.chW_mem(h:z3t c 1 base D f k){ks}(hk:∀o,o∈ks↔has D (kU o)=true){e}(he:e∈chW D ks):f e.1=some e.2:=by
 unfold chW at he;obtain⟨o,ho,rfl⟩:=List.mem_map.1 he;obtain⟨v,hv⟩:=h.some_ ((hk o).1 ho);unfold cAt;rw[h.cell o v hv];have h1:z8c 1 base o v=z2g v 0 false:=by simp[z8c]
 rw[h1,y6d];exact hv
theorem y7t(D:DataW Unit) ks:(chW D ks).map (·.1)=ks:=by
 unfold chW;rw[List.map_map];simp[Function.comp_def]
theorem z3t.chW_good(h:z3t c 1 base D f k){ks}(hk:∀o,o∈ks↔has D (kU o)=true){e}(he:e∈chW D ks):z3q c e.1/\e.2<18446744073709551616:=h.good _ _ (h.chW_mem hk he)
theorem z3t.curR(h:z3t c 1 base D f k){ks cm}(hk:∀o,o∈ks↔has D (kU o)=true)(hn:ks.Nodup)(hl:ks.length<=96){i}(hi:z4j c i):rdG c.s0 base (chW D ks) cm i=Yvw f base i:=by
 have Ga:(chW D ks).length<=96:=by have:=congrArg List.length (y7t D ks);simp at this;omega
 have hg:∀e∈chW D ks,z3q c e.1:=fun e he=>(h.chW_good hk he).1
 unfold Yvw;cases hf:f (8*i)with
 |none =>
  refine y8d Ga (.inl hi) fun e he hc=>?_
  have h1:=h.chW_mem hk he;have h2:e.1=8*i:=by have:=(hg e he).al;omega
  rw[h2,hf]at h1;cases h1
 |some v =>
  have h1:8*i∈ks:=(hk _).2 (h.hasS hf);have h2:(8*i,(cAt D (8*i)).1)∈chW D ks:=List.mem_map.2 ⟨_,h1,rfl⟩;have h3:=h.chW_mem hk h2;rw[hf]at h3;have h4:=w4k (cur:=base) (cm:=cm) hg (by rw[y7t];exact hn) h2;rw[show(8*i,(cAt D (8*i)).1).1/8=i by show 8*i/8=i;omega]at h4;rw[h4];injection h3 with h3
  exact h3.symm
end
end
section
open Go.RowKit Go.Maps Go.Sort Go.Shelf
def y8a(t:TX):Int:=if t.outside then 2 else if t.surplus then 9 else 0
theorem y1v{c g w S t D n cur T}(h:YTxS c g w S t D n cur T):
  () 50 #[(g,0)] w fun e w'=>e=.returned [y8a t]/\w=w':=by
 have c6:w.cell? (g,6)=some (c.x.m,0):=h.tx.cell 6;have m0:w.cell? (c.x.m,0)=some (c.a.th 0,0):=h.base.sys.m.cell 0;have c4:w.cell? (g,4)=some ↑t.outside:=h.tx.cell 4;have c5:w.cell? (g,5)=some ↑t.surplus:=h.tx.cell 5;have HE:=hid (z7q h.base.dev (j:=0) oM);clear h;unfold y8a;generalize t.outside=bo at*;generalize t.surplus=bs at*;go_enter Tryz.func50,Tryz.ntmps50
 go_wp2_with fail
 refine HE.out.mono ?_;rintro e w1⟨rfl,rfl⟩;cases bo
 ·cases bs
  ·go_wp2
   go_ret;exact⟨rfl,rfl⟩
  ·go_wp2
   go_ret;exact⟨rfl,rfl⟩
 ·go_wp2
  go_ret;exact⟨rfl,rfl⟩
def YCmS(g m th:Nat)(w':World):Prop:=w'.cell? (g,6)=some (m,0)/\w'.cell? (m,0)=some (th,0)
def YZC(c:YCX)(g:Nat)(S:Fp):Fp:=fun j=>S j\/YZE c g j
def y0q(c:YCX)(g:Nat)(w:World)(S:Fp)(t:TX)(cur:Nat->Nat)(T:Nat)(v:Value)(e:Ending)(w':World):Prop:=∃S',e=.returned v/\YTxE c g w' S' t cur T/\Chg (YZC c g S) w w'/\Grew S S' w
theorem y7y{c g w S t D n cur T T'}(P:(Nat->Nat)->Prop)(h:YTxS c g w S t D n cur T)(hop:t.open_=true)(hout:t.outside=false)(hsur:t.surplus=false)(hsz:Maps.size D<=96)(hT:T<=1000000)
  (hAp:∀S5 W5,YTxS c g W5 S5 t D n cur T->() 94 #[(g,0),((),())] W5 (fun e w'=>∃cur',P cur'/\x3y c g W5 S5 t D n cur' T' () e w')) :
  () 25 #[(g,0)] w (fun e w'=>∃cur',P cur'/\y0q c g w S t cur' T' () e w'):=by
 have c8:w.cell? (g,8)=some ↑true:=(h.tx.cell 8).trans (by simp[z1c,hop]);have HE:=hid (y1v h);have G4:y8a t=0:=by simp[y8a,hout,hsur]
 rw[G4]at HE;have d0:w.cell? (g,0)=some (.map (some t.words)):=h.tx.cell 0;have d1:w.cell? (g,1)=some (.map (some t.inner)):=h.tx.cell 1;have d2:w.cell? (g,2)=some (.map (some t.own)):=h.tx.cell 2;have d3:w.cell? (g,3)=some (.map (some t.freed)):=h.tx.cell 3;have d4:w.cell? (g,4)=some ↑false:=(h.tx.cell 4).trans (by simp[z1c,hout]);have d5:w.cell? (g,5)=some ↑false:=(h.tx.cell 5).trans (by simp[z1c,hsur]);have Gb:=hid (y0c w t.words t.inner t.own t.freed false false true h.maps.own);have GF:=hid hout;have GG:=hid hsur;have HX:=hid h;have GB:=hid hAp;clear h G4 hout hsur hop hAp;unfold stV at Gb;go_enter Tryz.func25,Tryz.ntmps25
 go_wp2_with (first
  |(go_at_call 50;refine HE.out.mono ?_;rintro e w1⟨rfl,rfl⟩)
  |(go_at_call 89;refine stop ?_)
  |go_in)
 unfold Stop;refine Gb.out.mono ?_;rintro e W1⟨rfl,Gn⟩;have Gl:=hid (HX.out.more_ Gn);have Gi:=hid Gn;have Gy:=hid (w9a W1 t.freed Gl.out.maps.freed);have k3:W1.cell? (g,3)=some (.map (some t.freed)):=Gl.out.tx.cell 3;clear Gn c8 d0 d1 d2 d3 d4 d5 Gb HE;go_wp2_with fail
 refine wp_loop_rounds 1 ?_;rw[rounds_succ];go_wp2_with fail
 refine(x2r _ _).mono ?_;rintro e w1⟨rfl,rfl⟩;go_wp2_with fail
 refine Gy.out.mono ?_;rintro e W2⟨⟨A2,c2,rfl⟩,hb2⟩;have Gf:=hid (Gi.out.trans ((((Below.refl _ W1).alloc (nL _) _).trans (hb2.mono (by simp))).mono Gi.out.size));have Gh:=hid (HX.out.more_ Gf.out);have Gt:=hid (y5r Gh.out.base);have k6:W2.cell? (g,6)=some (c.x.m,0):=Gh.out.tx.cell 6;have m3:W2.cell? (c.x.m,3)=some (c.x.h,0):=Gh.out.base.sys.m.cell 3;clear hb2 k3 Gy Gl Gi;go_wp2_with fail
 refine wp_loop_rounds 1 ?_;rw[rounds_succ];go_wp2_with fail
 refine Gt.out.mono ?_;rintro e W3⟨rfl,G1⟩;have Gg:=hid (Gf.out.trans (G1.mono Gf.out.size));have Gc:=hid (HX.out.more_ Gg.out);have j0:W3.cell? (g,0)=some (.map (some t.words)):=Gc.out.tx.cell 0;have Gr:∀ty,(Builtin.len_ #[141] ty #[.map (some t.words)]).run Tryz.prog W3=.ok [Maps.size D] W3:=fun ty=>Gc.out.maps.words.len Tryz.underlying141 ty
 have GN:decide ((96:Int)<(Maps.size D:Int))=false:=dF;clear G1 k6 m3 Gt Gh Gf;go_wp2_with fail
 refine wp_loop_rounds 1 ?_;rw[rounds_succ];go_wp2_with fail
 have Gx:Hid (YCmS g c.x.m (c.a.th 0) W3.drew):=hid (show YCmS g c.x.m (c.a.th 0) W3 from⟨Gc.out.tx.cell 6,Gc.out.base.sys.m.cell 0⟩);refine z0f (YCmS g c.x.m (c.a.th 0)) 10 [(true,0),(true,2),(true,3),(true,4),(true,5),(true,6),(true,7),(true,8),(true,9),(false,1)] (by kernel_rfl) (by kernel_rfl) Gx.out ?_;refine tkS ((),()) (fun w' hS=>?_) ?_
 ·go_simp
 refine tkS (g,0) (fun w' hS=>?_) ?_
 ·go_simp
 refine tkS (g,0) (fun w' hS=>?_) ?_
 ·go_simp
 refine tkS (g,6) (fun w' hS=>?_) ?_
 ·go_simp
 refine tkS (c.x.m,0) (fun w' hS=>?_) ?_
 ·have f1:=hS.1
  go_simp
 refine tkS (c.x.m,0) (fun w' hS=>?_) ?_
 ·go_simp
 refine tkS (c.x.m,0) (fun w' hS=>?_) ?_
 ·go_simp
 refine tkS (c.a.th 0,0) (fun w' hS=>?_) ?_
 ·have f1:=hS.2
  go_simp
 refine tkS (memV c.a) (fun w' hS=>?_) ?_
 ·unfold memV
  go_simp
 have Gz:=hid (x3n none 0 W3.drew);refine z0k (by rfl) ?_;go_wp2_with fail
 refine Gz.out.mono ?_;rintro e W4⟨A4,m4,c4,rfl,rfl,G8,G2⟩;have Ge:Blw W3 W4:=(Below.refl _ W3).drew.trans G2;have Gj:=hid (Gg.out.trans (Ge.mono Gg.out.size));have Gd:=hid (HX.out.more_ Gj.out);have Gw:=hid (x4a Gd.out.base.dev A4 c4 _ G8 Gc.out.base.dev.lt oM);clear G8 G2 Ge Gz Gx Gc Gg j0 Gr;go_wp2_with fail
 refine⟨⟨Gd.out.tx.cell 6,Gd.out.base.sys.m.cell 0⟩,?_⟩;show wpList _ _ _ _ _ _;simp only[List.drop_succ_cons,List.drop_zero];go_wp2_with fail
 refine Gw.out.mono ?_;intro e W5 h5;obtain⟨rfl,G7⟩:=YStI.step Gd.out (Chg.of_below (S:=S) Gj.out) (Grew.refl _ _) h5;have GE:=hid G7;obtain⟨S5,Gs,Gq,G5⟩:=G7;have GH:=hid Gs;have GJ:Hid (Chg (YZC c g S) w W5):=hid (Gq.mono (fun _ h => .inl h));have Gv:=hid Gq;have Gk:=hid G5;have Gu:=hid (GB.out _ _ Gs);clear h5 Gs Gq G5 Gw Gd Gj;go_wp2;refine NoPanic.normal ?_;go_wp2_with fail
 refine Gu.out.mono ?_;rintro e W6⟨cur',hP,rfl,S6,Ga,G3,G6⟩;have HP:=hid hP;clear hP;have G0:=hid Ga;have n0:W6.cell? (g,0)=some (.map (some t.words)):=Ga.tx.cell 0;have n1:W6.cell? (g,1)=some (.map (some t.inner)):=Ga.tx.cell 1;have n2:W6.cell? (g,2)=some (.map (some t.own)):=Ga.tx.cell 2;have n3:W6.cell? (g,3)=some (.map (some t.freed)):=Ga.tx.cell 3;have n4:W6.cell? (g,4)=some ↑false:=(Ga.tx.cell 4).trans (by simp[z1c,GF.out]);have n5:W6.cell? (g,5)=some ↑false:=(Ga.tx.cell 5).trans (by simp[z1c,GG.out]);have Gb:=hid (y0c W6 t.words t.inner t.own t.freed false false false Ga.maps.own);have GK:Hid (Chg (YZC c g S) w W6):=hid (GJ.out.trans (G3.mono (T:=YZC c g _) (fun _ h => .inl h)) (fun k hk=>hk.elim (fun h=>(Gk.out k h).elim (fun h => .inl (.inl h)) .inr) (fun h => .inl (.inr h))));have GD:=hid (Gk.out.trans G6 Gv.out.size);clear Ga G3 G6 Gu GH Gv Gk GE;unfold stV at Gb;go_wp2_with fail
 refine Gb.out.mono ?_;rintro e W7⟨rfl,Gp⟩;have Gm:=hid (G0.out.more_ Gp);have GL:=hid (GK.out.below Gp);have p6:W7.cell? (g,6)=some (c.x.m,0):=Gm.out.tx.cell 6;have p3:W7.cell? (c.x.m,3)=some (c.x.h,0):=Gm.out.base.sys.m.cell 3;have GC:=hid (x9l Gm.out);clear Gp G0 n0 n1 n2 n3 n4 n5 Gb;go_wp2_with fail
 refine wp_loop_rounds 1 ?_;rw[rounds_succ];go_wp2_with (first
  |(go_at_call 96;refine(y8e _ _).mono ?_;rintro e w1⟨rfl,rfl⟩)
  |(go_at_call 86;refine stop ?_))
 unfold Stop;refine GC.out.mono ?_;rintro e W8⟨rfl,G9,GA⟩;have GI:=hid G9;have GM:=hid (GL.out.trans (GA.mono (T:=YZC c g S) (fun _ h => .inr h)) (Grew.refl _ _));clear G9 GA;go_wp2;go_ret;exact⟨cur',HP.out,S6,rfl,GI.out,GM.out,GD.out⟩
end
section
open Go.RowKit Go.Maps
def nmS(p:List Nat×Nat):ByteArray:=strN p.1
theorem z5i s:∀(l:List (List Nat×Nat))(i:Nat),fndS s i l<0↔s∉l.map nmS
 |[],i=>by
  constructor
  ·intro _ h
   cases h
  ·intro _
   exact(by decide:(-1:Int)<0)
 |p::t,i=>by
  have ih:=z5i s t (i+1);unfold fndS;rw[List.map_cons,List.mem_cons];by_cases h:strN p.1=s
  ·rw[if_pos h]
   constructor
   ·intro h1
    omega
   ·intro h1
    exact absurd (Or.inl h.symm) h1
  ·rw[if_neg h,ih]
   constructor
   ·intro h1 h2
    rcases h2 with h2|h2
    ·exact h h2.symm
    ·exact h1 h2
   ·intro h1 h2
    exact h1 (.inr h2)
theorem y6m s:∀(l:List (List Nat×Nat))(i:Nat),¬fndS s i l<0->∃j,∃h:j<l.length,fndS s i l=((i+j:Nat):Int)/\nmS l[j]=s
 |[],i,h=>absurd (by decide:(-1:Int)<0) h
 |p::t,i,h=>by
  unfold fndS at h⊢;by_cases e:strN p.1=s
  ·rw[if_pos e]
   exact⟨0,by simp,rfl,e⟩
  ·rw[if_neg e]at h⊢
   obtain⟨j,hj,h1,h2⟩:=y6m s t (i+1) h;refine⟨j+1,by simpa using hj,?_,h2⟩;rw[h1];omega
theorem x5n st:∀(l pre:List (List Nat×Nat)),sndS st pre l=true↔(∀p∈l,nmOk (nmS p)=true/\p.2<=st)/\(l.map nmS).Nodup/\∀p∈l,nmS p∉pre.map nmS
 |[],pre=>by simp[sndS]
 |x::t,pre=>by
  have ih:=x5n st t (pre++[x]);unfold sndS;rw[Bool.and_eq_true,Bool.and_eq_true,Bool.and_eq_true,decide_eq_true_eq,decide_eq_true_eq,ih,z5i,List.map_cons,List.nodup_cons];constructor
  ·rintro⟨⟨h1,h2,h3⟩,h4,h5,h6⟩
   refine⟨fun p hp=>?_,⟨fun hx=>?_,h5⟩,fun p hp=>?_⟩
   ·rcases List.mem_cons.1 hp with rfl|hp
    ·exact⟨h1,h2⟩
    ·exact h4 p hp
   ·obtain⟨q,hq,he⟩:=List.mem_map.1 hx
    refine h6 q hq ?_;rw[he];simp
   ·rcases List.mem_cons.1 hp with rfl|hp
    ·exact h3
    ·intro h7
     refine h6 p hp ?_;rw[List.map_append];exact List.mem_append.2 (.inl h7)
  ·rintro⟨h1,⟨h2,h3⟩,h4⟩
   refine⟨⟨(h1 x (by simp)).1,(h1 x (by simp)).2,h4 x (by simp)⟩,fun p hp=>h1 p (by simp[hp]),h3,fun p hp hx=>?_⟩;rw[List.map_append]at hx;rcases List.mem_append.1 hx with hx|hx
   ·exact h4 p (by simp[hp]) hx
   ·refine h2 ?_
    have e:nmS p=nmS x:=by simpa using hx
    rw[<- e];exact List.mem_map.2 ⟨p,hp,rfl⟩
structure LOk(st:Nat)(l:List (List Nat×Nat)):Prop where
 top:st<=4611686018427387903
 len:l.length<=8
 nm:∀p∈l,nmOk (nmS p)=true/\p.2<=st
 nd:(l.map nmS).Nodup
 by_:∀p∈l,p.1.length<=16/\∀b∈p.1,b<256
theorem LOk.snd{st l}(h:LOk st l):sndP st l=true:=by
 unfold sndP;rw[Bool.and_eq_true,decide_eq_true_eq];exact⟨h.top,(x5n st l []).2 ⟨h.nm,h.nd,(fun p _ hx=>by cases hx)⟩⟩
theorem LOk.nil:LOk 0 []:=⟨by decide,by decide,(fun p hp=>by cases hp),List.nodup_nil,(fun p hp=>by cases hp)⟩
theorem LOk.next{st l}(h:LOk st l)(hs:st<4611686018427387903):LOk (st+1) l :=
 ⟨oM,h.len,fun p hp=>⟨(h.nm p hp).1,Nat.le_succ_of_le (h.nm p hp).2⟩,h.nd,h.by_⟩
theorem LOk.take{st l}(h:LOk st l){s}(hn:nmOk s=true)(hf:fndS s 0 l<0)(h8:l.length≠8):LOk st (l++[(z1d s,st)]):=by
 have h1:=(z5i s l 0).1 hf;have e:nmS (z1d s,st)=s:=z5o s;refine⟨h.top,?_,fun p hp=>?_,?_,fun p hp=>?_⟩
 ·have h2:=h.len
  rw[List.length_append];show l.length+1<=8;omega
 ·rcases List.mem_append.1 hp with hp|hp
  ·exact h.nm p hp
  ·have e2:=List.mem_singleton.1 hp
   subst e2;exact⟨by rw[e];exact hn,nL _⟩
 ·rw[List.map_append,List.nodup_append]
  refine⟨h.nd,by simp,fun a ha b hb hab=>?_⟩;have e2:b=nmS (z1d s,st):=List.mem_singleton.1 hb;rw[e]at e2;subst hab;rw[e2]at ha;exact h1 ha
 ·rcases List.mem_append.1 hp with hp|hp
  ·exact h.by_ p hp
  ·have e2:=List.mem_singleton.1 hp
   subst e2;exact⟨by show(z1d s).length<=16;rw[y4i];exact y9w hn,y8m s⟩
theorem y4j{s:ByteArray}{l:List (List Nat×Nat)}{j:Nat}(hj:j<l.length)(hf:fndS s 0 l=(j:Int)):(l[j]::z3i s l).Perm l:=by
 obtain⟨t,z,rfl⟩:∃t z,l=t++[z]:=⟨l.dropLast,l.getLast (by intro h;rw[h]at hj;simp at hj),(List.dropLast_concat_getLast _).symm⟩
 have Gb:(t++[z]).length-1=t.length:=by simp
 have Ga:(t++[z]).getD t.length ([],0)=z:=by
  rw[List.getD_eq_getElem?_getD,List.getElem?_append_right (nL _),Nat.sub_self];rfl
 unfold z3i;rw[hf,Int.toNat_natCast,Gb,Ga];rcases Nat.lt_or_ge j t.length with h|h
 ·rw[List.set_append_left _ _ h,List.take_left' (by rw[List.length_set])]
  rw[List.getElem_append_left h];have h1:(t[j]::t.set j z).Perm (z::t):=by
   have h2:t=t.take j++t[j]::t.drop (j+1):=by rw[List.getElem_cons_drop,List.take_append_drop]
   have h3:t.set j z=t.take j++z::t.drop (j+1):=List.set_eq_take_append_cons_drop.trans (by rw[if_pos h]);have h4:(z::t).Perm (z::(t.take j++t[j]::t.drop (j+1))):=by rw[<- h2]
   refine List.Perm.trans ?_ h4.symm;rw[h3];refine((List.perm_middle (a:=z) (l₁:=t.take j) (l₂:=t.drop (j+1))).cons t[j]).trans ?_;refine(List.Perm.swap z t[j] _).trans ?_;exact(List.perm_middle.symm).cons z
  exact h1.trans (List.perm_append_comm (l₁:=[z]) (l₂:=t))
 ·have Gc:j=t.length:=by simp at hj;omega
  subst Gc;rw[List.set_append_right _ _ (nL _),List.take_left' rfl];rw[List.getElem_append_right (nL _)];simp only[Nat.sub_self,List.getElem_cons_zero];exact List.perm_append_comm (l₁:=[z]) (l₂:=t)
theorem LOk.drop{st:Nat}{l:List (List Nat×Nat)}(h:LOk st l){s:ByteArray}(hf:¬fndS s 0 l<0):LOk st (z3i s l):=by
 obtain⟨j,hj,h1,_⟩:=y6m s l 0 hf;rw[Nat.zero_add]at h1;have hp:=y4j hj h1;have hm:∀p∈z3i s l,p∈l:=fun p hp2=>hp.mem_iff.1 (List.mem_cons_of_mem _ hp2)
 have hl:=hp.length_eq;rw[List.length_cons]at hl;refine⟨h.top,by have:=h.len;omega,fun p hp2=>h.nm p (hm p hp2),?_,fun p hp2=>h.by_ p (hm p hp2)⟩;have h2:=(hp.map nmS).nodup_iff.2 h.nd;rw[List.map_cons]at h2;exact(List.nodup_cons.1 h2).2
end
end Go.Proofs.YtmhbokcccjmfgaaGreatDoor
