/- part 7 -/
import Derived.Test.YtmhbokcccjmfgaaGreatDoorQaf
set_option maxRecDepth 100000
set_option maxHeartbeats 16000000
namespace Go.Proofs.YtmhbokcccjmfgaaGreatDoor
open Go.Lib (hid)
section
open Go.RowKit
def z1z(V i:Nat):Bool:=V/2^i%2==1
theorem w0c(V i:Nat)(hV:V<18446744073709551616):(bits .and .u64 ((V:Int)/2^i) 1==1)=z1z V i:=by
 have e:(V:Int)/2^i=((V/2^i:Nat):Int):=by push_cast;rfl
 have h:=Nat.div_le_self V (2^i);rw[e];unfold z1z;generalize V/2^i=y at*;rw[Lib.u64_and1 _ oM oM];have e2:(y:Int)%2=((y%2:Nat):Int):=oM;rw[e2];generalize y%2=x;by_cases h:x=1
 ·subst h;rfl
 ·rw[beq_eq_false_iff_ne.2 h,beq_eq_false_iff_ne];omega
section
variable{a:DA}{L T:Nat}{w:World}{S:Fp}{cur:Nat->Nat}{F:Nat}
theorem y7d(h:Dev a L T w S cur F)(ht:Tab w)(hp:Pay w)(ln cl g V i:Nat)(b:BK)(hb:b.In)(hl:ln+32<=L)(hc:cl<5)(hi:i<perC cl)(hV:V<18446744073709551616)(hv:cur (8*ln+1)=V)(hw:cur (8*ln+offB cl i)=b.w):
  () 231 #[chV a ln cl 0 g,[i]] w fun e w'=>e=.returned (.tuple #[b.v,true,(z1z V i)])/\Blw w w':=by
 obtain⟨_,_,_,_,_,Gw,_⟩:=id h;have hL:=Gw.hL;clear Gw;have ho:=off_lt hi;have G4:=z3b cl;have Gt:=hid (z2m h (64*ln+8*offB cl i) b.w oM oM (by rw[show(64*ln+8*offB cl i)/8=8*ln+offB cl i by omega];exact hw));have Gl:Blw w ((w.alloc (.cells (z0w a ln cl g) 251)).alloc (.cells #[.int .u16 0,.int .u8 0,.int .u8 0] 335)):=((Below.refl _ _).alloc (nL _) _).alloc (by simp) _;have Gi:=hid Gl;have Gs:=hid (y0s (h.below Gl) ln cl g V hl hv);have Gq:Hid (∀W,Blw w W->() 244 #[chV a ln cl 0 g,[i]] W fun e w'=>e=.returned (64*ln+8*offB cl i:Nat)/\Blw W w'):=hid (fun W hW=>z8i ln cl g i oM hc hi W (hp.below hW));have Gu:Hid (∀W,Blw w W->() 282 #[b.w] W fun e w'=>e=.returned (.tuple #[b.v,true])/\Blw W w'):=hid (fun W hW=>y5b b hb W (ht.below hW));have G5:=z3n (a.th 0,());have hm:=z3u (some (a.th 0,()));have HK:=hid ((Blk.new w 251 (z0w a ln cl g)).below ((Below.refl _ (w.alloc (.cells (z0w a ln cl g) 251))).alloc (nL _) (.cells #[.int .u16 0,.int .u8 0,.int .u8 0] 335)) (by simp));have Gv:(w.alloc (.cells (z0w a ln cl g) 251)).heap.size=w.heap.size+1:=by simp
 have Gk:Hid (Blk ((w.alloc (.cells (z0w a ln cl g) 251)).alloc (.cells #[.int .u16 0,.int .u8 0,.int .u8 0] 335)) (w.heap.size+1) 335 #[.int .u16 0,.int .u8 0,.int .u8 0]):=by
  rw[<- Gv];exact Blk.new _ _ _
 clear h hv hw Gl hp ht Gv;have s1:IntKind.u64.wrap (i:Int)=(i:Int):=by rw[IntKind.wrap_u64];omega
 unfold chV BK.v at*;unfold z0w memV at*;have G3:=w0c V i hV;generalize z1z V i=bt at*;generalize 64*ln+8*offB cl i=z at*;generalize offB cl i=ob at*;go_enter Tryz.func231,Tryz.ntmps231
 go_wp2_with fail
 refine Gs.out.mono ?_;rintro e w1⟨rfl,Gh⟩;have G0:=hid (Gi.out.trans (Gh.mono Gi.out.size));have Ga:=hid (HK.out.below Gh HK.out.lt);have Gd:=hid (Gk.out.below Gh Gk.out.lt);have Gr:Hid (Blw w1 w1.drew):=(Below.refl _ _).drew;clear Gh HK Gk Gs Gi;go_wp2_with fail
 have f0:w1.cell? (w,())=some (.iface 57 (a.th 0,())):=Ga.out.cell 0;have f1:w1.cell? ⟨w.heap.size,1,none⟩=some ↑[ln]:=Ga.out.cell 1;have f2:w1.cell? ⟨w.heap.size,2,none⟩=some ↑[cl]:=Ga.out.cell 2;have f3:w1.cell? ⟨w.heap.size,3,none⟩=some ↑():=Ga.out.cell 3;have f4:w1.cell? ⟨w.heap.size,4,none⟩=some ↑#[g]:=Ga.out.cell 4;have Gf:=hid (G0.out.drew);refine z0f (fun w'=>Blk w' w.heap.size 251 #[.iface 57 (a.th 0,()),[ln],[cl],(),#[g]]) 13 [(true,0),(true,1),(true,2),(true,3),(true,5),(true,6),(false,4),(false,7),(false,8),(true,9),(true,10),(true,11),(false,12)] (by kernel_rfl) (by kernel_rfl) Ga.out.drew ?_;refine tkS (w,()) (fun w' hS=>?_) ?_
 ·go_simp
 refine tkS (.iface 57 (a.th 0,())) (fun w' hS=>?_) ?_
 ·have f0:w'.cell? (w,())=some (.iface 57 (a.th 0,())):=hS.cell 0
  go_simp
 refine tkS (.agg #[.iface 57 (a.th 0,()),[ln],[cl],(),#[g]]) (fun w' hS=>?_) ?_
 ·have hk:=hS
  have f0:w'.cell? (w,())=some (.iface 57 (a.th 0,())):=hk.cell 0;have f1:w'.cell? ⟨w.heap.size,1,none⟩=some ↑[ln]:=hk.cell 1;have f2:w'.cell? ⟨w.heap.size,2,none⟩=some ↑[cl]:=hk.cell 2;have f3:w'.cell? ⟨w.heap.size,3,none⟩=some ↑():=hk.cell 3;have f4:w'.cell? ⟨w.heap.size,4,none⟩=some ↑#[g]:=hk.cell 4;go_simp
 refine tkS [i] (fun w' hS=>?_) ?_
 ·go_simp
 refine tkS (.iface 57 (a.th 0,())) (fun w' hS=>?_) ?_
 ·go_simp
 refine tkS (.iface 57 (a.th 0,())) (fun w' hS=>?_) ?_
 ·go_simp
 refine z0k (by rfl) ?_;go_wp2_with fail
 refine(Gq.out _ Gf.out).mono ?_;rintro e w2⟨rfl,Gm⟩;have Ge:=hid (Gr.out.trans (Gm.mono Gr.out.size));have Gg:=hid (Gf.out.trans (Gm.mono Gf.out.size));clear Gm Gq Gf;go_wp2_with fail
 refine⟨Ga.out.below Ge.out Ga.out.lt,?_⟩;refine z0k (by rfl) ?_;go_wp2_with fail
 refine(Gt.out _ Gg.out).mono ?_;rintro e w3⟨rfl,rfl⟩;go_wp2_with fail
 refine⟨Ga.out.below Ge.out Ga.out.lt,?_⟩;refine z0k (by rfl) ?_;go_wp2_with fail
 refine(Gu.out _ Gg.out).mono ?_;rintro e w3⟨rfl,Gn⟩;have Gj:=hid (Ge.out.trans (Gn.mono Ge.out.size));have G1:=hid (Gg.out.trans (Gn.mono Gg.out.size));clear Gn Gu Gt;go_wp2_with fail
 refine⟨Ga.out.below Gj.out Ga.out.lt,?_⟩;refine tkS (.tuple #[.agg #[#[b.gen],[[b.kind]],[[b.st]]],true]) (fun w' hS=>?_) ?_
 ·go_simp
 refine tkS (.agg #[#[b.gen],[[b.kind]],[[b.st]]]) (fun w' hS=>?_) ?_
 ·go_simp
 refine tkS true (fun w' hS=>?_) ?_
 ·go_simp
 refine z0k (by rfl) ?_;have Gb:=Gd.out.below Gj.out Gd.out.lt;have c0:w3.cell? (w.heap.size+1,())=some (.int .u16 0):=Gb.cell 0;have c1:w3.cell? ⟨w.heap.size+1,1,none⟩=some (.int .u8 0):=Gb.cell 1;have c2:w3.cell? ⟨w.heap.size+1,2,none⟩=some (.int .u8 0):=Gb.cell 2;have z0:w3.frozen? (w.heap.size+1,())=false:=Gb.frozen 0;have z1:w3.frozen? ⟨w.heap.size+1,1,none⟩=false:=Gb.frozen 1;have z2:w3.frozen? ⟨w.heap.size+1,2,none⟩=false:=Gb.frozen 2;have Gx:((w.heap.size+1,()):Addr)≠⟨w.heap.size+1,1,none⟩:=by simp
 have Gy:((w.heap.size+1,()):Addr)≠⟨w.heap.size+1,2,none⟩:=by simp
 have Gz:(⟨w.heap.size+1,1,none⟩:Addr)≠⟨w.heap.size+1,2,none⟩:=by simp
 clear f0 f1 f2 f3 f4;go_wp2_with fail
 refine⟨(((Ga.out.below Gj.out Ga.out.lt).far (p:=⟨w.heap.size+1,0,none⟩) (Nat.ne_of_lt (Nat.lt_succ_self _)) _).far (p:=⟨w.heap.size+1,1,none⟩) (Nat.ne_of_lt (Nat.lt_succ_self _)) _).far (p:=⟨w.heap.size+1,2,none⟩) (Nat.ne_of_lt (Nat.lt_succ_self _)) _,?_⟩;show wpList _ _ _ _ _ _;simp only[List.drop_succ_cons,List.drop_zero];go_wp2_with fail
 refine NoPanic.normal ?_;have Gc:=hid (((Gb.set_ 0 #[b.gen]).set_ 1 [[b.kind]]).set_ 2 [[b.st]]);have G2:=hid (((G1.out.setCell (p:=⟨w.heap.size+1,0,none⟩) (Nat.le_succ _) #[b.gen]).setCell (p:=⟨w.heap.size+1,1,none⟩) (Nat.le_succ _) [[b.kind]]).setCell (p:=⟨w.heap.size+1,2,none⟩) (Nat.le_succ _) [[b.st]]);generalize ((w3.setCell (w.heap.size+1,()) #[b.gen]).setCell ⟨w.heap.size+1,1,none⟩ [[b.kind]]).setCell ⟨w.heap.size+1,2,none⟩ [[b.st]]=wc at*;clear Gb c0 c1 c2 z0 z1 z2 Gx Gy Gz;have c0:wc.cell? (w.heap.size+1,())=some ↑#[b.gen]:=Gc.out.cell 0;have c1:wc.cell? ⟨w.heap.size+1,1,none⟩=some ↑[[b.kind]]:=Gc.out.cell 1;have c2:wc.cell? ⟨w.heap.size+1,2,none⟩=some ↑[[b.st]]:=Gc.out.cell 2;have z0:wc.frozen? (w.heap.size+1,())=false:=Gc.out.frozen 0;have z1:wc.frozen? ⟨w.heap.size+1,1,none⟩=false:=Gc.out.frozen 1;have z2:wc.frozen? ⟨w.heap.size+1,2,none⟩=false:=Gc.out.frozen 2;go_wp2;have Gx:((w.heap.size+1,()):Addr)≠⟨w.heap.size+1,1,none⟩:=by simp
 have Gy:((w.heap.size+1,()):Addr)≠⟨w.heap.size+1,2,none⟩:=by simp
 have Gz:(⟨w.heap.size+1,1,none⟩:Addr)≠⟨w.heap.size+1,2,none⟩:=by simp
 refine bodyPost_ret (v := .tuple #[.agg #[#[b.gen],[[b.kind]],[[b.st]]],true,bt]) (by simp[results,Tryz.results231,go_sem,c0,c1,c2]) rfl ⟨rfl,?_⟩;have Gp:w.heap.size<=w.heap.size+1:=Nat.le_succ _;exact((G2.out.setCell (p:=⟨w.heap.size+1,0,none⟩) Gp #[b.gen]).setCell (p:=⟨w.heap.size+1,1,none⟩) Gp [[b.kind]]).setCell (p:=⟨w.heap.size+1,2,none⟩) Gp [[b.st]]
end
end
section
open Go.RowKit Go.Maps
theorem w1s h a s n gs mr mh w (hB:Blk w h 168 (z2d a s n gs mr mh false)) :
  () 77 #[(h,0)] w fun e w'=>e=.returned true/\w'=w.setCell (h,7) true:=by
 have c7:w.cell? (h,7)=some ↑false:=hB.cell 7;have z7:w.frozen? (h,7)=false:=hB.frozen 7;clear hB;go_enter Tryz.func77,Tryz.ntmps77
 go_wp2;go_ret;exact⟨rfl,rfl⟩
structure Four(w w':World)(b:Nat):Prop where
 new:w<=b
 at0:∀R:Value->Option (DataW Unit×List MemPlace),w'.ownsMap Tryz.prog 32 R b 0 (.map [])
 at1:∀R:Value->Option (DataW Unit×List MemPlace),w'.ownsMap Tryz.prog 32 R (b+1) 0 (.map [])
 at2:∀R:Value->Option (DataW Unit×List MemPlace),w'.ownsMap Tryz.prog 32 R (b+2) 0 (.map [])
 at3:∀R:Value->Option (DataW Unit×List MemPlace),w'.ownsMap Tryz.prog 32 R (b+3) 0 (.map [])
 below:Blw w w'
theorem w5k w o:Four w (((((w.alloc o).alloc (.map #[] 0)).alloc (.map #[] 0)).alloc (.map #[] 0)).alloc (.map #[] 0)) (w+1):=by
 have hs:(w.alloc o).heap.size=w.heap.size+1:=by simp
 have Ga:((w.alloc o).alloc (.map #[] 0)).heap.size=w.heap.size+1+1:=by simp
 have Gb:(((w.alloc o).alloc (.map #[] 0)).alloc (.map #[] 0)).heap.size=w.heap.size+1+2:=by simp
 have Gc:((((w.alloc o).alloc (.map #[] 0)).alloc (.map #[] 0)).alloc (.map #[] 0)).heap.size=w.heap.size+1+3:=by simp
 refine⟨Nat.le_succ _,fun R=>?_,fun R=>?_,fun R=>?_,fun R=>?_,?_⟩
 ·have h:=World.ownsMap_made (w.alloc o) Tryz.prog 32 R
  rw[hs]at h;exact((h.alloc _).alloc _).alloc _
 ·have h:=World.ownsMap_made ((w.alloc o).alloc (.map #[] 0)) Tryz.prog 32 R
  rw[Ga]at h;exact(h.alloc _).alloc _
 ·have h:=World.ownsMap_made (((w.alloc o).alloc (.map #[] 0)).alloc (.map #[] 0)) Tryz.prog 32 R
  rw[Gb]at h;exact h.alloc _
 ·have h:=World.ownsMap_made ((((w.alloc o).alloc (.map #[] 0)).alloc (.map #[] 0)).alloc (.map #[] 0)) Tryz.prog 32 R
  rw[Gc]at h;exact h
 ·exact(((((Below.refl _ w).alloc (nL _) o).alloc (by simp) _).alloc (by simp;omega) _).alloc (by simp;omega) _).alloc (by simp;omega) _
def w3u(w:World)(e:Ending)(w':World):Prop:=∃b,e=.returned (.agg #[.map (some b),.map (some (b+1)),.map (some (b+2)),.map (some (b+3)),false,false])/\Four w w' b
structure v1u(t:TX)(mode:Nat):Prop where
 outside:t.outside=false
 surplus:t.surplus=false
 open_ : t.open_=true
 mode:t.mode=mode
 marks:t.marks=↑((),())
 ids:t.ids=0
 tail:t.tail=↑((),())
def NewT(w:World)(g:Nat)(t:TX):Prop:=w.heap.size<=g/\w<=t.words/\w<=t.inner/\w<=t.own/\w<=t.freed/\w<=t.held/\w<=t.cover
theorem NewT.mono{w w' g t}(h:NewT w' g t)(hs:w.heap.size<=w'.heap.size):NewT w g t:=by
 obtain⟨h1,h2,h3,h4,h5,h6,h7⟩:=h;exact⟨oM,oM,oM,oM,oM,oM,oM⟩
theorem y9r{w:World}{b:Nat}{tm te:TypeId}(h:w.ownsMap Tryz.prog 32 oneR b 0 (.map []))(ht:Tryz.prog.underlying tm=some (.map 32 te)){z:Value}(hz:(zeroValue te).run Tryz.prog w=.ok z w){o:Nat}(ho:o<18446744073709551616):
  ∃v,(Instr.lookup tm (.map (some b)) (.int .u64 o) true).run Tryz.prog w=.ok (.tuple #[v,.bool false]) w:=by
 obtain⟨v,ps,Ga,_⟩:=h.look_ok z1g ht hz (zd := .lit (.bool true)) (zp:=[]) rfl (keyU ho);exact⟨v,by rw[Ga];rfl⟩
theorem z5a{w:World}{b n:Nat}{D:DataW Unit}(h:w.ownsMap Tryz.prog 32 z9g b n D){o:Nat}(ho:o<18446744073709551616):
  ∃v x p,(Instr.lookup 141 (.map (some b)) o true).run Tryz.prog w=.ok (.tuple #[z2o v x p,(has D (kU o))]) w/\D.atKey (kU o) (z2g 0 0 false)=z2g v x p:=by
 obtain⟨v,ps,Ga,hv⟩:=h.look_ok z1g Tryz.underlying141 (z:=z2o 0 0 false) (by kernel_rfl) (z6r 0 0 false) (keyU ho);obtain⟨a,b,p,rfl,hz⟩:=y2b hv;exact⟨a,b,p,Ga,congrArg Prod.fst hz⟩
theorem z8j{a b a' b' p p'}(h:z2g a b p=z2g a' b' p'):a=a'/\b=b'/\p=p':=by
 simp[z2g]at h;obtain⟨h1,h2,h3⟩:=h;exact⟨oM,oM,h3⟩
theorem z3j{P} w {ops rest o a Q} s x t
  (hw:Region.wanted o (yielded ops a.tmps)=true)
  (ho:o.op=.call { callee := .builtin .append,args:=#[s,x],argTypes:=#[t,t] })
  base e i z size bytes (ht:P.underlying t=some (.slice e)) (hi:P.info? e=some i) (hz:i.zero=some z)
  (hsize:i.size=size) (hby:i.bytes=bytes) (hzs:z.cells.size=size) (hsz:0<size)
  v n (xs:List Value) (hs:a.eval s=v) (hown:w.ownsRow base e size v n xs)
  B A m c (news:List Value) (hx:a.eval x=.slice A m c) (hr:z0d w B size A m news) (h1:∀u∈news,u.oneCell'=true)
  (h63:n+m<=maxLen) (hbytes:(n+m)*bytes<=140737488355328) (hbase:base<=w.heap.size)
  (h:∀A' n' c' w',n'=n+m->w'.ownsRow base e size (.slice A' n' c') n' (xs++news)->w.grownBy w' v.ownBlock->((Value.slice A' n' c').ownBlock=v.ownBlock\/(Value.slice A' n' c').ownBlock=some w.heap.size)->wpList P ops Q rest (a.put o.dst (.slice A' n' c')) w'):wpList P ops Q (o::rest) a w:=by
 refine Go.BigFrame.wpList_want hw fun K hK=>?_
 refine z3x w s x t ho base e i z size bytes ht hi hz hsize hby hzs hsz v n xs hs hown B A m c news hx hr h1 h63 hbytes hbase fun v' w' h2 h3 h4=>?_
 obtain⟨A',c',rfl⟩:=z4f h2;exact hK _ _ (h A' _ c' w' rfl h2 h3 h4)
structure Mk where
 id:Nat
 k:Nat
 x:Bool
 y:Bool
 D:DataW Unit
 n:Nat
section
variable{c:CX}{w w':World}{S:Fp}{t:TX}{l:List Mk}
end
end
section
open Go.RowKit Go.Maps Go.Shelf
def cDec:DataW Unit->Nat×Nat×Bool
 | .agg [.lit (.int _ a),.lit (.int _ b),.lit (.bool c)]=>(a.toNat,b.toNat,c)
 |_=>(0,0,false)
theorem y6d v o p:cDec (z2g v o p)=(v,o,p):=by simp[cDec,z2g]
def cAt(D:DataW Unit)(o:Nat):Nat×Nat×Bool:=cDec (D.atKey (kU o) (z2g 0 0 false))
theorem w6c{w:World}{b n:Nat}{D:DataW Unit}(h:w.ownsMap Tryz.prog 32 z9g b n D){o:Nat}(ho:o<18446744073709551616):
  (Instr.lookup 141 (.map (some b)) o false).run Tryz.prog w=.ok (z2o (cAt D o).1 (cAt D o).2.1 (cAt D o).2.2) w:=by
 obtain⟨v,ps,Ga,hv⟩:=h.lookup z1g Tryz.underlying141 (z:=z2o 0 0 false) (by kernel_rfl) (z6r 0 0 false) (keyU ho);obtain⟨a,b,p,rfl,hz⟩:=y2b hv;unfold cAt;rw[Ga,show D.atKey (kU o) (z2g 0 0 false)=z2g a b p from congrArg Prod.fst hz,y6d]
theorem v3f{w:World}{b n:Nat}{D:DataW Unit}{R:Value->Option (DataW Unit×List MemPlace)}(h:w.ownsMap Tryz.prog 32 R b n D){o:Nat}(ho:o∈z2w D):o<18446744073709551616:=by
 obtain⟨es,hD,Gf,_⟩:=h.entries z1g;have Gc:∀p∈es,KeysOf Tryz.prog 32 p.1:=by
  obtain⟨Ge,Ga,_,F,_,Gb⟩:=h;rw[Gb]at hD;injection hD with hD
  subst hD;exact fun p hp=>fit_keys F p (mem_sorted.1 hp)
 subst hD;obtain⟨p,hp,rfl⟩:=List.mem_map.1 ho;obtain⟨v,hv⟩:=Gc p hp;obtain⟨x,_,hx,Gd⟩:=z1h Tryz.underlying32 hv;rw[hx];simpa[z5x] using Gd
def z8m(m:Nat)(t:TX):Array Value:=#[.map none,.map none,.map none,.map none,t.outside,t.surplus,(m,0),[[t.mode]],false,((),()),[t.ids],.map none,.map none,t.tail]
def endW(W:World)(g:Nat):World:=(((((((W.setCell (g,8) false).setCell (g,9) ((),())).setCell (g,11) (.map none)).setCell (g,12) (.map none)).setCell (g,0) (.map none)).setCell (g,1) (.map none)).setCell (g,2) (.map none)).setCell (g,3) (.map none)
theorem x4p W g:Chg (fun j=>j=g) W (endW W g) :=
 ((((((((Chg.refl (fun j=>j=g) W).setCell (p:=⟨g,8,none⟩) (.inl rfl) _).setCell (p:=⟨g,9,none⟩) (.inl rfl) _).setCell (p:=⟨g,11,none⟩) (.inl rfl) _).setCell (p:=⟨g,12,none⟩) (.inl rfl) _).setCell (p:=⟨g,0,none⟩) (.inl rfl) _).setCell (p:=⟨g,1,none⟩) (.inl rfl) _).setCell (p:=⟨g,2,none⟩) (.inl rfl) _).setCell (p:=⟨g,3,none⟩) (.inl rfl) _
theorem x2i m t:((((((((z1c m t).setIfInBounds 8 false).setIfInBounds 9 ((),())).setIfInBounds 11 (.map none)).setIfInBounds 12 (.map none)).setIfInBounds 0 (.map none)).setIfInBounds 1 (.map none)).setIfInBounds 2 (.map none)).setIfInBounds 3 (.map none)=z8m m t:=by
 simp[z1c,z8m]
theorem w5h{w g m t}(h:Blk w g 150 (z1c m t)):Blk (endW w g) g 150 (z8m m t):=by
 have h8:=(((((((h.set_ 8 false).set_ 9 ((),())).set_ 11 (.map none)).set_ 12 (.map none)).set_ 0 (.map none)).set_ 1 (.map none)).set_ 2 (.map none)).set_ 3 (.map none);rw[x2i]at h8;exact h8
end
section
open Go.RowKit
theorem z2u{w:World}{base base':Nat}{e:TypeId}{size:Nat}{v:Value}{n:Nat}{xs:List Value}(h:w.ownsRow base e size v n xs)(hb:base'<=base):w.ownsRow base' e size v n xs:=by
 refine⟨h.1,?_⟩;rcases h.2 with h0|⟨g,cap,cur,h1,h2,h3⟩
 ·exact .inl h0
 ·exact .inr ⟨g,cap,cur,h1,Nat.le_trans hb h2,h3⟩
def z9b(w:World)(m:Nat)(l:List Ins)(e:Ending)(w':World):Prop :=
 ∃A' m' c',e=.returned (.slice A' m' c')/\m'=m/\w'.ownsRow w 225 3 (.slice A' m' c') m' (z0h l)/\Blw w w'
theorem w5r n w (h0:0<n) (hn:n<=1000) :
  () 296 #[((),()),[n]] w (z9b w 0 []):=by
 obtain⟨i0,Gd,Ge,Gg,Gf⟩:=info_parts z8r;have Gb:=Lib.run_append_nil_zeros (P:=Tryz.prog) w 103 3 103 225 i0 _ .i64 .i64 Tryz.underlying103 Tryz.underlying3 Gd Ge n h0 oM oM (by rw[Gf];omega);generalize hcap:grownCap w n 0 225=cap at Gb;have Gc:n<=cap:=by rw[<- hcap];exact grownCap_ge w _ 0 225
 have Ga:cap<=maxLen:=by rw[<- hcap];exact grownCap_le_maxLen w _ 0 225 (by unfold maxLen;omega)
 have HO:Hid (∀X:Array Value,X.size=cap*3->(w.drew.alloc (.cells X 225)).ownsRow w 225 3 (w,0,0,cap) 0 []):=fun X hX =>
  World.ownsRow_made w.drew X cap (nL _) Ga hX
 generalize hZ:Builtin.zeroCells _ n++Builtin.zeroCells _ (cap-n)=Z at Gb;have HZ:Hid (Z.size=cap*3):=show _=_ by rw[<- hZ,Array.size_append,size_zeroCells,size_zeroCells,show(Value.agg #[.int .u8 0,[()],[()]]).cells.size=3 from rfl];omega
 clear hZ hcap Gd Ge Gg Gf;have Gh:(0:Int)<=0:=Int.le_refl _;have Gi:cap<=9223372036854775807:=Ga;go_enter Tryz.func296,Tryz.ntmps296
 go_wp2_with (at_builtin;refine Lib.wpList_append_run _ rfl _ _ _ _ rfl _ _ rfl rfl _ _ Gb ?_)
 go_ret;refine⟨_,_,_,rfl,rfl,HO.out Z HZ.out,?_⟩;exact(Below.refl _ _).drew.alloc (nL _) _
theorem w1b w:() 296 #[((),()),()] w (z9b w 0 []):=by
 have HO:Hid (∀_:Nat,w.ownsRow w 225 3 ((),()) 0 []):=fun _=>World.ownsRow_nil _ _ _ _
 go_enter Tryz.func296,Tryz.ntmps296
 go_wp2;go_ret;exact⟨_,_,_,rfl,rfl,HO.out 0,Below.refl _ _⟩
theorem w5q n w (hn:n<=1000):() 296 #[((),()),[n]] w (z9b w 0 []):=by
 rcases Nat.eq_zero_or_pos n with rfl|h
 ·exact w1b w
 ·exact w5r n w h hn
def w4r(a b:List Ins):Nat->List Ins
 |0=>[]
 |1=>a
 |_=>a++b
theorem w9o A A2 n c n2 c2 (a b:List Ins) g w (hb:Blk w g 103 #[.slice A n c,.slice A2 n2 c2]) (h1:z0d w w 3 A n (z0h a)) (h2:z0d w w 3 A2 n2 (z0h b)) (hn1:n<=400) (hn2:n2<=400) :
  () 239 #[(g,0,2,2)] w (z9b w (n+n2) (a++b)):=by
 have HB:=hid hb;have H1:=hid h1;have H2:=hid h2;have f0:w.cell? (g,0)=some (.slice A n c):=hb.cell 0;have f1:w.cell? (g,1)=some (.slice A2 n2 c2):=hb.cell 1;have HG:=hid (w5q (n+n2) w oM);clear hb h1 h2;go_enter Tryz.func239,Tryz.ntmps239
 go_wp2;go_loopw [3,11] (fun z i wr=>∃(k m:Nat),k<=2/\i=↑[k]/\z=↑[m]/\(k=0->m=0)/\(k=1->m=n)/\(k=2->m=n+n2)/\w=wr) (fun _ i _=>2-(RowKit.intOf i).toNat)
 case atStart=>exact⟨0,0,oM,rfl,rfl,fun _=>rfl,oM,oM,rfl⟩
 case round =>
  obtain⟨k,m,hk,rfl,rfl,Gd,Ge,Gf,rfl⟩:=hrel;have hd:¬((m:Int)+(n:Int)<0):=oM;have Gr:¬((m:Int)+(n2:Int)<0):=oM;rcases (show k=0\/k=1\/k=2 by omega)with rfl|rfl|rfl
  ·obtain rfl:=Gd rfl
   go_wp2;go_roundw
   case rel=>exact⟨1,n,oM,by go_num,by go_num,oM,oM,oM,trivial⟩
   case measure=>simp[RowKit.intOf]
  ·obtain rfl:=Ge rfl
   go_wp2;go_roundw
   case rel=>exact⟨2,m+n2,oM,by go_num,by go_num,oM,oM,oM,trivial⟩
   case measure=>simp[RowKit.intOf]
  ·obtain rfl:=Gf rfl
   obtain⟨i0,Gk,Gm,Gn,Gp⟩:=info_parts z8r;go_wp2_with (go_at_call 296;refine HG.out.mono ?_;rintro e w1⟨A1,n1,c1,rfl,hn1,Gl,Gj⟩;have Gi:=hid Gl;have Gg:=hid Gj;have Gh:=hid hn1;clear Gl Gj hn1)
   go_loopw [6,27] (fun v i wr=>∃(k:Nat)(A':Option Addr)(m c':Nat),k<=2/\i=↑[k]/\v=.slice A' m c'/\(k=0->m=0)/\(k=1->m=n)/\(k=2->m=n+n2)/\Hid (wr.ownsRow w 225 3 (.slice A' m c') m (z0h (w4r a b k)))/\Hid (Blw w wr)) (fun _ i _=>2-(RowKit.intOf i).toNat)
   case atStart=>exact⟨0,_,_,_,oM,rfl,rfl,fun _=>Gh.out,oM,oM,Gi,Gg⟩
   case round =>
    obtain⟨k,A',m,c',hk,rfl,rfl,Gd,Ge,Gf,HO,HW⟩:=hrel;clear Gi Gg Gh;have f0:wr.cell? (g,0)=some (.slice A n c):=(HB.out.below HW.out HB.out.lt).cell 0;have f1:wr.cell? (g,1)=some (.slice A2 n2 c2):=(HB.out.below HW.out HB.out.lt).cell 1;rcases (show k=0\/k=1\/k=2 by omega)with rfl|rfl|rfl
    ·obtain rfl:=Gd rfl
     go_wp2_with (at_builtin;refine z0m _ (.tmp 31) (.tmp 32) 103 rfl rfl w 225 i0 _ 3 24 Tryz.underlying103 Gk Gm Gn Gp rfl ?q1 (.slice A' 0 c') 0 (z0h (w4r a b 0)) rfl HO.out w A n c (z0h a) rfl ?q5 ?q6 ?q2 ?q3 ?q4 ?_;(case q1=>omega);(case q5=>exact H1.out.below HW.out);(case q6=>exact z6f a);(case q2=>(unfold maxLen;omega));(case q3=>omega);(case q4=>exact HW.out.size);intro A3 n3 c3 w8 hn3 ho3 hg3 hb3;have Gb:=hid hn3;have Gc:=hid ho3;have Ga:=hid (HW.out.trans hb3);clear hn3 ho3 hg3 hb3)
     go_roundw
     case rel=>exact⟨1,_,_,_,oM,by go_num,rfl,oM,fun _=>Gb.out.trans (Nat.zero_add _),oM,Gc,Ga⟩
     case measure=>simp[RowKit.intOf]
    ·obtain rfl:=Ge rfl
     go_wp2_with (at_builtin;refine z0m _ (.tmp 31) (.tmp 32) 103 rfl rfl w 225 i0 _ 3 24 Tryz.underlying103 Gk Gm Gn Gp rfl ?q1 (.slice A' m c') m (z0h (w4r a b 1)) rfl HO.out w A2 n2 c2 (z0h b) rfl ?q5 ?q6 ?q2 ?q3 ?q4 ?_;(case q1=>omega);(case q5=>exact H2.out.below HW.out);(case q6=>exact z6f b);(case q2=>(unfold maxLen;omega));(case q3=>omega);(case q4=>exact HW.out.size);intro A3 n3 c3 w8 hn3 ho3 hg3 hb3;have Gb:=hid hn3;have Gc:=hid ho3;have Ga:=hid (HW.out.trans hb3);clear hn3 ho3 hg3 hb3)
     have Gq:Hid (w8.ownsRow w 225 3 (.slice A3 n3 c3) n3 (z0h (w4r a b 2))):=by have h:=Gc.out;rw[<- z4k]at h;exact h
     go_roundw
     case rel=>exact⟨2,_,_,_,oM,by go_num,rfl,oM,oM,fun _=>Gb.out,Gq,Ga⟩
     case measure=>simp[RowKit.intOf]
    ·obtain rfl:=Gf rfl
     go_wp2;go_ret;exact⟨_,_,_,rfl,rfl,HO.out,HW.out⟩
theorem z5p(A A2:Option Addr)(n c n2 c2:Nat)(a b:List Ins)(w:World)(h1:z0d w w 3 A n (z0h a))(h2:z0d w w 3 A2 n2 (z0h b))(hn1:n<=400)(hn2:n2<=400):
  () 169 #[.slice A n c,.slice A2 n2 c2] w (z9b w (n+n2) (a++b)):=by
 have Ga:Hid (Blw w (w.alloc (.cells #[.slice A n c,.slice A2 n2 c2] 103))):=(Below.refl _ _).alloc (nL _) _;have HC:=hid (w9o A A2 n c n2 c2 a b w (w.alloc (.cells #[.slice A n c,.slice A2 n2 c2] 103)) (Blk.new _ _ _) ((h1.below Ga.out).more (by simp)) ((h2.below Ga.out).more (by simp)) hn1 hn2);clear h1 h2;go_enter Tryz.func169,Tryz.ntmps169
 go_wp2_with (go_at_call 239;refine HC.out.mono ?_;rintro e w1⟨A1,n1,c1,rfl,hn1,Gc,Gb⟩;have Gf:=hid Gc;have Gd:=hid Gb;have Ge:=hid hn1;clear Gc Gb hn1)
 go_ret;exact⟨_,_,_,rfl,Ge.out,z2u Gf.out (by simp),Ga.out.trans (Gd.out.mono (by simp))⟩
theorem x3n A c w:() 81 #[.slice A 0 c] w (z9b w 0 []):=by
 have HO:Hid (∀_:Nat,w.ownsRow w 225 3 ((),()) 0 []):=fun _=>World.ownsRow_nil _ _ _ _
 go_enter Tryz.func81,Tryz.ntmps81
 go_wp2;go_ret;exact⟨_,_,_,rfl,rfl,HO.out 0,Below.refl _ _⟩
theorem x5k:∀(ws:List (Nat×Nat))(cur:Nat->Nat),runP cur (ws.map stI)=wrS cur ws
 |[],_=>rfl
 |e::ws,cur=>by
  have:=x5k ws (upd cur (e.1/8) e.2);simpa[runP,wrS,stI,runI] using this
theorem y7h:∀(fs:List Nat)(cur:Nat->Nat),runP cur (fs.map Ins.fl)=cur
 |[],_=>rfl
 |f::fs,cur=>by
  have:=y7h fs cur;simpa[runP,runI] using this
theorem y9c{L}:∀(ws:List (Nat×Nat))(q:List Ins),(∀e∈ws,e.1%8=0/\e.1<64*L/\e.2<18446744073709551616)->y2n L false q->y2n L false (ws.map stI++q)
 |[],_,_,h=>h
 |e::ws,q,hw,h=>⟨⟨rfl,hw e (by simp)⟩,y9c ws q (fun e he=>hw e (by simp[he])) h⟩
theorem y2m{L}:∀(fs:List Nat)(b:Bool),(∀o∈fs,o<64*L)->y2n L b (fs.map Ins.fl++[Ins.fe])
 |[],_,_=>⟨trivial,rfl⟩
 |f::fs,_,h=>⟨h f (by simp),y2m fs true (fun o ho=>h o (by simp[ho]))⟩
theorem x4m:∀(ws:List (Nat×Nat))(D N:Nat->Prop),(∀k,(dirP (D,N) (ws.map stI)).1 k->D k\/∃e∈ws,k=e.1/8)
 |[],_,_,_,h => .inl h
 |e::ws,D,N,k,h=>by
  rcases x4m ws (fun k=>D k\/k=e.1/8) (fun _=>False) k h with (h|h)|⟨e',he',h⟩
  ·exact .inl h
  ·exact .inr ⟨e,by simp,h⟩
  ·exact .inr ⟨e',by simp[he'],h⟩
theorem y8u:∀(fs:List Nat)(D N:Nat->Prop)(i:Nat),N i->(dirP (D,N) (fs.map Ins.fl)).2 i
 |[],_,_,_,h=>h
 |f::fs,D,N,i,h=>y8u fs D (fun i=>N i\/i=f/64) i (.inl h)
theorem y6k:∀(fs:List Nat)(D N:Nat->Prop),(∀k,(dirP (D,N) (fs.map Ins.fl)).1 k->D k)/\∀f∈fs,(dirP (D,N) (fs.map Ins.fl)).2 (f/64)
 |[],_,_=>⟨fun _ h=>h,fun _ h=>by cases h⟩
 |f::fs,D,N=>by
  have ih:=y6k fs D (fun i=>N i\/i=f/64);refine⟨fun k h=>ih.1 k h,fun g hg=>?_⟩;rcases List.mem_cons.1 hg with rfl|hg
  ·exact y8u fs D _ _ (.inr rfl)
  ·exact ih.2 g hg
theorem x0l{ws:List (Nat×Nat)}{fs:List Nat}(h:∀e∈ws,z1p e.1∈fs):x5w (ws.map stI++fs.map Ins.fl++[Ins.fe]):=fun D k hk=>by
 rw[y0u,y0u]at hk;have Ga:(dirP (dirP (D,fun _=>False) (ws.map stI)) (fs.map Ins.fl)).1 k/\¬(dirP (dirP (D,fun _=>False) (ws.map stI)) (fs.map Ins.fl)).2 (k/8):=hk;rcases x4m ws D _ k ((y6k fs _ _).1 k Ga.1)with h1|⟨e,he,h1⟩
 ·exact h1
 ·refine absurd ?_ Ga.2
  have h2:=(y6k fs (dirP (D,fun _=>False) (ws.map stI)).1 (dirP (D,fun _=>False) (ws.map stI)).2).2 _ (h e he);have h3:z1p e.1/64=k/8:=by unfold z1p;omega
  rw[h3]at h2;exact h2
theorem z1k{L:Nat}{ws:List (Nat×Nat)}{p:List Ins}(h:z0y ws p)(hw:∀e∈ws,e.1%8=0/\e.1<64*L/\e.2<18446744073709551616)(cur:Nat->Nat):
  y9b L false p/\runP cur p=wrS cur ws/\p.length<=2*ws.length+1:=by
 obtain⟨fs,rfl,hl,hq,Ga⟩:=h;refine⟨⟨?_,x0l Ga⟩,?_,by simp;omega⟩
 ·rw[List.append_assoc]
  refine y9c ws _ hw (y2m fs false fun o ho=>?_);obtain⟨e,he,rfl⟩:=hq o ho;have:=(hw e he).2.1;unfold z1p;omega
 ·rw[z3v,z3v,x5k,y7h]
  rfl
theorem x7e ad n c l w (h:z0d w w 1 (some ad) n (z0g l)) (hn:n<=100000) :
  () 146 #[.slice (some ad) n c] w (fun e w'=>∃A' m' c',e=.returned (.slice A' m' c')/\m'=n/\w'.ownsRow w 32 1 (.slice A' m' c') m' (z0g l)/\Blw w w'):=by
 have H:=hid h;clear h;have Ge:∀W,(binOp .eql 107 (.slice (some ad) n c) ((),())).run Tryz.prog W=.ok false W:=fun W=>Lib.run_eql_slice_some_nil W _ _ _ Tryz.underlying107
 obtain⟨i0,Gd,Gf,Gg,Gh⟩:=info_parts z7r;have HO:Hid ((w.alloc (.cells #[] 32)).ownsRow w 32 1 (w,0,0,0) 0 []):=World.ownsRow_made w #[] 0 (nL _) (by unfold maxLen;omega) (by simp);go_enter Tryz.func146,Tryz.ntmps146
 go_wp2_with (at_builtin;refine z0m _ (.tmp 5) (.tmp 6) 107 rfl rfl w 32 i0 _ 1 8 Tryz.underlying107 Gd Gf Gg Gh rfl ?q1 (w,0,0,0) 0 [] rfl HO.out w (some ad) n c (z0g l) rfl ?q5 ?q6 ?q2 ?q3 ?q4 ?_;(case q1=>omega);(case q5=>exact H.out.alloc (nL _) _);(case q6=>exact y5g l);(case q2=>(unfold maxLen;omega));(case q3=>omega);(case q4=>(simp));intro A3 n3 c3 w8 hn3 ho3 hg3 hb3;have Gb:=hid hn3;have Gc:=hid ho3;have Ga:=hid (((Below.refl _ w).alloc (nL _) _).trans hb3);clear hn3 ho3 hg3 hb3)
 go_ret;refine⟨_,_,_,rfl,Gb.out.trans (Nat.zero_add _),?_,Ga.out⟩;have:=Gc.out;rw[List.nil_append]at this;exact this
def z2q(V:Nat):Nat->Nat->Option Nat
 |0,_=>none
 |n+1,j=>if z1z V j then z2q V n (j+1)else some j
def y9a(V c j:Nat):Value:=match z2q V (perC c-j) j with
 |some i => .int .i64 i
 |none => .int .i64 (-1)
theorem w9g(V i:Nat)(hV:V<18446744073709551616):(bits .and .u64 ((V:Int)/2^i) 1==0)=!z1z V i:=by
 have e:(V:Int)/2^i=((V/2^i:Nat):Int):=by push_cast;rfl
 have h:=Nat.div_le_self V (2^i);rw[e];unfold z1z;generalize V/2^i=y at*;rw[Lib.u64_and1 _ oM oM];have e2:(y:Int)%2=((y%2:Nat):Int):=oM;rw[e2];have h2:y%2=0\/y%2=1:=oM;rcases h2 with h2|h2<;>rw[h2]<;>rfl
section
variable{a:DA}{L T:Nat}{w:World}{S:Fp}{cur:Nat->Nat}{F:Nat}
theorem w5l(h:Dev a L T w S cur F)(hp:Pay w) ln cl g V j (hl:ln+32<=L) (hc:cl<5) (hV:V<18446744073709551616) (hv:cur (8*ln+1)=V) :
  () 320 #[chV a ln cl 0 g,[j]] w fun e w'=>e=.returned (y9a V cl j)/\Blw w w':=by
 have Gl:Blw w (w.alloc (.cells (z0w a ln cl g) 251)):=(Below.refl _ _).alloc (nL _) _;have Gh:=hid Gl;have Ga:=hid (y2d a ln cl 0 g j hc _ (hp.below Gl));have Gp:Hid (∀W,Blw w W->() 281 #[chV a ln cl 0 g] W fun e w'=>e=.returned V/\Blw W w'):=hid (fun W hW=>y0s (h.below hW) ln cl g V hl hv);have HN:Hid (∀W,Blw w W->() 297 #[chV a ln cl 0 g] W fun e w'=>e=.returned [perC cl]/\Blw W w'):=hid (fun W hW=>y0f a ln cl 0 g hc W (hp.below hW));have HK:=hid (Blk.new w 251 (z0w a ln cl g));have Gu:=z3b cl;have d0:decide ((j:Int)<0)=false:=dF;clear h hp Gl hv;unfold chV at*;unfold z0w memV at*;by_cases hj:j<perC cl
 ·rw[decide_eq_true hj]at Ga
  have HR:Hid (y9a V cl j=match z2q V (perC cl-j) j with
   |some i => .int .i64 i
   |none => .int .i64 (-1)):=hid rfl
  generalize y9a V cl j=rr at*;generalize perC cl=n at*;go_enter Tryz.func320,Tryz.ntmps320
  go_wp2_with fail
  refine Ga.out.mono ?_;rintro e w1⟨rfl,Ge⟩;have Gd:=hid (Gh.out.trans (Ge.mono Gh.out.size));have hk:=HK.out.below Ge HK.out.lt;have Gk:=hid hk;have f0:w1.cell? (w,())=some (.iface 57 (a.th 0,())):=hk.cell 0;have f1:w1.cell? ⟨w.heap.size,1,none⟩=some ↑[ln]:=hk.cell 1;have f2:w1.cell? ⟨w.heap.size,2,none⟩=some ↑[cl]:=hk.cell 2;have f3:w1.cell? ⟨w.heap.size,3,none⟩=some ↑():=hk.cell 3;have f4:w1.cell? ⟨w.heap.size,4,none⟩=some ↑#[g]:=hk.cell 4;clear Ge hk HK Ga;go_wp2_with fail
  refine(Gp.out _ Gd.out).mono ?_;rintro e w2⟨rfl,Gm⟩;have Gn:=hid (Gd.out.trans (Gm.mono Gd.out.size));have Gq:=hid (Gk.out.below Gm Gk.out.lt);clear Gm Gp Gd Gk f0 f1 f2 f3 f4;go_wp2_with fail
  go_loopw [6] (fun i wr=>∃k:Nat,j<=k/\k<=n/\i=↑[k]/\Hid (z2q V (n-j) j=z2q V (n-k) k)/\Hid (Blw w wr)/\Hid (Blk wr w.heap.size 251 #[.iface 57 (a.th 0,()),[ln],[cl],(),#[g]])) (fun i _=>n-(Go.RowKit.intOf i).toNat)
  case atStart=>exact⟨j,nL _,Nat.le_of_lt hj,rfl,hid rfl,Gn,Gq⟩
  case round =>
   obtain⟨k,Gs,Gt,rfl,HE,Gc,Gb⟩:=hrel;have f0:wr.cell? (w,())=some (.iface 57 (a.th 0,())):=Gb.out.cell 0;have f1:wr.cell? ⟨w.heap.size,1,none⟩=some ↑[ln]:=Gb.out.cell 1;have f2:wr.cell? ⟨w.heap.size,2,none⟩=some ↑[cl]:=Gb.out.cell 2;have f3:wr.cell? ⟨w.heap.size,3,none⟩=some ↑():=Gb.out.cell 3;have f4:wr.cell? ⟨w.heap.size,4,none⟩=some ↑#[g]:=Gb.out.cell 4;clear Gn Gq;by_cases hkn:k<n
   ·have dk:decide ((k:Int)<(n:Int))=true:=dT
    have s1:IntKind.u64.wrap (k:Int)=(k:Int):=by rw[IntKind.wrap_u64];omega
    have Gg:=w9g V k hV;have e1:z2q V (n-k) k=if z1z V k then z2q V (n-(k+1)) (k+1)else some k:=by
     rw[show n-k=(n-(k+1))+1 by omega];rfl
    have Gj:=hid (HE.out.trans e1);clear HE e1;go_wp2_with fail
    refine(HN.out _ Gc.out).mono ?_;rintro e w3⟨rfl,Gf⟩;have Gi:=hid (Gc.out.trans (Gf.mono Gc.out.size));have Gr:=hid (Gb.out.below Gf Gb.out.lt);clear Gf Gc Gb f0 f1 f2 f3 f4;cases hb:z1z V k
    ·rw[hb]at Gg Gj
     go_wp2;go_ret;refine⟨?_,Gi.out⟩;rw[HR.out,Gj.out];rfl
    ·rw[hb]at Gg Gj
     go_wp2;go_roundw
     case rel=>exact⟨k+1,oM,oM,by go_num,Gj,Gi,Gr⟩
     case measure=>simp[Go.RowKit.intOf];omega
   ·obtain rfl:k=n:=oM
    have dk:decide ((k:Int)<(k:Int))=false:=dF;go_wp2_with fail
    refine(HN.out _ Gc.out).mono ?_;rintro e w3⟨rfl,Gf⟩;have Gi:=hid (Gc.out.trans (Gf.mono Gc.out.size));clear Gf Gc Gb f0 f1 f2 f3 f4;go_wp2;go_ret;refine⟨?_,Gi.out⟩;rw[HR.out,HE.out,Nat.sub_self];rfl
 ·rw[decide_eq_false hj]at Ga
  have HR:Hid (y9a V cl j=.int .i64 (-1)):=hid (by unfold y9a;rw[show perC cl-j=0 by omega];rfl);generalize y9a V cl j=rr at*;go_enter Tryz.func320,Tryz.ntmps320
  go_wp2_with fail
  refine Ga.out.mono ?_;rintro e w1⟨rfl,Ge⟩;have Gd:=hid (Gh.out.trans (Ge.mono Gh.out.size));clear Ge HK Ga;go_wp2;go_ret;exact⟨by rw[HR.out];rfl,Gd.out⟩
end
end
section
open Go.RowKit
section
variable{a:DA}{L T:Nat}{w:World}{S:Fp}{cur:Nat->Nat}{F:Nat}
theorem z9u{a L T w S cur F}(h:Dev a L T w S cur F):
  () 76 #[(a.th 0,0)] w fun e w'=>e=.returned ()/\w=w':=by
 obtain⟨ls,Gc,Ge,cs,Gd,Ga,Gb⟩:=h;obtain⟨f0,f2,f3,f5,f4⟩:=Ga.facts (j:=0) oM;clear Ga Gb;go_enter Tryz.func76,Tryz.ntmps76
 go_wp2;go_ret;exact⟨rfl,rfl⟩
def z7h(b:BK)(kind:Nat):Nat:=if b.st=177 then b.kind else kind
theorem x3c(h:Dev a L T w S cur F)(ht:Tab w)(hp:Pay w) ln cl g V i b (hb:b.In) (hgood:b.good=true) (hs:b.st=176\/b.st=177) (hbit:z1z V i=decide (b.st≠176)) (hl:ln+32<=L) (hc:cl<5) (hi:i<perC cl) (hV:V<18446744073709551616) (hv:cur (8*ln+1)=V) (hw:cur (8*ln+offB cl i)=b.w) kind (hk1:0<z7h b kind) (hk2:z7h b kind<128) (hk3:kind<256) (hg0:0<b.gen) :
  () 176 #[chV a ln cl 0 g,[i],[[kind]]] w fun e w'=>e=.returned (.tuple #[(pMk (64*ln+8*offB cl i+8) b.gen (z7h b kind)),()])/\Blw w w':=by
 obtain⟨_,_,_,_,_,G8,_⟩:=id h;have hL:=G8.hL;clear G8;have ho:=off_lt hi;have GB:=hb.g;have G2:Blw w (w.alloc (.cells (z0w a ln cl g) 251)):=(Below.refl _ _).alloc (nL _) _;have Gy:=hid G2;have Gd:=hid (y2d a ln cl 0 g i hc _ (hp.below G2));have Gu:Hid (∀W,Blw w W->() 76 #[(a.th 0,0)] W fun e w'=>e=.returned ()/\W=w'):=hid (fun W hW=>z9u (h.below hW));have Gv:Hid (∀W,Blw w W->() 231 #[chV a ln cl 0 g,[i]] W fun e w'=>e=.returned (.tuple #[b.v,true,(z1z V i)])/\Blw W w'):=hid (fun W hW=>y7d (h.below hW) (ht.below hW) (hp.below hW) ln cl g V i b hb hl hc hi hV hv hw);have Gz:Hid (∀W,() 242 #[b.v] W fun e w'=>e=.returned true/\Blw W w'):=hid (fun W=>by rw[<- hgood];exact y6o b hb W);have Gx:Hid (∀W,Blw w W->() 244 #[chV a ln cl 0 g,[i]] W fun e w'=>e=.returned (64*ln+8*offB cl i:Nat)/\Blw W w'):=hid (fun W hW=>z8i ln cl g i oM hc hi W (hp.below hW));have G0:Hid (∀W,() 243 #[(64*ln+8*offB cl i+8:Nat),#[b.gen],[[z7h b kind]]] W fun e w'=>e=.returned (.tuple #[(pMk (64*ln+8*offB cl i+8) b.gen (z7h b kind)),()])/\W=w'):=hid (fun W=>x3d _ _ _ oM oM oM hg0 GB hk1 hk2 W);have HK:=hid (Blk.new w 251 (z0w a ln cl g));have hm:=z1x (some (a.th 0,0));have u1:IntKind.u64.wrap (((64*ln+8*offB cl i:Nat):Int)+8)=((64*ln+8*offB cl i+8:Nat):Int):=by rw[IntKind.wrap_u64];omega
 have hz:64*ln+8*offB cl i<1000000000:=oM;rw[decide_eq_true hi]at Gd;rw[hbit]at Gv;clear h ht hp G2 hv hw hgood hbit ho;generalize pMk (64*ln+8*offB cl i+8) b.gen (z7h b kind)=pp at*;generalize 64*ln+8*offB cl i+8=z8 at*;generalize 64*ln+8*offB cl i=z at*;obtain⟨gen,kd,st⟩:=b;unfold chV BK.v at*;unfold z0w memV at*;dsimp only at*;rcases hs with rfl|rfl
 ·have Gn:z7h ⟨gen,kd,176⟩ kind=kind:=rfl
  have G3:0<kind:=Gn▸hk1;have G4:kind<128:=Gn▸hk2;rw[Gn]at G0;clear hk1 hk2 Gn;have G9:((kind:Int)==0)=false:=by rw[beq_eq_false_iff_ne];omega
  have GA:decide (127<(kind:Int))=false:=dF;go_enter Tryz.func176,Tryz.ntmps176
  go_wp2_with fail
  refine Gd.out.mono ?_;rintro e w1⟨rfl,Gs⟩;have Gb:=hid (Gy.out.trans (Gs.mono Gy.out.size));have hk:=HK.out.below Gs HK.out.lt;have Ga:=hid hk;have f0:w1.cell? (w,0)=some ↑(57,a.th 0,0):=hk.cell 0;have f1:w1.cell? (w,1)=some ↑[ln]:=hk.cell 1;have f2:w1.cell? (w,2)=some ↑[cl]:=hk.cell 2;have f3:w1.cell? (w,3)=some ↑():=hk.cell 3;have f4:w1.cell? (w,4)=some ↑#[g]:=hk.cell 4;clear Gs hk HK Gd;go_wp2_with (go_at_call 76;refine(Gu.out _ Gb.out).mono ?_;rintro e w2⟨rfl,rfl⟩)
  refine(Gv.out _ Gb.out).mono ?_;rintro e w2⟨rfl,Gg⟩;have Gt:Blw w1 (w2.alloc (.cells #[#[gen],[[kd]],.int .u8 176] 335)):=Gg.alloc Gg.size _;have Gi:=hid (Gb.out.trans (Gt.mono Gb.out.size));have Gr:=hid (Ga.out.below Gt Ga.out.lt);have Gq:=hid (Blk.new w2 335 #[#[gen],[[kd]],.int .u8 176]);have G1:w2.cell? (w,0)=some ↑(57,a.th 0,0):=(Ga.out.below Gg Ga.out.lt).cell 0;have G5:=Ga.out.lt;have G6:=Gg.size;have G7:w.heap.size<w2.heap.size:=oM;clear Gg Gt Ga Gb Gv f0 f1 f2 f3 f4 G5 G6;go_wp2_with (go_at_call 76;refine(Gu.out _ Gi.out).mono ?_;rintro e w3⟨rfl,rfl⟩)
  refine(Gz.out _).mono ?_;rintro e w3⟨rfl,Gl⟩;have Gc:=hid (Gi.out.trans (Gl.mono Gi.out.size));have Gw:=Gr.out.below Gl Gr.out.lt;have Gh:=Gq.out.below Gl Gq.out.lt;have Gk:=hid Gw;have Gj:=hid Gh;have g0:w3.cell? (w2,0)=some ↑#[gen]:=Gh.cell 0;have g1:w3.cell? (w2,1)=some ↑[[kd]]:=Gh.cell 1;have g2:w3.cell? (w2,2)=some (.int .u8 176):=Gh.cell 2;clear Gl Gw Gh Gi Gr Gq Gz Gu G1 G7;generalize w2.heap.size=p2 at*;go_wp2_with fail
  clear g0 g1 g2;refine z0f (fun w'=>Blw w w'/\Blk w' w.heap.size 251 #[(57,a.th 0,0),[ln],[cl],(),#[g]]/\Blk w' p2 335 #[#[gen],[[kd]],.int .u8 176]) 11 [(true,0),(true,1),(true,4),(true,5),(true,6),(false,2),(true,3),(false,7),(true,8),(true,9),(true,10)] (by kernel_rfl) (by kernel_rfl) ⟨Gc.out.drew,Gk.out.drew,Gj.out.drew⟩ ?_;refine tkS (.agg #[(57,a.th 0,0),[ln],[cl],(),#[g]]) (fun w' hS=>?_) ?_
  ·have hk:=hS.2.1
   have f0:w'.cell? (w,0)=some ↑(57,a.th 0,0):=hk.cell 0;have f1:w'.cell? (w,1)=some ↑[ln]:=hk.cell 1;have f2:w'.cell? (w,2)=some ↑[cl]:=hk.cell 2;have f3:w'.cell? (w,3)=some ↑():=hk.cell 3;have f4:w'.cell? (w,4)=some ↑#[g]:=hk.cell 4;go_simp
  refine tkS [i] (fun w' hS=>?_) ?_
  ·go_simp
  refine tkS (p2,0) (fun w' hS=>?_) ?_
  ·go_simp
  refine tkS #[gen] (fun w' hS=>?_) ?_
  ·have f0:w'.cell? (p2,0)=some ↑#[gen]:=hS.2.2.cell 0
   go_simp
  refine tkS [[kind]] (fun w' hS=>?_) ?_
  ·go_simp
  refine z0k (by rfl) ?_;go_wp2_with fail
  refine(Gx.out _ Gc.out.drew).mono ?_;rintro e w4⟨rfl,Gm⟩;have Gp:=hid (Gc.out.drew.trans (Gm.mono Gc.out.drew.size));have Gf:=hid (Gk.out.drew.below Gm Gk.out.drew.lt);have Ge:=hid (Gj.out.drew.below Gm Gj.out.drew.lt);clear Gm Gx Gc Gk Gj;go_wp2_with fail
  refine⟨⟨Gp.out,Gf.out,Ge.out⟩,?_⟩;refine tkS z8 (fun w' hS=>?_) ?_
  ·go_simp
  refine z0k (by rfl) ?_;go_wp2_with fail
  refine(G0.out _).mono ?_;rintro e w5⟨rfl,rfl⟩;go_wp2_with fail
  refine⟨⟨Gp.out,Gf.out,Ge.out⟩,?_⟩;refine tkS pp (fun w' hS=>?_) ?_
  ·go_simp
  refine tkS () (fun w' hS=>?_) ?_
  ·go_simp
  refine tkS pp (fun w' hS=>?_) ?_
  ·go_simp
  show wpList _ _ _ _ _ _;simp only[List.drop_succ_cons,List.drop_zero];go_wp2_with fail
  refine NoPanic.normal ?_;go_wp2;go_ret2;exact⟨rfl,Gp.out⟩
 ·have Gn:z7h ⟨gen,kd,177⟩ kind=kd:=rfl
  have G3:0<kd:=Gn▸hk1;have G4:kd<128:=Gn▸hk2;rw[Gn]at G0;clear hk1 hk2 Gn;have G9:((kd:Int)==0)=false:=by rw[beq_eq_false_iff_ne];omega
  have GA:decide (127<(kd:Int))=false:=dF;go_enter Tryz.func176,Tryz.ntmps176
  go_wp2_with fail
  refine Gd.out.mono ?_;rintro e w1⟨rfl,Gs⟩;have Gb:=hid (Gy.out.trans (Gs.mono Gy.out.size));have hk:=HK.out.below Gs HK.out.lt;have Ga:=hid hk;have f0:w1.cell? (w,0)=some ↑(57,a.th 0,0):=hk.cell 0;have f1:w1.cell? (w,1)=some ↑[ln]:=hk.cell 1;have f2:w1.cell? (w,2)=some ↑[cl]:=hk.cell 2;have f3:w1.cell? (w,3)=some ↑():=hk.cell 3;have f4:w1.cell? (w,4)=some ↑#[g]:=hk.cell 4;clear Gs hk HK Gd;go_wp2_with (go_at_call 76;refine(Gu.out _ Gb.out).mono ?_;rintro e w2⟨rfl,rfl⟩)
  refine(Gv.out _ Gb.out).mono ?_;rintro e w2⟨rfl,Gg⟩;have Gt:Blw w1 (w2.alloc (.cells #[#[gen],[[kd]],.int .u8 177] 335)):=Gg.alloc Gg.size _;have Gi:=hid (Gb.out.trans (Gt.mono Gb.out.size));have Gr:=hid (Ga.out.below Gt Ga.out.lt);have Gq:=hid (Blk.new w2 335 #[#[gen],[[kd]],.int .u8 177]);have G1:w2.cell? (w,0)=some ↑(57,a.th 0,0):=(Ga.out.below Gg Ga.out.lt).cell 0;have G5:=Ga.out.lt;have G6:=Gg.size;have G7:w.heap.size<w2.heap.size:=oM;clear Gg Gt Ga Gb Gv f0 f1 f2 f3 f4 G5 G6;go_wp2_with (go_at_call 76;refine(Gu.out _ Gi.out).mono ?_;rintro e w3⟨rfl,rfl⟩)
  refine(Gz.out _).mono ?_;rintro e w3⟨rfl,Gl⟩;have Gc:=hid (Gi.out.trans (Gl.mono Gi.out.size));have Gw:=Gr.out.below Gl Gr.out.lt;have Gh:=Gq.out.below Gl Gq.out.lt;have Gk:=hid Gw;have Gj:=hid Gh;have g0:w3.cell? (w2,0)=some ↑#[gen]:=Gh.cell 0;have g1:w3.cell? (w2,1)=some ↑[[kd]]:=Gh.cell 1;have g2:w3.cell? (w2,2)=some (.int .u8 177):=Gh.cell 2;clear Gl Gw Gh Gi Gr Gq Gz Gu G1 G7;generalize w2.heap.size=p2 at*;go_wp2_with fail
  clear g0 g1 g2;refine z0f (fun w'=>Blw w w'/\Blk w' w.heap.size 251 #[(57,a.th 0,0),[ln],[cl],(),#[g]]/\Blk w' p2 335 #[#[gen],[[kd]],.int .u8 177]) 11 [(true,0),(true,1),(true,4),(true,5),(true,6),(false,2),(true,3),(false,7),(true,8),(true,9),(true,10)] (by kernel_rfl) (by kernel_rfl) ⟨Gc.out.drew,Gk.out.drew,Gj.out.drew⟩ ?_;refine tkS (.agg #[(57,a.th 0,0),[ln],[cl],(),#[g]]) (fun w' hS=>?_) ?_
  ·have hk:=hS.2.1
   have f0:w'.cell? (w,0)=some ↑(57,a.th 0,0):=hk.cell 0;have f1:w'.cell? (w,1)=some ↑[ln]:=hk.cell 1;have f2:w'.cell? (w,2)=some ↑[cl]:=hk.cell 2;have f3:w'.cell? (w,3)=some ↑():=hk.cell 3;have f4:w'.cell? (w,4)=some ↑#[g]:=hk.cell 4;go_simp
  refine tkS [i] (fun w' hS=>?_) ?_
  ·go_simp
  refine tkS (p2,0) (fun w' hS=>?_) ?_
  ·go_simp
  refine tkS #[gen] (fun w' hS=>?_) ?_
  ·have f0:w'.cell? (p2,0)=some ↑#[gen]:=hS.2.2.cell 0
   go_simp
  refine tkS [[kd]] (fun w' hS=>?_) ?_
  ·go_simp
  refine z0k (by rfl) ?_;go_wp2_with fail
  refine(Gx.out _ Gc.out.drew).mono ?_;rintro e w4⟨rfl,Gm⟩;have Gp:=hid (Gc.out.drew.trans (Gm.mono Gc.out.drew.size));have Gf:=hid (Gk.out.drew.below Gm Gk.out.drew.lt);have Ge:=hid (Gj.out.drew.below Gm Gj.out.drew.lt);clear Gm Gx Gc Gk Gj;go_wp2_with fail
  refine⟨⟨Gp.out,Gf.out,Ge.out⟩,?_⟩;refine tkS z8 (fun w' hS=>?_) ?_
  ·go_simp
  refine z0k (by rfl) ?_;go_wp2_with fail
  refine(G0.out _).mono ?_;rintro e w5⟨rfl,rfl⟩;go_wp2_with fail
  refine⟨⟨Gp.out,Gf.out,Ge.out⟩,?_⟩;refine tkS pp (fun w' hS=>?_) ?_
  ·go_simp
  refine tkS () (fun w' hS=>?_) ?_
  ·go_simp
  refine tkS pp (fun w' hS=>?_) ?_
  ·go_simp
  show wpList _ _ _ _ _ _;simp only[List.drop_succ_cons,List.drop_zero];go_wp2_with fail
  refine NoPanic.normal ?_;go_wp2;go_ret2;exact⟨rfl,Gp.out⟩
end
end
section
open Go.RowKit Go.Maps Go.Sort Go.Shelf
abbrev encW(x:Nat):Value := .int .u64 x
theorem z8l{x y}(h:encW x=encW y):x=y:=by
 have:(x:Int)=(y:Int):=by simpa[encW] using h
 omega
theorem w1m{H:Type}(n l Bm b nn:Nat)(D0:DataW H){R}(J:List Nat->World->Prop)
  (hY:∀pre x W,J pre W->pre.length<Maps.size D0->YieldAt Fence.wide (n-1) Tryz.prog l #[encW x] W fun e W'=>e=.returned true/\J (pre++[x]) W'/\KeepsWalks W W')
  (W:World) (hJ:AbidesFrom W J) (hm:W.cell? (Bm,())=some (.map (some b))) (hown:W.ownsMap Tryz.prog 32 R b nn D0) (h0:J [] W) (hn:1<=n) :
  CallsIn Fence.wide n Tryz.prog 213 #[.func (.yield l) #[] #[],(Bm,())] W fun e W'=>(∃v,e=.returned v)/\∃ss:List Nat,ss.Perm (z2w D0)/\J ss W':=by
 have Gh:Fence.wide.fn 213:=trivial;have Gl:Fence.wide.round=none:=rfl;refine callsIn_of_wp Tryz.func213 rfl Gh ?_ Gl;simp only[Tryz.ntmps213,List.size_toArray,List.length_cons,List.length_nil,Nat.reduceAdd,Nat.reduceSub,Array.replicate_succ,Array.replicate_zero,List.push_toArray,List.append_toArray,List.nil_append,List.cons_append];gi_wp2_with (first
  |(gi_at_range;refine wpListIn_range_own _ rfl _ 142 rfl 32 32 z1g Tryz.underlying142 _ b nn _ rfl hown ?_;intro w0 hrg0 hg0 hs0)
  |gi_in)
 go_frame
 gi_loopw [3] (fun _ wr=>∃(Ga:Lit->Bool)(Gd:Nat)(ss:List Nat),wr.ranges Tryz.prog 32 R b W nn D0 Ga Gd/\ss.length+Gd<=Maps.size D0/\z7m D0 Ga ss/\J ss wr)
  (fun _ wr=>wr.rangeLeft b W)
 case atStart =>
  exact⟨_,_,[],hrg0,by simp,z7m.start D0,hJ [] W w0 none h0 hg0 (fun r e=>by cases e)⟩
 case round =>
  obtain⟨Ga,Gd,ss,Ge,Gn,hC,Gf⟩:=hrel;gi_wp2_with (first
   |(gi_at_next;refine wpListIn_next_ranges _ rfl _ rfl 32 z1g R encW id (fun key kl hk=>by obtain⟨x,hx,_⟩:=z1h Tryz.underlying32 hk;exact⟨x,hx⟩) (fun v _ _=>⟨v,rfl⟩) b W nn _ _ _ rfl Ge ?_ ?_)
   |gi_in)
  ·intro hc0 hl0
   gi_wp2
   go_end0;exact⟨⟨_,rfl⟩,ss,hC.perm hown z1g Tryz.underlying32 hl0,Gf⟩
  ·intro x c kl yd yp w2 cnt2 hkey hlk hv hat hrg2 hlt hg2 hs2 hen
   obtain⟨x',ex,rfl,_⟩:=z1h Tryz.underlying32 hkey;obtain rfl:x=x':=z8l ex;have Gi:J ss w2:=hJ ss wr w2 (some W.heap.size) Gf hg2 (fun r e=>by cases e;exact⟨nL _,Ge.iter_walk⟩);obtain⟨fn,Gm,Gc,Gg,hy,hR⟩:=hY ss x w2 Gi oM;clear hs2;gi_wp2
   refine hR.mono ?_;rintro e W3⟨rfl,Gj,Gk⟩;gi_wp2
   have Gb:=hrg2.of_walks Gk;go_roundw
   case rel=>exact⟨_,cnt2,ss++[x],Gb,by simp;omega,hC.step hlk hat,Gj⟩
   case measure=>rw[Gb.left_eq,Ge.left_eq];exact hlt
theorem x2t{H:Type}(n Bm b nn:Nat)(D0:DataW H){R}(w:World)(hBm:Bm<w)
  (hm:w.cell? (Bm,())=some (.map (some b))) (hown:w.ownsMap Tryz.prog 32 R b nn D0) (hn:1<=n) :
  SeqGives Fence.wide n Tryz.prog 213 #[(Bm,())] encW (fun ss=>ss.Perm (z2w D0)) (Maps.size D0) w:=fun l J W hW hJ hY h0=>by
 have Gb:W.ownsMap Tryz.prog 32 R b nn D0:=by
  have Gc:=hown.lt;obtain⟨es,Ga,hb,Ft,hs,hD⟩:=hown;exact⟨es,Ga,(hW.block b Gc).trans hb,Ft,hs,hD⟩
 exact w1m n l Bm b nn D0 J hY W hJ ((hW.cell (p:=⟨Bm,0,none⟩) hBm).trans hm) Gb h0 hn
theorem w1l(mb:Option Nat) w :
  () 117 #[.map mb] w fun e w'=>e=.returned (.func (.func 213) #[] #[(w,0)])/\w'=w.alloc (.cells #[.map mb] 142):=by
 go_enter Tryz.func117,Tryz.ntmps117
 go_wp2;go_ret;exact⟨rfl,rfl⟩
theorem x2s{H:Type}(n l Bm b nn:Nat)(D0:DataW H){R}(J:List Nat->World->Prop)
  (hY:∀pre x W,J pre W->pre.length<Maps.size D0->YieldAt Fence.wide (n-1) Tryz.prog l #[encW x] W fun e W'=>e=.returned true/\J (pre++[x]) W'/\KeepsWalks W W')
  (W:World) (hJ:AbidesFrom W J) (hm:W.cell? (Bm,())=some (.map (some b))) (hown:W.ownsMap Tryz.prog 32 R b nn D0) (h0:J [] W) (hn:1<=n) :
  CallsIn Fence.wide n Tryz.prog 179 #[.func (.yield l) #[] #[],(Bm,())] W fun e W'=>(∃v,e=.returned v)/\∃ss:List Nat,ss.Perm (z2w D0)/\J ss W':=by
 have Gh:Fence.wide.fn 179:=trivial;have Gl:Fence.wide.round=none:=rfl;refine callsIn_of_wp Tryz.func179 rfl Gh ?_ Gl;simp only[Tryz.ntmps179,List.size_toArray,List.length_cons,List.length_nil,Nat.reduceAdd,Nat.reduceSub,Array.replicate_succ,Array.replicate_zero,List.push_toArray,List.append_toArray,List.nil_append,List.cons_append];gi_wp2_with (first
  |(gi_at_range;refine wpListIn_range_own _ rfl _ 144 rfl 32 64 z1g Tryz.underlying144 _ b nn _ rfl hown ?_;intro w0 hrg0 hg0 hs0)
  |gi_in)
 go_frame
 gi_loopw [3] (fun _ wr=>∃(Ga:Lit->Bool)(Gd:Nat)(ss:List Nat),wr.ranges Tryz.prog 32 R b W nn D0 Ga Gd/\ss.length+Gd<=Maps.size D0/\z7m D0 Ga ss/\J ss wr)
  (fun _ wr=>wr.rangeLeft b W)
 case atStart =>
  exact⟨_,_,[],hrg0,by simp,z7m.start D0,hJ [] W w0 none h0 hg0 (fun r e=>by cases e)⟩
 case round =>
  obtain⟨Ga,Gd,ss,Ge,Gn,hC,Gf⟩:=hrel;gi_wp2_with (first
   |(gi_at_next;refine wpListIn_next_ranges _ rfl _ rfl 32 z1g R encW id (fun key kl hk=>by obtain⟨x,hx,_⟩:=z1h Tryz.underlying32 hk;exact⟨x,hx⟩) (fun v _ _=>⟨v,rfl⟩) b W nn _ _ _ rfl Ge ?_ ?_)
   |gi_in)
  ·intro hc0 hl0
   gi_wp2
   go_end0;exact⟨⟨_,rfl⟩,ss,hC.perm hown z1g Tryz.underlying32 hl0,Gf⟩
  ·intro x c kl yd yp w2 cnt2 hkey hlk hv hat hrg2 hlt hg2 hs2 hen
   obtain⟨x',ex,rfl,_⟩:=z1h Tryz.underlying32 hkey;obtain rfl:x=x':=z8l ex;have Gi:J ss w2:=hJ ss wr w2 (some W.heap.size) Gf hg2 (fun r e=>by cases e;exact⟨nL _,Ge.iter_walk⟩);obtain⟨fn,Gm,Gc,Gg,hy,hR⟩:=hY ss x w2 Gi oM;clear hs2;gi_wp2
   refine hR.mono ?_;rintro e W3⟨rfl,Gj,Gk⟩;gi_wp2
   have Gb:=hrg2.of_walks Gk;go_roundw
   case rel=>exact⟨_,cnt2,ss++[x],Gb,by simp;omega,hC.step hlk hat,Gj⟩
   case measure=>rw[Gb.left_eq,Ge.left_eq];exact hlt
theorem y6t{H:Type}(n Bm b nn:Nat)(D0:DataW H){R}(w:World)(hBm:Bm<w)
  (hm:w.cell? (Bm,())=some (.map (some b))) (hown:w.ownsMap Tryz.prog 32 R b nn D0) (hn:1<=n) :
  SeqGives Fence.wide n Tryz.prog 179 #[(Bm,())] encW (fun ss=>ss.Perm (z2w D0)) (Maps.size D0) w:=fun l J W hW hJ hY h0=>by
 have Gb:W.ownsMap Tryz.prog 32 R b nn D0:=by
  have Gc:=hown.lt;obtain⟨es,Ga,hb,Ft,hs,hD⟩:=hown;exact⟨es,Ga,(hW.block b Gc).trans hb,Ft,hs,hD⟩
 exact x2s n l Bm b nn D0 J hY W hJ ((hW.cell (p:=⟨Bm,0,none⟩) hBm).trans hm) Gb h0 hn
theorem x2r(mb:Option Nat) w :
  () 92 #[.map mb] w fun e w'=>e=.returned (.func (.func 179) #[] #[(w,0)])/\w'=w.alloc (.cells #[.map mb] 144):=by
 go_enter Tryz.func92,Tryz.ntmps92
 go_wp2;go_ret;exact⟨rfl,rfl⟩
end
end Go.Proofs.YtmhbokcccjmfgaaGreatDoor
