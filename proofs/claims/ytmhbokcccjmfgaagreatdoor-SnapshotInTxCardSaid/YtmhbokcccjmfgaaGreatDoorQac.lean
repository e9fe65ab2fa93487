/- part 3 -/
import Derived.Test.YtmhbokcccjmfgaaGreatDoorQab
set_option maxRecDepth 100000
set_option maxHeartbeats 16000000
namespace Go.Proofs.YtmhbokcccjmfgaaGreatDoor
open Go.Lib (hid)
section
open Go.RowKit
def Ins.op:Ins->Nat
 | .st _ _=>1
 | .fl _=>2
 | .fe=>3
def Ins.o:Ins->Nat
 | .st o _=>o
 | .fl o=>o
 | .fe=>0
def Ins.v:Ins->Nat
 | .st _ v=>v
 |_=>0
theorem Ins.cells_eq(i:Ins):i.cells=[.int .u8 i.op,.int .u64 i.o,.int .u64 i.v]:=by cases i<;>rfl
theorem Ins.op_lt(i:Ins):1<=i.op/\i.op<=3:=by cases i<;>simp[Ins.op]
theorem z0d.plain{w B size n A xs}(h:z0d w B size A n xs)(hn:0<n)(hs:0<size):
  ∃b off,A=some ⟨b,off,none⟩/\b<B/\∀j u,xs[j]?=some u->w.cell? ⟨b,off+j,none⟩=some u:=by
 obtain⟨⟨b,off,Gb⟩,hA,hb,hc⟩:=h.2 hn;have hl:0<xs.length:=by rw[h.1];exact Nat.mul_pos hn hs
 have h0:=hc 0 _ (List.getElem?_eq_getElem hl);have Ga:Gb=none:=by simpa[Addr.add] using World.cell?_spot h0
 subst Ga;refine⟨b,off,hA,hb,fun j u hu=>?_⟩;rw[<- Go.WideShapes.add_plain];exact hc j u hu
theorem y9j{w:World}{B n:Nat}{A:Option Addr}{p:List Ins}(h:z0d w B 3 A n (z0h p)){k:Nat}(hk:k<n):
  ∃(hl:k<p.length)(b off:Nat),A=some ⟨b,off,none⟩/\b<B /\
   w.cell? ⟨b,off+k*3,none⟩=some (.int .u8 ((p[k]).op:Int))/\w.cell? ⟨b,off+k*3+1,none⟩=some (.int .u64 ((p[k]).o:Int))/\w.cell? ⟨b,off+k*3+2,none⟩=some (.int .u64 ((p[k]).v:Int)):=by
 have hl:k<p.length:=by have:=h.1;rw[z0o]at this;omega
 obtain⟨b,off,hA,hb,hc⟩:=h.plain oM oM;have e:=Ins.cells_eq p[k];refine⟨hl,b,off,hA,hb,?_,?_,?_⟩
 ·exact hc (k*3) _ ((z5j p k 0 hl oM).trans (by rw[e];rfl))
 ·exact hc (k*3+1) _ ((z5j p k 1 hl oM).trans (by rw[e];rfl))
 ·exact hc (k*3+2) _ ((z5j p k 2 hl oM).trans (by rw[e];rfl))
theorem x8v(A:Option Addr)(n c:Nat)(p:List Ins)(w:World)(h:z0d w w 3 A n (z0h p))(hn:n<=1000000):
  () 129 #[.slice A n c] w fun e w'=>e=.returned true/\Blw w w':=by
 have HR:=hid h;have Ga:Hid (Blw w w):=Below.refl _ _;clear h;go_enter Tryz.func129,Tryz.ntmps129
 go_wp2;go_loopw [7] (fun i wr=>∃(k:Nat),k<=n/\i=↑[k]/\Hid (Blw w wr)) (fun i _=>n-(RowKit.intOf i).toNat)
 case atStart=>exact⟨0,Nat.zero_le _,rfl,Ga⟩
 case round =>
  clear Ga;obtain⟨k,hk,rfl,H⟩:=hrel;by_cases hlt:k<n
  ·obtain⟨hl,b,Ge,hA,Gb,f0,f1,f2⟩:=y9j (HR.out.below H.out) hlt
   subst hA;have ho:=Ins.op_lt p[k];generalize (p[k]).op=op at*;generalize (p[k]).o=o at*;generalize (p[k]).v=v at*;have Gc:(0:Int)<=(k:Int):=oM;have Gd:(k:Int)<(n:Int):=oM;have e1:decide ((op:Int)<1)=false:=dF;have e2:decide ((3:Int)<(op:Int))=false:=dF;have e3:decide (3<op)=false:=dF;have HN:Hid (∀o,Blw w (wr.alloc o)):=fun o=>H.out.alloc H.out.size o
   clear H;go_wp2;go_roundw
   case rel=>exact⟨k+1,oM,by go_num,HN.out _⟩
   case measure=>simp[RowKit.intOf];omega
  ·obtain rfl:n=k:=oM
   go_wp2;go_ret;exact⟨rfl,H.out⟩
def v2f(a:DA)(L T:Nat)(w:World)(S:Fp)(cur:Nat->Nat)(d:(Nat->Prop)×(Nat->Prop))(F:Nat)(b:Bool)(e:Ending)(w':World):Prop :=
 e=.returned (.tuple #[])/\∃S' F',DevM a L T w' S' cur d.1 d.2 F'/\(b=false->F'=0)/\F'<=F+1/\Chg S w w'/\Grew S S' w
theorem w5i{a L T w S cur d F}(h:DevM a L T w S cur d.1 d.2 F) i b (hg:w5o L b i) (hb:b=false->F=0) (hT:T<1000000000) (hF:F<1000000000) :
  () 130 #[.agg #[[[i.op]],i.o,i.v],memV a] w (v2f a L (T+1) w S (runI cur i) (dirI d i) F (w6g b i)):=by
 cases i with
 |st o v =>
  obtain⟨h1,h2,h3,_⟩:=hg;have Gb:=hb h1;subst Gb;refine(w9x h o v h2 h3 hT).mono ?_;rintro e w'⟨rfl,S',hd,hc,Ga⟩;exact⟨rfl,S',0,hd,fun _=>rfl,Nat.zero_le _,hc,Ga⟩
 |fl o =>
  refine(w9w h o hg hF).mono ?_;rintro e w'⟨rfl,S',hd,hc,Ga⟩;exact⟨rfl,S',F+1,hd.more oM oM,fun h=>(by cases h),nL _,hc,Ga⟩
 |fe =>
  refine(w9v h).mono ?_;rintro e w'⟨rfl,S',hd,hc,Ga⟩;exact⟨rfl,S',0,hd.more oM oM,fun _=>rfl,Nat.zero_le _,hc,Ga⟩
def RunI(a:DA)(L T:Nat)(w wr:World)(S:Fp)(cur:Nat->Nat)(p:List Ins)(k:Nat):Prop :=
 ∃S' F',DevM a L (T+k) wr S' (runP cur (p.take k)) (dirP (a.dirty,fun _=>False) (p.take k)).1 (dirP (a.dirty,fun _=>False) (p.take k)).2 F'/\(z7u false (p.take k)=false->F'=0)/\F'<=k/\Chg S w wr/\Grew S S' w
theorem z6k{a L T w S cur}(h:Dev a L T w S cur 0) A n c (p:List Ins) (hr:z0d w w 3 A n (z0h p)) (hoff:∀ad,A=some ad->¬S ad.block) (hg:y9b L false p) (hn:n<=1000000) (hT:T+n<=1000000000) :
  () 46 #[.slice A n c,memV a] w (z0x a L (T+n) w S (runP cur p) 0 ()):=by
 have HV:=hid (x8v A n c p w hr hn);have Gp:=hid (show p.length=n by have:=hr.1;rw[z0o]at this;omega);have HR:=hid hr;have Gq:=hid hoff;have Gb:=hid hg;have Gd:=hid h;have Gv:=hid h.lt;have Gy:=z1x (some (a.th 0,0));have hq:∀W,(binOp .eql 163 (57,a.th 0,0) .nilIface).run Tryz.prog W=.ok false W:=fun W=>by rfl
 clear h hr hoff hg;unfold memV;go_enter Tryz.func46,Tryz.ntmps46
 go_wp2_with (go_at_call 129;refine HV.out.mono ?_;rintro e w1⟨rfl,Gc⟩;have Gf:Hid (RunI a L T w w1 S cur p 0):=⟨S,0,Gd.out.below Gc,fun _=>rfl,nL _,Chg.of_below Gc,Grew.refl _ _⟩;clear Gc)
 go_loopw [16] (fun i wr=>∃(k:Nat),k<=n/\i=↑[k]/\Hid (RunI a L T w wr S cur p k)) (fun i _=>n-(RowKit.intOf i).toNat)
 case atStart=>exact⟨0,Nat.zero_le _,rfl,Gf⟩
 case round =>
  clear Gf Gd HV;obtain⟨k,hk,rfl,H⟩:=hrel;by_cases hlt:k<n
  ·obtain⟨S1,F1,hd,hf,Gs,hC,hG⟩:=H.out
   obtain⟨hl,b,G1,hA,Gx,f0,f1,f2⟩:=y9j (hC.reads HR.out (nL _) Gq.out) hlt;subst hA;have Gn:=w5p Gb.out k hl;have Ga:=hid (fun o=>w5i (d:=dirP (a.dirty,fun _=>False) (p.take k)) (hd.below ((Below.refl _ wr).alloc (nL _) o)) p[k] (z7u false (p.take k)) Gn hf oM oM);have Gh:Hid (runI (runP cur (p.take k)) p[k]=runP cur (p.take (k+1))):=show _=_ by rw[List.take_succ_eq_append_getElem hl,w2t]
   have Gg:Hid (w6g (z7u false (p.take k)) p[k]=z7u false (p.take (k+1))):=show _=_ by rw[List.take_succ_eq_append_getElem hl,w2d];rfl
   have Ge:Hid (dirI (dirP (a.dirty,fun _=>False) (p.take k)) p[k]=dirP (a.dirty,fun _=>False) (p.take (k+1))):=show _=_ by rw[List.take_succ_eq_append_getElem hl,y0u];rfl
   rw[Gh.out,Gg.out,Ge.out]at Ga;have HC:=hid hC;have HG:=hid hG;unfold memV at Ga;generalize (p[k]).op=op at*;generalize (p[k]).o=o at*;generalize (p[k]).v=v at*;have Gz:(0:Int)<=(k:Int):=oM;have G0:(k:Int)<(n:Int):=oM;clear Gn hd hf hC hG H Gh Gg Ge;go_wp2_with fail
   refine(Ga.out _).mono ?_;rintro e w2⟨rfl,S2,F2,Gk,Gm,Gt,Gi,Gj⟩;have HN:Hid (RunI a L T w w2 S cur p (k+1)):=⟨S2,F2,by rw[<- Nat.add_assoc];exact Gk,Gm,oM,HC.out.trans (S':=S1) (((Chg.refl S1 wr).alloc _).trans Gi (Grew.refl _ _)) HG.out,HG.out.trans (w1:=wr) (fun j hj=>(Gj j hj).imp id (fun h=>by simp at h;omega)) HC.out.size⟩
   clear Gk Gm Gt Gi Gj;go_wp2;go_roundw
   case rel=>exact⟨k+1,oM,by go_num,HN⟩
   case measure=>simp[RowKit.intOf];omega
  ·obtain rfl:n=k:=oM
   obtain⟨S1,F1,hd,hf,Gs,hC,hG⟩:=H.out;rw[List.take_of_length_le (by rw[Gp.out];exact nL _)]at hd hf;have Gr:=hf (w1a Gb.out);subst Gr;have HD:Hid (Dev a L (T+n) wr S1 (runP cur p) 0):=hid (hd.mono (fun k hk=>Gb.out.2 _ k hk) (fun _ h=>h.elim));have HC:=hid hC;have HG:=hid hG;obtain⟨s,Gw,G2,cs,ls,Gl,Gu⟩:=hd;obtain⟨g0,_,_,_,g2⟩:=Gl.facts (j:=0) oM;clear Gl Gu hC hG hf H;go_wp2;go_ret;exact⟨rfl,S1,HD.out,HC.out,HG.out⟩
def z1q(a:DA)(s n:Nat):Array Value:=#[memV a,(64*s:Nat),(64*n:Nat)]
theorem z7p p W:(binOp .eql 163 (.iface 57 (.pointer p)) .nilIface).run Tryz.prog W=.ok false W:=by kernel_rfl
theorem y4n{a L T w S cur F}(h:Dev a L T w S cur F) s n (hn:26<=n) (hs:s+n<=L) :
  () 123 #[memV a,[s],[n]] w fun e w'=>e=.returned (.tuple #[(w,0),()])/\w'=w.alloc (.cells (z1q a s n) 316):=by
 obtain⟨ls,Gc,Gf,cs,Ge,Ga,Gb⟩:=h;have hL:=Ga.hL;obtain⟨f0,f2,_,_,_⟩:=Ga.facts (j:=0) oM;clear Ga Gb;have hq:=z7p (some (a.th 0,0));have Gd:=z6w (some (a.th 0,0));unfold memV z1q memV;have e1:decide ((s:Int)<0)=false:=dF;have e2:decide ((n:Int)<26)=false:=dF;have u1:IntKind.u64.wrap ((L:Int)*64)=(L:Int)*64:=by rw[IntKind.wrap_u64];omega
 have u2:IntKind.u64.wrap (n:Int)=(n:Int):=by rw[IntKind.wrap_u64];omega
 have u3:IntKind.u64.wrap (s:Int)=(s:Int):=by rw[IntKind.wrap_u64];omega
 have u4:IntKind.u64.wrap ((L:Int)-(n:Int))=(L:Int)-(n:Int):=by rw[IntKind.wrap_u64];omega
 have u5:IntKind.u64.wrap ((s:Int)*64)=((64*s:Nat):Int):=by rw[IntKind.wrap_u64];omega
 have u6:IntKind.u64.wrap ((n:Int)*64)=((64*n:Nat):Int):=by rw[IntKind.wrap_u64];omega
 have d1:((L:Int)*64).tdiv 64=(L:Int):=by rw[Int.mul_tdiv_cancel _ (by decide)]
 have e3:decide ((L:Int)<(n:Int))=false:=dF;have e4:decide ((L:Int)-(n:Int)<(s:Int))=false:=dF;go_enter Tryz.func123,Tryz.ntmps123
 go_wp2;go_ret2;exact⟨rfl,rfl⟩
def z2d(a:DA)(s n gs mr mh:Nat)(lk:Bool):Array Value:=#[memV a,[s],[n],(gs,0),.map (some mr),.map (some mh),.map none,lk]
theorem z9v{a L T w S cur F}(h:Dev a L T w S cur F):
  () 38 #[(a.d,0),()] w fun e w'=>e=.returned (a.th 0,0)/\w=w':=by
 obtain⟨ls,Gc,Ge,cs,Gd,Ga,Gb⟩:=h;have f3:w.cell? (a.d,3)=some (a.th 0,0):=Ga.dev.cell 3;clear Ga Gb;go_enter Tryz.func38,Tryz.ntmps38
 go_wp2;go_ret;exact⟨rfl,rfl⟩
def z5l(th r u h:Option Addr)(last:Option Addr):Array Value:=#[.pointer th,.pointer r,.pointer u,.pointer h,.pointer last]
theorem w3h th r u h w :
  () 136 #[.pointer th,.pointer r,.pointer u,.pointer h] w fun e w'=>e=.returned (w,0)/\w'=w.alloc (.cells (z5l th r u h none) 140):=by
 go_enter Tryz.func136,Tryz.ntmps136
 go_wp2;go_ret;exact⟨rfl,rfl⟩
structure SA where
 r:Nat
 u:Nat
 h:Nat
 gs:Nat
 mr:Nat
 mh:Nat
 m:Nat
section
variable{w wr:World}{g sz:Nat}{xs:List Nat}
theorem z0t.drew(h:z0t w wr g xs sz):z0t w wr.drew g xs sz:=by
 obtain⟨cs,ys,h1,h2,h3,h4,h5⟩:=h;exact⟨cs,ys,h1,h2,h3,h4,h5.drew⟩
theorem z0t.at_(h:z0t w wr g xs sz){i}(hi:i<xs.length):∃x:Nat,wr.cell? (g,i)=some ↑x/\wr.frozen? (g,i)=false:=by
 obtain⟨cs,ys,h1,h2,h3,h4,h5⟩:=h;have Ga:i<ys.length:=by rw[h4.length_eq];exact hi
 exact⟨ys[i],by rw[h1.cell];exact h3.2 _ Ga,h1.frozen i⟩
theorem z0t.swap(h:z0t w wr g xs sz){i j x y:Nat}(hi:i<xs.length)(hj:j<xs.length)(hx:wr.cell? (g,i)=some ↑x)(hy:wr.cell? (g,j)=some ↑y):
  z0t w ((wr.setCell (g,i) y).setCell (g,j) x) g xs sz:=by
 obtain⟨cs,ys,h1,h2,h3,h4,h5⟩:=h;have i1:i<ys.length:=by rw[h4.length_eq];exact hi
 have j1:j<ys.length:=by rw[h4.length_eq];exact hj
 have ex:ys[i]=x:=by
  rw[h1.cell,h3.2 _ i1]at hx;simp at hx;omega
 have ey:ys[j]=y:=by
  rw[h1.cell,h3.2 _ j1]at hy;simp at hy;omega
 subst ex;subst ey;exact⟨_,_,(h1.set_ i _).set_ j _,by simpa using h2,(h3.set i _ i1).set j _ (by rw[List.length_set];exact j1),(List.set_set_perm i1 j1).trans h4,(h5.setCell (p:=⟨g,i,none⟩) (.inl rfl) _).setCell (p:=⟨g,j,none⟩) (.inl rfl) _⟩
theorem z0t.mid(h:z0t w wr g xs sz){i j:Nat}(hj:j<xs.length)(u:Value):∃v,(wr.setCell (g,i) u).cell? (g,j)=some v:=by
 obtain⟨cs,ys,h1,h2,h3,h4,h5⟩:=h;have j1:j<ys.length:=by rw[h4.length_eq];exact hj
 have h:=(h1.set_ i u).cell j;have hs:j<(cs.setIfInBounds i u).size:=by have:=h3.1;simp;omega
 exact⟨_,h.trans (Array.getElem?_eq_getElem hs)⟩
theorem z0t.drewN(h:z0t w wr g xs sz) n:z0t w (wr.drewN n) g xs sz:=by
 obtain⟨cs,ys,h1,h2,h3,h4,h5⟩:=h;exact⟨cs,ys,h1,h2,h3,h4,h5.drewN n⟩
end
theorem w5z(x y:Nat)(w:World):() 289 #[x,y] w fun e w'=>e=.returned (decide (x<y))/\w'=w:=by
 go_enter Tryz.func289,Tryz.ntmps289
 go_wp2;all_goals (go_ret;exact⟨rfl,rfl⟩)
theorem z1w(x y:Nat):∃bb,Hid (∀W:World,Calls Tryz.prog 289 #[.int .u64 x,.int .u64 y] W fun e w'=>e=.returned (.bool bb)/\w'=W):=⟨_,fun W=>w5z x y W⟩
def v2g(w:World)(g:Nat)(xs:List Nat)(sz a b:Nat)(e:Ending)(w':World):Prop:=∃m:Nat,e=.returned (.int .i64 m)/\a<=m/\m<=b/\z0t w w' g xs sz
def w8u(w:World)(g:Nat)(xs:List Nat)(sz a b:Nat)(e:Ending)(w':World):Prop:=∃(m:Nat)(c:Bool),e=.returned (.tuple #[.int .i64 m,.bool c])/\a<=m/\m<b/\z0t w w' g xs sz
theorem x3j(g n cap sz a b:Nat)(xs:List Nat)(w:World)(h:z0t w w g xs sz)(hl:xs.length=n)(hab:a<b)(hb:b<=n)(hn:n<=1000000)(hc:n<=cap)(hcm:cap<=9223372036854775807):
  Calls Tryz.prog 287 #[.slice (some ⟨g,0,none⟩) n cap,.int .i64 a,.int .i64 b] w (z3f w g xs sz):=by
 have H:=hid h;have HL:=hid hl;clear h hl;obtain⟨b',rfl⟩:∃b',b=b'+1:=⟨b-1,oM⟩
 have u1:IntKind.i64.wrap (b':Int)=(b':Int):=by rw[IntKind.wrap_i64];omega
 go_enter Tryz.func287,Tryz.ntmps287
 go_wp2;go_loopw [6,7] (fun i j wr=>∃(p q:Nat),p<=b'+1/\q<=b'/\i=.int .i64 p/\j=.int .i64 q/\Hid (z0t w wr g xs sz)) (fun _ j _=>(RowKit.intOf j).toNat)
 case atStart=>exact⟨a,b',oM,oM,rfl,by go_num,H⟩
 case round =>
  clear H;obtain⟨p,q,hp,hq,rfl,rfl,H⟩:=hrel;by_cases hlt:p<q
  ·have e1:(p:Int)<(n:Int):=oM
   have e2:(q:Int)<(n:Int):=oM;obtain⟨x1,c1,z1⟩:=H.out.at_ (i:=p) (by have:=HL.out;omega);obtain⟨x2,c2,z2⟩:=H.out.at_ (i:=q) (by have:=HL.out;omega);obtain⟨x3,c3⟩:=H.out.mid (i:=p) (j:=q) (by have:=HL.out;omega) (.int .u64 x2);have H1:=hid (H.out.swap (by have:=HL.out;omega) (by have:=HL.out;omega) c1 c2).drew;have e3:decide ((p:Int)<(q:Int))=true:=dT;clear H;go_wp2;go_region;go_wp2;go_roundw
   case rel=>exact⟨p+1,q-1,oM,oM,by go_num,by go_num,H1⟩
   case measure=>simp[RowKit.intOf];omega
  ·go_wp2
   go_end0;exact⟨rfl,H.out⟩
theorem y6z(g n cap sz a b p:Nat)(xs:List Nat)(w:World)(h:z0t w w g xs sz)(hl:xs.length=n)(hab:a+1<b)(hb:b<=n)(hp2:p<b)(hn:n<=1000000)(hc:n<=cap)(hcm:cap<=9223372036854775807):
  Calls Tryz.prog 291 #[.slice (some ⟨g,0,none⟩) n cap,.int .i64 a,.int .i64 b,.int .i64 p] w (w8u w g xs sz a b):=by
 have H:=hid h;have HL:=hid hl;clear h hl;obtain⟨b',rfl⟩:∃b',b=b'+1:=⟨b-1,oM⟩
 have u1:IntKind.i64.wrap (b':Int)=(b':Int):=by rw[IntKind.wrap_i64];omega
 have e1:(a:Int)<(n:Int):=oM;have e2:(p:Int)<(n:Int):=oM;go_enter Tryz.func291,Tryz.ntmps291
 obtain⟨x1,c1,z1⟩:=H.out.at_ (i:=a) (by have:=HL.out;omega);obtain⟨x2,c2,z2⟩:=H.out.at_ (i:=p) (by have:=HL.out;omega);obtain⟨x3,c3⟩:=H.out.mid (i:=a) (j:=p) (by have:=HL.out;omega) (.int .u64 x2);have H1:=hid (H.out.swap (by have:=HL.out;omega) (by have:=HL.out;omega) c1 c2).drew;clear H;go_wp2;go_region;clear c1 c2 c3 z1 z2;go_upto_block 0 with fail
 go_cut [10]from 30 to 45 (fun v wx=>∃k:Nat,v=.int .i64 k/\a+1<=k/\k<=b'+1/\Hid (z0t w wx g xs sz))
 case first =>
  go_wp2_with fail
  go_loopw [10] (fun i wr=>∃k:Nat,a+1<=k/\k<=b'+1/\i=.int .i64 k/\Hid (z0t w wr g xs sz)) (fun i _=>b'+1-(RowKit.intOf i).toNat)
  case atStart=>exact⟨a+1,oM,oM,by go_num,H1⟩
  case round =>
   clear H1;obtain⟨k,Gb,Gc,rfl,H⟩:=hrel;by_cases hle:k<=b'
   ·have e3:(k:Int)<(n:Int):=oM
    have e4:decide ((k:Int)<=(b':Int))=true:=dT;go_wp2_with fail
    obtain⟨x1,c1,z1⟩:=H.out.at_ (i:=k) (by have:=HL.out;omega);obtain⟨x2,c2,z2⟩:=H.out.at_ (i:=a) (by have:=HL.out;omega);obtain⟨bb,Ga⟩:=z1w x1 x2;go_quiet ((go_at_call 289;exact Calls.quiet_of_same (Ga.out _)))
    have H1:=hid (H.out.drewN nq);clear c1 c2 z1 z2 H;cases bb
    ·go_wp2_with fail
     go_meet;exact⟨k,rfl,Gb,Gc,H1⟩
    ·go_wp2_with fail
     go_roundw
     case rel=>exact⟨k+1,oM,oM,by go_num,H1⟩
     case measure=>simp[RowKit.intOf];omega
   ·have e4:decide ((k:Int)<=(b':Int))=false:=dF
    go_wp2_with fail
    go_quiet (fail)
    have H1:=hid (H.out.drewN nq);go_wp2_with fail
    go_meet;exact⟨k,rfl,Gb,Gc,H1⟩
 case rest =>
  clear H1;obtain⟨k,rfl,Gb,Gc,H⟩:=hcut;go_upto_block 2 with fail
  go_cut [11]from 46 to 62 (fun v wx=>∃q:Nat,v=.int .i64 q/\a<=q/\q<=b'/\Hid (z0t w wx g xs sz))
  case first =>
   go_wp2_with fail
   go_loopw [11] (fun j wr=>∃q:Nat,a<=q/\q<=b'/\j=.int .i64 q/\Hid (z0t w wr g xs sz)) (fun j _=>(RowKit.intOf j).toNat)
   case atStart=>exact⟨b',oM,oM,rfl,H⟩
   case round =>
    clear H;obtain⟨q,Gd,Ge,rfl,H⟩:=hrel;by_cases hle:k<=q
    ·have e3:(q:Int)<(n:Int):=oM
     have e4:decide ((k:Int)<=(q:Int))=true:=dT;go_wp2_with fail
     obtain⟨x1,c1,z1⟩:=H.out.at_ (i:=q) (by have:=HL.out;omega);obtain⟨x2,c2,z2⟩:=H.out.at_ (i:=a) (by have:=HL.out;omega);obtain⟨bb,Ga⟩:=z1w x1 x2;go_quiet ((go_at_call 289;exact Calls.quiet_of_same (Ga.out _)))
     have H1:=hid (H.out.drewN nq);clear c1 c2 z1 z2 H;cases bb
     ·go_wp2_with fail
      go_roundw
      case rel=>exact⟨q-1,oM,oM,by go_num,H1⟩
      case measure=>simp[RowKit.intOf];omega
     ·go_wp2_with fail
      go_meet;exact⟨q,rfl,Gd,Ge,H1⟩
    ·have e4:decide ((k:Int)<=(q:Int))=false:=dF
     go_wp2_with fail
     go_quiet (fail)
     have H1:=hid (H.out.drewN nq);go_wp2_with fail
     go_meet;exact⟨q,rfl,Gd,Ge,H1⟩
  case rest =>
   clear H;obtain⟨q,rfl,Gd,Ge,H⟩:=hcut;by_cases hgt:q<k
   ·have e3:(q:Int)<(n:Int):=oM
    have e4:decide ((q:Int)<(k:Int))=true:=dT;obtain⟨x1,c1,z1⟩:=H.out.at_ (i:=q) (by have:=HL.out;omega);obtain⟨x2,c2,z2⟩:=H.out.at_ (i:=a) (by have:=HL.out;omega);obtain⟨x3,c3⟩:=H.out.mid (i:=q) (j:=a) (by have:=HL.out;omega) (.int .u64 x2);have H1:=hid (H.out.swap (by have:=HL.out;omega) (by have:=HL.out;omega) c1 c2).drew;clear H;go_wp2_with fail
    go_region;clear c1 c2 c3 z1 z2;go_wp2_with fail
    go_ret2;exact⟨q,true,rfl,oM,oM,H1.out⟩
   ·have e3:(q:Int)<(n:Int):=oM
    have e4:decide ((q:Int)<(k:Int))=false:=dF;have e5:(k:Int)<(n:Int):=oM;obtain⟨x1,c1,z1⟩:=H.out.at_ (i:=k) (by have:=HL.out;omega);obtain⟨x2,c2,z2⟩:=H.out.at_ (i:=q) (by have:=HL.out;omega);obtain⟨x3,c3⟩:=H.out.mid (i:=k) (j:=q) (by have:=HL.out;omega) (.int .u64 x2);have H1:=hid (H.out.swap (by have:=HL.out;omega) (by have:=HL.out;omega) c1 c2).drew;clear H;go_wp2_with fail
    go_region;clear c1 c2 c3 z1 z2;go_wp2_with fail
    go_loopw [10,11] (fun i j wr=>∃k q:Nat,a+1<=k/\k<=b'+1/\a<=q/\q<=b'/\i=.int .i64 k/\j=.int .i64 q/\Hid (z0t w wr g xs sz)) (fun i _ _=>b'+1-(RowKit.intOf i).toNat)
    case atStart=>exact⟨k+1,q-1,oM,oM,oM,oM,by go_num,by go_num,H1⟩
    case round =>
     clear H1 e3 e4 e5 hgt;obtain⟨k0,q0,Gf,Gg,Gh,Gi,rfl,rfl,H⟩:=hrel;go_upto_block 6 with fail
     go_cut [10]from 99 to 152 (fun v wx=>∃k:Nat,v=.int .i64 k/\k0<=k/\k<=b'+1/\Hid (z0t w wx g xs sz))
     case first =>
      go_wp2_with fail
      go_loopw [10] (fun i wr=>∃k:Nat,k0<=k/\k<=b'+1/\i=.int .i64 k/\Hid (z0t w wr g xs sz)) (fun i _=>b'+1-(RowKit.intOf i).toNat)
      case atStart=>exact⟨k0,oM,oM,rfl,H⟩
      case round =>
       clear H;obtain⟨k,Gb,Gc,rfl,H⟩:=hrel;by_cases hle:k<=q0
       ·have e3:(k:Int)<(n:Int):=oM
        have e4:decide ((k:Int)<=(q0:Int))=true:=dT;go_wp2_with fail
        obtain⟨x1,c1,z1⟩:=H.out.at_ (i:=k) (by have:=HL.out;omega);obtain⟨x2,c2,z2⟩:=H.out.at_ (i:=a) (by have:=HL.out;omega);obtain⟨bb,Ga⟩:=z1w x1 x2;go_quiet ((go_at_call 289;exact Calls.quiet_of_same (Ga.out _)))
        have H1:=hid (H.out.drewN nq);clear c1 c2 z1 z2 H;cases bb
        ·go_wp2_with fail
         go_meet;exact⟨k,rfl,Gb,Gc,H1⟩
        ·go_wp2_with fail
         go_roundw
         case rel=>exact⟨k+1,oM,oM,by go_num,H1⟩
         case measure=>simp[RowKit.intOf];omega
       ·have e4:decide ((k:Int)<=(q0:Int))=false:=dF
        go_wp2_with fail
        go_quiet (fail)
        have H1:=hid (H.out.drewN nq);go_wp2_with fail
        go_meet;exact⟨k,rfl,Gb,Gc,H1⟩
     case rest =>
      clear H;obtain⟨k,rfl,Gb,Gc,H⟩:=hcut;go_upto_block 8 with fail
      go_cut [11]from 99 to 152 (fun v wx=>∃q:Nat,v=.int .i64 q/\a<=q/\q<=b'/\Hid (z0t w wx g xs sz))
      case first =>
       go_wp2_with fail
       go_loopw [11] (fun j wr=>∃q:Nat,a<=q/\q<=b'/\j=.int .i64 q/\Hid (z0t w wr g xs sz)) (fun j _=>(RowKit.intOf j).toNat)
       case atStart=>exact⟨q0,oM,oM,rfl,H⟩
       case round =>
        clear H;obtain⟨q,Gd,Ge,rfl,H⟩:=hrel;by_cases hle:k<=q
        ·have e3:(q:Int)<(n:Int):=oM
         have e4:decide ((k:Int)<=(q:Int))=true:=dT;go_wp2_with fail
         obtain⟨x1,c1,z1⟩:=H.out.at_ (i:=q) (by have:=HL.out;omega);obtain⟨x2,c2,z2⟩:=H.out.at_ (i:=a) (by have:=HL.out;omega);obtain⟨bb,Ga⟩:=z1w x1 x2;go_quiet ((go_at_call 289;exact Calls.quiet_of_same (Ga.out _)))
         have H1:=hid (H.out.drewN nq);clear c1 c2 z1 z2 H;cases bb
         ·go_wp2_with fail
          go_roundw
          case rel=>exact⟨q-1,oM,oM,by go_num,H1⟩
          case measure=>simp[RowKit.intOf];omega
         ·go_wp2_with fail
          go_meet;exact⟨q,rfl,Gd,Ge,H1⟩
        ·have e4:decide ((k:Int)<=(q:Int))=false:=dF
         go_wp2_with fail
         go_quiet (fail)
         have H1:=hid (H.out.drewN nq);go_wp2_with fail
         go_meet;exact⟨q,rfl,Gd,Ge,H1⟩
      case rest =>
       clear H;obtain⟨q,rfl,Gd,Ge,H⟩:=hcut;by_cases hgt:q<k
       ·have e3:(q:Int)<(n:Int):=oM
        have e4:decide ((q:Int)<(k:Int))=true:=dT;obtain⟨x1,c1,z1⟩:=H.out.at_ (i:=q) (by have:=HL.out;omega);obtain⟨x2,c2,z2⟩:=H.out.at_ (i:=a) (by have:=HL.out;omega);obtain⟨x3,c3⟩:=H.out.mid (i:=q) (j:=a) (by have:=HL.out;omega) (.int .u64 x2);have H1:=hid (H.out.swap (by have:=HL.out;omega) (by have:=HL.out;omega) c1 c2).drew;clear H;go_wp2_with fail
        go_region;clear c1 c2 c3 z1 z2;go_wp2_with fail
        go_ret2;exact⟨q,false,rfl,oM,oM,H1.out⟩
       ·have e3:(q:Int)<(n:Int):=oM
        have e4:decide ((q:Int)<(k:Int))=false:=dF;have e5:(k:Int)<(n:Int):=oM;obtain⟨x1,c1,z1⟩:=H.out.at_ (i:=k) (by have:=HL.out;omega);obtain⟨x2,c2,z2⟩:=H.out.at_ (i:=q) (by have:=HL.out;omega);obtain⟨x3,c3⟩:=H.out.mid (i:=k) (j:=q) (by have:=HL.out;omega) (.int .u64 x2);have H1:=hid (H.out.swap (by have:=HL.out;omega) (by have:=HL.out;omega) c1 c2).drew;clear H;go_wp2_with fail
        go_region;clear c1 c2 c3 z1 z2;go_wp2_with fail
        go_roundw
        case rel=>exact⟨k+1,q-1,oM,oM,oM,oM,by go_num,by go_num,H1⟩
        case measure=>simp[RowKit.intOf];omega
theorem y6y(g n cap sz a b p:Nat)(xs:List Nat)(w:World)(h:z0t w w g xs sz)(hl:xs.length=n)(hab:a+1<b)(hb:b<=n)(hp2:p<b)(hn:n<=1000000)(hc:n<=cap)(hcm:cap<=9223372036854775807):
  Calls Tryz.prog 290 #[.slice (some ⟨g,0,none⟩) n cap,.int .i64 a,.int .i64 b,.int .i64 p] w (v2g w g xs sz (a+1) b):=by
 have H:=hid h;have HL:=hid hl;clear h hl;obtain⟨b',rfl⟩:∃b',b=b'+1:=⟨b-1,oM⟩
 have u1:IntKind.i64.wrap (b':Int)=(b':Int):=by rw[IntKind.wrap_i64];omega
 have e1:(a:Int)<(n:Int):=oM;have e2:(p:Int)<(n:Int):=oM;go_enter Tryz.func290,Tryz.ntmps290
 obtain⟨x1,c1,z1⟩:=H.out.at_ (i:=a) (by have:=HL.out;omega);obtain⟨x2,c2,z2⟩:=H.out.at_ (i:=p) (by have:=HL.out;omega);obtain⟨x3,c3⟩:=H.out.mid (i:=a) (j:=p) (by have:=HL.out;omega) (.int .u64 x2);have H1:=hid (H.out.swap (by have:=HL.out;omega) (by have:=HL.out;omega) c1 c2).drew;clear H;go_wp2;go_region;clear c1 c2 c3 z1 z2;go_wp2_with fail
 go_loopw [9,10] (fun i j wr=>∃k q:Nat,a+1<=k/\k<=b'+1/\a<=q/\q<=b'/\i=.int .i64 k/\j=.int .i64 q/\Hid (z0t w wr g xs sz)) (fun i _ _=>b'+1-(RowKit.intOf i).toNat)
 case atStart=>exact⟨a+1,b',oM,oM,oM,oM,by go_num,by go_num,H1⟩
 case round =>
  clear H1;obtain⟨k0,q0,Gf,Gg,Gh,Gi,rfl,rfl,H⟩:=hrel;go_upto_block 2 with fail
  go_cut [9]from 29 to 82 (fun v wx=>∃k:Nat,v=.int .i64 k/\k0<=k/\k<=b'+1/\Hid (z0t w wx g xs sz))
  case first =>
   go_wp2_with fail
   go_loopw [9] (fun i wr=>∃k:Nat,k0<=k/\k<=b'+1/\i=.int .i64 k/\Hid (z0t w wr g xs sz)) (fun i _=>b'+1-(RowKit.intOf i).toNat)
   case atStart=>exact⟨k0,oM,oM,rfl,H⟩
   case round =>
    clear H;obtain⟨k,Gb,Gc,rfl,H⟩:=hrel;by_cases hle:k<=q0
    ·have e3:(k:Int)<(n:Int):=oM
     have e4:decide ((k:Int)<=(q0:Int))=true:=dT;go_wp2_with fail
     obtain⟨x1,c1,z1⟩:=H.out.at_ (i:=a) (by have:=HL.out;omega);obtain⟨x2,c2,z2⟩:=H.out.at_ (i:=k) (by have:=HL.out;omega);obtain⟨bb,Ga⟩:=z1w x1 x2;go_quiet ((go_at_call 289;exact Calls.quiet_of_same (Ga.out _)))
     have H1:=hid (H.out.drewN nq);clear c1 c2 z1 z2 H;cases bb
     ·go_wp2_with fail
      go_roundw
      case rel=>exact⟨k+1,oM,oM,by go_num,H1⟩
      case measure=>simp[RowKit.intOf];omega
     ·go_wp2_with fail
      go_meet;exact⟨k,rfl,Gb,Gc,H1⟩
    ·have e4:decide ((k:Int)<=(q0:Int))=false:=dF
     go_wp2_with fail
     go_quiet (fail)
     have H1:=hid (H.out.drewN nq);go_wp2_with fail
     go_meet;exact⟨k,rfl,Gb,Gc,H1⟩
  case rest =>
   clear H;obtain⟨k,rfl,Gb,Gc,H⟩:=hcut;go_upto_block 4 with fail
   go_cut [10]from 29 to 82 (fun v wx=>∃q:Nat,v=.int .i64 q/\a<=q/\q<=b'/\Hid (z0t w wx g xs sz))
   case first =>
    go_wp2_with fail
    go_loopw [10] (fun j wr=>∃q:Nat,a<=q/\q<=b'/\j=.int .i64 q/\Hid (z0t w wr g xs sz)) (fun j _=>(RowKit.intOf j).toNat)
    case atStart=>exact⟨q0,oM,oM,rfl,H⟩
    case round =>
     clear H;obtain⟨q,Gd,Ge,rfl,H⟩:=hrel;by_cases hle:k<=q
     ·have e3:(q:Int)<(n:Int):=oM
      have e4:decide ((k:Int)<=(q:Int))=true:=dT;go_wp2_with fail
      obtain⟨x1,c1,z1⟩:=H.out.at_ (i:=a) (by have:=HL.out;omega);obtain⟨x2,c2,z2⟩:=H.out.at_ (i:=q) (by have:=HL.out;omega);obtain⟨bb,Ga⟩:=z1w x1 x2;go_quiet ((go_at_call 289;exact Calls.quiet_of_same (Ga.out _)))
      have H1:=hid (H.out.drewN nq);clear c1 c2 z1 z2 H;cases bb
      ·go_wp2_with fail
       go_meet;exact⟨q,rfl,Gd,Ge,H1⟩
      ·go_wp2_with fail
       go_roundw
       case rel=>exact⟨q-1,oM,oM,by go_num,H1⟩
       case measure=>simp[RowKit.intOf];omega
     ·have e4:decide ((k:Int)<=(q:Int))=false:=dF
      go_wp2_with fail
      go_quiet (fail)
      have H1:=hid (H.out.drewN nq);go_wp2_with fail
      go_meet;exact⟨q,rfl,Gd,Ge,H1⟩
   case rest =>
    clear H;obtain⟨q,rfl,Gd,Ge,H⟩:=hcut;by_cases hgt:q<k
    ·have e4:decide ((q:Int)<(k:Int))=true:=dT
     go_wp2_with fail
     go_ret;exact⟨k,rfl,oM,oM,H.out⟩
    ·have e3:(q:Int)<(n:Int):=oM
     have e4:decide ((q:Int)<(k:Int))=false:=dF;have e5:(k:Int)<(n:Int):=oM;obtain⟨x1,c1,z1⟩:=H.out.at_ (i:=k) (by have:=HL.out;omega);obtain⟨x2,c2,z2⟩:=H.out.at_ (i:=q) (by have:=HL.out;omega);obtain⟨x3,c3⟩:=H.out.mid (i:=k) (j:=q) (by have:=HL.out;omega) (.int .u64 x2);have H1:=hid (H.out.swap (by have:=HL.out;omega) (by have:=HL.out;omega) c1 c2).drew;clear H;go_wp2_with fail
     go_region;clear c1 c2 c3 z1 z2;go_wp2_with fail
     go_roundw
     case rel=>exact⟨k+1,q-1,oM,oM,oM,oM,by go_num,by go_num,H1⟩
     case measure=>simp[RowKit.intOf];omega
end
section
open Go.RowKit
def z0s(a:DA)(s n:Nat):Array Value:=#[memV a,(64*s:Nat),[n]]
theorem x0o{a L T w S cur F}(h:Dev a L T w S cur F) s n (hn:2<=n) (hs:s+n<=L) :
  () 132 #[memV a,[s],[n]] w fun e w'=>e=.returned (.tuple #[(w,0),()])/\w'=w.alloc (.cells (z0s a s n) 258):=by
 obtain⟨ls,Gc,Gf,cs,Ge,Ga,Gb⟩:=h;have hL:=Ga.hL;obtain⟨f0,f2,_,_,_⟩:=Ga.facts (j:=0) oM;clear Ga Gb;have hq:=z7p (some (a.th 0,0));have Gd:=z6w (some (a.th 0,0));unfold memV z0s memV;have e1:decide ((s:Int)<0)=false:=dF;have e2:decide ((n:Int)<2)=false:=dF;have u1:IntKind.u64.wrap ((L:Int)*64)=(L:Int)*64:=by rw[IntKind.wrap_u64];omega
 have u2:IntKind.u64.wrap (n:Int)=(n:Int):=by rw[IntKind.wrap_u64];omega
 have u3:IntKind.u64.wrap (s:Int)=(s:Int):=by rw[IntKind.wrap_u64];omega
 have u4:IntKind.u64.wrap ((L:Int)-(n:Int))=(L:Int)-(n:Int):=by rw[IntKind.wrap_u64];omega
 have u5:IntKind.u64.wrap ((s:Int)*64)=((64*s:Nat):Int):=by rw[IntKind.wrap_u64];omega
 have d1:((L:Int)*64).tdiv 64=(L:Int):=by rw[Int.mul_tdiv_cancel _ (by decide)]
 have e3:decide ((L:Int)<(n:Int))=false:=dF;have e4:decide ((L:Int)-(n:Int)<(s:Int))=false:=dF;go_enter Tryz.func132,Tryz.ntmps132
 go_wp2;go_ret2;exact⟨rfl,rfl⟩
theorem x0b{a L T w S cur F}(h:Dev a L T w S cur F) s n (hn:26<=n) (hs:s+n<=L) :
  () 131 #[memV a,[s],[n]] w fun e w'=>e=.returned (.tuple #[(w,0),()])/\w'=w.alloc (.cells (z1q a s n) 316):=by
 have HH:=hid (y4n h s n hn hs);clear h;unfold memV at*;go_enter Tryz.func131,Tryz.ntmps131
 go_wp2_with (go_at_call 123;refine HH.out.mono ?_;rintro e w1⟨rfl,rfl⟩)
 go_ret2;exact⟨rfl,rfl⟩
theorem x2n g n cap sz a b xs w (h:z0t w w g xs sz) (hl:xs.length=n) (hab:a<=b) (hb:b<=n) (hn:n<=1000000) (hc:n<=cap) (hcm:cap<=9223372036854775807) :
  () 283 #[(g,0,n,cap),[a],[b]] w (z3f w g xs sz):=by
 have H:=hid h;have HL:=hid hl;clear h hl;go_enter Tryz.func283,Tryz.ntmps283
 go_wp2;go_loopw [6] (fun i wr=>∃(k:Nat),a+1<=k/\k<=b+1/\i=↑[k]/\Hid (z0t w wr g xs sz)) (fun i _=>b+1-(RowKit.intOf i).toNat)
 case atStart=>exact⟨a+1,oM,oM,by go_num,H⟩
 case round =>
  clear H;obtain⟨k,Gb,hk,rfl,H⟩:=hrel;by_cases hlt:k<b
  ·go_wp2
   go_loopw [7] (fun j wr=>∃(q:Nat),a<=q/\q<=k/\j=↑[q]/\Hid (z0t w wr g xs sz)) (fun j _=>(RowKit.intOf j).toNat)
   case atStart=>exact⟨k,oM,nL _,rfl,H⟩
   case round =>
    clear H;obtain⟨q,Gc,hq,rfl,H⟩:=hrel;by_cases hq0:q=a
    ·subst hq0
     have e5:decide ((q:Int)<(q:Int))=false:=dF;go_wp2;go_quiet (fail)
     have H1:=hid (H.out.drewN nq);go_wp2;go_roundw
     case rel=>exact⟨k+1,oM,oM,by go_num,H1⟩
     case measure=>simp[RowKit.intOf];omega
    ·obtain⟨q',rfl⟩:∃q',q=q'+1:=⟨q-1,oM⟩
     have e1:(a:Int)<(q':Int)+1:=oM;have e2:(q':Int)+1<(n:Int):=oM;have e3:(q':Int)<(n:Int):=oM;have e5:decide ((a:Int)<(q':Int)+1)=true:=dT;have e6:((q':Int)+1).toNat=q'+1:=oM;have e8:IntKind.i64.wrap (q':Int)=(q':Int):=by rw[IntKind.wrap_i64];omega
     have e9:(0:Int)<=(q':Int)+1:=oM;go_wp2;obtain⟨x1,c1,z1⟩:=H.out.at_ (i:=(q'+1)) (by have:=HL.out;omega);obtain⟨x2,c2,z2⟩:=H.out.at_ (i:=q') (by have:=HL.out;omega);obtain⟨bb,Ga⟩:=z1w x1 x2;go_quiet ((go_at_call 289;exact Calls.quiet_of_same (Ga.out _)))
     have H1:=hid (H.out.drewN nq);clear c1 c2 z1 z2 H;cases bb
     ·go_wp2
      go_roundw
      case rel=>exact⟨k+1,oM,oM,by go_num,H1⟩
      case measure=>simp[RowKit.intOf];omega
     ·have H:=H1
      clear H1;generalize wr.drewN nq=wr at*;obtain⟨x1,c1,z1⟩:=H.out.at_ (i:=(q'+1)) (by have:=HL.out;omega);obtain⟨x2,c2,z2⟩:=H.out.at_ (i:=q') (by have:=HL.out;omega);obtain⟨x3,c3⟩:=H.out.mid (i:=(q'+1)) (j:=q') (by have:=HL.out;omega) x2;have H1:=hid (H.out.swap (by have:=HL.out;omega) (by have:=HL.out;omega) c1 c2).drew;clear H;go_wp2;go_region;go_wp2;exact⟨⟨q',oM,oM,rfl,H1⟩,by simp[RowKit.intOf]⟩
  ·go_wp2
   go_end0;exact⟨rfl,H.out⟩
theorem x5l(g n cap sz lo hi first:Nat)(xs:List Nat)(w:World)(h:z0t w w g xs sz)(hl:xs.length=n)(hf:first+hi<=n)(hlo:lo<=1000000)(hn:n<=1000000):
  Calls Tryz.prog 322 #[.slice (some ⟨g,0,none⟩) n cap,.int .i64 lo,.int .i64 hi,.int .i64 first] w (z3f w g xs sz):=by
 have H:=hid h;have HL:=hid hl;clear h hl;go_enter Tryz.func322,Tryz.ntmps322
 go_wp2;go_loopw [8] (fun i wr=>∃r:Nat,r<=lo+hi/\i=.int .i64 r/\Hid (z0t w wr g xs sz)) (fun i _=>lo+hi-(RowKit.intOf i).toNat)
 case atStart=>exact⟨lo,oM,rfl,H⟩
 case round =>
  clear H;obtain⟨r,hr,rfl,H⟩:=hrel;go_upto_region 1 with fail
  go_cut [9]from 11 to 75 (fun v wx=>∃c:Nat,v=.int .i64 c/\2*r+1<=c/\c<=2*r+1/\Hid (z0t w wx g xs sz))
  case first =>
   go_wp2_with fail
   go_meet;exact⟨2*r+1,by go_num,nL _,nL _,H⟩
  case rest =>
   clear H;obtain⟨c,rfl,Gc,Gd,H⟩:=hcut;by_cases hge:hi<=c
   ·have e1:decide ((hi:Int)<=(c:Int))=true:=dT
    go_wp2_with fail
    go_end0;exact⟨rfl,H.out⟩
   ·have e1:decide ((hi:Int)<=(c:Int))=false:=dF
    go_upto_region 3 with fail
    go_cut [36]from 11 to 75 (fun v wx=>∃bb,v=.bool bb/\(bb=true->c+1<hi)/\Hid (z0t w wx g xs sz))
    case first =>
     by_cases hl:c+1<hi
     ·have e2:decide ((c:Int)+1<(hi:Int))=true:=dT
      have f1:(first:Int)+(c:Int)<(n:Int):=oM;have f2:(first:Int)+(c:Int)+1<(n:Int):=oM;have f3:((first:Int)+(c:Int)).toNat=first+c:=oM;have f4:((first:Int)+(c:Int)+1).toNat=first+c+1:=oM;have f5:(0:Int)<=(first:Int)+(c:Int):=oM;have f6:(0:Int)<=(first:Int)+(c:Int)+1:=oM;obtain⟨x1,c1,z1⟩:=H.out.at_ (i:=(first+c)) (by have:=HL.out;omega);obtain⟨x2,c2,z2⟩:=H.out.at_ (i:=(first+c+1)) (by have:=HL.out;omega);obtain⟨bb,Ga⟩:=z1w x1 x2;go_quiet ((go_at_call 289;exact Calls.quiet_of_same (Ga.out _)))
      have H1:=hid (H.out.drewN nq);clear c1 c2 z1 z2 H;go_wp2_with fail
      go_meet;exact⟨bb,rfl,fun _=>hl,H1⟩
     ·have e2:decide ((c:Int)+1<(hi:Int))=false:=dF
      go_quiet (fail)
      have H1:=hid (H.out.drewN nq);go_wp2_with fail
      go_meet;exact⟨false,rfl,fun h=>(by cases h),H1⟩
    case rest =>
     clear H;obtain⟨bb,rfl,Gb,H⟩:=hcut;go_upto_if 36 with fail
     go_cut [9]from 11 to 75 (fun v wx=>∃c2:Nat,v=.int .i64 c2/\c<=c2/\c2<hi/\Hid (z0t w wx g xs sz))
     case first =>
      cases bb
      ·go_wp2_with fail
       go_meet;exact⟨c,rfl,nL _,oM,H⟩
      ·have:=Gb rfl
       go_wp2_with fail
       go_meet;exact⟨c+1,by go_num,oM,oM,H⟩
     case rest =>
      clear H Gb;obtain⟨k2,rfl,Ge,Gf,H⟩:=hcut;have f1:(first:Int)+(r:Int)<(n:Int):=oM;have f2:(first:Int)+(k2:Int)<(n:Int):=oM;have f3:((first:Int)+(r:Int)).toNat=first+r:=oM;have f4:((first:Int)+(k2:Int)).toNat=first+k2:=oM;have f5:(0:Int)<=(first:Int)+(r:Int):=oM;have f6:(0:Int)<=(first:Int)+(k2:Int):=oM;have ne:first+r≠first+k2:=oM;go_wp2_with fail
      obtain⟨x1,c1,z1⟩:=H.out.at_ (i:=(first+r)) (by have:=HL.out;omega);obtain⟨x2,c2,z2⟩:=H.out.at_ (i:=(first+k2)) (by have:=HL.out;omega);obtain⟨bb,Ga⟩:=z1w x1 x2;go_quiet ((go_at_call 289;exact Calls.quiet_of_same (Ga.out _)))
      have H1:=hid (H.out.drewN nq);clear c1 c2 z1 z2 H;cases bb
      ·go_wp2_with fail
       go_end0;exact⟨rfl,H1.out⟩
      ·have H:=H1
       clear H1;generalize wc.drewN nq=wr at*;obtain⟨x1,c1,z1⟩:=H.out.at_ (i:=(first+r)) (by have:=HL.out;omega);obtain⟨x2,c2,z2⟩:=H.out.at_ (i:=(first+k2)) (by have:=HL.out;omega);obtain⟨x3,c3⟩:=H.out.mid (i:=(first+r)) (j:=(first+k2)) (by have:=HL.out;omega) (.int .u64 x2);have H1:=hid (H.out.swap (by have:=HL.out;omega) (by have:=HL.out;omega) c1 c2).drew;clear H;go_wp2_with fail
       go_region;clear c1 c2 c3 z1 z2;go_wp2_with fail
       go_roundw
       case rel=>exact⟨k2,oM,rfl,H1⟩
       case measure=>simp[RowKit.intOf];omega
theorem z0t.self{w wr g sz xs}(h:z0t w wr g xs sz):z0t wr wr g xs sz:=by
 obtain⟨cs,ys,h1,h2,h3,h4,h5⟩:=h;exact⟨cs,ys,h1,h2,h3,h4,Chg.refl _ _⟩
theorem z0t.trans{w wr w' g sz xs}(h:z0t w wr g xs sz)(k:z0t wr w' g xs sz):z0t w w' g xs sz:=by
 obtain⟨_,_,_,_,_,_,h5⟩:=h;obtain⟨cs,ys,h1,h2,h3,h4,k5⟩:=k;exact⟨cs,ys,h1,h2,h3,h4,h5.trans k5 (Grew.refl _ _)⟩
def x5x(k:Nat)(i:Value):Prop:=(k=0/\i=.int .i64 (-1))\/(∃q:Nat,k=q+1/\i=↑[q])
theorem x5x.pred q:x5x q (.int .i64 ((q:Int)-1)):=by
 cases q with
 |zero=>exact .inl ⟨rfl,rfl⟩
 |succ q=>exact .inr ⟨q,rfl,congrArg (Value.int .i64) oM⟩
theorem w5t(g n cap sz a d:Nat)(xs:List Nat)(w:World)(h:z0t w w g xs sz)(hl:xs.length=n)(hb:a+(d+1)<=n)(hn:n<=1000000)(hc:n<=cap)(hcm:cap<=9223372036854775807):
  () 284 #[.slice (some (g,())) n cap,[a],[a+(d+1)]] w (z3f w g xs sz):=by
 have H:=hid h;have HL:=hid hl;have Ga:Hid (∀(q:Nat)(W:World),q<=1000000->z0t W W g xs sz->() 322 #[.slice (some (g,())) n cap,[q],.int .i64 ((d:Int)+1),[a]] W (z3f W g xs sz)):=fun q W hq hW=>by
  have:=x5l g n cap sz q (d+1) a xs W hW hl hb hq hn;simpa using this
 have Gb:Hid (∀(q:Nat)(W:World),q<=d->z0t W W g xs sz->() 322 #[.slice (some (g,())) n cap,(),[q],[a]] W (z3f W g xs sz)):=fun q W hq hW=>by
  have:=x5l g n cap sz 0 q a xs W hW hl oM oM hn;simpa using this
 clear h hl;have u1:(a:Int)+((d:Int)+1)-(a:Int)=(d:Int)+1:=oM;have u2:IntKind.i64.wrap (d:Int)=(d:Int):=by rw[IntKind.wrap_i64];omega
 go_enter Tryz.func284,Tryz.ntmps284
 go_wp2;go_loopw [9] (fun i wr=>∃k:Nat,k<=d+1/\x5x k i/\Hid (z0t w wr g xs sz)) (fun i _=>(RowKit.intOf i+1).toNat)
 case atStart=>exact⟨d/2+1,oM,.inr ⟨d/2,rfl,congrArg (Value.int .i64) oM⟩,H⟩
 case round =>
  clear H;obtain⟨k,hk,⟨rfl,rfl⟩|⟨q,rfl,rfl⟩,H⟩:=hrel
  ·go_wp2
   go_loopw [10] (fun i wr=>∃k:Nat,k<=d+1/\x5x k i/\Hid (z0t w wr g xs sz)) (fun i _=>(RowKit.intOf i+1).toNat)
   case atStart=>exact⟨d+1,oM,.inr ⟨d,rfl,rfl⟩,H⟩
   case round =>
    clear H;obtain⟨k,hk,⟨rfl,rfl⟩|⟨q,rfl,rfl⟩,H⟩:=hrel
    ·go_wp2
     go_end0;exact⟨rfl,H.out⟩
    ·have f1:(a:Int)+(q:Int)<(n:Int):=oM
     have f2:(a:Int)<(n:Int):=oM;have f3:((a:Int)+(q:Int)).toNat=a+q:=oM;have f5:(0:Int)<=(a:Int)+(q:Int):=oM;obtain⟨x1,c1,z1⟩:=H.out.at_ (i:=a) (by have:=HL.out;omega);obtain⟨x2,c2,z2⟩:=H.out.at_ (i:=(a+q)) (by have:=HL.out;omega);obtain⟨x3,c3⟩:=H.out.mid (i:=a) (j:=(a+q)) (by have:=HL.out;omega) x2;have H1:=hid (H.out.swap (by have:=HL.out;omega) (by have:=HL.out;omega) c1 c2).drew;clear H;go_wp2_with fail
     go_region;clear c1 c2 c3 z1 z2;go_wp2_with fail
     generalize hW:World.drew _=W at*;clear hW;refine(Gb.out q W oM H1.out.self).mono ?_;rintro e W1⟨rfl,h1⟩;have H2:=hid (H1.out.trans h1);clear h1 H1;go_wp2_with fail
     go_roundw
     case rel =>
      repeat apply Exists.intro
      refine⟨?_,rfl⟩;exact⟨q,oM,x5x.pred q,H2⟩
     case measure=>simp[RowKit.intOf]
  ·go_wp2_with fail
   refine(Ga.out q wr oM H.out.self).mono ?_;rintro e W1⟨rfl,h1⟩;have H1:=hid (H.out.trans h1);clear h1 H;go_wp2_with fail
   go_roundw
   case rel =>
    repeat apply Exists.intro
    refine⟨?_,rfl⟩;exact⟨q,oM,x5x.pred q,H1⟩
   case measure=>simp[RowKit.intOf]
structure PivI(w wr:World)(g:Nat)(xs:List Nat)(sz s:Nat):Prop where
 row:z0t w wr g xs sz
 new:w<=s
 lt:s<wr
 cell:∃z:Int,wr.cell? (s,0)=some ↑[z]
 froz:wr.frozen? (s,0)=false
theorem z0t.other{w wr g sz xs}(h:z0t w wr g xs sz){s}(hs:w.heap.size<=s)(hg:s≠g) u:z0t w (wr.setCell (s,0) u) g xs sz:=by
 obtain⟨cs,ys,h1,h2,h3,h4,h5⟩:=h;have hc:Chg (fun j=>j=s) wr (wr.setCell (s,0) u):=(Chg.refl (fun j=>j=s) wr).setCell (p:=⟨s,0,none⟩) (.inl rfl) u;exact⟨cs,ys,hc.blk h1 (fun e=>hg e.symm),h2,h3,h4,h5.setCell (p:=⟨s,0,none⟩) (.inr hs) u⟩
theorem PivI.put{w wr g sz s xs}(h:PivI w wr g xs sz s)(hg:s≠g)(z:Int):PivI w (wr.setCell (s,()) [z]) g xs sz s:=by
 obtain⟨z0,Ga⟩:=h.cell;exact⟨h.row.other h.new hg _,h.new,by simpa using h.lt,⟨z,by simp[go_sem,Ga]⟩,by simp[go_sem,h.froz]⟩
theorem PivI.drewN{w wr g sz s xs}(h:PivI w wr g xs sz s) n:PivI w (wr.drewN n) g xs sz s :=
 ⟨h.row.drewN n,h.new,h.lt,h.cell,h.froz⟩
def v2j(w:World)(g:Nat)(xs:List Nat)(sz s a b:Nat)(e:Ending)(w':World):Prop:=∃x y:Nat,e=.returned (.tuple #[[x],[y]])/\((x=a/\y=b)\/(x=b/\y=a))/\PivI w w' g xs sz s
theorem z9p(g n cap sz s a b:Nat)(xs:List Nat)(w wr:World)(h:PivI w wr g xs sz s)(hg:s≠g)(hl:xs.length=n)(ha:a<n)(hb:b<n):
  () 344 #[.slice (some (g,())) n cap,[a],[b],(s,())] wr (v2j w g xs sz s a b):=by
 have HP:=hid h;have H:=hid h.row;have HL:=hid hl;have HG:=hid hg;clear h hl;have e1:(a:Int)<(n:Int):=oM;have e2:(b:Int)<(n:Int):=oM;go_enter Tryz.func344,Tryz.ntmps344
 go_wp2_with fail
 obtain⟨x1,c1,z1⟩:=H.out.at_ (i:=b) (by have:=HL.out;omega);obtain⟨x2,c2,z2⟩:=H.out.at_ (i:=a) (by have:=HL.out;omega);obtain⟨bb,Gb⟩:=z1w x1 x2;go_quiet ((go_at_call 289;exact Calls.quiet_of_same (Gb.out _)))
 have H1:=hid (H.out.drewN nq);clear c1 c2 z1 z2 H;have Ga:=hid (HP.out.drewN nq);clear H1 HP;generalize wr.drewN nq=wd at*;obtain⟨z,hz⟩:=Ga.out.cell;have hf:=Ga.out.froz;have Gc:=hid (Ga.out.put HG.out (wrap64 (z+1)));cases bb
 ·go_wp2
  go_ret2;exact⟨a,b,rfl,.inl ⟨rfl,rfl⟩,Ga.out⟩
 ·go_wp2
  go_ret2;exact⟨b,a,rfl,.inr ⟨rfl,rfl⟩,Gc.out⟩
def w7w(w:World)(g:Nat)(xs:List Nat)(sz s a b:Nat)(e:Ending)(w':World):Prop:=∃m:Nat,e=.returned [m]/\a<=m/\m<b/\PivI w w' g xs sz s
theorem z9l g n cap sz s a b x y z xs w wr (h:PivI w wr g xs sz s) (hg:s≠g) (hl:xs.length=n) (hb:b<=n) (hx:a<=x/\x<b) (hy:a<=y/\y<b) (hz:a<=z/\z<b) :
  () 326 #[.slice (some (g,())) n cap,[x],[y],[z],(s,())] wr (w7w w g xs sz s a b):=by
 have H1:=hid (z9p g n cap sz s x y xs w wr h hg hl oM oM);have HL:=hid hl;have HG:=hid hg;clear h hl;go_enter Tryz.func326,Tryz.ntmps326
 go_wp2_with fail
 refine H1.out.mono ?_;rintro e w1⟨x1,y1,rfl,h1,p1⟩;have Gb:a<=x1/\x1<b:=oM;have Gc:a<=y1/\y1<b:=oM;have H2:=hid (z9p g n cap sz s y1 z xs w w1 p1 HG.out HL.out oM oM);clear p1 h1 H1;go_wp2_with fail
 refine H2.out.mono ?_;rintro e w2⟨y2,z2,rfl,h2,p2⟩;have Gd:a<=y2/\y2<b:=oM;have H3:=hid (z9p g n cap sz s x1 y2 xs w w2 p2 HG.out HL.out oM oM);clear p2 h2 H2;go_wp2_with fail
 refine H3.out.mono ?_;rintro e w3⟨x3,y3,rfl,h3,p3⟩;have Ga:a<=y3/\y3<b:=oM;have H4:=hid p3;clear p3 h3 H3;go_wp2;go_ret;exact⟨y3,rfl,Ga.1,Ga.2,H4.out⟩
theorem z5k g n cap sz s a b x xs w wr (h:PivI w wr g xs sz s) (hg:s≠g) (hl:xs.length=n) (hb:b<=n) (hx:a<x/\x+1<b) (hn:n<=1000000) :
  () 325 #[.slice (some (g,())) n cap,[x],(s,())] wr (w7w w g xs sz s a b):=by
 obtain⟨x',rfl⟩:∃x',x=x'+1:=⟨x-1,oM⟩
 have hm:=z9l g n cap sz s a b x' (x'+1) (x'+2) xs w wr h hg hl hb oM oM oM;have HM:=hid hm;clear h hl hm;have u1:IntKind.i64.wrap (x':Int)=(x':Int):=by rw[IntKind.wrap_i64];omega
 go_enter Tryz.func325,Tryz.ntmps325
 go_wp2_with fail
 refine HM.out.mono ?_;rintro e w1⟨m,rfl,h1,h2,p⟩;have HP:=hid p;clear p HM;go_wp2;go_ret;exact⟨m,rfl,h1,h2,HP.out⟩
def v2a(w:World)(g:Nat)(xs:List Nat)(sz a b:Nat)(e:Ending)(w':World):Prop:=∃(m:Nat)(k:Int),e=.returned (.tuple #[[m],[k]])/\a<=m/\m<b/\z0t w w' g xs sz
theorem x6x g n cap sz a l xs w (h:z0t w w g xs sz) (hl:xs.length=n) (hb:a+l<=n) (h8:8<=l) (hn:n<=1000000) :
  () 286 #[.slice (some (g,())) n cap,[a],[a+l]] w (v2a w g xs sz a (a+l)):=by
 have H:=hid h;have HL:=hid hl;clear h hl;have HS:=hid (show PivI w (w.alloc (.cells #[()] 3)) g xs sz w from⟨by
  obtain⟨cs,ys,h1,h2,h3,h4,h5⟩:=H.out;exact⟨cs,ys,(h1.alloc _),h2,h3,h4,h5.below ((Below.refl _ w).alloc (nL _) _)⟩,nL _,by simp,⟨0,by simp[go_sem]⟩,by simp[go_sem]⟩)
 have HG:Hid (w.heap.size≠g):=hid (by
  obtain⟨cs,ys,h1,_⟩:=H.out;have:=h1.lt;omega)
 obtain⟨q,HQ⟩:∃q:Nat,Hid ((l:Int)/4=(q:Int)/\2<=q/\4*q<=l):=⟨l/4,oM,oM,oM⟩
 have ea:Hid ((a:Int)+(l:Int)-(a:Int)=(l:Int)):=hid oM;have c1:Hid ((a:Int)+(q:Int)=((a+q:Nat):Int)):=hid oM;have c2:Hid ((a:Int)+(q:Int)*2=((a+q*2:Nat):Int)):=hid oM;have c3:Hid ((a:Int)+(q:Int)*3=((a+q*3:Nat):Int)):=hid oM;clear H;go_enter Tryz.func286,Tryz.ntmps286
 go_wp2_with fail
 all_goals generalize w.alloc (.cells #[()] 3)=W at*
 all_goals rw[ea.out,HQ.out.1,c1.out,c2.out,c3.out]
 all_goals obtain⟨Ga,Gb⟩:=HQ.out.2
 all_goals clear ea HQ c1 c2 c3
 ·refine(z5k g n cap sz w a (a+l) (a+q) xs w W HS.out HG.out HL.out hb oM hn).mono ?_
  rintro e w1⟨x1,rfl,a1,b1,p1⟩;have H1:=hid p1;clear p1;go_wp2_with fail
  refine(z5k g n cap sz w a (a+l) (a+q*2) xs w w1 H1.out HG.out HL.out hb oM hn).mono ?_;rintro e w2⟨x2,rfl,a2,b2,p2⟩;have H2:=hid p2;clear p2 H1;go_wp2_with fail
  refine(z5k g n cap sz w a (a+l) (a+q*3) xs w w2 H2.out HG.out HL.out hb oM hn).mono ?_;rintro e w3⟨x3,rfl,a3,b3,p3⟩;have H3:=hid p3;clear p3 H2;go_wp2_with fail
  refine(z9l g n cap sz w a (a+l) x1 x2 x3 xs w w3 H3.out HG.out HL.out hb ⟨a1,b1⟩ ⟨a2,b2⟩ ⟨a3,b3⟩).mono ?_;rintro e w4⟨m,rfl,a4,b4,p4⟩;have H4:=hid p4;obtain⟨z,hz⟩:=p4.cell;clear p4 H3;go_wp2_with fail
  all_goals (go_ret2;exact⟨m,_,rfl,a4,b4,H4.out.row⟩)
 ·refine(z9l g n cap sz w a (a+l) (a+q) (a+q*2) (a+q*3) xs w W HS.out HG.out HL.out hb oM oM oM).mono ?_
  rintro e w4⟨m,rfl,a4,b4,p4⟩;have H4:=hid p4;obtain⟨z,hz⟩:=p4.cell;clear p4;go_wp2_with fail
  all_goals (go_ret2;exact⟨m,_,rfl,a4,b4,H4.out.row⟩)
def RowQ(Q:Nat->Prop)(cs:Array Value)(n:Nat):Prop:=n<=cs.size/\∀i,i<n->∃x:Nat,Q x/\cs[i]?=some (.int .u64 x)
theorem RowQ.set{Q cs n}(h:RowQ Q cs n) j x (hj:j<n) (hx:Q x):RowQ Q (cs.setIfInBounds j x) n:=by
 refine⟨by simpa using h.1,fun i hi=>?_⟩;rw[z5y i (by have:=h.1;omega)];by_cases hij:i=j
 ·rw[if_pos hij];exact⟨x,hx,rfl⟩
 ·rw[if_neg hij];exact h.2 i hi
def RowR(R:Nat->Prop)(cs:Array Value)(n:Nat):Prop:=∀x,R x->∃i,i<n/\cs[i]?=some (.int .u64 x)
def RowT(R:Nat->Prop)(cs:Array Value)(n kk b:Nat):Prop:=(∀x,R x->∃i,(i<kk\/b<=i/\i<n)/\cs[i]?=some (.int .u64 x))/\∃i,i<kk/\cs[i]?=cs[b-1]?
theorem RowT.first{R cs n q}(h:RowR R cs n)(he:cs[q+1]?=cs[q]?):RowT R cs n (q+1) (q+2):=by
 refine⟨fun x hx=>?_,q,oM,by rw[show q+2-1=q+1 by omega,he]⟩;obtain⟨i,hi,hv⟩:=h x hx;by_cases hq:i=q+1
 ·exact⟨q,.inl oM,by rw[<- he,<- hq];exact hv⟩
 ·exact⟨i,oM,hv⟩
theorem RowT.same{R cs n kk b}(h:RowT R cs n kk (b+1))(he:cs[b+1]?=cs[b]?):RowT R cs n kk (b+2):=by
 obtain⟨h1,i0,Gb,Ga⟩:=h;rw[show b+1-1=b by omega]at Ga;refine⟨fun x hx=>?_,i0,Gb,by rw[show b+2-1=b+1 by omega,he];exact Ga⟩;obtain⟨i,hi,hv⟩:=h1 x hx;by_cases hq:i=b+1
 ·exact⟨i0,.inl Gb,by rw[Ga,<- he,<- hq];exact hv⟩
 ·exact⟨i,oM,hv⟩
theorem RowT.moved{R:Nat->Prop}{cs:Array Value}{n kk b:Nat}{y:Nat}(h:RowT R cs n kk (b+1))(hk:kk<=b)(hn:n<=cs.size)(hb:b+1<n)(hy:cs[b+1]?=some (.int .u64 y)):RowT R (cs.setIfInBounds kk y) n (kk+1) (b+2):=by
 have ha:∀i,(cs.setIfInBounds kk y)[i]?=if i=kk then some ↑y else cs[i]?:=fun i=>z5y i oM
 refine⟨fun x hx=>?_,kk,oM,by rw[ha,ha,if_pos rfl,if_neg oM,show b+2-1=b+1 by omega];exact hy.symm⟩;obtain⟨i,hi,hv⟩:=h.1 x hx;by_cases hq:i=b+1
 ·refine⟨kk,.inl oM,?_⟩
  rw[ha,if_pos rfl,<- hy,<- hq];exact hv
 ·exact⟨i,oM,by rw[ha,if_neg oM];exact hv⟩
theorem RowT.done{R cs n kk b}(h:RowT R cs n kk b)(hb:n<=b):RowR R cs kk:=fun x hx=>by
 obtain⟨i,hi,hv⟩:=h.1 x hx;exact⟨i,oM,hv⟩
theorem y0e{g}{t:TypeId}:∀(vs:List Value)(o:Nat){w:World}{cs:Array Value},Blk w g t cs->∃cs',Blk (w.setCells g o vs) g t cs'/\cs'.size=cs.size/\∀i,i<o->cs'[i]?=cs[i]?
 |[],_,_,cs,h=>⟨cs,h,rfl,fun _ _=>rfl⟩
 |v::r,o,w,cs,h=>by
  obtain⟨cs',h1,h2,h3⟩:=y0e r (o+1) (h.set_ o v);refine⟨cs',h1,by simpa using h2,fun i hi=>?_⟩;rw[h3 i oM,Array.getElem?_setIfInBounds_ne oM]
theorem y0g{g S w0}(hS:S g):∀(vs:List Value)(o:Nat){w:World},Chg S w0 w->Chg S w0 (w.setCells g o vs)
 |[],_,_,h=>h
 |v::r,o,_,h=>y0g hS r (o+1) (h.setCell (p:=⟨g,o,none⟩) (.inl hS) v)
def x8y(Q R:Nat->Prop)(w wr:World)(g n sz:Nat):Prop:=∃cs,Blk wr g 32 cs/\cs.size=sz/\RowQ Q cs n/\Chg (fun k=>k=g) w wr/\RowR R cs n
def w3o(Q R:Nat->Prop)(w wr:World)(g n sz kk b:Nat):Prop:=∃cs,Blk wr g 32 cs/\cs.size=sz/\RowQ Q cs n/\Chg (fun k=>k=g) w wr/\RowT R cs n kk b
def w8q(Q R:Nat->Prop)(w:World)(g n cap sz:Nat)(e:Ending)(w':World):Prop:=∃m,e=.returned (g,0,m,cap)/\m<=n/\x8y Q R w w' g m sz
theorem x2h(Q R:Nat->Prop) g n cap sz w (h:x8y Q R w w g n sz) (hn:n<=1000000) (hc:n<=cap) (hcm:cap<=9223372036854775807) :
  () 161 #[(g,0,n,cap)] w (w8q Q R w g n cap sz):=by
 have H0:=hid h;clear h;by_cases h2:n<2
 ·have e1:decide ((n:Int)<2)=true:=dT
  have e2:decide (n<2)=true:=decide_eq_true h2;go_enter Tryz.func161,Tryz.ntmps161
  go_wp2;go_ret;exact⟨n,rfl,nL _,H0.out⟩
 ·have e1:decide ((n:Int)<2)=false:=dF
  have e2:decide (n<2)=false:=decide_eq_false h2;go_enter Tryz.func161,Tryz.ntmps161
  go_wp2;go_loopw [3] (fun i wr=>∃(k:Nat),1<=k/\k<=n/\i=↑[k]/\Hid (x8y Q R w wr g n sz)) (fun i _=>n-(RowKit.intOf i).toNat)
  case atStart=>exact⟨1,oM,oM,rfl,H0⟩
  case round =>
   clear H0;obtain⟨k,Gt,hk,rfl,H⟩:=hrel;by_cases hlt:k<n
   ·obtain⟨q,rfl⟩:∃q,k=q+1:=⟨k-1,oM⟩
    obtain⟨cs,h1,Ga,h3,h4,h5⟩:=H.out;obtain⟨x1,Gm,Ge⟩:=h3.2 (q+1) hlt;obtain⟨x0,Gl,Gd⟩:=h3.2 q oM;have Gc:Hid (x1=x0->w3o Q R w wr.drew g n sz (q+1) (q+2)):=hid (fun e=>⟨cs,h1,Ga,h3,h4.drew,RowT.first h5 (by rw[Ge,Gd,e])⟩);have c1:wr.cell? (g,q+1)=some ↑x1:=by rw[h1.cell];exact Ge
    have c0:wr.cell? (g,q)=some ↑x0:=by rw[h1.cell];exact Gd
    have H1:Hid (x8y Q R w wr.drew g n sz):=⟨cs,h1,Ga,h3,h4.drew,h5⟩
    clear h1 Ga h3 h4 h5 Ge Gd H;have a1:(0:Int)<=(q:Int)+1:=oM;have a2:(q:Int)+1<(n:Int):=oM;have a3:(q:Int)<(n:Int):=oM;have a4:(0:Int)<=(q:Int):=oM;have a5:((q:Int)+1).toNat=q+1:=oM;have a6:IntKind.i64.wrap (q:Int)=(q:Int):=by rw[IntKind.wrap_i64];omega
    by_cases hxx:x1=x0
    ·have t1:((x1:Int)==(x0:Int))=true:=by rw[beq_iff_eq];omega
     have Gg:=hid (Gc.out hxx);clear Gc;go_wp2;go_region;go_wp2;clear t1 c1 c0 a1 a2 a3 a4 a5 a6 Gm Gl;go_loopw [3,5] (fun i j wr=>∃(kk k2:Nat),q+1<=kk/\kk<=q+k2/\1<=k2/\k2+(q+1)<=n/\i=↑[kk]/\j=↑[k2]/\Hid (w3o Q R w wr g n sz kk (q+1+k2))) (fun _ j _=>n-(RowKit.intOf j).toNat)
     case atStart=>exact⟨q+1,1,oM,oM,oM,oM,rfl,rfl,Gg⟩
     case round =>
      clear H1 Gg;obtain⟨kk,k2,b1,b2,b3,b4,rfl,rfl,H⟩:=hrel;by_cases hl2:k2+(q+1)<n
      ·obtain⟨r,rfl⟩:∃r,k2=r+1:=⟨k2-1,oM⟩
       obtain⟨cs,h1,Ga,h3,h4,h5⟩:=H.out;obtain⟨y1,Gn,Gb⟩:=h3.2 (q+1+(r+1)) oM;obtain⟨y0,Gu,Gf⟩:=h3.2 (q+1+r) oM;obtain⟨yk,Gv,Gh⟩:=h3.2 kk oM;have c1:wr.cell? (g,q+1+(r+1))=some ↑y1:=by rw[h1.cell];exact Gb
       have c0:wr.cell? (g,q+1+r)=some ↑y0:=by rw[h1.cell];exact Gf
       have ck:wr.cell? (g,kk)=some ↑yk:=by rw[h1.cell];exact Gh
       have zk:=h1.frozen kk;have HA:Hid (y1=y0->w3o Q R w wr.drew g n sz kk (q+1+(r+2))):=hid (fun e=>⟨cs,h1,Ga,h3,h4.drew,RowT.same (b:=q+1+r) h5 (by rw[show q+1+r+1=q+1+(r+1) by omega,Gb,Gf,e])⟩);have HB:Hid (w3o Q R w (wr.setCell (g,kk) y1).drew g n sz (kk+1) (q+1+(r+2))):=hid ⟨_,h1.set_ kk _,by simpa using Ga,h3.set kk y1 oM Gn,(h4.setCell (p:=⟨g,kk,none⟩) (.inl rfl) _).drew,RowT.moved (b:=q+1+r) h5 oM h3.1 oM Gb⟩;clear h1 Ga h3 h4 h5 Gb Gf Gh H;have a1:(0:Int)<=(r:Int)+1:=oM;have a2:(r:Int)+1<((n-(q+1):Nat):Int):=oM;have a3:(r:Int)<((n-(q+1):Nat):Int):=oM;have a4:(0:Int)<=(r:Int):=oM;have a5:((r:Int)+1).toNat=r+1:=oM;have a6:IntKind.i64.wrap (r:Int)=(r:Int):=by rw[IntKind.wrap_i64];omega
       have a7:decide (((r+1:Nat):Int)<((n-(q+1):Nat):Int))=true:=dT;have a8:(kk:Int)<(n:Int):=oM;have a9:(0:Int)<=(kk:Int):=oM;have Gj:decide (r+1<n-(q+1))=true:=dT;by_cases hyy:y1=y0
       ·have t1:((y1:Int) != (y0:Int))=false:=by simp[hyy]
        have Gi:=hid (HA.out hyy);clear HA HB;go_wp2;go_region;go_wp2;exact⟨⟨kk,r+2,oM,oM,oM,oM,rfl,by go_num,Gi⟩,by simp[RowKit.intOf];omega⟩
       ·have t1:((y1:Int) != (y0:Int))=true:=by rw[bne_iff_ne];omega
        go_wp2;go_region;go_wp2;exact⟨⟨kk+1,r+2,oM,oM,oM,oM,by go_num,by go_num,HB⟩,by simp[RowKit.intOf];omega⟩
      ·obtain⟨cs,h1,Ga,h3,h4,h5⟩:=H.out
       have Gs:∀ty,(Builtin.clear_ #[107] ty #[(g,kk,n-kk,cap-kk)]).run Tryz.prog wr=.ok (.tuple #[]) (wr.setCells g kk (List.replicate (n-kk) [()])):=fun ty =>
        Lib.run_clear_slice wr 107 32 ty [()] Tryz.underlying107 (fun _=>by kernel_rfl) rfl rfl g kk (n-kk) (cap-kk) oM (fun j hj=>by
         obtain⟨x,_,hx⟩:=h3.2 (kk+j) oM;rw[h1.cell,hx];rfl) (fun j _=>h1.frozen _)
       have HE:Hid (x8y Q R w (wr.setCells g kk (List.replicate (n-kk) [()])) g kk sz):=by
        obtain⟨Gk,k1,Gw,k3⟩:=y0e (List.replicate (n-kk) (Value.int .u64 0)) kk h1;refine⟨Gk,k1,oM,⟨by have:=h3.1;omega,fun i hi=>?_⟩,y0g (S:=fun k=>k=g) rfl _ _ h4,fun x hx=>?_⟩
        ·rw[k3 i hi]
         exact h3.2 i oM
        ·obtain⟨i,hi,hv⟩:=(h5.done oM) x hx
         exact⟨i,hi,by rw[k3 i hi];exact hv⟩
       clear h1 Ga h3 h4 h5 H;have a7:decide ((k2:Int)<((n-(q+1):Nat):Int))=false:=dF;have Gj:decide (k2<n-(q+1))=false:=dF;have a8:(kk:Int)<=(n:Int):=oM;have a9:(0:Int)<=(kk:Int):=oM;have Gp:(kk:Int)<=(cap:Int):=oM;have Gq:¬cap=kk:=oM;have Gr:¬kk=cap:=oM;go_wp2;go_ret;exact⟨kk,rfl,oM,HE.out⟩
    ·have t1:((x1:Int)==(x0:Int))=false:=by rw[beq_eq_false_iff_ne];omega
     clear Gc;go_wp2;go_region;go_wp2;exact⟨⟨q+2,oM,oM,by go_num,H1⟩,by simp[RowKit.intOf];omega⟩
   ·obtain rfl:n=k:=oM
    go_wp2;go_ret;exact⟨n,rfl,nL _,H.out⟩
end
end Go.Proofs.YtmhbokcccjmfgaaGreatDoor
