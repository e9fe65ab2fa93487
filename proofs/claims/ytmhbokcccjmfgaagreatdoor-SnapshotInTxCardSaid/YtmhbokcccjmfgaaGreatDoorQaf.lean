/- part 6 -/
import Derived.Test.YtmhbokcccjmfgaaGreatDoorQae
import Derived.Lib.Zigzag
import Derived.Lib.QuoteBits
import Derived.Lib.SlKeysI
import Derived.Deep.Onto
import Derived.Laws.CopyOwn
import Derived.Lib.BytesEntry
import Derived.Lib.SlBytesConst
set_option maxRecDepth 100000
set_option maxHeartbeats 16000000
namespace Go.Proofs.YtmhbokcccjmfgaaGreatDoor
open Go.Lib (hid)
section
open Go.RowKit
theorem x8i{a L T w S cur F}(h:Dev a L T w S cur F) g s n (hB:Blk w g 258 (z0s a s n)) (hs:s<L) (hn:2<=n) (hn2:n<=4096) (h0:cur (8*s)=0) :
  () 315 #[(g,0)] w fun e w'=>e=.returned ((),())/\Blw w w':=by
 have Gc:=hid (z2m h (64*s) 0 oM oM (by rw[show 64*s/8=8*s by omega];exact h0));have hm:=z3u (some (a.th 0,0));have Gd:=z3n (a.th 0,0);have hq:=z7p (some (a.th 0,0));have Ga:=hid hB;have f0:w.cell? (g,0)=some (memV a):=hB.cell 0;have f1:w.cell? (g,1)=some ↑(64*s:Nat):=hB.cell 1;have Gb:Hid (Blw w w.drew):=(Below.refl _ _).drew;have u1:IntKind.u64.wrap (4*((n:Int)-1))=4*((n:Int)-1):=by rw[IntKind.wrap_u64];omega
 have e1:decide (4*((n:Int)-1)<0)=false:=dF;have Ge:(2:Int)<=(n:Int):=oM;have Gf:(n:Int)<=4096:=oM;unfold memV at*;generalize 64*s=z at*;clear hB h;go_enter Tryz.func315,Tryz.ntmps315
 go_wp2;go_cut [4]from 14 to 22 (fun v wx=>v=↑[()]/\Hid (Blw w wx))
 case first =>
  go_region_with (go_at_call 39;refine(Gc.out _ Gb.out).mono ?_;rintro e w1⟨rfl,rfl⟩)
  all_goals (go_wp2_with fail;go_meet;exact⟨rfl,Gb⟩)
 case rest =>
  obtain⟨rfl,HW⟩:=hcut;have k0:wc.cell? (g,0)=some ↑(57,a.th 0,0):=(Ga.out.below HW.out Ga.out.lt).cell 0;have k2:wc.cell? (g,2)=some ↑[n]:=(Ga.out.below HW.out Ga.out.lt).cell 2;go_wp2;go_loopw [5,30] (fun l i wr=>l=↑((),())/\i=↑()/\Hid (Blw w wr)) (fun _ _ _=>0)
  case atStart=>exact⟨rfl,rfl,HW⟩
  case round =>
   obtain⟨rfl,rfl,HR⟩:=hrel;go_wp2;go_ret;exact⟨rfl,HR.out⟩
theorem y8x{a L T w S cur F}(h:Dev a L T w S cur F) g s n (hB:Blk w g 258 (z0s a s n)) (hs:s<L) (hn:2<=n) (hn2:n<=4096) (h0:cur (8*s)=0) :
  () 271 #[(g,0)] w fun e w'=>e=.returned (.tuple #[((),()),()])/\Blw w w':=by
 have HL:=hid (x8i h g s n hB hs hn hn2 h0);have HD:=hid h;have Gd:=hid hB;have c0:w.cell? (g,0)=some (memV a):=hB.cell 0;obtain⟨ls,Gk,Gp,cs,Gn,Ge,Gg⟩:=h;obtain⟨f0,_,_,_,f4⟩:=Ge.facts (j:=0) oM;have Gl:=z1x (some (a.th 0,0));have hq:=z7p (some (a.th 0,0));clear Ge Gg hB;unfold memV at*;go_enter Tryz.func271,Tryz.ntmps271
 go_wp2_with (first
  |(go_at_call 315;refine HL.out.mono ?_;rintro e w1⟨rfl,Gb⟩;have HW:=hid Gb;have d0:w1.cell? (g,0)=some ↑(57,a.th 0,0):=(Gd.out.below Gb Gd.out.lt).cell 0;obtain⟨Gm,Gf,Gi,Gj,Gh,Ga,Gc⟩:=HD.out.below Gb;obtain⟨k0,_,_,_,k4⟩:=Ga.facts (j:=0) oM;clear Gb Ga Gc)
  |go_in)
 go_ret2;exact⟨rfl,HW.out⟩
structure BK where
 gen:Nat
 kind:Nat
 st:Nat
def BK.x(b:BK):Nat:=b.gen+b.kind*65536+b.st*16777216
def BK.w(b:BK):Nat:=z5b b.x
def BK.v(b:BK):Value := .agg #[#[b.gen],[[b.kind]],[[b.st]]]
structure BK.In(b:BK):Prop where
 g:b.gen<65536
 k:b.kind<256
 s:b.st<256
theorem BK.In.x{b:BK}(h:b.In):b.x<4294967296:=by
 have:=h.g;have:=h.k;have:=h.s;unfold BK.x;omega
def BK.good(b:BK):Bool:=if b.st=176 then b.gen != 0&&b.kind==0 else if b.st=177 then b.gen != 0&&b.kind != 0&&decide (b.kind<=127)else if b.st=178 then b.gen==65535&&b.kind==0 else false
def chV(a:DA)(ln c o g:Nat):Value := .agg #[memV a,[ln],[c],[o],#[g]]
theorem v4d(g k s:Nat)(hg:g<65536)(hk:k<256)(hs:s<256):bits .or .u32 (bits .or .u32 (g:Int) ((k:Int)*65536)) ((s:Int)*16777216)=((g+k*65536+s*16777216:Nat):Int):=by
 rw[Go.u32_or16 (y:=(g:Int)) (x:=(k:Int)*65536) oM oM oM oM oM];rw[Go.u32_or24 (y:=(g:Int)+(k:Int)*65536) (x:=(s:Int)*16777216) oM oM oM oM oM];omega
section
theorem y4h(b:BK)(hb:b.In)(w:World)(ht:Tab w):() 301 #[b.v] w fun e w'=>e=.returned b.w/\Blw w w':=by
 obtain⟨g,k,s⟩:=b;obtain⟨hg,hk,hs⟩:=hb;have Ga:Blw w (w.alloc (.cells #[#[g],[[k]],[[s]]] 335)):=(Below.refl _ w).alloc (nL _) _;have HS:=hid (z6z (BK.x ⟨g,k,s⟩) (BK.In.x ⟨hg,hk,hs⟩) _ (ht.below Ga));have HB:=hid Ga;have e1:IntKind.u32.wrap (g:Int)=(g:Int):=by rw[IntKind.wrap_u32];dsimp only at hg;omega
 have e2:IntKind.u32.wrap (k:Int)=(k:Int):=by rw[IntKind.wrap_u32];dsimp only at hk;omega
 have e3:IntKind.u32.wrap (s:Int)=(s:Int):=by rw[IntKind.wrap_u32];dsimp only at hs;omega
 have e4:bits .or .u32 (bits .or .u32 (g:Int) ((k:Int)*65536)) ((s:Int)*16777216)=(BK.x ⟨g,k,s⟩:Int):=v4d g k s hg hk hs;unfold BK.w BK.v;dsimp only at hg hk hs⊢;clear ht Ga;generalize BK.x ⟨g,k,s⟩=xx at*;generalize z5b xx=z at*;go_enter Tryz.func301,Tryz.ntmps301
 go_wp2_with fail
 refine HS.out.mono ?_;rintro e w1⟨rfl,Gb⟩;have Gc:=hid (HB.out.trans (Gb.mono HB.out.size));clear Gb HS;go_wp2;go_ret;exact⟨rfl,Gc.out⟩
theorem y5b(b:BK)(hb:b.In)(w:World)(ht:Tab w):() 282 #[b.w] w fun e w'=>e=.returned (.tuple #[b.v,true])/\Blw w w':=by
 obtain⟨g,k,s⟩:=b;have hx:=hb.x;obtain⟨hg,hk,hs⟩:=hb;dsimp only at hg hk hs;have Gc:Blw w (w.alloc (.cells #[.int .u16 0,.int .u8 0,.int .u8 0] 335)):=(Below.refl _ w).alloc (nL _) _;have HS:=hid (z6z (BK.x ⟨g,k,s⟩) hx _ (ht.below Gc));have HB:=hid Gc;have Gf:BK.x ⟨g,k,s⟩=g+k*65536+s*16777216:=rfl;have e1:IntKind.u32.wrap ((z5b (BK.x ⟨g,k,s⟩):Nat):Int)=(BK.x ⟨g,k,s⟩:Int):=by rw[IntKind.wrap_u32];unfold z5b;omega
 have e2:IntKind.u16.wrap (BK.x ⟨g,k,s⟩:Int)=(g:Int):=by rw[IntKind.wrap_u16];omega
 have e3:IntKind.u8.wrap ((BK.x ⟨g,k,s⟩:Int)/65536)=(k:Int):=by rw[IntKind.wrap_u8];omega
 have e4:IntKind.u8.wrap ((BK.x ⟨g,k,s⟩:Int)/16777216)=(s:Int):=by rw[IntKind.wrap_u8];omega
 unfold BK.w BK.v;dsimp only;clear ht Gc Gf;generalize BK.x ⟨g,k,s⟩=xx at*;generalize z5b xx=z at*;go_enter Tryz.func282,Tryz.ntmps282
 go_wp2_with fail
 refine HS.out.mono ?_;rintro e w1⟨rfl,Gb⟩;have Gd:=HB.out.trans (Gb.mono HB.out.size);have Ga:=(Blk.new w 335 #[.int .u16 0,.int .u8 0,.int .u8 0]).below Gb (by simp);have c0:w1.cell? (w,())=some (.int .u16 0):=Ga.cell 0;have c1:w1.cell? ⟨w.heap.size,1,none⟩=some (.int .u8 0):=Ga.cell 1;have c2:w1.cell? ⟨w.heap.size,2,none⟩=some (.int .u8 0):=Ga.cell 2;have z0:w1.frozen? (w,())=false:=Ga.frozen 0;have z1:w1.frozen? ⟨w.heap.size,1,none⟩=false:=Ga.frozen 1;have z2:w1.frozen? ⟨w.heap.size,2,none⟩=false:=Ga.frozen 2;have Ge:=hid Gd;clear Gb Gd Ga HS;go_wp2;have Gg:((w,()):Addr)≠⟨w.heap.size,1,none⟩:=by simp
 have Gh:((w,()):Addr)≠⟨w.heap.size,2,none⟩:=by simp
 have Gi:(⟨w.heap.size,1,none⟩:Addr)≠⟨w.heap.size,2,none⟩:=by simp
 refine bodyPost_ret (v := .tuple #[.agg #[#[g],[[k]],[[s]]],true]) (by simp[results,Tryz.results282,go_sem,c0,c1,c2]) rfl ⟨rfl,?_⟩;exact((Ge.out.setCell (p:=⟨w.heap.size,0,none⟩) (nL _) #[g]).setCell (p:=⟨w.heap.size,1,none⟩) (nL _) [[k]]).setCell (p:=⟨w.heap.size,2,none⟩) (nL _) [[s]]
theorem z5m{x:Nat}(h:¬x=0):((x:Int)==0)=false/\((x:Int) != 0)=true/\(x==0)=false/\(x != 0)=true:=by
 have e1:((x:Int)==0)=false:=by rw[beq_eq_false_iff_ne];omega
 have e2:(x==0)=false:=by rw[beq_eq_false_iff_ne];exact h
 exact⟨e1,by simp only[bne,e1,Bool.not_false],e2,by simp only[bne,e2,Bool.not_false]⟩
theorem y6o(b:BK)(hb:b.In)(w:World):Calls Tryz.prog 242 #[b.v] w fun e w'=>e=.returned (.bool b.good)/\Blw w w':=by
 obtain⟨g,k,s⟩:=b;obtain⟨hg,hk,hs⟩:=hb;dsimp only at hg hk hs;generalize hr:(BK.mk g k s).good=r;unfold BK.good at hr;dsimp only at hr;have HR:=hid hr;clear hr;unfold BK.v;dsimp only;by_cases h1:s=176
 ·subst h1
  by_cases hg0:g=0
  ·subst hg0
   go_enter Tryz.func242,Tryz.ntmps242
   go_wp2;go_ret;exact⟨by rw[<- HR.out];simp,(Below.refl _ w).alloc (nL _) _⟩
  ·obtain⟨g1,g2,g3,g4⟩:=z5m hg0
   by_cases hk0:k=0
   ·subst hk0
    go_enter Tryz.func242,Tryz.ntmps242
    go_wp2;go_ret;exact⟨by rw[<- HR.out];simp[g4],(Below.refl _ w).alloc (nL _) _⟩
   ·obtain⟨k1,k2,k3,k4⟩:=z5m hk0
    go_enter Tryz.func242,Tryz.ntmps242
    go_wp2;go_ret;exact⟨by rw[<- HR.out];simp[g4,k3],(Below.refl _ w).alloc (nL _) _⟩
 ·have s1:((s:Int)==176)=false:=by rw[beq_eq_false_iff_ne];omega
  by_cases h2:s=177
  ·subst h2
   by_cases hg0:g=0
   ·subst hg0
    go_enter Tryz.func242,Tryz.ntmps242
    go_wp2;go_ret;exact⟨by rw[<- HR.out];simp,(Below.refl _ w).alloc (nL _) _⟩
   ·obtain⟨g1,g2,g3,g4⟩:=z5m hg0
    by_cases hk0:k=0
    ·subst hk0
     go_enter Tryz.func242,Tryz.ntmps242
     go_wp2;go_ret;exact⟨by rw[<- HR.out];simp,(Below.refl _ w).alloc (nL _) _⟩
    ·obtain⟨k1,k2,k3,k4⟩:=z5m hk0
     by_cases hk7:k<=127
     ·have k5:decide ((k:Int)<=127)=true:=dT
      go_enter Tryz.func242,Tryz.ntmps242
      go_wp2;go_ret;exact⟨by rw[<- HR.out];simp[g4,k4,hk7],(Below.refl _ w).alloc (nL _) _⟩
     ·have k5:decide ((k:Int)<=127)=false:=dF
      go_enter Tryz.func242,Tryz.ntmps242
      go_wp2;go_ret;exact⟨by rw[<- HR.out];simp[hk7],(Below.refl _ w).alloc (nL _) _⟩
  ·have s2:((s:Int)==177)=false:=by rw[beq_eq_false_iff_ne];omega
   by_cases h3:s=178
   ·subst h3
    by_cases hg0:g=65535
    ·subst hg0
     by_cases hk0:k=0
     ·subst hk0
      go_enter Tryz.func242,Tryz.ntmps242
      go_wp2;go_ret;exact⟨by rw[<- HR.out];simp,(Below.refl _ w).alloc (nL _) _⟩
     ·obtain⟨k1,k2,k3,k4⟩:=z5m hk0
      go_enter Tryz.func242,Tryz.ntmps242
      go_wp2;go_ret;exact⟨by rw[<- HR.out];simp[k3],(Below.refl _ w).alloc (nL _) _⟩
    ·have g1:((g:Int)==65535)=false:=by rw[beq_eq_false_iff_ne];omega
     go_enter Tryz.func242,Tryz.ntmps242
     go_wp2;go_ret;exact⟨by rw[<- HR.out];simp[hg0],(Below.refl _ w).alloc (nL _) _⟩
   ·have s3:((s:Int)==178)=false:=by rw[beq_eq_false_iff_ne];omega
    go_enter Tryz.func242,Tryz.ntmps242
    go_wp2;go_ret;exact⟨by rw[<- HR.out];simp[h1,h2,h3],(Below.refl _ w).alloc (nL _) _⟩
theorem y2c a ln c o g w:() 174 #[chV a ln c o g] w fun e w'=>e=.returned [c]/\Blw w w':=by
 have HB:=hid ((Below.refl _ w).alloc (nL _) (.cells #[memV a,[ln],[c],[o],#[g]] 251));have hq:=z7p (some (a.th 0,0));unfold chV;unfold memV at*;go_enter Tryz.func174,Tryz.ntmps174
 go_wp2;go_ret;exact⟨rfl,HB.out⟩
theorem y0f a ln c o g (hc:c<5) w (hp:Pay w):() 297 #[chV a ln c o g] w fun e w'=>e=.returned [perC c]/\Blw w w':=by
 have Gc:Blw w (w.alloc (.cells #[memV a,[ln],[c],[o],#[g]] 251)):=(Below.refl _ w).alloc (nL _) _;have HB:=hid Gc;have HC:=hid (y2c a ln c o g (w.alloc (.cells #[memV a,[ln],[c],[o],#[g]] 251)));have HP:Hid (∀W,Blw w W->() 173 #[[c]] W fun e w'=>e=.returned [perC c]/\W=w'):=hid (fun W hW=>z2i c hc W (hp.below hW));clear Gc hp;unfold chV at*;unfold memV at*;go_enter Tryz.func297,Tryz.ntmps297
 go_wp2_with fail
 refine HC.out.mono ?_;rintro e w1⟨rfl,Gb⟩;have Ga:=hid (HB.out.trans (Gb.mono HB.out.size));have Gd:=hid (HP.out w1 Ga.out);clear Gb HC HP HB;go_wp2_with fail
 refine Gd.out.mono ?_;rintro e w2⟨rfl,rfl⟩;go_wp2;go_ret;exact⟨rfl,Ga.out⟩
theorem y2d a ln c o g i (hc:c<5) w (hp:Pay w):() 241 #[chV a ln c o g,[i]] w fun e w'=>e=.returned (decide (i<perC c))/\Blw w w':=by
 have Ga:Blw w (w.alloc (.cells #[memV a,[ln],[c],[o],#[g]] 251)):=(Below.refl _ w).alloc (nL _) _;have HB:=hid Ga;have HC:=hid (y0f a ln c o g hc _ (hp.below Ga));have d1:decide ((i:Int)<(perC c:Int))=decide (i<perC c):=by
  by_cases h:i<perC c
  ·rw[decide_eq_true h,dT]
  ·rw[decide_eq_false h,dF]
 have h0:(0:Int)<=(i:Int):=oM;clear Ga hp;unfold chV at*;unfold memV at*;generalize perC c=r at*;go_enter Tryz.func241,Tryz.ntmps241
 go_wp2_with fail
 refine HC.out.mono ?_;rintro e w1⟨rfl,Gb⟩;have Gc:=hid (HB.out.trans (Gb.mono HB.out.size));clear Gb HC HB;go_wp2;go_ret;exact⟨by first|rfl|(simp),Gc.out⟩
end
end
section
open Go.RowKit
def Stop(p:Prop):Prop:=p
theorem stop{p}(h:Stop p):p:=h
structure LogU(cur:Nat->Nat)(s:Nat)(ws:List (Nat×Nat)):Prop where
 count:cur (8*s)=ws.length
 at_:∀i (h:i<ws.length),cur (8*s+8+2*i)=(ws[i]).1/\cur (8*s+8+2*i+1)=(ws[i]).2
theorem LogU.none{cur s}(h:cur (8*s)=0):LogU cur s []:=⟨h,fun i h=>by simp at h⟩
theorem y0i(v:Value)(g z k:Nat)(nv:Value)(w:World)(hB:Blk w g 258 #[v,z,nv])(hz:z<=1000000000)(hk:k<=1000000):
  () 313 #[(g,()),[k]] w fun e w'=>e=.returned (z+64+16*k:Nat)/\w=w':=by
 have f1:w.cell? ⟨g,1,none⟩=some ↑z:=hB.cell 1;have u1:IntKind.u64.wrap ((z:Int)+64)=((z+64:Nat):Int):=by rw[IntKind.wrap_u64];omega
 have u2:IntKind.u64.wrap (k:Int)=(k:Int):=by rw[IntKind.wrap_u64];omega
 have u3:IntKind.u64.wrap ((k:Int)*16)=((16*k:Nat):Int):=by rw[IntKind.wrap_u64];omega
 have u4:IntKind.u64.wrap (((z+64:Nat):Int)+((16*k:Nat):Int))=((z+64+16*k:Nat):Int):=by rw[IntKind.wrap_u64];omega
 generalize z+64+16*k=y at*;generalize z+64=x at*;generalize 16*k=q at*;clear hB;go_enter Tryz.func313,Tryz.ntmps313
 go_wp2;go_ret;exact⟨rfl,rfl⟩
def w4a(w:World)(ws:List (Nat×Nat))(e:Ending)(w':World):Prop:=∃A m c,e=.returned (.slice A m c)/\m=ws.length/\w'.ownsRow w 117 2 (.slice A m c) m (z0a ws)/\Blw w w'
theorem z1o ws (e:Nat×Nat):z0a (ws++[e])=z0a ws++[.int .u64 e.1,.int .u64 e.2]:=by simp[z0a]
theorem x0m{α:Type}(l:List α) k (h:k<l.length):l.take (k+1)=l.take k++[l[k]]:=by simp
theorem w2w{a L T w S cur F}(h:Dev a L T w S cur F)(g s n:Nat)(hB:Blk w g 258 (z0s a s n))(hs:s+n<=L)(hn:2<=n)(ws:List (Nat×Nat))(hl:LogU cur s ws)(hc:ws.length<=4*(n-1)):
  () 315 #[(g,())] w (w4a w ws):=by
 obtain⟨i0,Gm,Gp,Gq,Gr⟩:=info_parts z1l;have hL:L<=4096:=by obtain⟨ls,Gs,G4,cs,G3,Gl,G0⟩:=h;exact Gl.hL
 have Gj:=hid (z2m h (64*s) ws.length oM oM (by rw[show 64*s/8=8*s by omega];exact hl.count));have Gg:Hid (∀k (hk:k<ws.length) W,Blw w W->() 39 #[(a.th 0,()),(64*s+64+16*k:Nat)] W fun e w'=>e=.returned (.int .u64 ((ws[k]).1:Int))/\W=w'):=fun k hk W hW =>
  z2m h (64*s+64+16*k) (ws[k]).1 oM oM (by rw[show(64*s+64+16*k)/8=8*s+8+2*k by omega];exact(hl.at_ k hk).1) W hW
 have Gh:Hid (∀k (hk:k<ws.length) W,Blw w W->() 39 #[(a.th 0,()),(64*s+64+16*k+8:Nat)] W fun e w'=>e=.returned (.int .u64 ((ws[k]).2:Int))/\W=w'):=fun k hk W hW =>
  z2m h (64*s+64+16*k+8) (ws[k]).2 oM oM (by rw[show(64*s+64+16*k+8)/8=8*s+8+2*k+1 by omega];exact(hl.at_ k hk).2) W hW
 have hm:=z3u (some (a.th 0,()));have Gz:=z3n (a.th 0,());have hq:=z7p (some (a.th 0,()));have Ga:=hid hB;have f0:w.cell? (g,())=some (memV a):=hB.cell 0;have f1:w.cell? ⟨g,1,none⟩=some ↑(64*s:Nat):=hB.cell 1;have Gb:Hid (Blw w w.drew):=(Below.refl _ _).drew;have u1:IntKind.u64.wrap (4*((n:Int)-1))=4*((n:Int)-1):=by rw[IntKind.wrap_u64];omega
 have e1:decide (4*((n:Int)-1)<(ws.length:Int))=false:=dF;have Gu:(2:Int)<=(n:Int):=oM;have Gv:(n:Int)<=4096:=oM;have hN:ws.length<=16384:=oM;have Gf:Hid (∀k W,k<ws.length->Blw w W->() 313 #[(g,()),[k]] W fun e w'=>e=.returned (64*s+64+16*k:Nat)/\W=w'):=fun k W hk hW =>
  y0i _ g (64*s) k _ W (Ga.out.below hW Ga.out.lt) oM oM
 have G2:64*s<=1000000:=oM;have Gt:ws.length<=16384:=oM;unfold memV at*;generalize 64*s=z at*;clear hB h hl hc hs hn;go_enter Tryz.func315,Tryz.ntmps315
 go_wp2;go_cut [4]from 14 to 22 (fun v wx=>v=↑ws.length/\Hid (Blw w wx))
 case first =>
  go_region_with (go_at_call 39;refine(Gj.out _ Gb.out).mono ?_;rintro e w1⟨rfl,rfl⟩)
  all_goals (go_wp2_with fail;go_meet;exact⟨rfl,Gb⟩)
 case rest =>
  obtain⟨rfl,HW⟩:=hcut;have k0:wc.cell? (g,())=some (.iface 57 (a.th 0,())):=(Ga.out.below HW.out Ga.out.lt).cell 0;have k2:wc.cell? ⟨g,2,none⟩=some ↑[n]:=(Ga.out.below HW.out Ga.out.lt).cell 2;have Gd:Hid (wc.ownsRow w 117 2 ((),()) 0 (z0a (ws.take 0))):=World.ownsRow_nil _ _ _ _;go_wp2;go_loopw [5,30] (fun l i wr=>∃(k:Nat)(A:Option Addr)(m c:Nat),k<=ws.length/\i=↑[k]/\l=.slice A m c/\m<=k/\k<=m/\Hid (wr.ownsRow w 117 2 (.slice A m c) m (z0a (ws.take k)))/\Hid (Blw w wr)) (fun _ i _=>ws.length-(RowKit.intOf i).toNat)
  case atStart=>exact⟨0,_,_,_,Nat.zero_le _,rfl,rfl,nL _,nL _,Gd,HW⟩
  case round =>
   clear Gd HW;obtain⟨k,A,m,c,hk,rfl,rfl,Gx,Gy,HO,H⟩:=hrel;by_cases hlt:k<ws.length
   ·have G1:(k:Int)<(ws.length:Int):=oM
    have Gn:k<ws.length:=oM;have HE:=hid (Gf.out k wr hlt H.out);have HA:=hid (Gg.out k hlt wr H.out);have HB:=hid (Gh.out k hlt wr H.out);have Gk:=hid (x0m ws k Gn);have u2:IntKind.u64.wrap (((z+64+16*k:Nat):Int)+8)=((z+64+16*k+8:Nat):Int):=by rw[IntKind.wrap_u64];omega
    generalize ws[k]=e at*;generalize z+64+16*k+8=y2 at*;generalize z+64+16*k=y at*;have Gi:=hid H.out.size;go_wp2_with fail
    refine HE.out.mono ?_;rintro e1 w1⟨rfl,rfl⟩;go_wp2_with fail
    refine HA.out.mono ?_;rintro e1 w1⟨rfl,rfl⟩;go_wp2_with fail
    refine HB.out.mono ?_;rintro e1 w1⟨rfl,rfl⟩;go_wp2_with (at_builtin;refine stop ?_)
    unfold Stop;refine z0m _ (.tmp 36) (.tmp 45) 118 rfl rfl w 117 i0 _ 2 16 Tryz.underlying118 Gm Gp Gq Gr rfl oM (.slice A m c) m (z0a (ws.take k)) rfl (HO.out.alloc _) (wr+1) (some (wr,())) 1 1 [e.1,e.2] rfl (z0j _ _ rfl _ 1 2 117 _ rfl rfl) (z2k _ _) (by unfold maxLen;omega) oM (by have:=Gi.out;simp;omega) ?_;intro A3 n3 c3 w8 hn3 ho3 hg3 hb3;have Ge:Hid (w8.ownsRow w 117 2 (.slice A3 n3 c3) n3 (z0a (ws.take (k+1)))):=hid (by rw[Gk.out,z1o];exact ho3);have Gc:=hid ((H.out.alloc H.out.size _).trans hb3);have b1:n3<=k+1:=oM;have b2:k+1<=n3:=oM;clear hn3 ho3 hg3 hb3;go_wp2;go_roundw
    case rel =>
     first
      |exact⟨k+1,_,_,_,oM,by go_num,rfl,b1,b2,Ge,Gc⟩
      |(
        repeat apply Exists.intro
        refine⟨?_,rfl⟩;exact⟨k+1,_,_,_,oM,by go_num,rfl,b1,b2,Ge,Gc⟩)
    case measure=>simp[RowKit.intOf];omega
   ·have Gw:k=ws.length:=oM
    go_wp2;go_ret;refine⟨_,_,_,rfl,oM,?_,H.out⟩;have h:=HO.out;rw[List.take_of_length_le oM]at h;exact h
def w7u(w:World)(ws:List (Nat×Nat))(e:Ending)(w':World):Prop:=∃A m c,e=.returned (.tuple #[.slice A m c,()])/\m=ws.length/\w'.ownsRow w 117 2 (.slice A m c) m (z0a ws)/\Blw w w'
theorem y2j{a L T w S cur F}(h:Dev a L T w S cur F) g s n (hB:Blk w g 258 (z0s a s n)) (hs:s+n<=L) (hn:2<=n) ws (hl:LogU cur s ws) (hc:ws.length<=4*(n-1)) :
  () 271 #[(g,0)] w (w7u w ws):=by
 have HL:=hid (w2w h g s n hB hs hn ws hl hc);have HD:=hid h;have Gd:=hid hB;have c0:w.cell? (g,0)=some (memV a):=hB.cell 0;obtain⟨ls,Gk,Gp,cs,Gn,Ge,Gg⟩:=h;obtain⟨f0,_,_,_,f4⟩:=Ge.facts (j:=0) oM;have Gl:=z1x (some (a.th 0,0));have hq:=z7p (some (a.th 0,0));clear Ge Gg hB;unfold memV at*;go_enter Tryz.func271,Tryz.ntmps271
 go_wp2_with (first
  |(go_at_call 315;refine HL.out.mono ?_;rintro e w1⟨A,m,c,rfl,hm,ho,Gb⟩;have HM:=hid hm;have HO:=hid ho;have HW:=hid Gb;have d0:w1.cell? (g,0)=some ↑(57,a.th 0,0):=(Gd.out.below Gb Gd.out.lt).cell 0;obtain⟨Gm,Gf,Gi,Gj,Gh,Ga,Gc⟩:=HD.out.below Gb;obtain⟨k0,_,_,_,k4⟩:=Ga.facts (j:=0) oM;clear Gb Ga Gc hm ho)
  |go_in)
 go_ret2;exact⟨_,_,_,rfl,HM.out,HO.out,HW.out⟩
def lev:List Nat->Nat
 |[]=>0
 |b::l=>b+256*lev l
theorem x5e:∀(l:List Nat)(b:Nat),lev (l++[b])=lev l+256^l.length*b
 |[],b=>by simp[lev]
 |a::l,b=>by
  show a+256*lev (l++[b])=a+256*lev l+256^(l.length+1)*b;rw[x5e l b,Nat.pow_succ,Nat.mul_add,Nat.add_assoc,<- Nat.mul_assoc,Nat.mul_comm 256 (256^l.length)]
theorem x5d:∀(l:List Nat),(∀b∈l,b<256)->lev l<256^l.length
 |[],_=>by simp[lev]
 |a::l,h=>by
  have h1:=x5d l (fun b hb=>h b (by simp[hb]));have h2:=h a (by simp);show a+256*lev l<256^(l.length+1);rw[Nat.pow_succ];omega
theorem x5c:∀(l:List Nat),(∀b∈l,b<256)->∀k (hk:k<l.length),lev l/256^k%256=l[k]
 |[],_,k,hk=>by simp at hk
 |a::l,h,0,_=>by
  have:=h a (by simp);show(a+256*lev l)/256^0%256=a;rw[Nat.pow_zero,Nat.div_one];omega
 |a::l,h,k+1,hk=>by
  have hk':k<l.length:=by simpa using hk
  have h1:=x5c l (fun b hb=>h b (by simp[hb])) k hk';have h2:=h a (by simp);show(a+256*lev l)/256^(k+1)%256=l[k]'hk';rw[Nat.pow_succ,Nat.mul_comm (256^k) 256,<- Nat.div_div_eq_div_mul,show(a+256*lev l)/256=lev l by omega];exact h1
def z3r(p:List Nat):List Nat:=(List.range ((p.length+7)/8)).map fun j=>lev ((p.drop (8*j)).take 8)
theorem z4g p:(z3r p).length=(p.length+7)/8:=by simp[z3r]
theorem w6m{p}(h:∀b∈p,b<256):∀x∈z3r p,x<18446744073709551616:=fun x hx=>by
 obtain⟨j,_,rfl⟩:=List.mem_map.1 hx;have h1:=x5d ((p.drop (8*j)).take 8) (fun b hb=>h b (List.mem_of_mem_drop (List.mem_of_mem_take hb)));have h2:((p.drop (8*j)).take 8).length<=8:=by simp;omega
 have h3:256^((p.drop (8*j)).take 8).length<=256^8:=Nat.pow_le_pow_right oM h2;have h4:(256:Nat)^8=18446744073709551616:=by decide
 omega
theorem x8b{p}(h:∀b∈p,b<256){i}(hi:i<p.length):∃x,(z3r p)[i/8]?=some x/\x/256^(i%8)%256=p[i]:=by
 refine⟨lev ((p.drop (8*(i/8))).take 8),?_,?_⟩
 ·unfold z3r
  rw[List.getElem?_map,List.getElem?_range oM];rfl
 ·have hl:i%8<((p.drop (8*(i/8))).take 8).length:=by simp;omega
  rw[x5c _ (fun b hb=>h b (List.mem_of_mem_drop (List.mem_of_mem_take hb))) _ hl];simp only[List.getElem_take,List.getElem_drop];congr 1
  omega
def w9e(n:Nat):Nat:=if 456<n then 60 else payW (z3h (3+(n+7)/8))
theorem x4j n:z3h n<5:=by
 unfold z3h;repeat' split
 all_goals omega
def payB(next:Nat)(p:List Nat):List Nat:=[next,p.length*4294967297]++z3r (p.take 456)++List.replicate (w9e p.length-3-(z3r (p.take 456)).length) 0
def payL(next:Nat)(p:List Nat):List Nat:=payB next p++[sumW (payB next p)]
theorem y5c g n cap sz xs w (h:z0t w w g xs sz) (hl:xs.length=n) (hn:n<=1000000) (hc:n<=cap) (hcm:cap<=9223372036854775807) :
  () 160 #[(g,0,n,cap)] w (z3f w g xs sz):=w7j g n cap sz xs w h hl hn hc hcm
theorem y4s{a L T w S cur F}(h:Dev a L T w S cur F) g s n (hB:Blk w g 258 (z0s a s n)) (hs:s<L) (hn:2<=n) (hn2:n<=4096) (h0:cur (8*s)=0) :
  () 222 #[(g,0)] w fun e w'=>e=.returned (.tuple #[((),()),true,()])/\Blw w w':=by
 have HL:=hid (y8x h g s n hB hs hn hn2 h0);clear h hB;go_enter Tryz.func222,Tryz.ntmps222
 go_wp2_with (go_at_call 271;refine HL.out.mono ?_;rintro e w1⟨rfl,Ga⟩;have HW:=hid Ga;clear Ga)
 go_loopw [7,20] (fun l i wr=>l=↑((),())/\i=↑()/\Hid (Blw w wr)) (fun _ _ _=>0)
 case atStart=>exact⟨rfl,rfl,HW⟩
 case round =>
  obtain⟨rfl,rfl,HR⟩:=hrel;go_wp2;go_ret3
  exact⟨rfl,HR.out⟩
theorem z5z{a L T w S cur F}(h:Dev a L T w S cur F) g s n (hB:Blk w g 258 (z0s a s n)) (hs:s<L) (hn:2<=n) (hn2:n<=4096) (h0:cur (8*s)=0) :
  () 134 #[(g,0)] w fun e w'=>e=.returned (.tuple #[(),()])/\Blw w w':=by
 have HL:=hid (y4s h g s n hB hs hn hn2 h0);clear h hB;go_enter Tryz.func134,Tryz.ntmps134
 go_wp2_with (go_at_call 222;refine HL.out.mono ?_;rintro e w1⟨rfl,Ga⟩;have HW:=hid Ga;clear Ga)
 go_ret2;exact⟨rfl,HW.out⟩
theorem y9q{a L T w S cur F}(h:Dev a L T w S cur F)(c:Nat)(hc:c+32<=L)(V:Nat)(x0 x1 x2:Int)(hv:cur (8*c)=V)
  (hh:∀W,Blw w W->() 280 #[V] W fun e w'=>e=.returned (.tuple #[.agg #[[x0],[x1],#[x2]],true])/\Blw W w') :
  () 229 #[memV a,[c]] w fun e w'=>e=.returned (.tuple #[.agg #[[x0],[x1],#[x2]],()])/\Blw w w':=by
 have Gm:=hid (z2m h (64*c) V oM oM (by rw[show 64*c/8=8*c by omega];exact hv));have HD:=hid h;have HH:=hid hh;have hm:=z3u (some (a.th 0,()));have Gx:=z3n (a.th 0,());have Gv:=z1x (some (a.th 0,()));have Gw:=z6w (some (a.th 0,()));have hq:=z7p (some (a.th 0,()));have Gb:Hid (Blw w (w.alloc (.cells #[(),(),.int .u16 0] 249))):=(Below.refl _ _).alloc (nL _) _;obtain⟨ls,Gu,G0,cs,Gz,Ge,Gq⟩:=h.below Gb.out;have hL:=Ge.hL;obtain⟨f0,f2,_,_,f4⟩:=Ge.facts (j:=0) oM;have Gh:=hid (Blk.new w 249 #[(),(),.int .u16 0]);clear Ge Gq h hh;unfold memV at*;have e1:decide ((c:Int)<0)=false:=dF;have u1:IntKind.u64.wrap ((L:Int)*64)=(L:Int)*64:=by rw[IntKind.wrap_u64];omega
 have u3:IntKind.u64.wrap (c:Int)=(c:Int):=by rw[IntKind.wrap_u64];omega
 have u4:IntKind.u64.wrap ((L:Int)-32)=(L:Int)-32:=by rw[IntKind.wrap_u64];omega
 have u5:IntKind.u64.wrap ((c:Int)*64)=((64*c:Nat):Int):=by rw[IntKind.wrap_u64];omega
 have d1:((L:Int)*64).tdiv 64=(L:Int):=by rw[Int.mul_tdiv_cancel _ (by decide)]
 have e2:decide ((L:Int)<32)=false:=dF;have e3:decide ((L:Int)-32<(c:Int))=false:=dF;generalize 64*c=z at*;go_enter Tryz.func229,Tryz.ntmps229
 go_wp2;generalize w.alloc (.cells #[(),(),.int .u16 0] 249)=W at*;have Gi:Hid (Blw W W.drew):=(Below.refl _ _).drew;have Gj:Hid (Blw w W.drew):=Gb.out.drew;go_cut [8]from 38 to 44 (fun v wx=>v=↑V/\Hid (Blw W wx))
 case first =>
  go_region_with (first|(go_at_call 39;refine(Gm.out _ Gj.out).mono ?_;rintro e w1⟨rfl,rfl⟩)|go_in)
  all_goals (go_wp2_with fail;go_meet;exact⟨rfl,Gi⟩)
 case rest =>
  obtain⟨rfl,HW⟩:=hcut;have Gc:=hid (Gb.out.trans (HW.out.mono Gb.out.size));obtain⟨Gy,Gn,Gs,Gt,Gr,Ga,Gf⟩:=HD.out.below Gc.out;obtain⟨k0,_,_,_,k4⟩:=Ga.facts (j:=0) oM;have Gl:=hid (HH.out wc Gc.out);have Gg:=hid (Gh.out.below HW.out Gh.out.lt);clear Ga Gf;go_wp2_with (first
   |(go_at_call 280;refine Gl.out.mono ?_;rintro e w1⟨rfl,Gd⟩;have Gk:=hid (Gc.out.trans (Gd.mono Gc.out.size));have hk:=Gg.out.below Gd Gg.out.lt;have Gp:=hk.lt;have c0:w1.cell? (w,())=some ↑():=hk.cell 0;have c1:w1.cell? ⟨w.heap.size,1,none⟩=some ↑():=hk.cell 1;have c2:w1.cell? ⟨w.heap.size,2,none⟩=some (.int .u16 0):=hk.cell 2;have z0:w1.frozen? (w,())=false:=hk.frozen 0;have z1:w1.frozen? ⟨w.heap.size,1,none⟩=false:=hk.frozen 1;have z2:w1.frozen? ⟨w.heap.size,2,none⟩=false:=hk.frozen 2;clear Gd hk)
   |go_in)
  refine bodyPost_ret (v := .tuple #[.agg #[[x0],[x1],#[x2]],()]) (by simp[results,Tryz.results229,go_sem,c0,c1,c2,Gp]) rfl ⟨rfl,?_⟩;have h1:=((Gk.out.setCell (p:=⟨w.heap.size,0,none⟩) (nL _) [x0]).setCell (p:=⟨w.heap.size,1,none⟩) (nL _) [x1]).setCell (p:=⟨w.heap.size,2,none⟩) (nL _) #[x2];exact h1.alloc h1.size _
section
variable{a:DA}{L T:Nat}{w:World}{S:Fp}{cur:Nat->Nat}{F:Nat}
theorem z5c ln (hl:ln<=1000000) W:() 269 #[[ln]] W fun e w'=>e=.returned (64*ln:Nat)/\W=w':=by
 have u3:IntKind.u64.wrap (ln:Int)=(ln:Int):=by rw[IntKind.wrap_u64];omega
 have u5:IntKind.u64.wrap ((ln:Int)*64)=((64*ln:Nat):Int):=by rw[IntKind.wrap_u64];omega
 generalize 64*ln=z at*;go_enter Tryz.func269,Tryz.ntmps269
 go_wp2;go_ret;exact⟨rfl,rfl⟩
def z0w(a:DA)(ln c g:Nat):Array Value:=#[memV a,[ln],[c],(),#[g]]
theorem y0s(h:Dev a L T w S cur F) ln cl g V (hl:ln+32<=L) (hv:cur (8*ln+1)=V):() 281 #[chV a ln cl 0 g] w fun e w'=>e=.returned V/\Blw w w':=by
 obtain⟨_,_,_,_,_,Gb,_⟩:=id h;have hL:=Gb.hL;clear Gb;have Gd:=hid (z2m h (64*ln+8) V oM oM (by rw[show(64*ln+8)/8=8*ln+1 by omega];exact hv));have Ge:=hid (z5c ln oM);have Gf:=z3n (a.th 0,0);have hm:=z3u (some (a.th 0,0));have Gc:Hid (Blw w (w.alloc (.cells (z0w a ln cl g) 251))):=(Below.refl _ _).alloc (nL _) _;have HK:=hid (Blk.new w 251 (z0w a ln cl g));clear h hv;unfold chV;unfold z0w memV at*;have hz:64*ln+8<9000000000:=oM;have e1:IntKind.u64.wrap (((64*ln:Nat):Int)+8)=((64*ln+8:Nat):Int):=by rw[IntKind.wrap_u64];omega
 generalize 64*ln+8=z8 at*;generalize 64*ln=z at*;go_enter Tryz.func281,Tryz.ntmps281
 go_wp2_with fail
 generalize w.alloc (.cells #[(57,a.th 0,0),[ln],[cl],(),#[g]] 251)=W at*;have f0:W.cell? (w,0)=some ↑(57,a.th 0,0):=HK.out.cell 0;have f1:W.cell? (w,1)=some ↑[ln]:=HK.out.cell 1;have Ga:Hid (Blw w W.drew):=Gc.out.drew;go_region_with (first
  |(go_at_call 39;refine(Gd.out _ Ga.out).mono ?_;rintro e w1⟨rfl,rfl⟩)
  |(go_at_call 269;refine(Ge.out _).mono ?_;rintro e w1⟨rfl,rfl⟩))
 all_goals (go_wp2;go_ret;exact⟨rfl,Ga.out⟩)
theorem z8i ln cl g i (hl:ln<=1000000) (hc:cl<5) (hi:i<perC cl) w (hp:Pay w):() 244 #[chV a ln cl 0 g,[i]] w fun e w'=>e=.returned (64*ln+8*offB cl i:Nat)/\Blw w w':=by
 have hb:Blw w (w.alloc (.cells (z0w a ln cl g) 251)):=(Below.refl _ _).alloc (nL _) _;have Ga:=hid hb;have HO:=hid (y4x cl i hc hi _ (hp.below hb));have Gb:=hid (z5c ln oM);have ho:=off_lt hi;clear hb hp;unfold chV;unfold z0w memV at*;have u1:IntKind.u64.wrap (offB cl i:Int)=(offB cl i:Int):=by rw[IntKind.wrap_u64];omega
 have u2:IntKind.u64.wrap ((offB cl i:Int)*8)=(offB cl i:Int)*8:=by rw[IntKind.wrap_u64];omega
 have u3:IntKind.u64.wrap (((64*ln:Nat):Int)+(offB cl i:Int)*8)=((64*ln+8*offB cl i:Nat):Int):=by rw[IntKind.wrap_u64];omega
 have hz:64*ln<9000000000:=oM;generalize 64*ln+8*offB cl i=zz at*;generalize offB cl i=ob at*;generalize 64*ln=z at*;clear ho;go_enter Tryz.func244,Tryz.ntmps244
 go_wp2_with (first
  |(go_at_call 298;refine HO.out.mono ?_;rintro e w1⟨rfl,rfl⟩)
  |(go_at_call 269;refine(Gb.out _).mono ?_;rintro e w1⟨rfl,rfl⟩))
 go_ret;exact⟨rfl,Ga.out⟩
end
end
section
open Go.RowKit Go.Maps
structure CX where
 w0:World
 a:DA
 x:SA
 gw:Nat
 cs:Array Value
section
variable{c:CX}{w w':World}{S:Fp}{lk:Bool}{last:Option Addr}{cur:Nat->Nat}{T:Nat}
theorem w5u(a:DA)(s n gs mr mh:Nat)(lk v:Bool):(z2d a s n gs mr mh lk).setIfInBounds 7 v=z2d a s n gs mr mh v:=rfl
theorem v0u th r u h last v:(z5l th r u h last).setIfInBounds 4 (.pointer v)=z5l th r u h v:=rfl
end
structure TX where
 words:Nat
 inner:Nat
 own:Nat
 freed:Nat
 held:Nat
 cover:Nat
 outside:Bool
 surplus:Bool
 open_ : Bool
 mode:Nat
 marks:Value
 ids:Nat
 tail:Value
def z1c(m:Nat)(t:TX):Array Value:=#[.map (some t.words),.map (some t.inner),.map (some t.own),.map (some t.freed),t.outside,t.surplus,(m,0),[[t.mode]],t.open_,t.marks,[t.ids],.map (some t.held),.map (some t.cover),t.tail]
def z2o(v o:Nat)(p:Bool):Value := .agg #[v,o,p]
def z2g(v o:Nat)(p:Bool):DataW Unit := .agg [.lit (.int .u64 v),.lit (.int .u64 o),.lit (.bool p)]
def w9j:List Value->Option (DataW Unit×List MemPlace)
 |[.int .u64 a,.int .u64 b,.bool c]=>if 0<=a/\0<=b then some (.agg [.lit (.int .u64 a),.lit (.int .u64 b),.lit (.bool c)],[])else none
 |_=>none
def z9g:Value->Option (DataW Unit×List MemPlace)
 | .agg c=>w9j c.toList
 |_=>none
theorem z6r(v o:Nat)(p:Bool):z9g (z2o v o p)=some (z2g v o p,[]):=by simp[z9g,w9j,z2o,z2g]
theorem y2b{v z}(h:z9g v=some z):∃(a b:Nat)(p:Bool),v=z2o a b p/\z=(z2g a b p,[]):=by
 unfold z9g at h;split at h
 ·rename_i cs
  unfold w9j at h;split at h
  ·rename_i a b p hl
   split at h
   ·rename_i hab
    injection h with h
    have Ga:cs=#[.int .u64 a,.int .u64 b,.bool p]:=by rw[<- Array.toArray_toList (xs:=cs),hl]
    subst Ga;refine⟨a.toNat,b.toNat,p,?_,?_⟩
    ·unfold z2o;rw[Int.toNat_of_nonneg hab.1,Int.toNat_of_nonneg hab.2]
    ·rw[<- h];unfold z2g;rw[Int.toNat_of_nonneg hab.1,Int.toNat_of_nonneg hab.2]
   ·cases h
  ·cases h
 ·cases h
def oneR:Value->Option (DataW Unit×List MemPlace):=fun _=>some (.lit (.bool true),[])
structure TxM(w:World)(t:TX)(D:DataW Unit)(n:Nat):Prop where
 words:w.ownsMap Tryz.prog 32 z9g t.words n D
 inner:w.ownsMap Tryz.prog 32 oneR t.inner 0 (.map [])
 own:w.ownsMap Tryz.prog 32 oneR t.own 0 (.map [])
 freed:w.ownsMap Tryz.prog 32 oneR t.freed 0 (.map [])
 held:w.ownsMap Tryz.prog 32 oneR t.held 0 (.map [])
 cover:w.ownsMap Tryz.prog 32 oneR t.cover 0 (.map [])
 ne:t.inner≠t.words/\t.own≠t.words/\t.freed≠t.words/\t.held≠t.words/\t.cover≠t.words
section
variable{c:CX}{g:Nat}{w w':World}{S:Fp}{t:TX}{D:DataW Unit}{n:Nat}{cur:Nat->Nat}{T:Nat}
theorem TxM.chg{Z}(h:TxM w t D n)(hc:Chg Z w w')(hz:¬Z t.words/\¬Z t.inner/\¬Z t.own/\¬Z t.freed/\¬Z t.held/\¬Z t.cover):TxM w' t D n :=
 {h with
  words:=hc.map h.words hz.1
  inner:=hc.map h.inner hz.2.1
  own:=hc.map h.own hz.2.2.1
  freed:=hc.map h.freed hz.2.2.2.1
  held:=hc.map h.held hz.2.2.2.2.1
  cover:=hc.map h.cover hz.2.2.2.2.2 }
end
end
section
open Go.RowKit Go.Maps
def SGW(S:Fp)(g k:Nat):Fp:=fun j=>(S j\/j=g)\/j=k
def put4(W:World)(b v old:Nat):World:=(((W.setCell (b,0) [()]).setCell (b,1) old).setCell (b,2) true).setCell (b,0) v
theorem w4p{W b}{tt:TypeId}{v1 x1 p1}(h:Blk W b tt #[v1,x1,p1]) v old:Blk (put4 W b v old) b tt #[v,old,true] :=
 (((h.set_ 0 [()]).set_ 1 old).set_ 2 true).set_ 0 v
theorem w7a W b v old:Chg (fun j=>j=b) W (put4 W b v old) :=
 ((((Chg.refl (fun j=>j=b) W).setCell (p:=⟨b,0,none⟩) (.inl rfl) _).setCell (p:=⟨b,1,none⟩) (.inl rfl) _).setCell (p:=⟨b,2,none⟩) (.inl rfl) _).setCell (p:=⟨b,0,none⟩) (.inl rfl) _
structure v3y(D:DataW Unit)(f:Nat->Option Nat)(n:Nat):Prop where
 at_:∀x,D.atKey (kU x) (.lit (.int .u64 0))=.lit (.int .u64 (((f x).getD 0:Nat):Int))
 has:∀x,Maps.has D (kU x)=(f x).isSome
 size:Maps.size D=n
def PMap(w:World)(b N:Nat)(f:Nat->Option Nat)(n:Nat):Prop:=∃D:DataW Unit,w.ownsMap Tryz.prog 32 (plainElem Tryz.prog 64) b N D/\v3y D f n
def updF(f:Nat->Option Nat)(x:Nat)(v:Option Nat):Nat->Option Nat:=fun y=>if y=x then v else f y
section
variable{w w':World}{b N n:Nat}{f:Nat->Option Nat}
theorem PMap.look(h:PMap w b N f n){x:Nat}(hx:x<18446744073709551616):(Instr.lookup 144 (.map (some b)) x true).run Tryz.prog w=.ok (.tuple #[((f x).getD 0:Nat),.bool (f x).isSome]) w:=by
 obtain⟨D,ho,hd⟩:=h;obtain⟨v,ps,Ga,hv⟩:=ho.look_ok z1g Tryz.underlying144 (z := .int .u64 0) (by kernel_rfl) (plainElem_int Tryz.underlying64 (by decide)) (keyU hx);obtain⟨c,rfl,hc,Gb⟩:=plainElem_int_inv Tryz.underlying64 hv;rw[hd.at_ x]at hc;simp at hc;rw[Ga,hd.has x,<- hc.1]
theorem PMap.put(h:PMap w b N f n)(hN:N<maxLen){x p:Nat}(hx:x<18446744073709551616)(hp:p<18446744073709551616)(hf:f x=none):
  ∃w',(Instr.mapUpdate 144 (.map (some b)) x p).run Tryz.prog w=.ok () w'/\PMap w' b (N+1) (updF f x (some p)) (n+1)/\w.grownBy w' (some b):=by
 obtain⟨D,ho,hd⟩:=h;obtain⟨w',Ga,Gb,hg⟩:=ho.update z1g Tryz.underlying144 hN (keyU hx) (plainElem_int Tryz.underlying64 (z9x hp));refine⟨w',Ga,⟨_,Gb,⟨fun y=>?_,fun y=>?_,?_⟩⟩,hg⟩
 ·unfold updF
  by_cases hy:y=x
  ·subst hy;rw[atKey_put_same ho.isMap (z4z y)];simp
  ·rw[atKey_put_other (z7f hy),hd.at_ y,if_neg hy]
 ·unfold updF
  by_cases hy:y=x
  ·subst hy;rw[has_put_same ho.isMap (z4z y)];simp
  ·rw[has_put_other (z7f hy),hd.has y,if_neg hy]
 ·rw[size_put (ho.tidy z1g),hd.has x,hf,hd.size];rfl
theorem PMap.del(h:PMap w b N f n){x:Nat}(hx:x<18446744073709551616){p:Nat}(hf:f x=some p):
  ∃w',(Builtin.delete_ #[144,32] 0 #[.map (some b),x]).run Tryz.prog w=.ok (.tuple #[]) w'/\PMap w' b N (updF f x none) (n-1)/\w.grownBy w' (some b):=by
 obtain⟨D,ho,hd⟩:=h;obtain⟨w',Ga,Gb,hg⟩:=ho.drop z1g Tryz.underlying144 (keyU hx) 0;refine⟨w',Ga,⟨_,Gb,⟨fun y=>?_,fun y=>?_,?_⟩⟩,hg.grown⟩
 ·unfold updF
  by_cases hy:y=x
  ·subst hy;rw[atKey_del_same];simp
  ·rw[atKey_del_other (z7f hy),hd.at_ y,if_neg hy]
 ·unfold updF
  by_cases hy:y=x
  ·subst hy;rw[has_del_same];simp
  ·rw[has_del_other (z7f hy),hd.has y,if_neg hy]
 ·have h1:=size_del (k:=kU x) (ho.tidy z1g)
  rw[hd.has x,hf,hd.size]at h1;simp at h1;omega
theorem PMap.new(w:World):PMap (w.alloc (.map #[] 0)) w 0 (fun _=>none) 0:=⟨_,World.ownsMap_made w _ _ _,⟨fun x=>by simp[DataW.atKey],fun x=>by simp[Maps.has],rfl⟩⟩
theorem PMap.chg{Z}(h:PMap w b N f n)(hc:Chg Z w w')(hb:¬Z b):PMap w' b N f n:=by
 obtain⟨D,ho,hd⟩:=h;exact⟨D,hc.map ho hb,hd⟩
theorem PMap.mono{N'}(h:PMap w b N f n)(hN:N<=N'):PMap w b N' f n:=by
 obtain⟨D,ho,hd⟩:=h;exact⟨D,ho.mono hN,hd⟩
theorem PMap.lt(h:PMap w b N f n):b<w:=by
 obtain⟨D,ho,hd⟩:=h;exact ho.lt
def HMap(w:World)(b N:Nat):Prop:=∃D:DataW Unit,w.ownsMap Tryz.prog 3 (plainElem Tryz.prog 3) b N D
theorem keyI{x:Nat}(h:x<9000000000):keyOf Tryz.prog 3 (.int .i64 x)=some (.int .i64 x):=keyOf_int_mk Tryz.underlying3 (WalkArith.wf_i64 ⟨oM,oM⟩)
theorem y4r:Keyed Tryz.prog 3:=int_keyed Tryz.underlying3
theorem HMap.look(h:HMap w b N){x:Nat}(hx:x<9000000000):∃c:Int,(Instr.lookup 165 (.map (some b)) (.int .i64 x) false).run Tryz.prog w=.ok (.int .i64 c) w/\(Lit.int .i64 c).wf=true:=by
 obtain⟨D,ho⟩:=h;obtain⟨c,Ga,_,Gb⟩:=ho.lookup_int y4r Tryz.underlying165 Tryz.underlying3 (by kernel_rfl) (keyI hx);exact⟨c,Ga,Gb⟩
theorem HMap.put(h:HMap w b N)(hN:N<maxLen){x:Nat}(hx:x<9000000000){c:Int}(hc:(Lit.int .i64 c).wf=true):
  ∃w',(Instr.mapUpdate 165 (.map (some b)) (.int .i64 x) (.int .i64 c)).run Tryz.prog w=.ok () w'/\HMap w' b (N+1)/\w.grownBy w' (some b):=by
 obtain⟨D,ho⟩:=h;obtain⟨w',Ga,Gb,hg⟩:=ho.update y4r Tryz.underlying165 hN (keyI hx) (plainElem_int Tryz.underlying3 hc);exact⟨w',Ga,⟨_,Gb⟩,hg⟩
theorem HMap.del(h:HMap w b N){x:Nat}(hx:x<9000000000):
  ∃w',(Builtin.delete_ #[165,3] 0 #[.map (some b),.int .i64 x]).run Tryz.prog w=.ok (.tuple #[]) w'/\HMap w' b N/\w.grownBy w' (some b):=by
 obtain⟨D,ho⟩:=h;obtain⟨w',Ga,Gb,hg⟩:=ho.drop y4r Tryz.underlying165 (keyI hx) 0;exact⟨w',Ga,⟨_,Gb⟩,hg.grown⟩
theorem HMap.new(w:World):HMap (w.alloc (.map #[] 0)) w 0:=⟨_,World.ownsMap_made w _ _ _⟩
theorem HMap.chg{Z}(h:HMap w b N)(hc:Chg Z w w')(hb:¬Z b):HMap w' b N:=by
 obtain⟨D,ho⟩:=h;exact⟨D,hc.map ho hb⟩
theorem HMap.mono{N'}(h:HMap w b N)(hN:N<=N'):HMap w b N':=by
 obtain⟨D,ho⟩:=h;exact⟨D,ho.mono hN⟩
theorem HMap.lt(h:HMap w b N):b<w:=by
 obtain⟨D,ho⟩:=h;exact ho.lt
end
end
section
open Go.RowKit
section
variable{a:DA}{L T:Nat}{w:World}{S:Fp}{cur:Nat->Nat}{F:Nat}{d g r:Nat}
def ldL(cur:Nat->Nat)(o n k:Nat):List Nat:=(List.range n).map fun j=>if j<k then cur (o+j)else 0
theorem z9j(cur:Nat->Nat) o n k:(ldL cur o n k).length=n:=by simp[ldL]
theorem x5b(cur:Nat->Nat) o n:ldL cur o n 0=List.replicate n 0:=by
 apply List.ext_getElem
 ·simp[ldL]
 ·intro i h1 h2
  simp[ldL]
theorem w1o(cur:Nat->Nat) o n k:(ldL cur o n k).set k (cur (o+k))=ldL cur o n (k+1):=by
 apply List.ext_getElem
 ·simp[ldL]
 ·intro i h1 h2
  rw[List.getElem_set];simp only[ldL,List.getElem_map,List.getElem_range];by_cases e:k=i
  ·subst e
   rw[if_pos rfl,if_pos oM]
  ·rw[if_neg e]
   by_cases h:i<k
   ·rw[if_pos h,if_pos oM]
   ·rw[if_neg h,if_neg oM]
theorem w1n(cur:Nat->Nat) o n:ldL cur o n n=(List.range n).map fun j=>cur (o+j):=by
 apply List.ext_getElem
 ·simp[ldL]
 ·intro i h1 h2
  simp only[ldL,List.getElem_map,List.getElem_range];rw[if_pos (by simpa[ldL] using h1)]
end
end
section
open Go.ChangeShapes Go.WideShapes Go.ChangeAt Go.RowKit
theorem gPay : Tryz.prog.globalNamed "bedrock/sizeclass.payload" =some 0 := by kernel_rfl
theorem w5m:(Tryz.prog.globals[0]?).map (·.type)=some 343:=by kernel_rfl
theorem w4t:Tryz.prog.cellsOf 343=5:=by kernel_rfl
theorem w4s:Tryz.prog.cellsOf 3=1:=by kernel_rfl
theorem v4j{W}(h:laidMetH Tryz.prog x5a W):Pay W:=by
 have h2 : laidMetH Tryz.prog [("bedrock/sizeclass.payload",Rows.laid_bedrock_sizeclass_payload)] W := laidMetH.filter (fun x => x.1=="bedrock/sizeclass.payload") h;have ht : Lib.TabIs Tryz.prog W "bedrock/sizeclass.payload" .i64 [3,7,15,31,60] :=
  Lib.tabIs_of_head (rest:=[]) gPay w5m Tryz.underlying343 Tryz.underlying3 w4s w4t h2
 intro i hi;have hc:=ht.cell gPay i hi;rw[hc];have:i=0\/i=1\/i=2\/i=3\/i=4:=oM;rcases this with rfl|rfl|rfl|rfl|rfl<;>rfl
end
section
open Go.RowKit
theorem z8r:(Tryz.prog.info? 225).map (fun i=>(i.zero,i.size,i.bytes))=some (some (.agg #[.int .u8 0,[()],[()]]),3,24):=by kernel_rfl
theorem z7r:(Tryz.prog.info? 32).map (fun i=>(i.zero,i.size,i.bytes))=some (some ↑[()],1,8):=by kernel_rfl
theorem z3a{w B n A ws}(h:z0d w B 2 A n (z0a ws)){k}(hk:k<n):
  ∃(hl:k<ws.length)(b off:Nat),A=some (b,off)/\b<B/\w.cell? (b,off+k*2)=some (.int .u64 ((ws[k]).1:Int))/\w.cell? (b,off+k*2+1)=some (.int .u64 ((ws[k]).2:Int)):=by
 have hl:k<ws.length:=by have:=h.1;rw[z1a]at this;omega
 obtain⟨b,off,hA,hb,hc⟩:=h.plain oM oM;exact⟨hl,b,off,hA,hb,hc (k*2) _ (z2v ws k hl).1,hc (k*2+1) _ (z2v ws k hl).2⟩
def z0g(xs:List Nat):List Value:=xs.map fun x:Nat=>Value.int .u64 x
theorem y5g xs:∀u∈z0g xs,u.oneCell'=true:=by
 intro u hu;simp only[z0g,List.mem_map]at hu;obtain⟨x,_,rfl⟩:=hu;rfl
theorem z1v{w:World}{b1 b2:Nat}{e1 e2:TypeId}{s1 s2:Nat}{v1 v2:Value}{n1 n2:Nat}{x1 x2:List Value}(h1:w.ownsRow b1 e1 s1 v1 n1 x1)(h2:w.ownsRow b2 e2 s2 v2 n2 x2)(hne:e1≠e2):v1.ownBlock=none\/v1.ownBlock≠v2.ownBlock:=by
 rcases h1.2 with ⟨rfl,_⟩|⟨g,cap,cur,rfl,_,hh,_⟩
 ·exact .inl rfl
 ·right
  have:=z0l h2 (show Blk w g e1 cur from hh) (Ne.symm hne);intro he;exact this (by rw[<- he];rfl)
def z1p(o:Nat):Nat:=o-o%64
theorem x7t(w:World)(o:Nat):z0d (w.alloc (.cells #[.int .u64 ((o:Int)-(o:Int)%64)] 32)) (w+1) 1 (some (w,())) 1 (z0g [z1p o]):=by
 refine z0j w _ rfl _ 1 1 32 _ ?_ rfl;have e:((z1p o:Nat):Int)=(o:Int)-(o:Int)%64:=by unfold z1p;omega
 simp only[z0g,List.map_cons,List.map_nil,e]
def stI(p:Nat×Nat):Ins := .st p.1 p.2
structure w4b(w wr:World)(ws:List (Nat×Nat))(k:Nat)(A1:Option Addr)(m1 c1:Nat)(A2:Option Addr)(m2 c2:Nat):Prop where
 below:Blw w wr
 prog:wr.ownsRow w 225 3 (.slice A1 m1 c1) m1 (z0h ((ws.take k).map stI))
 lines:wr.ownsRow w 32 1 (.slice A2 m2 c2) m2 (z0g ((ws.take k).map fun p=>z1p p.1))
 h1:m1=k
 h2:m2=k
section
variable{w wr w8 w9:World}{ws:List (Nat×Nat)}{k:Nat}{A1:Option Addr}{m1 c1:Nat}{A2:Option Addr}{m2 c2:Nat}{e:Nat×Nat}{A3:Option Addr}{n3 c3:Nat}{A4:Option Addr}{n4 c4:Nat}{o:Obj}
theorem v4l(H:w4b w wr ws k A1 m1 c1 A2 m2 c2)(hn3:n3=m1+1)(ho3:w8.ownsRow w 225 3 (.slice A3 n3 c3) n3 (z0h ((ws.take k).map stI)++(stI e).cells))
  (hg3:((wr.alloc (.cells #[e.1,e.2] 117)).alloc o).grownBy w8 (Value.slice A1 m1 c1).ownBlock) (hb3:Below w ((wr.alloc (.cells #[e.1,e.2] 117)).alloc o) w8) :
  Hid (w8.ownsRow w 225 3 (.slice A3 n3 c3) n3 (z0h ((ws.take k).map stI)++(stI e).cells))/\Hid (n3=k+1)/\Hid (Blw w w8)/\Hid (w8.ownsRow w 32 1 (.slice A2 m2 c2) m2 (z0g ((ws.take k).map fun p=>z1p p.1))) /\
   w8.cell? (wr,())=some ↑e.1/\w.heap.size<=w8.heap.size:=by
 have Gb:=H.below.size;have h1:=H.h1;have hB:Blw w w8:=((H.below.alloc Gb _).alloc (by simp;omega) _).trans hb3;have Ga:=((Blk.new wr 117 #[e.1,e.2]).alloc o).grown hg3 (v3o H.prog (g:=wr.heap.size) (.inr (nL _)));exact⟨ho3,show n3=k+1 by omega,hB,((H.lines.alloc _).alloc _).kept hg3 (z1v H.lines H.prog (by decide)),Ga.cell 0,hB.size⟩
theorem v4m(h2:m2=k)(hTK:ws.take (k+1)=ws.take k++[e])(ho3:w8.ownsRow w 225 3 (.slice A3 n3 c3) n3 (z0h ((ws.take k).map stI)++(stI e).cells))(hn3:n3=k+1)(hB:Blw w w8)(hL:w8.ownsRow w 32 1 (.slice A2 m2 c2) m2 (z0g ((ws.take k).map fun p=>z1p p.1)))
  (hn4:n4=m2+1) (ho4:w9.ownsRow w 32 1 (.slice A4 n4 c4) n4 (z0g ((ws.take k).map fun p=>z1p p.1)++z0g [z1p e.1])) (hg4:(w8.alloc o).grownBy w9 (Value.slice A2 m2 c2).ownBlock) (hb4:Below w (w8.alloc o) w9):w4b w w9 ws (k+1) A3 n3 c3 A4 n4 c4:=by
 refine⟨(hB.alloc hB.size _).trans hb4,?_,?_,hn3,oM⟩
 ·rw[hTK,List.map_append,z4k]
  have e1:z0h (List.map stI [e])=(stI e).cells:=by simp[z0h]
  rw[e1];exact(ho3.alloc _).kept hg4 (z1v ho3 hL (by decide))
 ·rw[hTK,List.map_append]
  have e1:z0g (List.map (fun p:Nat×Nat=>z1p p.1) (ws.take k)++List.map (fun p:Nat×Nat=>z1p p.1) [e])=z0g ((ws.take k).map fun p=>z1p p.1)++z0g [z1p e.1]:=by simp[z0g]
  rw[e1];exact ho4
end
theorem x2z{w base g m c xs}(h:w.ownsRow base 32 1 (g,0,m,c) m (z0g xs)):∃cur,Blk w g 32 cur/\cur.size=c/\RowU cur xs/\xs.length=m:=by
 have hl:xs.length=m:=by have:=h.1;simpa[z0g] using this
 rcases h.2 with ⟨hv,_⟩|⟨g',cap',cur,hv,hb,hh,h1,h2,h3,h4⟩
 ·cases hv
 ·simp only[Value.slice.injEq,Option.some.injEq,Addr.mk.injEq,and_true,true_and]at hv
  obtain⟨rfl,rfl⟩:=hv;refine⟨cur,hh,oM,⟨oM,fun i hi=>?_⟩,hl⟩;have h5:(cur.toList.take (m*1))[i]?=(z0g xs)[i]?:=by rw[h4]
  rw[List.getElem?_take_of_lt oM]at h5;rw[<- Array.getElem?_toList,h5];simp[z0g,hi]
def FlI(w wr:World)(ws:List (Nat×Nat))(g m1 j:Nat)(cs:Array Value)(A1:Option Addr)(n1 c1:Nat):Prop :=
 ∃fs:List Nat,Blw w wr/\Blk wr g 32 cs/\wr.ownsRow w 225 3 (.slice A1 n1 c1) n1 (z0h (ws.map stI++fs.map Ins.fl))/\fs.length=j/\n1=m1+j/\(∀o∈fs,∃e∈ws,o=z1p e.1)/\∀i,i<j->∀x:Nat,cs[i]?=some (.int .u64 x)->x∈fs
theorem fl1{w wr w8:World}{ws:List (Nat×Nat)}{g m1 j:Nat}{cs:Array Value}{A1:Option Addr}{n1 c1:Nat}{A3:Option Addr}{n3 c3 x:Nat}{o:Obj}{fs:List Nat}(hB:Blw w wr)(hG:Blk wr g 32 cs)(hP:wr.ownsRow w 225 3 (.slice A1 n1 c1) n1 (z0h (ws.map stI++fs.map Ins.fl)))(hf:fs.length=j)(hn1:n1=m1+j)(hq:∀o∈fs,∃e∈ws,o=z1p e.1)(hal:∀i,i<j->∀x:Nat,cs[i]?=some (.int .u64 x)->x∈fs)(hxc:cs[j]?=some (.int .u64 x))
  (hx:∃e∈ws,x=z1p e.1) (hn3:n3=n1+1) (ho3:w8.ownsRow w 225 3 (.slice A3 n3 c3) n3 (z0h (ws.map stI++fs.map Ins.fl)++(Ins.fl x).cells)) (hg3:(wr.alloc o).grownBy w8 (Value.slice A1 n1 c1).ownBlock) (hb3:Below w (wr.alloc o) w8):FlI w w8 ws g m1 (j+1) cs A3 n3 c3:=by
 refine⟨fs++[x],(hB.alloc hB.size _).trans hb3,(hG.alloc o).grown hg3 (fun e=>z0l hP hG (by decide) e.symm),?_,by simp[hf],oM,fun y hy=>?_,fun i hi y hy=>?_⟩
 ·have e1:z0h (ws.map stI++(fs++[x]).map Ins.fl)=z0h (ws.map stI++fs.map Ins.fl)++(Ins.fl x).cells:=by simp[z0h]
  rw[e1];exact ho3
 ·rw[List.mem_append,List.mem_singleton]at hy
  rcases hy with hy|rfl
  ·exact hq y hy
  ·exact hx
 ·rw[List.mem_append,List.mem_singleton]
  by_cases hij:i=j
  ·right
   rw[hij,hxc]at hy;injection hy with hy
   injection hy with _ hy
   omega
  ·exact .inl (hal i oM y hy)
def z0y(ws:List (Nat×Nat))(p:List Ins):Prop:=∃fs:List Nat,p=ws.map stI++fs.map Ins.fl++[Ins.fe]/\fs.length<=ws.length/\(∀o∈fs,∃e∈ws,o=z1p e.1)/\∀e∈ws,z1p e.1∈fs
def z2e(w:World)(P:List Ins->Prop)(e:Ending)(w':World):Prop:=∃A m c p,e=.returned (.slice A m c)/\P p/\w'.ownsRow w 225 3 (.slice A m c) m (z0h p)/\Blw w w'
theorem z1n(A:Option Addr)(n c:Nat)(ws:List (Nat×Nat))(w:World)(h:z0d w w.heap.size 2 A n (z0a ws))(h0:0<n)(hn:n<=1000)(hv:∀e∈ws,e.1<18446744073709551616):
  () 81 #[.slice A n c] w (z2e w (z0y ws)):=by
 have HR:=hid h;have G2:=hid (show ws.length=n by have:=h.1;rw[z1a]at this;omega);have HV:=hid hv;obtain⟨j0,G9,GA,Gr,GB⟩:=info_parts z7r;have GW:∀W:World,(Instr.makeSlice 107 () [n]).run Tryz.prog W=.ok (.slice (some (W,())) 0 n) (W.alloc (.cells (madeCells (Value.int .u64 0).cells n) 32)):=fun W=>by
  have h:=run_makeSlice (P:=Tryz.prog) W 107 32 j0 [()] Tryz.underlying107 G9 GA .i64 .i64 0 (n:Int) oM oM (by rw[Gr];omega) (by rw[GB];omega) oM;rw[Gr]at h;simpa using h
 have hM:(madeCells (Value.int .u64 0).cells n).size=n*1:=by rw[size_madeCells];simp
 generalize madeCells (Value.int .u64 0).cells n=M at*;have Gh:Hid (∀C:Nat,w4b w (w.alloc (.cells M 32)) ws 0 none 0 0 (some (w,())) 0 n):=fun _ =>
  ⟨(Below.refl _ _).alloc (nL _) _,World.ownsRow_nil _ _ _ _,World.ownsRow_made w M n (nL _) (by unfold maxLen;omega) hM,rfl,rfl⟩
 have e0:((n:Int)==0)=false:=by rw[beq_eq_false_iff_ne];omega
 obtain⟨i0,Gq,Gv,Gx,Gz⟩:=info_parts z8r;clear h hv hM;go_enter Tryz.func81,Tryz.ntmps81
 go_wp2;clear GW;go_loopw [3,4,17] (fun p l i wr=>∃(k:Nat)(A1:Option Addr)(m1 c1:Nat)(A2:Option Addr)(m2 c2:Nat),k<=n/\i=↑[k]/\p=.slice A1 m1 c1/\l=.slice A2 m2 c2/\Hid (w4b w wr ws k A1 m1 c1 A2 m2 c2)) (fun _ _ i _=>n-(RowKit.intOf i).toNat)
 case atStart=>exact⟨0,_,_,_,_,_,_,Nat.zero_le _,rfl,rfl,rfl,Gh.out 0⟩
 case round =>
  clear Gh;obtain⟨k,A1,m1,c1,A2,m2,c2,hk,rfl,rfl,rfl,H⟩:=hrel;by_cases hlt:k<n
  ·obtain⟨hl,b,Dc,hA,GY,f0,f1⟩:=z3a (HR.out.below H.out.below) hlt
   subst hA;have GQ:Hid ((ws.take (k+1))=ws.take k++[ws[k]]):=List.take_succ_eq_append_getElem hl;have Db:=HV.out ws[k] (List.getElem_mem hl);generalize ws[k]=e at*;have q1:m1<=k:=by have:=H.out.h1;omega
   have q2:m2<=k:=by have:=H.out.h2;omega
   have Gw:(0:Int)<=(k:Int):=oM;have Gy:(k:Int)<(n:Int):=oM;have u1:IntKind.u64.wrap ((e.1:Int)-(e.1:Int)%64)=(e.1:Int)-(e.1:Int)%64:=by rw[IntKind.wrap_u64];omega
   have GF:w.heap.size<=wr.heap.size:=H.out.below.size;go_wp2_with (first
    |(at_builtin;refine z0m _ (.tmp 21) (.tmp 27) 103 rfl rfl w.heap.size 225 i0 _ 3 24 Tryz.underlying103 Gq Gv Gx Gz rfl ?q1 (.slice A1 m1 c1) m1 (z0h ((ws.take k).map stI)) rfl ?q0 (wr.heap.size+1+1) (some (wr.heap.size+1,())) 1 1 (stI e).cells rfl ?q5 (Ins.cells_one (stI e)) ?q2 ?q3 ?q4 ?_;(case q1=>omega);(case q0=>exact(H.out.prog.alloc _).alloc _);(case q5=>exact z0j _ _ (by simp) _ 1 3 225 _ rfl rfl);(case q2=>(unfold maxLen;omega));(case q3=>omega);(case q4=>(simp;omega));intro A3 n3 c3 w8 hn3 ho3 hg3 hb3;obtain⟨GN,GM,GI,G1,g0,Da⟩:=v4l H.out hn3 ho3 hg3 hb3;clear hn3 ho3 hg3 hb3)
    |(at_builtin;refine z0m _ (.tmp 29) (.tmp 33) 107 rfl rfl w.heap.size 32 j0 _ 1 8 Tryz.underlying107 G9 GA Gr GB rfl ?r1 (.slice A2 m2 c2) m2 (z0g ((ws.take k).map fun p=>z1p p.1)) rfl ?r0 (w8.heap.size+1) (some (w8,())) 1 1 (z0g [z1p e.1]) rfl ?r5 (y5g [z1p e.1]) ?r2 ?r3 ?r4 ?_;(case r1=>omega);(case r0=>exact G1.out.alloc _);(case r5=>exact x7t w8 e.1);(case r2=>(unfold maxLen;omega));(case r3=>omega);(case r4=>(simp;omega));intro A4 n4 c4 w9 hn4 ho4 hg4 hb4;have HI:=hid (v4m H.out.h2 GQ.out GN.out GM.out GI.out G1.out hn4 ho4 hg4 hb4);clear hn4 ho4 hg4 hb4)
    |go_in)
   exact⟨⟨k+1,_,_,_,_,_,_,oM,by go_num,rfl,rfl,HI⟩,by simp[RowKit.intOf];omega⟩
  ·obtain rfl:n=k:=oM
   obtain⟨hB,hP,hL,h1,h2⟩:=H.out;rw[List.take_of_length_le (by rw[G2.out];exact nL _)]at hP hL;have b1:m1<=n:=oM;have b2:m2<=n:=oM;have b3:n<=m2:=oM;obtain⟨g,GX,GG,G7,Gp⟩:=hL.form oM;have GT:A2=some (g,()):=by injection GG
   subst GT;obtain⟨GS,Gn,G6,GE,GH⟩:=x2z hL;have Gb:=z4p hL;have HS:=hid (y5c g m2 c2 c2 (ws.map fun p=>z1p p.1) wr ⟨GS,_,Gn,G6,GE,List.Perm.refl _,Chg.refl _ _⟩ GH oM Gb.1 Gb.2);have HP:=hid hP;have Gf:=hid hB;have G0:=hid Gn;clear GG hL hP hB Gn G6 GE H h1 h2 Gp;go_wp2_with fail
   refine HS.out.mono ?_;rintro e w5⟨rfl,GR,ys,Gm,Gi,Ge,Ga,Gc⟩;have Gl:=hid (Gc.own HP.out (fun g' hg' e=>z0l HP.out G0.out (by decide) (by rw[hg',e])));have Gk:Hid (Blw w w5):=Gf.out.trans (Gc.toBelow Gf.out.size (fun k hk=>by subst hk;exact G7));have HQ:=hid (x2h (fun x=>∃e∈ws,x=z1p e.1) (fun x=>∃e∈ws,x=z1p e.1) g m2 c2 c2 w5 ⟨GR,Gm,Gi,⟨oM,fun i hi=>by
    have G8:i<ys.length:=by rw[Ga.length_eq,GH];exact hi
    refine⟨ys[i],?_,Ge.2 i G8⟩;have:=(Ga.mem_iff).1 (List.getElem_mem G8);rw[List.mem_map]at this;obtain⟨e,he,GU⟩:=this;exact⟨e,he,GU.symm⟩⟩,Chg.refl _ _,fun x hx=>by
    obtain⟨e,he,rfl⟩:=hx;have hm:z1p e.1∈ys:=(Ga.mem_iff).2 (List.mem_map.2 ⟨e,he,rfl⟩);obtain⟨i,hi,GV⟩:=List.getElem_of_mem hm;have hl:=Ga.length_eq;exact⟨i,oM,by rw[<- GV];exact Ge.2 i hi⟩⟩ oM Gb.1 Gb.2)
   have Gg:=hid Gm;clear Gm Gi Ge Ga Gc HS HP Gf G0;go_wp2_with fail
   refine HQ.out.mono ?_;rintro e w6⟨m3,rfl,GZ,G4,G5,Gt,GC,Gd,GD⟩;have GP:=hid GD;have G3:=hid (Gd.own Gl.out (fun g' hg' e=>z0l Gl.out Gg.out (by decide) (by rw[hg',e])));have Gh:Hid (FlI w w6 ws g m1 0 G4 A1 m1 c1):=⟨[],Gk.out.trans (Gd.toBelow Gk.out.size (fun k hk=>by subst hk;exact G7)),G5,by simpa using G3.out,rfl,rfl,fun _ h=>(by cases h),fun i hi=>absurd hi (Nat.not_lt_zero i)⟩
   have GO:=hid GC;clear G5 Gt GC Gd GD Gl Gk Gg HQ G3;go_wp2;go_loopw [3,41] (fun p i wr=>∃(j:Nat)(A1:Option Addr)(n1 c1:Nat),j<=m3/\i=↑[j]/\p=.slice A1 n1 c1/\Hid (FlI w wr ws g m1 j G4 A1 n1 c1)) (fun _ i _=>m3-(RowKit.intOf i).toNat)
   case atStart=>exact⟨0,_,_,_,Nat.zero_le _,rfl,rfl,Gh⟩
   case round =>
    clear Gh;obtain⟨j,B1,n1,d1,hj,rfl,rfl,H⟩:=hrel;obtain⟨fs,hB,hG,hP,hf,Gs,hq,Gj⟩:=H.out;have b4:n1<=m1+j:=oM;have GF:=hB.size;by_cases hlt:j<m3
    ·obtain⟨x,hx,Gu⟩:=GO.out.2 j hlt
     have c0:wr.cell? (g,j)=some ↑x:=by rw[hG.cell];exact Gu
     have HF:=hid (fun (A3:Option Addr) (n3 c3:Nat) (w8:World) (o:Obj) h1 h2 h3 h4=>fl1 (A3:=A3) (n3:=n3) (c3:=c3) (w8:=w8) (o:=o) hB hG hP hf Gs hq Gj Gu hx h1 h2 h3 h4);have HP:=hid hP;have Gw:(0:Int)<=(j:Int):=oM;have Gy:(j:Int)<(m3:Int):=oM;clear hB hG hP hf Gs hq hx Gu Gj H;go_wp2_with (first
      |(at_builtin;refine z0m _ (.tmp 45) (.tmp 48) 103 rfl rfl w.heap.size 225 i0 _ 3 24 Tryz.underlying103 Gq Gv Gx Gz rfl ?q1 (.slice B1 n1 d1) n1 (z0h (ws.map stI++fs.map Ins.fl)) rfl ?q0 (wr.heap.size+1) (some (wr,())) 1 1 (Ins.fl x).cells rfl ?q5 (Ins.cells_one (Ins.fl x)) ?q2 ?q3 ?q4 ?_;(case q1=>omega);(case q0=>exact HP.out.alloc _);(case q5=>exact z0j _ _ rfl _ 1 3 225 _ rfl rfl);(case q2=>(unfold maxLen;omega));(case q3=>omega);(case q4=>(simp;omega));intro A3 n3 c3 w8 hn3 ho3 hg3 hb3;have HN:=hid (HF.out A3 n3 c3 w8 _ hn3 ho3 hg3 hb3);clear hn3 ho3 hg3 hb3)
      |go_in)
     exact⟨⟨j+1,_,_,_,oM,by go_num,rfl,HN⟩,by simp[RowKit.intOf];omega⟩
    ·obtain rfl:m3=j:=oM
     have HP:=hid hP;have Gf:=hid hB;have GL:=hid (show(∀o∈fs,∃e∈ws,o=z1p e.1)/\∀e∈ws,z1p e.1∈fs from⟨hq,fun e he=>by
      obtain⟨i,hi,hv⟩:=GP.out (z1p e.1) ⟨e,he,rfl⟩;exact Gj i hi _ hv⟩)
     have GK:Hid (fs.length<=ws.length):=show _<=_ by rw[G2.out,hf];omega
     clear hB hG hP hf Gs hq Gj H;go_wp2_with (first
      |(at_builtin;refine z0m _ (.tmp 51) (.tmp 53) 103 rfl rfl w.heap.size 225 i0 _ 3 24 Tryz.underlying103 Gq Gv Gx Gz rfl ?q1 (.slice B1 n1 d1) n1 (z0h (ws.map stI++fs.map Ins.fl)) rfl ?q0 (wr.heap.size+1) (some (wr,())) 1 1 Ins.fe.cells rfl ?q5 (Ins.cells_one Ins.fe) ?q2 ?q3 ?q4 ?_;(case q1=>omega);(case q0=>exact HP.out.alloc _);(case q5=>exact z0j _ _ rfl _ 1 3 225 _ rfl rfl);(case q2=>(unfold maxLen;omega));(case q3=>omega);(case q4=>(simp;omega));intro A3 n3 c3 w8 hn3 ho3 hg3 hb3;have HO:=hid ho3;have GJ:=hid hb3;clear hn3 ho3 hg3 hb3)
      |go_in)
     go_ret;refine⟨A3,n3,c3,ws.map stI++fs.map Ins.fl++[Ins.fe],rfl,⟨fs,rfl,GK.out,GL.out⟩,?_,(Gf.out.alloc GF _).trans GJ.out⟩;have:=HO.out;rw[z4k];simpa[z0h] using this
end
end Go.Proofs.YtmhbokcccjmfgaaGreatDoor
