/- part 10 -/
import Derived.Test.YtfkjjoglnmeciaaGreatDoorMad
import Derived.Lib.Zigzag
set_option maxRecDepth 100000
set_option maxHeartbeats 16000000
namespace Go.Proofs.YtfkjjoglnmeciaaGreatDoor
open Go.Lib (hid)
section
open Go.RowKit
theorem z9k {a:DA} {L T:Nat} {w:World} {S:Fp} {cur:Nat->Nat} {F:Nat} (h:Dev a L T w S cur F) (g s n:Nat) (hB:Blk w g 353 (z1h a s n)) (hs:s < L) (h0:cur (8 * s)=0) :
  Calls Tryz.prog 179 #[.pointer (some ⟨g,0,none⟩)] w fun e w'=>e=.returned (.tuple #[.int .i64 0,.int .i64 0])/\Blw w w':=by
 have HL:=hid (x7r h g s n hB hs h0);have HD:=hid h;have Gd:=hid hB;have c0:w.cell? ⟨g,0,none⟩=some (memV a):=hB.cell 0;obtain ⟨ls,Gk,Gp,cs,Gn,Ge,Gg⟩:=h;obtain ⟨f0,_,_,_,f4⟩:=Ge.facts (j:=0) oM;have Gl:=z1z (some ⟨a.th 0,0,none⟩);have hq:=y0k (some ⟨a.th 0,0,none⟩);clear Ge Gg hB;unfold memV at *;go_enter Tryz.func179,Tryz.ntmps179
 go_wp2_with (first
  | (go_at_call 285;refine HL.out.mono ?_;rintro e w1 ⟨rfl,Gb⟩;have HW:=hid Gb;have d0:w1.cell? ⟨g,0,none⟩=some (.iface 58 (.pointer (some ⟨a.th 0,0,none⟩))):=(Gd.out.below Gb Gd.out.lt).cell 0;obtain ⟨Gm,Gf,Gi,Gj,Gh,Ga,Gc⟩:=HD.out.below Gb;obtain ⟨k0,_,_,_,k4⟩:=Ga.facts (j:=0) oM;clear Gb Ga Gc)
  | go_in)
 go_ret2;exact ⟨rfl,HW.out⟩
structure BK where
 gen:Nat
 kind:Nat
 st:Nat
def BK.x (b:BK):Nat:=b.gen+b.kind * 65536+b.st * 16777216
def BK.w (b:BK):Nat:=z4m b.x
def BK.v (b:BK):Value := .agg #[.int .u16 b.gen,.int .u8 b.kind,.int .u8 b.st]
structure BK.In (b:BK):Prop where
 g:b.gen < 65536
 k:b.kind < 256
 s:b.st < 256
theorem BK.In.x {b:BK} (h:b.In):b.x < 4294967296:=by
 have:=h.g;have:=h.k;have:=h.s;unfold BK.x;omega
def BK.good (b:BK):Bool:=if b.st=176 then b.gen != 0 && b.kind == 0 else if b.st=177 then b.gen != 0 && b.kind != 0 && decide (b.kind<=127) else if b.st=178 then b.gen == 65535 && b.kind == 0 else false
def chV (a:DA) (ln c o g:Nat):Value := .agg #[memV a,.int .i64 ln,.int .i64 c,.int .i64 o,.int .u16 g]
theorem w9h (g k s:Nat) (hg:g < 65536) (hk:k < 256) (hs:s < 256):bits .or .u32 (bits .or .u32 (g:Int) ((k:Int) * 65536)) ((s:Int) * 16777216)=((g+k * 65536+s * 16777216:Nat):Int):=by
 rw [Go.u32_or16 (y:=(g:Int)) (x:=(k:Int) * 65536) oM oM oM oM oM];rw [Go.u32_or24 (y:=(g:Int)+(k:Int) * 65536) (x:=(s:Int) * 16777216) oM oM oM oM oM];omega
section
theorem y2j (b:BK) (hb:b.In) (w:World) (ht:Tab w):Calls Tryz.prog 360 #[b.v] w fun e w'=>e=.returned (.int .u64 b.w)/\Blw w w':=by
 obtain ⟨g,k,s⟩:=b;obtain ⟨hg,hk,hs⟩:=hb;have Ga:Blw w (w.alloc (.cells #[.int .u16 g,.int .u8 k,.int .u8 s] 401)):=(Below.refl _ w).alloc (nL _) _;have HS:=hid (z6l (BK.x ⟨g,k,s⟩) (BK.In.x ⟨hg,hk,hs⟩) _ (ht.below Ga));have HB:=hid Ga;have e1:IntKind.u32.wrap (g:Int)=(g:Int):=by rw [IntKind.wrap_u32];dsimp only at hg;omega
 have e2:IntKind.u32.wrap (k:Int)=(k:Int):=by rw [IntKind.wrap_u32];dsimp only at hk;omega
 have e3:IntKind.u32.wrap (s:Int)=(s:Int):=by rw [IntKind.wrap_u32];dsimp only at hs;omega
 have e4:bits .or .u32 (bits .or .u32 (g:Int) ((k:Int) * 65536)) ((s:Int) * 16777216)=(BK.x ⟨g,k,s⟩:Int):=w9h g k s hg hk hs;unfold BK.w BK.v;dsimp only at hg hk hs ⊢;clear ht Ga;generalize BK.x ⟨g,k,s⟩=xx at *;generalize z4m xx=z at *;go_enter Tryz.func360,Tryz.ntmps360
 go_wp2_with fail
 refine HS.out.mono ?_;rintro e w1 ⟨rfl,Gb⟩;have Gc:=hid (HB.out.trans (Gb.mono HB.out.size));clear Gb HS;go_wp2;go_ret;exact ⟨rfl,Gc.out⟩
theorem y3e (b:BK) (hb:b.In) (w:World) (ht:Tab w):Calls Tryz.prog 352 #[.int .u64 b.w] w fun e w'=>e=.returned (.tuple #[b.v,.bool true])/\Blw w w':=by
 obtain ⟨g,k,s⟩:=b;have hx:=hb.x;obtain ⟨hg,hk,hs⟩:=hb;dsimp only at hg hk hs;have Gc:Blw w (w.alloc (.cells #[.int .u16 0,.int .u8 0,.int .u8 0] 401)):=(Below.refl _ w).alloc (nL _) _;have HS:=hid (z6l (BK.x ⟨g,k,s⟩) hx _ (ht.below Gc));have HB:=hid Gc;have Gf:BK.x ⟨g,k,s⟩=g+k * 65536+s * 16777216:=rfl;have e1:IntKind.u32.wrap ((z4m (BK.x ⟨g,k,s⟩):Nat):Int)=(BK.x ⟨g,k,s⟩:Int):=by rw [IntKind.wrap_u32];unfold z4m;omega
 have e2:IntKind.u16.wrap (BK.x ⟨g,k,s⟩:Int)=(g:Int):=by rw [IntKind.wrap_u16];omega
 have e3:IntKind.u8.wrap ((BK.x ⟨g,k,s⟩:Int) / 65536)=(k:Int):=by rw [IntKind.wrap_u8];omega
 have e4:IntKind.u8.wrap ((BK.x ⟨g,k,s⟩:Int) / 16777216)=(s:Int):=by rw [IntKind.wrap_u8];omega
 unfold BK.w BK.v;dsimp only;clear ht Gc Gf;generalize BK.x ⟨g,k,s⟩=xx at *;generalize z4m xx=z at *;go_enter Tryz.func352,Tryz.ntmps352
 go_wp2_with fail
 refine HS.out.mono ?_;rintro e w1 ⟨rfl,Gb⟩;have Gd:=HB.out.trans (Gb.mono HB.out.size);have Ga:=(Blk.new w 401 #[.int .u16 0,.int .u8 0,.int .u8 0]).below Gb (by simp);have c0:w1.cell? ⟨w.heap.size,0,none⟩=some (.int .u16 0):=Ga.cell 0;have c1:w1.cell? ⟨w.heap.size,1,none⟩=some (.int .u8 0):=Ga.cell 1;have c2:w1.cell? ⟨w.heap.size,2,none⟩=some (.int .u8 0):=Ga.cell 2;have z0:w1.frozen? ⟨w.heap.size,0,none⟩=false:=Ga.frozen 0;have z1:w1.frozen? ⟨w.heap.size,1,none⟩=false:=Ga.frozen 1;have z2:w1.frozen? ⟨w.heap.size,2,none⟩=false:=Ga.frozen 2;have Ge:=hid Gd;clear Gb Gd Ga HS;go_wp2;have Gg:(⟨w.heap.size,0,none⟩:Addr)≠⟨w.heap.size,1,none⟩:=by simp
 have Gh:(⟨w.heap.size,0,none⟩:Addr)≠⟨w.heap.size,2,none⟩:=by simp
 have Gi:(⟨w.heap.size,1,none⟩:Addr)≠⟨w.heap.size,2,none⟩:=by simp
 refine bodyPost_ret (v := .tuple #[.agg #[.int .u16 g,.int .u8 k,.int .u8 s],.bool true]) (by simp [results,Tryz.results352,go_sem,c0,c1,c2]) rfl ⟨rfl,?_⟩;exact ((Ge.out.setCell (p:=⟨w.heap.size,0,none⟩) (nL _) (.int .u16 g)).setCell (p:=⟨w.heap.size,1,none⟩) (nL _) (.int .u8 k)).setCell (p:=⟨w.heap.size,2,none⟩) (nL _) (.int .u8 s)
theorem z4x {x:Nat} (h:¬x=0):((x:Int) == 0)=false/\((x:Int) != 0)=true/\(x == 0)=false/\(x != 0)=true:=by
 have e1:((x:Int) == 0)=false:=by rw [beq_eq_false_iff_ne];omega
 have e2:(x == 0)=false:=by rw [beq_eq_false_iff_ne];exact h
 exact ⟨e1,by simp only [bne,e1,Bool.not_false],e2,by simp only [bne,e2,Bool.not_false]⟩
theorem y4j (b:BK) (hb:b.In) (w:World):Calls Tryz.prog 299 #[b.v] w fun e w'=>e=.returned (.bool b.good)/\Blw w w':=by
 obtain ⟨g,k,s⟩:=b;obtain ⟨hg,hk,hs⟩:=hb;dsimp only at hg hk hs;generalize hr:(BK.mk g k s).good=r;unfold BK.good at hr;dsimp only at hr;have HR:=hid hr;clear hr;unfold BK.v;dsimp only;by_cases h1:s=176
 ·subst h1
  by_cases hg0:g=0
  ·subst hg0
   go_enter Tryz.func299,Tryz.ntmps299
   go_wp2;go_ret;exact ⟨by rw [<- HR.out];simp,(Below.refl _ w).alloc (nL _) _⟩
  ·obtain ⟨g1,g2,g3,g4⟩:=z4x hg0
   by_cases hk0:k=0
   ·subst hk0
    go_enter Tryz.func299,Tryz.ntmps299
    go_wp2;go_ret;exact ⟨by rw [<- HR.out];simp [g4],(Below.refl _ w).alloc (nL _) _⟩
   ·obtain ⟨k1,k2,k3,k4⟩:=z4x hk0
    go_enter Tryz.func299,Tryz.ntmps299
    go_wp2;go_ret;exact ⟨by rw [<- HR.out];simp [g4,k3],(Below.refl _ w).alloc (nL _) _⟩
 ·have s1:((s:Int) == 176)=false:=by rw [beq_eq_false_iff_ne];omega
  by_cases h2:s=177
  ·subst h2
   by_cases hg0:g=0
   ·subst hg0
    go_enter Tryz.func299,Tryz.ntmps299
    go_wp2;go_ret;exact ⟨by rw [<- HR.out];simp,(Below.refl _ w).alloc (nL _) _⟩
   ·obtain ⟨g1,g2,g3,g4⟩:=z4x hg0
    by_cases hk0:k=0
    ·subst hk0
     go_enter Tryz.func299,Tryz.ntmps299
     go_wp2;go_ret;exact ⟨by rw [<- HR.out];simp,(Below.refl _ w).alloc (nL _) _⟩
    ·obtain ⟨k1,k2,k3,k4⟩:=z4x hk0
     by_cases hk7:k<=127
     ·have k5:decide ((k:Int)<=127)=true:=dT
      go_enter Tryz.func299,Tryz.ntmps299
      go_wp2;go_ret;exact ⟨by rw [<- HR.out];simp [g4,k4,hk7],(Below.refl _ w).alloc (nL _) _⟩
     ·have k5:decide ((k:Int)<=127)=false:=dF
      go_enter Tryz.func299,Tryz.ntmps299
      go_wp2;go_ret;exact ⟨by rw [<- HR.out];simp [hk7],(Below.refl _ w).alloc (nL _) _⟩
  ·have s2:((s:Int) == 177)=false:=by rw [beq_eq_false_iff_ne];omega
   by_cases h3:s=178
   ·subst h3
    by_cases hg0:g=65535
    ·subst hg0
     by_cases hk0:k=0
     ·subst hk0
      go_enter Tryz.func299,Tryz.ntmps299
      go_wp2;go_ret;exact ⟨by rw [<- HR.out];simp,(Below.refl _ w).alloc (nL _) _⟩
     ·obtain ⟨k1,k2,k3,k4⟩:=z4x hk0
      go_enter Tryz.func299,Tryz.ntmps299
      go_wp2;go_ret;exact ⟨by rw [<- HR.out];simp [k3],(Below.refl _ w).alloc (nL _) _⟩
    ·have g1:((g:Int) == 65535)=false:=by rw [beq_eq_false_iff_ne];omega
     go_enter Tryz.func299,Tryz.ntmps299
     go_wp2;go_ret;exact ⟨by rw [<- HR.out];simp [hg0],(Below.refl _ w).alloc (nL _) _⟩
   ·have s3:((s:Int) == 178)=false:=by rw [beq_eq_false_iff_ne];omega
    go_enter Tryz.func299,Tryz.ntmps299
    go_wp2;go_ret;exact ⟨by rw [<- HR.out];simp [h1,h2,h3],(Below.refl _ w).alloc (nL _) _⟩
theorem z6t (a:DA) (ln c o g:Nat) (w:World):Calls Tryz.prog 208 #[chV a ln c o g] w fun e w'=>e=.returned (.int .i64 c)/\Blw w w':=by
 have HB:=hid ((Below.refl _ w).alloc (nL _) (.cells #[memV a,.int .i64 ln,.int .i64 c,.int .i64 o,.int .u16 g] 306));have hq:=y0k (some ⟨a.th 0,0,none⟩);unfold chV;unfold memV at *;go_enter Tryz.func208,Tryz.ntmps208
 go_wp2;go_ret;exact ⟨rfl,HB.out⟩
theorem z8y (a:DA) (ln c o g:Nat) (hc:c < 5) (w:World) (hp:Pay w):Calls Tryz.prog 353 #[chV a ln c o g] w fun e w'=>e=.returned (.int .i64 (perC c:Int))/\Blw w w':=by
 have Gc:Blw w (w.alloc (.cells #[memV a,.int .i64 ln,.int .i64 c,.int .i64 o,.int .u16 g] 306)):=(Below.refl _ w).alloc (nL _) _;have HB:=hid Gc;have HC:=hid (z6t a ln c o g (w.alloc (.cells #[memV a,.int .i64 ln,.int .i64 c,.int .i64 o,.int .u16 g] 306)));have HP:Hid (∀ W,Blw w W->Calls Tryz.prog 207 #[.int .i64 c] W fun e w'=>e=.returned (.int .i64 (perC c:Int))/\W=w'):=hid (fun W hW=>z1v c hc W (hp.below hW));clear Gc hp;unfold chV at *;unfold memV at *;go_enter Tryz.func353,Tryz.ntmps353
 go_wp2_with fail
 refine HC.out.mono ?_;rintro e w1 ⟨rfl,Gb⟩;have Ga:=hid (HB.out.trans (Gb.mono HB.out.size));have Gd:=hid (HP.out w1 Ga.out);clear Gb HC HP HB;go_wp2_with fail
 refine Gd.out.mono ?_;rintro e w2 ⟨rfl,rfl⟩;go_wp2;go_ret;exact ⟨rfl,Ga.out⟩
theorem z7f (a:DA) (ln c o g i:Nat) (hc:c < 5) (w:World) (hp:Pay w):Calls Tryz.prog 298 #[chV a ln c o g,.int .i64 i] w fun e w'=>e=.returned (.bool (decide (i < perC c)))/\Blw w w':=by
 have Ga:Blw w (w.alloc (.cells #[memV a,.int .i64 ln,.int .i64 c,.int .i64 o,.int .u16 g] 306)):=(Below.refl _ w).alloc (nL _) _;have HB:=hid Ga;have HC:=hid (z8y a ln c o g hc _ (hp.below Ga));have d1:decide ((i:Int) < (perC c:Int))=decide (i < perC c):=by
  by_cases h:i < perC c
  ·rw [decide_eq_true h,dT]
  ·rw [decide_eq_false h,dF]
 have h0:(0:Int)<=(i:Int):=oM;clear Ga hp;unfold chV at *;unfold memV at *;generalize perC c=r at *;go_enter Tryz.func298,Tryz.ntmps298
 go_wp2_with fail
 refine HC.out.mono ?_;rintro e w1 ⟨rfl,Gb⟩;have Gc:=hid (HB.out.trans (Gb.mono HB.out.size));clear Gb HC HB;go_wp2;go_ret;exact ⟨by first | rfl | (simp) ,Gc.out⟩
end
end
section
open Go.RowKit
theorem y7h {a:DA} {L T:Nat} {w:World} {S:Fp} {cur:Nat->Nat} {F:Nat} (h:Dev a L T w S cur F) (c:Nat) (hc:c+32<=L) (V:Nat) (x0 x1 x2:Int) (hv:cur (8 * c)=V)
  (hh:∀ W,Blw w W->Calls Tryz.prog 350 #[.int .u64 V] W fun e w'=>e=.returned (.tuple #[.agg #[.int .i64 x0,.int .i64 x1,.int .u16 x2],.bool true])/\Blw W w') :
  Calls Tryz.prog 293 #[memV a,.int .i64 c] w fun e w'=>e=.returned (.tuple #[.agg #[.int .i64 x0,.int .i64 x1,.int .u16 x2],.int .i64 0])/\Blw w w':=by
 have Gm:=hid (z3v h (64 * c) V oM oM (by rw [show 64 * c / 8=8 * c by omega];exact hv));have HD:=hid h;have HH:=hid hh;have hm:=z4v (some ⟨a.th 0,0,none⟩);have Gx:=z3s ⟨a.th 0,0,none⟩;have Gv:=z1z (some ⟨a.th 0,0,none⟩);have Gw:=z7s (some ⟨a.th 0,0,none⟩);have hq:=y0k (some ⟨a.th 0,0,none⟩);have Gb:Hid (Blw w (w.alloc (.cells #[.int .i64 0,.int .i64 0,.int .u16 0] 304))):=(Below.refl _ _).alloc (nL _) _;obtain ⟨ls,Gu,G0,cs,Gz,Ge,Gq⟩:=h.below Gb.out;have hL:=Ge.hL;obtain ⟨f0,f2,_,_,f4⟩:=Ge.facts (j:=0) oM;have Gh:=hid (Blk.new w 304 #[.int .i64 0,.int .i64 0,.int .u16 0]);clear Ge Gq h hh;unfold memV at *;have e1:decide ((c:Int) < 0)=false:=dF;have u1:IntKind.u64.wrap ((L:Int) * 64)=(L:Int) * 64:=by rw [IntKind.wrap_u64];omega
 have u3:IntKind.u64.wrap (c:Int)=(c:Int):=by rw [IntKind.wrap_u64];omega
 have u4:IntKind.u64.wrap ((L:Int) - 32)=(L:Int) - 32:=by rw [IntKind.wrap_u64];omega
 have u5:IntKind.u64.wrap ((c:Int) * 64)=((64 * c:Nat):Int):=by rw [IntKind.wrap_u64];omega
 have d1:((L:Int) * 64).tdiv 64=(L:Int):=by rw [Int.mul_tdiv_cancel _ (by decide)]
 have e2:decide ((L:Int) < 32)=false:=dF;have e3:decide ((L:Int) - 32 < (c:Int))=false:=dF;generalize 64 * c=z at *;go_enter Tryz.func293,Tryz.ntmps293
 go_wp2;generalize w.alloc (.cells #[.int .i64 0,.int .i64 0,.int .u16 0] 304)=W at *;have Gi:Hid (Blw W W.drew):=(Below.refl _ _).drew;have Gj:Hid (Blw w W.drew):=Gb.out.drew;go_cut [8] from 38 to 44 (fun v wx=>v=.int .u64 V/\Hid (Blw W wx))
 case first =>
  go_region_with (first | (go_at_call 65;refine (Gm.out _ Gj.out).mono ?_;rintro e w1 ⟨rfl,rfl⟩) | go_in)
  all_goals (go_wp2_with fail;go_meet;exact ⟨rfl,Gi⟩)
 case rest =>
  obtain ⟨rfl,HW⟩:=hcut;have Gc:=hid (Gb.out.trans (HW.out.mono Gb.out.size));obtain ⟨Gy,Gn,Gs,Gt,Gr,Ga,Gf⟩:=HD.out.below Gc.out;obtain ⟨k0,_,_,_,k4⟩:=Ga.facts (j:=0) oM;have Gl:=hid (HH.out wc Gc.out);have Gg:=hid (Gh.out.below HW.out Gh.out.lt);clear Ga Gf;go_wp2_with (first
   | (go_at_call 350;refine Gl.out.mono ?_;rintro e w1 ⟨rfl,Gd⟩;have Gk:=hid (Gc.out.trans (Gd.mono Gc.out.size));have hk:=Gg.out.below Gd Gg.out.lt;have Gp:=hk.lt;have c0:w1.cell? ⟨w.heap.size,0,none⟩=some (.int .i64 0):=hk.cell 0;have c1:w1.cell? ⟨w.heap.size,1,none⟩=some (.int .i64 0):=hk.cell 1;have c2:w1.cell? ⟨w.heap.size,2,none⟩=some (.int .u16 0):=hk.cell 2;have z0:w1.frozen? ⟨w.heap.size,0,none⟩=false:=hk.frozen 0;have z1:w1.frozen? ⟨w.heap.size,1,none⟩=false:=hk.frozen 1;have z2:w1.frozen? ⟨w.heap.size,2,none⟩=false:=hk.frozen 2;clear Gd hk)
   | go_in)
  refine bodyPost_ret (v := .tuple #[.agg #[.int .i64 x0,.int .i64 x1,.int .u16 x2],.int .i64 0]) (by simp [results,Tryz.results293,go_sem,c0,c1,c2,Gp]) rfl ⟨rfl,?_⟩;have h1:=((Gk.out.setCell (p:=⟨w.heap.size,0,none⟩) (nL _) (.int .i64 x0)).setCell (p:=⟨w.heap.size,1,none⟩) (nL _) (.int .i64 x1)).setCell (p:=⟨w.heap.size,2,none⟩) (nL _) (.int .u16 x2);exact h1.alloc h1.size _
section
variable {a:DA} {L T:Nat} {w:World} {S:Fp} {cur:Nat->Nat} {F:Nat}
theorem z4n (ln:Nat) (hl:ln<=1000000) (W:World):Calls Tryz.prog 339 #[.int .i64 ln] W fun e w'=>e=.returned (.int .u64 ((64 * ln:Nat):Int))/\W=w':=by
 have u3:IntKind.u64.wrap (ln:Int)=(ln:Int):=by rw [IntKind.wrap_u64];omega
 have u5:IntKind.u64.wrap ((ln:Int) * 64)=((64 * ln:Nat):Int):=by rw [IntKind.wrap_u64];omega
 generalize 64 * ln=z at *;go_enter Tryz.func339,Tryz.ntmps339
 go_wp2;go_ret;exact ⟨rfl,rfl⟩
def z0o (a:DA) (ln c g:Nat):Array Value:=#[memV a,.int .i64 ln,.int .i64 c,.int .i64 0,.int .u16 g]
theorem z9o (h:Dev a L T w S cur F) (ln cl g V:Nat) (hl:ln+32<=L) (hv:cur (8 * ln+1)=V):Calls Tryz.prog 351 #[chV a ln cl 0 g] w fun e w'=>e=.returned (.int .u64 V)/\Blw w w':=by
 obtain ⟨_,_,_,_,_,Gb,_⟩:=id h;have hL:=Gb.hL;clear Gb;have Gd:=hid (z3v h (64 * ln+8) V oM oM (by rw [show (64 * ln+8) / 8=8 * ln+1 by omega];exact hv));have Ge:=hid (z4n ln oM);have Gf:=z3s ⟨a.th 0,0,none⟩;have hm:=z4v (some ⟨a.th 0,0,none⟩);have Gc:Hid (Blw w (w.alloc (.cells (z0o a ln cl g) 306))):=(Below.refl _ _).alloc (nL _) _;have HK:=hid (Blk.new w 306 (z0o a ln cl g));clear h hv;unfold chV;unfold z0o memV at *;have hz:64 * ln+8 < 9000000000:=oM;have e1:IntKind.u64.wrap (((64 * ln:Nat):Int)+8)=((64 * ln+8:Nat):Int):=by rw [IntKind.wrap_u64];omega
 generalize 64 * ln+8=z8 at *;generalize 64 * ln=z at *;go_enter Tryz.func351,Tryz.ntmps351
 go_wp2_with fail
 generalize w.alloc (.cells #[.iface 58 (.pointer (some ⟨a.th 0,0,none⟩)),.int .i64 ln,.int .i64 cl,.int .i64 0,.int .u16 g] 306)=W at *;have f0:W.cell? ⟨w.heap.size,0,none⟩=some (.iface 58 (.pointer (some ⟨a.th 0,0,none⟩))):=HK.out.cell 0;have f1:W.cell? ⟨w.heap.size,1,none⟩=some (.int .i64 ln):=HK.out.cell 1;have Ga:Hid (Blw w W.drew):=Gc.out.drew;go_region_with (first
  | (go_at_call 65;refine (Gd.out _ Ga.out).mono ?_;rintro e w1 ⟨rfl,rfl⟩)
  | (go_at_call 339;refine (Ge.out _).mono ?_;rintro e w1 ⟨rfl,rfl⟩))
 all_goals (go_wp2;go_ret;exact ⟨rfl,Ga.out⟩)
theorem z7e (ln cl g i:Nat) (hl:ln<=1000000) (hc:cl < 5) (hi:i < perC cl) (w:World) (hp:Pay w):Calls Tryz.prog 301 #[chV a ln cl 0 g,.int .i64 i] w fun e w'=>e=.returned (.int .u64 ((64 * ln+8 * offB cl i:Nat):Int))/\Blw w w':=by
 have hb:Blw w (w.alloc (.cells (z0o a ln cl g) 306)):=(Below.refl _ _).alloc (nL _) _;have Ga:=hid hb;have HO:=hid (y3d cl i hc hi _ (hp.below hb));have Gb:=hid (z4n ln oM);have ho:=off_lt hi;clear hb hp;unfold chV;unfold z0o memV at *;have u1:IntKind.u64.wrap (offB cl i:Int)=(offB cl i:Int):=by rw [IntKind.wrap_u64];omega
 have u2:IntKind.u64.wrap ((offB cl i:Int) * 8)=(offB cl i:Int) * 8:=by rw [IntKind.wrap_u64];omega
 have u3:IntKind.u64.wrap (((64 * ln:Nat):Int)+(offB cl i:Int) * 8)=((64 * ln+8 * offB cl i:Nat):Int):=by rw [IntKind.wrap_u64];omega
 have hz:64 * ln < 9000000000:=oM;generalize 64 * ln+8 * offB cl i=zz at *;generalize offB cl i=ob at *;generalize 64 * ln=z at *;clear ho;go_enter Tryz.func301,Tryz.ntmps301
 go_wp2_with (first
  | (go_at_call 354;refine HO.out.mono ?_;rintro e w1 ⟨rfl,rfl⟩)
  | (go_at_call 339;refine (Gb.out _).mono ?_;rintro e w1 ⟨rfl,rfl⟩))
 go_ret;exact ⟨rfl,Ga.out⟩
end
end
section
open Go.RowKit
def z1r (V i:Nat):Bool:=V / 2 ^ i % 2 == 1
theorem x6a (V i:Nat) (hV:V < 18446744073709551616):(bits .and .u64 ((V:Int) / 2 ^ i) 1 == 1)=z1r V i:=by
 have e:(V:Int) / 2 ^ i=((V / 2 ^ i:Nat):Int):=by push_cast;rfl
 have h:=Nat.div_le_self V (2 ^ i);rw [e];unfold z1r;generalize V / 2 ^ i=y at *;rw [Lib.u64_and1 _ oM oM];have e2:(y:Int) % 2=((y % 2:Nat):Int):=oM;rw [e2];generalize y % 2=x;by_cases h:x=1
 ·subst h;rfl
 ·rw [beq_eq_false_iff_ne.2 h,beq_eq_false_iff_ne];omega
section
variable {a:DA} {L T:Nat} {w:World} {S:Fp} {cur:Nat->Nat} {F:Nat}
theorem z9y (h:Dev a L T w S cur F) (ht:Tab w) (hp:Pay w) (ln cl g V i:Nat) (b:BK) (hb:b.In) (hl:ln+32<=L) (hc:cl < 5) (hi:i < perC cl) (hV:V < 18446744073709551616) (hv:cur (8 * ln+1)=V) (hw:cur (8 * ln+offB cl i)=b.w) :
  Calls Tryz.prog 295 #[chV a ln cl 0 g,.int .i64 i] w fun e w'=>e=.returned (.tuple #[b.v,.bool true,.bool (z1r V i)])/\Blw w w':=by
 obtain ⟨_,_,_,_,_,Gw,_⟩:=id h;have hL:=Gw.hL;clear Gw;have ho:=off_lt hi;have G4:=z2u cl;have Gt:=hid (z3v h (64 * ln+8 * offB cl i) b.w oM oM (by rw [show (64 * ln+8 * offB cl i) / 8=8 * ln+offB cl i by omega];exact hw));have Gl:Blw w ((w.alloc (.cells (z0o a ln cl g) 306)).alloc (.cells #[.int .u16 0,.int .u8 0,.int .u8 0] 401)):=((Below.refl _ _).alloc (nL _) _).alloc (by simp) _;have Gi:=hid Gl;have Gs:=hid (z9o (h.below Gl) ln cl g V hl hv);have Gq:Hid (∀ W,Blw w W->Calls Tryz.prog 301 #[chV a ln cl 0 g,.int .i64 i] W fun e w'=>e=.returned (.int .u64 ((64 * ln+8 * offB cl i:Nat):Int))/\Blw W w'):=hid (fun W hW=>z7e ln cl g i oM hc hi W (hp.below hW));have Gu:Hid (∀ W,Blw w W->Calls Tryz.prog 352 #[.int .u64 b.w] W fun e w'=>e=.returned (.tuple #[b.v,.bool true])/\Blw W w'):=hid (fun W hW=>y3e b hb W (ht.below hW));have G5:=z3s ⟨a.th 0,0,none⟩;have hm:=z4v (some ⟨a.th 0,0,none⟩);have HK:=hid ((Blk.new w 306 (z0o a ln cl g)).below ((Below.refl _ (w.alloc (.cells (z0o a ln cl g) 306))).alloc (nL _) (.cells #[.int .u16 0,.int .u8 0,.int .u8 0] 401)) (by simp));have Gv:(w.alloc (.cells (z0o a ln cl g) 306)).heap.size=w.heap.size+1:=by simp
 have Gk:Hid (Blk ((w.alloc (.cells (z0o a ln cl g) 306)).alloc (.cells #[.int .u16 0,.int .u8 0,.int .u8 0] 401)) (w.heap.size+1) 401 #[.int .u16 0,.int .u8 0,.int .u8 0]):=by
  rw [<- Gv];exact Blk.new _ _ _
 clear h hv hw Gl hp ht Gv;have s1:IntKind.u64.wrap (i:Int)=(i:Int):=by rw [IntKind.wrap_u64];omega
 unfold chV BK.v at *;unfold z0o memV at *;have G3:=x6a V i hV;generalize z1r V i=bt at *;generalize 64 * ln+8 * offB cl i=z at *;generalize offB cl i=ob at *;go_enter Tryz.func295,Tryz.ntmps295
 go_wp2_with fail
 refine Gs.out.mono ?_;rintro e w1 ⟨rfl,Gh⟩;have G0:=hid (Gi.out.trans (Gh.mono Gi.out.size));have Ga:=hid (HK.out.below Gh HK.out.lt);have Gd:=hid (Gk.out.below Gh Gk.out.lt);have Gr:Hid (Blw w1 w1.drew):=(Below.refl _ _).drew;clear Gh HK Gk Gs Gi;go_wp2_with fail
 have f0:w1.cell? ⟨w.heap.size,0,none⟩=some (.iface 58 (.pointer (some ⟨a.th 0,0,none⟩))):=Ga.out.cell 0;have f1:w1.cell? ⟨w.heap.size,1,none⟩=some (.int .i64 ln):=Ga.out.cell 1;have f2:w1.cell? ⟨w.heap.size,2,none⟩=some (.int .i64 cl):=Ga.out.cell 2;have f3:w1.cell? ⟨w.heap.size,3,none⟩=some (.int .i64 0):=Ga.out.cell 3;have f4:w1.cell? ⟨w.heap.size,4,none⟩=some (.int .u16 g):=Ga.out.cell 4;have Gf:=hid (G0.out.drew);refine z0k (fun w'=>Blk w' w.heap.size 306 #[.iface 58 (.pointer (some ⟨a.th 0,0,none⟩)),.int .i64 ln,.int .i64 cl,.int .i64 0,.int .u16 g]) 13 [(true,0),(true,1),(true,2),(true,3),(true,5),(true,6),(false,4),(false,7),(false,8),(true,9),(true,10),(true,11),(false,12)] (by kernel_rfl) (by kernel_rfl) Ga.out.drew ?_;refine tkS (.pointer (some ⟨w.heap.size,0,none⟩)) (fun w' hS=>?_) ?_
 ·go_simp
 refine tkS (.iface 58 (.pointer (some ⟨a.th 0,0,none⟩))) (fun w' hS=>?_) ?_
 ·have f0:w'.cell? ⟨w.heap.size,0,none⟩=some (.iface 58 (.pointer (some ⟨a.th 0,0,none⟩))):=hS.cell 0
  go_simp
 refine tkS (.agg #[.iface 58 (.pointer (some ⟨a.th 0,0,none⟩)),.int .i64 ln,.int .i64 cl,.int .i64 0,.int .u16 g]) (fun w' hS=>?_) ?_
 ·have hk:=hS
  have f0:w'.cell? ⟨w.heap.size,0,none⟩=some (.iface 58 (.pointer (some ⟨a.th 0,0,none⟩))):=hk.cell 0;have f1:w'.cell? ⟨w.heap.size,1,none⟩=some (.int .i64 ln):=hk.cell 1;have f2:w'.cell? ⟨w.heap.size,2,none⟩=some (.int .i64 cl):=hk.cell 2;have f3:w'.cell? ⟨w.heap.size,3,none⟩=some (.int .i64 0):=hk.cell 3;have f4:w'.cell? ⟨w.heap.size,4,none⟩=some (.int .u16 g):=hk.cell 4;go_simp
 refine tkS (.int .i64 i) (fun w' hS=>?_) ?_
 ·go_simp
 refine tkS (.iface 58 (.pointer (some ⟨a.th 0,0,none⟩))) (fun w' hS=>?_) ?_
 ·go_simp
 refine tkS (.iface 58 (.pointer (some ⟨a.th 0,0,none⟩))) (fun w' hS=>?_) ?_
 ·go_simp
 refine z0l (by rfl) ?_;go_wp2_with fail
 refine (Gq.out _ Gf.out).mono ?_;rintro e w2 ⟨rfl,Gm⟩;have Ge:=hid (Gr.out.trans (Gm.mono Gr.out.size));have Gg:=hid (Gf.out.trans (Gm.mono Gf.out.size));clear Gm Gq Gf;go_wp2_with fail
 refine ⟨Ga.out.below Ge.out Ga.out.lt,?_⟩;refine z0l (by rfl) ?_;go_wp2_with fail
 refine (Gt.out _ Gg.out).mono ?_;rintro e w3 ⟨rfl,rfl⟩;go_wp2_with fail
 refine ⟨Ga.out.below Ge.out Ga.out.lt,?_⟩;refine z0l (by rfl) ?_;go_wp2_with fail
 refine (Gu.out _ Gg.out).mono ?_;rintro e w3 ⟨rfl,Gn⟩;have Gj:=hid (Ge.out.trans (Gn.mono Ge.out.size));have G1:=hid (Gg.out.trans (Gn.mono Gg.out.size));clear Gn Gu Gt;go_wp2_with fail
 refine ⟨Ga.out.below Gj.out Ga.out.lt,?_⟩;refine tkS (.tuple #[.agg #[.int .u16 b.gen,.int .u8 b.kind,.int .u8 b.st],.bool true]) (fun w' hS=>?_) ?_
 ·go_simp
 refine tkS (.agg #[.int .u16 b.gen,.int .u8 b.kind,.int .u8 b.st]) (fun w' hS=>?_) ?_
 ·go_simp
 refine tkS (.bool true) (fun w' hS=>?_) ?_
 ·go_simp
 refine z0l (by rfl) ?_;have Gb:=Gd.out.below Gj.out Gd.out.lt;have c0:w3.cell? ⟨w.heap.size+1,0,none⟩=some (.int .u16 0):=Gb.cell 0;have c1:w3.cell? ⟨w.heap.size+1,1,none⟩=some (.int .u8 0):=Gb.cell 1;have c2:w3.cell? ⟨w.heap.size+1,2,none⟩=some (.int .u8 0):=Gb.cell 2;have z0:w3.frozen? ⟨w.heap.size+1,0,none⟩=false:=Gb.frozen 0;have z1:w3.frozen? ⟨w.heap.size+1,1,none⟩=false:=Gb.frozen 1;have z2:w3.frozen? ⟨w.heap.size+1,2,none⟩=false:=Gb.frozen 2;have Gx:(⟨w.heap.size+1,0,none⟩:Addr)≠⟨w.heap.size+1,1,none⟩:=by simp
 have Gy:(⟨w.heap.size+1,0,none⟩:Addr)≠⟨w.heap.size+1,2,none⟩:=by simp
 have Gz:(⟨w.heap.size+1,1,none⟩:Addr)≠⟨w.heap.size+1,2,none⟩:=by simp
 clear f0 f1 f2 f3 f4;go_wp2_with fail
 refine ⟨(((Ga.out.below Gj.out Ga.out.lt).far (p:=⟨w.heap.size+1,0,none⟩) (Nat.ne_of_lt (Nat.lt_succ_self _)) _).far (p:=⟨w.heap.size+1,1,none⟩) (Nat.ne_of_lt (Nat.lt_succ_self _)) _).far (p:=⟨w.heap.size+1,2,none⟩) (Nat.ne_of_lt (Nat.lt_succ_self _)) _,?_⟩;show wpList _ _ _ _ _ _;simp only [List.drop_succ_cons,List.drop_zero];go_wp2_with fail
 refine NoPanic.normal ?_;have Gc:=hid (((Gb.set_ 0 (.int .u16 b.gen)).set_ 1 (.int .u8 b.kind)).set_ 2 (.int .u8 b.st));have G2:=hid (((G1.out.setCell (p:=⟨w.heap.size+1,0,none⟩) (Nat.le_succ _) (.int .u16 b.gen)).setCell (p:=⟨w.heap.size+1,1,none⟩) (Nat.le_succ _) (.int .u8 b.kind)).setCell (p:=⟨w.heap.size+1,2,none⟩) (Nat.le_succ _) (.int .u8 b.st));generalize ((w3.setCell ⟨w.heap.size+1,0,none⟩ (.int .u16 b.gen)).setCell ⟨w.heap.size+1,1,none⟩ (.int .u8 b.kind)).setCell ⟨w.heap.size+1,2,none⟩ (.int .u8 b.st)=wc at *;clear Gb c0 c1 c2 z0 z1 z2 Gx Gy Gz;have c0:wc.cell? ⟨w.heap.size+1,0,none⟩=some (.int .u16 b.gen):=Gc.out.cell 0;have c1:wc.cell? ⟨w.heap.size+1,1,none⟩=some (.int .u8 b.kind):=Gc.out.cell 1;have c2:wc.cell? ⟨w.heap.size+1,2,none⟩=some (.int .u8 b.st):=Gc.out.cell 2;have z0:wc.frozen? ⟨w.heap.size+1,0,none⟩=false:=Gc.out.frozen 0;have z1:wc.frozen? ⟨w.heap.size+1,1,none⟩=false:=Gc.out.frozen 1;have z2:wc.frozen? ⟨w.heap.size+1,2,none⟩=false:=Gc.out.frozen 2;go_wp2;have Gx:(⟨w.heap.size+1,0,none⟩:Addr)≠⟨w.heap.size+1,1,none⟩:=by simp
 have Gy:(⟨w.heap.size+1,0,none⟩:Addr)≠⟨w.heap.size+1,2,none⟩:=by simp
 have Gz:(⟨w.heap.size+1,1,none⟩:Addr)≠⟨w.heap.size+1,2,none⟩:=by simp
 refine bodyPost_ret (v := .tuple #[.agg #[.int .u16 b.gen,.int .u8 b.kind,.int .u8 b.st],.bool true,.bool bt]) (by simp [results,Tryz.results295,go_sem,c0,c1,c2]) rfl ⟨rfl,?_⟩;have Gp:w.heap.size<=w.heap.size+1:=Nat.le_succ _;exact ((G2.out.setCell (p:=⟨w.heap.size+1,0,none⟩) Gp (.int .u16 b.gen)).setCell (p:=⟨w.heap.size+1,1,none⟩) Gp (.int .u8 b.kind)).setCell (p:=⟨w.heap.size+1,2,none⟩) Gp (.int .u8 b.st)
end
end
section
open Go.RowKit
def z2l (V:Nat):Nat->Nat->Option Nat
 | 0,_=>none
 | n+1,j=>if z1r V j then z2l V n (j+1) else some j
def y6r (V c j:Nat):Value:=match z2l V (perC c - j) j with
 | some i => .int .i64 i
 | none => .int .i64 (-1)
theorem w4u (V i:Nat) (hV:V < 18446744073709551616):(bits .and .u64 ((V:Int) / 2 ^ i) 1 == 0) = !z1r V i:=by
 have e:(V:Int) / 2 ^ i=((V / 2 ^ i:Nat):Int):=by push_cast;rfl
 have h:=Nat.div_le_self V (2 ^ i);rw [e];unfold z1r;generalize V / 2 ^ i=y at *;rw [Lib.u64_and1 _ oM oM];have e2:(y:Int) % 2=((y % 2:Nat):Int):=oM;rw [e2];have h2:y % 2=0\/y % 2=1:=oM;rcases h2 with h2 | h2 <;> rw [h2] <;> rfl
section
variable {a:DA} {L T:Nat} {w:World} {S:Fp} {cur:Nat->Nat} {F:Nat}
theorem w1e (h:Dev a L T w S cur F) (hp:Pay w) (ln cl g V j:Nat) (hl:ln+32<=L) (hc:cl < 5) (hV:V < 18446744073709551616) (hv:cur (8 * ln+1)=V) :
  Calls Tryz.prog 380 #[chV a ln cl 0 g,.int .i64 j] w fun e w'=>e=.returned (y6r V cl j)/\Blw w w':=by
 have Gl:Blw w (w.alloc (.cells (z0o a ln cl g) 306)):=(Below.refl _ _).alloc (nL _) _;have Gh:=hid Gl;have Ga:=hid (z7f a ln cl 0 g j hc _ (hp.below Gl));have Gp:Hid (∀ W,Blw w W->Calls Tryz.prog 351 #[chV a ln cl 0 g] W fun e w'=>e=.returned (.int .u64 V)/\Blw W w'):=hid (fun W hW=>z9o (h.below hW) ln cl g V hl hv);have HN:Hid (∀ W,Blw w W->Calls Tryz.prog 353 #[chV a ln cl 0 g] W fun e w'=>e=.returned (.int .i64 (perC cl:Int))/\Blw W w'):=hid (fun W hW=>z8y a ln cl 0 g hc W (hp.below hW));have HK:=hid (Blk.new w 306 (z0o a ln cl g));have Gu:=z2u cl;have d0:decide ((j:Int) < 0)=false:=dF;clear h hp Gl hv;unfold chV at *;unfold z0o memV at *;by_cases hj:j < perC cl
 ·rw [decide_eq_true hj] at Ga
  have HR:Hid (y6r V cl j=match z2l V (perC cl - j) j with
   | some i => .int .i64 i
   | none => .int .i64 (-1)):=hid rfl
  generalize y6r V cl j=rr at *;generalize perC cl=n at *;go_enter Tryz.func380,Tryz.ntmps380
  go_wp2_with fail
  refine Ga.out.mono ?_;rintro e w1 ⟨rfl,Ge⟩;have Gd:=hid (Gh.out.trans (Ge.mono Gh.out.size));have hk:=HK.out.below Ge HK.out.lt;have Gk:=hid hk;have f0:w1.cell? ⟨w.heap.size,0,none⟩=some (.iface 58 (.pointer (some ⟨a.th 0,0,none⟩))):=hk.cell 0;have f1:w1.cell? ⟨w.heap.size,1,none⟩=some (.int .i64 ln):=hk.cell 1;have f2:w1.cell? ⟨w.heap.size,2,none⟩=some (.int .i64 cl):=hk.cell 2;have f3:w1.cell? ⟨w.heap.size,3,none⟩=some (.int .i64 0):=hk.cell 3;have f4:w1.cell? ⟨w.heap.size,4,none⟩=some (.int .u16 g):=hk.cell 4;clear Ge hk HK Ga;go_wp2_with fail
  refine (Gp.out _ Gd.out).mono ?_;rintro e w2 ⟨rfl,Gm⟩;have Gn:=hid (Gd.out.trans (Gm.mono Gd.out.size));have Gq:=hid (Gk.out.below Gm Gk.out.lt);clear Gm Gp Gd Gk f0 f1 f2 f3 f4;go_wp2_with fail
  go_loopw [6] (fun i wr=>∃ k:Nat,j<=k/\k<=n/\i=.int .i64 k/\Hid (z2l V (n - j) j=z2l V (n - k) k)/\Hid (Blw w wr)/\Hid (Blk wr w.heap.size 306 #[.iface 58 (.pointer (some ⟨a.th 0,0,none⟩)),.int .i64 ln,.int .i64 cl,.int .i64 0,.int .u16 g])) (fun i _=>n - (Go.RowKit.intOf i).toNat)
  case atStart=>exact ⟨j,nL _,Nat.le_of_lt hj,rfl,hid rfl,Gn,Gq⟩
  case round =>
   obtain ⟨k,Gs,Gt,rfl,HE,Gc,Gb⟩:=hrel;have f0:wr.cell? ⟨w.heap.size,0,none⟩=some (.iface 58 (.pointer (some ⟨a.th 0,0,none⟩))):=Gb.out.cell 0;have f1:wr.cell? ⟨w.heap.size,1,none⟩=some (.int .i64 ln):=Gb.out.cell 1;have f2:wr.cell? ⟨w.heap.size,2,none⟩=some (.int .i64 cl):=Gb.out.cell 2;have f3:wr.cell? ⟨w.heap.size,3,none⟩=some (.int .i64 0):=Gb.out.cell 3;have f4:wr.cell? ⟨w.heap.size,4,none⟩=some (.int .u16 g):=Gb.out.cell 4;clear Gn Gq;by_cases hkn:k < n
   ·have dk:decide ((k:Int) < (n:Int))=true:=dT
    have s1:IntKind.u64.wrap (k:Int)=(k:Int):=by rw [IntKind.wrap_u64];omega
    have Gg:=w4u V k hV;have e1:z2l V (n - k) k=if z1r V k then z2l V (n - (k+1)) (k+1) else some k:=by
     rw [show n - k=(n - (k+1))+1 by omega];rfl
    have Gj:=hid (HE.out.trans e1);clear HE e1;go_wp2_with fail
    refine (HN.out _ Gc.out).mono ?_;rintro e w3 ⟨rfl,Gf⟩;have Gi:=hid (Gc.out.trans (Gf.mono Gc.out.size));have Gr:=hid (Gb.out.below Gf Gb.out.lt);clear Gf Gc Gb f0 f1 f2 f3 f4;cases hb:z1r V k
    ·rw [hb] at Gg Gj
     go_wp2;go_ret;refine ⟨?_,Gi.out⟩;rw [HR.out,Gj.out];rfl
    ·rw [hb] at Gg Gj
     go_wp2;go_roundw
     case rel=>exact ⟨k+1,oM,oM,by go_num,Gj,Gi,Gr⟩
     case measure=>simp [Go.RowKit.intOf];omega
   ·obtain rfl:k=n:=oM
    have dk:decide ((k:Int) < (k:Int))=false:=dF;go_wp2_with fail
    refine (HN.out _ Gc.out).mono ?_;rintro e w3 ⟨rfl,Gf⟩;have Gi:=hid (Gc.out.trans (Gf.mono Gc.out.size));clear Gf Gc Gb f0 f1 f2 f3 f4;go_wp2;go_ret;refine ⟨?_,Gi.out⟩;rw [HR.out,HE.out,Nat.sub_self];rfl
 ·rw [decide_eq_false hj] at Ga
  have HR:Hid (y6r V cl j=.int .i64 (-1)):=hid (by unfold y6r;rw [show perC cl - j=0 by omega];rfl);generalize y6r V cl j=rr at *;go_enter Tryz.func380,Tryz.ntmps380
  go_wp2_with fail
  refine Ga.out.mono ?_;rintro e w1 ⟨rfl,Ge⟩;have Gd:=hid (Gh.out.trans (Ge.mono Gh.out.size));clear Ge HK Ga;go_wp2;go_ret;exact ⟨by rw [HR.out];rfl,Gd.out⟩
end
end
section
open Go.RowKit
section
variable {a:DA} {L T:Nat} {w:World} {S:Fp} {cur:Nat->Nat} {F:Nat}
theorem z9l {a:DA} {L T:Nat} {w:World} {S:Fp} {cur:Nat->Nat} {F:Nat} (h:Dev a L T w S cur F) :
  Calls Tryz.prog 112 #[.pointer (some ⟨a.th 0,0,none⟩)] w fun e w'=>e=.returned (.int .i64 0)/\w=w':=by
 obtain ⟨ls,Gc,Ge,cs,Gd,Ga,Gb⟩:=h;obtain ⟨f0,f2,f3,f5,f4⟩:=Ga.facts (j:=0) oM;clear Ga Gb;go_enter Tryz.func112,Tryz.ntmps112
 go_wp2;go_ret;exact ⟨rfl,rfl⟩
def z5i (b:BK) (kind:Nat):Nat:=if b.st=177 then b.kind else kind
theorem y1e (h:Dev a L T w S cur F) (ht:Tab w) (hp:Pay w) (ln cl g V i:Nat) (b:BK) (hb:b.In) (hgood:b.good=true) (hs:b.st=176\/b.st=177) (hbit:z1r V i=decide (b.st≠176)) (hl:ln+32<=L) (hc:cl < 5) (hi:i < perC cl) (hV:V < 18446744073709551616) (hv:cur (8 * ln+1)=V) (hw:cur (8 * ln+offB cl i)=b.w) (kind:Nat) (hk1:0 < z5i b kind) (hk2:z5i b kind < 128) (hk3:kind < 256) (hg0:0 < b.gen) :
  Calls Tryz.prog 210 #[chV a ln cl 0 g,.int .i64 i,.int .u8 kind] w fun e w'=>e=.returned (.tuple #[.int .u64 (pMk (64 * ln+8 * offB cl i+8) b.gen (z5i b kind):Int),.int .i64 0])/\Blw w w':=by
 obtain ⟨_,_,_,_,_,G8,_⟩:=id h;have hL:=G8.hL;clear G8;have ho:=off_lt hi;have GB:=hb.g;have G2:Blw w (w.alloc (.cells (z0o a ln cl g) 306)):=(Below.refl _ _).alloc (nL _) _;have Gy:=hid G2;have Gd:=hid (z7f a ln cl 0 g i hc _ (hp.below G2));have Gu:Hid (∀ W,Blw w W->Calls Tryz.prog 112 #[.pointer (some ⟨a.th 0,0,none⟩)] W fun e w'=>e=.returned (.int .i64 0)/\W=w'):=hid (fun W hW=>z9l (h.below hW));have Gv:Hid (∀ W,Blw w W->Calls Tryz.prog 295 #[chV a ln cl 0 g,.int .i64 i] W fun e w'=>e=.returned (.tuple #[b.v,.bool true,.bool (z1r V i)])/\Blw W w'):=hid (fun W hW=>z9y (h.below hW) (ht.below hW) (hp.below hW) ln cl g V i b hb hl hc hi hV hv hw);have Gz:Hid (∀ W,Calls Tryz.prog 299 #[b.v] W fun e w'=>e=.returned (.bool true)/\Blw W w'):=hid (fun W=>by rw [<- hgood];exact y4j b hb W);have Gx:Hid (∀ W,Blw w W->Calls Tryz.prog 301 #[chV a ln cl 0 g,.int .i64 i] W fun e w'=>e=.returned (.int .u64 ((64 * ln+8 * offB cl i:Nat):Int))/\Blw W w'):=hid (fun W hW=>z7e ln cl g i oM hc hi W (hp.below hW));have G0:Hid (∀ W,Calls Tryz.prog 300 #[.int .u64 ((64 * ln+8 * offB cl i+8:Nat):Int),.int .u16 b.gen,.int .u8 (z5i b kind:Int)] W fun e w'=>e=.returned (.tuple #[.int .u64 (pMk (64 * ln+8 * offB cl i+8) b.gen (z5i b kind):Int),.int .i64 0])/\W=w'):=hid (fun W=>y9x _ _ _ oM oM oM hg0 GB hk1 hk2 W);have HK:=hid (Blk.new w 306 (z0o a ln cl g));have hm:=z1z (some ⟨a.th 0,0,none⟩)
 have u1:IntKind.u64.wrap (((64 * ln+8 * offB cl i:Nat):Int)+8)=((64 * ln+8 * offB cl i+8:Nat):Int):=by rw [IntKind.wrap_u64];omega
 have hz:64 * ln+8 * offB cl i < 1000000000:=oM;rw [decide_eq_true hi] at Gd;rw [hbit] at Gv;clear h ht hp G2 hv hw hgood hbit ho;generalize pMk (64 * ln+8 * offB cl i+8) b.gen (z5i b kind)=pp at *;generalize 64 * ln+8 * offB cl i+8=z8 at *;generalize 64 * ln+8 * offB cl i=z at *;obtain ⟨gen,kd,st⟩:=b;unfold chV BK.v at *;unfold z0o memV at *;dsimp only at *;rcases hs with rfl | rfl
 ·have Gn:z5i ⟨gen,kd,176⟩ kind=kind:=rfl
  have G3:0 < kind:=Gn ▸ hk1;have G4:kind < 128:=Gn ▸ hk2;rw [Gn] at G0;clear hk1 hk2 Gn;have G9:((kind:Int) == 0)=false:=by rw [beq_eq_false_iff_ne];omega
  have GA:decide (127 < (kind:Int))=false:=dF;go_enter Tryz.func210,Tryz.ntmps210
  go_wp2_with fail
  refine Gd.out.mono ?_;rintro e w1 ⟨rfl,Gs⟩;have Gb:=hid (Gy.out.trans (Gs.mono Gy.out.size));have hk:=HK.out.below Gs HK.out.lt;have Ga:=hid hk;have f0:w1.cell? ⟨w.heap.size,0,none⟩=some (.iface 58 (.pointer (some ⟨a.th 0,0,none⟩))):=hk.cell 0;have f1:w1.cell? ⟨w.heap.size,1,none⟩=some (.int .i64 ln):=hk.cell 1;have f2:w1.cell? ⟨w.heap.size,2,none⟩=some (.int .i64 cl):=hk.cell 2;have f3:w1.cell? ⟨w.heap.size,3,none⟩=some (.int .i64 0):=hk.cell 3;have f4:w1.cell? ⟨w.heap.size,4,none⟩=some (.int .u16 g):=hk.cell 4;clear Gs hk HK Gd;go_wp2_with (go_at_call 112;refine (Gu.out _ Gb.out).mono ?_;rintro e w2 ⟨rfl,rfl⟩)
  refine (Gv.out _ Gb.out).mono ?_;rintro e w2 ⟨rfl,Gg⟩;have Gt:Blw w1 (w2.alloc (.cells #[.int .u16 gen,.int .u8 kd,.int .u8 176] 401)):=Gg.alloc Gg.size _;have Gi:=hid (Gb.out.trans (Gt.mono Gb.out.size));have Gr:=hid (Ga.out.below Gt Ga.out.lt);have Gq:=hid (Blk.new w2 401 #[.int .u16 gen,.int .u8 kd,.int .u8 176]);have G1:w2.cell? ⟨w.heap.size,0,none⟩=some (.iface 58 (.pointer (some ⟨a.th 0,0,none⟩))):=(Ga.out.below Gg Ga.out.lt).cell 0;have G5:=Ga.out.lt;have G6:=Gg.size;have G7:w.heap.size < w2.heap.size:=oM;clear Gg Gt Ga Gb Gv f0 f1 f2 f3 f4 G5 G6;go_wp2_with (go_at_call 112;refine (Gu.out _ Gi.out).mono ?_;rintro e w3 ⟨rfl,rfl⟩)
  refine (Gz.out _).mono ?_;rintro e w3 ⟨rfl,Gl⟩;have Gc:=hid (Gi.out.trans (Gl.mono Gi.out.size));have Gw:=Gr.out.below Gl Gr.out.lt;have Gh:=Gq.out.below Gl Gq.out.lt;have Gk:=hid Gw;have Gj:=hid Gh;have g0:w3.cell? ⟨w2.heap.size,0,none⟩=some (.int .u16 gen):=Gh.cell 0;have g1:w3.cell? ⟨w2.heap.size,1,none⟩=some (.int .u8 kd):=Gh.cell 1;have g2:w3.cell? ⟨w2.heap.size,2,none⟩=some (.int .u8 176):=Gh.cell 2;clear Gl Gw Gh Gi Gr Gq Gz Gu G1 G7;generalize w2.heap.size=p2 at *;go_wp2_with fail
  clear g0 g1 g2;refine z0k (fun w'=>Blw w w'/\Blk w' w.heap.size 306 #[.iface 58 (.pointer (some ⟨a.th 0,0,none⟩)),.int .i64 ln,.int .i64 cl,.int .i64 0,.int .u16 g]/\Blk w' p2 401 #[.int .u16 gen,.int .u8 kd,.int .u8 176]) 11 [(true,0),(true,1),(true,4),(true,5),(true,6),(false,2),(true,3),(false,7),(true,8),(true,9),(true,10)] (by kernel_rfl) (by kernel_rfl) ⟨Gc.out.drew,Gk.out.drew,Gj.out.drew⟩ ?_;refine tkS (.agg #[.iface 58 (.pointer (some ⟨a.th 0,0,none⟩)),.int .i64 ln,.int .i64 cl,.int .i64 0,.int .u16 g]) (fun w' hS=>?_) ?_
  ·have hk:=hS.2.1
   have f0:w'.cell? ⟨w.heap.size,0,none⟩=some (.iface 58 (.pointer (some ⟨a.th 0,0,none⟩))):=hk.cell 0;have f1:w'.cell? ⟨w.heap.size,1,none⟩=some (.int .i64 ln):=hk.cell 1;have f2:w'.cell? ⟨w.heap.size,2,none⟩=some (.int .i64 cl):=hk.cell 2;have f3:w'.cell? ⟨w.heap.size,3,none⟩=some (.int .i64 0):=hk.cell 3;have f4:w'.cell? ⟨w.heap.size,4,none⟩=some (.int .u16 g):=hk.cell 4;go_simp
  refine tkS (.int .i64 i) (fun w' hS=>?_) ?_
  ·go_simp
  refine tkS (.pointer (some ⟨p2,0,none⟩)) (fun w' hS=>?_) ?_
  ·go_simp
  refine tkS (.int .u16 gen) (fun w' hS=>?_) ?_
  ·have f0:w'.cell? ⟨p2,0,none⟩=some (.int .u16 gen):=hS.2.2.cell 0
   go_simp
  refine tkS (.int .u8 kind) (fun w' hS=>?_) ?_
  ·go_simp
  refine z0l (by rfl) ?_;go_wp2_with fail
  refine (Gx.out _ Gc.out.drew).mono ?_;rintro e w4 ⟨rfl,Gm⟩;have Gp:=hid (Gc.out.drew.trans (Gm.mono Gc.out.drew.size));have Gf:=hid (Gk.out.drew.below Gm Gk.out.drew.lt);have Ge:=hid (Gj.out.drew.below Gm Gj.out.drew.lt);clear Gm Gx Gc Gk Gj;go_wp2_with fail
  refine ⟨⟨Gp.out,Gf.out,Ge.out⟩,?_⟩;refine tkS (.int .u64 z8) (fun w' hS=>?_) ?_
  ·go_simp
  refine z0l (by rfl) ?_;go_wp2_with fail
  refine (G0.out _).mono ?_;rintro e w5 ⟨rfl,rfl⟩;go_wp2_with fail
  refine ⟨⟨Gp.out,Gf.out,Ge.out⟩,?_⟩;refine tkS (.int .u64 pp) (fun w' hS=>?_) ?_
  ·go_simp
  refine tkS (.int .i64 0) (fun w' hS=>?_) ?_
  ·go_simp
  refine tkS (.int .u64 pp) (fun w' hS=>?_) ?_
  ·go_simp
  show wpList _ _ _ _ _ _;simp only [List.drop_succ_cons,List.drop_zero];go_wp2_with fail
  refine NoPanic.normal ?_;go_wp2;go_ret2;exact ⟨rfl,Gp.out⟩
 ·have Gn:z5i ⟨gen,kd,177⟩ kind=kd:=rfl
  have G3:0 < kd:=Gn ▸ hk1;have G4:kd < 128:=Gn ▸ hk2;rw [Gn] at G0;clear hk1 hk2 Gn;have G9:((kd:Int) == 0)=false:=by rw [beq_eq_false_iff_ne];omega
  have GA:decide (127 < (kd:Int))=false:=dF;go_enter Tryz.func210,Tryz.ntmps210
  go_wp2_with fail
  refine Gd.out.mono ?_;rintro e w1 ⟨rfl,Gs⟩;have Gb:=hid (Gy.out.trans (Gs.mono Gy.out.size));have hk:=HK.out.below Gs HK.out.lt;have Ga:=hid hk;have f0:w1.cell? ⟨w.heap.size,0,none⟩=some (.iface 58 (.pointer (some ⟨a.th 0,0,none⟩))):=hk.cell 0;have f1:w1.cell? ⟨w.heap.size,1,none⟩=some (.int .i64 ln):=hk.cell 1;have f2:w1.cell? ⟨w.heap.size,2,none⟩=some (.int .i64 cl):=hk.cell 2;have f3:w1.cell? ⟨w.heap.size,3,none⟩=some (.int .i64 0):=hk.cell 3;have f4:w1.cell? ⟨w.heap.size,4,none⟩=some (.int .u16 g):=hk.cell 4;clear Gs hk HK Gd;go_wp2_with (go_at_call 112;refine (Gu.out _ Gb.out).mono ?_;rintro e w2 ⟨rfl,rfl⟩)
  refine (Gv.out _ Gb.out).mono ?_;rintro e w2 ⟨rfl,Gg⟩;have Gt:Blw w1 (w2.alloc (.cells #[.int .u16 gen,.int .u8 kd,.int .u8 177] 401)):=Gg.alloc Gg.size _;have Gi:=hid (Gb.out.trans (Gt.mono Gb.out.size));have Gr:=hid (Ga.out.below Gt Ga.out.lt);have Gq:=hid (Blk.new w2 401 #[.int .u16 gen,.int .u8 kd,.int .u8 177]);have G1:w2.cell? ⟨w.heap.size,0,none⟩=some (.iface 58 (.pointer (some ⟨a.th 0,0,none⟩))):=(Ga.out.below Gg Ga.out.lt).cell 0;have G5:=Ga.out.lt;have G6:=Gg.size;have G7:w.heap.size < w2.heap.size:=oM;clear Gg Gt Ga Gb Gv f0 f1 f2 f3 f4 G5 G6;go_wp2_with (go_at_call 112;refine (Gu.out _ Gi.out).mono ?_;rintro e w3 ⟨rfl,rfl⟩)
  refine (Gz.out _).mono ?_;rintro e w3 ⟨rfl,Gl⟩;have Gc:=hid (Gi.out.trans (Gl.mono Gi.out.size));have Gw:=Gr.out.below Gl Gr.out.lt;have Gh:=Gq.out.below Gl Gq.out.lt;have Gk:=hid Gw;have Gj:=hid Gh;have g0:w3.cell? ⟨w2.heap.size,0,none⟩=some (.int .u16 gen):=Gh.cell 0;have g1:w3.cell? ⟨w2.heap.size,1,none⟩=some (.int .u8 kd):=Gh.cell 1;have g2:w3.cell? ⟨w2.heap.size,2,none⟩=some (.int .u8 177):=Gh.cell 2;clear Gl Gw Gh Gi Gr Gq Gz Gu G1 G7;generalize w2.heap.size=p2 at *;go_wp2_with fail
  clear g0 g1 g2;refine z0k (fun w'=>Blw w w'/\Blk w' w.heap.size 306 #[.iface 58 (.pointer (some ⟨a.th 0,0,none⟩)),.int .i64 ln,.int .i64 cl,.int .i64 0,.int .u16 g]/\Blk w' p2 401 #[.int .u16 gen,.int .u8 kd,.int .u8 177]) 11 [(true,0),(true,1),(true,4),(true,5),(true,6),(false,2),(true,3),(false,7),(true,8),(true,9),(true,10)] (by kernel_rfl) (by kernel_rfl) ⟨Gc.out.drew,Gk.out.drew,Gj.out.drew⟩ ?_;refine tkS (.agg #[.iface 58 (.pointer (some ⟨a.th 0,0,none⟩)),.int .i64 ln,.int .i64 cl,.int .i64 0,.int .u16 g]) (fun w' hS=>?_) ?_
  ·have hk:=hS.2.1
   have f0:w'.cell? ⟨w.heap.size,0,none⟩=some (.iface 58 (.pointer (some ⟨a.th 0,0,none⟩))):=hk.cell 0;have f1:w'.cell? ⟨w.heap.size,1,none⟩=some (.int .i64 ln):=hk.cell 1;have f2:w'.cell? ⟨w.heap.size,2,none⟩=some (.int .i64 cl):=hk.cell 2;have f3:w'.cell? ⟨w.heap.size,3,none⟩=some (.int .i64 0):=hk.cell 3;have f4:w'.cell? ⟨w.heap.size,4,none⟩=some (.int .u16 g):=hk.cell 4;go_simp
  refine tkS (.int .i64 i) (fun w' hS=>?_) ?_
  ·go_simp
  refine tkS (.pointer (some ⟨p2,0,none⟩)) (fun w' hS=>?_) ?_
  ·go_simp
  refine tkS (.int .u16 gen) (fun w' hS=>?_) ?_
  ·have f0:w'.cell? ⟨p2,0,none⟩=some (.int .u16 gen):=hS.2.2.cell 0
   go_simp
  refine tkS (.int .u8 kd) (fun w' hS=>?_) ?_
  ·go_simp
  refine z0l (by rfl) ?_;go_wp2_with fail
  refine (Gx.out _ Gc.out.drew).mono ?_;rintro e w4 ⟨rfl,Gm⟩;have Gp:=hid (Gc.out.drew.trans (Gm.mono Gc.out.drew.size));have Gf:=hid (Gk.out.drew.below Gm Gk.out.drew.lt);have Ge:=hid (Gj.out.drew.below Gm Gj.out.drew.lt);clear Gm Gx Gc Gk Gj;go_wp2_with fail
  refine ⟨⟨Gp.out,Gf.out,Ge.out⟩,?_⟩;refine tkS (.int .u64 z8) (fun w' hS=>?_) ?_
  ·go_simp
  refine z0l (by rfl) ?_;go_wp2_with fail
  refine (G0.out _).mono ?_;rintro e w5 ⟨rfl,rfl⟩;go_wp2_with fail
  refine ⟨⟨Gp.out,Gf.out,Ge.out⟩,?_⟩;refine tkS (.int .u64 pp) (fun w' hS=>?_) ?_
  ·go_simp
  refine tkS (.int .i64 0) (fun w' hS=>?_) ?_
  ·go_simp
  refine tkS (.int .u64 pp) (fun w' hS=>?_) ?_
  ·go_simp
  show wpList _ _ _ _ _ _;simp only [List.drop_succ_cons,List.drop_zero];go_wp2_with fail
  refine NoPanic.normal ?_;go_wp2;go_ret2;exact ⟨rfl,Gp.out⟩
end
end
section
open Go.RowKit
section
variable {a:DA} {L T:Nat} {S:Fp} {cur:Nat->Nat} {w:World}
theorem x4e {F:Nat} (h:Dev a L T w S cur F) (ht:Tab w) (hp:Pay w) (ln cl g V i:Nat) (b:BK) (hb:b.In) (hl:ln+32<=L) (hc:cl < 5) (hi:i < perC cl) (hV:V < 18446744073709551616) (hv:cur (8 * ln+1)=V) (hw:cur (8 * ln+offB cl i)=b.w) :
  Calls Tryz.prog 297 #[chV a ln cl 0 g,.int .i64 i,.int .u8 177] w fun e w'=>e=.returned (.bool (z1r V i && decide (b.st=177)))/\Blw w w':=by
 have Gc:Blw w (w.alloc (.cells (z0o a ln cl g) 306)):=(Below.refl _ _).alloc (nL _) _;have Gf:=hid Gc;have Ga:=hid (z7f a ln cl 0 g i hc _ (hp.below Gc));have Gg:Hid (∀ W,Blw w W->Calls Tryz.prog 295 #[chV a ln cl 0 g,.int .i64 i] W fun e w'=>e=.returned (.tuple #[b.v,.bool true,.bool (z1r V i)])/\Blw W w'):=hid (fun W hW=>z9y (h.below hW) (ht.below hW) (hp.below hW) ln cl g V i b hb hl hc hi hV hv hw);have HK:=hid (Blk.new w 306 (z0o a ln cl g));rw [decide_eq_true hi] at Ga;have es:((b.st:Int) == 177)=decide (b.st=177):=by
  rw [Bool.eq_iff_iff];simp;omega
 clear h ht hp Gc hv hw;obtain ⟨Gj,kd,st⟩:=b;unfold chV BK.v at *;unfold z0o memV at *;dsimp only at *;generalize decide (st=177)=sb at *;generalize z1r V i=bv at *;go_enter Tryz.func297,Tryz.ntmps297
 go_wp2_with fail
 refine Ga.out.mono ?_;rintro e w1 ⟨rfl,Gd⟩;have Gb:=hid (Gf.out.trans (Gd.mono Gf.out.size));have hk:=HK.out.below Gd HK.out.lt;have f0:w1.cell? ⟨w.heap.size,0,none⟩=some (.iface 58 (.pointer (some ⟨a.th 0,0,none⟩))):=hk.cell 0;have f1:w1.cell? ⟨w.heap.size,1,none⟩=some (.int .i64 ln):=hk.cell 1;have f2:w1.cell? ⟨w.heap.size,2,none⟩=some (.int .i64 cl):=hk.cell 2;have f3:w1.cell? ⟨w.heap.size,3,none⟩=some (.int .i64 0):=hk.cell 3;have f4:w1.cell? ⟨w.heap.size,4,none⟩=some (.int .u16 g):=hk.cell 4;clear Gd hk HK Ga;go_wp2_with fail
 refine (Gg.out _ Gb.out).mono ?_;rintro e w2 ⟨rfl,Ge⟩;have Gh:Blw w1 (w2.alloc (.cells #[.int .u16 Gj,.int .u8 kd,.int .u8 st] 401)):=Ge.alloc Ge.size _;have Gi:=hid (Gb.out.trans (Gh.mono Gb.out.size));clear Ge Gh Gg Gb;cases bv <;> go_wp2 <;> go_ret <;> exact ⟨by first | rfl | simp [es],Gi.out⟩
theorem x9h {F:Nat} (h:Dev a L T w S cur F) (ht:Tab w) (hp:Pay w) (ln cl g V i:Nat) (b:BK) (hb:b.In) (hl:ln+32<=L) (hc:cl < 5) (hi:i < perC cl) (hV:V < 18446744073709551616) (hv:cur (8 * ln+1)=V) (hw:cur (8 * ln+offB cl i)=b.w) :
  Calls Tryz.prog 209 #[chV a ln cl 0 g,.int .i64 i] w fun e w'=>e=.returned (.bool (z1r V i && decide (b.st=177)))/\Blw w w':=by
 have Ga:Blw w (w.alloc (.cells (z0o a ln cl g) 306)):=(Below.refl _ _).alloc (nL _) _;have Gb:=hid Ga;have HM:=hid (x4e (h.below Ga) (ht.below Ga) (hp.below Ga) ln cl g V i b hb hl hc hi hV hv hw);have HK:=hid (Blk.new w 306 (z0o a ln cl g));clear h ht hp Ga hv hw;unfold chV at *;unfold z0o memV at *;have f0:(w.alloc (.cells #[.iface 58 (.pointer (some ⟨a.th 0,0,none⟩)),.int .i64 ln,.int .i64 cl,.int .i64 0,.int .u16 g] 306)).cell? ⟨w.heap.size,0,none⟩=some (.iface 58 (.pointer (some ⟨a.th 0,0,none⟩))):=HK.out.cell 0;have f1:(w.alloc (.cells #[.iface 58 (.pointer (some ⟨a.th 0,0,none⟩)),.int .i64 ln,.int .i64 cl,.int .i64 0,.int .u16 g] 306)).cell? ⟨w.heap.size,1,none⟩=some (.int .i64 ln):=HK.out.cell 1;go_enter Tryz.func209,Tryz.ntmps209
 go_wp2_with fail
 refine HM.out.mono ?_;rintro e w1 ⟨rfl,Gc⟩;have Gd:=hid (Gb.out.trans (Gc.mono Gb.out.size));clear Gc HM HK;go_wp2;go_ret;exact ⟨rfl,Gd.out⟩
end
end
section
open Go.RowKit
def z1k (a:DA) (h r:Nat):Array Value:=#[.pointer (some ⟨h,0,none⟩),.pointer (some ⟨a.th 0,0,none⟩),.pointer (some ⟨r,0,none⟩)]
def dirV (d:Nat):Value := .iface 59 (.pointer (some ⟨d,0,none⟩))
theorem x4i (p : Option Addr) (w : World) : (method 640 59 (.pointer p) "Store").run Tryz.prog w=.ok (437,.pointer p) w := by kernel_rfl
theorem x4h (p : Option Addr) (w : World) : (method 640 59 (.pointer p) "Flush").run Tryz.prog w=.ok (434,.pointer p) w := by kernel_rfl
theorem x4g (p : Option Addr) (w : World) : (method 640 59 (.pointer p) "Fence").run Tryz.prog w=.ok (433,.pointer p) w := by kernel_rfl
theorem y7j (p : Option Addr) (w : World) : (method 640 59 (.pointer p) "Load").run Tryz.prog w=.ok (435,.pointer p) w := by kernel_rfl
theorem z3b (p : Option Addr) (w : World) : (method 640 59 (.pointer p) "Err").run Tryz.prog w=.ok (432,.pointer p) w := by kernel_rfl
theorem x7t (p : Option Addr) (w : World) : (method 640 59 (.pointer p) "Size").run Tryz.prog w=.ok (436,.pointer p) w := by kernel_rfl
section
variable {a:DA} {L T:Nat} {w:World} {S:Fp} {cur:Nat->Nat} {D N:Nat->Prop} {F:Nat} {d g r:Nat}
theorem w8s (h:DevM a L T w S cur D N 0) (hB:Blk w d 240 (z1k a g r)) (off v:Nat) (h8:off % 8=0) (hlt:off < 64 * L) (hT:T < 1000000000) :
  Calls Tryz.prog 437 #[.pointer (some ⟨d,0,none⟩),.int .u64 off,.int .u64 v] w (z2o a L (T+1) w S (upd cur (off / 8) v) (fun k=>D k\/k=off / 8) (fun _=>False) 0 (.tuple #[])):=by
 have HD:=hid (y3g h off v h8 hlt hT);have c1:w.cell? ⟨d,1,none⟩=some (.pointer (some ⟨a.th 0,0,none⟩)):=hB.cell 1;clear h hB;go_enter Tryz.func437,Tryz.ntmps437
 go_wp2_with fail
 refine HD.out.mono ?_;rintro e w1 ⟨rfl,S1,Gb,Ga,Gc⟩;have HE:=hid (show DevM a L (T+1) w1 S1 (upd cur (off / 8) v) (fun k=>D k\/k=off / 8) (fun _=>False) 0/\Chg S w w1/\Grew S S1 w from ⟨Gb,Ga,Gc⟩);clear Gb Ga Gc;go_wp2;go_end0;exact ⟨rfl,S1,HE.out.1,HE.out.2.1,HE.out.2.2⟩
theorem w7v (h:DevM a L T w S cur D N F) (hB:Blk w d 240 (z1k a g r)) (off:Nat) (hlt:off < 64 * L) (hF:F < 1000000000) :
  Calls Tryz.prog 434 #[.pointer (some ⟨d,0,none⟩),.int .u64 off] w (z2o a L T w S cur D (fun i=>N i\/i=off / 64) (F+1) (.tuple #[])):=by
 have HD:=hid (y2p h off hlt hF);have c1:w.cell? ⟨d,1,none⟩=some (.pointer (some ⟨a.th 0,0,none⟩)):=hB.cell 1;clear h hB;go_enter Tryz.func434,Tryz.ntmps434
 go_wp2_with fail
 refine HD.out.mono ?_;rintro e w1 ⟨rfl,S1,Gb,Ga,Gc⟩;have HE:=hid (show DevM a L T w1 S1 cur D (fun i=>N i\/i=off / 64) (F+1)/\Chg S w w1/\Grew S S1 w from ⟨Gb,Ga,Gc⟩);clear Gb Ga Gc;go_wp2;go_end0;exact ⟨rfl,S1,HE.out.1,HE.out.2.1,HE.out.2.2⟩
theorem w7u (h:DevM a L T w S cur D N F) (hB:Blk w d 240 (z1k a g r))  :
  Calls Tryz.prog 433 #[.pointer (some ⟨d,0,none⟩)] w (z2o a L T w S cur (fun k=>D k/\¬ N (k / 8)) (fun _=>False) 0 (.tuple #[])):=by
 have HD:=hid (y2n h);have c1:w.cell? ⟨d,1,none⟩=some (.pointer (some ⟨a.th 0,0,none⟩)):=hB.cell 1;clear h hB;go_enter Tryz.func433,Tryz.ntmps433
 go_wp2_with fail
 refine HD.out.mono ?_;rintro e w1 ⟨rfl,S1,Gb,Ga,Gc⟩;have HE:=hid (show DevM a L T w1 S1 cur (fun k=>D k/\¬ N (k / 8)) (fun _=>False) 0/\Chg S w w1/\Grew S S1 w from ⟨Gb,Ga,Gc⟩);clear Gb Ga Gc;go_wp2;go_end0;exact ⟨rfl,S1,HE.out.1,HE.out.2.1,HE.out.2.2⟩
theorem w8e (h:Dev a L T w S cur F) (hB:Blk w d 240 (z1k a g r)) (off v:Nat) (h8:off % 8=0) (hlt:off < 64 * L) (hv:cur (off / 8)=v) :
  Calls Tryz.prog 435 #[.pointer (some ⟨d,0,none⟩),.int .u64 off] w (fun e w'=>e=.returned (.int .u64 v)/\w=w'):=by
 have HD:=hid (z3v h off v h8 hlt hv w (Below.refl _ _));have c1:w.cell? ⟨d,1,none⟩=some (.pointer (some ⟨a.th 0,0,none⟩)):=hB.cell 1;clear h hB;go_enter Tryz.func435,Tryz.ntmps435
 go_wp2_with fail
 refine HD.out.mono ?_;rintro e w1 ⟨rfl,rfl⟩;go_wp2;go_ret;exact ⟨rfl,rfl⟩
theorem errD (h:Dev a L T w S cur F) (hB:Blk w d 240 (z1k a g r))  :
  Calls Tryz.prog 432 #[.pointer (some ⟨d,0,none⟩)] w (fun e w'=>e=.returned (.int .i64 0)/\w=w'):=by
 have HD:=hid (z9l h);have c1:w.cell? ⟨d,1,none⟩=some (.pointer (some ⟨a.th 0,0,none⟩)):=hB.cell 1;clear h hB;go_enter Tryz.func432,Tryz.ntmps432
 go_wp2_with fail
 refine HD.out.mono ?_;rintro e w1 ⟨rfl,rfl⟩;go_wp2;go_ret;exact ⟨rfl,rfl⟩
theorem w9o (h:Dev a L T w S cur F) (hB:Blk w d 240 (z1k a g r))  :
  Calls Tryz.prog 436 #[.pointer (some ⟨d,0,none⟩)] w (fun e w'=>e=.returned (.int .u64 ((64 * L:Nat):Int))/\w=w'):=by
 have HD:=hid (x2h h);rw [show ((64 * L:Nat):Int)=(L:Int) * 64 by omega] at *;have c1:w.cell? ⟨d,1,none⟩=some (.pointer (some ⟨a.th 0,0,none⟩)):=hB.cell 1;clear h hB;go_enter Tryz.func436,Tryz.ntmps436
 go_wp2_with fail
 refine HD.out.mono ?_;rintro e w1 ⟨rfl,rfl⟩;go_wp2;go_ret;exact ⟨rfl,rfl⟩
end
theorem w1b {a:DA} {L T:Nat} {w:World} {S:Fp} {cur:Nat->Nat} {D N:Nat->Prop} {d g r:Nat} (h:DevM a L T w S cur D N 0) (hB:Blk w d 240 (z1k a g r)) (off v:Nat) (h8:off % 8=0) (hlt:off < 64 * L) (hT:T < 1000000000) :
  Calls Tryz.prog 176 #[.agg #[.int .u8 1,.int .u64 off,.int .u64 v],dirV d] w (z2o a L (T+1) w S (upd cur (off / 8) v) (fun k=>D k\/k=off / 8) (fun _=>False) 0 (.tuple #[])):=by
 have HW:=hid (fun o=>h.below ((Below.refl _ w).alloc (nL _) o));have Gd:=hid (fun o=>hB.alloc o);clear h hB;have hm:=x4i (some ⟨d,0,none⟩);unfold dirV;go_enter Tryz.func176,Tryz.ntmps176
 go_wp2_with fail
 refine (w8s (HW.out _) (Gd.out _) off v h8 hlt hT).mono ?_;rintro e w1 ⟨rfl,S1,Gb,Ga,Gc⟩;have HD:=hid Gb;have HC:Hid (Chg S w w1):=((Chg.refl S w).alloc _).trans Ga (Grew.refl _ _);have HG:Hid (Grew S S1 w):=fun k hk=>(Gc k hk).imp id (fun h=>by simp at h;omega)
 clear Gb Ga Gc;go_wp2;go_end0;exact ⟨rfl,S1,HD.out,HC.out,HG.out⟩
theorem w1a {a:DA} {L T:Nat} {w:World} {S:Fp} {cur:Nat->Nat} {D N:Nat->Prop} {F:Nat} {d g r:Nat} (h:DevM a L T w S cur D N F) (hB:Blk w d 240 (z1k a g r)) (off:Nat) (hlt:off < 64 * L) (hF:F < 1000000000) :
  Calls Tryz.prog 176 #[.agg #[.int .u8 2,.int .u64 off,.int .u64 0],dirV d] w (z2o a L T w S cur D (fun i=>N i\/i=off / 64) (F+1) (.tuple #[])):=by
 have HW:=hid (fun o=>h.below ((Below.refl _ w).alloc (nL _) o));have Gd:=hid (fun o=>hB.alloc o);clear h hB;have hm:=x4h (some ⟨d,0,none⟩);unfold dirV;go_enter Tryz.func176,Tryz.ntmps176
 go_wp2_with fail
 refine (w7v (HW.out _) (Gd.out _) off hlt hF).mono ?_;rintro e w1 ⟨rfl,S1,Gb,Ga,Gc⟩;have HD:=hid Gb;have HC:Hid (Chg S w w1):=((Chg.refl S w).alloc _).trans Ga (Grew.refl _ _);have HG:Hid (Grew S S1 w):=fun k hk=>(Gc k hk).imp id (fun h=>by simp at h;omega)
 clear Gb Ga Gc;go_wp2;go_end0;exact ⟨rfl,S1,HD.out,HC.out,HG.out⟩
theorem w0z {a:DA} {L T:Nat} {w:World} {S:Fp} {cur:Nat->Nat} {D N:Nat->Prop} {F:Nat} {d g r:Nat} (h:DevM a L T w S cur D N F) (hB:Blk w d 240 (z1k a g r))  :
  Calls Tryz.prog 176 #[.agg #[.int .u8 3,.int .u64 0,.int .u64 0],dirV d] w (z2o a L T w S cur (fun k=>D k/\¬ N (k / 8)) (fun _=>False) 0 (.tuple #[])):=by
 have HW:=hid (fun o=>h.below ((Below.refl _ w).alloc (nL _) o));have Gd:=hid (fun o=>hB.alloc o);clear h hB;have hm:=x4g (some ⟨d,0,none⟩);unfold dirV;go_enter Tryz.func176,Tryz.ntmps176
 go_wp2_with fail
 refine (w7u (HW.out _) (Gd.out _)).mono ?_;rintro e w1 ⟨rfl,S1,Gb,Ga,Gc⟩;have HD:=hid Gb;have HC:Hid (Chg S w w1):=((Chg.refl S w).alloc _).trans Ga (Grew.refl _ _);have HG:Hid (Grew S S1 w):=fun k hk=>(Gc k hk).imp id (fun h=>by simp at h;omega)
 clear Gb Ga Gc;go_wp2;go_end0;exact ⟨rfl,S1,HD.out,HC.out,HG.out⟩
theorem x6r {a:DA} {L T:Nat} {w:World} {S:Fp} {cur:Nat->Nat} {dn:(Nat->Prop) × (Nat->Prop)} {F:Nat} {d g r:Nat} (h:DevM a L T w S cur dn.1 dn.2 F) (hB:Blk w d 240 (z1k a g r)) (i:Ins) (b:Bool) (hg:x7b L b i) (hb:b=false->F=0) (hT:T < 1000000000) (hF:F < 1000000000) :
  Calls Tryz.prog 176 #[.agg #[.int .u8 i.op,.int .u64 i.o,.int .u64 i.v],dirV d] w (w3r a L (T+1) w S (runI cur i) (dirI dn i) F (x4j b i)):=by
 cases i with
 | st o v =>
  obtain ⟨h1,h2,h3,_⟩:=hg;have Gb:=hb h1;subst Gb;refine (w1b h hB o v h2 h3 hT).mono ?_;rintro e w' ⟨rfl,S',hd,hc,Ga⟩;exact ⟨rfl,S',0,hd,fun _=>rfl,Nat.zero_le _,hc,Ga⟩
 | fl o =>
  refine (w1a h hB o hg hF).mono ?_;rintro e w' ⟨rfl,S',hd,hc,Ga⟩;exact ⟨rfl,S',F+1,hd.more oM oM,fun h=>(by cases h),nL _,hc,Ga⟩
 | fe =>
  refine (w0z h hB).mono ?_;rintro e w' ⟨rfl,S',hd,hc,Ga⟩;exact ⟨rfl,S',0,hd.more oM oM,fun _=>rfl,Nat.zero_le _,hc,Ga⟩
def w4p (a:DA) (L T:Nat) (w wr:World) (S:Fp) (cur:Nat->Nat) (p:List Ins) (k:Nat):Prop :=
 ∃ S' F',DevM a L (T+k) wr S' (runP cur (p.take k)) (dirP (a.dirty,fun _=>False) (p.take k)).1 (dirP (a.dirty,fun _=>False) (p.take k)).2 F'/\(z4w false (p.take k)=false->F'=0)/\F'<=k/\Chg S w wr/\Grew S S' w
theorem w2t {a:DA} {L T:Nat} {w:World} {S:Fp} {cur:Nat->Nat} {d g r:Nat} (h:Dev a L T w S cur 0) (hB:Blk w d 240 (z1k a g r)) (hdS:¬ S d) (A:Option Addr) (n c:Nat) (p:List Ins) (hr:z0c w w.heap.size 3 A n (z0j p)) (hoff:∀ ad,A=some ad->¬ S ad.block) (hg:y6s L false p) (hn:n<=1000000) (hT:T+n<=1000000000) :
  Calls Tryz.prog 78 #[.slice A n c,dirV d] w (z2c a L (T+n) w S (runP cur p) 0 (.int .i64 0)):=by
 have HV:=hid (y3j A n c p w hr hn);have Gr:=hid (show p.length=n by have:=hr.1;rw [z0v] at this;omega);have HR:=hid hr;have Gs:=hid hoff;have Gc:=hid hg;have Gf:=hid h;have Gw:=hid h.lt;have Gy:=z3b (some ⟨d,0,none⟩);have hq:∀ W,(binOp .eql 188 (.iface 59 (.pointer (some ⟨d,0,none⟩))) .nilIface).run Tryz.prog W=.ok (.bool false) W:=fun W=>by rfl
 have Ga:=hid (show Blk w d _ _/\¬ S d from ⟨hB,hdS⟩);clear h hr hoff hg hB hdS;unfold dirV;go_enter Tryz.func78,Tryz.ntmps78
 go_wp2_with (go_at_call 175;refine HV.out.mono ?_;rintro e w1 ⟨rfl,Gd⟩;have Gh:Hid (w4p a L T w w1 S cur p 0):=⟨S,0,Gf.out.below Gd,fun _=>rfl,nL _,Chg.of_below Gd,Grew.refl _ _⟩;clear Gd)
 go_loopw [16] (fun i wr=>∃ (k:Nat),k<=n/\i=.int .i64 k/\Hid (w4p a L T w wr S cur p k)) (fun i _=>n - (Go.RowKit.intOf i).toNat)
 case atStart=>exact ⟨0,Nat.zero_le _,rfl,Gh⟩
 case round =>
  clear Gh Gf HV;obtain ⟨k,hk,rfl,H⟩:=hrel;by_cases hlt:k < n
  ·obtain ⟨S1,F1,hd,hf,Gu,hC,hG⟩:=H.out
   obtain ⟨hl,b,G1,hA,Gx,f0,f1,f2⟩:=y0q (hC.reads HR.out (nL _) Gs.out) hlt;subst hA;have Gp:=x1f Gc.out k hl;have Gb:=hid (fun o=>x6r (dn:=dirP (a.dirty,fun _=>False) (p.take k)) (hd.below ((Below.refl _ wr).alloc (nL _) o)) ((hC.blk Ga.out.1 Ga.out.2).alloc o) p[k] (z4w false (p.take k)) Gp hf oM oM);have Gj:Hid (runI (runP cur (p.take k)) p[k]=runP cur (p.take (k+1))):=show _=_ by rw [List.take_succ_eq_append_getElem hl,y7y]
   have Gi:Hid (x4j (z4w false (p.take k)) p[k]=z4w false (p.take (k+1))):=show _=_ by rw [List.take_succ_eq_append_getElem hl,y7n];rfl
   have Gg:Hid (dirI (dirP (a.dirty,fun _=>False) (p.take k)) p[k]=dirP (a.dirty,fun _=>False) (p.take (k+1))):=show _=_ by rw [List.take_succ_eq_append_getElem hl,z7j];rfl
   rw [Gj.out,Gi.out,Gg.out] at Gb;have HC:=hid hC;have HG:=hid hG;unfold dirV at Gb;generalize (p[k]).op=op at *;generalize (p[k]).o=o at *;generalize (p[k]).v=v at *;have Gz:(0:Int)<=(k:Int):=oM;have G0:(k:Int) < (n:Int):=oM;clear Gp hd hf hC hG H Gj Gi Gg;go_wp2_with fail
   refine (Gb.out _).mono ?_;rintro e w2 ⟨rfl,S2,F2,Gm,Gn,Gv,Gk,Gl⟩;have HN:Hid (w4p a L T w w2 S cur p (k+1)):=⟨S2,F2,by rw [<- Nat.add_assoc];exact Gm,Gn,oM,HC.out.trans (S':=S1) (((Chg.refl S1 wr).alloc _).trans Gk (Grew.refl _ _)) HG.out,HG.out.trans (w1:=wr) (fun j hj=>(Gl j hj).imp id (fun h=>by simp at h;omega)) HC.out.size⟩
   clear Gm Gn Gv Gk Gl;go_wp2;go_roundw
   case rel=>exact ⟨k+1,oM,by go_num,HN⟩
   case measure=>simp [Go.RowKit.intOf];omega
  ·obtain rfl:n=k:=oM
   obtain ⟨S1,F1,hd,hf,Gu,hC,hG⟩:=H.out;rw [List.take_of_length_le (by rw [Gr.out];exact nL _)] at hd hf;have Gt:=hf (y6t Gc.out);subst Gt;have Ge:Dev a L (T+n) wr S1 (runP cur p) 0:=hd.mono (fun k hk=>Gc.out.2 _ k hk) (fun _ h=>h.elim);have HD:=hid Ge;have HC:=hid hC;have HG:=hid hG;have Gq:=hid (errD Ge (hC.blk Ga.out.1 Ga.out.2));clear hd Ge hC hG hf H;go_wp2_with (go_at_call 432;refine Gq.out.mono ?_;rintro e w2 ⟨rfl,rfl⟩)
   go_ret;exact ⟨rfl,S1,HD.out,HC.out,HG.out⟩
end
end Go.Proofs.YtfkjjoglnmeciaaGreatDoor
