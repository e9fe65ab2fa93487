/- part 24 -/
import Derived.Test.YtfkjjoglnmeciaaGreatDoorMav
import Derived.Test.YtfkjjoglnmeciaaGreatDoorMaw
set_option maxRecDepth 100000
set_option maxHeartbeats 16000000
namespace Go.Proofs.YtfkjjoglnmeciaaGreatDoor
open Go.Lib (hid)
section
open Go.RowKit Go.Maps
def lvB (s k:Nat) (c:CS) (i:Nat):List Nat:=if (c.bs i).st=177 then [pMk (64 * (s+32 * k)+8 * offB c.cl i+8) (c.bs i).gen (c.bs i).kind] else []
def lvI (s k:Nat) (c:CS):Nat->List Nat
 | 0=>[]
 | i+1=>lvI s k c i++lvB s k c i
def lvC (s k:Nat) (c:CS):List Nat:=if c.dv then lvI s k c (perC c.cl) else []
def lvK (s:Nat) (cs:Nat->CS):Nat->List Nat
 | 0=>[]
 | k+1=>lvK s cs k++lvC s k (cs k)
theorem z9v (s:Nat) (cs:Nat->CS) (k:Nat):lvK s cs (k+1)=lvK s cs k++lvC s k (cs k):=rfl
theorem z9u (s k:Nat) (c:CS) (i:Nat):lvI s k c (i+1)=lvI s k c i++lvB s k c i:=rfl
theorem y9n (s k:Nat) (c:CS):∀ i,(lvI s k c i).length<=i
 | 0=>nL _
 | i+1=>by
  have:=y9n s k c i;unfold lvI lvB;rw [List.length_append];split <;> simp <;> omega
theorem x8k (cl:Nat):perC cl<=250:=by
 unfold perC;have:248 / (payW cl+1)<=248:=Nat.div_le_self _ _;omega
theorem y9o (s:Nat) (cs:Nat->CS):∀ k,(lvK s cs k).length<=250 * k
 | 0=>nL _
 | k+1=>by
  have h1:=y9o s cs k;have h2:=y9n s k (cs k) (perC (cs k).cl);have h3:=x8k (cs k).cl;unfold lvK lvC;rw [List.length_append];split <;> simp <;> omega
def pEnc (p:Nat):Array Value:=#[.int .u64 p]
def KpT (n:Nat) (A B:World):Prop:=Below n A B/\∀ k cs t,(t=3\/t=306\/t=29)->Blk A k t cs->Blk B k t cs
theorem KpT.trans {n:Nat} {A B C:World} (h:KpT n A B) (k:KpT n B C):KpT n A C:=⟨h.1.trans k.1,fun i cs t ht hb=>k.2 i cs t ht (h.2 i cs t ht hb)⟩
theorem KpT.of_below {n:Nat} {A B:World} (h:Blw A B) (hn:n<=A.heap.size):KpT n A B:=⟨h.mono hn,fun _ _ _ _ hb=>hb.below h hb.lt⟩
theorem KpT.put {n:Nat} {w:World} (hn:n<=w.heap.size) (W:World) (l:Nat) (o o':Obj) (hl:w.heap.size<=l) (h:W.heap[l]?=some o) (hc:o.isCells=false) (_:o.isWalk=false):KpT n W (W.putObj l o'):=by
 refine ⟨(Below.refl n W).grown (grownBy_putObj' W l o') (by have:=(Array.getElem?_eq_some_iff.1 h).1;omega) (fun k e=>by cases e;omega),fun k cs t _ hb=>?_⟩;by_cases e:k=l
 ·subst e
  unfold Blk at hb;rw [h] at hb;cases hb;exact absurd hc (by simp [Obj.isCells])
 ·exact (World.putObj_heap_other (fun e2=>e (by rw [e2]))).trans hb
structure LvW (w0:World) (gh xh gl:Nat) (ccs:Array Value) (V:World):Prop where
 below:Blw w0 V
 box:Blk V gh 29 #[.pointer (some ⟨xh,0,none⟩)]
 row:Blk V gl 3 ccs
theorem LvW.kp {w0 V V':World} {gh xh gl:Nat} {ccs:Array Value} (h:LvW w0 gh xh gl ccs V) (k:KpT w0.heap.size V V'):LvW w0 gh xh gl ccs V' :=
 ⟨h.below.trans k.1,k.2 _ _ _ (.inr (.inr rfl)) h.box,k.2 _ _ _ (.inl rfl) h.row⟩
theorem LvW.grow {w0 V V':World} {gh xh gl:Nat} {ccs:Array Value} (h:LvW w0 gh xh gl ccs V) (k:Blw V V'):LvW w0 gh xh gl ccs V':=h.kp (KpT.of_below k h.below.size)
theorem w5p {w0 w:World} {A:Option Addr} {n c K s:Nat} (hK:0 < K) (h:w.ownsRow w0.heap.size 3 1 (.slice A n c) n (z1x ((List.range K).map fun k=>((s+32 * k:Nat):Int)))) :
  ∃ gl ccs,A=some ⟨gl,0,none⟩/\n=K/\Blk w gl 3 ccs/\∀ k,k < K->ccs[k]?=some (.int .i64 ((s+32 * k:Nat):Int)):=by
 obtain ⟨hl,h | ⟨g,Gb,Ga,h1,h2,h3,h4,h5,h6,h7⟩⟩:=h
 ·simp [z1x] at hl
  omega
 ·simp [z1x] at hl
  cases h1;refine ⟨g,Ga,rfl,oM,h3,fun k hk=>?_⟩;have e:(List.take (n * 1) Ga.toList)[k]?=(z1x ((List.range K).map fun k=>((s+32 * k:Nat):Int)))[k]?:=by rw [h7]
  rw [List.getElem?_take,if_pos oM] at e;rw [<- Array.getElem?_toList,e];simp [z1x,hk]
section
variable {a:DA} {L T s n K:Nat} {x:HA} {cs:Nat->CS} {f:Nat->Option Nat} {N m b0:Nat} {S:Fp} {cur:Nat->Nat} {w w0:World}
theorem w1v (h:DS a L T s n K x cs f N m b0 S cur w) (hK12:K<=12):Calls Tryz.prog 197 #[.pointer (some ⟨x.gs,0,none⟩)] w (x0t w ((List.range K).map fun k=>((s+32 * k:Nat):Int))):=by
 have hp:Plc a s K x.p cs w:=h.hs.plc;have hs:=h.few;have e:x.p.gs=x.gs:=rfl;have h1:=y2w hp hs.1 (Nat.le_trans hs.2 (by decide));rw [e] at h1;exact h1
theorem w1y (h:DS a L T s n K x cs f N m b0 S cur w) {k:Nat} (hk:k < K) (hd:(cs k).dv=false):Calls Tryz.prog 195 #[memV a,.int .i64 ((s+32 * k:Nat):Int)] w fun e w'=>e=.returned (.tuple #[y2l,.int .i64 8])/\Blw w w':=by
 have Ga:=h.ok k hk;unfold CSok at Ga;rw [hd] at Ga;exact z8z h.dev h.tab _ _ (h.line hk) Ga.2.1 Ga.2.2 Ga.1
theorem w1x (h:DS a L T s n K x cs f N m b0 S cur w) {k:Nat} (hk:k < K) (hd:(cs k).dv=true):Calls Tryz.prog 195 #[memV a,.int .i64 ((s+32 * k:Nat):Int)] w fun e w'=>e=.returned (.tuple #[chV a (s+32 * k) (cs k).cl 0 (cs k).g,.int .i64 0])/\Blw w w':=by
 have hC:=h.chw hk hd;exact z3q h.dev h.tab h.pay _ _ _ (h.line hk) hC.cls hC.g0 hC.g1 hC.hdr
theorem w8g (h:DS a L T s n K x cs f N m b0 S cur w) {k:Nat} (hk:k < K) (hd:(cs k).dv=true):Calls Tryz.prog 207 #[.int .i64 ((cs k).cl:Int)] w fun e w'=>e=.returned (.int .i64 (perC (cs k).cl:Int))/\w=w':=z1v _ (h.chw hk hd).cls w h.pay
theorem w9m (h:DS a L T s n K x cs f N m b0 S cur w) {k:Nat} (hk:k < K) (hd:(cs k).dv=true) {i:Nat} (hi:i < perC (cs k).cl):Calls Tryz.prog 209 #[chV a (s+32 * k) (cs k).cl 0 (cs k).g,.int .i64 i] w fun e w'=>e=.returned (.bool (decide (((cs k).bs i).st=177)))/\Blw w w':=by
 have hC:=h.chw hk hd;have:=x9h h.dev h.tab h.pay (s+32 * k) (cs k).cl (cs k).g (cs k).V i ((cs k).bs i) (hC.inn i hi) (h.line hk) hC.cls hi hC.v64 hC.bits (hC.word i hi);rw [hC.bit i hi] at this;have e:(decide (((cs k).bs i).st≠176) && decide (((cs k).bs i).st=177))=decide (((cs k).bs i).st=177):=by
  by_cases e:((cs k).bs i).st=177
  ·simp [e]
  ·simp [e]
 rw [e] at this;exact this
theorem w9l (h:DS a L T s n K x cs f N m b0 S cur w) {k:Nat} (hk:k < K) (hd:(cs k).dv=true) {i:Nat} (hi:i < perC (cs k).cl) (hs:((cs k).bs i).st=177):Calls Tryz.prog 210 #[chV a (s+32 * k) (cs k).cl 0 (cs k).g,.int .i64 i,.int .u8 0] w fun e w'=>e=.returned (.tuple #[.int .u64 (pMk (64 * (s+32 * k)+8 * offB (cs k).cl i+8) ((cs k).bs i).gen ((cs k).bs i).kind:Int),.int .i64 0])/\Blw w w':=by
 have hC:=h.chw hk hd;have hg:=hC.good i hi;unfold BK.good at hg;rw [if_neg oM,if_pos hs] at hg;simp at hg;have e:z5i ((cs k).bs i) 0=((cs k).bs i).kind:=by unfold z5i;rw [if_pos hs]
 have:=y1e h.dev h.tab h.pay (s+32 * k) (cs k).cl (cs k).g (cs k).V i ((cs k).bs i) (hC.inn i hi) (hC.good i hi) (.inr hs) (hC.bit i hi) (h.line hk) hC.cls hi hC.v64 hC.bits (hC.word i hi) 0 (by rw [e];omega) (by rw [e];omega) oM oM;rw [e] at this;exact this
theorem w8f (h:DS a L T s n K x cs f N m b0 S cur w):0 < K/\s<=4096:=by
 have h1:=h.hK;have h2:=h.few;omega
theorem x4a (h:DS a L T s n K x cs f N m b0 S cur w0) (hw:Blw w0 w) (hK12:K<=12) (gh:Nat) (hh:Blk w gh 29 #[.pointer (some ⟨x.h,0,none⟩)]) :
  SeqStopsK Fence.wide 6 Tryz.prog 206 #[.pointer (some ⟨gh,0,none⟩)] pEnc (KpT w0.heap.size) (fun xs=>xs=lvK s cs K) (fun _=>True) 4096 w:=by
 intro l J Jx W hW hJ hJx hY h0;have G2:Blw w0 W:=hw.trans (hW.mono hw.size);have G1:=hh.below hW hh.lt;have G9:Hid (∀ V,Blw w0 V->Calls Tryz.prog 197 #[.pointer (some ⟨x.gs,0,none⟩)] V (x0t V ((List.range K).map fun k=>((s+32 * k:Nat):Int)))):=hid (fun V hV=>w1v (h.below hV) hK12);have GB:Hid (∀ k,k < K->(cs k).dv=false->∀ V,Blw w0 V->Calls Tryz.prog 195 #[memV a,.int .i64 ((s+32 * k:Nat):Int)] V fun e w'=>e=.returned (.tuple #[y2l,.int .i64 8])/\Blw V w'):=hid (fun k hk hd V hV=>w1y (h.below hV) hk hd);have GA:Hid (∀ k,k < K->(cs k).dv=true->∀ V,Blw w0 V->Calls Tryz.prog 195 #[memV a,.int .i64 ((s+32 * k:Nat):Int)] V fun e w'=>e=.returned (.tuple #[chV a (s+32 * k) (cs k).cl 0 (cs k).g,.int .i64 0])/\Blw V w'):=hid (fun k hk hd V hV=>w1x (h.below hV) hk hd);have GC:Hid (∀ k,k < K->(cs k).dv=true->∀ V,Blw w0 V->Calls Tryz.prog 207 #[.int .i64 ((cs k).cl:Int)] V fun e w'=>e=.returned (.int .i64 (perC (cs k).cl:Int))/\V=w'):=hid (fun k hk hd V hV=>w8g (h.below hV) hk hd);have GE:Hid (∀ k,k < K->(cs k).dv=true->∀ i,i < perC (cs k).cl->∀ V,Blw w0 V->Calls Tryz.prog 209 #[chV a (s+32 * k) (cs k).cl 0 (cs k).g,.int .i64 i] V fun e w'=>e=.returned (.bool (decide (((cs k).bs i).st=177)))/\Blw V w'):=hid (fun k hk hd i hi V hV=>w9m (h.below hV) hk hd hi)
 have GD:Hid (∀ k,k < K->(cs k).dv=true->∀ i,i < perC (cs k).cl->((cs k).bs i).st=177->∀ V,Blw w0 V->Calls Tryz.prog 210 #[chV a (s+32 * k) (cs k).cl 0 (cs k).g,.int .i64 i,.int .u8 0] V fun e w'=>e=.returned (.tuple #[.int .u64 (pMk (64 * (s+32 * k)+8 * offB (cs k).cl i+8) ((cs k).bs i).gen ((cs k).bs i).kind:Int),.int .i64 0])/\Blw V w'):=hid (fun k hk hd i hi hs V hV=>w9l (h.below hV) hk hd hi hs);have GF:Hid (∀ V,Blw w0 V->V.cell? ⟨x.h,0,none⟩=some (memV a)/\V.cell? ⟨x.h,3,none⟩=some (.pointer (some ⟨x.gs,0,none⟩))):=hid (fun V hV=>⟨(h.below hV).hs.heap.cell 0,(h.below hV).hs.heap.cell 3⟩);have GP:Hid (0 < K/\s<=4096):=hid (w8f h);have HJ:=hid (And.intro hJ hJx);have GS:=hid hY;have G5:=hid h0;have HW:=hid G2;have b0:W.cell? ⟨gh,0,none⟩=some (.pointer (some ⟨x.h,0,none⟩)):=G1.cell 0;obtain ⟨x0,x3⟩:=GF.out W G2;have Gv:=hid G1;refine callsIn_wide.2 ?_;show Calls Tryz.prog 206 #[.func (.yield l) #[] #[],.pointer (some ⟨gh,0,none⟩)] W _;clear h hw hh hW hJ hJx hY h0 G2 G1;go_enter Tryz.func206,Tryz.ntmps206
 go_wp2_with (go_at_call 197;refine (G9.out _ HW.out).mono ?_;rintro e w1 ⟨A,m1,c1,rfl,ho,Gp⟩;refine stop ?_)
 unfold Stop;obtain ⟨gl,GG,rfl,rfl,GJ,GI⟩:=w5p GP.out.1 ho;have HL:=hid (LvW.mk (HW.out.trans (Gp.mono HW.out.size)) (Gv.out.below Gp Gv.out.lt) GJ);have Ga:Hid (J (lvK s cs 0) w1):=hid (z2d HJ.out.1 G5.out Gp);have GM:=hid GI;clear ho Gp GJ GI b0 x0 x3 Gv G5 G9 HW;go_wp2_with fail
 go_loopw [18] (fun i wr=>∃ k:Nat,k<=m1/\i=.int .i64 k/\Hid (J (lvK s cs k) wr)/\Hid (LvW w0 gh x.h gl GG wr)) (fun i _=>m1 - (Go.RowKit.intOf i).toNat)
 case atStart=>exact ⟨0,Nat.zero_le _,rfl,Ga,HL⟩
 case round =>
  clear Ga HL;obtain ⟨k,hk,rfl,Ga,HL⟩:=hrel;by_cases hlt:k < m1
  ·have GW:(0:Int)<=(k:Int):=oM
   have GX:(k:Int) < (m1:Int):=oM;have f0:wr.cell? ⟨gl,k,none⟩=some (.int .i64 ((s+32 * k:Nat):Int)):=by rw [HL.out.row.cell];exact GM.out k hlt
   have b0:wr.cell? ⟨gh,0,none⟩=some (.pointer (some ⟨x.h,0,none⟩)):=HL.out.box.cell 0;have x0:=(GF.out wr HL.out.below).1;have Gi:=hid (GB.out k hlt);have Gh:=hid (GA.out k hlt);generalize hln:s+32 * k=ln at *;cases hdv:(cs k).dv
   ·have HO:=hid (Gi.out hdv wr HL.out.below)
    have Gf:Hid (∀ V,Blw wr V->J (lvK s cs (k+1)) V):=hid (fun V hV=>by
     have e:lvK s cs (k+1)=lvK s cs k:=by rw [z9v];unfold lvC;rw [hdv];simp
     rw [e];exact z2d HJ.out.1 Ga.out hV)
    unfold y2l at HO;unfold memV at *;clear Gi Gh Ga hdv hln;go_wp2_with (go_at_call 195;refine HO.out.mono ?_;rintro e w2 ⟨rfl,Gg⟩;have Gm:=hid Gg;clear Gg)
    go_roundw
    case rel=>exact ⟨k+1,oM,by go_num,hid (Gf.out _ ((Gm.out).alloc Gm.out.size _)),hid (HL.out.grow ((Gm.out).alloc Gm.out.size _))⟩
    case measure=>simp [Go.RowKit.intOf];omega
   ·have HO:=hid (Gh.out hdv wr HL.out.below)
    have Gu:Hid (∀ V,Calls Tryz.prog 208 #[chV a ln (cs k).cl 0 (cs k).g] V fun e w'=>e=.returned (.int .i64 ((cs k).cl:Int))/\Blw V w'):=hid (fun V=>z6t a ln _ 0 _ V);have Gj:=hid (GC.out k hlt hdv);have Gc:=hid (GE.out k hlt hdv);have Gb:=hid (GD.out k hlt hdv);have G7:Hid (∀ i V,i=perC (cs k).cl->J (lvK s cs k++lvI s k (cs k) i) V->J (lvK s cs (k+1)) V):=hid (fun i V e h=>by
     subst e;rw [z9v];unfold lvC;rw [hdv];exact h)
    have GR:Hid ((lvK s cs k).length<=250 * k):=hid (y9o s cs k);rw [hln] at Gc Gb;unfold chV memV at *;obtain ⟨cl,G4⟩:∃ cl,Hid ((cs k).cl=cl):=⟨_,rfl⟩
    rw [G4.out] at HO Gu Gj Gc Gb G7;generalize (cs k).g=g at *;clear Gi Gh GB GA GC GE GD hdv;go_wp2_with (first
     | (go_at_call 195;refine HO.out.mono ?_;rintro e w2 ⟨rfl,Gg⟩;have G8:=hid (HL.out.grow (Gg.alloc Gg.size (.cells (z0o a ln cl g) 306)));have Gf:=hid (z2d HJ.out.1 Ga.out (Gg.alloc Gg.size (.cells (z0o a ln cl g) 306)));have Gs:=hid (Blk.new w2 306 (z0o a ln cl g));clear Gg)
     | (go_at_call 208;refine (Gu.out _).mono ?_;rintro e w3 ⟨rfl,Gq⟩;have Gy:=hid (G8.out.grow Gq);have G6:=hid (z2d HJ.out.1 Gf.out Gq);have G3:=hid (Gs.out.below Gq Gs.out.lt);clear Gq G8 Gf Gs)
     | (go_at_call 207;refine (Gj.out _ Gy.out.below).mono ?_;rintro e w4 ⟨rfl,rfl⟩))
    clear HO Gu Gj b0 x0 f0 Ga HL;generalize w2.heap.size=gc at *;go_loopw [36] (fun i wr=>∃ i0:Nat,i0<=perC cl/\i=.int .i64 i0/\Hid (J (lvK s cs k++lvI s k (cs k) i0) wr)/\Hid (LvW w0 gh x.h gl GG wr)/\Hid (Blk wr gc 306 (z0o a ln cl g))) (fun i _=>perC cl - (Go.RowKit.intOf i).toNat)
    case atStart=>exact ⟨0,Nat.zero_le _,rfl,hid (by simpa [lvI] using G6.out),Gy,G3⟩
    case round =>
     clear G6 Gy G3;obtain ⟨i,hi,rfl,Ga,HL,HC⟩:=hrel;by_cases hilt:i < perC cl
     ·have GY:(0:Int)<=(i:Int):=oM
      have GZ:(i:Int) < (perC cl:Int):=oM;have HT:=hid (Gc.out i hilt _ HL.out.below);have Gk:=hid (Gb.out i hilt);have GV:=x8k cl;have GO:=hid (y9n s k (cs k) i);have c0:wr.cell? ⟨gc,0,none⟩=some (.iface 58 (.pointer (some ⟨a.th 0,0,none⟩))):=HC.out.cell 0;have c1:wr.cell? ⟨gc,1,none⟩=some (.int .i64 ln):=HC.out.cell 1;have c2:wr.cell? ⟨gc,2,none⟩=some (.int .i64 cl):=HC.out.cell 2;have c3:wr.cell? ⟨gc,3,none⟩=some (.int .i64 0):=HC.out.cell 3;have c4:wr.cell? ⟨gc,4,none⟩=some (.int .u16 g):=HC.out.cell 4;by_cases hs:((cs k).bs i).st=177
      ·have HP:=hid (Gk.out hs)
       have GN:Hid (∀ pre,pre=lvK s cs k++lvI s k (cs k) i->pre++[pMk (64 * ln+8 * offB cl i+8) ((cs k).bs i).gen ((cs k).bs i).kind]=lvK s cs k++lvI s k (cs k) (i+1)):=hid (fun pre e=>by
        rw [e,z9u,List.append_assoc];unfold lvB;rw [if_pos hs,hln,G4.out])
       rw [decide_eq_true hs] at HT;generalize pMk (64 * ln+8 * offB cl i+8) ((cs k).bs i).gen ((cs k).bs i).kind=pp at *;clear hs Gk Gc Gb;go_wp2_with (first
        | (go_at_call 209;refine HT.out.mono ?_;rintro e w5 ⟨rfl,Ge⟩;have Gl:=hid (HL.out.grow Ge);have Gn:=hid (z2d HJ.out.1 Ga.out Ge);have Gd:=hid (HC.out.below Ge HC.out.lt);clear Ge c0 c1 c2 c3 c4;have c0:w5.cell? ⟨gc,0,none⟩=some (.iface 58 (.pointer (some ⟨a.th 0,0,none⟩))):=Gd.out.cell 0;have c1:w5.cell? ⟨gc,1,none⟩=some (.int .i64 ln):=Gd.out.cell 1;have c2:w5.cell? ⟨gc,2,none⟩=some (.int .i64 cl):=Gd.out.cell 2;have c3:w5.cell? ⟨gc,3,none⟩=some (.int .i64 0):=Gd.out.cell 3;have c4:w5.cell? ⟨gc,4,none⟩=some (.int .u16 g):=Gd.out.cell 4)
        | (go_at_call 210;refine (HP.out _ Gl.out.below).mono ?_;rintro e w6 ⟨rfl,Gr⟩;have Gz:=hid (Gl.out.grow Gr);have Gw:=hid (z2d HJ.out.1 Gn.out Gr);have Gt:=hid (Gd.out.below Gr Gd.out.lt);clear Gr;refine stop ?_))
       unfold Stop;clear c0 c1 c2 c3 c4 Gl Gn Gd HT HP HL Ga HC;go_upto_region 11 with fail
       obtain ⟨fn,GU,G0,GT,GK,GH⟩:=GS.out _ pp w6 Gw.out (by rw [List.length_append];have h1:=GR.out;have h2:=GO.out;omega);have HR:=hid (x0e (m':=6) GH);clear GH;unfold pEnc at GK;refine (wpIn_wide (n:=7)).1 ?_;gi_wp2
       refine HR.out.mono ?_;clear HR GK;rintro e w7 (⟨rfl,hj,hk⟩ | ⟨rfl,hj⟩)
       ·have Gx:Hid (J (lvK s cs k++lvI s k (cs k) (i+1)) w7):=hid (by rw [<- GN.out _ rfl];exact hj)
        have GQ:=hid (Gz.out.kp hk);have GL:=hid (hk.2 _ _ _ (.inr (.inl rfl)) Gt.out);clear hj hk Gz Gt Gw;gi_wp2
        go_wp2_with fail
        go_roundw
        case rel=>exact ⟨i+1,oM,by go_num,Gx,GQ,GL⟩
        case measure=>simp [Go.RowKit.intOf];omega
       ·have Gx:=hid hj
        clear hj Gz Gt Gw;gi_wp2
        go_wp2_with fail
        refine bodyPost_ret (results_none rfl _ _ _) rfl ?_;exact ⟨⟨_,rfl⟩,.inr ⟨_,trivial,Gx.out⟩⟩
      ·have Gf:Hid (∀ V,Blw wr V->J (lvK s cs k++lvI s k (cs k) (i+1)) V):=hid (fun V hV=>by
        rw [z9u];unfold lvB;rw [if_neg hs,List.append_nil];exact z2d HJ.out.1 Ga.out hV)
       rw [decide_eq_false hs] at HT;clear hs Gk Gc Gb;go_wp2_with (go_at_call 209;refine HT.out.mono ?_;rintro e w5 ⟨rfl,Ge⟩;have Gl:=hid (HL.out.grow Ge);have Gn:=hid (Gf.out _ Ge);have Gd:=hid (HC.out.below Ge HC.out.lt);clear Ge c0 c1 c2 c3 c4)
       go_roundw
       case rel=>exact ⟨i+1,oM,by go_num,Gn,Gl,Gd⟩
       case measure=>simp [Go.RowKit.intOf];omega
     ·have Gf:=hid (G7.out i _ oM Ga.out)
      go_wp2_with fail
      go_roundw
      case rel=>exact ⟨k+1,oM,by go_num,Gf,HL⟩
      case measure=>simp [Go.RowKit.intOf];omega
  ·go_wp2_with fail
   go_end0;have e:k=m1:=oM;subst e;exact ⟨⟨_,rfl⟩,.inl ⟨_,rfl,Ga.out⟩⟩
end
end
section
open Go.RowKit Go.Maps
theorem x6d {a:DA} {L T K b0:Nat} {w:World} {S:Fp} {cur:Nat->Nat} (h:Dev a L T w S cur 0) (hdi:a.dirty=fun _=>False) (hL:L=53+32 * K) (hK:1<=K) (hK12:K<=12) (ht:Tab w) (hpy:Pay w) (hp:Empt K cur) (hb0:1 < b0/\0 < b0/\b0<=w.heap.size/\∀ k,S k->b0<=k) :
  Calls Tryz.prog 102 #[.pointer (some ⟨a.d,0,none⟩),.int .i64 K] w (w6s a L T K b0 S cur w):=by
 refine (y2k (fun _=>csN) h hdi hL hK hK12 ht hpy ⟨hp.r,hp.u,fun k hk=>?_,hp.b⟩ hb0).mono (fun e w' h=>h);unfold CSok csN;exact ⟨hp.c k hk,(by show 0 < 1;omega),(by show 1 < 65536;omega)⟩
theorem x5v (cur:Nat->Nat) (s:Nat):∀ K,(∀ k,k < K->arC cur s K (8 * (s+32 * k))=z4d 1)/\(∀ i,i < 8 * s->arC cur s K i=cur i)
 | 0=>⟨fun k hk=>absurd hk (Nat.not_lt_zero k),fun _ _=>rfl⟩
 | K+1=>by
  obtain ⟨h1,h2⟩:=x5v cur s K;have e:∀ i,arC cur s (K+1) i=if i=8 * (s+32 * K) then z4d 1 else arC cur s K i:=fun i=>by
   show wrS (arC cur s K) [(64 * (s+32 * K),z4d 1)] i=_;rw [z5e,show 64 * (s+32 * K) / 8=8 * (s+32 * K) by omega]
  refine ⟨fun k hk=>?_,fun i hi=>?_⟩
  ·rw [e]
   by_cases h:k=K
   ·subst h;rw [if_pos rfl]
   ·rw [if_neg oM];exact h1 k oM
  ·rw [e,if_neg oM]
   exact h2 i hi
theorem x5w (cur:Nat->Nat) (s:Nat) (hc:∀ i,cur i < 18446744073709551616):∀ K i,arC cur s K i < 18446744073709551616
 | 0,i=>hc i
 | K+1,i=>by
  show wrS (arC cur s K) [(64 * (s+32 * K),z4d 1)] i < _;rw [z5e];have h1:=x1e 1 oM;have h2:=x5w cur s hc K i;split <;> omega
def curB (K:Nat):Nat->Nat:=arC (wrS (fun _=>0) [(64 * 0,0)]) 53 K
theorem w5d (K:Nat):Empt K (curB K):=by
 obtain ⟨h1,h2⟩:=x5v (wrS (fun _=>0) [(64 * 0,0)]) 53 K;have h0:∀ i,wrS (fun _=>0) [(64 * 0,0)] i=0:=fun i=>by rw [z5e];split <;> rfl
 refine ⟨?_,?_,h1,x5w _ 53 (fun i=>by rw [h0];omega) K⟩
 ·exact (h2 _ oM).trans (h0 _)
 ·exact (h2 _ oM).trans (h0 _)
def w6r (K:Nat) (w:World) (e:Ending) (w':World):Prop:=∃ a T x y S,e=.returned (.pointer (some ⟨y.g,0,none⟩))/\BW a (53+32 * K) T K x y (fun _=>csN) (fun _=>none) 0 0 w.heap.size S (curB K) w'/\T<=100/\Blw w w'
theorem w9a (K:Nat) (_h:K<=12):((53+32 * K:Nat):Int)=53+32 * (K:Int)/\((32 * K:Nat):Int)=32 * (K:Int):=oM
theorem x2v (K:Nat) (hK:1<=K) (hK12:K<=12) (w:World) (ht:Tab w) (hpy:Pay w):Calls Tryz.prog 20 #[.int .i64 K] w (w6r K w):=by
 have HT:=hid ht;have G1:=hid hpy;have HN:=hid (w5v (fun _=>False) (53+32 * K) oM oM w);have HK:=hid (And.intro hK hK12);have Ga:=hid (show 1 < w.heap.size/\0 < w.heap.size from ⟨ht.size,hpy.size⟩);rw [(w9a K hK12).1] at HN;clear ht hpy;go_enter Tryz.func20,Tryz.ntmps20
 go_wp2_with fail
 refine HN.out.mono ?_;rintro e w1 ⟨a,S1,rfl,Gw,Gk,Gq,Gs⟩;have Gz:=hid Gw;clear Gw;have HH:=hid (fun W (hW:Blw w1 W)=>z8n (Gk.below hW));have HR:=hid (y1y Gk 0 26 oM oM oM);have Gf:=hid Gq;have Gd:=hid Gs;clear Gk Gq Gs HN;unfold memV at HR;have Gp:Hid (Calls Tryz.prog 74 #[.iface 58 (.pointer (some ⟨a.th 0,0,none⟩)),.int .i64 0,.int .i64 26] w1 fun e w'=>∃ S2,e=.returned (.int .i64 0)/\Dev a (53+32 * K) 3 w' S2 (wrS (fun _=>0) [(64 * 0,0)]) 0/\(∀ k,S2 k->w.heap.size<=k)/\Blw w w'):=hid (HR.out.mono (fun e w' h=>by
  obtain ⟨he,S2,hd,hc,hg⟩:=h;refine ⟨S2,he,hd,fun k hk=>(hg k hk).elim (Gf.out k) (fun h=>Nat.le_trans Gd.out.size h),Gd.out.trans (hc.toBelow Gd.out.size Gf.out)⟩))
 clear HR;go_wp2_with (first
  | (go_at_call 71;refine (HH.out _ (Below.refl _ _)).mono ?_;rintro e Wz ⟨rfl,rfl⟩)
  | (go_at_call 74;refine Gp.out.mono ?_;rintro e w2 ⟨S2,rfl,Gl,Gi,Gj⟩;refine stop ?_))
 unfold Stop;have Go:=hid (z8n Gl);have Gg:=hid Gi;have Ge:=hid Gj;have Gh:=HK.out;have Gm:=hid (y1w Gl (HT.out.below Gj) (fun h=>by have:=Gi _ h;have:=Ga.out.1;omega) 53 (32 * K) K oM oM oM oM);have Gb:Hid (Calls Tryz.prog 75 #[.iface 58 (.pointer (some ⟨a.th 0,0,none⟩)),.int .i64 53,.int .i64 (32 * (K:Int))] w2 fun e w'=>∃ S3,e=.returned (.int .i64 0)/\Dev a (53+32 * K) (3+3 * K) w' S3 (curB K) 0/\(∀ k,S3 k->w.heap.size<=k)/\Blw w w'):=hid (by
  rw [<- (w9a K Gh.2).2];refine Gm.out.mono (fun e w' h=>?_);obtain ⟨he,S3,hd,hc,hg⟩:=h;exact ⟨S3,he,hd,fun k hk=>(hg k hk).elim (Gg.out k) (fun h=>Nat.le_trans Ge.out.size h),Ge.out.trans (hc.toBelow Ge.out.size Gg.out)⟩)
 have G2:(K:Int)<=12:=oM;have G3:(1:Int)<=(K:Int):=oM;clear Gl Gi Gj Gm HH Gp Gf Gd;go_wp2_with (first
  | (go_at_call 71;refine Go.out.mono ?_;rintro e Wz ⟨rfl,rfl⟩)
  | (go_at_call 75;refine Gb.out.mono ?_;rintro e w3 ⟨S3,rfl,Gv,Gr,Gc⟩;refine stop ?_))
 unfold Stop;have G0:=hid (x6d (b0:=w.heap.size) Gv Gz.out rfl Gh.1 Gh.2 (HT.out.below Gc) (G1.out.below Gc) (w5d K) ⟨Ga.out.1,Ga.out.2,Gc.size,Gr⟩);have Gn:=hid Gc;clear Gv Gr Gc Gb Go Gg Ge;go_wp2_with (go_at_call 102;refine G0.out.mono ?_;rintro e w4 ⟨x,y,rfl,Gu,Gt⟩;have Gy:=hid Gu;have Gx:=hid (Gn.out.trans (Gt.mono Gn.out.size));clear Gu Gt)
 go_ret;exact ⟨a,_,x,y,S3,rfl,Gy.out,by have:=HK.out.2;omega,Gx.out⟩
theorem z8c:(Tryz.prog.info? 54).map (fun i=>(i.zero,i.size,i.bytes))=some (some (.int .u64 0),1,8):=by kernel_rfl
section
variable {P:Program} (w:World)
theorem z3y {ops:Array Oper} {rest:List Oper} {o:Oper} {a:Act} {Q:Exit->Act->World->Prop} (s x:Operand) (t:TypeId)
  (hw:Region.wanted o (yielded ops a.tmps)=true)
  (ho:o.op=.call { callee := .builtin .append,args:=#[s,x],argTypes:=#[t,t] })
  (base:Nat) (e:TypeId) (i:TypeInfo) (z:Value) (size bytes:Nat) (ht:P.underlying t=some (.slice e)) (hi:P.info? e=some i) (hz:i.zero=some z)
  (hsize:i.size=size) (hby:i.bytes=bytes) (hzs:z.cells.size=size) (hsz:0 < size)
  (v:Value) (n:Nat) (xs:List Value) (hs:a.eval s=v) (hown:w.ownsRow base e size v n xs)
  (B:Nat) (A:Option Addr) (m c:Nat) (news:List Value) (hx:a.eval x=.slice A m c) (hr:z0c w B size A m news) (h1:∀ u∈news,u.oneCell'=true)
  (h63:n+m<=maxLen) (hbytes:(n+m) * bytes<=140737488355328) (hbase:base<=w.heap.size)
  (h:∀ A' n' c' w',n'=n+m->w'.ownsRow base e size (.slice A' n' c') n' (xs++news)->w.grownBy w' v.ownBlock->((Value.slice A' n' c').ownBlock=v.ownBlock\/(Value.slice A' n' c').ownBlock=some w.heap.size)->wpList P ops Q rest (a.put o.dst (.slice A' n' c')) w'):wpList P ops Q (o :: rest) a w:=by
 refine Go.BigFrame.wpList_want hw fun K hK=>?_
 refine z3p w s x t ho base e i z size bytes ht hi hz hsize hby hzs hsz v n xs hs hown B A m c news hx hr h1 h63 hbytes hbase fun v' w' h2 h3 h4=>?_
 obtain ⟨A',c',rfl⟩:=z3i h2;exact hK _ _ (h A' _ c' w' rfl h2 h3 h4)
end
section
variable {a:DA} {L T s n K:Nat} {x:HA} {cs:Nat->CS} {f:Nat->Option Nat} {N m b0:Nat} {S:Fp} {cur:Nat->Nat} {w w':World} {d r:Nat}
structure LoS (x:HA) (d r b0 B:Nat):Prop where
 h:x.h < B
 gs:x.gs < B
 pl:x.pl < B
 mr:x.mr < B
 mh:x.mh < B
 d:d < B
 r:r < B
 b:b0<=B
theorem SD.lo (h:SD a L T s n K x cs f N m b0 S cur w d r):LoS x d r b0 w.heap.size:=by
 obtain ⟨h1,h2,h3,h4,h5⟩:=h.ds.hs.lt;obtain ⟨_,_,l3,_⟩:=h.ds.lo;exact ⟨h1,h2,h3,h4,h5,h.dir.lt,h.log.lt,oM⟩
theorem SD.chg {Z:Fp} {B:Nat} (h:SD a L T s n K x cs f N m b0 S cur w d r) (hl:LoS x d r b0 B) (hc:Chg Z w w') (hZ:∀ k,Z k->¬ S k/\B<=k):SD a L T s n K x cs f N m b0 S cur w' d r:=by
 have hn:∀ g,g < B->¬ Z g:=fun g hg hz=>by have:=(hZ g hz).2;omega
 obtain ⟨l1,l2,l3,l4,l5,l6,l7,l8⟩:=h.ds.lo;refine { h with ds:={ h.ds with dev:=h.ds.dev.chg hc (fun j hj hz=>(hZ j hz).1 hj),hs:=h.ds.hs.chg hc (hn _ hl.h) (hn _ hl.gs) (hn _ hl.pl) (hn _ hl.mr) (hn _ hl.mh),tab:=h.ds.tab.chg hc (hn _ (by have:=hl.b;omega)),pay:=fun i hi=>?_ },dir:=hc.blk h.dir (hn _ hl.d),log:=hc.blk h.log (hn _ hl.r) };exact (World.cell?_of_block (w:=w) (hc.block _ h.ds.pay.size (hn _ (by have:=hl.b;show 0 < B;omega)))).trans (h.ds.pay i hi)
theorem x0f {L':Nat} (h:Dev a L T w S cur 0) {g:Nat} (hB:Blk w d 240 (z1k a g r)) (hdS:¬ S d) {A:Option Addr} {m c base:Nat} {p:List Ins} {ws:List (Nat × Nat)} (ho:w.ownsRow base 284 3 (.slice A m c) m (z0j p)) (hb:∀ k,S k->k < base) (hp:z0y ws p)
  (hw:∀ e∈ws,e.1 % 8=0/\e.1 < 64 * L/\e.2 < 18446744073709551616) (hl:ws.length<=1000) (hL':2 * ws.length+1<=L') (hT:T+L'<=1000000000) :
  Calls Tryz.prog 78 #[.slice A m c,dirV d] w (z2c a L (T+L') w S (wrS cur ws) 0 (.int .i64 0)):=by
 obtain ⟨hg,hr,Gb⟩:=z1o hp hw cur;have hm:p.length=m:=by have:=ho.1;rw [z0v] at this;omega
 refine (w2t h hB hdS A m c p (z0c.of_own ho) ?_ hg oM oM).mono ?_
 ·intro ad had hs
  rcases ho.2 with ⟨hv,_⟩ | ⟨g,cap,cs,hv,hge,_⟩
  ·injection hv with h1;rw [h1] at had;cases had
  ·injection hv with h1
   rw [h1] at had;injection had with h2
   subst h2;have:=hb _ hs;simp at this;omega
 ·rintro e w' ⟨he,S',hd,hc,Ga⟩
  rw [hr] at hd;exact ⟨he,S',hd.more oM oM,hc,Ga⟩
theorem At.inL {q k i:Nat} (h:At s K cs q k i) (hd:DS a L T s n K x cs f N m b0 S cur w):pOff q+8 * payW (cs k).cl<=64 * L/\pOff q % 8=0:=by
 have h1:=h.lo;have h2:=off_lt h.2.2.1;have h3:=hd.line h.1;omega
def x5p (a:DA) (L T s n K:Nat) (x:HA) (cs:Nat->CS) (f:Nat->Option Nat) (N m b0:Nat) (S:Fp) (cur:Nat->Nat) (w:World) (d r:Nat) (e:Ending) (w':World):Prop :=
 e=.returned (.int .i64 0)/\∃ S',SD a L T s n K x cs f N m b0 S' cur w' d r/\Chg S w w'/\Grew S S' w
theorem SD.paid (h:SD a L T s n K x cs f N m b0 S cur w d r) {q k i:Nat} {l:List Nat} (hq:At s K cs q k i) (hl:l.length=payW (cs k).cl) (hv:∀ y∈l,y < 18446744073709551616) {A:Option Addr} {mm c base:Nat} {p:List Ins} (ho:w.ownsRow base 284 3 (.slice A mm c) mm (z0j p)) (hb:∀ k,S k->k < base) (hp:z0y (pwW (pOff q) l) p) (hT:T+200<=1000000000) :
  Calls Tryz.prog 78 #[.slice A mm c,dirV d] w (x5p a L (T+200) s n K x cs f N m b0 S (wrS cur (pwW (pOff q) l)) w d r):=by
 obtain ⟨h1,h2⟩:=hq.inL h.ds;have Gc:=(z5k (cs k).cl).2;have Ga:∀ j,j < l.length->l.getD j 0 < 18446744073709551616:=fun j hj=>by
  rw [List.getD_eq_getElem?_getD,List.getElem?_eq_getElem hj];exact hv _ (List.getElem_mem hj)
 have hw:∀ e∈pwW (pOff q) l,e.1 % 8=0/\e.1 < 64 * L/\e.2 < 18446744073709551616:=fun e he=>by
  obtain ⟨j,hj,rfl⟩:=y1g he;exact ⟨by show (pOff q+8 * j) % 8=0;omega,by show pOff q+8 * j < 64 * L;omega,Ga j hj⟩
 refine (x0f (L':=200) h.ds.dev h.dir h.offd ho hb hp hw (by rw [y1f];omega) (by rw [y1f];omega) hT).mono ?_;rintro e w' ⟨rfl,S',hd,hc,hg⟩;refine ⟨rfl,S',?_,hc,hg⟩;have Gb:=h.ds.dev_ hd hc hg (h.ds.ok_pay hq.1 hq.2.1 rfl hq.2.2.1 (fun e he=>by
  obtain ⟨j,hj,rfl⟩:=y1g he;exact ⟨j,oM,by show pOff q+8 * j=_;rw [hq.2.2.2];rfl⟩)) (z5d _ _ h.ds.bnd (fun e he=>(hw e he).2.2))
 refine h.keep Gb (hc.mono (fun _ h => .inl h)) hg ?_;rw [z4l hq oM (fun j _=>by have:=h.ln;omega)];exact h.idle
end
end
section
open Go.RowKit Go.Maps
def x5k (K:Nat) (cs:Nat->CS) (cur:Nat->Nat) (bl:List Nat) (cs':Nat->CS) (cur':Nat->Nat):Prop :=
 ∀ q kind k i,z3z 53 K cs q kind k i->z3z 53 K cs' q kind k i/\(cs' k).cl=(cs k).cl/\pOff q ∉ bl.map pOff/\∀ j,j < payW (cs k).cl->cur' (pOff q / 8+j)=cur (pOff q / 8+j)
section
variable {a:DA} {L T n K:Nat} {x:HA} {cs cs2:Nat->CS} {f f2:Nat->Option Nat} {N m b0:Nat} {S:Fp} {cur cur2:Nat->Nat} {w:World} {al p bl ks:List Nat} {V:Nat->Nat} {cm i v:Nat}
end
end
section
open Go.RowKit Go.Maps
def x2p (s K:Nat) (cs:Nat->CS) (q:Nat):Prop:=∃ kind k i,z3z s K cs q kind k i
section
variable {s K:Nat} {cs:Nat->CS} {f:Nat->Option Nat} {cur:Nat->Nat}
theorem z3z.same {q p kq kp k i k' i':Nat} (h:z3z s K cs q kq k i) (h':z3z s K cs p kp k' i') (e:pOff p=pOff q):p=q:=by
 have ha:At s K cs q k' i':=⟨h'.at_.1,h'.at_.2.1,h'.at_.2.2.1,e ▸ h'.at_.2.2.2⟩
 obtain ⟨rfl,rfl⟩:=h.at_.uniq ha;have hb:=h.bk.symm.trans h'.bk;simp only [BK.mk.injEq] at hb;rw [y1b h.top,y1b h'.top,e,hb.1,h.kind_,h'.kind_,hb.2.1]
theorem x1z {keep free ks:List Nat} {V:Nat->Nat} {q:Nat} (hA:AOk s K cs ks (tlOf s cs keep) (dlOf s cs free) V) (hks:∀ k,k∈ks↔k < K/\(tlOf s cs keep k≠[]\/dlOf s cs free k≠[]))
  (hkp:∀ p∈keep,∃ kind c,kind < 128/\Rq s K cs f kind p c) (hfr:∀ p∈free,∃ k i,At s K cs p k i) (h:x2p s K (acC cs ks (tlOf s cs keep) (dlOf s cs free) V) q):q∈keep\/(x2p s K cs q/\∀ p∈free,pOff p≠pOff q):=by
 obtain ⟨kind,k,i,hl⟩:=h;by_cases h1:∃ p∈keep,pOff p=pOff q
 ·obtain ⟨p,hp,e⟩:=h1
  obtain ⟨kd,c,Gd,hr⟩:=hkp p hp;obtain ⟨k2,i2,Gf,_⟩:=y4z hA hks hr hp Gd;exact .inl (hl.same Gf e ▸ hp)
 ·have Gb:At s K cs q k i:=by
   obtain ⟨e1,e2,_⟩:=z5o cs ks (tlOf s cs keep) (dlOf s cs free) V k;obtain ⟨a1,a2,a3,a4⟩:=hl.at_;refine ⟨a1,e1 ▸ a2,e2 ▸ a3,?_⟩;rw [a4];unfold offO;rw [e2]
  have h2:∀ p∈free,pOff p≠pOff q:=fun p hp e=>by
   obtain ⟨k2,i2,Ga⟩:=hfr p hp;have Ge:At s K cs q k2 i2:=⟨Ga.1,Ga.2.1,Ga.2.2.1,e ▸ Ga.2.2.2⟩
   obtain ⟨rfl,rfl⟩:=Gb.uniq Ge;have hm:=w7r Ga hp;have hk:k∈ks:=(hks k).2 ⟨Ga.1,.inr (fun e=>by rw [e] at hm;exact absurd hm (by simp))⟩;have hb:=hl.bk;unfold acC at hb;rw [if_pos hk] at hb;have Gc:actB (cs k).bs (tlOf s cs keep k) (dlOf s cs free k) i=⟨pGen q,kind,177⟩:=hb;rw [y3u (hA.once k hk) hm] at Gc;unfold z1u at Gc;split at Gc <;> simp at Gc
  refine .inr ⟨⟨kind,k,i,Gb,?_,hl.kind_,hl.nz,hl.lt,hl.top⟩,h2⟩;rw [<- hl.bk];exact (x8m (fun p hp=>by
   obtain ⟨kd,c,_,hr⟩:=hkp p hp;obtain ⟨k2,i2,ha,_⟩:=hr.cls;exact ⟨k2,i2,ha⟩) hfr Gb.2.2.1 (fun p hp e=>h1 ⟨p,hp,e.trans Gb.2.2.2.symm⟩) (fun p hp e=>h2 p hp (e.trans Gb.2.2.2.symm))).symm
theorem Fr.alive {cs2:Nat->CS} {f2:Nat->Option Nat} {cur2:Nat->Nat} {q:Nat} (hF:Fr s K cs f cur cs2 f2 cur2) (h:x2p s K cs2 q):x2p s K cs q:=by
 obtain ⟨Ga,k,i,hl⟩:=h;cases hd:(cs k).dv
 ·have:=hF.neu k i hl.at_.1 hd hl.at_.2.1
  rw [hl.bk] at this;exact absurd rfl this
 ·have e:=hF.chunk k hl.at_.1 hd
  obtain ⟨a1,a2,a3,a4⟩:=hl.at_;refine ⟨Ga,k,i,⟨a1,hd,by rw [<- e];exact a3,?_⟩,by rw [<- e];exact hl.bk,hl.kind_,hl.nz,hl.lt,hl.top⟩;rw [a4];unfold offO;rw [e]
end
end
section
open Go.RowKit Go.Maps
def w3v (K b0:Nat) (cs:Nat->CS) (cur:Nat->Nat) (w:World) (e:Ending) (w':World):Prop:=∃ a S x y,e=.returned (.pointer (some ⟨y.g,0,none⟩))/\BW a (53+32 * K) 0 K x y cs (fun _=>none) 0 0 b0 S cur w'/\Blw w w'
theorem y2b {a:DA} {L T K:Nat} {x:HA} {y:WA} {cs:Nat->CS} {f:Nat->Option Nat} {N m b0:Nat} {S:Fp} {cur:Nat->Nat} {w:World} (h:BW a L T K x y cs f N m b0 S cur w) (b1:Nat) (hb1:b0<=b1/\b1<=w.heap.size) (A:Option Addr) (n c:Nat) :
  Calls Tryz.prog 29 #[.pointer (some ⟨y.g,0,none⟩),.slice A n c,.int .i64 (-1)] w (w3v K b1 cs cur w):=by
 have Gd:=h.size;have Gf:=w3a h.sd.ds.dev (fun k=>by rw [h.rest];exact id);have HC:=hid (y6g (fun _=>False) Gf h.sd.ds.bnd oM A n c);obtain ⟨Gk,Gj,_,_⟩:=h.sd.ds.hK;have Gc:=h.few;have Gi:=h.sd.ds.lo;have HO:Hid (∀ (a':DA) (S':Fp) (W:World),a'.dirty=(fun _=>False)->Dev a' L 0 W S' cur 0->(∀ k,S' k->w.heap.size<=k)->Blw w W->Calls Tryz.prog 102 #[.pointer (some ⟨a'.d,0,none⟩),.int .i64 K] W (w3v K b1 cs cur w)):=hid (fun a' S' W Gb Ga hS hW=>by
  refine (y2k (b0:=b1) cs Ga Gb Gd Gj Gc (h.sd.ds.tab.below hW) (h.sd.ds.pay.below hW) ⟨h.sd.idle,h.uid,h.sd.ds.ok,h.sd.ds.bnd⟩ ⟨oM,oM,Nat.le_trans hb1.2 hW.size,fun k hk=>Nat.le_trans hb1.2 (hS k hk)⟩).mono ?_;rintro e w' ⟨x',y',rfl,Ge,Gh⟩;rw [Gd] at Ge;exact ⟨a',S',x',y',rfl,Ge,hW.trans (Gh.mono hW.size)⟩)
 have f0:w.cell? ⟨y.g,0,none⟩=some (.pointer (some ⟨a.d,0,none⟩)):=h.blk.cell 0;have HK:Hid (∀ W,Blw w W->W.cell? ⟨y.g,5,none⟩=some (.int .i64 K)):=hid (fun W hW=>(h.blk.below hW h.blk.lt).cell 5);clear h Gf Gi;go_enter Tryz.func29,Tryz.ntmps29
 go_wp2_with (first
  | (go_at_call 16;refine HC.out.mono ?_;rintro e w1 ⟨a',S',rfl,Gb,Ga,hS,hb⟩;have Gg:=hid (HO.out a' S' _ Gb Ga hS hb);have f5:=HK.out _ hb;clear Gb Ga hS hb)
  | (go_at_call 102;refine Gg.out.mono ?_;rintro e w2 ⟨a2,S2,x2,y2,rfl,h2,h3⟩;have H2:=hid h2;have H3:=hid h3;clear h2 h3)
  | fail)
 go_ret;exact ⟨a2,S2,x2,y2,rfl,H2.out,H3.out⟩
theorem x4f (p : Option Addr) (w : World) : (method 640 59 (.pointer p) "Alloc").run Tryz.prog w=.ok (429,.pointer p) w := by kernel_rfl
theorem y8n (p : Addr) (w : World) : (nilAhead 640 59 (.pointer (some p)) "Alloc").run Tryz.prog w=.ok (some false) w := by kernel_rfl
structure WrI (a:DA) (L T s n K:Nat) (x:HA) (N m b0:Nat) (S0:Fp) (d r:Nat) (w wr:World) (A:Option Addr) (mm c:Nat) (bl:List Nat) (cs:Nat->CS) (f:Nat->Option Nat) (S:Fp) (cur:Nat->Nat):Prop where
 sd:SD a L T s n K x cs f N m b0 S cur wr d r
 chg:Chg (sfp S0 x) w wr
 grew:Grew S0 S w
 spc:Blk wr w.heap.size 83 #[dirV d]
 cell:Blk wr (w.heap.size+1) 40 #[.slice A mm c]
 own:wr.ownsRow (w.heap.size+2) 54 1 (.slice A mm c) mm (z0a bl)
 len:mm=bl.length
 off:¬ S w.heap.size/\¬ S (w.heap.size+1)/\∀ g,(Value.slice A mm c).ownBlock=some g->¬ S g
section
variable {a:DA} {L T s n K:Nat} {x:HA} {N m b0:Nat} {S0:Fp} {d r:Nat} {w wr w':World} {A:Option Addr} {mm c:Nat} {bl:List Nat} {cs:Nat->CS} {f:Nat->Option Nat} {S:Fp} {cur:Nat->Nat}
theorem WrI.size (h:WrI a L T s n K x N m b0 S0 d r w wr A mm c bl cs f S cur):w.heap.size+2<=wr.heap.size:=by
 have:=h.cell.lt;omega
theorem WrI.sdo {T' N' m':Nat} {cs':Nat->CS} {f':Nat->Option Nat} {S':Fp} {cur':Nat->Nat} (h:WrI a L T s n K x N m b0 S0 d r w wr A mm c bl cs f S cur) (hlo:LoS x d r b0 w.heap.size) (hd:SD a L T' s n K x cs' f' N' m' b0 S' cur' w' d r) (hc:Chg (sfp S x) wr w') (hg:Grew S S' wr) :
  WrI a L T' s n K x N' m' b0 S0 d r w w' A mm c bl cs' f' S' cur':=by
 have Gb:∀ k,w.heap.size<=k->¬ x.fp k:=fun k hk hz=>by
  rcases hz with e | e | e
  ·have:=hlo.pl;omega
  ·have:=hlo.mr;omega
  ·have:=hlo.mh;omega
 have Gc:=h.size;have Ga:=h.own.lt;refine ⟨hd,h.chg.trans hc (fun k hk=>?_),h.grew.trans hg h.chg.size,hc.blk h.spc ?_,hc.blk h.cell ?_,hc.own h.own (fun g hg'=>?_),h.len,⟨hg.off ⟨oM,h.off.1⟩,hg.off ⟨oM,h.off.2.1⟩,fun g hg'=>hg.off ⟨(Ga g hg').2,h.off.2.2 g hg'⟩⟩⟩
 ·rcases hk with hk | hk
  ·rcases h.grew k hk with h1 | h1
   ·exact .inl (.inl h1)
   ·exact .inr h1
  ·exact .inl (.inr hk)
 ·rintro (e | e)
  ·exact h.off.1 e
  ·exact Gb _ (nL _) e
 ·rintro (e | e)
  ·exact h.off.2.1 e
  ·exact Gb _ oM e
 ·rintro (e | e)
  ·exact h.off.2.2 g hg' e
  ·exact Gb g (by have:=(Ga g hg').1;omega) e
theorem WrI.below (h:WrI a L T s n K x N m b0 S0 d r w wr A mm c bl cs f S cur) (hb:Blw wr w'):WrI a L T s n K x N m b0 S0 d r w w' A mm c bl cs f S cur :=
 ⟨h.sd.below hb,h.chg.below hb,h.grew,h.spc.below hb h.spc.lt,h.cell.below hb h.cell.lt,z0r h.own hb,h.len,h.off⟩
theorem WrI.push {W W':World} {A':Option Addr} {m' c' q:Nat} {o:Obj} (h:WrI a L T s n K x N m b0 S0 d r w wr A mm c bl cs f S cur) (hlo:LoS x d r b0 w.heap.size) (hW:W=wr.alloc o) (hm:m'=mm+1) (ho:W'.ownsRow (w.heap.size+2) 54 1 (.slice A' m' c') m' (z0a bl++[.int .u64 q])) (hg:W.grownBy W' (Value.slice A mm c).ownBlock) (hv:(Value.slice A' m' c').ownBlock=(Value.slice A mm c).ownBlock\/(Value.slice A' m' c').ownBlock=some W.heap.size) :
  WrI a L T s n K x N m b0 S0 d r w (W'.setCell ⟨w.heap.size+1,0,none⟩ (.slice A' m' c')) A' m' c' (bl++[q]) cs f S cur:=by
 subst hW;have Gd:=h.size;have Ga:=h.own.lt;have h1:=h.below ((Below.refl _ wr).alloc (nL _) o);have hc:Chg (fun k=>k=w.heap.size+1\/(Value.slice A mm c).ownBlock=some k) (wr.alloc o) (W'.setCell ⟨w.heap.size+1,0,none⟩ (.slice A' m' c')) :=
  ((Chg.refl _ (wr.alloc o)).grown hg (fun g e => .inl (.inr e))).setCell (p:=⟨w.heap.size+1,0,none⟩) (.inl (.inl rfl)) _
 have hZ:∀ k,(k=w.heap.size+1\/(Value.slice A mm c).ownBlock=some k)->¬ S k/\w.heap.size<=k:=fun k hk=>by
  rcases hk with rfl | hk
  ·exact ⟨h.off.2.1,oM⟩
  ·exact ⟨h.off.2.2 k hk,by have:=(Ga k hk).1;omega⟩
 have Gc:=h1.sd.chg hlo hc hZ;have Gb:Blk W' (w.heap.size+1) 40 #[.slice A mm c]:=h1.cell.grown hg (fun e=>by have:=(Ga _ e.symm).1;omega);refine ⟨Gc,?_,h.grew,?_,Gb.set_ 0 _,?_,?_,⟨h.off.1,h.off.2.1,fun g hg'=>?_⟩⟩
 ·refine h1.chg.trans (S':=fun k=>k=w.heap.size+1\/(Value.slice A mm c).ownBlock=some k) hc (fun k hk=>?_)
  exact .inr (hZ k hk).2
 ·refine hc.blk h1.spc ?_
  rintro (e | e)
  ·omega
  ·have:=(Ga _ e).1;omega
 ·have e:z0a (bl++[q])=z0a bl++[.int .u64 q]:=by simp [z0a]
  rw [e];exact w5y ho (p:=⟨w.heap.size+1,0,none⟩) (by show w.heap.size+1 < _;omega) _
 ·rw [List.length_append,hm,h.len];rfl
 ·rcases hv with e | e
  ·exact h.off.2.2 g (e ▸ hg')
  ·rw [e] at hg'
   injection hg' with hg'
   subst hg';intro hs;have:=h1.sd.ds.dev.lt _ hs;omega
end
end
section
open Go.RowKit Go.Maps
def y3t (w:World) (R:Nat × List Nat × List Nat) (e:Ending) (w':World):Prop :=
 if R.1=0 then ∃ A m c A2 m2 c2,e=.returned (.tuple #[.slice A m c,.slice A2 m2 c2,.int .i64 0])/\m=R.2.1.length/\m2=R.2.2.length/\z0c w' w'.heap.size 1 A m (z0a R.2.1)/\z0c w' w'.heap.size 1 A2 m2 (u8s R.2.2)/\(∀ ad,A=some ad->w.heap.size<=ad.block)/\(∀ ad,A2=some ad->w.heap.size<=ad.block)/\(m<=c/\m2<=c2)/\Blw w w'
 else e=.returned (.tuple #[.slice none 0 0,.slice none 0 0,.int .i64 R.1])/\Blw w w'
def z1b (L:Nat) (cur:Nat->Nat) (chk:Nat->Nat) (p:Nat):Nat × List Nat × List Nat:=if chk p≠0 then (chk p,[],[]) else z7y L cur chk 6 p (-1) [] []
def w8p:Value->Nat
 | .slice _ n _=>n
 | _=>0
structure WkI (w wr:World) (A:Option Addr) (m c:Nat) (A2:Option Addr) (m2 c2:Nat) (bs by_:List Nat):Prop where
 o1:wr.ownsRow w.heap.size 54 1 (.slice A m c) m (z0a bs)
 o2:wr.ownsRow w.heap.size 5 1 (.slice A2 m2 c2) m2 (u8s by_)
 l1:m=bs.length
 l2:m2=by_.length
 below:Blw w wr
section
variable {a:DA} {L T s n K:Nat} {x:HA} {cs:Nat->CS} {f:Nat->Option Nat} {N m b0:Nat} {S:Fp} {cur:Nat->Nat} {w w':World} {d r:Nat}
theorem y5k (h:SD a L T s n K x cs f N m b0 S cur w d r) (p:Nat) (hp64:p < 18446744073709551616) :
  Calls Tryz.prog 110 #[dirV d,.int .u64 p] w (y3t w (z1b L cur (fun q=>chkR s K cs q 1) p)):=by
 have HC:=hid (x0y h p 1 hp64 oM);rw [show ((1:Nat):Int)=1 from rfl] at HC;have HS:=hid h;have GB:Hid (∀ W,Blw w W->Calls Tryz.prog 432 #[.pointer (some ⟨d,0,none⟩)] W fun e w'=>e=.returned (.int .i64 0)/\W=w'):=hid (fun W hW=>errD (h.ds.dev.below hW) (h.dir.below hW h.dir.lt));have Dz:=z3b (some ⟨d,0,none⟩);have Dy:=z6h (some ⟨d,0,none⟩);have Dn:∀ W,(binOp .eql 83 (.iface 59 (.pointer (some ⟨d,0,none⟩))) .nilIface).run Tryz.prog W=.ok (.bool false) W:=fun W=>by rfl
 have GS:Hid (∀ (W:World) (q:Nat),Blw w W->q≠0->q < 18446744073709551616->Calls Tryz.prog 222 #[.iface 59 (.pointer (some ⟨d,0,none⟩)),.int .u64 q] W (x9y W (z4g L cur q))):=hid (fun W q hW GJ hq=>x6c (h.ds.dev.below hW) (h.dir.below hW h.dir.lt) (h.ds.pay.below hW) h.ds.bnd q GJ hq);have GI:Hid (∀ (W:World) (q:Nat),Blw w W->q < 18446744073709551616->Calls Tryz.prog 224 #[.iface 59 (.pointer (some ⟨d,0,none⟩)),.int .u64 q] W fun e w'=>e=.returned (.int .i64 (refR (chkR s K cs q 1):Int))/\Blw W w'):=hid (fun W q hW hq=>x4q (h.below hW) q hq);have Gi:Hid (∀ q:Nat,chkR s K cs q 1=0->q≠0):=hid (fun q hq e=>by subst e;unfold chkR at hq;simp at hq);unfold z1b;generalize hchk:(fun q=>chkR s K cs q 1)=chk at *;have GW:chkR s K cs p 1=chk p:=by rw [<- hchk]
 have GX:∀ q,chkR s K cs q 1=chk q:=fun q=>by rw [<- hchk]
 rw [GW] at HC;simp only [GX] at GI Gi;clear GW GX hchk h;unfold dirV;by_cases hc0:chk p=0
 ·rw [if_neg oM]
  rw [hc0,show ((0:Nat):Int)=0 from rfl] at HC;have Do:=Gi.out p hc0;clear hc0;obtain ⟨R,hR⟩:∃ R,z7y L cur chk 6 p (-1) [] []=R:=⟨_,rfl⟩
  rw [hR];have HR:=hid hR;clear hR;obtain ⟨i0,Di,Dv,Dw,Dx⟩:=info_parts z8c;obtain ⟨u0,Dr,Ds,Dt,Du⟩:=info_parts x7j;go_enter Tryz.func110,Tryz.ntmps110
  go_wp2_with (first
   | (go_at_call 432;refine (GB.out _ (Below.refl _ _)).mono ?_;rintro e w2 ⟨rfl,rfl⟩)
   | (go_at_call 431;refine HC.out.mono ?_;rintro e w1 ⟨rfl,G0⟩;have G3:=hid G0;clear G0))
  have GP:Hid (WkI w w1 none 0 0 none 0 0 [] []):=hid ⟨World.ownsRow_nil _ _ _ _,World.ownsRow_nil _ _ _ _,rfl,rfl,G3.out⟩;clear HC GB G3;go_loopw [9,10,1,11] (fun v1 v2 v3 v4 wr=>∃ (k q:Nat) (Ga:Int) (bs Gc:List Nat) (A:Option Addr) (m c:Nat) (A2:Option Addr) (m2 c2:Nat),v1=.slice A m c/\v2=.slice A2 m2 c2/\v3=.int .u64 q/\v4=.int .i64 Ga/\m+k=6/\q≠0/\q < 18446744073709551616/\((Ga < 0/\k=6)\/(0<=Ga/\Ga<=456 * k/\1<=k))/\m2<=456 * m/\Hid (z7y L cur chk k q Ga bs Gc=R)/\Hid (WkI w wr A m c A2 m2 c2 bs Gc)) (fun v1 _ _ _ _=>6 - w8p v1)
  case atStart=>exact ⟨6,p, -1,[],[],none,0,0,none,0,0,rfl,rfl,rfl,rfl,rfl,Do,hp64,.inl ⟨oM,rfl⟩,oM,HR,GP⟩
  case round =>
   clear GP HR;obtain ⟨k,q,Ga,bs,Gc,A,m,c,A2,m2,c2,rfl,rfl,rfl,rfl,D0,GJ,GK,GL,Dj,HR,HI⟩:=hrel;obtain ⟨k,rfl⟩:∃ j,k=j+1:=⟨k - 1,oM⟩
   have hR:=HR.out;unfold z7y at hR;have HL:=hid (GS.out wr q HI.out.below GJ GK);cases hl:z4g L cur q with
   | none =>
    rw [hl] at hR HL;have G6:Hid (Calls Tryz.prog 222 #[.iface 59 (.pointer (some ⟨d,0,none⟩)),.int .u64 q] wr fun e w'=>e=.returned (.tuple #[.slice none 0 0,.int .i64 0,.int .i64 11])/\Blw wr w'):=HL;have HF:Hid (R=(11,[],[])):=hid hR.symm;clear hR HL hl HR GL Dj;go_wp2_with (go_at_call 222;refine G6.out.mono ?_;rintro e w2 ⟨rfl,Gr⟩;have Gt:=hid Gr;clear Gr)
    go_ret3
    rw [HF.out];exact ⟨rfl,HI.out.below.trans (Gt.out.mono HI.out.below.size)⟩
   | some o =>
    obtain ⟨l,rest⟩:=o;obtain ⟨l1,l2,l3,l4⟩:=x7o hl;rw [hl] at hR HL;obtain ⟨nn,GA⟩:∃ nn,l.length=nn:=⟨_,rfl⟩
    have G6:Hid (Calls Tryz.prog 222 #[.iface 59 (.pointer (some ⟨d,0,none⟩)),.int .u64 q] wr fun e w'=>∃ g,e=.returned (.tuple #[.slice (some ⟨g,0,none⟩) nn nn,.int .i64 rest,.int .i64 0])/\Blk w' g 32 (uA l)/\wr.heap.size<=g/\Blw wr w'):=by rw [<- GA];exact HL
    have Dm:=z4q rest;have Gs:=y3y rest;have GR:Hid (∀ x∈l,x < 18446744073709551616):=hid (fun x hx=>by
     obtain ⟨j,hj,rfl⟩:=List.getElem_of_mem hx;rw [l4 j hj];exact HS.out.ds.bnd _)
    rw [GA] at l1;have Df:=hid GA;have Gk:nn<=60/\3<=nn/\z6o rest < nn:=⟨oM,oM,by unfold z6o;omega⟩
    obtain ⟨l0,G9⟩:∃ l0,l.getD 0 0=l0:=⟨_,rfl⟩
    have Dd:Hid ((uA l)[0]?=some (.int .u64 l0)):=hid (by
     rw [x0l oM,<- G9,List.getD_eq_getElem?_getD,List.getElem?_eq_getElem (show 0 < l.length by omega)];rfl)
    have Ge:l0 < 18446744073709551616:=by
     rw [<- G9,List.getD_eq_getElem?_getD,List.getElem?_eq_getElem (show 0 < l.length by omega)];exact GR.out _ (List.getElem_mem _)
    have GV:(if 0<=Ga/\(rest:Int)≠Ga then (11,[],[]) else if z4j l rest≠0 then (z4j l rest,[],[]) else if rest<=456 then (0,bs++[q],Gc++z5n l rest) else if chk l0≠0 then (11,[],[]) else z7y L cur chk k l0 ((rest:Int) - 456) (bs++[q]) (Gc++z5n l rest))=R:=by rw [<- G9];exact hR
    have GH:=hid GV;clear hR GV HL HR hl l1 l3 l4 GA G9 Dm Gs;go_wp2_with (go_at_call 222;refine G6.out.mono ?_;rintro e w2 ⟨g,rfl,GU,GZ,Gr⟩;refine stop ?_)
    unfold Stop;have Gt:=hid GU;have GO:=hid GZ;have Gg:=hid Gr;have Gm:=hid (HI.out.below.trans (Gr.mono HI.out.below.size));clear GU GZ Gr G6;by_cases hw:0<=Ga/\(rest:Int)≠Ga
    ·have d1:decide ((0:Int)<=Ga)=true:=decide_eq_true hw.1
     have d0:(0:Int)<=Ga:=hw.1;have d2:((rest:Int) != Ga)=true:=by rw [bne,beq_eq_false_iff_ne.2 hw.2];rfl
     have HF:Hid (R=(11,[],[])):=hid (by have h:=GH.out;rw [if_pos hw] at h;exact h.symm);clear hw GL;go_wp2;go_ret3
     rw [HF.out];exact ⟨rfl,Gm.out⟩
    ·have Gp:Hid ((if z4j l rest≠0 then (z4j l rest,[],[]) else if rest<=456 then (0,bs++[q],Gc++z5n l rest) else if chk l0≠0 then (11,[],[]) else z7y L cur chk k l0 ((rest:Int) - 456) (bs++[q]) (Gc++z5n l rest))=R):=hid (by have h:=GH.out;rw [if_neg hw] at h;exact h)
     have Dq:rest<=456 * (k+1):=oM;have hd:decide ((0:Int)<=Ga)=false\/(decide ((0:Int)<=Ga)=true/\(0:Int)<=Ga/\((rest:Int) != Ga)=false):=by
      rcases Int.lt_or_le Ga 0 with h | h
      ·exact .inl (dF)
      ·have:(rest:Int)=Ga:=Classical.byContradiction (fun h2=>hw ⟨h,h2⟩)
       exact .inr ⟨decide_eq_true h,h,by rw [bne,beq_iff_eq.2 this];rfl⟩
     clear hw GL GH;go_upto_region 15 with fail
     go_cut [46] from 40 to 47 (fun v wx=>v=.bool false/\Hid (wx=w2))
     case first =>
      rcases hd with d1 | ⟨d1,d0,d2⟩
      ·go_wp2_with fail
       go_meet;exact ⟨rfl,hid rfl⟩
      ·go_wp2_with fail
       go_meet;exact ⟨rfl,hid rfl⟩
     case rest =>
      obtain ⟨rfl,Db⟩:=hcut;have hw:=Db.out.symm;subst hw;clear Db hd;have G8:=hid (w2g (some ⟨g,0,none⟩) nn nn rest l w2 (by have h:=y5i Gt.out;rw [Df.out] at h;exact h) GR.out (HS.out.ds.tab.below Gm.out) Gk.1 (nL _) oM Gk.2.2 l2);by_cases he:z4j l rest=0
      ·have Gy:Hid ((if rest<=456 then (0,bs++[q],Gc++z5n l rest) else if chk l0≠0 then (11,[],[]) else z7y L cur chk k l0 ((rest:Int) - 456) (bs++[q]) (Gc++z5n l rest))=R):=hid (by have h:=Gp.out;rw [if_neg (fun h=>h he)] at h;exact h)
       have Gj:Hid (Calls Tryz.prog 223 #[.slice (some ⟨g,0,none⟩) nn nn,.int .i64 rest] w2 (RetB w2 (z5n l rest))):=hid (G8.out.mono (fun e w' h=>by unfold z8v at h;rw [if_pos he] at h;exact h));have Dp:(z5n l rest).length<=456:=by unfold z5n;rw [z3c];omega
       generalize z5n l rest=pb at *;clear G8 he Gp;go_wp2_with (go_at_call 223;refine Gj.out.mono ?_;rintro e w3 ⟨A3,m3,c3,rfl,Dk,Da,GY,Gq⟩;refine stop ?_)
       unfold Stop;subst Dk;have Dl:pb.length<=456:=Dp;have Gp:=hid Da;have GN:=hid GY;have Gl:=hid (Gg.out.trans (Gq.mono Gg.out.size));have Gh:=hid (Gm.out.trans (Gq.mono Gm.out.size));have G4:=hid (Gt.out.below Gq Gt.out.lt);clear Da GY Gq Gj;have GE:=hid ((z0r HI.out.o1 Gl.out).alloc (.cells #[.int .u64 q] 54));have GF:=hid ((z0r HI.out.o2 Gl.out).alloc (.cells #[.int .u64 q] 54));have De:=hid Gh.out.size;go_upto_region 21 with (at_builtin;refine z0p _ (.tmp 56) (.tmp 58) 40 rfl rfl w.heap.size 54 i0 _ 1 8 Tryz.underlying40 Di Dv Dw Dx rfl ?q1 (.slice A m c) m (z0a bs) rfl GE.out (w3.heap.size+1) (some ⟨w3.heap.size,0,none⟩) 1 1 [.int .u64 q] rfl ?q5 ?q6 ?q2 ?q3 ?q4 ?_;(case q1=>omega);(case q5=>exact z0m _ _ rfl _ 1 1 54 _ rfl rfl);(case q6=>(intro u hu;simp at hu;subst hu;rfl));(case q2=>(unfold maxLen;omega));(case q3=>omega);(case q4=>(have:=De.out;simp;omega));intro A4 n4 c4 w4 Gs ho4 hg4 hb4;have G7:=hid Gs;have GG:=hid ho4;have G5:=hid hg4;have Gu:=hid hb4;clear Gs ho4 hg4 hb4)
       have Gs:n4=m+1:=G7.out;have Gn:Hid (Blw w w4):=hid ((Gh.out.alloc Gh.out.size _).trans Gu.out);have Go:=hid (GF.out.kept G5.out (z1f GF.out GE.out (by decide)));have Gf:∀ gg,(Value.slice A m c).ownBlock=some gg->gg < wr.heap.size:=fun gg h=>(HI.out.o1.lt gg h).2
       have GM:Hid (Blk w4 g 32 (uA l)):=hid ((G4.out.alloc (.cells #[.int .u64 q] 54)).grown G5.out (fun e=>by have h1:=Gf g e.symm;have h2:=GO.out;omega));have Gx:Hid (z0c w4 w4.heap.size 1 A3 pb.length (u8s pb)):=hid (by
        have hc:Chg (fun k=>(Value.slice A m c).ownBlock=some k) w3 w4:=((Chg.refl _ w3).alloc _).grown G5.out (fun gg e => .inl e);refine (hc.reads Gp.out (nL _) (fun ad h1 h2=>?_)).more hc.size;have h3:=Gf _ h2;have h4:=GN.out ad h1;have h5:=Gg.out.size;omega)
       clear GE GF Gp GN G4 Gu G5 Gf Gs;go_upto_region 22 with (at_builtin;go_must (refine z0p _ (.tmp 60) (.tmp 61) 24 rfl rfl w.heap.size 5 u0 _ 1 1 Tryz.underlying24 Dr Ds Dt Du rfl ?q1 (.slice A2 m2 c2) m2 (u8s Gc) rfl Go.out w4.heap.size A3 pb.length c3 (u8s pb) rfl Gx.out ?q6 ?q2 ?q3 ?q4 ?_;(case q1=>omega);(case q6=>(intro u hu;unfold u8s at hu;obtain ⟨y,_,rfl⟩:=List.mem_map.1 hu;rfl));(case q2=>(unfold maxLen;omega));(case q3=>omega);(case q4=>exact Gn.out.size);intro A5 n5 c5 w5 hn5 ho5 hg5 hb5;have GD:=hid hn5;have Dg:=hid ho5;have GC:=hid hg5;have Gv:=hid hb5;clear hn5 ho5 hg5 hb5))
       have Gb:Hid (WkI w w5 A4 n4 c4 A5 n5 c5 (bs++[q]) (Gc++pb)):=hid (by
        refine ⟨?_,?_,?_,?_,Gn.out.trans Gv.out⟩
        ·have h:=GG.out.kept GC.out (z1f GG.out Go.out (by decide))
         have e:z0a (bs++[q])=z0a bs++[.int .u64 q]:=by simp [z0a]
         rw [e];exact h
        ·have e:u8s (Gc++pb)=u8s Gc++u8s pb:=by simp [u8s]
         rw [e];exact Dg.out
        ·rw [List.length_append,G7.out,HI.out.l1];rfl
        ·rw [List.length_append,GD.out,HI.out.l2])
       have Dc:Hid (Blk w5 g 32 (uA l)):=hid (GM.out.grown GC.out (fun e=>by have h1:=(HI.out.o2.lt g e.symm).2;have h2:=GO.out;omega));have Gd:Hid (n4+k=6/\n5<=456 * n4/\6 - n4 < 6 - m):=hid (by have h5:n5=m2+pb.length:=GD.out;have h4:n4=m+1:=G7.out;omega);clear GG Go GC Gv GM Gx G7 GD HI Gm Gh Gn Gg Gl;by_cases hr:rest<=456
       ·have d1:decide ((rest:Int)<=456)=true:=dT
        have HF:Hid (R=(0,bs++[q],Gc++pb)):=hid (by have h:=Gy.out;rw [if_pos hr] at h;exact h.symm);clear hr Dq;go_wp2;go_ret3
        rw [HF.out];exact ⟨A4,n4,c4,A5,n5,c5,rfl,Gb.out.l1,Gb.out.l2,z0c.of_own Gb.out.o1,z0c.of_own Gb.out.o2,fun ad h=>(Gb.out.o1.lt ad.block (by rw [h];rfl)).1,fun ad h=>(Gb.out.o2.lt ad.block (by rw [h];rfl)).1,⟨(z4z Gb.out.o1).1,(z4z Gb.out.o2).1⟩,Gb.out.below⟩
       ·have d1:decide ((rest:Int)<=456)=false:=dF
        have w1:wrap64 ((rest:Int) - 456)=(rest:Int) - 456:=IntWalk.wrap64_in _ oM;have c0:w5.cell? ⟨g,0,none⟩=some (.int .u64 l0):=by rw [Dc.out.cell];exact Dd.out
        have z0:(0:Int) < (nn:Int):=oM;have Gz:=hid (GI.out w5 l0 Gb.out.below Ge);by_cases hc:chk l0=0
        ·have GT:Hid (z7y L cur chk k l0 ((rest:Int) - 456) (bs++[q]) (Gc++pb)=R):=hid (by have h:=Gy.out;rw [if_neg hr,if_neg oM] at h;exact h)
         have G2:=Gi.out l0 hc;rw [hc] at Gz;rw [show ((refR 0:Nat):Int)=0 from rfl] at Gz;clear hc Gy;go_wp2_with (go_at_call 224;refine Gz.out.mono ?_;rintro e w6 ⟨rfl,G1⟩;have Gw:=hid G1;clear G1)
         have GQ:Hid (WkI w w6 A4 n4 c4 A5 n5 c5 (bs++[q]) (Gc++pb)):=hid ⟨z0r Gb.out.o1 Gw.out,z0r Gb.out.o2 Gw.out,Gb.out.l1,Gb.out.l2,Gb.out.below.trans (Gw.out.mono Gb.out.below.size)⟩;go_roundw
         case rel =>
          first
           | exact ⟨k,l0,_,_,_,A4,n4,c4,A5,n5,c5,rfl,rfl,rfl,rfl,Gd.out.1,G2,Ge,.inr ⟨oM,oM,oM⟩,Gd.out.2.1,GT,GQ⟩
           | (
             repeat apply Exists.intro
             refine ⟨?_,rfl⟩;exact ⟨k,l0,_,_,_,A4,n4,c4,A5,n5,c5,rfl,rfl,rfl,rfl,Gd.out.1,G2,Ge,.inr ⟨oM,oM,oM⟩,Gd.out.2.1,GT,GQ⟩)
         case measure =>
          have h9:=Gd.out.2.2;simpa [w8p] using h9
        ·have HF:Hid (R=(11,[],[])):=hid (by have h:=Gy.out;rw [if_neg hr,if_pos hc] at h;exact h.symm)
         have Dh:((refR (chk l0):Nat):Int)=11:=by unfold refR;rw [if_neg hc];rfl
         rw [Dh] at Gz;clear hc Gy;go_wp2_with (go_at_call 224;refine Gz.out.mono ?_;rintro e w6 ⟨rfl,G1⟩;have Gw:=hid G1;clear G1)
         go_ret3
         rw [HF.out];exact ⟨rfl,Gb.out.below.trans (Gw.out.mono Gb.out.below.size)⟩
      ·obtain ⟨v,hv⟩:∃ v,z4j l rest=v:=⟨_,rfl⟩
       have HF:Hid (R=(v,[],[])/\v≠0):=hid ⟨by have h:=Gp.out;rw [if_pos he,hv] at h;exact h.symm,oM⟩;have Gj:Hid (Calls Tryz.prog 223 #[.slice (some ⟨g,0,none⟩) nn nn,.int .i64 rest] w2 fun e w'=>e=.returned (.tuple #[.slice none 0 0,.int .i64 v])/\Blw w2 w'):=hid (G8.out.mono (fun e w' h=>by unfold z8v at h;rw [if_neg he,hv] at h;exact h));have d1:((v:Int) != 0)=true:=by rw [bne,beq_eq_false_iff_ne.2 oM];rfl
       clear G8 he hv Gp;go_wp2_with (go_at_call 223;refine Gj.out.mono ?_;rintro e w3 ⟨rfl,Gq⟩;have G4:=hid Gq;clear Gq)
       go_ret3
       rw [HF.out.1];unfold y3t;rw [if_neg HF.out.2];exact ⟨rfl,Gm.out.trans (G4.out.mono Gm.out.size)⟩
 ·obtain ⟨v,hv⟩:∃ v,chk p=v:=⟨_,rfl⟩
  rw [hv] at HC hc0 ⊢;rw [if_pos hc0];have d1:((v:Int) != 0)=true:=by rw [bne,beq_eq_false_iff_ne.2 oM];rfl
  have HF:Hid (∀ w':World,Blw w w'->y3t w (v,[],[]) (.returned (.tuple #[.slice none 0 0,.slice none 0 0,.int .i64 v])) w'):=hid (fun w' hb=>by unfold y3t;rw [if_neg hc0];exact ⟨rfl,hb⟩);clear hc0 hv GS GI Gi;go_enter Tryz.func110,Tryz.ntmps110
  go_wp2_with (first
   | (go_at_call 432;refine (GB.out _ (Below.refl _ _)).mono ?_;rintro e w2 ⟨rfl,rfl⟩)
   | (go_at_call 431;refine HC.out.mono ?_;rintro e w1 ⟨rfl,G0⟩;have G3:=hid G0;clear G0))
  go_ret3
  exact HF.out _ G3.out
end
end
end Go.Proofs.YtfkjjoglnmeciaaGreatDoor
