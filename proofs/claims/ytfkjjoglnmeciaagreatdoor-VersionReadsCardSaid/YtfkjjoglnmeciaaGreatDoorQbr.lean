/- The walks and laws that the claim leans on, part 44. -/
import Derived.Test.YtfkjjoglnmeciaaGreatDoorQbb
import Derived.Test.YtfkjjoglnmeciaaGreatDoorQbq
set_option maxRecDepth 100000
set_option maxHeartbeats 16000000
namespace Go.Proofs.YtfkjjoglnmeciaaGreatDoor
open Go.Lib (hid)
section
open Go.RowKit Go.Maps
def RoomV (k j:Nat) (al:List Nat):Prop:=al.count 0≤3 * k+2 * j∧al.count 1≤2 * k+2 * j∧al.count 2≤2 * k+2 * j∧al.count 3≤k+j∧al.count 4≤k+j
theorem roomV_le {k j:Nat} {al:List Nat} (hk:k+j≤8) (h:RoomV k j al):room al≤10:=by
 obtain ⟨h0,h1,h2,h3,h4⟩:=h;have n0:=need_mono (c:=0) (show al.count 0≤24 by omega);have n1:=need_mono (c:=1) (show al.count 1≤16 by omega);have n2:=need_mono (c:=2) (show al.count 2≤16 by omega);have n3:=need_mono (c:=3) (show al.count 3≤8 by omega);have n4:=need_mono (c:=4) (show al.count 4≤8 by omega);have e0:need 24 0=1:=by decide
 have e1:need 16 1=1:=by decide
 have e2:need 16 2=2:=by decide
 have e3:need 8 3=2:=by decide
 have e4:need 8 4=2:=by decide
 unfold room;omega
theorem RoomV.nil:RoomV 0 0 []:=by
 unfold RoomV;simp
theorem RoomV.ver {k j:Nat} {al:List Nat} (hj:j≤1) (h:RoomV k j al):RoomV (k+1) 0 (0 :: al):=by
 obtain ⟨h0,h1,h2,h3,h4⟩:=h;unfold RoomV;simp only [List.count_cons];simp;omega
theorem cls_small {m:Nat} (h:m≤44):clsOf (bSize m)≤2:=by
 unfold bSize;rw [if_neg oM];have:clsOf (3+(m+7) / 8)≤2:=by
  unfold clsOf;split
  ·omega
  split
  ·omega
  rw [if_pos oM];omega
 rcases Nat.lt_or_ge (clsOf (3+(m+7) / 8)) 1 with h0 | h0
 ·rw [show clsOf (3+(m+7) / 8)=0 by omega]
  decide
 ·rcases Nat.lt_or_ge (clsOf (3+(m+7) / 8)) 2 with h1 | h1
  ·rw [show clsOf (3+(m+7) / 8)=1 by omega]
   decide
  ·rw [show clsOf (3+(m+7) / 8)=2 by omega]
   decide
theorem RoomV.blob {k n:Nat} {al:List Nat} (hn:n≤500) (h:RoomV k 0 al):RoomV k 1 (alW n al (nBlk n)):=by
 obtain ⟨h0,h1,h2,h3,h4⟩:=h;by_cases h456:n≤456
 ·have e:alW n al (nBlk n)=clsOf (bSize n) :: al:=by
   unfold nBlk;rw [if_pos h456];rfl
  rw [e];unfold RoomV;simp only [List.count_cons];generalize clsOf (bSize n)=c;refine ⟨?_,?_,?_,?_,?_⟩ <;> split <;> omega
 ·have e:alW n al (nBlk n)=clsOf (bSize (n - 456)) :: clsOf (bSize n) :: al:=by
   unfold nBlk;rw [if_neg h456,show (n - 1) / 456+1=2 by omega];rfl
  have e2:clsOf (bSize n)=4:=by
   unfold bSize;rw [if_pos oM];decide
  have h5:=cls_small (show n - 456≤44 by omega);rw [e,e2];unfold RoomV;simp only [List.count_cons];generalize clsOf (bSize (n - 456))=c at *;have hc:c=0∨c=1∨c=2:=oM;rcases hc with rfl | rfl | rfl <;> simp <;> omega
end
section
open Go.RowKit Go.Maps
def RetBog (a:DA) (L T K b0:Nat) (cs:Nat→CS) (S:Fp) (cur:Nat→Nat) (w:World) (e:Ending) (w':World):Prop:=∃ x y,e = .returned (.pointer (some ⟨y.g,0,none⟩))∧BW a L T K x y cs (fun _=>none) 0 0 b0 S cur w'∧Below w.heap.size w w'
theorem bopenG_any (cs:Nat→CS) {a:DA} {L T K b0:Nat} {w:World} {S:Fp} {cur:Nat→Nat} (h:Dev a L T w S cur 0) (hdi:a.dirty=fun _=>False) (hL:L=53+32 * K) (hK:1≤K) (hK12:K≤12) (ht:Tab w) (hpy:Pay w) (hp:cur (8 * 0)=0∧cur (8 * 26)=0∧(∀ k,k < K→CSok cur (53+32 * k) (cs k))∧∀ i,cur i < 18446744073709551616) (hb0:1 < b0∧0 < b0∧b0≤w.heap.size∧∀ k,S k→b0≤k) :
  Calls Tryz.prog 102 #[.pointer (some ⟨a.d,0,none⟩), .int .i64 (K:Int)] w (RetBog a L T K b0 cs S cur w):=by
 have HD:=hid h;have HT:=hid ht;have HP:=hid hp;have HPy:=hid hpy;have HB0:=hid hb0;have HLK:=hid (show L=53+32 * K∧1≤K∧K≤12 from ⟨hL,hK,hK12⟩);have HTh:=hid (thread_any h);have HDI:=hid hdi;have HRo:=hid (redoOpen_any h 0 26 oM oM);have hb1:Below w.heap.size w (w.alloc (.cells (logCells a 0 26) 353)):=(Below.refl _ _).alloc (nL _) _;have HB1:=hid hb1;have HBr:=hid (Blk.new w 353 (logCells a 0 26));have HRr:=hid (redoRecover_idle (h.below hb1) w.heap.size 0 26 HBr.out oM hp.1);have hz32:((32 * K:Nat):Int)=32 * (K:Int):=oM;have hLs:26+26≤L:=oM;have hLh:53+32 * K≤L:=oM;have hKn:32≤32 * K:=oM;have hKd:32 * K / 32=K:=oM;have HAr:=hid (show 26+26≤L∧53+32 * K≤L∧32≤32 * K∧32 * K / 32=K from ⟨hLs,hLh,hKn,hKd⟩);clear h ht hp hb1 hpy hb0 hL hK hLs hLh hKn hKd hdi;unfold memV at *;go_enter Tryz.func102,Tryz.ntmps102
 go_wp2_with (first
  | (go_at_call 71;refine HTh.out.mono ?_;rintro e w1 ⟨rfl,rfl⟩)
  | (go_at_call 177;refine HRo.out.mono ?_;rintro e w1 ⟨rfl,rfl⟩)
  | fail)
 generalize (w.alloc (.cells (logCells a 0 26) 353))=W at *;clear HRo HTh;refine HRr.out.mono ?_;rintro e W1 ⟨rfl,hb1⟩;have HB2:=hid (HB1.out.trans (hb1.mono HB1.out.size));have HBr2:=hid (HBr.out.below hb1 HBr.out.lt);have HUo:=hid (undoOpen_any (HD.out.below HB2.out) 26 26 oM HAr.out.1);clear HRr hb1 HBr HB1;unfold memV at HUo;go_wp2_with fail
 refine HUo.out.mono ?_;rintro e W2 ⟨rfl,rfl⟩;have HB3:=hid (HB2.out.alloc HB2.out.size (.cells (ulogCells a 26 26) 330));have HBr3:=hid (HBr2.out.alloc (.cells (ulogCells a 26 26) 330));have HBu3:=hid (Blk.new W1 330 (ulogCells a 26 26));have HUr:=hid (undoRecover_none (HD.out.below HB3.out) W1.heap.size 26 26 HBu3.out (by have:=HAr.out.1;omega) oM oM HP.out.2.1);have HL3:=hid (Nat.le_trans HB2.out.size (nL W1.heap.size));obtain ⟨u,hu⟩:∃ u,W1.heap.size=u:=⟨_,rfl⟩
 rw [hu] at HBu3 HUr HL3 ⊢;generalize W1.alloc (.cells (ulogCells a 26 26) 330)=W3 at *;clear HUo HB2 HBr2 hu;go_wp2_with fail
 refine HUr.out.mono ?_;rintro e W4 ⟨rfl,hb1⟩;have HB4:=hid (HB3.out.trans (hb1.mono HB3.out.size));have HBr4:=hid (HBr3.out.below hb1 HBr3.out.lt);have HBu4:=hid (HBu3.out.below hb1 HBu3.out.lt);have HHo:=hid (heapOpenG_any cs (HD.out.below HB4.out) (HT.out.below HB4.out) (HPy.out.below HB4.out) 53 (32 * K) K HAr.out.2.2.1 HAr.out.2.1 HAr.out.2.2.2 HP.out.2.2.1);rw [hz32] at HHo;clear HUr hb1 HBr3 HBu3 HB3;unfold memV at HHo;have hK12':K≤12:=hK12;go_wp2_with fail
 refine HHo.out.mono ?_;rintro e W5 ⟨x,rfl,hhs,hlow,hb1⟩;have HB5:=hid (HB4.out.trans (hb1.mono HB4.out.size));have HBr5:=hid (HBr4.out.below hb1 HBr4.out.lt);have HBu5:=hid (HBu4.out.below hb1 HBu4.out.lt);have HHs5:=hid hhs;have HLow:=hid (show w.heap.size≤x.h∧w.heap.size≤x.gs∧w.heap.size≤x.pl∧w.heap.size≤x.mr∧w.heap.size≤x.mh by obtain ⟨l1,l2,l3,l4,l5⟩:=hlow;have:=HB4.out.size;exact ⟨oM,oM,oM,oM,oM⟩);clear HHo hb1 HBr4 HBu4 HB4 hhs hlow;obtain ⟨W6,hW6⟩:∃ W6,W5.alloc (.cells (dirCells a x.h w.heap.size) 240)=W6:=⟨_,rfl⟩
 obtain ⟨W7,hW7⟩:∃ W7,W6.alloc (.cells (mgrCells (some ⟨a.th 0,0,none⟩) (some ⟨w.heap.size,0,none⟩) (some ⟨u,0,none⟩) (some ⟨x.h,0,none⟩) none) 200)=W7:=⟨_,rfl⟩
 have HND:Hid (Calls Tryz.prog 200 #[.pointer (some ⟨x.h,0,none⟩), .pointer (some ⟨a.th 0,0,none⟩), .pointer (some ⟨w.heap.size,0,none⟩)] W5 fun e w'=>e = .returned (.pointer (some ⟨W5.heap.size,0,none⟩))∧W6=w'):=hid ((newDirect_any x.h (a.th 0) w.heap.size W5).mono (fun e w' h=>⟨h.1,by rw [← hW6];exact h.2.symm⟩));have HTN:Hid (Calls Tryz.prog 182 #[.pointer (some ⟨a.th 0,0,none⟩), .pointer (some ⟨w.heap.size,0,none⟩), .pointer (some ⟨u,0,none⟩), .pointer (some ⟨x.h,0,none⟩)] W6 fun e w'=>e = .returned (.pointer (some ⟨W6.heap.size,0,none⟩))∧W7=w'):=hid ((txNew_any (some ⟨a.th 0,0,none⟩) (some ⟨w.heap.size,0,none⟩) (some ⟨u,0,none⟩) (some ⟨x.h,0,none⟩) W6).mono (fun e w' h=>⟨h.1,by rw [← hW7];exact h.2.symm⟩));have hb6:Below W5.heap.size W5 W6:=by rw [← hW6];exact (Below.refl _ _).alloc (nL _) _
 have hb7:Below W6.heap.size W6 W7:=by rw [← hW7];exact (Below.refl _ _).alloc (nL _) _
 have hs6:W6.heap.size=W5.heap.size+1:=by rw [← hW6];simp
 have hd6:Blk W6 W5.heap.size 240 (dirCells a x.h w.heap.size):=by rw [← hW6];exact Blk.new _ _ _
 have hm7:Blk W7 W6.heap.size 200 (mgrCells (some ⟨a.th 0,0,none⟩) (some ⟨w.heap.size,0,none⟩) (some ⟨u,0,none⟩) (some ⟨x.h,0,none⟩) none):=by rw [← hW7];exact Blk.new _ _ _
 have HB57:Hid (Below W5.heap.size W5 W7):=hid (hb6.trans (hb7.mono oM));have HB7:=hid (HB5.out.trans (HB57.out.mono HB5.out.size));have HD7:=hid (hd6.below hb7 hd6.lt);have HM7:=hid hm7;have HSz:=hid (show W6.heap.size=W5.heap.size+1∧w.heap.size≤W5.heap.size from ⟨hs6,HB5.out.size⟩);clear hW6 hW7 hb6 hb7 hs6 hd6 hm7;go_upto_region 20 with (first
  | (go_at_call 200;refine HND.out.mono ?_;rintro e Wz ⟨rfl,rfl⟩)
  | (go_at_call 182;refine HTN.out.mono ?_;rintro e Wz ⟨rfl,rfl⟩))
 have HBg:=hid (Blk.new W7 61 (bwCells a x ⟨W7.heap.size,W5.heap.size,w.heap.size,u,W6.heap.size⟩ K));have HBb:Hid (Below W7.heap.size W7 (W7.alloc (.cells (bwCells a x ⟨W7.heap.size,W5.heap.size,w.heap.size,u,W6.heap.size⟩ K) 61))):=hid ((Below.refl _ _).alloc (nL _) _);unfold bwCells at HBb HBg;generalize hW8:W7.alloc (.cells #[.pointer (some ⟨a.d,0,none⟩), .pointer (some ⟨a.th 0,0,none⟩), .pointer (some ⟨x.h,0,none⟩), .pointer (some ⟨W5.heap.size,0,none⟩), .pointer (some ⟨W6.heap.size,0,none⟩), .int .i64 (K:Int)] 61)=W8 at *;have f3:W8.cell? ⟨W7.heap.size,3,none⟩=some (.pointer (some ⟨W5.heap.size,0,none⟩)):=HBg.out.cell 3;have f4:W8.cell? ⟨W7.heap.size,4,none⟩=some (.pointer (some ⟨W6.heap.size,0,none⟩)):=HBg.out.cell 4;have HF:Hid (RetBog a L T K b0 cs S cur w (.returned (.pointer (some ⟨W7.heap.size,0,none⟩))) W8):=hid (by
  have h58:Below W5.heap.size W5 W8:=HB57.out.trans (HBb.out.mono HB57.out.size);have h8:Below w.heap.size w W8:=HB5.out.trans (h58.mono HB5.out.size);obtain ⟨l1,l2,l3,l4,l5⟩:=HLow.out;obtain ⟨b1,b2,b3,b4⟩:=HB0.out;obtain ⟨k1,k2,k3⟩:=HLK.out;obtain ⟨s1,s2⟩:=HSz.out;have s7:W6.heap.size≤W7.heap.size:=by have:=HM7.out.lt;omega
  have hS:∀ g,w.heap.size≤g→¬ S g:=fun g hg hs=>by have:=HD.out.lt _ hs;omega
  have hu:=HL3.out;refine ⟨x,⟨W7.heap.size,W5.heap.size,w.heap.size,u,W6.heap.size⟩,rfl,⟨⟨⟨HD.out.below h8,HHs5.out.below h58,HP.out.2.2.1,HP.out.2.2.2,fun o p h=>(by cases h),HT.out.below h8,HPy.out.below h8,⟨b1,b2,oM,oM,oM,oM,oM,b4⟩,⟨hS _ l1,hS _ l2,hS _ l3,hS _ l4,hS _ l5⟩,⟨HAr.out.2.2.2,k2,HAr.out.2.1,oM⟩⟩,HD7.out.below HBb.out HD7.out.lt,HBr5.out.below h58 HBr5.out.lt,HP.out.1,hS _ s2,hS _ (nL _),oM⟩,HBg.out,HBu5.out.below h58 HBu5.out.lt,HM7.out.below HBb.out HM7.out.lt,HP.out.2.1,⟨hS _ (by show w.heap.size≤W7.heap.size;omega),hS _ hu,hS _ (by show w.heap.size≤W6.heap.size;omega)⟩,⟨by show b0≤W7.heap.size;omega,by show b0≤W5.heap.size;omega,b3,by show b0≤u;omega,by show b0≤W6.heap.size;omega⟩,k1,k3,HDI.out⟩,h8⟩)
 clear HB5 HBr5 HBu5 HHs5 HLow HB57 HB7 HD7 HM7 HSz HBb hW8;go_wp2_with fail
 go_ret;exact HF.out
end
section
open Go.RowKit Go.Maps
def RetWcr (K b0:Nat) (cs:Nat→CS) (cur:Nat→Nat) (w:World) (e:Ending) (w':World):Prop:=∃ a S x y,e = .returned (.pointer (some ⟨y.g,0,none⟩))∧BW a (53+32 * K) 0 K x y cs (fun _=>none) 0 0 b0 S cur w'∧Below w.heap.size w w'
theorem worldCrash_any {a:DA} {L T K:Nat} {x:HA} {y:WA} {cs:Nat→CS} {f:Nat→Option Nat} {N m b0:Nat} {S:Fp} {cur:Nat→Nat} {w:World} (h:BW a L T K x y cs f N m b0 S cur w) (b1:Nat) (hb1:b0≤b1∧b1≤w.heap.size) (A:Option Addr) (n c:Nat) :
  Calls Tryz.prog 29 #[.pointer (some ⟨y.g,0,none⟩), .slice A n c, .int .i64 (-1)] w (RetWcr K b1 cs cur w):=by
 have hLs:=h.size;have hst:=still_of h.sd.ds.dev (fun k=>by rw [h.rest];exact id);have HC:=hid (crashD_still (fun _=>False) hst h.sd.ds.bnd oM A n c);obtain ⟨hn1,hn2,_,_⟩:=h.sd.ds.hK;have hfew:=h.few;have hlo:=h.sd.ds.lo;have HO:Hid (∀ (a':DA) (S':Fp) (W:World),a'.dirty=(fun _=>False)→Dev a' L 0 W S' cur 0→(∀ k,S' k→w.heap.size≤k)→Below w.heap.size w W→Calls Tryz.prog 102 #[.pointer (some ⟨a'.d,0,none⟩), .int .i64 (K:Int)] W (RetWcr K b1 cs cur w)):=hid (fun a' S' W hd' hdev hS hW=>by
  refine (bopenG_any (b0:=b1) cs hdev hd' hLs hn2 hfew (h.sd.ds.tab.below hW) (h.sd.ds.pay.below hW) ⟨h.sd.idle,h.uid,h.sd.ds.ok,h.sd.ds.bnd⟩ ⟨oM,oM,Nat.le_trans hb1.2 hW.size,fun k hk=>Nat.le_trans hb1.2 (hS k hk)⟩).mono ?_;rintro e w' ⟨x',y',rfl,hbw,hb'⟩;rw [hLs] at hbw;exact ⟨a',S',x',y',rfl,hbw,hW.trans (hb'.mono hW.size)⟩)
 have f0:w.cell? ⟨y.g,0,none⟩=some (.pointer (some ⟨a.d,0,none⟩)):=h.blk.cell 0;have HK:Hid (∀ W,Below w.heap.size w W→W.cell? ⟨y.g,5,none⟩=some (.int .i64 (K:Int))):=hid (fun W hW=>(h.blk.below hW h.blk.lt).cell 5);clear h hst hlo;go_enter Tryz.func29,Tryz.ntmps29
 go_wp2_with (first
  | (go_at_call 16;refine HC.out.mono ?_;rintro e w1 ⟨a',S',rfl,hd',hdev,hS,hb⟩;have HO1:=hid (HO.out a' S' _ hd' hdev hS hb);have f5:=HK.out _ hb;clear hd' hdev hS hb)
  | (go_at_call 102;refine HO1.out.mono ?_;rintro e w2 ⟨a2,S2,x2,y2,rfl,h2,h3⟩;have H2:=hid h2;have H3:=hid h3;clear h2 h3)
  | fail)
 go_ret;exact ⟨a2,S2,x2,y2,rfl,H2.out,H3.out⟩
end
section
open Go.RowKit Go.Maps
def vArr (s:Nat × Bool × Nat × Nat):Array Value:=#[.int .u64 (s.1:Int), .bool s.2.1, .int .u64 (s.2.2.1:Int), .int .u64 (s.2.2.2:Int)]
def atS (stamp:Nat) (s:Nat × Bool × Nat × Nat) (_p:Nat) (v:Nat × Bool × Nat × Nat):(Nat × Bool × Nat × Nat) × Bool:=if stamp < v.1 then (s,true) else (v,false)
theorem vat1_any (stamp p sp:Nat) (dl:Bool) (dt ol gs gf:Nat) (s:Nat × Bool × Nat × Nat) (W:World) (hs:Blk W gs 32 #[.int .u64 (stamp:Int)]) (hf:Blk W gf 97 (vArr s)) (hne:gs≠gf) :
  Calls Tryz.prog 140 #[.int .u64 (p:Int), .agg #[.int .u64 (sp:Int), .bool dl, .int .u64 (dt:Int), .int .u64 (ol:Int)], .pointer (some ⟨gs,0,none⟩), .pointer (some ⟨gf,0,none⟩)] W fun e w'=>e = .returned (.bool (atS stamp s p (sp,dl,dt,ol)).2)∧(Blk w' gs 32 #[.int .u64 (stamp:Int)]∧Blk w' gf 97 (vArr (atS stamp s p (sp,dl,dt,ol)).1))∧Chg (fun k=>k=gf) W w':=by
 have hbx:=Blk.new W 97 #[.int .u64 (sp:Int), .bool dl, .int .u64 (dt:Int), .int .u64 (ol:Int)];have c0:(W.alloc (.cells #[.int .u64 (sp:Int), .bool dl, .int .u64 (dt:Int), .int .u64 (ol:Int)] 97)).cell? ⟨W.heap.size,0,none⟩=some (.int .u64 (sp:Int)):=hbx.cell 0;have c1:(W.alloc (.cells #[.int .u64 (sp:Int), .bool dl, .int .u64 (dt:Int), .int .u64 (ol:Int)] 97)).cell? ⟨W.heap.size,1,none⟩=some (.bool dl):=hbx.cell 1;have c2:(W.alloc (.cells #[.int .u64 (sp:Int), .bool dl, .int .u64 (dt:Int), .int .u64 (ol:Int)] 97)).cell? ⟨W.heap.size,2,none⟩=some (.int .u64 (dt:Int)):=hbx.cell 2;have c3:(W.alloc (.cells #[.int .u64 (sp:Int), .bool dl, .int .u64 (dt:Int), .int .u64 (ol:Int)] 97)).cell? ⟨W.heap.size,3,none⟩=some (.int .u64 (ol:Int)):=hbx.cell 3;have s0:W.cell? ⟨gs,0,none⟩=some (.int .u64 (stamp:Int)):=hs.cell 0;have hb1:=(hs.alloc (.cells #[.int .u64 (sp:Int), .bool dl, .int .u64 (dt:Int), .int .u64 (ol:Int)] 97))
 have hf1:=(hf.alloc (.cells #[.int .u64 (sp:Int), .bool dl, .int .u64 (dt:Int), .int .u64 (ol:Int)] 97))
 have s1:(W.alloc (.cells #[.int .u64 (sp:Int), .bool dl, .int .u64 (dt:Int), .int .u64 (ol:Int)] 97)).cell? ⟨gs,0,none⟩=some (.int .u64 (stamp:Int)):=hb1.cell 0;have k0:W.cell? ⟨gf,0,none⟩=some (.int .u64 (s.1:Int)):=hf.cell 0;have k1:W.cell? ⟨gf,1,none⟩=some (.bool s.2.1):=hf.cell 1;have k2:W.cell? ⟨gf,2,none⟩=some (.int .u64 (s.2.2.1:Int)):=hf.cell 2;have k3:W.cell? ⟨gf,3,none⟩=some (.int .u64 (s.2.2.2:Int)):=hf.cell 3;have z0:W.frozen? ⟨gf,0,none⟩=false:=hf.frozen 0;have z1:W.frozen? ⟨gf,1,none⟩=false:=hf.frozen 1;have z2:W.frozen? ⟨gf,2,none⟩=false:=hf.frozen 2;have z3:W.frozen? ⟨gf,3,none⟩=false:=hf.frozen 3;have hlf:gf < W.heap.size:=hf.lt;have hls:gs < W.heap.size:=hs.lt;have HS:=hid hs;have HF:=hid hf;have HNe:=hid hne;clear hbx hb1 hf1 hs hf;by_cases hc:stamp < sp
 ·have HAt:Hid (atS stamp s p (sp,dl,dt,ol)=(s,true)):=hid (by unfold atS;rw [if_pos hc])
  generalize atS stamp s p (sp,dl,dt,ol)=z at *;go_enter Tryz.func140,Tryz.ntmps140
  go_wp2;go_ret;rw [HAt.out];exact ⟨rfl,⟨HS.out.alloc _,HF.out.alloc _⟩,(Chg.refl _ _).alloc _⟩
 ·have HAt:Hid (atS stamp s p (sp,dl,dt,ol)=((sp,dl,dt,ol),false)):=hid (by unfold atS;rw [if_neg hc])
  generalize atS stamp s p (sp,dl,dt,ol)=z at *;go_enter Tryz.func140,Tryz.ntmps140
  go_wp2;go_ret;rw [HAt.out];have hch:Chg (fun k=>k=gf) W (((((W.setCell ⟨gf,0,none⟩ (.int .u64 (sp:Int))).setCell ⟨gf,1,none⟩ (.bool dl)).setCell ⟨gf,2,none⟩ (.int .u64 (dt:Int))).setCell ⟨gf,3,none⟩ (.int .u64 (ol:Int))).alloc (.cells #[.int .u64 (sp:Int), .bool dl, .int .u64 (dt:Int), .int .u64 (ol:Int)] 97)) :=
   (((((Chg.refl (fun k=>k=gf) W).setCell (p:=⟨gf,0,none⟩) (.inl rfl) _).setCell (p:=⟨gf,1,none⟩) (.inl rfl) _).setCell (p:=⟨gf,2,none⟩) (.inl rfl) _).setCell (p:=⟨gf,3,none⟩) (.inl rfl) _).alloc _
  have hf4:=((((HF.out.set_ 0 (.int .u64 (sp:Int))).set_ 1 (.bool dl)).set_ 2 (.int .u64 (dt:Int))).set_ 3 (.int .u64 (ol:Int))).alloc (.cells #[.int .u64 (sp:Int), .bool dl, .int .u64 (dt:Int), .int .u64 (ol:Int)] 97);exact ⟨rfl,⟨hch.blk HS.out HNe.out,hf4⟩,hch⟩
section
variable {a:DA} {L T s n K:Nat} {x:HA} {cs:Nat→CS} {f:Nat→Option Nat} {N m b0:Nat} {S:Fp} {cur:Nat→Nat} {w:World} {d r:Nat}
def atR (rd:Nat→Nat × Nat × Bool × Nat × Nat) (head stamp:Nat):Nat × Nat × Bool × Nat × Nat :=
 if (folW rd (atS stamp) 4097 head 4611686018427387904 0 (0,true,0,0)).1≠0 then ((folW rd (atS stamp) 4097 head 4611686018427387904 0 (0,true,0,0)).1,0,false,0,0) else
 if (folW rd (atS stamp) 4097 head 4611686018427387904 0 (0,true,0,0)).2.2.1=true then (5,0,false,0,0) else (0,(folW rd (atS stamp) 4097 head 4611686018427387904 0 (0,true,0,0)).2)
def AtR (stamp gs g6 gf:Nat) (s:Nat × Bool × Nat × Nat) (W:World):Prop:=Blk W gs 32 #[.int .u64 (stamp:Int)]∧Blk W gf 97 (vArr s)∧Blk W g6 97 #[.int .u64 0, .bool false, .int .u64 0, .int .u64 0]
theorem at_body (stamp gs g6 gf:Nat) (w0:World) (h1:gs≠gf) (h2:g6≠gf):Body 140 #[.pointer (some ⟨gs,0,none⟩), .pointer (some ⟨gf,0,none⟩)] w0 (fun _ _=>True) (fun _ _ k=>k=gf) (AtR stamp gs g6 gf) (atS stamp):=by
 intro s _ p sp dl dt ol W _ _ hR _ _ _ _ _ _;obtain ⟨r1,r2,r3⟩:=hR;have e:(#[Value.int .u64 (p:Int), .agg #[.int .u64 (sp:Int), .bool dl, .int .u64 (dt:Int), .int .u64 (ol:Int)]]++#[Value.pointer (some ⟨gs,0,none⟩), .pointer (some ⟨gf,0,none⟩)])=#[.int .u64 (p:Int), .agg #[.int .u64 (sp:Int), .bool dl, .int .u64 (dt:Int), .int .u64 (ol:Int)], .pointer (some ⟨gs,0,none⟩), .pointer (some ⟨gf,0,none⟩)]:=by simp
 rw [e];refine (vat1_any stamp p sp dl dt ol gs gf s W r1 r2 h1).mono (fun e w' h=>?_);obtain ⟨q1,⟨q2,q3⟩,q4⟩:=h;exact ⟨q1,⟨q2,q3,q4.blk r3 h2⟩,q4⟩
theorem vat_any (h:SD a L T s n K x cs f N m b0 S cur w d r) (head stamp:Nat) (hh:head < 18446744073709551616) :
  Calls Tryz.prog 57 #[.iface 59 (.pointer (some ⟨d,0,none⟩)), .int .u64 (head:Int), .int .u64 (stamp:Int)] w (RetVer w (atR (verR cur (fun q=>chkR s K cs q 7)) head stamp)):=by
 obtain ⟨W1,hW1⟩:∃ W1,((w.alloc (.cells #[.int .u64 (stamp:Int)] 32)).alloc (.cells #[.int .u64 0, .bool false, .int .u64 0, .int .u64 0] 97)).alloc (.cells #[.int .u64 0, .bool true, .int .u64 0, .int .u64 0] 97)=W1:=⟨_,rfl⟩
 have HW1:=hid hW1;have sz1:(w.alloc (.cells #[.int .u64 (stamp:Int)] 32)).heap.size=w.heap.size+1:=by simp
 have sz2:((w.alloc (.cells #[.int .u64 (stamp:Int)] 32)).alloc (.cells #[.int .u64 0, .bool false, .int .u64 0, .int .u64 0] 97)).heap.size=w.heap.size+2:=by simp
 have hb:Below w.heap.size w W1:=by
  rw [← hW1];exact (((Below.refl _ _).alloc (nL _) _).alloc (by simp) _).alloc (by rw [sz2];omega) _
 have hR0:AtR stamp w.heap.size (w.heap.size+1) (w.heap.size+2) (0,true,0,0) W1:=by
  rw [← hW1];refine ⟨((Blk.new w 32 #[.int .u64 (stamp:Int)]).alloc _).alloc _,?_,?_⟩
  ·have h1:=Blk.new ((w.alloc (.cells #[.int .u64 (stamp:Int)] 32)).alloc (.cells #[.int .u64 0, .bool false, .int .u64 0, .int .u64 0] 97)) 97 #[.int .u64 0, .bool true, .int .u64 0, .int .u64 0]
   rw [sz2] at h1;exact h1
  ·have h1:=(Blk.new (w.alloc (.cells #[.int .u64 (stamp:Int)] 32)) 97 #[.int .u64 0, .bool false, .int .u64 0, .int .u64 0]).alloc (.cells #[.int .u64 0, .bool true, .int .u64 0, .int .u64 0] 97)
   rw [sz1] at h1;exact h1
 have HFo:=hid (vfollow_any h hb head hh 140 #[.pointer (some ⟨w.heap.size,0,none⟩), .pointer (some ⟨w.heap.size+2,0,none⟩)] (fun _ _=>True) (fun _ _ k=>k=w.heap.size+2) (AtR stamp w.heap.size (w.heap.size+1) (w.heap.size+2)) (atS stamp) (0,true,0,0)
  (fun s W hR k hk=>by
   subst hk;exact ⟨oM,hR.2.1.lt⟩) (fun _ _ _ _ _ _ hk=>hk) trivial (fun _ _ _ _ _ _=>trivial) hR0 (fun s W W' hR hW=>⟨hR.1.below hW hR.1.lt,hR.2.1.below hW hR.2.1.lt,hR.2.2.below hW hR.2.2.lt⟩) (fun args w=>by kernel_rfl) (at_body stamp _ _ _ w oM oM))
 have HAtR:Hid (atR (verR cur (fun q=>chkR s K cs q 7)) head stamp=if (folW (verR cur (fun q=>chkR s K cs q 7)) (atS stamp) 4097 head 4611686018427387904 0 (0,true,0,0)).1≠0 then ((folW (verR cur (fun q=>chkR s K cs q 7)) (atS stamp) 4097 head 4611686018427387904 0 (0,true,0,0)).1,0,false,0,0) else if (folW (verR cur (fun q=>chkR s K cs q 7)) (atS stamp) 4097 head 4611686018427387904 0 (0,true,0,0)).2.2.1=true then (5,0,false,0,0) else (0,(folW (verR cur (fun q=>chkR s K cs q 7)) (atS stamp) 4097 head 4611686018427387904 0 (0,true,0,0)).2)):=hid rfl;generalize folW (verR cur (fun q=>chkR s K cs q 7)) (atS stamp) 4097 head 4611686018427387904 0 (0,true,0,0)=X at *;generalize atR (verR cur (fun q=>chkR s K cs q 7)) head stamp=Y at *;have hmf:∀ (fn:Fn) (first cap:Array Value) (w:World),(Instr.makeFunc fn first cap).run Tryz.prog w = .ok (.func fn first cap) w:=fun _ _ _ _=>rfl
 clear h hW1 hb hR0 hh;go_enter Tryz.func57,Tryz.ntmps57
 go_wp2_with fail
 rw [HW1.out];refine HFo.out.mono ?_;rintro e w2 ⟨rfl,⟨r1,r2,r3⟩,hb2⟩;obtain ⟨ev,st,bb,dt,ol⟩:=X;dsimp only at r2 HAtR;have HB2:=hid hb2;have k0:w2.cell? ⟨w.heap.size+2,0,none⟩=some (.int .u64 (st:Int)):=r2.cell 0;have k1:w2.cell? ⟨w.heap.size+2,1,none⟩=some (.bool bb):=r2.cell 1;have k2:w2.cell? ⟨w.heap.size+2,2,none⟩=some (.int .u64 (dt:Int)):=r2.cell 2;have k3:w2.cell? ⟨w.heap.size+2,3,none⟩=some (.int .u64 (ol:Int)):=r2.cell 3;have y0:w2.cell? ⟨w.heap.size+1,0,none⟩=some (.int .u64 0):=r3.cell 0;have z0:w2.frozen? ⟨w.heap.size+1,0,none⟩=false:=r3.frozen 0;have y1:w2.cell? ⟨w.heap.size+1,1,none⟩=some (.bool false):=r3.cell 1;have z1:w2.frozen? ⟨w.heap.size+1,1,none⟩=false:=r3.frozen 1;have y2:w2.cell? ⟨w.heap.size+1,2,none⟩=some (.int .u64 0):=r3.cell 2;have z2:w2.frozen? ⟨w.heap.size+1,2,none⟩=false:=r3.frozen 2;have y3:w2.cell? ⟨w.heap.size+1,3,none⟩=some (.int .u64 0):=r3.cell 3;have z3:w2.frozen? ⟨w.heap.size+1,3,none⟩=false:=r3.frozen 3;have hlt:w.heap.size+1 < w2.heap.size:=r3.lt;have hle:w.heap.size≤w.heap.size+1:=oM;have n01:(⟨w.heap.size+1,0,none⟩:Addr)≠⟨w.heap.size+1,1,none⟩:=by simp
 have n02:(⟨w.heap.size+1,0,none⟩:Addr)≠⟨w.heap.size+1,2,none⟩:=by simp
 have n03:(⟨w.heap.size+1,0,none⟩:Addr)≠⟨w.heap.size+1,3,none⟩:=by simp
 have n12:(⟨w.heap.size+1,1,none⟩:Addr)≠⟨w.heap.size+1,2,none⟩:=by simp
 have n13:(⟨w.heap.size+1,1,none⟩:Addr)≠⟨w.heap.size+1,3,none⟩:=by simp
 have n23:(⟨w.heap.size+1,2,none⟩:Addr)≠⟨w.heap.size+1,3,none⟩:=by simp
 have hz:∀ (v0 v1 v2 v3:Value),Below w.heap.size w ((((w2.setCell ⟨w.heap.size+1,0,none⟩ v0).setCell ⟨w.heap.size+1,1,none⟩ v1).setCell ⟨w.heap.size+1,2,none⟩ v2).setCell ⟨w.heap.size+1,3,none⟩ v3):=fun v0 v1 v2 v3=>((((HB2.out.setCell (p:=⟨w.heap.size+1,0,none⟩) hle v0).setCell (p:=⟨w.heap.size+1,1,none⟩) hle v1).setCell (p:=⟨w.heap.size+1,2,none⟩) hle v2).setCell (p:=⟨w.heap.size+1,3,none⟩) hle v3)
 have HZ:=hid hz;clear r1 r2 r3 hb2 HW1 HFo sz1 sz2 hz;by_cases hev:ev=0
 ·subst hev
  rw [show ((0:Nat):Int)=0 from rfl];cases bb
  ·have HY:Hid (Y=(0,st,false,dt,ol)):=hid (by rw [HAtR.out];rfl)
   go_wp2;refine bodyPost_ret (v := .tuple #[.agg #[.int .u64 (st:Int), .bool false, .int .u64 (dt:Int), .int .u64 (ol:Int)], .int .i64 0]) (by simp [results,Tryz.results57,go_sem,y0,y1,y2,y3,hlt]) rfl ?_;unfold RetVer;rw [HY.out];exact ⟨rfl,HZ.out _ _ _ _⟩
  ·have HY:Hid (Y=(5,0,false,0,0)):=hid (by rw [HAtR.out];rfl)
   go_wp2;refine bodyPost_ret (v := .tuple #[.agg #[.int .u64 0, .bool false, .int .u64 0, .int .u64 0], .int .i64 5]) (by simp [results,Tryz.results57,go_sem,y0,y1,y2,y3,hlt]) rfl ?_;unfold RetVer;rw [HY.out];exact ⟨rfl,HZ.out _ _ _ _⟩
 ·have HY:Hid (Y=(ev,0,false,0,0)):=hid (by rw [HAtR.out,if_pos hev])
  have d1:((ev:Int) != 0)=true:=by rw [bne,beq_eq_false_iff_ne.2 oM];rfl
  clear hev HAtR;go_wp2;refine bodyPost_ret (v := .tuple #[.agg #[.int .u64 0, .bool false, .int .u64 0, .int .u64 0], .int .i64 (ev:Int)]) (by simp [results,Tryz.results57,go_sem,y0,y1,y2,y3,hlt]) rfl ?_;unfold RetVer;rw [HY.out];exact ⟨rfl,HZ.out _ _ _ _⟩
end
end
section
open Go.RowKit Go.Maps
def ckS (B:Nat→Nat) (q:Nat) (_p:Nat) (v:Nat × Bool × Nat × Nat):Nat × Bool :=
 if v.2.1=false∧B v.2.2.1≠0 then (11,false) else (q,decide (q=0))
section
variable {a:DA} {L T s n K:Nat} {x:HA} {cs:Nat→CS} {f:Nat→Option Nat} {N m b0:Nat} {S:Fp} {cur:Nat→Nat} {w:World} {d r:Nat}
theorem vck1_any {W:World} (h:SD a L T s n K x cs f N m b0 S cur W d r) (p sp:Nat) (dl:Bool) (dt ol gs gb q:Nat) (hdt:dt < 18446744073709551616) (hs:Blk W gs 83 #[.iface 59 (.pointer (some ⟨d,0,none⟩))]) (hb:Blk W gb 55 #[.int .i64 (q:Int)]) (hne:gs≠gb) :
  Calls Tryz.prog 142 #[.int .u64 (p:Int), .agg #[.int .u64 (sp:Int), .bool dl, .int .u64 (dt:Int), .int .u64 (ol:Int)], .pointer (some ⟨gs,0,none⟩), .pointer (some ⟨gb,0,none⟩)] W fun e w'=>e = .returned (.bool (ckS (fun z=>(walkR L cur (fun q=>chkR s K cs q 1) z).1) q p (sp,dl,dt,ol)).2)∧(Blk w' gs 83 #[.iface 59 (.pointer (some ⟨d,0,none⟩))]∧Blk w' gb 55 #[.int .i64 ((ckS (fun z=>(walkR L cur (fun q=>chkR s K cs q 1) z).1) q p (sp,dl,dt,ol)).1:Int)])∧Chg (fun k=>k=gb) W w':=by
 obtain ⟨W1,hW1⟩:∃ W1,W.alloc (.cells #[.int .u64 (sp:Int), .bool dl, .int .u64 (dt:Int), .int .u64 (ol:Int)] 97)=W1:=⟨_,rfl⟩
 have hbx:=Blk.new W 97 #[.int .u64 (sp:Int), .bool dl, .int .u64 (dt:Int), .int .u64 (ol:Int)];have hB1:Below W.heap.size W (W.alloc (.cells #[.int .u64 (sp:Int), .bool dl, .int .u64 (dt:Int), .int .u64 (ol:Int)] 97)):=(Below.refl _ _).alloc (nL _) _;rw [hW1] at hbx hB1;have HW1:=hid hW1;have hs1:=hs.below hB1 hs.lt;have hb1:=hb.below hB1 hb.lt;have HCh0:Hid (Chg (fun k=>k=gb) W W1):=hid (Chg.of_below hB1);have HCk:=hid (bcheck_any (h.below hB1) dt hdt rfl);have HDm:Hid (∀ W',Below W.heap.size W W'→Calls Tryz.prog 143 #[.iface 59 (.pointer (some ⟨d,0,none⟩))] W' fun e w'=>e = .returned (.int .i64 11)∧W'=w'):=hid (fun W' hW=>vdamaged_any (h.below hW));unfold dirV at HCk;obtain ⟨ev,hev⟩:∃ ev,(walkR L cur (fun q=>chkR s K cs q 1) dt).1=ev:=⟨_,rfl⟩
 rw [hev] at HCk;have HCS:Hid (ckS (fun z=>(walkR L cur (fun q=>chkR s K cs q 1) z).1) q p (sp,dl,dt,ol)=if dl=false∧ev≠0 then (11,false) else (q,decide (q=0))):=hid (by rw [← hev];rfl);generalize ckS (fun z=>(walkR L cur (fun q=>chkR s K cs q 1) z).1) q p (sp,dl,dt,ol)=Y at *;have v1:W1.cell? ⟨W.heap.size,1,none⟩=some (.bool dl):=hbx.cell 1;have v2:W1.cell? ⟨W.heap.size,2,none⟩=some (.int .u64 (dt:Int)):=hbx.cell 2;have s1:W1.cell? ⟨gs,0,none⟩=some (.iface 59 (.pointer (some ⟨d,0,none⟩))):=hs1.cell 0;have b1:W1.cell? ⟨gb,0,none⟩=some (.int .i64 (q:Int)):=hb1.cell 0;have HS1:=hid hs1;have HBb:=hid hb1;have HNe:=hid hne;have HB1:=hid hB1;have hq:((q:Int) == 0)=decide (q=0):=by
  by_cases h:q=0
  ·subst h;rfl
  ·rw [decide_eq_false h,beq_eq_false_iff_ne];omega
 generalize decide (q=0)=qz at *;clear h hs hb hne hbx hB1 hs1 hb1 hW1 hev hdt;by_cases hbad:dl=false∧ev≠0
 ·obtain ⟨rfl,hev⟩:=hbad
  have HY:Hid (Y=(11,false)):=hid (by rw [HCS.out,if_pos ⟨rfl,hev⟩]);have d1:((ev:Int) != 0)=true:=by rw [bne,beq_eq_false_iff_ne.2 oM];rfl
  clear HCS;go_enter Tryz.func142,Tryz.ntmps142
  go_upto_region 1 with fail
  rw [HW1.out];go_wp2_with (go_at_call 34;refine HCk.out.mono ?_;rintro e w2 ⟨rfl,hb2⟩;have HB2:=hid hb2;clear hb2;refine stop ?_)
  unfold Stop;have hs2:=HS1.out.below HB2.out HS1.out.lt;have hb2:=HBb.out.below HB2.out HBb.out.lt;have s2:w2.cell? ⟨gs,0,none⟩=some (.iface 59 (.pointer (some ⟨d,0,none⟩))):=hs2.cell 0;have b2:w2.cell? ⟨gb,0,none⟩=some (.int .i64 (q:Int)):=hb2.cell 0;have z2:w2.frozen? ⟨gb,0,none⟩=false:=hb2.frozen 0;have hlt2:gb < w2.heap.size:=hb2.lt;have HD2:=hid (HDm.out w2 (HB1.out.trans (HB2.out.mono HB1.out.size)));have HS2:=hid hs2;have HBb2:=hid hb2;have HCh2:Hid (Chg (fun k=>k=gb) W w2):=hid (HCh0.out.trans (Chg.of_below HB2.out) (Grew.refl _ _));clear hs2 hb2;go_wp2_with (go_at_call 143;refine HD2.out.mono ?_;rintro e w3 ⟨rfl,rfl⟩)
  go_ret;rw [HY.out];have hch:Chg (fun k=>k=gb) W (w2.setCell ⟨gb,0,none⟩ (.int .i64 11)):=HCh2.out.setCell (p:=⟨gb,0,none⟩) (.inl rfl) _;have hch2:Chg (fun k=>k=gb) w2 (w2.setCell ⟨gb,0,none⟩ (.int .i64 11)):=(Chg.refl (fun k=>k=gb) w2).setCell (p:=⟨gb,0,none⟩) (.inl rfl) _;exact ⟨rfl,⟨hch2.blk HS2.out HNe.out,HBb2.out.set_ 0 (.int .i64 11)⟩,hch⟩
 ·have HY:Hid (Y=(q,qz)):=hid (by rw [HCS.out,if_neg hbad])
  clear HCS;cases dl
  ·have hev:ev=0:=Classical.not_not.1 (fun h=>hbad ⟨rfl,h⟩)
   subst hev;rw [show ((0:Nat):Int)=0 from rfl] at HCk;clear hbad;go_enter Tryz.func142,Tryz.ntmps142
   go_upto_region 1 with fail
   rw [HW1.out];go_wp2_with (go_at_call 34;refine HCk.out.mono ?_;rintro e w2 ⟨rfl,hb2⟩;have HB2:=hid hb2;clear hb2;refine stop ?_)
   unfold Stop;have hs2:=HS1.out.below HB2.out HS1.out.lt;have hb2:=HBb.out.below HB2.out HBb.out.lt;have b2:w2.cell? ⟨gb,0,none⟩=some (.int .i64 (q:Int)):=hb2.cell 0;have HS2:=hid hs2;have HBb2:=hid hb2;have HCh2:Hid (Chg (fun k=>k=gb) W w2):=hid (HCh0.out.trans (Chg.of_below HB2.out) (Grew.refl _ _));clear hs2 hb2;go_wp2;go_ret;rw [HY.out];exact ⟨rfl,⟨HS2.out,HBb2.out⟩,HCh2.out⟩
  ·clear hbad
   go_enter Tryz.func142,Tryz.ntmps142
   go_upto_region 1 with fail
   rw [HW1.out];go_wp2;go_ret;rw [HY.out];exact ⟨rfl,⟨HS1.out,HBb.out⟩,HCh0.out⟩
def vckR (rd:Nat→Nat × Nat × Bool × Nat × Nat) (B:Nat→Nat) (head:Nat):Nat :=
 if (folW rd (ckS B) 4097 head 4611686018427387904 0 0).1≠0 then (folW rd (ckS B) 4097 head 4611686018427387904 0 0).1 else (folW rd (ckS B) 4097 head 4611686018427387904 0 0).2
def CkR (d gs gb:Nat) (q:Nat) (W:World):Prop:=Blk W gs 83 #[.iface 59 (.pointer (some ⟨d,0,none⟩))]∧Blk W gb 55 #[.int .i64 (q:Int)]
theorem ck_body (h:SD a L T s n K x cs f N m b0 S cur w d r) (gs gb:Nat) (h1:gs≠gb):Body 142 #[.pointer (some ⟨gs,0,none⟩), .pointer (some ⟨gb,0,none⟩)] w (fun _ _=>True) (fun _ _ k=>k=gb) (CkR d gs gb) (ckS (fun z=>(walkR L cur (fun q=>chkR s K cs q 1) z).1)):=by
 intro q _ p sp dl dt ol W _ _ hR hW _ _ _ hdt _;obtain ⟨r1,r2⟩:=hR;have e:(#[Value.int .u64 (p:Int), .agg #[.int .u64 (sp:Int), .bool dl, .int .u64 (dt:Int), .int .u64 (ol:Int)]]++#[Value.pointer (some ⟨gs,0,none⟩), .pointer (some ⟨gb,0,none⟩)])=#[.int .u64 (p:Int), .agg #[.int .u64 (sp:Int), .bool dl, .int .u64 (dt:Int), .int .u64 (ol:Int)], .pointer (some ⟨gs,0,none⟩), .pointer (some ⟨gb,0,none⟩)]:=by simp
 rw [e];exact vck1_any (h.below hW) p sp dl dt ol gs gb q hdt r1 r2 h1
theorem vcheck_any (h:SD a L T s n K x cs f N m b0 S cur w d r) (head:Nat) (hh:head < 18446744073709551616) :
  Calls Tryz.prog 59 #[.iface 59 (.pointer (some ⟨d,0,none⟩)), .int .u64 (head:Int)] w fun e w'=>e = .returned (.int .i64 (vckR (verR cur (fun q=>chkR s K cs q 7)) (fun z=>(walkR L cur (fun q=>chkR s K cs q 1) z).1) head:Int))∧Below w.heap.size w w':=by
 obtain ⟨W1,hW1⟩:∃ W1,(w.alloc (.cells #[.iface 59 (.pointer (some ⟨d,0,none⟩))] 83)).alloc (.cells #[.int .i64 0] 55)=W1:=⟨_,rfl⟩
 have HW1:=hid hW1;have sz1:(w.alloc (.cells #[.iface 59 (.pointer (some ⟨d,0,none⟩))] 83)).heap.size=w.heap.size+1:=by simp
 have hb:Below w.heap.size w W1:=by
  rw [← hW1];exact ((Below.refl _ _).alloc (nL _) _).alloc (by simp) _
 have hR0:CkR d w.heap.size (w.heap.size+1) 0 W1:=by
  rw [← hW1];refine ⟨(Blk.new w 83 #[.iface 59 (.pointer (some ⟨d,0,none⟩))]).alloc _,?_⟩;have h1:=Blk.new (w.alloc (.cells #[.iface 59 (.pointer (some ⟨d,0,none⟩))] 83)) 55 #[.int .i64 0];rw [sz1] at h1;exact h1
 have HFo:=hid (vfollow_any h hb head hh 142 #[.pointer (some ⟨w.heap.size,0,none⟩), .pointer (some ⟨w.heap.size+1,0,none⟩)] (fun _ _=>True) (fun _ _ k=>k=w.heap.size+1) (CkR d w.heap.size (w.heap.size+1)) (ckS (fun z=>(walkR L cur (fun q=>chkR s K cs q 1) z).1)) 0
  (fun s W hR k hk=>by
   subst hk;exact ⟨oM,hR.2.lt⟩) (fun _ _ _ _ _ _ hk=>hk) trivial (fun _ _ _ _ _ _=>trivial) hR0 (fun s W W' hR hW=>⟨hR.1.below hW hR.1.lt,hR.2.below hW hR.2.lt⟩) (fun args w=>by kernel_rfl) (ck_body h _ _ oM))
 have HCk:Hid (vckR (verR cur (fun q=>chkR s K cs q 7)) (fun z=>(walkR L cur (fun q=>chkR s K cs q 1) z).1) head=if (folW (verR cur (fun q=>chkR s K cs q 7)) (ckS (fun z=>(walkR L cur (fun q=>chkR s K cs q 1) z).1)) 4097 head 4611686018427387904 0 0).1≠0 then (folW (verR cur (fun q=>chkR s K cs q 7)) (ckS (fun z=>(walkR L cur (fun q=>chkR s K cs q 1) z).1)) 4097 head 4611686018427387904 0 0).1 else (folW (verR cur (fun q=>chkR s K cs q 7)) (ckS (fun z=>(walkR L cur (fun q=>chkR s K cs q 1) z).1)) 4097 head 4611686018427387904 0 0).2):=hid rfl;generalize folW (verR cur (fun q=>chkR s K cs q 7)) (ckS (fun z=>(walkR L cur (fun q=>chkR s K cs q 1) z).1)) 4097 head 4611686018427387904 0 0=X at *;generalize vckR (verR cur (fun q=>chkR s K cs q 7)) (fun z=>(walkR L cur (fun q=>chkR s K cs q 1) z).1) head=Y at *;have c1:W1.cell? ⟨w.heap.size,0,none⟩=some (.iface 59 (.pointer (some ⟨d,0,none⟩))):=hR0.1.cell 0;have hmf:∀ (fn:Fn) (first cap:Array Value) (w:World),(Instr.makeFunc fn first cap).run Tryz.prog w = .ok (.func fn first cap) w:=fun _ _ _ _=>rfl
 clear h hW1 hb hR0 hh;go_enter Tryz.func59,Tryz.ntmps59
 go_upto_region 2 with fail
 rw [HW1.out];go_wp2_with fail
 refine HFo.out.mono ?_;rintro e w2 ⟨rfl,⟨r1,r2⟩,hb2⟩;obtain ⟨ev,q⟩:=X;dsimp only at r2 HCk;have HB2:=hid hb2;have b2:w2.cell? ⟨w.heap.size+1,0,none⟩=some (.int .i64 (q:Int)):=r2.cell 0;clear r1 r2 hb2 HW1 HFo sz1 c1;by_cases hev:ev=0
 ·subst hev
  rw [show ((0:Nat):Int)=0 from rfl];have HY:Hid (Y=q):=hid (by rw [HCk.out];rfl);go_wp2;go_ret;rw [HY.out];exact ⟨rfl,HB2.out⟩
 ·have HY:Hid (Y=ev):=hid (by rw [HCk.out,if_pos hev])
  have d1:((ev:Int) != 0)=true:=by rw [bne,beq_eq_false_iff_ne.2 oM];rfl
  clear hev HCk;go_wp2;go_ret;rw [HY.out];exact ⟨rfl,HB2.out⟩
end
end
section
open Go.RowKit Go.Maps
section
variable {a:DA} {L T n K:Nat} {x:HA} {cs cs2:Nat→CS} {f f2:Nat→Option Nat} {N m b0:Nat} {S:Fp} {cur cur2:Nat→Nat} {w:World} {ks keep free:List Nat} {V:Nat→Nat} {cm d r:Nat}
theorem sfp_new (h:SD a L T 53 n K x cs f N m b0 S cur w d r):¬ sfp S x w.heap.size:=by
 rintro (e | e)
 ·exact Nat.lt_irrefl _ (h.ds.dev.lt _ e)
 ·have h1:=h.lo
  have h2:=h1.pl;have h3:=h1.mr;have h4:=h1.mh;have e':w.heap.size=x.pl∨w.heap.size=x.mr∨w.heap.size=x.mh:=e;omega
theorem lit_cells (W:World) (C:Array Value) (t:TypeId) (l:List Nat) (h:C.toList=uCells l):Reads (W.alloc (.cells C t)) (W.alloc (.cells C t)).heap.size 1 (some ⟨W.heap.size,0,none⟩) l.length (uCells l):=by
 refine ⟨by simp [uCells],fun _=>⟨_,rfl,by simp,fun j u hu=>?_⟩⟩;have hh:(W.alloc (.cells C t)).heap[W.heap.size]?=some (.cells C t):=heap_alloc_new W _;have ha:(⟨W.heap.size,0,none⟩:Addr).add j=⟨W.heap.size,j,none⟩:=by unfold Addr.add;split <;> simp_all
 rw [ha,cell_of_row _ _ _ _ _ _ hh,← Array.getElem?_toList,h];exact hu
variable {y:WA}
end
end
end Go.Proofs.YtfkjjoglnmeciaaGreatDoor
