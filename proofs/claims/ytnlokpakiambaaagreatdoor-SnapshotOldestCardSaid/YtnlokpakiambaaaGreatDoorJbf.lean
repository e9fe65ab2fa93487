/- The walks and laws that the claim leans on, part 32. -/
import Derived.Test.YtnlokpakiambaaaGreatDoorJbd
set_option maxRecDepth 100000
set_option maxHeartbeats 16000000
namespace Go.Proofs.YtnlokpakiambaaaGreatDoor
open Go.Lib (hid)
section
open Go.RowKit Go.Maps
theorem newDirect_any (h t r:Nat) (w:World) :
  Calls Tryz.prog 150 #[.pointer (some ⟨h,0,none⟩), .pointer (some ⟨t,0,none⟩), .pointer (some ⟨r,0,none⟩)] w fun e w'=>e = .returned (.pointer (some ⟨w.heap.size,0,none⟩))∧w'=w.alloc (.cells #[.pointer (some ⟨h,0,none⟩), .pointer (some ⟨t,0,none⟩), .pointer (some ⟨r,0,none⟩)] 147):=by
 go_enter Tryz.func150,Tryz.ntmps150
 go_wp2
 go_ret
 exact ⟨rfl,rfl⟩
structure WA where
 g:Nat
 d:Nat
 r:Nat
 u:Nat
 m:Nat
def bwCells (a:DA) (x:HA) (y:WA) (c:Nat):Array Value:=#[.pointer (some ⟨a.d,0,none⟩), .pointer (some ⟨a.th 0,0,none⟩), .pointer (some ⟨x.h,0,none⟩), .pointer (some ⟨y.d,0,none⟩), .pointer (some ⟨y.m,0,none⟩), .int .i64 (c:Int)]
structure BW (a:DA) (L T K:Nat) (x:HA) (y:WA) (cs:Nat→CS) (f:Nat→Option Nat) (N m b0:Nat) (S:Fp) (cur:Nat→Nat) (w:World):Prop where
 sd:SD a L T 53 (32 * K) K x cs f N m b0 S cur w y.d y.r
 blk:Blk w y.g 46 (bwCells a x y K)
 und:Blk w y.u 322 (ulogCells a 26 26)
 mgr:Blk w y.m 331 (mgrCells (some ⟨a.th 0,0,none⟩) (some ⟨y.r,0,none⟩) (some ⟨y.u,0,none⟩) (some ⟨x.h,0,none⟩) none)
 uid:cur (8 * 26)=0
 off:¬ S y.g∧¬ S y.u∧¬ S y.m
 new:b0≤y.g∧b0≤y.d∧b0≤y.r∧b0≤y.u∧b0≤y.m
 size:L=53+32 * K
 few:K≤12
structure Empt (K:Nat) (cur:Nat→Nat):Prop where
 r:cur (8 * 0)=0
 u:cur (8 * 26)=0
 c:∀ k,k < K→cur (8 * (53+32 * k))=freeW 1
 b:∀ i,cur i < 18446744073709551616
def RetBop (a:DA) (L T K b0:Nat) (S:Fp) (cur:Nat→Nat) (w:World) (e:Ending) (w':World):Prop:=∃ x y,e = .returned (.pointer (some ⟨y.g,0,none⟩))∧BW a L T K x y (fun _=>csN) (fun _=>none) 0 0 b0 S cur w'∧Below w.heap.size w w'
theorem bopen_any {a:DA} {L T K b0:Nat} {w:World} {S:Fp} {cur:Nat→Nat} (h:Dev a L T w S cur 0) (hL:L=53+32 * K) (hK:1≤K) (hK12:K≤12) (ht:Tab w) (hpy:Pay w) (hp:Empt K cur) (hb0:2 < b0∧0 < b0∧b0≤w.heap.size∧∀ k,S k→b0≤k) :
  Calls Tryz.prog 103 #[.pointer (some ⟨a.d,0,none⟩), .int .i64 (K:Int)] w (RetBop a L T K b0 S cur w):=by
 have HD:=hid h
 have HT:=hid ht
 have HP:=hid hp
 have HPy:=hid hpy
 have HB0:=hid hb0
 have HLK:=hid (show L=53+32 * K∧1≤K∧K≤12 from ⟨hL,hK,hK12⟩)
 have HTh:=hid (thread_any h)
 have HRo:=hid (redoOpen_any h 0 26 (by omega) (by omega))
 have hb1:Below w.heap.size w (w.alloc (.cells (logCells a 0 26) 231)):=(Below.refl _ _).alloc (Nat.le_refl _) _
 have HB1:=hid hb1
 have HBr:=hid (Blk.new w 231 (logCells a 0 26))
 have HRr:=hid (redoRecover_idle (h.below hb1) w.heap.size 0 26 HBr.out (by omega) hp.r)
 have hz32:((32 * K:Nat):Int)=32 * (K:Int):=by omega
 have hLs:26+26≤L:=by omega
 have hLh:53+32 * K≤L:=by omega
 have hKn:32≤32 * K:=by omega
 have hKd:32 * K / 32=K:=by omega
 have HAr:=hid (show 26+26≤L∧53+32 * K≤L∧32≤32 * K∧32 * K / 32=K from ⟨hLs,hLh,hKn,hKd⟩)
 clear h ht hp hb1 hpy hb0 hL hK hLs hLh hKn hKd
 unfold memV at *
 go_enter Tryz.func103,Tryz.ntmps103
 go_wp2_with (first
  | (go_at_call 100;refine HTh.out.mono ?_;rintro e w1 ⟨rfl,rfl⟩)
  | (go_at_call 145;refine HRo.out.mono ?_;rintro e w1 ⟨rfl,rfl⟩)
  | fail)
 generalize (w.alloc (.cells (logCells a 0 26) 231))=W at *
 clear HRo HTh
 refine HRr.out.mono ?_
 rintro e W1 ⟨rfl,hb1⟩
 have HB2:=hid (HB1.out.trans (hb1.mono HB1.out.size))
 have HBr2:=hid (HBr.out.below hb1 HBr.out.lt)
 have HUo:=hid (undoOpen_any (HD.out.below HB2.out) 26 26 (by omega) HAr.out.1)
 clear HRr hb1 HBr HB1
 unfold memV at HUo
 go_wp2_with fail
 refine HUo.out.mono ?_
 rintro e W2 ⟨rfl,rfl⟩
 have HB3:=hid (HB2.out.alloc HB2.out.size (.cells (ulogCells a 26 26) 322))
 have HBr3:=hid (HBr2.out.alloc (.cells (ulogCells a 26 26) 322))
 have HBu3:=hid (Blk.new W1 322 (ulogCells a 26 26))
 have HUr:=hid (undoRecover_none (HD.out.below HB3.out) W1.heap.size 26 26 HBu3.out (by have:=HAr.out.1;omega) (by omega) (by omega) HP.out.u)
 have HL3:=hid (Nat.le_trans HB2.out.size (Nat.le_refl W1.heap.size))
 obtain ⟨u,hu⟩:∃ u,W1.heap.size=u:=⟨_,rfl⟩
 rw [hu] at HBu3 HUr HL3 ⊢
 generalize W1.alloc (.cells (ulogCells a 26 26) 322)=W3 at *
 clear HUo HB2 HBr2 hu
 go_wp2_with fail
 refine HUr.out.mono ?_
 rintro e W4 ⟨rfl,hb1⟩
 have HB4:=hid (HB3.out.trans (hb1.mono HB3.out.size))
 have HBr4:=hid (HBr3.out.below hb1 HBr3.out.lt)
 have HBu4:=hid (HBu3.out.below hb1 HBu3.out.lt)
 have HHo:=hid (heapOpenS_any (HD.out.below HB4.out) (HT.out.below HB4.out) 53 (32 * K) K HAr.out.2.2.1 HAr.out.2.1 HAr.out.2.2.2 HP.out.c)
 rw [hz32] at HHo
 clear HUr hb1 HBr3 HBu3 HB3
 unfold memV at HHo
 have hK12':K≤12:=hK12
 go_wp2_with fail
 refine HHo.out.mono ?_
 rintro e W5 ⟨x,rfl,hhs,hlow,hb1⟩
 have HB5:=hid (HB4.out.trans (hb1.mono HB4.out.size))
 have HBr5:=hid (HBr4.out.below hb1 HBr4.out.lt)
 have HBu5:=hid (HBu4.out.below hb1 HBu4.out.lt)
 have HHs5:=hid hhs
 have HLow:=hid (show w.heap.size≤x.h∧w.heap.size≤x.gs∧w.heap.size≤x.pl∧w.heap.size≤x.mr∧w.heap.size≤x.mh by obtain ⟨l1,l2,l3,l4,l5⟩:=hlow;have:=HB4.out.size;exact ⟨by omega,by omega,by omega,by omega,by omega⟩)
 clear HHo hb1 HBr4 HBu4 HB4 hhs hlow
 obtain ⟨W6,hW6⟩:∃ W6,W5.alloc (.cells (dirCells a x.h w.heap.size) 147)=W6:=⟨_,rfl⟩
 obtain ⟨W7,hW7⟩:∃ W7,W6.alloc (.cells (mgrCells (some ⟨a.th 0,0,none⟩) (some ⟨w.heap.size,0,none⟩) (some ⟨u,0,none⟩) (some ⟨x.h,0,none⟩) none) 331)=W7:=⟨_,rfl⟩
 have HND:Hid (Calls Tryz.prog 150 #[.pointer (some ⟨x.h,0,none⟩), .pointer (some ⟨a.th 0,0,none⟩), .pointer (some ⟨w.heap.size,0,none⟩)] W5 fun e w'=>e = .returned (.pointer (some ⟨W5.heap.size,0,none⟩))∧W6=w'):=hid ((newDirect_any x.h (a.th 0) w.heap.size W5).mono (fun e w' h=>⟨h.1,by rw [← hW6];exact h.2.symm⟩))
 have HTN:Hid (Calls Tryz.prog 151 #[.pointer (some ⟨a.th 0,0,none⟩), .pointer (some ⟨w.heap.size,0,none⟩), .pointer (some ⟨u,0,none⟩), .pointer (some ⟨x.h,0,none⟩)] W6 fun e w'=>e = .returned (.pointer (some ⟨W6.heap.size,0,none⟩))∧W7=w'):=hid ((txNew_any (some ⟨a.th 0,0,none⟩) (some ⟨w.heap.size,0,none⟩) (some ⟨u,0,none⟩) (some ⟨x.h,0,none⟩) W6).mono (fun e w' h=>⟨h.1,by rw [← hW7];exact h.2.symm⟩))
 have hb6:Below W5.heap.size W5 W6:=by rw [← hW6];exact (Below.refl _ _).alloc (Nat.le_refl _) _
 have hb7:Below W6.heap.size W6 W7:=by rw [← hW7];exact (Below.refl _ _).alloc (Nat.le_refl _) _
 have hs6:W6.heap.size=W5.heap.size+1:=by rw [← hW6];simp
 have hd6:Blk W6 W5.heap.size 147 (dirCells a x.h w.heap.size):=by rw [← hW6];exact Blk.new _ _ _
 have hm7:Blk W7 W6.heap.size 331 (mgrCells (some ⟨a.th 0,0,none⟩) (some ⟨w.heap.size,0,none⟩) (some ⟨u,0,none⟩) (some ⟨x.h,0,none⟩) none):=by rw [← hW7];exact Blk.new _ _ _
 have HB57:Hid (Below W5.heap.size W5 W7):=hid (hb6.trans (hb7.mono (by omega)))
 have HB7:=hid (HB5.out.trans (HB57.out.mono HB5.out.size))
 have HD7:=hid (hd6.below hb7 hd6.lt)
 have HM7:=hid hm7
 have HSz:=hid (show W6.heap.size=W5.heap.size+1∧w.heap.size≤W5.heap.size from ⟨hs6,HB5.out.size⟩)
 clear hW6 hW7 hb6 hb7 hs6 hd6 hm7
 go_upto_region 20 with (first
  | (go_at_call 150;refine HND.out.mono ?_;rintro e Wz ⟨rfl,rfl⟩)
  | (go_at_call 151;refine HTN.out.mono ?_;rintro e Wz ⟨rfl,rfl⟩))
 have HBg:=hid (Blk.new W7 46 (bwCells a x ⟨W7.heap.size,W5.heap.size,w.heap.size,u,W6.heap.size⟩ K))
 have HBb:Hid (Below W7.heap.size W7 (W7.alloc (.cells (bwCells a x ⟨W7.heap.size,W5.heap.size,w.heap.size,u,W6.heap.size⟩ K) 46))):=hid ((Below.refl _ _).alloc (Nat.le_refl _) _)
 unfold bwCells at HBb HBg
 generalize hW8:W7.alloc (.cells #[.pointer (some ⟨a.d,0,none⟩), .pointer (some ⟨a.th 0,0,none⟩), .pointer (some ⟨x.h,0,none⟩), .pointer (some ⟨W5.heap.size,0,none⟩), .pointer (some ⟨W6.heap.size,0,none⟩), .int .i64 (K:Int)] 46)=W8 at *
 have f3:W8.cell? ⟨W7.heap.size,3,none⟩=some (.pointer (some ⟨W5.heap.size,0,none⟩)):=HBg.out.cell 3
 have f4:W8.cell? ⟨W7.heap.size,4,none⟩=some (.pointer (some ⟨W6.heap.size,0,none⟩)):=HBg.out.cell 4
 have HF:Hid (RetBop a L T K b0 S cur w (.returned (.pointer (some ⟨W7.heap.size,0,none⟩))) W8):=hid (by
  have h58:Below W5.heap.size W5 W8:=HB57.out.trans (HBb.out.mono HB57.out.size)
  have h8:Below w.heap.size w W8:=HB5.out.trans (h58.mono HB5.out.size)
  obtain ⟨l1,l2,l3,l4,l5⟩:=HLow.out
  obtain ⟨b1,b2,b3,b4⟩:=HB0.out
  obtain ⟨k1,k2,k3⟩:=HLK.out
  obtain ⟨s1,s2⟩:=HSz.out
  have s7:W6.heap.size≤W7.heap.size:=by have:=HM7.out.lt;omega
  have hS:∀ g,w.heap.size≤g→¬ S g:=fun g hg hs=>by have:=HD.out.lt _ hs;omega
  have hu:=HL3.out
  refine ⟨x,⟨W7.heap.size,W5.heap.size,w.heap.size,u,W6.heap.size⟩,rfl,⟨⟨⟨HD.out.below h8,HHs5.out.below h58,fun k hk=>?_,HP.out.b,fun o p h=>(by cases h),HT.out.below h8,HPy.out.below h8,⟨b1,b2,by omega,by omega,by omega,by omega,by omega,b4⟩,⟨hS _ l1,hS _ l2,hS _ l3,hS _ l4,hS _ l5⟩,⟨HAr.out.2.2.2,k2,HAr.out.2.1,by omega⟩⟩,HD7.out.below HBb.out HD7.out.lt,HBr5.out.below h58 HBr5.out.lt,HP.out.r,hS _ s2,hS _ (Nat.le_refl _),by omega⟩,HBg.out,HBu5.out.below h58 HBu5.out.lt,HM7.out.below HBb.out HM7.out.lt,HP.out.u,⟨hS _ (by show w.heap.size≤W7.heap.size;omega),hS _ hu,hS _ (by show w.heap.size≤W6.heap.size;omega)⟩,⟨by show b0≤W7.heap.size;omega,by show b0≤W5.heap.size;omega,b3,by show b0≤u;omega,by show b0≤W6.heap.size;omega⟩,k1,k3⟩,h8⟩
  unfold CSok csN
  exact ⟨HP.out.c k hk,(by show 0 < 1;omega),(by show 1 < 65536;omega)⟩)
 clear HB5 HBr5 HBu5 HHs5 HLow HB57 HB7 HD7 HM7 HSz HBb hW8
 go_wp2_with fail
 go_ret
 exact HF.out
end
end Go.Proofs.YtnlokpakiambaaaGreatDoor
