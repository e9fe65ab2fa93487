/- The walks and laws that the claim leans on, part 10. -/
import Derived.Test.YtfkjjoglnmeciaaGreatDoorJai
set_option maxRecDepth 100000
set_option maxHeartbeats 16000000
namespace Go.Proofs.YtfkjjoglnmeciaaGreatDoor
open Go.Lib (hid)
section
open Go.RowKit
theorem saved_none {a:DA} {L T:Nat} {w:World} {S:Fp} {cur:Nat→Nat} {F:Nat} (h:Dev a L T w S cur F) (g s n:Nat) (hB:Blk w g 330 (ulogCells a s n)) (hs:s < L) (hn:2≤n) (hn2:n≤4096) (h0:cur (8 * s)=0) :
  Calls Tryz.prog 375 #[.pointer (some ⟨g,0,none⟩)] w fun e w'=>e = .returned (.slice none 0 0)∧Below w.heap.size w w':=by
 have HLd:=hid (load_at h (64 * s) 0 (by omega) (by omega) (by rw [show 64 * s / 8=8 * s by omega];exact h0))
 have hm:=methLoad (some ⟨a.th 0,0,none⟩)
 have hna:=aheadLoad ⟨a.th 0,0,none⟩
 have hq:=eqMem (some ⟨a.th 0,0,none⟩)
 have HBB:=hid hB
 have f0:w.cell? ⟨g,0,none⟩=some (memV a):=hB.cell 0
 have f1:w.cell? ⟨g,1,none⟩=some (.int .u64 ((64 * s:Nat):Int)):=hB.cell 1
 have HB0:Hid (Below w.heap.size w w.drew):=(Below.refl _ _).drew
 have u1:IntKind.u64.wrap (4 * ((n:Int) - 1))=4 * ((n:Int) - 1):=by rw [IntKind.wrap_u64];omega
 have e1:decide (4 * ((n:Int) - 1) < 0)=false:=decide_eq_false (by omega)
 have hz0:(2:Int)≤(n:Int):=by omega
 have hz1:(n:Int)≤4096:=by omega
 unfold memV at *
 generalize 64 * s=z at *
 clear hB h
 go_enter Tryz.func375,Tryz.ntmps375
 go_wp2
 go_cut [4] from 14 to 22 (fun v wx=>v = .int .u64 0∧Hid (Below w.heap.size w wx))
 case first =>
  go_region_with (go_at_call 65;refine (HLd.out _ HB0.out).mono ?_;rintro e w1 ⟨rfl,rfl⟩)
  all_goals (go_wp2_with fail;go_meet;exact ⟨rfl,HB0⟩)
 case rest =>
  obtain ⟨rfl,HW⟩:=hcut
  have k0:wc.cell? ⟨g,0,none⟩=some (.iface 58 (.pointer (some ⟨a.th 0,0,none⟩))):=(HBB.out.below HW.out HBB.out.lt).cell 0
  have k2:wc.cell? ⟨g,2,none⟩=some (.int .i64 (n:Int)):=(HBB.out.below HW.out HBB.out.lt).cell 2
  go_wp2
  go_loopw [5,30] (fun l i wr=>l = .slice none 0 0∧i = .int .i64 0∧Hid (Below w.heap.size w wr)) (fun _ _ _=>0)
  case atStart=>exact ⟨rfl,rfl,HW⟩
  case round =>
   obtain ⟨rfl,rfl,HR⟩:=hrel
   go_wp2
   go_ret
   exact ⟨rfl,HR.out⟩
theorem entries_none {a:DA} {L T:Nat} {w:World} {S:Fp} {cur:Nat→Nat} {F:Nat} (h:Dev a L T w S cur F) (g s n:Nat) (hB:Blk w g 330 (ulogCells a s n)) (hs:s < L) (hn:2≤n) (hn2:n≤4096) (h0:cur (8 * s)=0) :
  Calls Tryz.prog 341 #[.pointer (some ⟨g,0,none⟩)] w fun e w'=>e = .returned (.tuple #[.slice none 0 0, .int .i64 0])∧Below w.heap.size w w':=by
 have HL:=hid (saved_none h g s n hB hs hn hn2 h0)
 have HD:=hid h
 have HBB:=hid hB
 have c0:w.cell? ⟨g,0,none⟩=some (memV a):=hB.cell 0
 obtain ⟨ls,exe,per,cs,lsC,hdc,hnt⟩:=h
 obtain ⟨f0,_,_,_,f4⟩:=hdc.facts (j:=0) (by omega)
 have hmE:=methErr (some ⟨a.th 0,0,none⟩)
 have hq:=eqMem (some ⟨a.th 0,0,none⟩)
 clear hdc hnt hB
 unfold memV at *
 go_enter Tryz.func341,Tryz.ntmps341
 go_wp2_with (first
  | (go_at_call 375;refine HL.out.mono ?_;rintro e w1 ⟨rfl,hb1⟩;have HW:=hid hb1;have d0:w1.cell? ⟨g,0,none⟩=some (.iface 58 (.pointer (some ⟨a.th 0,0,none⟩))):=(HBB.out.below hb1 HBB.out.lt).cell 0;obtain ⟨ls1,exe1,per1,cs1,lsC1,hdc1,hnt1⟩:=HD.out.below hb1;obtain ⟨k0,_,_,_,k4⟩:=hdc1.facts (j:=0) (by omega);clear hb1 hdc1 hnt1)
  | go_in)
 go_ret2
 exact ⟨rfl,HW.out⟩
end
section
open Go.RowKit
structure BK where
 gen:Nat
 kind:Nat
 st:Nat
def BK.x (b:BK):Nat:=b.gen+b.kind * 65536+b.st * 16777216
def BK.w (b:BK):Nat:=sealW b.x
def BK.v (b:BK):Value := .agg #[.int .u16 (b.gen:Int), .int .u8 (b.kind:Int), .int .u8 (b.st:Int)]
structure BK.In (b:BK):Prop where
 g:b.gen < 65536
 k:b.kind < 256
 s:b.st < 256
theorem BK.In.x {b:BK} (h:b.In):b.x < 4294967296:=by
 have:=h.g;have:=h.k;have:=h.s
 unfold BK.x;omega
def BK.good (b:BK):Bool:=if b.st=176 then b.gen != 0 && b.kind == 0 else if b.st=177 then b.gen != 0 && b.kind != 0 && decide (b.kind≤127) else if b.st=178 then b.gen == 65535 && b.kind == 0 else false
def chV (a:DA) (ln c o g:Nat):Value := .agg #[memV a, .int .i64 (ln:Int), .int .i64 (c:Int), .int .i64 (o:Int), .int .u16 (g:Int)]
theorem bk_or (g k s:Nat) (hg:g < 65536) (hk:k < 256) (hs:s < 256):bits .or .u32 (bits .or .u32 (g:Int) ((k:Int) * 65536)) ((s:Int) * 16777216)=((g+k * 65536+s * 16777216:Nat):Int):=by
 rw [Go.u32_or16 (y:=(g:Int)) (x:=(k:Int) * 65536) (by omega) (by omega) (by omega) (by omega) (by omega)]
 rw [Go.u32_or24 (y:=(g:Int)+(k:Int) * 65536) (x:=(s:Int) * 16777216) (by omega) (by omega) (by omega) (by omega) (by omega)]
 omega
section
theorem bkWord_any (b:BK) (hb:b.In) (w:World) (ht:Tab w):Calls Tryz.prog 360 #[b.v] w fun e w'=>e = .returned (.int .u64 (b.w:Int))∧Below w.heap.size w w':=by
 obtain ⟨g,k,s⟩:=b
 obtain ⟨hg,hk,hs⟩:=hb
 have hbx:Below w.heap.size w (w.alloc (.cells #[.int .u16 (g:Int), .int .u8 (k:Int), .int .u8 (s:Int)] 401)):=(Below.refl _ w).alloc (Nat.le_refl _) _
 have HS:=hid (seal_any (BK.x ⟨g,k,s⟩) (BK.In.x ⟨hg,hk,hs⟩) _ (ht.below hbx))
 have HB:=hid hbx
 have e1:IntKind.u32.wrap (g:Int)=(g:Int):=by rw [IntKind.wrap_u32];dsimp only at hg;omega
 have e2:IntKind.u32.wrap (k:Int)=(k:Int):=by rw [IntKind.wrap_u32];dsimp only at hk;omega
 have e3:IntKind.u32.wrap (s:Int)=(s:Int):=by rw [IntKind.wrap_u32];dsimp only at hs;omega
 have e4:bits .or .u32 (bits .or .u32 (g:Int) ((k:Int) * 65536)) ((s:Int) * 16777216)=(BK.x ⟨g,k,s⟩:Int):=bk_or g k s hg hk hs
 unfold BK.w BK.v
 dsimp only at hg hk hs ⊢
 clear ht hbx
 generalize BK.x ⟨g,k,s⟩=xx at *
 generalize sealW xx=z at *
 go_enter Tryz.func360,Tryz.ntmps360
 go_wp2_with fail
 refine HS.out.mono ?_
 rintro e w1 ⟨rfl,hb1⟩
 have HB1:=hid (HB.out.trans (hb1.mono HB.out.size))
 clear hb1 HS
 go_wp2
 go_ret
 exact ⟨rfl,HB1.out⟩
theorem sealed_any (b:BK) (hb:b.In) (w:World) (ht:Tab w):Calls Tryz.prog 352 #[.int .u64 (b.w:Int)] w fun e w'=>e = .returned (.tuple #[b.v, .bool true])∧Below w.heap.size w w':=by
 obtain ⟨g,k,s⟩:=b
 have hx:=hb.x
 obtain ⟨hg,hk,hs⟩:=hb
 dsimp only at hg hk hs
 have hbx:Below w.heap.size w (w.alloc (.cells #[.int .u16 0, .int .u8 0, .int .u8 0] 401)):=(Below.refl _ w).alloc (Nat.le_refl _) _
 have HS:=hid (seal_any (BK.x ⟨g,k,s⟩) hx _ (ht.below hbx))
 have HB:=hid hbx
 have hxx:BK.x ⟨g,k,s⟩=g+k * 65536+s * 16777216:=rfl
 have e1:IntKind.u32.wrap ((sealW (BK.x ⟨g,k,s⟩):Nat):Int)=(BK.x ⟨g,k,s⟩:Int):=by rw [IntKind.wrap_u32];unfold sealW;omega
 have e2:IntKind.u16.wrap (BK.x ⟨g,k,s⟩:Int)=(g:Int):=by rw [IntKind.wrap_u16];omega
 have e3:IntKind.u8.wrap ((BK.x ⟨g,k,s⟩:Int) / 65536)=(k:Int):=by rw [IntKind.wrap_u8];omega
 have e4:IntKind.u8.wrap ((BK.x ⟨g,k,s⟩:Int) / 16777216)=(s:Int):=by rw [IntKind.wrap_u8];omega
 unfold BK.w BK.v
 dsimp only
 clear ht hbx hxx
 generalize BK.x ⟨g,k,s⟩=xx at *
 generalize sealW xx=z at *
 go_enter Tryz.func352,Tryz.ntmps352
 go_wp2_with fail
 refine HS.out.mono ?_
 rintro e w1 ⟨rfl,hb1⟩
 have hb2:=HB.out.trans (hb1.mono HB.out.size)
 have HBk:=(Blk.new w 401 #[.int .u16 0, .int .u8 0, .int .u8 0]).below hb1 (by simp)
 have c0:w1.cell? ⟨w.heap.size,0,none⟩=some (.int .u16 0):=HBk.cell 0
 have c1:w1.cell? ⟨w.heap.size,1,none⟩=some (.int .u8 0):=HBk.cell 1
 have c2:w1.cell? ⟨w.heap.size,2,none⟩=some (.int .u8 0):=HBk.cell 2
 have z0:w1.frozen? ⟨w.heap.size,0,none⟩=false:=HBk.frozen 0
 have z1:w1.frozen? ⟨w.heap.size,1,none⟩=false:=HBk.frozen 1
 have z2:w1.frozen? ⟨w.heap.size,2,none⟩=false:=HBk.frozen 2
 have HB1:=hid hb2
 clear hb1 hb2 HBk HS
 go_wp2
 have n01:(⟨w.heap.size,0,none⟩:Addr)≠⟨w.heap.size,1,none⟩:=by simp
 have n02:(⟨w.heap.size,0,none⟩:Addr)≠⟨w.heap.size,2,none⟩:=by simp
 have n12:(⟨w.heap.size,1,none⟩:Addr)≠⟨w.heap.size,2,none⟩:=by simp
 refine bodyPost_ret (v := .tuple #[.agg #[.int .u16 (g:Int), .int .u8 (k:Int), .int .u8 (s:Int)], .bool true]) (by simp [results,Tryz.results352,go_sem,c0,c1,c2]) rfl ⟨rfl,?_⟩
 exact ((HB1.out.setCell (p:=⟨w.heap.size,0,none⟩) (Nat.le_refl _) (.int .u16 (g:Int))).setCell (p:=⟨w.heap.size,1,none⟩) (Nat.le_refl _) (.int .u8 (k:Int))).setCell (p:=⟨w.heap.size,2,none⟩) (Nat.le_refl _) (.int .u8 (s:Int))
theorem nz_facts {x:Nat} (h:¬x=0):((x:Int) == 0)=false∧((x:Int) != 0)=true∧(x == 0)=false∧(x != 0)=true:=by
 have e1:((x:Int) == 0)=false:=by rw [beq_eq_false_iff_ne];omega
 have e2:(x == 0)=false:=by rw [beq_eq_false_iff_ne];exact h
 exact ⟨e1,by simp only [bne,e1,Bool.not_false],e2,by simp only [bne,e2,Bool.not_false]⟩
theorem good_any (b:BK) (hb:b.In) (w:World):Calls Tryz.prog 299 #[b.v] w fun e w'=>e = .returned (.bool b.good)∧Below w.heap.size w w':=by
 obtain ⟨g,k,s⟩:=b
 obtain ⟨hg,hk,hs⟩:=hb
 dsimp only at hg hk hs
 generalize hr:(BK.mk g k s).good=r
 unfold BK.good at hr
 dsimp only at hr
 have HR:=hid hr
 clear hr
 unfold BK.v
 dsimp only
 by_cases h1:s=176
 ·subst h1
  by_cases hg0:g=0
  ·subst hg0
   go_enter Tryz.func299,Tryz.ntmps299
   go_wp2
   go_ret
   exact ⟨by rw [← HR.out];simp,(Below.refl _ w).alloc (Nat.le_refl _) _⟩
  ·obtain ⟨g1,g2,g3,g4⟩:=nz_facts hg0
   by_cases hk0:k=0
   ·subst hk0
    go_enter Tryz.func299,Tryz.ntmps299
    go_wp2
    go_ret
    exact ⟨by rw [← HR.out];simp [g4],(Below.refl _ w).alloc (Nat.le_refl _) _⟩
   ·obtain ⟨k1,k2,k3,k4⟩:=nz_facts hk0
    go_enter Tryz.func299,Tryz.ntmps299
    go_wp2
    go_ret
    exact ⟨by rw [← HR.out];simp [g4,k3],(Below.refl _ w).alloc (Nat.le_refl _) _⟩
 ·have s1:((s:Int) == 176)=false:=by rw [beq_eq_false_iff_ne];omega
  by_cases h2:s=177
  ·subst h2
   by_cases hg0:g=0
   ·subst hg0
    go_enter Tryz.func299,Tryz.ntmps299
    go_wp2
    go_ret
    exact ⟨by rw [← HR.out];simp,(Below.refl _ w).alloc (Nat.le_refl _) _⟩
   ·obtain ⟨g1,g2,g3,g4⟩:=nz_facts hg0
    by_cases hk0:k=0
    ·subst hk0
     go_enter Tryz.func299,Tryz.ntmps299
     go_wp2
     go_ret
     exact ⟨by rw [← HR.out];simp,(Below.refl _ w).alloc (Nat.le_refl _) _⟩
    ·obtain ⟨k1,k2,k3,k4⟩:=nz_facts hk0
     by_cases hk7:k≤127
     ·have k5:decide ((k:Int)≤127)=true:=decide_eq_true (by omega)
      go_enter Tryz.func299,Tryz.ntmps299
      go_wp2
      go_ret
      exact ⟨by rw [← HR.out];simp [g4,k4,hk7],(Below.refl _ w).alloc (Nat.le_refl _) _⟩
     ·have k5:decide ((k:Int)≤127)=false:=decide_eq_false (by omega)
      go_enter Tryz.func299,Tryz.ntmps299
      go_wp2
      go_ret
      exact ⟨by rw [← HR.out];simp [hk7],(Below.refl _ w).alloc (Nat.le_refl _) _⟩
  ·have s2:((s:Int) == 177)=false:=by rw [beq_eq_false_iff_ne];omega
   by_cases h3:s=178
   ·subst h3
    by_cases hg0:g=65535
    ·subst hg0
     by_cases hk0:k=0
     ·subst hk0
      go_enter Tryz.func299,Tryz.ntmps299
      go_wp2
      go_ret
      exact ⟨by rw [← HR.out];simp,(Below.refl _ w).alloc (Nat.le_refl _) _⟩
     ·obtain ⟨k1,k2,k3,k4⟩:=nz_facts hk0
      go_enter Tryz.func299,Tryz.ntmps299
      go_wp2
      go_ret
      exact ⟨by rw [← HR.out];simp [k3],(Below.refl _ w).alloc (Nat.le_refl _) _⟩
    ·have g1:((g:Int) == 65535)=false:=by rw [beq_eq_false_iff_ne];omega
     go_enter Tryz.func299,Tryz.ntmps299
     go_wp2
     go_ret
     exact ⟨by rw [← HR.out];simp [hg0],(Below.refl _ w).alloc (Nat.le_refl _) _⟩
   ·have s3:((s:Int) == 178)=false:=by rw [beq_eq_false_iff_ne];omega
    go_enter Tryz.func299,Tryz.ntmps299
    go_wp2
    go_ret
    exact ⟨by rw [← HR.out];simp [h1,h2,h3],(Below.refl _ w).alloc (Nat.le_refl _) _⟩
theorem chClass_any (a:DA) (ln c o g:Nat) (w:World):Calls Tryz.prog 208 #[chV a ln c o g] w fun e w'=>e = .returned (.int .i64 (c:Int))∧Below w.heap.size w w':=by
 have HB:=hid ((Below.refl _ w).alloc (Nat.le_refl _) (.cells #[memV a, .int .i64 (ln:Int), .int .i64 (c:Int), .int .i64 (o:Int), .int .u16 (g:Int)] 306))
 have hq:=eqMem (some ⟨a.th 0,0,none⟩)
 unfold chV
 unfold memV at *
 go_enter Tryz.func208,Tryz.ntmps208
 go_wp2
 go_ret
 exact ⟨rfl,HB.out⟩
theorem chBlocks_any (a:DA) (ln c o g:Nat) (hc:c < 5) (w:World) (hp:Pay w):Calls Tryz.prog 353 #[chV a ln c o g] w fun e w'=>e = .returned (.int .i64 (perC c:Int))∧Below w.heap.size w w':=by
 have hba:Below w.heap.size w (w.alloc (.cells #[memV a, .int .i64 (ln:Int), .int .i64 (c:Int), .int .i64 (o:Int), .int .u16 (g:Int)] 306)):=(Below.refl _ w).alloc (Nat.le_refl _) _
 have HB:=hid hba
 have HC:=hid (chClass_any a ln c o g (w.alloc (.cells #[memV a, .int .i64 (ln:Int), .int .i64 (c:Int), .int .i64 (o:Int), .int .u16 (g:Int)] 306)))
 have HP:Hid (∀ W,Below w.heap.size w W→Calls Tryz.prog 207 #[.int .i64 (c:Int)] W fun e w'=>e = .returned (.int .i64 (perC c:Int))∧W=w'):=hid (fun W hW=>perChunk_any c hc W (hp.below hW))
 clear hba hp
 unfold chV at *
 unfold memV at *
 go_enter Tryz.func353,Tryz.ntmps353
 go_wp2_with fail
 refine HC.out.mono ?_
 rintro e w1 ⟨rfl,hb1⟩
 have HB1:=hid (HB.out.trans (hb1.mono HB.out.size))
 have HP1:=hid (HP.out w1 HB1.out)
 clear hb1 HC HP HB
 go_wp2_with fail
 refine HP1.out.mono ?_
 rintro e w2 ⟨rfl,rfl⟩
 go_wp2
 go_ret
 exact ⟨rfl,HB1.out⟩
theorem chHas_any (a:DA) (ln c o g i:Nat) (hc:c < 5) (w:World) (hp:Pay w):Calls Tryz.prog 298 #[chV a ln c o g, .int .i64 (i:Int)] w fun e w'=>e = .returned (.bool (decide (i < perC c)))∧Below w.heap.size w w':=by
 have hba:Below w.heap.size w (w.alloc (.cells #[memV a, .int .i64 (ln:Int), .int .i64 (c:Int), .int .i64 (o:Int), .int .u16 (g:Int)] 306)):=(Below.refl _ w).alloc (Nat.le_refl _) _
 have HB:=hid hba
 have HC:=hid (chBlocks_any a ln c o g hc _ (hp.below hba))
 have d1:decide ((i:Int) < (perC c:Int))=decide (i < perC c):=by
  by_cases h:i < perC c
  ·rw [decide_eq_true h,decide_eq_true (by omega)]
  ·rw [decide_eq_false h,decide_eq_false (by omega)]
 have h0:(0:Int)≤(i:Int):=by omega
 clear hba hp
 unfold chV at *
 unfold memV at *
 generalize perC c=r at *
 go_enter Tryz.func298,Tryz.ntmps298
 go_wp2_with fail
 refine HC.out.mono ?_
 rintro e w1 ⟨rfl,hb1⟩
 have HB1:=hid (HB.out.trans (hb1.mono HB.out.size))
 clear hb1 HC HB
 go_wp2
 go_ret
 exact ⟨by first | rfl | (simp) ,HB1.out⟩
end
end
section
open Go.RowKit Go.Maps
structure CX where
 w0:World
 a:DA
 x:SA
 gw:Nat
 cs:Array Value
section
variable {c:CX} {w w':World} {S:Fp} {lk:Bool} {last:Option Addr} {cur:Nat→Nat} {T:Nat}
end
structure TX where
 words:Nat
 inner:Nat
 own:Nat
 freed:Nat
 held:Nat
 cover:Nat
 outside:Bool
 surplus:Bool
 open_ : Bool
 mode:Nat
 marks:Value
 ids:Nat
 tail:Value
section
variable {c:CX} {g:Nat} {w w':World} {S:Fp} {t:TX} {D:DataW Unit} {n:Nat} {cur:Nat→Nat} {T:Nat}
end
end
section
open Go.RowKit
def SX (t:TypeId) (w wr:World) (g n:Nat) (ys:List Nat) (sz:Nat):Prop:=∃ cs,Blk wr g t cs∧cs.size=sz∧RowU cs ys∧ys.length=n∧Chg (fun k=>k=g) w wr
section
variable {t:TypeId} {w wr:World} {g n sz:Nat} {ys:List Nat}
theorem SX.len (h:SX t w wr g n ys sz):ys.length=n:=by obtain ⟨cs,h1,h2,h3,h4,h5⟩:=h;exact h4
theorem SX.lt (h:SX t w wr g n ys sz):g < wr.heap.size:=by obtain ⟨cs,h1,h2,h3,h4,h5⟩:=h;exact h1.lt
theorem SX.drewN (h:SX t w wr g n ys sz) (k:Nat):SX t w (wr.drewN k) g n ys sz:=by
 obtain ⟨cs,h1,h2,h3,h4,h5⟩:=h
 exact ⟨cs,h1,h2,h3,h4,h5.drewN k⟩
theorem SX.drew (h:SX t w wr g n ys sz):SX t w wr.drew g n ys sz:=by
 obtain ⟨cs,h1,h2,h3,h4,h5⟩:=h
 exact ⟨cs,h1,h2,h3,h4,h5.drew⟩
theorem SX.at_ (h:SX t w wr g n ys sz) {i:Nat} (hi:i < n):∃ x:Nat,wr.cell? ⟨g,i,none⟩=some (.int .u64 (x:Int))∧wr.frozen? ⟨g,i,none⟩=false∧Hid (x=gv ys i):=by
 obtain ⟨cs,h1,h2,h3,h4,h5⟩:=h
 have hyl:i < ys.length:=by omega
 exact ⟨ys[i],by rw [h1.cell];exact h3.2 _ hyl,h1.frozen i,hid (gv_lt hyl).symm⟩
theorem SX.swap (h:SX t w wr g n ys sz) {i j x y:Nat} (hi:i < n) (hj:j < n) (_:wr.cell? ⟨g,i,none⟩=some (.int .u64 (x:Int))) (_:wr.cell? ⟨g,j,none⟩=some (.int .u64 (y:Int))) (ex:x=gv ys i) (ey:y=gv ys j) :
  SX t w ((wr.setCell ⟨g,i,none⟩ (.int .u64 (y:Int))).setCell ⟨g,j,none⟩ (.int .u64 (x:Int))) g n (sw ys i j) sz:=by
 obtain ⟨cs,h1,h2,h3,h4,h5⟩:=h
 have i1:i < ys.length:=by omega
 have j1:j < ys.length:=by omega
 subst ex;subst ey
 exact ⟨_,(h1.set_ i _).set_ j _,by simpa using h2,(h3.set i _ i1).set j _ (by rw [List.length_set];exact j1),by rw [sw_len];exact h4,(h5.setCell (p:=⟨g,i,none⟩) (.inl rfl) _).setCell (p:=⟨g,j,none⟩) (.inl rfl) _⟩
theorem SX.mid (h:SX t w wr g n ys sz) {i j:Nat} (hj:j < n) (u:Value):∃ v,(wr.setCell ⟨g,i,none⟩ u).cell? ⟨g,j,none⟩=some v:=by
 obtain ⟨cs,h1,h2,h3,h4,h5⟩:=h
 have j1:j < ys.length:=by omega
 have h:=(h1.set_ i u).cell j
 have hs:j < (cs.setIfInBounds i u).size:=by have:=h3.1;simp;omega
 exact ⟨_,h.trans (Array.getElem?_eq_getElem hs)⟩
theorem SX.self (h:SX t w wr g n ys sz):SX t wr wr g n ys sz:=by
 obtain ⟨cs,h1,h2,h3,h4,h5⟩:=h
 exact ⟨cs,h1,h2,h3,h4,Chg.refl _ _⟩
theorem SX.trans {w':World} {zs:List Nat} (h:SX t w wr g n ys sz) (k:SX t wr w' g n zs sz):SX t w w' g n zs sz:=by
 obtain ⟨_,_,_,_,_,h5⟩:=h
 obtain ⟨cs,h1,h2,h3,h4,k5⟩:=k
 exact ⟨cs,h1,h2,h3,h4,h5.trans k5 (Grew.refl _ _)⟩
theorem SX.other (h:SX t w wr g n ys sz) {s:Nat} (hs:w.heap.size≤s) (hg:s≠g) (u:Value):SX t w (wr.setCell ⟨s,0,none⟩ u) g n ys sz:=by
 obtain ⟨cs,h1,h2,h3,h4,h5⟩:=h
 have hc:Chg (fun j=>j=s) wr (wr.setCell ⟨s,0,none⟩ u):=(Chg.refl (fun j=>j=s) wr).setCell (p:=⟨s,0,none⟩) (.inl rfl) u
 exact ⟨cs,hc.blk h1 (fun e=>hg e.symm),h2,h3,h4,h5.setCell (p:=⟨s,0,none⟩) (.inr hs) u⟩
theorem SX.alloc (h:SX t w w g n ys sz) (o:Obj):SX t w (w.alloc o) g n ys sz:=by
 obtain ⟨cs,h1,h2,h3,h4,h5⟩:=h
 exact ⟨cs,h1.alloc _,h2,h3,h4,h5.below ((Below.refl _ w).alloc (Nat.le_refl _) _)⟩
end
def SY (t:TypeId) (w wr:World) (g n sz a b:Nat) (ys0:List Nat) (P:List Nat→Prop):Prop:=∃ ys,SX t w wr g n ys sz∧PI a b ys0 ys∧P ys
def RetX (t:TypeId) (w:World) (g n sz a b:Nat) (ys0:List Nat) (P:List Nat→Prop) (e:Ending) (w':World):Prop:=e = .returned (.tuple #[])∧SY t w w' g n sz a b ys0 P
theorem Srt.mono {a k b:Nat} {ys:List Nat} (h:Srt a k ys) (hb:b≤k):Srt a b ys:=fun p q h1 h2 h3=>h p q h1 h2 (by omega)
def LtL (a k:Nat) (ys:List Nat):Prop:=∀ i,a < i→i < k→gv ys i < gv ys a
def GeR (a q b:Nat) (ys:List Nat):Prop:=∀ i,q < i→i < b→gv ys a≤gv ys i
def LeL (a k:Nat) (ys:List Nat):Prop:=∀ i,a≤i→i < k→gv ys i≤gv ys a
def GtR (a q b:Nat) (ys:List Nat):Prop:=∀ i,q < i→i < b→gv ys a < gv ys i
theorem LeL.one (a:Nat) (ys:List Nat):LeL a (a+1) ys:=by
 intro i h1 h2
 obtain rfl:i=a:=by omega
 exact Nat.le_refl _
theorem LtL.snoc {a k:Nat} {ys:List Nat} (h:LtL a k ys) (hk:gv ys k < gv ys a):LtL a (k+1) ys:=by
 intro i h1 h2
 by_cases e:i=k
 ·subst e;exact hk
 ·exact h i h1 (by omega)
theorem LeL.snoc {a k:Nat} {ys:List Nat} (h:LeL a k ys) (hk:gv ys k≤gv ys a):LeL a (k+1) ys:=by
 intro i h1 h2
 by_cases e:i=k
 ·subst e;exact hk
 ·exact h i h1 (by omega)
theorem GeR.cons {a q b:Nat} {ys:List Nat} (h:GeR a q b ys) (hk:gv ys a≤gv ys q):GeR a (q - 1) b ys:=by
 intro i h1 h2
 by_cases e:i=q
 ·subst e;exact hk
 ·exact h i (by omega) h2
theorem GtR.cons {a q b:Nat} {ys:List Nat} (h:GtR a q b ys) (hk:gv ys a < gv ys q):GtR a (q - 1) b ys:=by
 intro i h1 h2
 by_cases e:i=q
 ·subst e;exact hk
 ·exact h i (by omega) h2
theorem part_end {a k q b:Nat} {ys:List Nat} (h1:LtL a k ys) (h2:GeR a q b ys) (ha:a≤q) (hq:q < k) (hk:k≤b) (hl:b≤ys.length):Parted a b q (sw ys q a):=by
 have i1:q < ys.length:=by omega
 have j1:a < ys.length:=by omega
 constructor
 ·intro i e1 e2
  rw [gv_sw_i i1 j1]
  by_cases e:i=a
  ·subst e;rw [gv_sw_j i1 j1];exact h1 q e2 hq
  ·rw [gv_sw_o i1 j1 (by omega) e];exact h1 i (by omega) (by omega)
 ·intro i e1 e2
  rw [gv_sw_i i1 j1,gv_sw_o i1 j1 (by omega) (by omega)];exact h2 i e1 e2
theorem part_step {a k q b:Nat} {ys:List Nat} (h1:LtL a k ys) (h2:GeR a q b ys) (ha:a < k) (hq:k≤q) (k1:gv ys a≤gv ys k) (k2:gv ys q < gv ys a) (hb:q < b) (hl:b≤ys.length):LtL a (k+1) (sw ys k q)∧GeR a (q - 1) b (sw ys k q):=by
 have i1:k < ys.length:=by omega
 have j1:q < ys.length:=by omega
 have ne:k≠q:=fun e=>by subst e;omega
 constructor
 ·intro i e1 e2
  rw [gv_sw_o (k:=a) i1 j1 (by omega) (by omega)]
  by_cases e:i=k
  ·subst e;rw [gv_sw_i i1 j1];exact k2
  ·rw [gv_sw_o i1 j1 e (by omega)];exact h1 i e1 (by omega)
 ·intro i e1 e2
  rw [gv_sw_o (k:=a) i1 j1 (by omega) (by omega)]
  by_cases e:i=q
  ·subst e;rw [gv_sw_j i1 j1];exact k1
  ·rw [gv_sw_o i1 j1 (by omega) e];exact h2 i (by omega) e2
theorem pe_end {a k q b:Nat} {ys:List Nat} (h1:LeL a k ys) (h2:GtR a q b ys) (hq:q < k):PartE a b k ys:=⟨h1,fun i e1 e2=>h2 i (by omega) e2⟩
theorem pe_step {a k q b:Nat} {ys:List Nat} (h1:LeL a k ys) (h2:GtR a q b ys) (ha:a < k) (hq:k≤q) (k1:gv ys a < gv ys k) (k2:gv ys q≤gv ys a) (hb:q < b) (hl:b≤ys.length):LeL a (k+1) (sw ys k q)∧GtR a (q - 1) b (sw ys k q)∧gv (sw ys k q) a=gv ys a:=by
 have i1:k < ys.length:=by omega
 have j1:q < ys.length:=by omega
 have ne:k≠q:=fun e=>by subst e;omega
 have ea:gv (sw ys k q) a=gv ys a:=gv_sw_o (k:=a) i1 j1 (by omega) (by omega)
 refine ⟨?_,?_,ea⟩
 ·intro i e1 e2
  rw [ea]
  by_cases e:i=k
  ·subst e;rw [gv_sw_i i1 j1];exact k2
  ·rw [gv_sw_o i1 j1 e (by omega)];exact h1 i e1 (by omega)
 ·intro i e1 e2
  rw [ea]
  by_cases e:i=q
  ·subst e;rw [gv_sw_j i1 j1];exact k1
  ·rw [gv_sw_o i1 j1 (by omega) e];exact h2 i (by omega) e2
end
end Go.Proofs.YtfkjjoglnmeciaaGreatDoor
