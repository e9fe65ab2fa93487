/- The walks and laws that the claim leans on. -/
import Derived.Test.YtnlokpakiambaaaGreatDoorHa
import Derived.Test.YtnlokpakiambaaaGreatDoorProg
import Derived.WalkSpells
import Derived.WalkLawsBesides
import Derived.Deep.AppendLies
import Derived.Deep.OwnRows
import Derived.Lib.Hide
import Derived.StillTail
import Derived.Deep.RegionHeld3
import Derived.Deep.CutBlock
import Derived.Lib.ItoaNum
import Derived.Lib.AppendZeros
import Derived.Lib.BufferMore
import Derived.Lib.Zigzag
import Derived.Shelf.SlMaps.Clone
import Derived.Shelf.SlIter.Sorted
import Derived.Lib.QuoteBits
import Derived.Lib.SlKeysI
import Derived.Deep.Onto
import Derived.Laws.CopyOwn
import Derived.Lib.ConvBytes
import Derived.Lib.BytesEntry
import Derived.Lib.SlBytesConst
import Derived.Shelf.SlSortCmp.NoneTotal
set_option maxRecDepth 100000
set_option maxHeartbeats 16000000
namespace Go.Proofs.YtnlokpakiambaaaGreatDoor
open Go.Lib (hid)
section
open Go.RowKit Go.Maps
def RgF (B:Nat) (a:DA) (x:HA) (y:WA) (q gr T N:Nat) (w:World):Prop:=∃ cs f m S cur,BW a 149 T 3 x y cs f N m B S cur w∧chkR 53 3 cs q 8=12∧q < 18446744073709551616∧Blk w gr 153 #[.int .u64 (q:Int)]
section
variable {B G:Nat} {bs:List Nat} {a:DA} {x:HA} {y:WA} {q gr T N st:Nat} {l:List (List Nat × Nat)} {w w':World}
theorem RgX.linked (h:RgX B bs a x y q gr T N st l w):Calls Tryz.prog 13 #[.pointer (some ⟨y.g,0,none⟩), .int .i64 0] w fun e w'=>e = .returned (.int .u64 (q:Int))∧w'=w.drew:=by
 obtain ⟨cs,f,m,S,cur,h1,_⟩:=h
 have h2:=linked_any h1.bw 0 (by decide)
 rw [show 416+0=416 from rfl,h1.link] at h2
 exact h2
theorem RgX.lt64 (h:RgX B bs a x y q gr T N st l w):q < 18446744073709551616∧pAt q 0=pOff q∧∀ j:Nat,j < 60→pAt q j=pOff q+8 * j:=by
 obtain ⟨cs,f,m,S,cur,h1,_⟩:=h
 have hne:=(h1.pay (by decide)).ne
 refine ⟨h1.lo.2,?_,fun j hj=>?_⟩
 ·unfold pAt
  rw [if_neg (by omega)]
  omega
 ·unfold pAt
  rw [if_neg (by omega)]
theorem RgX.chk_open (h:RgX B bs a x y q gr T N st l w) (z:Nat) (hz:z < 18446744073709551616):∃ ck:Nat,(∀ W,Below w.heap.size w W→Calls Tryz.prog 30 #[.pointer (some ⟨y.d,0,none⟩), .int .u64 (z:Int), .int .u8 8] W fun e w'=>e = .returned (.int .i64 (ck:Int))∧Below W.heap.size W w')∧∀ W,Below w.heap.size w W→ck≠0→Calls Tryz.prog 46 #[.iface 43 (.pointer (some ⟨y.d,0,none⟩)), .int .u64 (z:Int)] W fun e w'=>e = .returned (.tuple #[.pointer none, .int .i64 (ck:Int)])∧Below W.heap.size W w':=by
 obtain ⟨cs,f,m,S,cur,h1,_⟩:=h
 refine ⟨chkR 53 3 cs z 8,fun W hW=>checkD (h1.bw.sd.below hW) z 8 hz (by decide),fun W hW hc=>?_⟩
 refine (snOpen_any (h1.bw.sd.below hW) z hz).mono (fun e w' h=>?_)
 obtain ⟨h2,h3⟩:=h
 rw [if_neg hc] at h2
 exact ⟨h2,h3⟩
theorem RgX.words (h:RgX B bs a x y q gr T N st l w):Calls Tryz.prog 44 #[.pointer (some ⟨x.h,0,none⟩), .int .u64 (q:Int)] w fun e w'=>e = .returned (.tuple #[.int .i64 60, .int .i64 0])∧Below w.heap.size w w':=by
 obtain ⟨cs,f,m,S,cur,h1,_⟩:=h
 obtain ⟨k,i,h6,h7⟩:=h1.live
 have h8:=hWords_any h1.bw.sd.ds h6.at_.1 h6.at_.2.1 h6.at_.2.2.1 q h6.at_.2.2.2 h6.nz h6.lt (.inr (Live.chk ⟨k,i,h6⟩).2)
 rw [h7] at h8
 exact h8
theorem RgX.cells (h:RgX B bs a x y q gr T N st l w):w.cell? ⟨y.g,0,none⟩=some (.pointer (some ⟨a.d,0,none⟩))∧w.cell? ⟨y.g,1,none⟩=some (.pointer (some ⟨a.th 0,0,none⟩))∧w.cell? ⟨y.g,2,none⟩=some (.pointer (some ⟨x.h,0,none⟩))∧w.cell? ⟨y.g,3,none⟩=some (.pointer (some ⟨y.d,0,none⟩)):=by
 obtain ⟨cs,f,m,S,cur,h1,_⟩:=h
 exact ⟨h1.bw.blk.cell 0,h1.bw.blk.cell 1,h1.bw.blk.cell 2,h1.bw.blk.cell 3⟩
theorem RgX.free (h:RgX B bs a x y q gr T N st l w) {g:Nat} (hg:Blk w g 27 #[.int .u64 (q:Int)]) (hT:T+800≤1000000000) (hN:N≤1000000000) :
  Calls Tryz.prog 39 #[.pointer (some ⟨y.d,0,none⟩), .slice none 0 0, .slice none 0 0, .slice (some ⟨g,0,none⟩) 1 1] w fun e w'=>e = .returned (.int .i64 0)∧RgF B a x y q gr (T+800) N w'∧Below B w w':=by
 obtain ⟨cs,f,m,S,cur,h1,h2,h3,h4,h5⟩:=h
 obtain ⟨k,i,h6,h7⟩:=h1.live
 have h0:=publishD h1.bw.sd h1.bw.few none none (some ⟨g,0,none⟩) 0 0 0 0 1 1 [] [] [q] ⟨rfl,fun h=>absurd h (Nat.lt_irrefl 0)⟩ (fun _=>⟨rfl,rfl⟩) ⟨rfl,fun h=>absurd h (Nat.lt_irrefl 0)⟩ (one_ptr hg) (fun ad h=>by cases h) (fun z hz=>absurd hz (by simp)) (fun z hz=>by rw [List.mem_singleton.1 hz];exact h6.freeOk) (by simp) ⟨fun e he=>absurd he (by simp),fun e he=>absurd he (by simp),fun e he=>absurd he (by simp),by simp⟩ (by simp) hT (by omega)
 refine h0.mono (fun e w' h0=>?_)
 obtain ⟨ks,V,cm,S',he,hA,hks,hcm,h96,hsd,hch,hgr⟩:=h0
 have hcur:rdG 0 cur (([]:List (Nat × Nat))++ks.flatMap (acW 53 cs (tlOf 53 cs []) (dlOf 53 cs [q]) V)) cm (8 * 26)=0:=by
  refine (pub_rest h1.bw.sd.ds (by omega) hA h96 (.inr (by omega)) (fun e he=>absurd he (by simp)) (fun k hk e he heq=>?_)).trans h1.bw.uid
  obtain ⟨_,h2,_,h4,_⟩:=hA.at_ hk he
  have:=hdrAt_ge h2
  omega
 have hb:Below B w w':=hch.toBelow h4 (fun i hi=>sfp_old h1.bw.sd hi)
 exact ⟨he,⟨_,_,_,S',_,h1.bw.keep hsd hch hgr hcur,pub_freed hks h6 (List.mem_singleton.2 rfl),h6.lt,hch.blk h2 h3⟩,hb⟩
theorem RgF.below (h:RgF B a x y q gr T N w) (hb:Below w.heap.size w w'):RgF B a x y q gr T N w':=by
 obtain ⟨cs,f,m,S,cur,h1,h2,h3,h4⟩:=h
 exact ⟨cs,f,m,S,cur,h1.below hb,h2,h3,h4.below hb h4.lt⟩
theorem RgF.rd (h:RgF B a x y q gr T N w):RdC (.pointer (some ⟨gr,0,none⟩)) (.iface 43 (.pointer (some ⟨y.d,0,none⟩))) w (none,12):=by
 obtain ⟨cs,f,m,S,cur,h1,h2,h3,h4⟩:=h
 have h5:=rgRead_any h1.sd gr q h4 h3 (fun hc=>by rw [h2] at hc;cases hc)
 have e:rgR cur (fun p=>chkR 53 3 cs p 8) q=(none,12):=by
  unfold rgR
  rw [if_pos (by show chkR 53 3 cs q 8≠0;rw [h2];decide)]
 rw [e] at h5
 exact h5
theorem RgF.cells (h:RgF B a x y q gr T N w):w.cell? ⟨y.g,0,none⟩=some (.pointer (some ⟨a.d,0,none⟩))∧w.cell? ⟨y.g,1,none⟩=some (.pointer (some ⟨a.th 0,0,none⟩))∧w.cell? ⟨y.g,3,none⟩=some (.pointer (some ⟨y.d,0,none⟩)):=by
 obtain ⟨cs,f,m,S,cur,h1,_⟩:=h
 exact ⟨h1.blk.cell 0,h1.blk.cell 1,h1.blk.cell 3⟩
structure PwA (B:Nat) (a:DA) (y:WA) (w:World):Prop where
 f0:w.cell? ⟨a.th 0,0,none⟩=some (.pointer (some ⟨a.d,0,none⟩))
 f2:w.cell? ⟨a.th 0,2,none⟩=some (.int .i64 0)
 z2:w.frozen? ⟨a.th 0,2,none⟩=false
 c11:w.cell? ⟨a.d,11,none⟩=some (.bool false)
 z11:w.frozen? ⟨a.d,11,none⟩=false
 c12:w.cell? ⟨a.d,12,none⟩=some (.bool true)
 c13:w.cell? ⟨a.d,13,none⟩=some (.int .i64 0)
 ne:a.d≠a.th 0
 d1:w.cell? ⟨y.d,1,none⟩=some (.pointer (some ⟨a.th 0,0,none⟩))
 g1:w.cell? ⟨y.g,1,none⟩=some (.pointer (some ⟨a.th 0,0,none⟩))
 g3:w.cell? ⟨y.g,3,none⟩=some (.pointer (some ⟨y.d,0,none⟩))
 nd:y.d≠a.d∧y.d≠a.th 0∧y.g≠a.d∧y.g≠a.th 0
 le:B≤a.d∧B≤a.th 0∧B≤w.heap.size
structure PwO (a:DA) (y:WA) (w:World):Prop where
 f0:w.cell? ⟨a.th 0,0,none⟩=some (.pointer (some ⟨a.d,0,none⟩))
 f2:w.cell? ⟨a.th 0,2,none⟩=some (.int .i64 3)
 d1:w.cell? ⟨y.d,1,none⟩=some (.pointer (some ⟨a.th 0,0,none⟩))
 g3:w.cell? ⟨y.g,3,none⟩=some (.pointer (some ⟨y.d,0,none⟩))
 lt:a.th 0 < w.heap.size∧y.d < w.heap.size∧y.g < w.heap.size
theorem RgF.arm (h:RgF B a x y q gr T N w) (hB:B≤w.heap.size):Calls Tryz.prog 48 #[.pointer (some ⟨a.d,0,none⟩), .int .i64 0] w fun e w'=>e = .returned (.tuple #[])∧PwA B a y w'∧Below B w w':=by
 obtain ⟨cs,f,m,S,cur,h1,h2,h3,h4⟩:=h
 obtain ⟨s,exe,per,cs',ls,hd,_⟩:=h1.sd.ds.dev
 have ht:=hd.thr 0 (by decide)
 have n1:a.d≠a.th 0:=hd.dev.ne_ ht (by decide)
 have n2:y.d≠a.d:=h1.sd.dir.ne_ hd.dev (by decide)
 have n3:y.d≠a.th 0:=h1.sd.dir.ne_ ht (by decide)
 have n4:y.g≠a.d:=h1.blk.ne_ hd.dev (by decide)
 have n5:y.g≠a.th 0:=h1.blk.ne_ ht (by decide)
 have l1:=sfp_old h1.sd (.inl hd.sd)
 have l2:=sfp_old h1.sd (.inl (hd.st 0 (by decide)))
 refine (arm0_any hd.dev).mono ?_
 rintro e w' ⟨rfl,rfl⟩
 have hb:Below B w ((w.setCell ⟨a.d,12,none⟩ (.bool true)).setCell ⟨a.d,13,none⟩ (.int .i64 0)):=((Below.refl _ _).setCell l1 _).setCell l1 _
 have hk:Blk ((w.setCell ⟨a.d,12,none⟩ (.bool true)).setCell ⟨a.d,13,none⟩ (.int .i64 0)) a.d 194 (((devCells a 149 exe).setIfInBounds 12 (.bool true)).setIfInBounds 13 (.int .i64 0)):=(hd.dev.set_ 12 _).set_ 13 _
 have ht2:Blk ((w.setCell ⟨a.d,12,none⟩ (.bool true)).setCell ⟨a.d,13,none⟩ (.int .i64 0)) (a.th 0) 133 #[.pointer (some ⟨a.d,0,none⟩), .int .i64 (0:Nat), .int .i64 0, .map (some (a.nt 0))]:=(ht.far n1.symm _).far n1.symm _
 have hy:=(h1.sd.dir.far (p:=⟨a.d,12,none⟩) n2 (.bool true)).far (p:=⟨a.d,13,none⟩) n2 (.int .i64 0)
 have hg:=(h1.blk.far (p:=⟨a.d,12,none⟩) n4 (.bool true)).far (p:=⟨a.d,13,none⟩) n4 (.int .i64 0)
 exact ⟨rfl,⟨ht2.cell 0,ht2.cell 2,ht2.frozen 2,hk.cell 11,hk.frozen 11,hk.cell 12,hk.cell 13,n1,hy.cell 1,hg.cell 1,hg.cell 3,⟨n2,n3,n4,n5⟩,l1,l2,Nat.le_trans hB hb.size⟩,hb⟩
theorem lt_of_cell {w:World} {g i:Nat} {v:Value} (h:w.cell? ⟨g,i,none⟩=some v):g < w.heap.size:=World.block_lt_of_cell? _ _ h
theorem PwA.fence (h:PwA B a y w):Calls Tryz.prog 49 #[.pointer (some ⟨a.th 0,0,none⟩)] w fun e w'=>e = .returned (.tuple #[])∧PwO a y w'∧Below B w w':=by
 refine (fence0_any h.f0 h.f2 h.z2 h.c11 h.z11 h.c12 h.c13 h.ne).mono ?_
 rintro e w' ⟨rfl,rfl⟩
 obtain ⟨n2,n3,n4,n5⟩:=h.nd
 have hb:Below B w ((w.setCell ⟨a.d,11,none⟩ (.bool true)).setCell ⟨a.th 0,2,none⟩ (.int .i64 3)):=((Below.refl _ _).setCell h.le.1 _).setCell h.le.2.1 _
 have hc:∀ g i,g≠a.d→g≠a.th 0→((w.setCell ⟨a.d,11,none⟩ (.bool true)).setCell ⟨a.th 0,2,none⟩ (.int .i64 3)).cell? ⟨g,i,none⟩=w.cell? ⟨g,i,none⟩:=fun g i e1 e2=>by
  rw [World.cell?_setCell_other _ _ _ _ (fun e=>by injection e with e;exact e2 e.symm),World.cell?_setCell_other _ _ _ _ (fun e=>by injection e with e;exact e1 e.symm)]
 refine ⟨rfl,⟨?_,?_,(hc _ _ n2 n3).trans h.d1,(hc _ _ n4 n5).trans h.g3,?_⟩,hb⟩
 ·rw [World.cell?_setCell_other _ _ _ _ (fun e=>by injection e with _ e;cases e),World.cell?_setCell_other _ _ _ _ (fun e=>by injection e with e;exact h.ne e)]
  exact h.f0
 ·have h1:(w.setCell ⟨a.d,11,none⟩ (.bool true)).cell? ⟨a.th 0,2,none⟩=some (.int .i64 0):=by
   rw [World.cell?_setCell_other _ _ _ _ (fun e=>by injection e with e;exact h.ne e)]
   exact h.f2
  exact World.cell?_setCell_same _ _ _ h1
 ·have hs:=hb.size
  exact ⟨Nat.lt_of_lt_of_le (lt_of_cell h.f0) hs,Nat.lt_of_lt_of_le (lt_of_cell h.d1) hs,Nat.lt_of_lt_of_le (lt_of_cell h.g3) hs⟩
theorem PwO.below (h:PwO a y w) (hb:Below w.heap.size w w'):PwO a y w':=by
 obtain ⟨l1,l2,l3⟩:=h.lt
 exact ⟨(hb.cell (p:=⟨a.th 0,0,none⟩) l1).trans h.f0,(hb.cell (p:=⟨a.th 0,2,none⟩) l1).trans h.f2,(hb.cell (p:=⟨y.d,1,none⟩) l2).trans h.d1,(hb.cell (p:=⟨y.g,3,none⟩) l3).trans h.g3,Nat.lt_of_lt_of_le l1 hb.size,Nat.lt_of_lt_of_le l2 hb.size,Nat.lt_of_lt_of_le l3 hb.size⟩
theorem PwO.rd (h:PwO a y w):RdC (.pointer (some ⟨gr,0,none⟩)) (.iface 43 (.pointer (some ⟨y.d,0,none⟩))) w (none,3):=rdOff h.d1 h.f0 h.f2
end
end
section
open Go.RowKit Go.Maps
theorem refName_any (s:ByteArray) (hs:s.size≤9223372036854775807) (w:World):Calls Tryz.prog 50 #[.string s] w fun e w'=>e = .returned (.bool (nmOk s))∧w=w':=by
 obtain ⟨V,hV⟩:∃ V,V=nmOk s:=⟨_,rfl⟩
 rw [← hV]
 have HV:=hid hV
 clear hV
 by_cases h1:s.size < 1
 ·have HV2:Hid (V=false):=hid (by rw [HV.out,nmOk,decide_eq_false (by omega),Bool.false_and,Bool.and_false])
  have h1i:(s.size:Int) < 1:=by omega
  go_enter Tryz.func50,Tryz.ntmps50
  go_wp2
  go_ret
  exact ⟨by rw [HV2.out];rfl,rfl⟩
 by_cases h2:16 < s.size
 ·have HV2:Hid (V=false):=hid (by rw [HV.out,nmOk,decide_eq_false (show ¬ s.size≤16 by omega),Bool.and_false,Bool.and_false])
  have h1i:¬ (s.size:Int) < 1:=by omega
  have h2i:16 < (s.size:Int):=by omega
  go_enter Tryz.func50,Tryz.ntmps50
  go_wp2
  go_ret
  exact ⟨by rw [HV2.out];rfl,rfl⟩
 have HV1:Hid (V=nmGo 0 s.data.toList):=hid (by rw [HV.out,nmOk,decide_eq_true (show 1≤s.size by omega),decide_eq_true (show s.size≤16 by omega),Bool.and_true,Bool.and_true])
 have HN0:Hid (V=nmGo 0 (s.data.toList.drop 0)):=hid HV1.out
 have h1i:¬ (s.size:Int) < 1:=by omega
 have h2i:¬ 16 < (s.size:Int):=by omega
 clear HV HV1
 go_enter Tryz.func50,Tryz.ntmps50
 go_wp2_with fail
 go_loopw [3] (fun i wr=>∃ k:Nat,k≤s.size∧i = .int .i64 (k:Int)∧Hid (V=nmGo k (s.data.toList.drop k))∧Hid (w=wr)) (fun i _=>s.size - (Go.RowKit.intOf i).toNat)
 case atStart=>exact ⟨0,Nat.zero_le _,rfl,HN0,hid rfl⟩
 case round =>
  clear HN0
  obtain ⟨k,hk,rfl,HN,HW⟩:=hrel
  by_cases hlt:k < s.size
  ·have HS:Hid (V=((letU s[k] || (decide (k≠0) && digU s[k])) && nmGo (k+1) (s.data.toList.drop (k+1)))):=hid (by rw [HN.out,drop_snocU s k hlt];rfl)
   obtain ⟨c,hc⟩:∃ c,(s[k]'hlt).toNat=c:=⟨_,rfl⟩
   obtain ⟨b1,hb1⟩:∃ b,letU s[k]=b:=⟨_,rfl⟩
   obtain ⟨b2,hb2⟩:∃ b,digU s[k]=b:=⟨_,rfl⟩
   have HB1:Hid (decide ((65≤(c:Int)∧(c:Int)≤90)∨(97≤(c:Int)∧(c:Int)≤122))=b1):=hid (by rw [← hb1,← hc];rfl)
   have HB2:Hid ((decide ((c:Int)=95) || decide (48≤(c:Int)∧(c:Int)≤57))=b2):=hid (by rw [← hb2,← hc];rfl)
   rw [hb1,hb2] at HS
   clear hb1 hb2 HN
   have hz1:(k:Int) < (s.size:Int):=by omega
   go_upto_region 6 with fail
   go_cut [4] from 20 to 41 (fun v wx=>v = .bool b1∧Hid (wr=wx))
   case first =>
    have h:=HB1.out
    clear HB1 HB2 HS
    by_cases h97:97≤(c:Int) <;> by_cases h122:(c:Int)≤122 <;> by_cases h65:65≤(c:Int) <;> by_cases h90:(c:Int)≤90 <;> first
     | (exfalso;omega)
     | (
       first | rw [decide_eq_true (by omega)] at h | rw [decide_eq_false (by omega)] at h
       subst h
       go_wp2_with fail
       go_meet
       exact ⟨rfl,hid rfl⟩)
   case rest =>
   obtain ⟨rfl,hwx⟩:=hcut
   have hwx2:=hwx.out
   subst hwx2
   clear hwx HB1
   go_upto_region 7 with fail
   go_cut [5] from 42 to 57 (fun v wx=>v = .bool b2∧Hid (wr=wx))
   case first =>
    have h:=HB2.out
    clear HB2 HS
    by_cases h48:48≤(c:Int) <;> by_cases h57:(c:Int)≤57 <;> by_cases h95:(c:Int)=95 <;> first
     | (exfalso;omega)
     | (
       first | rw [decide_eq_true h95] at h | rw [decide_eq_false h95] at h
       first | rw [decide_eq_true (show (48:Int)≤c∧(c:Int)≤57 from ⟨h48,h57⟩)] at h | rw [decide_eq_false (show ¬ ((48:Int)≤c∧(c:Int)≤57) by omega)] at h
       have h':=h.symm
       subst h'
       have e95:((c:Int) == 95)=decide ((c:Int)=95):=rfl
       go_wp2_with fail
       go_meet
       exact ⟨rfl,hid rfl⟩)
   case rest =>
   obtain ⟨rfl,hwx⟩:=hcut
   have hwx2:=hwx.out
   subst hwx2
   clear hwx HB2
   obtain ⟨b0,hb0⟩:∃ b,((k:Int) == 0)=b:=⟨_,rfl⟩
   have HK0:Hid (b0=decide (k=0)):=hid (by
    rw [← hb0]
    by_cases hk0:k=0
    ·subst hk0;rfl
    ·rw [decide_eq_false hk0,beq_eq_false_iff_ne]
     omega)
   have HS2:Hid (V=((b1 || (!b0 && b2)) && nmGo (k+1) (s.data.toList.drop (k+1)))):=hid (by
    rw [HS.out,HK0.out]
    by_cases hk0:k=0
    ·rw [decide_eq_true hk0,decide_eq_false (fun h=>h hk0)];rfl
    ·rw [decide_eq_false hk0,decide_eq_true hk0];rfl)
   clear HS HK0 hc
   cases b1 <;> cases b0 <;> cases b2
   all_goals first
    | (
      have HV2:Hid (V=false):=hid (by rw [HS2.out];rfl)
      clear HS2
      go_wp2
      go_ret
      exact ⟨by rw [HV2.out];rfl,HW.out⟩)
    | (
      have HV2:Hid (V=nmGo (k+1) (s.data.toList.drop (k+1))):=hid (by rw [HS2.out];rfl)
      clear HS2
      go_wp2
      go_roundw
      case rel =>
       first
        | exact ⟨k+1,by omega,by go_num,HV2,HW⟩
        | (
         repeat apply Exists.intro
         refine ⟨?_,rfl⟩
         exact ⟨k+1,by omega,by go_num,HV2,HW⟩)
      case measure=>simp [Go.RowKit.intOf];omega)
  ·obtain rfl:k=s.size:=by omega
   have HV2:Hid (V=true):=hid (by rw [HN.out,List.drop_of_length_le (by simp)];rfl)
   clear HN hlt hk
   go_wp2
   go_ret
   exact ⟨by rw [HV2.out];rfl,HW.out⟩
end
end Go.Proofs.YtnlokpakiambaaaGreatDoor
