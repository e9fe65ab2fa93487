/- The walks and laws that the claim leans on, part 49. -/
import Derived.Test.YtfkjjoglnmeciaaGreatDoorJbv
set_option maxRecDepth 100000
set_option maxHeartbeats 16000000
namespace Go.Proofs.YtfkjjoglnmeciaaGreatDoor
open Go.Lib (hid)
section
open Go.RowKit Go.Maps
theorem blJ_start {w0 w:World} {a:DA} {T:Nat} {x:HA} {y:WA} {b0:Nat} {S:Fp} {cur:Nat→Nat} (l:List BL) (h:BW a 437 T 12 x y (fun _=>csN) (fun _=>none) 0 0 b0 S cur w) (hT:T≤1000) (hold:∀ g,sfp S x g→w0.heap.size≤g) (hb:Below w0.heap.size w0 w) :
  BlJ w0 w.heap.size a x y b0 l 0 ⟨T,0,S,fun _=>csN,fun _=>none,cur,[],[],[]⟩ (.slice none 0 0) (.slice none 0 0) [] [] w:=by
 refine ⟨h,by show T≤_;omega,Nat.le_refl _,Cap.new (fun _ _=>rfl),Nat.le_refl _,rfl,rfl,fun i p q bl hi=>absurd hi (by omega),fun q=>?_,List.nodup_nil,World.ownsRow_nil _ _ _ _,World.ownsRow_nil _ _ _ _,fun g hg=>?_,fun g hg=>?_,fun g hg=>?_,⟨h.sd.lo,h.blk.lt,h.und.lt,h.mgr.lt⟩,hold,⟨hb.size,Nat.le_refl _⟩,hb⟩
 ·constructor
  ·rintro ⟨kd,k,i,hl⟩
   exact absurd hl.at_.2.1 (by simp [csN])
  ·intro hq
   simp at hq
 ·simp [Value.ownBlock] at hg
 ·simp [Value.ownBlock] at hg
 ·simp [Value.ownBlock] at hg
theorem bls_map:∀ l:List BL,l.flatMap BL.cells=l.map fun x=>Value.slice x.A x.n x.c
 | []=>rfl
 | a :: t=>by rw [List.flatMap_cons,bls_map t];rfl
theorem bls_at {w:World} {A:Option Addr} {n c k:Nat} {l:List BL} (h:BlsIn w A n c l) (hk:k < n):∃ e gb go,l[k]?=some e∧A=some ⟨gb,go,none⟩∧gb < w.heap.size∧e.In w∧(∀ W,Below w.heap.size w W→W.cell? ⟨gb,go+k,none⟩=some (.slice e.A e.n e.c)):=by
 have hl:l.length=n:=by
  have:=h.r.1
  rw [bls_map,List.length_map] at this
  omega
 obtain ⟨gb,go,hA,hb,hc⟩:=h.r.plain (by omega) (by omega)
 have hkl:k < l.length:=by omega
 refine ⟨l[k],gb,go,List.getElem?_eq_getElem hkl,hA,hb,h.el _ (List.getElem_mem hkl),fun W hW=>?_⟩
 have e:(l.flatMap BL.cells)[k]?=some (.slice l[k].A l[k].n l[k].c):=by
  rw [bls_map]
  simp [hkl]
 exact (hW.cell (p:=⟨gb,go+k,none⟩) hb).trans (hc k _ e)
theorem BlJ.chg_ {w0 w w':World} {B b0:Nat} {a:DA} {x:HA} {y:WA} {l:List BL} {k:Nat} {z:BZ} {P6 P7:Value} {p6 p7:List Nat} (h:BlJ w0 B a x y b0 l k z P6 P7 p6 p7 w) {Z:Fp} (hc:Chg Z w w') (hZ:∀ j,Z j→¬ sfp z.S x j∧B≤j∧P6.ownBlock≠some j∧P7.ownBlock≠some j):BlJ w0 B a x y b0 l k z P6 P7 p6 p7 w' :=
 { h with bw:=h.bw.chg h.ord hc (fun j hj=>⟨fun e=>(hZ j hj).1 (.inl e),(hZ j hj).2.1⟩),r6:=own_chg h.r6 hc (fun g hg e=>(hZ g e).2.2.1 hg),r7:=own_chg h.r7 hc (fun g hg e=>(hZ g e).2.2.2 hg),hB:=⟨h.hB.1,Nat.le_trans h.hB.2 hc.size⟩,below:=h.below.trans (hc.toBelow h.below.size (fun j hj=>by have:=(hZ j hj).2.1;have:=h.hB.1;omega)) }
theorem live_len {w0 w:World} {B b0:Nat} {a:DA} {x:HA} {y:WA} {l:List BL} {k:Nat} {z:BZ} {P6 P7:Value} {p6 p7:List Nat} (h:BlJ w0 B a x y b0 l k z P6 P7 p6 p7 w):(lvK 53 z.cs 12).length=z.bls.flatten.length :=
 (perm_of_mem (nodup_of_off (lvK_nodup h.bw.sd.ds)) (nodup_of_off h.nd) (fun q=>(alive_iff h.bw.sd.ds).trans (h.ali q))).length_eq
theorem live_eq {w0 w:World} {B b0:Nat} {a:DA} {x:HA} {y:WA} {l:List BL} {k:Nat} {z:BZ} {P6 P7:Value} {p6 p7:List Nat} (h:BlJ w0 B a x y b0 l k z P6 P7 p6 p7 w) {l1 l2:List Nat} (h1:l1.Perm z.bls.flatten) (h2:l2.Perm (lvK 53 z.cs 12)) (s1:Srt 0 z.bls.flatten.length l1) (s2:Srt 0 (lvK 53 z.cs 12).length l2):l2=l1∧(lvK 53 z.cs 12).length=z.bls.flatten.length:=by
 have hp:(lvK 53 z.cs 12).Perm z.bls.flatten:=perm_of_mem (nodup_of_off (lvK_nodup h.bw.sd.ds)) (nodup_of_off h.nd) (fun q=>(alive_iff h.bw.sd.ds).trans (h.ali q))
 have hl:=hp.length_eq
 refine ⟨srt_eq (n:=z.bls.flatten.length) h1.length_eq s1 (hl ▸ s2) (h2.trans (hp.trans h1.symm)),hl⟩
theorem flat_len {l:List (List Nat)} (h:∀ t∈l,t.length≤5):l.flatten.length≤5 * l.length:=by
 induction l with
 | nil=>simp
 | cons a t ih =>
  have h1:=h a (by simp)
  have h2:=ih (fun u hu=>h u (by simp [hu]))
  simp only [List.flatten_cons,List.length_append,List.length_cons]
  omega
theorem flat_five {w0 w:World} {B b0:Nat} {a:DA} {x:HA} {y:WA} {l:List BL} {k:Nat} {z:BZ} {P6 P7:Value} {p6 p7:List Nat} (h:BlJ w0 B a x y b0 l k z P6 P7 p6 p7 w) (hl:k≤l.length):z.bls.flatten.length≤5 * k:=by
 have h1:=flat_len (l:=z.bls) (fun t ht=>by
  obtain ⟨i,hi,e⟩:=List.getElem_of_mem ht
  have hik:i < k:=by rw [← h.bll];exact hi
  have hip:i < z.ptrs.length:=by rw [h.ptl];exact hik
  have hil:i < l.length:=by omega
  rcases h.el i (l[i]).l z.ptrs[i] t hik (by simp [hil]) (List.getElem?_eq_getElem hip) (by rw [← e];exact List.getElem?_eq_getElem hi) with ⟨_,_,h3⟩ | ⟨h2,_,h3,_⟩
  ·rw [h3];simp
  ·rw [h3];exact nBlk_few _ h2)
 rw [h.bll] at h1
 exact h1
theorem blobReads_law (A:Option Addr) (n c:Nat) (l:List BL) (A2:Option Addr) (n2 c2:Nat) (w:World) (hin:BlsIn w A n c l) (ht:Tab w) (hpy:Pay w) :
  Calls Tryz.prog 5 #[.slice A n c, .slice A2 n2 c2] w fun e w'=>e = .returned (.bool true)∧Below w.heap.size w w':=by
 have HAw:=hid (awakeB_any w ht hpy)
 have HIn:=hid hin
 have HT:=hid ht
 have HPy:=hid hpy
 obtain ⟨k5,hk5⟩:∃ k5,min n 5=k5:=⟨_,rfl⟩
 have hle:=hin.le
 have m1:min (n:Int) 5=(k5:Int):=by omega
 have m2:(k5:Int)≤(c:Int):=by omega
 have m3:(0:Int)≤(k5:Int):=by omega
 have m4:(if (5:Int) < (n:Int) then (5:Int) else (n:Int))=(k5:Int):=by split <;> omega
 have HK:=hid (show k5≤5∧k5≤n from ⟨by omega,by omega⟩)
 clear hin ht hpy hk5 hle
 go_enter Tryz.func5,Tryz.ntmps5
 go_wp2_with (go_at_call 19;refine HAw.out.mono ?_;rintro e w1 ⟨rfl,hb1⟩;refine stop ?_)
 unfold Stop
 have HB1:=hid hb1
 have HBg:=hid (beginB_any 12 (by omega) (by omega) w1 (HT.out.below hb1) (HPy.out.below hb1))
 rw [show ((12:Nat):Int)=12 from rfl] at HBg
 clear hb1 HAw
 go_wp2_with (go_at_call 20;refine HBg.out.mono ?_;rintro e w2 ⟨a,T,x,y,S,rfl,hbw,hT,hb⟩;refine stop ?_)
 unfold Stop
 have HB2:=hid (HB1.out.trans (hb.mono HB1.out.size))
 have hold:∀ k,sfp S x k→w.heap.size≤k:=fun k hk=>by
  obtain ⟨_,_,_,_,l5,l6,l7,l8⟩:=hbw.sd.ds.lo
  refine Nat.le_trans HB1.out.size ?_
  rcases hk with h | h
  ·exact l8 k h
  ·rcases h with h | h | h
   ·rw [h];exact l5
   ·rw [h];exact l6
   ·rw [h];exact l7
 have HJ:=hid (blJ_start l hbw (by omega) hold HB2.out)
 clear hbw hT hb hold HBg HB1 HT HPy HB2
 go_wp2_with fail
 go_loopw [6,7,36] (fun v6 v7 i wr=>∃ k:Nat,k≤k5∧i = .int .i64 (k:Int)∧Hid (∃ z,BlJ w w2.heap.size a x y w1.heap.size l k z v6 v7 z.ptrs z.bls.flatten wr)) (fun _ _ i _=>k5 - (Go.RowKit.intOf i).toNat)
 case atStart=>exact ⟨0,Nat.zero_le _,rfl,hid ⟨_,HJ.out⟩⟩
 case round =>
  clear HJ
  obtain ⟨k,hk,rfl,HJe⟩:=hrel
  by_cases hlt:k < k5
  ·obtain ⟨z,HJ⟩:∃ z,Hid (BlJ w w2.heap.size a x y w1.heap.size l k z u6 u7 z.ptrs z.bls.flatten wr):=by
    obtain ⟨z,h⟩:=HJe.out
    exact ⟨z,hid h⟩
   clear HJe
   obtain ⟨e,gb,go,hel,hA,hgb,hIn,hcell⟩:=bls_at HIn.out (k:=k) (by have:=HK.out;omega)
   subst hA
   have f0:=hcell wr HJ.out.below
   have g3:wr.cell? ⟨y.g,3,none⟩=some (.pointer (some ⟨y.d,0,none⟩)):=HJ.out.bw.blk.cell 3
   have HEl:=hid hel
   have HIe:=hid hIn
   have hen:e.l.length=e.n:=by have:=hIn.r.1;simp [u8s] at this;omega
   have HEn:=hid hen
   have hz5:(0:Int)≤(k:Int):=by omega
   have hz6:(k:Int) < (k5:Int):=by omega
   obtain ⟨eA,en,ec,el⟩:=e
   dsimp only at f0 HEn
   clear hel hIn hcell hen
   by_cases hlong:2000 < en
   ·have e1:decide ((2000:Int) < (en:Int))=true:=decide_eq_true (by omega)
    have HLg:=hid (write_long y.d eA en ec hlong wr)
    go_wp2_with (first
     | (go_at_call 21;refine HLg.out.mono ?_;rintro e0 w3 ⟨rfl,hb3⟩;have HJ3:=hid (HJ.out.below_ hb3);clear hb3;refine stop ?_))
    unfold Stop
    obtain ⟨i0,hi0,hz0,hz1,hz2⟩:=info_parts infoPtr
    have hba:Below w3.heap.size w3 (w3.alloc (.cells #[.int .u64 0] 54)):=(Below.refl _ _).alloc (Nat.le_refl _) _
    have HJ4:=hid (HJ3.out.below_ hba)
    have HRl:=hid (lit_cells w3 #[.int .u64 ((0:Nat):Int)] 54 [0] rfl)
    have hpl:z.ptrs.length=k:=HJ3.out.ptl
    have HAr:Hid (k+1≤maxLen∧(k+1) * 8≤140737488355328∧w2.heap.size≤(w3.alloc (.cells #[.int .u64 0] 54)).heap.size):=hid ⟨by have:=HK.out;unfold maxLen;omega,by have:=HK.out;omega,HJ4.out.hB.2⟩
    have HO6:Hid ((w3.alloc (.cells #[.int .u64 0] 54)).ownsRow w2.heap.size 54 1 u6 k (uCells z.ptrs)):=hid (hpl ▸ HJ4.out.r6)
    clear hba hpl
    go_wp2_with (first
     | (go_at_call 22;refine (nil_any 0 _).mono ?_;rintro e0 w4 ⟨rfl,rfl⟩)
     | (at_builtin;refine wpList_app3 _ (.tmp 67) (.tmp 68) 40 rfl rfl w2.heap.size 54 i0 _ 1 8 Tryz.underlying40 hi0 hz0 hz1 hz2 rfl Nat.one_pos u6 k (uCells z.ptrs) rfl HO6.out _ (some ⟨w3.heap.size,0,none⟩) 1 1 (uCells [0]) rfl HRl.out (uCells_one _) HAr.out.1 HAr.out.2.1 HAr.out.2.2 ?_;intro A5 n5 c5 w5 hn5 ho5 hg5 hv5;refine stop ?_))
    unfold Stop
    subst hn5
    have HJ5:Hid (BlJ w w2.heap.size a x y w1.heap.size l (k+1) { z with ptrs:=z.ptrs++[0],bls:=z.bls++[[]] } (.slice A5 (k+1) c5) u7 (z.ptrs++[0]) z.bls.flatten w5):=hid (by
     have e1:k+1=(z.ptrs++[0]).length:=by simp [HJ4.out.ptl]
     have h1:=HJ4.out.row6 (chg_grown hg5) (P6' := .slice A5 (k+1) c5) (p6':=z.ptrs++[0]) (by rw [← e1];simpa [uCells] using ho5) (by
      rcases hv5 with h | h
      ·exact .inl h
      ·refine .inr (fun g hg=>?_)
       rw [h] at hg
       injection hg with hg
       omega)
     exact h1.long HEl.out (by have:=HEn.out;show 2000 < el.length;omega))
    have HF:Hid (({ z with ptrs:=z.ptrs++[0],bls:=z.bls++[[]] }:BZ).bls.flatten=z.bls.flatten):=hid (by simp)
    clear ho5 hg5 hv5 HJ4 HRl HAr HO6 HJ3 HLg
    go_wp2_with fail
    go_roundw
    case rel =>
     have HE:Hid (∃ z',BlJ w w2.heap.size a x y w1.heap.size l (k+1) z' (.slice A5 (k+1) c5) u7 z'.ptrs z'.bls.flatten w5):=hid ⟨_,by rw [HF.out];exact HJ5.out⟩
     exact ⟨k+1,by omega,by go_num,HE⟩
    case measure=>simp [Go.RowKit.intOf];omega
   ·have e1:decide ((2000:Int) < (en:Int))=false:=decide_eq_false (by omega)
    have HPt:=hid (putK_any HJ.out.bw z.al HJ.out.cap k (by have:=HK.out;omega) eA en ec el ((HIe.out.r.below HJ.out.below).more HJ.out.below.size) (fun h0 ad h hs=>by
     have h1:=HJ.out.hold _ hs
     obtain ⟨ad',hA',hb',_⟩:=HIe.out.r.2 h0
     rw [h] at hA'
     injection hA' with hA'
     subst hA'
     omega) HIe.out.b (by omega) HIe.out.le HIe.out.cap (by
      have h1:=room_leq (alW en z.al (nBlk en))
      rw [alW_leng] at h1
      have h2:=HJ.out.few
      have h3:=nBlk_few en (by omega)
      have h4:=HK.out
      omega) (by have:=HJ.out.nm;have:=HK.out;omega) (by have:=HJ.out.tm;have:=HK.out;omega))
    go_wp2_with (go_at_call 23;refine HPt.out.mono ?_;intro e0 w3 h3;obtain ⟨q,A',m',c',rfl,hall⟩:=ret_putK h3;clear h3;refine stop ?_)
    unfold Stop
    obtain ⟨z',bl,hq,hm,hbl,hrd,hmc,hzp,hzb,hJ3,had,hch⟩:=HJ.out.put HEl.out (by have:=HEn.out;show el.length≤2000;omega) (by have:=HK.out;omega) hall.out
    have HJ3:=hid hJ3
    have HZ:=hid (show z'.ptrs=z.ptrs++[q]∧z'.bls.flatten=z.bls.flatten++bl from ⟨hzp,by rw [hzb];simp⟩)
    have HRb:=hid (hid (show Calls Tryz.prog 24 #[.int .i64 (en:Int)] w3 _ from refBlocks_any en (by omega) w3)).out
    have d1:((m':Int) != (nBlk en:Int))=false:=by
     have h:m'=nBlk en:=by rw [hm,hbl];show nBlk el.length=_;rw [show el.length=en from HEn.out]
     rw [h,bne,beq_self_eq_true]
     rfl
    have HRd:=hid hrd
    have HAd:=hid (fun ad h=>(had ad h).1:∀ ad,A'=some ad→wr.heap.size≤ad.block)
    have HM:=hid (show m'=bl.length∧bl.length≤5 from ⟨hm,by rw [hbl];exact nBlk_few _ (by have:=HEn.out;show el.length≤2000;omega)⟩)
    clear hq hm hbl hrd hmc hzp hzb hJ3 had hch hall HPt
    go_wp2_with (first
     | (go_at_call 24;refine HRb.out.mono ?_;rintro e0 w4 ⟨rfl,rfl⟩;refine stop ?_))
    unfold Stop
    clear HRb
    obtain ⟨i0,hi0,hz0,hz1,hz2⟩:=info_parts infoPtr
    have hba:Below w3.heap.size w3 (w3.alloc (.cells #[.int .u64 (q:Int)] 54)):=(Below.refl _ _).alloc (Nat.le_refl _) _
    have HJ4:=hid (HJ3.out.below_ hba)
    have HRl:=hid (lit_cells w3 #[.int .u64 (q:Int)] 54 [q] rfl)
    have hpl:z.ptrs.length=k:=HJ.out.ptl
    have HAr:Hid (k+1≤maxLen∧(k+1) * 8≤140737488355328∧w2.heap.size≤(w3.alloc (.cells #[.int .u64 (q:Int)] 54)).heap.size):=hid ⟨by have:=HK.out;unfold maxLen;omega,by have:=HK.out;omega,HJ4.out.hB.2⟩
    have HO6:Hid ((w3.alloc (.cells #[.int .u64 (q:Int)] 54)).ownsRow w2.heap.size 54 1 u6 k (uCells z.ptrs)):=hid (hpl ▸ HJ4.out.r6)
    have HRd4:=hid ((HRd.out.below hba).more hba.size)
    have HAb:Hid (∀ ad,A'=some ad→some ad.block≠u6.ownBlock):=hid (fun ad h e=>by
     have h1:=(own_in HJ.out.r6 e.symm).2
     have h2:=HAd.out ad h
     omega)
    clear hba hpl HRd HAd
    go_wp2_with (first
     | (at_builtin;refine wpList_app3 _ (.tmp 83) (.tmp 85) 40 rfl rfl w2.heap.size 54 i0 _ 1 8 Tryz.underlying40 hi0 hz0 hz1 hz2 rfl Nat.one_pos u6 k (uCells z.ptrs) rfl HO6.out _ (some ⟨w3.heap.size,0,none⟩) 1 1 (uCells [q]) rfl HRl.out (uCells_one _) HAr.out.1 HAr.out.2.1 HAr.out.2.2 ?_;intro A5 n5 c5 w5 hn5 ho5 hg5 hv5;refine stop ?_))
    unfold Stop
    subst hn5
    have HJ5:Hid (BlJ w w2.heap.size a x y w1.heap.size l (k+1) z' (.slice A5 (k+1) c5) u7 z'.ptrs z.bls.flatten w5):=hid (by
     have e1:k+1=(z.ptrs++[q]).length:=by simp [HJ.out.ptl]
     have h1:=HJ4.out.row6 (chg_grown hg5) (P6' := .slice A5 (k+1) c5) (p6':=z.ptrs++[q]) (by rw [← e1];simpa [uCells] using ho5) (by
      rcases hv5 with h | h
      ·exact .inl h
      ·refine .inr (fun g hg=>?_)
       rw [h] at hg
       injection hg with hg
       omega)
     rw [HZ.out.1]
     exact h1)
    have HRd5:=hid (chg_reads3 (chg_grown hg5) HRd4.out (fun _ ad had hz=>HAb.out ad had hz))
    clear ho5 hg5 hv5 HJ4 HRl HAr HO6 HJ3 HRd4 HAb HJ
    obtain ⟨fl,HFl⟩:∃ fl,Hid (z.bls.flatten.length=fl):=⟨_,hid rfl⟩
    have HLe:Hid (fl≤1000):=hid (by
     have h1:=(List.getElem?_eq_some_iff.1 HEl.out).1
     have h2:=flat_five HJ5.out (by omega)
     rw [HZ.out.2,List.length_append,HFl.out] at h2
     have h3:=HK.out.1
     omega)
    have HAr:Hid (fl+m'≤maxLen∧(fl+m') * 8≤140737488355328∧w2.heap.size≤w5.heap.size):=hid ⟨by have h1:=HLe.out;have h2:=HM.out;unfold maxLen;omega,by have h1:=HLe.out;have h2:=HM.out;omega,HJ5.out.hB.2⟩
    have HO7:Hid (w5.ownsRow w2.heap.size 54 1 u7 fl (uCells z.bls.flatten)):=hid (HFl.out ▸ HJ5.out.r7)
    go_wp2_with (first
     | (at_builtin;refine wpList_app3 _ (.tmp 87) (.tmp 88) 40 rfl rfl w2.heap.size 54 i0 _ 1 8 Tryz.underlying40 hi0 hz0 hz1 hz2 rfl Nat.one_pos u7 fl (uCells z.bls.flatten) rfl HO7.out _ A' m' c' (uCells bl) rfl HRd5.out (uCells_one _) HAr.out.1 HAr.out.2.1 HAr.out.2.2 ?_;intro A6 n6 c6 w6 hn6 ho6 hg6 hv6;refine stop ?_))
    unfold Stop
    subst hn6
    have HJ6:Hid (∃ z',BlJ w w2.heap.size a x y w1.heap.size l (k+1) z' (.slice A5 (k+1) c5) (.slice A6 (fl+m') c6) z'.ptrs z'.bls.flatten w6):=hid (by
     have e1:fl+m'=(z.bls.flatten++bl).length:=by rw [List.length_append,HM.out.1,HFl.out]
     have h1:=HJ5.out.row7 (chg_grown hg6) (P7' := .slice A6 (fl+m') c6) (p7':=z.bls.flatten++bl) (by rw [← e1];simpa [uCells] using ho6) (by
      rcases hv6 with h | h
      ·exact .inl h
      ·refine .inr (fun g hg=>?_)
       rw [h] at hg
       injection hg with hg
       omega)
     rw [← HZ.out.2] at h1
     exact ⟨_,h1⟩)
    clear ho6 hg6 hv6 HJ5 HAr HO7 HLe HM HZ HRd5
    go_wp2_with fail
    go_roundw
    case rel=>exact ⟨k+1,by omega,by go_num,HJ6⟩
    case measure=>simp [Go.RowKit.intOf];omega
  ·obtain rfl:k=k5:=by omega
   obtain ⟨z,HJ⟩:∃ z,Hid (BlJ w w2.heap.size a x y w1.heap.size l k z u6 u7 z.ptrs z.bls.flatten wr):=by
    obtain ⟨z,h⟩:=HJe.out
    exact ⟨z,hid h⟩
   clear HJe
   have hl5:k≤l.length:=by
    by_cases h0:k=0
    ·omega
    ·obtain ⟨e,gb,go,h1,_⟩:=bls_at HIn.out (k:=k - 1) (by have:=HK.out;omega)
     have:=(List.getElem?_eq_some_iff.1 h1).1
     omega
   have hfl:=flat_five HJ.out hl5
   obtain ⟨fl,HFl⟩:∃ fl,Hid (z.bls.flatten.length=fl∧fl≤25):=⟨_,hid ⟨rfl,by have:=HK.out;omega⟩⟩
   have r6:=HJ.out.r6
   have r7:=HJ.out.r7
   rw [HJ.out.ptl] at r6
   rw [HFl.out.1] at r7
   obtain ⟨A6,c6,rfl⟩:=own_slice r6
   obtain ⟨A7,c7,rfl⟩:=own_slice r7
   clear r6 r7
   have HLv:=hid (worldLive_any HJ.out.bw.sd.ds (Nat.le_refl _) y.g (HJ.out.bw.blk.cell 2) HJ.out.bw.blk.lt)
   clear hfl hl5
   go_wp2_with (go_at_call 25;refine HLv.out.mono ?_;rintro e0 w3 ⟨v,rfl,ho,hb3⟩;refine stop ?_)
   unfold Stop
   obtain ⟨ll,HLl⟩:∃ ll,Hid ((lvK 53 z.cs 12).length=ll):=⟨_,hid rfl⟩
   rw [HLl.out] at ho
   obtain ⟨Av,cv,rfl⟩:=own_slice ho
   have HJ3:=hid (HJ.out.below_ hb3)
   have HOv:=hid ho
   have HSo:=hid (sortP_own w2.heap.size (.slice A7 fl c7) fl z.bls.flatten w3 (by have:=HJ3.out.r7;rwa [HFl.out.1] at this) (by rw [HFl.out.1];have:=HFl.out.2;omega))
   have HLe:Hid (∀ g,(Value.slice Av ll cv).ownBlock=some g→wr.heap.size≤g):=hid (fun g hg=>(own_in ho hg).1)
   have HSz:=hid hb3.size
   clear ho hb3 HLv
   go_wp2_with (go_at_call 26;refine HSo.out.mono ?_;rintro e0 w4 ⟨rfl,l7,hp7,hs7,ho7,hc7⟩;refine stop ?_)
   unfold Stop
   have hl7:l7.length=fl:=hp7.length_eq.trans HFl.out.1
   have HJ4:=hid (HJ3.out.row7 hc7 (P7' := .slice A7 fl c7) (p7':=l7) (by rw [hl7];exact ho7) (.inl rfl))
   have HO4:=hid (own_chg HOv.out hc7 (fun g hg e=>by
    have h1:=(own_in HJ.out.r7 e.symm).2
    have h2:=HLe.out g hg
    omega))
   have hll:ll=fl:=HLl.out.symm.trans ((live_len HJ4.out).trans HFl.out.1)
   subst hll
   have HP7:=hid (And.intro hp7 hs7)
   have HL7:=hid hl7
   have HSo2:=hid (sortP_own wr.heap.size (.slice Av ll cv) ll (lvK 53 z.cs 12) w4 HO4.out (by rw [HLl.out];have:=HFl.out.2;omega))
   have HS4:=hid hc7.size
   clear hp7 hs7 ho7 hc7 hl7 HSo HJ3 HOv
   go_wp2_with (go_at_call 26;refine HSo2.out.mono ?_;rintro e0 w5 ⟨rfl,l8,hp8,hs8,ho8,hc8⟩;refine stop ?_)
   unfold Stop
   have hz8:∀ j,some j=(Value.slice Av ll cv).ownBlock→wr.heap.size≤j:=fun j hj=>HLe.out j hj.symm
   have HJ5:=hid (HJ4.out.chg_ hc8 (fun j hj=>⟨fun e=>by have h1:=sfp_lt HJ.out.bw.sd e;have h2:=hz8 j hj;omega,Nat.le_trans HJ.out.hB.2 (hz8 j hj),fun e=>by have h1:=(own_in HJ.out.r6 e).2;have h2:=hz8 j hj;omega,fun e=>by have h1:=(own_in HJ.out.r7 e).2;have h2:=hz8 j hj;omega⟩))
   obtain ⟨h87,_⟩:=live_eq HJ5.out HP7.out.1 hp8 HP7.out.2 hs8
   subst h87
   have HEq:=hid (equP_same A7 Av ll c7 cv l8 w5 ((Reads.of_own (HL7.out ▸ HJ5.out.r7)).more (Nat.le_refl _)) ((Reads.of_own ho8).more (Nat.le_refl _)) (by have:=HFl.out.2;omega))
   clear hp8 hs8 ho8 hc8 hz8 HSo2 HJ4 HO4 HP7
   go_wp2_with (go_at_call 27;refine HEq.out.mono ?_;rintro e0 w6 ⟨rfl,hb6⟩;refine stop ?_)
   unfold Stop
   have HJ6:=hid (HJ5.out.below_ hb6)
   have HRs:=hid (reserved_any HJ6.out.bw.sd.ds)
   rw [show ((0:Nat):Int)=0 from rfl] at HRs
   have HCr:=hid (worldCrash_any HJ6.out.bw w1.heap.size ⟨Nat.le_refl _,by have h1:=HJ6.out.bw.sd.lo.b;have h2:=HJ6.out.hB;omega⟩ A2 n2 c2)
   have g2:w6.cell? ⟨y.g,2,none⟩=some (.pointer (some ⟨x.h,0,none⟩)):=HJ6.out.bw.blk.cell 2
   clear hb6 HEq HJ5 HLe HSz HS4 HL7
   go_wp2_with (first
    | (go_at_call 28;refine HRs.out.mono ?_;rintro e0 w9 ⟨rfl,rfl⟩)
    | (go_at_call 29;refine HCr.out.mono ?_;rintro e0 w7 ⟨a2,S2,x2,y2,rfl,hbw2,hb7⟩;refine stop ?_))
   unfold Stop
   have hba:Below w7.heap.size w7 (w7.alloc (.cells #[.pointer (some ⟨y.g,0,none⟩), .pointer (some ⟨y2.g,0,none⟩)] 52)):=(Below.refl _ _).alloc (Nat.le_refl _) _
   have hby:∀ (i:Nat) (p:List Nat),(l.map BL.l)[i]?=some p→∀ b∈p,b < 256:=fun i p hp b hb=>by
    rw [List.getElem?_map] at hp
    cases he:l[i]? with
    | none=>rw [he] at hp;simp at hp
    | some e =>
     rw [he] at hp
     simp at hp
     subst hp
     exact (HIn.out.el e (List.mem_of_getElem? he)).b b hb
   have HQ1:=hid (blQ_of (HJ6.out.bw.below (hb7.trans (hba.mono hb7.size))) HK.out.1 HJ6.out.el HJ6.out.bll hby)
   have HQ2:=hid (blQ_of (hbw2.below hba) HK.out.1 HJ6.out.el HJ6.out.bll hby)
   have HR6:=hid ((((Reads.of_own (HJ6.out.ptl ▸ HJ6.out.r6)).more (Nat.le_refl w6.heap.size)).below (hb7.trans (hba.mono hb7.size))).more (hb7.trans (hba.mono hb7.size)).size)
   have HW7:=hid (HJ6.out.below.trans ((hb7.trans (hba.mono hb7.size)).mono HJ6.out.below.size))
   have HBk:=hid (Blk.new w7 52 #[.pointer (some ⟨y.g,0,none⟩), .pointer (some ⟨y2.g,0,none⟩)])
   have HPl:=hid HJ6.out.ptl
   clear hbw2 hb7 hba hby HCr HRs g2 HJ6 HJ HFl HLl
   go_wp2_with fail
   generalize hwq:w7.alloc (.cells #[.pointer (some ⟨y.g,0,none⟩), .pointer (some ⟨y2.g,0,none⟩)] 52)=wq at *
   generalize w7.heap.size=gq at *
   clear hwq
   go_loopw [115] (fun i wr=>∃ j:Nat,j≤2∧i = .int .i64 (j:Int)∧Hid (Below wq.heap.size wq wr)) (fun i _=>2 - (Go.RowKit.intOf i).toNat)
   case atStart=>exact ⟨0,by omega,rfl,hid (Below.refl _ _)⟩
   case round =>
    obtain ⟨j,hj,rfl,HVr⟩:=hrel
    by_cases hj2:j < 2
    ·obtain ⟨g,d,HC,HQ⟩:∃ g d,Hid (∀ V,Below wq.heap.size wq V→V.cell? ⟨gq,j,none⟩=some (.pointer (some ⟨g,0,none⟩)))∧Hid (BlQ wq g d l k z.ptrs):=by
      by_cases h0:j=0
      ·subst h0
       exact ⟨_,_,hid (fun V hV=>(HBk.out.below hV HBk.out.lt).cell 0),HQ1⟩
      ·obtain rfl:j=1:=by omega
       exact ⟨_,_,hid (fun V hV=>(HBk.out.below hV HBk.out.lt).cell 1),HQ2⟩
     have f0:=HC.out _ HVr.out
     have hz5:(0:Int)≤(j:Int):=by omega
     have hz6:(j:Int) < 2:=by omega
     clear HQ1 HQ2 HBk HC
     go_wp2_with fail
     go_loopw [123] (fun i wr=>∃ i0:Nat,i0≤k∧i = .int .i64 (i0:Int)∧Hid (Below wq.heap.size wq wr)) (fun i _=>k - (Go.RowKit.intOf i).toNat)
     case atStart=>exact ⟨0,Nat.zero_le _,rfl,HVr⟩
     case round =>
      clear HVr f0
      obtain ⟨i,hi,rfl,HVr⟩:=hrel
      by_cases hik:i < k
      ·obtain ⟨e,gb,go,hel,hA,hgb,hIn,hcell⟩:=bls_at HIn.out (k:=i) (by have:=HK.out;omega)
       subst hA
       have f0:=hcell wr (HW7.out.trans (HVr.out.mono HW7.out.size))
       have hen:e.l.length=e.n:=by have:=hIn.r.1;simp [u8s] at this;omega
       obtain ⟨hx6,g6,o6,hA6,hg6,f6⟩:=u_facts HR6.out (k:=i) hik
       subst hA6
       have hqi:z.ptrs[i]?=some z.ptrs[i]:=List.getElem?_eq_getElem hx6
       obtain ⟨q,hq⟩:∃ q,z.ptrs[i]=q:=⟨_,rfl⟩
       rw [hq] at hqi f6
       have HFa:Hid (∀ V,Below wq.heap.size wq V→V.cell? ⟨g,3,none⟩=some (.pointer (some ⟨d,0,none⟩))∧V.cell? ⟨g6,o6+i,none⟩=some (.int .u64 (q:Int))):=hid (fun V hV=>⟨HQ.out.g3 V hV,(hV.cell (p:=⟨g6,o6+i,none⟩) hg6).trans f6⟩)
       have HQi:=hid hqi
       have HEl:Hid ((l.map BL.l)[i]?=some e.l):=hid (by rw [List.getElem?_map,hel];rfl)
       have HIe:=hid hIn
       have HEn:=hid hen
       have fq6:=(HFa.out _ HVr.out).2
       have hz7:(0:Int)≤(i:Int):=by omega
       have hz8:(i:Int) < (k:Int):=by omega
       obtain ⟨eA,en,ec,el⟩:=e
       dsimp only at f0 HEn HEl
       clear hel hIn hcell hen hqi hq hx6 hg6 f6
       by_cases hq0:q=0
       ·subst hq0
        go_wp2_with (go_at_call 22;refine (nil_any 0 _).mono ?_;rintro e0 w8 ⟨rfl,rfl⟩)
        go_roundw
        case rel=>exact ⟨i+1,by omega,by go_num,HVr⟩
        case measure=>simp [Go.RowKit.intOf];omega
       ·have HNl:Hid (∀ V,Calls Tryz.prog 22 #[.int .u64 (q:Int)] V fun e w'=>e = .returned (.bool false)∧V=w'):=hid (fun V=>by
         have h:=nil_any q V
         rwa [decide_eq_false hq0] at h)
        have HRd:=hid (HQ.out.rd i el q hik HEl.out HQi.out hq0)
        have HBl:=hid (HQ.out.bl i el q hik HEl.out HQi.out hq0)
        have HCk:=hid (HQ.out.ck i el q hik HEl.out HQi.out hq0)
        have HLk:=hid (HQ.out.lk i el q hik HEl.out HQi.out hq0)
        have HSh:Hid (en≤2000):=hid (by have h:=HQ.out.sh i el q hik HEl.out HQi.out hq0;have h2:=HEn.out;omega)
        have d9:((q:Int) != (q:Int))=false:=by rw [bne,beq_self_eq_true];rfl
        clear hq0
        go_upto_region 36 with (go_at_call 22;refine (HNl.out _).mono ?_;rintro e0 w8 ⟨rfl,rfl⟩)
        have HVX:=HVr
        refine wp_region_scriptH (fun V=>Below wr.heap.size wr V) 15 [] [(1,0),(1,1),(1,2),(1,3),(1,4),(1,5),(1,6),(1,7),(1,8),(0,9),(1,10),(1,11),(1,12),(1,13),(1,14)] (by kernel_rfl) (by kernel_rfl) (Below.refl _ _).drew ?_
        refine wpScriptH_take (.pointer (some ⟨g,0,none⟩)) (by rfl) (by rfl) (fun w' hS=>?_) ?_
        ·go_simp
        simp only [zA,zB,Act.put,zD,zE,zF]
        refine wpScriptH_take (.pointer (some ⟨g,0,none⟩)) (by rfl) (by rfl) (fun w' hS=>?_) ?_
        ·go_simp
        simp only [zA,zB,zC,Act.put,zD,zE,zF]
        refine wpScriptH_take (.pointer (some ⟨g,3,none⟩)) (by rfl) (by rfl) (fun w' hS=>?_) ?_
        ·go_simp
        simp only [zA,zB,zC,Act.put,zD,zE,zF]
        refine wpScriptH_take (.pointer (some ⟨d,0,none⟩)) (by rfl) (by rfl) (fun w' hS=>?_) ?_
        ·have s1:=(HFa.out _ (HVX.out.trans (hS.mono HVX.out.size))).1
         go_simp
        simp only [zA,zB,zC,Act.put,zD,zE,zF]
        refine wpScriptH_take (.iface 59 (.pointer (some ⟨d,0,none⟩))) (by rfl) (by rfl) (fun w' hS=>?_) ?_
        ·go_simp
        simp only [zA,zB,zC,Act.put,zD,zE,zF]
        refine wpScriptH_take (.slice (some ⟨g6,o6,none⟩) k c6) (by rfl) (by rfl) (fun w' hS=>?_) ?_
        ·go_simp
        simp only [zA,zB,zC,Act.put,zD,zE,zF]
        refine wpScriptH_take (.int .i64 (i:Int)) (by rfl) (by rfl) (fun w' hS=>?_) ?_
        ·go_simp
        simp only [zA,zB,zC,Act.put,zD,zE,zF]
        refine wpScriptH_take (.pointer (some ⟨g6,o6+i,none⟩)) (by rfl) (by rfl) (fun w' hS=>?_) ?_
        ·go_simp
        simp only [zA,zB,zC,Act.put,zD,zE,zF]
        refine wpScriptH_take (.int .u64 (q:Int)) (by rfl) (by rfl) (fun w' hS=>?_) ?_
        ·have s1:=(HFa.out _ (HVX.out.trans (hS.mono HVX.out.size))).2
         go_simp
        simp only [zA,zB,zC,Act.put,zD,zE,zF]
        refine wpScriptH_do (by rfl) ?_
        go_wp2_with (go_at_call 30;refine (HRd.out _ HVr.out.drew).mono ?_;rintro e0 w8 ⟨A1,mm1,c1,rfl,h1⟩)
        obtain ⟨h11,h12,h13⟩:=h1.out
        have HR1:=hid h12
        have HM1:=hid h11
        have hb8:Below wr.heap.size wr w8:=((Below.refl _ _).drew).trans h13
        have HV8:=hid (HVr.out.trans (hb8.mono HVr.out.size))
        refine ⟨hb8,?_⟩
        clear h1 h11 h12 h13 hb8
        refine wpScriptH_take (.tuple #[.slice A1 mm1 c1, .int .i64 0]) (by rfl) (by rfl) (fun w' hS=>?_) ?_
        ·go_simp
        simp only [zA,zB,zC,Act.put,zD,zE,zF]
        refine wpScriptH_take (.slice A1 mm1 c1) (by rfl) (by rfl) (fun w' hS=>?_) ?_
        ·go_simp
        simp only [zA,zB,zC,Act.put,zD,zE,zF]
        refine wpScriptH_take (.int .i64 0) (by rfl) (by rfl) (fun w' hS=>?_) ?_
        ·go_simp
        simp only [zA,zB,zC,Act.put,zD,zE,zF]
        refine wpScriptH_take (.slice A1 mm1 c1) (by rfl) (by rfl) (fun w' hS=>?_) ?_
        ·go_simp
        simp only [zA,zB,zC,Act.put,zD,zE,zF]
        refine wpScriptH_take (.int .i64 0) (by rfl) (by rfl) (fun w' hS=>?_) ?_
        ·go_simp
        simp only [zA,zB,zC,Act.put,zD,zE,zF]
        show wpList _ _ _ _ _ _
        simp only [List.drop_succ_cons,List.drop_zero]
        refine NoPanic.normal ?_
        clear HRd fq6 f0
        go_upto_region 37 with fail
        refine wp_region_scriptH (fun V=>Below w8.heap.size w8 V) 15 [] [(1,0),(1,1),(1,2),(1,3),(1,4),(1,5),(1,6),(1,7),(1,8),(0,9),(1,10),(1,11),(1,12),(1,13),(1,14)] (by kernel_rfl) (by kernel_rfl) (Below.refl _ _).drew ?_
        refine wpScriptH_take (.pointer (some ⟨g,0,none⟩)) (by rfl) (by rfl) (fun w' hS=>?_) ?_
        ·go_simp
        simp only [zA,zB,Act.put,zD,zE,zF]
        refine wpScriptH_take (.pointer (some ⟨g,0,none⟩)) (by rfl) (by rfl) (fun w' hS=>?_) ?_
        ·go_simp
        simp only [zA,zB,zC,Act.put,zD,zE,zF]
        refine wpScriptH_take (.pointer (some ⟨g,3,none⟩)) (by rfl) (by rfl) (fun w' hS=>?_) ?_
        ·go_simp
        simp only [zA,zB,zC,Act.put,zD,zE,zF]
        refine wpScriptH_take (.pointer (some ⟨d,0,none⟩)) (by rfl) (by rfl) (fun w' hS=>?_) ?_
        ·have s1:=(HFa.out _ (HV8.out.trans (hS.mono HV8.out.size))).1
         go_simp
        simp only [zA,zB,zC,Act.put,zD,zE,zF]
        refine wpScriptH_take (.iface 59 (.pointer (some ⟨d,0,none⟩))) (by rfl) (by rfl) (fun w' hS=>?_) ?_
        ·go_simp
        simp only [zA,zB,zC,Act.put,zD,zE,zF]
        refine wpScriptH_take (.slice (some ⟨g6,o6,none⟩) k c6) (by rfl) (by rfl) (fun w' hS=>?_) ?_
        ·go_simp
        simp only [zA,zB,zC,Act.put,zD,zE,zF]
        refine wpScriptH_take (.int .i64 (i:Int)) (by rfl) (by rfl) (fun w' hS=>?_) ?_
        ·go_simp
        simp only [zA,zB,zC,Act.put,zD,zE,zF]
        refine wpScriptH_take (.pointer (some ⟨g6,o6+i,none⟩)) (by rfl) (by rfl) (fun w' hS=>?_) ?_
        ·go_simp
        simp only [zA,zB,zC,Act.put,zD,zE,zF]
        refine wpScriptH_take (.int .u64 (q:Int)) (by rfl) (by rfl) (fun w' hS=>?_) ?_
        ·have s1:=(HFa.out _ (HV8.out.trans (hS.mono HV8.out.size))).2
         go_simp
        simp only [zA,zB,zC,Act.put,zD,zE,zF]
        refine wpScriptH_do (by rfl) ?_
        go_wp2_with (go_at_call 31;refine (HBl.out _ HV8.out.drew).mono ?_;rintro e0 w9 ⟨g9,o9,mm2,c9,rfl,h1⟩)
        obtain ⟨h11,h12,h13,h14⟩:=h1.out
        have HC9:=hid h13
        have HM9:=hid (And.intro h11 h12)
        have hb9:Below w8.heap.size w8 w9:=((Below.refl _ _).drew).trans h14
        have HB9:=hid hb9
        have HV9:=hid (HV8.out.trans (hb9.mono HV8.out.size))
        refine ⟨hb9,?_⟩
        clear h1 h11 h12 h13 h14 hb9
        refine wpScriptH_take (.tuple #[.slice (some ⟨g9,o9,none⟩) mm2 c9, .int .i64 0]) (by rfl) (by rfl) (fun w' hS=>?_) ?_
        ·go_simp
        simp only [zA,zB,zC,Act.put,zD,zE,zF]
        refine wpScriptH_take (.slice (some ⟨g9,o9,none⟩) mm2 c9) (by rfl) (by rfl) (fun w' hS=>?_) ?_
        ·go_simp
        simp only [zA,zB,zC,Act.put,zD,zE,zF]
        refine wpScriptH_take (.int .i64 0) (by rfl) (by rfl) (fun w' hS=>?_) ?_
        ·go_simp
        simp only [zA,zB,zC,Act.put,zD,zE,zF]
        refine wpScriptH_take (.slice (some ⟨g9,o9,none⟩) mm2 c9) (by rfl) (by rfl) (fun w' hS=>?_) ?_
        ·go_simp
        simp only [zA,zB,zC,Act.put,zD,zE,zF]
        refine wpScriptH_take (.int .i64 0) (by rfl) (by rfl) (fun w' hS=>?_) ?_
        ·go_simp
        simp only [zA,zB,zC,Act.put,zD,zE,zF]
        show wpList _ _ _ _ _ _
        simp only [List.drop_succ_cons,List.drop_zero]
        refine NoPanic.normal ?_
        have HEq:Hid (∀ W,Below w9.heap.size w9 W→Calls Tryz.prog 32 #[.slice A1 mm1 c1, .slice eA en ec] W fun e w'=>e = .returned (.bool true)∧W=w'):=hid (fun W hW=>bytesEq_same A1 eA mm1 c1 en ec _ _ el W ((HR1.out.below HB9.out).below (hW.mono HB9.out.size)) (HIe.out.r.below (HW7.out.trans ((HV9.out.trans (hW.mono HV9.out.size)).mono HW7.out.size))) HIe.out.b)
        have HRb:Hid (∀ W,Calls Tryz.prog 24 #[.int .i64 (en:Int)] W fun e w'=>e = .returned (.int .i64 (nBlk en:Int))∧W=w'):=hid (fun W=>refBlocks_any en HSh.out W)
        have d8:((mm2:Int) != (nBlk en:Int))=false:=by
         have h:mm2=nBlk en:=by rw [HM9.out.1];show nBlk el.length=_;rw [show el.length=en from HEn.out]
         rw [h,bne,beq_self_eq_true]
         rfl
        have hz9:(0:Int) < (mm2:Int):=by have:=HM9.out.2;omega
        clear HBl HR1 HM1 HM9 HB9
        go_upto_region 38 with fail
        refine wp_region_scriptH (fun V=>Below w9.heap.size w9 V) 53 [] [(1,0),(1,1),(1,2),(1,3),(1,4),(1,5),(1,6),(1,7),(1,8),(0,9),(1,10),(1,11),(1,12),(1,13),(1,14),(1,16),(1,17),(1,18),(1,19),(0,15),(1,20),(1,21),(1,22),(1,23),(1,24),(1,25),(1,26),(0,27),(1,28),(1,29),(1,30),(1,31),(1,32),(1,33),(1,34),(1,35),(1,36),(1,37),(1,38),(1,39),(1,40),(1,41),(1,42),(1,43),(1,44),(1,45),(1,46),(1,47),(1,48),(1,49),(0,50),(1,51),(1,52)] (by kernel_rfl) (by kernel_rfl) (Below.refl _ _).drew ?_
        refine wpScriptH_take (.int .i64 0) (by rfl) (by rfl) (fun w' hS=>?_) ?_
        ·go_simp
        simp only [zA,zB,Act.put,zD,zE,zF]
        refine wpScriptH_take (.bool false) (by rfl) (by rfl) (fun w' hS=>?_) ?_
        ·go_simp
        simp only [zA,zB,zC,Act.put,zD,zE,zF]
        refine wpScriptH_take (.bool false) (by rfl) (by rfl) (fun w' hS=>?_) ?_
        ·go_simp
        simp only [zA,zB,zC,Act.put,zD,zE,zF]
        refine wpScriptH_take (.int .i64 0) (by rfl) (by rfl) (fun w' hS=>?_) ?_
        ·go_simp
        simp only [zA,zB,zC,Act.put,zD,zE,zF]
        refine wpScriptH_take (.bool false) (by rfl) (by rfl) (fun w' hS=>?_) ?_
        ·go_simp
        simp only [zA,zB,zC,Act.put,zD,zE,zF]
        refine wpScriptH_take (.bool false) (by rfl) (by rfl) (fun w' hS=>?_) ?_
        ·go_simp
        simp only [zA,zB,zC,Act.put,zD,zE,zF]
        refine wpScriptH_take (.bool false) (by rfl) (by rfl) (fun w' hS=>?_) ?_
        ·go_simp
        simp only [zA,zB,zC,Act.put,zD,zE,zF]
        refine wpScriptH_take (.slice A1 mm1 c1) (by rfl) (by rfl) (fun w' hS=>?_) ?_
        ·go_simp
        simp only [zA,zB,zC,Act.put,zD,zE,zF]
        refine wpScriptH_take (.slice eA en ec) (by rfl) (by rfl) (fun w' hS=>?_) ?_
        ·go_simp
        simp only [zA,zB,zC,Act.put,zD,zE,zF]
        refine wpScriptH_do (by rfl) ?_
        go_wp2_with (go_at_call 32;refine (HEq.out _ (Below.refl _ _).drew).mono ?_;rintro e0 w10 ⟨rfl,rfl⟩)
        refine ⟨(Below.refl _ _).drew,?_⟩
        clear HEq
        refine wpScriptH_take (.bool false) (by rfl) (by rfl) (fun w' hS=>?_) ?_
        ·go_simp
        simp only [zA,zB,zC,Act.put,zD,zE,zF]
        refine wpScriptH_take (.bool false) (by rfl) (by rfl) (fun w' hS=>?_) ?_
        ·go_simp
        simp only [zA,zB,zC,Act.put,zD,zE,zF]
        refine wpScriptH_take (.bool false) (by rfl) (by rfl) (fun w' hS=>?_) ?_
        ·go_simp
        simp only [zA,zB,zC,Act.put,zD,zE,zF]
        refine wpScriptH_take (.pointer (some ⟨g,0,none⟩)) (by rfl) (by rfl) (fun w' hS=>?_) ?_
        ·go_simp
        simp only [zA,zB,zC,Act.put,zD,zE,zF]
        refine wpScriptH_take (.int .i64 (i:Int)) (by rfl) (by rfl) (fun w' hS=>?_) ?_
        ·go_simp
        simp only [zA,zB,zC,Act.put,zD,zE,zF]
        refine wpScriptH_take (.slice (some ⟨g6,o6,none⟩) k c6) (by rfl) (by rfl) (fun w' hS=>?_) ?_
        ·go_simp
        simp only [zA,zB,zC,Act.put,zD,zE,zF]
        refine wpScriptH_take (.int .i64 (i:Int)) (by rfl) (by rfl) (fun w' hS=>?_) ?_
        ·go_simp
        simp only [zA,zB,zC,Act.put,zD,zE,zF]
        refine wpScriptH_take (.pointer (some ⟨g6,o6+i,none⟩)) (by rfl) (by rfl) (fun w' hS=>?_) ?_
        ·go_simp
        simp only [zA,zB,zC,Act.put,zD,zE,zF]
        refine wpScriptH_take (.int .u64 (q:Int)) (by rfl) (by rfl) (fun w' hS=>?_) ?_
        ·have s1:=(HFa.out _ (HV9.out.trans (hS.mono HV9.out.size))).2
         go_simp
        simp only [zA,zB,zC,Act.put,zD,zE,zF]
        refine wpScriptH_do (by rfl) ?_
        go_wp2_with (go_at_call 33;refine (HLk.out _ HV9.out.drew).mono ?_;rintro e0 w11 ⟨rfl,h11⟩)
        have hb11:Below w9.heap.size w9 w11:=((Below.refl _ _).drew).trans h11
        have HB11:=hid hb11
        refine ⟨hb11,?_⟩
        clear h11 hb11 HLk
        refine wpScriptH_take (.bool false) (by rfl) (by rfl) (fun w' hS=>?_) ?_
        ·go_simp
        simp only [zA,zB,zC,Act.put,zD,zE,zF]
        refine wpScriptH_take (.bool false) (by rfl) (by rfl) (fun w' hS=>?_) ?_
        ·go_simp
        simp only [zA,zB,zC,Act.put,zD,zE,zF]
        refine wpScriptH_take (.bool false) (by rfl) (by rfl) (fun w' hS=>?_) ?_
        ·go_simp
        simp only [zA,zB,zC,Act.put,zD,zE,zF]
        refine wpScriptH_take (.slice (some ⟨g9,o9,none⟩) mm2 c9) (by rfl) (by rfl) (fun w' hS=>?_) ?_
        ·go_simp
        simp only [zA,zB,zC,Act.put,zD,zE,zF]
        refine wpScriptH_take (.int .i64 (mm2:Int)) (by rfl) (by rfl) (fun w' hS=>?_) ?_
        ·go_simp
        simp only [zA,zB,zC,Act.put,zD,zE,zF]
        refine wpScriptH_take (.slice eA en ec) (by rfl) (by rfl) (fun w' hS=>?_) ?_
        ·go_simp
        simp only [zA,zB,zC,Act.put,zD,zE,zF]
        refine wpScriptH_take (.int .i64 (en:Int)) (by rfl) (by rfl) (fun w' hS=>?_) ?_
        ·go_simp
        simp only [zA,zB,zC,Act.put,zD,zE,zF]
        refine wpScriptH_do (by rfl) ?_
        go_wp2_with (go_at_call 24;refine (HRb.out _).mono ?_;rintro e0 w12 ⟨rfl,rfl⟩)
        refine ⟨HB11.out,?_⟩
        clear HRb
        refine wpScriptH_take (.bool false) (by rfl) (by rfl) (fun w' hS=>?_) ?_
        ·go_simp
        simp only [zA,zB,zC,Act.put,zD,zE,zF]
        refine wpScriptH_take (.bool false) (by rfl) (by rfl) (fun w' hS=>?_) ?_
        ·go_simp
        simp only [zA,zB,zC,Act.put,zD,zE,zF]
        refine wpScriptH_take (.bool false) (by rfl) (by rfl) (fun w' hS=>?_) ?_
        ·go_simp
        simp only [zA,zB,zC,Act.put,zD,zE,zF]
        refine wpScriptH_take (.slice (some ⟨g9,o9,none⟩) mm2 c9) (by rfl) (by rfl) (fun w' hS=>?_) ?_
        ·go_simp
        simp only [zA,zB,zC,Act.put,zD,zE,zF]
        refine wpScriptH_take (.pointer (some ⟨g9,o9,none⟩)) (by rfl) (by rfl) (fun w' hS=>?_) ?_
        ·go_simp
         exact fun h=>absurd hz9 (by rw [h];decide)
        simp only [zA,zB,zC,Act.put,zD,zE,zF]
        refine wpScriptH_take (.int .u64 (q:Int)) (by rfl) (by rfl) (fun w' hS=>?_) ?_
        ·have s1:=HC9.out _ hS
         go_simp
        simp only [zA,zB,zC,Act.put,zD,zE,zF]
        refine wpScriptH_take (.slice (some ⟨g6,o6,none⟩) k c6) (by rfl) (by rfl) (fun w' hS=>?_) ?_
        ·go_simp
        simp only [zA,zB,zC,Act.put,zD,zE,zF]
        refine wpScriptH_take (.int .i64 (i:Int)) (by rfl) (by rfl) (fun w' hS=>?_) ?_
        ·go_simp
        simp only [zA,zB,zC,Act.put,zD,zE,zF]
        refine wpScriptH_take (.pointer (some ⟨g6,o6+i,none⟩)) (by rfl) (by rfl) (fun w' hS=>?_) ?_
        ·go_simp
        simp only [zA,zB,zC,Act.put,zD,zE,zF]
        refine wpScriptH_take (.int .u64 (q:Int)) (by rfl) (by rfl) (fun w' hS=>?_) ?_
        ·have s1:=(HFa.out _ (HV9.out.trans (hS.mono HV9.out.size))).2
         go_simp
        simp only [zA,zB,zC,Act.put,zD,zE,zF]
        refine wpScriptH_take (.bool false) (by rfl) (by rfl) (fun w' hS=>?_) ?_
        ·go_simp
        simp only [zA,zB,zC,Act.put,zD,zE,zF]
        refine wpScriptH_take (.bool false) (by rfl) (by rfl) (fun w' hS=>?_) ?_
        ·go_simp
        simp only [zA,zB,zC,Act.put,zD,zE,zF]
        refine wpScriptH_take (.bool false) (by rfl) (by rfl) (fun w' hS=>?_) ?_
        ·go_simp
        simp only [zA,zB,zC,Act.put,zD,zE,zF]
        refine wpScriptH_take (.pointer (some ⟨g,0,none⟩)) (by rfl) (by rfl) (fun w' hS=>?_) ?_
        ·go_simp
        simp only [zA,zB,zC,Act.put,zD,zE,zF]
        refine wpScriptH_take (.pointer (some ⟨g,0,none⟩)) (by rfl) (by rfl) (fun w' hS=>?_) ?_
        ·go_simp
        simp only [zA,zB,zC,Act.put,zD,zE,zF]
        refine wpScriptH_take (.pointer (some ⟨g,3,none⟩)) (by rfl) (by rfl) (fun w' hS=>?_) ?_
        ·go_simp
        simp only [zA,zB,zC,Act.put,zD,zE,zF]
        refine wpScriptH_take (.pointer (some ⟨d,0,none⟩)) (by rfl) (by rfl) (fun w' hS=>?_) ?_
        ·have s1:=(HFa.out _ (HV9.out.trans (hS.mono HV9.out.size))).1
         go_simp
        simp only [zA,zB,zC,Act.put,zD,zE,zF]
        refine wpScriptH_take (.iface 59 (.pointer (some ⟨d,0,none⟩))) (by rfl) (by rfl) (fun w' hS=>?_) ?_
        ·go_simp
        simp only [zA,zB,zC,Act.put,zD,zE,zF]
        refine wpScriptH_take (.slice (some ⟨g6,o6,none⟩) k c6) (by rfl) (by rfl) (fun w' hS=>?_) ?_
        ·go_simp
        simp only [zA,zB,zC,Act.put,zD,zE,zF]
        refine wpScriptH_take (.int .i64 (i:Int)) (by rfl) (by rfl) (fun w' hS=>?_) ?_
        ·go_simp
        simp only [zA,zB,zC,Act.put,zD,zE,zF]
        refine wpScriptH_take (.pointer (some ⟨g6,o6+i,none⟩)) (by rfl) (by rfl) (fun w' hS=>?_) ?_
        ·go_simp
        simp only [zA,zB,zC,Act.put,zD,zE,zF]
        refine wpScriptH_take (.int .u64 (q:Int)) (by rfl) (by rfl) (fun w' hS=>?_) ?_
        ·have s1:=(HFa.out _ (HV9.out.trans (hS.mono HV9.out.size))).2
         go_simp
        simp only [zA,zB,zC,Act.put,zD,zE,zF]
        refine wpScriptH_do (by rfl) ?_
        go_wp2_with (go_at_call 34;refine (HCk.out _ (HV9.out.trans (HB11.out.mono HV9.out.size))).mono ?_;rintro e0 w13 ⟨rfl,h13⟩)
        have hb13:Below w9.heap.size w9 w13:=HB11.out.trans (h13.mono HB11.out.size)
        have HV13:=hid (HV9.out.trans (hb13.mono HV9.out.size))
        refine ⟨hb13,?_⟩
        clear h13 hb13 HCk
        refine wpScriptH_take (.bool false) (by rfl) (by rfl) (fun w' hS=>?_) ?_
        ·go_simp
        simp only [zA,zB,zC,Act.put,zD,zE,zF]
        refine wpScriptH_take (.bool false) (by rfl) (by rfl) (fun w' hS=>?_) ?_
        ·go_simp
        simp only [zA,zB,zC,Act.put,zD,zE,zF]
        show wpList _ _ _ _ _ _
        simp only [List.drop_succ_cons,List.drop_zero]
        refine NoPanic.normal ?_
        clear HC9 HFa HV9 HB11
        go_wp2_with fail
        go_roundw
        case rel=>exact ⟨i+1,by omega,by go_num,HV13⟩
        case measure=>simp [Go.RowKit.intOf];omega
      ·go_wp2_with fail
       go_roundw
       case rel=>exact ⟨j+1,by omega,by go_num,HVr⟩
       case measure=>simp [Go.RowKit.intOf];omega
    ·go_wp2_with fail
     go_ret
     exact ⟨rfl,HW7.out.trans (HVr.out.mono HW7.out.size)⟩
end
end Go.Proofs.YtfkjjoglnmeciaaGreatDoor
