/- The walks and laws that the claim leans on, part 23. -/
import Derived.Test.YtfkjjoglnmeciaaGreatDoorQat
set_option maxRecDepth 100000
set_option maxHeartbeats 16000000
namespace Go.Proofs.YtfkjjoglnmeciaaGreatDoor
open Go.Lib (hid)
section
open Go.RowKit
theorem offB_inj {c i j:Nat} (h:offB c i=offB c j):i=j:=by
 rcases Nat.lt_trichotomy i j with h1 | h1 | h1
 ·have:=off_inj (c:=c) h1;omega
 ·exact h1
 ·have:=off_inj (c:=c) h1;omega
theorem offB_ge (c i:Nat):8≤offB c i:=by unfold offB;omega
def fmtB (ln cl g k:Nat):List (Nat × Nat):=(List.range k).map fun i=>(64 * ln+8 * offB cl i,BK.w ⟨g,0,176⟩)
def fmtZ (ln k:Nat):List (Nat × Nat):=(List.range k).map fun j=>(64 * ln+8 * (j+1),0)
def fmtW (ln cl g:Nat):List (Nat × Nat):=fmtB ln cl g (perC cl)++fmtZ ln 7
theorem fmtB_succ (ln cl g k:Nat):fmtB ln cl g (k+1)=fmtB ln cl g k++[(64 * ln+8 * offB cl k,BK.w ⟨g,0,176⟩)]:=by simp [fmtB,List.range_succ]
theorem fmtZ_succ (ln k:Nat):fmtZ ln (k+1)=fmtZ ln k++[(64 * ln+8 * (k+1),0)]:=by simp [fmtZ,List.range_succ]
theorem fmtB_mem {ln cl g k:Nat} {e:Nat × Nat} (h:e∈fmtB ln cl g k):∃ i,i < k∧e=(64 * ln+8 * offB cl i,BK.w ⟨g,0,176⟩):=by
 unfold fmtB at h;obtain ⟨i,hi,rfl⟩:=List.mem_map.1 h;exact ⟨i,List.mem_range.1 hi,rfl⟩
theorem fmtZ_mem {ln k:Nat} {e:Nat × Nat} (h:e∈fmtZ ln k):∃ j,j < k∧e=(64 * ln+8 * (j+1),0):=by
 unfold fmtZ at h;obtain ⟨i,hi,rfl⟩:=List.mem_map.1 h;exact ⟨i,List.mem_range.1 hi,rfl⟩
theorem sealW_lt2 {x:Nat} (hx:x < 4294967296):sealW x < 18446744073709551616:=by
 have h:=Crc.sum_lt (sealB_lt x);unfold sealW;omega
theorem BK.w_lt {b:BK} (h:b.In):b.w < 18446744073709551616:=sealW_lt2 h.x
theorem hdrW_lt {cl g:Nat} (hc:cl < 5) (hg:g < 65536):hdrW cl g < 18446744073709551616:=sealW_lt2 (by unfold hdX;omega)
theorem fmtW_len (ln cl g:Nat):(fmtW ln cl g).length=perC cl+7:=by simp [fmtW,fmtB,fmtZ]
theorem fmtW_mem {ln cl g:Nat} (hc:cl < 5) (hg:g < 65536) {e:Nat × Nat} (h:e∈fmtW ln cl g):e.1 % 8=0∧64 * ln < e.1∧e.1 < 64 * ln+2048∧e.2 < 18446744073709551616:=by
 unfold fmtW at h;rcases List.mem_append.1 h with h | h
 ·obtain ⟨i,hi,rfl⟩:=fmtB_mem h
  have h1:=off_lt hi;have h2:=offB_ge cl i;have h3:=pay_le cl;exact ⟨oM,oM,oM,BK.w_lt ⟨hg,by show (0:Nat) < 256;omega,by show (176:Nat) < 256;omega⟩⟩
 ·obtain ⟨j,hj,rfl⟩:=fmtZ_mem h
  exact ⟨oM,oM,oM,oM⟩
theorem nodup_map_range {f:Nat→Nat}:∀ {k:Nat},(∀ i j,i < k→j < k→f i=f j→i=j)→((List.range k).map f).Nodup
 | 0,_=>by simp
 | k+1,h=>by
  rw [List.range_succ,List.map_append,List.nodup_append];refine ⟨nodup_map_range (fun i j hi hj=>h i j oM oM),by simp,?_⟩;intro x hx y hy e;obtain ⟨i,hi,rfl⟩:=List.mem_map.1 hx;simp at hy;have hi':=List.mem_range.1 hi;have:=h i k oM oM (e.trans hy);omega
theorem fmtW_nodup (ln cl g:Nat):((fmtW ln cl g).map (·.1)).Nodup:=by
 unfold fmtW fmtB fmtZ;rw [List.map_append,List.map_map,List.map_map,List.nodup_append];refine ⟨nodup_map_range (fun i j _ _ h=>?_),nodup_map_range (fun i j _ _ h=>?_),?_⟩
 ·simp at h;exact offB_inj (c:=cl) oM
 ·simp at h;omega
 ·intro x hx y hy e
  obtain ⟨i,hi,rfl⟩:=List.mem_map.1 hx;obtain ⟨j,hj,rfl⟩:=List.mem_map.1 hy;have:=List.mem_range.1 hj;have:=offB_ge cl i;simp at e;omega
def fmtR (cur:Nat→Nat) (ln cl g:Nat):Nat→Nat:=wrS (wrS cur (fmtW ln cl g)) [(64 * ln,hdrW cl g)]
theorem fmtR_out {cur:Nat→Nat} {ln cl g i:Nat} (hc:cl < 5) (hg:g < 65536) (h:i < 8 * ln∨8 * ln+256≤i):fmtR cur ln cl g i=cur i:=by
 unfold fmtR;rw [wrS_other,wrS_other]
 ·intro e he
  have:=fmtW_mem hc hg he;omega
 ·intro e he
  simp at he;subst he;show 64 * ln / 8≠i;omega
theorem fmtR_bnd {cur:Nat→Nat} {ln cl g:Nat} (hc:cl < 5) (hg:g < 65536) (hb:∀ i,cur i < 18446744073709551616) (i:Nat):fmtR cur ln cl g i < 18446744073709551616:=by
 unfold fmtR;refine wrS_bnd _ _ (wrS_bnd _ _ hb (fun e he=>(fmtW_mem hc hg he).2.2.2)) (fun e he=>?_) i;simp at he;subst he;exact hdrW_lt hc hg
theorem bitAt_zero (i:Nat):bitAt 0 i=false:=by simp [bitAt]
theorem fmtR_ok {cur:Nat→Nat} {ln cl g:Nat} (hc:cl < 5) (h0:0 < g) (hg:g < 65536):ChW (fmtR cur ln cl g) ln cl g 0 (fun _=>⟨g,0,176⟩):=by
 have hw:∀ e∈fmtW ln cl g,fmtR cur ln cl g (e.1 / 8)=e.2:=fun e he=>by
  unfold fmtR;have hm:=fmtW_mem hc hg he;rw [wrS_other _ _ _ (fun x hx=>by simp at hx;subst hx;show 64 * ln / 8≠e.1 / 8;omega)];exact wrS_get _ _ (fmtW_nodup ln cl g) (fun x hx=>(fmtW_mem hc hg hx).1) e he
 have hz:∀ j,j < 7→fmtR cur ln cl g (8 * ln+(j+1))=0:=fun j hj=>by
  have h:=hw (64 * ln+8 * (j+1),0) (by unfold fmtW;exact List.mem_append.2 (.inr (List.mem_map.2 ⟨j,List.mem_range.2 hj,rfl⟩)));have e:(64 * ln+8 * (j+1)) / 8=8 * ln+(j+1):=oM;rw [← e];exact h
 refine ⟨?_,hc,h0,hg,?_,oM,?_,?_,?_,?_,?_,Nat.pow_pos oM⟩
 ·have e:8 * ln=64 * ln / 8:=oM
  rw [e];unfold fmtR;show upd _ (64 * ln / 8) (hdrW cl g) (64 * ln / 8)=_;simp [upd]
 ·exact hz 0 oM
 ·intro j h2 h8
  have h:=hz (j - 1) oM;rw [show j - 1+1=j by omega] at h;exact h
 ·intro i hi;exact ⟨hg,by show (0:Nat) < 256;omega,by show (176:Nat) < 256;omega⟩
 ·intro i hi
  have:(g != 0)=true:=by simp;omega
  simp [BK.good,this]
 ·intro i hi
  have h:=hw (64 * ln+8 * offB cl i,BK.w ⟨g,0,176⟩) (by unfold fmtW;exact List.mem_append.2 (.inl (List.mem_map.2 ⟨i,List.mem_range.2 hi,rfl⟩)));have e:(64 * ln+8 * offB cl i) / 8=8 * ln+offB cl i:=oM;rw [← e];exact h
 ·intro i hi;rw [bitAt_zero];rfl
def hdrAt (ln cl i:Nat):Prop:=(8 * ln≤i∧i < 8 * ln+8)∨∃ j,j < perC cl∧i=8 * ln+offB cl j
theorem ChW.same {cur cur':Nat→Nat} {ln cl g V:Nat} {bs:Nat→BK} (h:ChW cur ln cl g V bs) (he:∀ i,hdrAt ln cl i→cur' i=cur i):ChW cur' ln cl g V bs :=
 {h with
  hdr:=(he _ (.inl ⟨oM,oM⟩)).trans h.hdr
  bits:=(he _ (.inl ⟨oM,oM⟩)).trans h.bits
  zero:=fun j h2 h8=>(he _ (.inl ⟨oM,oM⟩)).trans (h.zero j h2 h8)
  word:=fun i hi=>(he _ (.inr ⟨i,hi,rfl⟩)).trans (h.word i hi) }
theorem hdrAt_in {ln cl i:Nat} (h:hdrAt ln cl i):8 * ln≤i∧i < 8 * ln+256:=by
 rcases h with h | ⟨j,hj,rfl⟩
 ·omega
 ·have:=off_lt hj;omega
theorem hdrAt_pay {ln cl i j:Nat} (hi:i < perC cl) (hj:j < payW cl):¬ hdrAt ln cl (8 * ln+offB cl i+1+j):=by
 intro h;have h8:=offB_ge cl i;rcases h with h | ⟨k,hk,h⟩
 ·omega
 ·rcases Nat.lt_trichotomy i k with h1 | h1 | h1
  ·have:=off_inj (c:=cl) h1;omega
  ·subst h1;omega
  ·have:=off_inj (c:=cl) h1;omega
theorem CSok.same {cur cur':Nat→Nat} {ln:Nat} {c:CS} (h:CSok cur ln c) (he:∀ i,8 * ln≤i→i < 8 * ln+256→(c.dv=true→hdrAt ln c.cl i)→cur' i=cur i):CSok cur' ln c:=by
 unfold CSok at *;cases hd:c.dv
 ·rw [hd] at h
  obtain ⟨h1,h2,h3⟩:=h;exact ⟨(he _ oM oM (fun h=>by rw [hd] at h;cases h)).trans h1,h2,h3⟩
 ·rw [hd] at h
  exact ChW.same h (fun i hi=>he i (hdrAt_in hi).1 (hdrAt_in hi).2 (fun _=>hi))
def newC (cl g:Nat):CS:=⟨true,cl,g,0,fun _=>⟨g,0,176⟩⟩
theorem newC_ok {cur:Nat→Nat} {ln cl g:Nat} (hc:cl < 5) (h0:0 < g) (hg:g < 65536):CSok (fmtR cur ln cl g) ln (newC cl g):=fmtR_ok hc h0 hg
end
section
open Go.RowKit Go.Maps
structure HA where
 h:Nat
 gs:Nat
 pl:Nat
 po:Nat
 mr:Nat
 mh:Nat
def HA.p (x:HA):PA:=⟨x.gs,x.pl,x.po⟩
def HA.fp (x:HA):Fp:=fun k=>k=x.pl∨k=x.mr∨k=x.mh
structure HS (a:DA) (s n K:Nat) (x:HA) (cs:Nat→CS) (f:Nat→Option Nat) (N m:Nat) (w:World):Prop where
 heap:Blk w x.h 194 (heapCells a s n x.gs x.mr x.mh false)
 plc:Plc a s K x.p cs w
 res:PMap w x.mr N f m
 held:HMap w x.mh N
 ne:x.mr≠x.mh
theorem blk_ne_map {H:Type} {P:Program} {k:TypeId} {R:Value→Option (DataW H × List MemPlace)} {w:World} {b n g:Nat} {D:DataW H} {t:TypeId} {cs:Array Value} (h:w.ownsMap P k R b n D) (hB:Blk w g t cs):g≠b:=by
 intro e;subst e;obtain ⟨es,clock,hb,_⟩:=h;unfold Blk at hB;rw [hB] at hb;cases hb
section
variable {a:DA} {s n K:Nat} {x:HA} {cs:Nat→CS} {f:Nat→Option Nat} {N m:Nat} {w w':World}
theorem HS.map_ne (h:HS a s n K x cs f N m w) {g:Nat} {t:TypeId} {vs:Array Value} (hB:Blk w g t vs):g≠x.mr∧g≠x.mh:=by
 obtain ⟨D,ho,_⟩:=h.res;obtain ⟨D2,ho2⟩:=h.held;exact ⟨blk_ne_map ho hB,blk_ne_map ho2 hB⟩
theorem HS.pl_ne (h:HS a s n K x cs f N m w):x.pl≠x.mr∧x.pl≠x.mh∧x.gs≠x.mr∧x.gs≠x.mh∧x.h≠x.mr∧x.h≠x.mh∧x.gs≠x.pl∧x.h≠x.pl:=by
 obtain ⟨⟨c,hs⟩,pcs,hp,_⟩:=h.plc;obtain ⟨h1,h2⟩:=h.map_ne hp;obtain ⟨h3,h4⟩:=h.map_ne hs;obtain ⟨h5,h6⟩:=h.map_ne h.heap;exact ⟨h1,h2,h3,h4,h5,h6,h.plc.ne,h.heap.ne_ hp (by decide)⟩
theorem HS.chg {Z:Fp} (h:HS a s n K x cs f N m w) (hc:Chg Z w w') (h1:¬ Z x.h) (h2:¬ Z x.gs) (h3:¬ Z x.pl) (h4:¬ Z x.mr) (h5:¬ Z x.mh):HS a s n K x cs f N m w' :=
 ⟨hc.blk h.heap h1,h.plc.chg hc h2 h3,h.res.chg hc h4,h.held.chg hc h5,h.ne⟩
theorem HS.below (h:HS a s n K x cs f N m w) (hb:Below w.heap.size w w'):HS a s n K x cs f N m w':=h.chg (Chg.of_below (S:=Fp.no) hb) (fun h=>h) (fun h=>h) (fun h=>h) (fun h=>h) (fun h=>h)
theorem HS.lt (h:HS a s n K x cs f N m w):x.h < w.heap.size∧x.gs < w.heap.size∧x.pl < w.heap.size∧x.mr < w.heap.size∧x.mh < w.heap.size :=
 ⟨h.heap.lt,h.plc.lt.1,h.plc.lt.2,h.res.lt,h.held.lt⟩
end
def blkO (ln cl i:Nat):Nat:=64 * ln+8 * offB cl i+8
def ResLoc (s K:Nat) (cs:Nat→CS) (o p:Nat):Prop:=∃ k i,k < K∧(cs k).dv=true∧i < perC (cs k).cl∧o=blkO (s+32 * k) (cs k).cl i∧pOff p=o
structure DS (a:DA) (L T s n K:Nat) (x:HA) (cs:Nat→CS) (f:Nat→Option Nat) (N m b0:Nat) (S:Fp) (cur:Nat→Nat) (w:World):Prop where
 dev:Dev a L T w S cur 0
 hs:HS a s n K x cs f N m w
 ok:∀ k,k < K→CSok cur (s+32 * k) (cs k)
 bnd:∀ i,cur i < 18446744073709551616
 res:∀ o p,f o=some p→ResLoc s K cs o p
 tab:Tab w
 pay:Pay w
 lo:1 < b0∧0 < b0∧b0≤x.h∧b0≤x.gs∧b0≤x.pl∧b0≤x.mr∧b0≤x.mh∧∀ k,S k→b0≤k
 off:¬ S x.h∧¬ S x.gs∧¬ S x.pl∧¬ S x.mr∧¬ S x.mh
 hK:n / 32=K∧1≤K∧s+n≤L∧0 < s
section
variable {a:DA} {L T s n K:Nat} {x:HA} {cs:Nat→CS} {f:Nat→Option Nat} {N m b0:Nat} {S:Fp} {cur:Nat→Nat} {w w':World}
theorem DS.below (h:DS a L T s n K x cs f N m b0 S cur w) (hb:Below w.heap.size w w'):DS a L T s n K x cs f N m b0 S cur w' :=
 { h with dev:=h.dev.below hb,hs:=h.hs.below hb,tab:=h.tab.below hb,pay:=h.pay.below hb }
theorem DS.hL (h:DS a L T s n K x cs f N m b0 S cur w):L≤4096:=by
 obtain ⟨ls,exe,per,cs',lsC,hdc,hnt⟩:=h.dev;exact hdc.hL
theorem DS.line (h:DS a L T s n K x cs f N m b0 S cur w) {k:Nat} (hk:k < K):s+32 * k+32≤L:=by
 have h1:=h.hK;omega
theorem DS.few (h:DS a L T s n K x cs f N m b0 S cur w):K≤128∧s≤4096:=by
 have h1:=h.hK;have h2:=h.hL;omega
theorem DS.more {T':Nat} (h:DS a L T s n K x cs f N m b0 S cur w) (hT:T≤T') (hT':T'≤1000000000):DS a L T' s n K x cs f N m b0 S cur w :=
 { h with dev:=h.dev.more hT hT' }
theorem DS.dev_ {T':Nat} {S':Fp} {cur':Nat→Nat} (h:DS a L T s n K x cs f N m b0 S cur w) (hd:Dev a L T' w' S' cur' 0) (hc:Chg S w w') (hg:Grew S S' w) (hok:∀ k,k < K→CSok cur' (s+32 * k) (cs k)) (hb:∀ i,cur' i < 18446744073709551616) :
  DS a L T' s n K x cs f N m b0 S' cur' w':=by
 obtain ⟨o1,o2,o3,o4,o5⟩:=h.off;obtain ⟨l1,l2,l3,l4,l5,l6,l7,l8⟩:=h.lo;obtain ⟨z1,z2,z3,z4,z5⟩:=h.hs.lt;have hlow:∀ g,g < b0→¬ S g:=fun g hgb hs=>by have:=l8 g hs;omega
 refine ⟨hd,h.hs.chg hc o1 o2 o3 o4 o5,hok,hb,h.res,h.tab.chg hc (hlow _ l1),fun i hi=>(World.cell?_of_block (w:=w) (hc.block _ h.pay.size (hlow _ l2))).trans (h.pay i hi),⟨l1,l2,l3,l4,l5,l6,l7,fun k hk=>?_⟩,⟨?_,?_,?_,?_,?_⟩,h.hK⟩
 ·rcases hg k hk with h' | h'
  ·exact l8 k h'
  ·omega
 all_goals
  refine hg.off ⟨?_,?_⟩
  ·omega
  ·assumption
theorem DS.own_ {cs':Nat→CS} {f':Nat→Option Nat} {N' m':Nat} (h:DS a L T s n K x cs f N m b0 S cur w) (hs:HS a s n K x cs' f' N' m' w') (hc:Chg x.fp w w') (hok:∀ k,k < K→CSok cur (s+32 * k) (cs' k)) (hr:∀ o p,f' o=some p→ResLoc s K cs' o p) :
  DS a L T s n K x cs' f' N' m' b0 S cur w':=by
 obtain ⟨o1,o2,o3,o4,o5⟩:=h.off;obtain ⟨l1,l2,l3,l4,l5,l6,l7,l8⟩:=h.lo;have hlow:∀ g,g < b0→¬ x.fp g:=fun g hgb hs=>by
  rcases hs with h | h | h <;> omega
 exact ⟨h.dev.chg hc (fun k hk hz=>by rcases hz with rfl | rfl | rfl <;> contradiction),hs,hok,h.bnd,hr,h.tab.chg hc (hlow _ l1),fun i hi=>(World.cell?_of_block (w:=w) (hc.block _ h.pay.size (hlow _ l2))).trans (h.pay i hi),h.lo,h.off,h.hK⟩
end
end
section
open Go.RowKit
def cksOf (s:Nat) (cs:Nat→CS) (cl K:Nat):List Int:=((List.range K).filter fun k=>(cs k).dv && (cs k).cl == cl).map fun k=>((s+32 * k:Nat):Int)
theorem cksOf_succ (s:Nat) (cs:Nat→CS) (cl K:Nat):cksOf s cs cl (K+1)=if ((cs K).dv && (cs K).cl == cl)=true then cksOf s cs cl K++[((s+32 * K:Nat):Int)] else cksOf s cs cl K:=by
 unfold cksOf;rw [List.range_succ,List.filter_append,List.map_append];by_cases h:((cs K).dv && (cs K).cl == cl)=true
 ·rw [if_pos h];simp [h]
 ·rw [if_neg h];simp [h]
theorem cks_own (c:CS) (cl:Nat):((c.own == 0) && (c.cls == (cl:Int)))=(c.dv && c.cl == cl):=by
 unfold CS.own CS.cls;cases c.dv
 ·rfl
 ·simp only [if_true,Bool.true_and,beq_self_eq_true]
  by_cases h:c.cl=cl
  ·rw [h];simp
  ·rw [beq_eq_false_iff_ne.2 h,beq_eq_false_iff_ne];omega
theorem cksOf_mem {s:Nat} {cs:Nat→CS} {cl K:Nat} {x:Int} (h:x∈cksOf s cs cl K):∃ k,k < K∧(cs k).dv=true∧(cs k).cl=cl∧x=((s+32 * k:Nat):Int):=by
 unfold cksOf at h;obtain ⟨k,hk,rfl⟩:=List.mem_map.1 h;obtain ⟨h1,h2⟩:=List.mem_filter.1 hk;simp at h1 h2;exact ⟨k,h1,h2.1,h2.2,rfl⟩
theorem cksOf_in {s:Nat} {cs:Nat→CS} {cl K k:Nat} (hk:k < K) (h1:(cs k).dv=true) (h2:(cs k).cl=cl):((s+32 * k:Nat):Int)∈cksOf s cs cl K:=by
 unfold cksOf;refine List.mem_map.2 ⟨k,List.mem_filter.2 ⟨List.mem_range.2 hk,?_⟩,rfl⟩;simp [h1,h2]
theorem cksOf_len (s:Nat) (cs:Nat→CS) (cl K:Nat):(cksOf s cs cl K).length≤K:=by
 unfold cksOf;rw [List.length_map];exact Nat.le_trans (List.length_filter_le _ _) (by simp)
theorem chunks_any {a:DA} {s K:Nat} {x:PA} {cs:Nat→CS} {w:World} (h:Plc a s K x cs w) (hK:K≤128) (_hs:s≤100000) (cl:Nat) :
  Calls Tryz.prog 376 #[.pointer (some ⟨x.gs,0,none⟩), .int .i64 0, .int .i64 (cl:Int)] w (RetLns w (cksOf s cs cl K)):=by
 obtain ⟨c,_,f1⟩:=h.sets;have HP:=hid h;obtain ⟨i0,hi0,hz0,hz1,hz2⟩:=info_parts infoInt;have HB0:Hid (Below w.heap.size w w):=Below.refl _ _;have HO0:Hid (w.ownsRow w.heap.size 3 1 (.slice none 0 0) 0 (iCells [])):=World.ownsRow_nil _ _ _ _;have dcl:decide ((cl:Int) < 0)=false:=dF;clear h;obtain ⟨gs,pl,po⟩:=x;dsimp only at *;go_enter Tryz.func376,Tryz.ntmps376
 go_wp2;go_loopw [7,25] (fun p i wr=>∃ (k:Nat) (A1:Option Addr) (m1 c1:Nat) (l:List Int),k≤K∧i = .int .i64 k∧p = .slice A1 m1 c1∧Hid (l=cksOf s cs cl k)∧Hid (wr.ownsRow w.heap.size 3 1 (.slice A1 m1 c1) m1 (iCells l))∧Hid (Below w.heap.size w wr)) (fun _ i _=>K - (RowKit.intOf i).toNat)
 case atStart=>exact ⟨0,_,_,_,[],Nat.zero_le _,rfl,rfl,hid rfl,HO0,HB0⟩
 case round =>
  clear HB0 HO0;obtain ⟨k,A1,m1,c1,l,hk,rfl,rfl,HL,HO,H⟩:=hrel;by_cases hlt:k < K
  ·obtain ⟨f0,f2,f3,b4,f4⟩:=(HP.out.below H.out).facts (k:=k) hlt
   dsimp only at f0 f2 f3 f4;have hz5:(0:Int)≤(k:Int):=oM;have hz6:(k:Int) < (K:Int):=oM;have hm1:m1≤128:=by have h1:=HO.out.1;have h2:=cksOf_len s cs cl k;rw [iCells_len,HL.out] at h1;omega
   have HCO:=hid (cks_own (cs k) cl);have HSU:=hid (cksOf_succ s cs cl k);generalize hbb:((cs k).dv && (cs k).cl == cl)=bb at *;rw [← HL.out] at HSU;have HCK:Hid (cksOf s cs cl (k+1)=cksOf s cs cl (k+1)):=hid rfl;clear hbb;generalize ((s+32 * k:Nat):Int)=v at *;generalize (cs k).cls=v1 at *;generalize (cs k).own=v2 at *;have HLE:=hid H.out.size;have HOD:=hid ((HO.out.alloc (.cells #[.int .i64 v, .int .i64 v1, .int .i64 v2, .bool b4] 408)));have HBD:=hid ((H.out.alloc H.out.size (.cells #[.int .i64 v, .int .i64 v1, .int .i64 v2, .bool b4] 408)));have HOE:=hid (HOD.out.alloc (.cells #[.int .i64 v] 3));have HBE:=hid (HBD.out.alloc (by have:=H.out.size;simp;omega) (.cells #[.int .i64 v] 3));clear H HO HCK;cases bb
   ·have HLN:Hid (l=cksOf s cs cl (k+1)):=hid (by rw [HSU.out];rfl)
    by_cases hv2:v2=0
    ·have q1:(v2 == 0)=true:=by rw [hv2];rfl
     have q2:(v1 == (cl:Int))=false:=by have:=HCO.out;rw [q1] at this;simpa using this
     clear hv2 HCO HSU HL;go_wp2;go_roundw
     case rel =>
      first
       | exact ⟨k+1,_,_,_,_,oM,by go_num,rfl,HLN,HOD,HBD⟩
       | (
         repeat apply Exists.intro
         refine ⟨?_,rfl⟩;exact ⟨k+1,_,_,_,_,oM,by go_num,rfl,HLN,HOD,HBD⟩)
     case measure=>simp [RowKit.intOf];omega
    ·have q1:(v2 == 0)=false:=by rw [beq_eq_false_iff_ne];exact hv2
     clear hv2 HCO HSU HL;go_wp2;go_roundw
     case rel =>
      first
       | exact ⟨k+1,_,_,_,_,oM,by go_num,rfl,HLN,HOD,HBD⟩
       | (
         repeat apply Exists.intro
         refine ⟨?_,rfl⟩;exact ⟨k+1,_,_,_,_,oM,by go_num,rfl,HLN,HOD,HBD⟩)
     case measure=>simp [RowKit.intOf];omega
   ·have HLN:Hid (l++[v]=cksOf s cs cl (k+1)):=hid (by rw [HSU.out];rfl)
    have q1:(v2 == 0)=true:=by have:=HCO.out;rw [Bool.and_eq_true] at this;exact this.1
    have q2:(v1 == (cl:Int))=true:=by have:=HCO.out;rw [Bool.and_eq_true] at this;exact this.2
    clear HCO HSU HL HOD HBD;go_wp2_with (first
     | (at_builtin;refine wpList_app _ (.tmp 39) (.tmp 42) 34 rfl rfl w.heap.size 3 i0 _ 1 8 Tryz.underlying34 hi0 hz0 hz1 hz2 rfl ?q1 (.slice A1 m1 c1) m1 (iCells l) rfl HOE.out (wr.heap.size+1+1) (some ⟨wr.heap.size+1,0,none⟩) 1 1 [.int .i64 v] rfl ?q5 ?q6 ?q2 ?q3 ?q4 ?_;(case q1=>omega);(case q5=>exact row_reads_at _ _ (by simp) _ 1 1 3 _ rfl rfl);(case q6=>(intro u hu;simp at hu;subst hu;rfl));(case q2=>(unfold maxLen;omega));(case q3=>omega);(case q4=>(have:=HLE.out;simp;omega));intro A3 n3 c3 w8 hn3 ho3 hg3 hb3;have HN3:=hid hn3;have HO3:=hid ho3;have HB3:=hid (HBE.out.trans hb3);clear hn3 ho3 hg3 hb3)
     | go_in)
    have HO4:Hid (w8.ownsRow w.heap.size 3 1 (.slice A3 n3 c3) n3 (iCells (l++[v]))):=hid (by have h:=HO3.out;simpa [iCells] using h);go_roundw
    case rel =>
     first
      | exact ⟨k+1,_,_,_,_,oM,by go_num,rfl,HLN,HO4,HB3⟩
      | (
        repeat apply Exists.intro
        refine ⟨?_,rfl⟩;exact ⟨k+1,_,_,_,_,oM,by go_num,rfl,HLN,HO4,HB3⟩)
    case measure=>simp [RowKit.intOf];omega
  ·obtain rfl:K=k:=oM
   have HOK:Hid (wr.ownsRow w.heap.size 3 1 (.slice A1 m1 c1) m1 (iCells (cksOf s cs cl K))):=hid (by rw [← HL.out];exact HO.out);go_wp2;go_ret;exact ⟨_,_,_,rfl,HOK.out,H.out⟩
end
section
open Go.RowKit
theorem pick_any {a:DA} {s K:Nat} {x:PA} {cs:Nat→CS} {w:World} (h:Plc a s K x cs w) (_hK:K≤128) (_hs:s≤100000) (hf:∃ k,k < K∧(cs k).dv=false) :
  Calls Tryz.prog 396 #[.pointer (some ⟨x.gs,0,none⟩)] w fun e w'=>∃ k,k < K∧(cs k).dv=false∧e = .returned (.tuple #[.pointer (some ⟨x.pl,x.po+k * 4,none⟩), .int .i64 0])∧w=w':=by
 obtain ⟨c,_,f1⟩:=h.sets;have HP:=hid h;have HF:=hid hf;clear h hf;obtain ⟨gs,pl,po⟩:=x;dsimp only at *;go_enter Tryz.func396,Tryz.ntmps396
 go_wp2;go_loopw [15] (fun i wr=>∃ (k:Nat),k≤K∧i = .int .i64 k∧Hid (∀ j,j < k→(cs j).dv=true)∧w=wr) (fun i _=>K - (RowKit.intOf i).toNat)
 case atStart=>exact ⟨0,Nat.zero_le _,rfl,hid (fun j hj=>oM),rfl⟩
 case round =>
  obtain ⟨k,hk,rfl,HA,rfl⟩:=hrel;by_cases hlt:k < K
  ·obtain ⟨f0,f2,f3,b4,f4⟩:=HP.out.facts (k:=k) hlt
   dsimp only at f0 f2 f3 f4;have hz5:(0:Int)≤(k:Int):=oM;have hz6:(k:Int) < (K:Int):=oM;unfold CS.cls at f2;by_cases hd:(cs k).dv=true
   ·rw [if_pos hd] at f2
    have hq:decide (((cs k).cl:Int) < 0)=false:=dF;have HA2:Hid (∀ j,j < k+1→(cs j).dv=true):=hid (fun j hj=>by
     by_cases e:j=k
     ·rw [e];exact hd
     ·exact HA.out j oM)
    generalize (cs k).cl=v at *;clear hd HA;go_wp2;go_roundw
    case rel =>
     first
      | exact ⟨k+1,oM,by go_num,HA2,trivial⟩
      | exact ⟨k+1,oM,by go_num,HA2,rfl⟩
      | (
        repeat apply Exists.intro
        refine ⟨?_,rfl⟩;exact ⟨k+1,oM,by go_num,HA2,rfl⟩)
    case measure=>simp [RowKit.intOf];omega
   ·rw [if_neg hd] at f2
    have HD:Hid ((cs k).dv=false):=hid (by simpa using hd);clear hd HA;go_wp2;go_ret2;exact ⟨k,hlt,HD.out,rfl,rfl⟩
  ·exfalso
   obtain ⟨k0,h1,h2⟩:=HF.out;have:=HA.out k0 oM;rw [h2] at this;cases this
end
end Go.Proofs.YtfkjjoglnmeciaaGreatDoor
