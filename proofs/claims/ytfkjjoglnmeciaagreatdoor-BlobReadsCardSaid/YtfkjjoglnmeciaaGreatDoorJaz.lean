/- The walks and laws that the claim leans on, part 26. -/
import Derived.Test.YtfkjjoglnmeciaaGreatDoorJay
set_option maxRecDepth 100000
set_option maxHeartbeats 16000000
namespace Go.Proofs.YtfkjjoglnmeciaaGreatDoor
open Go.Lib (hid)
section
open Go.RowKit Go.Maps
def IsTwo (ws ws2:List (Nat × Nat)) (p:List Ins):Prop:=∃ p1 p2,IsStores ws p1∧IsStores ws2 p2∧p=p1++p2
theorem isTwo_len {ws ws2:List (Nat × Nat)} {p:List Ins} (h:IsTwo ws ws2 p):p.length≤2 * ws.length+2 * ws2.length+2:=by
 obtain ⟨p1,p2,h1,h2,rfl⟩:=h
 have:=isStores_len h1
 have:=isStores_len h2
 simp
 omega
theorem finish_any (a:DA) (s k g:Nat) (A:Option Addr) (n c:Nat) (ws:List (Nat × Nat)) (w:World) (h:Reads w w.heap.size 2 A n (wrCells ws)) (h0:0 < n) (hn:n≤100) (hv:∀ e∈ws,e.1 < 18446744073709551616) (hB:Blk w g 353 (logCells a s k)) (hs:64 * s < 18446744073709551616) :
  Calls Tryz.prog 250 #[.pointer (some ⟨g,0,none⟩), .slice A n c] w (RetProg w (IsTwo ws [(64 * s,0)])):=by
 have HSt:=hid (stores_small A n c ws w h h0 (by omega) hv)
 have HLN:=hid (show ws.length=n by have:=h.1;rw [wrCells_len] at this;omega)
 have HBB:=hid hB
 have HMk:Hid (∀ W,Below w.heap.size w W→Calls Tryz.prog 170 #[.pointer (some ⟨g,0,none⟩), .int .u64 0] W (RetProg W (IsStores [(64 * s,0)]))):=hid (fun W hW=>mark_any a s k g 0 W (hB.below hW hB.lt) hs)
 clear h hv hB
 go_enter Tryz.func250,Tryz.ntmps250
 go_wp2_with fail
 refine HSt.out.mono ?_
 rintro e1 w4 ⟨B1,n1,d1,p1,rfl,hp1,ho1,hb1⟩
 have HP1:=hid hp1
 have HO1:=hid ho1
 have HB4:=hid hb1
 have HSS:=hid (HMk.out w4 hb1)
 clear hp1 ho1 hb1 HSt
 go_wp2_with fail
 refine HSS.out.mono ?_
 rintro e1 w5 ⟨B2,n2,d2',p2,rfl,hp2,ho2,hb2⟩
 have HP2:=hid hp2
 have HB5:=hid (HB4.out.trans (hb2.mono HB4.out.size))
 have hl1:n1≤400:=by
  have h1:=HO1.out.1
  have h2:=isStores_len HP1.out
  rw [insCells_len] at h1
  have:=HLN.out
  omega
 have hl2:n2≤400:=by
  have h1:=ho2.1
  have h2:=isStores_len HP2.out
  rw [insCells_len] at h1
  simp at h2
  omega
 have HTh:=hid (then_any B1 B2 n1 d1 n2 d2' p1 p2 w5 (Reads.of_own (own_below HO1.out hb2)) (Reads.of_own ho2) hl1 hl2)
 clear hp2 ho2 hb2 HSS HO1
 go_wp2_with fail
 refine HTh.out.mono ?_
 rintro e1 w6 ⟨B3,n3,d3,rfl,hn3,ho3,hb3⟩
 have HO3:=hid ho3
 have HB6:=hid (HB5.out.trans (hb3.mono HB5.out.size))
 clear hn3 ho3 hb3 HTh
 go_wp2
 go_ret
 exact ⟨_,_,_,_,rfl,⟨p1,p2,HP1.out,HP2.out,rfl⟩,own_le HO3.out HB5.out.size,HB6.out⟩
end
section
open Go.RowKit
theorem offB_inj {c i j:Nat} (h:offB c i=offB c j):i=j:=by
 rcases Nat.lt_trichotomy i j with h1 | h1 | h1
 ·have:=off_inj (c:=c) h1;omega
 ·exact h1
 ·have:=off_inj (c:=c) h1;omega
theorem offB_ge (c i:Nat):8≤offB c i:=by unfold offB;omega
def fmtB (ln cl g k:Nat):List (Nat × Nat):=(List.range k).map fun i=>(64 * ln+8 * offB cl i,BK.w ⟨g,0,176⟩)
def fmtZ (ln k:Nat):List (Nat × Nat):=(List.range k).map fun j=>(64 * ln+8 * (j+1),0)
def fmtW (ln cl g:Nat):List (Nat × Nat):=fmtB ln cl g (perC cl)++fmtZ ln 7
theorem fmtB_succ (ln cl g k:Nat):fmtB ln cl g (k+1)=fmtB ln cl g k++[(64 * ln+8 * offB cl k,BK.w ⟨g,0,176⟩)]:=by simp [fmtB,List.range_succ]
theorem fmtZ_succ (ln k:Nat):fmtZ ln (k+1)=fmtZ ln k++[(64 * ln+8 * (k+1),0)]:=by simp [fmtZ,List.range_succ]
theorem fmtB_mem {ln cl g k:Nat} {e:Nat × Nat} (h:e∈fmtB ln cl g k):∃ i,i < k∧e=(64 * ln+8 * offB cl i,BK.w ⟨g,0,176⟩):=by
 unfold fmtB at h
 obtain ⟨i,hi,rfl⟩:=List.mem_map.1 h
 exact ⟨i,List.mem_range.1 hi,rfl⟩
theorem fmtZ_mem {ln k:Nat} {e:Nat × Nat} (h:e∈fmtZ ln k):∃ j,j < k∧e=(64 * ln+8 * (j+1),0):=by
 unfold fmtZ at h
 obtain ⟨i,hi,rfl⟩:=List.mem_map.1 h
 exact ⟨i,List.mem_range.1 hi,rfl⟩
theorem sealW_lt2 {x:Nat} (hx:x < 4294967296):sealW x < 18446744073709551616:=by
 have h:=Crc.sum_lt (sealB_lt x)
 unfold sealW
 omega
theorem BK.w_lt {b:BK} (h:b.In):b.w < 18446744073709551616:=sealW_lt2 h.x
theorem hdrW_lt {cl g:Nat} (hc:cl < 5) (hg:g < 65536):hdrW cl g < 18446744073709551616:=sealW_lt2 (by unfold hdX;omega)
theorem fmtW_len (ln cl g:Nat):(fmtW ln cl g).length=perC cl+7:=by simp [fmtW,fmtB,fmtZ]
theorem fmtW_mem {ln cl g:Nat} (hc:cl < 5) (hg:g < 65536) {e:Nat × Nat} (h:e∈fmtW ln cl g):e.1 % 8=0∧64 * ln < e.1∧e.1 < 64 * ln+2048∧e.2 < 18446744073709551616:=by
 unfold fmtW at h
 rcases List.mem_append.1 h with h | h
 ·obtain ⟨i,hi,rfl⟩:=fmtB_mem h
  have h1:=off_lt hi
  have h2:=offB_ge cl i
  have h3:=pay_le cl
  exact ⟨by omega,by omega,by omega,BK.w_lt ⟨hg,by show (0:Nat) < 256;omega,by show (176:Nat) < 256;omega⟩⟩
 ·obtain ⟨j,hj,rfl⟩:=fmtZ_mem h
  exact ⟨by omega,by omega,by omega,by omega⟩
theorem nodup_map_range {f:Nat→Nat}:∀ {k:Nat},(∀ i j,i < k→j < k→f i=f j→i=j)→((List.range k).map f).Nodup
 | 0,_=>by simp
 | k+1,h=>by
  rw [List.range_succ,List.map_append,List.nodup_append]
  refine ⟨nodup_map_range (fun i j hi hj=>h i j (by omega) (by omega)),by simp,?_⟩
  intro x hx y hy e
  obtain ⟨i,hi,rfl⟩:=List.mem_map.1 hx
  simp at hy
  have hi':=List.mem_range.1 hi
  have:=h i k (by omega) (by omega) (e.trans hy)
  omega
theorem fmtW_nodup (ln cl g:Nat):((fmtW ln cl g).map (·.1)).Nodup:=by
 unfold fmtW fmtB fmtZ
 rw [List.map_append,List.map_map,List.map_map,List.nodup_append]
 refine ⟨nodup_map_range (fun i j _ _ h=>?_),nodup_map_range (fun i j _ _ h=>?_),?_⟩
 ·simp at h;exact offB_inj (c:=cl) (by omega)
 ·simp at h;omega
 ·intro x hx y hy e
  obtain ⟨i,hi,rfl⟩:=List.mem_map.1 hx
  obtain ⟨j,hj,rfl⟩:=List.mem_map.1 hy
  have:=List.mem_range.1 hj
  have:=offB_ge cl i
  simp at e
  omega
def fmtR (cur:Nat→Nat) (ln cl g:Nat):Nat→Nat:=wrS (wrS cur (fmtW ln cl g)) [(64 * ln,hdrW cl g)]
theorem fmtR_out {cur:Nat→Nat} {ln cl g i:Nat} (hc:cl < 5) (hg:g < 65536) (h:i < 8 * ln∨8 * ln+256≤i):fmtR cur ln cl g i=cur i:=by
 unfold fmtR
 rw [wrS_other,wrS_other]
 ·intro e he
  have:=fmtW_mem hc hg he
  omega
 ·intro e he
  simp at he
  subst he
  show 64 * ln / 8≠i
  omega
theorem fmtR_bnd {cur:Nat→Nat} {ln cl g:Nat} (hc:cl < 5) (hg:g < 65536) (hb:∀ i,cur i < 18446744073709551616) (i:Nat):fmtR cur ln cl g i < 18446744073709551616:=by
 unfold fmtR
 refine wrS_bnd _ _ (wrS_bnd _ _ hb (fun e he=>(fmtW_mem hc hg he).2.2.2)) (fun e he=>?_) i
 simp at he
 subst he
 exact hdrW_lt hc hg
theorem bitAt_zero (i:Nat):bitAt 0 i=false:=by simp [bitAt]
theorem fmtR_ok {cur:Nat→Nat} {ln cl g:Nat} (hc:cl < 5) (h0:0 < g) (hg:g < 65536):ChW (fmtR cur ln cl g) ln cl g 0 (fun _=>⟨g,0,176⟩):=by
 have hw:∀ e∈fmtW ln cl g,fmtR cur ln cl g (e.1 / 8)=e.2:=fun e he=>by
  unfold fmtR
  have hm:=fmtW_mem hc hg he
  rw [wrS_other _ _ _ (fun x hx=>by simp at hx;subst hx;show 64 * ln / 8≠e.1 / 8;omega)]
  exact wrS_get _ _ (fmtW_nodup ln cl g) (fun x hx=>(fmtW_mem hc hg hx).1) e he
 have hz:∀ j,j < 7→fmtR cur ln cl g (8 * ln+(j+1))=0:=fun j hj=>by
  have h:=hw (64 * ln+8 * (j+1),0) (by unfold fmtW;exact List.mem_append.2 (.inr (List.mem_map.2 ⟨j,List.mem_range.2 hj,rfl⟩)))
  have e:(64 * ln+8 * (j+1)) / 8=8 * ln+(j+1):=by omega
  rw [← e];exact h
 refine ⟨?_,hc,h0,hg,?_,by omega,?_,?_,?_,?_,?_,Nat.pow_pos (by omega)⟩
 ·have e:8 * ln=64 * ln / 8:=by omega
  rw [e]
  unfold fmtR
  show upd _ (64 * ln / 8) (hdrW cl g) (64 * ln / 8)=_
  simp [upd]
 ·exact hz 0 (by omega)
 ·intro j h2 h8
  have h:=hz (j - 1) (by omega)
  rw [show j - 1+1=j by omega] at h
  exact h
 ·intro i hi;exact ⟨hg,by show (0:Nat) < 256;omega,by show (176:Nat) < 256;omega⟩
 ·intro i hi
  have:(g != 0)=true:=by simp;omega
  simp [BK.good,this]
 ·intro i hi
  have h:=hw (64 * ln+8 * offB cl i,BK.w ⟨g,0,176⟩) (by unfold fmtW;exact List.mem_append.2 (.inl (List.mem_map.2 ⟨i,List.mem_range.2 hi,rfl⟩)))
  have e:(64 * ln+8 * offB cl i) / 8=8 * ln+offB cl i:=by omega
  rw [← e];exact h
 ·intro i hi;rw [bitAt_zero];rfl
def hdrAt (ln cl i:Nat):Prop:=(8 * ln≤i∧i < 8 * ln+8)∨∃ j,j < perC cl∧i=8 * ln+offB cl j
theorem ChW.same {cur cur':Nat→Nat} {ln cl g V:Nat} {bs:Nat→BK} (h:ChW cur ln cl g V bs) (he:∀ i,hdrAt ln cl i→cur' i=cur i):ChW cur' ln cl g V bs :=
 {h with
  hdr:=(he _ (.inl ⟨by omega,by omega⟩)).trans h.hdr
  bits:=(he _ (.inl ⟨by omega,by omega⟩)).trans h.bits
  zero:=fun j h2 h8=>(he _ (.inl ⟨by omega,by omega⟩)).trans (h.zero j h2 h8)
  word:=fun i hi=>(he _ (.inr ⟨i,hi,rfl⟩)).trans (h.word i hi) }
theorem hdrAt_in {ln cl i:Nat} (h:hdrAt ln cl i):8 * ln≤i∧i < 8 * ln+256:=by
 rcases h with h | ⟨j,hj,rfl⟩
 ·omega
 ·have:=off_lt hj;omega
theorem hdrAt_pay {ln cl i j:Nat} (hi:i < perC cl) (hj:j < payW cl):¬ hdrAt ln cl (8 * ln+offB cl i+1+j):=by
 intro h
 have h8:=offB_ge cl i
 rcases h with h | ⟨k,hk,h⟩
 ·omega
 ·rcases Nat.lt_trichotomy i k with h1 | h1 | h1
  ·have:=off_inj (c:=cl) h1;omega
  ·subst h1;omega
  ·have:=off_inj (c:=cl) h1;omega
theorem CSok.same {cur cur':Nat→Nat} {ln:Nat} {c:CS} (h:CSok cur ln c) (he:∀ i,8 * ln≤i→i < 8 * ln+256→(c.dv=true→hdrAt ln c.cl i)→cur' i=cur i):CSok cur' ln c:=by
 unfold CSok at *
 cases hd:c.dv
 ·rw [hd] at h
  obtain ⟨h1,h2,h3⟩:=h
  exact ⟨(he _ (by omega) (by omega) (fun h=>by rw [hd] at h;cases h)).trans h1,h2,h3⟩
 ·rw [hd] at h
  exact ChW.same h (fun i hi=>he i (hdrAt_in hi).1 (hdrAt_in hi).2 (fun _=>hi))
def newC (cl g:Nat):CS:=⟨true,cl,g,0,fun _=>⟨g,0,176⟩⟩
theorem newC_ok {cur:Nat→Nat} {ln cl g:Nat} (hc:cl < 5) (h0:0 < g) (hg:g < 65536):CSok (fmtR cur ln cl g) ln (newC cl g):=fmtR_ok hc h0 hg
end
section
open Go.RowKit Go.Maps
structure HA where
 h:Nat
 gs:Nat
 pl:Nat
 po:Nat
 mr:Nat
 mh:Nat
def HA.p (x:HA):PA:=⟨x.gs,x.pl,x.po⟩
def HA.fp (x:HA):Fp:=fun k=>k=x.pl∨k=x.mr∨k=x.mh
structure HS (a:DA) (s n K:Nat) (x:HA) (cs:Nat→CS) (f:Nat→Option Nat) (N m:Nat) (w:World):Prop where
 heap:Blk w x.h 194 (heapCells a s n x.gs x.mr x.mh false)
 plc:Plc a s K x.p cs w
 res:PMap w x.mr N f m
 held:HMap w x.mh N
 ne:x.mr≠x.mh
theorem blk_ne_map {H:Type} {P:Program} {k:TypeId} {R:Value→Option (DataW H × List MemPlace)} {w:World} {b n g:Nat} {D:DataW H} {t:TypeId} {cs:Array Value} (h:w.ownsMap P k R b n D) (hB:Blk w g t cs):g≠b:=by
 intro e
 subst e
 obtain ⟨es,clock,hb,_⟩:=h
 unfold Blk at hB
 rw [hB] at hb
 cases hb
section
variable {a:DA} {s n K:Nat} {x:HA} {cs:Nat→CS} {f:Nat→Option Nat} {N m:Nat} {w w':World}
theorem HS.map_ne (h:HS a s n K x cs f N m w) {g:Nat} {t:TypeId} {vs:Array Value} (hB:Blk w g t vs):g≠x.mr∧g≠x.mh:=by
 obtain ⟨D,ho,_⟩:=h.res
 obtain ⟨D2,ho2⟩:=h.held
 exact ⟨blk_ne_map ho hB,blk_ne_map ho2 hB⟩
theorem HS.pl_ne (h:HS a s n K x cs f N m w):x.pl≠x.mr∧x.pl≠x.mh∧x.gs≠x.mr∧x.gs≠x.mh∧x.h≠x.mr∧x.h≠x.mh∧x.gs≠x.pl∧x.h≠x.pl:=by
 obtain ⟨⟨c,hs⟩,pcs,hp,_⟩:=h.plc
 obtain ⟨h1,h2⟩:=h.map_ne hp
 obtain ⟨h3,h4⟩:=h.map_ne hs
 obtain ⟨h5,h6⟩:=h.map_ne h.heap
 exact ⟨h1,h2,h3,h4,h5,h6,h.plc.ne,h.heap.ne_ hp (by decide)⟩
theorem HS.chg {Z:Fp} (h:HS a s n K x cs f N m w) (hc:Chg Z w w') (h1:¬ Z x.h) (h2:¬ Z x.gs) (h3:¬ Z x.pl) (h4:¬ Z x.mr) (h5:¬ Z x.mh):HS a s n K x cs f N m w' :=
 ⟨hc.blk h.heap h1,h.plc.chg hc h2 h3,h.res.chg hc h4,h.held.chg hc h5,h.ne⟩
theorem HS.below (h:HS a s n K x cs f N m w) (hb:Below w.heap.size w w'):HS a s n K x cs f N m w':=h.chg (Chg.of_below (S:=Fp.no) hb) (fun h=>h) (fun h=>h) (fun h=>h) (fun h=>h) (fun h=>h)
theorem HS.mono {N':Nat} (h:HS a s n K x cs f N m w) (hN:N≤N'):HS a s n K x cs f N' m w:=⟨h.heap,h.plc,h.res.mono hN,h.held.mono hN,h.ne⟩
theorem HS.lt (h:HS a s n K x cs f N m w):x.h < w.heap.size∧x.gs < w.heap.size∧x.pl < w.heap.size∧x.mr < w.heap.size∧x.mh < w.heap.size :=
 ⟨h.heap.lt,h.plc.lt.1,h.plc.lt.2,h.res.lt,h.held.lt⟩
end
def blkO (ln cl i:Nat):Nat:=64 * ln+8 * offB cl i+8
def ResLoc (s K:Nat) (cs:Nat→CS) (o p:Nat):Prop:=∃ k i,k < K∧(cs k).dv=true∧i < perC (cs k).cl∧o=blkO (s+32 * k) (cs k).cl i∧pOff p=o
structure DS (a:DA) (L T s n K:Nat) (x:HA) (cs:Nat→CS) (f:Nat→Option Nat) (N m b0:Nat) (S:Fp) (cur:Nat→Nat) (w:World):Prop where
 dev:Dev a L T w S cur 0
 hs:HS a s n K x cs f N m w
 ok:∀ k,k < K→CSok cur (s+32 * k) (cs k)
 bnd:∀ i,cur i < 18446744073709551616
 res:∀ o p,f o=some p→ResLoc s K cs o p
 tab:Tab w
 pay:Pay w
 lo:1 < b0∧0 < b0∧b0≤x.h∧b0≤x.gs∧b0≤x.pl∧b0≤x.mr∧b0≤x.mh∧∀ k,S k→b0≤k
 off:¬ S x.h∧¬ S x.gs∧¬ S x.pl∧¬ S x.mr∧¬ S x.mh
 hK:n / 32=K∧1≤K∧s+n≤L∧0 < s
section
variable {a:DA} {L T s n K:Nat} {x:HA} {cs:Nat→CS} {f:Nat→Option Nat} {N m b0:Nat} {S:Fp} {cur:Nat→Nat} {w w':World}
theorem DS.below (h:DS a L T s n K x cs f N m b0 S cur w) (hb:Below w.heap.size w w'):DS a L T s n K x cs f N m b0 S cur w' :=
 { h with dev:=h.dev.below hb,hs:=h.hs.below hb,tab:=h.tab.below hb,pay:=h.pay.below hb }
theorem DS.hL (h:DS a L T s n K x cs f N m b0 S cur w):L≤4096:=by
 obtain ⟨ls,exe,per,cs',lsC,hdc,hnt⟩:=h.dev
 exact hdc.hL
theorem DS.line (h:DS a L T s n K x cs f N m b0 S cur w) {k:Nat} (hk:k < K):s+32 * k+32≤L:=by
 have h1:=h.hK
 omega
theorem DS.few (h:DS a L T s n K x cs f N m b0 S cur w):K≤128∧s≤4096:=by
 have h1:=h.hK
 have h2:=h.hL
 omega
theorem DS.more {T':Nat} (h:DS a L T s n K x cs f N m b0 S cur w) (hT:T≤T') (hT':T'≤1000000000):DS a L T' s n K x cs f N m b0 S cur w :=
 { h with dev:=h.dev.more hT hT' }
theorem DS.dev_ {T':Nat} {S':Fp} {cur':Nat→Nat} (h:DS a L T s n K x cs f N m b0 S cur w) (hd:Dev a L T' w' S' cur' 0) (hc:Chg S w w') (hg:Grew S S' w) (hok:∀ k,k < K→CSok cur' (s+32 * k) (cs k)) (hb:∀ i,cur' i < 18446744073709551616) :
  DS a L T' s n K x cs f N m b0 S' cur' w':=by
 obtain ⟨o1,o2,o3,o4,o5⟩:=h.off
 obtain ⟨l1,l2,l3,l4,l5,l6,l7,l8⟩:=h.lo
 obtain ⟨z1,z2,z3,z4,z5⟩:=h.hs.lt
 have hlow:∀ g,g < b0→¬ S g:=fun g hgb hs=>by have:=l8 g hs;omega
 refine ⟨hd,h.hs.chg hc o1 o2 o3 o4 o5,hok,hb,h.res,h.tab.chg hc (hlow _ l1),fun i hi=>(World.cell?_of_block (w:=w) (hc.block _ h.pay.size (hlow _ l2))).trans (h.pay i hi),⟨l1,l2,l3,l4,l5,l6,l7,fun k hk=>?_⟩,⟨?_,?_,?_,?_,?_⟩,h.hK⟩
 ·rcases hg k hk with h' | h'
  ·exact l8 k h'
  ·omega
 all_goals
  refine hg.off ⟨?_,?_⟩
  ·omega
  ·assumption
theorem DS.own_ {cs':Nat→CS} {f':Nat→Option Nat} {N' m':Nat} (h:DS a L T s n K x cs f N m b0 S cur w) (hs:HS a s n K x cs' f' N' m' w') (hc:Chg x.fp w w') (hok:∀ k,k < K→CSok cur (s+32 * k) (cs' k)) (hr:∀ o p,f' o=some p→ResLoc s K cs' o p) :
  DS a L T s n K x cs' f' N' m' b0 S cur w':=by
 obtain ⟨o1,o2,o3,o4,o5⟩:=h.off
 obtain ⟨l1,l2,l3,l4,l5,l6,l7,l8⟩:=h.lo
 have hlow:∀ g,g < b0→¬ x.fp g:=fun g hgb hs=>by
  rcases hs with h | h | h <;> omega
 exact ⟨h.dev.chg hc (fun k hk hz=>by rcases hz with rfl | rfl | rfl <;> contradiction),hs,hok,h.bnd,hr,h.tab.chg hc (hlow _ l1),fun i hi=>(World.cell?_of_block (w:=w) (hc.block _ h.pay.size (hlow _ l2))).trans (h.pay i hi),h.lo,h.off,h.hK⟩
end
end
section
open Go.RowKit
def cksOf (s:Nat) (cs:Nat→CS) (cl K:Nat):List Int:=((List.range K).filter fun k=>(cs k).dv && (cs k).cl == cl).map fun k=>((s+32 * k:Nat):Int)
theorem cksOf_succ (s:Nat) (cs:Nat→CS) (cl K:Nat):cksOf s cs cl (K+1)=if ((cs K).dv && (cs K).cl == cl)=true then cksOf s cs cl K++[((s+32 * K:Nat):Int)] else cksOf s cs cl K:=by
 unfold cksOf
 rw [List.range_succ,List.filter_append,List.map_append]
 by_cases h:((cs K).dv && (cs K).cl == cl)=true
 ·rw [if_pos h];simp [h]
 ·rw [if_neg h];simp [h]
theorem cks_own (c:CS) (cl:Nat):((c.own == 0) && (c.cls == (cl:Int)))=(c.dv && c.cl == cl):=by
 unfold CS.own CS.cls
 cases c.dv
 ·rfl
 ·simp only [if_true,Bool.true_and,beq_self_eq_true]
  by_cases h:c.cl=cl
  ·rw [h];simp
  ·rw [beq_eq_false_iff_ne.2 h,beq_eq_false_iff_ne];omega
theorem cksOf_mem {s:Nat} {cs:Nat→CS} {cl K:Nat} {x:Int} (h:x∈cksOf s cs cl K):∃ k,k < K∧(cs k).dv=true∧(cs k).cl=cl∧x=((s+32 * k:Nat):Int):=by
 unfold cksOf at h
 obtain ⟨k,hk,rfl⟩:=List.mem_map.1 h
 obtain ⟨h1,h2⟩:=List.mem_filter.1 hk
 simp at h1 h2
 exact ⟨k,h1,h2.1,h2.2,rfl⟩
theorem cksOf_in {s:Nat} {cs:Nat→CS} {cl K k:Nat} (hk:k < K) (h1:(cs k).dv=true) (h2:(cs k).cl=cl):((s+32 * k:Nat):Int)∈cksOf s cs cl K:=by
 unfold cksOf
 refine List.mem_map.2 ⟨k,List.mem_filter.2 ⟨List.mem_range.2 hk,?_⟩,rfl⟩
 simp [h1,h2]
theorem cksOf_len (s:Nat) (cs:Nat→CS) (cl K:Nat):(cksOf s cs cl K).length≤K:=by
 unfold cksOf
 rw [List.length_map]
 exact Nat.le_trans (List.length_filter_le _ _) (by simp)
theorem chunks_any {a:DA} {s K:Nat} {x:PA} {cs:Nat→CS} {w:World} (h:Plc a s K x cs w) (hK:K≤128) (_hs:s≤100000) (cl:Nat) :
  Calls Tryz.prog 376 #[.pointer (some ⟨x.gs,0,none⟩), .int .i64 0, .int .i64 (cl:Int)] w (RetLns w (cksOf s cs cl K)):=by
 obtain ⟨c,_,f1⟩:=h.sets
 have HP:=hid h
 obtain ⟨i0,hi0,hz0,hz1,hz2⟩:=info_parts infoInt
 have HB0:Hid (Below w.heap.size w w):=Below.refl _ _
 have HO0:Hid (w.ownsRow w.heap.size 3 1 (.slice none 0 0) 0 (iCells [])):=World.ownsRow_nil _ _ _ _
 have dcl:decide ((cl:Int) < 0)=false:=decide_eq_false (by omega)
 clear h
 obtain ⟨gs,pl,po⟩:=x
 dsimp only at *
 go_enter Tryz.func376,Tryz.ntmps376
 go_wp2
 go_loopw [7,25] (fun p i wr=>∃ (k:Nat) (A1:Option Addr) (m1 c1:Nat) (l:List Int),k≤K∧i = .int .i64 k∧p = .slice A1 m1 c1∧Hid (l=cksOf s cs cl k)∧Hid (wr.ownsRow w.heap.size 3 1 (.slice A1 m1 c1) m1 (iCells l))∧Hid (Below w.heap.size w wr)) (fun _ i _=>K - (RowKit.intOf i).toNat)
 case atStart=>exact ⟨0,_,_,_,[],Nat.zero_le _,rfl,rfl,hid rfl,HO0,HB0⟩
 case round =>
  clear HB0 HO0
  obtain ⟨k,A1,m1,c1,l,hk,rfl,rfl,HL,HO,H⟩:=hrel
  by_cases hlt:k < K
  ·obtain ⟨f0,f2,f3,b4,f4⟩:=(HP.out.below H.out).facts (k:=k) hlt
   dsimp only at f0 f2 f3 f4
   have hz5:(0:Int)≤(k:Int):=by omega
   have hz6:(k:Int) < (K:Int):=by omega
   have hm1:m1≤128:=by have h1:=HO.out.1;have h2:=cksOf_len s cs cl k;rw [iCells_len,HL.out] at h1;omega
   have HCO:=hid (cks_own (cs k) cl)
   have HSU:=hid (cksOf_succ s cs cl k)
   generalize hbb:((cs k).dv && (cs k).cl == cl)=bb at *
   rw [← HL.out] at HSU
   have HCK:Hid (cksOf s cs cl (k+1)=cksOf s cs cl (k+1)):=hid rfl
   clear hbb
   generalize ((s+32 * k:Nat):Int)=v at *
   generalize (cs k).cls=v1 at *
   generalize (cs k).own=v2 at *
   have HLE:=hid H.out.size
   have HOD:=hid ((HO.out.alloc (.cells #[.int .i64 v, .int .i64 v1, .int .i64 v2, .bool b4] 408)))
   have HBD:=hid ((H.out.alloc H.out.size (.cells #[.int .i64 v, .int .i64 v1, .int .i64 v2, .bool b4] 408)))
   have HOE:=hid (HOD.out.alloc (.cells #[.int .i64 v] 3))
   have HBE:=hid (HBD.out.alloc (by have:=H.out.size;simp;omega) (.cells #[.int .i64 v] 3))
   clear H HO HCK
   cases bb
   ·have HLN:Hid (l=cksOf s cs cl (k+1)):=hid (by rw [HSU.out];rfl)
    by_cases hv2:v2=0
    ·have q1:(v2 == 0)=true:=by rw [hv2];rfl
     have q2:(v1 == (cl:Int))=false:=by have:=HCO.out;rw [q1] at this;simpa using this
     clear hv2 HCO HSU HL
     go_wp2
     go_roundw
     case rel =>
      first
       | exact ⟨k+1,_,_,_,_,by omega,by go_num,rfl,HLN,HOD,HBD⟩
       | (
         repeat apply Exists.intro
         refine ⟨?_,rfl⟩
         exact ⟨k+1,_,_,_,_,by omega,by go_num,rfl,HLN,HOD,HBD⟩)
     case measure=>simp [RowKit.intOf];omega
    ·have q1:(v2 == 0)=false:=by rw [beq_eq_false_iff_ne];exact hv2
     clear hv2 HCO HSU HL
     go_wp2
     go_roundw
     case rel =>
      first
       | exact ⟨k+1,_,_,_,_,by omega,by go_num,rfl,HLN,HOD,HBD⟩
       | (
         repeat apply Exists.intro
         refine ⟨?_,rfl⟩
         exact ⟨k+1,_,_,_,_,by omega,by go_num,rfl,HLN,HOD,HBD⟩)
     case measure=>simp [RowKit.intOf];omega
   ·have HLN:Hid (l++[v]=cksOf s cs cl (k+1)):=hid (by rw [HSU.out];rfl)
    have q1:(v2 == 0)=true:=by have:=HCO.out;rw [Bool.and_eq_true] at this;exact this.1
    have q2:(v1 == (cl:Int))=true:=by have:=HCO.out;rw [Bool.and_eq_true] at this;exact this.2
    clear HCO HSU HL HOD HBD
    go_wp2_with (first
     | (at_builtin;refine wpList_app _ (.tmp 39) (.tmp 42) 34 rfl rfl w.heap.size 3 i0 _ 1 8 Tryz.underlying34 hi0 hz0 hz1 hz2 rfl ?q1 (.slice A1 m1 c1) m1 (iCells l) rfl HOE.out (wr.heap.size+1+1) (some ⟨wr.heap.size+1,0,none⟩) 1 1 [.int .i64 v] rfl ?q5 ?q6 ?q2 ?q3 ?q4 ?_;(case q1=>omega);(case q5=>exact row_reads_at _ _ (by simp) _ 1 1 3 _ rfl rfl);(case q6=>(intro u hu;simp at hu;subst hu;rfl));(case q2=>(unfold maxLen;omega));(case q3=>omega);(case q4=>(have:=HLE.out;simp;omega));intro A3 n3 c3 w8 hn3 ho3 hg3 hb3;have HN3:=hid hn3;have HO3:=hid ho3;have HB3:=hid (HBE.out.trans hb3);clear hn3 ho3 hg3 hb3)
     | go_in)
    have HO4:Hid (w8.ownsRow w.heap.size 3 1 (.slice A3 n3 c3) n3 (iCells (l++[v]))):=hid (by have h:=HO3.out;simpa [iCells] using h)
    go_roundw
    case rel =>
     first
      | exact ⟨k+1,_,_,_,_,by omega,by go_num,rfl,HLN,HO4,HB3⟩
      | (
        repeat apply Exists.intro
        refine ⟨?_,rfl⟩
        exact ⟨k+1,_,_,_,_,by omega,by go_num,rfl,HLN,HO4,HB3⟩)
    case measure=>simp [RowKit.intOf];omega
  ·obtain rfl:K=k:=by omega
   have HOK:Hid (wr.ownsRow w.heap.size 3 1 (.slice A1 m1 c1) m1 (iCells (cksOf s cs cl K))):=hid (by rw [← HL.out];exact HO.out)
   go_wp2
   go_ret
   exact ⟨_,_,_,rfl,HOK.out,H.out⟩
end
section
open Go.RowKit
def zerW (o k:Nat):List (Nat × Nat):=(List.range k).map fun j=>(o+8 * j,0)
theorem zerW_succ (o k:Nat):zerW o (k+1)=zerW o k++[(o+8 * k,0)]:=by simp [zerW,List.range_succ]
theorem zerW_len (o k:Nat):(zerW o k).length=k:=by simp [zerW]
theorem zerW_mem {o k:Nat} {e:Nat × Nat} (h:e∈zerW o k):∃ j,j < k∧e=(o+8 * j,0):=by
 obtain ⟨j,hj,rfl⟩:=List.mem_map.1 h
 exact ⟨j,List.mem_range.1 hj,rfl⟩
theorem zero_any {a:DA} {L T:Nat} {w:World} {S:Fp} {cur:Nat→Nat} (h:Dev a L T w S cur 0) (hp:Pay w) (g:Nat) (hcs:Array Value) (hB:Blk w g 194 hcs) (hc0:hcs[0]?=some (memV a)) (hgS:¬ S g) (p cl O:Nat) (hc:cl < 5) (hp0:p≠0) (hO:pOff p=O) (hOL:O+8 * payW cl≤64 * L) (hT:T+200≤1000000000) :
  Calls Tryz.prog 349 #[.pointer (some ⟨g,0,none⟩), .int .u64 (p:Int), .int .i64 (cl:Int)] w (RetDev a L (T+200) w S (wrS cur (zerW O (payW cl))) 0 (.int .i64 0)):=by
 have hL:L≤4096:=by obtain ⟨ls,exe,per,cs,lsC,hdc,hnt⟩:=h;exact hdc.hL
 have hO8:O % 8=0:=by rw [← hO];unfold pOff;omega
 have HD:=hid h
 have HBB:=hid hB
 have hc0':w.cell? ⟨g,0,none⟩=some (memV a):=(hB.cell 0).trans hc0
 have HC0:=hid hc0
 obtain ⟨i0,hi0,hz0,hz1,hz2⟩:=info_parts infoWrite
 have HWo:=hid (szWords_any cl hc w hp)
 have hpay:=pay_le cl
 have HAt:Hid (∀ j,j < payW cl→∀ W,Calls Tryz.prog 49 #[.int .u64 (p:Int), .int .i64 (j:Int)] W fun e w'=>e = .returned (.int .u64 ((O+8 * j:Nat):Int))∧W=w'):=hid (fun j hj W=>by
  have h1:=at_any p j (by omega) W
  have h2:pAt p j=O+8 * j:=by unfold pAt;rw [if_neg (by omega),hO]
  rw [h2] at h1
  exact h1)
 have HZs:=hid (fun k=>zerW_succ O k)
 have HB0:Hid (Below w.heap.size w w):=Below.refl _ _
 have HO0:Hid (w.ownsRow w.heap.size 114 2 (.slice none 0 0) 0 (wrCells (zerW O 0))):=World.ownsRow_nil _ _ _ _
 have hm1:0 < payW cl:=by omega
 have HRun:Hid (∀ W A m c p',Below w.heap.size w W→W.ownsRow w.heap.size 284 3 (.slice A m c) m (insCells p')→IsStores (zerW O (payW cl)) p'→Calls Tryz.prog 78 #[.slice A m c,memV a] W (RetDev a L (T+200) W S (wrS cur (zerW O (payW cl))) 0 (.int .i64 0))):=hid (fun W A m c p' hW ho hp'=>by
  refine (run_stores (h.below hW) ho h.lt hp' (fun e he=>?_) (by rw [zerW_len];omega) (by rw [zerW_len];omega)).mono ?_
  ·obtain ⟨j,hj,rfl⟩:=zerW_mem he
   exact ⟨by show (O+8 * j) % 8=0;omega,by show O+8 * j < 64 * L;omega,by show 0 < _;omega⟩
  ·rintro e w' ⟨he,S',hd,hc,hg⟩
   exact ⟨he,S',hd.more (by rw [zerW_len];omega) (by omega),hc,hg⟩)
 clear h hB hp hO hp0 hc0 hc
 generalize payW cl=q at *
 unfold memV at *
 go_enter Tryz.func349,Tryz.ntmps349
 go_wp2_with (go_at_call 202;refine HWo.out.mono ?_;rintro e w1 ⟨rfl,rfl⟩)
 go_loopw [7,11] (fun v i wr=>∃ (k:Nat) (A1:Option Addr) (m1 c1:Nat),k≤q∧i = .int .i64 k∧v = .slice A1 m1 c1∧m1=k∧Hid (wr.ownsRow w.heap.size 114 2 (.slice A1 m1 c1) m1 (wrCells (zerW O k)))∧Hid (Below w.heap.size w wr)) (fun _ i _=>q - (RowKit.intOf i).toNat)
 case atStart=>exact ⟨0,_,_,_,Nat.zero_le _,rfl,rfl,rfl,HO0,HB0⟩
 case round =>
  clear HB0 HO0 hc0'
  obtain ⟨k,A1,m1,c1,hk,rfl,rfl,hm1',HO,H⟩:=hrel
  by_cases hlt:k < q
  ·have hz5:(0:Int)≤(k:Int):=by omega
   have hz6:(k:Int) < (q:Int):=by omega
   have hm2:m1≤60:=by omega
   have HM:=hid hm1'
   have HA:=hid (HAt.out k hlt)
   have HEQ:Hid (wrCells (zerW O k)++[.int .u64 ((O+8 * k:Nat):Int), .int .u64 0]=wrCells (zerW O (k+1))):=hid (by rw [HZs.out];simp [wrCells])
   have hq8:O+8 * k < 9000000000:=by omega
   generalize O+8 * k=y at *
   have HLE:=hid H.out.size
   have HOD:=hid (HO.out.alloc (.cells #[.int .u64 (y:Int), .int .u64 0] 114))
   have HBD:=hid (H.out.alloc H.out.size (.cells #[.int .u64 (y:Int), .int .u64 0] 114))
   clear H HO hm1'
   go_wp2_with (first
    | (go_at_call 49;refine (HA.out _).mono ?_;rintro e w1 ⟨rfl,rfl⟩)
    | (at_builtin;refine wpList_app _ (.tmp 14) (.tmp 19) 108 rfl rfl w.heap.size 114 i0 _ 2 16 Tryz.underlying108 hi0 hz0 hz1 hz2 rfl ?q1 (.slice A1 m1 c1) m1 (wrCells (zerW O k)) rfl HOD.out (wr.heap.size+1) (some ⟨wr.heap.size,0,none⟩) 1 1 [.int .u64 (y:Int), .int .u64 0] rfl ?q5 ?q6 ?q2 ?q3 ?q4 ?_;(case q1=>omega);(case q5=>exact row_reads_at _ _ rfl _ 1 2 114 _ rfl rfl);(case q6=>(intro u hu;simp at hu;rcases hu with rfl | rfl <;> rfl));(case q2=>(unfold maxLen;omega));(case q3=>omega);(case q4=>(have:=HLE.out;simp;omega));intro A3 n3 c3 w8 hn3 ho3 hg3 hb3;have HN3:=hid hn3;have HO3:=hid ho3;have HB3:=hid (HBD.out.trans hb3);clear hn3 ho3 hg3 hb3)
    | go_in)
   have b1:n3=k+1:=by have:=HN3.out;have:=HM.out;omega
   have HO4:Hid (w8.ownsRow w.heap.size 114 2 (.slice A3 n3 c3) n3 (wrCells (zerW O (k+1)))):=hid (by have h:=HO3.out;rw [HEQ.out] at h;exact h)
   go_roundw
   case rel =>
    first
     | exact ⟨k+1,_,_,_,by omega,by go_num,rfl,b1,HO4,HB3⟩
     | (
       repeat apply Exists.intro
       refine ⟨?_,rfl⟩
       exact ⟨k+1,_,_,_,by omega,by go_num,rfl,b1,HO4,HB3⟩)
   case measure=>simp [RowKit.intOf];omega
  ·obtain rfl:q=k:=by omega
   subst hm1'
   have HLE:=hid H.out.size
   have HSt:Hid (∀ W,Below wr.heap.size wr W→Calls Tryz.prog 105 #[.slice A1 m1 c1] W (RetProg w (IsStores (zerW O m1)))):=hid (fun W hW=>by
    refine (stores_small A1 m1 c1 (zerW O m1) W (((Reads.of_own HO.out).below hW).more hW.size) hm1 (by omega) (fun e he=>by obtain ⟨j,hj,rfl⟩:=zerW_mem he;show O+8 * j < _;omega)).mono ?_
    intro e w' hr
    exact RetProg.back (H.out.trans (hW.mono H.out.size)) hr)
   have HKr:=hid (HBB.out.below H.out HBB.out.lt)
   clear HO HAt HZs HD
   go_wp2_with fail
   have hcw:wr.cell? ⟨g,0,none⟩=some (.iface 58 (.pointer (some ⟨a.th 0,0,none⟩))):=(HKr.out.cell 0).trans HC0.out
   refine wp_region_script (fun w'=>w'.cell? ⟨g,0,none⟩=some (.iface 58 (.pointer (some ⟨a.th 0,0,none⟩)))) 7 [(true,0),(true,2),(true,3),(true,4),(true,5),(false,1),(false,6)] (by kernel_rfl) (by kernel_rfl) hcw ?_
   clear hcw
   refine wpScript_take (.slice A1 m1 c1) (by rfl) (by rfl) (fun w' hS=>?_) ?_
   ·go_simp
   simp only [zA,zB,Act.put,zD,zE,zF]
   refine wpScript_take (.pointer (some ⟨g,0,none⟩)) (by rfl) (by rfl) (fun w' hS=>?_) ?_
   ·go_simp
   simp only [zA,zB,zC,Act.put,zD,zE,zF]
   refine wpScript_take (.pointer (some ⟨g,0,none⟩)) (by rfl) (by rfl) (fun w' hS=>?_) ?_
   ·go_simp
   simp only [zA,zB,zC,Act.put,zD,zE,zF]
   refine wpScript_take (.pointer (some ⟨g,0,none⟩)) (by rfl) (by rfl) (fun w' hS=>?_) ?_
   ·go_simp
   simp only [zA,zB,zC,Act.put,zD,zE,zF]
   refine wpScript_take (.iface 58 (.pointer (some ⟨a.th 0,0,none⟩))) (by rfl) (by rfl) (fun w' hS=>?_) ?_
   ·go_simp
   simp only [zA,zB,zC,Act.put,zD,zE,zF]
   refine wpScript_do (by rfl) ?_
   go_wp2_with fail
   refine (HSt.out _ (Below.refl _ _).drew).mono ?_
   rintro e w2 ⟨A2,m2,c2,p2,rfl,hp2,ho2,hb2⟩
   have HR2:=hid (HRun.out w2 A2 m2 c2 p2 hb2 ho2 hp2)
   have HB2:=hid hb2
   have hk2:=HBB.out.below hb2 HBB.out.lt
   have HC2:=hid ((hk2.cell 0).trans HC0.out)
   have HK2:=hid hk2
   clear hp2 ho2 hb2 hk2 HSt
   go_wp2_with fail
   refine ⟨HC2.out,?_⟩
   refine wpScript_do (by rfl) ?_
   go_wp2_with fail
   refine HR2.out.mono ?_
   rintro e w3 ⟨rfl,S3,hd3,hc3,hg3⟩
   have HE:=hid (show Dev a L (T+200) w3 S3 (wrS cur (zerW O m1)) 0∧Chg S w w3∧Grew S S3 w from ⟨hd3,(Chg.of_below HB2.out).trans hc3 (Grew.refl _ _),fun k hk=>(hg3 k hk).imp id (fun h=>Nat.le_trans HB2.out.size h)⟩)
   have HC3:=hid (((hc3.blk HK2.out hgS).cell 0).trans HC0.out)
   clear hd3 hc3 hg3 HR2 hgS
   go_wp2_with fail
   refine ⟨HC3.out,?_⟩
   show wpList _ _ _ _ _ _
   simp only [List.drop_succ_cons,List.drop_zero]
   go_wp2_with fail
   refine NoPanic.normal ?_
   go_wp2
   go_ret
   exact ⟨rfl,S3,HE.out.1,HE.out.2.1,HE.out.2.2⟩
end
section
open Go.RowKit
theorem pick_any {a:DA} {s K:Nat} {x:PA} {cs:Nat→CS} {w:World} (h:Plc a s K x cs w) (_hK:K≤128) (_hs:s≤100000) (hf:∃ k,k < K∧(cs k).dv=false) :
  Calls Tryz.prog 396 #[.pointer (some ⟨x.gs,0,none⟩)] w fun e w'=>∃ k,k < K∧(cs k).dv=false∧e = .returned (.tuple #[.pointer (some ⟨x.pl,x.po+k * 4,none⟩), .int .i64 0])∧w=w':=by
 obtain ⟨c,_,f1⟩:=h.sets
 have HP:=hid h
 have HF:=hid hf
 clear h hf
 obtain ⟨gs,pl,po⟩:=x
 dsimp only at *
 go_enter Tryz.func396,Tryz.ntmps396
 go_wp2
 go_loopw [15] (fun i wr=>∃ (k:Nat),k≤K∧i = .int .i64 k∧Hid (∀ j,j < k→(cs j).dv=true)∧w=wr) (fun i _=>K - (RowKit.intOf i).toNat)
 case atStart=>exact ⟨0,Nat.zero_le _,rfl,hid (fun j hj=>by omega),rfl⟩
 case round =>
  obtain ⟨k,hk,rfl,HA,rfl⟩:=hrel
  by_cases hlt:k < K
  ·obtain ⟨f0,f2,f3,b4,f4⟩:=HP.out.facts (k:=k) hlt
   dsimp only at f0 f2 f3 f4
   have hz5:(0:Int)≤(k:Int):=by omega
   have hz6:(k:Int) < (K:Int):=by omega
   unfold CS.cls at f2
   by_cases hd:(cs k).dv=true
   ·rw [if_pos hd] at f2
    have hq:decide (((cs k).cl:Int) < 0)=false:=decide_eq_false (by omega)
    have HA2:Hid (∀ j,j < k+1→(cs j).dv=true):=hid (fun j hj=>by
     by_cases e:j=k
     ·rw [e];exact hd
     ·exact HA.out j (by omega))
    generalize (cs k).cl=v at *
    clear hd HA
    go_wp2
    go_roundw
    case rel =>
     first
      | exact ⟨k+1,by omega,by go_num,HA2,trivial⟩
      | exact ⟨k+1,by omega,by go_num,HA2,rfl⟩
      | (
        repeat apply Exists.intro
        refine ⟨?_,rfl⟩
        exact ⟨k+1,by omega,by go_num,HA2,rfl⟩)
    case measure=>simp [RowKit.intOf];omega
   ·rw [if_neg hd] at f2
    have HD:Hid ((cs k).dv=false):=hid (by simpa using hd)
    clear hd HA
    go_wp2
    go_ret2
    exact ⟨k,hlt,HD.out,rfl,rfl⟩
  ·exfalso
   obtain ⟨k0,h1,h2⟩:=HF.out
   have:=HA.out k0 (by omega)
   rw [h2] at this
   cases this
end
end Go.Proofs.YtfkjjoglnmeciaaGreatDoor
