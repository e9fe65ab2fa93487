/- The walks and laws that the claim leans on, part 29. -/
import Derived.Test.YtfkjjoglnmeciaaGreatDoorJav
import Derived.Test.YtfkjjoglnmeciaaGreatDoorJbb
set_option maxRecDepth 100000
set_option maxHeartbeats 16000000
namespace Go.Proofs.YtfkjjoglnmeciaaGreatDoor
open Go.Lib (hid)
section
open Go.RowKit Go.Maps
def homeOf (s K off:Nat):Option Nat:=if off < 64 * s then none else if K≤(off - 64 * s) / 2048 then none else some ((off - 64 * s) / 2048)
theorem homeOf_in {s K off k:Nat} (hk:k < K) (h1:64 * (s+32 * k)≤off) (h2:off < 64 * (s+32 * k)+2048):homeOf s K off=some k:=by
 unfold homeOf
 rw [if_neg (by omega),if_neg (by omega)]
 congr 1
 omega
theorem homeOf_blk {s K cl k i:Nat} (hk:k < K) (hi:i < perC cl):homeOf s K (blkO (s+32 * k) cl i)=some k:=by
 have h1:=off_lt hi
 have h2:=pay_le cl
 exact homeOf_in hk (by unfold blkO;omega) (by unfold blkO;omega)
def HomeP (s K off:Nat) (ln:Nat) (b:Bool):Prop:=(homeOf s K off=none∧ln=0∧b=false)∨∃ k,homeOf s K off=some k∧k < K∧ln=s+32 * k∧b=true
section
theorem home_any {a:DA} {s n K gs mr mh h:Nat} {lk:Bool} {w:World} (hB:Blk w h 194 (heapCells a s n gs mr mh lk)) (hs:s≤4096) (hn:n≤4096) (hK:n / 32=K) (off:Nat) (ho:off < 18446744073709551616) :
  Calls Tryz.prog 194 #[.pointer (some ⟨h,0,none⟩), .int .u64 (off:Int)] w fun e w'=>∃ (ln:Nat) (b:Bool),e = .returned (.tuple #[.int .i64 (ln:Int), .bool b])∧HomeP s K off ln b∧w=w':=by
 have f1:w.cell? ⟨h,1,none⟩=some (.int .i64 (s:Int)):=hB.cell 1
 have f2:w.cell? ⟨h,2,none⟩=some (.int .i64 (n:Int)):=hB.cell 2
 have u1:IntKind.u64.wrap (s:Int)=(s:Int):=by rw [IntKind.wrap_u64];omega
 have u2:IntKind.u64.wrap ((s:Int) * 64)=((64 * s:Nat):Int):=by rw [IntKind.wrap_u64];omega
 have d2:(n:Int).tdiv 32=(K:Int):=by rw [Int.tdiv_eq_ediv_of_nonneg (by omega)];omega
 have d3:(n:Int) / 32=(K:Int):=by omega
 have u3:IntKind.u64.wrap (K:Int)=(K:Int):=by rw [IntKind.wrap_u64];omega
 have hK1:K≤128:=by omega
 clear hB hK
 by_cases h1:off < 64 * s
 ·have HP:Hid (HomeP s K off 0 false):=hid (.inl ⟨by unfold homeOf;rw [if_pos h1],rfl,rfl⟩)
  have e1:decide ((off:Int) < ((64 * s:Nat):Int))=true:=decide_eq_true (by omega)
  have e1n:decide (off < 64 * s)=true:=decide_eq_true h1
  have hz:64 * s≤262144:=by omega
  clear h1
  generalize 64 * s=z at *
  go_enter Tryz.func194,Tryz.ntmps194
  go_wp2
  go_ret2
  exact ⟨0,false,rfl,HP.out,rfl⟩
 ·have e1:decide ((off:Int) < ((64 * s:Nat):Int))=false:=decide_eq_false (by omega)
  have e1n:decide (off < 64 * s)=false:=decide_eq_false h1
  obtain ⟨y,hy⟩:∃ y,off - 64 * s=y:=⟨_,rfl⟩
  have u4:IntKind.u64.wrap ((off:Int) - ((64 * s:Nat):Int))=(y:Int):=by rw [IntKind.wrap_u64];omega
  have hyl:y < 18446744073709551616:=by omega
  have e4:(y:Int) / 2048=((y / 2048:Nat):Int):=by omega
  have hz:64 * s≤262144:=by omega
  by_cases h2:K≤y / 2048
  ·have HP:Hid (HomeP s K off 0 false):=hid (.inl ⟨by unfold homeOf;rw [if_neg h1,hy,if_pos h2],rfl,rfl⟩)
   have e2:decide ((K:Int)≤((y / 2048:Nat):Int))=true:=decide_eq_true (by omega)
   have e2n:decide (K≤y / 2048)=true:=decide_eq_true h2
   clear h1 h2 hy
   generalize y / 2048=q at *
   generalize 64 * s=z at *
   go_enter Tryz.func194,Tryz.ntmps194
   go_wp2
   go_ret2
   exact ⟨0,false,rfl,HP.out,rfl⟩
  ·have HP:Hid (HomeP s K off (s+32 * (y / 2048)) true):=hid (.inr ⟨y / 2048,by unfold homeOf;rw [if_neg h1,hy,if_neg h2],by omega,rfl,rfl⟩)
   have e2:decide ((K:Int)≤((y / 2048:Nat):Int))=false:=decide_eq_false (by omega)
   have e2n:decide (K≤y / 2048)=false:=decide_eq_false h2
   have hq:y / 2048≤128:=by omega
   have u5:IntKind.i64.wrap ((y / 2048:Nat):Int)=((y / 2048:Nat):Int):=IntWalk.i64_in _ (by omega)
   clear h1 h2 hy
   generalize y / 2048=q at *
   generalize 64 * s=z at *
   go_enter Tryz.func194,Tryz.ntmps194
   go_wp2
   go_ret2
   exact ⟨s+32 * q,true,by rw [show ((s+32 * q:Nat):Int)=(s:Int)+(q:Int) * 32 by omega];rfl,HP.out,rfl⟩
theorem holds_any {a:DA} {s n K N m:Nat} {x:HA} {cs:Nat→CS} {f:Nat→Option Nat} {w:World} (h:HS a s n K x cs f N m w) (p:Nat) :
  Calls Tryz.prog 235 #[.pointer (some ⟨x.h,0,none⟩), .int .u64 (p:Int)] w fun e w'=>e = .returned (.bool (decide (f (pOff p)=some p)))∧Below w.heap.size w w':=by
 have HOf:=hid (off_any p)
 have hlk:=(h.res.chg ((Chg.refl Fp.no w).drew) (fun h=>h)).look (x:=pOff p) (by unfold pOff;omega)
 have y4:w.cell? ⟨x.h,4,none⟩=some (.map (some x.mr)):=h.heap.cell 4
 have HBd:Hid (Below w.heap.size w w.drew):=hid (Below.refl _ _).drew
 clear h
 generalize pOff p=o at *
 cases hf:f o with
 | none =>
  rw [hf] at hlk
  have hlk2:(Instr.lookup 190 (.map (some x.mr)) (.int .u64 (o:Int)) true).run Tryz.prog w.drew = .ok (.tuple #[.int .u64 0, .bool false]) w.drew:=hlk
  clear hlk hf
  go_enter Tryz.func235,Tryz.ntmps235
  go_wp2_with fail
  go_region_with (go_at_call 135;refine (HOf.out _).mono ?_;rintro e w1 ⟨rfl,rfl⟩)
  all_goals
   go_wp2
   go_ret
   exact ⟨rfl,HBd.out⟩
 | some q =>
  rw [hf] at hlk
  have hlk2:(Instr.lookup 190 (.map (some x.mr)) (.int .u64 (o:Int)) true).run Tryz.prog w.drew = .ok (.tuple #[.int .u64 (q:Int), .bool true]) w.drew:=hlk
  have eqb:((q:Int) == (p:Int))=decide (q=p):=by
   by_cases e:q=p
   ·subst e;simp
   ·rw [decide_eq_false e,beq_eq_false_iff_ne];omega
  have HQ:Hid (decide (some q=some p)=decide (q=p)):=hid (by simp)
  clear hlk hf
  generalize decide (q=p)=bq at *
  go_enter Tryz.func235,Tryz.ntmps235
  go_wp2_with fail
  go_region_with (go_at_call 135;refine (HOf.out _).mono ?_;rintro e w1 ⟨rfl,rfl⟩)
  all_goals
   go_wp2
   go_ret
   exact ⟨by rw [HQ.out];rfl,HBd.out⟩
end
end
section
open Go.RowKit Go.Maps
def Vac (s K:Nat) (cs:Nat→CS) (f:Nat→Option Nat) (cl k i:Nat):Prop:=k < K∧(cs k).dv=true∧(cs k).cl=cl∧i < perC cl∧((cs k).bs i).st=176∧f (offO s cs k i)=none
def SchP (s K:Nat) (cs:Nat→CS) (f:Nat→Option Nat) (cl kind:Nat) (v:Value):Prop :=
 (v = .tuple #[.int .u64 0, .int .i64 0, .int .i64 5]∧∀ k i,¬ Vac s K cs f cl k i) ∨
 ∃ k i,Vac s K cs f cl k i∧v = .tuple #[.int .u64 (fptr s cs kind k i:Int), .int .i64 ((s+32 * k:Nat):Int), .int .i64 0]
section
variable {a:DA} {L T s n K:Nat} {x:HA} {cs:Nat→CS} {f:Nat→Option Nat} {N m b0:Nat} {S:Fp} {cur:Nat→Nat} {w w':World}
theorem look_noneI (z:Int) (hz:(Lit.int .i64 z).wf=true) (W:World):(Instr.lookup 192 (.map none) (.int .i64 z) false).run Tryz.prog W = .ok (.bool false) W :=
 Maps.look_nil false keyedN Tryz.underlying192 (by kernel_rfl) (keyOf_int_mk Tryz.underlying3 hz)
theorem search_any (h:DS a L T s n K x cs f N m b0 S cur w) (cl kind:Nat) (hk0:0 < kind) (hk8:kind < 128) :
  Calls Tryz.prog 346 #[.pointer (some ⟨x.h,0,none⟩), .int .i64 0, .int .i64 (cl:Int), .int .u8 (kind:Int)] w fun e w'=>∃ v,e = .returned v∧SchP s K cs f cl kind v∧Below w.heap.size w w':=by
 have hfew:=h.few
 have HCk:=hid (chunks_any h.hs.plc hfew.1 (by omega) cl)
 have HWi:Hid (∀ k,k < K→(cs k).dv=true→∀ W,Below w.heap.size w W→Calls Tryz.prog 348 #[.pointer (some ⟨x.h,0,none⟩), .int .i64 ((s+32 * k:Nat):Int), .int .u8 (kind:Int)] W fun e w'=>∃ v,e = .returned v∧WithP s cs f kind k v∧Below W.heap.size W w'):=hid (fun k hk hd W hW=>within_any (h.below hW) hk hd kind hk0 hk8)
 have HD:=hid h.hs.heap
 have hx3:w.cell? ⟨x.h,3,none⟩=some (.pointer (some ⟨x.gs,0,none⟩)):=h.hs.heap.cell 3
 have HL:Hid (∀ y∈cksOf s cs cl K,∃ k,k < K∧(cs k).dv=true∧(cs k).cl=cl∧y=((s+32 * k:Nat):Int)):=hid (fun y hy=>cksOf_mem hy)
 have HIn:Hid (∀ k,k < K→(cs k).dv=true→(cs k).cl=cl→((s+32 * k:Nat):Int)∈cksOf s cs cl K):=hid (fun k h1 h2 h3=>cksOf_in h1 h2 h3)
 have HFw:=hid hfew
 have HLl:=hid (Nat.le_trans (cksOf_len s cs cl K) hfew.1)
 clear h hfew
 unfold HA.p at *
 dsimp only at *
 generalize cksOf s cs cl K=l at *
 go_enter Tryz.func346,Tryz.ntmps346
 go_wp2_with (go_at_call 376;refine HCk.out.mono ?_;rintro e w1 ⟨A,q,c,rfl,ho1,hb1⟩;refine stop ?_)
 unfold Stop
 have HR1:=hid (Reads.of_own ho1)
 have HB1:=hid hb1
 have hq128:q≤128:=by have:=ho1.1;rw [iCells_len] at this;have:=HLl.out;omega
 have HLn:=hid (show l.length=q by have:=ho1.1;rw [iCells_len] at this;omega)
 clear ho1 hb1 HCk hx3
 go_wp2_with fail
 have HI0:Hid (Below w1.heap.size w1 w1):=Below.refl _ _
 go_loopw [23] (fun i wr=>∃ (j:Nat),j≤q∧i = .int .i64 j∧Hid (∀ t,t < j→∀ k,k < K→(cs k).dv=true→(cs k).cl=cl→l[t]?=some ((s+32 * k:Nat):Int)→∀ i,¬ Vac s K cs f cl k i)∧Hid (Below w1.heap.size w1 wr)) (fun i _=>q - (RowKit.intOf i).toNat)
 case atStart=>exact ⟨0,Nat.zero_le _,rfl,hid (fun t ht=>by omega),HI0⟩
 case round =>
  clear HI0
  obtain ⟨j,hj,rfl,HA,H⟩:=hrel
  by_cases hlt:j < q
  ·have hjl:j < l.length:=by rw [HLn.out];exact hlt
   obtain ⟨b,off,hA,hbB,hcell⟩:=(HR1.out.below H.out).plain (by omega) (by omega)
   have f0:wr.cell? ⟨b,off+j,none⟩=some (.int .i64 l[j]):=hcell j _ (by simp [iCells,hjl])
   subst hA
   obtain ⟨k,hk,hdv,hcl,hy⟩:=HL.out l[j] (List.getElem_mem hjl)
   have HLj:=hid (show l[j]?=some ((s+32 * k:Nat):Int) by rw [List.getElem?_eq_getElem hjl,hy])
   rw [hy] at f0
   have hz5:(0:Int)≤(j:Int):=by omega
   have hz6:(j:Int) < (q:Int):=by omega
   have HBr:=hid (HB1.out.trans (H.out.mono HB1.out.size))
   have f6:wr.cell? ⟨x.h,6,none⟩=some (.map none):=(HD.out.below HBr.out HD.out.lt).cell 6
   have HWk:=hid (HWi.out k hk hdv wr HBr.out)
   have hlk:=look_noneI ((s+32 * k:Nat):Int) (WalkArith.wf_i64 ⟨by omega,by have:=HFw.out;omega⟩)
   have HK:=hid (show k < K∧(cs k).dv=true∧(cs k).cl=cl from ⟨hk,hdv,hcl⟩)
   clear hcell hy hk hdv hcl
   generalize hv:((s+32 * k:Nat):Int)=v at *
   have HV:=hid hv
   clear hv
   go_wp2_with (go_at_call 348;refine HWk.out.mono ?_;rintro e w2 ⟨v2,rfl,hP,hb2⟩;refine stop ?_)
   unfold Stop
   have HB2:=hid (H.out.trans (hb2.mono H.out.size))
   clear hb2 H HWk f0 f6
   rcases hP with ⟨rfl,hnone⟩ | ⟨i,hi,hst,hfi,rfl⟩
   ·have HA2:Hid (∀ t,t < j+1→∀ k,k < K→(cs k).dv=true→(cs k).cl=cl→l[t]?=some ((s+32 * k:Nat):Int)→∀ i,¬ Vac s K cs f cl k i):=hid (fun t ht k' hk' hd' hc' hl' i' hv'=>by
     by_cases e:t=j
     ·subst e
      have h1:=HLj.out
      rw [hl',← HV.out] at h1
      simp at h1
      have h2:k'=k:=by omega
      subst h2
      obtain ⟨_,_,h3,h4,h5,h6⟩:=hv'
      exact hnone i' (by rw [h3];exact h4) h5 h6
     ·exact HA.out t (by omega) k' hk' hd' hc' hl' i' hv')
    clear hnone HA HLj HV
    go_wp2
    go_roundw
    case rel =>
     first
      | exact ⟨j+1,by omega,by go_num,HA2,HB2⟩
      | (
        repeat apply Exists.intro
        refine ⟨?_,rfl⟩
        exact ⟨j+1,by omega,by go_num,HA2,HB2⟩)
    case measure=>simp [RowKit.intOf];omega
   ·have HVa:Hid (Vac s K cs f cl k i):=hid ⟨HK.out.1,HK.out.2.1,HK.out.2.2,by rw [← HK.out.2.2];exact hi,hst,hfi⟩
    have HBe:=hid (HB1.out.trans (HB2.out.mono HB1.out.size))
    clear hi hst hfi HA HLj HK
    generalize hfp:fptr s cs kind k i=fp at *
    have HFP:=hid hfp
    clear hfp
    go_wp2
    go_ret3
    exact ⟨_,rfl, .inr ⟨k,i,HVa.out,by rw [HV.out,HFP.out];rfl⟩,HBe.out⟩
  ·obtain rfl:q=j:=by omega
   have HNo:Hid (∀ k i,¬ Vac s K cs f cl k i):=hid (fun k i hv=>by
    have h1:=HIn.out k hv.1 hv.2.1 hv.2.2.1
    obtain ⟨t,ht,hte⟩:=List.getElem_of_mem h1
    exact HA.out t (by have:=HLn.out;omega) k hv.1 hv.2.1 hv.2.2.1 (by rw [List.getElem?_eq_getElem ht,hte]) i hv)
   have HBe:=hid (HB1.out.trans (H.out.mono HB1.out.size))
   clear HA
   go_wp2
   go_ret3
   exact ⟨_,rfl, .inl ⟨rfl,HNo.out⟩,HBe.out⟩
end
end
section
open Go.RowKit Go.Maps
theorem run_fmt {a:DA} {L T:Nat} {w:World} {S:Fp} {cur:Nat→Nat} (h:Dev a L T w S cur 0) {A:Option Addr} {m c base:Nat} {p:List Ins} {ln cl g:Nat} (ho:w.ownsRow base 284 3 (.slice A m c) m (insCells p)) (hb:∀ k,S k→k < base) (hp:IsFmt ln cl g p) (hl:ln+32≤L) (hc:cl < 5) (hg:g < 65536) (hT:T+200≤1000000000) :
  Calls Tryz.prog 78 #[.slice A m c,memV a] w (RetDev a L (T+200) w S (fmtR cur ln cl g) 0 (.int .i64 0)):=by
 obtain ⟨p1,p2,rfl,hp1,hp2⟩:=hp
 obtain ⟨hg1,hr1,hlen1⟩:=isStores_good (L:=L) hp1 (fun e he=>by have:=fmtW_mem hc hg he;exact ⟨this.1,by omega,this.2.2.2⟩) cur
 obtain ⟨hg2,hr2,hlen2⟩:=isStores_good (L:=L) hp2 (fun e he=>by simp at he;subst he;exact ⟨by show 64 * ln % 8=0;omega,by show 64 * ln < 64 * L;omega,hdrW_lt hc hg⟩) (wrS cur (fmtW ln cl g))
 have hm:(p1++p2).length=m:=by have:=ho.1;rw [insCells_len] at this;omega
 have hpc:=per_le cl
 rw [fmtW_len] at hlen1
 simp only [List.length_append,List.length_cons,List.length_nil] at hm hlen2
 refine (run_any h A m c _ (Reads.of_own ho) (own_off ho hb) (goodP_app hg1 hg2) (by omega) (by omega)).mono ?_
 rintro e w' ⟨he,S',hd,hc2,hgr⟩
 rw [runP_app,hr1,hr2] at hd
 exact ⟨he,S',hd.more (by omega) (by omega),hc2,hgr⟩
def RetClaim (a:DA) (L T s n K:Nat) (x:HA) (cs:Nat→CS) (f:Nat→Option Nat) (N m b0:Nat) (S:Fp) (cur:Nat→Nat) (w:World) (cl:Nat) (e:Ending) (w':World):Prop :=
 ∃ k S',k < K∧(cs k).dv=false∧e = .returned (.tuple #[.int .i64 ((s+32 * k:Nat):Int), .int .i64 0])∧DS a L (T+200) s n K x (updC cs k (newC cl (cs k).g)) f N m b0 S' (fmtR cur (s+32 * k) cl (cs k).g) w'∧Chg (fun j=>S j∨x.fp j) w w'∧Grew S S' w
section
variable {a:DA} {L T s n K:Nat} {x:HA} {cs:Nat→CS} {f:Nat→Option Nat} {N m b0:Nat} {S:Fp} {cur:Nat→Nat} {w w':World}
theorem DS.undiv (h:DS a L T s n K x cs f N m b0 S cur w) {k:Nat} (hk:k < K) (hd:(cs k).dv=false):cur (8 * (s+32 * k))=freeW (cs k).g∧0 < (cs k).g∧(cs k).g < 65536:=by
 have:=h.ok k hk
 unfold CSok at this
 rw [hd] at this
 exact this
theorem DS.claimed {T':Nat} {S':Fp} {w1:World} {k cl:Nat} (h:DS a L T s n K x cs f N m b0 S cur w) (hk:k < K) (hd:(cs k).dv=false) (hc:cl < 5) (hdev:Dev a L T' w1 S' (fmtR cur (s+32 * k) cl (cs k).g) 0) (hch:Chg S w w1) (hg:Grew S S' w) :
  DS a L T' s n K x (updC cs k (newC cl (cs k).g)) f N m b0 S' (fmtR cur (s+32 * k) cl (cs k).g) ((w1.setCell ⟨x.pl,x.po+k * 4+1,none⟩ (.int .i64 (cl:Int))).setCell ⟨x.pl,x.po+k * 4+2,none⟩ (.int .i64 0)) ∧
   Chg (fun j=>S j∨x.fp j) w ((w1.setCell ⟨x.pl,x.po+k * 4+1,none⟩ (.int .i64 (cl:Int))).setCell ⟨x.pl,x.po+k * 4+2,none⟩ (.int .i64 0)):=by
 obtain ⟨hw,hg0,hg1⟩:=h.undiv hk hd
 obtain ⟨o1,o2,o3,o4,o5⟩:=h.off
 obtain ⟨z1,z2,z3,z4,z5⟩:=h.hs.lt
 have hs1:HS a s n K x cs f N m w1:=h.hs.chg hch o1 o2 o3 o4 o5
 obtain ⟨n1,n2,n3,n4,n5,n6,n7,n8⟩:=hs1.pl_ne
 have hcg:Chg x.fp w1 ((w1.setCell ⟨x.pl,x.po+k * 4+1,none⟩ (.int .i64 (cl:Int))).setCell ⟨x.pl,x.po+k * 4+2,none⟩ (.int .i64 0)):=((Chg.refl _ w1).setCell (.inl (.inl rfl)) _).setCell (.inl (.inl rfl)) _
 have hcp:Chg (fun j=>j=x.pl) w1 ((w1.setCell ⟨x.pl,x.po+k * 4+1,none⟩ (.int .i64 (cl:Int))).setCell ⟨x.pl,x.po+k * 4+2,none⟩ (.int .i64 0)):=((Chg.refl (fun j=>j=x.pl) w1).setCell (p:=⟨x.pl,x.po+k * 4+1,none⟩) (.inl rfl) _).setCell (p:=⟨x.pl,x.po+k * 4+2,none⟩) (.inl rfl) _
 have hsK:∀ j,j≠k→∀ i,8 * (s+32 * j)≤i→i < 8 * (s+32 * j)+256→(i < 8 * (s+32 * k)∨8 * (s+32 * k)+256≤i):=fun j hj i h1 h2=>by omega
 have hok1:∀ j,j < K→CSok (fmtR cur (s+32 * k) cl (cs k).g) (s+32 * j) (updC cs k (newC cl (cs k).g) j):=fun j hj=>by
  unfold updC
  by_cases e:j=k
  ·subst e;rw [if_pos rfl];exact newC_ok hc hg0 hg1
  ·rw [if_neg e]
   exact (h.ok j hj).same (fun i h1 h2 _=>fmtR_out hc hg1 (hsK j e i h1 h2))
 have hpl:=hs1.plc.claim hk (newC cl (cs k).g)
 rw [show (newC cl (cs k).g).cls=(cl:Int) from rfl,show (newC cl (cs k).g).own=0 from rfl] at hpl
 have hs2:HS a s n K x (updC cs k (newC cl (cs k).g)) f N m ((w1.setCell ⟨x.pl,x.po+k * 4+1,none⟩ (.int .i64 (cl:Int))).setCell ⟨x.pl,x.po+k * 4+2,none⟩ (.int .i64 0)) :=
  ⟨hcp.blk hs1.heap n8,hpl,hs1.res.chg hcp (fun e=>n1 e.symm),hs1.held.chg hcp (fun e=>n2 e.symm),hs1.ne⟩
 have hlow:∀ g,g < b0→¬ S g:=fun g hgb hs=>by have:=h.lo.2.2.2.2.2.2.2 g hs;omega
 have hlow2:∀ g,g < b0→¬ x.fp g:=fun g hgb hs=>by
  obtain ⟨l1,l2,l3,l4,l5,l6,l7,l8⟩:=h.lo
  rcases hs with h | h | h <;> omega
 have hoff:∀ g,¬ S g→g < w.heap.size→¬ S' g:=fun g h1 h2=>hg.off ⟨h2,h1⟩
 have hfp:∀ g,S' g→¬ x.fp g:=fun g h1 h2=>by
  rcases h2 with rfl | rfl | rfl
  ·exact hoff _ o3 z3 h1
  ·exact hoff _ o4 z4 h1
  ·exact hoff _ o5 z5 h1
 obtain ⟨l1,l2,l3,l4,l5,l6,l7,l8⟩:=h.lo
 refine ⟨⟨hdev.chg hcg hfp,hs2,hok1,fmtR_bnd hc hg1 h.bnd,?_,(h.tab.chg hch (hlow _ l1)).chg hcg (hlow2 _ l1),?_,⟨l1,l2,l3,l4,l5,l6,l7,fun j hj=>?_⟩,⟨hoff _ o1 z1,hoff _ o2 z2,hoff _ o3 z3,hoff _ o4 z4,hoff _ o5 z5⟩,h.hK⟩,?_⟩
 ·rintro o p hop
  obtain ⟨j,i,hj,hdv,hi,ho,hp⟩:=h.res o p hop
  have hjk:j≠k:=fun e=>by rw [e,hd] at hdv;cases hdv
  have e:updC cs k (newC cl (cs k).g) j=cs j:=by unfold updC;rw [if_neg hjk]
  exact ⟨j,i,hj,by rw [e];exact hdv,by rw [e];exact hi,by rw [e];exact ho,hp⟩
 ·intro i hi
  have h1:=(World.cell?_of_block (w:=w) (a:=⟨0,i,none⟩) (hch.block _ h.pay.size (hlow _ l2))).trans (h.pay i hi)
  exact (World.cell?_of_block (w:=w1) (hcg.block _ (Nat.lt_of_lt_of_le h.pay.size hch.size) (hlow2 _ l2))).trans h1
 ·rcases hg j hj with h' | h'
  ·exact l8 j h'
  ·omega
 ·exact (hch.mono (fun j hj => .inl hj)).trans (S':=x.fp) hcg (fun j hj => .inl (.inr hj))
def ClmCut (w:World) (g:Nat) (er hp:Value) (wx:World):Prop:=er = .int .i64 0∧∃ gh,hp = .pointer (some ⟨gh,0,none⟩)∧Blk wx gh 304 #[.int .i64 (-1), .int .i64 (-1), .int .u16 (g:Int)]∧Below w.heap.size w wx
theorem clm_join {w wx:World} {g gh:Nat} (h1:Blk wx gh 304 #[.int .i64 (-1), .int .i64 (-1), .int .u16 (g:Int)]) (h2:Below w.heap.size w wx):Hid (ClmCut w g (.int .i64 0) (.pointer (some ⟨gh,0,none⟩)) wx):=hid ⟨rfl,gh,rfl,h1,h2⟩
theorem claimS_any (h:DS a L T s n K x cs f N m b0 S cur w) (cl:Nat) (hc:cl < 5) (hf:∃ k,k < K∧(cs k).dv=false) (hT:T+200≤1000000000) :
  Calls Tryz.prog 377 #[.pointer (some ⟨x.gs,0,none⟩), .int .i64 0, .int .i64 (cl:Int)] w (RetClaim a L T s n K x cs f N m b0 S cur w cl):=by
 have hfew:=h.few
 have hL:=h.hL
 have HD:=hid h
 have HPk:=hid (pick_any h.hs.plc hfew.1 (by omega) hf)
 have HPc:=hid (perChunk_any cl hc w h.pay)
 have HEr:=hid (thErr h.dev)
 have hm:=methErr (some ⟨a.th 0,0,none⟩)
 obtain ⟨cc,g0,g1⟩:=h.hs.plc.sets
 have e1:((perC cl:Int) == 0)=false:=by rw [beq_eq_false_iff_ne];have:=per_le cl;omega
 generalize perC cl=r at *
 have HC:=hid hc
 clear h hf hc
 unfold HA.p at *
 unfold RetClaim
 unfold memV at g0
 dsimp only at *
 go_enter Tryz.func377,Tryz.ntmps377
 go_wp2_with (first
  | (go_at_call 207;refine HPc.out.mono ?_;rintro e w1 ⟨rfl,rfl⟩)
  | (go_at_call 112;refine HEr.out.mono ?_;rintro e w1 ⟨rfl,rfl⟩)
  | (go_at_call 396;refine HPk.out.mono ?_;rintro e w1 ⟨k,hk,hdv,rfl,rfl⟩;refine stop ?_))
 unfold Stop
 obtain ⟨hfw,hg0,hg1⟩:=HD.out.undiv hk hdv
 have HLk:Hid (∀ W,Below w.heap.size w W→Calls Tryz.prog 293 #[.iface 58 (.pointer (some ⟨a.th 0,0,none⟩)), .int .i64 ((s+32 * k:Nat):Int)] W fun e w'=>e = .returned (.tuple #[.agg #[.int .i64 (-1), .int .i64 (-1), .int .u16 ((cs k).g:Int)], .int .i64 0])∧Below W.heap.size W w'):=hid (fun W hW=>look_undiv (HD.out.dev.below hW) (HD.out.tab.below hW) (s+32 * k) (cs k).g (HD.out.line hk) hg0 hg1 hfw)
 have HPl:Hid (∀ W,Below w.heap.size w W→Calls Tryz.prog 379 #[.int .i64 ((s+32 * k:Nat):Int), .agg #[.int .i64 (cl:Int), .int .i64 0, .int .u16 ((cs k).g:Int)]] W (RetProgOk W (IsFmt (s+32 * k) cl (cs k).g))):=hid (fun W hW=>chPlan_any (s+32 * k) cl (cs k).g (by have:=HD.out.line hk;omega) HC.out hg0 hg1 W (HD.out.tab.below hW) (HD.out.pay.below hW))
 have HRn:Hid (∀ W A m c p,Below w.heap.size w W→W.ownsRow w.heap.size 284 3 (.slice A m c) m (insCells p)→IsFmt (s+32 * k) cl (cs k).g p→Calls Tryz.prog 78 #[.slice A m c, .iface 58 (.pointer (some ⟨a.th 0,0,none⟩))] W (RetDev a L (T+200) W S (fmtR cur (s+32 * k) cl (cs k).g) 0 (.int .i64 0))):=hid (fun W A m c p hW ho hp=>run_fmt (HD.out.dev.below hW) ho HD.out.dev.lt hp (HD.out.line hk) HC.out hg1 hT)
 have HCl:Hid (∀ S' w1,Dev a L (T+200) w1 S' (fmtR cur (s+32 * k) cl (cs k).g) 0→Chg S w w1→Grew S S' w→_):=hid (fun S' w1 h1 h2 h3=>HD.out.claimed (T':=T+200) (S':=S') (w1:=w1) hk hdv HC.out h1 h2 h3)
 have HF1:Hid (∀ W,Plc a s K ⟨x.gs,x.pl,x.po⟩ cs W→W.cell? ⟨x.pl,x.po+k * 4,none⟩=some (.int .i64 ((s+32 * k:Nat):Int))∧W.cell? ⟨x.pl,x.po+k * 4+1,none⟩=some (.int .i64 (-1))∧W.cell? ⟨x.pl,x.po+k * 4+2,none⟩=some (.int .i64 (-1))):=hid (fun W hW=>by
  obtain ⟨q0,q1,q2,_⟩:=hW.facts hk
  unfold CS.cls CS.own at *
  rw [hdv] at q1 q2
  exact ⟨q0,q1,q2⟩)
 have HKD:=hid (show k < K∧(cs k).dv=false from ⟨hk,hdv⟩)
 obtain ⟨q0,q1,q2⟩:=HF1.out w HD.out.hs.plc
 obtain ⟨_,hgl,hpl,_,_⟩:=HD.out.hs.lt
 clear hfw hg0 hg1 hk hdv HPk HPc HEr q1 q2
 generalize hgg:(cs k).g=g at *
 have HGG:=hid hgg
 clear hgg
 generalize hv:((s+32 * k:Nat):Int)=v at *
 have HV:=hid hv
 clear hv
 go_wp2_with fail
 go_cut [10,11] from 43 to 94 (fun er hp wx=>Hid (ClmCut w g er hp wx))
 case first =>
  go_region_with (go_at_call 293;refine (HLk.out _ (by first | exact (Below.refl _ _).drew | exact (Below.refl _ _).drew.alloc (Nat.le_refl _) _)).mono ?_;rintro e w2 ⟨rfl,hb2⟩;have HB2:=hid hb2;(first | (have k2:Blk w2 w.heap.size 304 #[.int .i64 0, .int .i64 0, .int .u16 0]:=(Blk.new w.drew _ _).below hb2 (Blk.new w.drew _ _).lt;have p0:w2.cell? ⟨w.heap.size,0,none⟩=some (.int .i64 0):=k2.cell 0;have p1:w2.cell? ⟨w.heap.size,1,none⟩=some (.int .i64 0):=k2.cell 1;have p2:w2.cell? ⟨w.heap.size,2,none⟩=some (.int .u16 0):=k2.cell 2;have z0:w2.frozen? ⟨w.heap.size,0,none⟩=false:=k2.frozen 0;have z1:w2.frozen? ⟨w.heap.size,1,none⟩=false:=k2.frozen 1;have z2:w2.frozen? ⟨w.heap.size,2,none⟩=false:=k2.frozen 2;have K2:Hid (Blk w2 w.heap.size 304 #[.int .i64 0, .int .i64 0, .int .u16 0]):=hid k2;clear k2) | (have k2:Blk w2 w.heap.size 304 #[.int .i64 0, .int .i64 0, .int .u16 0]:=((Blk.new w _ _).drew).below hb2 ((Blk.new w _ _).drew).lt;have p0:w2.cell? ⟨w.heap.size,0,none⟩=some (.int .i64 0):=k2.cell 0;have p1:w2.cell? ⟨w.heap.size,1,none⟩=some (.int .i64 0):=k2.cell 1;have p2:w2.cell? ⟨w.heap.size,2,none⟩=some (.int .u16 0):=k2.cell 2;have z0:w2.frozen? ⟨w.heap.size,0,none⟩=false:=k2.frozen 0;have z1:w2.frozen? ⟨w.heap.size,1,none⟩=false:=k2.frozen 1;have z2:w2.frozen? ⟨w.heap.size,2,none⟩=false:=k2.frozen 2;have K2:Hid (Blk w2 w.heap.size 304 #[.int .i64 0, .int .i64 0, .int .u16 0]):=hid k2;clear k2) | skip);clear hb2)
  all_goals
   go_wp2_with fail
   go_meet
   first
    | (
      have hk3:=((K2.out.set_ 0 (.int .i64 (-1))).set_ 1 (.int .i64 (-1))).set_ 2 (.int .u16 (g:Int))
      have hb3:Below w.heap.size w w2:=by first | exact ((Below.refl w.heap.size w).drew.alloc (Nat.le_refl _) _).trans (HB2.out.mono (by simp)) | exact ((Below.refl w.heap.size w).alloc (Nat.le_refl _) _).drew.trans (HB2.out.mono (by simp))
      exact clm_join hk3 (((hb3.setCell (p:=⟨w.heap.size,0,none⟩) (Nat.le_refl _) _).setCell (p:=⟨w.heap.size,1,none⟩) (Nat.le_refl _) _).setCell (p:=⟨w.heap.size,2,none⟩) (Nat.le_refl _) _))
    | exact clm_join (Blk.new _ _ _) (((Below.refl w.heap.size w).drew.trans HB2.out).alloc HB2.out.size _)
 case rest =>
  obtain ⟨rfl,gh,rfl,hkh,hbh⟩:=hcut.out
  have HKh:=hid hkh
  have HBh:=hid hbh
  clear hkh hbh hcut
  clear HLk q0
  have HPw:=hid (HD.out.hs.plc.below HBh.out)
  obtain ⟨q0,q1,q2⟩:=HF1.out wc HPw.out
  have k2:wc.cell? ⟨gh,2,none⟩=some (.int .u16 (g:Int)):=HKh.out.cell 2
  go_wp2_with fail
  refine wp_region_script (fun w'=>Below wc.heap.size wc w') 14 [(true,0),(true,1),(true,2),(true,3),(true,4),(true,5),(true,6),(true,7),(true,8),(false,9),(true,10),(true,11),(true,12),(false,13)] (by kernel_rfl) (by kernel_rfl) (Below.refl _ _).drew ?_
  clear q0 q1 q2 k2
  refine wpScript_take (.pointer (some ⟨x.pl,x.po+k * 4,none⟩)) (by rfl) (by rfl) (fun w' hS=>?_) ?_
  ·go_simp
  simp only [zA,zB,Act.put,zD,zE,zF]
  refine wpScript_take (.pointer (some ⟨x.pl,x.po+k * 4,none⟩)) (by rfl) (by rfl) (fun w' hS=>?_) ?_
  ·go_simp
  simp only [zA,zB,zC,Act.put,zD,zE,zF]
  refine wpScript_take (.pointer (some ⟨x.pl,x.po+k * 4,none⟩)) (by rfl) (by rfl) (fun w' hS=>?_) ?_
  ·go_simp
  simp only [zA,zB,zC,Act.put,zD,zE,zF]
  refine wpScript_take (.int .i64 v) (by rfl) (by rfl) (fun w' hS=>?_) ?_
  ·have f0:w'.cell? ⟨x.pl,x.po+k * 4,none⟩=some (.int .i64 v):=(HF1.out w' (HPw.out.below hS)).1
   go_simp
  simp only [zA,zB,zC,Act.put,zD,zE,zF]
  refine wpScript_take (.int .i64 (cl:Int)) (by rfl) (by rfl) (fun w' hS=>?_) ?_
  ·go_simp
  simp only [zA,zB,zC,Act.put,zD,zE,zF]
  refine wpScript_take (.int .i64 0) (by rfl) (by rfl) (fun w' hS=>?_) ?_
  ·go_simp
  simp only [zA,zB,zC,Act.put,zD,zE,zF]
  refine wpScript_take (.pointer (some ⟨gh,2,none⟩)) (by rfl) (by rfl) (fun w' hS=>?_) ?_
  ·go_simp
  simp only [zA,zB,zC,Act.put,zD,zE,zF]
  refine wpScript_take (.int .u16 (g:Int)) (by rfl) (by rfl) (fun w' hS=>?_) ?_
  ·have f0:w'.cell? ⟨gh,2,none⟩=some (.int .u16 (g:Int)):=(HKh.out.below hS HKh.out.lt).cell 2
   go_simp
  simp only [zA,zB,zC,Act.put,zD,zE,zF]
  refine wpScript_take (.agg #[.int .i64 (cl:Int), .int .i64 0, .int .u16 (g:Int)]) (by rfl) (by rfl) (fun w' hS=>?_) ?_
  ·go_simp
  simp only [zA,zB,zC,Act.put,zD,zE,zF]
  refine wpScript_do (by rfl) ?_
  go_wp2_with fail
  have HBd:Hid (Below w.heap.size w wc.drew):=hid HBh.out.drew
  have HPl2:=hid (HPl.out _ HBd.out)
  refine HPl2.out.mono ?_
  rintro e w2 ⟨A2,m2,c2,p2,rfl,hp2,ho2,hb2⟩
  have HB2:=hid (HBd.out.trans (hb2.mono HBd.out.size))
  have HR2:=hid (HRn.out w2 A2 m2 c2 p2 HB2.out (own_le ho2 HBd.out.size) hp2)
  have HBw2:Hid (Below wc.heap.size wc w2):=hid ((Below.refl _ wc).drew.trans hb2)
  clear hp2 ho2 hb2 HPl HPl2 HRn HBd
  go_wp2_with fail
  refine ⟨HBw2.out,?_⟩
  refine wpScript_take (.tuple #[.slice A2 m2 c2, .int .i64 0]) (by rfl) (by rfl) (fun w' hS=>?_) ?_
  ·go_simp
  simp only [zA,zB,zC,Act.put,zD,zE,zF]
  refine wpScript_take (.slice A2 m2 c2) (by rfl) (by rfl) (fun w' hS=>?_) ?_
  ·go_simp
  simp only [zA,zB,zC,Act.put,zD,zE,zF]
  refine wpScript_take (.int .i64 0) (by rfl) (by rfl) (fun w' hS=>?_) ?_
  ·go_simp
  simp only [zA,zB,zC,Act.put,zD,zE,zF]
  refine wpScript_do (by rfl) ?_
  go_wp2_with fail
  refine ⟨HBw2.out,?_⟩
  show wpList _ _ _ _ _ _
  simp only [List.drop_succ_cons,List.drop_zero]
  go_wp2_with fail
  refine NoPanic.normal ?_
  have g0:w2.cell? ⟨x.gs,0,none⟩=some (.iface 58 (.pointer (some ⟨a.th 0,0,none⟩))):=by
   obtain ⟨cc',h1,_⟩:=(HD.out.hs.plc.below HB2.out).sets
   exact h1
  go_wp2_with fail
  refine HR2.out.mono ?_
  rintro e w3 ⟨rfl,S3,hd3,hc3,hg3⟩
  have hcw:Chg S w w3:=(Chg.of_below HB2.out).trans hc3 (Grew.refl _ _)
  have hgw:Grew S S3 w:=fun k hk=>(hg3 k hk).imp id (fun h=>Nat.le_trans HB2.out.size h)
  obtain ⟨hds,hcs⟩:=HCl.out S3 w3 hd3 hcw hgw
  have HE:=hid (show DS a L (T+200) s n K x (updC cs k (newC cl g)) f N m b0 S3 (fmtR cur (s+32 * k) cl g) _∧_∧Grew S S3 w from ⟨hds,hcs,hgw⟩)
  obtain ⟨o1,o2,o3,o4,o5⟩:=HD.out.off
  have hpl3:=HD.out.hs.plc.chg hcw o2 o3
  obtain ⟨q0,q1,q2⟩:=HF1.out w3 hpl3
  have z1:w3.frozen? ⟨x.pl,x.po+k * 4+1,none⟩=false:=hpl3.frozen _
  have z2:w3.frozen? ⟨x.pl,x.po+k * 4+2,none⟩=false:=hpl3.frozen _
  clear hd3 hc3 hg3 hcw hgw hds hcs HR2 HCl hpl3 o1 o2 o3 o4 o5 g0
  go_wp2
  go_ret2
  exact ⟨k,S3,HKD.out.1,HKD.out.2,by rw [HV.out];rfl,by rw [HGG.out];exact HE.out.1,HE.out.2.1,HE.out.2.2⟩
theorem claimH_any (h:DS a L T s n K x cs f N m b0 S cur w) (cl:Nat) (hc:cl < 5) (hf:∃ k,k < K∧(cs k).dv=false) (hT:T+200≤1000000000) :
  Calls Tryz.prog 347 #[.pointer (some ⟨x.h,0,none⟩), .int .i64 0, .int .i64 (cl:Int)] w (RetClaim a L T s n K x cs f N m b0 S cur w cl):=by
 have HC:=hid (claimS_any h cl hc hf hT)
 have c6:w.cell? ⟨x.h,6,none⟩=some (.map none):=h.hs.heap.cell 6
 have c3:w.cell? ⟨x.h,3,none⟩=some (.pointer (some ⟨x.gs,0,none⟩)):=h.hs.heap.cell 3
 have hln:∀ W,(Builtin.len_ #[192] 3 #[.map none]).run Tryz.prog W = .ok (.int .i64 0) W:=fun W=>Maps.len_nil Tryz.underlying192 _
 clear h hc hf
 unfold RetClaim at *
 go_enter Tryz.func347,Tryz.ntmps347
 go_wp2_with (go_at_call 377;refine HC.out.mono ?_;rintro e w1 ⟨k,S1,h1,h2,rfl,h4,h5,h6⟩;refine stop ?_)
 unfold Stop
 have HE:=hid (show _∧_∧_∧_∧_ from ⟨h1,h2,h4,h5,h6⟩)
 clear h1 h2 h4 h5 h6 HC
 generalize ((s+32 * k:Nat):Int)=v at *
 go_wp2
 go_ret2
 obtain ⟨h1,h2,h4,h5,h6⟩:=HE.out
 exact ⟨k,S1,h1,h2,rfl,h4,h5,h6⟩
end
end
end Go.Proofs.YtfkjjoglnmeciaaGreatDoor
