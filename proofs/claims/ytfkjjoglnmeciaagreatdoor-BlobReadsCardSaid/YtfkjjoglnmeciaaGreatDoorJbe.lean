/- The walks and laws that the claim leans on, part 31. -/
import Derived.Test.YtfkjjoglnmeciaaGreatDoorJbd
set_option maxRecDepth 100000
set_option maxHeartbeats 16000000
namespace Go.Proofs.YtfkjjoglnmeciaaGreatDoor
open Go.Lib (hid)
section
open Go.RowKit Go.Maps
structure ResOk (s K:Nat) (cs:Nat→CS) (f:Nat→Option Nat) (cur:Nat→Nat) (cl:Nat) (cs':Nat→CS) (cur':Nat→Nat) (k i:Nat):Prop where
 vac:Vac s K cs' f cl k i
 how:(cs'=cs∧cur'=wrS cur (zerW (offO s cs' k i) (payW cl)))∨∃ k0,k0 < K∧(cs k0).dv=false∧(∀ k i,¬ Vac s K cs f cl k i)∧cs'=updC cs k0 (newC cl (cs k0).g)∧cur'=wrS (fmtR cur (s+32 * k0) cl (cs k0).g) (zerW (offO s cs' k i) (payW cl))
def RetRes (a:DA) (L T s n K:Nat) (x:HA) (cs:Nat→CS) (f:Nat→Option Nat) (N m b0:Nat) (S:Fp) (cur:Nat→Nat) (w:World) (cl kind:Nat) (e:Ending) (w':World):Prop :=
 ∃ k i S' cs' cur',e = .returned (.tuple #[.int .u64 (fptr s cs' kind k i:Int), .int .i64 0])∧ResOk s K cs f cur cl cs' cur' k i∧DS a L (T+400) s n K x cs' (updF f (offO s cs' k i) (some (fptr s cs' kind k i))) (N+1) (m+1) b0 S' cur' w'∧Chg (fun j=>S j∨x.fp j) w w'∧Grew S S' w
section
theorem arguments_any (n kind:Nat) (h1:1≤n) (h60:n≤60) (hk0:0 < kind) (hk8:kind < 128) (w:World) :
  Calls Tryz.prog 345 #[.int .i64 0, .int .i64 (n:Int), .int .u8 (kind:Int)] w fun e w'=>e = .returned (.int .i64 0)∧w=w':=by
 have d1:decide ((n:Int) < 1)=false:=decide_eq_false (by omega)
 have d2:decide ((60:Int) < (n:Int))=false:=decide_eq_false (by omega)
 have d3:((kind:Int) == 0)=false:=by rw [beq_eq_false_iff_ne];omega
 have d4:decide ((127:Int) < (kind:Int))=false:=decide_eq_false (by omega)
 go_enter Tryz.func345,Tryz.ntmps345
 go_wp2
 go_ret
 exact ⟨rfl,rfl⟩
variable {a:DA} {L T s n K:Nat} {x:HA} {cs:Nat→CS} {f:Nat→Option Nat} {N m b0:Nat} {S:Fp} {cur:Nat→Nat} {w w':World}
theorem claimed_vac {T':Nat} {S':Fp} {cur':Nat→Nat} {cl k:Nat} (h:DS a L T s n K x cs f N m b0 S cur w) (hk:k < K) (hd:(cs k).dv=false) (i:Nat) (hi:i < perC cl) (hc:cl < 5):f (offO s (updC cs k (newC cl (cs k).g)) k i)=none:=by
 cases hf:f (offO s (updC cs k (newC cl (cs k).g)) k i) with
 | none=>rfl
 | some p =>
  exfalso
  obtain ⟨j,i',hj,hdv,hi',ho,_⟩:=h.res _ p hf
  have hjk:j≠k:=fun e=>by rw [e,hd] at hdv;cases hdv
  have e:(updC cs k (newC cl (cs k).g) k)=newC cl (cs k).g:=by unfold updC;rw [if_pos rfl]
  unfold offO at ho
  rw [e] at ho
  have h1:=off_lt hi
  have h2:=off_lt hi'
  have h3:=offB_ge cl i
  have h4:=offB_ge (cs j).cl i'
  have ho':blkO (s+32 * k) cl i=blkO (s+32 * j) (cs j).cl i':=ho
  unfold blkO at ho'
  omega
theorem reserve_any (h:DS a L T s n K x cs f N m b0 S cur w) (nw kind:Nat) (h1:1≤nw) (h60:nw≤60) (hk0:0 < kind) (hk8:kind < 128) (hN:N < 1000000000) (hT:T+400≤1000000000)
  (hcap:(∃ k i,Vac s K cs f (clsOf nw) k i)∨∃ k,k < K∧(cs k).dv=false) :
  Calls Tryz.prog 291 #[.pointer (some ⟨x.h,0,none⟩), .int .i64 0, .int .i64 (nw:Int), .int .u8 (kind:Int)] w (RetRes a L T s n K x cs f N m b0 S cur w (clsOf nw) kind):=by
 have HAr:=hid (arguments_any nw kind h1 h60 hk0 hk8 w)
 have HEr:=hid (thErr h.dev)
 have HCs:=hid (class_any nw h1 h60 w h.pay)
 have HSe:=hid (search_any h (clsOf nw) kind hk0 hk8)
 have hm:=methErr (some ⟨a.th 0,0,none⟩)
 have HD:=hid h
 have HKd:=hid (show 0 < kind∧kind < 128∧N < maxLen∧T+400≤1000000000∧clsOf nw < 5 from ⟨hk0,hk8,by unfold maxLen;omega,hT,clsOf_lt nw⟩)
 have HCap:=hid hcap
 have hx0:w.cell? ⟨x.h,0,none⟩=some (.iface 58 (.pointer (some ⟨a.th 0,0,none⟩))):=h.hs.heap.cell 0
 have hcl0:(0:Int)≤((clsOf nw:Nat):Int):=by omega
 clear h hcap hk0 hk8 hN hT h1 h60
 unfold RetRes
 generalize clsOf nw=cl at *
 go_enter Tryz.func291,Tryz.ntmps291
 go_wp2_with (first
  | (go_at_call 345;refine HAr.out.mono ?_;rintro e w1 ⟨rfl,rfl⟩)
  | (go_at_call 112;refine HEr.out.mono ?_;rintro e w1 ⟨rfl,rfl⟩)
  | (go_at_call 201;refine HCs.out.mono ?_;rintro e w1 ⟨rfl,rfl⟩)
  | (go_at_call 346;refine HSe.out.mono ?_;rintro e w2 ⟨v,rfl,hP,hb2⟩;refine stop ?_))
 unfold Stop
 have HB2:=hid hb2
 clear hb2 HAr HEr HCs HSe hx0
 rcases hP with ⟨rfl,hno⟩ | ⟨k,i,hv,rfl⟩
 ·have hf:∃ k,k < K∧(cs k).dv=false:=HCap.out.elim (fun ⟨k,i,hv⟩=>absurd hv (hno k i)) id
  have HD2:=hid (HD.out.below HB2.out)
  have HCl:=hid (claimH_any HD2.out cl HKd.out.2.2.2.2 hf (by have:=HKd.out.2.2.2.1;omega))
  have HNo:=hid hno
  clear hf hno
  unfold RetClaim at HCl
  go_wp2_with (go_at_call 347;refine HCl.out.mono ?_;rintro e w3 ⟨k0,S3,hk0,hd0,rfl,hds3,hc3,hg3⟩;generalize hv0:((s+32 * k0:Nat):Int)=v0 at *;refine stop ?_)
  unfold Stop
  have HD3:=hid hds3
  have HC3:=hid (show Chg (fun j=>S j∨x.fp j) w2 w3∧Grew S S3 w2 from ⟨hc3,hg3⟩)
  have HK0:=hid (show k0 < K∧(cs k0).dv=false from ⟨hk0,hd0⟩)
  have hdv:(updC cs k0 (newC cl (cs k0).g) k0).dv=true:=by unfold updC;rw [if_pos rfl];rfl
  have HWi:=hid (within_any hds3 hk0 hdv kind HKd.out.1 HKd.out.2.1)
  have HNf:Hid (f (offO s (updC cs k0 (newC cl (cs k0).g)) k0 0)=none):=hid (claimed_vac (T':=T) (S':=S) (cur':=cur) HD.out hk0 hd0 0 (by have:=per_le cl;omega) HKd.out.2.2.2.2)
  clear hds3 hc3 hg3 hk0 hd0 hdv HCl
  have HV0:=hid hv0
  rw [hv0] at HWi
  clear hv0
  go_wp2_with (go_at_call 348;refine HWi.out.mono ?_;rintro e w5 ⟨v,rfl,hP,hb5⟩;refine stop ?_)
  unfold Stop
  have HD5:=hid (HD3.out.below hb5)
  have HC5:Hid (Chg (fun j=>S j∨x.fp j) w w5∧Grew S S3 w):=hid ⟨((Chg.of_below HB2.out).trans (S':=fun j=>S j∨x.fp j) HC3.out.1 (Grew.refl _ _)).below hb5,fun j hj=>(HC3.out.2 j hj).imp id (fun h=>Nat.le_trans HB2.out.size h)⟩
  clear hb5 HWi
  rcases hP with ⟨rfl,hnone⟩ | ⟨i,hi,hst,hfi,rfl⟩
  ·exfalso
   refine hnone 0 ?_ ?_ HNf.out
   ·have e:(updC cs k0 (newC cl (cs k0).g) k0).cl=cl:=by unfold updC;rw [if_pos rfl];rfl
    rw [e]
    have:=per_le cl
    omega
   ·unfold updC;rw [if_pos rfl];rfl
  ·have hv5:Vac s K (updC cs k0 (newC cl (cs k0).g)) f cl k0 i:=by
    have e1:updC cs k0 (newC cl (cs k0).g) k0=newC cl (cs k0).g:=by unfold updC;rw [if_pos rfl]
    rw [e1] at hi hst
    exact ⟨HK0.out.1,by rw [e1];rfl,by rw [e1];rfl,hi,by rw [e1];exact hst,hfi⟩
   clear hi hst hfi HNf
   have hvv0:=HV0.out
   generalize hcs5:updC cs k0 (newC cl (cs k0).g)=cs5 at *
   have HCS5:=hid hcs5
   clear hcs5
   have HV5:=hid hv5
   obtain ⟨q1,q2,q3,q4,q5,q6,q7,q8⟩:=HD5.out.vac_facts hv5 kind HKd.out.2.1
   have HZe:=hid (zero_any HD5.out.dev HD5.out.pay x.h _ HD5.out.hs.heap rfl HD5.out.off.1 (fptr s cs5 kind k0 i) cl (offO s cs5 k0 i) q1 q5 q4 q3 (by have:=HKd.out.2.2.2.1;omega))
   have HOf:Hid (∀ W,Calls Tryz.prog 135 #[.int .u64 (fptr s cs5 kind k0 i:Int)] W fun e w'=>e = .returned (.int .u64 (offO s cs5 k0 i:Int))∧W=w'):=hid (fun W=>by have h2:=off_any (fptr s cs5 kind k0 i) W;rw [q4] at h2;exact h2)
   have HZd:Hid (∀ w6 S6,Dev a L ((T+200)+200) w6 S6 (wrS (fmtR cur (s+32 * k0) cl (cs k0).g) (zerW (offO s cs5 k0 i) (payW cl))) 0→Chg S3 w5 w6→Grew S3 S6 w5→DS a L ((T+200)+200) s n K x cs5 f N m b0 S6 (wrS (fmtR cur (s+32 * k0) cl (cs k0).g) (zerW (offO s cs5 k0 i) (payW cl))) w6):=hid (fun w6 S6 hd hc hg=>HD5.out.zeroed hv5 hd hc hg)
   have hx0:w5.cell? ⟨x.h,0,none⟩=some (.iface 58 (.pointer (some ⟨a.th 0,0,none⟩))):=HD5.out.hs.heap.cell 0
   clear q1 q2 q3 q4 q5 q6 q7 q8 hv5
   generalize hfp:fptr s cs5 kind k0 i=fp at *
   generalize hof:offO s cs5 k0 i=o at *
   rw [← hvv0];clear hvv0;generalize hvv:((s+32 * k0:Nat):Int)=v at *
   have HFP:=hid hfp
   have HOF:=hid hof
   have HVV:=hid hvv
   clear hfp hof hvv
   go_wp2_with (go_at_call 349;refine HZe.out.mono ?_;rintro e w6 ⟨rfl,S6,hd6,hc6,hg6⟩;refine stop ?_)
   unfold Stop
   have HD6:=hid (HZd.out w6 S6 hd6 hc6 hg6)
   have HC6:=hid (show Chg S3 w5 w6∧Grew S3 S6 w5 from ⟨hc6,hg6⟩)
   obtain ⟨w7,w8,c,r7,r8,r9,b7,b8,l8,hfin⟩:=HD6.out.rsv HV5.out kind HKd.out.1 HKd.out.2.1 HKd.out.2.2.1
   rw [HOF.out,HFP.out] at r7
   rw [HVV.out] at r8 r9
   have HFin:=hid hfin
   have HHo:=hid (holdP_any l8 HD6.out.few.1 (by have:=HD6.out.few.2;omega) HV5.out.1 HV5.out.2.1 true)
   rw [HVV.out] at HHo
   unfold HA.p RetHold at HHo
   dsimp only at HHo
   have y4:w6.cell? ⟨x.h,4,none⟩=some (.map (some x.mr)):=HD6.out.hs.heap.cell 4
   have y5:w7.cell? ⟨x.h,5,none⟩=some (.map (some x.mh)):=b7.cell 5
   have y3:w8.cell? ⟨x.h,3,none⟩=some (.pointer (some ⟨x.gs,0,none⟩)):=b8.cell 3
   clear hd6 hc6 hg6 hfin b7 b8 l8 HZe HZd hx0
   go_wp2_with fail
   go_region_with (go_at_call 135;refine (HOf.out _).mono ?_;rintro e w1 ⟨rfl,rfl⟩)
   all_goals
    go_wp2_with (go_at_call 320;refine HHo.out.mono ?_;rintro e w9 ⟨rfl,l9,c9⟩;refine stop ?_)
    unfold Stop
    have HE:=hid (HFin.out w9 l9 c9)
    clear l9 c9 HHo HFin r7 r8 r9 y3 y4 y5
    go_wp2
    go_ret2
    refine ⟨k0,i,S6,_,_,by rw [HFP.out];rfl,⟨HV5.out, .inr ⟨k0,HK0.out.1,HK0.out.2,HNo.out,HCS5.out.symm,by rw [HOF.out]⟩⟩,HE.out.1.more (by omega) HKd.out.2.2.2.1,?_,?_⟩
    ·exact (HC5.out.1.trans (S':=S3) HC6.out.1 (fun j hj=>(HC5.out.2 j hj).imp .inl id)).trans (S':=x.fp) HE.out.2 (fun j hj => .inl (.inr hj))
    ·exact HC5.out.2.trans HC6.out.2 HC5.out.1.size
 ·have hv5:=hv
  clear hv
  have HD5:=hid (HD.out.below HB2.out)
  have HC5:Hid (Chg (fun j=>S j∨x.fp j) w w2∧Grew S S w):=hid ⟨Chg.of_below HB2.out,Grew.refl _ _⟩
  have HV5:=hid hv5
  obtain ⟨q1,q2,q3,q4,q5,q6,q7,q8⟩:=HD5.out.vac_facts hv5 kind HKd.out.2.1
  have HZe:=hid (zero_any HD5.out.dev HD5.out.pay x.h _ HD5.out.hs.heap rfl HD5.out.off.1 (fptr s cs kind k i) cl (offO s cs k i) q1 q5 q4 q3 (by have:=HKd.out.2.2.2.1;omega))
  have HOf:Hid (∀ W,Calls Tryz.prog 135 #[.int .u64 (fptr s cs kind k i:Int)] W fun e w'=>e = .returned (.int .u64 (offO s cs k i:Int))∧W=w'):=hid (fun W=>by have h2:=off_any (fptr s cs kind k i) W;rw [q4] at h2;exact h2)
  have HZd:Hid (∀ w6 S6,Dev a L (T+200) w6 S6 (wrS cur (zerW (offO s cs k i) (payW cl))) 0→Chg S w2 w6→Grew S S6 w2→DS a L (T+200) s n K x cs f N m b0 S6 (wrS cur (zerW (offO s cs k i) (payW cl))) w6):=hid (fun w6 S6 hd hc hg=>HD5.out.zeroed hv5 hd hc hg)
  have hx0:w2.cell? ⟨x.h,0,none⟩=some (.iface 58 (.pointer (some ⟨a.th 0,0,none⟩))):=HD5.out.hs.heap.cell 0
  clear q1 q2 q3 q4 q5 q6 q7 q8 hv5
  generalize hfp:fptr s cs kind k i=fp at *
  generalize hof:offO s cs k i=o at *
  generalize hvv:((s+32 * k:Nat):Int)=v at *
  have HFP:=hid hfp
  have HOF:=hid hof
  have HVV:=hid hvv
  clear hfp hof hvv
  go_wp2_with (go_at_call 349;refine HZe.out.mono ?_;rintro e w6 ⟨rfl,S6,hd6,hc6,hg6⟩;refine stop ?_)
  unfold Stop
  have HD6:=hid (HZd.out w6 S6 hd6 hc6 hg6)
  have HC6:=hid (show Chg S w2 w6∧Grew S S6 w2 from ⟨hc6,hg6⟩)
  obtain ⟨w7,w8,c,r7,r8,r9,b7,b8,l8,hfin⟩:=HD6.out.rsv HV5.out kind HKd.out.1 HKd.out.2.1 HKd.out.2.2.1
  rw [HOF.out,HFP.out] at r7
  rw [HVV.out] at r8 r9
  have HFin:=hid hfin
  have HHo:=hid (holdP_any l8 HD6.out.few.1 (by have:=HD6.out.few.2;omega) HV5.out.1 HV5.out.2.1 true)
  rw [HVV.out] at HHo
  unfold HA.p RetHold at HHo
  dsimp only at HHo
  have y4:w6.cell? ⟨x.h,4,none⟩=some (.map (some x.mr)):=HD6.out.hs.heap.cell 4
  have y5:w7.cell? ⟨x.h,5,none⟩=some (.map (some x.mh)):=b7.cell 5
  have y3:w8.cell? ⟨x.h,3,none⟩=some (.pointer (some ⟨x.gs,0,none⟩)):=b8.cell 3
  clear hd6 hc6 hg6 hfin b7 b8 l8 HZe HZd hx0
  go_wp2_with fail
  go_region_with (go_at_call 135;refine (HOf.out _).mono ?_;rintro e w1 ⟨rfl,rfl⟩)
  all_goals
   go_wp2_with (go_at_call 320;refine HHo.out.mono ?_;rintro e w9 ⟨rfl,l9,c9⟩;refine stop ?_)
   unfold Stop
   have HE:=hid (HFin.out w9 l9 c9)
   clear l9 c9 HHo HFin r7 r8 r9 y3 y4 y5
   go_wp2
   go_ret2
   refine ⟨k,i,S6,_,_,by rw [HFP.out];rfl,⟨HV5.out, .inl ⟨rfl,by rw [HOF.out]⟩⟩,HE.out.1.more (by omega) HKd.out.2.2.2.1,?_,?_⟩
   ·exact (HC5.out.1.trans (S':=S) HC6.out.1 (fun j hj=>(HC5.out.2 j hj).imp .inl id)).trans (S':=x.fp) HE.out.2 (fun j hj => .inl (.inr hj))
   ·exact HC5.out.2.trans HC6.out.2 HC5.out.1.size
end
end
end Go.Proofs.YtfkjjoglnmeciaaGreatDoor
