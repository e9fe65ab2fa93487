/- The walks and laws that the claim leans on, part 41. -/
import Derived.Test.YtnlokpakiambaaaGreatDoorJbn
set_option maxRecDepth 100000
set_option maxHeartbeats 16000000
namespace Go.Proofs.YtnlokpakiambaaaGreatDoor
open Go.Lib (hid)
section
open Go.RowKit Go.Maps
section
variable {a:DA} {L T n K:Nat} {x:HA} {cs:Nat→CS} {f:Nat→Option Nat} {N m b0:Nat} {S:Fp} {cur:Nat→Nat} {w:World} {d r:Nat}
def wSt (st:Nat) (dl:Bool):Nat:=2 * st+(if dl=true then 1 else 0)
def RetVPl (a:DA) (L T n K:Nat) (x:HA) (cs:Nat→CS) (f:Nat→Option Nat) (N m b0:Nat) (S:Fp) (cur:Nat→Nat) (w:World) (d r st:Nat) (dl:Bool) (dt ol:Nat) (e:Ending) (w':World):Prop :=
 ∃ k i S' cs' cur',e = .returned (.tuple #[.int .u64 (fptr 53 cs' 7 k i:Int), .int .i64 0])∧ResOk 53 K cs f cur 0 cs' cur' k i∧SD a L (T+400+200) 53 n K x cs' (updF f (offO 53 cs' k i) (some (fptr 53 cs' 7 k i))) (N+1) (m+1) b0 S' (wrS cur' (pwW (pOff (fptr 53 cs' 7 k i)) [wSt st dl,dt,ol])) w' d r∧Chg (sfp S x) w w'∧Grew S S' w∧Rq 53 K cs' (updF f (offO 53 cs' k i) (some (fptr 53 cs' 7 k i))) 7 (fptr 53 cs' 7 k i) 0∧At 53 K cs' (fptr 53 cs' 7 k i) k i
theorem three_reads (w:World) (o0 v0 o1 v1 o2 v2:Nat):Reads (w.alloc (.cells #[.int .u64 (o0:Int), .int .u64 (v0:Int), .int .u64 (o1:Int), .int .u64 (v1:Int), .int .u64 (o2:Int), .int .u64 (v2:Int)] 90)) (w.alloc (.cells #[.int .u64 (o0:Int), .int .u64 (v0:Int), .int .u64 (o1:Int), .int .u64 (v1:Int), .int .u64 (o2:Int), .int .u64 (v2:Int)] 90)).heap.size 2 (some ⟨w.heap.size,0,none⟩) 3 (wrCells [(o0,v0),(o1,v1),(o2,v2)]):=by
 rw [show (w.alloc (.cells #[.int .u64 (o0:Int), .int .u64 (v0:Int), .int .u64 (o1:Int), .int .u64 (v1:Int), .int .u64 (o2:Int), .int .u64 (v2:Int)] 90)).heap.size=w.heap.size+1 by simp]
 exact row_reads_at w _ rfl _ 3 2 90 _ rfl rfl
theorem methDAlloc7 (p : Option Addr) (w : World) : (method 563 43 (.pointer p) "Alloc").run Tryz.prog w = .ok (286, .pointer p) w := by kernel_rfl
theorem vplan_ok (h:SD a L T 53 n K x cs f N m b0 S cur w d r) (st:Nat) (dl:Bool) (dt ol:Nat) (hok:verOk st dl dt=true) (hst:st≤4611686018427387903) (hdt:dt < 18446744073709551616) (hol:ol < 18446744073709551616) (hN:N < 1000000000) (hT:T+600≤1000000000)
  (hcap:(∃ k i,Vac 53 K cs f (clsOf 3) k i)∨∃ k,k < K∧(cs k).dv=false) :
  Calls Tryz.prog 28 #[.iface 43 (.pointer (some ⟨d,0,none⟩)), .agg #[.int .u64 (st:Int), .bool dl, .int .u64 (dt:Int), .int .u64 (ol:Int)]] w (RetVPl a L T n K x cs f N m b0 S cur w d r st dl dt ol):=by
 have HV:Hid (∀ W,Calls Tryz.prog 72 #[.agg #[.int .u64 (st:Int), .bool dl, .int .u64 (dt:Int), .int .u64 (ol:Int)]] W fun e w'=>e = .returned (.bool true)∧Below W.heap.size W w'):=hid (fun W=>by
  have h:=vvalid_any st dl dt ol W
  rw [hok] at h
  exact h)
 have HB1:Hid (Below w.heap.size w (w.alloc (.cells #[.int .u64 (st:Int), .bool dl, .int .u64 (dt:Int), .int .u64 (ol:Int)] 36))):=hid ((Below.refl _ _).alloc (Nat.le_refl _) _)
 have hbx:=Blk.new w 36 #[.int .u64 (st:Int), .bool dl, .int .u64 (dt:Int), .int .u64 (ol:Int)]
 have HK1:=hid hbx
 have HNs:Hid (¬ sfp S x w.heap.size):=hid (sfp_new h)
 have HSd:=hid h
 have HAl:Hid (∀ W,Below w.heap.size w W→Calls Tryz.prog 286 #[.pointer (some ⟨d,0,none⟩), .int .i64 3, .int .u8 7] W (RetAl a L T 53 n K x cs f N m b0 S cur W d r (clsOf 3) 7)):=hid (fun W hW=>allocD (h.below hW) 3 7 (by omega) (by omega) (by omega) (by omega) hN (by omega) hcap)
 have HEr:Hid (∀ W,Below w.heap.size w W→Calls Tryz.prog 288 #[.pointer (some ⟨d,0,none⟩)] W fun e w'=>e = .returned (.int .i64 0)∧W=w'):=hid (fun W hW=>errD (h.below hW).ds.dev ((h.below hW).dir))
 have HNum:=hid (show st≤4611686018427387903∧dt < 18446744073709551616∧ol < 18446744073709551616∧N < 1000000000∧T+600≤1000000000 from ⟨hst,hdt,hol,hN,hT⟩)
 have c0:(w.alloc (.cells #[.int .u64 (st:Int), .bool dl, .int .u64 (dt:Int), .int .u64 (ol:Int)] 36)).cell? ⟨w.heap.size,0,none⟩=some (.int .u64 (st:Int)):=hbx.cell 0
 have c1:(w.alloc (.cells #[.int .u64 (st:Int), .bool dl, .int .u64 (dt:Int), .int .u64 (ol:Int)] 36)).cell? ⟨w.heap.size,1,none⟩=some (.bool dl):=hbx.cell 1
 have c2:(w.alloc (.cells #[.int .u64 (st:Int), .bool dl, .int .u64 (dt:Int), .int .u64 (ol:Int)] 36)).cell? ⟨w.heap.size,2,none⟩=some (.int .u64 (dt:Int)):=hbx.cell 2
 have c3:(w.alloc (.cells #[.int .u64 (st:Int), .bool dl, .int .u64 (dt:Int), .int .u64 (ol:Int)] 36)).cell? ⟨w.heap.size,3,none⟩=some (.int .u64 (ol:Int)):=hbx.cell 3
 have hnil:∀ W,(binOp .eql 124 (.iface 43 (.pointer (some ⟨d,0,none⟩))) .nilIface).run Tryz.prog W = .ok (.bool false) W:=fun W=>by rfl
 have hmE:=methDErr (some ⟨d,0,none⟩)
 have hmA:=methDAlloc7 (some ⟨d,0,none⟩)
 clear h hbx hok hst hdt hol hN hT hcap
 go_enter Tryz.func28,Tryz.ntmps28
 go_wp2_with (go_at_call 72;refine (HV.out _).mono ?_;rintro e w2 ⟨rfl,hb2⟩;have HB2:=hid (HB1.out.trans (hb2.mono HB1.out.size));have HK2:=hid (HK1.out.below hb2 HK1.out.lt);clear hb2;refine stop ?_)
 unfold Stop
 have HE2:=hid (HEr.out w2 HB2.out)
 have HA2:=hid (HAl.out w2 HB2.out)
 clear c0 c1 c2 c3
 go_wp2_with (first
  | (go_at_call 288;refine HE2.out.mono ?_;rintro e w3 ⟨rfl,rfl⟩)
  | (go_at_call 286;refine HA2.out.mono ?_;rintro e w3 ⟨k,i,S3,cs3,cur3,rfl,hro,hsd3,hch3,hgr3⟩;refine stop ?_))
 unfold Stop
 obtain ⟨hrq,hat⟩:=Rq.new hsd3.ds (kind:=7) ⟨by omega,by omega⟩ hro rfl
 have hcl:(cs3 k).cl=0:=hro.vac.2.2.1
 obtain ⟨q,hq⟩:∃ q,fptr 53 cs3 7 k i=q:=⟨_,rfl⟩
 have HQ:=hid hq
 rw [hq] at hat hrq ⊢
 have hq64:=hrq.keep.nz.2
 have hk3:=hch3.blk HK2.out HNs.out
 have HN3:Hid (¬ S3 w.heap.size):=hid (fun hz=>(hgr3 _ hz).elim (fun h=>HNs.out (.inl h)) (fun h=>absurd HK2.out.lt (Nat.not_lt.2 h)))
 have HK3:=hid hk3
 have HSd3:=hid hsd3
 have HRo:=hid hro
 have HCh3:=hid hch3
 have HGr3:=hid hgr3
 have HAtt:=hid (And.intro hat hcl)
 have HRq:=hid hrq
 have HAt:Hid (∀ (y:Nat) (W:World),y < 3→Calls Tryz.prog 24 #[.int .u64 (q:Int), .int .i64 (y:Int)] W fun e w'=>e = .returned (.int .u64 ((pOff q+8 * y:Nat):Int))∧W=w'):=hid (fun y W hy=>by
  have h1:=at_any q y (by omega) W
  have h2:pAt q y=pOff q+8 * y:=by unfold pAt;rw [if_neg (by have:=hrq.keep.nz.1;omega)]
  rw [h2] at h1
  exact h1)
 have HP34:Hid (∀ y,y < 3→pOff q+8 * y < 18446744073709551616):=hid (fun y hy=>by unfold pOff;omega)
 obtain ⟨hst,hdt,hol,hN,hT⟩:=HNum.out
 obtain ⟨sv,hsv⟩:∃ sv,wSt st dl=sv:=⟨_,rfl⟩
 have hsv64:sv < 18446744073709551616:=by rw [← hsv];unfold wSt;split <;> omega
 have HSv:=hid (And.intro hsv hsv64)
 have HWs:Hid (pwW (pOff q) [sv,dt,ol]=[(pOff q+8 * 0,sv),(pOff q+8 * 1,dt),(pOff q+8 * 2,ol)]):=hid rfl
 have f0:w3.cell? ⟨w.heap.size,0,none⟩=some (.int .u64 (st:Int)):=hk3.cell 0
 have f1:w3.cell? ⟨w.heap.size,1,none⟩=some (.bool dl):=hk3.cell 1
 have f2:w3.cell? ⟨w.heap.size,2,none⟩=some (.int .u64 (dt:Int)):=hk3.cell 2
 have f3:w3.cell? ⟨w.heap.size,3,none⟩=some (.int .u64 (ol:Int)):=hk3.cell 3
 have HA0:Hid (∀ W,Calls Tryz.prog 24 #[.int .u64 (q:Int), .int .i64 0] W fun e w'=>e = .returned (.int .u64 ((pOff q+8 * 0:Nat):Int))∧W=w'):=hid (fun W=>HAt.out 0 W (by omega))
 have HA1:Hid (∀ W,Calls Tryz.prog 24 #[.int .u64 (q:Int), .int .i64 1] W fun e w'=>e = .returned (.int .u64 ((pOff q+8 * 1:Nat):Int))∧W=w'):=hid (fun W=>HAt.out 1 W (by omega))
 have HA2':Hid (∀ W,Calls Tryz.prog 24 #[.int .u64 (q:Int), .int .i64 2] W fun e w'=>e = .returned (.int .u64 ((pOff q+8 * 2:Nat):Int))∧W=w'):=hid (fun W=>HAt.out 2 W (by omega))
 have HO:Hid ((pOff q+8 * 0 < 18446744073709551616∧pOff q+8 * 1 < 18446744073709551616∧pOff q+8 * 2 < 18446744073709551616)):=hid ⟨HP34.out 0 (by omega),HP34.out 1 (by omega),HP34.out 2 (by omega)⟩
 generalize pOff q+8 * 0=o0 at HA0 HWs HO
 generalize pOff q+8 * 1=o1 at HA1 HWs HO
 generalize pOff q+8 * 2=o2 at HA2' HWs HO
 have HSt:Hid (∀ W:World,Calls Tryz.prog 73 #[.slice (some ⟨W.heap.size,0,none⟩) 3 3] (W.alloc (.cells #[.int .u64 (o0:Int), .int .u64 (sv:Int), .int .u64 (o1:Int), .int .u64 (dt:Int), .int .u64 (o2:Int), .int .u64 (ol:Int)] 90)) (RetProg (W.alloc (.cells #[.int .u64 (o0:Int), .int .u64 (sv:Int), .int .u64 (o1:Int), .int .u64 (dt:Int), .int .u64 (o2:Int), .int .u64 (ol:Int)] 90)) (IsStores [(o0,sv),(o1,dt),(o2,ol)]))):=hid (fun W=>stores_small _ 3 3 _ _ (three_reads W o0 sv o1 dt o2 ol) (by omega) (by omega) (fun e he=>by
  simp only [List.mem_cons,List.not_mem_nil,or_false] at he
  obtain ⟨g0,g1,g2⟩:=HO.out
  rcases he with rfl | rfl | rfl
  ·exact g0
  ·exact g1
  ·exact g2))
 have hsvI:(if dl=true then (2 * (st:Int)+1) else 2 * (st:Int))=(sv:Int):=by
  rw [← hsv]
  unfold wSt
  split <;> omega
 have e1:IntKind.u64.wrap (2 * (st:Int))=2 * (st:Int):=wraps_u64 _ (by omega) (by omega)
 have e2:IntKind.u64.wrap (2 * (st:Int)+1)=2 * (st:Int)+1:=wraps_u64 _ (by omega) (by omega)
 have e4:IntKind.u64.wrap (sv:Int)=(sv:Int):=wraps_u64 _ (by omega) (by omega)
 clear hro hsd3 hch3 hgr3 hrq hat hcl hq hq64 hk3 hst hdt hol hN hT hsv hsv64 HAt HP34 HE2 HA2 HAl HV
 go_upto_region 10 with fail
 cases dl
 ·have e3:2 * (st:Int)=(sv:Int):=hsvI
  go_upto_region 12 with fail
  refine wp_region_scriptH (fun w'=>w'.cell? ⟨w.heap.size,2,none⟩=some (.int .u64 (dt:Int))∧w'.cell? ⟨w.heap.size,3,none⟩=some (.int .u64 (ol:Int))) 19 [] [(1,0),(1,2),(1,4),(1,6),(1,7),(1,9),(1,11),(1,12),(1,16),(0,1),(1,3),(0,5),(1,8),(0,10),(1,13),(0,14),(0,15),(0,17),(1,18)] (by kernel_rfl) (by kernel_rfl) ⟨f2,f3⟩ ?_
  refine wpScriptH_take (.int .u64 (q:Int)) (by rfl) (by rfl) (fun w' hS=>?_) ?_
  ·go_simp
  simp only [zA,zB,Act.put,zD,zE,zF]
  refine wpScriptH_take (.int .u64 (sv:Int)) (by rfl) (by rfl) (fun w' hS=>?_) ?_
  ·go_simp
  simp only [zA,zB,zC,Act.put,zD,zE,zF]
  refine wpScriptH_take (.int .u64 (q:Int)) (by rfl) (by rfl) (fun w' hS=>?_) ?_
  ·go_simp
  simp only [zA,zB,zC,Act.put,zD,zE,zF]
  refine wpScriptH_take (.pointer (some ⟨w.heap.size,2,none⟩)) (by rfl) (by rfl) (fun w' hS=>?_) ?_
  ·go_simp
  simp only [zA,zB,zC,Act.put,zD,zE,zF]
  refine wpScriptH_take (.int .u64 (dt:Int)) (by rfl) (by rfl) (fun w' hS=>?_) ?_
  ·obtain ⟨s1,s2⟩:=hS
   go_simp
  simp only [zA,zB,zC,Act.put,zD,zE,zF]
  refine wpScriptH_take (.int .u64 (q:Int)) (by rfl) (by rfl) (fun w' hS=>?_) ?_
  ·go_simp
  simp only [zA,zB,zC,Act.put,zD,zE,zF]
  refine wpScriptH_take (.pointer (some ⟨w.heap.size,3,none⟩)) (by rfl) (by rfl) (fun w' hS=>?_) ?_
  ·go_simp
  simp only [zA,zB,zC,Act.put,zD,zE,zF]
  refine wpScriptH_take (.int .u64 (ol:Int)) (by rfl) (by rfl) (fun w' hS=>?_) ?_
  ·obtain ⟨s1,s2⟩:=hS
   go_simp
  simp only [zA,zB,zC,Act.put,zD,zE,zF]
  refine wpScriptH_take (.iface 43 (.pointer (some ⟨d,0,none⟩))) (by rfl) (by rfl) (fun w' hS=>?_) ?_
  ·go_simp
  simp only [zA,zB,zC,Act.put,zD,zE,zF]
  refine wpScriptH_do (by rfl) ?_
  go_wp2_with (go_at_call 24;refine (HA0.out _).mono ?_;rintro e w4 ⟨rfl,rfl⟩)
  refine ⟨⟨f2,f3⟩,?_⟩
  refine wpScriptH_take (.agg #[.int .u64 (o0:Int), .int .u64 (sv:Int)]) (by rfl) (by rfl) (fun w' hS=>?_) ?_
  ·go_simp
  simp only [zA,zB,zC,Act.put,zD,zE,zF]
  refine wpScriptH_do (by rfl) ?_
  go_wp2_with (go_at_call 24;refine (HA1.out _).mono ?_;rintro e w4 ⟨rfl,rfl⟩)
  refine ⟨⟨f2,f3⟩,?_⟩
  refine wpScriptH_take (.agg #[.int .u64 (o1:Int), .int .u64 (dt:Int)]) (by rfl) (by rfl) (fun w' hS=>?_) ?_
  ·go_simp
  simp only [zA,zB,zC,Act.put,zD,zE,zF]
  refine wpScriptH_do (by rfl) ?_
  go_wp2_with (go_at_call 24;refine (HA2'.out _).mono ?_;rintro e w4 ⟨rfl,rfl⟩)
  refine ⟨⟨f2,f3⟩,?_⟩
  refine wpScriptH_take (.agg #[.int .u64 (o2:Int), .int .u64 (ol:Int)]) (by rfl) (by rfl) (fun w' hS=>?_) ?_
  ·go_simp
  simp only [zA,zB,zC,Act.put,zD,zE,zF]
  refine wpScriptH_do (by rfl) ?_
  go_wp2_with fail
  have hb4:Below w3.heap.size w3 (w3.drew.alloc (.cells #[.int .u64 (o0:Int), .int .u64 (sv:Int), .int .u64 (o1:Int), .int .u64 (dt:Int), .int .u64 (o2:Int), .int .u64 (ol:Int)] 90)):=(Below.refl w3.heap.size w3).drew.alloc (Nat.le_refl _) _
  have hk4:=HK3.out.below hb4 HK3.out.lt
  have HB4:=hid hb4
  have HK4:=hid hk4
  clear hb4
  refine ⟨⟨hk4.cell 2,hk4.cell 3⟩,?_⟩
  clear hk4
  refine wpScriptH_do (by rfl) ?_
  go_wp2_with (go_at_call 73;refine (HSt.out w3.drew).mono ?_;rintro e w5 ⟨A5,m5,c5,pp,rfl,hst,hown5,hb5⟩;have HS5:=hid hst;have HO5:=hid hown5;have HB5:Hid (Below w3.heap.size w3 w5):=hid (HB4.out.trans (hb5.mono HB4.out.size));have HK5:=hid (HK4.out.below hb5 HK4.out.lt);clear hst hown5 hb5)
  refine ⟨⟨HK5.out.cell 2,HK5.out.cell 3⟩,?_⟩
  have HRn:=hid ((HSd3.out.below HB5.out).paid HAtt.out.1 (l:=[sv,dt,ol]) (by rw [HAtt.out.2];rfl) (fun y hy=>by simp only [List.mem_cons,List.not_mem_nil,or_false] at hy;have h1:=HSv.out.2;have h2:=HNum.out;rcases hy with e | e | e <;> omega) HO5.out (fun g hg=>Nat.lt_of_lt_of_le (HSd3.out.ds.dev.lt g hg) HB4.out.size) (by rw [HWs.out];exact HS5.out) (by have:=HNum.out;omega))
  unfold dirV at HRn
  refine wpScriptH_do (by rfl) ?_
  go_wp2_with (go_at_call 74;refine HRn.out.mono ?_;rintro e w6 ⟨rfl,S6,hsd6,hch6,hgr6⟩;have HSd6:=hid hsd6;have HCh6:=hid hch6;have HGr6:=hid hgr6;clear hsd6 hch6 hgr6)
  have hk6:=HCh6.out.blk HK5.out HN3.out
  refine ⟨⟨hk6.cell 2,hk6.cell 3⟩,?_⟩
  clear hk6
  refine wpScriptH_take (.int .i64 0) (by rfl) (by rfl) (fun w' hS=>?_) ?_
  ·go_simp
  simp only [zA,zB,zC,Act.put,zD,zE,zF]
  show wpList _ _ _ _ _ _
  simp only [List.drop_succ_cons,List.drop_zero]
  go_wp2_with fail
  refine NoPanic.normal ?_
  clear f0 f1 f2 f3
  go_wp2
  go_ret2
  unfold RetVPl
  refine ⟨k,i,S6,cs3,cur3,by rw [HQ.out];rfl,HRo.out,by rw [HSv.out.1];have h6:=HSd6.out;rw [← HQ.out] at h6;exact h6,?_,?_,by rw [HQ.out];exact HRq.out,by rw [HQ.out];exact HAtt.out.1⟩
  ·have h1:=(Chg.of_below HB2.out).trans HCh3.out (Grew.refl (sfp S x) w)
   have h2:=h1.trans ((Chg.of_below HB5.out).trans (HCh6.out.mono (fun _ h => .inl h)) (Grew.refl (sfp S3 x) _)) (fun z hz=>hz.elim (fun h=>(HGr3.out z h).elim (fun h => .inl (.inl h)) (fun h => .inr (Nat.le_trans HB2.out.size h))) (fun h => .inl (.inr h)))
   exact h2
  ·exact fun z hz=>(HGr6.out z hz).elim (fun h=>(HGr3.out z h).imp id (fun h=>Nat.le_trans HB2.out.size h)) (fun h => .inr (Nat.le_trans (Nat.le_trans HB2.out.size HCh3.out.size) (Nat.le_trans HB5.out.size h)))
 ·have e3:2 * (st:Int)+1=(sv:Int):=hsvI
  go_upto_region 12 with fail
  refine wp_region_scriptH (fun w'=>w'.cell? ⟨w.heap.size,2,none⟩=some (.int .u64 (dt:Int))∧w'.cell? ⟨w.heap.size,3,none⟩=some (.int .u64 (ol:Int))) 19 [] [(1,0),(1,2),(1,4),(1,6),(1,7),(1,9),(1,11),(1,12),(1,16),(0,1),(1,3),(0,5),(1,8),(0,10),(1,13),(0,14),(0,15),(0,17),(1,18)] (by kernel_rfl) (by kernel_rfl) ⟨f2,f3⟩ ?_
  refine wpScriptH_take (.int .u64 (q:Int)) (by rfl) (by rfl) (fun w' hS=>?_) ?_
  ·go_simp
  simp only [zA,zB,Act.put,zD,zE,zF]
  refine wpScriptH_take (.int .u64 (sv:Int)) (by rfl) (by rfl) (fun w' hS=>?_) ?_
  ·go_simp
  simp only [zA,zB,zC,Act.put,zD,zE,zF]
  refine wpScriptH_take (.int .u64 (q:Int)) (by rfl) (by rfl) (fun w' hS=>?_) ?_
  ·go_simp
  simp only [zA,zB,zC,Act.put,zD,zE,zF]
  refine wpScriptH_take (.pointer (some ⟨w.heap.size,2,none⟩)) (by rfl) (by rfl) (fun w' hS=>?_) ?_
  ·go_simp
  simp only [zA,zB,zC,Act.put,zD,zE,zF]
  refine wpScriptH_take (.int .u64 (dt:Int)) (by rfl) (by rfl) (fun w' hS=>?_) ?_
  ·obtain ⟨s1,s2⟩:=hS
   go_simp
  simp only [zA,zB,zC,Act.put,zD,zE,zF]
  refine wpScriptH_take (.int .u64 (q:Int)) (by rfl) (by rfl) (fun w' hS=>?_) ?_
  ·go_simp
  simp only [zA,zB,zC,Act.put,zD,zE,zF]
  refine wpScriptH_take (.pointer (some ⟨w.heap.size,3,none⟩)) (by rfl) (by rfl) (fun w' hS=>?_) ?_
  ·go_simp
  simp only [zA,zB,zC,Act.put,zD,zE,zF]
  refine wpScriptH_take (.int .u64 (ol:Int)) (by rfl) (by rfl) (fun w' hS=>?_) ?_
  ·obtain ⟨s1,s2⟩:=hS
   go_simp
  simp only [zA,zB,zC,Act.put,zD,zE,zF]
  refine wpScriptH_take (.iface 43 (.pointer (some ⟨d,0,none⟩))) (by rfl) (by rfl) (fun w' hS=>?_) ?_
  ·go_simp
  simp only [zA,zB,zC,Act.put,zD,zE,zF]
  refine wpScriptH_do (by rfl) ?_
  go_wp2_with (go_at_call 24;refine (HA0.out _).mono ?_;rintro e w4 ⟨rfl,rfl⟩)
  refine ⟨⟨f2,f3⟩,?_⟩
  refine wpScriptH_take (.agg #[.int .u64 (o0:Int), .int .u64 (sv:Int)]) (by rfl) (by rfl) (fun w' hS=>?_) ?_
  ·go_simp
  simp only [zA,zB,zC,Act.put,zD,zE,zF]
  refine wpScriptH_do (by rfl) ?_
  go_wp2_with (go_at_call 24;refine (HA1.out _).mono ?_;rintro e w4 ⟨rfl,rfl⟩)
  refine ⟨⟨f2,f3⟩,?_⟩
  refine wpScriptH_take (.agg #[.int .u64 (o1:Int), .int .u64 (dt:Int)]) (by rfl) (by rfl) (fun w' hS=>?_) ?_
  ·go_simp
  simp only [zA,zB,zC,Act.put,zD,zE,zF]
  refine wpScriptH_do (by rfl) ?_
  go_wp2_with (go_at_call 24;refine (HA2'.out _).mono ?_;rintro e w4 ⟨rfl,rfl⟩)
  refine ⟨⟨f2,f3⟩,?_⟩
  refine wpScriptH_take (.agg #[.int .u64 (o2:Int), .int .u64 (ol:Int)]) (by rfl) (by rfl) (fun w' hS=>?_) ?_
  ·go_simp
  simp only [zA,zB,zC,Act.put,zD,zE,zF]
  refine wpScriptH_do (by rfl) ?_
  go_wp2_with fail
  have hb4:Below w3.heap.size w3 (w3.drew.alloc (.cells #[.int .u64 (o0:Int), .int .u64 (sv:Int), .int .u64 (o1:Int), .int .u64 (dt:Int), .int .u64 (o2:Int), .int .u64 (ol:Int)] 90)):=(Below.refl w3.heap.size w3).drew.alloc (Nat.le_refl _) _
  have hk4:=HK3.out.below hb4 HK3.out.lt
  have HB4:=hid hb4
  have HK4:=hid hk4
  clear hb4
  refine ⟨⟨hk4.cell 2,hk4.cell 3⟩,?_⟩
  clear hk4
  refine wpScriptH_do (by rfl) ?_
  go_wp2_with (go_at_call 73;refine (HSt.out w3.drew).mono ?_;rintro e w5 ⟨A5,m5,c5,pp,rfl,hst,hown5,hb5⟩;have HS5:=hid hst;have HO5:=hid hown5;have HB5:Hid (Below w3.heap.size w3 w5):=hid (HB4.out.trans (hb5.mono HB4.out.size));have HK5:=hid (HK4.out.below hb5 HK4.out.lt);clear hst hown5 hb5)
  refine ⟨⟨HK5.out.cell 2,HK5.out.cell 3⟩,?_⟩
  have HRn:=hid ((HSd3.out.below HB5.out).paid HAtt.out.1 (l:=[sv,dt,ol]) (by rw [HAtt.out.2];rfl) (fun y hy=>by simp only [List.mem_cons,List.not_mem_nil,or_false] at hy;have h1:=HSv.out.2;have h2:=HNum.out;rcases hy with e | e | e <;> omega) HO5.out (fun g hg=>Nat.lt_of_lt_of_le (HSd3.out.ds.dev.lt g hg) HB4.out.size) (by rw [HWs.out];exact HS5.out) (by have:=HNum.out;omega))
  unfold dirV at HRn
  refine wpScriptH_do (by rfl) ?_
  go_wp2_with (go_at_call 74;refine HRn.out.mono ?_;rintro e w6 ⟨rfl,S6,hsd6,hch6,hgr6⟩;have HSd6:=hid hsd6;have HCh6:=hid hch6;have HGr6:=hid hgr6;clear hsd6 hch6 hgr6)
  have hk6:=HCh6.out.blk HK5.out HN3.out
  refine ⟨⟨hk6.cell 2,hk6.cell 3⟩,?_⟩
  clear hk6
  refine wpScriptH_take (.int .i64 0) (by rfl) (by rfl) (fun w' hS=>?_) ?_
  ·go_simp
  simp only [zA,zB,zC,Act.put,zD,zE,zF]
  show wpList _ _ _ _ _ _
  simp only [List.drop_succ_cons,List.drop_zero]
  go_wp2_with fail
  refine NoPanic.normal ?_
  clear f0 f1 f2 f3
  go_wp2
  go_ret2
  unfold RetVPl
  refine ⟨k,i,S6,cs3,cur3,by rw [HQ.out];rfl,HRo.out,by rw [HSv.out.1];have h6:=HSd6.out;rw [← HQ.out] at h6;exact h6,?_,?_,by rw [HQ.out];exact HRq.out,by rw [HQ.out];exact HAtt.out.1⟩
  ·have h1:=(Chg.of_below HB2.out).trans HCh3.out (Grew.refl (sfp S x) w)
   have h2:=h1.trans ((Chg.of_below HB5.out).trans (HCh6.out.mono (fun _ h => .inl h)) (Grew.refl (sfp S3 x) _)) (fun z hz=>hz.elim (fun h=>(HGr3.out z h).elim (fun h => .inl (.inl h)) (fun h => .inr (Nat.le_trans HB2.out.size h))) (fun h => .inl (.inr h)))
   exact h2
  ·exact fun z hz=>(HGr6.out z hz).elim (fun h=>(HGr3.out z h).imp id (fun h=>Nat.le_trans HB2.out.size h)) (fun h => .inr (Nat.le_trans (Nat.le_trans HB2.out.size HCh3.out.size) (Nat.le_trans HB5.out.size h)))
end
end
section
open Go.RowKit Go.Maps
structure VV where
 st:Nat
 dl:Bool
 q:Nat
 bl:List Nat
 p:List Nat
def VV.dt (v:VV):Nat:=v.bl.headD 0
def hdQ:List VV→Nat
 | []=>0
 | v :: _=>v.q
structure VerA (K:Nat) (cs:Nat→CS) (cur:Nat→Nat) (v:VV) (older:Nat):Prop where
 live:∃ k i,LiveA 53 K cs v.q 7 k i
 words:WordsAt cur v.q [wSt v.st v.dl,v.dt,older]
 blen:v.bl.length=if v.dl=true then 0 else nBlk v.p.length
 bk:∀ j (hj:j < v.bl.length),BkA K cs cur v.bl[j] (v.bl.getD (j+1) 0) (v.p.drop (456 * j))
 pb:∀ b∈v.p,b < 256
 pl:v.p.length≤2000
 sp:v.st≤4611686018427387903
def HistA (K:Nat) (cs:Nat→CS) (cur:Nat→Nat):List VV→Prop
 | []=>True
 | v :: t=>VerA K cs cur v (hdQ t)∧HistA K cs cur t∧∀ u∈t,u.st < v.st
theorem headD_get:∀ (l:List Nat) (h:0 < l.length),l.headD 0=l[0]
 | [],h=>absurd h (Nat.lt_irrefl 0)
 | _ :: _,_=>rfl
theorem payW_3 (c:Nat):3≤payW c:=by
 rcases c with _ | _ | _ | _ | _ <;> simp [payW]
section
variable {K:Nat} {cs cs':Nat→CS} {cur cur':Nat→Nat} {v:VV} {older:Nat}
theorem VerA.dtz (h:VerA K cs cur v older):v.dl=decide (v.dt=0):=by
 cases hd:v.dl with
 | true =>
  have h1:=h.blen
  rw [hd,if_pos rfl] at h1
  have h2:v.bl=[]:=List.eq_nil_of_length_eq_zero h1
  unfold VV.dt
  rw [h2]
  rfl
 | false =>
  have h1:=h.blen
  rw [hd,if_neg (by decide)] at h1
  have h2:=nBlk_drop v.p
  have h3:0 < v.bl.length:=by omega
  obtain ⟨k,i,g1,_⟩:=(h.bk 0 h3).live
  have e0:v.bl.headD 0=v.bl[0]:=headD_get _ h3
  unfold VV.dt
  rw [e0,decide_eq_false g1.nz]
theorem wSt_two (st:Nat) (dl:Bool):wSt st dl / 2=st∧decide (wSt st dl % 2=1)=dl:=by
 unfold wSt
 cases dl
 ·rw [if_neg (by decide)]
  exact ⟨by omega,decide_eq_false (by omega)⟩
 ·rw [if_pos rfl]
  exact ⟨by omega,decide_eq_true (by omega)⟩
theorem VerA.rd (h:VerA K cs cur v older):verR cur (fun q=>chkR 53 K cs q 7) v.q=(0,v.st,v.dl,v.dt,older):=by
 obtain ⟨k,i,h1⟩:=h.live
 have hc:=(Live.chk ⟨k,i,h1⟩).1
 have w0:=h.words 0 (by simp)
 have w1:=h.words 1 (by simp)
 have w2:=h.words 2 (by simp)
 rw [Nat.add_zero] at w0
 have e0:cur (pOff v.q / 8)=wSt v.st v.dl:=w0
 have e1:cur (pOff v.q / 8+1)=v.dt:=w1
 have e2:cur (pOff v.q / 8+2)=older:=w2
 have hok:verOk v.st v.dl v.dt=true:=by
  unfold verOk
  rw [decide_eq_true h.sp,Bool.true_and,← h.dtz]
  simp
 unfold verR
 rw [if_neg (fun hn=>hn hc),e0,e1,e2,(wSt_two v.st v.dl).1,(wSt_two v.st v.dl).2,if_pos hok]
theorem VerA.nz (h:VerA K cs cur v older):v.q≠0∧v.q < 18446744073709551616:=by
 obtain ⟨k,i,h1⟩:=h.live
 exact ⟨h1.nz,h1.lt⟩
theorem HistA.hd64 {l:List VV} (h:HistA K cs cur l):hdQ l < 18446744073709551616:=by
 match l,h with
 | [],_=>exact show (0:Nat) < 18446744073709551616 by omega
 | v :: t,h=>exact h.1.nz.2
theorem VerA.keep {bl2:List Nat} (hk:KeepL K cs cur bl2 cs' cur') (h:VerA K cs cur v older):VerA K cs' cur' v older:=by
 obtain ⟨k,i,h1⟩:=h.live
 obtain ⟨g1,g2,g3,g4⟩:=hk v.q 7 k i h1
 refine ⟨⟨k,i,g1⟩,fun y hy=>?_,h.blen,fun j hj=>(hk.bk (h.bk j hj)).1,h.pb,h.pl,h.sp⟩
 have h3:=payW_3 (cs k).cl
 have hy':y < 3:=hy
 rw [g4 y (by omega)]
 exact h.words y hy
theorem HistA.keep {bl2:List Nat} (hk:KeepL K cs cur bl2 cs' cur'):∀ {l:List VV},HistA K cs cur l→HistA K cs' cur' l
 | [],_=>trivial
 | _ :: _,h=>⟨h.1.keep hk,HistA.keep hk h.2.1,h.2.2⟩
end
def foldV {σ:Type} (st:σ→Nat→Nat × Bool × Nat × Nat→σ × Bool):List VV→σ→σ
 | [],s=>s
 | v :: t,s=>if (st s v.q (v.st,v.dl,v.dt,hdQ t)).2=false then (st s v.q (v.st,v.dl,v.dt,hdQ t)).1 else foldV st t (st s v.q (v.st,v.dl,v.dt,hdQ t)).1
theorem folW_hist {σ:Type} {K:Nat} {cs:Nat→CS} {cur:Nat→Nat} (st:σ→Nat→Nat × Bool × Nat × Nat→σ × Bool):∀ (l:List VV) (k last n:Nat) (s:σ),HistA K cs cur l→(∀ v∈l,v.st < last)→l.length < k→n+l.length≤4096 →
  folW (verR cur (fun q=>chkR 53 K cs q 7)) st k (hdQ l) last n s=(0,foldV st l s)
 | [],0,_,_,_,_,_,h,_=>absurd h (Nat.lt_irrefl 0)
 | [],k+1,last,n,s,_,_,_,_=>by
  unfold folW
  rw [show hdQ []=0 from rfl,if_pos rfl]
  rfl
 | v :: t,0,_,_,_,_,_,h,_=>absurd h (Nat.not_lt_zero _)
 | v :: t,k+1,last,n,s,hh,hl,hk,hn=>by
  have hr:=hh.1.rd
  rw [List.length_cons] at hk hn
  unfold folW
  rw [show hdQ (v :: t)=v.q from rfl,if_neg hh.1.nz.1,hr,if_neg (by
   rintro (h | h | h)
   ·exact h rfl
   ·omega
   ·have:=hl v (by simp)
    have h':last≤v.st:=h
    omega)]
  show (if (st s v.q (v.st,v.dl,v.dt,hdQ t)).2=false then (0,(st s v.q (v.st,v.dl,v.dt,hdQ t)).1) else folW (verR cur (fun q=>chkR 53 K cs q 7)) st k (hdQ t) v.st (n+1) (st s v.q (v.st,v.dl,v.dt,hdQ t)).1)=_
  unfold foldV
  by_cases h1:(st s v.q (v.st,v.dl,v.dt,hdQ t)).2=false
  ·rw [if_pos h1,if_pos h1]
  ·rw [if_neg h1,if_neg h1]
   exact folW_hist st t k v.st (n+1) _ hh.2.1 hh.2.2 (by omega) (by omega)
section
variable {a:DA} {L T n K:Nat} {x:HA} {cs0 cs cs' cs2:Nat→CS} {f0 f f2:Nat→Option Nat} {N m b0:Nat} {S:Fp} {cur0 cur cur' cur2:Nat→Nat} {w:World} {al p bl ks:List Nat} {V:Nat→Nat} {cm i:Nat}
theorem VerA.blob {v:VV} {older:Nat} (h:VerA K cs cur v older) (hd:DS a L T 53 n K x cs f N m b0 S cur w) (hdl:v.dl=false):walkR L cur (fun q=>chkR 53 K cs q 1) v.dt=(0,v.bl,v.p):=by
 have h1:=h.blen
 rw [hdl,if_neg (by decide)] at h1
 exact chain_walk (chain_bk hd h1 h.pl h.bk) h.pb h.pl
structure Prep (K:Nat) (cs0:Nat→CS) (f0:Nat→Option Nat) (cur0:Nat→Nat) (cs:Nat→CS) (f:Nat→Option Nat) (cur:Nat→Nat) (bl:List Nat):Prop where
 fr:Fr 53 K cs0 f0 cur0 cs f cur
 rq:∀ q∈bl,∃ kind c,kind < 128∧Rq 53 K cs f kind q c
 nd:(bl.map pOff).Nodup
 fresh:∀ q∈bl,FreshB 53 K cs0 f0 q
theorem Prep.nil:Prep K cs f cur cs f cur []:=⟨Fr.refl,fun q h=>absurd h (by simp),List.nodup_nil,fun q h=>absurd h (by simp)⟩
theorem Prep.of2 (hw:W2 53 K cs f cur al p cs2 f2 cur2 bl bl.length):Prep K cs f cur cs2 f2 cur2 bl :=
 ⟨hw.w1.fr,fun q hq=>by
  obtain ⟨j,hj,e⟩:=List.getElem_of_mem hq
  subst e
  exact ⟨1,_,by omega,hw.w1.rq j hj⟩,hw.w1.nd,hw.w1.fresh⟩
theorem Fr.paid {q k i:Nat} {l:List Nat} (hF:Fr 53 K cs0 f0 cur0 cs f cur) (hat:At 53 K cs q k i) (hl:l.length≤payW (cs k).cl) (hfr:FreshB 53 K cs0 f0 q):Fr 53 K cs0 f0 cur0 cs f (wrS cur (pwW (pOff q) l)):=by
 refine ⟨fun y hy=>?_,hF.chunk,hF.map,fun k3 i3 hk hdv hi3 hn j hj=>?_⟩
 ·rw [pwW_other hat hl (fun j hj=>by omega)]
  exact hF.head y hy
 ·rw [pwW_other hat hl (fun j2 hj2=>?_)]
  ·exact hF.held k3 i3 hk hdv hi3 hn j hj
  ·have e3:=hF.chunk k3 hk hdv
   have h4:=pay_apart (s:=53) (cs:=cs) (k:=k3) (i:=i3) (k':=k) (i':=i) (j:=j) (j':=j2) (by rw [e3];exact hi3) hat.2.2.1 (by rw [e3];exact hj) hj2 (fun ⟨q1,q2⟩=>by
    subst q1 q2
    refine hn (hfr k3 i3 ⟨hk,hdv,hi3,?_⟩)
    rw [hat.2.2.2,hF.off hk hdv])
   rw [e3] at h4
   exact h4
theorem Rq.words {kind q c:Nat} {l:List Nat} {f':Nat→Option Nat} (h:Rq 53 K cs f kind q c) (hF:Fr 53 K cs f cur cs' f' cur') (hl:l.length≤payW c) (hw:WordsAt cur q l):WordsAt cur' q l:=fun y hy=>by
 obtain ⟨k,i,hat,hc,_⟩:=h.cls
 have h5:=hw y hy
 have h1:=hat.lines.1
 rw [h1] at h5 ⊢
 refine (hF.held k i hat.1 hat.2.1 hat.2.2.1 (fun hv=>?_) y (by rw [hc];omega)).trans h5
 have hr:=h.keep.res
 rw [hat.2.2.2,hv.2.2.2.2.2] at hr
 cases hr
theorem Prep.add {cl k i kind q:Nat} {l:List Nat} (h:Prep K cs0 f0 cur0 cs f cur bl) (hd:DS a L T 53 n K x cs f N m b0 S cur w) (ho:ResOk 53 K cs f cur cl cs' cur' k i) (hcl:cl < 5) (hk:kind < 128) (hq:fptr 53 cs' kind k i=q) (hr:Rq 53 K cs' (updF f (offO 53 cs' k i) (some q)) kind q cl) (hat:At 53 K cs' q k i) (hl:l.length≤payW (cs' k).cl) :
  Prep K cs0 f0 cur0 cs' (updF f (offO 53 cs' k i) (some q)) (wrS cur' (pwW (pOff q) l)) (bl++[q])∧Fr 53 K cs f cur cs' (updF f (offO 53 cs' k i) (some q)) (wrS cur' (pwW (pOff q) l)):=by
 have hF:=Fr.alloc (v:=q) hd hcl ho
 have hfr0:FreshB 53 K cs0 f0 q:=fresh_of (_cur':=cur') h.fr hF.chunk ho.vac hat
 have hfr1:FreshB 53 K cs f q:=fresh_of (_cur':=cur') (Fr.refl (cur:=cur)) hF.chunk ho.vac hat
 refine ⟨⟨(h.fr.trans hF).paid hat hl hfr0,fun z hz=>?_,?_,fun z hz=>?_⟩,hF.paid hat hl hfr1⟩
 ·rcases List.mem_append.1 hz with h1 | h1
  ·obtain ⟨kd,c,h2,h3⟩:=h.rq z h1
   exact ⟨kd,c,h2,(h3.step hd hcl ho).1⟩
  ·rw [List.mem_singleton.1 h1]
   exact ⟨kind,cl,hk,hr⟩
 ·rw [List.map_append,List.nodup_append]
  refine ⟨h.nd,by simp,fun u hu v hv=>?_⟩
  obtain ⟨z,hz,rfl⟩:=List.mem_map.1 hu
  have hv':v=pOff q:=by
   rw [List.map_cons,List.map_nil,List.mem_singleton] at hv
   exact hv
  obtain ⟨kd,c,h2,h3⟩:=h.rq z hz
  rw [hv',hat.2.2.2]
  exact (h3.step (v:=0) hd hcl ho).2
 ·rcases List.mem_append.1 hz with h1 | h1
  ·exact h.fresh z h1
  ·rw [List.mem_singleton.1 h1]
   exact hfr0
theorem Prep.keepL (hd:DS a L T 53 n K x cs2 f2 N m b0 S cur2 w) (hP:Prep K cs f cur cs2 f2 cur2 bl) {v:Nat} (hA:AOk 53 K cs2 ks (tlOf 53 cs2 bl) (dlOf 53 cs2 []) V)
  (h96:([(3328+8 * i,v)]++ks.flatMap (acW 53 cs2 (tlOf 53 cs2 bl) (dlOf 53 cs2 []) V)).length≤96) (hi:i < 8) :
  KeepL K cs cur bl (acC cs2 ks (tlOf 53 cs2 bl) (dlOf 53 cs2 []) V) (rdG 0 cur2 ([(3328+8 * i,v)]++ks.flatMap (acW 53 cs2 (tlOf 53 cs2 bl) (dlOf 53 cs2 []) V)) cm):=by
 intro q kind k i2 hl
 have hat:=hl.at_
 have e1:=hP.fr.chunk k hat.1 hat.2.1
 have hst:((cs k).bs i2).st=177:=by rw [hl.bk]
 have hnv:¬ Vac 53 K cs f (cs k).cl k i2:=fun hv=>by
  have:=hv.2.2.2.2.1
  omega
 have hl2:LiveA 53 K cs2 q kind k i2:=⟨⟨hat.1,by rw [e1];exact hat.2.1,by rw [e1];exact hat.2.2.1,by rw [hat.2.2.2];unfold offO;rw [e1]⟩,by rw [e1];exact hl.bk,hl.kind_,hl.nz,hl.lt,hl.top⟩
 have hne:∀ r∈bl,pOff r≠pOff q:=fun r hr e=>hnv (hP.fresh r hr k i2 ⟨hat.1,hat.2.1,hat.2.2.1,e.trans hat.2.2.2⟩)
 have hat2:∀ r∈bl,∃ k i,At 53 K cs2 r k i:=fun r hr=>by
  obtain ⟨kd,c,_,h3⟩:=hP.rq r hr
  obtain ⟨k3,i3,h4,_⟩:=h3.cls
  exact ⟨k3,i3,h4⟩
 refine ⟨pub_live hat2 (fun r hr=>absurd hr (by simp)) hl2 hne (fun r hr=>absurd hr (by simp)),?_,?_,fun j hj=>?_⟩
 ·obtain ⟨_,e2,_⟩:=acC_dv cs2 ks (tlOf 53 cs2 bl) (dlOf 53 cs2 []) V k
  rw [e2,e1]
 ·intro hm
  obtain ⟨r,hr,e⟩:=List.mem_map.1 hm
  exact hne r hr e
 ·have hl3:=hl2.at_.lines.1
  have h5:=hP.fr.held k i2 hat.1 hat.2.1 hat.2.2.1 hnv j hj
  have h6:=pub_pay (s0:=0) (cm:=cm) (j:=j) hd (by omega) hA h96 hl2.at_.1 hl2.at_.2.1 hl2.at_.2.2.1 (by rw [e1];exact hj) (fun e he=>by
   simp at he
   subst he
   show (3328+8 * i) / 8≠_
   omega)
  rw [e1] at h6 hl3
  rw [hl3]
  exact h6.trans h5
theorem pub_words (hd:DS a L T 53 n K x cs2 f2 N m b0 S cur2 w) {v q kind c:Nat} {l:List Nat} (hA:AOk 53 K cs2 ks (tlOf 53 cs2 bl) (dlOf 53 cs2 []) V) (hks:∀ k,k∈ks↔k < K∧(tlOf 53 cs2 bl k≠[]∨dlOf 53 cs2 [] k≠[]))
  (h96:([(3328+8 * i,v)]++ks.flatMap (acW 53 cs2 (tlOf 53 cs2 bl) (dlOf 53 cs2 []) V)).length≤96) (hi:i < 8) (hr:Rq 53 K cs2 f2 kind q c) (hq:q∈bl) (h128:kind < 128) (hl:l.length≤payW c) (hw:WordsAt cur2 q l) :
  (∃ k i2,LiveA 53 K (acC cs2 ks (tlOf 53 cs2 bl) (dlOf 53 cs2 []) V) q kind k i2∧(acC cs2 ks (tlOf 53 cs2 bl) (dlOf 53 cs2 []) V k).cl=c)∧WordsAt (rdG 0 cur2 ([(3328+8 * i,v)]++ks.flatMap (acW 53 cs2 (tlOf 53 cs2 bl) (dlOf 53 cs2 []) V)) cm) q l:=by
 obtain ⟨k,i2,h1,h2,h3⟩:=pub_keep hA hks hr hq h128
 obtain ⟨_,e2,_⟩:=acC_dv cs2 ks (tlOf 53 cs2 bl) (dlOf 53 cs2 []) V k
 refine ⟨⟨k,i2,h1,by rw [e2,h2]⟩,fun y hy=>?_⟩
 have h5:=hw y hy
 have hln:=h3.lines.1
 rw [hln] at h5 ⊢
 refine (pub_pay hd (by omega) hA h96 h3.1 h3.2.1 h3.2.2.1 (by rw [h2];omega) (fun e he=>?_)).trans h5
 simp at he
 subst he
 show (3328+8 * i) / 8≠_
 omega
theorem pub_link (hd:DS a L T 53 n K x cs2 f2 N m b0 S cur2 w) {v:Nat} (hA:AOk 53 K cs2 ks (tlOf 53 cs2 bl) (dlOf 53 cs2 []) V) (hi:i < 8) (hv:v < 18446744073709551616):rdG 0 cur2 ([(3328+8 * i,v)]++ks.flatMap (acW 53 cs2 (tlOf 53 cs2 bl) (dlOf 53 cs2 []) V)) cm (416+i)=v:=by
 have hu:=link_ok hd i v hi hv
 have h:=rdG_get (cur:=cur2) (cm:=cm) (pub_off hd (by omega) hu hA) (pub_nodup hu hA) (e:=(3328+8 * i,v)) (by simp)
 have e:(3328+8 * i) / 8=416+i:=by omega
 rw [← e]
 exact h
end
end
end Go.Proofs.YtnlokpakiambaaaGreatDoor
