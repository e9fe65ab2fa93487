/- The walks and laws that the claim leans on, part 41. -/
import Derived.Test.YtfkjjoglnmeciaaGreatDoorQbn
set_option maxRecDepth 100000
set_option maxHeartbeats 16000000
namespace Go.Proofs.YtfkjjoglnmeciaaGreatDoor
open Go.Lib (hid)
section
open Go.RowKit Go.Maps
section
variable {a:DA} {L T s n K:Nat} {x:HA} {cs:Nat→CS} {f:Nat→Option Nat} {N m b0:Nat} {S:Fp} {cur:Nat→Nat} {w w':World} {d r:Nat}
theorem chk_at {p kind:Nat} (hc:chkR s K cs p kind=0):(∃ k i,At s K cs p k i)∧p≠0:=by
 unfold chkR at hc;by_cases h0:p=0
 ·rw [if_pos h0] at hc
  cases hc
 rw [if_neg h0] at hc;by_cases h1:p / 72057594037927936≠0
 ·rw [if_pos h1] at hc
  cases hc
 rw [if_neg h1] at hc;cases hh:homeOf s K (pOff p) with
 | none=>rw [hh] at hc;cases hc
 | some k =>
  rw [hh] at hc;by_cases h2:(cs k).dv=true
  ·have hc':(if (blkR (s+32 * k) (cs k).cl (cs k).bs p).2≠0 then (blkR (s+32 * k) (cs k).cl (cs k).bs p).2 else if kind≠0∧kind≠pKind p then 13 else 0)=0:=by
    have h3:(if (cs k).dv=true then (if (blkR (s+32 * k) (cs k).cl (cs k).bs p).2≠0 then (blkR (s+32 * k) (cs k).cl (cs k).bs p).2 else if kind≠0∧kind≠pKind p then 13 else 0) else 2)=0:=hc;rw [if_pos h2] at h3;exact h3
   by_cases h4:(blkR (s+32 * k) (cs k).cl (cs k).bs p).2≠0
   ·rw [if_pos h4] at hc'
    exact absurd hc' h4
   ·unfold blkR at h4
    rw [if_neg h0] at h4;cases hf:fndC (s+32 * k) (cs k).cl (pOff p) with
    | none=>rw [hf] at h4;exact absurd (show (2:Nat)≠0 by decide) h4
    | some i =>
     obtain ⟨g1,g2,g3⟩:=fndC_some hf;refine ⟨⟨k,i,(homeOf_some hh).1,h2,g1,?_⟩,h0⟩;have h8:pOff p % 8=0:=by unfold pOff;omega
     unfold offO blkO;omega
  ·have h3:(if (cs k).dv=true then (if (blkR (s+32 * k) (cs k).cl (cs k).bs p).2≠0 then (blkR (s+32 * k) (cs k).cl (cs k).bs p).2 else if kind≠0∧kind≠pKind p then 13 else 0) else 2)=0:=hc
   rw [if_neg h2] at h3;cases h3
def verR (cur:Nat→Nat) (chk:Nat→Nat) (p:Nat):Nat × Nat × Bool × Nat × Nat :=
 if chk p≠0 then (chk p,0,false,0,0) else
 if verOk (cur (pOff p / 8) / 2) (decide (cur (pOff p / 8) % 2=1)) (cur (pOff p / 8+1))=true then (0,cur (pOff p / 8) / 2,decide (cur (pOff p / 8) % 2=1),cur (pOff p / 8+1),cur (pOff p / 8+2)) else (11,0,false,0,0)
def RetVer (w:World) (R:Nat × Nat × Bool × Nat × Nat) (e:Ending) (w':World):Prop:=e = .returned (.tuple #[vAgg R.2.1 R.2.2.1 R.2.2.2.1 R.2.2.2.2, .int .i64 (R.1:Int)])∧Below w.heap.size w w'
theorem aheadDLoad7 (p : Addr) (w : World) : (nilAhead 640 59 (.pointer (some p)) "Load").run Tryz.prog w = .ok (some false) w := by kernel_rfl
theorem vread_bad (h:SD a L T s n K x cs f N m b0 S cur w d r) (p:Nat) (hp64:p < 18446744073709551616) (hc:chkR s K cs p 7≠0) :
  Calls Tryz.prog 43 #[.iface 59 (.pointer (some ⟨d,0,none⟩)), .int .u64 (p:Int)] w fun e w'=>e = .returned (.tuple #[vAgg 0 false 0 0, .int .i64 (chkR s K cs p 7:Int)])∧Below w.heap.size w w':=by
 have HB0:Hid (Below w.heap.size w (w.alloc (.cells #[.int .u64 0, .bool false, .int .u64 0, .int .u64 0] 97))):=hid ((Below.refl _ _).alloc (nL _) _);have HK0:=hid (Blk.new w 97 #[.int .u64 0, .bool false, .int .u64 0, .int .u64 0]);have HC:=hid (checkD (h.below HB0.out) p 7 hp64 oM);rw [show ((7:Nat):Int)=7 from rfl] at HC;have HEr:=hid (errD (h.below HB0.out).ds.dev ((h.below HB0.out).dir));have hmE:=methDErr (some ⟨d,0,none⟩);have hmC:=methDCheck (some ⟨d,0,none⟩);have hnil:∀ W,(binOp .eql 83 (.iface 59 (.pointer (some ⟨d,0,none⟩))) .nilIface).run Tryz.prog W = .ok (.bool false) W:=fun W=>by rfl
 obtain ⟨v,hv⟩:∃ v,chkR s K cs p 7=v:=⟨_,rfl⟩
 rw [hv] at HC hc ⊢;have d1:((v:Int) != 0)=true:=by rw [bne,beq_eq_false_iff_ne.2 oM];rfl
 clear h hv hc;unfold vAgg;go_enter Tryz.func43,Tryz.ntmps43
 go_wp2_with (first
  | (go_at_call 432;refine HEr.out.mono ?_;rintro e w1 ⟨rfl,rfl⟩)
  | (go_at_call 431;refine HC.out.mono ?_;rintro e w1 ⟨rfl,hb1⟩;have HB1:=hid hb1;clear hb1;refine stop ?_))
 unfold Stop;have hk1:=HK0.out.below HB1.out HK0.out.lt;have HBz:=hid (HB0.out.trans (HB1.out.mono HB0.out.size));have c0:w1.cell? ⟨w.heap.size,0,none⟩=some (.int .u64 0):=hk1.cell 0;have z0:w1.frozen? ⟨w.heap.size,0,none⟩=false:=hk1.frozen 0;have c1:w1.cell? ⟨w.heap.size,1,none⟩=some (.bool false):=hk1.cell 1;have z1:w1.frozen? ⟨w.heap.size,1,none⟩=false:=hk1.frozen 1;have c2:w1.cell? ⟨w.heap.size,2,none⟩=some (.int .u64 0):=hk1.cell 2;have z2:w1.frozen? ⟨w.heap.size,2,none⟩=false:=hk1.frozen 2;have c3:w1.cell? ⟨w.heap.size,3,none⟩=some (.int .u64 0):=hk1.cell 3;have z3:w1.frozen? ⟨w.heap.size,3,none⟩=false:=hk1.frozen 3;have hlt:w.heap.size < w1.heap.size:=hk1.lt;clear hk1 HC HEr;go_wp2;have n01:(⟨w.heap.size,0,none⟩:Addr)≠⟨w.heap.size,1,none⟩:=by simp
 have n02:(⟨w.heap.size,0,none⟩:Addr)≠⟨w.heap.size,2,none⟩:=by simp
 have n03:(⟨w.heap.size,0,none⟩:Addr)≠⟨w.heap.size,3,none⟩:=by simp
 have n12:(⟨w.heap.size,1,none⟩:Addr)≠⟨w.heap.size,2,none⟩:=by simp
 have n13:(⟨w.heap.size,1,none⟩:Addr)≠⟨w.heap.size,3,none⟩:=by simp
 have n23:(⟨w.heap.size,2,none⟩:Addr)≠⟨w.heap.size,3,none⟩:=by simp
 refine bodyPost_ret (v := .tuple #[.agg #[.int .u64 0, .bool false, .int .u64 0, .int .u64 0], .int .i64 (v:Int)]) (by simp [results,Tryz.results43,go_sem,c0,c1,c2,c3,hlt]) rfl ⟨rfl,?_⟩;have h1:=((((HBz.out.setCell (p:=⟨w.heap.size,0,none⟩) (nL _) (.int .u64 0)).setCell (p:=⟨w.heap.size,1,none⟩) (nL _) (.bool false)).setCell (p:=⟨w.heap.size,2,none⟩) (nL _) (.int .u64 0)).setCell (p:=⟨w.heap.size,3,none⟩) (nL _) (.int .u64 0))
 first | exact h1 | exact h1.alloc h1.size _
theorem and_one (x:Nat) (hx:x < 18446744073709551616):bits .and .u64 (x:Int) 1=((x % 2:Nat):Int):=by
 have h1:=u64_and_nat x 1 hx oM;rw [show ((1:Nat):Int)=1 from rfl] at h1;rw [h1,show (1:Nat)=2 ^ 1 - 1 from rfl,Nat.and_two_pow_sub_one_eq_mod]
theorem vread_ok (h:SD a L T s n K x cs f N m b0 S cur w d r) (p:Nat) (hp64:p < 18446744073709551616) (hc:chkR s K cs p 7=0) :
  Calls Tryz.prog 43 #[.iface 59 (.pointer (some ⟨d,0,none⟩)), .int .u64 (p:Int)] w (RetVer w (verR cur (fun q=>chkR s K cs q 7) p)):=by
 have HB0:Hid (Below w.heap.size w (w.alloc (.cells #[.int .u64 0, .bool false, .int .u64 0, .int .u64 0] 97))):=hid ((Below.refl _ _).alloc (nL _) _);have HK0:=hid (Blk.new w 97 #[.int .u64 0, .bool false, .int .u64 0, .int .u64 0]);have HC:=hid (checkD (h.below HB0.out) p 7 hp64 oM);rw [show ((7:Nat):Int)=7 from rfl,hc,show ((0:Nat):Int)=0 from rfl] at HC;have HEr:Hid (∀ W,Below w.heap.size w W→Calls Tryz.prog 432 #[.pointer (some ⟨d,0,none⟩)] W fun e w'=>e = .returned (.int .i64 0)∧W=w'):=hid (fun W hW=>errD (h.below hW).ds.dev ((h.below hW).dir));have HE0:=hid (HEr.out _ HB0.out);obtain ⟨⟨k,i,hat⟩,hp0⟩:=chk_at hc;have hin:=hat.inL h.ds;have hpw:3≤payW (cs k).cl:=by
  rcases (cs k).cl with _ | _ | _ | _ | _ <;> simp [payW]
 have HAt:Hid (∀ (y:Nat) (W:World),y < 3→Calls Tryz.prog 49 #[.int .u64 (p:Int), .int .i64 (y:Int)] W fun e w'=>e = .returned (.int .u64 ((pOff p+8 * y:Nat):Int))∧W=w'):=hid (fun y W hy=>by
  have h1:=at_any p y oM W;have h2:pAt p y=pOff p+8 * y:=by unfold pAt;rw [if_neg oM]
  rw [h2] at h1;exact h1)
 have HLd:Hid (∀ (y:Nat) (W:World),y < 3→Below w.heap.size w W→Calls Tryz.prog 435 #[.pointer (some ⟨d,0,none⟩), .int .u64 ((pOff p+8 * y:Nat):Int)] W (fun e w'=>e = .returned (.int .u64 (cur (pOff p / 8+y):Int))∧W=w')):=hid (fun y W hy hW=>loadD (h.below hW).ds.dev ((h.below hW).dir) (pOff p+8 * y) _ oM oM (by congr 1;omega));have HA0:Hid (∀ W,Calls Tryz.prog 49 #[.int .u64 (p:Int), .int .i64 0] W fun e w'=>e = .returned (.int .u64 ((pOff p+8 * 0:Nat):Int))∧W=w'):=hid (fun W=>HAt.out 0 W oM);have HA1:Hid (∀ W,Calls Tryz.prog 49 #[.int .u64 (p:Int), .int .i64 1] W fun e w'=>e = .returned (.int .u64 ((pOff p+8 * 1:Nat):Int))∧W=w'):=hid (fun W=>HAt.out 1 W oM);have HA2:Hid (∀ W,Calls Tryz.prog 49 #[.int .u64 (p:Int), .int .i64 2] W fun e w'=>e = .returned (.int .u64 ((pOff p+8 * 2:Nat):Int))∧W=w'):=hid (fun W=>HAt.out 2 W oM);obtain ⟨v0,hv0⟩:∃ v0,cur (pOff p / 8)=v0:=⟨_,rfl⟩
 obtain ⟨v1,hv1⟩:∃ v1,cur (pOff p / 8+1)=v1:=⟨_,rfl⟩
 obtain ⟨v2,hv2⟩:∃ v2,cur (pOff p / 8+2)=v2:=⟨_,rfl⟩
 have hv64:v0 < 18446744073709551616:=by rw [← hv0];exact h.ds.bnd _
 have HL0:Hid (∀ W,Below w.heap.size w W→Calls Tryz.prog 435 #[.pointer (some ⟨d,0,none⟩), .int .u64 ((pOff p+8 * 0:Nat):Int)] W (fun e w'=>e = .returned (.int .u64 (v0:Int))∧W=w')):=hid (fun W hW=>by have h1:=HLd.out 0 W oM hW;rw [show cur (pOff p / 8+0)=v0 from hv0] at h1;exact h1);have HL1:Hid (∀ W,Below w.heap.size w W→Calls Tryz.prog 435 #[.pointer (some ⟨d,0,none⟩), .int .u64 ((pOff p+8 * 1:Nat):Int)] W (fun e w'=>e = .returned (.int .u64 (v1:Int))∧W=w')):=hid (fun W hW=>by have h1:=HLd.out 1 W oM hW;rw [hv1] at h1;exact h1);have HL2:Hid (∀ W,Below w.heap.size w W→Calls Tryz.prog 435 #[.pointer (some ⟨d,0,none⟩), .int .u64 ((pOff p+8 * 2:Nat):Int)] W (fun e w'=>e = .returned (.int .u64 (v2:Int))∧W=w')):=hid (fun W hW=>by have h1:=HLd.out 2 W oM hW;rw [hv2] at h1;exact h1);generalize pOff p+8 * 0=o0 at HA0 HL0;generalize pOff p+8 * 1=o1 at HA1 HL1;generalize pOff p+8 * 2=o2 at HA2 HL2;have HR:Hid (verR cur (fun q=>chkR s K cs q 7) p=if verOk (v0 / 2) (decide (v0 % 2=1)) v1=true then (0,v0 / 2,decide (v0 % 2=1),v1,v2) else (11,0,false,0,0)):=hid (by
  unfold verR;rw [if_neg (fun hn=>hn hc),hv0,hv1,hv2])
 have hmE:=methDErr (some ⟨d,0,none⟩);have hmC:=methDCheck (some ⟨d,0,none⟩);have hmL:=methDLoad (some ⟨d,0,none⟩);have hna:=aheadDLoad7 ⟨d,0,none⟩;have hmf:∀ (fn:Fn) (first cap:Array Value) (w:World),(Instr.makeFunc fn first cap).run Tryz.prog w = .ok (.func fn first cap) w:=fun _ _ _ _=>rfl
 have hnil:∀ W,(binOp .eql 83 (.iface 59 (.pointer (some ⟨d,0,none⟩))) .nilIface).run Tryz.prog W = .ok (.bool false) W:=fun W=>by rfl
 clear h hc hat hp0 hin hpw hv0 hv1 hv2 HAt HLd;go_enter Tryz.func43,Tryz.ntmps43
 go_wp2_with (first
  | (go_at_call 432;refine HE0.out.mono ?_;rintro e w1 ⟨rfl,rfl⟩)
  | (go_at_call 431;refine HC.out.mono ?_;rintro e w1 ⟨rfl,hb1⟩;have HB1:=hid (HB0.out.trans (hb1.mono HB0.out.size));have HK1:=hid (HK0.out.below hb1 HK0.out.lt);clear hb1;refine stop ?_))
 unfold Stop;go_upto_region 9 with fail
 refine wp_region_scriptH (fun w'=>w'=w1.drew) 8 [] [(1,0),(1,1),(1,3),(1,4),(1,5),(0,2),(0,6),(1,7)] (by kernel_rfl) (by kernel_rfl) rfl ?_;refine tkH (.iface 59 (.pointer (some ⟨d,0,none⟩))) (fun w' hS=>?_) ?_
 ·go_simp
 simp only [zA,zB,Act.put,zD,zE,zF];refine tkH (.int .u64 (p:Int)) (fun w' hS=>?_) ?_
 ·go_simp
 simp only [zA,zB,zC,Act.put,zD,zE,zF];refine wpScriptH_take (.func (.method "Load") #[.iface 59 (.pointer (some ⟨d, 0, none⟩))] #[]) (by rfl) (by rfl) (fun w' hS => ?_) ?_
 ·go_simp
 simp only [zA,zB,zC,Act.put,zD,zE,zF];refine wpScriptH_take (.func (.method "Load") #[.iface 59 (.pointer (some ⟨d, 0, none⟩))] #[]) (by rfl) (by rfl) (fun w' hS => ?_) ?_
 ·go_simp
 simp only [zA,zB,zC,Act.put,zD,zE,zF];refine tkH (.iface 59 (.pointer (some ⟨d,0,none⟩))) (fun w' hS=>?_) ?_
 ·go_simp
 simp only [zA,zB,zC,Act.put,zD,zE,zF];refine wpScriptH_do (by rfl) ?_;go_wp2_with (go_at_call 49;refine (HA0.out _).mono ?_;rintro e w2 ⟨rfl,rfl⟩)
 refine ⟨rfl,?_⟩;refine wpScriptH_do (by rfl) ?_;go_wp2_with (go_at_call 435;refine (HL0.out _ HB1.out.drew).mono ?_;rintro e w2 ⟨rfl,rfl⟩)
 refine ⟨rfl,?_⟩;refine tkH (.int .u64 (v0:Int)) (fun w' hS=>?_) ?_
 ·go_simp
 simp only [zA,zB,zC,Act.put,zD,zE,zF];show wpList _ _ _ _ _ _;simp only [List.drop_succ_cons,List.drop_zero];go_wp2_with fail
 refine NoPanic.normal ?_;have HBd:=hid HB1.out.drew;have HKd:=hid HK1.out.drew;clear HK1 HB1 HC HE0 hmC HA0 HL0;generalize w1.drew=w2 at *;obtain ⟨sp,hsp⟩:∃ sp,v0 / 2=sp:=⟨_,rfl⟩
 obtain ⟨b2,hb2⟩:∃ b2,v0 % 2=b2:=⟨_,rfl⟩
 have hand:=and_one v0 hv64;have hsh:(v0:Int) / 2=(sp:Int):=oM;obtain ⟨bb,hbb⟩:∃ bb,decide (b2=1)=bb:=⟨_,rfl⟩
 have hbit:((b2:Int) == 1)=bb:=by
  rw [← hbb];by_cases h1:b2=1
  ·rw [decide_eq_true h1,beq_iff_eq];omega
  ·rw [decide_eq_false h1,beq_eq_false_iff_ne];omega
 rw [hb2] at hand HR;rw [hbb,hsp] at HR;clear hsp hb2 hbb hv64;have HBa:Hid (Below w.heap.size w (w2.alloc (.cells #[.int .u64 0, .bool false, .int .u64 0, .int .u64 0] 97))):=hid (HBd.out.alloc HBd.out.size _);have hna2:=Blk.new w2 97 #[.int .u64 0, .bool false, .int .u64 0, .int .u64 0];have n0:(w2.alloc (.cells #[.int .u64 0, .bool false, .int .u64 0, .int .u64 0] 97)).frozen? ⟨w2.heap.size,0,none⟩=false:=hna2.frozen 0;have n1:(w2.alloc (.cells #[.int .u64 0, .bool false, .int .u64 0, .int .u64 0] 97)).frozen? ⟨w2.heap.size,1,none⟩=false:=hna2.frozen 1;have n2:(w2.alloc (.cells #[.int .u64 0, .bool false, .int .u64 0, .int .u64 0] 97)).frozen? ⟨w2.heap.size,2,none⟩=false:=hna2.frozen 2;have n3:(w2.alloc (.cells #[.int .u64 0, .bool false, .int .u64 0, .int .u64 0] 97)).frozen? ⟨w2.heap.size,3,none⟩=false:=hna2.frozen 3;clear hna2;have hbw4:Below w2.heap.size w2 (w2.alloc (.cells #[.int .u64 (sp:Int), .bool bb, .int .u64 (v1:Int), .int .u64 (v2:Int)] 97)).drew:=((Below.refl w2.heap.size w2).alloc (nL _) _).drew
 have HQ:Hid (Blk (w2.alloc (.cells #[.int .u64 (sp:Int), .bool bb, .int .u64 (v1:Int), .int .u64 (v2:Int)] 97)).drew w2.heap.size 97 #[.int .u64 (sp:Int), .bool bb, .int .u64 (v1:Int), .int .u64 (v2:Int)]∧w.heap.size < w2.heap.size∧Blk (w2.alloc (.cells #[.int .u64 (sp:Int), .bool bb, .int .u64 (v1:Int), .int .u64 (v2:Int)] 97)).drew w.heap.size 97 #[.int .u64 0, .bool false, .int .u64 0, .int .u64 0]∧Below w.heap.size w (w2.alloc (.cells #[.int .u64 (sp:Int), .bool bb, .int .u64 (v1:Int), .int .u64 (v2:Int)] 97)).drew):=hid ⟨(Blk.new w2 97 #[.int .u64 (sp:Int), .bool bb, .int .u64 (v1:Int), .int .u64 (v2:Int)]).drew,HKd.out.lt,HKd.out.below hbw4 HKd.out.lt,HBd.out.trans (hbw4.mono HBd.out.size)⟩;clear hbw4;go_upto_region 10 with fail
 go_cut [9] from 34 to 53 (fun v wx=>∃ g9,v = .pointer (some ⟨g9,0,none⟩)∧Hid (Blk wx g9 97 #[.int .u64 (sp:Int), .bool bb, .int .u64 (v1:Int), .int .u64 (v2:Int)]∧w.heap.size < g9∧Blk wx w.heap.size 97 #[.int .u64 0, .bool false, .int .u64 0, .int .u64 0]∧Below w.heap.size w wx))
 case first =>
  refine wp_region_scriptA (fun _=>True) 22 7 [0,1,2,3,4,5,6,8,9,10,12,13,15,16,17] (by kernel_rfl) (by kernel_rfl) (by rfl) (by rfl) trivial ?_;intro ops HO;refine wpScriptA_take HO.out (.int .u64 (v0:Int)) (by rfl) (by rfl) (fun w' hS=>?_) ?_
  ·go_simp
  simp only [Act.put,List.setIfInBounds_toArray,List.set_cons_zero,List.set_cons_succ];refine wpScriptA_take HO.out (.int .u64 (sp:Int)) (by rfl) (by rfl) (fun w' hS=>?_) ?_
  ·go_simp
  simp only [Act.put,List.setIfInBounds_toArray,List.set_cons_zero,List.set_cons_succ];refine wpScriptA_take HO.out (.int .u64 (v0:Int)) (by rfl) (by rfl) (fun w' hS=>?_) ?_
  ·go_simp
  simp only [Act.put,List.setIfInBounds_toArray,List.set_cons_zero,List.set_cons_succ];refine wpScriptA_take HO.out (.int .u64 (b2:Int)) (by rfl) (by rfl) (fun w' hS=>?_) ?_
  ·go_simp
  simp only [Act.put,List.setIfInBounds_toArray,List.set_cons_zero,List.set_cons_succ];refine wpScriptA_take HO.out (.bool bb) (by rfl) (by rfl) (fun w' hS=>?_) ?_
  ·go_simp
  simp only [Act.put,List.setIfInBounds_toArray,List.set_cons_zero,List.set_cons_succ];refine wpScriptA_take HO.out (.iface 59 (.pointer (some ⟨d,0,none⟩))) (by rfl) (by rfl) (fun w' hS=>?_) ?_
  ·go_simp
  simp only [Act.put,List.setIfInBounds_toArray,List.set_cons_zero,List.set_cons_succ];refine wpScriptA_take HO.out (.int .u64 (p:Int)) (by rfl) (by rfl) (fun w' hS=>?_) ?_
  ·go_simp
  simp only [Act.put,List.setIfInBounds_toArray,List.set_cons_zero,List.set_cons_succ];refine wpScriptA_take HO.out (.func (.method "Load") #[.iface 59 (.pointer (some ⟨d, 0, none⟩))] #[]) (by rfl) (by rfl) (fun w' hS => ?_) ?_
  ·go_simp
  simp only [Act.put,List.setIfInBounds_toArray,List.set_cons_zero,List.set_cons_succ];refine wpScriptA_take HO.out (.func (.method "Load") #[.iface 59 (.pointer (some ⟨d, 0, none⟩))] #[]) (by rfl) (by rfl) (fun w' hS => ?_) ?_
  ·go_simp
  simp only [Act.put,List.setIfInBounds_toArray,List.set_cons_zero,List.set_cons_succ];refine wpScriptA_take HO.out (.iface 59 (.pointer (some ⟨d,0,none⟩))) (by rfl) (by rfl) (fun w' hS=>?_) ?_
  ·go_simp
  simp only [Act.put,List.setIfInBounds_toArray,List.set_cons_zero,List.set_cons_succ];refine wpScriptA_take HO.out (.iface 59 (.pointer (some ⟨d,0,none⟩))) (by rfl) (by rfl) (fun w' hS=>?_) ?_
  ·go_simp
  simp only [Act.put,List.setIfInBounds_toArray,List.set_cons_zero,List.set_cons_succ];refine wpScriptA_take HO.out (.int .u64 (p:Int)) (by rfl) (by rfl) (fun w' hS=>?_) ?_
  ·go_simp
  simp only [Act.put,List.setIfInBounds_toArray,List.set_cons_zero,List.set_cons_succ];refine wpScriptA_take HO.out (.func (.method "Load") #[.iface 59 (.pointer (some ⟨d, 0, none⟩))] #[]) (by rfl) (by rfl) (fun w' hS => ?_) ?_
  ·go_simp
  simp only [Act.put,List.setIfInBounds_toArray,List.set_cons_zero,List.set_cons_succ];refine wpScriptA_take HO.out (.func (.method "Load") #[.iface 59 (.pointer (some ⟨d, 0, none⟩))] #[]) (by rfl) (by rfl) (fun w' hS => ?_) ?_
  ·go_simp
  simp only [Act.put,List.setIfInBounds_toArray,List.set_cons_zero,List.set_cons_succ];refine wpScriptA_take HO.out (.iface 59 (.pointer (some ⟨d,0,none⟩))) (by rfl) (by rfl) (fun w' hS=>?_) ?_
  ·go_simp
  simp only [Act.put,List.setIfInBounds_toArray,List.set_cons_zero,List.set_cons_succ];refine wpAnyH_two HO.out (i:=7) (j:=20) (by kernel_rfl) (by rfl) (by rfl) ?_ ?_
  ·go_wp2_with (go_at_call 49;refine (HA1.out _).mono ?_;rintro e w3 ⟨rfl,rfl⟩)
   refine ⟨trivial,?_⟩;refine wpAnyH_two HO.out (i:=11) (j:=20) (by kernel_rfl) (by rfl) (by rfl) ?_ ?_
   ·go_wp2_with (go_at_call 435;refine (HL1.out _ HBd.out.drew).mono ?_;rintro e w3 ⟨rfl,rfl⟩)
    refine ⟨trivial,?_⟩;refine wpAnyH_two HO.out (i:=14) (j:=20) (by kernel_rfl) (by rfl) (by rfl) ?_ ?_
    ·go_wp2_with (go_at_call 49;refine (HA2.out _).mono ?_;rintro e w3 ⟨rfl,rfl⟩)
     refine ⟨trivial,?_⟩;refine wpAnyH_two HO.out (i:=18) (j:=20) (by kernel_rfl) (by rfl) (by rfl) ?_ ?_
     ·go_wp2_with (go_at_call 435;refine (HL2.out _ HBd.out.drew).mono ?_;rintro e w3 ⟨rfl,rfl⟩)
      refine ⟨trivial,?_⟩;refine wpAnyH_two HO.out (i:=19) (j:=20) (by kernel_rfl) (by rfl) (by rfl) ?_ ?_
      ·go_wp2_with fail
       refine ⟨trivial,?_⟩;refine wpAnyH_one HO.out (i:=20) (by kernel_rfl) (by rfl) ?_;go_wp2_with fail
       refine ⟨trivial,?_⟩;refine wpAnyH_one HO.out (i:=21) (by kernel_rfl) (by rfl) ?_;go_wp2_with fail
       refine ⟨trivial,?_⟩;refine wpAnyH_end HO.out (by kernel_rfl) ?_;refine NoPanic.normal ?_;go_wp2_with fail
       go_meet;exact ⟨_,rfl,HQ⟩
      ·go_wp2_with fail
       refine ⟨trivial,?_⟩;refine wpAnyH_one HO.out (i:=19) (by kernel_rfl) (by rfl) ?_;go_wp2_with fail
       refine ⟨trivial,?_⟩;refine wpAnyH_one HO.out (i:=21) (by kernel_rfl) (by rfl) ?_;go_wp2_with fail
       refine ⟨trivial,?_⟩;refine wpAnyH_end HO.out (by kernel_rfl) ?_;refine NoPanic.normal ?_;go_wp2_with fail
       go_meet;exact ⟨_,rfl,HQ⟩
     ·go_wp2_with fail
      refine ⟨trivial,?_⟩;refine wpAnyH_one HO.out (i:=18) (by kernel_rfl) (by rfl) ?_;go_wp2_with (go_at_call 435;refine (HL2.out _ (HBd.out.drew.alloc HBd.out.drew.size _)).mono ?_;rintro e w3 ⟨rfl,rfl⟩)
      refine ⟨trivial,?_⟩;refine wpAnyH_one HO.out (i:=19) (by kernel_rfl) (by rfl) ?_;go_wp2_with fail
      refine ⟨trivial,?_⟩;refine wpAnyH_one HO.out (i:=21) (by kernel_rfl) (by rfl) ?_;go_wp2_with fail
      refine ⟨trivial,?_⟩;refine wpAnyH_end HO.out (by kernel_rfl) ?_;refine NoPanic.normal ?_;go_wp2_with fail
      go_meet;exact ⟨_,rfl,HQ⟩
    ·go_wp2_with fail
     refine ⟨trivial,?_⟩;refine wpAnyH_one HO.out (i:=14) (by kernel_rfl) (by rfl) ?_;go_wp2_with (go_at_call 49;refine (HA2.out _).mono ?_;rintro e w3 ⟨rfl,rfl⟩)
     refine ⟨trivial,?_⟩;refine wpAnyH_one HO.out (i:=18) (by kernel_rfl) (by rfl) ?_;go_wp2_with (go_at_call 435;refine (HL2.out _ (HBd.out.drew.alloc HBd.out.drew.size _)).mono ?_;rintro e w3 ⟨rfl,rfl⟩)
     refine ⟨trivial,?_⟩;refine wpAnyH_one HO.out (i:=19) (by kernel_rfl) (by rfl) ?_;go_wp2_with fail
     refine ⟨trivial,?_⟩;refine wpAnyH_one HO.out (i:=21) (by kernel_rfl) (by rfl) ?_;go_wp2_with fail
     refine ⟨trivial,?_⟩;refine wpAnyH_end HO.out (by kernel_rfl) ?_;refine NoPanic.normal ?_;go_wp2_with fail
     go_meet;exact ⟨_,rfl,HQ⟩
   ·go_wp2_with fail
    refine ⟨trivial,?_⟩;refine wpAnyH_one HO.out (i:=11) (by kernel_rfl) (by rfl) ?_;go_wp2_with (go_at_call 435;refine (HL1.out _ (HBd.out.drew.alloc HBd.out.drew.size _)).mono ?_;rintro e w3 ⟨rfl,rfl⟩)
    refine ⟨trivial,?_⟩;refine wpAnyH_one HO.out (i:=14) (by kernel_rfl) (by rfl) ?_;go_wp2_with (go_at_call 49;refine (HA2.out _).mono ?_;rintro e w3 ⟨rfl,rfl⟩)
    refine ⟨trivial,?_⟩;refine wpAnyH_one HO.out (i:=18) (by kernel_rfl) (by rfl) ?_;go_wp2_with (go_at_call 435;refine (HL2.out _ (HBd.out.drew.alloc HBd.out.drew.size _)).mono ?_;rintro e w3 ⟨rfl,rfl⟩)
    refine ⟨trivial,?_⟩;refine wpAnyH_one HO.out (i:=19) (by kernel_rfl) (by rfl) ?_;go_wp2_with fail
    refine ⟨trivial,?_⟩;refine wpAnyH_one HO.out (i:=21) (by kernel_rfl) (by rfl) ?_;go_wp2_with fail
    refine ⟨trivial,?_⟩;refine wpAnyH_end HO.out (by kernel_rfl) ?_;refine NoPanic.normal ?_;go_wp2_with fail
    go_meet;exact ⟨_,rfl,HQ⟩
  ·go_wp2_with fail
   refine ⟨trivial,?_⟩;refine wpAnyH_one HO.out (i:=7) (by kernel_rfl) (by rfl) ?_;go_wp2_with (go_at_call 49;refine (HA1.out _).mono ?_;rintro e w3 ⟨rfl,rfl⟩)
   refine ⟨trivial,?_⟩;refine wpAnyH_one HO.out (i:=11) (by kernel_rfl) (by rfl) ?_;go_wp2_with (go_at_call 435;refine (HL1.out _ (HBd.out.drew.alloc HBd.out.drew.size _)).mono ?_;rintro e w3 ⟨rfl,rfl⟩)
   refine ⟨trivial,?_⟩;refine wpAnyH_one HO.out (i:=14) (by kernel_rfl) (by rfl) ?_;go_wp2_with (go_at_call 49;refine (HA2.out _).mono ?_;rintro e w3 ⟨rfl,rfl⟩)
   refine ⟨trivial,?_⟩;refine wpAnyH_one HO.out (i:=18) (by kernel_rfl) (by rfl) ?_;go_wp2_with (go_at_call 435;refine (HL2.out _ (HBd.out.drew.alloc HBd.out.drew.size _)).mono ?_;rintro e w3 ⟨rfl,rfl⟩)
   refine ⟨trivial,?_⟩;refine wpAnyH_one HO.out (i:=19) (by kernel_rfl) (by rfl) ?_;go_wp2_with fail
   refine ⟨trivial,?_⟩;refine wpAnyH_one HO.out (i:=21) (by kernel_rfl) (by rfl) ?_;go_wp2_with fail
   refine ⟨trivial,?_⟩;refine wpAnyH_end HO.out (by kernel_rfl) ?_;refine NoPanic.normal ?_;go_wp2_with fail
   go_meet;exact ⟨_,rfl,HQ⟩
 case rest =>
  obtain ⟨g9,rfl,hh⟩:=hcut;obtain ⟨hk9,hg9,hkz,hbx⟩:=hh.out;have HK9:=hid hk9;have HKz:=hid hkz;have HBx:=hid hbx;have HG9:=hid hg9;clear hh hk9 hkz hbx hg9;have c0:_=some (Value.int .u64 (sp:Int)):=HK9.out.cell 0;have c1:_=some (Value.bool bb):=HK9.out.cell 1;have c2:_=some (Value.int .u64 (v1:Int)):=HK9.out.cell 2;have c3:_=some (Value.int .u64 (v2:Int)):=HK9.out.cell 3;have HEx:=hid (HEr.out _ HBx.out);have HV:Hid (∀ W,Calls Tryz.prog 130 #[.agg #[.int .u64 (sp:Int), .bool bb, .int .u64 (v1:Int), .int .u64 (v2:Int)]] W fun e w'=>e = .returned (.bool (verOk sp bb v1))∧Below W.heap.size W w'):=hid (fun W=>vvalid_any sp bb v1 v2 W);generalize verOk sp bb v1=ok at *;go_wp2_with (first
   | (go_at_call 432;refine HEx.out.mono ?_;rintro e w4 ⟨rfl,rfl⟩)
   | (go_at_call 130;refine (HV.out _).mono ?_;rintro e w5 ⟨rfl,hb5⟩;have HB5:=hid (HBx.out.trans (hb5.mono HBx.out.size));have HK5:=hid (HK9.out.below hb5 HK9.out.lt);have HZ5:=hid (HKz.out.below hb5 HKz.out.lt);clear hb5;refine stop ?_))
  unfold Stop;have k0:w5.cell? ⟨g9,0,none⟩=some (.int .u64 (sp:Int)):=HK5.out.cell 0;have k1:w5.cell? ⟨g9,1,none⟩=some (.bool bb):=HK5.out.cell 1;have k2:w5.cell? ⟨g9,2,none⟩=some (.int .u64 (v1:Int)):=HK5.out.cell 2;have k3:w5.cell? ⟨g9,3,none⟩=some (.int .u64 (v2:Int)):=HK5.out.cell 3;have y0:w5.cell? ⟨w.heap.size,0,none⟩=some (.int .u64 0):=HZ5.out.cell 0;have z0:w5.frozen? ⟨w.heap.size,0,none⟩=false:=HZ5.out.frozen 0;have y1:w5.cell? ⟨w.heap.size,1,none⟩=some (.bool false):=HZ5.out.cell 1;have z1:w5.frozen? ⟨w.heap.size,1,none⟩=false:=HZ5.out.frozen 1;have y2:w5.cell? ⟨w.heap.size,2,none⟩=some (.int .u64 0):=HZ5.out.cell 2;have z2:w5.frozen? ⟨w.heap.size,2,none⟩=false:=HZ5.out.frozen 2;have y3:w5.cell? ⟨w.heap.size,3,none⟩=some (.int .u64 0):=HZ5.out.cell 3;have z3:w5.frozen? ⟨w.heap.size,3,none⟩=false:=HZ5.out.frozen 3;have hlt:w.heap.size < w5.heap.size:=HZ5.out.lt;have n01:(⟨w.heap.size,0,none⟩:Addr)≠⟨w.heap.size,1,none⟩:=by simp
  have n02:(⟨w.heap.size,0,none⟩:Addr)≠⟨w.heap.size,2,none⟩:=by simp
  have n03:(⟨w.heap.size,0,none⟩:Addr)≠⟨w.heap.size,3,none⟩:=by simp
  have n12:(⟨w.heap.size,1,none⟩:Addr)≠⟨w.heap.size,2,none⟩:=by simp
  have n13:(⟨w.heap.size,1,none⟩:Addr)≠⟨w.heap.size,3,none⟩:=by simp
  have n23:(⟨w.heap.size,2,none⟩:Addr)≠⟨w.heap.size,3,none⟩:=by simp
  clear HK5 HZ5 HV HEx c0 c1 c2 c3;cases ok
  ·go_wp2
   refine bodyPost_ret (v := .tuple #[.agg #[.int .u64 0, .bool false, .int .u64 0, .int .u64 0], .int .i64 11]) (by simp [results,Tryz.results43,go_sem,y0,y1,y2,y3,hlt]) rfl ?_;unfold RetVer;rw [HR.out];refine ⟨rfl,?_⟩;have h1:=((((HB5.out.setCell (p:=⟨w.heap.size,0,none⟩) (nL _) (.int .u64 0)).setCell (p:=⟨w.heap.size,1,none⟩) (nL _) (.bool false)).setCell (p:=⟨w.heap.size,2,none⟩) (nL _) (.int .u64 0)).setCell (p:=⟨w.heap.size,3,none⟩) (nL _) (.int .u64 0))
   first | exact h1 | exact h1.alloc h1.size _
  ·go_wp2
   refine bodyPost_ret (v := .tuple #[.agg #[.int .u64 (sp:Int), .bool bb, .int .u64 (v1:Int), .int .u64 (v2:Int)], .int .i64 0]) (by simp [results,Tryz.results43,go_sem,y0,y1,y2,y3,hlt]) rfl ?_;unfold RetVer;rw [HR.out];refine ⟨rfl,?_⟩;have h1:=((((HB5.out.setCell (p:=⟨w.heap.size,0,none⟩) (nL _) (.int .u64 (sp:Int))).setCell (p:=⟨w.heap.size,1,none⟩) (nL _) (.bool bb)).setCell (p:=⟨w.heap.size,2,none⟩) (nL _) (.int .u64 (v1:Int))).setCell (p:=⟨w.heap.size,3,none⟩) (nL _) (.int .u64 (v2:Int)))
   first | exact h1 | exact h1.alloc h1.size _
theorem vread_any (h:SD a L T s n K x cs f N m b0 S cur w d r) (p:Nat) (hp64:p < 18446744073709551616) :
  Calls Tryz.prog 43 #[.iface 59 (.pointer (some ⟨d,0,none⟩)), .int .u64 (p:Int)] w (RetVer w (verR cur (fun q=>chkR s K cs q 7) p)):=by
 by_cases hc:chkR s K cs p 7=0
 ·exact vread_ok h p hp64 hc
 ·refine (vread_bad h p hp64 hc).mono (fun e w' h1=>?_)
  unfold RetVer verR;rw [if_pos hc];exact h1
end
end
section
open Go.RowKit Go.Maps
structure BkA (K:Nat) (cs:Nat→CS) (cur:Nat→Nat) (q next:Nat) (p:List Nat):Prop where
 live:∃ k i,LiveA 53 K cs q 1 k i∧payW (cs k).cl=bSize p.length
 words:WordsAt cur q (payL next p)
section
variable {a:DA} {L T n K:Nat} {x:HA} {cs:Nat→CS} {f:Nat→Option Nat} {N m b0:Nat} {S:Fp} {cur:Nat→Nat} {w:World} {ks free:List Nat} {V:Nat→Nat} {cm:Nat}
theorem chain_bk (hd:DS a L T 53 n K x cs f N m b0 S cur w) {bl p:List Nat} (hlen:bl.length=nBlk p.length) (hp:p.length≤2000) (h:∀ j (hj:j < bl.length),BkA K cs cur bl[j] (bl.getD (j+1) 0) (p.drop (456 * j))):Chain L cur (fun q=>chkR 53 K cs q 1) bl p:=by
 have h1:=chain_words (L:=L) (chk:=fun q=>chkR 53 K cs q 1) hlen hp (fun j hj=>(h j hj).words) (fun j hj=>by
  obtain ⟨k,i2,h1,h2⟩:=(h j hj).live;have h5:=(h1.at_.inL hd).1;rw [List.length_drop] at h2;exact ⟨oM,h1.nz,h1.lt,(Live.chk ⟨k,i2,h1⟩).1⟩) (bl.length - 1) 0 (by have:=nBlk_drop p;omega)
 simpa using h1
theorem KeepL.bk {bl2:List Nat} {cs':Nat→CS} {cur':Nat→Nat} (h:KeepL K cs cur bl2 cs' cur') {q next:Nat} {p:List Nat} (hb:BkA K cs cur q next p):BkA K cs' cur' q next p∧pOff q ∉ bl2.map pOff:=by
 obtain ⟨k,i,h1,h2⟩:=hb.live;obtain ⟨g1,g2,g3,g4⟩:=h q 1 k i h1;refine ⟨⟨⟨k,i,g1,by rw [g2];exact h2⟩,fun y hy=>?_⟩,g3⟩;have h3:=hb.words y hy;rw [payL_len] at hy;rw [g4 y oM];exact h3
end
end
end Go.Proofs.YtfkjjoglnmeciaaGreatDoor
