/- The walks and laws that the claim leans on, part 51. -/
import Derived.Test.YtfkjjoglnmeciaaGreatDoorQbx
import Derived.Sort.CutIn
set_option maxRecDepth 100000
set_option maxHeartbeats 16000000
namespace Go.Proofs.YtfkjjoglnmeciaaGreatDoor
open Go.Lib (hid)
section
open Go.RowKit Go.Maps
section
variable {w:World}
attribute [local go_sem] Oper.semAt_some
theorem versionReads_law (A:Option Addr) (n c:Nat) (l:List DR) (A2:Option Addr) (n2 c2:Nat) (w:World) (hin:DrsIn w A n c l) (ht:Tab w) (hpy:Pay w) :
  Calls Tryz.prog 7 #[.slice A n c, .slice A2 n2 c2] w fun e w'=>e = .returned (.bool true)∧Below w.heap.size w w':=by
 obtain ⟨W1,hW1⟩:∃ W1,w.alloc (.cells #[.bool false] 4)=W1:=⟨_,rfl⟩
 have hb1:Below w.heap.size w W1:=by rw [← hW1];exact (Below.refl _ _).alloc (nL _) _
 have hr1:Blk W1 w.heap.size 4 #[.bool false]:=by rw [← hW1];exact Blk.new _ _ _
 have HW1:=hid hW1;have HB1:=hid hb1;have HR1:=hid hr1;have HAw:=hid (vawake_any W1 (ht.below hb1) (hpy.below hb1));have HBg:Hid (∀ W,Below W1.heap.size W1 W→Calls Tryz.prog 40 #[.slice A n c] W fun e w'=>∃ gh:Nat,e = .returned (.pointer (some ⟨gh,0,none⟩))∧Hid (BgS W l (min n 8) gh w')):=hid (fun W hW=>by
  have h2:=hb1.trans (hW.mono hb1.size);exact vbegin_any A n c l ⟨(hin.1.below h2).more h2.size,hin.2.1,hin.2.2.1,fun r hr=>(hin.2.2.2 r hr).below h2⟩ (ht.below h2) (hpy.below h2))
 clear hin ht hpy hW1 hb1 hr1;refine (callsIn_wide (n:=8)).1 (callsIn_of_wp_marks Tryz.func7 rfl trivial ?_ rfl);refine (wpIn_wide (n:=8)).2 ?_;simp only [Tryz.ntmps7,List.size_toArray,List.length_cons,List.length_nil,Nat.reduceAdd,Nat.reduceSub,Array.replicate_succ,Array.replicate_zero,List.push_toArray,List.append_toArray,List.nil_append,List.cons_append];go_upto_region 1 with fail
 rw [HW1.out];go_wp2_with (first
  | (go_at_call 39;refine HAw.out.mono ?_;rintro e w2 ⟨rfl,hb2⟩;have HB2:=hid hb2;clear hb2)
  | (go_at_call 40;refine (HBg.out w2 HB2.out).mono ?_;rintro e w4 ⟨gh,rfl,hbg⟩;have HBS:=hid hbg.out;clear hbg;refine stop ?_))
 unfold Stop;obtain ⟨rl,z,hj,hbgis, -⟩:=HBS.out;have hl8:rl.length≤8:=by rw [hbgis.1];exact Nat.min_le_right _ _
 have HL8:=hid hl8;obtain ⟨W5,hW5⟩:∃ W5,w4.alloc (.cells #[.pointer (some ⟨gh,0,none⟩)] 88)=W5:=⟨_,rfl⟩
 have hb5:Below w4.heap.size w4 W5:=by rw [← hW5];exact (Below.refl _ _).alloc (nL _) _
 have hk5:Blk W5 w4.heap.size 88 #[.pointer (some ⟨gh,0,none⟩)]:=by rw [← hW5];exact Blk.new _ _ _
 have hj5:=hj.below_ hb5;obtain ⟨gp,hgp⟩:∃ gp,w4.heap.size=gp:=⟨_,rfl⟩
 rw [hgp] at hk5;have HGp:=hid hgp;have HB24:Hid (Below w2.heap.size w2 W5):=hid hj5.below;have HJ5:=hid hj5;have HK5:=hid hk5;have HW5:=hid hW5;obtain ⟨gw,hgw⟩:∃ gw,z.y.g=gw:=⟨_,rfl⟩
 obtain ⟨d,hd⟩:∃ d,z.y.d=d:=⟨_,rfl⟩
 have HCr:=hid (hj5.crash oM A2 n2 c2);rw [hgw] at HCr;have HHx:Hid (∀ W,Below W5.heap.size W5 W→W.cell? ⟨gp,0,none⟩=some (.pointer (some ⟨gh,0,none⟩))∧W.cell? ⟨gh,0,none⟩=some (.pointer (some ⟨gw,0,none⟩))):=hid (fun W hW=>⟨(hk5.below hW hk5.lt).cell 0,by rw [← hgw];exact (hj5.below_ hW).blk.cell 0⟩);have HVs:Hid (∀ W,Below W5.heap.size W5 W→VrW gw d rl W∧VrX gh rl W):=hid (fun W hW=>by
  have h1:=hj5.below_ hW;rw [← hgw,← hd];exact ⟨vrW_of h1.bw h1.hist h1.link oM,vrX_of h1 hl8⟩)
 obtain ⟨f0,g0⟩:=HHx.out W5 (Below.refl _ _);clear hj hbgis hl8 hb5 hk5 hj5 hW5 hgp hgw hd HBS HAw HBg;go_upto_region 4 with fail
 rw [HW5.out,HGp.out];go_wp2_with (go_at_call 29;refine HCr.out.mono ?_;rintro e w6 ⟨gw2,d2,rfl,hv2,hb6⟩;have HV2:=hid hv2;have HB6:=hid hb6;obtain ⟨f6,g6⟩:=HHx.out w6 hb6;obtain ⟨hv1,hvx⟩:=HVs.out w6 hb6;have HV1:=hid hv1;have HX:=hid hvx;clear hv2 hb6 hv1 hvx f0 g0;refine stop ?_)
 unfold Stop;clear HCr HW5 HGp;go_upto_region 10 with fail
 obtain ⟨W7,hW7⟩:∃ W7,w6.alloc (.cells #[.pointer (some ⟨gw,0,none⟩), .pointer (some ⟨gw2,0,none⟩)] 52)=W7:=⟨_,rfl⟩
 have hb7:Below w6.heap.size w6 W7:=by rw [← hW7];exact (Below.refl _ _).alloc (nL _) _
 have hk7:Blk W7 w6.heap.size 52 #[.pointer (some ⟨gw,0,none⟩), .pointer (some ⟨gw2,0,none⟩)]:=by rw [← hW7];exact Blk.new _ _ _
 rw [hW7];obtain ⟨ga,hga⟩:∃ ga,w6.heap.size=ga:=⟨_,rfl⟩
 rw [hga] at hk7 ⊢;have HB7:=hid hb7;have HK7:=hid hk7;have HGa:=hid hga;clear hb7 hk7 hW7 f6 g6 hga;have HRw:Hid (∀ W,Below W7.heap.size W7 W→Blk W w.heap.size 4 #[.bool false]):=hid (fun W hW=>by
  have h1:=HR1.out.below HB2.out HR1.out.lt;have h2:=h1.below HB24.out h1.lt;have h3:=h2.below HB6.out h2.lt;have h4:=h3.below HB7.out h3.lt;exact h4.below hW h4.lt)
 have HBw:Hid (Below w.heap.size w W7):=hid (HB1.out.trans ((HB2.out.trans (HB24.out.trans ((HB6.out.trans (HB7.out.mono HB6.out.size)).mono HB24.out.size) |>.mono HB2.out.size)).mono HB1.out.size));obtain ⟨An,nl,cl,hnl,hn8,hH1⟩:=HX.out.h1;have HNl:=hid (show nl=rl.length∧nl≤8 from ⟨hnl,hn8⟩);have HH1:Hid (∀ W,Below W7.heap.size W7 W→W.cell? ⟨gp,0,none⟩=some (.pointer (some ⟨gh,0,none⟩))∧W.cell? ⟨gh,1,none⟩=some (.slice An nl cl)∧Reads W W.heap.size 5 An nl (rvCells rl)):=hid (fun W hW=>by
  have h1:=HB7.out.trans (hW.mono HB7.out.size);exact ⟨(HHx.out W (HB6.out.trans (h1.mono HB6.out.size))).1,hH1 W h1⟩)
 have HB67:=hid (fun W (hW:Below W7.heap.size W7 W)=>HB7.out.trans (hW.mono HB7.out.size));have HWs:Hid (w.heap.size < W7.heap.size):=hid (HRw.out W7 (Below.refl _ _)).lt;have HCL:=hid (chL_len (vvs rl));have HVl:Hid ((vvs rl).length=rl.length):=hid (by simp [vvs]);clear hnl hn8 hH1 HHx HVs HJ5 HK5;have HBr0:Hid (Below W7.heap.size W7 W7):=hid (Below.refl _ _);refine wp_loop_rounds 3 ?_;rw [rounds_succ];have a0:W7.cell? ⟨ga,0,none⟩=some (.pointer (some ⟨gw,0,none⟩)):=(HK7.out.below HBr0.out HK7.out.lt).cell 0;obtain ⟨W8r1,hW8r1⟩:∃ W8,(W7.alloc (.cells #[.pointer (some ⟨gw,0,none⟩)] 52)).alloc (.cells #[.int .i64 0] 3)=W8:=⟨_,rfl⟩
 have s8:(W7.alloc (.cells #[.pointer (some ⟨gw,0,none⟩)] 52)).heap.size=W7.heap.size+1:=by simp
 have hb8:Below W7.heap.size W7 W8r1:=by rw [← hW8r1];exact ((Below.refl _ _).alloc (nL _) _).alloc (by simp) _
 have hk8:Blk W8r1 W7.heap.size 52 #[.pointer (some ⟨gw,0,none⟩)]:=by rw [← hW8r1];exact (Blk.new _ _ _).alloc _
 have hk9:Blk W8r1 (W7.heap.size+1) 3 #[.int .i64 0]:=by rw [← hW8r1,← s8];exact Blk.new _ _ _
 have HW8r1:=hid hW8r1;clear s8 hW8r1;go_upto_region 13 with fail
 rw [HW8r1.out];obtain ⟨gb1,hgb⟩:∃ g,W7.heap.size=g:=⟨_,rfl⟩
 obtain ⟨gk1,hgk⟩:∃ g,gb1+1=g:=⟨_,rfl⟩
 rw [hgb] at hk8 hk9 ⊢;rw [hgk] at hk9 ⊢;have HGkr1:Hid (gk1=gb1+1∧W7.heap.size=gb1):=hid ⟨hgk.symm,hgb⟩;have HB8r1:=hid hb8;have HK8r1:=hid hk8;have HK9r1:=hid hk9;have HV8r1:=hid (HBr0.out.trans (hb8.mono HBr0.out.size));have h3r1:=HV1.out.h3 W8r1 (HB67.out _ HV8r1.out);have HLkr1:=hid (HV1.out.lk W8r1.drew (HB67.out _ HV8r1.out.drew));clear a0 hb8 hk8 hk9 hgb hgk;refine wp_region_scriptH (fun W=>W.cell? ⟨gb1,0,none⟩=some (.pointer (some ⟨gw,0,none⟩))∧W.cell? ⟨gw,3,none⟩=some (.pointer (some ⟨d,0,none⟩))) 8 [] [(1,0),(1,1),(1,2),(1,3),(1,4),(1,5),(0,6),(0,7)] (by kernel_rfl) (by kernel_rfl) ⟨HK8r1.out.drew.cell 0,h3r1⟩ ?_;refine tkH (.pointer (some ⟨gw,0,none⟩)) (fun w' hS=>?_) ?_
 ·obtain ⟨s1,s2⟩:=hS
  go_simp
 simp only [zA,zB,Act.put,zD,zE,zF];refine tkH (.pointer (some ⟨gw,0,none⟩)) (fun w' hS=>?_) ?_
 ·go_simp
 simp only [zA,zB,zC,Act.put,zD,zE,zF];refine tkH (.pointer (some ⟨gw,3,none⟩)) (fun w' hS=>?_) ?_
 ·go_simp
 simp only [zA,zB,zC,Act.put,zD,zE,zF];refine tkH (.pointer (some ⟨d,0,none⟩)) (fun w' hS=>?_) ?_
 ·obtain ⟨s1,s2⟩:=hS
  go_simp
 simp only [zA,zB,zC,Act.put,zD,zE,zF];refine tkH (.iface 59 (.pointer (some ⟨d,0,none⟩))) (fun w' hS=>?_) ?_
 ·go_simp
 simp only [zA,zB,zC,Act.put,zD,zE,zF];refine tkH (.pointer (some ⟨gw,0,none⟩)) (fun w' hS=>?_) ?_
 ·obtain ⟨s1,s2⟩:=hS
  go_simp
 simp only [zA,zB,zC,Act.put,zD,zE,zF];refine wpScriptH_do (by rfl) ?_;go_wp2_with (go_at_call 33;refine HLkr1.out.mono ?_;rintro e w9r1 ⟨rfl,hw9⟩;have HW9r1:=hid hw9;clear hw9)
 have HB9r1:Hid (Below W8r1.heap.size W8r1 w9r1):=hid (by rw [HW9r1.out];exact (Below.refl _ _).drew.drew);refine ⟨⟨(HK8r1.out.below HB9r1.out HK8r1.out.lt).cell 0,HV1.out.h3 _ (HB67.out _ (HV8r1.out.trans (HB9r1.out.mono HV8r1.out.size)))⟩,?_⟩;refine wpScriptH_do (by rfl) ?_;go_wp2_with (go_at_call 41;refine (vchain_any d (hdQ (vvs rl)) w9r1).mono ?_;rintro e w10r1 ⟨rfl,hw10⟩;have HW10r1:=hid hw10;clear hw10)
 have hb10:Below w9r1.heap.size w9r1 w10r1:=by
  rw [HW10r1.out];have h1:=(Below.refl w9r1.heap.size w9r1).alloc (nL _) (.cells #[.iface 59 (.pointer (some ⟨d,0,none⟩))] 83);exact h1.alloc h1.size _
 have hs1:Blk w10r1 w9r1.heap.size 83 #[.iface 59 (.pointer (some ⟨d,0,none⟩))]:=by
  rw [HW10r1.out];exact (Blk.new w9r1 _ _).alloc _
 have hs2:Blk w10r1 (w9r1.heap.size+1) 54 #[.int .u64 (hdQ (vvs rl):Int)]:=by
  rw [HW10r1.out];have h1:=Blk.new (w9r1.alloc (.cells #[.iface 59 (.pointer (some ⟨d,0,none⟩))] 83)) 54 #[.int .u64 (hdQ (vvs rl):Int)];rw [show (w9r1.alloc (.cells #[.iface 59 (.pointer (some ⟨d,0,none⟩))] 83)).heap.size=w9r1.heap.size+1 by simp] at h1;exact h1
 have HB10r1:Hid (Below W8r1.heap.size W8r1 w10r1):=hid (HB9r1.out.trans (hb10.mono HB9r1.out.size));have HVTr1:Hid (Below W7.heap.size W7 w10r1):=hid (HV8r1.out.trans (HB10r1.out.mono HV8r1.out.size));have HK8tr1:=hid (HK8r1.out.below HB10r1.out HK8r1.out.lt);have HK9tr1:=hid (HK9r1.out.below HB10r1.out HK9r1.out.lt);have HSqr1:=hid (HV1.out.ch w10r1 (HB67.out _ HVTr1.out) w9r1.heap.size (w9r1.heap.size+1) hs1 hs2 (fun k=>k=gk1) (fun k hk=>by have h1:=HK9tr1.out.lt;have hk':k=gk1:=hk;omega));refine ⟨⟨HK8tr1.out.cell 0,HV1.out.h3 _ (HB67.out _ HVTr1.out)⟩,?_⟩;show wpList _ _ _ _ _ _;simp only [List.drop_succ_cons,List.drop_zero];refine NoPanic.normal ?_;have HNkr1:Hid (w6.heap.size≤gk1):=hid (by have h1:=HGkr1.out;have h2:=HBr0.out.size;have h3:=HB7.out.size;omega);clear hb10 hs1 hs2 h3r1;go_wp2_with fail
 refine wp_rangeFunc_rd (gf:=127) (n0:=w6.heap.size) (gk:=gk1) (q0:=10) rfl (enters_of Tryz.func127 (by kernel_rfl) rfl) HSqr1.out HNkr1.out HK9tr1.out.lt HK9tr1.out ?assign ?body ?done
 case assign =>
  intro l pre x W K hI hK;obtain ⟨sp,dl,dt,ol⟩:=x;have HKk:=hid hK;clear hK;dsimp only [vArr];simp only [List.setIfInBounds_toArray,List.set_cons_succ,List.set_cons_zero];gi_wp2
  exact HKk.out _ ((Below.refl _ _).alloc (nL _) _) (Blk.new W _ _)
 case body =>
  intro l pre x g W hg hx hI hN;obtain ⟨xs,xd,xt,xo⟩:=x;have hgk:=HGkr1.out;have HNk7:Hid (W7.heap.size≤gk1):=hid (by have h2:=HBr0.out.size;omega);have hWW:Below W7.heap.size W7 W:=HVTr1.out.trans (hI.chg.toBelow HVTr1.out.size (fun k hk=>by have hk':k=gk1:=hk;have:=HNk7.out;omega));have HWW:=hid hWW;have HIw:=hid hI;have HXg:=hid hx;have HN4:=hid hN;have hgl:=HK9tr1.out.lt;have HGn:Hid (g≠gk1∧gb1≠gk1):=hid ⟨oM,oM⟩;have HKb:=hid (hI.chg.blk HK8tr1.out (fun e=>HGn.out.2 e));have HBad:Hid (∀ V,Below W.heap.size W V→KeepsFrom w10r1.heap.size W (V.setCell ⟨w.heap.size,0,none⟩ (.bool false))):=hid (fun V hV=>by
   refine KeepsFrom.of_chg (Z:=fun k=>k=w.heap.size) ((Chg.of_below (S:=fun k=>k=w.heap.size) hV).setCell (p:=⟨w.heap.size,0,none⟩) (.inl rfl) _) (fun k hk=>?_);have h1:=HWs.out;have h2:=HVTr1.out.size;have hk':k=w.heap.size:=hk;omega)
  have HRv:Hid (∀ V,Below W.heap.size W V→V.cell? ⟨w.heap.size,0,none⟩=some (.bool false)∧V.frozen? ⟨w.heap.size,0,none⟩=false):=hid (fun V hV=>by
   have h1:=HRw.out V (HWW.out.trans (hV.mono HWW.out.size));exact ⟨h1.cell 0,h1.frozen 0⟩)
  have HVW:=hid (fun V (hV:Below W.heap.size W V)=>HWW.out.trans (hV.mono HWW.out.size));have HL7:Hid (∀ p:List (Nat × Bool × Nat × Nat),p <+: chL (vvs rl)→p.length≤rl.length):=hid (fun p hp=>by have h1:=hp.length_le;rw [HCL.out,HVl.out] at h1;exact h1);have HAp:Hid ((pre++[(xs,xd,xt,xo)]).length=pre.length+1):=hid (by simp);have kc:W.cell? ⟨gk1,0,none⟩=some (.int .i64 (pre.length:Int)):=hI.cnt.cell 0;have v0:W.cell? ⟨g,0,none⟩=some (.int .u64 (xs:Int)):=hx.cell 0;have v1:W.cell? ⟨g,1,none⟩=some (.bool xd):=hx.cell 1;have v2:W.cell? ⟨g,2,none⟩=some (.int .u64 (xt:Int)):=hx.cell 2;have v3:W.cell? ⟨g,3,none⟩=some (.int .u64 (xo:Int)):=hx.cell 3;obtain ⟨hc0,hc1, -⟩:=HH1.out W hWW;have HFin:Hid (∀ V,Below W.heap.size W V→∀ z:Int,z=((pre.length+1:Nat):Int)→KeepsFrom w10r1.heap.size W (V.setCell ⟨gk1,0,none⟩ (.int .i64 z))∧KpC w6.heap.size (fun k=>k=gk1) W (V.setCell ⟨gk1,0,none⟩ (.int .i64 z))∧RdI gk1 w10r1 (pre++[(xs,xd,xt,xo)]) (V.setCell ⟨gk1,0,none⟩ (.int .i64 z))):=hid (fun V hV z hz=>by
   refine RdI.step HIw.out HK9tr1.out.lt HNkr1.out ((Chg.of_below (S:=fun k=>k=gk1) hV).setCell (p:=⟨gk1,0,none⟩) (.inl rfl) _) ?_;have h1:=(HIw.out.cnt.below hV HIw.out.cnt.lt).set_ 0 (.int .i64 z);rw [HAp.out,← hz];exact h1)
  have HKc:Hid (∀ V,Below W.heap.size W V→V.cell? ⟨gk1,0,none⟩=some (.int .i64 (pre.length:Int))∧V.frozen? ⟨gk1,0,none⟩=false):=hid (fun V hV=>by
   have h1:=HIw.out.cnt.below hV HIw.out.cnt.lt;exact ⟨h1.cell 0,h1.frozen 0⟩)
  by_cases hkn:pre.length < rl.length
  ·obtain ⟨hil,Bb,go,hA, -, -, -, -, -, -⟩:=rv_facts (HH1.out W hWW).2.2 (k:=pre.length) (by have:=HNl.out;omega)
   subst hA;have HEx:Hid ((pre++[(xs,xd,xt,xo)]) <+: chL (vvs rl)→(xs,xd,xt,xo)=((rl[pre.length]).v.st,(rl[pre.length]).v.dl,(rl[pre.length]).v.dt,hdQ (vvs (rl.drop (pre.length+1))))):=hid (fun hp=>by
    have hlt:pre.length < (chL (vvs rl)).length:=by rw [HCL.out,HVl.out];exact hkn
    rw [← chL_at rl pre.length hkn hlt];have h1:=hp.getElem (i:=pre.length) (by simp);rw [← h1];simp)
   have HSm:=hid (fun V hV=>HX.out.sm V (HB67.out V hV) pre.length hkn xs xd xt xo);have HRd:=hid (fun V hV=>HV1.out.rd V (HB67.out V hV) pre.length hkn);have HPl:=hid (fun V hV=>HV1.out.pl V (HB67.out V hV) pre.length hkn);have HSp:=hid (HX.out.sp pre.length hkn);have HEn:Hid (∀ V,Below W7.heap.size W7 V→V.cell? ⟨Bb,go+pre.length * 5,none⟩=some (.int .u64 ((rl[pre.length]).v.st:Int))∧V.cell? ⟨Bb,go+pre.length * 5+1,none⟩=some (.bool (rl[pre.length]).v.dl)∧V.cell? ⟨Bb,go+pre.length * 5+2,none⟩=some (.int .u64 ((rl[pre.length]).v.q:Int))∧V.cell? ⟨Bb,go+pre.length * 5+3,none⟩=some (.slice (rl[pre.length]).B (rl[pre.length]).nb (rl[pre.length]).cb)∧V.cell? ⟨Bb,go+pre.length * 5+4,none⟩=some (.slice (rl[pre.length]).D (rl[pre.length]).nd (rl[pre.length]).cd)):=hid (fun V hV=>by
    obtain ⟨hil2,b2,o2,hA2,_,e0,e1,e2,e3,e4⟩:=rv_facts (HH1.out V hV).2.2 (k:=pre.length) (by have:=HNl.out;omega);cases hA2;exact ⟨e0,e1,e2,e3,e4⟩)
   obtain ⟨st,hst⟩:∃ z,(rl[pre.length]).v.st=z:=⟨_,rfl⟩
   obtain ⟨dl,hdl⟩:∃ z,(rl[pre.length]).v.dl=z:=⟨_,rfl⟩
   obtain ⟨dt,hdt⟩:∃ z,(rl[pre.length]).v.dt=z:=⟨_,rfl⟩
   obtain ⟨q,hq⟩:∃ z,(rl[pre.length]).v.q=z:=⟨_,rfl⟩
   obtain ⟨ol,hol⟩:∃ z,hdQ (vvs (rl.drop (pre.length+1)))=z:=⟨_,rfl⟩
   rw [hst,hdl,hdt,hol] at HEx;rw [hst,hdl,hdt,hol] at HSm;rw [hst,hdl,hdt,hol,hq] at HRd;rw [hst,hdl,hdt,hol,hq] at HPl;rw [hst] at HSp;rw [hst,hdl,hq] at HEn;generalize (rl[pre.length]).B=Br at *;generalize (rl[pre.length]).nb=nb at *;generalize (rl[pre.length]).cb=cb at *;generalize (rl[pre.length]).D=Dr at *;generalize (rl[pre.length]).nd=nd at *;generalize (rl[pre.length]).cd=cd at *;have hlk:(pre.length:Int) < (nl:Int):=by have:=HNl.out;omega
   have hk0:(0:Int)≤(pre.length:Int):=oM;have HK8':Hid (pre.length < 8):=hid (by have:=HNl.out;omega);clear hst hdl hdt hq hol hil hkn hN hI hx hg hgk hgl hWW;have hlkN:pre.length < nl:=by have:=HNl.out;omega
   have HBd:Hid (Blk W gk1 3 #[.int .i64 (pre.length:Int)]):=hid HIw.out.cnt;generalize pre.length=kk at *;obtain ⟨bb,hbb⟩:∃ b,decide (xs=st∧xd=dl∧xt=dt∧xo=ol)=b:=⟨_,rfl⟩
   rw [hbb] at HSm;have HBb:=hid hbb;clear hbb;have HSw:=hid (HSm.out W.drew HWW.out.drew);unfold vAgg at HSw;gi_upto_region 15 with fail
   refine wpIn_region_scriptH (fun V=>V.cell? ⟨gk1,0,none⟩=some (.int .i64 (kk:Int))∧V.cell? ⟨gp,0,none⟩=some (.pointer (some ⟨gh,0,none⟩))∧V.cell? ⟨gh,1,none⟩=some (.slice (some ⟨Bb,go,none⟩) nl cl)∧V.cell? ⟨g,0,none⟩=some (.int .u64 (xs:Int))∧V.cell? ⟨g,1,none⟩=some (.bool xd)∧V.cell? ⟨g,2,none⟩=some (.int .u64 (xt:Int))∧V.cell? ⟨g,3,none⟩=some (.int .u64 (xo:Int))) 14 [] [(1,0),(1,1),(1,2),(1,3),(1,4),(1,5),(1,6),(1,7),(1,8),(1,9),(1,10),(0,11),(1,12),(1,13)] (by kernel_rfl) (by kernel_rfl) (by kernel_rfl) ⟨kc,hc0,hc1,v0,v1,v2,v3⟩ ?_;refine tkH (.int .i64 (kk:Int)) (fun w' hS=>?_) ?_
   ·obtain ⟨s1,s2,s3,s4,s5,s6,s7⟩:=hS
    go_simp
   simp only [zA,zB,Act.put,zD,zE,zF];refine tkH (.pointer (some ⟨gh,0,none⟩)) (fun w' hS=>?_) ?_
   ·obtain ⟨s1,s2,s3,s4,s5,s6,s7⟩:=hS
    go_simp
   simp only [zA,zB,zC,Act.put,zD,zE,zF];refine tkH (.pointer (some ⟨gh,0,none⟩)) (fun w' hS=>?_) ?_
   ·go_simp
   simp only [zA,zB,zC,Act.put,zD,zE,zF];refine tkH (.pointer (some ⟨gh,1,none⟩)) (fun w' hS=>?_) ?_
   ·go_simp
   simp only [zA,zB,zC,Act.put,zD,zE,zF];refine tkH (.slice (some ⟨Bb,go,none⟩) nl cl) (fun w' hS=>?_) ?_
   ·obtain ⟨s1,s2,s3,s4,s5,s6,s7⟩:=hS
    go_simp
   simp only [zA,zB,zC,Act.put,zD,zE,zF];refine tkH (.int .i64 (nl:Int)) (fun w' hS=>?_) ?_
   ·go_simp
   simp only [zA,zB,zC,Act.put,zD,zE,zF];refine tkH (.bool false) (fun w' hS=>?_) ?_
   ·go_simp
   simp only [zA,zB,zC,Act.put,zD,zE,zF];refine tkH (.bool false) (fun w' hS=>?_) ?_
   ·go_simp
   simp only [zA,zB,zC,Act.put,zD,zE,zF];refine tkH (.pointer (some ⟨gh,0,none⟩)) (fun w' hS=>?_) ?_
   ·obtain ⟨s1,s2,s3,s4,s5,s6,s7⟩:=hS
    go_simp
   simp only [zA,zB,zC,Act.put,zD,zE,zF];refine tkH (.agg #[.int .u64 (xs:Int), .bool xd, .int .u64 (xt:Int), .int .u64 (xo:Int)]) (fun w' hS=>?_) ?_
   ·obtain ⟨s1,s2,s3,s4,s5,s6,s7⟩:=hS
    go_simp
   simp only [zA,zB,zC,Act.put,zD,zE,zF];refine tkH (.int .i64 (kk:Int)) (fun w' hS=>?_) ?_
   ·obtain ⟨s1,s2,s3,s4,s5,s6,s7⟩:=hS
    go_simp
   simp only [zA,zB,zC,Act.put,zD,zE,zF];refine wpScriptH_do (by rfl) ?_;go_wp2_with (go_at_call 42;refine HSw.out.mono ?_;rintro e w11 ⟨rfl,hb11⟩;have HB11:Hid (Below W.heap.size W w11):=hid ((Below.refl _ _).drew.trans hb11);clear hb11)
   obtain ⟨hc0',hc1', -⟩:=HH1.out w11 (HVW.out _ HB11.out);have hx11:=HXg.out.below HB11.out HXg.out.lt;refine ⟨⟨(HKc.out _ HB11.out).1,hc0',hc1',hx11.cell 0,hx11.cell 1,hx11.cell 2,hx11.cell 3⟩,?_⟩;clear kc hc0 hc1 v0 v1 v2 v3;cases bb
   ·skip
    refine tkH (.bool true) (fun w' hS=>?_) ?_
    ·go_simp
    simp only [zA,zB,zC,Act.put,zD,zE,zF];refine tkH (.bool true) (fun w' hS=>?_) ?_
    ·go_simp
    simp only [zA,zB,zC,Act.put,zD,zE,zF];show wpList _ _ _ _ _ _;simp only [List.drop_succ_cons,List.drop_zero];refine NoPanic.normal ?_;refine OnlyN.thenN ?_;obtain ⟨r0,r1⟩:=HRv.out w11 HB11.out;clear hc0' hc1' hx11;gi_wp2_with fail
    exact ⟨HBad.out _ HB11.out,fun hp=>absurd (HEx.out hp) (fun h=>by
     injection h with h1 h2
     injection h2 with h2 h3
     injection h3 with h3 h4
     exact of_decide_eq_false HBb.out ⟨h1,h2,h3,h4⟩)⟩
   ·skip
    refine tkH (.bool false) (fun w' hS=>?_) ?_
    ·go_simp
    simp only [zA,zB,zC,Act.put,zD,zE,zF];refine tkH (.bool false) (fun w' hS=>?_) ?_
    ·go_simp
    simp only [zA,zB,zC,Act.put,zD,zE,zF];show wpList _ _ _ _ _ _;simp only [List.drop_succ_cons,List.drop_zero];refine NoPanic.normal ?_;refine OnlyN.thenN ?_;obtain ⟨rfl,rfl,rfl,rfl⟩:=of_decide_eq_true HBb.out;have hE11:=(HEn.out w11 (HVW.out _ HB11.out)).2.2.1;have hK11:=(HKc.out w11 HB11.out).1;have HRdw:=hid (HRd.out w11.drew (HVW.out _ HB11.out.drew));unfold vAgg at HRdw;clear hx11 HSw HSm;gi_upto_region 17 with fail
    refine wpIn_region_scriptH (fun V=>V.cell? ⟨gp,0,none⟩=some (.pointer (some ⟨gh,0,none⟩))∧V.cell? ⟨gh,1,none⟩=some (.slice (some ⟨Bb,go,none⟩) nl cl)∧V.cell? ⟨gk1,0,none⟩=some (.int .i64 (kk:Int))∧V.cell? ⟨Bb,go+kk * 5+2,none⟩=some (.int .u64 (q:Int))) 9 [] [(1,0),(1,1),(1,2),(1,3),(1,4),(1,5),(1,6),(1,7),(1,8)] (by kernel_rfl) (by kernel_rfl) (by kernel_rfl) ⟨hc0',hc1',hK11,hE11⟩ ?_;refine tkH (.pointer (some ⟨gh,0,none⟩)) (fun w' hS=>?_) ?_
    ·obtain ⟨s1,s2,s3,s4⟩:=hS
     go_simp
    simp only [zA,zB,Act.put,zD,zE,zF];refine tkH (.pointer (some ⟨gh,0,none⟩)) (fun w' hS=>?_) ?_
    ·go_simp
    simp only [zA,zB,zC,Act.put,zD,zE,zF];refine tkH (.pointer (some ⟨gh,1,none⟩)) (fun w' hS=>?_) ?_
    ·go_simp
    simp only [zA,zB,zC,Act.put,zD,zE,zF];refine tkH (.slice (some ⟨Bb,go,none⟩) nl cl) (fun w' hS=>?_) ?_
    ·obtain ⟨s1,s2,s3,s4⟩:=hS
     go_simp
    simp only [zA,zB,zC,Act.put,zD,zE,zF];refine tkH (.int .i64 (kk:Int)) (fun w' hS=>?_) ?_
    ·obtain ⟨s1,s2,s3,s4⟩:=hS
     go_simp
    simp only [zA,zB,zC,Act.put,zD,zE,zF];refine tkH (.pointer (some ⟨Bb,go+kk * 5,none⟩)) (fun w' hS=>?_) ?_
    ·go_simp
    simp only [zA,zB,zC,Act.put,zD,zE,zF];refine tkH (.pointer (some ⟨Bb,go+kk * 5+2,none⟩)) (fun w' hS=>?_) ?_
    ·go_simp
    simp only [zA,zB,zC,Act.put,zD,zE,zF];refine tkH (.int .u64 (q:Int)) (fun w' hS=>?_) ?_
    ·obtain ⟨s1,s2,s3,s4⟩:=hS
     go_simp
    simp only [zA,zB,zC,Act.put,zD,zE,zF];refine tkH (.int .u64 (q:Int)) (fun w' hS=>?_) ?_
    ·go_simp
    simp only [zA,zB,zC,Act.put,zD,zE,zF];show wpList _ _ _ _ _ _;simp only [List.drop_succ_cons,List.drop_zero];refine NoPanic.normal ?_;refine OnlyN.thenN ?_;clear hc0' hc1' hE11 hK11;have b18:w11.cell? ⟨gb1,0,none⟩=some (.pointer (some ⟨gw,0,none⟩)):=(HKb.out.below HB11.out HKb.out.lt).cell 0;have d18:w11.cell? ⟨gw,3,none⟩=some (.pointer (some ⟨d,0,none⟩)):=HV1.out.h3 w11 (HB67.out _ (HVW.out _ HB11.out));gi_upto_region 19 with fail
    refine ⟨trivial,(CallsIn.inRound l (callsIn_wide.2 HRdw.out)).mono ?_⟩;rintro e w12 ⟨rfl,hb12⟩;have HB12:Hid (Below W.heap.size W w12):=hid (HB11.out.drew.trans (hb12.mono HB11.out.size));clear hb12 b18 d18;gi_upto_region 19 with fail
    obtain ⟨V19,hV19⟩:∃ V,w12.alloc (.cells #[.int .u64 (xs:Int), .bool xd, .int .u64 (xt:Int), .int .u64 (xo:Int)] 97)=V:=⟨_,rfl⟩
    obtain ⟨gr,hgr⟩:∃ g,w12.heap.size=g:=⟨_,rfl⟩
    have hb19:Below w12.heap.size w12 V19:=by rw [← hV19];exact (Below.refl _ _).alloc (nL _) _
    have hk19:Blk V19 w12.heap.size 97 #[.int .u64 (xs:Int), .bool xd, .int .u64 (xt:Int), .int .u64 (xo:Int)]:=by rw [← hV19];exact Blk.new _ _ _
    rw [hV19];rw [hgr] at hk19 ⊢;have HB19:=hid (HB12.out.trans (hb19.mono HB12.out.size));have HK19:=hid hk19;clear hb19 hk19 hV19 hgr;have HV19:=hid (fun V (hV:Below V19.heap.size V19 V)=>HB19.out.trans (hV.mono HB19.out.size));have Hr:Hid (∀ V,Below V19.heap.size V19 V→V.cell? ⟨gr,0,none⟩=some (.int .u64 (xs:Int))∧V.cell? ⟨gr,1,none⟩=some (.bool xd)∧V.cell? ⟨gr,2,none⟩=some (.int .u64 (xt:Int))∧V.cell? ⟨gr,3,none⟩=some (.int .u64 (xo:Int))):=hid (fun V hV=>by
     have h1:=HK19.out.below hV HK19.out.lt;exact ⟨h1.cell 0,h1.cell 1,h1.cell 2,h1.cell 3⟩)
    have Hv:Hid (∀ V,Below V19.heap.size V19 V→V.cell? ⟨g,0,none⟩=some (.int .u64 (xs:Int))∧V.cell? ⟨g,1,none⟩=some (.bool xd)∧V.cell? ⟨g,2,none⟩=some (.int .u64 (xt:Int))∧V.cell? ⟨g,3,none⟩=some (.int .u64 (xo:Int))):=hid (fun V hV=>by
     have h1:=HXg.out.below (HV19.out V hV) HXg.out.lt;exact ⟨h1.cell 0,h1.cell 1,h1.cell 2,h1.cell 3⟩)
    have Hb:Hid (∀ V,Below V19.heap.size V19 V→V.cell? ⟨gb1,0,none⟩=some (.pointer (some ⟨gw,0,none⟩))):=hid (fun V hV=>(HKb.out.below (HV19.out V hV) HKb.out.lt).cell 0);have Hh:Hid (∀ V,Below V19.heap.size V19 V→V.cell? ⟨gp,0,none⟩=some (.pointer (some ⟨gh,0,none⟩))∧V.cell? ⟨gh,1,none⟩=some (.slice (some ⟨Bb,go,none⟩) nl cl)):=hid (fun V hV=>by
     obtain ⟨h1,h2,_⟩:=HH1.out V (HVW.out _ (HV19.out V hV));exact ⟨h1,h2⟩)
    have Hk:Hid (∀ V,Below V19.heap.size V19 V→V.cell? ⟨gk1,0,none⟩=some (.int .i64 (kk:Int))):=hid (fun V hV=>(HKc.out V (HV19.out V hV)).1);have He:=hid (fun V (hV:Below V19.heap.size V19 V)=>HEn.out V (HVW.out _ (HV19.out V hV)));have HPw:=hid (HPl.out V19.drew (HVW.out _ HB19.out.drew));have ds:((xs:Int) == (xs:Int))=true:=beq_self_eq_true _;have dt':((xt:Int) == (xt:Int))=true:=beq_self_eq_true _;have do':((xo:Int) == (xo:Int))=true:=beq_self_eq_true _;have dx:(xd == xd)=true:=beq_self_eq_true _;refine wpIn_region_scriptH (fun V=>Below V19.heap.size V19 V) 27 [] [(1,0),(1,1),(1,2),(1,3),(1,4),(1,5),(1,6),(1,7),(1,8),(1,9),(1,11),(1,12),(1,13),(1,14),(1,15),(1,16),(1,17),(1,19),(1,20),(1,21),(1,22),(0,10),(0,18),(0,23),(0,24),(1,25),(1,26)] (by kernel_rfl) (by kernel_rfl) (by kernel_rfl) (Below.refl _ _).drew ?_;refine tkH (.int .i64 0) (fun w' hS=>?_) ?_
    ·go_simp
    simp only [zA,zB,Act.put,zD,zE,zF];refine tkH (.bool false) (fun w' hS=>?_) ?_
    ·go_simp
    simp only [zA,zB,zC,Act.put,zD,zE,zF];refine tkH (.bool false) (fun w' hS=>?_) ?_
    ·go_simp
    simp only [zA,zB,zC,Act.put,zD,zE,zF];refine tkH (.agg #[.int .u64 (xs:Int), .bool xd, .int .u64 (xt:Int), .int .u64 (xo:Int)]) (fun w' hS=>?_) ?_
    ·obtain ⟨s1,s2,s3,s4⟩:=Hr.out w' hS
     go_simp
    simp only [zA,zB,zC,Act.put,zD,zE,zF];refine tkH (.agg #[.int .u64 (xs:Int), .bool xd, .int .u64 (xt:Int), .int .u64 (xo:Int)]) (fun w' hS=>?_) ?_
    ·obtain ⟨s1,s2,s3,s4⟩:=Hv.out w' hS
     go_simp
    simp only [zA,zB,zC,Act.put,zD,zE,zF];refine tkH (.bool false) (fun w' hS=>?_) ?_
    ·go_simp
    simp only [zA,zB,zC,Act.put,zD,zE,zF];refine tkH (.bool false) (fun w' hS=>?_) ?_
    ·go_simp
    simp only [zA,zB,zC,Act.put,zD,zE,zF];refine tkH (.bool false) (fun w' hS=>?_) ?_
    ·go_simp
    simp only [zA,zB,zC,Act.put,zD,zE,zF];refine tkH (.pointer (some ⟨gw,0,none⟩)) (fun w' hS=>?_) ?_
    ·have s1:=Hb.out w' hS
     go_simp
    simp only [zA,zB,zC,Act.put,zD,zE,zF];refine tkH (.int .u64 (q:Int)) (fun w' hS=>?_) ?_
    ·go_simp
    simp only [zA,zB,zC,Act.put,zD,zE,zF];refine tkH (.pointer (some ⟨gh,0,none⟩)) (fun w' hS=>?_) ?_
    ·obtain ⟨s1,s2⟩:=Hh.out w' hS
     go_simp
    simp only [zA,zB,zC,Act.put,zD,zE,zF];refine tkH (.pointer (some ⟨gh,0,none⟩)) (fun w' hS=>?_) ?_
    ·go_simp
    simp only [zA,zB,zC,Act.put,zD,zE,zF];refine tkH (.pointer (some ⟨gh,1,none⟩)) (fun w' hS=>?_) ?_
    ·go_simp
    simp only [zA,zB,zC,Act.put,zD,zE,zF];refine tkH (.slice (some ⟨Bb,go,none⟩) nl cl) (fun w' hS=>?_) ?_
    ·obtain ⟨s1,s2⟩:=Hh.out w' hS
     go_simp
    simp only [zA,zB,zC,Act.put,zD,zE,zF];refine tkH (.int .i64 (kk:Int)) (fun w' hS=>?_) ?_
    ·have s1:=Hk.out w' hS
     go_simp
    simp only [zA,zB,zC,Act.put,zD,zE,zF];refine tkH (.pointer (some ⟨Bb,go+kk * 5,none⟩)) (fun w' hS=>?_) ?_
    ·go_simp
    simp only [zA,zB,zC,Act.put,zD,zE,zF];refine tkH (.agg #[.int .u64 (xs:Int), .bool xd, .int .u64 (q:Int), .slice Br nb cb, .slice Dr nd cd]) (fun w' hS=>?_) ?_
    ·obtain ⟨s1,s2,s3,s4,s5⟩:=He.out w' hS
     go_simp
    simp only [zA,zB,zC,Act.put,zD,zE,zF];refine tkH (.pointer (some ⟨g,2,none⟩)) (fun w' hS=>?_) ?_
    ·go_simp
    simp only [zA,zB,zC,Act.put,zD,zE,zF];refine tkH (.int .u64 (xt:Int)) (fun w' hS=>?_) ?_
    ·obtain ⟨s1,s2,s3,s4⟩:=Hv.out w' hS
     go_simp
    simp only [zA,zB,zC,Act.put,zD,zE,zF];refine tkH (.pointer (some ⟨g,3,none⟩)) (fun w' hS=>?_) ?_
    ·go_simp
    simp only [zA,zB,zC,Act.put,zD,zE,zF];refine tkH (.int .u64 (xo:Int)) (fun w' hS=>?_) ?_
    ·obtain ⟨s1,s2,s3,s4⟩:=Hv.out w' hS
     go_simp
    simp only [zA,zB,zC,Act.put,zD,zE,zF];refine wpScriptH_do (by rfl) ?_;go_wp2_with (go_at_call 45;refine HPw.out.mono ?_;rintro e w13 ⟨A3,m3,c3,rfl,hm3,hr3,_,_,hb13⟩;have HM3:=hid hm3;have HR3:=hid hr3;have HB13:Hid (Below V19.heap.size V19 w13):=hid ((Below.refl _ _).drew.trans hb13);clear hm3 hr3 hb13)
    refine ⟨HB13.out,?_⟩;have HWd:=hid (refWord_any xs xd q Br Dr nb cb nd cd w13 HSp.out);refine wpScriptH_do (by rfl) ?_;go_wp2_with (go_at_call 46;refine HWd.out.mono ?_;rintro e w14 ⟨rfl,hb14⟩;have HB14:Hid (Below V19.heap.size V19 w14):=hid (HB13.out.trans (hb14.mono HB13.out.size));have HR4:=hid ((HR3.out.below hb14).more hb14.size);clear hb14)
    refine ⟨HB14.out,?_⟩;obtain rfl:m3=3:=HM3.out;refine wpScriptH_do (by rfl) ?_;go_wp2_with fail
    obtain ⟨V23,hV23⟩:∃ V,w14.alloc (.cells #[.int .u64 (wSt xs xd:Int), .int .u64 (xt:Int), .int .u64 (xo:Int)] 32)=V:=⟨_,rfl⟩
    have hb23:Below w14.heap.size w14 V23:=by rw [← hV23];exact (Below.refl _ _).alloc (nL _) _
    have hk23:Reads V23 V23.heap.size 1 (some ⟨w14.heap.size,0,none⟩) 3 (uCells [wSt xs xd,xt,xo]):=by
     rw [← hV23];have h1:=row_reads_at w14 w14.heap.size rfl [.int .u64 (wSt xs xd:Int), .int .u64 (xt:Int), .int .u64 (xo:Int)] 3 1 32 _ rfl rfl;exact h1.more (by simp)
    rw [hV23];have HEq:=hid (equU_same A3 (some ⟨w14.heap.size,0,none⟩) 3 c3 3 [wSt xs xd,xt,xo] V23 ((HR4.out.below hb23).more hb23.size) hk23 (by decide));have HB23:Hid (Below V19.heap.size V19 V23):=hid (HB14.out.trans (hb23.mono HB14.out.size));refine ⟨HB23.out,?_⟩;clear hb23 hk23 hV23;refine wpScriptH_do (by rfl) ?_;go_wp2_with (go_at_call 44;refine HEq.out.mono ?_;rintro e w15 ⟨rfl,hb15⟩;have HB15:Hid (Below V19.heap.size V19 w15):=hid (HB23.out.trans (hb15.mono HB23.out.size));clear hb15)
    refine ⟨HB15.out,?_⟩;refine tkH (.bool false) (fun w' hS=>?_) ?_
    ·go_simp
    simp only [zA,zB,zC,Act.put,zD,zE,zF];refine tkH (.bool false) (fun w' hS=>?_) ?_
    ·go_simp
    simp only [zA,zB,zC,Act.put,zD,zE,zF];show wpList _ _ _ _ _ _;simp only [List.drop_succ_cons,List.drop_zero];refine NoPanic.normal ?_;refine OnlyN.thenN ?_;have HBe:=hid (HV19.out w15 HB15.out);obtain ⟨k0,k1⟩:=HKc.out w15 HBe.out;have e4:IntKind.i64.wrap ((kk:Int)+1)=(kk:Int)+1:=by rw [IntKind.wrap_i64];have:=HK8'.out;omega
    gi_wp2_with fail
    exact HFin.out _ HBe.out _ (by push_cast;rfl)
  ·have hge:(nl:Int)≤(pre.length:Int):=by have:=HNl.out;omega
   have HNp:Hid (¬ (pre++[(xs,xd,xt,xo)]) <+: chL (vvs rl)):=hid (fun hp=>by
    have h1:=HL7.out _ hp;rw [HAp.out] at h1;omega)
   have hW0:=hid (Below.refl W.heap.size W).drew;clear hkn hN hI hx hg hgk hgl;generalize pre.length=kk at *;gi_upto_region 15 with fail
   refine wpIn_region_scriptH (fun V=>V.cell? ⟨gk1,0,none⟩=some (.int .i64 (kk:Int))∧V.cell? ⟨gp,0,none⟩=some (.pointer (some ⟨gh,0,none⟩))∧V.cell? ⟨gh,1,none⟩=some (.slice An nl cl)) 14 [] [(1,0),(1,1),(1,2),(1,3),(1,4),(1,5),(1,6),(1,7),(1,8),(1,9),(1,10),(0,11),(1,12),(1,13)] (by kernel_rfl) (by kernel_rfl) (by kernel_rfl) ⟨kc,hc0,hc1⟩ ?_;refine tkH (.int .i64 (kk:Int)) (fun w' hS=>?_) ?_
   ·obtain ⟨s1,s2,s3⟩:=hS
    go_simp
   simp only [zA,zB,Act.put,zD,zE,zF];refine tkH (.pointer (some ⟨gh,0,none⟩)) (fun w' hS=>?_) ?_
   ·obtain ⟨s1,s2,s3⟩:=hS
    go_simp
   simp only [zA,zB,zC,Act.put,zD,zE,zF];refine tkH (.pointer (some ⟨gh,0,none⟩)) (fun w' hS=>?_) ?_
   ·go_simp
   simp only [zA,zB,zC,Act.put,zD,zE,zF];refine tkH (.pointer (some ⟨gh,1,none⟩)) (fun w' hS=>?_) ?_
   ·go_simp
   simp only [zA,zB,zC,Act.put,zD,zE,zF];refine tkH (.slice An nl cl) (fun w' hS=>?_) ?_
   ·obtain ⟨s1,s2,s3⟩:=hS
    go_simp
   simp only [zA,zB,zC,Act.put,zD,zE,zF];refine tkH (.int .i64 (nl:Int)) (fun w' hS=>?_) ?_
   ·go_simp
   simp only [zA,zB,zC,Act.put,zD,zE,zF];refine tkH (.bool true) (fun w' hS=>?_) ?_
   ·go_simp
   simp only [zA,zB,zC,Act.put,zD,zE,zF];refine tkH (.bool true) (fun w' hS=>?_) ?_
   ·go_simp
   simp only [zA,zB,zC,Act.put,zD,zE,zF];refine wpScriptH_pass (by rfl) (by rfl) ?_;simp only [zA,zB,zC,Act.put,zD,zE,zF];refine wpScriptH_pass (by rfl) (by rfl) ?_;simp only [zA,zB,zC,Act.put,zD,zE,zF];refine wpScriptH_pass (by rfl) (by rfl) ?_;simp only [zA,zB,zC,Act.put,zD,zE,zF];refine wpScriptH_do (by rfl) ?_;go_wp2_with fail
   refine ⟨⟨kc,hc0,hc1⟩,?_⟩;refine wpScriptH_pass (by rfl) (by rfl) ?_;simp only [zA,zB,zC,Act.put,zD,zE,zF];refine tkH (.bool true) (fun w' hS=>?_) ?_
   ·go_simp
   simp only [zA,zB,zC,Act.put,zD,zE,zF];show wpList _ _ _ _ _ _;simp only [List.drop_succ_cons,List.drop_zero];refine NoPanic.normal ?_;refine OnlyN.thenN ?_;obtain ⟨r0,r1⟩:=HRv.out W.drew hW0.out;clear kc hc0 hc1;gi_wp2_with fail
   exact ⟨HBad.out _ hW0.out,HNp.out⟩
 case done =>
 intro D1r1 xs W1r1 hD hxs hI hK;have hxl:xs.length=nl:=by rw [show xs=chL (vvs rl) from hxs,HCL.out,HVl.out];exact HNl.out.1.symm
 have hgk:=HGkr1.out;have hgl:=HK9tr1.out.lt;have hbs:=HBr0.out.size;have HVdr1:Hid (Below W7.heap.size W7 W1r1):=hid (HVTr1.out.trans (hI.chg.toBelow HVTr1.out.size (fun k hk=>by have hk':k=gk1:=hk;omega)));have HKdr1:Hid (W1r1.heap[D1r1]?=some (.deferred (some []))∧w10r1.heap.size≤D1r1∧D1r1 < W1r1.heap.size):=hid ⟨hK,hD,(Array.getElem?_eq_some_iff.1 hK).1⟩;have HKbr1:=hid (hI.chg.blk HK8tr1.out (fun (e:gb1=gk1)=>oM));have HRor1:Hid (Below W7.heap.size W7 W1r1):=hid ((HB8r1.out.trans (HB10r1.out.mono HB8r1.out.size)).trans (hI.chg.toBelow (Nat.le_trans HB8r1.out.size HB10r1.out.size) (fun k hk=>by have hk':k=gk1:=hk;omega)));have HWsr1:Hid (W7.heap.size≤w10r1.heap.size):=hid (Nat.le_trans HB8r1.out.size HB10r1.out.size);have kc:W1r1.cell? ⟨gk1,0,none⟩=some (.int .i64 (nl:Int)):=by rw [← hxl];exact hI.cnt.cell 0
 obtain ⟨hc0,hc1, -⟩:=HH1.out W1r1 HVdr1.out;have dn:((nl:Int) != (nl:Int))=false:=by rw [bne,beq_self_eq_true];rfl
 clear hxl hgk hgl hbs hxs hD hK hI;go_upto_region 22 with fail
 refine wp_region_scriptH (fun V=>V.cell? ⟨gk1,0,none⟩=some (.int .i64 (nl:Int))∧V.cell? ⟨gp,0,none⟩=some (.pointer (some ⟨gh,0,none⟩))∧V.cell? ⟨gh,1,none⟩=some (.slice An nl cl)) 7 [] [(1,0),(1,1),(1,2),(1,3),(1,4),(1,5),(1,6)] (by kernel_rfl) (by kernel_rfl) ⟨kc,hc0,hc1⟩ ?_;refine tkH (.int .i64 (nl:Int)) (fun w' hS=>?_) ?_
 ·obtain ⟨s1,s2,s3⟩:=hS
  go_simp
 simp only [zA,zB,Act.put,zD,zE,zF];refine tkH (.pointer (some ⟨gh,0,none⟩)) (fun w' hS=>?_) ?_
 ·obtain ⟨s1,s2,s3⟩:=hS
  go_simp
 simp only [zA,zB,zC,Act.put,zD,zE,zF];refine tkH (.pointer (some ⟨gh,0,none⟩)) (fun w' hS=>?_) ?_
 ·go_simp
 simp only [zA,zB,zC,Act.put,zD,zE,zF];refine tkH (.pointer (some ⟨gh,1,none⟩)) (fun w' hS=>?_) ?_
 ·go_simp
 simp only [zA,zB,zC,Act.put,zD,zE,zF];refine tkH (.slice An nl cl) (fun w' hS=>?_) ?_
 ·obtain ⟨s1,s2,s3⟩:=hS
  go_simp
 simp only [zA,zB,zC,Act.put,zD,zE,zF];refine tkH (.int .i64 (nl:Int)) (fun w' hS=>?_) ?_
 ·go_simp
 simp only [zA,zB,zC,Act.put,zD,zE,zF];refine tkH (.bool false) (fun w' hS=>?_) ?_
 ·go_simp
 simp only [zA,zB,zC,Act.put,zD,zE,zF];show wpList _ _ _ _ _ _;simp only [List.drop_succ_cons,List.drop_zero];refine NoPanic.normal ?_;clear kc hc0 hc1;go_upto_region 24 with fail
 have h3b:=HV1.out.h3 W1r1 (HB67.out _ HVdr1.out);have HLkbr1:=hid (HV1.out.lk W1r1.drew.drew (HB67.out _ HVdr1.out.drew.drew));refine wp_region_scriptH (fun W=>W.cell? ⟨gb1,0,none⟩=some (.pointer (some ⟨gw,0,none⟩))∧W.cell? ⟨gw,3,none⟩=some (.pointer (some ⟨d,0,none⟩))) 8 [] [(1,0),(1,1),(1,2),(1,3),(1,4),(1,5),(0,6),(0,7)] (by kernel_rfl) (by kernel_rfl) ⟨HKbr1.out.cell 0,h3b⟩ ?_;refine tkH (.pointer (some ⟨gw,0,none⟩)) (fun w' hS=>?_) ?_
 ·obtain ⟨s1,s2⟩:=hS
  go_simp
 simp only [zA,zB,Act.put,zD,zE,zF];refine tkH (.pointer (some ⟨gw,0,none⟩)) (fun w' hS=>?_) ?_
 ·go_simp
 simp only [zA,zB,zC,Act.put,zD,zE,zF];refine tkH (.pointer (some ⟨gw,3,none⟩)) (fun w' hS=>?_) ?_
 ·go_simp
 simp only [zA,zB,zC,Act.put,zD,zE,zF];refine tkH (.pointer (some ⟨d,0,none⟩)) (fun w' hS=>?_) ?_
 ·obtain ⟨s1,s2⟩:=hS
  go_simp
 simp only [zA,zB,zC,Act.put,zD,zE,zF];refine tkH (.iface 59 (.pointer (some ⟨d,0,none⟩))) (fun w' hS=>?_) ?_
 ·go_simp
 simp only [zA,zB,zC,Act.put,zD,zE,zF];refine tkH (.pointer (some ⟨gw,0,none⟩)) (fun w' hS=>?_) ?_
 ·obtain ⟨s1,s2⟩:=hS
  go_simp
 simp only [zA,zB,zC,Act.put,zD,zE,zF];refine wpScriptH_do (by rfl) ?_;go_wp2_with (go_at_call 33;refine HLkbr1.out.mono ?_;rintro e x9r1 ⟨rfl,hw9⟩;have HX9r1:=hid hw9;clear hw9)
 have HY9r1:Hid (Below W1r1.heap.size W1r1 x9r1):=hid (by rw [HX9r1.out];exact (Below.refl _ _).drew.drew.drew);refine ⟨⟨(HKbr1.out.below HY9r1.out HKbr1.out.lt).cell 0,HV1.out.h3 _ (HB67.out _ (HVdr1.out.trans (HY9r1.out.mono HVdr1.out.size)))⟩,?_⟩;refine wpScriptH_do (by rfl) ?_;go_wp2_with (go_at_call 41;refine (vchain_any d (hdQ (vvs rl)) x9r1).mono ?_;rintro e x10r1 ⟨rfl,hw10⟩;have HX10r1:=hid hw10;clear hw10)
 have hb10:Below x9r1.heap.size x9r1 x10r1:=by
  rw [HX10r1.out];have h1:=(Below.refl x9r1.heap.size x9r1).alloc (nL _) (.cells #[.iface 59 (.pointer (some ⟨d,0,none⟩))] 83);exact h1.alloc h1.size _
 have hs1:Blk x10r1 x9r1.heap.size 83 #[.iface 59 (.pointer (some ⟨d,0,none⟩))]:=by
  rw [HX10r1.out];exact (Blk.new x9r1 _ _).alloc _
 have hs2:Blk x10r1 (x9r1.heap.size+1) 54 #[.int .u64 (hdQ (vvs rl):Int)]:=by
  rw [HX10r1.out];have h1:=Blk.new (x9r1.alloc (.cells #[.iface 59 (.pointer (some ⟨d,0,none⟩))] 83)) 54 #[.int .u64 (hdQ (vvs rl):Int)];rw [show (x9r1.alloc (.cells #[.iface 59 (.pointer (some ⟨d,0,none⟩))] 83)).heap.size=x9r1.heap.size+1 by simp] at h1;exact h1
 have HY10r1:Hid (Below W1r1.heap.size W1r1 x10r1):=hid (HY9r1.out.trans (hb10.mono HY9r1.out.size));have HVxr1:Hid (Below W7.heap.size W7 x10r1):=hid (HVdr1.out.trans (HY10r1.out.mono HVdr1.out.size));have HSpr1:=hid (HV1.out.ch x10r1 (HB67.out _ HVxr1.out) x9r1.heap.size (x9r1.heap.size+1) hs1 hs2 (fun _=>False) (fun k hk=>hk.elim));refine ⟨⟨(HKbr1.out.below HY10r1.out HKbr1.out.lt).cell 0,HV1.out.h3 _ (HB67.out _ HVxr1.out)⟩,?_⟩;show wpList _ _ _ _ _ _;simp only [List.drop_succ_cons,List.drop_zero];refine NoPanic.normal ?_;have HNxr1:Hid (w6.heap.size≤x10r1.heap.size):=hid (HB67.out _ HVxr1.out).size;clear hb10 hs1 hs2 h3b;go_wp2_with fail
 refine wp_rangeFunc_brk (gf:=127) (n0:=w6.heap.size) (id:=4) rfl (enters_of Tryz.func127 (by kernel_rfl) rfl) HSpr1.out HNxr1.out ?hbody (fun _ _ h=>h) ?hend
 case hbody =>
  intro l a' W K hK;gi_wp2_with fail
  exact hK
 case hend =>
 intro D2r1 W2r1 hD hb hK;have HBr1:Hid (Below W7.heap.size W7 W2r1):=hid (HVxr1.out.trans (hb.mono HVxr1.out.size));have HKer1:Hid (W2r1.heap[D2r1]?=some (.deferred (some []))∧W1r1.heap.size≤D2r1∧D2r1 < W2r1.heap.size):=hid ⟨hK,Nat.le_trans HY10r1.out.size hD,(Array.getElem?_eq_some_iff.1 hK).1⟩;have HQ1r1:Hid (Below W1r1.heap.size W1r1 W2r1):=hid (HY10r1.out.trans (hb.mono HY10r1.out.size));have HRnr1:Hid (Below W7.heap.size W7 W2r1):=hid (HRor1.out.trans (HQ1r1.out.mono HRor1.out.size));clear hD hb hK;go_wp2_with fail
 rw [rounds_succ];have a0:W2r1.cell? ⟨ga,1,none⟩=some (.pointer (some ⟨gw2,0,none⟩)):=(HK7.out.below HBr1.out HK7.out.lt).cell 1;obtain ⟨W8r2,hW8r2⟩:∃ W8,(W2r1.alloc (.cells #[.pointer (some ⟨gw2,0,none⟩)] 52)).alloc (.cells #[.int .i64 0] 3)=W8:=⟨_,rfl⟩
 have s8:(W2r1.alloc (.cells #[.pointer (some ⟨gw2,0,none⟩)] 52)).heap.size=W2r1.heap.size+1:=by simp
 have hb8:Below W2r1.heap.size W2r1 W8r2:=by rw [← hW8r2];exact ((Below.refl _ _).alloc (nL _) _).alloc (by simp) _
 have hk8:Blk W8r2 W2r1.heap.size 52 #[.pointer (some ⟨gw2,0,none⟩)]:=by rw [← hW8r2];exact (Blk.new _ _ _).alloc _
 have hk9:Blk W8r2 (W2r1.heap.size+1) 3 #[.int .i64 0]:=by rw [← hW8r2,← s8];exact Blk.new _ _ _
 have HW8r2:=hid hW8r2;clear s8 hW8r2;go_upto_region 13 with fail
 rw [HW8r2.out];obtain ⟨gb2,hgb⟩:∃ g,W2r1.heap.size=g:=⟨_,rfl⟩
 obtain ⟨gk2,hgk⟩:∃ g,gb2+1=g:=⟨_,rfl⟩
 rw [hgb] at hk8 hk9 ⊢;rw [hgk] at hk9 ⊢;have HGkr2:Hid (gk2=gb2+1∧W2r1.heap.size=gb2):=hid ⟨hgk.symm,hgb⟩;have HB8r2:=hid hb8;have HK8r2:=hid hk8;have HK9r2:=hid hk9;have HV8r2:=hid (HBr1.out.trans (hb8.mono HBr1.out.size));have h3r2:=HV2.out.h3 W8r2 (HB67.out _ HV8r2.out);have HLkr2:=hid (HV2.out.lk W8r2.drew (HB67.out _ HV8r2.out.drew));clear a0 hb8 hk8 hk9 hgb hgk;refine wp_region_scriptH (fun W=>W.cell? ⟨gb2,0,none⟩=some (.pointer (some ⟨gw2,0,none⟩))∧W.cell? ⟨gw2,3,none⟩=some (.pointer (some ⟨d2,0,none⟩))) 8 [] [(1,0),(1,1),(1,2),(1,3),(1,4),(1,5),(0,6),(0,7)] (by kernel_rfl) (by kernel_rfl) ⟨HK8r2.out.drew.cell 0,h3r2⟩ ?_;refine tkH (.pointer (some ⟨gw2,0,none⟩)) (fun w' hS=>?_) ?_
 ·obtain ⟨s1,s2⟩:=hS
  go_simp
 simp only [zA,zB,Act.put,zD,zE,zF];refine tkH (.pointer (some ⟨gw2,0,none⟩)) (fun w' hS=>?_) ?_
 ·go_simp
 simp only [zA,zB,zC,Act.put,zD,zE,zF];refine tkH (.pointer (some ⟨gw2,3,none⟩)) (fun w' hS=>?_) ?_
 ·go_simp
 simp only [zA,zB,zC,Act.put,zD,zE,zF];refine tkH (.pointer (some ⟨d2,0,none⟩)) (fun w' hS=>?_) ?_
 ·obtain ⟨s1,s2⟩:=hS
  go_simp
 simp only [zA,zB,zC,Act.put,zD,zE,zF];refine tkH (.iface 59 (.pointer (some ⟨d2,0,none⟩))) (fun w' hS=>?_) ?_
 ·go_simp
 simp only [zA,zB,zC,Act.put,zD,zE,zF];refine tkH (.pointer (some ⟨gw2,0,none⟩)) (fun w' hS=>?_) ?_
 ·obtain ⟨s1,s2⟩:=hS
  go_simp
 simp only [zA,zB,zC,Act.put,zD,zE,zF];refine wpScriptH_do (by rfl) ?_;go_wp2_with (go_at_call 33;refine HLkr2.out.mono ?_;rintro e w9r2 ⟨rfl,hw9⟩;have HW9r2:=hid hw9;clear hw9)
 have HB9r2:Hid (Below W8r2.heap.size W8r2 w9r2):=hid (by rw [HW9r2.out];exact (Below.refl _ _).drew.drew);refine ⟨⟨(HK8r2.out.below HB9r2.out HK8r2.out.lt).cell 0,HV2.out.h3 _ (HB67.out _ (HV8r2.out.trans (HB9r2.out.mono HV8r2.out.size)))⟩,?_⟩;refine wpScriptH_do (by rfl) ?_;go_wp2_with (go_at_call 41;refine (vchain_any d2 (hdQ (vvs rl)) w9r2).mono ?_;rintro e w10r2 ⟨rfl,hw10⟩;have HW10r2:=hid hw10;clear hw10)
 have hb10:Below w9r2.heap.size w9r2 w10r2:=by
  rw [HW10r2.out];have h1:=(Below.refl w9r2.heap.size w9r2).alloc (nL _) (.cells #[.iface 59 (.pointer (some ⟨d2,0,none⟩))] 83);exact h1.alloc h1.size _
 have hs1:Blk w10r2 w9r2.heap.size 83 #[.iface 59 (.pointer (some ⟨d2,0,none⟩))]:=by
  rw [HW10r2.out];exact (Blk.new w9r2 _ _).alloc _
 have hs2:Blk w10r2 (w9r2.heap.size+1) 54 #[.int .u64 (hdQ (vvs rl):Int)]:=by
  rw [HW10r2.out];have h1:=Blk.new (w9r2.alloc (.cells #[.iface 59 (.pointer (some ⟨d2,0,none⟩))] 83)) 54 #[.int .u64 (hdQ (vvs rl):Int)];rw [show (w9r2.alloc (.cells #[.iface 59 (.pointer (some ⟨d2,0,none⟩))] 83)).heap.size=w9r2.heap.size+1 by simp] at h1;exact h1
 have HB10r2:Hid (Below W8r2.heap.size W8r2 w10r2):=hid (HB9r2.out.trans (hb10.mono HB9r2.out.size));have HVTr2:Hid (Below W7.heap.size W7 w10r2):=hid (HV8r2.out.trans (HB10r2.out.mono HV8r2.out.size));have HK8tr2:=hid (HK8r2.out.below HB10r2.out HK8r2.out.lt);have HK9tr2:=hid (HK9r2.out.below HB10r2.out HK9r2.out.lt);have HSqr2:=hid (HV2.out.ch w10r2 (HB67.out _ HVTr2.out) w9r2.heap.size (w9r2.heap.size+1) hs1 hs2 (fun k=>k=gk2) (fun k hk=>by have h1:=HK9tr2.out.lt;have hk':k=gk2:=hk;omega));refine ⟨⟨HK8tr2.out.cell 0,HV2.out.h3 _ (HB67.out _ HVTr2.out)⟩,?_⟩;show wpList _ _ _ _ _ _;simp only [List.drop_succ_cons,List.drop_zero];refine NoPanic.normal ?_;have HNkr2:Hid (w6.heap.size≤gk2):=hid (by have h1:=HGkr2.out;have h2:=HBr1.out.size;have h3:=HB7.out.size;omega);clear hb10 hs1 hs2 h3r2;go_wp2_with fail
 refine wp_rangeFunc_rd (gf:=127) (n0:=w6.heap.size) (gk:=gk2) (q0:=10) rfl (enters_of Tryz.func127 (by kernel_rfl) rfl) HSqr2.out HNkr2.out HK9tr2.out.lt HK9tr2.out ?assign ?body ?done
 case assign =>
  intro l pre x W K hI hK;obtain ⟨sp,dl,dt,ol⟩:=x;have HKk:=hid hK;clear hK;dsimp only [vArr];simp only [List.setIfInBounds_toArray,List.set_cons_succ,List.set_cons_zero];gi_wp2
  exact HKk.out _ ((Below.refl _ _).alloc (nL _) _) (Blk.new W _ _)
 case body =>
  intro l pre x g W hg hx hI hN;obtain ⟨xs,xd,xt,xo⟩:=x;have hgk:=HGkr2.out;have HNk7:Hid (W7.heap.size≤gk2):=hid (by have h2:=HBr1.out.size;omega);have hWW:Below W7.heap.size W7 W:=HVTr2.out.trans (hI.chg.toBelow HVTr2.out.size (fun k hk=>by have hk':k=gk2:=hk;have:=HNk7.out;omega));have HWW:=hid hWW;have HIw:=hid hI;have HXg:=hid hx;have HN4:=hid hN;have hgl:=HK9tr2.out.lt;have HGn:Hid (g≠gk2∧gb2≠gk2):=hid ⟨oM,oM⟩;have HKb:=hid (hI.chg.blk HK8tr2.out (fun e=>HGn.out.2 e));have HBad:Hid (∀ V,Below W.heap.size W V→KeepsFrom w10r2.heap.size W (V.setCell ⟨w.heap.size,0,none⟩ (.bool false))):=hid (fun V hV=>by
   refine KeepsFrom.of_chg (Z:=fun k=>k=w.heap.size) ((Chg.of_below (S:=fun k=>k=w.heap.size) hV).setCell (p:=⟨w.heap.size,0,none⟩) (.inl rfl) _) (fun k hk=>?_);have h1:=HWs.out;have h2:=HVTr2.out.size;have hk':k=w.heap.size:=hk;omega)
  have HRv:Hid (∀ V,Below W.heap.size W V→V.cell? ⟨w.heap.size,0,none⟩=some (.bool false)∧V.frozen? ⟨w.heap.size,0,none⟩=false):=hid (fun V hV=>by
   have h1:=HRw.out V (HWW.out.trans (hV.mono HWW.out.size));exact ⟨h1.cell 0,h1.frozen 0⟩)
  have HVW:=hid (fun V (hV:Below W.heap.size W V)=>HWW.out.trans (hV.mono HWW.out.size));have HL7:Hid (∀ p:List (Nat × Bool × Nat × Nat),p <+: chL (vvs rl)→p.length≤rl.length):=hid (fun p hp=>by have h1:=hp.length_le;rw [HCL.out,HVl.out] at h1;exact h1);have HAp:Hid ((pre++[(xs,xd,xt,xo)]).length=pre.length+1):=hid (by simp);have kc:W.cell? ⟨gk2,0,none⟩=some (.int .i64 (pre.length:Int)):=hI.cnt.cell 0;have v0:W.cell? ⟨g,0,none⟩=some (.int .u64 (xs:Int)):=hx.cell 0;have v1:W.cell? ⟨g,1,none⟩=some (.bool xd):=hx.cell 1;have v2:W.cell? ⟨g,2,none⟩=some (.int .u64 (xt:Int)):=hx.cell 2;have v3:W.cell? ⟨g,3,none⟩=some (.int .u64 (xo:Int)):=hx.cell 3;obtain ⟨hc0,hc1, -⟩:=HH1.out W hWW;have HFin:Hid (∀ V,Below W.heap.size W V→∀ z:Int,z=((pre.length+1:Nat):Int)→KeepsFrom w10r2.heap.size W (V.setCell ⟨gk2,0,none⟩ (.int .i64 z))∧KpC w6.heap.size (fun k=>k=gk2) W (V.setCell ⟨gk2,0,none⟩ (.int .i64 z))∧RdI gk2 w10r2 (pre++[(xs,xd,xt,xo)]) (V.setCell ⟨gk2,0,none⟩ (.int .i64 z))):=hid (fun V hV z hz=>by
   refine RdI.step HIw.out HK9tr2.out.lt HNkr2.out ((Chg.of_below (S:=fun k=>k=gk2) hV).setCell (p:=⟨gk2,0,none⟩) (.inl rfl) _) ?_;have h1:=(HIw.out.cnt.below hV HIw.out.cnt.lt).set_ 0 (.int .i64 z);rw [HAp.out,← hz];exact h1)
  have HKc:Hid (∀ V,Below W.heap.size W V→V.cell? ⟨gk2,0,none⟩=some (.int .i64 (pre.length:Int))∧V.frozen? ⟨gk2,0,none⟩=false):=hid (fun V hV=>by
   have h1:=HIw.out.cnt.below hV HIw.out.cnt.lt;exact ⟨h1.cell 0,h1.frozen 0⟩)
  by_cases hkn:pre.length < rl.length
  ·obtain ⟨hil,Bb,go,hA, -, -, -, -, -, -⟩:=rv_facts (HH1.out W hWW).2.2 (k:=pre.length) (by have:=HNl.out;omega)
   subst hA;have HEx:Hid ((pre++[(xs,xd,xt,xo)]) <+: chL (vvs rl)→(xs,xd,xt,xo)=((rl[pre.length]).v.st,(rl[pre.length]).v.dl,(rl[pre.length]).v.dt,hdQ (vvs (rl.drop (pre.length+1))))):=hid (fun hp=>by
    have hlt:pre.length < (chL (vvs rl)).length:=by rw [HCL.out,HVl.out];exact hkn
    rw [← chL_at rl pre.length hkn hlt];have h1:=hp.getElem (i:=pre.length) (by simp);rw [← h1];simp)
   have HSm:=hid (fun V hV=>HX.out.sm V (HB67.out V hV) pre.length hkn xs xd xt xo);have HRd:=hid (fun V hV=>HV2.out.rd V (HB67.out V hV) pre.length hkn);have HPl:=hid (fun V hV=>HV2.out.pl V (HB67.out V hV) pre.length hkn);have HSp:=hid (HX.out.sp pre.length hkn);have HEn:Hid (∀ V,Below W7.heap.size W7 V→V.cell? ⟨Bb,go+pre.length * 5,none⟩=some (.int .u64 ((rl[pre.length]).v.st:Int))∧V.cell? ⟨Bb,go+pre.length * 5+1,none⟩=some (.bool (rl[pre.length]).v.dl)∧V.cell? ⟨Bb,go+pre.length * 5+2,none⟩=some (.int .u64 ((rl[pre.length]).v.q:Int))∧V.cell? ⟨Bb,go+pre.length * 5+3,none⟩=some (.slice (rl[pre.length]).B (rl[pre.length]).nb (rl[pre.length]).cb)∧V.cell? ⟨Bb,go+pre.length * 5+4,none⟩=some (.slice (rl[pre.length]).D (rl[pre.length]).nd (rl[pre.length]).cd)):=hid (fun V hV=>by
    obtain ⟨hil2,b2,o2,hA2,_,e0,e1,e2,e3,e4⟩:=rv_facts (HH1.out V hV).2.2 (k:=pre.length) (by have:=HNl.out;omega);cases hA2;exact ⟨e0,e1,e2,e3,e4⟩)
   obtain ⟨st,hst⟩:∃ z,(rl[pre.length]).v.st=z:=⟨_,rfl⟩
   obtain ⟨dl,hdl⟩:∃ z,(rl[pre.length]).v.dl=z:=⟨_,rfl⟩
   obtain ⟨dt,hdt⟩:∃ z,(rl[pre.length]).v.dt=z:=⟨_,rfl⟩
   obtain ⟨q,hq⟩:∃ z,(rl[pre.length]).v.q=z:=⟨_,rfl⟩
   obtain ⟨ol,hol⟩:∃ z,hdQ (vvs (rl.drop (pre.length+1)))=z:=⟨_,rfl⟩
   rw [hst,hdl,hdt,hol] at HEx;rw [hst,hdl,hdt,hol] at HSm;rw [hst,hdl,hdt,hol,hq] at HRd;rw [hst,hdl,hdt,hol,hq] at HPl;rw [hst] at HSp;rw [hst,hdl,hq] at HEn;generalize (rl[pre.length]).B=Br at *;generalize (rl[pre.length]).nb=nb at *;generalize (rl[pre.length]).cb=cb at *;generalize (rl[pre.length]).D=Dr at *;generalize (rl[pre.length]).nd=nd at *;generalize (rl[pre.length]).cd=cd at *;have hlk:(pre.length:Int) < (nl:Int):=by have:=HNl.out;omega
   have hk0:(0:Int)≤(pre.length:Int):=oM;have HK8':Hid (pre.length < 8):=hid (by have:=HNl.out;omega);clear hst hdl hdt hq hol hil hkn hN hI hx hg hgk hgl hWW;have hlkN:pre.length < nl:=by have:=HNl.out;omega
   have HBd:Hid (Blk W gk2 3 #[.int .i64 (pre.length:Int)]):=hid HIw.out.cnt;generalize pre.length=kk at *;obtain ⟨bb,hbb⟩:∃ b,decide (xs=st∧xd=dl∧xt=dt∧xo=ol)=b:=⟨_,rfl⟩
   rw [hbb] at HSm;have HBb:=hid hbb;clear hbb;have HSw:=hid (HSm.out W.drew HWW.out.drew);unfold vAgg at HSw;gi_upto_region 15 with fail
   refine wpIn_region_scriptH (fun V=>V.cell? ⟨gk2,0,none⟩=some (.int .i64 (kk:Int))∧V.cell? ⟨gp,0,none⟩=some (.pointer (some ⟨gh,0,none⟩))∧V.cell? ⟨gh,1,none⟩=some (.slice (some ⟨Bb,go,none⟩) nl cl)∧V.cell? ⟨g,0,none⟩=some (.int .u64 (xs:Int))∧V.cell? ⟨g,1,none⟩=some (.bool xd)∧V.cell? ⟨g,2,none⟩=some (.int .u64 (xt:Int))∧V.cell? ⟨g,3,none⟩=some (.int .u64 (xo:Int))) 14 [] [(1,0),(1,1),(1,2),(1,3),(1,4),(1,5),(1,6),(1,7),(1,8),(1,9),(1,10),(0,11),(1,12),(1,13)] (by kernel_rfl) (by kernel_rfl) (by kernel_rfl) ⟨kc,hc0,hc1,v0,v1,v2,v3⟩ ?_;refine tkH (.int .i64 (kk:Int)) (fun w' hS=>?_) ?_
   ·obtain ⟨s1,s2,s3,s4,s5,s6,s7⟩:=hS
    go_simp
   simp only [zA,zB,Act.put,zD,zE,zF];refine tkH (.pointer (some ⟨gh,0,none⟩)) (fun w' hS=>?_) ?_
   ·obtain ⟨s1,s2,s3,s4,s5,s6,s7⟩:=hS
    go_simp
   simp only [zA,zB,zC,Act.put,zD,zE,zF];refine tkH (.pointer (some ⟨gh,0,none⟩)) (fun w' hS=>?_) ?_
   ·go_simp
   simp only [zA,zB,zC,Act.put,zD,zE,zF];refine tkH (.pointer (some ⟨gh,1,none⟩)) (fun w' hS=>?_) ?_
   ·go_simp
   simp only [zA,zB,zC,Act.put,zD,zE,zF];refine tkH (.slice (some ⟨Bb,go,none⟩) nl cl) (fun w' hS=>?_) ?_
   ·obtain ⟨s1,s2,s3,s4,s5,s6,s7⟩:=hS
    go_simp
   simp only [zA,zB,zC,Act.put,zD,zE,zF];refine tkH (.int .i64 (nl:Int)) (fun w' hS=>?_) ?_
   ·go_simp
   simp only [zA,zB,zC,Act.put,zD,zE,zF];refine tkH (.bool false) (fun w' hS=>?_) ?_
   ·go_simp
   simp only [zA,zB,zC,Act.put,zD,zE,zF];refine tkH (.bool false) (fun w' hS=>?_) ?_
   ·go_simp
   simp only [zA,zB,zC,Act.put,zD,zE,zF];refine tkH (.pointer (some ⟨gh,0,none⟩)) (fun w' hS=>?_) ?_
   ·obtain ⟨s1,s2,s3,s4,s5,s6,s7⟩:=hS
    go_simp
   simp only [zA,zB,zC,Act.put,zD,zE,zF];refine tkH (.agg #[.int .u64 (xs:Int), .bool xd, .int .u64 (xt:Int), .int .u64 (xo:Int)]) (fun w' hS=>?_) ?_
   ·obtain ⟨s1,s2,s3,s4,s5,s6,s7⟩:=hS
    go_simp
   simp only [zA,zB,zC,Act.put,zD,zE,zF];refine tkH (.int .i64 (kk:Int)) (fun w' hS=>?_) ?_
   ·obtain ⟨s1,s2,s3,s4,s5,s6,s7⟩:=hS
    go_simp
   simp only [zA,zB,zC,Act.put,zD,zE,zF];refine wpScriptH_do (by rfl) ?_;go_wp2_with (go_at_call 42;refine HSw.out.mono ?_;rintro e w11 ⟨rfl,hb11⟩;have HB11:Hid (Below W.heap.size W w11):=hid ((Below.refl _ _).drew.trans hb11);clear hb11)
   obtain ⟨hc0',hc1', -⟩:=HH1.out w11 (HVW.out _ HB11.out);have hx11:=HXg.out.below HB11.out HXg.out.lt;refine ⟨⟨(HKc.out _ HB11.out).1,hc0',hc1',hx11.cell 0,hx11.cell 1,hx11.cell 2,hx11.cell 3⟩,?_⟩;clear kc hc0 hc1 v0 v1 v2 v3;cases bb
   ·skip
    refine tkH (.bool true) (fun w' hS=>?_) ?_
    ·go_simp
    simp only [zA,zB,zC,Act.put,zD,zE,zF];refine tkH (.bool true) (fun w' hS=>?_) ?_
    ·go_simp
    simp only [zA,zB,zC,Act.put,zD,zE,zF];show wpList _ _ _ _ _ _;simp only [List.drop_succ_cons,List.drop_zero];refine NoPanic.normal ?_;refine OnlyN.thenN ?_;obtain ⟨r0,r1⟩:=HRv.out w11 HB11.out;clear hc0' hc1' hx11;gi_wp2_with fail
    exact ⟨HBad.out _ HB11.out,fun hp=>absurd (HEx.out hp) (fun h=>by
     injection h with h1 h2
     injection h2 with h2 h3
     injection h3 with h3 h4
     exact of_decide_eq_false HBb.out ⟨h1,h2,h3,h4⟩)⟩
   ·skip
    refine tkH (.bool false) (fun w' hS=>?_) ?_
    ·go_simp
    simp only [zA,zB,zC,Act.put,zD,zE,zF];refine tkH (.bool false) (fun w' hS=>?_) ?_
    ·go_simp
    simp only [zA,zB,zC,Act.put,zD,zE,zF];show wpList _ _ _ _ _ _;simp only [List.drop_succ_cons,List.drop_zero];refine NoPanic.normal ?_;refine OnlyN.thenN ?_;obtain ⟨rfl,rfl,rfl,rfl⟩:=of_decide_eq_true HBb.out;have hE11:=(HEn.out w11 (HVW.out _ HB11.out)).2.2.1;have hK11:=(HKc.out w11 HB11.out).1;have HRdw:=hid (HRd.out w11.drew (HVW.out _ HB11.out.drew));unfold vAgg at HRdw;clear hx11 HSw HSm;gi_upto_region 17 with fail
    refine wpIn_region_scriptH (fun V=>V.cell? ⟨gp,0,none⟩=some (.pointer (some ⟨gh,0,none⟩))∧V.cell? ⟨gh,1,none⟩=some (.slice (some ⟨Bb,go,none⟩) nl cl)∧V.cell? ⟨gk2,0,none⟩=some (.int .i64 (kk:Int))∧V.cell? ⟨Bb,go+kk * 5+2,none⟩=some (.int .u64 (q:Int))) 9 [] [(1,0),(1,1),(1,2),(1,3),(1,4),(1,5),(1,6),(1,7),(1,8)] (by kernel_rfl) (by kernel_rfl) (by kernel_rfl) ⟨hc0',hc1',hK11,hE11⟩ ?_;refine tkH (.pointer (some ⟨gh,0,none⟩)) (fun w' hS=>?_) ?_
    ·obtain ⟨s1,s2,s3,s4⟩:=hS
     go_simp
    simp only [zA,zB,Act.put,zD,zE,zF];refine tkH (.pointer (some ⟨gh,0,none⟩)) (fun w' hS=>?_) ?_
    ·go_simp
    simp only [zA,zB,zC,Act.put,zD,zE,zF];refine tkH (.pointer (some ⟨gh,1,none⟩)) (fun w' hS=>?_) ?_
    ·go_simp
    simp only [zA,zB,zC,Act.put,zD,zE,zF];refine tkH (.slice (some ⟨Bb,go,none⟩) nl cl) (fun w' hS=>?_) ?_
    ·obtain ⟨s1,s2,s3,s4⟩:=hS
     go_simp
    simp only [zA,zB,zC,Act.put,zD,zE,zF];refine tkH (.int .i64 (kk:Int)) (fun w' hS=>?_) ?_
    ·obtain ⟨s1,s2,s3,s4⟩:=hS
     go_simp
    simp only [zA,zB,zC,Act.put,zD,zE,zF];refine tkH (.pointer (some ⟨Bb,go+kk * 5,none⟩)) (fun w' hS=>?_) ?_
    ·go_simp
    simp only [zA,zB,zC,Act.put,zD,zE,zF];refine tkH (.pointer (some ⟨Bb,go+kk * 5+2,none⟩)) (fun w' hS=>?_) ?_
    ·go_simp
    simp only [zA,zB,zC,Act.put,zD,zE,zF];refine tkH (.int .u64 (q:Int)) (fun w' hS=>?_) ?_
    ·obtain ⟨s1,s2,s3,s4⟩:=hS
     go_simp
    simp only [zA,zB,zC,Act.put,zD,zE,zF];refine tkH (.int .u64 (q:Int)) (fun w' hS=>?_) ?_
    ·go_simp
    simp only [zA,zB,zC,Act.put,zD,zE,zF];show wpList _ _ _ _ _ _;simp only [List.drop_succ_cons,List.drop_zero];refine NoPanic.normal ?_;refine OnlyN.thenN ?_;clear hc0' hc1' hE11 hK11;have b18:w11.cell? ⟨gb2,0,none⟩=some (.pointer (some ⟨gw2,0,none⟩)):=(HKb.out.below HB11.out HKb.out.lt).cell 0;have d18:w11.cell? ⟨gw2,3,none⟩=some (.pointer (some ⟨d2,0,none⟩)):=HV2.out.h3 w11 (HB67.out _ (HVW.out _ HB11.out));gi_upto_region 19 with fail
    refine ⟨trivial,(CallsIn.inRound l (callsIn_wide.2 HRdw.out)).mono ?_⟩;rintro e w12 ⟨rfl,hb12⟩;have HB12:Hid (Below W.heap.size W w12):=hid (HB11.out.drew.trans (hb12.mono HB11.out.size));clear hb12 b18 d18;gi_upto_region 19 with fail
    obtain ⟨V19,hV19⟩:∃ V,w12.alloc (.cells #[.int .u64 (xs:Int), .bool xd, .int .u64 (xt:Int), .int .u64 (xo:Int)] 97)=V:=⟨_,rfl⟩
    obtain ⟨gr,hgr⟩:∃ g,w12.heap.size=g:=⟨_,rfl⟩
    have hb19:Below w12.heap.size w12 V19:=by rw [← hV19];exact (Below.refl _ _).alloc (nL _) _
    have hk19:Blk V19 w12.heap.size 97 #[.int .u64 (xs:Int), .bool xd, .int .u64 (xt:Int), .int .u64 (xo:Int)]:=by rw [← hV19];exact Blk.new _ _ _
    rw [hV19];rw [hgr] at hk19 ⊢;have HB19:=hid (HB12.out.trans (hb19.mono HB12.out.size));have HK19:=hid hk19;clear hb19 hk19 hV19 hgr;have HV19:=hid (fun V (hV:Below V19.heap.size V19 V)=>HB19.out.trans (hV.mono HB19.out.size));have Hr:Hid (∀ V,Below V19.heap.size V19 V→V.cell? ⟨gr,0,none⟩=some (.int .u64 (xs:Int))∧V.cell? ⟨gr,1,none⟩=some (.bool xd)∧V.cell? ⟨gr,2,none⟩=some (.int .u64 (xt:Int))∧V.cell? ⟨gr,3,none⟩=some (.int .u64 (xo:Int))):=hid (fun V hV=>by
     have h1:=HK19.out.below hV HK19.out.lt;exact ⟨h1.cell 0,h1.cell 1,h1.cell 2,h1.cell 3⟩)
    have Hv:Hid (∀ V,Below V19.heap.size V19 V→V.cell? ⟨g,0,none⟩=some (.int .u64 (xs:Int))∧V.cell? ⟨g,1,none⟩=some (.bool xd)∧V.cell? ⟨g,2,none⟩=some (.int .u64 (xt:Int))∧V.cell? ⟨g,3,none⟩=some (.int .u64 (xo:Int))):=hid (fun V hV=>by
     have h1:=HXg.out.below (HV19.out V hV) HXg.out.lt;exact ⟨h1.cell 0,h1.cell 1,h1.cell 2,h1.cell 3⟩)
    have Hb:Hid (∀ V,Below V19.heap.size V19 V→V.cell? ⟨gb2,0,none⟩=some (.pointer (some ⟨gw2,0,none⟩))):=hid (fun V hV=>(HKb.out.below (HV19.out V hV) HKb.out.lt).cell 0);have Hh:Hid (∀ V,Below V19.heap.size V19 V→V.cell? ⟨gp,0,none⟩=some (.pointer (some ⟨gh,0,none⟩))∧V.cell? ⟨gh,1,none⟩=some (.slice (some ⟨Bb,go,none⟩) nl cl)):=hid (fun V hV=>by
     obtain ⟨h1,h2,_⟩:=HH1.out V (HVW.out _ (HV19.out V hV));exact ⟨h1,h2⟩)
    have Hk:Hid (∀ V,Below V19.heap.size V19 V→V.cell? ⟨gk2,0,none⟩=some (.int .i64 (kk:Int))):=hid (fun V hV=>(HKc.out V (HV19.out V hV)).1);have He:=hid (fun V (hV:Below V19.heap.size V19 V)=>HEn.out V (HVW.out _ (HV19.out V hV)));have HPw:=hid (HPl.out V19.drew (HVW.out _ HB19.out.drew));have ds:((xs:Int) == (xs:Int))=true:=beq_self_eq_true _;have dt':((xt:Int) == (xt:Int))=true:=beq_self_eq_true _;have do':((xo:Int) == (xo:Int))=true:=beq_self_eq_true _;have dx:(xd == xd)=true:=beq_self_eq_true _;refine wpIn_region_scriptH (fun V=>Below V19.heap.size V19 V) 27 [] [(1,0),(1,1),(1,2),(1,3),(1,4),(1,5),(1,6),(1,7),(1,8),(1,9),(1,11),(1,12),(1,13),(1,14),(1,15),(1,16),(1,17),(1,19),(1,20),(1,21),(1,22),(0,10),(0,18),(0,23),(0,24),(1,25),(1,26)] (by kernel_rfl) (by kernel_rfl) (by kernel_rfl) (Below.refl _ _).drew ?_;refine tkH (.int .i64 0) (fun w' hS=>?_) ?_
    ·go_simp
    simp only [zA,zB,Act.put,zD,zE,zF];refine tkH (.bool false) (fun w' hS=>?_) ?_
    ·go_simp
    simp only [zA,zB,zC,Act.put,zD,zE,zF];refine tkH (.bool false) (fun w' hS=>?_) ?_
    ·go_simp
    simp only [zA,zB,zC,Act.put,zD,zE,zF];refine tkH (.agg #[.int .u64 (xs:Int), .bool xd, .int .u64 (xt:Int), .int .u64 (xo:Int)]) (fun w' hS=>?_) ?_
    ·obtain ⟨s1,s2,s3,s4⟩:=Hr.out w' hS
     go_simp
    simp only [zA,zB,zC,Act.put,zD,zE,zF];refine tkH (.agg #[.int .u64 (xs:Int), .bool xd, .int .u64 (xt:Int), .int .u64 (xo:Int)]) (fun w' hS=>?_) ?_
    ·obtain ⟨s1,s2,s3,s4⟩:=Hv.out w' hS
     go_simp
    simp only [zA,zB,zC,Act.put,zD,zE,zF];refine tkH (.bool false) (fun w' hS=>?_) ?_
    ·go_simp
    simp only [zA,zB,zC,Act.put,zD,zE,zF];refine tkH (.bool false) (fun w' hS=>?_) ?_
    ·go_simp
    simp only [zA,zB,zC,Act.put,zD,zE,zF];refine tkH (.bool false) (fun w' hS=>?_) ?_
    ·go_simp
    simp only [zA,zB,zC,Act.put,zD,zE,zF];refine tkH (.pointer (some ⟨gw2,0,none⟩)) (fun w' hS=>?_) ?_
    ·have s1:=Hb.out w' hS
     go_simp
    simp only [zA,zB,zC,Act.put,zD,zE,zF];refine tkH (.int .u64 (q:Int)) (fun w' hS=>?_) ?_
    ·go_simp
    simp only [zA,zB,zC,Act.put,zD,zE,zF];refine tkH (.pointer (some ⟨gh,0,none⟩)) (fun w' hS=>?_) ?_
    ·obtain ⟨s1,s2⟩:=Hh.out w' hS
     go_simp
    simp only [zA,zB,zC,Act.put,zD,zE,zF];refine tkH (.pointer (some ⟨gh,0,none⟩)) (fun w' hS=>?_) ?_
    ·go_simp
    simp only [zA,zB,zC,Act.put,zD,zE,zF];refine tkH (.pointer (some ⟨gh,1,none⟩)) (fun w' hS=>?_) ?_
    ·go_simp
    simp only [zA,zB,zC,Act.put,zD,zE,zF];refine tkH (.slice (some ⟨Bb,go,none⟩) nl cl) (fun w' hS=>?_) ?_
    ·obtain ⟨s1,s2⟩:=Hh.out w' hS
     go_simp
    simp only [zA,zB,zC,Act.put,zD,zE,zF];refine tkH (.int .i64 (kk:Int)) (fun w' hS=>?_) ?_
    ·have s1:=Hk.out w' hS
     go_simp
    simp only [zA,zB,zC,Act.put,zD,zE,zF];refine tkH (.pointer (some ⟨Bb,go+kk * 5,none⟩)) (fun w' hS=>?_) ?_
    ·go_simp
    simp only [zA,zB,zC,Act.put,zD,zE,zF];refine tkH (.agg #[.int .u64 (xs:Int), .bool xd, .int .u64 (q:Int), .slice Br nb cb, .slice Dr nd cd]) (fun w' hS=>?_) ?_
    ·obtain ⟨s1,s2,s3,s4,s5⟩:=He.out w' hS
     go_simp
    simp only [zA,zB,zC,Act.put,zD,zE,zF];refine tkH (.pointer (some ⟨g,2,none⟩)) (fun w' hS=>?_) ?_
    ·go_simp
    simp only [zA,zB,zC,Act.put,zD,zE,zF];refine tkH (.int .u64 (xt:Int)) (fun w' hS=>?_) ?_
    ·obtain ⟨s1,s2,s3,s4⟩:=Hv.out w' hS
     go_simp
    simp only [zA,zB,zC,Act.put,zD,zE,zF];refine tkH (.pointer (some ⟨g,3,none⟩)) (fun w' hS=>?_) ?_
    ·go_simp
    simp only [zA,zB,zC,Act.put,zD,zE,zF];refine tkH (.int .u64 (xo:Int)) (fun w' hS=>?_) ?_
    ·obtain ⟨s1,s2,s3,s4⟩:=Hv.out w' hS
     go_simp
    simp only [zA,zB,zC,Act.put,zD,zE,zF];refine wpScriptH_do (by rfl) ?_;go_wp2_with (go_at_call 45;refine HPw.out.mono ?_;rintro e w13 ⟨A3,m3,c3,rfl,hm3,hr3,_,_,hb13⟩;have HM3:=hid hm3;have HR3:=hid hr3;have HB13:Hid (Below V19.heap.size V19 w13):=hid ((Below.refl _ _).drew.trans hb13);clear hm3 hr3 hb13)
    refine ⟨HB13.out,?_⟩;have HWd:=hid (refWord_any xs xd q Br Dr nb cb nd cd w13 HSp.out);refine wpScriptH_do (by rfl) ?_;go_wp2_with (go_at_call 46;refine HWd.out.mono ?_;rintro e w14 ⟨rfl,hb14⟩;have HB14:Hid (Below V19.heap.size V19 w14):=hid (HB13.out.trans (hb14.mono HB13.out.size));have HR4:=hid ((HR3.out.below hb14).more hb14.size);clear hb14)
    refine ⟨HB14.out,?_⟩;obtain rfl:m3=3:=HM3.out;refine wpScriptH_do (by rfl) ?_;go_wp2_with fail
    obtain ⟨V23,hV23⟩:∃ V,w14.alloc (.cells #[.int .u64 (wSt xs xd:Int), .int .u64 (xt:Int), .int .u64 (xo:Int)] 32)=V:=⟨_,rfl⟩
    have hb23:Below w14.heap.size w14 V23:=by rw [← hV23];exact (Below.refl _ _).alloc (nL _) _
    have hk23:Reads V23 V23.heap.size 1 (some ⟨w14.heap.size,0,none⟩) 3 (uCells [wSt xs xd,xt,xo]):=by
     rw [← hV23];have h1:=row_reads_at w14 w14.heap.size rfl [.int .u64 (wSt xs xd:Int), .int .u64 (xt:Int), .int .u64 (xo:Int)] 3 1 32 _ rfl rfl;exact h1.more (by simp)
    rw [hV23];have HEq:=hid (equU_same A3 (some ⟨w14.heap.size,0,none⟩) 3 c3 3 [wSt xs xd,xt,xo] V23 ((HR4.out.below hb23).more hb23.size) hk23 (by decide));have HB23:Hid (Below V19.heap.size V19 V23):=hid (HB14.out.trans (hb23.mono HB14.out.size));refine ⟨HB23.out,?_⟩;clear hb23 hk23 hV23;refine wpScriptH_do (by rfl) ?_;go_wp2_with (go_at_call 44;refine HEq.out.mono ?_;rintro e w15 ⟨rfl,hb15⟩;have HB15:Hid (Below V19.heap.size V19 w15):=hid (HB23.out.trans (hb15.mono HB23.out.size));clear hb15)
    refine ⟨HB15.out,?_⟩;refine tkH (.bool false) (fun w' hS=>?_) ?_
    ·go_simp
    simp only [zA,zB,zC,Act.put,zD,zE,zF];refine tkH (.bool false) (fun w' hS=>?_) ?_
    ·go_simp
    simp only [zA,zB,zC,Act.put,zD,zE,zF];show wpList _ _ _ _ _ _;simp only [List.drop_succ_cons,List.drop_zero];refine NoPanic.normal ?_;refine OnlyN.thenN ?_;have HBe:=hid (HV19.out w15 HB15.out);obtain ⟨k0,k1⟩:=HKc.out w15 HBe.out;have e4:IntKind.i64.wrap ((kk:Int)+1)=(kk:Int)+1:=by rw [IntKind.wrap_i64];have:=HK8'.out;omega
    gi_wp2_with fail
    exact HFin.out _ HBe.out _ (by push_cast;rfl)
  ·have hge:(nl:Int)≤(pre.length:Int):=by have:=HNl.out;omega
   have HNp:Hid (¬ (pre++[(xs,xd,xt,xo)]) <+: chL (vvs rl)):=hid (fun hp=>by
    have h1:=HL7.out _ hp;rw [HAp.out] at h1;omega)
   have hW0:=hid (Below.refl W.heap.size W).drew;clear hkn hN hI hx hg hgk hgl;generalize pre.length=kk at *;gi_upto_region 15 with fail
   refine wpIn_region_scriptH (fun V=>V.cell? ⟨gk2,0,none⟩=some (.int .i64 (kk:Int))∧V.cell? ⟨gp,0,none⟩=some (.pointer (some ⟨gh,0,none⟩))∧V.cell? ⟨gh,1,none⟩=some (.slice An nl cl)) 14 [] [(1,0),(1,1),(1,2),(1,3),(1,4),(1,5),(1,6),(1,7),(1,8),(1,9),(1,10),(0,11),(1,12),(1,13)] (by kernel_rfl) (by kernel_rfl) (by kernel_rfl) ⟨kc,hc0,hc1⟩ ?_;refine tkH (.int .i64 (kk:Int)) (fun w' hS=>?_) ?_
   ·obtain ⟨s1,s2,s3⟩:=hS
    go_simp
   simp only [zA,zB,Act.put,zD,zE,zF];refine tkH (.pointer (some ⟨gh,0,none⟩)) (fun w' hS=>?_) ?_
   ·obtain ⟨s1,s2,s3⟩:=hS
    go_simp
   simp only [zA,zB,zC,Act.put,zD,zE,zF];refine tkH (.pointer (some ⟨gh,0,none⟩)) (fun w' hS=>?_) ?_
   ·go_simp
   simp only [zA,zB,zC,Act.put,zD,zE,zF];refine tkH (.pointer (some ⟨gh,1,none⟩)) (fun w' hS=>?_) ?_
   ·go_simp
   simp only [zA,zB,zC,Act.put,zD,zE,zF];refine tkH (.slice An nl cl) (fun w' hS=>?_) ?_
   ·obtain ⟨s1,s2,s3⟩:=hS
    go_simp
   simp only [zA,zB,zC,Act.put,zD,zE,zF];refine tkH (.int .i64 (nl:Int)) (fun w' hS=>?_) ?_
   ·go_simp
   simp only [zA,zB,zC,Act.put,zD,zE,zF];refine tkH (.bool true) (fun w' hS=>?_) ?_
   ·go_simp
   simp only [zA,zB,zC,Act.put,zD,zE,zF];refine tkH (.bool true) (fun w' hS=>?_) ?_
   ·go_simp
   simp only [zA,zB,zC,Act.put,zD,zE,zF];refine wpScriptH_pass (by rfl) (by rfl) ?_;simp only [zA,zB,zC,Act.put,zD,zE,zF];refine wpScriptH_pass (by rfl) (by rfl) ?_;simp only [zA,zB,zC,Act.put,zD,zE,zF];refine wpScriptH_pass (by rfl) (by rfl) ?_;simp only [zA,zB,zC,Act.put,zD,zE,zF];refine wpScriptH_do (by rfl) ?_;go_wp2_with fail
   refine ⟨⟨kc,hc0,hc1⟩,?_⟩;refine wpScriptH_pass (by rfl) (by rfl) ?_;simp only [zA,zB,zC,Act.put,zD,zE,zF];refine tkH (.bool true) (fun w' hS=>?_) ?_
   ·go_simp
   simp only [zA,zB,zC,Act.put,zD,zE,zF];show wpList _ _ _ _ _ _;simp only [List.drop_succ_cons,List.drop_zero];refine NoPanic.normal ?_;refine OnlyN.thenN ?_;obtain ⟨r0,r1⟩:=HRv.out W.drew hW0.out;clear kc hc0 hc1;gi_wp2_with fail
   exact ⟨HBad.out _ hW0.out,HNp.out⟩
 case done =>
 intro D1r2 xs W1r2 hD hxs hI hK;have hxl:xs.length=nl:=by rw [show xs=chL (vvs rl) from hxs,HCL.out,HVl.out];exact HNl.out.1.symm
 have hgk:=HGkr2.out;have hgl:=HK9tr2.out.lt;have hbs:=HBr1.out.size;have HVdr2:Hid (Below W7.heap.size W7 W1r2):=hid (HVTr2.out.trans (hI.chg.toBelow HVTr2.out.size (fun k hk=>by have hk':k=gk2:=hk;omega)));have HKdr2:Hid (W1r2.heap[D1r2]?=some (.deferred (some []))∧w10r2.heap.size≤D1r2∧D1r2 < W1r2.heap.size):=hid ⟨hK,hD,(Array.getElem?_eq_some_iff.1 hK).1⟩;have HKbr2:=hid (hI.chg.blk HK8tr2.out (fun (e:gb2=gk2)=>oM));have HRor2:Hid (Below W2r1.heap.size W2r1 W1r2):=hid ((HB8r2.out.trans (HB10r2.out.mono HB8r2.out.size)).trans (hI.chg.toBelow (Nat.le_trans HB8r2.out.size HB10r2.out.size) (fun k hk=>by have hk':k=gk2:=hk;omega)));have HWsr2:Hid (W2r1.heap.size≤w10r2.heap.size):=hid (Nat.le_trans HB8r2.out.size HB10r2.out.size);have kc:W1r2.cell? ⟨gk2,0,none⟩=some (.int .i64 (nl:Int)):=by rw [← hxl];exact hI.cnt.cell 0
 obtain ⟨hc0,hc1, -⟩:=HH1.out W1r2 HVdr2.out;have dn:((nl:Int) != (nl:Int))=false:=by rw [bne,beq_self_eq_true];rfl
 clear hxl hgk hgl hbs hxs hD hK hI;go_upto_region 22 with fail
 refine wp_region_scriptH (fun V=>V.cell? ⟨gk2,0,none⟩=some (.int .i64 (nl:Int))∧V.cell? ⟨gp,0,none⟩=some (.pointer (some ⟨gh,0,none⟩))∧V.cell? ⟨gh,1,none⟩=some (.slice An nl cl)) 7 [] [(1,0),(1,1),(1,2),(1,3),(1,4),(1,5),(1,6)] (by kernel_rfl) (by kernel_rfl) ⟨kc,hc0,hc1⟩ ?_;refine tkH (.int .i64 (nl:Int)) (fun w' hS=>?_) ?_
 ·obtain ⟨s1,s2,s3⟩:=hS
  go_simp
 simp only [zA,zB,Act.put,zD,zE,zF];refine tkH (.pointer (some ⟨gh,0,none⟩)) (fun w' hS=>?_) ?_
 ·obtain ⟨s1,s2,s3⟩:=hS
  go_simp
 simp only [zA,zB,zC,Act.put,zD,zE,zF];refine tkH (.pointer (some ⟨gh,0,none⟩)) (fun w' hS=>?_) ?_
 ·go_simp
 simp only [zA,zB,zC,Act.put,zD,zE,zF];refine tkH (.pointer (some ⟨gh,1,none⟩)) (fun w' hS=>?_) ?_
 ·go_simp
 simp only [zA,zB,zC,Act.put,zD,zE,zF];refine tkH (.slice An nl cl) (fun w' hS=>?_) ?_
 ·obtain ⟨s1,s2,s3⟩:=hS
  go_simp
 simp only [zA,zB,zC,Act.put,zD,zE,zF];refine tkH (.int .i64 (nl:Int)) (fun w' hS=>?_) ?_
 ·go_simp
 simp only [zA,zB,zC,Act.put,zD,zE,zF];refine tkH (.bool false) (fun w' hS=>?_) ?_
 ·go_simp
 simp only [zA,zB,zC,Act.put,zD,zE,zF];show wpList _ _ _ _ _ _;simp only [List.drop_succ_cons,List.drop_zero];refine NoPanic.normal ?_;clear kc hc0 hc1;go_upto_region 24 with fail
 have h3b:=HV2.out.h3 W1r2 (HB67.out _ HVdr2.out);have HLkbr2:=hid (HV2.out.lk W1r2.drew.drew (HB67.out _ HVdr2.out.drew.drew));refine wp_region_scriptH (fun W=>W.cell? ⟨gb2,0,none⟩=some (.pointer (some ⟨gw2,0,none⟩))∧W.cell? ⟨gw2,3,none⟩=some (.pointer (some ⟨d2,0,none⟩))) 8 [] [(1,0),(1,1),(1,2),(1,3),(1,4),(1,5),(0,6),(0,7)] (by kernel_rfl) (by kernel_rfl) ⟨HKbr2.out.cell 0,h3b⟩ ?_;refine tkH (.pointer (some ⟨gw2,0,none⟩)) (fun w' hS=>?_) ?_
 ·obtain ⟨s1,s2⟩:=hS
  go_simp
 simp only [zA,zB,Act.put,zD,zE,zF];refine tkH (.pointer (some ⟨gw2,0,none⟩)) (fun w' hS=>?_) ?_
 ·go_simp
 simp only [zA,zB,zC,Act.put,zD,zE,zF];refine tkH (.pointer (some ⟨gw2,3,none⟩)) (fun w' hS=>?_) ?_
 ·go_simp
 simp only [zA,zB,zC,Act.put,zD,zE,zF];refine tkH (.pointer (some ⟨d2,0,none⟩)) (fun w' hS=>?_) ?_
 ·obtain ⟨s1,s2⟩:=hS
  go_simp
 simp only [zA,zB,zC,Act.put,zD,zE,zF];refine tkH (.iface 59 (.pointer (some ⟨d2,0,none⟩))) (fun w' hS=>?_) ?_
 ·go_simp
 simp only [zA,zB,zC,Act.put,zD,zE,zF];refine tkH (.pointer (some ⟨gw2,0,none⟩)) (fun w' hS=>?_) ?_
 ·obtain ⟨s1,s2⟩:=hS
  go_simp
 simp only [zA,zB,zC,Act.put,zD,zE,zF];refine wpScriptH_do (by rfl) ?_;go_wp2_with (go_at_call 33;refine HLkbr2.out.mono ?_;rintro e x9r2 ⟨rfl,hw9⟩;have HX9r2:=hid hw9;clear hw9)
 have HY9r2:Hid (Below W1r2.heap.size W1r2 x9r2):=hid (by rw [HX9r2.out];exact (Below.refl _ _).drew.drew.drew);refine ⟨⟨(HKbr2.out.below HY9r2.out HKbr2.out.lt).cell 0,HV2.out.h3 _ (HB67.out _ (HVdr2.out.trans (HY9r2.out.mono HVdr2.out.size)))⟩,?_⟩;refine wpScriptH_do (by rfl) ?_;go_wp2_with (go_at_call 41;refine (vchain_any d2 (hdQ (vvs rl)) x9r2).mono ?_;rintro e x10r2 ⟨rfl,hw10⟩;have HX10r2:=hid hw10;clear hw10)
 have hb10:Below x9r2.heap.size x9r2 x10r2:=by
  rw [HX10r2.out];have h1:=(Below.refl x9r2.heap.size x9r2).alloc (nL _) (.cells #[.iface 59 (.pointer (some ⟨d2,0,none⟩))] 83);exact h1.alloc h1.size _
 have hs1:Blk x10r2 x9r2.heap.size 83 #[.iface 59 (.pointer (some ⟨d2,0,none⟩))]:=by
  rw [HX10r2.out];exact (Blk.new x9r2 _ _).alloc _
 have hs2:Blk x10r2 (x9r2.heap.size+1) 54 #[.int .u64 (hdQ (vvs rl):Int)]:=by
  rw [HX10r2.out];have h1:=Blk.new (x9r2.alloc (.cells #[.iface 59 (.pointer (some ⟨d2,0,none⟩))] 83)) 54 #[.int .u64 (hdQ (vvs rl):Int)];rw [show (x9r2.alloc (.cells #[.iface 59 (.pointer (some ⟨d2,0,none⟩))] 83)).heap.size=x9r2.heap.size+1 by simp] at h1;exact h1
 have HY10r2:Hid (Below W1r2.heap.size W1r2 x10r2):=hid (HY9r2.out.trans (hb10.mono HY9r2.out.size));have HVxr2:Hid (Below W7.heap.size W7 x10r2):=hid (HVdr2.out.trans (HY10r2.out.mono HVdr2.out.size));have HSpr2:=hid (HV2.out.ch x10r2 (HB67.out _ HVxr2.out) x9r2.heap.size (x9r2.heap.size+1) hs1 hs2 (fun _=>False) (fun k hk=>hk.elim));refine ⟨⟨(HKbr2.out.below HY10r2.out HKbr2.out.lt).cell 0,HV2.out.h3 _ (HB67.out _ HVxr2.out)⟩,?_⟩;show wpList _ _ _ _ _ _;simp only [List.drop_succ_cons,List.drop_zero];refine NoPanic.normal ?_;have HNxr2:Hid (w6.heap.size≤x10r2.heap.size):=hid (HB67.out _ HVxr2.out).size;clear hb10 hs1 hs2 h3b;go_wp2_with fail
 refine wp_rangeFunc_brk (gf:=127) (n0:=w6.heap.size) (id:=4) rfl (enters_of Tryz.func127 (by kernel_rfl) rfl) HSpr2.out HNxr2.out ?hbody (fun _ _ h=>h) ?hend
 case hbody =>
  intro l a' W K hK;gi_wp2_with fail
  exact hK
 case hend =>
 intro D2r2 W2r2 hD hb hK;have HBr2:Hid (Below W7.heap.size W7 W2r2):=hid (HVxr2.out.trans (hb.mono HVxr2.out.size));have HKer2:Hid (W2r2.heap[D2r2]?=some (.deferred (some []))∧W1r2.heap.size≤D2r2∧D2r2 < W2r2.heap.size):=hid ⟨hK,Nat.le_trans HY10r2.out.size hD,(Array.getElem?_eq_some_iff.1 hK).1⟩;have HQ1r2:Hid (Below W1r2.heap.size W1r2 W2r2):=hid (HY10r2.out.trans (hb.mono HY10r2.out.size));have HRnr2:Hid (Below W2r1.heap.size W2r1 W2r2):=hid (HRor2.out.trans (HQ1r2.out.mono HRor2.out.size));clear hD hb hK;go_wp2_with fail
 rw [rounds_succ];have HRz:=hid (HRw.out W2r2 HBr2.out);have r0:W2r2.cell? ⟨w.heap.size,0,none⟩=some (.bool false):=HRz.out.cell 0;have r1:W2r2.frozen? ⟨w.heap.size,0,none⟩=false:=HRz.out.frozen 0;go_wp2_with fail
 obtain ⟨V0,hV0⟩:∃ V,W2r2.setCell ⟨w.heap.size,0,none⟩ (.bool true)=V:=⟨_,rfl⟩
 obtain ⟨a1,a2,a3⟩:=HKdr1.out;obtain ⟨b1,b2,b3⟩:=HKer1.out;obtain ⟨c1,c2',c3⟩:=HKdr2.out;obtain ⟨d1,d2',d3⟩:=HKer2.out;have o1:=HWs.out;have o2:=HWsr1.out;have o3:=HWsr2.out;have hkeep:∀ D,D≠w.heap.size→V0.heap[D]?=W2r2.heap[D]?:=fun D hD=>by rw [← hV0];exact Below.heap_setCell _ _ _ _ (by show D≠w.heap.size;exact hD)
 have k1:V0.heap[D2r2]?=some (.deferred (some [])):=(hkeep _ oM).trans d1;have k2:V0.heap[D1r2]?=some (.deferred (some [])):=((hkeep _ oM).trans (HQ1r2.out.block D1r2 c3)).trans c1;have k3:V0.heap[D2r1]?=some (.deferred (some [])):=((hkeep _ oM).trans (HRnr2.out.block D2r1 b3)).trans b1;have k4:V0.heap[D1r1]?=some (.deferred (some [])):=(((hkeep _ oM).trans (HRnr2.out.block D1r1 (Nat.lt_of_lt_of_le a3 HQ1r1.out.size))).trans (HQ1r1.out.block D1r1 a3)).trans a1;have e0:V0.cell? ⟨w.heap.size,0,none⟩=some (.bool true):=by rw [← hV0];exact World.cell?_setCell_same' _ _ _ (by rw [r0];rfl)
 have f0:Below w.heap.size w V0:=by rw [← hV0];exact (HBw.out.trans (HBr2.out.mono HBw.out.size)).setCell (nL _) _
 rw [hV0];have k21:=put_other k2 (D:=D2r2) oM (.deferred none);have k31:=put_other k3 (D:=D2r2) oM (.deferred none);have k41:=put_other k4 (D:=D2r2) oM (.deferred none);have e1:=cell_kept e0 (grownBy_putObj' _ D2r2 (.deferred none)) (fun r e=>by cases e;exact ⟨_,k1,rfl⟩);have f1:=f0.trans (belowK_b (w:=w) (nL _) V0 D2r2 _ (.deferred none) oM k1 rfl rfl);have k32:=put_other k31 (D:=D1r2) oM (.deferred none);have k42:=put_other k41 (D:=D1r2) oM (.deferred none);have e2:=cell_kept e1 (grownBy_putObj' _ D1r2 (.deferred none)) (fun r e=>by cases e;exact ⟨_,k21,rfl⟩);have f2:=f1.trans (belowK_b (w:=w) (nL _) _ D1r2 _ (.deferred none) oM k21 rfl rfl);have k43:=put_other k42 (D:=D2r1) oM (.deferred none);have e3:=cell_kept e2 (grownBy_putObj' _ D2r1 (.deferred none)) (fun r e=>by cases e;exact ⟨_,k32,rfl⟩);have f3:=f2.trans (belowK_b (w:=w) (nL _) _ D2r1 _ (.deferred none) oM k32 rfl rfl);have e4:=cell_kept e3 (grownBy_putObj' _ D1r1 (.deferred none)) (fun r e=>by cases e;exact ⟨_,k43,rfl⟩);have f4:=f3.trans (belowK_b (w:=w) (nL _) _ D1r1 _ (.deferred none) oM k43 rfl rfl);refine ⟨by simp, .inl ⟨_,_,rfl,run_takeDeferred k1,?_⟩⟩;refine ⟨by simp, .inl ⟨_,_,rfl,run_takeDeferred k21,?_⟩⟩;refine ⟨by simp, .inl ⟨_,_,rfl,run_takeDeferred k32,?_⟩⟩;refine ⟨by simp, .inl ⟨_,_,rfl,run_takeDeferred k43,?_⟩⟩;refine ⟨.bool true,?_,rfl,f4⟩;simp [results,Tryz.results7,go_sem,e4]
end
end
end Go.Proofs.YtfkjjoglnmeciaaGreatDoor
