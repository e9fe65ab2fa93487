/- The walks and laws that the claim leans on, part 50. -/
import Derived.Test.YtnlokpakiambaaaGreatDoorJbw
import Derived.Sort.CutIn
set_option maxRecDepth 100000
set_option maxHeartbeats 16000000
namespace Go.Proofs.YtnlokpakiambaaaGreatDoor
open Go.Lib (hid)
section
open Go.RowKit Go.Maps
section
variable {w:World}
attribute [local go_sem] Oper.semAt_some
theorem versionSpoilt_law (A:Option Addr) (n c:Nat) (l:List DR) (vi wo va:Nat) (ot:Bool) (stamp:Nat) (w:World) (hin:DrsIn w A n c l) (hvi:vi < 256) (hwo:wo < 256) (hva:va < 18446744073709551616) (hstamp:stamp < 18446744073709551616) (ht:Tab w) (hpy:Pay w) :
  Calls Tryz.prog 5 #[.slice A n c, .agg #[.int .u8 (vi:Int), .int .u8 (wo:Int), .int .u64 (va:Int), .bool ot], .int .u64 (stamp:Int)] w fun e w'=>e = .returned (.bool true)∧Below w.heap.size w w':=by
 obtain ⟨W1,hW1⟩:∃ W1,(w.alloc (.cells #[.int .u8 (vi:Int), .int .u8 (wo:Int), .int .u64 (va:Int), .bool ot] 59)).alloc (.cells #[.bool false] 4)=W1:=⟨_,rfl⟩
 have s1:(w.alloc (.cells #[.int .u8 (vi:Int), .int .u8 (wo:Int), .int .u64 (va:Int), .bool ot] 59)).heap.size=w.heap.size+1:=by simp
 have hb1:Below w.heap.size w W1:=by rw [← hW1];exact ((Below.refl _ _).alloc (Nat.le_refl _) _).alloc (by simp) _
 have hv1:Blk W1 w.heap.size 59 #[.int .u8 (vi:Int), .int .u8 (wo:Int), .int .u64 (va:Int), .bool ot]:=by rw [← hW1];exact (Blk.new w _ _).alloc _
 have hr1:Blk W1 (w.heap.size+1) 4 #[.bool false]:=by
  rw [← hW1,← s1]
  exact Blk.new _ _ _
 have HW1:=hid hW1
 have HB1:=hid hb1
 have HV1:=hid hv1
 have HR1:=hid hr1
 have HAw:=hid (vawake_any W1 (ht.below hb1) (hpy.below hb1))
 have HBg:Hid (∀ W,Below W1.heap.size W1 W→Calls Tryz.prog 12 #[.slice A n c] W fun e w'=>∃ gh:Nat,e = .returned (.pointer (some ⟨gh,0,none⟩))∧Hid (BgS W l (min n 8) gh w')):=hid (fun W hW=>by
  have h2:=hb1.trans (hW.mono hb1.size)
  exact vbegin_any A n c l ⟨(hin.1.below h2).more h2.size,hin.2.1,hin.2.2.1,fun r hr=>(hin.2.2.2 r hr).below h2⟩ (ht.below h2) (hpy.below h2))
 have HNum:=hid (show vi < 256∧wo < 256∧va < 18446744073709551616∧stamp < 18446744073709551616 from ⟨hvi,hwo,hva,hstamp⟩)
 clear hin hvi hwo hva hstamp ht hpy hW1 hb1 hv1 hr1 s1
 refine (callsIn_wide (n:=8)).1 (callsIn_of_wp_marks Tryz.func5 rfl trivial ?_ rfl)
 refine (wpIn_wide (n:=8)).2 ?_
 simp only [Tryz.ntmps5,List.size_toArray,List.length_cons,List.length_nil,Nat.reduceAdd,Nat.reduceSub,Array.replicate_succ,Array.replicate_zero,List.push_toArray,List.append_toArray,List.nil_append,List.cons_append]
 go_upto_region 1 with fail
 rw [HW1.out]
 go_wp2_with (first
  | (go_at_call 11;refine HAw.out.mono ?_;rintro e w2 ⟨rfl,hb2⟩;have HB2:=hid hb2;clear hb2)
  | (go_at_call 12;refine (HBg.out w2 HB2.out).mono ?_;rintro e w4 ⟨gh,rfl,hbg⟩;have HBS:=hid hbg.out;clear hbg;refine stop ?_))
 unfold Stop
 obtain ⟨rl,z,hj,hbgis, -⟩:=HBS.out
 have hl8:rl.length≤8:=by rw [hbgis.1];exact Nat.min_le_right _ _
 have HV:=hid (hvC_of hj hl8)
 have HB4:=hid (HB2.out.trans (hj.below.mono HB2.out.size))
 have HJ:=hid hj
 have HL8:=hid hl8
 obtain ⟨Al,nl,cl,hnl,hcl,hn8,hl1⟩:=HV.out.h1
 have HNl:=hid (show nl=rl.length∧nl≤cl∧nl≤8 from ⟨hnl,hcl,hn8⟩)
 have HF1:=hid hl1
 have f1:=(hl1 w4 (Below.refl _ _)).1
 have hr4:=HR1.out.below HB4.out HR1.out.lt
 have r0:w4.cell? ⟨w.heap.size+1,0,none⟩=some (.bool false):=hr4.cell 0
 have r1:w4.frozen? ⟨w.heap.size+1,0,none⟩=false:=hr4.frozen 0
 have R0:=hid r0
 clear hj hbgis hl8 hnl hcl hn8 hl1 HBS HAw HBg hr4
 by_cases hn0:nl=0
 ·subst hn0
  go_wp2_with fail
  have c0:(w4.setCell ⟨w.heap.size+1,0,none⟩ (.bool true)).cell? ⟨w.heap.size+1,0,none⟩=some (.bool true):=World.cell?_setCell_same' _ _ _ (by rw [R0.out];rfl)
  refine ⟨.bool true,?_,rfl,(HB1.out.trans (HB4.out.mono HB1.out.size)).setCell (Nat.le_succ _) _⟩
  simp [results,Tryz.results5,go_sem,c0]
 ·have hn0':(0:Int) < (nl:Int):=by omega
  have HN0:=hid (show 0 < nl by omega)
  obtain ⟨h1,h2,h3,h4⟩:=HNum.out
  obtain ⟨gw,hgw⟩:∃ gw,z.y.g=gw:=⟨_,rfl⟩
  obtain ⟨d,hd⟩:∃ d,z.y.d=d:=⟨_,rfl⟩
  obtain ⟨head,hhead⟩:∃ head,hdQ (vvs rl)=head:=⟨_,rfl⟩
  obtain ⟨th,hth⟩:∃ th,z.a.th 0=th:=⟨_,rfl⟩
  have HSt:Hid (∀ (i:Nat) (hi:i < rl.length) (v:Nat),v < 18446744073709551616→∃ o:Nat,(∀ W,Calls Tryz.prog 24 #[.int .u64 ((rl[i]).v.q:Int), .int .i64 ((wo % 3:Nat):Int)] W fun e w'=>e = .returned (.int .u64 (o:Int))∧W=w')∧∀ W,Below w4.heap.size w4 W→Calls Tryz.prog 23 #[.pointer (some ⟨th,0,none⟩), .int .u64 (o:Int), .int .u64 (v:Int)] W fun e w'=>e = .returned (.tuple #[])∧Hid (Below w2.heap.size w2 w'∧∃ L0 ec fc gc lb,SpW gh gw th d head stamp L0 ec fc gc lb w')):=hid (fun i hi v hv=>by
   have h:=sp_store HJ.out (Nat.min_le_right _ _) hi (wo % 3) v stamp (Nat.mod_lt _ (by decide)) hv
   rw [hgw,hd,hhead,hth] at h
   exact h)
  have HLk:=hid HV.out.lk
  have HF0:=hid HV.out.h0
  have HF3:=hid HV.out.h3
  have HG1:Hid (∀ W,Below w4.heap.size w4 W→W.cell? ⟨gw,1,none⟩=some (.pointer (some ⟨th,0,none⟩))):=hid (fun W hW=>by
   have h:W.cell? ⟨z.y.g,1,none⟩=some (.pointer (some ⟨z.a.th 0,0,none⟩)):=(HJ.out.below_ hW).bw.blk.cell 1
   rw [hgw,hth] at h
   exact h)
  rw [hgw] at HLk HF0 HF3
  rw [hd] at HF3
  rw [hhead] at HLk
  have hS:∀ W,Below w4.heap.size w4 W→W.cell? ⟨gh,0,none⟩=some (.pointer (some ⟨gw,0,none⟩))∧W.cell? ⟨gw,3,none⟩=some (.pointer (some ⟨d,0,none⟩)):=fun W hW=>⟨HF0.out W hW,HF3.out W hW⟩
  have HS:=hid hS
  have s0:=hS w4 (Below.refl _ _)
  have HB24:=hid HJ.out.below
  have HQb:Hid (∀ (i:Nat) (hi:i < rl.length),(rl[i]).v.q < 18446744073709551616):=hid (fun i hi=>by
   obtain ⟨older,h⟩:=HJ.out.hist.ver (rl[i]).v (by unfold vvs;exact List.mem_map.2 ⟨rl[i],List.getElem_mem hi,rfl⟩)
   exact h.nz.2)
  clear HV HJ hgw hd hhead hth hS h1 h2 h3 h4 hn0
  go_upto_region 8 with fail
  clear f1 r0 r1 R0
  refine wp_region_scriptH (fun w'=>w'.cell? ⟨gh,0,none⟩=some (.pointer (some ⟨gw,0,none⟩))∧w'.cell? ⟨gw,3,none⟩=some (.pointer (some ⟨d,0,none⟩))) 14 [] [(1,0),(1,1),(1,2),(1,3),(1,4),(1,5),(1,6),(1,7),(1,8),(1,9),(1,10),(0,11),(1,12),(1,13)] (by kernel_rfl) (by kernel_rfl) s0 ?_
  refine wpScriptH_take (.pointer (some ⟨gh,0,none⟩)) (by rfl) (by rfl) (fun w' hS=>?_) ?_
  ·go_simp
  simp only [zA,zB,Act.put,zD,zE,zF]
  refine wpScriptH_take (.pointer (some ⟨gh,0,none⟩)) (by rfl) (by rfl) (fun w' hS=>?_) ?_
  ·go_simp
  simp only [zA,zB,zC,Act.put,zD,zE,zF]
  refine wpScriptH_take (.pointer (some ⟨gh,0,none⟩)) (by rfl) (by rfl) (fun w' hS=>?_) ?_
  ·go_simp
  simp only [zA,zB,zC,Act.put,zD,zE,zF]
  refine wpScriptH_take (.pointer (some ⟨gw,0,none⟩)) (by rfl) (by rfl) (fun w' hS=>?_) ?_
  ·obtain ⟨s1,s2⟩:=hS
   go_simp
  simp only [zA,zB,zC,Act.put,zD,zE,zF]
  refine wpScriptH_take (.pointer (some ⟨gw,0,none⟩)) (by rfl) (by rfl) (fun w' hS=>?_) ?_
  ·go_simp
  simp only [zA,zB,zC,Act.put,zD,zE,zF]
  refine wpScriptH_take (.pointer (some ⟨gw,3,none⟩)) (by rfl) (by rfl) (fun w' hS=>?_) ?_
  ·go_simp
  simp only [zA,zB,zC,Act.put,zD,zE,zF]
  refine wpScriptH_take (.pointer (some ⟨d,0,none⟩)) (by rfl) (by rfl) (fun w' hS=>?_) ?_
  ·obtain ⟨s1,s2⟩:=hS
   go_simp
  simp only [zA,zB,zC,Act.put,zD,zE,zF]
  refine wpScriptH_take (.pointer (some ⟨gh,0,none⟩)) (by rfl) (by rfl) (fun w' hS=>?_) ?_
  ·go_simp
  simp only [zA,zB,zC,Act.put,zD,zE,zF]
  refine wpScriptH_take (.pointer (some ⟨gh,0,none⟩)) (by rfl) (by rfl) (fun w' hS=>?_) ?_
  ·go_simp
  simp only [zA,zB,zC,Act.put,zD,zE,zF]
  refine wpScriptH_take (.pointer (some ⟨gh,0,none⟩)) (by rfl) (by rfl) (fun w' hS=>?_) ?_
  ·go_simp
  simp only [zA,zB,zC,Act.put,zD,zE,zF]
  refine wpScriptH_take (.pointer (some ⟨gw,0,none⟩)) (by rfl) (by rfl) (fun w' hS=>?_) ?_
  ·obtain ⟨s1,s2⟩:=hS
   go_simp
  simp only [zA,zB,zC,Act.put,zD,zE,zF]
  refine wpScriptH_do (by rfl) ?_
  go_wp2_with (go_at_call 13;refine (HLk.out w4.drew (Below.refl _ _).drew).mono ?_;rintro e w5 ⟨rfl,hw5⟩;have HB5:Hid (Below w4.heap.size w4 w5):=hid (by rw [hw5];exact (Below.refl _ _).drew.drew);clear hw5)
  refine ⟨HS.out w5 HB5.out,?_⟩
  refine wpScriptH_take (.pointer (some ⟨d,0,none⟩)) (by rfl) (by rfl) (fun w' hS=>?_) ?_
  ·go_simp
  simp only [zA,zB,zC,Act.put,zD,zE,zF]
  refine wpScriptH_take (.int .u64 (head:Int)) (by rfl) (by rfl) (fun w' hS=>?_) ?_
  ·go_simp
  simp only [zA,zB,zC,Act.put,zD,zE,zF]
  show wpList _ _ _ _ _ _
  simp only [List.drop_succ_cons,List.drop_zero]
  refine NoPanic.normal ?_
  clear s0 HLk HF3 HS
  go_upto_region 9 with fail
  have HVw:Hid (∀ W,Below w4.heap.size w4 W→Blk W w.heap.size 59 #[.int .u8 (vi:Int), .int .u8 (wo:Int), .int .u64 (va:Int), .bool ot]):=hid (fun W hW=>(HV1.out.below HB4.out HV1.out.lt).below hW (HV1.out.below HB4.out HV1.out.lt).lt)
  go_cut [10] from 46 to 54 (fun v wx=>∃ i:Nat,v = .int .i64 (i:Int)∧Hid (i < nl)∧Hid (Below w4.heap.size w4 wx))
  case first =>
   have b0:w5.cell? ⟨w.heap.size,0,none⟩=some (.int .u8 (vi:Int)):=(HVw.out w5 HB5.out).cell 0
   have g0:=(HF1.out w5 HB5.out).1
   obtain ⟨i,hi⟩:∃ i,vi % nl=i:=⟨_,rfl⟩
   have HIe:Hid (i < nl):=hid (by rw [← hi];exact Nat.mod_lt _ HN0.out)
   have t2:(vi:Int) % (nl:Int)=(i:Int):=by rw [← hi];push_cast;rfl
   have t1:(vi:Int).tmod (nl:Int)=(i:Int):=by rw [Int.tmod_eq_emod_of_nonneg (by omega)];exact t2
   have t3:((nl:Int) == 0)=false:=by rw [beq_eq_false_iff_ne];omega
   have t4:IntKind.i64.wrap (vi:Int)=(vi:Int):=wrapi vi (by have:=HNum.out.1;omega)
   have t5:IntKind.i64.wrap (i:Int)=(i:Int):=wrapi i (by have:=HNum.out.1;have:=HN0.out;have h:=Nat.mod_lt vi HN0.out;have h8:=HNl.out.2.2;omega)
   have HBd:Hid (Below w4.heap.size w4 w5.drew):=hid HB5.out.drew
   clear hi
   go_region
   go_wp2_with fail
   go_meet
   exact ⟨i,rfl,HIe,HBd⟩
  case rest =>
  obtain ⟨i9,rfl,HI9,HB6⟩:=hcut
  have hbx:=HVw.out wc HB6.out
  have b2:wc.cell? ⟨w.heap.size,2,none⟩=some (.int .u64 (va:Int)):=hbx.cell 2
  have b3:wc.cell? ⟨w.heap.size,3,none⟩=some (.bool ot):=hbx.cell 3
  clear hbx
  go_upto_if 58 with fail
  clear b3
  go_cut [11] from 59 to 75 (fun v wx=>∃ v0:Nat,v = .int .u64 (v0:Int)∧Hid (v0 < 18446744073709551616)∧Hid (Below w4.heap.size w4 wx))
  case first =>
   cases ot
   ·go_wp2_with fail
    go_meet
    exact ⟨va,rfl,hid HNum.out.2.2.1,HB6⟩
   ·have g0:=(HF1.out wc HB6.out).1
    have hlt:=Nat.mod_lt (va % 8) HN0.out
    obtain ⟨i8,hi8⟩:∃ i8,va % 8=i8:=⟨_,rfl⟩
    have h8:i8 < 8:=by rw [← hi8];exact Nat.mod_lt _ (by decide)
    rw [hi8] at hlt
    obtain ⟨i,hi⟩:∃ i,i8 % nl=i:=⟨_,rfl⟩
    rw [hi] at hlt
    have hn8:=HNl.out.2.2
    have u2:(va:Int) % 8=(i8:Int):=by rw [← hi8];push_cast;rfl
    have u1:(va:Int).tmod 8=(i8:Int):=by rw [Int.tmod_eq_emod_of_nonneg (by omega)];exact u2
    have u4:IntKind.u64.wrap (i8:Int)=(i8:Int):=by rw [IntKind.wrap_u64];omega
    have u5:IntKind.i64.wrap (i8:Int)=(i8:Int):=wrapi i8 (by omega)
    have t2:(i8:Int) % (nl:Int)=(i:Int):=by rw [← hi];push_cast;rfl
    have t1:(i8:Int).tmod (nl:Int)=(i:Int):=by rw [Int.tmod_eq_emod_of_nonneg (by omega)];exact t2
    have t3:((nl:Int) == 0)=false:=by rw [beq_eq_false_iff_ne];omega
    have t5:IntKind.i64.wrap (i:Int)=(i:Int):=wrapi i (by omega)
    have hz5:(0:Int)≤(i:Int):=by omega
    have hz6:(i:Int) < (nl:Int):=by omega
    obtain ⟨hil,gb,go,hA,_,f0,f1,f2,f3,f4⟩:=rv_facts (HF1.out wc HB6.out).2 (k:=i) hlt
    subst hA
    have HQ:=hid (HQb.out i hil)
    obtain ⟨q,hq⟩:∃ q,(rl[i]).v.q=q:=⟨_,rfl⟩
    rw [hq] at f2 HQ
    have HBd:Hid (Below w4.heap.size w4 wc.drew):=hid HB6.out.drew
    have s0:wc.cell? ⟨gh,1,none⟩=some (.slice (some ⟨gb,go,none⟩) nl cl)∧wc.cell? ⟨gb,go+i * 5+2,none⟩=some (.int .u64 (q:Int))∧wc.cell? ⟨w.heap.size,2,none⟩=some (.int .u64 (va:Int)):=⟨g0,f2,b2⟩
    clear hi8 hi h8 hlt hn8 hq f0 f1 f2 f3 f4 g0 b2
    go_upto_region 12 with fail
    refine wp_region_scriptH (fun W=>W.cell? ⟨gh,1,none⟩=some (.slice (some ⟨gb,go,none⟩) nl cl)∧W.cell? ⟨gb,go+i * 5+2,none⟩=some (.int .u64 (q:Int))∧W.cell? ⟨w.heap.size,2,none⟩=some (.int .u64 (va:Int))) 18 [] [(1,0),(1,1),(1,2),(1,3),(1,4),(1,5),(1,6),(1,7),(1,8),(1,9),(1,10),(1,11),(1,12),(1,13),(1,14),(1,15),(1,16),(1,17)] (by kernel_rfl) (by kernel_rfl) s0 ?_
    refine wpScriptH_take (.pointer (some ⟨gh,0,none⟩)) (by rfl) (by rfl) (fun w' hS=>?_) ?_
    ·go_simp
    simp only [zA,zB,Act.put,zD,zE,zF]
    refine wpScriptH_take (.pointer (some ⟨gh,0,none⟩)) (by rfl) (by rfl) (fun w' hS=>?_) ?_
    ·go_simp
    simp only [zA,zB,zC,Act.put,zD,zE,zF]
    refine wpScriptH_take (.pointer (some ⟨gh,1,none⟩)) (by rfl) (by rfl) (fun w' hS=>?_) ?_
    ·go_simp
    simp only [zA,zB,zC,Act.put,zD,zE,zF]
    refine wpScriptH_take (.slice (some ⟨gb,go,none⟩) nl cl) (by rfl) (by rfl) (fun w' hS=>?_) ?_
    ·obtain ⟨s1,s2,s3⟩:=hS
     go_simp
    simp only [zA,zB,zC,Act.put,zD,zE,zF]
    refine wpScriptH_take (.pointer (some ⟨w.heap.size,2,none⟩)) (by rfl) (by rfl) (fun w' hS=>?_) ?_
    ·go_simp
    simp only [zA,zB,zC,Act.put,zD,zE,zF]
    refine wpScriptH_take (.int .u64 (va:Int)) (by rfl) (by rfl) (fun w' hS=>?_) ?_
    ·obtain ⟨s1,s2,s3⟩:=hS
     go_simp
    simp only [zA,zB,zC,Act.put,zD,zE,zF]
    refine wpScriptH_take (.int .u64 (i8:Int)) (by rfl) (by rfl) (fun w' hS=>?_) ?_
    ·go_simp
    simp only [zA,zB,zC,Act.put,zD,zE,zF]
    refine wpScriptH_take (.int .i64 (i8:Int)) (by rfl) (by rfl) (fun w' hS=>?_) ?_
    ·go_simp
    simp only [zA,zB,zC,Act.put,zD,zE,zF]
    refine wpScriptH_take (.pointer (some ⟨gh,0,none⟩)) (by rfl) (by rfl) (fun w' hS=>?_) ?_
    ·go_simp
    simp only [zA,zB,zC,Act.put,zD,zE,zF]
    refine wpScriptH_take (.pointer (some ⟨gh,0,none⟩)) (by rfl) (by rfl) (fun w' hS=>?_) ?_
    ·go_simp
    simp only [zA,zB,zC,Act.put,zD,zE,zF]
    refine wpScriptH_take (.pointer (some ⟨gh,1,none⟩)) (by rfl) (by rfl) (fun w' hS=>?_) ?_
    ·go_simp
    simp only [zA,zB,zC,Act.put,zD,zE,zF]
    refine wpScriptH_take (.slice (some ⟨gb,go,none⟩) nl cl) (by rfl) (by rfl) (fun w' hS=>?_) ?_
    ·obtain ⟨s1,s2,s3⟩:=hS
     go_simp
    simp only [zA,zB,zC,Act.put,zD,zE,zF]
    refine wpScriptH_take (.int .i64 (nl:Int)) (by rfl) (by rfl) (fun w' hS=>?_) ?_
    ·go_simp
    simp only [zA,zB,zC,Act.put,zD,zE,zF]
    refine wpScriptH_take (.int .i64 (i:Int)) (by rfl) (by rfl) (fun w' hS=>?_) ?_
    ·have hn0n:=HN0.out
     go_simp
     omega
    simp only [zA,zB,zC,Act.put,zD,zE,zF]
    refine wpScriptH_take (.pointer (some ⟨gb,go+i * 5,none⟩)) (by rfl) (by rfl) (fun w' hS=>?_) ?_
    ·go_simp
    simp only [zA,zB,zC,Act.put,zD,zE,zF]
    refine wpScriptH_take (.pointer (some ⟨gb,go+i * 5+2,none⟩)) (by rfl) (by rfl) (fun w' hS=>?_) ?_
    ·go_simp
    simp only [zA,zB,zC,Act.put,zD,zE,zF]
    refine wpScriptH_take (.int .u64 (q:Int)) (by rfl) (by rfl) (fun w' hS=>?_) ?_
    ·obtain ⟨s1,s2,s3⟩:=hS
     go_simp
    simp only [zA,zB,zC,Act.put,zD,zE,zF]
    refine wpScriptH_take (.int .u64 (q:Int)) (by rfl) (by rfl) (fun w' hS=>?_) ?_
    ·go_simp
    simp only [zA,zB,zC,Act.put,zD,zE,zF]
    show wpList _ _ _ _ _ _
    simp only [List.drop_succ_cons,List.drop_zero]
    refine NoPanic.normal ?_
    go_wp2_with fail
    go_meet
    exact ⟨q,rfl,HQ,HBd⟩
  case rest =>
  obtain ⟨v0,rfl,HV0,HB7⟩:=hcut
  clear b2
  go_upto_region 13 with fail
  go_cut [76] from 76 to 97 (fun _ wx=>Hid (Below w2.heap.size w2 wx∧∃ L0 ec fc gc lb,SpW gh gw th d head stamp L0 ec fc gc lb wx))
  case first =>
   obtain ⟨i,hi⟩:∃ i,i=i9:=⟨_,rfl⟩
   subst hi
   have hlt:=HI9.out
   obtain ⟨j,hj⟩:∃ j,wo % 3=j:=⟨_,rfl⟩
   have hj3:j < 3:=by rw [← hj];exact Nat.mod_lt _ (by decide)
   obtain ⟨hil,gb,go,hA,_,f0,f1,f2,f3,f4⟩:=rv_facts (HF1.out wc HB7.out).2 (k:=i) hlt
   subst hA
   obtain ⟨o,ho1,ho2⟩:=HSt.out i hil v0 HV0.out
   rw [hj] at ho1
   obtain ⟨q,hq⟩:∃ q,(rl[i]).v.q=q:=⟨_,rfl⟩
   rw [hq] at f2 ho1
   have HO1:=hid ho1
   have HO2:=hid (fun W (hW:Below wc.heap.size wc W)=>ho2 W (HB7.out.trans (hW.mono HB7.out.size)))
   have hz5:(0:Int)≤(i:Int):=by omega
   have hz6:(i:Int) < (nl:Int):=by omega
   have u2:(wo:Int) % 3=(j:Int):=by rw [← hj];push_cast;rfl
   have u1:(wo:Int).tmod 3=(j:Int):=by rw [Int.tmod_eq_emod_of_nonneg (by omega)];exact u2
   have u4:IntKind.u8.wrap (j:Int)=(j:Int):=by rw [IntKind.wrap_u8];omega
   have u5:IntKind.i64.wrap (j:Int)=(j:Int):=wrapi j (by omega)
   have HSx:Hid (∀ W,Below wc.heap.size wc W→W.cell? ⟨gh,0,none⟩=some (.pointer (some ⟨gw,0,none⟩))∧W.cell? ⟨gw,1,none⟩=some (.pointer (some ⟨th,0,none⟩))∧W.cell? ⟨gh,1,none⟩=some (.slice (some ⟨gb,go,none⟩) nl cl)∧W.cell? ⟨gb,go+i * 5+2,none⟩=some (.int .u64 (q:Int))∧W.cell? ⟨w.heap.size,1,none⟩=some (.int .u8 (wo:Int))):=hid (fun W hW=>by
    have hW4:=HB7.out.trans (hW.mono HB7.out.size)
    obtain ⟨hil2,gb2,go2,hA2,_,_,_,k2,_,_⟩:=rv_facts (HF1.out W hW4).2 (k:=i) hlt
    cases hA2
    rw [hq] at k2
    exact ⟨HF0.out W hW4,HG1.out W hW4,(HF1.out W hW4).1,k2,(HVw.out W hW4).cell 1⟩)
   have s0:=HSx.out wc (Below.refl _ _)
   clear hj hj3 hlt hq ho1 ho2 f0 f1 f2 f3 f4
   refine wp_region_scriptH (fun W=>W.cell? ⟨gh,0,none⟩=some (.pointer (some ⟨gw,0,none⟩))∧W.cell? ⟨gw,1,none⟩=some (.pointer (some ⟨th,0,none⟩))∧W.cell? ⟨gh,1,none⟩=some (.slice (some ⟨gb,go,none⟩) nl cl)∧W.cell? ⟨gb,go+i * 5+2,none⟩=some (.int .u64 (q:Int))∧W.cell? ⟨w.heap.size,1,none⟩=some (.int .u8 (wo:Int))) 21 [] [(1,0),(1,1),(1,2),(1,3),(1,4),(1,5),(1,6),(1,7),(1,8),(1,9),(1,10),(1,11),(1,12),(1,13),(1,14),(1,15),(1,16),(1,17),(1,18),(1,20),(0,19)] (by kernel_rfl) (by kernel_rfl) s0 ?_
   refine wpScriptH_take (.pointer (some ⟨gh,0,none⟩)) (by rfl) (by rfl) (fun w' hS=>?_) ?_
   ·go_simp
   simp only [zA,zB,Act.put,zD,zE,zF]
   refine wpScriptH_take (.pointer (some ⟨gh,0,none⟩)) (by rfl) (by rfl) (fun w' hS=>?_) ?_
   ·go_simp
   simp only [zA,zB,zC,Act.put,zD,zE,zF]
   refine wpScriptH_take (.pointer (some ⟨gh,0,none⟩)) (by rfl) (by rfl) (fun w' hS=>?_) ?_
   ·go_simp
   simp only [zA,zB,zC,Act.put,zD,zE,zF]
   refine wpScriptH_take (.pointer (some ⟨gw,0,none⟩)) (by rfl) (by rfl) (fun w' hS=>?_) ?_
   ·obtain ⟨s1,s2,s3,s4,s5⟩:=hS
    go_simp
   simp only [zA,zB,zC,Act.put,zD,zE,zF]
   refine wpScriptH_take (.pointer (some ⟨gw,0,none⟩)) (by rfl) (by rfl) (fun w' hS=>?_) ?_
   ·go_simp
   simp only [zA,zB,zC,Act.put,zD,zE,zF]
   refine wpScriptH_take (.pointer (some ⟨gw,1,none⟩)) (by rfl) (by rfl) (fun w' hS=>?_) ?_
   ·go_simp
   simp only [zA,zB,zC,Act.put,zD,zE,zF]
   refine wpScriptH_take (.pointer (some ⟨th,0,none⟩)) (by rfl) (by rfl) (fun w' hS=>?_) ?_
   ·obtain ⟨s1,s2,s3,s4,s5⟩:=hS
    go_simp
   simp only [zA,zB,zC,Act.put,zD,zE,zF]
   refine wpScriptH_take (.pointer (some ⟨gh,0,none⟩)) (by rfl) (by rfl) (fun w' hS=>?_) ?_
   ·go_simp
   simp only [zA,zB,zC,Act.put,zD,zE,zF]
   refine wpScriptH_take (.pointer (some ⟨gh,0,none⟩)) (by rfl) (by rfl) (fun w' hS=>?_) ?_
   ·go_simp
   simp only [zA,zB,zC,Act.put,zD,zE,zF]
   refine wpScriptH_take (.pointer (some ⟨gh,1,none⟩)) (by rfl) (by rfl) (fun w' hS=>?_) ?_
   ·go_simp
   simp only [zA,zB,zC,Act.put,zD,zE,zF]
   refine wpScriptH_take (.slice (some ⟨gb,go,none⟩) nl cl) (by rfl) (by rfl) (fun w' hS=>?_) ?_
   ·obtain ⟨s1,s2,s3,s4,s5⟩:=hS
    go_simp
   simp only [zA,zB,zC,Act.put,zD,zE,zF]
   refine wpScriptH_take (.int .i64 (i:Int)) (by rfl) (by rfl) (fun w' hS=>?_) ?_
   ·go_simp
   simp only [zA,zB,zC,Act.put,zD,zE,zF]
   refine wpScriptH_take (.pointer (some ⟨gb,go+i * 5,none⟩)) (by rfl) (by rfl) (fun w' hS=>?_) ?_
   ·go_simp
   simp only [zA,zB,zC,Act.put,zD,zE,zF]
   refine wpScriptH_take (.pointer (some ⟨gb,go+i * 5+2,none⟩)) (by rfl) (by rfl) (fun w' hS=>?_) ?_
   ·go_simp
   simp only [zA,zB,zC,Act.put,zD,zE,zF]
   refine wpScriptH_take (.int .u64 (q:Int)) (by rfl) (by rfl) (fun w' hS=>?_) ?_
   ·obtain ⟨s1,s2,s3,s4,s5⟩:=hS
    go_simp
   simp only [zA,zB,zC,Act.put,zD,zE,zF]
   refine wpScriptH_take (.pointer (some ⟨w.heap.size,1,none⟩)) (by rfl) (by rfl) (fun w' hS=>?_) ?_
   ·go_simp
   simp only [zA,zB,zC,Act.put,zD,zE,zF]
   refine wpScriptH_take (.int .u8 (wo:Int)) (by rfl) (by rfl) (fun w' hS=>?_) ?_
   ·obtain ⟨s1,s2,s3,s4,s5⟩:=hS
    go_simp
   simp only [zA,zB,zC,Act.put,zD,zE,zF]
   refine wpScriptH_take (.int .u8 (j:Int)) (by rfl) (by rfl) (fun w' hS=>?_) ?_
   ·go_simp
   simp only [zA,zB,zC,Act.put,zD,zE,zF]
   refine wpScriptH_take (.int .i64 (j:Int)) (by rfl) (by rfl) (fun w' hS=>?_) ?_
   ·go_simp
   simp only [zA,zB,zC,Act.put,zD,zE,zF]
   refine wpScriptH_take (.int .u64 (v0:Int)) (by rfl) (by rfl) (fun w' hS=>?_) ?_
   ·go_simp
   simp only [zA,zB,zC,Act.put,zD,zE,zF]
   refine wpScriptH_do (by rfl) ?_
   go_wp2_with (go_at_call 24;refine (HO1.out _).mono ?_;rintro e w8 ⟨rfl,rfl⟩)
   refine ⟨HSx.out _ (Below.refl _ _).drew,?_⟩
   show wpList _ _ _ _ _ _
   simp only [List.drop_succ_cons,List.drop_zero]
   go_wp2_with (go_at_call 23;refine (HO2.out _ (Below.refl _ _).drew).mono ?_;rintro e w9 ⟨rfl,hh⟩;have HH:=hid hh.out;clear hh)
   refine NoPanic.normal ?_
   go_wp2_with fail
   go_meet
   exact HH
  case rest =>
  obtain ⟨hbc,L0,ec,fc,gc,lb,hsp⟩:=hcut.out
  have HSp:=hid hsp
  have HBc:=hid hbc
  obtain ⟨w6,hw6⟩:∃ w6,w6=wc:=⟨_,rfl⟩
  subst hw6
  clear hcut hbc hsp HSt HF0 HG1 HF1 HQb HN0 HNl HVw HL8 HB24
  have HRw:Hid (∀ W,Below w6.heap.size w6 W→Blk W (w.heap.size+1) 4 #[.bool false]):=hid (fun W hW=>by
   have h1:=HR1.out.below HB2.out HR1.out.lt
   have h2:=h1.below HBc.out h1.lt
   exact h2.below hW h2.lt)
  go_upto_region 14 with fail
  go_cut [12,13] from 98 to 98 (fun v12 v13 wx=>∃ gb:Nat,v12 = .pointer (some ⟨gb,0,none⟩)∧v13 = .pointer (some ⟨gb+1,0,none⟩)∧Hid (w6.heap.size≤gb)∧Hid (SpI w6.heap.size gb (gb+2) w6 [] wx))
  case first =>
   go_wp2_with fail
   go_meet
   refine ⟨w6.heap.size,rfl,rfl,hid (Nat.le_refl _),hid ?_⟩
   have z1:(w6.alloc (.cells #[.int .u64 0, .bool false, .int .u64 0, .int .u64 0] 36)).heap.size=w6.heap.size+1:=by simp
   have h1:=(Below.refl w6.heap.size w6).alloc (Nat.le_refl _) (.cells #[.int .u64 0, .bool false, .int .u64 0, .int .u64 0] 36)
   have k1:=Blk.new w6 36 #[.int .u64 0, .bool false, .int .u64 0, .int .u64 0]
   have k2:=Blk.new (w6.alloc (.cells #[.int .u64 0, .bool false, .int .u64 0, .int .u64 0] 36)) 3 #[.int .i64 0]
   rw [z1] at k2
   exact ⟨k1.alloc _,k2,h1.alloc h1.size _,by simp⟩
  case rest =>
  obtain ⟨gb,rfl,rfl,HGb,HI0⟩:=hcut
  go_wp2_with (go_at_call 25;refine (vchain_any d head wc).mono ?_;rintro e w8 ⟨rfl,hw8⟩;have HW8:=hid hw8;clear hw8;refine stop ?_)
  unfold Stop
  have hb8:Below wc.heap.size wc w8:=by
   rw [HW8.out]
   have h1:=(Below.refl wc.heap.size wc).alloc (Nat.le_refl _) (.cells #[.iface 43 (.pointer (some ⟨d,0,none⟩))] 124)
   exact h1.alloc h1.size _
  have hK1:Blk w8 wc.heap.size 124 #[.iface 43 (.pointer (some ⟨d,0,none⟩))]:=by
   rw [HW8.out]
   exact (Blk.new wc _ _).alloc _
  have hK2:Blk w8 (wc.heap.size+1) 27 #[.int .u64 (head:Int)]:=by
   rw [HW8.out]
   have h1:=Blk.new (wc.alloc (.cells #[.iface 43 (.pointer (some ⟨d,0,none⟩))] 124)) 27 #[.int .u64 (head:Int)]
   rw [show (wc.alloc (.cells #[.iface 43 (.pointer (some ⟨d,0,none⟩))] 124)).heap.size=wc.heap.size+1 by simp] at h1
   exact h1
  have hI8:SpI w6.heap.size gb w8.heap.size w6 [] w8:=⟨HI0.out.was.below hb8 HI0.out.was.lt,HI0.out.cnt.below hb8 HI0.out.cnt.lt,HI0.out.below.trans (hb8.mono HI0.out.below.size),Nat.le_refl _⟩
  have HSq:=hid (HSp.out.ch w8 hI8.below wc.heap.size (wc.heap.size+1) hK1 hK2 (fun k=>k=gb∨k=gb+1) (fun k hk=>by have h1:=hI8.cnt.lt;have hk':k=gb∨k=gb+1:=hk;omega))
  have HI8:=hid hI8
  clear hb8 hK1 hK2 hI8 HW8
  go_wp2_with fail
  refine wp_rangeFunc_vs (gf:=69) (n0:=w6.heap.size) (gb:=gb) (wc:=w6) (q0:=14) rfl (enters_of Tryz.func69 (by kernel_rfl) rfl) HSq.out HI8.out.below.size HI8.out.cnt.lt HI8.out ?assign ?body ?done
  case assign =>
   intro l pre x W K hI hK
   obtain ⟨sp,dl,dt,ol⟩:=x
   have HKk:=hid hK
   clear hK
   dsimp only [vArr]
   simp only [List.setIfInBounds_toArray,List.set_cons_succ,List.set_cons_zero]
   gi_wp2
   exact HKk.out _ ((Below.refl _ _).alloc (Nat.le_refl _) _) (Blk.new W _ _)
  case body =>
   intro l pre x g W hg hx hI hN
   obtain ⟨sp,dl,dt,ol⟩:=x
   obtain ⟨ws,hst⟩:∃ v,stC (0,false,0,0) pre=v:=⟨_,rfl⟩
   obtain ⟨ws,wd,wt,wl⟩:=ws
   have hwas:=hI.was
   have hcnt:=hI.cnt
   have hbel:=hI.below
   rw [hst] at hwas
   have HI:=hid hI
   have HN:=hid hN
   have hrw:=HRw.out W hbel
   have x0:W.cell? ⟨g,0,none⟩=some (.int .u64 (sp:Int)):=hx.cell 0
   have x1:W.cell? ⟨g,1,none⟩=some (.bool dl):=hx.cell 1
   have x2:W.cell? ⟨g,2,none⟩=some (.int .u64 (dt:Int)):=hx.cell 2
   have x3:W.cell? ⟨g,3,none⟩=some (.int .u64 (ol:Int)):=hx.cell 3
   have v0:W.cell? ⟨gb,0,none⟩=some (.int .u64 (ws:Int)):=hwas.cell 0
   have n0:W.cell? ⟨gb+1,0,none⟩=some (.int .i64 (pre.length:Int)):=hcnt.cell 0
   have z0:W.frozen? ⟨gb,0,none⟩=false:=hwas.frozen 0
   have z1:W.frozen? ⟨gb,1,none⟩=false:=hwas.frozen 1
   have z2:W.frozen? ⟨gb,2,none⟩=false:=hwas.frozen 2
   have z3:W.frozen? ⟨gb,3,none⟩=false:=hwas.frozen 3
   have z4:W.frozen? ⟨gb+1,0,none⟩=false:=hcnt.frozen 0
   have v1:W.cell? ⟨gb,1,none⟩=some (.bool wd):=hwas.cell 1
   have v2:W.cell? ⟨gb,2,none⟩=some (.int .u64 (wt:Int)):=hwas.cell 2
   have v3:W.cell? ⟨gb,3,none⟩=some (.int .u64 (wl:Int)):=hwas.cell 3
   have r0:W.cell? ⟨w.heap.size+1,0,none⟩=some (.bool false):=hrw.cell 0
   have r1:W.frozen? ⟨w.heap.size+1,0,none⟩=false:=hrw.frozen 0
   have HBad:Hid (∀ W',W'=W.setCell ⟨w.heap.size+1,0,none⟩ (.bool false)→KeepsFrom w8.heap.size W W'):=hid (fun W' hW'=>by
    subst hW'
    refine KeepsFrom.of_chg (Z:=fun k=>k=w.heap.size+1) ((Chg.refl (fun k=>k=w.heap.size+1) W).setCell (p:=⟨w.heap.size+1,0,none⟩) (.inl rfl) _) (fun k hk=>?_)
    have h1:=(HRw.out w6 (Below.refl _ _)).lt
    have h2:=HI8.out.below.size
    have hk':k=w.heap.size+1:=hk
    omega)
   have HNg:Hid (GoodC 4611686018427387904 (pre++[(sp,dl,dt,ol)])→(pre≠[]→sp < ws)∧verOk sp dl dt=true):=hid (fun h=>by
    obtain ⟨g1,g2⟩:=h.out_
    refine ⟨fun hp=>?_,g2⟩
    rw [lastC_st _ (0,false,0,0) pre hp,hst] at g1
    exact g1)
   have e4:IntKind.i64.wrap ((pre.length:Int)+1)=((pre.length+1:Nat):Int):=by rw [IntKind.wrap_i64];omega
   have HSt:=hid (fun W' he=>SpI.step (W':=W') hI (B:=w8.heap.size) HI8.out.cnt.lt HGb.out sp dl dt ol _ e4 he)
   clear e4
   have HE:=hid (show pre=[]↔pre.length=0 from ⟨fun h=>by rw [h];rfl,List.eq_nil_of_length_eq_zero⟩)
   have hgl:g≠gb∧g≠gb+1:=by omega
   generalize pre.length=n at *
   dsimp only [vArr]
   simp only [List.setIfInBounds_toArray,List.set_cons_succ,List.set_cons_zero]
   clear hwas hcnt hbel hrw hI hst hx hN
   gi_upto_region 17 with fail
   gi_cut [116] from 104 (fun v wx=>v = .bool (decide (n≠0∧ws≤sp))∧Hid (W=wx))
   case first =>
    by_cases hn:n=0
    ·subst hn
     rw [show ((0:Nat):Int)=0 from rfl] at n0
     have HF:Hid (decide ((0:Nat)≠0∧ws≤sp)=false):=hid (by simp)
     gi_wp2
     gi_meet
     exact ⟨by rw [HF.out],hid rfl⟩
    ·have hni:(0:Int) < (n:Int):=by omega
     have hn4:(n:Int) < 4096:=by have:=HN.out;omega
     by_cases hs:ws≤sp
     ·have HF:Hid (decide (n≠0∧ws≤sp)=true):=hid (decide_eq_true ⟨hn,hs⟩)
      have hsi:(ws:Int)≤(sp:Int):=by omega
      clear hn hs
      gi_wp2
      gi_meet
      exact ⟨by rw [HF.out],hid rfl⟩
     ·have HF:Hid (decide (n≠0∧ws≤sp)=false):=hid (decide_eq_false (fun h=>hs h.2))
      have hsi:(sp:Int) < (ws:Int):=by omega
      clear hn hs
      gi_wp2
      gi_meet
      exact ⟨by rw [HF.out];first | rfl | (simp;omega),hid rfl⟩
   case rest =>
   obtain ⟨rfl,hwx⟩:=hcut
   have hwx2:=hwx.out
   subst hwx2
   cases hbd:decide (n≠0∧ws≤sp)
   ·clear hbd hwx
    by_cases hdt:dt=0
    ·subst hdt
     rw [show ((0:Nat):Int)=0 from rfl] at x2
     cases dl
     ·have HNo:Hid (verOk sp false 0=false):=hid (by unfold verOk;simp)
      gi_wp2
      exact ⟨HBad.out _ rfl,fun hg=>absurd ((HNg.out hg).2.symm.trans HNo.out) (by decide)⟩
     ·gi_upto_region 21 with fail
      gi_region
      all_goals exact HSt.out _ rfl
    ·have hdi:(0:Int) < (dt:Int):=by omega
     have hd0:((dt:Int) == 0)=false:=beq_eq_false_iff_ne.2 (by omega)
     have HD0:Hid (decide (dt=0)=false):=hid (decide_eq_false hdt)
     clear hdt
     cases dl
     ·gi_upto_region 21 with fail
      gi_region
      all_goals exact HSt.out _ rfl
     ·have HNo:Hid (verOk sp true dt=false):=hid (by unfold verOk;rw [HD0.out];simp)
      gi_wp2
      exact ⟨HBad.out _ rfl,fun hg=>absurd ((HNg.out hg).2.symm.trans HNo.out) (by decide)⟩
   ·have HB2':=hid (of_decide_eq_true hbd)
    clear hbd hwx
    gi_wp2
    exact ⟨HBad.out _ rfl,fun hg=>by
     have h1:=(HNg.out hg).1 (fun hp=>HB2'.out.1 (HE.out.1 hp))
     have h2:=HB2'.out.2
     omega⟩
  case done =>
   intro D xs W hD hxs hI hK
   have hxs':xs=L0:=hxs
   subst hxs'
   obtain ⟨ws,hst⟩:∃ v,stC (0,false,0,0) xs=v:=⟨_,rfl⟩
   obtain ⟨ws,wd,wt,wl⟩:=ws
   have hol:oldC xs=wl:=by unfold oldC;rw [hst]
   have HPl:=hid HSp.out.pl
   rw [hol] at HPl
   have hwas:=hI.was
   rw [hst] at hwas
   have HWas:=hid hwas
   have HCnt:=hid hI.cnt
   have HBw:=hid hI.below
   have HD:=hid hD
   have HK:=hid hK
   have HBg:=hid hI.big
   have HLen:=hid (show xs.length=xs.length from rfl)
   generalize xs.length=n at HPl HCnt
   clear hD hK hxs hI hwas hst hol
   go_wp2_with (go_at_call 22;refine (HSp.out.ck W HBw.out).mono ?_;rintro e w9 ⟨rfl,hb9⟩;have HB9:=hid hb9;clear hb9;refine stop ?_)
   unfold Stop
   have HC9:=hid (HSp.out.bl w9 (HBw.out.trans (HB9.out.mono HBw.out.size)))
   go_wp2_with (go_at_call 18;refine HC9.out.mono ?_;rintro e w10 ⟨⟨A10,c10,rfl⟩,hb10⟩;have HB10:=hid (HB9.out.trans (hb10.mono HB9.out.size));clear hb10;refine stop ?_)
   unfold Stop
   have HC10:=hid (HSp.out.at_ w10 (HBw.out.trans (HB10.out.mono HBw.out.size)))
   go_wp2_with (go_at_call 15;refine HC10.out.mono ?_;rintro e w11 ⟨⟨va11,rfl⟩,hb11⟩;have HB11:=hid (HB10.out.trans (hb11.mono HB10.out.size));clear hb11;refine stop ?_)
   unfold Stop
   have HC11:=hid (HSp.out.pr w11 (HBw.out.trans (HB11.out.mono HBw.out.size)))
   go_wp2_with (go_at_call 26;refine HC11.out.mono ?_;rintro e w12 ⟨⟨x12,y12,z12,rfl⟩,hb12⟩;have HB12:=hid (HB11.out.trans (hb12.mono HB11.out.size));clear hb12;refine stop ?_)
   unfold Stop
   have hw12:=HWas.out.below HB12.out HWas.out.lt
   have hn12:=HCnt.out.below HB12.out HCnt.out.lt
   have HBw12:=hid (HBw.out.trans (HB12.out.mono HBw.out.size))
   have hr12:=HRw.out w12 HBw12.out
   have v3:w12.cell? ⟨gb,3,none⟩=some (.int .u64 (wl:Int)):=hw12.cell 3
   have n0:w12.cell? ⟨gb+1,0,none⟩=some (.int .i64 (n:Int)):=hn12.cell 0
   have r0:w12.cell? ⟨w.heap.size+1,0,none⟩=some (.bool false):=hr12.cell 0
   have r1:w12.frozen? ⟨w.heap.size+1,0,none⟩=false:=hr12.frozen 0
   obtain ⟨q0,q1⟩:=HSp.out.h0 w12 HBw12.out
   have HEr:=hid (HSp.out.er w12 HBw12.out)
   have HR0:=hid r0
   clear hw12 hn12 hr12
   have hEnd:Hid (∀ W',W'=w12.setCell ⟨w.heap.size+1,0,none⟩ (.bool true)→(W'.heap[D]?=some (.deferred (some []))∧W'.cell? ⟨w.heap.size+1,0,none⟩=some (.bool true)∧Below w.heap.size w W'∧w.heap.size≤D)):=hid (fun W' hW'=>by
    subst hW'
    have h1:=HD.out
    have h2:=(HRw.out w6 (Below.refl _ _)).lt
    have h3:=HI8.out.below.size
    have h4:D < W.heap.size:=(Array.getElem?_eq_some_iff.1 HK.out).1
    refine ⟨?_,World.cell?_setCell_same' _ _ _ (by rw [HR0.out];rfl),?_,by omega⟩
    ·rw [Below.heap_setCell _ _ _ _ (by show D≠w.heap.size+1;omega),HB12.out.block D h4]
     exact HK.out
    ·have hb:=HB2.out.trans ((HBc.out.trans (HBw12.out.mono HBc.out.size)).mono HB2.out.size)
     exact (HB1.out.trans (hb.mono HB1.out.size)).setCell (Nat.le_succ _) _)
   rcases HPl.out with ⟨he,hf,hg,hl,ho⟩ | ⟨he,hf⟩
   ·have d1:((ec:Int) == 0)=true:=beq_iff_eq.2 (by omega)
    have d2:((fc:Int) == 0)=true:=beq_iff_eq.2 (by omega)
    have d3:((gc:Int) == 0)=true:=beq_iff_eq.2 (by omega)
    have d4:((wl:Int) == 0)=true:=beq_iff_eq.2 (by omega)
    have d5:((ec:Int) != 0)=false:=by rw [bne,d1];rfl
    have d6:((fc:Int) != 0)=false:=by rw [bne,d2];rfl
    have d7:((gc:Int) != 0)=false:=by rw [bne,d3];rfl
    have d8:((wl:Int) != 0)=false:=by rw [bne,d4];rfl
    have hli:(n:Int)≤(lb:Int):=by omega
    clear he hf hg hl ho
    go_wp2_with (go_at_call 27;refine HEr.out.mono ?_;rintro e w13 ⟨rfl,rfl⟩)
    obtain ⟨k1,k2,k3,k4⟩:=hEnd.out _ rfl
    have c1:=cell_kept k2 (grownBy_putObj' _ D (.deferred none)) (fun r e=>by cases e;exact ⟨_,k1,rfl⟩)
    refine ⟨by simp, .inl ⟨_,_,rfl,run_takeDeferred k1,?_⟩⟩
    refine ⟨.bool true,?_,rfl,k3.trans (belowK_b (w:=w) (Nat.le_refl _) _ D _ _ k4 k1 rfl rfl)⟩
    simp [results,Tryz.results5,go_sem,c1]
   ·have d1:((ec:Int) == 0)=false:=beq_eq_false_iff_ne.2 (by omega)
    have d2:((fc:Int) == 0)=false:=beq_eq_false_iff_ne.2 (by omega)
    have d3:((ec:Int) == 11)=true:=beq_iff_eq.2 (by omega)
    have d5:((ec:Int) != 0)=true:=by rw [bne,d1];rfl
    have d6:((fc:Int) != 0)=true:=by rw [bne,d2];rfl
    have d7:((ec:Int) != 11)=false:=by rw [bne,d3];rfl
    clear he hf
    go_wp2_with (go_at_call 27;refine HEr.out.mono ?_;rintro e w13 ⟨rfl,rfl⟩)
    obtain ⟨k1,k2,k3,k4⟩:=hEnd.out _ rfl
    have c1:=cell_kept k2 (grownBy_putObj' _ D (.deferred none)) (fun r e=>by cases e;exact ⟨_,k1,rfl⟩)
    refine ⟨by simp, .inl ⟨_,_,rfl,run_takeDeferred k1,?_⟩⟩
    refine ⟨.bool true,?_,rfl,k3.trans (belowK_b (w:=w) (Nat.le_refl _) _ D _ _ k4 k1 rfl rfl)⟩
    simp [results,Tryz.results5,go_sem,c1]
end
end
end Go.Proofs.YtnlokpakiambaaaGreatDoor
