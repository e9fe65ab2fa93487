/- The walks and laws that the claim leans on, part 28. -/
import Derived.Test.YtfkjjoglnmeciaaGreatDoorJat
import Derived.Test.YtfkjjoglnmeciaaGreatDoorJaw
set_option maxRecDepth 100000
set_option maxHeartbeats 16000000
namespace Go.Proofs.YtfkjjoglnmeciaaGreatDoor
open Go.Lib (hid)
section
open Go.RowKit Go.Maps
theorem methArE (w : World) : (method 640 375 (.agg arC0) "Encode").run Tryz.prog w = .ok (440, .agg arC0) w := by kernel_rfl
def wrk (l:List (List Nat × Nat)) (k:Nat):List Nat:=l.length :: ((l.take k).flatMap encP++List.replicate (32 - 4 * k) 0)
def encA (l:List (List Nat × Nat)):List Nat:=wrk l l.length
theorem flat_len:∀ {l:List (List Nat × Nat)},(∀ p∈l,p.1.length≤16)→(l.flatMap encP).length=4 * l.length
 | [],_=>rfl
 | p :: t,h=>by
  rw [List.flatMap_cons,List.length_append,encP_len (h p (by simp)),flat_len (fun q hq=>h q (by simp [hq])),List.length_cons]
  omega
theorem wrk_len {l:List (List Nat × Nat)} {k:Nat} (h:∀ p∈l,p.1.length≤16) (hk:k≤l.length) (hl:l.length≤8):(wrk l k).length=33:=by
 unfold wrk
 rw [List.length_cons,List.length_append,flat_len (fun p hp=>h p (List.mem_of_mem_take hp)),List.length_replicate,List.length_take]
 omega
theorem wrk_step {l:List (List Nat × Nat)} {k:Nat} (h:∀ p∈l,p.1.length≤16) (hk:k < l.length) (hl:l.length≤8):putW (wrk l k) (1+k * 4) (encP l[k])=wrk l (k+1):=by
 have h4:=encP_len (h l[k] (List.getElem_mem hk))
 have hf:=flat_len (l:=l.take k) (fun p hp=>h p (List.mem_of_mem_take hp))
 rw [List.length_take,Nat.min_eq_left (by omega)] at hf
 unfold putW wrk
 rw [h4,List.take_succ_eq_append_getElem hk,List.flatMap_append]
 have e1:(l.length :: ((l.take k).flatMap encP++List.replicate (32 - 4 * k) 0)).take (1+k * 4)=l.length :: (l.take k).flatMap encP:=by
  rw [Nat.add_comm 1,List.take_succ_cons,List.take_append,List.take_of_length_le (by omega),hf,show k * 4 - 4 * k=0 by omega,List.take_zero,List.append_nil]
 have e2:(l.length :: ((l.take k).flatMap encP++List.replicate (32 - 4 * k) 0)).drop (1+k * 4+4)=List.replicate (32 - 4 * (k+1)) 0:=by
  rw [show 1+k * 4+4=(4 * k+4)+1 by omega,List.drop_succ_cons,List.drop_append,List.drop_of_length_le (by omega),hf,List.nil_append,show 4 * k+4 - 4 * k=4 by omega,List.drop_replicate,show 32 - 4 * k - 4=32 - 4 * (k+1) by omega]
 rw [e1,e2]
 simp
theorem set_wrk0 (l:List (List Nat × Nat)):(List.replicate 33 0).set 0 l.length=wrk l 0:=by
 unfold wrk
 simp [List.replicate]
theorem arEnc_any (A:Option Addr) (n cc:Nat) (l:List (List Nat × Nat)) (g o:Nat) (L:List Nat) (w:World) (hr:Reads w w.heap.size 2 A n (itCells l)) (hn:n≤8) (hl:∀ p∈l,p.1.length≤16∧∀ b∈p.1,b < 256) (h:Blk w g 32 (uA L)) (ho:o+33≤L.length) :
  Calls Tryz.prog 440 #[.agg arC0, .slice A n cc, .slice (some ⟨g,o,none⟩) 33 33] w fun e w'=>e = .returned (.bool true)∧Blk w' g 32 (uA (putW L o (encA l)))∧Below g w w':=by
 unfold arC0
 have hln:l.length=n:=by have:=hr.1;rw [itCells_len] at this;omega
 obtain ⟨W1,hW1⟩:∃ W1,w.alloc (.cells #[.int .i64 8,prI] 375)=W1:=⟨_,rfl⟩
 have hb1:Below w.heap.size w W1:=by rw [← hW1];exact (Below.refl _ _).alloc (Nat.le_refl _) _
 have hk:Blk W1 w.heap.size 375 #[.int .i64 8,prI]:=by rw [← hW1];exact Blk.new _ _ _
 have HW1:=hid hW1
 have HB1:=hid hb1
 have HK:=hid hk
 have HG:=hid h
 have HRv:=hid hr
 have HLn:=hid hln
 have HL:=hid hl
 have HN:=hid (And.intro ho hn)
 have hm:=methPrE
 have c0:W1.cell? ⟨w.heap.size,0,none⟩=some (.int .i64 8):=hk.cell 0
 have c1:W1.cell? ⟨w.heap.size,1,none⟩=some prI:=hk.cell 1
 have hni:(n:Int)≤8:=by omega
 clear hW1 hb1 hk h hr hln hl
 go_enter Tryz.func440,Tryz.ntmps440
 go_upto_region 1 with fail
 rw [HW1.out]
 go_upto_region 2 with (go_at_call 268;refine (arWords_any W1).mono ?_;rintro e w2 ⟨rfl,hb2⟩;have HB2:=hid hb2;have d0:w2.cell? ⟨w.heap.size,0,none⟩=some (.int .i64 8):=(HK.out.below hb2 HK.out.lt).cell 0;clear hb2)
 clear c0 c1
 have hmkS:=makeU 33 (by decide)
 rw [make_uA] at hmkS
 rw [show ((33:Nat):Int)=33 from rfl] at hmkS
 obtain ⟨Z,hZ⟩:∃ Z:List Nat,Z=List.replicate 33 0:=⟨_,rfl⟩
 rw [← hZ] at hmkS
 have HZ:=hid hZ
 clear hZ
 go_upto_region 4 with fail
 obtain ⟨gw,hgwe⟩:∃ gw,w2.heap.size=gw:=⟨_,rfl⟩
 obtain ⟨W4,hW4⟩:∃ W4,w2.alloc (.cells (uA Z) 32)=W4:=⟨_,rfl⟩
 have hb4:Below W1.heap.size W1 W4:=by rw [← hW4];exact HB2.out.alloc HB2.out.size _
 have hk4:Blk W4 gw 32 (uA Z):=by rw [← hW4,← hgwe];exact Blk.new _ _ _
 have hgw:w.heap.size < gw:=by rw [← hgwe];exact Nat.lt_of_lt_of_le HK.out.lt HB2.out.size
 have hzl:Z.length=33:=by rw [HZ.out];rfl
 have HGe:=hid hgwe
 have HGw:=hid hgw
 have HW4:=hid hW4
 have HB4:=hid hb4
 have c0:W4.cell? ⟨gw,0,none⟩=some (.int .u64 (Z[0]'(by omega):Int)):=by rw [hk4.cell];exact uA_at (by omega)
 have z0:W4.frozen? ⟨gw,0,none⟩=false:=hk4.frozen 0
 have HK5:Hid (Blk (W4.setCell ⟨gw,0,none⟩ (.int .u64 (n:Int))) gw 32 (uA (wrk l 0))):=hid (by
  have h1:=hk4.set_ 0 (.int .u64 (n:Int))
  rw [uA_set,HZ.out] at h1
  rw [show (List.replicate 33 0).set 0 n=wrk l 0 by rw [← HLn.out];exact set_wrk0 l] at h1
  exact h1)
 have HB5:Hid (Below W1.heap.size W1 (W4.setCell ⟨gw,0,none⟩ (.int .u64 (n:Int)))):=hid (hb4.setCell (p:=⟨gw,0,none⟩) (show W1.heap.size≤gw by rw [← hgwe];exact HB2.out.size) _)
 have e1:IntKind.u64.wrap (n:Int)=(n:Int):=by rw [IntKind.wrap_u64];omega
 obtain ⟨W5,hW5⟩:∃ W5,W4.setCell ⟨gw,0,none⟩ (.int .u64 (n:Int))=W5:=⟨_,rfl⟩
 rw [hW5] at HK5 HB5
 have HW5:=hid hW5
 generalize Z[0]'(by omega)=old at *
 clear hW4 hb4 hk4 hgw hzl hgwe hW5 d0
 go_upto_region 5 with fail
 rw [HW4.out,HGe.out]
 go_upto_region 6 with fail
 rw [HW5.out]
 have d1:W5.cell? ⟨w.heap.size,1,none⟩=some prI:=(HK.out.below HB5.out HK.out.lt).cell 1
 clear c0 z0
 go_upto_region 7 with (go_at_call 333;refine (prSize_any W5).mono ?_;rintro e w6 ⟨rfl,hb6⟩;have HB6:=hid (HB5.out.trans (hb6.mono HB5.out.size));have HK6:=hid (HK5.out.below hb6 HK5.out.lt);clear hb6)
 have HCs:Hid (∀ W,Below gw w6 W→W.cell? ⟨w.heap.size,1,none⟩=some (.iface 446 (.agg #[nmI,unI]))):=hid (fun W hW=>(hW.cell (p:=⟨w.heap.size,1,none⟩) (by show w.heap.size < gw;exact HGw.out)).trans ((HK.out.below HB6.out HK.out.lt).cell 1))
 have HRw:Hid (∀ W,Below gw w6 W→Reads W w.heap.size 2 A n (itCells l)):=hid (fun W hW=>by
  have h1:=HRv.out.below HB1.out
  have h2:=HB1.out.size
  have h3:=h1.below (HB6.out.mono h2)
  exact h3.below (hW.mono (Nat.le_of_lt HGw.out)))
 have HB0:Hid (Below gw w6 w6):=hid (Below.refl _ _)
 clear d1 hmkS
 go_wp2_with fail
 go_loopw [42] (fun i wr=>∃ k:Nat,k≤n∧i = .int .i64 (k:Int)∧Hid (Blk wr gw 32 (uA (wrk l k)))∧Hid (Below gw w6 wr)) (fun i _=>n - (Go.RowKit.intOf i).toNat)
 case atStart=>exact ⟨0,Nat.zero_le _,rfl,HK6,HB0⟩
 case round =>
  clear HB0 HK6
  obtain ⟨k,hk,rfl,HKr,HBr⟩:=hrel
  by_cases hlt:k < n
  ·obtain ⟨hkl,gb,go,hA3,_,f0,f1⟩:=it_facts (HRw.out wr HBr.out) (k:=k) hlt
   subst hA3
   have HSt:Hid (putW (wrk l k) (1+k * 4) (encP l[k])=wrk l (k+1)):=hid (wrk_step (fun p hp=>(HL.out p hp).1) hkl (by have:=HLn.out;omega))
   have HP:=hid (HL.out _ (List.getElem_mem hkl))
   have HWl:=hid (wrk_len (l:=l) (k:=k) (fun p hp=>(HL.out p hp).1) (by omega) (by have:=HLn.out;omega))
   generalize l[k]=p at *
   have hz5:(0:Int)≤(k:Int):=by omega
   have hz6:(k:Int) < (n:Int):=by omega
   have hkr:(k:Int)≤7:=by omega
   obtain ⟨W7,hW7⟩:∃ W7,wr.alloc (.cells #[.string (strN p.1), .int .u64 (p.2:Int)] 368)=W7:=⟨_,rfl⟩
   have hb7:Below wr.heap.size wr W7:=by rw [← hW7];exact (Below.refl _ _).alloc (Nat.le_refl _) _
   have hk7:Blk W7 wr.heap.size 368 #[.string (strN p.1), .int .u64 (p.2:Int)]:=by rw [← hW7];exact Blk.new _ _ _
   have HW7:=hid hW7
   have HB7:=hid hb7
   have HKe:=hid hk7
   have HBr7:Hid (Below gw w6 W7):=hid (HBr.out.trans (hb7.mono (Nat.le_of_lt HKr.out.lt)))
   have HK7:=hid (HKr.out.below hb7 HKr.out.lt)
   have HE7:=hid (prEnc_any p gw (1+k * 4) (wrk l k) W7.drew HK7.out (by rw [HWl.out];omega) HP.out.1 HP.out.2)
   have s0:W7.cell? ⟨w.heap.size,1,none⟩=some (.iface 446 (.agg #[nmI,unI]))∧W7.cell? ⟨wr.heap.size,0,none⟩=some (.string (strN p.1))∧W7.cell? ⟨wr.heap.size,1,none⟩=some (.int .u64 (p.2:Int)):=⟨HCs.out W7 HBr7.out,hk7.cell 0,hk7.cell 1⟩
   have e5:wrap64 ((k:Int) * 4)=(k:Int) * 4:=IntWalk.wrap64_in _ (by omega)
   have e6:wrap64 (1+(k:Int) * 4)=1+(k:Int) * 4:=IntWalk.wrap64_in _ (by omega)
   have e7:wrap64 (1+(k:Int) * 4+4)=1+(k:Int) * 4+4:=IntWalk.wrap64_in _ (by omega)
   have q0:IntKind.i64.wrap (1+(k:Int) * 4+4)=1+(k:Int) * 4+4:=by rw [IntKind.wrap_i64];omega
   have qa:¬ 1+(k:Int) * 4+4 < 1+(k:Int) * 4:=by omega
   have q1:(0:Int)≤1+(k:Int) * 4+4:=by omega
   have q2:1+(k:Int) * 4+4≤33:=by omega
   have q3:1+(k:Int) * 4+4≤max (1+(k:Int) * 4+4) 0:=by omega
   have q4:(0:Int)≤1+(k:Int) * 4:=by omega
   have q5:1+(k:Int) * 4≤max (1+(k:Int) * 4+4) 0:=by omega
   have q6:(1+(k:Int) * 4).toNat=1+k * 4:=by omega
   have q7:(1+(k:Int) * 4+4).toNat=1+k * 4+4:=by omega
   have q8:¬ 1+k * 4+4=1+k * 4:=by omega
   have q9:1+k * 4+4 - (1+k * 4)=4:=by omega
   clear hW7 hb7 hk7
   go_upto_region 11 with fail
   rw [HW7.out]
   go_cut [66] from 51 to 66 (fun v wx=>v = .bool false∧Hid (Blk wx gw 32 (uA (wrk l (k+1))))∧Hid (Below gw w6 wx))
   case first =>
    refine wp_region_scriptH (fun W=>W.cell? ⟨w.heap.size,1,none⟩=some (.iface 446 (.agg #[nmI,unI]))∧W.cell? ⟨wr.heap.size,0,none⟩=some (.string (strN p.1))∧W.cell? ⟨wr.heap.size,1,none⟩=some (.int .u64 (p.2:Int))) 14 [] [(1,0),(1,1),(1,2),(1,3),(1,4),(1,5),(1,6),(1,7),(1,8),(1,9),(1,10),(1,11),(1,12),(1,13)] (by kernel_rfl) (by kernel_rfl) s0 ?_
    refine wpScriptH_take (.pointer (some ⟨w.heap.size,1,none⟩)) (by rfl) (by rfl) (fun w' hS=>?_) ?_
    ·go_simp
    simp only [zA,zB,Act.put,zD,zE,zF]
    refine wpScriptH_take (.iface 446 (.agg #[nmI,unI])) (by rfl) (by rfl) (fun w' hS=>?_) ?_
    ·obtain ⟨s1,s2,s3⟩:=hS
     go_simp
    simp only [zA,zB,zC,Act.put,zD,zE,zF]
    refine wpScriptH_take (.agg #[.string (strN p.1), .int .u64 (p.2:Int)]) (by rfl) (by rfl) (fun w' hS=>?_) ?_
    ·obtain ⟨s1,s2,s3⟩:=hS
     go_simp
    simp only [zA,zB,zC,Act.put,zD,zE,zF]
    refine wpScriptH_take (.slice (some ⟨gw,0,none⟩) 33 33) (by rfl) (by rfl) (fun w' hS=>?_) ?_
    ·go_simp
    simp only [zA,zB,zC,Act.put,zD,zE,zF]
    refine wpScriptH_take (.int .i64 (1+(k:Int) * 4)) (by rfl) (by rfl) (fun w' hS=>?_) ?_
    ·go_simp
    simp only [zA,zB,zC,Act.put,zD,zE,zF]
    refine wpScriptH_take (.int .i64 (1+(k:Int) * 4)) (by rfl) (by rfl) (fun w' hS=>?_) ?_
    ·go_simp
    simp only [zA,zB,zC,Act.put,zD,zE,zF]
    refine wpScriptH_take (.int .i64 4) (by rfl) (by rfl) (fun w' hS=>?_) ?_
    ·go_simp
    simp only [zA,zB,zC,Act.put,zD,zE,zF]
    refine wpScriptH_take (.int .i64 (1+(k:Int) * 4+4)) (by rfl) (by rfl) (fun w' hS=>?_) ?_
    ·go_simp
    simp only [zA,zB,zC,Act.put,zD,zE,zF]
    refine wpScriptH_take (.int .i64 (1+(k:Int) * 4)) (by rfl) (by rfl) (fun w' hS=>?_) ?_
    ·go_simp
    simp only [zA,zB,zC,Act.put,zD,zE,zF]
    refine wpScriptH_take (.int .i64 4) (by rfl) (by rfl) (fun w' hS=>?_) ?_
    ·go_simp
    simp only [zA,zB,zC,Act.put,zD,zE,zF]
    refine wpScriptH_take (.int .i64 (1+(k:Int) * 4+4)) (by rfl) (by rfl) (fun w' hS=>?_) ?_
    ·go_simp
    simp only [zA,zB,zC,Act.put,zD,zE,zF]
    refine wpScriptH_take (.slice (some ⟨gw,1+k * 4,none⟩) 4 4) (by rfl) (by rfl) (fun w' hS=>?_) ?_
    ·go_simp
    simp only [zA,zB,zC,Act.put,zD,zE,zF]
    refine wpScriptH_take (.iface 446 (.agg #[nmI,unI])) (by rfl) (by rfl) (fun w' hS=>?_) ?_
    ·go_simp
    simp only [zA,zB,zC,Act.put,zD,zE,zF]
    refine wpScriptH_take (.iface 446 (.agg #[nmI,unI])) (by rfl) (by rfl) (fun w' hS=>?_) ?_
    ·go_simp
    simp only [zA,zB,zC,Act.put,zD,zE,zF]
    show wpList _ _ _ _ _ _
    simp only [List.drop_succ_cons,List.drop_zero]
    go_wp2_with (go_at_call 449;refine HE7.out.mono ?_;rintro e w8 ⟨rfl,hk8,hb8⟩;have HK8:=hid hk8;have HB8:Hid (Below gw w6 w8):=hid (HBr7.out.drew.trans hb8);clear hk8 hb8)
    refine NoPanic.normal ?_
    go_wp2_with fail
    go_meet
    refine ⟨rfl,?_,HB8⟩
    have h1:=HK8.out
    rw [HSt.out] at h1
    exact hid h1
   case rest =>
   obtain ⟨rfl,HKc,HBc⟩:=hcut
   clear s0 e5 e6 e7 q0 qa q1 q2 q3 q4 q5 q6 q7 q8 q9
   go_wp2_with fail
   go_roundw
   case rel =>
    first
     | exact ⟨k+1,by omega,by go_num,HKc,HBc⟩
     | (
       repeat apply Exists.intro
       refine ⟨?_,rfl⟩
       exact ⟨k+1,by omega,by go_num,HKc,HBc⟩)
   case measure=>simp [Go.RowKit.intOf];omega
  ·obtain rfl:k=n:=by omega
   have hglt:=HG.out.lt
   have hg1:=HG.out.below HB1.out hglt
   have hg6:=hg1.below HB6.out hg1.lt
   have hgc:Blk wr g 32 (uA L):=(HBr.out.block g (by have h1:=HGw.out;omega)).trans hg6
   have hbw:Below g w wr:=by
    have h1:=HGw.out
    have h2:=HB1.out.size
    exact ((HB1.out.trans (HB6.out.mono h2)).mono (Nat.le_of_lt hglt)).trans (HBr.out.mono (by omega))
   have HGc:=hid hgc
   have HBw:=hid hbw
   have HKe:Hid (Blk wr gw 32 (uA (encA l))):=hid (by unfold encA;rw [HLn.out];exact HKr.out)
   have HLe:Hid ((encA l).length=33):=hid (by unfold encA;exact wrk_len (fun p hp=>(HL.out p hp).1) (Nat.le_refl _) (by have:=HLn.out;omega))
   have HKx:=hid (uA_reads HKe.out)
   clear hglt hg1 hg6 hgc hbw hlt hk
   go_wp2_with (refine wpList_cpyU _ rfl (.tmp 68) (.tmp 69) rfl g o 33 33 33 (some ⟨gw,0,none⟩) L (encA l) rfl rfl HGc.out HLe.out HN.out.1 _ (by have h1:=HKx.out;rw [HLe.out] at h1;exact h1) w HBw.out ?_;intro W9 hg9 hb9;have HG9:=hid hg9;have HB9:=hid hb9;clear hg9 hb9)
   go_ret
   exact ⟨rfl,HG9.out,HB9.out⟩
end
end Go.Proofs.YtfkjjoglnmeciaaGreatDoor
