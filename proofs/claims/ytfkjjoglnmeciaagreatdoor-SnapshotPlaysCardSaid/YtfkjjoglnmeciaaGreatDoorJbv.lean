/- The walks and laws that the claim leans on, part 48. -/
import Derived.Test.YtfkjjoglnmeciaaGreatDoorJbu
set_option maxRecDepth 100000
set_option maxHeartbeats 16000000
namespace Go.Proofs.YtfkjjoglnmeciaaGreatDoor
open Go.Lib (hid)
section
open Go.RowKit Go.Maps
theorem RLk.get_at {st:Nat} {l rl:List (List Nat × Nat)} (h:RLk l rl) (hn:(l.map nmS).Nodup) {k:Nat} (hk:k < rl.length):getR (strN (rl[k]).1) (some (st,l),0)=((rl[k]).2,0):=by
 have e:getR (strN (rl[k]).1) (some (st,l),0)=if fndS (strN (rl[k]).1) 0 l < 0 then (0,5) else ((l.getD (fndS (strN (rl[k]).1) 0 l).toNat ([],0)).2,0):=rfl
 have hf:¬ fndS (strN (rl[k]).1) 0 l < 0:=fun hx=>by
  rw [fndS_neg] at hx
  exact hx ((h.perm.map nmS).mem_iff.1 (List.mem_map_of_mem (List.getElem_mem hk)))
 obtain ⟨j,i,hj,hi,g1,_,g3,g4⟩:=h.at_ hn hf
 rw [e,if_neg hf,g1,Int.toNat_natCast,List.getD_eq_getElem?_getD,List.getElem?_eq_getElem hj]
 have h5:l[j]=rl[k]:=nm_inj hn (List.getElem_mem hj) (h.perm.mem_iff.1 (List.getElem_mem hk)) g4
 rw [← h5]
 rfl
section
variable {B:Nat} {a:DA} {x:HA} {y:WA} {q gr T N st:Nat} {l rl:List (List Nat × Nat)} {w:World}
theorem is_any (h:RgW B a x y q gr T N st l w) (hrl:RLk l rl) (A:Option Addr) (n c:Nat) (hr:Reads w w.heap.size 2 A n (itCells rl)) (nm:ByteArray) :
  Calls Tryz.prog 63 #[.pointer (some ⟨gr,0,none⟩), .iface 59 (.pointer (some ⟨y.d,0,none⟩)), .agg #[.int .u64 (st:Int), .slice A n c], .string nm] w fun e w'=>e = .returned (.bool true)∧Below w.heap.size w w':=by
 have hok:=h.ok
 have hl0:rl.length=n:=by have:=hr.1;rw [itCells_len] at this;omega
 have hll:=hrl.perm.length_eq
 have h8:=hok.len
 obtain ⟨W1,hW1⟩:∃ W1,w.alloc (.cells #[.int .u64 (st:Int), .slice A n c] 130)=W1:=⟨_,rfl⟩
 have hb1:Below w.heap.size w W1:=by rw [← hW1];exact (Below.refl _ _).alloc (Nat.le_refl _) _
 have hk1:Blk W1 w.heap.size 130 #[.int .u64 (st:Int), .slice A n c]:=by rw [← hW1];exact Blk.new _ _ _
 have HX1:=hid (h.below hb1)
 have HR1:=hid ((hr.below hb1).more hb1.size)
 have HB1:=hid hb1
 have HW1:=hid hW1
 have HK1:=hid hk1
 have HLi:Hid (Calls Tryz.prog 147 #[.pointer (some ⟨gr,0,none⟩), .iface 59 (.pointer (some ⟨y.d,0,none⟩))] W1 fun e w'=>(∃ A1 c1,e = .returned (.slice A1 n c1)∧Hid (Reads w' w'.heap.size 2 A1 n (itCells rl)))∧Below W1.heap.size W1 w'):=hid (HX1.out.list.mono (fun e w' h=>by
  obtain ⟨A1,m,c1,l',he,hs,ho,hb⟩:=h
  have e1:=hs.eq hok.nd hrl
  subst e1
  have hm:m=n:=by
   have h1:=ho.1
   rw [itCells_len] at h1
   omega
  subst hm
  exact ⟨⟨A1,c1,he,hid (Reads.of_own ho)⟩,hb⟩))
 have HGa:Hid (∀ k (hk:k < rl.length),getR (strN (rl[k]).1) (some (st,l),0)=((rl[k]).2,0)):=hid (fun k hk=>hrl.get_at hok.nd hk)
 have HGn:Hid (getR nm (some (st,l),0)=rfG nm rl):=hid (hrl.get hok.nd nm)
 have HMn:Hid (minL st l=minL st rl):=hid (hrl.min_ st).symm
 have HL:=hid hl0
 have hn100:n≤8:=by omega
 have d5:((n:Int) != (n:Int))=false:=by rw [bne,beq_self_eq_true];rfl
 have d6:((st:Int) != (st:Int))=false:=by rw [bne,beq_self_eq_true];rfl
 clear h hrl hr hok hl0 hll h8 hb1 hk1 hW1
 go_enter Tryz.func63,Tryz.ntmps63
 go_upto_region 1 with fail
 rw [HW1.out]
 go_upto_region 2 with (go_at_call 147;refine HLi.out.mono ?_;rintro e w2 ⟨⟨A1,c1,rfl,hR2⟩,hb2⟩;have HB2:=hid hb2;clear hb2)
 have HX2:=hid (HX1.out.below HB2.out)
 have HRl:=hid ((HR1.out.below HB2.out).more HB2.out.size)
 have HK2:=hid (HK1.out.below HB2.out HK1.out.lt)
 have HG:Hid (∀ W,Below w2.heap.size w2 W→W.cell? ⟨w.heap.size,0,none⟩=some (.int .u64 (st:Int))∧W.cell? ⟨w.heap.size,1,none⟩=some (.slice A n c)):=hid (fun W hW=>⟨(HK2.out.below hW HK2.out.lt).cell 0,(HK2.out.below hW HK2.out.lt).cell 1⟩)
 have HSt:Hid (∀ W,Below w2.heap.size w2 W→Calls Tryz.prog 145 #[.pointer (some ⟨gr,0,none⟩), .iface 59 (.pointer (some ⟨y.d,0,none⟩))] W fun e w'=>e = .returned (.int .u64 (st:Int))∧Below W.heap.size W w'):=hid (fun W hW=>(HX2.out.below hW).stamp)
 obtain ⟨mn,hmn⟩:∃ mn,minL st rl=mn:=⟨_,rfl⟩
 have HOl:Hid (∀ W,Below w2.heap.size w2 W→Calls Tryz.prog 148 #[.pointer (some ⟨gr,0,none⟩), .iface 59 (.pointer (some ⟨y.d,0,none⟩))] W fun e w'=>e = .returned (.int .u64 (mn:Int))∧Below W.heap.size W w'):=hid (fun W hW=>by
  have h1:=(HX2.out.below hW).oldest
  rw [HMn.out,hmn] at h1
  exact h1)
 have HRo:Hid (∀ W,Below w2.heap.size w2 W→Calls Tryz.prog 154 #[.agg #[.int .u64 (st:Int), .slice A n c]] W fun e w'=>e = .returned (.int .u64 (mn:Int))∧Below W.heap.size W w'):=hid (fun W hW=>by
  have h1:=refOldest_any st A n c rl W ((HRl.out.below hW).more hW.size) (by omega)
  rw [hmn] at h1
  exact h1)
 have d7:((mn:Int) != (mn:Int))=false:=by rw [bne,beq_self_eq_true];rfl
 clear hmn
 go_cut [42] from 21 to 42 (fun v wx=>v = .bool false∧Hid (Below w2.heap.size w2 wx))
 case first =>
  refine wp_region_scriptH (fun w'=>Below w2.heap.size w2 w') 22 [] [(1,0),(1,1),(1,2),(1,3),(1,4),(1,5),(1,6),(1,7),(1,8),(1,10),(1,11),(0,9),(1,12),(1,13),(1,14),(1,15),(1,16),(1,18),(0,17),(0,19),(1,20),(1,21)] (by kernel_rfl) (by kernel_rfl) ((Below.refl _ _).drew) ?_
  refine wpScriptH_take (.slice A1 n c1) (by rfl) (by rfl) (fun w' hS=>?_) ?_
  ·go_simp
  simp only [zA,zB,Act.put,zD,zE,zF]
  refine wpScriptH_take (.int .i64 (n:Int)) (by rfl) (by rfl) (fun w' hS=>?_) ?_
  ·go_simp
  simp only [zA,zB,zC,Act.put,zD,zE,zF]
  refine wpScriptH_take (.pointer (some ⟨w.heap.size,1,none⟩)) (by rfl) (by rfl) (fun w' hS=>?_) ?_
  ·go_simp
  simp only [zA,zB,zC,Act.put,zD,zE,zF]
  refine wpScriptH_take (.slice A n c) (by rfl) (by rfl) (fun w' hS=>?_) ?_
  ·obtain ⟨s0,s1⟩:=HG.out _ hS
   go_simp
  simp only [zA,zB,zC,Act.put,zD,zE,zF]
  refine wpScriptH_take (.int .i64 (n:Int)) (by rfl) (by rfl) (fun w' hS=>?_) ?_
  ·go_simp
  simp only [zA,zB,zC,Act.put,zD,zE,zF]
  refine wpScriptH_take (.bool false) (by rfl) (by rfl) (fun w' hS=>?_) ?_
  ·go_simp
  simp only [zA,zB,zC,Act.put,zD,zE,zF]
  refine wpScriptH_take (.bool false) (by rfl) (by rfl) (fun w' hS=>?_) ?_
  ·go_simp
  simp only [zA,zB,zC,Act.put,zD,zE,zF]
  refine wpScriptH_take (.pointer (some ⟨gr,0,none⟩)) (by rfl) (by rfl) (fun w' hS=>?_) ?_
  ·go_simp
  simp only [zA,zB,zC,Act.put,zD,zE,zF]
  refine wpScriptH_take (.iface 59 (.pointer (some ⟨y.d,0,none⟩))) (by rfl) (by rfl) (fun w' hS=>?_) ?_
  ·go_simp
  simp only [zA,zB,zC,Act.put,zD,zE,zF]
  refine wpScriptH_take (.pointer (some ⟨w.heap.size,0,none⟩)) (by rfl) (by rfl) (fun w' hS=>?_) ?_
  ·go_simp
  simp only [zA,zB,zC,Act.put,zD,zE,zF]
  refine wpScriptH_take (.int .u64 (st:Int)) (by rfl) (by rfl) (fun w' hS=>?_) ?_
  ·obtain ⟨s0,s1⟩:=HG.out _ hS
   go_simp
  simp only [zA,zB,zC,Act.put,zD,zE,zF]
  refine wpScriptH_do (by rfl) ?_
  go_wp2_with (go_at_call 145;refine (HSt.out _ (Below.refl _ _).drew).mono ?_;rintro e w3 ⟨rfl,hb3⟩;have HB3:Hid (Below w2.heap.size w2 w3):=hid ((Below.refl _ _).drew.trans hb3);clear hb3)
  refine ⟨HB3.out,?_⟩
  refine wpScriptH_take (.bool false) (by rfl) (by rfl) (fun w' hS=>?_) ?_
  ·go_simp
  simp only [zA,zB,zC,Act.put,zD,zE,zF]
  refine wpScriptH_take (.bool false) (by rfl) (by rfl) (fun w' hS=>?_) ?_
  ·go_simp
  simp only [zA,zB,zC,Act.put,zD,zE,zF]
  refine wpScriptH_take (.bool false) (by rfl) (by rfl) (fun w' hS=>?_) ?_
  ·go_simp
  simp only [zA,zB,zC,Act.put,zD,zE,zF]
  refine wpScriptH_take (.pointer (some ⟨gr,0,none⟩)) (by rfl) (by rfl) (fun w' hS=>?_) ?_
  ·go_simp
  simp only [zA,zB,zC,Act.put,zD,zE,zF]
  refine wpScriptH_take (.iface 59 (.pointer (some ⟨y.d,0,none⟩))) (by rfl) (by rfl) (fun w' hS=>?_) ?_
  ·go_simp
  simp only [zA,zB,zC,Act.put,zD,zE,zF]
  refine wpScriptH_take (.agg #[.int .u64 (st:Int), .slice A n c]) (by rfl) (by rfl) (fun w' hS=>?_) ?_
  ·obtain ⟨s0,s1⟩:=HG.out _ hS
   go_simp
  simp only [zA,zB,zC,Act.put,zD,zE,zF]
  refine wpScriptH_do (by rfl) ?_
  go_wp2_with (go_at_call 148;refine (HOl.out _ HB3.out).mono ?_;rintro e w4 ⟨rfl,hb4⟩;have HB4:Hid (Below w2.heap.size w2 w4):=hid (HB3.out.trans (hb4.mono HB3.out.size));clear hb4)
  refine ⟨HB4.out,?_⟩
  refine wpScriptH_do (by rfl) ?_
  go_wp2_with (go_at_call 154;refine (HRo.out _ HB4.out).mono ?_;rintro e w5 ⟨rfl,hb5⟩;have HB5:Hid (Below w2.heap.size w2 w5):=hid (HB4.out.trans (hb5.mono HB4.out.size));clear hb5)
  refine ⟨HB5.out,?_⟩
  refine wpScriptH_take (.bool false) (by rfl) (by rfl) (fun w' hS=>?_) ?_
  ·go_simp
  simp only [zA,zB,zC,Act.put,zD,zE,zF]
  refine wpScriptH_take (.bool false) (by rfl) (by rfl) (fun w' hS=>?_) ?_
  ·go_simp
  simp only [zA,zB,zC,Act.put,zD,zE,zF]
  show wpList _ _ _ _ _ _
  simp only [List.drop_succ_cons,List.drop_zero]
  refine NoPanic.normal ?_
  go_wp2_with fail
  go_meet
  exact ⟨rfl,HB5⟩
 case rest =>
 obtain ⟨rfl,HBx⟩:=hcut
 clear HSt HOl HRo d7 HMn
 have HXx:=hid (HX2.out.below HBx.out)
 have HRx:=hid (HRl.out.below HBx.out)
 have HR2x:=hid (hR2.out.below HBx.out)
 have HKx:=hid (HG.out _ HBx.out)
 obtain ⟨e0,e1⟩:=HKx.out
 have HBBx:Hid (Below w.heap.size w wc):=hid (HB1.out.trans ((HB2.out.trans (HBx.out.mono HB2.out.size)).mono HB1.out.size))
 have HI0:Hid (Below wc.heap.size wc wc):=hid (Below.refl _ _)
 have hAn:w2.heap.size≤wc.heap.size:=HBx.out.size
 go_wp2_with fail
 go_loopw [46] (fun vi wi=>∃ k:Nat,k≤n∧vi = .int .i64 (k:Int)∧Hid (Below wc.heap.size wc wi)) (fun vi _=>n - (Go.RowKit.intOf vi).toNat)
 case atStart=>exact ⟨0,Nat.zero_le _,rfl,HI0⟩
 case round =>
  clear HI0
  obtain ⟨k,hk,rfl,HI⟩:=hrel
  by_cases hlt:k < n
  ·obtain ⟨hkl,gb,go,hA3,hgb,f0,f1⟩:=it_facts ((HRx.out.more hAn).below HI.out) (k:=k) hlt
   subst hA3
   obtain ⟨_,gb1,go1,hA4,hgb1,f2,f3⟩:=it_facts ((HR2x.out.more hAn).below HI.out) (k:=k) hlt
   subst hA4
   have HGk:=hid (HGa.out k hkl)
   generalize rl[k]=p at *
   obtain ⟨pn,pv⟩:=p
   dsimp only at f0 f1 f2 f3 HGk
   have hz5:(0:Int)≤(k:Int):=by omega
   have hz6:(k:Int) < (n:Int):=by omega
   obtain ⟨W3,hW3⟩:∃ W3,wr.alloc (.cells #[.string (strN pn), .int .u64 (pv:Int)] 261)=W3:=⟨_,rfl⟩
   have hb3:Below wr.heap.size wr W3:=by rw [← hW3];exact (Below.refl _ _).alloc (Nat.le_refl _) _
   have hk3:Blk W3 wr.heap.size 261 #[.string (strN pn), .int .u64 (pv:Int)]:=by rw [← hW3];exact Blk.new _ _ _
   have HW3:=hid hW3
   have HB3:=hid (HI.out.trans (hb3.mono HI.out.size))
   have HK3:=hid hk3
   have HGt:=hid ((HXx.out.below HB3.out).get (strN pn))
   rw [HGk.out] at HGt
   have h30:=hk3.cell 0
   have q2:gb1 < wr.heap.size:=by have:=HI.out.size;omega
   have HF2:=hid ((hb3.cell (p:=⟨gb1,go1+k * 2,none⟩) q2).trans f2)
   have HF3:=hid ((hb3.cell (p:=⟨gb1,go1+k * 2+1,none⟩) q2).trans f3)
   clear hW3 hb3 hk3
   go_upto_region 7 with fail
   rw [HW3.out]
   go_upto_region 8 with (go_at_call 155;refine HGt.out.mono ?_;rintro e w4 ⟨rfl,hb4⟩;have HB4:=hid hb4;clear hb4)
   have g0:=(HK3.out.below HB4.out HK3.out.lt).cell 0
   have g1:=(HK3.out.below HB4.out HK3.out.lt).cell 1
   have q3:gb1 < W3.heap.size:=Nat.lt_of_lt_of_le q2 (by rw [← HW3.out];simp)
   have g2:=(HB4.out.cell (p:=⟨gb1,go1+k * 2,none⟩) q3).trans HF2.out
   have g3:=(HB4.out.cell (p:=⟨gb1,go1+k * 2+1,none⟩) q3).trans HF3.out
   have HB5:=hid (HB3.out.trans (HB4.out.mono HB3.out.size))
   have d1:((strN pn).toList == (strN pn).toList)=true:=beq_self_eq_true _
   have d2:((pv:Int) != (pv:Int))=false:=by rw [bne,beq_self_eq_true];rfl
   clear HF2 HF3 f0 f1 f2 f3 h30 HGt
   refine wp_region_scriptH (fun w'=>w'=w4.drew) 28 [] [(1,0),(1,1),(1,2),(1,3),(1,4),(1,5),(1,6),(1,7),(1,8),(1,9),(1,10),(1,11),(1,12),(1,13),(1,14),(1,15),(1,16),(1,17),(1,18),(1,19),(1,20),(1,21),(1,22),(1,23),(1,24),(1,25),(1,26),(1,27)] (by kernel_rfl) (by kernel_rfl) rfl ?_
   refine wpScriptH_take (.slice (some ⟨gb1,go1,none⟩) n c1) (by rfl) (by rfl) (fun w' hS=>?_) ?_
   ·go_simp
   simp only [zA,zB,Act.put,zD,zE,zF]
   refine wpScriptH_take (.int .i64 (k:Int)) (by rfl) (by rfl) (fun w' hS=>?_) ?_
   ·go_simp
   simp only [zA,zB,zC,Act.put,zD,zE,zF]
   refine wpScriptH_take (.pointer (some ⟨gb1,go1+k * 2,none⟩)) (by rfl) (by rfl) (fun w' hS=>?_) ?_
   ·go_simp
   simp only [zA,zB,zC,Act.put,zD,zE,zF]
   refine wpScriptH_take (.pointer (some ⟨gb1,go1+k * 2,none⟩)) (by rfl) (by rfl) (fun w' hS=>?_) ?_
   ·go_simp
   simp only [zA,zB,zC,Act.put,zD,zE,zF]
   refine wpScriptH_take (.string (strN pn)) (by rfl) (by rfl) (fun w' hS=>?_) ?_
   ·subst hS
    go_simp
   simp only [zA,zB,zC,Act.put,zD,zE,zF]
   refine wpScriptH_take (.pointer (some ⟨wr.heap.size,0,none⟩)) (by rfl) (by rfl) (fun w' hS=>?_) ?_
   ·go_simp
   simp only [zA,zB,zC,Act.put,zD,zE,zF]
   refine wpScriptH_take (.string (strN pn)) (by rfl) (by rfl) (fun w' hS=>?_) ?_
   ·subst hS
    go_simp
   simp only [zA,zB,zC,Act.put,zD,zE,zF]
   refine wpScriptH_take (.bool false) (by rfl) (by rfl) (fun w' hS=>?_) ?_
   ·go_simp
   simp only [zA,zB,zC,Act.put,zD,zE,zF]
   refine wpScriptH_take (.bool false) (by rfl) (by rfl) (fun w' hS=>?_) ?_
   ·go_simp
   simp only [zA,zB,zC,Act.put,zD,zE,zF]
   refine wpScriptH_take (.slice (some ⟨gb1,go1,none⟩) n c1) (by rfl) (by rfl) (fun w' hS=>?_) ?_
   ·go_simp
   simp only [zA,zB,zC,Act.put,zD,zE,zF]
   refine wpScriptH_take (.int .i64 (k:Int)) (by rfl) (by rfl) (fun w' hS=>?_) ?_
   ·go_simp
   simp only [zA,zB,zC,Act.put,zD,zE,zF]
   refine wpScriptH_take (.pointer (some ⟨gb1,go1+k * 2,none⟩)) (by rfl) (by rfl) (fun w' hS=>?_) ?_
   ·go_simp
   simp only [zA,zB,zC,Act.put,zD,zE,zF]
   refine wpScriptH_take (.pointer (some ⟨gb1,go1+k * 2+1,none⟩)) (by rfl) (by rfl) (fun w' hS=>?_) ?_
   ·go_simp
   simp only [zA,zB,zC,Act.put,zD,zE,zF]
   refine wpScriptH_take (.int .u64 (pv:Int)) (by rfl) (by rfl) (fun w' hS=>?_) ?_
   ·subst hS
    go_simp
   simp only [zA,zB,zC,Act.put,zD,zE,zF]
   refine wpScriptH_take (.pointer (some ⟨wr.heap.size,1,none⟩)) (by rfl) (by rfl) (fun w' hS=>?_) ?_
   ·go_simp
   simp only [zA,zB,zC,Act.put,zD,zE,zF]
   refine wpScriptH_take (.int .u64 (pv:Int)) (by rfl) (by rfl) (fun w' hS=>?_) ?_
   ·subst hS
    go_simp
   simp only [zA,zB,zC,Act.put,zD,zE,zF]
   refine wpScriptH_take (.bool false) (by rfl) (by rfl) (fun w' hS=>?_) ?_
   ·go_simp
   simp only [zA,zB,zC,Act.put,zD,zE,zF]
   refine wpScriptH_take (.bool false) (by rfl) (by rfl) (fun w' hS=>?_) ?_
   ·go_simp
   simp only [zA,zB,zC,Act.put,zD,zE,zF]
   refine wpScriptH_take (.bool false) (by rfl) (by rfl) (fun w' hS=>?_) ?_
   ·go_simp
   simp only [zA,zB,zC,Act.put,zD,zE,zF]
   refine wpScriptH_take (.int .i64 0) (by rfl) (by rfl) (fun w' hS=>?_) ?_
   ·go_simp
   simp only [zA,zB,zC,Act.put,zD,zE,zF]
   refine wpScriptH_take (.bool false) (by rfl) (by rfl) (fun w' hS=>?_) ?_
   ·go_simp
   simp only [zA,zB,zC,Act.put,zD,zE,zF]
   refine wpScriptH_take (.bool false) (by rfl) (by rfl) (fun w' hS=>?_) ?_
   ·go_simp
   simp only [zA,zB,zC,Act.put,zD,zE,zF]
   refine wpScriptH_take (.bool false) (by rfl) (by rfl) (fun w' hS=>?_) ?_
   ·go_simp
   simp only [zA,zB,zC,Act.put,zD,zE,zF]
   refine wpScriptH_take (.int .u64 (pv:Int)) (by rfl) (by rfl) (fun w' hS=>?_) ?_
   ·go_simp
   simp only [zA,zB,zC,Act.put,zD,zE,zF]
   refine wpScriptH_take (.pointer (some ⟨wr.heap.size,1,none⟩)) (by rfl) (by rfl) (fun w' hS=>?_) ?_
   ·go_simp
   simp only [zA,zB,zC,Act.put,zD,zE,zF]
   refine wpScriptH_take (.int .u64 (pv:Int)) (by rfl) (by rfl) (fun w' hS=>?_) ?_
   ·subst hS
    go_simp
   simp only [zA,zB,zC,Act.put,zD,zE,zF]
   refine wpScriptH_take (.bool false) (by rfl) (by rfl) (fun w' hS=>?_) ?_
   ·go_simp
   simp only [zA,zB,zC,Act.put,zD,zE,zF]
   refine wpScriptH_take (.bool false) (by rfl) (by rfl) (fun w' hS=>?_) ?_
   ·go_simp
   simp only [zA,zB,zC,Act.put,zD,zE,zF]
   show wpList _ _ _ _ _ _
   simp only [List.drop_succ_cons,List.drop_zero]
   refine NoPanic.normal ?_
   have HB6:Hid (Below wc.heap.size wc w4.drew):=hid HB5.out.drew
   clear g0 g1 g2 g3 d1 d2
   go_wp2_with fail
   go_roundw
   case rel =>
    first
     | exact ⟨k+1,by omega,by go_num,HB6⟩
     | (
       repeat apply Exists.intro
       refine ⟨?_,rfl⟩
       exact ⟨k+1,by omega,by go_num,HB6⟩)
   case measure=>simp [Go.RowKit.intOf];omega
  ·obtain rfl:k=n:=by omega
   have HXe:=hid (HXx.out.below HI.out)
   have HGe:=hid (HXe.out.get nm)
   rw [HGn.out] at HGe
   have HRe:=hid (fun (W:World) (hW:Below wr.heap.size wr W)=>refGet_any st A k c rl nm W ((((HRx.out.more hAn).below HI.out).more HI.out.size).below hW |>.more hW.size) (by omega))
   have HKe:=hid (fun (W:World) (hW:Below wr.heap.size wr W)=>HG.out W (HBx.out.trans ((HI.out.trans (hW.mono HI.out.size)).mono hAn)))
   generalize rfG nm rl=Y at *
   obtain ⟨rv,rc⟩:=Y
   clear e0 e1
   have d1:((rc:Int) == (rc:Int))=true:=beq_self_eq_true _
   have d2:((rv:Int) == (rv:Int))=true:=beq_self_eq_true _
   go_upto_region 12 with (go_at_call 155;refine HGe.out.mono ?_;rintro e w6 ⟨rfl,hb6⟩;have HB6:=hid hb6;clear hb6)
   obtain ⟨k0,k1⟩:=HKe.out _ HB6.out
   have HRf:=hid (HRe.out _ HB6.out)
   have HBz:Hid (Below w.heap.size w w6):=hid (HBBx.out.trans ((HI.out.trans (HB6.out.mono HI.out.size)).mono HBBx.out.size))
   clear HRe HKe HGe
   go_wp2_with (go_at_call 156;refine HRf.out.mono ?_;rintro e w7 ⟨rfl,hb7⟩;have HB7:=hid hb7;clear hb7)
   go_ret
   exact ⟨rfl,HBz.out.trans (HB7.out.mono HBz.out.size)⟩
end
end
end Go.Proofs.YtfkjjoglnmeciaaGreatDoor
