/- The walks and laws that the claim leans on, part 24. -/
import Derived.Test.YtfkjjoglnmeciaaGreatDoorJat
import Derived.Test.YtfkjjoglnmeciaaGreatDoorJav
import Derived.Test.YtfkjjoglnmeciaaGreatDoorJaw
set_option maxRecDepth 100000
set_option maxHeartbeats 16000000
namespace Go.Proofs.YtfkjjoglnmeciaaGreatDoor
open Go.Lib (hid)
section
open Go.RowKit
theorem mask_low (x:Nat) (h:x < 18446744073709551616):bits .and .u64 (x:Int) 4294967295=((x % 4294967296:Nat):Int):=by
 have h1:=u64_and_nat x 4294967295 h (by omega)
 rw [show ((4294967295:Nat):Int)=4294967295 from rfl] at h1
 rw [h1,show (4294967295:Nat)=2 ^ 32 - 1 from rfl,Nat.and_two_pow_sub_one_eq_mod]
theorem aheadDLoad (p : Addr) (w : World) : (nilAhead 640 59 (.pointer (some p)) "Load").run Tryz.prog w = .ok (some false) w := by kernel_rfl
section
variable {a:DA} {L T:Nat} {w:World} {S:Fp} {cur:Nat→Nat} {F:Nat} {d g r:Nat}
theorem within_blob (h:Dev a L T w S cur F) (hB:Blk w d 240 (dirCells a g r)) (p k:Nat) (hp0:p≠0) (hk:k < 60) (bp bs:Nat) (hc:w.cell? ⟨bp,0,none⟩=some (.int .u64 (p:Int))) (hs:w.cell? ⟨bs,0,none⟩=some (dirV d)) :
  Calls Tryz.prog 308 #[.int .i64 (k:Int), .pointer (some ⟨bp,0,none⟩), .pointer (some ⟨bs,0,none⟩)] w fun e w'=>e = .returned (.bool (decide (pOff p+8 * k+8≤64 * L)))∧Below w.heap.size w w':=by
 have hL:L≤4096:=by obtain ⟨ls,exe,per,cs,lsC,hdc,hnt⟩:=h;exact hdc.hL
 have HAt:=hid (at_any p k (by omega))
 have e1:pAt p k=pOff p+8 * k:=by unfold pAt;rw [if_neg (by omega)]
 have ho:pOff p≤34359738360:=by unfold pOff;omega
 rw [e1] at HAt
 have HSz:Hid (∀ W,W=w.drew→Calls Tryz.prog 436 #[.pointer (some ⟨d,0,none⟩)] W (fun e w'=>e = .returned (.int .u64 ((64 * L:Nat):Int))∧W=w')):=hid (fun W hW=>by subst hW;exact sizeD (h.below (Below.refl _ _).drew) hB.drew)
 have hm:=methDSize (some ⟨d,0,none⟩)
 obtain ⟨z,hz⟩:∃ z,pOff p+8 * k=z:=⟨_,rfl⟩
 obtain ⟨m,hm2⟩:∃ m,64 * L=m:=⟨_,rfl⟩
 rw [hz] at HAt ⊢
 rw [hm2] at HSz ⊢
 have hzb:z≤40000000000:=by omega
 have hmb:m≤300000:=by omega
 clear e1 ho hz hm2 h hB hL
 unfold dirV at *
 go_enter Tryz.func308,Tryz.ntmps308
 go_wp2_with fail
 refine wp_region_scriptH (fun w'=>w'=w.drew) 5 [] [(1,0),(1,1),(1,3),(0,2),(0,4)] (by kernel_rfl) (by kernel_rfl) rfl ?_
 refine wpScriptH_take (.int .u64 (p:Int)) (by rfl) (by rfl) (fun w' hS=>?_) ?_
 ·subst hS
  go_simp
 simp only [zA,zB,Act.put,zD,zE,zF]
 refine wpScriptH_take (.int .i64 (k:Int)) (by rfl) (by rfl) (fun w' hS=>?_) ?_
 ·go_simp
 simp only [zA,zB,zC,Act.put,zD,zE,zF]
 refine wpScriptH_take (.iface 59 (.pointer (some ⟨d,0,none⟩))) (by rfl) (by rfl) (fun w' hS=>?_) ?_
 ·subst hS
  go_simp
 simp only [zA,zB,zC,Act.put,zD,zE,zF]
 refine wpScriptH_do (by rfl) ?_
 go_wp2_with (go_at_call 49;refine (HAt.out _).mono ?_;rintro e w1 ⟨rfl,rfl⟩)
 refine ⟨rfl,?_⟩
 refine wpScriptH_do (by rfl) ?_
 go_wp2_with (go_at_call 436;refine (HSz.out _ rfl).mono ?_;rintro e w1 ⟨rfl,rfl⟩)
 refine ⟨rfl,?_⟩
 show wpList _ _ _ _ _ _
 simp only [List.drop_succ_cons,List.drop_zero]
 by_cases c1:z < m
 ·have u1:IntKind.u64.wrap ((m:Int) - (z:Int))=((m - z:Nat):Int):=by rw [IntKind.wrap_u64];omega
  have d2:decide ((8:Int)≤((m - z:Nat):Int))=decide (z+8≤m):=decide_eq_decide.2 (by omega)
  have d1:decide ((z:Int) < (m:Int))=true:=decide_eq_true (by omega)
  generalize m - z=q at *
  go_wp2
  refine NoPanic.normal ?_
  go_wp2
  go_ret
  refine ⟨?_,(Below.refl _ _).drew⟩
  first | rfl | rw [d2] | simp [d2]
 ·have d1:decide ((z:Int) < (m:Int))=false:=decide_eq_false (by omega)
  have d2:decide (z+8≤m)=false:=decide_eq_false (by omega)
  go_wp2
  refine NoPanic.normal ?_
  go_wp2
  go_ret
  refine ⟨?_,(Below.refl _ _).drew⟩
  rw [d2]
  rfl
def ldL (cur:Nat→Nat) (o n k:Nat):List Nat:=(List.range n).map fun j=>if j < k then cur (o+j) else 0
theorem ldL_len (cur:Nat→Nat) (o n k:Nat):(ldL cur o n k).length=n:=by simp [ldL]
theorem ldL_zero (cur:Nat→Nat) (o n:Nat):ldL cur o n 0=List.replicate n 0:=by
 apply List.ext_getElem
 ·simp [ldL]
 ·intro i h1 h2
  simp [ldL]
theorem ldL_set (cur:Nat→Nat) (o n k:Nat):(ldL cur o n k).set k (cur (o+k))=ldL cur o n (k+1):=by
 apply List.ext_getElem
 ·simp [ldL]
 ·intro i h1 h2
  rw [List.getElem_set]
  simp only [ldL,List.getElem_map,List.getElem_range]
  by_cases e:k=i
  ·subst e
   rw [if_pos rfl,if_pos (by omega)]
  ·rw [if_neg e]
   by_cases h:i < k
   ·rw [if_pos h,if_pos (by omega)]
   ·rw [if_neg h,if_neg (by omega)]
theorem ldL_end (cur:Nat→Nat) (o n:Nat):ldL cur o n n=(List.range n).map fun j=>cur (o+j):=by
 apply List.ext_getElem
 ·simp [ldL]
 ·intro i h1 h2
  simp only [ldL,List.getElem_map,List.getElem_range]
  rw [if_pos (by simpa [ldL] using h1)]
theorem load_cases (L:Nat) (cur:Nat→Nat) (p:Nat) (c1:¬ 64 * L < pOff p+16) (hv:cur (pOff p / 8+1) < 18446744073709551616) (_hL:L≤4096):∃ (v rest hi:Nat),cur (pOff p / 8+1)=v∧bits .and .u64 (v:Int) 4294967295=(rest:Int)∧(v:Int) / 4294967296=(hi:Int)∧rest < 4294967296 ∧
  ((loadR L cur p=none∧((rest:Int) != (hi:Int))=true)∨(loadR L cur p=none∧((rest:Int) != (hi:Int))=false∧decide ((2000:Int) < (rest:Int))=true) ∨
   ∃ n1 n:Nat,((rest:Int) != (hi:Int))=false∧decide ((2000:Int) < (rest:Int))=false∧rest≤2000∧bSize rest=n1∧(n1:Int) - 1=(n:Int)∧n < 60∧n1≤60∧wrap64 (n:Int)=(n:Int) ∧
    ((decide (pOff p+8 * n+8≤64 * L)=false∧loadR L cur p=none)∨(decide (pOff p+8 * n+8≤64 * L)=true∧loadR L cur p=some ((List.range n1).map fun j=>cur (pOff p / 8+j),rest)∧∀ k,k < n1→pOff p+8 * k+8≤64 * L))):=by
 obtain ⟨v,e⟩:∃ v,cur (pOff p / 8+1)=v:=⟨_,rfl⟩
 rw [e] at hv
 refine ⟨v,v % 4294967296,v / 4294967296,e,mask_low v hv,by omega,by omega,?_⟩
 have hR:loadR L cur p=if v % 4294967296≠v / 4294967296∨2000 < v % 4294967296 then none else if 64 * L < pOff p+8 * bSize (v % 4294967296) then none else some ((List.range (bSize (v % 4294967296))).map fun j=>cur (pOff p / 8+j),v % 4294967296):=by
  unfold loadR
  rw [if_neg c1,e]
 generalize v / 4294967296=hi at *
 generalize v % 4294967296=rest at *
 by_cases c3:rest=hi
 ·have d1:((rest:Int) != (hi:Int))=false:=by rw [bne,beq_iff_eq.2 (by omega)];rfl
  by_cases c4:2000 < rest
  ·exact .inr (.inl ⟨by rw [hR,if_pos (.inr c4)],d1,decide_eq_true (by omega)⟩)
  ·rw [if_neg (by omega)] at hR
   obtain ⟨h3,h60⟩:=bSize_le rest
   obtain ⟨n,hn⟩:∃ n,bSize rest=n+1:=⟨bSize rest - 1,by omega⟩
   refine .inr (.inr ⟨n+1,n,d1,decide_eq_false (by omega),by omega,hn,by omega,by omega,by omega,IntWalk.wrap64_in _ (by omega),?_⟩)
   rw [hn] at hR
   by_cases c5:64 * L < pOff p+8 * (n+1)
   ·exact .inl ⟨decide_eq_false (by omega),by rw [hR,if_pos c5]⟩
   ·exact .inr ⟨decide_eq_true (by omega),by rw [hR,if_neg c5],fun k hk=>by omega⟩
 ·exact .inl ⟨by rw [hR,if_pos (.inl c3)],by rw [bne,beq_eq_false_iff_ne.2 (by omega)];rfl⟩
def RetLd (w:World) (o:Option (List Nat × Nat)) (e:Ending) (w':World):Prop:=match o with
 | none=>e = .returned (.tuple #[.slice none 0 0, .int .i64 0, .int .i64 11])∧Below w.heap.size w w'
 | some (l,rest)=>∃ g,e = .returned (.tuple #[.slice (some ⟨g,0,none⟩) l.length l.length, .int .i64 (rest:Int), .int .i64 0])∧Blk w' g 32 (uA l)∧w.heap.size≤g∧Below w.heap.size w w'
theorem bload_any (h:Dev a L T w S cur 0) (hB:Blk w d 240 (dirCells a g r)) (hpy:Pay w) (hbn:∀ i,cur i < 18446744073709551616) (p:Nat) (hp0:p≠0) (_hp64:p < 18446744073709551616) :
  Calls Tryz.prog 222 #[dirV d, .int .u64 (p:Int)] w (RetLd w (loadR L cur p)):=by
 have hL:L≤4096:=by obtain ⟨ls,exe,per,cs,lsC,hdc,hnt⟩:=h;exact hdc.hL
 have hb0:Below w.heap.size w ((w.alloc (.cells #[dirV d] 83)).alloc (.cells #[.int .u64 (p:Int)] 54)):=((Below.refl _ _).alloc (Nat.le_refl _) _).alloc (by simp) _
 have HB0:=hid hb0
 have HS:=hid ((Blk.new w 83 #[dirV d]).alloc (.cells #[.int .u64 (p:Int)] 54))
 have esz:(w.alloc (.cells #[dirV d] 83)).heap.size=w.heap.size+1:=by simp
 have HP:Hid (Blk ((w.alloc (.cells #[dirV d] 83)).alloc (.cells #[.int .u64 (p:Int)] 54)) (w.heap.size+1) 54 #[.int .u64 (p:Int)]):=hid (by
  have:=Blk.new (w.alloc (.cells #[dirV d] 83)) 54 #[.int .u64 (p:Int)]
  rw [esz] at this
  exact this)
 have HD:=hid h
 have HBB:=hid hB
 have HPy:=hid hpy
 have HWt:Hid (∀ (W:World) (k:Nat),k < 60→Below w.heap.size w W→W.cell? ⟨w.heap.size,0,none⟩=some (dirV d)→W.cell? ⟨w.heap.size+1,0,none⟩=some (.int .u64 (p:Int))→Calls Tryz.prog 308 #[.int .i64 (k:Int), .pointer (some ⟨w.heap.size+1,0,none⟩), .pointer (some ⟨w.heap.size,0,none⟩)] W fun e w'=>e = .returned (.bool (decide (pOff p+8 * k+8≤64 * L)))∧Below W.heap.size W w'):=hid (fun W k hk hW h1 h2=>by
  have h5:=within_blob (h.below hW) (hB.below hW hB.lt) p k hp0 hk (w.heap.size+1) w.heap.size h2 h1
  exact h5)
 have hmf:∀ (fn:Fn) (first cap:Array Value) (w:World),(Instr.makeFunc fn first cap).run Tryz.prog w = .ok (.func fn first cap) w:=fun _ _ _ _=>rfl
 have hmE:=methDErr (some ⟨d,0,none⟩)
 have hmL:=methDLoad (some ⟨d,0,none⟩)
 have hna:=aheadDLoad ⟨d,0,none⟩
 clear h hB hpy hb0 esz
 unfold dirV at *
 go_enter Tryz.func222,Tryz.ntmps222
 go_upto_region 2 with fail
 have hS0:=HS.out.cell 0
 have hP0:=HP.out.cell 0
 generalize hW0:(w.alloc (.cells #[.iface 59 (.pointer (some ⟨d,0,none⟩))] 83)).alloc (.cells #[.int .u64 (p:Int)] 54)=W0 at *
 clear hW0
 have hpo8:pOff p % 8=0:=by unfold pOff;omega
 have hpo9:pOff p≤34359738360:=by unfold pOff;omega
 have HAt:Hid (∀ (k:Nat) (W:World),k < 60→Calls Tryz.prog 49 #[.int .u64 (p:Int), .int .i64 (k:Int)] W fun e w'=>e = .returned (.int .u64 ((pOff p+8 * k:Nat):Int))∧W=w'):=hid (fun k W hk=>by
  have h1:=at_any p k (by omega) W
  have h2:pAt p k=pOff p+8 * k:=by unfold pAt;rw [if_neg (by omega)]
  rw [h2] at h1
  exact h1)
 have HRd:Hid (∀ (k:Nat) (W:World),pOff p+8 * k+8≤64 * L→Below w.heap.size w W→Calls Tryz.prog 435 #[.pointer (some ⟨d,0,none⟩), .int .u64 ((pOff p+8 * k:Nat):Int)] W (fun e w'=>e = .returned (.int .u64 (cur (pOff p / 8+k):Int))∧W=w')):=hid (fun k W hk hW=>loadD (HD.out.below hW) (HBB.out.below hW HBB.out.lt) (pOff p+8 * k) _ (by omega) (by omega) (by rw [show (pOff p+8 * k) / 8=pOff p / 8+k by omega]))
 have HEr:Hid (∀ W,Below w.heap.size w W→Calls Tryz.prog 432 #[.pointer (some ⟨d,0,none⟩)] W fun e w'=>e = .returned (.int .i64 0)∧W=w'):=hid (fun W hW=>errD (HD.out.below hW) (HBB.out.below hW HBB.out.lt))
 have HW1:=hid (HWt.out W0 1 (by omega) HB0.out hS0 hP0)
 rw [show ((1:Nat):Int)=1 from rfl] at HW1
 have HFn:Hid (loadR L cur p=none→∀ w',Below w.heap.size w w'→RetLd w (loadR L cur p) (.returned (.tuple #[.slice none 0 0, .int .i64 0, .int .i64 11])) w'):=hid (fun h w' hb=>by rw [h];exact ⟨rfl,hb⟩)
 by_cases c1:64 * L < pOff p+16
 ·have hR:loadR L cur p=none:=by unfold loadR;rw [if_pos c1]
  have HF:=hid (HFn.out hR)
  rw [show decide (pOff p+8 * 1+8≤64 * L)=false from decide_eq_false (by omega)] at HW1
  clear c1 hR
  go_wp2_with (go_at_call 308;refine HW1.out.mono ?_;rintro e w1 ⟨rfl,hb1⟩;have HB1:=hid hb1;clear hb1)
  go_ret3
  exact HF.out _ (HB0.out.trans (HB1.out.mono HB0.out.size))
 ·rw [show decide (pOff p+8 * 1+8≤64 * L)=true from decide_eq_true (by omega)] at HW1
  obtain ⟨v,rest,hi,hv,hmk,hdv,hr32,hall⟩:=load_cases L cur p c1 (hbn _) hL
  have HAll:=hid hall
  clear hall
  go_upto_region 4 with (go_at_call 308;refine HW1.out.mono ?_;rintro e w1 ⟨rfl,hb1⟩;have HB1:=hid (HB0.out.trans (hb1.mono HB0.out.size));have HS1:=hid (HS.out.below hb1 HS.out.lt);have HP1:=hid (HP.out.below hb1 HP.out.lt);clear hb1)
  have HL1:=hid (HRd.out 1 w1.drew (by omega) HB1.out.drew)
  rw [hv] at HL1
  have HA1:=hid (HAt.out 1 w1.drew (by omega))
  rw [show ((1:Nat):Int)=1 from rfl] at HA1
  generalize pOff p+8 * 1=o1 at HL1 HA1
  refine wp_region_scriptH (fun w'=>w'=w1.drew) 6 [] [(1,0),(1,1),(1,3),(1,4),(1,5),(0,2)] (by kernel_rfl) (by kernel_rfl) rfl ?_
  refine wpScriptH_take (.iface 59 (.pointer (some ⟨d,0,none⟩))) (by rfl) (by rfl) (fun w' hS=>?_) ?_
  ·subst hS;have f1:w1.cell? ⟨w.heap.size,0,none⟩=some (.iface 59 (.pointer (some ⟨d,0,none⟩))):=HS1.out.cell 0
   go_simp
  simp only [zA,zB,Act.put,zD,zE,zF]
  refine wpScriptH_take (.int .u64 (p:Int)) (by rfl) (by rfl) (fun w' hS=>?_) ?_
  ·subst hS;have f1:w1.cell? ⟨w.heap.size+1,0,none⟩=some (.int .u64 (p:Int)):=HP1.out.cell 0
   go_simp
  simp only [zA,zB,zC,Act.put,zD,zE,zF]
  refine wpScriptH_take (.func (.method "Load") #[.iface 59 (.pointer (some ⟨d, 0, none⟩))] #[]) (by rfl) (by rfl) (fun w' hS => ?_) ?_
  ·go_simp
  simp only [zA,zB,zC,Act.put,zD,zE,zF]
  refine wpScriptH_take (.func (.method "Load") #[.iface 59 (.pointer (some ⟨d, 0, none⟩))] #[]) (by rfl) (by rfl) (fun w' hS => ?_) ?_
  ·go_simp
  simp only [zA,zB,zC,Act.put,zD,zE,zF]
  refine wpScriptH_take (.iface 59 (.pointer (some ⟨d,0,none⟩))) (by rfl) (by rfl) (fun w' hS=>?_) ?_
  ·go_simp
  simp only [zA,zB,zC,Act.put,zD,zE,zF]
  refine wpScriptH_do (by rfl) ?_
  go_wp2_with (go_at_call 49;refine HA1.out.mono ?_;rintro e w2 ⟨rfl,rfl⟩)
  refine ⟨rfl,?_⟩
  show wpList _ _ _ _ _ _
  simp only [List.drop_succ_cons,List.drop_zero]
  go_wp2_with (go_at_call 435;refine HL1.out.mono ?_;rintro e w2 ⟨rfl,rfl⟩)
  refine NoPanic.normal ?_
  have HBd:=hid HB1.out.drew
  have HSd:=hid HS1.out.drew
  have HPd:=hid HP1.out.drew
  clear HL1 HA1 HW1 HB1 HS1 HP1
  generalize w1.drew=w2 at *
  have HE1:=hid (HEr.out w2 HBd.out)
  have f1:w2.cell? ⟨w.heap.size,0,none⟩=some (.iface 59 (.pointer (some ⟨d,0,none⟩))):=HSd.out.cell 0
  go_upto_region 9 with (go_at_call 432;refine HE1.out.mono ?_;rintro e w3 ⟨rfl,rfl⟩)
  rcases HAll.out with ⟨hR,d1⟩ | ⟨hR,d1,d2⟩ | ⟨n1,n,d1,d2,hr2,hn1,e2,hn60,hn1z,e1,hrest⟩
  ·have HF:=hid (HFn.out hR)
   clear hR HAll
   go_wp2
   go_ret3
   exact HF.out _ HBd.out
  ·have HF:=hid (HFn.out hR)
   clear hR HAll
   go_wp2
   go_ret3
   exact HF.out _ HBd.out
  ·have HN6:=hid (And.intro hn60 hn1z)
   have HE1:=hid e1
   have HE2:=hid e2
   have HN1:=hid hn1
   have HRR:=hid hrest
   clear hn60 hn1z e1 e2 hn1 hrest HAll
   go_upto_region 11 with fail
   clear hdv hmk hr32 d1 d2
   have HSz:=hid (bsize_any rest (Nat.le_trans hr2 (by decide)) w2 (HPy.out.below HBd.out))
   rw [HN1.out] at HSz
   have f2:w2.cell? ⟨w.heap.size+1,0,none⟩=some (.int .u64 (p:Int)):=HPd.out.cell 0
   have hWn:=HWt.out w2 n HN6.out.1 HBd.out f1 f2
   have hWn2:Calls Tryz.prog 308 #[.int .i64 (wrap64 (n:Int)), .pointer (some ⟨w.heap.size+1,0,none⟩), .pointer (some ⟨w.heap.size,0,none⟩)] w2 fun e w'=>e = .returned (.bool (decide (pOff p+8 * n+8≤64 * L)))∧Below w2.heap.size w2 w':=by rw [HE1.out];exact hWn
   have HWn:=hid hWn2
   clear hWn hWn2 f2
   have e2:=HE2.out
   rcases HRR.out with ⟨hd,hR⟩ | ⟨hd,hR,hfit⟩
   ·have HF:=hid (HFn.out hR)
    rw [hd] at HWn
    clear hR HRR hd
    go_wp2_with (first
     | (go_at_call 104;refine HSz.out.mono ?_;rintro e w3 ⟨rfl,rfl⟩)
     | (go_at_call 308;refine HWn.out.mono ?_;rintro e w3 ⟨rfl,hb3⟩;have HB3:=hid (HBd.out.trans (hb3.mono HBd.out.size));clear hb3))
    go_ret3
    exact HF.out _ HB3.out
   ·rw [hd] at HWn
    have HR2:=hid hR
    have HFit:=hid hfit
    have hmkS:=makeU n1 (Nat.le_trans HN6.out.2 (by decide))
    rw [show madeCells #[.int .u64 0] n1=uA (ldL cur (pOff p / 8) n1 0) by rw [ldL_zero];apply Array.ext';rw [toList_madeCells_one];unfold uA uCells;simp] at hmkS
    clear hR HRR hd hfit
    go_wp2_with (first
     | (go_at_call 104;refine HSz.out.mono ?_;rintro e w3 ⟨rfl,rfl⟩)
     | (go_at_call 308;refine HWn.out.mono ?_;rintro e w3 ⟨rfl,hb3⟩;have HB3:=hid (HBd.out.trans (hb3.mono HBd.out.size));have HS3:=hid (HSd.out.below hb3 HSd.out.lt);have HP3:=hid (HPd.out.below hb3 HPd.out.lt);clear hb3))
    have hn1z:=HN6.out.2
    have HBk:Hid (Blk (w3.alloc (.cells (uA (ldL cur (pOff p / 8) n1 0)) 32)) w3.heap.size 32 (uA (ldL cur (pOff p / 8) n1 0))):=hid (Blk.new w3 _ _)
    have HB4:Hid (Below w3.heap.size w3 (w3.alloc (.cells (uA (ldL cur (pOff p / 8) n1 0)) 32))):=hid ((Below.refl _ _).alloc (Nat.le_refl _) _)
    go_loopw [53] (fun i wr=>∃ k:Nat,k≤n1∧i = .int .i64 (k:Int)∧Hid (Blk wr w3.heap.size 32 (uA (ldL cur (pOff p / 8) n1 k)))∧Hid (Below w3.heap.size w3 wr)) (fun i _=>n1 - (Go.RowKit.intOf i).toNat)
    case atStart=>exact ⟨0,Nat.zero_le _,rfl,HBk,HB4⟩
    case round =>
     clear HBk HB4
     obtain ⟨k,hk,rfl,HBk,HB4⟩:=hrel
     by_cases hlt:k < n1
     ·have HBl:=hid (HB3.out.trans (HB4.out.mono HB3.out.size))
      have HS4:=hid (HS3.out.below HB4.out HS3.out.lt)
      have HP4:=hid (HP3.out.below HB4.out HP3.out.lt)
      have HL4:=hid (HRd.out k wr.drew (HFit.out k hlt) HBl.out.drew)
      have HA4:=hid (HAt.out k wr.drew (by omega))
      have HNx:Hid (Blk (wr.drew.setCell ⟨w3.heap.size,k,none⟩ (.int .u64 (cur (pOff p / 8+k):Int))) w3.heap.size 32 (uA (ldL cur (pOff p / 8) n1 (k+1)))):=hid (by
       have h1:=HBk.out.drew.set_ k (.int .u64 (cur (pOff p / 8+k):Int))
       rw [uA_set,ldL_set] at h1
       exact h1)
      have HBx:Hid (Below w3.heap.size w3 (wr.drew.setCell ⟨w3.heap.size,k,none⟩ (.int .u64 (cur (pOff p / 8+k):Int)))):=hid (HB4.out.drew.setCell (Nat.le_refl _) _)
      have hz5:(0:Int)≤(k:Int):=by omega
      have hz6:(k:Int) < (n1:Int):=by omega
      have c9:wr.drew.cell? ⟨w3.heap.size,k,none⟩=some (.int .u64 (((ldL cur (pOff p / 8) n1 k)[k]'(by rw [ldL_len];exact hlt):Nat):Int)):=by rw [HBk.out.drew.cell];exact uA_at (by rw [ldL_len];exact hlt)
      have z9:wr.drew.frozen? ⟨w3.heap.size,k,none⟩=false:=HBk.out.drew.frozen k
      generalize (ldL cur (pOff p / 8) n1 k)[k]'(by rw [ldL_len];exact hlt)=old at *
      have hlb:cur (pOff p / 8+k) < 18446744073709551616:=hbn _
      generalize cur (pOff p / 8+k)=vk at *
      generalize pOff p+8 * k=ok at HL4 HA4
      clear HBk HB4
      go_upto_region 18 with fail
      refine wp_region_scriptH (fun w'=>w'=wr.drew) 10 [] [(1,0),(1,1),(1,2),(1,3),(1,4),(1,6),(1,7),(1,8),(0,5),(0,9)] (by kernel_rfl) (by kernel_rfl) rfl ?_
      refine wpScriptH_take (.slice (some ⟨w3.heap.size,0,none⟩) n1 n1) (by rfl) (by rfl) (fun w' hS=>?_) ?_
      ·go_simp
      simp only [zA,zB,Act.put,zD,zE,zF]
      refine wpScriptH_take (.int .i64 (k:Int)) (by rfl) (by rfl) (fun w' hS=>?_) ?_
      ·go_simp
      simp only [zA,zB,zC,Act.put,zD,zE,zF]
      refine wpScriptH_take (.iface 59 (.pointer (some ⟨d,0,none⟩))) (by rfl) (by rfl) (fun w' hS=>?_) ?_
      ·subst hS;have f1:wr.cell? ⟨w.heap.size,0,none⟩=some (.iface 59 (.pointer (some ⟨d,0,none⟩))):=HS4.out.cell 0
       go_simp
      simp only [zA,zB,zC,Act.put,zD,zE,zF]
      refine wpScriptH_take (.int .u64 (p:Int)) (by rfl) (by rfl) (fun w' hS=>?_) ?_
      ·subst hS;have f1:wr.cell? ⟨w.heap.size+1,0,none⟩=some (.int .u64 (p:Int)):=HP4.out.cell 0
       go_simp
      simp only [zA,zB,zC,Act.put,zD,zE,zF]
      refine wpScriptH_take (.int .i64 (k:Int)) (by rfl) (by rfl) (fun w' hS=>?_) ?_
      ·go_simp
      simp only [zA,zB,zC,Act.put,zD,zE,zF]
      refine wpScriptH_take (.func (.method "Load") #[.iface 59 (.pointer (some ⟨d, 0, none⟩))] #[]) (by rfl) (by rfl) (fun w' hS => ?_) ?_
      ·go_simp
      simp only [zA,zB,zC,Act.put,zD,zE,zF]
      refine wpScriptH_take (.func (.method "Load") #[.iface 59 (.pointer (some ⟨d, 0, none⟩))] #[]) (by rfl) (by rfl) (fun w' hS => ?_) ?_
      ·go_simp
      simp only [zA,zB,zC,Act.put,zD,zE,zF]
      refine wpScriptH_take (.iface 59 (.pointer (some ⟨d,0,none⟩))) (by rfl) (by rfl) (fun w' hS=>?_) ?_
      ·go_simp
      simp only [zA,zB,zC,Act.put,zD,zE,zF]
      refine wpScriptH_do (by rfl) ?_
      go_wp2_with (go_at_call 49;refine HA4.out.mono ?_;rintro e w2 ⟨rfl,rfl⟩)
      refine ⟨rfl,?_⟩
      refine wpScriptH_do (by rfl) ?_
      go_wp2_with (go_at_call 435;refine HL4.out.mono ?_;rintro e w2 ⟨rfl,rfl⟩)
      refine ⟨rfl,?_⟩
      show wpList _ _ _ _ _ _
      simp only [List.drop_succ_cons,List.drop_zero]
      go_wp2
      refine NoPanic.normal ?_
      go_wp2
      go_roundw
      case rel =>
       first
        | exact ⟨k+1,by omega,by go_num,HNx,HBx⟩
        | (
          repeat apply Exists.intro
          refine ⟨?_,rfl⟩
          exact ⟨k+1,by omega,by go_num,HNx,HBx⟩)
      case measure=>simp [Go.RowKit.intOf];omega
     ·obtain rfl:k=n1:=by omega
      have HBl:=hid (HB3.out.trans (HB4.out.mono HB3.out.size))
      have HS4:=hid (HS3.out.below HB4.out HS3.out.lt)
      have f4:wr.cell? ⟨w.heap.size,0,none⟩=some (.iface 59 (.pointer (some ⟨d,0,none⟩))):=HS4.out.cell 0
      have HE4:=hid (HEr.out wr HBl.out)
      have HG:=hid HB3.out.size
      have HFs:Hid (RetLd w (loadR L cur p) (.returned (.tuple #[.slice (some ⟨w3.heap.size,0,none⟩) k k, .int .i64 (rest:Int), .int .i64 0])) wr):=hid (by
       rw [HR2.out]
       refine ⟨w3.heap.size,?_,?_,HG.out,HBl.out⟩
       ·simp
       ·have h1:=HBk.out
        rw [ldL_end] at h1
        exact h1)
      clear HBk HB4 hlt hk
      go_wp2_with (go_at_call 432;refine HE4.out.mono ?_;rintro e w5 ⟨rfl,rfl⟩)
      go_ret3
      exact HFs.out
end
end
section
open Go.RowKit
structure Still (a:DA) (L:Nat) (cur:Nat→Nat) (w:World):Prop where
 dev:∃ exe,Blk w a.d 158 (devCells a L exe)
 per:Blk w a.pb 32 (uA ((List.range (8 * L)).map cur))
 lin:∃ ls,Blk w a.lb 298 ls∧∀ i,i < L→∃ A c,ls[i * 2+1]?=some (.slice A 0 c)
 hL:L≤4096
theorem still_of {a:DA} {L T:Nat} {w:World} {S:Fp} {cur:Nat→Nat} {D N:Nat→Prop} {F:Nat} (h:DevM a L T w S cur D N F) (hD:∀ k,¬ D k):Still a L cur w:=by
 obtain ⟨s,exe,per,cs,ls,hc,_,hcl⟩:=h
 have hws:∀ i,i < L→s.ws i=[]:=fun i hi=>by
  rw [List.eq_nil_iff_forall_not_mem]
  intro e he
  have h1:=hc.lin i hi e he
  have h2:=hcl (e.1 / 8) (by omega) (hD _) e
  rw [show e.1 / 8 / 8=i by omega] at h2
  exact h2 he rfl
 refine ⟨⟨exe,hc.dev⟩,?_,⟨ls,hc.linB,fun i hi=>?_⟩,hc.hL⟩
 ·have e:per=uA ((List.range (8 * L)).map cur):=by
   apply Array.ext_getElem?
   intro i
   by_cases hi:i < 8 * L
   ·have h1:=hc.link i hi
    rw [hws (i / 8) (by omega)] at h1
    have h1:s.pw i=cur i:=h1
    rw [hc.pv i hi,uA_at (by simpa using hi),h1]
    simp
   ·rw [Array.getElem?_eq_none (by rw [hc.perS];omega),Array.getElem?_eq_none (by simp [uA,uCells];omega)]
  rw [← e]
  exact hc.perB
 ·rw [hc.linH i hi]
  have ho:=hc.own i hi
  have hx:=hc.hx i hi
  rw [hws i hi] at hx
  have hm:s.m i=0:=by
   have h1:=ho.1
   rw [hx] at h1
   simp [wrCells] at h1
   omega
  rcases ho.2 with ⟨h1,_⟩ | ⟨g,cap,cur,h1,_⟩
  ·exact ⟨_,_,by rw [h1]⟩
  ·exact ⟨_,_,by rw [h1,hm]⟩
theorem Still.below {a:DA} {L:Nat} {w w':World} {cur:Nat→Nat} (h:Still a L cur w) (hb:Below w.heap.size w w'):Still a L cur w':=by
 obtain ⟨⟨exe,h1⟩,h2,⟨ls,h3,h4⟩,h5⟩:=h
 exact ⟨⟨exe,h1.below hb h1.lt⟩,h2.below hb h2.lt,⟨ls,h3.below hb h3.lt,h4⟩,h5⟩
theorem dirty_still {a:DA} {L:Nat} {w:World} {cur:Nat→Nat} (h:Still a L cur w) :
  Calls Tryz.prog 191 #[.pointer (some ⟨a.d,0,none⟩)] w fun e w'=>e = .returned (.slice none 0 0)∧w=w':=by
 obtain ⟨⟨exe,h1⟩,_,⟨ls,h3,h4⟩,h5⟩:=h
 have f2:w.cell? ⟨a.d,2,none⟩=some (.slice (some ⟨a.lb,0,none⟩) L L):=h1.cell 2
 have HL:=hid h3
 have H4:=hid h4
 generalize a.lb=lb at *
 clear h1 h3 h4
 go_enter Tryz.func191,Tryz.ntmps191
 go_wp2
 go_loopw [3,12] (fun v3 i wr=>∃ k:Nat,k≤L∧v3 = .slice none 0 0∧i = .int .i64 (k:Int)∧w=wr) (fun _ i _=>L - (Go.RowKit.intOf i).toNat)
 case atStart=>exact ⟨0,Nat.zero_le _,rfl,rfl,rfl⟩
 case round =>
  obtain ⟨k,hk,rfl,rfl,rfl⟩:=hrel
  by_cases hlt:k < L
  ·obtain ⟨A,c,e⟩:=H4.out k hlt
   have f3:w.cell? ⟨lb,k * 2+1,none⟩=some (.slice A 0 c):=by rw [HL.out.cell];exact e
   have hz5:(0:Int)≤(k:Int):=by omega
   have hz6:(k:Int) < (L:Int):=by omega
   clear e
   go_wp2
   go_roundw
   case rel =>
    first
     | exact ⟨k+1,by omega,rfl,by go_num,trivial⟩
     | exact ⟨k+1,by omega,rfl,by go_num,rfl⟩
     | (
       repeat apply Exists.intro
       refine ⟨?_,rfl⟩
       exact ⟨k+1,by omega,rfl,by go_num,rfl⟩)
   case measure=>simp [Go.RowKit.intOf];omega
  ·obtain rfl:L=k:=by omega
   go_wp2
   go_ret
   exact ⟨rfl,rfl⟩
def RetByo (w:World) (l:List Nat) (e:Ending) (w':World):Prop:=∃ g,e = .returned (.slice (some ⟨g,0,none⟩) l.length l.length)∧Reads w' w'.heap.size 1 (some ⟨g,0,none⟩) l.length (u8s l)∧Below w.heap.size w w'
theorem bytesOf_any (A:Option Addr) (q c n:Nat) (xs:List Nat) (w:World) (h:Reads w w.heap.size 1 A q (uCells xs)) (hx:∀ x∈xs,x < 18446744073709551616) (hn:n=8 * q) (hq:q≤100000) :
  Calls Tryz.prog 193 #[.slice A q c] w (RetByo w (unpB xs n)):=by
 have hl0:xs.length=q:=by have:=h.1;simp [uCells] at this;omega
 have HR:=hid h
 have HX:=hid hx
 have hmk:=makeB n (by omega)
 have hq8:n≤8 * q:=by omega
 have u1:wrap64 ((q:Int) * 8)=(n:Int):=by rw [IntWalk.wrap64_in _ (by omega)];omega
 have u2:IntKind.i64.wrap ((q:Int) * 8)=(n:Int):=by rw [IntKind.wrap_i64];omega
 have u3:(q:Int) * 8=(n:Int):=by omega
 have hn9:n≤800000:=by omega
 clear h hx hl0 hn
 go_enter Tryz.func193,Tryz.ntmps193
 go_wp2
 go_loopw [11] (fun i wr=>∃ k:Nat,k≤n∧i = .int .i64 (k:Int)∧Hid (∃ cs,Blk wr w.heap.size 5 cs∧cs.size=n∧∀ j,j < k→cs[j]?=some (.int .u8 ((xs.getD (j / 8) 0 / 256 ^ (j % 8) % 256:Nat):Int)))∧Hid (Below w.heap.size w wr)) (fun i _=>n - (Go.RowKit.intOf i).toNat)
 case atStart =>
  exact ⟨0,Nat.zero_le _,rfl,hid ⟨_,Blk.new w _ _,size_madeCells _ _,fun j hj=>absurd hj (by omega)⟩,hid ((Below.refl _ _).alloc (Nat.le_refl _) _)⟩
 case round =>
  obtain ⟨k,hk,rfl,HC,HB⟩:=hrel
  by_cases hlt:k < n
  ·have hkq:k / 8 < q:=by omega
   obtain ⟨hl,b,off,hA,hbB,f0⟩:=u_facts (HR.out.below HB.out) hkq
   subst hA
   obtain ⟨cs,hB,hsz,hcs⟩:=HC.out
   have e:xs.getD (k / 8) 0=xs[k / 8]:=by rw [List.getD_eq_getElem?_getD,List.getElem?_eq_getElem hl];rfl
   have hx64:=HX.out _ (List.getElem_mem hl)
   rw [← e] at f0 hx64
   have e2:(((xs.getD (k / 8) 0:Nat):Int) / 2 ^ (k % 8 * 8)) % 256=((xs.getD (k / 8) 0 / 256 ^ (k % 8) % 256:Nat):Int):=by
    rw [show (256:Nat) ^ (k % 8)=2 ^ (k % 8 * 8) by rw [show (256:Nat)=2 ^ 8 by decide,← Nat.pow_mul,Nat.mul_comm 8 (k % 8)]]
    push_cast
    rfl
   have hc0:k < cs.size:=by omega
   have HN:Hid (∃ cs',Blk (wr.setCell ⟨w.heap.size,k,none⟩ (.int .u8 ((xs.getD (k / 8) 0 / 256 ^ (k % 8) % 256:Nat):Int))) w.heap.size 5 cs'∧cs'.size=n∧∀ j,j < k+1→cs'[j]?=some (.int .u8 ((xs.getD (j / 8) 0 / 256 ^ (j % 8) % 256:Nat):Int))):=hid ⟨_,hB.set_ k _,by simp [hsz],fun j hj=>by
    rw [Array.getElem?_setIfInBounds]
    by_cases e:k=j
    ·subst e
     simp [hc0]
    ·rw [if_neg e,hcs j (by omega)]⟩
   have HB2:Hid (Below w.heap.size w (wr.setCell ⟨w.heap.size,k,none⟩ (.int .u8 ((xs.getD (k / 8) 0 / 256 ^ (k % 8) % 256:Nat):Int)))):=hid (HB.out.setCell (Nat.le_refl _) _)
   have f1:wr.cell? ⟨w.heap.size,k,none⟩=some cs[k]:=by rw [hB.cell,Array.getElem?_eq_getElem hc0]
   have z1:wr.frozen? ⟨w.heap.size,k,none⟩=false:=hB.frozen _
   have HE2:=hid e2
   clear e hcs HC hbB hB e2
   generalize cs[k]=ck at *
   generalize xs.getD (k / 8) 0=z at *
   generalize z / 256 ^ (k % 8) % 256=r at *
   have hz5:(0:Int)≤(k:Int):=by omega
   have hz6:(k:Int) < (n:Int):=by omega
   have hz7:(k:Int) / 8 < (q:Int):=by omega
   go_wp2
   go_roundw
   case rel =>
    first
     | (
       refine ⟨k+1,by omega,by go_num,?_,?_⟩
       ·rw [HE2.out];exact HN
       ·rw [HE2.out];exact HB2)
     | (
       repeat apply Exists.intro
       refine ⟨?_,rfl⟩
       refine ⟨k+1,by omega,by go_num,?_,?_⟩
       ·rw [HE2.out];exact HN
       ·rw [HE2.out];exact HB2)
   case measure=>simp [Go.RowKit.intOf];omega
  ·have hkn:k=n:=by omega
   have HF:Hid (RetByo w (unpB xs n) (.returned (.slice (some ⟨w.heap.size,0,none⟩) n n)) wr):=hid (by
    obtain ⟨cs,hB,hsz,hcs⟩:=HC.out
    refine ⟨w.heap.size,by rw [unpB_len],reads_of_blk hB ?_ ?_,HB.out⟩
    ·simp [u8s,unpB_len]
    ·intro j u hu
     have hj:j < n:=by
      have h1:=(List.getElem?_eq_some_iff.1 hu).1
      simp [u8s,unpB_len] at h1
      omega
     rw [hcs j (by omega),← hu]
     simp [u8s,unpB,hj])
   have hd1:decide ((k:Int) < (n:Int))=false:=decide_eq_false (by omega)
   have hd2:decide (k < n)=false:=decide_eq_false hlt
   clear hkn hlt hk HC
   go_wp2
   go_ret
   exact HF.out
end
section
open Go.RowKit
theorem lev_wbN (x:Nat):∀ j,lev (wb x j)=x % 256 ^ j
 | 0=>by simp [wb,lev,Nat.mod_one]
 | j+1=>by rw [wb_succ,lev_snoc,lev_wbN x j,show (wb x j).length=j by simp [wb],Nat.pow_succ,Nat.mod_mul]
theorem pack_unp {xs:List Nat} (hx:∀ x∈xs,x < 18446744073709551616):packW (unpB xs (8 * xs.length))=xs:=by
 apply List.ext_getElem
 ·simp [packW,unpB_len];omega
 ·intro j h1 h2
  have e:((unpB xs (8 * xs.length)).drop (8 * j)).take 8=wb xs[j] 8:=by
   apply List.ext_getElem
   ·simp [unpB_len,wb];omega
   ·intro i h3 h4
    have hi:i < 8:=by simpa [wb] using h4
    rw [List.getElem_take,List.getElem_drop]
    simp only [unpB,wb,List.getElem_map,List.getElem_range]
    rw [show (8 * j+i) / 8=j by omega,show (8 * j+i) % 8=i by omega,List.getD_eq_getElem?_getD,List.getElem?_eq_getElem h2]
    rfl
  simp only [packW,List.getElem_map,List.getElem_range]
  rw [e,lev_wbN,Nat.mod_eq_of_lt (Nat.lt_of_lt_of_le (hx _ (List.getElem_mem h2)) (by decide))]
def RetFrm (w:World) (L:Nat) (D:Nat→Prop) (cur:Nat→Nat) (e:Ending) (w':World):Prop:=RetNew w L D (fun d => .tuple #[.pointer (some ⟨d,0,none⟩), .int .i64 0]) cur e w'
theorem from_any (D:Nat→Prop) (g L:Nat) (p:List Nat) (w:World) (h:Reads w w.heap.size 1 (some ⟨g,0,none⟩) (64 * L) (u8s p)) (hp:∀ b∈p,b < 256) (h0:0 < L) (hL:L≤4096) :
  Calls Tryz.prog 93 #[.slice (some ⟨g,0,none⟩) (64 * L) (64 * L)] w (RetFrm w L D (fun k=>(packW p).getD k 0)):=by
 obtain ⟨q,hq⟩:∃ q,8 * L=q:=⟨_,rfl⟩
 obtain ⟨n,hn⟩:∃ n,64 * L=n:=⟨_,rfl⟩
 have hl0:p.length=64 * L:=by have:=h.1;simp [u8s] at this;omega
 have hpk:(packW p).length=8 * L:=by simp [packW,hl0];omega
 have HO:Hid (∀ wx cs,Blk wx w.heap.size 32 cs→cs.size=8 * L→(∀ j,j < 8 * L→cs[j]?=some (.int .u64 (pkW p (64 * L) j:Int)))→Below w.heap.size w wx→Calls Tryz.prog 168 #[.slice (some ⟨w.heap.size,0,none⟩) (8 * L) (8 * L)] wx fun e w'=>∃ d:Nat,e = .returned (.pointer (some ⟨d,0,none⟩))∧RetFrm w L D (fun k=>(packW p).getD k 0) (.returned (.tuple #[.pointer (some ⟨d,0,none⟩), .int .i64 0])) w'):=hid (fun wx cs hB hsz hcs hb=>by
  have hru:RowU cs (packW p):=⟨by rw [hpk,hsz];exact Nat.le_refl _,fun i hi=>by
   rw [hcs i (by omega),← hl0,pkW_end]
   simp only [packW,List.getElem_map,List.getElem_range]⟩
  have hr:Reads wx wx.heap.size 1 (some ⟨w.heap.size,0,none⟩) (8 * L) (uCells (packW p)):=reads_of_blk hB (by simp [uCells,hpk]) (fun j u hu=>by
   have hj:j < (packW p).length:=by
    have h1:=(List.getElem?_eq_some_iff.1 hu).1
    simpa [uCells] using h1
   rw [hru.2 j hj,← hu]
   simp [uCells,hj])
  refine (of_any w.heap.size L (packW p) hL h0 wx hr).mono ?_
  rintro e w1 ⟨d,cb,cc,lb,cs1,ls,th,nt,rfl,h1,h2,h3,h4,h5,h6,h7,h8⟩
  exact ⟨d,rfl,dev_of (w0:=w) D (fun d => .tuple #[.pointer (some ⟨d,0,none⟩), .int .i64 0]) hL (Nat.le_refl _) hB hsz hru hpk hb h1 h2 h3 h4 h5 h6 h7 h8⟩)
 have HR:=hid h
 have HP:=hid hp
 have HL:=hid hl0
 have hmk:=makeU q (by omega)
 have hz1:(n:Int) % 64=0:=by omega
 have hz2:(n:Int) / 64=(L:Int):=by omega
 have hz3:(n:Int) / 8=(q:Int):=by omega
 have hz4:((n:Int) == 0)=false:=by rw [beq_eq_false_iff_ne];omega
 have hz7:(L:Int)≤4096:=by omega
 have hq8:n≤8 * q∧8 * q≤n:=by omega
 rw [hn] at HL HR HO
 rw [hq] at HO
 rw [hn]
 have hql:q≤40000:=by omega
 clear h hp hl0 hpk hq hn
 go_enter Tryz.func93,Tryz.ntmps93
 go_wp2_with fail
 go_loopw [26] (fun i wr=>∃ k:Nat,k≤n∧i = .int .i64 (k:Int)∧Hid (∃ cs,Blk wr w.heap.size 32 cs∧cs.size=q∧∀ j,j < q→cs[j]?=some (.int .u64 (pkW p k j:Int)))∧Hid (Below w.heap.size w wr)) (fun i _=>n - (Go.RowKit.intOf i).toNat)
 case atStart =>
  refine ⟨0,Nat.zero_le _,rfl,hid ⟨_,Blk.new w _ _,madeU_size q,fun j hj=>?_⟩,hid ((Below.refl _ _).alloc (Nat.le_refl _) _)⟩
  rw [madeU_at q j hj,pkW_zero]
  rfl
 case round =>
  obtain ⟨k,hk,rfl,HC,HB⟩:=hrel
  by_cases hlt:k < n
  ·obtain ⟨hl,b,off,hA,hbB,f0⟩:=b_facts (HR.out.below HB.out) hlt
   injection hA with hA
   injection hA with hA1 hA2 _
   subst hA1
   subst hA2
   rw [Nat.zero_add] at f0
   obtain ⟨cs,hB,hsz,hcs⟩:=HC.out
   have hkq:k / 8 < q:=by omega
   have c0:=hcs (k / 8) hkq
   obtain ⟨l,e1,e2,e3,e4⟩:=pkW_same hl HP.out
   have hb256:p[k] < 256:=HP.out _ (List.getElem_mem hl)
   have HN:Hid (∃ cs',Blk (wr.setCell ⟨w.heap.size,k / 8,none⟩ (.int .u64 (pkW p (k+1) (k / 8):Int))) w.heap.size 32 cs'∧cs'.size=q∧∀ j,j < q→cs'[j]?=some (.int .u64 (pkW p (k+1) j:Int))):=hid ⟨_,hB.set_ (k / 8) _,by simp [hsz],fun j hj=>by
    rw [Array.getElem?_setIfInBounds]
    by_cases e:k / 8=j
    ·subst e
     simp [hsz,hkq]
    ·rw [if_neg e,hcs j hj,pkW_other hl e]⟩
   have HB2:Hid (Below w.heap.size w (wr.setCell ⟨w.heap.size,k / 8,none⟩ (.int .u64 (pkW p (k+1) (k / 8):Int)))):=hid (HB.out.setCell (Nat.le_refl _) _)
   rw [e2] at HN HB2
   rw [e1] at c0
   have f1:wr.cell? ⟨w.heap.size,k / 8,none⟩=some (.int .u64 (lev l:Int)):=by rw [hB.cell];exact c0
   have z1:wr.frozen? ⟨w.heap.size,k / 8,none⟩=false:=hB.frozen _
   have hx:=or_lev e4 (by omega) hb256
   have HX:Hid (bits .or .u64 (lev l:Int) (IntKind.u64.wrap (((p[k]:Nat):Int) * 2 ^ (k % 8 * 8)))=(lev (l++[p[k]]):Int)):=hid (by
    have h1:(p[k] * 2 ^ (8 * l.length):Nat)≤255 * 2 ^ 56:=Nat.mul_le_mul (by omega) (Nat.pow_le_pow_right (by omega) (by omega))
    have h2:(255:Nat) * 2 ^ 56=18374686479671623680:=by decide
    rw [← hx,e3,Nat.mul_comm 8 (k % 8)]
    rw [e3,Nat.mul_comm 8 (k % 8)] at h1
    have h3:(((p[k]:Nat):Int) * 2 ^ (k % 8 * 8))=((p[k] * 2 ^ (k % 8 * 8):Nat):Int):=by push_cast;rfl
    rw [h3,wraps_u64 _ (by omega) (by omega)])
   clear hx
   clear e1 e2 e4 hB hcs hsz c0 HC hbB e3
   generalize p[k]=bt at *
   have hz5:(0:Int)≤(k:Int):=by omega
   have hz6:(k:Int) < (n:Int):=by omega
   go_wp2
   go_roundw
   case rel =>
    first
     | (
       refine ⟨k+1,by omega,by go_num,?_,?_⟩
       ·rw [HX.out];exact HN
       ·rw [HX.out];exact HB2)
     | (
       repeat apply Exists.intro
       refine ⟨?_,rfl⟩
       refine ⟨k+1,by omega,by go_num,?_,?_⟩
       ·rw [HX.out];exact HN
       ·rw [HX.out];exact HB2)
   case measure=>simp [Go.RowKit.intOf];omega
  ·have hkn:k=n:=by omega
   obtain ⟨cs,hB,hsz,hcs⟩:=HC.out
   have HF:=hid (HO.out wr cs hB hsz (fun j hj=>by rw [← hkn];exact hcs j hj) HB.out)
   have hd1:decide ((k:Int) < (n:Int))=false:=decide_eq_false (by omega)
   have hd2:decide (k < n)=false:=decide_eq_false hlt
   clear hkn hlt hk HC HO hB hcs hsz
   go_wp2_with (go_at_call 168;refine HF.out.mono ?_;rintro e w1 ⟨d,rfl,h2⟩;have HZ:=hid h2;clear h2)
   go_ret2
   exact HZ.out
end
end Go.Proofs.YtfkjjoglnmeciaaGreatDoor
