/- The walks and laws that the claim leans on, part 48. -/
import Derived.Test.YtnlokpakiambaaaGreatDoorJbt
import Derived.Test.YtnlokpakiambaaaGreatDoorJbu
set_option maxRecDepth 100000
set_option maxHeartbeats 16000000
namespace Go.Proofs.YtnlokpakiambaaaGreatDoor
open Go.Lib (hid)
section
open Go.RowKit Go.Maps
def vprC (rd:Nat→Nat × Nat × Bool × Nat × Nat) (walk:Nat→Nat × List Nat × List Nat) (head old:Nat):Nat :=
 if (folW rd (prS old walk) 4097 head 4611686018427387904 0 ⟨false,0,[],0⟩).1≠0 then (folW rd (prS old walk) 4097 head 4611686018427387904 0 ⟨false,0,[],0⟩).1 else (folW rd (prS old walk) 4097 head 4611686018427387904 0 ⟨false,0,[],0⟩).2.bad
theorem prS_len (L:Nat) (cur:Nat→Nat) (chk:Nat→Nat) (old:Nat) (s:PrS) (p:Nat) (v:Nat × Bool × Nat × Nat):(prS old (walkR L cur chk) s p v).1.l.length≤s.l.length+7:=by
 have h1:=bofR_len L cur chk p v.2.1 v.2.2.1
 unfold prS
 split
 ·show s.l.length≤_
  omega
 ·show (s.l++_).length≤_
  rw [List.length_append]
  omega
def RetVpu (w:World) (c:Nat) (e:Ending) (w':World):Prop:=(∃ x y z,e = .returned (.tuple #[x,y,z, .int .i64 (c:Int)]))∧Below w.heap.size w w'
section
variable {a:DA} {L T s n K:Nat} {x:HA} {cs:Nat→CS} {f:Nat→Option Nat} {N m b0:Nat} {S:Fp} {cur:Nat→Nat} {w:World} {d r:Nat}
theorem pr_body (h:SD a L T s n K x cs f N m b0 S cur w d r) (old g:Nat) (hg:w.heap.size≤g):Body 71 #[.pointer (some ⟨g+4,0,none⟩), .pointer (some ⟨g+1,0,none⟩), .pointer (some ⟨g+3,0,none⟩), .pointer (some ⟨g,0,none⟩), .pointer (some ⟨g+2,0,none⟩), .pointer (some ⟨g+5,0,none⟩)] w (fun n q=>q.l.length≤7 * n) (fun _=>PrZ g) (PrRs d g old) (prS old (walkR L cur (fun q=>chkR s K cs q 1))):=by
 intro q n p sp dl dt ol W hn hI hR hW _ hp _ hdt _
 have e:(#[Value.int .u64 (p:Int), .agg #[.int .u64 (sp:Int), .bool dl, .int .u64 (dt:Int), .int .u64 (ol:Int)]]++#[Value.pointer (some ⟨g+4,0,none⟩), .pointer (some ⟨g+1,0,none⟩), .pointer (some ⟨g+3,0,none⟩), .pointer (some ⟨g,0,none⟩), .pointer (some ⟨g+2,0,none⟩), .pointer (some ⟨g+5,0,none⟩)])=#[.int .u64 (p:Int), .agg #[.int .u64 (sp:Int), .bool dl, .int .u64 (dt:Int), .int .u64 (ol:Int)], .pointer (some ⟨g+4,0,none⟩), .pointer (some ⟨g+1,0,none⟩), .pointer (some ⟨g+3,0,none⟩), .pointer (some ⟨g,0,none⟩), .pointer (some ⟨g+2,0,none⟩), .pointer (some ⟨g+5,0,none⟩)]:=by simp
 rw [e]
 have hI2:q.l.length≤7 * n:=hI
 exact vpr1_any old p sp dl dt ol g h hW hg q hp hdt hR (by omega)
theorem vprune_any (h:SD a L T s n K x cs f N m b0 S cur w d r) (head old:Nat) (hh:head < 18446744073709551616) :
  Calls Tryz.prog 26 #[.iface 43 (.pointer (some ⟨d,0,none⟩)), .int .u64 (head:Int), .int .u64 (old:Int)] w (RetVpu w (vprC (verR cur (fun q=>chkR s K cs q 7)) (walkR L cur (fun q=>chkR s K cs q 1)) head old)):=by
 obtain ⟨W1,hW1⟩:∃ W1,(((((w.alloc (.cells #[.iface 43 (.pointer (some ⟨d,0,none⟩))] 124)).alloc (.cells #[.int .u64 (old:Int)] 23)).alloc (.cells #[.slice none 0 0] 51)).alloc (.cells #[.int .u64 0] 27)).alloc (.cells #[.bool false] 4)).alloc (.cells #[.int .i64 0] 37)=W1:=⟨_,rfl⟩
 have HW1:=hid hW1
 have hsz:∀ (W:World) (o:Obj),(W.alloc o).heap.size=W.heap.size+1:=fun W o=>by simp
 have hb:Below w.heap.size w W1:=by
  rw [← hW1]
  have h1:=(Below.refl w.heap.size w).alloc (Nat.le_refl _) (.cells #[.iface 43 (.pointer (some ⟨d,0,none⟩))] 124)
  have h2:=h1.alloc h1.size (.cells #[.int .u64 (old:Int)] 23)
  have h3:=h2.alloc h2.size (.cells #[.slice none 0 0] 51)
  have h4:=h3.alloc h3.size (.cells #[.int .u64 0] 27)
  have h5:=h4.alloc h4.size (.cells #[.bool false] 4)
  exact h5.alloc h5.size _
 have hR0:PrR d w.heap.size old ⟨false,0,[],0⟩ none 0 0 W1:=by
  rw [← hW1]
  have k0:=Blk.new w 124 #[.iface 43 (.pointer (some ⟨d,0,none⟩))]
  have k1:=Blk.new (w.alloc (.cells #[.iface 43 (.pointer (some ⟨d,0,none⟩))] 124)) 23 #[.int .u64 (old:Int)]
  have k2:=Blk.new ((w.alloc (.cells #[.iface 43 (.pointer (some ⟨d,0,none⟩))] 124)).alloc (.cells #[.int .u64 (old:Int)] 23)) 51 #[.slice none 0 0]
  have k3:=Blk.new (((w.alloc (.cells #[.iface 43 (.pointer (some ⟨d,0,none⟩))] 124)).alloc (.cells #[.int .u64 (old:Int)] 23)).alloc (.cells #[.slice none 0 0] 51)) 27 #[.int .u64 0]
  have k4:=Blk.new ((((w.alloc (.cells #[.iface 43 (.pointer (some ⟨d,0,none⟩))] 124)).alloc (.cells #[.int .u64 (old:Int)] 23)).alloc (.cells #[.slice none 0 0] 51)).alloc (.cells #[.int .u64 0] 27)) 4 #[.bool false]
  have k5:=Blk.new (((((w.alloc (.cells #[.iface 43 (.pointer (some ⟨d,0,none⟩))] 124)).alloc (.cells #[.int .u64 (old:Int)] 23)).alloc (.cells #[.slice none 0 0] 51)).alloc (.cells #[.int .u64 0] 27)).alloc (.cells #[.bool false] 4)) 37 #[.int .i64 0]
  simp only [hsz] at k1 k2 k3 k4 k5
  exact ⟨((((k0.alloc _).alloc _).alloc _).alloc _).alloc _,(((k1.alloc _).alloc _).alloc _).alloc _,((k2.alloc _).alloc _).alloc _,(k3.alloc _).alloc _,k4.alloc _,k5,World.ownsRow_nil _ _ _ _⟩
 have HFo:=hid (vfollow_any h hb head hh 71 #[.pointer (some ⟨w.heap.size+4,0,none⟩), .pointer (some ⟨w.heap.size+1,0,none⟩), .pointer (some ⟨w.heap.size+3,0,none⟩), .pointer (some ⟨w.heap.size,0,none⟩), .pointer (some ⟨w.heap.size+2,0,none⟩), .pointer (some ⟨w.heap.size+5,0,none⟩)] (fun n q=>q.l.length≤7 * n) (fun _=>PrZ w.heap.size) (PrRs d w.heap.size old) (prS old (walkR L cur (fun q=>chkR s K cs q 1))) ⟨false,0,[],0⟩
  (fun s W hR k hk=>by
   obtain ⟨A,m,c,hR⟩:=hR
   rcases hR.z hk with e | e | e | e | e
   ·exact ⟨by omega,by rw [e];exact hR.all.lt⟩
   ·exact ⟨by omega,by rw [e];exact hR.cu.lt⟩
   ·exact ⟨by omega,by rw [e];exact hR.fo.lt⟩
   ·exact ⟨by omega,by rw [e];exact hR.bad.lt⟩
   ·have h1:=hR.own.lt k e
    exact ⟨by omega,h1.2⟩) (fun s W W' k hR hW hk=>by
   obtain ⟨A,m,c,hR⟩:=hR
   exact hR.zin ((hR.below hW).z hk)) (Nat.zero_le _) (fun nn sg p v hn hI=>by
   have h1:=prS_len L cur (fun q=>chkR s K cs q 1) old sg p v
   have h2:sg.l.length≤7 * nn:=hI
   show _≤7 * (nn+1)
   omega) ⟨none,0,0,hR0⟩ (fun s W W' hR hW=>by
   obtain ⟨A,m,c,hR⟩:=hR
   exact ⟨A,m,c,hR.below hW⟩) (fun args w=>by kernel_rfl) (pr_body h old _ (Nat.le_refl _)))
 have HBk:Hid (vprC (verR cur (fun q=>chkR s K cs q 7)) (walkR L cur (fun q=>chkR s K cs q 1)) head old=if (folW (verR cur (fun q=>chkR s K cs q 7)) (prS old (walkR L cur (fun q=>chkR s K cs q 1))) 4097 head 4611686018427387904 0 ⟨false,0,[],0⟩).1≠0 then (folW (verR cur (fun q=>chkR s K cs q 7)) (prS old (walkR L cur (fun q=>chkR s K cs q 1))) 4097 head 4611686018427387904 0 ⟨false,0,[],0⟩).1 else (folW (verR cur (fun q=>chkR s K cs q 7)) (prS old (walkR L cur (fun q=>chkR s K cs q 1))) 4097 head 4611686018427387904 0 ⟨false,0,[],0⟩).2.bad):=hid rfl
 generalize folW (verR cur (fun q=>chkR s K cs q 7)) (prS old (walkR L cur (fun q=>chkR s K cs q 1))) 4097 head 4611686018427387904 0 ⟨false,0,[],0⟩=X at *
 generalize vprC (verR cur (fun q=>chkR s K cs q 7)) (walkR L cur (fun q=>chkR s K cs q 1)) head old=Y at *
 have c1:W1.cell? ⟨w.heap.size,0,none⟩=some (.iface 43 (.pointer (some ⟨d,0,none⟩))):=hR0.sp.cell 0
 have hmf:∀ (fn:Fn) (first cap:Array Value) (w:World),(Instr.makeFunc fn first cap).run Tryz.prog w = .ok (.func fn first cap) w:=fun _ _ _ _=>rfl
 clear h hW1 hb hR0 hh hsz
 go_enter Tryz.func26,Tryz.ntmps26
 go_upto_region 3 with fail
 rw [HW1.out]
 go_wp2_with fail
 refine HFo.out.mono ?_
 rintro e w2 ⟨rfl,⟨A2,m2,k2,hR2⟩,hb2⟩
 obtain ⟨ev,qf,qc,ql,qb⟩:=X
 dsimp only at hR2 HBk
 have HB2:=hid hb2
 have HR2:=hid hR2
 have HM2:Hid (ql.length=m2):=hid (by have h1:=hR2.own.1;simpa [uCells] using h1)
 dsimp only
 have b2:w2.cell? ⟨w.heap.size+1+1+1+1+1,0,none⟩=some (.int .i64 (qb:Int)):=hR2.bad.cell 0
 have b1:w2.cell? ⟨w.heap.size+1+1,0,none⟩=some (.slice A2 m2 k2):=hR2.all.cell 0
 have b3:w2.cell? ⟨w.heap.size+1+1+1,0,none⟩=some (.int .u64 (qc:Int)):=hR2.cu.cell 0
 have z1:w2.frozen? ⟨w.heap.size+1+1,0,none⟩=false:=hR2.all.frozen 0
 have B1:=hid b1
 clear hR2 hb2 HW1 HFo c1
 by_cases hev:ev=0
 ·subst hev
  rw [show ((0:Nat):Int)=0 from rfl]
  by_cases hq:qb=0
  ·subst hq
   have HY:Hid (Y=0):=hid (by rw [HBk.out];rfl)
   have hq2:w2.cell? ⟨w.heap.size+1+1+1+1+1,0,none⟩=some (.int .i64 0):=b2
   clear b2 HBk
   by_cases hm:m2=0
   ·subst hm
    go_wp2
    have hc6:(w2.setCell ⟨w.heap.size+1+1,0,none⟩ (.slice none 0 0)).cell? ⟨w.heap.size+1+1,0,none⟩=some (.slice none 0 0):=World.cell?_setCell_same' _ _ _ (by rw [B1.out];rfl)
    exact bodyPost_ret (v := .tuple #[.slice none 0 0, .slice none 0 0, .bool false, .int .i64 0]) (by simp [results,Tryz.results26,go_sem,hc6]) rfl ⟨⟨_,_,_,by rw [HY.out];rfl⟩,HB2.out.setCell (p:=⟨w.heap.size+1+1,0,none⟩) (by show w.heap.size≤w.heap.size+1+1;omega) _⟩
   ·have hm0:(0:Int) < (m2:Int):=by omega
    clear hm
    by_cases hc:qc=0
    ·subst hc
     go_upto_region 11 with fail
     go_region
     go_wp2_with fail
     have hc7:((w2.setCell ⟨w.heap.size+1+1,0,none⟩ (.slice A2 m2 k2)).drew).cell? ⟨w.heap.size+1+1,0,none⟩=some (.slice A2 m2 k2):=World.cell?_setCell_same' _ _ _ (by rw [B1.out];rfl)
     exact bodyPost_ret (v := .tuple #[.slice none 0 0, .slice A2 m2 k2, .bool true, .int .i64 0]) (by simp [results,Tryz.results26,go_sem,hc7]) rfl ⟨⟨_,_,_,by rw [HY.out];rfl⟩,(HB2.out.setCell (p:=⟨w.heap.size+1+1,0,none⟩) (by show w.heap.size≤w.heap.size+1+1;omega) _).drew⟩
    ·have hc0:(0:Int) < (qc:Int):=by omega
     clear hc
     go_upto_region 12 with fail
     refine wp_region_scriptH (fun w'=>w'.cell? ⟨w.heap.size+1+1,0,none⟩=some (.slice A2 m2 k2)∧w'.cell? ⟨w.heap.size+1+1+1,0,none⟩=some (.int .u64 (qc:Int))) 6 [] [(1,0),(1,4),(0,1),(1,2),(0,3),(1,5)] (by kernel_rfl) (by kernel_rfl) ⟨b1,b3⟩ ?_
     refine wpScriptH_take (.int .u64 (qc:Int)) (by rfl) (by rfl) (fun w' hS=>?_) ?_
     ·obtain ⟨s1,s2⟩:=hS
      go_simp
     simp only [zA,zB,Act.put,zD,zE,zF]
     refine wpScriptH_take (.slice A2 m2 k2) (by rfl) (by rfl) (fun w' hS=>?_) ?_
     ·obtain ⟨s1,s2⟩:=hS
      go_simp
     simp only [zA,zB,zC,Act.put,zD,zE,zF]
     refine wpScriptH_do (by rfl) ?_
     go_wp2_with (go_at_call 24;refine (at_any qc 2 (by omega) _).mono ?_;rintro e w3 ⟨rfl,rfl⟩)
     refine ⟨⟨b1,b3⟩,?_⟩
     refine wpScriptH_take (.agg #[.int .u64 (pAt qc 2:Int), .int .u64 0]) (by rfl) (by rfl) (fun w' hS=>?_) ?_
     ·go_simp
     simp only [zA,zB,zC,Act.put,zD,zE,zF]
     refine wpScriptH_do (by rfl) ?_
     go_wp2_with fail
     obtain ⟨w4,hw4⟩:∃ w4,(w2.alloc (.cells #[.int .u64 (pAt qc 2:Int), .int .u64 0] 90)).drew=w4:=⟨_,rfl⟩
     have hb4:Below w2.heap.size w2 w4:=by rw [← hw4];exact ((Below.refl w2.heap.size w2).alloc (Nat.le_refl _) _).drew
     have ha4:=HR2.out.all.below hb4 HR2.out.all.lt
     have hu4:=HR2.out.cu.below hb4 HR2.out.cu.lt
     have c4:w4.cell? ⟨w.heap.size+1+1,0,none⟩=some (.slice A2 m2 k2):=ha4.cell 0
     have c5:w4.cell? ⟨w.heap.size+1+1+1,0,none⟩=some (.int .u64 (qc:Int)):=hu4.cell 0
     have z4:w4.frozen? ⟨w.heap.size+1+1,0,none⟩=false:=ha4.frozen 0
     have HB4:=hid (HB2.out.trans (hb4.mono HB2.out.size))
     have C4:=hid c4
     rw [hw4]
     clear hw4 hb4 ha4 hu4
     refine ⟨⟨c4,c5⟩,?_⟩
     refine wpScriptH_take (.slice (some ⟨w2.heap.size,0,none⟩) 1 1) (by rfl) (by rfl) (fun w' hS=>?_) ?_
     ·go_simp
     simp only [zA,zB,zC,Act.put,zD,zE,zF]
     show wpList _ _ _ _ _ _
     simp only [List.drop_succ_cons,List.drop_zero]
     go_wp2_with fail
     refine NoPanic.normal ?_
     go_wp2_with fail
     have hc7:(w4.setCell ⟨w.heap.size+1+1,0,none⟩ (.slice A2 m2 k2)).cell? ⟨w.heap.size+1+1,0,none⟩=some (.slice A2 m2 k2):=World.cell?_setCell_same' _ _ _ (by rw [C4.out];rfl)
     exact bodyPost_ret (v := .tuple #[.slice (some ⟨w2.heap.size,0,none⟩) 1 1, .slice A2 m2 k2, .bool false, .int .i64 0]) (by simp [results,Tryz.results26,go_sem,hc7]) rfl ⟨⟨_,_,_,by rw [HY.out];rfl⟩,HB4.out.setCell (p:=⟨w.heap.size+1+1,0,none⟩) (by show w.heap.size≤w.heap.size+1+1;omega) _⟩
  ·have HY:Hid (Y=qb):=hid (by rw [HBk.out,if_neg (by simp)])
   have d1:((qb:Int) != 0)=true:=by rw [bne,beq_eq_false_iff_ne.2 (by omega)];rfl
   clear hq HBk
   go_wp2
   have hc6:(w2.setCell ⟨w.heap.size+1+1,0,none⟩ (.slice none 0 0)).cell? ⟨w.heap.size+1+1,0,none⟩=some (.slice none 0 0):=World.cell?_setCell_same' _ _ _ (by rw [B1.out];rfl)
   exact bodyPost_ret (v := .tuple #[.slice none 0 0, .slice none 0 0, .bool false, .int .i64 (qb:Int)]) (by simp [results,Tryz.results26,go_sem,hc6]) rfl ⟨⟨_,_,_,by rw [HY.out]⟩,HB2.out.setCell (p:=⟨w.heap.size+1+1,0,none⟩) (by show w.heap.size≤w.heap.size+1+1;omega) _⟩
 ·have HY:Hid (Y=ev):=hid (by rw [HBk.out,if_pos hev])
  have d0:((ev:Int) == 0)=false:=beq_eq_false_iff_ne.2 (by omega)
  have d1:((ev:Int) != 0)=true:=by rw [bne,d0];rfl
  clear hev HBk
  go_wp2
  have hc6:(w2.setCell ⟨w.heap.size+1+1,0,none⟩ (.slice none 0 0)).cell? ⟨w.heap.size+1+1,0,none⟩=some (.slice none 0 0):=World.cell?_setCell_same' _ _ _ (by rw [B1.out];rfl)
  exact bodyPost_ret (v := .tuple #[.slice none 0 0, .slice none 0 0, .bool false, .int .i64 (ev:Int)]) (by simp [results,Tryz.results26,go_sem,hc6]) rfl ⟨⟨_,_,_,by rw [HY.out]⟩,HB2.out.setCell (p:=⟨w.heap.size+1+1,0,none⟩) (by show w.heap.size≤w.heap.size+1+1;omega) _⟩
end
end
section
open Go.RowKit Go.Maps
theorem lit_readsN (W:World) (C:Array Value) (t:TypeId) (fz:Nat × Nat) (l:List Nat) (n:Nat) (h:C.toList=u8s l) (hl:l.length=n):Reads (W.alloc (.cells C t fz)) (W.alloc (.cells C t fz)).heap.size 1 (some ⟨W.heap.size,0,none⟩) n (u8s l):=by
 refine ⟨by simp [u8s,hl],fun _=>⟨_,rfl,by simp,fun j u hu=>?_⟩⟩
 have hh:(W.alloc (.cells C t fz)).heap[W.heap.size]?=some (.cells C t fz):=heap_alloc_new W _
 have ha:(⟨W.heap.size,0,none⟩:Addr).add j=⟨W.heap.size,j,none⟩:=by unfold Addr.add;split <;> simp_all
 rw [ha,cell_of_row _ _ _ _ _ _ hh,← Array.getElem?_toList,h]
 exact hu
structure HvC (gh gw d:Nat) (w4:World) (rl:List RV):Prop where
 h0:∀ W,Below w4.heap.size w4 W→W.cell? ⟨gh,0,none⟩=some (.pointer (some ⟨gw,0,none⟩))
 h3:∀ W,Below w4.heap.size w4 W→W.cell? ⟨gw,3,none⟩=some (.pointer (some ⟨d,0,none⟩))
 lk:∀ W,Below w4.heap.size w4 W→Calls Tryz.prog 13 #[.pointer (some ⟨gw,0,none⟩), .int .i64 0] W fun e w'=>e = .returned (.int .u64 (hdQ (vvs rl):Int))∧w'=W.drew
 at_:∀ W,Below w4.heap.size w4 W→∀ x:Nat,Calls Tryz.prog 15 #[.iface 43 (.pointer (some ⟨d,0,none⟩)), .int .u64 (hdQ (vvs rl):Int), .int .u64 (x:Int)] W (RetVer W (atV x (vvs rl)))
 ck:∀ W,Below w4.heap.size w4 W→Calls Tryz.prog 22 #[.iface 43 (.pointer (some ⟨d,0,none⟩)), .int .u64 (hdQ (vvs rl):Int)] W fun e w'=>e = .returned (.int .i64 0)∧Below W.heap.size W w'
 same:∀ W,Below w4.heap.size w4 W→∀ (i:Nat) (hi:i < rl.length) (dl:Bool) (dt ol:Nat),dl=(rl[i]).v.dl→dt=(rl[i]).v.dt→ol=hdQ (vvs (rl.drop (i+1)))→Calls Tryz.prog 17 #[.pointer (some ⟨gh,0,none⟩),vAgg (rl[i]).v.st dl dt ol, .int .i64 (i:Int)] W fun e w'=>e = .returned (.bool true)∧Below W.heap.size W w'
 h1:∃ (A:Option Addr) (n c:Nat),n=rl.length∧n≤c∧n≤8∧(∀ W,Below w4.heap.size w4 W→W.cell? ⟨gh,1,none⟩=some (.slice A n c)∧Reads W W.heap.size 5 A n (rvCells rl))
 desc:Desc rl
 hd:hdQ (vvs rl) < 18446744073709551616
 sp:∀ r∈rl,r.v.st≤4611686018427387903
theorem hvC_of {w0 w4:World} {k gh:Nat} {rl:List RV} {z:HP} (h:HsJ w0 k gh rl (vvs rl) z w4) (hk:rl.length≤8):HvC gh z.y.g z.y.d w4 rl:=by
 have hlen:(vvs rl).length≤4096:=by unfold vvs;rw [List.length_map];omega
 refine ⟨fun W hW=>(h.below_ hW).blk.cell 0,fun W hW=>(h.below_ hW).bw.blk.cell 3,fun W hW=>?_,fun W hW x=>?_,fun W hW=>?_,fun W hW i hi dl dt ol h2 h3 h4=>same_any (h.below_ hW) i hi _ dl dt ol (by omega) rfl h2 h3 h4,⟨z.A,z.n,z.c,(rv_len h.rd).symm,h.cp,by rw [← rv_len h.rd];exact hk,fun W hW=>⟨(h.below_ hW).blk.cell 1,(h.below_ hW).rd⟩⟩,h.hist.desc,h.hist.hd64,fun r hr=>?_⟩
 ·have h1:=linked_any (h.bw.below hW) 0 (by decide)
  rw [show z.cur (416+0)=hdQ (vvs rl) from h.link] at h1
  exact h1
 ·have h1:=vat_any (h.bw.below hW).sd (hdQ (vvs rl)) x h.hist.hd64
  rw [at_hist h.hist hlen] at h1
  exact h1
 ·have h1:=vcheck_any (h.bw.below hW).sd (hdQ (vvs rl)) h.hist.hd64
  rw [ck_hist h.hist (h.bw.below hW).sd.ds hlen] at h1
  exact h1
 ·obtain ⟨older,hv⟩:=h.hist.ver r.v (by unfold vvs;exact List.mem_map.2 ⟨r,hr,rfl⟩)
  exact hv.sp
section
variable {w:World}
def aw3 (w:World):World:=((w.alloc (.cells #[.int .u8 97] 5 (1,2))).alloc (.cells #[.int .u8 98] 5 (1,2))).alloc (.cells #[.int .u8 2, .bool false, .slice (some ⟨w.heap.size,0,none⟩) 1 1, .int .u8 2, .bool false, .slice (some ⟨w.heap.size+1,0,none⟩) 1 1, .int .u8 3, .bool true, .slice none 0 0] 74)
def awL (w:World):List DR:=[⟨2,false,some ⟨w.heap.size,0,none⟩,1,1,[97]⟩,⟨2,false,some ⟨w.heap.size+1,0,none⟩,1,1,[98]⟩,⟨3,true,none,0,0,[]⟩]
theorem aw3_in (w:World):DrsIn (aw3 w) (some ⟨w.heap.size+1+1,0,none⟩) 3 3 (awL w)∧Below w.heap.size w (aw3 w):=by
 have s1:(w.alloc (.cells #[.int .u8 97] 5 (1,2))).heap.size=w.heap.size+1:=by simp
 have s2:((w.alloc (.cells #[.int .u8 97] 5 (1,2))).alloc (.cells #[.int .u8 98] 5 (1,2))).heap.size=w.heap.size+1+1:=by simp
 have r1:=lit_readsN w #[.int .u8 97] 5 (1,2) [97] 1 rfl rfl
 have r2:=lit_readsN (w.alloc (.cells #[.int .u8 97] 5 (1,2))) #[.int .u8 98] 5 (1,2) [98] 1 rfl rfl
 rw [s1] at r2
 have b12:Below (w.alloc (.cells #[.int .u8 97] 5 (1,2))).heap.size (w.alloc (.cells #[.int .u8 97] 5 (1,2))) (aw3 w):=((Below.refl _ _).alloc (Nat.le_refl _) _).alloc (by simp) _
 have b23:Below ((w.alloc (.cells #[.int .u8 97] 5 (1,2))).alloc (.cells #[.int .u8 98] 5 (1,2))).heap.size ((w.alloc (.cells #[.int .u8 97] 5 (1,2))).alloc (.cells #[.int .u8 98] 5 (1,2))) (aw3 w):=(Below.refl _ _).alloc (Nat.le_refl _) _
 refine ⟨⟨?_,Nat.le_refl _,by omega,fun r hr=>?_⟩,(((Below.refl _ _).alloc (Nat.le_refl _) _).alloc (by simp) _).alloc (by rw [s2];omega) _⟩
 ·refine ⟨rfl,fun _=>⟨_,rfl,by unfold aw3;simp,fun j u hu=>?_⟩⟩
  have hh:=heap_alloc_new ((w.alloc (.cells #[.int .u8 97] 5 (1,2))).alloc (.cells #[.int .u8 98] 5 (1,2))) (.cells #[.int .u8 2, .bool false, .slice (some ⟨w.heap.size,0,none⟩) 1 1, .int .u8 2, .bool false, .slice (some ⟨w.heap.size+1,0,none⟩) 1 1, .int .u8 3, .bool true, .slice none 0 0] 74)
  rw [s2] at hh
  have ha:(⟨w.heap.size+1+1,0,none⟩:Addr).add j=⟨w.heap.size+1+1,j,none⟩:=by unfold Addr.add;split <;> simp_all
  rw [ha]
  refine (cell_of_row _ _ _ _ _ _ hh).trans ?_
  rw [← Array.getElem?_toList]
  exact hu
 ·unfold awL at hr
  simp only [List.mem_cons,List.not_mem_nil,or_false] at hr
  rcases hr with rfl | rfl | rfl
  ·exact ⟨(r1.below b12).more b12.size,(show ∀ b∈[97],b < 256 by decide),Nat.le_refl _,by show 1≤9223372036854775807;omega,by show 2 < 256;omega⟩
  ·exact ⟨(r2.below b23).more b23.size,(show ∀ b∈[98],b < 256 by decide),Nat.le_refl _,by show 1≤9223372036854775807;omega,by show 2 < 256;omega⟩
  ·exact ⟨⟨rfl,fun h=>absurd h (Nat.lt_irrefl 0)⟩,by simp,Nat.le_refl _,Nat.zero_le _,by show 3 < 256;omega⟩
theorem aw_rl {w:World} {rl:List RV} (h:BgIs (awL w) 3 rl):∃ r3 r2 r1:RV,rl=[r3,r2,r1]∧r3.v.st=9∧r3.v.dl=true∧r2.v.st=5∧r2.v.dl=false∧r1.v.st=2∧r1.v.dl=false:=by
 obtain ⟨h1,h2⟩:=h
 match rl,h1 with
 | [r3,r2,r1],_ =>
  have e:(List.range 3).map (fun j=>(stP (awL w) (j+1),(((awL w)[j]?).map DR.dl).getD false,if (((awL w)[j]?).map DR.dl).getD false=true then [] else ((((awL w)[j]?).map DR.p).getD []).take 500))=[(2,false,[97]),(5,false,[98]),(9,true,[])]:=rfl
  rw [e] at h2
  simp only [List.reverse_cons,List.reverse_nil,List.nil_append,List.cons_append,List.map_cons,List.map_nil,List.cons.injEq,Prod.mk.injEq,and_true] at h2
  obtain ⟨⟨a1,a2,_⟩,⟨b1,b2,_⟩,c1,c2,_⟩:=h2
  exact ⟨r3,r2,r1,rfl,c1,c2,b1,b2,a1,a2⟩
theorem vawake_any (w:World) (ht:Tab w) (hpy:Pay w) :
  Calls Tryz.prog 11 #[] w fun e w'=>e = .returned (.bool true)∧Below w.heap.size w w':=by
 obtain ⟨hin,hb3⟩:=aw3_in w
 have HBg:=hid (vbegin_any (some ⟨w.heap.size+1+1,0,none⟩) 3 3 (awL w) hin (ht.below hb3) (hpy.below hb3))
 have HB3:=hid hb3
 have kc:=fun (w:World) (C:Array Value) (n c:Nat)=>Lib.run_convert_bytes_const (P:=Tryz.prog) w 60 5 C n c Tryz.underlying60 Tryz.underlying5
 have k2:=kc (w.alloc (.cells #[.int .u8 97] 5 (1,2))) #[.int .u8 98] 1 1
 rw [show (w.alloc (.cells #[.int .u8 97] 5 (1,2))).heap.size=w.heap.size+1 by simp] at k2
 unfold aw3 at HBg HB3
 clear hin hb3 ht hpy
 go_enter Tryz.func11,Tryz.ntmps11
 go_wp2_with (go_at_call 12;refine HBg.out.mono ?_;rintro e w4 ⟨gh,rfl,hbg⟩;have HBS:=hid hbg.out;clear hbg;refine stop ?_)
 unfold Stop
 obtain ⟨rl,z,hj,hbgis, -⟩:=HBS.out
 obtain ⟨r3,r2,r1,rfl,a1,a2,b1,b2,c1,c2⟩:=aw_rl hbgis
 have HV:=hid (hvC_of hj (show (3:Nat)≤8 by decide))
 have HB4:=hid (HB3.out.trans (hj.below.mono HB3.out.size))
 generalize z.y.g=gw at HV
 generalize z.y.d=d at HV
 have h8:atV 8 (vvs [r3,r2,r1])=(0,5,false,r2.v.dt,hdQ (vvs [r1])):=by
  unfold atV vvs
  simp [newI,a1,b1,b2]
 have h9:atV 9 (vvs [r3,r2,r1])=(5,0,false,0,0):=by
  unfold atV vvs
  simp [newI,a1,a2]
 have h1:atV 1 (vvs [r3,r2,r1])=(5,0,false,0,0):=by
  unfold atV vvs
  simp [newI,a1,b1,c1]
 obtain ⟨head,hhead⟩:∃ head,hdQ (vvs [r3,r2,r1])=head:=⟨_,rfl⟩
 have HLk:=hid HV.out.lk
 have HCk:=hid HV.out.ck
 have H8:Hid (∀ W,Below w4.heap.size w4 W→Calls Tryz.prog 15 #[.iface 43 (.pointer (some ⟨d,0,none⟩)), .int .u64 (head:Int), .int .u64 8] W fun e w'=>e = .returned (.tuple #[.agg #[.int .u64 5, .bool false, .int .u64 (r2.v.dt:Int), .int .u64 (hdQ (vvs [r1]):Int)], .int .i64 0])∧Below W.heap.size W w'):=hid (fun W hW=>by
  have h:=HV.out.at_ W hW 8
  rw [h8,hhead] at h
  exact h)
 have H9:Hid (∀ W,Below w4.heap.size w4 W→Calls Tryz.prog 15 #[.iface 43 (.pointer (some ⟨d,0,none⟩)), .int .u64 (head:Int), .int .u64 9] W fun e w'=>e = .returned (.tuple #[.agg #[.int .u64 0, .bool false, .int .u64 0, .int .u64 0], .int .i64 5])∧Below W.heap.size W w'):=hid (fun W hW=>by
  have h:=HV.out.at_ W hW 9
  rw [h9,hhead] at h
  exact h)
 have H1:Hid (∀ W,Below w4.heap.size w4 W→Calls Tryz.prog 15 #[.iface 43 (.pointer (some ⟨d,0,none⟩)), .int .u64 (head:Int), .int .u64 1] W fun e w'=>e = .returned (.tuple #[.agg #[.int .u64 0, .bool false, .int .u64 0, .int .u64 0], .int .i64 5])∧Below W.heap.size W w'):=hid (fun W hW=>by
  have h:=HV.out.at_ W hW 1
  rw [h1,hhead] at h
  exact h)
 rw [hhead] at HLk HCk
 generalize r2.v.dt=dt at H8
 generalize hdQ (vvs [r1])=ol at H8
 have HF0:=hid HV.out.h0
 have HF3:=hid HV.out.h3
 clear HBg HB3 kc k2 HBS hj hbgis a1 a2 b1 b2 c1 c2 HV h8 h9 h1 hhead
 have f0:=HF0.out w4 (Below.refl _ _)
 go_wp2_with (go_at_call 13;refine (HLk.out w4 (Below.refl _ _)).mono ?_;rintro e w5 ⟨rfl,hw5⟩;have HB5:Hid (Below w4.heap.size w4 w5):=hid (by rw [hw5];exact (Below.refl _ _).drew);clear hw5;refine stop ?_)
 unfold Stop
 have g0:=HF0.out w5 HB5.out
 have g3:=HF3.out w5 HB5.out
 have HA:=hid (H8.out w5 HB5.out)
 go_wp2_with (go_at_call 15;refine HA.out.mono ?_;rintro e w6 ⟨rfl,hb6⟩;have HB6:=hid (HB5.out.trans (hb6.mono HB5.out.size));clear hb6;refine stop ?_)
 unfold Stop
 obtain ⟨W6,hW6⟩:∃ W6,w6.alloc (.cells #[.int .u64 5, .bool false, .int .u64 (dt:Int), .int .u64 (ol:Int)] 36)=W6:=⟨_,rfl⟩
 have hn6:=Blk.new w6 36 #[.int .u64 5, .bool false, .int .u64 (dt:Int), .int .u64 (ol:Int)]
 have hb6:=HB6.out.alloc HB6.out.size (.cells #[.int .u64 5, .bool false, .int .u64 (dt:Int), .int .u64 (ol:Int)] 36)
 rw [hW6] at hn6 hb6
 have HW6:=hid hW6
 have HN6:=hid hn6
 have HB6':=hid hb6
 clear hW6 hn6 hb6 g0 g3 f0
 have g0:=HF0.out W6 HB6'.out
 have g3:=HF3.out W6 HB6'.out
 have HA2:=hid (H9.out W6 HB6'.out)
 go_upto_region 6 with fail
 rw [HW6.out]
 go_wp2_with (go_at_call 15;refine HA2.out.mono ?_;rintro e w7 ⟨rfl,hb7⟩;have HB7:=hid (HB6'.out.trans (hb7.mono HB6'.out.size));have HN7:=hid (HN6.out.below hb7 HN6.out.lt);clear hb7;refine stop ?_)
 unfold Stop
 obtain ⟨W7,hW7⟩:∃ W7,w7.alloc (.cells #[.int .u64 0, .bool false, .int .u64 0, .int .u64 0] 36)=W7:=⟨_,rfl⟩
 have hn7:Below w7.heap.size w7 W7:=by rw [← hW7];exact (Below.refl _ _).alloc (Nat.le_refl _) _
 have HW7:=hid hW7
 have HN7':=hid (HN7.out.below hn7 HN7.out.lt)
 have HB7':=hid (HB7.out.trans (hn7.mono HB7.out.size))
 clear hW7 hn7 g0 g3
 have g0:=HF0.out W7 HB7'.out
 have g3:=HF3.out W7 HB7'.out
 have HA3:=hid (H1.out W7 HB7'.out)
 go_upto_region 7 with fail
 rw [HW7.out]
 go_wp2_with (go_at_call 15;refine HA3.out.mono ?_;rintro e w8 ⟨rfl,hb8⟩;have HB8:=hid (HB7'.out.trans (hb8.mono HB7'.out.size));have HN8:=hid (HN7'.out.below hb8 HN7'.out.lt);clear hb8;refine stop ?_)
 unfold Stop
 obtain ⟨W8,hW8⟩:∃ W8,w8.alloc (.cells #[.int .u64 0, .bool false, .int .u64 0, .int .u64 0] 36)=W8:=⟨_,rfl⟩
 have hn8:Below w8.heap.size w8 W8:=by rw [← hW8];exact (Below.refl _ _).alloc (Nat.le_refl _) _
 have HW8:=hid hW8
 have HB8':=hid (HB8.out.trans (hn8.mono HB8.out.size))
 have k0:W8.cell? ⟨w6.heap.size,0,none⟩=some (.int .u64 5):=(HN8.out.below hn8 HN8.out.lt).cell 0
 clear hW8 hn8 g0 g3
 have g0:=HF0.out W8 HB8'.out
 have g3:=HF3.out W8 HB8'.out
 have HC8:=hid (HCk.out W8 HB8'.out)
 go_upto_region 8 with fail
 rw [HW8.out]
 go_wp2_with (go_at_call 22;refine HC8.out.mono ?_;rintro e w9 ⟨rfl,hb9⟩;have HB9:=hid (HB8'.out.trans (hb9.mono HB8'.out.size));clear hb9)
 go_ret
 exact ⟨rfl,HB4.out.trans (HB9.out.mono HB4.out.size)⟩
end
end
section
open Go.RowKit Go.Maps
theorem fold_chU:∀ (l:List (Nat × Nat × Bool × Nat × Nat)) (s:List (Nat × Bool × Nat × Nat)),foldU chSt l s=(s++l.map Prod.snd,true)
 | [],s=>by simp [foldU]
 | v :: t,s=>by
  unfold foldU
  have e1:chSt s v.1 v.2=(s++[v.2],true):=rfl
  rw [e1,if_neg (show ¬ (true:Bool)=false by decide),fold_chU t,List.append_assoc]
  rfl
theorem fold_prU (old:Nat) (W:Nat→Nat × List Nat × List Nat):∀ (l:List (Nat × Nat × Bool × Nat × Nat)) (s:PrS),s.bad=0→l.any (fun v => !v.2.2.1 && decide ((W v.2.2.2.1).1≠0))=false→∃ r,r.bad=0∧foldU (prS old W) l s=(r,true)
 | [],s,hs,_=>⟨s,hs,rfl⟩
 | v :: t,s,hs,h=>by
  rw [List.any_cons,Bool.or_eq_false_iff] at h
  obtain ⟨h1,h2⟩:=h
  have hb:(bofR W v.1 v.2.2.1 v.2.2.2.1).2=0:=by
   unfold bofR
   cases hd:v.2.2.1 with
   | true=>rfl
   | false =>
    rw [hd] at h1
    have h3:(W v.2.2.2.1).1=0:=by simpa using h1
    rw [if_neg (by decide),if_neg (fun hn=>hn h3)]
  unfold foldU
  by_cases hc:s.found=false∧(decide (v.2.1≤old)=false∨v.2.2.1=false)
  ·have e1:prS old W s v.1 v.2=(⟨decide (v.2.1≤old),v.1,s.l,s.bad⟩,true):=if_pos hc
   rw [e1,if_neg (show ¬ (true:Bool)=false by decide)]
   exact fold_prU old W t _ hs h2
  ·have e1:prS old W s v.1 v.2=(⟨true,s.cut,s.l++(bofR W v.1 v.2.2.1 v.2.2.2.1).1,(bofR W v.1 v.2.2.1 v.2.2.2.1).2⟩,decide ((bofR W v.1 v.2.2.1 v.2.2.2.1).2=0)):=if_neg hc
   rw [e1,hb,if_neg (show ¬ decide ((0:Nat)=0)=false by decide)]
   exact fold_prU old W t _ rfl h2
def stC:Nat × Bool × Nat × Nat→List (Nat × Bool × Nat × Nat)→Nat × Bool × Nat × Nat
 | z,[]=>z
 | _,v :: t=>stC v t
theorem stC_add:∀ (z:Nat × Bool × Nat × Nat) (l:List (Nat × Bool × Nat × Nat)) (v:Nat × Bool × Nat × Nat),stC z (l++[v])=v
 | _,[],_=>rfl
 | _,u :: t,v=>stC_add u t v
theorem stC_last:∀ (z:Nat × Bool × Nat × Nat) (l:List (Nat × Bool × Nat × Nat)),stC z l=l.getLast?.getD z
 | _,[]=>rfl
 | z,u :: t=>by
  show stC u t=_
  rw [stC_last u t,List.getLast?_cons]
  cases t.getLast? <;> rfl
theorem lastC_st:∀ (last:Nat) (z:Nat × Bool × Nat × Nat) (l:List (Nat × Bool × Nat × Nat)),l≠[]→lastC last l=(stC z l).1
 | _,_,[],h=>absurd rfl h
 | _,_,[u],_=>rfl
 | _,z,v :: u :: t,_=>lastC_st v.1 z (u :: t) (by simp)
theorem GoodC.out_:∀ {last:Nat} {l:List (Nat × Bool × Nat × Nat)} {v:Nat × Bool × Nat × Nat},GoodC last (l++[v])→v.1 < lastC last l∧verOk v.1 v.2.1 v.2.2.1=true
 | _,[],_,h=>⟨h.1,h.2.1⟩
 | _,u :: t,v,h=>GoodC.out_ (last:=u.1) (l:=t) h.2.2
def oldC (l:List (Nat × Bool × Nat × Nat)):Nat:=(stC (0,false,0,0) l).2.2.2
theorem spoilt_plain (rd:Nat→Nat × Nat × Bool × Nat × Nat) (W:Nat→Nat × List Nat × List Nat) (head old:Nat) (xs:List (Nat × Bool × Nat × Nat)) (hxs:xs=(folW rd chSt 4097 head 4611686018427387904 0 []).2) :
  (vckR rd (fun z=>(W z).1) head=0∧(vblR rd W head).1=0∧vprC rd W head old=0∧xs.length≤(vblR rd W head).2.length∧oldC xs=0)∨(vckR rd (fun z=>(W z).1) head=11∧(vblR rd W head).1≠0):=by
 have hc:=visW_code rd 4097 head 4611686018427387904 0
 have hend:=visW_end rd 4097 head 4611686018427387904 0
 have h1:=folW_vis rd chSt 4097 head 4611686018427387904 0 []
 have h2:=folW_vis rd (ckS (fun z=>(W z).1)) 4097 head 4611686018427387904 0 0
 have h3:=folW_vis rd (blS W) 4097 head 4611686018427387904 0 ([],0)
 have h4:=folW_vis rd (prS old W) 4097 head 4611686018427387904 0 ⟨false,0,[],0⟩
 generalize visW rd 4097 head 4611686018427387904 0=X at *
 obtain ⟨c,l⟩:=X
 dsimp only at *
 rw [fold_chU] at h1
 rw [fold_ckU] at h2
 obtain ⟨r,_,hr,hrl⟩:=fold_blU W l []
 rw [hr] at h3
 unfold vckR vblR vprC
 rw [h2,h3]
 have hx:xs=l.map Prod.snd:=by rw [hxs,h1];rfl
 by_cases hbad:l.any (fun v => !v.2.2.1 && decide ((W v.2.2.2.1).1≠0))=true
 ·rw [if_pos hbad,if_pos hbad]
  exact .inr ⟨rfl,by simp⟩
 ·have hbf:l.any (fun v => !v.2.2.1 && decide ((W v.2.2.2.1).1≠0))=false:=by simpa using hbad
  rw [if_neg hbad,if_neg hbad]
  obtain ⟨rp,hp1,hp2⟩:=fold_prU old W l ⟨false,0,[],0⟩ rfl hbf
  rw [hp2] at h4
  rw [h4]
  rcases hc with rfl | rfl
  ·refine .inl ⟨rfl,rfl,?_,?_,?_⟩
   ·show rp.bad=0
    exact hp1
   ·have:=hrl hbf
    show xs.length≤r.length
    rw [hx,List.length_map]
    simpa using this
   ·unfold oldC
    rw [hx,stC_last,List.getLast?_map]
    rcases hend rfl with ⟨_,e⟩ | ⟨v,e,e2⟩
    ·rw [e];rfl
    ·rw [e];exact e2
  ·exact .inr ⟨rfl,by simp⟩
end
end Go.Proofs.YtnlokpakiambaaaGreatDoor
