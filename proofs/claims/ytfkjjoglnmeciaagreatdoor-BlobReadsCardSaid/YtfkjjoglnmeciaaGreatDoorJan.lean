/- The walks and laws that the claim leans on, part 14. -/
import Derived.Test.YtfkjjoglnmeciaaGreatDoorJam
set_option maxRecDepth 100000
set_option maxHeartbeats 16000000
namespace Go.Proofs.YtfkjjoglnmeciaaGreatDoor
open Go.Lib (hid)
section
open Go.RowKit
theorem siftXP_any (g n cap sz lo hi first:Nat) (ys0:List Nat) (w:World) (h:SX 54 w w g n ys0 sz) (hp:Hp first (lo+1) hi ys0) (hf:first+hi≤n) (hlo:lo≤1000000) (hn:n≤1000000) :
  Calls Tryz.prog 302 #[.slice (some ⟨g,0,none⟩) n cap, .int .i64 (lo:Int), .int .i64 (hi:Int), .int .i64 (first:Int)] w (RetX 54 w g n sz first (first+hi) ys0 (Hp first lo hi)):=by
 have H:=hid h
 have HX:=hid hp.start
 clear h hp
 go_enter Tryz.func302,Tryz.ntmps302
 go_wp2
 go_loopw [8] (fun i wr=>∃ (r:Nat) (ys:List Nat),lo≤r∧r≤lo+hi∧i = .int .i64 r∧Hid (PI first (first+hi) ys0 ys)∧Hid (HpX first lo hi r ys)∧Hid (SX 54 w wr g n ys sz)) (fun i _=>lo+hi - (RowKit.intOf i).toNat)
 case atStart=>exact ⟨lo,ys0,Nat.le_refl _,by omega,rfl,hid (PI.refl _ _ _),HX,H⟩
 case round =>
  clear H HX
  obtain ⟨r,ys,hr0,hr,rfl,HP,HX,H⟩:=hrel
  go_upto_region 1 with fail
  go_cut [9] from 11 to 75 (fun v wx=>∃ c:Nat,v = .int .i64 c∧2 * r+1≤c∧c≤2 * r+1∧Hid (SX 54 w wx g n ys sz))
  case first =>
   go_wp2_with fail
   go_meet
   exact ⟨2 * r+1,by go_num,Nat.le_refl _,Nat.le_refl _,H⟩
  case rest =>
   clear H
   obtain ⟨c,rfl,hc1,hc2,H⟩:=hcut
   by_cases hge:hi≤c
   ·have e1:decide ((hi:Int)≤(c:Int))=true:=decide_eq_true (by omega)
    have HD:=hid (HX.out.leaf (by omega))
    go_wp2_with fail
    go_end0
    exact ⟨rfl,ys,H.out,HP.out,HD.out⟩
   ·have e1:decide ((hi:Int)≤(c:Int))=false:=decide_eq_false (by omega)
    go_upto_region 3 with fail
    go_cut [36] from 11 to 75 (fun v wx=>∃ bb,v = .bool bb∧(bb=true→c+1 < hi)∧Hid (c+1 < hi→bb=decide (gv ys (first+c) < gv ys (first+c+1)))∧Hid (SX 54 w wx g n ys sz))
    case first =>
     by_cases hl:c+1 < hi
     ·have e2:decide ((c:Int)+1 < (hi:Int))=true:=decide_eq_true (by omega)
      have f1:(first:Int)+(c:Int) < (n:Int):=by omega
      have f2:(first:Int)+(c:Int)+1 < (n:Int):=by omega
      have f3:((first:Int)+(c:Int)).toNat=first+c:=by omega
      have f4:((first:Int)+(c:Int)+1).toNat=first+c+1:=by omega
      have f5:(0:Int)≤(first:Int)+(c:Int):=by omega
      have f6:(0:Int)≤(first:Int)+(c:Int)+1:=by omega
      obtain ⟨x1,c1,z1,d1⟩:=H.out.at_ (i:=(first+c)) (by omega)
      obtain ⟨x2,c2,z2,d2⟩:=H.out.at_ (i:=(first+c+1)) (by omega)
      obtain ⟨bb,HB0,HLs⟩:=lessXP x1 x2
      rw [d1.out,d2.out] at HB0
      have HBB:=hid HB0
      clear HB0
      clear d1 d2
      go_quiet ((go_at_call 217;exact Calls.quiet_of_same (HLs.out _)))
      have H1:=hid (H.out.drewN nq)
      clear c1 c2 z1 z2 H HLs
      go_wp2_with fail
      go_meet
      exact ⟨bb,rfl,fun _=>hl,hid fun _=>HBB.out,H1⟩
     ·have e2:decide ((c:Int)+1 < (hi:Int))=false:=decide_eq_false (by omega)
      go_quiet (fail)
      have H1:=hid (H.out.drewN nq)
      go_wp2_with fail
      go_meet
      exact ⟨false,rfl,fun h=>(by cases h),hid fun h=>absurd h hl,H1⟩
    case rest =>
     clear H
     obtain ⟨bb,rfl,hbb,HBB,H⟩:=hcut
     go_upto_if 36 with fail
     go_cut [9] from 11 to 75 (fun v wx=>∃ c2:Nat,v = .int .i64 c2∧c≤c2∧c2 < hi∧Hid ((c2=2 * r+1∨c2=2 * r+2)∧∀ k,(k=2 * r+1∨k=2 * r+2)→k < hi→gv ys (first+k)≤gv ys (first+c2))∧Hid (SX 54 w wx g n ys sz))
     case first =>
      cases bb
      ·have HC:=hid (show (c=2 * r+1∨c=2 * r+2)∧∀ k,(k=2 * r+1∨k=2 * r+2)→k < hi→gv ys (first+k)≤gv ys (first+c) from ⟨.inl (by omega),fun k k1 k2=>by
        by_cases e:k=c
        ·subst e;exact Nat.le_refl _
        ·have e2:k=c+1:=by omega
         subst e2
         exact Nat.not_lt.mp (of_decide_eq_false (HBB.out (by omega)).symm)⟩)
       clear HBB
       go_wp2_with fail
       go_meet
       exact ⟨c,rfl,Nat.le_refl _,by omega,HC,H⟩
      ·have:=hbb rfl
       have HC:=hid (show (c+1=2 * r+1∨c+1=2 * r+2)∧∀ k,(k=2 * r+1∨k=2 * r+2)→k < hi→gv ys (first+k)≤gv ys (first+(c+1)) from ⟨.inr (by omega),fun k k1 k2=>by
        by_cases e:k=c+1
        ·subst e;exact Nat.le_refl _
        ·have e2:k=c:=by omega
         subst e2
         exact Nat.le_of_lt (of_decide_eq_true (HBB.out (by omega)).symm)⟩)
       clear HBB
       go_wp2_with fail
       go_meet
       exact ⟨c+1,by go_num,by omega,by omega,HC,H⟩
     case rest =>
      clear H hbb HBB
      obtain ⟨k2,rfl,hc3,hc4,HC,H⟩:=hcut
      have f1:(first:Int)+(r:Int) < (n:Int):=by omega
      have f2:(first:Int)+(k2:Int) < (n:Int):=by omega
      have f3:((first:Int)+(r:Int)).toNat=first+r:=by omega
      have f4:((first:Int)+(k2:Int)).toNat=first+k2:=by omega
      have f5:(0:Int)≤(first:Int)+(r:Int):=by omega
      have f6:(0:Int)≤(first:Int)+(k2:Int):=by omega
      have ne:first+r≠first+k2:=by omega
      go_wp2_with fail
      obtain ⟨x1,c1,z1,d1⟩:=H.out.at_ (i:=(first+r)) (by omega)
      obtain ⟨x2,c2,z2,d2⟩:=H.out.at_ (i:=(first+k2)) (by omega)
      obtain ⟨bb,HB0,HLs⟩:=lessXP x1 x2
      rw [d1.out,d2.out] at HB0
      have HBB:=hid HB0
      clear HB0
      clear d1 d2
      go_quiet ((go_at_call 217;exact Calls.quiet_of_same (HLs.out _)))
      have H1:=hid (H.out.drewN nq)
      clear c1 c2 z1 z2 H HLs
      cases bb
      ·have HB:=hid (Nat.not_lt.mp (of_decide_eq_false HBB.out.symm))
       clear HBB
       have HD:=hid (HX.out.done HC.out.2 HB.out)
       go_wp2_with fail
       go_end0
       exact ⟨rfl,ys,H1.out,HP.out,HD.out⟩
      ·have HB:=hid (of_decide_eq_true HBB.out.symm)
       clear HBB
       have H:=H1
       clear H1
       generalize wc.drewN nq=wr at *
       obtain ⟨x1,c1,z1,d1⟩:=H.out.at_ (i:=(first+r)) (by omega)
       obtain ⟨x2,c2,z2,d2⟩:=H.out.at_ (i:=(first+k2)) (by omega)
       obtain ⟨x3,c3⟩:=H.out.mid (i:=(first+r)) (j:=(first+k2)) (by omega) (.int .u64 (x2:Int))
       have H1:=hid (H.out.swap (by omega) (by omega) c1 c2 d1.out d2.out).drew
       clear d1 d2
       have HP1:=hid (HP.out.step (i:=first+r) (j:=first+k2) (by omega) (by omega) (by have:=H.out.len;omega))
       have HX1:=hid (HX.out.step hr0 HC.out.1 hc4 HC.out.2 HB.out (by have:=H.out.len;omega))
       clear H HP HX HC HB
       generalize sw ys (first+r) (first+k2)=ys at *
       go_wp2_with fail
       go_region
       clear c1 c2 c3 z1 z2
       go_wp2_with fail
       go_roundw
       case rel=>exact ⟨k2,_,by omega,by omega,rfl,HP1,HX1,H1⟩
       case measure=>simp [RowKit.intOf];omega
theorem heapXP_any (g n cap sz a d:Nat) (ys0:List Nat) (w:World) (h:SX 54 w w g n ys0 sz) (hb:a+(d+1)≤n) (hn:n≤1000000) (hc:n≤cap) (hcm:cap≤9223372036854775807) :
  Calls Tryz.prog 212 #[.slice (some ⟨g,0,none⟩) n cap, .int .i64 (a:Int), .int .i64 ((a+(d+1):Nat):Int)] w (RetX 54 w g n sz a (a+(d+1)) ys0 (Srt a (a+(d+1)))):=by
 have H:=hid h
 have HS1:Hid (∀ (q:Nat) (W:World) (zs:List Nat),q≤1000000→SX 54 W W g n zs sz→Hp a (q+1) (d+1) zs→Calls Tryz.prog 302 #[.slice (some ⟨g,0,none⟩) n cap, .int .i64 (q:Int), .int .i64 ((d:Int)+1), .int .i64 (a:Int)] W (RetX 54 W g n sz a (a+(d+1)) zs (Hp a q (d+1)))):=fun q W zs hq hW hz=>by
  have:=siftXP_any g n cap sz q (d+1) a zs W hW hz hb hq hn
  simpa using this
 have HS2:Hid (∀ (q:Nat) (W:World) (zs:List Nat),q≤d→SX 54 W W g n zs sz→Hp a 1 q zs→Calls Tryz.prog 302 #[.slice (some ⟨g,0,none⟩) n cap, .int .i64 0, .int .i64 (q:Int), .int .i64 (a:Int)] W (RetX 54 W g n sz a (a+q) zs (Hp a 0 q))):=fun q W zs hq hW hz=>by
  have:=siftXP_any g n cap sz 0 q a zs W hW hz (by omega) (by omega) hn
  simpa using this
 clear h
 have u1:(a:Int)+((d:Int)+1) - (a:Int)=(d:Int)+1:=by omega
 have u2:IntKind.i64.wrap (d:Int)=(d:Int):=by rw [IntKind.wrap_i64];omega
 go_enter Tryz.func212,Tryz.ntmps212
 go_wp2
 go_loopw [9] (fun i wr=>∃ k:Nat,k≤d+1∧DownI k i∧Hid (SY 54 w wr g n sz a (a+(d+1)) ys0 (Hp a k (d+1)))) (fun i _=>(RowKit.intOf i+1).toNat)
 case atStart=>exact ⟨d / 2+1,by omega, .inr ⟨d / 2,rfl,congrArg (Value.int .i64) (by omega)⟩,hid ⟨ys0,H.out,PI.refl _ _ _,fun i c h1 h2 h3=>absurd h3 (by omega)⟩⟩
 case round =>
  clear H
  obtain ⟨k,hk,⟨rfl,rfl⟩ | ⟨q,rfl,rfl⟩,HY⟩:=hrel
  ·have HT:Hid (SY 54 w wr g n sz a (a+(d+1)) ys0 (HpT a (d+1) (a+(d+1)))):=by
    obtain ⟨ys,h1,h2,h3⟩:=HY.out
    exact hid ⟨ys,h1,h2,h3,fun p q k1 k2 k3 k4=>absurd k3 (by omega)⟩
   clear HY
   go_wp2
   go_loopw [10] (fun i wr=>∃ k:Nat,k≤d+1∧DownI k i∧Hid (SY 54 w wr g n sz a (a+(d+1)) ys0 (HpT a k (a+(d+1))))) (fun i _=>(RowKit.intOf i+1).toNat)
   case atStart=>exact ⟨d+1,by omega, .inr ⟨d,rfl,rfl⟩,HT⟩
   case round =>
    clear HT
    obtain ⟨k,hk,⟨rfl,rfl⟩ | ⟨q,rfl,rfl⟩,HY⟩:=hrel
    ·go_wp2
     go_end0
     refine ⟨rfl,?_⟩
     obtain ⟨ys,h1,h2,h3⟩:=HY.out
     exact ⟨ys,h1,h2,h3.srt⟩
    ·obtain ⟨ys,HP,HT,H⟩:∃ ys,Hid (PI a (a+(d+1)) ys0 ys)∧Hid (HpT a (q+1) (a+(d+1)) ys)∧Hid (SX 54 w wr g n ys sz):=by
      obtain ⟨ys,h1,h2,h3⟩:=HY.out
      exact ⟨ys,hid h2,hid h3,hid h1⟩
     clear HY
     have f1:(a:Int)+(q:Int) < (n:Int):=by omega
     have f2:(a:Int) < (n:Int):=by omega
     have f3:((a:Int)+(q:Int)).toNat=a+q:=by omega
     have f5:(0:Int)≤(a:Int)+(q:Int):=by omega
     obtain ⟨x1,c1,z1,d1⟩:=H.out.at_ (i:=a) (by omega)
     obtain ⟨x2,c2,z2,d2⟩:=H.out.at_ (i:=(a+q)) (by omega)
     obtain ⟨x3,c3⟩:=H.out.mid (i:=a) (j:=(a+q)) (by omega) (.int .u64 (x2:Int))
     have H1:=hid (H.out.swap (by omega) (by omega) c1 c2 d1.out d2.out).drew
     clear d1 d2
     have HP1:=hid (HP.out.step (i:=a) (j:=a+q) (by omega) (by omega) (by have:=H.out.len;omega))
     have HT1:=hid (HT.out.pop (by omega) (by have:=H.out.len;omega))
     clear H HP HT
     generalize sw ys a (a+q)=ys at *
     go_wp2_with fail
     go_region
     clear c1 c2 c3 z1 z2
     go_wp2_with fail
     generalize hW:World.drew _=W at *
     clear hW
     refine (HS2.out q W ys (by omega) H1.out.self HT1.out.1).mono ?_
     rintro e W1 ⟨rfl,zs,h1,h2,h3⟩
     have H2:=hid (show SY 54 w W1 g n sz a (a+(d+1)) ys0 (HpT a q (a+(d+1))) from ⟨zs,H1.out.trans h1,HP1.out.trans (h2.widen (Nat.le_refl _) (by omega)),HpT.next h3 HT1.out.2 h2⟩)
     clear h1 h2 h3 H1 HP1 HT1
     go_wp2_with fail
     go_roundw
     case rel =>
      repeat apply Exists.intro
      refine ⟨?_,rfl⟩
      exact ⟨q,by omega,DownI.pred q,H2⟩
     case measure=>simp [RowKit.intOf]
  ·obtain ⟨ys,HP,HT,H⟩:∃ ys,Hid (PI a (a+(d+1)) ys0 ys)∧Hid (Hp a (q+1) (d+1) ys)∧Hid (SX 54 w wr g n ys sz):=by
    obtain ⟨ys,h1,h2,h3⟩:=HY.out
    exact ⟨ys,hid h2,hid h3,hid h1⟩
   clear HY
   go_wp2_with fail
   refine (HS1.out q wr ys (by omega) H.out.self HT.out).mono ?_
   rintro e W1 ⟨rfl,zs,h1,h2,h3⟩
   have H1:=hid (show SY 54 w W1 g n sz a (a+(d+1)) ys0 (Hp a q (d+1)) from ⟨zs,H.out.trans h1,HP.out.trans h2,h3⟩)
   clear h1 h2 h3 H HP HT
   go_wp2_with fail
   go_roundw
   case rel =>
    repeat apply Exists.intro
    refine ⟨?_,rfl⟩
    exact ⟨q,by omega,DownI.pred q,H1⟩
   case measure=>simp [RowKit.intOf]
end
section
open Go.RowKit
structure PvXP (w wr:World) (g n:Nat) (ys:List Nat) (sz s:Nat):Prop where
 row:SX 54 w wr g n ys sz
 new:w.heap.size≤s
 lt:s < wr.heap.size
 cell:∃ z:Int,wr.cell? ⟨s,0,none⟩=some (.int .i64 z)
 froz:wr.frozen? ⟨s,0,none⟩=false
theorem PvXP.put {w wr:World} {g n sz s:Nat} {ys:List Nat} (h:PvXP w wr g n ys sz s) (hg:s≠g) (z:Int):PvXP w (wr.setCell ⟨s,0,none⟩ (.int .i64 z)) g n ys sz s:=by
 obtain ⟨z0,hz0⟩:=h.cell
 exact ⟨h.row.other h.new hg _,h.new,by simpa using h.lt,⟨z,by simp [go_sem,hz0]⟩,by simp [go_sem,h.froz]⟩
theorem PvXP.drewN {w wr:World} {g n sz s:Nat} {ys:List Nat} (h:PvXP w wr g n ys sz s) (k:Nat):PvXP w (wr.drewN k) g n ys sz s :=
 ⟨h.row.drewN k,h.new,h.lt,h.cell,h.froz⟩
def RetOXP (w:World) (g n:Nat) (ys:List Nat) (sz s a b:Nat) (e:Ending) (w':World):Prop:=∃ x y:Nat,e = .returned (.tuple #[.int .i64 (x:Int), .int .i64 (y:Int)])∧((x=a∧y=b)∨(x=b∧y=a))∧PvXP w w' g n ys sz s
theorem order2XP_any (g n cap sz s a b:Nat) (ys:List Nat) (w wr:World) (h:PvXP w wr g n ys sz s) (hg:s≠g) (ha:a < n) (hb:b < n) :
  Calls Tryz.prog 355 #[.slice (some ⟨g,0,none⟩) n cap, .int .i64 (a:Int), .int .i64 (b:Int), .pointer (some ⟨s,0,none⟩)] wr (RetOXP w g n ys sz s a b):=by
 have HP:=hid h
 have H:=hid h.row
 have HG:=hid hg
 clear h
 have e1:(a:Int) < (n:Int):=by omega
 have e2:(b:Int) < (n:Int):=by omega
 go_enter Tryz.func355,Tryz.ntmps355
 go_wp2_with fail
 obtain ⟨x1,c1,z1,d1⟩:=H.out.at_ (i:=b) (by omega)
 obtain ⟨x2,c2,z2,d2⟩:=H.out.at_ (i:=a) (by omega)
 obtain ⟨bb,HB0,HLs⟩:=lessXP x1 x2
 rw [d1.out,d2.out] at HB0
 have HBB:=hid HB0
 clear HB0
 clear d1 d2
 go_quiet ((go_at_call 217;exact Calls.quiet_of_same (HLs.out _)))
 have H1:=hid (H.out.drewN nq)
 clear c1 c2 z1 z2 H HLs
 have HP1:=hid (HP.out.drewN nq)
 clear H1 HP HBB
 generalize wr.drewN nq=wd at *
 obtain ⟨z,hz⟩:=HP1.out.cell
 have hf:=HP1.out.froz
 have HP2:=hid (HP1.out.put HG.out (wrap64 (z+1)))
 cases bb
 ·go_wp2
  go_ret2
  exact ⟨a,b,rfl, .inl ⟨rfl,rfl⟩,HP1.out⟩
 ·go_wp2
  go_ret2
  exact ⟨b,a,rfl, .inr ⟨rfl,rfl⟩,HP2.out⟩
def RetVXP (w:World) (g n:Nat) (ys:List Nat) (sz s a b:Nat) (e:Ending) (w':World):Prop:=∃ m:Nat,e = .returned (.int .i64 (m:Int))∧a≤m∧m < b∧PvXP w w' g n ys sz s
theorem medianXP_any (g n cap sz s a b x y z:Nat) (ys:List Nat) (w wr:World) (h:PvXP w wr g n ys sz s) (hg:s≠g) (hb:b≤n) (hx:a≤x∧x < b) (hy:a≤y∧y < b) (hz:a≤z∧z < b) :
  Calls Tryz.prog 306 #[.slice (some ⟨g,0,none⟩) n cap, .int .i64 (x:Int), .int .i64 (y:Int), .int .i64 (z:Int), .pointer (some ⟨s,0,none⟩)] wr (RetVXP w g n ys sz s a b):=by
 have H1:=hid (order2XP_any g n cap sz s x y ys w wr h hg (by omega) (by omega))
 have HG:=hid hg
 clear h
 go_enter Tryz.func306,Tryz.ntmps306
 go_wp2_with fail
 refine H1.out.mono ?_
 rintro e w1 ⟨x1,y1,rfl,h1,p1⟩
 have hx1:a≤x1∧x1 < b:=by omega
 have hy1:a≤y1∧y1 < b:=by omega
 have H2:=hid (order2XP_any g n cap sz s y1 z ys w w1 p1 HG.out (by omega) (by omega))
 clear p1 h1 H1
 go_wp2_with fail
 refine H2.out.mono ?_
 rintro e w2 ⟨y2,z2,rfl,h2,p2⟩
 have hy2:a≤y2∧y2 < b:=by omega
 have H3:=hid (order2XP_any g n cap sz s x1 y2 ys w w2 p2 HG.out (by omega) (by omega))
 clear p2 h2 H2
 go_wp2_with fail
 refine H3.out.mono ?_
 rintro e w3 ⟨x3,y3,rfl,h3,p3⟩
 have hy3:a≤y3∧y3 < b:=by omega
 have H4:=hid p3
 clear p3 h3 H3
 go_wp2
 go_ret
 exact ⟨y3,rfl,hy3.1,hy3.2,H4.out⟩
theorem medAdjXP_any (g n cap sz s a b x:Nat) (ys:List Nat) (w wr:World) (h:PvXP w wr g n ys sz s) (hg:s≠g) (hb:b≤n) (hx:a < x∧x+1 < b) (hn:n≤1000000) :
  Calls Tryz.prog 305 #[.slice (some ⟨g,0,none⟩) n cap, .int .i64 (x:Int), .pointer (some ⟨s,0,none⟩)] wr (RetVXP w g n ys sz s a b):=by
 obtain ⟨x',rfl⟩:∃ x',x=x'+1:=⟨x - 1,by omega⟩
 have hm:=medianXP_any g n cap sz s a b x' (x'+1) (x'+2) ys w wr h hg hb (by omega) (by omega) (by omega)
 have HM:=hid hm
 clear h hm
 have u1:IntKind.i64.wrap (x':Int)=(x':Int):=by rw [IntKind.wrap_i64];omega
 go_enter Tryz.func305,Tryz.ntmps305
 go_wp2_with fail
 refine HM.out.mono ?_
 rintro e w1 ⟨m,rfl,h1,h2,p⟩
 have HP:=hid p
 clear p HM
 go_wp2
 go_ret
 exact ⟨m,rfl,h1,h2,HP.out⟩
def RetCXP (w:World) (g n:Nat) (ys:List Nat) (sz a b:Nat) (e:Ending) (w':World):Prop:=∃ (m:Nat) (k:Int),e = .returned (.tuple #[.int .i64 (m:Int), .int .i64 k])∧a≤m∧m < b∧SX 54 w w' g n ys sz
theorem chooseXP_any (g n cap sz a l:Nat) (ys:List Nat) (w:World) (h:SX 54 w w g n ys sz) (hb:a+l≤n) (h8:8≤l) (hn:n≤1000000) :
  Calls Tryz.prog 214 #[.slice (some ⟨g,0,none⟩) n cap, .int .i64 (a:Int), .int .i64 ((a+l:Nat):Int)] w (RetCXP w g n ys sz a (a+l)):=by
 have HS:=hid (show PvXP w (w.alloc (.cells #[.int .i64 0] 3)) g n ys sz w.heap.size from ⟨h.alloc _,Nat.le_refl _,by simp,⟨0,by simp [go_sem]⟩,by simp [go_sem]⟩)
 have HG:Hid (w.heap.size≠g):=hid (by have:=h.lt;omega)
 obtain ⟨q,HQ⟩:∃ q:Nat,Hid ((l:Int) / 4=(q:Int)∧2≤q∧4 * q≤l):=⟨l / 4,by omega,by omega,by omega⟩
 have ea:Hid ((a:Int)+(l:Int) - (a:Int)=(l:Int)):=hid (by omega)
 have c1:Hid ((a:Int)+(q:Int)=((a+q:Nat):Int)):=hid (by omega)
 have c2:Hid ((a:Int)+(q:Int) * 2=((a+q * 2:Nat):Int)):=hid (by omega)
 have c3:Hid ((a:Int)+(q:Int) * 3=((a+q * 3:Nat):Int)):=hid (by omega)
 clear h
 go_enter Tryz.func214,Tryz.ntmps214
 go_wp2_with fail
 all_goals generalize w.alloc (.cells #[.int .i64 0] 3)=W at *
 all_goals rw [ea.out,HQ.out.1,c1.out,c2.out,c3.out]
 all_goals obtain ⟨hq1,hq4⟩:=HQ.out.2
 all_goals clear ea HQ c1 c2 c3
 ·refine (medAdjXP_any g n cap sz w.heap.size a (a+l) (a+q) ys w W HS.out HG.out hb (by omega) hn).mono ?_
  rintro e w1 ⟨x1,rfl,a1,b1,p1⟩
  have H1:=hid p1
  clear p1
  go_wp2_with fail
  refine (medAdjXP_any g n cap sz w.heap.size a (a+l) (a+q * 2) ys w w1 H1.out HG.out hb (by omega) hn).mono ?_
  rintro e w2 ⟨x2,rfl,a2,b2,p2⟩
  have H2:=hid p2
  clear p2 H1
  go_wp2_with fail
  refine (medAdjXP_any g n cap sz w.heap.size a (a+l) (a+q * 3) ys w w2 H2.out HG.out hb (by omega) hn).mono ?_
  rintro e w3 ⟨x3,rfl,a3,b3,p3⟩
  have H3:=hid p3
  clear p3 H2
  go_wp2_with fail
  refine (medianXP_any g n cap sz w.heap.size a (a+l) x1 x2 x3 ys w w3 H3.out HG.out hb ⟨a1,b1⟩ ⟨a2,b2⟩ ⟨a3,b3⟩).mono ?_
  rintro e w4 ⟨m,rfl,a4,b4,p4⟩
  have H4:=hid p4
  obtain ⟨z,hz⟩:=p4.cell
  clear p4 H3
  go_wp2_with fail
  all_goals (go_ret2;exact ⟨m,_,rfl,a4,b4,H4.out.row⟩)
 ·refine (medianXP_any g n cap sz w.heap.size a (a+l) (a+q) (a+q * 2) (a+q * 3) ys w W HS.out HG.out hb (by omega) (by omega) (by omega)).mono ?_
  rintro e w4 ⟨m,rfl,a4,b4,p4⟩
  have H4:=hid p4
  obtain ⟨z,hz⟩:=p4.cell
  clear p4
  go_wp2_with fail
  all_goals (go_ret2;exact ⟨m,_,rfl,a4,b4,H4.out.row⟩)
def RetTXP (w:World) (g n:Nat) (sz a b:Nat) (ys:List Nat) (e:Ending) (w':World):Prop:=∃ c:Bool,e = .returned (.bool c)∧SX 54 w w' g n ys sz∧(c=true→Srt a b ys)
theorem partialXP_any (g n cap sz a b:Nat) (ys:List Nat) (w:World) (h:SX 54 w w g n ys sz) (hab:a < b) (hb:b≤n) (h50:b < a+50) (hn:n≤1000000) :
  Calls Tryz.prog 216 #[.slice (some ⟨g,0,none⟩) n cap, .int .i64 (a:Int), .int .i64 (b:Int)] w (RetTXP w g n sz a b ys):=by
 have H:=hid h
 clear h
 go_enter Tryz.func216,Tryz.ntmps216
 go_wp2
 refine wp_loop_rounds 1 ?_
 rw [rounds_succ]
 go_upto_block 2 with fail
 go_cut [7] from 13 to 132 (fun v wx=>∃ k:Nat,v = .int .i64 k∧a+1≤k∧k≤b∧Hid (Srt a k ys)∧Hid (SX 54 w wx g n ys sz))
 case first =>
  go_wp2_with fail
  go_loopw [7] (fun i wr=>∃ k:Nat,a+1≤k∧k≤b∧i = .int .i64 k∧Hid (Srt a k ys)∧Hid (SX 54 w wr g n ys sz)) (fun i _=>b - (RowKit.intOf i).toNat)
  case atStart=>exact ⟨a+1,by omega,by omega,by go_num,hid (Srt.one _ _),H⟩
  case round =>
   clear H
   obtain ⟨k,hk1,hk2,rfl,HS,H⟩:=hrel
   by_cases hle:k < b
   ·obtain ⟨q',rfl⟩:∃ q',k=q'+1:=⟨k - 1,by omega⟩
    have e2:(q':Int)+1 < (n:Int):=by omega
    have e3:(q':Int) < (n:Int):=by omega
    have e4:decide ((q':Int)+1 < (b:Int))=true:=decide_eq_true (by omega)
    have e6:((q':Int)+1).toNat=q'+1:=by omega
    have e8:IntKind.i64.wrap (q':Int)=(q':Int):=by rw [IntKind.wrap_i64];omega
    have e9:(0:Int)≤(q':Int)+1:=by omega
    go_wp2_with fail
    obtain ⟨x1,c1,z1,d1⟩:=H.out.at_ (i:=(q'+1)) (by omega)
    obtain ⟨x2,c2,z2,d2⟩:=H.out.at_ (i:=q') (by omega)
    obtain ⟨bb,HB0,HLs⟩:=lessXP x1 x2
    rw [d1.out,d2.out] at HB0
    have HBB:=hid HB0
    clear HB0
    clear d1 d2
    go_quiet ((go_at_call 217;exact Calls.quiet_of_same (HLs.out _)))
    have H1:=hid (H.out.drewN nq)
    clear c1 c2 z1 z2 H HLs
    cases bb
    ·have HB:=hid (Nat.not_lt.mp (of_decide_eq_false HBB.out.symm))
     clear HBB
     go_wp2_with fail
     go_roundw
     case rel=>exact ⟨q'+2,by omega,by omega,by go_num,hid (HS.out.snoc HB.out),H1⟩
     case measure=>simp [RowKit.intOf];omega
    ·clear HBB
     go_wp2_with fail
     go_meet
     exact ⟨q'+1,by go_num,hk1,hk2,HS,H1⟩
   ·have e4:decide ((k:Int) < (b:Int))=false:=decide_eq_false (by omega)
    go_wp2_with fail
    go_quiet (fail)
    have H1:=hid (H.out.drewN nq)
    go_wp2_with fail
    go_meet
    exact ⟨k,rfl,hk1,hk2,HS,H1⟩
 case rest =>
  clear H
  obtain ⟨k,rfl,hk1,hk2,HS,H⟩:=hcut
  by_cases hkb:k=b
  ·subst hkb
   go_wp2_with fail
   go_ret
   exact ⟨true,rfl,H.out,fun _=>HS.out⟩
  ·have e1:((k:Int) == (b:Int))=false:=by
    rw [beq_eq_false_iff_ne];omega
   have e2:decide ((b:Int) - (a:Int) < 50)=true:=decide_eq_true (by omega)
   go_wp2_with fail
   go_ret
   exact ⟨false,rfl,H.out,fun h=>by cases h⟩
structure RnXP (w wr:World) (g n:Nat) (ys:List Nat) (sz s:Nat):Prop where
 row:SX 54 w wr g n ys sz
 new:w.heap.size≤s
 ne:s≠g
 ran:∃ z:Nat,z < 18446744073709551616∧Blk wr s 412 #[.int .u64 (z:Int)]
theorem RnXP.next {w wr:World} {g n sz s:Nat} {ys:List Nat} (h:RnXP w wr g n ys sz s) (v:Nat) (hv:v < 18446744073709551616):RnXP w ((wr.setCell ⟨s,0,none⟩ (.int .u64 (v:Int))).drewN 3) g n ys sz s:=by
 obtain ⟨z,_,hB⟩:=h.ran
 exact ⟨(h.row.other h.new h.ne _).drewN 3,h.new,h.ne,v,hv,(hB.set_ 0 _).drewN 3⟩
theorem RnXP.swap {w wr:World} {g n sz s:Nat} {ys:List Nat} (h:RnXP w wr g n ys sz s) {i j x y:Nat} (hi:i < n) (hj:j < n) (hx:wr.cell? ⟨g,i,none⟩=some (.int .u64 (x:Int))) (hy:wr.cell? ⟨g,j,none⟩=some (.int .u64 (y:Int))) (ex:x=gv ys i) (ey:y=gv ys j) :
  RnXP w (((wr.setCell ⟨g,i,none⟩ (.int .u64 (y:Int))).setCell ⟨g,j,none⟩ (.int .u64 (x:Int)))).drew g n (sw ys i j) sz s:=by
 obtain ⟨z,hz,hB⟩:=h.ran
 exact ⟨(h.row.swap hi hj hx hy ex ey).drew,h.new,h.ne,z,hz,((hB.far h.ne _).far h.ne _).drew⟩
theorem RnXP.start {w:World} {g n sz:Nat} {ys:List Nat} (h:SX 54 w w g n ys sz) (l:Nat) (hl:l < 18446744073709551616):RnXP w (w.alloc (.cells #[.int .u64 (l:Int)] 412)) g n ys sz w.heap.size :=
 ⟨h.alloc _,Nat.le_refl _,by have:=h.lt;omega,l,hl,Blk.new _ _ _⟩
theorem breakXP_any (g n cap sz a l:Nat) (ys0:List Nat) (w:World) (h:SX 54 w w g n ys0 sz) (hb:a+l≤n) (h8:8≤l) (hn:n≤1000000) (hc:n≤cap) (hcm:cap≤9223372036854775807) :
  Calls Tryz.prog 213 #[.slice (some ⟨g,0,none⟩) n cap, .int .i64 (a:Int), .int .i64 ((a+l:Nat):Int)] w (RetX 54 w g n sz a (a+l) ys0 (fun _=>True)):=by
 have HR:=hid (RnXP.start h l (by omega))
 have HN0:=hid h.len
 have HP:=hid (nextPow_any l (by omega) (by omega))
 have e1:IntKind.u64.wrap (l:Int)=(l:Int):=by rw [IntKind.wrap_u64];omega
 clear h
 go_enter Tryz.func213,Tryz.ntmps213
 go_wp2_with fail
 rw [show ((a:Int)+(l:Int) - (a:Int))=(l:Int) by omega]
 refine (HP.out _).mono ?_
 rintro e w1 ⟨M,rfl,hM1,hM2,rfl⟩
 clear HP
 generalize w.alloc (.cells #[.int .u64 (l:Int)] 412)=W at *
 go_wp2_with fail
 go_loopw [9] (fun vi wr=>∃ (P:Nat) (ys:List Nat),vi = .int .i64 (P:Int)∧a+l / 4 * 2≤P+1∧P≤a+l / 4 * 2+2∧Hid (PI a (a+l) ys0 ys)∧Hid (RnXP w wr g n ys sz w.heap.size)) (fun vi _=>a+l / 4 * 2+3 - (RowKit.intOf vi).toNat)
 case atStart=>exact ⟨a+l / 4 * 2 - 1,ys0,by congr 1;omega,by omega,by omega,hid (PI.refl _ _ _),HR⟩
 case round =>
  clear HR
  obtain ⟨P,ys,rfl,hP1,hP2,HI,HR⟩:=hrel
  by_cases hP:P≤a+l / 4 * 2+1
  ·have e2:decide ((P:Int)≤(a:Int)+(l:Int) / 4 * 2+1)=true:=decide_eq_true (by omega)
   obtain ⟨z,hz,hB⟩:=HR.out.ran
   have HN:=hid (next_any w.heap.size z hz wr (hB.cell 0) (hB.frozen 0))
   have e3:(P:Int) < (n:Int):=by omega
   clear hB hz
   go_wp2_with fail
   refine HN.out.mono ?_
   rintro e w2 ⟨R,hR,rfl,rfl⟩
   obtain ⟨O,hO⟩:∃ O:Nat,O=R &&& (M - 1):=⟨_,rfl⟩
   have lO:O≤M - 1:=by rw [hO];exact Nat.and_le_right
   have eAnd:bits .and .u64 (R:Int) ((M:Int) - 1)=(O:Int):=by
    rw [show ((M:Int) - 1)=((M - 1:Nat):Int) by omega,bits_and_u64_nat _ _ hR (by omega),hO]
   have HR2:=hid (HR.out.next R hR)
   clear hO HN HR
   generalize (wr.setCell ⟨w.heap.size,0,none⟩ (.int .u64 (R:Int))).drewN 3=wr at *
   by_cases hLO:l≤O
   ·have e4:decide ((l:Int)≤(O:Int))=true:=decide_eq_true (by omega)
    obtain ⟨K,hK⟩:∃ K:Nat,K=a+(O - l):=⟨_,rfl⟩
    have k0:a≤K∧K < a+l:=by omega
    have k1:(0:Int)≤(a:Int)+((O:Int) - (l:Int)):=by omega
    have k2:(a:Int)+((O:Int) - (l:Int)) < (n:Int):=by omega
    have k3:((a:Int)+((O:Int) - (l:Int))).toNat=K:=by omega
    clear hK
    go_wp2_with fail
    obtain ⟨x1,c1,z1,d1⟩:=HR2.out.row.at_ (i:=P) (by omega)
    obtain ⟨x2,c2,z2,d2⟩:=HR2.out.row.at_ (i:=K) (by omega)
    obtain ⟨x3,c3⟩:=HR2.out.row.mid (i:=P) (j:=K) (by omega) (.int .u64 (x2:Int))
    have H1:=hid (HR2.out.swap (by omega) (by omega) c1 c2 d1.out d2.out)
    have HI1:=hid (HI.out.step (i:=P) (j:=K) (by omega) k0 (by have:=HI.out.len;have:=HN0.out;omega))
    clear HR2 d1 d2 HI k0
    by_cases hEq:P=K
    ·subst hEq
     obtain rfl:x1=x2:=by
      rw [c1] at c2
      simp at c2
      omega
     go_region
     clear c1 c2 c3 z1 z2
     go_wp2_with fail
     go_roundw
     case rel=>exact ⟨P+1,_,by go_num,by omega,by omega,HI1,H1⟩
     case measure=>simp [RowKit.intOf];omega
    ·go_region
     clear c1 c2 c3 z1 z2
     go_wp2_with fail
     go_roundw
     case rel=>exact ⟨P+1,_,by go_num,by omega,by omega,HI1,H1⟩
     case measure=>simp [RowKit.intOf];omega
   ·have e4:decide ((l:Int)≤(O:Int))=false:=decide_eq_false (by omega)
    obtain ⟨K,hK⟩:∃ K:Nat,K=a+O:=⟨_,rfl⟩
    have k0:a≤K∧K < a+l:=by omega
    have k1:(0:Int)≤(a:Int)+(O:Int):=by omega
    have k2:(a:Int)+(O:Int) < (n:Int):=by omega
    have k3:((a:Int)+(O:Int)).toNat=K:=by omega
    clear hK
    go_wp2_with fail
    obtain ⟨x1,c1,z1,d1⟩:=HR2.out.row.at_ (i:=P) (by omega)
    obtain ⟨x2,c2,z2,d2⟩:=HR2.out.row.at_ (i:=K) (by omega)
    obtain ⟨x3,c3⟩:=HR2.out.row.mid (i:=P) (j:=K) (by omega) (.int .u64 (x2:Int))
    have H1:=hid (HR2.out.swap (by omega) (by omega) c1 c2 d1.out d2.out)
    have HI1:=hid (HI.out.step (i:=P) (j:=K) (by omega) k0 (by have:=HI.out.len;have:=HN0.out;omega))
    clear HR2 d1 d2 HI k0
    by_cases hEq:P=K
    ·subst hEq
     obtain rfl:x1=x2:=by
      rw [c1] at c2
      simp at c2
      omega
     go_region
     clear c1 c2 c3 z1 z2
     go_wp2_with fail
     go_roundw
     case rel=>exact ⟨P+1,_,by go_num,by omega,by omega,HI1,H1⟩
     case measure=>simp [RowKit.intOf];omega
    ·go_region
     clear c1 c2 c3 z1 z2
     go_wp2_with fail
     go_roundw
     case rel=>exact ⟨P+1,_,by go_num,by omega,by omega,HI1,H1⟩
     case measure=>simp [RowKit.intOf];omega
  ·have e2:decide ((P:Int)≤(a:Int)+(l:Int) / 4 * 2+1)=false:=decide_eq_false (by omega)
   go_wp2_with fail
   go_end0
   exact ⟨rfl,ys,HR.out.row,HI.out,trivial⟩
end
end Go.Proofs.YtfkjjoglnmeciaaGreatDoor
