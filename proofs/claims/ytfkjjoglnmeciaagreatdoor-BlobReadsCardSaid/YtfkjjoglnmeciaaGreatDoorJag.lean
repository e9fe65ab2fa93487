/- The walks and laws that the claim leans on, part 7. -/
import Derived.Test.YtfkjjoglnmeciaaGreatDoorJaf
set_option maxRecDepth 100000
set_option maxHeartbeats 16000000
namespace Go.Proofs.YtfkjjoglnmeciaaGreatDoor
open Go.Lib (hid)
section
open Go.RowKit
structure PivI (w wr:World) (g:Nat) (xs:List Nat) (sz s:Nat):Prop where
 row:SortI w wr g xs sz
 new:w.heap.size≤s
 lt:s < wr.heap.size
 cell:∃ z:Int,wr.cell? ⟨s,0,none⟩=some (.int .i64 z)
 froz:wr.frozen? ⟨s,0,none⟩=false
theorem SortI.other {w wr:World} {g sz:Nat} {xs:List Nat} (h:SortI w wr g xs sz) {s:Nat} (hs:w.heap.size≤s) (hg:s≠g) (u:Value):SortI w (wr.setCell ⟨s,0,none⟩ u) g xs sz:=by
 obtain ⟨cs,ys,h1,h2,h3,h4,h5⟩:=h
 have hc:Chg (fun j=>j=s) wr (wr.setCell ⟨s,0,none⟩ u):=(Chg.refl (fun j=>j=s) wr).setCell (p:=⟨s,0,none⟩) (.inl rfl) u
 exact ⟨cs,ys,hc.blk h1 (fun e=>hg e.symm),h2,h3,h4,h5.setCell (p:=⟨s,0,none⟩) (.inr hs) u⟩
theorem PivI.put {w wr:World} {g sz s:Nat} {xs:List Nat} (h:PivI w wr g xs sz s) (hg:s≠g) (z:Int):PivI w (wr.setCell ⟨s,0,none⟩ (.int .i64 z)) g xs sz s:=by
 obtain ⟨z0,hz0⟩:=h.cell
 exact ⟨h.row.other h.new hg _,h.new,by simpa using h.lt,⟨z,by simp [go_sem,hz0]⟩,by simp [go_sem,h.froz]⟩
theorem PivI.drewN {w wr:World} {g sz s:Nat} {xs:List Nat} (h:PivI w wr g xs sz s) (n:Nat):PivI w (wr.drewN n) g xs sz s :=
 ⟨h.row.drewN n,h.new,h.lt,h.cell,h.froz⟩
def RetOrd (w:World) (g:Nat) (xs:List Nat) (sz s a b:Nat) (e:Ending) (w':World):Prop:=∃ x y:Nat,e = .returned (.tuple #[.int .i64 (x:Int), .int .i64 (y:Int)])∧((x=a∧y=b)∨(x=b∧y=a))∧PivI w w' g xs sz s
theorem order2_any (g n cap sz s a b:Nat) (xs:List Nat) (w wr:World) (h:PivI w wr g xs sz s) (hg:s≠g) (hl:xs.length=n) (ha:a < n) (hb:b < n) :
  Calls Tryz.prog 362 #[.slice (some ⟨g,0,none⟩) n cap, .int .i64 (a:Int), .int .i64 (b:Int), .pointer (some ⟨s,0,none⟩)] wr (RetOrd w g xs sz s a b):=by
 have HP:=hid h
 have H:=hid h.row
 have HL:=hid hl
 have HG:=hid hg
 clear h hl
 have e1:(a:Int) < (n:Int):=by omega
 have e2:(b:Int) < (n:Int):=by omega
 go_enter Tryz.func362,Tryz.ntmps362
 go_wp2_with fail
 obtain ⟨x1,c1,z1⟩:=H.out.at_ (i:=b) (by have:=HL.out;omega)
 obtain ⟨x2,c2,z2⟩:=H.out.at_ (i:=a) (by have:=HL.out;omega)
 obtain ⟨bb,HLs⟩:=less_some x1 x2
 go_quiet ((go_at_call 257;exact Calls.quiet_of_same (HLs.out _)))
 have H1:=hid (H.out.drewN nq)
 clear c1 c2 z1 z2 H
 have HP1:=hid (HP.out.drewN nq)
 clear H1 HP
 generalize wr.drewN nq=wd at *
 obtain ⟨z,hz⟩:=HP1.out.cell
 have hf:=HP1.out.froz
 have HP2:=hid (HP1.out.put HG.out (wrap64 (z+1)))
 cases bb
 ·go_wp2
  go_ret2
  exact ⟨a,b,rfl, .inl ⟨rfl,rfl⟩,HP1.out⟩
 ·go_wp2
  go_ret2
  exact ⟨b,a,rfl, .inr ⟨rfl,rfl⟩,HP2.out⟩
def RetPiv (w:World) (g:Nat) (xs:List Nat) (sz s a b:Nat) (e:Ending) (w':World):Prop:=∃ m:Nat,e = .returned (.int .i64 (m:Int))∧a≤m∧m < b∧PivI w w' g xs sz s
theorem median_any (g n cap sz s a b x y z:Nat) (xs:List Nat) (w wr:World) (h:PivI w wr g xs sz s) (hg:s≠g) (hl:xs.length=n) (hb:b≤n) (hx:a≤x∧x < b) (hy:a≤y∧y < b) (hz:a≤z∧z < b) :
  Calls Tryz.prog 324 #[.slice (some ⟨g,0,none⟩) n cap, .int .i64 (x:Int), .int .i64 (y:Int), .int .i64 (z:Int), .pointer (some ⟨s,0,none⟩)] wr (RetPiv w g xs sz s a b):=by
 have H1:=hid (order2_any g n cap sz s x y xs w wr h hg hl (by omega) (by omega))
 have HL:=hid hl
 have HG:=hid hg
 clear h hl
 go_enter Tryz.func324,Tryz.ntmps324
 go_wp2_with fail
 refine H1.out.mono ?_
 rintro e w1 ⟨x1,y1,rfl,h1,p1⟩
 have hx1:a≤x1∧x1 < b:=by omega
 have hy1:a≤y1∧y1 < b:=by omega
 have H2:=hid (order2_any g n cap sz s y1 z xs w w1 p1 HG.out HL.out (by omega) (by omega))
 clear p1 h1 H1
 go_wp2_with fail
 refine H2.out.mono ?_
 rintro e w2 ⟨y2,z2,rfl,h2,p2⟩
 have hy2:a≤y2∧y2 < b:=by omega
 have H3:=hid (order2_any g n cap sz s x1 y2 xs w w2 p2 HG.out HL.out (by omega) (by omega))
 clear p2 h2 H2
 go_wp2_with fail
 refine H3.out.mono ?_
 rintro e w3 ⟨x3,y3,rfl,h3,p3⟩
 have hy3:a≤y3∧y3 < b:=by omega
 have H4:=hid p3
 clear p3 h3 H3
 go_wp2
 go_ret
 exact ⟨y3,rfl,hy3.1,hy3.2,H4.out⟩
theorem medianAdj_any (g n cap sz s a b x:Nat) (xs:List Nat) (w wr:World) (h:PivI w wr g xs sz s) (hg:s≠g) (hl:xs.length=n) (hb:b≤n) (hx:a < x∧x+1 < b) (hn:n≤1000000) :
  Calls Tryz.prog 323 #[.slice (some ⟨g,0,none⟩) n cap, .int .i64 (x:Int), .pointer (some ⟨s,0,none⟩)] wr (RetPiv w g xs sz s a b):=by
 obtain ⟨x',rfl⟩:∃ x',x=x'+1:=⟨x - 1,by omega⟩
 have hm:=median_any g n cap sz s a b x' (x'+1) (x'+2) xs w wr h hg hl hb (by omega) (by omega) (by omega)
 have HM:=hid hm
 clear h hl hm
 have u1:IntKind.i64.wrap (x':Int)=(x':Int):=by rw [IntKind.wrap_i64];omega
 go_enter Tryz.func323,Tryz.ntmps323
 go_wp2_with fail
 refine HM.out.mono ?_
 rintro e w1 ⟨m,rfl,h1,h2,p⟩
 have HP:=hid p
 clear p HM
 go_wp2
 go_ret
 exact ⟨m,rfl,h1,h2,HP.out⟩
def RetCh (w:World) (g:Nat) (xs:List Nat) (sz a b:Nat) (e:Ending) (w':World):Prop:=∃ (m:Nat) (k:Int),e = .returned (.tuple #[.int .i64 (m:Int), .int .i64 k])∧a≤m∧m < b∧SortI w w' g xs sz
theorem choose_any (g n cap sz a l:Nat) (xs:List Nat) (w:World) (h:SortI w w g xs sz) (hl:xs.length=n) (hb:a+l≤n) (h8:8≤l) (hn:n≤1000000) :
  Calls Tryz.prog 254 #[.slice (some ⟨g,0,none⟩) n cap, .int .i64 (a:Int), .int .i64 ((a+l:Nat):Int)] w (RetCh w g xs sz a (a+l)):=by
 have H:=hid h
 have HL:=hid hl
 clear h hl
 have HS:=hid (show PivI w (w.alloc (.cells #[.int .i64 0] 3)) g xs sz w.heap.size from ⟨by
  obtain ⟨cs,ys,h1,h2,h3,h4,h5⟩:=H.out
  exact ⟨cs,ys,(h1.alloc _),h2,h3,h4,h5.below ((Below.refl _ w).alloc (Nat.le_refl _) _)⟩,Nat.le_refl _,by simp,⟨0,by simp [go_sem]⟩,by simp [go_sem]⟩)
 have HG:Hid (w.heap.size≠g):=hid (by
  obtain ⟨cs,ys,h1,_⟩:=H.out
  have:=h1.lt
  omega)
 obtain ⟨q,HQ⟩:∃ q:Nat,Hid ((l:Int) / 4=(q:Int)∧2≤q∧4 * q≤l):=⟨l / 4,by omega,by omega,by omega⟩
 have ea:Hid ((a:Int)+(l:Int) - (a:Int)=(l:Int)):=hid (by omega)
 have c1:Hid ((a:Int)+(q:Int)=((a+q:Nat):Int)):=hid (by omega)
 have c2:Hid ((a:Int)+(q:Int) * 2=((a+q * 2:Nat):Int)):=hid (by omega)
 have c3:Hid ((a:Int)+(q:Int) * 3=((a+q * 3:Nat):Int)):=hid (by omega)
 clear H
 go_enter Tryz.func254,Tryz.ntmps254
 go_wp2_with fail
 all_goals generalize w.alloc (.cells #[.int .i64 0] 3)=W at *
 all_goals rw [ea.out,HQ.out.1,c1.out,c2.out,c3.out]
 all_goals obtain ⟨hq1,hq4⟩:=HQ.out.2
 all_goals clear ea HQ c1 c2 c3
 ·refine (medianAdj_any g n cap sz w.heap.size a (a+l) (a+q) xs w W HS.out HG.out HL.out hb (by omega) hn).mono ?_
  rintro e w1 ⟨x1,rfl,a1,b1,p1⟩
  have H1:=hid p1
  clear p1
  go_wp2_with fail
  refine (medianAdj_any g n cap sz w.heap.size a (a+l) (a+q * 2) xs w w1 H1.out HG.out HL.out hb (by omega) hn).mono ?_
  rintro e w2 ⟨x2,rfl,a2,b2,p2⟩
  have H2:=hid p2
  clear p2 H1
  go_wp2_with fail
  refine (medianAdj_any g n cap sz w.heap.size a (a+l) (a+q * 3) xs w w2 H2.out HG.out HL.out hb (by omega) hn).mono ?_
  rintro e w3 ⟨x3,rfl,a3,b3,p3⟩
  have H3:=hid p3
  clear p3 H2
  go_wp2_with fail
  refine (median_any g n cap sz w.heap.size a (a+l) x1 x2 x3 xs w w3 H3.out HG.out HL.out hb ⟨a1,b1⟩ ⟨a2,b2⟩ ⟨a3,b3⟩).mono ?_
  rintro e w4 ⟨m,rfl,a4,b4,p4⟩
  have H4:=hid p4
  obtain ⟨z,hz⟩:=p4.cell
  clear p4 H3
  go_wp2_with fail
  all_goals (go_ret2;exact ⟨m,_,rfl,a4,b4,H4.out.row⟩)
 ·refine (median_any g n cap sz w.heap.size a (a+l) (a+q) (a+q * 2) (a+q * 3) xs w W HS.out HG.out HL.out hb (by omega) (by omega) (by omega)).mono ?_
  rintro e w4 ⟨m,rfl,a4,b4,p4⟩
  have H4:=hid p4
  obtain ⟨z,hz⟩:=p4.cell
  clear p4
  go_wp2_with fail
  all_goals (go_ret2;exact ⟨m,_,rfl,a4,b4,H4.out.row⟩)
end
section
open Go.RowKit
def RowQ (Q:Nat→Prop) (cs:Array Value) (n:Nat):Prop:=n≤cs.size∧∀ i,i < n→∃ x:Nat,Q x∧cs[i]?=some (.int .u64 (x:Int))
theorem RowQ.set {Q:Nat→Prop} {cs:Array Value} {n:Nat} (h:RowQ Q cs n) (j x:Nat) (hj:j < n) (hx:Q x):RowQ Q (cs.setIfInBounds j (.int .u64 (x:Int))) n:=by
 refine ⟨by simpa using h.1,fun i hi=>?_⟩
 rw [set_at i (by have:=h.1;omega)]
 by_cases hij:i=j
 ·rw [if_pos hij];exact ⟨x,hx,rfl⟩
 ·rw [if_neg hij];exact h.2 i hi
def RowR (R:Nat→Prop) (cs:Array Value) (n:Nat):Prop:=∀ x,R x→∃ i,i < n∧cs[i]?=some (.int .u64 (x:Int))
def RowT (R:Nat→Prop) (cs:Array Value) (n kk b:Nat):Prop:=(∀ x,R x→∃ i,(i < kk∨b≤i∧i < n)∧cs[i]?=some (.int .u64 (x:Int)))∧∃ i,i < kk∧cs[i]?=cs[b - 1]?
theorem RowT.first {R:Nat→Prop} {cs:Array Value} {n q:Nat} (h:RowR R cs n) (he:cs[q+1]?=cs[q]?):RowT R cs n (q+1) (q+2):=by
 refine ⟨fun x hx=>?_,q,by omega,by rw [show q+2 - 1=q+1 by omega,he]⟩
 obtain ⟨i,hi,hv⟩:=h x hx
 by_cases hq:i=q+1
 ·exact ⟨q, .inl (by omega),by rw [← he,← hq];exact hv⟩
 ·exact ⟨i,by omega,hv⟩
theorem RowT.same {R:Nat→Prop} {cs:Array Value} {n kk b:Nat} (h:RowT R cs n kk (b+1)) (he:cs[b+1]?=cs[b]?):RowT R cs n kk (b+2):=by
 obtain ⟨h1,i0,hi0,hv0⟩:=h
 rw [show b+1 - 1=b by omega] at hv0
 refine ⟨fun x hx=>?_,i0,hi0,by rw [show b+2 - 1=b+1 by omega,he];exact hv0⟩
 obtain ⟨i,hi,hv⟩:=h1 x hx
 by_cases hq:i=b+1
 ·exact ⟨i0, .inl hi0,by rw [hv0,← he,← hq];exact hv⟩
 ·exact ⟨i,by omega,hv⟩
theorem RowT.moved {R:Nat→Prop} {cs:Array Value} {n kk b:Nat} {y:Nat} (h:RowT R cs n kk (b+1)) (hk:kk≤b) (hn:n≤cs.size) (hb:b+1 < n) (hy:cs[b+1]?=some (.int .u64 (y:Int))):RowT R (cs.setIfInBounds kk (.int .u64 (y:Int))) n (kk+1) (b+2):=by
 have ha:∀ i,(cs.setIfInBounds kk (.int .u64 (y:Int)))[i]?=if i=kk then some (.int .u64 (y:Int)) else cs[i]?:=fun i=>set_at i (by omega)
 refine ⟨fun x hx=>?_,kk,by omega,by rw [ha,ha,if_pos rfl,if_neg (by omega),show b+2 - 1=b+1 by omega];exact hy.symm⟩
 obtain ⟨i,hi,hv⟩:=h.1 x hx
 by_cases hq:i=b+1
 ·refine ⟨kk, .inl (by omega),?_⟩
  rw [ha,if_pos rfl,← hy,← hq];exact hv
 ·exact ⟨i,by omega,by rw [ha,if_neg (by omega)];exact hv⟩
theorem RowT.done {R:Nat→Prop} {cs:Array Value} {n kk b:Nat} (h:RowT R cs n kk b) (hb:n≤b):RowR R cs kk:=fun x hx=>by
 obtain ⟨i,hi,hv⟩:=h.1 x hx
 exact ⟨i,by omega,hv⟩
theorem blk_setCells {g:Nat} {t:TypeId}:∀ (vs:List Value) (o:Nat) {w:World} {cs:Array Value},Blk w g t cs→∃ cs',Blk (w.setCells g o vs) g t cs'∧cs'.size=cs.size∧∀ i,i < o→cs'[i]?=cs[i]?
 | [],_,_,cs,h=>⟨cs,h,rfl,fun _ _=>rfl⟩
 | v :: r,o,w,cs,h=>by
  obtain ⟨cs',h1,h2,h3⟩:=blk_setCells r (o+1) (h.set_ o v)
  refine ⟨cs',h1,by simpa using h2,fun i hi=>?_⟩
  rw [h3 i (by omega),Array.getElem?_setIfInBounds_ne (by omega)]
theorem chg_setCells {g:Nat} {S:Fp} {w0:World} (hS:S g):∀ (vs:List Value) (o:Nat) {w:World},Chg S w0 w→Chg S w0 (w.setCells g o vs)
 | [],_,_,h=>h
 | v :: r,o,_,h=>chg_setCells hS r (o+1) (h.setCell (p:=⟨g,o,none⟩) (.inl hS) v)
def CompI (Q R:Nat→Prop) (w wr:World) (g n sz:Nat):Prop:=∃ cs,Blk wr g 32 cs∧cs.size=sz∧RowQ Q cs n∧Chg (fun k=>k=g) w wr∧RowR R cs n
def CompT (Q R:Nat→Prop) (w wr:World) (g n sz kk b:Nat):Prop:=∃ cs,Blk wr g 32 cs∧cs.size=sz∧RowQ Q cs n∧Chg (fun k=>k=g) w wr∧RowT R cs n kk b
def RetComp (Q R:Nat→Prop) (w:World) (g n cap sz:Nat) (e:Ending) (w':World):Prop:=∃ m,e = .returned (.slice (some ⟨g,0,none⟩) m cap)∧m≤n∧CompI Q R w w' g m sz
theorem compact_any (Q R:Nat→Prop) (g n cap sz:Nat) (w:World) (h:CompI Q R w w g n sz) (hn:n≤1000000) (hc:n≤cap) (hcm:cap≤9223372036854775807) :
  Calls Tryz.prog 203 #[.slice (some ⟨g,0,none⟩) n cap] w (RetComp Q R w g n cap sz):=by
 have H0:=hid h
 clear h
 by_cases h2:n < 2
 ·have e1:decide ((n:Int) < 2)=true:=decide_eq_true (by omega)
  have e2:decide (n < 2)=true:=decide_eq_true h2
  go_enter Tryz.func203,Tryz.ntmps203
  go_wp2
  go_ret
  exact ⟨n,rfl,Nat.le_refl _,H0.out⟩
 ·have e1:decide ((n:Int) < 2)=false:=decide_eq_false (by omega)
  have e2:decide (n < 2)=false:=decide_eq_false h2
  go_enter Tryz.func203,Tryz.ntmps203
  go_wp2
  go_loopw [3] (fun i wr=>∃ (k:Nat),1≤k∧k≤n∧i = .int .i64 k∧Hid (CompI Q R w wr g n sz)) (fun i _=>n - (RowKit.intOf i).toNat)
  case atStart=>exact ⟨1,by omega,by omega,rfl,H0⟩
  case round =>
   clear H0
   obtain ⟨k,hk1,hk,rfl,H⟩:=hrel
   by_cases hlt:k < n
   ·obtain ⟨q,rfl⟩:∃ q,k=q+1:=⟨k - 1,by omega⟩
    obtain ⟨cs,h1,h2',h3,h4,h5⟩:=H.out
    obtain ⟨x1,hq1,hx1⟩:=h3.2 (q+1) hlt
    obtain ⟨x0,hq0,hx0⟩:=h3.2 q (by omega)
    have HT1:Hid (x1=x0→CompT Q R w wr.drew g n sz (q+1) (q+2)):=hid (fun e=>⟨cs,h1,h2',h3,h4.drew,RowT.first h5 (by rw [hx1,hx0,e])⟩)
    have c1:wr.cell? ⟨g,q+1,none⟩=some (.int .u64 (x1:Int)):=by rw [h1.cell];exact hx1
    have c0:wr.cell? ⟨g,q,none⟩=some (.int .u64 (x0:Int)):=by rw [h1.cell];exact hx0
    have H1:Hid (CompI Q R w wr.drew g n sz):=⟨cs,h1,h2',h3,h4.drew,h5⟩
    clear h1 h2' h3 h4 h5 hx1 hx0 H
    have a1:(0:Int)≤(q:Int)+1:=by omega
    have a2:(q:Int)+1 < (n:Int):=by omega
    have a3:(q:Int) < (n:Int):=by omega
    have a4:(0:Int)≤(q:Int):=by omega
    have a5:((q:Int)+1).toNat=q+1:=by omega
    have a6:IntKind.i64.wrap (q:Int)=(q:Int):=by rw [IntKind.wrap_i64];omega
    by_cases hxx:x1=x0
    ·have t1:((x1:Int) == (x0:Int))=true:=by rw [beq_iff_eq];omega
     have HT2:=hid (HT1.out hxx)
     clear HT1
     go_wp2
     go_region
     go_wp2
     clear t1 c1 c0 a1 a2 a3 a4 a5 a6 hq1 hq0
     go_loopw [3,5] (fun i j wr=>∃ (kk k2:Nat),q+1≤kk∧kk≤q+k2∧1≤k2∧k2+(q+1)≤n∧i = .int .i64 kk∧j = .int .i64 k2∧Hid (CompT Q R w wr g n sz kk (q+1+k2))) (fun _ j _=>n - (RowKit.intOf j).toNat)
     case atStart=>exact ⟨q+1,1,by omega,by omega,by omega,by omega,rfl,rfl,HT2⟩
     case round =>
      clear H1 HT2
      obtain ⟨kk,k2,b1,b2,b3,b4,rfl,rfl,H⟩:=hrel
      by_cases hl2:k2+(q+1) < n
      ·obtain ⟨r,rfl⟩:∃ r,k2=r+1:=⟨k2 - 1,by omega⟩
       obtain ⟨cs,h1,h2',h3,h4,h5⟩:=H.out
       obtain ⟨y1,hy1,hz1⟩:=h3.2 (q+1+(r+1)) (by omega)
       obtain ⟨y0,hy0,hz0⟩:=h3.2 (q+1+r) (by omega)
       obtain ⟨yk,hyk,hzk⟩:=h3.2 kk (by omega)
       have c1:wr.cell? ⟨g,q+1+(r+1),none⟩=some (.int .u64 (y1:Int)):=by rw [h1.cell];exact hz1
       have c0:wr.cell? ⟨g,q+1+r,none⟩=some (.int .u64 (y0:Int)):=by rw [h1.cell];exact hz0
       have ck:wr.cell? ⟨g,kk,none⟩=some (.int .u64 (yk:Int)):=by rw [h1.cell];exact hzk
       have zk:=h1.frozen kk
       have HA:Hid (y1=y0→CompT Q R w wr.drew g n sz kk (q+1+(r+2))):=hid (fun e=>⟨cs,h1,h2',h3,h4.drew,RowT.same (b:=q+1+r) h5 (by rw [show q+1+r+1=q+1+(r+1) by omega,hz1,hz0,e])⟩)
       have HB:Hid (CompT Q R w (wr.setCell ⟨g,kk,none⟩ (.int .u64 (y1:Int))).drew g n sz (kk+1) (q+1+(r+2))):=hid ⟨_,h1.set_ kk _,by simpa using h2',h3.set kk y1 (by omega) hy1,(h4.setCell (p:=⟨g,kk,none⟩) (.inl rfl) _).drew,RowT.moved (b:=q+1+r) h5 (by omega) h3.1 (by omega) hz1⟩
       clear h1 h2' h3 h4 h5 hz1 hz0 hzk H
       have a1:(0:Int)≤(r:Int)+1:=by omega
       have a2:(r:Int)+1 < ((n - (q+1):Nat):Int):=by omega
       have a3:(r:Int) < ((n - (q+1):Nat):Int):=by omega
       have a4:(0:Int)≤(r:Int):=by omega
       have a5:((r:Int)+1).toNat=r+1:=by omega
       have a6:IntKind.i64.wrap (r:Int)=(r:Int):=by rw [IntKind.wrap_i64];omega
       have a7:decide (((r+1:Nat):Int) < ((n - (q+1):Nat):Int))=true:=decide_eq_true (by omega)
       have a8:(kk:Int) < (n:Int):=by omega
       have a9:(0:Int)≤(kk:Int):=by omega
       have a10:decide (r+1 < n - (q+1))=true:=decide_eq_true (by omega)
       by_cases hyy:y1=y0
       ·have t1:((y1:Int) != (y0:Int))=false:=by simp [hyy]
        have HA2:=hid (HA.out hyy)
        clear HA HB
        go_wp2
        go_region
        go_wp2
        exact ⟨⟨kk,r+2,by omega,by omega,by omega,by omega,rfl,by go_num,HA2⟩,by simp [RowKit.intOf];omega⟩
       ·have t1:((y1:Int) != (y0:Int))=true:=by rw [bne_iff_ne];omega
        go_wp2
        go_region
        go_wp2
        exact ⟨⟨kk+1,r+2,by omega,by omega,by omega,by omega,by go_num,by go_num,HB⟩,by simp [RowKit.intOf];omega⟩
      ·obtain ⟨cs,h1,h2',h3,h4,h5⟩:=H.out
       have hcl:∀ ty,(Builtin.clear_ #[99] ty #[.slice (some ⟨g,kk,none⟩) (n - kk) (cap - kk)]).run Tryz.prog wr = .ok (.tuple #[]) (wr.setCells g kk (List.replicate (n - kk) (.int .u64 0))):=fun ty =>
        Lib.run_clear_slice wr 99 32 ty (.int .u64 0) Tryz.underlying99 (fun _=>by kernel_rfl) rfl rfl g kk (n - kk) (cap - kk) (by omega) (fun j hj=>by
         obtain ⟨x,_,hx⟩:=h3.2 (kk+j) (by omega)
         rw [h1.cell,hx];rfl) (fun j _=>h1.frozen _)
       have HE:Hid (CompI Q R w (wr.setCells g kk (List.replicate (n - kk) (.int .u64 0))) g kk sz):=by
        obtain ⟨cs',k1,k2',k3⟩:=blk_setCells (List.replicate (n - kk) (Value.int .u64 0)) kk h1
        refine ⟨cs',k1,by omega,⟨by have:=h3.1;omega,fun i hi=>?_⟩,chg_setCells (S:=fun k=>k=g) rfl _ _ h4,fun x hx=>?_⟩
        ·rw [k3 i hi]
         exact h3.2 i (by omega)
        ·obtain ⟨i,hi,hv⟩:=(h5.done (by omega)) x hx
         exact ⟨i,hi,by rw [k3 i hi];exact hv⟩
       clear h1 h2' h3 h4 h5 H
       have a7:decide ((k2:Int) < ((n - (q+1):Nat):Int))=false:=decide_eq_false (by omega)
       have a10:decide (k2 < n - (q+1))=false:=decide_eq_false (by omega)
       have a8:(kk:Int)≤(n:Int):=by omega
       have a9:(0:Int)≤(kk:Int):=by omega
       have a11:(kk:Int)≤(cap:Int):=by omega
       have a12:¬ cap=kk:=by omega
       have a13:¬ kk=cap:=by omega
       go_wp2
       go_ret
       exact ⟨kk,rfl,by omega,HE.out⟩
    ·have t1:((x1:Int) == (x0:Int))=false:=by rw [beq_eq_false_iff_ne];omega
     clear HT1
     go_wp2
     go_region
     go_wp2
     exact ⟨⟨q+2,by omega,by omega,by go_num,H1⟩,by simp [RowKit.intOf];omega⟩
   ·obtain rfl:n=k:=by omega
    go_wp2
    go_ret
    exact ⟨n,rfl,Nat.le_refl _,H.out⟩
end
section
open Go.RowKit
def RetTry (w:World) (g:Nat) (xs:List Nat) (sz:Nat) (e:Ending) (w':World):Prop:=∃ c:Bool,e = .returned (.bool c)∧SortI w w' g xs sz
theorem partialIns_any (g n cap sz a b:Nat) (xs:List Nat) (w:World) (h:SortI w w g xs sz) (hl:xs.length=n) (hab:a < b) (hb:b≤n) (hn:n≤1000000) (hc:n≤cap) (hcm:cap≤9223372036854775807) :
  Calls Tryz.prog 256 #[.slice (some ⟨g,0,none⟩) n cap, .int .i64 (a:Int), .int .i64 (b:Int)] w (RetTry w g xs sz):=by
 have H:=hid h
 have HL:=hid hl
 clear h hl
 go_enter Tryz.func256,Tryz.ntmps256
 go_wp2
 go_loopw [7,8] (fun i j wr=>∃ (k d:Nat),a+1≤k∧k≤b∧d≤5∧i = .int .i64 k∧j = .int .i64 d∧Hid (SortI w wr g xs sz)) (fun _ j _=>5 - (RowKit.intOf j).toNat)
 case atStart=>exact ⟨a+1,0,by omega,by omega,by omega,by go_num,by go_num,H⟩
 case round =>
  clear H
  obtain ⟨k0,d,hk01,hk02,hd5,rfl,rfl,H⟩:=hrel
  by_cases hlt5:d < 5
  ·have e5:decide ((d:Int) < 5)=true:=decide_eq_true (by omega)
   go_upto_block 2 with fail
   go_cut [7] from 13 to 132 (fun v wx=>∃ k:Nat,v = .int .i64 k∧k0≤k∧k≤b∧Hid (SortI w wx g xs sz))
   case first =>
    go_wp2_with fail
    go_loopw [7] (fun i wr=>∃ k:Nat,k0≤k∧k≤b∧i = .int .i64 k∧Hid (SortI w wr g xs sz)) (fun i _=>b - (RowKit.intOf i).toNat)
    case atStart=>exact ⟨k0,by omega,by omega,rfl,H⟩
    case round =>
     clear H
     obtain ⟨k,hk1,hk2,rfl,H⟩:=hrel
     by_cases hle:k < b
     ·obtain ⟨q',rfl⟩:∃ q',k=q'+1:=⟨k - 1,by omega⟩
      have e2:(q':Int)+1 < (n:Int):=by omega
      have e3:(q':Int) < (n:Int):=by omega
      have e4:decide ((q':Int)+1 < (b:Int))=true:=decide_eq_true (by omega)
      have e6:((q':Int)+1).toNat=q'+1:=by omega
      have e8:IntKind.i64.wrap (q':Int)=(q':Int):=by rw [IntKind.wrap_i64];omega
      have e9:(0:Int)≤(q':Int)+1:=by omega
      go_wp2_with fail
      obtain ⟨x1,c1,z1⟩:=H.out.at_ (i:=(q'+1)) (by have:=HL.out;omega)
      obtain ⟨x2,c2,z2⟩:=H.out.at_ (i:=q') (by have:=HL.out;omega)
      obtain ⟨bb,HLs⟩:=less_some x1 x2
      go_quiet ((go_at_call 257;exact Calls.quiet_of_same (HLs.out _)))
      have H1:=hid (H.out.drewN nq)
      clear c1 c2 z1 z2 H
      cases bb
      ·go_wp2_with fail
       go_roundw
       case rel=>exact ⟨q'+2,by omega,by omega,by go_num,H1⟩
       case measure=>simp [RowKit.intOf];omega
      ·go_wp2_with fail
       go_meet
       exact ⟨q'+1,by go_num,hk1,hk2,H1⟩
     ·have e4:decide ((k:Int) < (b:Int))=false:=decide_eq_false (by omega)
      go_wp2_with fail
      go_quiet (fail)
      have H1:=hid (H.out.drewN nq)
      go_wp2_with fail
      go_meet
      exact ⟨k,rfl,hk1,hk2,H1⟩
   case rest =>
    clear H
    obtain ⟨k,rfl,hk1,hk2,H⟩:=hcut
    by_cases hkb:k=b
    ·subst hkb
     go_wp2_with fail
     go_ret
     exact ⟨true,rfl,H.out⟩
    ·have e1:((k:Int) == (b:Int))=false:=by
      rw [beq_eq_false_iff_ne];omega
     by_cases h50:b < a+50
     ·have e2:decide ((b:Int) - (a:Int) < 50)=true:=decide_eq_true (by omega)
      go_wp2_with fail
      go_ret
      exact ⟨false,rfl,H.out⟩
     ·have e2:decide ((b:Int) - (a:Int) < 50)=false:=decide_eq_false (by omega)
      obtain ⟨q',rfl⟩:∃ q',k=q'+1:=⟨k - 1,by omega⟩
      have e3:(q':Int) < (n:Int):=by omega
      have e4:(q':Int)+1 < (n:Int):=by omega
      have e6:((q':Int)+1).toNat=q'+1:=by omega
      have e8:IntKind.i64.wrap (q':Int)=(q':Int):=by rw [IntKind.wrap_i64];omega
      have e9:(0:Int)≤(q':Int)+1:=by omega
      go_wp2_with fail
      obtain ⟨x1,c1,z1⟩:=H.out.at_ (i:=(q'+1)) (by have:=HL.out;omega)
      obtain ⟨x2,c2,z2⟩:=H.out.at_ (i:=q') (by have:=HL.out;omega)
      obtain ⟨x3,c3⟩:=H.out.mid (i:=(q'+1)) (j:=q') (by have:=HL.out;omega) (.int .u64 (x2:Int))
      have H1:=hid (H.out.swap (by have:=HL.out;omega) (by have:=HL.out;omega) c1 c2).drew
      clear H
      go_region
      clear c1 c2 c3 z1 z2
      have H:=H1
      clear H1
      go_upto_if 61 with fail
      go_cut [9] from 13 to 132 (fun _ wx=>Hid (SortI w wx g xs sz))
      case first =>
       by_cases h2:a+2≤q'+1
       ·have e10:decide (2≤(q':Int)+1 - (a:Int))=true:=decide_eq_true (by omega)
        go_wp2_with fail
        go_loopw [9] (fun i wr=>∃ k:Nat,k≤q'∧i = .int .i64 k∧Hid (SortI w wr g xs sz)) (fun i _=>(RowKit.intOf i).toNat)
        case atStart=>exact ⟨q',by omega,by go_num,H⟩
        case round =>
         clear H
         obtain ⟨k,hk1,rfl,H⟩:=hrel
         by_cases h1:1≤k
         ·obtain ⟨r,rfl⟩:∃ r,k=r+1:=⟨k - 1,by omega⟩
          have f1:(r:Int) < (n:Int):=by omega
          have f2:(r:Int)+1 < (n:Int):=by omega
          have f3:((r:Int)+1).toNat=r+1:=by omega
          have f4:IntKind.i64.wrap (r:Int)=(r:Int):=by rw [IntKind.wrap_i64];omega
          have f5:(0:Int)≤(r:Int)+1:=by omega
          have f6:decide (1≤(r:Int)+1)=true:=decide_eq_true (by omega)
          go_wp2_with fail
          obtain ⟨x1,c1,z1⟩:=H.out.at_ (i:=(r+1)) (by have:=HL.out;omega)
          obtain ⟨x2,c2,z2⟩:=H.out.at_ (i:=r) (by have:=HL.out;omega)
          obtain ⟨bb,HLs⟩:=less_some x1 x2
          go_quiet ((go_at_call 257;exact Calls.quiet_of_same (HLs.out _)))
          have H1:=hid (H.out.drewN nq)
          clear c1 c2 z1 z2 H
          cases bb
          ·go_wp2_with fail
           go_meet
           exact H1
          ·have H:=H1
           clear H1
           generalize wr.drewN nq=wr at *
           obtain ⟨x1,c1,z1⟩:=H.out.at_ (i:=(r+1)) (by have:=HL.out;omega)
           obtain ⟨x2,c2,z2⟩:=H.out.at_ (i:=r) (by have:=HL.out;omega)
           obtain ⟨x3,c3⟩:=H.out.mid (i:=(r+1)) (j:=r) (by have:=HL.out;omega) (.int .u64 (x2:Int))
           have H1:=hid (H.out.swap (by have:=HL.out;omega) (by have:=HL.out;omega) c1 c2).drew
           clear H
           go_wp2_with fail
           go_region
           clear c1 c2 c3 z1 z2
           go_wp2_with fail
           go_roundw
           case rel=>exact ⟨r,by omega,by go_num,H1⟩
           case measure=>simp [RowKit.intOf]
         ·have f6:decide (1≤(k:Int))=false:=decide_eq_false (by omega)
          go_wp2_with fail
          go_meet
          exact H
       ·have e10:decide (2≤(q':Int)+1 - (a:Int))=false:=decide_eq_false (by omega)
        go_wp2_with fail
        go_meet
        exact H
      case rest =>
       clear H
       have H:=hcut
       clear hcut
       by_cases h2:q'+3≤b
       ·have e10:decide (2≤(b:Int) - ((q':Int)+1))=true:=decide_eq_true (by omega)
        go_wp2_with fail
        go_loopw [10] (fun i wr=>∃ k:Nat,q'+2≤k∧k≤b∧i = .int .i64 k∧Hid (SortI w wr g xs sz)) (fun i _=>b - (RowKit.intOf i).toNat)
        case atStart=>exact ⟨q'+2,by omega,by omega,by go_num,H⟩
        case round =>
         clear H
         obtain ⟨k,hk0,hk1,rfl,H⟩:=hrel
         by_cases h1:k < b
         ·obtain ⟨r,rfl⟩:∃ r,k=r+1:=⟨k - 1,by omega⟩
          have f1:(r:Int) < (n:Int):=by omega
          have f2:(r:Int)+1 < (n:Int):=by omega
          have f3:((r:Int)+1).toNat=r+1:=by omega
          have f4:IntKind.i64.wrap (r:Int)=(r:Int):=by rw [IntKind.wrap_i64];omega
          have f5:(0:Int)≤(r:Int)+1:=by omega
          have f6:decide ((r:Int)+1 < (b:Int))=true:=decide_eq_true (by omega)
          go_wp2_with fail
          obtain ⟨x1,c1,z1⟩:=H.out.at_ (i:=(r+1)) (by have:=HL.out;omega)
          obtain ⟨x2,c2,z2⟩:=H.out.at_ (i:=r) (by have:=HL.out;omega)
          obtain ⟨bb,HLs⟩:=less_some x1 x2
          go_quiet ((go_at_call 257;exact Calls.quiet_of_same (HLs.out _)))
          have H1:=hid (H.out.drewN nq)
          clear c1 c2 z1 z2 H
          cases bb
          ·go_wp2_with fail
           go_roundw
           case rel=>exact ⟨q'+1,d+1,by omega,by omega,by omega,by go_num,by go_num,H1⟩
           case measure=>simp [RowKit.intOf];omega
          ·have H:=H1
           clear H1
           generalize wr.drewN nq=wr at *
           obtain ⟨x1,c1,z1⟩:=H.out.at_ (i:=(r+1)) (by have:=HL.out;omega)
           obtain ⟨x2,c2,z2⟩:=H.out.at_ (i:=r) (by have:=HL.out;omega)
           obtain ⟨x3,c3⟩:=H.out.mid (i:=(r+1)) (j:=r) (by have:=HL.out;omega) (.int .u64 (x2:Int))
           have H1:=hid (H.out.swap (by have:=HL.out;omega) (by have:=HL.out;omega) c1 c2).drew
           clear H
           go_wp2_with fail
           go_region
           clear c1 c2 c3 z1 z2
           go_wp2_with fail
           go_roundw
           case rel=>exact ⟨r+2,by omega,by omega,by go_num,H1⟩
           case measure=>simp [RowKit.intOf];omega
         ·have f6:decide ((k:Int) < (b:Int))=false:=decide_eq_false (by omega)
          go_wp2_with fail
          go_roundw
          case rel=>exact ⟨q'+1,d+1,by omega,by omega,by omega,by go_num,by go_num,H⟩
          case measure=>simp [RowKit.intOf];omega
       ·have e10:decide (2≤(b:Int) - ((q':Int)+1))=false:=decide_eq_false (by omega)
        go_wp2_with fail
        go_roundw
        case rel=>exact ⟨q'+1,d+1,by omega,by omega,by omega,by go_num,by go_num,H⟩
        case measure=>simp [RowKit.intOf];omega
  ·have e5:decide ((d:Int) < 5)=false:=decide_eq_false (by omega)
   go_wp2_with fail
   go_ret
   exact ⟨false,rfl,H.out⟩
end
section
open Go.RowKit Go.Sort
theorem setCell_twice (w:World) (b o:Nat) (v v':Value):(w.setCell ⟨b,o,none⟩ v).setCell ⟨b,o,none⟩ v'=w.setCell ⟨b,o,none⟩ v':=by
 rw [setCell_eq,setCell_eq,mapBlock_mapBlock,setCell_eq]
 congr 1
 funext c
 simp
def RetNext (w:World) (s:Nat) (e:Ending) (w':World):Prop:=∃ v:Nat,v < 18446744073709551616∧e = .returned (.int .u64 (v:Int))∧w'=(w.setCell ⟨s,0,none⟩ (.int .u64 (v:Int))).drewN 3
theorem next_any (s X:Nat) (hX:X < 18446744073709551616) (w:World) (hc:w.cell? ⟨s,0,none⟩=some (.int .u64 (X:Int))) (hf:w.frozen? ⟨s,0,none⟩=false) :
  Calls Tryz.prog 304 #[.pointer (some ⟨s,0,none⟩)] w (RetNext w s):=by
 obtain ⟨A,hA⟩:∃ A:Nat,A=X ^^^ (X * 8192 % 18446744073709551616):=⟨_,rfl⟩
 obtain ⟨B,hB⟩:∃ B:Nat,B=A ^^^ (A / 128):=⟨_,rfl⟩
 obtain ⟨C,hC⟩:∃ C:Nat,C=B ^^^ (B * 131072 % 18446744073709551616):=⟨_,rfl⟩
 have lA:A < 18446744073709551616:=by rw [hA];exact Nat.xor_lt_two_pow (n:=64) (by omega) (by omega)
 have lB:B < 18446744073709551616:=by rw [hB];exact Nat.xor_lt_two_pow (n:=64) (by omega) (by omega)
 have lC:C < 18446744073709551616:=by rw [hC];exact Nat.xor_lt_two_pow (n:=64) (by omega) (by omega)
 have e1:bits .xor .u64 (X:Int) (IntKind.u64.wrap ((X:Int) * 8192))=(A:Int):=by
  rw [IntKind.wrap_u64,show ((X:Int) * 8192 % 18446744073709551616)=((X * 8192 % 18446744073709551616:Nat):Int) by omega,bits_xor_u64_nat _ _ hX (by omega),hA]
 have e2:bits .xor .u64 (A:Int) ((A:Int) / 128)=(B:Int):=by
  rw [show ((A:Int) / 128)=((A / 128:Nat):Int) by omega,bits_xor_u64_nat _ _ lA (by omega),hB]
 have e3:bits .xor .u64 (B:Int) (IntKind.u64.wrap ((B:Int) * 131072))=(C:Int):=by
  rw [IntKind.wrap_u64,show ((B:Int) * 131072 % 18446744073709551616)=((B * 131072 % 18446744073709551616:Nat):Int) by omega,bits_xor_u64_nat _ _ lB (by omega),hC]
 clear hA hB hC
 have hss:∀ v v',(w.setCell ⟨s,0,none⟩ v).setCell ⟨s,0,none⟩ v'=w.setCell ⟨s,0,none⟩ v':=setCell_twice w s 0
 go_enter Tryz.func304,Tryz.ntmps304
 go_wp2
 go_region
 all_goals go_wp2
 all_goals go_region
 all_goals go_wp2
 all_goals go_region
 all_goals go_wp2
 go_ret
 exact ⟨C,lC,rfl,rfl⟩
theorem bitLen_two (x:Nat) (h0:0 < x) (h:x≤1000000):2 ^ Lib.bitLen x≤2 * x∧Lib.bitLen x≤20:=by
 obtain ⟨h1,h2,h3⟩:=Lib.bitLenAux_bounds 64 x (by omega) (by omega)
 refine ⟨?_,Lib.bitLen_le x 20 (by omega) (by omega)⟩
 have:2 ^ Lib.bitLen x=2 * 2 ^ (Lib.bitLenAux 64 x - 1):=by
  unfold Lib.bitLen
  rw [← Nat.pow_succ']
  congr 1
  omega
 omega
theorem tab_at (y:Nat) (h:y < 256) (hy:y < Lib.len8tab.size):((Lib.len8tab[y]'hy).toNat:Nat)=Lib.bitLen y∧Lib.bitLen y≤8:=by
 have e:=Lib.len8_eq ⟨y,h⟩
 unfold Lib.len8 at e
 have g:Lib.len8tab[y]?=some (Lib.len8tab[y]'hy):=getElem?_pos _ _ _
 simp only [Int.toNat_natCast,g,Option.getD_some] at e
 exact ⟨by exact_mod_cast e,Lib.bitLen_le8 ⟨y,h⟩⟩
theorem len_any (n:Nat) (w:World) (hn:n≤1000000) :
  Calls Tryz.prog 109 #[.int .u64 (n:Int)] w fun e w'=>e = .returned (.int .i64 (Lib.bitLen n:Int))∧w'=w:=by
 have e1:IntKind.u64.wrap (n:Int)=(n:Int):=by rw [IntKind.wrap_u64];omega
 have e2:decide ((4294967296:Int)≤(n:Int))=false:=decide_eq_false (by omega)
 have e5:(0:Int)≤(n:Int):=by omega
 by_cases h1:n < 256
 ·have e3:decide ((65536:Int)≤(n:Int))=false:=decide_eq_false (by omega)
  have e4:decide ((256:Int)≤(n:Int))=false:=decide_eq_false (by omega)
  have e6:(n:Int) < 256:=by omega
  go_enter Tryz.func109,Tryz.ntmps109
  go_wp2_with go_in
  go_ret
  refine ⟨congrArg Ending.returned (congrArg (Value.int IntKind.i64) ?_),rfl⟩
  have ht:=tab_at (n) (by omega) (by rw [Lib.len8tab_size];omega)
  rw [ht.1]
  unfold wrap64
  omega
 ·by_cases h2:n < 65536
  ·have e3:decide ((65536:Int)≤(n:Int))=false:=decide_eq_false (by omega)
   have e4:decide ((256:Int)≤(n:Int))=true:=decide_eq_true (by omega)
   have e6:(n:Int) / 256 < 256:=by omega
   have e7:(0:Int)≤(n:Int) / 256:=by omega
   go_enter Tryz.func109,Tryz.ntmps109
   go_wp2_with go_in
   go_ret
   refine ⟨congrArg Ending.returned (congrArg (Value.int IntKind.i64) ?_),rfl⟩
   have ht:=tab_at (n / 256) (by omega) (by rw [Lib.len8tab_size];omega)
   rw [ht.1,Lib.bitLen_shift8 n (by omega) (by omega)]
   unfold wrap64
   omega
  ·have e3:decide ((65536:Int)≤(n:Int))=true:=decide_eq_true (by omega)
   have e4:decide ((256:Int)≤(n:Int) / 65536)=false:=decide_eq_false (by omega)
   have e6:(n:Int) / 65536 < 256:=by omega
   have e7:(0:Int)≤(n:Int) / 65536:=by omega
   go_enter Tryz.func109,Tryz.ntmps109
   go_wp2_with go_in
   go_ret
   refine ⟨congrArg Ending.returned (congrArg (Value.int IntKind.i64) ?_),rfl⟩
   have ht:=tab_at (n / 65536) (by omega) (by rw [Lib.len8tab_size];omega)
   rw [ht.1,Lib.bitLen_shift16 n (by omega) (by omega)]
   unfold wrap64
   omega
end
end Go.Proofs.YtfkjjoglnmeciaaGreatDoor
