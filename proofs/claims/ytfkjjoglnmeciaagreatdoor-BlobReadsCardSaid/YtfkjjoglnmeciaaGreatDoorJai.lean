/- The walks and laws that the claim leans on, part 9. -/
import Derived.Test.YtfkjjoglnmeciaaGreatDoorJah
import Derived.Deep.Fields
set_option maxRecDepth 100000
set_option maxHeartbeats 16000000
namespace Go.Proofs.YtfkjjoglnmeciaaGreatDoor
open Go.Lib (hid)
section
open Go.RowKit
def payW:Nat→Nat
 | 0=>3
 | 1=>7
 | 2=>15
 | 3=>31
 | _=>60
def perC (c:Nat):Nat:=248 / (payW c+1)
def offB (c i:Nat):Nat:=8+i * (payW c+1)
def findC (c x:Nat):Option Nat:=if x≤8∨256≤x then none else if (x - 9) % (payW c+1)≠0∨perC c≤(x - 9) / (payW c+1) then none else some ((x - 9) / (payW c+1))
theorem pay_le (c:Nat):3≤payW c∧payW c≤60:=by
 unfold payW
 split <;> omega
theorem per_le (c:Nat):4≤perC c∧perC c≤62:=by
 unfold perC payW
 split <;> omega
theorem off_lt {c i:Nat} (h:i < perC c):offB c i+payW c+1≤256:=by
 unfold perC payW at h
 unfold offB payW
 split at h <;> omega
theorem off_inj {c i j:Nat} (hij:i < j):offB c i+payW c+1≤offB c j:=by
 unfold offB
 have h:(i+1) * (payW c+1)≤j * (payW c+1):=Nat.mul_le_mul_right _ hij
 rw [Nat.succ_mul] at h
 omega
theorem findC_off {c i:Nat} (h:i < perC c):findC c (offB c i+1)=some i:=by
 have h1:=off_lt h
 have h2:=pay_le c
 unfold findC
 rw [if_neg (by unfold offB at *;omega)]
 have e:offB c i+1 - 9=i * (payW c+1):=by unfold offB;omega
 rw [e,Nat.mul_mod_left,Nat.mul_div_cancel _ (by omega),if_neg (by omega)]
theorem findC_some {c x i:Nat} (h:findC c x=some i):i < perC c∧x=offB c i+1:=by
 unfold findC at h
 split at h
 ·cases h
 ·split at h
  ·cases h
  ·rename_i h1 h2
   injection h with h
   have h3:=Nat.div_add_mod (x - 9) (payW c+1)
   rw [h] at h3 h2
   refine ⟨by omega,?_⟩
   unfold offB
   rw [Nat.mul_comm] at h3
   omega
def Pay (w:World):Prop:=∀ i,i < 5→w.cell? ⟨0,i,none⟩=some (.int .i64 (payW i:Int))
theorem Pay.size {w:World} (h:Pay w):0 < w.heap.size:=World.block_lt_of_cell? _ _ (h 0 (by omega))
theorem Pay.below {w w':World} (h:Pay w) (hb:Below w.heap.size w w'):Pay w':=fun i hi=>by
 rw [hb.cell (p:=⟨0,i,none⟩) h.size]
 exact h i hi
section
theorem szWords_any (c:Nat) (hc:c < 5) (w:World) (hp:Pay w):Calls Tryz.prog 202 #[.int .i64 (c:Int)] w fun e w'=>e = .returned (.int .i64 (payW c:Int))∧w=w':=by
 have f:=hp c hc
 have h1:(0:Int)≤(c:Int):=by omega
 have h2:(c:Int) < 5:=by omega
 clear hp
 generalize payW c=q at *
 go_enter Tryz.func202,Tryz.ntmps202
 go_wp2
 go_ret
 exact ⟨rfl,rfl⟩
theorem perChunk_any (c:Nat) (hc:c < 5) (w:World) (hp:Pay w):Calls Tryz.prog 207 #[.int .i64 (c:Int)] w fun e w'=>e = .returned (.int .i64 (perC c:Int))∧w=w':=by
 have HW:=hid (szWords_any c hc w hp)
 obtain ⟨g3,g4⟩:=pay_le c
 have e1:((payW c:Int) == 0)=false:=by rw [beq_eq_false_iff_ne];omega
 have e2:(248:Int) / ((payW c:Int)+1)=(perC c:Int):=by
  rw [show ((payW c:Int)+1)=((payW c+1:Nat):Int) by omega]
  exact (Int.natCast_ediv 248 (payW c+1)).symm
 have e3:(248:Int).tdiv ((payW c:Int)+1)=(perC c:Int):=by rw [Int.tdiv_eq_ediv_of_nonneg (by omega)];exact e2
 have e4:¬ ((payW c:Int)+1=0):=by omega
 obtain ⟨g1,g2⟩:=per_le c
 clear hp
 generalize payW c=q at *
 generalize perC c=r at *
 go_enter Tryz.func207,Tryz.ntmps207
 go_wp2_with (go_at_call 202;refine HW.out.mono ?_;rintro e w1 ⟨rfl,rfl⟩)
 go_ret
 exact ⟨rfl,rfl⟩
theorem offset_any (c i:Nat) (hc:c < 5) (hi:i < perC c) (w:World) (hp:Pay w):Calls Tryz.prog 354 #[.int .i64 (c:Int), .int .i64 (i:Int)] w fun e w'=>e = .returned (.tuple #[.int .i64 (offB c i:Int), .int .i64 0])∧w=w':=by
 have HW:=hid (perChunk_any c hc w hp)
 have f:=hp c hc
 obtain ⟨g3,g4⟩:=pay_le c
 obtain ⟨g1,g2⟩:=per_le c
 have h3:=off_lt hi
 have e1:((perC c:Int) == 0)=false:=by rw [beq_eq_false_iff_ne];omega
 have e2:(i:Int) < (perC c:Int):=by omega
 have e2b:(0:Int)≤(i:Int):=by omega
 have e2c:decide ((perC c:Int)≤(i:Int))=false:=decide_eq_false (by omega)
 have e5:(0:Int)≤(c:Int):=by omega
 have e6:(c:Int) < 5:=by omega
 have e7:IntKind.i64.wrap ((i:Int) * ((payW c:Int)+1))=((i * (payW c+1):Nat):Int):=by
  rw [show (i:Int) * ((payW c:Int)+1)=((i * (payW c+1):Nat):Int) by push_cast;rfl]
  exact IntWalk.i64_in _ (by unfold offB at h3;omega)
 have e7b:wrap64 ((i:Int) * ((payW c:Int)+1))=((i * (payW c+1):Nat):Int):=by
  rw [show (i:Int) * ((payW c:Int)+1)=((i * (payW c+1):Nat):Int) by push_cast;rfl]
  unfold wrap64;unfold offB at h3;omega
 have HOf:Hid ((offB c i:Int)=8+((i * (payW c+1):Nat):Int)):=hid (by unfold offB;omega)
 have h4:i * (payW c+1)≤256:=by unfold offB at h3;omega
 clear hp h3
 generalize i * (payW c+1)=z at *
 generalize offB c i=ob at *
 generalize payW c=q at *
 generalize perC c=r at *
 go_enter Tryz.func354,Tryz.ntmps354
 go_wp2_with (go_at_call 207;refine HW.out.mono ?_;rintro e w1 ⟨rfl,rfl⟩)
 go_ret2
 exact ⟨by rw [HOf.out];rfl,rfl⟩
def findR (c x:Nat):Value:=match findC c x with
 | some i => .tuple #[.int .i64 (i:Int), .bool true]
 | none => .tuple #[.int .i64 0, .bool false]
theorem szFind_any (c x:Nat) (hc:c < 5) (hx:x≤1000000000) (w:World) (hp:Pay w):Calls Tryz.prog 314 #[.int .i64 (c:Int), .int .i64 (x:Int)] w fun e w'=>e = .returned (findR c x)∧w=w':=by
 have HW:=hid (perChunk_any c hc w hp)
 have f:=hp c hc
 obtain ⟨g3,g4⟩:=pay_le c
 obtain ⟨g1,g2⟩:=per_le c
 have e1:((perC c:Int) == 0)=false:=by rw [beq_eq_false_iff_ne];omega
 have e5:(0:Int)≤(c:Int):=by omega
 have e6:(c:Int) < 5:=by omega
 by_cases h1:x≤8∨256≤x
 ·have hr:findR c x = .tuple #[.int .i64 0, .bool false]:=by unfold findR findC;rw [if_pos h1]
  rw [hr]
  clear hr hp
  generalize payW c=q at *
  generalize perC c=r at *
  rcases h1 with h1 | h1
  ·have d1:decide ((x:Int)≤8)=true:=decide_eq_true (by omega)
   go_enter Tryz.func314,Tryz.ntmps314
   go_wp2_with (go_at_call 207;refine HW.out.mono ?_;rintro e w1 ⟨rfl,rfl⟩)
   go_ret2
   exact ⟨rfl,rfl⟩
  ·have d1:decide ((x:Int)≤8)=false:=decide_eq_false (by omega)
   have d2:decide (256≤(x:Int))=true:=decide_eq_true (by omega)
   go_enter Tryz.func314,Tryz.ntmps314
   go_wp2_with (go_at_call 207;refine HW.out.mono ?_;rintro e w1 ⟨rfl,rfl⟩)
   go_ret2
   exact ⟨rfl,rfl⟩
 ·have d1:decide ((x:Int)≤8)=false:=decide_eq_false (by omega)
  have d2:decide (256≤(x:Int))=false:=decide_eq_false (by omega)
  have k1:(8:Int) < (x:Int):=by omega
  have k2:(x:Int) < 256:=by omega
  obtain ⟨y,hy⟩:∃ y,x - 9=y:=⟨_,rfl⟩
  have hxy:(x:Int) - 8 - 1=(y:Int):=by omega
  have m1:((y:Int) % ((payW c:Int)+1))=((y % (payW c+1):Nat):Int):=by
   rw [show ((payW c:Int)+1)=((payW c+1:Nat):Int) by omega];exact (Int.natCast_emod y (payW c+1)).symm
  have m2:((y:Int) / ((payW c:Int)+1))=((y / (payW c+1):Nat):Int):=by
   rw [show ((payW c:Int)+1)=((payW c+1:Nat):Int) by omega];exact (Int.natCast_ediv y (payW c+1)).symm
  have m3:((y:Int).tmod ((payW c:Int)+1))=((y % (payW c+1):Nat):Int):=by rw [Int.tmod_eq_emod_of_nonneg (by omega)];exact m1
  have m4:((y:Int).tdiv ((payW c:Int)+1))=((y / (payW c+1):Nat):Int):=by rw [Int.tdiv_eq_ediv_of_nonneg (by omega)];exact m2
  have n1:y % (payW c+1)≤256:=by have:=Nat.mod_le y (payW c+1);omega
  have n2:y / (payW c+1)≤256:=by have:=Nat.div_le_self y (payW c+1);omega
  have HR:Hid (findR c x=if y % (payW c+1)≠0∨perC c≤y / (payW c+1) then .tuple #[.int .i64 0, .bool false] else .tuple #[.int .i64 ((y / (payW c+1):Nat):Int), .bool true]):=hid (by
   unfold findR findC
   rw [if_neg h1,hy]
   by_cases hz:y % (payW c+1)≠0∨perC c≤y / (payW c+1)
   ·rw [if_pos hz,if_pos hz]
   ·rw [if_neg hz,if_neg hz])
  clear hp h1 hy
  generalize findR c x=rr at *
  generalize y % (payW c+1)=ym at *
  generalize y / (payW c+1)=yd at *
  generalize payW c=q at *
  generalize perC c=r at *
  have yp:(0:Int)≤(y:Int):=by omega
  have q1:¬ ((q:Int)+1=0):=by omega
  by_cases h2:ym=0
  ·by_cases h3:yd < r
   ·have r1:((ym:Int) == 0)=true:=by rw [beq_iff_eq];omega
    have r2:decide ((r:Int)≤(yd:Int))=false:=decide_eq_false (by omega)
    have r3:decide (r≤yd)=false:=decide_eq_false (by omega)
    subst h2
    rw [HR.out,if_neg (by omega)]
    clear HR
    go_enter Tryz.func314,Tryz.ntmps314
    go_wp2_with (go_at_call 207;refine HW.out.mono ?_;rintro e w1 ⟨rfl,rfl⟩)
    go_ret2
    exact ⟨rfl,rfl⟩
   ·have r2:decide ((r:Int)≤(yd:Int))=true:=decide_eq_true (by omega)
    have r3:decide (r≤yd)=true:=decide_eq_true (by omega)
    subst h2
    rw [HR.out,if_pos (by omega)]
    clear HR
    go_enter Tryz.func314,Tryz.ntmps314
    go_wp2_with (go_at_call 207;refine HW.out.mono ?_;rintro e w1 ⟨rfl,rfl⟩)
    go_ret2
    exact ⟨rfl,rfl⟩
  ·have r1:((ym:Int) == 0)=false:=by rw [beq_eq_false_iff_ne];omega
   rw [HR.out,if_pos (by omega)]
   clear HR
   go_enter Tryz.func314,Tryz.ntmps314
   go_wp2_with (go_at_call 207;refine HW.out.mono ?_;rintro e w1 ⟨rfl,rfl⟩)
   go_ret2
   exact ⟨rfl,rfl⟩
def clsOf (n:Nat):Nat:=if n≤3 then 0 else if n≤7 then 1 else if n≤15 then 2 else if n≤31 then 3 else 4
theorem class_any (n:Nat) (h0:0 < n) (h60:n≤60) (w:World) (hp:Pay w):Calls Tryz.prog 201 #[.int .i64 (n:Int)] w fun e w'=>e = .returned (.tuple #[.int .i64 (clsOf n:Int), .int .i64 0])∧w=w':=by
 have HP:=hid hp
 have h1:(1:Int)≤(n:Int):=by omega
 have HC:Hid (clsOf n < 5∧∀ i,i < 5→(n≤payW i↔clsOf n≤i)):=hid (by
  have hcl:(n≤3∧clsOf n=0)∨(3 < n∧n≤7∧clsOf n=1)∨(7 < n∧n≤15∧clsOf n=2)∨(15 < n∧n≤31∧clsOf n=3)∨(31 < n∧clsOf n=4):=by
   unfold clsOf
   by_cases a1:n≤3
   ·rw [if_pos a1];omega
   ·rw [if_neg a1]
    by_cases a2:n≤7
    ·rw [if_pos a2];omega
    ·rw [if_neg a2]
     by_cases a3:n≤15
     ·rw [if_pos a3];omega
     ·rw [if_neg a3]
      by_cases a4:n≤31
      ·rw [if_pos a4];omega
      ·rw [if_neg a4];omega
  refine ⟨by omega,fun i hi=>?_⟩
  have hi5:i=0∨i=1∨i=2∨i=3∨i=4:=by omega
  rcases hi5 with rfl | rfl | rfl | rfl | rfl <;> simp only [payW] <;> omega)
 clear hp
 generalize clsOf n=cn at *
 go_enter Tryz.func201,Tryz.ntmps201
 go_wp2
 go_loopw [7] (fun i wr=>∃ k:Nat,k≤5∧k≤cn∧i = .int .i64 (k:Int)∧Hid (w=wr)) (fun i _=>5 - (Go.RowKit.intOf i).toNat)
 case atStart=>exact ⟨0,by omega,Nat.zero_le _,rfl,hid rfl⟩
 case round =>
  obtain ⟨k,hk,hkc,rfl,hw⟩:=hrel
  have hw:=hw.out
  subst hw
  have hk5:k < 5:=by have:=HC.out.1;omega
  have f:=HP.out k hk5
  have hz5:(0:Int)≤(k:Int):=by omega
  have hz6:(k:Int) < 5:=by omega
  have hiff:=HC.out.2 k hk5
  generalize payW k=q at *
  by_cases hle:n≤q
  ·have d:decide ((n:Int)≤(q:Int))=true:=decide_eq_true (by omega)
   have hkk:k=cn:=by have:=hiff.1 hle;omega
   subst hkk
   clear hiff
   go_wp2
   go_ret2
   exact ⟨rfl,rfl⟩
  ·have d:decide ((n:Int)≤(q:Int))=false:=decide_eq_false (by omega)
   have hlt:k < cn:=by
    have:¬ cn≤k:=fun h=>hle (hiff.2 h)
    omega
   clear hiff
   go_wp2
   go_roundw
   case rel =>
    first
     | exact ⟨k+1,by omega,by omega,by go_num,hid trivial⟩
     | exact ⟨k+1,by omega,by omega,by go_num,hid rfl⟩
   case measure=>simp [Go.RowKit.intOf];omega
end
end
section
open Go.RowKit
theorem thread_any {a:DA} {L T:Nat} {w:World} {S:Fp} {cur:Nat→Nat} {F:Nat} (h:Dev a L T w S cur F) :
  Calls Tryz.prog 71 #[.pointer (some ⟨a.d,0,none⟩), .int .i64 0] w fun e w'=>e = .returned (.pointer (some ⟨a.th 0,0,none⟩))∧w=w':=by
 obtain ⟨ls,exe,per,cs,lsC,hdc,hnt⟩:=h
 have f3:w.cell? ⟨a.d,3,none⟩=some (.pointer (some ⟨a.th 0,0,none⟩)):=hdc.dev.cell 3
 clear hdc hnt
 go_enter Tryz.func71,Tryz.ntmps71
 go_wp2
 go_ret
 exact ⟨rfl,rfl⟩
def mgrCells (th r u h:Option Addr) (last:Option Addr):Array Value:=#[.pointer th, .pointer r, .pointer u, .pointer h, .pointer last]
theorem txNew_any (th r u h:Option Addr) (w:World) :
  Calls Tryz.prog 182 #[.pointer th, .pointer r, .pointer u, .pointer h] w fun e w'=>e = .returned (.pointer (some ⟨w.heap.size,0,none⟩))∧w'=w.alloc (.cells (mgrCells th r u h none) 200):=by
 go_enter Tryz.func182,Tryz.ntmps182
 go_wp2
 go_ret
 exact ⟨rfl,rfl⟩
structure SA where
 r:Nat
 u:Nat
 h:Nat
 gs:Nat
 mr:Nat
 mh:Nat
 m:Nat
end
section
open Go.RowKit
def Stop (p:Prop):Prop:=p
theorem stop {p:Prop} (h:Stop p):p:=h
def RetWr (w:World) (ws:List (Nat × Nat)) (e:Ending) (w':World):Prop:=∃ A m c,e = .returned (.slice A m c)∧m=ws.length∧w'.ownsRow w.heap.size 114 2 (.slice A m c) m (wrCells ws)∧Below w.heap.size w w'
theorem wrCells_snoc (ws:List (Nat × Nat)) (e:Nat × Nat):wrCells (ws++[e])=wrCells ws++[.int .u64 (e.1:Int), .int .u64 (e.2:Int)]:=by simp [wrCells]
theorem takeS {α:Type} (l:List α) (k:Nat) (h:k < l.length):l.take (k+1)=l.take k++[l[k]]:=by simp
end
section
open Go.RowKit Go.Maps
structure PMapD (D:DataW Unit) (f:Nat→Option Nat) (n:Nat):Prop where
 at_:∀ x,D.atKey (kU x) (.lit (.int .u64 0)) = .lit (.int .u64 (((f x).getD 0:Nat):Int))
 has:∀ x,Maps.has D (kU x)=(f x).isSome
 size:Maps.size D=n
def PMap (w:World) (b N:Nat) (f:Nat→Option Nat) (n:Nat):Prop:=∃ D:DataW Unit,w.ownsMap Tryz.prog 32 (plainElem Tryz.prog 54) b N D∧PMapD D f n
def updF (f:Nat→Option Nat) (x:Nat) (v:Option Nat):Nat→Option Nat:=fun y=>if y=x then v else f y
section
variable {w w':World} {b N n:Nat} {f:Nat→Option Nat}
theorem PMap.look (h:PMap w b N f n) {x:Nat} (hx:x < 18446744073709551616):(Instr.lookup 190 (.map (some b)) (.int .u64 (x:Int)) true).run Tryz.prog w = .ok (.tuple #[.int .u64 (((f x).getD 0:Nat):Int), .bool (f x).isSome]) w:=by
 obtain ⟨D,ho,hd⟩:=h
 obtain ⟨v,ps,hrun,hv⟩:=ho.look_ok keyedU Tryz.underlying190 (z := .int .u64 0) (by kernel_rfl) (plainElem_int Tryz.underlying54 (by decide)) (keyU hx)
 obtain ⟨c,rfl,hc,hwc⟩:=plainElem_int_inv Tryz.underlying54 hv
 rw [hd.at_ x] at hc
 simp at hc
 rw [hrun,hd.has x,← hc.1]
theorem PMap.put (h:PMap w b N f n) (hN:N < maxLen) {x p:Nat} (hx:x < 18446744073709551616) (hp:p < 18446744073709551616) (hf:f x=none) :
  ∃ w',(Instr.mapUpdate 190 (.map (some b)) (.int .u64 (x:Int)) (.int .u64 (p:Int))).run Tryz.prog w = .ok () w'∧PMap w' b (N+1) (updF f x (some p)) (n+1)∧w.grownBy w' (some b):=by
 obtain ⟨D,ho,hd⟩:=h
 obtain ⟨w',hrun,ho',hg⟩:=ho.update keyedU Tryz.underlying190 hN (keyU hx) (plainElem_int Tryz.underlying54 (wf_u64_nat hp))
 refine ⟨w',hrun,⟨_,ho',⟨fun y=>?_,fun y=>?_,?_⟩⟩,hg⟩
 ·unfold updF
  by_cases hy:y=x
  ·subst hy;rw [atKey_put_same ho.isMap (kU_key y)];simp
  ·rw [atKey_put_other (kU_ne hy),hd.at_ y,if_neg hy]
 ·unfold updF
  by_cases hy:y=x
  ·subst hy;rw [has_put_same ho.isMap (kU_key y)];simp
  ·rw [has_put_other (kU_ne hy),hd.has y,if_neg hy]
 ·rw [size_put (ho.tidy keyedU),hd.has x,hf,hd.size];rfl
theorem PMap.del (h:PMap w b N f n) {x:Nat} (hx:x < 18446744073709551616) {p:Nat} (hf:f x=some p) :
  ∃ w',(Builtin.delete_ #[190,32] 0 #[.map (some b), .int .u64 (x:Int)]).run Tryz.prog w = .ok (.tuple #[]) w'∧PMap w' b N (updF f x none) (n - 1)∧w.grownBy w' (some b):=by
 obtain ⟨D,ho,hd⟩:=h
 obtain ⟨w',hrun,ho',hg⟩:=ho.drop keyedU Tryz.underlying190 (keyU hx) 0
 refine ⟨w',hrun,⟨_,ho',⟨fun y=>?_,fun y=>?_,?_⟩⟩,hg.grown⟩
 ·unfold updF
  by_cases hy:y=x
  ·subst hy;rw [atKey_del_same];simp
  ·rw [atKey_del_other (kU_ne hy),hd.at_ y,if_neg hy]
 ·unfold updF
  by_cases hy:y=x
  ·subst hy;rw [has_del_same];simp
  ·rw [has_del_other (kU_ne hy),hd.has y,if_neg hy]
 ·have h1:=size_del (k:=kU x) (ho.tidy keyedU)
  rw [hd.has x,hf,hd.size] at h1
  simp at h1
  omega
theorem PMap.new (w:World):PMap (w.alloc (.map #[] 0)) w.heap.size 0 (fun _=>none) 0:=⟨_,World.ownsMap_made w _ _ _,⟨fun x=>by simp [DataW.atKey],fun x=>by simp [Maps.has],rfl⟩⟩
theorem PMap.chg {Z:Fp} (h:PMap w b N f n) (hc:Chg Z w w') (hb:¬ Z b):PMap w' b N f n:=by
 obtain ⟨D,ho,hd⟩:=h
 exact ⟨D,hc.map ho hb,hd⟩
theorem PMap.mono {N':Nat} (h:PMap w b N f n) (hN:N≤N'):PMap w b N' f n:=by
 obtain ⟨D,ho,hd⟩:=h
 exact ⟨D,ho.mono hN,hd⟩
theorem PMap.lt (h:PMap w b N f n):b < w.heap.size:=by
 obtain ⟨D,ho,hd⟩:=h
 exact ho.lt
def HMap (w:World) (b N:Nat):Prop:=∃ D:DataW Unit,w.ownsMap Tryz.prog 3 (plainElem Tryz.prog 3) b N D
theorem keyI {x:Nat} (h:x < 9000000000):keyOf Tryz.prog 3 (.int .i64 (x:Int))=some (.int .i64 (x:Int)):=keyOf_int_mk Tryz.underlying3 (WalkArith.wf_i64 ⟨by omega,by omega⟩)
theorem keyedN:Keyed Tryz.prog 3:=int_keyed Tryz.underlying3
theorem HMap.look (h:HMap w b N) {x:Nat} (hx:x < 9000000000):∃ c:Int,(Instr.lookup 191 (.map (some b)) (.int .i64 (x:Int)) false).run Tryz.prog w = .ok (.int .i64 c) w∧(Lit.int .i64 c).wf=true:=by
 obtain ⟨D,ho⟩:=h
 obtain ⟨c,hrun,_,hwc⟩:=ho.lookup_int keyedN Tryz.underlying191 Tryz.underlying3 (by kernel_rfl) (keyI hx)
 exact ⟨c,hrun,hwc⟩
theorem HMap.put (h:HMap w b N) (hN:N < maxLen) {x:Nat} (hx:x < 9000000000) {c:Int} (hc:(Lit.int .i64 c).wf=true) :
  ∃ w',(Instr.mapUpdate 191 (.map (some b)) (.int .i64 (x:Int)) (.int .i64 c)).run Tryz.prog w = .ok () w'∧HMap w' b (N+1)∧w.grownBy w' (some b):=by
 obtain ⟨D,ho⟩:=h
 obtain ⟨w',hrun,ho',hg⟩:=ho.update keyedN Tryz.underlying191 hN (keyI hx) (plainElem_int Tryz.underlying3 hc)
 exact ⟨w',hrun,⟨_,ho'⟩,hg⟩
theorem HMap.del (h:HMap w b N) {x:Nat} (hx:x < 9000000000) :
  ∃ w',(Builtin.delete_ #[191,3] 0 #[.map (some b), .int .i64 (x:Int)]).run Tryz.prog w = .ok (.tuple #[]) w'∧HMap w' b N∧w.grownBy w' (some b):=by
 obtain ⟨D,ho⟩:=h
 obtain ⟨w',hrun,ho',hg⟩:=ho.drop keyedN Tryz.underlying191 (keyI hx) 0
 exact ⟨w',hrun,⟨_,ho'⟩,hg.grown⟩
theorem HMap.new (w:World):HMap (w.alloc (.map #[] 0)) w.heap.size 0:=⟨_,World.ownsMap_made w _ _ _⟩
theorem HMap.chg {Z:Fp} (h:HMap w b N) (hc:Chg Z w w') (hb:¬ Z b):HMap w' b N:=by
 obtain ⟨D,ho⟩:=h
 exact ⟨D,hc.map ho hb⟩
theorem HMap.mono {N':Nat} (h:HMap w b N) (hN:N≤N'):HMap w b N':=by
 obtain ⟨D,ho⟩:=h
 exact ⟨D,ho.mono hN⟩
theorem HMap.lt (h:HMap w b N):b < w.heap.size:=by
 obtain ⟨D,ho⟩:=h
 exact ho.lt
end
end
section
open Go.RowKit
theorem size_dev {a:DA} {L T:Nat} {w:World} {S:Fp} {cur:Nat→Nat} {F:Nat} (h:Dev a L T w S cur F) :
  Calls Tryz.prog 335 #[.pointer (some ⟨a.th 0,0,none⟩)] w fun e w'=>e = .returned (.int .u64 ((L:Int) * 64))∧w'=w:=by
 obtain ⟨ls,exe,per,cs,lsC,hdc,hnt⟩:=h
 have hL:=hdc.hL
 obtain ⟨f0,f2,_,_,f4⟩:=hdc.facts (j:=0) (by omega)
 have u1:IntKind.u64.wrap ((L:Int) * 64)=(L:Int) * 64:=by rw [IntKind.wrap_u64];omega
 clear hdc hnt
 go_enter Tryz.func335,Tryz.ntmps335
 go_wp2_with go_in
 go_ret
 exact ⟨rfl,rfl⟩
theorem allowedR_any {a:DA} {L T:Nat} {w:World} {S:Fp} {cur:Nat→Nat} {F:Nat} (h:Dev a L T w S cur F) (g s n:Nat) (hB:Blk w g 353 (logCells a s n)) (hs:s+n≤L) (o:Nat) (ho:OffOk L s n o) :
  Calls Tryz.prog 247 #[.pointer (some ⟨g,0,none⟩), .int .u64 (o:Int)] w fun e w'=>e = .returned (.bool true)∧Below w.heap.size w w':=by
 have c0:w.cell? ⟨g,0,none⟩=some (memV a):=hB.cell 0
 have c1:w.cell? ⟨g,1,none⟩=some (.int .u64 ((64 * s:Nat):Int)):=hB.cell 1
 have c2:w.cell? ⟨g,2,none⟩=some (.int .u64 ((64 * n:Nat):Int)):=hB.cell 2
 have hmS:=methSize (some ⟨a.th 0,0,none⟩)
 have HSz:Hid (∀ n,Calls Tryz.prog 335 #[.pointer (some ⟨a.th 0,0,none⟩)] (w.drewN n) fun e w'=>e = .returned (.int .u64 ((L:Int) * 64))∧w'=w.drewN n):=hid (fun n=>size_dev (h.below (below_drewN (Below.refl _ w) n)))
 have hL:L≤4096:=by obtain ⟨ls,exe,per,cs,lsC,hdc,hnt⟩:=h;exact hdc.hL
 obtain ⟨o1,o2,o3⟩:=ho
 have HB0:Hid (∀ n,Below w.heap.size w (w.drewN n)):=hid (fun n=>below_drewN (Below.refl _ w) n)
 have e1:((o:Int) % 8 == 0)=true:=by rw [beq_iff_eq];omega
 have e1':(o:Int) % 8=0:=by omega
 have u1:IntKind.u64.wrap ((L:Int) * 64)=(L:Int) * 64:=by rw [IntKind.wrap_u64];omega
 have e2:decide ((o:Int) < (L:Int) * 64)=true:=decide_eq_true (by omega)
 clear h hB
 unfold memV at *
 by_cases hlt:o < 64 * s
 ·have e3:decide ((o:Int) < ((64 * s:Nat):Int))=true:=decide_eq_true (by omega)
  have e3':decide (o < 64 * s)=true:=decide_eq_true hlt
  generalize 64 * s=z at *
  generalize 64 * n=y at *
  go_enter Tryz.func247,Tryz.ntmps247
  go_wp2
  go_quiet ((go_at_call 335;exact Calls.quiet_of_same (HSz.out _)))
  go_wp2
  go_ret
  exact ⟨rfl,HB0.out _⟩
 ·have e3:decide ((o:Int) < ((64 * s:Nat):Int))=false:=decide_eq_false (by omega)
  have e3':decide (o < 64 * s)=false:=decide_eq_false hlt
  have u4:IntKind.u64.wrap ((o:Int) - ((64 * s:Nat):Int))=(o:Int) - ((64 * s:Nat):Int):=by rw [IntKind.wrap_u64];omega
  have e4:decide (((64 * n:Nat):Int)≤(o:Int) - ((64 * s:Nat):Int))=true:=decide_eq_true (by omega)
  generalize 64 * s=z at *
  generalize 64 * n=y at *
  go_enter Tryz.func247,Tryz.ntmps247
  go_wp2
  go_quiet ((go_at_call 335;exact Calls.quiet_of_same (HSz.out _)))
  go_wp2
  go_ret
  exact ⟨rfl,HB0.out _⟩
end
section
open Go.ChangeShapes Go.WideShapes Go.ChangeAt Go.RowKit
theorem reads_elems {α:Type} (cells:α→List Value) (size:Nat) (hs:0 < size) (hlen:∀ x,(cells x).length=size) (w:World) (a:Addr) (ok:α→Prop) :
  ∀ n,(∀ i,i < n→∃ x,ok x∧∀ j,j < size→w.cell? (a.add (i * size+j))=(cells x)[j]?) →
   ∃ l:List α,l.length=n∧(∀ x∈l,ok x)∧(l.flatMap cells).length=n * size∧∀ j u,(l.flatMap cells)[j]?=some u→w.cell? (a.add j)=some u
 | 0,_=>⟨[],rfl,(fun _ h=>by cases h),by simp,(fun j u h=>by simp at h)⟩
 | n+1,h=>by
  obtain ⟨l,h1,h2,h3,h4⟩:=reads_elems cells size hs hlen w a ok n (fun i hi=>h i (by omega))
  obtain ⟨x,hx,hc⟩:=h n (by omega)
  refine ⟨l++[x],by simp [h1],fun y hy=>?_,?_,fun j u hu=>?_⟩
  ·rcases List.mem_append.1 hy with hy | hy
   ·exact h2 y hy
   ·rw [List.mem_singleton] at hy;subst hy;exact hx
  ·simp only [List.flatMap_append,List.length_append,h3,List.flatMap_cons,List.flatMap_nil,List.append_nil,hlen]
   rw [Nat.succ_mul]
  ·simp only [List.flatMap_append,List.flatMap_cons,List.flatMap_nil,List.append_nil] at hu
   rcases Nat.lt_or_ge j (n * size) with hj | hj
   ·rw [List.getElem?_append_left (by omega)] at hu
    exact h4 j u hu
   ·rw [List.getElem?_append_right (by omega),h3] at hu
    have hjl:j - n * size < size:=by
     have:=(List.getElem?_eq_some_iff.1 hu).1
     rw [hlen] at this;exact this
    have:=hc (j - n * size) hjl
    rw [show n * size+(j - n * size)=j by omega] at this
    rw [this];exact hu
section
variable {H:Type} {enc:TypeId × Value→H} {w:World} {base:Nat} {sp:Nat→Bool} {held:Bool} {fuel:Nat} {x:DataW H × List MemPlace}
end
section
variable {H:Type} {enc:TypeId × Value→H} {W:World} {b0 base:Nat} {sp:Nat→Bool} {held:Bool} {v:Value} {d:DataW H} {p:List MemPlace} {r:Reach}
end
end
section
open Go.RowKit
theorem choose_b (g n cap sz a b:Nat) (xs:List Nat) (w:World) (h:SortI w w g xs sz) (hl:xs.length=n) (hb:b≤n) (h8:a+8≤b) (hn:n≤1000000) :
  Calls Tryz.prog 254 #[.slice (some ⟨g,0,none⟩) n cap, .int .i64 (a:Int), .int .i64 (b:Int)] w (RetCh w g xs sz a b):=by
 obtain ⟨l,rfl⟩:∃ l,b=a+l:=⟨b - a,by omega⟩
 exact choose_any g n cap sz a l xs w h hl hb (by omega) hn
theorem break_b (g n cap sz a b:Nat) (xs:List Nat) (w:World) (h:SortI w w g xs sz) (hl:xs.length=n) (hb:b≤n) (h8:a+8≤b) (hn:n≤1000000) (hc:n≤cap) (hcm:cap≤9223372036854775807) :
  Calls Tryz.prog 253 #[.slice (some ⟨g,0,none⟩) n cap, .int .i64 (a:Int), .int .i64 (b:Int)] w (RetSort w g xs sz):=by
 obtain ⟨l,rfl⟩:∃ l,b=a+l:=⟨b - a,by omega⟩
 exact breakP_any g n cap sz a l xs w h hl hb (by omega) hn hc hcm
theorem heap_b (g n cap sz a b:Nat) (xs:List Nat) (w:World) (h:SortI w w g xs sz) (hl:xs.length=n) (hb:b≤n) (h8:a+1≤b) (hn:n≤1000000) (hc:n≤cap) (hcm:cap≤9223372036854775807) :
  Calls Tryz.prog 252 #[.slice (some ⟨g,0,none⟩) n cap, .int .i64 (a:Int), .int .i64 (b:Int)] w (RetSort w g xs sz):=by
 obtain ⟨l,rfl⟩:∃ l,b=a+(l+1):=⟨b - a - 1,by omega⟩
 exact heap_any g n cap sz a l xs w h hl hb hn hc hcm
def PdqB (g n cap sz:Nat) (xs:List Nat) (d:Nat):Prop:=∀ (a b lm:Nat) (w:World),SortI w w g xs sz→a≤b→b≤n→b - a < d→lm≤64 →
  Calls Tryz.prog 141 #[.slice (some ⟨g,0,none⟩) n cap, .int .i64 (a:Int), .int .i64 (b:Int), .int .i64 (lm:Int)] w (RetSort w g xs sz)
theorem pdq_step (g n cap sz a0 b0 lm0:Nat) (xs:List Nat) (w:World) (h:SortI w w g xs sz) (hl:xs.length=n) (hab0:a0≤b0) (hb0:b0≤n) (hlm0:lm0≤64) (hn:n≤1000000) (hc:n≤cap) (hcm:cap≤9223372036854775807) (ih:PdqB g n cap sz xs (b0 - a0)) :
  Calls Tryz.prog 141 #[.slice (some ⟨g,0,none⟩) n cap, .int .i64 (a0:Int), .int .i64 (b0:Int), .int .i64 (lm0:Int)] w (RetSort w g xs sz):=by
 have H:=hid h
 have HL:=hid hl
 have IH:=hid ih
 clear h hl ih
 go_enter Tryz.func141,Tryz.ntmps141
 go_wp2
 go_loopw [1,2,3,8,9] (fun va vb vl v8 v9 wr=>∃ (a b lm:Nat) (p q:Bool),va = .int .i64 (a:Int)∧vb = .int .i64 (b:Int)∧vl = .int .i64 (lm:Int)∧v8 = .bool p∧v9 = .bool q∧a≤b∧b≤n∧lm≤64∧b - a≤b0 - a0∧Hid (SortI w wr g xs sz)) (fun va vb _ _ _ _=>(RowKit.intOf vb).toNat - (RowKit.intOf va).toNat)
 case atStart=>exact ⟨a0,b0,lm0,true,true,rfl,rfl,rfl,rfl,rfl,hab0,hb0,hlm0,Nat.le_refl _,H⟩
 case round =>
  clear H
  obtain ⟨a,b,lm,p,q,rfl,rfl,rfl,rfl,rfl,hab,hb,hlm,hd,H⟩:=hrel
  by_cases h12:b - a≤12
  ·have e1:decide ((b:Int) - (a:Int)≤12)=true:=decide_eq_true (by omega)
   have HI:=hid (insertR_any g n cap sz a b xs wr H.out.self HL.out hab hb hn hc hcm)
   go_wp2_with fail
   refine HI.out.mono ?_
   rintro e w1 ⟨rfl,h1⟩
   have H1:=hid (H.out.trans h1)
   clear h1 HI H
   go_wp2_with fail
   go_end0
   exact ⟨rfl,H1.out⟩
  ·have e1:decide ((b:Int) - (a:Int)≤12)=false:=decide_eq_false (by omega)
   by_cases hz:lm=0
   ·subst hz
    have HI:=hid (heap_b g n cap sz a b xs wr H.out.self HL.out hb (by omega) hn hc hcm)
    go_wp2_with fail
    refine HI.out.mono ?_
    rintro e w1 ⟨rfl,h1⟩
    have H1:=hid (H.out.trans h1)
    clear h1 HI H
    go_wp2_with fail
    go_end0
    exact ⟨rfl,H1.out⟩
   ·have e2:((lm:Int) == 0)=false:=by rw [beq_eq_false_iff_ne];omega
    obtain ⟨lm',rfl⟩:∃ k,lm=k+1:=⟨lm - 1,by omega⟩
    have hab8:a+8≤b:=by omega
    clear h12 hz
    go_upto_if 35 with fail
    go_cut [3] from 19 to 133 (fun v wx=>∃ k:Nat,v = .int .i64 (k:Int)∧k≤64∧Hid (SortI w wx g xs sz))
    case first =>
     cases p
     ·have HI:=hid (break_b g n cap sz a b xs wr H.out.self HL.out hb hab8 hn hc hcm)
      go_wp2_with fail
      refine HI.out.mono ?_
      rintro e w1 ⟨rfl,h1⟩
      have H1:=hid (H.out.trans h1)
      clear h1 HI H
      go_wp2_with fail
      go_meet
      exact ⟨lm',by go_num,by omega,H1⟩
     ·go_wp2_with fail
      go_meet
      exact ⟨lm'+1,by go_num,by omega,H⟩
    case rest =>
     clear H hlm e1 e2
     obtain ⟨lm,rfl,hlm,H⟩:=hcut
     have HC:=hid (choose_b g n cap sz a b xs wc H.out.self HL.out hb hab8 hn)
     go_wp2_with fail
     refine HC.out.mono ?_
     rintro e w1 ⟨m0,k0,rfl,hm1,hm2,h1⟩
     have H1:=hid (H.out.trans h1)
     clear h1 HC H
     go_upto_if 50 with fail
     go_cut [11,12] from 19 to 133 (fun v u wx=>∃ (m:Nat) (k:Int),v = .int .i64 (m:Int)∧u = .int .i64 k∧a≤m∧m < b∧Hid (SortI w wx g xs sz))
     case first =>
      by_cases hk:k0=2
      ·subst hk
       have HR:=hid (reverse_any g n cap sz a b xs w1 H1.out.self HL.out (by omega) hb hn hc hcm)
       obtain ⟨m',hm'⟩:∃ m':Nat,(b:Int) - 1 - ((m0:Int) - (a:Int))=(m':Int)∧a≤m'∧m' < b:=⟨b - 1 - (m0 - a),by omega,by omega,by omega⟩
       have HM:=hid hm'
       clear hm'
       go_wp2_with fail
       refine HR.out.mono ?_
       rintro e w2 ⟨rfl,h2⟩
       have H2:=hid (H1.out.trans h2)
       clear h2 HR H1
       go_wp2_with fail
       go_meet
       exact ⟨m',1,by first | rfl | exact congrArg (Value.int .i64) HM.out.1,rfl,HM.out.2.1,HM.out.2.2,H2⟩
      ·have e3:(k0 == 2)=false:=by rw [beq_eq_false_iff_ne];exact hk
       go_wp2_with fail
       go_meet
       exact ⟨m0,k0,rfl,rfl,hm1,hm2,H1⟩
     case rest =>
      clear H1 hm1 hm2
      obtain ⟨m,k,rfl,rfl,hm1,hm2,H⟩:=hcut
      go_upto_region 15 with fail
      go_cut [68] from 19 to 133 (fun v wx=>∃ bb:Bool,v = .bool bb∧Hid (SortI w wx g xs sz))
      case first =>
       cases p
       ·go_wp2_with fail
        go_meet
        exact ⟨false,rfl,H⟩
       ·cases q
        ·go_wp2_with fail
         go_meet
         exact ⟨false,rfl,H⟩
        ·go_wp2_with fail
         go_meet
         exact ⟨_,rfl,H⟩
      case rest =>
       clear H
       obtain ⟨bb,rfl,H⟩:=hcut
       go_upto_if 68 with fail
       go_cut [13] from 19 to 133 (fun _ wx=>Hid (SortI w wx g xs sz))
       case first =>
        cases bb
        ·go_wp2_with fail
         go_meet
         exact H
        ·have HT:=hid (partialIns_any g n cap sz a b xs wc H.out.self HL.out (by omega) hb hn hc hcm)
         go_wp2_with fail
         refine HT.out.mono ?_
         rintro e w2 ⟨c,rfl,h2⟩
         have H2:=hid (H.out.trans h2)
         clear h2 HT H
         cases c
         ·go_wp2_with fail
          go_meet
          exact H2
         ·go_wp2_with fail
          go_end0
          exact ⟨rfl,H2.out⟩
       case rest =>
        clear H
        have H:=hcut
        clear hcut
        go_upto_region 17 with fail
        go_cut [87] from 19 to 133 (fun v wx=>∃ bb:Bool,v = .bool bb∧Hid (SortI w wx g xs sz))
        case first =>
         by_cases ha:0 < a
         ·obtain ⟨a',rfl⟩:∃ a',a=a'+1:=⟨a - 1,by omega⟩
          have f0:decide ((0:Int) < (a':Int)+1)=true:=decide_eq_true (by omega)
          have f1:(a':Int) < (n:Int):=by omega
          have f2:(m:Int) < (n:Int):=by omega
          have f3:IntKind.i64.wrap (a':Int)=(a':Int):=by rw [IntKind.wrap_i64];omega
          generalize wc=wr at *
          go_wp2_with fail
          obtain ⟨x1,c1,z1⟩:=H.out.at_ (i:=a') (by have:=HL.out;omega)
          obtain ⟨x2,c2,z2⟩:=H.out.at_ (i:=m) (by have:=HL.out;omega)
          obtain ⟨bb,HLs⟩:=less_some x1 x2
          go_quiet ((go_at_call 257;exact Calls.quiet_of_same (HLs.out _)))
          have H1:=hid (H.out.drewN nq)
          clear c1 c2 z1 z2 H
          go_wp2_with fail
          go_meet
          exact ⟨_,rfl,H1⟩
         ·have f0:decide ((0:Int) < (a:Int))=false:=decide_eq_false (by omega)
          go_quiet (fail)
          have H1:=hid (H.out.drewN nq)
          go_wp2_with fail
          go_meet
          exact ⟨false,rfl,H1⟩
        case rest =>
         clear H
         obtain ⟨bb,rfl,H⟩:=hcut
         cases bb
         ·have HP:=hid (partition_any g n cap sz a b m xs wc H.out.self HL.out (by omega) hb hm2 hn hc hcm)
          go_wp2_with fail
          refine HP.out.mono ?_
          rintro e w2 ⟨m2,c,rfl,g1,g2,h2⟩
          have H2:=hid (H.out.trans h2)
          clear h2 HP H
          have I1:=hid (IH.out a m2 lm w2 H2.out.self g1 (by omega) (by omega) hlm)
          have i2:=IH.out (m2+1) b lm w2 H2.out.self (by omega) hb (by omega) hlm
          rw [show ((m2+1:Nat):Int)=(m2:Int)+1 by omega] at i2
          have I2:=hid i2
          clear i2
          by_cases hlr:m2 - a < b - m2
          ·have e3:decide ((m2:Int) - (a:Int) < (b:Int) - (m2:Int))=true:=decide_eq_true (by omega)
           go_wp2_with fail
           refine I1.out.mono ?_
           rintro e w3 ⟨rfl,h3⟩
           have H3:=hid (H2.out.trans h3)
           clear h3 H2 I1 I2
           go_wp2_with fail
           go_roundw
           case rel=>exact ⟨m2+1,b,lm,_,c,by go_num,rfl,rfl,rfl,rfl,by omega,hb,hlm,by omega,H3⟩
           case measure=>simp [RowKit.intOf];omega
          ·have e3:decide ((m2:Int) - (a:Int) < (b:Int) - (m2:Int))=false:=decide_eq_false (by omega)
           go_wp2_with fail
           refine I2.out.mono ?_
           rintro e w3 ⟨rfl,h3⟩
           have H3:=hid (H2.out.trans h3)
           clear h3 H2 I1 I2
           go_wp2_with fail
           go_roundw
           case rel=>exact ⟨a,m2,lm,_,c,rfl,rfl,rfl,rfl,rfl,g1,by omega,hlm,by omega,H3⟩
           case measure=>simp [RowKit.intOf];omega
         ·have HP:=hid (partEqual_any g n cap sz a b m xs wc H.out.self HL.out (by omega) hb hm2 hn hc hcm)
          go_wp2_with fail
          refine HP.out.mono ?_
          rintro e w2 ⟨m2,rfl,g1,g2,h2⟩
          have H2:=hid (H.out.trans h2)
          clear h2 HP H
          go_wp2_with fail
          go_roundw
          case rel=>exact ⟨m2,b,lm,p,q,rfl,rfl,rfl,rfl,rfl,g2,hb,hlm,by omega,H2⟩
          case measure=>simp [RowKit.intOf];omega
theorem pdq_any (g n cap sz:Nat) (xs:List Nat) (hl:xs.length=n) (hn:n≤1000000) (hc:n≤cap) (hcm:cap≤9223372036854775807):∀ d,PdqB g n cap sz xs d
 | 0=>fun a b lm w h hab hb hd hlm=>absurd hd (by omega)
 | d+1=>fun a b lm w h hab hb hd hlm=>pdq_step g n cap sz a b lm xs w h hl hab hb hlm hn hc hcm (fun a' b' lm' w' h' k1 k2 k3 k4=>pdq_any g n cap sz xs hl hn hc hcm d a' b' lm' w' h' k1 k2 (by omega) k4)
theorem sort_any (g n cap sz:Nat) (xs:List Nat) (w:World) (h:SortI w w g xs sz) (hl:xs.length=n) (hn:n≤1000000) (hc:n≤cap) (hcm:cap≤9223372036854775807) :
  Calls Tryz.prog 58 #[.slice (some ⟨g,0,none⟩) n cap] w (RetSort w g xs sz):=by
 have e1:IntKind.u64.wrap (n:Int)=(n:Int):=by rw [IntKind.wrap_u64];omega
 have HLn:=hid (len_any n w hn)
 have hk:Lib.bitLen n≤20:=Lib.bitLen_le n 20 (by omega) (by omega)
 have HP:=hid (pdq_any g n cap sz xs hl hn hc hcm (n+1) 0 n (Lib.bitLen n) w h (by omega) (Nat.le_refl _) (by omega) (by omega))
 generalize Lib.bitLen n=k at *
 clear h hl
 go_enter Tryz.func58,Tryz.ntmps58
 go_wp2_with (first
  | (go_at_call 109;refine HLn.out.mono ?_;rintro e w' ⟨rfl,rfl⟩)
  | (go_at_call 141;refine HP.out.mono ?_;rintro e w1 ⟨rfl,h1⟩;have H1:=hid h1;clear h1))
 go_end0
 exact ⟨rfl,H1.out⟩
end
section
open Go.RowKit
theorem redoRecover_idle {a:DA} {L T:Nat} {w:World} {S:Fp} {cur:Nat→Nat} {F:Nat} (h:Dev a L T w S cur F) (g s n:Nat) (hB:Blk w g 353 (logCells a s n)) (hs:s < L) (h0:cur (8 * s)=0) :
  Calls Tryz.prog 179 #[.pointer (some ⟨g,0,none⟩)] w fun e w'=>e = .returned (.tuple #[.int .i64 0, .int .i64 0])∧Below w.heap.size w w':=by
 have HL:=hid (look_idle h g s n hB hs h0)
 have HD:=hid h
 have HBB:=hid hB
 have c0:w.cell? ⟨g,0,none⟩=some (memV a):=hB.cell 0
 obtain ⟨ls,exe,per,cs,lsC,hdc,hnt⟩:=h
 obtain ⟨f0,_,_,_,f4⟩:=hdc.facts (j:=0) (by omega)
 have hmE:=methErr (some ⟨a.th 0,0,none⟩)
 have hq:=eqMem (some ⟨a.th 0,0,none⟩)
 clear hdc hnt hB
 unfold memV at *
 go_enter Tryz.func179,Tryz.ntmps179
 go_wp2_with (first
  | (go_at_call 285;refine HL.out.mono ?_;rintro e w1 ⟨rfl,hb1⟩;have HW:=hid hb1;have d0:w1.cell? ⟨g,0,none⟩=some (.iface 58 (.pointer (some ⟨a.th 0,0,none⟩))):=(HBB.out.below hb1 HBB.out.lt).cell 0;obtain ⟨ls1,exe1,per1,cs1,lsC1,hdc1,hnt1⟩:=HD.out.below hb1;obtain ⟨k0,_,_,_,k4⟩:=hdc1.facts (j:=0) (by omega);clear hb1 hdc1 hnt1)
  | go_in)
 go_ret2
 exact ⟨rfl,HW.out⟩
end
end Go.Proofs.YtfkjjoglnmeciaaGreatDoor
