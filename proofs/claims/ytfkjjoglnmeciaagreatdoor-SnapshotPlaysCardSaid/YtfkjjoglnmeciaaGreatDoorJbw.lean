/- The walks and laws that the claim leans on, part 49. -/
import Derived.Test.YtfkjjoglnmeciaaGreatDoorJbu
set_option maxRecDepth 100000
set_option maxHeartbeats 16000000
namespace Go.Proofs.YtfkjjoglnmeciaaGreatDoor
open Go.Lib (hid)
section
open Go.RowKit Go.Maps
theorem infoRNm:(Tryz.prog.info? 261).map (fun i=>(i.zero,i.size,i.bytes))=some (some (.agg #[.string ⟨#[]⟩, .int .u64 0]),2,24):=by kernel_rfl
theorem own_empty2 (w:World) (t:TypeId):(w.alloc (.cells #[] t)).ownsRow w.heap.size t 2 (.slice (some ⟨w.heap.size,0,none⟩) 0 0) 0 [] :=
 ⟨rfl, .inr ⟨w.heap.size,0,#[],rfl,Nat.le_refl _,heap_alloc_new w _,Nat.le_refl _,by unfold maxLen;omega,rfl,rfl⟩⟩
theorem itCells_app (l l':List (List Nat × Nat)):itCells (l++l')=itCells l++itCells l':=by
 unfold itCells
 rw [List.flatMap_append]
theorem reads_tk {w:World} {B size n m:Nat} {A:Option Addr} {xs:List Value} (h:Reads w B size A n xs) (hm:m≤n):Reads w B size A m (xs.take (m * size)):=by
 obtain ⟨h1,h2⟩:=h
 have h3:m * size≤n * size:=Nat.mul_le_mul_right _ hm
 refine ⟨by rw [List.length_take];omega,fun hp=>?_⟩
 obtain ⟨ad,e,hb,hc⟩:=h2 (by omega)
 refine ⟨ad,e,hb,fun j u hu=>hc j u ?_⟩
 rw [List.getElem?_take] at hu
 split at hu
 ·exact hu
 ·cases hu
theorem itCells_drop (l:List (List Nat × Nat)) (k:Nat):(itCells l).drop (k * 2)=itCells (l.drop k):=by
 induction l generalizing k with
 | nil=>simp [itCells]
 | cons p t ih =>
  cases k with
  | zero=>simp
  | succ k =>
   have e:itCells (p :: t) = .string (strN p.1) :: .int .u64 (p.2:Int) :: itCells t:=rfl
   rw [e,show (k+1) * 2=k * 2+1+1 by omega,List.drop_succ_cons,List.drop_succ_cons,ih]
   rfl
theorem itCells_one (l:List (List Nat × Nat)):∀ u∈itCells l,u.oneCell'=true:=fun u hu=>by
 obtain ⟨p,_,hp⟩:=List.mem_flatMap.1 hu
 simp at hp
 rcases hp with rfl | rfl <;> rfl
theorem bl_cb:∀ a b:List UInt8,Op.bytesLess a b=decide (Lib.compareBytes a b < 0)
 | [],[]=>rfl
 | [],_ :: _=>rfl
 | _ :: _,[]=>rfl
 | x :: a,y :: b=>by
  have ih:=bl_cb a b
  rw [cb_cons]
  show (decide (x < y) || (x == y && Op.bytesLess a b))=_
  rw [ih]
  by_cases h1:x.toNat < y.toNat
  ·rw [if_pos h1,decide_eq_true (UInt8.lt_iff_toNat_lt.2 h1)]
   rfl
  ·rw [if_neg h1,decide_eq_false (fun h=>h1 (UInt8.lt_iff_toNat_lt.1 h)),Bool.false_or]
   by_cases h2:y.toNat < x.toNat
   ·rw [if_pos h2]
    have e:(x == y)=false:=beq_eq_false_iff_ne.2 (fun h=>by subst h;omega)
    rw [e]
    rfl
   ·rw [if_neg h2]
    have e:(x == y)=true:=beq_iff_eq.2 (UInt8.toNat_inj.1 (by omega))
    rw [e,Bool.true_and]
theorem nm_ways (x s:ByteArray):(Op.bytesLess x.toList s.toList=decide (snCmp x s < 0))∧(x.toList == s.toList)=decide (snCmp x s=0):=by
 constructor
 ·rw [ByteArray.toList_eq,ByteArray.toList_eq]
  exact bl_cb _ _
 ·rw [strEq]
  by_cases h:x=s
  ·subst h
   rw [decide_eq_true rfl,decide_eq_true (show snCmp x x=0 from cb_self _)]
  ·rw [decide_eq_false h,decide_eq_false (show ¬ snCmp x s=0 from fun h2=>h (ByteArray.ext (Array.toList_inj.1 (cb_eq _ _ h2))))]
section
variable {p:List Nat × Nat}
theorem insN_all:∀ l:List (List Nat × Nat),(∀ x∈l,¬ nmCf p x < 0)→insN p l=l++[p]
 | [],_=>rfl
 | x :: t,h=>by
  unfold insN
  rw [if_neg (h x (by simp)),insN_all t (fun y hy=>h y (by simp [hy]))]
  rfl
theorem insN_first:∀ (l t:List (List Nat × Nat)) (x:List Nat × Nat),(∀ x∈l,¬ nmCf p x < 0)→nmCf p x < 0→insN p (l++x :: t)=l++p :: x :: t
 | [],t,x,_,hx=>by
  show insN p (x :: t)=_
  unfold insN
  rw [if_pos hx]
  rfl
 | y :: l,t,x,h,hx=>by
  show insN p (y :: (l++x :: t))=_
  unfold insN
  rw [if_neg (h y (by simp)),insN_first l t x (fun z hz=>h z (by simp [hz])) hx]
  rfl
def TkI (p:List Nat × Nat) (l:List (List Nat × Nat)) (k:Nat) (d:Bool) (xs:List (List Nat × Nat)):Prop :=
 if d=true then insN p l=xs++l.drop k else (∀ x∈l.take k,¬ nmCf p x < 0)∧xs=l.take k
theorem TkI.zero (l:List (List Nat × Nat)):TkI p l 0 false []:=by
 unfold TkI
 rw [if_neg (by decide)]
 exact ⟨fun x hx=>by simp at hx,rfl⟩
variable {l xs:List (List Nat × Nat)} {k:Nat}
theorem TkI.done_ (h:TkI p l k true xs) (hk:k < l.length):TkI p l (k+1) true (xs++[l[k]]):=by
 unfold TkI at h ⊢
 rw [if_pos rfl] at h ⊢
 rw [h,List.drop_eq_getElem_cons hk,List.append_assoc]
 rfl
theorem TkI.first_ (h:TkI p l k false xs) (hk:k < l.length) (hc:nmCf p l[k] < 0):TkI p l (k+1) true (xs++[p]++[l[k]]):=by
 unfold TkI at h ⊢
 rw [if_neg (by decide)] at h
 rw [if_pos rfl]
 have h1:=insN_first (p:=p) (l.take k) (l.drop (k+1)) l[k] h.1 hc
 rw [List.getElem_cons_drop,List.take_append_drop] at h1
 rw [h1,h.2,List.append_assoc,List.append_assoc,← List.getElem_cons_drop (h:=hk)]
 rfl
theorem TkI.on_ (h:TkI p l k false xs) (hk:k < l.length) (hc:¬ nmCf p l[k] < 0):TkI p l (k+1) false (xs++[l[k]]):=by
 unfold TkI at h ⊢
 rw [if_neg (by decide)] at h ⊢
 rw [List.take_succ_eq_append_getElem hk]
 refine ⟨fun x hx=>?_,by rw [h.2]⟩
 rcases List.mem_append.1 hx with hx | hx
 ·exact h.1 x hx
 ·rw [List.mem_singleton.1 hx]
  exact hc
theorem TkI.last_ (h:TkI p l l.length false xs):insN p l=xs++[p]:=by
 unfold TkI at h
 rw [if_neg (by decide),List.take_length] at h
 rw [insN_all l h.1,h.2]
theorem TkI.end_ (h:TkI p l l.length true xs):insN p l=xs:=by
 unfold TkI at h
 rw [if_pos rfl,List.drop_length,List.append_nil] at h
 exact h
theorem TkI.len_ {d:Bool} (h:TkI p l k d xs) (hk:k≤l.length):xs.length≤k+1:=by
 unfold TkI at h
 cases d
 ·rw [if_neg (by decide)] at h
  rw [h.2,List.length_take]
  omega
 ·rw [if_pos rfl] at h
  have h1:=(insN_perm p l).length_eq
  rw [h,List.length_append,List.length_drop,List.length_cons] at h1
  omega
end
def RetRf (w:World) (A:Option Addr) (st:Nat) (R:List (List Nat × Nat) × Nat) (e:Ending) (w':World):Prop :=
 ∃ (A':Option Addr) (n' c':Nat),e = .returned (.tuple #[.agg #[.int .u64 (st:Int), .slice A' n' c'], .int .i64 (R.2:Int)])∧n'≤c'∧c'≤9223372036854775807∧Reads w' w'.heap.size 2 A' n' (itCells R.1)∧(A'=A∨∀ ad,A'=some ad→w.heap.size≤ad.block∧ad.block < w'.heap.size)∧Below w.heap.size w w'
section
variable (st:Nat) (A:Option Addr) (n c:Nat) (l:List (List Nat × Nat)) (s:ByteArray) (w:World)
theorem refDrop_any (h:Reads w w.heap.size 2 A n (itCells l)) (hn:n≤100) (hc:n≤c∧c≤9223372036854775807) :
  Calls Tryz.prog 151 #[.agg #[.int .u64 (st:Int), .slice A n c], .string s] w (RetRf w A st (rfD s l)):=by
 have hl0:l.length=n:=by have:=h.1;rw [itCells_len] at this;omega
 obtain ⟨W1,hW1⟩:∃ W1,(w.alloc (.cells #[.int .u64 (st:Int), .slice A n c] 130)).alloc (.cells #[.int .u64 0, .slice none 0 0] 130)=W1:=⟨_,rfl⟩
 have hb1:Below w.heap.size w W1:=by rw [← hW1];exact ((Below.refl _ _).alloc (Nat.le_refl _) _).alloc (by simp) _
 have hk1:Blk W1 w.heap.size 130 #[.int .u64 (st:Int), .slice A n c]:=by rw [← hW1];exact (Blk.new _ _ _).alloc _
 have hk2:Blk W1 (w.heap.size+1) 130 #[.int .u64 0, .slice none 0 0]:=by
  rw [← hW1]
  have h1:=Blk.new (w.alloc (.cells #[.int .u64 (st:Int), .slice A n c] 130)) 130 #[.int .u64 0, .slice none 0 0]
  rw [show (w.alloc (.cells #[.int .u64 (st:Int), .slice A n c] 130)).heap.size=w.heap.size+1 by simp] at h1
  exact h1
 have HR:=hid ((h.below hb1).more hb1.size)
 have HRw:=hid h
 have HL:=hid hl0
 have HB1:=hid hb1
 have HW1:=hid hW1
 have HK1:=hid hk1
 have HK2:=hid hk2
 have HFn:=hid (refFind_any st A n c l s W1 ((h.below hb1).more hb1.size) (by omega))
 have HGe:=hid (fndS_ge s 0 l)
 have HY:Hid (rfD s l=if fndS s 0 l < 0 then (l,5) else (l.eraseIdx (fndS s 0 l).toNat,0)):=hid rfl
 generalize rfD s l=Y at *
 obtain ⟨fi,hfi⟩:∃ fi,fndS s 0 l=fi:=⟨_,rfl⟩
 rw [hfi] at HFn HGe HY
 have k0:=hk1.cell 0
 have k1:=hk1.cell 1
 clear h hl0 hb1 hk1 hk2 hW1 hfi
 go_enter Tryz.func151,Tryz.ntmps151
 go_upto_region 1 with fail
 rw [HW1.out]
 go_upto_region 2 with (go_at_call 269;refine HFn.out.mono ?_;rintro e w2 ⟨rfl,hb2⟩;have HB2:=hid hb2;clear hb2)
 by_cases hf:fi < 0
 ·have HY2:Hid (Y=(l,5)):=hid (by rw [HY.out,if_pos hf])
  have hk1:=HK1.out.below HB2.out HK1.out.lt
  have hk2:=HK2.out.below HB2.out HK2.out.lt
  have e0:=hk1.cell 0
  have e1:=hk1.cell 1
  have d0:=hk2.cell 0
  have d1:=hk2.cell 1
  have z0:=hk2.frozen 0
  have z1:=hk2.frozen 1
  clear hk1 hk2 k0 k1 HY
  go_wp2_with fail
  have hb3:Below w.heap.size w ((w2.setCell ⟨w.heap.size+1,0,none⟩ (.int .u64 (st:Int))).setCell ⟨w.heap.size+1,1,none⟩ (.slice A n c)):=((HB1.out.trans (HB2.out.mono HB1.out.size)).setCell (by simp) _).setCell (by simp) _
  have HB3:=hid hb3
  have hk3:Blk ((w2.setCell ⟨w.heap.size+1,0,none⟩ (.int .u64 (st:Int))).setCell ⟨w.heap.size+1,1,none⟩ (.slice A n c)) (w.heap.size+1) 130 #[.int .u64 (st:Int), .slice A n c]:=((HK2.out.below HB2.out HK2.out.lt).set_ 0 _).set_ 1 _
  have c0:=hk3.cell 0
  have c1:=hk3.cell 1
  refine bodyPost_ret (v := .tuple #[.agg #[.int .u64 (st:Int), .slice A n c], .int .i64 5]) (by simp [results,Tryz.results151,go_sem,c0,c1]) rfl ⟨A,n,c,?_⟩
  rw [HY2.out]
  exact ⟨rfl,hc.1,hc.2,(HRw.out.below HB3.out).more HB3.out.size, .inl rfl,HB3.out⟩
 ·obtain ⟨j,hj⟩:∃ j:Nat,fi=(j:Int):=⟨fi.toNat,by omega⟩
  subst hj
  have hge:=HGe.out.2.1
  have hm:=HL.out
  have hjn:j < n:=by omega
  have HY2:Hid (Y=(l.eraseIdx j,0)):=hid (by rw [HY.out,if_neg hf,Int.toNat_natCast])
  have HG:Hid (∀ W,Below W1.heap.size W1 W→Blk W w.heap.size 130 #[.int .u64 (st:Int), .slice A n c]∧Blk W (w.heap.size+1) 130 #[.int .u64 0, .slice none 0 0]∧Reads W W.heap.size 2 A n (itCells l)):=hid (fun W hW=>⟨HK1.out.below hW HK1.out.lt,HK2.out.below hW HK2.out.lt,(HR.out.below hW).more hW.size⟩)
  obtain ⟨gb,go,hA3,_,_⟩:=(it_facts (HR.out.below HB2.out) (k:=j) hjn).2
  subst hA3
  have hz5:(0:Int)≤(j:Int):=by omega
  have hz6:(j:Int)≤(c:Int):=by omega
  have hz7:(j:Int)+1≤(n:Int):=by omega
  have hz8:IntKind.i64.wrap ((j:Int)+1)=(j:Int)+1:=by rw [IntKind.wrap_i64];omega
  obtain ⟨A2,hA2⟩:∃ A2,(if c=j+1 then some (⟨gb,go,none⟩:Addr) else some ⟨gb,go+(j+1) * 2,none⟩)=A2:=⟨_,rfl⟩
  have HRc:Hid (∀ W,Below W1.heap.size W1 W→Reads W W.heap.size 2 A2 (n - (j+1)) (itCells (l.drop (j+1)))):=hid (fun W hW=>by
   have h1:=(HG.out W hW).2.2.cut (k:=j+1) (cap:=c) (by omega) hc.1
   rw [itCells_drop] at h1
   rw [← hA2]
   have e:Option.map (fun x=>Addr.add x ((j+1) * 2)) (some (⟨gb,go,none⟩:Addr))=some ⟨gb,go+(j+1) * 2,none⟩:=by
    rw [Option.map_some,add_plain]
   rw [e] at h1
   exact h1)
  have HRt:Hid (∀ W,Below W1.heap.size W1 W→Reads W W.heap.size 2 (some ⟨gb,go,none⟩) j (itCells (l.take j))):=hid (fun W hW=>by
   have h1:=reads_tk (HG.out W hW).2.2 (m:=j) (by omega)
   rw [itCells_take l j (by omega)] at h1
   exact h1)
  obtain ⟨i0,hi0,hz0,hz1,hz2⟩:=info_parts infoRNm
  have e0:=(HG.out w2 HB2.out).1.cell 0
  have e1:=(HG.out w2 HB2.out).1.cell 1
  clear hf hge HY HGe HFn k0 k1
  go_upto_region 4 with fail
  refine wp_region_scriptH (fun w'=>w'.cell? ⟨w.heap.size,0,none⟩=some (.int .u64 (st:Int))∧w'.cell? ⟨w.heap.size,1,none⟩=some (.slice (some ⟨gb,go,none⟩) n c)) 17 [] [(1,0),(1,1),(1,3),(1,4),(1,5),(1,6),(1,8),(1,9),(1,10),(1,11),(1,12),(0,2),(0,7),(0,13),(1,14),(0,15),(1,16)] (by kernel_rfl) (by kernel_rfl) ⟨e0,e1⟩ ?_
  refine wpScriptH_take (.pointer (some ⟨w.heap.size,0,none⟩)) (by rfl) (by rfl) (fun w' hS=>?_) ?_
  ·go_simp
  simp only [zA,zB,Act.put,zD,zE,zF]
  refine wpScriptH_take (.int .u64 (st:Int)) (by rfl) (by rfl) (fun w' hS=>?_) ?_
  ·obtain ⟨s0,s1⟩:=hS
   go_simp
  simp only [zA,zB,zC,Act.put,zD,zE,zF]
  refine wpScriptH_take (.pointer (some ⟨w.heap.size,1,none⟩)) (by rfl) (by rfl) (fun w' hS=>?_) ?_
  ·go_simp
  simp only [zA,zB,zC,Act.put,zD,zE,zF]
  refine wpScriptH_take (.slice (some ⟨gb,go,none⟩) n c) (by rfl) (by rfl) (fun w' hS=>?_) ?_
  ·obtain ⟨s0,s1⟩:=hS
   go_simp
  simp only [zA,zB,zC,Act.put,zD,zE,zF]
  refine wpScriptH_take (.int .i64 (j:Int)) (by rfl) (by rfl) (fun w' hS=>?_) ?_
  ·go_simp
  simp only [zA,zB,zC,Act.put,zD,zE,zF]
  refine wpScriptH_take (.slice (some ⟨gb,go,none⟩) j c) (by rfl) (by rfl) (fun w' hS=>?_) ?_
  ·go_simp
  simp only [zA,zB,zC,Act.put,zD,zE,zF]
  refine wpScriptH_take (.pointer (some ⟨w.heap.size,1,none⟩)) (by rfl) (by rfl) (fun w' hS=>?_) ?_
  ·go_simp
  simp only [zA,zB,zC,Act.put,zD,zE,zF]
  refine wpScriptH_take (.slice (some ⟨gb,go,none⟩) n c) (by rfl) (by rfl) (fun w' hS=>?_) ?_
  ·obtain ⟨s0,s1⟩:=hS
   go_simp
  simp only [zA,zB,zC,Act.put,zD,zE,zF]
  refine wpScriptH_take (.int .i64 (j:Int)) (by rfl) (by rfl) (fun w' hS=>?_) ?_
  ·go_simp
  simp only [zA,zB,zC,Act.put,zD,zE,zF]
  refine wpScriptH_take (.int .i64 ((j:Int)+1)) (by rfl) (by rfl) (fun w' hS=>?_) ?_
  ·go_simp
  simp only [zA,zB,zC,Act.put,zD,zE,zF]
  refine wpScriptH_take (.slice A2 (n - (j+1):Nat) (c - (j+1):Nat)) (by rfl) (by rfl) (fun w' hS=>?_) ?_
  ·rw [← hA2]
   go_simp
   intro h
   omega
  simp only [zA,zB,zC,Act.put,zD,zE,zF]
  clear hA2
  refine wpScriptH_do (by rfl) ?_
  go_wp2_with fail
  have hb3:Below w2.heap.size w2 (w2.alloc (.cells #[] 261)).drew:=((Below.refl w2.heap.size w2).alloc (Nat.le_refl _) _).drew
  have HB3:=hid (HB2.out.trans (hb3.mono HB2.out.size))
  have HO3:Hid ((w2.alloc (.cells #[] 261)).drew.ownsRow w2.heap.size 261 2 (.slice (some ⟨w2.heap.size,0,none⟩) 0 0) 0 []):=hid (own_empty2 w2 _)
  have hS3:w2.heap.size≤(w2.alloc (.cells #[] 261)).drew.heap.size:=hb3.size
  have HW23:Hid (W1.heap.size≤w2.heap.size):=hid HB2.out.size
  refine ⟨⟨(HG.out _ HB3.out).1.cell 0,(HG.out _ HB3.out).1.cell 1⟩,?_⟩
  clear hb3 e0 e1
  generalize hW3:(w2.alloc (.cells #[] 261)).drew=w3 at *
  clear hW3
  refine wpScriptH_do (by rfl) ?_
  refine wpList_app3 _ (.tmp 15) (.tmp 19) 128 rfl rfl w2.heap.size 261 i0 _ 2 24 Tryz.underlying128 hi0 hz0 hz1 hz2 rfl (by omega) (.slice (some ⟨w2.heap.size,0,none⟩) 0 0) 0 [] rfl HO3.out _ (some ⟨gb,go,none⟩) j c (itCells (l.take j)) rfl (HRt.out _ HB3.out) (itCells_one _) ?_ ?_ ?_ ?_
  ·unfold maxLen;omega
  ·omega
  ·exact hS3
  intro A4 n4 c4 w4 hn4 ho4 hg4 hv4
  have HB4:Hid (Below w2.heap.size w3 w4):=hid ((Below.refl _ _).grown hg4 hS3 (fun g hg=>(HO3.out.lt g hg).1))
  have HB4':Hid (Below W1.heap.size W1 w4):=hid (HB3.out.trans (HB4.out.mono HW23.out))
  have HO4:Hid (w4.ownsRow w2.heap.size 261 2 (.slice A4 n4 c4) n4 (itCells (l.take j))):=hid (by simpa using ho4)
  have HN4:Hid (n4=j):=hid (by omega)
  have hS4:w2.heap.size≤w4.heap.size:=Nat.le_trans hS3 HB4.out.size
  clear hn4 ho4 hg4 hv4
  go_wp2_with fail
  refine ⟨⟨(HG.out _ HB4'.out).1.cell 0,(HG.out _ HB4'.out).1.cell 1⟩,?_⟩
  have hn4:=HN4.out
  refine wpScriptH_do (by rfl) ?_
  refine wpList_app3 _ (.tmp 20) (.tmp 25) 128 rfl rfl w2.heap.size 261 i0 _ 2 24 Tryz.underlying128 hi0 hz0 hz1 hz2 rfl (by omega) (.slice A4 n4 c4) n4 (itCells (l.take j)) rfl HO4.out _ A2 (n - (j+1)) (c - (j+1)) (itCells (l.drop (j+1))) rfl (HRc.out _ HB4'.out) (itCells_one _) ?_ ?_ ?_ ?_
  ·unfold maxLen;omega
  ·omega
  ·exact hS4
  intro A5 n5 c5 w5 hn5 ho5 hg5 hv5
  have HB5:Hid (Below w2.heap.size w4 w5):=hid ((Below.refl _ _).grown hg5 hS4 (fun g hg=>(HO4.out.lt g hg).1))
  have HB5':Hid (Below W1.heap.size W1 w5):=hid (HB4'.out.trans (HB5.out.mono HW23.out))
  have HO5:Hid (w5.ownsRow w2.heap.size 261 2 (.slice A5 n5 c5) n5 (itCells (l.eraseIdx j))):=hid (by
   rw [List.eraseIdx_eq_take_drop_succ,itCells_app]
   exact ho5)
  clear hn5 ho5 hg5 hv5 hn4 HN4
  go_wp2_with fail
  refine ⟨⟨(HG.out _ HB5'.out).1.cell 0,(HG.out _ HB5'.out).1.cell 1⟩,?_⟩
  refine wpScriptH_take (.agg #[.int .u64 (st:Int), .slice A5 n5 c5]) (by rfl) (by rfl) (fun w' hS=>?_) ?_
  ·go_simp
  simp only [zA,zB,zC,Act.put,zD,zE,zF]
  have hk5:=(HG.out _ HB5'.out).2.1
  have k50:=hk5.cell 0
  have k51:=hk5.cell 1
  have z50:=hk5.frozen 0
  have z51:=hk5.frozen 1
  refine wpScriptH_do (by rfl) ?_
  go_wp2_with fail
  have hb6:Below w.heap.size w ((w5.setCell ⟨w.heap.size+1,0,none⟩ (.int .u64 (st:Int))).setCell ⟨w.heap.size+1,1,none⟩ (.slice A5 n5 c5)):=((HB1.out.trans (HB5'.out.mono HB1.out.size)).setCell (by simp) _).setCell (by simp) _
  have HB6:=hid hb6
  have hk6:Blk ((w5.setCell ⟨w.heap.size+1,0,none⟩ (.int .u64 (st:Int))).setCell ⟨w.heap.size+1,1,none⟩ (.slice A5 n5 c5)) (w.heap.size+1) 130 #[.int .u64 (st:Int), .slice A5 n5 c5]:=(hk5.set_ 0 _).set_ 1 _
  have hk7:Blk ((w5.setCell ⟨w.heap.size+1,0,none⟩ (.int .u64 (st:Int))).setCell ⟨w.heap.size+1,1,none⟩ (.slice A5 n5 c5)) w.heap.size 130 #[.int .u64 (st:Int), .slice (some ⟨gb,go,none⟩) n c]:=((HG.out _ HB5'.out).1.far (by simp) _).far (by simp) _
  have HO6:Hid (((w5.setCell ⟨w.heap.size+1,0,none⟩ (.int .u64 (st:Int))).setCell ⟨w.heap.size+1,1,none⟩ (.slice A5 n5 c5)).ownsRow w2.heap.size 261 2 (.slice A5 n5 c5) n5 (itCells (l.eraseIdx j))):=hid (by
   have h2:=HB2.out.size
   have h3:=HK2.out.lt
   exact ownsRow_setCell_below (ownsRow_setCell_below HO5.out (show w.heap.size+1 < w2.heap.size by omega) _) (show w.heap.size+1 < w2.heap.size by omega) _)
  have c0:=hk6.cell 0
  have c1:=hk6.cell 1
  refine ⟨⟨hk7.cell 0,hk7.cell 1⟩,?_⟩
  clear k50 k51 z50 z51 hk5 hb6 hk7
  generalize ((w5.setCell ⟨w.heap.size+1,0,none⟩ (.int .u64 (st:Int))).setCell ⟨w.heap.size+1,1,none⟩ (.slice A5 n5 c5))=w6 at *
  refine wpScriptH_take (.int .i64 0) (by rfl) (by rfl) (fun w' hS=>?_) ?_
  ·go_simp
  simp only [zA,zB,zC,Act.put,zD,zE,zF]
  show wpList _ _ _ _ _ _
  simp only [List.drop_succ_cons,List.drop_zero]
  refine NoPanic.normal ?_
  go_wp2_with fail
  refine bodyPost_ret (v := .tuple #[.agg #[.int .u64 (st:Int), .slice A5 n5 c5], .int .i64 0]) (by simp [results,Tryz.results151,go_sem,c0,c1]) rfl ⟨A5,n5,c5,?_⟩
  rw [HY2.out]
  refine ⟨rfl,(own_cap HO6.out).1,(own_cap HO6.out).2,Reads.of_own HO6.out, .inr (fun ad hA=>?_),HB6.out⟩
  subst hA
  have h1:=HO6.out.lt ad.block rfl
  have h2:=HW23.out
  have h3:=HB1.out.size
  omega
theorem refTake_any (h:Reads w w.heap.size 2 A n (itCells l)) (hn:n≤8) (hc:n≤c∧c≤9223372036854775807) (hst:st < 18446744073709551616) (hs:s.size≤9223372036854775807) :
  Calls Tryz.prog 153 #[.agg #[.int .u64 (st:Int), .slice A n c], .string s] w (RetRf w A st (rfT s st l)):=by
 have hl0:l.length=n:=by have:=h.1;rw [itCells_len] at this;omega
 obtain ⟨W1,hW1⟩:∃ W1,(w.alloc (.cells #[.int .u64 (st:Int), .slice A n c] 130)).alloc (.cells #[.int .u64 0, .slice none 0 0] 130)=W1:=⟨_,rfl⟩
 have hb1:Below w.heap.size w W1:=by rw [← hW1];exact ((Below.refl _ _).alloc (Nat.le_refl _) _).alloc (by simp) _
 have hk1:Blk W1 w.heap.size 130 #[.int .u64 (st:Int), .slice A n c]:=by rw [← hW1];exact (Blk.new _ _ _).alloc _
 have hk2:Blk W1 (w.heap.size+1) 130 #[.int .u64 0, .slice none 0 0]:=by
  rw [← hW1]
  have h1:=Blk.new (w.alloc (.cells #[.int .u64 (st:Int), .slice A n c] 130)) 130 #[.int .u64 0, .slice none 0 0]
  rw [show (w.alloc (.cells #[.int .u64 (st:Int), .slice A n c] 130)).heap.size=w.heap.size+1 by simp] at h1
  exact h1
 have HRw:=hid h
 have HL:=hid hl0
 have HB1:=hid hb1
 have HW1:=hid hW1
 have HNm:=hid (refName_any s hs W1)
 have HG:Hid (∀ W,Below W1.heap.size W1 W→Blk W w.heap.size 130 #[.int .u64 (st:Int), .slice A n c]∧Blk W (w.heap.size+1) 130 #[.int .u64 0, .slice none 0 0]∧Reads W W.heap.size 2 A n (itCells l)∧Below w.heap.size w W):=hid (fun W hW=>⟨hk1.below hW hk1.lt,hk2.below hW hk2.lt,(((h.below hb1).more hb1.size).below hW).more hW.size,hb1.trans (hW.mono hb1.size)⟩)
 have HFn:=hid (refFind_any st A n c l s W1 ((h.below hb1).more hb1.size) (by omega))
 have HCap:=hid hc
 have HEr:Hid (∀ (w2:World) (k:Nat),Below W1.heap.size W1 w2→rfT s st l=(l,k)→(RetRf w A st (rfT s st l)) (.returned (.tuple #[.agg #[.int .u64 (st:Int), .slice A n c], .int .i64 (k:Int)])) ((w2.setCell ⟨w.heap.size+1,0,none⟩ (.int .u64 (st:Int))).setCell ⟨w.heap.size+1,1,none⟩ (.slice A n c))∧Blk ((w2.setCell ⟨w.heap.size+1,0,none⟩ (.int .u64 (st:Int))).setCell ⟨w.heap.size+1,1,none⟩ (.slice A n c)) (w.heap.size+1) 130 #[.int .u64 (st:Int), .slice A n c]):=hid (fun w2 k hW hk=>by
  have hb3:Below w.heap.size w ((w2.setCell ⟨w.heap.size+1,0,none⟩ (.int .u64 (st:Int))).setCell ⟨w.heap.size+1,1,none⟩ (.slice A n c)):=((hb1.trans (hW.mono hb1.size)).setCell (by simp) _).setCell (by simp) _
  refine ⟨⟨A,n,c,?_⟩,((HG.out w2 hW).2.1.set_ 0 _).set_ 1 _⟩
  rw [hk]
  exact ⟨rfl,hc.1,hc.2,(h.below hb3).more hb3.size, .inl rfl,hb3⟩)
 have HY:Hid (rfT s st l=if nmOk s=false then (l,15) else if 0≤fndS s 0 l then (l,6) else if l.length=8 then (l,4) else (insN (bytesN s,st) l,0)):=hid rfl
 generalize rfT s st l=Y at *
 obtain ⟨fi,hfi⟩:∃ fi,fndS s 0 l=fi:=⟨_,rfl⟩
 rw [hfi] at HFn HY
 have k0:=hk1.cell 0
 have k1:=hk1.cell 1
 have d0:=hk2.cell 0
 have d1:=hk2.cell 1
 have z0:=hk2.frozen 0
 have z1:=hk2.frozen 1
 clear h hl0 hb1 hk1 hk2 hW1 hfi hc
 go_enter Tryz.func153,Tryz.ntmps153
 go_upto_region 1 with fail
 rw [HW1.out]
 cases hnm:nmOk s with
 | false =>
  rw [hnm] at HNm
  have HY2:Hid (Y=(l,15)):=hid (by rw [HY.out,if_pos hnm])
  clear HY hnm
  go_wp2_with (go_at_call 270;refine HNm.out.mono ?_;rintro e w2 ⟨rfl,rfl⟩)
  obtain ⟨q1,q2⟩:=HEr.out W1 15 (Below.refl _ _) HY2.out
  have c0:=q2.cell 0
  have c1:=q2.cell 1
  exact bodyPost_ret (v := .tuple #[.agg #[.int .u64 (st:Int), .slice A n c], .int .i64 15]) (by simp [results,Tryz.results153,go_sem,c0,c1]) rfl q1
 | true =>
  rw [hnm] at HNm
  go_upto_region 3 with (go_at_call 270;refine HNm.out.mono ?_;rintro e w2 ⟨rfl,rfl⟩)
  go_upto_if 17 with (go_at_call 269;refine HFn.out.mono ?_;rintro e w3 ⟨rfl,hb3⟩;have HB3:=hid hb3;clear hb3)
  obtain ⟨hk1,hk2,hr3,hbw⟩:=HG.out w3 HB3.out
  have HR3:=hid hr3
  have HBw:=hid hbw
  have HK1:=hid hk1
  have HK2:=hid hk2
  have e0:=hk1.cell 0
  have e1:=hk1.cell 1
  have d0':=hk2.cell 0
  have d1':=hk2.cell 1
  have z0':=hk2.frozen 0
  have z1':=hk2.frozen 1
  have hnf:nmOk s≠false:=by rw [hnm];decide
  clear hk1 hk2 hr3 hbw k0 k1 d0 d1 z0 z1 HNm HFn hnm
  by_cases hf:0≤fi
  ·have HY2:Hid (Y=(l,6)):=hid (by rw [HY.out,if_neg hnf,if_pos hf])
   obtain ⟨q1,q2⟩:=HEr.out w3 6 HB3.out HY2.out
   have c0:=q2.cell 0
   have c1:=q2.cell 1
   have Q1:=hid q1
   have hfd:decide (0≤fi)=true:=decide_eq_true hf
   clear HY q1 q2 HEr
   go_wp2_with fail
   exact bodyPost_ret (v := .tuple #[.agg #[.int .u64 (st:Int), .slice A n c], .int .i64 6]) (by simp [results,Tryz.results153,go_sem,c0,c1]) rfl Q1.out
  have hf2:fi < 0:=by omega
  have hfd:decide (0≤fi)=false:=decide_eq_false hf
  by_cases h8:n=8
  ·have HY2:Hid (Y=(l,4)):=hid (by rw [HY.out,if_neg hnf,if_neg hf,if_pos (by have:=HL.out;omega)])
   obtain ⟨q1,q2⟩:=HEr.out w3 4 HB3.out HY2.out
   have c0:=q2.cell 0
   have c1:=q2.cell 1
   have Q1:=hid q1
   have h8i:((n:Int) == 8)=true:=by rw [beq_iff_eq];omega
   clear HY q1 q2 HEr hf h8
   go_wp2_with fail
   exact bodyPost_ret (v := .tuple #[.agg #[.int .u64 (st:Int), .slice A n c], .int .i64 4]) (by simp [results,Tryz.results153,go_sem,c0,c1]) rfl Q1.out
  have HY2:Hid (Y=(insN (bytesN s,st) l,0)):=hid (by rw [HY.out,if_neg hnf,if_neg hf,if_neg (by have:=HL.out;omega)])
  have h8i:((n:Int) == 8)=false:=by rw [beq_eq_false_iff_ne];omega
  have hn7:n≤7:=by omega
  have HNS:Hid (strN (bytesN s)=s):=hid (strN_bytesN s)
  have HTk0:Hid (TkI (bytesN s,st) l 0 false []):=hid (TkI.zero l)
  have HO0:Hid (w3.ownsRow w3.heap.size 261 2 (.slice none 0 0) 0 (itCells [])):=hid (World.ownsRow_nil _ _ _ _)
  have HB0:Hid (Below w3.heap.size w3 w3):=hid (Below.refl _ _)
  obtain ⟨i0,hi0,hz0,hz1,hz2⟩:=info_parts infoRNm
  obtain ⟨P,hP⟩:∃ P,(bytesN s,st)=P:=⟨_,rfl⟩
  have HP:Hid (strN P.1=s∧P.2=st):=hid (by rw [← hP];exact ⟨HNS.out,rfl⟩)
  rw [hP] at HTk0 HY2
  clear HY hf h8 HEr hP
  go_wp2_with fail
  clear hfd hf2 h8i
  go_loopw [6,7,27] (fun v6 v7 vi wr=>∃ (k m c':Nat) (A':Option Addr) (d:Bool) (xs:List (List Nat × Nat)),k≤n∧m≤9∧vi = .int .i64 (k:Int)∧v7 = .bool d∧v6 = .slice A' m c'∧Hid (wr.ownsRow w3.heap.size 261 2 (.slice A' m c') m (itCells xs))∧Hid (TkI P l k d xs)∧Hid (Below w3.heap.size w3 wr)) (fun _ _ vi _=>n - (Go.RowKit.intOf vi).toNat)
  case atStart=>exact ⟨0,0,0,none,false,[],Nat.zero_le _,by omega,rfl,rfl,rfl,HO0,HTk0,HB0⟩
  case round =>
   clear HTk0 HO0 HB0
   obtain ⟨k,m,c',A',d,xs,hk,hm9,rfl,rfl,rfl,HO,HTk,HB⟩:=hrel
   have HM:Hid (m=xs.length):=hid (by
    have h1:=HO.out.1
    rw [itCells_len] at h1
    omega)
   have HKb:=hid (HG.out wr (HB3.out.trans (HB.out.mono HB3.out.size)))
   by_cases hlt:k < n
   ·obtain ⟨hkl,gb,go,hA3,_,f0,f1⟩:=it_facts HKb.out.2.2.1 (k:=k) hlt
    subst hA3
    have HM8:Hid (m≤k+1):=hid (by rw [HM.out];exact HTk.out.len_ (by have:=HL.out;omega))
    have HT1:Hid (d=true→TkI P l (k+1) true (xs++[l[k]])):=hid (fun h=>by subst h;exact HTk.out.done_ hkl)
    have HT2:Hid (d=false→nmCf P l[k] < 0→TkI P l (k+1) true (xs++[P]++[l[k]])):=hid (fun h hc=>by subst h;exact HTk.out.first_ hkl hc)
    have HT3:Hid (d=false→¬ nmCf P l[k] < 0→TkI P l (k+1) false (xs++[l[k]])):=hid (fun h hc=>by subst h;exact HTk.out.on_ hkl hc)
    generalize l[k]=p at *
    have HCf:Hid (nmCf P p = - snCmp (strN p.1) s):=hid (by
     have h1:=cb_swap (strN p.1).data.toList s.data.toList
     show snCmp (strN P.1) (strN p.1)=_
     rw [HP.out.1]
     exact h1)
    obtain ⟨pn,pv⟩:=p
    dsimp only at f0 f1 HCf
    have hz5:(0:Int)≤(k:Int):=by omega
    have hz6:(k:Int) < (n:Int):=by omega
    obtain ⟨W4,hW4⟩:∃ W4,wr.alloc (.cells #[.string (strN pn), .int .u64 (pv:Int)] 261)=W4:=⟨_,rfl⟩
    have hb4:Below wr.heap.size wr W4:=by rw [← hW4];exact (Below.refl _ _).alloc (Nat.le_refl _) _
    have hk4:Blk W4 wr.heap.size 261 #[.string (strN pn), .int .u64 (pv:Int)]:=by rw [← hW4];exact Blk.new _ _ _
    have HO4:Hid (W4.ownsRow w3.heap.size 261 2 (.slice A' m c') m (itCells xs)):=hid (by rw [← hW4];exact HO.out.alloc _)
    have HB4:Hid (Below w3.heap.size w3 W4):=hid (HB.out.trans (hb4.mono HB.out.size))
    have HW4:=hid hW4
    have HK4:=hid hk4
    have HOg:Hid (∀ g,(Value.slice A' m c').ownBlock=some g→g < wr.heap.size):=hid (fun g hg=>(HO.out.lt g hg).2)
    have g0:W4.cell? ⟨wr.heap.size,0,none⟩=some (.string (strN pn)):=hk4.cell 0
    obtain ⟨kb1,kb2,_,_⟩:=HG.out W4 (HB3.out.trans (HB4.out.mono HB3.out.size))
    have b0:W4.cell? ⟨w.heap.size,0,none⟩=some (.int .u64 (st:Int)):=kb1.cell 0
    clear hW4 hb4 hk4 kb1 kb2 HKb HTk
    go_upto_region 12 with fail
    rw [HW4.out]
    go_cut [38] from 31 to 38 (fun v wx=>∃ g:Bool,v = .bool g∧Hid (g=(!d && decide (nmCf P (pn,pv) < 0)))∧Hid (W4=wx))
    case first =>
     cases d
     case true =>
      go_wp2_with fail
      go_meet
      exact ⟨false,rfl,hid rfl,hid rfl⟩
     case false =>
      obtain ⟨q1,q2⟩:=nm_ways (strN pn) s
      have hcf:=HCf.out
      by_cases h1:snCmp (strN pn) s < 0
      ·rw [decide_eq_true h1] at q1
       rw [decide_eq_false (by omega)] at q2
       have HR:Hid (decide (nmCf P (pn,pv) < 0)=false):=hid (decide_eq_false (by omega))
       clear hcf
       go_wp2_with fail
       go_meet
       exact ⟨_,rfl,hid (by rw [HR.out];rfl),hid rfl⟩
      ·by_cases h2:snCmp (strN pn) s=0
       ·rw [decide_eq_false h1] at q1
        rw [decide_eq_true h2] at q2
        have HR:Hid (decide (nmCf P (pn,pv) < 0)=false):=hid (decide_eq_false (by omega))
        clear hcf h2
        go_wp2_with fail
        go_meet
        exact ⟨_,rfl,hid (by rw [HR.out];rfl),hid rfl⟩
       ·rw [decide_eq_false h1] at q1
        rw [decide_eq_false h2] at q2
        have HR:Hid (decide (nmCf P (pn,pv) < 0)=true):=hid (decide_eq_true (by omega))
        clear hcf h2
        go_wp2_with fail
        go_meet
        exact ⟨_,rfl,hid (by rw [HR.out];rfl),hid rfl⟩
    case rest =>
    obtain ⟨g,rfl,HGd,hwx⟩:=hcut
    have hwx2:=hwx.out
    subst hwx2
    clear hwx HCf
    have hk9:k≤6:=by omega
    go_upto_if 38 with fail
    go_cut [6,7] from 39 to 45 (fun v6 v7 wx=>∃ (m1 c1:Nat) (A1:Option Addr) (d1:Bool) (xs1:List (List Nat × Nat)),m1≤k+2∧v7 = .bool d1∧v6 = .slice A1 m1 c1∧Hid (wx.ownsRow w3.heap.size 261 2 (.slice A1 m1 c1) m1 (itCells xs1))∧Hid (TkI P l (k+1) d1 (xs1++[(pn,pv)]))∧Hid (Below w3.heap.size w3 wx)∧Hid (Blk wx wr.heap.size 261 #[.string (strN pn), .int .u64 (pv:Int)]))
    case first =>
     cases g
     case false =>
      go_wp2_with fail
      go_meet
      refine ⟨m,c',A',d,xs,by have:=HM8.out;omega,rfl,rfl,HO4,hid ?_,HB4,HK4⟩
      cases d
      ·have h1:=HGd.out
       rw [Bool.not_false,Bool.true_and] at h1
       exact HT3.out rfl (Int.not_lt.1 (of_decide_eq_false h1.symm))
      ·exact HT1.out rfl
     case true =>
      have hm8:=HM8.out
      obtain ⟨kb1,kb2,_,_⟩:=HG.out W4 (HB3.out.trans (HB4.out.mono HB3.out.size))
      have b0:W4.cell? ⟨w.heap.size,0,none⟩=some (.int .u64 (st:Int)):=kb1.cell 0
      clear kb1 kb2
      go_wp2_with (at_builtin;refine stop ?_)
      unfold Stop
      have HR1:=hid (row_reads_at W4 _ rfl [.string s, .int .u64 (st:Int)] 1 2 261 _ rfl rfl)
      refine wpList_app _ (.tmp 39) (.tmp 44) 128 rfl rfl w3.heap.size 261 i0 _ 2 24 Tryz.underlying128 hi0 hz0 hz1 hz2 rfl (by omega) (.slice A' m c') m (itCells xs) rfl (HO4.out.alloc _) (W4.heap.size+1) (some ⟨W4.heap.size,0,none⟩) 1 1 [.string s, .int .u64 (st:Int)] rfl HR1.out (fun u hu=>by simp at hu;rcases hu with rfl | rfl <;> rfl) (by unfold maxLen;omega) (by omega) (by have:=HB4.out.size;simp;omega) ?_
      intro A5 n5 c5 w5 hn5 ho5 hg5 hb5
      have HB5:=hid ((HB4.out.alloc HB4.out.size _).trans hb5)
      have HK5:Hid (Blk w5 wr.heap.size 261 #[.string (strN pn), .int .u64 (pv:Int)]):=hid ((HK4.out.alloc _).grown hg5 (fun e=>by have:=HOg.out _ e.symm;omega))
      have HO5:Hid (w5.ownsRow w3.heap.size 261 2 (.slice A5 n5 c5) n5 (itCells (xs++[P]))):=hid (by
       rw [itCells_snoc,HP.out.1,HP.out.2]
       exact ho5)
      have HN5:Hid (n5≤k+2):=hid (by omega)
      clear hn5 ho5 hg5 hb5 b0
      go_wp2_with fail
      go_meet
      refine ⟨n5,c5,A5,true,xs++[P],HN5.out,rfl,rfl,HO5,hid ?_,HB5,HK5⟩
      have h1:=HGd.out.symm
      rw [Bool.and_eq_true] at h1
      exact HT2.out (by simpa using h1.1) (of_decide_eq_true h1.2)
    case rest =>
    obtain ⟨m1,c1,A1,d1,xs1,hm1,rfl,rfl,HO6,HT6,HB6,HK6⟩:=hcut
    obtain ⟨w6,hw6⟩:∃ z,z=wc:=⟨_,rfl⟩
    subst hw6
    have g0':=HK6.out.cell 0
    have g1':=HK6.out.cell 1
    clear HO4 HB4 HK4 HT1 HT2 HT3 HGd HOg g0 b0 HO HB HM HM8 f0 f1 hm9
    go_wp2_with (at_builtin;refine stop ?_)
    unfold Stop
    have HR1:=hid (row_reads_at w6 _ rfl [.string (strN pn), .int .u64 (pv:Int)] 1 2 261 _ rfl rfl)
    refine wpList_app _ (.tmp 46) (.tmp 48) 128 rfl rfl w3.heap.size 261 i0 _ 2 24 Tryz.underlying128 hi0 hz0 hz1 hz2 rfl (by omega) (.slice A1 m1 c1) m1 (itCells xs1) rfl (HO6.out.alloc _) (w6.heap.size+1) (some ⟨w6.heap.size,0,none⟩) 1 1 [.string (strN pn), .int .u64 (pv:Int)] rfl HR1.out (fun u hu=>by simp at hu;rcases hu with rfl | rfl <;> rfl) (by unfold maxLen;omega) (by omega) (by have:=HB6.out.size;simp;omega) ?_
    intro A7 n7 c7 w7 hn7 ho7 hg7 hb7
    have HB7:=hid ((HB6.out.alloc HB6.out.size _).trans hb7)
    have HO7:Hid (w7.ownsRow w3.heap.size 261 2 (.slice A7 n7 c7) n7 (itCells (xs1++[(pn,pv)]))):=hid (by
     rw [itCells_snoc]
     exact ho7)
    have HN7:Hid (n7≤9):=hid (by omega)
    clear hn7 ho7 hg7 hb7 g0' g1' hm1
    go_wp2_with fail
    go_roundw
    case rel =>
     first
      | exact ⟨k+1,n7,_,_,_,_,by omega,HN7.out,by go_num,rfl,rfl,HO7,HT6,HB7⟩
      | (
        repeat apply Exists.intro
        refine ⟨?_,rfl⟩
        exact ⟨k+1,n7,_,_,_,_,by omega,HN7.out,by go_num,rfl,rfl,HO7,HT6,HB7⟩)
    case measure=>simp [Go.RowKit.intOf];omega
   ·obtain rfl:k=n:=by omega
    have HB8:Hid (Below W1.heap.size W1 wr):=hid (HB3.out.trans (HB.out.mono HB3.out.size))
    have HTl:Hid (TkI P l l.length d xs):=hid (by rw [HL.out];exact HTk.out)
    obtain ⟨kb1,kb2,_,_⟩:=HKb.out
    have b0:wr.cell? ⟨w.heap.size,0,none⟩=some (.int .u64 (st:Int)):=kb1.cell 0
    have HM9:Hid (m≤9):=hid hm9
    clear HKb kb1 kb2 hlt hk HTk
    have HFin:Hid (∀ (wz:World) (A9:Option Addr) (n9 c9:Nat) (zs:List (List Nat × Nat)),Below w3.heap.size w3 wz→wz.ownsRow w3.heap.size 261 2 (.slice A9 n9 c9) n9 (itCells zs)→insN P l=zs→RetRf w A st Y (.returned (.tuple #[.agg #[.int .u64 (st:Int), .slice A9 n9 c9], .int .i64 0])) ((wz.setCell ⟨w.heap.size+1,0,none⟩ (.int .u64 (st:Int))).setCell ⟨w.heap.size+1,1,none⟩ (.slice A9 n9 c9))∧Blk wz (w.heap.size+1) 130 #[.int .u64 0, .slice none 0 0]∧wz.cell? ⟨w.heap.size,0,none⟩=some (.int .u64 (st:Int))∧Blk ((wz.setCell ⟨w.heap.size+1,0,none⟩ (.int .u64 (st:Int))).setCell ⟨w.heap.size+1,1,none⟩ (.slice A9 n9 c9)) (w.heap.size+1) 130 #[.int .u64 (st:Int), .slice A9 n9 c9]):=hid (fun wz A9 n9 c9 zs hz ho he=>by
     obtain ⟨q1,q2,_,q4⟩:=HG.out wz (HB3.out.trans (hz.mono HB3.out.size))
     have h3:=HB1.out.size
     have h4:=HB3.out.size
     have h5:=HK2.out.lt
     have hlt:w.heap.size+1 < w3.heap.size:=h5
     have hb6:Below w.heap.size w ((wz.setCell ⟨w.heap.size+1,0,none⟩ (.int .u64 (st:Int))).setCell ⟨w.heap.size+1,1,none⟩ (.slice A9 n9 c9)):=(q4.setCell (by simp) _).setCell (by simp) _
     have ho6:=ownsRow_setCell_below (ownsRow_setCell_below ho (a:=⟨w.heap.size+1,0,none⟩) hlt (.int .u64 (st:Int))) (a:=⟨w.heap.size+1,1,none⟩) hlt (.slice A9 n9 c9)
     refine ⟨⟨A9,n9,c9,?_⟩,q2,q1.cell 0,(q2.set_ 0 _).set_ 1 _⟩
     rw [HY2.out,he]
     refine ⟨rfl,(own_cap ho6).1,(own_cap ho6).2,Reads.of_own ho6, .inr (fun ad hA=>?_),hb6⟩
     subst hA
     have h1:=ho6.lt ad.block rfl
     omega)
    have HO9:=hid HO.out
    go_upto_region 17 with fail
    cases d
    case true =>
     obtain ⟨Q1,q2,q3,q4⟩:=HFin.out wr A' m c' xs HB.out HO9.out HTl.out.end_
     have HQ1:=hid Q1
     have d0:=q2.cell 0
     have d1:=q2.cell 1
     have z0:=q2.frozen 0
     have z1:=q2.frozen 1
     have c0:=q4.cell 0
     have c1:=q4.cell 1
     clear Q1 q2 q4 HFin
     go_wp2_with fail
     exact bodyPost_ret (v := .tuple #[.agg #[.int .u64 (st:Int), .slice A' m c'], .int .i64 0]) (by simp [results,Tryz.results153,go_sem,c0,c1]) rfl HQ1.out
    case false =>
     have hm9:=HM9.out
     go_wp2_with (at_builtin;refine stop ?_)
     unfold Stop
     have HR1:=hid (row_reads_at wr _ rfl [.string s, .int .u64 (st:Int)] 1 2 261 _ rfl rfl)
     refine wpList_app _ (.tmp 53) (.tmp 58) 128 rfl rfl w3.heap.size 261 i0 _ 2 24 Tryz.underlying128 hi0 hz0 hz1 hz2 rfl (by omega) (.slice A' m c') m (itCells xs) rfl (HO9.out.alloc _) (wr.heap.size+1) (some ⟨wr.heap.size,0,none⟩) 1 1 [.string s, .int .u64 (st:Int)] rfl HR1.out (fun u hu=>by simp at hu;rcases hu with rfl | rfl <;> rfl) (by unfold maxLen;omega) (by omega) (by have:=HB.out.size;simp;omega) ?_
     intro A5 n5 c5 w5 hn5 ho5 hg5 hb5
     have HB5:=hid ((HB.out.alloc HB.out.size _).trans hb5)
     have HO5:Hid (w5.ownsRow w3.heap.size 261 2 (.slice A5 n5 c5) n5 (itCells (xs++[P]))):=hid (by
      rw [itCells_snoc,HP.out.1,HP.out.2]
      exact ho5)
     clear hn5 ho5 hg5 hb5 b0
     obtain ⟨Q1,q2,q3,q4⟩:=HFin.out w5 A5 n5 c5 (xs++[P]) HB5.out HO5.out HTl.out.last_
     have HQ1:=hid Q1
     have d0:=q2.cell 0
     have d1:=q2.cell 1
     have z0:=q2.frozen 0
     have z1:=q2.frozen 1
     have c0:=q4.cell 0
     have c1:=q4.cell 1
     clear Q1 q2 q4 HFin
     go_wp2_with fail
     exact bodyPost_ret (v := .tuple #[.agg #[.int .u64 (st:Int), .slice A5 n5 c5], .int .i64 0]) (by simp [results,Tryz.results153,go_sem,c0,c1]) rfl HQ1.out
end
end
end Go.Proofs.YtfkjjoglnmeciaaGreatDoor
