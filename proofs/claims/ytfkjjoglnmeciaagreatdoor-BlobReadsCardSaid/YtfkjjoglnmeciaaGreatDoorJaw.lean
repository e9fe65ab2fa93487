/- The walks and laws that the claim leans on, part 23. -/
import Derived.Test.YtfkjjoglnmeciaaGreatDoorJau
import Derived.Laws.CopyOwn
set_option maxRecDepth 100000
set_option maxHeartbeats 16000000
namespace Go.Proofs.YtfkjjoglnmeciaaGreatDoor
open Go.Lib (hid)
section
open Go.RowKit
theorem bsize_any (n:Nat) (hn:n≤100000) (w:World) (hp:Pay w):Calls Tryz.prog 104 #[.int .i64 (n:Int)] w fun e w'=>e = .returned (.int .i64 (bSize n:Int))∧w=w':=by
 by_cases h:456 < n
 ·have hb:bSize n=60:=by unfold bSize;rw [if_pos h]
  have d1:decide ((456:Int) < (n:Int))=true:=decide_eq_true (by omega)
  have d2:(456:Int) < (n:Int):=by omega
  rw [hb]
  clear hb
  go_enter Tryz.func104,Tryz.ntmps104
  go_wp2
  go_ret
  exact ⟨rfl,rfl⟩
 ·have hb:bSize n=payW (clsOf (3+(n+7) / 8)):=by unfold bSize;rw [if_neg h]
  have d1:decide ((456:Int) < (n:Int))=false:=decide_eq_false (by omega)
  have HC:=hid (class_any (3+(n+7) / 8) (by omega) (by omega) w hp)
  have HW:=hid (szWords_any (clsOf (3+(n+7) / 8)) (clsOf_lt _) w hp)
  obtain ⟨c,hc⟩:∃ c,3+(n+7) / 8=c:=⟨_,rfl⟩
  have v1:(3:Int)+((n:Int)+8 - 1) / 8=(c:Int):=by omega
  have v2:wrap64 (3+((n:Int)+8 - 1) / 8)=(c:Int):=by rw [v1];exact IntWalk.wrap64_in _ (by omega)
  rw [hc] at HC HW hb
  rw [hb]
  clear hb hc
  go_enter Tryz.func104,Tryz.ntmps104
  go_wp2_with (first
   | (go_at_call 201;refine HC.out.mono ?_;rintro e w1 ⟨rfl,rfl⟩)
   | (go_at_call 202;refine HW.out.mono ?_;rintro e w1 ⟨rfl,rfl⟩))
  go_ret
  exact ⟨rfl,rfl⟩
def uA (l:List Nat):Array Value:=(uCells l).toArray
theorem uA_at {l:List Nat} {i:Nat} (h:i < l.length):(uA l)[i]?=some (.int .u64 (l[i]:Int)):=by
 unfold uA uCells
 simp [h]
theorem uA_set {l:List Nat} {i v:Nat}:(uA l).setIfInBounds i (.int .u64 (v:Int))=uA (l.set i v):=by
 unfold uA uCells
 simp [List.map_set]
theorem uA_reads {w:World} {g:Nat} {l:List Nat} (h:Blk w g 32 (uA l)):Reads w w.heap.size 1 (some ⟨g,0,none⟩) l.length (uCells l) :=
 reads_of_blk h (by simp [uCells]) (fun j u hu=>by unfold uA;simpa using hu)
def RetSeal (w:World) (g:Nat) (l:List Nat) (e:Ending) (w':World):Prop:=e = .returned (.tuple #[])∧Blk w' g 32 (uA (l.take (l.length - 1)++[sumW (l.take (l.length - 1))]))∧Chg (fun k=>k=g) w w'
theorem seal_blob (g n c:Nat) (l:List Nat) (w:World) (h:Blk w g 32 (uA l)) (hl:l.length=n) (h1:1≤n) (hn:n≤1000) (hc:n≤c) (_hc2:c≤100000) (hx:∀ x∈l,x < 18446744073709551616) (ht:Tab w) :
  Calls Tryz.prog 205 #[.slice (some ⟨g,0,none⟩) n c] w (RetSeal w g l):=by
 obtain ⟨j,rfl⟩:∃ j,n=j+1:=⟨n - 1,by omega⟩
 have hR:=uA_reads h
 rw [hl] at hR
 have hS:=reads_sub hR (k:=0) (m:=j) (by omega) (by omega) (by omega)
 rw [List.drop_zero,Nat.add_zero,Nat.sub_zero] at hS
 have HW:=hid (wordsX_any (some ⟨g,0,none⟩) j c w.heap.size (l.take j) w hS (fun x hx'=>hx x (List.mem_of_mem_take hx')) (by omega) ht)
 have e1:l.length - 1=j:=by omega
 have hv:sumW (l.take j) < 18446744073709551616:=by have:=sumW_lt (l.take j);omega
 have HF:Hid (RetSeal w g l (.returned (.tuple #[])) (w.setCell ⟨g,j,none⟩ (.int .u64 (sumW (l.take j):Int)))):=hid (by
  refine ⟨rfl,?_,(Chg.refl (fun k=>k=g) w).setCell (p:=⟨g,j,none⟩) (.inl rfl) _⟩
  have h2:=h.set_ j (.int .u64 (sumW (l.take j):Int))
  rw [uA_set] at h2
  rw [e1]
  have e2:l.set j (sumW (l.take j))=l.take j++[sumW (l.take j)]:=by
   apply List.ext_getElem
   ·simp;omega
   ·intro i h1 h2
    rw [List.getElem_set]
    by_cases e:j=i
    ·subst e
     rw [if_pos rfl,List.getElem_append_right (by simp;omega)]
     simp
    ·rw [if_neg e,List.getElem_append_left (by simp at h1 ⊢;omega)]
     simp
  rw [← e2]
  exact h2)
 have w1:wrap64 (((j+1:Nat):Int) - 1)=(j:Int):=by rw [IntWalk.wrap64_in _ (by omega)];omega
 have w2:((j+1:Nat):Int) - 1=(j:Int):=by omega
 have w3:(j:Int) < ((j+1:Nat):Int):=by omega
 have w4:(0:Int)≤(j:Int):=by omega
 have w5:(j:Int)≤(c:Int):=by omega
 have z1:w.frozen? ⟨g,j,none⟩=false:=h.frozen _
 have q1:w.cell? ⟨g,j,none⟩=some (.int .u64 (l[j]:Int)):=by rw [h.cell];exact uA_at (by omega)
 generalize l[j]=lj at *
 generalize sumW (l.take j)=sm at *
 have hsm:sm < 4294967296∨4294967296≤sm:=by omega
 generalize hN:j+1=n at *
 clear h hR hS hl hN e1
 go_enter Tryz.func205,Tryz.ntmps205
 go_wp2_with (go_at_call 249;refine HW.out.mono ?_;rintro e w1 ⟨rfl,rfl⟩)
 go_end0
 exact HF.out
end
section
open Go.RowKit
theorem make_uA (n:Nat):madeCells #[.int .u64 0] n=uA (List.replicate n 0):=by
 apply Array.ext'
 rw [toList_madeCells_one]
 unfold uA uCells
 simp
theorem half_or (x:Nat) (h:x < 1000000):bits .or .u64 (x:Int) ((x:Int) * 4294967296)=((x * 4294967297:Nat):Int):=by
 rw [bits_join_low .u64 64 (by decide) wraps_u64 32 (x:Int) ((x:Int) * 4294967296) (by omega) (by omega) (by omega) (by omega) (by omega) (by omega)]
 omega
theorem Reads.take8 {w:World} {B n:Nat} {A:Option Addr} {xs:List Value} (h:Reads w B 1 A n xs) (k:Nat):Reads w B 1 A (min n k) (xs.take k):=by
 refine ⟨by have:=h.1;rw [List.length_take];omega,fun hn=>?_⟩
 obtain ⟨ad,hA,hb,hc⟩:=h.2 (by omega)
 refine ⟨ad,hA,hb,fun j u hu=>hc j u ?_⟩
 rw [List.getElem?_take] at hu
 split at hu
 ·exact hu
 ·cases hu
theorem set_two (q nx v:Nat) (hq:3≤q):((List.replicate q 0).set 0 nx).set 1 v=nx :: v :: List.replicate (q - 2) 0:=by
 obtain ⟨m,rfl⟩:∃ m,q=m+2:=⟨q - 2,by omega⟩
 rfl
theorem splice_pay (next v:Nat) (pk:List Nat) (m:Nat) (_h:pk.length≤m):(splice (uCells (next :: v :: List.replicate m 0)) 2 (uCells pk)).toArray=uA ([next,v]++pk++List.replicate (m - pk.length) 0):=by
 unfold splice uA uCells
 simp only [List.map_cons,List.length_map,List.take_succ_cons,List.take_zero,List.map_append,List.cons_append,List.nil_append]
 congr 4
 rw [show 2+pk.length=pk.length+1+1 by omega,List.drop_succ_cons,List.drop_succ_cons]
 simp
def RetWs (w:World) (ws:List (Nat × Nat)) (e:Ending) (w':World):Prop:=∃ A m c,e = .returned (.slice A m c)∧m=ws.length∧w'.ownsRow w.heap.size 114 2 (.slice A m c) m (wrCells ws)∧Below w.heap.size w w'
theorem pwW_take (o:Nat) (l:List Nat) {k:Nat} (hk:k < l.length):(pwW o l).take (k+1)=(pwW o l).take k++[(o+8 * k,l[k])]:=by
 have h:k < (pwW o l).length:=by rw [pwW_len];exact hk
 rw [List.take_succ_eq_append_getElem h]
 congr 2
 have h2:(pwW o l)[k]?=some (o+8 * k,l[k]):=by
  unfold pwW
  rw [List.getElem?_map,List.getElem?_range hk]
  show some (o+8 * k,l.getD k 0)=_
  rw [List.getD_eq_getElem?_getD,List.getElem?_eq_getElem hk]
  rfl
 rw [List.getElem?_eq_getElem h] at h2
 injection h2
theorem contents_any (b next:Nat) (A:Option Addr) (n c:Nat) (p:List Nat) (w:World) (h:Reads w w.heap.size 1 A n (u8s p)) (hp:∀ x∈p,x < 256) (hn:n≤2000) (hc:n≤c) (hnx:next < 18446744073709551616) (hb0:b≠0) (ht:Tab w) (hpy:Pay w) :
  Calls Tryz.prog 106 #[.int .u64 (b:Int), .int .u64 (next:Int), .slice A n c] w (RetWs w (pwW (pOff b) (payL next p))):=by
 have hl0:p.length=n:=by have:=h.1;simp [u8s] at this;omega
 have HSz:=hid (bsize_any n (by omega) w hpy)
 have hbs:=bSize_le n
 have hbg:=bSize_ge n
 obtain ⟨q,hq⟩:∃ q,bSize n=q:=⟨_,rfl⟩
 rw [hq] at HSz hbs hbg
 have hmk:=makeU q (by omega)
 rw [make_uA] at hmk
 have hW1:=Blk.new w 32 (uA (List.replicate q 0))
 have hWB:Below w.heap.size w (w.alloc (.cells (uA (List.replicate q 0)) 32)):=(Below.refl _ _).alloc (Nat.le_refl _) _
 have HPk:Hid (∀ W,Below w.heap.size w W→Calls Tryz.prog 204 #[.slice A (min n 456) c] W (RetPk W (packW (p.take 456)))):=hid (fun W hW=>by
  refine pack_any A (min n 456) c (p.take 456) W ?_ (fun x hx=>hp x (List.mem_of_mem_take hx)) (by omega)
  have h1:=(h.below hW).more hW.size
  have h2:=Reads.take8 h1 456
  rw [show (u8s p).take 456=u8s (p.take 456) by simp [u8s]] at h2
  exact h2)
 obtain ⟨k4,hk4⟩:∃ k4,min n 456=k4:=⟨_,rfl⟩
 rw [hk4] at HPk
 have m1:min (n:Int) 456=(k4:Int):=by omega
 have m2:(k4:Int)≤(c:Int):=by omega
 have m3:(0:Int)≤(k4:Int):=by omega
 have HV:=hid (half_or n (by omega))
 have HNx:=hid hnx
 have HHp:=hid hp
 have HHl:=hid hl0
 have HMm:=hid (show bSize n=q∧k4≤456∧k4≤n∧3+(k4+7) / 8≤q∧q≤60 from ⟨hq,by omega,by omega,by rw [← hk4];exact hbg,hbs.2⟩)
 have HTb:=hid ht
 have hq60:q≤60:=by omega
 have q0:(0:Int) < (q:Int):=by omega
 have q1:(1:Int) < (q:Int):=by omega
 have q2:(2:Int)≤(q:Int):=by omega
 have hq3:3≤q:=by omega
 have hqn2:¬ q=2:=by omega
 have m4:(if (456:Int) < (n:Int) then (456:Int) else (n:Int))=(k4:Int):=by split <;> omega
 obtain ⟨pk,hpk⟩:∃ pk,packW (p.take 456)=pk:=⟨_,rfl⟩
 have hpl:pk.length≤q - 3:=by rw [← hpk,packW_len,List.length_take];omega
 have HPkE:=hid hpk
 rw [hpk] at HPk
 clear h hp hnx hq hbs hbg ht hpy hk4 hl0
 go_enter Tryz.func106,Tryz.ntmps106
 go_upto_region 2 with (go_at_call 104;refine HSz.out.mono ?_;rintro e w1 ⟨rfl,rfl⟩)
 generalize hWW:w.alloc (.cells (uA (List.replicate q 0)) 32)=W1 at *
 have c0:W1.cell? ⟨w.heap.size,0,none⟩=some (.int .u64 0):=by rw [hW1.cell,uA_at (by simp;omega)];simp
 have c1:W1.cell? ⟨w.heap.size,1,none⟩=some (.int .u64 0):=by rw [hW1.cell,uA_at (by simp;omega)];simp
 have z0:W1.frozen? ⟨w.heap.size,0,none⟩=false:=hW1.frozen 0
 have z1:W1.frozen? ⟨w.heap.size,1,none⟩=false:=hW1.frozen 1
 go_upto_region 4 with fail
 rw [HV.out]
 have HK2:Hid (Blk ((W1.setCell ⟨w.heap.size,0,none⟩ (.int .u64 (next:Int))).setCell ⟨w.heap.size,1,none⟩ (.int .u64 ((n * 4294967297:Nat):Int))) w.heap.size 32 (uCells (next :: n * 4294967297 :: List.replicate (q - 2) 0)).toArray):=hid (by
  have h1:=(hW1.set_ 0 (.int .u64 (next:Int))).set_ 1 (.int .u64 ((n * 4294967297:Nat):Int))
  rw [uA_set,uA_set,set_two q _ _ hq3] at h1
  exact h1)
 have HB2:Hid (Below w.heap.size w ((W1.setCell ⟨w.heap.size,0,none⟩ (.int .u64 (next:Int))).setCell ⟨w.heap.size,1,none⟩ (.int .u64 ((n * 4294967297:Nat):Int)))):=hid ((hWB.setCell (Nat.le_refl _) _).setCell (Nat.le_refl _) _)
 generalize (W1.setCell ⟨w.heap.size,0,none⟩ (.int .u64 (next:Int))).setCell ⟨w.heap.size,1,none⟩ (.int .u64 ((n * 4294967297:Nat):Int))=W2 at *
 clear c0 c1 z0 z1 hW1 hWB hWW
 have HPk2:=hid (HPk.out W2.drew HB2.out.drew)
 refine wp_region_scriptH (fun _=>True) 8 [] [(1,0),(1,1),(1,2),(1,3),(1,4),(1,5),(1,6),(0,7)] (by kernel_rfl) (by kernel_rfl) trivial ?_
 refine wpScriptH_take (.slice (some ⟨w.heap.size,0,none⟩) q q) (by rfl) (by rfl) (fun w' hS=>?_) ?_
 ·go_simp
 simp only [zA,zB,Act.put,zD,zE,zF]
 refine wpScriptH_take (.slice (some ⟨w.heap.size,2,none⟩) (q - 2) (q - 2)) (by rfl) (by rfl) (fun w' hS=>?_) ?_
 ·go_simp
 simp only [zA,zB,zC,Act.put,zD,zE,zF]
 refine wpScriptH_take (.slice A n c) (by rfl) (by rfl) (fun w' hS=>?_) ?_
 ·go_simp
 simp only [zA,zB,zC,Act.put,zD,zE,zF]
 refine wpScriptH_take (.slice A n c) (by rfl) (by rfl) (fun w' hS=>?_) ?_
 ·go_simp
 simp only [zA,zB,zC,Act.put,zD,zE,zF]
 refine wpScriptH_take (.int .i64 (n:Int)) (by rfl) (by rfl) (fun w' hS=>?_) ?_
 ·go_simp
 simp only [zA,zB,zC,Act.put,zD,zE,zF]
 refine wpScriptH_take (.int .i64 (k4:Int)) (by rfl) (by rfl) (fun w' hS=>?_) ?_
 ·go_simp
 simp only [zA,zB,zC,Act.put,zD,zE,zF]
 refine wpScriptH_take (.slice A k4 c) (by rfl) (by rfl) (fun w' hS=>?_) ?_
 ·go_simp
 simp only [zA,zB,zC,Act.put,zD,zE,zF]
 refine wpScriptH_do (by rfl) ?_
 go_wp2_with (go_at_call 204;refine HPk2.out.mono ?_;rintro e w3 ⟨A3,m3,c3,rfl,hm3,hr3,hf3,hb3⟩;have HM3:=hid hm3;have HR3:=hid hr3;have HB3:=hid hb3;clear hm3 hr3 hf3 hb3)
 refine ⟨trivial,?_⟩
 show wpList _ _ _ _ _ _
 simp only [List.drop_succ_cons,List.drop_zero]
 have HB3':Hid (Below W2.heap.size W2 w3):=hid ((Below.refl _ W2).drew.trans HB3.out)
 have HK3:=hid (HK2.out.below HB3'.out HK2.out.lt)
 have hpl2:pk.length≤q - 2:=by omega
 refine wpList_copy_splice rfl (.tmp 29) (.tmp 35) 99 99 rfl 32 Tryz.underlying99 (by kernel_rfl) (some ⟨w.heap.size,2,none⟩) A3 (q - 2) (q - 2) m3 c3 rfl rfl w.heap.size 2 (uCells (next :: n * 4294967297 :: List.replicate (q - 2) 0)) 32 HK3.out (uCells pk) ?n1 ?n2 ?n3 ?n4 w.heap.size w (HB2.out.trans (HB3'.out.mono HB2.out.size)) (Nat.le_refl _) ?_
 case n1 =>
  show _=min m3 (q - 2)
  have h1:=HM3.out
  rw [Nat.min_eq_left (by omega)]
  simp [uCells]
  omega
 case n2 =>
  intro h0
  refine ⟨rfl,?_⟩
  obtain ⟨ad,hA,_,hc⟩:=HR3.out.2 (by have:=HM3.out;simp [uCells] at h0;omega)
  exact ⟨ad,hA,hc⟩
 case n3=>simp [uCells];omega
 case n4=>intro v hv;unfold uCells at hv;obtain ⟨y,_,rfl⟩:=List.mem_map.1 hv;rfl
 intro W4 hg4 hb4
 have HK4:Hid (Blk W4 w.heap.size 32 (uA ([next,n * 4294967297]++pk++List.replicate (q - 2 - pk.length) 0))):=hid (by
  have h1:=hg4.out
  rw [splice_pay _ _ _ _ hpl2] at h1
  exact h1)
 have HB4:=hid hb4
 clear hg4 hb4 HK2 HK3 HB2 HB3 HB3' HR3
 go_wp2_with fail
 refine NoPanic.normal ?_
 have HSe:=hid (seal_blob w.heap.size q q ([next,n * 4294967297]++pk++List.replicate (q - 2 - pk.length) 0) W4 HK4.out (by simp;omega) (by omega) (by omega) (Nat.le_refl _) (by omega) (fun x hx=>by
  rcases List.mem_append.1 hx with hx | hx
  ·rcases List.mem_append.1 hx with hx | hx
   ·simp at hx
    rcases hx with rfl | rfl
    ·exact HNx.out
    ·omega
   ·rw [← HPkE.out] at hx
    exact packW_lt (fun b hb=>HHp.out b (List.mem_of_mem_take hb)) x hx
  ·have:=(List.mem_replicate.1 hx).2
   omega) (HTb.out.below HB4.out))
 have HPay:Hid (([next,n * 4294967297]++pk++List.replicate (q - 2 - pk.length) 0).take (([next,n * 4294967297]++pk++List.replicate (q - 2 - pk.length) 0).length - 1)++[sumW (([next,n * 4294967297]++pk++List.replicate (q - 2 - pk.length) 0).take (([next,n * 4294967297]++pk++List.replicate (q - 2 - pk.length) 0).length - 1))]=payL next p):=hid (by
  have e1:([next,n * 4294967297]++pk++List.replicate (q - 2 - pk.length) 0)=payB next p++[0]:=by
   unfold payB
   rw [HPkE.out,HHl.out,HMm.out.1,show q - 2 - pk.length=(q - 3 - pk.length)+1 by omega,List.replicate_succ']
   simp only [List.append_assoc]
  rw [e1]
  unfold payL
  have e2:(payB next p++[0]).length - 1=(payB next p).length:=by simp
  rw [e2,List.take_left])
 obtain ⟨pl,hpl3⟩:∃ pl,payL next p=pl:=⟨_,rfl⟩
 have HGp:=hid hpl3
 rw [hpl3] at HPay
 have HSe2:Hid (Calls Tryz.prog 205 #[.slice (some ⟨w.heap.size,0,none⟩) q q] W4 fun e w'=>e = .returned (.tuple #[])∧Blk w' w.heap.size 32 (uA pl)∧Below w.heap.size w w'):=hid (HSe.out.mono (fun e w' h=>by
  obtain ⟨h1,h2,h3⟩:=h
  rw [HPay.out] at h2
  exact ⟨h1,h2,HB4.out.trans (h3.toBelow HB4.out.size (fun k hk=>by subst hk;exact Nat.le_refl _))⟩))
 have HPL:Hid (pl.length=q∧∀ x∈pl,x < 18446744073709551616):=hid (by
  rw [← hpl3,payL_len,HHl.out,HMm.out.1]
  exact ⟨rfl,payL_lt HNx.out HHp.out (by rw [HHl.out];exact hn)⟩)
 clear HSe HPay hpl3 HK4 HMm HPkE HNx HHp HHl hpl hpl2 HPk HPk2 HV
 have HAt:Hid (∀ (j:Nat) (W:World),j < q→Calls Tryz.prog 49 #[.int .u64 (b:Int), .int .i64 (j:Int)] W fun e w'=>e = .returned (.int .u64 ((pOff b+8 * j:Nat):Int))∧W=w'):=hid (fun j W hj=>by
  have h1:=at_any b j (by omega) W
  have h2:pAt b j=pOff b+8 * j:=by unfold pAt;rw [if_neg (by omega)]
  rw [h2] at h1
  exact h1)
 have hpo9:pOff b≤34359738360:=by unfold pOff;omega
 obtain ⟨O,hO⟩:∃ O,pOff b=O:=⟨_,rfl⟩
 have HGo:=hid hO
 rw [hO] at HAt hpo9
 clear hO
 obtain ⟨i0,hi0,hz0,hz1,hz2⟩:=info_parts infoWrite
 have HLn:=hid (pwW_len O pl)
 go_wp2_with (go_at_call 205;refine HSe2.out.mono ?_;rintro e W5 ⟨rfl,hk5,hb5⟩;have HK5:=hid hk5;have HB5:=hid hb5;clear hk5 hb5)
 have HO0:Hid (W5.ownsRow w.heap.size 114 2 (.slice none 0 0) 0 (wrCells ((pwW O pl).take 0))):=World.ownsRow_nil _ _ _ _
 clear HSe2 HB4 hmk m2 m4 HSz
 go_loopw [8,41] (fun v i wr=>∃ (k:Nat) (A1:Option Addr) (m1 c1:Nat),k≤q∧i = .int .i64 k∧v = .slice A1 m1 c1∧m1=k∧Hid (wr.ownsRow w.heap.size 114 2 (.slice A1 m1 c1) m1 (wrCells ((pwW O pl).take k)))∧Hid (Below w.heap.size w wr)∧Hid (Blk wr w.heap.size 32 (uA pl))) (fun _ i _=>q - (Go.RowKit.intOf i).toNat)
 case atStart=>exact ⟨0,_,_,_,Nat.zero_le _,rfl,rfl,rfl,HO0,HB5,HK5⟩
 case round =>
  clear HO0 HB5 HK5
  obtain ⟨k,A1,m1,c1,hk,rfl,rfl,hm1',HO,H,HK⟩:=hrel
  by_cases hlt:k < q
  ·have hkl:k < pl.length:=by have:=HPL.out.1;omega
   have hz5:(0:Int)≤(k:Int):=by omega
   have hz6:(k:Int) < (q:Int):=by omega
   have hm2:m1≤60:=by omega
   have HM:=hid hm1'
   have HA:=hid (fun W=>HAt.out k W hlt)
   have f0:wr.cell? ⟨w.heap.size,k,none⟩=some (.int .u64 (pl[k]:Int)):=by rw [HK.out.cell];exact uA_at hkl
   have HEQ:Hid (wrCells ((pwW O pl).take k)++[.int .u64 ((O+8 * k:Nat):Int), .int .u64 (pl[k]:Int)]=wrCells ((pwW O pl).take (k+1))):=hid (by rw [pwW_take O pl hkl];simp [wrCells])
   have hv64:=HPL.out.2 _ (List.getElem_mem hkl)
   generalize pl[k]=vk at *
   generalize O+8 * k=y at *
   have HLE:=hid H.out.size
   have HOD:=hid (HO.out.alloc (.cells #[.int .u64 (y:Int), .int .u64 (vk:Int)] 114))
   have HBD:=hid (H.out.alloc H.out.size (.cells #[.int .u64 (y:Int), .int .u64 (vk:Int)] 114))
   have HKD:=hid (HK.out.alloc (.cells #[.int .u64 (y:Int), .int .u64 (vk:Int)] 114))
   have HKO:=hid (own_blk_ne HO.out HK.out (by decide))
   clear H HO HK hm1' hkl
   go_wp2_with (first
    | (go_at_call 49;refine (HA.out _).mono ?_;rintro e w1 ⟨rfl,rfl⟩)
    | (at_builtin;refine wpList_app _ (.tmp 46) (.tmp 52) 108 rfl rfl w.heap.size 114 i0 _ 2 16 Tryz.underlying108 hi0 hz0 hz1 hz2 rfl ?q1 (.slice A1 m1 c1) m1 (wrCells ((pwW O pl).take k)) rfl HOD.out (wr.heap.size+1) (some ⟨wr.heap.size,0,none⟩) 1 1 [.int .u64 (y:Int), .int .u64 (vk:Int)] rfl ?q5 ?q6 ?q2 ?q3 ?q4 ?_;(case q1=>omega);(case q5=>exact row_reads_at _ _ rfl _ 1 2 114 _ rfl rfl);(case q6=>(intro u hu;simp at hu;rcases hu with rfl | rfl <;> rfl));(case q2=>(unfold maxLen;omega));(case q3=>omega);(case q4=>(have:=HLE.out;simp;omega));intro A3 n3 c3 w8 hn3 ho3 hg3 hb3;have HN3:=hid hn3;have HO3:=hid ho3;have HB3:=hid (HBD.out.trans hb3);have HK3:=hid (HKD.out.grown hg3 (fun e=>HKO.out e.symm));clear hn3 ho3 hg3 hb3)
    | go_in)
   have b1:n3=k+1:=by have:=HN3.out;have:=HM.out;omega
   have HO4:Hid (w8.ownsRow w.heap.size 114 2 (.slice A3 n3 c3) n3 (wrCells ((pwW O pl).take (k+1)))):=hid (by have h:=HO3.out;rw [HEQ.out] at h;exact h)
   go_roundw
   case rel =>
    first
     | exact ⟨k+1,_,_,_,by omega,by go_num,rfl,b1,HO4,HB3,HK3⟩
     | (
       repeat apply Exists.intro
       refine ⟨?_,rfl⟩
       exact ⟨k+1,_,_,_,by omega,by go_num,rfl,b1,HO4,HB3,HK3⟩)
   case measure=>simp [Go.RowKit.intOf];omega
  ·obtain rfl:q=k:=by omega
   have HFs:Hid (RetWs w (pwW (pOff b) (payL next p)) (.returned (.slice A1 m1 c1)) wr):=hid (by
    rw [HGp.out,HGo.out]
    have h:=HO.out
    rw [List.take_of_length_le (by rw [HLn.out,HPL.out.1];exact Nat.le_refl _)] at h
    exact ⟨A1,m1,c1,rfl,by rw [HLn.out,HPL.out.1];exact hm1',h,H.out⟩)
   clear HO H HK hm1' hlt hk
   go_wp2
   go_ret
   exact HFs.out
end
end Go.Proofs.YtfkjjoglnmeciaaGreatDoor
