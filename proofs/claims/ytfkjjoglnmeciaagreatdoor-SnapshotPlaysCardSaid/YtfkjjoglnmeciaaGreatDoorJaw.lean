/- The walks and laws that the claim leans on, part 23. -/
import Derived.Test.YtfkjjoglnmeciaaGreatDoorJao
import Derived.Lib.ConvBytes
set_option maxRecDepth 100000
set_option maxHeartbeats 16000000
namespace Go.Proofs.YtfkjjoglnmeciaaGreatDoor
open Go.Lib (hid)
section
open Go.RowKit Go.Maps
theorem methNmE (w : World) : (method 640 439 (.agg #[]) "Encode").run Tryz.prog w = .ok (443, .agg #[]) w := by kernel_rfl
theorem methUnE (w : World) : (method 640 440 (.agg #[]) "Encode").run Tryz.prog w = .ok (446, .agg #[]) w := by kernel_rfl
def encN (l:List Nat):List Nat:=l.length :: (packW l++List.replicate (2 - (packW l).length) 0)
theorem encN_len {l:List Nat} (h:l.length≤16):(encN l).length=3:=by
 have h1:=packW_len l
 unfold encN
 rw [List.length_cons,List.length_append,List.length_replicate]
 omega
def putW (L:List Nat) (o:Nat) (xs:List Nat):List Nat:=L.take o++(xs++L.drop (o+xs.length))
theorem putW_len {L:List Nat} {o:Nat} {xs:List Nat} (h:o+xs.length≤L.length):(putW L o xs).length=L.length:=by
 unfold putW
 rw [List.length_append,List.length_append,List.length_take,List.length_drop]
 omega
theorem putW_one {L:List Nat} {o v:Nat} (h:o < L.length):putW L o [v]=L.set o v:=by
 unfold putW
 rw [List.set_eq_take_append_cons_drop,if_pos h]
 rfl
theorem unEnc_any (g o c v:Nat) (L:List Nat) (w:World) (h:Blk w g 32 (uA L)) (ho:o < L.length) :
  Calls Tryz.prog 446 #[.agg #[], .int .u64 (v:Int), .slice (some ⟨g,o,none⟩) 1 c] w fun e w'=>e = .returned (.bool true)∧Blk w' g 32 (uA (putW L o [v]))∧Chg (fun k=>k=g) w w':=by
 have c0:w.cell? ⟨g,o,none⟩=some (.int .u64 (L[o]:Int)):=by rw [h.cell];exact uA_at ho
 have z0:w.frozen? ⟨g,o,none⟩=false:=h.frozen o
 have hlt:g < w.heap.size:=h.lt
 have HK:=hid h
 have HO:=hid ho
 generalize L[o]=old at *
 clear h ho
 go_enter Tryz.func446,Tryz.ntmps446
 go_wp2
 go_ret
 have hc:Chg (fun k=>k=g) w ((w.setCell ⟨g,o,none⟩ (.int .u64 (v:Int))).alloc (.cells #[] 440)):=((Chg.refl (fun k=>k=g) w).setCell (p:=⟨g,o,none⟩) (.inl rfl) _).alloc _
 have h2:=(HK.out.set_ o (.int .u64 (v:Int))).alloc (.cells #[] 440)
 rw [uA_set,← putW_one HO.out] at h2
 exact ⟨rfl,h2,hc⟩
theorem strN_bytes {w w':World} {l:List Nat} (hb:∀ b∈l,b < 256) (e:w'=Lib.bytesWorld w 5 (strN l)):Reads w' w'.heap.size 1 (some ⟨w.heap.size,0,none⟩) l.length (u8s l)∧Below w.heap.size w w':=by
 subst e
 refine ⟨⟨by simp [u8s],fun hn=>⟨_,rfl,by rw [Lib.bytesWorld_size];exact Nat.lt_succ_self _,fun j u hu=>?_⟩⟩,?_⟩
 ·rw [add_plain,Nat.zero_add]
  have hj:j < l.length:=by
   have h1:=(List.getElem?_eq_some_iff.1 hu).1
   simpa [u8s] using h1
  rw [Lib.bytesWorld_cell w 5 (strN l) j (by rw [show (strN l).size=l.length by show (l.map UInt8.ofNat).toArray.size=_;simp];exact hj),← hu]
  have hbj:=hb _ (List.getElem_mem hj)
  have e1:(strN l).data.toList.getD j 0=UInt8.ofNat l[j]:=by
   show ((l.map UInt8.ofNat).toArray.toList).getD j 0=_
   rw [List.getD_eq_getElem?_getD]
   simp [hj]
  rw [e1,UInt8.toNat_ofNat',Nat.mod_eq_of_lt hbj]
  simp [u8s,hj]
 ·exact ⟨rfl,rfl,rfl,by rw [Lib.bytesWorld_size];omega,fun k hk=>Lib.bytesWorld_at_old w _ _ k hk⟩
theorem putW_name {L pk:List Nat} {o n:Nat} (ho:o+3≤L.length) (hp:pk.length≤2) :
  splice ((((L.set o 0).set (o+1) 0).set (o+2) 0).set o n) (o+1) pk=putW L o (n :: (pk++List.replicate (2 - pk.length) 0)):=by
 have hd:(L.drop o).length ≥ 3:=by rw [List.length_drop];omega
 obtain ⟨A,x,y,z,B,rfl,hA⟩:∃ A x y z B,L=A++x :: y :: z :: B∧A.length=o:=by
  refine ⟨L.take o,?_⟩
  match h:L.drop o,hd with
  | x :: y :: z :: B,_=>exact ⟨x,y,z,B,by rw [← h,List.take_append_drop],by rw [List.length_take];omega⟩
 subst hA
 have e1:((((A++x :: y :: z :: B).set A.length 0).set (A.length+1) 0).set (A.length+2) 0).set A.length n=A++n :: 0 :: 0 :: B:=by
  rw [List.set_append_right _ _ (Nat.le_refl _),List.set_append_right _ _ (by omega),List.set_append_right _ _ (by omega),List.set_append_right _ _ (Nat.le_refl _)]
  simp
 rw [e1]
 unfold splice putW
 have t1:(A++n :: 0 :: 0 :: B).take (A.length+1)=A++[n]:=by
  rw [List.take_append,List.take_of_length_le (by omega),Nat.add_sub_cancel_left]
  rfl
 have d0:∀ j,(A++n :: 0 :: 0 :: B).drop (A.length+j)=(n :: 0 :: 0 :: B).drop j:=fun j=>by
  rw [List.drop_append,List.drop_of_length_le (by omega),List.nil_append,Nat.add_sub_cancel_left]
 have d1:∀ j,(A++x :: y :: z :: B).drop (A.length+j)=(x :: y :: z :: B).drop j:=fun j=>by
  rw [List.drop_append,List.drop_of_length_le (by omega),List.nil_append,Nat.add_sub_cancel_left]
 rw [t1,Nat.add_assoc,d0,d1,List.take_append,List.take_of_length_le (Nat.le_refl _),Nat.sub_self]
 match pk,hp with
 | [],_=>simp
 | [a],_=>simp
 | [a,b],_=>simp
theorem splice_u (L pk:List Nat) (o:Nat):splice (uCells L) o (uCells pk)=uCells (splice L o pk):=by
 unfold splice uCells
 simp
theorem nmEnc_any (g o:Nat) (l L:List Nat) (w:World) (h:Blk w g 32 (uA L)) (ho:o+3≤L.length) (hl:l.length≤16) (hb:∀ b∈l,b < 256) :
  Calls Tryz.prog 443 #[.agg #[], .string (strN l), .slice (some ⟨g,o,none⟩) 3 3] w fun e w'=>e = .returned (.bool true)∧Blk w' g 32 (uA (putW L o (encN l)))∧Below g w w':=by
 obtain ⟨W1,hW1⟩:∃ W1,w.alloc (.cells #[] 439)=W1:=⟨_,rfl⟩
 have hb1:Below w.heap.size w W1:=by rw [← hW1];exact (Below.refl _ _).alloc (Nat.le_refl _) _
 have hkb:Blk W1 w.heap.size 439 #[]:=by rw [← hW1];exact Blk.new _ _ _
 have HW1:=hid hW1
 have HB1:=hid hb1
 have HKb:=hid hkb
 have HG:=hid h
 have HN:=hid (And.intro ho (And.intro hl hb))
 have hsz:(strN l).size=l.length:=by show (l.map UInt8.ofNat).toArray.size=_;simp
 have hl16:((strN l).size:Int)≤16:=by omega
 clear hW1 hb1 hkb h
 go_enter Tryz.func443,Tryz.ntmps443
 go_upto_region 1 with fail
 rw [HW1.out]
 go_upto_region 3 with (go_at_call 444;refine (nmWords_any W1).mono ?_;rintro e w2 ⟨rfl,hb2⟩;have HB2:=hid (HB1.out.trans (hb2.mono HB1.out.size));clear hb2)
 have HG2:=hid (HG.out.below HB2.out HG.out.lt)
 have hcl:∀ ty,(Builtin.clear_ #[99] ty #[.slice (some ⟨g,o,none⟩) 3 3]).run Tryz.prog w2 = .ok (.tuple #[]) (w2.setCells g o (List.replicate 3 (.int .u64 0))):=fun ty =>
  Lib.run_clear_slice w2 99 32 ty (.int .u64 0) Tryz.underlying99 (fun _=>by kernel_rfl) rfl rfl g o 3 3 (by omega) (fun j hj=>by
   rw [HG2.out.cell,uA_at (by omega)];rfl) (fun j _=>HG2.out.frozen _)
 obtain ⟨W3,hW3⟩:∃ W3,w2.setCells g o (List.replicate 3 (.int .u64 0))=W3:=⟨_,rfl⟩
 have hk3:Blk W3 g 32 (uA (((L.set o 0).set (o+1) 0).set (o+2) 0)):=by
  have h1:=((HG2.out.set_ o (.int .u64 ((0:Nat):Int))).set_ (o+1) (.int .u64 ((0:Nat):Int))).set_ (o+1+1) (.int .u64 ((0:Nat):Int))
  rw [uA_set,uA_set,uA_set] at h1
  rw [← hW3]
  exact h1
 have hb3:Below g w W3:=by
  rw [← hW3]
  exact ((((HB2.out.mono (Nat.le_of_lt HG.out.lt)).setCell (p:=⟨g,o,none⟩) (Nat.le_refl _) _).setCell (p:=⟨g,o+1,none⟩) (Nat.le_refl _) _).setCell (p:=⟨g,o+1+1,none⟩) (Nat.le_refl _) _)
 rw [hW3] at hcl
 have c0:W3.cell? ⟨g,o,none⟩=some (.int .u64 ((((L.set o 0).set (o+1) 0).set (o+2) 0)[o]'(by simp;omega):Int)):=by rw [hk3.cell];exact uA_at (by simp;omega)
 have z0:W3.frozen? ⟨g,o,none⟩=false:=hk3.frozen o
 have HB3:=hid hb3
 have HK4:Hid (Blk (W3.setCell ⟨g,o,none⟩ (.int .u64 (l.length:Int))) g 32 (uA ((((L.set o 0).set (o+1) 0).set (o+2) 0).set o l.length))):=hid (by
  have h1:=hk3.set_ o (.int .u64 (l.length:Int))
  rw [uA_set] at h1
  exact h1)
 have HB4:Hid (Below g w (W3.setCell ⟨g,o,none⟩ (.int .u64 (l.length:Int)))):=hid (hb3.setCell (Nat.le_refl _) _)
 have e1:IntKind.u64.wrap (l.length:Int)=(l.length:Int):=by rw [IntKind.wrap_u64];omega
 generalize (((L.set o 0).set (o+1) 0).set (o+2) 0)[o]'(by simp;omega)=old at *
 clear hW3 hk3 hb3
 go_upto_region 5 with fail
 obtain ⟨W4,hW4⟩:∃ W4,W3.setCell ⟨g,o,none⟩ (.int .u64 (l.length:Int))=W4:=⟨_,rfl⟩
 rw [hW4] at HK4 HB4
 have HW4:=hid hW4
 clear hW4 hcl c0 z0 HG2 HB3
 rw [HW4.out]
 have hconv:∀ W,(convert 9 24 (.string (strN l))).run Tryz.prog W = .ok (.slice (some ⟨W.heap.size,0,none⟩) (strN l).size (grownCap W (strN l).size 0 5)) (Lib.bytesWorld W 5 (strN l)):=fun W=>Lib.run_convert_string_bytes (P:=Tryz.prog) W 9 24 5 (strN l) Tryz.underlying9 Tryz.underlying24 Tryz.underlying5
 have HBy:=hid (strN_bytes (w:=W4.drew) HN.out.2.2 rfl)
 obtain ⟨W5,hW5⟩:∃ W5,Lib.bytesWorld W4.drew 5 (strN l)=W5:=⟨_,rfl⟩
 have HW5:=hid hW5
 rw [hW5] at HBy
 have HPk:=hid (fun c=>pack_any (some ⟨W4.drew.heap.size,0,none⟩) l.length c l W5 HBy.out.1 HN.out.2.2 (by have:=HN.out.2.1;omega))
 clear hW5
 refine wp_region_scriptH (fun _=>True) 5 [] [(1,0),(1,1),(1,2),(0,3),(0,4)] (by kernel_rfl) (by kernel_rfl) trivial ?_
 refine wpScriptH_take (.slice (some ⟨g,o,none⟩) 3 3) (by rfl) (by rfl) (fun w' hS=>?_) ?_
 ·go_simp
 simp only [zA,zB,Act.put,zD,zE,zF]
 refine wpScriptH_take (.slice (some ⟨g,o+1,none⟩) 2 2) (by rfl) (by rfl) (fun w' hS=>?_) ?_
 ·go_simp
 simp only [zA,zB,zC,Act.put,zD,zE,zF]
 refine wpScriptH_take (.string (strN l)) (by rfl) (by rfl) (fun w' hS=>?_) ?_
 ·go_simp
 simp only [zA,zB,zC,Act.put,zD,zE,zF]
 refine wpScriptH_do (by rfl) ?_
 go_wp2_with fail
 refine ⟨trivial,?_⟩
 rw [HW5.out]
 refine wpScriptH_do (by rfl) ?_
 go_wp2_with (go_at_call 204;refine (HPk.out _).mono ?_;rintro e w6 ⟨A6,m6,c6,rfl,hm6,hr6,hf6,hb6⟩;have HM6:=hid hm6;have HR6:=hid hr6;have HB6:=hid hb6;clear hm6 hr6 hf6 hb6)
 refine ⟨trivial,?_⟩
 show wpList _ _ _ _ _ _
 simp only [List.drop_succ_cons,List.drop_zero]
 have HB46:Hid (Below W4.heap.size W4 w6):=hid ((Below.refl _ W4).drew.trans (HBy.out.2.trans (HB6.out.mono HBy.out.2.size)))
 have hgl:g < W4.heap.size:=HK4.out.lt
 have HK6:=hid (HK4.out.below HB46.out HK4.out.lt)
 have hpl:(packW l).length≤2:=by have h1:=packW_len l;have h2:=HN.out.2.1;omega
 refine wpList_copy_splice rfl (.tmp 24) (.tmp 27) 99 99 rfl 32 Tryz.underlying99 (by kernel_rfl) (some ⟨g,o+1,none⟩) A6 2 2 m6 c6 rfl rfl g (o+1) (uCells ((((L.set o 0).set (o+1) 0).set (o+2) 0).set o l.length)) 32 HK6.out (uCells (packW l)) ?n1 ?n2 ?n3 ?n4 g w (HB4.out.trans (HB46.out.mono (Nat.le_of_lt hgl))) (Nat.le_refl _) ?_
 case n1 =>
  show _=min m6 2
  have h1:=HM6.out
  rw [Nat.min_eq_left (by omega)]
  simp [uCells]
  omega
 case n2 =>
  intro h0
  refine ⟨rfl,?_⟩
  obtain ⟨ad,hA,_,hc⟩:=HR6.out.2 (by have:=HM6.out;simp [uCells] at h0;omega)
  exact ⟨ad,hA,hc⟩
 case n3=>have h1:=HN.out.1;simp [uCells];omega
 case n4=>intro v hv;unfold uCells at hv;obtain ⟨y,_,rfl⟩:=List.mem_map.1 hv;rfl
 intro W7 hg7 hb7
 have HG7:=hg7
 have HB7:=hid hb7
 clear hg7 hb7 hpl hgl
 go_wp2_with fail
 refine NoPanic.normal ?_
 go_wp2_with fail
 go_ret
 have h1:=HG7.out
 rw [splice_u,putW_name HN.out.1 (by have h1:=packW_len l;have h2:=HN.out.2.1;omega)] at h1
 exact ⟨rfl,h1,HB7.out⟩
end
section
open Go.RowKit Go.Maps
theorem methPrE (w : World) : (method 640 446 (.agg #[nmI, unI]) "Encode").run Tryz.prog w = .ok (449, .agg #[nmI, unI]) w := by kernel_rfl
def encP (p:List Nat × Nat):List Nat:=encN p.1++[p.2]
theorem encP_len {p:List Nat × Nat} (h:p.1.length≤16):(encP p).length=4:=by
 unfold encP
 rw [List.length_append,encN_len h]
 rfl
theorem putW_pair {p:List Nat × Nat} (h:p.1.length≤16):putW (putW (List.replicate 4 0) 0 (encN p.1)) 3 [p.2]=encP p:=by
 have h3:=encN_len h
 unfold putW encP
 rw [h3]
 simp only [List.take_zero,List.nil_append,Nat.zero_add]
 rw [List.take_append,List.take_of_length_le (by omega),h3,Nat.sub_self,List.take_zero,List.append_nil,List.drop_append,h3]
 simp [h3]
theorem splice_put (L xs:List Nat) (o:Nat):splice L o xs=putW L o xs:=rfl
theorem wpList_cpyU (w:World) {ops:Array Oper} {rest:List Oper} {oo:Oper} {a:Act} {Q:Exit→Act→World→Prop} (hgd:oo.guard=none) (d s:Operand)
  (hop:oo.op = .call { callee := .builtin .copy,args:=#[d,s],argTypes:=#[99,99] })
  (g o n cap cap2:Nat) (A:Option Addr) (L xs:List Nat) (hd:a.eval d = .slice (some ⟨g,o,none⟩) n cap) (hs:a.eval s = .slice A n cap2)
  (hg:Blk w g 32 (uA L)) (hn:xs.length=n) (hfit:o+n≤L.length) (B:Nat) (hr:Reads w B 1 A n (uCells xs)) (w0:World) (hb:Below g w0 w)
  (h:∀ w',Blk w' g 32 (uA (putW L o xs))→Below g w0 w'→wpList Tryz.prog ops Q rest (a.put oo.dst (goInt n)) w'):wpList Tryz.prog ops Q (oo :: rest) a w:=by
 have hg2:w.heap[g]?=some (.cells (uCells L).toArray 32 (0,0)):=hg
 refine wpList_copy_splice hgd d s 99 99 hop 32 Tryz.underlying99 (by kernel_rfl) (some ⟨g,o,none⟩) A n cap n cap2 hd hs g o (uCells L) 32 hg2 (uCells xs) (by simp [uCells,hn]) (fun h0=>?_) (by simp [uCells,hn];omega) (fun v hv=>by unfold uCells at hv;obtain ⟨y,_,rfl⟩:=List.mem_map.1 hv;rfl) g w0 hb (Nat.le_refl _) (fun w' h1 h2=>?_)
 ·refine ⟨rfl,?_⟩
  obtain ⟨ad,hA,_,hc⟩:=hr.2 (by simp [uCells] at h0;omega)
  exact ⟨ad,hA,hc⟩
 ·have h3:=h1.out
  rw [splice_u,splice_put] at h3
  have h4:=h w' h3 h2
  rw [show (uCells xs).length=n by simp [uCells,hn]]
  exact h4
theorem prEnc_any (p:List Nat × Nat) (g o:Nat) (L:List Nat) (w:World) (h:Blk w g 32 (uA L)) (ho:o+4≤L.length) (h16:p.1.length≤16) (hb:∀ b∈p.1,b < 256) :
  Calls Tryz.prog 449 #[.agg #[nmI,unI], .agg #[.string (strN p.1), .int .u64 (p.2:Int)], .slice (some ⟨g,o,none⟩) 4 4] w fun e w'=>e = .returned (.bool true)∧Blk w' g 32 (uA (putW L o (encP p)))∧Below g w w':=by
 obtain ⟨W2,hW2⟩:∃ W2,(w.alloc (.cells #[nmI,unI] 446)).alloc (.cells #[.string (strN p.1), .int .u64 (p.2:Int)] 368)=W2:=⟨_,rfl⟩
 have sz:(w.alloc (.cells #[nmI,unI] 446)).heap.size=w.heap.size+1:=by simp
 have hb2:Below w.heap.size w W2:=by
  rw [← hW2]
  have h1:=(Below.refl w.heap.size w).alloc (Nat.le_refl _) (.cells #[nmI,unI] 446)
  exact h1.alloc h1.size _
 have hk:Blk W2 w.heap.size 446 #[nmI,unI]∧Blk W2 (w.heap.size+1) 368 #[.string (strN p.1), .int .u64 (p.2:Int)]:=by
  rw [← hW2]
  have k1:=Blk.new w 446 #[nmI,unI]
  have k2:=Blk.new (w.alloc (.cells #[nmI,unI] 446)) 368 #[.string (strN p.1), .int .u64 (p.2:Int)]
  rw [sz] at k2
  exact ⟨k1.alloc _,k2⟩
 have HW2:=hid hW2
 have HB2:=hid hb2
 have HK:=hid hk
 have HG:=hid h
 have HN:=hid (And.intro ho (And.intro h16 hb))
 have hm:=methNmE
 have hm2:=methUnE
 have n0:W2.cell? ⟨w.heap.size,0,none⟩=some (.iface 439 (.agg #[])):=hk.1.cell 0
 have n1:W2.cell? ⟨w.heap.size,1,none⟩=some (.iface 440 (.agg #[])):=hk.1.cell 1
 clear hW2 hb2 hk h sz
 go_enter Tryz.func449,Tryz.ntmps449
 go_upto_region 1 with fail
 rw [HW2.out]
 go_upto_region 4 with (go_at_call 450;refine (prWords_any W2).mono ?_;rintro e w3 ⟨rfl,hb3⟩;have HB3:=hid hb3;clear hb3)
 clear n0 n1
 have hmkS:=makeU 4 (by decide)
 rw [make_uA] at hmkS
 rw [show ((4:Nat):Int)=4 from rfl] at hmkS
 obtain ⟨Z,hZ⟩:∃ Z:List Nat,Z=List.replicate 4 0:=⟨_,rfl⟩
 rw [← hZ] at hmkS
 have HZ:=hid hZ
 clear hZ
 obtain ⟨W4,hW4⟩:∃ W4,w3.alloc (.cells (uA Z) 32)=W4:=⟨_,rfl⟩
 have hb4:Below W2.heap.size W2 W4:=by rw [← hW4];exact HB3.out.alloc HB3.out.size _
 have hk4:Blk W4 w3.heap.size 32 (uA Z):=by rw [← hW4];exact Blk.new _ _ _
 have HW4:=hid hW4
 have HB4:=hid hb4
 have HK4:=hid hk4
 have n0:W4.cell? ⟨w.heap.size,0,none⟩=some (.iface 439 (.agg #[])):=(HK.out.1.below hb4 HK.out.1.lt).cell 0
 clear hW4 hb4 hk4
 go_upto_region 5 with fail
 rw [HW4.out]
 go_upto_region 6 with (go_at_call 451;refine (nmSize_any _).mono ?_;rintro e w5 ⟨rfl,hb5⟩;have HB5:=hid (HB4.out.trans (hb5.mono HB4.out.size));have HK5:=hid (HK4.out.below hb5 HK4.out.lt);clear hb5)
 have hzl:Z.length=4:=by rw [HZ.out];rfl
 have hgw:w.heap.size+1 < w3.heap.size:=Nat.lt_of_lt_of_le HK.out.2.lt HB3.out.size
 obtain ⟨gw,hgwe⟩:∃ gw,w3.heap.size=gw:=⟨_,rfl⟩
 rw [hgwe] at hgw HK5
 have HCs:Hid (∀ W,Below gw w5 W→W.cell? ⟨w.heap.size,0,none⟩=some (.iface 439 (.agg #[]))∧W.cell? ⟨w.heap.size,1,none⟩=some (.iface 440 (.agg #[]))∧W.cell? ⟨w.heap.size+1,0,none⟩=some (.string (strN p.1))∧W.cell? ⟨w.heap.size+1,1,none⟩=some (.int .u64 (p.2:Int))):=hid (fun W hW=>by
  have k1:=HK.out.1.below HB5.out HK.out.1.lt
  have k2:=HK.out.2.below HB5.out HK.out.2.lt
  exact ⟨(hW.cell (p:=⟨w.heap.size,0,none⟩) (by show w.heap.size < gw;omega)).trans (k1.cell 0),(hW.cell (p:=⟨w.heap.size,1,none⟩) (by show w.heap.size < gw;omega)).trans (k1.cell 1),(hW.cell (p:=⟨w.heap.size+1,0,none⟩) (by show w.heap.size+1 < gw;omega)).trans (k2.cell 0),(hW.cell (p:=⟨w.heap.size+1,1,none⟩) (by show w.heap.size+1 < gw;omega)).trans (k2.cell 1)⟩)
 have HGw:=hid hgw
 have HGe:=hid hgwe
 have HNe:=hid (nmEnc_any gw 0 p.1 Z w5.drew HK5.out (by omega) h16 hb)
 have s0:=HCs.out w5 (Below.refl _ _)
 clear hzl hgw hgwe n0
 rw [HGe.out]
 go_cut [49] from 25 to 49 (fun v wx=>v = .bool false∧Hid (Blk wx gw 32 (uA (encP p)))∧Hid (Below gw w5 wx))
 case first =>
  refine wp_region_scriptH (fun W=>W.cell? ⟨w.heap.size,0,none⟩=some (.iface 439 (.agg #[]))∧W.cell? ⟨w.heap.size,1,none⟩=some (.iface 440 (.agg #[]))∧W.cell? ⟨w.heap.size+1,0,none⟩=some (.string (strN p.1))∧W.cell? ⟨w.heap.size+1,1,none⟩=some (.int .u64 (p.2:Int))) 25 [] [(1,0),(1,1),(1,2),(1,3),(1,4),(1,5),(1,6),(1,7),(1,8),(1,9),(0,10),(1,11),(1,12),(1,13),(1,14),(1,15),(1,16),(1,17),(1,18),(1,19),(1,20),(1,21),(0,22),(1,23),(1,24)] (by kernel_rfl) (by kernel_rfl) s0 ?_
  refine wpScriptH_take (.pointer (some ⟨w.heap.size,0,none⟩)) (by rfl) (by rfl) (fun w' hS=>?_) ?_
  ·go_simp
  simp only [zA,zB,Act.put,zD,zE,zF]
  refine wpScriptH_take (.iface 439 (.agg #[])) (by rfl) (by rfl) (fun w' hS=>?_) ?_
  ·obtain ⟨s1,s2,s3,s4⟩:=hS
   go_simp
  simp only [zA,zB,zC,Act.put,zD,zE,zF]
  refine wpScriptH_take (.pointer (some ⟨w.heap.size+1,0,none⟩)) (by rfl) (by rfl) (fun w' hS=>?_) ?_
  ·go_simp
  simp only [zA,zB,zC,Act.put,zD,zE,zF]
  refine wpScriptH_take (.string (strN p.1)) (by rfl) (by rfl) (fun w' hS=>?_) ?_
  ·obtain ⟨s1,s2,s3,s4⟩:=hS
   go_simp
  simp only [zA,zB,zC,Act.put,zD,zE,zF]
  refine wpScriptH_take (.slice (some ⟨gw,0,none⟩) 4 4) (by rfl) (by rfl) (fun w' hS=>?_) ?_
  ·go_simp
  simp only [zA,zB,zC,Act.put,zD,zE,zF]
  refine wpScriptH_take (.int .i64 3) (by rfl) (by rfl) (fun w' hS=>?_) ?_
  ·go_simp
  simp only [zA,zB,zC,Act.put,zD,zE,zF]
  refine wpScriptH_take (.int .i64 3) (by rfl) (by rfl) (fun w' hS=>?_) ?_
  ·go_simp
  simp only [zA,zB,zC,Act.put,zD,zE,zF]
  refine wpScriptH_take (.slice (some ⟨gw,0,none⟩) 3 3) (by rfl) (by rfl) (fun w' hS=>?_) ?_
  ·go_simp
  simp only [zA,zB,zC,Act.put,zD,zE,zF]
  refine wpScriptH_take (.iface 439 (.agg #[])) (by rfl) (by rfl) (fun w' hS=>?_) ?_
  ·go_simp
  simp only [zA,zB,zC,Act.put,zD,zE,zF]
  refine wpScriptH_take (.iface 439 (.agg #[])) (by rfl) (by rfl) (fun w' hS=>?_) ?_
  ·go_simp
  simp only [zA,zB,zC,Act.put,zD,zE,zF]
  refine wpScriptH_do (by rfl) ?_
  go_wp2_with (go_at_call 443;refine HNe.out.mono ?_;rintro e w6 ⟨rfl,hk6,hb6⟩;have HK6:=hid hk6;have HB6:Hid (Below gw w5 w6):=hid ((Below.refl gw w5).drew.trans hb6);clear hk6 hb6)
  refine ⟨HCs.out w6 HB6.out,?_⟩
  have hl6:(putW Z 0 (encN p.1)).length=4:=by rw [putW_len (by rw [encN_len h16,HZ.out];decide),HZ.out];rfl
  have HUe:=hid (unEnc_any gw 3 1 p.2 (putW Z 0 (encN p.1)) w6 HK6.out (by rw [hl6];decide))
  clear hl6
  refine wpScriptH_take (.bool false) (by rfl) (by rfl) (fun w' hS=>?_) ?_
  ·go_simp
  simp only [zA,zB,zC,Act.put,zD,zE,zF]
  refine wpScriptH_take (.bool false) (by rfl) (by rfl) (fun w' hS=>?_) ?_
  ·go_simp
  simp only [zA,zB,zC,Act.put,zD,zE,zF]
  refine wpScriptH_take (.pointer (some ⟨w.heap.size,1,none⟩)) (by rfl) (by rfl) (fun w' hS=>?_) ?_
  ·go_simp
  simp only [zA,zB,zC,Act.put,zD,zE,zF]
  refine wpScriptH_take (.iface 440 (.agg #[])) (by rfl) (by rfl) (fun w' hS=>?_) ?_
  ·obtain ⟨s1,s2,s3,s4⟩:=hS
   go_simp
  simp only [zA,zB,zC,Act.put,zD,zE,zF]
  refine wpScriptH_take (.pointer (some ⟨w.heap.size+1,1,none⟩)) (by rfl) (by rfl) (fun w' hS=>?_) ?_
  ·go_simp
  simp only [zA,zB,zC,Act.put,zD,zE,zF]
  refine wpScriptH_take (.int .u64 (p.2:Int)) (by rfl) (by rfl) (fun w' hS=>?_) ?_
  ·obtain ⟨s1,s2,s3,s4⟩:=hS
   go_simp
  simp only [zA,zB,zC,Act.put,zD,zE,zF]
  refine wpScriptH_take (.slice (some ⟨gw,0,none⟩) 4 4) (by rfl) (by rfl) (fun w' hS=>?_) ?_
  ·go_simp
  simp only [zA,zB,zC,Act.put,zD,zE,zF]
  refine wpScriptH_take (.int .i64 3) (by rfl) (by rfl) (fun w' hS=>?_) ?_
  ·go_simp
  simp only [zA,zB,zC,Act.put,zD,zE,zF]
  refine wpScriptH_take (.slice (some ⟨gw,3,none⟩) 1 1) (by rfl) (by rfl) (fun w' hS=>?_) ?_
  ·go_simp
  simp only [zA,zB,zC,Act.put,zD,zE,zF]
  refine wpScriptH_take (.iface 440 (.agg #[])) (by rfl) (by rfl) (fun w' hS=>?_) ?_
  ·go_simp
  simp only [zA,zB,zC,Act.put,zD,zE,zF]
  refine wpScriptH_take (.iface 440 (.agg #[])) (by rfl) (by rfl) (fun w' hS=>?_) ?_
  ·go_simp
  simp only [zA,zB,zC,Act.put,zD,zE,zF]
  refine wpScriptH_do (by rfl) ?_
  go_wp2_with (go_at_call 446;refine HUe.out.mono ?_;rintro e w7 ⟨rfl,hk7,hc7⟩;have HK7:=hid hk7;have HB7:Hid (Below gw w5 w7):=hid (HB6.out.trans (hc7.toBelow (Nat.le_of_lt HK6.out.lt) (fun k hk=>by have e:k=gw:=hk;omega)));clear hk7 hc7)
  refine ⟨HCs.out w7 HB7.out,?_⟩
  refine wpScriptH_take (.bool false) (by rfl) (by rfl) (fun w' hS=>?_) ?_
  ·go_simp
  simp only [zA,zB,zC,Act.put,zD,zE,zF]
  refine wpScriptH_take (.bool false) (by rfl) (by rfl) (fun w' hS=>?_) ?_
  ·go_simp
  simp only [zA,zB,zC,Act.put,zD,zE,zF]
  show wpList _ _ _ _ _ _
  simp only [List.drop_succ_cons,List.drop_zero]
  refine NoPanic.normal ?_
  go_wp2_with fail
  go_meet
  refine ⟨rfl,?_,HB7⟩
  have h1:=HK7.out
  rw [HZ.out,putW_pair h16] at h1
  exact hid h1
 case rest =>
 obtain ⟨rfl,HKc,HBc⟩:=hcut
 clear s0 HNe HCs
 have hglt:=HG.out.lt
 have hg2:=HG.out.below HB2.out hglt
 have hg5:=hg2.below HB5.out hg2.lt
 have hgc:Blk wc g 32 (uA L):=(HBc.out.block g (by have h1:=HGw.out;omega)).trans hg5
 have hbw:Below g w wc:=by
  have h1:=HGw.out
  have h2:=HB2.out.size
  have h3:=HB5.out.size
  exact ((HB2.out.trans (HB5.out.mono h2)).mono (Nat.le_of_lt hglt)).trans (HBc.out.mono (by omega))
 have hl4:=encP_len h16
 have HKr:=hid (uA_reads HKc.out)
 clear hg2 hg5
 have HGc:=hid hgc
 have HBw:=hid hbw
 have HL4:=hid hl4
 clear hgc hbw hl4 hglt
 go_wp2_with (refine wpList_cpyU _ rfl (.tmp 50) (.tmp 51) rfl g o 4 4 4 (some ⟨gw,0,none⟩) L (encP p) rfl rfl HGc.out HL4.out HN.out.1 _ (by have h1:=HKr.out;rw [HL4.out] at h1;exact h1) w HBw.out ?_;intro W7 hg7 hb7;have HG7:=hid hg7;have HB7:=hid hb7;clear hg7 hb7)
 go_ret
 exact ⟨rfl,HG7.out,HB7.out⟩
end
end Go.Proofs.YtfkjjoglnmeciaaGreatDoor
