/- The walks and laws that the claim leans on, part 14. -/
import Derived.Test.YtnlokpakiambaaaGreatDoorJam
import Derived.Lib.ConvBytes
set_option maxRecDepth 100000
set_option maxHeartbeats 16000000
namespace Go.Proofs.YtnlokpakiambaaaGreatDoor
open Go.Lib (hid)
section
open Go.RowKit
def Stop (p:Prop):Prop:=p
theorem stop {p:Prop} (h:Stop p):p:=h
def RetWr (w:World) (ws:List (Nat × Nat)) (e:Ending) (w':World):Prop:=∃ A m c,e = .returned (.slice A m c)∧m=ws.length∧w'.ownsRow w.heap.size 90 2 (.slice A m c) m (wrCells ws)∧Below w.heap.size w w'
theorem wrCells_snoc (ws:List (Nat × Nat)) (e:Nat × Nat):wrCells (ws++[e])=wrCells ws++[.int .u64 (e.1:Int), .int .u64 (e.2:Int)]:=by simp [wrCells]
theorem takeS {α:Type} (l:List α) (k:Nat) (h:k < l.length):l.take (k+1)=l.take k++[l[k]]:=by simp
end
section
open Go.RowKit Go.Maps
theorem methNmD (w : World) : (method 563 254 (.agg #[]) "Decode").run Tryz.prog w = .ok (318, .agg #[]) w := by kernel_rfl
theorem methUnD (w : World) : (method 563 255 (.agg #[]) "Decode").run Tryz.prog w = .ok (321, .agg #[]) w := by kernel_rfl
def decP (xs:List Nat):Option (List Nat × Nat):=(decN (xs.take 3)).map (fun l=>(l,xs.getD 3 0))
def itV (p:List Nat × Nat):Array Value:=#[.string (strN p.1), .int .u64 (p.2:Int)]
def RetPr (w:World) (R:Option (List Nat × Nat)) (e:Ending) (w':World):Prop:=(match R with
 | some p=>e = .returned (.tuple #[.agg (itV p), .bool true])
 | none=>e = .returned (.tuple #[.agg #[.string ⟨#[]⟩, .int .u64 0], .bool false]))∧Below w.heap.size w w'
structure PdW (w:World) (b o:Nat) (xs:List Nat) (s:ByteArray) (v:Nat) (W:World):Prop where
 below:Below w.heap.size w W
 rd:Reads W w.heap.size 1 (some ⟨b,o,none⟩) 4 (uCells xs)
 k1:Blk W w.heap.size 261 #[nmI,unI]
 k2:Blk W (w.heap.size+1) 159 #[.string ⟨#[]⟩, .int .u64 0]
 k3:Blk W (w.heap.size+1+1) 159 #[.string ⟨#[]⟩, .int .u64 0]
 k4:Blk W (w.heap.size+1+1+1) 159 #[.string s, .int .u64 (v:Int)]
theorem PdW.below_ {w W W':World} {b o:Nat} {xs:List Nat} {s:ByteArray} {v:Nat} (h:PdW w b o xs s v W) (hb:Below W.heap.size W W'):PdW w b o xs s v W':=by
 have h1:=h.below.size
 refine ⟨h.below.trans (hb.mono h1),?_,h.k1.below hb h.k1.lt,h.k2.below hb h.k2.lt,h.k3.below hb h.k3.lt,h.k4.below hb h.k4.lt⟩
 exact h.rd.below (hb.mono h1)
theorem PdW.setS {w W:World} {b o:Nat} {xs:List Nat} {s:ByteArray} {v:Nat} (h:PdW w b o xs s v W) (s':ByteArray):PdW w b o xs s' v (W.setCell ⟨w.heap.size+1+1+1,0,none⟩ (.string s')):=by
 have hc:Chg (fun k=>k=w.heap.size+1+1+1) W (W.setCell ⟨w.heap.size+1+1+1,0,none⟩ (.string s')):=(Chg.refl (fun k=>k=w.heap.size+1+1+1) W).setCell (p:=⟨w.heap.size+1+1+1,0,none⟩) (.inl rfl) _
 have hb:Below w.heap.size W (W.setCell ⟨w.heap.size+1+1+1,0,none⟩ (.string s')):=hc.toBelow h.below.size (fun k hk=>by have e:k=w.heap.size+1+1+1:=hk;omega)
 exact ⟨h.below.trans hb,h.rd.below hb,hc.blk h.k1 (by omega),hc.blk h.k2 (by omega),hc.blk h.k3 (by omega),h.k4.set_ 0 _⟩
theorem PdW.setV {w W:World} {b o:Nat} {xs:List Nat} {s:ByteArray} {v:Nat} (h:PdW w b o xs s v W) (v':Nat):PdW w b o xs s v' (W.setCell ⟨w.heap.size+1+1+1,1,none⟩ (.int .u64 (v':Int))):=by
 have hc:Chg (fun k=>k=w.heap.size+1+1+1) W (W.setCell ⟨w.heap.size+1+1+1,1,none⟩ (.int .u64 (v':Int))):=(Chg.refl (fun k=>k=w.heap.size+1+1+1) W).setCell (p:=⟨w.heap.size+1+1+1,1,none⟩) (.inl rfl) _
 have hb:Below w.heap.size W (W.setCell ⟨w.heap.size+1+1+1,1,none⟩ (.int .u64 (v':Int))):=hc.toBelow h.below.size (fun k hk=>by have e:k=w.heap.size+1+1+1:=hk;omega)
 exact ⟨h.below.trans hb,h.rd.below hb,hc.blk h.k1 (by omega),hc.blk h.k2 (by omega),hc.blk h.k3 (by omega),h.k4.set_ 1 _⟩
theorem PdW.fin {w W:World} {b o:Nat} {xs:List Nat} {s:ByteArray} {v:Nat} (h:PdW w b o xs s v W) (s':ByteArray) (v':Value):Below w.heap.size w ((W.setCell ⟨w.heap.size+1,0,none⟩ (.string s')).setCell ⟨w.heap.size+1,1,none⟩ v')∧((W.setCell ⟨w.heap.size+1,0,none⟩ (.string s')).setCell ⟨w.heap.size+1,1,none⟩ v').cell? ⟨w.heap.size+1,0,none⟩=some (.string s')∧((W.setCell ⟨w.heap.size+1,0,none⟩ (.string s')).setCell ⟨w.heap.size+1,1,none⟩ v').cell? ⟨w.heap.size+1,1,none⟩=some v':=by
 have hk:=(h.k2.set_ 0 (.string s')).set_ 1 v'
 exact ⟨(h.below.setCell (Nat.le_succ _) _).setCell (Nat.le_succ _) _,hk.cell 0,hk.cell 1⟩
def stO:Option (List Nat)→ByteArray
 | some l=>strN l
 | none=>⟨#[]⟩
theorem prDec_any (A:Option Addr) (c:Nat) (xs:List Nat) (w:World) (h:Reads w w.heap.size 1 A 4 (uCells xs)) (hc:4≤c) (hx:∀ x∈xs,x < 18446744073709551616) :
  Calls Tryz.prog 324 #[.agg #[nmI,unI], .slice A 4 c] w (RetPr w (decP xs)):=by
 have hl4:xs.length=4:=by have:=h.1;simpa [uCells] using this
 obtain ⟨b,o,hA,hb,_⟩:=h.plain (by omega) (by omega)
 subst hA
 obtain ⟨W2,hW2⟩:∃ W2,(((w.alloc (.cells #[nmI,unI] 261)).alloc (.cells #[.string ⟨#[]⟩, .int .u64 0] 159)).alloc (.cells #[.string ⟨#[]⟩, .int .u64 0] 159)).alloc (.cells #[.string ⟨#[]⟩, .int .u64 0] 159)=W2:=⟨_,rfl⟩
 have sz:∀ (W:World) (o:Obj),(W.alloc o).heap.size=W.heap.size+1:=fun W o=>by simp
 have hb2:Below w.heap.size w W2:=by
  rw [← hW2]
  have h1:=(Below.refl w.heap.size w).alloc (Nat.le_refl _) (.cells #[nmI,unI] 261)
  have h2:=h1.alloc h1.size (.cells #[.string ⟨#[]⟩, .int .u64 0] 159)
  have h3:=h2.alloc h2.size (.cells #[.string ⟨#[]⟩, .int .u64 0] 159)
  exact h3.alloc h3.size _
 have hk:Blk W2 w.heap.size 261 #[nmI,unI]∧Blk W2 (w.heap.size+1) 159 #[.string ⟨#[]⟩, .int .u64 0]∧Blk W2 (w.heap.size+1+1) 159 #[.string ⟨#[]⟩, .int .u64 0]∧Blk W2 (w.heap.size+1+1+1) 159 #[.string ⟨#[]⟩, .int .u64 0]:=by
  rw [← hW2]
  have k1:=Blk.new w 261 #[nmI,unI]
  have k2:=Blk.new (w.alloc (.cells #[nmI,unI] 261)) 159 #[.string ⟨#[]⟩, .int .u64 0]
  have k3:=Blk.new ((w.alloc (.cells #[nmI,unI] 261)).alloc (.cells #[.string ⟨#[]⟩, .int .u64 0] 159)) 159 #[.string ⟨#[]⟩, .int .u64 0]
  have k4:=Blk.new (((w.alloc (.cells #[nmI,unI] 261)).alloc (.cells #[.string ⟨#[]⟩, .int .u64 0] 159)).alloc (.cells #[.string ⟨#[]⟩, .int .u64 0] 159)) 159 #[.string ⟨#[]⟩, .int .u64 0]
  simp only [sz] at k2 k3 k4
  exact ⟨((k1.alloc _).alloc _).alloc _,(k2.alloc _).alloc _,k3.alloc _,k4⟩
 have hp2:PdW w b o xs ⟨#[]⟩ 0 W2:=⟨hb2,h.below hb2,hk.1,hk.2.1,hk.2.2.1,hk.2.2.2⟩
 have HW2:=hid hW2
 have HP2:=hid hp2
 have hm:=methNmD
 have hm2:=methUnD
 have n0:W2.cell? ⟨w.heap.size,0,none⟩=some (.iface 254 (.agg #[])):=hk.1.cell 0
 have n1:W2.cell? ⟨w.heap.size,1,none⟩=some (.iface 255 (.agg #[])):=hk.1.cell 1
 have HNd:Hid (∀ s v W,PdW w b o xs s v W→Calls Tryz.prog 318 #[.agg #[], .slice (some ⟨b,o,none⟩) 3 3] W (RetNm W (decN (xs.take 3)))):=hid (fun s v W hW=>by
  have h1:=(hW.rd.sub_ 0 3 (by omega)).more hW.below.size
  rw [uCells_sub,List.drop_zero] at h1
  exact nmDec_any _ 3 _ W h1 (Nat.le_refl _) (fun x hx'=>hx x (List.mem_of_mem_take hx')))
 have HUd:Hid (∀ s v W,PdW w b o xs s v W→Calls Tryz.prog 321 #[.agg #[], .slice (some ⟨b,o+3,none⟩) 1 (c - 3)] W fun e w'=>e = .returned (.tuple #[.int .u64 (xs.getD 3 0:Int), .bool true])∧Below W.heap.size W w'):=hid (fun s v W hW=>by
  have h1:=(hW.rd.sub_ 3 1 (by omega)).more hW.below.size
  rw [uCells_sub] at h1
  have e:(xs.drop 3).take 1=[xs.getD 3 0]:=by
   match xs,hl4 with
   | [_,_,_,_],_=>rfl
  rw [e] at h1
  exact unDec_any _ (c - 3) _ W h1)
 have HDp:Hid (decP xs=(decN (xs.take 3)).map (fun l=>(l,xs.getD 3 0))):=hid rfl
 generalize decP xs=Y at *
 generalize xs.getD 3 0=v3 at *
 generalize decN (xs.take 3)=R3 at *
 have hc0:c≠0∧c≠1∧c≠2∧c≠3:=by omega
 obtain ⟨hc0,hc1,hc2,hc3⟩:=hc0
 clear hW2 hb2 hk hx h sz hp2 hl4
 go_enter Tryz.func324,Tryz.ntmps324
 go_upto_region 2 with fail
 rw [HW2.out]
 go_upto_region 7 with (first
  | (go_at_call 326;refine (prWords_any W2).mono ?_;rintro e w3 ⟨rfl,hb3⟩;have HP3:=hid (HP2.out.below_ hb3);have n3:w3.cell? ⟨w.heap.size,0,none⟩=some (.iface 254 (.agg #[])):=HP3.out.k1.cell 0;clear hb3)
  | (go_at_call 327;refine (nmSize_any _).mono ?_;rintro e w4 ⟨rfl,hb4⟩;have HP4:=hid (HP3.out.below_ hb4);clear hb4))
 clear n0 n1 n3
 go_cut [9] from 25 to 37 (fun v9 wx=>v9 = .bool R3.isSome∧Hid (PdW w b o xs (stO R3) 0 wx))
 case first =>
  have n0:w4.cell? ⟨w.heap.size,0,none⟩=some (.iface 254 (.agg #[])):=HP4.out.k1.cell 0
  have HP4d:=hid (HP4.out.below_ (Below.refl _ _).drew)
  have HNd4:=hid (HNd.out _ _ _ HP4d.out)
  clear HNd HUd
  cases R3
  ·go_region_with (go_at_call 318;refine HNd4.out.mono ?_;rintro e w5 ⟨rfl,hb5⟩;have HP5:=hid (HP4d.out.below_ hb5);have z5:w5.frozen? ⟨w.heap.size+1+1+1,0,none⟩=false:=HP5.out.k4.frozen 0;have z6:w5.cell? ⟨w.heap.size+1+1+1,0,none⟩=some (.string ⟨#[]⟩):=HP5.out.k4.cell 0;clear hb5)
   all_goals go_wp2_with fail
   all_goals go_meet
   all_goals exact ⟨rfl,hid (HP5.out.setS _)⟩
  ·go_region_with (go_at_call 318;refine HNd4.out.mono ?_;rintro e w5 ⟨rfl,hb5⟩;have HP5:=hid (HP4d.out.below_ hb5);have z5:w5.frozen? ⟨w.heap.size+1+1+1,0,none⟩=false:=HP5.out.k4.frozen 0;have z6:w5.cell? ⟨w.heap.size+1+1+1,0,none⟩=some (.string ⟨#[]⟩):=HP5.out.k4.cell 0;clear hb5)
   all_goals go_wp2_with fail
   all_goals go_meet
   all_goals exact ⟨rfl,hid (HP5.out.setS _)⟩
 case rest =>
 obtain ⟨rfl,HPc⟩:=hcut
 have HUc:=hid (HUd.out _ _ _ (HPc.out.below_ (Below.refl _ _).drew))
 clear HNd HUd
 cases R3
 ·have HY:Hid (Y=none):=hid HDp.out
  have k0:wc.cell? ⟨w.heap.size+1+1,0,none⟩=some (.string ⟨#[]⟩):=HPc.out.k3.cell 0
  have k1:wc.cell? ⟨w.heap.size+1+1,1,none⟩=some (.int .u64 0):=HPc.out.k3.cell 1
  have f0:wc.frozen? ⟨w.heap.size+1,0,none⟩=false:=HPc.out.k2.frozen 0
  have f1:wc.frozen? ⟨w.heap.size+1,1,none⟩=false:=HPc.out.k2.frozen 1
  have f2:wc.cell? ⟨w.heap.size+1,0,none⟩=some (.string ⟨#[]⟩):=HPc.out.k2.cell 0
  have f3:wc.cell? ⟨w.heap.size+1,1,none⟩=some (.int .u64 0):=HPc.out.k2.cell 1
  clear HDp
  go_wp2_with fail
  obtain ⟨p1,p2,p3⟩:=HPc.out.fin ⟨#[]⟩ (.int .u64 0)
  exact bodyPost_ret (v := .tuple #[.agg #[.string ⟨#[]⟩, .int .u64 0], .bool false]) (by simp [results,Tryz.results324,go_sem,p2,p3]) rfl (by unfold RetPr;rw [HY.out];exact ⟨rfl,p1⟩)
 ·rename_i l3
  have HY:Hid (Y=some (l3,v3)):=hid HDp.out
  have n1:wc.cell? ⟨w.heap.size,1,none⟩=some (.iface 255 (.agg #[])):=HPc.out.k1.cell 1
  clear HDp
  go_upto_region 10 with fail
  go_cut [9] from 41 to 52 (fun v9 wx=>v9 = .bool true∧Hid (PdW w b o xs (strN l3) v3 wx))
  case first =>
   have HPd:=hid (HPc.out.below_ (Below.refl _ _).drew)
   go_region_with (go_at_call 321;refine HUc.out.mono ?_;rintro e w5 ⟨rfl,hb5⟩;have HP5:=hid (HPd.out.below_ hb5);have z5:w5.frozen? ⟨w.heap.size+1+1+1,1,none⟩=false:=HP5.out.k4.frozen 1;have z6:w5.cell? ⟨w.heap.size+1+1+1,1,none⟩=some (.int .u64 0):=HP5.out.k4.cell 1;clear hb5)
   all_goals go_wp2_with fail
   all_goals go_meet
   all_goals exact ⟨rfl,hid (HP5.out.setV _)⟩
  case rest =>
  clear n1
  obtain ⟨rfl,HPe⟩:=hcut
  have k0:wc.cell? ⟨w.heap.size+1+1+1,0,none⟩=some (.string (strN l3)):=HPe.out.k4.cell 0
  have k1:wc.cell? ⟨w.heap.size+1+1+1,1,none⟩=some (.int .u64 (v3:Int)):=HPe.out.k4.cell 1
  have f0:wc.frozen? ⟨w.heap.size+1,0,none⟩=false:=HPe.out.k2.frozen 0
  have f1:wc.frozen? ⟨w.heap.size+1,1,none⟩=false:=HPe.out.k2.frozen 1
  have f2:wc.cell? ⟨w.heap.size+1,0,none⟩=some (.string ⟨#[]⟩):=HPe.out.k2.cell 0
  have f3:wc.cell? ⟨w.heap.size+1,1,none⟩=some (.int .u64 0):=HPe.out.k2.cell 1
  go_wp2_with fail
  obtain ⟨p1,p2,p3⟩:=HPe.out.fin (strN l3) (.int .u64 (v3:Int))
  exact bodyPost_ret (v := .tuple #[.agg #[.string (strN l3), .int .u64 (v3:Int)], .bool true]) (by simp [results,Tryz.results324,go_sem,p2,p3]) rfl (by unfold RetPr;rw [HY.out];exact ⟨rfl,p1⟩)
end
section
open Go.RowKit Go.Maps
theorem methNmE (w : World) : (method 563 254 (.agg #[]) "Encode").run Tryz.prog w = .ok (319, .agg #[]) w := by kernel_rfl
theorem methUnE (w : World) : (method 563 255 (.agg #[]) "Encode").run Tryz.prog w = .ok (322, .agg #[]) w := by kernel_rfl
def encN (l:List Nat):List Nat:=l.length :: (packW l++List.replicate (2 - (packW l).length) 0)
theorem encN_len {l:List Nat} (h:l.length≤16):(encN l).length=3:=by
 have h1:=packW_len l
 unfold encN
 rw [List.length_cons,List.length_append,List.length_replicate]
 omega
def putW (L:List Nat) (o:Nat) (xs:List Nat):List Nat:=L.take o++(xs++L.drop (o+xs.length))
theorem putW_len {L:List Nat} {o:Nat} {xs:List Nat} (h:o+xs.length≤L.length):(putW L o xs).length=L.length:=by
 unfold putW
 rw [List.length_append,List.length_append,List.length_take,List.length_drop]
 omega
theorem putW_one {L:List Nat} {o v:Nat} (h:o < L.length):putW L o [v]=L.set o v:=by
 unfold putW
 rw [List.set_eq_take_append_cons_drop,if_pos h]
 rfl
theorem unEnc_any (g o c v:Nat) (L:List Nat) (w:World) (h:Blk w g 23 (uA L)) (ho:o < L.length) :
  Calls Tryz.prog 322 #[.agg #[], .int .u64 (v:Int), .slice (some ⟨g,o,none⟩) 1 c] w fun e w'=>e = .returned (.bool true)∧Blk w' g 23 (uA (putW L o [v]))∧Chg (fun k=>k=g) w w':=by
 have c0:w.cell? ⟨g,o,none⟩=some (.int .u64 (L[o]:Int)):=by rw [h.cell];exact uA_at ho
 have z0:w.frozen? ⟨g,o,none⟩=false:=h.frozen o
 have hlt:g < w.heap.size:=h.lt
 have HK:=hid h
 have HO:=hid ho
 generalize L[o]=old at *
 clear h ho
 go_enter Tryz.func322,Tryz.ntmps322
 go_wp2
 go_ret
 have hc:Chg (fun k=>k=g) w ((w.setCell ⟨g,o,none⟩ (.int .u64 (v:Int))).alloc (.cells #[] 255)):=((Chg.refl (fun k=>k=g) w).setCell (p:=⟨g,o,none⟩) (.inl rfl) _).alloc _
 have h2:=(HK.out.set_ o (.int .u64 (v:Int))).alloc (.cells #[] 255)
 rw [uA_set,← putW_one HO.out] at h2
 exact ⟨rfl,h2,hc⟩
theorem strN_bytes {w w':World} {l:List Nat} (hb:∀ b∈l,b < 256) (e:w'=Lib.bytesWorld w 5 (strN l)):Reads w' w'.heap.size 1 (some ⟨w.heap.size,0,none⟩) l.length (u8s l)∧Below w.heap.size w w':=by
 subst e
 refine ⟨⟨by simp [u8s],fun hn=>⟨_,rfl,by rw [Lib.bytesWorld_size];exact Nat.lt_succ_self _,fun j u hu=>?_⟩⟩,?_⟩
 ·rw [add_plain,Nat.zero_add]
  have hj:j < l.length:=by
   have h1:=(List.getElem?_eq_some_iff.1 hu).1
   simpa [u8s] using h1
  rw [Lib.bytesWorld_cell w 5 (strN l) j (by rw [show (strN l).size=l.length by show (l.map UInt8.ofNat).toArray.size=_;simp];exact hj),← hu]
  have hbj:=hb _ (List.getElem_mem hj)
  have e1:(strN l).data.toList.getD j 0=UInt8.ofNat l[j]:=by
   show ((l.map UInt8.ofNat).toArray.toList).getD j 0=_
   rw [List.getD_eq_getElem?_getD]
   simp [hj]
  rw [e1,UInt8.toNat_ofNat',Nat.mod_eq_of_lt hbj]
  simp [u8s,hj]
 ·exact ⟨rfl,rfl,rfl,by rw [Lib.bytesWorld_size];omega,fun k hk=>Lib.bytesWorld_at_old w _ _ k hk⟩
theorem putW_name {L pk:List Nat} {o n:Nat} (ho:o+3≤L.length) (hp:pk.length≤2) :
  splice ((((L.set o 0).set (o+1) 0).set (o+2) 0).set o n) (o+1) pk=putW L o (n :: (pk++List.replicate (2 - pk.length) 0)):=by
 have hd:(L.drop o).length ≥ 3:=by rw [List.length_drop];omega
 obtain ⟨A,x,y,z,B,rfl,hA⟩:∃ A x y z B,L=A++x :: y :: z :: B∧A.length=o:=by
  refine ⟨L.take o,?_⟩
  match h:L.drop o,hd with
  | x :: y :: z :: B,_=>exact ⟨x,y,z,B,by rw [← h,List.take_append_drop],by rw [List.length_take];omega⟩
 subst hA
 have e1:((((A++x :: y :: z :: B).set A.length 0).set (A.length+1) 0).set (A.length+2) 0).set A.length n=A++n :: 0 :: 0 :: B:=by
  rw [List.set_append_right _ _ (Nat.le_refl _),List.set_append_right _ _ (by omega),List.set_append_right _ _ (by omega),List.set_append_right _ _ (Nat.le_refl _)]
  simp
 rw [e1]
 unfold splice putW
 have t1:(A++n :: 0 :: 0 :: B).take (A.length+1)=A++[n]:=by
  rw [List.take_append,List.take_of_length_le (by omega),Nat.add_sub_cancel_left]
  rfl
 have d0:∀ j,(A++n :: 0 :: 0 :: B).drop (A.length+j)=(n :: 0 :: 0 :: B).drop j:=fun j=>by
  rw [List.drop_append,List.drop_of_length_le (by omega),List.nil_append,Nat.add_sub_cancel_left]
 have d1:∀ j,(A++x :: y :: z :: B).drop (A.length+j)=(x :: y :: z :: B).drop j:=fun j=>by
  rw [List.drop_append,List.drop_of_length_le (by omega),List.nil_append,Nat.add_sub_cancel_left]
 rw [t1,Nat.add_assoc,d0,d1,List.take_append,List.take_of_length_le (Nat.le_refl _),Nat.sub_self]
 match pk,hp with
 | [],_=>simp
 | [a],_=>simp
 | [a,b],_=>simp
theorem splice_u (L pk:List Nat) (o:Nat):splice (uCells L) o (uCells pk)=uCells (splice L o pk):=by
 unfold splice uCells
 simp
theorem nmEnc_any (g o:Nat) (l L:List Nat) (w:World) (h:Blk w g 23 (uA L)) (ho:o+3≤L.length) (hl:l.length≤16) (hb:∀ b∈l,b < 256) :
  Calls Tryz.prog 319 #[.agg #[], .string (strN l), .slice (some ⟨g,o,none⟩) 3 3] w fun e w'=>e = .returned (.bool true)∧Blk w' g 23 (uA (putW L o (encN l)))∧Below g w w':=by
 obtain ⟨W1,hW1⟩:∃ W1,w.alloc (.cells #[] 254)=W1:=⟨_,rfl⟩
 have hb1:Below w.heap.size w W1:=by rw [← hW1];exact (Below.refl _ _).alloc (Nat.le_refl _) _
 have hkb:Blk W1 w.heap.size 254 #[]:=by rw [← hW1];exact Blk.new _ _ _
 have HW1:=hid hW1
 have HB1:=hid hb1
 have HKb:=hid hkb
 have HG:=hid h
 have HN:=hid (And.intro ho (And.intro hl hb))
 have hsz:(strN l).size=l.length:=by show (l.map UInt8.ofNat).toArray.size=_;simp
 have hl16:((strN l).size:Int)≤16:=by omega
 clear hW1 hb1 hkb h
 go_enter Tryz.func319,Tryz.ntmps319
 go_upto_region 1 with fail
 rw [HW1.out]
 go_upto_region 3 with (go_at_call 320;refine (nmWords_any W1).mono ?_;rintro e w2 ⟨rfl,hb2⟩;have HB2:=hid (HB1.out.trans (hb2.mono HB1.out.size));clear hb2)
 have HG2:=hid (HG.out.below HB2.out HG.out.lt)
 have hcl:∀ ty,(Builtin.clear_ #[33] ty #[.slice (some ⟨g,o,none⟩) 3 3]).run Tryz.prog w2 = .ok (.tuple #[]) (w2.setCells g o (List.replicate 3 (.int .u64 0))):=fun ty =>
  Lib.run_clear_slice w2 33 23 ty (.int .u64 0) Tryz.underlying33 (fun _=>by kernel_rfl) rfl rfl g o 3 3 (by omega) (fun j hj=>by
   rw [HG2.out.cell,uA_at (by omega)];rfl) (fun j _=>HG2.out.frozen _)
 obtain ⟨W3,hW3⟩:∃ W3,w2.setCells g o (List.replicate 3 (.int .u64 0))=W3:=⟨_,rfl⟩
 have hk3:Blk W3 g 23 (uA (((L.set o 0).set (o+1) 0).set (o+2) 0)):=by
  have h1:=((HG2.out.set_ o (.int .u64 ((0:Nat):Int))).set_ (o+1) (.int .u64 ((0:Nat):Int))).set_ (o+1+1) (.int .u64 ((0:Nat):Int))
  rw [uA_set,uA_set,uA_set] at h1
  rw [← hW3]
  exact h1
 have hb3:Below g w W3:=by
  rw [← hW3]
  exact ((((HB2.out.mono (Nat.le_of_lt HG.out.lt)).setCell (p:=⟨g,o,none⟩) (Nat.le_refl _) _).setCell (p:=⟨g,o+1,none⟩) (Nat.le_refl _) _).setCell (p:=⟨g,o+1+1,none⟩) (Nat.le_refl _) _)
 rw [hW3] at hcl
 have c0:W3.cell? ⟨g,o,none⟩=some (.int .u64 ((((L.set o 0).set (o+1) 0).set (o+2) 0)[o]'(by simp;omega):Int)):=by rw [hk3.cell];exact uA_at (by simp;omega)
 have z0:W3.frozen? ⟨g,o,none⟩=false:=hk3.frozen o
 have HB3:=hid hb3
 have HK4:Hid (Blk (W3.setCell ⟨g,o,none⟩ (.int .u64 (l.length:Int))) g 23 (uA ((((L.set o 0).set (o+1) 0).set (o+2) 0).set o l.length))):=hid (by
  have h1:=hk3.set_ o (.int .u64 (l.length:Int))
  rw [uA_set] at h1
  exact h1)
 have HB4:Hid (Below g w (W3.setCell ⟨g,o,none⟩ (.int .u64 (l.length:Int)))):=hid (hb3.setCell (Nat.le_refl _) _)
 have e1:IntKind.u64.wrap (l.length:Int)=(l.length:Int):=by rw [IntKind.wrap_u64];omega
 generalize (((L.set o 0).set (o+1) 0).set (o+2) 0)[o]'(by simp;omega)=old at *
 clear hW3 hk3 hb3
 go_upto_region 5 with fail
 obtain ⟨W4,hW4⟩:∃ W4,W3.setCell ⟨g,o,none⟩ (.int .u64 (l.length:Int))=W4:=⟨_,rfl⟩
 rw [hW4] at HK4 HB4
 have HW4:=hid hW4
 clear hW4 hcl c0 z0 HG2 HB3
 rw [HW4.out]
 have hconv:∀ W,(convert 9 60 (.string (strN l))).run Tryz.prog W = .ok (.slice (some ⟨W.heap.size,0,none⟩) (strN l).size (grownCap W (strN l).size 0 5)) (Lib.bytesWorld W 5 (strN l)):=fun W=>Lib.run_convert_string_bytes (P:=Tryz.prog) W 9 60 5 (strN l) Tryz.underlying9 Tryz.underlying60 Tryz.underlying5
 have HBy:=hid (strN_bytes (w:=W4.drew) HN.out.2.2 rfl)
 obtain ⟨W5,hW5⟩:∃ W5,Lib.bytesWorld W4.drew 5 (strN l)=W5:=⟨_,rfl⟩
 have HW5:=hid hW5
 rw [hW5] at HBy
 have HPk:=hid (fun c=>pack_any (some ⟨W4.drew.heap.size,0,none⟩) l.length c l W5 HBy.out.1 HN.out.2.2 (by have:=HN.out.2.1;omega))
 clear hW5
 refine wp_region_scriptH (fun _=>True) 5 [] [(1,0),(1,1),(1,2),(0,3),(0,4)] (by kernel_rfl) (by kernel_rfl) trivial ?_
 refine wpScriptH_take (.slice (some ⟨g,o,none⟩) 3 3) (by rfl) (by rfl) (fun w' hS=>?_) ?_
 ·go_simp
 simp only [zA,zB,Act.put,zD,zE,zF]
 refine wpScriptH_take (.slice (some ⟨g,o+1,none⟩) 2 2) (by rfl) (by rfl) (fun w' hS=>?_) ?_
 ·go_simp
 simp only [zA,zB,zC,Act.put,zD,zE,zF]
 refine wpScriptH_take (.string (strN l)) (by rfl) (by rfl) (fun w' hS=>?_) ?_
 ·go_simp
 simp only [zA,zB,zC,Act.put,zD,zE,zF]
 refine wpScriptH_do (by rfl) ?_
 go_wp2_with fail
 refine ⟨trivial,?_⟩
 rw [HW5.out]
 refine wpScriptH_do (by rfl) ?_
 go_wp2_with (go_at_call 196;refine (HPk.out _).mono ?_;rintro e w6 ⟨A6,m6,c6,rfl,hm6,hr6,hf6,hb6⟩;have HM6:=hid hm6;have HR6:=hid hr6;have HB6:=hid hb6;clear hm6 hr6 hf6 hb6)
 refine ⟨trivial,?_⟩
 show wpList _ _ _ _ _ _
 simp only [List.drop_succ_cons,List.drop_zero]
 have HB46:Hid (Below W4.heap.size W4 w6):=hid ((Below.refl _ W4).drew.trans (HBy.out.2.trans (HB6.out.mono HBy.out.2.size)))
 have hgl:g < W4.heap.size:=HK4.out.lt
 have HK6:=hid (HK4.out.below HB46.out HK4.out.lt)
 have hpl:(packW l).length≤2:=by have h1:=packW_len l;have h2:=HN.out.2.1;omega
 refine wpList_copy_splice rfl (.tmp 24) (.tmp 27) 33 33 rfl 23 Tryz.underlying33 (by kernel_rfl) (some ⟨g,o+1,none⟩) A6 2 2 m6 c6 rfl rfl g (o+1) (uCells ((((L.set o 0).set (o+1) 0).set (o+2) 0).set o l.length)) 23 HK6.out (uCells (packW l)) ?n1 ?n2 ?n3 ?n4 g w (HB4.out.trans (HB46.out.mono (Nat.le_of_lt hgl))) (Nat.le_refl _) ?_
 case n1 =>
  show _=min m6 2
  have h1:=HM6.out
  rw [Nat.min_eq_left (by omega)]
  simp [uCells]
  omega
 case n2 =>
  intro h0
  refine ⟨rfl,?_⟩
  obtain ⟨ad,hA,_,hc⟩:=HR6.out.2 (by have:=HM6.out;simp [uCells] at h0;omega)
  exact ⟨ad,hA,hc⟩
 case n3=>have h1:=HN.out.1;simp [uCells];omega
 case n4=>intro v hv;unfold uCells at hv;obtain ⟨y,_,rfl⟩:=List.mem_map.1 hv;rfl
 intro W7 hg7 hb7
 have HG7:=hg7
 have HB7:=hid hb7
 clear hg7 hb7 hpl hgl
 go_wp2_with fail
 refine NoPanic.normal ?_
 go_wp2_with fail
 go_ret
 have h1:=HG7.out
 rw [splice_u,putW_name HN.out.1 (by have h1:=packW_len l;have h2:=HN.out.2.1;omega)] at h1
 exact ⟨rfl,h1,HB7.out⟩
end
section
open Go.RowKit
theorem look_free {a:DA} {L T:Nat} {w:World} {S:Fp} {cur:Nat→Nat} {F:Nat} (h:Dev a L T w S cur F) (ht:Tab w) (c:Nat) (hc:c+32≤L) (hv:cur (8 * c)=freeW 1) :
  Calls Tryz.prog 160 #[memV a, .int .i64 (c:Int)] w fun e w'=>e = .returned (.tuple #[.agg #[.int .i64 (-1), .int .i64 (-1), .int .u16 1], .int .i64 0])∧Below w.heap.size w w':=by
 have HLd:=hid (load_at h (64 * c) (freeW 1) (by omega) (by omega) (by rw [show 64 * c / 8=8 * c by omega];exact hv))
 have HD:=hid h
 have HH:=hid (fun (W:World) (hW:Below w.heap.size w W)=>header_free W (ht.below hW))
 have hm:=methLoad (some ⟨a.th 0,0,none⟩)
 have hna:=aheadLoad ⟨a.th 0,0,none⟩
 have hmE:=methErr (some ⟨a.th 0,0,none⟩)
 have hmS:=methSize (some ⟨a.th 0,0,none⟩)
 have hq:=eqMem (some ⟨a.th 0,0,none⟩)
 have HB0:Hid (Below w.heap.size w (w.alloc (.cells #[.int .i64 0, .int .i64 0, .int .u16 0] 219))):=(Below.refl _ _).alloc (Nat.le_refl _) _
 obtain ⟨ls,exe,per,cs,lsC,hdc,hnt⟩:=h.below HB0.out
 have hL:=hdc.hL
 obtain ⟨f0,f2,_,_,f4⟩:=hdc.facts (j:=0) (by omega)
 have HBk:=hid (Blk.new w 219 #[.int .i64 0, .int .i64 0, .int .u16 0])
 clear hdc hnt h ht
 unfold memV at *
 have e1:decide ((c:Int) < 0)=false:=decide_eq_false (by omega)
 have u1:IntKind.u64.wrap ((L:Int) * 64)=(L:Int) * 64:=by rw [IntKind.wrap_u64];omega
 have u3:IntKind.u64.wrap (c:Int)=(c:Int):=by rw [IntKind.wrap_u64];omega
 have u4:IntKind.u64.wrap ((L:Int) - 32)=(L:Int) - 32:=by rw [IntKind.wrap_u64];omega
 have u5:IntKind.u64.wrap ((c:Int) * 64)=((64 * c:Nat):Int):=by rw [IntKind.wrap_u64];omega
 have d1:((L:Int) * 64).tdiv 64=(L:Int):=by rw [Int.mul_tdiv_cancel _ (by decide)]
 have e2:decide ((L:Int) < 32)=false:=decide_eq_false (by omega)
 have e3:decide ((L:Int) - 32 < (c:Int))=false:=decide_eq_false (by omega)
 generalize 64 * c=z at *
 go_enter Tryz.func160,Tryz.ntmps160
 go_wp2
 generalize w.alloc (.cells #[.int .i64 0, .int .i64 0, .int .u16 0] 219)=W at *
 have HB1:Hid (Below W.heap.size W W.drew):=(Below.refl _ _).drew
 have HB2:Hid (Below w.heap.size w W.drew):=HB0.out.drew
 go_cut [8] from 38 to 44 (fun v wx=>v = .int .u64 (freeW 1:Int)∧Hid (Below W.heap.size W wx))
 case first =>
  go_region_with (first | (go_at_call 53;refine (HLd.out _ HB2.out).mono ?_;rintro e w1 ⟨rfl,rfl⟩) | go_in)
  all_goals (go_wp2_with fail;go_meet;exact ⟨rfl,HB1⟩)
 case rest =>
  obtain ⟨rfl,HW⟩:=hcut
  have HWw:=hid (HB0.out.trans (HW.out.mono HB0.out.size))
  obtain ⟨ls1,exe1,per1,cs1,lsC1,hdc1,hnt1⟩:=HD.out.below HWw.out
  obtain ⟨k0,_,_,_,k4⟩:=hdc1.facts (j:=0) (by omega)
  have HHw:=hid (HH.out wc HWw.out)
  have HBc:=hid (HBk.out.below HW.out HBk.out.lt)
  clear hdc1 hnt1
  go_wp2_with (first
   | (go_at_call 210;refine HHw.out.mono ?_;rintro e w1 ⟨rfl,hb1⟩;have HB3:=hid (HWw.out.trans (hb1.mono HWw.out.size));have hk:=HBc.out.below hb1 HBc.out.lt;have hlt:=hk.lt;have c0:w1.cell? ⟨w.heap.size,0,none⟩=some (.int .i64 0):=hk.cell 0;have c1:w1.cell? ⟨w.heap.size,1,none⟩=some (.int .i64 0):=hk.cell 1;have c2:w1.cell? ⟨w.heap.size,2,none⟩=some (.int .u16 0):=hk.cell 2;have z0:w1.frozen? ⟨w.heap.size,0,none⟩=false:=hk.frozen 0;have z1:w1.frozen? ⟨w.heap.size,1,none⟩=false:=hk.frozen 1;have z2:w1.frozen? ⟨w.heap.size,2,none⟩=false:=hk.frozen 2;clear hb1 hk)
   | go_in)
  refine bodyPost_ret (v := .tuple #[.agg #[.int .i64 (-1), .int .i64 (-1), .int .u16 1], .int .i64 0]) (by simp [results,Tryz.results160,go_sem,c0,c1,c2,hlt]) rfl ⟨rfl,?_⟩
  have h1:=((HB3.out.setCell (p:=⟨w.heap.size,0,none⟩) (Nat.le_refl _) (.int .i64 (-1))).setCell (p:=⟨w.heap.size,1,none⟩) (Nat.le_refl _) (.int .i64 (-1))).setCell (p:=⟨w.heap.size,2,none⟩) (Nat.le_refl _) (.int .u16 1)
  exact h1.alloc h1.size _
end
section
open Go.RowKit
section
variable {a:DA} {L T:Nat} {w:World} {S:Fp} {cur:Nat→Nat} {F:Nat}
theorem look_undiv (h:Dev a L T w S cur F) (ht:Tab w) (c g:Nat) (hc:c+32≤L) (hg0:0 < g) (hg:g < 65536) (hv:cur (8 * c)=freeW g) :
  Calls Tryz.prog 160 #[memV a, .int .i64 (c:Int)] w fun e w'=>e = .returned (.tuple #[.agg #[.int .i64 (-1), .int .i64 (-1), .int .u16 (g:Int)], .int .i64 0])∧Below w.heap.size w w' :=
 look_core h c hc (freeW g) (-1) (-1) (g:Int) hv (fun W hW=>header_undiv g hg0 hg W (ht.below hW))
theorem look_cls (h:Dev a L T w S cur F) (ht:Tab w) (hp:Pay w) (c cl g:Nat) (hc:c+32≤L) (hcl:cl < 5) (hg0:0 < g) (hg:g < 65536) (hv:cur (8 * c)=hdrW cl g) :
  Calls Tryz.prog 160 #[memV a, .int .i64 (c:Int)] w fun e w'=>e = .returned (.tuple #[.agg #[.int .i64 (cl:Int), .int .i64 0, .int .u16 (g:Int)], .int .i64 0])∧Below w.heap.size w w' :=
 look_core h c hc (hdrW cl g) (cl:Int) 0 (g:Int) hv (fun W hW=>header_cls cl g hcl hg0 hg W (ht.below hW) (hp.below hW))
end
def chNone:Value := .agg #[.nilIface, .int .i64 0, .int .i64 0, .int .i64 0, .int .u16 0]
section
variable {a:DA} {L T:Nat} {w:World} {S:Fp} {cur:Nat→Nat} {F:Nat}
theorem chOpen_undiv (h:Dev a L T w S cur F) (ht:Tab w) (c g:Nat) (hc:c+32≤L) (hg0:0 < g) (hg:g < 65536) (hv:cur (8 * c)=freeW g) :
  Calls Tryz.prog 116 #[memV a, .int .i64 (c:Int)] w fun e w'=>e = .returned (.tuple #[chNone, .int .i64 8])∧Below w.heap.size w w':=by
 have HB0:Hid (Below w.heap.size w (w.alloc (.cells #[.nilIface, .int .i64 0, .int .i64 0, .int .i64 0, .int .u16 0] 221))):=(Below.refl _ _).alloc (Nat.le_refl _) _
 have HL:=hid (look_undiv (h.below HB0.out) (ht.below HB0.out) c g hc hg0 hg hv)
 clear h ht hv
 unfold chNone
 unfold memV at *
 have HK0:=hid (Blk.new w 221 #[.nilIface, .int .i64 0, .int .i64 0, .int .i64 0, .int .u16 0])
 go_enter Tryz.func116,Tryz.ntmps116
 go_wp2_with fail
 refine HL.out.mono ?_
 rintro e w1 ⟨rfl,hb1⟩
 have HB1:=hid (HB0.out.trans (hb1.mono HB0.out.size))
 have hk1:=HK0.out.below hb1 HK0.out.lt
 have hlt:=hk1.lt
 have c0:w1.cell? ⟨w.heap.size,0,none⟩=some (.nilIface):=hk1.cell 0
 have z0:w1.frozen? ⟨w.heap.size,0,none⟩=false:=hk1.frozen 0
 have c1:w1.cell? ⟨w.heap.size,1,none⟩=some (.int .i64 0):=hk1.cell 1
 have z1:w1.frozen? ⟨w.heap.size,1,none⟩=false:=hk1.frozen 1
 have c2:w1.cell? ⟨w.heap.size,2,none⟩=some (.int .i64 0):=hk1.cell 2
 have z2:w1.frozen? ⟨w.heap.size,2,none⟩=false:=hk1.frozen 2
 have c3:w1.cell? ⟨w.heap.size,3,none⟩=some (.int .i64 0):=hk1.cell 3
 have z3:w1.frozen? ⟨w.heap.size,3,none⟩=false:=hk1.frozen 3
 have c4:w1.cell? ⟨w.heap.size,4,none⟩=some (.int .u16 0):=hk1.cell 4
 have z4:w1.frozen? ⟨w.heap.size,4,none⟩=false:=hk1.frozen 4
 have hlt1:w.heap.size < w1.heap.size:=hlt
 clear hb1 hk1 HL
 go_wp2
 have n01:(⟨w.heap.size,0,none⟩:Addr)≠⟨w.heap.size,1,none⟩:=by simp
 have n02:(⟨w.heap.size,0,none⟩:Addr)≠⟨w.heap.size,2,none⟩:=by simp
 have n03:(⟨w.heap.size,0,none⟩:Addr)≠⟨w.heap.size,3,none⟩:=by simp
 have n04:(⟨w.heap.size,0,none⟩:Addr)≠⟨w.heap.size,4,none⟩:=by simp
 have n12:(⟨w.heap.size,1,none⟩:Addr)≠⟨w.heap.size,2,none⟩:=by simp
 have n13:(⟨w.heap.size,1,none⟩:Addr)≠⟨w.heap.size,3,none⟩:=by simp
 have n14:(⟨w.heap.size,1,none⟩:Addr)≠⟨w.heap.size,4,none⟩:=by simp
 have n23:(⟨w.heap.size,2,none⟩:Addr)≠⟨w.heap.size,3,none⟩:=by simp
 have n24:(⟨w.heap.size,2,none⟩:Addr)≠⟨w.heap.size,4,none⟩:=by simp
 have n34:(⟨w.heap.size,3,none⟩:Addr)≠⟨w.heap.size,4,none⟩:=by simp
 refine bodyPost_ret (v := .tuple #[.agg #[.nilIface, .int .i64 0, .int .i64 0, .int .i64 0, .int .u16 0], .int .i64 8]) (by simp [results,Tryz.results116,go_sem,c0,c1,c2,c3,c4,hlt]) rfl ⟨rfl,?_⟩
 have h1:=(((((HB1.out.setCell (p:=⟨w.heap.size,0,none⟩) (Nat.le_refl _) (.nilIface)).setCell (p:=⟨w.heap.size,1,none⟩) (Nat.le_refl _) (.int .i64 0)).setCell (p:=⟨w.heap.size,2,none⟩) (Nat.le_refl _) (.int .i64 0)).setCell (p:=⟨w.heap.size,3,none⟩) (Nat.le_refl _) (.int .i64 0)).setCell (p:=⟨w.heap.size,4,none⟩) (Nat.le_refl _) (.int .u16 0))
 exact h1.alloc h1.size _
theorem chOpen_cls (h:Dev a L T w S cur F) (ht:Tab w) (hp:Pay w) (c cl g:Nat) (hc:c+32≤L) (hcl:cl < 5) (hg0:0 < g) (hg:g < 65536) (hv:cur (8 * c)=hdrW cl g) :
  Calls Tryz.prog 116 #[memV a, .int .i64 (c:Int)] w fun e w'=>e = .returned (.tuple #[chV a c cl 0 g, .int .i64 0])∧Below w.heap.size w w':=by
 have HB0:Hid (Below w.heap.size w (w.alloc (.cells #[.nilIface, .int .i64 0, .int .i64 0, .int .i64 0, .int .u16 0] 221))):=(Below.refl _ _).alloc (Nat.le_refl _) _
 have HL:=hid (look_cls (h.below HB0.out) (ht.below HB0.out) (hp.below HB0.out) c cl g hc hcl hg0 hg hv)
 clear h ht hv hp
 unfold chV
 have d0:decide ((cl:Int) < 0)=false:=decide_eq_false (by omega)
 unfold memV at *
 have HK0:=hid (Blk.new w 221 #[.nilIface, .int .i64 0, .int .i64 0, .int .i64 0, .int .u16 0])
 go_enter Tryz.func116,Tryz.ntmps116
 go_wp2_with fail
 refine HL.out.mono ?_
 rintro e w1 ⟨rfl,hb1⟩
 have HB1:=hid (HB0.out.trans (hb1.mono HB0.out.size))
 have hk1:=HK0.out.below hb1 HK0.out.lt
 have hlt:=hk1.lt
 have c0:w1.cell? ⟨w.heap.size,0,none⟩=some (.nilIface):=hk1.cell 0
 have z0:w1.frozen? ⟨w.heap.size,0,none⟩=false:=hk1.frozen 0
 have c1:w1.cell? ⟨w.heap.size,1,none⟩=some (.int .i64 0):=hk1.cell 1
 have z1:w1.frozen? ⟨w.heap.size,1,none⟩=false:=hk1.frozen 1
 have c2:w1.cell? ⟨w.heap.size,2,none⟩=some (.int .i64 0):=hk1.cell 2
 have z2:w1.frozen? ⟨w.heap.size,2,none⟩=false:=hk1.frozen 2
 have c3:w1.cell? ⟨w.heap.size,3,none⟩=some (.int .i64 0):=hk1.cell 3
 have z3:w1.frozen? ⟨w.heap.size,3,none⟩=false:=hk1.frozen 3
 have c4:w1.cell? ⟨w.heap.size,4,none⟩=some (.int .u16 0):=hk1.cell 4
 have z4:w1.frozen? ⟨w.heap.size,4,none⟩=false:=hk1.frozen 4
 have hlt1:w.heap.size < w1.heap.size:=hlt
 clear hb1 hk1 HL
 go_wp2
 have n01:(⟨w.heap.size,0,none⟩:Addr)≠⟨w.heap.size,1,none⟩:=by simp
 have n02:(⟨w.heap.size,0,none⟩:Addr)≠⟨w.heap.size,2,none⟩:=by simp
 have n03:(⟨w.heap.size,0,none⟩:Addr)≠⟨w.heap.size,3,none⟩:=by simp
 have n04:(⟨w.heap.size,0,none⟩:Addr)≠⟨w.heap.size,4,none⟩:=by simp
 have n12:(⟨w.heap.size,1,none⟩:Addr)≠⟨w.heap.size,2,none⟩:=by simp
 have n13:(⟨w.heap.size,1,none⟩:Addr)≠⟨w.heap.size,3,none⟩:=by simp
 have n14:(⟨w.heap.size,1,none⟩:Addr)≠⟨w.heap.size,4,none⟩:=by simp
 have n23:(⟨w.heap.size,2,none⟩:Addr)≠⟨w.heap.size,3,none⟩:=by simp
 have n24:(⟨w.heap.size,2,none⟩:Addr)≠⟨w.heap.size,4,none⟩:=by simp
 have n34:(⟨w.heap.size,3,none⟩:Addr)≠⟨w.heap.size,4,none⟩:=by simp
 refine bodyPost_ret (v := .tuple #[.agg #[.iface 41 (.pointer (some ⟨a.th 0,0,none⟩)), .int .i64 (c:Int), .int .i64 (cl:Int), .int .i64 0, .int .u16 (g:Int)], .int .i64 0]) (by simp [results,Tryz.results116,go_sem,c0,c1,c2,c3,c4,hlt]) rfl ⟨rfl,?_⟩
 have h1:=(((((HB1.out.setCell (p:=⟨w.heap.size,0,none⟩) (Nat.le_refl _) (.iface 41 (.pointer (some ⟨a.th 0,0,none⟩)))).setCell (p:=⟨w.heap.size,1,none⟩) (Nat.le_refl _) (.int .i64 (c:Int))).setCell (p:=⟨w.heap.size,2,none⟩) (Nat.le_refl _) (.int .i64 (cl:Int))).setCell (p:=⟨w.heap.size,3,none⟩) (Nat.le_refl _) (.int .i64 0)).setCell (p:=⟨w.heap.size,4,none⟩) (Nat.le_refl _) (.int .u16 (g:Int)))
 exact h1.alloc h1.size _
end
end
end Go.Proofs.YtnlokpakiambaaaGreatDoor
