/- The walks and laws that the claim leans on, part 20. -/
import Derived.Test.YtfkjjoglnmeciaaGreatDoorJao
set_option maxRecDepth 100000
set_option maxHeartbeats 16000000
namespace Go.Proofs.YtfkjjoglnmeciaaGreatDoor
open Go.Lib (hid)
section
open Go.RowKit Go.Maps
theorem methNmD (w : World) : (method 640 439 (.agg #[]) "Decode").run Tryz.prog w = .ok (442, .agg #[]) w := by kernel_rfl
theorem methUnD (w : World) : (method 640 440 (.agg #[]) "Decode").run Tryz.prog w = .ok (445, .agg #[]) w := by kernel_rfl
def decP (xs:List Nat):Option (List Nat × Nat):=(decN (xs.take 3)).map (fun l=>(l,xs.getD 3 0))
def itV (p:List Nat × Nat):Array Value:=#[.string (strN p.1), .int .u64 (p.2:Int)]
def RetPr (w:World) (R:Option (List Nat × Nat)) (e:Ending) (w':World):Prop:=(match R with
 | some p=>e = .returned (.tuple #[.agg (itV p), .bool true])
 | none=>e = .returned (.tuple #[.agg #[.string ⟨#[]⟩, .int .u64 0], .bool false]))∧Below w.heap.size w w'
structure PdW (w:World) (b o:Nat) (xs:List Nat) (s:ByteArray) (v:Nat) (W:World):Prop where
 below:Below w.heap.size w W
 rd:Reads W w.heap.size 1 (some ⟨b,o,none⟩) 4 (uCells xs)
 k1:Blk W w.heap.size 446 #[nmI,unI]
 k2:Blk W (w.heap.size+1) 368 #[.string ⟨#[]⟩, .int .u64 0]
 k3:Blk W (w.heap.size+1+1) 368 #[.string ⟨#[]⟩, .int .u64 0]
 k4:Blk W (w.heap.size+1+1+1) 368 #[.string s, .int .u64 (v:Int)]
theorem PdW.below_ {w W W':World} {b o:Nat} {xs:List Nat} {s:ByteArray} {v:Nat} (h:PdW w b o xs s v W) (hb:Below W.heap.size W W'):PdW w b o xs s v W':=by
 have h1:=h.below.size
 refine ⟨h.below.trans (hb.mono h1),?_,h.k1.below hb h.k1.lt,h.k2.below hb h.k2.lt,h.k3.below hb h.k3.lt,h.k4.below hb h.k4.lt⟩
 exact h.rd.below (hb.mono h1)
theorem PdW.setS {w W:World} {b o:Nat} {xs:List Nat} {s:ByteArray} {v:Nat} (h:PdW w b o xs s v W) (s':ByteArray):PdW w b o xs s' v (W.setCell ⟨w.heap.size+1+1+1,0,none⟩ (.string s')):=by
 have hc:Chg (fun k=>k=w.heap.size+1+1+1) W (W.setCell ⟨w.heap.size+1+1+1,0,none⟩ (.string s')):=(Chg.refl (fun k=>k=w.heap.size+1+1+1) W).setCell (p:=⟨w.heap.size+1+1+1,0,none⟩) (.inl rfl) _
 have hb:Below w.heap.size W (W.setCell ⟨w.heap.size+1+1+1,0,none⟩ (.string s')):=hc.toBelow h.below.size (fun k hk=>by have e:k=w.heap.size+1+1+1:=hk;omega)
 exact ⟨h.below.trans hb,h.rd.below hb,hc.blk h.k1 (by omega),hc.blk h.k2 (by omega),hc.blk h.k3 (by omega),h.k4.set_ 0 _⟩
theorem PdW.setV {w W:World} {b o:Nat} {xs:List Nat} {s:ByteArray} {v:Nat} (h:PdW w b o xs s v W) (v':Nat):PdW w b o xs s v' (W.setCell ⟨w.heap.size+1+1+1,1,none⟩ (.int .u64 (v':Int))):=by
 have hc:Chg (fun k=>k=w.heap.size+1+1+1) W (W.setCell ⟨w.heap.size+1+1+1,1,none⟩ (.int .u64 (v':Int))):=(Chg.refl (fun k=>k=w.heap.size+1+1+1) W).setCell (p:=⟨w.heap.size+1+1+1,1,none⟩) (.inl rfl) _
 have hb:Below w.heap.size W (W.setCell ⟨w.heap.size+1+1+1,1,none⟩ (.int .u64 (v':Int))):=hc.toBelow h.below.size (fun k hk=>by have e:k=w.heap.size+1+1+1:=hk;omega)
 exact ⟨h.below.trans hb,h.rd.below hb,hc.blk h.k1 (by omega),hc.blk h.k2 (by omega),hc.blk h.k3 (by omega),h.k4.set_ 1 _⟩
theorem PdW.fin {w W:World} {b o:Nat} {xs:List Nat} {s:ByteArray} {v:Nat} (h:PdW w b o xs s v W) (s':ByteArray) (v':Value):Below w.heap.size w ((W.setCell ⟨w.heap.size+1,0,none⟩ (.string s')).setCell ⟨w.heap.size+1,1,none⟩ v')∧((W.setCell ⟨w.heap.size+1,0,none⟩ (.string s')).setCell ⟨w.heap.size+1,1,none⟩ v').cell? ⟨w.heap.size+1,0,none⟩=some (.string s')∧((W.setCell ⟨w.heap.size+1,0,none⟩ (.string s')).setCell ⟨w.heap.size+1,1,none⟩ v').cell? ⟨w.heap.size+1,1,none⟩=some v':=by
 have hk:=(h.k2.set_ 0 (.string s')).set_ 1 v'
 exact ⟨(h.below.setCell (Nat.le_succ _) _).setCell (Nat.le_succ _) _,hk.cell 0,hk.cell 1⟩
def stO:Option (List Nat)→ByteArray
 | some l=>strN l
 | none=>⟨#[]⟩
theorem prDec_any (A:Option Addr) (c:Nat) (xs:List Nat) (w:World) (h:Reads w w.heap.size 1 A 4 (uCells xs)) (hc:4≤c) (hx:∀ x∈xs,x < 18446744073709551616) :
  Calls Tryz.prog 448 #[.agg #[nmI,unI], .slice A 4 c] w (RetPr w (decP xs)):=by
 have hl4:xs.length=4:=by have:=h.1;simpa [uCells] using this
 obtain ⟨b,o,hA,hb,_⟩:=h.plain (by omega) (by omega)
 subst hA
 obtain ⟨W2,hW2⟩:∃ W2,(((w.alloc (.cells #[nmI,unI] 446)).alloc (.cells #[.string ⟨#[]⟩, .int .u64 0] 368)).alloc (.cells #[.string ⟨#[]⟩, .int .u64 0] 368)).alloc (.cells #[.string ⟨#[]⟩, .int .u64 0] 368)=W2:=⟨_,rfl⟩
 have sz:∀ (W:World) (o:Obj),(W.alloc o).heap.size=W.heap.size+1:=fun W o=>by simp
 have hb2:Below w.heap.size w W2:=by
  rw [← hW2]
  have h1:=(Below.refl w.heap.size w).alloc (Nat.le_refl _) (.cells #[nmI,unI] 446)
  have h2:=h1.alloc h1.size (.cells #[.string ⟨#[]⟩, .int .u64 0] 368)
  have h3:=h2.alloc h2.size (.cells #[.string ⟨#[]⟩, .int .u64 0] 368)
  exact h3.alloc h3.size _
 have hk:Blk W2 w.heap.size 446 #[nmI,unI]∧Blk W2 (w.heap.size+1) 368 #[.string ⟨#[]⟩, .int .u64 0]∧Blk W2 (w.heap.size+1+1) 368 #[.string ⟨#[]⟩, .int .u64 0]∧Blk W2 (w.heap.size+1+1+1) 368 #[.string ⟨#[]⟩, .int .u64 0]:=by
  rw [← hW2]
  have k1:=Blk.new w 446 #[nmI,unI]
  have k2:=Blk.new (w.alloc (.cells #[nmI,unI] 446)) 368 #[.string ⟨#[]⟩, .int .u64 0]
  have k3:=Blk.new ((w.alloc (.cells #[nmI,unI] 446)).alloc (.cells #[.string ⟨#[]⟩, .int .u64 0] 368)) 368 #[.string ⟨#[]⟩, .int .u64 0]
  have k4:=Blk.new (((w.alloc (.cells #[nmI,unI] 446)).alloc (.cells #[.string ⟨#[]⟩, .int .u64 0] 368)).alloc (.cells #[.string ⟨#[]⟩, .int .u64 0] 368)) 368 #[.string ⟨#[]⟩, .int .u64 0]
  simp only [sz] at k2 k3 k4
  exact ⟨((k1.alloc _).alloc _).alloc _,(k2.alloc _).alloc _,k3.alloc _,k4⟩
 have hp2:PdW w b o xs ⟨#[]⟩ 0 W2:=⟨hb2,h.below hb2,hk.1,hk.2.1,hk.2.2.1,hk.2.2.2⟩
 have HW2:=hid hW2
 have HP2:=hid hp2
 have hm:=methNmD
 have hm2:=methUnD
 have n0:W2.cell? ⟨w.heap.size,0,none⟩=some (.iface 439 (.agg #[])):=hk.1.cell 0
 have n1:W2.cell? ⟨w.heap.size,1,none⟩=some (.iface 440 (.agg #[])):=hk.1.cell 1
 have HNd:Hid (∀ s v W,PdW w b o xs s v W→Calls Tryz.prog 442 #[.agg #[], .slice (some ⟨b,o,none⟩) 3 3] W (RetNm W (decN (xs.take 3)))):=hid (fun s v W hW=>by
  have h1:=(hW.rd.sub_ 0 3 (by omega)).more hW.below.size
  rw [uCells_sub,List.drop_zero] at h1
  exact nmDec_any _ 3 _ W h1 (Nat.le_refl _) (fun x hx'=>hx x (List.mem_of_mem_take hx')))
 have HUd:Hid (∀ s v W,PdW w b o xs s v W→Calls Tryz.prog 445 #[.agg #[], .slice (some ⟨b,o+3,none⟩) 1 (c - 3)] W fun e w'=>e = .returned (.tuple #[.int .u64 (xs.getD 3 0:Int), .bool true])∧Below W.heap.size W w'):=hid (fun s v W hW=>by
  have h1:=(hW.rd.sub_ 3 1 (by omega)).more hW.below.size
  rw [uCells_sub] at h1
  have e:(xs.drop 3).take 1=[xs.getD 3 0]:=by
   match xs,hl4 with
   | [_,_,_,_],_=>rfl
  rw [e] at h1
  exact unDec_any _ (c - 3) _ W h1)
 have HDp:Hid (decP xs=(decN (xs.take 3)).map (fun l=>(l,xs.getD 3 0))):=hid rfl
 generalize decP xs=Y at *
 generalize xs.getD 3 0=v3 at *
 generalize decN (xs.take 3)=R3 at *
 have hc0:c≠0∧c≠1∧c≠2∧c≠3:=by omega
 obtain ⟨hc0,hc1,hc2,hc3⟩:=hc0
 clear hW2 hb2 hk hx h sz hp2 hl4
 go_enter Tryz.func448,Tryz.ntmps448
 go_upto_region 2 with fail
 rw [HW2.out]
 go_upto_region 7 with (first
  | (go_at_call 450;refine (prWords_any W2).mono ?_;rintro e w3 ⟨rfl,hb3⟩;have HP3:=hid (HP2.out.below_ hb3);have n3:w3.cell? ⟨w.heap.size,0,none⟩=some (.iface 439 (.agg #[])):=HP3.out.k1.cell 0;clear hb3)
  | (go_at_call 451;refine (nmSize_any _).mono ?_;rintro e w4 ⟨rfl,hb4⟩;have HP4:=hid (HP3.out.below_ hb4);clear hb4))
 clear n0 n1 n3
 go_cut [9] from 25 to 37 (fun v9 wx=>v9 = .bool R3.isSome∧Hid (PdW w b o xs (stO R3) 0 wx))
 case first =>
  have n0:w4.cell? ⟨w.heap.size,0,none⟩=some (.iface 439 (.agg #[])):=HP4.out.k1.cell 0
  have HP4d:=hid (HP4.out.below_ (Below.refl _ _).drew)
  have HNd4:=hid (HNd.out _ _ _ HP4d.out)
  clear HNd HUd
  cases R3
  ·go_region_with (go_at_call 442;refine HNd4.out.mono ?_;rintro e w5 ⟨rfl,hb5⟩;have HP5:=hid (HP4d.out.below_ hb5);have z5:w5.frozen? ⟨w.heap.size+1+1+1,0,none⟩=false:=HP5.out.k4.frozen 0;have z6:w5.cell? ⟨w.heap.size+1+1+1,0,none⟩=some (.string ⟨#[]⟩):=HP5.out.k4.cell 0;clear hb5)
   all_goals go_wp2_with fail
   all_goals go_meet
   all_goals exact ⟨rfl,hid (HP5.out.setS _)⟩
  ·go_region_with (go_at_call 442;refine HNd4.out.mono ?_;rintro e w5 ⟨rfl,hb5⟩;have HP5:=hid (HP4d.out.below_ hb5);have z5:w5.frozen? ⟨w.heap.size+1+1+1,0,none⟩=false:=HP5.out.k4.frozen 0;have z6:w5.cell? ⟨w.heap.size+1+1+1,0,none⟩=some (.string ⟨#[]⟩):=HP5.out.k4.cell 0;clear hb5)
   all_goals go_wp2_with fail
   all_goals go_meet
   all_goals exact ⟨rfl,hid (HP5.out.setS _)⟩
 case rest =>
 obtain ⟨rfl,HPc⟩:=hcut
 have HUc:=hid (HUd.out _ _ _ (HPc.out.below_ (Below.refl _ _).drew))
 clear HNd HUd
 cases R3
 ·have HY:Hid (Y=none):=hid HDp.out
  have k0:wc.cell? ⟨w.heap.size+1+1,0,none⟩=some (.string ⟨#[]⟩):=HPc.out.k3.cell 0
  have k1:wc.cell? ⟨w.heap.size+1+1,1,none⟩=some (.int .u64 0):=HPc.out.k3.cell 1
  have f0:wc.frozen? ⟨w.heap.size+1,0,none⟩=false:=HPc.out.k2.frozen 0
  have f1:wc.frozen? ⟨w.heap.size+1,1,none⟩=false:=HPc.out.k2.frozen 1
  have f2:wc.cell? ⟨w.heap.size+1,0,none⟩=some (.string ⟨#[]⟩):=HPc.out.k2.cell 0
  have f3:wc.cell? ⟨w.heap.size+1,1,none⟩=some (.int .u64 0):=HPc.out.k2.cell 1
  clear HDp
  go_wp2_with fail
  obtain ⟨p1,p2,p3⟩:=HPc.out.fin ⟨#[]⟩ (.int .u64 0)
  exact bodyPost_ret (v := .tuple #[.agg #[.string ⟨#[]⟩, .int .u64 0], .bool false]) (by simp [results,Tryz.results448,go_sem,p2,p3]) rfl (by unfold RetPr;rw [HY.out];exact ⟨rfl,p1⟩)
 ·rename_i l3
  have HY:Hid (Y=some (l3,v3)):=hid HDp.out
  have n1:wc.cell? ⟨w.heap.size,1,none⟩=some (.iface 440 (.agg #[])):=HPc.out.k1.cell 1
  clear HDp
  go_upto_region 10 with fail
  go_cut [9] from 41 to 52 (fun v9 wx=>v9 = .bool true∧Hid (PdW w b o xs (strN l3) v3 wx))
  case first =>
   have HPd:=hid (HPc.out.below_ (Below.refl _ _).drew)
   go_region_with (go_at_call 445;refine HUc.out.mono ?_;rintro e w5 ⟨rfl,hb5⟩;have HP5:=hid (HPd.out.below_ hb5);have z5:w5.frozen? ⟨w.heap.size+1+1+1,1,none⟩=false:=HP5.out.k4.frozen 1;have z6:w5.cell? ⟨w.heap.size+1+1+1,1,none⟩=some (.int .u64 0):=HP5.out.k4.cell 1;clear hb5)
   all_goals go_wp2_with fail
   all_goals go_meet
   all_goals exact ⟨rfl,hid (HP5.out.setV _)⟩
  case rest =>
  clear n1
  obtain ⟨rfl,HPe⟩:=hcut
  have k0:wc.cell? ⟨w.heap.size+1+1+1,0,none⟩=some (.string (strN l3)):=HPe.out.k4.cell 0
  have k1:wc.cell? ⟨w.heap.size+1+1+1,1,none⟩=some (.int .u64 (v3:Int)):=HPe.out.k4.cell 1
  have f0:wc.frozen? ⟨w.heap.size+1,0,none⟩=false:=HPe.out.k2.frozen 0
  have f1:wc.frozen? ⟨w.heap.size+1,1,none⟩=false:=HPe.out.k2.frozen 1
  have f2:wc.cell? ⟨w.heap.size+1,0,none⟩=some (.string ⟨#[]⟩):=HPe.out.k2.cell 0
  have f3:wc.cell? ⟨w.heap.size+1,1,none⟩=some (.int .u64 0):=HPe.out.k2.cell 1
  go_wp2_with fail
  obtain ⟨p1,p2,p3⟩:=HPe.out.fin (strN l3) (.int .u64 (v3:Int))
  exact bodyPost_ret (v := .tuple #[.agg #[.string (strN l3), .int .u64 (v3:Int)], .bool true]) (by simp [results,Tryz.results448,go_sem,p2,p3]) rfl (by unfold RetPr;rw [HY.out];exact ⟨rfl,p1⟩)
end
section
open Go.RowKit Go.Maps
theorem methPrD (w : World) : (method 640 446 (.agg #[nmI, unI]) "Decode").run Tryz.prog w = .ok (448, .agg #[nmI, unI]) w := by kernel_rfl
theorem headD_at:∀ (l:List Nat) (h:0 < l.length),l.headD 0=l[0]
 | _ :: _,_=>rfl
def decL:Nat→List Nat→Option (List (List Nat × Nat))
 | 0,_=>some []
 | n+1,xs=>match decP (xs.take 4) with
  | none=>none
  | some p=>(decL n (xs.drop 4)).map (p :: ·)
def decA (xs:List Nat):Option (List (List Nat × Nat)) :=
 if 8 < xs.headD 0 then none else
 if allZ (xs.drop (1+xs.headD 0 * 4))=false then none else decL (xs.headD 0) (xs.drop 1)
def itCells (l:List (List Nat × Nat)):List Value:=l.flatMap fun p=>[.string (strN p.1), .int .u64 (p.2:Int)]
theorem itCells_snoc (l:List (List Nat × Nat)) (p:List Nat × Nat):itCells (l++[p])=itCells l++[.string (strN p.1), .int .u64 (p.2:Int)]:=by simp [itCells]
theorem itCells_len (l:List (List Nat × Nat)):(itCells l).length=l.length * 2:=by
 induction l with
 | nil=>rfl
 | cons p t ih =>
  simp only [itCells,List.flatMap_cons,List.length_append,List.length_cons,List.length_nil] at ih ⊢
  rw [ih]
  omega
def RetAr (w:World) (R:Option (List (List Nat × Nat))) (e:Ending) (w':World):Prop:=(match R with
 | some l=>∃ A m c,e = .returned (.tuple #[.slice A m c, .bool true])∧m=l.length∧w'.ownsRow w.heap.size 368 2 (.slice A m c) m (itCells l)
 | none=>e = .returned (.tuple #[.slice none 0 0, .bool false]))∧Below w.heap.size w w'
theorem infoBoth:(Tryz.prog.info? 368).map (fun i=>(i.zero,i.size,i.bytes))=some (some (.agg #[.string ⟨#[]⟩, .int .u64 0]),2,24):=by kernel_rfl
def sO:Option (List Nat × Nat)→ByteArray
 | some p=>strN p.1
 | none=>⟨#[]⟩
def vO:Option (List Nat × Nat)→Nat
 | some p=>p.2
 | none=>0
theorem RetPr.out_ {w:World} {R:Option (List Nat × Nat)} {e:Ending} {w':World} (h:RetPr w R e w'):e = .returned (.tuple #[.agg #[.string (sO R), .int .u64 (vO R:Int)], .bool R.isSome])∧Below w.heap.size w w':=by
 cases R with
 | none=>exact h
 | some p=>exact h
theorem decL_step {n k:Nat} {xs:List Nat} (h:k < n):decL (n - k) (xs.drop (1+k * 4))=match decP ((xs.drop (1+k * 4)).take 4) with
  | none=>none
  | some p=>(decL (n - (k+1)) (xs.drop (1+(k+1) * 4))).map (p :: ·):=by
 rw [show n - k=(n - (k+1))+1 by omega]
 show (match decP ((xs.drop (1+k * 4)).take 4) with
  | none=>none
  | some p=>(decL (n - (k+1)) ((xs.drop (1+k * 4)).drop 4)).map (p :: ·))=_
 rw [List.drop_drop,show 1+k * 4+4=1+(k+1) * 4 by omega]
theorem arDec_any (A:Option Addr) (c:Nat) (hc:c=33) (xs:List Nat) (w:World) (h:Reads w w.heap.size 1 A 33 (uCells xs)) (hx:∀ x∈xs,x < 18446744073709551616) :
  Calls Tryz.prog 439 #[.agg arC0, .slice A 33 c] w (RetAr w (decA xs)):=by
 unfold arC0
 have hl:xs.length=33:=by have:=h.1;simpa [uCells] using this
 obtain ⟨W1,hW1⟩:∃ W1,w.alloc (.cells #[.int .i64 8,prI] 375)=W1:=⟨_,rfl⟩
 have hb1:Below w.heap.size w W1:=by rw [← hW1];exact (Below.refl _ _).alloc (Nat.le_refl _) _
 have hk:Blk W1 w.heap.size 375 #[.int .i64 8,prI]:=by rw [← hW1];exact Blk.new _ _ _
 have h1:=(h.below hb1).more hb1.size
 obtain ⟨hkl,b,o,hA3,hgb,fk⟩:=u_facts h1 (k:=0) (by omega)
 subst hA3
 obtain ⟨n,hn0⟩:∃ n,xs[0]=n:=⟨_,rfl⟩
 have hhd:xs.headD 0=n:=by
  rw [← hn0]
  exact headD_at xs hkl
 rw [hn0] at fk
 have HF0:Hid (∀ W,Below W1.heap.size W1 W→W.cell? ⟨b,o,none⟩=some (.int .u64 (n:Int))):=hid (fun W hW=>(hW.cell (p:=⟨b,o,none⟩) hgb).trans fk)
 have HW1:=hid hW1
 have HB1:=hid hb1
 have HK:=hid hk
 have HLT:Hid (w.heap.size < W1.heap.size):=hid hk.lt
 have HR1:=hid h1
 have HX:=hid hx
 have HC:=hid hc
 have HL:=hid hl
 have HN64:Hid (n < 18446744073709551616):=hid (by rw [← hn0];exact hx _ (List.getElem_mem hkl))
 have HDa:Hid (decA xs=if 8 < n then none else if allZ (xs.drop (1+n * 4))=false then none else decL n (xs.drop 1)):=hid (by unfold decA;rw [hhd])
 generalize decA xs=Y at *
 have c0:W1.cell? ⟨w.heap.size,0,none⟩=some (.int .i64 8):=hk.cell 0
 have c1:W1.cell? ⟨w.heap.size,1,none⟩=some prI:=hk.cell 1
 have HK2:Hid (∀ W,Below W1.heap.size W1 W→W.cell? ⟨w.heap.size,0,none⟩=some (.int .i64 8)∧W.cell? ⟨w.heap.size,1,none⟩=some (.iface 446 (.agg #[nmI,unI]))):=hid (fun W hW=>⟨(HK.out.below hW HK.out.lt).cell 0,(HK.out.below hW HK.out.lt).cell 1⟩)
 clear hW1 hb1 hk h1 h hx hl fk hn0 hhd hkl hgb
 go_enter Tryz.func439,Tryz.ntmps439
 go_upto_region 1 with fail
 rw [HW1.out]
 go_upto_region 2 with (go_at_call 268;refine (arWords_any W1).mono ?_;rintro e w2 ⟨rfl,hb2⟩;have HB2:=hid hb2;clear hb2)
 clear c0 c1
 have f0:=HF0.out w2 HB2.out
 obtain ⟨k0,k1⟩:=HK2.out w2 HB2.out
 by_cases hn8:8 < n
 ·have HY:Hid (Y=none):=hid (by rw [HDa.out,if_pos hn8])
  have hni:(8:Int) < (n:Int):=by omega
  have HBe:Hid (Below w.heap.size w w2.drew):=hid (HB1.out.trans (HB2.out.mono HB1.out.size)).drew
  clear hn8 HDa
  go_region
  go_wp2_with fail
  go_ret2
  unfold RetAr
  rw [HY.out]
  exact ⟨rfl,HBe.out⟩
 ·have hni:(n:Int)≤8:=by omega
  have HB2d:=hid HB2.out.drew
  go_region
  go_upto_region 5 with (go_at_call 333;refine (prSize_any _).mono ?_;rintro e w3 ⟨rfl,hb3⟩;have HB3:=hid (HB2d.out.trans (hb3.mono HB2d.out.size));clear hb3)
  clear k0 k1
  have f3:=HF0.out w3 HB3.out
  have e4:IntKind.i64.wrap (n:Int)=(n:Int):=by rw [IntKind.wrap_i64];omega
  have e5:wrap64 ((n:Int) * 4)=(n:Int) * 4:=IntWalk.wrap64_in _ (by omega)
  have e6:wrap64 (1+(n:Int) * 4)=1+(n:Int) * 4:=IntWalk.wrap64_in _ (by omega)
  have HZ:Hid (∀ A' c',(A'=some ⟨b,o+(1+n * 4),none⟩∨33 - (1+n * 4)=0)→Calls Tryz.prog 441 #[.slice A' (33 - (1+n * 4)) c'] w3 fun e w'=>e = .returned (.bool (allZ (xs.drop (1+n * 4))))∧Below w3.heap.size w3 w'):=hid (fun A' c' hA=>by
   refine zeros_any A' _ c' _ w3 ?_ (by omega)
   have hl:=HL.out
   rcases hA with rfl | hz
   ·have h2:=((HR1.out.below HB3.out).more HB3.out.size).sub_ (1+n * 4) (33 - (1+n * 4)) (by omega)
    rw [uCells_sub,List.take_of_length_le (by rw [List.length_drop];omega)] at h2
    exact h2
   ·exact ⟨by simp [uCells,hl],fun h=>absurd h (by omega)⟩)
  rw [if_neg hn8] at HDa
  obtain ⟨z,hz⟩:∃ z,allZ (xs.drop (1+n * 4))=z:=⟨_,rfl⟩
  rw [hz] at HZ HDa
  have HCn:=hid (show n≤8 by omega)
  clear hz hn8
  go_cut [45] from 35 to 45 (fun v wx=>v = .bool (!z)∧Hid (Below W1.heap.size W1 wx))
  case first =>
   by_cases hn7:n=8
   ·have hc9:=HC.out
    subst hn7
    subst hc9
    rw [show ((8:Nat):Int)=8 from rfl] at f3
    clear e4 e5 e6 hni
    go_wp2_with (go_at_call 441;refine (HZ.out _ _ (.inr (by omega))).mono ?_;rintro e w4 ⟨rfl,hb4⟩;have HB4:=hid (HB3.out.trans (hb4.mono HB3.out.size));clear hb4)
    go_meet
    exact ⟨rfl,HB4⟩
   ·have hne:¬ c=1+n * 4:=by have:=HC.out;omega
    have hc3:(33:Int)≤(c:Int):=by have:=HC.out;omega
    clear hn7
    go_wp2_with (go_at_call 441;refine (HZ.out _ _ (.inl rfl)).mono ?_;rintro e w4 ⟨rfl,hb4⟩;have HB4:=hid (HB3.out.trans (hb4.mono HB3.out.size));clear hb4)
    go_meet
    exact ⟨rfl,HB4⟩
  case rest =>
  obtain ⟨rfl,HB4⟩:=hcut
  clear f3 e5 e6 HZ
  cases z
  ·have HY:Hid (Y=none):=hid (by rw [HDa.out,if_pos rfl])
   go_wp2_with fail
   go_ret2
   unfold RetAr
   rw [HY.out]
   exact ⟨rfl,HB1.out.trans (HB4.out.mono HB1.out.size)⟩
  ·have HDb:Hid (Y=decL n (xs.drop 1)):=hid (by rw [HDa.out,if_neg (by decide)])
   clear HDa
   have f4:=HF0.out wc HB4.out
   obtain ⟨i0,hi0,hz0,hz1,hz2⟩:=info_parts infoBoth
   obtain ⟨W5,hmk,hown,hgr⟩:=run_make_own (P:=Tryz.prog) wc W1.heap.size 361 368 i0 _ 2 Tryz.underlying361 hi0 hz0 hz1 .i64 .u64 n (by rw [hz2];have:=HCn.out;omega) (by have:=HCn.out;unfold maxLen;omega) HB4.out.size
   have HB5:Hid (Below W1.heap.size W1 W5):=hid (HB4.out.grown hgr HB4.out.size (fun k e=>by cases e))
   have f5:=HF0.out W5 HB5.out
   have HO5:=hid hown
   clear hown hgr
   go_wp2_with fail
   have HPd:Hid (∀ k,k < 8→∀ W,Below W1.heap.size W1 W→Calls Tryz.prog 448 #[.agg #[nmI,unI], .slice (some ⟨b,o+(1+k * 4),none⟩) 4 4] W (RetPr W (decP ((xs.drop (1+k * 4)).take 4)))):=hid (fun k hk W hW=>by
    have hl:=HL.out
    have h2:=((HR1.out.below hW).more hW.size).sub_ (1+k * 4) 4 (by omega)
    rw [uCells_sub] at h2
    exact prDec_any _ 4 _ W h2 (Nat.le_refl _) (fun x hx=>HX.out x (List.mem_of_mem_drop (List.mem_of_mem_take hx))))
   have HY0:Hid (Y=(decL (n - 0) (xs.drop (1+0 * 4))).map (([]:List (List Nat × Nat))++·)):=hid (by
    rw [HDb.out]
    show decL n (xs.drop 1)=(decL n (xs.drop 1)).map (fun x=>[]++x)
    cases decL n (xs.drop 1) <;> rfl)
   have hm:=methPrD
   have HS5:=hid HB5.out.size
   clear HDb HF0 f4 f5 hmk HB4 HB3 HB2 HB2d HR1 HX HL HK HN64 e4 hni
   go_loopw [8,54] (fun v i wr=>∃ (k:Nat) (A1:Option Addr) (m1 c1:Nat) (l:List (List Nat × Nat)),k≤n∧i = .int .i64 (k:Int)∧v = .slice A1 m1 c1∧m1≤k∧Hid (m1=l.length∧l.length=k)∧Hid (Y=(decL (n - k) (xs.drop (1+k * 4))).map (l++·))∧Hid (wr.ownsRow W1.heap.size 368 2 (.slice A1 m1 c1) m1 (itCells l))∧Hid (Below W1.heap.size W1 wr)) (fun _ i _=>n - (Go.RowKit.intOf i).toNat)
   case atStart=>exact ⟨0,_,_,_,[],Nat.zero_le _,rfl,rfl,Nat.le_refl _,hid ⟨rfl,rfl⟩,HY0,HO5,HB5⟩
   case round =>
    clear HY0 HO5 HB5
    obtain ⟨k,A1,m1,c1,l,hk,rfl,rfl,hmk,HLn,HYk,HO,HB⟩:=hrel
    by_cases hlt:k < n
    ·have hn8:=HCn.out
     have e5:wrap64 ((k:Int) * 4)=(k:Int) * 4:=IntWalk.wrap64_in _ (by omega)
     have e6:wrap64 (1+(k:Int) * 4)=1+(k:Int) * 4:=IntWalk.wrap64_in _ (by omega)
     have e7:wrap64 (1+(k:Int) * 4+4)=1+(k:Int) * 4+4:=IntWalk.wrap64_in _ (by omega)
     have HSt:=hid (decL_step (xs:=xs) hlt)
     rw [HSt.out] at HYk
     have HPk:=hid (HPd.out k (by omega))
     generalize decP ((xs.drop (1+k * 4)).take 4)=R at *
     clear HPd HSt
     obtain ⟨g0,g1⟩:=HK2.out wr HB.out
     have hlt2:(k:Int) < (n:Int):=by omega
     have HKn:=hid hlt
     have hkr:(k:Int)≤7:=by omega
     have hc3:(33:Int)≤(c:Int):=by have:=HC.out;omega
     have q0:IntKind.i64.wrap (1+(k:Int) * 4+4)=1+(k:Int) * 4+4:=by rw [IntKind.wrap_i64];omega
     have qa:¬ 1+(k:Int) * 4+4 < 1+(k:Int) * 4:=by omega
     have q1:(0:Int)≤1+(k:Int) * 4+4:=by omega
     have q2:1+(k:Int) * 4+4≤33:=by omega
     have q3:1+(k:Int) * 4+4≤max (1+(k:Int) * 4+4) 0:=by omega
     have q4:(0:Int)≤1+(k:Int) * 4:=by omega
     have q5:1+(k:Int) * 4≤max (1+(k:Int) * 4+4) 0:=by omega
     have q6:(1+(k:Int) * 4).toNat=1+k * 4:=by omega
     have q7:(1+(k:Int) * 4+4).toNat=1+k * 4+4:=by omega
     have q8:¬ 1+k * 4+4=1+k * 4:=by omega
     have q9:1+k * 4+4 - (1+k * 4)=4:=by omega
     go_upto_region 12 with fail
     go_cut [11,12] from 61 to 77 (fun v11 v12 wx=>∃ g:Nat,v11 = .pointer (some ⟨g,0,none⟩)∧v12 = .bool R.isSome∧Hid (Blk wx g 368 #[.string (sO R), .int .u64 (vO R:Int)])∧Hid (Below wr.heap.size wr wx))
     case first =>
      have HBd:Hid (Below W1.heap.size W1 wr.drew):=hid HB.out.drew
      have HBa:Hid (Below W1.heap.size W1 (wr.drew.alloc (.cells #[.string ⟨#[]⟩, .int .u64 0] 368))):=hid (HBd.out.alloc HBd.out.size _)
      have HBl:=hid (Blk.new wr.drew 368 #[.string ⟨#[]⟩, .int .u64 0])
      have hsz:w.heap.size < wr.heap.size:=Nat.lt_of_lt_of_le HLT.out HB.out.size
      have HPk2:Hid (∀ W,Below W1.heap.size W1 W→Calls Tryz.prog 448 #[.agg #[nmI,unI], .slice (some ⟨b,o+(1+k * 4),none⟩) 4 4] W fun e w'=>e = .returned (.tuple #[.agg #[.string (sO R), .int .u64 (vO R:Int)], .bool R.isSome])∧Below W.heap.size W w'):=hid (fun W hW=>(HPk.out W hW).mono (fun e w' h=>h.out_))
      have HBw:Hid (Below wr.heap.size wr wr.drew∧Below wr.heap.size wr (wr.drew.alloc (.cells #[.string ⟨#[]⟩, .int .u64 0] 368))):=hid ⟨(Below.refl _ _).drew,(Below.refl wr.heap.size wr).drew.alloc (Nat.le_refl _) _⟩
      generalize sO R=sR at *
      generalize vO R=vR at *
      generalize R.isSome=bR at *
      clear HPk HYk HO HLn HCn HKn
      go_region_with (go_at_call 448;refine (HPk2.out _ (by first | exact HBd.out | exact HBa.out)).mono ?_;rintro e w5 ⟨rfl,hb5⟩;(first | (have HB5:=hid (HBw.out.1.trans (hb5.mono HBw.out.1.size))) | (have HB5:=hid (HBw.out.2.trans (hb5.mono HBw.out.2.size))));(first | (have kk:=HBl.out.below hb5 HBl.out.lt;have z0:w5.frozen? ⟨wr.heap.size,0,none⟩=false:=kk.frozen 0;have z1:w5.frozen? ⟨wr.heap.size,1,none⟩=false:=kk.frozen 1;have z2:w5.cell? ⟨wr.heap.size,0,none⟩=some (.string ⟨#[]⟩):=kk.cell 0;have z3:w5.cell? ⟨wr.heap.size,1,none⟩=some (.int .u64 0):=kk.cell 1;have HKk:=hid kk;clear kk) | skip);clear hb5)
      all_goals go_wp2_with fail
      all_goals go_meet
      all_goals first
       | exact ⟨w5.heap.size,rfl,rfl,hid (Blk.new _ _ _),hid (HB5.out.alloc HB5.out.size _)⟩
       | exact ⟨wr.heap.size,rfl,rfl,hid ((HKk.out.set_ 0 _).set_ 1 _),hid ((HB5.out.setCell (Nat.le_refl _) _).setCell (Nat.le_refl _) _)⟩
     case rest =>
     obtain ⟨g,rfl,rfl,HBg,HBw⟩:=hcut
     clear g0 g1 q0 qa q1 q2 q3 q4 q5 q6 q7 q8 q9 e5 e6 e7 hc3 hkr HPk
     cases R
     ·have HY:Hid (Y=none):=hid HYk.out
      go_wp2_with fail
      go_ret2
      unfold RetAr
      rw [HY.out]
      exact ⟨rfl,HB1.out.trans ((HB.out.trans (HBw.out.mono HB.out.size)).mono HB1.out.size)⟩
     ·rename_i p
      have HYn:Hid (Y=(decL (n - (k+1)) (xs.drop (1+(k+1) * 4))).map ((l++[p])++·)):=hid (by
       rw [HYk.out]
       show ((decL (n - (k+1)) (xs.drop (1+(k+1) * 4))).map (p :: ·)).map (l++·)=_
       cases decL (n - (k+1)) (xs.drop (1+(k+1) * 4)) with
       | none=>rfl
       | some t=>simp)
      have g0:wc.cell? ⟨g,0,none⟩=some (.string (strN p.1)):=HBg.out.cell 0
      have g1:wc.cell? ⟨g,1,none⟩=some (.int .u64 (p.2:Int)):=HBg.out.cell 1
      have HOc:=hid (own_below HO.out HBw.out)
      have HBc:=hid (HB.out.trans (HBw.out.mono HB.out.size))
      have hn8:=HCn.out
      go_wp2_with (at_builtin;refine stop ?_)
      unfold Stop
      have hln:=HLn.out
      have HR1:=hid (row_reads_at wc _ rfl [.string (strN p.1), .int .u64 (p.2:Int)] 1 2 368 _ rfl rfl)
      refine wpList_app _ (.tmp 80) (.tmp 82) 361 rfl rfl W1.heap.size 368 i0 _ 2 24 Tryz.underlying361 hi0 hz0 hz1 hz2 rfl (by omega) (.slice A1 m1 c1) m1 (itCells l) rfl (HOc.out.alloc _) (wc.heap.size+1) (some ⟨wc.heap.size,0,none⟩) 1 1 [.string (strN p.1), .int .u64 (p.2:Int)] rfl HR1.out (fun u hu=>by simp at hu;rcases hu with rfl | rfl <;> rfl) (by unfold maxLen;omega) (by omega) (by have:=HBc.out.size;simp;omega) ?_
      intro A3 n3 c3 w8 hn3 ho3 hg3 hb3
      have HO4:Hid (w8.ownsRow W1.heap.size 368 2 (.slice A3 n3 c3) n3 (itCells (l++[p]))):=hid (by rw [itCells_snoc];exact ho3)
      have HB4:=hid ((HBc.out.alloc HBc.out.size _).trans hb3)
      have b1:n3≤k+1:=by omega
      have HL4:Hid (n3=(l++[p]).length∧(l++[p]).length=k+1):=hid (by rw [List.length_append];simp;omega)
      clear hn3 ho3 hg3 hb3 g0 g1 hln
      have e8:wrap64 ((k:Int)+1)=(k:Int)+1:=IntWalk.wrap64_in _ (by omega)
      go_wp2
      go_roundw
      case rel =>
       first
        | exact ⟨k+1,_,_,_,l++[p],by omega,by go_num,rfl,b1,HL4,HYn,HO4,HB4⟩
        | (
          repeat apply Exists.intro
          refine ⟨?_,rfl⟩
          exact ⟨k+1,_,_,_,l++[p],by omega,by go_num,rfl,b1,HL4,HYn,HO4,HB4⟩)
      case measure=>simp [Go.RowKit.intOf];omega
    ·obtain rfl:k=n:=by omega
     have HY:Hid (Y=some l):=hid (by
      rw [HYk.out,Nat.sub_self]
      show some (l++[])=_
      rw [List.append_nil])
     clear hlt HPd
     go_wp2
     go_ret2
     unfold RetAr
     rw [HY.out]
     exact ⟨⟨_,_,_,rfl,HLn.out.1,own_le HO.out HB1.out.size⟩,HB1.out.trans (HB.out.mono HB1.out.size)⟩
end
section
open Go.RowKit Go.Maps
theorem itCells_at:∀ (l:List (List Nat × Nat)) (k j:Nat) (hk:k < l.length),j < 2→(itCells l)[k * 2+j]?=[Value.string (strN (l[k]).1), .int .u64 ((l[k]).2:Int)][j]?
 | p :: l,0,j,_,hj=>by
  show ([Value.string (strN p.1), .int .u64 (p.2:Int)]++itCells l)[0 * 2+j]?=_
  rw [Nat.zero_mul,Nat.zero_add,List.getElem?_append_left (show j < 2 from hj)]
  rfl
 | p :: l,k+1,j,hk,hj=>by
  have hk':k < l.length:=by simpa using hk
  have ih:=itCells_at l k j hk' hj
  show ([Value.string (strN p.1), .int .u64 (p.2:Int)]++itCells l)[(k+1) * 2+j]?=_
  rw [List.getElem?_append_right (show (2:Nat)≤(k+1) * 2+j by omega)]
  show (itCells l)[(k+1) * 2+j - 2]?=_
  rw [show (k+1) * 2+j - 2=k * 2+j by omega]
  exact ih
theorem it_facts {w:World} {B n:Nat} {A:Option Addr} {l:List (List Nat × Nat)} (h:Reads w B 2 A n (itCells l)) {k:Nat} (hk:k < n) :
  ∃ (hl:k < l.length) (b off:Nat),A=some ⟨b,off,none⟩∧b < B∧w.cell? ⟨b,off+k * 2,none⟩=some (.string (strN (l[k]).1))∧w.cell? ⟨b,off+k * 2+1,none⟩=some (.int .u64 ((l[k]).2:Int)):=by
 have hl:k < l.length:=by have:=h.1;rw [itCells_len] at this;omega
 obtain ⟨b,off,hA,hb,hc⟩:=h.plain (by omega) (by omega)
 exact ⟨hl,b,off,hA,hb,hc (k * 2) _ (itCells_at l k 0 hl (by omega)),hc (k * 2+1) _ (itCells_at l k 1 hl (by omega))⟩
def fndS (s:ByteArray):Nat→List (List Nat × Nat)→Int
 | _,[] => -1
 | i,p :: t=>if strN p.1=s then (i:Int) else fndS s (i+1) t
theorem strEq (a s:ByteArray):(a.toList == s.toList)=decide (a=s):=by
 rw [ByteArray.toList_eq,ByteArray.toList_eq]
 by_cases h:a=s
 ·subst h
  simp
 ·rw [decide_eq_false h,beq_eq_false_iff_ne]
  exact fun e=>h (ByteArray.ext (Array.toList_inj.1 e))
theorem find1_any (a s:ByteArray) (v g:Nat) (w:World) (h:Blk w g 9 #[.string s]) :
  Calls Tryz.prog 329 #[.agg #[.string a, .int .u64 (v:Int)], .pointer (some ⟨g,0,none⟩)] w fun e w'=>e = .returned (.bool (decide (a=s)))∧Below w.heap.size w w':=by
 have c1:(w.alloc (.cells #[.string a, .int .u64 (v:Int)] 368)).cell? ⟨g,0,none⟩=some (.string s):=(h.alloc _).cell 0
 clear h
 go_enter Tryz.func329,Tryz.ntmps329
 go_wp2
 go_ret
 exact ⟨by rw [← strEq];rfl,(Below.refl _ _).alloc (Nat.le_refl _) _⟩
theorem idx_any (A:Option Addr) (n c:Nat) (l:List (List Nat × Nat)) (s:ByteArray) (g:Nat) (w:World) (h:Reads w w.heap.size 2 A n (itCells l)) (hb:Blk w g 9 #[.string s]) (hn:n≤100000) :
  Calls Tryz.prog 328 #[.slice A n c, .func (.func 329) #[] #[.pointer (some ⟨g,0,none⟩)]] w fun e w'=>e = .returned (.int .i64 (fndS s 0 l))∧Below w.heap.size w w':=by
 have hl0:l.length=n:=by have:=h.1;rw [itCells_len] at this;omega
 have HR:=hid h
 have HL:=hid hl0
 have HG:=hid hb
 have HB0:Hid (Below w.heap.size w w):=Below.refl _ _
 obtain ⟨Y,hY⟩:∃ Y,fndS s 0 l=Y:=⟨_,rfl⟩
 rw [hY]
 have HN0:Hid (Y=fndS s 0 (l.drop 0)):=hid (by rw [List.drop_zero,hY])
 clear h hl0 hb hY
 go_enter Tryz.func328,Tryz.ntmps328
 go_wp2_with fail
 go_loopw [8] (fun v wr=>∃ k:Nat,k≤n∧v = .int .i64 (k:Int)∧Hid (Y=fndS s k (l.drop k))∧Hid (Below w.heap.size w wr)) (fun v _=>n - (Go.RowKit.intOf v).toNat)
 case atStart=>exact ⟨0,Nat.zero_le _,rfl,HN0,HB0⟩
 case round =>
  clear HN0 HB0
  obtain ⟨k,hk,rfl,HN,H⟩:=hrel
  by_cases hlt:k < n
  ·obtain ⟨hkl,gb,go,hA3,_,f0,f1⟩:=it_facts ((HR.out.below H.out).more H.out.size) (k:=k) hlt
   subst hA3
   have HS:Hid (Y=if strN (l[k]).1=s then (k:Int) else fndS s (k+1) (l.drop (k+1))):=hid (by
    rw [HN.out,List.drop_eq_getElem_cons hkl]
    rfl)
   generalize l[k]=p at *
   obtain ⟨pn,pv⟩:=p
   dsimp only at f0 f1 HS
   have HF:=hid (find1_any (strN pn) s pv g wr (HG.out.below H.out HG.out.lt))
   have hz5:(0:Int)≤(k:Int):=by omega
   have hz6:(k:Int) < (n:Int):=by omega
   by_cases hx:strN pn=s
   ·have HS2:Hid (Y=(k:Int)):=hid (by rw [HS.out,if_pos hx])
    rw [decide_eq_true hx] at HF
    clear HS HN hkl hx
    go_wp2_with (go_at_call 329;refine HF.out.mono ?_;rintro e w2 ⟨rfl,hb2⟩;have HB2:=hid (H.out.trans (hb2.mono H.out.size));clear hb2)
    go_ret
    rw [HS2.out]
    exact ⟨rfl,HB2.out⟩
   ·have HS2:Hid (Y=fndS s (k+1) (l.drop (k+1))):=hid (by rw [HS.out,if_neg hx])
    rw [decide_eq_false hx] at HF
    clear HS HN hkl hx
    go_wp2_with (go_at_call 329;refine HF.out.mono ?_;rintro e w2 ⟨rfl,hb2⟩;have HB2:=hid (H.out.trans (hb2.mono H.out.size));clear hb2)
    go_roundw
    case rel =>
     first
      | exact ⟨k+1,by omega,by go_num,HS2,HB2⟩
      | (
        repeat apply Exists.intro
        refine ⟨?_,rfl⟩
        exact ⟨k+1,by omega,by go_num,HS2,HB2⟩)
    case measure=>simp [Go.RowKit.intOf];omega
  ·have HS2:Hid (Y = -1):=hid (by rw [HN.out,List.drop_of_length_le (by have:=HL.out;omega)];rfl)
   obtain rfl:k=n:=by omega
   clear hlt hk
   go_wp2
   go_ret
   rw [HS2.out]
   exact ⟨rfl,H.out⟩
theorem findS_any (A:Option Addr) (n c:Nat) (l:List (List Nat × Nat)) (s:ByteArray) (w:World) (h:Reads w w.heap.size 2 A n (itCells l)) (hn:n≤100000) :
  Calls Tryz.prog 262 #[.slice A n c, .string s] w fun e w'=>e = .returned (.int .i64 (fndS s 0 l))∧Below w.heap.size w w':=by
 have hb1:=(Below.refl w.heap.size w).alloc (Nat.le_refl _) (.cells #[.string s] 9)
 have HI:=hid (idx_any A n c l s w.heap.size (w.alloc (.cells #[.string s] 9)) ((h.below hb1).more hb1.size) (Blk.new _ _ _) hn)
 have HB1:=hid hb1
 have hmf:∀ (fn:Fn) (first cap:Array Value) (w:World),(Instr.makeFunc fn first cap).run Tryz.prog w = .ok (.func fn first cap) w:=fun _ _ _ _=>rfl
 clear h hb1
 go_enter Tryz.func262,Tryz.ntmps262
 go_wp2_with (go_at_call 328;refine HI.out.mono ?_;rintro e w2 ⟨rfl,hb2⟩;have HB2:=hid (HB1.out.trans (hb2.mono HB1.out.size));clear hb2)
 go_ret
 exact ⟨rfl,HB2.out⟩
end
end Go.Proofs.YtfkjjoglnmeciaaGreatDoor
