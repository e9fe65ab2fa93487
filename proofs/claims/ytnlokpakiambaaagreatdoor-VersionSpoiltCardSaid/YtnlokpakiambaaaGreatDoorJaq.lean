/- The walks and laws that the claim leans on, part 17. -/
import Derived.Test.YtnlokpakiambaaaGreatDoorJak
set_option maxRecDepth 100000
set_option maxHeartbeats 16000000
namespace Go.Proofs.YtnlokpakiambaaaGreatDoor
open Go.Lib (hid)
section
open Go.RowKit
theorem cloneU_any (ad:Addr) (n c:Nat) (l:List Nat) (w:World) (h:Reads w w.heap.size 1 (some ad) n (uCells l)) (hn:n≤100000) :
  Calls Tryz.prog 185 #[.slice (some ad) n c] w (fun e w'=>∃ A' m' c',e = .returned (.slice A' m' c')∧m'=n∧w'.ownsRow w.heap.size 23 1 (.slice A' m' c') m' (uCells l)∧Below w.heap.size w w'):=by
 have H:=hid h
 clear h
 have hnil:∀ W,(binOp .eql 33 (.slice (some ad) n c) (.slice none 0 0)).run Tryz.prog W = .ok (.bool false) W:=fun W=>Lib.run_eql_slice_some_nil W _ _ _ Tryz.underlying33
 obtain ⟨i0,hi0,hz0,hz1,hz2⟩:=info_parts infoU64
 have HO:Hid ((w.alloc (.cells #[] 23)).ownsRow w.heap.size 23 1 (.slice (some ⟨w.heap.size,0,none⟩) 0 0) 0 []):=World.ownsRow_made w #[] 0 (Nat.le_refl _) (by unfold maxLen;omega) (by simp)
 go_enter Tryz.func185,Tryz.ntmps185
 go_wp2_with (at_builtin;refine wpList_app _ (.tmp 5) (.tmp 6) 33 rfl rfl w.heap.size 23 i0 _ 1 8 Tryz.underlying33 hi0 hz0 hz1 hz2 rfl ?q1 (.slice (some ⟨w.heap.size,0,none⟩) 0 0) 0 [] rfl HO.out w.heap.size (some ad) n c (uCells l) rfl ?q5 ?q6 ?q2 ?q3 ?q4 ?_;(case q1=>omega);(case q5=>exact H.out.alloc (Nat.le_refl _) _);(case q6=>exact uCells_one l);(case q2=>(unfold maxLen;omega));(case q3=>omega);(case q4=>(simp));intro A3 n3 c3 w8 hn3 ho3 hg3 hb3;have HN3:=hid hn3;have HO3:=hid ho3;have HB3:=hid (((Below.refl _ w).alloc (Nat.le_refl _) _).trans hb3);clear hn3 ho3 hg3 hb3)
 go_ret
 refine ⟨_,_,_,rfl,HN3.out.trans (Nat.zero_add _),?_,HB3.out⟩
 have:=HO3.out
 rw [List.nil_append] at this
 exact this
end
section
open Go.RowKit
def freeFrom (V:Nat):Nat→Nat→Option Nat
 | 0,_=>none
 | n+1,j=>if bitAt V j then freeFrom V n (j+1) else some j
def freeR (V c j:Nat):Value:=match freeFrom V (perC c - j) j with
 | some i => .int .i64 (i:Int)
 | none => .int .i64 (-1)
theorem bit_at0 (V i:Nat) (hV:V < 18446744073709551616):(bits .and .u64 ((V:Int) / 2 ^ i) 1 == 0) = !bitAt V i:=by
 have e:(V:Int) / 2 ^ i=((V / 2 ^ i:Nat):Int):=by push_cast;rfl
 have h:=Nat.div_le_self V (2 ^ i)
 rw [e]
 unfold bitAt
 generalize V / 2 ^ i=y at *
 rw [Lib.u64_and1 _ (by omega) (by omega)]
 have e2:(y:Int) % 2=((y % 2:Nat):Int):=by omega
 rw [e2]
 have h2:y % 2=0∨y % 2=1:=by omega
 rcases h2 with h2 | h2 <;> rw [h2] <;> rfl
section
variable {a:DA} {L T:Nat} {w:World} {S:Fp} {cur:Nat→Nat} {F:Nat}
theorem free_any (h:Dev a L T w S cur F) (hp:Pay w) (ln cl g V j:Nat) (hl:ln+32≤L) (hc:cl < 5) (hV:V < 18446744073709551616) (hv:cur (8 * ln+1)=V) :
  Calls Tryz.prog 305 #[chV a ln cl 0 g, .int .i64 (j:Int)] w fun e w'=>e = .returned (freeR V cl j)∧Below w.heap.size w w':=by
 have hb0:Below w.heap.size w (w.alloc (.cells (chCells a ln cl g) 221)):=(Below.refl _ _).alloc (Nat.le_refl _) _
 have HB0:=hid hb0
 have HHas:=hid (chHas_any a ln cl 0 g j hc _ (hp.below hb0))
 have HBi:Hid (∀ W,Below w.heap.size w W→Calls Tryz.prog 211 #[chV a ln cl 0 g] W fun e w'=>e = .returned (.int .u64 (V:Int))∧Below W.heap.size W w'):=hid (fun W hW=>bits_any (h.below hW) ln cl g V hl hv)
 have HN:Hid (∀ W,Below w.heap.size w W→Calls Tryz.prog 249 #[chV a ln cl 0 g] W fun e w'=>e = .returned (.int .i64 (perC cl:Int))∧Below W.heap.size W w'):=hid (fun W hW=>chBlocks_any a ln cl 0 g hc W (hp.below hW))
 have HK:=hid (Blk.new w 221 (chCells a ln cl g))
 have hpc:=per_le cl
 have d0:decide ((j:Int) < 0)=false:=decide_eq_false (by omega)
 clear h hp hb0 hv
 unfold chV at *
 unfold chCells memV at *
 by_cases hj:j < perC cl
 ·rw [decide_eq_true hj] at HHas
  have HR:Hid (freeR V cl j=match freeFrom V (perC cl - j) j with
   | some i => .int .i64 (i:Int)
   | none => .int .i64 (-1)):=hid rfl
  generalize freeR V cl j=rr at *
  generalize perC cl=n at *
  go_enter Tryz.func305,Tryz.ntmps305
  go_wp2_with fail
  refine HHas.out.mono ?_
  rintro e w1 ⟨rfl,hb1⟩
  have HB1:=hid (HB0.out.trans (hb1.mono HB0.out.size))
  have hk:=HK.out.below hb1 HK.out.lt
  have HK1:=hid hk
  have f0:w1.cell? ⟨w.heap.size,0,none⟩=some (.iface 41 (.pointer (some ⟨a.th 0,0,none⟩))):=hk.cell 0
  have f1:w1.cell? ⟨w.heap.size,1,none⟩=some (.int .i64 (ln:Int)):=hk.cell 1
  have f2:w1.cell? ⟨w.heap.size,2,none⟩=some (.int .i64 (cl:Int)):=hk.cell 2
  have f3:w1.cell? ⟨w.heap.size,3,none⟩=some (.int .i64 0):=hk.cell 3
  have f4:w1.cell? ⟨w.heap.size,4,none⟩=some (.int .u16 (g:Int)):=hk.cell 4
  clear hb1 hk HK HHas
  go_wp2_with fail
  refine (HBi.out _ HB1.out).mono ?_
  rintro e w2 ⟨rfl,hb2⟩
  have HB2:=hid (HB1.out.trans (hb2.mono HB1.out.size))
  have HK2:=hid (HK1.out.below hb2 HK1.out.lt)
  clear hb2 HBi HB1 HK1 f0 f1 f2 f3 f4
  go_wp2_with fail
  go_loopw [6] (fun i wr=>∃ k:Nat,j≤k∧k≤n∧i = .int .i64 (k:Int)∧Hid (freeFrom V (n - j) j=freeFrom V (n - k) k)∧Hid (Below w.heap.size w wr)∧Hid (Blk wr w.heap.size 221 #[.iface 41 (.pointer (some ⟨a.th 0,0,none⟩)), .int .i64 (ln:Int), .int .i64 (cl:Int), .int .i64 0, .int .u16 (g:Int)])) (fun i _=>n - (Go.RowKit.intOf i).toNat)
  case atStart=>exact ⟨j,Nat.le_refl _,Nat.le_of_lt hj,rfl,hid rfl,HB2,HK2⟩
  case round =>
   obtain ⟨k,hk1,hk2,rfl,HE,HBr,HKr⟩:=hrel
   have f0:wr.cell? ⟨w.heap.size,0,none⟩=some (.iface 41 (.pointer (some ⟨a.th 0,0,none⟩))):=HKr.out.cell 0
   have f1:wr.cell? ⟨w.heap.size,1,none⟩=some (.int .i64 (ln:Int)):=HKr.out.cell 1
   have f2:wr.cell? ⟨w.heap.size,2,none⟩=some (.int .i64 (cl:Int)):=HKr.out.cell 2
   have f3:wr.cell? ⟨w.heap.size,3,none⟩=some (.int .i64 0):=HKr.out.cell 3
   have f4:wr.cell? ⟨w.heap.size,4,none⟩=some (.int .u16 (g:Int)):=HKr.out.cell 4
   clear HB2 HK2
   by_cases hkn:k < n
   ·have dk:decide ((k:Int) < (n:Int))=true:=decide_eq_true (by omega)
    have s1:IntKind.u64.wrap (k:Int)=(k:Int):=by rw [IntKind.wrap_u64];omega
    have ebit:=bit_at0 V k hV
    have e1:freeFrom V (n - k) k=if bitAt V k then freeFrom V (n - (k+1)) (k+1) else some k:=by
     rw [show n - k=(n - (k+1))+1 by omega]
     rfl
    have HE2:=hid (HE.out.trans e1)
    clear HE e1
    go_wp2_with fail
    refine (HN.out _ HBr.out).mono ?_
    rintro e w3 ⟨rfl,hb3⟩
    have HB3:=hid (HBr.out.trans (hb3.mono HBr.out.size))
    have HK3:=hid (HKr.out.below hb3 HKr.out.lt)
    clear hb3 HBr HKr f0 f1 f2 f3 f4
    cases hb:bitAt V k
    ·rw [hb] at ebit HE2
     go_wp2
     go_ret
     refine ⟨?_,HB3.out⟩
     rw [HR.out,HE2.out]
     rfl
    ·rw [hb] at ebit HE2
     go_wp2
     go_roundw
     case rel=>exact ⟨k+1,by omega,by omega,by go_num,HE2,HB3,HK3⟩
     case measure=>simp [Go.RowKit.intOf];omega
   ·obtain rfl:k=n:=by omega
    have dk:decide ((k:Int) < (k:Int))=false:=decide_eq_false (by omega)
    go_wp2_with fail
    refine (HN.out _ HBr.out).mono ?_
    rintro e w3 ⟨rfl,hb3⟩
    have HB3:=hid (HBr.out.trans (hb3.mono HBr.out.size))
    clear hb3 HBr HKr f0 f1 f2 f3 f4
    go_wp2
    go_ret
    refine ⟨?_,HB3.out⟩
    rw [HR.out,HE.out,Nat.sub_self]
    rfl
 ·rw [decide_eq_false hj] at HHas
  have HR:Hid (freeR V cl j = .int .i64 (-1)):=hid (by unfold freeR;rw [show perC cl - j=0 by omega];rfl)
  generalize freeR V cl j=rr at *
  go_enter Tryz.func305,Tryz.ntmps305
  go_wp2_with fail
  refine HHas.out.mono ?_
  rintro e w1 ⟨rfl,hb1⟩
  have HB1:=hid (HB0.out.trans (hb1.mono HB0.out.size))
  clear hb1 HK HHas
  go_wp2
  go_ret
  exact ⟨by rw [HR.out];rfl,HB1.out⟩
end
end
section
open Go.RowKit
theorem infoLine:(Tryz.prog.info? 196).map (fun i=>(i.zero,i.size,i.bytes))=some (some (.agg #[.int .u64 0, .slice none 0 0]),2,32):=by kernel_rfl
def Of1 (w wx:World) (pb L:Nat) (v:Value):Prop:=∃ d cb cc lb cs ls,v = .pointer (some ⟨d,0,none⟩)∧Blk wx d 194 #[.slice (some ⟨pb,0,none⟩) (8 * L) (8 * L), .slice (some ⟨cb,0,none⟩) (8 * L) cc, .slice (some ⟨lb,0,none⟩) L L, .pointer none, .pointer none, .pointer none, .pointer none, .pointer none, .pointer none, .pointer none, .pointer none, .bool false, .bool false, .int .i64 0, .int .u64 0] ∧
 Blk wx cb 23 cs∧cs.size=cc∧8 * L≤cc∧cc≤9223372036854775807∧RowU cs (List.replicate (8 * L) 0)∧Blk wx lb 196 ls∧ls=madeCells (Value.agg #[.int .u64 0, .slice none 0 0]).cells (L * 2)∧Below w.heap.size w wx∧w.heap.size≤cb∧w.heap.size≤lb∧w.heap.size≤d
theorem Blk.new2 (w:World) (o:Obj) (t:TypeId) (cs:Array Value):Blk ((w.alloc o).alloc (.cells cs t)) (w.heap.size+1) t cs:=by
 have h:=Blk.new (w.alloc o) t cs
 rw [show (w.alloc o).heap.size=w.heap.size+1 by simp] at h
 exact h
theorem of_join {w wx:World} {pb L d lb m1 c1:Nat} {A1:Option Addr} (h0:0 < L) (hd:Blk wx d 194 #[.slice (some ⟨pb,0,none⟩) (8 * L) (8 * L), .slice A1 m1 c1, .slice (some ⟨lb,0,none⟩) L L, .pointer none, .pointer none, .pointer none, .pointer none, .pointer none, .pointer none, .pointer none, .pointer none, .bool false, .bool false, .int .i64 0, .int .u64 0]) (ho:wx.ownsRow w.heap.size 23 1 (.slice A1 m1 c1) m1 (uCells (List.replicate (8 * L) 0))) (hm:m1=8 * L)
  (hl:Blk wx lb 196 (madeCells (Value.agg #[.int .u64 0, .slice none 0 0]).cells (L * 2))) (hb:Below w.heap.size w wx) (h1:w.heap.size≤lb) (h2:w.heap.size≤d):Of1 w wx pb L (.pointer (some ⟨d,0,none⟩)):=by
 obtain ⟨g,cap,hve,hgb,hglt⟩:=ho.form (by omega)
 have hA:A1=some ⟨g,0,none⟩:=by injection hve
 subst hA
 obtain ⟨cur,hcb,hcs,hru,hxl⟩:=own_row ho
 have hcap:=own_cap ho
 subst hm
 exact ⟨d,g,c1,lb,cur,_,rfl,hd,hcb,hcs,by omega,by omega,hru,hl,rfl,hb,hgb,h1,h2⟩
structure OfI (w wr:World) (pb L d cb cc lb:Nat) (cs ls:Array Value) (th nt:Nat→Nat) (k:Nat):Prop where
 dev:∃ dc,Blk wr d 194 dc∧dc.size=15∧dc[0]?=some (.slice (some ⟨pb,0,none⟩) (8 * L) (8 * L))∧dc[1]?=some (.slice (some ⟨cb,0,none⟩) (8 * L) cc)∧dc[2]?=some (.slice (some ⟨lb,0,none⟩) L L)∧dc[11]?=some (.bool false)∧dc[12]?=some (.bool false)∧dc[13]?=some (.int .i64 0)∧dc[14]?=some (.int .u64 0)∧∀ j,j < k→dc[3+j]?=some (.pointer (some ⟨th j,0,none⟩))
 cur:Blk wr cb 23 cs
 lin:Blk wr lb 196 ls
 thr:∀ j,j < k→Blk wr (th j) 133 #[.pointer (some ⟨d,0,none⟩), .int .i64 (j:Int), .int .i64 0, .map (some (nt j))]
 map:0 < k→wr.ownsMap Tryz.prog 3 (plainElem Tryz.prog 23) (nt 0) 0 (.map ([]:List (Lit × DataW Unit)))
 below:Below w.heap.size w wr
 gd:w.heap.size≤d
 gt:∀ j,j < k→w.heap.size≤th j∧w.heap.size≤nt j
theorem ofStep {w wr:World} {pb L d cb cc lb:Nat} {cs ls:Array Value} {th nt:Nat→Nat} {k:Nat} (H:OfI w wr pb L d cb cc lb cs ls th nt k) (hk:k < 8) :
  OfI w (((wr.setCell ⟨d,3+k,none⟩ (.pointer (some ⟨wr.heap.size+1,0,none⟩))).alloc (.map #[] 0)).alloc (.cells #[.pointer (some ⟨d,0,none⟩), .int .i64 (k:Int), .int .i64 0, .map (some wr.heap.size)] 133)) pb L d cb cc lb cs ls (fun j=>if j=k then wr.heap.size+1 else th j) (fun j=>if j=k then wr.heap.size else nt j) (k+1):=by
 obtain ⟨⟨dc,hd,hds,e0,e1,e2,e3,e4,e5,e6,e7⟩,hcu,hli,hth,hmp,hbl,hgd,hgt⟩:=H
 have hs:(wr.setCell ⟨d,3+k,none⟩ (.pointer (some ⟨wr.heap.size+1,0,none⟩))).heap.size=wr.heap.size:=by simp
 have hc:Chg (fun g=>g=d) wr (((wr.setCell ⟨d,3+k,none⟩ (.pointer (some ⟨wr.heap.size+1,0,none⟩))).alloc (.map #[] 0)).alloc (.cells #[.pointer (some ⟨d,0,none⟩), .int .i64 (k:Int), .int .i64 0, .map (some wr.heap.size)] 133)):=(((Chg.refl (fun g=>g=d) wr).setCell (p:=⟨d,3+k,none⟩) (.inl rfl) _).alloc _).alloc _
 refine ⟨⟨_,((hd.set_ (3+k) _).alloc _).alloc _,by simpa using hds,?_,?_,?_,?_,?_,?_,?_,?_⟩,hc.blk hcu (fun e=>hcu.ne_ hd (by decide) e),hc.blk hli (fun e=>hli.ne_ hd (by decide) e),?_,?_,?_,hgd,?_⟩
 ·rw [Array.getElem?_setIfInBounds_ne (by omega)];exact e0
 ·rw [Array.getElem?_setIfInBounds_ne (by omega)];exact e1
 ·rw [Array.getElem?_setIfInBounds_ne (by omega)];exact e2
 ·rw [Array.getElem?_setIfInBounds_ne (by omega)];exact e3
 ·rw [Array.getElem?_setIfInBounds_ne (by omega)];exact e4
 ·rw [Array.getElem?_setIfInBounds_ne (by omega)];exact e5
 ·rw [Array.getElem?_setIfInBounds_ne (by omega)];exact e6
 ·intro j hj
  by_cases hjk:j=k
  ·subst hjk
   rw [Array.getElem?_setIfInBounds_self_of_lt (by omega)]
   simp
  ·rw [Array.getElem?_setIfInBounds_ne (by omega),e7 j (by omega)]
   simp [hjk]
 ·intro j hj
  by_cases hjk:j=k
  ·subst hjk
   have h:=Blk.new2 (wr.setCell ⟨d,3+j,none⟩ (.pointer (some ⟨wr.heap.size+1,0,none⟩))) (.map #[] 0) 133 #[.pointer (some ⟨d,0,none⟩), .int .i64 (j:Int), .int .i64 0, .map (some wr.heap.size)]
   rw [hs] at h
   simpa using h
  ·have h:=hc.blk (hth j (by omega)) (fun e=>(hth j (by omega)).ne_ hd (by decide) e)
   simpa [hjk] using h
 ·intro _
  by_cases hk0:0=k
  ·subst hk0
   have h:=World.ownsMap_made (H:=Unit) (wr.setCell ⟨d,3+0,none⟩ (.pointer (some ⟨wr.heap.size+1,0,none⟩))) Tryz.prog 3 (plainElem Tryz.prog 23)
   rw [hs] at h
   have h2:=((Chg.refl Fp.no _).alloc (.cells #[.pointer (some ⟨d,0,none⟩), .int .i64 ((0:Nat):Int), .int .i64 0, .map (some wr.heap.size)] 133)).map h (fun h=>h)
   simpa using h2
  ·have h:=hc.map (hmp (by omega)) (fun e=>map_ne_blk (hmp (by omega)) hd e)
   simpa [hk0] using h
 ·have h1:=(hbl.setCell (p:=⟨d,3+k,none⟩) hgd (.pointer (some ⟨wr.heap.size+1,0,none⟩)))
  exact (h1.alloc h1.size _).alloc (Nat.le_trans h1.size (by simp)) _
 ·intro j hj
  have:=hbl.size
  by_cases hjk:j=k
  ·simp [hjk];omega
  ·simpa [hjk] using hgt j (by omega)
def RetOf (w:World) (pb L:Nat) (e:Ending) (w':World):Prop:=∃ (d cb cc lb:Nat) (cs ls:Array Value) (th nt:Nat→Nat),e = .returned (.pointer (some ⟨d,0,none⟩))∧OfI w w' pb L d cb cc lb cs ls th nt 8∧cs.size=cc∧8 * L≤cc∧cc≤9223372036854775807∧RowU cs (List.replicate (8 * L) 0)∧ls=madeCells (Value.agg #[.int .u64 0, .slice none 0 0]).cells (L * 2)∧w.heap.size≤cb∧w.heap.size≤lb
theorem of_any (pb L:Nat) (hL:L≤4096) (h0:0 < L) (w:World) (hp:Reads w w.heap.size 1 (some ⟨pb,0,none⟩) (8 * L) (uCells (List.replicate (8 * L) 0))) :
  Calls Tryz.prog 142 #[.slice (some ⟨pb,0,none⟩) (8 * L) (8 * L)] w (RetOf w pb L):=by
 obtain ⟨j0,hj0,hk0,hk1,hk2⟩:=info_parts infoLine
 have hmk:∀ W:World,(Instr.makeSlice 191 (.int .i64 (L:Int)) (.int .i64 (L:Int))).run Tryz.prog W = .ok (.slice (some ⟨W.heap.size,0,none⟩) L L) (W.alloc (.cells (madeCells (Value.agg #[.int .u64 0, .slice none 0 0]).cells (L * 2)) 196)):=fun W=>by
  have h:=run_makeSlice (P:=Tryz.prog) W 191 196 j0 _ Tryz.underlying191 hj0 hk0 .i64 .i64 (L:Int) (L:Int) (by omega) (by omega) (by rw [hk1];omega) (by rw [hk2];omega) (by omega)
  rw [hk1] at h
  simpa using h
 have HJ:Hid (∀ (wx:World) (d lb m1 c1:Nat) (A1:Option Addr),_):=fun wx d lb m1 c1 A1=>of_join (w:=w) (wx:=wx) (pb:=pb) (d:=d) (lb:=lb) (m1:=m1) (c1:=c1) (A1:=A1) h0
 generalize madeCells (Value.agg #[.int .u64 0, .slice none 0 0]).cells (L * 2)=M at *
 have HC:=hid (fun (W:World) (hW:Below w.heap.size w W)=>cloneU_any ⟨pb,0,none⟩ (8 * L) (8 * L) _ W ((hp.below hW).more hW.size) (by omega))
 generalize hN:8 * L=N at *
 have d1:(N:Int).tdiv 8=(L:Int):=by rw [Int.tdiv_eq_ediv_of_nonneg (by omega)];omega
 have d2:(N:Int) / 8=(L:Int):=by omega
 have wL:IntKind.i64.wrap (L:Int)=(L:Int):=by rw [IntKind.wrap_i64];omega
 have HN:=hid hN
 clear hN hp
 go_enter Tryz.func142,Tryz.ntmps142
 go_wp2_with fail
 go_cut [3] from 5 to 13 (fun v wx=>Hid (Of1 w wx pb L v))
 case first =>
  go_region_with (go_at_call 185;refine (HC.out _ (by first | exact (Below.refl _ _).drew | exact (Below.refl _ _).drew.alloc (Nat.le_refl _) _)).mono ?_;rintro e w1 ⟨A1,m1,c1,rfl,hm1,ho1,hb1⟩;have HO1:=hid ho1;have HB1:=hid hb1;have HM1:=hid hm1;clear ho1 hb1 hm1)
  ·go_wp2_with fail
   go_meet
   exact HJ.out _ _ _ _ _ _ (Blk.new2 _ _ _ _) ((HO1.out.alloc _).alloc _) HM1.out ((Blk.new _ _ _).alloc _) (((Below.refl w.heap.size w).drew.trans HB1.out).alloc HB1.out.size _ |>.alloc (Nat.le_trans HB1.out.size (by simp)) _) HB1.out.size (Nat.le_trans HB1.out.size (by simp))
  ·go_wp2_with fail
   go_meet
   have hb:Below w.heap.size w w1:=((Below.refl w.heap.size w).drew.alloc (Nat.le_refl _) _).trans (HB1.out.mono (by simp))
   exact HJ.out _ _ _ _ _ _ (Blk.new _ _ _) ((own_le HO1.out (by simp)).alloc _) HM1.out (((Blk.new w.drew _ _).below HB1.out (Blk.new w.drew _ _).lt).alloc _) (hb.alloc hb.size _) (Nat.le_refl _) hb.size
 case rest =>
  obtain ⟨d,cb,cc,lb,cs,ls,rfl,hd,hc,hcs,hc1,hc2,hru,hl,hls,hb,g1,g2,g3⟩:=hcut.out
  have HI0:Hid (OfI w wc pb L d cb cc lb cs ls (fun _=>0) (fun _=>0) 0):=⟨⟨_,hd,rfl,rfl,rfl,rfl,rfl,rfl,rfl,rfl,fun j hj=>by omega⟩,hc,hl,fun j hj=>by omega,fun h=>by omega,hb,g3,fun j hj=>by omega⟩
  have HF:=hid (show cs.size=cc∧8 * L≤cc∧cc≤9223372036854775807∧RowU cs (List.replicate (8 * L) 0)∧ls=madeCells (Value.agg #[.int .u64 0, .slice none 0 0]).cells (L * 2)∧w.heap.size≤cb∧w.heap.size≤lb from ⟨hcs,hc1,hc2,hru,hls,g1,g2⟩)
  clear hcut hd hc hru hl hls hb HC HJ hmk d1 d2 wL
  go_wp2
  go_loopw [14] (fun i wr=>∃ (k:Nat) (th nt:Nat→Nat),k≤8∧i = .int .i64 k∧Hid (OfI w wr pb L d cb cc lb cs ls th nt k)) (fun i _=>8 - (RowKit.intOf i).toNat)
  case atStart=>exact ⟨0,_,_,Nat.zero_le _,rfl,HI0⟩
  case round =>
   clear HI0
   obtain ⟨k,th,nt,hk,rfl,H⟩:=hrel
   by_cases hlt:k < 8
   ·obtain ⟨dc,hdb,hds,_⟩:=H.out.dev
    obtain ⟨u0,hu0⟩:∃ u,dc[3+k]?=some u:=⟨_,Array.getElem?_eq_getElem (by omega)⟩
    have c0:wr.cell? ⟨d,3+k,none⟩=some u0:=by rw [hdb.cell];exact hu0
    have c1:wr.frozen? ⟨d,3+k,none⟩=false:=hdb.frozen _
    have hdl:=hdb.lt
    have hmm:∀ W:World,(Instr.makeMap 131 none).run Tryz.prog W = .ok (.map (some W.heap.size)) (W.alloc (.map #[] 0)):=fun _=>rfl
    have hz0:(0:Int)≤(k:Int):=by omega
    have hz1:(k:Int) < 8:=by omega
    have HN1:=hid (ofStep H.out hlt)
    clear H hdb hds hu0
    go_wp2
    exact ⟨⟨k+1,_,_,by omega,by go_num,HN1⟩,by simp [RowKit.intOf];omega⟩
   ·obtain rfl:k=8:=by omega
    go_wp2
    go_ret
    exact ⟨d,cb,cc,lb,cs,ls,th,nt,rfl,H.out,HF.out⟩
end
section
open Go.RowKit
theorem made_at (z:Array Value) (n i:Nat) (h:i < n):(madeCells z n)[i]?=some z[i % z.size]! := by
 unfold madeCells
 rw [Array.getElem?_map,Array.getElem?_range,if_pos h]
 rfl
theorem made_line (L i:Nat) (hi:i < L):(madeCells (Value.agg #[.int .u64 0, .slice none 0 0]).cells (L * 2))[i * 2]?=some (.int .u64 0)∧(madeCells (Value.agg #[.int .u64 0, .slice none 0 0]).cells (L * 2))[i * 2+1]?=some (.slice none 0 0):=by
 have hz:(Value.agg #[.int .u64 0, .slice none 0 0]).cells=#[.int .u64 0, .slice none 0 0]:=rfl
 rw [hz,made_at _ _ _ (by omega),made_at _ _ _ (by omega)]
 have e1:i * 2 % (#[Value.int .u64 0,Value.slice none 0 0]:Array Value).size=0:=by show i * 2 % 2=0;omega
 have e2:(i * 2+1) % (#[Value.int .u64 0,Value.slice none 0 0]:Array Value).size=1:=by show (i * 2+1) % 2=1;omega
 rw [e1,e2]
 exact ⟨rfl,rfl⟩
def RetNew (w:World) (L:Nat) (e:Ending) (w':World):Prop:=∃ (a:DA) (S:Fp),e = .returned (.tuple #[.pointer (some ⟨a.d,0,none⟩), .int .i64 0])∧Dev a L 0 w' S (fun _=>0) 0∧(∀ k,S k→w.heap.size≤k)∧Below w.heap.size w w'
theorem dev_cells {dc:Array Value} {a:DA} {L:Nat} (hs:dc.size=15) (e0:dc[0]?=some (.slice (some ⟨a.pb,0,none⟩) (8 * L) (8 * L))) (e1:dc[1]?=some (.slice (some ⟨a.cb,0,none⟩) (8 * L) a.cc)) (e2:dc[2]?=some (.slice (some ⟨a.lb,0,none⟩) L L)) (e3:dc[11]?=some (.bool false)) (e4:dc[12]?=some (.bool false)) (e5:dc[13]?=some (.int .i64 0)) (e6:dc[14]?=some (.int .u64 0))
  (e7:∀ j,j < 8→dc[3+j]?=some (.pointer (some ⟨a.th j,0,none⟩))):dc=devCells a L 0:=by
 apply Array.ext_getElem?
 intro i
 by_cases hi:i < 15
 ·rcases (show i=0∨i=1∨i=2∨i=3∨i=4∨i=5∨i=6∨i=7∨i=8∨i=9∨i=10∨i=11∨i=12∨i=13∨i=14 by omega) with rfl | rfl | rfl | rfl | rfl | rfl | rfl | rfl | rfl | rfl | rfl | rfl | rfl | rfl | rfl
  ·exact e0
  ·exact e1
  ·exact e2
  ·exact e7 0 (by omega)
  ·exact e7 1 (by omega)
  ·exact e7 2 (by omega)
  ·exact e7 3 (by omega)
  ·exact e7 4 (by omega)
  ·exact e7 5 (by omega)
  ·exact e7 6 (by omega)
  ·exact e7 7 (by omega)
  ·exact e3
  ·exact e4
  ·exact e5
  ·exact e6
 ·rw [Array.getElem?_eq_none (by omega),Array.getElem?_eq_none (by show 15≤i;omega)]
theorem dev_new {w w':World} {L d cb cc lb:Nat} {per cs ls:Array Value} {th nt:Nat→Nat} (hL:L≤4096) (hp:per=madeCells #[.int .u64 0] (8 * L)) (H:OfI (w.alloc (.cells per 23)) w' w.heap.size L d cb cc lb cs ls th nt 8) (h1:cs.size=cc) (h2:8 * L≤cc) (h3:cc≤9223372036854775807)
  (hru:RowU cs (List.replicate (8 * L) 0)) (hls:ls=madeCells (Value.agg #[.int .u64 0, .slice none 0 0]).cells (L * 2)) (g1:(w.alloc (.cells per 23)).heap.size≤cb) (g2:(w.alloc (.cells per 23)).heap.size≤lb) :
  RetNew w L (.returned (.tuple #[.pointer (some ⟨d,0,none⟩), .int .i64 0])) w':=by
 obtain ⟨⟨dc,hd,hds,e0,e1,e2,e3,e4,e5,e6,e7⟩,hcu,hli,hth,hmp,hbl,hgd,hgt⟩:=H
 have hsz:(w.alloc (.cells per 23)).heap.size=w.heap.size+1:=by simp
 rw [hsz] at g1 g2 hgd hgt
 have hbw:Below w.heap.size w w':=((Below.refl w.heap.size w).alloc (Nat.le_refl _) _).trans (hbl.mono (by omega))
 have hpb:Blk w' w.heap.size 23 per:=(Blk.new w 23 per).below hbl (Blk.new w 23 per).lt
 have hdc:=dev_cells (a:=⟨d,w.heap.size,cb,lb,nt,th,cc⟩) hds e0 e1 e2 e3 e4 e5 e6 e7
 subst hdc
 have hmz:=hmp (by omega)
 have hml:=hmz.lt
 refine ⟨⟨d,w.heap.size,cb,lb,nt,th,cc⟩,fun k=>w.heap.size≤k∧k < w'.heap.size,rfl,⟨⟨fun _=>0,fun _=>0,fun _ => .slice none 0 0,fun _=>[]⟩,0,per,cs,ls,?_,⟨[],hmz,fun p hp=>by cases hp⟩⟩,fun k hk=>hk.1,hbw⟩
 exact {
  dev:=hd
  perB:=hpb
  perS:=by rw [hp,size_madeCells]
  perI:=fun i hi=>⟨0,by rw [hp,made_at _ _ _ hi];congr 1;show (#[Value.int .u64 0]:Array Value)[i % 1]! = _;rw [Nat.mod_one];rfl⟩
  curB:=hcu
  curS:=h1
  curL:=h2
  curM:=h3
  curI:=fun i hi=>by have:=hru.2 i (by simpa using hi);simpa using this
  linB:=hli
  linS:=by rw [hls,size_madeCells];omega
  linD:=fun i hi=>by rw [hls];exact (made_line L i hi).1
  linH:=fun i hi=>by rw [hls];exact (made_line L i hi).2
  own:=fun i hi=>World.ownsRow_nil _ _ _ _
  ok:=fun i hi k hk=>absurd hk (by simp)
  few:=fun i hi=>Nat.le_refl _
  apart:=fun i j g hi hj h=>by cases h
  thr:=hth
  sd:=⟨by show w.heap.size≤d;omega,hd.lt⟩
  sp:=⟨Nat.le_refl _,hpb.lt⟩
  sc:=⟨by show w.heap.size≤cb;omega,hcu.lt⟩
  sl:=⟨by show w.heap.size≤lb;omega,hli.lt⟩
  sn:=⟨by have:=(hgt 0 (by omega)).2;show w.heap.size≤nt 0;omega,hml⟩
  st:=fun j hj=>⟨by have:=(hgt j hj).1;show w.heap.size≤th j;omega,(hth j hj).lt⟩
  sh:=fun i g hi h=>by cases h
  lt:=fun k hk=>hk.2
  ne:=by show w.heap.size≠cb;omega
  hL:=hL
  hT:=by omega }
theorem new_any (L:Nat) (h0:0 < L) (hL:L≤4096) (w:World):Calls Tryz.prog 99 #[.int .i64 (L:Int)] w (RetNew w L):=by
 obtain ⟨j0,hj0,hk0,hk1,hk2⟩:=info_parts infoU64
 have hmk:∀ W:World,(Instr.makeSlice 33 (.int .i64 ((8 * L:Nat):Int)) (.int .i64 ((8 * L:Nat):Int))).run Tryz.prog W = .ok (.slice (some ⟨W.heap.size,0,none⟩) (8 * L) (8 * L)) (W.alloc (.cells (madeCells #[.int .u64 0] (8 * L)) 23)):=fun W=>by
  have h:=run_makeSlice (P:=Tryz.prog) W 33 23 j0 (.int .u64 0) Tryz.underlying33 hj0 hk0 .i64 .i64 ((8 * L:Nat):Int) ((8 * L:Nat):Int) (by omega) (by omega) (by rw [hk1];omega) (by rw [hk2];omega) (by omega)
  rw [hk1,Int.toNat_natCast,Nat.mul_one] at h
  exact h
 have HO:=hid (of_any w.heap.size L hL h0 (w.alloc (.cells (madeCells #[.int .u64 0] (8 * L)) 23)) (by
  rw [show (w.alloc (.cells (madeCells #[.int .u64 0] (8 * L)) 23)).heap.size=w.heap.size+1 by simp]
  refine row_reads_at w _ rfl _ (8 * L) 1 23 _ ?_ ?_
  ·refine congrArg (fun x=>Obj.cells x 23) (Array.ext' ?_)
   rw [toList_madeCells_one]
   simp [uCells]
  ·simp [uCells]))
 have HN:Hid (∀ e w',RetOf (w.alloc (.cells (madeCells #[.int .u64 0] (8 * L)) 23)) w.heap.size L e w'→∃ d:Nat,e = .returned (.pointer (some ⟨d,0,none⟩))∧RetNew w L (.returned (.tuple #[.pointer (some ⟨d,0,none⟩), .int .i64 0])) w'):=by
  rintro e w1 ⟨d,cb,cc,lb,cs,ls,th,nt,rfl,h1,h2,h3,h4,h5,h6,h7,h8⟩
  exact ⟨d,rfl,dev_new hL rfl h1 h2 h3 h4 h5 h6 h7 h8⟩
 have e1:decide ((L:Int) < 1)=false:=decide_eq_false (by omega)
 have e2:decide ((4096:Int) < (L:Int))=false:=decide_eq_false (by omega)
 have u1:IntKind.i64.wrap ((L:Int) * 8)=((8 * L:Nat):Int):=by rw [IntKind.wrap_i64];omega
 have u2:(L:Int) * 8=((8 * L:Nat):Int):=by omega
 generalize madeCells #[.int .u64 0] (8 * L)=M at *
 generalize 8 * L=N at *
 go_enter Tryz.func99,Tryz.ntmps99
 go_wp2_with (go_at_call 142;refine HO.out.mono ?_;intro e w1 h1;obtain ⟨d,rfl,h2⟩:=HN.out e w1 h1;have HZ:=hid h2;clear h1 h2)
 go_ret2
 exact HZ.out
end
end Go.Proofs.YtnlokpakiambaaaGreatDoor
