/- The walks and laws that the claim leans on, part 44. -/
import Derived.Test.YtfkjjoglnmeciaaGreatDoorJbq
set_option maxRecDepth 100000
set_option maxHeartbeats 16000000
namespace Go.Proofs.YtfkjjoglnmeciaaGreatDoor
open Go.Lib (hid)
section
open Go.ChangeShapes Go.WideShapes Go.ChangeAt Go.RowKit
theorem gPay : Tryz.prog.globalNamed "bedrock/sizeclass.payload" = some 0 := by kernel_rfl
theorem gPayType:(Tryz.prog.globals[0]?).map (·.type)=some 409:=by kernel_rfl
theorem cellsPay:Tryz.prog.cellsOf 409=5:=by kernel_rfl
theorem cellsI64:Tryz.prog.cellsOf 3=1:=by kernel_rfl
theorem payIs {W:World} (h:laidMetH Tryz.prog laidList W):Pay W:=by
 have h2 : laidMetH Tryz.prog [("bedrock/sizeclass.payload", Rows.laid_bedrock_sizeclass_payload)] W := laidMetH.filter (fun x => x.1 == "bedrock/sizeclass.payload") h
 have ht : Lib.TabIs Tryz.prog W "bedrock/sizeclass.payload" .i64 [3, 7, 15, 31, 60] :=
  Lib.tabIs_of_head (rest:=[]) gPay gPayType Tryz.underlying409 Tryz.underlying3 cellsI64 cellsPay h2
 intro i hi
 have hc:=ht.cell gPay i hi
 rw [hc]
 have:i=0∨i=1∨i=2∨i=3∨i=4:=by omega
 rcases this with rfl | rfl | rfl | rfl | rfl <;> rfl
theorem ints_of {H:Type} {enc:TypeId × Value→H} {W:World} {base:Nat} {sp:Nat→Bool} {held:Bool} {t e:TypeId} {k:IntKind} {a:Option Addr} {len cap:Nat} {d:DataW H} {p:List MemPlace}
  (ht:Tryz.prog.underlying t=some (.slice e)) (he:Tryz.prog.underlying e=some (.int k)) (hc:Tryz.prog.cellsOf e=1)
  (h:DataW.Trod enc Tryz.prog W base sp held t (.slice a len cap) d p) :
  ∃ zs:List Int,Reads W W.heap.size 1 a len (zs.map (Value.int k))∧len≤cap∧cap≤maxLen∧∀ n∈zs,(Lit.int k n).wf=true:=by
 obtain ⟨fuel,hf⟩:=h
 rcases open_ints ht he hc hf with ⟨hcs,_⟩ | ⟨x,l,c,zs,hcs,_,hl,hm,hz,hx,hcell,hwz⟩
 ·simp [Value.cells] at hcs
  obtain ⟨rfl,rfl,rfl⟩:=hcs
  exact ⟨[],⟨rfl,fun h=>absurd h (Nat.lt_irrefl 0)⟩,Nat.le_refl _,Nat.zero_le _,fun _ hn=>by cases hn⟩
 ·simp [Value.cells] at hcs
  obtain ⟨rfl,rfl,rfl⟩:=hcs
  have hz':len≤zs.length:=by rw [hz];split <;> omega
  refine ⟨zs.take len,⟨by rw [List.length_map,List.length_take];omega,fun hn=>⟨_,rfl,?_,fun j u hu=>?_⟩⟩,hl,hm,fun n hn=>hwz n (List.mem_of_mem_take hn)⟩
  ·have:=World.block_lt_of_cell? _ _ (hcell 0 (by omega))
   rw [block_of_add] at this
   exact this
  ·simp only [List.getElem?_map,Option.map_eq_some_iff] at hu
   obtain ⟨z,hzj,rfl⟩:=hu
   rw [List.getElem?_take] at hzj
   split at hzj
   ·obtain ⟨hj,rfl⟩:=List.getElem?_eq_some_iff.1 hzj
    rw [hcell j hj]
    simp [List.getD,hj]
   ·cases hzj
theorem bytes_of {H:Type} {enc:TypeId × Value→H} {W:World} {base:Nat} {sp:Nat→Bool} {held:Bool} {a:Option Addr} {len cap:Nat} {d:DataW H} {p:List MemPlace}
  (h:DataW.Trod enc Tryz.prog W base sp held 24 (.slice a len cap) d p):∃ l,InB W a len cap l:=by
 obtain ⟨zs,hr,hl,hm,hwz⟩:=ints_of Tryz.underlying24 Tryz.underlying5 (by kernel_rfl) h
 have hb:∀ z∈zs,0≤z∧z≤255:=fun z hz=>by
  have hw:=hwz z hz
  have hmn:IntKind.u8.min=0:=by decide
  have hmx:IntKind.u8.max=255:=by decide
  simp only [Lit.wf,hmn,hmx,Bool.and_eq_true,decide_eq_true_eq] at hw
  omega
 refine ⟨zs.map Int.toNat,?_,?_,hl,hm⟩
 ·intro b hbm
  obtain ⟨z,hz,rfl⟩:=List.mem_map.1 hbm
  have:=hb z hz
  omega
 ·have:u8s (zs.map Int.toNat)=zs.map (Value.int .u8):=by
   simp only [u8s,List.map_map]
   refine List.map_congr_left fun z hz=>?_
   have:=hb z hz
   simp only [Function.comp]
   rw [Int.toNat_of_nonneg this.1]
  rw [this]
  exact hr
end
section
open Go.RowKit Go.Maps
def RetBog (a:DA) (L T K b0:Nat) (cs:Nat→CS) (S:Fp) (cur:Nat→Nat) (w:World) (e:Ending) (w':World):Prop:=∃ x y,e = .returned (.pointer (some ⟨y.g,0,none⟩))∧BW a L T K x y cs (fun _=>none) 0 0 b0 S cur w'∧Below w.heap.size w w'
theorem bopenG_any (cs:Nat→CS) {a:DA} {L T K b0:Nat} {w:World} {S:Fp} {cur:Nat→Nat} (h:Dev a L T w S cur 0) (hdi:a.dirty=fun _=>False) (hL:L=53+32 * K) (hK:1≤K) (hK12:K≤12) (ht:Tab w) (hpy:Pay w) (hp:cur (8 * 0)=0∧cur (8 * 26)=0∧(∀ k,k < K→CSok cur (53+32 * k) (cs k))∧∀ i,cur i < 18446744073709551616) (hb0:1 < b0∧0 < b0∧b0≤w.heap.size∧∀ k,S k→b0≤k) :
  Calls Tryz.prog 102 #[.pointer (some ⟨a.d,0,none⟩), .int .i64 (K:Int)] w (RetBog a L T K b0 cs S cur w):=by
 have HD:=hid h
 have HT:=hid ht
 have HP:=hid hp
 have HPy:=hid hpy
 have HB0:=hid hb0
 have HLK:=hid (show L=53+32 * K∧1≤K∧K≤12 from ⟨hL,hK,hK12⟩)
 have HTh:=hid (thread_any h)
 have HDI:=hid hdi
 have HRo:=hid (redoOpen_any h 0 26 (by omega) (by omega))
 have hb1:Below w.heap.size w (w.alloc (.cells (logCells a 0 26) 353)):=(Below.refl _ _).alloc (Nat.le_refl _) _
 have HB1:=hid hb1
 have HBr:=hid (Blk.new w 353 (logCells a 0 26))
 have HRr:=hid (redoRecover_idle (h.below hb1) w.heap.size 0 26 HBr.out (by omega) hp.1)
 have hz32:((32 * K:Nat):Int)=32 * (K:Int):=by omega
 have hLs:26+26≤L:=by omega
 have hLh:53+32 * K≤L:=by omega
 have hKn:32≤32 * K:=by omega
 have hKd:32 * K / 32=K:=by omega
 have HAr:=hid (show 26+26≤L∧53+32 * K≤L∧32≤32 * K∧32 * K / 32=K from ⟨hLs,hLh,hKn,hKd⟩)
 clear h ht hp hb1 hpy hb0 hL hK hLs hLh hKn hKd hdi
 unfold memV at *
 go_enter Tryz.func102,Tryz.ntmps102
 go_wp2_with (first
  | (go_at_call 71;refine HTh.out.mono ?_;rintro e w1 ⟨rfl,rfl⟩)
  | (go_at_call 177;refine HRo.out.mono ?_;rintro e w1 ⟨rfl,rfl⟩)
  | fail)
 generalize (w.alloc (.cells (logCells a 0 26) 353))=W at *
 clear HRo HTh
 refine HRr.out.mono ?_
 rintro e W1 ⟨rfl,hb1⟩
 have HB2:=hid (HB1.out.trans (hb1.mono HB1.out.size))
 have HBr2:=hid (HBr.out.below hb1 HBr.out.lt)
 have HUo:=hid (undoOpen_any (HD.out.below HB2.out) 26 26 (by omega) HAr.out.1)
 clear HRr hb1 HBr HB1
 unfold memV at HUo
 go_wp2_with fail
 refine HUo.out.mono ?_
 rintro e W2 ⟨rfl,rfl⟩
 have HB3:=hid (HB2.out.alloc HB2.out.size (.cells (ulogCells a 26 26) 330))
 have HBr3:=hid (HBr2.out.alloc (.cells (ulogCells a 26 26) 330))
 have HBu3:=hid (Blk.new W1 330 (ulogCells a 26 26))
 have HUr:=hid (undoRecover_none (HD.out.below HB3.out) W1.heap.size 26 26 HBu3.out (by have:=HAr.out.1;omega) (by omega) (by omega) HP.out.2.1)
 have HL3:=hid (Nat.le_trans HB2.out.size (Nat.le_refl W1.heap.size))
 obtain ⟨u,hu⟩:∃ u,W1.heap.size=u:=⟨_,rfl⟩
 rw [hu] at HBu3 HUr HL3 ⊢
 generalize W1.alloc (.cells (ulogCells a 26 26) 330)=W3 at *
 clear HUo HB2 HBr2 hu
 go_wp2_with fail
 refine HUr.out.mono ?_
 rintro e W4 ⟨rfl,hb1⟩
 have HB4:=hid (HB3.out.trans (hb1.mono HB3.out.size))
 have HBr4:=hid (HBr3.out.below hb1 HBr3.out.lt)
 have HBu4:=hid (HBu3.out.below hb1 HBu3.out.lt)
 have HHo:=hid (heapOpenG_any cs (HD.out.below HB4.out) (HT.out.below HB4.out) (HPy.out.below HB4.out) 53 (32 * K) K HAr.out.2.2.1 HAr.out.2.1 HAr.out.2.2.2 HP.out.2.2.1)
 rw [hz32] at HHo
 clear HUr hb1 HBr3 HBu3 HB3
 unfold memV at HHo
 have hK12':K≤12:=hK12
 go_wp2_with fail
 refine HHo.out.mono ?_
 rintro e W5 ⟨x,rfl,hhs,hlow,hb1⟩
 have HB5:=hid (HB4.out.trans (hb1.mono HB4.out.size))
 have HBr5:=hid (HBr4.out.below hb1 HBr4.out.lt)
 have HBu5:=hid (HBu4.out.below hb1 HBu4.out.lt)
 have HHs5:=hid hhs
 have HLow:=hid (show w.heap.size≤x.h∧w.heap.size≤x.gs∧w.heap.size≤x.pl∧w.heap.size≤x.mr∧w.heap.size≤x.mh by obtain ⟨l1,l2,l3,l4,l5⟩:=hlow;have:=HB4.out.size;exact ⟨by omega,by omega,by omega,by omega,by omega⟩)
 clear HHo hb1 HBr4 HBu4 HB4 hhs hlow
 obtain ⟨W6,hW6⟩:∃ W6,W5.alloc (.cells (dirCells a x.h w.heap.size) 240)=W6:=⟨_,rfl⟩
 obtain ⟨W7,hW7⟩:∃ W7,W6.alloc (.cells (mgrCells (some ⟨a.th 0,0,none⟩) (some ⟨w.heap.size,0,none⟩) (some ⟨u,0,none⟩) (some ⟨x.h,0,none⟩) none) 200)=W7:=⟨_,rfl⟩
 have HND:Hid (Calls Tryz.prog 200 #[.pointer (some ⟨x.h,0,none⟩), .pointer (some ⟨a.th 0,0,none⟩), .pointer (some ⟨w.heap.size,0,none⟩)] W5 fun e w'=>e = .returned (.pointer (some ⟨W5.heap.size,0,none⟩))∧W6=w'):=hid ((newDirect_any x.h (a.th 0) w.heap.size W5).mono (fun e w' h=>⟨h.1,by rw [← hW6];exact h.2.symm⟩))
 have HTN:Hid (Calls Tryz.prog 182 #[.pointer (some ⟨a.th 0,0,none⟩), .pointer (some ⟨w.heap.size,0,none⟩), .pointer (some ⟨u,0,none⟩), .pointer (some ⟨x.h,0,none⟩)] W6 fun e w'=>e = .returned (.pointer (some ⟨W6.heap.size,0,none⟩))∧W7=w'):=hid ((txNew_any (some ⟨a.th 0,0,none⟩) (some ⟨w.heap.size,0,none⟩) (some ⟨u,0,none⟩) (some ⟨x.h,0,none⟩) W6).mono (fun e w' h=>⟨h.1,by rw [← hW7];exact h.2.symm⟩))
 have hb6:Below W5.heap.size W5 W6:=by rw [← hW6];exact (Below.refl _ _).alloc (Nat.le_refl _) _
 have hb7:Below W6.heap.size W6 W7:=by rw [← hW7];exact (Below.refl _ _).alloc (Nat.le_refl _) _
 have hs6:W6.heap.size=W5.heap.size+1:=by rw [← hW6];simp
 have hd6:Blk W6 W5.heap.size 240 (dirCells a x.h w.heap.size):=by rw [← hW6];exact Blk.new _ _ _
 have hm7:Blk W7 W6.heap.size 200 (mgrCells (some ⟨a.th 0,0,none⟩) (some ⟨w.heap.size,0,none⟩) (some ⟨u,0,none⟩) (some ⟨x.h,0,none⟩) none):=by rw [← hW7];exact Blk.new _ _ _
 have HB57:Hid (Below W5.heap.size W5 W7):=hid (hb6.trans (hb7.mono (by omega)))
 have HB7:=hid (HB5.out.trans (HB57.out.mono HB5.out.size))
 have HD7:=hid (hd6.below hb7 hd6.lt)
 have HM7:=hid hm7
 have HSz:=hid (show W6.heap.size=W5.heap.size+1∧w.heap.size≤W5.heap.size from ⟨hs6,HB5.out.size⟩)
 clear hW6 hW7 hb6 hb7 hs6 hd6 hm7
 go_upto_region 20 with (first
  | (go_at_call 200;refine HND.out.mono ?_;rintro e Wz ⟨rfl,rfl⟩)
  | (go_at_call 182;refine HTN.out.mono ?_;rintro e Wz ⟨rfl,rfl⟩))
 have HBg:=hid (Blk.new W7 61 (bwCells a x ⟨W7.heap.size,W5.heap.size,w.heap.size,u,W6.heap.size⟩ K))
 have HBb:Hid (Below W7.heap.size W7 (W7.alloc (.cells (bwCells a x ⟨W7.heap.size,W5.heap.size,w.heap.size,u,W6.heap.size⟩ K) 61))):=hid ((Below.refl _ _).alloc (Nat.le_refl _) _)
 unfold bwCells at HBb HBg
 generalize hW8:W7.alloc (.cells #[.pointer (some ⟨a.d,0,none⟩), .pointer (some ⟨a.th 0,0,none⟩), .pointer (some ⟨x.h,0,none⟩), .pointer (some ⟨W5.heap.size,0,none⟩), .pointer (some ⟨W6.heap.size,0,none⟩), .int .i64 (K:Int)] 61)=W8 at *
 have f3:W8.cell? ⟨W7.heap.size,3,none⟩=some (.pointer (some ⟨W5.heap.size,0,none⟩)):=HBg.out.cell 3
 have f4:W8.cell? ⟨W7.heap.size,4,none⟩=some (.pointer (some ⟨W6.heap.size,0,none⟩)):=HBg.out.cell 4
 have HF:Hid (RetBog a L T K b0 cs S cur w (.returned (.pointer (some ⟨W7.heap.size,0,none⟩))) W8):=hid (by
  have h58:Below W5.heap.size W5 W8:=HB57.out.trans (HBb.out.mono HB57.out.size)
  have h8:Below w.heap.size w W8:=HB5.out.trans (h58.mono HB5.out.size)
  obtain ⟨l1,l2,l3,l4,l5⟩:=HLow.out
  obtain ⟨b1,b2,b3,b4⟩:=HB0.out
  obtain ⟨k1,k2,k3⟩:=HLK.out
  obtain ⟨s1,s2⟩:=HSz.out
  have s7:W6.heap.size≤W7.heap.size:=by have:=HM7.out.lt;omega
  have hS:∀ g,w.heap.size≤g→¬ S g:=fun g hg hs=>by have:=HD.out.lt _ hs;omega
  have hu:=HL3.out
  refine ⟨x,⟨W7.heap.size,W5.heap.size,w.heap.size,u,W6.heap.size⟩,rfl,⟨⟨⟨HD.out.below h8,HHs5.out.below h58,HP.out.2.2.1,HP.out.2.2.2,fun o p h=>(by cases h),HT.out.below h8,HPy.out.below h8,⟨b1,b2,by omega,by omega,by omega,by omega,by omega,b4⟩,⟨hS _ l1,hS _ l2,hS _ l3,hS _ l4,hS _ l5⟩,⟨HAr.out.2.2.2,k2,HAr.out.2.1,by omega⟩⟩,HD7.out.below HBb.out HD7.out.lt,HBr5.out.below h58 HBr5.out.lt,HP.out.1,hS _ s2,hS _ (Nat.le_refl _),by omega⟩,HBg.out,HBu5.out.below h58 HBu5.out.lt,HM7.out.below HBb.out HM7.out.lt,HP.out.2.1,⟨hS _ (by show w.heap.size≤W7.heap.size;omega),hS _ hu,hS _ (by show w.heap.size≤W6.heap.size;omega)⟩,⟨by show b0≤W7.heap.size;omega,by show b0≤W5.heap.size;omega,b3,by show b0≤u;omega,by show b0≤W6.heap.size;omega⟩,k1,k3,HDI.out⟩,h8⟩)
 clear HB5 HBr5 HBu5 HHs5 HLow HB57 HB7 HD7 HM7 HSz HBb hW8
 go_wp2_with fail
 go_ret
 exact HF.out
end
section
open Go.RowKit Go.Maps
def RetWcr (K b0:Nat) (cs:Nat→CS) (cur:Nat→Nat) (w:World) (e:Ending) (w':World):Prop:=∃ a S x y,e = .returned (.pointer (some ⟨y.g,0,none⟩))∧BW a (53+32 * K) 0 K x y cs (fun _=>none) 0 0 b0 S cur w'∧Below w.heap.size w w'
theorem worldCrash_any {a:DA} {L T K:Nat} {x:HA} {y:WA} {cs:Nat→CS} {f:Nat→Option Nat} {N m b0:Nat} {S:Fp} {cur:Nat→Nat} {w:World} (h:BW a L T K x y cs f N m b0 S cur w) (b1:Nat) (hb1:b0≤b1∧b1≤w.heap.size) (A:Option Addr) (n c:Nat) :
  Calls Tryz.prog 29 #[.pointer (some ⟨y.g,0,none⟩), .slice A n c, .int .i64 (-1)] w (RetWcr K b1 cs cur w):=by
 have hLs:=h.size
 have hst:=still_of h.sd.ds.dev (fun k=>by rw [h.rest];exact id)
 have HC:=hid (crashD_still (fun _=>False) hst h.sd.ds.bnd (by omega) A n c)
 obtain ⟨hn1,hn2,_,_⟩:=h.sd.ds.hK
 have hfew:=h.few
 have hlo:=h.sd.ds.lo
 have HO:Hid (∀ (a':DA) (S':Fp) (W:World),a'.dirty=(fun _=>False)→Dev a' L 0 W S' cur 0→(∀ k,S' k→w.heap.size≤k)→Below w.heap.size w W→Calls Tryz.prog 102 #[.pointer (some ⟨a'.d,0,none⟩), .int .i64 (K:Int)] W (RetWcr K b1 cs cur w)):=hid (fun a' S' W hd' hdev hS hW=>by
  refine (bopenG_any (b0:=b1) cs hdev hd' hLs hn2 hfew (h.sd.ds.tab.below hW) (h.sd.ds.pay.below hW) ⟨h.sd.idle,h.uid,h.sd.ds.ok,h.sd.ds.bnd⟩ ⟨by omega,by omega,Nat.le_trans hb1.2 hW.size,fun k hk=>Nat.le_trans hb1.2 (hS k hk)⟩).mono ?_
  rintro e w' ⟨x',y',rfl,hbw,hb'⟩
  rw [hLs] at hbw
  exact ⟨a',S',x',y',rfl,hbw,hW.trans (hb'.mono hW.size)⟩)
 have f0:w.cell? ⟨y.g,0,none⟩=some (.pointer (some ⟨a.d,0,none⟩)):=h.blk.cell 0
 have HK:Hid (∀ W,Below w.heap.size w W→W.cell? ⟨y.g,5,none⟩=some (.int .i64 (K:Int))):=hid (fun W hW=>(h.blk.below hW h.blk.lt).cell 5)
 clear h hst hlo
 go_enter Tryz.func29,Tryz.ntmps29
 go_wp2_with (first
  | (go_at_call 16;refine HC.out.mono ?_;rintro e w1 ⟨a',S',rfl,hd',hdev,hS,hb⟩;have HO1:=hid (HO.out a' S' _ hd' hdev hS hb);have f5:=HK.out _ hb;clear hd' hdev hS hb)
  | (go_at_call 102;refine HO1.out.mono ?_;rintro e w2 ⟨a2,S2,x2,y2,rfl,h2,h3⟩;have H2:=hid h2;have H3:=hid h3;clear h2 h3)
  | fail)
 go_ret
 exact ⟨a2,S2,x2,y2,rfl,H2.out,H3.out⟩
end
section
open Go.RowKit Go.Maps
def RetLi (w:World) (l:List (List Nat × Nat)) (e:Ending) (w':World):Prop:=∃ A m c l',e = .returned (.slice A m c)∧SortNm l l'∧w'.ownsRow w.heap.size 254 2 (.slice A m c) m (itCells l')∧Below w.heap.size w w'
theorem infoNamed:(Tryz.prog.info? 254).map (fun i=>(i.zero,i.size,i.bytes))=some (some (.agg #[.string ⟨#[]⟩, .int .u64 0]),2,24):=by kernel_rfl
section
variable {R:Option (Nat × List (List Nat × Nat)) × Nat} {rv sv:Value} {w:World}
theorem list_some (hs:SrtNm) (h:RdC rv sv w R) (hok:RgOk R) (st:Nat) (l:List (List Nat × Nat)) (hR:R.1=some (st,l)):Calls Tryz.prog 147 #[rv,sv] w (RetLi w l):=by
 have H:=hid h
 clear h
 have hl8:l.length≤8:=(hok.some_ _ hR).2.1
 obtain ⟨R1,c⟩:=R
 have hn':R1=some (st,l):=hR
 subst hn'
 have H2:Hid (Calls Tryz.prog 260 #[rv,sv] w fun e w'=>(∃ A m c,e = .returned (.tuple #[.int .u64 (st:Int), .slice A m c, .int .i64 0])∧m=l.length∧w'.ownsRow w.heap.size 368 2 (.slice A m c) m (itCells l))∧Below w.heap.size w w'):=H
 have HS:Hid SrtNm:=hid hs
 have HL8:=hid hl8
 obtain ⟨i0,hi0,hz0,hz1,hz2⟩:=info_parts infoNamed
 clear H hok hR hl8 hs
 go_enter Tryz.func147,Tryz.ntmps147
 go_upto_region 4 with (go_at_call 260;refine H2.out.mono ?_;rintro e w1 ⟨⟨A1,m1,c1,rfl,hm1,ho1⟩,hb1⟩;have HB1:=hid hb1;have HM1:=hid hm1;have HO1:=hid ho1;clear hb1 hm1 ho1)
 have HO0:Hid (w1.ownsRow w1.heap.size 254 2 (.slice none 0 0) 0 (itCells (l.take 0))):=World.ownsRow_nil _ _ _ _
 have HB0:Hid (Below w1.heap.size w1 w1):=hid (Below.refl _ _)
 go_loopw [8,20] (fun v i wr=>∃ (k:Nat) (A:Option Addr) (c:Nat),k≤m1∧i = .int .i64 (k:Int)∧v = .slice A k c∧Hid (wr.ownsRow w1.heap.size 254 2 (.slice A k c) k (itCells (l.take k)))∧Hid (Below w1.heap.size w1 wr)) (fun _ i _=>m1 - (Go.RowKit.intOf i).toNat)
 case atStart=>exact ⟨0,_,_,Nat.zero_le _,rfl,rfl,HO0,HB0⟩
 case round =>
  clear HO0 HB0
  obtain ⟨k,A2,c2,hk,rfl,rfl,HO,HB⟩:=hrel
  by_cases hlt:k < m1
  ·have hm8:m1≤8:=by rw [HM1.out];exact HL8.out
   obtain ⟨hkl,gb,go,hA3,_,f0,f1⟩:=it_facts ((Reads.of_own HO1.out).below HB.out) (k:=k) hlt
   subst hA3
   have hz5:(0:Int)≤(k:Int):=by omega
   have hz6:(k:Int) < (m1:Int):=by omega
   have hk8:k≤8:=by omega
   have HTS:Hid (itCells (l.take (k+1))=itCells (l.take k)++[.string (strN l[k].1), .int .u64 (l[k].2:Int)]):=hid (by rw [List.take_succ_eq_append_getElem hkl,itCells_snoc])
   generalize l[k]=p at *
   obtain ⟨W2,hW2⟩:∃ W2,wr.alloc (.cells #[.string (strN p.1), .int .u64 (p.2:Int)] 368)=W2:=⟨_,rfl⟩
   have hk2:Blk W2 wr.heap.size 368 #[.string (strN p.1), .int .u64 (p.2:Int)]:=by rw [← hW2];exact Blk.new _ _ _
   have HO2:Hid (W2.ownsRow w1.heap.size 254 2 (.slice A2 k c2) k (itCells (l.take k))):=hid (by rw [← hW2];exact HO.out.alloc _)
   have HB2:Hid (Below w1.heap.size w1 W2):=hid (by rw [← hW2];exact HB.out.alloc HB.out.size _)
   have HW2:=hid hW2
   have g0:W2.cell? ⟨wr.heap.size,0,none⟩=some (.string (strN p.1)):=hk2.cell 0
   have g1:W2.cell? ⟨wr.heap.size,1,none⟩=some (.int .u64 (p.2:Int)):=hk2.cell 1
   clear hW2 hk2
   go_upto_region 6 with fail
   rw [HW2.out]
   have HLE:=hid HB2.out.size
   go_wp2_with (at_builtin;refine stop ?_)
   unfold Stop
   have HR1:=hid (row_reads_at W2 _ rfl [.string (strN p.1), .int .u64 (p.2:Int)] 1 2 254 _ rfl rfl)
   refine wpList_app _ (.tmp 24) (.tmp 30) 251 rfl rfl w1.heap.size 254 i0 _ 2 24 Tryz.underlying251 hi0 hz0 hz1 hz2 rfl (by omega) (.slice A2 k c2) k (itCells (l.take k)) rfl (HO2.out.alloc _) (W2.heap.size+1) (some ⟨W2.heap.size,0,none⟩) 1 1 [.string (strN p.1), .int .u64 (p.2:Int)] rfl HR1.out (fun u hu=>by simp at hu;rcases hu with rfl | rfl <;> rfl) (by unfold maxLen;omega) (by omega) (by have:=HLE.out;simp;omega) ?_
   intro A3 n3 c3 w8 hn3 ho3 hg3 hb3
   obtain rfl:n3=k+1:=hn3
   have HO4:Hid (w8.ownsRow w1.heap.size 254 2 (.slice A3 (k+1) c3) (k+1) (itCells (l.take (k+1)))):=hid (by rw [HTS.out];exact ho3)
   have HB4:=hid ((HB2.out.alloc HB2.out.size _).trans hb3)
   clear ho3 hg3 hb3 g0 g1
   go_wp2_with fail
   go_roundw
   case rel =>
    first
     | exact ⟨k+1,_,_,by omega,by go_num,rfl,HO4,HB4⟩
     | (
       repeat apply Exists.intro
       refine ⟨?_,rfl⟩
       exact ⟨k+1,_,_,by omega,by go_num,rfl,HO4,HB4⟩)
   case measure=>simp [Go.RowKit.intOf];omega
  ·obtain rfl:k=m1:=by omega
   have ho:=HO.out
   rw [List.take_of_length_le (by rw [HM1.out];exact Nat.le_refl _)] at ho
   have HSc:=hid (HS.out ho (by rw [HM1.out];have:=HL8.out;omega))
   clear ho
   go_wp2_with (go_at_call 264;refine HSc.out.mono ?_;rintro e w2 ⟨rfl,l',hs2,ho2,hb2⟩;have HS2:=hid hs2;have HO2:=hid (own_le ho2 HB1.out.size);have HB2:=hid (HB1.out.trans ((HB.out.trans hb2).mono HB1.out.size));clear hs2 ho2 hb2)
   go_ret
   exact ⟨_,_,_,l',rfl,HS2.out,HO2.out,HB2.out⟩
end
end
section
open Go.RowKit Go.Maps
section
variable {a:DA} {L T s n K:Nat} {x:HA} {cs:Nat→CS} {f:Nat→Option Nat} {N m b0:Nat} {S:Fp} {cur:Nat→Nat} {w:World} {d r:Nat}
def RetCrs (a:DA) (L T s n K:Nat) (x:HA) (cs:Nat→CS) (f:Nat→Option Nat) (N m b0:Nat) (S:Fp) (cur:Nat→Nat) (w:World) (d r:Nat) (e:Ending) (w':World):Prop :=
 ∃ k i S' cs' cur' g,e = .returned (.tuple #[.int .u64 (fptr s cs' 8 k i:Int), .slice (some ⟨g,0,none⟩) 1 1, .int .i64 0])∧ResOk s K cs f cur (clsOf 34) cs' cur' k i∧SD a L (T+400) s n K x cs' (updF f (offO s cs' k i) (some (fptr s cs' 8 k i))) (N+1) (m+1) b0 S' cur' w' d r∧Blk w' g 54 #[.int .u64 (fptr s cs' 8 k i:Int)]∧¬ sfp S' x g∧Chg (sfp S x) w w'∧Grew S S' w
theorem snCreate_any (h:SD a L T 53 n K x cs f N m b0 S cur w d r) (hN:N < 1000000000) (hT:T+400≤1000000000)
  (hcap:(∃ k i,Vac 53 K cs f (clsOf 34) k i)∨∃ k,k < K∧(cs k).dv=false) :
  Calls Tryz.prog 149 #[.iface 59 (.pointer (some ⟨d,0,none⟩))] w (RetCrs a L T 53 n K x cs f N m b0 S cur w d r):=by
 have HE0:=hid (errD h.ds.dev h.dir)
 have HAl:Hid (∀ W,Below w.heap.size w W→Calls Tryz.prog 429 #[.pointer (some ⟨d,0,none⟩), .int .i64 34, .int .u8 8] W (RetAl a L T 53 n K x cs f N m b0 S cur W d r (clsOf 34) 8)):=hid (fun W hW=>allocD (h.below hW) 34 8 (by omega) (by omega) (by omega) (by omega) hN hT hcap)
 have hmE:=methDErr (some ⟨d,0,none⟩)
 have hmA:=methDAlloc (some ⟨d,0,none⟩)
 have hna:=aheadDAlloc ⟨d,0,none⟩
 have hmf:∀ (fn:Fn) (first cap:Array Value) (w:World),(Instr.makeFunc fn first cap).run Tryz.prog w = .ok (.func fn first cap) w:=fun _ _ _ _=>rfl
 have hnil:∀ W,(binOp .eql 83 (.iface 59 (.pointer (some ⟨d,0,none⟩))) .nilIface).run Tryz.prog W = .ok (.bool false) W:=fun W=>by rfl
 have e34:IntKind.i64.wrap 34=34:=by rfl
 clear h hcap
 go_enter Tryz.func149,Tryz.ntmps149
 go_upto_region 6 with (go_at_call 432;refine HE0.out.mono ?_;rintro e w1 ⟨rfl,rfl⟩)
 refine wp_region_scriptH (fun _=>True) 13 [] [(1,0),(1,4),(1,5),(1,6),(0,1),(0,2),(1,3),(0,7),(1,8),(1,9),(1,10),(1,11),(1,12)] (by kernel_rfl) (by kernel_rfl) trivial ?_
 refine wpScriptH_take (.iface 59 (.pointer (some ⟨d,0,none⟩))) (by rfl) (by rfl) (fun w' hS=>?_) ?_
 ·go_simp
 simp only [zA,zB,Act.put,zD,zE,zF]
 refine wpScriptH_take (.func (.method "Alloc") #[.iface 59 (.pointer (some ⟨d, 0, none⟩))] #[]) (by rfl) (by rfl) (fun w' hS => ?_) ?_
 ·go_simp
 simp only [zA,zB,zC,Act.put,zD,zE,zF]
 refine wpScriptH_take (.func (.method "Alloc") #[.iface 59 (.pointer (some ⟨d, 0, none⟩))] #[]) (by rfl) (by rfl) (fun w' hS => ?_) ?_
 ·go_simp
 simp only [zA,zB,zC,Act.put,zD,zE,zF]
 refine wpScriptH_take (.iface 59 (.pointer (some ⟨d,0,none⟩))) (by rfl) (by rfl) (fun w' hS=>?_) ?_
 ·go_simp
 simp only [zA,zB,zC,Act.put,zD,zE,zF]
 refine wpScriptH_do (by rfl) ?_
 go_wp2_with (go_at_call 267;refine (codec_any _).mono ?_;rintro e w2 ⟨rfl,hb2⟩;have HB2:=hid ((Below.refl w.heap.size w).drew.trans hb2);clear hb2)
 refine ⟨trivial,?_⟩
 refine wpScriptH_do (by rfl) ?_
 go_wp2_with (go_at_call 268;refine (arWords_any _).mono ?_;rintro e w3 ⟨rfl,hb3⟩;have HB3:=hid (HB2.out.trans (hb3.mono HB2.out.size));clear hb3)
 refine ⟨trivial,?_⟩
 refine wpScriptH_take (.int .i64 34) (by rfl) (by rfl) (fun w' hS=>?_) ?_
 ·go_simp
 simp only [zA,zB,zC,Act.put,zD,zE,zF]
 refine wpScriptH_do (by rfl) ?_
 go_wp2_with (go_at_call 429;refine (HAl.out _ HB3.out).mono ?_;rintro e w4 ⟨k,i,S4,cs4,cur4,rfl,hro,hsd4,hch4,hgr4⟩;refine stop ?_)
 unfold Stop
 have HR4:=hid (And.intro hro (And.intro hsd4 (And.intro ((Chg.of_below HB3.out).trans hch4 (fun j hj => .inl hj)) (fun k hk=>(hgr4 k hk).imp id (fun h=>Nat.le_trans HB3.out.size h)))))
 obtain ⟨q,hq⟩:∃ q,fptr 53 cs4 8 k i=q:=⟨_,rfl⟩
 have HQ:=hid hq
 rw [hq]
 clear hro hsd4 hch4 hgr4 hq
 go_wp2_with fail
 refine ⟨trivial,?_⟩
 refine wpScriptH_take (.tuple #[.int .u64 (q:Int), .int .i64 0]) (by rfl) (by rfl) (fun w' hS=>?_) ?_
 ·go_simp
 simp only [zA,zB,zC,Act.put,zD,zE,zF]
 refine wpScriptH_take (.int .u64 (q:Int)) (by rfl) (by rfl) (fun w' hS=>?_) ?_
 ·go_simp
 simp only [zA,zB,zC,Act.put,zD,zE,zF]
 refine wpScriptH_take (.int .i64 0) (by rfl) (by rfl) (fun w' hS=>?_) ?_
 ·go_simp
 simp only [zA,zB,zC,Act.put,zD,zE,zF]
 refine wpScriptH_take (.int .u64 (q:Int)) (by rfl) (by rfl) (fun w' hS=>?_) ?_
 ·go_simp
 simp only [zA,zB,zC,Act.put,zD,zE,zF]
 refine wpScriptH_take (.int .i64 0) (by rfl) (by rfl) (fun w' hS=>?_) ?_
 ·go_simp
 simp only [zA,zB,zC,Act.put,zD,zE,zF]
 show wpList _ _ _ _ _ _
 simp only [List.drop_succ_cons,List.drop_zero]
 refine NoPanic.normal ?_
 go_wp2_with fail
 go_ret3
 obtain ⟨h1,h2,h3,h4⟩:=HR4.out
 have hb:Below w4.heap.size w4 (w4.alloc (.cells #[.int .u64 (q:Int)] 54)):=(Below.refl _ _).alloc (Nat.le_refl _) _
 refine ⟨k,i,S4,cs4,cur4,w4.heap.size,?_,h1,h2.below hb,?_,sfp_new h2,h3.trans (Chg.of_below hb) (fun j hj => .inl hj),h4⟩
 ·rw [HQ.out]
  rfl
 ·rw [HQ.out]
  exact Blk.new _ _ _
end
end
section
open Go.RowKit Go.Maps
structure RV where
 v:VV
 B:Option Addr
 nb:Nat
 cb:Nat
 D:Option Addr
 nd:Nat
 cd:Nat
end
section
open Go.RowKit Go.Maps
def bytesN (s:ByteArray):List Nat:=s.data.toList.map UInt8.toNat
theorem strN_bytesN (s:ByteArray):strN (bytesN s)=s:=by
 unfold strN bytesN
 rw [List.map_map]
 have e:(UInt8.ofNat ∘ UInt8.toNat)=id:=by
  funext c
  simp
 rw [e,List.map_id]
theorem bytesN_lt (s:ByteArray):∀ b∈bytesN s,b < 256:=fun b hb=>by
 obtain ⟨c,_,rfl⟩:=List.mem_map.1 hb
 exact c.toNat_lt
theorem bytesN_len (s:ByteArray):(bytesN s).length=s.size:=by
 unfold bytesN
 rw [List.length_map]
 rfl
def tkR (s:ByteArray) (R:Option (Nat × List (List Nat × Nat)) × Nat):(Nat × Nat) × List (List Nat × Nat):=if nmOk s=false then ((0,15),[]) else match R.1 with
 | some q=>if 0≤fndS s 0 q.2 then ((0,6),[]) else if q.2.length=8 then ((0,4),[]) else ((q.1,0),q.2++[(bytesN s,q.1)])
 | none=>((0,R.2),[])
section
variable {R:Option (Nat × List (List Nat × Nat)) × Nat} {w:World} {g d:Nat}
theorem take_err (h:RdC (.pointer (some ⟨g,0,none⟩)) (.iface 59 (.pointer (some ⟨d,0,none⟩))) w R) (hok:RgOk R) (s:ByteArray) (hs:s.size≤9223372036854775807) (he:(tkR s R).1.2≠0):Calls Tryz.prog 146 #[.pointer (some ⟨g,0,none⟩), .iface 59 (.pointer (some ⟨d,0,none⟩)), .string s] w fun e w'=>e = .returned (.tuple #[.int .u64 0, .int .i64 ((tkR s R).1.2:Int)])∧Below w.heap.size w w':=by
 have H:=hid h
 have hnil:∀ W,(binOp .eql 83 (.iface 59 (.pointer (some ⟨d,0,none⟩))) .nilIface).run Tryz.prog W = .ok (.bool false) W:=fun W=>by rfl
 have HV:=hid (fun W=>valid_any s hs W)
 clear h
 cases hn:nmOk s with
 | false =>
  have HY:Hid (tkR s R=((0,15),[])):=hid (by unfold tkR;rw [if_pos hn])
  rw [hn] at HV
  clear hn H hok he
  go_enter Tryz.func146,Tryz.ntmps146
  go_wp2_with (go_at_call 261;refine (HV.out _).mono ?_;rintro e w1 ⟨rfl,rfl⟩)
  go_ret2
  rw [HY.out]
  exact ⟨rfl,Below.refl _ _⟩
 | true =>
  rw [hn] at HV
  obtain ⟨R1,c⟩:=R
  rcases R1 with _ | ⟨st,l⟩
  ·have H2:Hid (Calls Tryz.prog 260 #[.pointer (some ⟨g,0,none⟩), .iface 59 (.pointer (some ⟨d,0,none⟩))] w fun e w'=>e = .returned (.tuple #[.int .u64 0, .slice none 0 0, .int .i64 (c:Int)])∧Below w.heap.size w w'):=H
   have HY:Hid (tkR s (none,c)=((0,c),[])):=hid (by unfold tkR;rw [if_neg (by rw [hn];decide)])
   have hc:c≠0:=hok.none_ rfl
   have d0:((c:Int) != 0)=true:=by rw [bne,beq_eq_false_iff_ne.2 (by omega)];rfl
   clear hn H hok he hc
   go_enter Tryz.func146,Tryz.ntmps146
   go_wp2_with (first
    | (go_at_call 261;refine (HV.out _).mono ?_;rintro e w1 ⟨rfl,rfl⟩)
    | (go_at_call 260;refine H2.out.mono ?_;rintro e w1 ⟨rfl,hb1⟩;have HB1:=hid hb1;clear hb1))
   go_ret2
   rw [HY.out]
   exact ⟨rfl,HB1.out⟩
  ·have H2:Hid (Calls Tryz.prog 260 #[.pointer (some ⟨g,0,none⟩), .iface 59 (.pointer (some ⟨d,0,none⟩))] w fun e w'=>(∃ A m c,e = .returned (.tuple #[.int .u64 (st:Int), .slice A m c, .int .i64 0])∧m=l.length∧w'.ownsRow w.heap.size 368 2 (.slice A m c) m (itCells l))∧Below w.heap.size w w'):=H
   have HL8:Hid (l.length≤8):=hid (hok.some_ (st,l) rfl).2.1
   have HY:Hid (tkR s (some (st,l),c)=if 0≤fndS s 0 l then ((0,6),[]) else if l.length=8 then ((0,4),[]) else ((st,0),l++[(bytesN s,st)])):=hid (by unfold tkR;rw [if_neg (by rw [hn];decide)])
   have HE:=hid he
   generalize tkR s (some (st,l),c)=Y at *
   have HFn:=hid (fun (A:Option Addr) (n c':Nat) (W:World) (hr:Reads W W.heap.size 2 A n (itCells l)) (hn:n≤100000)=>findS_any A n c' l s W hr hn)
   generalize fndS s 0 l=fi at *
   clear hn H hok he
   go_enter Tryz.func146,Tryz.ntmps146
   by_cases hf:0≤fi
   ·have HY2:Hid (Y=((0,6),[])):=hid (by rw [HY.out,if_pos hf])
    clear HY
    go_wp2_with (first
     | (go_at_call 261;refine (HV.out _).mono ?_;rintro e w1 ⟨rfl,rfl⟩)
     | (go_at_call 260;refine H2.out.mono ?_;rintro e w1 ⟨⟨A1,m1,c1,rfl,hm1,ho1⟩,hb1⟩;have HB1:=hid hb1;have HM1:=hid hm1;have HO1:=hid ho1;clear hb1 hm1 ho1)
     | (go_at_call 262;refine (HFn.out A1 m1 c1 w1 (Reads.of_own HO1.out) (by rw [HM1.out];have:=HL8.out;omega)).mono ?_;rintro e w2 ⟨rfl,hb2⟩;have HB2:=hid (HB1.out.trans (hb2.mono HB1.out.size));clear hb2))
    go_ret2
    rw [HY2.out]
    exact ⟨rfl,HB2.out⟩
   ·have h8:l.length=8:=by
     have h1:=HE.out
     rw [HY.out,if_neg hf] at h1
     by_cases h2:l.length=8
     ·exact h2
     ·rw [if_neg h2] at h1
      exact absurd rfl h1
    have HY2:Hid (Y=((0,4),[])):=hid (by rw [HY.out,if_neg hf,if_pos h8])
    have hf2:fi < 0:=by omega
    rw [h8] at H2
    clear HY h8 hf
    go_wp2_with (first
     | (go_at_call 261;refine (HV.out _).mono ?_;rintro e w1 ⟨rfl,rfl⟩)
     | (go_at_call 260;refine H2.out.mono ?_;rintro e w1 ⟨⟨A1,m1,c1,rfl,rfl,ho1⟩,hb1⟩;have HB1:=hid hb1;have HO1:=hid ho1;clear hb1 ho1)
     | (go_at_call 262;refine (HFn.out A1 8 c1 w1 (Reads.of_own HO1.out) (by decide)).mono ?_;rintro e w2 ⟨rfl,hb2⟩;have HB2:=hid (HB1.out.trans (hb2.mono HB1.out.size));clear hb2))
    go_ret2
    rw [HY2.out]
    exact ⟨rfl,HB2.out⟩
end
section
variable {a:DA} {L T s n K:Nat} {x:HA} {cs:Nat→CS} {f:Nat→Option Nat} {N m b0:Nat} {S:Fp} {cur:Nat→Nat} {w w':World} {d r:Nat}
def RetPwN (a:DA) (L T s n K:Nat) (x:HA) (cs:Nat→CS) (f:Nat→Option Nat) (N m b0:Nat) (S:Fp) (cur:Nat→Nat) (w:World) (d r:Nat) (us:List (Nat × Nat)) (st:Nat) (e:Ending) (w':World):Prop :=
 ∃ cm S',e = .returned (.tuple #[.int .u64 (st:Int), .int .i64 0])∧cm < 18446744073709551616∧SD a L (T+800) s n K x cs f N m b0 S' (rdG 0 cur us cm) w' d r∧Chg (sfp S x) w w'∧Grew S S' w
theorem nmOk_size {s:ByteArray} (h:nmOk s=true):s.size≤16:=by
 unfold nmOk at h
 simp only [Bool.and_eq_true,decide_eq_true_eq] at h
 exact h.2.2
theorem take_ok (h:SD a L T s n K x cs f N m b0 S cur w d r) (hK12:K≤12) (g p:Nat) (hg:Blk w g 265 #[.int .u64 (p:Int)]) (hP:PayOk L s K cs p) (st:Nat) (l:List (List Nat × Nat)) (hrd:RdC (.pointer (some ⟨g,0,none⟩)) (.iface 59 (.pointer (some ⟨d,0,none⟩))) w (some (st,l),0)) (hok:RgOk (some (st,l),0)) (nm:ByteArray) (hnm:nmOk nm=true) (hf:fndS nm 0 l < 0) (hl7:l.length≠8) (hT:T+800≤1000000000) (hN:N≤1000000000) :
  Calls Tryz.prog 146 #[.pointer (some ⟨g,0,none⟩), .iface 59 (.pointer (some ⟨d,0,none⟩)), .string nm] w (RetPwN a L T s n K x cs f N m b0 S cur w d r (flW cur (plOf (pOff p+8) (encA (l++[(bytesN nm,st)])))) st):=by
 have H2:Hid (Calls Tryz.prog 260 #[.pointer (some ⟨g,0,none⟩), .iface 59 (.pointer (some ⟨d,0,none⟩))] w fun e w'=>(∃ A m c,e = .returned (.tuple #[.int .u64 (st:Int), .slice A m c, .int .i64 0])∧m=l.length∧w'.ownsRow w.heap.size 368 2 (.slice A m c) m (itCells l))∧Below w.heap.size w w'):=hid hrd
 have hnil:∀ W,(binOp .eql 83 (.iface 59 (.pointer (some ⟨d,0,none⟩))) .nilIface).run Tryz.prog W = .ok (.bool false) W:=fun W=>by rfl
 have hsz:=nmOk_size hnm
 have HV:=hid (fun W=>valid_any nm (by omega) W)
 rw [hnm] at HV
 obtain ⟨hst,hl8,hlm,_⟩:=hok.some_ (st,l) rfl
 have hst':st≤4611686018427387903:=hst
 have hl8':l.length≤7:=by
  have:l.length≤8:=hl8
  omega
 have HFn:=hid (fun (A:Option Addr) (n c':Nat) (W:World) (hr:Reads W W.heap.size 2 A n (itCells l)) (hn:n≤100000)=>findS_any A n c' l nm W hr hn)
 have hDm:∀ p∈l++[(bytesN nm,st)],p.1.length≤16∧(∀ b∈p.1,b < 256)∧p.2 < 18446744073709551616:=fun p hp=>by
  rcases List.mem_append.1 hp with hp | hp
  ·obtain ⟨q1,q2,q3⟩:=hlm p hp
   have q4:p.2≤st:=q3
   exact ⟨q1,q2,by omega⟩
  ·have e:=List.mem_singleton.1 hp
   subst e
   exact ⟨by rw [bytesN_len];exact hsz,bytesN_lt nm,show st < _ by omega⟩
 have hDl:(l++[(bytesN nm,st)]).length≤8:=by
  rw [List.length_append]
  simp
  omega
 have HPb:Hid (∀ (W:World) (A:Option Addr) (k0 c0:Nat),Below w.heap.size w W→Reads W W.heap.size 2 A k0 (itCells (l++[(bytesN nm,st)]))→k0≤8→Calls Tryz.prog 263 #[.pointer (some ⟨g,0,none⟩), .iface 59 (.pointer (some ⟨d,0,none⟩)), .slice A k0 c0] W (RetPw a L T s n K x cs f N m b0 S cur w d r (flW cur (plOf (pOff p+8) (encA (l++[(bytesN nm,st)])))))):=hid (fun W A k0 c0 hW hr hk0=>by
  have h1:=rpub_any (h.below hW) hK12 g p (hg.below hW hg.lt) hP.ne hP.al hP.inl hP.le A k0 c0 (l++[(bytesN nm,st)]) hr hk0 (fun p hp=>⟨(hDm p hp).1,(hDm p hp).2.1⟩) (hP.uok _ (encA_val hDl hDm)) hT hN
  refine h1.mono (fun e w' h=>?_)
  obtain ⟨cm,S',q0,q1,q2,q3,q4⟩:=h
  exact ⟨cm,S',q0,q1,q2,(Chg.of_below hW).trans q3 (fun j hj => .inl hj),fun k hk=>(q4 k hk).imp id (fun h=>Nat.le_trans hW.size h)⟩)
 have HIt:Hid (itCells (l++[(bytesN nm,st)])=itCells l++[.string nm, .int .u64 (st:Int)]):=hid (by rw [itCells_snoc,strN_bytesN])
 generalize flW cur (plOf (pOff p+8) (encA (l++[(bytesN nm,st)])))=us at *
 generalize itCells (l++[(bytesN nm,st)])=its at *
 generalize fndS nm 0 l=fi at *
 have HL8:=hid hl8'
 obtain ⟨i0,hi0,hz0,hz1,hz2⟩:=info_parts infoBoth
 clear h hg hrd hok hst hst' hl8 hl7 hl8' hlm hDm hDl hP hnm hsz
 go_enter Tryz.func146,Tryz.ntmps146
 go_upto_region 10 with (first
  | (go_at_call 261;refine (HV.out _).mono ?_;rintro e w1 ⟨rfl,rfl⟩)
  | (go_at_call 260;refine H2.out.mono ?_;rintro e w1 ⟨⟨A1,m1,c1,rfl,hm1,ho1⟩,hb1⟩;have HB1:=hid hb1;have HM1:=hid hm1;have HO1:=hid ho1;clear hb1 hm1 ho1)
  | (go_at_call 262;refine (HFn.out A1 m1 c1 w1 (Reads.of_own HO1.out) (by rw [HM1.out];have:=HL8.out;omega)).mono ?_;rintro e w2 ⟨rfl,hb2⟩;have HB2:=hid (HB1.out.trans (hb2.mono HB1.out.size));have HO2:=hid (own_below HO1.out hb2);clear hb2))
 have d8:((m1:Int) == 8)=false:=beq_eq_false_iff_ne.2 (by have:=HL8.out;have:=HM1.out;omega)
 go_upto_region 12 with fail
 have hm7:m1≤7:=by rw [HM1.out];exact HL8.out
 go_wp2_with (at_builtin;refine stop ?_)
 unfold Stop
 have HR1:=hid (row_reads_at w2 _ rfl [.string nm, .int .u64 (st:Int)] 1 2 368 _ rfl rfl)
 refine wpList_app _ (.tmp 40) (.tmp 44) 361 rfl rfl w.heap.size 368 i0 _ 2 24 Tryz.underlying361 hi0 hz0 hz1 hz2 rfl (by omega) (.slice A1 m1 c1) m1 (itCells l) rfl (HO2.out.alloc _) (w2.heap.size+1) (some ⟨w2.heap.size,0,none⟩) 1 1 [.string nm, .int .u64 (st:Int)] rfl HR1.out (fun u hu=>by simp at hu;rcases hu with rfl | rfl <;> rfl) (by unfold maxLen;omega) (by omega) (by have:=HB2.out.size;simp;omega) ?_
 intro A3 n3 c3 w3 hn3 ho3 hg3 hb3
 have HB3:=hid ((HB2.out.alloc HB2.out.size _).trans hb3)
 have HPc:=hid (HPb.out w3 A3 n3 c3 HB3.out (by
  rw [HIt.out]
  exact Reads.of_own ho3) (by omega))
 clear hn3 ho3 hg3 hb3 HPb
 go_wp2_with (go_at_call 263;refine HPc.out.mono ?_;rintro e w4 h4;have HP4:=hid h4;obtain ⟨cm,S',rfl,q1,q2,q3,q4⟩:=h4;clear q1 q2 q3 q4)
 go_ret2
 obtain ⟨cm,S',q0,q1,q2,q3,q4⟩:=HP4.out
 exact ⟨cm,S',rfl,q1,q2,q3,q4⟩
end
end
end Go.Proofs.YtfkjjoglnmeciaaGreatDoor
