/- The walks and laws that the claim leans on, part 20. -/
import Derived.Test.YtfkjjoglnmeciaaGreatDoorJar
set_option maxRecDepth 100000
set_option maxHeartbeats 16000000
namespace Go.Proofs.YtfkjjoglnmeciaaGreatDoor
open Go.Lib (hid)
section
open Go.RowKit
def dirCells (a:DA) (h r:Nat):Array Value:=#[.pointer (some ⟨h,0,none⟩), .pointer (some ⟨a.th 0,0,none⟩), .pointer (some ⟨r,0,none⟩)]
def dirV (d:Nat):Value := .iface 59 (.pointer (some ⟨d,0,none⟩))
theorem methDStore (p : Option Addr) (w : World) : (method 640 59 (.pointer p) "Store").run Tryz.prog w = .ok (437, .pointer p) w := by kernel_rfl
theorem methDFlush (p : Option Addr) (w : World) : (method 640 59 (.pointer p) "Flush").run Tryz.prog w = .ok (434, .pointer p) w := by kernel_rfl
theorem methDFence (p : Option Addr) (w : World) : (method 640 59 (.pointer p) "Fence").run Tryz.prog w = .ok (433, .pointer p) w := by kernel_rfl
theorem methDLoad (p : Option Addr) (w : World) : (method 640 59 (.pointer p) "Load").run Tryz.prog w = .ok (435, .pointer p) w := by kernel_rfl
theorem methDErr (p : Option Addr) (w : World) : (method 640 59 (.pointer p) "Err").run Tryz.prog w = .ok (432, .pointer p) w := by kernel_rfl
theorem methDSize (p : Option Addr) (w : World) : (method 640 59 (.pointer p) "Size").run Tryz.prog w = .ok (436, .pointer p) w := by kernel_rfl
section
variable {a:DA} {L T:Nat} {w:World} {S:Fp} {cur:Nat→Nat} {D N:Nat→Prop} {F:Nat} {d g r:Nat}
theorem storeD (h:DevM a L T w S cur D N 0) (hB:Blk w d 240 (dirCells a g r)) (off v:Nat) (h8:off % 8=0) (hlt:off < 64 * L) (hT:T < 1000000000) :
  Calls Tryz.prog 437 #[.pointer (some ⟨d,0,none⟩), .int .u64 (off:Int), .int .u64 (v:Int)] w (RetDevM a L (T+1) w S (upd cur (off / 8) v) (fun k=>D k∨k=off / 8) (fun _=>False) 0 (.tuple #[])):=by
 have HD:=hid (store_devM h off v h8 hlt hT)
 have c1:w.cell? ⟨d,1,none⟩=some (.pointer (some ⟨a.th 0,0,none⟩)):=hB.cell 1
 clear h hB
 go_enter Tryz.func437,Tryz.ntmps437
 go_wp2_with fail
 refine HD.out.mono ?_
 rintro e w1 ⟨rfl,S1,hd1,hc1,hg1⟩
 have HE:=hid (show DevM a L (T+1) w1 S1 (upd cur (off / 8) v) (fun k=>D k∨k=off / 8) (fun _=>False) 0∧Chg S w w1∧Grew S S1 w from ⟨hd1,hc1,hg1⟩)
 clear hd1 hc1 hg1
 go_wp2
 go_end0
 exact ⟨rfl,S1,HE.out.1,HE.out.2.1,HE.out.2.2⟩
theorem flushD (h:DevM a L T w S cur D N F) (hB:Blk w d 240 (dirCells a g r)) (off:Nat) (hlt:off < 64 * L) (hF:F < 1000000000) :
  Calls Tryz.prog 434 #[.pointer (some ⟨d,0,none⟩), .int .u64 (off:Int)] w (RetDevM a L T w S cur D (fun i=>N i∨i=off / 64) (F+1) (.tuple #[])):=by
 have HD:=hid (flush_devM h off hlt hF)
 have c1:w.cell? ⟨d,1,none⟩=some (.pointer (some ⟨a.th 0,0,none⟩)):=hB.cell 1
 clear h hB
 go_enter Tryz.func434,Tryz.ntmps434
 go_wp2_with fail
 refine HD.out.mono ?_
 rintro e w1 ⟨rfl,S1,hd1,hc1,hg1⟩
 have HE:=hid (show DevM a L T w1 S1 cur D (fun i=>N i∨i=off / 64) (F+1)∧Chg S w w1∧Grew S S1 w from ⟨hd1,hc1,hg1⟩)
 clear hd1 hc1 hg1
 go_wp2
 go_end0
 exact ⟨rfl,S1,HE.out.1,HE.out.2.1,HE.out.2.2⟩
theorem fenceD (h:DevM a L T w S cur D N F) (hB:Blk w d 240 (dirCells a g r))  :
  Calls Tryz.prog 433 #[.pointer (some ⟨d,0,none⟩)] w (RetDevM a L T w S cur (fun k=>D k∧¬ N (k / 8)) (fun _=>False) 0 (.tuple #[])):=by
 have HD:=hid (fence_devM h)
 have c1:w.cell? ⟨d,1,none⟩=some (.pointer (some ⟨a.th 0,0,none⟩)):=hB.cell 1
 clear h hB
 go_enter Tryz.func433,Tryz.ntmps433
 go_wp2_with fail
 refine HD.out.mono ?_
 rintro e w1 ⟨rfl,S1,hd1,hc1,hg1⟩
 have HE:=hid (show DevM a L T w1 S1 cur (fun k=>D k∧¬ N (k / 8)) (fun _=>False) 0∧Chg S w w1∧Grew S S1 w from ⟨hd1,hc1,hg1⟩)
 clear hd1 hc1 hg1
 go_wp2
 go_end0
 exact ⟨rfl,S1,HE.out.1,HE.out.2.1,HE.out.2.2⟩
theorem loadD (h:Dev a L T w S cur F) (hB:Blk w d 240 (dirCells a g r)) (off v:Nat) (h8:off % 8=0) (hlt:off < 64 * L) (hv:cur (off / 8)=v) :
  Calls Tryz.prog 435 #[.pointer (some ⟨d,0,none⟩), .int .u64 (off:Int)] w (fun e w'=>e = .returned (.int .u64 (v:Int))∧w=w'):=by
 have HD:=hid (load_at h off v h8 hlt hv w (Below.refl _ _))
 have c1:w.cell? ⟨d,1,none⟩=some (.pointer (some ⟨a.th 0,0,none⟩)):=hB.cell 1
 clear h hB
 go_enter Tryz.func435,Tryz.ntmps435
 go_wp2_with fail
 refine HD.out.mono ?_
 rintro e w1 ⟨rfl,rfl⟩
 go_wp2
 go_ret
 exact ⟨rfl,rfl⟩
theorem errD (h:Dev a L T w S cur F) (hB:Blk w d 240 (dirCells a g r))  :
  Calls Tryz.prog 432 #[.pointer (some ⟨d,0,none⟩)] w (fun e w'=>e = .returned (.int .i64 0)∧w=w'):=by
 have HD:=hid (thErr h)
 have c1:w.cell? ⟨d,1,none⟩=some (.pointer (some ⟨a.th 0,0,none⟩)):=hB.cell 1
 clear h hB
 go_enter Tryz.func432,Tryz.ntmps432
 go_wp2_with fail
 refine HD.out.mono ?_
 rintro e w1 ⟨rfl,rfl⟩
 go_wp2
 go_ret
 exact ⟨rfl,rfl⟩
theorem sizeD (h:Dev a L T w S cur F) (hB:Blk w d 240 (dirCells a g r))  :
  Calls Tryz.prog 436 #[.pointer (some ⟨d,0,none⟩)] w (fun e w'=>e = .returned (.int .u64 ((64 * L:Nat):Int))∧w=w'):=by
 have HD:=hid (size_dev h)
 rw [show ((64 * L:Nat):Int)=(L:Int) * 64 by omega] at *
 have c1:w.cell? ⟨d,1,none⟩=some (.pointer (some ⟨a.th 0,0,none⟩)):=hB.cell 1
 clear h hB
 go_enter Tryz.func436,Tryz.ntmps436
 go_wp2_with fail
 refine HD.out.mono ?_
 rintro e w1 ⟨rfl,rfl⟩
 go_wp2
 go_ret
 exact ⟨rfl,rfl⟩
end
theorem execD_st {a:DA} {L T:Nat} {w:World} {S:Fp} {cur:Nat→Nat} {D N:Nat→Prop} {d g r:Nat} (h:DevM a L T w S cur D N 0) (hB:Blk w d 240 (dirCells a g r)) (off v:Nat) (h8:off % 8=0) (hlt:off < 64 * L) (hT:T < 1000000000) :
  Calls Tryz.prog 176 #[.agg #[.int .u8 1, .int .u64 (off:Int), .int .u64 (v:Int)],dirV d] w (RetDevM a L (T+1) w S (upd cur (off / 8) v) (fun k=>D k∨k=off / 8) (fun _=>False) 0 (.tuple #[])):=by
 have HW:=hid (fun o=>h.below ((Below.refl _ w).alloc (Nat.le_refl _) o))
 have HBD:=hid (fun o=>hB.alloc o)
 clear h hB
 have hm:=methDStore (some ⟨d,0,none⟩)
 unfold dirV
 go_enter Tryz.func176,Tryz.ntmps176
 go_wp2_with fail
 refine (storeD (HW.out _) (HBD.out _) off v h8 hlt hT).mono ?_
 rintro e w1 ⟨rfl,S1,hd1,hc1,hg1⟩
 have HD:=hid hd1
 have HC:Hid (Chg S w w1):=((Chg.refl S w).alloc _).trans hc1 (Grew.refl _ _)
 have HG:Hid (Grew S S1 w):=fun k hk=>(hg1 k hk).imp id (fun h=>by simp at h;omega)
 clear hd1 hc1 hg1
 go_wp2
 go_end0
 exact ⟨rfl,S1,HD.out,HC.out,HG.out⟩
theorem execD_fl {a:DA} {L T:Nat} {w:World} {S:Fp} {cur:Nat→Nat} {D N:Nat→Prop} {F:Nat} {d g r:Nat} (h:DevM a L T w S cur D N F) (hB:Blk w d 240 (dirCells a g r)) (off:Nat) (hlt:off < 64 * L) (hF:F < 1000000000) :
  Calls Tryz.prog 176 #[.agg #[.int .u8 2, .int .u64 (off:Int), .int .u64 0],dirV d] w (RetDevM a L T w S cur D (fun i=>N i∨i=off / 64) (F+1) (.tuple #[])):=by
 have HW:=hid (fun o=>h.below ((Below.refl _ w).alloc (Nat.le_refl _) o))
 have HBD:=hid (fun o=>hB.alloc o)
 clear h hB
 have hm:=methDFlush (some ⟨d,0,none⟩)
 unfold dirV
 go_enter Tryz.func176,Tryz.ntmps176
 go_wp2_with fail
 refine (flushD (HW.out _) (HBD.out _) off hlt hF).mono ?_
 rintro e w1 ⟨rfl,S1,hd1,hc1,hg1⟩
 have HD:=hid hd1
 have HC:Hid (Chg S w w1):=((Chg.refl S w).alloc _).trans hc1 (Grew.refl _ _)
 have HG:Hid (Grew S S1 w):=fun k hk=>(hg1 k hk).imp id (fun h=>by simp at h;omega)
 clear hd1 hc1 hg1
 go_wp2
 go_end0
 exact ⟨rfl,S1,HD.out,HC.out,HG.out⟩
theorem execD_fe {a:DA} {L T:Nat} {w:World} {S:Fp} {cur:Nat→Nat} {D N:Nat→Prop} {F:Nat} {d g r:Nat} (h:DevM a L T w S cur D N F) (hB:Blk w d 240 (dirCells a g r))  :
  Calls Tryz.prog 176 #[.agg #[.int .u8 3, .int .u64 0, .int .u64 0],dirV d] w (RetDevM a L T w S cur (fun k=>D k∧¬ N (k / 8)) (fun _=>False) 0 (.tuple #[])):=by
 have HW:=hid (fun o=>h.below ((Below.refl _ w).alloc (Nat.le_refl _) o))
 have HBD:=hid (fun o=>hB.alloc o)
 clear h hB
 have hm:=methDFence (some ⟨d,0,none⟩)
 unfold dirV
 go_enter Tryz.func176,Tryz.ntmps176
 go_wp2_with fail
 refine (fenceD (HW.out _) (HBD.out _)).mono ?_
 rintro e w1 ⟨rfl,S1,hd1,hc1,hg1⟩
 have HD:=hid hd1
 have HC:Hid (Chg S w w1):=((Chg.refl S w).alloc _).trans hc1 (Grew.refl _ _)
 have HG:Hid (Grew S S1 w):=fun k hk=>(hg1 k hk).imp id (fun h=>by simp at h;omega)
 clear hd1 hc1 hg1
 go_wp2
 go_end0
 exact ⟨rfl,S1,HD.out,HC.out,HG.out⟩
theorem execD_any {a:DA} {L T:Nat} {w:World} {S:Fp} {cur:Nat→Nat} {dn:(Nat→Prop) × (Nat→Prop)} {F:Nat} {d g r:Nat} (h:DevM a L T w S cur dn.1 dn.2 F) (hB:Blk w d 240 (dirCells a g r)) (i:Ins) (b:Bool) (hg:goodI L b i) (hb:b=false→F=0) (hT:T < 1000000000) (hF:F < 1000000000) :
  Calls Tryz.prog 176 #[.agg #[.int .u8 (i.op:Int), .int .u64 (i.o:Int), .int .u64 (i.v:Int)],dirV d] w (RetIns a L (T+1) w S (runI cur i) (dirI dn i) F (noteI b i)):=by
 cases i with
 | st o v =>
  obtain ⟨h1,h2,h3,_⟩:=hg
  have hF0:=hb h1
  subst hF0
  refine (execD_st h hB o v h2 h3 hT).mono ?_
  rintro e w' ⟨rfl,S',hd,hc,hgr⟩
  exact ⟨rfl,S',0,hd,fun _=>rfl,Nat.zero_le _,hc,hgr⟩
 | fl o =>
  refine (execD_fl h hB o hg hF).mono ?_
  rintro e w' ⟨rfl,S',hd,hc,hgr⟩
  exact ⟨rfl,S',F+1,hd.more (by omega) (by omega),fun h=>(by cases h),Nat.le_refl _,hc,hgr⟩
 | fe =>
  refine (execD_fe h hB).mono ?_
  rintro e w' ⟨rfl,S',hd,hc,hgr⟩
  exact ⟨rfl,S',0,hd.more (by omega) (by omega),fun _=>rfl,Nat.zero_le _,hc,hgr⟩
def RunDI (a:DA) (L T:Nat) (w wr:World) (S:Fp) (cur:Nat→Nat) (p:List Ins) (k:Nat):Prop :=
 ∃ S' F',DevM a L (T+k) wr S' (runP cur (p.take k)) (dirP (a.dirty,fun _=>False) (p.take k)).1 (dirP (a.dirty,fun _=>False) (p.take k)).2 F'∧(noteP false (p.take k)=false→F'=0)∧F'≤k∧Chg S w wr∧Grew S S' w
theorem runD_any {a:DA} {L T:Nat} {w:World} {S:Fp} {cur:Nat→Nat} {d g r:Nat} (h:Dev a L T w S cur 0) (hB:Blk w d 240 (dirCells a g r)) (hdS:¬ S d) (A:Option Addr) (n c:Nat) (p:List Ins) (hr:Reads w w.heap.size 3 A n (insCells p)) (hoff:∀ ad,A=some ad→¬ S ad.block) (hg:goodP L false p) (hn:n≤1000000) (hT:T+n≤1000000000) :
  Calls Tryz.prog 78 #[.slice A n c,dirV d] w (RetDev a L (T+n) w S (runP cur p) 0 (.int .i64 0)):=by
 have HV:=hid (validP_any A n c p w hr hn)
 have HLN:=hid (show p.length=n by have:=hr.1;rw [insCells_len] at this;omega)
 have HR:=hid hr
 have HOF:=hid hoff
 have HGD:=hid hg
 have HD0:=hid h
 have HSL:=hid h.lt
 have hmE:=methDErr (some ⟨d,0,none⟩)
 have hq:∀ W,(binOp .eql 188 (.iface 59 (.pointer (some ⟨d,0,none⟩))) .nilIface).run Tryz.prog W = .ok (.bool false) W:=fun W=>by rfl
 have HBB:=hid (show Blk w d _ _∧¬ S d from ⟨hB,hdS⟩)
 clear h hr hoff hg hB hdS
 unfold dirV
 go_enter Tryz.func78,Tryz.ntmps78
 go_wp2_with (go_at_call 175;refine HV.out.mono ?_;rintro e w1 ⟨rfl,hb1⟩;have HI0:Hid (RunDI a L T w w1 S cur p 0):=⟨S,0,HD0.out.below hb1,fun _=>rfl,Nat.le_refl _,Chg.of_below hb1,Grew.refl _ _⟩;clear hb1)
 go_loopw [16] (fun i wr=>∃ (k:Nat),k≤n∧i = .int .i64 k∧Hid (RunDI a L T w wr S cur p k)) (fun i _=>n - (Go.RowKit.intOf i).toNat)
 case atStart=>exact ⟨0,Nat.zero_le _,rfl,HI0⟩
 case round =>
  clear HI0 HD0 HV
  obtain ⟨k,hk,rfl,H⟩:=hrel
  by_cases hlt:k < n
  ·obtain ⟨S1,F1,hd,hf,hF1,hC,hG⟩:=H.out
   obtain ⟨hl,b,off,hA,hbB,f0,f1,f2⟩:=ins_facts (hC.reads HR.out (Nat.le_refl _) HOF.out) hlt
   subst hA
   have hgi:=goodP_at HGD.out k hl
   have HEX:=hid (fun o=>execD_any (dn:=dirP (a.dirty,fun _=>False) (p.take k)) (hd.below ((Below.refl _ wr).alloc (Nat.le_refl _) o)) ((hC.blk HBB.out.1 HBB.out.2).alloc o) p[k] (noteP false (p.take k)) hgi hf (by omega) (by omega))
   have HRP:Hid (runI (runP cur (p.take k)) p[k]=runP cur (p.take (k+1))):=show _=_ by rw [List.take_succ_eq_append_getElem hl,runP_snoc]
   have HNP:Hid (noteI (noteP false (p.take k)) p[k]=noteP false (p.take (k+1))):=show _=_ by rw [List.take_succ_eq_append_getElem hl,noteP_app];rfl
   have HDP:Hid (dirI (dirP (a.dirty,fun _=>False) (p.take k)) p[k]=dirP (a.dirty,fun _=>False) (p.take (k+1))):=show _=_ by rw [List.take_succ_eq_append_getElem hl,dirP_app];rfl
   rw [HRP.out,HNP.out,HDP.out] at HEX
   have HC:=hid hC
   have HG:=hid hG
   unfold dirV at HEX
   generalize (p[k]).op=op at *
   generalize (p[k]).o=o at *
   generalize (p[k]).v=v at *
   have hz0:(0:Int)≤(k:Int):=by omega
   have hz1:(k:Int) < (n:Int):=by omega
   clear hgi hd hf hC hG H HRP HNP HDP
   go_wp2_with fail
   refine (HEX.out _).mono ?_
   rintro e w2 ⟨rfl,S2,F2,hd2,hf2,hF2,hC2,hG2⟩
   have HN:Hid (RunDI a L T w w2 S cur p (k+1)):=⟨S2,F2,by rw [← Nat.add_assoc];exact hd2,hf2,by omega,HC.out.trans (S':=S1) (((Chg.refl S1 wr).alloc _).trans hC2 (Grew.refl _ _)) HG.out,HG.out.trans (w1:=wr) (fun j hj=>(hG2 j hj).imp id (fun h=>by simp at h;omega)) HC.out.size⟩
   clear hd2 hf2 hF2 hC2 hG2
   go_wp2
   go_roundw
   case rel=>exact ⟨k+1,by omega,by go_num,HN⟩
   case measure=>simp [Go.RowKit.intOf];omega
  ·obtain rfl:n=k:=by omega
   obtain ⟨S1,F1,hd,hf,hF1,hC,hG⟩:=H.out
   rw [List.take_of_length_le (by rw [HLN.out];exact Nat.le_refl _)] at hd hf
   have hF0:=hf (goodP_end HGD.out)
   subst hF0
   have hdd:Dev a L (T+n) wr S1 (runP cur p) 0:=hd.mono (fun k hk=>HGD.out.2 _ k hk) (fun _ h=>h.elim)
   have HD:=hid hdd
   have HC:=hid hC
   have HG:=hid hG
   have HER:=hid (errD hdd (hC.blk HBB.out.1 HBB.out.2))
   clear hd hdd hC hG hf H
   go_wp2_with (go_at_call 432;refine HER.out.mono ?_;rintro e w2 ⟨rfl,rfl⟩)
   go_ret
   exact ⟨rfl,S1,HD.out,HC.out,HG.out⟩
end
section
open Go.RowKit
theorem infoInt:(Tryz.prog.info? 3).map (fun i=>(i.zero,i.size,i.bytes))=some (some (.int .i64 0),1,8):=by kernel_rfl
def iCells (l:List Int):List Value:=l.map fun x=>Value.int .i64 x
theorem plCells_at (s:Nat):∀ (n k:Nat),k < n→(plCells s n)[k * 4]?=some (.int .i64 ((s+32 * k:Nat):Int))∧(plCells s n)[k * 4+1]?=some (.int .i64 (-1))∧(plCells s n)[k * 4+2]?=some (.int .i64 (-1))∧(plCells s n)[k * 4+3]?=some (.bool false)
 | n+1,k,h=>by
  have hl:(plCells s n).length=n * 4:=by
   clear h
   induction n with
   | zero=>rfl
   | succ n ih=>rw [plCells_succ,List.length_append,ih];simp;omega
  rw [plCells_succ]
  by_cases hk:k < n
  ·obtain ⟨h0,h1,h2,h3⟩:=plCells_at s n k hk
   refine ⟨?_,?_,?_,?_⟩ <;> rw [List.getElem?_append_left (by omega)] <;> assumption
  ·obtain rfl:k=n:=by omega
   refine ⟨?_,?_,?_,?_⟩ <;> rw [List.getElem?_append_right (by omega),hl] <;> simp
theorem pl_facts {w:World} {B n s:Nat} {A:Option Addr} (h:Reads w B 4 A n (plCells s n)) {k:Nat} (hk:k < n) :
  ∃ b off:Nat,A=some ⟨b,off,none⟩∧b < B∧w.cell? ⟨b,off+k * 4,none⟩=some (.int .i64 ((s+32 * k:Nat):Int))∧w.cell? ⟨b,off+k * 4+1,none⟩=some (.int .i64 (-1))∧w.cell? ⟨b,off+k * 4+2,none⟩=some (.int .i64 (-1))∧w.cell? ⟨b,off+k * 4+3,none⟩=some (.bool false):=by
 obtain ⟨b,off,hA,hb,hc⟩:=h.plain (by omega) (by omega)
 obtain ⟨h0,h1,h2,h3⟩:=plCells_at s n k hk
 exact ⟨b,off,hA,hb,hc _ _ h0,hc _ _ h1,hc _ _ h2,hc _ _ h3⟩
def RetLines (w:World) (K:Nat) (e:Ending) (w':World):Prop:=∃ A m c l,e = .returned (.slice A m c)∧m≤K∧w'.ownsRow w.heap.size 3 1 (.slice A m c) m (iCells l)∧Below w.heap.size w w'
theorem lines_any {a:DA} {s K base g:Nat} {w:World} (h:SetIs a s K w base g) (hK:K≤128) :
  Calls Tryz.prog 197 #[.pointer (some ⟨g,0,none⟩)] w (RetLines w K):=by
 obtain ⟨A,m,c,hB,rfl,ho⟩:=h
 obtain ⟨i0,hi0,hz0,hz1,hz2⟩:=info_parts infoInt
 have HR:=hid (Reads.of_own ho)
 have f1:w.cell? ⟨g,1,none⟩=some (.slice A m c):=hB.cell 1
 have HB0:Hid (Below w.heap.size w w):=Below.refl _ _
 have HO0:Hid (w.ownsRow w.heap.size 3 1 (.slice none 0 0) 0 (iCells [])):=World.ownsRow_nil _ _ _ _
 clear ho hB
 go_enter Tryz.func197,Tryz.ntmps197
 go_wp2
 go_loopw [3,13] (fun p i wr=>∃ (k:Nat) (A1:Option Addr) (m1 c1:Nat) (l:List Int),k≤m∧i = .int .i64 k∧p = .slice A1 m1 c1∧m1≤k∧Hid (wr.ownsRow w.heap.size 3 1 (.slice A1 m1 c1) m1 (iCells l))∧Hid (Below w.heap.size w wr)) (fun _ i _=>m - (RowKit.intOf i).toNat)
 case atStart=>exact ⟨0,_,_,_,_,Nat.zero_le _,rfl,rfl,Nat.le_refl _,HO0,HB0⟩
 case round =>
  clear HB0 HO0
  obtain ⟨k,A1,m1,c1,l,hk,rfl,rfl,hm1,HO,H⟩:=hrel
  by_cases hlt:k < m
  ·obtain ⟨b,off,hA,hbB,f0,f2,f3,f4⟩:=pl_facts (HR.out.below H.out) hlt
   subst hA
   have hz5:(0:Int)≤(k:Int):=by omega
   have hz6:(k:Int) < (m:Int):=by omega
   generalize ((s+32 * k:Nat):Int)=v at *
   have HLE:=hid H.out.size
   have HOD:=hid ((HO.out.alloc (.cells #[.int .i64 v, .int .i64 (-1), .int .i64 (-1), .bool false] 408)).alloc (.cells #[.int .i64 v] 3))
   have HBD:=hid ((H.out.alloc H.out.size (.cells #[.int .i64 v, .int .i64 (-1), .int .i64 (-1), .bool false] 408)).alloc (by have:=H.out.size;simp;omega) (.cells #[.int .i64 v] 3))
   clear H HO
   go_wp2_with (first
    | (at_builtin;refine wpList_app _ (.tmp 17) (.tmp 20) 34 rfl rfl w.heap.size 3 i0 _ 1 8 Tryz.underlying34 hi0 hz0 hz1 hz2 rfl ?q1 (.slice A1 m1 c1) m1 (iCells l) rfl HOD.out (wr.heap.size+1+1) (some ⟨wr.heap.size+1,0,none⟩) 1 1 [.int .i64 v] rfl ?q5 ?q6 ?q2 ?q3 ?q4 ?_;(case q1=>omega);(case q5=>exact row_reads_at _ _ (by simp) _ 1 1 3 _ rfl rfl);(case q6=>(intro u hu;simp at hu;subst hu;rfl));(case q2=>(unfold maxLen;omega));(case q3=>omega);(case q4=>(have:=HLE.out;simp;omega));intro A3 n3 c3 w8 hn3 ho3 hg3 hb3;have HN3:=hid hn3;have HO3:=hid ho3;have HB3:=hid (HBD.out.trans hb3);clear hn3 ho3 hg3 hb3)
    | go_in)
   have b1:n3≤k+1:=by have:=HN3.out;omega
   have HO4:Hid (w8.ownsRow w.heap.size 3 1 (.slice A3 n3 c3) n3 (iCells (l++[v]))):=hid (by have h:=HO3.out;simpa [iCells] using h)
   go_roundw
   case rel =>
    first
     | exact ⟨k+1,_,_,_,_,by omega,by go_num,rfl,b1,HO4,HB3⟩
     | (
       repeat apply Exists.intro
       refine ⟨?_,rfl⟩
       exact ⟨k+1,_,_,_,_,by omega,by go_num,rfl,b1,HO4,HB3⟩)
   case measure=>simp [RowKit.intOf];omega
  ·obtain rfl:m=k:=by omega
   go_wp2
   go_ret
   exact ⟨_,_,_,_,rfl,hm1,HO.out,H.out⟩
def RetFind (w:World) (e:Ending) (w':World):Prop:=∃ p,e = .returned (.pointer p)∧(p=none∨∃ b off,p=some ⟨b,off,none⟩∧w'.cell? ⟨b,off+2,none⟩=some (.int .i64 (-1)))∧w=w'
theorem find_any {a:DA} {s K base g:Nat} {w:World} (h:SetIs a s K w base g) (hK:K≤128) (x:Int) :
  Calls Tryz.prog 343 #[.pointer (some ⟨g,0,none⟩), .int .i64 x] w (RetFind w):=by
 obtain ⟨A,m,c,hB,rfl,ho⟩:=h
 have HR:=hid (Reads.of_own ho)
 have f1:w.cell? ⟨g,1,none⟩=some (.slice A m c):=hB.cell 1
 clear ho hB
 go_enter Tryz.func343,Tryz.ntmps343
 go_wp2
 go_loopw [13] (fun i wr=>∃ (k:Nat),k≤m∧i = .int .i64 k∧w=wr) (fun i _=>m - (RowKit.intOf i).toNat)
 case atStart=>exact ⟨0,Nat.zero_le _,rfl,rfl⟩
 case round =>
  obtain ⟨k,hk,rfl,rfl⟩:=hrel
  by_cases hlt:k < m
  ·obtain ⟨b,off,hA,hbB,f0,f2,f3,f4⟩:=pl_facts HR.out hlt
   subst hA
   have hz5:(0:Int)≤(k:Int):=by omega
   have hz6:(k:Int) < (m:Int):=by omega
   generalize ((s+32 * k:Nat):Int)=v at *
   by_cases hv:v=x
   ·have hq:(v == x)=true:=by simp [hv]
    go_wp2
    go_ret
    exact ⟨_,rfl, .inr ⟨b,off+k * 4,rfl,f3⟩,rfl⟩
   ·have hq:(v == x)=false:=by simp [hv]
    go_wp2
    go_roundw
    case rel =>
     first
      | exact ⟨k+1,by omega,by go_num,trivial⟩
      | exact ⟨k+1,by omega,by go_num,rfl⟩
      | (
        repeat apply Exists.intro
        refine ⟨?_,rfl⟩
        exact ⟨k+1,by omega,by go_num,rfl⟩)
    case measure=>simp [RowKit.intOf];omega
  ·obtain rfl:m=k:=by omega
   go_wp2
   go_ret
   exact ⟨_,rfl, .inl rfl,rfl⟩
theorem owner_any {a:DA} {s K base g:Nat} {w:World} (h:SetIs a s K w base g) (hK:K≤128) (x:Int) :
  Calls Tryz.prog 289 #[.pointer (some ⟨g,0,none⟩), .int .i64 x] w fun e w'=>e = .returned (.int .i64 (-1))∧w=w':=by
 have HF:=hid (find_any h hK x)
 clear h
 go_enter Tryz.func289,Tryz.ntmps289
 go_wp2_with fail
 refine HF.out.mono ?_
 rintro e w1 ⟨p,rfl,hp,rfl⟩
 rcases hp with rfl | ⟨b,off,rfl,f2⟩
 ·go_wp2
  go_ret
  exact ⟨rfl,rfl⟩
 ·go_wp2
  go_ret
  exact ⟨rfl,rfl⟩
end
end Go.Proofs.YtfkjjoglnmeciaaGreatDoor
