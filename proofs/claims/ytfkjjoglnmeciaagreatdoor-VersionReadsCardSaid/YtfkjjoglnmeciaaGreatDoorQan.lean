/- The walks and laws that the claim leans on, part 14. -/
import Derived.Test.YtfkjjoglnmeciaaGreatDoorQam
set_option maxRecDepth 100000
set_option maxHeartbeats 16000000
namespace Go.Proofs.YtfkjjoglnmeciaaGreatDoor
open Go.Lib (hid)
section
open Go.RowKit
def dirCells (a:DA) (h r:Nat):Array Value:=#[.pointer (some ⟨h,0,none⟩), .pointer (some ⟨a.th 0,0,none⟩), .pointer (some ⟨r,0,none⟩)]
def dirV (d:Nat):Value := .iface 59 (.pointer (some ⟨d,0,none⟩))
theorem methDStore (p : Option Addr) (w : World) : (method 640 59 (.pointer p) "Store").run Tryz.prog w = .ok (437, .pointer p) w := by kernel_rfl
theorem methDFlush (p : Option Addr) (w : World) : (method 640 59 (.pointer p) "Flush").run Tryz.prog w = .ok (434, .pointer p) w := by kernel_rfl
theorem methDFence (p : Option Addr) (w : World) : (method 640 59 (.pointer p) "Fence").run Tryz.prog w = .ok (433, .pointer p) w := by kernel_rfl
theorem methDLoad (p : Option Addr) (w : World) : (method 640 59 (.pointer p) "Load").run Tryz.prog w = .ok (435, .pointer p) w := by kernel_rfl
theorem methDErr (p : Option Addr) (w : World) : (method 640 59 (.pointer p) "Err").run Tryz.prog w = .ok (432, .pointer p) w := by kernel_rfl
theorem methDSize (p : Option Addr) (w : World) : (method 640 59 (.pointer p) "Size").run Tryz.prog w = .ok (436, .pointer p) w := by kernel_rfl
section
variable {a:DA} {L T:Nat} {w:World} {S:Fp} {cur:Nat→Nat} {D N:Nat→Prop} {F:Nat} {d g r:Nat}
theorem storeD (h:DevM a L T w S cur D N 0) (hB:Blk w d 240 (dirCells a g r)) (off v:Nat) (h8:off % 8=0) (hlt:off < 64 * L) (hT:T < 1000000000) :
  Calls Tryz.prog 437 #[.pointer (some ⟨d,0,none⟩), .int .u64 (off:Int), .int .u64 (v:Int)] w (RetDevM a L (T+1) w S (upd cur (off / 8) v) (fun k=>D k∨k=off / 8) (fun _=>False) 0 (.tuple #[])):=by
 have HD:=hid (store_devM h off v h8 hlt hT);have c1:w.cell? ⟨d,1,none⟩=some (.pointer (some ⟨a.th 0,0,none⟩)):=hB.cell 1;clear h hB;go_enter Tryz.func437,Tryz.ntmps437
 go_wp2_with fail
 refine HD.out.mono ?_;rintro e w1 ⟨rfl,S1,hd1,hc1,hg1⟩;have HE:=hid (show DevM a L (T+1) w1 S1 (upd cur (off / 8) v) (fun k=>D k∨k=off / 8) (fun _=>False) 0∧Chg S w w1∧Grew S S1 w from ⟨hd1,hc1,hg1⟩);clear hd1 hc1 hg1;go_wp2;go_end0;exact ⟨rfl,S1,HE.out.1,HE.out.2.1,HE.out.2.2⟩
theorem flushD (h:DevM a L T w S cur D N F) (hB:Blk w d 240 (dirCells a g r)) (off:Nat) (hlt:off < 64 * L) (hF:F < 1000000000) :
  Calls Tryz.prog 434 #[.pointer (some ⟨d,0,none⟩), .int .u64 (off:Int)] w (RetDevM a L T w S cur D (fun i=>N i∨i=off / 64) (F+1) (.tuple #[])):=by
 have HD:=hid (flush_devM h off hlt hF);have c1:w.cell? ⟨d,1,none⟩=some (.pointer (some ⟨a.th 0,0,none⟩)):=hB.cell 1;clear h hB;go_enter Tryz.func434,Tryz.ntmps434
 go_wp2_with fail
 refine HD.out.mono ?_;rintro e w1 ⟨rfl,S1,hd1,hc1,hg1⟩;have HE:=hid (show DevM a L T w1 S1 cur D (fun i=>N i∨i=off / 64) (F+1)∧Chg S w w1∧Grew S S1 w from ⟨hd1,hc1,hg1⟩);clear hd1 hc1 hg1;go_wp2;go_end0;exact ⟨rfl,S1,HE.out.1,HE.out.2.1,HE.out.2.2⟩
theorem fenceD (h:DevM a L T w S cur D N F) (hB:Blk w d 240 (dirCells a g r))  :
  Calls Tryz.prog 433 #[.pointer (some ⟨d,0,none⟩)] w (RetDevM a L T w S cur (fun k=>D k∧¬ N (k / 8)) (fun _=>False) 0 (.tuple #[])):=by
 have HD:=hid (fence_devM h);have c1:w.cell? ⟨d,1,none⟩=some (.pointer (some ⟨a.th 0,0,none⟩)):=hB.cell 1;clear h hB;go_enter Tryz.func433,Tryz.ntmps433
 go_wp2_with fail
 refine HD.out.mono ?_;rintro e w1 ⟨rfl,S1,hd1,hc1,hg1⟩;have HE:=hid (show DevM a L T w1 S1 cur (fun k=>D k∧¬ N (k / 8)) (fun _=>False) 0∧Chg S w w1∧Grew S S1 w from ⟨hd1,hc1,hg1⟩);clear hd1 hc1 hg1;go_wp2;go_end0;exact ⟨rfl,S1,HE.out.1,HE.out.2.1,HE.out.2.2⟩
theorem loadD (h:Dev a L T w S cur F) (hB:Blk w d 240 (dirCells a g r)) (off v:Nat) (h8:off % 8=0) (hlt:off < 64 * L) (hv:cur (off / 8)=v) :
  Calls Tryz.prog 435 #[.pointer (some ⟨d,0,none⟩), .int .u64 (off:Int)] w (fun e w'=>e = .returned (.int .u64 (v:Int))∧w=w'):=by
 have HD:=hid (load_at h off v h8 hlt hv w (Below.refl _ _));have c1:w.cell? ⟨d,1,none⟩=some (.pointer (some ⟨a.th 0,0,none⟩)):=hB.cell 1;clear h hB;go_enter Tryz.func435,Tryz.ntmps435
 go_wp2_with fail
 refine HD.out.mono ?_;rintro e w1 ⟨rfl,rfl⟩;go_wp2;go_ret;exact ⟨rfl,rfl⟩
theorem errD (h:Dev a L T w S cur F) (hB:Blk w d 240 (dirCells a g r))  :
  Calls Tryz.prog 432 #[.pointer (some ⟨d,0,none⟩)] w (fun e w'=>e = .returned (.int .i64 0)∧w=w'):=by
 have HD:=hid (thErr h);have c1:w.cell? ⟨d,1,none⟩=some (.pointer (some ⟨a.th 0,0,none⟩)):=hB.cell 1;clear h hB;go_enter Tryz.func432,Tryz.ntmps432
 go_wp2_with fail
 refine HD.out.mono ?_;rintro e w1 ⟨rfl,rfl⟩;go_wp2;go_ret;exact ⟨rfl,rfl⟩
theorem sizeD (h:Dev a L T w S cur F) (hB:Blk w d 240 (dirCells a g r))  :
  Calls Tryz.prog 436 #[.pointer (some ⟨d,0,none⟩)] w (fun e w'=>e = .returned (.int .u64 ((64 * L:Nat):Int))∧w=w'):=by
 have HD:=hid (size_dev h);rw [show ((64 * L:Nat):Int)=(L:Int) * 64 by omega] at *;have c1:w.cell? ⟨d,1,none⟩=some (.pointer (some ⟨a.th 0,0,none⟩)):=hB.cell 1;clear h hB;go_enter Tryz.func436,Tryz.ntmps436
 go_wp2_with fail
 refine HD.out.mono ?_;rintro e w1 ⟨rfl,rfl⟩;go_wp2;go_ret;exact ⟨rfl,rfl⟩
end
theorem execD_st {a:DA} {L T:Nat} {w:World} {S:Fp} {cur:Nat→Nat} {D N:Nat→Prop} {d g r:Nat} (h:DevM a L T w S cur D N 0) (hB:Blk w d 240 (dirCells a g r)) (off v:Nat) (h8:off % 8=0) (hlt:off < 64 * L) (hT:T < 1000000000) :
  Calls Tryz.prog 176 #[.agg #[.int .u8 1, .int .u64 (off:Int), .int .u64 (v:Int)],dirV d] w (RetDevM a L (T+1) w S (upd cur (off / 8) v) (fun k=>D k∨k=off / 8) (fun _=>False) 0 (.tuple #[])):=by
 have HW:=hid (fun o=>h.below ((Below.refl _ w).alloc (nL _) o));have HBD:=hid (fun o=>hB.alloc o);clear h hB;have hm:=methDStore (some ⟨d,0,none⟩);unfold dirV;go_enter Tryz.func176,Tryz.ntmps176
 go_wp2_with fail
 refine (storeD (HW.out _) (HBD.out _) off v h8 hlt hT).mono ?_;rintro e w1 ⟨rfl,S1,hd1,hc1,hg1⟩;have HD:=hid hd1;have HC:Hid (Chg S w w1):=((Chg.refl S w).alloc _).trans hc1 (Grew.refl _ _);have HG:Hid (Grew S S1 w):=fun k hk=>(hg1 k hk).imp id (fun h=>by simp at h;omega)
 clear hd1 hc1 hg1;go_wp2;go_end0;exact ⟨rfl,S1,HD.out,HC.out,HG.out⟩
theorem execD_fl {a:DA} {L T:Nat} {w:World} {S:Fp} {cur:Nat→Nat} {D N:Nat→Prop} {F:Nat} {d g r:Nat} (h:DevM a L T w S cur D N F) (hB:Blk w d 240 (dirCells a g r)) (off:Nat) (hlt:off < 64 * L) (hF:F < 1000000000) :
  Calls Tryz.prog 176 #[.agg #[.int .u8 2, .int .u64 (off:Int), .int .u64 0],dirV d] w (RetDevM a L T w S cur D (fun i=>N i∨i=off / 64) (F+1) (.tuple #[])):=by
 have HW:=hid (fun o=>h.below ((Below.refl _ w).alloc (nL _) o));have HBD:=hid (fun o=>hB.alloc o);clear h hB;have hm:=methDFlush (some ⟨d,0,none⟩);unfold dirV;go_enter Tryz.func176,Tryz.ntmps176
 go_wp2_with fail
 refine (flushD (HW.out _) (HBD.out _) off hlt hF).mono ?_;rintro e w1 ⟨rfl,S1,hd1,hc1,hg1⟩;have HD:=hid hd1;have HC:Hid (Chg S w w1):=((Chg.refl S w).alloc _).trans hc1 (Grew.refl _ _);have HG:Hid (Grew S S1 w):=fun k hk=>(hg1 k hk).imp id (fun h=>by simp at h;omega)
 clear hd1 hc1 hg1;go_wp2;go_end0;exact ⟨rfl,S1,HD.out,HC.out,HG.out⟩
theorem execD_fe {a:DA} {L T:Nat} {w:World} {S:Fp} {cur:Nat→Nat} {D N:Nat→Prop} {F:Nat} {d g r:Nat} (h:DevM a L T w S cur D N F) (hB:Blk w d 240 (dirCells a g r))  :
  Calls Tryz.prog 176 #[.agg #[.int .u8 3, .int .u64 0, .int .u64 0],dirV d] w (RetDevM a L T w S cur (fun k=>D k∧¬ N (k / 8)) (fun _=>False) 0 (.tuple #[])):=by
 have HW:=hid (fun o=>h.below ((Below.refl _ w).alloc (nL _) o));have HBD:=hid (fun o=>hB.alloc o);clear h hB;have hm:=methDFence (some ⟨d,0,none⟩);unfold dirV;go_enter Tryz.func176,Tryz.ntmps176
 go_wp2_with fail
 refine (fenceD (HW.out _) (HBD.out _)).mono ?_;rintro e w1 ⟨rfl,S1,hd1,hc1,hg1⟩;have HD:=hid hd1;have HC:Hid (Chg S w w1):=((Chg.refl S w).alloc _).trans hc1 (Grew.refl _ _);have HG:Hid (Grew S S1 w):=fun k hk=>(hg1 k hk).imp id (fun h=>by simp at h;omega)
 clear hd1 hc1 hg1;go_wp2;go_end0;exact ⟨rfl,S1,HD.out,HC.out,HG.out⟩
theorem execD_any {a:DA} {L T:Nat} {w:World} {S:Fp} {cur:Nat→Nat} {dn:(Nat→Prop) × (Nat→Prop)} {F:Nat} {d g r:Nat} (h:DevM a L T w S cur dn.1 dn.2 F) (hB:Blk w d 240 (dirCells a g r)) (i:Ins) (b:Bool) (hg:goodI L b i) (hb:b=false→F=0) (hT:T < 1000000000) (hF:F < 1000000000) :
  Calls Tryz.prog 176 #[.agg #[.int .u8 (i.op:Int), .int .u64 (i.o:Int), .int .u64 (i.v:Int)],dirV d] w (RetIns a L (T+1) w S (runI cur i) (dirI dn i) F (noteI b i)):=by
 cases i with
 | st o v =>
  obtain ⟨h1,h2,h3,_⟩:=hg;have hF0:=hb h1;subst hF0;refine (execD_st h hB o v h2 h3 hT).mono ?_;rintro e w' ⟨rfl,S',hd,hc,hgr⟩;exact ⟨rfl,S',0,hd,fun _=>rfl,Nat.zero_le _,hc,hgr⟩
 | fl o =>
  refine (execD_fl h hB o hg hF).mono ?_;rintro e w' ⟨rfl,S',hd,hc,hgr⟩;exact ⟨rfl,S',F+1,hd.more oM oM,fun h=>(by cases h),nL _,hc,hgr⟩
 | fe =>
  refine (execD_fe h hB).mono ?_;rintro e w' ⟨rfl,S',hd,hc,hgr⟩;exact ⟨rfl,S',0,hd.more oM oM,fun _=>rfl,Nat.zero_le _,hc,hgr⟩
def RunDI (a:DA) (L T:Nat) (w wr:World) (S:Fp) (cur:Nat→Nat) (p:List Ins) (k:Nat):Prop :=
 ∃ S' F',DevM a L (T+k) wr S' (runP cur (p.take k)) (dirP (a.dirty,fun _=>False) (p.take k)).1 (dirP (a.dirty,fun _=>False) (p.take k)).2 F'∧(noteP false (p.take k)=false→F'=0)∧F'≤k∧Chg S w wr∧Grew S S' w
theorem runD_any {a:DA} {L T:Nat} {w:World} {S:Fp} {cur:Nat→Nat} {d g r:Nat} (h:Dev a L T w S cur 0) (hB:Blk w d 240 (dirCells a g r)) (hdS:¬ S d) (A:Option Addr) (n c:Nat) (p:List Ins) (hr:Reads w w.heap.size 3 A n (insCells p)) (hoff:∀ ad,A=some ad→¬ S ad.block) (hg:goodP L false p) (hn:n≤1000000) (hT:T+n≤1000000000) :
  Calls Tryz.prog 78 #[.slice A n c,dirV d] w (RetDev a L (T+n) w S (runP cur p) 0 (.int .i64 0)):=by
 have HV:=hid (validP_any A n c p w hr hn);have HLN:=hid (show p.length=n by have:=hr.1;rw [insCells_len] at this;omega);have HR:=hid hr;have HOF:=hid hoff;have HGD:=hid hg;have HD0:=hid h;have HSL:=hid h.lt;have hmE:=methDErr (some ⟨d,0,none⟩);have hq:∀ W,(binOp .eql 188 (.iface 59 (.pointer (some ⟨d,0,none⟩))) .nilIface).run Tryz.prog W = .ok (.bool false) W:=fun W=>by rfl
 have HBB:=hid (show Blk w d _ _∧¬ S d from ⟨hB,hdS⟩);clear h hr hoff hg hB hdS;unfold dirV;go_enter Tryz.func78,Tryz.ntmps78
 go_wp2_with (go_at_call 175;refine HV.out.mono ?_;rintro e w1 ⟨rfl,hb1⟩;have HI0:Hid (RunDI a L T w w1 S cur p 0):=⟨S,0,HD0.out.below hb1,fun _=>rfl,nL _,Chg.of_below hb1,Grew.refl _ _⟩;clear hb1)
 go_loopw [16] (fun i wr=>∃ (k:Nat),k≤n∧i = .int .i64 k∧Hid (RunDI a L T w wr S cur p k)) (fun i _=>n - (Go.RowKit.intOf i).toNat)
 case atStart=>exact ⟨0,Nat.zero_le _,rfl,HI0⟩
 case round =>
  clear HI0 HD0 HV;obtain ⟨k,hk,rfl,H⟩:=hrel;by_cases hlt:k < n
  ·obtain ⟨S1,F1,hd,hf,hF1,hC,hG⟩:=H.out
   obtain ⟨hl,b,off,hA,hbB,f0,f1,f2⟩:=ins_facts (hC.reads HR.out (nL _) HOF.out) hlt;subst hA;have hgi:=goodP_at HGD.out k hl;have HEX:=hid (fun o=>execD_any (dn:=dirP (a.dirty,fun _=>False) (p.take k)) (hd.below ((Below.refl _ wr).alloc (nL _) o)) ((hC.blk HBB.out.1 HBB.out.2).alloc o) p[k] (noteP false (p.take k)) hgi hf oM oM);have HRP:Hid (runI (runP cur (p.take k)) p[k]=runP cur (p.take (k+1))):=show _=_ by rw [List.take_succ_eq_append_getElem hl,runP_snoc]
   have HNP:Hid (noteI (noteP false (p.take k)) p[k]=noteP false (p.take (k+1))):=show _=_ by rw [List.take_succ_eq_append_getElem hl,noteP_app];rfl
   have HDP:Hid (dirI (dirP (a.dirty,fun _=>False) (p.take k)) p[k]=dirP (a.dirty,fun _=>False) (p.take (k+1))):=show _=_ by rw [List.take_succ_eq_append_getElem hl,dirP_app];rfl
   rw [HRP.out,HNP.out,HDP.out] at HEX;have HC:=hid hC;have HG:=hid hG;unfold dirV at HEX;generalize (p[k]).op=op at *;generalize (p[k]).o=o at *;generalize (p[k]).v=v at *;have hz0:(0:Int)≤(k:Int):=oM;have hz1:(k:Int) < (n:Int):=oM;clear hgi hd hf hC hG H HRP HNP HDP;go_wp2_with fail
   refine (HEX.out _).mono ?_;rintro e w2 ⟨rfl,S2,F2,hd2,hf2,hF2,hC2,hG2⟩;have HN:Hid (RunDI a L T w w2 S cur p (k+1)):=⟨S2,F2,by rw [← Nat.add_assoc];exact hd2,hf2,oM,HC.out.trans (S':=S1) (((Chg.refl S1 wr).alloc _).trans hC2 (Grew.refl _ _)) HG.out,HG.out.trans (w1:=wr) (fun j hj=>(hG2 j hj).imp id (fun h=>by simp at h;omega)) HC.out.size⟩
   clear hd2 hf2 hF2 hC2 hG2;go_wp2;go_roundw
   case rel=>exact ⟨k+1,oM,by go_num,HN⟩
   case measure=>simp [Go.RowKit.intOf];omega
  ·obtain rfl:n=k:=oM
   obtain ⟨S1,F1,hd,hf,hF1,hC,hG⟩:=H.out;rw [List.take_of_length_le (by rw [HLN.out];exact nL _)] at hd hf;have hF0:=hf (goodP_end HGD.out);subst hF0;have hdd:Dev a L (T+n) wr S1 (runP cur p) 0:=hd.mono (fun k hk=>HGD.out.2 _ k hk) (fun _ h=>h.elim);have HD:=hid hdd;have HC:=hid hC;have HG:=hid hG;have HER:=hid (errD hdd (hC.blk HBB.out.1 HBB.out.2));clear hd hdd hC hG hf H;go_wp2_with (go_at_call 432;refine HER.out.mono ?_;rintro e w2 ⟨rfl,rfl⟩)
   go_ret;exact ⟨rfl,S1,HD.out,HC.out,HG.out⟩
end
section
open Go.RowKit
def freeW (o:Nat):Nat:=sealW (3305111552+o)
theorem own_or (o:Nat) (ho:o < 65536):bits .or .u32 (o:Int) 3305111552=((3305111552+o:Nat):Int):=by
 have h:=u32_or_nat o 3305111552 oM oM;rw [show ((3305111552:Nat):Int)=3305111552 from rfl] at h;rw [h];congr 1
 have:=Nat.two_pow_add_eq_or_of_lt (i:=16) (b:=o) oM 50432;rw [show 2 ^ 16 * 50432=3305111552 from rfl] at this;rw [Nat.or_comm,← this]
theorem wordFree_any (o:Nat) (ho:o < 65536) (w:World) (ht:Tab w) :
  Calls Tryz.prog 340 #[.agg #[.int .i64 (-1), .int .i64 (-1), .int .u16 (o:Int)]] w fun e w'=>e = .returned (.int .u64 (freeW o:Int))∧Below w.heap.size w w':=by
 have HB0:Hid (∀ x,Below w.heap.size w (w.alloc x)):=fun x=>(Below.refl _ _).alloc (nL _) x
 have HS:=hid (fun x=>seal_any (3305111552+o) oM (w.alloc x) (ht.below (HB0.out x)));have e1:=own_or o ho;have u1:IntKind.u32.wrap (o:Int)=(o:Int):=by rw [IntKind.wrap_u32'];omega
 unfold freeW;generalize 3305111552+o=z at *;clear ht;go_enter Tryz.func340,Tryz.ntmps340
 go_wp2_with (go_at_call 374;refine (HS.out _).mono ?_;rintro e w1 ⟨rfl,hb1⟩;have HB1:=hid ((HB0.out _).trans (hb1.mono (by simp)));clear hb1)
 go_ret;exact ⟨rfl,HB1.out⟩
def RetProgOk (w:World) (P:List Ins→Prop) (e:Ending) (w':World):Prop:=∃ A m c p,e = .returned (.tuple #[.slice A m c, .int .i64 0])∧P p∧w'.ownsRow w.heap.size 284 3 (.slice A m c) m (insCells p)∧Below w.heap.size w w'
theorem clear_any (c o:Nat) (hc:c≤4064) (ho:o < 65536) (h0:o≠0) (w:World) (ht:Tab w) :
  Calls Tryz.prog 284 #[.int .i64 (c:Int), .int .u16 (o:Int)] w (RetProgOk w (IsStores [(64 * c,freeW o)])):=by
 have HT:=hid ht;have d1:decide ((0:Int)≤(c:Int))=true:=dT;have d2:decide ((c:Int)≤4064)=true:=dT;have d3:((o:Int) == 0)=false:=by rw [beq_eq_false_iff_ne];omega
 have u1:IntKind.u64.wrap (c:Int)=(c:Int):=by rw [IntKind.wrap_u64];omega
 have hfl:64 * c < 18446744073709551616:=oM;have u2:IntKind.u64.wrap ((c:Int) * 64)=((64 * c:Nat):Int):=by rw [IntKind.wrap_u64];omega
 generalize 64 * c=z at *;clear ht;go_enter Tryz.func284,Tryz.ntmps284
 go_wp2;have HC:=hid (Blk.new w 304 #[.int .i64 (-1), .int .i64 (-1), .int .u16 (o:Int)]);have HB0:Hid (Below w.heap.size w (w.alloc (.cells #[.int .i64 (-1), .int .i64 (-1), .int .u16 (o:Int)] 304))):=(Below.refl _ _).alloc (nL _) _;generalize w.alloc (.cells #[.int .i64 (-1), .int .i64 (-1), .int .u16 (o:Int)] 304)=W at *;have HBD:Hid (Below W.heap.size W W.drew):=(Below.refl _ _).drew;refine wp_region_script (fun w'=>Below W.heap.size W w') 4 [(true,0),(true,2),(false,1),(false,3)] (by kernel_rfl) (by kernel_rfl) HBD.out ?_;refine tkS (.int .i64 (c:Int)) (fun w' hS=>?_) ?_
 ·go_simp
 simp only [zA,zB,Act.put,zD,zE,zF];refine tkS (.agg #[.int .i64 (-1), .int .i64 (-1), .int .u16 (o:Int)]) (fun w' hS=>?_) ?_
 ·have f0:w'.cell? ⟨w.heap.size,0,none⟩=some (.int .i64 (-1)):=(HC.out.below hS HC.out.lt).cell 0
  have f1:w'.cell? ⟨w.heap.size,1,none⟩=some (.int .i64 (-1)):=(HC.out.below hS HC.out.lt).cell 1;have f2:w'.cell? ⟨w.heap.size,2,none⟩=some (.int .u16 (o:Int)):=(HC.out.below hS HC.out.lt).cell 2;go_simp
 simp only [zA,zB,zC,Act.put,zD,zE,zF];refine wpScript_do (by rfl) ?_;go_wp2;refine ⟨HBD.out,?_⟩;refine wpScript_do (by rfl) ?_;go_wp2_with fail
 refine (wordFree_any o ho W.drew ((HT.out.below HB0.out).below HBD.out)).mono ?_;rintro e w1 ⟨rfl,hb1⟩;have HB1:=hid (HBD.out.trans (hb1.mono HBD.out.size));have HS:=hid (stores_small _ 1 1 _ _ (one_reads w1 z (freeW o)) oM oM (fun e he=>by simp at he;subst he;exact hfl));have HB2:Hid (∀ x,Below w.heap.size w (w1.alloc x)):=fun x=>((HB0.out.trans (HB1.out.mono HB0.out.size)).alloc (Nat.le_trans HB0.out.size HB1.out.size) x)
 generalize freeW o=y at *;clear hb1;go_wp2_with fail
 refine ⟨HB1.out,?_⟩;show wpList ..;simp only [List.drop_succ_cons,List.drop_zero];go_wp2_with (go_at_call 105;refine HS.out.mono ?_;intro e w2 h1;have h2:=RetProg.back (HB2.out _) h1;obtain ⟨A1,m1,c1,p1,rfl,hp1,ho1,hb1⟩:=h2;have HP1:=hid hp1;have HO1:=hid ho1;have HB1:=hid hb1;clear h1 hp1 ho1 hb1)
 refine NoPanic.normal ?_;go_wp2;go_ret2;exact ⟨_,_,_,_,rfl,HP1.out,HO1.out,HB1.out⟩
end
section
open Go.RowKit
theorem made_at (z:Array Value) (n i:Nat) (h:i < n):(madeCells z n)[i]?=some z[i % z.size]! := by
 unfold madeCells;rw [Array.getElem?_map,Array.getElem?_range,if_pos h];rfl
theorem made_line (L i:Nat) (hi:i < L):(madeCells (Value.agg #[.int .u64 0, .slice none 0 0]).cells (L * 2))[i * 2]?=some (.int .u64 0)∧(madeCells (Value.agg #[.int .u64 0, .slice none 0 0]).cells (L * 2))[i * 2+1]?=some (.slice none 0 0):=by
 have hz:(Value.agg #[.int .u64 0, .slice none 0 0]).cells=#[.int .u64 0, .slice none 0 0]:=rfl;rw [hz,made_at _ _ _ oM,made_at _ _ _ oM];have e1:i * 2 % (#[Value.int .u64 0,Value.slice none 0 0]:Array Value).size=0:=by show i * 2 % 2=0;omega
 have e2:(i * 2+1) % (#[Value.int .u64 0,Value.slice none 0 0]:Array Value).size=1:=by show (i * 2+1) % 2=1;omega
 rw [e1,e2];exact ⟨rfl,rfl⟩
def RetNew (w:World) (L:Nat) (D:Nat→Prop) (v:Nat→Value) (cur:Nat→Nat) (e:Ending) (w':World):Prop:=∃ (a:DA) (S:Fp),e = .returned (v a.d)∧a.dirty=D∧Dev a L 0 w' S cur 0∧(∀ k,S k→w.heap.size≤k)∧Below w.heap.size w w'
theorem dev_cells {dc:Array Value} {a:DA} {L:Nat} (hs:dc.size=15) (e0:dc[0]?=some (.slice (some ⟨a.pb,0,none⟩) (8 * L) (8 * L))) (e1:dc[1]?=some (.slice (some ⟨a.cb,0,none⟩) (8 * L) a.cc)) (e2:dc[2]?=some (.slice (some ⟨a.lb,0,none⟩) L L)) (e3:dc[11]?=some (.bool false)) (e4:dc[12]?=some (.bool false)) (e5:dc[13]?=some (.int .i64 0)) (e6:dc[14]?=some (.int .u64 0))
  (e7:∀ j,j < 8→dc[3+j]?=some (.pointer (some ⟨a.th j,0,none⟩))):dc=devCells a L 0:=by
 apply Array.ext_getElem?;intro i;by_cases hi:i < 15
 ·rcases (show i=0∨i=1∨i=2∨i=3∨i=4∨i=5∨i=6∨i=7∨i=8∨i=9∨i=10∨i=11∨i=12∨i=13∨i=14 by omega) with rfl | rfl | rfl | rfl | rfl | rfl | rfl | rfl | rfl | rfl | rfl | rfl | rfl | rfl | rfl
  ·exact e0
  ·exact e1
  ·exact e2
  ·exact e7 0 oM
  ·exact e7 1 oM
  ·exact e7 2 oM
  ·exact e7 3 oM
  ·exact e7 4 oM
  ·exact e7 5 oM
  ·exact e7 6 oM
  ·exact e7 7 oM
  ·exact e3
  ·exact e4
  ·exact e5
  ·exact e6
 ·rw [Array.getElem?_eq_none oM,Array.getElem?_eq_none (by show 15≤i;omega)]
theorem dev_of {w0 w w':World} {L d cb cc lb pb:Nat} {per cs ls:Array Value} {th nt:Nat→Nat} {pl:List Nat} (D:Nat→Prop) (v:Nat→Value) (hL:L≤4096) (hlt:w0.heap.size≤pb) (hper:Blk w pb 32 per) (hps:per.size=8 * L) (hpr:RowU per pl) (hpl:pl.length=8 * L) (hb0:Below w0.heap.size w0 w) (H:OfI w w' pb L d cb cc lb cs ls th nt 8) (h1:cs.size=cc) (h2:8 * L≤cc) (h3:cc≤9223372036854775807)
  (hru:RowU cs pl) (hls:ls=madeCells (Value.agg #[.int .u64 0, .slice none 0 0]).cells (L * 2)) (g1:w.heap.size≤cb) (g2:w.heap.size≤lb) :
  RetNew w0 L D v (fun k=>pl.getD k 0) (.returned (v d)) w':=by
 obtain ⟨⟨dc,hd,hds,e0,e1,e2,e3,e4,e5,e6,e7⟩,hcu,hli,hth,hmp,hbl,hgd,hgt⟩:=H;have h0:=hb0.size;have hbw:Below w0.heap.size w0 w':=hb0.trans (hbl.mono h0);have hpb:Blk w' pb 32 per:=hper.below hbl hper.lt;have hdc:=dev_cells (a:=⟨d,pb,cb,lb,nt,th,cc,D⟩) hds e0 e1 e2 e3 e4 e5 e6 e7;subst hdc;have hmz:=hmp oM;have hml:=hmz.lt;have hpbl:=hper.lt;have hat:∀ {c:Array Value},RowU c pl→∀ i,i < 8 * L→c[i]?=some (.int .u64 ((pl.getD i 0:Nat):Int)):=fun hr i hi=>by
  rw [hr.2 i oM,List.getD_eq_getElem?_getD,List.getElem?_eq_getElem oM];rfl
 refine ⟨⟨d,pb,cb,lb,nt,th,cc,D⟩,fun k=>w0.heap.size≤k∧k < w'.heap.size,rfl,rfl,⟨⟨fun _=>0,fun _=>0,fun _ => .slice none 0 0,fun _=>[],fun k=>pl.getD k 0,fun _=>[]⟩,0,per,cs,ls,?_,⟨[],hmz,fun p hp=>(by cases hp),fun i h=>h.elim⟩,fun k _ _ e he=>(by cases he)⟩,fun k hk=>hk.1,hbw⟩;exact {
  dev:=hd
  perB:=hpb
  perS:=hps
  perI:=fun i hi=>⟨_,hat hpr i hi⟩
  curB:=hcu
  curS:=h1
  curL:=h2
  curM:=h3
  curI:=fun i hi=>hat hru i hi
  linB:=hli
  linS:=by rw [hls,size_madeCells];omega
  linD:=fun i hi=>by rw [hls];exact (made_line L i hi).1
  linH:=fun i hi=>by rw [hls];exact (made_line L i hi).2
  own:=fun i hi=>World.ownsRow_nil _ _ _ _
  ok:=fun i hi k hk=>absurd hk (by simp)
  few:=fun i hi=>nL _
  apart:=fun i j g hi hj h=>by cases h
  thr:=hth
  sd:=⟨by show w0.heap.size≤d;omega,hd.lt⟩
  sp:=⟨hlt,hpb.lt⟩
  sc:=⟨by show w0.heap.size≤cb;omega,hcu.lt⟩
  sl:=⟨by show w0.heap.size≤lb;omega,hli.lt⟩
  sn:=⟨by have:=(hgt 0 oM).2;show w0.heap.size≤nt 0;omega,hml⟩
  st:=fun j hj=>⟨by have:=(hgt j hj).1;show w0.heap.size≤th j;omega,(hth j hj).lt⟩
  sh:=fun i g hi h=>by cases h
  lt:=fun k hk=>hk.2
  ne:=by show pb≠cb;omega
  hL:=hL
  hT:=oM
  pv:=fun i hi=>hat hpr i hi
  hx:=fun _ _=>rfl
  lin:=fun _ _ e he=>by cases he
  link:=fun _ _=>rfl }
theorem new_any (D:Nat→Prop) (L:Nat) (h0:0 < L) (hL:L≤4096) (w:World):Calls Tryz.prog 73 #[.int .i64 (L:Int)] w (RetNew w L D (fun d => .tuple #[.pointer (some ⟨d,0,none⟩), .int .i64 0]) (fun _=>0)):=by
 obtain ⟨j0,hj0,hk0,hk1,hk2⟩:=info_parts infoU64;have hmk:∀ W:World,(Instr.makeSlice 99 (.int .i64 ((8 * L:Nat):Int)) (.int .i64 ((8 * L:Nat):Int))).run Tryz.prog W = .ok (.slice (some ⟨W.heap.size,0,none⟩) (8 * L) (8 * L)) (W.alloc (.cells (madeCells #[.int .u64 0] (8 * L)) 32)):=fun W=>by
  have h:=run_makeSlice (P:=Tryz.prog) W 99 32 j0 (.int .u64 0) Tryz.underlying99 hj0 hk0 .i64 .i64 ((8 * L:Nat):Int) ((8 * L:Nat):Int) oM oM (by rw [hk1];omega) (by rw [hk2];omega) oM;rw [hk1,Int.toNat_natCast,Nat.mul_one] at h;exact h
 have HO:=hid (of_any w.heap.size L (List.replicate (8 * L) 0) hL h0 (w.alloc (.cells (madeCells #[.int .u64 0] (8 * L)) 32)) (by
  rw [show (w.alloc (.cells (madeCells #[.int .u64 0] (8 * L)) 32)).heap.size=w.heap.size+1 by simp];refine row_reads_at w _ rfl _ (8 * L) 1 32 _ ?_ ?_
  ·refine congrArg (fun x=>Obj.cells x 32) (Array.ext' ?_)
   rw [toList_madeCells_one];simp [uCells]
  ·simp [uCells]))
 have HN:Hid (∀ e w',RetOf (w.alloc (.cells (madeCells #[.int .u64 0] (8 * L)) 32)) w.heap.size L (List.replicate (8 * L) 0) e w'→∃ d:Nat,e = .returned (.pointer (some ⟨d,0,none⟩))∧RetNew w L D (fun d => .tuple #[.pointer (some ⟨d,0,none⟩), .int .i64 0]) (fun _=>0) (.returned (.tuple #[.pointer (some ⟨d,0,none⟩), .int .i64 0])) w'):=by
  rintro e w1 ⟨d,cb,cc,lb,cs,ls,th,nt,rfl,h1,h2,h3,h4,h5,h6,h7,h8⟩;refine ⟨d,rfl,?_⟩;have hz:(fun k=>(List.replicate (8 * L) 0).getD k 0)=fun _=>0:=funext fun k=>by simp [List.getD_eq_getElem?_getD,List.getElem?_replicate];split <;> rfl
  have hnew:Below w.heap.size w (w.alloc (.cells (madeCells #[.int .u64 0] (8 * L)) 32)):=(Below.refl _ _).alloc (nL _) _;have h:=dev_of (w0:=w) D (fun d => .tuple #[.pointer (some ⟨d,0,none⟩), .int .i64 0]) hL (nL _) (Blk.new w 32 (madeCells #[.int .u64 0] (8 * L))) (by simp [size_madeCells]) (pl:=List.replicate (8 * L) 0) ⟨by simp [size_madeCells],fun i hi=>by
   have hi2:i < 8 * L:=by simpa using hi
   rw [made_at _ _ _ hi2,List.getElem_replicate];congr 1
   show (#[Value.int .u64 0]:Array Value)[i % 1]! = _;rw [Nat.mod_one];rfl⟩ (by simp) hnew h1 h2 h3 h4 h5 h6 h7 h8
  rw [hz] at h;exact h
 have e1:decide ((L:Int) < 1)=false:=dF;have e2:decide ((4096:Int) < (L:Int))=false:=dF;have u1:IntKind.i64.wrap ((L:Int) * 8)=((8 * L:Nat):Int):=by rw [IntKind.wrap_i64];omega
 have u2:(L:Int) * 8=((8 * L:Nat):Int):=oM;generalize madeCells #[.int .u64 0] (8 * L)=M at *;generalize 8 * L=N at *;go_enter Tryz.func73,Tryz.ntmps73
 go_wp2_with (go_at_call 168;refine HO.out.mono ?_;intro e w1 h1;obtain ⟨d,rfl,h2⟩:=HN.out e w1 h1;have HZ:=hid h2;clear h1 h2)
 go_ret2;exact HZ.out
end
section
open Go.RowKit
theorem arenaValid_any {a:DA} {L T:Nat} {w:World} {S:Fp} {cur:Nat→Nat} {F:Nat} (h:Dev a L T w S cur F) (s n:Nat) (hn:32≤n) (hs:s+n≤L) :
  Calls Tryz.prog 283 #[memV a, .int .i64 (s:Int), .int .i64 (n:Int)] w fun e w'=>e = .returned (.bool true)∧w=w':=by
 obtain ⟨ls,exe,per,cs,lsC,hdc,hnt⟩:=h;have hL:=hdc.hL;obtain ⟨f0,f2,_,_,_⟩:=hdc.facts (j:=0) oM;clear hdc hnt;have hq:=eqMem (some ⟨a.th 0,0,none⟩);have hmS:=methSize (some ⟨a.th 0,0,none⟩);unfold memV;have e1:decide ((s:Int) < 0)=false:=dF;have e2:decide ((n:Int) < 32)=false:=dF;have u1:IntKind.u64.wrap ((L:Int) * 64)=(L:Int) * 64:=by rw [IntKind.wrap_u64];omega
 have u2:IntKind.u64.wrap (n:Int)=(n:Int):=by rw [IntKind.wrap_u64];omega
 have u3:IntKind.u64.wrap (s:Int)=(s:Int):=by rw [IntKind.wrap_u64];omega
 have u4:IntKind.u64.wrap ((L:Int) - (s:Int))=(L:Int) - (s:Int):=by rw [IntKind.wrap_u64];omega
 have d1:((L:Int) * 64).tdiv 64=(L:Int):=by rw [Int.mul_tdiv_cancel _ (by decide)]
 have d2:(n:Int).tdiv 32=(n:Int) / 32:=by rw [Int.tdiv_eq_ediv_of_nonneg oM]
 have e3:decide ((L:Int) < (s:Int))=false:=dF;have e4:decide ((L:Int) - (s:Int) < (n:Int))=false:=dF;have u5:IntKind.u64.wrap ((n:Int) / 32)=(n:Int) / 32:=by rw [IntKind.wrap_u64];omega
 have u6:IntKind.u64.wrap ((n:Int) / 32 * 32)=(n:Int) / 32 * 32:=by rw [IntKind.wrap_u64];omega
 have u7:IntKind.u64.wrap ((s:Int)+(n:Int) / 32 * 32)=(s:Int)+(n:Int) / 32 * 32:=by rw [IntKind.wrap_u64];omega
 have e5:decide ((s:Int)+(n:Int) / 32 * 32≤4096)=true:=dT;go_enter Tryz.func283,Tryz.ntmps283
 go_wp2;go_ret;exact ⟨rfl,rfl⟩
def arC (cur:Nat→Nat) (s:Nat):Nat→Nat→Nat
 | 0=>cur
 | k+1=>wrS (arC cur s k) [(64 * (s+32 * k),freeW 1)]
def AreI (a:DA) (L T:Nat) (w wr:World) (S:Fp) (cur:Nat→Nat) (s k:Nat):Prop:=∃ S',Dev a L (T+3 * k) wr S' (arC cur s k) 0∧Chg S w wr∧Grew S S' w
theorem freeW_lt (o:Nat) (ho:o < 65536):freeW o < 18446744073709551616:=sealW_lt _ oM
theorem arenaFormat_any {a:DA} {L T:Nat} {w:World} {S:Fp} {cur:Nat→Nat} (h:Dev a L T w S cur 0) (ht:Tab w) (hg:¬ S 1) (s n K:Nat) (hn:32≤n) (hs:s+n≤L) (hK:n / 32=K) (hT:T+3 * K≤1000000000) :
  Calls Tryz.prog 171 #[memV a, .int .i64 (s:Int), .int .i64 (n:Int)] w (RetDev a L (T+3 * K) w S (arC cur s K) 0 (.int .i64 0)):=by
 have HV:=hid (arenaValid_any h s n hn hs);have HI0:Hid (AreI a L T w w S cur s 0):=⟨S,h,Chg.refl _ _,Grew.refl _ _⟩
 have HG:=hid hg;have HT:=hid ht;obtain ⟨ls,exe,per,cs,lsC,hdc,hnt⟩:=h;have hL:=hdc.hL;obtain ⟨f0,_,_,_,g2⟩:=hdc.facts (j:=0) oM;have hmE:=methErr (some ⟨a.th 0,0,none⟩);have d2:(n:Int).tdiv 32=(K:Int):=by rw [Int.tdiv_eq_ediv_of_nonneg oM];omega
 have d3:(n:Int) / 32=(K:Int):=oM;have hK32:K * 32≤n:=oM;clear hdc hnt ht hg hK;unfold memV at *;go_enter Tryz.func171,Tryz.ntmps171
 go_wp2_with (first
  | (go_at_call 283;refine HV.out.mono ?_;rintro e w1 ⟨rfl,rfl⟩)
  | go_in)
 clear f0 g2 HV;go_loopw [24] (fun i wr=>∃ (k:Nat),k≤K∧i = .int .i64 k∧Hid (AreI a L T w wr S cur s k)) (fun i _=>K - (RowKit.intOf i).toNat)
 case atStart=>exact ⟨0,Nat.zero_le _,rfl,HI0⟩
 case round =>
  clear HI0;obtain ⟨k,hk,rfl,H⟩:=hrel;by_cases hlt:k < K
  ·obtain ⟨S1,hd,hc,hgr⟩:=H.out
   have HC:=hid (clear_any (s+32 * k) 1 oM oM oM wr (HT.out.chg hc HG.out));have HR:Hid (∀ (A:Option Addr) (m c:Nat) (p:List Ins) (w1:World),IsStores [(64 * (s+32 * k),freeW 1)] p→w1.ownsRow wr.heap.size 284 3 (.slice A m c) m (insCells p)→Below wr.heap.size wr w1 →
     Calls Tryz.prog 78 #[.slice A m c,memV a] w1 (fun e w2=>e = .returned (.int .i64 0)∧AreI a L T w w2 S cur s (k+1))):=fun A m c p w1 hp ho hb=>by
    refine (run_stores (hd.below hb) ho hd.lt hp (fun e he=>by simp only [List.mem_singleton] at he;subst he;exact ⟨oM,oM,freeW_lt 1 oM⟩) (by simp) (by simp;omega)).mono ?_;intro e w2 h2;obtain ⟨he,S2,hd2,hc2,hg2⟩:=RetDev.then_ hc hgr (RetDev.back hb h2);exact ⟨he,S2,hd2.more (by simp;omega) oM,hc2,hg2⟩
   have e7:((s+32 * k:Nat):Int)=(s:Int)+(k:Int) * 32:=oM;rw [e7] at HC;generalize 64 * (s+32 * k)=z at *;clear hd hc hgr e7 H;unfold memV at *;go_wp2_with (first
    | (go_at_call 284;refine HC.out.mono ?_;rintro e w1 ⟨A1,m1,c1,p1,rfl,hp1,ho1,hb1⟩;have HRR:=hid (HR.out A1 m1 c1 p1 w1 hp1 ho1 hb1);clear hp1 ho1 hb1)
    | (go_at_call 78;refine HRR.out.mono ?_;rintro e w2 ⟨rfl,h2⟩;have HZ:=hid h2;clear h2)
    | go_in)
   go_roundw
   case rel =>
    repeat apply Exists.intro
    refine ⟨?_,rfl⟩;exact ⟨k+1,oM,by go_num,HZ⟩
   case measure=>simp [RowKit.intOf];omega
  ·obtain rfl:k=K:=oM
   obtain ⟨S1,hd,hc,hgr⟩:=H.out;have HZ:=hid (show ∃ S',Dev a L (T+3 * k) wr S' (arC cur s k) 0∧Chg S w wr∧Grew S S' w from H.out);obtain ⟨ls,exe,per,cs,lsC,hdc,hnt⟩:=hd;obtain ⟨f0,_,_,_,g2⟩:=hdc.facts (j:=0) oM;clear hdc hnt hc hgr H;go_wp2;go_ret;exact ⟨rfl,HZ.out⟩
end
section
open Go.RowKit
theorem header_free (w:World) (ht:Tab w) :
  Calls Tryz.prog 350 #[.int .u64 (freeW 1:Int)] w fun e w'=>e = .returned (.tuple #[.agg #[.int .i64 (-1), .int .i64 (-1), .int .u16 1], .bool true])∧Below w.heap.size w w':=by
 have HS:=hid (fun (W:World) (hW:Below w.heap.size w W)=>seal_any 3305111553 oM W (ht.below hW));have hf:freeW 1=sealW 3305111553:=rfl;have hs:IntKind.u32.wrap (sealW 3305111553:Int)=3305111553:=by
  rw [IntKind.wrap_u32'];unfold sealW;omega
 rw [hf];generalize sealW 3305111553=z at *;have HB0:Hid (∀ x,Below w.heap.size w (w.alloc x)):=fun x=>(Below.refl _ _).alloc (nL _) x
 have b1:bits .and .u32 50432 15=0:=by decide
 have b2:bits .and .u32 3152 15=0:=by decide
 have b3:IntKind.u16.wrap 3305111553=1:=by decide
 have q1:((z:Int) == (z:Int))=true:=by simp
 clear ht hf;go_enter Tryz.func350,Tryz.ntmps350
 go_wp2_with (go_at_call 374;refine (HS.out _ (HB0.out _)).mono ?_;rintro e w1 ⟨rfl,hb1⟩;have HB1:=hid hb1;have hk:=(Blk.new w 304 #[.int .i64 0, .int .i64 0, .int .u16 0]).below hb1 (Blk.new w 304 #[.int .i64 0, .int .i64 0, .int .u16 0]).lt;have hlt:=hk.lt;have c0:w1.cell? ⟨w.heap.size,0,none⟩=some (.int .i64 0):=hk.cell 0;have c1:w1.cell? ⟨w.heap.size,1,none⟩=some (.int .i64 0):=hk.cell 1;have c2:w1.cell? ⟨w.heap.size,2,none⟩=some (.int .u16 0):=hk.cell 2;have z0:w1.frozen? ⟨w.heap.size,0,none⟩=false:=hk.frozen 0;have z1:w1.frozen? ⟨w.heap.size,1,none⟩=false:=hk.frozen 1;have z2:w1.frozen? ⟨w.heap.size,2,none⟩=false:=hk.frozen 2;clear hb1 hk)
 have n01:(⟨w.heap.size,0,none⟩:Addr)≠⟨w.heap.size,1,none⟩:=by simp
 have n02:(⟨w.heap.size,0,none⟩:Addr)≠⟨w.heap.size,2,none⟩:=by simp
 have n12:(⟨w.heap.size,1,none⟩:Addr)≠⟨w.heap.size,2,none⟩:=by simp
 refine bodyPost_ret (v := .tuple #[.agg #[.int .i64 (-1), .int .i64 (-1), .int .u16 1], .bool true]) (by simp [results,Tryz.results350,go_sem,c0,c1,c2,hlt]) rfl ⟨rfl,?_⟩;have h0:=(HB0.out (.cells #[.int .i64 0, .int .i64 0, .int .u16 0] 304)).trans (HB1.out.mono (by simp));have h1:=((h0.setCell (p:=⟨w.heap.size,0,none⟩) (nL _) (.int .i64 (-1))).setCell (p:=⟨w.heap.size,1,none⟩) (nL _) (.int .i64 (-1))).setCell (p:=⟨w.heap.size,2,none⟩) (nL _) (.int .u16 1);exact h1.alloc h1.size _
end
end Go.Proofs.YtfkjjoglnmeciaaGreatDoor
