/- The walks and laws that the claim leans on, part 5. -/
import Derived.Test.YtfkjjoglnmeciaaGreatDoorQad
set_option maxRecDepth 100000
set_option maxHeartbeats 16000000
namespace Go.Proofs.YtfkjjoglnmeciaaGreatDoor
open Go.Lib (hid)
section
open Go.RowKit
inductive Ins where
 | st (off v:Nat)
 | fl (off:Nat)
 | fe
def Ins.cells:Ins→List Value
 | .st o v=>[.int .u8 1, .int .u64 (o:Int), .int .u64 (v:Int)]
 | .fl o=>[.int .u8 2, .int .u64 (o:Int), .int .u64 0]
 | .fe=>[.int .u8 3, .int .u64 0, .int .u64 0]
theorem Ins.cells_len (i:Ins):i.cells.length=3:=by cases i <;> rfl
theorem Ins.cells_one (i:Ins):∀ u∈i.cells,u.oneCell'=true:=by
 intro u hu;cases i <;> simp only [Ins.cells,List.mem_cons,List.not_mem_nil,or_false] at hu <;> rcases hu with rfl | rfl | rfl <;> rfl
def insCells (p:List Ins):List Value:=p.flatMap Ins.cells
theorem insCells_len (p:List Ins):(insCells p).length=p.length * 3:=by
 induction p with
 | nil=>rfl
 | cons i p ih=>simp only [insCells,List.flatMap_cons,List.length_append,Ins.cells_len,List.length_cons] at *;omega
theorem insCells_one (p:List Ins):∀ u∈insCells p,u.oneCell'=true:=by
 intro u hu;simp only [insCells,List.mem_flatMap] at hu;obtain ⟨i,_,hi⟩:=hu;exact Ins.cells_one i u hi
theorem insCells_app (p q:List Ins):insCells (p++q)=insCells p++insCells q:=by simp [insCells]
theorem insCells_at:∀ (p:List Ins) (k j:Nat) (hk:k < p.length),j < 3→(insCells p)[k * 3+j]?=(p[k]).cells[j]?
 | i :: p,0,j,_,hj=>by
  simp only [insCells,List.flatMap_cons];rw [List.getElem?_append_left (by rw [Ins.cells_len];omega)];simp
 | i :: p,k+1,j,h,hj=>by
  have ih:=insCells_at p k j (by simpa using h) hj;simp only [insCells,List.flatMap_cons] at *;rw [List.getElem?_append_right (by rw [Ins.cells_len];omega),Ins.cells_len,show (k+1) * 3+j - 3=k * 3+j by omega,ih];simp
def runI (cur:Nat→Nat):Ins→Nat→Nat
 | .st o v=>upd cur (o / 8) v
 | _=>cur
def runP (cur:Nat→Nat) (p:List Ins):Nat→Nat:=p.foldl runI cur
theorem runP_app (cur:Nat→Nat) (p q:List Ins):runP cur (p++q)=runP (runP cur p) q:=by simp [runP]
theorem runP_snoc (cur:Nat→Nat) (p:List Ins) (i:Ins):runP cur (p++[i])=runI (runP cur p) i:=by simp [runP]
def noteI (b:Bool):Ins→Bool
 | .st _ _=>b
 | .fl _=>true
 | .fe=>false
def noteP (b:Bool) (p:List Ins):Bool:=p.foldl noteI b
theorem noteP_app (b:Bool) (p q:List Ins):noteP b (p++q)=noteP (noteP b p) q:=by simp [noteP]
def dirI (d:(Nat→Prop) × (Nat→Prop)):Ins→(Nat→Prop) × (Nat→Prop)
 | .st o _=>(fun k=>d.1 k∨k=o / 8,fun _=>False)
 | .fl o=>(d.1,fun i=>d.2 i∨i=o / 64)
 | .fe=>(fun k=>d.1 k∧¬ d.2 (k / 8),fun _=>False)
def dirP (d:(Nat→Prop) × (Nat→Prop)) (p:List Ins):(Nat→Prop) × (Nat→Prop):=p.foldl dirI d
theorem dirP_app (d:(Nat→Prop) × (Nat→Prop)) (p q:List Ins):dirP d (p++q)=dirP (dirP d p) q:=by simp [dirP]
theorem dirI_mono {d e:(Nat→Prop) × (Nat→Prop)} (h1:∀ k,d.1 k→e.1 k) (h2:∀ i,e.2 i→d.2 i) (i:Ins):(∀ k,(dirI d i).1 k→(dirI e i).1 k)∧∀ j,(dirI e i).2 j→(dirI d i).2 j:=by
 cases i with
 | st o v=>exact ⟨fun k hk=>hk.imp (h1 k) id,fun _ h=>h⟩
 | fl o=>exact ⟨h1,fun j hj=>hj.imp (h2 j) id⟩
 | fe=>exact ⟨fun k hk=>⟨h1 k hk.1,fun h=>hk.2 (h2 _ h)⟩,fun _ h=>h⟩
theorem dirP_mono:∀ (p:List Ins) {d e:(Nat→Prop) × (Nat→Prop)},(∀ k,d.1 k→e.1 k)→(∀ i,e.2 i→d.2 i)→∀ k,(dirP d p).1 k→(dirP e p).1 k
 | [],_,_,h1,_=>h1
 | i :: p,_,_,h1,h2=>dirP_mono p (dirI_mono h1 h2 i).1 (dirI_mono h1 h2 i).2
def Clean (p:List Ins):Prop:=∀ (D:Nat→Prop) k,(dirP (D,fun _=>False) p).1 k→D k
theorem Clean.app {p q:List Ins} (hp:Clean p) (hq:Clean q):Clean (p++q):=fun D k h=>by
 rw [dirP_app] at h;exact hp D k (hq _ k (dirP_mono q (d:=dirP (D,fun _=>False) p) (e:=((dirP (D,fun _=>False) p).1,fun _=>False)) (fun _ h=>h) (fun _ h=>h.elim) k h))
def goodI (L:Nat) (b:Bool):Ins→Prop
 | .st o v=>b=false∧o % 8=0∧o < 64 * L∧v < 18446744073709551616
 | .fl o=>o < 64 * L
 | .fe=>True
def goodQ (L:Nat):Bool→List Ins→Prop
 | b,[]=>b=false
 | b,i :: p=>goodI L b i∧goodQ L (noteI b i) p
theorem goodQ_at {L:Nat}:∀ {p:List Ins} {b:Bool} (_:goodQ L b p) (k:Nat) (hk:k < p.length),goodI L (noteP b (p.take k)) p[k]
 | i :: p,b,h,0,_=>by simpa [noteP] using h.1
 | i :: p,b,h,k+1,hk=>by
  have:=goodQ_at h.2 k (by simpa using hk);simpa [noteP] using this
theorem goodQ_end {L:Nat}:∀ {p:List Ins} {b:Bool} (_:goodQ L b p),noteP b p=false
 | [],b,h=>h
 | i :: p,b,h=>by have:=goodQ_end h.2;simpa [noteP] using this
theorem goodQ_app {L:Nat}:∀ {p:List Ins} {b:Bool} {q:List Ins},goodQ L b p→goodQ L false q→goodQ L b (p++q)
 | [],b,q,h,h'=>by have:b=false:=h;subst this;exact h'
 | i :: p,b,q,h,h'=>⟨h.1,goodQ_app h.2 h'⟩
def goodP (L:Nat) (b:Bool) (p:List Ins):Prop:=goodQ L b p∧Clean p
theorem goodP_at {L:Nat} {p:List Ins} {b:Bool} (h:goodP L b p) (k:Nat) (hk:k < p.length):goodI L (noteP b (p.take k)) p[k]:=goodQ_at h.1 k hk
theorem goodP_end {L:Nat} {p:List Ins} {b:Bool} (h:goodP L b p):noteP b p=false:=goodQ_end h.1
theorem goodP_app {L:Nat} {p:List Ins} {b:Bool} {q:List Ins} (h:goodP L b p) (h':goodP L false q):goodP L b (p++q):=⟨goodQ_app h.1 h'.1,h.2.app h'.2⟩
section
variable {a:DA} {L T:Nat} {w:World} {S:Fp} {cur:Nat→Nat} {D N:Nat→Prop} {F:Nat}
theorem DevM.more (h:DevM a L T w S cur D N F) {T':Nat} (hT:T≤T') (hT':T'≤1000000000):DevM a L T' w S cur D N F:=by
 obtain ⟨s,exe,per,cs,ls,hd,hn⟩:=h;exact ⟨s,exe,per,cs,ls,{ hd with few:=fun i hi=>Nat.le_trans (hd.few i hi) hT,hT:=hT' },hn⟩
theorem DevM.lt (h:DevM a L T w S cur D N F):∀ k,S k→k < w.heap.size:=by
 obtain ⟨s,exe,per,cs,ls,hd,hn⟩:=h;exact hd.lt
theorem DevM.chg {Z:Fp} {w':World} (h:DevM a L T w S cur D N F) (hc:Chg Z w w') (hd:∀ k,S k→¬ Z k):DevM a L T w' S cur D N F:=by
 obtain ⟨s,exe,per,cs,ls,hdc,⟨l,hm,hn⟩,hcl⟩:=h;exact ⟨s,exe,per,cs,ls,hdc.chg hc hd,⟨l,hc.map hm (hd _ hdc.sn),hn⟩,hcl⟩
theorem DevM.below {w':World} (h:DevM a L T w S cur D N F) (hb:Below w.heap.size w w'):DevM a L T w' S cur D N F:=h.chg (Z:=Fp.no) (Chg.of_below hb) (fun _ _ h=>h)
theorem Dev.more (h:Dev a L T w S cur F) {T':Nat} (hT:T≤T') (hT':T'≤1000000000):Dev a L T' w S cur F:=DevM.more h hT hT'
theorem Dev.lt (h:Dev a L T w S cur F):∀ k,S k→k < w.heap.size:=DevM.lt h
theorem Dev.chg {Z:Fp} {w':World} (h:Dev a L T w S cur F) (hc:Chg Z w w') (hd:∀ k,S k→¬ Z k):Dev a L T w' S cur F:=DevM.chg h hc hd
theorem Dev.below {w':World} (h:Dev a L T w S cur F) (hb:Below w.heap.size w w'):Dev a L T w' S cur F:=DevM.below h hb
theorem store_devM (h:DevM a L T w S cur D N 0) (off v:Nat) (h8:off % 8=0) (hlt:off < 64 * L) (hT:T < 1000000000) :
  Calls Tryz.prog 76 #[.pointer (some ⟨a.th 0,0,none⟩), .int .u64 (off:Int), .int .u64 (v:Int)] w (RetDevM a L (T+1) w S (upd cur (off / 8) v) (fun k=>D k∨k=off / 8) (fun _=>False) 0 (.tuple #[])):=by
 obtain ⟨s,exe,per,cs,ls,hd,hn,hcl⟩:=h;exact store_any hd hn hcl off v h8 hlt hT
theorem flush_devM (h:DevM a L T w S cur D N F) (off:Nat) (hlt:off < 64 * L) (hF:F < 1000000000) :
  Calls Tryz.prog 427 #[.pointer (some ⟨a.th 0,0,none⟩), .int .u64 (off:Int)] w (RetDevM a L T w S cur D (fun i=>N i∨i=off / 64) (F+1) (.tuple #[])):=by
 obtain ⟨s,exe,per,cs,ls,hd,hn,hcl⟩:=h;exact flush_any hd hn hcl off hlt hF
theorem fence_devM (h:DevM a L T w S cur D N F) :
  Calls Tryz.prog 426 #[.pointer (some ⟨a.th 0,0,none⟩)] w (RetDevM a L T w S cur (fun k=>D k∧¬ N (k / 8)) (fun _=>False) 0 (.tuple #[])):=by
 obtain ⟨s,exe,per,cs,ls,hd,hn,hcl⟩:=h;exact fence_any hd hn hcl
end
def memV (a:DA):Value := .iface 58 (.pointer (some ⟨a.th 0,0,none⟩))
theorem methStore (p : Option Addr) (w : World) : (method 640 58 (.pointer p) "Store").run Tryz.prog w = .ok (76, .pointer p) w := by kernel_rfl
theorem methFlush (p : Option Addr) (w : World) : (method 640 58 (.pointer p) "Flush").run Tryz.prog w = .ok (427, .pointer p) w := by kernel_rfl
theorem methFence (p : Option Addr) (w : World) : (method 640 58 (.pointer p) "Fence").run Tryz.prog w = .ok (426, .pointer p) w := by kernel_rfl
theorem methLoad (p : Option Addr) (w : World) : (method 640 58 (.pointer p) "Load").run Tryz.prog w = .ok (65, .pointer p) w := by kernel_rfl
theorem methErr (p : Option Addr) (w : World) : (method 640 58 (.pointer p) "Err").run Tryz.prog w = .ok (112, .pointer p) w := by kernel_rfl
theorem methSize (p : Option Addr) (w : World) : (method 640 58 (.pointer p) "Size").run Tryz.prog w = .ok (335, .pointer p) w := by kernel_rfl
theorem exec_st {a:DA} {L T:Nat} {w:World} {S:Fp} {cur:Nat→Nat} {D N:Nat→Prop} (h:DevM a L T w S cur D N 0) (off v:Nat) (h8:off % 8=0) (hlt:off < 64 * L) (hT:T < 1000000000) :
  Calls Tryz.prog 176 #[.agg #[.int .u8 1, .int .u64 (off:Int), .int .u64 (v:Int)],memV a] w (RetDevM a L (T+1) w S (upd cur (off / 8) v) (fun k=>D k∨k=off / 8) (fun _=>False) 0 (.tuple #[])):=by
 have HW:=hid (fun o=>h.below ((Below.refl _ w).alloc (nL _) o));clear h;have hm:=methStore (some ⟨a.th 0,0,none⟩);unfold memV;go_enter Tryz.func176,Tryz.ntmps176
 go_wp2_with fail
 refine (store_devM (HW.out _) off v h8 hlt hT).mono ?_;rintro e w1 ⟨rfl,S1,hd1,hc1,hg1⟩;have HD:=hid hd1;have HC:Hid (Chg S w w1):=((Chg.refl S w).alloc _).trans hc1 (Grew.refl _ _);have HG:Hid (Grew S S1 w):=fun k hk=>(hg1 k hk).imp id (fun h=>by simp at h;omega)
 clear hd1 hc1 hg1;go_wp2;go_end0;exact ⟨rfl,S1,HD.out,HC.out,HG.out⟩
theorem exec_fl {a:DA} {L T:Nat} {w:World} {S:Fp} {cur:Nat→Nat} {D N:Nat→Prop} {F:Nat} (h:DevM a L T w S cur D N F) (off:Nat) (hlt:off < 64 * L) (hF:F < 1000000000) :
  Calls Tryz.prog 176 #[.agg #[.int .u8 2, .int .u64 (off:Int), .int .u64 0],memV a] w (RetDevM a L T w S cur D (fun i=>N i∨i=off / 64) (F+1) (.tuple #[])):=by
 have HW:=hid (fun o=>h.below ((Below.refl _ w).alloc (nL _) o));clear h;have hm:=methFlush (some ⟨a.th 0,0,none⟩);unfold memV;go_enter Tryz.func176,Tryz.ntmps176
 go_wp2_with fail
 refine (flush_devM (HW.out _) off hlt hF).mono ?_;rintro e w1 ⟨rfl,S1,hd1,hc1,hg1⟩;have HD:=hid hd1;have HC:Hid (Chg S w w1):=((Chg.refl S w).alloc _).trans hc1 (Grew.refl _ _);have HG:Hid (Grew S S1 w):=fun k hk=>(hg1 k hk).imp id (fun h=>by simp at h;omega)
 clear hd1 hc1 hg1;go_wp2;go_end0;exact ⟨rfl,S1,HD.out,HC.out,HG.out⟩
theorem exec_fe {a:DA} {L T:Nat} {w:World} {S:Fp} {cur:Nat→Nat} {D N:Nat→Prop} {F:Nat} (h:DevM a L T w S cur D N F)  :
  Calls Tryz.prog 176 #[.agg #[.int .u8 3, .int .u64 0, .int .u64 0],memV a] w (RetDevM a L T w S cur (fun k=>D k∧¬ N (k / 8)) (fun _=>False) 0 (.tuple #[])):=by
 have HW:=hid (fun o=>h.below ((Below.refl _ w).alloc (nL _) o));clear h;have hm:=methFence (some ⟨a.th 0,0,none⟩);unfold memV;go_enter Tryz.func176,Tryz.ntmps176
 go_wp2_with fail
 refine (fence_devM (HW.out _)).mono ?_;rintro e w1 ⟨rfl,S1,hd1,hc1,hg1⟩;have HD:=hid hd1;have HC:Hid (Chg S w w1):=((Chg.refl S w).alloc _).trans hc1 (Grew.refl _ _);have HG:Hid (Grew S S1 w):=fun k hk=>(hg1 k hk).imp id (fun h=>by simp at h;omega)
 clear hd1 hc1 hg1;go_wp2;go_end0;exact ⟨rfl,S1,HD.out,HC.out,HG.out⟩
end
section
open Go.RowKit Go.Maps Go.Shelf
theorem err_dev {a:DA} {L T:Nat} {w:World} {S:Fp} {cur:Nat→Nat} {F:Nat} (h:Dev a L T w S cur F) {j:Nat} (hj:j < 8) :
  Calls Tryz.prog 112 #[.pointer (some ⟨a.th j,0,none⟩)] w fun e w'=>e = .returned (.int .i64 0)∧w=w':=by
 obtain ⟨ls,exe,per,cs,lsC,hdc,hnt⟩:=h;obtain ⟨f0,_,_,_,f4⟩:=hdc.facts hj;clear hdc hnt;go_enter Tryz.func112,Tryz.ntmps112
 go_wp2;go_ret;exact ⟨rfl,rfl⟩
end
section
open Go.RowKit
def Ins.op:Ins→Nat
 | .st _ _=>1
 | .fl _=>2
 | .fe=>3
def Ins.o:Ins→Nat
 | .st o _=>o
 | .fl o=>o
 | .fe=>0
def Ins.v:Ins→Nat
 | .st _ v=>v
 | _=>0
theorem Ins.cells_eq (i:Ins):i.cells=[.int .u8 (i.op:Int), .int .u64 (i.o:Int), .int .u64 (i.v:Int)]:=by cases i <;> rfl
theorem Ins.op_lt (i:Ins):1≤i.op∧i.op≤3:=by cases i <;> simp [Ins.op]
theorem Reads.plain {w:World} {B size n:Nat} {A:Option Addr} {xs:List Value} (h:Reads w B size A n xs) (hn:0 < n) (hs:0 < size) :
  ∃ b off,A=some ⟨b,off,none⟩∧b < B∧∀ j u,xs[j]?=some u→w.cell? ⟨b,off+j,none⟩=some u:=by
 obtain ⟨⟨b,off,spot⟩,hA,hb,hc⟩:=h.2 hn;have hl:0 < xs.length:=by rw [h.1];exact Nat.mul_pos hn hs
 have h0:=hc 0 _ (List.getElem?_eq_getElem hl);have hspot:spot=none:=by simpa [Addr.add] using World.cell?_spot h0
 subst hspot;refine ⟨b,off,hA,hb,fun j u hu=>?_⟩;rw [← Go.WideShapes.add_plain];exact hc j u hu
theorem ins_facts {w:World} {B n:Nat} {A:Option Addr} {p:List Ins} (h:Reads w B 3 A n (insCells p)) {k:Nat} (hk:k < n) :
  ∃ (hl:k < p.length) (b off:Nat),A=some ⟨b,off,none⟩∧b < B ∧
   w.cell? ⟨b,off+k * 3,none⟩=some (.int .u8 ((p[k]).op:Int))∧w.cell? ⟨b,off+k * 3+1,none⟩=some (.int .u64 ((p[k]).o:Int))∧w.cell? ⟨b,off+k * 3+2,none⟩=some (.int .u64 ((p[k]).v:Int)):=by
 have hl:k < p.length:=by have:=h.1;rw [insCells_len] at this;omega
 obtain ⟨b,off,hA,hb,hc⟩:=h.plain oM oM;have e:=Ins.cells_eq p[k];refine ⟨hl,b,off,hA,hb,?_,?_,?_⟩
 ·exact hc (k * 3) _ ((insCells_at p k 0 hl oM).trans (by rw [e];rfl))
 ·exact hc (k * 3+1) _ ((insCells_at p k 1 hl oM).trans (by rw [e];rfl))
 ·exact hc (k * 3+2) _ ((insCells_at p k 2 hl oM).trans (by rw [e];rfl))
theorem validP_any (A:Option Addr) (n c:Nat) (p:List Ins) (w:World) (h:Reads w w.heap.size 3 A n (insCells p)) (hn:n≤1000000) :
  Calls Tryz.prog 175 #[.slice A n c] w fun e w'=>e = .returned (.bool true)∧Below w.heap.size w w':=by
 have HR:=hid h;have HB0:Hid (Below w.heap.size w w):=Below.refl _ _;clear h;go_enter Tryz.func175,Tryz.ntmps175
 go_wp2;go_loopw [7] (fun i wr=>∃ (k:Nat),k≤n∧i = .int .i64 k∧Hid (Below w.heap.size w wr)) (fun i _=>n - (RowKit.intOf i).toNat)
 case atStart=>exact ⟨0,Nat.zero_le _,rfl,HB0⟩
 case round =>
  clear HB0;obtain ⟨k,hk,rfl,H⟩:=hrel;by_cases hlt:k < n
  ·obtain ⟨hl,b,off,hA,hbB,f0,f1,f2⟩:=ins_facts (HR.out.below H.out) hlt
   subst hA;have ho:=Ins.op_lt p[k];generalize (p[k]).op=op at *;generalize (p[k]).o=o at *;generalize (p[k]).v=v at *;have hz0:(0:Int)≤(k:Int):=oM;have hz1:(k:Int) < (n:Int):=oM;have e1:decide ((op:Int) < 1)=false:=dF;have e2:decide ((3:Int) < (op:Int))=false:=dF;have e3:decide (3 < op)=false:=dF;have HN:Hid (∀ o,Below w.heap.size w (wr.alloc o)):=fun o=>H.out.alloc H.out.size o
   clear H;go_wp2;go_roundw
   case rel=>exact ⟨k+1,oM,by go_num,HN.out _⟩
   case measure=>simp [RowKit.intOf];omega
  ·obtain rfl:n=k:=oM
   go_wp2;go_ret;exact ⟨rfl,H.out⟩
def RetIns (a:DA) (L T:Nat) (w:World) (S:Fp) (cur:Nat→Nat) (d:(Nat→Prop) × (Nat→Prop)) (F:Nat) (b:Bool) (e:Ending) (w':World):Prop :=
 e = .returned (.tuple #[])∧∃ S' F',DevM a L T w' S' cur d.1 d.2 F'∧(b=false→F'=0)∧F'≤F+1∧Chg S w w'∧Grew S S' w
theorem exec_any {a:DA} {L T:Nat} {w:World} {S:Fp} {cur:Nat→Nat} {d:(Nat→Prop) × (Nat→Prop)} {F:Nat} (h:DevM a L T w S cur d.1 d.2 F) (i:Ins) (b:Bool) (hg:goodI L b i) (hb:b=false→F=0) (hT:T < 1000000000) (hF:F < 1000000000) :
  Calls Tryz.prog 176 #[.agg #[.int .u8 (i.op:Int), .int .u64 (i.o:Int), .int .u64 (i.v:Int)],memV a] w (RetIns a L (T+1) w S (runI cur i) (dirI d i) F (noteI b i)):=by
 cases i with
 | st o v =>
  obtain ⟨h1,h2,h3,_⟩:=hg;have hF0:=hb h1;subst hF0;refine (exec_st h o v h2 h3 hT).mono ?_;rintro e w' ⟨rfl,S',hd,hc,hgr⟩;exact ⟨rfl,S',0,hd,fun _=>rfl,Nat.zero_le _,hc,hgr⟩
 | fl o =>
  refine (exec_fl h o hg hF).mono ?_;rintro e w' ⟨rfl,S',hd,hc,hgr⟩;exact ⟨rfl,S',F+1,hd.more oM oM,fun h=>(by cases h),nL _,hc,hgr⟩
 | fe =>
  refine (exec_fe h).mono ?_;rintro e w' ⟨rfl,S',hd,hc,hgr⟩;exact ⟨rfl,S',0,hd.more oM oM,fun _=>rfl,Nat.zero_le _,hc,hgr⟩
def RunI (a:DA) (L T:Nat) (w wr:World) (S:Fp) (cur:Nat→Nat) (p:List Ins) (k:Nat):Prop :=
 ∃ S' F',DevM a L (T+k) wr S' (runP cur (p.take k)) (dirP (a.dirty,fun _=>False) (p.take k)).1 (dirP (a.dirty,fun _=>False) (p.take k)).2 F'∧(noteP false (p.take k)=false→F'=0)∧F'≤k∧Chg S w wr∧Grew S S' w
theorem run_any {a:DA} {L T:Nat} {w:World} {S:Fp} {cur:Nat→Nat} (h:Dev a L T w S cur 0) (A:Option Addr) (n c:Nat) (p:List Ins) (hr:Reads w w.heap.size 3 A n (insCells p)) (hoff:∀ ad,A=some ad→¬ S ad.block) (hg:goodP L false p) (hn:n≤1000000) (hT:T+n≤1000000000) :
  Calls Tryz.prog 78 #[.slice A n c,memV a] w (RetDev a L (T+n) w S (runP cur p) 0 (.int .i64 0)):=by
 have HV:=hid (validP_any A n c p w hr hn);have HLN:=hid (show p.length=n by have:=hr.1;rw [insCells_len] at this;omega);have HR:=hid hr;have HOF:=hid hoff;have HGD:=hid hg;have HD0:=hid h;have HSL:=hid h.lt;have hmE:=methErr (some ⟨a.th 0,0,none⟩);have hq:∀ W,(binOp .eql 188 (.iface 58 (.pointer (some ⟨a.th 0,0,none⟩))) .nilIface).run Tryz.prog W = .ok (.bool false) W:=fun W=>by rfl
 clear h hr hoff hg;unfold memV;go_enter Tryz.func78,Tryz.ntmps78
 go_wp2_with (go_at_call 175;refine HV.out.mono ?_;rintro e w1 ⟨rfl,hb1⟩;have HI0:Hid (RunI a L T w w1 S cur p 0):=⟨S,0,HD0.out.below hb1,fun _=>rfl,nL _,Chg.of_below hb1,Grew.refl _ _⟩;clear hb1)
 go_loopw [16] (fun i wr=>∃ (k:Nat),k≤n∧i = .int .i64 k∧Hid (RunI a L T w wr S cur p k)) (fun i _=>n - (RowKit.intOf i).toNat)
 case atStart=>exact ⟨0,Nat.zero_le _,rfl,HI0⟩
 case round =>
  clear HI0 HD0 HV;obtain ⟨k,hk,rfl,H⟩:=hrel;by_cases hlt:k < n
  ·obtain ⟨S1,F1,hd,hf,hF1,hC,hG⟩:=H.out
   obtain ⟨hl,b,off,hA,hbB,f0,f1,f2⟩:=ins_facts (hC.reads HR.out (nL _) HOF.out) hlt;subst hA;have hgi:=goodP_at HGD.out k hl;have HEX:=hid (fun o=>exec_any (d:=dirP (a.dirty,fun _=>False) (p.take k)) (hd.below ((Below.refl _ wr).alloc (nL _) o)) p[k] (noteP false (p.take k)) hgi hf oM oM);have HRP:Hid (runI (runP cur (p.take k)) p[k]=runP cur (p.take (k+1))):=show _=_ by rw [List.take_succ_eq_append_getElem hl,runP_snoc]
   have HNP:Hid (noteI (noteP false (p.take k)) p[k]=noteP false (p.take (k+1))):=show _=_ by rw [List.take_succ_eq_append_getElem hl,noteP_app];rfl
   have HDP:Hid (dirI (dirP (a.dirty,fun _=>False) (p.take k)) p[k]=dirP (a.dirty,fun _=>False) (p.take (k+1))):=show _=_ by rw [List.take_succ_eq_append_getElem hl,dirP_app];rfl
   rw [HRP.out,HNP.out,HDP.out] at HEX;have HC:=hid hC;have HG:=hid hG;unfold memV at HEX;generalize (p[k]).op=op at *;generalize (p[k]).o=o at *;generalize (p[k]).v=v at *;have hz0:(0:Int)≤(k:Int):=oM;have hz1:(k:Int) < (n:Int):=oM;clear hgi hd hf hC hG H HRP HNP HDP;go_wp2_with fail
   refine (HEX.out _).mono ?_;rintro e w2 ⟨rfl,S2,F2,hd2,hf2,hF2,hC2,hG2⟩;have HN:Hid (RunI a L T w w2 S cur p (k+1)):=⟨S2,F2,by rw [← Nat.add_assoc];exact hd2,hf2,oM,HC.out.trans (S':=S1) (((Chg.refl S1 wr).alloc _).trans hC2 (Grew.refl _ _)) HG.out,HG.out.trans (w1:=wr) (fun j hj=>(hG2 j hj).imp id (fun h=>by simp at h;omega)) HC.out.size⟩
   clear hd2 hf2 hF2 hC2 hG2;go_wp2;go_roundw
   case rel=>exact ⟨k+1,oM,by go_num,HN⟩
   case measure=>simp [RowKit.intOf];omega
  ·obtain rfl:n=k:=oM
   obtain ⟨S1,F1,hd,hf,hF1,hC,hG⟩:=H.out;rw [List.take_of_length_le (by rw [HLN.out];exact nL _)] at hd hf;have hF0:=hf (goodP_end HGD.out);subst hF0;have HD:Hid (Dev a L (T+n) wr S1 (runP cur p) 0):=hid (hd.mono (fun k hk=>HGD.out.2 _ k hk) (fun _ h=>h.elim));have HC:=hid hC;have HG:=hid hG;obtain ⟨s,exe,per,cs,ls,hdc,hnt⟩:=hd;obtain ⟨g0,_,_,_,g2⟩:=hdc.facts (j:=0) oM;clear hdc hnt hC hG hf H;go_wp2;go_ret;exact ⟨rfl,S1,HD.out,HC.out,HG.out⟩
end
section
open Go.RowKit
def logCells (a:DA) (s n:Nat):Array Value:=#[memV a, .int .u64 ((64 * s:Nat):Int), .int .u64 ((64 * n:Nat):Int)]
theorem eqMem (p:Option Addr) (W:World):(binOp .eql 188 (.iface 58 (.pointer p)) .nilIface).run Tryz.prog W = .ok (.bool false) W:=by kernel_rfl
theorem handle_any {a:DA} {L T:Nat} {w:World} {S:Fp} {cur:Nat→Nat} {F:Nat} (h:Dev a L T w S cur F) (s n:Nat) (hn:26≤n) (hs:s+n≤L) :
  Calls Tryz.prog 169 #[memV a, .int .i64 (s:Int), .int .i64 (n:Int)] w fun e w'=>e = .returned (.tuple #[.pointer (some ⟨w.heap.size,0,none⟩), .int .i64 0])∧w'=w.alloc (.cells (logCells a s n) 353):=by
 obtain ⟨ls,exe,per,cs,lsC,hdc,hnt⟩:=h;have hL:=hdc.hL;obtain ⟨f0,f2,_,_,_⟩:=hdc.facts (j:=0) oM;clear hdc hnt;have hq:=eqMem (some ⟨a.th 0,0,none⟩);have hmS:=methSize (some ⟨a.th 0,0,none⟩);unfold memV logCells memV;have e1:decide ((s:Int) < 0)=false:=dF;have e2:decide ((n:Int) < 26)=false:=dF;have u1:IntKind.u64.wrap ((L:Int) * 64)=(L:Int) * 64:=by rw [IntKind.wrap_u64];omega
 have u2:IntKind.u64.wrap (n:Int)=(n:Int):=by rw [IntKind.wrap_u64];omega
 have u3:IntKind.u64.wrap (s:Int)=(s:Int):=by rw [IntKind.wrap_u64];omega
 have u4:IntKind.u64.wrap ((L:Int) - (n:Int))=(L:Int) - (n:Int):=by rw [IntKind.wrap_u64];omega
 have u5:IntKind.u64.wrap ((s:Int) * 64)=((64 * s:Nat):Int):=by rw [IntKind.wrap_u64];omega
 have u6:IntKind.u64.wrap ((n:Int) * 64)=((64 * n:Nat):Int):=by rw [IntKind.wrap_u64];omega
 have d1:((L:Int) * 64).tdiv 64=(L:Int):=by rw [Int.mul_tdiv_cancel _ (by decide)]
 have e3:decide ((L:Int) < (n:Int))=false:=dF;have e4:decide ((L:Int) - (n:Int) < (s:Int))=false:=dF;go_enter Tryz.func169,Tryz.ntmps169
 go_wp2;go_ret2;exact ⟨rfl,rfl⟩
end
end Go.Proofs.YtfkjjoglnmeciaaGreatDoor
