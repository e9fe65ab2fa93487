/- The walks and laws that the claim leans on, part 42. -/
import Derived.Test.YtnlokpakiambaaaGreatDoorJbo
set_option maxRecDepth 100000
set_option maxHeartbeats 16000000
namespace Go.Proofs.YtnlokpakiambaaaGreatDoor
open Go.Lib (hid)
section
open Go.RowKit Go.Maps
def newI (x:Nat):List VV→Nat
 | []=>0
 | v :: t=>if v.st≤x then 0 else newI x t+1
theorem fold_at (x:Nat):∀ (l:List VV) (s:Nat × Bool × Nat × Nat),foldV (atS x) l s=match l[newI x l]? with
  | some v=>(v.st,v.dl,v.dt,hdQ (l.drop (newI x l+1)))
  | none=>s
 | [],s=>rfl
 | v :: t,s=>by
  unfold foldV newI
  by_cases h:v.st≤x
  ·have e1:atS x s v.q (v.st,v.dl,v.dt,hdQ t)=((v.st,v.dl,v.dt,hdQ t),false):=if_neg (by show ¬ x < v.st;omega)
   rw [e1,if_pos rfl,if_pos h]
   rfl
  ·have e1:atS x s v.q (v.st,v.dl,v.dt,hdQ t)=(s,true):=if_pos (by show x < v.st;omega)
   rw [e1,if_neg (show ¬ (true:Bool)=false by decide),if_neg h,fold_at x t s]
   rfl
def atV (x:Nat) (l:List VV):Nat × Nat × Bool × Nat × Nat:=match l[newI x l]? with
 | some v=>if v.dl=true then (5,0,false,0,0) else (0,v.st,v.dl,v.dt,hdQ (l.drop (newI x l+1)))
 | none=>(5,0,false,0,0)
section
variable {K:Nat} {cs:Nat→CS} {cur:Nat→Nat} {l:List VV}
theorem HistA.lt:∀ {l:List VV},HistA K cs cur l→∀ v∈l,v.st < 4611686018427387904
 | [],_,v,hv=>absurd hv (by simp)
 | u :: t,h,v,hv=>by
  rcases List.mem_cons.1 hv with rfl | h1
  ·have:=h.1.sp
   omega
  ·exact h.2.1.lt v h1
theorem HistA.ver:∀ {l:List VV},HistA K cs cur l→∀ v∈l,∃ older,VerA K cs cur v older
 | [],_,v,hv=>absurd hv (by simp)
 | u :: t,h,v,hv=>by
  rcases List.mem_cons.1 hv with rfl | h1
  ·exact ⟨_,h.1⟩
  ·exact h.2.1.ver v h1
theorem HistA.fol {σ:Type} (st:σ→Nat→Nat × Bool × Nat × Nat→σ × Bool) (h:HistA K cs cur l) (hlen:l.length≤4096) (s:σ):folW (verR cur (fun q=>chkR 53 K cs q 7)) st 4097 (hdQ l) 4611686018427387904 0 s=(0,foldV st l s) :=
 folW_hist st l 4097 4611686018427387904 0 s h h.lt (by omega) (by omega)
theorem at_hist (h:HistA K cs cur l) (hlen:l.length≤4096) (x:Nat):atR (verR cur (fun q=>chkR 53 K cs q 7)) (hdQ l) x=atV x l:=by
 have h1:=h.fol (atS x) hlen (0,true,0,0)
 rw [fold_at] at h1
 unfold atR atV
 rw [h1]
 show (if (0:Nat)≠0 then _ else _)=_
 rw [if_neg (by decide)]
 cases l[newI x l]? with
 | none=>rfl
 | some v=>rfl
theorem fold_ck (B:Nat→Nat):∀ l:List VV,(∀ v∈l,v.dl=false→B v.dt=0)→foldV (ckS B) l 0=0
 | [],_=>rfl
 | v :: t,h=>by
  unfold foldV
  have e1:ckS B 0 v.q (v.st,v.dl,v.dt,hdQ t)=(0,true):=if_neg (fun hn=>hn.2 (h v (by simp) hn.1))
  rw [e1,if_neg (by decide)]
  exact fold_ck B t (fun u hu=>h u (by simp [hu]))
end
section
variable {a:DA} {L T n K:Nat} {x:HA} {cs:Nat→CS} {f:Nat→Option Nat} {N m b0:Nat} {S:Fp} {cur:Nat→Nat} {w:World} {l:List VV}
theorem ck_hist (h:HistA K cs cur l) (hd:DS a L T 53 n K x cs f N m b0 S cur w) (hlen:l.length≤4096):vckR (verR cur (fun q=>chkR 53 K cs q 7)) (fun z=>(walkR L cur (fun q=>chkR 53 K cs q 1) z).1) (hdQ l)=0:=by
 have h1:=h.fol (ckS (fun z=>(walkR L cur (fun q=>chkR 53 K cs q 1) z).1)) hlen 0
 unfold vckR
 rw [h1,fold_ck _ l (fun v hv hdl=>by
  obtain ⟨older,h2⟩:=h.ver v hv
  rw [h2.blob hd hdl])]
 rfl
end
def bofR (B:Nat→Nat × List Nat × List Nat) (p:Nat) (dl:Bool) (dt:Nat):List Nat × Nat :=
 if dl=true then ([p],0) else if (B dt).1≠0 then ([],11) else (p :: (B dt).2.1,0)
def blS (B:Nat→Nat × List Nat × List Nat) (s:List Nat × Nat) (p:Nat) (v:Nat × Bool × Nat × Nat):(List Nat × Nat) × Bool :=
 ((s.1++(bofR B p v.2.1 v.2.2.1).1,(bofR B p v.2.1 v.2.2.1).2),decide ((bofR B p v.2.1 v.2.2.1).2=0))
def vblR (rd:Nat→Nat × Nat × Bool × Nat × Nat) (B:Nat→Nat × List Nat × List Nat) (head:Nat):Nat × List Nat :=
 if (folW rd (blS B) 4097 head 4611686018427387904 0 ([],0)).1≠0 then ((folW rd (blS B) 4097 head 4611686018427387904 0 ([],0)).1,[]) else
 if (folW rd (blS B) 4097 head 4611686018427387904 0 ([],0)).2.2≠0 then ((folW rd (blS B) 4097 head 4611686018427387904 0 ([],0)).2.2,[]) else
 (0,(folW rd (blS B) 4097 head 4611686018427387904 0 ([],0)).2.1)
section
variable {a:DA} {L T n K:Nat} {x:HA} {cs:Nat→CS} {f:Nat→Option Nat} {N m b0:Nat} {S:Fp} {cur:Nat→Nat} {w:World} {l:List VV}
end
def visW (rd:Nat→Nat × Nat × Bool × Nat × Nat):Nat→Nat→Nat→Nat→Nat × List (Nat × Nat × Bool × Nat × Nat)
 | 0,_,_,_=>(11,[])
 | k+1,p,last,n =>
  if p=0 then (0,[]) else
  if (rd p).1≠0∨n=4096∨last≤(rd p).2.1 then (11,[]) else
  ((visW rd k (rd p).2.2.2.2 (rd p).2.1 (n+1)).1,(p,(rd p).2) :: (visW rd k (rd p).2.2.2.2 (rd p).2.1 (n+1)).2)
def foldU {σ:Type} (st:σ→Nat→Nat × Bool × Nat × Nat→σ × Bool):List (Nat × Nat × Bool × Nat × Nat)→σ→σ × Bool
 | [],s=>(s,true)
 | v :: t,s=>if (st s v.1 v.2).2=false then ((st s v.1 v.2).1,false) else foldU st t (st s v.1 v.2).1
theorem folW_vis {σ:Type} (rd:Nat→Nat × Nat × Bool × Nat × Nat) (st:σ→Nat→Nat × Bool × Nat × Nat→σ × Bool):∀ (k p last n:Nat) (s:σ),
  folW rd st k p last n s=(if (foldU st (visW rd k p last n).2 s).2=true then (visW rd k p last n).1 else 0,(foldU st (visW rd k p last n).2 s).1)
 | 0,p,last,n,s=>rfl
 | k+1,p,last,n,s=>by
  unfold folW visW
  by_cases h0:p=0
  ·rw [if_pos h0,if_pos h0]
   rfl
  rw [if_neg h0,if_neg h0]
  by_cases h1:(rd p).1≠0∨n=4096∨last≤(rd p).2.1
  ·rw [if_pos h1,if_pos h1]
   rfl
  rw [if_neg h1,if_neg h1]
  show _=(if (foldU st ((p,(rd p).2) :: (visW rd k (rd p).2.2.2.2 (rd p).2.1 (n+1)).2) s).2=true then _ else 0,(foldU st ((p,(rd p).2) :: (visW rd k (rd p).2.2.2.2 (rd p).2.1 (n+1)).2) s).1)
  unfold foldU
  show _=(if (if (st s p (rd p).2).2=false then ((st s p (rd p).2).1,false) else _).2=true then _ else 0,(if (st s p (rd p).2).2=false then ((st s p (rd p).2).1,false) else _).1)
  by_cases h2:(st s p (rd p).2).2=false
  ·rw [if_pos h2,if_pos h2]
   rfl
  ·rw [if_neg h2,if_neg h2]
   exact folW_vis rd st k _ _ _ _
theorem visW_end (rd:Nat→Nat × Nat × Bool × Nat × Nat):∀ (k p last n:Nat),(visW rd k p last n).1=0→(p=0∧(visW rd k p last n).2=[])∨∃ v,(visW rd k p last n).2.getLast?=some v∧v.2.2.2.2=0
 | 0,p,last,n,h=>absurd h (show ¬ (11:Nat)=0 by decide)
 | k+1,p,last,n,h=>by
  unfold visW at h ⊢
  by_cases h0:p=0
  ·rw [if_pos h0]
   exact .inl ⟨h0,rfl⟩
  rw [if_neg h0] at h ⊢
  by_cases h1:(rd p).1≠0∨n=4096∨last≤(rd p).2.1
  ·rw [if_pos h1] at h
   exact absurd h (show ¬ (11:Nat)=0 by decide)
  rw [if_neg h1] at h ⊢
  refine .inr ?_
  rcases visW_end rd k _ _ _ h with ⟨g1,g2⟩ | ⟨v,g1,g2⟩
  ·refine ⟨(p,(rd p).2),?_,g1⟩
   show ((p,(rd p).2) :: _).getLast?=_
   rw [g2]
   rfl
  ·refine ⟨v,?_,g2⟩
   show ((p,(rd p).2) :: _).getLast?=_
   rw [List.getLast?_cons,g1]
   rfl
theorem visW_code (rd:Nat→Nat × Nat × Bool × Nat × Nat):∀ (k p last n:Nat),(visW rd k p last n).1=0∨(visW rd k p last n).1=11
 | 0,_,_,_ => .inr rfl
 | k+1,p,last,n=>by
  unfold visW
  by_cases h0:p=0
  ·rw [if_pos h0]
   exact .inl rfl
  rw [if_neg h0]
  by_cases h1:(rd p).1≠0∨n=4096∨last≤(rd p).2.1
  ·rw [if_pos h1]
   exact .inr rfl
  rw [if_neg h1]
  exact visW_code rd k _ _ _
theorem fold_ckU (B:Nat→Nat):∀ l:List (Nat × Nat × Bool × Nat × Nat),foldU (ckS B) l 0=if l.any (fun v => !v.2.2.1 && decide (B v.2.2.2.1≠0))=true then (11,false) else (0,true)
 | []=>rfl
 | v :: t=>by
  unfold foldU
  rw [List.any_cons]
  by_cases h:v.2.2.1=false∧B v.2.2.2.1≠0
  ·have e1:ckS B 0 v.1 v.2=(11,false):=if_pos h
   rw [e1,if_pos rfl,h.1,decide_eq_true h.2,if_pos (by simp)]
  ·have e1:ckS B 0 v.1 v.2=(0,true):=if_neg h
   have e2:(!v.2.2.1 && decide (B v.2.2.2.1≠0))=false:=by
    cases hd:v.2.2.1 with
    | true=>rfl
    | false=>simpa using fun hb=>h ⟨hd,hb⟩
   rw [e1,if_neg (by decide),e2,Bool.false_or]
   exact fold_ckU B t
theorem fold_blU (B:Nat→Nat × List Nat × List Nat):∀ (l:List (Nat × Nat × Bool × Nat × Nat)) (s:List Nat),∃ r,s.length≤r.length∧foldU (blS B) l (s,0)=(if l.any (fun v => !v.2.2.1 && decide ((B v.2.2.2.1).1≠0))=true then ((r,11),false) else ((r,0),true))∧(l.any (fun v => !v.2.2.1 && decide ((B v.2.2.2.1).1≠0))=false→s.length+l.length≤r.length)
 | [],s=>⟨s,Nat.le_refl _,rfl,fun _=>Nat.le_refl _⟩
 | v :: t,s=>by
  unfold foldU
  have e1:blS B (s,0) v.1 v.2=((s++(bofR B v.1 v.2.2.1 v.2.2.2.1).1,(bofR B v.1 v.2.2.1 v.2.2.2.1).2),decide ((bofR B v.1 v.2.2.1 v.2.2.2.1).2=0)):=rfl
  rw [e1,List.any_cons]
  by_cases h:v.2.2.1=false∧(B v.2.2.2.1).1≠0
  ·have e3:bofR B v.1 v.2.2.1 v.2.2.2.1=([],11):=by unfold bofR;rw [if_neg (by rw [h.1];decide),if_pos h.2]
   rw [e3,h.1,decide_eq_true h.2]
   exact ⟨s++[],by simp,by simp,fun hn=>by simp at hn⟩
  ·have e2:(!v.2.2.1 && decide ((B v.2.2.2.1).1≠0))=false:=by
    cases hd:v.2.2.1 with
    | true=>rfl
    | false=>simpa using fun hb=>h ⟨hd,hb⟩
   obtain ⟨z,hz,hz1⟩:∃ z,bofR B v.1 v.2.2.1 v.2.2.2.1=(z,0)∧1≤z.length:=by
    unfold bofR
    cases hd:v.2.2.1 with
    | true=>exact ⟨[v.1],rfl,by simp⟩
    | false=>exact ⟨_,by rw [if_neg (by decide),if_neg (fun hb=>h ⟨hd,hb⟩)],by simp⟩
   rw [hz,e2,Bool.false_or]
   obtain ⟨r,g1,g2,g3⟩:=fold_blU B t (s++z)
   rw [List.length_append] at g1 g3
   refine ⟨r,by omega,?_,fun hn=>?_⟩
   ·show (if decide ((0:Nat)=0)=false then _ else foldU (blS B) t (s++z,0))=_
    rw [if_neg (by decide)]
    exact g2
   ·have:=g3 hn
    rw [List.length_cons]
    omega
end
section
open Go.RowKit Go.Maps
structure RV where
 v:VV
 B:Option Addr
 nb:Nat
 cb:Nat
 D:Option Addr
 nd:Nat
 cd:Nat
def RV.cells (r:RV):List Value:=[.int .u64 (r.v.st:Int), .bool r.v.dl, .int .u64 (r.v.q:Int), .slice r.B r.nb r.cb, .slice r.D r.nd r.cd]
def rvCells (l:List RV):List Value:=l.flatMap RV.cells
theorem rvCells_len:∀ l:List RV,(rvCells l).length=l.length * 5
 | []=>rfl
 | r :: l=>by
  have:=rvCells_len l
  simp only [rvCells,List.flatMap_cons,List.length_append,List.length_cons] at this ⊢
  rw [this]
  show 5+l.length * 5=_
  omega
theorem rvCells_at:∀ (l:List RV) (k j:Nat) (hk:k < l.length),j < 5→(rvCells l)[k * 5+j]?=(l[k]).cells[j]?
 | r :: l,0,j,_,hj=>by
  show (r.cells++rvCells l)[0 * 5+j]?=r.cells[j]?
  rw [Nat.zero_mul,Nat.zero_add,List.getElem?_append_left (show j < 5 from hj)]
 | r :: l,k+1,j,hk,hj=>by
  have hk':k < l.length:=by simpa using hk
  have ih:=rvCells_at l k j hk' hj
  show (r.cells++rvCells l)[(k+1) * 5+j]?=(l[k]).cells[j]?
  rw [List.getElem?_append_right (show (5:Nat)≤(k+1) * 5+j by omega)]
  show (rvCells l)[(k+1) * 5+j - 5]?=_
  rw [show (k+1) * 5+j - 5=k * 5+j by omega]
  exact ih
theorem rv_facts {w:World} {B n:Nat} {A:Option Addr} {l:List RV} (h:Reads w B 5 A n (rvCells l)) {k:Nat} (hk:k < n) :
  ∃ (hl:k < l.length) (b off:Nat),A=some ⟨b,off,none⟩∧b < B∧w.cell? ⟨b,off+k * 5,none⟩=some (.int .u64 ((l[k]).v.st:Int))∧w.cell? ⟨b,off+k * 5+1,none⟩=some (.bool (l[k]).v.dl)∧w.cell? ⟨b,off+k * 5+2,none⟩=some (.int .u64 ((l[k]).v.q:Int))∧w.cell? ⟨b,off+k * 5+3,none⟩=some (.slice (l[k]).B (l[k]).nb (l[k]).cb)∧w.cell? ⟨b,off+k * 5+4,none⟩=some (.slice (l[k]).D (l[k]).nd (l[k]).cd):=by
 have hl:k < l.length:=by have:=h.1;rw [rvCells_len] at this;omega
 obtain ⟨b,off,hA,hb,hc⟩:=h.plain (by omega) (by omega)
 exact ⟨hl,b,off,hA,hb,hc (k * 5) _ (rvCells_at l k 0 hl (by omega)),hc (k * 5+1) _ (rvCells_at l k 1 hl (by omega)),hc (k * 5+2) _ (rvCells_at l k 2 hl (by omega)),hc (k * 5+3) _ (rvCells_at l k 3 hl (by omega)),hc (k * 5+4) _ (rvCells_at l k 4 hl (by omega))⟩
theorem rv_len {w:World} {B n:Nat} {A:Option Addr} {l:List RV} (h:Reads w B 5 A n (rvCells l)):l.length=n:=by
 have:=h.1
 rw [rvCells_len] at this
 omega
def vvs (l:List RV):List VV:=l.map RV.v
def Desc (l:List RV):Prop:=∀ i (h:i+1 < l.length),(l[i+1]).v.st < (l[i]).v.st
end
section
open Go.RowKit Go.Maps
structure DR where
 gap:Nat
 dl:Bool
 D:Option Addr
 nd:Nat
 cd:Nat
 p:List Nat
def DR.cells (r:DR):List Value:=[.int .u8 (r.gap:Int), .bool r.dl, .slice r.D r.nd r.cd]
def drCells (l:List DR):List Value:=l.flatMap DR.cells
def DR.In (w:World) (r:DR):Prop:=Reads w w.heap.size 1 r.D r.nd (u8s r.p)∧(∀ b∈r.p,b < 256)∧r.nd≤r.cd∧r.cd≤9223372036854775807∧r.gap < 256
def DrsIn (w:World) (A:Option Addr) (n c:Nat) (l:List DR):Prop:=Reads w w.heap.size 3 A n (drCells l)∧n≤c∧c≤9223372036854775807∧∀ r∈l,r.In w
theorem drCells_len:∀ l:List DR,(drCells l).length=l.length * 3
 | []=>rfl
 | r :: l=>by
  have:=drCells_len l
  simp only [drCells,List.flatMap_cons,List.length_append,List.length_cons] at this ⊢
  rw [this]
  show 3+l.length * 3=_
  omega
theorem drCells_at:∀ (l:List DR) (k j:Nat) (hk:k < l.length),j < 3→(drCells l)[k * 3+j]?=(l[k]).cells[j]?
 | r :: l,0,j,_,hj=>by
  show (r.cells++drCells l)[0 * 3+j]?=r.cells[j]?
  rw [Nat.zero_mul,Nat.zero_add,List.getElem?_append_left (show j < 3 from hj)]
 | r :: l,k+1,j,hk,hj=>by
  have hk':k < l.length:=by simpa using hk
  have ih:=drCells_at l k j hk' hj
  show (r.cells++drCells l)[(k+1) * 3+j]?=(l[k]).cells[j]?
  rw [List.getElem?_append_right (show (3:Nat)≤(k+1) * 3+j by omega)]
  show (drCells l)[(k+1) * 3+j - 3]?=_
  rw [show (k+1) * 3+j - 3=k * 3+j by omega]
  exact ih
theorem dr_facts {w:World} {B n:Nat} {A:Option Addr} {l:List DR} (h:Reads w B 3 A n (drCells l)) {k:Nat} (hk:k < n) :
  ∃ (hl:k < l.length) (b off:Nat),A=some ⟨b,off,none⟩∧b < B∧w.cell? ⟨b,off+k * 3,none⟩=some (.int .u8 ((l[k]).gap:Int))∧w.cell? ⟨b,off+k * 3+1,none⟩=some (.bool (l[k]).dl)∧w.cell? ⟨b,off+k * 3+2,none⟩=some (.slice (l[k]).D (l[k]).nd (l[k]).cd):=by
 have hl:k < l.length:=by have:=h.1;rw [drCells_len] at this;omega
 obtain ⟨b,off,hA,hb,hc⟩:=h.plain (by omega) (by omega)
 exact ⟨hl,b,off,hA,hb,hc (k * 3) _ (drCells_at l k 0 hl (by omega)),hc (k * 3+1) _ (drCells_at l k 1 hl (by omega)),hc (k * 3+2) _ (drCells_at l k 2 hl (by omega))⟩
theorem dr_len {w:World} {B n:Nat} {A:Option Addr} {l:List DR} (h:Reads w B 3 A n (drCells l)):l.length=n:=by
 have:=h.1
 rw [drCells_len] at this
 omega
theorem DR.In.below {w w':World} {r:DR} (h:r.In w) (hb:Below w.heap.size w w'):r.In w':=⟨(h.1.below hb).more hb.size,h.2⟩
def stP (l:List DR):Nat→Nat
 | 0=>0
 | i+1=>stP l i+((l[i]?).map DR.gap).getD 0+(if i=0 then 0 else 1)
theorem stP_le (l:List DR) (h:∀ r∈l,r.gap < 256):∀ i,stP l i≤256 * i
 | 0=>Nat.le_refl _
 | i+1=>by
  have ih:=stP_le l h i
  have h2:((l[i]?).map DR.gap).getD 0≤255:=by
   cases hl:l[i]? with
   | none=>exact Nat.zero_le _
   | some r =>
    have:=h r (List.mem_of_getElem? hl)
    show r.gap≤255
    omega
  unfold stP
  split <;> omega
def BgIs (l:List DR) (i:Nat) (rl:List RV):Prop:=rl.length=i∧rl.reverse.map (fun r=>(r.v.st,r.v.dl,r.v.p))=(List.range i).map fun j=>(stP l (j+1),((l[j]?).map DR.dl).getD false,if ((l[j]?).map DR.dl).getD false=true then [] else (((l[j]?).map DR.p).getD []).take 500)
theorem BgIs.nil (l:List DR):BgIs l 0 []:=⟨rfl,rfl⟩
theorem BgIs.add {l:List DR} {i:Nat} {rl:List RV} {r:RV} (h:BgIs l i rl) (hi:i < l.length) (h1:r.v.st=stP l (i+1)) (h2:r.v.dl=(l[i]).dl) (h3:r.v.p=if (l[i]).dl=true then [] else (l[i]).p.take 500):BgIs l (i+1) (r :: rl):=by
 refine ⟨by rw [List.length_cons,h.1],?_⟩
 rw [List.reverse_cons,List.map_append,h.2,List.range_succ,List.map_append]
 congr 1
 simp only [List.map_cons,List.map_nil,List.getElem?_eq_getElem hi,Option.map_some,Option.getD_some,h1,h2,h3]
end
section
open Go.RowKit Go.Maps
theorem walkA_len (L:Nat) (cur:Nat→Nat) (chk:Nat→Nat):∀ (k p:Nat) (want:Int) (bs by_:List Nat),(walkA L cur chk k p want bs by_).2.1.length≤bs.length+k
 | 0,_,_,bs,_=>Nat.zero_le _
 | k+1,p,want,bs,by_=>by
  unfold walkA
  cases loadR L cur p with
  | none=>exact Nat.zero_le _
  | some lr =>
   obtain ⟨l,rest⟩:=lr
   show (if _ then _ else _:Nat × List Nat × List Nat).2.1.length≤_
   split
   ·exact Nat.zero_le _
   split
   ·exact Nat.zero_le _
   split
   ·show (bs++[p]).length≤_
    rw [List.length_append]
    simp
   split
   ·exact Nat.zero_le _
   ·have h:=walkA_len L cur chk k (l.getD 0 0) ((rest:Int) - 456) (bs++[p]) (by_++partB l rest)
    rw [List.length_append,List.length_singleton] at h
    omega
theorem walkR_len (L:Nat) (cur:Nat→Nat) (chk:Nat→Nat) (p:Nat):(walkR L cur chk p).2.1.length≤6:=by
 unfold walkR
 split
 ·exact Nat.zero_le _
 ·have h:=walkA_len L cur chk 6 p (-1) [] []
  simpa using h
theorem bofR_len (L:Nat) (cur:Nat→Nat) (chk:Nat→Nat) (p:Nat) (dl:Bool) (dt:Nat):(bofR (walkR L cur chk) p dl dt).1.length≤7:=by
 unfold bofR
 split
 ·simp
 split
 ·simp
 ·have h:=walkR_len L cur chk dt
  simp
  omega
def RetBof (w:World) (R:List Nat × Nat) (e:Ending) (w':World):Prop:=∃ A m c,e = .returned (.tuple #[.slice A m c, .int .i64 (R.2:Int)])∧m=R.1.length∧Reads w' w'.heap.size 1 A m (uCells R.1)∧m≤c∧Below w.heap.size w w'
section
variable {a:DA} {L T s n K:Nat} {x:HA} {cs:Nat→CS} {f:Nat→Option Nat} {N m b0:Nat} {S:Fp} {cur:Nat→Nat} {w:World} {d r:Nat}
theorem vbof_any (h:SD a L T s n K x cs f N m b0 S cur w d r) (p sp:Nat) (dl:Bool) (dt ol:Nat) (hdt:dt < 18446744073709551616) :
  Calls Tryz.prog 60 #[.iface 43 (.pointer (some ⟨d,0,none⟩)), .int .u64 (p:Int), .agg #[.int .u64 (sp:Int), .bool dl, .int .u64 (dt:Int), .int .u64 (ol:Int)]] w (RetBof w (bofR (walkR L cur (fun q=>chkR s K cs q 1)) p dl dt)):=by
 obtain ⟨W1,hW1⟩:∃ W1,(w.alloc (.cells #[.int .u64 (sp:Int), .bool dl, .int .u64 (dt:Int), .int .u64 (ol:Int)] 36)).alloc (.cells #[.int .u64 (p:Int)] 27)=W1:=⟨_,rfl⟩
 have sz1:(w.alloc (.cells #[.int .u64 (sp:Int), .bool dl, .int .u64 (dt:Int), .int .u64 (ol:Int)] 36)).heap.size=w.heap.size+1:=by simp
 have hbx:Blk W1 w.heap.size 36 #[.int .u64 (sp:Int), .bool dl, .int .u64 (dt:Int), .int .u64 (ol:Int)]:=by rw [← hW1];exact (Blk.new w 36 _).alloc _
 have hrl:Reads W1 W1.heap.size 1 (some ⟨w.heap.size+1,0,none⟩) 1 (uCells [p]):=by
  rw [← hW1,← sz1]
  exact lit_cells _ _ _ [p] rfl
 have hown:W1.ownsRow (w.heap.size+1) 27 1 (.slice (some ⟨w.heap.size+1,0,none⟩) 1 1) 1 (uCells [p]):=by
  refine ⟨rfl, .inr ⟨w.heap.size+1,1,#[.int .u64 (p:Int)],rfl,Nat.le_refl _,?_,Nat.le_refl _,by unfold maxLen;omega,rfl,rfl⟩⟩
  rw [← hW1,← sz1]
  exact heap_alloc_new _ _
 have hB1:Below w.heap.size w W1:=by rw [← hW1];exact ((Below.refl _ _).alloc (Nat.le_refl _) _).alloc (by simp) _
 have HB1:=hid hB1
 have HW1:=hid hW1
 have HRl:=hid hrl
 have HOw:=hid hown
 have HBb:=hid (bblocks_any (h.below hB1) dt hdt)
 have HDm:Hid (∀ W',Below w.heap.size w W'→Calls Tryz.prog 63 #[.iface 43 (.pointer (some ⟨d,0,none⟩))] W' fun e w'=>e = .returned (.int .i64 11)∧W'=w'):=hid (fun W' hW=>vdamaged_any (h.below hW))
 have HLn:Hid ((walkR L cur (fun q=>chkR s K cs q 1) dt).2.1.length≤6):=hid (walkR_len _ _ _ _)
 have HBof:Hid (bofR (walkR L cur (fun q=>chkR s K cs q 1)) p dl dt=if dl=true then ([p],0) else if (walkR L cur (fun q=>chkR s K cs q 1) dt).1≠0 then ([],11) else (p :: (walkR L cur (fun q=>chkR s K cs q 1) dt).2.1,0)):=hid rfl
 generalize walkR L cur (fun q=>chkR s K cs q 1) dt=R at *
 generalize bofR (walkR L cur (fun q=>chkR s K cs q 1)) p dl dt=Y at *
 unfold dirV at HBb
 have c1:W1.cell? ⟨w.heap.size,1,none⟩=some (.bool dl):=hbx.cell 1
 have c2:W1.cell? ⟨w.heap.size,2,none⟩=some (.int .u64 (dt:Int)):=hbx.cell 2
 have HS1:Hid (w.heap.size+1≤W1.heap.size):=hid (by rw [← hW1];simp)
 clear h hdt hbx hrl hown hB1 hW1 sz1
 cases dl
 ·by_cases hR:R.1=0
  ·have HY:Hid (Y=(p :: R.2.1,0)):=hid (by rw [HBof.out,if_neg (by decide),if_neg (fun hn=>hn hR)])
   have HB2:Hid (Calls Tryz.prog 106 #[.iface 43 (.pointer (some ⟨d,0,none⟩)), .int .u64 (dt:Int)] W1 fun e w'=>∃ A m c,e = .returned (.tuple #[.slice A m c, .int .i64 0])∧Hid (m=R.2.1.length∧Reads w' w'.heap.size 1 A m (uCells R.2.1)∧Below W1.heap.size W1 w')):=hid (HBb.out.mono (fun e w' h=>by
    unfold RetBl at h
    rw [if_pos hR] at h
    obtain ⟨A,m,c,h1,h2,h3,h4,h5⟩:=h
    exact ⟨A,m,c,h1,hid ⟨h2,h3,h5⟩⟩))
   obtain ⟨i0,hi0,hz0,hz1,hz2⟩:=info_parts infoPtr
   clear HBb HBof hR
   go_enter Tryz.func60,Tryz.ntmps60
   go_upto_region 2 with fail
   rw [HW1.out]
   go_wp2_with (go_at_call 106;refine HB2.out.mono ?_;rintro e w2 ⟨A2,m2,k2,rfl,hx⟩;have HX2:=hid hx.out;clear hx;refine stop ?_)
   unfold Stop
   have HM2:=hid (show m2≤6 by have h1:=HX2.out.1;have h2:=HLn.out;omega)
   have HO2:Hid (w2.ownsRow (w.heap.size+1) 27 1 (.slice (some ⟨w.heap.size+1,0,none⟩) 1 1) 1 (uCells [p])):=hid (own_below HOw.out HX2.out.2.2)
   go_wp2_with (at_builtin;refine wpList_app _ (.tmp 27) (.tmp 28) 51 rfl rfl (w.heap.size+1) 27 i0 _ 1 8 Tryz.underlying51 hi0 hz0 hz1 hz2 rfl Nat.one_pos (.slice (some ⟨w.heap.size+1,0,none⟩) 1 1) 1 (uCells [p]) rfl HO2.out _ A2 m2 k2 (uCells R.2.1) rfl HX2.out.2.1 (uCells_one _) ?q1 ?q2 ?q3 ?_;(case q1=>(have:=HM2.out;unfold maxLen;omega));(case q2=>(have:=HM2.out;omega));(case q3=>(have h1:=HS1.out;have h2:=HX2.out.2.2.size;omega));intro A3 n3 c3 w3 hn3 ho3 hg3 hb3;have HN3:=hid hn3;have HO3:=hid ho3;have HB3:=hid hb3;clear hn3 ho3 hg3 hb3;refine stop ?_)
   unfold Stop
   go_wp2
   go_ret2
   unfold RetBof
   rw [HY.out]
   refine ⟨A3,n3,c3,rfl,?_,Reads.of_own HO3.out,(own_cap HO3.out).1,?_⟩
   ·have h1:=HN3.out
    have h2:=HX2.out.1
    simp
    omega
   ·exact (HB1.out.trans (HX2.out.2.2.mono HB1.out.size)).trans (HB3.out.mono (Nat.le_succ _))
  ·have HY:Hid (Y=([],11)):=hid (by rw [HBof.out,if_neg (by decide),if_pos hR])
   have HB2:Hid (Calls Tryz.prog 106 #[.iface 43 (.pointer (some ⟨d,0,none⟩)), .int .u64 (dt:Int)] W1 fun e w'=>e = .returned (.tuple #[.slice none 0 0, .int .i64 (R.1:Int)])∧Hid (Below W1.heap.size W1 w')):=hid (HBb.out.mono (fun e w' h=>by
    unfold RetBl at h
    rw [if_neg hR] at h
    exact ⟨h.1,hid h.2⟩))
   obtain ⟨ev,hev⟩:∃ ev,R.1=ev:=⟨_,rfl⟩
   rw [hev] at HB2 hR
   have d1:((ev:Int) != 0)=true:=by rw [bne,beq_eq_false_iff_ne.2 (by omega)];rfl
   clear HBb HBof hev
   go_enter Tryz.func60,Tryz.ntmps60
   go_upto_region 2 with fail
   rw [HW1.out]
   go_wp2_with (go_at_call 106;refine HB2.out.mono ?_;rintro e w2 ⟨rfl,hx⟩;have HX2:=hid hx.out;clear hx;refine stop ?_)
   unfold Stop
   have HD2:=hid (HDm.out w2 (HB1.out.trans (HX2.out.mono HB1.out.size)))
   go_wp2_with (go_at_call 63;refine HD2.out.mono ?_;rintro e w3 ⟨rfl,rfl⟩)
   go_ret2
   unfold RetBof
   rw [HY.out]
   exact ⟨none,0,0,rfl,rfl,⟨rfl,fun h=>absurd h (Nat.lt_irrefl 0)⟩,Nat.le_refl _,HB1.out.trans (HX2.out.mono HB1.out.size)⟩
 ·have HY:Hid (Y=([p],0)):=hid (by rw [HBof.out,if_pos rfl])
  clear HBb HBof
  go_enter Tryz.func60,Tryz.ntmps60
  go_upto_region 2 with fail
  rw [HW1.out]
  go_wp2
  go_ret2
  unfold RetBof
  rw [HY.out]
  exact ⟨_,1,1,rfl,rfl,HRl.out,Nat.le_refl _,HB1.out⟩
end
end
end Go.Proofs.YtnlokpakiambaaaGreatDoor
