/- The walks and laws that the claim leans on, part 40. -/
import Derived.Test.YtnlokpakiambaaaGreatDoorJbm
set_option maxRecDepth 100000
set_option maxHeartbeats 16000000
namespace Go.Proofs.YtnlokpakiambaaaGreatDoor
open Go.Lib (hid)
section
open Go.ChangeShapes Go.WideShapes Go.ChangeAt Go.RowKit
theorem cellsActS:Tryz.prog.cellsOf 9=1:=by kernel_rfl
theorem cellsAct:Tryz.prog.cellsOf 99=2:=by kernel_rfl
def actOk (p:Nat × ByteArray):Prop:=p.1 < 256∧p.2.size≤9223372036854775807
def actCs (p:Nat × ByteArray):List Value:=[.int .u8 (p.1:Int), .string p.2]
section
variable {H:Type} {enc:TypeId × Value→H} {w:World} {base:Nat} {sp:Nat→Bool} {held:Bool} {fuel:Nat} {x:DataW H × List MemPlace}
theorem open_act {cs:List Value} (h:DataW.trod enc Tryz.prog w base sp held fuel 99 cs=some x):∃ p:Nat × ByteArray,cs=actCs p∧actOk p:=by
 obtain ⟨xs,n,_,_,hlen,hxl,hf⟩:=DataW.trod_struct Tryz.underlying99 h
 have hx2:xs.length=2:=hxl
 have get:∀ j,j < 2→∃ y,xs[j]?=some y:=fun j hj=>⟨xs[j],List.getElem?_eq_getElem (by omega)⟩
 obtain ⟨y0,e0⟩:=get 0 (by omega)
 obtain ⟨y1,e1⟩:=get 1 (by omega)
 obtain ⟨a0,c0,_,b0⟩:=DataW.trod_int Tryz.underlying5 ((hf 0 _ rfl).trans e0)
 obtain ⟨s1,c1,_,b1⟩:=DataW.trod_string Tryz.underlying9 ((hf 1 _ rfl).trans e1)
 change (cs.drop 0).take (Tryz.prog.cellsOf 5)=_ at c0
 change (cs.drop 1).take (Tryz.prog.cellsOf 9)=_ at c1
 rw [cellsU8] at c0
 rw [cellsActS] at c1
 obtain ⟨k0,rfl,l0⟩:=wf_u8 b0
 have hl2:cs.length=2:=hlen.trans cellsAct
 exact ⟨(k0,s1),pair_cells hl2 (one_at c0) (one_at c1),l0,b1⟩
end
def ActsIs (w:World) (v:Value):Prop:=∃ (A:Option Addr) (n c:Nat) (l:List (Nat × ByteArray)),v = .slice A n c∧ActsIn w A n c l
section
variable {H:Type} {enc:TypeId × Value→H} {W:World} {b0 base:Nat} {sp:Nat→Bool} {held:Bool} {v:Value} {d:DataW H} {p:List MemPlace} {r:Reach}
theorem acts_of (hv:Value.okWide Tryz.prog W r b0 97 v) (h:DataW.Trod enc Tryz.prog W base sp held 97 v d p):ActsIs W v:=by
 obtain ⟨fuel,hf⟩:=h
 obtain ⟨a0,n0,k0,rfl⟩:=okWide_slice Tryz.underlying97 hv
 have hcv:(Value.slice a0 n0 k0).cells.toList=[.slice a0 n0 k0]:=rfl
 rw [hcv] at hf
 rcases Go.Deep.open_slice Tryz.underlying97 hf with ⟨hcs,_⟩ | ⟨a,len,cap,m,n,D,Pl,hcs,hb,hl,hm,hmm,hx,hi⟩
 ·obtain hcs:Value.slice a0 n0 k0 = .slice none 0 0:=by simpa using hcs
  rw [hcs]
  exact ⟨none,0,0,[],rfl,⟨rfl,fun h=>absurd h (by omega)⟩,⟨Nat.le_refl _,Nat.zero_le _⟩,fun _ h=>by cases h⟩
 ·obtain hcs:Value.slice a0 n0 k0 = .slice (some a) len cap:=by simpa using hcs
  rw [hcs]
  have hlm:len≤m:=by rw [hmm];split <;> omega
  obtain ⟨l,h1,h2,h3,h4⟩:=reads_elems actCs 2 (by omega) (fun _=>rfl) W a actOk len (fun i hil=>by
   obtain ⟨cs',hc,ht'⟩:=hi i (by omega)
   rw [cellsAct] at hc
   obtain ⟨e,rfl,ho⟩:=open_act ht'
   obtain ⟨_,hcl,hat⟩:=World.cells?_some hc
   exact ⟨e,ho,fun j hj=>by rw [← Go.Deep.add_add];exact hat j hj⟩)
  refine ⟨some a,len,cap,l,rfl,⟨h3,fun hpos=>⟨a,rfl,?_,h4⟩⟩,⟨hl,hm⟩,h2⟩
  have hl9:0 < (l.flatMap actCs).length:=by rw [h3];omega
  have:=World.block_lt_of_cell? _ _ (h4 0 _ (List.getElem?_eq_getElem hl9))
  rw [block_of_add] at this
  exact this
end
end
section
open Go.RowKit Go.Maps
structure RlIn (bs:List Nat) (A:Option Addr) (n c:Nat) (rl:List (List Nat × Nat)) (w:World):Prop where
 cap:n≤c∧c≤9223372036854775807
 rd:Reads w w.heap.size 2 A n (itCells rl)
 at_:∀ ad,A=some ad→ad.block∈bs
theorem RlIn.len {bs:List Nat} {A:Option Addr} {n c:Nat} {rl:List (List Nat × Nat)} {w:World} (h:RlIn bs A n c rl w):rl.length=n:=by
 have:=h.rd.1
 rw [itCells_len] at this
 omega
theorem RlIn.more {w:World} {bs bs':List Nat} {A:Option Addr} {n c:Nat} {rl:List (List Nat × Nat)} (h:RlIn bs A n c rl w) (hs:∀ g∈bs,g∈bs'):RlIn bs' A n c rl w:=⟨h.cap,h.rd,fun ad hA=>hs _ (h.at_ ad hA)⟩
theorem KeptB.trans {bs:List Nat} {w w' w'':World} (h:KeptB bs w w') (h':KeptB bs w' w''):KeptB bs w w'':=fun g hg=>(h' g hg).trans (h g hg)
section
variable {B:Nat} {bs:List Nat} {a:DA} {x:HA} {y:WA} {q gr T N st:Nat} {l rl:List (List Nat × Nat)} {w w':World}
theorem RgX.sub (h:RgX B bs a x y q gr T N st l w) {bs':List Nat} (hs:∀ g∈bs',g∈bs):RgX B bs' a x y q gr T N st l w:=by
 obtain ⟨cs,f,m,S,cur,h1,h2,h3,h4,h5⟩:=h
 exact ⟨cs,f,m,S,cur,h1,h2,h3,h4,fun g hg=>h5 g (hs g hg)⟩
end
end
end Go.Proofs.YtnlokpakiambaaaGreatDoor
