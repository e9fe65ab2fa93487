/- The walks and laws that the claim leans on, part 10. -/
import Derived.Test.YtnlokpakiambaaaGreatDoorJai
set_option maxRecDepth 100000
set_option maxHeartbeats 16000000
namespace Go.Proofs.YtnlokpakiambaaaGreatDoor
open Go.Lib (hid)
section
open Go.RowKit
def WordsAt (cur:Nat→Nat) (p:Nat) (l:List Nat):Prop:=∀ j,j < l.length→cur (pOff p / 8+j)=l.getD j 0
end
section
open Go.RowKit
theorem infoInstr:(Tryz.prog.info? 211).map (fun i=>(i.zero,i.size,i.bytes))=some (some (.agg #[.int .u8 0, .int .u64 0, .int .u64 0]),3,24):=by kernel_rfl
theorem infoU64:(Tryz.prog.info? 23).map (fun i=>(i.zero,i.size,i.bytes))=some (some (.int .u64 0),1,8):=by kernel_rfl
def wrCells (ws:List (Nat × Nat)):List Value:=ws.flatMap fun p=>[.int .u64 (p.1:Int), .int .u64 (p.2:Int)]
theorem wrCells_len (ws:List (Nat × Nat)):(wrCells ws).length=ws.length * 2:=by
 induction ws with
 | nil=>rfl
 | cons p ws ih=>simp only [wrCells,List.flatMap_cons,List.length_append,List.length_cons,List.length_nil] at *;omega
theorem wrCells_at:∀ (ws:List (Nat × Nat)) (k:Nat) (hk:k < ws.length),(wrCells ws)[k * 2]?=some (.int .u64 ((ws[k]).1:Int))∧(wrCells ws)[k * 2+1]?=some (.int .u64 ((ws[k]).2:Int))
 | p :: ws,0,_=>by simp [wrCells]
 | p :: ws,k+1,h=>by
  have ih:=wrCells_at ws k (by simpa using h)
  simp only [wrCells,List.flatMap_cons] at *
  rw [List.getElem?_append_right (by simp;omega),List.getElem?_append_right (by simp;omega)]
  simp only [List.length_cons,List.length_nil,show (k+1) * 2 - (0+1+1)=k * 2 by omega,show (k+1) * 2+1 - (0+1+1)=k * 2+1 by omega]
  simpa using ih
theorem wr_facts {w:World} {B n:Nat} {A:Option Addr} {ws:List (Nat × Nat)} (h:Reads w B 2 A n (wrCells ws)) {k:Nat} (hk:k < n) :
  ∃ (hl:k < ws.length) (b off:Nat),A=some ⟨b,off,none⟩∧b < B∧w.cell? ⟨b,off+k * 2,none⟩=some (.int .u64 ((ws[k]).1:Int))∧w.cell? ⟨b,off+k * 2+1,none⟩=some (.int .u64 ((ws[k]).2:Int)):=by
 have hl:k < ws.length:=by have:=h.1;rw [wrCells_len] at this;omega
 obtain ⟨b,off,hA,hb,hc⟩:=h.plain (by omega) (by omega)
 exact ⟨hl,b,off,hA,hb,hc (k * 2) _ (wrCells_at ws k hl).1,hc (k * 2+1) _ (wrCells_at ws k hl).2⟩
def uCells (xs:List Nat):List Value:=xs.map fun x:Nat=>Value.int .u64 (x:Int)
theorem uCells_one (xs:List Nat):∀ u∈uCells xs,u.oneCell'=true:=by
 intro u hu
 simp only [uCells,List.mem_map] at hu
 obtain ⟨x,_,rfl⟩:=hu
 rfl
theorem own_own_ne {w:World} {b1 b2:Nat} {e1 e2:TypeId} {s1 s2:Nat} {v1 v2:Value} {n1 n2:Nat} {x1 x2:List Value} (h1:w.ownsRow b1 e1 s1 v1 n1 x1) (h2:w.ownsRow b2 e2 s2 v2 n2 x2) (hne:e1≠e2):v1.ownBlock=none∨v1.ownBlock≠v2.ownBlock:=by
 rcases h1.2 with ⟨rfl,_⟩ | ⟨g,cap,cur,rfl,_,hh,_⟩
 ·exact .inl rfl
 ·right
  have:=own_blk_ne h2 (show Blk w g e1 cur from hh) (Ne.symm hne)
  intro he
  exact this (by rw [← he];rfl)
def lineOf (o:Nat):Nat:=o - o % 64
theorem line_reads (w:World) (o:Nat):Reads (w.alloc (.cells #[.int .u64 ((o:Int) - (o:Int) % 64)] 23)) (w.heap.size+1) 1 (some ⟨w.heap.size,0,none⟩) 1 (uCells [lineOf o]):=by
 refine row_reads_at w _ rfl _ 1 1 23 _ ?_ rfl
 have e:((lineOf o:Nat):Int)=(o:Int) - (o:Int) % 64:=by unfold lineOf;omega
 simp only [uCells,List.map_cons,List.map_nil,e]
def stI (p:Nat × Nat):Ins := .st p.1 p.2
structure StorI (w wr:World) (ws:List (Nat × Nat)) (k:Nat) (A1:Option Addr) (m1 c1:Nat) (A2:Option Addr) (m2 c2:Nat):Prop where
 below:Below w.heap.size w wr
 prog:wr.ownsRow w.heap.size 211 3 (.slice A1 m1 c1) m1 (insCells ((ws.take k).map stI))
 lines:wr.ownsRow w.heap.size 23 1 (.slice A2 m2 c2) m2 (uCells ((ws.take k).map fun p=>lineOf p.1))
 h1:m1=k
 h2:m2=k
section
variable {w wr w8 w9:World} {ws:List (Nat × Nat)} {k:Nat} {A1:Option Addr} {m1 c1:Nat} {A2:Option Addr} {m2 c2:Nat} {e:Nat × Nat} {A3:Option Addr} {n3 c3:Nat} {A4:Option Addr} {n4 c4:Nat} {o:Obj}
theorem stor1 (H:StorI w wr ws k A1 m1 c1 A2 m2 c2) (hn3:n3=m1+1) (ho3:w8.ownsRow w.heap.size 211 3 (.slice A3 n3 c3) n3 (insCells ((ws.take k).map stI)++(stI e).cells))
  (hg3:((wr.alloc (.cells #[.int .u64 (e.1:Int), .int .u64 (e.2:Int)] 90)).alloc o).grownBy w8 (Value.slice A1 m1 c1).ownBlock) (hb3:Below w.heap.size ((wr.alloc (.cells #[.int .u64 (e.1:Int), .int .u64 (e.2:Int)] 90)).alloc o) w8) :
  Hid (w8.ownsRow w.heap.size 211 3 (.slice A3 n3 c3) n3 (insCells ((ws.take k).map stI)++(stI e).cells))∧Hid (n3=k+1)∧Hid (Below w.heap.size w w8)∧Hid (w8.ownsRow w.heap.size 23 1 (.slice A2 m2 c2) m2 (uCells ((ws.take k).map fun p=>lineOf p.1))) ∧
   w8.cell? ⟨wr.heap.size,0,none⟩=some (.int .u64 (e.1:Int))∧w.heap.size≤w8.heap.size:=by
 have hsz:=H.below.size
 have h1:=H.h1
 have hB:Below w.heap.size w w8:=((H.below.alloc hsz _).alloc (by simp;omega) _).trans hb3
 have hblk:=((Blk.new wr 90 #[.int .u64 (e.1:Int), .int .u64 (e.2:Int)]).alloc o).grown hg3 (own_ne H.prog (g:=wr.heap.size) (.inr (Nat.le_refl _)))
 exact ⟨ho3,show n3=k+1 by omega,hB,((H.lines.alloc _).alloc _).kept hg3 (own_own_ne H.lines H.prog (by decide)),hblk.cell 0,hB.size⟩
theorem stor2 (h2:m2=k) (hTK:ws.take (k+1)=ws.take k++[e]) (ho3:w8.ownsRow w.heap.size 211 3 (.slice A3 n3 c3) n3 (insCells ((ws.take k).map stI)++(stI e).cells)) (hn3:n3=k+1) (hB:Below w.heap.size w w8) (hL:w8.ownsRow w.heap.size 23 1 (.slice A2 m2 c2) m2 (uCells ((ws.take k).map fun p=>lineOf p.1)))
  (hn4:n4=m2+1) (ho4:w9.ownsRow w.heap.size 23 1 (.slice A4 n4 c4) n4 (uCells ((ws.take k).map fun p=>lineOf p.1)++uCells [lineOf e.1])) (hg4:(w8.alloc o).grownBy w9 (Value.slice A2 m2 c2).ownBlock) (hb4:Below w.heap.size (w8.alloc o) w9):StorI w w9 ws (k+1) A3 n3 c3 A4 n4 c4:=by
 refine ⟨(hB.alloc hB.size _).trans hb4,?_,?_,hn3,by omega⟩
 ·rw [hTK,List.map_append,insCells_app]
  have e1:insCells (List.map stI [e])=(stI e).cells:=by simp [insCells]
  rw [e1]
  exact (ho3.alloc _).kept hg4 (own_own_ne ho3 hL (by decide))
 ·rw [hTK,List.map_append]
  have e1:uCells (List.map (fun p:Nat × Nat=>lineOf p.1) (ws.take k)++List.map (fun p:Nat × Nat=>lineOf p.1) [e])=uCells ((ws.take k).map fun p=>lineOf p.1)++uCells [lineOf e.1]:=by simp [uCells]
  rw [e1]
  exact ho4
end
theorem own_row {w:World} {base g m c:Nat} {xs:List Nat} (h:w.ownsRow base 23 1 (.slice (some ⟨g,0,none⟩) m c) m (uCells xs)):∃ cur,Blk w g 23 cur∧cur.size=c∧RowU cur xs∧xs.length=m:=by
 have hl:xs.length=m:=by have:=h.1;simpa [uCells] using this
 rcases h.2 with ⟨hv,_⟩ | ⟨g',cap',cur,hv,hb,hh,h1,h2,h3,h4⟩
 ·cases hv
 ·simp only [Value.slice.injEq,Option.some.injEq,Addr.mk.injEq,and_true,true_and] at hv
  obtain ⟨rfl,rfl⟩:=hv
  refine ⟨cur,hh,by omega,⟨by omega,fun i hi=>?_⟩,hl⟩
  have h5:(cur.toList.take (m * 1))[i]?=(uCells xs)[i]?:=by rw [h4]
  rw [List.getElem?_take_of_lt (by omega)] at h5
  rw [← Array.getElem?_toList,h5]
  simp [uCells,hi]
def FlI (w wr:World) (ws:List (Nat × Nat)) (g m1 j:Nat) (cs:Array Value) (A1:Option Addr) (n1 c1:Nat):Prop :=
 ∃ fs:List Nat,Below w.heap.size w wr∧Blk wr g 23 cs∧wr.ownsRow w.heap.size 211 3 (.slice A1 n1 c1) n1 (insCells (ws.map stI++fs.map Ins.fl))∧fs.length=j∧n1=m1+j∧∀ o∈fs,∃ e∈ws,o=lineOf e.1
theorem fl1 {w wr w8:World} {ws:List (Nat × Nat)} {g m1 j:Nat} {cs:Array Value} {A1:Option Addr} {n1 c1:Nat} {A3:Option Addr} {n3 c3 x:Nat} {o:Obj} {fs:List Nat} (hB:Below w.heap.size w wr) (hG:Blk wr g 23 cs) (hP:wr.ownsRow w.heap.size 211 3 (.slice A1 n1 c1) n1 (insCells (ws.map stI++fs.map Ins.fl))) (hf:fs.length=j) (hn1:n1=m1+j) (hq:∀ o∈fs,∃ e∈ws,o=lineOf e.1)
  (hx:∃ e∈ws,x=lineOf e.1) (hn3:n3=n1+1) (ho3:w8.ownsRow w.heap.size 211 3 (.slice A3 n3 c3) n3 (insCells (ws.map stI++fs.map Ins.fl)++(Ins.fl x).cells)) (hg3:(wr.alloc o).grownBy w8 (Value.slice A1 n1 c1).ownBlock) (hb3:Below w.heap.size (wr.alloc o) w8):FlI w w8 ws g m1 (j+1) cs A3 n3 c3:=by
 refine ⟨fs++[x],(hB.alloc hB.size _).trans hb3,(hG.alloc o).grown hg3 (fun e=>own_blk_ne hP hG (by decide) e.symm),?_,by simp [hf],by omega,fun y hy=>?_⟩
 ·have e1:insCells (ws.map stI++(fs++[x]).map Ins.fl)=insCells (ws.map stI++fs.map Ins.fl)++(Ins.fl x).cells:=by simp [insCells]
  rw [e1];exact ho3
 ·rw [List.mem_append,List.mem_singleton] at hy
  rcases hy with hy | rfl
  ·exact hq y hy
  ·exact hx
def IsStores (ws:List (Nat × Nat)) (p:List Ins):Prop:=∃ fs:List Nat,p=ws.map stI++fs.map Ins.fl++[Ins.fe]∧fs.length≤ws.length∧∀ o∈fs,∃ e∈ws,o=lineOf e.1
def RetProg (w:World) (P:List Ins→Prop) (e:Ending) (w':World):Prop:=∃ A m c p,e = .returned (.slice A m c)∧P p∧w'.ownsRow w.heap.size 211 3 (.slice A m c) m (insCells p)∧Below w.heap.size w w'
theorem stores_small (A:Option Addr) (n c:Nat) (ws:List (Nat × Nat)) (w:World) (h:Reads w w.heap.size 2 A n (wrCells ws)) (h0:0 < n) (hn:n≤1000) (hv:∀ e∈ws,e.1 < 18446744073709551616) :
  Calls Tryz.prog 73 #[.slice A n c] w (RetProg w (IsStores ws)):=by
 have HR:=hid h
 have HLN:=hid (show ws.length=n by have:=h.1;rw [wrCells_len] at this;omega)
 have HV:=hid hv
 obtain ⟨j0,hj0,hk0,hk1,hk2⟩:=info_parts infoU64
 have hmk:∀ W:World,(Instr.makeSlice 33 (.int .i64 0) (.int .i64 (n:Int))).run Tryz.prog W = .ok (.slice (some ⟨W.heap.size,0,none⟩) 0 n) (W.alloc (.cells (madeCells (Value.int .u64 0).cells n) 23)):=fun W=>by
  have h:=run_makeSlice (P:=Tryz.prog) W 33 23 j0 (.int .u64 0) Tryz.underlying33 hj0 hk0 .i64 .i64 0 (n:Int) (by omega) (by omega) (by rw [hk1];omega) (by rw [hk2];omega) (by omega)
  rw [hk1] at h
  simpa using h
 have hM:(madeCells (Value.int .u64 0).cells n).size=n * 1:=by rw [size_madeCells];simp
 generalize madeCells (Value.int .u64 0).cells n=M at *
 have HI0:Hid (∀ C:Nat,StorI w (w.alloc (.cells M 23)) ws 0 none 0 0 (some ⟨w.heap.size,0,none⟩) 0 n):=fun _ =>
  ⟨(Below.refl _ _).alloc (Nat.le_refl _) _,World.ownsRow_nil _ _ _ _,World.ownsRow_made w M n (Nat.le_refl _) (by unfold maxLen;omega) hM,rfl,rfl⟩
 have e0:((n:Int) == 0)=false:=by rw [beq_eq_false_iff_ne];omega
 obtain ⟨i0,hi0,hz0,hz1,hz2⟩:=info_parts infoInstr
 clear h hv hM
 go_enter Tryz.func73,Tryz.ntmps73
 go_wp2
 clear hmk
 go_loopw [3,4,17] (fun p l i wr=>∃ (k:Nat) (A1:Option Addr) (m1 c1:Nat) (A2:Option Addr) (m2 c2:Nat),k≤n∧i = .int .i64 k∧p = .slice A1 m1 c1∧l = .slice A2 m2 c2∧Hid (StorI w wr ws k A1 m1 c1 A2 m2 c2)) (fun _ _ i _=>n - (RowKit.intOf i).toNat)
 case atStart=>exact ⟨0,_,_,_,_,_,_,Nat.zero_le _,rfl,rfl,rfl,HI0.out 0⟩
 case round =>
  clear HI0
  obtain ⟨k,A1,m1,c1,A2,m2,c2,hk,rfl,rfl,rfl,H⟩:=hrel
  by_cases hlt:k < n
  ·obtain ⟨hl,b,off,hA,hbB,f0,f1⟩:=wr_facts (HR.out.below H.out.below) hlt
   subst hA
   have HTK:Hid ((ws.take (k+1))=ws.take k++[ws[k]]):=List.take_succ_eq_append_getElem hl
   have hvk:=HV.out ws[k] (List.getElem_mem hl)
   generalize ws[k]=e at *
   have q1:m1≤k:=by have:=H.out.h1;omega
   have q2:m2≤k:=by have:=H.out.h2;omega
   have hz0':(0:Int)≤(k:Int):=by omega
   have hz1':(k:Int) < (n:Int):=by omega
   have u1:IntKind.u64.wrap ((e.1:Int) - (e.1:Int) % 64)=(e.1:Int) - (e.1:Int) % 64:=by rw [IntKind.wrap_u64];omega
   have hsz:w.heap.size≤wr.heap.size:=H.out.below.size
   go_wp2_with (first
    | (at_builtin;refine wpList_app _ (.tmp 21) (.tmp 27) 140 rfl rfl w.heap.size 211 i0 _ 3 24 Tryz.underlying140 hi0 hz0 hz1 hz2 rfl ?q1 (.slice A1 m1 c1) m1 (insCells ((ws.take k).map stI)) rfl ?q0 (wr.heap.size+1+1) (some ⟨wr.heap.size+1,0,none⟩) 1 1 (stI e).cells rfl ?q5 (Ins.cells_one (stI e)) ?q2 ?q3 ?q4 ?_;(case q1=>omega);(case q0=>exact (H.out.prog.alloc _).alloc _);(case q5=>exact row_reads_at _ _ (by simp) _ 1 3 211 _ rfl rfl);(case q2=>(unfold maxLen;omega));(case q3=>omega);(case q4=>(simp;omega));intro A3 n3 c3 w8 hn3 ho3 hg3 hb3;obtain ⟨HO3,HN3,HB8,HL8,g0,hs8⟩:=stor1 H.out hn3 ho3 hg3 hb3;clear hn3 ho3 hg3 hb3)
    | (at_builtin;refine wpList_app _ (.tmp 29) (.tmp 33) 33 rfl rfl w.heap.size 23 j0 _ 1 8 Tryz.underlying33 hj0 hk0 hk1 hk2 rfl ?r1 (.slice A2 m2 c2) m2 (uCells ((ws.take k).map fun p=>lineOf p.1)) rfl ?r0 (w8.heap.size+1) (some ⟨w8.heap.size,0,none⟩) 1 1 (uCells [lineOf e.1]) rfl ?r5 (uCells_one [lineOf e.1]) ?r2 ?r3 ?r4 ?_;(case r1=>omega);(case r0=>exact HL8.out.alloc _);(case r5=>exact line_reads w8 e.1);(case r2=>(unfold maxLen;omega));(case r3=>omega);(case r4=>(simp;omega));intro A4 n4 c4 w9 hn4 ho4 hg4 hb4;have HI:=hid (stor2 H.out.h2 HTK.out HO3.out HN3.out HB8.out HL8.out hn4 ho4 hg4 hb4);clear hn4 ho4 hg4 hb4)
    | go_in)
   exact ⟨⟨k+1,_,_,_,_,_,_,by omega,by go_num,rfl,rfl,HI⟩,by simp [RowKit.intOf];omega⟩
  ·obtain rfl:n=k:=by omega
   obtain ⟨hB,hP,hL,h1,h2⟩:=H.out
   rw [List.take_of_length_le (by rw [HLN.out];exact Nat.le_refl _)] at hP hL
   have b1:m1≤n:=by omega
   have b2:m2≤n:=by omega
   have b3:n≤m2:=by omega
   obtain ⟨g,cap,hve,hgb,hglt⟩:=hL.form (by omega)
   have hA2:A2=some ⟨g,0,none⟩:=by injection hve
   subst hA2
   obtain ⟨cur,hcb,hcs,hru,hxl⟩:=own_row hL
   have hcap:=own_cap hL
   have HS:=hid (sort_small g m2 c2 c2 (ws.map fun p=>lineOf p.1) wr ⟨cur,_,hcb,hcs,hru,List.Perm.refl _,Chg.refl _ _⟩ hxl (by omega) hcap.1 hcap.2)
   have HP:=hid hP
   have HBl:=hid hB
   have HCB:=hid hcb
   clear hve hL hP hB hcb hcs hru H h1 h2 hglt
   go_wp2_with fail
   refine HS.out.mono ?_
   rintro e w5 ⟨rfl,cs5,ys,hb5,hsz5,hru5,hpm5,hch5⟩
   have HP5:=hid (hch5.own HP.out (fun g' hg' e=>own_blk_ne HP.out HCB.out (by decide) (by rw [hg',e])))
   have HB5:Hid (Below w.heap.size w w5):=HBl.out.trans (hch5.toBelow HBl.out.size (fun k hk=>by subst hk;exact hgb))
   have HQ:=hid (compact_any (fun x=>∃ e∈ws,x=lineOf e.1) g m2 c2 c2 w5 ⟨cs5,hb5,hsz5,⟨by omega,fun i hi=>by
    have hil:i < ys.length:=by rw [hpm5.length_eq,hxl];exact hi
    refine ⟨ys[i],?_,hru5.2 i hil⟩
    have:=(hpm5.mem_iff).1 (List.getElem_mem hil)
    rw [List.mem_map] at this
    obtain ⟨e,he,hee⟩:=this
    exact ⟨e,he,hee.symm⟩⟩,Chg.refl _ _⟩ (by omega) hcap.1 hcap.2)
   have HCB5:=hid hb5
   clear hb5 hsz5 hru5 hpm5 hch5 HS HP HBl HCB
   go_wp2_with fail
   refine HQ.out.mono ?_
   rintro e w6 ⟨m3,rfl,hm3,cs6,hb6,hsz6,hq6,hch6⟩
   have HP6:=hid (hch6.own HP5.out (fun g' hg' e=>own_blk_ne HP5.out HCB5.out (by decide) (by rw [hg',e])))
   have HI0:Hid (FlI w w6 ws g m1 0 cs6 A1 m1 c1):=⟨[],HB5.out.trans (hch6.toBelow HB5.out.size (fun k hk=>by subst hk;exact hgb)),hb6,by simpa using HP6.out,rfl,rfl,fun _ h=>by cases h⟩
   have HQ6:=hid hq6
   clear hb6 hsz6 hq6 hch6 HP5 HB5 HCB5 HQ HP6
   go_wp2
   go_loopw [3,41] (fun p i wr=>∃ (j:Nat) (A1:Option Addr) (n1 c1:Nat),j≤m3∧i = .int .i64 j∧p = .slice A1 n1 c1∧Hid (FlI w wr ws g m1 j cs6 A1 n1 c1)) (fun _ i _=>m3 - (RowKit.intOf i).toNat)
   case atStart=>exact ⟨0,_,_,_,Nat.zero_le _,rfl,rfl,HI0⟩
   case round =>
    clear HI0
    obtain ⟨j,B1,n1,d1,hj,rfl,rfl,H⟩:=hrel
    obtain ⟨fs,hB,hG,hP,hf,hn1,hq⟩:=H.out
    have b4:n1≤m1+j:=by omega
    have hsz:=hB.size
    by_cases hlt:j < m3
    ·obtain ⟨x,hx,hxc⟩:=HQ6.out.2 j hlt
     have c0:wr.cell? ⟨g,j,none⟩=some (.int .u64 (x:Int)):=by rw [hG.cell];exact hxc
     have HF:=hid (fun (A3:Option Addr) (n3 c3:Nat) (w8:World) (o:Obj) h1 h2 h3 h4=>fl1 (A3:=A3) (n3:=n3) (c3:=c3) (w8:=w8) (o:=o) hB hG hP hf hn1 hq hx h1 h2 h3 h4)
     have HP:=hid hP
     have hz0':(0:Int)≤(j:Int):=by omega
     have hz1':(j:Int) < (m3:Int):=by omega
     clear hB hG hP hf hn1 hq hx hxc H
     go_wp2_with (first
      | (at_builtin;refine wpList_app _ (.tmp 45) (.tmp 48) 140 rfl rfl w.heap.size 211 i0 _ 3 24 Tryz.underlying140 hi0 hz0 hz1 hz2 rfl ?q1 (.slice B1 n1 d1) n1 (insCells (ws.map stI++fs.map Ins.fl)) rfl ?q0 (wr.heap.size+1) (some ⟨wr.heap.size,0,none⟩) 1 1 (Ins.fl x).cells rfl ?q5 (Ins.cells_one (Ins.fl x)) ?q2 ?q3 ?q4 ?_;(case q1=>omega);(case q0=>exact HP.out.alloc _);(case q5=>exact row_reads_at _ _ rfl _ 1 3 211 _ rfl rfl);(case q2=>(unfold maxLen;omega));(case q3=>omega);(case q4=>(simp;omega));intro A3 n3 c3 w8 hn3 ho3 hg3 hb3;have HN:=hid (HF.out A3 n3 c3 w8 _ hn3 ho3 hg3 hb3);clear hn3 ho3 hg3 hb3)
      | go_in)
     exact ⟨⟨j+1,_,_,_,by omega,by go_num,rfl,HN⟩,by simp [RowKit.intOf];omega⟩
    ·obtain rfl:m3=j:=by omega
     have HP:=hid hP
     have HBl:=hid hB
     have HFQ:=hid hq
     have HFL:Hid (fs.length≤ws.length):=show _≤_ by rw [HLN.out,hf];omega
     clear hB hG hP hf hn1 hq H
     go_wp2_with (first
      | (at_builtin;refine wpList_app _ (.tmp 51) (.tmp 53) 140 rfl rfl w.heap.size 211 i0 _ 3 24 Tryz.underlying140 hi0 hz0 hz1 hz2 rfl ?q1 (.slice B1 n1 d1) n1 (insCells (ws.map stI++fs.map Ins.fl)) rfl ?q0 (wr.heap.size+1) (some ⟨wr.heap.size,0,none⟩) 1 1 Ins.fe.cells rfl ?q5 (Ins.cells_one Ins.fe) ?q2 ?q3 ?q4 ?_;(case q1=>omega);(case q0=>exact HP.out.alloc _);(case q5=>exact row_reads_at _ _ rfl _ 1 3 211 _ rfl rfl);(case q2=>(unfold maxLen;omega));(case q3=>omega);(case q4=>(simp;omega));intro A3 n3 c3 w8 hn3 ho3 hg3 hb3;have HO:=hid ho3;have HBB:=hid hb3;clear hn3 ho3 hg3 hb3)
      | go_in)
     go_ret
     refine ⟨A3,n3,c3,ws.map stI++fs.map Ins.fl++[Ins.fe],rfl,⟨fs,rfl,HFL.out,HFQ.out⟩,?_,(HBl.out.alloc hsz _).trans HBB.out⟩
     have:=HO.out
     rw [insCells_app]
     simpa [insCells] using this
end
section
open Go.RowKit
def bitAt (V i:Nat):Bool:=V / 2 ^ i % 2 == 1
theorem bit_at (V i:Nat) (hV:V < 18446744073709551616):(bits .and .u64 ((V:Int) / 2 ^ i) 1 == 1)=bitAt V i:=by
 have e:(V:Int) / 2 ^ i=((V / 2 ^ i:Nat):Int):=by push_cast;rfl
 have h:=Nat.div_le_self V (2 ^ i)
 rw [e]
 unfold bitAt
 generalize V / 2 ^ i=y at *
 rw [Lib.u64_and1 _ (by omega) (by omega)]
 have e2:(y:Int) % 2=((y % 2:Nat):Int):=by omega
 rw [e2]
 generalize y % 2=x
 by_cases h:x=1
 ·subst h;rfl
 ·rw [beq_eq_false_iff_ne.2 h,beq_eq_false_iff_ne];omega
section
variable {a:DA} {L T:Nat} {w:World} {S:Fp} {cur:Nat→Nat} {F:Nat}
theorem read_any (h:Dev a L T w S cur F) (ht:Tab w) (hp:Pay w) (ln cl g V i:Nat) (b:BK) (hb:b.In) (hl:ln+32≤L) (hc:cl < 5) (hi:i < perC cl) (hV:V < 18446744073709551616) (hv:cur (8 * ln+1)=V) (hw:cur (8 * ln+offB cl i)=b.w) :
  Calls Tryz.prog 162 #[chV a ln cl 0 g, .int .i64 (i:Int)] w fun e w'=>e = .returned (.tuple #[b.v, .bool true, .bool (bitAt V i)])∧Below w.heap.size w w':=by
 obtain ⟨_,_,_,_,_,hdc,_⟩:=id h
 have hL:=hdc.hL
 clear hdc
 have ho:=off_lt hi
 have hi62:=per_le cl
 have HLd:=hid (load_at h (64 * ln+8 * offB cl i) b.w (by omega) (by omega) (by rw [show (64 * ln+8 * offB cl i) / 8=8 * ln+offB cl i by omega];exact hw))
 have hb0:Below w.heap.size w ((w.alloc (.cells (chCells a ln cl g) 221)).alloc (.cells #[.int .u16 0, .int .u8 0, .int .u8 0] 286)):=((Below.refl _ _).alloc (Nat.le_refl _) _).alloc (by simp) _
 have HB0:=hid hb0
 have HBi:=hid (bits_any (h.below hb0) ln cl g V hl hv)
 have HAt:Hid (∀ W,Below w.heap.size w W→Calls Tryz.prog 213 #[chV a ln cl 0 g, .int .i64 (i:Int)] W fun e w'=>e = .returned (.int .u64 ((64 * ln+8 * offB cl i:Nat):Int))∧Below W.heap.size W w'):=hid (fun W hW=>blkAt_any ln cl g i (by omega) hc hi W (hp.below hW))
 have HSe:Hid (∀ W,Below w.heap.size w W→Calls Tryz.prog 212 #[.int .u64 (b.w:Int)] W fun e w'=>e = .returned (.tuple #[b.v, .bool true])∧Below W.heap.size W w'):=hid (fun W hW=>sealed_any b hb W (ht.below hW))
 have hna:=aheadLoad ⟨a.th 0,0,none⟩
 have hm:=methLoad (some ⟨a.th 0,0,none⟩)
 have HK:=hid ((Blk.new w 221 (chCells a ln cl g)).below ((Below.refl _ (w.alloc (.cells (chCells a ln cl g) 221))).alloc (Nat.le_refl _) (.cells #[.int .u16 0, .int .u8 0, .int .u8 0] 286)) (by simp))
 have esz:(w.alloc (.cells (chCells a ln cl g) 221)).heap.size=w.heap.size+1:=by simp
 have HK2:Hid (Blk ((w.alloc (.cells (chCells a ln cl g) 221)).alloc (.cells #[.int .u16 0, .int .u8 0, .int .u8 0] 286)) (w.heap.size+1) 286 #[.int .u16 0, .int .u8 0, .int .u8 0]):=by
  rw [← esz]
  exact Blk.new _ _ _
 clear h hv hw hb0 hp ht esz
 have s1:IntKind.u64.wrap (i:Int)=(i:Int):=by rw [IntKind.wrap_u64];omega
 unfold chV BK.v at *
 unfold chCells memV at *
 have ebit:=bit_at V i hV
 generalize bitAt V i=bt at *
 generalize 64 * ln+8 * offB cl i=z at *
 generalize offB cl i=ob at *
 go_enter Tryz.func162,Tryz.ntmps162
 go_wp2_with fail
 refine HBi.out.mono ?_
 rintro e w1 ⟨rfl,hb1⟩
 have HB1:=hid (HB0.out.trans (hb1.mono HB0.out.size))
 have HKs:=hid (HK.out.below hb1 HK.out.lt)
 have HK2s:=hid (HK2.out.below hb1 HK2.out.lt)
 have HBD:Hid (Below w1.heap.size w1 w1.drew):=(Below.refl _ _).drew
 clear hb1 HK HK2 HBi HB0
 go_wp2_with fail
 have f0:w1.cell? ⟨w.heap.size,0,none⟩=some (.iface 41 (.pointer (some ⟨a.th 0,0,none⟩))):=HKs.out.cell 0
 have f1:w1.cell? ⟨w.heap.size,1,none⟩=some (.int .i64 (ln:Int)):=HKs.out.cell 1
 have f2:w1.cell? ⟨w.heap.size,2,none⟩=some (.int .i64 (cl:Int)):=HKs.out.cell 2
 have f3:w1.cell? ⟨w.heap.size,3,none⟩=some (.int .i64 0):=HKs.out.cell 3
 have f4:w1.cell? ⟨w.heap.size,4,none⟩=some (.int .u16 (g:Int)):=HKs.out.cell 4
 have HBW:=hid (HB1.out.drew)
 refine wp_region_script (fun w'=>Blk w' w.heap.size 221 #[.iface 41 (.pointer (some ⟨a.th 0,0,none⟩)), .int .i64 (ln:Int), .int .i64 (cl:Int), .int .i64 0, .int .u16 (g:Int)]) 13 [(true,0),(true,1),(true,2),(true,3),(true,5),(true,6),(false,4),(false,7),(false,8),(true,9),(true,10),(true,11),(false,12)] (by kernel_rfl) (by kernel_rfl) HKs.out.drew ?_
 refine wpScript_take (.pointer (some ⟨w.heap.size,0,none⟩)) (by rfl) (by rfl) (fun w' hS=>?_) ?_
 ·go_simp
 simp only [zA,zB,Act.put,zD,zE,zF]
 refine wpScript_take (.iface 41 (.pointer (some ⟨a.th 0,0,none⟩))) (by rfl) (by rfl) (fun w' hS=>?_) ?_
 ·have f0:w'.cell? ⟨w.heap.size,0,none⟩=some (.iface 41 (.pointer (some ⟨a.th 0,0,none⟩))):=hS.cell 0
  go_simp
 simp only [zA,zB,zC,Act.put,zD,zE,zF]
 refine wpScript_take (.agg #[.iface 41 (.pointer (some ⟨a.th 0,0,none⟩)), .int .i64 (ln:Int), .int .i64 (cl:Int), .int .i64 0, .int .u16 (g:Int)]) (by rfl) (by rfl) (fun w' hS=>?_) ?_
 ·have hk:=hS
  have f0:w'.cell? ⟨w.heap.size,0,none⟩=some (.iface 41 (.pointer (some ⟨a.th 0,0,none⟩))):=hk.cell 0
  have f1:w'.cell? ⟨w.heap.size,1,none⟩=some (.int .i64 (ln:Int)):=hk.cell 1
  have f2:w'.cell? ⟨w.heap.size,2,none⟩=some (.int .i64 (cl:Int)):=hk.cell 2
  have f3:w'.cell? ⟨w.heap.size,3,none⟩=some (.int .i64 0):=hk.cell 3
  have f4:w'.cell? ⟨w.heap.size,4,none⟩=some (.int .u16 (g:Int)):=hk.cell 4
  go_simp
 simp only [zA,zB,zC,Act.put,zD,zE,zF]
 refine wpScript_take (.int .i64 (i:Int)) (by rfl) (by rfl) (fun w' hS=>?_) ?_
 ·go_simp
 simp only [zA,zB,zC,Act.put,zD,zE,zF]
 refine wpScript_take (.iface 41 (.pointer (some ⟨a.th 0,0,none⟩))) (by rfl) (by rfl) (fun w' hS=>?_) ?_
 ·go_simp
 simp only [zA,zB,zC,Act.put,zD,zE,zF]
 refine wpScript_take (.iface 41 (.pointer (some ⟨a.th 0,0,none⟩))) (by rfl) (by rfl) (fun w' hS=>?_) ?_
 ·go_simp
 simp only [zA,zB,zC,Act.put,zD,zE,zF]
 refine wpScript_do (by rfl) ?_
 go_wp2_with fail
 refine (HAt.out _ HBW.out).mono ?_
 rintro e w2 ⟨rfl,hb2⟩
 have HB2:=hid (HBD.out.trans (hb2.mono HBD.out.size))
 have HW2:=hid (HBW.out.trans (hb2.mono HBW.out.size))
 clear hb2 HAt HBW
 go_wp2_with fail
 refine ⟨HKs.out.below HB2.out HKs.out.lt,?_⟩
 refine wpScript_do (by rfl) ?_
 go_wp2_with fail
 refine (HLd.out _ HW2.out).mono ?_
 rintro e w3 ⟨rfl,rfl⟩
 go_wp2_with fail
 refine ⟨HKs.out.below HB2.out HKs.out.lt,?_⟩
 refine wpScript_do (by rfl) ?_
 go_wp2_with fail
 refine (HSe.out _ HW2.out).mono ?_
 rintro e w3 ⟨rfl,hb3⟩
 have HB3:=hid (HB2.out.trans (hb3.mono HB2.out.size))
 have HW3:=hid (HW2.out.trans (hb3.mono HW2.out.size))
 clear hb3 HSe HLd
 go_wp2_with fail
 refine ⟨HKs.out.below HB3.out HKs.out.lt,?_⟩
 refine wpScript_take (.tuple #[.agg #[.int .u16 (b.gen:Int), .int .u8 (b.kind:Int), .int .u8 (b.st:Int)], .bool true]) (by rfl) (by rfl) (fun w' hS=>?_) ?_
 ·go_simp
 simp only [zA,zB,zC,Act.put,zD,zE,zF]
 refine wpScript_take (.agg #[.int .u16 (b.gen:Int), .int .u8 (b.kind:Int), .int .u8 (b.st:Int)]) (by rfl) (by rfl) (fun w' hS=>?_) ?_
 ·go_simp
 simp only [zA,zB,zC,Act.put,zD,zE,zF]
 refine wpScript_take (.bool true) (by rfl) (by rfl) (fun w' hS=>?_) ?_
 ·go_simp
 simp only [zA,zB,zC,Act.put,zD,zE,zF]
 refine wpScript_do (by rfl) ?_
 have hk2:=HK2s.out.below HB3.out HK2s.out.lt
 have c0:w3.cell? ⟨w.heap.size+1,0,none⟩=some (.int .u16 0):=hk2.cell 0
 have c1:w3.cell? ⟨w.heap.size+1,1,none⟩=some (.int .u8 0):=hk2.cell 1
 have c2:w3.cell? ⟨w.heap.size+1,2,none⟩=some (.int .u8 0):=hk2.cell 2
 have z0:w3.frozen? ⟨w.heap.size+1,0,none⟩=false:=hk2.frozen 0
 have z1:w3.frozen? ⟨w.heap.size+1,1,none⟩=false:=hk2.frozen 1
 have z2:w3.frozen? ⟨w.heap.size+1,2,none⟩=false:=hk2.frozen 2
 have n01:(⟨w.heap.size+1,0,none⟩:Addr)≠⟨w.heap.size+1,1,none⟩:=by simp
 have n02:(⟨w.heap.size+1,0,none⟩:Addr)≠⟨w.heap.size+1,2,none⟩:=by simp
 have n12:(⟨w.heap.size+1,1,none⟩:Addr)≠⟨w.heap.size+1,2,none⟩:=by simp
 clear f0 f1 f2 f3 f4
 go_wp2_with fail
 refine ⟨(((HKs.out.below HB3.out HKs.out.lt).far (p:=⟨w.heap.size+1,0,none⟩) (Nat.ne_of_lt (Nat.lt_succ_self _)) _).far (p:=⟨w.heap.size+1,1,none⟩) (Nat.ne_of_lt (Nat.lt_succ_self _)) _).far (p:=⟨w.heap.size+1,2,none⟩) (Nat.ne_of_lt (Nat.lt_succ_self _)) _,?_⟩
 show wpList _ _ _ _ _ _
 simp only [List.drop_succ_cons,List.drop_zero]
 go_wp2_with fail
 refine NoPanic.normal ?_
 have HKc:=hid (((hk2.set_ 0 (.int .u16 (b.gen:Int))).set_ 1 (.int .u8 (b.kind:Int))).set_ 2 (.int .u8 (b.st:Int)))
 have HWc:=hid (((HW3.out.setCell (p:=⟨w.heap.size+1,0,none⟩) (Nat.le_succ _) (.int .u16 (b.gen:Int))).setCell (p:=⟨w.heap.size+1,1,none⟩) (Nat.le_succ _) (.int .u8 (b.kind:Int))).setCell (p:=⟨w.heap.size+1,2,none⟩) (Nat.le_succ _) (.int .u8 (b.st:Int)))
 generalize ((w3.setCell ⟨w.heap.size+1,0,none⟩ (.int .u16 (b.gen:Int))).setCell ⟨w.heap.size+1,1,none⟩ (.int .u8 (b.kind:Int))).setCell ⟨w.heap.size+1,2,none⟩ (.int .u8 (b.st:Int))=wc at *
 clear hk2 c0 c1 c2 z0 z1 z2 n01 n02 n12
 have c0:wc.cell? ⟨w.heap.size+1,0,none⟩=some (.int .u16 (b.gen:Int)):=HKc.out.cell 0
 have c1:wc.cell? ⟨w.heap.size+1,1,none⟩=some (.int .u8 (b.kind:Int)):=HKc.out.cell 1
 have c2:wc.cell? ⟨w.heap.size+1,2,none⟩=some (.int .u8 (b.st:Int)):=HKc.out.cell 2
 have z0:wc.frozen? ⟨w.heap.size+1,0,none⟩=false:=HKc.out.frozen 0
 have z1:wc.frozen? ⟨w.heap.size+1,1,none⟩=false:=HKc.out.frozen 1
 have z2:wc.frozen? ⟨w.heap.size+1,2,none⟩=false:=HKc.out.frozen 2
 go_wp2
 have n01:(⟨w.heap.size+1,0,none⟩:Addr)≠⟨w.heap.size+1,1,none⟩:=by simp
 have n02:(⟨w.heap.size+1,0,none⟩:Addr)≠⟨w.heap.size+1,2,none⟩:=by simp
 have n12:(⟨w.heap.size+1,1,none⟩:Addr)≠⟨w.heap.size+1,2,none⟩:=by simp
 refine bodyPost_ret (v := .tuple #[.agg #[.int .u16 (b.gen:Int), .int .u8 (b.kind:Int), .int .u8 (b.st:Int)], .bool true, .bool bt]) (by simp [results,Tryz.results162,go_sem,c0,c1,c2]) rfl ⟨rfl,?_⟩
 have hle:w.heap.size≤w.heap.size+1:=Nat.le_succ _
 exact ((HWc.out.setCell (p:=⟨w.heap.size+1,0,none⟩) hle (.int .u16 (b.gen:Int))).setCell (p:=⟨w.heap.size+1,1,none⟩) hle (.int .u8 (b.kind:Int))).setCell (p:=⟨w.heap.size+1,2,none⟩) hle (.int .u8 (b.st:Int))
end
end
end Go.Proofs.YtnlokpakiambaaaGreatDoor
