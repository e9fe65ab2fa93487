/- The walks and laws that the claim leans on, part 16. -/
import Derived.Test.YtfkjjoglnmeciaaGreatDoorJai
set_option maxRecDepth 100000
set_option maxHeartbeats 16000000
namespace Go.Proofs.YtfkjjoglnmeciaaGreatDoor
open Go.Lib (hid)
section
open Go.RowKit
theorem sort_small (g n cap sz:Nat) (xs:List Nat) (w:World) (h:SortI w w g xs sz) (hl:xs.length=n) (hn:n≤1000000) (hc:n≤cap) (hcm:cap≤9223372036854775807) :
  Calls Tryz.prog 58 #[.slice (some ⟨g,0,none⟩) n cap] w (RetSort w g xs sz):=sort_any g n cap sz xs w h hl hn hc hcm
end
section
open Go.RowKit
theorem infoInstr:(Tryz.prog.info? 284).map (fun i=>(i.zero,i.size,i.bytes))=some (some (.agg #[.int .u8 0, .int .u64 0, .int .u64 0]),3,24):=by kernel_rfl
theorem infoU64:(Tryz.prog.info? 32).map (fun i=>(i.zero,i.size,i.bytes))=some (some (.int .u64 0),1,8):=by kernel_rfl
theorem wr_facts {w:World} {B n:Nat} {A:Option Addr} {ws:List (Nat × Nat)} (h:Reads w B 2 A n (wrCells ws)) {k:Nat} (hk:k < n) :
  ∃ (hl:k < ws.length) (b off:Nat),A=some ⟨b,off,none⟩∧b < B∧w.cell? ⟨b,off+k * 2,none⟩=some (.int .u64 ((ws[k]).1:Int))∧w.cell? ⟨b,off+k * 2+1,none⟩=some (.int .u64 ((ws[k]).2:Int)):=by
 have hl:k < ws.length:=by have:=h.1;rw [wrCells_len] at this;omega
 obtain ⟨b,off,hA,hb,hc⟩:=h.plain (by omega) (by omega)
 exact ⟨hl,b,off,hA,hb,hc (k * 2) _ (wrCells_at ws k hl).1,hc (k * 2+1) _ (wrCells_at ws k hl).2⟩
def uCells (xs:List Nat):List Value:=xs.map fun x:Nat=>Value.int .u64 (x:Int)
theorem uCells_one (xs:List Nat):∀ u∈uCells xs,u.oneCell'=true:=by
 intro u hu
 simp only [uCells,List.mem_map] at hu
 obtain ⟨x,_,rfl⟩:=hu
 rfl
theorem own_own_ne {w:World} {b1 b2:Nat} {e1 e2:TypeId} {s1 s2:Nat} {v1 v2:Value} {n1 n2:Nat} {x1 x2:List Value} (h1:w.ownsRow b1 e1 s1 v1 n1 x1) (h2:w.ownsRow b2 e2 s2 v2 n2 x2) (hne:e1≠e2):v1.ownBlock=none∨v1.ownBlock≠v2.ownBlock:=by
 rcases h1.2 with ⟨rfl,_⟩ | ⟨g,cap,cur,rfl,_,hh,_⟩
 ·exact .inl rfl
 ·right
  have:=own_blk_ne h2 (show Blk w g e1 cur from hh) (Ne.symm hne)
  intro he
  exact this (by rw [← he];rfl)
def lineOf (o:Nat):Nat:=o - o % 64
theorem line_reads (w:World) (o:Nat):Reads (w.alloc (.cells #[.int .u64 ((o:Int) - (o:Int) % 64)] 32)) (w.heap.size+1) 1 (some ⟨w.heap.size,0,none⟩) 1 (uCells [lineOf o]):=by
 refine row_reads_at w _ rfl _ 1 1 32 _ ?_ rfl
 have e:((lineOf o:Nat):Int)=(o:Int) - (o:Int) % 64:=by unfold lineOf;omega
 simp only [uCells,List.map_cons,List.map_nil,e]
def stI (p:Nat × Nat):Ins := .st p.1 p.2
structure StorI (w wr:World) (ws:List (Nat × Nat)) (k:Nat) (A1:Option Addr) (m1 c1:Nat) (A2:Option Addr) (m2 c2:Nat):Prop where
 below:Below w.heap.size w wr
 prog:wr.ownsRow w.heap.size 284 3 (.slice A1 m1 c1) m1 (insCells ((ws.take k).map stI))
 lines:wr.ownsRow w.heap.size 32 1 (.slice A2 m2 c2) m2 (uCells ((ws.take k).map fun p=>lineOf p.1))
 h1:m1=k
 h2:m2=k
section
variable {w wr w8 w9:World} {ws:List (Nat × Nat)} {k:Nat} {A1:Option Addr} {m1 c1:Nat} {A2:Option Addr} {m2 c2:Nat} {e:Nat × Nat} {A3:Option Addr} {n3 c3:Nat} {A4:Option Addr} {n4 c4:Nat} {o:Obj}
theorem stor1 (H:StorI w wr ws k A1 m1 c1 A2 m2 c2) (hn3:n3=m1+1) (ho3:w8.ownsRow w.heap.size 284 3 (.slice A3 n3 c3) n3 (insCells ((ws.take k).map stI)++(stI e).cells))
  (hg3:((wr.alloc (.cells #[.int .u64 (e.1:Int), .int .u64 (e.2:Int)] 114)).alloc o).grownBy w8 (Value.slice A1 m1 c1).ownBlock) (hb3:Below w.heap.size ((wr.alloc (.cells #[.int .u64 (e.1:Int), .int .u64 (e.2:Int)] 114)).alloc o) w8) :
  Hid (w8.ownsRow w.heap.size 284 3 (.slice A3 n3 c3) n3 (insCells ((ws.take k).map stI)++(stI e).cells))∧Hid (n3=k+1)∧Hid (Below w.heap.size w w8)∧Hid (w8.ownsRow w.heap.size 32 1 (.slice A2 m2 c2) m2 (uCells ((ws.take k).map fun p=>lineOf p.1))) ∧
   w8.cell? ⟨wr.heap.size,0,none⟩=some (.int .u64 (e.1:Int))∧w.heap.size≤w8.heap.size:=by
 have hsz:=H.below.size
 have h1:=H.h1
 have hB:Below w.heap.size w w8:=((H.below.alloc hsz _).alloc (by simp;omega) _).trans hb3
 have hblk:=((Blk.new wr 114 #[.int .u64 (e.1:Int), .int .u64 (e.2:Int)]).alloc o).grown hg3 (own_ne H.prog (g:=wr.heap.size) (.inr (Nat.le_refl _)))
 exact ⟨ho3,show n3=k+1 by omega,hB,((H.lines.alloc _).alloc _).kept hg3 (own_own_ne H.lines H.prog (by decide)),hblk.cell 0,hB.size⟩
theorem stor2 (h2:m2=k) (hTK:ws.take (k+1)=ws.take k++[e]) (ho3:w8.ownsRow w.heap.size 284 3 (.slice A3 n3 c3) n3 (insCells ((ws.take k).map stI)++(stI e).cells)) (hn3:n3=k+1) (hB:Below w.heap.size w w8) (hL:w8.ownsRow w.heap.size 32 1 (.slice A2 m2 c2) m2 (uCells ((ws.take k).map fun p=>lineOf p.1)))
  (hn4:n4=m2+1) (ho4:w9.ownsRow w.heap.size 32 1 (.slice A4 n4 c4) n4 (uCells ((ws.take k).map fun p=>lineOf p.1)++uCells [lineOf e.1])) (hg4:(w8.alloc o).grownBy w9 (Value.slice A2 m2 c2).ownBlock) (hb4:Below w.heap.size (w8.alloc o) w9):StorI w w9 ws (k+1) A3 n3 c3 A4 n4 c4:=by
 refine ⟨(hB.alloc hB.size _).trans hb4,?_,?_,hn3,by omega⟩
 ·rw [hTK,List.map_append,insCells_app]
  have e1:insCells (List.map stI [e])=(stI e).cells:=by simp [insCells]
  rw [e1]
  exact (ho3.alloc _).kept hg4 (own_own_ne ho3 hL (by decide))
 ·rw [hTK,List.map_append]
  have e1:uCells (List.map (fun p:Nat × Nat=>lineOf p.1) (ws.take k)++List.map (fun p:Nat × Nat=>lineOf p.1) [e])=uCells ((ws.take k).map fun p=>lineOf p.1)++uCells [lineOf e.1]:=by simp [uCells]
  rw [e1]
  exact ho4
end
theorem own_row {w:World} {base g m c:Nat} {xs:List Nat} (h:w.ownsRow base 32 1 (.slice (some ⟨g,0,none⟩) m c) m (uCells xs)):∃ cur,Blk w g 32 cur∧cur.size=c∧RowU cur xs∧xs.length=m:=by
 have hl:xs.length=m:=by have:=h.1;simpa [uCells] using this
 rcases h.2 with ⟨hv,_⟩ | ⟨g',cap',cur,hv,hb,hh,h1,h2,h3,h4⟩
 ·cases hv
 ·simp only [Value.slice.injEq,Option.some.injEq,Addr.mk.injEq,and_true,true_and] at hv
  obtain ⟨rfl,rfl⟩:=hv
  refine ⟨cur,hh,by omega,⟨by omega,fun i hi=>?_⟩,hl⟩
  have h5:(cur.toList.take (m * 1))[i]?=(uCells xs)[i]?:=by rw [h4]
  rw [List.getElem?_take_of_lt (by omega)] at h5
  rw [← Array.getElem?_toList,h5]
  simp [uCells,hi]
def FlI (w wr:World) (ws:List (Nat × Nat)) (g m1 j:Nat) (cs:Array Value) (A1:Option Addr) (n1 c1:Nat):Prop :=
 ∃ fs:List Nat,Below w.heap.size w wr∧Blk wr g 32 cs∧wr.ownsRow w.heap.size 284 3 (.slice A1 n1 c1) n1 (insCells (ws.map stI++fs.map Ins.fl))∧fs.length=j∧n1=m1+j∧(∀ o∈fs,∃ e∈ws,o=lineOf e.1)∧∀ i,i < j→∀ x:Nat,cs[i]?=some (.int .u64 (x:Int))→x∈fs
theorem fl1 {w wr w8:World} {ws:List (Nat × Nat)} {g m1 j:Nat} {cs:Array Value} {A1:Option Addr} {n1 c1:Nat} {A3:Option Addr} {n3 c3 x:Nat} {o:Obj} {fs:List Nat} (hB:Below w.heap.size w wr) (hG:Blk wr g 32 cs) (hP:wr.ownsRow w.heap.size 284 3 (.slice A1 n1 c1) n1 (insCells (ws.map stI++fs.map Ins.fl))) (hf:fs.length=j) (hn1:n1=m1+j) (hq:∀ o∈fs,∃ e∈ws,o=lineOf e.1) (hal:∀ i,i < j→∀ x:Nat,cs[i]?=some (.int .u64 (x:Int))→x∈fs) (hxc:cs[j]?=some (.int .u64 (x:Int)))
  (hx:∃ e∈ws,x=lineOf e.1) (hn3:n3=n1+1) (ho3:w8.ownsRow w.heap.size 284 3 (.slice A3 n3 c3) n3 (insCells (ws.map stI++fs.map Ins.fl)++(Ins.fl x).cells)) (hg3:(wr.alloc o).grownBy w8 (Value.slice A1 n1 c1).ownBlock) (hb3:Below w.heap.size (wr.alloc o) w8):FlI w w8 ws g m1 (j+1) cs A3 n3 c3:=by
 refine ⟨fs++[x],(hB.alloc hB.size _).trans hb3,(hG.alloc o).grown hg3 (fun e=>own_blk_ne hP hG (by decide) e.symm),?_,by simp [hf],by omega,fun y hy=>?_,fun i hi y hy=>?_⟩
 ·have e1:insCells (ws.map stI++(fs++[x]).map Ins.fl)=insCells (ws.map stI++fs.map Ins.fl)++(Ins.fl x).cells:=by simp [insCells]
  rw [e1];exact ho3
 ·rw [List.mem_append,List.mem_singleton] at hy
  rcases hy with hy | rfl
  ·exact hq y hy
  ·exact hx
 ·rw [List.mem_append,List.mem_singleton]
  by_cases hij:i=j
  ·right
   rw [hij,hxc] at hy
   injection hy with hy
   injection hy with _ hy
   omega
  ·exact .inl (hal i (by omega) y hy)
def IsStores (ws:List (Nat × Nat)) (p:List Ins):Prop:=∃ fs:List Nat,p=ws.map stI++fs.map Ins.fl++[Ins.fe]∧fs.length≤ws.length∧(∀ o∈fs,∃ e∈ws,o=lineOf e.1)∧∀ e∈ws,lineOf e.1∈fs
def RetProg (w:World) (P:List Ins→Prop) (e:Ending) (w':World):Prop:=∃ A m c p,e = .returned (.slice A m c)∧P p∧w'.ownsRow w.heap.size 284 3 (.slice A m c) m (insCells p)∧Below w.heap.size w w'
theorem stores_small (A:Option Addr) (n c:Nat) (ws:List (Nat × Nat)) (w:World) (h:Reads w w.heap.size 2 A n (wrCells ws)) (h0:0 < n) (hn:n≤1000) (hv:∀ e∈ws,e.1 < 18446744073709551616) :
  Calls Tryz.prog 105 #[.slice A n c] w (RetProg w (IsStores ws)):=by
 have HR:=hid h
 have HLN:=hid (show ws.length=n by have:=h.1;rw [wrCells_len] at this;omega)
 have HV:=hid hv
 obtain ⟨j0,hj0,hk0,hk1,hk2⟩:=info_parts infoU64
 have hmk:∀ W:World,(Instr.makeSlice 99 (.int .i64 0) (.int .i64 (n:Int))).run Tryz.prog W = .ok (.slice (some ⟨W.heap.size,0,none⟩) 0 n) (W.alloc (.cells (madeCells (Value.int .u64 0).cells n) 32)):=fun W=>by
  have h:=run_makeSlice (P:=Tryz.prog) W 99 32 j0 (.int .u64 0) Tryz.underlying99 hj0 hk0 .i64 .i64 0 (n:Int) (by omega) (by omega) (by rw [hk1];omega) (by rw [hk2];omega) (by omega)
  rw [hk1] at h
  simpa using h
 have hM:(madeCells (Value.int .u64 0).cells n).size=n * 1:=by rw [size_madeCells];simp
 generalize madeCells (Value.int .u64 0).cells n=M at *
 have HI0:Hid (∀ C:Nat,StorI w (w.alloc (.cells M 32)) ws 0 none 0 0 (some ⟨w.heap.size,0,none⟩) 0 n):=fun _ =>
  ⟨(Below.refl _ _).alloc (Nat.le_refl _) _,World.ownsRow_nil _ _ _ _,World.ownsRow_made w M n (Nat.le_refl _) (by unfold maxLen;omega) hM,rfl,rfl⟩
 have e0:((n:Int) == 0)=false:=by rw [beq_eq_false_iff_ne];omega
 obtain ⟨i0,hi0,hz0,hz1,hz2⟩:=info_parts infoInstr
 clear h hv hM
 go_enter Tryz.func105,Tryz.ntmps105
 go_wp2
 clear hmk
 go_loopw [3,4,17] (fun p l i wr=>∃ (k:Nat) (A1:Option Addr) (m1 c1:Nat) (A2:Option Addr) (m2 c2:Nat),k≤n∧i = .int .i64 k∧p = .slice A1 m1 c1∧l = .slice A2 m2 c2∧Hid (StorI w wr ws k A1 m1 c1 A2 m2 c2)) (fun _ _ i _=>n - (RowKit.intOf i).toNat)
 case atStart=>exact ⟨0,_,_,_,_,_,_,Nat.zero_le _,rfl,rfl,rfl,HI0.out 0⟩
 case round =>
  clear HI0
  obtain ⟨k,A1,m1,c1,A2,m2,c2,hk,rfl,rfl,rfl,H⟩:=hrel
  by_cases hlt:k < n
  ·obtain ⟨hl,b,off,hA,hbB,f0,f1⟩:=wr_facts (HR.out.below H.out.below) hlt
   subst hA
   have HTK:Hid ((ws.take (k+1))=ws.take k++[ws[k]]):=List.take_succ_eq_append_getElem hl
   have hvk:=HV.out ws[k] (List.getElem_mem hl)
   generalize ws[k]=e at *
   have q1:m1≤k:=by have:=H.out.h1;omega
   have q2:m2≤k:=by have:=H.out.h2;omega
   have hz0':(0:Int)≤(k:Int):=by omega
   have hz1':(k:Int) < (n:Int):=by omega
   have u1:IntKind.u64.wrap ((e.1:Int) - (e.1:Int) % 64)=(e.1:Int) - (e.1:Int) % 64:=by rw [IntKind.wrap_u64];omega
   have hsz:w.heap.size≤wr.heap.size:=H.out.below.size
   go_wp2_with (first
    | (at_builtin;refine wpList_app _ (.tmp 21) (.tmp 27) 151 rfl rfl w.heap.size 284 i0 _ 3 24 Tryz.underlying151 hi0 hz0 hz1 hz2 rfl ?q1 (.slice A1 m1 c1) m1 (insCells ((ws.take k).map stI)) rfl ?q0 (wr.heap.size+1+1) (some ⟨wr.heap.size+1,0,none⟩) 1 1 (stI e).cells rfl ?q5 (Ins.cells_one (stI e)) ?q2 ?q3 ?q4 ?_;(case q1=>omega);(case q0=>exact (H.out.prog.alloc _).alloc _);(case q5=>exact row_reads_at _ _ (by simp) _ 1 3 284 _ rfl rfl);(case q2=>(unfold maxLen;omega));(case q3=>omega);(case q4=>(simp;omega));intro A3 n3 c3 w8 hn3 ho3 hg3 hb3;obtain ⟨HO3,HN3,HB8,HL8,g0,hs8⟩:=stor1 H.out hn3 ho3 hg3 hb3;clear hn3 ho3 hg3 hb3)
    | (at_builtin;refine wpList_app _ (.tmp 29) (.tmp 33) 99 rfl rfl w.heap.size 32 j0 _ 1 8 Tryz.underlying99 hj0 hk0 hk1 hk2 rfl ?r1 (.slice A2 m2 c2) m2 (uCells ((ws.take k).map fun p=>lineOf p.1)) rfl ?r0 (w8.heap.size+1) (some ⟨w8.heap.size,0,none⟩) 1 1 (uCells [lineOf e.1]) rfl ?r5 (uCells_one [lineOf e.1]) ?r2 ?r3 ?r4 ?_;(case r1=>omega);(case r0=>exact HL8.out.alloc _);(case r5=>exact line_reads w8 e.1);(case r2=>(unfold maxLen;omega));(case r3=>omega);(case r4=>(simp;omega));intro A4 n4 c4 w9 hn4 ho4 hg4 hb4;have HI:=hid (stor2 H.out.h2 HTK.out HO3.out HN3.out HB8.out HL8.out hn4 ho4 hg4 hb4);clear hn4 ho4 hg4 hb4)
    | go_in)
   exact ⟨⟨k+1,_,_,_,_,_,_,by omega,by go_num,rfl,rfl,HI⟩,by simp [RowKit.intOf];omega⟩
  ·obtain rfl:n=k:=by omega
   obtain ⟨hB,hP,hL,h1,h2⟩:=H.out
   rw [List.take_of_length_le (by rw [HLN.out];exact Nat.le_refl _)] at hP hL
   have b1:m1≤n:=by omega
   have b2:m2≤n:=by omega
   have b3:n≤m2:=by omega
   obtain ⟨g,cap,hve,hgb,hglt⟩:=hL.form (by omega)
   have hA2:A2=some ⟨g,0,none⟩:=by injection hve
   subst hA2
   obtain ⟨cur,hcb,hcs,hru,hxl⟩:=own_row hL
   have hcap:=own_cap hL
   have HS:=hid (sort_small g m2 c2 c2 (ws.map fun p=>lineOf p.1) wr ⟨cur,_,hcb,hcs,hru,List.Perm.refl _,Chg.refl _ _⟩ hxl (by omega) hcap.1 hcap.2)
   have HP:=hid hP
   have HBl:=hid hB
   have HCB:=hid hcb
   clear hve hL hP hB hcb hcs hru H h1 h2 hglt
   go_wp2_with fail
   refine HS.out.mono ?_
   rintro e w5 ⟨rfl,cs5,ys,hb5,hsz5,hru5,hpm5,hch5⟩
   have HP5:=hid (hch5.own HP.out (fun g' hg' e=>own_blk_ne HP.out HCB.out (by decide) (by rw [hg',e])))
   have HB5:Hid (Below w.heap.size w w5):=HBl.out.trans (hch5.toBelow HBl.out.size (fun k hk=>by subst hk;exact hgb))
   have HQ:=hid (compact_any (fun x=>∃ e∈ws,x=lineOf e.1) (fun x=>∃ e∈ws,x=lineOf e.1) g m2 c2 c2 w5 ⟨cs5,hb5,hsz5,⟨by omega,fun i hi=>by
    have hil:i < ys.length:=by rw [hpm5.length_eq,hxl];exact hi
    refine ⟨ys[i],?_,hru5.2 i hil⟩
    have:=(hpm5.mem_iff).1 (List.getElem_mem hil)
    rw [List.mem_map] at this
    obtain ⟨e,he,hee⟩:=this
    exact ⟨e,he,hee.symm⟩⟩,Chg.refl _ _,fun x hx=>by
    obtain ⟨e,he,rfl⟩:=hx
    have hm:lineOf e.1∈ys:=(hpm5.mem_iff).2 (List.mem_map.2 ⟨e,he,rfl⟩)
    obtain ⟨i,hi,hie⟩:=List.getElem_of_mem hm
    have hl:=hpm5.length_eq
    exact ⟨i,by omega,by rw [← hie];exact hru5.2 i hi⟩⟩ (by omega) hcap.1 hcap.2)
   have HCB5:=hid hb5
   clear hb5 hsz5 hru5 hpm5 hch5 HS HP HBl HCB
   go_wp2_with fail
   refine HQ.out.mono ?_
   rintro e w6 ⟨m3,rfl,hm3,cs6,hb6,hsz6,hq6,hch6,hr6⟩
   have HR6:=hid hr6
   have HP6:=hid (hch6.own HP5.out (fun g' hg' e=>own_blk_ne HP5.out HCB5.out (by decide) (by rw [hg',e])))
   have HI0:Hid (FlI w w6 ws g m1 0 cs6 A1 m1 c1):=⟨[],HB5.out.trans (hch6.toBelow HB5.out.size (fun k hk=>by subst hk;exact hgb)),hb6,by simpa using HP6.out,rfl,rfl,fun _ h=>(by cases h),fun i hi=>absurd hi (Nat.not_lt_zero i)⟩
   have HQ6:=hid hq6
   clear hb6 hsz6 hq6 hch6 hr6 HP5 HB5 HCB5 HQ HP6
   go_wp2
   go_loopw [3,41] (fun p i wr=>∃ (j:Nat) (A1:Option Addr) (n1 c1:Nat),j≤m3∧i = .int .i64 j∧p = .slice A1 n1 c1∧Hid (FlI w wr ws g m1 j cs6 A1 n1 c1)) (fun _ i _=>m3 - (RowKit.intOf i).toNat)
   case atStart=>exact ⟨0,_,_,_,Nat.zero_le _,rfl,rfl,HI0⟩
   case round =>
    clear HI0
    obtain ⟨j,B1,n1,d1,hj,rfl,rfl,H⟩:=hrel
    obtain ⟨fs,hB,hG,hP,hf,hn1,hq,hal⟩:=H.out
    have b4:n1≤m1+j:=by omega
    have hsz:=hB.size
    by_cases hlt:j < m3
    ·obtain ⟨x,hx,hxc⟩:=HQ6.out.2 j hlt
     have c0:wr.cell? ⟨g,j,none⟩=some (.int .u64 (x:Int)):=by rw [hG.cell];exact hxc
     have HF:=hid (fun (A3:Option Addr) (n3 c3:Nat) (w8:World) (o:Obj) h1 h2 h3 h4=>fl1 (A3:=A3) (n3:=n3) (c3:=c3) (w8:=w8) (o:=o) hB hG hP hf hn1 hq hal hxc hx h1 h2 h3 h4)
     have HP:=hid hP
     have hz0':(0:Int)≤(j:Int):=by omega
     have hz1':(j:Int) < (m3:Int):=by omega
     clear hB hG hP hf hn1 hq hx hxc hal H
     go_wp2_with (first
      | (at_builtin;refine wpList_app _ (.tmp 45) (.tmp 48) 151 rfl rfl w.heap.size 284 i0 _ 3 24 Tryz.underlying151 hi0 hz0 hz1 hz2 rfl ?q1 (.slice B1 n1 d1) n1 (insCells (ws.map stI++fs.map Ins.fl)) rfl ?q0 (wr.heap.size+1) (some ⟨wr.heap.size,0,none⟩) 1 1 (Ins.fl x).cells rfl ?q5 (Ins.cells_one (Ins.fl x)) ?q2 ?q3 ?q4 ?_;(case q1=>omega);(case q0=>exact HP.out.alloc _);(case q5=>exact row_reads_at _ _ rfl _ 1 3 284 _ rfl rfl);(case q2=>(unfold maxLen;omega));(case q3=>omega);(case q4=>(simp;omega));intro A3 n3 c3 w8 hn3 ho3 hg3 hb3;have HN:=hid (HF.out A3 n3 c3 w8 _ hn3 ho3 hg3 hb3);clear hn3 ho3 hg3 hb3)
      | go_in)
     exact ⟨⟨j+1,_,_,_,by omega,by go_num,rfl,HN⟩,by simp [RowKit.intOf];omega⟩
    ·obtain rfl:m3=j:=by omega
     have HP:=hid hP
     have HBl:=hid hB
     have HFQ:=hid (show (∀ o∈fs,∃ e∈ws,o=lineOf e.1)∧∀ e∈ws,lineOf e.1∈fs from ⟨hq,fun e he=>by
      obtain ⟨i,hi,hv⟩:=HR6.out (lineOf e.1) ⟨e,he,rfl⟩
      exact hal i hi _ hv⟩)
     have HFL:Hid (fs.length≤ws.length):=show _≤_ by rw [HLN.out,hf];omega
     clear hB hG hP hf hn1 hq hal H
     go_wp2_with (first
      | (at_builtin;refine wpList_app _ (.tmp 51) (.tmp 53) 151 rfl rfl w.heap.size 284 i0 _ 3 24 Tryz.underlying151 hi0 hz0 hz1 hz2 rfl ?q1 (.slice B1 n1 d1) n1 (insCells (ws.map stI++fs.map Ins.fl)) rfl ?q0 (wr.heap.size+1) (some ⟨wr.heap.size,0,none⟩) 1 1 Ins.fe.cells rfl ?q5 (Ins.cells_one Ins.fe) ?q2 ?q3 ?q4 ?_;(case q1=>omega);(case q0=>exact HP.out.alloc _);(case q5=>exact row_reads_at _ _ rfl _ 1 3 284 _ rfl rfl);(case q2=>(unfold maxLen;omega));(case q3=>omega);(case q4=>(simp;omega));intro A3 n3 c3 w8 hn3 ho3 hg3 hb3;have HO:=hid ho3;have HBB:=hid hb3;clear hn3 ho3 hg3 hb3)
      | go_in)
     go_ret
     refine ⟨A3,n3,c3,ws.map stI++fs.map Ins.fl++[Ins.fe],rfl,⟨fs,rfl,HFL.out,HFQ.out⟩,?_,(HBl.out.alloc hsz _).trans HBB.out⟩
     have:=HO.out
     rw [insCells_app]
     simpa [insCells] using this
end
section
open Go.RowKit
theorem own_le {w:World} {base base':Nat} {e:TypeId} {size:Nat} {v:Value} {n:Nat} {xs:List Value} (h:w.ownsRow base e size v n xs) (hb:base'≤base):w.ownsRow base' e size v n xs:=by
 refine ⟨h.1,?_⟩
 rcases h.2 with h0 | ⟨g,cap,cur,h1,h2,h3⟩
 ·exact .inl h0
 ·exact .inr ⟨g,cap,cur,h1,Nat.le_trans hb h2,h3⟩
def RetInss (w:World) (m:Nat) (l:List Ins) (e:Ending) (w':World):Prop :=
 ∃ A' m' c',e = .returned (.slice A' m' c')∧m'=m∧w'.ownsRow w.heap.size 284 3 (.slice A' m' c') m' (insCells l)∧Below w.heap.size w w'
theorem grow_nil (n:Nat) (w:World) (h0:0 < n) (hn:n≤1000) :
  Calls Tryz.prog 357 #[.slice none 0 0, .int .i64 (n:Int)] w (RetInss w 0 []):=by
 obtain ⟨i0,hi0,hz0,hz1,hz2⟩:=info_parts infoInstr
 have happ:=Lib.run_append_nil_zeros (P:=Tryz.prog) w 151 3 151 284 i0 _ .i64 .i64 Tryz.underlying151 Tryz.underlying3 hi0 hz0 n h0 (by omega) (by omega) (by rw [hz2];omega)
 generalize hcap:grownCap w n 0 284=cap at happ
 have hcapge:n≤cap:=by rw [← hcap];exact grownCap_ge w _ 0 284
 have hcaple:cap≤maxLen:=by rw [← hcap];exact grownCap_le_maxLen w _ 0 284 (by unfold maxLen;omega)
 have HO:Hid (∀ X:Array Value,X.size=cap * 3→(w.drew.alloc (.cells X 284)).ownsRow w.heap.size 284 3 (.slice (some ⟨w.heap.size,0,none⟩) 0 cap) 0 []):=fun X hX =>
  World.ownsRow_made w.drew X cap (Nat.le_refl _) hcaple hX
 generalize hZ:Builtin.zeroCells _ n++Builtin.zeroCells _ (cap - n)=Z at happ
 have HZ:Hid (Z.size=cap * 3):=show _=_ by rw [← hZ,Array.size_append,size_zeroCells,size_zeroCells,show (Value.agg #[.int .u8 0, .int .u64 0, .int .u64 0]).cells.size=3 from rfl];omega
 clear hZ hcap hi0 hz0 hz1 hz2
 have hb0:(0:Int)≤0:=Int.le_refl _
 have hc9:cap≤9223372036854775807:=hcaple
 go_enter Tryz.func357,Tryz.ntmps357
 go_wp2_with (at_builtin;refine Lib.wpList_append_run _ rfl _ _ _ _ rfl _ _ rfl rfl _ _ happ ?_)
 go_ret
 refine ⟨_,_,_,rfl,rfl,HO.out Z HZ.out,?_⟩
 exact (Below.refl _ _).drew.alloc (Nat.le_refl _) _
theorem grow_zero (w:World):Calls Tryz.prog 357 #[.slice none 0 0, .int .i64 0] w (RetInss w 0 []):=by
 have HO:Hid (∀ _:Nat,w.ownsRow w.heap.size 284 3 (.slice none 0 0) 0 []):=fun _=>World.ownsRow_nil _ _ _ _
 go_enter Tryz.func357,Tryz.ntmps357
 go_wp2
 go_ret
 exact ⟨_,_,_,rfl,rfl,HO.out 0,Below.refl _ _⟩
theorem grow_any (n:Nat) (w:World) (hn:n≤1000):Calls Tryz.prog 357 #[.slice none 0 0, .int .i64 (n:Int)] w (RetInss w 0 []):=by
 rcases Nat.eq_zero_or_pos n with rfl | h
 ·exact grow_zero w
 ·exact grow_nil n w h hn
def catAt (a b:List Ins):Nat→List Ins
 | 0=>[]
 | 1=>a
 | _=>a++b
theorem concat2 (A A2:Option Addr) (n c n2 c2:Nat) (a b:List Ins) (g:Nat) (w:World) (hb:Blk w g 151 #[.slice A n c, .slice A2 n2 c2]) (h1:Reads w w.heap.size 3 A n (insCells a)) (h2:Reads w w.heap.size 3 A2 n2 (insCells b)) (hn1:n≤400) (hn2:n2≤400) :
  Calls Tryz.prog 311 #[.slice (some ⟨g,0,none⟩) 2 2] w (RetInss w (n+n2) (a++b)):=by
 have HB:=hid hb
 have H1:=hid h1
 have H2:=hid h2
 have f0:w.cell? ⟨g,0,none⟩=some (.slice A n c):=hb.cell 0
 have f1:w.cell? ⟨g,1,none⟩=some (.slice A2 n2 c2):=hb.cell 1
 have HG:=hid (grow_any (n+n2) w (by omega))
 clear hb h1 h2
 go_enter Tryz.func311,Tryz.ntmps311
 go_wp2
 go_loopw [3,11] (fun z i wr=>∃ (k m:Nat),k≤2∧i = .int .i64 k∧z = .int .i64 m∧(k=0→m=0)∧(k=1→m=n)∧(k=2→m=n+n2)∧w=wr) (fun _ i _=>2 - (RowKit.intOf i).toNat)
 case atStart=>exact ⟨0,0,by omega,rfl,rfl,fun _=>rfl,by omega,by omega,rfl⟩
 case round =>
  obtain ⟨k,m,hk,rfl,rfl,hm0,hm1,hm2,rfl⟩:=hrel
  have hd:¬ ((m:Int)+(n:Int) < 0):=by omega
  have hd':¬ ((m:Int)+(n2:Int) < 0):=by omega
  rcases (show k=0∨k=1∨k=2 by omega) with rfl | rfl | rfl
  ·obtain rfl:=hm0 rfl
   go_wp2
   go_roundw
   case rel=>exact ⟨1,n,by omega,by go_num,by go_num,by omega,by omega,by omega,trivial⟩
   case measure=>simp [RowKit.intOf]
  ·obtain rfl:=hm1 rfl
   go_wp2
   go_roundw
   case rel=>exact ⟨2,m+n2,by omega,by go_num,by go_num,by omega,by omega,by omega,trivial⟩
   case measure=>simp [RowKit.intOf]
  ·obtain rfl:=hm2 rfl
   obtain ⟨i0,hi0,hz0,hz1,hz2⟩:=info_parts infoInstr
   go_wp2_with (go_at_call 357;refine HG.out.mono ?_;rintro e w1 ⟨A1,n1,c1,rfl,hn1,ho1,hb1⟩;have HO1:=hid ho1;have HB1:=hid hb1;have HN1:=hid hn1;clear ho1 hb1 hn1)
   go_loopw [6,27] (fun v i wr=>∃ (k:Nat) (A':Option Addr) (m c':Nat),k≤2∧i = .int .i64 k∧v = .slice A' m c'∧(k=0→m=0)∧(k=1→m=n)∧(k=2→m=n+n2)∧Hid (wr.ownsRow w.heap.size 284 3 (.slice A' m c') m (insCells (catAt a b k)))∧Hid (Below w.heap.size w wr)) (fun _ i _=>2 - (RowKit.intOf i).toNat)
   case atStart=>exact ⟨0,_,_,_,by omega,rfl,rfl,fun _=>HN1.out,by omega,by omega,HO1,HB1⟩
   case round =>
    obtain ⟨k,A',m,c',hk,rfl,rfl,hm0,hm1,hm2,HO,HW⟩:=hrel
    clear HO1 HB1 HN1
    have f0:wr.cell? ⟨g,0,none⟩=some (.slice A n c):=(HB.out.below HW.out HB.out.lt).cell 0
    have f1:wr.cell? ⟨g,1,none⟩=some (.slice A2 n2 c2):=(HB.out.below HW.out HB.out.lt).cell 1
    rcases (show k=0∨k=1∨k=2 by omega) with rfl | rfl | rfl
    ·obtain rfl:=hm0 rfl
     go_wp2_with (at_builtin;refine wpList_app _ (.tmp 31) (.tmp 32) 151 rfl rfl w.heap.size 284 i0 _ 3 24 Tryz.underlying151 hi0 hz0 hz1 hz2 rfl ?q1 (.slice A' 0 c') 0 (insCells (catAt a b 0)) rfl HO.out w.heap.size A n c (insCells a) rfl ?q5 ?q6 ?q2 ?q3 ?q4 ?_;(case q1=>omega);(case q5=>exact H1.out.below HW.out);(case q6=>exact insCells_one a);(case q2=>(unfold maxLen;omega));(case q3=>omega);(case q4=>exact HW.out.size);intro A3 n3 c3 w8 hn3 ho3 hg3 hb3;have HN3:=hid hn3;have HO3:=hid ho3;have HB3:=hid (HW.out.trans hb3);clear hn3 ho3 hg3 hb3)
     go_roundw
     case rel=>exact ⟨1,_,_,_,by omega,by go_num,rfl,by omega,fun _=>HN3.out.trans (Nat.zero_add _),by omega,HO3,HB3⟩
     case measure=>simp [RowKit.intOf]
    ·obtain rfl:=hm1 rfl
     go_wp2_with (at_builtin;refine wpList_app _ (.tmp 31) (.tmp 32) 151 rfl rfl w.heap.size 284 i0 _ 3 24 Tryz.underlying151 hi0 hz0 hz1 hz2 rfl ?q1 (.slice A' m c') m (insCells (catAt a b 1)) rfl HO.out w.heap.size A2 n2 c2 (insCells b) rfl ?q5 ?q6 ?q2 ?q3 ?q4 ?_;(case q1=>omega);(case q5=>exact H2.out.below HW.out);(case q6=>exact insCells_one b);(case q2=>(unfold maxLen;omega));(case q3=>omega);(case q4=>exact HW.out.size);intro A3 n3 c3 w8 hn3 ho3 hg3 hb3;have HN3:=hid hn3;have HO3:=hid ho3;have HB3:=hid (HW.out.trans hb3);clear hn3 ho3 hg3 hb3)
     have HO4:Hid (w8.ownsRow w.heap.size 284 3 (.slice A3 n3 c3) n3 (insCells (catAt a b 2))):=by have h:=HO3.out;rw [← insCells_app] at h;exact h
     go_roundw
     case rel=>exact ⟨2,_,_,_,by omega,by go_num,rfl,by omega,by omega,fun _=>HN3.out,HO4,HB3⟩
     case measure=>simp [RowKit.intOf]
    ·obtain rfl:=hm2 rfl
     go_wp2
     go_ret
     exact ⟨_,_,_,rfl,rfl,HO.out,HW.out⟩
theorem then_any (A A2:Option Addr) (n c n2 c2:Nat) (a b:List Ins) (w:World) (h1:Reads w w.heap.size 3 A n (insCells a)) (h2:Reads w w.heap.size 3 A2 n2 (insCells b)) (hn1:n≤400) (hn2:n2≤400) :
  Calls Tryz.prog 228 #[.slice A n c, .slice A2 n2 c2] w (RetInss w (n+n2) (a++b)):=by
 have HB0:Hid (Below w.heap.size w (w.alloc (.cells #[.slice A n c, .slice A2 n2 c2] 151))):=(Below.refl _ _).alloc (Nat.le_refl _) _
 have HC:=hid (concat2 A A2 n c n2 c2 a b w.heap.size (w.alloc (.cells #[.slice A n c, .slice A2 n2 c2] 151)) (Blk.new _ _ _) ((h1.below HB0.out).more (by simp)) ((h2.below HB0.out).more (by simp)) hn1 hn2)
 clear h1 h2
 go_enter Tryz.func228,Tryz.ntmps228
 go_wp2_with (go_at_call 311;refine HC.out.mono ?_;rintro e w1 ⟨A1,n1,c1,rfl,hn1,ho1,hb1⟩;have HO1:=hid ho1;have HB1:=hid hb1;have HN1:=hid hn1;clear ho1 hb1 hn1)
 go_ret
 exact ⟨_,_,_,rfl,HN1.out,own_le HO1.out (by simp),HB0.out.trans (HB1.out.mono (by simp))⟩
end
section
open Go.RowKit
theorem runP_sts:∀ (ws:List (Nat × Nat)) (cur:Nat→Nat),runP cur (ws.map stI)=wrS cur ws
 | [],_=>rfl
 | e :: ws,cur=>by
  have:=runP_sts ws (upd cur (e.1 / 8) e.2)
  simpa [runP,wrS,stI,runI] using this
theorem runP_fls:∀ (fs:List Nat) (cur:Nat→Nat),runP cur (fs.map Ins.fl)=cur
 | [],_=>rfl
 | f :: fs,cur=>by
  have:=runP_fls fs cur
  simpa [runP,runI] using this
theorem goodP_sts {L:Nat}:∀ (ws:List (Nat × Nat)) (q:List Ins),(∀ e∈ws,e.1 % 8=0∧e.1 < 64 * L∧e.2 < 18446744073709551616)→goodQ L false q→goodQ L false (ws.map stI++q)
 | [],_,_,h=>h
 | e :: ws,q,hw,h=>⟨⟨rfl,hw e (by simp)⟩,goodP_sts ws q (fun e he=>hw e (by simp [he])) h⟩
theorem goodP_fls {L:Nat}:∀ (fs:List Nat) (b:Bool),(∀ o∈fs,o < 64 * L)→goodQ L b (fs.map Ins.fl++[Ins.fe])
 | [],_,_=>⟨trivial,rfl⟩
 | f :: fs,_,h=>⟨h f (by simp),goodP_fls fs true (fun o ho=>h o (by simp [ho]))⟩
theorem dirP_sts:∀ (ws:List (Nat × Nat)) (D N:Nat→Prop),(∀ k,(dirP (D,N) (ws.map stI)).1 k→D k∨∃ e∈ws,k=e.1 / 8)
 | [],_,_,_,h => .inl h
 | e :: ws,D,N,k,h=>by
  rcases dirP_sts ws (fun k=>D k∨k=e.1 / 8) (fun _=>False) k h with (h | h) | ⟨e',he',h⟩
  ·exact .inl h
  ·exact .inr ⟨e,by simp,h⟩
  ·exact .inr ⟨e',by simp [he'],h⟩
theorem dirP_keep:∀ (fs:List Nat) (D N:Nat→Prop) (i:Nat),N i→(dirP (D,N) (fs.map Ins.fl)).2 i
 | [],_,_,_,h=>h
 | f :: fs,D,N,i,h=>dirP_keep fs D (fun i=>N i∨i=f / 64) i (.inl h)
theorem dirP_fls:∀ (fs:List Nat) (D N:Nat→Prop),(∀ k,(dirP (D,N) (fs.map Ins.fl)).1 k→D k)∧∀ f∈fs,(dirP (D,N) (fs.map Ins.fl)).2 (f / 64)
 | [],_,_=>⟨fun _ h=>h,fun _ h=>by cases h⟩
 | f :: fs,D,N=>by
  have ih:=dirP_fls fs D (fun i=>N i∨i=f / 64)
  refine ⟨fun k h=>ih.1 k h,fun g hg=>?_⟩
  rcases List.mem_cons.1 hg with rfl | hg
  ·exact dirP_keep fs D _ _ (.inr rfl)
  ·exact ih.2 g hg
theorem sts_clean {ws:List (Nat × Nat)} {fs:List Nat} (h:∀ e∈ws,lineOf e.1∈fs):Clean (ws.map stI++fs.map Ins.fl++[Ins.fe]):=fun D k hk=>by
 rw [dirP_app,dirP_app] at hk
 have hk2:(dirP (dirP (D,fun _=>False) (ws.map stI)) (fs.map Ins.fl)).1 k∧¬ (dirP (dirP (D,fun _=>False) (ws.map stI)) (fs.map Ins.fl)).2 (k / 8):=hk
 rcases dirP_sts ws D _ k ((dirP_fls fs _ _).1 k hk2.1) with h1 | ⟨e,he,h1⟩
 ·exact h1
 ·refine absurd ?_ hk2.2
  have h2:=(dirP_fls fs (dirP (D,fun _=>False) (ws.map stI)).1 (dirP (D,fun _=>False) (ws.map stI)).2).2 _ (h e he)
  have h3:lineOf e.1 / 64=k / 8:=by unfold lineOf;omega
  rw [h3] at h2
  exact h2
theorem isStores_good {L:Nat} {ws:List (Nat × Nat)} {p:List Ins} (h:IsStores ws p) (hw:∀ e∈ws,e.1 % 8=0∧e.1 < 64 * L∧e.2 < 18446744073709551616) (cur:Nat→Nat) :
  goodP L false p∧runP cur p=wrS cur ws∧p.length≤2 * ws.length+1:=by
 obtain ⟨fs,rfl,hl,hq,hal⟩:=h
 refine ⟨⟨?_,sts_clean hal⟩,?_,by simp;omega⟩
 ·rw [List.append_assoc]
  refine goodP_sts ws _ hw (goodP_fls fs false fun o ho=>?_)
  obtain ⟨e,he,rfl⟩:=hq o ho
  have:=(hw e he).2.1
  unfold lineOf
  omega
 ·rw [runP_app,runP_app,runP_sts,runP_fls]
  rfl
end
section
open Go.RowKit
theorem cloneU_any (ad:Addr) (n c:Nat) (l:List Nat) (w:World) (h:Reads w w.heap.size 1 (some ad) n (uCells l)) (hn:n≤100000) :
  Calls Tryz.prog 190 #[.slice (some ad) n c] w (fun e w'=>∃ A' m' c',e = .returned (.slice A' m' c')∧m'=n∧w'.ownsRow w.heap.size 32 1 (.slice A' m' c') m' (uCells l)∧Below w.heap.size w w'):=by
 have H:=hid h
 clear h
 have hnil:∀ W,(binOp .eql 99 (.slice (some ad) n c) (.slice none 0 0)).run Tryz.prog W = .ok (.bool false) W:=fun W=>Lib.run_eql_slice_some_nil W _ _ _ Tryz.underlying99
 obtain ⟨i0,hi0,hz0,hz1,hz2⟩:=info_parts infoU64
 have HO:Hid ((w.alloc (.cells #[] 32)).ownsRow w.heap.size 32 1 (.slice (some ⟨w.heap.size,0,none⟩) 0 0) 0 []):=World.ownsRow_made w #[] 0 (Nat.le_refl _) (by unfold maxLen;omega) (by simp)
 go_enter Tryz.func190,Tryz.ntmps190
 go_wp2_with (at_builtin;refine wpList_app _ (.tmp 5) (.tmp 6) 99 rfl rfl w.heap.size 32 i0 _ 1 8 Tryz.underlying99 hi0 hz0 hz1 hz2 rfl ?q1 (.slice (some ⟨w.heap.size,0,none⟩) 0 0) 0 [] rfl HO.out w.heap.size (some ad) n c (uCells l) rfl ?q5 ?q6 ?q2 ?q3 ?q4 ?_;(case q1=>omega);(case q5=>exact H.out.alloc (Nat.le_refl _) _);(case q6=>exact uCells_one l);(case q2=>(unfold maxLen;omega));(case q3=>omega);(case q4=>(simp));intro A3 n3 c3 w8 hn3 ho3 hg3 hb3;have HN3:=hid hn3;have HO3:=hid ho3;have HB3:=hid (((Below.refl _ w).alloc (Nat.le_refl _) _).trans hb3);clear hn3 ho3 hg3 hb3)
 go_ret
 refine ⟨_,_,_,rfl,HN3.out.trans (Nat.zero_add _),?_,HB3.out⟩
 have:=HO3.out
 rw [List.nil_append] at this
 exact this
end
section
open Go.RowKit Go.Maps
theorem u_facts {w:World} {B n:Nat} {A:Option Addr} {l:List Nat} (h:Reads w B 1 A n (uCells l)) {k:Nat} (hk:k < n) :
  ∃ (hl:k < l.length) (b off:Nat),A=some ⟨b,off,none⟩∧b < B∧w.cell? ⟨b,off+k,none⟩=some (.int .u64 ((l[k]):Int)):=by
 have hl:k < l.length:=by have:=h.1;simp [uCells] at this;omega
 obtain ⟨b,off,hA,hb,hc⟩:=h.plain (by omega) (by omega)
 exact ⟨hl,b,off,hA,hb,hc k _ (by simp [uCells,hl])⟩
def entW (z n:Nat):List (Nat × Nat)→List (Nat × Nat)
 | []=>[]
 | e :: l=>(z+64+16 * n,e.1) :: (z+64+16 * n+8,e.2) :: entW z (n+1) l
theorem entW_snoc (z:Nat):∀ (l:List (Nat × Nat)) (n:Nat) (e:Nat × Nat),entW z n (l++[e])=entW z n l++[(z+64+16 * (n+l.length),e.1),(z+64+16 * (n+l.length)+8,e.2)]
 | [],n,e=>by simp [entW]
 | x :: l,n,e=>by
  have:=entW_snoc z l (n+1) e
  simp only [List.cons_append,entW,this,List.length_cons]
  rw [show n+1+l.length=n+(l.length+1) by omega]
theorem entW_len (z:Nat):∀ (l:List (Nat × Nat)) (n:Nat),(entW z n l).length=2 * l.length
 | [],n=>rfl
 | x :: l,n=>by have:=entW_len z l (n+1);simp only [entW,List.length_cons,this];omega
theorem entW_mem (z:Nat):∀ (l:List (Nat × Nat)) (n:Nat) (e:Nat × Nat),e∈entW z n l→∃ j,j < l.length∧(e.1=z+64+16 * (n+j)∨e.1=z+64+16 * (n+j)+8)∧∃ x∈l,e.2=x.1∨e.2=x.2
 | [],n,e,h=>by simp [entW] at h
 | x :: l,n,e,h=>by
  simp only [entW,List.mem_cons] at h
  rcases h with rfl | rfl | h
  ·exact ⟨0,by simp, .inl (by simp),x,by simp, .inl rfl⟩
  ·exact ⟨0,by simp, .inr (by simp),x,by simp, .inr rfl⟩
  ·obtain ⟨j,h1,h2,y,hy,h3⟩:=entW_mem z l (n+1) e h
   refine ⟨j+1,by simp;omega,?_,y,by simp [hy],h3⟩
   rcases h2 with h2 | h2
   ·exact .inl (by omega)
   ·exact .inr (by omega)
def RetPlan (w:World) (P:List Ins→Prop) (e:Ending) (w':World):Prop:=∃ A m c p,e = .returned (.tuple #[.slice A m c, .int .i64 0])∧P p∧w'.ownsRow w.heap.size 284 3 (.slice A m c) m (insCells p)∧Below w.heap.size w w'
theorem isStores_len {ws:List (Nat × Nat)} {p:List Ins} (h:IsStores ws p):p.length≤2 * ws.length+1:=by
 obtain ⟨fs,rfl,hf,_⟩:=h
 simp
 omega
end
section
open Go.RowKit
theorem RetProg.back {w w1 w':World} {P:List Ins→Prop} {e:Ending} (hb:Below w.heap.size w w1) (h:RetProg w1 P e w'):RetProg w P e w':=by
 obtain ⟨A,m,c,p,he,hp,ho,hb'⟩:=h
 exact ⟨A,m,c,p,he,hp,own_le ho hb.size,hb.trans (hb'.mono hb.size)⟩
theorem RetDev.back {a:DA} {L T:Nat} {w w1 w':World} {S:Fp} {cur:Nat→Nat} {F:Nat} {v:Value} {e:Ending} (hb:Below w.heap.size w w1) (h:RetDev a L T w1 S cur F v e w'):RetDev a L T w S cur F v e w':=by
 obtain ⟨he,S',hd,hc,hg⟩:=h
 exact ⟨he,S',hd,(Chg.of_below hb).trans hc (Grew.refl _ _),(Grew.refl S w).trans hg hb.size⟩
theorem RetDev.then_ {a:DA} {L T:Nat} {w w1 w':World} {S S1:Fp} {cur:Nat→Nat} {F:Nat} {v:Value} {e:Ending} (hc1:Chg S w w1) (hg1:Grew S S1 w) (h:RetDev a L T w1 S1 cur F v e w'):RetDev a L T w S cur F v e w':=by
 obtain ⟨he,S',hd,hc,hg⟩:=h
 exact ⟨he,S',hd,hc1.trans hc hg1,hg1.trans hg hc1.size⟩
theorem run_stores {a:DA} {L T:Nat} {w:World} {S:Fp} {cur:Nat→Nat} (h:Dev a L T w S cur 0) {A:Option Addr} {m c base:Nat} {p:List Ins} {ws:List (Nat × Nat)} (ho:w.ownsRow base 284 3 (.slice A m c) m (insCells p)) (hb:∀ k,S k→k < base) (hp:IsStores ws p)
  (hw:∀ e∈ws,e.1 % 8=0∧e.1 < 64 * L∧e.2 < 18446744073709551616) (hl:ws.length≤1000) (hT:T+(2 * ws.length+1)≤1000000000) :
  Calls Tryz.prog 78 #[.slice A m c,memV a] w (RetDev a L (T+(2 * ws.length+1)) w S (wrS cur ws) 0 (.int .i64 0)):=by
 obtain ⟨hg,hr,hlen⟩:=isStores_good hp hw cur
 have hm:p.length=m:=by have:=ho.1;rw [insCells_len] at this;omega
 refine (run_any h A m c p (Reads.of_own ho) ?_ hg (by omega) (by omega)).mono ?_
 ·intro ad had hs
  rcases ho.2 with ⟨hv,_⟩ | ⟨g,cap,cs,hv,hge,_⟩
  ·injection hv with h1;rw [h1] at had;cases had
  ·injection hv with h1
   rw [h1] at had
   injection had with h2
   subst h2
   have:=hb _ hs
   simp at this
   omega
 ·rintro e w' ⟨he,S',hd,hc,hgr⟩
  rw [hr] at hd
  exact ⟨he,S',hd.more (by omega) (by omega),hc,hgr⟩
theorem one_reads (w:World) (o v:Nat):Reads (w.alloc (.cells #[.int .u64 (o:Int), .int .u64 (v:Int)] 114)) (w.alloc (.cells #[.int .u64 (o:Int), .int .u64 (v:Int)] 114)).heap.size 2 (some ⟨w.heap.size,0,none⟩) 1 (wrCells [(o,v)]):=by
 rw [show (w.alloc (.cells #[.int .u64 (o:Int), .int .u64 (v:Int)] 114)).heap.size=w.heap.size+1 by simp]
 exact row_reads_at w _ rfl _ 1 2 114 _ rfl rfl
theorem mark_any (a:DA) (s n g v:Nat) (w:World) (hB:Blk w g 353 (logCells a s n)) (hs:64 * s < 18446744073709551616) :
  Calls Tryz.prog 170 #[.pointer (some ⟨g,0,none⟩), .int .u64 (v:Int)] w (RetProg w (IsStores [(64 * s,v)])):=by
 have f1:w.cell? ⟨g,1,none⟩=some (.int .u64 ((64 * s:Nat):Int)):=hB.cell 1
 have HS:=hid (stores_small _ 1 1 _ _ (one_reads w (64 * s) v) (by omega) (by omega) (fun e he=>by simp at he;subst he;exact hs))
 generalize 64 * s=o at *
 clear hB
 go_enter Tryz.func170,Tryz.ntmps170
 go_wp2_with (go_at_call 105;refine HS.out.mono ?_;intro e w1 h1;have h2:=RetProg.back ((Below.refl _ _).alloc (Nat.le_refl _) _) h1;obtain ⟨A1,m1,c1,p1,rfl,hp1,ho1,hb1⟩:=h2;have HP1:=hid hp1;have HO1:=hid ho1;have HB1:=hid hb1;clear h1 hp1 ho1 hb1)
 go_ret
 exact ⟨_,_,_,_,rfl,HP1.out,HO1.out,HB1.out⟩
theorem redoFormat_any {a:DA} {L T:Nat} {w:World} {S:Fp} {cur:Nat→Nat} (h:Dev a L T w S cur 0) (s n:Nat) (hn:26≤n) (hs:s+n≤L) (hT:T+3≤1000000000) :
  Calls Tryz.prog 74 #[memV a, .int .i64 (s:Int), .int .i64 (n:Int)] w (RetDev a L (T+3) w S (wrS cur [(64 * s,0)]) 0 (.int .i64 0)):=by
 have HD:=hid h
 have HH:=hid (handle_any h s n hn hs)
 have HB1:Hid (Below w.heap.size w (w.alloc (.cells (logCells a s n) 353))):=(Below.refl _ _).alloc (Nat.le_refl _) _
 obtain ⟨ls,exe,per,cs,lsC,hdc,hnt⟩:=HD.out.below HB1.out
 have hL:=hdc.hL
 obtain ⟨f0,_,_,_,g2⟩:=hdc.facts (j:=0) (by omega)
 have HM:=hid (mark_any a s n w.heap.size 0 (w.alloc (.cells (logCells a s n) 353)) (Blk.new _ _ _) (by omega))
 have HSL:=hid hdc.lt
 have HR:Hid (∀ (A:Option Addr) (m c:Nat) (p:List Ins) (w1:World),IsStores [(64 * s,0)] p→w1.ownsRow (w.alloc (.cells (logCells a s n) 353)).heap.size 284 3 (.slice A m c) m (insCells p)→Below (w.alloc (.cells (logCells a s n) 353)).heap.size (w.alloc (.cells (logCells a s n) 353)) w1 →
   Calls Tryz.prog 78 #[.slice A m c,memV a] w1 (RetDev a L (T+3) w S (wrS cur [(64 * s,0)]) 0 (.int .i64 0))):=fun A m c p w1 hp ho hb=>by
  refine (run_stores ((HD.out.below HB1.out).below hb) ho HSL.out hp (fun e he=>by simp at he;subst he;omega) (by simp) (by simpa using hT)).mono ?_
  intro e w2 h2
  exact RetDev.back (HB1.out.trans (hb.mono (by simp))) (by simpa using h2)
 have hmE:=methErr (some ⟨a.th 0,0,none⟩)
 clear hdc hnt h HB1 HD HSL
 unfold memV at *
 go_enter Tryz.func74,Tryz.ntmps74
 go_wp2_with (first
  | (go_at_call 169;refine HH.out.mono ?_;rintro e w1 ⟨rfl,rfl⟩)
  | (go_at_call 170;refine HM.out.mono ?_;rintro e w1 ⟨A1,m1,c1,p1,rfl,hp1,ho1,hb1⟩;have HRR:=hid (HR.out A1 m1 c1 p1 w1 hp1 ho1 hb1);clear hp1 ho1 hb1)
  | (go_at_call 78;refine HRR.out.mono ?_;rintro e w2 ⟨rfl,h2⟩;have HZ:=hid h2;clear h2)
  | go_in)
 go_ret
 exact ⟨rfl,HZ.out⟩
end
end Go.Proofs.YtfkjjoglnmeciaaGreatDoor
