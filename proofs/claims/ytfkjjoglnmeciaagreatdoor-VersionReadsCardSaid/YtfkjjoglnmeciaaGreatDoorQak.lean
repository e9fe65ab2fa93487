/- The walks and laws that the claim leans on, part 11. -/
import Derived.Test.YtfkjjoglnmeciaaGreatDoorQaj
set_option maxRecDepth 100000
set_option maxHeartbeats 16000000
namespace Go.Proofs.YtfkjjoglnmeciaaGreatDoor
open Go.Lib (hid)
section
open Go.RowKit Go.Maps
theorem wpList_app2 {P:Program} (w:World) {ops:Array Oper} {rest:List Oper} {o:Oper} {a:Act} {Q:Exit→Act→World→Prop} (s x:Operand) (t:TypeId)
  (hw:Region.wanted o (yielded ops a.tmps)=true)
  (ho:o.op = .call { callee := .builtin .append,args:=#[s,x],argTypes:=#[t,t] })
  (base:Nat) (e:TypeId) (i:TypeInfo) (z:Value) (size bytes:Nat) (ht:P.underlying t=some (.slice e)) (hi:P.info? e=some i) (hz:i.zero=some z)
  (hsize:i.size=size) (hby:i.bytes=bytes) (hzs:z.cells.size=size) (hsz:0 < size)
  (v:Value) (n:Nat) (xs:List Value) (hs:a.eval s=v) (hown:w.ownsRow base e size v n xs)
  (B:Nat) (A:Option Addr) (m c:Nat) (news:List Value) (hx:a.eval x = .slice A m c) (hr:Reads w B size A m news) (h1:∀ u∈news,u.oneCell'=true)
  (h63:n+m≤maxLen) (hbytes:(n+m) * bytes≤140737488355328) (hbase:base≤w.heap.size)
  (h:∀ A' n' c' w',n'=n+m→w'.ownsRow base e size (.slice A' n' c') n' (xs++news)→w.grownBy w' v.ownBlock→((Value.slice A' n' c').ownBlock=v.ownBlock∨(Value.slice A' n' c').ownBlock=some w.heap.size)→wpList P ops Q rest (a.put o.dst (.slice A' n' c')) w'):wpList P ops Q (o :: rest) a w:=by
 refine Go.BigFrame.wpList_want hw fun K hK=>?_
 refine wp_append_any w s x t ho base e i z size bytes ht hi hz hsize hby hzs hsz v n xs hs hown B A m c news hx hr h1 h63 hbytes hbase fun v' w' h2 h3 h4=>?_
 obtain ⟨A',c',rfl⟩:=own_slice h2;exact hK _ _ (h A' _ c' w' rfl h2 h3 h4)
structure Mk where
 id:Nat
 k:Nat
 x:Bool
 y:Bool
 D:DataW Unit
 n:Nat
section
variable {c:CX} {w w':World} {S:Fp} {t:TX} {l:List Mk}
end
end
section
open Go.RowKit
theorem infoInstr:(Tryz.prog.info? 284).map (fun i=>(i.zero,i.size,i.bytes))=some (some (.agg #[.int .u8 0, .int .u64 0, .int .u64 0]),3,24):=by kernel_rfl
theorem infoU64:(Tryz.prog.info? 32).map (fun i=>(i.zero,i.size,i.bytes))=some (some (.int .u64 0),1,8):=by kernel_rfl
theorem wr_facts {w:World} {B n:Nat} {A:Option Addr} {ws:List (Nat × Nat)} (h:Reads w B 2 A n (wrCells ws)) {k:Nat} (hk:k < n) :
  ∃ (hl:k < ws.length) (b off:Nat),A=some ⟨b,off,none⟩∧b < B∧w.cell? ⟨b,off+k * 2,none⟩=some (.int .u64 ((ws[k]).1:Int))∧w.cell? ⟨b,off+k * 2+1,none⟩=some (.int .u64 ((ws[k]).2:Int)):=by
 have hl:k < ws.length:=by have:=h.1;rw [wrCells_len] at this;omega
 obtain ⟨b,off,hA,hb,hc⟩:=h.plain oM oM;exact ⟨hl,b,off,hA,hb,hc (k * 2) _ (wrCells_at ws k hl).1,hc (k * 2+1) _ (wrCells_at ws k hl).2⟩
def uCells (xs:List Nat):List Value:=xs.map fun x:Nat=>Value.int .u64 (x:Int)
theorem uCells_one (xs:List Nat):∀ u∈uCells xs,u.oneCell'=true:=by
 intro u hu;simp only [uCells,List.mem_map] at hu;obtain ⟨x,_,rfl⟩:=hu;rfl
theorem own_own_ne {w:World} {b1 b2:Nat} {e1 e2:TypeId} {s1 s2:Nat} {v1 v2:Value} {n1 n2:Nat} {x1 x2:List Value} (h1:w.ownsRow b1 e1 s1 v1 n1 x1) (h2:w.ownsRow b2 e2 s2 v2 n2 x2) (hne:e1≠e2):v1.ownBlock=none∨v1.ownBlock≠v2.ownBlock:=by
 rcases h1.2 with ⟨rfl,_⟩ | ⟨g,cap,cur,rfl,_,hh,_⟩
 ·exact .inl rfl
 ·right
  have:=own_blk_ne h2 (show Blk w g e1 cur from hh) (Ne.symm hne);intro he;exact this (by rw [← he];rfl)
def lineOf (o:Nat):Nat:=o - o % 64
theorem line_reads (w:World) (o:Nat):Reads (w.alloc (.cells #[.int .u64 ((o:Int) - (o:Int) % 64)] 32)) (w.heap.size+1) 1 (some ⟨w.heap.size,0,none⟩) 1 (uCells [lineOf o]):=by
 refine row_reads_at w _ rfl _ 1 1 32 _ ?_ rfl;have e:((lineOf o:Nat):Int)=(o:Int) - (o:Int) % 64:=by unfold lineOf;omega
 simp only [uCells,List.map_cons,List.map_nil,e]
def stI (p:Nat × Nat):Ins := .st p.1 p.2
structure StorI (w wr:World) (ws:List (Nat × Nat)) (k:Nat) (A1:Option Addr) (m1 c1:Nat) (A2:Option Addr) (m2 c2:Nat):Prop where
 below:Below w.heap.size w wr
 prog:wr.ownsRow w.heap.size 284 3 (.slice A1 m1 c1) m1 (insCells ((ws.take k).map stI))
 lines:wr.ownsRow w.heap.size 32 1 (.slice A2 m2 c2) m2 (uCells ((ws.take k).map fun p=>lineOf p.1))
 h1:m1=k
 h2:m2=k
section
variable {w wr w8 w9:World} {ws:List (Nat × Nat)} {k:Nat} {A1:Option Addr} {m1 c1:Nat} {A2:Option Addr} {m2 c2:Nat} {e:Nat × Nat} {A3:Option Addr} {n3 c3:Nat} {A4:Option Addr} {n4 c4:Nat} {o:Obj}
theorem stor1 (H:StorI w wr ws k A1 m1 c1 A2 m2 c2) (hn3:n3=m1+1) (ho3:w8.ownsRow w.heap.size 284 3 (.slice A3 n3 c3) n3 (insCells ((ws.take k).map stI)++(stI e).cells))
  (hg3:((wr.alloc (.cells #[.int .u64 (e.1:Int), .int .u64 (e.2:Int)] 114)).alloc o).grownBy w8 (Value.slice A1 m1 c1).ownBlock) (hb3:Below w.heap.size ((wr.alloc (.cells #[.int .u64 (e.1:Int), .int .u64 (e.2:Int)] 114)).alloc o) w8) :
  Hid (w8.ownsRow w.heap.size 284 3 (.slice A3 n3 c3) n3 (insCells ((ws.take k).map stI)++(stI e).cells))∧Hid (n3=k+1)∧Hid (Below w.heap.size w w8)∧Hid (w8.ownsRow w.heap.size 32 1 (.slice A2 m2 c2) m2 (uCells ((ws.take k).map fun p=>lineOf p.1))) ∧
   w8.cell? ⟨wr.heap.size,0,none⟩=some (.int .u64 (e.1:Int))∧w.heap.size≤w8.heap.size:=by
 have hsz:=H.below.size;have h1:=H.h1;have hB:Below w.heap.size w w8:=((H.below.alloc hsz _).alloc (by simp;omega) _).trans hb3;have hblk:=((Blk.new wr 114 #[.int .u64 (e.1:Int), .int .u64 (e.2:Int)]).alloc o).grown hg3 (own_ne H.prog (g:=wr.heap.size) (.inr (nL _)));exact ⟨ho3,show n3=k+1 by omega,hB,((H.lines.alloc _).alloc _).kept hg3 (own_own_ne H.lines H.prog (by decide)),hblk.cell 0,hB.size⟩
theorem stor2 (h2:m2=k) (hTK:ws.take (k+1)=ws.take k++[e]) (ho3:w8.ownsRow w.heap.size 284 3 (.slice A3 n3 c3) n3 (insCells ((ws.take k).map stI)++(stI e).cells)) (hn3:n3=k+1) (hB:Below w.heap.size w w8) (hL:w8.ownsRow w.heap.size 32 1 (.slice A2 m2 c2) m2 (uCells ((ws.take k).map fun p=>lineOf p.1)))
  (hn4:n4=m2+1) (ho4:w9.ownsRow w.heap.size 32 1 (.slice A4 n4 c4) n4 (uCells ((ws.take k).map fun p=>lineOf p.1)++uCells [lineOf e.1])) (hg4:(w8.alloc o).grownBy w9 (Value.slice A2 m2 c2).ownBlock) (hb4:Below w.heap.size (w8.alloc o) w9):StorI w w9 ws (k+1) A3 n3 c3 A4 n4 c4:=by
 refine ⟨(hB.alloc hB.size _).trans hb4,?_,?_,hn3,oM⟩
 ·rw [hTK,List.map_append,insCells_app]
  have e1:insCells (List.map stI [e])=(stI e).cells:=by simp [insCells]
  rw [e1];exact (ho3.alloc _).kept hg4 (own_own_ne ho3 hL (by decide))
 ·rw [hTK,List.map_append]
  have e1:uCells (List.map (fun p:Nat × Nat=>lineOf p.1) (ws.take k)++List.map (fun p:Nat × Nat=>lineOf p.1) [e])=uCells ((ws.take k).map fun p=>lineOf p.1)++uCells [lineOf e.1]:=by simp [uCells]
  rw [e1];exact ho4
end
theorem own_row {w:World} {base g m c:Nat} {xs:List Nat} (h:w.ownsRow base 32 1 (.slice (some ⟨g,0,none⟩) m c) m (uCells xs)):∃ cur,Blk w g 32 cur∧cur.size=c∧RowU cur xs∧xs.length=m:=by
 have hl:xs.length=m:=by have:=h.1;simpa [uCells] using this
 rcases h.2 with ⟨hv,_⟩ | ⟨g',cap',cur,hv,hb,hh,h1,h2,h3,h4⟩
 ·cases hv
 ·simp only [Value.slice.injEq,Option.some.injEq,Addr.mk.injEq,and_true,true_and] at hv
  obtain ⟨rfl,rfl⟩:=hv;refine ⟨cur,hh,oM,⟨oM,fun i hi=>?_⟩,hl⟩;have h5:(cur.toList.take (m * 1))[i]?=(uCells xs)[i]?:=by rw [h4]
  rw [List.getElem?_take_of_lt oM] at h5;rw [← Array.getElem?_toList,h5];simp [uCells,hi]
def FlI (w wr:World) (ws:List (Nat × Nat)) (g m1 j:Nat) (cs:Array Value) (A1:Option Addr) (n1 c1:Nat):Prop :=
 ∃ fs:List Nat,Below w.heap.size w wr∧Blk wr g 32 cs∧wr.ownsRow w.heap.size 284 3 (.slice A1 n1 c1) n1 (insCells (ws.map stI++fs.map Ins.fl))∧fs.length=j∧n1=m1+j∧(∀ o∈fs,∃ e∈ws,o=lineOf e.1)∧∀ i,i < j→∀ x:Nat,cs[i]?=some (.int .u64 (x:Int))→x∈fs
theorem fl1 {w wr w8:World} {ws:List (Nat × Nat)} {g m1 j:Nat} {cs:Array Value} {A1:Option Addr} {n1 c1:Nat} {A3:Option Addr} {n3 c3 x:Nat} {o:Obj} {fs:List Nat} (hB:Below w.heap.size w wr) (hG:Blk wr g 32 cs) (hP:wr.ownsRow w.heap.size 284 3 (.slice A1 n1 c1) n1 (insCells (ws.map stI++fs.map Ins.fl))) (hf:fs.length=j) (hn1:n1=m1+j) (hq:∀ o∈fs,∃ e∈ws,o=lineOf e.1) (hal:∀ i,i < j→∀ x:Nat,cs[i]?=some (.int .u64 (x:Int))→x∈fs) (hxc:cs[j]?=some (.int .u64 (x:Int)))
  (hx:∃ e∈ws,x=lineOf e.1) (hn3:n3=n1+1) (ho3:w8.ownsRow w.heap.size 284 3 (.slice A3 n3 c3) n3 (insCells (ws.map stI++fs.map Ins.fl)++(Ins.fl x).cells)) (hg3:(wr.alloc o).grownBy w8 (Value.slice A1 n1 c1).ownBlock) (hb3:Below w.heap.size (wr.alloc o) w8):FlI w w8 ws g m1 (j+1) cs A3 n3 c3:=by
 refine ⟨fs++[x],(hB.alloc hB.size _).trans hb3,(hG.alloc o).grown hg3 (fun e=>own_blk_ne hP hG (by decide) e.symm),?_,by simp [hf],oM,fun y hy=>?_,fun i hi y hy=>?_⟩
 ·have e1:insCells (ws.map stI++(fs++[x]).map Ins.fl)=insCells (ws.map stI++fs.map Ins.fl)++(Ins.fl x).cells:=by simp [insCells]
  rw [e1];exact ho3
 ·rw [List.mem_append,List.mem_singleton] at hy
  rcases hy with hy | rfl
  ·exact hq y hy
  ·exact hx
 ·rw [List.mem_append,List.mem_singleton]
  by_cases hij:i=j
  ·right
   rw [hij,hxc] at hy;injection hy with hy
   injection hy with _ hy
   omega
  ·exact .inl (hal i oM y hy)
def IsStores (ws:List (Nat × Nat)) (p:List Ins):Prop:=∃ fs:List Nat,p=ws.map stI++fs.map Ins.fl++[Ins.fe]∧fs.length≤ws.length∧(∀ o∈fs,∃ e∈ws,o=lineOf e.1)∧∀ e∈ws,lineOf e.1∈fs
def RetProg (w:World) (P:List Ins→Prop) (e:Ending) (w':World):Prop:=∃ A m c p,e = .returned (.slice A m c)∧P p∧w'.ownsRow w.heap.size 284 3 (.slice A m c) m (insCells p)∧Below w.heap.size w w'
theorem stores_small (A:Option Addr) (n c:Nat) (ws:List (Nat × Nat)) (w:World) (h:Reads w w.heap.size 2 A n (wrCells ws)) (h0:0 < n) (hn:n≤1000) (hv:∀ e∈ws,e.1 < 18446744073709551616) :
  Calls Tryz.prog 105 #[.slice A n c] w (RetProg w (IsStores ws)):=by
 have HR:=hid h;have HLN:=hid (show ws.length=n by have:=h.1;rw [wrCells_len] at this;omega);have HV:=hid hv;obtain ⟨j0,hj0,hk0,hk1,hk2⟩:=info_parts infoU64;have hmk:∀ W:World,(Instr.makeSlice 99 (.int .i64 0) (.int .i64 (n:Int))).run Tryz.prog W = .ok (.slice (some ⟨W.heap.size,0,none⟩) 0 n) (W.alloc (.cells (madeCells (Value.int .u64 0).cells n) 32)):=fun W=>by
  have h:=run_makeSlice (P:=Tryz.prog) W 99 32 j0 (.int .u64 0) Tryz.underlying99 hj0 hk0 .i64 .i64 0 (n:Int) oM oM (by rw [hk1];omega) (by rw [hk2];omega) oM;rw [hk1] at h;simpa using h
 have hM:(madeCells (Value.int .u64 0).cells n).size=n * 1:=by rw [size_madeCells];simp
 generalize madeCells (Value.int .u64 0).cells n=M at *;have HI0:Hid (∀ C:Nat,StorI w (w.alloc (.cells M 32)) ws 0 none 0 0 (some ⟨w.heap.size,0,none⟩) 0 n):=fun _ =>
  ⟨(Below.refl _ _).alloc (nL _) _,World.ownsRow_nil _ _ _ _,World.ownsRow_made w M n (nL _) (by unfold maxLen;omega) hM,rfl,rfl⟩
 have e0:((n:Int) == 0)=false:=by rw [beq_eq_false_iff_ne];omega
 obtain ⟨i0,hi0,hz0,hz1,hz2⟩:=info_parts infoInstr;clear h hv hM;go_enter Tryz.func105,Tryz.ntmps105
 go_wp2;clear hmk;go_loopw [3,4,17] (fun p l i wr=>∃ (k:Nat) (A1:Option Addr) (m1 c1:Nat) (A2:Option Addr) (m2 c2:Nat),k≤n∧i = .int .i64 k∧p = .slice A1 m1 c1∧l = .slice A2 m2 c2∧Hid (StorI w wr ws k A1 m1 c1 A2 m2 c2)) (fun _ _ i _=>n - (RowKit.intOf i).toNat)
 case atStart=>exact ⟨0,_,_,_,_,_,_,Nat.zero_le _,rfl,rfl,rfl,HI0.out 0⟩
 case round =>
  clear HI0;obtain ⟨k,A1,m1,c1,A2,m2,c2,hk,rfl,rfl,rfl,H⟩:=hrel;by_cases hlt:k < n
  ·obtain ⟨hl,b,off,hA,hbB,f0,f1⟩:=wr_facts (HR.out.below H.out.below) hlt
   subst hA;have HTK:Hid ((ws.take (k+1))=ws.take k++[ws[k]]):=List.take_succ_eq_append_getElem hl;have hvk:=HV.out ws[k] (List.getElem_mem hl);generalize ws[k]=e at *;have q1:m1≤k:=by have:=H.out.h1;omega
   have q2:m2≤k:=by have:=H.out.h2;omega
   have hz0':(0:Int)≤(k:Int):=oM;have hz1':(k:Int) < (n:Int):=oM;have u1:IntKind.u64.wrap ((e.1:Int) - (e.1:Int) % 64)=(e.1:Int) - (e.1:Int) % 64:=by rw [IntKind.wrap_u64];omega
   have hsz:w.heap.size≤wr.heap.size:=H.out.below.size;go_wp2_with (first
    | (at_builtin;refine wpList_app _ (.tmp 21) (.tmp 27) 151 rfl rfl w.heap.size 284 i0 _ 3 24 Tryz.underlying151 hi0 hz0 hz1 hz2 rfl ?q1 (.slice A1 m1 c1) m1 (insCells ((ws.take k).map stI)) rfl ?q0 (wr.heap.size+1+1) (some ⟨wr.heap.size+1,0,none⟩) 1 1 (stI e).cells rfl ?q5 (Ins.cells_one (stI e)) ?q2 ?q3 ?q4 ?_;(case q1=>omega);(case q0=>exact (H.out.prog.alloc _).alloc _);(case q5=>exact row_reads_at _ _ (by simp) _ 1 3 284 _ rfl rfl);(case q2=>(unfold maxLen;omega));(case q3=>omega);(case q4=>(simp;omega));intro A3 n3 c3 w8 hn3 ho3 hg3 hb3;obtain ⟨HO3,HN3,HB8,HL8,g0,hs8⟩:=stor1 H.out hn3 ho3 hg3 hb3;clear hn3 ho3 hg3 hb3)
    | (at_builtin;refine wpList_app _ (.tmp 29) (.tmp 33) 99 rfl rfl w.heap.size 32 j0 _ 1 8 Tryz.underlying99 hj0 hk0 hk1 hk2 rfl ?r1 (.slice A2 m2 c2) m2 (uCells ((ws.take k).map fun p=>lineOf p.1)) rfl ?r0 (w8.heap.size+1) (some ⟨w8.heap.size,0,none⟩) 1 1 (uCells [lineOf e.1]) rfl ?r5 (uCells_one [lineOf e.1]) ?r2 ?r3 ?r4 ?_;(case r1=>omega);(case r0=>exact HL8.out.alloc _);(case r5=>exact line_reads w8 e.1);(case r2=>(unfold maxLen;omega));(case r3=>omega);(case r4=>(simp;omega));intro A4 n4 c4 w9 hn4 ho4 hg4 hb4;have HI:=hid (stor2 H.out.h2 HTK.out HO3.out HN3.out HB8.out HL8.out hn4 ho4 hg4 hb4);clear hn4 ho4 hg4 hb4)
    | go_in)
   exact ⟨⟨k+1,_,_,_,_,_,_,oM,by go_num,rfl,rfl,HI⟩,by simp [RowKit.intOf];omega⟩
  ·obtain rfl:n=k:=oM
   obtain ⟨hB,hP,hL,h1,h2⟩:=H.out;rw [List.take_of_length_le (by rw [HLN.out];exact nL _)] at hP hL;have b1:m1≤n:=oM;have b2:m2≤n:=oM;have b3:n≤m2:=oM;obtain ⟨g,cap,hve,hgb,hglt⟩:=hL.form oM;have hA2:A2=some ⟨g,0,none⟩:=by injection hve
   subst hA2;obtain ⟨cur,hcb,hcs,hru,hxl⟩:=own_row hL;have hcap:=own_cap hL;have HS:=hid (sort_small g m2 c2 c2 (ws.map fun p=>lineOf p.1) wr ⟨cur,_,hcb,hcs,hru,List.Perm.refl _,Chg.refl _ _⟩ hxl oM hcap.1 hcap.2);have HP:=hid hP;have HBl:=hid hB;have HCB:=hid hcb;clear hve hL hP hB hcb hcs hru H h1 h2 hglt;go_wp2_with fail
   refine HS.out.mono ?_;rintro e w5 ⟨rfl,cs5,ys,hb5,hsz5,hru5,hpm5,hch5⟩;have HP5:=hid (hch5.own HP.out (fun g' hg' e=>own_blk_ne HP.out HCB.out (by decide) (by rw [hg',e])));have HB5:Hid (Below w.heap.size w w5):=HBl.out.trans (hch5.toBelow HBl.out.size (fun k hk=>by subst hk;exact hgb));have HQ:=hid (compact_any (fun x=>∃ e∈ws,x=lineOf e.1) (fun x=>∃ e∈ws,x=lineOf e.1) g m2 c2 c2 w5 ⟨cs5,hb5,hsz5,⟨oM,fun i hi=>by
    have hil:i < ys.length:=by rw [hpm5.length_eq,hxl];exact hi
    refine ⟨ys[i],?_,hru5.2 i hil⟩;have:=(hpm5.mem_iff).1 (List.getElem_mem hil);rw [List.mem_map] at this;obtain ⟨e,he,hee⟩:=this;exact ⟨e,he,hee.symm⟩⟩,Chg.refl _ _,fun x hx=>by
    obtain ⟨e,he,rfl⟩:=hx;have hm:lineOf e.1∈ys:=(hpm5.mem_iff).2 (List.mem_map.2 ⟨e,he,rfl⟩);obtain ⟨i,hi,hie⟩:=List.getElem_of_mem hm;have hl:=hpm5.length_eq;exact ⟨i,oM,by rw [← hie];exact hru5.2 i hi⟩⟩ oM hcap.1 hcap.2)
   have HCB5:=hid hb5;clear hb5 hsz5 hru5 hpm5 hch5 HS HP HBl HCB;go_wp2_with fail
   refine HQ.out.mono ?_;rintro e w6 ⟨m3,rfl,hm3,cs6,hb6,hsz6,hq6,hch6,hr6⟩;have HR6:=hid hr6;have HP6:=hid (hch6.own HP5.out (fun g' hg' e=>own_blk_ne HP5.out HCB5.out (by decide) (by rw [hg',e])));have HI0:Hid (FlI w w6 ws g m1 0 cs6 A1 m1 c1):=⟨[],HB5.out.trans (hch6.toBelow HB5.out.size (fun k hk=>by subst hk;exact hgb)),hb6,by simpa using HP6.out,rfl,rfl,fun _ h=>(by cases h),fun i hi=>absurd hi (Nat.not_lt_zero i)⟩
   have HQ6:=hid hq6;clear hb6 hsz6 hq6 hch6 hr6 HP5 HB5 HCB5 HQ HP6;go_wp2;go_loopw [3,41] (fun p i wr=>∃ (j:Nat) (A1:Option Addr) (n1 c1:Nat),j≤m3∧i = .int .i64 j∧p = .slice A1 n1 c1∧Hid (FlI w wr ws g m1 j cs6 A1 n1 c1)) (fun _ i _=>m3 - (RowKit.intOf i).toNat)
   case atStart=>exact ⟨0,_,_,_,Nat.zero_le _,rfl,rfl,HI0⟩
   case round =>
    clear HI0;obtain ⟨j,B1,n1,d1,hj,rfl,rfl,H⟩:=hrel;obtain ⟨fs,hB,hG,hP,hf,hn1,hq,hal⟩:=H.out;have b4:n1≤m1+j:=oM;have hsz:=hB.size;by_cases hlt:j < m3
    ·obtain ⟨x,hx,hxc⟩:=HQ6.out.2 j hlt
     have c0:wr.cell? ⟨g,j,none⟩=some (.int .u64 (x:Int)):=by rw [hG.cell];exact hxc
     have HF:=hid (fun (A3:Option Addr) (n3 c3:Nat) (w8:World) (o:Obj) h1 h2 h3 h4=>fl1 (A3:=A3) (n3:=n3) (c3:=c3) (w8:=w8) (o:=o) hB hG hP hf hn1 hq hal hxc hx h1 h2 h3 h4);have HP:=hid hP;have hz0':(0:Int)≤(j:Int):=oM;have hz1':(j:Int) < (m3:Int):=oM;clear hB hG hP hf hn1 hq hx hxc hal H;go_wp2_with (first
      | (at_builtin;refine wpList_app _ (.tmp 45) (.tmp 48) 151 rfl rfl w.heap.size 284 i0 _ 3 24 Tryz.underlying151 hi0 hz0 hz1 hz2 rfl ?q1 (.slice B1 n1 d1) n1 (insCells (ws.map stI++fs.map Ins.fl)) rfl ?q0 (wr.heap.size+1) (some ⟨wr.heap.size,0,none⟩) 1 1 (Ins.fl x).cells rfl ?q5 (Ins.cells_one (Ins.fl x)) ?q2 ?q3 ?q4 ?_;(case q1=>omega);(case q0=>exact HP.out.alloc _);(case q5=>exact row_reads_at _ _ rfl _ 1 3 284 _ rfl rfl);(case q2=>(unfold maxLen;omega));(case q3=>omega);(case q4=>(simp;omega));intro A3 n3 c3 w8 hn3 ho3 hg3 hb3;have HN:=hid (HF.out A3 n3 c3 w8 _ hn3 ho3 hg3 hb3);clear hn3 ho3 hg3 hb3)
      | go_in)
     exact ⟨⟨j+1,_,_,_,oM,by go_num,rfl,HN⟩,by simp [RowKit.intOf];omega⟩
    ·obtain rfl:m3=j:=oM
     have HP:=hid hP;have HBl:=hid hB;have HFQ:=hid (show (∀ o∈fs,∃ e∈ws,o=lineOf e.1)∧∀ e∈ws,lineOf e.1∈fs from ⟨hq,fun e he=>by
      obtain ⟨i,hi,hv⟩:=HR6.out (lineOf e.1) ⟨e,he,rfl⟩;exact hal i hi _ hv⟩)
     have HFL:Hid (fs.length≤ws.length):=show _≤_ by rw [HLN.out,hf];omega
     clear hB hG hP hf hn1 hq hal H;go_wp2_with (first
      | (at_builtin;refine wpList_app _ (.tmp 51) (.tmp 53) 151 rfl rfl w.heap.size 284 i0 _ 3 24 Tryz.underlying151 hi0 hz0 hz1 hz2 rfl ?q1 (.slice B1 n1 d1) n1 (insCells (ws.map stI++fs.map Ins.fl)) rfl ?q0 (wr.heap.size+1) (some ⟨wr.heap.size,0,none⟩) 1 1 Ins.fe.cells rfl ?q5 (Ins.cells_one Ins.fe) ?q2 ?q3 ?q4 ?_;(case q1=>omega);(case q0=>exact HP.out.alloc _);(case q5=>exact row_reads_at _ _ rfl _ 1 3 284 _ rfl rfl);(case q2=>(unfold maxLen;omega));(case q3=>omega);(case q4=>(simp;omega));intro A3 n3 c3 w8 hn3 ho3 hg3 hb3;have HO:=hid ho3;have HBB:=hid hb3;clear hn3 ho3 hg3 hb3)
      | go_in)
     go_ret;refine ⟨A3,n3,c3,ws.map stI++fs.map Ins.fl++[Ins.fe],rfl,⟨fs,rfl,HFL.out,HFQ.out⟩,?_,(HBl.out.alloc hsz _).trans HBB.out⟩;have:=HO.out;rw [insCells_app];simpa [insCells] using this
end
end Go.Proofs.YtfkjjoglnmeciaaGreatDoor
