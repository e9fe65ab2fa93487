/- The walks and laws that the claim leans on, part 21. -/
import Derived.Test.YtfkjjoglnmeciaaGreatDoorQap
import Derived.Test.YtfkjjoglnmeciaaGreatDoorQat
set_option maxRecDepth 100000
set_option maxHeartbeats 16000000
namespace Go.Proofs.YtfkjjoglnmeciaaGreatDoor
open Go.Lib (hid)
section
open Go.RowKit Go.Maps
def OIdx (w:World) (b n:Nat) (ws:List (Nat × Nat)) (k:Nat):Prop:=∃ D:DataW Unit,w.ownsMap Tryz.prog 32 (plainElem Tryz.prog 3) b n D∧∀ i (h:i < ws.length),i < k→D.atKey (kU (ws[i]).1) (.lit (.int .i64 0)) = .lit (.int .i64 (i:Int))
def Diff (ws:List (Nat × Nat)):Prop:=∀ i j (hi:i < ws.length) (hj:j < ws.length),i≠j→(ws[i]).1≠(ws[j]).1
theorem OIdx.new (w:World) (ws:List (Nat × Nat)):OIdx (w.alloc (.map #[] 0)) w.heap.size 0 ws 0:=⟨_,World.ownsMap_made w _ _ _,fun i _ h=>absurd h oM⟩
theorem OIdx.look {w:World} {b n k:Nat} {ws:List (Nat × Nat)} (h:OIdx w b n ws k) {i:Nat} (hl:i < ws.length) (hk:i < k) (hx:(ws[i]).1 < 18446744073709551616) :
  (Instr.lookup 427 (.map (some b)) (.int .u64 ((ws[i]).1:Int)) false).run Tryz.prog w = .ok (.int .i64 (i:Int)) w:=by
 obtain ⟨D,ho,hd⟩:=h;obtain ⟨c,hrun,hc,_⟩:=ho.lookup_int keyedU Tryz.underlying427 Tryz.underlying3 (by kernel_rfl) (keyU hx);rw [hd i hl hk] at hc;injection hc with hc
 injection hc with _ hc
 rw [hrun,← hc]
theorem OIdx.add {w:World} {b n k:Nat} {ws:List (Nat × Nat)} (h:OIdx w b n ws k) (hn:n < maxLen) (hd':Diff ws) (hl:k < ws.length) (hx:(ws[k]).1 < 18446744073709551616) (hk:k≤1000000) :
  ∃ w',(Instr.mapUpdate 427 (.map (some b)) (.int .u64 ((ws[k]).1:Int)) (.int .i64 (k:Int))).run Tryz.prog w = .ok () w'∧OIdx w' b (n+1) ws (k+1)∧w.grownBy w' (some b):=by
 obtain ⟨D,ho,hd⟩:=h;obtain ⟨w',hrun,ho',hg⟩:=ho.update keyedU Tryz.underlying427 hn (keyU hx) (plainElem_int Tryz.underlying3 (a:=(k:Int)) (by
  have hm:IntKind.i64.min = -9223372036854775808:=by decide
  have hx:IntKind.i64.max=9223372036854775807:=by decide
  simp only [Lit.wf,hm,hx,Bool.and_eq_true,decide_eq_true_eq];omega))
 refine ⟨w',hrun,⟨_,ho',fun i hi hik=>?_⟩,hg⟩;by_cases e:i=k
 ·subst e
  rw [atKey_put_same ho.isMap (kU_key _)]
 ·rw [atKey_put_other (kU_ne (hd' i k hi hl e)),hd i hi oM]
theorem OIdx.alloc {w:World} {b n k:Nat} {ws:List (Nat × Nat)} (h:OIdx w b n ws k) (o:Obj):OIdx (w.alloc o) b n ws k:=by
 obtain ⟨D,ho,hd⟩:=h;exact ⟨D,ho.alloc o,hd⟩
theorem OIdx.kept {w w':World} {b n k:Nat} {ws:List (Nat × Nat)} {row:Option Nat} (h:OIdx w b n ws k) (hg:w.grownBy w' row) (hne:some b≠row):OIdx w' b n ws k:=by
 obtain ⟨D,ho,hd⟩:=h;exact ⟨D,ho.kept hg hne,hd⟩
theorem OIdx.ne_own {w:World} {b n k:Nat} {ws:List (Nat × Nat)} (h:OIdx w b n ws k) {base:Nat} {e:TypeId} {size m:Nat} {v:Value} {xs:List Value} (ho:w.ownsRow base e size v m xs):some b≠v.ownBlock:=by
 obtain ⟨D,hm,_⟩:=h;exact map_ne_own hm ho
theorem last_any (A:Option Addr) (n c:Nat) (ws:List (Nat × Nat)) (w:World) (h:Reads w w.heap.size 2 A n (wrCells ws)) (hd:Diff ws) (hv:∀ i (h:i < ws.length),(ws[i]).1 < 18446744073709551616) (hn:n≤1000) :
  Calls Tryz.prog 248 #[.slice A n c] w (RetWr w ws):=by
 obtain ⟨i0,hi0,hz0,hz1,hz2⟩:=info_parts infoWrite;have HR:=hid h;have HD:=hid hd;have HV:=hid hv;have HLN:=hid (show ws.length=n by have:=h.1;rw [wrCells_len] at this;omega);have hmm:∀ W,(Instr.makeMap 427 none).run Tryz.prog W = .ok (.map (some W.heap.size)) (W.alloc (.map #[] 0)):=fun _=>rfl
 have HI0:Hid (OIdx (w.alloc (.map #[] 0)) w.heap.size 0 ws 0):=hid (OIdx.new w ws);have HB0:Hid (Below w.heap.size w (w.alloc (.map #[] 0))):=hid ((Below.refl _ w).alloc (nL _) _);clear h hd hv;go_enter Tryz.func248,Tryz.ntmps248
 go_wp2;clear hmm;go_loopw [12] (fun i wr=>∃ k:Nat,k≤n∧i = .int .i64 (k:Int)∧Hid (OIdx wr w.heap.size k ws k)∧Hid (Below w.heap.size w wr)) (fun i _=>n - (Go.RowKit.intOf i).toNat)
 case atStart=>exact ⟨0,Nat.zero_le _,rfl,HI0,HB0⟩
 case round =>
  clear HI0 HB0;obtain ⟨k,hk,rfl,HI,HB⟩:=hrel;by_cases hlt:k < n
  ·obtain ⟨hl,b,off,hA,hbB,f0,f1⟩:=wr_facts (HR.out.below HB.out) hlt
   subst hA;have hz5:(0:Int)≤(k:Int):=oM;have hz6:(k:Int) < (n:Int):=oM;obtain ⟨w3,hrun,hos,hgr⟩:=(HI.out.alloc (.cells #[.int .u64 ((ws[k]).1:Int), .int .u64 ((ws[k]).2:Int)] 114)).add (by unfold maxLen;omega) HD.out hl (HV.out k hl) oM;have HI3:=hid hos;have HB3:=hid ((HB.out.alloc HB.out.size (.cells #[.int .u64 ((ws[k]).1:Int), .int .u64 ((ws[k]).2:Int)] 114)).grown hgr (Nat.le_trans HB.out.size (by simp)) (fun g hg=>by cases hg;exact nL _));generalize ws[k]=e at *;clear hos hgr HI HB;go_wp2;go_roundw
   case rel=>exact ⟨k+1,oM,by go_num,HI3,HB3⟩
   case measure=>simp [Go.RowKit.intOf];omega
  ·have hkn:k=n:=oM
   subst hkn;have HO0:Hid (wr.ownsRow w.heap.size 114 2 (.slice none 0 0) 0 (wrCells (ws.take 0))):=hid (World.ownsRow_nil _ _ _ _);go_wp2;go_loopw [6,24] (fun l i wr=>∃ (q:Nat) (A1:Option Addr) (c1:Nat),q≤k∧i = .int .i64 (q:Int)∧l = .slice A1 q c1∧Hid (wr.ownsRow w.heap.size 114 2 (.slice A1 q c1) q (wrCells (ws.take q)))∧Hid (OIdx wr w.heap.size k ws k)∧Hid (Below w.heap.size w wr)) (fun _ i _=>k - (Go.RowKit.intOf i).toNat)
   case atStart=>exact ⟨0,_,_,Nat.zero_le _,rfl,rfl,HO0,HI,HB⟩
   case round =>
    clear HI HB HO0;obtain ⟨q,A1,c1,hq,rfl,rfl,HO,HI,HB⟩:=hrel;by_cases hlt2:q < k
    ·obtain ⟨hl,b,off,hA,hbB,f0,f1⟩:=wr_facts (HR.out.below HB.out) hlt2
     subst hA;have hz5:(0:Int)≤(q:Int):=oM;have hz6:(q:Int) < (k:Int):=oM;have hlk:=(HI.out.alloc (.cells #[.int .u64 ((ws[q]).1:Int), .int .u64 ((ws[q]).2:Int)] 114)).look hl hlt2 (HV.out q hl);have HTS:=hid (takeS ws q hl);generalize ws[q]=e at *;have hsz:w.heap.size≤wr.heap.size:=HB.out.size;go_wp2_with (at_builtin;refine stop ?_)
     unfold Stop;have HR1:=hid (row_reads_at (wr.alloc (.cells #[.int .u64 (e.1:Int), .int .u64 (e.2:Int)] 114)) _ rfl [.int .u64 (e.1:Int), .int .u64 (e.2:Int)] 1 2 114 _ rfl rfl);rw [World.size_alloc] at HR1;refine wpList_app _ (.tmp 35) (.tmp 37) 108 rfl rfl w.heap.size 114 i0 _ 2 16 Tryz.underlying108 hi0 hz0 hz1 hz2 rfl oM (.slice A1 q c1) q (wrCells (ws.take q)) rfl ((HO.out.alloc _).alloc _) (wr.heap.size+1+1) (some ⟨wr.heap.size+1,0,none⟩) 1 1 [.int .u64 (e.1:Int), .int .u64 (e.2:Int)] rfl HR1.out (u64s_one _ _) (by unfold maxLen;omega) oM (by simp;omega) ?_;intro A3 n3 c3 w8 hn3 ho3 hg3 hb3;have hn3':n3=q+1:=oM;subst hn3';have HO4:Hid (w8.ownsRow w.heap.size 114 2 (.slice A3 (q+1) c3) (q+1) (wrCells (ws.take (q+1)))):=hid (by rw [HTS.out,wrCells_snoc];exact ho3);have HI4:Hid (OIdx w8 w.heap.size k ws k):=hid (((HI.out.alloc _).alloc _).kept hg3 (HI.out.ne_own HO.out));have HB4:=hid (((HB.out.alloc HB.out.size _).alloc (by simp;omega) _).trans hb3);clear hn3 ho3 hg3 hb3 hlk;go_wp2;go_roundw
     case rel =>
      first
       | exact ⟨q+1,_,_,oM,by go_num,rfl,HO4,HI4,HB4⟩
       | (
         repeat apply Exists.intro
         refine ⟨?_,rfl⟩;exact ⟨q+1,_,_,oM,by go_num,rfl,HO4,HI4,HB4⟩)
     case measure=>simp [Go.RowKit.intOf];omega
    ·have hqk:q=k:=oM
     subst hqk;go_wp2;go_ret;have h:=HO.out;rw [List.take_of_length_le (by rw [HLN.out];exact nL _)] at h;exact ⟨_,_,_,rfl,HLN.out.symm,h,HB.out⟩
end
section
open Go.RowKit Go.Maps
def IsTwo (ws ws2:List (Nat × Nat)) (p:List Ins):Prop:=∃ p1 p2,IsStores ws p1∧IsStores ws2 p2∧p=p1++p2
theorem isTwo_len {ws ws2:List (Nat × Nat)} {p:List Ins} (h:IsTwo ws ws2 p):p.length≤2 * ws.length+2 * ws2.length+2:=by
 obtain ⟨p1,p2,h1,h2,rfl⟩:=h;have:=isStores_len h1;have:=isStores_len h2;simp;omega
theorem finish_any (a:DA) (s k g:Nat) (A:Option Addr) (n c:Nat) (ws:List (Nat × Nat)) (w:World) (h:Reads w w.heap.size 2 A n (wrCells ws)) (h0:0 < n) (hn:n≤100) (hv:∀ e∈ws,e.1 < 18446744073709551616) (hB:Blk w g 353 (logCells a s k)) (hs:64 * s < 18446744073709551616) :
  Calls Tryz.prog 250 #[.pointer (some ⟨g,0,none⟩), .slice A n c] w (RetProg w (IsTwo ws [(64 * s,0)])):=by
 have HSt:=hid (stores_small A n c ws w h h0 oM hv);have HLN:=hid (show ws.length=n by have:=h.1;rw [wrCells_len] at this;omega);have HBB:=hid hB;have HMk:Hid (∀ W,Below w.heap.size w W→Calls Tryz.prog 170 #[.pointer (some ⟨g,0,none⟩), .int .u64 0] W (RetProg W (IsStores [(64 * s,0)]))):=hid (fun W hW=>mark_any a s k g 0 W (hB.below hW hB.lt) hs);clear h hv hB;go_enter Tryz.func250,Tryz.ntmps250
 go_wp2_with fail
 refine HSt.out.mono ?_;rintro e1 w4 ⟨B1,n1,d1,p1,rfl,hp1,ho1,hb1⟩;have HP1:=hid hp1;have HO1:=hid ho1;have HB4:=hid hb1;have HSS:=hid (HMk.out w4 hb1);clear hp1 ho1 hb1 HSt;go_wp2_with fail
 refine HSS.out.mono ?_;rintro e1 w5 ⟨B2,n2,d2',p2,rfl,hp2,ho2,hb2⟩;have HP2:=hid hp2;have HB5:=hid (HB4.out.trans (hb2.mono HB4.out.size));have hl1:n1≤400:=by
  have h1:=HO1.out.1;have h2:=isStores_len HP1.out;rw [insCells_len] at h1;have:=HLN.out;omega
 have hl2:n2≤400:=by
  have h1:=ho2.1;have h2:=isStores_len HP2.out;rw [insCells_len] at h1;simp at h2;omega
 have HTh:=hid (then_any B1 B2 n1 d1 n2 d2' p1 p2 w5 (Reads.of_own (own_below HO1.out hb2)) (Reads.of_own ho2) hl1 hl2);clear hp2 ho2 hb2 HSS HO1;go_wp2_with fail
 refine HTh.out.mono ?_;rintro e1 w6 ⟨B3,n3,d3,rfl,hn3,ho3,hb3⟩;have HO3:=hid ho3;have HB6:=hid (HB5.out.trans (hb3.mono HB5.out.size));clear hn3 ho3 hb3 HTh;go_wp2;go_ret;exact ⟨_,_,_,_,rfl,⟨p1,p2,HP1.out,HP2.out,rfl⟩,own_le HO3.out HB5.out.size,HB6.out⟩
end
end Go.Proofs.YtfkjjoglnmeciaaGreatDoor
