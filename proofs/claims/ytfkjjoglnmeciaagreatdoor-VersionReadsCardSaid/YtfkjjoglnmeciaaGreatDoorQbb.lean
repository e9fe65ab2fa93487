/- The walks and laws that the claim leans on, part 28. -/
import Derived.Test.YtfkjjoglnmeciaaGreatDoorQas
set_option maxRecDepth 100000
set_option maxHeartbeats 16000000
namespace Go.Proofs.YtfkjjoglnmeciaaGreatDoor
open Go.Lib (hid)
section
open Go.RowKit
theorem image_still {a:DA} {L:Nat} {w:World} {cur:Nat→Nat} (h:Still a L cur w) (hb:∀ i,cur i < 18446744073709551616) (h0:0 < L) (A:Option Addr) (n c:Nat) :
  Calls Tryz.prog 94 #[.pointer (some ⟨a.d,0,none⟩), .slice A n c] w (RetByo w (unpB ((List.range (8 * L)).map cur) (64 * L))):=by
 obtain ⟨xs,hxs⟩:∃ xs,(List.range (8 * L)).map cur=xs:=⟨_,rfl⟩
 have hlen:xs.length=8 * L:=by rw [← hxs];simp
 have hx64:∀ x∈xs,x < 18446744073709551616:=fun x hx=>by
  rw [← hxs] at hx;obtain ⟨i,_,rfl⟩:=List.mem_map.1 hx;exact hb i
 have h5:=h.hL;have hd:=h.dev;have hper:=h.per;rw [hxs] at hper ⊢;have HDr:=hid (fun W (hW:Below w.heap.size w W)=>dirty_still (h.below hW));obtain ⟨exe,h1⟩:=hd;have f0:w.cell? ⟨a.d,0,none⟩=some (.slice (some ⟨a.pb,0,none⟩) (8 * L) (8 * L)):=h1.cell 0;have hrd:=uA_reads hper;rw [hlen] at hrd;have HCl:=hid (cloneU_any ⟨a.pb,0,none⟩ (8 * L) (8 * L) xs w hrd oM);have HBy:=hid (fun (A:Option Addr) (c:Nat) (W:World) (hr:Reads W W.heap.size 1 A (8 * L) (uCells xs))=>bytesOf_any A (8 * L) c (64 * L) xs W hr hx64 oM oM);generalize unpB xs (64 * L)=bs at *;generalize 8 * L=q at *;clear h hb hper h1 hrd hlen hx64 hxs h0 h5;by_cases hn:0 < n
 ·have d1:decide ((0:Int) < (n:Int))=true:=dT
  have d2:(0:Int) < (n:Int):=oM;go_enter Tryz.func94,Tryz.ntmps94
  go_wp2_with (first
   | (go_at_call 190;refine HCl.out.mono ?_;rintro e w1 ⟨A1,m1,c1,rfl,rfl,ho1,hb1⟩;have HR1:=hid (Reads.of_own ho1);have HB1:=hid hb1;have HD1:=hid (HDr.out _ hb1);clear ho1 hb1)
   | (go_at_call 191;refine HD1.out.mono ?_;rintro e w2 ⟨rfl,rfl⟩)
   | fail)
  refine wp_loop_rounds 1 ?_;rw [rounds_succ];have HF:=hid (HBy.out _ c1 _ HR1.out);go_wp2_with (first
   | (go_at_call 193;refine HF.out.mono ?_;rintro e w3 ⟨g,rfl,h3,hb3⟩;have H3:=hid h3;have HB3:=hid (HB1.out.trans (hb3.mono HB1.out.size));clear h3 hb3)
   | fail)
  go_ret;exact ⟨g,rfl,H3.out,HB3.out⟩
 ·have d1:decide ((0:Int) < (n:Int))=false:=dF
  have d2:¬ (0:Int) < (n:Int):=oM;go_enter Tryz.func94,Tryz.ntmps94
  go_wp2_with (first
   | (go_at_call 190;refine HCl.out.mono ?_;rintro e w1 ⟨A1,m1,c1,rfl,rfl,ho1,hb1⟩;have HR1:=hid (Reads.of_own ho1);have HB1:=hid hb1;have HF:=hid (HBy.out _ c1 _ HR1.out);clear ho1 hb1)
   | (go_at_call 193;refine HF.out.mono ?_;rintro e w3 ⟨g,rfl,h3,hb3⟩;have H3:=hid h3;have HB3:=hid (HB1.out.trans (hb3.mono HB1.out.size));clear h3 hb3)
   | fail)
  go_ret;exact ⟨g,rfl,H3.out,HB3.out⟩
theorem Dev.congr {a:DA} {L T:Nat} {w:World} {S:Fp} {cur cur':Nat→Nat} {F:Nat} (h:Dev a L T w S cur F) (e:∀ k,k < 8 * L→cur k=cur' k):Dev a L T w S cur' F:=by
 obtain ⟨s,exe,per,cs,ls,hc,hn,hcl⟩:=h;exact ⟨s,exe,per,cs,ls,{ hc with curI:=fun i hi=>by rw [← e i hi];exact hc.curI i hi,link:=fun k hk=>by rw [← e k hk];exact hc.link k hk },hn,hcl⟩
theorem crashD_still (D:Nat→Prop) {a:DA} {L:Nat} {w:World} {cur:Nat→Nat} (h:Still a L cur w) (hb:∀ i,cur i < 18446744073709551616) (h0:0 < L) (A:Option Addr) (n c:Nat) :
  Calls Tryz.prog 16 #[.pointer (some ⟨a.d,0,none⟩), .slice A n c] w (RetNew w L D (fun d => .pointer (some ⟨d,0,none⟩)) cur):=by
 have hL:=h.hL;have HI:=hid (image_still h hb h0 A n c);have hlen:(unpB ((List.range (8 * L)).map cur) (64 * L)).length=64 * L:=unpB_len _ _;have hb256:∀ b∈unpB ((List.range (8 * L)).map cur) (64 * L),b < 256:=fun b hb=>by
  unfold unpB at hb;obtain ⟨i,_,rfl⟩:=List.mem_map.1 hb;exact Nat.mod_lt _ oM
 have HFr:Hid (∀ (g:Nat) (W:World),Below w.heap.size w W→Reads W W.heap.size 1 (some ⟨g,0,none⟩) (64 * L) (u8s (unpB ((List.range (8 * L)).map cur) (64 * L)))→Calls Tryz.prog 93 #[.slice (some ⟨g,0,none⟩) (64 * L) (64 * L)] W fun e w'=>∃ d:Nat,e = .returned (.tuple #[.pointer (some ⟨d,0,none⟩), .int .i64 0])∧RetNew w L D (fun d => .pointer (some ⟨d,0,none⟩)) cur (.returned (.pointer (some ⟨d,0,none⟩))) w'):=hid (fun g W hW hr=>by
  refine (from_any D g L _ W hr hb256 h0 hL).mono ?_;rintro e w' ⟨a',S',rfl,hD,hdev,hS,hbl⟩;refine ⟨a'.d,rfl,a',S',rfl,hD,?_,fun k hk=>Nat.le_trans hW.size (hS k hk),hW.trans (hbl.mono hW.size)⟩;refine hdev.congr (fun k hk=>?_);have e1:=pack_unp (xs:=(List.range (8 * L)).map cur) (fun x hx=>by obtain ⟨i,_,rfl⟩:=List.mem_map.1 hx;exact hb i);have e2:8 * ((List.range (8 * L)).map cur).length=64 * L:=by simp;omega
  rw [e2] at e1;rw [e1];simp [List.getD_eq_getElem?_getD,hk])
 generalize unpB ((List.range (8 * L)).map cur) (64 * L)=bs at *;clear h hb hb256;go_enter Tryz.func16,Tryz.ntmps16
 go_wp2_with (first
  | (go_at_call 94;refine HI.out.mono ?_;rintro e w1 ⟨g,rfl,hr1,hb1⟩;rw [hlen] at hr1 ⊢;have HF1:=hid (HFr.out g _ hb1 hr1);clear hr1 hb1)
  | (go_at_call 93;refine HF1.out.mono ?_;rintro e w2 ⟨d,rfl,h2⟩;have HZ:=hid h2;clear h2)
  | fail)
 go_ret;exact HZ.out
end
end Go.Proofs.YtfkjjoglnmeciaaGreatDoor
