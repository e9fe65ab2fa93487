/- The walks and laws that the claim leans on, part 17. -/
import Derived.Test.YtfkjjoglnmeciaaGreatDoorJal
import Derived.Test.YtfkjjoglnmeciaaGreatDoorJap
set_option maxRecDepth 100000
set_option maxHeartbeats 16000000
namespace Go.Proofs.YtfkjjoglnmeciaaGreatDoor
open Go.Lib (hid)
section
open Go.RowKit
def freeW (o:Nat):Nat:=sealW (3305111552+o)
theorem own_or (o:Nat) (ho:o < 65536):bits .or .u32 (o:Int) 3305111552=((3305111552+o:Nat):Int):=by
 have h:=u32_or_nat o 3305111552 (by omega) (by omega)
 rw [show ((3305111552:Nat):Int)=3305111552 from rfl] at h
 rw [h]
 congr 1
 have:=Nat.two_pow_add_eq_or_of_lt (i:=16) (b:=o) (by omega) 50432
 rw [show 2 ^ 16 * 50432=3305111552 from rfl] at this
 rw [Nat.or_comm,← this]
theorem wordFree_any (o:Nat) (ho:o < 65536) (w:World) (ht:Tab w) :
  Calls Tryz.prog 340 #[.agg #[.int .i64 (-1), .int .i64 (-1), .int .u16 (o:Int)]] w fun e w'=>e = .returned (.int .u64 (freeW o:Int))∧Below w.heap.size w w':=by
 have HB0:Hid (∀ x,Below w.heap.size w (w.alloc x)):=fun x=>(Below.refl _ _).alloc (Nat.le_refl _) x
 have HS:=hid (fun x=>seal_any (3305111552+o) (by omega) (w.alloc x) (ht.below (HB0.out x)))
 have e1:=own_or o ho
 have u1:IntKind.u32.wrap (o:Int)=(o:Int):=by rw [IntKind.wrap_u32'];omega
 unfold freeW
 generalize 3305111552+o=z at *
 clear ht
 go_enter Tryz.func340,Tryz.ntmps340
 go_wp2_with (go_at_call 374;refine (HS.out _).mono ?_;rintro e w1 ⟨rfl,hb1⟩;have HB1:=hid ((HB0.out _).trans (hb1.mono (by simp)));clear hb1)
 go_ret
 exact ⟨rfl,HB1.out⟩
def RetProgOk (w:World) (P:List Ins→Prop) (e:Ending) (w':World):Prop:=∃ A m c p,e = .returned (.tuple #[.slice A m c, .int .i64 0])∧P p∧w'.ownsRow w.heap.size 284 3 (.slice A m c) m (insCells p)∧Below w.heap.size w w'
theorem clear_any (c o:Nat) (hc:c≤4064) (ho:o < 65536) (h0:o≠0) (w:World) (ht:Tab w) :
  Calls Tryz.prog 284 #[.int .i64 (c:Int), .int .u16 (o:Int)] w (RetProgOk w (IsStores [(64 * c,freeW o)])):=by
 have HT:=hid ht
 have d1:decide ((0:Int)≤(c:Int))=true:=decide_eq_true (by omega)
 have d2:decide ((c:Int)≤4064)=true:=decide_eq_true (by omega)
 have d3:((o:Int) == 0)=false:=by rw [beq_eq_false_iff_ne];omega
 have u1:IntKind.u64.wrap (c:Int)=(c:Int):=by rw [IntKind.wrap_u64];omega
 have hfl:64 * c < 18446744073709551616:=by omega
 have u2:IntKind.u64.wrap ((c:Int) * 64)=((64 * c:Nat):Int):=by rw [IntKind.wrap_u64];omega
 generalize 64 * c=z at *
 clear ht
 go_enter Tryz.func284,Tryz.ntmps284
 go_wp2
 have HC:=hid (Blk.new w 304 #[.int .i64 (-1), .int .i64 (-1), .int .u16 (o:Int)])
 have HB0:Hid (Below w.heap.size w (w.alloc (.cells #[.int .i64 (-1), .int .i64 (-1), .int .u16 (o:Int)] 304))):=(Below.refl _ _).alloc (Nat.le_refl _) _
 generalize w.alloc (.cells #[.int .i64 (-1), .int .i64 (-1), .int .u16 (o:Int)] 304)=W at *
 have HBD:Hid (Below W.heap.size W W.drew):=(Below.refl _ _).drew
 refine wp_region_script (fun w'=>Below W.heap.size W w') 4 [(true,0),(true,2),(false,1),(false,3)] (by kernel_rfl) (by kernel_rfl) HBD.out ?_
 refine wpScript_take (.int .i64 (c:Int)) (by rfl) (by rfl) (fun w' hS=>?_) ?_
 ·go_simp
 simp only [zA,zB,Act.put,zD,zE,zF]
 refine wpScript_take (.agg #[.int .i64 (-1), .int .i64 (-1), .int .u16 (o:Int)]) (by rfl) (by rfl) (fun w' hS=>?_) ?_
 ·have f0:w'.cell? ⟨w.heap.size,0,none⟩=some (.int .i64 (-1)):=(HC.out.below hS HC.out.lt).cell 0
  have f1:w'.cell? ⟨w.heap.size,1,none⟩=some (.int .i64 (-1)):=(HC.out.below hS HC.out.lt).cell 1
  have f2:w'.cell? ⟨w.heap.size,2,none⟩=some (.int .u16 (o:Int)):=(HC.out.below hS HC.out.lt).cell 2
  go_simp
 simp only [zA,zB,zC,Act.put,zD,zE,zF]
 refine wpScript_do (by rfl) ?_
 go_wp2
 refine ⟨HBD.out,?_⟩
 refine wpScript_do (by rfl) ?_
 go_wp2_with fail
 refine (wordFree_any o ho W.drew ((HT.out.below HB0.out).below HBD.out)).mono ?_
 rintro e w1 ⟨rfl,hb1⟩
 have HB1:=hid (HBD.out.trans (hb1.mono HBD.out.size))
 have HS:=hid (stores_small _ 1 1 _ _ (one_reads w1 z (freeW o)) (by omega) (by omega) (fun e he=>by simp at he;subst he;exact hfl))
 have HB2:Hid (∀ x,Below w.heap.size w (w1.alloc x)):=fun x=>((HB0.out.trans (HB1.out.mono HB0.out.size)).alloc (Nat.le_trans HB0.out.size HB1.out.size) x)
 generalize freeW o=y at *
 clear hb1
 go_wp2_with fail
 refine ⟨HB1.out,?_⟩
 show wpList ..
 simp only [List.drop_succ_cons,List.drop_zero]
 go_wp2_with (go_at_call 105;refine HS.out.mono ?_;intro e w2 h1;have h2:=RetProg.back (HB2.out _) h1;obtain ⟨A1,m1,c1,p1,rfl,hp1,ho1,hb1⟩:=h2;have HP1:=hid hp1;have HO1:=hid ho1;have HB1:=hid hb1;clear h1 hp1 ho1 hb1)
 refine NoPanic.normal ?_
 go_wp2
 go_ret2
 exact ⟨_,_,_,_,rfl,HP1.out,HO1.out,HB1.out⟩
end
section
open Go.RowKit
theorem arenaValid_any {a:DA} {L T:Nat} {w:World} {S:Fp} {cur:Nat→Nat} {F:Nat} (h:Dev a L T w S cur F) (s n:Nat) (hn:32≤n) (hs:s+n≤L) :
  Calls Tryz.prog 283 #[memV a, .int .i64 (s:Int), .int .i64 (n:Int)] w fun e w'=>e = .returned (.bool true)∧w=w':=by
 obtain ⟨ls,exe,per,cs,lsC,hdc,hnt⟩:=h
 have hL:=hdc.hL
 obtain ⟨f0,f2,_,_,_⟩:=hdc.facts (j:=0) (by omega)
 clear hdc hnt
 have hq:=eqMem (some ⟨a.th 0,0,none⟩)
 have hmS:=methSize (some ⟨a.th 0,0,none⟩)
 unfold memV
 have e1:decide ((s:Int) < 0)=false:=decide_eq_false (by omega)
 have e2:decide ((n:Int) < 32)=false:=decide_eq_false (by omega)
 have u1:IntKind.u64.wrap ((L:Int) * 64)=(L:Int) * 64:=by rw [IntKind.wrap_u64];omega
 have u2:IntKind.u64.wrap (n:Int)=(n:Int):=by rw [IntKind.wrap_u64];omega
 have u3:IntKind.u64.wrap (s:Int)=(s:Int):=by rw [IntKind.wrap_u64];omega
 have u4:IntKind.u64.wrap ((L:Int) - (s:Int))=(L:Int) - (s:Int):=by rw [IntKind.wrap_u64];omega
 have d1:((L:Int) * 64).tdiv 64=(L:Int):=by rw [Int.mul_tdiv_cancel _ (by decide)]
 have d2:(n:Int).tdiv 32=(n:Int) / 32:=by rw [Int.tdiv_eq_ediv_of_nonneg (by omega)]
 have e3:decide ((L:Int) < (s:Int))=false:=decide_eq_false (by omega)
 have e4:decide ((L:Int) - (s:Int) < (n:Int))=false:=decide_eq_false (by omega)
 have u5:IntKind.u64.wrap ((n:Int) / 32)=(n:Int) / 32:=by rw [IntKind.wrap_u64];omega
 have u6:IntKind.u64.wrap ((n:Int) / 32 * 32)=(n:Int) / 32 * 32:=by rw [IntKind.wrap_u64];omega
 have u7:IntKind.u64.wrap ((s:Int)+(n:Int) / 32 * 32)=(s:Int)+(n:Int) / 32 * 32:=by rw [IntKind.wrap_u64];omega
 have e5:decide ((s:Int)+(n:Int) / 32 * 32≤4096)=true:=decide_eq_true (by omega)
 go_enter Tryz.func283,Tryz.ntmps283
 go_wp2
 go_ret
 exact ⟨rfl,rfl⟩
def arC (cur:Nat→Nat) (s:Nat):Nat→Nat→Nat
 | 0=>cur
 | k+1=>wrS (arC cur s k) [(64 * (s+32 * k),freeW 1)]
def AreI (a:DA) (L T:Nat) (w wr:World) (S:Fp) (cur:Nat→Nat) (s k:Nat):Prop:=∃ S',Dev a L (T+3 * k) wr S' (arC cur s k) 0∧Chg S w wr∧Grew S S' w
theorem freeW_lt (o:Nat) (ho:o < 65536):freeW o < 18446744073709551616:=sealW_lt _ (by omega)
theorem arenaFormat_any {a:DA} {L T:Nat} {w:World} {S:Fp} {cur:Nat→Nat} (h:Dev a L T w S cur 0) (ht:Tab w) (hg:¬ S 1) (s n K:Nat) (hn:32≤n) (hs:s+n≤L) (hK:n / 32=K) (hT:T+3 * K≤1000000000) :
  Calls Tryz.prog 171 #[memV a, .int .i64 (s:Int), .int .i64 (n:Int)] w (RetDev a L (T+3 * K) w S (arC cur s K) 0 (.int .i64 0)):=by
 have HV:=hid (arenaValid_any h s n hn hs)
 have HI0:Hid (AreI a L T w w S cur s 0):=⟨S,h,Chg.refl _ _,Grew.refl _ _⟩
 have HG:=hid hg
 have HT:=hid ht
 obtain ⟨ls,exe,per,cs,lsC,hdc,hnt⟩:=h
 have hL:=hdc.hL
 obtain ⟨f0,_,_,_,g2⟩:=hdc.facts (j:=0) (by omega)
 have hmE:=methErr (some ⟨a.th 0,0,none⟩)
 have d2:(n:Int).tdiv 32=(K:Int):=by rw [Int.tdiv_eq_ediv_of_nonneg (by omega)];omega
 have d3:(n:Int) / 32=(K:Int):=by omega
 have hK32:K * 32≤n:=by omega
 clear hdc hnt ht hg hK
 unfold memV at *
 go_enter Tryz.func171,Tryz.ntmps171
 go_wp2_with (first
  | (go_at_call 283;refine HV.out.mono ?_;rintro e w1 ⟨rfl,rfl⟩)
  | go_in)
 clear f0 g2 HV
 go_loopw [24] (fun i wr=>∃ (k:Nat),k≤K∧i = .int .i64 k∧Hid (AreI a L T w wr S cur s k)) (fun i _=>K - (RowKit.intOf i).toNat)
 case atStart=>exact ⟨0,Nat.zero_le _,rfl,HI0⟩
 case round =>
  clear HI0
  obtain ⟨k,hk,rfl,H⟩:=hrel
  by_cases hlt:k < K
  ·obtain ⟨S1,hd,hc,hgr⟩:=H.out
   have HC:=hid (clear_any (s+32 * k) 1 (by omega) (by omega) (by omega) wr (HT.out.chg hc HG.out))
   have HR:Hid (∀ (A:Option Addr) (m c:Nat) (p:List Ins) (w1:World),IsStores [(64 * (s+32 * k),freeW 1)] p→w1.ownsRow wr.heap.size 284 3 (.slice A m c) m (insCells p)→Below wr.heap.size wr w1 →
     Calls Tryz.prog 78 #[.slice A m c,memV a] w1 (fun e w2=>e = .returned (.int .i64 0)∧AreI a L T w w2 S cur s (k+1))):=fun A m c p w1 hp ho hb=>by
    refine (run_stores (hd.below hb) ho hd.lt hp (fun e he=>by simp only [List.mem_singleton] at he;subst he;exact ⟨by omega,by omega,freeW_lt 1 (by omega)⟩) (by simp) (by simp;omega)).mono ?_
    intro e w2 h2
    obtain ⟨he,S2,hd2,hc2,hg2⟩:=RetDev.then_ hc hgr (RetDev.back hb h2)
    exact ⟨he,S2,hd2.more (by simp;omega) (by omega),hc2,hg2⟩
   have e7:((s+32 * k:Nat):Int)=(s:Int)+(k:Int) * 32:=by omega
   rw [e7] at HC
   generalize 64 * (s+32 * k)=z at *
   clear hd hc hgr e7 H
   unfold memV at *
   go_wp2_with (first
    | (go_at_call 284;refine HC.out.mono ?_;rintro e w1 ⟨A1,m1,c1,p1,rfl,hp1,ho1,hb1⟩;have HRR:=hid (HR.out A1 m1 c1 p1 w1 hp1 ho1 hb1);clear hp1 ho1 hb1)
    | (go_at_call 78;refine HRR.out.mono ?_;rintro e w2 ⟨rfl,h2⟩;have HZ:=hid h2;clear h2)
    | go_in)
   go_roundw
   case rel =>
    repeat apply Exists.intro
    refine ⟨?_,rfl⟩
    exact ⟨k+1,by omega,by go_num,HZ⟩
   case measure=>simp [RowKit.intOf];omega
  ·obtain rfl:k=K:=by omega
   obtain ⟨S1,hd,hc,hgr⟩:=H.out
   have HZ:=hid (show ∃ S',Dev a L (T+3 * k) wr S' (arC cur s k) 0∧Chg S w wr∧Grew S S' w from H.out)
   obtain ⟨ls,exe,per,cs,lsC,hdc,hnt⟩:=hd
   obtain ⟨f0,_,_,_,g2⟩:=hdc.facts (j:=0) (by omega)
   clear hdc hnt hc hgr H
   go_wp2
   go_ret
   exact ⟨rfl,HZ.out⟩
end
section
open Go.RowKit
theorem header_free (w:World) (ht:Tab w) :
  Calls Tryz.prog 350 #[.int .u64 (freeW 1:Int)] w fun e w'=>e = .returned (.tuple #[.agg #[.int .i64 (-1), .int .i64 (-1), .int .u16 1], .bool true])∧Below w.heap.size w w':=by
 have HS:=hid (fun (W:World) (hW:Below w.heap.size w W)=>seal_any 3305111553 (by omega) W (ht.below hW))
 have hf:freeW 1=sealW 3305111553:=rfl
 have hs:IntKind.u32.wrap (sealW 3305111553:Int)=3305111553:=by
  rw [IntKind.wrap_u32']
  unfold sealW
  omega
 rw [hf]
 generalize sealW 3305111553=z at *
 have HB0:Hid (∀ x,Below w.heap.size w (w.alloc x)):=fun x=>(Below.refl _ _).alloc (Nat.le_refl _) x
 have b1:bits .and .u32 50432 15=0:=by decide
 have b2:bits .and .u32 3152 15=0:=by decide
 have b3:IntKind.u16.wrap 3305111553=1:=by decide
 have q1:((z:Int) == (z:Int))=true:=by simp
 clear ht hf
 go_enter Tryz.func350,Tryz.ntmps350
 go_wp2_with (go_at_call 374;refine (HS.out _ (HB0.out _)).mono ?_;rintro e w1 ⟨rfl,hb1⟩;have HB1:=hid hb1;have hk:=(Blk.new w 304 #[.int .i64 0, .int .i64 0, .int .u16 0]).below hb1 (Blk.new w 304 #[.int .i64 0, .int .i64 0, .int .u16 0]).lt;have hlt:=hk.lt;have c0:w1.cell? ⟨w.heap.size,0,none⟩=some (.int .i64 0):=hk.cell 0;have c1:w1.cell? ⟨w.heap.size,1,none⟩=some (.int .i64 0):=hk.cell 1;have c2:w1.cell? ⟨w.heap.size,2,none⟩=some (.int .u16 0):=hk.cell 2;have z0:w1.frozen? ⟨w.heap.size,0,none⟩=false:=hk.frozen 0;have z1:w1.frozen? ⟨w.heap.size,1,none⟩=false:=hk.frozen 1;have z2:w1.frozen? ⟨w.heap.size,2,none⟩=false:=hk.frozen 2;clear hb1 hk)
 have n01:(⟨w.heap.size,0,none⟩:Addr)≠⟨w.heap.size,1,none⟩:=by simp
 have n02:(⟨w.heap.size,0,none⟩:Addr)≠⟨w.heap.size,2,none⟩:=by simp
 have n12:(⟨w.heap.size,1,none⟩:Addr)≠⟨w.heap.size,2,none⟩:=by simp
 refine bodyPost_ret (v := .tuple #[.agg #[.int .i64 (-1), .int .i64 (-1), .int .u16 1], .bool true]) (by simp [results,Tryz.results350,go_sem,c0,c1,c2,hlt]) rfl ⟨rfl,?_⟩
 have h0:=(HB0.out (.cells #[.int .i64 0, .int .i64 0, .int .u16 0] 304)).trans (HB1.out.mono (by simp))
 have h1:=((h0.setCell (p:=⟨w.heap.size,0,none⟩) (Nat.le_refl _) (.int .i64 (-1))).setCell (p:=⟨w.heap.size,1,none⟩) (Nat.le_refl _) (.int .i64 (-1))).setCell (p:=⟨w.heap.size,2,none⟩) (Nat.le_refl _) (.int .u16 1)
 exact h1.alloc h1.size _
end
section
open Go.RowKit
def hdX (c g:Nat):Nat:=g+(c+1) * 65536+1048576+3305111552
def hdrW (c g:Nat):Nat:=sealW (hdX c g)
section
theorem formatted_any (c g:Nat) (hc:c < 5) (w:World) (hp:Pay w):Calls Tryz.prog 381 #[.agg #[.int .i64 (c:Int), .int .i64 0, .int .u16 (g:Int)]] w fun e w'=>e = .returned (.bool true)∧Below w.heap.size w w':=by
 have hb:Below w.heap.size w (w.alloc (.cells #[.int .i64 (c:Int), .int .i64 0, .int .u16 (g:Int)] 304)):=(Below.refl _ w).alloc (Nat.le_refl _) _
 have HB:=hid hb
 have HP:=hid (perChunk_any c hc _ (hp.below hb))
 have d1:(0:Int) < (perC c:Int):=by have:=per_le c;omega
 clear hp hb
 generalize perC c=r at *
 go_enter Tryz.func381,Tryz.ntmps381
 go_wp2_with (go_at_call 207;refine HP.out.mono ?_;rintro e w1 ⟨rfl,rfl⟩)
 go_ret
 exact ⟨rfl,HB.out⟩
theorem header_undiv (g:Nat) (hg0:0 < g) (hg:g < 65536) (w:World) (ht:Tab w) :
  Calls Tryz.prog 350 #[.int .u64 (freeW g:Int)] w fun e w'=>e = .returned (.tuple #[.agg #[.int .i64 (-1), .int .i64 (-1), .int .u16 (g:Int)], .bool true])∧Below w.heap.size w w':=by
 have HS:=hid (fun (W:World) (hW:Below w.heap.size w W)=>seal_any (3305111552+g) (by omega) W (ht.below hW))
 have hs:IntKind.u32.wrap (sealW (3305111552+g):Int)=((3305111552+g:Nat):Int):=by
  rw [IntKind.wrap_u32']
  unfold sealW
  omega
 unfold freeW
 have HB0:Hid (∀ x,Below w.heap.size w (w.alloc x)):=fun x=>(Below.refl _ _).alloc (Nat.le_refl _) x
 have b0:((3305111552+g:Nat):Int) / 16777216=197:=by omega
 have b1:((3305111552+g:Nat):Int) / 65536=50432:=by omega
 have b2:((3305111552+g:Nat):Int) / 1048576=3152:=by omega
 have b4:bits .and .u32 50432 15=0:=by decide
 have b5:bits .and .u32 3152 15=0:=by decide
 have b3:IntKind.u16.wrap ((3305111552+g:Nat):Int)=(g:Int):=by rw [IntKind.wrap_u16];omega
 have b6:((g:Int) == 0)=false:=by rw [beq_eq_false_iff_ne];omega
 have hx:3305111552+g < 4294967296:=by omega
 generalize 3305111552+g=xx at *
 generalize sealW xx=z at *
 have q1:((z:Int) == (z:Int))=true:=by simp
 clear ht
 go_enter Tryz.func350,Tryz.ntmps350
 go_wp2_with (go_at_call 374;refine (HS.out _ (HB0.out _)).mono ?_;rintro e w1 ⟨rfl,hb1⟩;have HB1:=hid hb1;have hk:=(Blk.new w 304 #[.int .i64 0, .int .i64 0, .int .u16 0]).below hb1 (Blk.new w 304 #[.int .i64 0, .int .i64 0, .int .u16 0]).lt;have hlt:=hk.lt;have c0:w1.cell? ⟨w.heap.size,0,none⟩=some (.int .i64 0):=hk.cell 0;have c1:w1.cell? ⟨w.heap.size,1,none⟩=some (.int .i64 0):=hk.cell 1;have c2:w1.cell? ⟨w.heap.size,2,none⟩=some (.int .u16 0):=hk.cell 2;have z0:w1.frozen? ⟨w.heap.size,0,none⟩=false:=hk.frozen 0;have z1:w1.frozen? ⟨w.heap.size,1,none⟩=false:=hk.frozen 1;have z2:w1.frozen? ⟨w.heap.size,2,none⟩=false:=hk.frozen 2;clear hb1 hk)
 have n01:(⟨w.heap.size,0,none⟩:Addr)≠⟨w.heap.size,1,none⟩:=by simp
 have n02:(⟨w.heap.size,0,none⟩:Addr)≠⟨w.heap.size,2,none⟩:=by simp
 have n12:(⟨w.heap.size,1,none⟩:Addr)≠⟨w.heap.size,2,none⟩:=by simp
 refine bodyPost_ret (v := .tuple #[.agg #[.int .i64 (-1), .int .i64 (-1), .int .u16 (g:Int)], .bool true]) (by simp [results,Tryz.results350,go_sem,c0,c1,c2,hlt]) rfl ⟨rfl,?_⟩
 have h0:=(HB0.out (.cells #[.int .i64 0, .int .i64 0, .int .u16 0] 304)).trans (HB1.out.mono (by simp))
 have h1:=((h0.setCell (p:=⟨w.heap.size,0,none⟩) (Nat.le_refl _) (.int .i64 (-1))).setCell (p:=⟨w.heap.size,1,none⟩) (Nat.le_refl _) (.int .i64 (-1))).setCell (p:=⟨w.heap.size,2,none⟩) (Nat.le_refl _) (.int .u16 (g:Int))
 exact h1.alloc h1.size _
theorem header_cls (c g:Nat) (hc:c < 5) (hg0:0 < g) (hg:g < 65536) (w:World) (ht:Tab w) (hp:Pay w) :
  Calls Tryz.prog 350 #[.int .u64 (hdrW c g:Int)] w fun e w'=>e = .returned (.tuple #[.agg #[.int .i64 (c:Int), .int .i64 0, .int .u16 (g:Int)], .bool true])∧Below w.heap.size w w':=by
 have hx:hdX c g < 4294967296:=by unfold hdX;omega
 have HS:=hid (fun (W:World) (hW:Below w.heap.size w W)=>seal_any (hdX c g) hx W (ht.below hW))
 have HF:=hid (fun (W:World) (hW:Below w.heap.size w W)=>formatted_any c g hc W (hp.below hW))
 have hs:IntKind.u32.wrap (sealW (hdX c g):Int)=(hdX c g:Int):=by
  rw [IntKind.wrap_u32']
  unfold sealW
  omega
 unfold hdrW
 have HB0:Hid (∀ x,Below w.heap.size w (w.alloc x)):=fun x=>(Below.refl _ _).alloc (Nat.le_refl _) x
 have b0:(hdX c g:Int) / 16777216=197:=by unfold hdX;omega
 have b1:bits .and .u32 ((hdX c g:Int) / 65536) 15=(c:Int)+1:=by
  have e:(hdX c g:Int) / 65536=50432+16+(c:Int)+1:=by unfold hdX;omega
  rw [e]
  have hc5:c=0∨c=1∨c=2∨c=3∨c=4:=by omega
  rcases hc5 with rfl | rfl | rfl | rfl | rfl <;> decide
 have b2:(hdX c g:Int) / 1048576=3153:=by unfold hdX;omega
 have b5:bits .and .u32 3153 15=1:=by decide
 have b3:IntKind.u16.wrap (hdX c g:Int)=(g:Int):=by rw [IntKind.wrap_u16];unfold hdX;omega
 have b6:((g:Int) == 0)=false:=by rw [beq_eq_false_iff_ne];omega
 have d0:decide ((c:Int) < 0)=false:=decide_eq_false (by omega)
 generalize hdX c g=xx at *
 generalize sealW xx=z at *
 have q1:((z:Int) == (z:Int))=true:=by simp
 clear ht hp
 go_enter Tryz.func350,Tryz.ntmps350
 go_wp2_with (go_at_call 374;refine (HS.out _ (HB0.out _)).mono ?_;rintro e w1 ⟨rfl,hb1⟩;have HB1:=hid ((HB0.out (.cells #[.int .i64 0, .int .i64 0, .int .u16 0] 304)).trans (hb1.mono (by simp)));have HK:=hid ((Blk.new w 304 #[.int .i64 0, .int .i64 0, .int .u16 0]).below hb1 (Blk.new w 304 #[.int .i64 0, .int .i64 0, .int .u16 0]).lt);clear hb1)
 have HB2:=hid (HB1.out.alloc HB1.out.size (.cells #[.int .i64 (c:Int), .int .i64 0, .int .u16 (g:Int)] 304))
 have HK2:=hid (HK.out.below (Below.refl _ w1 |>.alloc (Nat.le_refl _) (.cells #[.int .i64 (c:Int), .int .i64 0, .int .u16 (g:Int)] 304)) HK.out.lt)
 have HN2:=hid (Blk.new w1 304 #[.int .i64 (c:Int), .int .i64 0, .int .u16 (g:Int)])
 generalize hw2:w1.alloc (.cells #[.int .i64 (c:Int), .int .i64 0, .int .u16 (g:Int)] 304)=w2 at *
 have HF2:=hid (HF.out w2 HB2.out)
 clear HF HS HK HB1 hw2
 refine HF2.out.mono ?_
 rintro e w3 ⟨rfl,hb3⟩
 have HB3:=hid (HB2.out.trans (hb3.mono HB2.out.size))
 have hk:=HK2.out.below hb3 HK2.out.lt
 have hn:=HN2.out.below hb3 HN2.out.lt
 have g0:w3.cell? ⟨w1.heap.size,0,none⟩=some (.int .i64 (c:Int)):=hn.cell 0
 have g1:w3.cell? ⟨w1.heap.size,1,none⟩=some (.int .i64 0):=hn.cell 1
 have g2:w3.cell? ⟨w1.heap.size,2,none⟩=some (.int .u16 (g:Int)):=hn.cell 2
 have c0:w3.cell? ⟨w.heap.size,0,none⟩=some (.int .i64 0):=hk.cell 0
 have c1:w3.cell? ⟨w.heap.size,1,none⟩=some (.int .i64 0):=hk.cell 1
 have c2:w3.cell? ⟨w.heap.size,2,none⟩=some (.int .u16 0):=hk.cell 2
 have z0:w3.frozen? ⟨w.heap.size,0,none⟩=false:=hk.frozen 0
 have z1:w3.frozen? ⟨w.heap.size,1,none⟩=false:=hk.frozen 1
 have z2:w3.frozen? ⟨w.heap.size,2,none⟩=false:=hk.frozen 2
 clear hb3 hk hn HF2 HK2 HN2 HB2 HB0
 go_wp2
 have n01:(⟨w.heap.size,0,none⟩:Addr)≠⟨w.heap.size,1,none⟩:=by simp
 have n02:(⟨w.heap.size,0,none⟩:Addr)≠⟨w.heap.size,2,none⟩:=by simp
 have n12:(⟨w.heap.size,1,none⟩:Addr)≠⟨w.heap.size,2,none⟩:=by simp
 refine bodyPost_ret (v := .tuple #[.agg #[.int .i64 (c:Int), .int .i64 0, .int .u16 (g:Int)], .bool true]) (by simp [results,Tryz.results350,go_sem,c0,c1,c2]) rfl ⟨rfl,?_⟩
 exact ((HB3.out.setCell (p:=⟨w.heap.size,0,none⟩) (Nat.le_refl _) (.int .i64 (c:Int))).setCell (p:=⟨w.heap.size,1,none⟩) (Nat.le_refl _) (.int .i64 0)).setCell (p:=⟨w.heap.size,2,none⟩) (Nat.le_refl _) (.int .u16 (g:Int))
end
end
section
open Go.RowKit
theorem look_free {a:DA} {L T:Nat} {w:World} {S:Fp} {cur:Nat→Nat} {F:Nat} (h:Dev a L T w S cur F) (ht:Tab w) (c:Nat) (hc:c+32≤L) (hv:cur (8 * c)=freeW 1) :
  Calls Tryz.prog 293 #[memV a, .int .i64 (c:Int)] w fun e w'=>e = .returned (.tuple #[.agg #[.int .i64 (-1), .int .i64 (-1), .int .u16 1], .int .i64 0])∧Below w.heap.size w w':=by
 have HLd:=hid (load_at h (64 * c) (freeW 1) (by omega) (by omega) (by rw [show 64 * c / 8=8 * c by omega];exact hv))
 have HD:=hid h
 have HH:=hid (fun (W:World) (hW:Below w.heap.size w W)=>header_free W (ht.below hW))
 have hm:=methLoad (some ⟨a.th 0,0,none⟩)
 have hna:=aheadLoad ⟨a.th 0,0,none⟩
 have hmE:=methErr (some ⟨a.th 0,0,none⟩)
 have hmS:=methSize (some ⟨a.th 0,0,none⟩)
 have hq:=eqMem (some ⟨a.th 0,0,none⟩)
 have HB0:Hid (Below w.heap.size w (w.alloc (.cells #[.int .i64 0, .int .i64 0, .int .u16 0] 304))):=(Below.refl _ _).alloc (Nat.le_refl _) _
 obtain ⟨ls,exe,per,cs,lsC,hdc,hnt⟩:=h.below HB0.out
 have hL:=hdc.hL
 obtain ⟨f0,f2,_,_,f4⟩:=hdc.facts (j:=0) (by omega)
 have HBk:=hid (Blk.new w 304 #[.int .i64 0, .int .i64 0, .int .u16 0])
 clear hdc hnt h ht
 unfold memV at *
 have e1:decide ((c:Int) < 0)=false:=decide_eq_false (by omega)
 have u1:IntKind.u64.wrap ((L:Int) * 64)=(L:Int) * 64:=by rw [IntKind.wrap_u64];omega
 have u3:IntKind.u64.wrap (c:Int)=(c:Int):=by rw [IntKind.wrap_u64];omega
 have u4:IntKind.u64.wrap ((L:Int) - 32)=(L:Int) - 32:=by rw [IntKind.wrap_u64];omega
 have u5:IntKind.u64.wrap ((c:Int) * 64)=((64 * c:Nat):Int):=by rw [IntKind.wrap_u64];omega
 have d1:((L:Int) * 64).tdiv 64=(L:Int):=by rw [Int.mul_tdiv_cancel _ (by decide)]
 have e2:decide ((L:Int) < 32)=false:=decide_eq_false (by omega)
 have e3:decide ((L:Int) - 32 < (c:Int))=false:=decide_eq_false (by omega)
 generalize 64 * c=z at *
 go_enter Tryz.func293,Tryz.ntmps293
 go_wp2
 generalize w.alloc (.cells #[.int .i64 0, .int .i64 0, .int .u16 0] 304)=W at *
 have HB1:Hid (Below W.heap.size W W.drew):=(Below.refl _ _).drew
 have HB2:Hid (Below w.heap.size w W.drew):=HB0.out.drew
 go_cut [8] from 38 to 44 (fun v wx=>v = .int .u64 (freeW 1:Int)∧Hid (Below W.heap.size W wx))
 case first =>
  go_region_with (first | (go_at_call 65;refine (HLd.out _ HB2.out).mono ?_;rintro e w1 ⟨rfl,rfl⟩) | go_in)
  all_goals (go_wp2_with fail;go_meet;exact ⟨rfl,HB1⟩)
 case rest =>
  obtain ⟨rfl,HW⟩:=hcut
  have HWw:=hid (HB0.out.trans (HW.out.mono HB0.out.size))
  obtain ⟨ls1,exe1,per1,cs1,lsC1,hdc1,hnt1⟩:=HD.out.below HWw.out
  obtain ⟨k0,_,_,_,k4⟩:=hdc1.facts (j:=0) (by omega)
  have HHw:=hid (HH.out wc HWw.out)
  have HBc:=hid (HBk.out.below HW.out HBk.out.lt)
  clear hdc1 hnt1
  go_wp2_with (first
   | (go_at_call 350;refine HHw.out.mono ?_;rintro e w1 ⟨rfl,hb1⟩;have HB3:=hid (HWw.out.trans (hb1.mono HWw.out.size));have hk:=HBc.out.below hb1 HBc.out.lt;have hlt:=hk.lt;have c0:w1.cell? ⟨w.heap.size,0,none⟩=some (.int .i64 0):=hk.cell 0;have c1:w1.cell? ⟨w.heap.size,1,none⟩=some (.int .i64 0):=hk.cell 1;have c2:w1.cell? ⟨w.heap.size,2,none⟩=some (.int .u16 0):=hk.cell 2;have z0:w1.frozen? ⟨w.heap.size,0,none⟩=false:=hk.frozen 0;have z1:w1.frozen? ⟨w.heap.size,1,none⟩=false:=hk.frozen 1;have z2:w1.frozen? ⟨w.heap.size,2,none⟩=false:=hk.frozen 2;clear hb1 hk)
   | go_in)
  refine bodyPost_ret (v := .tuple #[.agg #[.int .i64 (-1), .int .i64 (-1), .int .u16 1], .int .i64 0]) (by simp [results,Tryz.results293,go_sem,c0,c1,c2,hlt]) rfl ⟨rfl,?_⟩
  have h1:=((HB3.out.setCell (p:=⟨w.heap.size,0,none⟩) (Nat.le_refl _) (.int .i64 (-1))).setCell (p:=⟨w.heap.size,1,none⟩) (Nat.le_refl _) (.int .i64 (-1))).setCell (p:=⟨w.heap.size,2,none⟩) (Nat.le_refl _) (.int .u16 1)
  exact h1.alloc h1.size _
end
section
open Go.RowKit
section
variable {a:DA} {L T:Nat} {w:World} {S:Fp} {cur:Nat→Nat} {F:Nat}
theorem look_undiv (h:Dev a L T w S cur F) (ht:Tab w) (c g:Nat) (hc:c+32≤L) (hg0:0 < g) (hg:g < 65536) (hv:cur (8 * c)=freeW g) :
  Calls Tryz.prog 293 #[memV a, .int .i64 (c:Int)] w fun e w'=>e = .returned (.tuple #[.agg #[.int .i64 (-1), .int .i64 (-1), .int .u16 (g:Int)], .int .i64 0])∧Below w.heap.size w w' :=
 look_core h c hc (freeW g) (-1) (-1) (g:Int) hv (fun W hW=>header_undiv g hg0 hg W (ht.below hW))
theorem look_cls (h:Dev a L T w S cur F) (ht:Tab w) (hp:Pay w) (c cl g:Nat) (hc:c+32≤L) (hcl:cl < 5) (hg0:0 < g) (hg:g < 65536) (hv:cur (8 * c)=hdrW cl g) :
  Calls Tryz.prog 293 #[memV a, .int .i64 (c:Int)] w fun e w'=>e = .returned (.tuple #[.agg #[.int .i64 (cl:Int), .int .i64 0, .int .u16 (g:Int)], .int .i64 0])∧Below w.heap.size w w' :=
 look_core h c hc (hdrW cl g) (cl:Int) 0 (g:Int) hv (fun W hW=>header_cls cl g hcl hg0 hg W (ht.below hW) (hp.below hW))
end
def chNone:Value := .agg #[.nilIface, .int .i64 0, .int .i64 0, .int .i64 0, .int .u16 0]
section
variable {a:DA} {L T:Nat} {w:World} {S:Fp} {cur:Nat→Nat} {F:Nat}
theorem chOpen_undiv (h:Dev a L T w S cur F) (ht:Tab w) (c g:Nat) (hc:c+32≤L) (hg0:0 < g) (hg:g < 65536) (hv:cur (8 * c)=freeW g) :
  Calls Tryz.prog 195 #[memV a, .int .i64 (c:Int)] w fun e w'=>e = .returned (.tuple #[chNone, .int .i64 8])∧Below w.heap.size w w':=by
 have HB0:Hid (Below w.heap.size w (w.alloc (.cells #[.nilIface, .int .i64 0, .int .i64 0, .int .i64 0, .int .u16 0] 306))):=(Below.refl _ _).alloc (Nat.le_refl _) _
 have HL:=hid (look_undiv (h.below HB0.out) (ht.below HB0.out) c g hc hg0 hg hv)
 clear h ht hv
 unfold chNone
 unfold memV at *
 have HK0:=hid (Blk.new w 306 #[.nilIface, .int .i64 0, .int .i64 0, .int .i64 0, .int .u16 0])
 go_enter Tryz.func195,Tryz.ntmps195
 go_wp2_with fail
 refine HL.out.mono ?_
 rintro e w1 ⟨rfl,hb1⟩
 have HB1:=hid (HB0.out.trans (hb1.mono HB0.out.size))
 have hk1:=HK0.out.below hb1 HK0.out.lt
 have hlt:=hk1.lt
 have c0:w1.cell? ⟨w.heap.size,0,none⟩=some (.nilIface):=hk1.cell 0
 have z0:w1.frozen? ⟨w.heap.size,0,none⟩=false:=hk1.frozen 0
 have c1:w1.cell? ⟨w.heap.size,1,none⟩=some (.int .i64 0):=hk1.cell 1
 have z1:w1.frozen? ⟨w.heap.size,1,none⟩=false:=hk1.frozen 1
 have c2:w1.cell? ⟨w.heap.size,2,none⟩=some (.int .i64 0):=hk1.cell 2
 have z2:w1.frozen? ⟨w.heap.size,2,none⟩=false:=hk1.frozen 2
 have c3:w1.cell? ⟨w.heap.size,3,none⟩=some (.int .i64 0):=hk1.cell 3
 have z3:w1.frozen? ⟨w.heap.size,3,none⟩=false:=hk1.frozen 3
 have c4:w1.cell? ⟨w.heap.size,4,none⟩=some (.int .u16 0):=hk1.cell 4
 have z4:w1.frozen? ⟨w.heap.size,4,none⟩=false:=hk1.frozen 4
 have hlt1:w.heap.size < w1.heap.size:=hlt
 clear hb1 hk1 HL
 go_wp2
 have n01:(⟨w.heap.size,0,none⟩:Addr)≠⟨w.heap.size,1,none⟩:=by simp
 have n02:(⟨w.heap.size,0,none⟩:Addr)≠⟨w.heap.size,2,none⟩:=by simp
 have n03:(⟨w.heap.size,0,none⟩:Addr)≠⟨w.heap.size,3,none⟩:=by simp
 have n04:(⟨w.heap.size,0,none⟩:Addr)≠⟨w.heap.size,4,none⟩:=by simp
 have n12:(⟨w.heap.size,1,none⟩:Addr)≠⟨w.heap.size,2,none⟩:=by simp
 have n13:(⟨w.heap.size,1,none⟩:Addr)≠⟨w.heap.size,3,none⟩:=by simp
 have n14:(⟨w.heap.size,1,none⟩:Addr)≠⟨w.heap.size,4,none⟩:=by simp
 have n23:(⟨w.heap.size,2,none⟩:Addr)≠⟨w.heap.size,3,none⟩:=by simp
 have n24:(⟨w.heap.size,2,none⟩:Addr)≠⟨w.heap.size,4,none⟩:=by simp
 have n34:(⟨w.heap.size,3,none⟩:Addr)≠⟨w.heap.size,4,none⟩:=by simp
 refine bodyPost_ret (v := .tuple #[.agg #[.nilIface, .int .i64 0, .int .i64 0, .int .i64 0, .int .u16 0], .int .i64 8]) (by simp [results,Tryz.results195,go_sem,c0,c1,c2,c3,c4,hlt]) rfl ⟨rfl,?_⟩
 have h1:=(((((HB1.out.setCell (p:=⟨w.heap.size,0,none⟩) (Nat.le_refl _) (.nilIface)).setCell (p:=⟨w.heap.size,1,none⟩) (Nat.le_refl _) (.int .i64 0)).setCell (p:=⟨w.heap.size,2,none⟩) (Nat.le_refl _) (.int .i64 0)).setCell (p:=⟨w.heap.size,3,none⟩) (Nat.le_refl _) (.int .i64 0)).setCell (p:=⟨w.heap.size,4,none⟩) (Nat.le_refl _) (.int .u16 0))
 exact h1.alloc h1.size _
theorem chOpen_cls (h:Dev a L T w S cur F) (ht:Tab w) (hp:Pay w) (c cl g:Nat) (hc:c+32≤L) (hcl:cl < 5) (hg0:0 < g) (hg:g < 65536) (hv:cur (8 * c)=hdrW cl g) :
  Calls Tryz.prog 195 #[memV a, .int .i64 (c:Int)] w fun e w'=>e = .returned (.tuple #[chV a c cl 0 g, .int .i64 0])∧Below w.heap.size w w':=by
 have HB0:Hid (Below w.heap.size w (w.alloc (.cells #[.nilIface, .int .i64 0, .int .i64 0, .int .i64 0, .int .u16 0] 306))):=(Below.refl _ _).alloc (Nat.le_refl _) _
 have HL:=hid (look_cls (h.below HB0.out) (ht.below HB0.out) (hp.below HB0.out) c cl g hc hcl hg0 hg hv)
 clear h ht hv hp
 unfold chV
 have d0:decide ((cl:Int) < 0)=false:=decide_eq_false (by omega)
 unfold memV at *
 have HK0:=hid (Blk.new w 306 #[.nilIface, .int .i64 0, .int .i64 0, .int .i64 0, .int .u16 0])
 go_enter Tryz.func195,Tryz.ntmps195
 go_wp2_with fail
 refine HL.out.mono ?_
 rintro e w1 ⟨rfl,hb1⟩
 have HB1:=hid (HB0.out.trans (hb1.mono HB0.out.size))
 have hk1:=HK0.out.below hb1 HK0.out.lt
 have hlt:=hk1.lt
 have c0:w1.cell? ⟨w.heap.size,0,none⟩=some (.nilIface):=hk1.cell 0
 have z0:w1.frozen? ⟨w.heap.size,0,none⟩=false:=hk1.frozen 0
 have c1:w1.cell? ⟨w.heap.size,1,none⟩=some (.int .i64 0):=hk1.cell 1
 have z1:w1.frozen? ⟨w.heap.size,1,none⟩=false:=hk1.frozen 1
 have c2:w1.cell? ⟨w.heap.size,2,none⟩=some (.int .i64 0):=hk1.cell 2
 have z2:w1.frozen? ⟨w.heap.size,2,none⟩=false:=hk1.frozen 2
 have c3:w1.cell? ⟨w.heap.size,3,none⟩=some (.int .i64 0):=hk1.cell 3
 have z3:w1.frozen? ⟨w.heap.size,3,none⟩=false:=hk1.frozen 3
 have c4:w1.cell? ⟨w.heap.size,4,none⟩=some (.int .u16 0):=hk1.cell 4
 have z4:w1.frozen? ⟨w.heap.size,4,none⟩=false:=hk1.frozen 4
 have hlt1:w.heap.size < w1.heap.size:=hlt
 clear hb1 hk1 HL
 go_wp2
 have n01:(⟨w.heap.size,0,none⟩:Addr)≠⟨w.heap.size,1,none⟩:=by simp
 have n02:(⟨w.heap.size,0,none⟩:Addr)≠⟨w.heap.size,2,none⟩:=by simp
 have n03:(⟨w.heap.size,0,none⟩:Addr)≠⟨w.heap.size,3,none⟩:=by simp
 have n04:(⟨w.heap.size,0,none⟩:Addr)≠⟨w.heap.size,4,none⟩:=by simp
 have n12:(⟨w.heap.size,1,none⟩:Addr)≠⟨w.heap.size,2,none⟩:=by simp
 have n13:(⟨w.heap.size,1,none⟩:Addr)≠⟨w.heap.size,3,none⟩:=by simp
 have n14:(⟨w.heap.size,1,none⟩:Addr)≠⟨w.heap.size,4,none⟩:=by simp
 have n23:(⟨w.heap.size,2,none⟩:Addr)≠⟨w.heap.size,3,none⟩:=by simp
 have n24:(⟨w.heap.size,2,none⟩:Addr)≠⟨w.heap.size,4,none⟩:=by simp
 have n34:(⟨w.heap.size,3,none⟩:Addr)≠⟨w.heap.size,4,none⟩:=by simp
 refine bodyPost_ret (v := .tuple #[.agg #[.iface 58 (.pointer (some ⟨a.th 0,0,none⟩)), .int .i64 (c:Int), .int .i64 (cl:Int), .int .i64 0, .int .u16 (g:Int)], .int .i64 0]) (by simp [results,Tryz.results195,go_sem,c0,c1,c2,c3,c4,hlt]) rfl ⟨rfl,?_⟩
 have h1:=(((((HB1.out.setCell (p:=⟨w.heap.size,0,none⟩) (Nat.le_refl _) (.iface 58 (.pointer (some ⟨a.th 0,0,none⟩)))).setCell (p:=⟨w.heap.size,1,none⟩) (Nat.le_refl _) (.int .i64 (c:Int))).setCell (p:=⟨w.heap.size,2,none⟩) (Nat.le_refl _) (.int .i64 (cl:Int))).setCell (p:=⟨w.heap.size,3,none⟩) (Nat.le_refl _) (.int .i64 0)).setCell (p:=⟨w.heap.size,4,none⟩) (Nat.le_refl _) (.int .u16 (g:Int)))
 exact h1.alloc h1.size _
end
end
section
open Go.RowKit
structure ChW (cur:Nat→Nat) (ln cl g V:Nat) (bs:Nat→BK):Prop where
 hdr:cur (8 * ln)=hdrW cl g
 cls:cl < 5
 g0:0 < g
 g1:g < 65536
 bits:cur (8 * ln+1)=V
 v64:V < 18446744073709551616
 zero:∀ j,2≤j→j < 8→cur (8 * ln+j)=0
 inn:∀ i,i < perC cl→(bs i).In
 good:∀ i,i < perC cl→(bs i).good=true
 word:∀ i,i < perC cl→cur (8 * ln+offB cl i)=(bs i).w
 bit:∀ i,i < perC cl→bitAt V i=decide ((bs i).st≠176)
 top:V < 2 ^ perC cl
def fndC (ln cl off:Nat):Option Nat:=if off < 64 * ln∨64 * ln+2048≤off then none else findC cl ((off - 64 * ln) / 8)
def fndR (ln cl off:Nat):Value:=match fndC ln cl off with
 | some i => .tuple #[.int .i64 (i:Int), .bool true]
 | none => .tuple #[.int .i64 0, .bool false]
theorem fndC_some {ln cl off i:Nat} (h:fndC ln cl off=some i):i < perC cl∧64 * ln≤off∧off / 8=8 * ln+offB cl i+1:=by
 unfold fndC at h
 split at h
 ·cases h
 ·obtain ⟨h1,h2⟩:=findC_some h
  refine ⟨h1,by omega,by omega⟩
section
theorem chFind_any (a:DA) (ln cl g off:Nat) (hl:ln≤1000000) (hc:cl < 5) (ho:off < 18446744073709551616) (w:World) (hp:Pay w) :
  Calls Tryz.prog 294 #[chV a ln cl 0 g, .int .u64 (off:Int)] w fun e w'=>e = .returned (fndR ln cl off)∧Below w.heap.size w w':=by
 have hb0:Below w.heap.size w (w.alloc (.cells (chCells a ln cl g) 306)):=(Below.refl _ _).alloc (Nat.le_refl _) _
 have HB0:=hid hb0
 have HSt:=hid (start_any ln hl)
 have HFd:Hid (∀ x:Nat,x≤1000000000→Calls Tryz.prog 314 #[.int .i64 (cl:Int), .int .i64 (x:Int)] (w.alloc (.cells (chCells a ln cl g) 306)) fun e w'=>e = .returned (findR cl x)∧(w.alloc (.cells (chCells a ln cl g) 306))=w'):=hid (fun x hx=>szFind_any cl x hc hx _ (hp.below hb0))
 have hq:=eqMem (some ⟨a.th 0,0,none⟩)
 clear hp hb0
 unfold chV
 unfold chCells memV at *
 by_cases h1:off < 64 * ln
 ·have HR:Hid (fndR ln cl off = .tuple #[.int .i64 0, .bool false]):=hid (by unfold fndR fndC;rw [if_pos (.inl h1)])
  have d1:decide ((off:Int) < ((64 * ln:Nat):Int))=true:=decide_eq_true (by omega)
  generalize fndR ln cl off=rr at *
  have hz:64 * ln < 9000000000:=by omega
  generalize 64 * ln=z at *
  go_enter Tryz.func294,Tryz.ntmps294
  go_wp2_with (go_at_call 339;refine (HSt.out _).mono ?_;rintro e w1 ⟨rfl,rfl⟩)
  go_ret2
  exact ⟨by rw [HR.out];rfl,HB0.out⟩
 ·have d1:decide ((off:Int) < ((64 * ln:Nat):Int))=false:=decide_eq_false (by omega)
  have d1n:decide (off < 64 * ln)=false:=decide_eq_false h1
  obtain ⟨y,hy⟩:∃ y,off - 64 * ln=y:=⟨_,rfl⟩
  have u1:IntKind.u64.wrap ((off:Int) - ((64 * ln:Nat):Int))=(y:Int):=by rw [IntKind.wrap_u64];omega
  by_cases h2:64 * ln+2048≤off
  ·have HR:Hid (fndR ln cl off = .tuple #[.int .i64 0, .bool false]):=hid (by unfold fndR fndC;rw [if_pos (.inr h2)])
   have d2:decide (2048≤(y:Int))=true:=decide_eq_true (by omega)
   generalize fndR ln cl off=rr at *
   have hz:64 * ln < 9000000000:=by omega
   clear hy h1 h2
   generalize 64 * ln=z at *
   go_enter Tryz.func294,Tryz.ntmps294
   go_wp2_with (go_at_call 339;refine (HSt.out _).mono ?_;rintro e w1 ⟨rfl,rfl⟩)
   go_ret2
   exact ⟨by rw [HR.out];rfl,HB0.out⟩
  ·have HR:Hid (fndR ln cl off=findR cl (y / 8)):=hid (by unfold fndR fndC findR;rw [if_neg (by omega),hy];rfl)
   have d2:decide (2048≤(y:Int))=false:=decide_eq_false (by omega)
   have hy8:y < 2048:=by omega
   have HF8:=hid (HFd.out (y / 8) (by omega))
   have u2:(y:Int) / 8=((y / 8:Nat):Int):=by omega
   have u3:IntKind.i64.wrap ((y / 8:Nat):Int)=((y / 8:Nat):Int):=IntWalk.i64_in _ (by omega)
   have hyq:y / 8 < 256:=by omega
   generalize fndR ln cl off=rr at *
   have hz:64 * ln < 9000000000:=by omega
   clear hy h1 h2 HFd
   generalize 64 * ln=z at *
   generalize y / 8=q at *
   have HFq:Hid (∃ (k:Int) (b:Bool),findR cl q = .tuple #[.int .i64 k, .bool b]):=hid (by
    unfold findR
    cases findC cl q with
    | none=>exact ⟨0,false,rfl⟩
    | some i=>exact ⟨(i:Int),true,rfl⟩)
   obtain ⟨fk,fb,hfq⟩:=HFq.out
   rw [hfq] at HF8 HR
   clear hfq HFq
   go_enter Tryz.func294,Tryz.ntmps294
   go_wp2_with (first
    | (go_at_call 339;refine (HSt.out _).mono ?_;rintro e w1 ⟨rfl,rfl⟩)
    | (go_at_call 314;refine HF8.out.mono ?_;rintro e w1 ⟨rfl,rfl⟩))
   go_ret2
   exact ⟨by rw [HR.out];rfl,HB0.out⟩
end
end
section
open Go.RowKit
theorem heapFormat_any {a:DA} {L T:Nat} {w:World} {S:Fp} {cur:Nat→Nat} (h:Dev a L T w S cur 0) (ht:Tab w) (hg:¬ S 1) (s n K:Nat) (hn:32≤n) (hs:s+n≤L) (hK:n / 32=K) (hT:T+3 * K≤1000000000) :
  Calls Tryz.prog 75 #[memV a, .int .i64 (s:Int), .int .i64 (n:Int)] w (RetDev a L (T+3 * K) w S (arC cur s K) 0 (.int .i64 0)):=by
 have HA:=hid (arenaFormat_any h ht hg s n K hn hs hK hT)
 clear h ht
 unfold memV at *
 go_enter Tryz.func75,Tryz.ntmps75
 go_wp2_with fail
 refine HA.out.mono ?_
 rintro e w1 ⟨rfl,h1⟩
 have H1:=hid h1
 clear h1
 go_wp2
 go_ret
 exact ⟨rfl,H1.out⟩
end
end Go.Proofs.YtfkjjoglnmeciaaGreatDoor
