/- The walks and laws that the claim leans on, part 22. -/
import Derived.Test.YtfkjjoglnmeciaaGreatDoorJan
set_option maxRecDepth 100000
set_option maxHeartbeats 16000000
namespace Go.Proofs.YtfkjjoglnmeciaaGreatDoor
open Go.Lib (hid)
section
open Go.RowKit
theorem arenaValid_any {a:DA} {L T:Nat} {w:World} {S:Fp} {cur:Nat→Nat} {F:Nat} (h:Dev a L T w S cur F) (s n:Nat) (hn:32≤n) (hs:s+n≤L) :
  Calls Tryz.prog 283 #[memV a, .int .i64 (s:Int), .int .i64 (n:Int)] w fun e w'=>e = .returned (.bool true)∧w=w':=by
 obtain ⟨ls,exe,per,cs,lsC,hdc,hnt⟩:=h
 have hL:=hdc.hL
 obtain ⟨f0,f2,_,_,_⟩:=hdc.facts (j:=0) (by omega)
 clear hdc hnt
 have hq:=eqMem (some ⟨a.th 0,0,none⟩)
 have hmS:=methSize (some ⟨a.th 0,0,none⟩)
 unfold memV
 have e1:decide ((s:Int) < 0)=false:=decide_eq_false (by omega)
 have e2:decide ((n:Int) < 32)=false:=decide_eq_false (by omega)
 have u1:IntKind.u64.wrap ((L:Int) * 64)=(L:Int) * 64:=by rw [IntKind.wrap_u64];omega
 have u2:IntKind.u64.wrap (n:Int)=(n:Int):=by rw [IntKind.wrap_u64];omega
 have u3:IntKind.u64.wrap (s:Int)=(s:Int):=by rw [IntKind.wrap_u64];omega
 have u4:IntKind.u64.wrap ((L:Int) - (s:Int))=(L:Int) - (s:Int):=by rw [IntKind.wrap_u64];omega
 have d1:((L:Int) * 64).tdiv 64=(L:Int):=by rw [Int.mul_tdiv_cancel _ (by decide)]
 have d2:(n:Int).tdiv 32=(n:Int) / 32:=by rw [Int.tdiv_eq_ediv_of_nonneg (by omega)]
 have e3:decide ((L:Int) < (s:Int))=false:=decide_eq_false (by omega)
 have e4:decide ((L:Int) - (s:Int) < (n:Int))=false:=decide_eq_false (by omega)
 have u5:IntKind.u64.wrap ((n:Int) / 32)=(n:Int) / 32:=by rw [IntKind.wrap_u64];omega
 have u6:IntKind.u64.wrap ((n:Int) / 32 * 32)=(n:Int) / 32 * 32:=by rw [IntKind.wrap_u64];omega
 have u7:IntKind.u64.wrap ((s:Int)+(n:Int) / 32 * 32)=(s:Int)+(n:Int) / 32 * 32:=by rw [IntKind.wrap_u64];omega
 have e5:decide ((s:Int)+(n:Int) / 32 * 32≤4096)=true:=decide_eq_true (by omega)
 go_enter Tryz.func283,Tryz.ntmps283
 go_wp2
 go_ret
 exact ⟨rfl,rfl⟩
def arC (cur:Nat→Nat) (s:Nat):Nat→Nat→Nat
 | 0=>cur
 | k+1=>wrS (arC cur s k) [(64 * (s+32 * k),freeW 1)]
def AreI (a:DA) (L T:Nat) (w wr:World) (S:Fp) (cur:Nat→Nat) (s k:Nat):Prop:=∃ S',Dev a L (T+3 * k) wr S' (arC cur s k) 0∧Chg S w wr∧Grew S S' w
theorem freeW_lt (o:Nat) (ho:o < 65536):freeW o < 18446744073709551616:=sealW_lt _ (by omega)
theorem arenaFormat_any {a:DA} {L T:Nat} {w:World} {S:Fp} {cur:Nat→Nat} (h:Dev a L T w S cur 0) (ht:Tab w) (hg:¬ S 1) (s n K:Nat) (hn:32≤n) (hs:s+n≤L) (hK:n / 32=K) (hT:T+3 * K≤1000000000) :
  Calls Tryz.prog 171 #[memV a, .int .i64 (s:Int), .int .i64 (n:Int)] w (RetDev a L (T+3 * K) w S (arC cur s K) 0 (.int .i64 0)):=by
 have HV:=hid (arenaValid_any h s n hn hs)
 have HI0:Hid (AreI a L T w w S cur s 0):=⟨S,h,Chg.refl _ _,Grew.refl _ _⟩
 have HG:=hid hg
 have HT:=hid ht
 obtain ⟨ls,exe,per,cs,lsC,hdc,hnt⟩:=h
 have hL:=hdc.hL
 obtain ⟨f0,_,_,_,g2⟩:=hdc.facts (j:=0) (by omega)
 have hmE:=methErr (some ⟨a.th 0,0,none⟩)
 have d2:(n:Int).tdiv 32=(K:Int):=by rw [Int.tdiv_eq_ediv_of_nonneg (by omega)];omega
 have d3:(n:Int) / 32=(K:Int):=by omega
 have hK32:K * 32≤n:=by omega
 clear hdc hnt ht hg hK
 unfold memV at *
 go_enter Tryz.func171,Tryz.ntmps171
 go_wp2_with (first
  | (go_at_call 283;refine HV.out.mono ?_;rintro e w1 ⟨rfl,rfl⟩)
  | go_in)
 clear f0 g2 HV
 go_loopw [24] (fun i wr=>∃ (k:Nat),k≤K∧i = .int .i64 k∧Hid (AreI a L T w wr S cur s k)) (fun i _=>K - (RowKit.intOf i).toNat)
 case atStart=>exact ⟨0,Nat.zero_le _,rfl,HI0⟩
 case round =>
  clear HI0
  obtain ⟨k,hk,rfl,H⟩:=hrel
  by_cases hlt:k < K
  ·obtain ⟨S1,hd,hc,hgr⟩:=H.out
   have HC:=hid (clear_any (s+32 * k) 1 (by omega) (by omega) (by omega) wr (HT.out.chg hc HG.out))
   have HR:Hid (∀ (A:Option Addr) (m c:Nat) (p:List Ins) (w1:World),IsStores [(64 * (s+32 * k),freeW 1)] p→w1.ownsRow wr.heap.size 284 3 (.slice A m c) m (insCells p)→Below wr.heap.size wr w1 →
     Calls Tryz.prog 78 #[.slice A m c,memV a] w1 (fun e w2=>e = .returned (.int .i64 0)∧AreI a L T w w2 S cur s (k+1))):=fun A m c p w1 hp ho hb=>by
    refine (run_stores (hd.below hb) ho hd.lt hp (fun e he=>by simp only [List.mem_singleton] at he;subst he;exact ⟨by omega,by omega,freeW_lt 1 (by omega)⟩) (by simp) (by simp;omega)).mono ?_
    intro e w2 h2
    obtain ⟨he,S2,hd2,hc2,hg2⟩:=RetDev.then_ hc hgr (RetDev.back hb h2)
    exact ⟨he,S2,hd2.more (by simp;omega) (by omega),hc2,hg2⟩
   have e7:((s+32 * k:Nat):Int)=(s:Int)+(k:Int) * 32:=by omega
   rw [e7] at HC
   generalize 64 * (s+32 * k)=z at *
   clear hd hc hgr e7 H
   unfold memV at *
   go_wp2_with (first
    | (go_at_call 284;refine HC.out.mono ?_;rintro e w1 ⟨A1,m1,c1,p1,rfl,hp1,ho1,hb1⟩;have HRR:=hid (HR.out A1 m1 c1 p1 w1 hp1 ho1 hb1);clear hp1 ho1 hb1)
    | (go_at_call 78;refine HRR.out.mono ?_;rintro e w2 ⟨rfl,h2⟩;have HZ:=hid h2;clear h2)
    | go_in)
   go_roundw
   case rel =>
    repeat apply Exists.intro
    refine ⟨?_,rfl⟩
    exact ⟨k+1,by omega,by go_num,HZ⟩
   case measure=>simp [RowKit.intOf];omega
  ·obtain rfl:k=K:=by omega
   obtain ⟨S1,hd,hc,hgr⟩:=H.out
   have HZ:=hid (show ∃ S',Dev a L (T+3 * k) wr S' (arC cur s k) 0∧Chg S w wr∧Grew S S' w from H.out)
   obtain ⟨ls,exe,per,cs,lsC,hdc,hnt⟩:=hd
   obtain ⟨f0,_,_,_,g2⟩:=hdc.facts (j:=0) (by omega)
   clear hdc hnt hc hgr H
   go_wp2
   go_ret
   exact ⟨rfl,HZ.out⟩
end
section
open Go.RowKit
theorem header_free (w:World) (ht:Tab w) :
  Calls Tryz.prog 350 #[.int .u64 (freeW 1:Int)] w fun e w'=>e = .returned (.tuple #[.agg #[.int .i64 (-1), .int .i64 (-1), .int .u16 1], .bool true])∧Below w.heap.size w w':=by
 have HS:=hid (fun (W:World) (hW:Below w.heap.size w W)=>seal_any 3305111553 (by omega) W (ht.below hW))
 have hf:freeW 1=sealW 3305111553:=rfl
 have hs:IntKind.u32.wrap (sealW 3305111553:Int)=3305111553:=by
  rw [IntKind.wrap_u32']
  unfold sealW
  omega
 rw [hf]
 generalize sealW 3305111553=z at *
 have HB0:Hid (∀ x,Below w.heap.size w (w.alloc x)):=fun x=>(Below.refl _ _).alloc (Nat.le_refl _) x
 have b1:bits .and .u32 50432 15=0:=by decide
 have b2:bits .and .u32 3152 15=0:=by decide
 have b3:IntKind.u16.wrap 3305111553=1:=by decide
 have q1:((z:Int) == (z:Int))=true:=by simp
 clear ht hf
 go_enter Tryz.func350,Tryz.ntmps350
 go_wp2_with (go_at_call 374;refine (HS.out _ (HB0.out _)).mono ?_;rintro e w1 ⟨rfl,hb1⟩;have HB1:=hid hb1;have hk:=(Blk.new w 304 #[.int .i64 0, .int .i64 0, .int .u16 0]).below hb1 (Blk.new w 304 #[.int .i64 0, .int .i64 0, .int .u16 0]).lt;have hlt:=hk.lt;have c0:w1.cell? ⟨w.heap.size,0,none⟩=some (.int .i64 0):=hk.cell 0;have c1:w1.cell? ⟨w.heap.size,1,none⟩=some (.int .i64 0):=hk.cell 1;have c2:w1.cell? ⟨w.heap.size,2,none⟩=some (.int .u16 0):=hk.cell 2;have z0:w1.frozen? ⟨w.heap.size,0,none⟩=false:=hk.frozen 0;have z1:w1.frozen? ⟨w.heap.size,1,none⟩=false:=hk.frozen 1;have z2:w1.frozen? ⟨w.heap.size,2,none⟩=false:=hk.frozen 2;clear hb1 hk)
 have n01:(⟨w.heap.size,0,none⟩:Addr)≠⟨w.heap.size,1,none⟩:=by simp
 have n02:(⟨w.heap.size,0,none⟩:Addr)≠⟨w.heap.size,2,none⟩:=by simp
 have n12:(⟨w.heap.size,1,none⟩:Addr)≠⟨w.heap.size,2,none⟩:=by simp
 refine bodyPost_ret (v := .tuple #[.agg #[.int .i64 (-1), .int .i64 (-1), .int .u16 1], .bool true]) (by simp [results,Tryz.results350,go_sem,c0,c1,c2,hlt]) rfl ⟨rfl,?_⟩
 have h0:=(HB0.out (.cells #[.int .i64 0, .int .i64 0, .int .u16 0] 304)).trans (HB1.out.mono (by simp))
 have h1:=((h0.setCell (p:=⟨w.heap.size,0,none⟩) (Nat.le_refl _) (.int .i64 (-1))).setCell (p:=⟨w.heap.size,1,none⟩) (Nat.le_refl _) (.int .i64 (-1))).setCell (p:=⟨w.heap.size,2,none⟩) (Nat.le_refl _) (.int .u16 1)
 exact h1.alloc h1.size _
end
section
open Go.RowKit
theorem look_free {a:DA} {L T:Nat} {w:World} {S:Fp} {cur:Nat→Nat} {F:Nat} (h:Dev a L T w S cur F) (ht:Tab w) (c:Nat) (hc:c+32≤L) (hv:cur (8 * c)=freeW 1) :
  Calls Tryz.prog 293 #[memV a, .int .i64 (c:Int)] w fun e w'=>e = .returned (.tuple #[.agg #[.int .i64 (-1), .int .i64 (-1), .int .u16 1], .int .i64 0])∧Below w.heap.size w w':=by
 have HLd:=hid (load_at h (64 * c) (freeW 1) (by omega) (by omega) (by rw [show 64 * c / 8=8 * c by omega];exact hv))
 have HD:=hid h
 have HH:=hid (fun (W:World) (hW:Below w.heap.size w W)=>header_free W (ht.below hW))
 have hm:=methLoad (some ⟨a.th 0,0,none⟩)
 have hna:=aheadLoad ⟨a.th 0,0,none⟩
 have hmE:=methErr (some ⟨a.th 0,0,none⟩)
 have hmS:=methSize (some ⟨a.th 0,0,none⟩)
 have hq:=eqMem (some ⟨a.th 0,0,none⟩)
 have HB0:Hid (Below w.heap.size w (w.alloc (.cells #[.int .i64 0, .int .i64 0, .int .u16 0] 304))):=(Below.refl _ _).alloc (Nat.le_refl _) _
 obtain ⟨ls,exe,per,cs,lsC,hdc,hnt⟩:=h.below HB0.out
 have hL:=hdc.hL
 obtain ⟨f0,f2,_,_,f4⟩:=hdc.facts (j:=0) (by omega)
 have HBk:=hid (Blk.new w 304 #[.int .i64 0, .int .i64 0, .int .u16 0])
 clear hdc hnt h ht
 unfold memV at *
 have e1:decide ((c:Int) < 0)=false:=decide_eq_false (by omega)
 have u1:IntKind.u64.wrap ((L:Int) * 64)=(L:Int) * 64:=by rw [IntKind.wrap_u64];omega
 have u3:IntKind.u64.wrap (c:Int)=(c:Int):=by rw [IntKind.wrap_u64];omega
 have u4:IntKind.u64.wrap ((L:Int) - 32)=(L:Int) - 32:=by rw [IntKind.wrap_u64];omega
 have u5:IntKind.u64.wrap ((c:Int) * 64)=((64 * c:Nat):Int):=by rw [IntKind.wrap_u64];omega
 have d1:((L:Int) * 64).tdiv 64=(L:Int):=by rw [Int.mul_tdiv_cancel _ (by decide)]
 have e2:decide ((L:Int) < 32)=false:=decide_eq_false (by omega)
 have e3:decide ((L:Int) - 32 < (c:Int))=false:=decide_eq_false (by omega)
 generalize 64 * c=z at *
 go_enter Tryz.func293,Tryz.ntmps293
 go_wp2
 generalize w.alloc (.cells #[.int .i64 0, .int .i64 0, .int .u16 0] 304)=W at *
 have HB1:Hid (Below W.heap.size W W.drew):=(Below.refl _ _).drew
 have HB2:Hid (Below w.heap.size w W.drew):=HB0.out.drew
 go_cut [8] from 38 to 44 (fun v wx=>v = .int .u64 (freeW 1:Int)∧Hid (Below W.heap.size W wx))
 case first =>
  go_region_with (first | (go_at_call 65;refine (HLd.out _ HB2.out).mono ?_;rintro e w1 ⟨rfl,rfl⟩) | go_in)
  all_goals (go_wp2_with fail;go_meet;exact ⟨rfl,HB1⟩)
 case rest =>
  obtain ⟨rfl,HW⟩:=hcut
  have HWw:=hid (HB0.out.trans (HW.out.mono HB0.out.size))
  obtain ⟨ls1,exe1,per1,cs1,lsC1,hdc1,hnt1⟩:=HD.out.below HWw.out
  obtain ⟨k0,_,_,_,k4⟩:=hdc1.facts (j:=0) (by omega)
  have HHw:=hid (HH.out wc HWw.out)
  have HBc:=hid (HBk.out.below HW.out HBk.out.lt)
  clear hdc1 hnt1
  go_wp2_with (first
   | (go_at_call 350;refine HHw.out.mono ?_;rintro e w1 ⟨rfl,hb1⟩;have HB3:=hid (HWw.out.trans (hb1.mono HWw.out.size));have hk:=HBc.out.below hb1 HBc.out.lt;have hlt:=hk.lt;have c0:w1.cell? ⟨w.heap.size,0,none⟩=some (.int .i64 0):=hk.cell 0;have c1:w1.cell? ⟨w.heap.size,1,none⟩=some (.int .i64 0):=hk.cell 1;have c2:w1.cell? ⟨w.heap.size,2,none⟩=some (.int .u16 0):=hk.cell 2;have z0:w1.frozen? ⟨w.heap.size,0,none⟩=false:=hk.frozen 0;have z1:w1.frozen? ⟨w.heap.size,1,none⟩=false:=hk.frozen 1;have z2:w1.frozen? ⟨w.heap.size,2,none⟩=false:=hk.frozen 2;clear hb1 hk)
   | go_in)
  refine bodyPost_ret (v := .tuple #[.agg #[.int .i64 (-1), .int .i64 (-1), .int .u16 1], .int .i64 0]) (by simp [results,Tryz.results293,go_sem,c0,c1,c2,hlt]) rfl ⟨rfl,?_⟩
  have h1:=((HB3.out.setCell (p:=⟨w.heap.size,0,none⟩) (Nat.le_refl _) (.int .i64 (-1))).setCell (p:=⟨w.heap.size,1,none⟩) (Nat.le_refl _) (.int .i64 (-1))).setCell (p:=⟨w.heap.size,2,none⟩) (Nat.le_refl _) (.int .u16 1)
  exact h1.alloc h1.size _
end
section
open Go.RowKit
theorem heapFormat_any {a:DA} {L T:Nat} {w:World} {S:Fp} {cur:Nat→Nat} (h:Dev a L T w S cur 0) (ht:Tab w) (hg:¬ S 1) (s n K:Nat) (hn:32≤n) (hs:s+n≤L) (hK:n / 32=K) (hT:T+3 * K≤1000000000) :
  Calls Tryz.prog 75 #[memV a, .int .i64 (s:Int), .int .i64 (n:Int)] w (RetDev a L (T+3 * K) w S (arC cur s K) 0 (.int .i64 0)):=by
 have HA:=hid (arenaFormat_any h ht hg s n K hn hs hK hT)
 clear h ht
 unfold memV at *
 go_enter Tryz.func75,Tryz.ntmps75
 go_wp2_with fail
 refine HA.out.mono ?_
 rintro e w1 ⟨rfl,h1⟩
 have H1:=hid h1
 clear h1
 go_wp2
 go_ret
 exact ⟨rfl,H1.out⟩
end
section
open Go.RowKit
theorem infoPlace:(Tryz.prog.info? 408).map (fun i=>(i.zero,i.size,i.bytes))=some (some (.agg #[.int .i64 0, .int .i64 0, .int .i64 0, .bool false]),4,32):=by kernel_rfl
def plCells (s:Nat) (k:Nat):List Value:=(List.range k).flatMap fun j=>[.int .i64 ((s+32 * j:Nat):Int), .int .i64 (-1), .int .i64 (-1), .bool false]
theorem plCells_succ (s k:Nat):plCells s (k+1)=plCells s k++[.int .i64 ((s+32 * k:Nat):Int), .int .i64 (-1), .int .i64 (-1), .bool false]:=by simp [plCells,List.range_succ]
def SetIs (a:DA) (s k:Nat) (w:World) (base g:Nat):Prop:=∃ A m c,Blk w g 406 #[memV a, .slice A m c]∧m=k∧w.ownsRow base 408 4 (.slice A m c) m (plCells s k)
def AopS (w w1:World) (A:Option Addr) (m c:Nat) (w':World):Prop:=w'.cell? ⟨w.heap.size,1,none⟩=some (.slice A m c)∧w'.cell? ⟨w1.heap.size,0,none⟩=some (.int .i64 (-1))∧w'.cell? ⟨w1.heap.size,1,none⟩=some (.int .i64 (-1))
structure AopI (a:DA) (w wr:World) (s k:Nat) (A:Option Addr) (m c:Nat):Prop where
 below:Below w.heap.size w wr
 set_:Blk wr w.heap.size 406 #[memV a, .slice A m c]
 own:wr.ownsRow (w.heap.size+1) 408 4 (.slice A m c) m (plCells s k)
 hm:m=k
theorem arenaOpen_any {a:DA} {L T:Nat} {w:World} {S:Fp} {cur:Nat→Nat} {F:Nat} (h:Dev a L T w S cur F) (ht:Tab w) (s n K:Nat) (hn:32≤n) (hs:s+n≤L) (hK:n / 32=K) (hv:∀ k,k < K→cur (8 * (s+32 * k))=freeW 1) :
  Calls Tryz.prog 288 #[memV a, .int .i64 (s:Int), .int .i64 (n:Int)] w fun e w'=>e = .returned (.tuple #[.pointer (some ⟨w.heap.size,0,none⟩), .int .i64 0])∧SetIs a s K w' (w.heap.size+1) w.heap.size∧Below w.heap.size w w':=by
 have HV:=hid (arenaValid_any h s n hn hs)
 have HD:=hid h
 have HT:=hid ht
 have HVV:=hid hv
 obtain ⟨i0,hi0,hz0,hz1,hz2⟩:=info_parts infoPlace
 have HI0:Hid (AopI a w (w.alloc (.cells #[memV a, .slice none 0 0] 406)) s 0 none 0 0):=⟨(Below.refl _ _).alloc (Nat.le_refl _) _,Blk.new _ _ _,World.ownsRow_nil _ _ _ _,rfl⟩
 obtain ⟨ls,exe,per,cs,lsC,hdc,hnt⟩:=h
 have hL:=hdc.hL
 obtain ⟨f0,_,_,_,g2⟩:=hdc.facts (j:=0) (by omega)
 have hmE:=methErr (some ⟨a.th 0,0,none⟩)
 have d2:(n:Int).tdiv 32=(K:Int):=by rw [Int.tdiv_eq_ediv_of_nonneg (by omega)];omega
 have d3:(n:Int) / 32=(K:Int):=by omega
 have hK32:K * 32≤n:=by omega
 clear hdc hnt ht hK hv
 unfold memV at *
 go_enter Tryz.func288,Tryz.ntmps288
 go_wp2_with (first
  | (go_at_call 283;refine HV.out.mono ?_;rintro e w1 ⟨rfl,rfl⟩)
  | go_in)
 clear f0 g2 HV
 go_loopw [29] (fun i wr=>∃ (k:Nat) (A:Option Addr) (m c:Nat),k≤K∧i = .int .i64 k∧Hid (AopI a w wr s k A m c)) (fun i _=>K - (RowKit.intOf i).toNat)
 case atStart=>exact ⟨0,_,_,_,Nat.zero_le _,rfl,HI0⟩
 case round =>
  clear HI0
  obtain ⟨k,A,m,c,hk,rfl,H⟩:=hrel
  by_cases hlt:k < K
  ·have HLK:=hid (look_free (HD.out.below H.out.below) (HT.out.below H.out.below) (s+32 * k) (by omega) (HVV.out k hlt))
   have e7:((s+32 * k:Nat):Int)=(s:Int)+(k:Int) * 32:=by omega
   rw [e7] at HLK
   unfold memV at HLK
   have hz:(s:Int)+(k:Int) * 32≤4096:=by omega
   go_wp2_with (first
    | (go_at_call 293;refine HLK.out.mono ?_;rintro e w1 ⟨rfl,hb1⟩;have HB1:=hid hb1;clear hb1)
    | go_in)
   have HSW:=hid ((H.out.set_.below HB1.out H.out.set_.lt).alloc (.cells #[.int .i64 (-1), .int .i64 (-1), .int .u16 1] 304))
   have HHW:=hid (Blk.new w1 304 #[.int .i64 (-1), .int .i64 (-1), .int .u16 1])
   have HBW:=hid ((H.out.below.trans (HB1.out.mono H.out.below.size)).alloc (Nat.le_trans H.out.below.size HB1.out.size) (.cells #[.int .i64 (-1), .int .i64 (-1), .int .u16 1] 304))
   have HOW:=hid ((own_below H.out.own HB1.out).alloc (.cells #[.int .i64 (-1), .int .i64 (-1), .int .u16 1] 304))
   generalize w1.alloc (.cells #[.int .i64 (-1), .int .i64 (-1), .int .u16 1] 304)=W at *
   have HS0:Hid (AopS w w1 A m c W.drew):=hid ⟨HSW.out.cell 1,HHW.out.cell 0,HHW.out.cell 1⟩
   refine wp_region_script (AopS w w1 A m c) 13 [(true,0),(true,1),(true,2),(true,3),(true,4),(true,5),(true,6),(true,7),(true,8),(true,9),(true,10),(false,11),(false,12)] (by kernel_rfl) (by kernel_rfl) HS0.out ?_
   refine wpScript_take (.pointer (some ⟨w.heap.size,0,none⟩)) (by rfl) (by rfl) (fun w' hS=>?_) ?_
   ·go_simp
   simp only [zA,zB,Act.put,zD,zE,zF]
   refine wpScript_take (.pointer (some ⟨w.heap.size,0,none⟩)) (by rfl) (by rfl) (fun w' hS=>?_) ?_
   ·go_simp
   simp only [zA,zB,zC,Act.put,zD,zE,zF]
   refine wpScript_take (.pointer (some ⟨w.heap.size,0,none⟩)) (by rfl) (by rfl) (fun w' hS=>?_) ?_
   ·go_simp
   simp only [zA,zB,zC,Act.put,zD,zE,zF]
   refine wpScript_take (.pointer (some ⟨w.heap.size,1,none⟩)) (by rfl) (by rfl) (fun w' hS=>?_) ?_
   ·go_simp
   simp only [zA,zB,zC,Act.put,zD,zE,zF]
   refine wpScript_take (.slice A m c) (by rfl) (by rfl) (fun w' hS=>?_) ?_
   ·have f1:=hS.1
    go_simp
   simp only [zA,zB,zC,Act.put,zD,zE,zF]
   refine wpScript_take (.int .i64 ((s:Int)+(k:Int) * 32)) (by rfl) (by rfl) (fun w' hS=>?_) ?_
   ·go_simp
   simp only [zA,zB,zC,Act.put,zD,zE,zF]
   refine wpScript_take (.pointer (some ⟨w1.heap.size,0,none⟩)) (by rfl) (by rfl) (fun w' hS=>?_) ?_
   ·go_simp
   simp only [zA,zB,zC,Act.put,zD,zE,zF]
   refine wpScript_take (.int .i64 (-1)) (by rfl) (by rfl) (fun w' hS=>?_) ?_
   ·have f1:=hS.2.1
    go_simp
   simp only [zA,zB,zC,Act.put,zD,zE,zF]
   refine wpScript_take (.pointer (some ⟨w1.heap.size,1,none⟩)) (by rfl) (by rfl) (fun w' hS=>?_) ?_
   ·go_simp
   simp only [zA,zB,zC,Act.put,zD,zE,zF]
   refine wpScript_take (.int .i64 (-1)) (by rfl) (by rfl) (fun w' hS=>?_) ?_
   ·have f1:=hS.2.2
    go_simp
   simp only [zA,zB,zC,Act.put,zD,zE,zF]
   refine wpScript_take (.agg #[.int .i64 ((s:Int)+(k:Int) * 32), .int .i64 (-1), .int .i64 (-1), .bool false]) (by rfl) (by rfl) (fun w' hS=>?_) ?_
   ·go_simp
   simp only [zA,zB,zC,Act.put,zD,zE,zF]
   have hmk:m≤128:=by have:=H.out.hm;omega
   have HLE:=hid HBW.out.size
   have HLT:=hid HSW.out.lt
   refine wpScript_do (by rfl) ?_
   go_wp2
   have HSA:=hid ((HSW.out.alloc (.cells #[.int .i64 ((s:Int)+(k:Int) * 32), .int .i64 (-1), .int .i64 (-1), .bool false] 408)).drew)
   have HHA:=hid ((HHW.out.alloc (.cells #[.int .i64 ((s:Int)+(k:Int) * 32), .int .i64 (-1), .int .i64 (-1), .bool false] 408)).drew)
   have HOA:=hid ((HOW.out.alloc (.cells #[.int .i64 ((s:Int)+(k:Int) * 32), .int .i64 (-1), .int .i64 (-1), .bool false] 408)).drew)
   have HRA:Hid (Reads (W.alloc (.cells #[.int .i64 ((s:Int)+(k:Int) * 32), .int .i64 (-1), .int .i64 (-1), .bool false] 408)).drew (W.heap.size+1) 4 (some ⟨W.heap.size,0,none⟩) 1 [.int .i64 ((s:Int)+(k:Int) * 32), .int .i64 (-1), .int .i64 (-1), .bool false]):=hid (row_reads_at W W.heap.size rfl [.int .i64 ((s:Int)+(k:Int) * 32), .int .i64 (-1), .int .i64 (-1), .bool false] 1 4 408 _ rfl rfl)
   have HBA:=hid ((HBW.out.alloc HBW.out.size (.cells #[.int .i64 ((s:Int)+(k:Int) * 32), .int .i64 (-1), .int .i64 (-1), .bool false] 408)).drew)
   have HLA:Hid (w.heap.size+1≤(W.alloc (.cells #[.int .i64 ((s:Int)+(k:Int) * 32), .int .i64 (-1), .int .i64 (-1), .bool false] 408)).drew.heap.size):=hid (by have:=HLT.out;simp;omega)
   generalize (W.alloc (.cells #[.int .i64 ((s:Int)+(k:Int) * 32), .int .i64 (-1), .int .i64 (-1), .bool false] 408)).drew=WA at *
   clear HSW HHW HOW HBW HS0 HLE HLT
   refine ⟨⟨HSA.out.cell 1,HHA.out.cell 0,HHA.out.cell 1⟩,?_⟩
   refine wpScript_do (by rfl) ?_
   refine wpList_app _ (.tmp 49) (.tmp 56) 404 rfl rfl (w.heap.size+1) 408 i0 _ 4 32 Tryz.underlying404 hi0 hz0 hz1 hz2 rfl (by omega) (.slice A m c) m (plCells s k) rfl HOA.out (W.heap.size+1) (some ⟨W.heap.size,0,none⟩) 1 1 [.int .i64 ((s:Int)+(k:Int) * 32), .int .i64 (-1), .int .i64 (-1), .bool false] rfl HRA.out (by intro u hu;simp at hu;rcases hu with rfl | rfl | rfl <;> rfl) (by unfold maxLen;omega) (by omega) HLA.out ?_
   intro A3 n3 c3 w8 hn3 ho3 hg3 hb3
   have HN3:=hid hn3
   have HO3:=hid ho3
   have HS8:=hid ((HSA.out.grown hg3 (fun e=>own_blk_ne HOA.out HSA.out (by decide) e.symm)):Blk w8 w.heap.size 406 #[memV a, .slice A m c])
   have HH8:=hid (HHA.out.grown hg3 (fun e=>own_blk_ne HOA.out HHA.out (by decide) e.symm))
   have HB8:=hid ((HBA.out.trans (hb3.mono (Nat.le_succ _))):Below w.heap.size w w8)
   have z1:w8.frozen? ⟨w.heap.size,1,none⟩=false:=HS8.out.frozen 1
   have c1:w8.cell? ⟨w.heap.size,1,none⟩=some (.slice A m c):=HS8.out.cell 1
   clear hn3 ho3 hg3 hb3
   refine ⟨⟨HS8.out.cell 1,HH8.out.cell 0,HH8.out.cell 1⟩,?_⟩
   show wpList _ _ _ _ _ _
   simp only [List.drop_succ_cons,List.drop_zero]
   go_wp2
   refine NoPanic.normal ?_
   go_wp2
   have HI1:Hid (AopI a w (w8.setCell ⟨w.heap.size,1,none⟩ (.slice A3 n3 c3)) s (k+1) A3 n3 c3):=by
    refine ⟨HB8.out.setCell (Nat.le_refl _) _,HS8.out.set_ 1 _,?_,?_⟩
    ·rw [plCells_succ,e7]
     exact ownsRow_setCell_other HO3.out (a:=⟨w.heap.size,1,none⟩) (own_blk_ne HO3.out HS8.out (by decide)) _
    ·have:=HN3.out;have:=H.out.hm;omega
   go_roundw
   case rel =>
    repeat apply Exists.intro
    refine ⟨?_,rfl⟩
    exact ⟨k+1,_,_,_,by omega,by go_num,HI1⟩
   case measure=>simp [RowKit.intOf];omega
  ·obtain rfl:k=K:=by omega
   go_wp2
   go_ret2
   exact ⟨rfl,⟨A,m,c,H.out.set_,H.out.hm,H.out.own⟩,H.out.below⟩
end
section
open Go.RowKit
theorem infoInt:(Tryz.prog.info? 3).map (fun i=>(i.zero,i.size,i.bytes))=some (some (.int .i64 0),1,8):=by kernel_rfl
def iCells (l:List Int):List Value:=l.map fun x=>Value.int .i64 x
theorem plCells_at (s:Nat):∀ (n k:Nat),k < n→(plCells s n)[k * 4]?=some (.int .i64 ((s+32 * k:Nat):Int))∧(plCells s n)[k * 4+1]?=some (.int .i64 (-1))∧(plCells s n)[k * 4+2]?=some (.int .i64 (-1))∧(plCells s n)[k * 4+3]?=some (.bool false)
 | n+1,k,h=>by
  have hl:(plCells s n).length=n * 4:=by
   clear h
   induction n with
   | zero=>rfl
   | succ n ih=>rw [plCells_succ,List.length_append,ih];simp;omega
  rw [plCells_succ]
  by_cases hk:k < n
  ·obtain ⟨h0,h1,h2,h3⟩:=plCells_at s n k hk
   refine ⟨?_,?_,?_,?_⟩ <;> rw [List.getElem?_append_left (by omega)] <;> assumption
  ·obtain rfl:k=n:=by omega
   refine ⟨?_,?_,?_,?_⟩ <;> rw [List.getElem?_append_right (by omega),hl] <;> simp
theorem pl_facts {w:World} {B n s:Nat} {A:Option Addr} (h:Reads w B 4 A n (plCells s n)) {k:Nat} (hk:k < n) :
  ∃ b off:Nat,A=some ⟨b,off,none⟩∧b < B∧w.cell? ⟨b,off+k * 4,none⟩=some (.int .i64 ((s+32 * k:Nat):Int))∧w.cell? ⟨b,off+k * 4+1,none⟩=some (.int .i64 (-1))∧w.cell? ⟨b,off+k * 4+2,none⟩=some (.int .i64 (-1))∧w.cell? ⟨b,off+k * 4+3,none⟩=some (.bool false):=by
 obtain ⟨b,off,hA,hb,hc⟩:=h.plain (by omega) (by omega)
 obtain ⟨h0,h1,h2,h3⟩:=plCells_at s n k hk
 exact ⟨b,off,hA,hb,hc _ _ h0,hc _ _ h1,hc _ _ h2,hc _ _ h3⟩
def RetLines (w:World) (K:Nat) (e:Ending) (w':World):Prop:=∃ A m c l,e = .returned (.slice A m c)∧m≤K∧w'.ownsRow w.heap.size 3 1 (.slice A m c) m (iCells l)∧Below w.heap.size w w'
theorem lines_any {a:DA} {s K base g:Nat} {w:World} (h:SetIs a s K w base g) (hK:K≤128) :
  Calls Tryz.prog 197 #[.pointer (some ⟨g,0,none⟩)] w (RetLines w K):=by
 obtain ⟨A,m,c,hB,rfl,ho⟩:=h
 obtain ⟨i0,hi0,hz0,hz1,hz2⟩:=info_parts infoInt
 have HR:=hid (Reads.of_own ho)
 have f1:w.cell? ⟨g,1,none⟩=some (.slice A m c):=hB.cell 1
 have HB0:Hid (Below w.heap.size w w):=Below.refl _ _
 have HO0:Hid (w.ownsRow w.heap.size 3 1 (.slice none 0 0) 0 (iCells [])):=World.ownsRow_nil _ _ _ _
 clear ho hB
 go_enter Tryz.func197,Tryz.ntmps197
 go_wp2
 go_loopw [3,13] (fun p i wr=>∃ (k:Nat) (A1:Option Addr) (m1 c1:Nat) (l:List Int),k≤m∧i = .int .i64 k∧p = .slice A1 m1 c1∧m1≤k∧Hid (wr.ownsRow w.heap.size 3 1 (.slice A1 m1 c1) m1 (iCells l))∧Hid (Below w.heap.size w wr)) (fun _ i _=>m - (RowKit.intOf i).toNat)
 case atStart=>exact ⟨0,_,_,_,_,Nat.zero_le _,rfl,rfl,Nat.le_refl _,HO0,HB0⟩
 case round =>
  clear HB0 HO0
  obtain ⟨k,A1,m1,c1,l,hk,rfl,rfl,hm1,HO,H⟩:=hrel
  by_cases hlt:k < m
  ·obtain ⟨b,off,hA,hbB,f0,f2,f3,f4⟩:=pl_facts (HR.out.below H.out) hlt
   subst hA
   have hz5:(0:Int)≤(k:Int):=by omega
   have hz6:(k:Int) < (m:Int):=by omega
   generalize ((s+32 * k:Nat):Int)=v at *
   have HLE:=hid H.out.size
   have HOD:=hid ((HO.out.alloc (.cells #[.int .i64 v, .int .i64 (-1), .int .i64 (-1), .bool false] 408)).alloc (.cells #[.int .i64 v] 3))
   have HBD:=hid ((H.out.alloc H.out.size (.cells #[.int .i64 v, .int .i64 (-1), .int .i64 (-1), .bool false] 408)).alloc (by have:=H.out.size;simp;omega) (.cells #[.int .i64 v] 3))
   clear H HO
   go_wp2_with (first
    | (at_builtin;refine wpList_app _ (.tmp 17) (.tmp 20) 34 rfl rfl w.heap.size 3 i0 _ 1 8 Tryz.underlying34 hi0 hz0 hz1 hz2 rfl ?q1 (.slice A1 m1 c1) m1 (iCells l) rfl HOD.out (wr.heap.size+1+1) (some ⟨wr.heap.size+1,0,none⟩) 1 1 [.int .i64 v] rfl ?q5 ?q6 ?q2 ?q3 ?q4 ?_;(case q1=>omega);(case q5=>exact row_reads_at _ _ (by simp) _ 1 1 3 _ rfl rfl);(case q6=>(intro u hu;simp at hu;subst hu;rfl));(case q2=>(unfold maxLen;omega));(case q3=>omega);(case q4=>(have:=HLE.out;simp;omega));intro A3 n3 c3 w8 hn3 ho3 hg3 hb3;have HN3:=hid hn3;have HO3:=hid ho3;have HB3:=hid (HBD.out.trans hb3);clear hn3 ho3 hg3 hb3)
    | go_in)
   have b1:n3≤k+1:=by have:=HN3.out;omega
   have HO4:Hid (w8.ownsRow w.heap.size 3 1 (.slice A3 n3 c3) n3 (iCells (l++[v]))):=hid (by have h:=HO3.out;simpa [iCells] using h)
   go_roundw
   case rel =>
    first
     | exact ⟨k+1,_,_,_,_,by omega,by go_num,rfl,b1,HO4,HB3⟩
     | (
       repeat apply Exists.intro
       refine ⟨?_,rfl⟩
       exact ⟨k+1,_,_,_,_,by omega,by go_num,rfl,b1,HO4,HB3⟩)
   case measure=>simp [RowKit.intOf];omega
  ·obtain rfl:m=k:=by omega
   go_wp2
   go_ret
   exact ⟨_,_,_,_,rfl,hm1,HO.out,H.out⟩
def RetFind (w:World) (e:Ending) (w':World):Prop:=∃ p,e = .returned (.pointer p)∧(p=none∨∃ b off,p=some ⟨b,off,none⟩∧w'.cell? ⟨b,off+2,none⟩=some (.int .i64 (-1)))∧w=w'
theorem find_any {a:DA} {s K base g:Nat} {w:World} (h:SetIs a s K w base g) (hK:K≤128) (x:Int) :
  Calls Tryz.prog 343 #[.pointer (some ⟨g,0,none⟩), .int .i64 x] w (RetFind w):=by
 obtain ⟨A,m,c,hB,rfl,ho⟩:=h
 have HR:=hid (Reads.of_own ho)
 have f1:w.cell? ⟨g,1,none⟩=some (.slice A m c):=hB.cell 1
 clear ho hB
 go_enter Tryz.func343,Tryz.ntmps343
 go_wp2
 go_loopw [13] (fun i wr=>∃ (k:Nat),k≤m∧i = .int .i64 k∧w=wr) (fun i _=>m - (RowKit.intOf i).toNat)
 case atStart=>exact ⟨0,Nat.zero_le _,rfl,rfl⟩
 case round =>
  obtain ⟨k,hk,rfl,rfl⟩:=hrel
  by_cases hlt:k < m
  ·obtain ⟨b,off,hA,hbB,f0,f2,f3,f4⟩:=pl_facts HR.out hlt
   subst hA
   have hz5:(0:Int)≤(k:Int):=by omega
   have hz6:(k:Int) < (m:Int):=by omega
   generalize ((s+32 * k:Nat):Int)=v at *
   by_cases hv:v=x
   ·have hq:(v == x)=true:=by simp [hv]
    go_wp2
    go_ret
    exact ⟨_,rfl, .inr ⟨b,off+k * 4,rfl,f3⟩,rfl⟩
   ·have hq:(v == x)=false:=by simp [hv]
    go_wp2
    go_roundw
    case rel =>
     first
      | exact ⟨k+1,by omega,by go_num,trivial⟩
      | exact ⟨k+1,by omega,by go_num,rfl⟩
      | (
        repeat apply Exists.intro
        refine ⟨?_,rfl⟩
        exact ⟨k+1,by omega,by go_num,rfl⟩)
    case measure=>simp [RowKit.intOf];omega
  ·obtain rfl:m=k:=by omega
   go_wp2
   go_ret
   exact ⟨_,rfl, .inl rfl,rfl⟩
theorem owner_any {a:DA} {s K base g:Nat} {w:World} (h:SetIs a s K w base g) (hK:K≤128) (x:Int) :
  Calls Tryz.prog 289 #[.pointer (some ⟨g,0,none⟩), .int .i64 x] w fun e w'=>e = .returned (.int .i64 (-1))∧w=w':=by
 have HF:=hid (find_any h hK x)
 clear h
 go_enter Tryz.func289,Tryz.ntmps289
 go_wp2_with fail
 refine HF.out.mono ?_
 rintro e w1 ⟨p,rfl,hp,rfl⟩
 rcases hp with rfl | ⟨b,off,rfl,f2⟩
 ·go_wp2
  go_ret
  exact ⟨rfl,rfl⟩
 ·go_wp2
  go_ret
  exact ⟨rfl,rfl⟩
end
end Go.Proofs.YtfkjjoglnmeciaaGreatDoor
