/- The walks and laws that the claim leans on, part 13. -/
import Derived.Test.YtfkjjoglnmeciaaGreatDoorJak
import Derived.Test.YtfkjjoglnmeciaaGreatDoorJal
set_option maxRecDepth 100000
set_option maxHeartbeats 16000000
namespace Go.Proofs.YtfkjjoglnmeciaaGreatDoor
open Go.Lib (hid)
section
open Go.RowKit
theorem b_facts {w:World} {B n:Nat} {A:Option Addr} {l:List Nat} (h:Reads w B 1 A n (u8s l)) {k:Nat} (hk:k < n) :
  ∃ (hl:k < l.length) (b off:Nat),A=some ⟨b,off,none⟩∧b < B∧w.cell? ⟨b,off+k,none⟩=some (.int .u8 ((l[k]:Nat):Int)):=by
 have hl:k < l.length:=by have:=h.1;simp [u8s] at this;omega
 obtain ⟨b,off,hA,hb,hc⟩:=h.plain (by omega) (by omega)
 exact ⟨hl,b,off,hA,hb,hc k _ (by simp [u8s,hl])⟩
theorem reads_of_blk {w:World} {g n:Nat} {cs:Array Value} {t:TypeId} {l:List Value} (h:Blk w g t cs) (hl:l.length=n) (he:∀ (j:Nat) (u:Value),l[j]?=some u→cs[j]?=some u):Reads w w.heap.size 1 (some ⟨g,0,none⟩) n l:=by
 refine ⟨by omega,fun hn=>⟨_,rfl,h.lt,fun j u hu=>?_⟩⟩
 have h1:=h.cell (0+j)
 have e:(⟨g,0,none⟩:Addr).add j=⟨g,0+j,none⟩:=by
  unfold Addr.add
  split
  ·rename_i h;subst h;rfl
  ·rfl
 rw [e,h1,Nat.zero_add]
 exact he j u hu
theorem or_lev {l:List Nat} {b:Nat} (hl:∀ x∈l,x < 256) (h7:l.length≤7) (hb:b < 256):bits .or .u64 (lev l:Int) (((b * 2 ^ (8 * l.length):Nat):Int))=(lev (l++[b]):Int):=by
 have h1:=lev_lt l hl
 have h2:(256:Nat) ^ l.length=2 ^ (8 * l.length):=by rw [Nat.pow_mul]
 rw [h2] at h1
 have h3:(2:Nat) ^ (8 * l.length)≤2 ^ 56:=Nat.pow_le_pow_right (by omega) (by omega)
 have h4:(2:Nat) ^ 56=72057594037927936:=by decide
 have h5:b * 2 ^ (8 * l.length)≤255 * 2 ^ (8 * l.length):=Nat.mul_le_mul_right _ (by omega)
 rw [lev_snoc,h2,Nat.mul_comm (2 ^ (8 * l.length)) b]
 rw [bits_join_low .u64 64 (by decide) wraps_u64 (8 * l.length) (lev l:Int) ((b * 2 ^ (8 * l.length):Nat):Int) (by omega) (by exact_mod_cast h1) (by omega) (by omega) (by
  have:((b * 2 ^ (8 * l.length):Nat):Int)=(b:Int) * 2 ^ (8 * l.length):=by push_cast;rfl
  rw [this]
  exact Int.mul_emod_left _ _) (by omega)]
 push_cast
 rfl
def pkW (p:List Nat) (i j:Nat):Nat:=lev (((p.take i).drop (8 * j)).take 8)
theorem pkW_zero (p:List Nat) (j:Nat):pkW p 0 j=0:=by simp [pkW,lev]
theorem pkW_other {p:List Nat} {i j:Nat} (hi:i < p.length) (h:i / 8≠j):pkW p (i+1) j=pkW p i j:=by
 unfold pkW
 congr 1
 rw [List.take_succ_eq_append_getElem hi]
 rw [List.drop_append]
 have hl:(p.take i).length=i:=by simp;omega
 rw [hl]
 rcases Nat.lt_or_gt_of_ne h with h1 | h1
 ·have e1:8 * j - i ≥ 1:=by omega
  have:[p[i]].drop (8 * j - i)=[]:=by
   apply List.drop_eq_nil_of_le;simp;omega
  rw [this,List.append_nil]
 ·rw [List.take_append_of_le_length (by rw [List.length_drop,hl];omega)]
theorem pkW_same {p:List Nat} {i:Nat} (hi:i < p.length) (hp:∀ b∈p,b < 256):∃ l:List Nat,pkW p i (i / 8)=lev l∧pkW p (i+1) (i / 8)=lev (l++[p[i]])∧l.length=i % 8∧∀ x∈l,x < 256:=by
 have hl:(p.take i).length=i:=by simp;omega
 refine ⟨(p.take i).drop (8 * (i / 8)),?_,?_,?_,fun x hx=>hp x (List.mem_of_mem_take (List.mem_of_mem_drop hx))⟩
 ·unfold pkW
  rw [List.take_of_length_le]
  rw [List.length_drop,hl];omega
 ·unfold pkW
  rw [List.take_succ_eq_append_getElem hi,List.drop_append_of_le_length (by rw [hl];omega),List.take_of_length_le]
  rw [List.length_append,List.length_drop,hl]
  simp
  omega
 ·rw [List.length_drop,hl];omega
theorem pkW_end (p:List Nat) (j:Nat):pkW p p.length j=lev ((p.drop (8 * j)).take 8):=by unfold pkW;rw [List.take_length]
theorem wordsOf_any (n:Nat) (hn:n≤100000) (w:World):Calls Tryz.prog 296 #[.int .i64 (n:Int)] w fun e w'=>e = .returned (.int .i64 (((n+7) / 8:Nat):Int))∧w=w':=by
 by_cases h:n % 8=0
 ·have e1:((n:Int) % 8 == 0)=true:=by rw [beq_iff_eq];omega
  have e2:((n:Int) % 8 != 0)=false:=by rw [bne,e1];rfl
  have e3:(n:Int).tmod 8=(n:Int) % 8:=by rw [Int.tmod_eq_emod_of_nonneg (by omega)]
  have e5:(n:Int) / 8=(((n+7) / 8:Nat):Int):=by omega
  have e6:wrap64 ((n:Int) / 8)=(((n+7) / 8:Nat):Int):=by rw [e5];exact IntWalk.wrap64_in _ (by omega)
  have e4:(n:Int).tdiv 8=(((n+7) / 8:Nat):Int):=by rw [Int.tdiv_eq_ediv_of_nonneg (by omega)];omega
  generalize (n+7) / 8=q at *
  go_enter Tryz.func296,Tryz.ntmps296
  go_wp2
  go_ret
  exact ⟨rfl,rfl⟩
 ·have e1:((n:Int) % 8 == 0)=false:=by rw [beq_eq_false_iff_ne];omega
  have e2:((n:Int) % 8 != 0)=true:=by rw [bne,e1];rfl
  have e3:(n:Int).tmod 8=(n:Int) % 8:=by rw [Int.tmod_eq_emod_of_nonneg (by omega)]
  have e4:(n:Int).tdiv 8+1=(((n+7) / 8:Nat):Int):=by rw [Int.tdiv_eq_ediv_of_nonneg (by omega)];omega
  have e5:(n:Int) / 8+1=(((n+7) / 8:Nat):Int):=by omega
  have e6:wrap64 ((n:Int) / 8+1)=(((n+7) / 8:Nat):Int):=by rw [e5];exact IntWalk.wrap64_in _ (by omega)
  generalize (n+7) / 8=q at *
  go_enter Tryz.func296,Tryz.ntmps296
  go_wp2
  go_ret
  exact ⟨rfl,rfl⟩
def RetPk (w:World) (l:List Nat) (e:Ending) (w':World):Prop:=∃ A m c,e = .returned (.slice A m c)∧m=l.length∧Reads w' w'.heap.size 1 A m (uCells l)∧(∀ ad,A=some ad→w.heap.size≤ad.block)∧Below w.heap.size w w'
theorem madeU_at (n j:Nat) (h:j < n):(madeCells #[.int .u64 0] n)[j]?=some (.int .u64 0):=by
 rw [← Array.getElem?_toList,toList_madeCells_one]
 simp [h]
theorem madeU_size (n:Nat):(madeCells #[.int .u64 0] n).size=n:=by rw [size_madeCells]
theorem makeU (n:Nat) (hn:n≤1000000) (W:World):(Instr.makeSlice 99 (.int .i64 (n:Int)) (.int .i64 (n:Int))).run Tryz.prog W = .ok (.slice (some ⟨W.heap.size,0,none⟩) n n) (W.alloc (.cells (madeCells #[.int .u64 0] n) 32)):=by
 obtain ⟨j0,hj0,hk0,hk1,hk2⟩:=info_parts infoU64
 have h:=run_makeSlice (P:=Tryz.prog) W 99 32 j0 (.int .u64 0) Tryz.underlying99 hj0 hk0 .i64 .i64 (n:Int) (n:Int) (by omega) (by omega) (by rw [hk1];omega) (by rw [hk2];omega) (by omega)
 rw [hk1,Int.toNat_natCast,Nat.mul_one] at h
 exact h
theorem pack_any (A:Option Addr) (n c:Nat) (p:List Nat) (w:World) (h:Reads w w.heap.size 1 A n (u8s p)) (hp:∀ b∈p,b < 256) (hn:n≤100000) :
  Calls Tryz.prog 204 #[.slice A n c] w (RetPk w (packW p)):=by
 have hl0:p.length=n:=by have:=h.1;simp [u8s] at this;omega
 have HW:=hid (wordsOf_any n hn)
 have HR:=hid h
 have HP:=hid hp
 have HL:=hid hl0
 clear h hp hl0
 obtain ⟨q,hq⟩:∃ q,(n+7) / 8=q:=⟨_,rfl⟩
 have hqn:q≤100000:=by omega
 have hq8:n≤8 * q:=by omega
 rw [hq] at HW
 have HQ:=hid hq
 clear hq
 have hmk:=makeU q (by omega)
 go_enter Tryz.func204,Tryz.ntmps204
 go_wp2_with (go_at_call 296;refine (HW.out _).mono ?_;rintro e w1 ⟨rfl,rfl⟩)
 go_loopw [12] (fun i wr=>∃ k:Nat,k≤n∧i = .int .i64 (k:Int)∧Hid (∃ cs,Blk wr w.heap.size 32 cs∧cs.size=q∧∀ j,j < q→cs[j]?=some (.int .u64 (pkW p k j:Int)))∧Hid (Below w.heap.size w wr)) (fun i _=>n - (Go.RowKit.intOf i).toNat)
 case atStart =>
  refine ⟨0,Nat.zero_le _,rfl,hid ⟨_,Blk.new w _ _,madeU_size q,fun j hj=>?_⟩,hid ((Below.refl _ _).alloc (Nat.le_refl _) _)⟩
  rw [madeU_at q j hj,pkW_zero]
  rfl
 case round =>
  obtain ⟨k,hk,rfl,HC,HB⟩:=hrel
  by_cases hlt:k < n
  ·obtain ⟨hl,b,off,hA,hbB,f0⟩:=b_facts (HR.out.below HB.out) hlt
   subst hA
   obtain ⟨cs,hB,hsz,hcs⟩:=HC.out
   have hkq:k / 8 < q:=by omega
   have c0:=hcs (k / 8) hkq
   obtain ⟨l,e1,e2,e3,e4⟩:=pkW_same hl HP.out
   have hb256:p[k] < 256:=HP.out _ (List.getElem_mem hl)
   have HN:Hid (∃ cs',Blk (wr.setCell ⟨w.heap.size,k / 8,none⟩ (.int .u64 (pkW p (k+1) (k / 8):Int))) w.heap.size 32 cs'∧cs'.size=q∧∀ j,j < q→cs'[j]?=some (.int .u64 (pkW p (k+1) j:Int))):=hid ⟨_,hB.set_ (k / 8) _,by simp [hsz],fun j hj=>by
    rw [Array.getElem?_setIfInBounds]
    by_cases e:k / 8=j
    ·subst e
     simp [hsz,hkq]
    ·rw [if_neg e,hcs j hj,pkW_other hl e]⟩
   have HB2:Hid (Below w.heap.size w (wr.setCell ⟨w.heap.size,k / 8,none⟩ (.int .u64 (pkW p (k+1) (k / 8):Int)))):=hid (HB.out.setCell (Nat.le_refl _) _)
   rw [e2] at HN HB2
   rw [e1] at c0
   have f1:wr.cell? ⟨w.heap.size,k / 8,none⟩=some (.int .u64 (lev l:Int)):=by rw [hB.cell];exact c0
   have z1:wr.frozen? ⟨w.heap.size,k / 8,none⟩=false:=hB.frozen _
   have hx:=or_lev e4 (by omega) hb256
   have HX:Hid (bits .or .u64 (lev l:Int) (IntKind.u64.wrap (((p[k]:Nat):Int) * 2 ^ (k % 8 * 8)))=(lev (l++[p[k]]):Int)):=hid (by
    have h1:(p[k] * 2 ^ (8 * l.length):Nat)≤255 * 2 ^ 56:=Nat.mul_le_mul (by omega) (Nat.pow_le_pow_right (by omega) (by omega))
    have h2:(255:Nat) * 2 ^ 56=18374686479671623680:=by decide
    rw [← hx,e3,Nat.mul_comm 8 (k % 8)]
    rw [e3,Nat.mul_comm 8 (k % 8)] at h1
    have h3:(((p[k]:Nat):Int) * 2 ^ (k % 8 * 8))=((p[k] * 2 ^ (k % 8 * 8):Nat):Int):=by push_cast;rfl
    rw [h3,wraps_u64 _ (by omega) (by omega)])
   clear hx
   have HE3:=hid e3
   clear e1 e2 e4 hB hcs hsz c0 HC hbB e3
   generalize p[k]=bt at *
   have hz5:(0:Int)≤(k:Int):=by omega
   have hz6:(k:Int) < (n:Int):=by omega
   go_wp2
   go_roundw
   case rel =>
    first
     | (
       refine ⟨k+1,by omega,by go_num,?_,?_⟩
       ·rw [HX.out];exact HN
       ·rw [HX.out];exact HB2)
     | (
       repeat apply Exists.intro
       refine ⟨?_,rfl⟩
       refine ⟨k+1,by omega,by go_num,?_,?_⟩
       ·rw [HX.out];exact HN
       ·rw [HX.out];exact HB2)
   case measure=>simp [Go.RowKit.intOf];omega
  ·have hkn:k=n:=by omega
   have HF:Hid (RetPk w (packW p) (.returned (.slice (some ⟨w.heap.size,0,none⟩) q q)) wr):=hid (by
    obtain ⟨cs,hB,hsz,hcs⟩:=HC.out
    refine ⟨_,q,q,rfl,?_,reads_of_blk hB ?_ ?_,fun ad h=>by injection h with h;subst h;exact Nat.le_refl _,HB.out⟩
    ·rw [packW_len,HL.out];exact HQ.out.symm
    ·simp [uCells,packW_len,HL.out,HQ.out]
    ·intro j u hu
     have hj:j < q:=by
      have h1:=(List.getElem?_eq_some_iff.1 hu).1
      simp [uCells,packW_len,HL.out,HQ.out] at h1
      omega
     rw [hcs j hj,hkn,← HL.out,pkW_end]
     rw [← hu]
     simp [uCells,packW,HL.out,HQ.out,hj])
   have hd1:decide ((k:Int) < (n:Int))=false:=decide_eq_false (by omega)
   have hd2:decide (k < n)=false:=decide_eq_false hlt
   clear hkn hlt hk HC
   go_wp2
   go_ret
   exact HF.out
end
section
open Go.RowKit
theorem RetProg.back {w w1 w':World} {P:List Ins→Prop} {e:Ending} (hb:Below w.heap.size w w1) (h:RetProg w1 P e w'):RetProg w P e w':=by
 obtain ⟨A,m,c,p,he,hp,ho,hb'⟩:=h
 exact ⟨A,m,c,p,he,hp,own_le ho hb.size,hb.trans (hb'.mono hb.size)⟩
theorem RetDev.back {a:DA} {L T:Nat} {w w1 w':World} {S:Fp} {cur:Nat→Nat} {F:Nat} {v:Value} {e:Ending} (hb:Below w.heap.size w w1) (h:RetDev a L T w1 S cur F v e w'):RetDev a L T w S cur F v e w':=by
 obtain ⟨he,S',hd,hc,hg⟩:=h
 exact ⟨he,S',hd,(Chg.of_below hb).trans hc (Grew.refl _ _),(Grew.refl S w).trans hg hb.size⟩
theorem RetDev.then_ {a:DA} {L T:Nat} {w w1 w':World} {S S1:Fp} {cur:Nat→Nat} {F:Nat} {v:Value} {e:Ending} (hc1:Chg S w w1) (hg1:Grew S S1 w) (h:RetDev a L T w1 S1 cur F v e w'):RetDev a L T w S cur F v e w':=by
 obtain ⟨he,S',hd,hc,hg⟩:=h
 exact ⟨he,S',hd,hc1.trans hc hg1,hg1.trans hg hc1.size⟩
theorem run_stores {a:DA} {L T:Nat} {w:World} {S:Fp} {cur:Nat→Nat} (h:Dev a L T w S cur 0) {A:Option Addr} {m c base:Nat} {p:List Ins} {ws:List (Nat × Nat)} (ho:w.ownsRow base 284 3 (.slice A m c) m (insCells p)) (hb:∀ k,S k→k < base) (hp:IsStores ws p)
  (hw:∀ e∈ws,e.1 % 8=0∧e.1 < 64 * L∧e.2 < 18446744073709551616) (hl:ws.length≤1000) (hT:T+(2 * ws.length+1)≤1000000000) :
  Calls Tryz.prog 78 #[.slice A m c,memV a] w (RetDev a L (T+(2 * ws.length+1)) w S (wrS cur ws) 0 (.int .i64 0)):=by
 obtain ⟨hg,hr,hlen⟩:=isStores_good hp hw cur
 have hm:p.length=m:=by have:=ho.1;rw [insCells_len] at this;omega
 refine (run_any h A m c p (Reads.of_own ho) ?_ hg (by omega) (by omega)).mono ?_
 ·intro ad had hs
  rcases ho.2 with ⟨hv,_⟩ | ⟨g,cap,cs,hv,hge,_⟩
  ·injection hv with h1;rw [h1] at had;cases had
  ·injection hv with h1
   rw [h1] at had
   injection had with h2
   subst h2
   have:=hb _ hs
   simp at this
   omega
 ·rintro e w' ⟨he,S',hd,hc,hgr⟩
  rw [hr] at hd
  exact ⟨he,S',hd.more (by omega) (by omega),hc,hgr⟩
theorem one_reads (w:World) (o v:Nat):Reads (w.alloc (.cells #[.int .u64 (o:Int), .int .u64 (v:Int)] 114)) (w.alloc (.cells #[.int .u64 (o:Int), .int .u64 (v:Int)] 114)).heap.size 2 (some ⟨w.heap.size,0,none⟩) 1 (wrCells [(o,v)]):=by
 rw [show (w.alloc (.cells #[.int .u64 (o:Int), .int .u64 (v:Int)] 114)).heap.size=w.heap.size+1 by simp]
 exact row_reads_at w _ rfl _ 1 2 114 _ rfl rfl
theorem mark_any (a:DA) (s n g v:Nat) (w:World) (hB:Blk w g 353 (logCells a s n)) (hs:64 * s < 18446744073709551616) :
  Calls Tryz.prog 170 #[.pointer (some ⟨g,0,none⟩), .int .u64 (v:Int)] w (RetProg w (IsStores [(64 * s,v)])):=by
 have f1:w.cell? ⟨g,1,none⟩=some (.int .u64 ((64 * s:Nat):Int)):=hB.cell 1
 have HS:=hid (stores_small _ 1 1 _ _ (one_reads w (64 * s) v) (by omega) (by omega) (fun e he=>by simp at he;subst he;exact hs))
 generalize 64 * s=o at *
 clear hB
 go_enter Tryz.func170,Tryz.ntmps170
 go_wp2_with (go_at_call 105;refine HS.out.mono ?_;intro e w1 h1;have h2:=RetProg.back ((Below.refl _ _).alloc (Nat.le_refl _) _) h1;obtain ⟨A1,m1,c1,p1,rfl,hp1,ho1,hb1⟩:=h2;have HP1:=hid hp1;have HO1:=hid ho1;have HB1:=hid hb1;clear h1 hp1 ho1 hb1)
 go_ret
 exact ⟨_,_,_,_,rfl,HP1.out,HO1.out,HB1.out⟩
theorem redoFormat_any {a:DA} {L T:Nat} {w:World} {S:Fp} {cur:Nat→Nat} (h:Dev a L T w S cur 0) (s n:Nat) (hn:26≤n) (hs:s+n≤L) (hT:T+3≤1000000000) :
  Calls Tryz.prog 74 #[memV a, .int .i64 (s:Int), .int .i64 (n:Int)] w (RetDev a L (T+3) w S (wrS cur [(64 * s,0)]) 0 (.int .i64 0)):=by
 have HD:=hid h
 have HH:=hid (handle_any h s n hn hs)
 have HB1:Hid (Below w.heap.size w (w.alloc (.cells (logCells a s n) 353))):=(Below.refl _ _).alloc (Nat.le_refl _) _
 obtain ⟨ls,exe,per,cs,lsC,hdc,hnt⟩:=HD.out.below HB1.out
 have hL:=hdc.hL
 obtain ⟨f0,_,_,_,g2⟩:=hdc.facts (j:=0) (by omega)
 have HM:=hid (mark_any a s n w.heap.size 0 (w.alloc (.cells (logCells a s n) 353)) (Blk.new _ _ _) (by omega))
 have HSL:=hid hdc.lt
 have HR:Hid (∀ (A:Option Addr) (m c:Nat) (p:List Ins) (w1:World),IsStores [(64 * s,0)] p→w1.ownsRow (w.alloc (.cells (logCells a s n) 353)).heap.size 284 3 (.slice A m c) m (insCells p)→Below (w.alloc (.cells (logCells a s n) 353)).heap.size (w.alloc (.cells (logCells a s n) 353)) w1 →
   Calls Tryz.prog 78 #[.slice A m c,memV a] w1 (RetDev a L (T+3) w S (wrS cur [(64 * s,0)]) 0 (.int .i64 0))):=fun A m c p w1 hp ho hb=>by
  refine (run_stores ((HD.out.below HB1.out).below hb) ho HSL.out hp (fun e he=>by simp at he;subst he;omega) (by simp) (by simpa using hT)).mono ?_
  intro e w2 h2
  exact RetDev.back (HB1.out.trans (hb.mono (by simp))) (by simpa using h2)
 have hmE:=methErr (some ⟨a.th 0,0,none⟩)
 clear hdc hnt h HB1 HD HSL
 unfold memV at *
 go_enter Tryz.func74,Tryz.ntmps74
 go_wp2_with (first
  | (go_at_call 169;refine HH.out.mono ?_;rintro e w1 ⟨rfl,rfl⟩)
  | (go_at_call 170;refine HM.out.mono ?_;rintro e w1 ⟨A1,m1,c1,p1,rfl,hp1,ho1,hb1⟩;have HRR:=hid (HR.out A1 m1 c1 p1 w1 hp1 ho1 hb1);clear hp1 ho1 hb1)
  | (go_at_call 78;refine HRR.out.mono ?_;rintro e w2 ⟨rfl,h2⟩;have HZ:=hid h2;clear h2)
  | go_in)
 go_ret
 exact ⟨rfl,HZ.out⟩
end
section
open Go.RowKit
theorem infoLine:(Tryz.prog.info? 298).map (fun i=>(i.zero,i.size,i.bytes))=some (some (.agg #[.int .u64 0, .slice none 0 0]),2,32):=by kernel_rfl
def Of1 (w wx:World) (pb L:Nat) (pl:List Nat) (v:Value):Prop:=∃ d cb cc lb cs ls,v = .pointer (some ⟨d,0,none⟩)∧Blk wx d 158 #[.slice (some ⟨pb,0,none⟩) (8 * L) (8 * L), .slice (some ⟨cb,0,none⟩) (8 * L) cc, .slice (some ⟨lb,0,none⟩) L L, .pointer none, .pointer none, .pointer none, .pointer none, .pointer none, .pointer none, .pointer none, .pointer none, .bool false, .bool false, .int .i64 0, .int .u64 0] ∧
 Blk wx cb 32 cs∧cs.size=cc∧8 * L≤cc∧cc≤9223372036854775807∧RowU cs pl∧Blk wx lb 298 ls∧ls=madeCells (Value.agg #[.int .u64 0, .slice none 0 0]).cells (L * 2)∧Below w.heap.size w wx∧w.heap.size≤cb∧w.heap.size≤lb∧w.heap.size≤d
theorem Blk.new2 (w:World) (o:Obj) (t:TypeId) (cs:Array Value):Blk ((w.alloc o).alloc (.cells cs t)) (w.heap.size+1) t cs:=by
 have h:=Blk.new (w.alloc o) t cs
 rw [show (w.alloc o).heap.size=w.heap.size+1 by simp] at h
 exact h
theorem of_join {w wx:World} {pb L d lb m1 c1:Nat} {pl:List Nat} {A1:Option Addr} (h0:0 < L) (hd:Blk wx d 158 #[.slice (some ⟨pb,0,none⟩) (8 * L) (8 * L), .slice A1 m1 c1, .slice (some ⟨lb,0,none⟩) L L, .pointer none, .pointer none, .pointer none, .pointer none, .pointer none, .pointer none, .pointer none, .pointer none, .bool false, .bool false, .int .i64 0, .int .u64 0]) (ho:wx.ownsRow w.heap.size 32 1 (.slice A1 m1 c1) m1 (uCells pl)) (hm:m1=8 * L)
  (hl:Blk wx lb 298 (madeCells (Value.agg #[.int .u64 0, .slice none 0 0]).cells (L * 2))) (hb:Below w.heap.size w wx) (h1:w.heap.size≤lb) (h2:w.heap.size≤d):Of1 w wx pb L pl (.pointer (some ⟨d,0,none⟩)):=by
 obtain ⟨g,cap,hve,hgb,hglt⟩:=ho.form (by omega)
 have hA:A1=some ⟨g,0,none⟩:=by injection hve
 subst hA
 obtain ⟨cur,hcb,hcs,hru,hxl⟩:=own_row ho
 have hcap:=own_cap ho
 subst hm
 exact ⟨d,g,c1,lb,cur,_,rfl,hd,hcb,hcs,by omega,by omega,hru,hl,rfl,hb,hgb,h1,h2⟩
structure OfI (w wr:World) (pb L d cb cc lb:Nat) (cs ls:Array Value) (th nt:Nat→Nat) (k:Nat):Prop where
 dev:∃ dc,Blk wr d 158 dc∧dc.size=15∧dc[0]?=some (.slice (some ⟨pb,0,none⟩) (8 * L) (8 * L))∧dc[1]?=some (.slice (some ⟨cb,0,none⟩) (8 * L) cc)∧dc[2]?=some (.slice (some ⟨lb,0,none⟩) L L)∧dc[11]?=some (.bool false)∧dc[12]?=some (.bool false)∧dc[13]?=some (.int .i64 0)∧dc[14]?=some (.int .u64 0)∧∀ j,j < k→dc[3+j]?=some (.pointer (some ⟨th j,0,none⟩))
 cur:Blk wr cb 32 cs
 lin:Blk wr lb 298 ls
 thr:∀ j,j < k→Blk wr (th j) 268 #[.pointer (some ⟨d,0,none⟩), .int .i64 (j:Int), .int .i64 0, .map (some (nt j))]
 map:0 < k→wr.ownsMap Tryz.prog 3 (plainElem Tryz.prog 32) (nt 0) 0 (.map ([]:List (Lit × DataW Unit)))
 below:Below w.heap.size w wr
 gd:w.heap.size≤d
 gt:∀ j,j < k→w.heap.size≤th j∧w.heap.size≤nt j
theorem ofStep {w wr:World} {pb L d cb cc lb:Nat} {cs ls:Array Value} {th nt:Nat→Nat} {k:Nat} (H:OfI w wr pb L d cb cc lb cs ls th nt k) (hk:k < 8) :
  OfI w (((wr.setCell ⟨d,3+k,none⟩ (.pointer (some ⟨wr.heap.size+1,0,none⟩))).alloc (.map #[] 0)).alloc (.cells #[.pointer (some ⟨d,0,none⟩), .int .i64 (k:Int), .int .i64 0, .map (some wr.heap.size)] 268)) pb L d cb cc lb cs ls (fun j=>if j=k then wr.heap.size+1 else th j) (fun j=>if j=k then wr.heap.size else nt j) (k+1):=by
 obtain ⟨⟨dc,hd,hds,e0,e1,e2,e3,e4,e5,e6,e7⟩,hcu,hli,hth,hmp,hbl,hgd,hgt⟩:=H
 have hs:(wr.setCell ⟨d,3+k,none⟩ (.pointer (some ⟨wr.heap.size+1,0,none⟩))).heap.size=wr.heap.size:=by simp
 have hc:Chg (fun g=>g=d) wr (((wr.setCell ⟨d,3+k,none⟩ (.pointer (some ⟨wr.heap.size+1,0,none⟩))).alloc (.map #[] 0)).alloc (.cells #[.pointer (some ⟨d,0,none⟩), .int .i64 (k:Int), .int .i64 0, .map (some wr.heap.size)] 268)):=(((Chg.refl (fun g=>g=d) wr).setCell (p:=⟨d,3+k,none⟩) (.inl rfl) _).alloc _).alloc _
 refine ⟨⟨_,((hd.set_ (3+k) _).alloc _).alloc _,by simpa using hds,?_,?_,?_,?_,?_,?_,?_,?_⟩,hc.blk hcu (fun e=>hcu.ne_ hd (by decide) e),hc.blk hli (fun e=>hli.ne_ hd (by decide) e),?_,?_,?_,hgd,?_⟩
 ·rw [Array.getElem?_setIfInBounds_ne (by omega)];exact e0
 ·rw [Array.getElem?_setIfInBounds_ne (by omega)];exact e1
 ·rw [Array.getElem?_setIfInBounds_ne (by omega)];exact e2
 ·rw [Array.getElem?_setIfInBounds_ne (by omega)];exact e3
 ·rw [Array.getElem?_setIfInBounds_ne (by omega)];exact e4
 ·rw [Array.getElem?_setIfInBounds_ne (by omega)];exact e5
 ·rw [Array.getElem?_setIfInBounds_ne (by omega)];exact e6
 ·intro j hj
  by_cases hjk:j=k
  ·subst hjk
   rw [Array.getElem?_setIfInBounds_self_of_lt (by omega)]
   simp
  ·rw [Array.getElem?_setIfInBounds_ne (by omega),e7 j (by omega)]
   simp [hjk]
 ·intro j hj
  by_cases hjk:j=k
  ·subst hjk
   have h:=Blk.new2 (wr.setCell ⟨d,3+j,none⟩ (.pointer (some ⟨wr.heap.size+1,0,none⟩))) (.map #[] 0) 268 #[.pointer (some ⟨d,0,none⟩), .int .i64 (j:Int), .int .i64 0, .map (some wr.heap.size)]
   rw [hs] at h
   simpa using h
  ·have h:=hc.blk (hth j (by omega)) (fun e=>(hth j (by omega)).ne_ hd (by decide) e)
   simpa [hjk] using h
 ·intro _
  by_cases hk0:0=k
  ·subst hk0
   have h:=World.ownsMap_made (H:=Unit) (wr.setCell ⟨d,3+0,none⟩ (.pointer (some ⟨wr.heap.size+1,0,none⟩))) Tryz.prog 3 (plainElem Tryz.prog 32)
   rw [hs] at h
   have h2:=((Chg.refl Fp.no _).alloc (.cells #[.pointer (some ⟨d,0,none⟩), .int .i64 ((0:Nat):Int), .int .i64 0, .map (some wr.heap.size)] 268)).map h (fun h=>h)
   simpa using h2
  ·have h:=hc.map (hmp (by omega)) (fun e=>map_ne_blk (hmp (by omega)) hd e)
   simpa [hk0] using h
 ·have h1:=(hbl.setCell (p:=⟨d,3+k,none⟩) hgd (.pointer (some ⟨wr.heap.size+1,0,none⟩)))
  exact (h1.alloc h1.size _).alloc (Nat.le_trans h1.size (by simp)) _
 ·intro j hj
  have:=hbl.size
  by_cases hjk:j=k
  ·simp [hjk];omega
  ·simpa [hjk] using hgt j (by omega)
def RetOf (w:World) (pb L:Nat) (pl:List Nat) (e:Ending) (w':World):Prop:=∃ (d cb cc lb:Nat) (cs ls:Array Value) (th nt:Nat→Nat),e = .returned (.pointer (some ⟨d,0,none⟩))∧OfI w w' pb L d cb cc lb cs ls th nt 8∧cs.size=cc∧8 * L≤cc∧cc≤9223372036854775807∧RowU cs pl∧ls=madeCells (Value.agg #[.int .u64 0, .slice none 0 0]).cells (L * 2)∧w.heap.size≤cb∧w.heap.size≤lb
theorem of_any (pb L:Nat) (pl:List Nat) (hL:L≤4096) (h0:0 < L) (w:World) (hp:Reads w w.heap.size 1 (some ⟨pb,0,none⟩) (8 * L) (uCells pl)) :
  Calls Tryz.prog 168 #[.slice (some ⟨pb,0,none⟩) (8 * L) (8 * L)] w (RetOf w pb L pl):=by
 obtain ⟨j0,hj0,hk0,hk1,hk2⟩:=info_parts infoLine
 have hmk:∀ W:World,(Instr.makeSlice 155 (.int .i64 (L:Int)) (.int .i64 (L:Int))).run Tryz.prog W = .ok (.slice (some ⟨W.heap.size,0,none⟩) L L) (W.alloc (.cells (madeCells (Value.agg #[.int .u64 0, .slice none 0 0]).cells (L * 2)) 298)):=fun W=>by
  have h:=run_makeSlice (P:=Tryz.prog) W 155 298 j0 _ Tryz.underlying155 hj0 hk0 .i64 .i64 (L:Int) (L:Int) (by omega) (by omega) (by rw [hk1];omega) (by rw [hk2];omega) (by omega)
  rw [hk1] at h
  simpa using h
 have HJ:Hid (∀ (wx:World) (d lb m1 c1:Nat) (A1:Option Addr),_):=fun wx d lb m1 c1 A1=>of_join (pl:=pl) (w:=w) (wx:=wx) (pb:=pb) (d:=d) (lb:=lb) (m1:=m1) (c1:=c1) (A1:=A1) h0
 generalize madeCells (Value.agg #[.int .u64 0, .slice none 0 0]).cells (L * 2)=M at *
 have HC:=hid (fun (W:World) (hW:Below w.heap.size w W)=>cloneU_any ⟨pb,0,none⟩ (8 * L) (8 * L) _ W ((hp.below hW).more hW.size) (by omega))
 generalize hN:8 * L=N at *
 have d1:(N:Int).tdiv 8=(L:Int):=by rw [Int.tdiv_eq_ediv_of_nonneg (by omega)];omega
 have d2:(N:Int) / 8=(L:Int):=by omega
 have wL:IntKind.i64.wrap (L:Int)=(L:Int):=by rw [IntKind.wrap_i64];omega
 have HN:=hid hN
 clear hN hp
 go_enter Tryz.func168,Tryz.ntmps168
 go_wp2_with fail
 go_cut [3] from 5 to 13 (fun v wx=>Hid (Of1 w wx pb L pl v))
 case first =>
  go_region_with (go_at_call 190;refine (HC.out _ (by first | exact (Below.refl _ _).drew | exact (Below.refl _ _).drew.alloc (Nat.le_refl _) _)).mono ?_;rintro e w1 ⟨A1,m1,c1,rfl,hm1,ho1,hb1⟩;have HO1:=hid ho1;have HB1:=hid hb1;have HM1:=hid hm1;clear ho1 hb1 hm1)
  ·go_wp2_with fail
   go_meet
   exact HJ.out _ _ _ _ _ _ (Blk.new2 _ _ _ _) ((HO1.out.alloc _).alloc _) HM1.out ((Blk.new _ _ _).alloc _) (((Below.refl w.heap.size w).drew.trans HB1.out).alloc HB1.out.size _ |>.alloc (Nat.le_trans HB1.out.size (by simp)) _) HB1.out.size (Nat.le_trans HB1.out.size (by simp))
  ·go_wp2_with fail
   go_meet
   have hb:Below w.heap.size w w1:=((Below.refl w.heap.size w).drew.alloc (Nat.le_refl _) _).trans (HB1.out.mono (by simp))
   exact HJ.out _ _ _ _ _ _ (Blk.new _ _ _) ((own_le HO1.out (by simp)).alloc _) HM1.out (((Blk.new w.drew _ _).below HB1.out (Blk.new w.drew _ _).lt).alloc _) (hb.alloc hb.size _) (Nat.le_refl _) hb.size
 case rest =>
  obtain ⟨d,cb,cc,lb,cs,ls,rfl,hd,hc,hcs,hc1,hc2,hru,hl,hls,hb,g1,g2,g3⟩:=hcut.out
  have HI0:Hid (OfI w wc pb L d cb cc lb cs ls (fun _=>0) (fun _=>0) 0):=⟨⟨_,hd,rfl,rfl,rfl,rfl,rfl,rfl,rfl,rfl,fun j hj=>by omega⟩,hc,hl,fun j hj=>by omega,fun h=>by omega,hb,g3,fun j hj=>by omega⟩
  have HF:=hid (show cs.size=cc∧8 * L≤cc∧cc≤9223372036854775807∧RowU cs pl∧ls=madeCells (Value.agg #[.int .u64 0, .slice none 0 0]).cells (L * 2)∧w.heap.size≤cb∧w.heap.size≤lb from ⟨hcs,hc1,hc2,hru,hls,g1,g2⟩)
  clear hcut hd hc hru hl hls hb HC HJ hmk d1 d2 wL
  go_wp2
  go_loopw [14] (fun i wr=>∃ (k:Nat) (th nt:Nat→Nat),k≤8∧i = .int .i64 k∧Hid (OfI w wr pb L d cb cc lb cs ls th nt k)) (fun i _=>8 - (RowKit.intOf i).toNat)
  case atStart=>exact ⟨0,_,_,Nat.zero_le _,rfl,HI0⟩
  case round =>
   clear HI0
   obtain ⟨k,th,nt,hk,rfl,H⟩:=hrel
   by_cases hlt:k < 8
   ·obtain ⟨dc,hdb,hds,_⟩:=H.out.dev
    obtain ⟨u0,hu0⟩:∃ u,dc[3+k]?=some u:=⟨_,Array.getElem?_eq_getElem (by omega)⟩
    have c0:wr.cell? ⟨d,3+k,none⟩=some u0:=by rw [hdb.cell];exact hu0
    have c1:wr.frozen? ⟨d,3+k,none⟩=false:=hdb.frozen _
    have hdl:=hdb.lt
    have hmm:∀ W:World,(Instr.makeMap 266 none).run Tryz.prog W = .ok (.map (some W.heap.size)) (W.alloc (.map #[] 0)):=fun _=>rfl
    have hz0:(0:Int)≤(k:Int):=by omega
    have hz1:(k:Int) < 8:=by omega
    have HN1:=hid (ofStep H.out hlt)
    clear H hdb hds hu0
    go_wp2
    exact ⟨⟨k+1,_,_,by omega,by go_num,HN1⟩,by simp [RowKit.intOf];omega⟩
   ·obtain rfl:k=8:=by omega
    go_wp2
    go_ret
    exact ⟨d,cb,cc,lb,cs,ls,th,nt,rfl,H.out,HF.out⟩
end
section
open Go.RowKit Go.Maps
theorem own_off {w:World} {S:Fp} {base:Nat} {e:TypeId} {size m c n:Nat} {A:Option Addr} {xs:List Value} (ho:w.ownsRow base e size (.slice A m c) n xs) (hb:∀ k,S k→k < base):∀ ad,A=some ad→¬ S ad.block:=fun ad had hs=>by
 rcases ho.2 with ⟨hv,_⟩ | ⟨g,cap,cs,hv,hge,_⟩
 ·injection hv with h1;rw [h1] at had;cases had
 ·injection hv with h1
  rw [h1] at had
  injection had with h2
  subst h2
  have:=hb _ hs
  simp at this
  omega
theorem wrS_out (s:Nat):∀ (l:List (Nat × Nat)) (n k:Nat) (cur:Nat→Nat),(k < 8 * s+8+2 * n∨8 * s+8+2 * (n+l.length)≤k)→wrS cur (entW (64 * s) n l) k=cur k
 | [],n,k,cur,_=>rfl
 | e :: l,n,k,cur,h=>by
  simp only [List.length_cons] at h
  show wrS (upd (upd cur ((64 * s+64+16 * n) / 8) e.1) ((64 * s+64+16 * n+8) / 8) e.2) (entW (64 * s) (n+1) l) k=_
  rw [wrS_out s l (n+1) k _ (by omega)]
  simp only [upd]
  rw [if_neg (by omega),if_neg (by omega)]
end
section
open Go.RowKit
def RetSum32 (w:World) (e:Ending) (w':World):Prop:=∃ v:Nat,v < 4294967296∧e = .returned (.int .u32 (v:Int))∧w=w'
theorem words_any (A:Option Addr) (n cap B:Nat) (xs:List Nat) (w:World) (hrd:Reads w B 1 A n (uCells xs)) (hv:∀ x∈xs,x < 18446744073709551616) (hn:n≤1000000) (ht:Tab w) :
  Calls Tryz.prog 249 #[.slice A n cap] w (RetSum32 w):=by
 have HR:=hid hrd
 have HT:=hid ht
 have HV:Hid (∀ k (hk:k < xs.length),xs[k] < 18446744073709551616):=hid (fun k hk=>hv _ (List.getElem_mem hk))
 have uc:IntKind.u32.signed=false:=rfl
 clear hrd hv ht
 go_enter Tryz.func249,Tryz.ntmps249
 go_wp2
 go_loopw [3,8] (fun r i wr=>∃ k s:Nat,k≤n∧s < 4294967296∧i = .int .i64 (k:Int)∧r = .int .u32 (s:Int)∧Hid (w=wr)) (fun _ i _=>n - (Go.RowKit.intOf i).toNat)
 case atStart=>exact ⟨0,4294967295,Nat.zero_le _,by omega,by go_num,by go_num,hid rfl⟩
 case round =>
  obtain ⟨k,s,hk,hs,rfl,rfl,hw⟩:=hrel
  have hw:=hw.out
  subst hw
  by_cases hlt:k < n
  ·obtain ⟨hkl,b,off,hA,hbB,q0⟩:=u_facts HR.out hlt
   subst hA
   have hx:=HV.out k hkl
   have hz5:(0:Int)≤(k:Int):=by omega
   have hz6:(k:Int) < (n:Int):=by omega
   generalize xs[k]=x at *
   go_wp2
   clear q0
   go_loopw [3,5,12] (fun r y i wr=>∃ j s z:Nat,j≤8∧s < 4294967296∧z < 18446744073709551616∧i = .int .i64 (j:Int)∧r = .int .u32 (s:Int)∧y = .int .u64 (z:Int)∧Hid (w=wr)) (fun _ _ i _=>8 - (Go.RowKit.intOf i).toNat)
   case atStart=>exact ⟨0,s,x,by omega,hs,hx,by go_num,rfl,rfl,hid rfl⟩
   case round =>
    clear hs hx
    obtain ⟨j,s,z,hj,hs,hz,rfl,rfl,rfl,hw⟩:=hrel
    have hw:=hw.out
    subst hw
    by_cases h8:j < 8
    ·have e1:IntKind.u8.wrap (z:Int)=((z % 256:Nat):Int):=by rw [IntKind.wrap_u8];omega
     have HS:=hid (step_any s (z % 256) hs (by omega) w HT.out)
     have hst:=Crc.step_lt hs (show z % 256 < 256 by omega)
     generalize z % 256=by_ at *
     generalize Crc.step s by_=s2 at *
     have hz8:(z:Int) / 256=((z / 256:Nat):Int):=by omega
     have hz9:z / 256 < 18446744073709551616:=by omega
     generalize z / 256=z2 at *
     go_wp2_with fail
     refine HS.out.mono ?_
     rintro e w1 ⟨rfl,rfl⟩
     go_wp2
     go_roundw
     case rel=>exact ⟨j+1,s2,z2,by omega,hst,hz9,by go_num,rfl,rfl,hid trivial⟩
     case measure=>simp [Go.RowKit.intOf];omega
    ·have h8':j=8:=by omega
     subst h8'
     go_wp2
     go_roundw
     case rel =>
      first
       | exact ⟨k+1,s,by omega,hs,by go_num,rfl,hid trivial⟩
       | (
         repeat apply Exists.intro
         refine ⟨?_,trivial⟩
         exact ⟨k+1,s,by omega,hs,by go_num,rfl,hid trivial⟩)
       | (
         refine ⟨_,?_⟩
         exact ⟨k+1,s,by omega,hs,by go_num,rfl,hid trivial⟩)
     case measure=>simp [Go.RowKit.intOf];omega
  ·have hkn:k=n:=by omega
   subst hkn
   have hx:=u32_not s hs
   have hlt2:s ^^^ Crc.ones < 4294967296:=Crc.xor_lt hs (by decide)
   generalize s ^^^ Crc.ones=v at *
   go_wp2
   go_ret
   exact ⟨v,hlt2,by first | rfl | (rw [hx]),rfl⟩
end
end Go.Proofs.YtfkjjoglnmeciaaGreatDoor
