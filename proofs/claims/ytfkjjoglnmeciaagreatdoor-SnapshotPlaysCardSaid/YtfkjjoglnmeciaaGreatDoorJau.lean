/- The walks and laws that the claim leans on, part 21. -/
import Derived.Test.YtfkjjoglnmeciaaGreatDoorJat
set_option maxRecDepth 100000
set_option maxHeartbeats 16000000
namespace Go.Proofs.YtfkjjoglnmeciaaGreatDoor
open Go.Lib (hid)
section
open Go.RowKit
theorem lev_wbN (x:Nat):∀ j,lev (wb x j)=x % 256 ^ j
 | 0=>by simp [wb,lev,Nat.mod_one]
 | j+1=>by rw [wb_succ,lev_snoc,lev_wbN x j,show (wb x j).length=j by simp [wb],Nat.pow_succ,Nat.mod_mul]
theorem pack_unp {xs:List Nat} (hx:∀ x∈xs,x < 18446744073709551616):packW (unpB xs (8 * xs.length))=xs:=by
 apply List.ext_getElem
 ·simp [packW,unpB_len];omega
 ·intro j h1 h2
  have e:((unpB xs (8 * xs.length)).drop (8 * j)).take 8=wb xs[j] 8:=by
   apply List.ext_getElem
   ·simp [unpB_len,wb];omega
   ·intro i h3 h4
    have hi:i < 8:=by simpa [wb] using h4
    rw [List.getElem_take,List.getElem_drop]
    simp only [unpB,wb,List.getElem_map,List.getElem_range]
    rw [show (8 * j+i) / 8=j by omega,show (8 * j+i) % 8=i by omega,List.getD_eq_getElem?_getD,List.getElem?_eq_getElem h2]
    rfl
  simp only [packW,List.getElem_map,List.getElem_range]
  rw [e,lev_wbN,Nat.mod_eq_of_lt (Nat.lt_of_lt_of_le (hx _ (List.getElem_mem h2)) (by decide))]
def RetFrm (w:World) (L:Nat) (D:Nat→Prop) (cur:Nat→Nat) (e:Ending) (w':World):Prop:=RetNew w L D (fun d => .tuple #[.pointer (some ⟨d,0,none⟩), .int .i64 0]) cur e w'
theorem from_any (D:Nat→Prop) (g L:Nat) (p:List Nat) (w:World) (h:Reads w w.heap.size 1 (some ⟨g,0,none⟩) (64 * L) (u8s p)) (hp:∀ b∈p,b < 256) (h0:0 < L) (hL:L≤4096) :
  Calls Tryz.prog 93 #[.slice (some ⟨g,0,none⟩) (64 * L) (64 * L)] w (RetFrm w L D (fun k=>(packW p).getD k 0)):=by
 obtain ⟨q,hq⟩:∃ q,8 * L=q:=⟨_,rfl⟩
 obtain ⟨n,hn⟩:∃ n,64 * L=n:=⟨_,rfl⟩
 have hl0:p.length=64 * L:=by have:=h.1;simp [u8s] at this;omega
 have hpk:(packW p).length=8 * L:=by simp [packW,hl0];omega
 have HO:Hid (∀ wx cs,Blk wx w.heap.size 32 cs→cs.size=8 * L→(∀ j,j < 8 * L→cs[j]?=some (.int .u64 (pkW p (64 * L) j:Int)))→Below w.heap.size w wx→Calls Tryz.prog 168 #[.slice (some ⟨w.heap.size,0,none⟩) (8 * L) (8 * L)] wx fun e w'=>∃ d:Nat,e = .returned (.pointer (some ⟨d,0,none⟩))∧RetFrm w L D (fun k=>(packW p).getD k 0) (.returned (.tuple #[.pointer (some ⟨d,0,none⟩), .int .i64 0])) w'):=hid (fun wx cs hB hsz hcs hb=>by
  have hru:RowU cs (packW p):=⟨by rw [hpk,hsz];exact Nat.le_refl _,fun i hi=>by
   rw [hcs i (by omega),← hl0,pkW_end]
   simp only [packW,List.getElem_map,List.getElem_range]⟩
  have hr:Reads wx wx.heap.size 1 (some ⟨w.heap.size,0,none⟩) (8 * L) (uCells (packW p)):=reads_of_blk hB (by simp [uCells,hpk]) (fun j u hu=>by
   have hj:j < (packW p).length:=by
    have h1:=(List.getElem?_eq_some_iff.1 hu).1
    simpa [uCells] using h1
   rw [hru.2 j hj,← hu]
   simp [uCells,hj])
  refine (of_any w.heap.size L (packW p) hL h0 wx hr).mono ?_
  rintro e w1 ⟨d,cb,cc,lb,cs1,ls,th,nt,rfl,h1,h2,h3,h4,h5,h6,h7,h8⟩
  exact ⟨d,rfl,dev_of (w0:=w) D (fun d => .tuple #[.pointer (some ⟨d,0,none⟩), .int .i64 0]) hL (Nat.le_refl _) hB hsz hru hpk hb h1 h2 h3 h4 h5 h6 h7 h8⟩)
 have HR:=hid h
 have HP:=hid hp
 have HL:=hid hl0
 have hmk:=makeU q (by omega)
 have hz1:(n:Int) % 64=0:=by omega
 have hz2:(n:Int) / 64=(L:Int):=by omega
 have hz3:(n:Int) / 8=(q:Int):=by omega
 have hz4:((n:Int) == 0)=false:=by rw [beq_eq_false_iff_ne];omega
 have hz7:(L:Int)≤4096:=by omega
 have hq8:n≤8 * q∧8 * q≤n:=by omega
 rw [hn] at HL HR HO
 rw [hq] at HO
 rw [hn]
 have hql:q≤40000:=by omega
 clear h hp hl0 hpk hq hn
 go_enter Tryz.func93,Tryz.ntmps93
 go_wp2_with fail
 go_loopw [26] (fun i wr=>∃ k:Nat,k≤n∧i = .int .i64 (k:Int)∧Hid (∃ cs,Blk wr w.heap.size 32 cs∧cs.size=q∧∀ j,j < q→cs[j]?=some (.int .u64 (pkW p k j:Int)))∧Hid (Below w.heap.size w wr)) (fun i _=>n - (Go.RowKit.intOf i).toNat)
 case atStart =>
  refine ⟨0,Nat.zero_le _,rfl,hid ⟨_,Blk.new w _ _,madeU_size q,fun j hj=>?_⟩,hid ((Below.refl _ _).alloc (Nat.le_refl _) _)⟩
  rw [madeU_at q j hj,pkW_zero]
  rfl
 case round =>
  obtain ⟨k,hk,rfl,HC,HB⟩:=hrel
  by_cases hlt:k < n
  ·obtain ⟨hl,b,off,hA,hbB,f0⟩:=b_facts (HR.out.below HB.out) hlt
   injection hA with hA
   injection hA with hA1 hA2 _
   subst hA1
   subst hA2
   rw [Nat.zero_add] at f0
   obtain ⟨cs,hB,hsz,hcs⟩:=HC.out
   have hkq:k / 8 < q:=by omega
   have c0:=hcs (k / 8) hkq
   obtain ⟨l,e1,e2,e3,e4⟩:=pkW_same hl HP.out
   have hb256:p[k] < 256:=HP.out _ (List.getElem_mem hl)
   have HN:Hid (∃ cs',Blk (wr.setCell ⟨w.heap.size,k / 8,none⟩ (.int .u64 (pkW p (k+1) (k / 8):Int))) w.heap.size 32 cs'∧cs'.size=q∧∀ j,j < q→cs'[j]?=some (.int .u64 (pkW p (k+1) j:Int))):=hid ⟨_,hB.set_ (k / 8) _,by simp [hsz],fun j hj=>by
    rw [Array.getElem?_setIfInBounds]
    by_cases e:k / 8=j
    ·subst e
     simp [hsz,hkq]
    ·rw [if_neg e,hcs j hj,pkW_other hl e]⟩
   have HB2:Hid (Below w.heap.size w (wr.setCell ⟨w.heap.size,k / 8,none⟩ (.int .u64 (pkW p (k+1) (k / 8):Int)))):=hid (HB.out.setCell (Nat.le_refl _) _)
   rw [e2] at HN HB2
   rw [e1] at c0
   have f1:wr.cell? ⟨w.heap.size,k / 8,none⟩=some (.int .u64 (lev l:Int)):=by rw [hB.cell];exact c0
   have z1:wr.frozen? ⟨w.heap.size,k / 8,none⟩=false:=hB.frozen _
   have hx:=or_lev e4 (by omega) hb256
   have HX:Hid (bits .or .u64 (lev l:Int) (IntKind.u64.wrap (((p[k]:Nat):Int) * 2 ^ (k % 8 * 8)))=(lev (l++[p[k]]):Int)):=hid (by
    have h1:(p[k] * 2 ^ (8 * l.length):Nat)≤255 * 2 ^ 56:=Nat.mul_le_mul (by omega) (Nat.pow_le_pow_right (by omega) (by omega))
    have h2:(255:Nat) * 2 ^ 56=18374686479671623680:=by decide
    rw [← hx,e3,Nat.mul_comm 8 (k % 8)]
    rw [e3,Nat.mul_comm 8 (k % 8)] at h1
    have h3:(((p[k]:Nat):Int) * 2 ^ (k % 8 * 8))=((p[k] * 2 ^ (k % 8 * 8):Nat):Int):=by push_cast;rfl
    rw [h3,wraps_u64 _ (by omega) (by omega)])
   clear hx
   clear e1 e2 e4 hB hcs hsz c0 HC hbB e3
   generalize p[k]=bt at *
   have hz5:(0:Int)≤(k:Int):=by omega
   have hz6:(k:Int) < (n:Int):=by omega
   go_wp2
   go_roundw
   case rel =>
    first
     | (
       refine ⟨k+1,by omega,by go_num,?_,?_⟩
       ·rw [HX.out];exact HN
       ·rw [HX.out];exact HB2)
     | (
       repeat apply Exists.intro
       refine ⟨?_,rfl⟩
       refine ⟨k+1,by omega,by go_num,?_,?_⟩
       ·rw [HX.out];exact HN
       ·rw [HX.out];exact HB2)
   case measure=>simp [Go.RowKit.intOf];omega
  ·have hkn:k=n:=by omega
   obtain ⟨cs,hB,hsz,hcs⟩:=HC.out
   have HF:=hid (HO.out wr cs hB hsz (fun j hj=>by rw [← hkn];exact hcs j hj) HB.out)
   have hd1:decide ((k:Int) < (n:Int))=false:=decide_eq_false (by omega)
   have hd2:decide (k < n)=false:=decide_eq_false hlt
   clear hkn hlt hk HC HO hB hcs hsz
   go_wp2_with (go_at_call 168;refine HF.out.mono ?_;rintro e w1 ⟨d,rfl,h2⟩;have HZ:=hid h2;clear h2)
   go_ret2
   exact HZ.out
end
section
open Go.RowKit
theorem image_still {a:DA} {L:Nat} {w:World} {cur:Nat→Nat} (h:Still a L cur w) (hb:∀ i,cur i < 18446744073709551616) (h0:0 < L) (A:Option Addr) (n c:Nat) :
  Calls Tryz.prog 94 #[.pointer (some ⟨a.d,0,none⟩), .slice A n c] w (RetByo w (unpB ((List.range (8 * L)).map cur) (64 * L))):=by
 obtain ⟨xs,hxs⟩:∃ xs,(List.range (8 * L)).map cur=xs:=⟨_,rfl⟩
 have hlen:xs.length=8 * L:=by rw [← hxs];simp
 have hx64:∀ x∈xs,x < 18446744073709551616:=fun x hx=>by
  rw [← hxs] at hx
  obtain ⟨i,_,rfl⟩:=List.mem_map.1 hx
  exact hb i
 have h5:=h.hL
 have hd:=h.dev
 have hper:=h.per
 rw [hxs] at hper ⊢
 have HDr:=hid (fun W (hW:Below w.heap.size w W)=>dirty_still (h.below hW))
 obtain ⟨exe,h1⟩:=hd
 have f0:w.cell? ⟨a.d,0,none⟩=some (.slice (some ⟨a.pb,0,none⟩) (8 * L) (8 * L)):=h1.cell 0
 have hrd:=uA_reads hper
 rw [hlen] at hrd
 have HCl:=hid (cloneU_any ⟨a.pb,0,none⟩ (8 * L) (8 * L) xs w hrd (by omega))
 have HBy:=hid (fun (A:Option Addr) (c:Nat) (W:World) (hr:Reads W W.heap.size 1 A (8 * L) (uCells xs))=>bytesOf_any A (8 * L) c (64 * L) xs W hr hx64 (by omega) (by omega))
 generalize unpB xs (64 * L)=bs at *
 generalize 8 * L=q at *
 clear h hb hper h1 hrd hlen hx64 hxs h0 h5
 by_cases hn:0 < n
 ·have d1:decide ((0:Int) < (n:Int))=true:=decide_eq_true (by omega)
  have d2:(0:Int) < (n:Int):=by omega
  go_enter Tryz.func94,Tryz.ntmps94
  go_wp2_with (first
   | (go_at_call 190;refine HCl.out.mono ?_;rintro e w1 ⟨A1,m1,c1,rfl,rfl,ho1,hb1⟩;have HR1:=hid (Reads.of_own ho1);have HB1:=hid hb1;have HD1:=hid (HDr.out _ hb1);clear ho1 hb1)
   | (go_at_call 191;refine HD1.out.mono ?_;rintro e w2 ⟨rfl,rfl⟩)
   | fail)
  refine wp_loop_rounds 1 ?_
  rw [rounds_succ]
  have HF:=hid (HBy.out _ c1 _ HR1.out)
  go_wp2_with (first
   | (go_at_call 193;refine HF.out.mono ?_;rintro e w3 ⟨g,rfl,h3,hb3⟩;have H3:=hid h3;have HB3:=hid (HB1.out.trans (hb3.mono HB1.out.size));clear h3 hb3)
   | fail)
  go_ret
  exact ⟨g,rfl,H3.out,HB3.out⟩
 ·have d1:decide ((0:Int) < (n:Int))=false:=decide_eq_false (by omega)
  have d2:¬ (0:Int) < (n:Int):=by omega
  go_enter Tryz.func94,Tryz.ntmps94
  go_wp2_with (first
   | (go_at_call 190;refine HCl.out.mono ?_;rintro e w1 ⟨A1,m1,c1,rfl,rfl,ho1,hb1⟩;have HR1:=hid (Reads.of_own ho1);have HB1:=hid hb1;have HF:=hid (HBy.out _ c1 _ HR1.out);clear ho1 hb1)
   | (go_at_call 193;refine HF.out.mono ?_;rintro e w3 ⟨g,rfl,h3,hb3⟩;have H3:=hid h3;have HB3:=hid (HB1.out.trans (hb3.mono HB1.out.size));clear h3 hb3)
   | fail)
  go_ret
  exact ⟨g,rfl,H3.out,HB3.out⟩
theorem Dev.congr {a:DA} {L T:Nat} {w:World} {S:Fp} {cur cur':Nat→Nat} {F:Nat} (h:Dev a L T w S cur F) (e:∀ k,k < 8 * L→cur k=cur' k):Dev a L T w S cur' F:=by
 obtain ⟨s,exe,per,cs,ls,hc,hn,hcl⟩:=h
 exact ⟨s,exe,per,cs,ls,{ hc with curI:=fun i hi=>by rw [← e i hi];exact hc.curI i hi,link:=fun k hk=>by rw [← e k hk];exact hc.link k hk },hn,hcl⟩
theorem crashD_still (D:Nat→Prop) {a:DA} {L:Nat} {w:World} {cur:Nat→Nat} (h:Still a L cur w) (hb:∀ i,cur i < 18446744073709551616) (h0:0 < L) (A:Option Addr) (n c:Nat) :
  Calls Tryz.prog 16 #[.pointer (some ⟨a.d,0,none⟩), .slice A n c] w (RetNew w L D (fun d => .pointer (some ⟨d,0,none⟩)) cur):=by
 have hL:=h.hL
 have HI:=hid (image_still h hb h0 A n c)
 have hlen:(unpB ((List.range (8 * L)).map cur) (64 * L)).length=64 * L:=unpB_len _ _
 have hb256:∀ b∈unpB ((List.range (8 * L)).map cur) (64 * L),b < 256:=fun b hb=>by
  unfold unpB at hb
  obtain ⟨i,_,rfl⟩:=List.mem_map.1 hb
  exact Nat.mod_lt _ (by omega)
 have HFr:Hid (∀ (g:Nat) (W:World),Below w.heap.size w W→Reads W W.heap.size 1 (some ⟨g,0,none⟩) (64 * L) (u8s (unpB ((List.range (8 * L)).map cur) (64 * L)))→Calls Tryz.prog 93 #[.slice (some ⟨g,0,none⟩) (64 * L) (64 * L)] W fun e w'=>∃ d:Nat,e = .returned (.tuple #[.pointer (some ⟨d,0,none⟩), .int .i64 0])∧RetNew w L D (fun d => .pointer (some ⟨d,0,none⟩)) cur (.returned (.pointer (some ⟨d,0,none⟩))) w'):=hid (fun g W hW hr=>by
  refine (from_any D g L _ W hr hb256 h0 hL).mono ?_
  rintro e w' ⟨a',S',rfl,hD,hdev,hS,hbl⟩
  refine ⟨a'.d,rfl,a',S',rfl,hD,?_,fun k hk=>Nat.le_trans hW.size (hS k hk),hW.trans (hbl.mono hW.size)⟩
  refine hdev.congr (fun k hk=>?_)
  have e1:=pack_unp (xs:=(List.range (8 * L)).map cur) (fun x hx=>by obtain ⟨i,_,rfl⟩:=List.mem_map.1 hx;exact hb i)
  have e2:8 * ((List.range (8 * L)).map cur).length=64 * L:=by simp;omega
  rw [e2] at e1
  rw [e1]
  simp [List.getD_eq_getElem?_getD,hk])
 generalize unpB ((List.range (8 * L)).map cur) (64 * L)=bs at *
 clear h hb hb256
 go_enter Tryz.func16,Tryz.ntmps16
 go_wp2_with (first
  | (go_at_call 94;refine HI.out.mono ?_;rintro e w1 ⟨g,rfl,hr1,hb1⟩;rw [hlen] at hr1 ⊢;have HF1:=hid (HFr.out g _ hb1 hr1);clear hr1 hb1)
  | (go_at_call 93;refine HF1.out.mono ?_;rintro e w2 ⟨d,rfl,h2⟩;have HZ:=hid h2;clear h2)
  | fail)
 go_ret
 exact HZ.out
end
section
open Go.RowKit Go.Maps
def sndS (st:Nat):List (List Nat × Nat)→List (List Nat × Nat)→Bool
 | _,[]=>true
 | pre,x :: t=>(nmOk (strN x.1) && (decide (x.2≤st) && decide (fndS (strN x.1) 0 pre < 0))) && sndS st (pre++[x]) t
def sndP (st:Nat) (l:List (List Nat × Nat)):Bool:=decide (st≤4611686018427387903) && sndS st [] l
theorem itCells_take (l:List (List Nat × Nat)) (k:Nat) (h:k≤l.length):(itCells l).take (k * 2)=itCells (l.take k):=by
 have e:itCells l=itCells (l.take k)++itCells (l.drop k):=by
  unfold itCells
  rw [← List.flatMap_append,List.take_append_drop]
 rw [e,List.take_left' (by rw [itCells_len,List.length_take];omega)]
theorem reads_takeI {w:World} {B n m:Nat} {A:Option Addr} {l:List (List Nat × Nat)} (h:Reads w B 2 A n (itCells l)) (hm:m≤n):Reads w B 2 A m (itCells (l.take m)):=by
 have hl:l.length=n:=by have:=h.1;rw [itCells_len] at this;omega
 rw [← itCells_take l m (by omega)]
 obtain ⟨h1,h2⟩:=h
 refine ⟨by rw [List.length_take];omega,fun hp=>?_⟩
 obtain ⟨ad,e,hb,hc⟩:=h2 (by omega)
 refine ⟨ad,e,hb,fun j u hu=>hc j u ?_⟩
 rw [List.getElem?_take] at hu
 split at hu
 ·exact hu
 ·cases hu
theorem fndS_ge (s:ByteArray):∀ (i:Nat) (l:List (List Nat × Nat)), -1≤fndS s i l∧fndS s i l < (i:Int)+l.length∧(fndS s i l < 0→fndS s i l = -1)
 | i,[]=>by
  refine ⟨Int.le_refl _,?_,fun _=>rfl⟩
  show (-1:Int) < (i:Int)+0
  omega
 | i,p :: t=>by
  unfold fndS
  by_cases h:strN p.1=s
  ·rw [if_pos h]
   refine ⟨by omega,by rw [List.length_cons];omega,fun h=>by omega⟩
  ·rw [if_neg h]
   obtain ⟨h1,h2,h3⟩:=fndS_ge s (i+1) t
   refine ⟨h1,by rw [List.length_cons];push_cast at h2 ⊢;omega,h3⟩
theorem sound_any (A:Option Addr) (n c st:Nat) (l:List (List Nat × Nat)) (w:World) (h:Reads w w.heap.size 2 A n (itCells l)) (hnc:n≤c) (hn:n≤8) (hl16:∀ p∈l,(strN p.1).size≤9223372036854775807) :
  Calls Tryz.prog 327 #[.int .u64 (st:Int), .slice A n c] w fun e w'=>e = .returned (.bool (sndP st l))∧Below w.heap.size w w':=by
 have hl0:l.length=n:=by have:=h.1;rw [itCells_len] at this;omega
 have HR:=hid h
 have HL:=hid hl0
 have H16:=hid hl16
 have HB0:Hid (Below w.heap.size w w):=Below.refl _ _
 by_cases hst:st≤4611686018427387903
 ·have HP:Hid (sndP st l=sndS st (l.take 0) (l.drop 0)):=hid (by unfold sndP;rw [decide_eq_true hst];rfl)
  have hsi:(st:Int)≤4611686018427387903:=by omega
  generalize sndP st l=Y at *
  clear h hl0 hl16 hst
  go_enter Tryz.func327,Tryz.ntmps327
  go_wp2_with fail
  go_loopw [11] (fun v wr=>∃ k:Nat,k≤n∧v = .int .i64 (k:Int)∧Hid (Y=sndS st (l.take k) (l.drop k))∧Hid (Below w.heap.size w wr)) (fun v _=>n - (Go.RowKit.intOf v).toNat)
  case atStart=>exact ⟨0,Nat.zero_le _,rfl,HP,HB0⟩
  case round =>
   clear HP HB0
   obtain ⟨k,hk,rfl,HN,H⟩:=hrel
   by_cases hlt:k < n
   ·have hr1:=(HR.out.below H.out).more H.out.size
    obtain ⟨hkl,gb,go,hA3,_,f0,f1⟩:=it_facts hr1 (k:=k) hlt
    subst hA3
    have HS:Hid (Y=((nmOk (strN (l[k]).1) && (decide ((l[k]).2≤st) && decide (fndS (strN (l[k]).1) 0 (l.take k) < 0))) && sndS st (l.take (k+1)) (l.drop (k+1)))):=hid (by
     rw [HN.out,List.drop_eq_getElem_cons hkl,List.take_succ_eq_append_getElem hkl]
     rfl)
    have hsz:=H16.out _ (List.getElem_mem hkl)
    have HT:=hid (reads_takeI hr1 (m:=k) (by omega))
    generalize l[k]=p at *
    obtain ⟨pn,pv⟩:=p
    dsimp only at f0 f1 HS hsz
    have hz5:(0:Int)≤(k:Int):=by omega
    have hz6:(k:Int) < (n:Int):=by omega
    obtain ⟨W2,hW2⟩:∃ W2,wr.alloc (.cells #[.string (strN pn), .int .u64 (pv:Int)] 368)=W2:=⟨_,rfl⟩
    have hb2:Below wr.heap.size wr W2:=by rw [← hW2];exact (Below.refl _ _).alloc (Nat.le_refl _) _
    have hk2:Blk W2 wr.heap.size 368 #[.string (strN pn), .int .u64 (pv:Int)]:=by rw [← hW2];exact Blk.new _ _ _
    have HW2:=hid hW2
    have HB2:=hid hb2
    have HK2:=hid hk2
    clear hW2 hb2 hk2 hr1 HN
    go_upto_region 6 with fail
    rw [HW2.out]
    have HVl:=hid (fun W=>valid_any (strN pn) hsz W)
    have HFn:=hid (fun W (hW:Below wr.heap.size wr W) c'=>findS_any (some ⟨gb,go,none⟩) k c' (l.take k) (strN pn) W ((HT.out.below hW).more hW.size) (by omega))
    have hge:=fndS_ge (strN pn) 0 (l.take k)
    have HB2d:Hid (Below wr.heap.size wr W2.drew):=hid HB2.out.drew
    have c0:W2.cell? ⟨wr.heap.size,0,none⟩=some (.string (strN pn)):=HK2.out.cell 0
    have c1:W2.cell? ⟨wr.heap.size,1,none⟩=some (.int .u64 (pv:Int)):=HK2.out.cell 1
    obtain ⟨ok1,hok1⟩:∃ b,nmOk (strN pn)=b:=⟨_,rfl⟩
    obtain ⟨fi,hfi⟩:∃ i,fndS (strN pn) 0 (l.take k)=i:=⟨_,rfl⟩
    rw [hok1] at HVl HS
    rw [hfi] at HFn HS hge
    have hnc2:(n:Int)≤(c:Int):=by omega
    clear hok1 hfi hsz f0 f1 HT
    go_cut [34] from 16 to 34 (fun v wx=>v = .bool (!(ok1 && (decide (pv≤st) && decide (fi < 0))))∧Hid (Below wr.heap.size wr wx))
    case first =>
     cases ok1
     ·refine wp_region_script (fun w'=>Below wr.heap.size wr w'∧w'.cell? ⟨wr.heap.size,0,none⟩=some (.string (strN pn))∧w'.cell? ⟨wr.heap.size,1,none⟩=some (.int .u64 (pv:Int))) 16 [(true,0),(true,1),(false,2),(true,3),(true,4),(true,5),(true,6),(true,7),(true,8),(true,9),(true,10),(true,11),(true,12),(true,13),(true,14),(true,15)] (by kernel_rfl) (by kernel_rfl) ⟨HB2d.out,c0,c1⟩ ?_
      refine wpScript_take (.pointer (some ⟨wr.heap.size,0,none⟩)) (by rfl) (by rfl) (fun w' hS=>?_) ?_
      ·go_simp
      simp only [zA,zB,Act.put,zD,zE,zF]
      refine wpScript_take (.string (strN pn)) (by rfl) (by rfl) (fun w' hS=>?_) ?_
      ·obtain ⟨_,s1,s2⟩:=hS
       go_simp
      simp only [zA,zB,zC,Act.put,zD,zE,zF]
      refine wpScript_do (by rfl) ?_
      go_wp2_with (go_at_call 261;refine (HVl.out _).mono ?_;rintro e w3 ⟨rfl,rfl⟩)
      refine ⟨⟨HB2d.out,c0,c1⟩,?_⟩
      refine wpScript_take (.bool true) (by rfl) (by rfl) (fun w' hS=>?_) ?_
      ·go_simp
      simp only [zA,zB,zC,Act.put,zD,zE,zF]
      refine wpScript_take (.bool true) (by rfl) (by rfl) (fun w' hS=>?_) ?_
      ·go_simp
      simp only [zA,zB,zC,Act.put,zD,zE,zF]
      refine wpScript_skip (by rfl) (by rfl) ?_
      simp only [zA,zB,zC,Act.put,zD,zE,zF]
      refine wpScript_skip (by rfl) (by rfl) ?_
      simp only [zA,zB,zC,Act.put,zD,zE,zF]
      refine wpScript_skip (by rfl) (by rfl) ?_
      simp only [zA,zB,zC,Act.put,zD,zE,zF]
      refine wpScript_skip (by rfl) (by rfl) ?_
      simp only [zA,zB,zC,Act.put,zD,zE,zF]
      refine wpScript_take (.bool true) (by rfl) (by rfl) (fun w' hS=>?_) ?_
      ·go_simp
      simp only [zA,zB,zC,Act.put,zD,zE,zF]
      refine wpScript_take (.bool true) (by rfl) (by rfl) (fun w' hS=>?_) ?_
      ·go_simp
      simp only [zA,zB,zC,Act.put,zD,zE,zF]
      refine wpScript_skip (by rfl) (by rfl) ?_
      simp only [zA,zB,zC,Act.put,zD,zE,zF]
      refine wpScript_skip (by rfl) (by rfl) ?_
      simp only [zA,zB,zC,Act.put,zD,zE,zF]
      refine wpScript_skip (by rfl) (by rfl) ?_
      simp only [zA,zB,zC,Act.put,zD,zE,zF]
      refine wpScript_skip (by rfl) (by rfl) ?_
      simp only [zA,zB,zC,Act.put,zD,zE,zF]
      refine wpScript_skip (by rfl) (by rfl) ?_
      simp only [zA,zB,zC,Act.put,zD,zE,zF]
      show wpList _ _ _ _ _ _
      simp only [List.drop_succ_cons,List.drop_zero]
      go_wp2_with fail
      refine NoPanic.normal ?_
      go_wp2_with fail
      go_meet
      exact ⟨by first | rfl | (rw [HP.out];rfl),HB2d⟩
     ·by_cases hpv:pv≤st
      ·have hpi:(pv:Int)≤(st:Int):=by omega
       have HP:=hid (decide_eq_true hpv)
       clear hpv
       refine wp_region_script (fun w'=>Below wr.heap.size wr w'∧w'.cell? ⟨wr.heap.size,0,none⟩=some (.string (strN pn))∧w'.cell? ⟨wr.heap.size,1,none⟩=some (.int .u64 (pv:Int))) 16 [(true,0),(true,1),(false,2),(true,3),(true,4),(true,5),(true,6),(true,7),(true,8),(true,9),(true,10),(true,11),(true,12),(true,13),(true,14),(true,15)] (by kernel_rfl) (by kernel_rfl) ⟨HB2d.out,c0,c1⟩ ?_
       refine wpScript_take (.pointer (some ⟨wr.heap.size,0,none⟩)) (by rfl) (by rfl) (fun w' hS=>?_) ?_
       ·go_simp
       simp only [zA,zB,Act.put,zD,zE,zF]
       refine wpScript_take (.string (strN pn)) (by rfl) (by rfl) (fun w' hS=>?_) ?_
       ·obtain ⟨_,s1,s2⟩:=hS
        go_simp
       simp only [zA,zB,zC,Act.put,zD,zE,zF]
       refine wpScript_do (by rfl) ?_
       go_wp2_with (go_at_call 261;refine (HVl.out _).mono ?_;rintro e w3 ⟨rfl,rfl⟩)
       refine ⟨⟨HB2d.out,c0,c1⟩,?_⟩
       refine wpScript_take (.bool false) (by rfl) (by rfl) (fun w' hS=>?_) ?_
       ·go_simp
       simp only [zA,zB,zC,Act.put,zD,zE,zF]
       refine wpScript_take (.bool false) (by rfl) (by rfl) (fun w' hS=>?_) ?_
       ·go_simp
       simp only [zA,zB,zC,Act.put,zD,zE,zF]
       refine wpScript_take (.pointer (some ⟨wr.heap.size,1,none⟩)) (by rfl) (by rfl) (fun w' hS=>?_) ?_
       ·go_simp
       simp only [zA,zB,zC,Act.put,zD,zE,zF]
       refine wpScript_take (.int .u64 (pv:Int)) (by rfl) (by rfl) (fun w' hS=>?_) ?_
       ·obtain ⟨_,s1,s2⟩:=hS
        go_simp
       simp only [zA,zB,zC,Act.put,zD,zE,zF]
       refine wpScript_take (.int .u64 (st:Int)) (by rfl) (by rfl) (fun w' hS=>?_) ?_
       ·go_simp
       simp only [zA,zB,zC,Act.put,zD,zE,zF]
       refine wpScript_take (.bool false) (by rfl) (by rfl) (fun w' hS=>?_) ?_
       ·have hpn:pv≤st:=by omega
        go_simp
       simp only [zA,zB,zC,Act.put,zD,zE,zF]
       refine wpScript_take (.bool false) (by rfl) (by rfl) (fun w' hS=>?_) ?_
       ·go_simp
       simp only [zA,zB,zC,Act.put,zD,zE,zF]
       refine wpScript_take (.bool false) (by rfl) (by rfl) (fun w' hS=>?_) ?_
       ·go_simp
       simp only [zA,zB,zC,Act.put,zD,zE,zF]
       refine wpScript_take (.slice (some ⟨gb,go,none⟩) n c) (by rfl) (by rfl) (fun w' hS=>?_) ?_
       ·go_simp
       simp only [zA,zB,zC,Act.put,zD,zE,zF]
       refine wpScript_take (.int .i64 (k:Int)) (by rfl) (by rfl) (fun w' hS=>?_) ?_
       ·go_simp
       simp only [zA,zB,zC,Act.put,zD,zE,zF]
       refine wpScript_take (.slice (some ⟨gb,go,none⟩) k c) (by rfl) (by rfl) (fun w' hS=>?_) ?_
       ·have hkc:(k:Int)≤(c:Int):=by omega
        go_simp
       simp only [zA,zB,zC,Act.put,zD,zE,zF]
       refine wpScript_take (.pointer (some ⟨wr.heap.size,0,none⟩)) (by rfl) (by rfl) (fun w' hS=>?_) ?_
       ·go_simp
       simp only [zA,zB,zC,Act.put,zD,zE,zF]
       refine wpScript_take (.string (strN pn)) (by rfl) (by rfl) (fun w' hS=>?_) ?_
       ·obtain ⟨_,s1,s2⟩:=hS
        go_simp
       simp only [zA,zB,zC,Act.put,zD,zE,zF]
       show wpList _ _ _ _ _ _
       simp only [List.drop_succ_cons,List.drop_zero]
       go_wp2_with (go_at_call 262;refine (HFn.out _ HB2d.out c).mono ?_;rintro e w3 ⟨rfl,hb3⟩;have HB3:=hid (HB2d.out.trans (hb3.mono HB2d.out.size));clear hb3)
       refine NoPanic.normal ?_
       go_wp2_with fail
       go_meet
       exact ⟨by rw [HP.out];congr 1;by_cases h:fi < 0 <;> simp [h] <;> omega,HB3⟩
      ·have hpi:(st:Int) < (pv:Int):=by omega
       have HP:=hid (decide_eq_false hpv)
       clear hpv
       refine wp_region_script (fun w'=>Below wr.heap.size wr w'∧w'.cell? ⟨wr.heap.size,0,none⟩=some (.string (strN pn))∧w'.cell? ⟨wr.heap.size,1,none⟩=some (.int .u64 (pv:Int))) 16 [(true,0),(true,1),(false,2),(true,3),(true,4),(true,5),(true,6),(true,7),(true,8),(true,9),(true,10),(true,11),(true,12),(true,13),(true,14),(true,15)] (by kernel_rfl) (by kernel_rfl) ⟨HB2d.out,c0,c1⟩ ?_
       refine wpScript_take (.pointer (some ⟨wr.heap.size,0,none⟩)) (by rfl) (by rfl) (fun w' hS=>?_) ?_
       ·go_simp
       simp only [zA,zB,Act.put,zD,zE,zF]
       refine wpScript_take (.string (strN pn)) (by rfl) (by rfl) (fun w' hS=>?_) ?_
       ·obtain ⟨_,s1,s2⟩:=hS
        go_simp
       simp only [zA,zB,zC,Act.put,zD,zE,zF]
       refine wpScript_do (by rfl) ?_
       go_wp2_with (go_at_call 261;refine (HVl.out _).mono ?_;rintro e w3 ⟨rfl,rfl⟩)
       refine ⟨⟨HB2d.out,c0,c1⟩,?_⟩
       refine wpScript_take (.bool false) (by rfl) (by rfl) (fun w' hS=>?_) ?_
       ·go_simp
       simp only [zA,zB,zC,Act.put,zD,zE,zF]
       refine wpScript_take (.bool false) (by rfl) (by rfl) (fun w' hS=>?_) ?_
       ·go_simp
       simp only [zA,zB,zC,Act.put,zD,zE,zF]
       refine wpScript_take (.pointer (some ⟨wr.heap.size,1,none⟩)) (by rfl) (by rfl) (fun w' hS=>?_) ?_
       ·go_simp
       simp only [zA,zB,zC,Act.put,zD,zE,zF]
       refine wpScript_take (.int .u64 (pv:Int)) (by rfl) (by rfl) (fun w' hS=>?_) ?_
       ·obtain ⟨_,s1,s2⟩:=hS
        go_simp
       simp only [zA,zB,zC,Act.put,zD,zE,zF]
       refine wpScript_take (.int .u64 (st:Int)) (by rfl) (by rfl) (fun w' hS=>?_) ?_
       ·go_simp
       simp only [zA,zB,zC,Act.put,zD,zE,zF]
       refine wpScript_take (.bool true) (by rfl) (by rfl) (fun w' hS=>?_) ?_
       ·go_simp
       simp only [zA,zB,zC,Act.put,zD,zE,zF]
       refine wpScript_take (.bool true) (by rfl) (by rfl) (fun w' hS=>?_) ?_
       ·go_simp
       simp only [zA,zB,zC,Act.put,zD,zE,zF]
       refine wpScript_take (.bool true) (by rfl) (by rfl) (fun w' hS=>?_) ?_
       ·go_simp
       simp only [zA,zB,zC,Act.put,zD,zE,zF]
       refine wpScript_skip (by rfl) (by rfl) ?_
       simp only [zA,zB,zC,Act.put,zD,zE,zF]
       refine wpScript_skip (by rfl) (by rfl) ?_
       simp only [zA,zB,zC,Act.put,zD,zE,zF]
       refine wpScript_skip (by rfl) (by rfl) ?_
       simp only [zA,zB,zC,Act.put,zD,zE,zF]
       refine wpScript_skip (by rfl) (by rfl) ?_
       simp only [zA,zB,zC,Act.put,zD,zE,zF]
       refine wpScript_skip (by rfl) (by rfl) ?_
       simp only [zA,zB,zC,Act.put,zD,zE,zF]
       show wpList _ _ _ _ _ _
       simp only [List.drop_succ_cons,List.drop_zero]
       go_wp2_with fail
       refine NoPanic.normal ?_
       go_wp2_with fail
       go_meet
       exact ⟨by first | rfl | (rw [HP.out];rfl),HB2d⟩
    case rest =>
    obtain ⟨rfl,HBc⟩:=hcut
    have HBw:=hid (H.out.trans (HBc.out.mono H.out.size))
    clear c0 c1 hge HFn HVl
    cases hb:(ok1 && (decide (pv≤st) && decide (fi < 0)))
    ·have HS2:Hid (Y=false):=hid (by rw [HS.out,hb];rfl)
     clear HS hb
     go_wp2_with fail
     go_ret
     rw [HS2.out]
     exact ⟨rfl,HBw.out⟩
    ·have HS2:Hid (Y=sndS st (l.take (k+1)) (l.drop (k+1))):=hid (by rw [HS.out,hb];rfl)
     clear HS hb
     go_wp2_with fail
     go_roundw
     case rel =>
      first
       | exact ⟨k+1,by omega,by go_num,HS2,HBw⟩
       | (
         repeat apply Exists.intro
         refine ⟨?_,rfl⟩
         exact ⟨k+1,by omega,by go_num,HS2,HBw⟩)
     case measure=>simp [Go.RowKit.intOf];omega
   ·have HS2:Hid (Y=true):=hid (by rw [HN.out,List.drop_of_length_le (by have:=HL.out;omega)];rfl)
    obtain rfl:k=n:=by omega
    clear hlt hk
    go_wp2_with fail
    go_ret
    rw [HS2.out]
    exact ⟨rfl,H.out⟩
 ·have HS2:Hid (sndP st l=false):=hid (by unfold sndP;rw [decide_eq_false hst];rfl)
  have hsi:(4611686018427387903:Int) < (st:Int):=by omega
  generalize sndP st l=Y at *
  clear h hl0 hl16 hst
  go_enter Tryz.func327,Tryz.ntmps327
  go_wp2_with fail
  go_ret
  rw [HS2.out]
  exact ⟨rfl,Below.refl _ _⟩
end
end Go.Proofs.YtfkjjoglnmeciaaGreatDoor
