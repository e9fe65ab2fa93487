/- The walks and laws that the claim leans on, part 21. -/
import Derived.Test.YtfkjjoglnmeciaaGreatDoorJap
set_option maxRecDepth 100000
set_option maxHeartbeats 16000000
namespace Go.Proofs.YtfkjjoglnmeciaaGreatDoor
open Go.Lib (hid)
section
open Go.RowKit
def wb (x j:Nat):List Nat:=(List.range j).map fun i=>x / 256 ^ i % 256
theorem wb_succ (x j:Nat):wb x (j+1)=wb x j++[x / 256 ^ j % 256]:=by simp [wb,List.range_succ]
def wsB (xs:List Nat):List Nat:=xs.flatMap fun x=>wb x 8
def sumW (xs:List Nat):Nat:=Crc.sum (wsB xs)
theorem wb_lt {x j:Nat}:∀ b∈wb x j,b < 256:=fun b hb=>by
 obtain ⟨i,_,rfl⟩:=List.mem_map.1 hb
 omega
theorem wsB_lt {xs:List Nat}:∀ b∈wsB xs,b < 256:=fun b hb=>by
 obtain ⟨x,_,hx⟩:=List.mem_flatMap.1 hb
 exact wb_lt b hx
theorem sumW_lt (xs:List Nat):sumW xs < 4294967296:=Crc.sum_lt wsB_lt
theorem wsB_snoc (xs:List Nat) (x:Nat):wsB (xs++[x])=wsB xs++wb x 8:=by simp [wsB]
theorem wordsX_any (A:Option Addr) (n cap B:Nat) (xs:List Nat) (w:World) (hrd:Reads w B 1 A n (uCells xs)) (hv:∀ x∈xs,x < 18446744073709551616) (hn:n≤1000000) (ht:Tab w) :
  Calls Tryz.prog 249 #[.slice A n cap] w fun e w'=>e = .returned (.int .u32 (sumW xs:Int))∧w=w':=by
 have HR:=hid hrd
 have HT:=hid ht
 have HV:Hid (∀ k (hk:k < xs.length),xs[k] < 18446744073709551616):=hid (fun k hk=>hv _ (List.getElem_mem hk))
 have HLn:=hid (show xs.length=n by have:=hrd.1;simp [uCells] at this;omega)
 have uc:IntKind.u32.signed=false:=rfl
 clear hrd hv ht
 go_enter Tryz.func249,Tryz.ntmps249
 go_wp2
 go_loopw [3,8] (fun r i wr=>∃ k s:Nat,k≤n∧s < 4294967296∧i = .int .i64 (k:Int)∧r = .int .u32 (s:Int)∧Hid (s=Crc.reg Crc.ones (wsB (xs.take k)))∧Hid (w=wr)) (fun _ i _=>n - (Go.RowKit.intOf i).toNat)
 case atStart=>exact ⟨0,4294967295,Nat.zero_le _,by omega,by go_num,by go_num,hid rfl,hid rfl⟩
 case round =>
  obtain ⟨k,s,hk,hs,rfl,rfl,hse,hw⟩:=hrel
  have hw:=hw.out
  subst hw
  by_cases hlt:k < n
  ·obtain ⟨hkl,b,off,hA,hbB,q0⟩:=u_facts HR.out hlt
   subst hA
   have hx:=HV.out k hkl
   have HTK:Hid (Crc.reg Crc.ones (wsB (xs.take (k+1)))=Crc.reg s (wb xs[k] 8)):=hid (by rw [List.take_succ_eq_append_getElem hkl,wsB_snoc,Crc.reg_append,← hse.out])
   have hz5:(0:Int)≤(k:Int):=by omega
   have hz6:(k:Int) < (n:Int):=by omega
   generalize xs[k]=x at *
   go_wp2
   clear q0
   go_loopw [3,5,12] (fun r y i wr=>∃ j s1 z:Nat,j≤8∧s1 < 4294967296∧z < 18446744073709551616∧i = .int .i64 (j:Int)∧r = .int .u32 (s1:Int)∧y = .int .u64 (z:Int)∧Hid (s1=Crc.reg s (wb x j))∧Hid (z=x / 256 ^ j)∧Hid (w=wr)) (fun _ _ i _=>8 - (Go.RowKit.intOf i).toNat)
   case atStart=>exact ⟨0,s,x,by omega,hs,hx,by go_num,rfl,rfl,hid rfl,hid (by simp),hid rfl⟩
   case round =>
    clear hx
    obtain ⟨j,s1,z,hj,hs1,hz,rfl,rfl,rfl,hs1e,hze,hw⟩:=hrel
    have hw:=hw.out
    subst hw
    by_cases h8:j < 8
    ·have e1:IntKind.u8.wrap (z:Int)=((z % 256:Nat):Int):=by rw [IntKind.wrap_u8];omega
     have HS:=hid (step_any s1 (z % 256) hs1 (by omega) w HT.out)
     have hst:=Crc.step_lt hs1 (show z % 256 < 256 by omega)
     have HN:Hid (Crc.step s1 (z % 256)=Crc.reg s (wb x (j+1))):=hid (by rw [wb_succ,Crc.reg_snoc,← hs1e.out,← hze.out])
     have HZ:Hid (z / 256=x / 256 ^ (j+1)):=hid (by rw [hze.out,Nat.div_div_eq_div_mul,Nat.pow_succ])
     generalize z % 256=by_ at *
     generalize Crc.step s1 by_=s2 at *
     have hz8:(z:Int) / 256=((z / 256:Nat):Int):=by omega
     have hz9:z / 256 < 18446744073709551616:=by omega
     generalize z / 256=z2 at *
     clear hse hs1e hze HTK
     go_wp2_with fail
     refine HS.out.mono ?_
     rintro e w1 ⟨rfl,rfl⟩
     go_wp2
     go_roundw
     case rel=>exact ⟨j+1,s2,z2,by omega,hst,hz9,by go_num,rfl,rfl,HN,HZ,hid trivial⟩
     case measure=>simp [Go.RowKit.intOf];omega
    ·have h8':j=8:=by omega
     subst h8'
     have HQ:Hid (s1=Crc.reg Crc.ones (wsB (xs.take (k+1)))):=hid (by rw [HTK.out];exact hs1e.out)
     clear hse hs1e hze HTK hs
     go_wp2
     go_roundw
     case rel =>
      first
       | exact ⟨k+1,s1,by omega,hs1,by go_num,rfl,HQ,hid trivial⟩
       | (
         repeat apply Exists.intro
         refine ⟨?_,trivial⟩
         exact ⟨k+1,s1,by omega,hs1,by go_num,rfl,HQ,hid trivial⟩)
       | (
         refine ⟨_,?_⟩
         exact ⟨k+1,s1,by omega,hs1,by go_num,rfl,HQ,hid trivial⟩)
     case measure=>simp [Go.RowKit.intOf];omega
  ·have hkn:k=n:=by omega
   subst hkn
   have hx:=u32_not s hs
   have HQ:Hid (s ^^^ Crc.ones=sumW xs):=hid (by
    rw [hse.out,List.take_of_length_le (by rw [HLn.out];exact Nat.le_refl _)]
    show _=Crc.reg (0 ^^^ Crc.ones) _ ^^^ Crc.ones
    rw [Nat.zero_xor])
   clear hse HLn
   generalize s ^^^ Crc.ones=v at *
   go_wp2
   go_ret
   exact ⟨by rw [← HQ.out];first | rfl | (rw [hx]),rfl⟩
end
section
open Go.RowKit
def lev:List Nat→Nat
 | []=>0
 | b :: l=>b+256 * lev l
theorem lev_snoc:∀ (l:List Nat) (b:Nat),lev (l++[b])=lev l+256 ^ l.length * b
 | [],b=>by simp [lev]
 | a :: l,b=>by
  show a+256 * lev (l++[b])=a+256 * lev l+256 ^ (l.length+1) * b
  rw [lev_snoc l b,Nat.pow_succ,Nat.mul_add,Nat.add_assoc,← Nat.mul_assoc,Nat.mul_comm 256 (256 ^ l.length)]
theorem lev_lt:∀ (l:List Nat),(∀ b∈l,b < 256)→lev l < 256 ^ l.length
 | [],_=>by simp [lev]
 | a :: l,h=>by
  have h1:=lev_lt l (fun b hb=>h b (by simp [hb]))
  have h2:=h a (by simp)
  show a+256 * lev l < 256 ^ (l.length+1)
  rw [Nat.pow_succ]
  omega
theorem lev_byte:∀ (l:List Nat),(∀ b∈l,b < 256)→∀ k (hk:k < l.length),lev l / 256 ^ k % 256=l[k]
 | [],_,k,hk=>by simp at hk
 | a :: l,h,0,_=>by
  have:=h a (by simp)
  show (a+256 * lev l) / 256 ^ 0 % 256=a
  rw [Nat.pow_zero,Nat.div_one]
  omega
 | a :: l,h,k+1,hk=>by
  have hk':k < l.length:=by simpa using hk
  have h1:=lev_byte l (fun b hb=>h b (by simp [hb])) k hk'
  have h2:=h a (by simp)
  show (a+256 * lev l) / 256 ^ (k+1) % 256=l[k]'hk'
  rw [Nat.pow_succ,Nat.mul_comm (256 ^ k) 256,← Nat.div_div_eq_div_mul,show (a+256 * lev l) / 256=lev l by omega]
  exact h1
def packW (p:List Nat):List Nat:=(List.range ((p.length+7) / 8)).map fun j=>lev ((p.drop (8 * j)).take 8)
theorem packW_len (p:List Nat):(packW p).length=(p.length+7) / 8:=by simp [packW]
theorem packW_lt {p:List Nat} (h:∀ b∈p,b < 256):∀ x∈packW p,x < 18446744073709551616:=fun x hx=>by
 obtain ⟨j,_,rfl⟩:=List.mem_map.1 hx
 have h1:=lev_lt ((p.drop (8 * j)).take 8) (fun b hb=>h b (List.mem_of_mem_drop (List.mem_of_mem_take hb)))
 have h2:((p.drop (8 * j)).take 8).length≤8:=by simp;omega
 have h3:256 ^ ((p.drop (8 * j)).take 8).length≤256 ^ 8:=Nat.pow_le_pow_right (by omega) h2
 have h4:(256:Nat) ^ 8=18446744073709551616:=by decide
 omega
theorem packW_byte {p:List Nat} (h:∀ b∈p,b < 256) {i:Nat} (hi:i < p.length):∃ x,(packW p)[i / 8]?=some x∧x / 256 ^ (i % 8) % 256=p[i]:=by
 refine ⟨lev ((p.drop (8 * (i / 8))).take 8),?_,?_⟩
 ·unfold packW
  rw [List.getElem?_map,List.getElem?_range (by omega)]
  rfl
 ·have hl:i % 8 < ((p.drop (8 * (i / 8))).take 8).length:=by simp;omega
  rw [lev_byte _ (fun b hb=>h b (List.mem_of_mem_drop (List.mem_of_mem_take hb))) _ hl]
  simp only [List.getElem_take,List.getElem_drop]
  congr 1
  omega
def bSize (n:Nat):Nat:=if 456 < n then 60 else payW (clsOf (3+(n+7) / 8))
theorem bSize_le (n:Nat):3≤bSize n∧bSize n≤60:=by
 unfold bSize
 split
 ·omega
 ·exact pay_le _
theorem clsOf_ge {n:Nat} (h:n≤60):n≤payW (clsOf n):=by
 unfold clsOf
 split
 ·simp only [payW];omega
 ·split
  ·simp only [payW];omega
  ·split
   ·simp only [payW];omega
   ·split
    ·simp only [payW];omega
    ·simp only [payW];omega
theorem clsOf_lt (n:Nat):clsOf n < 5:=by
 unfold clsOf
 repeat' split
 all_goals omega
theorem bSize_ge (n:Nat):3+(min n 456+7) / 8≤bSize n:=by
 unfold bSize
 split
 ·omega
 ·have:=clsOf_ge (n:=3+(n+7) / 8) (by omega)
  omega
def payB (next:Nat) (p:List Nat):List Nat:=[next,p.length * 4294967297]++packW (p.take 456)++List.replicate (bSize p.length - 3 - (packW (p.take 456)).length) 0
def payL (next:Nat) (p:List Nat):List Nat:=payB next p++[sumW (payB next p)]
theorem payB_len (next:Nat) (p:List Nat):(payB next p).length=bSize p.length - 1:=by
 have h:=bSize_ge p.length
 unfold payB
 simp only [List.length_append,List.length_cons,List.length_nil,List.length_replicate,packW_len,List.length_take]
 rw [Nat.min_comm] at h
 omega
theorem payL_len (next:Nat) (p:List Nat):(payL next p).length=bSize p.length:=by
 have h:=bSize_le p.length
 unfold payL
 rw [List.length_append,payB_len]
 simp
 omega
theorem payB_lt {next:Nat} {p:List Nat} (hn:next < 18446744073709551616) (hp:∀ b∈p,b < 256) (hl:p.length≤2000):∀ x∈payB next p,x < 18446744073709551616:=fun x hx=>by
 unfold payB at hx
 rcases List.mem_append.1 hx with hx | hx
 ·rcases List.mem_append.1 hx with hx | hx
  ·simp at hx
   rcases hx with rfl | rfl
   ·exact hn
   ·omega
  ·exact packW_lt (fun b hb=>hp b (List.mem_of_mem_take hb)) x hx
 ·have:=(List.mem_replicate.1 hx).2
  omega
theorem payL_lt {next:Nat} {p:List Nat} (hn:next < 18446744073709551616) (hp:∀ b∈p,b < 256) (hl:p.length≤2000):∀ x∈payL next p,x < 18446744073709551616:=fun x hx=>by
 unfold payL at hx
 rcases List.mem_append.1 hx with hx | hx
 ·exact payB_lt hn hp hl x hx
 ·have:=sumW_lt (payB next p)
  simp at hx
  omega
end
section
open Go.RowKit
theorem b_facts {w:World} {B n:Nat} {A:Option Addr} {l:List Nat} (h:Reads w B 1 A n (u8s l)) {k:Nat} (hk:k < n) :
  ∃ (hl:k < l.length) (b off:Nat),A=some ⟨b,off,none⟩∧b < B∧w.cell? ⟨b,off+k,none⟩=some (.int .u8 ((l[k]:Nat):Int)):=by
 have hl:k < l.length:=by have:=h.1;simp [u8s] at this;omega
 obtain ⟨b,off,hA,hb,hc⟩:=h.plain (by omega) (by omega)
 exact ⟨hl,b,off,hA,hb,hc k _ (by simp [u8s,hl])⟩
theorem reads_of_blk {w:World} {g n:Nat} {cs:Array Value} {t:TypeId} {l:List Value} (h:Blk w g t cs) (hl:l.length=n) (he:∀ (j:Nat) (u:Value),l[j]?=some u→cs[j]?=some u):Reads w w.heap.size 1 (some ⟨g,0,none⟩) n l:=by
 refine ⟨by omega,fun hn=>⟨_,rfl,h.lt,fun j u hu=>?_⟩⟩
 have h1:=h.cell (0+j)
 have e:(⟨g,0,none⟩:Addr).add j=⟨g,0+j,none⟩:=by
  unfold Addr.add
  split
  ·rename_i h;subst h;rfl
  ·rfl
 rw [e,h1,Nat.zero_add]
 exact he j u hu
theorem or_lev {l:List Nat} {b:Nat} (hl:∀ x∈l,x < 256) (h7:l.length≤7) (hb:b < 256):bits .or .u64 (lev l:Int) (((b * 2 ^ (8 * l.length):Nat):Int))=(lev (l++[b]):Int):=by
 have h1:=lev_lt l hl
 have h2:(256:Nat) ^ l.length=2 ^ (8 * l.length):=by rw [Nat.pow_mul]
 rw [h2] at h1
 have h3:(2:Nat) ^ (8 * l.length)≤2 ^ 56:=Nat.pow_le_pow_right (by omega) (by omega)
 have h4:(2:Nat) ^ 56=72057594037927936:=by decide
 have h5:b * 2 ^ (8 * l.length)≤255 * 2 ^ (8 * l.length):=Nat.mul_le_mul_right _ (by omega)
 rw [lev_snoc,h2,Nat.mul_comm (2 ^ (8 * l.length)) b]
 rw [bits_join_low .u64 64 (by decide) wraps_u64 (8 * l.length) (lev l:Int) ((b * 2 ^ (8 * l.length):Nat):Int) (by omega) (by exact_mod_cast h1) (by omega) (by omega) (by
  have:((b * 2 ^ (8 * l.length):Nat):Int)=(b:Int) * 2 ^ (8 * l.length):=by push_cast;rfl
  rw [this]
  exact Int.mul_emod_left _ _) (by omega)]
 push_cast
 rfl
def pkW (p:List Nat) (i j:Nat):Nat:=lev (((p.take i).drop (8 * j)).take 8)
theorem pkW_zero (p:List Nat) (j:Nat):pkW p 0 j=0:=by simp [pkW,lev]
theorem pkW_other {p:List Nat} {i j:Nat} (hi:i < p.length) (h:i / 8≠j):pkW p (i+1) j=pkW p i j:=by
 unfold pkW
 congr 1
 rw [List.take_succ_eq_append_getElem hi]
 rw [List.drop_append]
 have hl:(p.take i).length=i:=by simp;omega
 rw [hl]
 rcases Nat.lt_or_gt_of_ne h with h1 | h1
 ·have e1:8 * j - i ≥ 1:=by omega
  have:[p[i]].drop (8 * j - i)=[]:=by
   apply List.drop_eq_nil_of_le;simp;omega
  rw [this,List.append_nil]
 ·rw [List.take_append_of_le_length (by rw [List.length_drop,hl];omega)]
theorem pkW_same {p:List Nat} {i:Nat} (hi:i < p.length) (hp:∀ b∈p,b < 256):∃ l:List Nat,pkW p i (i / 8)=lev l∧pkW p (i+1) (i / 8)=lev (l++[p[i]])∧l.length=i % 8∧∀ x∈l,x < 256:=by
 have hl:(p.take i).length=i:=by simp;omega
 refine ⟨(p.take i).drop (8 * (i / 8)),?_,?_,?_,fun x hx=>hp x (List.mem_of_mem_take (List.mem_of_mem_drop hx))⟩
 ·unfold pkW
  rw [List.take_of_length_le]
  rw [List.length_drop,hl];omega
 ·unfold pkW
  rw [List.take_succ_eq_append_getElem hi,List.drop_append_of_le_length (by rw [hl];omega),List.take_of_length_le]
  rw [List.length_append,List.length_drop,hl]
  simp
  omega
 ·rw [List.length_drop,hl];omega
theorem pkW_end (p:List Nat) (j:Nat):pkW p p.length j=lev ((p.drop (8 * j)).take 8):=by unfold pkW;rw [List.take_length]
theorem wordsOf_any (n:Nat) (hn:n≤100000) (w:World):Calls Tryz.prog 296 #[.int .i64 (n:Int)] w fun e w'=>e = .returned (.int .i64 (((n+7) / 8:Nat):Int))∧w=w':=by
 by_cases h:n % 8=0
 ·have e1:((n:Int) % 8 == 0)=true:=by rw [beq_iff_eq];omega
  have e2:((n:Int) % 8 != 0)=false:=by rw [bne,e1];rfl
  have e3:(n:Int).tmod 8=(n:Int) % 8:=by rw [Int.tmod_eq_emod_of_nonneg (by omega)]
  have e5:(n:Int) / 8=(((n+7) / 8:Nat):Int):=by omega
  have e6:wrap64 ((n:Int) / 8)=(((n+7) / 8:Nat):Int):=by rw [e5];exact IntWalk.wrap64_in _ (by omega)
  have e4:(n:Int).tdiv 8=(((n+7) / 8:Nat):Int):=by rw [Int.tdiv_eq_ediv_of_nonneg (by omega)];omega
  generalize (n+7) / 8=q at *
  go_enter Tryz.func296,Tryz.ntmps296
  go_wp2
  go_ret
  exact ⟨rfl,rfl⟩
 ·have e1:((n:Int) % 8 == 0)=false:=by rw [beq_eq_false_iff_ne];omega
  have e2:((n:Int) % 8 != 0)=true:=by rw [bne,e1];rfl
  have e3:(n:Int).tmod 8=(n:Int) % 8:=by rw [Int.tmod_eq_emod_of_nonneg (by omega)]
  have e4:(n:Int).tdiv 8+1=(((n+7) / 8:Nat):Int):=by rw [Int.tdiv_eq_ediv_of_nonneg (by omega)];omega
  have e5:(n:Int) / 8+1=(((n+7) / 8:Nat):Int):=by omega
  have e6:wrap64 ((n:Int) / 8+1)=(((n+7) / 8:Nat):Int):=by rw [e5];exact IntWalk.wrap64_in _ (by omega)
  generalize (n+7) / 8=q at *
  go_enter Tryz.func296,Tryz.ntmps296
  go_wp2
  go_ret
  exact ⟨rfl,rfl⟩
def RetPk (w:World) (l:List Nat) (e:Ending) (w':World):Prop:=∃ A m c,e = .returned (.slice A m c)∧m=l.length∧Reads w' w'.heap.size 1 A m (uCells l)∧(∀ ad,A=some ad→w.heap.size≤ad.block)∧Below w.heap.size w w'
theorem madeU_at (n j:Nat) (h:j < n):(madeCells #[.int .u64 0] n)[j]?=some (.int .u64 0):=by
 rw [← Array.getElem?_toList,toList_madeCells_one]
 simp [h]
theorem madeU_size (n:Nat):(madeCells #[.int .u64 0] n).size=n:=by rw [size_madeCells]
theorem makeU (n:Nat) (hn:n≤1000000) (W:World):(Instr.makeSlice 99 (.int .i64 (n:Int)) (.int .i64 (n:Int))).run Tryz.prog W = .ok (.slice (some ⟨W.heap.size,0,none⟩) n n) (W.alloc (.cells (madeCells #[.int .u64 0] n) 32)):=by
 obtain ⟨j0,hj0,hk0,hk1,hk2⟩:=info_parts infoU64
 have h:=run_makeSlice (P:=Tryz.prog) W 99 32 j0 (.int .u64 0) Tryz.underlying99 hj0 hk0 .i64 .i64 (n:Int) (n:Int) (by omega) (by omega) (by rw [hk1];omega) (by rw [hk2];omega) (by omega)
 rw [hk1,Int.toNat_natCast,Nat.mul_one] at h
 exact h
theorem pack_any (A:Option Addr) (n c:Nat) (p:List Nat) (w:World) (h:Reads w w.heap.size 1 A n (u8s p)) (hp:∀ b∈p,b < 256) (hn:n≤100000) :
  Calls Tryz.prog 204 #[.slice A n c] w (RetPk w (packW p)):=by
 have hl0:p.length=n:=by have:=h.1;simp [u8s] at this;omega
 have HW:=hid (wordsOf_any n hn)
 have HR:=hid h
 have HP:=hid hp
 have HL:=hid hl0
 clear h hp hl0
 obtain ⟨q,hq⟩:∃ q,(n+7) / 8=q:=⟨_,rfl⟩
 have hqn:q≤100000:=by omega
 have hq8:n≤8 * q:=by omega
 rw [hq] at HW
 have HQ:=hid hq
 clear hq
 have hmk:=makeU q (by omega)
 go_enter Tryz.func204,Tryz.ntmps204
 go_wp2_with (go_at_call 296;refine (HW.out _).mono ?_;rintro e w1 ⟨rfl,rfl⟩)
 go_loopw [12] (fun i wr=>∃ k:Nat,k≤n∧i = .int .i64 (k:Int)∧Hid (∃ cs,Blk wr w.heap.size 32 cs∧cs.size=q∧∀ j,j < q→cs[j]?=some (.int .u64 (pkW p k j:Int)))∧Hid (Below w.heap.size w wr)) (fun i _=>n - (Go.RowKit.intOf i).toNat)
 case atStart =>
  refine ⟨0,Nat.zero_le _,rfl,hid ⟨_,Blk.new w _ _,madeU_size q,fun j hj=>?_⟩,hid ((Below.refl _ _).alloc (Nat.le_refl _) _)⟩
  rw [madeU_at q j hj,pkW_zero]
  rfl
 case round =>
  obtain ⟨k,hk,rfl,HC,HB⟩:=hrel
  by_cases hlt:k < n
  ·obtain ⟨hl,b,off,hA,hbB,f0⟩:=b_facts (HR.out.below HB.out) hlt
   subst hA
   obtain ⟨cs,hB,hsz,hcs⟩:=HC.out
   have hkq:k / 8 < q:=by omega
   have c0:=hcs (k / 8) hkq
   obtain ⟨l,e1,e2,e3,e4⟩:=pkW_same hl HP.out
   have hb256:p[k] < 256:=HP.out _ (List.getElem_mem hl)
   have HN:Hid (∃ cs',Blk (wr.setCell ⟨w.heap.size,k / 8,none⟩ (.int .u64 (pkW p (k+1) (k / 8):Int))) w.heap.size 32 cs'∧cs'.size=q∧∀ j,j < q→cs'[j]?=some (.int .u64 (pkW p (k+1) j:Int))):=hid ⟨_,hB.set_ (k / 8) _,by simp [hsz],fun j hj=>by
    rw [Array.getElem?_setIfInBounds]
    by_cases e:k / 8=j
    ·subst e
     simp [hsz,hkq]
    ·rw [if_neg e,hcs j hj,pkW_other hl e]⟩
   have HB2:Hid (Below w.heap.size w (wr.setCell ⟨w.heap.size,k / 8,none⟩ (.int .u64 (pkW p (k+1) (k / 8):Int)))):=hid (HB.out.setCell (Nat.le_refl _) _)
   rw [e2] at HN HB2
   rw [e1] at c0
   have f1:wr.cell? ⟨w.heap.size,k / 8,none⟩=some (.int .u64 (lev l:Int)):=by rw [hB.cell];exact c0
   have z1:wr.frozen? ⟨w.heap.size,k / 8,none⟩=false:=hB.frozen _
   have hx:=or_lev e4 (by omega) hb256
   have HX:Hid (bits .or .u64 (lev l:Int) (IntKind.u64.wrap (((p[k]:Nat):Int) * 2 ^ (k % 8 * 8)))=(lev (l++[p[k]]):Int)):=hid (by
    have h1:(p[k] * 2 ^ (8 * l.length):Nat)≤255 * 2 ^ 56:=Nat.mul_le_mul (by omega) (Nat.pow_le_pow_right (by omega) (by omega))
    have h2:(255:Nat) * 2 ^ 56=18374686479671623680:=by decide
    rw [← hx,e3,Nat.mul_comm 8 (k % 8)]
    rw [e3,Nat.mul_comm 8 (k % 8)] at h1
    have h3:(((p[k]:Nat):Int) * 2 ^ (k % 8 * 8))=((p[k] * 2 ^ (k % 8 * 8):Nat):Int):=by push_cast;rfl
    rw [h3,wraps_u64 _ (by omega) (by omega)])
   clear hx
   have HE3:=hid e3
   clear e1 e2 e4 hB hcs hsz c0 HC hbB e3
   generalize p[k]=bt at *
   have hz5:(0:Int)≤(k:Int):=by omega
   have hz6:(k:Int) < (n:Int):=by omega
   go_wp2
   go_roundw
   case rel =>
    first
     | (
       refine ⟨k+1,by omega,by go_num,?_,?_⟩
       ·rw [HX.out];exact HN
       ·rw [HX.out];exact HB2)
     | (
       repeat apply Exists.intro
       refine ⟨?_,rfl⟩
       refine ⟨k+1,by omega,by go_num,?_,?_⟩
       ·rw [HX.out];exact HN
       ·rw [HX.out];exact HB2)
   case measure=>simp [Go.RowKit.intOf];omega
  ·have hkn:k=n:=by omega
   have HF:Hid (RetPk w (packW p) (.returned (.slice (some ⟨w.heap.size,0,none⟩) q q)) wr):=hid (by
    obtain ⟨cs,hB,hsz,hcs⟩:=HC.out
    refine ⟨_,q,q,rfl,?_,reads_of_blk hB ?_ ?_,fun ad h=>by injection h with h;subst h;exact Nat.le_refl _,HB.out⟩
    ·rw [packW_len,HL.out];exact HQ.out.symm
    ·simp [uCells,packW_len,HL.out,HQ.out]
    ·intro j u hu
     have hj:j < q:=by
      have h1:=(List.getElem?_eq_some_iff.1 hu).1
      simp [uCells,packW_len,HL.out,HQ.out] at h1
      omega
     rw [hcs j hj,hkn,← HL.out,pkW_end]
     rw [← hu]
     simp [uCells,packW,HL.out,HQ.out,hj])
   have hd1:decide ((k:Int) < (n:Int))=false:=decide_eq_false (by omega)
   have hd2:decide (k < n)=false:=decide_eq_false hlt
   clear hkn hlt hk HC
   go_wp2
   go_ret
   exact HF.out
end
section
open Go.RowKit
def unpB (xs:List Nat) (n:Nat):List Nat:=(List.range n).map fun i=>xs.getD (i / 8) 0 / 256 ^ (i % 8) % 256
theorem unpB_len (xs:List Nat) (n:Nat):(unpB xs n).length=n:=by simp [unpB]
theorem unpB_pack {p:List Nat} (hp:∀ b∈p,b < 256):unpB (packW p) p.length=p:=by
 apply List.ext_getElem
 ·simp [unpB]
 ·intro i h1 h2
  obtain ⟨x,hx,he⟩:=packW_byte hp h2
  simp only [unpB,List.getElem_map,List.getElem_range]
  rw [List.getD_eq_getElem?_getD,hx]
  exact he
def unpBad (xs:List Nat) (n:Nat):Bool:=decide (n % 8≠0) && decide (xs.getD (n / 8) 0 / 256 ^ (n % 8)≠0)
theorem unpBad_pack {p:List Nat} (hp:∀ b∈p,b < 256):unpBad (packW p) p.length=false:=by
 unfold unpBad
 by_cases h:p.length % 8=0
 ·simp [h]
 ·have e:(packW p).getD (p.length / 8) 0=lev ((p.drop (8 * (p.length / 8))).take 8):=by
   rw [List.getD_eq_getElem?_getD]
   unfold packW
   rw [List.getElem?_map,List.getElem?_range (by omega)]
   rfl
  have hl:((p.drop (8 * (p.length / 8))).take 8).length=p.length % 8:=by simp;omega
  have h1:=lev_lt ((p.drop (8 * (p.length / 8))).take 8) (fun b hb=>hp b (List.mem_of_mem_drop (List.mem_of_mem_take hb)))
  rw [hl] at h1
  rw [e,Nat.div_eq_of_lt h1]
  simp
def RetB (w:World) (l:List Nat) (e:Ending) (w':World):Prop:=∃ A m c,e = .returned (.tuple #[.slice A m c, .int .i64 0])∧m=l.length∧Reads w' w'.heap.size 1 A m (u8s l)∧(∀ ad,A=some ad→w.heap.size≤ad.block)∧Below w.heap.size w w'
def RetUnp (w:World) (xs:List Nat) (n:Nat) (e:Ending) (w':World):Prop:=if unpBad xs n=true then e = .returned (.tuple #[.slice none 0 0, .int .i64 11])∧Below w.heap.size w w' else RetB w (unpB xs n) e w'
theorem infoU8b:(Tryz.prog.info? 5).map (fun i=>(i.zero,i.size,i.bytes))=some (some (.int .u8 0),1,1):=by kernel_rfl
theorem makeB (n:Nat) (hn:n≤1000000) (W:World):(Instr.makeSlice 24 (.int .i64 (n:Int)) (.int .i64 (n:Int))).run Tryz.prog W = .ok (.slice (some ⟨W.heap.size,0,none⟩) n n) (W.alloc (.cells (madeCells #[.int .u8 0] n) 5)):=by
 obtain ⟨j0,hj0,hk0,hk1,hk2⟩:=info_parts infoU8b
 have h:=run_makeSlice (P:=Tryz.prog) W 24 5 j0 (.int .u8 0) Tryz.underlying24 hj0 hk0 .i64 .i64 (n:Int) (n:Int) (by omega) (by omega) (by rw [hk1];omega) (by rw [hk2];omega) (by omega)
 rw [hk1,Int.toNat_natCast,Nat.mul_one] at h
 exact h
theorem unpack_any (A:Option Addr) (q c n:Nat) (xs:List Nat) (w:World) (h:Reads w w.heap.size 1 A q (uCells xs)) (hx:∀ x∈xs,x < 18446744073709551616) (hn:n≤100000) (hq:(n+7) / 8=q) :
  Calls Tryz.prog 309 #[.slice A q c, .int .i64 (n:Int)] w (RetUnp w xs n):=by
 have hl0:xs.length=q:=by have:=h.1;simp [uCells] at this;omega
 have HW:=hid (wordsOf_any n hn)
 rw [hq] at HW
 have HR:=hid h
 have HX:=hid hx
 have HL:=hid hl0
 have HQ:=hid hq
 have hmk:=makeB n (by omega)
 have hq8:n≤8 * q:=by omega
 have hq9:q≤100000:=by omega
 have hnn:decide ((n:Int) < 0)=false:=decide_eq_false (by omega)
 have HC:Hid (unpBad xs n=true→n % 8≠0):=hid (fun hb=>by unfold unpBad at hb;simp at hb;exact hb.1)
 clear h hx hl0
 have HI:Hid (n % 8≠0→∃ (j b off:Nat),(q:Int) - 1=(j:Int)∧j < q∧A=some ⟨b,off,none⟩∧w.cell? ⟨b,off+j,none⟩=some (.int .u64 (xs.getD (n / 8) 0:Int))∧xs.getD (n / 8) 0 < 18446744073709551616∧((((xs.getD (n / 8) 0:Nat):Int) / 2 ^ (n % 8 * 8)) != 0)=unpBad xs n):=hid (fun h8=>by
  have hj:n / 8 < q:=by omega
  obtain ⟨hl,b,off,hA,hbB,f0⟩:=u_facts HR.out hj
  have e:xs.getD (n / 8) 0=xs[n / 8]:=by rw [List.getD_eq_getElem?_getD,List.getElem?_eq_getElem hl];rfl
  refine ⟨n / 8,b,off,by omega,hj,hA,by rw [e];exact f0,by rw [e];exact HX.out _ (List.getElem_mem hl),?_⟩
  have e2:(((xs.getD (n / 8) 0:Nat):Int) / 2 ^ (n % 8 * 8))=((xs.getD (n / 8) 0 / 256 ^ (n % 8):Nat):Int):=by
   rw [show (256:Nat)=2 ^ 8 by decide,← Nat.pow_mul,Nat.mul_comm 8 (n % 8)]
   push_cast
   rfl
  rw [e2]
  unfold unpBad
  generalize xs.getD (n / 8) 0 / 256 ^ (n % 8)=z
  by_cases hz:z=0
  ·subst hz;simp
  ·have h1:(((z:Nat):Int) != 0)=true:=by rw [bne,beq_eq_false_iff_ne.2 (by omega)];rfl
   rw [h1,decide_eq_true h8,decide_eq_true hz];rfl)
 by_cases hb:unpBad xs n=true
 ·have h8:=HC.out hb
  obtain ⟨j,b,off,ej,hjq,hA,f0,hx64,hz⟩:=HI.out h8
  subst hA
  rw [hb] at hz
  have HBd:=hid hb
  have e1:(((n:Int) % 8) != 0)=true:=by rw [bne,beq_eq_false_iff_ne.2 (by omega)];rfl
  have ej2:wrap64 ((q:Int) - 1)=(j:Int):=by rw [ej];exact IntWalk.wrap64_in _ (by omega)
  generalize xs.getD (n / 8) 0=z at *
  have hj0:(0:Int)≤(j:Int):=by omega
  have hj1:(j:Int) < (q:Int):=by omega
  clear HI HC hb h8
  go_enter Tryz.func309,Tryz.ntmps309
  go_wp2_with (go_at_call 296;refine (HW.out _).mono ?_;rintro e w1 ⟨rfl,rfl⟩)
  go_ret2
  unfold RetUnp
  rw [if_pos HBd.out]
  exact ⟨rfl,Below.refl _ _⟩
 ·have HNB:=hid hb
  go_enter Tryz.func309,Tryz.ntmps309
  go_upto_region 5 with (go_at_call 296;refine (HW.out _).mono ?_;rintro e w1 ⟨rfl,rfl⟩)
  go_cut [31] from 15 to 31 (fun v wx=>v = .bool false∧Hid (wx=w))
  case first =>
   by_cases h8:n % 8=0
   ·have e1:(((n:Int) % 8) != 0)=false:=by rw [bne,beq_iff_eq.2 (by omega)];rfl
    clear HI HC hb
    go_wp2_with fail
    go_meet
    exact ⟨rfl,hid rfl⟩
   ·obtain ⟨j,b,off,ej,hjq,hA,f0,hx64,hz⟩:=HI.out h8
    subst hA
    have hbf:unpBad xs n=false:=by simpa using hb
    rw [hbf] at hz
    have e1:(((n:Int) % 8) != 0)=true:=by rw [bne,beq_eq_false_iff_ne.2 (by omega)];rfl
    have ej2:wrap64 ((q:Int) - 1)=(j:Int):=by rw [ej];exact IntWalk.wrap64_in _ (by omega)
    generalize xs.getD (n / 8) 0=z at *
    have hj0:(0:Int)≤(j:Int):=by omega
    have hj1:(j:Int) < (q:Int):=by omega
    clear HI HC hb h8
    go_wp2_with fail
    go_meet
    exact ⟨rfl,hid rfl⟩
  case rest =>
   obtain ⟨rfl,hwc⟩:=hcut
   have hw:=hwc.out.symm
   subst hw
   clear hwc HI HC hb
   go_wp2
   go_loopw [36] (fun i wr=>∃ k:Nat,k≤n∧i = .int .i64 (k:Int)∧Hid (∃ cs,Blk wr w.heap.size 5 cs∧cs.size=n∧∀ j,j < k→cs[j]?=some (.int .u8 ((xs.getD (j / 8) 0 / 256 ^ (j % 8) % 256:Nat):Int)))∧Hid (Below w.heap.size w wr)) (fun i _=>n - (Go.RowKit.intOf i).toNat)
   case atStart =>
    exact ⟨0,Nat.zero_le _,rfl,hid ⟨_,Blk.new w _ _,size_madeCells _ _,fun j hj=>absurd hj (by omega)⟩,hid ((Below.refl _ _).alloc (Nat.le_refl _) _)⟩
   case round =>
    obtain ⟨k,hk,rfl,HC,HB⟩:=hrel
    by_cases hlt:k < n
    ·have hkq:k / 8 < q:=by omega
     obtain ⟨hl,b,off,hA,hbB,f0⟩:=u_facts (HR.out.below HB.out) hkq
     subst hA
     obtain ⟨cs,hB,hsz,hcs⟩:=HC.out
     have e:xs.getD (k / 8) 0=xs[k / 8]:=by rw [List.getD_eq_getElem?_getD,List.getElem?_eq_getElem hl];rfl
     have hx64:=HX.out _ (List.getElem_mem hl)
     rw [← e] at f0 hx64
     have e2:(((xs.getD (k / 8) 0:Nat):Int) / 2 ^ (k % 8 * 8)) % 256=((xs.getD (k / 8) 0 / 256 ^ (k % 8) % 256:Nat):Int):=by
      rw [show (256:Nat) ^ (k % 8)=2 ^ (k % 8 * 8) by rw [show (256:Nat)=2 ^ 8 by decide,← Nat.pow_mul,Nat.mul_comm 8 (k % 8)]]
      push_cast
      rfl
     have hc0:k < cs.size:=by omega
     have HN:Hid (∃ cs',Blk (wr.setCell ⟨w.heap.size,k,none⟩ (.int .u8 ((xs.getD (k / 8) 0 / 256 ^ (k % 8) % 256:Nat):Int))) w.heap.size 5 cs'∧cs'.size=n∧∀ j,j < k+1→cs'[j]?=some (.int .u8 ((xs.getD (j / 8) 0 / 256 ^ (j % 8) % 256:Nat):Int))):=hid ⟨_,hB.set_ k _,by simp [hsz],fun j hj=>by
      rw [Array.getElem?_setIfInBounds]
      by_cases e:k=j
      ·subst e
       simp [hc0]
      ·rw [if_neg e,hcs j (by omega)]⟩
     have HB2:Hid (Below w.heap.size w (wr.setCell ⟨w.heap.size,k,none⟩ (.int .u8 ((xs.getD (k / 8) 0 / 256 ^ (k % 8) % 256:Nat):Int)))):=hid (HB.out.setCell (Nat.le_refl _) _)
     have f1:wr.cell? ⟨w.heap.size,k,none⟩=some cs[k]:=by rw [hB.cell,Array.getElem?_eq_getElem hc0]
     have z1:wr.frozen? ⟨w.heap.size,k,none⟩=false:=hB.frozen _
     have HE2:=hid e2
     clear e hcs HC hbB hB e2
     generalize cs[k]=ck at *
     generalize xs.getD (k / 8) 0=z at *
     generalize z / 256 ^ (k % 8) % 256=r at *
     have hz5:(0:Int)≤(k:Int):=by omega
     have hz6:(k:Int) < (n:Int):=by omega
     have hz7:(k:Int) / 8 < (q:Int):=by omega
     go_wp2
     go_roundw
     case rel =>
      first
       | (
         refine ⟨k+1,by omega,by go_num,?_,?_⟩
         ·rw [HE2.out];exact HN
         ·rw [HE2.out];exact HB2)
       | (
         repeat apply Exists.intro
         refine ⟨?_,rfl⟩
         refine ⟨k+1,by omega,by go_num,?_,?_⟩
         ·rw [HE2.out];exact HN
         ·rw [HE2.out];exact HB2)
     case measure=>simp [Go.RowKit.intOf];omega
    ·have hkn:k=n:=by omega
     have HF:Hid (RetUnp w xs n (.returned (.tuple #[.slice (some ⟨w.heap.size,0,none⟩) n n, .int .i64 0])) wr):=hid (by
      obtain ⟨cs,hB,hsz,hcs⟩:=HC.out
      unfold RetUnp
      rw [if_neg HNB.out]
      refine ⟨_,n,n,rfl,(unpB_len _ _).symm,reads_of_blk hB ?_ ?_,fun ad h=>by injection h with h;subst h;exact Nat.le_refl _,HB.out⟩
      ·simp [u8s,unpB_len]
      ·intro j u hu
       have hj:j < n:=by
        have h1:=(List.getElem?_eq_some_iff.1 hu).1
        simp [u8s,unpB_len] at h1
        omega
       rw [hcs j (by omega),← hu]
       simp [u8s,unpB,hj])
     have hd1:decide ((k:Int) < (n:Int))=false:=decide_eq_false (by omega)
     have hd2:decide (k < n)=false:=decide_eq_false hlt
     clear hkn hlt hk HC
     go_wp2
     go_ret2
     exact HF.out
end
section
open Go.RowKit
theorem reads_sub {w:World} {B n b off:Nat} {l:List Nat} (h:Reads w B 1 (some ⟨b,off,none⟩) n (uCells l)) {k m:Nat} (hk:k≤m) (hm:m≤n) (hn:0 < n):Reads w B 1 (some ⟨b,off+k,none⟩) (m - k) (uCells ((l.take m).drop k)):=by
 have hl:l.length=n:=by have:=h.1;simp [uCells] at this;omega
 refine ⟨by simp [uCells];omega,fun _=>⟨_,rfl,?_,fun j u hu=>?_⟩⟩
 ·obtain ⟨ad,e,hb,_⟩:=h.2 hn
  injection e with e
  subst e
  exact hb
 ·simp only [uCells,List.getElem?_map,List.getElem?_drop,Option.map_eq_some_iff] at hu
  obtain ⟨z,hz,rfl⟩:=hu
  have hkj:k+j < m:=by
   have:=(List.getElem?_eq_some_iff.1 hz).1
   simp at this
   omega
  rw [List.getElem?_take_of_lt hkj] at hz
  obtain ⟨hlt,e2⟩:=List.getElem?_eq_some_iff.1 hz
  obtain ⟨hl2,b2,off2,hA,_,f0⟩:=u_facts h (k:=k+j) (by omega)
  injection hA with hA
  injection hA with h1 h2
  subst h1 h2
  have e:(⟨b,off+k,none⟩:Addr).add j=⟨b,off+(k+j),none⟩:=by
   unfold Addr.add
   split
   ·rename_i h;subst h;rfl
   ·rw [Nat.add_assoc]
  rw [e,f0,e2]
def usedW (rest:Nat):Nat:=2+(min rest 456+7) / 8
def partE (l:List Nat) (rest:Nat):Nat:=if l.getD (l.length - 1) 0≠sumW (l.take (l.length - 1)) then 10 else if decide (456 < rest)≠decide (l.getD 0 0≠0) then 11 else if ((l.take (l.length - 1)).drop (usedW rest)).any (fun x=>decide (x≠0))=true then 11 else if unpBad ((l.take (usedW rest)).drop 2) (min rest 456)=true then 11 else 0
def partB (l:List Nat) (rest:Nat):List Nat:=unpB ((l.take (usedW rest)).drop 2) (min rest 456)
theorem payL_sum (next:Nat) (p:List Nat):(payL next p).getD ((payL next p).length - 1) 0=sumW ((payL next p).take ((payL next p).length - 1))∧(payL next p).take ((payL next p).length - 1)=payB next p:=by
 have h1:(payL next p).length - 1=(payB next p).length:=by unfold payL;simp
 rw [h1]
 unfold payL
 rw [List.take_left,List.getD_eq_getElem?_getD,List.getElem?_append_right (Nat.le_refl _)]
 simp
theorem payL_head (next:Nat) (p:List Nat):(payL next p).getD 0 0=next∧(payL next p).getD 1 0=p.length * 4294967297:=by
 unfold payL payB
 exact ⟨rfl,rfl⟩
theorem payL_used (next:Nat) (p:List Nat):((payL next p).take (usedW p.length)).drop 2=packW (p.take 456):=by
 have hl:(packW (p.take 456)).length=(min p.length 456+7) / 8:=by rw [packW_len,List.length_take,Nat.min_comm]
 have e:payL next p=([next,p.length * 4294967297]++packW (p.take 456))++(List.replicate (bSize p.length - 3 - (packW (p.take 456)).length) 0++[sumW (payB next p)]):=by
  unfold payL
  conv=>lhs;arg 1;unfold payB
  simp only [List.append_assoc]
 have h2:usedW p.length=([next,p.length * 4294967297]++packW (p.take 456)).length:=by unfold usedW;rw [List.length_append,hl];simp
 rw [e,h2,List.take_left]
 rfl
theorem payL_rest (next:Nat) (p:List Nat):(((payL next p).take ((payL next p).length - 1)).drop (usedW p.length)).any (fun x=>decide (x≠0))=false:=by
 rw [(payL_sum next p).2]
 have hl:(packW (p.take 456)).length=(min p.length 456+7) / 8:=by rw [packW_len,List.length_take,Nat.min_comm]
 have h2:usedW p.length=([next,p.length * 4294967297]++packW (p.take 456)).length:=by unfold usedW;rw [List.length_append,hl];simp
 have e:payB next p=([next,p.length * 4294967297]++packW (p.take 456))++List.replicate (bSize p.length - 3 - (packW (p.take 456)).length) 0:=rfl
 rw [e,h2,List.drop_left]
 simp
theorem partE_pay {next:Nat} {p:List Nat} (hp:∀ b∈p,b < 256) (hn:456 < p.length↔next≠0):partE (payL next p) p.length=0:=by
 have hl:(p.take 456).length=min p.length 456:=by rw [List.length_take,Nat.min_comm]
 unfold partE
 rw [if_neg (fun h=>h (payL_sum next p).1),(payL_head next p).1,if_neg (fun h=>h (decide_eq_decide.2 hn)),payL_rest,payL_used,if_neg (by simp),← hl,unpBad_pack (fun b hb=>hp b (List.mem_of_mem_take hb))]
 rfl
theorem partB_pay {next:Nat} {p:List Nat} (hp:∀ b∈p,b < 256):partB (payL next p) p.length=p.take 456:=by
 have hl:(p.take 456).length=min p.length 456:=by rw [List.length_take,Nat.min_comm]
 unfold partB
 rw [payL_used,← hl,unpB_pack (fun b hb=>hp b (List.mem_of_mem_take hb))]
def loadR (L:Nat) (cur:Nat→Nat) (p:Nat):Option (List Nat × Nat) :=
 if 64 * L < pOff p+16 then none else
 if cur (pOff p / 8+1) % 4294967296≠cur (pOff p / 8+1) / 4294967296∨2000 < cur (pOff p / 8+1) % 4294967296 then none else
 if 64 * L < pOff p+8 * bSize (cur (pOff p / 8+1) % 4294967296) then none else
 some ((List.range (bSize (cur (pOff p / 8+1) % 4294967296))).map fun j=>cur (pOff p / 8+j),cur (pOff p / 8+1) % 4294967296)
def WordsAt (cur:Nat→Nat) (p:Nat) (l:List Nat):Prop:=∀ j,j < l.length→cur (pOff p / 8+j)=l.getD j 0
theorem loadR_pay {L:Nat} {cur:Nat→Nat} {q next:Nat} {p:List Nat} (h:WordsAt cur q (payL next p)) (hl:p.length≤2000) (hL:pOff q+8 * bSize p.length≤64 * L):loadR L cur q=some (payL next p,p.length):=by
 obtain ⟨h3,h60⟩:=bSize_le p.length
 have e1:cur (pOff q / 8+1)=p.length * 4294967297:=by rw [h 1 (by rw [payL_len];omega),(payL_head next p).2]
 have m1:cur (pOff q / 8+1) % 4294967296=p.length:=by rw [e1];omega
 have m2:cur (pOff q / 8+1) / 4294967296=p.length:=by rw [e1];omega
 unfold loadR
 rw [m1,m2,if_neg (by omega),if_neg (by omega),if_neg (by omega)]
 congr 2
 apply List.ext_getElem
 ·rw [List.length_map,List.length_range,payL_len]
 ·intro j h1 h2
  rw [List.getElem_map,List.getElem_range,h j h2,List.getD_eq_getElem?_getD,List.getElem?_eq_getElem h2]
  rfl
theorem loadR_len {L:Nat} {cur:Nat→Nat} {q rest:Nat} {l:List Nat} (h:loadR L cur q=some (l,rest)):l.length=bSize rest∧rest≤2000∧pOff q+8 * bSize rest≤64 * L∧∀ j (hj:j < l.length),l[j]=cur (pOff q / 8+j):=by
 unfold loadR at h
 split at h
 ·cases h
 ·split at h
  ·cases h
  ·split at h
   ·cases h
   ·injection h with h
    injection h with h1 h2
    subst h1 h2
    refine ⟨by simp,by omega,by omega,fun j hj=>by simp⟩
def walkA (L:Nat) (cur:Nat→Nat) (chk:Nat→Nat):Nat→Nat→Int→List Nat→List Nat→Nat × List Nat × List Nat
 | 0,_,_,_,_=>(11,[],[])
 | k+1,p,want,bs,by_=>match loadR L cur p with
  | none=>(11,[],[])
  | some (l,rest)=>if 0≤want∧(rest:Int)≠want then (11,[],[]) else
   if partE l rest≠0 then (partE l rest,[],[]) else
   if rest≤456 then (0,bs++[p],by_++partB l rest) else
   if chk (l.getD 0 0)≠0 then (11,[],[]) else walkA L cur chk k (l.getD 0 0) ((rest:Int) - 456) (bs++[p]) (by_++partB l rest)
def Chain (L:Nat) (cur:Nat→Nat) (chk:Nat→Nat):List Nat→List Nat→Prop
 | [],_=>False
 | q :: t,p=>WordsAt cur q (payL (t.headD 0) p)∧p.length≤2000∧pOff q+8 * bSize p.length≤64 * L∧(456 < p.length↔t≠[])∧q≠0∧q < 18446744073709551616∧chk q=0∧(t≠[]→Chain L cur chk t (p.drop 456))
theorem Chain.nz {L:Nat} {cur:Nat→Nat} {chk:Nat→Nat} {q:Nat} {t p:List Nat} (h:Chain L cur chk (q :: t) p):(456 < p.length↔t.headD 0≠0):=by
 obtain ⟨_,_,_,h4,_,_,_,h8⟩:=h
 cases t with
 | nil=>simpa using h4
 | cons r t =>
  obtain ⟨_,_,_,_,h5,_⟩:=h8 (by simp)
  simp at h4 ⊢
  exact ⟨fun _=>h5,fun _=>h4⟩
theorem walk_chain {L:Nat} {cur:Nat→Nat} {chk:Nat→Nat} (k:Nat):∀ (q:Nat) (t p bs by_:List Nat) (want:Int),Chain L cur chk (q :: t) p→(∀ b∈p,b < 256)→(want < 0∨want=p.length)→p.length≤456 * k→0 < k→walkA L cur chk k q want bs by_=(0,bs++q :: t,by_++p):=by
 induction k with
 | zero=>intro q t p bs by_ want _ _ _ _ h;exact absurd h (Nat.lt_irrefl 0)
 | succ k ih =>
  intro q t p bs by_ want h hp hw hk _
  have hnz:=h.nz
  obtain ⟨h1,h2,h3,h4,h5,h6,h7,h8⟩:=h
  unfold walkA
  rw [loadR_pay h1 h2 h3]
  show (if 0≤want∧((p.length:Nat):Int)≠want then _ else _)=_
  rw [if_neg (by omega),partE_pay hp hnz,if_neg (by omega),partB_pay hp,(payL_head _ p).1]
  by_cases hr:p.length≤456
  ·rw [if_pos hr]
   have ht:t=[]:=by
    cases t with
    | nil=>rfl
    | cons r t=>exact absurd (h4.2 (by simp)) (by omega)
   rw [ht,List.take_of_length_le hr]
  ·rw [if_neg hr]
   cases t with
   | nil=>exact absurd rfl (h4.1 (by omega))
   | cons r t =>
    have hc:=h8 (by simp)
    have hcr:chk r=0:=hc.2.2.2.2.2.2.1
    show (if chk r≠0 then _ else _)=_
    rw [if_neg (by omega)]
    show walkA L cur chk k r _ _ _=_
    rw [ih r t (p.drop 456) _ _ _ hc (fun b hb=>hp b (List.mem_of_mem_drop hb)) (.inr (by rw [List.length_drop];omega)) (by rw [List.length_drop];omega) (by omega)]
    simp only [List.append_assoc,List.cons_append,List.nil_append,List.take_append_drop]
def nBlk (n:Nat):Nat:=if n≤456 then 1 else (n - 1) / 456+1
def pwW (o:Nat) (l:List Nat):List (Nat × Nat):=(List.range l.length).map fun j=>(o+8 * j,l.getD j 0)
theorem pwW_mem {o:Nat} {l:List Nat} {e:Nat × Nat} (h:e∈pwW o l):∃ j,j < l.length∧e=(o+8 * j,l.getD j 0):=by
 obtain ⟨j,hj,rfl⟩:=List.mem_map.1 h
 exact ⟨j,List.mem_range.1 hj,rfl⟩
theorem pwW_len (o:Nat) (l:List Nat):(pwW o l).length=l.length:=by simp [pwW]
end
end Go.Proofs.YtfkjjoglnmeciaaGreatDoor
