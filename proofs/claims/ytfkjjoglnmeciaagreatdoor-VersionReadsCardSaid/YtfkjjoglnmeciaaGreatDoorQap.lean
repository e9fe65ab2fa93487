/- The walks and laws that the claim leans on, part 16. -/
import Derived.Test.YtfkjjoglnmeciaaGreatDoorQak
set_option maxRecDepth 100000
set_option maxHeartbeats 16000000
namespace Go.Proofs.YtfkjjoglnmeciaaGreatDoor
open Go.Lib (hid)
section
open Go.RowKit Go.Maps
theorem u_facts {w:World} {B n:Nat} {A:Option Addr} {l:List Nat} (h:Reads w B 1 A n (uCells l)) {k:Nat} (hk:k < n) :
  ∃ (hl:k < l.length) (b off:Nat),A=some ⟨b,off,none⟩∧b < B∧w.cell? ⟨b,off+k,none⟩=some (.int .u64 ((l[k]):Int)):=by
 have hl:k < l.length:=by have:=h.1;simp [uCells] at this;omega
 obtain ⟨b,off,hA,hb,hc⟩:=h.plain oM oM;exact ⟨hl,b,off,hA,hb,hc k _ (by simp [uCells,hl])⟩
def entW (z n:Nat):List (Nat × Nat)→List (Nat × Nat)
 | []=>[]
 | e :: l=>(z+64+16 * n,e.1) :: (z+64+16 * n+8,e.2) :: entW z (n+1) l
theorem entW_snoc (z:Nat):∀ (l:List (Nat × Nat)) (n:Nat) (e:Nat × Nat),entW z n (l++[e])=entW z n l++[(z+64+16 * (n+l.length),e.1),(z+64+16 * (n+l.length)+8,e.2)]
 | [],n,e=>by simp [entW]
 | x :: l,n,e=>by
  have:=entW_snoc z l (n+1) e;simp only [List.cons_append,entW,this,List.length_cons];rw [show n+1+l.length=n+(l.length+1) by omega]
theorem entW_len (z:Nat):∀ (l:List (Nat × Nat)) (n:Nat),(entW z n l).length=2 * l.length
 | [],n=>rfl
 | x :: l,n=>by have:=entW_len z l (n+1);simp only [entW,List.length_cons,this];omega
theorem entW_mem (z:Nat):∀ (l:List (Nat × Nat)) (n:Nat) (e:Nat × Nat),e∈entW z n l→∃ j,j < l.length∧(e.1=z+64+16 * (n+j)∨e.1=z+64+16 * (n+j)+8)∧∃ x∈l,e.2=x.1∨e.2=x.2
 | [],n,e,h=>by simp [entW] at h
 | x :: l,n,e,h=>by
  simp only [entW,List.mem_cons] at h;rcases h with rfl | rfl | h
  ·exact ⟨0,by simp, .inl (by simp),x,by simp, .inl rfl⟩
  ·exact ⟨0,by simp, .inr (by simp),x,by simp, .inr rfl⟩
  ·obtain ⟨j,h1,h2,y,hy,h3⟩:=entW_mem z l (n+1) e h
   refine ⟨j+1,by simp;omega,?_,y,by simp [hy],h3⟩;rcases h2 with h2 | h2
   ·exact .inl oM
   ·exact .inr oM
def RetPlan (w:World) (P:List Ins→Prop) (e:Ending) (w':World):Prop:=∃ A m c p,e = .returned (.tuple #[.slice A m c, .int .i64 0])∧P p∧w'.ownsRow w.heap.size 284 3 (.slice A m c) m (insCells p)∧Below w.heap.size w w'
theorem isStores_len {ws:List (Nat × Nat)} {p:List Ins} (h:IsStores ws p):p.length≤2 * ws.length+1:=by
 obtain ⟨fs,rfl,hf,_⟩:=h;simp;omega
end
section
open Go.RowKit Go.Maps
theorem own_off {w:World} {S:Fp} {base:Nat} {e:TypeId} {size m c n:Nat} {A:Option Addr} {xs:List Value} (ho:w.ownsRow base e size (.slice A m c) n xs) (hb:∀ k,S k→k < base):∀ ad,A=some ad→¬ S ad.block:=fun ad had hs=>by
 rcases ho.2 with ⟨hv,_⟩ | ⟨g,cap,cs,hv,hge,_⟩
 ·injection hv with h1;rw [h1] at had;cases had
 ·injection hv with h1
  rw [h1] at had;injection had with h2
  subst h2;have:=hb _ hs;simp at this;omega
theorem wrS_out (s:Nat):∀ (l:List (Nat × Nat)) (n k:Nat) (cur:Nat→Nat),(k < 8 * s+8+2 * n∨8 * s+8+2 * (n+l.length)≤k)→wrS cur (entW (64 * s) n l) k=cur k
 | [],n,k,cur,_=>rfl
 | e :: l,n,k,cur,h=>by
  simp only [List.length_cons] at h;show wrS (upd (upd cur ((64 * s+64+16 * n) / 8) e.1) ((64 * s+64+16 * n+8) / 8) e.2) (entW (64 * s) (n+1) l) k=_;rw [wrS_out s l (n+1) k _ oM];simp only [upd];rw [if_neg oM,if_neg oM]
end
section
open Go.RowKit
def RetSum32 (w:World) (e:Ending) (w':World):Prop:=∃ v:Nat,v < 4294967296∧e = .returned (.int .u32 (v:Int))∧w=w'
theorem words_any (A:Option Addr) (n cap B:Nat) (xs:List Nat) (w:World) (hrd:Reads w B 1 A n (uCells xs)) (hv:∀ x∈xs,x < 18446744073709551616) (hn:n≤1000000) (ht:Tab w) :
  Calls Tryz.prog 249 #[.slice A n cap] w (RetSum32 w):=by
 have HR:=hid hrd;have HT:=hid ht;have HV:Hid (∀ k (hk:k < xs.length),xs[k] < 18446744073709551616):=hid (fun k hk=>hv _ (List.getElem_mem hk));have uc:IntKind.u32.signed=false:=rfl;clear hrd hv ht;go_enter Tryz.func249,Tryz.ntmps249
 go_wp2;go_loopw [3,8] (fun r i wr=>∃ k s:Nat,k≤n∧s < 4294967296∧i = .int .i64 (k:Int)∧r = .int .u32 (s:Int)∧Hid (w=wr)) (fun _ i _=>n - (Go.RowKit.intOf i).toNat)
 case atStart=>exact ⟨0,4294967295,Nat.zero_le _,oM,by go_num,by go_num,hid rfl⟩
 case round =>
  obtain ⟨k,s,hk,hs,rfl,rfl,hw⟩:=hrel;have hw:=hw.out;subst hw;by_cases hlt:k < n
  ·obtain ⟨hkl,b,off,hA,hbB,q0⟩:=u_facts HR.out hlt
   subst hA;have hx:=HV.out k hkl;have hz5:(0:Int)≤(k:Int):=oM;have hz6:(k:Int) < (n:Int):=oM;generalize xs[k]=x at *;go_wp2;clear q0;go_loopw [3,5,12] (fun r y i wr=>∃ j s z:Nat,j≤8∧s < 4294967296∧z < 18446744073709551616∧i = .int .i64 (j:Int)∧r = .int .u32 (s:Int)∧y = .int .u64 (z:Int)∧Hid (w=wr)) (fun _ _ i _=>8 - (Go.RowKit.intOf i).toNat)
   case atStart=>exact ⟨0,s,x,oM,hs,hx,by go_num,rfl,rfl,hid rfl⟩
   case round =>
    clear hs hx;obtain ⟨j,s,z,hj,hs,hz,rfl,rfl,rfl,hw⟩:=hrel;have hw:=hw.out;subst hw;by_cases h8:j < 8
    ·have e1:IntKind.u8.wrap (z:Int)=((z % 256:Nat):Int):=by rw [IntKind.wrap_u8];omega
     have HS:=hid (step_any s (z % 256) hs oM w HT.out);have hst:=Crc.step_lt hs (show z % 256 < 256 by omega);generalize z % 256=by_ at *;generalize Crc.step s by_=s2 at *;have hz8:(z:Int) / 256=((z / 256:Nat):Int):=oM;have hz9:z / 256 < 18446744073709551616:=oM;generalize z / 256=z2 at *;go_wp2_with fail
     refine HS.out.mono ?_;rintro e w1 ⟨rfl,rfl⟩;go_wp2;go_roundw
     case rel=>exact ⟨j+1,s2,z2,oM,hst,hz9,by go_num,rfl,rfl,hid trivial⟩
     case measure=>simp [Go.RowKit.intOf];omega
    ·have h8':j=8:=oM
     subst h8';go_wp2;go_roundw
     case rel =>
      first
       | exact ⟨k+1,s,oM,hs,by go_num,rfl,hid trivial⟩
       | (
         repeat apply Exists.intro
         refine ⟨?_,trivial⟩;exact ⟨k+1,s,oM,hs,by go_num,rfl,hid trivial⟩)
       | (
         refine ⟨_,?_⟩;exact ⟨k+1,s,oM,hs,by go_num,rfl,hid trivial⟩)
     case measure=>simp [Go.RowKit.intOf];omega
  ·have hkn:k=n:=oM
   subst hkn;have hx:=u32_not s hs;have hlt2:s ^^^ Crc.ones < 4294967296:=Crc.xor_lt hs (by decide);generalize s ^^^ Crc.ones=v at *;go_wp2;go_ret;exact ⟨v,hlt2,by first | rfl | (rw [hx]),rfl⟩
end
section
open Go.RowKit
def wb (x j:Nat):List Nat:=(List.range j).map fun i=>x / 256 ^ i % 256
theorem wb_succ (x j:Nat):wb x (j+1)=wb x j++[x / 256 ^ j % 256]:=by simp [wb,List.range_succ]
def wsB (xs:List Nat):List Nat:=xs.flatMap fun x=>wb x 8
def sumW (xs:List Nat):Nat:=Crc.sum (wsB xs)
theorem wb_lt {x j:Nat}:∀ b∈wb x j,b < 256:=fun b hb=>by
 obtain ⟨i,_,rfl⟩:=List.mem_map.1 hb;omega
theorem wsB_lt {xs:List Nat}:∀ b∈wsB xs,b < 256:=fun b hb=>by
 obtain ⟨x,_,hx⟩:=List.mem_flatMap.1 hb;exact wb_lt b hx
theorem sumW_lt (xs:List Nat):sumW xs < 4294967296:=Crc.sum_lt wsB_lt
theorem wsB_snoc (xs:List Nat) (x:Nat):wsB (xs++[x])=wsB xs++wb x 8:=by simp [wsB]
theorem wordsX_any (A:Option Addr) (n cap B:Nat) (xs:List Nat) (w:World) (hrd:Reads w B 1 A n (uCells xs)) (hv:∀ x∈xs,x < 18446744073709551616) (hn:n≤1000000) (ht:Tab w) :
  Calls Tryz.prog 249 #[.slice A n cap] w fun e w'=>e = .returned (.int .u32 (sumW xs:Int))∧w=w':=by
 have HR:=hid hrd;have HT:=hid ht;have HV:Hid (∀ k (hk:k < xs.length),xs[k] < 18446744073709551616):=hid (fun k hk=>hv _ (List.getElem_mem hk));have HLn:=hid (show xs.length=n by have:=hrd.1;simp [uCells] at this;omega);have uc:IntKind.u32.signed=false:=rfl;clear hrd hv ht;go_enter Tryz.func249,Tryz.ntmps249
 go_wp2;go_loopw [3,8] (fun r i wr=>∃ k s:Nat,k≤n∧s < 4294967296∧i = .int .i64 (k:Int)∧r = .int .u32 (s:Int)∧Hid (s=Crc.reg Crc.ones (wsB (xs.take k)))∧Hid (w=wr)) (fun _ i _=>n - (Go.RowKit.intOf i).toNat)
 case atStart=>exact ⟨0,4294967295,Nat.zero_le _,oM,by go_num,by go_num,hid rfl,hid rfl⟩
 case round =>
  obtain ⟨k,s,hk,hs,rfl,rfl,hse,hw⟩:=hrel;have hw:=hw.out;subst hw;by_cases hlt:k < n
  ·obtain ⟨hkl,b,off,hA,hbB,q0⟩:=u_facts HR.out hlt
   subst hA;have hx:=HV.out k hkl;have HTK:Hid (Crc.reg Crc.ones (wsB (xs.take (k+1)))=Crc.reg s (wb xs[k] 8)):=hid (by rw [List.take_succ_eq_append_getElem hkl,wsB_snoc,Crc.reg_append,← hse.out]);have hz5:(0:Int)≤(k:Int):=oM;have hz6:(k:Int) < (n:Int):=oM;generalize xs[k]=x at *;go_wp2;clear q0;go_loopw [3,5,12] (fun r y i wr=>∃ j s1 z:Nat,j≤8∧s1 < 4294967296∧z < 18446744073709551616∧i = .int .i64 (j:Int)∧r = .int .u32 (s1:Int)∧y = .int .u64 (z:Int)∧Hid (s1=Crc.reg s (wb x j))∧Hid (z=x / 256 ^ j)∧Hid (w=wr)) (fun _ _ i _=>8 - (Go.RowKit.intOf i).toNat)
   case atStart=>exact ⟨0,s,x,oM,hs,hx,by go_num,rfl,rfl,hid rfl,hid (by simp),hid rfl⟩
   case round =>
    clear hx;obtain ⟨j,s1,z,hj,hs1,hz,rfl,rfl,rfl,hs1e,hze,hw⟩:=hrel;have hw:=hw.out;subst hw;by_cases h8:j < 8
    ·have e1:IntKind.u8.wrap (z:Int)=((z % 256:Nat):Int):=by rw [IntKind.wrap_u8];omega
     have HS:=hid (step_any s1 (z % 256) hs1 oM w HT.out);have hst:=Crc.step_lt hs1 (show z % 256 < 256 by omega);have HN:Hid (Crc.step s1 (z % 256)=Crc.reg s (wb x (j+1))):=hid (by rw [wb_succ,Crc.reg_snoc,← hs1e.out,← hze.out]);have HZ:Hid (z / 256=x / 256 ^ (j+1)):=hid (by rw [hze.out,Nat.div_div_eq_div_mul,Nat.pow_succ]);generalize z % 256=by_ at *;generalize Crc.step s1 by_=s2 at *;have hz8:(z:Int) / 256=((z / 256:Nat):Int):=oM;have hz9:z / 256 < 18446744073709551616:=oM;generalize z / 256=z2 at *;clear hse hs1e hze HTK;go_wp2_with fail
     refine HS.out.mono ?_;rintro e w1 ⟨rfl,rfl⟩;go_wp2;go_roundw
     case rel=>exact ⟨j+1,s2,z2,oM,hst,hz9,by go_num,rfl,rfl,HN,HZ,hid trivial⟩
     case measure=>simp [Go.RowKit.intOf];omega
    ·have h8':j=8:=oM
     subst h8';have HQ:Hid (s1=Crc.reg Crc.ones (wsB (xs.take (k+1)))):=hid (by rw [HTK.out];exact hs1e.out);clear hse hs1e hze HTK hs;go_wp2;go_roundw
     case rel =>
      first
       | exact ⟨k+1,s1,oM,hs1,by go_num,rfl,HQ,hid trivial⟩
       | (
         repeat apply Exists.intro
         refine ⟨?_,trivial⟩;exact ⟨k+1,s1,oM,hs1,by go_num,rfl,HQ,hid trivial⟩)
       | (
         refine ⟨_,?_⟩;exact ⟨k+1,s1,oM,hs1,by go_num,rfl,HQ,hid trivial⟩)
     case measure=>simp [Go.RowKit.intOf];omega
  ·have hkn:k=n:=oM
   subst hkn;have hx:=u32_not s hs;have HQ:Hid (s ^^^ Crc.ones=sumW xs):=hid (by
    rw [hse.out,List.take_of_length_le (by rw [HLn.out];exact nL _)];show _=Crc.reg (0 ^^^ Crc.ones) _ ^^^ Crc.ones;rw [Nat.zero_xor])
   clear hse HLn;generalize s ^^^ Crc.ones=v at *;go_wp2;go_ret;exact ⟨by rw [← HQ.out];first | rfl | (rw [hx]),rfl⟩
end
section
open Go.RowKit
def lev:List Nat→Nat
 | []=>0
 | b :: l=>b+256 * lev l
theorem lev_snoc:∀ (l:List Nat) (b:Nat),lev (l++[b])=lev l+256 ^ l.length * b
 | [],b=>by simp [lev]
 | a :: l,b=>by
  show a+256 * lev (l++[b])=a+256 * lev l+256 ^ (l.length+1) * b;rw [lev_snoc l b,Nat.pow_succ,Nat.mul_add,Nat.add_assoc,← Nat.mul_assoc,Nat.mul_comm 256 (256 ^ l.length)]
theorem lev_lt:∀ (l:List Nat),(∀ b∈l,b < 256)→lev l < 256 ^ l.length
 | [],_=>by simp [lev]
 | a :: l,h=>by
  have h1:=lev_lt l (fun b hb=>h b (by simp [hb]));have h2:=h a (by simp);show a+256 * lev l < 256 ^ (l.length+1);rw [Nat.pow_succ];omega
theorem lev_byte:∀ (l:List Nat),(∀ b∈l,b < 256)→∀ k (hk:k < l.length),lev l / 256 ^ k % 256=l[k]
 | [],_,k,hk=>by simp at hk
 | a :: l,h,0,_=>by
  have:=h a (by simp);show (a+256 * lev l) / 256 ^ 0 % 256=a;rw [Nat.pow_zero,Nat.div_one];omega
 | a :: l,h,k+1,hk=>by
  have hk':k < l.length:=by simpa using hk
  have h1:=lev_byte l (fun b hb=>h b (by simp [hb])) k hk';have h2:=h a (by simp);show (a+256 * lev l) / 256 ^ (k+1) % 256=l[k]'hk';rw [Nat.pow_succ,Nat.mul_comm (256 ^ k) 256,← Nat.div_div_eq_div_mul,show (a+256 * lev l) / 256=lev l by omega];exact h1
def packW (p:List Nat):List Nat:=(List.range ((p.length+7) / 8)).map fun j=>lev ((p.drop (8 * j)).take 8)
theorem packW_len (p:List Nat):(packW p).length=(p.length+7) / 8:=by simp [packW]
theorem packW_lt {p:List Nat} (h:∀ b∈p,b < 256):∀ x∈packW p,x < 18446744073709551616:=fun x hx=>by
 obtain ⟨j,_,rfl⟩:=List.mem_map.1 hx;have h1:=lev_lt ((p.drop (8 * j)).take 8) (fun b hb=>h b (List.mem_of_mem_drop (List.mem_of_mem_take hb)));have h2:((p.drop (8 * j)).take 8).length≤8:=by simp;omega
 have h3:256 ^ ((p.drop (8 * j)).take 8).length≤256 ^ 8:=Nat.pow_le_pow_right oM h2;have h4:(256:Nat) ^ 8=18446744073709551616:=by decide
 omega
theorem packW_byte {p:List Nat} (h:∀ b∈p,b < 256) {i:Nat} (hi:i < p.length):∃ x,(packW p)[i / 8]?=some x∧x / 256 ^ (i % 8) % 256=p[i]:=by
 refine ⟨lev ((p.drop (8 * (i / 8))).take 8),?_,?_⟩
 ·unfold packW
  rw [List.getElem?_map,List.getElem?_range oM];rfl
 ·have hl:i % 8 < ((p.drop (8 * (i / 8))).take 8).length:=by simp;omega
  rw [lev_byte _ (fun b hb=>h b (List.mem_of_mem_drop (List.mem_of_mem_take hb))) _ hl];simp only [List.getElem_take,List.getElem_drop];congr 1
  omega
def bSize (n:Nat):Nat:=if 456 < n then 60 else payW (clsOf (3+(n+7) / 8))
theorem bSize_le (n:Nat):3≤bSize n∧bSize n≤60:=by
 unfold bSize;split
 ·omega
 ·exact pay_le _
theorem clsOf_ge {n:Nat} (h:n≤60):n≤payW (clsOf n):=by
 unfold clsOf;split
 ·simp only [payW];omega
 ·split
  ·simp only [payW];omega
  ·split
   ·simp only [payW];omega
   ·split
    ·simp only [payW];omega
    ·simp only [payW];omega
theorem clsOf_lt (n:Nat):clsOf n < 5:=by
 unfold clsOf;repeat' split
 all_goals omega
theorem bSize_ge (n:Nat):3+(min n 456+7) / 8≤bSize n:=by
 unfold bSize;split
 ·omega
 ·have:=clsOf_ge (n:=3+(n+7) / 8) oM
  omega
def payB (next:Nat) (p:List Nat):List Nat:=[next,p.length * 4294967297]++packW (p.take 456)++List.replicate (bSize p.length - 3 - (packW (p.take 456)).length) 0
def payL (next:Nat) (p:List Nat):List Nat:=payB next p++[sumW (payB next p)]
theorem payB_len (next:Nat) (p:List Nat):(payB next p).length=bSize p.length - 1:=by
 have h:=bSize_ge p.length;unfold payB;simp only [List.length_append,List.length_cons,List.length_nil,List.length_replicate,packW_len,List.length_take];rw [Nat.min_comm] at h;omega
theorem payL_len (next:Nat) (p:List Nat):(payL next p).length=bSize p.length:=by
 have h:=bSize_le p.length;unfold payL;rw [List.length_append,payB_len];simp;omega
theorem payB_lt {next:Nat} {p:List Nat} (hn:next < 18446744073709551616) (hp:∀ b∈p,b < 256) (hl:p.length≤2000):∀ x∈payB next p,x < 18446744073709551616:=fun x hx=>by
 unfold payB at hx;rcases List.mem_append.1 hx with hx | hx
 ·rcases List.mem_append.1 hx with hx | hx
  ·simp at hx
   rcases hx with rfl | rfl
   ·exact hn
   ·omega
  ·exact packW_lt (fun b hb=>hp b (List.mem_of_mem_take hb)) x hx
 ·have:=(List.mem_replicate.1 hx).2
  omega
theorem payL_lt {next:Nat} {p:List Nat} (hn:next < 18446744073709551616) (hp:∀ b∈p,b < 256) (hl:p.length≤2000):∀ x∈payL next p,x < 18446744073709551616:=fun x hx=>by
 unfold payL at hx;rcases List.mem_append.1 hx with hx | hx
 ·exact payB_lt hn hp hl x hx
 ·have:=sumW_lt (payB next p)
  simp at hx;omega
end
section
open Go.RowKit
theorem b_facts {w:World} {B n:Nat} {A:Option Addr} {l:List Nat} (h:Reads w B 1 A n (u8s l)) {k:Nat} (hk:k < n) :
  ∃ (hl:k < l.length) (b off:Nat),A=some ⟨b,off,none⟩∧b < B∧w.cell? ⟨b,off+k,none⟩=some (.int .u8 ((l[k]:Nat):Int)):=by
 have hl:k < l.length:=by have:=h.1;simp [u8s] at this;omega
 obtain ⟨b,off,hA,hb,hc⟩:=h.plain oM oM;exact ⟨hl,b,off,hA,hb,hc k _ (by simp [u8s,hl])⟩
theorem reads_of_blk {w:World} {g n:Nat} {cs:Array Value} {t:TypeId} {l:List Value} (h:Blk w g t cs) (hl:l.length=n) (he:∀ (j:Nat) (u:Value),l[j]?=some u→cs[j]?=some u):Reads w w.heap.size 1 (some ⟨g,0,none⟩) n l:=by
 refine ⟨oM,fun hn=>⟨_,rfl,h.lt,fun j u hu=>?_⟩⟩;have h1:=h.cell (0+j);have e:(⟨g,0,none⟩:Addr).add j=⟨g,0+j,none⟩:=by
  unfold Addr.add;split
  ·rename_i h;subst h;rfl
  ·rfl
 rw [e,h1,Nat.zero_add];exact he j u hu
theorem or_lev {l:List Nat} {b:Nat} (hl:∀ x∈l,x < 256) (h7:l.length≤7) (hb:b < 256):bits .or .u64 (lev l:Int) (((b * 2 ^ (8 * l.length):Nat):Int))=(lev (l++[b]):Int):=by
 have h1:=lev_lt l hl;have h2:(256:Nat) ^ l.length=2 ^ (8 * l.length):=by rw [Nat.pow_mul]
 rw [h2] at h1;have h3:(2:Nat) ^ (8 * l.length)≤2 ^ 56:=Nat.pow_le_pow_right oM oM;have h4:(2:Nat) ^ 56=72057594037927936:=by decide
 have h5:b * 2 ^ (8 * l.length)≤255 * 2 ^ (8 * l.length):=Nat.mul_le_mul_right _ oM;rw [lev_snoc,h2,Nat.mul_comm (2 ^ (8 * l.length)) b];rw [bits_join_low .u64 64 (by decide) wraps_u64 (8 * l.length) (lev l:Int) ((b * 2 ^ (8 * l.length):Nat):Int) oM (by exact_mod_cast h1) oM oM (by
  have:((b * 2 ^ (8 * l.length):Nat):Int)=(b:Int) * 2 ^ (8 * l.length):=by push_cast;rfl
  rw [this];exact Int.mul_emod_left _ _) oM]
 push_cast;rfl
def pkW (p:List Nat) (i j:Nat):Nat:=lev (((p.take i).drop (8 * j)).take 8)
theorem pkW_zero (p:List Nat) (j:Nat):pkW p 0 j=0:=by simp [pkW,lev]
theorem pkW_other {p:List Nat} {i j:Nat} (hi:i < p.length) (h:i / 8≠j):pkW p (i+1) j=pkW p i j:=by
 unfold pkW;congr 1
 rw [List.take_succ_eq_append_getElem hi];rw [List.drop_append];have hl:(p.take i).length=i:=by simp;omega
 rw [hl];rcases Nat.lt_or_gt_of_ne h with h1 | h1
 ·have e1:8 * j - i ≥ 1:=oM
  have:[p[i]].drop (8 * j - i)=[]:=by
   apply List.drop_eq_nil_of_le;simp;omega
  rw [this,List.append_nil]
 ·rw [List.take_append_of_le_length (by rw [List.length_drop,hl];omega)]
theorem pkW_same {p:List Nat} {i:Nat} (hi:i < p.length) (hp:∀ b∈p,b < 256):∃ l:List Nat,pkW p i (i / 8)=lev l∧pkW p (i+1) (i / 8)=lev (l++[p[i]])∧l.length=i % 8∧∀ x∈l,x < 256:=by
 have hl:(p.take i).length=i:=by simp;omega
 refine ⟨(p.take i).drop (8 * (i / 8)),?_,?_,?_,fun x hx=>hp x (List.mem_of_mem_take (List.mem_of_mem_drop hx))⟩
 ·unfold pkW
  rw [List.take_of_length_le];rw [List.length_drop,hl];omega
 ·unfold pkW
  rw [List.take_succ_eq_append_getElem hi,List.drop_append_of_le_length (by rw [hl];omega),List.take_of_length_le];rw [List.length_append,List.length_drop,hl];simp;omega
 ·rw [List.length_drop,hl];omega
theorem pkW_end (p:List Nat) (j:Nat):pkW p p.length j=lev ((p.drop (8 * j)).take 8):=by unfold pkW;rw [List.take_length]
theorem wordsOf_any (n:Nat) (hn:n≤100000) (w:World):Calls Tryz.prog 296 #[.int .i64 (n:Int)] w fun e w'=>e = .returned (.int .i64 (((n+7) / 8:Nat):Int))∧w=w':=by
 by_cases h:n % 8=0
 ·have e1:((n:Int) % 8 == 0)=true:=by rw [beq_iff_eq];omega
  have e2:((n:Int) % 8 != 0)=false:=by rw [bne,e1];rfl
  have e3:(n:Int).tmod 8=(n:Int) % 8:=by rw [Int.tmod_eq_emod_of_nonneg oM]
  have e5:(n:Int) / 8=(((n+7) / 8:Nat):Int):=oM;have e6:wrap64 ((n:Int) / 8)=(((n+7) / 8:Nat):Int):=by rw [e5];exact IntWalk.wrap64_in _ oM
  have e4:(n:Int).tdiv 8=(((n+7) / 8:Nat):Int):=by rw [Int.tdiv_eq_ediv_of_nonneg oM];omega
  generalize (n+7) / 8=q at *;go_enter Tryz.func296,Tryz.ntmps296
  go_wp2;go_ret;exact ⟨rfl,rfl⟩
 ·have e1:((n:Int) % 8 == 0)=false:=by rw [beq_eq_false_iff_ne];omega
  have e2:((n:Int) % 8 != 0)=true:=by rw [bne,e1];rfl
  have e3:(n:Int).tmod 8=(n:Int) % 8:=by rw [Int.tmod_eq_emod_of_nonneg oM]
  have e4:(n:Int).tdiv 8+1=(((n+7) / 8:Nat):Int):=by rw [Int.tdiv_eq_ediv_of_nonneg oM];omega
  have e5:(n:Int) / 8+1=(((n+7) / 8:Nat):Int):=oM;have e6:wrap64 ((n:Int) / 8+1)=(((n+7) / 8:Nat):Int):=by rw [e5];exact IntWalk.wrap64_in _ oM
  generalize (n+7) / 8=q at *;go_enter Tryz.func296,Tryz.ntmps296
  go_wp2;go_ret;exact ⟨rfl,rfl⟩
def RetPk (w:World) (l:List Nat) (e:Ending) (w':World):Prop:=∃ A m c,e = .returned (.slice A m c)∧m=l.length∧Reads w' w'.heap.size 1 A m (uCells l)∧(∀ ad,A=some ad→w.heap.size≤ad.block)∧Below w.heap.size w w'
theorem madeU_at (n j:Nat) (h:j < n):(madeCells #[.int .u64 0] n)[j]?=some (.int .u64 0):=by
 rw [← Array.getElem?_toList,toList_madeCells_one];simp [h]
theorem madeU_size (n:Nat):(madeCells #[.int .u64 0] n).size=n:=by rw [size_madeCells]
theorem makeU (n:Nat) (hn:n≤1000000) (W:World):(Instr.makeSlice 99 (.int .i64 (n:Int)) (.int .i64 (n:Int))).run Tryz.prog W = .ok (.slice (some ⟨W.heap.size,0,none⟩) n n) (W.alloc (.cells (madeCells #[.int .u64 0] n) 32)):=by
 obtain ⟨j0,hj0,hk0,hk1,hk2⟩:=info_parts infoU64;have h:=run_makeSlice (P:=Tryz.prog) W 99 32 j0 (.int .u64 0) Tryz.underlying99 hj0 hk0 .i64 .i64 (n:Int) (n:Int) oM oM (by rw [hk1];omega) (by rw [hk2];omega) oM;rw [hk1,Int.toNat_natCast,Nat.mul_one] at h;exact h
theorem pack_any (A:Option Addr) (n c:Nat) (p:List Nat) (w:World) (h:Reads w w.heap.size 1 A n (u8s p)) (hp:∀ b∈p,b < 256) (hn:n≤100000) :
  Calls Tryz.prog 204 #[.slice A n c] w (RetPk w (packW p)):=by
 have hl0:p.length=n:=by have:=h.1;simp [u8s] at this;omega
 have HW:=hid (wordsOf_any n hn);have HR:=hid h;have HP:=hid hp;have HL:=hid hl0;clear h hp hl0;obtain ⟨q,hq⟩:∃ q,(n+7) / 8=q:=⟨_,rfl⟩
 have hqn:q≤100000:=oM;have hq8:n≤8 * q:=oM;rw [hq] at HW;have HQ:=hid hq;clear hq;have hmk:=makeU q oM;go_enter Tryz.func204,Tryz.ntmps204
 go_wp2_with (go_at_call 296;refine (HW.out _).mono ?_;rintro e w1 ⟨rfl,rfl⟩)
 go_loopw [12] (fun i wr=>∃ k:Nat,k≤n∧i = .int .i64 (k:Int)∧Hid (∃ cs,Blk wr w.heap.size 32 cs∧cs.size=q∧∀ j,j < q→cs[j]?=some (.int .u64 (pkW p k j:Int)))∧Hid (Below w.heap.size w wr)) (fun i _=>n - (Go.RowKit.intOf i).toNat)
 case atStart =>
  refine ⟨0,Nat.zero_le _,rfl,hid ⟨_,Blk.new w _ _,madeU_size q,fun j hj=>?_⟩,hid ((Below.refl _ _).alloc (nL _) _)⟩;rw [madeU_at q j hj,pkW_zero];rfl
 case round =>
  obtain ⟨k,hk,rfl,HC,HB⟩:=hrel;by_cases hlt:k < n
  ·obtain ⟨hl,b,off,hA,hbB,f0⟩:=b_facts (HR.out.below HB.out) hlt
   subst hA;obtain ⟨cs,hB,hsz,hcs⟩:=HC.out;have hkq:k / 8 < q:=oM;have c0:=hcs (k / 8) hkq;obtain ⟨l,e1,e2,e3,e4⟩:=pkW_same hl HP.out;have hb256:p[k] < 256:=HP.out _ (List.getElem_mem hl);have HN:Hid (∃ cs',Blk (wr.setCell ⟨w.heap.size,k / 8,none⟩ (.int .u64 (pkW p (k+1) (k / 8):Int))) w.heap.size 32 cs'∧cs'.size=q∧∀ j,j < q→cs'[j]?=some (.int .u64 (pkW p (k+1) j:Int))):=hid ⟨_,hB.set_ (k / 8) _,by simp [hsz],fun j hj=>by
    rw [Array.getElem?_setIfInBounds];by_cases e:k / 8=j
    ·subst e
     simp [hsz,hkq]
    ·rw [if_neg e,hcs j hj,pkW_other hl e]⟩
   have HB2:Hid (Below w.heap.size w (wr.setCell ⟨w.heap.size,k / 8,none⟩ (.int .u64 (pkW p (k+1) (k / 8):Int)))):=hid (HB.out.setCell (nL _) _);rw [e2] at HN HB2;rw [e1] at c0;have f1:wr.cell? ⟨w.heap.size,k / 8,none⟩=some (.int .u64 (lev l:Int)):=by rw [hB.cell];exact c0
   have z1:wr.frozen? ⟨w.heap.size,k / 8,none⟩=false:=hB.frozen _;have hx:=or_lev e4 oM hb256;have HX:Hid (bits .or .u64 (lev l:Int) (IntKind.u64.wrap (((p[k]:Nat):Int) * 2 ^ (k % 8 * 8)))=(lev (l++[p[k]]):Int)):=hid (by
    have h1:(p[k] * 2 ^ (8 * l.length):Nat)≤255 * 2 ^ 56:=Nat.mul_le_mul oM (Nat.pow_le_pow_right oM oM);have h2:(255:Nat) * 2 ^ 56=18374686479671623680:=by decide
    rw [← hx,e3,Nat.mul_comm 8 (k % 8)];rw [e3,Nat.mul_comm 8 (k % 8)] at h1;have h3:(((p[k]:Nat):Int) * 2 ^ (k % 8 * 8))=((p[k] * 2 ^ (k % 8 * 8):Nat):Int):=by push_cast;rfl
    rw [h3,wraps_u64 _ oM oM])
   clear hx;have HE3:=hid e3;clear e1 e2 e4 hB hcs hsz c0 HC hbB e3;generalize p[k]=bt at *;have hz5:(0:Int)≤(k:Int):=oM;have hz6:(k:Int) < (n:Int):=oM;go_wp2;go_roundw
   case rel =>
    first
     | (
       refine ⟨k+1,oM,by go_num,?_,?_⟩
       ·rw [HX.out];exact HN
       ·rw [HX.out];exact HB2)
     | (
       repeat apply Exists.intro
       refine ⟨?_,rfl⟩;refine ⟨k+1,oM,by go_num,?_,?_⟩
       ·rw [HX.out];exact HN
       ·rw [HX.out];exact HB2)
   case measure=>simp [Go.RowKit.intOf];omega
  ·have hkn:k=n:=oM
   have HF:Hid (RetPk w (packW p) (.returned (.slice (some ⟨w.heap.size,0,none⟩) q q)) wr):=hid (by
    obtain ⟨cs,hB,hsz,hcs⟩:=HC.out;refine ⟨_,q,q,rfl,?_,reads_of_blk hB ?_ ?_,fun ad h=>by injection h with h;subst h;exact nL _,HB.out⟩
    ·rw [packW_len,HL.out];exact HQ.out.symm
    ·simp [uCells,packW_len,HL.out,HQ.out]
    ·intro j u hu
     have hj:j < q:=by
      have h1:=(List.getElem?_eq_some_iff.1 hu).1;simp [uCells,packW_len,HL.out,HQ.out] at h1;omega
     rw [hcs j hj,hkn,← HL.out,pkW_end];rw [← hu];simp [uCells,packW,HL.out,HQ.out,hj])
   have hd1:decide ((k:Int) < (n:Int))=false:=dF;have hd2:decide (k < n)=false:=decide_eq_false hlt;clear hkn hlt hk HC;go_wp2;go_ret;exact HF.out
end
section
open Go.RowKit
def unpB (xs:List Nat) (n:Nat):List Nat:=(List.range n).map fun i=>xs.getD (i / 8) 0 / 256 ^ (i % 8) % 256
theorem unpB_len (xs:List Nat) (n:Nat):(unpB xs n).length=n:=by simp [unpB]
theorem unpB_pack {p:List Nat} (hp:∀ b∈p,b < 256):unpB (packW p) p.length=p:=by
 apply List.ext_getElem
 ·simp [unpB]
 ·intro i h1 h2
  obtain ⟨x,hx,he⟩:=packW_byte hp h2;simp only [unpB,List.getElem_map,List.getElem_range];rw [List.getD_eq_getElem?_getD,hx];exact he
def unpBad (xs:List Nat) (n:Nat):Bool:=decide (n % 8≠0) && decide (xs.getD (n / 8) 0 / 256 ^ (n % 8)≠0)
theorem unpBad_pack {p:List Nat} (hp:∀ b∈p,b < 256):unpBad (packW p) p.length=false:=by
 unfold unpBad;by_cases h:p.length % 8=0
 ·simp [h]
 ·have e:(packW p).getD (p.length / 8) 0=lev ((p.drop (8 * (p.length / 8))).take 8):=by
   rw [List.getD_eq_getElem?_getD];unfold packW;rw [List.getElem?_map,List.getElem?_range oM];rfl
  have hl:((p.drop (8 * (p.length / 8))).take 8).length=p.length % 8:=by simp;omega
  have h1:=lev_lt ((p.drop (8 * (p.length / 8))).take 8) (fun b hb=>hp b (List.mem_of_mem_drop (List.mem_of_mem_take hb)));rw [hl] at h1;rw [e,Nat.div_eq_of_lt h1];simp
def RetB (w:World) (l:List Nat) (e:Ending) (w':World):Prop:=∃ A m c,e = .returned (.tuple #[.slice A m c, .int .i64 0])∧m=l.length∧Reads w' w'.heap.size 1 A m (u8s l)∧(∀ ad,A=some ad→w.heap.size≤ad.block)∧Below w.heap.size w w'
def RetUnp (w:World) (xs:List Nat) (n:Nat) (e:Ending) (w':World):Prop:=if unpBad xs n=true then e = .returned (.tuple #[.slice none 0 0, .int .i64 11])∧Below w.heap.size w w' else RetB w (unpB xs n) e w'
theorem infoU8b:(Tryz.prog.info? 5).map (fun i=>(i.zero,i.size,i.bytes))=some (some (.int .u8 0),1,1):=by kernel_rfl
theorem makeB (n:Nat) (hn:n≤1000000) (W:World):(Instr.makeSlice 24 (.int .i64 (n:Int)) (.int .i64 (n:Int))).run Tryz.prog W = .ok (.slice (some ⟨W.heap.size,0,none⟩) n n) (W.alloc (.cells (madeCells #[.int .u8 0] n) 5)):=by
 obtain ⟨j0,hj0,hk0,hk1,hk2⟩:=info_parts infoU8b;have h:=run_makeSlice (P:=Tryz.prog) W 24 5 j0 (.int .u8 0) Tryz.underlying24 hj0 hk0 .i64 .i64 (n:Int) (n:Int) oM oM (by rw [hk1];omega) (by rw [hk2];omega) oM;rw [hk1,Int.toNat_natCast,Nat.mul_one] at h;exact h
theorem unpack_any (A:Option Addr) (q c n:Nat) (xs:List Nat) (w:World) (h:Reads w w.heap.size 1 A q (uCells xs)) (hx:∀ x∈xs,x < 18446744073709551616) (hn:n≤100000) (hq:(n+7) / 8=q) :
  Calls Tryz.prog 309 #[.slice A q c, .int .i64 (n:Int)] w (RetUnp w xs n):=by
 have hl0:xs.length=q:=by have:=h.1;simp [uCells] at this;omega
 have HW:=hid (wordsOf_any n hn);rw [hq] at HW;have HR:=hid h;have HX:=hid hx;have HL:=hid hl0;have HQ:=hid hq;have hmk:=makeB n oM;have hq8:n≤8 * q:=oM;have hq9:q≤100000:=oM;have hnn:decide ((n:Int) < 0)=false:=dF;have HC:Hid (unpBad xs n=true→n % 8≠0):=hid (fun hb=>by unfold unpBad at hb;simp at hb;exact hb.1);clear h hx hl0;have HI:Hid (n % 8≠0→∃ (j b off:Nat),(q:Int) - 1=(j:Int)∧j < q∧A=some ⟨b,off,none⟩∧w.cell? ⟨b,off+j,none⟩=some (.int .u64 (xs.getD (n / 8) 0:Int))∧xs.getD (n / 8) 0 < 18446744073709551616∧((((xs.getD (n / 8) 0:Nat):Int) / 2 ^ (n % 8 * 8)) != 0)=unpBad xs n):=hid (fun h8=>by
  have hj:n / 8 < q:=oM;obtain ⟨hl,b,off,hA,hbB,f0⟩:=u_facts HR.out hj;have e:xs.getD (n / 8) 0=xs[n / 8]:=by rw [List.getD_eq_getElem?_getD,List.getElem?_eq_getElem hl];rfl
  refine ⟨n / 8,b,off,oM,hj,hA,by rw [e];exact f0,by rw [e];exact HX.out _ (List.getElem_mem hl),?_⟩;have e2:(((xs.getD (n / 8) 0:Nat):Int) / 2 ^ (n % 8 * 8))=((xs.getD (n / 8) 0 / 256 ^ (n % 8):Nat):Int):=by
   rw [show (256:Nat)=2 ^ 8 by decide,← Nat.pow_mul,Nat.mul_comm 8 (n % 8)];push_cast;rfl
  rw [e2];unfold unpBad;generalize xs.getD (n / 8) 0 / 256 ^ (n % 8)=z;by_cases hz:z=0
  ·subst hz;simp
  ·have h1:(((z:Nat):Int) != 0)=true:=by rw [bne,beq_eq_false_iff_ne.2 oM];rfl
   rw [h1,decide_eq_true h8,decide_eq_true hz];rfl)
 by_cases hb:unpBad xs n=true
 ·have h8:=HC.out hb
  obtain ⟨j,b,off,ej,hjq,hA,f0,hx64,hz⟩:=HI.out h8;subst hA;rw [hb] at hz;have HBd:=hid hb;have e1:(((n:Int) % 8) != 0)=true:=by rw [bne,beq_eq_false_iff_ne.2 oM];rfl
  have ej2:wrap64 ((q:Int) - 1)=(j:Int):=by rw [ej];exact IntWalk.wrap64_in _ oM
  generalize xs.getD (n / 8) 0=z at *;have hj0:(0:Int)≤(j:Int):=oM;have hj1:(j:Int) < (q:Int):=oM;clear HI HC hb h8;go_enter Tryz.func309,Tryz.ntmps309
  go_wp2_with (go_at_call 296;refine (HW.out _).mono ?_;rintro e w1 ⟨rfl,rfl⟩)
  go_ret2;unfold RetUnp;rw [if_pos HBd.out];exact ⟨rfl,Below.refl _ _⟩
 ·have HNB:=hid hb
  go_enter Tryz.func309,Tryz.ntmps309
  go_upto_region 5 with (go_at_call 296;refine (HW.out _).mono ?_;rintro e w1 ⟨rfl,rfl⟩)
  go_cut [31] from 15 to 31 (fun v wx=>v = .bool false∧Hid (wx=w))
  case first =>
   by_cases h8:n % 8=0
   ·have e1:(((n:Int) % 8) != 0)=false:=by rw [bne,beq_iff_eq.2 oM];rfl
    clear HI HC hb;go_wp2_with fail
    go_meet;exact ⟨rfl,hid rfl⟩
   ·obtain ⟨j,b,off,ej,hjq,hA,f0,hx64,hz⟩:=HI.out h8
    subst hA;have hbf:unpBad xs n=false:=by simpa using hb
    rw [hbf] at hz;have e1:(((n:Int) % 8) != 0)=true:=by rw [bne,beq_eq_false_iff_ne.2 oM];rfl
    have ej2:wrap64 ((q:Int) - 1)=(j:Int):=by rw [ej];exact IntWalk.wrap64_in _ oM
    generalize xs.getD (n / 8) 0=z at *;have hj0:(0:Int)≤(j:Int):=oM;have hj1:(j:Int) < (q:Int):=oM;clear HI HC hb h8;go_wp2_with fail
    go_meet;exact ⟨rfl,hid rfl⟩
  case rest =>
   obtain ⟨rfl,hwc⟩:=hcut;have hw:=hwc.out.symm;subst hw;clear hwc HI HC hb;go_wp2;go_loopw [36] (fun i wr=>∃ k:Nat,k≤n∧i = .int .i64 (k:Int)∧Hid (∃ cs,Blk wr w.heap.size 5 cs∧cs.size=n∧∀ j,j < k→cs[j]?=some (.int .u8 ((xs.getD (j / 8) 0 / 256 ^ (j % 8) % 256:Nat):Int)))∧Hid (Below w.heap.size w wr)) (fun i _=>n - (Go.RowKit.intOf i).toNat)
   case atStart =>
    exact ⟨0,Nat.zero_le _,rfl,hid ⟨_,Blk.new w _ _,size_madeCells _ _,fun j hj=>absurd hj oM⟩,hid ((Below.refl _ _).alloc (nL _) _)⟩
   case round =>
    obtain ⟨k,hk,rfl,HC,HB⟩:=hrel;by_cases hlt:k < n
    ·have hkq:k / 8 < q:=oM
     obtain ⟨hl,b,off,hA,hbB,f0⟩:=u_facts (HR.out.below HB.out) hkq;subst hA;obtain ⟨cs,hB,hsz,hcs⟩:=HC.out;have e:xs.getD (k / 8) 0=xs[k / 8]:=by rw [List.getD_eq_getElem?_getD,List.getElem?_eq_getElem hl];rfl
     have hx64:=HX.out _ (List.getElem_mem hl);rw [← e] at f0 hx64;have e2:(((xs.getD (k / 8) 0:Nat):Int) / 2 ^ (k % 8 * 8)) % 256=((xs.getD (k / 8) 0 / 256 ^ (k % 8) % 256:Nat):Int):=by
      rw [show (256:Nat) ^ (k % 8)=2 ^ (k % 8 * 8) by rw [show (256:Nat)=2 ^ 8 by decide,← Nat.pow_mul,Nat.mul_comm 8 (k % 8)]];push_cast;rfl
     have hc0:k < cs.size:=oM;have HN:Hid (∃ cs',Blk (wr.setCell ⟨w.heap.size,k,none⟩ (.int .u8 ((xs.getD (k / 8) 0 / 256 ^ (k % 8) % 256:Nat):Int))) w.heap.size 5 cs'∧cs'.size=n∧∀ j,j < k+1→cs'[j]?=some (.int .u8 ((xs.getD (j / 8) 0 / 256 ^ (j % 8) % 256:Nat):Int))):=hid ⟨_,hB.set_ k _,by simp [hsz],fun j hj=>by
      rw [Array.getElem?_setIfInBounds];by_cases e:k=j
      ·subst e
       simp [hc0]
      ·rw [if_neg e,hcs j oM]⟩
     have HB2:Hid (Below w.heap.size w (wr.setCell ⟨w.heap.size,k,none⟩ (.int .u8 ((xs.getD (k / 8) 0 / 256 ^ (k % 8) % 256:Nat):Int)))):=hid (HB.out.setCell (nL _) _);have f1:wr.cell? ⟨w.heap.size,k,none⟩=some cs[k]:=by rw [hB.cell,Array.getElem?_eq_getElem hc0]
     have z1:wr.frozen? ⟨w.heap.size,k,none⟩=false:=hB.frozen _;have HE2:=hid e2;clear e hcs HC hbB hB e2;generalize cs[k]=ck at *;generalize xs.getD (k / 8) 0=z at *;generalize z / 256 ^ (k % 8) % 256=r at *;have hz5:(0:Int)≤(k:Int):=oM;have hz6:(k:Int) < (n:Int):=oM;have hz7:(k:Int) / 8 < (q:Int):=oM;go_wp2;go_roundw
     case rel =>
      first
       | (
         refine ⟨k+1,oM,by go_num,?_,?_⟩
         ·rw [HE2.out];exact HN
         ·rw [HE2.out];exact HB2)
       | (
         repeat apply Exists.intro
         refine ⟨?_,rfl⟩;refine ⟨k+1,oM,by go_num,?_,?_⟩
         ·rw [HE2.out];exact HN
         ·rw [HE2.out];exact HB2)
     case measure=>simp [Go.RowKit.intOf];omega
    ·have hkn:k=n:=oM
     have HF:Hid (RetUnp w xs n (.returned (.tuple #[.slice (some ⟨w.heap.size,0,none⟩) n n, .int .i64 0])) wr):=hid (by
      obtain ⟨cs,hB,hsz,hcs⟩:=HC.out;unfold RetUnp;rw [if_neg HNB.out];refine ⟨_,n,n,rfl,(unpB_len _ _).symm,reads_of_blk hB ?_ ?_,fun ad h=>by injection h with h;subst h;exact nL _,HB.out⟩
      ·simp [u8s,unpB_len]
      ·intro j u hu
       have hj:j < n:=by
        have h1:=(List.getElem?_eq_some_iff.1 hu).1;simp [u8s,unpB_len] at h1;omega
       rw [hcs j oM,← hu];simp [u8s,unpB,hj])
     have hd1:decide ((k:Int) < (n:Int))=false:=dF;have hd2:decide (k < n)=false:=decide_eq_false hlt;clear hkn hlt hk HC;go_wp2;go_ret2;exact HF.out
end
end Go.Proofs.YtfkjjoglnmeciaaGreatDoor
