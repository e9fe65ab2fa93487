/- The walks and laws that the claim leans on, part 14. -/
import Derived.Test.YtfkjjoglnmeciaaGreatDoorJam
import Derived.Laws.CopyOwn
set_option maxRecDepth 100000
set_option maxHeartbeats 16000000
namespace Go.Proofs.YtfkjjoglnmeciaaGreatDoor
open Go.Lib (hid)
section
open Go.RowKit
def unpB (xs:List Nat) (n:Nat):List Nat:=(List.range n).map fun i=>xs.getD (i / 8) 0 / 256 ^ (i % 8) % 256
theorem unpB_len (xs:List Nat) (n:Nat):(unpB xs n).length=n:=by simp [unpB]
theorem unpB_pack {p:List Nat} (hp:∀ b∈p,b < 256):unpB (packW p) p.length=p:=by
 apply List.ext_getElem
 ·simp [unpB]
 ·intro i h1 h2
  obtain ⟨x,hx,he⟩:=packW_byte hp h2
  simp only [unpB,List.getElem_map,List.getElem_range]
  rw [List.getD_eq_getElem?_getD,hx]
  exact he
def unpBad (xs:List Nat) (n:Nat):Bool:=decide (n % 8≠0) && decide (xs.getD (n / 8) 0 / 256 ^ (n % 8)≠0)
theorem unpBad_pack {p:List Nat} (hp:∀ b∈p,b < 256):unpBad (packW p) p.length=false:=by
 unfold unpBad
 by_cases h:p.length % 8=0
 ·simp [h]
 ·have e:(packW p).getD (p.length / 8) 0=lev ((p.drop (8 * (p.length / 8))).take 8):=by
   rw [List.getD_eq_getElem?_getD]
   unfold packW
   rw [List.getElem?_map,List.getElem?_range (by omega)]
   rfl
  have hl:((p.drop (8 * (p.length / 8))).take 8).length=p.length % 8:=by simp;omega
  have h1:=lev_lt ((p.drop (8 * (p.length / 8))).take 8) (fun b hb=>hp b (List.mem_of_mem_drop (List.mem_of_mem_take hb)))
  rw [hl] at h1
  rw [e,Nat.div_eq_of_lt h1]
  simp
def RetB (w:World) (l:List Nat) (e:Ending) (w':World):Prop:=∃ A m c,e = .returned (.tuple #[.slice A m c, .int .i64 0])∧m=l.length∧Reads w' w'.heap.size 1 A m (u8s l)∧(∀ ad,A=some ad→w.heap.size≤ad.block)∧Below w.heap.size w w'
def RetUnp (w:World) (xs:List Nat) (n:Nat) (e:Ending) (w':World):Prop:=if unpBad xs n=true then e = .returned (.tuple #[.slice none 0 0, .int .i64 11])∧Below w.heap.size w w' else RetB w (unpB xs n) e w'
theorem infoU8b:(Tryz.prog.info? 5).map (fun i=>(i.zero,i.size,i.bytes))=some (some (.int .u8 0),1,1):=by kernel_rfl
theorem makeB (n:Nat) (hn:n≤1000000) (W:World):(Instr.makeSlice 24 (.int .i64 (n:Int)) (.int .i64 (n:Int))).run Tryz.prog W = .ok (.slice (some ⟨W.heap.size,0,none⟩) n n) (W.alloc (.cells (madeCells #[.int .u8 0] n) 5)):=by
 obtain ⟨j0,hj0,hk0,hk1,hk2⟩:=info_parts infoU8b
 have h:=run_makeSlice (P:=Tryz.prog) W 24 5 j0 (.int .u8 0) Tryz.underlying24 hj0 hk0 .i64 .i64 (n:Int) (n:Int) (by omega) (by omega) (by rw [hk1];omega) (by rw [hk2];omega) (by omega)
 rw [hk1,Int.toNat_natCast,Nat.mul_one] at h
 exact h
theorem unpack_any (A:Option Addr) (q c n:Nat) (xs:List Nat) (w:World) (h:Reads w w.heap.size 1 A q (uCells xs)) (hx:∀ x∈xs,x < 18446744073709551616) (hn:n≤100000) (hq:(n+7) / 8=q) :
  Calls Tryz.prog 309 #[.slice A q c, .int .i64 (n:Int)] w (RetUnp w xs n):=by
 have hl0:xs.length=q:=by have:=h.1;simp [uCells] at this;omega
 have HW:=hid (wordsOf_any n hn)
 rw [hq] at HW
 have HR:=hid h
 have HX:=hid hx
 have HL:=hid hl0
 have HQ:=hid hq
 have hmk:=makeB n (by omega)
 have hq8:n≤8 * q:=by omega
 have hq9:q≤100000:=by omega
 have hnn:decide ((n:Int) < 0)=false:=decide_eq_false (by omega)
 have HC:Hid (unpBad xs n=true→n % 8≠0):=hid (fun hb=>by unfold unpBad at hb;simp at hb;exact hb.1)
 clear h hx hl0
 have HI:Hid (n % 8≠0→∃ (j b off:Nat),(q:Int) - 1=(j:Int)∧j < q∧A=some ⟨b,off,none⟩∧w.cell? ⟨b,off+j,none⟩=some (.int .u64 (xs.getD (n / 8) 0:Int))∧xs.getD (n / 8) 0 < 18446744073709551616∧((((xs.getD (n / 8) 0:Nat):Int) / 2 ^ (n % 8 * 8)) != 0)=unpBad xs n):=hid (fun h8=>by
  have hj:n / 8 < q:=by omega
  obtain ⟨hl,b,off,hA,hbB,f0⟩:=u_facts HR.out hj
  have e:xs.getD (n / 8) 0=xs[n / 8]:=by rw [List.getD_eq_getElem?_getD,List.getElem?_eq_getElem hl];rfl
  refine ⟨n / 8,b,off,by omega,hj,hA,by rw [e];exact f0,by rw [e];exact HX.out _ (List.getElem_mem hl),?_⟩
  have e2:(((xs.getD (n / 8) 0:Nat):Int) / 2 ^ (n % 8 * 8))=((xs.getD (n / 8) 0 / 256 ^ (n % 8):Nat):Int):=by
   rw [show (256:Nat)=2 ^ 8 by decide,← Nat.pow_mul,Nat.mul_comm 8 (n % 8)]
   push_cast
   rfl
  rw [e2]
  unfold unpBad
  generalize xs.getD (n / 8) 0 / 256 ^ (n % 8)=z
  by_cases hz:z=0
  ·subst hz;simp
  ·have h1:(((z:Nat):Int) != 0)=true:=by rw [bne,beq_eq_false_iff_ne.2 (by omega)];rfl
   rw [h1,decide_eq_true h8,decide_eq_true hz];rfl)
 by_cases hb:unpBad xs n=true
 ·have h8:=HC.out hb
  obtain ⟨j,b,off,ej,hjq,hA,f0,hx64,hz⟩:=HI.out h8
  subst hA
  rw [hb] at hz
  have HBd:=hid hb
  have e1:(((n:Int) % 8) != 0)=true:=by rw [bne,beq_eq_false_iff_ne.2 (by omega)];rfl
  have ej2:wrap64 ((q:Int) - 1)=(j:Int):=by rw [ej];exact IntWalk.wrap64_in _ (by omega)
  generalize xs.getD (n / 8) 0=z at *
  have hj0:(0:Int)≤(j:Int):=by omega
  have hj1:(j:Int) < (q:Int):=by omega
  clear HI HC hb h8
  go_enter Tryz.func309,Tryz.ntmps309
  go_wp2_with (go_at_call 296;refine (HW.out _).mono ?_;rintro e w1 ⟨rfl,rfl⟩)
  go_ret2
  unfold RetUnp
  rw [if_pos HBd.out]
  exact ⟨rfl,Below.refl _ _⟩
 ·have HNB:=hid hb
  go_enter Tryz.func309,Tryz.ntmps309
  go_upto_region 5 with (go_at_call 296;refine (HW.out _).mono ?_;rintro e w1 ⟨rfl,rfl⟩)
  go_cut [31] from 15 to 31 (fun v wx=>v = .bool false∧Hid (wx=w))
  case first =>
   by_cases h8:n % 8=0
   ·have e1:(((n:Int) % 8) != 0)=false:=by rw [bne,beq_iff_eq.2 (by omega)];rfl
    clear HI HC hb
    go_wp2_with fail
    go_meet
    exact ⟨rfl,hid rfl⟩
   ·obtain ⟨j,b,off,ej,hjq,hA,f0,hx64,hz⟩:=HI.out h8
    subst hA
    have hbf:unpBad xs n=false:=by simpa using hb
    rw [hbf] at hz
    have e1:(((n:Int) % 8) != 0)=true:=by rw [bne,beq_eq_false_iff_ne.2 (by omega)];rfl
    have ej2:wrap64 ((q:Int) - 1)=(j:Int):=by rw [ej];exact IntWalk.wrap64_in _ (by omega)
    generalize xs.getD (n / 8) 0=z at *
    have hj0:(0:Int)≤(j:Int):=by omega
    have hj1:(j:Int) < (q:Int):=by omega
    clear HI HC hb h8
    go_wp2_with fail
    go_meet
    exact ⟨rfl,hid rfl⟩
  case rest =>
   obtain ⟨rfl,hwc⟩:=hcut
   have hw:=hwc.out.symm
   subst hw
   clear hwc HI HC hb
   go_wp2
   go_loopw [36] (fun i wr=>∃ k:Nat,k≤n∧i = .int .i64 (k:Int)∧Hid (∃ cs,Blk wr w.heap.size 5 cs∧cs.size=n∧∀ j,j < k→cs[j]?=some (.int .u8 ((xs.getD (j / 8) 0 / 256 ^ (j % 8) % 256:Nat):Int)))∧Hid (Below w.heap.size w wr)) (fun i _=>n - (Go.RowKit.intOf i).toNat)
   case atStart =>
    exact ⟨0,Nat.zero_le _,rfl,hid ⟨_,Blk.new w _ _,size_madeCells _ _,fun j hj=>absurd hj (by omega)⟩,hid ((Below.refl _ _).alloc (Nat.le_refl _) _)⟩
   case round =>
    obtain ⟨k,hk,rfl,HC,HB⟩:=hrel
    by_cases hlt:k < n
    ·have hkq:k / 8 < q:=by omega
     obtain ⟨hl,b,off,hA,hbB,f0⟩:=u_facts (HR.out.below HB.out) hkq
     subst hA
     obtain ⟨cs,hB,hsz,hcs⟩:=HC.out
     have e:xs.getD (k / 8) 0=xs[k / 8]:=by rw [List.getD_eq_getElem?_getD,List.getElem?_eq_getElem hl];rfl
     have hx64:=HX.out _ (List.getElem_mem hl)
     rw [← e] at f0 hx64
     have e2:(((xs.getD (k / 8) 0:Nat):Int) / 2 ^ (k % 8 * 8)) % 256=((xs.getD (k / 8) 0 / 256 ^ (k % 8) % 256:Nat):Int):=by
      rw [show (256:Nat) ^ (k % 8)=2 ^ (k % 8 * 8) by rw [show (256:Nat)=2 ^ 8 by decide,← Nat.pow_mul,Nat.mul_comm 8 (k % 8)]]
      push_cast
      rfl
     have hc0:k < cs.size:=by omega
     have HN:Hid (∃ cs',Blk (wr.setCell ⟨w.heap.size,k,none⟩ (.int .u8 ((xs.getD (k / 8) 0 / 256 ^ (k % 8) % 256:Nat):Int))) w.heap.size 5 cs'∧cs'.size=n∧∀ j,j < k+1→cs'[j]?=some (.int .u8 ((xs.getD (j / 8) 0 / 256 ^ (j % 8) % 256:Nat):Int))):=hid ⟨_,hB.set_ k _,by simp [hsz],fun j hj=>by
      rw [Array.getElem?_setIfInBounds]
      by_cases e:k=j
      ·subst e
       simp [hc0]
      ·rw [if_neg e,hcs j (by omega)]⟩
     have HB2:Hid (Below w.heap.size w (wr.setCell ⟨w.heap.size,k,none⟩ (.int .u8 ((xs.getD (k / 8) 0 / 256 ^ (k % 8) % 256:Nat):Int)))):=hid (HB.out.setCell (Nat.le_refl _) _)
     have f1:wr.cell? ⟨w.heap.size,k,none⟩=some cs[k]:=by rw [hB.cell,Array.getElem?_eq_getElem hc0]
     have z1:wr.frozen? ⟨w.heap.size,k,none⟩=false:=hB.frozen _
     have HE2:=hid e2
     clear e hcs HC hbB hB e2
     generalize cs[k]=ck at *
     generalize xs.getD (k / 8) 0=z at *
     generalize z / 256 ^ (k % 8) % 256=r at *
     have hz5:(0:Int)≤(k:Int):=by omega
     have hz6:(k:Int) < (n:Int):=by omega
     have hz7:(k:Int) / 8 < (q:Int):=by omega
     go_wp2
     go_roundw
     case rel =>
      first
       | (
         refine ⟨k+1,by omega,by go_num,?_,?_⟩
         ·rw [HE2.out];exact HN
         ·rw [HE2.out];exact HB2)
       | (
         repeat apply Exists.intro
         refine ⟨?_,rfl⟩
         refine ⟨k+1,by omega,by go_num,?_,?_⟩
         ·rw [HE2.out];exact HN
         ·rw [HE2.out];exact HB2)
     case measure=>simp [Go.RowKit.intOf];omega
    ·have hkn:k=n:=by omega
     have HF:Hid (RetUnp w xs n (.returned (.tuple #[.slice (some ⟨w.heap.size,0,none⟩) n n, .int .i64 0])) wr):=hid (by
      obtain ⟨cs,hB,hsz,hcs⟩:=HC.out
      unfold RetUnp
      rw [if_neg HNB.out]
      refine ⟨_,n,n,rfl,(unpB_len _ _).symm,reads_of_blk hB ?_ ?_,fun ad h=>by injection h with h;subst h;exact Nat.le_refl _,HB.out⟩
      ·simp [u8s,unpB_len]
      ·intro j u hu
       have hj:j < n:=by
        have h1:=(List.getElem?_eq_some_iff.1 hu).1
        simp [u8s,unpB_len] at h1
        omega
       rw [hcs j (by omega),← hu]
       simp [u8s,unpB,hj])
     have hd1:decide ((k:Int) < (n:Int))=false:=decide_eq_false (by omega)
     have hd2:decide (k < n)=false:=decide_eq_false hlt
     clear hkn hlt hk HC
     go_wp2
     go_ret2
     exact HF.out
end
section
open Go.RowKit
def uA (l:List Nat):Array Value:=(uCells l).toArray
theorem uA_at {l:List Nat} {i:Nat} (h:i < l.length):(uA l)[i]?=some (.int .u64 (l[i]:Int)):=by
 unfold uA uCells
 simp [h]
theorem uA_set {l:List Nat} {i v:Nat}:(uA l).setIfInBounds i (.int .u64 (v:Int))=uA (l.set i v):=by
 unfold uA uCells
 simp [List.map_set]
theorem uA_reads {w:World} {g:Nat} {l:List Nat} (h:Blk w g 32 (uA l)):Reads w w.heap.size 1 (some ⟨g,0,none⟩) l.length (uCells l) :=
 reads_of_blk h (by simp [uCells]) (fun j u hu=>by unfold uA;simpa using hu)
end
section
open Go.RowKit Go.Maps
def allZ (l:List Nat):Bool:=l.all (fun x=>x == 0)
theorem zeros_any (A:Option Addr) (n c:Nat) (xs:List Nat) (w:World) (h:Reads w w.heap.size 1 A n (uCells xs)) (hn:n≤100000) :
  Calls Tryz.prog 441 #[.slice A n c] w fun e w'=>e = .returned (.bool (allZ xs))∧Below w.heap.size w w':=by
 have hl0:xs.length=n:=by have:=h.1;simp [uCells] at this;omega
 have HR:=hid h
 have HL:=hid hl0
 have HB0:Hid (Below w.heap.size w w):=Below.refl _ _
 have HN0:Hid (allZ xs=allZ (xs.drop 0)):=hid (by rw [List.drop_zero])
 clear h hl0
 go_enter Tryz.func441,Tryz.ntmps441
 go_wp2
 go_loopw [7] (fun v wr=>∃ k:Nat,k≤n∧v = .int .i64 (k:Int)∧Hid (allZ xs=allZ (xs.drop k))∧Hid (Below w.heap.size w wr)) (fun v _=>n - (Go.RowKit.intOf v).toNat)
 case atStart=>exact ⟨0,Nat.zero_le _,rfl,HN0,HB0⟩
 case round =>
  clear HN0 HB0
  obtain ⟨k,hk,rfl,HN,H⟩:=hrel
  by_cases hlt:k < n
  ·obtain ⟨hkl,gb,go,hA3,_,fk⟩:=u_facts ((HR.out.below H.out).more H.out.size) (k:=k) hlt
   subst hA3
   have HS:Hid (allZ (xs.drop k)=((xs[k] == 0) && allZ (xs.drop (k+1)))):=hid (by rw [List.drop_eq_getElem_cons hkl];rfl)
   generalize xs[k]=x at *
   have hz5:(0:Int)≤(k:Int):=by omega
   have hz6:(k:Int) < (n:Int):=by omega
   by_cases hx:x=0
   ·subst hx
    have HS2:Hid (allZ xs=allZ (xs.drop (k+1))):=hid (by rw [HN.out,HS.out];rfl)
    clear HS HN hkl
    go_wp2
    go_roundw
    case rel =>
     first
      | exact ⟨k+1,by omega,by go_num,HS2,H⟩
      | (
        repeat apply Exists.intro
        refine ⟨?_,rfl⟩
        exact ⟨k+1,by omega,by go_num,HS2,H⟩)
    case measure=>simp [Go.RowKit.intOf];omega
   ·have HS2:Hid (allZ xs=false):=hid (by rw [HN.out,HS.out,beq_eq_false_iff_ne.2 hx];rfl)
    have d0:((x:Int) != 0)=true:=by rw [bne,beq_eq_false_iff_ne.2 (by omega)];rfl
    clear HS HN hkl hx
    go_wp2
    go_ret
    rw [HS2.out]
    exact ⟨rfl,H.out⟩
  ·have HS2:Hid (allZ xs=true):=hid (by rw [HN.out,List.drop_of_length_le (by have:=HL.out;omega)];rfl)
   obtain rfl:k=n:=by omega
   clear hlt hk
   go_wp2
   go_ret
   rw [HS2.out]
   exact ⟨rfl,H.out⟩
theorem unDec_any (A:Option Addr) (c x:Nat) (w:World) (h:Reads w w.heap.size 1 A 1 (uCells [x])) :
  Calls Tryz.prog 445 #[.agg #[], .slice A 1 c] w fun e w'=>e = .returned (.tuple #[.int .u64 (x:Int), .bool true])∧Below w.heap.size w w':=by
 obtain ⟨hkl,gb,go,hA3,_,fk⟩:=u_facts ((h.below ((Below.refl w.heap.size w).alloc (Nat.le_refl _) (.cells #[] 440))).more ((Below.refl w.heap.size w).alloc (Nat.le_refl _) (.cells #[] 440)).size) (k:=0) (by omega)
 subst hA3
 have f0:(w.alloc (.cells #[] 440)).cell? ⟨gb,go,none⟩=some (.int .u64 (x:Int)):=fk
 clear fk h
 go_enter Tryz.func445,Tryz.ntmps445
 go_wp2
 go_ret2
 exact ⟨rfl,(Below.refl _ _).alloc (Nat.le_refl _) _⟩
end
section
open Go.RowKit
def freeW (o:Nat):Nat:=sealW (3305111552+o)
theorem own_or (o:Nat) (ho:o < 65536):bits .or .u32 (o:Int) 3305111552=((3305111552+o:Nat):Int):=by
 have h:=u32_or_nat o 3305111552 (by omega) (by omega)
 rw [show ((3305111552:Nat):Int)=3305111552 from rfl] at h
 rw [h]
 congr 1
 have:=Nat.two_pow_add_eq_or_of_lt (i:=16) (b:=o) (by omega) 50432
 rw [show 2 ^ 16 * 50432=3305111552 from rfl] at this
 rw [Nat.or_comm,← this]
theorem wordFree_any (o:Nat) (ho:o < 65536) (w:World) (ht:Tab w) :
  Calls Tryz.prog 340 #[.agg #[.int .i64 (-1), .int .i64 (-1), .int .u16 (o:Int)]] w fun e w'=>e = .returned (.int .u64 (freeW o:Int))∧Below w.heap.size w w':=by
 have HB0:Hid (∀ x,Below w.heap.size w (w.alloc x)):=fun x=>(Below.refl _ _).alloc (Nat.le_refl _) x
 have HS:=hid (fun x=>seal_any (3305111552+o) (by omega) (w.alloc x) (ht.below (HB0.out x)))
 have e1:=own_or o ho
 have u1:IntKind.u32.wrap (o:Int)=(o:Int):=by rw [IntKind.wrap_u32'];omega
 unfold freeW
 generalize 3305111552+o=z at *
 clear ht
 go_enter Tryz.func340,Tryz.ntmps340
 go_wp2_with (go_at_call 374;refine (HS.out _).mono ?_;rintro e w1 ⟨rfl,hb1⟩;have HB1:=hid ((HB0.out _).trans (hb1.mono (by simp)));clear hb1)
 go_ret
 exact ⟨rfl,HB1.out⟩
def RetProgOk (w:World) (P:List Ins→Prop) (e:Ending) (w':World):Prop:=∃ A m c p,e = .returned (.tuple #[.slice A m c, .int .i64 0])∧P p∧w'.ownsRow w.heap.size 284 3 (.slice A m c) m (insCells p)∧Below w.heap.size w w'
theorem clear_any (c o:Nat) (hc:c≤4064) (ho:o < 65536) (h0:o≠0) (w:World) (ht:Tab w) :
  Calls Tryz.prog 284 #[.int .i64 (c:Int), .int .u16 (o:Int)] w (RetProgOk w (IsStores [(64 * c,freeW o)])):=by
 have HT:=hid ht
 have d1:decide ((0:Int)≤(c:Int))=true:=decide_eq_true (by omega)
 have d2:decide ((c:Int)≤4064)=true:=decide_eq_true (by omega)
 have d3:((o:Int) == 0)=false:=by rw [beq_eq_false_iff_ne];omega
 have u1:IntKind.u64.wrap (c:Int)=(c:Int):=by rw [IntKind.wrap_u64];omega
 have hfl:64 * c < 18446744073709551616:=by omega
 have u2:IntKind.u64.wrap ((c:Int) * 64)=((64 * c:Nat):Int):=by rw [IntKind.wrap_u64];omega
 generalize 64 * c=z at *
 clear ht
 go_enter Tryz.func284,Tryz.ntmps284
 go_wp2
 have HC:=hid (Blk.new w 304 #[.int .i64 (-1), .int .i64 (-1), .int .u16 (o:Int)])
 have HB0:Hid (Below w.heap.size w (w.alloc (.cells #[.int .i64 (-1), .int .i64 (-1), .int .u16 (o:Int)] 304))):=(Below.refl _ _).alloc (Nat.le_refl _) _
 generalize w.alloc (.cells #[.int .i64 (-1), .int .i64 (-1), .int .u16 (o:Int)] 304)=W at *
 have HBD:Hid (Below W.heap.size W W.drew):=(Below.refl _ _).drew
 refine wp_region_script (fun w'=>Below W.heap.size W w') 4 [(true,0),(true,2),(false,1),(false,3)] (by kernel_rfl) (by kernel_rfl) HBD.out ?_
 refine wpScript_take (.int .i64 (c:Int)) (by rfl) (by rfl) (fun w' hS=>?_) ?_
 ·go_simp
 simp only [zA,zB,Act.put,zD,zE,zF]
 refine wpScript_take (.agg #[.int .i64 (-1), .int .i64 (-1), .int .u16 (o:Int)]) (by rfl) (by rfl) (fun w' hS=>?_) ?_
 ·have f0:w'.cell? ⟨w.heap.size,0,none⟩=some (.int .i64 (-1)):=(HC.out.below hS HC.out.lt).cell 0
  have f1:w'.cell? ⟨w.heap.size,1,none⟩=some (.int .i64 (-1)):=(HC.out.below hS HC.out.lt).cell 1
  have f2:w'.cell? ⟨w.heap.size,2,none⟩=some (.int .u16 (o:Int)):=(HC.out.below hS HC.out.lt).cell 2
  go_simp
 simp only [zA,zB,zC,Act.put,zD,zE,zF]
 refine wpScript_do (by rfl) ?_
 go_wp2
 refine ⟨HBD.out,?_⟩
 refine wpScript_do (by rfl) ?_
 go_wp2_with fail
 refine (wordFree_any o ho W.drew ((HT.out.below HB0.out).below HBD.out)).mono ?_
 rintro e w1 ⟨rfl,hb1⟩
 have HB1:=hid (HBD.out.trans (hb1.mono HBD.out.size))
 have HS:=hid (stores_small _ 1 1 _ _ (one_reads w1 z (freeW o)) (by omega) (by omega) (fun e he=>by simp at he;subst he;exact hfl))
 have HB2:Hid (∀ x,Below w.heap.size w (w1.alloc x)):=fun x=>((HB0.out.trans (HB1.out.mono HB0.out.size)).alloc (Nat.le_trans HB0.out.size HB1.out.size) x)
 generalize freeW o=y at *
 clear hb1
 go_wp2_with fail
 refine ⟨HB1.out,?_⟩
 show wpList ..
 simp only [List.drop_succ_cons,List.drop_zero]
 go_wp2_with (go_at_call 105;refine HS.out.mono ?_;intro e w2 h1;have h2:=RetProg.back (HB2.out _) h1;obtain ⟨A1,m1,c1,p1,rfl,hp1,ho1,hb1⟩:=h2;have HP1:=hid hp1;have HO1:=hid ho1;have HB1:=hid hb1;clear h1 hp1 ho1 hb1)
 refine NoPanic.normal ?_
 go_wp2
 go_ret2
 exact ⟨_,_,_,_,rfl,HP1.out,HO1.out,HB1.out⟩
end
section
open Go.RowKit
theorem made_at (z:Array Value) (n i:Nat) (h:i < n):(madeCells z n)[i]?=some z[i % z.size]! := by
 unfold madeCells
 rw [Array.getElem?_map,Array.getElem?_range,if_pos h]
 rfl
theorem made_line (L i:Nat) (hi:i < L):(madeCells (Value.agg #[.int .u64 0, .slice none 0 0]).cells (L * 2))[i * 2]?=some (.int .u64 0)∧(madeCells (Value.agg #[.int .u64 0, .slice none 0 0]).cells (L * 2))[i * 2+1]?=some (.slice none 0 0):=by
 have hz:(Value.agg #[.int .u64 0, .slice none 0 0]).cells=#[.int .u64 0, .slice none 0 0]:=rfl
 rw [hz,made_at _ _ _ (by omega),made_at _ _ _ (by omega)]
 have e1:i * 2 % (#[Value.int .u64 0,Value.slice none 0 0]:Array Value).size=0:=by show i * 2 % 2=0;omega
 have e2:(i * 2+1) % (#[Value.int .u64 0,Value.slice none 0 0]:Array Value).size=1:=by show (i * 2+1) % 2=1;omega
 rw [e1,e2]
 exact ⟨rfl,rfl⟩
def RetNew (w:World) (L:Nat) (D:Nat→Prop) (v:Nat→Value) (cur:Nat→Nat) (e:Ending) (w':World):Prop:=∃ (a:DA) (S:Fp),e = .returned (v a.d)∧a.dirty=D∧Dev a L 0 w' S cur 0∧(∀ k,S k→w.heap.size≤k)∧Below w.heap.size w w'
theorem dev_cells {dc:Array Value} {a:DA} {L:Nat} (hs:dc.size=15) (e0:dc[0]?=some (.slice (some ⟨a.pb,0,none⟩) (8 * L) (8 * L))) (e1:dc[1]?=some (.slice (some ⟨a.cb,0,none⟩) (8 * L) a.cc)) (e2:dc[2]?=some (.slice (some ⟨a.lb,0,none⟩) L L)) (e3:dc[11]?=some (.bool false)) (e4:dc[12]?=some (.bool false)) (e5:dc[13]?=some (.int .i64 0)) (e6:dc[14]?=some (.int .u64 0))
  (e7:∀ j,j < 8→dc[3+j]?=some (.pointer (some ⟨a.th j,0,none⟩))):dc=devCells a L 0:=by
 apply Array.ext_getElem?
 intro i
 by_cases hi:i < 15
 ·rcases (show i=0∨i=1∨i=2∨i=3∨i=4∨i=5∨i=6∨i=7∨i=8∨i=9∨i=10∨i=11∨i=12∨i=13∨i=14 by omega) with rfl | rfl | rfl | rfl | rfl | rfl | rfl | rfl | rfl | rfl | rfl | rfl | rfl | rfl | rfl
  ·exact e0
  ·exact e1
  ·exact e2
  ·exact e7 0 (by omega)
  ·exact e7 1 (by omega)
  ·exact e7 2 (by omega)
  ·exact e7 3 (by omega)
  ·exact e7 4 (by omega)
  ·exact e7 5 (by omega)
  ·exact e7 6 (by omega)
  ·exact e7 7 (by omega)
  ·exact e3
  ·exact e4
  ·exact e5
  ·exact e6
 ·rw [Array.getElem?_eq_none (by omega),Array.getElem?_eq_none (by show 15≤i;omega)]
theorem dev_of {w0 w w':World} {L d cb cc lb pb:Nat} {per cs ls:Array Value} {th nt:Nat→Nat} {pl:List Nat} (D:Nat→Prop) (v:Nat→Value) (hL:L≤4096) (hlt:w0.heap.size≤pb) (hper:Blk w pb 32 per) (hps:per.size=8 * L) (hpr:RowU per pl) (hpl:pl.length=8 * L) (hb0:Below w0.heap.size w0 w) (H:OfI w w' pb L d cb cc lb cs ls th nt 8) (h1:cs.size=cc) (h2:8 * L≤cc) (h3:cc≤9223372036854775807)
  (hru:RowU cs pl) (hls:ls=madeCells (Value.agg #[.int .u64 0, .slice none 0 0]).cells (L * 2)) (g1:w.heap.size≤cb) (g2:w.heap.size≤lb) :
  RetNew w0 L D v (fun k=>pl.getD k 0) (.returned (v d)) w':=by
 obtain ⟨⟨dc,hd,hds,e0,e1,e2,e3,e4,e5,e6,e7⟩,hcu,hli,hth,hmp,hbl,hgd,hgt⟩:=H
 have h0:=hb0.size
 have hbw:Below w0.heap.size w0 w':=hb0.trans (hbl.mono h0)
 have hpb:Blk w' pb 32 per:=hper.below hbl hper.lt
 have hdc:=dev_cells (a:=⟨d,pb,cb,lb,nt,th,cc,D⟩) hds e0 e1 e2 e3 e4 e5 e6 e7
 subst hdc
 have hmz:=hmp (by omega)
 have hml:=hmz.lt
 have hpbl:=hper.lt
 have hat:∀ {c:Array Value},RowU c pl→∀ i,i < 8 * L→c[i]?=some (.int .u64 ((pl.getD i 0:Nat):Int)):=fun hr i hi=>by
  rw [hr.2 i (by omega),List.getD_eq_getElem?_getD,List.getElem?_eq_getElem (by omega)]
  rfl
 refine ⟨⟨d,pb,cb,lb,nt,th,cc,D⟩,fun k=>w0.heap.size≤k∧k < w'.heap.size,rfl,rfl,⟨⟨fun _=>0,fun _=>0,fun _ => .slice none 0 0,fun _=>[],fun k=>pl.getD k 0,fun _=>[]⟩,0,per,cs,ls,?_,⟨[],hmz,fun p hp=>(by cases hp),fun i h=>h.elim⟩,fun k _ _ e he=>(by cases he)⟩,fun k hk=>hk.1,hbw⟩
 exact {
  dev:=hd
  perB:=hpb
  perS:=hps
  perI:=fun i hi=>⟨_,hat hpr i hi⟩
  curB:=hcu
  curS:=h1
  curL:=h2
  curM:=h3
  curI:=fun i hi=>hat hru i hi
  linB:=hli
  linS:=by rw [hls,size_madeCells];omega
  linD:=fun i hi=>by rw [hls];exact (made_line L i hi).1
  linH:=fun i hi=>by rw [hls];exact (made_line L i hi).2
  own:=fun i hi=>World.ownsRow_nil _ _ _ _
  ok:=fun i hi k hk=>absurd hk (by simp)
  few:=fun i hi=>Nat.le_refl _
  apart:=fun i j g hi hj h=>by cases h
  thr:=hth
  sd:=⟨by show w0.heap.size≤d;omega,hd.lt⟩
  sp:=⟨hlt,hpb.lt⟩
  sc:=⟨by show w0.heap.size≤cb;omega,hcu.lt⟩
  sl:=⟨by show w0.heap.size≤lb;omega,hli.lt⟩
  sn:=⟨by have:=(hgt 0 (by omega)).2;show w0.heap.size≤nt 0;omega,hml⟩
  st:=fun j hj=>⟨by have:=(hgt j hj).1;show w0.heap.size≤th j;omega,(hth j hj).lt⟩
  sh:=fun i g hi h=>by cases h
  lt:=fun k hk=>hk.2
  ne:=by show pb≠cb;omega
  hL:=hL
  hT:=by omega
  pv:=fun i hi=>hat hpr i hi
  hx:=fun _ _=>rfl
  lin:=fun _ _ e he=>by cases he
  link:=fun _ _=>rfl }
theorem new_any (D:Nat→Prop) (L:Nat) (h0:0 < L) (hL:L≤4096) (w:World):Calls Tryz.prog 73 #[.int .i64 (L:Int)] w (RetNew w L D (fun d => .tuple #[.pointer (some ⟨d,0,none⟩), .int .i64 0]) (fun _=>0)):=by
 obtain ⟨j0,hj0,hk0,hk1,hk2⟩:=info_parts infoU64
 have hmk:∀ W:World,(Instr.makeSlice 99 (.int .i64 ((8 * L:Nat):Int)) (.int .i64 ((8 * L:Nat):Int))).run Tryz.prog W = .ok (.slice (some ⟨W.heap.size,0,none⟩) (8 * L) (8 * L)) (W.alloc (.cells (madeCells #[.int .u64 0] (8 * L)) 32)):=fun W=>by
  have h:=run_makeSlice (P:=Tryz.prog) W 99 32 j0 (.int .u64 0) Tryz.underlying99 hj0 hk0 .i64 .i64 ((8 * L:Nat):Int) ((8 * L:Nat):Int) (by omega) (by omega) (by rw [hk1];omega) (by rw [hk2];omega) (by omega)
  rw [hk1,Int.toNat_natCast,Nat.mul_one] at h
  exact h
 have HO:=hid (of_any w.heap.size L (List.replicate (8 * L) 0) hL h0 (w.alloc (.cells (madeCells #[.int .u64 0] (8 * L)) 32)) (by
  rw [show (w.alloc (.cells (madeCells #[.int .u64 0] (8 * L)) 32)).heap.size=w.heap.size+1 by simp]
  refine row_reads_at w _ rfl _ (8 * L) 1 32 _ ?_ ?_
  ·refine congrArg (fun x=>Obj.cells x 32) (Array.ext' ?_)
   rw [toList_madeCells_one]
   simp [uCells]
  ·simp [uCells]))
 have HN:Hid (∀ e w',RetOf (w.alloc (.cells (madeCells #[.int .u64 0] (8 * L)) 32)) w.heap.size L (List.replicate (8 * L) 0) e w'→∃ d:Nat,e = .returned (.pointer (some ⟨d,0,none⟩))∧RetNew w L D (fun d => .tuple #[.pointer (some ⟨d,0,none⟩), .int .i64 0]) (fun _=>0) (.returned (.tuple #[.pointer (some ⟨d,0,none⟩), .int .i64 0])) w'):=by
  rintro e w1 ⟨d,cb,cc,lb,cs,ls,th,nt,rfl,h1,h2,h3,h4,h5,h6,h7,h8⟩
  refine ⟨d,rfl,?_⟩
  have hz:(fun k=>(List.replicate (8 * L) 0).getD k 0)=fun _=>0:=funext fun k=>by simp [List.getD_eq_getElem?_getD,List.getElem?_replicate];split <;> rfl
  have hnew:Below w.heap.size w (w.alloc (.cells (madeCells #[.int .u64 0] (8 * L)) 32)):=(Below.refl _ _).alloc (Nat.le_refl _) _
  have h:=dev_of (w0:=w) D (fun d => .tuple #[.pointer (some ⟨d,0,none⟩), .int .i64 0]) hL (Nat.le_refl _) (Blk.new w 32 (madeCells #[.int .u64 0] (8 * L))) (by simp [size_madeCells]) (pl:=List.replicate (8 * L) 0) ⟨by simp [size_madeCells],fun i hi=>by
   have hi2:i < 8 * L:=by simpa using hi
   rw [made_at _ _ _ hi2,List.getElem_replicate]
   congr 1
   show (#[Value.int .u64 0]:Array Value)[i % 1]! = _
   rw [Nat.mod_one]
   rfl⟩ (by simp) hnew h1 h2 h3 h4 h5 h6 h7 h8
  rw [hz] at h
  exact h
 have e1:decide ((L:Int) < 1)=false:=decide_eq_false (by omega)
 have e2:decide ((4096:Int) < (L:Int))=false:=decide_eq_false (by omega)
 have u1:IntKind.i64.wrap ((L:Int) * 8)=((8 * L:Nat):Int):=by rw [IntKind.wrap_i64];omega
 have u2:(L:Int) * 8=((8 * L:Nat):Int):=by omega
 generalize madeCells #[.int .u64 0] (8 * L)=M at *
 generalize 8 * L=N at *
 go_enter Tryz.func73,Tryz.ntmps73
 go_wp2_with (go_at_call 168;refine HO.out.mono ?_;intro e w1 h1;obtain ⟨d,rfl,h2⟩:=HN.out e w1 h1;have HZ:=hid h2;clear h1 h2)
 go_ret2
 exact HZ.out
end
section
open Go.RowKit
theorem make_uA (n:Nat):madeCells #[.int .u64 0] n=uA (List.replicate n 0):=by
 apply Array.ext'
 rw [toList_madeCells_one]
 unfold uA uCells
 simp
end
end Go.Proofs.YtfkjjoglnmeciaaGreatDoor
