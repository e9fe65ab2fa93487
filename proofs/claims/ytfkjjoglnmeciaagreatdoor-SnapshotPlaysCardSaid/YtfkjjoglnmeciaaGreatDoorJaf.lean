/- The walks and laws that the claim leans on, part 6. -/
import Derived.Test.YtfkjjoglnmeciaaGreatDoorJae
set_option maxRecDepth 100000
set_option maxHeartbeats 16000000
namespace Go.Proofs.YtfkjjoglnmeciaaGreatDoor
open Go.Lib (hid)
section
open Go.RowKit Go.Maps
abbrev kU (x:Nat):Lit := .int .u64 (x:Int)
theorem kU_inj {x y:Nat} (h:kU x=kU y):x=y:=by
 have:(x:Int)=(y:Int):=by simpa [kU] using h
 omega
section
variable {H:Type} {D0:DataW H} {left:Lit→Bool} {ss:List Nat}
variable {P:Program} {k:TypeId} {R:Value→Option (DataW H × List MemPlace)} {w:World} {b n:Nat}
end
end
section
open Go.RowKit Go.Maps
def letU (c:UInt8):Bool:=decide ((65≤(c.toNat:Int)∧(c.toNat:Int)≤90)∨(97≤(c.toNat:Int)∧(c.toNat:Int)≤122))
def digU (c:UInt8):Bool:=decide ((c.toNat:Int)=95) || decide (48≤(c.toNat:Int)∧(c.toNat:Int)≤57)
def nmGo:Nat→List UInt8→Bool
 | _,[]=>true
 | k,c :: t=>(letU c || (decide (k≠0) && digU c)) && nmGo (k+1) t
def nmOk (s:ByteArray):Bool:=nmGo 0 s.data.toList && (decide (1≤s.size) && decide (s.size≤16))
theorem drop_snocU (s:ByteArray) (k:Nat) (h:k < s.size):s.data.toList.drop k=s[k] :: s.data.toList.drop (k+1):=by
 rw [List.drop_eq_getElem_cons (by simpa using h)]
 rfl
theorem orLet0:(List.range 256).all (fun n=>decide ((97≤bits .or .u8 (n:Int) 32∧bits .or .u8 (n:Int) 32≤122)↔((65≤(n:Int)∧(n:Int)≤90)∨(97≤(n:Int)∧(n:Int)≤122))))=true:=by kernel_rfl
theorem orLet (c:UInt8):∃ v:Int,bits .or .u8 (c.toNat:Int) 32=v∧((97≤v∧v≤122)↔letU c=true):=by
 refine ⟨_,rfl,?_⟩
 have h:=List.all_eq_true.1 orLet0 c.toNat (List.mem_range.2 c.toNat_lt)
 rw [decide_eq_true_eq] at h
 unfold letU
 rw [decide_eq_true_eq]
 exact h
theorem valid_any (s:ByteArray) (hs:s.size≤9223372036854775807) (w:World):Calls Tryz.prog 261 #[.string s] w fun e w'=>e = .returned (.bool (nmOk s))∧w=w':=by
 obtain ⟨V,hV⟩:∃ V,V=nmOk s:=⟨_,rfl⟩
 rw [← hV]
 have HV:=hid hV
 have HN0:Hid (nmGo 0 s.data.toList=nmGo 0 (s.data.toList.drop 0)):=hid rfl
 clear hV
 go_enter Tryz.func261,Tryz.ntmps261
 go_wp2_with fail
 go_loopw [8] (fun i wr=>∃ k:Nat,k≤s.size∧i = .int .i64 (k:Int)∧Hid (nmGo 0 s.data.toList=nmGo k (s.data.toList.drop k))∧Hid (w=wr)) (fun i _=>s.size - (Go.RowKit.intOf i).toNat)
 case atStart=>exact ⟨0,Nat.zero_le _,rfl,HN0,hid rfl⟩
 case round =>
  clear HN0
  obtain ⟨k,hk,rfl,HN,HW⟩:=hrel
  by_cases hlt:k < s.size
  ·have HS:Hid (nmGo 0 s.data.toList=((letU s[k] || (decide (k≠0) && digU s[k])) && nmGo (k+1) (s.data.toList.drop (k+1)))):=hid (by rw [HN.out,drop_snocU s k hlt];rfl)
   obtain ⟨v,hv,hl⟩:=orLet s[k]
   have HL:=hid hl
   clear hl HN
   cases hle:letU s[k]
   ·have hnv:¬ (97≤v∧v≤122):=fun h=>by
     have:=HL.out.1 h
     rw [hle] at this
     exact absurd this (by decide)
    rw [hle,Bool.false_or] at HS
    clear hle HL
    go_upto_region 5 with fail
    go_cut [5] from 15 to 20 (fun v wx=>v = .bool false∧Hid (wr=wx))
    case first =>
     by_cases h97:97≤v
     ·have h122:¬ v≤122:=fun h=>hnv ⟨h97,h⟩
      clear hnv
      go_wp2_with fail
      go_meet
      exact ⟨rfl,hid rfl⟩
     ·clear hnv
      go_wp2_with fail
      go_meet
      exact ⟨rfl,hid rfl⟩
    case rest =>
    obtain ⟨rfl,hwx⟩:=hcut
    have hwx2:=hwx.out
    subst hwx2
    clear hwx hnv hv
    by_cases hk0:k=0
    ·have HV2:Hid (V=false):=hid (by rw [HV.out,nmOk,HS.out,decide_eq_false (by omega)];rfl)
     have e0:((k:Int) == 0)=true:=beq_iff_eq.2 (by omega)
     clear HS hk0
     go_wp2
     go_ret
     exact ⟨by rw [HV2.out];rfl,HW.out⟩
    ·have e0:((k:Int) == 0)=false:=beq_eq_false_iff_ne.2 (by omega)
     rw [decide_eq_true hk0,Bool.true_and] at HS
     clear hk0
     cases hd:digU s[k]
     ·have HV2:Hid (V=false):=hid (by rw [HV.out,nmOk,HS.out,hd];rfl)
      unfold digU at hd
      rw [Bool.or_eq_false_iff] at hd
      have d1:=of_decide_eq_false hd.1
      have d2:=of_decide_eq_false hd.2
      have e1:((s[k].toNat:Int) != 95)=true:=by rw [bne,beq_eq_false_iff_ne.2 d1];rfl
      clear HS hd d1
      by_cases d3:(48:Int)≤(s[k].toNat:Int)
      ·have d4:¬ (s[k].toNat:Int)≤57:=fun h=>d2 ⟨d3,h⟩
       clear d2
       go_wp2
       go_ret
       exact ⟨by rw [HV2.out];rfl,HW.out⟩
      ·clear d2
       go_wp2
       go_ret
       exact ⟨by rw [HV2.out];rfl,HW.out⟩
     ·have HS2:Hid (nmGo 0 s.data.toList=nmGo (k+1) (s.data.toList.drop (k+1))):=hid (by rw [HS.out,hd];rfl)
      unfold digU at hd
      rw [Bool.or_eq_true] at hd
      clear HS
      rcases hd with hd | hd
      ·have d1:=of_decide_eq_true hd
       have e1:((s[k].toNat:Int) != 95)=false:=by rw [bne,beq_iff_eq.2 d1];rfl
       clear hd d1
       go_wp2
       go_roundw
       case rel =>
        first
         | exact ⟨k+1,by omega,by go_num,HS2,HW⟩
         | (
           repeat apply Exists.intro
           refine ⟨?_,rfl⟩
           exact ⟨k+1,by omega,by go_num,HS2,HW⟩)
       case measure=>simp [Go.RowKit.intOf];omega
      ·obtain ⟨d3,d4⟩:=of_decide_eq_true hd
       have e1:((s[k].toNat:Int) != 95)=true:=by rw [bne,beq_eq_false_iff_ne.2 (by omega)];rfl
       clear hd
       go_wp2
       go_roundw
       case rel =>
        first
         | exact ⟨k+1,by omega,by go_num,HS2,HW⟩
         | (
           repeat apply Exists.intro
           refine ⟨?_,rfl⟩
           exact ⟨k+1,by omega,by go_num,HS2,HW⟩)
       case measure=>simp [Go.RowKit.intOf];omega
   ·obtain ⟨h97,h122⟩:=HL.out.2 hle
    have HS2:Hid (nmGo 0 s.data.toList=nmGo (k+1) (s.data.toList.drop (k+1))):=hid (by rw [HS.out,hle];rfl)
    clear hle HL HS
    go_wp2
    go_roundw
    case rel =>
     first
      | exact ⟨k+1,by omega,by go_num,HS2,HW⟩
      | (
        repeat apply Exists.intro
        refine ⟨?_,rfl⟩
        exact ⟨k+1,by omega,by go_num,HS2,HW⟩)
    case measure=>simp [Go.RowKit.intOf];omega
  ·obtain rfl:k=s.size:=by omega
   have HS:Hid (nmGo 0 s.data.toList=true):=hid (by rw [HN.out,List.drop_of_length_le (by simp)];rfl)
   have HV2:Hid (V=(decide (1≤s.size) && decide (s.size≤16))):=hid (by rw [HV.out,nmOk,HS.out,Bool.true_and])
   clear HS HN hlt hk
   by_cases h1:1≤s.size
   ·by_cases h2:s.size≤16
    ·rw [decide_eq_true h1,decide_eq_true h2] at HV2
     have h1i:(1:Int)≤(s.size:Int):=by omega
     have h2i:(s.size:Int)≤16:=by omega
     go_wp2
     go_ret
     exact ⟨by rw [HV2.out];first | rfl | (simp;omega),HW.out⟩
    ·rw [decide_eq_true h1,decide_eq_false h2] at HV2
     have h1i:(1:Int)≤(s.size:Int):=by omega
     have h2i:(16:Int) < (s.size:Int):=by omega
     go_wp2
     go_ret
     exact ⟨by rw [HV2.out];first | rfl | (simp;omega),HW.out⟩
   ·rw [decide_eq_false h1] at HV2
    have h1i:(s.size:Int) < 1:=by omega
    go_wp2
    go_ret
    exact ⟨by rw [HV2.out];first | rfl | (simp;omega),HW.out⟩
end
section
open Go.RowKit Go.Maps
theorem refName_any (s:ByteArray) (hs:s.size≤9223372036854775807) (w:World):Calls Tryz.prog 270 #[.string s] w fun e w'=>e = .returned (.bool (nmOk s))∧w=w':=by
 obtain ⟨V,hV⟩:∃ V,V=nmOk s:=⟨_,rfl⟩
 rw [← hV]
 have HV:=hid hV
 clear hV
 by_cases h1:s.size < 1
 ·have HV2:Hid (V=false):=hid (by rw [HV.out,nmOk,decide_eq_false (by omega),Bool.false_and,Bool.and_false])
  have h1i:(s.size:Int) < 1:=by omega
  go_enter Tryz.func270,Tryz.ntmps270
  go_wp2
  go_ret
  exact ⟨by rw [HV2.out];rfl,rfl⟩
 by_cases h2:16 < s.size
 ·have HV2:Hid (V=false):=hid (by rw [HV.out,nmOk,decide_eq_false (show ¬ s.size≤16 by omega),Bool.and_false,Bool.and_false])
  have h1i:¬ (s.size:Int) < 1:=by omega
  have h2i:16 < (s.size:Int):=by omega
  go_enter Tryz.func270,Tryz.ntmps270
  go_wp2
  go_ret
  exact ⟨by rw [HV2.out];rfl,rfl⟩
 have HV1:Hid (V=nmGo 0 s.data.toList):=hid (by rw [HV.out,nmOk,decide_eq_true (show 1≤s.size by omega),decide_eq_true (show s.size≤16 by omega),Bool.and_true,Bool.and_true])
 have HN0:Hid (V=nmGo 0 (s.data.toList.drop 0)):=hid HV1.out
 have h1i:¬ (s.size:Int) < 1:=by omega
 have h2i:¬ 16 < (s.size:Int):=by omega
 clear HV HV1
 go_enter Tryz.func270,Tryz.ntmps270
 go_wp2_with fail
 go_loopw [3] (fun i wr=>∃ k:Nat,k≤s.size∧i = .int .i64 (k:Int)∧Hid (V=nmGo k (s.data.toList.drop k))∧Hid (w=wr)) (fun i _=>s.size - (Go.RowKit.intOf i).toNat)
 case atStart=>exact ⟨0,Nat.zero_le _,rfl,HN0,hid rfl⟩
 case round =>
  clear HN0
  obtain ⟨k,hk,rfl,HN,HW⟩:=hrel
  by_cases hlt:k < s.size
  ·have HS:Hid (V=((letU s[k] || (decide (k≠0) && digU s[k])) && nmGo (k+1) (s.data.toList.drop (k+1)))):=hid (by rw [HN.out,drop_snocU s k hlt];rfl)
   obtain ⟨c,hc⟩:∃ c,(s[k]'hlt).toNat=c:=⟨_,rfl⟩
   obtain ⟨b1,hb1⟩:∃ b,letU s[k]=b:=⟨_,rfl⟩
   obtain ⟨b2,hb2⟩:∃ b,digU s[k]=b:=⟨_,rfl⟩
   have HB1:Hid (decide ((65≤(c:Int)∧(c:Int)≤90)∨(97≤(c:Int)∧(c:Int)≤122))=b1):=hid (by rw [← hb1,← hc];rfl)
   have HB2:Hid ((decide ((c:Int)=95) || decide (48≤(c:Int)∧(c:Int)≤57))=b2):=hid (by rw [← hb2,← hc];rfl)
   rw [hb1,hb2] at HS
   clear hb1 hb2 HN
   have hz1:(k:Int) < (s.size:Int):=by omega
   go_upto_region 6 with fail
   go_cut [4] from 20 to 41 (fun v wx=>v = .bool b1∧Hid (wr=wx))
   case first =>
    have h:=HB1.out
    clear HB1 HB2 HS
    by_cases h97:97≤(c:Int) <;> by_cases h122:(c:Int)≤122 <;> by_cases h65:65≤(c:Int) <;> by_cases h90:(c:Int)≤90 <;> first
     | (exfalso;omega)
     | (
       first | rw [decide_eq_true (by omega)] at h | rw [decide_eq_false (by omega)] at h
       subst h
       go_wp2_with fail
       go_meet
       exact ⟨rfl,hid rfl⟩)
   case rest =>
   obtain ⟨rfl,hwx⟩:=hcut
   have hwx2:=hwx.out
   subst hwx2
   clear hwx HB1
   go_upto_region 7 with fail
   go_cut [5] from 42 to 57 (fun v wx=>v = .bool b2∧Hid (wr=wx))
   case first =>
    have h:=HB2.out
    clear HB2 HS
    by_cases h48:48≤(c:Int) <;> by_cases h57:(c:Int)≤57 <;> by_cases h95:(c:Int)=95 <;> first
     | (exfalso;omega)
     | (
       first | rw [decide_eq_true h95] at h | rw [decide_eq_false h95] at h
       first | rw [decide_eq_true (show (48:Int)≤c∧(c:Int)≤57 from ⟨h48,h57⟩)] at h | rw [decide_eq_false (show ¬ ((48:Int)≤c∧(c:Int)≤57) by omega)] at h
       have h':=h.symm
       subst h'
       have e95:((c:Int) == 95)=decide ((c:Int)=95):=rfl
       go_wp2_with fail
       go_meet
       exact ⟨rfl,hid rfl⟩)
   case rest =>
   obtain ⟨rfl,hwx⟩:=hcut
   have hwx2:=hwx.out
   subst hwx2
   clear hwx HB2
   obtain ⟨b0,hb0⟩:∃ b,((k:Int) == 0)=b:=⟨_,rfl⟩
   have HK0:Hid (b0=decide (k=0)):=hid (by
    rw [← hb0]
    by_cases hk0:k=0
    ·subst hk0;rfl
    ·rw [decide_eq_false hk0,beq_eq_false_iff_ne]
     omega)
   have HS2:Hid (V=((b1 || (!b0 && b2)) && nmGo (k+1) (s.data.toList.drop (k+1)))):=hid (by
    rw [HS.out,HK0.out]
    by_cases hk0:k=0
    ·rw [decide_eq_true hk0,decide_eq_false (fun h=>h hk0)];rfl
    ·rw [decide_eq_false hk0,decide_eq_true hk0];rfl)
   clear HS HK0 hc
   cases b1 <;> cases b0 <;> cases b2
   all_goals first
    | (
      have HV2:Hid (V=false):=hid (by rw [HS2.out];rfl)
      clear HS2
      go_wp2
      go_ret
      exact ⟨by rw [HV2.out];rfl,HW.out⟩)
    | (
      have HV2:Hid (V=nmGo (k+1) (s.data.toList.drop (k+1))):=hid (by rw [HS2.out];rfl)
      clear HS2
      go_wp2
      go_roundw
      case rel =>
       first
        | exact ⟨k+1,by omega,by go_num,HV2,HW⟩
        | (
         repeat apply Exists.intro
         refine ⟨?_,rfl⟩
         exact ⟨k+1,by omega,by go_num,HV2,HW⟩)
      case measure=>simp [Go.RowKit.intOf];omega)
  ·obtain rfl:k=s.size:=by omega
   have HV2:Hid (V=true):=hid (by rw [HN.out,List.drop_of_length_le (by simp)];rfl)
   clear HN hlt hk
   go_wp2
   go_ret
   exact ⟨by rw [HV2.out];rfl,HW.out⟩
end
section
open Go.RowKit
def Ins.op:Ins→Nat
 | .st _ _=>1
 | .fl _=>2
 | .fe=>3
def Ins.o:Ins→Nat
 | .st o _=>o
 | .fl o=>o
 | .fe=>0
def Ins.v:Ins→Nat
 | .st _ v=>v
 | _=>0
theorem Ins.cells_eq (i:Ins):i.cells=[.int .u8 (i.op:Int), .int .u64 (i.o:Int), .int .u64 (i.v:Int)]:=by cases i <;> rfl
theorem Ins.op_lt (i:Ins):1≤i.op∧i.op≤3:=by cases i <;> simp [Ins.op]
theorem Reads.plain {w:World} {B size n:Nat} {A:Option Addr} {xs:List Value} (h:Reads w B size A n xs) (hn:0 < n) (hs:0 < size) :
  ∃ b off,A=some ⟨b,off,none⟩∧b < B∧∀ j u,xs[j]?=some u→w.cell? ⟨b,off+j,none⟩=some u:=by
 obtain ⟨⟨b,off,spot⟩,hA,hb,hc⟩:=h.2 hn
 have hl:0 < xs.length:=by rw [h.1];exact Nat.mul_pos hn hs
 have h0:=hc 0 _ (List.getElem?_eq_getElem hl)
 have hspot:spot=none:=by simpa [Addr.add] using World.cell?_spot h0
 subst hspot
 refine ⟨b,off,hA,hb,fun j u hu=>?_⟩
 rw [← Go.WideShapes.add_plain]
 exact hc j u hu
theorem ins_facts {w:World} {B n:Nat} {A:Option Addr} {p:List Ins} (h:Reads w B 3 A n (insCells p)) {k:Nat} (hk:k < n) :
  ∃ (hl:k < p.length) (b off:Nat),A=some ⟨b,off,none⟩∧b < B ∧
   w.cell? ⟨b,off+k * 3,none⟩=some (.int .u8 ((p[k]).op:Int))∧w.cell? ⟨b,off+k * 3+1,none⟩=some (.int .u64 ((p[k]).o:Int))∧w.cell? ⟨b,off+k * 3+2,none⟩=some (.int .u64 ((p[k]).v:Int)):=by
 have hl:k < p.length:=by have:=h.1;rw [insCells_len] at this;omega
 obtain ⟨b,off,hA,hb,hc⟩:=h.plain (by omega) (by omega)
 have e:=Ins.cells_eq p[k]
 refine ⟨hl,b,off,hA,hb,?_,?_,?_⟩
 ·exact hc (k * 3) _ ((insCells_at p k 0 hl (by omega)).trans (by rw [e];rfl))
 ·exact hc (k * 3+1) _ ((insCells_at p k 1 hl (by omega)).trans (by rw [e];rfl))
 ·exact hc (k * 3+2) _ ((insCells_at p k 2 hl (by omega)).trans (by rw [e];rfl))
theorem validP_any (A:Option Addr) (n c:Nat) (p:List Ins) (w:World) (h:Reads w w.heap.size 3 A n (insCells p)) (hn:n≤1000000) :
  Calls Tryz.prog 175 #[.slice A n c] w fun e w'=>e = .returned (.bool true)∧Below w.heap.size w w':=by
 have HR:=hid h
 have HB0:Hid (Below w.heap.size w w):=Below.refl _ _
 clear h
 go_enter Tryz.func175,Tryz.ntmps175
 go_wp2
 go_loopw [7] (fun i wr=>∃ (k:Nat),k≤n∧i = .int .i64 k∧Hid (Below w.heap.size w wr)) (fun i _=>n - (RowKit.intOf i).toNat)
 case atStart=>exact ⟨0,Nat.zero_le _,rfl,HB0⟩
 case round =>
  clear HB0
  obtain ⟨k,hk,rfl,H⟩:=hrel
  by_cases hlt:k < n
  ·obtain ⟨hl,b,off,hA,hbB,f0,f1,f2⟩:=ins_facts (HR.out.below H.out) hlt
   subst hA
   have ho:=Ins.op_lt p[k]
   generalize (p[k]).op=op at *
   generalize (p[k]).o=o at *
   generalize (p[k]).v=v at *
   have hz0:(0:Int)≤(k:Int):=by omega
   have hz1:(k:Int) < (n:Int):=by omega
   have e1:decide ((op:Int) < 1)=false:=decide_eq_false (by omega)
   have e2:decide ((3:Int) < (op:Int))=false:=decide_eq_false (by omega)
   have e3:decide (3 < op)=false:=decide_eq_false (by omega)
   have HN:Hid (∀ o,Below w.heap.size w (wr.alloc o)):=fun o=>H.out.alloc H.out.size o
   clear H
   go_wp2
   go_roundw
   case rel=>exact ⟨k+1,by omega,by go_num,HN.out _⟩
   case measure=>simp [RowKit.intOf];omega
  ·obtain rfl:n=k:=by omega
   go_wp2
   go_ret
   exact ⟨rfl,H.out⟩
def RetIns (a:DA) (L T:Nat) (w:World) (S:Fp) (cur:Nat→Nat) (d:(Nat→Prop) × (Nat→Prop)) (F:Nat) (b:Bool) (e:Ending) (w':World):Prop :=
 e = .returned (.tuple #[])∧∃ S' F',DevM a L T w' S' cur d.1 d.2 F'∧(b=false→F'=0)∧F'≤F+1∧Chg S w w'∧Grew S S' w
theorem exec_any {a:DA} {L T:Nat} {w:World} {S:Fp} {cur:Nat→Nat} {d:(Nat→Prop) × (Nat→Prop)} {F:Nat} (h:DevM a L T w S cur d.1 d.2 F) (i:Ins) (b:Bool) (hg:goodI L b i) (hb:b=false→F=0) (hT:T < 1000000000) (hF:F < 1000000000) :
  Calls Tryz.prog 176 #[.agg #[.int .u8 (i.op:Int), .int .u64 (i.o:Int), .int .u64 (i.v:Int)],memV a] w (RetIns a L (T+1) w S (runI cur i) (dirI d i) F (noteI b i)):=by
 cases i with
 | st o v =>
  obtain ⟨h1,h2,h3,_⟩:=hg
  have hF0:=hb h1
  subst hF0
  refine (exec_st h o v h2 h3 hT).mono ?_
  rintro e w' ⟨rfl,S',hd,hc,hgr⟩
  exact ⟨rfl,S',0,hd,fun _=>rfl,Nat.zero_le _,hc,hgr⟩
 | fl o =>
  refine (exec_fl h o hg hF).mono ?_
  rintro e w' ⟨rfl,S',hd,hc,hgr⟩
  exact ⟨rfl,S',F+1,hd.more (by omega) (by omega),fun h=>(by cases h),Nat.le_refl _,hc,hgr⟩
 | fe =>
  refine (exec_fe h).mono ?_
  rintro e w' ⟨rfl,S',hd,hc,hgr⟩
  exact ⟨rfl,S',0,hd.more (by omega) (by omega),fun _=>rfl,Nat.zero_le _,hc,hgr⟩
def RunI (a:DA) (L T:Nat) (w wr:World) (S:Fp) (cur:Nat→Nat) (p:List Ins) (k:Nat):Prop :=
 ∃ S' F',DevM a L (T+k) wr S' (runP cur (p.take k)) (dirP (a.dirty,fun _=>False) (p.take k)).1 (dirP (a.dirty,fun _=>False) (p.take k)).2 F'∧(noteP false (p.take k)=false→F'=0)∧F'≤k∧Chg S w wr∧Grew S S' w
theorem run_any {a:DA} {L T:Nat} {w:World} {S:Fp} {cur:Nat→Nat} (h:Dev a L T w S cur 0) (A:Option Addr) (n c:Nat) (p:List Ins) (hr:Reads w w.heap.size 3 A n (insCells p)) (hoff:∀ ad,A=some ad→¬ S ad.block) (hg:goodP L false p) (hn:n≤1000000) (hT:T+n≤1000000000) :
  Calls Tryz.prog 78 #[.slice A n c,memV a] w (RetDev a L (T+n) w S (runP cur p) 0 (.int .i64 0)):=by
 have HV:=hid (validP_any A n c p w hr hn)
 have HLN:=hid (show p.length=n by have:=hr.1;rw [insCells_len] at this;omega)
 have HR:=hid hr
 have HOF:=hid hoff
 have HGD:=hid hg
 have HD0:=hid h
 have HSL:=hid h.lt
 have hmE:=methErr (some ⟨a.th 0,0,none⟩)
 have hq:∀ W,(binOp .eql 188 (.iface 58 (.pointer (some ⟨a.th 0,0,none⟩))) .nilIface).run Tryz.prog W = .ok (.bool false) W:=fun W=>by rfl
 clear h hr hoff hg
 unfold memV
 go_enter Tryz.func78,Tryz.ntmps78
 go_wp2_with (go_at_call 175;refine HV.out.mono ?_;rintro e w1 ⟨rfl,hb1⟩;have HI0:Hid (RunI a L T w w1 S cur p 0):=⟨S,0,HD0.out.below hb1,fun _=>rfl,Nat.le_refl _,Chg.of_below hb1,Grew.refl _ _⟩;clear hb1)
 go_loopw [16] (fun i wr=>∃ (k:Nat),k≤n∧i = .int .i64 k∧Hid (RunI a L T w wr S cur p k)) (fun i _=>n - (RowKit.intOf i).toNat)
 case atStart=>exact ⟨0,Nat.zero_le _,rfl,HI0⟩
 case round =>
  clear HI0 HD0 HV
  obtain ⟨k,hk,rfl,H⟩:=hrel
  by_cases hlt:k < n
  ·obtain ⟨S1,F1,hd,hf,hF1,hC,hG⟩:=H.out
   obtain ⟨hl,b,off,hA,hbB,f0,f1,f2⟩:=ins_facts (hC.reads HR.out (Nat.le_refl _) HOF.out) hlt
   subst hA
   have hgi:=goodP_at HGD.out k hl
   have HEX:=hid (fun o=>exec_any (d:=dirP (a.dirty,fun _=>False) (p.take k)) (hd.below ((Below.refl _ wr).alloc (Nat.le_refl _) o)) p[k] (noteP false (p.take k)) hgi hf (by omega) (by omega))
   have HRP:Hid (runI (runP cur (p.take k)) p[k]=runP cur (p.take (k+1))):=show _=_ by rw [List.take_succ_eq_append_getElem hl,runP_snoc]
   have HNP:Hid (noteI (noteP false (p.take k)) p[k]=noteP false (p.take (k+1))):=show _=_ by rw [List.take_succ_eq_append_getElem hl,noteP_app];rfl
   have HDP:Hid (dirI (dirP (a.dirty,fun _=>False) (p.take k)) p[k]=dirP (a.dirty,fun _=>False) (p.take (k+1))):=show _=_ by rw [List.take_succ_eq_append_getElem hl,dirP_app];rfl
   rw [HRP.out,HNP.out,HDP.out] at HEX
   have HC:=hid hC
   have HG:=hid hG
   unfold memV at HEX
   generalize (p[k]).op=op at *
   generalize (p[k]).o=o at *
   generalize (p[k]).v=v at *
   have hz0:(0:Int)≤(k:Int):=by omega
   have hz1:(k:Int) < (n:Int):=by omega
   clear hgi hd hf hC hG H HRP HNP HDP
   go_wp2_with fail
   refine (HEX.out _).mono ?_
   rintro e w2 ⟨rfl,S2,F2,hd2,hf2,hF2,hC2,hG2⟩
   have HN:Hid (RunI a L T w w2 S cur p (k+1)):=⟨S2,F2,by rw [← Nat.add_assoc];exact hd2,hf2,by omega,HC.out.trans (S':=S1) (((Chg.refl S1 wr).alloc _).trans hC2 (Grew.refl _ _)) HG.out,HG.out.trans (w1:=wr) (fun j hj=>(hG2 j hj).imp id (fun h=>by simp at h;omega)) HC.out.size⟩
   clear hd2 hf2 hF2 hC2 hG2
   go_wp2
   go_roundw
   case rel=>exact ⟨k+1,by omega,by go_num,HN⟩
   case measure=>simp [RowKit.intOf];omega
  ·obtain rfl:n=k:=by omega
   obtain ⟨S1,F1,hd,hf,hF1,hC,hG⟩:=H.out
   rw [List.take_of_length_le (by rw [HLN.out];exact Nat.le_refl _)] at hd hf
   have hF0:=hf (goodP_end HGD.out)
   subst hF0
   have HD:Hid (Dev a L (T+n) wr S1 (runP cur p) 0):=hid (hd.mono (fun k hk=>HGD.out.2 _ k hk) (fun _ h=>h.elim))
   have HC:=hid hC
   have HG:=hid hG
   obtain ⟨s,exe,per,cs,ls,hdc,hnt⟩:=hd
   obtain ⟨g0,_,_,_,g2⟩:=hdc.facts (j:=0) (by omega)
   clear hdc hnt hC hG hf H
   go_wp2
   go_ret
   exact ⟨rfl,S1,HD.out,HC.out,HG.out⟩
end
end Go.Proofs.YtfkjjoglnmeciaaGreatDoor
