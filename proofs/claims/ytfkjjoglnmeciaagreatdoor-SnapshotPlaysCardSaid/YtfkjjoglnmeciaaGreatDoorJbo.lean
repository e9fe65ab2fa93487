/- The walks and laws that the claim leans on, part 41. -/
import Derived.Test.YtfkjjoglnmeciaaGreatDoorJbn
import Derived.Shelf.SlSortCmp.NoneTotal
import Derived.Ground.SlsfProg
set_option maxRecDepth 100000
set_option maxHeartbeats 16000000
namespace Go.Proofs.YtfkjjoglnmeciaaGreatDoor
open Go.Lib (hid)
section
open Go.RowKit Go.Maps
theorem methArD (w : World) : (method 640 375 (.agg arC0) "Decode").run Tryz.prog w = .ok (439, .agg arC0) w := by kernel_rfl
def rgW (cur:Nat→Nat) (o:Nat):List Nat:=(List.range 33).map fun j=>cur (o+j)
def RetRr (w:World) (R:Option (List (List Nat × Nat))) (e:Ending) (w':World):Prop:=(match R with
 | some l=>∃ A m c,e = .returned (.tuple #[.slice A m c, .int .i64 0])∧m=l.length∧w'.ownsRow w.heap.size 368 2 (.slice A m c) m (itCells l)
 | none=>e = .returned (.tuple #[.slice none 0 0, .int .i64 11]))∧Below w.heap.size w w'
section
variable {a:DA} {L T s n K:Nat} {x:HA} {cs:Nat→CS} {f:Nat→Option Nat} {N m b0:Nat} {S:Fp} {cur:Nat→Nat} {w:World} {d r:Nat}
theorem rread_any (h:SD a L T s n K x cs f N m b0 S cur w d r) (off:Nat) (h8:off % 8=0) (hlt:off+264≤64 * L) :
  Calls Tryz.prog 326 #[.iface 59 (.pointer (some ⟨d,0,none⟩)), .int .u64 (off:Int),arI] w (RetRr w (decA (rgW cur (off / 8)))):=by
 have hL:L≤4096:=by obtain ⟨ls,exe,per,cs,lsC,hdc,hnt⟩:=h.ds.dev;exact hdc.hL
 have HSz:=hid (fun W (hW:Below w.heap.size w W)=>sizeD (h.below hW).ds.dev (h.below hW).dir)
 have HEr:Hid (∀ W,Below w.heap.size w W→Calls Tryz.prog 432 #[.pointer (some ⟨d,0,none⟩)] W fun e w'=>e = .returned (.int .i64 0)∧W=w'):=hid (fun W hW=>errD (h.below hW).ds.dev (h.below hW).dir)
 have HLd:Hid (∀ k,k < 33→∀ W,Below w.heap.size w W→Calls Tryz.prog 435 #[.pointer (some ⟨d,0,none⟩), .int .u64 ((off+8 * k:Nat):Int)] W fun e w'=>e = .returned (.int .u64 (cur (off / 8+k):Int))∧W=w'):=hid (fun k hk W hW=>loadD (h.below hW).ds.dev (h.below hW).dir (off+8 * k) _ (by omega) (by omega) (by congr 1;omega))
 have hbn:=h.ds.bnd
 have hm1:=methDSize (some ⟨d,0,none⟩)
 have hm2:=methDErr (some ⟨d,0,none⟩)
 have hm3:=methDLoad (some ⟨d,0,none⟩)
 have hm4:=methArD
 have hnil:∀ W,(binOp .eql 188 (.iface 59 (.pointer (some ⟨d,0,none⟩))) .nilIface).run Tryz.prog W = .ok (.bool false) W:=fun W=>by rfl
 have hbn2:∀ y∈rgW cur (off / 8),y < 18446744073709551616:=fun y hy=>by
  unfold rgW at hy
  obtain ⟨j,_,rfl⟩:=List.mem_map.1 hy
  exact hbn _
 have HBn:=hid hbn2
 obtain ⟨M,hM⟩:∃ M,64 * L=M:=⟨_,rfl⟩
 rw [hM] at HSz
 obtain ⟨q,hq⟩:∃ q,M - off=q:=⟨_,rfl⟩
 have e1:IntKind.u64.wrap ((M:Int) - (off:Int))=(q:Int):=by rw [IntKind.wrap_u64];omega
 have e2:(33:Int)≤(q:Int) / 8:=by omega
 have e9:IntKind.u64.wrap ((q:Int) / 8)=(q:Int) / 8:=by rw [IntKind.wrap_u64];omega
 have e3:(off:Int)≤(M:Int):=by omega
 have e4:((off:Int) % 8 != 0)=false:=by rw [bne,beq_iff_eq.2 (by omega)];rfl
 have HOf:=hid (And.intro h8 (show off+264≤262144 by omega))
 have hmkS:=makeU 33 (by decide)
 rw [show madeCells #[.int .u64 0] 33=uA (ldL cur (off / 8) 33 0) by rw [ldL_zero];apply Array.ext';rw [toList_madeCells_one];unfold uA uCells;simp] at hmkS
 rw [show ((33:Nat):Int)=33 from rfl] at hmkS
 have hbq:=hbn
 clear h hbn hbn2 hL hlt hM hq h8
 unfold arI
 go_enter Tryz.func326,Tryz.ntmps326
 go_upto_region 12 with (first
  | (go_at_call 363;refine (arSize_any w).mono ?_;rintro e w1 ⟨rfl,hb1⟩;have HB1:=hid hb1;clear hb1)
  | (go_at_call 436;refine (HSz.out w1 HB1.out).mono ?_;rintro e w2 ⟨rfl,rfl⟩)
  | (go_at_call 432;refine (HEr.out w1 HB1.out).mono ?_;rintro e w2 ⟨rfl,rfl⟩))
 have HBk:Hid (Blk (w1.alloc (.cells (uA (ldL cur (off / 8) 33 0)) 32)) w1.heap.size 32 (uA (ldL cur (off / 8) 33 0))):=hid (Blk.new w1 _ _)
 have HB4:Hid (Below w1.heap.size w1 (w1.alloc (.cells (uA (ldL cur (off / 8) 33 0)) 32))):=hid ((Below.refl _ _).alloc (Nat.le_refl _) _)
 clear hmkS e1 e2 e3 e4 e9 hnil
 go_wp2_with fail
 go_loopw [56] (fun i wr=>∃ k:Nat,k≤33∧i = .int .i64 (k:Int)∧Hid (Blk wr w1.heap.size 32 (uA (ldL cur (off / 8) 33 k)))∧Hid (Below w1.heap.size w1 wr)) (fun i _=>33 - (Go.RowKit.intOf i).toNat)
 case atStart=>exact ⟨0,Nat.zero_le _,rfl,HBk,HB4⟩
 case round =>
  clear HBk HB4
  obtain ⟨k,hk,rfl,HBk,HB4⟩:=hrel
  by_cases hlt:k < 33
  ·have HBl:=hid (HB1.out.trans (HB4.out.mono HB1.out.size))
   have HL4:=hid (HLd.out k hlt wr HBl.out)
   have HNx:Hid (Blk (wr.setCell ⟨w1.heap.size,k,none⟩ (.int .u64 (cur (off / 8+k):Int))) w1.heap.size 32 (uA (ldL cur (off / 8) 33 (k+1)))):=hid (by
    have h1:=HBk.out.set_ k (.int .u64 (cur (off / 8+k):Int))
    rw [uA_set,ldL_set] at h1
    exact h1)
   have HBx:Hid (Below w1.heap.size w1 (wr.setCell ⟨w1.heap.size,k,none⟩ (.int .u64 (cur (off / 8+k):Int)))):=hid (HB4.out.setCell (Nat.le_refl _) _)
   have hz5:(0:Int)≤(k:Int):=by omega
   have hz6:(k:Int) < 33:=by omega
   have c9:wr.cell? ⟨w1.heap.size,k,none⟩=some (.int .u64 (((ldL cur (off / 8) 33 k)[k]'(by rw [ldL_len];exact hlt):Nat):Int)):=by rw [HBk.out.cell];exact uA_at (by rw [ldL_len];exact hlt)
   have z9:wr.frozen? ⟨w1.heap.size,k,none⟩=false:=HBk.out.frozen k
   generalize (ldL cur (off / 8) 33 k)[k]'(by rw [ldL_len];exact hlt)=old at *
   generalize cur (off / 8+k)=vk at *
   have ho:=HOf.out.2
   have e5:IntKind.u64.wrap (k:Int)=(k:Int):=by rw [IntKind.wrap_u64];omega
   have e6:IntKind.u64.wrap ((k:Int) * 8)=(k:Int) * 8:=by rw [IntKind.wrap_u64];omega
   have e7:IntKind.u64.wrap ((off:Int)+(k:Int) * 8)=((off+8 * k:Nat):Int):=by rw [IntKind.wrap_u64];omega
   generalize off+8 * k=ok at HL4 e7
   clear HBk HB4 ho
   go_wp2_with (go_at_call 435;refine HL4.out.mono ?_;rintro e w2 ⟨rfl,rfl⟩)
   go_roundw
   case rel =>
    first
     | exact ⟨k+1,by omega,by go_num,HNx,HBx⟩
     | (
       repeat apply Exists.intro
       refine ⟨?_,rfl⟩
       exact ⟨k+1,by omega,by go_num,HNx,HBx⟩)
   case measure=>simp [Go.RowKit.intOf];omega
  ·obtain rfl:k=33:=by omega
   have HBl:=hid (HB1.out.trans (HB4.out.mono HB1.out.size))
   have HE4:=hid (HEr.out wr HBl.out)
   have HAd:Hid (Calls Tryz.prog 439 #[.agg arC0, .slice (some ⟨w1.heap.size,0,none⟩) 33 33] wr (RetAr wr (decA (rgW cur (off / 8))))):=hid (by
    have h1:=HBk.out
    rw [ldL_end] at h1
    have h2:Reads wr wr.heap.size 1 (some ⟨w1.heap.size,0,none⟩) 33 (uCells (rgW cur (off / 8))):=by
     have h3:=uA_reads h1
     rw [show ((List.range 33).map fun j=>cur (off / 8+j)).length=33 by simp] at h3
     exact h3
    exact arDec_any _ 33 rfl _ wr h2 HBn.out)
   clear HBk HB4 hlt hk
   generalize decA (rgW cur (off / 8))=R at *
   rcases R with _ | l
   ·have HAe:Hid (Calls Tryz.prog 439 #[.agg arC0, .slice (some ⟨w1.heap.size,0,none⟩) 33 33] wr fun e w'=>e = .returned (.tuple #[.slice none 0 0, .bool false])∧Below wr.heap.size wr w'):=HAd
    rw [show ((33:Nat):Int)=33 from rfl]
    go_wp2_with (first
     | (go_at_call 432;refine HE4.out.mono ?_;rintro e w5 ⟨rfl,rfl⟩)
     | (go_at_call 439;refine HAe.out.mono ?_;rintro e w6 ⟨rfl,hb6⟩;have HB6:=hid (HBl.out.trans (hb6.mono HBl.out.size));clear hb6))
    go_ret2
    exact ⟨rfl,HB6.out⟩
   ·have HAe:Hid (Calls Tryz.prog 439 #[.agg arC0, .slice (some ⟨w1.heap.size,0,none⟩) 33 33] wr fun e w'=>(∃ A m c,e = .returned (.tuple #[.slice A m c, .bool true])∧m=l.length∧w'.ownsRow wr.heap.size 368 2 (.slice A m c) m (itCells l))∧Below wr.heap.size wr w'):=HAd
    rw [show ((33:Nat):Int)=33 from rfl]
    go_wp2_with (first
     | (go_at_call 432;refine HE4.out.mono ?_;rintro e w5 ⟨rfl,rfl⟩)
     | (go_at_call 439;refine HAe.out.mono ?_;rintro e w6 ⟨⟨A6,m6,c6,rfl,hm6,ho6⟩,hb6⟩;have HB6:=hid (HBl.out.trans (hb6.mono HBl.out.size));have HM6:=hid hm6;have HO6:=hid ho6;clear hb6 hm6 ho6))
    go_ret2
    exact ⟨⟨_,_,_,rfl,HM6.out,own_le HO6.out HBl.out.size⟩,HB6.out⟩
end
end
section
open Go.RowKit Go.Maps
section
variable {a:DA} {L T n K:Nat} {x:HA} {cs:Nat→CS} {f:Nat→Option Nat} {N m b0:Nat} {S:Fp} {cur:Nat→Nat} {w:World} {ks free:List Nat} {V:Nat→Nat} {cm:Nat}
theorem At.notLook {q k i y:Nat} (h:At 53 K cs q k i) (hy:y < payW (cs k).cl) {k':Nat} (_hk':k' < K):¬ lookAt 53 cs k' (8 * (53+32 * k)+offB (cs k).cl i+1+y):=fun hl=>by
 obtain ⟨_,p2,p3,p4⟩:=pay_word (ln:=53+32 * k) h.2.2.1 hy
 have h9:=offB_ge (cs k).cl i
 unfold lookAt at hl
 by_cases e:k'=k
 ·subst e
  rw [h.2.1,if_pos rfl] at hl
  exact p4 hl
 ·split at hl
  ·have:=hdrAt_in hl
   omega
  ·omega
end
end
section
open Go.RowKit Go.Maps
def RetOpn (w:World) (p ck:Nat) (e:Ending) (w':World):Prop:=(if ck=0 then ∃ g:Nat,w.heap.size≤g∧e = .returned (.tuple #[.pointer (some ⟨g,0,none⟩), .int .i64 0])∧Blk w' g 265 #[.int .u64 (p:Int)] else e = .returned (.tuple #[.pointer none, .int .i64 (ck:Int)]))∧Below w.heap.size w w'
section
variable {a:DA} {L T s n K:Nat} {x:HA} {cs:Nat→CS} {f:Nat→Option Nat} {N m b0:Nat} {S:Fp} {cur:Nat→Nat} {w:World} {d r:Nat}
theorem snOpen_any (h:SD a L T s n K x cs f N m b0 S cur w d r) (p:Nat) (hp:p < 18446744073709551616) :
  Calls Tryz.prog 64 #[.iface 59 (.pointer (some ⟨d,0,none⟩)), .int .u64 (p:Int)] w (RetOpn w p (chkR s K cs p 8)):=by
 have HE0:=hid (errD h.ds.dev h.dir)
 have HC:=hid (checkD h p 8 hp (by decide))
 have hmC:=methDCheck (some ⟨d,0,none⟩)
 have hmE:=methDErr (some ⟨d,0,none⟩)
 have hnil:∀ W,(binOp .eql 83 (.iface 59 (.pointer (some ⟨d,0,none⟩))) .nilIface).run Tryz.prog W = .ok (.bool false) W:=fun W=>by rfl
 generalize chkR s K cs p 8=ck at *
 clear h
 go_enter Tryz.func64,Tryz.ntmps64
 go_upto_region 7 with (first
  | (go_at_call 432;refine HE0.out.mono ?_;rintro e w1 ⟨rfl,rfl⟩)
  | (go_at_call 431;refine HC.out.mono ?_;rintro e w2 ⟨rfl,hb2⟩;have HB2:=hid hb2;clear hb2))
 by_cases hck:ck=0
 ·subst hck
  go_wp2_with fail
  go_ret2
  refine ⟨?_,HB2.out.alloc HB2.out.size _⟩
  rw [if_pos rfl]
  exact ⟨w2.heap.size,HB2.out.size,rfl,Blk.new _ _ _⟩
 ·have d0:((ck:Int) != 0)=true:=by rw [bne,beq_eq_false_iff_ne.2 (by omega)];rfl
  go_wp2_with fail
  go_ret2
  refine ⟨?_,HB2.out⟩
  rw [if_neg hck]
  rfl
end
end
section
open Go.RowKit Go.Maps Go.Shelf Go.Sort
def Tryz.sortNm_ren : Go.Shelf.Ren := ⟨fun | 6 => 264 | 15 => 109 | 14 => 331 | 28 => 220 | 29 => 221 | 20 => 364 | 21 => 365 | 22 => 366 | 23 => 367 | 24 => 368 | 25 => 369 | 26 => 370 | 27 => 371 | 46 => 392 | 47 => 303 | 48 => 304 | 49 => 393 | 50 => 394 | 57 => 402 | n => n, fun | 22 => 251 | 24 => 254 | 25 => 371 | 3 => 3 | 39 => 186 | 0 => 0 | 53 => 324 | 55 => 32 | 4 => 4 | 46 => 317 | 45 => 316 | 50 => 301 | 5 => 5 | 9 => 9 | 66 => 412 | 70 => 415 | 76 => 462 | 77 => 119 | n => n, fun | n => n⟩
theorem Tryz.sortNm : Go.Proofs.SlLaysF0.n6 Tryz.prog Tryz.sortNm_ren := {
  mixed := by kernel_rfl
  f6 := ⟨Tryz.f264.name, by decide, Tryz.func264.trans (congrArg some (by kernel_rfl))⟩
  f14 := ⟨Tryz.f331.name, by decide, Tryz.func331.trans (congrArg some (by kernel_rfl))⟩
  f15 := Tryz.func109.trans (congrArg some (by kernel_rfl))
  f20 := ⟨Tryz.f364.name, by decide, Tryz.func364.trans (congrArg some (by kernel_rfl))⟩
  f21 := ⟨Tryz.f365.name, by decide, Tryz.func365.trans (congrArg some (by kernel_rfl))⟩
  f22 := ⟨Tryz.f366.name, by decide, Tryz.func366.trans (congrArg some (by kernel_rfl))⟩
  f23 := ⟨Tryz.f367.name, by decide, Tryz.func367.trans (congrArg some (by kernel_rfl))⟩
  f24 := ⟨Tryz.f368.name, by decide, Tryz.func368.trans (congrArg some (by kernel_rfl))⟩
  f25 := ⟨Tryz.f369.name, by decide, Tryz.func369.trans (congrArg some (by kernel_rfl))⟩
  f26 := ⟨Tryz.f370.name, by decide, Tryz.func370.trans (congrArg some (by kernel_rfl))⟩
  f27 := ⟨Tryz.f371.name, by decide, Tryz.func371.trans (congrArg some (by kernel_rfl))⟩
  f28 := Tryz.func220.trans (congrArg some (by kernel_rfl))
  f29 := Tryz.func221.trans (congrArg some (by kernel_rfl))
  f46 := ⟨Tryz.f392.name, by decide, Tryz.func392.trans (congrArg some (by kernel_rfl))⟩
  f47 := Tryz.func303.trans (congrArg some (by kernel_rfl))
  f48 := Tryz.func304.trans (congrArg some (by kernel_rfl))
  f49 := ⟨Tryz.f393.name, by decide, Tryz.func393.trans (congrArg some (by kernel_rfl))⟩
  f50 := ⟨Tryz.f394.name, by decide, Tryz.func394.trans (congrArg some (by kernel_rfl))⟩
  f57 := ⟨Tryz.f402.name, by decide, Tryz.func402.trans (congrArg some (by kernel_rfl))⟩
  t0 := Tryz.underlying0
  a0 := Tryz.isAgg0
  z0 := Tryz.sizeOf0
  v0 := Tryz.zeroValue0
  t3 := Tryz.underlying3
  a3 := Tryz.isAgg3
  z3 := Tryz.sizeOf3
  v3 := Tryz.zeroValue3
  t4 := Tryz.underlying4
  a4 := Tryz.isAgg4
  z4 := Tryz.sizeOf4
  v4 := Tryz.zeroValue4
  t5 := Tryz.underlying5
  a5 := Tryz.isAgg5
  z5 := Tryz.sizeOf5
  v5 := Tryz.zeroValue5
  t9 := Tryz.underlying9
  a9 := Tryz.isAgg9
  z9 := Tryz.sizeOf9
  v9 := Tryz.zeroValue9
  t22 := Tryz.underlying251
  a22 := Tryz.isAgg251
  z22 := Tryz.sizeOf251
  v22 := Tryz.zeroValue251
  t25 := Tryz.underlying371
  a25 := Tryz.isAgg371
  z25 := Tryz.sizeOf371
  v25 := Tryz.zeroValue371
  t39 := Tryz.underlying186
  a39 := Tryz.isAgg186
  z39 := Tryz.sizeOf186
  v39 := Tryz.zeroValue186
  t45 := Tryz.underlying316
  a45 := Tryz.isAgg316
  z45 := Tryz.sizeOf316
  v45 := Tryz.zeroValue316
  t46 := Tryz.underlying317
  a46 := Tryz.isAgg317
  z46 := Tryz.sizeOf317
  v46 := Tryz.zeroValue317
  t50 := Tryz.underlying301
  a50 := Tryz.isAgg301
  z50 := Tryz.sizeOf301
  v50 := Tryz.zeroValue301
  t53 := Tryz.underlying324
  a53 := Tryz.isAgg324
  z53 := Tryz.sizeOf324
  v53 := Tryz.zeroValue324
  t55 := Tryz.underlying32
  a55 := Tryz.isAgg32
  z55 := Tryz.sizeOf32
  v55 := Tryz.zeroValue32
  t66 := Tryz.underlying412
  a66 := Tryz.isAgg412
  z66 := Tryz.sizeOf412
  v66 := Tryz.zeroValue412
  t70 := Tryz.underlying415
  a70 := Tryz.isAgg415
  z70 := Tryz.sizeOf415
  v70 := Tryz.zeroValue415
  t76 := Tryz.underlying462
  a76 := Tryz.isAgg462
  z76 := Tryz.sizeOf462
  v76 := Tryz.zeroValue462
  t77 := Tryz.underlying119
  a77 := Tryz.isAgg119
  z77 := Tryz.sizeOf119
  v77 := Tryz.zeroValue119 }
theorem SortNm.of {l:List (List Nat × Nat)} {d':Array (List Nat × Nat)} (hp:PermIn 0 l.toArray.size l.toArray d') (hs:SortedIn (ltOf nmCf) 0 l.toArray.size d'):SortNm l d'.toList:=by
 obtain ⟨h1,_,h3⟩:=hp
 have h1:d'.size=l.length:=h1
 have h3:(d'.extract 0 l.length).toList.Perm (l.toArray.extract 0 l.length).toList:=h3
 have hs:SortedIn (ltOf nmCf) 0 l.length d':=hs
 have hl:d'.toList.length=l.length:=by rw [Array.length_toList];exact h1
 refine ⟨hl,?_,fun i j hi hj hij hc=>?_⟩
 ·have e1:(d'.extract 0 l.length)=d':=by rw [← h1];exact Array.extract_size
  have e2:(l.toArray.extract 0 l.length)=l.toArray:=by
   have h4:=Array.extract_size (xs:=l.toArray)
   rw [List.size_toArray] at h4
   exact h4
  rw [e1,e2] at h3
  exact h3
 ·have h4:=hs i j (Nat.zero_le _) hij (by omega)
  rw [getElem!_pos d' j (by rw [h1];omega),getElem!_pos d' i (by rw [h1];omega)] at h4
  unfold ltOf at h4
  exact of_decide_eq_false h4 hc
theorem nmSort_any {w:World} {base m c:Nat} {A:Option Addr} {l:List (List Nat × Nat)} (h:w.ownsRow base 254 2 (.slice A m c) m (itCells l)) (hm:m≤100) :
  Calls Tryz.prog 264 #[.slice A m c, .func (.func 265) #[] #[]] w fun e w'=>e = .returned (.tuple #[])∧∃ l',SortNm l l'∧w'.ownsRow base 254 2 (.slice A m c) m (itCells l')∧Below base w w':=by
 have hlm:l.length=m:=by have:=h.1;rw [itCells_len] at this;omega
 by_cases h0:m=0
 ·subst h0
  have hn:l=[]:=List.length_eq_zero_iff.1 hlm
  have hcon:=AnyF.slices_SortFunc_none Tryz.sortNm A c (.func (.func 265) #[] #[]) w
  change Calls Tryz.prog 264 _ _ _ at hcon
  refine hcon.mono ?_
  rintro e w' ⟨rfl,rfl⟩
  refine ⟨rfl,[],⟨by rw [hn],by rw [hn],fun i j hi=>absurd hi (by simp)⟩,?_,Below.refl _ _⟩
  rw [hn] at h
  exact h
 ·have hA:∃ g,A=some ⟨g,0,none⟩∧base≤g∧g < w.heap.size:=by
   rcases h.2 with ⟨h1,h2⟩ | ⟨g,cap,cur,h1,h2,h3,_⟩
   ·exact absurd h2 h0
   ·injection h1 with h1
    refine ⟨g,h1,h2,?_⟩
    rcases Nat.lt_or_ge g w.heap.size with h | h
    ·exact h
    ·rw [Array.getElem?_eq_none h] at h3
     cases h3
  obtain ⟨g,rfl,hb,hg⟩:=hA
  have eg:∀ args w,(callFunc 265 args).run Tryz.prog w = .ok (.enter 265 args) w:=enters_of Tryz.func265 (by kernel_rfl) rfl
  have hcmp:CmpLays Tryz.prog 265 #[] nmEnc 2 nmCf g 0 l.toArray.size w:=fun _ _ _ _ x y=>snList1_any (strN x.1) (strN y.1) x.2 y.2 _
  have hcon:=AnyQ.slices_SortFunc Tryz.sortNm 2 Tryz.isAgg254 Tryz.sizeOf254 nmEnc (fun _=>rfl) (fun x v hv=>by simp [nmEnc] at hv;rcases hv with rfl | rfl <;> rfl) nmCf nmSwo 265 #[] g 0 c l.toArray w eg hcmp (own_holds h) hg (by rw [List.size_toArray,hlm];omega)
  change Calls Tryz.prog 264 _ _ _ at hcon
  rw [List.size_toArray,hlm] at hcon
  refine hcon.mono ?_
  rintro e w' ⟨rfl,d',n,os,hp,hs,rfl⟩
  have hp':PermIn 0 l.toArray.size l.toArray d':=by rw [List.size_toArray,hlm];exact hp
  have hs':SortedIn (ltOf nmCf) 0 l.toArray.size d':=by rw [List.size_toArray,hlm];exact hs
  have hS:=SortNm.of hp' hs'
  obtain ⟨g1,g2⟩:=sorted_own (n:=n) (os:=os) h hS.len hb
  exact ⟨rfl,d'.toList,hS,g1,g2⟩
end
section
open Go.RowKit Go.Maps
section
variable {P:Program} (w:World)
theorem wpList_app3 {ops:Array Oper} {rest:List Oper} {o:Oper} {a:Act} {Q:Exit→Act→World→Prop} (s x:Operand) (t:TypeId)
  (hw:Region.wanted o (yielded ops a.tmps)=true)
  (ho:o.op = .call { callee := .builtin .append,args:=#[s,x],argTypes:=#[t,t] })
  (base:Nat) (e:TypeId) (i:TypeInfo) (z:Value) (size bytes:Nat) (ht:P.underlying t=some (.slice e)) (hi:P.info? e=some i) (hz:i.zero=some z)
  (hsize:i.size=size) (hby:i.bytes=bytes) (hzs:z.cells.size=size) (hsz:0 < size)
  (v:Value) (n:Nat) (xs:List Value) (hs:a.eval s=v) (hown:w.ownsRow base e size v n xs)
  (B:Nat) (A:Option Addr) (m c:Nat) (news:List Value) (hx:a.eval x = .slice A m c) (hr:Reads w B size A m news) (h1:∀ u∈news,u.oneCell'=true)
  (h63:n+m≤maxLen) (hbytes:(n+m) * bytes≤140737488355328) (hbase:base≤w.heap.size)
  (h:∀ A' n' c' w',n'=n+m→w'.ownsRow base e size (.slice A' n' c') n' (xs++news)→w.grownBy w' v.ownBlock→((Value.slice A' n' c').ownBlock=v.ownBlock∨(Value.slice A' n' c').ownBlock=some w.heap.size)→wpList P ops Q rest (a.put o.dst (.slice A' n' c')) w'):wpList P ops Q (o :: rest) a w:=by
 refine Go.BigFrame.wpList_want hw fun K hK=>?_
 refine wp_append_any w s x t ho base e i z size bytes ht hi hz hsize hby hzs hsz v n xs hs hown B A m c news hx hr h1 h63 hbytes hbase fun v' w' h2 h3 h4=>?_
 obtain ⟨A',c',rfl⟩:=own_slice h2
 exact hK _ _ (h A' _ c' w' rfl h2 h3 h4)
end
section
variable {a:DA} {L T s n K:Nat} {x:HA} {cs:Nat→CS} {f:Nat→Option Nat} {N m b0:Nat} {S:Fp} {cur:Nat→Nat} {w w':World} {d r:Nat}
structure LoS (x:HA) (d r b0 B:Nat):Prop where
 h:x.h < B
 gs:x.gs < B
 pl:x.pl < B
 mr:x.mr < B
 mh:x.mh < B
 d:d < B
 r:r < B
 b:b0≤B
theorem SD.lo (h:SD a L T s n K x cs f N m b0 S cur w d r):LoS x d r b0 w.heap.size:=by
 obtain ⟨h1,h2,h3,h4,h5⟩:=h.ds.hs.lt
 obtain ⟨_,_,l3,_⟩:=h.ds.lo
 exact ⟨h1,h2,h3,h4,h5,h.dir.lt,h.log.lt,by omega⟩
theorem SD.chg {Z:Fp} {B:Nat} (h:SD a L T s n K x cs f N m b0 S cur w d r) (hl:LoS x d r b0 B) (hc:Chg Z w w') (hZ:∀ k,Z k→¬ S k∧B≤k):SD a L T s n K x cs f N m b0 S cur w' d r:=by
 have hn:∀ g,g < B→¬ Z g:=fun g hg hz=>by have:=(hZ g hz).2;omega
 obtain ⟨l1,l2,l3,l4,l5,l6,l7,l8⟩:=h.ds.lo
 refine { h with ds:={ h.ds with dev:=h.ds.dev.chg hc (fun j hj hz=>(hZ j hz).1 hj),hs:=h.ds.hs.chg hc (hn _ hl.h) (hn _ hl.gs) (hn _ hl.pl) (hn _ hl.mr) (hn _ hl.mh),tab:=h.ds.tab.chg hc (hn _ (by have:=hl.b;omega)),pay:=fun i hi=>?_ },dir:=hc.blk h.dir (hn _ hl.d),log:=hc.blk h.log (hn _ hl.r) }
 exact (World.cell?_of_block (w:=w) (hc.block _ h.ds.pay.size (hn _ (by have:=hl.b;show 0 < B;omega)))).trans (h.ds.pay i hi)
theorem At.inL {q k i:Nat} (h:At s K cs q k i) (hd:DS a L T s n K x cs f N m b0 S cur w):pOff q+8 * payW (cs k).cl≤64 * L∧pOff q % 8=0:=by
 have h1:=h.lo
 have h2:=off_lt h.2.2.1
 have h3:=hd.line h.1
 omega
end
end
section
open Go.RowKit Go.Maps
theorem methDPublish (p : Option Addr) (w : World) : (method 640 59 (.pointer p) "Publish").run Tryz.prog w = .ok (54, .pointer p) w := by kernel_rfl
theorem aheadDPublish (p : Addr) (w : World) : (nilAhead 640 59 (.pointer (some p)) "Publish").run Tryz.prog w = .ok (some false) w := by kernel_rfl
theorem linkB_any (n:Nat) (hn:n < 8) (w:World):Calls Tryz.prog 53 #[.int .i64 (n:Int)] w fun e w'=>e = .returned (.int .u64 ((3328+8 * n:Nat):Int))∧w=w':=by
 have hc:n=0∨n=1∨n=2∨n=3∨n=4∨n=5∨n=6∨n=7:=by omega
 rcases hc with rfl | rfl | rfl | rfl | rfl | rfl | rfl | rfl
 all_goals
  go_enter Tryz.func53,Tryz.ntmps53
  go_wp2
  go_ret
  exact ⟨rfl,rfl⟩
section
variable {a:DA} {L T s n K:Nat} {x:HA} {cs:Nat→CS} {f:Nat→Option Nat} {N m b0:Nat} {S:Fp} {cur:Nat→Nat} {w w':World} {d r:Nat}
theorem RetPub.back {us:List (Nat × Nat)} {keep free:List Nat} {n1:Nat} {e:Ending} {W:World} (hW:Below w.heap.size w W) (h:RetPub a L T s n K x cs f N m b0 S cur W d r us keep free n1 e w'):RetPub a L T s n K x cs f N m b0 S cur w d r us keep free n1 e w':=by
 obtain ⟨ks,V,cm,S',h1,h2,h3,h4,h5,h6,h7,h8⟩:=h
 exact ⟨ks,V,cm,S',h1,h2,h3,h4,h5,h6,(Chg.of_below hW).trans h7 (fun j hj => .inl hj),fun k hk=>(h8 k hk).imp id (fun h=>Nat.le_trans hW.size h)⟩
theorem hdrAt_ge {ln cl i:Nat} (h:hdrAt ln cl i):8 * ln≤i:=by
 rcases h with h | ⟨j,_,h⟩ <;> omega
theorem link_ok (hd:DS a L T 53 n K x cs f N m b0 S cur w) (i q:Nat) (hi:i < 8) (hq:q < 18446744073709551616):UOk L 0 53 K cs [(3328+8 * i,q)]:=by
 have hK:=hd.hK
 refine ⟨fun e he=>?_,fun e he=>?_,fun e he k hk hl=>?_,by simp⟩
 ·simp at he
  subst he
  exact ⟨by show (3328+8 * i) % 8=0;omega,by show 3328+8 * i < 64 * L;omega, .inr (by show 64 * 0+64 * 26≤3328+8 * i;omega)⟩
 ·simp at he
  subst he
  exact hq
 ·simp at he
  subst he
  have hl':lookAt 53 cs k ((3328+8 * i) / 8):=hl
  unfold lookAt at hl'
  split at hl'
  ·have:=hdrAt_ge hl'
   omega
  ·omega
theorem set_any (h:SD a L T 53 n K x cs f N m b0 S cur w d r) (hK12:K≤12) (g i q:Nat) (hi:i < 8) (hq:q < 18446744073709551616) (A1:Option Addr) (n1 c1:Nat) (keep:List Nat) (h1:Reads w w.heap.size 1 A1 n1 (uCells keep)) (hA1:∀ ad,A1=some ad→¬ sfp S x ad.block) (hk:∀ p∈keep,KeepOk 53 K cs f p) (hn:(keep.map pOff).Nodup) (hlen:keep.length≤20) (hT:T+800≤1000000000) (hN:N+n1≤1000000000) :
  Calls Tryz.prog 36 #[.pointer (some ⟨g,0,none⟩),dirV d, .int .i64 (i:Int), .int .u64 (q:Int), .slice A1 n1 c1] w (RetPub a L T 53 n K x cs f N m b0 S cur w d r [(3328+8 * i,q)] keep [] n1):=by
 have HLk:=hid (linkB_any i hi)
 have HPb:Hid (∀ (W W':World),W=w.drew→W'=W.alloc (.cells #[.int .u64 ((3328+8 * i:Nat):Int), .int .u64 (q:Int)] 114)→Calls Tryz.prog 54 #[.pointer (some ⟨d,0,none⟩), .slice (some ⟨W.heap.size,0,none⟩) 1 1, .slice A1 n1 c1, .slice none 0 0] W' (RetPub a L T 53 n K x cs f N m b0 S cur w d r [(3328+8 * i,q)] keep [] n1)):=hid (fun W W' hW hW'=>by
  subst hW hW'
  have hb:Below w.heap.size w (w.drew.alloc (.cells #[.int .u64 ((3328+8 * i:Nat):Int), .int .u64 (q:Int)] 114)):=(Below.refl _ _).drew.alloc (Nat.le_refl _) _
  have h0:=publishD (h.below hb) hK12 (some ⟨w.drew.heap.size,0,none⟩) A1 none 1 1 n1 c1 0 0 [(3328+8 * i,q)] keep [] (one_reads w.drew _ q) (fun h=>by cases h) ((h1.below hb).more hb.size) ⟨rfl,fun h=>absurd h (Nat.lt_irrefl 0)⟩ hA1 hk (fun p hp=>absurd hp (by simp)) (by rw [List.append_nil];exact hn) (link_ok h.ds i q hi hq) (by simp;omega) hT hN
  exact h0.mono (fun e w' h=>RetPub.back hb h))
 have hm:=methDPublish (some ⟨d,0,none⟩)
 have hna:=aheadDPublish ⟨d,0,none⟩
 have hmf:∀ (fn:Fn) (first cap:Array Value) (w:World),(Instr.makeFunc fn first cap).run Tryz.prog w = .ok (.func fn first cap) w:=fun _ _ _ _=>rfl
 generalize 3328+8 * i=O at *
 clear h h1 hA1 hk hn
 unfold dirV
 go_enter Tryz.func36,Tryz.ntmps36
 go_upto_region 1 with fail
 refine wp_region_scriptH (fun _=>True) 10 [] [(1,0),(1,1),(1,3),(1,6),(1,7),(1,8),(1,9),(0,2),(1,4),(0,5)] (by kernel_rfl) (by kernel_rfl) trivial ?_
 refine wpScriptH_take (.iface 59 (.pointer (some ⟨d,0,none⟩))) (by rfl) (by rfl) (fun w' hS=>?_) ?_
 ·go_simp
 simp only [zA,zB,Act.put,zD,zE,zF]
 refine wpScriptH_take (.int .i64 (i:Int)) (by rfl) (by rfl) (fun w' hS=>?_) ?_
 ·go_simp
 simp only [zA,zB,zC,Act.put,zD,zE,zF]
 refine wpScriptH_take (.int .u64 (q:Int)) (by rfl) (by rfl) (fun w' hS=>?_) ?_
 ·go_simp
 simp only [zA,zB,zC,Act.put,zD,zE,zF]
 refine wpScriptH_take (.slice A1 n1 c1) (by rfl) (by rfl) (fun w' hS=>?_) ?_
 ·go_simp
 simp only [zA,zB,zC,Act.put,zD,zE,zF]
 refine wpScriptH_take (.func (.method "Publish") #[.iface 59 (.pointer (some ⟨d, 0, none⟩))] #[]) (by rfl) (by rfl) (fun w' hS => ?_) ?_
 ·go_simp
 simp only [zA,zB,zC,Act.put,zD,zE,zF]
 refine wpScriptH_take (.func (.method "Publish") #[.iface 59 (.pointer (some ⟨d, 0, none⟩))] #[]) (by rfl) (by rfl) (fun w' hS => ?_) ?_
 ·go_simp
 simp only [zA,zB,zC,Act.put,zD,zE,zF]
 refine wpScriptH_take (.iface 59 (.pointer (some ⟨d,0,none⟩))) (by rfl) (by rfl) (fun w' hS=>?_) ?_
 ·go_simp
 simp only [zA,zB,zC,Act.put,zD,zE,zF]
 refine wpScriptH_do (by rfl) ?_
 go_wp2_with (go_at_call 53;refine (HLk.out _).mono ?_;rintro e w1 ⟨rfl,rfl⟩)
 refine ⟨trivial,?_⟩
 refine wpScriptH_take (.agg #[.int .u64 (O:Int), .int .u64 (q:Int)]) (by rfl) (by rfl) (fun w' hS=>?_) ?_
 ·go_simp
 simp only [zA,zB,zC,Act.put,zD,zE,zF]
 refine wpScriptH_do (by rfl) ?_
 go_wp2_with fail
 refine ⟨trivial,?_⟩
 show wpList _ _ _ _ _ _
 simp only [List.drop_succ_cons,List.drop_zero]
 go_wp2_with (go_at_call 54;refine (HPb.out _ _ rfl rfl).mono ?_;intro e w2 h2;have HP2:=hid h2;clear h2;obtain ⟨ks,V,cm,S',rfl,q2,q3,q4,q5,q6,q7,q8⟩:=HP2.out;clear q2 q3 q4 q5 q6 q7 q8)
 refine NoPanic.normal ?_
 go_wp2_with fail
 go_ret
 exact HP2.out
end
end
end Go.Proofs.YtfkjjoglnmeciaaGreatDoor
