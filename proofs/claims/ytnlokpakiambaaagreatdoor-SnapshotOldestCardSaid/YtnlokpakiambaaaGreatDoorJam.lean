/- The walks and laws that the claim leans on, part 13. -/
import Derived.Test.YtnlokpakiambaaaGreatDoorJal
import Derived.Laws.CopyOwn
set_option maxRecDepth 100000
set_option maxHeartbeats 16000000
namespace Go.Proofs.YtnlokpakiambaaaGreatDoor
open Go.Lib (hid)
section
open Go.RowKit
theorem made_at (z:Array Value) (n i:Nat) (h:i < n):(madeCells z n)[i]?=some z[i % z.size]! := by
 unfold madeCells
 rw [Array.getElem?_map,Array.getElem?_range,if_pos h]
 rfl
theorem made_line (L i:Nat) (hi:i < L):(madeCells (Value.agg #[.int .u64 0, .slice none 0 0]).cells (L * 2))[i * 2]?=some (.int .u64 0)∧(madeCells (Value.agg #[.int .u64 0, .slice none 0 0]).cells (L * 2))[i * 2+1]?=some (.slice none 0 0):=by
 have hz:(Value.agg #[.int .u64 0, .slice none 0 0]).cells=#[.int .u64 0, .slice none 0 0]:=rfl
 rw [hz,made_at _ _ _ (by omega),made_at _ _ _ (by omega)]
 have e1:i * 2 % (#[Value.int .u64 0,Value.slice none 0 0]:Array Value).size=0:=by show i * 2 % 2=0;omega
 have e2:(i * 2+1) % (#[Value.int .u64 0,Value.slice none 0 0]:Array Value).size=1:=by show (i * 2+1) % 2=1;omega
 rw [e1,e2]
 exact ⟨rfl,rfl⟩
def RetNew (w:World) (L:Nat) (e:Ending) (w':World):Prop:=∃ (a:DA) (S:Fp),e = .returned (.tuple #[.pointer (some ⟨a.d,0,none⟩), .int .i64 0])∧Dev a L 0 w' S (fun _=>0) 0∧(∀ k,S k→w.heap.size≤k)∧Below w.heap.size w w'
theorem dev_cells {dc:Array Value} {a:DA} {L:Nat} (hs:dc.size=15) (e0:dc[0]?=some (.slice (some ⟨a.pb,0,none⟩) (8 * L) (8 * L))) (e1:dc[1]?=some (.slice (some ⟨a.cb,0,none⟩) (8 * L) a.cc)) (e2:dc[2]?=some (.slice (some ⟨a.lb,0,none⟩) L L)) (e3:dc[11]?=some (.bool false)) (e4:dc[12]?=some (.bool false)) (e5:dc[13]?=some (.int .i64 0)) (e6:dc[14]?=some (.int .u64 0))
  (e7:∀ j,j < 8→dc[3+j]?=some (.pointer (some ⟨a.th j,0,none⟩))):dc=devCells a L 0:=by
 apply Array.ext_getElem?
 intro i
 by_cases hi:i < 15
 ·rcases (show i=0∨i=1∨i=2∨i=3∨i=4∨i=5∨i=6∨i=7∨i=8∨i=9∨i=10∨i=11∨i=12∨i=13∨i=14 by omega) with rfl | rfl | rfl | rfl | rfl | rfl | rfl | rfl | rfl | rfl | rfl | rfl | rfl | rfl | rfl
  ·exact e0
  ·exact e1
  ·exact e2
  ·exact e7 0 (by omega)
  ·exact e7 1 (by omega)
  ·exact e7 2 (by omega)
  ·exact e7 3 (by omega)
  ·exact e7 4 (by omega)
  ·exact e7 5 (by omega)
  ·exact e7 6 (by omega)
  ·exact e7 7 (by omega)
  ·exact e3
  ·exact e4
  ·exact e5
  ·exact e6
 ·rw [Array.getElem?_eq_none (by omega),Array.getElem?_eq_none (by show 15≤i;omega)]
theorem dev_new {w w':World} {L d cb cc lb:Nat} {per cs ls:Array Value} {th nt:Nat→Nat} (hL:L≤4096) (hp:per=madeCells #[.int .u64 0] (8 * L)) (H:OfI (w.alloc (.cells per 23)) w' w.heap.size L d cb cc lb cs ls th nt 8) (h1:cs.size=cc) (h2:8 * L≤cc) (h3:cc≤9223372036854775807)
  (hru:RowU cs (List.replicate (8 * L) 0)) (hls:ls=madeCells (Value.agg #[.int .u64 0, .slice none 0 0]).cells (L * 2)) (g1:(w.alloc (.cells per 23)).heap.size≤cb) (g2:(w.alloc (.cells per 23)).heap.size≤lb) :
  RetNew w L (.returned (.tuple #[.pointer (some ⟨d,0,none⟩), .int .i64 0])) w':=by
 obtain ⟨⟨dc,hd,hds,e0,e1,e2,e3,e4,e5,e6,e7⟩,hcu,hli,hth,hmp,hbl,hgd,hgt⟩:=H
 have hsz:(w.alloc (.cells per 23)).heap.size=w.heap.size+1:=by simp
 rw [hsz] at g1 g2 hgd hgt
 have hbw:Below w.heap.size w w':=((Below.refl w.heap.size w).alloc (Nat.le_refl _) _).trans (hbl.mono (by omega))
 have hpb:Blk w' w.heap.size 23 per:=(Blk.new w 23 per).below hbl (Blk.new w 23 per).lt
 have hdc:=dev_cells (a:=⟨d,w.heap.size,cb,lb,nt,th,cc⟩) hds e0 e1 e2 e3 e4 e5 e6 e7
 subst hdc
 have hmz:=hmp (by omega)
 have hml:=hmz.lt
 refine ⟨⟨d,w.heap.size,cb,lb,nt,th,cc⟩,fun k=>w.heap.size≤k∧k < w'.heap.size,rfl,⟨⟨fun _=>0,fun _=>0,fun _ => .slice none 0 0,fun _=>[]⟩,0,per,cs,ls,?_,⟨[],hmz,fun p hp=>by cases hp⟩⟩,fun k hk=>hk.1,hbw⟩
 exact {
  dev:=hd
  perB:=hpb
  perS:=by rw [hp,size_madeCells]
  perI:=fun i hi=>⟨0,by rw [hp,made_at _ _ _ hi];congr 1;show (#[Value.int .u64 0]:Array Value)[i % 1]! = _;rw [Nat.mod_one];rfl⟩
  curB:=hcu
  curS:=h1
  curL:=h2
  curM:=h3
  curI:=fun i hi=>by have:=hru.2 i (by simpa using hi);simpa using this
  linB:=hli
  linS:=by rw [hls,size_madeCells];omega
  linD:=fun i hi=>by rw [hls];exact (made_line L i hi).1
  linH:=fun i hi=>by rw [hls];exact (made_line L i hi).2
  own:=fun i hi=>World.ownsRow_nil _ _ _ _
  ok:=fun i hi k hk=>absurd hk (by simp)
  few:=fun i hi=>Nat.le_refl _
  apart:=fun i j g hi hj h=>by cases h
  thr:=hth
  sd:=⟨by show w.heap.size≤d;omega,hd.lt⟩
  sp:=⟨Nat.le_refl _,hpb.lt⟩
  sc:=⟨by show w.heap.size≤cb;omega,hcu.lt⟩
  sl:=⟨by show w.heap.size≤lb;omega,hli.lt⟩
  sn:=⟨by have:=(hgt 0 (by omega)).2;show w.heap.size≤nt 0;omega,hml⟩
  st:=fun j hj=>⟨by have:=(hgt j hj).1;show w.heap.size≤th j;omega,(hth j hj).lt⟩
  sh:=fun i g hi h=>by cases h
  lt:=fun k hk=>hk.2
  ne:=by show w.heap.size≠cb;omega
  hL:=hL
  hT:=by omega }
theorem new_any (L:Nat) (h0:0 < L) (hL:L≤4096) (w:World):Calls Tryz.prog 99 #[.int .i64 (L:Int)] w (RetNew w L):=by
 obtain ⟨j0,hj0,hk0,hk1,hk2⟩:=info_parts infoU64
 have hmk:∀ W:World,(Instr.makeSlice 33 (.int .i64 ((8 * L:Nat):Int)) (.int .i64 ((8 * L:Nat):Int))).run Tryz.prog W = .ok (.slice (some ⟨W.heap.size,0,none⟩) (8 * L) (8 * L)) (W.alloc (.cells (madeCells #[.int .u64 0] (8 * L)) 23)):=fun W=>by
  have h:=run_makeSlice (P:=Tryz.prog) W 33 23 j0 (.int .u64 0) Tryz.underlying33 hj0 hk0 .i64 .i64 ((8 * L:Nat):Int) ((8 * L:Nat):Int) (by omega) (by omega) (by rw [hk1];omega) (by rw [hk2];omega) (by omega)
  rw [hk1,Int.toNat_natCast,Nat.mul_one] at h
  exact h
 have HO:=hid (of_any w.heap.size L hL h0 (w.alloc (.cells (madeCells #[.int .u64 0] (8 * L)) 23)) (by
  rw [show (w.alloc (.cells (madeCells #[.int .u64 0] (8 * L)) 23)).heap.size=w.heap.size+1 by simp]
  refine row_reads_at w _ rfl _ (8 * L) 1 23 _ ?_ ?_
  ·refine congrArg (fun x=>Obj.cells x 23) (Array.ext' ?_)
   rw [toList_madeCells_one]
   simp [uCells]
  ·simp [uCells]))
 have HN:Hid (∀ e w',RetOf (w.alloc (.cells (madeCells #[.int .u64 0] (8 * L)) 23)) w.heap.size L e w'→∃ d:Nat,e = .returned (.pointer (some ⟨d,0,none⟩))∧RetNew w L (.returned (.tuple #[.pointer (some ⟨d,0,none⟩), .int .i64 0])) w'):=by
  rintro e w1 ⟨d,cb,cc,lb,cs,ls,th,nt,rfl,h1,h2,h3,h4,h5,h6,h7,h8⟩
  exact ⟨d,rfl,dev_new hL rfl h1 h2 h3 h4 h5 h6 h7 h8⟩
 have e1:decide ((L:Int) < 1)=false:=decide_eq_false (by omega)
 have e2:decide ((4096:Int) < (L:Int))=false:=decide_eq_false (by omega)
 have u1:IntKind.i64.wrap ((L:Int) * 8)=((8 * L:Nat):Int):=by rw [IntKind.wrap_i64];omega
 have u2:(L:Int) * 8=((8 * L:Nat):Int):=by omega
 generalize madeCells #[.int .u64 0] (8 * L)=M at *
 generalize 8 * L=N at *
 go_enter Tryz.func99,Tryz.ntmps99
 go_wp2_with (go_at_call 142;refine HO.out.mono ?_;intro e w1 h1;obtain ⟨d,rfl,h2⟩:=HN.out e w1 h1;have HZ:=hid h2;clear h1 h2)
 go_ret2
 exact HZ.out
end
section
open Go.RowKit
theorem make_uA (n:Nat):madeCells #[.int .u64 0] n=uA (List.replicate n 0):=by
 apply Array.ext'
 rw [toList_madeCells_one]
 unfold uA uCells
 simp
end
section
open Go.RowKit Go.Maps
def decN (xs:List Nat):Option (List Nat) :=
 if 16 < xs.headD 0 then none else
 if unpBad ((xs.drop 1).take ((xs.headD 0+7) / 8)) (xs.headD 0)=true then none else
 if allZ (xs.drop (1+(xs.headD 0+7) / 8))=true then some (unpB ((xs.drop 1).take ((xs.headD 0+7) / 8)) (xs.headD 0)) else none
def strN (l:List Nat):ByteArray:=⟨(l.map UInt8.ofNat).toArray⟩
theorem add_plain (b o j:Nat):(⟨b,o,none⟩:Addr).add j=⟨b,o+j,none⟩:=by unfold Addr.add;split <;> simp_all
theorem Reads.sub_ {w:World} {B n:Nat} {b o:Nat} {xs:List Value} (h:Reads w B 1 (some ⟨b,o,none⟩) n xs) (i j:Nat) (hij:i+j≤n):Reads w B 1 (some ⟨b,o+i,none⟩) j ((xs.drop i).take j):=by
 have h1:=h.1
 refine ⟨by rw [List.length_take,List.length_drop];omega,fun hn=>?_⟩
 obtain ⟨ad,hA,hb,hc⟩:=h.2 (by omega)
 cases hA
 refine ⟨_,rfl,hb,fun k u hu=>?_⟩
 rw [List.getElem?_take] at hu
 split at hu
 ·rw [List.getElem?_drop] at hu
  have h2:=hc (i+k) u hu
  rw [add_plain] at h2 ⊢
  rw [← Nat.add_assoc] at h2
  exact h2
 ·cases hu
theorem uCells_sub (xs:List Nat) (i j:Nat):((uCells xs).drop i).take j=uCells ((xs.drop i).take j):=by
 unfold uCells
 rw [← List.map_drop,← List.map_take]
theorem conv_strN {w:World} {B:Nat} {X:Option Addr} {m:Nat} (c:Nat) {l:List Nat} (h:Reads w B 1 X m (u8s l)) (hb:∀ b∈l,b < 256):(convert 60 9 (.slice X m c)).run Tryz.prog w = .ok (.string (strN l)) w:=by
 have hl:l.length=m:=by have:=h.1;simpa [u8s] using this
 subst hl
 rcases X with _ | ad
 ·have h0:l=[]:=by
   rcases Nat.eq_zero_or_pos l.length with h0 | h0
   ·exact List.eq_nil_of_length_eq_zero h0
   ·obtain ⟨ad,hA,_⟩:=h.2 h0;cases hA
  subst h0
  exact run_convert_bytes_nil (P:=Tryz.prog) w 60 5 Tryz.underlying60 Tryz.underlying5 _ c 9 Tryz.underlying9
 ·have h1:=run_convert_bytes_back (P:=Tryz.prog) w 60 9 5 ad c (l.map UInt8.ofNat) Tryz.underlying60 Tryz.underlying5 Tryz.underlying9 (fun j hj=>?_)
  ·rw [List.length_map] at h1
   exact h1
  ·rw [List.length_map] at hj
   obtain ⟨ad',hA,_,hc⟩:=h.2 (by omega)
   injection hA with hA
   subst hA
   refine hc j _ ?_
   have hbj:=hb _ (List.getElem_mem hj)
   simp only [u8s,List.getElem?_map,List.getElem?_eq_getElem hj,Option.map_some,List.getElem_map]
   rw [UInt8.toNat_ofNat',Nat.mod_eq_of_lt hbj]
def RetNm (w:World) (R:Option (List Nat)) (e:Ending) (w':World):Prop:=(match R with
 | some l=>e = .returned (.tuple #[.string (strN l), .bool true])
 | none=>e = .returned (.tuple #[.string ⟨#[]⟩, .bool false]))∧Below w.heap.size w w'
theorem nmDec_any (A:Option Addr) (c:Nat) (xs:List Nat) (w:World) (h:Reads w w.heap.size 1 A 3 (uCells xs)) (hc:3≤c) (hx:∀ x∈xs,x < 18446744073709551616) :
  Calls Tryz.prog 318 #[.agg #[], .slice A 3 c] w (RetNm w (decN xs)):=by
 obtain ⟨W1,hW1⟩:∃ W1,w.alloc (.cells #[] 254)=W1:=⟨_,rfl⟩
 have hb1:Below w.heap.size w W1:=by rw [← hW1];exact (Below.refl _ _).alloc (Nat.le_refl _) _
 have hbx:Blk W1 w.heap.size 254 #[]:=by rw [← hW1];exact Blk.new _ _ _
 have h1:=(h.below hb1).more hb1.size
 obtain ⟨hkl,gb,go,hA3,hgb,fk⟩:=u_facts h1 (k:=0) (by omega)
 subst hA3
 have hl3:xs.length=3:=by have:=h.1;simpa [uCells] using this
 obtain ⟨n,x1,x2,rfl⟩:∃ n x1 x2,xs=[n,x1,x2]:=by
  match xs,hl3 with
  | [n,x1,x2],_=>exact ⟨n,x1,x2,rfl⟩
 have HF0:Hid (∀ W,Below W1.heap.size W1 W→W.cell? ⟨gb,go,none⟩=some (.int .u64 (n:Int))):=hid (fun W hW=>(hW.cell (p:=⟨gb,go,none⟩) hgb).trans fk)
 have HW1:=hid hW1
 have HB1:=hid hb1
 have HR1:=hid h1
 have HN:=hid (hx n (by simp))
 have HX:=hid hx
 have f0:W1.cell? ⟨gb,go,none⟩=some (.int .u64 (n:Int)):=fk
 have HWd:Hid (Calls Tryz.prog 320 #[.agg #[]] W1 fun e w'=>e = .returned (.int .i64 3)∧Below W1.heap.size W1 w'):=hid (nmWords_any W1)
 clear hW1 hb1 h1 h fk hkl hl3 hx hbx
 by_cases hn:16 < n
 ·have HD:Hid (decN [n,x1,x2]=none):=hid (by unfold decN;rw [if_pos (show 16 < [n,x1,x2].headD 0 from hn)])
  generalize decN [n,x1,x2]=X at *
  have hni:(16:Int) < (n:Int):=by omega
  clear hn
  go_enter Tryz.func318,Tryz.ntmps318
  go_upto_region 1 with fail
  rw [HW1.out]
  go_wp2_with (go_at_call 320;refine HWd.out.mono ?_;rintro e w2 ⟨rfl,hb2⟩;have HB2:=hid hb2;have f2:=HF0.out w2 hb2;clear hb2)
  go_ret2
  unfold RetNm
  rw [HD.out]
  exact ⟨rfl,HB1.out.trans (HB2.out.mono HB1.out.size)⟩
 ·obtain ⟨u,hu⟩:∃ u,(n+7) / 8=u:=⟨_,rfl⟩
  have hu2:u≤2:=by omega
  have hni:(n:Int)≤16:=by omega
  have HD:Hid (decN [n,x1,x2]=if unpBad (([x1,x2]:List Nat).take u) n=true then none else if allZ ([x1,x2].drop u)=true then some (unpB ([x1,x2].take u) n) else none):=hid (by
   unfold decN
   rw [if_neg (show ¬ 16 < [n,x1,x2].headD 0 from hn)]
   show (if unpBad (([x1,x2]:List Nat).take ((n+7) / 8)) n=true then none else if allZ ([n,x1,x2].drop (1+(n+7) / 8))=true then some (unpB ([x1,x2].take ((n+7) / 8)) n) else none)=_
   rw [hu,Nat.add_comm 1 u]
   rfl)
  generalize decN [n,x1,x2]=X at *
  clear hn
  go_enter Tryz.func318,Tryz.ntmps318
  go_upto_region 1 with fail
  rw [HW1.out]
  go_upto_region 3 with (go_at_call 320;refine HWd.out.mono ?_;rintro e w2 ⟨rfl,hb2⟩;have HB2:=hid hb2;have f2:=HF0.out w2 hb2;clear hb2)
  have e4:IntKind.i64.wrap (n:Int)=(n:Int):=by rw [IntKind.wrap_i64];omega
  have e5:wrap64 ((n:Int)+8)=(n:Int)+8:=IntWalk.wrap64_in _ (by omega)
  have e6:wrap64 ((n:Int)+8 - 1)=(n:Int)+8 - 1:=IntWalk.wrap64_in _ (by omega)
  have HC3:=hid hc
  have hc0:c≠0∧c≠1∧c≠2:=by omega
  obtain ⟨hc0,hc1,hc2⟩:=hc0
  rcases (by omega:u=0∨u=1∨u=2) with rfl | rfl | rfl
  ·have e7:((n:Int)+8 - 1) / 8=0:=by omega
   have HU:Hid (Calls Tryz.prog 199 #[.slice (some ⟨gb,go+1,none⟩) 0 (c - 1), .int .i64 (n:Int)] w2 (RetUnp w2 (([x1,x2]:List Nat).take 0) n)):=hid (unpack_any _ 0 (c - 1) n (([x1,x2]:List Nat).take 0) w2 (⟨rfl,fun h=>absurd h (by decide)⟩) (fun x hx=>HX.out x (by first | (simp at hx ⊢;omega) | simp at hx)) (by omega) hu)
   by_cases hb:unpBad (([x1,x2]:List Nat).take 0) n=true
   ·have HD2:Hid (X=none):=hid (by rw [HD.out,if_pos hb])
    have HUb:Hid (Calls Tryz.prog 199 #[.slice (some ⟨gb,go+1,none⟩) 0 (c - 1), .int .i64 (n:Int)] w2 fun e w'=>e = .returned (.tuple #[.slice none 0 0, .int .i64 11])∧Below w2.heap.size w2 w'):=hid (HU.out.mono (fun e w' h=>by
     unfold RetUnp at h
     rw [if_pos hb] at h
     exact h))
    clear hb HD hu HU
    go_upto_region 5 with fail
    go_wp2_with (go_at_call 199;refine HUb.out.mono ?_;rintro e w3 ⟨rfl,hb3⟩;have HB3:=hid (HB2.out.trans (hb3.mono HB2.out.size));clear hb3)
    go_ret2
    unfold RetNm
    rw [HD2.out]
    exact ⟨rfl,HB1.out.trans (HB3.out.mono HB1.out.size)⟩
   ·have HD2:Hid (X=if allZ ([x1,x2].drop 0)=true then some (unpB (([x1,x2]:List Nat).take 0) n) else none):=hid (by rw [HD.out,if_neg hb])
    have HUb:Hid (Calls Tryz.prog 199 #[.slice (some ⟨gb,go+1,none⟩) 0 (c - 1), .int .i64 (n:Int)] w2 (RetB w2 (unpB (([x1,x2]:List Nat).take 0) n))):=hid (HU.out.mono (fun e w' h=>by
     unfold RetUnp at h
     rw [if_neg hb] at h
     exact h))
    clear HU
    have HBy:Hid (∀ b∈unpB (([x1,x2]:List Nat).take 0) n,b < 256):=hid (fun b hb=>by
     unfold unpB at hb
     obtain ⟨i,_,rfl⟩:=List.mem_map.1 hb
     exact Nat.mod_lt _ (by decide))
    generalize unpB (([x1,x2]:List Nat).take 0) n=bs at *
    clear hb HD hu
    go_upto_region 5 with fail
    go_upto_region 6 with (go_at_call 199;refine HUb.out.mono ?_;rintro e w3 ⟨A3,m3,c3,rfl,hm3,hr3,ha3,hb3⟩;have HB3:=hid (HB2.out.trans (hb3.mono HB2.out.size));have HR3:=hid hr3;clear hm3 hr3 ha3 hb3)
    have HZ:Hid (∀ A',A'=some ⟨gb,go+1,none⟩→Calls Tryz.prog 317 #[.slice A' 2 (c - 1)] w3 fun e w'=>e = .returned (.bool (allZ ([x1,x2].drop 0)))∧Below w3.heap.size w3 w'):=hid (fun A' hA=>zeros_any A' 2 (c - 1) _ w3 (by subst hA;exact ((HR1.out.below HB3.out).sub_ 1 2 (by omega)).more HB3.out.size) (by omega))
    generalize allZ ([x1,x2].drop 0)=z at *
    cases z
    ·have HD3:Hid (X=none):=hid (by rw [HD2.out,if_neg (by decide)])
     clear HD2
     go_wp2_with (go_at_call 317;refine (HZ.out _ rfl).mono ?_;rintro e w4 ⟨rfl,hb4⟩;have HB4:=hid (HB3.out.trans (hb4.mono HB3.out.size));clear hb4)
     all_goals go_ret2
     all_goals unfold RetNm
     all_goals rw [HD3.out]
     all_goals exact ⟨rfl,HB1.out.trans (HB4.out.mono HB1.out.size)⟩
    ·have HD3:Hid (X=some bs):=hid (by rw [HD2.out,if_pos rfl])
     clear HD2
     go_wp2_with (go_at_call 317;refine (HZ.out _ rfl).mono ?_;rintro e w4 ⟨rfl,hb4⟩;have HB4:=hid (HB3.out.trans (hb4.mono HB3.out.size));have hcv:=conv_strN c3 (HR3.out.below hb4) HBy.out;clear hb4)
     all_goals go_ret2
     all_goals unfold RetNm
     all_goals rw [HD3.out]
     all_goals exact ⟨rfl,HB1.out.trans (HB4.out.mono HB1.out.size)⟩
  ·have e7:((n:Int)+8 - 1) / 8=1:=by omega
   have HU:Hid (Calls Tryz.prog 199 #[.slice (some ⟨gb,go+1,none⟩) 1 (c - 1), .int .i64 (n:Int)] w2 (RetUnp w2 (([x1,x2]:List Nat).take 1) n)):=hid (unpack_any _ 1 (c - 1) n (([x1,x2]:List Nat).take 1) w2 (((HR1.out.below HB2.out).sub_ 1 1 (by omega)).more HB2.out.size) (fun x hx=>HX.out x (by first | (simp at hx ⊢;omega) | simp at hx)) (by omega) hu)
   by_cases hb:unpBad (([x1,x2]:List Nat).take 1) n=true
   ·have HD2:Hid (X=none):=hid (by rw [HD.out,if_pos hb])
    have HUb:Hid (Calls Tryz.prog 199 #[.slice (some ⟨gb,go+1,none⟩) 1 (c - 1), .int .i64 (n:Int)] w2 fun e w'=>e = .returned (.tuple #[.slice none 0 0, .int .i64 11])∧Below w2.heap.size w2 w'):=hid (HU.out.mono (fun e w' h=>by
     unfold RetUnp at h
     rw [if_pos hb] at h
     exact h))
    clear hb HD hu HU
    go_upto_region 5 with fail
    go_wp2_with (go_at_call 199;refine HUb.out.mono ?_;rintro e w3 ⟨rfl,hb3⟩;have HB3:=hid (HB2.out.trans (hb3.mono HB2.out.size));clear hb3)
    go_ret2
    unfold RetNm
    rw [HD2.out]
    exact ⟨rfl,HB1.out.trans (HB3.out.mono HB1.out.size)⟩
   ·have HD2:Hid (X=if allZ ([x1,x2].drop 1)=true then some (unpB (([x1,x2]:List Nat).take 1) n) else none):=hid (by rw [HD.out,if_neg hb])
    have HUb:Hid (Calls Tryz.prog 199 #[.slice (some ⟨gb,go+1,none⟩) 1 (c - 1), .int .i64 (n:Int)] w2 (RetB w2 (unpB (([x1,x2]:List Nat).take 1) n))):=hid (HU.out.mono (fun e w' h=>by
     unfold RetUnp at h
     rw [if_neg hb] at h
     exact h))
    clear HU
    have HBy:Hid (∀ b∈unpB (([x1,x2]:List Nat).take 1) n,b < 256):=hid (fun b hb=>by
     unfold unpB at hb
     obtain ⟨i,_,rfl⟩:=List.mem_map.1 hb
     exact Nat.mod_lt _ (by decide))
    generalize unpB (([x1,x2]:List Nat).take 1) n=bs at *
    clear hb HD hu
    go_upto_region 5 with fail
    go_upto_region 6 with (go_at_call 199;refine HUb.out.mono ?_;rintro e w3 ⟨A3,m3,c3,rfl,hm3,hr3,ha3,hb3⟩;have HB3:=hid (HB2.out.trans (hb3.mono HB2.out.size));have HR3:=hid hr3;clear hm3 hr3 ha3 hb3)
    have HZ:Hid (∀ A',A'=some ⟨gb,go+2,none⟩→Calls Tryz.prog 317 #[.slice A' 1 (c - 2)] w3 fun e w'=>e = .returned (.bool (allZ ([x1,x2].drop 1)))∧Below w3.heap.size w3 w'):=hid (fun A' hA=>zeros_any A' 1 (c - 2) _ w3 (by subst hA;exact ((HR1.out.below HB3.out).sub_ 2 1 (by omega)).more HB3.out.size) (by omega))
    generalize allZ ([x1,x2].drop 1)=z at *
    cases z
    ·have HD3:Hid (X=none):=hid (by rw [HD2.out,if_neg (by decide)])
     clear HD2
     go_wp2_with (go_at_call 317;refine (HZ.out _ rfl).mono ?_;rintro e w4 ⟨rfl,hb4⟩;have HB4:=hid (HB3.out.trans (hb4.mono HB3.out.size));clear hb4)
     all_goals go_ret2
     all_goals unfold RetNm
     all_goals rw [HD3.out]
     all_goals exact ⟨rfl,HB1.out.trans (HB4.out.mono HB1.out.size)⟩
    ·have HD3:Hid (X=some bs):=hid (by rw [HD2.out,if_pos rfl])
     clear HD2
     go_wp2_with (go_at_call 317;refine (HZ.out _ rfl).mono ?_;rintro e w4 ⟨rfl,hb4⟩;have HB4:=hid (HB3.out.trans (hb4.mono HB3.out.size));have hcv:=conv_strN c3 (HR3.out.below hb4) HBy.out;clear hb4)
     all_goals go_ret2
     all_goals unfold RetNm
     all_goals rw [HD3.out]
     all_goals exact ⟨rfl,HB1.out.trans (HB4.out.mono HB1.out.size)⟩
  ·have e7:((n:Int)+8 - 1) / 8=2:=by omega
   have HU:Hid (Calls Tryz.prog 199 #[.slice (some ⟨gb,go+1,none⟩) 2 (c - 1), .int .i64 (n:Int)] w2 (RetUnp w2 (([x1,x2]:List Nat).take 2) n)):=hid (unpack_any _ 2 (c - 1) n (([x1,x2]:List Nat).take 2) w2 (((HR1.out.below HB2.out).sub_ 1 2 (by omega)).more HB2.out.size) (fun x hx=>HX.out x (by first | (simp at hx ⊢;omega) | simp at hx)) (by omega) hu)
   by_cases hb:unpBad (([x1,x2]:List Nat).take 2) n=true
   ·have HD2:Hid (X=none):=hid (by rw [HD.out,if_pos hb])
    have HUb:Hid (Calls Tryz.prog 199 #[.slice (some ⟨gb,go+1,none⟩) 2 (c - 1), .int .i64 (n:Int)] w2 fun e w'=>e = .returned (.tuple #[.slice none 0 0, .int .i64 11])∧Below w2.heap.size w2 w'):=hid (HU.out.mono (fun e w' h=>by
     unfold RetUnp at h
     rw [if_pos hb] at h
     exact h))
    clear hb HD hu HU
    go_upto_region 5 with fail
    go_wp2_with (go_at_call 199;refine HUb.out.mono ?_;rintro e w3 ⟨rfl,hb3⟩;have HB3:=hid (HB2.out.trans (hb3.mono HB2.out.size));clear hb3)
    go_ret2
    unfold RetNm
    rw [HD2.out]
    exact ⟨rfl,HB1.out.trans (HB3.out.mono HB1.out.size)⟩
   ·have HD2:Hid (X=if allZ ([x1,x2].drop 2)=true then some (unpB (([x1,x2]:List Nat).take 2) n) else none):=hid (by rw [HD.out,if_neg hb])
    have HUb:Hid (Calls Tryz.prog 199 #[.slice (some ⟨gb,go+1,none⟩) 2 (c - 1), .int .i64 (n:Int)] w2 (RetB w2 (unpB (([x1,x2]:List Nat).take 2) n))):=hid (HU.out.mono (fun e w' h=>by
     unfold RetUnp at h
     rw [if_neg hb] at h
     exact h))
    clear HU
    have HBy:Hid (∀ b∈unpB (([x1,x2]:List Nat).take 2) n,b < 256):=hid (fun b hb=>by
     unfold unpB at hb
     obtain ⟨i,_,rfl⟩:=List.mem_map.1 hb
     exact Nat.mod_lt _ (by decide))
    generalize unpB (([x1,x2]:List Nat).take 2) n=bs at *
    clear hb HD hu
    go_upto_region 5 with fail
    go_upto_region 6 with (go_at_call 199;refine HUb.out.mono ?_;rintro e w3 ⟨A3,m3,c3,rfl,hm3,hr3,ha3,hb3⟩;have HB3:=hid (HB2.out.trans (hb3.mono HB2.out.size));have HR3:=hid hr3;clear hm3 hr3 ha3 hb3)
    have HZ:Hid (∀ A',Calls Tryz.prog 317 #[.slice A' 0 (c - 3)] w3 fun e w'=>e = .returned (.bool (allZ ([x1,x2].drop 2)))∧Below w3.heap.size w3 w'):=hid (fun A'=>zeros_any A' 0 (c - 3) _ w3 (⟨rfl,fun h=>absurd h (by decide)⟩) (by omega))
    generalize allZ ([x1,x2].drop 2)=z at *
    cases z
    ·have HD3:Hid (X=none):=hid (by rw [HD2.out,if_neg (by decide)])
     clear HD2
     clear hc0
     go_wp2_with (go_at_call 317;refine (HZ.out _).mono ?_;rintro e w4 ⟨rfl,hb4⟩;have HB4:=hid (HB3.out.trans (hb4.mono HB3.out.size));clear hb4)
     all_goals go_ret2
     all_goals unfold RetNm
     all_goals rw [HD3.out]
     all_goals exact ⟨rfl,HB1.out.trans (HB4.out.mono HB1.out.size)⟩
    ·have HD3:Hid (X=some bs):=hid (by rw [HD2.out,if_pos rfl])
     clear HD2
     clear hc0
     go_wp2_with (go_at_call 317;refine (HZ.out _).mono ?_;rintro e w4 ⟨rfl,hb4⟩;have HB4:=hid (HB3.out.trans (hb4.mono HB3.out.size));have hcv:=conv_strN c3 (HR3.out.below hb4) HBy.out;clear hb4)
     all_goals go_ret2
     all_goals unfold RetNm
     all_goals rw [HD3.out]
     all_goals exact ⟨rfl,HB1.out.trans (HB4.out.mono HB1.out.size)⟩
end
section
open Go.RowKit
theorem arenaValid_any {a:DA} {L T:Nat} {w:World} {S:Fp} {cur:Nat→Nat} {F:Nat} (h:Dev a L T w S cur F) (s n:Nat) (hn:32≤n) (hs:s+n≤L) :
  Calls Tryz.prog 186 #[memV a, .int .i64 (s:Int), .int .i64 (n:Int)] w fun e w'=>e = .returned (.bool true)∧w=w':=by
 obtain ⟨ls,exe,per,cs,lsC,hdc,hnt⟩:=h
 have hL:=hdc.hL
 obtain ⟨f0,f2,_,_,_⟩:=hdc.facts (j:=0) (by omega)
 clear hdc hnt
 have hq:=eqMem (some ⟨a.th 0,0,none⟩)
 have hmS:=methSize (some ⟨a.th 0,0,none⟩)
 unfold memV
 have e1:decide ((s:Int) < 0)=false:=decide_eq_false (by omega)
 have e2:decide ((n:Int) < 32)=false:=decide_eq_false (by omega)
 have u1:IntKind.u64.wrap ((L:Int) * 64)=(L:Int) * 64:=by rw [IntKind.wrap_u64];omega
 have u2:IntKind.u64.wrap (n:Int)=(n:Int):=by rw [IntKind.wrap_u64];omega
 have u3:IntKind.u64.wrap (s:Int)=(s:Int):=by rw [IntKind.wrap_u64];omega
 have u4:IntKind.u64.wrap ((L:Int) - (s:Int))=(L:Int) - (s:Int):=by rw [IntKind.wrap_u64];omega
 have d1:((L:Int) * 64).tdiv 64=(L:Int):=by rw [Int.mul_tdiv_cancel _ (by decide)]
 have d2:(n:Int).tdiv 32=(n:Int) / 32:=by rw [Int.tdiv_eq_ediv_of_nonneg (by omega)]
 have e3:decide ((L:Int) < (s:Int))=false:=decide_eq_false (by omega)
 have e4:decide ((L:Int) - (s:Int) < (n:Int))=false:=decide_eq_false (by omega)
 have u5:IntKind.u64.wrap ((n:Int) / 32)=(n:Int) / 32:=by rw [IntKind.wrap_u64];omega
 have u6:IntKind.u64.wrap ((n:Int) / 32 * 32)=(n:Int) / 32 * 32:=by rw [IntKind.wrap_u64];omega
 have u7:IntKind.u64.wrap ((s:Int)+(n:Int) / 32 * 32)=(s:Int)+(n:Int) / 32 * 32:=by rw [IntKind.wrap_u64];omega
 have e5:decide ((s:Int)+(n:Int) / 32 * 32≤4096)=true:=decide_eq_true (by omega)
 go_enter Tryz.func186,Tryz.ntmps186
 go_wp2
 go_ret
 exact ⟨rfl,rfl⟩
def arC (cur:Nat→Nat) (s:Nat):Nat→Nat→Nat
 | 0=>cur
 | k+1=>wrS (arC cur s k) [(64 * (s+32 * k),freeW 1)]
def AreI (a:DA) (L T:Nat) (w wr:World) (S:Fp) (cur:Nat→Nat) (s k:Nat):Prop:=∃ S',Dev a L (T+3 * k) wr S' (arC cur s k) 0∧Chg S w wr∧Grew S S' w
theorem freeW_lt (o:Nat) (ho:o < 65536):freeW o < 18446744073709551616:=sealW_lt _ (by omega)
theorem arenaFormat_any {a:DA} {L T:Nat} {w:World} {S:Fp} {cur:Nat→Nat} (h:Dev a L T w S cur 0) (ht:Tab w) (hg:¬ S 2) (s n K:Nat) (hn:32≤n) (hs:s+n≤L) (hK:n / 32=K) (hT:T+3 * K≤1000000000) :
  Calls Tryz.prog 144 #[memV a, .int .i64 (s:Int), .int .i64 (n:Int)] w (RetDev a L (T+3 * K) w S (arC cur s K) 0 (.int .i64 0)):=by
 have HV:=hid (arenaValid_any h s n hn hs)
 have HI0:Hid (AreI a L T w w S cur s 0):=⟨S,h,Chg.refl _ _,Grew.refl _ _⟩
 have HG:=hid hg
 have HT:=hid ht
 obtain ⟨ls,exe,per,cs,lsC,hdc,hnt⟩:=h
 have hL:=hdc.hL
 obtain ⟨f0,_,_,_,g2⟩:=hdc.facts (j:=0) (by omega)
 have hmE:=methErr (some ⟨a.th 0,0,none⟩)
 have d2:(n:Int).tdiv 32=(K:Int):=by rw [Int.tdiv_eq_ediv_of_nonneg (by omega)];omega
 have d3:(n:Int) / 32=(K:Int):=by omega
 have hK32:K * 32≤n:=by omega
 clear hdc hnt ht hg hK
 unfold memV at *
 go_enter Tryz.func144,Tryz.ntmps144
 go_wp2_with (first
  | (go_at_call 186;refine HV.out.mono ?_;rintro e w1 ⟨rfl,rfl⟩)
  | go_in)
 clear f0 g2 HV
 go_loopw [24] (fun i wr=>∃ (k:Nat),k≤K∧i = .int .i64 k∧Hid (AreI a L T w wr S cur s k)) (fun i _=>K - (RowKit.intOf i).toNat)
 case atStart=>exact ⟨0,Nat.zero_le _,rfl,HI0⟩
 case round =>
  clear HI0
  obtain ⟨k,hk,rfl,H⟩:=hrel
  by_cases hlt:k < K
  ·obtain ⟨S1,hd,hc,hgr⟩:=H.out
   have HC:=hid (clear_any (s+32 * k) 1 (by omega) (by omega) (by omega) wr (HT.out.chg hc HG.out))
   have HR:Hid (∀ (A:Option Addr) (m c:Nat) (p:List Ins) (w1:World),IsStores [(64 * (s+32 * k),freeW 1)] p→w1.ownsRow wr.heap.size 211 3 (.slice A m c) m (insCells p)→Below wr.heap.size wr w1 →
     Calls Tryz.prog 74 #[.slice A m c,memV a] w1 (fun e w2=>e = .returned (.int .i64 0)∧AreI a L T w w2 S cur s (k+1))):=fun A m c p w1 hp ho hb=>by
    refine (run_stores (hd.below hb) ho hd.lt hp (fun e he=>by simp only [List.mem_singleton] at he;subst he;exact ⟨by omega,by omega,freeW_lt 1 (by omega)⟩) (by simp) (by simp;omega)).mono ?_
    intro e w2 h2
    obtain ⟨he,S2,hd2,hc2,hg2⟩:=RetDev.then_ hc hgr (RetDev.back hb h2)
    exact ⟨he,S2,hd2.more (by simp;omega) (by omega),hc2,hg2⟩
   have e7:((s+32 * k:Nat):Int)=(s:Int)+(k:Int) * 32:=by omega
   rw [e7] at HC
   generalize 64 * (s+32 * k)=z at *
   clear hd hc hgr e7 H
   unfold memV at *
   go_wp2_with (first
    | (go_at_call 187;refine HC.out.mono ?_;rintro e w1 ⟨A1,m1,c1,p1,rfl,hp1,ho1,hb1⟩;have HRR:=hid (HR.out A1 m1 c1 p1 w1 hp1 ho1 hb1);clear hp1 ho1 hb1)
    | (go_at_call 74;refine HRR.out.mono ?_;rintro e w2 ⟨rfl,h2⟩;have HZ:=hid h2;clear h2)
    | go_in)
   go_roundw
   case rel =>
    repeat apply Exists.intro
    refine ⟨?_,rfl⟩
    exact ⟨k+1,by omega,by go_num,HZ⟩
   case measure=>simp [RowKit.intOf];omega
  ·obtain rfl:k=K:=by omega
   obtain ⟨S1,hd,hc,hgr⟩:=H.out
   have HZ:=hid (show ∃ S',Dev a L (T+3 * k) wr S' (arC cur s k) 0∧Chg S w wr∧Grew S S' w from H.out)
   obtain ⟨ls,exe,per,cs,lsC,hdc,hnt⟩:=hd
   obtain ⟨f0,_,_,_,g2⟩:=hdc.facts (j:=0) (by omega)
   clear hdc hnt hc hgr H
   go_wp2
   go_ret
   exact ⟨rfl,HZ.out⟩
end
section
open Go.RowKit
theorem header_free (w:World) (ht:Tab w) :
  Calls Tryz.prog 210 #[.int .u64 (freeW 1:Int)] w fun e w'=>e = .returned (.tuple #[.agg #[.int .i64 (-1), .int .i64 (-1), .int .u16 1], .bool true])∧Below w.heap.size w w':=by
 have HS:=hid (fun (W:World) (hW:Below w.heap.size w W)=>seal_any 3305111553 (by omega) W (ht.below hW))
 have hf:freeW 1=sealW 3305111553:=rfl
 have hs:IntKind.u32.wrap (sealW 3305111553:Int)=3305111553:=by
  rw [IntKind.wrap_u32']
  unfold sealW
  omega
 rw [hf]
 generalize sealW 3305111553=z at *
 have HB0:Hid (∀ x,Below w.heap.size w (w.alloc x)):=fun x=>(Below.refl _ _).alloc (Nat.le_refl _) x
 have b1:bits .and .u32 50432 15=0:=by decide
 have b2:bits .and .u32 3152 15=0:=by decide
 have b3:IntKind.u16.wrap 3305111553=1:=by decide
 have q1:((z:Int) == (z:Int))=true:=by simp
 clear ht hf
 go_enter Tryz.func210,Tryz.ntmps210
 go_wp2_with (go_at_call 237;refine (HS.out _ (HB0.out _)).mono ?_;rintro e w1 ⟨rfl,hb1⟩;have HB1:=hid hb1;have hk:=(Blk.new w 219 #[.int .i64 0, .int .i64 0, .int .u16 0]).below hb1 (Blk.new w 219 #[.int .i64 0, .int .i64 0, .int .u16 0]).lt;have hlt:=hk.lt;have c0:w1.cell? ⟨w.heap.size,0,none⟩=some (.int .i64 0):=hk.cell 0;have c1:w1.cell? ⟨w.heap.size,1,none⟩=some (.int .i64 0):=hk.cell 1;have c2:w1.cell? ⟨w.heap.size,2,none⟩=some (.int .u16 0):=hk.cell 2;have z0:w1.frozen? ⟨w.heap.size,0,none⟩=false:=hk.frozen 0;have z1:w1.frozen? ⟨w.heap.size,1,none⟩=false:=hk.frozen 1;have z2:w1.frozen? ⟨w.heap.size,2,none⟩=false:=hk.frozen 2;clear hb1 hk)
 have n01:(⟨w.heap.size,0,none⟩:Addr)≠⟨w.heap.size,1,none⟩:=by simp
 have n02:(⟨w.heap.size,0,none⟩:Addr)≠⟨w.heap.size,2,none⟩:=by simp
 have n12:(⟨w.heap.size,1,none⟩:Addr)≠⟨w.heap.size,2,none⟩:=by simp
 refine bodyPost_ret (v := .tuple #[.agg #[.int .i64 (-1), .int .i64 (-1), .int .u16 1], .bool true]) (by simp [results,Tryz.results210,go_sem,c0,c1,c2,hlt]) rfl ⟨rfl,?_⟩
 have h0:=(HB0.out (.cells #[.int .i64 0, .int .i64 0, .int .u16 0] 219)).trans (HB1.out.mono (by simp))
 have h1:=((h0.setCell (p:=⟨w.heap.size,0,none⟩) (Nat.le_refl _) (.int .i64 (-1))).setCell (p:=⟨w.heap.size,1,none⟩) (Nat.le_refl _) (.int .i64 (-1))).setCell (p:=⟨w.heap.size,2,none⟩) (Nat.le_refl _) (.int .u16 1)
 exact h1.alloc h1.size _
end
section
open Go.RowKit
def hdX (c g:Nat):Nat:=g+(c+1) * 65536+1048576+3305111552
def hdrW (c g:Nat):Nat:=sealW (hdX c g)
section
theorem formatted_any (c g:Nat) (hc:c < 5) (w:World) (hp:Pay w):Calls Tryz.prog 238 #[.agg #[.int .i64 (c:Int), .int .i64 0, .int .u16 (g:Int)]] w fun e w'=>e = .returned (.bool true)∧Below w.heap.size w w':=by
 have hb:Below w.heap.size w (w.alloc (.cells #[.int .i64 (c:Int), .int .i64 0, .int .u16 (g:Int)] 219)):=(Below.refl _ w).alloc (Nat.le_refl _) _
 have HB:=hid hb
 have HP:=hid (perChunk_any c hc _ (hp.below hb))
 have d1:(0:Int) < (perC c:Int):=by have:=per_le c;omega
 clear hp hb
 generalize perC c=r at *
 go_enter Tryz.func238,Tryz.ntmps238
 go_wp2_with (go_at_call 184;refine HP.out.mono ?_;rintro e w1 ⟨rfl,rfl⟩)
 go_ret
 exact ⟨rfl,HB.out⟩
theorem header_undiv (g:Nat) (hg0:0 < g) (hg:g < 65536) (w:World) (ht:Tab w) :
  Calls Tryz.prog 210 #[.int .u64 (freeW g:Int)] w fun e w'=>e = .returned (.tuple #[.agg #[.int .i64 (-1), .int .i64 (-1), .int .u16 (g:Int)], .bool true])∧Below w.heap.size w w':=by
 have HS:=hid (fun (W:World) (hW:Below w.heap.size w W)=>seal_any (3305111552+g) (by omega) W (ht.below hW))
 have hs:IntKind.u32.wrap (sealW (3305111552+g):Int)=((3305111552+g:Nat):Int):=by
  rw [IntKind.wrap_u32']
  unfold sealW
  omega
 unfold freeW
 have HB0:Hid (∀ x,Below w.heap.size w (w.alloc x)):=fun x=>(Below.refl _ _).alloc (Nat.le_refl _) x
 have b0:((3305111552+g:Nat):Int) / 16777216=197:=by omega
 have b1:((3305111552+g:Nat):Int) / 65536=50432:=by omega
 have b2:((3305111552+g:Nat):Int) / 1048576=3152:=by omega
 have b4:bits .and .u32 50432 15=0:=by decide
 have b5:bits .and .u32 3152 15=0:=by decide
 have b3:IntKind.u16.wrap ((3305111552+g:Nat):Int)=(g:Int):=by rw [IntKind.wrap_u16];omega
 have b6:((g:Int) == 0)=false:=by rw [beq_eq_false_iff_ne];omega
 have hx:3305111552+g < 4294967296:=by omega
 generalize 3305111552+g=xx at *
 generalize sealW xx=z at *
 have q1:((z:Int) == (z:Int))=true:=by simp
 clear ht
 go_enter Tryz.func210,Tryz.ntmps210
 go_wp2_with (go_at_call 237;refine (HS.out _ (HB0.out _)).mono ?_;rintro e w1 ⟨rfl,hb1⟩;have HB1:=hid hb1;have hk:=(Blk.new w 219 #[.int .i64 0, .int .i64 0, .int .u16 0]).below hb1 (Blk.new w 219 #[.int .i64 0, .int .i64 0, .int .u16 0]).lt;have hlt:=hk.lt;have c0:w1.cell? ⟨w.heap.size,0,none⟩=some (.int .i64 0):=hk.cell 0;have c1:w1.cell? ⟨w.heap.size,1,none⟩=some (.int .i64 0):=hk.cell 1;have c2:w1.cell? ⟨w.heap.size,2,none⟩=some (.int .u16 0):=hk.cell 2;have z0:w1.frozen? ⟨w.heap.size,0,none⟩=false:=hk.frozen 0;have z1:w1.frozen? ⟨w.heap.size,1,none⟩=false:=hk.frozen 1;have z2:w1.frozen? ⟨w.heap.size,2,none⟩=false:=hk.frozen 2;clear hb1 hk)
 have n01:(⟨w.heap.size,0,none⟩:Addr)≠⟨w.heap.size,1,none⟩:=by simp
 have n02:(⟨w.heap.size,0,none⟩:Addr)≠⟨w.heap.size,2,none⟩:=by simp
 have n12:(⟨w.heap.size,1,none⟩:Addr)≠⟨w.heap.size,2,none⟩:=by simp
 refine bodyPost_ret (v := .tuple #[.agg #[.int .i64 (-1), .int .i64 (-1), .int .u16 (g:Int)], .bool true]) (by simp [results,Tryz.results210,go_sem,c0,c1,c2,hlt]) rfl ⟨rfl,?_⟩
 have h0:=(HB0.out (.cells #[.int .i64 0, .int .i64 0, .int .u16 0] 219)).trans (HB1.out.mono (by simp))
 have h1:=((h0.setCell (p:=⟨w.heap.size,0,none⟩) (Nat.le_refl _) (.int .i64 (-1))).setCell (p:=⟨w.heap.size,1,none⟩) (Nat.le_refl _) (.int .i64 (-1))).setCell (p:=⟨w.heap.size,2,none⟩) (Nat.le_refl _) (.int .u16 (g:Int))
 exact h1.alloc h1.size _
theorem header_cls (c g:Nat) (hc:c < 5) (hg0:0 < g) (hg:g < 65536) (w:World) (ht:Tab w) (hp:Pay w) :
  Calls Tryz.prog 210 #[.int .u64 (hdrW c g:Int)] w fun e w'=>e = .returned (.tuple #[.agg #[.int .i64 (c:Int), .int .i64 0, .int .u16 (g:Int)], .bool true])∧Below w.heap.size w w':=by
 have hx:hdX c g < 4294967296:=by unfold hdX;omega
 have HS:=hid (fun (W:World) (hW:Below w.heap.size w W)=>seal_any (hdX c g) hx W (ht.below hW))
 have HF:=hid (fun (W:World) (hW:Below w.heap.size w W)=>formatted_any c g hc W (hp.below hW))
 have hs:IntKind.u32.wrap (sealW (hdX c g):Int)=(hdX c g:Int):=by
  rw [IntKind.wrap_u32']
  unfold sealW
  omega
 unfold hdrW
 have HB0:Hid (∀ x,Below w.heap.size w (w.alloc x)):=fun x=>(Below.refl _ _).alloc (Nat.le_refl _) x
 have b0:(hdX c g:Int) / 16777216=197:=by unfold hdX;omega
 have b1:bits .and .u32 ((hdX c g:Int) / 65536) 15=(c:Int)+1:=by
  have e:(hdX c g:Int) / 65536=50432+16+(c:Int)+1:=by unfold hdX;omega
  rw [e]
  have hc5:c=0∨c=1∨c=2∨c=3∨c=4:=by omega
  rcases hc5 with rfl | rfl | rfl | rfl | rfl <;> decide
 have b2:(hdX c g:Int) / 1048576=3153:=by unfold hdX;omega
 have b5:bits .and .u32 3153 15=1:=by decide
 have b3:IntKind.u16.wrap (hdX c g:Int)=(g:Int):=by rw [IntKind.wrap_u16];unfold hdX;omega
 have b6:((g:Int) == 0)=false:=by rw [beq_eq_false_iff_ne];omega
 have d0:decide ((c:Int) < 0)=false:=decide_eq_false (by omega)
 generalize hdX c g=xx at *
 generalize sealW xx=z at *
 have q1:((z:Int) == (z:Int))=true:=by simp
 clear ht hp
 go_enter Tryz.func210,Tryz.ntmps210
 go_wp2_with (go_at_call 237;refine (HS.out _ (HB0.out _)).mono ?_;rintro e w1 ⟨rfl,hb1⟩;have HB1:=hid ((HB0.out (.cells #[.int .i64 0, .int .i64 0, .int .u16 0] 219)).trans (hb1.mono (by simp)));have HK:=hid ((Blk.new w 219 #[.int .i64 0, .int .i64 0, .int .u16 0]).below hb1 (Blk.new w 219 #[.int .i64 0, .int .i64 0, .int .u16 0]).lt);clear hb1)
 have HB2:=hid (HB1.out.alloc HB1.out.size (.cells #[.int .i64 (c:Int), .int .i64 0, .int .u16 (g:Int)] 219))
 have HK2:=hid (HK.out.below (Below.refl _ w1 |>.alloc (Nat.le_refl _) (.cells #[.int .i64 (c:Int), .int .i64 0, .int .u16 (g:Int)] 219)) HK.out.lt)
 have HN2:=hid (Blk.new w1 219 #[.int .i64 (c:Int), .int .i64 0, .int .u16 (g:Int)])
 generalize hw2:w1.alloc (.cells #[.int .i64 (c:Int), .int .i64 0, .int .u16 (g:Int)] 219)=w2 at *
 have HF2:=hid (HF.out w2 HB2.out)
 clear HF HS HK HB1 hw2
 refine HF2.out.mono ?_
 rintro e w3 ⟨rfl,hb3⟩
 have HB3:=hid (HB2.out.trans (hb3.mono HB2.out.size))
 have hk:=HK2.out.below hb3 HK2.out.lt
 have hn:=HN2.out.below hb3 HN2.out.lt
 have g0:w3.cell? ⟨w1.heap.size,0,none⟩=some (.int .i64 (c:Int)):=hn.cell 0
 have g1:w3.cell? ⟨w1.heap.size,1,none⟩=some (.int .i64 0):=hn.cell 1
 have g2:w3.cell? ⟨w1.heap.size,2,none⟩=some (.int .u16 (g:Int)):=hn.cell 2
 have c0:w3.cell? ⟨w.heap.size,0,none⟩=some (.int .i64 0):=hk.cell 0
 have c1:w3.cell? ⟨w.heap.size,1,none⟩=some (.int .i64 0):=hk.cell 1
 have c2:w3.cell? ⟨w.heap.size,2,none⟩=some (.int .u16 0):=hk.cell 2
 have z0:w3.frozen? ⟨w.heap.size,0,none⟩=false:=hk.frozen 0
 have z1:w3.frozen? ⟨w.heap.size,1,none⟩=false:=hk.frozen 1
 have z2:w3.frozen? ⟨w.heap.size,2,none⟩=false:=hk.frozen 2
 clear hb3 hk hn HF2 HK2 HN2 HB2 HB0
 go_wp2
 have n01:(⟨w.heap.size,0,none⟩:Addr)≠⟨w.heap.size,1,none⟩:=by simp
 have n02:(⟨w.heap.size,0,none⟩:Addr)≠⟨w.heap.size,2,none⟩:=by simp
 have n12:(⟨w.heap.size,1,none⟩:Addr)≠⟨w.heap.size,2,none⟩:=by simp
 refine bodyPost_ret (v := .tuple #[.agg #[.int .i64 (c:Int), .int .i64 0, .int .u16 (g:Int)], .bool true]) (by simp [results,Tryz.results210,go_sem,c0,c1,c2]) rfl ⟨rfl,?_⟩
 exact ((HB3.out.setCell (p:=⟨w.heap.size,0,none⟩) (Nat.le_refl _) (.int .i64 (c:Int))).setCell (p:=⟨w.heap.size,1,none⟩) (Nat.le_refl _) (.int .i64 0)).setCell (p:=⟨w.heap.size,2,none⟩) (Nat.le_refl _) (.int .u16 (g:Int))
end
end
end Go.Proofs.YtnlokpakiambaaaGreatDoor
