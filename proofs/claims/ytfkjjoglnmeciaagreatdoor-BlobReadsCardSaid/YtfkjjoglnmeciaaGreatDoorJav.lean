/- The walks and laws that the claim leans on, part 22. -/
import Derived.Test.YtfkjjoglnmeciaaGreatDoorJap
set_option maxRecDepth 100000
set_option maxHeartbeats 16000000
namespace Go.Proofs.YtfkjjoglnmeciaaGreatDoor
open Go.Lib (hid)
section
open Go.RowKit
theorem infoLine:(Tryz.prog.info? 298).map (fun i=>(i.zero,i.size,i.bytes))=some (some (.agg #[.int .u64 0, .slice none 0 0]),2,32):=by kernel_rfl
def Of1 (w wx:World) (pb L:Nat) (pl:List Nat) (v:Value):Prop:=∃ d cb cc lb cs ls,v = .pointer (some ⟨d,0,none⟩)∧Blk wx d 158 #[.slice (some ⟨pb,0,none⟩) (8 * L) (8 * L), .slice (some ⟨cb,0,none⟩) (8 * L) cc, .slice (some ⟨lb,0,none⟩) L L, .pointer none, .pointer none, .pointer none, .pointer none, .pointer none, .pointer none, .pointer none, .pointer none, .bool false, .bool false, .int .i64 0, .int .u64 0] ∧
 Blk wx cb 32 cs∧cs.size=cc∧8 * L≤cc∧cc≤9223372036854775807∧RowU cs pl∧Blk wx lb 298 ls∧ls=madeCells (Value.agg #[.int .u64 0, .slice none 0 0]).cells (L * 2)∧Below w.heap.size w wx∧w.heap.size≤cb∧w.heap.size≤lb∧w.heap.size≤d
theorem Blk.new2 (w:World) (o:Obj) (t:TypeId) (cs:Array Value):Blk ((w.alloc o).alloc (.cells cs t)) (w.heap.size+1) t cs:=by
 have h:=Blk.new (w.alloc o) t cs
 rw [show (w.alloc o).heap.size=w.heap.size+1 by simp] at h
 exact h
theorem of_join {w wx:World} {pb L d lb m1 c1:Nat} {pl:List Nat} {A1:Option Addr} (h0:0 < L) (hd:Blk wx d 158 #[.slice (some ⟨pb,0,none⟩) (8 * L) (8 * L), .slice A1 m1 c1, .slice (some ⟨lb,0,none⟩) L L, .pointer none, .pointer none, .pointer none, .pointer none, .pointer none, .pointer none, .pointer none, .pointer none, .bool false, .bool false, .int .i64 0, .int .u64 0]) (ho:wx.ownsRow w.heap.size 32 1 (.slice A1 m1 c1) m1 (uCells pl)) (hm:m1=8 * L)
  (hl:Blk wx lb 298 (madeCells (Value.agg #[.int .u64 0, .slice none 0 0]).cells (L * 2))) (hb:Below w.heap.size w wx) (h1:w.heap.size≤lb) (h2:w.heap.size≤d):Of1 w wx pb L pl (.pointer (some ⟨d,0,none⟩)):=by
 obtain ⟨g,cap,hve,hgb,hglt⟩:=ho.form (by omega)
 have hA:A1=some ⟨g,0,none⟩:=by injection hve
 subst hA
 obtain ⟨cur,hcb,hcs,hru,hxl⟩:=own_row ho
 have hcap:=own_cap ho
 subst hm
 exact ⟨d,g,c1,lb,cur,_,rfl,hd,hcb,hcs,by omega,by omega,hru,hl,rfl,hb,hgb,h1,h2⟩
structure OfI (w wr:World) (pb L d cb cc lb:Nat) (cs ls:Array Value) (th nt:Nat→Nat) (k:Nat):Prop where
 dev:∃ dc,Blk wr d 158 dc∧dc.size=15∧dc[0]?=some (.slice (some ⟨pb,0,none⟩) (8 * L) (8 * L))∧dc[1]?=some (.slice (some ⟨cb,0,none⟩) (8 * L) cc)∧dc[2]?=some (.slice (some ⟨lb,0,none⟩) L L)∧dc[11]?=some (.bool false)∧dc[12]?=some (.bool false)∧dc[13]?=some (.int .i64 0)∧dc[14]?=some (.int .u64 0)∧∀ j,j < k→dc[3+j]?=some (.pointer (some ⟨th j,0,none⟩))
 cur:Blk wr cb 32 cs
 lin:Blk wr lb 298 ls
 thr:∀ j,j < k→Blk wr (th j) 268 #[.pointer (some ⟨d,0,none⟩), .int .i64 (j:Int), .int .i64 0, .map (some (nt j))]
 map:0 < k→wr.ownsMap Tryz.prog 3 (plainElem Tryz.prog 32) (nt 0) 0 (.map ([]:List (Lit × DataW Unit)))
 below:Below w.heap.size w wr
 gd:w.heap.size≤d
 gt:∀ j,j < k→w.heap.size≤th j∧w.heap.size≤nt j
theorem ofStep {w wr:World} {pb L d cb cc lb:Nat} {cs ls:Array Value} {th nt:Nat→Nat} {k:Nat} (H:OfI w wr pb L d cb cc lb cs ls th nt k) (hk:k < 8) :
  OfI w (((wr.setCell ⟨d,3+k,none⟩ (.pointer (some ⟨wr.heap.size+1,0,none⟩))).alloc (.map #[] 0)).alloc (.cells #[.pointer (some ⟨d,0,none⟩), .int .i64 (k:Int), .int .i64 0, .map (some wr.heap.size)] 268)) pb L d cb cc lb cs ls (fun j=>if j=k then wr.heap.size+1 else th j) (fun j=>if j=k then wr.heap.size else nt j) (k+1):=by
 obtain ⟨⟨dc,hd,hds,e0,e1,e2,e3,e4,e5,e6,e7⟩,hcu,hli,hth,hmp,hbl,hgd,hgt⟩:=H
 have hs:(wr.setCell ⟨d,3+k,none⟩ (.pointer (some ⟨wr.heap.size+1,0,none⟩))).heap.size=wr.heap.size:=by simp
 have hc:Chg (fun g=>g=d) wr (((wr.setCell ⟨d,3+k,none⟩ (.pointer (some ⟨wr.heap.size+1,0,none⟩))).alloc (.map #[] 0)).alloc (.cells #[.pointer (some ⟨d,0,none⟩), .int .i64 (k:Int), .int .i64 0, .map (some wr.heap.size)] 268)):=(((Chg.refl (fun g=>g=d) wr).setCell (p:=⟨d,3+k,none⟩) (.inl rfl) _).alloc _).alloc _
 refine ⟨⟨_,((hd.set_ (3+k) _).alloc _).alloc _,by simpa using hds,?_,?_,?_,?_,?_,?_,?_,?_⟩,hc.blk hcu (fun e=>hcu.ne_ hd (by decide) e),hc.blk hli (fun e=>hli.ne_ hd (by decide) e),?_,?_,?_,hgd,?_⟩
 ·rw [Array.getElem?_setIfInBounds_ne (by omega)];exact e0
 ·rw [Array.getElem?_setIfInBounds_ne (by omega)];exact e1
 ·rw [Array.getElem?_setIfInBounds_ne (by omega)];exact e2
 ·rw [Array.getElem?_setIfInBounds_ne (by omega)];exact e3
 ·rw [Array.getElem?_setIfInBounds_ne (by omega)];exact e4
 ·rw [Array.getElem?_setIfInBounds_ne (by omega)];exact e5
 ·rw [Array.getElem?_setIfInBounds_ne (by omega)];exact e6
 ·intro j hj
  by_cases hjk:j=k
  ·subst hjk
   rw [Array.getElem?_setIfInBounds_self_of_lt (by omega)]
   simp
  ·rw [Array.getElem?_setIfInBounds_ne (by omega),e7 j (by omega)]
   simp [hjk]
 ·intro j hj
  by_cases hjk:j=k
  ·subst hjk
   have h:=Blk.new2 (wr.setCell ⟨d,3+j,none⟩ (.pointer (some ⟨wr.heap.size+1,0,none⟩))) (.map #[] 0) 268 #[.pointer (some ⟨d,0,none⟩), .int .i64 (j:Int), .int .i64 0, .map (some wr.heap.size)]
   rw [hs] at h
   simpa using h
  ·have h:=hc.blk (hth j (by omega)) (fun e=>(hth j (by omega)).ne_ hd (by decide) e)
   simpa [hjk] using h
 ·intro _
  by_cases hk0:0=k
  ·subst hk0
   have h:=World.ownsMap_made (H:=Unit) (wr.setCell ⟨d,3+0,none⟩ (.pointer (some ⟨wr.heap.size+1,0,none⟩))) Tryz.prog 3 (plainElem Tryz.prog 32)
   rw [hs] at h
   have h2:=((Chg.refl Fp.no _).alloc (.cells #[.pointer (some ⟨d,0,none⟩), .int .i64 ((0:Nat):Int), .int .i64 0, .map (some wr.heap.size)] 268)).map h (fun h=>h)
   simpa using h2
  ·have h:=hc.map (hmp (by omega)) (fun e=>map_ne_blk (hmp (by omega)) hd e)
   simpa [hk0] using h
 ·have h1:=(hbl.setCell (p:=⟨d,3+k,none⟩) hgd (.pointer (some ⟨wr.heap.size+1,0,none⟩)))
  exact (h1.alloc h1.size _).alloc (Nat.le_trans h1.size (by simp)) _
 ·intro j hj
  have:=hbl.size
  by_cases hjk:j=k
  ·simp [hjk];omega
  ·simpa [hjk] using hgt j (by omega)
def RetOf (w:World) (pb L:Nat) (pl:List Nat) (e:Ending) (w':World):Prop:=∃ (d cb cc lb:Nat) (cs ls:Array Value) (th nt:Nat→Nat),e = .returned (.pointer (some ⟨d,0,none⟩))∧OfI w w' pb L d cb cc lb cs ls th nt 8∧cs.size=cc∧8 * L≤cc∧cc≤9223372036854775807∧RowU cs pl∧ls=madeCells (Value.agg #[.int .u64 0, .slice none 0 0]).cells (L * 2)∧w.heap.size≤cb∧w.heap.size≤lb
theorem of_any (pb L:Nat) (pl:List Nat) (hL:L≤4096) (h0:0 < L) (w:World) (hp:Reads w w.heap.size 1 (some ⟨pb,0,none⟩) (8 * L) (uCells pl)) :
  Calls Tryz.prog 168 #[.slice (some ⟨pb,0,none⟩) (8 * L) (8 * L)] w (RetOf w pb L pl):=by
 obtain ⟨j0,hj0,hk0,hk1,hk2⟩:=info_parts infoLine
 have hmk:∀ W:World,(Instr.makeSlice 155 (.int .i64 (L:Int)) (.int .i64 (L:Int))).run Tryz.prog W = .ok (.slice (some ⟨W.heap.size,0,none⟩) L L) (W.alloc (.cells (madeCells (Value.agg #[.int .u64 0, .slice none 0 0]).cells (L * 2)) 298)):=fun W=>by
  have h:=run_makeSlice (P:=Tryz.prog) W 155 298 j0 _ Tryz.underlying155 hj0 hk0 .i64 .i64 (L:Int) (L:Int) (by omega) (by omega) (by rw [hk1];omega) (by rw [hk2];omega) (by omega)
  rw [hk1] at h
  simpa using h
 have HJ:Hid (∀ (wx:World) (d lb m1 c1:Nat) (A1:Option Addr),_):=fun wx d lb m1 c1 A1=>of_join (pl:=pl) (w:=w) (wx:=wx) (pb:=pb) (d:=d) (lb:=lb) (m1:=m1) (c1:=c1) (A1:=A1) h0
 generalize madeCells (Value.agg #[.int .u64 0, .slice none 0 0]).cells (L * 2)=M at *
 have HC:=hid (fun (W:World) (hW:Below w.heap.size w W)=>cloneU_any ⟨pb,0,none⟩ (8 * L) (8 * L) _ W ((hp.below hW).more hW.size) (by omega))
 generalize hN:8 * L=N at *
 have d1:(N:Int).tdiv 8=(L:Int):=by rw [Int.tdiv_eq_ediv_of_nonneg (by omega)];omega
 have d2:(N:Int) / 8=(L:Int):=by omega
 have wL:IntKind.i64.wrap (L:Int)=(L:Int):=by rw [IntKind.wrap_i64];omega
 have HN:=hid hN
 clear hN hp
 go_enter Tryz.func168,Tryz.ntmps168
 go_wp2_with fail
 go_cut [3] from 5 to 13 (fun v wx=>Hid (Of1 w wx pb L pl v))
 case first =>
  go_region_with (go_at_call 190;refine (HC.out _ (by first | exact (Below.refl _ _).drew | exact (Below.refl _ _).drew.alloc (Nat.le_refl _) _)).mono ?_;rintro e w1 ⟨A1,m1,c1,rfl,hm1,ho1,hb1⟩;have HO1:=hid ho1;have HB1:=hid hb1;have HM1:=hid hm1;clear ho1 hb1 hm1)
  ·go_wp2_with fail
   go_meet
   exact HJ.out _ _ _ _ _ _ (Blk.new2 _ _ _ _) ((HO1.out.alloc _).alloc _) HM1.out ((Blk.new _ _ _).alloc _) (((Below.refl w.heap.size w).drew.trans HB1.out).alloc HB1.out.size _ |>.alloc (Nat.le_trans HB1.out.size (by simp)) _) HB1.out.size (Nat.le_trans HB1.out.size (by simp))
  ·go_wp2_with fail
   go_meet
   have hb:Below w.heap.size w w1:=((Below.refl w.heap.size w).drew.alloc (Nat.le_refl _) _).trans (HB1.out.mono (by simp))
   exact HJ.out _ _ _ _ _ _ (Blk.new _ _ _) ((own_le HO1.out (by simp)).alloc _) HM1.out (((Blk.new w.drew _ _).below HB1.out (Blk.new w.drew _ _).lt).alloc _) (hb.alloc hb.size _) (Nat.le_refl _) hb.size
 case rest =>
  obtain ⟨d,cb,cc,lb,cs,ls,rfl,hd,hc,hcs,hc1,hc2,hru,hl,hls,hb,g1,g2,g3⟩:=hcut.out
  have HI0:Hid (OfI w wc pb L d cb cc lb cs ls (fun _=>0) (fun _=>0) 0):=⟨⟨_,hd,rfl,rfl,rfl,rfl,rfl,rfl,rfl,rfl,fun j hj=>by omega⟩,hc,hl,fun j hj=>by omega,fun h=>by omega,hb,g3,fun j hj=>by omega⟩
  have HF:=hid (show cs.size=cc∧8 * L≤cc∧cc≤9223372036854775807∧RowU cs pl∧ls=madeCells (Value.agg #[.int .u64 0, .slice none 0 0]).cells (L * 2)∧w.heap.size≤cb∧w.heap.size≤lb from ⟨hcs,hc1,hc2,hru,hls,g1,g2⟩)
  clear hcut hd hc hru hl hls hb HC HJ hmk d1 d2 wL
  go_wp2
  go_loopw [14] (fun i wr=>∃ (k:Nat) (th nt:Nat→Nat),k≤8∧i = .int .i64 k∧Hid (OfI w wr pb L d cb cc lb cs ls th nt k)) (fun i _=>8 - (RowKit.intOf i).toNat)
  case atStart=>exact ⟨0,_,_,Nat.zero_le _,rfl,HI0⟩
  case round =>
   clear HI0
   obtain ⟨k,th,nt,hk,rfl,H⟩:=hrel
   by_cases hlt:k < 8
   ·obtain ⟨dc,hdb,hds,_⟩:=H.out.dev
    obtain ⟨u0,hu0⟩:∃ u,dc[3+k]?=some u:=⟨_,Array.getElem?_eq_getElem (by omega)⟩
    have c0:wr.cell? ⟨d,3+k,none⟩=some u0:=by rw [hdb.cell];exact hu0
    have c1:wr.frozen? ⟨d,3+k,none⟩=false:=hdb.frozen _
    have hdl:=hdb.lt
    have hmm:∀ W:World,(Instr.makeMap 266 none).run Tryz.prog W = .ok (.map (some W.heap.size)) (W.alloc (.map #[] 0)):=fun _=>rfl
    have hz0:(0:Int)≤(k:Int):=by omega
    have hz1:(k:Int) < 8:=by omega
    have HN1:=hid (ofStep H.out hlt)
    clear H hdb hds hu0
    go_wp2
    exact ⟨⟨k+1,_,_,by omega,by go_num,HN1⟩,by simp [RowKit.intOf];omega⟩
   ·obtain rfl:k=8:=by omega
    go_wp2
    go_ret
    exact ⟨d,cb,cc,lb,cs,ls,th,nt,rfl,H.out,HF.out⟩
end
section
open Go.RowKit Go.Maps
theorem own_off {w:World} {S:Fp} {base:Nat} {e:TypeId} {size m c n:Nat} {A:Option Addr} {xs:List Value} (ho:w.ownsRow base e size (.slice A m c) n xs) (hb:∀ k,S k→k < base):∀ ad,A=some ad→¬ S ad.block:=fun ad had hs=>by
 rcases ho.2 with ⟨hv,_⟩ | ⟨g,cap,cs,hv,hge,_⟩
 ·injection hv with h1;rw [h1] at had;cases had
 ·injection hv with h1
  rw [h1] at had
  injection had with h2
  subst h2
  have:=hb _ hs
  simp at this
  omega
theorem wrS_out (s:Nat):∀ (l:List (Nat × Nat)) (n k:Nat) (cur:Nat→Nat),(k < 8 * s+8+2 * n∨8 * s+8+2 * (n+l.length)≤k)→wrS cur (entW (64 * s) n l) k=cur k
 | [],n,k,cur,_=>rfl
 | e :: l,n,k,cur,h=>by
  simp only [List.length_cons] at h
  show wrS (upd (upd cur ((64 * s+64+16 * n) / 8) e.1) ((64 * s+64+16 * n+8) / 8) e.2) (entW (64 * s) (n+1) l) k=_
  rw [wrS_out s l (n+1) k _ (by omega)]
  simp only [upd]
  rw [if_neg (by omega),if_neg (by omega)]
end
section
open Go.RowKit
def RetSum32 (w:World) (e:Ending) (w':World):Prop:=∃ v:Nat,v < 4294967296∧e = .returned (.int .u32 (v:Int))∧w=w'
theorem words_any (A:Option Addr) (n cap B:Nat) (xs:List Nat) (w:World) (hrd:Reads w B 1 A n (uCells xs)) (hv:∀ x∈xs,x < 18446744073709551616) (hn:n≤1000000) (ht:Tab w) :
  Calls Tryz.prog 249 #[.slice A n cap] w (RetSum32 w):=by
 have HR:=hid hrd
 have HT:=hid ht
 have HV:Hid (∀ k (hk:k < xs.length),xs[k] < 18446744073709551616):=hid (fun k hk=>hv _ (List.getElem_mem hk))
 have uc:IntKind.u32.signed=false:=rfl
 clear hrd hv ht
 go_enter Tryz.func249,Tryz.ntmps249
 go_wp2
 go_loopw [3,8] (fun r i wr=>∃ k s:Nat,k≤n∧s < 4294967296∧i = .int .i64 (k:Int)∧r = .int .u32 (s:Int)∧Hid (w=wr)) (fun _ i _=>n - (Go.RowKit.intOf i).toNat)
 case atStart=>exact ⟨0,4294967295,Nat.zero_le _,by omega,by go_num,by go_num,hid rfl⟩
 case round =>
  obtain ⟨k,s,hk,hs,rfl,rfl,hw⟩:=hrel
  have hw:=hw.out
  subst hw
  by_cases hlt:k < n
  ·obtain ⟨hkl,b,off,hA,hbB,q0⟩:=u_facts HR.out hlt
   subst hA
   have hx:=HV.out k hkl
   have hz5:(0:Int)≤(k:Int):=by omega
   have hz6:(k:Int) < (n:Int):=by omega
   generalize xs[k]=x at *
   go_wp2
   clear q0
   go_loopw [3,5,12] (fun r y i wr=>∃ j s z:Nat,j≤8∧s < 4294967296∧z < 18446744073709551616∧i = .int .i64 (j:Int)∧r = .int .u32 (s:Int)∧y = .int .u64 (z:Int)∧Hid (w=wr)) (fun _ _ i _=>8 - (Go.RowKit.intOf i).toNat)
   case atStart=>exact ⟨0,s,x,by omega,hs,hx,by go_num,rfl,rfl,hid rfl⟩
   case round =>
    clear hs hx
    obtain ⟨j,s,z,hj,hs,hz,rfl,rfl,rfl,hw⟩:=hrel
    have hw:=hw.out
    subst hw
    by_cases h8:j < 8
    ·have e1:IntKind.u8.wrap (z:Int)=((z % 256:Nat):Int):=by rw [IntKind.wrap_u8];omega
     have HS:=hid (step_any s (z % 256) hs (by omega) w HT.out)
     have hst:=Crc.step_lt hs (show z % 256 < 256 by omega)
     generalize z % 256=by_ at *
     generalize Crc.step s by_=s2 at *
     have hz8:(z:Int) / 256=((z / 256:Nat):Int):=by omega
     have hz9:z / 256 < 18446744073709551616:=by omega
     generalize z / 256=z2 at *
     go_wp2_with fail
     refine HS.out.mono ?_
     rintro e w1 ⟨rfl,rfl⟩
     go_wp2
     go_roundw
     case rel=>exact ⟨j+1,s2,z2,by omega,hst,hz9,by go_num,rfl,rfl,hid trivial⟩
     case measure=>simp [Go.RowKit.intOf];omega
    ·have h8':j=8:=by omega
     subst h8'
     go_wp2
     go_roundw
     case rel =>
      first
       | exact ⟨k+1,s,by omega,hs,by go_num,rfl,hid trivial⟩
       | (
         repeat apply Exists.intro
         refine ⟨?_,trivial⟩
         exact ⟨k+1,s,by omega,hs,by go_num,rfl,hid trivial⟩)
       | (
         refine ⟨_,?_⟩
         exact ⟨k+1,s,by omega,hs,by go_num,rfl,hid trivial⟩)
     case measure=>simp [Go.RowKit.intOf];omega
  ·have hkn:k=n:=by omega
   subst hkn
   have hx:=u32_not s hs
   have hlt2:s ^^^ Crc.ones < 4294967296:=Crc.xor_lt hs (by decide)
   generalize s ^^^ Crc.ones=v at *
   go_wp2
   go_ret
   exact ⟨v,hlt2,by first | rfl | (rw [hx]),rfl⟩
end
section
open Go.RowKit
theorem made_at (z:Array Value) (n i:Nat) (h:i < n):(madeCells z n)[i]?=some z[i % z.size]! := by
 unfold madeCells
 rw [Array.getElem?_map,Array.getElem?_range,if_pos h]
 rfl
theorem made_line (L i:Nat) (hi:i < L):(madeCells (Value.agg #[.int .u64 0, .slice none 0 0]).cells (L * 2))[i * 2]?=some (.int .u64 0)∧(madeCells (Value.agg #[.int .u64 0, .slice none 0 0]).cells (L * 2))[i * 2+1]?=some (.slice none 0 0):=by
 have hz:(Value.agg #[.int .u64 0, .slice none 0 0]).cells=#[.int .u64 0, .slice none 0 0]:=rfl
 rw [hz,made_at _ _ _ (by omega),made_at _ _ _ (by omega)]
 have e1:i * 2 % (#[Value.int .u64 0,Value.slice none 0 0]:Array Value).size=0:=by show i * 2 % 2=0;omega
 have e2:(i * 2+1) % (#[Value.int .u64 0,Value.slice none 0 0]:Array Value).size=1:=by show (i * 2+1) % 2=1;omega
 rw [e1,e2]
 exact ⟨rfl,rfl⟩
def RetNew (w:World) (L:Nat) (D:Nat→Prop) (v:Nat→Value) (cur:Nat→Nat) (e:Ending) (w':World):Prop:=∃ (a:DA) (S:Fp),e = .returned (v a.d)∧a.dirty=D∧Dev a L 0 w' S cur 0∧(∀ k,S k→w.heap.size≤k)∧Below w.heap.size w w'
theorem dev_cells {dc:Array Value} {a:DA} {L:Nat} (hs:dc.size=15) (e0:dc[0]?=some (.slice (some ⟨a.pb,0,none⟩) (8 * L) (8 * L))) (e1:dc[1]?=some (.slice (some ⟨a.cb,0,none⟩) (8 * L) a.cc)) (e2:dc[2]?=some (.slice (some ⟨a.lb,0,none⟩) L L)) (e3:dc[11]?=some (.bool false)) (e4:dc[12]?=some (.bool false)) (e5:dc[13]?=some (.int .i64 0)) (e6:dc[14]?=some (.int .u64 0))
  (e7:∀ j,j < 8→dc[3+j]?=some (.pointer (some ⟨a.th j,0,none⟩))):dc=devCells a L 0:=by
 apply Array.ext_getElem?
 intro i
 by_cases hi:i < 15
 ·rcases (show i=0∨i=1∨i=2∨i=3∨i=4∨i=5∨i=6∨i=7∨i=8∨i=9∨i=10∨i=11∨i=12∨i=13∨i=14 by omega) with rfl | rfl | rfl | rfl | rfl | rfl | rfl | rfl | rfl | rfl | rfl | rfl | rfl | rfl | rfl
  ·exact e0
  ·exact e1
  ·exact e2
  ·exact e7 0 (by omega)
  ·exact e7 1 (by omega)
  ·exact e7 2 (by omega)
  ·exact e7 3 (by omega)
  ·exact e7 4 (by omega)
  ·exact e7 5 (by omega)
  ·exact e7 6 (by omega)
  ·exact e7 7 (by omega)
  ·exact e3
  ·exact e4
  ·exact e5
  ·exact e6
 ·rw [Array.getElem?_eq_none (by omega),Array.getElem?_eq_none (by show 15≤i;omega)]
theorem dev_of {w0 w w':World} {L d cb cc lb pb:Nat} {per cs ls:Array Value} {th nt:Nat→Nat} {pl:List Nat} (D:Nat→Prop) (v:Nat→Value) (hL:L≤4096) (hlt:w0.heap.size≤pb) (hper:Blk w pb 32 per) (hps:per.size=8 * L) (hpr:RowU per pl) (hpl:pl.length=8 * L) (hb0:Below w0.heap.size w0 w) (H:OfI w w' pb L d cb cc lb cs ls th nt 8) (h1:cs.size=cc) (h2:8 * L≤cc) (h3:cc≤9223372036854775807)
  (hru:RowU cs pl) (hls:ls=madeCells (Value.agg #[.int .u64 0, .slice none 0 0]).cells (L * 2)) (g1:w.heap.size≤cb) (g2:w.heap.size≤lb) :
  RetNew w0 L D v (fun k=>pl.getD k 0) (.returned (v d)) w':=by
 obtain ⟨⟨dc,hd,hds,e0,e1,e2,e3,e4,e5,e6,e7⟩,hcu,hli,hth,hmp,hbl,hgd,hgt⟩:=H
 have h0:=hb0.size
 have hbw:Below w0.heap.size w0 w':=hb0.trans (hbl.mono h0)
 have hpb:Blk w' pb 32 per:=hper.below hbl hper.lt
 have hdc:=dev_cells (a:=⟨d,pb,cb,lb,nt,th,cc,D⟩) hds e0 e1 e2 e3 e4 e5 e6 e7
 subst hdc
 have hmz:=hmp (by omega)
 have hml:=hmz.lt
 have hpbl:=hper.lt
 have hat:∀ {c:Array Value},RowU c pl→∀ i,i < 8 * L→c[i]?=some (.int .u64 ((pl.getD i 0:Nat):Int)):=fun hr i hi=>by
  rw [hr.2 i (by omega),List.getD_eq_getElem?_getD,List.getElem?_eq_getElem (by omega)]
  rfl
 refine ⟨⟨d,pb,cb,lb,nt,th,cc,D⟩,fun k=>w0.heap.size≤k∧k < w'.heap.size,rfl,rfl,⟨⟨fun _=>0,fun _=>0,fun _ => .slice none 0 0,fun _=>[],fun k=>pl.getD k 0,fun _=>[]⟩,0,per,cs,ls,?_,⟨[],hmz,fun p hp=>(by cases hp),fun i h=>h.elim⟩,fun k _ _ e he=>(by cases he)⟩,fun k hk=>hk.1,hbw⟩
 exact {
  dev:=hd
  perB:=hpb
  perS:=hps
  perI:=fun i hi=>⟨_,hat hpr i hi⟩
  curB:=hcu
  curS:=h1
  curL:=h2
  curM:=h3
  curI:=fun i hi=>hat hru i hi
  linB:=hli
  linS:=by rw [hls,size_madeCells];omega
  linD:=fun i hi=>by rw [hls];exact (made_line L i hi).1
  linH:=fun i hi=>by rw [hls];exact (made_line L i hi).2
  own:=fun i hi=>World.ownsRow_nil _ _ _ _
  ok:=fun i hi k hk=>absurd hk (by simp)
  few:=fun i hi=>Nat.le_refl _
  apart:=fun i j g hi hj h=>by cases h
  thr:=hth
  sd:=⟨by show w0.heap.size≤d;omega,hd.lt⟩
  sp:=⟨hlt,hpb.lt⟩
  sc:=⟨by show w0.heap.size≤cb;omega,hcu.lt⟩
  sl:=⟨by show w0.heap.size≤lb;omega,hli.lt⟩
  sn:=⟨by have:=(hgt 0 (by omega)).2;show w0.heap.size≤nt 0;omega,hml⟩
  st:=fun j hj=>⟨by have:=(hgt j hj).1;show w0.heap.size≤th j;omega,(hth j hj).lt⟩
  sh:=fun i g hi h=>by cases h
  lt:=fun k hk=>hk.2
  ne:=by show pb≠cb;omega
  hL:=hL
  hT:=by omega
  pv:=fun i hi=>hat hpr i hi
  hx:=fun _ _=>rfl
  lin:=fun _ _ e he=>by cases he
  link:=fun _ _=>rfl }
theorem new_any (D:Nat→Prop) (L:Nat) (h0:0 < L) (hL:L≤4096) (w:World):Calls Tryz.prog 73 #[.int .i64 (L:Int)] w (RetNew w L D (fun d => .tuple #[.pointer (some ⟨d,0,none⟩), .int .i64 0]) (fun _=>0)):=by
 obtain ⟨j0,hj0,hk0,hk1,hk2⟩:=info_parts infoU64
 have hmk:∀ W:World,(Instr.makeSlice 99 (.int .i64 ((8 * L:Nat):Int)) (.int .i64 ((8 * L:Nat):Int))).run Tryz.prog W = .ok (.slice (some ⟨W.heap.size,0,none⟩) (8 * L) (8 * L)) (W.alloc (.cells (madeCells #[.int .u64 0] (8 * L)) 32)):=fun W=>by
  have h:=run_makeSlice (P:=Tryz.prog) W 99 32 j0 (.int .u64 0) Tryz.underlying99 hj0 hk0 .i64 .i64 ((8 * L:Nat):Int) ((8 * L:Nat):Int) (by omega) (by omega) (by rw [hk1];omega) (by rw [hk2];omega) (by omega)
  rw [hk1,Int.toNat_natCast,Nat.mul_one] at h
  exact h
 have HO:=hid (of_any w.heap.size L (List.replicate (8 * L) 0) hL h0 (w.alloc (.cells (madeCells #[.int .u64 0] (8 * L)) 32)) (by
  rw [show (w.alloc (.cells (madeCells #[.int .u64 0] (8 * L)) 32)).heap.size=w.heap.size+1 by simp]
  refine row_reads_at w _ rfl _ (8 * L) 1 32 _ ?_ ?_
  ·refine congrArg (fun x=>Obj.cells x 32) (Array.ext' ?_)
   rw [toList_madeCells_one]
   simp [uCells]
  ·simp [uCells]))
 have HN:Hid (∀ e w',RetOf (w.alloc (.cells (madeCells #[.int .u64 0] (8 * L)) 32)) w.heap.size L (List.replicate (8 * L) 0) e w'→∃ d:Nat,e = .returned (.pointer (some ⟨d,0,none⟩))∧RetNew w L D (fun d => .tuple #[.pointer (some ⟨d,0,none⟩), .int .i64 0]) (fun _=>0) (.returned (.tuple #[.pointer (some ⟨d,0,none⟩), .int .i64 0])) w'):=by
  rintro e w1 ⟨d,cb,cc,lb,cs,ls,th,nt,rfl,h1,h2,h3,h4,h5,h6,h7,h8⟩
  refine ⟨d,rfl,?_⟩
  have hz:(fun k=>(List.replicate (8 * L) 0).getD k 0)=fun _=>0:=funext fun k=>by simp [List.getD_eq_getElem?_getD,List.getElem?_replicate];split <;> rfl
  have hnew:Below w.heap.size w (w.alloc (.cells (madeCells #[.int .u64 0] (8 * L)) 32)):=(Below.refl _ _).alloc (Nat.le_refl _) _
  have h:=dev_of (w0:=w) D (fun d => .tuple #[.pointer (some ⟨d,0,none⟩), .int .i64 0]) hL (Nat.le_refl _) (Blk.new w 32 (madeCells #[.int .u64 0] (8 * L))) (by simp [size_madeCells]) (pl:=List.replicate (8 * L) 0) ⟨by simp [size_madeCells],fun i hi=>by
   have hi2:i < 8 * L:=by simpa using hi
   rw [made_at _ _ _ hi2,List.getElem_replicate]
   congr 1
   show (#[Value.int .u64 0]:Array Value)[i % 1]! = _
   rw [Nat.mod_one]
   rfl⟩ (by simp) hnew h1 h2 h3 h4 h5 h6 h7 h8
  rw [hz] at h
  exact h
 have e1:decide ((L:Int) < 1)=false:=decide_eq_false (by omega)
 have e2:decide ((4096:Int) < (L:Int))=false:=decide_eq_false (by omega)
 have u1:IntKind.i64.wrap ((L:Int) * 8)=((8 * L:Nat):Int):=by rw [IntKind.wrap_i64];omega
 have u2:(L:Int) * 8=((8 * L:Nat):Int):=by omega
 generalize madeCells #[.int .u64 0] (8 * L)=M at *
 generalize 8 * L=N at *
 go_enter Tryz.func73,Tryz.ntmps73
 go_wp2_with (go_at_call 168;refine HO.out.mono ?_;intro e w1 h1;obtain ⟨d,rfl,h2⟩:=HN.out e w1 h1;have HZ:=hid h2;clear h1 h2)
 go_ret2
 exact HZ.out
end
end Go.Proofs.YtfkjjoglnmeciaaGreatDoor
