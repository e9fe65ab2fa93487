/- The walks and laws that the claim leans on, part 12. -/
import Derived.Test.YtnlokpakiambaaaGreatDoorJak
set_option maxRecDepth 100000
set_option maxHeartbeats 16000000
namespace Go.Proofs.YtnlokpakiambaaaGreatDoor
open Go.Lib (hid)
section
open Go.RowKit
theorem infoLine:(Tryz.prog.info? 196).map (fun i=>(i.zero,i.size,i.bytes))=some (some (.agg #[.int .u64 0, .slice none 0 0]),2,32):=by kernel_rfl
def Of1 (w wx:World) (pb L:Nat) (v:Value):Prop:=∃ d cb cc lb cs ls,v = .pointer (some ⟨d,0,none⟩)∧Blk wx d 194 #[.slice (some ⟨pb,0,none⟩) (8 * L) (8 * L), .slice (some ⟨cb,0,none⟩) (8 * L) cc, .slice (some ⟨lb,0,none⟩) L L, .pointer none, .pointer none, .pointer none, .pointer none, .pointer none, .pointer none, .pointer none, .pointer none, .bool false, .bool false, .int .i64 0, .int .u64 0] ∧
 Blk wx cb 23 cs∧cs.size=cc∧8 * L≤cc∧cc≤9223372036854775807∧RowU cs (List.replicate (8 * L) 0)∧Blk wx lb 196 ls∧ls=madeCells (Value.agg #[.int .u64 0, .slice none 0 0]).cells (L * 2)∧Below w.heap.size w wx∧w.heap.size≤cb∧w.heap.size≤lb∧w.heap.size≤d
theorem Blk.new2 (w:World) (o:Obj) (t:TypeId) (cs:Array Value):Blk ((w.alloc o).alloc (.cells cs t)) (w.heap.size+1) t cs:=by
 have h:=Blk.new (w.alloc o) t cs
 rw [show (w.alloc o).heap.size=w.heap.size+1 by simp] at h
 exact h
theorem of_join {w wx:World} {pb L d lb m1 c1:Nat} {A1:Option Addr} (h0:0 < L) (hd:Blk wx d 194 #[.slice (some ⟨pb,0,none⟩) (8 * L) (8 * L), .slice A1 m1 c1, .slice (some ⟨lb,0,none⟩) L L, .pointer none, .pointer none, .pointer none, .pointer none, .pointer none, .pointer none, .pointer none, .pointer none, .bool false, .bool false, .int .i64 0, .int .u64 0]) (ho:wx.ownsRow w.heap.size 23 1 (.slice A1 m1 c1) m1 (uCells (List.replicate (8 * L) 0))) (hm:m1=8 * L)
  (hl:Blk wx lb 196 (madeCells (Value.agg #[.int .u64 0, .slice none 0 0]).cells (L * 2))) (hb:Below w.heap.size w wx) (h1:w.heap.size≤lb) (h2:w.heap.size≤d):Of1 w wx pb L (.pointer (some ⟨d,0,none⟩)):=by
 obtain ⟨g,cap,hve,hgb,hglt⟩:=ho.form (by omega)
 have hA:A1=some ⟨g,0,none⟩:=by injection hve
 subst hA
 obtain ⟨cur,hcb,hcs,hru,hxl⟩:=own_row ho
 have hcap:=own_cap ho
 subst hm
 exact ⟨d,g,c1,lb,cur,_,rfl,hd,hcb,hcs,by omega,by omega,hru,hl,rfl,hb,hgb,h1,h2⟩
structure OfI (w wr:World) (pb L d cb cc lb:Nat) (cs ls:Array Value) (th nt:Nat→Nat) (k:Nat):Prop where
 dev:∃ dc,Blk wr d 194 dc∧dc.size=15∧dc[0]?=some (.slice (some ⟨pb,0,none⟩) (8 * L) (8 * L))∧dc[1]?=some (.slice (some ⟨cb,0,none⟩) (8 * L) cc)∧dc[2]?=some (.slice (some ⟨lb,0,none⟩) L L)∧dc[11]?=some (.bool false)∧dc[12]?=some (.bool false)∧dc[13]?=some (.int .i64 0)∧dc[14]?=some (.int .u64 0)∧∀ j,j < k→dc[3+j]?=some (.pointer (some ⟨th j,0,none⟩))
 cur:Blk wr cb 23 cs
 lin:Blk wr lb 196 ls
 thr:∀ j,j < k→Blk wr (th j) 133 #[.pointer (some ⟨d,0,none⟩), .int .i64 (j:Int), .int .i64 0, .map (some (nt j))]
 map:0 < k→wr.ownsMap Tryz.prog 3 (plainElem Tryz.prog 23) (nt 0) 0 (.map ([]:List (Lit × DataW Unit)))
 below:Below w.heap.size w wr
 gd:w.heap.size≤d
 gt:∀ j,j < k→w.heap.size≤th j∧w.heap.size≤nt j
theorem ofStep {w wr:World} {pb L d cb cc lb:Nat} {cs ls:Array Value} {th nt:Nat→Nat} {k:Nat} (H:OfI w wr pb L d cb cc lb cs ls th nt k) (hk:k < 8) :
  OfI w (((wr.setCell ⟨d,3+k,none⟩ (.pointer (some ⟨wr.heap.size+1,0,none⟩))).alloc (.map #[] 0)).alloc (.cells #[.pointer (some ⟨d,0,none⟩), .int .i64 (k:Int), .int .i64 0, .map (some wr.heap.size)] 133)) pb L d cb cc lb cs ls (fun j=>if j=k then wr.heap.size+1 else th j) (fun j=>if j=k then wr.heap.size else nt j) (k+1):=by
 obtain ⟨⟨dc,hd,hds,e0,e1,e2,e3,e4,e5,e6,e7⟩,hcu,hli,hth,hmp,hbl,hgd,hgt⟩:=H
 have hs:(wr.setCell ⟨d,3+k,none⟩ (.pointer (some ⟨wr.heap.size+1,0,none⟩))).heap.size=wr.heap.size:=by simp
 have hc:Chg (fun g=>g=d) wr (((wr.setCell ⟨d,3+k,none⟩ (.pointer (some ⟨wr.heap.size+1,0,none⟩))).alloc (.map #[] 0)).alloc (.cells #[.pointer (some ⟨d,0,none⟩), .int .i64 (k:Int), .int .i64 0, .map (some wr.heap.size)] 133)):=(((Chg.refl (fun g=>g=d) wr).setCell (p:=⟨d,3+k,none⟩) (.inl rfl) _).alloc _).alloc _
 refine ⟨⟨_,((hd.set_ (3+k) _).alloc _).alloc _,by simpa using hds,?_,?_,?_,?_,?_,?_,?_,?_⟩,hc.blk hcu (fun e=>hcu.ne_ hd (by decide) e),hc.blk hli (fun e=>hli.ne_ hd (by decide) e),?_,?_,?_,hgd,?_⟩
 ·rw [Array.getElem?_setIfInBounds_ne (by omega)];exact e0
 ·rw [Array.getElem?_setIfInBounds_ne (by omega)];exact e1
 ·rw [Array.getElem?_setIfInBounds_ne (by omega)];exact e2
 ·rw [Array.getElem?_setIfInBounds_ne (by omega)];exact e3
 ·rw [Array.getElem?_setIfInBounds_ne (by omega)];exact e4
 ·rw [Array.getElem?_setIfInBounds_ne (by omega)];exact e5
 ·rw [Array.getElem?_setIfInBounds_ne (by omega)];exact e6
 ·intro j hj
  by_cases hjk:j=k
  ·subst hjk
   rw [Array.getElem?_setIfInBounds_self_of_lt (by omega)]
   simp
  ·rw [Array.getElem?_setIfInBounds_ne (by omega),e7 j (by omega)]
   simp [hjk]
 ·intro j hj
  by_cases hjk:j=k
  ·subst hjk
   have h:=Blk.new2 (wr.setCell ⟨d,3+j,none⟩ (.pointer (some ⟨wr.heap.size+1,0,none⟩))) (.map #[] 0) 133 #[.pointer (some ⟨d,0,none⟩), .int .i64 (j:Int), .int .i64 0, .map (some wr.heap.size)]
   rw [hs] at h
   simpa using h
  ·have h:=hc.blk (hth j (by omega)) (fun e=>(hth j (by omega)).ne_ hd (by decide) e)
   simpa [hjk] using h
 ·intro _
  by_cases hk0:0=k
  ·subst hk0
   have h:=World.ownsMap_made (H:=Unit) (wr.setCell ⟨d,3+0,none⟩ (.pointer (some ⟨wr.heap.size+1,0,none⟩))) Tryz.prog 3 (plainElem Tryz.prog 23)
   rw [hs] at h
   have h2:=((Chg.refl Fp.no _).alloc (.cells #[.pointer (some ⟨d,0,none⟩), .int .i64 ((0:Nat):Int), .int .i64 0, .map (some wr.heap.size)] 133)).map h (fun h=>h)
   simpa using h2
  ·have h:=hc.map (hmp (by omega)) (fun e=>map_ne_blk (hmp (by omega)) hd e)
   simpa [hk0] using h
 ·have h1:=(hbl.setCell (p:=⟨d,3+k,none⟩) hgd (.pointer (some ⟨wr.heap.size+1,0,none⟩)))
  exact (h1.alloc h1.size _).alloc (Nat.le_trans h1.size (by simp)) _
 ·intro j hj
  have:=hbl.size
  by_cases hjk:j=k
  ·simp [hjk];omega
  ·simpa [hjk] using hgt j (by omega)
def RetOf (w:World) (pb L:Nat) (e:Ending) (w':World):Prop:=∃ (d cb cc lb:Nat) (cs ls:Array Value) (th nt:Nat→Nat),e = .returned (.pointer (some ⟨d,0,none⟩))∧OfI w w' pb L d cb cc lb cs ls th nt 8∧cs.size=cc∧8 * L≤cc∧cc≤9223372036854775807∧RowU cs (List.replicate (8 * L) 0)∧ls=madeCells (Value.agg #[.int .u64 0, .slice none 0 0]).cells (L * 2)∧w.heap.size≤cb∧w.heap.size≤lb
theorem of_any (pb L:Nat) (hL:L≤4096) (h0:0 < L) (w:World) (hp:Reads w w.heap.size 1 (some ⟨pb,0,none⟩) (8 * L) (uCells (List.replicate (8 * L) 0))) :
  Calls Tryz.prog 142 #[.slice (some ⟨pb,0,none⟩) (8 * L) (8 * L)] w (RetOf w pb L):=by
 obtain ⟨j0,hj0,hk0,hk1,hk2⟩:=info_parts infoLine
 have hmk:∀ W:World,(Instr.makeSlice 191 (.int .i64 (L:Int)) (.int .i64 (L:Int))).run Tryz.prog W = .ok (.slice (some ⟨W.heap.size,0,none⟩) L L) (W.alloc (.cells (madeCells (Value.agg #[.int .u64 0, .slice none 0 0]).cells (L * 2)) 196)):=fun W=>by
  have h:=run_makeSlice (P:=Tryz.prog) W 191 196 j0 _ Tryz.underlying191 hj0 hk0 .i64 .i64 (L:Int) (L:Int) (by omega) (by omega) (by rw [hk1];omega) (by rw [hk2];omega) (by omega)
  rw [hk1] at h
  simpa using h
 have HJ:Hid (∀ (wx:World) (d lb m1 c1:Nat) (A1:Option Addr),_):=fun wx d lb m1 c1 A1=>of_join (w:=w) (wx:=wx) (pb:=pb) (d:=d) (lb:=lb) (m1:=m1) (c1:=c1) (A1:=A1) h0
 generalize madeCells (Value.agg #[.int .u64 0, .slice none 0 0]).cells (L * 2)=M at *
 have HC:=hid (fun (W:World) (hW:Below w.heap.size w W)=>cloneU_any ⟨pb,0,none⟩ (8 * L) (8 * L) _ W ((hp.below hW).more hW.size) (by omega))
 generalize hN:8 * L=N at *
 have d1:(N:Int).tdiv 8=(L:Int):=by rw [Int.tdiv_eq_ediv_of_nonneg (by omega)];omega
 have d2:(N:Int) / 8=(L:Int):=by omega
 have wL:IntKind.i64.wrap (L:Int)=(L:Int):=by rw [IntKind.wrap_i64];omega
 have HN:=hid hN
 clear hN hp
 go_enter Tryz.func142,Tryz.ntmps142
 go_wp2_with fail
 go_cut [3] from 5 to 13 (fun v wx=>Hid (Of1 w wx pb L v))
 case first =>
  go_region_with (go_at_call 185;refine (HC.out _ (by first | exact (Below.refl _ _).drew | exact (Below.refl _ _).drew.alloc (Nat.le_refl _) _)).mono ?_;rintro e w1 ⟨A1,m1,c1,rfl,hm1,ho1,hb1⟩;have HO1:=hid ho1;have HB1:=hid hb1;have HM1:=hid hm1;clear ho1 hb1 hm1)
  ·go_wp2_with fail
   go_meet
   exact HJ.out _ _ _ _ _ _ (Blk.new2 _ _ _ _) ((HO1.out.alloc _).alloc _) HM1.out ((Blk.new _ _ _).alloc _) (((Below.refl w.heap.size w).drew.trans HB1.out).alloc HB1.out.size _ |>.alloc (Nat.le_trans HB1.out.size (by simp)) _) HB1.out.size (Nat.le_trans HB1.out.size (by simp))
  ·go_wp2_with fail
   go_meet
   have hb:Below w.heap.size w w1:=((Below.refl w.heap.size w).drew.alloc (Nat.le_refl _) _).trans (HB1.out.mono (by simp))
   exact HJ.out _ _ _ _ _ _ (Blk.new _ _ _) ((own_le HO1.out (by simp)).alloc _) HM1.out (((Blk.new w.drew _ _).below HB1.out (Blk.new w.drew _ _).lt).alloc _) (hb.alloc hb.size _) (Nat.le_refl _) hb.size
 case rest =>
  obtain ⟨d,cb,cc,lb,cs,ls,rfl,hd,hc,hcs,hc1,hc2,hru,hl,hls,hb,g1,g2,g3⟩:=hcut.out
  have HI0:Hid (OfI w wc pb L d cb cc lb cs ls (fun _=>0) (fun _=>0) 0):=⟨⟨_,hd,rfl,rfl,rfl,rfl,rfl,rfl,rfl,rfl,fun j hj=>by omega⟩,hc,hl,fun j hj=>by omega,fun h=>by omega,hb,g3,fun j hj=>by omega⟩
  have HF:=hid (show cs.size=cc∧8 * L≤cc∧cc≤9223372036854775807∧RowU cs (List.replicate (8 * L) 0)∧ls=madeCells (Value.agg #[.int .u64 0, .slice none 0 0]).cells (L * 2)∧w.heap.size≤cb∧w.heap.size≤lb from ⟨hcs,hc1,hc2,hru,hls,g1,g2⟩)
  clear hcut hd hc hru hl hls hb HC HJ hmk d1 d2 wL
  go_wp2
  go_loopw [14] (fun i wr=>∃ (k:Nat) (th nt:Nat→Nat),k≤8∧i = .int .i64 k∧Hid (OfI w wr pb L d cb cc lb cs ls th nt k)) (fun i _=>8 - (RowKit.intOf i).toNat)
  case atStart=>exact ⟨0,_,_,Nat.zero_le _,rfl,HI0⟩
  case round =>
   clear HI0
   obtain ⟨k,th,nt,hk,rfl,H⟩:=hrel
   by_cases hlt:k < 8
   ·obtain ⟨dc,hdb,hds,_⟩:=H.out.dev
    obtain ⟨u0,hu0⟩:∃ u,dc[3+k]?=some u:=⟨_,Array.getElem?_eq_getElem (by omega)⟩
    have c0:wr.cell? ⟨d,3+k,none⟩=some u0:=by rw [hdb.cell];exact hu0
    have c1:wr.frozen? ⟨d,3+k,none⟩=false:=hdb.frozen _
    have hdl:=hdb.lt
    have hmm:∀ W:World,(Instr.makeMap 131 none).run Tryz.prog W = .ok (.map (some W.heap.size)) (W.alloc (.map #[] 0)):=fun _=>rfl
    have hz0:(0:Int)≤(k:Int):=by omega
    have hz1:(k:Int) < 8:=by omega
    have HN1:=hid (ofStep H.out hlt)
    clear H hdb hds hu0
    go_wp2
    exact ⟨⟨k+1,_,_,by omega,by go_num,HN1⟩,by simp [RowKit.intOf];omega⟩
   ·obtain rfl:k=8:=by omega
    go_wp2
    go_ret
    exact ⟨d,cb,cc,lb,cs,ls,th,nt,rfl,H.out,HF.out⟩
end
section
open Go.RowKit Go.Maps
theorem own_off {w:World} {S:Fp} {base:Nat} {e:TypeId} {size m c n:Nat} {A:Option Addr} {xs:List Value} (ho:w.ownsRow base e size (.slice A m c) n xs) (hb:∀ k,S k→k < base):∀ ad,A=some ad→¬ S ad.block:=fun ad had hs=>by
 rcases ho.2 with ⟨hv,_⟩ | ⟨g,cap,cs,hv,hge,_⟩
 ·injection hv with h1;rw [h1] at had;cases had
 ·injection hv with h1
  rw [h1] at had
  injection had with h2
  subst h2
  have:=hb _ hs
  simp at this
  omega
theorem wrS_out (s:Nat):∀ (l:List (Nat × Nat)) (n k:Nat) (cur:Nat→Nat),(k < 8 * s+8+2 * n∨8 * s+8+2 * (n+l.length)≤k)→wrS cur (entW (64 * s) n l) k=cur k
 | [],n,k,cur,_=>rfl
 | e :: l,n,k,cur,h=>by
  simp only [List.length_cons] at h
  show wrS (upd (upd cur ((64 * s+64+16 * n) / 8) e.1) ((64 * s+64+16 * n+8) / 8) e.2) (entW (64 * s) (n+1) l) k=_
  rw [wrS_out s l (n+1) k _ (by omega)]
  simp only [upd]
  rw [if_neg (by omega),if_neg (by omega)]
end
section
open Go.RowKit Go.Maps Go.Shelf
theorem wrS_other:∀ (l:List (Nat × Nat)) (cur:Nat→Nat) (k:Nat),(∀ e∈l,e.1 / 8≠k)→wrS cur l k=cur k
 | [],_,_,_=>rfl
 | e :: l,cur,k,h=>by
  show wrS (upd cur (e.1 / 8) e.2) l k=cur k
  rw [wrS_other l _ k (fun x hx=>h x (by simp [hx]))]
  have:=h e (by simp)
  simp [upd];omega
theorem wrS_get:∀ (l:List (Nat × Nat)) (cur:Nat→Nat),(l.map (·.1)).Nodup→(∀ e∈l,e.1 % 8=0)→∀ e∈l,wrS cur l (e.1 / 8)=e.2
 | [],_,_,_,_,h=>by simp at h
 | x :: l,cur,hn,ha,e,he=>by
  show wrS (upd cur (x.1 / 8) x.2) l (e.1 / 8)=e.2
  simp only [List.map_cons,List.nodup_cons] at hn
  rcases List.mem_cons.1 he with rfl | he
  ·rw [wrS_other l _ _ (fun y hy h=>hn.1 (by
    have h1:=ha y (by simp [hy]);have h2:=ha e (by simp)
    have:y.1=e.1:=by omega
    exact List.mem_map.2 ⟨y,hy,this⟩))]
   simp [upd]
  ·exact wrS_get l _ hn.2 (fun y hy=>ha y (by simp [hy])) e he
theorem wrS_bnd:∀ (l:List (Nat × Nat)) (cur:Nat→Nat),(∀ i,cur i < 18446744073709551616)→(∀ e∈l,e.2 < 18446744073709551616)→∀ i,wrS cur l i < 18446744073709551616
 | [],_,h,_,i=>h i
 | x :: l,cur,h,hl,i=>wrS_bnd l (upd cur (x.1 / 8) x.2) (fun j=>by
   unfold upd
   split
   ·exact hl x (by simp)
   ·exact h j) (fun e he=>hl e (by simp [he])) i
section
variable {cur base:Nat→Nat} {D:DataW Unit} {ws:List (Nat × Nat)}
end
end
section
open Go.RowKit
def RetSum32 (w:World) (e:Ending) (w':World):Prop:=∃ v:Nat,v < 4294967296∧e = .returned (.int .u32 (v:Int))∧w=w'
theorem words_any (A:Option Addr) (n cap B:Nat) (xs:List Nat) (w:World) (hrd:Reads w B 1 A n (uCells xs)) (hv:∀ x∈xs,x < 18446744073709551616) (hn:n≤1000000) (ht:Tab w) :
  Calls Tryz.prog 125 #[.slice A n cap] w (RetSum32 w):=by
 have HR:=hid hrd
 have HT:=hid ht
 have HV:Hid (∀ k (hk:k < xs.length),xs[k] < 18446744073709551616):=hid (fun k hk=>hv _ (List.getElem_mem hk))
 have uc:IntKind.u32.signed=false:=rfl
 clear hrd hv ht
 go_enter Tryz.func125,Tryz.ntmps125
 go_wp2
 go_loopw [3,8] (fun r i wr=>∃ k s:Nat,k≤n∧s < 4294967296∧i = .int .i64 (k:Int)∧r = .int .u32 (s:Int)∧Hid (w=wr)) (fun _ i _=>n - (Go.RowKit.intOf i).toNat)
 case atStart=>exact ⟨0,4294967295,Nat.zero_le _,by omega,by go_num,by go_num,hid rfl⟩
 case round =>
  obtain ⟨k,s,hk,hs,rfl,rfl,hw⟩:=hrel
  have hw:=hw.out
  subst hw
  by_cases hlt:k < n
  ·obtain ⟨hkl,b,off,hA,hbB,q0⟩:=u_facts HR.out hlt
   subst hA
   have hx:=HV.out k hkl
   have hz5:(0:Int)≤(k:Int):=by omega
   have hz6:(k:Int) < (n:Int):=by omega
   generalize xs[k]=x at *
   go_wp2
   clear q0
   go_loopw [3,5,12] (fun r y i wr=>∃ j s z:Nat,j≤8∧s < 4294967296∧z < 18446744073709551616∧i = .int .i64 (j:Int)∧r = .int .u32 (s:Int)∧y = .int .u64 (z:Int)∧Hid (w=wr)) (fun _ _ i _=>8 - (Go.RowKit.intOf i).toNat)
   case atStart=>exact ⟨0,s,x,by omega,hs,hx,by go_num,rfl,rfl,hid rfl⟩
   case round =>
    clear hs hx
    obtain ⟨j,s,z,hj,hs,hz,rfl,rfl,rfl,hw⟩:=hrel
    have hw:=hw.out
    subst hw
    by_cases h8:j < 8
    ·have e1:IntKind.u8.wrap (z:Int)=((z % 256:Nat):Int):=by rw [IntKind.wrap_u8];omega
     have HS:=hid (step_any s (z % 256) hs (by omega) w HT.out)
     have hst:=Crc.step_lt hs (show z % 256 < 256 by omega)
     generalize z % 256=by_ at *
     generalize Crc.step s by_=s2 at *
     have hz8:(z:Int) / 256=((z / 256:Nat):Int):=by omega
     have hz9:z / 256 < 18446744073709551616:=by omega
     generalize z / 256=z2 at *
     go_wp2_with fail
     refine HS.out.mono ?_
     rintro e w1 ⟨rfl,rfl⟩
     go_wp2
     go_roundw
     case rel=>exact ⟨j+1,s2,z2,by omega,hst,hz9,by go_num,rfl,rfl,hid trivial⟩
     case measure=>simp [Go.RowKit.intOf];omega
    ·have h8':j=8:=by omega
     subst h8'
     go_wp2
     go_roundw
     case rel =>
      first
       | exact ⟨k+1,s,by omega,hs,by go_num,rfl,hid trivial⟩
       | (
         repeat apply Exists.intro
         refine ⟨?_,trivial⟩
         exact ⟨k+1,s,by omega,hs,by go_num,rfl,hid trivial⟩)
       | (
         refine ⟨_,?_⟩
         exact ⟨k+1,s,by omega,hs,by go_num,rfl,hid trivial⟩)
     case measure=>simp [Go.RowKit.intOf];omega
  ·have hkn:k=n:=by omega
   subst hkn
   have hx:=u32_not s hs
   have hlt2:s ^^^ Crc.ones < 4294967296:=Crc.xor_lt hs (by decide)
   generalize s ^^^ Crc.ones=v at *
   go_wp2
   go_ret
   exact ⟨v,hlt2,by first | rfl | (rw [hx]),rfl⟩
end
section
open Go.RowKit
def unpB (xs:List Nat) (n:Nat):List Nat:=(List.range n).map fun i=>xs.getD (i / 8) 0 / 256 ^ (i % 8) % 256
theorem unpB_len (xs:List Nat) (n:Nat):(unpB xs n).length=n:=by simp [unpB]
theorem unpB_pack {p:List Nat} (hp:∀ b∈p,b < 256):unpB (packW p) p.length=p:=by
 apply List.ext_getElem
 ·simp [unpB]
 ·intro i h1 h2
  obtain ⟨x,hx,he⟩:=packW_byte hp h2
  simp only [unpB,List.getElem_map,List.getElem_range]
  rw [List.getD_eq_getElem?_getD,hx]
  exact he
def unpBad (xs:List Nat) (n:Nat):Bool:=decide (n % 8≠0) && decide (xs.getD (n / 8) 0 / 256 ^ (n % 8)≠0)
theorem unpBad_pack {p:List Nat} (hp:∀ b∈p,b < 256):unpBad (packW p) p.length=false:=by
 unfold unpBad
 by_cases h:p.length % 8=0
 ·simp [h]
 ·have e:(packW p).getD (p.length / 8) 0=lev ((p.drop (8 * (p.length / 8))).take 8):=by
   rw [List.getD_eq_getElem?_getD]
   unfold packW
   rw [List.getElem?_map,List.getElem?_range (by omega)]
   rfl
  have hl:((p.drop (8 * (p.length / 8))).take 8).length=p.length % 8:=by simp;omega
  have h1:=lev_lt ((p.drop (8 * (p.length / 8))).take 8) (fun b hb=>hp b (List.mem_of_mem_drop (List.mem_of_mem_take hb)))
  rw [hl] at h1
  rw [e,Nat.div_eq_of_lt h1]
  simp
def RetB (w:World) (l:List Nat) (e:Ending) (w':World):Prop:=∃ A m c,e = .returned (.tuple #[.slice A m c, .int .i64 0])∧m=l.length∧Reads w' w'.heap.size 1 A m (u8s l)∧(∀ ad,A=some ad→w.heap.size≤ad.block)∧Below w.heap.size w w'
def RetUnp (w:World) (xs:List Nat) (n:Nat) (e:Ending) (w':World):Prop:=if unpBad xs n=true then e = .returned (.tuple #[.slice none 0 0, .int .i64 11])∧Below w.heap.size w w' else RetB w (unpB xs n) e w'
theorem infoU8b:(Tryz.prog.info? 5).map (fun i=>(i.zero,i.size,i.bytes))=some (some (.int .u8 0),1,1):=by kernel_rfl
theorem makeB (n:Nat) (hn:n≤1000000) (W:World):(Instr.makeSlice 60 (.int .i64 (n:Int)) (.int .i64 (n:Int))).run Tryz.prog W = .ok (.slice (some ⟨W.heap.size,0,none⟩) n n) (W.alloc (.cells (madeCells #[.int .u8 0] n) 5)):=by
 obtain ⟨j0,hj0,hk0,hk1,hk2⟩:=info_parts infoU8b
 have h:=run_makeSlice (P:=Tryz.prog) W 60 5 j0 (.int .u8 0) Tryz.underlying60 hj0 hk0 .i64 .i64 (n:Int) (n:Int) (by omega) (by omega) (by rw [hk1];omega) (by rw [hk2];omega) (by omega)
 rw [hk1,Int.toNat_natCast,Nat.mul_one] at h
 exact h
theorem unpack_any (A:Option Addr) (q c n:Nat) (xs:List Nat) (w:World) (h:Reads w w.heap.size 1 A q (uCells xs)) (hx:∀ x∈xs,x < 18446744073709551616) (hn:n≤100000) (hq:(n+7) / 8=q) :
  Calls Tryz.prog 199 #[.slice A q c, .int .i64 (n:Int)] w (RetUnp w xs n):=by
 have hl0:xs.length=q:=by have:=h.1;simp [uCells] at this;omega
 have HW:=hid (wordsOf_any n hn)
 rw [hq] at HW
 have HR:=hid h
 have HX:=hid hx
 have HL:=hid hl0
 have HQ:=hid hq
 have hmk:=makeB n (by omega)
 have hq8:n≤8 * q:=by omega
 have hq9:q≤100000:=by omega
 have hnn:decide ((n:Int) < 0)=false:=decide_eq_false (by omega)
 have HC:Hid (unpBad xs n=true→n % 8≠0):=hid (fun hb=>by unfold unpBad at hb;simp at hb;exact hb.1)
 clear h hx hl0
 have HI:Hid (n % 8≠0→∃ (j b off:Nat),(q:Int) - 1=(j:Int)∧j < q∧A=some ⟨b,off,none⟩∧w.cell? ⟨b,off+j,none⟩=some (.int .u64 (xs.getD (n / 8) 0:Int))∧xs.getD (n / 8) 0 < 18446744073709551616∧((((xs.getD (n / 8) 0:Nat):Int) / 2 ^ (n % 8 * 8)) != 0)=unpBad xs n):=hid (fun h8=>by
  have hj:n / 8 < q:=by omega
  obtain ⟨hl,b,off,hA,hbB,f0⟩:=u_facts HR.out hj
  have e:xs.getD (n / 8) 0=xs[n / 8]:=by rw [List.getD_eq_getElem?_getD,List.getElem?_eq_getElem hl];rfl
  refine ⟨n / 8,b,off,by omega,hj,hA,by rw [e];exact f0,by rw [e];exact HX.out _ (List.getElem_mem hl),?_⟩
  have e2:(((xs.getD (n / 8) 0:Nat):Int) / 2 ^ (n % 8 * 8))=((xs.getD (n / 8) 0 / 256 ^ (n % 8):Nat):Int):=by
   rw [show (256:Nat)=2 ^ 8 by decide,← Nat.pow_mul,Nat.mul_comm 8 (n % 8)]
   push_cast
   rfl
  rw [e2]
  unfold unpBad
  generalize xs.getD (n / 8) 0 / 256 ^ (n % 8)=z
  by_cases hz:z=0
  ·subst hz;simp
  ·have h1:(((z:Nat):Int) != 0)=true:=by rw [bne,beq_eq_false_iff_ne.2 (by omega)];rfl
   rw [h1,decide_eq_true h8,decide_eq_true hz];rfl)
 by_cases hb:unpBad xs n=true
 ·have h8:=HC.out hb
  obtain ⟨j,b,off,ej,hjq,hA,f0,hx64,hz⟩:=HI.out h8
  subst hA
  rw [hb] at hz
  have HBd:=hid hb
  have e1:(((n:Int) % 8) != 0)=true:=by rw [bne,beq_eq_false_iff_ne.2 (by omega)];rfl
  have ej2:wrap64 ((q:Int) - 1)=(j:Int):=by rw [ej];exact IntWalk.wrap64_in _ (by omega)
  generalize xs.getD (n / 8) 0=z at *
  have hj0:(0:Int)≤(j:Int):=by omega
  have hj1:(j:Int) < (q:Int):=by omega
  clear HI HC hb h8
  go_enter Tryz.func199,Tryz.ntmps199
  go_wp2_with (go_at_call 232;refine (HW.out _).mono ?_;rintro e w1 ⟨rfl,rfl⟩)
  go_ret2
  unfold RetUnp
  rw [if_pos HBd.out]
  exact ⟨rfl,Below.refl _ _⟩
 ·have HNB:=hid hb
  go_enter Tryz.func199,Tryz.ntmps199
  go_upto_region 5 with (go_at_call 232;refine (HW.out _).mono ?_;rintro e w1 ⟨rfl,rfl⟩)
  go_cut [31] from 15 to 31 (fun v wx=>v = .bool false∧Hid (wx=w))
  case first =>
   by_cases h8:n % 8=0
   ·have e1:(((n:Int) % 8) != 0)=false:=by rw [bne,beq_iff_eq.2 (by omega)];rfl
    clear HI HC hb
    go_wp2_with fail
    go_meet
    exact ⟨rfl,hid rfl⟩
   ·obtain ⟨j,b,off,ej,hjq,hA,f0,hx64,hz⟩:=HI.out h8
    subst hA
    have hbf:unpBad xs n=false:=by simpa using hb
    rw [hbf] at hz
    have e1:(((n:Int) % 8) != 0)=true:=by rw [bne,beq_eq_false_iff_ne.2 (by omega)];rfl
    have ej2:wrap64 ((q:Int) - 1)=(j:Int):=by rw [ej];exact IntWalk.wrap64_in _ (by omega)
    generalize xs.getD (n / 8) 0=z at *
    have hj0:(0:Int)≤(j:Int):=by omega
    have hj1:(j:Int) < (q:Int):=by omega
    clear HI HC hb h8
    go_wp2_with fail
    go_meet
    exact ⟨rfl,hid rfl⟩
  case rest =>
   obtain ⟨rfl,hwc⟩:=hcut
   have hw:=hwc.out.symm
   subst hw
   clear hwc HI HC hb
   go_wp2
   go_loopw [36] (fun i wr=>∃ k:Nat,k≤n∧i = .int .i64 (k:Int)∧Hid (∃ cs,Blk wr w.heap.size 5 cs∧cs.size=n∧∀ j,j < k→cs[j]?=some (.int .u8 ((xs.getD (j / 8) 0 / 256 ^ (j % 8) % 256:Nat):Int)))∧Hid (Below w.heap.size w wr)) (fun i _=>n - (Go.RowKit.intOf i).toNat)
   case atStart =>
    exact ⟨0,Nat.zero_le _,rfl,hid ⟨_,Blk.new w _ _,size_madeCells _ _,fun j hj=>absurd hj (by omega)⟩,hid ((Below.refl _ _).alloc (Nat.le_refl _) _)⟩
   case round =>
    obtain ⟨k,hk,rfl,HC,HB⟩:=hrel
    by_cases hlt:k < n
    ·have hkq:k / 8 < q:=by omega
     obtain ⟨hl,b,off,hA,hbB,f0⟩:=u_facts (HR.out.below HB.out) hkq
     subst hA
     obtain ⟨cs,hB,hsz,hcs⟩:=HC.out
     have e:xs.getD (k / 8) 0=xs[k / 8]:=by rw [List.getD_eq_getElem?_getD,List.getElem?_eq_getElem hl];rfl
     have hx64:=HX.out _ (List.getElem_mem hl)
     rw [← e] at f0 hx64
     have e2:(((xs.getD (k / 8) 0:Nat):Int) / 2 ^ (k % 8 * 8)) % 256=((xs.getD (k / 8) 0 / 256 ^ (k % 8) % 256:Nat):Int):=by
      rw [show (256:Nat) ^ (k % 8)=2 ^ (k % 8 * 8) by rw [show (256:Nat)=2 ^ 8 by decide,← Nat.pow_mul,Nat.mul_comm 8 (k % 8)]]
      push_cast
      rfl
     have hc0:k < cs.size:=by omega
     have HN:Hid (∃ cs',Blk (wr.setCell ⟨w.heap.size,k,none⟩ (.int .u8 ((xs.getD (k / 8) 0 / 256 ^ (k % 8) % 256:Nat):Int))) w.heap.size 5 cs'∧cs'.size=n∧∀ j,j < k+1→cs'[j]?=some (.int .u8 ((xs.getD (j / 8) 0 / 256 ^ (j % 8) % 256:Nat):Int))):=hid ⟨_,hB.set_ k _,by simp [hsz],fun j hj=>by
      rw [Array.getElem?_setIfInBounds]
      by_cases e:k=j
      ·subst e
       simp [hc0]
      ·rw [if_neg e,hcs j (by omega)]⟩
     have HB2:Hid (Below w.heap.size w (wr.setCell ⟨w.heap.size,k,none⟩ (.int .u8 ((xs.getD (k / 8) 0 / 256 ^ (k % 8) % 256:Nat):Int)))):=hid (HB.out.setCell (Nat.le_refl _) _)
     have f1:wr.cell? ⟨w.heap.size,k,none⟩=some cs[k]:=by rw [hB.cell,Array.getElem?_eq_getElem hc0]
     have z1:wr.frozen? ⟨w.heap.size,k,none⟩=false:=hB.frozen _
     have HE2:=hid e2
     clear e hcs HC hbB hB e2
     generalize cs[k]=ck at *
     generalize xs.getD (k / 8) 0=z at *
     generalize z / 256 ^ (k % 8) % 256=r at *
     have hz5:(0:Int)≤(k:Int):=by omega
     have hz6:(k:Int) < (n:Int):=by omega
     have hz7:(k:Int) / 8 < (q:Int):=by omega
     go_wp2
     go_roundw
     case rel =>
      first
       | (
         refine ⟨k+1,by omega,by go_num,?_,?_⟩
         ·rw [HE2.out];exact HN
         ·rw [HE2.out];exact HB2)
       | (
         repeat apply Exists.intro
         refine ⟨?_,rfl⟩
         refine ⟨k+1,by omega,by go_num,?_,?_⟩
         ·rw [HE2.out];exact HN
         ·rw [HE2.out];exact HB2)
     case measure=>simp [Go.RowKit.intOf];omega
    ·have hkn:k=n:=by omega
     have HF:Hid (RetUnp w xs n (.returned (.tuple #[.slice (some ⟨w.heap.size,0,none⟩) n n, .int .i64 0])) wr):=hid (by
      obtain ⟨cs,hB,hsz,hcs⟩:=HC.out
      unfold RetUnp
      rw [if_neg HNB.out]
      refine ⟨_,n,n,rfl,(unpB_len _ _).symm,reads_of_blk hB ?_ ?_,fun ad h=>by injection h with h;subst h;exact Nat.le_refl _,HB.out⟩
      ·simp [u8s,unpB_len]
      ·intro j u hu
       have hj:j < n:=by
        have h1:=(List.getElem?_eq_some_iff.1 hu).1
        simp [u8s,unpB_len] at h1
        omega
       rw [hcs j (by omega),← hu]
       simp [u8s,unpB,hj])
     have hd1:decide ((k:Int) < (n:Int))=false:=decide_eq_false (by omega)
     have hd2:decide (k < n)=false:=decide_eq_false hlt
     clear hkn hlt hk HC
     go_wp2
     go_ret2
     exact HF.out
end
section
open Go.RowKit
def uA (l:List Nat):Array Value:=(uCells l).toArray
theorem uA_at {l:List Nat} {i:Nat} (h:i < l.length):(uA l)[i]?=some (.int .u64 (l[i]:Int)):=by
 unfold uA uCells
 simp [h]
theorem uA_set {l:List Nat} {i v:Nat}:(uA l).setIfInBounds i (.int .u64 (v:Int))=uA (l.set i v):=by
 unfold uA uCells
 simp [List.map_set]
theorem uA_reads {w:World} {g:Nat} {l:List Nat} (h:Blk w g 23 (uA l)):Reads w w.heap.size 1 (some ⟨g,0,none⟩) l.length (uCells l) :=
 reads_of_blk h (by simp [uCells]) (fun j u hu=>by unfold uA;simpa using hu)
end
section
open Go.RowKit Go.Maps
def allZ (l:List Nat):Bool:=l.all (fun x=>x == 0)
theorem zeros_any (A:Option Addr) (n c:Nat) (xs:List Nat) (w:World) (h:Reads w w.heap.size 1 A n (uCells xs)) (hn:n≤100000) :
  Calls Tryz.prog 317 #[.slice A n c] w fun e w'=>e = .returned (.bool (allZ xs))∧Below w.heap.size w w':=by
 have hl0:xs.length=n:=by have:=h.1;simp [uCells] at this;omega
 have HR:=hid h
 have HL:=hid hl0
 have HB0:Hid (Below w.heap.size w w):=Below.refl _ _
 have HN0:Hid (allZ xs=allZ (xs.drop 0)):=hid (by rw [List.drop_zero])
 clear h hl0
 go_enter Tryz.func317,Tryz.ntmps317
 go_wp2
 go_loopw [7] (fun v wr=>∃ k:Nat,k≤n∧v = .int .i64 (k:Int)∧Hid (allZ xs=allZ (xs.drop k))∧Hid (Below w.heap.size w wr)) (fun v _=>n - (Go.RowKit.intOf v).toNat)
 case atStart=>exact ⟨0,Nat.zero_le _,rfl,HN0,HB0⟩
 case round =>
  clear HN0 HB0
  obtain ⟨k,hk,rfl,HN,H⟩:=hrel
  by_cases hlt:k < n
  ·obtain ⟨hkl,gb,go,hA3,_,fk⟩:=u_facts ((HR.out.below H.out).more H.out.size) (k:=k) hlt
   subst hA3
   have HS:Hid (allZ (xs.drop k)=((xs[k] == 0) && allZ (xs.drop (k+1)))):=hid (by rw [List.drop_eq_getElem_cons hkl];rfl)
   generalize xs[k]=x at *
   have hz5:(0:Int)≤(k:Int):=by omega
   have hz6:(k:Int) < (n:Int):=by omega
   by_cases hx:x=0
   ·subst hx
    have HS2:Hid (allZ xs=allZ (xs.drop (k+1))):=hid (by rw [HN.out,HS.out];rfl)
    clear HS HN hkl
    go_wp2
    go_roundw
    case rel =>
     first
      | exact ⟨k+1,by omega,by go_num,HS2,H⟩
      | (
        repeat apply Exists.intro
        refine ⟨?_,rfl⟩
        exact ⟨k+1,by omega,by go_num,HS2,H⟩)
    case measure=>simp [Go.RowKit.intOf];omega
   ·have HS2:Hid (allZ xs=false):=hid (by rw [HN.out,HS.out,beq_eq_false_iff_ne.2 hx];rfl)
    have d0:((x:Int) != 0)=true:=by rw [bne,beq_eq_false_iff_ne.2 (by omega)];rfl
    clear HS HN hkl hx
    go_wp2
    go_ret
    rw [HS2.out]
    exact ⟨rfl,H.out⟩
  ·have HS2:Hid (allZ xs=true):=hid (by rw [HN.out,List.drop_of_length_le (by have:=HL.out;omega)];rfl)
   obtain rfl:k=n:=by omega
   clear hlt hk
   go_wp2
   go_ret
   rw [HS2.out]
   exact ⟨rfl,H.out⟩
theorem unDec_any (A:Option Addr) (c x:Nat) (w:World) (h:Reads w w.heap.size 1 A 1 (uCells [x])) :
  Calls Tryz.prog 321 #[.agg #[], .slice A 1 c] w fun e w'=>e = .returned (.tuple #[.int .u64 (x:Int), .bool true])∧Below w.heap.size w w':=by
 obtain ⟨hkl,gb,go,hA3,_,fk⟩:=u_facts ((h.below ((Below.refl w.heap.size w).alloc (Nat.le_refl _) (.cells #[] 255))).more ((Below.refl w.heap.size w).alloc (Nat.le_refl _) (.cells #[] 255)).size) (k:=0) (by omega)
 subst hA3
 have f0:(w.alloc (.cells #[] 255)).cell? ⟨gb,go,none⟩=some (.int .u64 (x:Int)):=fk
 clear fk h
 go_enter Tryz.func321,Tryz.ntmps321
 go_wp2
 go_ret2
 exact ⟨rfl,(Below.refl _ _).alloc (Nat.le_refl _) _⟩
end
section
open Go.RowKit
def freeW (o:Nat):Nat:=sealW (3305111552+o)
theorem own_or (o:Nat) (ho:o < 65536):bits .or .u32 (o:Int) 3305111552=((3305111552+o:Nat):Int):=by
 have h:=u32_or_nat o 3305111552 (by omega) (by omega)
 rw [show ((3305111552:Nat):Int)=3305111552 from rfl] at h
 rw [h]
 congr 1
 have:=Nat.two_pow_add_eq_or_of_lt (i:=16) (b:=o) (by omega) 50432
 rw [show 2 ^ 16 * 50432=3305111552 from rfl] at this
 rw [Nat.or_comm,← this]
theorem wordFree_any (o:Nat) (ho:o < 65536) (w:World) (ht:Tab w) :
  Calls Tryz.prog 228 #[.agg #[.int .i64 (-1), .int .i64 (-1), .int .u16 (o:Int)]] w fun e w'=>e = .returned (.int .u64 (freeW o:Int))∧Below w.heap.size w w':=by
 have HB0:Hid (∀ x,Below w.heap.size w (w.alloc x)):=fun x=>(Below.refl _ _).alloc (Nat.le_refl _) x
 have HS:=hid (fun x=>seal_any (3305111552+o) (by omega) (w.alloc x) (ht.below (HB0.out x)))
 have e1:=own_or o ho
 have u1:IntKind.u32.wrap (o:Int)=(o:Int):=by rw [IntKind.wrap_u32'];omega
 unfold freeW
 generalize 3305111552+o=z at *
 clear ht
 go_enter Tryz.func228,Tryz.ntmps228
 go_wp2_with (go_at_call 237;refine (HS.out _).mono ?_;rintro e w1 ⟨rfl,hb1⟩;have HB1:=hid ((HB0.out _).trans (hb1.mono (by simp)));clear hb1)
 go_ret
 exact ⟨rfl,HB1.out⟩
def RetProgOk (w:World) (P:List Ins→Prop) (e:Ending) (w':World):Prop:=∃ A m c p,e = .returned (.tuple #[.slice A m c, .int .i64 0])∧P p∧w'.ownsRow w.heap.size 211 3 (.slice A m c) m (insCells p)∧Below w.heap.size w w'
theorem clear_any (c o:Nat) (hc:c≤4064) (ho:o < 65536) (h0:o≠0) (w:World) (ht:Tab w) :
  Calls Tryz.prog 187 #[.int .i64 (c:Int), .int .u16 (o:Int)] w (RetProgOk w (IsStores [(64 * c,freeW o)])):=by
 have HT:=hid ht
 have d1:decide ((0:Int)≤(c:Int))=true:=decide_eq_true (by omega)
 have d2:decide ((c:Int)≤4064)=true:=decide_eq_true (by omega)
 have d3:((o:Int) == 0)=false:=by rw [beq_eq_false_iff_ne];omega
 have u1:IntKind.u64.wrap (c:Int)=(c:Int):=by rw [IntKind.wrap_u64];omega
 have hfl:64 * c < 18446744073709551616:=by omega
 have u2:IntKind.u64.wrap ((c:Int) * 64)=((64 * c:Nat):Int):=by rw [IntKind.wrap_u64];omega
 generalize 64 * c=z at *
 clear ht
 go_enter Tryz.func187,Tryz.ntmps187
 go_wp2
 have HC:=hid (Blk.new w 219 #[.int .i64 (-1), .int .i64 (-1), .int .u16 (o:Int)])
 have HB0:Hid (Below w.heap.size w (w.alloc (.cells #[.int .i64 (-1), .int .i64 (-1), .int .u16 (o:Int)] 219))):=(Below.refl _ _).alloc (Nat.le_refl _) _
 generalize w.alloc (.cells #[.int .i64 (-1), .int .i64 (-1), .int .u16 (o:Int)] 219)=W at *
 have HBD:Hid (Below W.heap.size W W.drew):=(Below.refl _ _).drew
 refine wp_region_script (fun w'=>Below W.heap.size W w') 4 [(true,0),(true,2),(false,1),(false,3)] (by kernel_rfl) (by kernel_rfl) HBD.out ?_
 refine wpScript_take (.int .i64 (c:Int)) (by rfl) (by rfl) (fun w' hS=>?_) ?_
 ·go_simp
 simp only [zA,zB,Act.put,zD,zE,zF]
 refine wpScript_take (.agg #[.int .i64 (-1), .int .i64 (-1), .int .u16 (o:Int)]) (by rfl) (by rfl) (fun w' hS=>?_) ?_
 ·have f0:w'.cell? ⟨w.heap.size,0,none⟩=some (.int .i64 (-1)):=(HC.out.below hS HC.out.lt).cell 0
  have f1:w'.cell? ⟨w.heap.size,1,none⟩=some (.int .i64 (-1)):=(HC.out.below hS HC.out.lt).cell 1
  have f2:w'.cell? ⟨w.heap.size,2,none⟩=some (.int .u16 (o:Int)):=(HC.out.below hS HC.out.lt).cell 2
  go_simp
 simp only [zA,zB,zC,Act.put,zD,zE,zF]
 refine wpScript_do (by rfl) ?_
 go_wp2
 refine ⟨HBD.out,?_⟩
 refine wpScript_do (by rfl) ?_
 go_wp2_with fail
 refine (wordFree_any o ho W.drew ((HT.out.below HB0.out).below HBD.out)).mono ?_
 rintro e w1 ⟨rfl,hb1⟩
 have HB1:=hid (HBD.out.trans (hb1.mono HBD.out.size))
 have HS:=hid (stores_small _ 1 1 _ _ (one_reads w1 z (freeW o)) (by omega) (by omega) (fun e he=>by simp at he;subst he;exact hfl))
 have HB2:Hid (∀ x,Below w.heap.size w (w1.alloc x)):=fun x=>((HB0.out.trans (HB1.out.mono HB0.out.size)).alloc (Nat.le_trans HB0.out.size HB1.out.size) x)
 generalize freeW o=y at *
 clear hb1
 go_wp2_with fail
 refine ⟨HB1.out,?_⟩
 show wpList ..
 simp only [List.drop_succ_cons,List.drop_zero]
 go_wp2_with (go_at_call 73;refine HS.out.mono ?_;intro e w2 h1;have h2:=RetProg.back (HB2.out _) h1;obtain ⟨A1,m1,c1,p1,rfl,hp1,ho1,hb1⟩:=h2;have HP1:=hid hp1;have HO1:=hid ho1;have HB1:=hid hb1;clear h1 hp1 ho1 hb1)
 refine NoPanic.normal ?_
 go_wp2
 go_ret2
 exact ⟨_,_,_,_,rfl,HP1.out,HO1.out,HB1.out⟩
end
end Go.Proofs.YtnlokpakiambaaaGreatDoor
