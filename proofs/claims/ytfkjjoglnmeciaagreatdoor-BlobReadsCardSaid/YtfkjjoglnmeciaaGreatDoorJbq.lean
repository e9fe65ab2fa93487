/- The walks and laws that the claim leans on, part 43. -/
import Derived.Test.YtfkjjoglnmeciaaGreatDoorJbm
import Derived.Test.YtfkjjoglnmeciaaGreatDoorJbp
set_option maxRecDepth 100000
set_option maxHeartbeats 16000000
namespace Go.Proofs.YtfkjjoglnmeciaaGreatDoor
open Go.Lib (hid)
section
open Go.RowKit Go.Maps
def lvB (s k:Nat) (c:CS) (i:Nat):List Nat:=if (c.bs i).st=177 then [pMk (64 * (s+32 * k)+8 * offB c.cl i+8) (c.bs i).gen (c.bs i).kind] else []
def lvI (s k:Nat) (c:CS):Nat→List Nat
 | 0=>[]
 | i+1=>lvI s k c i++lvB s k c i
def lvC (s k:Nat) (c:CS):List Nat:=if c.dv then lvI s k c (perC c.cl) else []
def lvK (s:Nat) (cs:Nat→CS):Nat→List Nat
 | 0=>[]
 | k+1=>lvK s cs k++lvC s k (cs k)
theorem lvK_succ (s:Nat) (cs:Nat→CS) (k:Nat):lvK s cs (k+1)=lvK s cs k++lvC s k (cs k):=rfl
theorem lvI_succ (s k:Nat) (c:CS) (i:Nat):lvI s k c (i+1)=lvI s k c i++lvB s k c i:=rfl
theorem lvI_len (s k:Nat) (c:CS):∀ i,(lvI s k c i).length≤i
 | 0=>Nat.le_refl _
 | i+1=>by
  have:=lvI_len s k c i
  unfold lvI lvB
  rw [List.length_append]
  split <;> simp <;> omega
theorem perC_le (cl:Nat):perC cl≤250:=by
 unfold perC
 have:248 / (payW cl+1)≤248:=Nat.div_le_self _ _
 omega
theorem lvK_len (s:Nat) (cs:Nat→CS):∀ k,(lvK s cs k).length≤250 * k
 | 0=>Nat.le_refl _
 | k+1=>by
  have h1:=lvK_len s cs k
  have h2:=lvI_len s k (cs k) (perC (cs k).cl)
  have h3:=perC_le (cs k).cl
  unfold lvK lvC
  rw [List.length_append]
  split <;> simp <;> omega
def pEnc (p:Nat):Array Value:=#[.int .u64 (p:Int)]
def KpT (n:Nat) (A B:World):Prop:=Below n A B∧∀ k cs t,(t=3∨t=306∨t=29)→Blk A k t cs→Blk B k t cs
theorem KpT.trans {n:Nat} {A B C:World} (h:KpT n A B) (k:KpT n B C):KpT n A C:=⟨h.1.trans k.1,fun i cs t ht hb=>k.2 i cs t ht (h.2 i cs t ht hb)⟩
theorem KpT.of_below {n:Nat} {A B:World} (h:Below A.heap.size A B) (hn:n≤A.heap.size):KpT n A B:=⟨h.mono hn,fun _ _ _ _ hb=>hb.below h hb.lt⟩
theorem KpT.put {n:Nat} {w:World} (hn:n≤w.heap.size) (W:World) (l:Nat) (o o':Obj) (hl:w.heap.size≤l) (h:W.heap[l]?=some o) (hc:o.isCells=false) (_:o.isWalk=false):KpT n W (W.putObj l o'):=by
 refine ⟨(Below.refl n W).grown (grownBy_putObj' W l o') (by have:=(Array.getElem?_eq_some_iff.1 h).1;omega) (fun k e=>by cases e;omega),fun k cs t _ hb=>?_⟩
 by_cases e:k=l
 ·subst e
  unfold Blk at hb
  rw [h] at hb
  cases hb
  exact absurd hc (by simp [Obj.isCells])
 ·exact (World.putObj_heap_other (fun e2=>e (by rw [e2]))).trans hb
structure LvW (w0:World) (gh xh gl:Nat) (ccs:Array Value) (V:World):Prop where
 below:Below w0.heap.size w0 V
 box:Blk V gh 29 #[.pointer (some ⟨xh,0,none⟩)]
 row:Blk V gl 3 ccs
theorem LvW.kp {w0 V V':World} {gh xh gl:Nat} {ccs:Array Value} (h:LvW w0 gh xh gl ccs V) (k:KpT w0.heap.size V V'):LvW w0 gh xh gl ccs V' :=
 ⟨h.below.trans k.1,k.2 _ _ _ (.inr (.inr rfl)) h.box,k.2 _ _ _ (.inl rfl) h.row⟩
theorem LvW.grow {w0 V V':World} {gh xh gl:Nat} {ccs:Array Value} (h:LvW w0 gh xh gl ccs V) (k:Below V.heap.size V V'):LvW w0 gh xh gl ccs V':=h.kp (KpT.of_below k h.below.size)
theorem lns_blk {w0 w:World} {A:Option Addr} {n c K s:Nat} (hK:0 < K) (h:w.ownsRow w0.heap.size 3 1 (.slice A n c) n (iCells ((List.range K).map fun k=>((s+32 * k:Nat):Int)))) :
  ∃ gl ccs,A=some ⟨gl,0,none⟩∧n=K∧Blk w gl 3 ccs∧∀ k,k < K→ccs[k]?=some (.int .i64 ((s+32 * k:Nat):Int)):=by
 obtain ⟨hl,h | ⟨g,cap,cur,h1,h2,h3,h4,h5,h6,h7⟩⟩:=h
 ·simp [iCells] at hl
  omega
 ·simp [iCells] at hl
  cases h1
  refine ⟨g,cur,rfl,by omega,h3,fun k hk=>?_⟩
  have e:(List.take (n * 1) cur.toList)[k]?=(iCells ((List.range K).map fun k=>((s+32 * k:Nat):Int)))[k]?:=by rw [h7]
  rw [List.getElem?_take,if_pos (by omega)] at e
  rw [← Array.getElem?_toList,e]
  simp [iCells,hk]
section
variable {a:DA} {L T s n K:Nat} {x:HA} {cs:Nat→CS} {f:Nat→Option Nat} {N m b0:Nat} {S:Fp} {cur:Nat→Nat} {w w0:World}
theorem lines_ds (h:DS a L T s n K x cs f N m b0 S cur w) (hK12:K≤12):Calls Tryz.prog 197 #[.pointer (some ⟨x.gs,0,none⟩)] w (RetLns w ((List.range K).map fun k=>((s+32 * k:Nat):Int))):=by
 have hp:Plc a s K x.p cs w:=h.hs.plc
 have hs:=h.few
 have e:x.p.gs=x.gs:=rfl
 have h1:=linesP_any hp hs.1 (Nat.le_trans hs.2 (by decide))
 rw [e] at h1
 exact h1
theorem lv_openU (h:DS a L T s n K x cs f N m b0 S cur w) {k:Nat} (hk:k < K) (hd:(cs k).dv=false):Calls Tryz.prog 195 #[memV a, .int .i64 ((s+32 * k:Nat):Int)] w fun e w'=>e = .returned (.tuple #[chNone, .int .i64 8])∧Below w.heap.size w w':=by
 have hok:=h.ok k hk
 unfold CSok at hok
 rw [hd] at hok
 exact chOpen_undiv h.dev h.tab _ _ (h.line hk) hok.2.1 hok.2.2 hok.1
theorem lv_openD (h:DS a L T s n K x cs f N m b0 S cur w) {k:Nat} (hk:k < K) (hd:(cs k).dv=true):Calls Tryz.prog 195 #[memV a, .int .i64 ((s+32 * k:Nat):Int)] w fun e w'=>e = .returned (.tuple #[chV a (s+32 * k) (cs k).cl 0 (cs k).g, .int .i64 0])∧Below w.heap.size w w':=by
 have hC:=h.chw hk hd
 exact chOpen_cls h.dev h.tab h.pay _ _ _ (h.line hk) hC.cls hC.g0 hC.g1 hC.hdr
theorem lv_per (h:DS a L T s n K x cs f N m b0 S cur w) {k:Nat} (hk:k < K) (hd:(cs k).dv=true):Calls Tryz.prog 207 #[.int .i64 ((cs k).cl:Int)] w fun e w'=>e = .returned (.int .i64 (perC (cs k).cl:Int))∧w=w':=perChunk_any _ (h.chw hk hd).cls w h.pay
theorem lv_tk (h:DS a L T s n K x cs f N m b0 S cur w) {k:Nat} (hk:k < K) (hd:(cs k).dv=true) {i:Nat} (hi:i < perC (cs k).cl):Calls Tryz.prog 209 #[chV a (s+32 * k) (cs k).cl 0 (cs k).g, .int .i64 (i:Int)] w fun e w'=>e = .returned (.bool (decide (((cs k).bs i).st=177)))∧Below w.heap.size w w':=by
 have hC:=h.chw hk hd
 have:=taken_any h.dev h.tab h.pay (s+32 * k) (cs k).cl (cs k).g (cs k).V i ((cs k).bs i) (hC.inn i hi) (h.line hk) hC.cls hi hC.v64 hC.bits (hC.word i hi)
 rw [hC.bit i hi] at this
 have e:(decide (((cs k).bs i).st≠176) && decide (((cs k).bs i).st=177))=decide (((cs k).bs i).st=177):=by
  by_cases e:((cs k).bs i).st=177
  ·simp [e]
  ·simp [e]
 rw [e] at this
 exact this
theorem lv_po (h:DS a L T s n K x cs f N m b0 S cur w) {k:Nat} (hk:k < K) (hd:(cs k).dv=true) {i:Nat} (hi:i < perC (cs k).cl) (hs:((cs k).bs i).st=177):Calls Tryz.prog 210 #[chV a (s+32 * k) (cs k).cl 0 (cs k).g, .int .i64 (i:Int), .int .u8 0] w fun e w'=>e = .returned (.tuple #[.int .u64 (pMk (64 * (s+32 * k)+8 * offB (cs k).cl i+8) ((cs k).bs i).gen ((cs k).bs i).kind:Int), .int .i64 0])∧Below w.heap.size w w':=by
 have hC:=h.chw hk hd
 have hg:=hC.good i hi
 unfold BK.good at hg
 rw [if_neg (by omega),if_pos hs] at hg
 simp at hg
 have e:kindOf ((cs k).bs i) 0=((cs k).bs i).kind:=by unfold kindOf;rw [if_pos hs]
 have:=pointer_any h.dev h.tab h.pay (s+32 * k) (cs k).cl (cs k).g (cs k).V i ((cs k).bs i) (hC.inn i hi) (hC.good i hi) (.inr hs) (hC.bit i hi) (h.line hk) hC.cls hi hC.v64 hC.bits (hC.word i hi) 0 (by rw [e];omega) (by rw [e];omega) (by omega) (by omega)
 rw [e] at this
 exact this
theorem lv_few (h:DS a L T s n K x cs f N m b0 S cur w):0 < K∧s≤4096:=by
 have h1:=h.hK
 have h2:=h.few
 omega
theorem live_stops (h:DS a L T s n K x cs f N m b0 S cur w0) (hw:Below w0.heap.size w0 w) (hK12:K≤12) (gh:Nat) (hh:Blk w gh 29 #[.pointer (some ⟨x.h,0,none⟩)]) :
  SeqStopsK Fence.wide 6 Tryz.prog 206 #[.pointer (some ⟨gh,0,none⟩)] pEnc (KpT w0.heap.size) (fun xs=>xs=lvK s cs K) (fun _=>True) 4096 w:=by
 intro l J Jx W hW hJ hJx hY h0
 have hwW:Below w0.heap.size w0 W:=hw.trans (hW.mono hw.size)
 have hhW:=hh.below hW hh.lt
 have HLn:Hid (∀ V,Below w0.heap.size w0 V→Calls Tryz.prog 197 #[.pointer (some ⟨x.gs,0,none⟩)] V (RetLns V ((List.range K).map fun k=>((s+32 * k:Nat):Int)))):=hid (fun V hV=>lines_ds (h.below hV) hK12)
 have HOu:Hid (∀ k,k < K→(cs k).dv=false→∀ V,Below w0.heap.size w0 V→Calls Tryz.prog 195 #[memV a, .int .i64 ((s+32 * k:Nat):Int)] V fun e w'=>e = .returned (.tuple #[chNone, .int .i64 8])∧Below V.heap.size V w'):=hid (fun k hk hd V hV=>lv_openU (h.below hV) hk hd)
 have HOd:Hid (∀ k,k < K→(cs k).dv=true→∀ V,Below w0.heap.size w0 V→Calls Tryz.prog 195 #[memV a, .int .i64 ((s+32 * k:Nat):Int)] V fun e w'=>e = .returned (.tuple #[chV a (s+32 * k) (cs k).cl 0 (cs k).g, .int .i64 0])∧Below V.heap.size V w'):=hid (fun k hk hd V hV=>lv_openD (h.below hV) hk hd)
 have HPe:Hid (∀ k,k < K→(cs k).dv=true→∀ V,Below w0.heap.size w0 V→Calls Tryz.prog 207 #[.int .i64 ((cs k).cl:Int)] V fun e w'=>e = .returned (.int .i64 (perC (cs k).cl:Int))∧V=w'):=hid (fun k hk hd V hV=>lv_per (h.below hV) hk hd)
 have HTk:Hid (∀ k,k < K→(cs k).dv=true→∀ i,i < perC (cs k).cl→∀ V,Below w0.heap.size w0 V→Calls Tryz.prog 209 #[chV a (s+32 * k) (cs k).cl 0 (cs k).g, .int .i64 (i:Int)] V fun e w'=>e = .returned (.bool (decide (((cs k).bs i).st=177)))∧Below V.heap.size V w'):=hid (fun k hk hd i hi V hV=>lv_tk (h.below hV) hk hd hi)
 have HPo:Hid (∀ k,k < K→(cs k).dv=true→∀ i,i < perC (cs k).cl→((cs k).bs i).st=177→∀ V,Below w0.heap.size w0 V→Calls Tryz.prog 210 #[chV a (s+32 * k) (cs k).cl 0 (cs k).g, .int .i64 (i:Int), .int .u8 0] V fun e w'=>e = .returned (.tuple #[.int .u64 (pMk (64 * (s+32 * k)+8 * offB (cs k).cl i+8) ((cs k).bs i).gen ((cs k).bs i).kind:Int), .int .i64 0])∧Below V.heap.size V w'):=hid (fun k hk hd i hi hs V hV=>lv_po (h.below hV) hk hd hi hs)
 have HXh:Hid (∀ V,Below w0.heap.size w0 V→V.cell? ⟨x.h,0,none⟩=some (memV a)∧V.cell? ⟨x.h,3,none⟩=some (.pointer (some ⟨x.gs,0,none⟩))):=hid (fun V hV=>⟨(h.below hV).hs.heap.cell 0,(h.below hV).hs.heap.cell 3⟩)
 have HKs:Hid (0 < K∧s≤4096):=hid (lv_few h)
 have HJ:=hid (And.intro hJ hJx)
 have HYd:=hid hY
 have HJ0:=hid h0
 have HW:=hid hwW
 have b0:W.cell? ⟨gh,0,none⟩=some (.pointer (some ⟨x.h,0,none⟩)):=hhW.cell 0
 obtain ⟨x0,x3⟩:=HXh.out W hwW
 have HHw:=hid hhW
 refine callsIn_wide.2 ?_
 show Calls Tryz.prog 206 #[.func (.yield l) #[] #[], .pointer (some ⟨gh,0,none⟩)] W _
 clear h hw hh hW hJ hJx hY h0 hwW hhW
 go_enter Tryz.func206,Tryz.ntmps206
 go_wp2_with (go_at_call 197;refine (HLn.out _ HW.out).mono ?_;rintro e w1 ⟨A,m1,c1,rfl,ho,hb1⟩;refine stop ?_)
 unfold Stop
 obtain ⟨gl,ccs,rfl,rfl,hgl,hcc⟩:=lns_blk HKs.out.1 ho
 have HL:=hid (LvW.mk (HW.out.trans (hb1.mono HW.out.size)) (HHw.out.below hb1 HHw.out.lt) hgl)
 have HJ1:Hid (J (lvK s cs 0) w1):=hid (abides_below HJ.out.1 HJ0.out hb1)
 have HCc:=hid hcc
 clear ho hb1 hgl hcc b0 x0 x3 HHw HJ0 HLn HW
 go_wp2_with fail
 go_loopw [18] (fun i wr=>∃ k:Nat,k≤m1∧i = .int .i64 (k:Int)∧Hid (J (lvK s cs k) wr)∧Hid (LvW w0 gh x.h gl ccs wr)) (fun i _=>m1 - (Go.RowKit.intOf i).toNat)
 case atStart=>exact ⟨0,Nat.zero_le _,rfl,HJ1,HL⟩
 case round =>
  clear HJ1 HL
  obtain ⟨k,hk,rfl,HJ1,HL⟩:=hrel
  by_cases hlt:k < m1
  ·have hz5:(0:Int)≤(k:Int):=by omega
   have hz6:(k:Int) < (m1:Int):=by omega
   have f0:wr.cell? ⟨gl,k,none⟩=some (.int .i64 ((s+32 * k:Nat):Int)):=by rw [HL.out.row.cell];exact HCc.out k hlt
   have b0:wr.cell? ⟨gh,0,none⟩=some (.pointer (some ⟨x.h,0,none⟩)):=HL.out.box.cell 0
   have x0:=(HXh.out wr HL.out.below).1
   have HOu1:=hid (HOu.out k hlt)
   have HOd1:=hid (HOd.out k hlt)
   generalize hln:s+32 * k=ln at *
   cases hdv:(cs k).dv
   ·have HO:=hid (HOu1.out hdv wr HL.out.below)
    have HJ2:Hid (∀ V,Below wr.heap.size wr V→J (lvK s cs (k+1)) V):=hid (fun V hV=>by
     have e:lvK s cs (k+1)=lvK s cs k:=by rw [lvK_succ];unfold lvC;rw [hdv];simp
     rw [e]
     exact abides_below HJ.out.1 HJ1.out hV)
    unfold chNone at HO
    unfold memV at *
    clear HOu1 HOd1 HJ1 hdv hln
    go_wp2_with (go_at_call 195;refine HO.out.mono ?_;rintro e w2 ⟨rfl,hb2⟩;have HB2:=hid hb2;clear hb2)
    go_roundw
    case rel=>exact ⟨k+1,by omega,by go_num,hid (HJ2.out _ ((HB2.out).alloc HB2.out.size _)),hid (HL.out.grow ((HB2.out).alloc HB2.out.size _))⟩
    case measure=>simp [Go.RowKit.intOf];omega
   ·have HO:=hid (HOd1.out hdv wr HL.out.below)
    have HCl:Hid (∀ V,Calls Tryz.prog 208 #[chV a ln (cs k).cl 0 (cs k).g] V fun e w'=>e = .returned (.int .i64 ((cs k).cl:Int))∧Below V.heap.size V w'):=hid (fun V=>chClass_any a ln _ 0 _ V)
    have HPe1:=hid (HPe.out k hlt hdv)
    have HTk1:=hid (HTk.out k hlt hdv)
    have HPo1:=hid (HPo.out k hlt hdv)
    have HJc:Hid (∀ i V,i=perC (cs k).cl→J (lvK s cs k++lvI s k (cs k) i) V→J (lvK s cs (k+1)) V):=hid (fun i V e h=>by
     subst e
     rw [lvK_succ]
     unfold lvC
     rw [hdv]
     exact h)
    have HLe:Hid ((lvK s cs k).length≤250 * k):=hid (lvK_len s cs k)
    rw [hln] at HTk1 HPo1
    unfold chV memV at *
    obtain ⟨cl,HCL⟩:∃ cl,Hid ((cs k).cl=cl):=⟨_,rfl⟩
    rw [HCL.out] at HO HCl HPe1 HTk1 HPo1 HJc
    generalize (cs k).g=g at *
    clear HOu1 HOd1 HOu HOd HPe HTk HPo hdv
    go_wp2_with (first
     | (go_at_call 195;refine HO.out.mono ?_;rintro e w2 ⟨rfl,hb2⟩;have HL2:=hid (HL.out.grow (hb2.alloc hb2.size (.cells (chCells a ln cl g) 306)));have HJ2:=hid (abides_below HJ.out.1 HJ1.out (hb2.alloc hb2.size (.cells (chCells a ln cl g) 306)));have HC2:=hid (Blk.new w2 306 (chCells a ln cl g));clear hb2)
     | (go_at_call 208;refine (HCl.out _).mono ?_;rintro e w3 ⟨rfl,hb3⟩;have HL3:=hid (HL2.out.grow hb3);have HJ3:=hid (abides_below HJ.out.1 HJ2.out hb3);have HC3:=hid (HC2.out.below hb3 HC2.out.lt);clear hb3 HL2 HJ2 HC2)
     | (go_at_call 207;refine (HPe1.out _ HL3.out.below).mono ?_;rintro e w4 ⟨rfl,rfl⟩))
    clear HO HCl HPe1 b0 x0 f0 HJ1 HL
    generalize w2.heap.size=gc at *
    go_loopw [36] (fun i wr=>∃ i0:Nat,i0≤perC cl∧i = .int .i64 (i0:Int)∧Hid (J (lvK s cs k++lvI s k (cs k) i0) wr)∧Hid (LvW w0 gh x.h gl ccs wr)∧Hid (Blk wr gc 306 (chCells a ln cl g))) (fun i _=>perC cl - (Go.RowKit.intOf i).toNat)
    case atStart=>exact ⟨0,Nat.zero_le _,rfl,hid (by simpa [lvI] using HJ3.out),HL3,HC3⟩
    case round =>
     clear HJ3 HL3 HC3
     obtain ⟨i,hi,rfl,HJ1,HL,HC⟩:=hrel
     by_cases hilt:i < perC cl
     ·have hz7:(0:Int)≤(i:Int):=by omega
      have hz8:(i:Int) < (perC cl:Int):=by omega
      have HT:=hid (HTk1.out i hilt _ HL.out.below)
      have HPo2:=hid (HPo1.out i hilt)
      have hP9:=perC_le cl
      have HIl:=hid (lvI_len s k (cs k) i)
      have c0:wr.cell? ⟨gc,0,none⟩=some (.iface 58 (.pointer (some ⟨a.th 0,0,none⟩))):=HC.out.cell 0
      have c1:wr.cell? ⟨gc,1,none⟩=some (.int .i64 (ln:Int)):=HC.out.cell 1
      have c2:wr.cell? ⟨gc,2,none⟩=some (.int .i64 (cl:Int)):=HC.out.cell 2
      have c3:wr.cell? ⟨gc,3,none⟩=some (.int .i64 0):=HC.out.cell 3
      have c4:wr.cell? ⟨gc,4,none⟩=some (.int .u16 (g:Int)):=HC.out.cell 4
      by_cases hs:((cs k).bs i).st=177
      ·have HP:=hid (HPo2.out hs)
       have HEb:Hid (∀ pre,pre=lvK s cs k++lvI s k (cs k) i→pre++[pMk (64 * ln+8 * offB cl i+8) ((cs k).bs i).gen ((cs k).bs i).kind]=lvK s cs k++lvI s k (cs k) (i+1)):=hid (fun pre e=>by
        rw [e,lvI_succ,List.append_assoc]
        unfold lvB
        rw [if_pos hs,hln,HCL.out])
       rw [decide_eq_true hs] at HT
       generalize pMk (64 * ln+8 * offB cl i+8) ((cs k).bs i).gen ((cs k).bs i).kind=pp at *
       clear hs HPo2 HTk1 HPo1
       go_wp2_with (first
        | (go_at_call 209;refine HT.out.mono ?_;rintro e w5 ⟨rfl,hb5⟩;have HL5:=hid (HL.out.grow hb5);have HJ5:=hid (abides_below HJ.out.1 HJ1.out hb5);have HC5:=hid (HC.out.below hb5 HC.out.lt);clear hb5 c0 c1 c2 c3 c4;have c0:w5.cell? ⟨gc,0,none⟩=some (.iface 58 (.pointer (some ⟨a.th 0,0,none⟩))):=HC5.out.cell 0;have c1:w5.cell? ⟨gc,1,none⟩=some (.int .i64 (ln:Int)):=HC5.out.cell 1;have c2:w5.cell? ⟨gc,2,none⟩=some (.int .i64 (cl:Int)):=HC5.out.cell 2;have c3:w5.cell? ⟨gc,3,none⟩=some (.int .i64 0):=HC5.out.cell 3;have c4:w5.cell? ⟨gc,4,none⟩=some (.int .u16 (g:Int)):=HC5.out.cell 4)
        | (go_at_call 210;refine (HP.out _ HL5.out.below).mono ?_;rintro e w6 ⟨rfl,hb6⟩;have HL6:=hid (HL5.out.grow hb6);have HJ6:=hid (abides_below HJ.out.1 HJ5.out hb6);have HC6:=hid (HC5.out.below hb6 HC5.out.lt);clear hb6;refine stop ?_))
       unfold Stop
       clear c0 c1 c2 c3 c4 HL5 HJ5 HC5 HT HP HL HJ1 HC
       go_upto_region 11 with fail
       obtain ⟨fn,tmps,assign,body,hyr,hRd⟩:=HYd.out _ pp w6 HJ6.out (by rw [List.length_append];have h1:=HLe.out;have h2:=HIl.out;omega)
       have HR:=hid (roundIn_any (m':=6) hRd)
       clear hRd
       unfold pEnc at hyr
       refine (wpIn_wide (n:=7)).1 ?_
       gi_wp2
       refine HR.out.mono ?_
       clear HR hyr
       rintro e w7 (⟨rfl,hj,hk⟩ | ⟨rfl,hj⟩)
       ·have HJ7:Hid (J (lvK s cs k++lvI s k (cs k) (i+1)) w7):=hid (by rw [← HEb.out _ rfl];exact hj)
        have HL7:=hid (HL6.out.kp hk)
        have HC7:=hid (hk.2 _ _ _ (.inr (.inl rfl)) HC6.out)
        clear hj hk HL6 HC6 HJ6
        gi_wp2
        go_wp2_with fail
        go_roundw
        case rel=>exact ⟨i+1,by omega,by go_num,HJ7,HL7,HC7⟩
        case measure=>simp [Go.RowKit.intOf];omega
       ·have HJ7:=hid hj
        clear hj HL6 HC6 HJ6
        gi_wp2
        go_wp2_with fail
        refine bodyPost_ret (results_none rfl _ _ _) rfl ?_
        exact ⟨⟨_,rfl⟩, .inr ⟨_,trivial,HJ7.out⟩⟩
      ·have HJ2:Hid (∀ V,Below wr.heap.size wr V→J (lvK s cs k++lvI s k (cs k) (i+1)) V):=hid (fun V hV=>by
        rw [lvI_succ]
        unfold lvB
        rw [if_neg hs,List.append_nil]
        exact abides_below HJ.out.1 HJ1.out hV)
       rw [decide_eq_false hs] at HT
       clear hs HPo2 HTk1 HPo1
       go_wp2_with (go_at_call 209;refine HT.out.mono ?_;rintro e w5 ⟨rfl,hb5⟩;have HL5:=hid (HL.out.grow hb5);have HJ5:=hid (HJ2.out _ hb5);have HC5:=hid (HC.out.below hb5 HC.out.lt);clear hb5 c0 c1 c2 c3 c4)
       go_roundw
       case rel=>exact ⟨i+1,by omega,by go_num,HJ5,HL5,HC5⟩
       case measure=>simp [Go.RowKit.intOf];omega
     ·have HJ2:=hid (HJc.out i _ (by omega) HJ1.out)
      go_wp2_with fail
      go_roundw
      case rel=>exact ⟨k+1,by omega,by go_num,HJ2,HL⟩
      case measure=>simp [Go.RowKit.intOf];omega
  ·go_wp2_with fail
   go_end0
   have e:k=m1:=by omega
   subst e
   exact ⟨⟨_,rfl⟩, .inl ⟨_,rfl,HJ1.out⟩⟩
end
end
section
open Go.RowKit Go.Maps
def RetBog (a:DA) (L T K b0:Nat) (cs:Nat→CS) (S:Fp) (cur:Nat→Nat) (w:World) (e:Ending) (w':World):Prop:=∃ x y,e = .returned (.pointer (some ⟨y.g,0,none⟩))∧BW a L T K x y cs (fun _=>none) 0 0 b0 S cur w'∧Below w.heap.size w w'
theorem bopenG_any (cs:Nat→CS) {a:DA} {L T K b0:Nat} {w:World} {S:Fp} {cur:Nat→Nat} (h:Dev a L T w S cur 0) (hdi:a.dirty=fun _=>False) (hL:L=53+32 * K) (hK:1≤K) (hK12:K≤12) (ht:Tab w) (hpy:Pay w) (hp:cur (8 * 0)=0∧cur (8 * 26)=0∧(∀ k,k < K→CSok cur (53+32 * k) (cs k))∧∀ i,cur i < 18446744073709551616) (hb0:1 < b0∧0 < b0∧b0≤w.heap.size∧∀ k,S k→b0≤k) :
  Calls Tryz.prog 102 #[.pointer (some ⟨a.d,0,none⟩), .int .i64 (K:Int)] w (RetBog a L T K b0 cs S cur w):=by
 have HD:=hid h
 have HT:=hid ht
 have HP:=hid hp
 have HPy:=hid hpy
 have HB0:=hid hb0
 have HLK:=hid (show L=53+32 * K∧1≤K∧K≤12 from ⟨hL,hK,hK12⟩)
 have HTh:=hid (thread_any h)
 have HDI:=hid hdi
 have HRo:=hid (redoOpen_any h 0 26 (by omega) (by omega))
 have hb1:Below w.heap.size w (w.alloc (.cells (logCells a 0 26) 353)):=(Below.refl _ _).alloc (Nat.le_refl _) _
 have HB1:=hid hb1
 have HBr:=hid (Blk.new w 353 (logCells a 0 26))
 have HRr:=hid (redoRecover_idle (h.below hb1) w.heap.size 0 26 HBr.out (by omega) hp.1)
 have hz32:((32 * K:Nat):Int)=32 * (K:Int):=by omega
 have hLs:26+26≤L:=by omega
 have hLh:53+32 * K≤L:=by omega
 have hKn:32≤32 * K:=by omega
 have hKd:32 * K / 32=K:=by omega
 have HAr:=hid (show 26+26≤L∧53+32 * K≤L∧32≤32 * K∧32 * K / 32=K from ⟨hLs,hLh,hKn,hKd⟩)
 clear h ht hp hb1 hpy hb0 hL hK hLs hLh hKn hKd hdi
 unfold memV at *
 go_enter Tryz.func102,Tryz.ntmps102
 go_wp2_with (first
  | (go_at_call 71;refine HTh.out.mono ?_;rintro e w1 ⟨rfl,rfl⟩)
  | (go_at_call 177;refine HRo.out.mono ?_;rintro e w1 ⟨rfl,rfl⟩)
  | fail)
 generalize (w.alloc (.cells (logCells a 0 26) 353))=W at *
 clear HRo HTh
 refine HRr.out.mono ?_
 rintro e W1 ⟨rfl,hb1⟩
 have HB2:=hid (HB1.out.trans (hb1.mono HB1.out.size))
 have HBr2:=hid (HBr.out.below hb1 HBr.out.lt)
 have HUo:=hid (undoOpen_any (HD.out.below HB2.out) 26 26 (by omega) HAr.out.1)
 clear HRr hb1 HBr HB1
 unfold memV at HUo
 go_wp2_with fail
 refine HUo.out.mono ?_
 rintro e W2 ⟨rfl,rfl⟩
 have HB3:=hid (HB2.out.alloc HB2.out.size (.cells (ulogCells a 26 26) 330))
 have HBr3:=hid (HBr2.out.alloc (.cells (ulogCells a 26 26) 330))
 have HBu3:=hid (Blk.new W1 330 (ulogCells a 26 26))
 have HUr:=hid (undoRecover_none (HD.out.below HB3.out) W1.heap.size 26 26 HBu3.out (by have:=HAr.out.1;omega) (by omega) (by omega) HP.out.2.1)
 have HL3:=hid (Nat.le_trans HB2.out.size (Nat.le_refl W1.heap.size))
 obtain ⟨u,hu⟩:∃ u,W1.heap.size=u:=⟨_,rfl⟩
 rw [hu] at HBu3 HUr HL3 ⊢
 generalize W1.alloc (.cells (ulogCells a 26 26) 330)=W3 at *
 clear HUo HB2 HBr2 hu
 go_wp2_with fail
 refine HUr.out.mono ?_
 rintro e W4 ⟨rfl,hb1⟩
 have HB4:=hid (HB3.out.trans (hb1.mono HB3.out.size))
 have HBr4:=hid (HBr3.out.below hb1 HBr3.out.lt)
 have HBu4:=hid (HBu3.out.below hb1 HBu3.out.lt)
 have HHo:=hid (heapOpenG_any cs (HD.out.below HB4.out) (HT.out.below HB4.out) (HPy.out.below HB4.out) 53 (32 * K) K HAr.out.2.2.1 HAr.out.2.1 HAr.out.2.2.2 HP.out.2.2.1)
 rw [hz32] at HHo
 clear HUr hb1 HBr3 HBu3 HB3
 unfold memV at HHo
 have hK12':K≤12:=hK12
 go_wp2_with fail
 refine HHo.out.mono ?_
 rintro e W5 ⟨x,rfl,hhs,hlow,hb1⟩
 have HB5:=hid (HB4.out.trans (hb1.mono HB4.out.size))
 have HBr5:=hid (HBr4.out.below hb1 HBr4.out.lt)
 have HBu5:=hid (HBu4.out.below hb1 HBu4.out.lt)
 have HHs5:=hid hhs
 have HLow:=hid (show w.heap.size≤x.h∧w.heap.size≤x.gs∧w.heap.size≤x.pl∧w.heap.size≤x.mr∧w.heap.size≤x.mh by obtain ⟨l1,l2,l3,l4,l5⟩:=hlow;have:=HB4.out.size;exact ⟨by omega,by omega,by omega,by omega,by omega⟩)
 clear HHo hb1 HBr4 HBu4 HB4 hhs hlow
 obtain ⟨W6,hW6⟩:∃ W6,W5.alloc (.cells (dirCells a x.h w.heap.size) 240)=W6:=⟨_,rfl⟩
 obtain ⟨W7,hW7⟩:∃ W7,W6.alloc (.cells (mgrCells (some ⟨a.th 0,0,none⟩) (some ⟨w.heap.size,0,none⟩) (some ⟨u,0,none⟩) (some ⟨x.h,0,none⟩) none) 200)=W7:=⟨_,rfl⟩
 have HND:Hid (Calls Tryz.prog 200 #[.pointer (some ⟨x.h,0,none⟩), .pointer (some ⟨a.th 0,0,none⟩), .pointer (some ⟨w.heap.size,0,none⟩)] W5 fun e w'=>e = .returned (.pointer (some ⟨W5.heap.size,0,none⟩))∧W6=w'):=hid ((newDirect_any x.h (a.th 0) w.heap.size W5).mono (fun e w' h=>⟨h.1,by rw [← hW6];exact h.2.symm⟩))
 have HTN:Hid (Calls Tryz.prog 182 #[.pointer (some ⟨a.th 0,0,none⟩), .pointer (some ⟨w.heap.size,0,none⟩), .pointer (some ⟨u,0,none⟩), .pointer (some ⟨x.h,0,none⟩)] W6 fun e w'=>e = .returned (.pointer (some ⟨W6.heap.size,0,none⟩))∧W7=w'):=hid ((txNew_any (some ⟨a.th 0,0,none⟩) (some ⟨w.heap.size,0,none⟩) (some ⟨u,0,none⟩) (some ⟨x.h,0,none⟩) W6).mono (fun e w' h=>⟨h.1,by rw [← hW7];exact h.2.symm⟩))
 have hb6:Below W5.heap.size W5 W6:=by rw [← hW6];exact (Below.refl _ _).alloc (Nat.le_refl _) _
 have hb7:Below W6.heap.size W6 W7:=by rw [← hW7];exact (Below.refl _ _).alloc (Nat.le_refl _) _
 have hs6:W6.heap.size=W5.heap.size+1:=by rw [← hW6];simp
 have hd6:Blk W6 W5.heap.size 240 (dirCells a x.h w.heap.size):=by rw [← hW6];exact Blk.new _ _ _
 have hm7:Blk W7 W6.heap.size 200 (mgrCells (some ⟨a.th 0,0,none⟩) (some ⟨w.heap.size,0,none⟩) (some ⟨u,0,none⟩) (some ⟨x.h,0,none⟩) none):=by rw [← hW7];exact Blk.new _ _ _
 have HB57:Hid (Below W5.heap.size W5 W7):=hid (hb6.trans (hb7.mono (by omega)))
 have HB7:=hid (HB5.out.trans (HB57.out.mono HB5.out.size))
 have HD7:=hid (hd6.below hb7 hd6.lt)
 have HM7:=hid hm7
 have HSz:=hid (show W6.heap.size=W5.heap.size+1∧w.heap.size≤W5.heap.size from ⟨hs6,HB5.out.size⟩)
 clear hW6 hW7 hb6 hb7 hs6 hd6 hm7
 go_upto_region 20 with (first
  | (go_at_call 200;refine HND.out.mono ?_;rintro e Wz ⟨rfl,rfl⟩)
  | (go_at_call 182;refine HTN.out.mono ?_;rintro e Wz ⟨rfl,rfl⟩))
 have HBg:=hid (Blk.new W7 61 (bwCells a x ⟨W7.heap.size,W5.heap.size,w.heap.size,u,W6.heap.size⟩ K))
 have HBb:Hid (Below W7.heap.size W7 (W7.alloc (.cells (bwCells a x ⟨W7.heap.size,W5.heap.size,w.heap.size,u,W6.heap.size⟩ K) 61))):=hid ((Below.refl _ _).alloc (Nat.le_refl _) _)
 unfold bwCells at HBb HBg
 generalize hW8:W7.alloc (.cells #[.pointer (some ⟨a.d,0,none⟩), .pointer (some ⟨a.th 0,0,none⟩), .pointer (some ⟨x.h,0,none⟩), .pointer (some ⟨W5.heap.size,0,none⟩), .pointer (some ⟨W6.heap.size,0,none⟩), .int .i64 (K:Int)] 61)=W8 at *
 have f3:W8.cell? ⟨W7.heap.size,3,none⟩=some (.pointer (some ⟨W5.heap.size,0,none⟩)):=HBg.out.cell 3
 have f4:W8.cell? ⟨W7.heap.size,4,none⟩=some (.pointer (some ⟨W6.heap.size,0,none⟩)):=HBg.out.cell 4
 have HF:Hid (RetBog a L T K b0 cs S cur w (.returned (.pointer (some ⟨W7.heap.size,0,none⟩))) W8):=hid (by
  have h58:Below W5.heap.size W5 W8:=HB57.out.trans (HBb.out.mono HB57.out.size)
  have h8:Below w.heap.size w W8:=HB5.out.trans (h58.mono HB5.out.size)
  obtain ⟨l1,l2,l3,l4,l5⟩:=HLow.out
  obtain ⟨b1,b2,b3,b4⟩:=HB0.out
  obtain ⟨k1,k2,k3⟩:=HLK.out
  obtain ⟨s1,s2⟩:=HSz.out
  have s7:W6.heap.size≤W7.heap.size:=by have:=HM7.out.lt;omega
  have hS:∀ g,w.heap.size≤g→¬ S g:=fun g hg hs=>by have:=HD.out.lt _ hs;omega
  have hu:=HL3.out
  refine ⟨x,⟨W7.heap.size,W5.heap.size,w.heap.size,u,W6.heap.size⟩,rfl,⟨⟨⟨HD.out.below h8,HHs5.out.below h58,HP.out.2.2.1,HP.out.2.2.2,fun o p h=>(by cases h),HT.out.below h8,HPy.out.below h8,⟨b1,b2,by omega,by omega,by omega,by omega,by omega,b4⟩,⟨hS _ l1,hS _ l2,hS _ l3,hS _ l4,hS _ l5⟩,⟨HAr.out.2.2.2,k2,HAr.out.2.1,by omega⟩⟩,HD7.out.below HBb.out HD7.out.lt,HBr5.out.below h58 HBr5.out.lt,HP.out.1,hS _ s2,hS _ (Nat.le_refl _),by omega⟩,HBg.out,HBu5.out.below h58 HBu5.out.lt,HM7.out.below HBb.out HM7.out.lt,HP.out.2.1,⟨hS _ (by show w.heap.size≤W7.heap.size;omega),hS _ hu,hS _ (by show w.heap.size≤W6.heap.size;omega)⟩,⟨by show b0≤W7.heap.size;omega,by show b0≤W5.heap.size;omega,b3,by show b0≤u;omega,by show b0≤W6.heap.size;omega⟩,k1,k3,HDI.out⟩,h8⟩)
 clear HB5 HBr5 HBu5 HHs5 HLow HB57 HB7 HD7 HM7 HSz HBb hW8
 go_wp2_with fail
 go_ret
 exact HF.out
end
section
open Go.RowKit Go.Maps
theorem infoPtr:(Tryz.prog.info? 54).map (fun i=>(i.zero,i.size,i.bytes))=some (some (.int .u64 0),1,8):=by kernel_rfl
section
variable {P:Program} (w:World)
theorem wpList_app3 {ops:Array Oper} {rest:List Oper} {o:Oper} {a:Act} {Q:Exit→Act→World→Prop} (s x:Operand) (t:TypeId)
  (hw:Region.wanted o (yielded ops a.tmps)=true)
  (ho:o.op = .call { callee := .builtin .append,args:=#[s,x],argTypes:=#[t,t] })
  (base:Nat) (e:TypeId) (i:TypeInfo) (z:Value) (size bytes:Nat) (ht:P.underlying t=some (.slice e)) (hi:P.info? e=some i) (hz:i.zero=some z)
  (hsize:i.size=size) (hby:i.bytes=bytes) (hzs:z.cells.size=size) (hsz:0 < size)
  (v:Value) (n:Nat) (xs:List Value) (hs:a.eval s=v) (hown:w.ownsRow base e size v n xs)
  (B:Nat) (A:Option Addr) (m c:Nat) (news:List Value) (hx:a.eval x = .slice A m c) (hr:Reads w B size A m news) (h1:∀ u∈news,u.oneCell'=true)
  (h63:n+m≤maxLen) (hbytes:(n+m) * bytes≤140737488355328) (hbase:base≤w.heap.size)
  (h:∀ A' n' c' w',n'=n+m→w'.ownsRow base e size (.slice A' n' c') n' (xs++news)→w.grownBy w' v.ownBlock→((Value.slice A' n' c').ownBlock=v.ownBlock∨(Value.slice A' n' c').ownBlock=some w.heap.size)→wpList P ops Q rest (a.put o.dst (.slice A' n' c')) w'):wpList P ops Q (o :: rest) a w:=by
 refine Go.BigFrame.wpList_want hw fun K hK=>?_
 refine wp_append_any w s x t ho base e i z size bytes ht hi hz hsize hby hzs hsz v n xs hs hown B A m c news hx hr h1 h63 hbytes hbase fun v' w' h2 h3 h4=>?_
 obtain ⟨A',c',rfl⟩:=own_slice h2
 exact hK _ _ (h A' _ c' w' rfl h2 h3 h4)
end
section
variable {a:DA} {L T s n K:Nat} {x:HA} {cs:Nat→CS} {f:Nat→Option Nat} {N m b0:Nat} {S:Fp} {cur:Nat→Nat} {w w':World} {d r:Nat}
structure LoS (x:HA) (d r b0 B:Nat):Prop where
 h:x.h < B
 gs:x.gs < B
 pl:x.pl < B
 mr:x.mr < B
 mh:x.mh < B
 d:d < B
 r:r < B
 b:b0≤B
theorem SD.lo (h:SD a L T s n K x cs f N m b0 S cur w d r):LoS x d r b0 w.heap.size:=by
 obtain ⟨h1,h2,h3,h4,h5⟩:=h.ds.hs.lt
 obtain ⟨_,_,l3,_⟩:=h.ds.lo
 exact ⟨h1,h2,h3,h4,h5,h.dir.lt,h.log.lt,by omega⟩
theorem SD.chg {Z:Fp} {B:Nat} (h:SD a L T s n K x cs f N m b0 S cur w d r) (hl:LoS x d r b0 B) (hc:Chg Z w w') (hZ:∀ k,Z k→¬ S k∧B≤k):SD a L T s n K x cs f N m b0 S cur w' d r:=by
 have hn:∀ g,g < B→¬ Z g:=fun g hg hz=>by have:=(hZ g hz).2;omega
 obtain ⟨l1,l2,l3,l4,l5,l6,l7,l8⟩:=h.ds.lo
 refine { h with ds:={ h.ds with dev:=h.ds.dev.chg hc (fun j hj hz=>(hZ j hz).1 hj),hs:=h.ds.hs.chg hc (hn _ hl.h) (hn _ hl.gs) (hn _ hl.pl) (hn _ hl.mr) (hn _ hl.mh),tab:=h.ds.tab.chg hc (hn _ (by have:=hl.b;omega)),pay:=fun i hi=>?_ },dir:=hc.blk h.dir (hn _ hl.d),log:=hc.blk h.log (hn _ hl.r) }
 exact (World.cell?_of_block (w:=w) (hc.block _ h.ds.pay.size (hn _ (by have:=hl.b;show 0 < B;omega)))).trans (h.ds.pay i hi)
theorem run_storesD {L':Nat} (h:Dev a L T w S cur 0) {g:Nat} (hB:Blk w d 240 (dirCells a g r)) (hdS:¬ S d) {A:Option Addr} {m c base:Nat} {p:List Ins} {ws:List (Nat × Nat)} (ho:w.ownsRow base 284 3 (.slice A m c) m (insCells p)) (hb:∀ k,S k→k < base) (hp:IsStores ws p)
  (hw:∀ e∈ws,e.1 % 8=0∧e.1 < 64 * L∧e.2 < 18446744073709551616) (hl:ws.length≤1000) (hL':2 * ws.length+1≤L') (hT:T+L'≤1000000000) :
  Calls Tryz.prog 78 #[.slice A m c,dirV d] w (RetDev a L (T+L') w S (wrS cur ws) 0 (.int .i64 0)):=by
 obtain ⟨hg,hr,hlen⟩:=isStores_good hp hw cur
 have hm:p.length=m:=by have:=ho.1;rw [insCells_len] at this;omega
 refine (runD_any h hB hdS A m c p (Reads.of_own ho) ?_ hg (by omega) (by omega)).mono ?_
 ·intro ad had hs
  rcases ho.2 with ⟨hv,_⟩ | ⟨g,cap,cs,hv,hge,_⟩
  ·injection hv with h1;rw [h1] at had;cases had
  ·injection hv with h1
   rw [h1] at had
   injection had with h2
   subst h2
   have:=hb _ hs
   simp at this
   omega
 ·rintro e w' ⟨he,S',hd,hc,hgr⟩
  rw [hr] at hd
  exact ⟨he,S',hd.more (by omega) (by omega),hc,hgr⟩
theorem At.inL {q k i:Nat} (h:At s K cs q k i) (hd:DS a L T s n K x cs f N m b0 S cur w):pOff q+8 * payW (cs k).cl≤64 * L∧pOff q % 8=0:=by
 have h1:=h.lo
 have h2:=off_lt h.2.2.1
 have h3:=hd.line h.1
 omega
def RetPaid (a:DA) (L T s n K:Nat) (x:HA) (cs:Nat→CS) (f:Nat→Option Nat) (N m b0:Nat) (S:Fp) (cur:Nat→Nat) (w:World) (d r:Nat) (e:Ending) (w':World):Prop :=
 e = .returned (.int .i64 0)∧∃ S',SD a L T s n K x cs f N m b0 S' cur w' d r∧Chg S w w'∧Grew S S' w
theorem SD.paid (h:SD a L T s n K x cs f N m b0 S cur w d r) {q k i:Nat} {l:List Nat} (hq:At s K cs q k i) (hl:l.length=payW (cs k).cl) (hv:∀ y∈l,y < 18446744073709551616) {A:Option Addr} {mm c base:Nat} {p:List Ins} (ho:w.ownsRow base 284 3 (.slice A mm c) mm (insCells p)) (hb:∀ k,S k→k < base) (hp:IsStores (pwW (pOff q) l) p) (hT:T+200≤1000000000) :
  Calls Tryz.prog 78 #[.slice A mm c,dirV d] w (RetPaid a L (T+200) s n K x cs f N m b0 S (wrS cur (pwW (pOff q) l)) w d r):=by
 obtain ⟨h1,h2⟩:=hq.inL h.ds
 have h60:=(pay_le (cs k).cl).2
 have hgetD:∀ j,j < l.length→l.getD j 0 < 18446744073709551616:=fun j hj=>by
  rw [List.getD_eq_getElem?_getD,List.getElem?_eq_getElem hj]
  exact hv _ (List.getElem_mem hj)
 have hw:∀ e∈pwW (pOff q) l,e.1 % 8=0∧e.1 < 64 * L∧e.2 < 18446744073709551616:=fun e he=>by
  obtain ⟨j,hj,rfl⟩:=pwW_mem he
  exact ⟨by show (pOff q+8 * j) % 8=0;omega,by show pOff q+8 * j < 64 * L;omega,hgetD j hj⟩
 refine (run_storesD (L':=200) h.ds.dev h.dir h.offd ho hb hp hw (by rw [pwW_len];omega) (by rw [pwW_len];omega) hT).mono ?_
 rintro e w' ⟨rfl,S',hd,hc,hg⟩
 refine ⟨rfl,S',?_,hc,hg⟩
 have hds:=h.ds.dev_ hd hc hg (h.ds.ok_pay hq.1 hq.2.1 rfl hq.2.2.1 (fun e he=>by
  obtain ⟨j,hj,rfl⟩:=pwW_mem he
  exact ⟨j,by omega,by show pOff q+8 * j=_;rw [hq.2.2.2];rfl⟩)) (wrS_bnd _ _ h.ds.bnd (fun e he=>(hw e he).2.2))
 refine h.keep hds (hc.mono (fun _ h => .inl h)) hg ?_
 rw [pwW_other hq (by omega) (fun j _=>by have:=h.ln;omega)]
 exact h.idle
end
end
section
open Go.RowKit Go.Maps
def KeepL (K:Nat) (cs:Nat→CS) (cur:Nat→Nat) (bl:List Nat) (cs':Nat→CS) (cur':Nat→Nat):Prop :=
 ∀ q kind k i,LiveA 53 K cs q kind k i→LiveA 53 K cs' q kind k i∧(cs' k).cl=(cs k).cl∧pOff q ∉ bl.map pOff∧∀ j,j < payW (cs k).cl→cur' (pOff q / 8+j)=cur (pOff q / 8+j)
section
variable {a:DA} {L T n K:Nat} {x:HA} {cs cs2:Nat→CS} {f f2:Nat→Option Nat} {N m b0:Nat} {S:Fp} {cur cur2:Nat→Nat} {w:World} {al p bl ks:List Nat} {V:Nat→Nat} {cm i v:Nat}
theorem keepL_of (hd:DS a L T 53 n K x cs2 f2 N m b0 S cur2 w) (hw:W2 53 K cs f cur al p cs2 f2 cur2 bl bl.length) (hA:AOk 53 K cs2 ks (tlOf 53 cs2 bl) (dlOf 53 cs2 []) V)
  (h96:([(3328+8 * i,v)]++ks.flatMap (acW 53 cs2 (tlOf 53 cs2 bl) (dlOf 53 cs2 []) V)).length≤96) (hi:i < 8) :
  KeepL K cs cur bl (acC cs2 ks (tlOf 53 cs2 bl) (dlOf 53 cs2 []) V) (rdG 0 cur2 ([(3328+8 * i,v)]++ks.flatMap (acW 53 cs2 (tlOf 53 cs2 bl) (dlOf 53 cs2 []) V)) cm):=by
 intro q kind k i2 hl
 have hat:=hl.at_
 have e1:=hw.w1.fr.chunk k hat.1 hat.2.1
 have hst:((cs k).bs i2).st=177:=by rw [hl.bk]
 have hnv:¬ Vac 53 K cs f (cs k).cl k i2:=fun hv=>by
  have:=hv.2.2.2.2.1
  omega
 have hl2:LiveA 53 K cs2 q kind k i2:=⟨⟨hat.1,by rw [e1];exact hat.2.1,by rw [e1];exact hat.2.2.1,by rw [hat.2.2.2];unfold offO;rw [e1]⟩,by rw [e1];exact hl.bk,hl.kind_,hl.nz,hl.lt,hl.top⟩
 have hne:∀ r∈bl,pOff r≠pOff q:=fun r hr e=>hnv (hw.w1.fresh r hr k i2 ⟨hat.1,hat.2.1,hat.2.2.1,e.trans hat.2.2.2⟩)
 have hat2:∀ r∈bl,∃ k i,At 53 K cs2 r k i:=fun r hr=>by
  obtain ⟨j,hj,e⟩:=List.getElem_of_mem hr
  obtain ⟨k3,i3,h3,_⟩:=(hw.w1.rq j hj).cls
  exact ⟨k3,i3,e ▸ h3⟩
 refine ⟨pub_live hat2 (fun r hr=>absurd hr (by simp)) hl2 hne (fun r hr=>absurd hr (by simp)),?_,?_,fun j hj=>?_⟩
 ·obtain ⟨_,e2,_⟩:=acC_dv cs2 ks (tlOf 53 cs2 bl) (dlOf 53 cs2 []) V k
  rw [e2,e1]
 ·intro hm
  obtain ⟨r,hr,e⟩:=List.mem_map.1 hm
  exact hne r hr e
 ·have hl3:=hl2.at_.lines.1
  have h5:=hw.w1.fr.held k i2 hat.1 hat.2.1 hat.2.2.1 hnv j hj
  have h6:=pub_pay (s0:=0) (cm:=cm) (j:=j) hd (by omega) hA h96 hl2.at_.1 hl2.at_.2.1 hl2.at_.2.2.1 (by rw [e1];exact hj) (fun e he=>by
   simp at he
   subst he
   show (3328+8 * i) / 8≠_
   omega)
  rw [e1] at h6 hl3
  rw [hl3]
  exact h6.trans h5
end
end
section
open Go.RowKit Go.Maps
def Alive (s K:Nat) (cs:Nat→CS) (q:Nat):Prop:=∃ kind k i,LiveA s K cs q kind k i
section
variable {s K:Nat} {cs:Nat→CS} {f:Nat→Option Nat} {cur:Nat→Nat}
theorem LiveA.same {q p kq kp k i k' i':Nat} (h:LiveA s K cs q kq k i) (h':LiveA s K cs p kp k' i') (e:pOff p=pOff q):p=q:=by
 have ha:At s K cs q k' i':=⟨h'.at_.1,h'.at_.2.1,h'.at_.2.2.1,e ▸ h'.at_.2.2.2⟩
 obtain ⟨rfl,rfl⟩:=h.at_.uniq ha
 have hb:=h.bk.symm.trans h'.bk
 simp only [BK.mk.injEq] at hb
 rw [pMk_parts h.top,pMk_parts h'.top,e,hb.1,h.kind_,h'.kind_,hb.2.1]
theorem pub_only {keep free ks:List Nat} {V:Nat→Nat} {q:Nat} (hA:AOk s K cs ks (tlOf s cs keep) (dlOf s cs free) V) (hks:∀ k,k∈ks↔k < K∧(tlOf s cs keep k≠[]∨dlOf s cs free k≠[]))
  (hkp:∀ p∈keep,∃ kind c,kind < 128∧Rq s K cs f kind p c) (hfr:∀ p∈free,∃ k i,At s K cs p k i) (h:Alive s K (acC cs ks (tlOf s cs keep) (dlOf s cs free) V) q):q∈keep∨(Alive s K cs q∧∀ p∈free,pOff p≠pOff q):=by
 obtain ⟨kind,k,i,hl⟩:=h
 by_cases h1:∃ p∈keep,pOff p=pOff q
 ·obtain ⟨p,hp,e⟩:=h1
  obtain ⟨kd,c,h128,hr⟩:=hkp p hp
  obtain ⟨k2,i2,hlp,_⟩:=pub_keep hA hks hr hp h128
  exact .inl (hl.same hlp e ▸ hp)
 ·have hat:At s K cs q k i:=by
   obtain ⟨e1,e2,_⟩:=acC_dv cs ks (tlOf s cs keep) (dlOf s cs free) V k
   obtain ⟨a1,a2,a3,a4⟩:=hl.at_
   refine ⟨a1,e1 ▸ a2,e2 ▸ a3,?_⟩
   rw [a4]
   unfold offO
   rw [e2]
  have h2:∀ p∈free,pOff p≠pOff q:=fun p hp e=>by
   obtain ⟨k2,i2,hap⟩:=hfr p hp
   have hap2:At s K cs q k2 i2:=⟨hap.1,hap.2.1,hap.2.2.1,e ▸ hap.2.2.2⟩
   obtain ⟨rfl,rfl⟩:=hat.uniq hap2
   have hm:=dl_mem hap hp
   have hk:k∈ks:=(hks k).2 ⟨hap.1, .inr (fun e=>by rw [e] at hm;exact absurd hm (by simp))⟩
   have hb:=hl.bk
   unfold acC at hb
   rw [if_pos hk] at hb
   have hb2:actB (cs k).bs (tlOf s cs keep k) (dlOf s cs free k) i=⟨pGen q,kind,177⟩:=hb
   rw [actB_dr (hA.once k hk) hm] at hb2
   unfold freedB at hb2
   split at hb2 <;> simp at hb2
  refine .inr ⟨⟨kind,k,i,hat,?_,hl.kind_,hl.nz,hl.lt,hl.top⟩,h2⟩
  rw [← hl.bk]
  exact (pub_bs (fun p hp=>by
   obtain ⟨kd,c,_,hr⟩:=hkp p hp
   obtain ⟨k2,i2,ha,_⟩:=hr.cls
   exact ⟨k2,i2,ha⟩) hfr hat.2.2.1 (fun p hp e=>h1 ⟨p,hp,e.trans hat.2.2.2.symm⟩) (fun p hp e=>h2 p hp (e.trans hat.2.2.2.symm))).symm
theorem Fr.alive {cs2:Nat→CS} {f2:Nat→Option Nat} {cur2:Nat→Nat} {q:Nat} (hF:Fr s K cs f cur cs2 f2 cur2) (h:Alive s K cs2 q):Alive s K cs q:=by
 obtain ⟨kind,k,i,hl⟩:=h
 cases hd:(cs k).dv
 ·have:=hF.neu k i hl.at_.1 hd hl.at_.2.1
  rw [hl.bk] at this
  exact absurd rfl this
 ·have e:=hF.chunk k hl.at_.1 hd
  obtain ⟨a1,a2,a3,a4⟩:=hl.at_
  refine ⟨kind,k,i,⟨a1,hd,by rw [← e];exact a3,?_⟩,by rw [← e];exact hl.bk,hl.kind_,hl.nz,hl.lt,hl.top⟩
  rw [a4]
  unfold offO
  rw [e]
end
end
end Go.Proofs.YtfkjjoglnmeciaaGreatDoor
