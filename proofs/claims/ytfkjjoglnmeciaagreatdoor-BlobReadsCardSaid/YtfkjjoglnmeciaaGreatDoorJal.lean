/- The walks and laws that the claim leans on, part 12. -/
import Derived.Test.YtfkjjoglnmeciaaGreatDoorJak
set_option maxRecDepth 100000
set_option maxHeartbeats 16000000
namespace Go.Proofs.YtfkjjoglnmeciaaGreatDoor
open Go.Lib (hid)
section
open Go.RowKit
theorem loadU_none {a:DA} {L T:Nat} {w:World} {S:Fp} {cur:Nat→Nat} {F:Nat} (h:Dev a L T w S cur F) (g s n:Nat) (hB:Blk w g 330 (ulogCells a s n)) (hs:s < L) (hn:2≤n) (hn2:n≤4096) (h0:cur (8 * s)=0) :
  Calls Tryz.prog 286 #[.pointer (some ⟨g,0,none⟩)] w fun e w'=>e = .returned (.tuple #[.slice none 0 0, .bool true, .int .i64 0])∧Below w.heap.size w w':=by
 have HL:=hid (entries_none h g s n hB hs hn hn2 h0)
 clear h hB
 go_enter Tryz.func286,Tryz.ntmps286
 go_wp2_with (go_at_call 341;refine HL.out.mono ?_;rintro e w1 ⟨rfl,hb1⟩;have HW:=hid hb1;clear hb1)
 go_loopw [7,20] (fun l i wr=>l = .slice none 0 0∧i = .int .i64 0∧Hid (Below w.heap.size w wr)) (fun _ _ _=>0)
 case atStart=>exact ⟨rfl,rfl,HW⟩
 case round =>
  obtain ⟨rfl,rfl,HR⟩:=hrel
  go_wp2
  go_ret3
  exact ⟨rfl,HR.out⟩
theorem undoRecover_none {a:DA} {L T:Nat} {w:World} {S:Fp} {cur:Nat→Nat} {F:Nat} (h:Dev a L T w S cur F) (g s n:Nat) (hB:Blk w g 330 (ulogCells a s n)) (hs:s < L) (hn:2≤n) (hn2:n≤4096) (h0:cur (8 * s)=0) :
  Calls Tryz.prog 180 #[.pointer (some ⟨g,0,none⟩)] w fun e w'=>e = .returned (.tuple #[.int .i64 0, .int .i64 0])∧Below w.heap.size w w':=by
 have HL:=hid (loadU_none h g s n hB hs hn hn2 h0)
 clear h hB
 go_enter Tryz.func180,Tryz.ntmps180
 go_wp2_with (go_at_call 286;refine HL.out.mono ?_;rintro e w1 ⟨rfl,hb1⟩;have HW:=hid hb1;clear hb1)
 go_ret2
 exact ⟨rfl,HW.out⟩
end
section
open Go.RowKit
theorem look_core {a:DA} {L T:Nat} {w:World} {S:Fp} {cur:Nat→Nat} {F:Nat} (h:Dev a L T w S cur F) (c:Nat) (hc:c+32≤L) (V:Nat) (x0 x1 x2:Int) (hv:cur (8 * c)=V)
  (hh:∀ W,Below w.heap.size w W→Calls Tryz.prog 350 #[.int .u64 (V:Int)] W fun e w'=>e = .returned (.tuple #[.agg #[.int .i64 x0, .int .i64 x1, .int .u16 x2], .bool true])∧Below W.heap.size W w') :
  Calls Tryz.prog 293 #[memV a, .int .i64 (c:Int)] w fun e w'=>e = .returned (.tuple #[.agg #[.int .i64 x0, .int .i64 x1, .int .u16 x2], .int .i64 0])∧Below w.heap.size w w':=by
 have HLd:=hid (load_at h (64 * c) V (by omega) (by omega) (by rw [show 64 * c / 8=8 * c by omega];exact hv))
 have HD:=hid h
 have HH:=hid hh
 have hm:=methLoad (some ⟨a.th 0,0,none⟩)
 have hna:=aheadLoad ⟨a.th 0,0,none⟩
 have hmE:=methErr (some ⟨a.th 0,0,none⟩)
 have hmS:=methSize (some ⟨a.th 0,0,none⟩)
 have hq:=eqMem (some ⟨a.th 0,0,none⟩)
 have HB0:Hid (Below w.heap.size w (w.alloc (.cells #[.int .i64 0, .int .i64 0, .int .u16 0] 304))):=(Below.refl _ _).alloc (Nat.le_refl _) _
 obtain ⟨ls,exe,per,cs,lsC,hdc,hnt⟩:=h.below HB0.out
 have hL:=hdc.hL
 obtain ⟨f0,f2,_,_,f4⟩:=hdc.facts (j:=0) (by omega)
 have HBk:=hid (Blk.new w 304 #[.int .i64 0, .int .i64 0, .int .u16 0])
 clear hdc hnt h hh
 unfold memV at *
 have e1:decide ((c:Int) < 0)=false:=decide_eq_false (by omega)
 have u1:IntKind.u64.wrap ((L:Int) * 64)=(L:Int) * 64:=by rw [IntKind.wrap_u64];omega
 have u3:IntKind.u64.wrap (c:Int)=(c:Int):=by rw [IntKind.wrap_u64];omega
 have u4:IntKind.u64.wrap ((L:Int) - 32)=(L:Int) - 32:=by rw [IntKind.wrap_u64];omega
 have u5:IntKind.u64.wrap ((c:Int) * 64)=((64 * c:Nat):Int):=by rw [IntKind.wrap_u64];omega
 have d1:((L:Int) * 64).tdiv 64=(L:Int):=by rw [Int.mul_tdiv_cancel _ (by decide)]
 have e2:decide ((L:Int) < 32)=false:=decide_eq_false (by omega)
 have e3:decide ((L:Int) - 32 < (c:Int))=false:=decide_eq_false (by omega)
 generalize 64 * c=z at *
 go_enter Tryz.func293,Tryz.ntmps293
 go_wp2
 generalize w.alloc (.cells #[.int .i64 0, .int .i64 0, .int .u16 0] 304)=W at *
 have HB1:Hid (Below W.heap.size W W.drew):=(Below.refl _ _).drew
 have HB2:Hid (Below w.heap.size w W.drew):=HB0.out.drew
 go_cut [8] from 38 to 44 (fun v wx=>v = .int .u64 (V:Int)∧Hid (Below W.heap.size W wx))
 case first =>
  go_region_with (first | (go_at_call 65;refine (HLd.out _ HB2.out).mono ?_;rintro e w1 ⟨rfl,rfl⟩) | go_in)
  all_goals (go_wp2_with fail;go_meet;exact ⟨rfl,HB1⟩)
 case rest =>
  obtain ⟨rfl,HW⟩:=hcut
  have HWw:=hid (HB0.out.trans (HW.out.mono HB0.out.size))
  obtain ⟨ls1,exe1,per1,cs1,lsC1,hdc1,hnt1⟩:=HD.out.below HWw.out
  obtain ⟨k0,_,_,_,k4⟩:=hdc1.facts (j:=0) (by omega)
  have HHw:=hid (HH.out wc HWw.out)
  have HBc:=hid (HBk.out.below HW.out HBk.out.lt)
  clear hdc1 hnt1
  go_wp2_with (first
   | (go_at_call 350;refine HHw.out.mono ?_;rintro e w1 ⟨rfl,hb1⟩;have HB3:=hid (HWw.out.trans (hb1.mono HWw.out.size));have hk:=HBc.out.below hb1 HBc.out.lt;have hlt:=hk.lt;have c0:w1.cell? ⟨w.heap.size,0,none⟩=some (.int .i64 0):=hk.cell 0;have c1:w1.cell? ⟨w.heap.size,1,none⟩=some (.int .i64 0):=hk.cell 1;have c2:w1.cell? ⟨w.heap.size,2,none⟩=some (.int .u16 0):=hk.cell 2;have z0:w1.frozen? ⟨w.heap.size,0,none⟩=false:=hk.frozen 0;have z1:w1.frozen? ⟨w.heap.size,1,none⟩=false:=hk.frozen 1;have z2:w1.frozen? ⟨w.heap.size,2,none⟩=false:=hk.frozen 2;clear hb1 hk)
   | go_in)
  refine bodyPost_ret (v := .tuple #[.agg #[.int .i64 x0, .int .i64 x1, .int .u16 x2], .int .i64 0]) (by simp [results,Tryz.results293,go_sem,c0,c1,c2,hlt]) rfl ⟨rfl,?_⟩
  have h1:=((HB3.out.setCell (p:=⟨w.heap.size,0,none⟩) (Nat.le_refl _) (.int .i64 x0)).setCell (p:=⟨w.heap.size,1,none⟩) (Nat.le_refl _) (.int .i64 x1)).setCell (p:=⟨w.heap.size,2,none⟩) (Nat.le_refl _) (.int .u16 x2)
  exact h1.alloc h1.size _
end
section
open Go.RowKit Go.Maps
theorem wpList_app2 {P:Program} (w:World) {ops:Array Oper} {rest:List Oper} {o:Oper} {a:Act} {Q:Exit→Act→World→Prop} (s x:Operand) (t:TypeId)
  (hw:Region.wanted o (yielded ops a.tmps)=true)
  (ho:o.op = .call { callee := .builtin .append,args:=#[s,x],argTypes:=#[t,t] })
  (base:Nat) (e:TypeId) (i:TypeInfo) (z:Value) (size bytes:Nat) (ht:P.underlying t=some (.slice e)) (hi:P.info? e=some i) (hz:i.zero=some z)
  (hsize:i.size=size) (hby:i.bytes=bytes) (hzs:z.cells.size=size) (hsz:0 < size)
  (v:Value) (n:Nat) (xs:List Value) (hs:a.eval s=v) (hown:w.ownsRow base e size v n xs)
  (B:Nat) (A:Option Addr) (m c:Nat) (news:List Value) (hx:a.eval x = .slice A m c) (hr:Reads w B size A m news) (h1:∀ u∈news,u.oneCell'=true)
  (h63:n+m≤maxLen) (hbytes:(n+m) * bytes≤140737488355328) (hbase:base≤w.heap.size)
  (h:∀ A' n' c' w',n'=n+m→w'.ownsRow base e size (.slice A' n' c') n' (xs++news)→w.grownBy w' v.ownBlock→((Value.slice A' n' c').ownBlock=v.ownBlock∨(Value.slice A' n' c').ownBlock=some w.heap.size)→wpList P ops Q rest (a.put o.dst (.slice A' n' c')) w'):wpList P ops Q (o :: rest) a w:=by
 refine Go.BigFrame.wpList_want hw fun K hK=>?_
 refine wp_append_any w s x t ho base e i z size bytes ht hi hz hsize hby hzs hsz v n xs hs hown B A m c news hx hr h1 h63 hbytes hbase fun v' w' h2 h3 h4=>?_
 obtain ⟨A',c',rfl⟩:=own_slice h2
 exact hK _ _ (h A' _ c' w' rfl h2 h3 h4)
structure Mk where
 id:Nat
 k:Nat
 x:Bool
 y:Bool
 D:DataW Unit
 n:Nat
section
variable {c:CX} {w w':World} {S:Fp} {t:TX} {l:List Mk}
end
end
section
open Go.RowKit
section
variable {a:DA} {L T:Nat} {S:Fp} {cur:Nat→Nat} {w:World}
theorem marked_any {F:Nat} (h:Dev a L T w S cur F) (ht:Tab w) (hp:Pay w) (ln cl g V i:Nat) (b:BK) (hb:b.In) (hl:ln+32≤L) (hc:cl < 5) (hi:i < perC cl) (hV:V < 18446744073709551616) (hv:cur (8 * ln+1)=V) (hw:cur (8 * ln+offB cl i)=b.w) :
  Calls Tryz.prog 297 #[chV a ln cl 0 g, .int .i64 (i:Int), .int .u8 177] w fun e w'=>e = .returned (.bool (bitAt V i && decide (b.st=177)))∧Below w.heap.size w w':=by
 have hb0:Below w.heap.size w (w.alloc (.cells (chCells a ln cl g) 306)):=(Below.refl _ _).alloc (Nat.le_refl _) _
 have HB0:=hid hb0
 have HHas:=hid (chHas_any a ln cl 0 g i hc _ (hp.below hb0))
 have HRd:Hid (∀ W,Below w.heap.size w W→Calls Tryz.prog 295 #[chV a ln cl 0 g, .int .i64 (i:Int)] W fun e w'=>e = .returned (.tuple #[b.v, .bool true, .bool (bitAt V i)])∧Below W.heap.size W w'):=hid (fun W hW=>read_any (h.below hW) (ht.below hW) (hp.below hW) ln cl g V i b hb hl hc hi hV hv hw)
 have HK:=hid (Blk.new w 306 (chCells a ln cl g))
 rw [decide_eq_true hi] at HHas
 have es:((b.st:Int) == 177)=decide (b.st=177):=by
  rw [Bool.eq_iff_iff]
  simp
  omega
 clear h ht hp hb0 hv hw
 obtain ⟨gen,kd,st⟩:=b
 unfold chV BK.v at *
 unfold chCells memV at *
 dsimp only at *
 generalize decide (st=177)=sb at *
 generalize bitAt V i=bv at *
 go_enter Tryz.func297,Tryz.ntmps297
 go_wp2_with fail
 refine HHas.out.mono ?_
 rintro e w1 ⟨rfl,hb1⟩
 have HB1:=hid (HB0.out.trans (hb1.mono HB0.out.size))
 have hk:=HK.out.below hb1 HK.out.lt
 have f0:w1.cell? ⟨w.heap.size,0,none⟩=some (.iface 58 (.pointer (some ⟨a.th 0,0,none⟩))):=hk.cell 0
 have f1:w1.cell? ⟨w.heap.size,1,none⟩=some (.int .i64 (ln:Int)):=hk.cell 1
 have f2:w1.cell? ⟨w.heap.size,2,none⟩=some (.int .i64 (cl:Int)):=hk.cell 2
 have f3:w1.cell? ⟨w.heap.size,3,none⟩=some (.int .i64 0):=hk.cell 3
 have f4:w1.cell? ⟨w.heap.size,4,none⟩=some (.int .u16 (g:Int)):=hk.cell 4
 clear hb1 hk HK HHas
 go_wp2_with fail
 refine (HRd.out _ HB1.out).mono ?_
 rintro e w2 ⟨rfl,hb2⟩
 have hbx:Below w1.heap.size w1 (w2.alloc (.cells #[.int .u16 (gen:Int), .int .u8 (kd:Int), .int .u8 (st:Int)] 401)):=hb2.alloc hb2.size _
 have HBX:=hid (HB1.out.trans (hbx.mono HB1.out.size))
 clear hb2 hbx HRd HB1
 cases bv <;> go_wp2 <;> go_ret <;> exact ⟨by first | rfl | simp [es],HBX.out⟩
theorem taken_any {F:Nat} (h:Dev a L T w S cur F) (ht:Tab w) (hp:Pay w) (ln cl g V i:Nat) (b:BK) (hb:b.In) (hl:ln+32≤L) (hc:cl < 5) (hi:i < perC cl) (hV:V < 18446744073709551616) (hv:cur (8 * ln+1)=V) (hw:cur (8 * ln+offB cl i)=b.w) :
  Calls Tryz.prog 209 #[chV a ln cl 0 g, .int .i64 (i:Int)] w fun e w'=>e = .returned (.bool (bitAt V i && decide (b.st=177)))∧Below w.heap.size w w':=by
 have hb0:Below w.heap.size w (w.alloc (.cells (chCells a ln cl g) 306)):=(Below.refl _ _).alloc (Nat.le_refl _) _
 have HB0:=hid hb0
 have HM:=hid (marked_any (h.below hb0) (ht.below hb0) (hp.below hb0) ln cl g V i b hb hl hc hi hV hv hw)
 have HK:=hid (Blk.new w 306 (chCells a ln cl g))
 clear h ht hp hb0 hv hw
 unfold chV at *
 unfold chCells memV at *
 have f0:(w.alloc (.cells #[.iface 58 (.pointer (some ⟨a.th 0,0,none⟩)), .int .i64 (ln:Int), .int .i64 (cl:Int), .int .i64 0, .int .u16 (g:Int)] 306)).cell? ⟨w.heap.size,0,none⟩=some (.iface 58 (.pointer (some ⟨a.th 0,0,none⟩))):=HK.out.cell 0
 have f1:(w.alloc (.cells #[.iface 58 (.pointer (some ⟨a.th 0,0,none⟩)), .int .i64 (ln:Int), .int .i64 (cl:Int), .int .i64 0, .int .u16 (g:Int)] 306)).cell? ⟨w.heap.size,1,none⟩=some (.int .i64 (ln:Int)):=HK.out.cell 1
 go_enter Tryz.func209,Tryz.ntmps209
 go_wp2_with fail
 refine HM.out.mono ?_
 rintro e w1 ⟨rfl,hb1⟩
 have HB1:=hid (HB0.out.trans (hb1.mono HB0.out.size))
 clear hb1 HM HK
 go_wp2
 go_ret
 exact ⟨rfl,HB1.out⟩
end
end
end Go.Proofs.YtfkjjoglnmeciaaGreatDoor
