/- The walks and laws that the claim leans on, part 46. -/
import Derived.Test.YtnlokpakiambaaaGreatDoorJbm
import Derived.RangeFuncNested
set_option maxRecDepth 100000
set_option maxHeartbeats 16000000
namespace Go.Proofs.YtnlokpakiambaaaGreatDoor
open Go.Lib (hid)
section
open Go.RowKit Go.Maps
section
variable {a:DA} {L T K:Nat} {x:HA} {y:WA} {cs:Nat→CS} {f:Nat→Option Nat} {N m b0:Nat} {S:Fp} {cur:Nat→Nat} {w w':World}
def RetSti (a:DA) (L T K:Nat) (x:HA) (y:WA) (cs:Nat→CS) (f:Nat→Option Nat) (N m b0:Nat) (S:Fp) (cur:Nat→Nat) (w:World) (o v:Nat) (e:Ending) (w':World):Prop :=
 e = .returned (.tuple #[])∧∃ S',BW a L (T+1) K x y cs f N m b0 S' (wrS cur [(o,v)]) w'∧Chg S w w'∧Grew S S' w
theorem BW.storeW (h:BW a L T K x y cs f N m b0 S cur w) {q k i:Nat} (hq:At 53 K cs q k i) {j v:Nat} (hj:j < payW (cs k).cl) (hv:v < 18446744073709551616) (hT:T < 1000000000) :
  Calls Tryz.prog 23 #[.pointer (some ⟨a.th 0,0,none⟩), .int .u64 ((pOff q+8 * j:Nat):Int), .int .u64 (v:Int)] w (RetSti a L T K x y cs f N m b0 S cur w (pOff q+8 * j) v):=by
 obtain ⟨h1,h2⟩:=hq.inL h.sd.ds
 have hl:=hq.lines.1
 refine (store_dev h.sd.ds.dev (pOff q+8 * j) v (by omega) (by omega) hT).mono ?_
 rintro e w' ⟨rfl,S',hd,hc,hg⟩
 refine ⟨rfl,S',?_,hc,hg⟩
 have he:∀ z,(∀ j,j < payW (cs k).cl→z≠8 * (53+32 * k)+offB (cs k).cl i+1+j)→wrS cur [(pOff q+8 * j,v)] z=cur z:=fun z hz=>wrS_other _ _ _ (fun e he=>by
  simp at he
  subst he
  show (pOff q+8 * j) / 8≠z
  have:=hz j hj
  omega)
 have hds:=h.sd.ds.dev_ (cur':=wrS cur [(pOff q+8 * j,v)]) hd hc hg (h.sd.ds.ok_pay hq.1 hq.2.1 rfl hq.2.2.1 (fun e he=>by
  simp at he
  subst he
  exact ⟨j,hj,by show pOff q+8 * j=_;rw [hq.2.2.2];rfl⟩)) (wrS_bnd _ _ h.sd.ds.bnd (fun e he=>by
  simp at he
  subst he
  exact hv))
 have hc2:Chg (sfp S x) w w':=hc.mono (fun _ h => .inl h)
 have hsd:=h.sd.keep hds hc2 hg (by rw [he _ (fun j _=>by omega)];exact h.sd.idle)
 exact h.keep hsd hc2 hg (by rw [he _ (fun j _=>by omega)];exact h.uid)
end
end
section
open Go.RowKit Go.Maps
def KpC (n:Nat) (Zb:Fp) (A B:World):Prop:=Below n A B∧∀ k o,A.heap[k]?=some o→o.isCells=true→¬ Zb k→B.heap[k]?=some o
theorem KpC.trans {n:Nat} {Zb:Fp} {A B C:World} (h:KpC n Zb A B) (k:KpC n Zb B C):KpC n Zb A C :=
 ⟨h.1.trans k.1,fun i o ho hc hz=>k.2 i o (h.2 i o ho hc hz) hc hz⟩
theorem KpC.blk {n:Nat} {Zb:Fp} {A B:World} (h:KpC n Zb A B) {g:Nat} {t:TypeId} {cs:Array Value} (hb:Blk A g t cs) (hz:¬ Zb g):Blk B g t cs:=h.2 g _ hb rfl hz
def BodyX {σ:Type} (fn:Nat) (caps:Array Value) (w0:World) (I:Nat→Nat→σ→Prop) (Zb:Fp) (R:σ→World→Prop) (Rx:World→Prop) (st:σ→Nat→Nat × Bool × Nat × Nat→σ × Bool):Prop :=
 ∀ (s:σ) (n last p sp:Nat) (dl:Bool) (dt ol:Nat) (W:World),n < 4096→I n last s→sp < last→R s W→Below w0.heap.size w0 W→verOk sp dl dt=true→p < 18446744073709551616→sp≤4611686018427387903→dt < 18446744073709551616→ol < 18446744073709551616 →
  Calls Tryz.prog fn (#[.int .u64 (p:Int), .agg #[.int .u64 (sp:Int), .bool dl, .int .u64 (dt:Int), .int .u64 (ol:Int)]]++caps) W fun e w'=>(e = .returned (.bool (st s p (sp,dl,dt,ol)).2)∧R (st s p (sp,dl,dt,ol)).1 w'∧KpC w0.heap.size Zb W w')∨(e = .returned (.bool false)∧Rx w')
def RetFolX {σ:Type} (w0:World) (R:σ→World→Prop) (Rx:World→Prop) (X:Nat × σ) (e:Ending) (w':World):Prop:=RetFol w0 R X e w'∨(e = .returned (.int .i64 0)∧Rx w')
section
variable {a:DA} {L T s n K:Nat} {x:HA} {cs:Nat→CS} {f:Nat→Option Nat} {N m b0:Nat} {S:Fp} {cur:Nat→Nat} {w w0:World} {d r:Nat}
theorem vfollowx_any {σ:Type} (h:SD a L T s n K x cs f N m b0 S cur w0 d r) (hw:Below w0.heap.size w0 w) (head:Nat) (hh:head < 18446744073709551616) (fn:Nat) (caps:Array Value) (I:Nat→Nat→σ→Prop) (Zb:Fp) (R:σ→World→Prop) (Rx:World→Prop) (st:σ→Nat→Nat × Bool × Nat × Nat→σ × Bool) (s0:σ) (hZ:∀ s W,R s W→∀ k,Zb k→k < W.heap.size) (hI0:I 0 4611686018427387904 s0) (hIs:∀ n last s p v,n < 4096→I n last s→v.1 < last→verOk v.1 v.2.1 v.2.2.1=true→I (n+1) v.1 (st s p v).1) (hR0:R s0 w) (hRb:∀ s W W',R s W→Below W.heap.size W W'→R s W')
  (heg:∀ args w,(callFunc fn args).run Tryz.prog w = .ok (.enter fn args) w) (hbody:BodyX fn caps w0 I Zb R Rx st) :
  Calls Tryz.prog 55 #[.iface 43 (.pointer (some ⟨d,0,none⟩)), .int .u64 (head:Int), .func (.func fn) #[] caps] w (RetFolX w0 R Rx (folW (verR cur (fun q=>chkR s K cs q 7)) st 4097 head 4611686018427387904 0 s0)):=by
 have HRd:Hid (∀ (p:Nat) (W:World),p < 18446744073709551616→Below w0.heap.size w0 W→Calls Tryz.prog 31 #[.iface 43 (.pointer (some ⟨d,0,none⟩)), .int .u64 (p:Int)] W (RetVer W (verR cur (fun q=>chkR s K cs q 7) p))):=hid (fun p W hp hW=>vread_any (h.below hW) p hp)
 have HEr:Hid (∀ W,Below w0.heap.size w0 W→Calls Tryz.prog 288 #[.pointer (some ⟨d,0,none⟩)] W fun e w'=>e = .returned (.int .i64 0)∧W=w'):=hid (fun W hW=>errD (h.below hW).ds.dev ((h.below hW).dir))
 have HDm:Hid (∀ W,Below w0.heap.size w0 W→Calls Tryz.prog 63 #[.iface 43 (.pointer (some ⟨d,0,none⟩))] W fun e w'=>e = .returned (.int .i64 11)∧W=w'):=hid (fun W hW=>vdamaged_any (h.below hW))
 have HOk:Hid (∀ p sp bb dt ol,verR cur (fun q=>chkR s K cs q 7) p=(0,sp,bb,dt,ol)→verOk sp bb dt=true∧sp≤4611686018427387903∧dt < 18446744073709551616∧ol < 18446744073709551616):=hid (fun p sp bb dt ol he=>verR_ok h.ds.bnd he)
 generalize verR cur (fun q=>chkR s K cs q 7)=rd at *
 have HE0:=hid (HEr.out w hw)
 have HB0:=hid hw
 have HR0:=hid hR0
 have HRb:=hid hRb
 have HBy:=hid hbody
 have HHd:=hid hh
 have HZ:=hid hZ
 have HI0:=hid hI0
 have HIs:=hid hIs
 obtain ⟨X,hX⟩:∃ X,folW rd st 4097 head 4611686018427387904 0 s0=X:=⟨_,rfl⟩
 rw [hX]
 have HX:=hid hX
 have hmE:=methDErr (some ⟨d,0,none⟩)
 have hnil:∀ W,(binOp .eql 124 (.iface 43 (.pointer (some ⟨d,0,none⟩))) .nilIface).run Tryz.prog W = .ok (.bool false) W:=fun W=>by rfl
 clear h hw hR0 hRb hbody hh hX hZ hI0 hIs
 go_enter Tryz.func55,Tryz.ntmps55
 go_wp2_with (go_at_call 288;refine HE0.out.mono ?_;rintro e w1 ⟨rfl,rfl⟩)
 go_loopw [8,9,10] (fun vl vp vn wr=>∃ (p last n:Nat) (sg:σ),vl = .int .u64 (last:Int)∧vp = .int .u64 (p:Int)∧vn = .int .i64 (n:Int)∧p < 18446744073709551616∧n≤4096∧Hid (folW rd st (4097 - n) p last n sg=X)∧Hid (R sg wr)∧Hid (Below w0.heap.size w0 wr)∧Hid (I n last sg)) (fun _ _ vn _=>4097 - (Go.RowKit.intOf vn).toNat)
 case atStart=>exact ⟨head,4611686018427387904,0,s0,rfl,rfl,rfl,HHd.out,by omega,HX,HR0,HB0,HI0⟩
 case round =>
  obtain ⟨p,last,nn,sg,rfl,rfl,rfl,hp,hn,HF,HRg,HB,HIg⟩:=hrel
  by_cases hp0:p=0
  ·subst hp0
   have HX2:Hid (X=(0,sg)):=hid (by
    rw [← HF.out,show 4097 - nn=(4096 - nn)+1 by omega]
    unfold folW
    rw [if_pos rfl])
   rw [show ((0:Nat):Int)=0 from rfl]
   go_wp2_with fail
   go_ret
   exact .inl (by
    unfold RetFol
    rw [HX2.out]
    exact ⟨rfl,HRg.out,HB.out⟩)
  ·obtain ⟨ev,sp,bb,dt,ol,hR⟩:∃ ev sp bb dt ol,rd p=(ev,sp,bb,dt,ol):=⟨_,_,_,_,_,rfl⟩
   have d0:((p:Int) != 0)=true:=by rw [bne,beq_eq_false_iff_ne.2 (by omega)];rfl
   have HRp:Hid (Calls Tryz.prog 31 #[.iface 43 (.pointer (some ⟨d,0,none⟩)), .int .u64 (p:Int)] wr fun e w'=>e = .returned (.tuple #[.agg #[.int .u64 (sp:Int), .bool bb, .int .u64 (dt:Int), .int .u64 (ol:Int)], .int .i64 (ev:Int)])∧Below wr.heap.size wr w'):=hid (by
    have h:=HRd.out p wr hp HB.out
    rw [hR] at h
    exact h)
   have HFs:Hid (X=if ev≠0∨nn=4096∨last≤sp then (11,sg) else if (st sg p (sp,bb,dt,ol)).2=false then (0,(st sg p (sp,bb,dt,ol)).1) else folW rd st (4096 - nn) ol sp (nn+1) (st sg p (sp,bb,dt,ol)).1):=hid (by
    rw [← HF.out,show 4097 - nn=(4096 - nn)+1 by omega]
    conv=>lhs;unfold folW
    rw [if_neg hp0,hR])
   have HR:=hid hR
   have HP0:=hid hp0
   clear hR hp0 HF
   by_cases hbad:ev≠0∨nn=4096∨last≤sp
   ·have HX2:Hid (X=(11,sg)):=hid (by rw [HFs.out,if_pos hbad])
    have HBad:=hid hbad
    clear hbad HFs
    go_wp2_with (go_at_call 31;refine HRp.out.mono ?_;rintro e w1 ⟨rfl,hb1⟩;have HB1:=hid hb1;clear hb1;refine stop ?_)
    unfold Stop
    have c0:(w1.alloc (.cells #[.int .u64 (sp:Int), .bool bb, .int .u64 (dt:Int), .int .u64 (ol:Int)] 36)).cell? ⟨w1.heap.size,0,none⟩=some (.int .u64 (sp:Int)):=(Blk.new w1 36 #[.int .u64 (sp:Int), .bool bb, .int .u64 (dt:Int), .int .u64 (ol:Int)]).cell 0
    have hb2:Below wr.heap.size wr (w1.alloc (.cells #[.int .u64 (sp:Int), .bool bb, .int .u64 (dt:Int), .int .u64 (ol:Int)] 36)):=HB1.out.alloc HB1.out.size _
    have HB2:=hid (HB.out.trans (hb2.mono HB.out.size))
    have HD2:=hid (HDm.out _ HB2.out)
    have HR2:=hid (HRb.out _ _ _ HRg.out hb2)
    clear hb2
    by_cases hev:ev=0
    ·subst hev
     rw [show ((0:Nat):Int)=0 from rfl]
     by_cases hn4:nn=4096
     ·subst hn4
      go_wp2_with (go_at_call 63;refine HD2.out.mono ?_;rintro e w2 ⟨rfl,rfl⟩)
      go_ret
      exact .inl (by
       unfold RetFol
       rw [HX2.out]
       exact ⟨rfl,HR2.out,HB2.out⟩)
     ·have e1:((nn:Int) == 4096)=false:=beq_eq_false_iff_ne.2 (by omega)
      have e2:last≤sp:=by have:=HBad.out;omega
      go_wp2_with (go_at_call 63;refine HD2.out.mono ?_;rintro e w2 ⟨rfl,rfl⟩)
      go_ret
      exact .inl (by
       unfold RetFol
       rw [HX2.out]
       exact ⟨rfl,HR2.out,HB2.out⟩)
    ·have e1:((ev:Int) != 0)=true:=by rw [bne,beq_eq_false_iff_ne.2 (by omega)];rfl
     go_wp2_with (go_at_call 63;refine HD2.out.mono ?_;rintro e w2 ⟨rfl,rfl⟩)
     go_ret
     exact .inl (by
      unfold RetFol
      rw [HX2.out]
      exact ⟨rfl,HR2.out,HB2.out⟩)
   ·obtain rfl:ev=0:=by omega
    have hn4:nn < 4096:=by omega
    have hls:sp < last:=by omega
    obtain ⟨ok1,ok2,ok3,ok4⟩:=HOk.out p sp bb dt ol HR.out
    have HFn:Hid (X=if (st sg p (sp,bb,dt,ol)).2=false then (0,(st sg p (sp,bb,dt,ol)).1) else folW rd st (4096 - nn) ol sp (nn+1) (st sg p (sp,bb,dt,ol)).1):=hid (by rw [HFs.out,if_neg hbad])
    rw [show ((0:Nat):Int)=0 from rfl] at HRp
    have e1:((nn:Int) == 4096)=false:=beq_eq_false_iff_ne.2 (by omega)
    have e2:¬ last≤sp:=by omega
    clear hbad HFs
    go_wp2_with (go_at_call 31;refine HRp.out.mono ?_;rintro e w1 ⟨rfl,hb1⟩;have HB1:=hid hb1;clear hb1;refine stop ?_)
    unfold Stop
    have hk:=Blk.new w1 36 #[.int .u64 (sp:Int), .bool bb, .int .u64 (dt:Int), .int .u64 (ol:Int)]
    have hb2:Below wr.heap.size wr (w1.alloc (.cells #[.int .u64 (sp:Int), .bool bb, .int .u64 (dt:Int), .int .u64 (ol:Int)] 36)):=HB1.out.alloc HB1.out.size _
    have HB2:=hid (HB.out.trans (hb2.mono HB.out.size))
    have HR2:=hid (HRb.out _ _ _ HRg.out hb2)
    have HBo:=hid (HBy.out sg nn last p sp bb dt ol _ hn4 HIg.out hls HR2.out HB2.out ok1 hp ok2 ok3 ok4)
    have HK:=hid hk
    have HNz:Hid (¬ Zb w1.heap.size):=hid (fun hz=>by have h1:=HZ.out sg wr HRg.out _ hz;have h2:=HB1.out.size;omega)
    clear hb2
    have c0:(w1.alloc (.cells #[.int .u64 (sp:Int), .bool bb, .int .u64 (dt:Int), .int .u64 (ol:Int)] 36)).cell? ⟨w1.heap.size,0,none⟩=some (.int .u64 (sp:Int)):=hk.cell 0
    have c1:(w1.alloc (.cells #[.int .u64 (sp:Int), .bool bb, .int .u64 (dt:Int), .int .u64 (ol:Int)] 36)).cell? ⟨w1.heap.size,1,none⟩=some (.bool bb):=hk.cell 1
    have c2:(w1.alloc (.cells #[.int .u64 (sp:Int), .bool bb, .int .u64 (dt:Int), .int .u64 (ol:Int)] 36)).cell? ⟨w1.heap.size,2,none⟩=some (.int .u64 (dt:Int)):=hk.cell 2
    have c3:(w1.alloc (.cells #[.int .u64 (sp:Int), .bool bb, .int .u64 (dt:Int), .int .u64 (ol:Int)] 36)).cell? ⟨w1.heap.size,3,none⟩=some (.int .u64 (ol:Int)):=hk.cell 3
    clear hk
    obtain ⟨go,hgo⟩:∃ go,(st sg p (sp,bb,dt,ol)).2=go:=⟨_,rfl⟩
    obtain ⟨s2,hs2⟩:∃ s2,(st sg p (sp,bb,dt,ol)).1=s2:=⟨_,rfl⟩
    have HI2:Hid (I (nn+1) sp s2):=hid (by rw [← hs2];exact HIs.out nn last sg p (sp,bb,dt,ol) hn4 HIg.out hls ok1)
    rw [hgo,hs2] at HBo HFn
    clear hgo hs2
    go_wp2_with (go_at_fn fn;refine HBo.out.mono ?_;rintro e w3 (⟨rfl,hr3,hch⟩ | ⟨rfl,hx⟩) <;> refine stop ?_)
    rotate_left
    ·unfold Stop
     have HXx:=hid hx
     clear hx c0 c1 c2 c3 HFn
     go_wp2_with fail
     go_ret
     exact .inr ⟨rfl,HXx.out⟩
    unfold Stop
    have HR3:=hid hr3
    have HCh:=hid hch
    clear hr3 hch
    have hk3:=HCh.out.blk HK.out HNz.out
    have HB3:Hid (Below w0.heap.size w0 w3):=hid (HB2.out.trans HCh.out.1)
    have f0:w3.cell? ⟨w1.heap.size,0,none⟩=some (.int .u64 (sp:Int)):=hk3.cell 0
    have f3:w3.cell? ⟨w1.heap.size,3,none⟩=some (.int .u64 (ol:Int)):=hk3.cell 3
    have HRd3:Hid (R s2 w3.drew):=hid (HRb.out _ _ _ HR3.out (Below.refl _ _).drew)
    clear hk3 c0 c1 c2 c3
    cases go
    ·have HX2:Hid (X=(0,s2)):=hid (by rw [HFn.out,if_pos rfl])
     go_wp2_with fail
     go_ret
     exact .inl (by
      unfold RetFol
      rw [HX2.out]
      exact ⟨rfl,HR3.out,HB3.out⟩)
    ·have HX2:Hid (folW rd st (4097 - (nn+1)) ol sp (nn+1) s2=X):=hid (by rw [HFn.out,if_neg (by decide),show 4096 - nn=4097 - (nn+1) by omega])
     have e4:wrap64 ((nn:Int)+1)=((nn+1:Nat):Int):=by rw [IntWalk.wrap64_in _ (by omega)];omega
     have HN4:=hid hn4
     have HB3d:=hid HB3.out.drew
     clear HFn hls e2 hn4
     go_wp2_with fail
     go_region
     go_wp2_with fail
     go_roundw
     case rel =>
      first
       | exact ⟨ol,sp,nn+1,s2,rfl,rfl,by go_num,ok4,by have:=HN4.out;omega,HX2,HRd3,HB3d,HI2⟩
       | exact ⟨ol,sp,nn+1,s2,rfl,rfl,by rw [e4],ok4,by have:=HN4.out;omega,HX2,HRd3,HB3d,HI2⟩
     case measure=>simp [Go.RowKit.intOf];omega
end
end
section
open Go.RowKit Go.Maps
theorem roundIn_any {m m':Nat} {P:Program} {l fn:Nat} {tmps:Array Value} {assign body:Code} {W:World} {R:Ending→World→Prop} (h:RoundIn Fence.wide m P l fn tmps assign body W R):RoundIn Fence.wide m' P l fn tmps assign body W R:=by
 exact ⟨h.1,fun c cs _=>h.2 c cs (room_wide _)⟩
theorem chain11_any (p sp:Nat) (dl:Bool) (dt ol gy l:Nat) (R:Ending→World→Prop) (W:World) (hy:Blk W gy 137 #[.func (.yield l) #[] #[]])
  (hY:YieldAt Fence.wide 5 Tryz.prog l #[.agg #[.int .u64 (sp:Int), .bool dl, .int .u64 (dt:Int), .int .u64 (ol:Int)]] (W.alloc (.cells #[.int .u64 (sp:Int), .bool dl, .int .u64 (dt:Int), .int .u64 (ol:Int)] 36)) R)
  (hR:∀ e w',R e w'→∃ b,e = .returned (.bool b)) :
  Calls Tryz.prog 70 #[.int .u64 (p:Int), .agg #[.int .u64 (sp:Int), .bool dl, .int .u64 (dt:Int), .int .u64 (ol:Int)], .pointer (some ⟨gy,0,none⟩)] W R:=by
 have hbx:=Blk.new W 36 #[.int .u64 (sp:Int), .bool dl, .int .u64 (dt:Int), .int .u64 (ol:Int)]
 have y0:=(hy.alloc (.cells #[.int .u64 (sp:Int), .bool dl, .int .u64 (dt:Int), .int .u64 (ol:Int)] 36)).cell 0
 obtain ⟨fn,tmps,assign,body,hyr,hRd⟩:=hY
 have v0:(W.alloc (.cells #[.int .u64 (sp:Int), .bool dl, .int .u64 (dt:Int), .int .u64 (ol:Int)] 36)).cell? ⟨W.heap.size,0,none⟩=some (.int .u64 (sp:Int)):=hbx.cell 0
 have v1:(W.alloc (.cells #[.int .u64 (sp:Int), .bool dl, .int .u64 (dt:Int), .int .u64 (ol:Int)] 36)).cell? ⟨W.heap.size,1,none⟩=some (.bool dl):=hbx.cell 1
 have v2:(W.alloc (.cells #[.int .u64 (sp:Int), .bool dl, .int .u64 (dt:Int), .int .u64 (ol:Int)] 36)).cell? ⟨W.heap.size,2,none⟩=some (.int .u64 (dt:Int)):=hbx.cell 2
 have v3:(W.alloc (.cells #[.int .u64 (sp:Int), .bool dl, .int .u64 (dt:Int), .int .u64 (ol:Int)] 36)).cell? ⟨W.heap.size,3,none⟩=some (.int .u64 (ol:Int)):=hbx.cell 3
 have y1:(W.alloc (.cells #[.int .u64 (sp:Int), .bool dl, .int .u64 (dt:Int), .int .u64 (ol:Int)] 36)).cell? ⟨gy,0,none⟩=some (.func (.yield l) #[] #[]):=y0
 have HR:=hid hR
 clear hy hbx y0 hR
 refine (callsIn_wide (n:=7)).1 (callsIn_of_wp Tryz.func70 rfl trivial ?_ rfl)
 simp only [Tryz.ntmps70,List.size_toArray,List.length_cons,List.length_nil,Nat.reduceAdd,Nat.reduceSub,Array.replicate_succ,Array.replicate_zero,List.push_toArray,List.append_toArray,List.nil_append,List.cons_append]
 gi_wp2
 refine (roundIn_any hRd).mono ?_
 intro e w' hR2
 obtain ⟨b,rfl⟩:=HR.out e w' hR2
 have HR2:=hid hR2
 clear hR2 v0 v1 v2 v3 y1
 gi_wp2
 exact HR2.out
def chSt (s:List (Nat × Bool × Nat × Nat)) (_:Nat) (v:Nat × Bool × Nat × Nat):List (Nat × Bool × Nat × Nat) × Bool:=(s++[v],true)
def vEnc (v:Nat × Bool × Nat × Nat):Array Value:=#[.agg #[.int .u64 (v.1:Int), .bool v.2.1, .int .u64 (v.2.2.1:Int), .int .u64 (v.2.2.2:Int)]]
def GoodC:Nat→List (Nat × Bool × Nat × Nat)→Prop
 | _,[]=>True
 | last,v :: t=>v.1 < last∧verOk v.1 v.2.1 v.2.2.1=true∧GoodC v.1 t
def lastC:Nat→List (Nat × Bool × Nat × Nat)→Nat
 | last,[]=>last
 | _,v :: t=>lastC v.1 t
theorem GoodC.add:∀ {last:Nat} {l:List (Nat × Bool × Nat × Nat)} {v:Nat × Bool × Nat × Nat},GoodC last l→v.1 < lastC last l→verOk v.1 v.2.1 v.2.2.1=true→GoodC last (l++[v])∧lastC last (l++[v])=v.1
 | last,[],v,_,h,hv=>⟨⟨h,hv,trivial⟩,rfl⟩
 | last,u :: t,v,hg,h,hv=>by
  obtain ⟨g1,g2⟩:=GoodC.add (last:=u.1) (l:=t) hg.2.2 h hv
  exact ⟨⟨hg.1,hg.2.1,g1⟩,g2⟩
theorem abides_below {β:Type} {B:Nat} {J:β→World→Prop} (h:AbidesFrom B J) {s:β} {W W':World} (hs:J s W) (hb:Below W.heap.size W W'):J s W' :=
 h s W W' none hs ⟨hb.os,hb.tape,hb.output,hb.size,fun k hk _=>hb.block k hk⟩ (fun r e=>by cases e)
theorem KpC.of_below {n:Nat} {Zb:Fp} {A B:World} (hb:Below A.heap.size A B) (hn:n≤A.heap.size):KpC n Zb A B :=
 ⟨hb.mono hn,fun k o ho _ _=>(hb.block k (Array.getElem?_eq_some_iff.1 ho).1).trans ho⟩
section
variable {a:DA} {L T s n K:Nat} {x:HA} {cs:Nat→CS} {f:Nat→Option Nat} {N m b0:Nat} {S:Fp} {cur:Nat→Nat} {w w0:World} {d r:Nat}
theorem chain_stops (h:SD a L T s n K x cs f N m b0 S cur w0 d r) (hw:Below w0.heap.size w0 w) (head:Nat) (hh:head < 18446744073709551616) (gs gp:Nat) (hs:Blk w gs 124 #[.iface 43 (.pointer (some ⟨d,0,none⟩))]) (hp:Blk w gp 27 #[.int .u64 (head:Int)]) (Zb:Fp) (hZ:∀ k,Zb k→k < w.heap.size) :
  SeqStopsK Fence.wide 6 Tryz.prog 69 #[.pointer (some ⟨gs,0,none⟩), .pointer (some ⟨gp,0,none⟩)] vEnc (KpC w0.heap.size Zb) (fun xs=>xs=(folW (verR cur (fun q=>chkR s K cs q 7)) chSt 4097 head 4611686018427387904 0 []).2) (fun pre=>GoodC 4611686018427387904 pre) 4096 w:=by
 intro l J Jx W hW hJ hJx hY h0
 obtain ⟨W1,hW1⟩:∃ W1,W.alloc (.cells #[.func (.yield l) #[] #[]] 137)=W1:=⟨_,rfl⟩
 have hb1:Below W.heap.size W W1:=by rw [← hW1];exact (Below.refl _ _).alloc (Nat.le_refl _) _
 have hy1:Blk W1 W.heap.size 137 #[.func (.yield l) #[] #[]]:=by rw [← hW1];exact Blk.new _ _ _
 have hwW:Below w0.heap.size w0 W:=hw.trans (hW.mono hw.size)
 have HFo:=hid (vfollowx_any h (hwW.trans (hb1.mono hwW.size)) head hh 70 #[.pointer (some ⟨W.heap.size,0,none⟩)] (fun n last q=>q.length≤n∧GoodC 4611686018427387904 q∧lastC 4611686018427387904 q=last) Zb (fun q W2=>J q W2∧Blk W2 W.heap.size 137 #[.func (.yield l) #[] #[]]∧W.heap.size≤W2.heap.size) (fun W2=>∃ pre,GoodC 4611686018427387904 pre∧Jx pre W2) chSt []
  (fun q W2 hR k hk=>by have h1:=hZ k hk;have h2:=hW.size;have h3:=hR.2.2;omega)
  ⟨Nat.le_refl _,trivial,rfl⟩ (fun n last q p v _ hI hl hv=>by
   obtain ⟨g1,g2⟩:=GoodC.add hI.2.1 (hI.2.2.symm ▸ hl) hv
   refine ⟨?_,g1,g2⟩
   show (q++[v]).length≤n+1
   rw [List.length_append]
   simpa using hI.1)
  ⟨abides_below hJ h0 hb1,hy1,hb1.size⟩ (fun q W2 W3 hR hb=>⟨abides_below hJ hR.1 hb,hR.2.1.below hb hR.2.1.lt,Nat.le_trans hR.2.2 hb.size⟩) (fun args w=>by kernel_rfl)
  (fun q n last p sp dl dt ol W2 hn hI hls hR hb hok _ _ _ _=>by
   have e:(#[Value.int .u64 (p:Int), .agg #[.int .u64 (sp:Int), .bool dl, .int .u64 (dt:Int), .int .u64 (ol:Int)]]++#[Value.pointer (some ⟨W.heap.size,0,none⟩)])=#[.int .u64 (p:Int), .agg #[.int .u64 (sp:Int), .bool dl, .int .u64 (dt:Int), .int .u64 (ol:Int)], .pointer (some ⟨W.heap.size,0,none⟩)]:=by simp
   rw [e]
   have hba:=(Below.refl W2.heap.size W2).alloc (Nat.le_refl _) (.cells #[.int .u64 (sp:Int), .bool dl, .int .u64 (dt:Int), .int .u64 (ol:Int)] 36)
   have hI2:q.length≤n:=hI.1
   have h1:=hY q (sp,dl,dt,ol) _ (abides_below hJ hR.1 hba) (by omega)
   refine (chain11_any p sp dl dt ol W.heap.size l _ W2 hR.2.1 h1 (fun e w' he=>?_)).mono (fun e w' he=>?_)
   ·rcases he with ⟨rfl,_⟩ | ⟨rfl,_⟩
    ·exact ⟨_,rfl⟩
    ·exact ⟨_,rfl⟩
   ·rcases he with ⟨rfl,hj,hk⟩ | ⟨rfl,hj⟩
    ·have hz:¬ Zb W.heap.size:=fun hz=>by have h1:=hZ _ hz;have h2:=hW.size;omega
     refine .inl ⟨rfl,⟨hj,hk.blk (hR.2.1.below hba hR.2.1.lt) hz,Nat.le_trans hR.2.2 (Nat.le_trans hba.size hk.1.size)⟩,(KpC.of_below hba hb.size).trans hk⟩
    ·exact .inr ⟨rfl,_,(GoodC.add hI.2.1 (hI.2.2.symm ▸ hls) hok).1,hj⟩))
 have HW1:=hid hW1
 have s1:W1.cell? ⟨gs,0,none⟩=some (.iface 43 (.pointer (some ⟨d,0,none⟩))):=((hs.below hW hs.lt).below hb1 (hs.below hW hs.lt).lt).cell 0
 have s2:W1.cell? ⟨gp,0,none⟩=some (.int .u64 (head:Int)):=((hp.below hW hp.lt).below hb1 (hp.below hW hp.lt).lt).cell 0
 have hmf:∀ (fn:Fn) (first cap:Array Value) (w:World),(Instr.makeFunc fn first cap).run Tryz.prog w = .ok (.func fn first cap) w:=fun _ _ _ _=>rfl
 generalize folW (verR cur (fun q=>chkR s K cs q 7)) chSt 4097 head 4611686018427387904 0 []=X at *
 refine callsIn_wide.2 ?_
 show Calls Tryz.prog 69 #[.func (.yield l) #[] #[], .pointer (some ⟨gs,0,none⟩), .pointer (some ⟨gp,0,none⟩)] W _
 clear h hw hh hs hp hZ hW hJ hJx hY h0 hW1 hb1 hy1 hwW
 go_enter Tryz.func69,Tryz.ntmps69
 go_upto_region 1 with fail
 rw [HW1.out]
 go_wp2_with (go_at_call 55;refine HFo.out.mono ?_;rintro e w2 (⟨rfl,hr,hb⟩ | ⟨rfl,hx⟩))
 ·go_end0
  exact ⟨⟨_,rfl⟩, .inl ⟨_,rfl,hr.1⟩⟩
 ·obtain ⟨pre,hg,hx⟩:=hx
  go_end0
  exact ⟨⟨_,rfl⟩, .inr ⟨pre,hg,hx⟩⟩
end
theorem KpC.put {n:Nat} {Zb:Fp} {w:World} (hn:n≤w.heap.size) (W:World) (l:Nat) (o o':Obj) (hl:w.heap.size≤l) (h:W.heap[l]?=some o) (hc:o.isCells=false) (_:o.isWalk=false):KpC n Zb W (W.putObj l o'):=by
 refine ⟨(Below.refl n W).grown (grownBy_putObj' W l o') (by have:=(Array.getElem?_eq_some_iff.1 h).1;omega) (fun k e=>by cases e;omega),fun k u hu huc _=>?_⟩
 by_cases e:k=l
 ·subst e
  rw [h] at hu
  cases hu
  rw [hc] at huc
  exact absurd huc (by simp)
 ·exact (World.putObj_heap_other (fun e2=>e (by rw [e2]))).trans hu
theorem vchain_any (d head:Nat) (w:World):Calls Tryz.prog 25 #[.iface 43 (.pointer (some ⟨d,0,none⟩)), .int .u64 (head:Int)] w fun e w'=>e = .returned (.func (.func 69) #[] #[.pointer (some ⟨w.heap.size,0,none⟩), .pointer (some ⟨w.heap.size+1,0,none⟩)])∧w'=(w.alloc (.cells #[.iface 43 (.pointer (some ⟨d,0,none⟩))] 124)).alloc (.cells #[.int .u64 (head:Int)] 27):=by
 have hmf:∀ (fn:Fn) (first cap:Array Value) (w:World),(Instr.makeFunc fn first cap).run Tryz.prog w = .ok (.func fn first cap) w:=fun _ _ _ _=>rfl
 go_enter Tryz.func25,Tryz.ntmps25
 go_wp2
 go_ret
 exact ⟨rfl,rfl⟩
end
end Go.Proofs.YtnlokpakiambaaaGreatDoor
