/- The walks and laws that the claim leans on, part 39. -/
import Derived.Test.YtnlokpakiambaaaGreatDoorJbk
import Derived.Test.YtnlokpakiambaaaGreatDoorJbl
set_option maxRecDepth 100000
set_option maxHeartbeats 16000000
namespace Go.Proofs.YtnlokpakiambaaaGreatDoor
open Go.Lib (hid)
section
open Go.RowKit Go.Maps
def folW {σ:Type} (rd:Nat→Nat × Nat × Bool × Nat × Nat) (st:σ→Nat→Nat × Bool × Nat × Nat→σ × Bool):Nat→Nat→Nat→Nat→σ→Nat × σ
 | 0,_,_,_,s=>(11,s)
 | k+1,p,last,n,s =>
  if p=0 then (0,s) else
  if (rd p).1≠0∨n=4096∨last≤(rd p).2.1 then (11,s) else
  if (st s p (rd p).2).2=false then (0,(st s p (rd p).2).1) else
  folW rd st k (rd p).2.2.2.2 (rd p).2.1 (n+1) (st s p (rd p).2).1
def Body {σ:Type} (fn:Nat) (caps:Array Value) (w0:World) (I:Nat→σ→Prop) (Z:σ→World→Fp) (R:σ→World→Prop) (st:σ→Nat→Nat × Bool × Nat × Nat→σ × Bool):Prop :=
 ∀ (s:σ) (n p sp:Nat) (dl:Bool) (dt ol:Nat) (W:World),n < 4096→I n s→R s W→Below w0.heap.size w0 W→verOk sp dl dt=true→p < 18446744073709551616→sp≤4611686018427387903→dt < 18446744073709551616→ol < 18446744073709551616 →
  Calls Tryz.prog fn (#[.int .u64 (p:Int), .agg #[.int .u64 (sp:Int), .bool dl, .int .u64 (dt:Int), .int .u64 (ol:Int)]]++caps) W fun e w'=>e = .returned (.bool (st s p (sp,dl,dt,ol)).2)∧R (st s p (sp,dl,dt,ol)).1 w'∧Chg (Z s W) W w'
theorem verR_ok {cur:Nat→Nat} {chk:Nat→Nat} {p sp dt ol:Nat} {bb:Bool} (hb:∀ i,cur i < 18446744073709551616) (h:verR cur chk p=(0,sp,bb,dt,ol)):verOk sp bb dt=true∧sp≤4611686018427387903∧dt < 18446744073709551616∧ol < 18446744073709551616:=by
 unfold verR at h
 by_cases h1:chk p≠0
 ·rw [if_pos h1] at h
  exact absurd (congrArg Prod.fst h) h1
 rw [if_neg h1] at h
 split at h
 ·rename_i h2
  injection h with _ h
  injection h with e1 h
  injection h with e2 h
  injection h with e3 e4
  subst e1 e2 e3 e4
  have h3:=h2
  unfold verOk at h3
  rw [Bool.and_eq_true] at h3
  exact ⟨h2,of_decide_eq_true h3.1,hb _,hb _⟩
 ·exact absurd (congrArg Prod.fst h) (show ¬ (11:Nat)=0 by decide)
section
variable {a:DA} {L T s n K:Nat} {x:HA} {cs:Nat→CS} {f:Nat→Option Nat} {N m b0:Nat} {S:Fp} {cur:Nat→Nat} {w w0:World} {d r:Nat}
theorem vdamaged_any (h:SD a L T s n K x cs f N m b0 S cur w d r) :
  Calls Tryz.prog 63 #[.iface 43 (.pointer (some ⟨d,0,none⟩))] w fun e w'=>e = .returned (.int .i64 11)∧w=w':=by
 have HEr:=hid (errD h.ds.dev h.dir)
 have hmE:=methDErr (some ⟨d,0,none⟩)
 clear h
 go_enter Tryz.func63,Tryz.ntmps63
 go_wp2_with (go_at_call 288;refine HEr.out.mono ?_;rintro e w1 ⟨rfl,rfl⟩)
 go_ret
 exact ⟨rfl,rfl⟩
def RetFol {σ:Type} (w0:World) (R:σ→World→Prop) (X:Nat × σ) (e:Ending) (w':World):Prop:=e = .returned (.int .i64 (X.1:Int))∧R X.2 w'∧Below w0.heap.size w0 w'
theorem vfollow_any {σ:Type} (h:SD a L T s n K x cs f N m b0 S cur w0 d r) (hw:Below w0.heap.size w0 w) (head:Nat) (hh:head < 18446744073709551616) (fn:Nat) (caps:Array Value) (I:Nat→σ→Prop) (Z:σ→World→Fp) (R:σ→World→Prop) (st:σ→Nat→Nat × Bool × Nat × Nat→σ × Bool) (s0:σ) (hZ:∀ s W,R s W→∀ k,Z s W k→w0.heap.size≤k∧k < W.heap.size) (hZm:∀ s W W' k,R s W→Below W.heap.size W W'→Z s W' k→Z s W k) (hI0:I 0 s0) (hIs:∀ n s p v,n < 4096→I n s→I (n+1) (st s p v).1) (hR0:R s0 w) (hRb:∀ s W W',R s W→Below W.heap.size W W'→R s W')
  (heg:∀ args w,(callFunc fn args).run Tryz.prog w = .ok (.enter fn args) w) (hbody:Body fn caps w0 I Z R st) :
  Calls Tryz.prog 55 #[.iface 43 (.pointer (some ⟨d,0,none⟩)), .int .u64 (head:Int), .func (.func fn) #[] caps] w (RetFol w0 R (folW (verR cur (fun q=>chkR s K cs q 7)) st 4097 head 4611686018427387904 0 s0)):=by
 have HRd:Hid (∀ (p:Nat) (W:World),p < 18446744073709551616→Below w0.heap.size w0 W→Calls Tryz.prog 31 #[.iface 43 (.pointer (some ⟨d,0,none⟩)), .int .u64 (p:Int)] W (RetVer W (verR cur (fun q=>chkR s K cs q 7) p))):=hid (fun p W hp hW=>vread_any (h.below hW) p hp)
 have HEr:Hid (∀ W,Below w0.heap.size w0 W→Calls Tryz.prog 288 #[.pointer (some ⟨d,0,none⟩)] W fun e w'=>e = .returned (.int .i64 0)∧W=w'):=hid (fun W hW=>errD (h.below hW).ds.dev ((h.below hW).dir))
 have HDm:Hid (∀ W,Below w0.heap.size w0 W→Calls Tryz.prog 63 #[.iface 43 (.pointer (some ⟨d,0,none⟩))] W fun e w'=>e = .returned (.int .i64 11)∧W=w'):=hid (fun W hW=>vdamaged_any (h.below hW))
 have HOk:Hid (∀ p sp bb dt ol,verR cur (fun q=>chkR s K cs q 7) p=(0,sp,bb,dt,ol)→verOk sp bb dt=true∧sp≤4611686018427387903∧dt < 18446744073709551616∧ol < 18446744073709551616):=hid (fun p sp bb dt ol he=>verR_ok h.ds.bnd he)
 generalize verR cur (fun q=>chkR s K cs q 7)=rd at *
 have HE0:=hid (HEr.out w hw)
 have HB0:=hid hw
 have HR0:=hid hR0
 have HRb:=hid hRb
 have HBy:=hid hbody
 have HHd:=hid hh
 have HZ:=hid hZ
 have HZm:=hid hZm
 have HI0:=hid hI0
 have HIs:=hid hIs
 obtain ⟨X,hX⟩:∃ X,folW rd st 4097 head 4611686018427387904 0 s0=X:=⟨_,rfl⟩
 rw [hX]
 have HX:=hid hX
 have hmE:=methDErr (some ⟨d,0,none⟩)
 have hnil:∀ W,(binOp .eql 124 (.iface 43 (.pointer (some ⟨d,0,none⟩))) .nilIface).run Tryz.prog W = .ok (.bool false) W:=fun W=>by rfl
 clear h hw hR0 hRb hbody hh hX hZ hZm hI0 hIs
 go_enter Tryz.func55,Tryz.ntmps55
 go_wp2_with (go_at_call 288;refine HE0.out.mono ?_;rintro e w1 ⟨rfl,rfl⟩)
 go_loopw [8,9,10] (fun vl vp vn wr=>∃ (p last n:Nat) (sg:σ),vl = .int .u64 (last:Int)∧vp = .int .u64 (p:Int)∧vn = .int .i64 (n:Int)∧p < 18446744073709551616∧n≤4096∧Hid (folW rd st (4097 - n) p last n sg=X)∧Hid (R sg wr)∧Hid (Below w0.heap.size w0 wr)∧Hid (I n sg)) (fun _ _ vn _=>4097 - (Go.RowKit.intOf vn).toNat)
 case atStart=>exact ⟨head,4611686018427387904,0,s0,rfl,rfl,rfl,HHd.out,by omega,HX,HR0,HB0,HI0⟩
 case round =>
  obtain ⟨p,last,nn,sg,rfl,rfl,rfl,hp,hn,HF,HRg,HB,HIg⟩:=hrel
  by_cases hp0:p=0
  ·subst hp0
   have HX2:Hid (X=(0,sg)):=hid (by
    rw [← HF.out,show 4097 - nn=(4096 - nn)+1 by omega]
    unfold folW
    rw [if_pos rfl])
   rw [show ((0:Nat):Int)=0 from rfl]
   go_wp2_with fail
   go_ret
   unfold RetFol
   rw [HX2.out]
   exact ⟨rfl,HRg.out,HB.out⟩
  ·obtain ⟨ev,sp,bb,dt,ol,hR⟩:∃ ev sp bb dt ol,rd p=(ev,sp,bb,dt,ol):=⟨_,_,_,_,_,rfl⟩
   have d0:((p:Int) != 0)=true:=by rw [bne,beq_eq_false_iff_ne.2 (by omega)];rfl
   have HRp:Hid (Calls Tryz.prog 31 #[.iface 43 (.pointer (some ⟨d,0,none⟩)), .int .u64 (p:Int)] wr fun e w'=>e = .returned (.tuple #[.agg #[.int .u64 (sp:Int), .bool bb, .int .u64 (dt:Int), .int .u64 (ol:Int)], .int .i64 (ev:Int)])∧Below wr.heap.size wr w'):=hid (by
    have h:=HRd.out p wr hp HB.out
    rw [hR] at h
    exact h)
   have HFs:Hid (X=if ev≠0∨nn=4096∨last≤sp then (11,sg) else if (st sg p (sp,bb,dt,ol)).2=false then (0,(st sg p (sp,bb,dt,ol)).1) else folW rd st (4096 - nn) ol sp (nn+1) (st sg p (sp,bb,dt,ol)).1):=hid (by
    rw [← HF.out,show 4097 - nn=(4096 - nn)+1 by omega]
    conv=>lhs;unfold folW
    rw [if_neg hp0,hR])
   have HR:=hid hR
   have HP0:=hid hp0
   clear hR hp0 HF
   by_cases hbad:ev≠0∨nn=4096∨last≤sp
   ·have HX2:Hid (X=(11,sg)):=hid (by rw [HFs.out,if_pos hbad])
    have HBad:=hid hbad
    clear hbad HFs
    go_wp2_with (go_at_call 31;refine HRp.out.mono ?_;rintro e w1 ⟨rfl,hb1⟩;have HB1:=hid hb1;clear hb1;refine stop ?_)
    unfold Stop
    have c0:(w1.alloc (.cells #[.int .u64 (sp:Int), .bool bb, .int .u64 (dt:Int), .int .u64 (ol:Int)] 36)).cell? ⟨w1.heap.size,0,none⟩=some (.int .u64 (sp:Int)):=(Blk.new w1 36 #[.int .u64 (sp:Int), .bool bb, .int .u64 (dt:Int), .int .u64 (ol:Int)]).cell 0
    have hb2:Below wr.heap.size wr (w1.alloc (.cells #[.int .u64 (sp:Int), .bool bb, .int .u64 (dt:Int), .int .u64 (ol:Int)] 36)):=HB1.out.alloc HB1.out.size _
    have HB2:=hid (HB.out.trans (hb2.mono HB.out.size))
    have HD2:=hid (HDm.out _ HB2.out)
    have HR2:=hid (HRb.out _ _ _ HRg.out hb2)
    clear hb2
    by_cases hev:ev=0
    ·subst hev
     rw [show ((0:Nat):Int)=0 from rfl]
     by_cases hn4:nn=4096
     ·subst hn4
      go_wp2_with (go_at_call 63;refine HD2.out.mono ?_;rintro e w2 ⟨rfl,rfl⟩)
      go_ret
      unfold RetFol
      rw [HX2.out]
      exact ⟨rfl,HR2.out,HB2.out⟩
     ·have e1:((nn:Int) == 4096)=false:=beq_eq_false_iff_ne.2 (by omega)
      have e2:last≤sp:=by have:=HBad.out;omega
      go_wp2_with (go_at_call 63;refine HD2.out.mono ?_;rintro e w2 ⟨rfl,rfl⟩)
      go_ret
      unfold RetFol
      rw [HX2.out]
      exact ⟨rfl,HR2.out,HB2.out⟩
    ·have e1:((ev:Int) != 0)=true:=by rw [bne,beq_eq_false_iff_ne.2 (by omega)];rfl
     go_wp2_with (go_at_call 63;refine HD2.out.mono ?_;rintro e w2 ⟨rfl,rfl⟩)
     go_ret
     unfold RetFol
     rw [HX2.out]
     exact ⟨rfl,HR2.out,HB2.out⟩
   ·obtain rfl:ev=0:=by omega
    have hn4:nn < 4096:=by omega
    have hls:sp < last:=by omega
    obtain ⟨ok1,ok2,ok3,ok4⟩:=HOk.out p sp bb dt ol HR.out
    have HFn:Hid (X=if (st sg p (sp,bb,dt,ol)).2=false then (0,(st sg p (sp,bb,dt,ol)).1) else folW rd st (4096 - nn) ol sp (nn+1) (st sg p (sp,bb,dt,ol)).1):=hid (by rw [HFs.out,if_neg hbad])
    rw [show ((0:Nat):Int)=0 from rfl] at HRp
    have e1:((nn:Int) == 4096)=false:=beq_eq_false_iff_ne.2 (by omega)
    have e2:¬ last≤sp:=by omega
    clear hbad HFs
    go_wp2_with (go_at_call 31;refine HRp.out.mono ?_;rintro e w1 ⟨rfl,hb1⟩;have HB1:=hid hb1;clear hb1;refine stop ?_)
    unfold Stop
    have hk:=Blk.new w1 36 #[.int .u64 (sp:Int), .bool bb, .int .u64 (dt:Int), .int .u64 (ol:Int)]
    have hb2:Below wr.heap.size wr (w1.alloc (.cells #[.int .u64 (sp:Int), .bool bb, .int .u64 (dt:Int), .int .u64 (ol:Int)] 36)):=HB1.out.alloc HB1.out.size _
    have HB2:=hid (HB.out.trans (hb2.mono HB.out.size))
    have HR2:=hid (HRb.out _ _ _ HRg.out hb2)
    have HBo:=hid (HBy.out sg nn p sp bb dt ol _ hn4 HIg.out HR2.out HB2.out ok1 hp ok2 ok3 ok4)
    have HK:=hid hk
    have HNz:Hid (¬ Z sg (w1.alloc (.cells #[.int .u64 (sp:Int), .bool bb, .int .u64 (dt:Int), .int .u64 (ol:Int)] 36)) w1.heap.size):=hid (fun hz=>by have h1:=(HZ.out sg wr HRg.out _ (HZm.out sg wr _ _ HRg.out hb2 hz)).2;have h2:=HB1.out.size;omega)
    have HZo:Hid (∀ k,Z sg (w1.alloc (.cells #[.int .u64 (sp:Int), .bool bb, .int .u64 (dt:Int), .int .u64 (ol:Int)] 36)) k→w0.heap.size≤k):=hid (fun k hz=>(HZ.out sg wr HRg.out k (HZm.out sg wr _ _ HRg.out hb2 hz)).1)
    clear hb2
    have c0:(w1.alloc (.cells #[.int .u64 (sp:Int), .bool bb, .int .u64 (dt:Int), .int .u64 (ol:Int)] 36)).cell? ⟨w1.heap.size,0,none⟩=some (.int .u64 (sp:Int)):=hk.cell 0
    have c1:(w1.alloc (.cells #[.int .u64 (sp:Int), .bool bb, .int .u64 (dt:Int), .int .u64 (ol:Int)] 36)).cell? ⟨w1.heap.size,1,none⟩=some (.bool bb):=hk.cell 1
    have c2:(w1.alloc (.cells #[.int .u64 (sp:Int), .bool bb, .int .u64 (dt:Int), .int .u64 (ol:Int)] 36)).cell? ⟨w1.heap.size,2,none⟩=some (.int .u64 (dt:Int)):=hk.cell 2
    have c3:(w1.alloc (.cells #[.int .u64 (sp:Int), .bool bb, .int .u64 (dt:Int), .int .u64 (ol:Int)] 36)).cell? ⟨w1.heap.size,3,none⟩=some (.int .u64 (ol:Int)):=hk.cell 3
    clear hk
    obtain ⟨go,hgo⟩:∃ go,(st sg p (sp,bb,dt,ol)).2=go:=⟨_,rfl⟩
    obtain ⟨s2,hs2⟩:∃ s2,(st sg p (sp,bb,dt,ol)).1=s2:=⟨_,rfl⟩
    have HI2:Hid (I (nn+1) s2):=hid (by rw [← hs2];exact HIs.out nn sg p (sp,bb,dt,ol) hn4 HIg.out)
    rw [hgo,hs2] at HBo HFn
    clear hgo hs2
    go_wp2_with (go_at_fn fn;refine HBo.out.mono ?_;rintro e w3 ⟨rfl,hr3,hch⟩;have HR3:=hid hr3;have HCh:=hid hch;clear hr3 hch;refine stop ?_)
    unfold Stop
    have hk3:=HCh.out.blk HK.out HNz.out
    have HB3:Hid (Below w0.heap.size w0 w3):=hid (HB2.out.trans (HCh.out.toBelow HB2.out.size HZo.out))
    have f0:w3.cell? ⟨w1.heap.size,0,none⟩=some (.int .u64 (sp:Int)):=hk3.cell 0
    have f3:w3.cell? ⟨w1.heap.size,3,none⟩=some (.int .u64 (ol:Int)):=hk3.cell 3
    have HRd3:Hid (R s2 w3.drew):=hid (HRb.out _ _ _ HR3.out (Below.refl _ _).drew)
    clear hk3 c0 c1 c2 c3
    cases go
    ·have HX2:Hid (X=(0,s2)):=hid (by rw [HFn.out,if_pos rfl])
     go_wp2_with fail
     go_ret
     unfold RetFol
     rw [HX2.out]
     exact ⟨rfl,HR3.out,HB3.out⟩
    ·have HX2:Hid (folW rd st (4097 - (nn+1)) ol sp (nn+1) s2=X):=hid (by rw [HFn.out,if_neg (by decide),show 4096 - nn=4097 - (nn+1) by omega])
     have e4:wrap64 ((nn:Int)+1)=((nn+1:Nat):Int):=by rw [IntWalk.wrap64_in _ (by omega)];omega
     have HN4:=hid hn4
     have HB3d:=hid HB3.out.drew
     clear HFn hls e2 hn4
     go_wp2_with fail
     go_region
     go_wp2_with fail
     go_roundw
     case rel =>
      first
       | exact ⟨ol,sp,nn+1,s2,rfl,rfl,by go_num,ok4,by have:=HN4.out;omega,HX2,HRd3,HB3d,HI2⟩
       | exact ⟨ol,sp,nn+1,s2,rfl,rfl,by rw [e4],ok4,by have:=HN4.out;omega,HX2,HRd3,HB3d,HI2⟩
     case measure=>simp [Go.RowKit.intOf];omega
end
end
section
open Go.RowKit Go.Maps
section
variable {a:DA} {L T s n K:Nat} {x:HA} {cs:Nat→CS} {f:Nat→Option Nat} {N m b0:Nat} {S:Fp} {cur:Nat→Nat} {w w':World} {d r:Nat}
def RetBl (w:World) (R:Nat × List Nat × List Nat) (e:Ending) (w':World):Prop :=
 if R.1=0 then ∃ A m c,e = .returned (.tuple #[.slice A m c, .int .i64 0])∧m=R.2.1.length∧Reads w' w'.heap.size 1 A m (uCells R.2.1)∧m≤c∧Below w.heap.size w w'
 else e = .returned (.tuple #[.slice none 0 0, .int .i64 (R.1:Int)])∧Below w.heap.size w w'
theorem bblocks_any (h:SD a L T s n K x cs f N m b0 S cur w d r) (p:Nat) (hp64:p < 18446744073709551616) :
  Calls Tryz.prog 106 #[dirV d, .int .u64 (p:Int)] w (RetBl w (walkR L cur (fun q=>chkR s K cs q 1) p)):=by
 have HW:=hid (walk_any h p hp64)
 clear h
 generalize walkR L cur (fun q=>chkR s K cs q 1) p=R at *
 unfold dirV at *
 by_cases hR:R.1=0
 ·have HW2:Hid (Calls Tryz.prog 107 #[.iface 43 (.pointer (some ⟨d,0,none⟩)), .int .u64 (p:Int)] w fun e w'=>∃ A m c A2 m2 c2,e = .returned (.tuple #[.slice A m c, .slice A2 m2 c2, .int .i64 0])∧m=R.2.1.length∧Reads w' w'.heap.size 1 A m (uCells R.2.1)∧m≤c∧Below w.heap.size w w'):=hid (HW.out.mono (fun e w' h=>by
   unfold RetWk at h
   rw [if_pos hR] at h
   obtain ⟨A,m,c,A2,m2,c2,h1,h2,h3,h4,h5,h6,h7,h8,h9⟩:=h
   exact ⟨A,m,c,A2,m2,c2,h1,h2,h4,h8.1,h9⟩))
  have HR:=hid hR
  clear HW hR
  go_enter Tryz.func106,Tryz.ntmps106
  go_wp2_with (go_at_call 107;refine HW2.out.mono ?_;rintro e w1 ⟨A,m1,c,A2,m2,c2,rfl,h1,h2,h4,h5⟩;have HE:=hid (show _∧_∧_∧_ from ⟨h1,h2,h4,h5⟩);clear h1 h2 h4 h5)
  go_ret2
  unfold RetBl
  rw [if_pos HR.out]
  exact ⟨A,m1,c,rfl,HE.out.1,HE.out.2.1,HE.out.2.2.1,HE.out.2.2.2⟩
 ·have HW2:Hid (Calls Tryz.prog 107 #[.iface 43 (.pointer (some ⟨d,0,none⟩)), .int .u64 (p:Int)] w fun e w'=>e = .returned (.tuple #[.slice none 0 0, .slice none 0 0, .int .i64 (R.1:Int)])∧Below w.heap.size w w'):=hid (HW.out.mono (fun e w' h=>by
   unfold RetWk at h
   rw [if_neg hR] at h
   exact h))
  have HR:=hid hR
  clear HW hR
  go_enter Tryz.func106,Tryz.ntmps106
  go_wp2_with (go_at_call 107;refine HW2.out.mono ?_;rintro e w1 ⟨rfl,h1⟩;have HE:=hid h1;clear h1)
  go_ret2
  unfold RetBl
  rw [if_neg HR.out]
  exact ⟨rfl,HE.out⟩
theorem bcheck_any (h:SD a L T s n K x cs f N m b0 S cur w d r) (p:Nat) (hp64:p < 18446744073709551616) {e0:Nat} (he:(walkR L cur (fun q=>chkR s K cs q 1) p).1=e0) :
  Calls Tryz.prog 62 #[dirV d, .int .u64 (p:Int)] w fun e w'=>e = .returned (.int .i64 (e0:Int))∧Below w.heap.size w w':=by
 have HW:=hid (walk_any h p hp64)
 clear h
 generalize walkR L cur (fun q=>chkR s K cs q 1) p=R at *
 subst he
 unfold dirV at *
 have HW2:Hid (Calls Tryz.prog 107 #[.iface 43 (.pointer (some ⟨d,0,none⟩)), .int .u64 (p:Int)] w fun e w'=>∃ (A:Option Addr) (m c:Nat) (A2:Option Addr) (m2 c2:Nat),e = .returned (.tuple #[.slice A m c, .slice A2 m2 c2, .int .i64 (R.1:Int)])∧Hid (Below w.heap.size w w')):=hid (HW.out.mono (fun e w' h=>by
  unfold RetWk at h
  split at h
  ·rename_i hR
   obtain ⟨A,m,c,A2,m2,c2,h1,h2,h3,h4,h5,h6,h7,h8,h9⟩:=h
   rw [hR]
   exact ⟨A,m,c,A2,m2,c2,h1,hid h9⟩
  ·exact ⟨none,0,0,none,0,0,h.1,hid h.2⟩))
 clear HW
 generalize R.1=e0 at *
 go_enter Tryz.func62,Tryz.ntmps62
 go_wp2_with (go_at_call 107;refine HW2.out.mono ?_;rintro e w1 ⟨A,m1,c,A2,m2,c2,rfl,hh⟩)
 go_ret
 exact ⟨rfl,hh.out⟩
end
end
section
open Go.RowKit Go.Maps
theorem chain_walk {L:Nat} {cur:Nat→Nat} {chk:Nat→Nat} {bl p:List Nat} (hc:Chain L cur chk bl p) (hp:∀ b∈p,b < 256) (hn:p.length≤2000):walkR L cur chk (bl.headD 0)=(0,bl,p):=by
 cases bl with
 | nil=>exact absurd hc (by simp [Chain])
 | cons q t =>
  have hcq:chk q=0:=hc.2.2.2.2.2.2.1
  show walkR L cur _ q=_
  unfold walkR
  rw [if_neg (fun h=>h hcq),walk_chain 6 q t p [] [] (-1) hc hp (.inl (by omega)) (by omega) (by omega)]
  rfl
section
variable {a a2:DA} {L T T2 n K:Nat} {x x2:HA} {cs:Nat→CS} {f f2:Nat→Option Nat} {N N2 m m2 b0 b02:Nat} {S S2:Fp} {cur:Nat→Nat} {w w2:World} {ks:List Nat} {V:Nat→Nat} {cm:Nat}
end
end
section
open Go.ChangeShapes Go.WideShapes Go.ChangeAt Go.RowKit
theorem gPay : Tryz.prog.globalNamed "bedrock/sizeclass.payload" = some 0 := by kernel_rfl
theorem gPayType:(Tryz.prog.globals[0]?).map (·.type)=some 252:=by kernel_rfl
theorem cellsPay:Tryz.prog.cellsOf 252=5:=by kernel_rfl
theorem cellsI64:Tryz.prog.cellsOf 3=1:=by kernel_rfl
theorem payIs {W:World} (h:laidMetH Tryz.prog laidList W):Pay W:=by
 have h2 : laidMetH Tryz.prog [("bedrock/sizeclass.payload", Rows.laid_bedrock_sizeclass_payload)] W := laidMetH.filter (fun x => x.1 == "bedrock/sizeclass.payload") h
 have ht : Lib.TabIs Tryz.prog W "bedrock/sizeclass.payload" .i64 [3, 7, 15, 31, 60] :=
  Lib.tabIs_of_head (rest:=[]) gPay gPayType Tryz.underlying252 Tryz.underlying3 cellsI64 cellsPay h2
 intro i hi
 have hc:=ht.cell gPay i hi
 rw [hc]
 have:i=0∨i=1∨i=2∨i=3∨i=4:=by omega
 rcases this with rfl | rfl | rfl | rfl | rfl <;> rfl
theorem ints_of {H:Type} {enc:TypeId × Value→H} {W:World} {base:Nat} {sp:Nat→Bool} {held:Bool} {t e:TypeId} {k:IntKind} {a:Option Addr} {len cap:Nat} {d:DataW H} {p:List MemPlace}
  (ht:Tryz.prog.underlying t=some (.slice e)) (he:Tryz.prog.underlying e=some (.int k)) (hc:Tryz.prog.cellsOf e=1)
  (h:DataW.Trod enc Tryz.prog W base sp held t (.slice a len cap) d p) :
  ∃ zs:List Int,Reads W W.heap.size 1 a len (zs.map (Value.int k))∧len≤cap∧cap≤maxLen∧∀ n∈zs,(Lit.int k n).wf=true:=by
 obtain ⟨fuel,hf⟩:=h
 rcases open_ints ht he hc hf with ⟨hcs,_⟩ | ⟨x,l,c,zs,hcs,_,hl,hm,hz,hx,hcell,hwz⟩
 ·simp [Value.cells] at hcs
  obtain ⟨rfl,rfl,rfl⟩:=hcs
  exact ⟨[],⟨rfl,fun h=>absurd h (Nat.lt_irrefl 0)⟩,Nat.le_refl _,Nat.zero_le _,fun _ hn=>by cases hn⟩
 ·simp [Value.cells] at hcs
  obtain ⟨rfl,rfl,rfl⟩:=hcs
  have hz':len≤zs.length:=by rw [hz];split <;> omega
  refine ⟨zs.take len,⟨by rw [List.length_map,List.length_take];omega,fun hn=>⟨_,rfl,?_,fun j u hu=>?_⟩⟩,hl,hm,fun n hn=>hwz n (List.mem_of_mem_take hn)⟩
  ·have:=World.block_lt_of_cell? _ _ (hcell 0 (by omega))
   rw [block_of_add] at this
   exact this
  ·simp only [List.getElem?_map,Option.map_eq_some_iff] at hu
   obtain ⟨z,hzj,rfl⟩:=hu
   rw [List.getElem?_take] at hzj
   split at hzj
   ·obtain ⟨hj,rfl⟩:=List.getElem?_eq_some_iff.1 hzj
    rw [hcell j hj]
    simp [List.getD,hj]
   ·cases hzj
theorem bytes_of {H:Type} {enc:TypeId × Value→H} {W:World} {base:Nat} {sp:Nat→Bool} {held:Bool} {a:Option Addr} {len cap:Nat} {d:DataW H} {p:List MemPlace}
  (h:DataW.Trod enc Tryz.prog W base sp held 60 (.slice a len cap) d p):∃ l,InB W a len cap l:=by
 obtain ⟨zs,hr,hl,hm,hwz⟩:=ints_of Tryz.underlying60 Tryz.underlying5 (by kernel_rfl) h
 have hb:∀ z∈zs,0≤z∧z≤255:=fun z hz=>by
  have hw:=hwz z hz
  have hmn:IntKind.u8.min=0:=by decide
  have hmx:IntKind.u8.max=255:=by decide
  simp only [Lit.wf,hmn,hmx,Bool.and_eq_true,decide_eq_true_eq] at hw
  omega
 refine ⟨zs.map Int.toNat,?_,?_,hl,hm⟩
 ·intro b hbm
  obtain ⟨z,hz,rfl⟩:=List.mem_map.1 hbm
  have:=hb z hz
  omega
 ·have:u8s (zs.map Int.toNat)=zs.map (Value.int .u8):=by
   simp only [u8s,List.map_map]
   refine List.map_congr_left fun z hz=>?_
   have:=hb z hz
   simp only [Function.comp]
   rw [Int.toNat_of_nonneg this.1]
  rw [this]
  exact hr
end
section
open Go.RowKit Go.Maps
def vArr (s:Nat × Bool × Nat × Nat):Array Value:=#[.int .u64 (s.1:Int), .bool s.2.1, .int .u64 (s.2.2.1:Int), .int .u64 (s.2.2.2:Int)]
def atS (stamp:Nat) (s:Nat × Bool × Nat × Nat) (_p:Nat) (v:Nat × Bool × Nat × Nat):(Nat × Bool × Nat × Nat) × Bool:=if stamp < v.1 then (s,true) else (v,false)
theorem vat1_any (stamp p sp:Nat) (dl:Bool) (dt ol gs gf:Nat) (s:Nat × Bool × Nat × Nat) (W:World) (hs:Blk W gs 23 #[.int .u64 (stamp:Int)]) (hf:Blk W gf 36 (vArr s)) (hne:gs≠gf) :
  Calls Tryz.prog 56 #[.int .u64 (p:Int), .agg #[.int .u64 (sp:Int), .bool dl, .int .u64 (dt:Int), .int .u64 (ol:Int)], .pointer (some ⟨gs,0,none⟩), .pointer (some ⟨gf,0,none⟩)] W fun e w'=>e = .returned (.bool (atS stamp s p (sp,dl,dt,ol)).2)∧(Blk w' gs 23 #[.int .u64 (stamp:Int)]∧Blk w' gf 36 (vArr (atS stamp s p (sp,dl,dt,ol)).1))∧Chg (fun k=>k=gf) W w':=by
 have hbx:=Blk.new W 36 #[.int .u64 (sp:Int), .bool dl, .int .u64 (dt:Int), .int .u64 (ol:Int)]
 have c0:(W.alloc (.cells #[.int .u64 (sp:Int), .bool dl, .int .u64 (dt:Int), .int .u64 (ol:Int)] 36)).cell? ⟨W.heap.size,0,none⟩=some (.int .u64 (sp:Int)):=hbx.cell 0
 have c1:(W.alloc (.cells #[.int .u64 (sp:Int), .bool dl, .int .u64 (dt:Int), .int .u64 (ol:Int)] 36)).cell? ⟨W.heap.size,1,none⟩=some (.bool dl):=hbx.cell 1
 have c2:(W.alloc (.cells #[.int .u64 (sp:Int), .bool dl, .int .u64 (dt:Int), .int .u64 (ol:Int)] 36)).cell? ⟨W.heap.size,2,none⟩=some (.int .u64 (dt:Int)):=hbx.cell 2
 have c3:(W.alloc (.cells #[.int .u64 (sp:Int), .bool dl, .int .u64 (dt:Int), .int .u64 (ol:Int)] 36)).cell? ⟨W.heap.size,3,none⟩=some (.int .u64 (ol:Int)):=hbx.cell 3
 have s0:W.cell? ⟨gs,0,none⟩=some (.int .u64 (stamp:Int)):=hs.cell 0
 have hb1:=(hs.alloc (.cells #[.int .u64 (sp:Int), .bool dl, .int .u64 (dt:Int), .int .u64 (ol:Int)] 36))
 have hf1:=(hf.alloc (.cells #[.int .u64 (sp:Int), .bool dl, .int .u64 (dt:Int), .int .u64 (ol:Int)] 36))
 have s1:(W.alloc (.cells #[.int .u64 (sp:Int), .bool dl, .int .u64 (dt:Int), .int .u64 (ol:Int)] 36)).cell? ⟨gs,0,none⟩=some (.int .u64 (stamp:Int)):=hb1.cell 0
 have k0:W.cell? ⟨gf,0,none⟩=some (.int .u64 (s.1:Int)):=hf.cell 0
 have k1:W.cell? ⟨gf,1,none⟩=some (.bool s.2.1):=hf.cell 1
 have k2:W.cell? ⟨gf,2,none⟩=some (.int .u64 (s.2.2.1:Int)):=hf.cell 2
 have k3:W.cell? ⟨gf,3,none⟩=some (.int .u64 (s.2.2.2:Int)):=hf.cell 3
 have z0:W.frozen? ⟨gf,0,none⟩=false:=hf.frozen 0
 have z1:W.frozen? ⟨gf,1,none⟩=false:=hf.frozen 1
 have z2:W.frozen? ⟨gf,2,none⟩=false:=hf.frozen 2
 have z3:W.frozen? ⟨gf,3,none⟩=false:=hf.frozen 3
 have hlf:gf < W.heap.size:=hf.lt
 have hls:gs < W.heap.size:=hs.lt
 have HS:=hid hs
 have HF:=hid hf
 have HNe:=hid hne
 clear hbx hb1 hf1 hs hf
 by_cases hc:stamp < sp
 ·have HAt:Hid (atS stamp s p (sp,dl,dt,ol)=(s,true)):=hid (by unfold atS;rw [if_pos hc])
  generalize atS stamp s p (sp,dl,dt,ol)=z at *
  go_enter Tryz.func56,Tryz.ntmps56
  go_wp2
  go_ret
  rw [HAt.out]
  exact ⟨rfl,⟨HS.out.alloc _,HF.out.alloc _⟩,(Chg.refl _ _).alloc _⟩
 ·have HAt:Hid (atS stamp s p (sp,dl,dt,ol)=((sp,dl,dt,ol),false)):=hid (by unfold atS;rw [if_neg hc])
  generalize atS stamp s p (sp,dl,dt,ol)=z at *
  go_enter Tryz.func56,Tryz.ntmps56
  go_wp2
  go_ret
  rw [HAt.out]
  have hch:Chg (fun k=>k=gf) W (((((W.setCell ⟨gf,0,none⟩ (.int .u64 (sp:Int))).setCell ⟨gf,1,none⟩ (.bool dl)).setCell ⟨gf,2,none⟩ (.int .u64 (dt:Int))).setCell ⟨gf,3,none⟩ (.int .u64 (ol:Int))).alloc (.cells #[.int .u64 (sp:Int), .bool dl, .int .u64 (dt:Int), .int .u64 (ol:Int)] 36)) :=
   (((((Chg.refl (fun k=>k=gf) W).setCell (p:=⟨gf,0,none⟩) (.inl rfl) _).setCell (p:=⟨gf,1,none⟩) (.inl rfl) _).setCell (p:=⟨gf,2,none⟩) (.inl rfl) _).setCell (p:=⟨gf,3,none⟩) (.inl rfl) _).alloc _
  have hf4:=((((HF.out.set_ 0 (.int .u64 (sp:Int))).set_ 1 (.bool dl)).set_ 2 (.int .u64 (dt:Int))).set_ 3 (.int .u64 (ol:Int))).alloc (.cells #[.int .u64 (sp:Int), .bool dl, .int .u64 (dt:Int), .int .u64 (ol:Int)] 36)
  exact ⟨rfl,⟨hch.blk HS.out HNe.out,hf4⟩,hch⟩
section
variable {a:DA} {L T s n K:Nat} {x:HA} {cs:Nat→CS} {f:Nat→Option Nat} {N m b0:Nat} {S:Fp} {cur:Nat→Nat} {w:World} {d r:Nat}
def atR (rd:Nat→Nat × Nat × Bool × Nat × Nat) (head stamp:Nat):Nat × Nat × Bool × Nat × Nat :=
 if (folW rd (atS stamp) 4097 head 4611686018427387904 0 (0,true,0,0)).1≠0 then ((folW rd (atS stamp) 4097 head 4611686018427387904 0 (0,true,0,0)).1,0,false,0,0) else
 if (folW rd (atS stamp) 4097 head 4611686018427387904 0 (0,true,0,0)).2.2.1=true then (5,0,false,0,0) else (0,(folW rd (atS stamp) 4097 head 4611686018427387904 0 (0,true,0,0)).2)
def AtR (stamp gs g6 gf:Nat) (s:Nat × Bool × Nat × Nat) (W:World):Prop:=Blk W gs 23 #[.int .u64 (stamp:Int)]∧Blk W gf 36 (vArr s)∧Blk W g6 36 #[.int .u64 0, .bool false, .int .u64 0, .int .u64 0]
theorem at_body (stamp gs g6 gf:Nat) (w0:World) (h1:gs≠gf) (h2:g6≠gf):Body 56 #[.pointer (some ⟨gs,0,none⟩), .pointer (some ⟨gf,0,none⟩)] w0 (fun _ _=>True) (fun _ _ k=>k=gf) (AtR stamp gs g6 gf) (atS stamp):=by
 intro s _ p sp dl dt ol W _ _ hR _ _ _ _ _ _
 obtain ⟨r1,r2,r3⟩:=hR
 have e:(#[Value.int .u64 (p:Int), .agg #[.int .u64 (sp:Int), .bool dl, .int .u64 (dt:Int), .int .u64 (ol:Int)]]++#[Value.pointer (some ⟨gs,0,none⟩), .pointer (some ⟨gf,0,none⟩)])=#[.int .u64 (p:Int), .agg #[.int .u64 (sp:Int), .bool dl, .int .u64 (dt:Int), .int .u64 (ol:Int)], .pointer (some ⟨gs,0,none⟩), .pointer (some ⟨gf,0,none⟩)]:=by simp
 rw [e]
 refine (vat1_any stamp p sp dl dt ol gs gf s W r1 r2 h1).mono (fun e w' h=>?_)
 obtain ⟨q1,⟨q2,q3⟩,q4⟩:=h
 exact ⟨q1,⟨q2,q3,q4.blk r3 h2⟩,q4⟩
theorem vat_any (h:SD a L T s n K x cs f N m b0 S cur w d r) (head stamp:Nat) (hh:head < 18446744073709551616) :
  Calls Tryz.prog 15 #[.iface 43 (.pointer (some ⟨d,0,none⟩)), .int .u64 (head:Int), .int .u64 (stamp:Int)] w (RetVer w (atR (verR cur (fun q=>chkR s K cs q 7)) head stamp)):=by
 obtain ⟨W1,hW1⟩:∃ W1,((w.alloc (.cells #[.int .u64 (stamp:Int)] 23)).alloc (.cells #[.int .u64 0, .bool false, .int .u64 0, .int .u64 0] 36)).alloc (.cells #[.int .u64 0, .bool true, .int .u64 0, .int .u64 0] 36)=W1:=⟨_,rfl⟩
 have HW1:=hid hW1
 have sz1:(w.alloc (.cells #[.int .u64 (stamp:Int)] 23)).heap.size=w.heap.size+1:=by simp
 have sz2:((w.alloc (.cells #[.int .u64 (stamp:Int)] 23)).alloc (.cells #[.int .u64 0, .bool false, .int .u64 0, .int .u64 0] 36)).heap.size=w.heap.size+2:=by simp
 have hb:Below w.heap.size w W1:=by
  rw [← hW1]
  exact (((Below.refl _ _).alloc (Nat.le_refl _) _).alloc (by simp) _).alloc (by rw [sz2];omega) _
 have hR0:AtR stamp w.heap.size (w.heap.size+1) (w.heap.size+2) (0,true,0,0) W1:=by
  rw [← hW1]
  refine ⟨((Blk.new w 23 #[.int .u64 (stamp:Int)]).alloc _).alloc _,?_,?_⟩
  ·have h1:=Blk.new ((w.alloc (.cells #[.int .u64 (stamp:Int)] 23)).alloc (.cells #[.int .u64 0, .bool false, .int .u64 0, .int .u64 0] 36)) 36 #[.int .u64 0, .bool true, .int .u64 0, .int .u64 0]
   rw [sz2] at h1
   exact h1
  ·have h1:=(Blk.new (w.alloc (.cells #[.int .u64 (stamp:Int)] 23)) 36 #[.int .u64 0, .bool false, .int .u64 0, .int .u64 0]).alloc (.cells #[.int .u64 0, .bool true, .int .u64 0, .int .u64 0] 36)
   rw [sz1] at h1
   exact h1
 have HFo:=hid (vfollow_any h hb head hh 56 #[.pointer (some ⟨w.heap.size,0,none⟩), .pointer (some ⟨w.heap.size+2,0,none⟩)] (fun _ _=>True) (fun _ _ k=>k=w.heap.size+2) (AtR stamp w.heap.size (w.heap.size+1) (w.heap.size+2)) (atS stamp) (0,true,0,0)
  (fun s W hR k hk=>by
   subst hk
   exact ⟨by omega,hR.2.1.lt⟩) (fun _ _ _ _ _ _ hk=>hk) trivial (fun _ _ _ _ _ _=>trivial) hR0 (fun s W W' hR hW=>⟨hR.1.below hW hR.1.lt,hR.2.1.below hW hR.2.1.lt,hR.2.2.below hW hR.2.2.lt⟩) (fun args w=>by kernel_rfl) (at_body stamp _ _ _ w (by omega) (by omega)))
 have HAtR:Hid (atR (verR cur (fun q=>chkR s K cs q 7)) head stamp=if (folW (verR cur (fun q=>chkR s K cs q 7)) (atS stamp) 4097 head 4611686018427387904 0 (0,true,0,0)).1≠0 then ((folW (verR cur (fun q=>chkR s K cs q 7)) (atS stamp) 4097 head 4611686018427387904 0 (0,true,0,0)).1,0,false,0,0) else if (folW (verR cur (fun q=>chkR s K cs q 7)) (atS stamp) 4097 head 4611686018427387904 0 (0,true,0,0)).2.2.1=true then (5,0,false,0,0) else (0,(folW (verR cur (fun q=>chkR s K cs q 7)) (atS stamp) 4097 head 4611686018427387904 0 (0,true,0,0)).2)):=hid rfl
 generalize folW (verR cur (fun q=>chkR s K cs q 7)) (atS stamp) 4097 head 4611686018427387904 0 (0,true,0,0)=X at *
 generalize atR (verR cur (fun q=>chkR s K cs q 7)) head stamp=Y at *
 have hmf:∀ (fn:Fn) (first cap:Array Value) (w:World),(Instr.makeFunc fn first cap).run Tryz.prog w = .ok (.func fn first cap) w:=fun _ _ _ _=>rfl
 clear h hW1 hb hR0 hh
 go_enter Tryz.func15,Tryz.ntmps15
 go_wp2_with fail
 rw [HW1.out]
 refine HFo.out.mono ?_
 rintro e w2 ⟨rfl,⟨r1,r2,r3⟩,hb2⟩
 obtain ⟨ev,st,bb,dt,ol⟩:=X
 dsimp only at r2 HAtR
 have HB2:=hid hb2
 have k0:w2.cell? ⟨w.heap.size+2,0,none⟩=some (.int .u64 (st:Int)):=r2.cell 0
 have k1:w2.cell? ⟨w.heap.size+2,1,none⟩=some (.bool bb):=r2.cell 1
 have k2:w2.cell? ⟨w.heap.size+2,2,none⟩=some (.int .u64 (dt:Int)):=r2.cell 2
 have k3:w2.cell? ⟨w.heap.size+2,3,none⟩=some (.int .u64 (ol:Int)):=r2.cell 3
 have y0:w2.cell? ⟨w.heap.size+1,0,none⟩=some (.int .u64 0):=r3.cell 0
 have z0:w2.frozen? ⟨w.heap.size+1,0,none⟩=false:=r3.frozen 0
 have y1:w2.cell? ⟨w.heap.size+1,1,none⟩=some (.bool false):=r3.cell 1
 have z1:w2.frozen? ⟨w.heap.size+1,1,none⟩=false:=r3.frozen 1
 have y2:w2.cell? ⟨w.heap.size+1,2,none⟩=some (.int .u64 0):=r3.cell 2
 have z2:w2.frozen? ⟨w.heap.size+1,2,none⟩=false:=r3.frozen 2
 have y3:w2.cell? ⟨w.heap.size+1,3,none⟩=some (.int .u64 0):=r3.cell 3
 have z3:w2.frozen? ⟨w.heap.size+1,3,none⟩=false:=r3.frozen 3
 have hlt:w.heap.size+1 < w2.heap.size:=r3.lt
 have hle:w.heap.size≤w.heap.size+1:=by omega
 have n01:(⟨w.heap.size+1,0,none⟩:Addr)≠⟨w.heap.size+1,1,none⟩:=by simp
 have n02:(⟨w.heap.size+1,0,none⟩:Addr)≠⟨w.heap.size+1,2,none⟩:=by simp
 have n03:(⟨w.heap.size+1,0,none⟩:Addr)≠⟨w.heap.size+1,3,none⟩:=by simp
 have n12:(⟨w.heap.size+1,1,none⟩:Addr)≠⟨w.heap.size+1,2,none⟩:=by simp
 have n13:(⟨w.heap.size+1,1,none⟩:Addr)≠⟨w.heap.size+1,3,none⟩:=by simp
 have n23:(⟨w.heap.size+1,2,none⟩:Addr)≠⟨w.heap.size+1,3,none⟩:=by simp
 have hz:∀ (v0 v1 v2 v3:Value),Below w.heap.size w ((((w2.setCell ⟨w.heap.size+1,0,none⟩ v0).setCell ⟨w.heap.size+1,1,none⟩ v1).setCell ⟨w.heap.size+1,2,none⟩ v2).setCell ⟨w.heap.size+1,3,none⟩ v3):=fun v0 v1 v2 v3=>((((HB2.out.setCell (p:=⟨w.heap.size+1,0,none⟩) hle v0).setCell (p:=⟨w.heap.size+1,1,none⟩) hle v1).setCell (p:=⟨w.heap.size+1,2,none⟩) hle v2).setCell (p:=⟨w.heap.size+1,3,none⟩) hle v3)
 have HZ:=hid hz
 clear r1 r2 r3 hb2 HW1 HFo sz1 sz2 hz
 by_cases hev:ev=0
 ·subst hev
  rw [show ((0:Nat):Int)=0 from rfl]
  cases bb
  ·have HY:Hid (Y=(0,st,false,dt,ol)):=hid (by rw [HAtR.out];rfl)
   go_wp2
   refine bodyPost_ret (v := .tuple #[.agg #[.int .u64 (st:Int), .bool false, .int .u64 (dt:Int), .int .u64 (ol:Int)], .int .i64 0]) (by simp [results,Tryz.results15,go_sem,y0,y1,y2,y3,hlt]) rfl ?_
   unfold RetVer
   rw [HY.out]
   exact ⟨rfl,HZ.out _ _ _ _⟩
  ·have HY:Hid (Y=(5,0,false,0,0)):=hid (by rw [HAtR.out];rfl)
   go_wp2
   refine bodyPost_ret (v := .tuple #[.agg #[.int .u64 0, .bool false, .int .u64 0, .int .u64 0], .int .i64 5]) (by simp [results,Tryz.results15,go_sem,y0,y1,y2,y3,hlt]) rfl ?_
   unfold RetVer
   rw [HY.out]
   exact ⟨rfl,HZ.out _ _ _ _⟩
 ·have HY:Hid (Y=(ev,0,false,0,0)):=hid (by rw [HAtR.out,if_pos hev])
  have d1:((ev:Int) != 0)=true:=by rw [bne,beq_eq_false_iff_ne.2 (by omega)];rfl
  clear hev HAtR
  go_wp2
  refine bodyPost_ret (v := .tuple #[.agg #[.int .u64 0, .bool false, .int .u64 0, .int .u64 0], .int .i64 (ev:Int)]) (by simp [results,Tryz.results15,go_sem,y0,y1,y2,y3,hlt]) rfl ?_
  unfold RetVer
  rw [HY.out]
  exact ⟨rfl,HZ.out _ _ _ _⟩
end
end
end Go.Proofs.YtnlokpakiambaaaGreatDoor
