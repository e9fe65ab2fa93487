/- The walks and laws that the claim leans on, part 46. -/
import Derived.Test.YtfkjjoglnmeciaaGreatDoorQbs
import Derived.RangeFuncNested
set_option maxRecDepth 100000
set_option maxHeartbeats 16000000
namespace Go.Proofs.YtfkjjoglnmeciaaGreatDoor
open Go.Lib (hid)
section
open Go.RowKit Go.Maps
def BodyY {σ:Type} (fn:Nat) (caps:Array Value) (w0:World) (Pz:σ→Prop) (I:Nat→Nat→σ→Prop) (Zb:Fp) (R:σ→World→Prop) (Rx:World→Prop) (st:σ→Nat→Nat × Bool × Nat × Nat→σ × Bool):Prop :=
 ∀ (s:σ) (n last p sp:Nat) (dl:Bool) (dt ol:Nat) (W:World),n < 4096→I n last s→sp < last→R s W→Below w0.heap.size w0 W→verOk sp dl dt=true→p < 18446744073709551616→sp≤4611686018427387903→dt < 18446744073709551616→ol < 18446744073709551616→((st s p (sp,dl,dt,ol)).2=true→Pz (st s p (sp,dl,dt,ol)).1) →
  Calls Tryz.prog fn (#[.int .u64 (p:Int), .agg #[.int .u64 (sp:Int), .bool dl, .int .u64 (dt:Int), .int .u64 (ol:Int)]]++caps) W fun e w'=>(e = .returned (.bool (st s p (sp,dl,dt,ol)).2)∧R (st s p (sp,dl,dt,ol)).1 w'∧KpC w0.heap.size Zb W w')∨(e = .returned (.bool false)∧Rx w')
section
variable {a:DA} {L T s n K:Nat} {x:HA} {cs:Nat→CS} {f:Nat→Option Nat} {N m b0:Nat} {S:Fp} {cur:Nat→Nat} {w w0:World} {d r:Nat}
theorem vfollowy_any {σ:Type} (h:SD a L T s n K x cs f N m b0 S cur w0 d r) (hw:Below w0.heap.size w0 w) (head:Nat) (hh:head < 18446744073709551616) (fn:Nat) (caps:Array Value) (I:Nat→Nat→σ→Prop) (Zb:Fp) (R:σ→World→Prop) (Rx:World→Prop) (st:σ→Nat→Nat × Bool × Nat × Nat→σ × Bool) (s0:σ) (hZ:∀ s W,R s W→∀ k,Zb k→k < W.heap.size) (hI0:I 0 4611686018427387904 s0) (hIs:∀ n last s p v,n < 4096→I n last s→v.1 < last→verOk v.1 v.2.1 v.2.2.1=true→I (n+1) v.1 (st s p v).1) (hR0:R s0 w) (hRb:∀ s W W',R s W→Below W.heap.size W W'→R s W')
  (heg:∀ args w,(callFunc fn args).run Tryz.prog w = .ok (.enter fn args) w) (Pz:σ→Prop) (hPz:∀ n p last s',folW (verR cur (fun q=>chkR s K cs q 7)) st (4097 - n) p last n s'=folW (verR cur (fun q=>chkR s K cs q 7)) st 4097 head 4611686018427387904 0 s0→Pz s') (hbody:BodyY fn caps w0 Pz I Zb R Rx st) :
  Calls Tryz.prog 128 #[.iface 59 (.pointer (some ⟨d,0,none⟩)), .int .u64 (head:Int), .func (.func fn) #[] caps] w (RetFolX w0 R Rx (folW (verR cur (fun q=>chkR s K cs q 7)) st 4097 head 4611686018427387904 0 s0)):=by
 have HRd:Hid (∀ (p:Nat) (W:World),p < 18446744073709551616→Below w0.heap.size w0 W→Calls Tryz.prog 43 #[.iface 59 (.pointer (some ⟨d,0,none⟩)), .int .u64 (p:Int)] W (RetVer W (verR cur (fun q=>chkR s K cs q 7) p))):=hid (fun p W hp hW=>vread_any (h.below hW) p hp);have HEr:Hid (∀ W,Below w0.heap.size w0 W→Calls Tryz.prog 432 #[.pointer (some ⟨d,0,none⟩)] W fun e w'=>e = .returned (.int .i64 0)∧W=w'):=hid (fun W hW=>errD (h.below hW).ds.dev ((h.below hW).dir));have HDm:Hid (∀ W,Below w0.heap.size w0 W→Calls Tryz.prog 143 #[.iface 59 (.pointer (some ⟨d,0,none⟩))] W fun e w'=>e = .returned (.int .i64 11)∧W=w'):=hid (fun W hW=>vdamaged_any (h.below hW));have HOk:Hid (∀ p sp bb dt ol,verR cur (fun q=>chkR s K cs q 7) p=(0,sp,bb,dt,ol)→verOk sp bb dt=true∧sp≤4611686018427387903∧dt < 18446744073709551616∧ol < 18446744073709551616):=hid (fun p sp bb dt ol he=>verR_ok h.ds.bnd he);generalize verR cur (fun q=>chkR s K cs q 7)=rd at *;have HE0:=hid (HEr.out w hw);have HB0:=hid hw;have HR0:=hid hR0;have HRb:=hid hRb;have HBy:=hid hbody;have HHd:=hid hh;have HZ:=hid hZ;have HI0:=hid hI0;have HIs:=hid hIs;obtain ⟨X,hX⟩:∃ X,folW rd st 4097 head 4611686018427387904 0 s0=X:=⟨_,rfl⟩
 rw [hX];have HX:=hid hX;have HPz:=hid hPz;rw [hX] at HPz;have hmE:=methDErr (some ⟨d,0,none⟩);have hnil:∀ W,(binOp .eql 83 (.iface 59 (.pointer (some ⟨d,0,none⟩))) .nilIface).run Tryz.prog W = .ok (.bool false) W:=fun W=>by rfl
 clear h hw hR0 hRb hbody hh hX hZ hI0 hIs hPz;go_enter Tryz.func128,Tryz.ntmps128
 go_wp2_with (go_at_call 432;refine HE0.out.mono ?_;rintro e w1 ⟨rfl,rfl⟩)
 go_loopw [8,9,10] (fun vl vp vn wr=>∃ (p last n:Nat) (sg:σ),vl = .int .u64 (last:Int)∧vp = .int .u64 (p:Int)∧vn = .int .i64 (n:Int)∧p < 18446744073709551616∧n≤4096∧Hid (folW rd st (4097 - n) p last n sg=X)∧Hid (R sg wr)∧Hid (Below w0.heap.size w0 wr)∧Hid (I n last sg)) (fun _ _ vn _=>4097 - (Go.RowKit.intOf vn).toNat)
 case atStart=>exact ⟨head,4611686018427387904,0,s0,rfl,rfl,rfl,HHd.out,oM,HX,HR0,HB0,HI0⟩
 case round =>
  obtain ⟨p,last,nn,sg,rfl,rfl,rfl,hp,hn,HF,HRg,HB,HIg⟩:=hrel;by_cases hp0:p=0
  ·subst hp0
   have HX2:Hid (X=(0,sg)):=hid (by
    rw [← HF.out,show 4097 - nn=(4096 - nn)+1 by omega];unfold folW;rw [if_pos rfl])
   rw [show ((0:Nat):Int)=0 from rfl];go_wp2_with fail
   go_ret;exact .inl (by
    unfold RetFol;rw [HX2.out];exact ⟨rfl,HRg.out,HB.out⟩)
  ·obtain ⟨ev,sp,bb,dt,ol,hR⟩:∃ ev sp bb dt ol,rd p=(ev,sp,bb,dt,ol):=⟨_,_,_,_,_,rfl⟩
   have d0:((p:Int) != 0)=true:=by rw [bne,beq_eq_false_iff_ne.2 oM];rfl
   have HRp:Hid (Calls Tryz.prog 43 #[.iface 59 (.pointer (some ⟨d,0,none⟩)), .int .u64 (p:Int)] wr fun e w'=>e = .returned (.tuple #[.agg #[.int .u64 (sp:Int), .bool bb, .int .u64 (dt:Int), .int .u64 (ol:Int)], .int .i64 (ev:Int)])∧Below wr.heap.size wr w'):=hid (by
    have h:=HRd.out p wr hp HB.out;rw [hR] at h;exact h)
   have HFs:Hid (X=if ev≠0∨nn=4096∨last≤sp then (11,sg) else if (st sg p (sp,bb,dt,ol)).2=false then (0,(st sg p (sp,bb,dt,ol)).1) else folW rd st (4096 - nn) ol sp (nn+1) (st sg p (sp,bb,dt,ol)).1):=hid (by
    rw [← HF.out,show 4097 - nn=(4096 - nn)+1 by omega];conv=>lhs;unfold folW
    rw [if_neg hp0,hR])
   have HR:=hid hR;have HP0:=hid hp0;clear hR hp0 HF;by_cases hbad:ev≠0∨nn=4096∨last≤sp
   ·have HX2:Hid (X=(11,sg)):=hid (by rw [HFs.out,if_pos hbad])
    have HBad:=hid hbad;clear hbad HFs;go_wp2_with (go_at_call 43;refine HRp.out.mono ?_;rintro e w1 ⟨rfl,hb1⟩;have HB1:=hid hb1;clear hb1;refine stop ?_)
    unfold Stop;have c0:(w1.alloc (.cells #[.int .u64 (sp:Int), .bool bb, .int .u64 (dt:Int), .int .u64 (ol:Int)] 97)).cell? ⟨w1.heap.size,0,none⟩=some (.int .u64 (sp:Int)):=(Blk.new w1 97 #[.int .u64 (sp:Int), .bool bb, .int .u64 (dt:Int), .int .u64 (ol:Int)]).cell 0;have hb2:Below wr.heap.size wr (w1.alloc (.cells #[.int .u64 (sp:Int), .bool bb, .int .u64 (dt:Int), .int .u64 (ol:Int)] 97)):=HB1.out.alloc HB1.out.size _;have HB2:=hid (HB.out.trans (hb2.mono HB.out.size));have HD2:=hid (HDm.out _ HB2.out);have HR2:=hid (HRb.out _ _ _ HRg.out hb2);clear hb2;by_cases hev:ev=0
    ·subst hev
     rw [show ((0:Nat):Int)=0 from rfl];by_cases hn4:nn=4096
     ·subst hn4
      go_wp2_with (go_at_call 143;refine HD2.out.mono ?_;rintro e w2 ⟨rfl,rfl⟩)
      go_ret;exact .inl (by
       unfold RetFol;rw [HX2.out];exact ⟨rfl,HR2.out,HB2.out⟩)
     ·have e1:((nn:Int) == 4096)=false:=beq_eq_false_iff_ne.2 oM
      have e2:last≤sp:=by have:=HBad.out;omega
      go_wp2_with (go_at_call 143;refine HD2.out.mono ?_;rintro e w2 ⟨rfl,rfl⟩)
      go_ret;exact .inl (by
       unfold RetFol;rw [HX2.out];exact ⟨rfl,HR2.out,HB2.out⟩)
    ·have e1:((ev:Int) != 0)=true:=by rw [bne,beq_eq_false_iff_ne.2 oM];rfl
     go_wp2_with (go_at_call 143;refine HD2.out.mono ?_;rintro e w2 ⟨rfl,rfl⟩)
     go_ret;exact .inl (by
      unfold RetFol;rw [HX2.out];exact ⟨rfl,HR2.out,HB2.out⟩)
   ·obtain rfl:ev=0:=oM
    have hn4:nn < 4096:=oM;have hls:sp < last:=oM;obtain ⟨ok1,ok2,ok3,ok4⟩:=HOk.out p sp bb dt ol HR.out;have HFn:Hid (X=if (st sg p (sp,bb,dt,ol)).2=false then (0,(st sg p (sp,bb,dt,ol)).1) else folW rd st (4096 - nn) ol sp (nn+1) (st sg p (sp,bb,dt,ol)).1):=hid (by rw [HFs.out,if_neg hbad]);rw [show ((0:Nat):Int)=0 from rfl] at HRp;have e1:((nn:Int) == 4096)=false:=beq_eq_false_iff_ne.2 oM;have e2:¬ last≤sp:=oM;clear hbad HFs;go_wp2_with (go_at_call 43;refine HRp.out.mono ?_;rintro e w1 ⟨rfl,hb1⟩;have HB1:=hid hb1;clear hb1;refine stop ?_)
    unfold Stop;have hk:=Blk.new w1 97 #[.int .u64 (sp:Int), .bool bb, .int .u64 (dt:Int), .int .u64 (ol:Int)];have hb2:Below wr.heap.size wr (w1.alloc (.cells #[.int .u64 (sp:Int), .bool bb, .int .u64 (dt:Int), .int .u64 (ol:Int)] 97)):=HB1.out.alloc HB1.out.size _;have HB2:=hid (HB.out.trans (hb2.mono HB.out.size));have HR2:=hid (HRb.out _ _ _ HRg.out hb2);have HBo:=hid (HBy.out sg nn last p sp bb dt ol _ hn4 HIg.out hls HR2.out HB2.out ok1 hp ok2 ok3 ok4 (fun hg=>HPz.out (nn+1) ol sp _ (by
     have h1:=HFn.out;rw [hg,if_neg (by decide)] at h1;rw [show 4097 - (nn+1)=4096 - nn by omega];exact h1.symm)))
    have HK:=hid hk;have HNz:Hid (¬ Zb w1.heap.size):=hid (fun hz=>by have h1:=HZ.out sg wr HRg.out _ hz;have h2:=HB1.out.size;omega);clear hb2;have c0:(w1.alloc (.cells #[.int .u64 (sp:Int), .bool bb, .int .u64 (dt:Int), .int .u64 (ol:Int)] 97)).cell? ⟨w1.heap.size,0,none⟩=some (.int .u64 (sp:Int)):=hk.cell 0;have c1:(w1.alloc (.cells #[.int .u64 (sp:Int), .bool bb, .int .u64 (dt:Int), .int .u64 (ol:Int)] 97)).cell? ⟨w1.heap.size,1,none⟩=some (.bool bb):=hk.cell 1;have c2:(w1.alloc (.cells #[.int .u64 (sp:Int), .bool bb, .int .u64 (dt:Int), .int .u64 (ol:Int)] 97)).cell? ⟨w1.heap.size,2,none⟩=some (.int .u64 (dt:Int)):=hk.cell 2;have c3:(w1.alloc (.cells #[.int .u64 (sp:Int), .bool bb, .int .u64 (dt:Int), .int .u64 (ol:Int)] 97)).cell? ⟨w1.heap.size,3,none⟩=some (.int .u64 (ol:Int)):=hk.cell 3;clear hk;obtain ⟨go,hgo⟩:∃ go,(st sg p (sp,bb,dt,ol)).2=go:=⟨_,rfl⟩
    obtain ⟨s2,hs2⟩:∃ s2,(st sg p (sp,bb,dt,ol)).1=s2:=⟨_,rfl⟩
    have HI2:Hid (I (nn+1) sp s2):=hid (by rw [← hs2];exact HIs.out nn last sg p (sp,bb,dt,ol) hn4 HIg.out hls ok1);rw [hgo,hs2] at HBo HFn;clear hgo hs2;go_wp2_with (go_at_fn fn;refine HBo.out.mono ?_;rintro e w3 (⟨rfl,hr3,hch⟩ | ⟨rfl,hx⟩) <;> refine stop ?_)
    rotate_left
    ·unfold Stop
     have HXx:=hid hx;clear hx c0 c1 c2 c3 HFn;go_wp2_with fail
     go_ret;exact .inr ⟨rfl,HXx.out⟩
    unfold Stop;have HR3:=hid hr3;have HCh:=hid hch;clear hr3 hch;have hk3:=HCh.out.blk HK.out HNz.out;have HB3:Hid (Below w0.heap.size w0 w3):=hid (HB2.out.trans HCh.out.1);have f0:w3.cell? ⟨w1.heap.size,0,none⟩=some (.int .u64 (sp:Int)):=hk3.cell 0;have f3:w3.cell? ⟨w1.heap.size,3,none⟩=some (.int .u64 (ol:Int)):=hk3.cell 3;have HRd3:Hid (R s2 w3.drew):=hid (HRb.out _ _ _ HR3.out (Below.refl _ _).drew);clear hk3 c0 c1 c2 c3;cases go
    ·have HX2:Hid (X=(0,s2)):=hid (by rw [HFn.out,if_pos rfl])
     go_wp2_with fail
     go_ret;exact .inl (by
      unfold RetFol;rw [HX2.out];exact ⟨rfl,HR3.out,HB3.out⟩)
    ·have HX2:Hid (folW rd st (4097 - (nn+1)) ol sp (nn+1) s2=X):=hid (by rw [HFn.out,if_neg (by decide),show 4096 - nn=4097 - (nn+1) by omega])
     have e4:wrap64 ((nn:Int)+1)=((nn+1:Nat):Int):=by rw [IntWalk.wrap64_in _ oM];omega
     have HN4:=hid hn4;have HB3d:=hid HB3.out.drew;clear HFn hls e2 hn4;go_wp2_with fail
     go_region;go_wp2_with fail
     go_roundw
     case rel =>
      first
       | exact ⟨ol,sp,nn+1,s2,rfl,rfl,by go_num,ok4,by have:=HN4.out;omega,HX2,HRd3,HB3d,HI2⟩
       | exact ⟨ol,sp,nn+1,s2,rfl,rfl,by rw [e4],ok4,by have:=HN4.out;omega,HX2,HRd3,HB3d,HI2⟩
     case measure=>simp [Go.RowKit.intOf];omega
end
end
section
open Go.RowKit Go.Maps
theorem roundIn_any {m m':Nat} {P:Program} {l fn:Nat} {tmps:Array Value} {assign body:Code} {W:World} {R:Ending→World→Prop} (h:RoundIn Fence.wide m P l fn tmps assign body W R):RoundIn Fence.wide m' P l fn tmps assign body W R:=by
 exact ⟨h.1,fun c cs _=>h.2 c cs (room_wide _)⟩
theorem chain11_any (p sp:Nat) (dl:Bool) (dt ol gy l:Nat) (R:Ending→World→Prop) (W:World) (hy:Blk W gy 231 #[.func (.yield l) #[] #[]])
  (hY:YieldAt Fence.wide 5 Tryz.prog l #[.agg #[.int .u64 (sp:Int), .bool dl, .int .u64 (dt:Int), .int .u64 (ol:Int)]] (W.alloc (.cells #[.int .u64 (sp:Int), .bool dl, .int .u64 (dt:Int), .int .u64 (ol:Int)] 97)) R)
  (hR:∀ e w',R e w'→∃ b,e = .returned (.bool b)) :
  Calls Tryz.prog 129 #[.int .u64 (p:Int), .agg #[.int .u64 (sp:Int), .bool dl, .int .u64 (dt:Int), .int .u64 (ol:Int)], .pointer (some ⟨gy,0,none⟩)] W R:=by
 have hbx:=Blk.new W 97 #[.int .u64 (sp:Int), .bool dl, .int .u64 (dt:Int), .int .u64 (ol:Int)];have y0:=(hy.alloc (.cells #[.int .u64 (sp:Int), .bool dl, .int .u64 (dt:Int), .int .u64 (ol:Int)] 97)).cell 0;obtain ⟨fn,tmps,assign,body,hyr,hRd⟩:=hY;have v0:(W.alloc (.cells #[.int .u64 (sp:Int), .bool dl, .int .u64 (dt:Int), .int .u64 (ol:Int)] 97)).cell? ⟨W.heap.size,0,none⟩=some (.int .u64 (sp:Int)):=hbx.cell 0;have v1:(W.alloc (.cells #[.int .u64 (sp:Int), .bool dl, .int .u64 (dt:Int), .int .u64 (ol:Int)] 97)).cell? ⟨W.heap.size,1,none⟩=some (.bool dl):=hbx.cell 1;have v2:(W.alloc (.cells #[.int .u64 (sp:Int), .bool dl, .int .u64 (dt:Int), .int .u64 (ol:Int)] 97)).cell? ⟨W.heap.size,2,none⟩=some (.int .u64 (dt:Int)):=hbx.cell 2;have v3:(W.alloc (.cells #[.int .u64 (sp:Int), .bool dl, .int .u64 (dt:Int), .int .u64 (ol:Int)] 97)).cell? ⟨W.heap.size,3,none⟩=some (.int .u64 (ol:Int)):=hbx.cell 3;have y1:(W.alloc (.cells #[.int .u64 (sp:Int), .bool dl, .int .u64 (dt:Int), .int .u64 (ol:Int)] 97)).cell? ⟨gy,0,none⟩=some (.func (.yield l) #[] #[]):=y0;have HR:=hid hR;clear hy hbx y0 hR;refine (callsIn_wide (n:=7)).1 (callsIn_of_wp Tryz.func129 rfl trivial ?_ rfl);simp only [Tryz.ntmps129,List.size_toArray,List.length_cons,List.length_nil,Nat.reduceAdd,Nat.reduceSub,Array.replicate_succ,Array.replicate_zero,List.push_toArray,List.append_toArray,List.nil_append,List.cons_append];gi_wp2
 refine (roundIn_any hRd).mono ?_;intro e w' hR2;obtain ⟨b,rfl⟩:=HR.out e w' hR2;have HR2:=hid hR2;clear hR2 v0 v1 v2 v3 y1;gi_wp2
 exact HR2.out
def chSt (s:List (Nat × Bool × Nat × Nat)) (_:Nat) (v:Nat × Bool × Nat × Nat):List (Nat × Bool × Nat × Nat) × Bool:=(s++[v],true)
def vEnc (v:Nat × Bool × Nat × Nat):Array Value:=#[.agg #[.int .u64 (v.1:Int), .bool v.2.1, .int .u64 (v.2.2.1:Int), .int .u64 (v.2.2.2:Int)]]
def GoodC:Nat→List (Nat × Bool × Nat × Nat)→Prop
 | _,[]=>True
 | last,v :: t=>v.1 < last∧verOk v.1 v.2.1 v.2.2.1=true∧GoodC v.1 t
def lastC:Nat→List (Nat × Bool × Nat × Nat)→Nat
 | last,[]=>last
 | _,v :: t=>lastC v.1 t
theorem GoodC.add:∀ {last:Nat} {l:List (Nat × Bool × Nat × Nat)} {v:Nat × Bool × Nat × Nat},GoodC last l→v.1 < lastC last l→verOk v.1 v.2.1 v.2.2.1=true→GoodC last (l++[v])∧lastC last (l++[v])=v.1
 | last,[],v,_,h,hv=>⟨⟨h,hv,trivial⟩,rfl⟩
 | last,u :: t,v,hg,h,hv=>by
  obtain ⟨g1,g2⟩:=GoodC.add (last:=u.1) (l:=t) hg.2.2 h hv;exact ⟨⟨hg.1,hg.2.1,g1⟩,g2⟩
theorem abides_below {β:Type} {B:Nat} {J:β→World→Prop} (h:AbidesFrom B J) {s:β} {W W':World} (hs:J s W) (hb:Below W.heap.size W W'):J s W' :=
 h s W W' none hs ⟨hb.os,hb.tape,hb.output,hb.size,fun k hk _=>hb.block k hk⟩ (fun r e=>by cases e)
theorem KpC.of_below {n:Nat} {Zb:Fp} {A B:World} (hb:Below A.heap.size A B) (hn:n≤A.heap.size):KpC n Zb A B :=
 ⟨hb.mono hn,fun k o ho _ _=>(hb.block k (Array.getElem?_eq_some_iff.1 ho).1).trans ho⟩
section
variable {a:DA} {L T s n K:Nat} {x:HA} {cs:Nat→CS} {f:Nat→Option Nat} {N m b0:Nat} {S:Fp} {cur:Nat→Nat} {w w0:World} {d r:Nat}
end
theorem KpC.put {n:Nat} {Zb:Fp} {w:World} (hn:n≤w.heap.size) (W:World) (l:Nat) (o o':Obj) (hl:w.heap.size≤l) (h:W.heap[l]?=some o) (hc:o.isCells=false) (_:o.isWalk=false):KpC n Zb W (W.putObj l o'):=by
 refine ⟨(Below.refl n W).grown (grownBy_putObj' W l o') (by have:=(Array.getElem?_eq_some_iff.1 h).1;omega) (fun k e=>by cases e;omega),fun k u hu huc _=>?_⟩;by_cases e:k=l
 ·subst e
  rw [h] at hu;cases hu;rw [hc] at huc;exact absurd huc (by simp)
 ·exact (World.putObj_heap_other (fun e2=>e (by rw [e2]))).trans hu
theorem vchain_any (d head:Nat) (w:World):Calls Tryz.prog 41 #[.iface 59 (.pointer (some ⟨d,0,none⟩)), .int .u64 (head:Int)] w fun e w'=>e = .returned (.func (.func 127) #[] #[.pointer (some ⟨w.heap.size,0,none⟩), .pointer (some ⟨w.heap.size+1,0,none⟩)])∧w'=(w.alloc (.cells #[.iface 59 (.pointer (some ⟨d,0,none⟩))] 83)).alloc (.cells #[.int .u64 (head:Int)] 54):=by
 have hmf:∀ (fn:Fn) (first cap:Array Value) (w:World),(Instr.makeFunc fn first cap).run Tryz.prog w = .ok (.func fn first cap) w:=fun _ _ _ _=>rfl
 go_enter Tryz.func41,Tryz.ntmps41
 go_wp2;go_ret;exact ⟨rfl,rfl⟩
end
section
open Go.RowKit Go.Maps
structure VV where
 st:Nat
 dl:Bool
 q:Nat
 bl:List Nat
 p:List Nat
def VV.dt (v:VV):Nat:=v.bl.headD 0
def hdQ:List VV→Nat
 | []=>0
 | v :: _=>v.q
structure VerA (K:Nat) (cs:Nat→CS) (cur:Nat→Nat) (v:VV) (older:Nat):Prop where
 live:∃ k i,LiveA 53 K cs v.q 7 k i∧(cs k).cl=0
 words:WordsAt cur v.q [wSt v.st v.dl,v.dt,older]
 blen:v.bl.length=if v.dl=true then 0 else nBlk v.p.length
 bk:∀ j (hj:j < v.bl.length),BkA K cs cur v.bl[j] (v.bl.getD (j+1) 0) (v.p.drop (456 * j))
 pb:∀ b∈v.p,b < 256
 pl:v.p.length≤2000
 sp:v.st≤4611686018427387903
def HistA (K:Nat) (cs:Nat→CS) (cur:Nat→Nat):List VV→Prop
 | []=>True
 | v :: t=>VerA K cs cur v (hdQ t)∧HistA K cs cur t∧∀ u∈t,u.st < v.st
theorem headD_get:∀ (l:List Nat) (h:0 < l.length),l.headD 0=l[0]
 | [],h=>absurd h (Nat.lt_irrefl 0)
 | _ :: _,_=>rfl
theorem payW_3 (c:Nat):3≤payW c:=by
 rcases c with _ | _ | _ | _ | _ <;> simp [payW]
section
variable {K:Nat} {cs cs':Nat→CS} {cur cur':Nat→Nat} {v:VV} {older:Nat}
theorem VerA.dtz (h:VerA K cs cur v older):v.dl=decide (v.dt=0):=by
 cases hd:v.dl with
 | true =>
  have h1:=h.blen;rw [hd,if_pos rfl] at h1;have h2:v.bl=[]:=List.eq_nil_of_length_eq_zero h1;unfold VV.dt;rw [h2];rfl
 | false =>
  have h1:=h.blen;rw [hd,if_neg (by decide)] at h1;have h2:=nBlk_drop v.p;have h3:0 < v.bl.length:=oM;obtain ⟨k,i,g1,_⟩:=(h.bk 0 h3).live;have e0:v.bl.headD 0=v.bl[0]:=headD_get _ h3;unfold VV.dt;rw [e0,decide_eq_false g1.nz]
theorem wSt_two (st:Nat) (dl:Bool):wSt st dl / 2=st∧decide (wSt st dl % 2=1)=dl:=by
 unfold wSt;cases dl
 ·rw [if_neg (by decide)]
  exact ⟨oM,dF⟩
 ·rw [if_pos rfl]
  exact ⟨oM,dT⟩
theorem VerA.rd (h:VerA K cs cur v older):verR cur (fun q=>chkR 53 K cs q 7) v.q=(0,v.st,v.dl,v.dt,older):=by
 obtain ⟨k,i,h1,_⟩:=h.live;have hc:=(Live.chk ⟨k,i,h1⟩).1;have w0:=h.words 0 (by simp);have w1:=h.words 1 (by simp);have w2:=h.words 2 (by simp);rw [Nat.add_zero] at w0;have e0:cur (pOff v.q / 8)=wSt v.st v.dl:=w0;have e1:cur (pOff v.q / 8+1)=v.dt:=w1;have e2:cur (pOff v.q / 8+2)=older:=w2;have hok:verOk v.st v.dl v.dt=true:=by
  unfold verOk;rw [decide_eq_true h.sp,Bool.true_and,← h.dtz];simp
 unfold verR;rw [if_neg (fun hn=>hn hc),e0,e1,e2,(wSt_two v.st v.dl).1,(wSt_two v.st v.dl).2,if_pos hok]
theorem VerA.nz (h:VerA K cs cur v older):v.q≠0∧v.q < 18446744073709551616:=by
 obtain ⟨k,i,h1,_⟩:=h.live;exact ⟨h1.nz,h1.lt⟩
theorem HistA.hd64 {l:List VV} (h:HistA K cs cur l):hdQ l < 18446744073709551616:=by
 match l,h with
 | [],_=>exact show (0:Nat) < 18446744073709551616 by omega
 | v :: t,h=>exact h.1.nz.2
theorem VerA.keep {bl2:List Nat} (hk:KeepL K cs cur bl2 cs' cur') (h:VerA K cs cur v older):VerA K cs' cur' v older:=by
 obtain ⟨k,i,h1,h0⟩:=h.live;obtain ⟨g1,g2,g3,g4⟩:=hk v.q 7 k i h1;refine ⟨⟨k,i,g1,g2.trans h0⟩,fun y hy=>?_,h.blen,fun j hj=>(hk.bk (h.bk j hj)).1,h.pb,h.pl,h.sp⟩;have h3:=payW_3 (cs k).cl;have hy':y < 3:=hy;rw [g4 y oM];exact h.words y hy
theorem HistA.keep {bl2:List Nat} (hk:KeepL K cs cur bl2 cs' cur'):∀ {l:List VV},HistA K cs cur l→HistA K cs' cur' l
 | [],_=>trivial
 | _ :: _,h=>⟨h.1.keep hk,HistA.keep hk h.2.1,h.2.2⟩
end
def foldV {σ:Type} (st:σ→Nat→Nat × Bool × Nat × Nat→σ × Bool):List VV→σ→σ
 | [],s=>s
 | v :: t,s=>if (st s v.q (v.st,v.dl,v.dt,hdQ t)).2=false then (st s v.q (v.st,v.dl,v.dt,hdQ t)).1 else foldV st t (st s v.q (v.st,v.dl,v.dt,hdQ t)).1
theorem folW_hist {σ:Type} {K:Nat} {cs:Nat→CS} {cur:Nat→Nat} (st:σ→Nat→Nat × Bool × Nat × Nat→σ × Bool):∀ (l:List VV) (k last n:Nat) (s:σ),HistA K cs cur l→(∀ v∈l,v.st < last)→l.length < k→n+l.length≤4096 →
  folW (verR cur (fun q=>chkR 53 K cs q 7)) st k (hdQ l) last n s=(0,foldV st l s)
 | [],0,_,_,_,_,_,h,_=>absurd h (Nat.lt_irrefl 0)
 | [],k+1,last,n,s,_,_,_,_=>by
  unfold folW;rw [show hdQ []=0 from rfl,if_pos rfl];rfl
 | v :: t,0,_,_,_,_,_,h,_=>absurd h (Nat.not_lt_zero _)
 | v :: t,k+1,last,n,s,hh,hl,hk,hn=>by
  have hr:=hh.1.rd;rw [List.length_cons] at hk hn;unfold folW;rw [show hdQ (v :: t)=v.q from rfl,if_neg hh.1.nz.1,hr,if_neg (by
   rintro (h | h | h)
   ·exact h rfl
   ·omega
   ·have:=hl v (by simp)
    have h':last≤v.st:=h;omega)]
  show (if (st s v.q (v.st,v.dl,v.dt,hdQ t)).2=false then (0,(st s v.q (v.st,v.dl,v.dt,hdQ t)).1) else folW (verR cur (fun q=>chkR 53 K cs q 7)) st k (hdQ t) v.st (n+1) (st s v.q (v.st,v.dl,v.dt,hdQ t)).1)=_;unfold foldV;by_cases h1:(st s v.q (v.st,v.dl,v.dt,hdQ t)).2=false
  ·rw [if_pos h1,if_pos h1]
  ·rw [if_neg h1,if_neg h1]
   exact folW_hist st t k v.st (n+1) _ hh.2.1 hh.2.2 oM oM
section
variable {a:DA} {L T n K:Nat} {x:HA} {cs0 cs cs' cs2:Nat→CS} {f0 f f2:Nat→Option Nat} {N m b0:Nat} {S:Fp} {cur0 cur cur' cur2:Nat→Nat} {w:World} {al p bl ks:List Nat} {V:Nat→Nat} {cm i:Nat}
theorem VerA.blob {v:VV} {older:Nat} (h:VerA K cs cur v older) (hd:DS a L T 53 n K x cs f N m b0 S cur w) (hdl:v.dl=false):walkR L cur (fun q=>chkR 53 K cs q 1) v.dt=(0,v.bl,v.p):=by
 have h1:=h.blen;rw [hdl,if_neg (by decide)] at h1;exact chain_walk (chain_bk hd h1 h.pl h.bk) h.pb h.pl
structure Prep (K:Nat) (cs0:Nat→CS) (f0:Nat→Option Nat) (cur0:Nat→Nat) (cs:Nat→CS) (f:Nat→Option Nat) (cur:Nat→Nat) (bl:List Nat):Prop where
 fr:Fr 53 K cs0 f0 cur0 cs f cur
 rq:∀ q∈bl,∃ kind c,kind < 128∧Rq 53 K cs f kind q c
 nd:(bl.map pOff).Nodup
 fresh:∀ q∈bl,FreshB 53 K cs0 f0 q
theorem Prep.nil:Prep K cs f cur cs f cur []:=⟨Fr.refl,fun q h=>absurd h (by simp),List.nodup_nil,fun q h=>absurd h (by simp)⟩
theorem Prep.of2 (hw:W2 53 K cs f cur al p cs2 f2 cur2 bl bl.length):Prep K cs f cur cs2 f2 cur2 bl :=
 ⟨hw.w1.fr,fun q hq=>by
  obtain ⟨j,hj,e⟩:=List.getElem_of_mem hq;subst e;exact ⟨1,_,oM,hw.w1.rq j hj⟩,hw.w1.nd,hw.w1.fresh⟩
theorem Fr.paid {q k i:Nat} {l:List Nat} (hF:Fr 53 K cs0 f0 cur0 cs f cur) (hat:At 53 K cs q k i) (hl:l.length≤payW (cs k).cl) (hfr:FreshB 53 K cs0 f0 q):Fr 53 K cs0 f0 cur0 cs f (wrS cur (pwW (pOff q) l)):=by
 refine ⟨fun y hy=>?_,hF.chunk,hF.map,fun k3 i3 hk hdv hi3 hn j hj=>?_⟩
 ·rw [pwW_other hat hl (fun j hj=>oM)]
  exact hF.head y hy
 ·rw [pwW_other hat hl (fun j2 hj2=>?_)]
  ·exact hF.held k3 i3 hk hdv hi3 hn j hj
  ·have e3:=hF.chunk k3 hk hdv
   have h4:=pay_apart (s:=53) (cs:=cs) (k:=k3) (i:=i3) (k':=k) (i':=i) (j:=j) (j':=j2) (by rw [e3];exact hi3) hat.2.2.1 (by rw [e3];exact hj) hj2 (fun ⟨q1,q2⟩=>by
    subst q1 q2;refine hn (hfr k3 i3 ⟨hk,hdv,hi3,?_⟩);rw [hat.2.2.2,hF.off hk hdv])
   rw [e3] at h4;exact h4
theorem Rq.words {kind q c:Nat} {l:List Nat} {f':Nat→Option Nat} (h:Rq 53 K cs f kind q c) (hF:Fr 53 K cs f cur cs' f' cur') (hl:l.length≤payW c) (hw:WordsAt cur q l):WordsAt cur' q l:=fun y hy=>by
 obtain ⟨k,i,hat,hc,_⟩:=h.cls;have h5:=hw y hy;have h1:=hat.lines.1;rw [h1] at h5 ⊢;refine (hF.held k i hat.1 hat.2.1 hat.2.2.1 (fun hv=>?_) y (by rw [hc];omega)).trans h5;have hr:=h.keep.res;rw [hat.2.2.2,hv.2.2.2.2.2] at hr;cases hr
theorem Prep.add {cl k i kind q:Nat} {l:List Nat} (h:Prep K cs0 f0 cur0 cs f cur bl) (hd:DS a L T 53 n K x cs f N m b0 S cur w) (ho:ResOk 53 K cs f cur cl cs' cur' k i) (hcl:cl < 5) (hk:kind < 128) (hq:fptr 53 cs' kind k i=q) (hr:Rq 53 K cs' (updF f (offO 53 cs' k i) (some q)) kind q cl) (hat:At 53 K cs' q k i) (hl:l.length≤payW (cs' k).cl) :
  Prep K cs0 f0 cur0 cs' (updF f (offO 53 cs' k i) (some q)) (wrS cur' (pwW (pOff q) l)) (bl++[q])∧Fr 53 K cs f cur cs' (updF f (offO 53 cs' k i) (some q)) (wrS cur' (pwW (pOff q) l)):=by
 have hF:=Fr.alloc (v:=q) hd hcl ho;have hfr0:FreshB 53 K cs0 f0 q:=fresh_of (_cur':=cur') h.fr hF.chunk ho.vac hat;have hfr1:FreshB 53 K cs f q:=fresh_of (_cur':=cur') (Fr.refl (cur:=cur)) hF.chunk ho.vac hat;refine ⟨⟨(h.fr.trans hF).paid hat hl hfr0,fun z hz=>?_,?_,fun z hz=>?_⟩,hF.paid hat hl hfr1⟩
 ·rcases List.mem_append.1 hz with h1 | h1
  ·obtain ⟨kd,c,h2,h3⟩:=h.rq z h1
   exact ⟨kd,c,h2,(h3.step hd hcl ho).1⟩
  ·rw [List.mem_singleton.1 h1]
   exact ⟨kind,cl,hk,hr⟩
 ·rw [List.map_append,List.nodup_append]
  refine ⟨h.nd,by simp,fun u hu v hv=>?_⟩;obtain ⟨z,hz,rfl⟩:=List.mem_map.1 hu;have hv':v=pOff q:=by
   rw [List.map_cons,List.map_nil,List.mem_singleton] at hv;exact hv
  obtain ⟨kd,c,h2,h3⟩:=h.rq z hz;rw [hv',hat.2.2.2];exact (h3.step (v:=0) hd hcl ho).2
 ·rcases List.mem_append.1 hz with h1 | h1
  ·exact h.fresh z h1
  ·rw [List.mem_singleton.1 h1]
   exact hfr0
theorem Prep.keepL (hd:DS a L T 53 n K x cs2 f2 N m b0 S cur2 w) (hP:Prep K cs f cur cs2 f2 cur2 bl) {v:Nat} (hA:AOk 53 K cs2 ks (tlOf 53 cs2 bl) (dlOf 53 cs2 []) V)
  (h96:([(3328+8 * i,v)]++ks.flatMap (acW 53 cs2 (tlOf 53 cs2 bl) (dlOf 53 cs2 []) V)).length≤96) (hi:i < 8) :
  KeepL K cs cur bl (acC cs2 ks (tlOf 53 cs2 bl) (dlOf 53 cs2 []) V) (rdG 0 cur2 ([(3328+8 * i,v)]++ks.flatMap (acW 53 cs2 (tlOf 53 cs2 bl) (dlOf 53 cs2 []) V)) cm):=by
 intro q kind k i2 hl;have hat:=hl.at_;have e1:=hP.fr.chunk k hat.1 hat.2.1;have hst:((cs k).bs i2).st=177:=by rw [hl.bk]
 have hnv:¬ Vac 53 K cs f (cs k).cl k i2:=fun hv=>by
  have:=hv.2.2.2.2.1;omega
 have hl2:LiveA 53 K cs2 q kind k i2:=⟨⟨hat.1,by rw [e1];exact hat.2.1,by rw [e1];exact hat.2.2.1,by rw [hat.2.2.2];unfold offO;rw [e1]⟩,by rw [e1];exact hl.bk,hl.kind_,hl.nz,hl.lt,hl.top⟩
 have hne:∀ r∈bl,pOff r≠pOff q:=fun r hr e=>hnv (hP.fresh r hr k i2 ⟨hat.1,hat.2.1,hat.2.2.1,e.trans hat.2.2.2⟩)
 have hat2:∀ r∈bl,∃ k i,At 53 K cs2 r k i:=fun r hr=>by
  obtain ⟨kd,c,_,h3⟩:=hP.rq r hr;obtain ⟨k3,i3,h4,_⟩:=h3.cls;exact ⟨k3,i3,h4⟩
 refine ⟨pub_live hat2 (fun r hr=>absurd hr (by simp)) hl2 hne (fun r hr=>absurd hr (by simp)),?_,?_,fun j hj=>?_⟩
 ·obtain ⟨_,e2,_⟩:=acC_dv cs2 ks (tlOf 53 cs2 bl) (dlOf 53 cs2 []) V k
  rw [e2,e1]
 ·intro hm
  obtain ⟨r,hr,e⟩:=List.mem_map.1 hm;exact hne r hr e
 ·have hl3:=hl2.at_.lines.1
  have h5:=hP.fr.held k i2 hat.1 hat.2.1 hat.2.2.1 hnv j hj;have h6:=pub_pay (s0:=0) (cm:=cm) (j:=j) hd oM hA h96 hl2.at_.1 hl2.at_.2.1 hl2.at_.2.2.1 (by rw [e1];exact hj) (fun e he=>by
   simp at he;subst he;show (3328+8 * i) / 8≠_;omega)
  rw [e1] at h6 hl3;rw [hl3];exact h6.trans h5
theorem pub_words (hd:DS a L T 53 n K x cs2 f2 N m b0 S cur2 w) {v q kind c:Nat} {l:List Nat} (hA:AOk 53 K cs2 ks (tlOf 53 cs2 bl) (dlOf 53 cs2 []) V) (hks:∀ k,k∈ks↔k < K∧(tlOf 53 cs2 bl k≠[]∨dlOf 53 cs2 [] k≠[]))
  (h96:([(3328+8 * i,v)]++ks.flatMap (acW 53 cs2 (tlOf 53 cs2 bl) (dlOf 53 cs2 []) V)).length≤96) (hi:i < 8) (hr:Rq 53 K cs2 f2 kind q c) (hq:q∈bl) (h128:kind < 128) (hl:l.length≤payW c) (hw:WordsAt cur2 q l) :
  (∃ k i2,LiveA 53 K (acC cs2 ks (tlOf 53 cs2 bl) (dlOf 53 cs2 []) V) q kind k i2∧(acC cs2 ks (tlOf 53 cs2 bl) (dlOf 53 cs2 []) V k).cl=c)∧WordsAt (rdG 0 cur2 ([(3328+8 * i,v)]++ks.flatMap (acW 53 cs2 (tlOf 53 cs2 bl) (dlOf 53 cs2 []) V)) cm) q l:=by
 obtain ⟨k,i2,h1,h2,h3⟩:=pub_keep hA hks hr hq h128;obtain ⟨_,e2,_⟩:=acC_dv cs2 ks (tlOf 53 cs2 bl) (dlOf 53 cs2 []) V k;refine ⟨⟨k,i2,h1,by rw [e2,h2]⟩,fun y hy=>?_⟩;have h5:=hw y hy;have hln:=h3.lines.1;rw [hln] at h5 ⊢;refine (pub_pay hd oM hA h96 h3.1 h3.2.1 h3.2.2.1 (by rw [h2];omega) (fun e he=>?_)).trans h5;simp at he;subst he;show (3328+8 * i) / 8≠_;omega
theorem pub_link (hd:DS a L T 53 n K x cs2 f2 N m b0 S cur2 w) {v:Nat} (hA:AOk 53 K cs2 ks (tlOf 53 cs2 bl) (dlOf 53 cs2 []) V) (hi:i < 8) (hv:v < 18446744073709551616):rdG 0 cur2 ([(3328+8 * i,v)]++ks.flatMap (acW 53 cs2 (tlOf 53 cs2 bl) (dlOf 53 cs2 []) V)) cm (416+i)=v:=by
 have hu:=link_ok hd i v hi hv;have h:=rdG_get (cur:=cur2) (cm:=cm) (pub_off hd oM hu hA) (pub_nodup hu hA) (e:=(3328+8 * i,v)) (by simp);have e:(3328+8 * i) / 8=416+i:=oM;rw [← e];exact h
end
end
section
open Go.RowKit Go.Maps
def newI (x:Nat):List VV→Nat
 | []=>0
 | v :: t=>if v.st≤x then 0 else newI x t+1
theorem fold_at (x:Nat):∀ (l:List VV) (s:Nat × Bool × Nat × Nat),foldV (atS x) l s=match l[newI x l]? with
  | some v=>(v.st,v.dl,v.dt,hdQ (l.drop (newI x l+1)))
  | none=>s
 | [],s=>rfl
 | v :: t,s=>by
  unfold foldV newI;by_cases h:v.st≤x
  ·have e1:atS x s v.q (v.st,v.dl,v.dt,hdQ t)=((v.st,v.dl,v.dt,hdQ t),false):=if_neg (by show ¬ x < v.st;omega)
   rw [e1,if_pos rfl,if_pos h];rfl
  ·have e1:atS x s v.q (v.st,v.dl,v.dt,hdQ t)=(s,true):=if_pos (by show x < v.st;omega)
   rw [e1,if_neg (show ¬ (true:Bool)=false by decide),if_neg h,fold_at x t s];rfl
def atV (x:Nat) (l:List VV):Nat × Nat × Bool × Nat × Nat:=match l[newI x l]? with
 | some v=>if v.dl=true then (5,0,false,0,0) else (0,v.st,v.dl,v.dt,hdQ (l.drop (newI x l+1)))
 | none=>(5,0,false,0,0)
section
variable {K:Nat} {cs:Nat→CS} {cur:Nat→Nat} {l:List VV}
theorem HistA.lt:∀ {l:List VV},HistA K cs cur l→∀ v∈l,v.st < 4611686018427387904
 | [],_,v,hv=>absurd hv (by simp)
 | u :: t,h,v,hv=>by
  rcases List.mem_cons.1 hv with rfl | h1
  ·have:=h.1.sp
   omega
  ·exact h.2.1.lt v h1
theorem HistA.ver:∀ {l:List VV},HistA K cs cur l→∀ v∈l,∃ older,VerA K cs cur v older
 | [],_,v,hv=>absurd hv (by simp)
 | u :: t,h,v,hv=>by
  rcases List.mem_cons.1 hv with rfl | h1
  ·exact ⟨_,h.1⟩
  ·exact h.2.1.ver v h1
theorem HistA.fol {σ:Type} (st:σ→Nat→Nat × Bool × Nat × Nat→σ × Bool) (h:HistA K cs cur l) (hlen:l.length≤4096) (s:σ):folW (verR cur (fun q=>chkR 53 K cs q 7)) st 4097 (hdQ l) 4611686018427387904 0 s=(0,foldV st l s) :=
 folW_hist st l 4097 4611686018427387904 0 s h h.lt oM oM
theorem at_hist (h:HistA K cs cur l) (hlen:l.length≤4096) (x:Nat):atR (verR cur (fun q=>chkR 53 K cs q 7)) (hdQ l) x=atV x l:=by
 have h1:=h.fol (atS x) hlen (0,true,0,0);rw [fold_at] at h1;unfold atR atV;rw [h1];show (if (0:Nat)≠0 then _ else _)=_;rw [if_neg (by decide)];cases l[newI x l]? with
 | none=>rfl
 | some v=>rfl
theorem fold_ck (B:Nat→Nat):∀ l:List VV,(∀ v∈l,v.dl=false→B v.dt=0)→foldV (ckS B) l 0=0
 | [],_=>rfl
 | v :: t,h=>by
  unfold foldV;have e1:ckS B 0 v.q (v.st,v.dl,v.dt,hdQ t)=(0,true):=if_neg (fun hn=>hn.2 (h v (by simp) hn.1));rw [e1,if_neg (by decide)];exact fold_ck B t (fun u hu=>h u (by simp [hu]))
end
section
variable {a:DA} {L T n K:Nat} {x:HA} {cs:Nat→CS} {f:Nat→Option Nat} {N m b0:Nat} {S:Fp} {cur:Nat→Nat} {w:World} {l:List VV}
theorem ck_hist (h:HistA K cs cur l) (hd:DS a L T 53 n K x cs f N m b0 S cur w) (hlen:l.length≤4096):vckR (verR cur (fun q=>chkR 53 K cs q 7)) (fun z=>(walkR L cur (fun q=>chkR 53 K cs q 1) z).1) (hdQ l)=0:=by
 have h1:=h.fol (ckS (fun z=>(walkR L cur (fun q=>chkR 53 K cs q 1) z).1)) hlen 0;unfold vckR;rw [h1,fold_ck _ l (fun v hv hdl=>by
  obtain ⟨older,h2⟩:=h.ver v hv;rw [h2.blob hd hdl])]
 rfl
end
section
variable {a:DA} {L T n K:Nat} {x:HA} {cs:Nat→CS} {f:Nat→Option Nat} {N m b0:Nat} {S:Fp} {cur:Nat→Nat} {w:World} {l:List VV}
end
end
section
open Go.RowKit Go.Maps
structure RV where
 v:VV
 B:Option Addr
 nb:Nat
 cb:Nat
 D:Option Addr
 nd:Nat
 cd:Nat
def RV.cells (r:RV):List Value:=[.int .u64 (r.v.st:Int), .bool r.v.dl, .int .u64 (r.v.q:Int), .slice r.B r.nb r.cb, .slice r.D r.nd r.cd]
def rvCells (l:List RV):List Value:=l.flatMap RV.cells
theorem rvCells_len:∀ l:List RV,(rvCells l).length=l.length * 5
 | []=>rfl
 | r :: l=>by
  have:=rvCells_len l;simp only [rvCells,List.flatMap_cons,List.length_append,List.length_cons] at this ⊢;rw [this];show 5+l.length * 5=_;omega
theorem rvCells_at:∀ (l:List RV) (k j:Nat) (hk:k < l.length),j < 5→(rvCells l)[k * 5+j]?=(l[k]).cells[j]?
 | r :: l,0,j,_,hj=>by
  show (r.cells++rvCells l)[0 * 5+j]?=r.cells[j]?;rw [Nat.zero_mul,Nat.zero_add,List.getElem?_append_left (show j < 5 from hj)]
 | r :: l,k+1,j,hk,hj=>by
  have hk':k < l.length:=by simpa using hk
  have ih:=rvCells_at l k j hk' hj;show (r.cells++rvCells l)[(k+1) * 5+j]?=(l[k]).cells[j]?;rw [List.getElem?_append_right (show (5:Nat)≤(k+1) * 5+j by omega)];show (rvCells l)[(k+1) * 5+j - 5]?=_;rw [show (k+1) * 5+j - 5=k * 5+j by omega];exact ih
theorem rv_facts {w:World} {B n:Nat} {A:Option Addr} {l:List RV} (h:Reads w B 5 A n (rvCells l)) {k:Nat} (hk:k < n) :
  ∃ (hl:k < l.length) (b off:Nat),A=some ⟨b,off,none⟩∧b < B∧w.cell? ⟨b,off+k * 5,none⟩=some (.int .u64 ((l[k]).v.st:Int))∧w.cell? ⟨b,off+k * 5+1,none⟩=some (.bool (l[k]).v.dl)∧w.cell? ⟨b,off+k * 5+2,none⟩=some (.int .u64 ((l[k]).v.q:Int))∧w.cell? ⟨b,off+k * 5+3,none⟩=some (.slice (l[k]).B (l[k]).nb (l[k]).cb)∧w.cell? ⟨b,off+k * 5+4,none⟩=some (.slice (l[k]).D (l[k]).nd (l[k]).cd):=by
 have hl:k < l.length:=by have:=h.1;rw [rvCells_len] at this;omega
 obtain ⟨b,off,hA,hb,hc⟩:=h.plain oM oM;exact ⟨hl,b,off,hA,hb,hc (k * 5) _ (rvCells_at l k 0 hl oM),hc (k * 5+1) _ (rvCells_at l k 1 hl oM),hc (k * 5+2) _ (rvCells_at l k 2 hl oM),hc (k * 5+3) _ (rvCells_at l k 3 hl oM),hc (k * 5+4) _ (rvCells_at l k 4 hl oM)⟩
theorem rv_len {w:World} {B n:Nat} {A:Option Addr} {l:List RV} (h:Reads w B 5 A n (rvCells l)):l.length=n:=by
 have:=h.1;rw [rvCells_len] at this;omega
def vvs (l:List RV):List VV:=l.map RV.v
def Desc (l:List RV):Prop:=∀ i (h:i+1 < l.length),(l[i+1]).v.st < (l[i]).v.st
end
end Go.Proofs.YtfkjjoglnmeciaaGreatDoor
