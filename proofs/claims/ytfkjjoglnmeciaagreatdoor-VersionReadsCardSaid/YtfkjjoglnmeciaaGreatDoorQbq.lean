/- The walks and laws that the claim leans on, part 43. -/
import Derived.Test.YtfkjjoglnmeciaaGreatDoorQbo
import Derived.Test.YtfkjjoglnmeciaaGreatDoorQbp
set_option maxRecDepth 100000
set_option maxHeartbeats 16000000
namespace Go.Proofs.YtfkjjoglnmeciaaGreatDoor
open Go.Lib (hid)
section
open Go.RowKit Go.Maps
def folW {σ:Type} (rd:Nat→Nat × Nat × Bool × Nat × Nat) (st:σ→Nat→Nat × Bool × Nat × Nat→σ × Bool):Nat→Nat→Nat→Nat→σ→Nat × σ
 | 0,_,_,_,s=>(11,s)
 | k+1,p,last,n,s =>
  if p=0 then (0,s) else
  if (rd p).1≠0∨n=4096∨last≤(rd p).2.1 then (11,s) else
  if (st s p (rd p).2).2=false then (0,(st s p (rd p).2).1) else
  folW rd st k (rd p).2.2.2.2 (rd p).2.1 (n+1) (st s p (rd p).2).1
def Body {σ:Type} (fn:Nat) (caps:Array Value) (w0:World) (I:Nat→σ→Prop) (Z:σ→World→Fp) (R:σ→World→Prop) (st:σ→Nat→Nat × Bool × Nat × Nat→σ × Bool):Prop :=
 ∀ (s:σ) (n p sp:Nat) (dl:Bool) (dt ol:Nat) (W:World),n < 4096→I n s→R s W→Below w0.heap.size w0 W→verOk sp dl dt=true→p < 18446744073709551616→sp≤4611686018427387903→dt < 18446744073709551616→ol < 18446744073709551616 →
  Calls Tryz.prog fn (#[.int .u64 (p:Int), .agg #[.int .u64 (sp:Int), .bool dl, .int .u64 (dt:Int), .int .u64 (ol:Int)]]++caps) W fun e w'=>e = .returned (.bool (st s p (sp,dl,dt,ol)).2)∧R (st s p (sp,dl,dt,ol)).1 w'∧Chg (Z s W) W w'
theorem verR_ok {cur:Nat→Nat} {chk:Nat→Nat} {p sp dt ol:Nat} {bb:Bool} (hb:∀ i,cur i < 18446744073709551616) (h:verR cur chk p=(0,sp,bb,dt,ol)):verOk sp bb dt=true∧sp≤4611686018427387903∧dt < 18446744073709551616∧ol < 18446744073709551616:=by
 unfold verR at h;by_cases h1:chk p≠0
 ·rw [if_pos h1] at h
  exact absurd (congrArg Prod.fst h) h1
 rw [if_neg h1] at h;split at h
 ·rename_i h2
  injection h with _ h
  injection h with e1 h
  injection h with e2 h
  injection h with e3 e4
  subst e1 e2 e3 e4;have h3:=h2;unfold verOk at h3;rw [Bool.and_eq_true] at h3;exact ⟨h2,of_decide_eq_true h3.1,hb _,hb _⟩
 ·exact absurd (congrArg Prod.fst h) (show ¬ (11:Nat)=0 by decide)
section
variable {a:DA} {L T s n K:Nat} {x:HA} {cs:Nat→CS} {f:Nat→Option Nat} {N m b0:Nat} {S:Fp} {cur:Nat→Nat} {w w0:World} {d r:Nat}
theorem vdamaged_any (h:SD a L T s n K x cs f N m b0 S cur w d r) :
  Calls Tryz.prog 143 #[.iface 59 (.pointer (some ⟨d,0,none⟩))] w fun e w'=>e = .returned (.int .i64 11)∧w=w':=by
 have HEr:=hid (errD h.ds.dev h.dir);have hmE:=methDErr (some ⟨d,0,none⟩);clear h;go_enter Tryz.func143,Tryz.ntmps143
 go_wp2_with (go_at_call 432;refine HEr.out.mono ?_;rintro e w1 ⟨rfl,rfl⟩)
 go_ret;exact ⟨rfl,rfl⟩
def RetFol {σ:Type} (w0:World) (R:σ→World→Prop) (X:Nat × σ) (e:Ending) (w':World):Prop:=e = .returned (.int .i64 (X.1:Int))∧R X.2 w'∧Below w0.heap.size w0 w'
theorem vfollow_any {σ:Type} (h:SD a L T s n K x cs f N m b0 S cur w0 d r) (hw:Below w0.heap.size w0 w) (head:Nat) (hh:head < 18446744073709551616) (fn:Nat) (caps:Array Value) (I:Nat→σ→Prop) (Z:σ→World→Fp) (R:σ→World→Prop) (st:σ→Nat→Nat × Bool × Nat × Nat→σ × Bool) (s0:σ) (hZ:∀ s W,R s W→∀ k,Z s W k→w0.heap.size≤k∧k < W.heap.size) (hZm:∀ s W W' k,R s W→Below W.heap.size W W'→Z s W' k→Z s W k) (hI0:I 0 s0) (hIs:∀ n s p v,n < 4096→I n s→I (n+1) (st s p v).1) (hR0:R s0 w) (hRb:∀ s W W',R s W→Below W.heap.size W W'→R s W')
  (heg:∀ args w,(callFunc fn args).run Tryz.prog w = .ok (.enter fn args) w) (hbody:Body fn caps w0 I Z R st) :
  Calls Tryz.prog 128 #[.iface 59 (.pointer (some ⟨d,0,none⟩)), .int .u64 (head:Int), .func (.func fn) #[] caps] w (RetFol w0 R (folW (verR cur (fun q=>chkR s K cs q 7)) st 4097 head 4611686018427387904 0 s0)):=by
 have HRd:Hid (∀ (p:Nat) (W:World),p < 18446744073709551616→Below w0.heap.size w0 W→Calls Tryz.prog 43 #[.iface 59 (.pointer (some ⟨d,0,none⟩)), .int .u64 (p:Int)] W (RetVer W (verR cur (fun q=>chkR s K cs q 7) p))):=hid (fun p W hp hW=>vread_any (h.below hW) p hp);have HEr:Hid (∀ W,Below w0.heap.size w0 W→Calls Tryz.prog 432 #[.pointer (some ⟨d,0,none⟩)] W fun e w'=>e = .returned (.int .i64 0)∧W=w'):=hid (fun W hW=>errD (h.below hW).ds.dev ((h.below hW).dir));have HDm:Hid (∀ W,Below w0.heap.size w0 W→Calls Tryz.prog 143 #[.iface 59 (.pointer (some ⟨d,0,none⟩))] W fun e w'=>e = .returned (.int .i64 11)∧W=w'):=hid (fun W hW=>vdamaged_any (h.below hW));have HOk:Hid (∀ p sp bb dt ol,verR cur (fun q=>chkR s K cs q 7) p=(0,sp,bb,dt,ol)→verOk sp bb dt=true∧sp≤4611686018427387903∧dt < 18446744073709551616∧ol < 18446744073709551616):=hid (fun p sp bb dt ol he=>verR_ok h.ds.bnd he);generalize verR cur (fun q=>chkR s K cs q 7)=rd at *;have HE0:=hid (HEr.out w hw);have HB0:=hid hw;have HR0:=hid hR0;have HRb:=hid hRb;have HBy:=hid hbody;have HHd:=hid hh;have HZ:=hid hZ;have HZm:=hid hZm;have HI0:=hid hI0;have HIs:=hid hIs;obtain ⟨X,hX⟩:∃ X,folW rd st 4097 head 4611686018427387904 0 s0=X:=⟨_,rfl⟩
 rw [hX];have HX:=hid hX;have hmE:=methDErr (some ⟨d,0,none⟩);have hnil:∀ W,(binOp .eql 83 (.iface 59 (.pointer (some ⟨d,0,none⟩))) .nilIface).run Tryz.prog W = .ok (.bool false) W:=fun W=>by rfl
 clear h hw hR0 hRb hbody hh hX hZ hZm hI0 hIs;go_enter Tryz.func128,Tryz.ntmps128
 go_wp2_with (go_at_call 432;refine HE0.out.mono ?_;rintro e w1 ⟨rfl,rfl⟩)
 go_loopw [8,9,10] (fun vl vp vn wr=>∃ (p last n:Nat) (sg:σ),vl = .int .u64 (last:Int)∧vp = .int .u64 (p:Int)∧vn = .int .i64 (n:Int)∧p < 18446744073709551616∧n≤4096∧Hid (folW rd st (4097 - n) p last n sg=X)∧Hid (R sg wr)∧Hid (Below w0.heap.size w0 wr)∧Hid (I n sg)) (fun _ _ vn _=>4097 - (Go.RowKit.intOf vn).toNat)
 case atStart=>exact ⟨head,4611686018427387904,0,s0,rfl,rfl,rfl,HHd.out,oM,HX,HR0,HB0,HI0⟩
 case round =>
  obtain ⟨p,last,nn,sg,rfl,rfl,rfl,hp,hn,HF,HRg,HB,HIg⟩:=hrel;by_cases hp0:p=0
  ·subst hp0
   have HX2:Hid (X=(0,sg)):=hid (by
    rw [← HF.out,show 4097 - nn=(4096 - nn)+1 by omega];unfold folW;rw [if_pos rfl])
   rw [show ((0:Nat):Int)=0 from rfl];go_wp2_with fail
   go_ret;unfold RetFol;rw [HX2.out];exact ⟨rfl,HRg.out,HB.out⟩
  ·obtain ⟨ev,sp,bb,dt,ol,hR⟩:∃ ev sp bb dt ol,rd p=(ev,sp,bb,dt,ol):=⟨_,_,_,_,_,rfl⟩
   have d0:((p:Int) != 0)=true:=by rw [bne,beq_eq_false_iff_ne.2 oM];rfl
   have HRp:Hid (Calls Tryz.prog 43 #[.iface 59 (.pointer (some ⟨d,0,none⟩)), .int .u64 (p:Int)] wr fun e w'=>e = .returned (.tuple #[.agg #[.int .u64 (sp:Int), .bool bb, .int .u64 (dt:Int), .int .u64 (ol:Int)], .int .i64 (ev:Int)])∧Below wr.heap.size wr w'):=hid (by
    have h:=HRd.out p wr hp HB.out;rw [hR] at h;exact h)
   have HFs:Hid (X=if ev≠0∨nn=4096∨last≤sp then (11,sg) else if (st sg p (sp,bb,dt,ol)).2=false then (0,(st sg p (sp,bb,dt,ol)).1) else folW rd st (4096 - nn) ol sp (nn+1) (st sg p (sp,bb,dt,ol)).1):=hid (by
    rw [← HF.out,show 4097 - nn=(4096 - nn)+1 by omega];conv=>lhs;unfold folW
    rw [if_neg hp0,hR])
   have HR:=hid hR;have HP0:=hid hp0;clear hR hp0 HF;by_cases hbad:ev≠0∨nn=4096∨last≤sp
   ·have HX2:Hid (X=(11,sg)):=hid (by rw [HFs.out,if_pos hbad])
    have HBad:=hid hbad;clear hbad HFs;go_wp2_with (go_at_call 43;refine HRp.out.mono ?_;rintro e w1 ⟨rfl,hb1⟩;have HB1:=hid hb1;clear hb1;refine stop ?_)
    unfold Stop;have c0:(w1.alloc (.cells #[.int .u64 (sp:Int), .bool bb, .int .u64 (dt:Int), .int .u64 (ol:Int)] 97)).cell? ⟨w1.heap.size,0,none⟩=some (.int .u64 (sp:Int)):=(Blk.new w1 97 #[.int .u64 (sp:Int), .bool bb, .int .u64 (dt:Int), .int .u64 (ol:Int)]).cell 0;have hb2:Below wr.heap.size wr (w1.alloc (.cells #[.int .u64 (sp:Int), .bool bb, .int .u64 (dt:Int), .int .u64 (ol:Int)] 97)):=HB1.out.alloc HB1.out.size _;have HB2:=hid (HB.out.trans (hb2.mono HB.out.size));have HD2:=hid (HDm.out _ HB2.out);have HR2:=hid (HRb.out _ _ _ HRg.out hb2);clear hb2;by_cases hev:ev=0
    ·subst hev
     rw [show ((0:Nat):Int)=0 from rfl];by_cases hn4:nn=4096
     ·subst hn4
      go_wp2_with (go_at_call 143;refine HD2.out.mono ?_;rintro e w2 ⟨rfl,rfl⟩)
      go_ret;unfold RetFol;rw [HX2.out];exact ⟨rfl,HR2.out,HB2.out⟩
     ·have e1:((nn:Int) == 4096)=false:=beq_eq_false_iff_ne.2 oM
      have e2:last≤sp:=by have:=HBad.out;omega
      go_wp2_with (go_at_call 143;refine HD2.out.mono ?_;rintro e w2 ⟨rfl,rfl⟩)
      go_ret;unfold RetFol;rw [HX2.out];exact ⟨rfl,HR2.out,HB2.out⟩
    ·have e1:((ev:Int) != 0)=true:=by rw [bne,beq_eq_false_iff_ne.2 oM];rfl
     go_wp2_with (go_at_call 143;refine HD2.out.mono ?_;rintro e w2 ⟨rfl,rfl⟩)
     go_ret;unfold RetFol;rw [HX2.out];exact ⟨rfl,HR2.out,HB2.out⟩
   ·obtain rfl:ev=0:=oM
    have hn4:nn < 4096:=oM;have hls:sp < last:=oM;obtain ⟨ok1,ok2,ok3,ok4⟩:=HOk.out p sp bb dt ol HR.out;have HFn:Hid (X=if (st sg p (sp,bb,dt,ol)).2=false then (0,(st sg p (sp,bb,dt,ol)).1) else folW rd st (4096 - nn) ol sp (nn+1) (st sg p (sp,bb,dt,ol)).1):=hid (by rw [HFs.out,if_neg hbad]);rw [show ((0:Nat):Int)=0 from rfl] at HRp;have e1:((nn:Int) == 4096)=false:=beq_eq_false_iff_ne.2 oM;have e2:¬ last≤sp:=oM;clear hbad HFs;go_wp2_with (go_at_call 43;refine HRp.out.mono ?_;rintro e w1 ⟨rfl,hb1⟩;have HB1:=hid hb1;clear hb1;refine stop ?_)
    unfold Stop;have hk:=Blk.new w1 97 #[.int .u64 (sp:Int), .bool bb, .int .u64 (dt:Int), .int .u64 (ol:Int)];have hb2:Below wr.heap.size wr (w1.alloc (.cells #[.int .u64 (sp:Int), .bool bb, .int .u64 (dt:Int), .int .u64 (ol:Int)] 97)):=HB1.out.alloc HB1.out.size _;have HB2:=hid (HB.out.trans (hb2.mono HB.out.size));have HR2:=hid (HRb.out _ _ _ HRg.out hb2);have HBo:=hid (HBy.out sg nn p sp bb dt ol _ hn4 HIg.out HR2.out HB2.out ok1 hp ok2 ok3 ok4);have HK:=hid hk;have HNz:Hid (¬ Z sg (w1.alloc (.cells #[.int .u64 (sp:Int), .bool bb, .int .u64 (dt:Int), .int .u64 (ol:Int)] 97)) w1.heap.size):=hid (fun hz=>by have h1:=(HZ.out sg wr HRg.out _ (HZm.out sg wr _ _ HRg.out hb2 hz)).2;have h2:=HB1.out.size;omega);have HZo:Hid (∀ k,Z sg (w1.alloc (.cells #[.int .u64 (sp:Int), .bool bb, .int .u64 (dt:Int), .int .u64 (ol:Int)] 97)) k→w0.heap.size≤k):=hid (fun k hz=>(HZ.out sg wr HRg.out k (HZm.out sg wr _ _ HRg.out hb2 hz)).1);clear hb2;have c0:(w1.alloc (.cells #[.int .u64 (sp:Int), .bool bb, .int .u64 (dt:Int), .int .u64 (ol:Int)] 97)).cell? ⟨w1.heap.size,0,none⟩=some (.int .u64 (sp:Int)):=hk.cell 0;have c1:(w1.alloc (.cells #[.int .u64 (sp:Int), .bool bb, .int .u64 (dt:Int), .int .u64 (ol:Int)] 97)).cell? ⟨w1.heap.size,1,none⟩=some (.bool bb):=hk.cell 1;have c2:(w1.alloc (.cells #[.int .u64 (sp:Int), .bool bb, .int .u64 (dt:Int), .int .u64 (ol:Int)] 97)).cell? ⟨w1.heap.size,2,none⟩=some (.int .u64 (dt:Int)):=hk.cell 2
    have c3:(w1.alloc (.cells #[.int .u64 (sp:Int), .bool bb, .int .u64 (dt:Int), .int .u64 (ol:Int)] 97)).cell? ⟨w1.heap.size,3,none⟩=some (.int .u64 (ol:Int)):=hk.cell 3;clear hk;obtain ⟨go,hgo⟩:∃ go,(st sg p (sp,bb,dt,ol)).2=go:=⟨_,rfl⟩
    obtain ⟨s2,hs2⟩:∃ s2,(st sg p (sp,bb,dt,ol)).1=s2:=⟨_,rfl⟩
    have HI2:Hid (I (nn+1) s2):=hid (by rw [← hs2];exact HIs.out nn sg p (sp,bb,dt,ol) hn4 HIg.out);rw [hgo,hs2] at HBo HFn;clear hgo hs2;go_wp2_with (go_at_fn fn;refine HBo.out.mono ?_;rintro e w3 ⟨rfl,hr3,hch⟩;have HR3:=hid hr3;have HCh:=hid hch;clear hr3 hch;refine stop ?_)
    unfold Stop;have hk3:=HCh.out.blk HK.out HNz.out;have HB3:Hid (Below w0.heap.size w0 w3):=hid (HB2.out.trans (HCh.out.toBelow HB2.out.size HZo.out));have f0:w3.cell? ⟨w1.heap.size,0,none⟩=some (.int .u64 (sp:Int)):=hk3.cell 0;have f3:w3.cell? ⟨w1.heap.size,3,none⟩=some (.int .u64 (ol:Int)):=hk3.cell 3;have HRd3:Hid (R s2 w3.drew):=hid (HRb.out _ _ _ HR3.out (Below.refl _ _).drew);clear hk3 c0 c1 c2 c3;cases go
    ·have HX2:Hid (X=(0,s2)):=hid (by rw [HFn.out,if_pos rfl])
     go_wp2_with fail
     go_ret;unfold RetFol;rw [HX2.out];exact ⟨rfl,HR3.out,HB3.out⟩
    ·have HX2:Hid (folW rd st (4097 - (nn+1)) ol sp (nn+1) s2=X):=hid (by rw [HFn.out,if_neg (by decide),show 4096 - nn=4097 - (nn+1) by omega])
     have e4:wrap64 ((nn:Int)+1)=((nn+1:Nat):Int):=by rw [IntWalk.wrap64_in _ oM];omega
     have HN4:=hid hn4;have HB3d:=hid HB3.out.drew;clear HFn hls e2 hn4;go_wp2_with fail
     go_region;go_wp2_with fail
     go_roundw
     case rel =>
      first
       | exact ⟨ol,sp,nn+1,s2,rfl,rfl,by go_num,ok4,by have:=HN4.out;omega,HX2,HRd3,HB3d,HI2⟩
       | exact ⟨ol,sp,nn+1,s2,rfl,rfl,by rw [e4],ok4,by have:=HN4.out;omega,HX2,HRd3,HB3d,HI2⟩
     case measure=>simp [Go.RowKit.intOf];omega
end
end
section
open Go.RowKit Go.Maps
section
variable {a:DA} {L T s n K:Nat} {x:HA} {cs:Nat→CS} {f:Nat→Option Nat} {N m b0:Nat} {S:Fp} {cur:Nat→Nat} {w w':World} {d r:Nat}
theorem bcheck_any (h:SD a L T s n K x cs f N m b0 S cur w d r) (p:Nat) (hp64:p < 18446744073709551616) {e0:Nat} (he:(walkR L cur (fun q=>chkR s K cs q 1) p).1=e0) :
  Calls Tryz.prog 34 #[dirV d, .int .u64 (p:Int)] w fun e w'=>e = .returned (.int .i64 (e0:Int))∧Below w.heap.size w w':=by
 have HW:=hid (walk_any h p hp64);clear h;generalize walkR L cur (fun q=>chkR s K cs q 1) p=R at *;subst he;unfold dirV at *;have HW2:Hid (Calls Tryz.prog 110 #[.iface 59 (.pointer (some ⟨d,0,none⟩)), .int .u64 (p:Int)] w fun e w'=>∃ (A:Option Addr) (m c:Nat) (A2:Option Addr) (m2 c2:Nat),e = .returned (.tuple #[.slice A m c, .slice A2 m2 c2, .int .i64 (R.1:Int)])∧Hid (Below w.heap.size w w')):=hid (HW.out.mono (fun e w' h=>by
  unfold RetWk at h;split at h
  ·rename_i hR
   obtain ⟨A,m,c,A2,m2,c2,h1,h2,h3,h4,h5,h6,h7,h8,h9⟩:=h;rw [hR];exact ⟨A,m,c,A2,m2,c2,h1,hid h9⟩
  ·exact ⟨none,0,0,none,0,0,h.1,hid h.2⟩))
 clear HW;generalize R.1=e0 at *;go_enter Tryz.func34,Tryz.ntmps34
 go_wp2_with (go_at_call 110;refine HW2.out.mono ?_;rintro e w1 ⟨A,m1,c,A2,m2,c2,rfl,hh⟩)
 go_ret;exact ⟨rfl,hh.out⟩
end
end
section
open Go.RowKit Go.Maps
theorem chain_walk {L:Nat} {cur:Nat→Nat} {chk:Nat→Nat} {bl p:List Nat} (hc:Chain L cur chk bl p) (hp:∀ b∈p,b < 256) (hn:p.length≤2000):walkR L cur chk (bl.headD 0)=(0,bl,p):=by
 cases bl with
 | nil=>exact absurd hc (by simp [Chain])
 | cons q t =>
  have hcq:chk q=0:=hc.2.2.2.2.2.2.1;show walkR L cur _ q=_;unfold walkR;rw [if_neg (fun h=>h hcq),walk_chain 6 q t p [] [] (-1) hc hp (.inl oM) oM oM];rfl
section
variable {a a2:DA} {L T T2 n K:Nat} {x x2:HA} {cs:Nat→CS} {f f2:Nat→Option Nat} {N N2 m m2 b0 b02:Nat} {S S2:Fp} {cur:Nat→Nat} {w w2:World} {ks:List Nat} {V:Nat→Nat} {cm:Nat}
end
end
section
open Go.RowKit
theorem equU_same (A A2:Option Addr) (n c c2:Nat) (l:List Nat) (w:World) (h:Reads w w.heap.size 1 A n (uCells l)) (h2:Reads w w.heap.size 1 A2 n (uCells l)) (hn:n≤1000) :
  Calls Tryz.prog 44 #[.slice A n c, .slice A2 n c2] w fun e w'=>e = .returned (.bool true)∧Below w.heap.size w w':=by
 have HR:=hid h;have HR2:=hid h2;have d0:((n:Int) != (n:Int))=false:=by rw [bne,beq_self_eq_true];rfl
 clear h h2;go_enter Tryz.func44,Tryz.ntmps44
 go_wp2_with fail
 go_loopw [13] (fun i wr=>∃ k:Nat,k≤n∧i = .int .i64 (k:Int)∧Hid (Below w.heap.size w wr)) (fun i _=>n - (Go.RowKit.intOf i).toNat)
 case atStart=>exact ⟨0,Nat.zero_le _,rfl,hid (Below.refl _ _)⟩
 case round =>
  obtain ⟨k,hk,rfl,HB⟩:=hrel;by_cases hlt:k < n
  ·obtain ⟨hx1,b,off,hA,hbB,f0⟩:=u_facts (HR.out.below HB.out) hlt
   obtain ⟨hx2,b2,off2,hA2,hbB2,f2⟩:=u_facts (HR2.out.below HB.out) hlt;have hz5:(0:Int)≤(k:Int):=oM;have hz6:(k:Int) < (n:Int):=oM;subst hA hA2;generalize l[k]=u at *;have d3:((u:Int) != (u:Int))=false:=by rw [bne,beq_self_eq_true];rfl
   clear hbB hbB2;go_upto_region 6 with fail
   go_quiet (fail)
   have HB2:=hid (below_drewN HB.out nq);go_wp2_with fail
   go_roundw
   case rel =>
    first
     | exact ⟨k+1,oM,by go_num,HB2⟩
     | (
       repeat apply Exists.intro
       refine ⟨?_,rfl⟩;exact ⟨k+1,oM,by go_num,HB2⟩)
   case measure=>simp [Go.RowKit.intOf];omega
  ·obtain rfl:n=k:=oM
   go_wp2_with fail
   go_ret;exact ⟨rfl,HB.out⟩
end
section
open Go.RowKit Go.Maps
def RetPy (w:World) (l:List Nat) (e:Ending) (w':World):Prop:=∃ A m c,e = .returned (.slice A m c)∧m=l.length∧Reads w' w'.heap.size 1 A m (uCells l)∧(∀ ad,A=some ad→w.heap.size≤ad.block)∧m≤c∧Below w.heap.size w w'
section
variable {a:DA} {L T K:Nat} {x:HA} {y:WA} {cs:Nat→CS} {f:Nat→Option Nat} {N m b0:Nat} {S:Fp} {cur:Nat→Nat} {w w':World}
theorem payl_take (cur:Nat→Nat) (o _n k:Nat):((List.range (k+1)).map fun j=>cur (o+j))=((List.range k).map fun j=>cur (o+j))++[cur (o+k)]:=by rw [List.range_succ,List.map_append];rfl
theorem payload_any (h:BW a L T K x y cs f N m b0 S cur w) {q kind kk ii:Nat} (hl:LiveA 53 K cs q kind kk ii) :
  Calls Tryz.prog 45 #[.pointer (some ⟨y.g,0,none⟩), .int .u64 (q:Int)] w (RetPy w ((List.range (payW (cs kk).cl)).map fun j=>cur (pOff q / 8+j))):=by
 have HW:=hid (hWords_any h.sd.ds hl.at_.1 hl.at_.2.1 hl.at_.2.2.1 q hl.at_.2.2.2 hl.nz hl.lt (.inr (Live.chk ⟨kk,ii,hl⟩).2));have hin:=hl.at_.inL h.sd.ds;have hp60:=pay_le (cs kk).cl;have HAt:Hid (∀ (j:Nat) (W:World),j < payW (cs kk).cl→Calls Tryz.prog 49 #[.int .u64 (q:Int), .int .i64 (j:Int)] W fun e w'=>e = .returned (.int .u64 ((pOff q+8 * j:Nat):Int))∧W=w'):=hid (fun j W hj=>by
  have h1:=at_any q j oM W;have h2:pAt q j=pOff q+8 * j:=by unfold pAt;rw [if_neg (by have:=hl.nz;omega)]
  rw [h2] at h1;exact h1)
 have HLd:Hid (∀ (j:Nat) (W:World),j < payW (cs kk).cl→Below w.heap.size w W→Calls Tryz.prog 65 #[.pointer (some ⟨a.th 0,0,none⟩), .int .u64 ((pOff q+8 * j:Nat):Int)] W fun e w'=>e = .returned (.int .u64 (cur (pOff q / 8+j):Int))∧W=w'):=hid (fun j W hj hW=>load_at h.sd.ds.dev (pOff q+8 * j) _ oM oM (by rw [show (pOff q+8 * j) / 8=pOff q / 8+j by omega]) W hW);have HBk:=hid h.blk;have g2:w.cell? ⟨y.g,2,none⟩=some (.pointer (some ⟨x.h,0,none⟩)):=h.blk.cell 2;obtain ⟨n,hn⟩:∃ n,payW (cs kk).cl=n:=⟨_,rfl⟩
 rw [hn] at HW HAt HLd hp60 ⊢;obtain ⟨o,ho⟩:∃ o,pOff q / 8=o:=⟨_,rfl⟩
 rw [ho] at HLd ⊢;have HBnd:Hid (∀ i,cur i < 18446744073709551616):=hid h.sd.ds.bnd;obtain ⟨i0,hi0,hz0,hz1,hz2⟩:=info_parts infoU64;have hn60:n≤60:=hp60.2;clear h hl hin hp60 hn ho;go_enter Tryz.func45,Tryz.ntmps45
 go_wp2_with (go_at_call 131;refine HW.out.mono ?_;rintro e w1 ⟨rfl,hb1⟩;have HB1:=hid hb1;clear hb1)
 have HO0:Hid (w1.ownsRow w.heap.size 32 1 (.slice none 0 0) 0 (uCells ((List.range 0).map fun j=>cur (o+j)))):=World.ownsRow_nil _ _ _ _;clear HW g2;go_loopw [7,21] (fun v i wr=>∃ (k:Nat) (A1:Option Addr) (m1 c1:Nat),k≤n∧i = .int .i64 (k:Int)∧v = .slice A1 m1 c1∧Hid (m1=k)∧Hid (wr.ownsRow w.heap.size 32 1 (.slice A1 m1 c1) m1 (uCells ((List.range k).map fun j=>cur (o+j))))∧Hid (Below w.heap.size w wr)) (fun _ i _=>n - (Go.RowKit.intOf i).toNat)
 case atStart=>exact ⟨0,none,0,0,Nat.zero_le _,rfl,rfl,hid rfl,HO0,HB1⟩
 case round =>
  clear HO0 HB1;obtain ⟨k,A1,m1,c1,hk,rfl,rfl,HM,HO,HB⟩:=hrel;by_cases hlt:k < n
  ·have hz5:(0:Int)≤(k:Int):=oM
   have hz6:(k:Int) < (n:Int):=oM;have hm1:m1≤60:=by have:=HM.out;omega
   have HA:=hid (fun W=>HAt.out k W hlt);have HL:=hid (HLd.out k wr.drew hlt HB.out.drew);have hv:=HBnd.out (o+k);have HEQ:Hid (uCells ((List.range k).map fun j=>cur (o+j))++[.int .u64 (cur (o+k):Int)]=uCells ((List.range (k+1)).map fun j=>cur (o+j))):=hid (by rw [payl_take cur o n k];simp [uCells]);have g1:wr.cell? ⟨y.g,1,none⟩=some (.pointer (some ⟨a.th 0,0,none⟩)):=(HBk.out.below HB.out HBk.out.lt).cell 1;generalize cur (o+k)=vk at *;generalize pOff q+8 * k=z at *;have HOD:=hid ((own_below HO.out (Below.refl _ _).drew).alloc (.cells #[.int .u64 (vk:Int)] 32));have HBD:=hid (HB.out.drew.alloc HB.out.drew.size (.cells #[.int .u64 (vk:Int)] 32));have HLE2:Hid (w.heap.size≤(wr.drew.alloc (.cells #[.int .u64 (vk:Int)] 32)).heap.size):=hid HBD.out.size;have HLE:=hid HB.out.size;go_upto_region 8 with fail
   refine wp_region_scriptH (fun w'=>w'.cell? ⟨y.g,1,none⟩=some (.pointer (some ⟨a.th 0,0,none⟩))) 10 [] [(1,0),(1,1),(1,2),(1,3),(1,4),(1,5),(1,6),(0,7),(0,8),(0,9)] (by kernel_rfl) (by kernel_rfl) g1 ?_;refine tkH (.slice A1 m1 c1) (fun w' hS=>?_) ?_
   ·go_simp
   simp only [zA,zB,Act.put,zD,zE,zF];refine tkH (.pointer (some ⟨y.g,0,none⟩)) (fun w' hS=>?_) ?_
   ·go_simp
   simp only [zA,zB,zC,Act.put,zD,zE,zF];refine tkH (.pointer (some ⟨y.g,0,none⟩)) (fun w' hS=>?_) ?_
   ·go_simp
   simp only [zA,zB,zC,Act.put,zD,zE,zF];refine tkH (.pointer (some ⟨y.g,1,none⟩)) (fun w' hS=>?_) ?_
   ·go_simp
   simp only [zA,zB,zC,Act.put,zD,zE,zF];refine tkH (.pointer (some ⟨a.th 0,0,none⟩)) (fun w' hS=>?_) ?_
   ·go_simp
   simp only [zA,zB,zC,Act.put,zD,zE,zF];refine tkH (.int .u64 (q:Int)) (fun w' hS=>?_) ?_
   ·go_simp
   simp only [zA,zB,zC,Act.put,zD,zE,zF];refine tkH (.int .i64 (k:Int)) (fun w' hS=>?_) ?_
   ·go_simp
   simp only [zA,zB,zC,Act.put,zD,zE,zF];refine wpScriptH_do (by rfl) ?_;go_wp2_with (go_at_call 49;refine (HA.out _).mono ?_;rintro e w2 ⟨rfl,rfl⟩)
   refine ⟨g1,?_⟩;refine wpScriptH_do (by rfl) ?_;go_wp2_with (go_at_call 65;refine HL.out.mono ?_;rintro e w2 ⟨rfl,rfl⟩)
   refine ⟨g1,?_⟩;refine wpScriptH_do (by rfl) ?_;go_wp2_with fail
   refine ⟨(HBk.out.below HBD.out HBk.out.lt).cell 1,?_⟩;show wpList _ _ _ _ _ _;simp only [List.drop_succ_cons,List.drop_zero];go_wp2_with (at_builtin;refine wpList_app _ (.tmp 24) (.tmp 33) 99 rfl rfl w.heap.size 32 i0 _ 1 8 Tryz.underlying99 hi0 hz0 hz1 hz2 rfl ?q1 (.slice A1 m1 c1) m1 (uCells ((List.range k).map fun j=>cur (o+j))) rfl HOD.out (wr.drew.heap.size+1) (some ⟨wr.drew.heap.size,0,none⟩) 1 1 [.int .u64 (vk:Int)] rfl ?q5 ?q6 ?q2 ?q3 ?q4 ?_;(case q1=>omega);(case q5=>exact row_reads_at _ _ rfl _ 1 1 32 _ rfl rfl);(case q6=>(intro u hu;simp at hu;subst hu;rfl));(case q2=>(unfold maxLen;omega));(case q3=>omega);(case q4=>exact HLE2.out);intro A3 n3 c3 w8 hn3 ho3 hg3 hb3;have HN3:=hid hn3;have HO3:=hid ho3;have HB3:=hid (HBD.out.trans hb3);clear hn3 ho3 hg3 hb3)
   refine NoPanic.normal ?_;have b1:Hid (n3=k+1):=hid (by have:=HN3.out;have:=HM.out;omega);have HO4:Hid (w8.ownsRow w.heap.size 32 1 (.slice A3 n3 c3) n3 (uCells ((List.range (k+1)).map fun j=>cur (o+j)))):=hid (by have h:=HO3.out;rw [HEQ.out] at h;exact h);clear HN3 HO3 HO HB HM g1;go_wp2_with fail
   go_roundw
   case rel =>
    first
     | exact ⟨k+1,A3,n3,c3,oM,by go_num,rfl,b1,HO4,HB3⟩
     | (
       repeat apply Exists.intro
       refine ⟨?_,rfl⟩;exact ⟨k+1,A3,n3,c3,oM,by go_num,rfl,b1,HO4,HB3⟩)
   case measure=>simp [Go.RowKit.intOf];omega
  ·obtain rfl:n=k:=oM
   have HF:Hid (RetPy w ((List.range n).map fun j=>cur (o+j)) (.returned (.slice A1 m1 c1)) wr):=hid ⟨A1,m1,c1,rfl,by rw [HM.out];simp,Reads.of_own HO.out,fun ad h=>(HO.out.lt ad.block (by rw [h];rfl)).1,(own_cap HO.out).1,HB.out⟩;clear HO HM HB hlt hk HAt HLd;go_wp2_with fail
   go_ret;exact HF.out
end
end
section
open Go.ChangeShapes Go.WideShapes Go.ChangeAt Go.RowKit
theorem gPay : Tryz.prog.globalNamed "bedrock/sizeclass.payload" = some 0 := by kernel_rfl
theorem gPayType:(Tryz.prog.globals[0]?).map (·.type)=some 409:=by kernel_rfl
theorem cellsPay:Tryz.prog.cellsOf 409=5:=by kernel_rfl
theorem cellsI64:Tryz.prog.cellsOf 3=1:=by kernel_rfl
theorem payIs {W:World} (h:laidMetH Tryz.prog laidList W):Pay W:=by
 have h2 : laidMetH Tryz.prog [("bedrock/sizeclass.payload", Rows.laid_bedrock_sizeclass_payload)] W := laidMetH.filter (fun x => x.1 == "bedrock/sizeclass.payload") h;have ht : Lib.TabIs Tryz.prog W "bedrock/sizeclass.payload" .i64 [3, 7, 15, 31, 60] :=
  Lib.tabIs_of_head (rest:=[]) gPay gPayType Tryz.underlying409 Tryz.underlying3 cellsI64 cellsPay h2
 intro i hi;have hc:=ht.cell gPay i hi;rw [hc];have:i=0∨i=1∨i=2∨i=3∨i=4:=oM;rcases this with rfl | rfl | rfl | rfl | rfl <;> rfl
theorem ints_of {H:Type} {enc:TypeId × Value→H} {W:World} {base:Nat} {sp:Nat→Bool} {held:Bool} {t e:TypeId} {k:IntKind} {a:Option Addr} {len cap:Nat} {d:DataW H} {p:List MemPlace}
  (ht:Tryz.prog.underlying t=some (.slice e)) (he:Tryz.prog.underlying e=some (.int k)) (hc:Tryz.prog.cellsOf e=1)
  (h:DataW.Trod enc Tryz.prog W base sp held t (.slice a len cap) d p) :
  ∃ zs:List Int,Reads W W.heap.size 1 a len (zs.map (Value.int k))∧len≤cap∧cap≤maxLen∧∀ n∈zs,(Lit.int k n).wf=true:=by
 obtain ⟨fuel,hf⟩:=h;rcases open_ints ht he hc hf with ⟨hcs,_⟩ | ⟨x,l,c,zs,hcs,_,hl,hm,hz,hx,hcell,hwz⟩
 ·simp [Value.cells] at hcs
  obtain ⟨rfl,rfl,rfl⟩:=hcs;exact ⟨[],⟨rfl,fun h=>absurd h (Nat.lt_irrefl 0)⟩,nL _,Nat.zero_le _,fun _ hn=>by cases hn⟩
 ·simp [Value.cells] at hcs
  obtain ⟨rfl,rfl,rfl⟩:=hcs;have hz':len≤zs.length:=by rw [hz];split <;> omega
  refine ⟨zs.take len,⟨by rw [List.length_map,List.length_take];omega,fun hn=>⟨_,rfl,?_,fun j u hu=>?_⟩⟩,hl,hm,fun n hn=>hwz n (List.mem_of_mem_take hn)⟩
  ·have:=World.block_lt_of_cell? _ _ (hcell 0 oM)
   rw [block_of_add] at this;exact this
  ·simp only [List.getElem?_map,Option.map_eq_some_iff] at hu
   obtain ⟨z,hzj,rfl⟩:=hu;rw [List.getElem?_take] at hzj;split at hzj
   ·obtain ⟨hj,rfl⟩:=List.getElem?_eq_some_iff.1 hzj
    rw [hcell j hj];simp [List.getD,hj]
   ·cases hzj
theorem bytes_of {H:Type} {enc:TypeId × Value→H} {W:World} {base:Nat} {sp:Nat→Bool} {held:Bool} {a:Option Addr} {len cap:Nat} {d:DataW H} {p:List MemPlace}
  (h:DataW.Trod enc Tryz.prog W base sp held 24 (.slice a len cap) d p):∃ l,InB W a len cap l:=by
 obtain ⟨zs,hr,hl,hm,hwz⟩:=ints_of Tryz.underlying24 Tryz.underlying5 (by kernel_rfl) h;have hb:∀ z∈zs,0≤z∧z≤255:=fun z hz=>by
  have hw:=hwz z hz;have hmn:IntKind.u8.min=0:=by decide
  have hmx:IntKind.u8.max=255:=by decide
  simp only [Lit.wf,hmn,hmx,Bool.and_eq_true,decide_eq_true_eq] at hw;omega
 refine ⟨zs.map Int.toNat,?_,?_,hl,hm⟩
 ·intro b hbm
  obtain ⟨z,hz,rfl⟩:=List.mem_map.1 hbm;have:=hb z hz;omega
 ·have:u8s (zs.map Int.toNat)=zs.map (Value.int .u8):=by
   simp only [u8s,List.map_map];refine List.map_congr_left fun z hz=>?_
   have:=hb z hz;simp only [Function.comp];rw [Int.toNat_of_nonneg this.1]
  rw [this];exact hr
end
end Go.Proofs.YtfkjjoglnmeciaaGreatDoor
