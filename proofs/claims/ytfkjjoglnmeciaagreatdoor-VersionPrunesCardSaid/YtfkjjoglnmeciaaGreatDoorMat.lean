/- part 20 -/
import Derived.Test.YtfkjjoglnmeciaaGreatDoorMas
set_option maxRecDepth 100000
set_option maxHeartbeats 16000000
namespace Go.Proofs.YtfkjjoglnmeciaaGreatDoor
open Go.Lib (hid)
section
open Go.RowKit Go.Maps
structure SD (a:DA) (L T s n K:Nat) (x:HA) (cs:Nat->CS) (f:Nat->Option Nat) (N m b0:Nat) (S:Fp) (cur:Nat->Nat) (w:World) (d r:Nat):Prop where
 ds:DS a L T s n K x cs f N m b0 S cur w
 dir:Blk w d 240 (z1k a x.h r)
 log:Blk w r 353 (z1h a 0 26)
 idle:cur (8 * 0)=0
 offd:¬ S d
 offr:¬ S r
 ln:0+26<=s
section
variable {a:DA} {L T s n K:Nat} {x:HA} {cs:Nat->CS} {f:Nat->Option Nat} {N m b0:Nat} {S:Fp} {cur:Nat->Nat} {w w':World} {d r:Nat}
theorem SD.below (h:SD a L T s n K x cs f N m b0 S cur w d r) (hb:Blw w w'):SD a L T s n K x cs f N m b0 S cur w' d r :=
 { h with ds:=h.ds.below hb,dir:=h.dir.below hb h.dir.lt,log:=h.log.below hb h.log.lt }
theorem SD.more {T':Nat} (h:SD a L T s n K x cs f N m b0 S cur w d r) (hT:T<=T') (hT':T'<=1000000000):SD a L T' s n K x cs f N m b0 S cur w d r:={ h with ds:=h.ds.more hT hT' }
theorem DS.fp_ne (h:DS a L T s n K x cs f N m b0 S cur w) {g:Nat} {t:TypeId} {vs:Array Value} (hB:Blk w g t vs) (hne:t≠408):¬ x.fp g:=fun hz=>by
 obtain ⟨h1,Ga,hp,hk⟩:=h.hs.plc;obtain ⟨m1,m2⟩:=h.hs.map_ne hB;rcases hz with e | e | e
 ·exact hB.ne_ hp hne e
 ·exact m1 e
 ·exact m2 e
theorem DS.drewS (h:DS a L T s n K x cs f N m b0 S cur w):DS a L T s n K x cs f N m b0 S cur w.drew:=h.below (Below.refl _ _).drew
def sfp (S:Fp) (x:HA):Fp:=fun j=>S j\/x.fp j
theorem SD.keep {T' N' m':Nat} {cs':Nat->CS} {f':Nat->Option Nat} {S':Fp} {cur':Nat->Nat} (h:SD a L T s n K x cs f N m b0 S cur w d r) (hd:DS a L T' s n K x cs' f' N' m' b0 S' cur' w') (hc:Chg (sfp S x) w w') (hg:Grew S S' w) (hi:cur' (8 * 0)=0):SD a L T' s n K x cs' f' N' m' b0 S' cur' w' d r:=by
 refine ⟨hd,hc.blk h.dir ?_,hc.blk h.log ?_,hi,hg.off ⟨h.dir.lt,h.offd⟩,hg.off ⟨h.log.lt,h.offr⟩,h.ln⟩
 ·rintro (e | e)
  ·exact h.offd e
  ·exact h.ds.fp_ne h.dir (by decide) e
 ·rintro (e | e)
  ·exact h.offr e
  ·exact h.ds.fp_ne h.log (by decide) e
theorem z9g.ahead {cl k i:Nat} {cs':Nat->CS} {cur':Nat->Nat} (h:z9g s K cs f cur cl cs' cur' k i) (hd:DS a L T s n K x cs f N m b0 S cur w) (hcl:cl < 5) {j:Nat} (hj:j < 8 * s):cur' j=cur j:=by
 obtain ⟨v1,v2,v3,v4,v5,v6⟩:=h.vac;have hz:∀ c:Nat->Nat,wrS c (zerW (offO s cs' k i) (payW cl)) j=c j:=fun c=>z2k _ _ _ (fun e he=>by
  obtain ⟨q,hq,rfl⟩:=z6n he;have:offO s cs' k i=blkO (s+32 * k) cl i:=by unfold offO;rw [v3]
  show (offO s cs' k i+8 * q) / 8≠j;rw [this];unfold blkO;omega)
 rcases h.how with ⟨_,e⟩ | ⟨k0,hk0,hd0,_,_,e⟩
 ·rw [e,hz]
 ·rw [e,hz]
  have Ga:=hd.ok k0 hk0;unfold CSok at Ga;rw [hd0] at Ga;exact z9q hcl Ga.2.2 (.inl oM)
theorem x0y (h:SD a L T s n K x cs f N m b0 S cur w d r) (p kind:Nat) (hp64:p < 18446744073709551616) (hk:kind < 256) :
  Calls Tryz.prog 431 #[.pointer (some ⟨d,0,none⟩),.int .u64 p,.int .u8 kind] w fun e w'=>e=.returned (.int .i64 (chkR s K cs p kind:Int))/\Blw w w':=by
 have HC:=hid (y5z h.ds p kind hp64 hk);have c0:w.cell? ⟨d,0,none⟩=some (.pointer (some ⟨x.h,0,none⟩)):=h.dir.cell 0;clear h;go_enter Tryz.func431,Tryz.ntmps431
 go_wp2_with fail
 refine HC.out.mono ?_;rintro e w1 ⟨rfl,hb⟩;have HB:=hid hb;clear hb;go_wp2;go_ret;exact ⟨rfl,HB.out⟩
theorem thID (h:Dev a L T w S cur 0) :
  Calls Tryz.prog 292 #[.pointer (some ⟨a.th 0,0,none⟩)] w fun e w'=>e=.returned (.int .i64 0)/\w=w':=by
 obtain ⟨ls,Gc,Ge,cs,Gd,Ga,Gb⟩:=h;have f0:w.cell? ⟨a.th 0,1,none⟩=some (.int .i64 0):=(Ga.thr 0 oM).cell 1;clear Ga Gb;go_enter Tryz.func292,Tryz.ntmps292
 go_wp2;go_ret;exact ⟨rfl,rfl⟩
def w6q (a:DA) (L T s n K:Nat) (x:HA) (cs:Nat->CS) (f:Nat->Option Nat) (N m b0:Nat) (S:Fp) (cur:Nat->Nat) (w:World) (d r:Nat) (cl kind:Nat) (e:Ending) (w':World):Prop :=
 ∃ k i S' cs' cur',e=.returned (.tuple #[.int .u64 (fptr s cs' kind k i:Int),.int .i64 0])/\z9g s K cs f cur cl cs' cur' k i/\SD a L (T+400) s n K x cs' (updF f (offO s cs' k i) (some (fptr s cs' kind k i))) (N+1) (m+1) b0 S' cur' w' d r/\Chg (sfp S x) w w'/\Grew S S' w
theorem w3x (h:SD a L T s n K x cs f N m b0 S cur w d r) (nw kind:Nat) (h1:1<=nw) (h60:nw<=60) (hk0:0 < kind) (hk8:kind < 128) (hN:N < 1000000000) (hT:T+400<=1000000000)
  (hcap:(∃ k i,Vac s K cs f (z1e nw) k i)\/∃ k,k < K/\(cs k).dv=false) :
  Calls Tryz.prog 429 #[.pointer (some ⟨d,0,none⟩),.int .i64 nw,.int .u8 kind] w (w6q a L T s n K x cs f N m b0 S cur w d r (z1e nw) kind):=by
 have HR:=hid (x0c h.ds.drewS nw kind h1 h60 hk0 hk8 hN hT hcap);have Gg:=hid (z7d nw kind h1 h60 hk0 hk8);have Gi:=hid (z9l h.ds.dev);have Gd:Hid (∀ W,Blw w W->Calls Tryz.prog 292 #[.pointer (some ⟨a.th 0,0,none⟩)] W fun e w'=>e=.returned (.int .i64 0)/\W=w'):=hid (fun W hW=>thID (h.ds.dev.below hW));have hm:=z1z (some ⟨a.th 0,0,none⟩);have HS:=hid h;have Gh:=hid (z7g nw);have Gj:w.cell? ⟨x.h,0,none⟩=some (.iface 58 (.pointer (some ⟨a.th 0,0,none⟩))):=h.ds.hs.heap.cell 0;have Gk:w.cell? ⟨x.h,7,none⟩=some (.bool false):=h.ds.hs.heap.cell 7;have c0:w.cell? ⟨d,0,none⟩=some (.pointer (some ⟨x.h,0,none⟩)):=h.dir.cell 0;have c1:w.cell? ⟨d,1,none⟩=some (.pointer (some ⟨a.th 0,0,none⟩)):=h.dir.cell 1;clear h hcap;generalize z1e nw=cl at *;go_enter Tryz.func429,Tryz.ntmps429
 go_upto_region 14 with (first
  | (go_at_call 345;refine (Gg.out _).mono ?_;rintro e w1 ⟨rfl,rfl⟩)
  | (go_at_call 292;refine (Gd.out _ (Below.refl _ _)).mono ?_;rintro e w1 ⟨rfl,rfl⟩)
  | (go_at_call 112;refine Gi.out.mono ?_;rintro e w1 ⟨rfl,rfl⟩))
 refine z0g (fun w'=>Blk w' d 240 (z1k a x.h r)) 14 [12,13] [(1,0),(1,1),(1,2),(1,3),(1,4),(1,5),(1,6),(1,7),(1,9),(1,10),(0,8),(0,11),(2,12),(2,13)] (by kernel_rfl) (by kernel_rfl) HS.out.dir.drew ?_;refine tkG (.pointer (some ⟨d,0,none⟩)) ?_;refine tkG (.pointer (some ⟨d,0,none⟩)) ?_;refine tkG (.pointer (some ⟨d,0,none⟩)) ?_;refine tkH (.pointer (some ⟨x.h,0,none⟩)) (fun w' hS=>?_) ?_
 ·have f1:w'.cell? ⟨d,0,none⟩=some (.pointer (some ⟨x.h,0,none⟩)):=Blk.cell hS 0
  go_simp
 refine tkG (.pointer (some ⟨d,0,none⟩)) ?_;refine tkG (.pointer (some ⟨d,0,none⟩)) ?_;refine tkG (.pointer (some ⟨d,1,none⟩)) ?_;refine tkH (.pointer (some ⟨a.th 0,0,none⟩)) (fun w' hS=>?_) ?_
 ·have f1:w'.cell? ⟨d,1,none⟩=some (.pointer (some ⟨a.th 0,0,none⟩)):=Blk.cell hS 1
  go_simp
 refine tkG (.int .i64 nw) ?_;refine tkG (.int .u8 kind) ?_;refine z0b (by rfl) ?_;go_wp2_with (go_at_call 292;refine (Gd.out _ (Below.refl _ _).drew).mono ?_;rintro e w1 ⟨rfl,rfl⟩)
 refine ⟨HS.out.dir.drew,?_⟩;refine z0b (by rfl) ?_;go_wp2_with (go_at_call 291;refine HR.out.mono ?_;rintro e w2 ⟨k,i,S',Ga,Gb,rfl,Gc,Gf,hc,hg⟩)
 have HK:Hid (SD a L (T+400) s n K x Ga (updF f (offO s Ga k i) (some (fptr s Ga kind k i))) (N+1) (m+1) b0 S' Gb w2 d r/\Chg (sfp S x) w w2/\Grew S S' w):=hid (by
  have Ge:Chg (sfp S x) w w2:=((Chg.refl (sfp S x) w).drew).trans hc (fun j hj => .inl hj);exact ⟨HS.out.keep Gf Ge hg ((Gc.ahead HS.out.ds Gh.out (by have:=HS.out.ln;omega)).trans HS.out.idle),Ge,hg⟩)
 have HO:=hid Gc;clear Gc Gf hc hg;refine ⟨HK.out.1.dir,?_⟩;refine z1y (.int .u64 (fptr s Ga kind k i:Int)) (by rfl) (by rfl) (fun w' hS=>?_) ?_
 ·go_simp
 simp only [zA,zB,zC,Act.put,zD,zE,zF];refine z1y (.int .i64 0) (by rfl) (by rfl) (fun w' hS=>?_) ?_
 ·go_simp
 simp only [zA,zB,zC,Act.put,zD,zE,zF];show wpList _ _ _ _ _ _;simp only [List.drop_succ_cons,List.drop_zero];go_wp2;refine NoPanic.normal ?_;go_wp2;go_ret2;exact ⟨k,i,S',Ga,Gb,rfl,HO.out,HK.out.1,HK.out.2.1,HK.out.2.2⟩
end
end
section
open Go.RowKit Go.Maps
theorem w8b:(Tryz.prog.info? 5).map (fun i=>(i.zero,i.size,i.bytes))=some (some (.int .u8 0),1,1):=by kernel_rfl
def kOf (s p:Nat):Nat:=(pOff p - 64 * s) / 2048
def iOf (s:Nat) (cs:Nat->CS) (p:Nat):Nat:=((pOff p - 64 * (s+32 * kOf s p) - 8) / 8 - 8) / (payW (cs (kOf s p)).cl+1)
theorem z5v {s:Nat} {cs:Nat->CS} {k i p:Nat} (hi:i < perC (cs k).cl) (hp:pOff p=offO s cs k i):kOf s p=k/\iOf s cs p=i:=by
 have h1:=off_lt hi;have h2:=z5k (cs k).cl;have hk:kOf s p=k:=by unfold kOf;rw [hp];unfold offO blkO;omega
 refine ⟨hk,?_⟩;unfold iOf;rw [hk,hp];unfold offO blkO;have e:(64 * (s+32 * k)+8 * offB (cs k).cl i+8 - 64 * (s+32 * k) - 8) / 8 - 8=i * (payW (cs k).cl+1):=by unfold offB;omega
 rw [e,Nat.mul_div_cancel _ oM]
def tlOf (s:Nat) (cs:Nat->CS) (l:List Nat) (k:Nat):List (Nat × Nat):=(l.filter fun p=>kOf s p == k).map fun p=>(iOf s cs p,z1t p)
def dlOf (s:Nat) (cs:Nat->CS) (l:List Nat) (k:Nat):List Nat:=(l.filter fun p=>kOf s p == k).map fun p=>iOf s cs p
theorem y1n (s:Nat) (cs:Nat->CS) (l:List Nat) (p k:Nat):tlOf s cs (l++[p]) k=if k=kOf s p then tlOf s cs l k++[(iOf s cs p,z1t p)] else tlOf s cs l k:=by
 unfold tlOf;rw [List.filter_append,List.map_append];by_cases h:k=kOf s p
 ·rw [if_pos h];simp [h]
 ·rw [if_neg h]
  have:(kOf s p == k)=false:=by rw [beq_eq_false_iff_ne];exact fun e=>h e.symm
  simp [this]
theorem y0j (s:Nat) (cs:Nat->CS) (l:List Nat) (p k:Nat):dlOf s cs (l++[p]) k=if k=kOf s p then dlOf s cs l k++[iOf s cs p] else dlOf s cs l k:=by
 unfold dlOf;rw [List.filter_append,List.map_append];by_cases h:k=kOf s p
 ·rw [if_pos h];simp [h]
 ·rw [if_neg h]
  have:(kOf s p == k)=false:=by rw [beq_eq_false_iff_ne];exact fun e=>h e.symm
  simp [this]
theorem y7m {g:Nat->Nat} {l:List Nat} (h:(l.map g).Nodup):l.Nodup:=(List.pairwise_map.1 h).imp (fun hne e=>hne (congrArg g e))
structure ActI (w wr:World) (mb NN s K:Nat) (cs:Nat->CS) (kl fl:List Nat) (c:CI):Prop where
 chi:ChI wr (mb+2) mb NN s K c
 tl:∀ k,k < K->c.tl k=tlOf s cs kl k
 dl:∀ k,k < K->c.dl k=dlOf s cs fl k
 cbs:∀ k,k < K->((c.cb k).isSome=true↔tlOf s cs kl k≠[]\/dlOf s cs fl k≠[])
 vb:Blk wr (mb+1) 335 #[.map (some mb)]
 below:Blw w wr
 mbl:w.heap.size<=mb
 size:mb+2<=wr.heap.size
structure ActM (w wr:World) (mb NN s K:Nat) (cs:Nat->CS) (kl fl:List Nat) (c:CI) (k g:Nat):Prop where
 chi:ChI wr (mb+2) mb NN s K c
 tl:∀ j,j < K->c.tl j=tlOf s cs kl j
 dl:∀ j,j < K->c.dl j=dlOf s cs fl j
 cbs:∀ j,j < K->j≠k->((c.cb j).isSome=true↔tlOf s cs kl j≠[]\/dlOf s cs fl j≠[])
 cg:c.cb k=some g
 vb:Blk wr (mb+1) 335 #[.map (some mb)]
 below:Blw w wr
 mbl:w.heap.size<=mb
 size:mb+2<=wr.heap.size
theorem ActI.mid {w wr w3 w4:World} {mb NN s K:Nat} {cs:Nat->CS} {kl fl:List Nat} {c c1:CI} {k g:Nat} (h:ActI w wr mb NN s K cs kl fl c) (hb3:Blw wr w3) (hci:ChI w4 (mb+2) mb (NN+1) s K c1) (hcg:c1.cb k=some g) (htl:c1.tl=c.tl) (hdl:c1.dl=c.dl) (hcb:∀ j,j≠k->c1.cb j=c.cb j) (hch:Chg (fun j=>j=mb) w3 w4) :
  ActM w w4 mb (NN+1) s K cs kl fl c1 k g:=by
 have b4:Below w.heap.size w3 w4:=hch.toBelow (Nat.le_trans h.below.size hb3.size) (fun j hj=>by have:=h.mbl;omega);refine ⟨hci,fun j hj=>by rw [htl];exact h.tl j hj,fun j hj=>by rw [hdl];exact h.dl j hj,fun j hj hne=>by rw [hcb j hne];exact h.cbs j hj,hcg,?_,(h.below.trans (hb3.mono h.below.size)).trans b4,h.mbl,Nat.le_trans h.size (Nat.le_trans hb3.size hch.size)⟩;exact hch.blk (h.vb.below hb3 h.vb.lt) (fun e=>oM)
theorem ActM.take {w wr w4:World} {mb NN s K:Nat} {cs:Nat->CS} {kl fl:List Nat} {c:CI} {k g p:Nat} {A2 A4:Option Addr} {c2 c4:Nat} (h:ActM w wr mb NN s K cs kl fl c k g) (hk:k < K) (hko:kOf s p=k) (hi:ChI w4 (mb+2) mb NN s K (c.take k A2 c2 A4 c4 (iOf s cs p) (z1t p))) (hc:Chg (fun j=>mb+2<=j) wr w4) :
  ActI w w4 mb NN s K cs (kl++[p]) fl (c.take k A2 c2 A4 c4 (iOf s cs p) (z1t p)):=by
 have e:∀ j,j < K->(c.take k A2 c2 A4 c4 (iOf s cs p) (z1t p)).tl j=tlOf s cs (kl++[p]) j:=fun j hj=>by
  rw [y1n,hko];show updX c.tl k (c.tl k++[(iOf s cs p,z1t p)]) j=_;by_cases hjk:j=k
  ·subst hjk
   rw [if_pos rfl,z1j,h.tl j hj]
  ·rw [if_neg hjk,z1d hjk,h.tl j hj]
 refine ⟨hi,e,h.dl,fun j hj=>?_,hc.blk h.vb (fun e=>oM),h.below.trans (hc.toBelow h.below.size (fun j hj=>by have:=h.mbl;omega)),h.mbl,Nat.le_trans h.size hc.size⟩;by_cases hjk:j=k
 ·subst hjk
  refine ⟨fun _ => .inl ?_,fun _=>?_⟩
  ·rw [y1n,hko,if_pos rfl];simp
  ·show (c.cb j).isSome=true
   rw [h.cg];rfl
 ·rw [y1n,hko,if_neg hjk]
  exact h.cbs j hj hjk
theorem ActM.drop {w wr w4:World} {mb NN s K:Nat} {cs:Nat->CS} {kl fl:List Nat} {c:CI} {k g p:Nat} {A2:Option Addr} {c2:Nat} (h:ActM w wr mb NN s K cs kl fl c k g) (hk:k < K) (hko:kOf s p=k) (hi:ChI w4 (mb+2) mb NN s K (c.drop k A2 c2 (iOf s cs p))) (hc:Chg (fun j=>mb+2<=j) wr w4) :
  ActI w w4 mb NN s K cs kl (fl++[p]) (c.drop k A2 c2 (iOf s cs p)):=by
 have e:∀ j,j < K->(c.drop k A2 c2 (iOf s cs p)).dl j=dlOf s cs (fl++[p]) j:=fun j hj=>by
  rw [y0j,hko];show updX c.dl k (c.dl k++[iOf s cs p]) j=_;by_cases hjk:j=k
  ·subst hjk
   rw [if_pos rfl,z1j,h.dl j hj]
  ·rw [if_neg hjk,z1d hjk,h.dl j hj]
 refine ⟨hi,h.tl,e,fun j hj=>?_,hc.blk h.vb (fun e=>oM),h.below.trans (hc.toBelow h.below.size (fun j hj=>by have:=h.mbl;omega)),h.mbl,Nat.le_trans h.size hc.size⟩;by_cases hjk:j=k
 ·subst hjk
  refine ⟨fun _ => .inr ?_,fun _=>?_⟩
  ·rw [y0j,hko,if_pos rfl];simp
  ·show (c.cb j).isSome=true
   rw [h.cg];rfl
 ·rw [y0j,hko,if_neg hjk]
  exact h.cbs j hj hjk
theorem y5g (s:Nat) (cs:Nat->CS) (l:List Nat) (k:Nat):(tlOf s cs l k).length<=l.length:=by
 unfold tlOf;rw [List.length_map];exact List.length_filter_le _ _
theorem y4e (s:Nat) (cs:Nat->CS) (l:List Nat) (k:Nat):(dlOf s cs l k).length<=l.length:=by
 unfold dlOf;rw [List.length_map];exact List.length_filter_le _ _
structure y0b (s K:Nat) (cs:Nat->CS) (f:Nat->Option Nat) (p:Nat):Prop where
 loc:∃ k i,k < K/\(cs k).dv=true/\i < perC (cs k).cl/\pOff p=offO s cs k i/\((cs k).bs i).st=176
 res:f (pOff p)=some p
 kind:0 < z1t p/\z1t p < 128
 nz:p≠0/\p < 18446744073709551616
structure y2c (s K:Nat) (cs:Nat->CS) (p:Nat):Prop where
 loc:∃ k i,k < K/\(cs k).dv=true/\i < perC (cs k).cl/\pOff p=offO s cs k i/\((cs k).bs i).st=177
 chk:chkR s K cs p 0=0
 nz:p≠0/\p < 18446744073709551616
def y8l (w:World) (s K:Nat) (cs:Nat->CS) (keep free:List Nat) (e:Ending) (w':World):Prop :=
 ∃ A m c,∃ ks:List Nat,∃ V:Nat->Nat,e=.returned (.tuple #[.slice A m c,.int .i64 0])/\ks.Nodup/\(∀ k,k∈ks↔k < K/\(tlOf s cs keep k≠[]\/dlOf s cs free k≠[]))/\(∀ k∈ks,Bits (V k) (cs k).cl (actB (cs k).bs (tlOf s cs keep k) (dlOf s cs free k))) /\
  w'.ownsRow w.heap.size 114 2 (.slice A m c) m (z0d (ks.flatMap fun k=>chgW (s+32 * k) (cs k).cl (cs k).bs (tlOf s cs keep k) (dlOf s cs free k) (V k)))/\Blw w w'
theorem w1q {w:World} {B n:Nat} {A:Option Addr} {l:List Nat} (h:z0c w B 1 A n (z0x l)) {k:Nat} (hk:k < n) :
  ∃ (hl:k < l.length) (b off:Nat),A=some ⟨b,off,none⟩/\b < B/\w.cell? ⟨b,off+k,none⟩=some (.int .i64 ((l[k]:Nat):Int)):=by
 have hl:k < l.length:=by have:=h.1;simp [z0x] at this;omega
 obtain ⟨b,off,hA,hb,hc⟩:=h.plain oM oM;exact ⟨hl,b,off,hA,hb,hc k _ (by simp [z0x,hl])⟩
theorem y4b (ln cl:Nat) (bs:Nat->BK) (take:List (Nat × Nat)) (drop:List Nat) (V:Nat):(chgW ln cl bs take drop V).length=take.length+drop.length+1:=by
 simp [chgW,tkW,drW];omega
theorem z7a (ws:List (Nat × Nat)):∀ u∈z0d ws,u.oneCell'=true:=by
 intro u hu;obtain ⟨p,_,hp⟩:=List.mem_flatMap.1 hu;simp only [List.mem_cons,List.not_mem_nil,or_false] at hp;rcases hp with rfl | rfl <;> rfl
theorem z9c {f g:Nat->List (Nat × Nat)}:∀ (l:List Nat),(∀ x∈l,f x=g x)->l.flatMap f=l.flatMap g
 | [],_=>rfl
 | x :: l,h=>by
  rw [List.flatMap_cons,List.flatMap_cons,h x (by simp),z9c l (fun y hy=>h y (by simp [hy]))]
theorem y0m {f:Nat->List (Nat × Nat)} {B:Nat}:∀ (l:List Nat),(∀ x∈l,(f x).length<=B)->(l.flatMap f).length<=B * l.length
 | [],_=>by simp
 | x :: l,h=>by
  rw [List.flatMap_cons,List.length_append,List.length_cons];have h1:=h x (by simp);have h2:=y0m l (fun y hy=>h y (by simp [hy]));rw [Nat.mul_succ];omega
theorem x0u {s K:Nat} {cs:Nat->CS} {f:Nat->Option Nat} {keep free:List Nat} (hk:∀ p∈keep,y0b s K cs f p) (hfr:∀ p∈free,y2c s K cs p) (hn:((keep++free).map pOff).Nodup) {k:Nat} (hne:tlOf s cs keep k≠[]\/dlOf s cs free k≠[]) :
  (cs k).dv=true/\((tlOf s cs keep k).map (·.1)++dlOf s cs free k).Nodup/\(∀ e∈tlOf s cs keep k,e.1 < perC (cs k).cl/\((cs k).bs e.1).st=176/\0 < e.2/\e.2 < 128)/\∀ i∈dlOf s cs free k,i < perC (cs k).cl/\((cs k).bs i).st=177:=by
 have h1:∀ p∈keep,kOf s p=k->(cs k).dv=true/\iOf s cs p < perC (cs k).cl/\pOff p=offO s cs k (iOf s cs p)/\((cs k).bs (iOf s cs p)).st=176:=fun p hp he=>by
  obtain ⟨k',i,Gf,hd,hi,Gb,Ge⟩:=(hk p hp).loc;obtain ⟨e1,e2⟩:=z5v hi Gb;rw [he] at e1;subst e1;subst e2;exact ⟨hd,hi,Gb,Ge⟩
 have h2:∀ p∈free,kOf s p=k->(cs k).dv=true/\iOf s cs p < perC (cs k).cl/\pOff p=offO s cs k (iOf s cs p)/\((cs k).bs (iOf s cs p)).st=177:=fun p hp he=>by
  obtain ⟨k',i,Gf,hd,hi,Gb,Ge⟩:=(hfr p hp).loc;obtain ⟨e1,e2⟩:=z5v hi Gb;rw [he] at e1;subst e1;subst e2;exact ⟨hd,hi,Gb,Ge⟩
 have m1:∀ e∈tlOf s cs keep k,∃ p∈keep,kOf s p=k/\e=(iOf s cs p,z1t p):=fun e he=>by
  obtain ⟨p,hp,rfl⟩:=List.mem_map.1 he;obtain ⟨Gc,Gd⟩:=List.mem_filter.1 hp;exact ⟨p,Gc,by simpa using Gd,rfl⟩
 have m2:∀ i∈dlOf s cs free k,∃ p∈free,kOf s p=k/\i=iOf s cs p:=fun e he=>by
  obtain ⟨p,hp,rfl⟩:=List.mem_map.1 he;obtain ⟨Gc,Gd⟩:=List.mem_filter.1 hp;exact ⟨p,Gc,by simpa using Gd,rfl⟩
 refine ⟨?_,?_,fun e he=>?_,fun i hi=>?_⟩
 ·rcases hne with h | h
  ·obtain ⟨e,he⟩:=List.exists_mem_of_ne_nil _ h
   obtain ⟨p,hp,Ga,_⟩:=m1 e he;exact (h1 p hp Ga).1
  ·obtain ⟨e,he⟩:=List.exists_mem_of_ne_nil _ h
   obtain ⟨p,hp,Ga,_⟩:=m2 e he;exact (h2 p hp Ga).1
 ·have e:(tlOf s cs keep k).map (·.1)++dlOf s cs free k=((keep++free).filter fun p=>kOf s p == k).map (iOf s cs):=by
   rw [List.filter_append,List.map_append];unfold tlOf dlOf;rw [List.map_map];rfl
  rw [e];refine List.pairwise_map.2 ?_;have hp:(keep++free).Pairwise fun p q=>pOff p≠pOff q:=List.pairwise_map.1 hn
  refine (hp.filter _).imp_of_mem (fun {p q} hp hq hne e=>hne ?_);obtain ⟨p1,p2⟩:=List.mem_filter.1 hp;obtain ⟨q1,q2⟩:=List.mem_filter.1 hq;have p3:kOf s p=k:=by simpa using p2
  have q3:kOf s q=k:=by simpa using q2
  have pe:pOff p=offO s cs k (iOf s cs p):=by
   rcases List.mem_append.1 p1 with h | h
   ·exact (h1 p h p3).2.2.1
   ·exact (h2 p h p3).2.2.1
  have qe:pOff q=offO s cs k (iOf s cs q):=by
   rcases List.mem_append.1 q1 with h | h
   ·exact (h1 q h q3).2.2.1
   ·exact (h2 q h q3).2.2.1
  rw [pe,qe,e]
 ·obtain ⟨p,hp,Ga,rfl⟩:=m1 e he
  obtain ⟨_,a2,_,a4⟩:=h1 p hp Ga;exact ⟨a2,a4,(hk p hp).kind⟩
 ·obtain ⟨p,hp,Ga,rfl⟩:=m2 i hi
  obtain ⟨_,a2,_,a4⟩:=h2 p hp Ga;exact ⟨a2,a4⟩
def w9f (W:World) (s K:Nat) (cb:Nat->Option Nat) (e:Ending) (w':World):Prop :=
 ∃ A m c,∃ ks:List Nat,e=.returned (.slice A m c)/\ks.Nodup/\(∀ k,k∈ks↔k < K/\(cb k).isSome=true)/\ks.length=m/\m<=K/\w'.ownsRow W.heap.size 3 1 (.slice A m c) m (z0x (ks.map fun k=>s+32 * k))/\Blw W w'
theorem w9k {s:Nat} {ls ks0:List Nat} (h:ls.Perm (ks0.map fun k=>s+32 * k)):∃ ks:List Nat,ks.Perm ks0/\ls=ks.map fun k=>s+32 * k:=by
 refine ⟨ls.map fun y=>(y - s) / 32,?_,?_⟩
 ·have h1:=h.map fun y=>(y - s) / 32
  rw [List.map_map] at h1;have e:(ks0.map ((fun y=>(y - s) / 32) ∘ fun k=>s+32 * k))=ks0:=by
   have:((fun y=>(y - s) / 32) ∘ fun k=>s+32 * k)=id:=by
    funext k
    simp
   rw [this,List.map_id]
  rw [e] at h1;exact h1
 ·rw [List.map_map]
  have e:ls.map ((fun k=>s+32 * k) ∘ fun y=>(y - s) / 32)=ls.map id:=List.map_congr_left (fun y hy=>by
   obtain ⟨k,_,rfl⟩:=List.mem_map.1 (h.mem_iff.1 hy);simp)
  rw [e,List.map_id]
theorem y5y {w:World} {mb N s K:Nat} {cb:Nat->Option Nat} (h:ChM w mb N s K cb) (hK:K<=12) (_hN:N<=1000000) :
  Calls Tryz.prog 238 #[.func (.func 317) #[] #[.pointer (some ⟨w.heap.size,0,none⟩)]] (w.alloc (.cells #[.map (some mb)] 335)) (w9f (w.alloc (.cells #[.map (some mb)] 335)) s K cb):=by
 obtain ⟨D,ho,hd⟩:=h;have hp:((((List.range K).filter fun k=>(cb k).isSome).map fun k=>s+32 * k).map Int.ofNat).Perm (intKeys D):=by
  have hc:CollectedI D (fun _=>false) ((((List.range K).filter fun k=>(cb k).isSome).map fun k=>s+32 * k).map Int.ofNat):=by
   refine ⟨?_,fun x=>?_⟩
   ·refine List.pairwise_map.2 (List.pairwise_map.2 ?_)
    exact (List.nodup_range.filter _).imp (fun hne e=>hne (by have e':((s+32 * _:Nat):Int)=((s+32 * _:Nat):Int):=e;omega))
   ·rw [hd.has x]
    simp only [List.mem_map,List.mem_filter,List.mem_range];constructor
    ·rintro ⟨a,⟨k,⟨hk,hs⟩,rfl⟩,rfl⟩
     exact ⟨⟨k,hk,rfl,hs⟩,trivial⟩
    ·rintro ⟨⟨k,hk,rfl,hs⟩,_⟩
     exact ⟨_,⟨k,⟨hk,hs⟩,rfl⟩,rfl⟩
  exact hc.perm ho y7d Tryz.underlying3 (fun _=>rfl)
 have Gc:Maps.size D<=12:=by
  obtain ⟨es,hD,_⟩:=ho.entries y7d;subst hD;have h1:=hp.length_eq;rw [List.length_map,List.length_map] at h1;have h2:=List.length_filter_le (fun k=>(cb k).isSome) (List.range K);rw [List.length_range] at h2;have h3:(intKeys (.map es)).length=Maps.size (.map es):=by
   show (es.map _).length=_;rw [List.length_map];rfl
  omega
 have hg:=y4n 9 w.heap.size mb N D (w.alloc (.cells #[.map (some mb)] 335)) (by simp) ((Blk.new w 335 #[.map (some mb)]).cell 0) (ho.alloc _) oM;have he:(fun ss:List Int=>ss.Perm (intKeys D))=fun ss=>ss.Perm ((((List.range K).filter fun k=>(cb k).isSome).map fun k=>s+32 * k).map Int.ofNat):=by
  funext ss
  exact propext ⟨fun h=>h.trans hp.symm,fun h=>h.trans hp⟩
 rw [he] at hg;refine (x4w _ _ (enters_of Tryz.func317 (by kernel_rfl) rfl) _ (Maps.size D) Gc _ hg).mono ?_;rintro e w' ⟨A,m,c,ys,rfl,Gd,rfl,Gb,hb⟩;obtain ⟨ks,Ga,rfl⟩:=w9k Gd;refine ⟨A,_,c,ks,rfl,Ga.nodup_iff.2 (List.nodup_range.filter _),fun k=>?_,by simp,?_,Gb,hb⟩
 ·rw [Ga.mem_iff]
  simp
 ·have h1:=Ga.length_eq
  have h2:=List.length_filter_le (fun k=>(cb k).isSome) (List.range K);rw [List.length_range] at h2;rw [List.length_map];omega
theorem z6h (p : Option Addr) (w : World) : (method 640 59 (.pointer p) "Check").run Tryz.prog w=.ok (431,.pointer p) w := by kernel_rfl
theorem w0q (s K:Nat) (cs:Nat->CS) (p kind:Nat):chkR s K cs p kind=0\/chkR s K cs p kind=1\/chkR s K cs p kind=2\/chkR s K cs p kind=12\/chkR s K cs p kind=13:=by
 have hb:∀ ln cl bs,(blkR ln cl bs p).2=0\/(blkR ln cl bs p).2=1\/(blkR ln cl bs p).2=2\/(blkR ln cl bs p).2=12\/(blkR ln cl bs p).2=13:=fun ln cl bs=>by
  unfold blkR;split
  ·exact .inr (.inl rfl)
  ·split
   ·exact .inr (.inr (.inl rfl))
   ·split
    ·exact .inr (.inr (.inl rfl))
    ·split
     ·exact .inr (.inr (.inr (.inl rfl)))
     ·split
      ·exact .inr (.inr (.inr (.inr rfl)))
      ·exact .inl rfl
 unfold chkR;split
 ·exact .inr (.inl rfl)
 ·split
  ·exact .inr (.inr (.inl rfl))
  ·split
   ·exact .inr (.inr (.inl rfl))
   ·split
    ·split
     ·exact hb _ _ _
     ·split
      ·exact .inr (.inr (.inr (.inr rfl)))
      ·exact .inl rfl
    ·exact .inr (.inr (.inl rfl))
def refR (e:Nat):Nat:=if e=0 then 0 else 11
section
variable {a:DA} {L T s n K:Nat} {x:HA} {cs:Nat->CS} {f:Nat->Option Nat} {N m b0:Nat} {S:Fp} {cur:Nat->Nat} {w w':World} {d r:Nat}
theorem x4q (h:SD a L T s n K x cs f N m b0 S cur w d r) (p:Nat) (hp64:p < 18446744073709551616) :
  Calls Tryz.prog 224 #[dirV d,.int .u64 p] w fun e w'=>e=.returned (.int .i64 (refR (chkR s K cs p 1):Int))/\Blw w w':=by
 have HC:=hid (x0y h p 1 hp64 oM);have Gc:Hid (∀ W,Blw w W->Calls Tryz.prog 432 #[.pointer (some ⟨d,0,none⟩)] W fun e w'=>e=.returned (.int .i64 0)/\W=w'):=hid (fun W hW=>errD (h.ds.dev.below hW) (h.dir.below hW h.dir.lt));have Ge:=z3b (some ⟨d,0,none⟩);have Gd:=z6h (some ⟨d,0,none⟩);have hv:=w0q s K cs p 1;generalize chkR s K cs p 1=v at *;rw [show ((1:Nat):Int)=1 from rfl] at HC;clear h;unfold dirV;rcases hv with rfl | rfl | rfl | rfl | rfl
 all_goals
  go_enter Tryz.func224,Tryz.ntmps224
  go_wp2_with (first
   | (go_at_call 431;refine HC.out.mono ?_;rintro e w1 ⟨rfl,Gb⟩;have Ga:=hid Gb;clear Gb)
   | (go_at_call 432;refine (Gc.out _ Ga.out).mono ?_;rintro e w2 ⟨rfl,rfl⟩))
  go_ret;exact ⟨rfl,Ga.out⟩
end
end
end Go.Proofs.YtfkjjoglnmeciaaGreatDoor
