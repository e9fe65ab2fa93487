/- The walks and laws that the claim leans on, part 36. -/
import Derived.Test.YtfkjjoglnmeciaaGreatDoorJbb
import Derived.Test.YtfkjjoglnmeciaaGreatDoorJbi
set_option maxRecDepth 100000
set_option maxHeartbeats 16000000
namespace Go.Proofs.YtfkjjoglnmeciaaGreatDoor
open Go.Lib (hid)
section
open Go.RowKit Go.Maps
section
variable {w w':World} {base mb N s K:Nat} {c:CI} {k g:Nat}
def CI.zero:CI:=⟨fun _=>none,fun _=>none,fun _=>0,fun _=>none,fun _=>0,fun _=>none,fun _=>0,fun _=>[],fun _=>[]⟩
theorem ChI.zero (hm:ChM w mb N s K (fun _=>none)) (hb:mb < base):ChI w base mb N s K CI.zero:=by
 refine ⟨hm,hb,fun k g hk hg=>?_,fun k _=>World.ownsRow_nil _ _ _ _,fun k _=>World.ownsRow_nil _ _ _ _,fun k _=>World.ownsRow_nil _ _ _ _,fun k k' g _ _ h=>?_,fun k k' g _ _ h=>?_,fun k k' g _ _ h=>?_,fun k k' g _ _ h=>?_,fun k k' g _ _ h=>?_,fun k _ _=>⟨rfl,rfl,rfl,rfl,rfl⟩⟩
 ·cases hg
 ·cases h
 ·cases h
 ·cases h
 ·cases h
 ·cases h
def CI.drop (c:CI) (k:Nat) (A2:Option Addr) (c2:Nat) (i:Nat):CI :=
 { c with dA:=updX c.dA k A2,dc:=updX c.dc k c2,dl:=updX c.dl k (c.dl k++[i]) }
theorem ChI.drop {w1 w2:World} {A2:Option Addr} {n2 c2 i:Nat} (h:ChI w base mb N s K c) (hk:k < K) (hg:c.cb k=some g)
  (e1:Chg Fp.no w w1) (g2:w1.grownBy w2 (c.dv k).ownBlock) (r2:w2.ownsRow base 3 1 (.slice A2 n2 c2) n2 (jCells (c.dl k)++[.int .i64 (i:Int)])) (hn2:n2=(c.dl k).length+1) (b2:(Value.slice A2 n2 c2).ownBlock=(c.dv k).ownBlock∨(Value.slice A2 n2 c2).ownBlock=some w1.heap.size) :
  ChI (w2.setCell ⟨g,2,none⟩ (.slice A2 n2 c2)) base mb N s K (c.drop k A2 c2 i)∧Chg (fun j=>base≤j) w (w2.setCell ⟨g,2,none⟩ (.slice A2 n2 c2)):=by
 obtain ⟨hgB,hgb⟩:=h.blk k g hk hg
 have z2:(w2.heap.size) ≥ w1.heap.size:=g2.size
 have z1:=e1.size
 have hZ:Chg (fun j=>j=g∨(c.dv k).ownBlock=some j) w (w2.setCell ⟨g,2,none⟩ (.slice A2 n2 c2)):=by
  have q1:Chg (fun j=>j=g∨(c.dv k).ownBlock=some j) w w1:=e1.mono (fun _ h=>h.elim)
  exact (q1.grown g2 (fun g' hg' => .inl (.inr hg'))).setCell (.inl (.inl rfl)) _
 obtain ⟨D,hD,_⟩:=id h.map
 have nt:∀ j,j < K→∀ g',(c.tv j).ownBlock=some g'→¬ (g'=g∨(c.dv k).ownBlock=some g'):=fun j hj g' hg' hz=>by
  rcases hz with e | e
  ·subst e;exact own_blk_ne (h.o1 j hj) hgB (by decide) hg'
  ·exact h.a13 j k g' hj hk hg' e
 have nk:∀ j,j < K→∀ g',(c.kv j).ownBlock=some g'→¬ (g'=g∨(c.dv k).ownBlock=some g'):=fun j hj g' hg' hz=>by
  rcases hz with e | e
  ·subst e;exact own_blk_ne (h.o2 j hj) hgB (by decide) hg'
  ·rcases own_own_ne (h.o2 j hj) (h.o3 k hk) (by decide) with e2 | e2
   ·rw [e2] at hg';cases hg'
   ·exact e2 (by rw [hg',e])
 have nd:∀ j,j < K→j≠k→∀ g',(c.dv j).ownBlock=some g'→¬ (g'=g∨(c.dv k).ownBlock=some g'):=fun j hj hjk g' hg' hz=>by
  rcases hz with e | e
  ·subst e;exact own_blk_ne (h.o3 j hj) hgB (by decide) hg'
  ·exact hjk (h.a3 j k g' hj hk hg' e)
 have fresh1:∀ g',g' < w.heap.size→(Value.slice A2 n2 c2).ownBlock=some g'→(c.dv k).ownBlock=some g':=fun g' hlt hg'=>by
  rcases b2 with e | e
  ·rw [← e];exact hg'
  ·rw [e] at hg';injection hg' with hg';omega
 have k1:=e1.blk hgB (fun h=>h)
 have k2:=k1.grown g2 (fun e=>own_blk_ne (h.o3 k hk) hgB (by decide) e.symm)
 have k5:=k2.set_ 2 (.slice A2 n2 c2)
 have hne2:∀ u,(Value.slice A2 n2 c2).ownBlock=some u→u≠g:=fun u hu e=>by
  rw [e] at hu
  exact own_blk_ne r2 k2 (by decide) hu
 have s2:=ownsRow_setCell_other r2 (a:=⟨g,2,none⟩) (fun e=>hne2 g e rfl) (.slice A2 n2 c2)
 have dvk:(c.drop k A2 c2 i).dv k = .slice A2 n2 c2:=by
  show Value.slice (updX c.dA k A2 k) (updX c.dl k (c.dl k++[i]) k).length (updX c.dc k c2 k)=_
  rw [updX_same,updX_same,updX_same,List.length_append,hn2];rfl
 have dvj:∀ j,j≠k→(c.drop k A2 c2 i).dv j=c.dv j:=fun j hj=>by
  show Value.slice (updX c.dA k A2 j) (updX c.dl k (c.dl k++[i]) j).length (updX c.dc k c2 j)=_
  rw [updX_other hj,updX_other hj,updX_other hj];rfl
 have dlj:∀ j,j≠k→(c.drop k A2 c2 i).dl j=c.dl j:=fun j hj=>updX_other hj
 have dlk:(c.drop k A2 c2 i).dl k=c.dl k++[i]:=updX_same _ _ _
 have tvj:∀ j,(c.drop k A2 c2 i).tv j=c.tv j:=fun j=>rfl
 have kvj:∀ j,(c.drop k A2 c2 i).kv j=c.kv j:=fun j=>rfl
 have hmb:¬ (mb=g∨(c.dv k).ownBlock=some mb):=fun hz=>by
  rcases hz with e | e
  ·exact blk_ne_map hD hgB e.symm
  ·exact map_ne_own hD (h.o3 k hk) e.symm
 refine ⟨⟨h.map.chg hZ hmb,h.mbb,fun j g' hj hg'=>?_,fun j hj=>hZ.own (h.o1 j hj) (nt j hj),fun j hj=>hZ.own (h.o2 j hj) (nk j hj),fun j hj=>?_,h.a1,h.a2,fun i' j g' hi hj h1 h2=>?_,fun i' j g' hi hj h1=>?_,h.ac,fun j hj hj0=>?_⟩,hZ.mono (fun j hj=>?_)⟩
 ·by_cases e:j=k
  ·subst e
   have hgg:g'=g:=by
    have h9:c.cb j=some g':=hg'
    rw [hg] at h9
    injection h9 with h9
    exact h9.symm
   subst hgg
   refine ⟨?_,hgb⟩
   rw [tvj,kvj,dvk]
   simpa using k5
  ·obtain ⟨b1,b2'⟩:=h.blk j g' hj hg'
   refine ⟨?_,b2'⟩
   rw [tvj,kvj,dvj j e]
   refine hZ.blk b1 (fun hz=>?_)
   rcases hz with e' | e'
   ·subst e';exact e (h.ac j k g' hj hk hg' hg)
   ·exact own_blk_ne (h.o3 k hk) b1 (by decide) e'
 ·by_cases e:j=k
  ·subst e
   rw [dvk,dlk,show jCells (c.dl j++[i])=jCells (c.dl j)++[.int .i64 (i:Int)] by simp [jCells],List.length_append]
   rw [show (c.dl j).length+[i].length=n2 by rw [hn2];rfl]
   exact s2
  ·rw [dvj j e,dlj j e]
   exact hZ.own (h.o3 j hj) (nd j hj e)
 ·by_cases e1':i'=k
  ·by_cases e2':j=k
   ·rw [e1',e2']
   ·rw [e1',dvk] at h1
    rw [dvj j e2'] at h2
    exact absurd (h.a3 j k g' hj hk h2 (fresh1 g' ((h.o3 j hj).lt g' h2).2 h1)) e2'
  ·by_cases e2':j=k
   ·rw [e2',dvk] at h2
    rw [dvj i' e1'] at h1
    exact absurd (h.a3 i' k g' hi hk h1 (fresh1 g' ((h.o3 i' hi).lt g' h1).2 h2)) e1'
   ·rw [dvj i' e1'] at h1
    rw [dvj j e2'] at h2
    exact h.a3 i' j g' hi hj h1 h2
 ·intro h2
  rw [tvj] at h1
  by_cases e2':j=k
  ·rw [e2',dvk] at h2
   exact h.a13 i' k g' hi hk h1 (fresh1 g' ((h.o1 i' hi).lt g' h1).2 h2)
  ·rw [dvj j e2'] at h2
   exact h.a13 i' j g' hi hj h1 h2
 ·have hjk:j≠k:=fun e=>by
   have h9:c.cb j=none:=hj0
   rw [e,hg] at h9
   cases h9
  rw [dlj j hjk,dvj j hjk]
  exact h.none_ j hj hj0
 ·rcases hj with e | e
  ·rw [e];exact hgb
  ·exact ((h.o3 k hk).lt j e).1
theorem chAt2_any (h:ChI w base mb N s K c) (hk:k < K) (hs:s+32 * k < 9000000000) (hN:N < 1000000000) (hb:base≤w.heap.size) (vb:Nat) (hv:w.cell? ⟨vb,0,none⟩=some (.map (some mb))) :
  Calls Tryz.prog 236 #[.int .i64 ((s+32 * k:Nat):Int), .pointer (some ⟨vb,0,none⟩)] w fun e w'=>∃ g c1,e = .returned (.pointer (some ⟨g,0,none⟩))∧ChI w' base mb (N+1) s K c1∧c1.cb k=some g∧c1.tl=c.tl∧c1.dl=c.dl∧(∀ j,j≠k→c1.cb j=c.cb j)∧Chg (fun j=>j=mb) w w':=by
 refine (chAt_any h.map k hk hs hN vb hv).mono ?_
 rintro e w' (⟨g,hg,he,rfl⟩ | ⟨hn,he,hm,hB,hc⟩)
 ·exact ⟨g,c,he,{ h with map:=h.map.mono (Nat.le_succ N) },hg,rfl,rfl,fun _ _=>rfl,Chg.refl _ _⟩
 ·exact ⟨w.heap.size,{ c with cb:=updO c.cb k (some w.heap.size) },he,h.made hk hn hb hm hB hc,by simp [updO],rfl,rfl,fun j hj=>by simp [updO,hj],hc⟩
end
end
section
open Go.RowKit Go.Maps
structure SD (a:DA) (L T s n K:Nat) (x:HA) (cs:Nat→CS) (f:Nat→Option Nat) (N m b0:Nat) (S:Fp) (cur:Nat→Nat) (w:World) (d r:Nat):Prop where
 ds:DS a L T s n K x cs f N m b0 S cur w
 dir:Blk w d 240 (dirCells a x.h r)
 log:Blk w r 353 (logCells a 0 26)
 idle:cur (8 * 0)=0
 offd:¬ S d
 offr:¬ S r
 ln:0+26≤s
section
variable {a:DA} {L T s n K:Nat} {x:HA} {cs:Nat→CS} {f:Nat→Option Nat} {N m b0:Nat} {S:Fp} {cur:Nat→Nat} {w w':World} {d r:Nat}
theorem SD.below (h:SD a L T s n K x cs f N m b0 S cur w d r) (hb:Below w.heap.size w w'):SD a L T s n K x cs f N m b0 S cur w' d r :=
 { h with ds:=h.ds.below hb,dir:=h.dir.below hb h.dir.lt,log:=h.log.below hb h.log.lt }
theorem SD.more {T':Nat} (h:SD a L T s n K x cs f N m b0 S cur w d r) (hT:T≤T') (hT':T'≤1000000000):SD a L T' s n K x cs f N m b0 S cur w d r:={ h with ds:=h.ds.more hT hT' }
theorem DS.fp_ne (h:DS a L T s n K x cs f N m b0 S cur w) {g:Nat} {t:TypeId} {vs:Array Value} (hB:Blk w g t vs) (hne:t≠408):¬ x.fp g:=fun hz=>by
 obtain ⟨h1,pcs,hp,hk⟩:=h.hs.plc
 obtain ⟨m1,m2⟩:=h.hs.map_ne hB
 rcases hz with e | e | e
 ·exact hB.ne_ hp hne e
 ·exact m1 e
 ·exact m2 e
theorem DS.drewS (h:DS a L T s n K x cs f N m b0 S cur w):DS a L T s n K x cs f N m b0 S cur w.drew:=h.below (Below.refl _ _).drew
def sfp (S:Fp) (x:HA):Fp:=fun j=>S j∨x.fp j
theorem SD.keep {T' N' m':Nat} {cs':Nat→CS} {f':Nat→Option Nat} {S':Fp} {cur':Nat→Nat} (h:SD a L T s n K x cs f N m b0 S cur w d r) (hd:DS a L T' s n K x cs' f' N' m' b0 S' cur' w') (hc:Chg (sfp S x) w w') (hg:Grew S S' w) (hi:cur' (8 * 0)=0):SD a L T' s n K x cs' f' N' m' b0 S' cur' w' d r:=by
 refine ⟨hd,hc.blk h.dir ?_,hc.blk h.log ?_,hi,hg.off ⟨h.dir.lt,h.offd⟩,hg.off ⟨h.log.lt,h.offr⟩,h.ln⟩
 ·rintro (e | e)
  ·exact h.offd e
  ·exact h.ds.fp_ne h.dir (by decide) e
 ·rintro (e | e)
  ·exact h.offr e
  ·exact h.ds.fp_ne h.log (by decide) e
theorem ResOk.ahead {cl k i:Nat} {cs':Nat→CS} {cur':Nat→Nat} (h:ResOk s K cs f cur cl cs' cur' k i) (hd:DS a L T s n K x cs f N m b0 S cur w) (hcl:cl < 5) {j:Nat} (hj:j < 8 * s):cur' j=cur j:=by
 obtain ⟨v1,v2,v3,v4,v5,v6⟩:=h.vac
 have hz:∀ c:Nat→Nat,wrS c (zerW (offO s cs' k i) (payW cl)) j=c j:=fun c=>wrS_other _ _ _ (fun e he=>by
  obtain ⟨q,hq,rfl⟩:=zerW_mem he
  have:offO s cs' k i=blkO (s+32 * k) cl i:=by unfold offO;rw [v3]
  show (offO s cs' k i+8 * q) / 8≠j
  rw [this]
  unfold blkO
  omega)
 rcases h.how with ⟨_,e⟩ | ⟨k0,hk0,hd0,_,_,e⟩
 ·rw [e,hz]
 ·rw [e,hz]
  have hok:=hd.ok k0 hk0
  unfold CSok at hok
  rw [hd0] at hok
  exact fmtR_out hcl hok.2.2 (.inl (by omega))
theorem checkD (h:SD a L T s n K x cs f N m b0 S cur w d r) (p kind:Nat) (hp64:p < 18446744073709551616) (hk:kind < 256) :
  Calls Tryz.prog 431 #[.pointer (some ⟨d,0,none⟩), .int .u64 (p:Int), .int .u8 (kind:Int)] w fun e w'=>e = .returned (.int .i64 (chkR s K cs p kind:Int))∧Below w.heap.size w w':=by
 have HC:=hid (check_any h.ds p kind hp64 hk)
 have c0:w.cell? ⟨d,0,none⟩=some (.pointer (some ⟨x.h,0,none⟩)):=h.dir.cell 0
 clear h
 go_enter Tryz.func431,Tryz.ntmps431
 go_wp2_with fail
 refine HC.out.mono ?_
 rintro e w1 ⟨rfl,hb⟩
 have HB:=hid hb
 clear hb
 go_wp2
 go_ret
 exact ⟨rfl,HB.out⟩
theorem thID (h:Dev a L T w S cur 0) :
  Calls Tryz.prog 292 #[.pointer (some ⟨a.th 0,0,none⟩)] w fun e w'=>e = .returned (.int .i64 0)∧w=w':=by
 obtain ⟨ls,exe,per,cs,lsC,hdc,hnt⟩:=h
 have f0:w.cell? ⟨a.th 0,1,none⟩=some (.int .i64 0):=(hdc.thr 0 (by omega)).cell 1
 clear hdc hnt
 go_enter Tryz.func292,Tryz.ntmps292
 go_wp2
 go_ret
 exact ⟨rfl,rfl⟩
def RetAl (a:DA) (L T s n K:Nat) (x:HA) (cs:Nat→CS) (f:Nat→Option Nat) (N m b0:Nat) (S:Fp) (cur:Nat→Nat) (w:World) (d r:Nat) (cl kind:Nat) (e:Ending) (w':World):Prop :=
 ∃ k i S' cs' cur',e = .returned (.tuple #[.int .u64 (fptr s cs' kind k i:Int), .int .i64 0])∧ResOk s K cs f cur cl cs' cur' k i∧SD a L (T+400) s n K x cs' (updF f (offO s cs' k i) (some (fptr s cs' kind k i))) (N+1) (m+1) b0 S' cur' w' d r∧Chg (sfp S x) w w'∧Grew S S' w
theorem allocD (h:SD a L T s n K x cs f N m b0 S cur w d r) (nw kind:Nat) (h1:1≤nw) (h60:nw≤60) (hk0:0 < kind) (hk8:kind < 128) (hN:N < 1000000000) (hT:T+400≤1000000000)
  (hcap:(∃ k i,Vac s K cs f (clsOf nw) k i)∨∃ k,k < K∧(cs k).dv=false) :
  Calls Tryz.prog 429 #[.pointer (some ⟨d,0,none⟩), .int .i64 (nw:Int), .int .u8 (kind:Int)] w (RetAl a L T s n K x cs f N m b0 S cur w d r (clsOf nw) kind):=by
 have HR:=hid (reserve_any h.ds.drewS nw kind h1 h60 hk0 hk8 hN hT hcap)
 have HAr:=hid (arguments_any nw kind h1 h60 hk0 hk8)
 have HEr:=hid (thErr h.ds.dev)
 have HId:Hid (∀ W,Below w.heap.size w W→Calls Tryz.prog 292 #[.pointer (some ⟨a.th 0,0,none⟩)] W fun e w'=>e = .returned (.int .i64 0)∧W=w'):=hid (fun W hW=>thID (h.ds.dev.below hW))
 have hm:=methErr (some ⟨a.th 0,0,none⟩)
 have HS:=hid h
 have HCl:=hid (clsOf_lt nw)
 have hx0:w.cell? ⟨x.h,0,none⟩=some (.iface 58 (.pointer (some ⟨a.th 0,0,none⟩))):=h.ds.hs.heap.cell 0
 have hx7:w.cell? ⟨x.h,7,none⟩=some (.bool false):=h.ds.hs.heap.cell 7
 have c0:w.cell? ⟨d,0,none⟩=some (.pointer (some ⟨x.h,0,none⟩)):=h.dir.cell 0
 have c1:w.cell? ⟨d,1,none⟩=some (.pointer (some ⟨a.th 0,0,none⟩)):=h.dir.cell 1
 clear h hcap
 generalize clsOf nw=cl at *
 go_enter Tryz.func429,Tryz.ntmps429
 go_upto_region 14 with (first
  | (go_at_call 345;refine (HAr.out _).mono ?_;rintro e w1 ⟨rfl,rfl⟩)
  | (go_at_call 292;refine (HId.out _ (Below.refl _ _)).mono ?_;rintro e w1 ⟨rfl,rfl⟩)
  | (go_at_call 112;refine HEr.out.mono ?_;rintro e w1 ⟨rfl,rfl⟩))
 refine wp_region_scriptH (fun w'=>Blk w' d 240 (dirCells a x.h r)) 14 [12,13] [(1,0),(1,1),(1,2),(1,3),(1,4),(1,5),(1,6),(1,7),(1,9),(1,10),(0,8),(0,11),(2,12),(2,13)] (by kernel_rfl) (by kernel_rfl) HS.out.dir.drew ?_
 refine wpScriptH_take (.pointer (some ⟨d,0,none⟩)) (by rfl) (by rfl) (fun w' hS=>?_) ?_
 ·go_simp
 simp only [zA,zB,Act.put,zD,zE,zF]
 refine wpScriptH_take (.pointer (some ⟨d,0,none⟩)) (by rfl) (by rfl) (fun w' hS=>?_) ?_
 ·go_simp
 simp only [zA,zB,zC,Act.put,zD,zE,zF]
 refine wpScriptH_take (.pointer (some ⟨d,0,none⟩)) (by rfl) (by rfl) (fun w' hS=>?_) ?_
 ·go_simp
 simp only [zA,zB,zC,Act.put,zD,zE,zF]
 refine wpScriptH_take (.pointer (some ⟨x.h,0,none⟩)) (by rfl) (by rfl) (fun w' hS=>?_) ?_
 ·have f1:w'.cell? ⟨d,0,none⟩=some (.pointer (some ⟨x.h,0,none⟩)):=Blk.cell hS 0
  go_simp
 simp only [zA,zB,zC,Act.put,zD,zE,zF]
 refine wpScriptH_take (.pointer (some ⟨d,0,none⟩)) (by rfl) (by rfl) (fun w' hS=>?_) ?_
 ·go_simp
 simp only [zA,zB,zC,Act.put,zD,zE,zF]
 refine wpScriptH_take (.pointer (some ⟨d,0,none⟩)) (by rfl) (by rfl) (fun w' hS=>?_) ?_
 ·go_simp
 simp only [zA,zB,zC,Act.put,zD,zE,zF]
 refine wpScriptH_take (.pointer (some ⟨d,1,none⟩)) (by rfl) (by rfl) (fun w' hS=>?_) ?_
 ·go_simp
 simp only [zA,zB,zC,Act.put,zD,zE,zF]
 refine wpScriptH_take (.pointer (some ⟨a.th 0,0,none⟩)) (by rfl) (by rfl) (fun w' hS=>?_) ?_
 ·have f1:w'.cell? ⟨d,1,none⟩=some (.pointer (some ⟨a.th 0,0,none⟩)):=Blk.cell hS 1
  go_simp
 simp only [zA,zB,zC,Act.put,zD,zE,zF]
 refine wpScriptH_take (.int .i64 (nw:Int)) (by rfl) (by rfl) (fun w' hS=>?_) ?_
 ·go_simp
 simp only [zA,zB,zC,Act.put,zD,zE,zF]
 refine wpScriptH_take (.int .u8 (kind:Int)) (by rfl) (by rfl) (fun w' hS=>?_) ?_
 ·go_simp
 simp only [zA,zB,zC,Act.put,zD,zE,zF]
 refine wpScriptH_do (by rfl) ?_
 go_wp2_with (go_at_call 292;refine (HId.out _ (Below.refl _ _).drew).mono ?_;rintro e w1 ⟨rfl,rfl⟩)
 refine ⟨HS.out.dir.drew,?_⟩
 refine wpScriptH_do (by rfl) ?_
 go_wp2_with (go_at_call 291;refine HR.out.mono ?_;rintro e w2 ⟨k,i,S',cs',cur',rfl,hok,hds,hc,hg⟩)
 have HK:Hid (SD a L (T+400) s n K x cs' (updF f (offO s cs' k i) (some (fptr s cs' kind k i))) (N+1) (m+1) b0 S' cur' w2 d r∧Chg (sfp S x) w w2∧Grew S S' w):=hid (by
  have hc':Chg (sfp S x) w w2:=((Chg.refl (sfp S x) w).drew).trans hc (fun j hj => .inl hj)
  exact ⟨HS.out.keep hds hc' hg ((hok.ahead HS.out.ds HCl.out (by have:=HS.out.ln;omega)).trans HS.out.idle),hc',hg⟩)
 have HO:=hid hok
 clear hok hds hc hg
 refine ⟨HK.out.1.dir,?_⟩
 refine wpScriptH_pure (.int .u64 (fptr s cs' kind k i:Int)) (by rfl) (by rfl) (fun w' hS=>?_) ?_
 ·go_simp
 simp only [zA,zB,zC,Act.put,zD,zE,zF]
 refine wpScriptH_pure (.int .i64 0) (by rfl) (by rfl) (fun w' hS=>?_) ?_
 ·go_simp
 simp only [zA,zB,zC,Act.put,zD,zE,zF]
 show wpList _ _ _ _ _ _
 simp only [List.drop_succ_cons,List.drop_zero]
 go_wp2
 refine NoPanic.normal ?_
 go_wp2
 go_ret2
 exact ⟨k,i,S',cs',cur',rfl,HO.out,HK.out.1,HK.out.2.1,HK.out.2.2⟩
end
end
section
open Go.RowKit Go.Maps
structure CapD (s K:Nat) (cs:Nat→CS) (f:Nat→Option Nat) (al:List Nat) (dl:Nat→List Nat) (nv:Nat→List (Nat × Nat)):Prop where
 nd:∀ c,(dl c).Nodup
 of:∀ c k,k∈dl c→k < K∧(cs k).dv=true∧(cs k).cl=c
 all:∀ k,k < K→(cs k).dv=true→(cs k).cl < 5∧k∈dl (cs k).cl
 non:∀ k i,k < K→(cs k).dv=true→i < perC (cs k).cl→¬ Vac s K cs f (cs k).cl k i→(k,i)∈nv (cs k).cl
 few:∀ c,(nv c).length≤al.count c
 chk:∀ c,dl c≠[]→((dl c).length - 1) * perC c+1≤al.count c
def Cap (s K:Nat) (cs:Nat→CS) (f:Nat→Option Nat) (al:List Nat):Prop:=∃ dl nv,CapD s K cs f al dl nv
section
variable {s K:Nat} {cs cs':Nat→CS} {f f':Nat→Option Nat} {al:List Nat}
end
section
variable {a:DA} {L T s n K:Nat} {x:HA} {cs:Nat→CS} {f:Nat→Option Nat} {N m b0:Nat} {S:Fp} {cur:Nat→Nat} {w:World}
end
end
section
open Go.RowKit Go.Maps
def wrA (l:List (Nat × Nat)):Array Value:=(wrCells l).toArray
theorem wrCells_set:∀ (l:List (Nat × Nat)) (k a b:Nat),k < l.length→((wrCells l).set (k * 2) (.int .u64 (a:Int))).set (k * 2+1) (.int .u64 (b:Int))=wrCells (l.set k (a,b))
 | x :: l,0,a,b,_=>rfl
 | x :: l,k+1,a,b,h=>by
  have ih:=wrCells_set l k a b (by simpa using h)
  have e:wrCells (x :: l) = .int .u64 (x.1:Int) :: .int .u64 (x.2:Int) :: wrCells l:=rfl
  rw [e,show (k+1) * 2=k * 2+1+1 by omega]
  simp only [List.set_cons_succ]
  rw [ih]
  rfl
theorem wrA_size (l:List (Nat × Nat)):(wrA l).size=2 * l.length:=by
 unfold wrA
 rw [List.size_toArray]
 induction l with
 | nil=>rfl
 | cons x t ih =>
  have e:wrCells (x :: t) = .int .u64 (x.1:Int) :: .int .u64 (x.2:Int) :: wrCells t:=rfl
  rw [e,List.length_cons,List.length_cons,ih,List.length_cons]
  omega
theorem wrA_set {l:List (Nat × Nat)} {k a b:Nat} (h:k < l.length):((wrA l).setIfInBounds (k * 2) (.int .u64 (a:Int))).setIfInBounds (k * 2+1) (.int .u64 (b:Int))=wrA (l.set k (a,b)):=by
 unfold wrA
 rw [List.setIfInBounds_toArray,List.setIfInBounds_toArray,wrCells_set l k a b h]
def plK (off:Nat) (xs:List Nat) (k:Nat):List (Nat × Nat):=(List.range 33).map fun j=>if j < k then (off+8 * j,xs.getD j 0) else (0,0)
def plOf (off:Nat) (xs:List Nat):List (Nat × Nat):=(List.range 33).map fun j=>(off+8 * j,xs.getD j 0)
theorem plK_len (off:Nat) (xs:List Nat) (k:Nat):(plK off xs k).length=33:=by simp [plK]
theorem plK_set (off:Nat) (xs:List Nat) (k:Nat):(plK off xs k).set k (off+8 * k,xs.getD k 0)=plK off xs (k+1):=by
 apply List.ext_getElem
 ·simp [plK]
 ·intro i h1 h2
  rw [List.getElem_set]
  simp only [plK,List.getElem_map,List.getElem_range]
  by_cases e:k=i
  ·subst e
   rw [if_pos rfl,if_pos (by omega)]
  ·rw [if_neg e]
   by_cases h:i < k
   ·rw [if_pos h,if_pos (by omega)]
   ·rw [if_neg h,if_neg (by omega)]
theorem plK_end (off:Nat) (xs:List Nat):plK off xs 33=plOf off xs:=by
 unfold plK plOf
 apply List.map_congr_left
 intro j hj
 rw [if_pos (List.mem_range.1 hj)]
theorem makeW33 (W:World):(Instr.makeSlice 108 (.int .i64 33) (.int .i64 33)).run Tryz.prog W = .ok (.slice (some ⟨W.heap.size,0,none⟩) 33 33) (W.alloc (.cells (madeCells #[.int .u64 0, .int .u64 0] (33 * 2)) 114)):=by
 obtain ⟨j0,hj0,hk0,hk1,hk2⟩:=info_parts infoWrite
 have h:=run_makeSlice (P:=Tryz.prog) W 108 114 j0 (.agg #[.int .u64 0, .int .u64 0]) Tryz.underlying108 hj0 hk0 .i64 .i64 33 33 (by omega) (by omega) (by rw [hk1];decide) (by rw [hk2];decide) (by omega)
 rw [hk1] at h
 exact h
theorem made33:madeCells #[Value.int .u64 0, .int .u64 0] (33 * 2)=wrA (List.replicate 33 (0,0)):=by kernel_rfl
def RetPl2 (w:World) (ws:List (Nat × Nat)) (e:Ending) (w':World):Prop:=∃ g:Nat,w.heap.size≤g∧e = .returned (.tuple #[.slice (some ⟨g,0,none⟩) 33 33, .int .i64 0])∧Blk w' g 114 (wrA ws)∧Below w.heap.size w w'
theorem rplan_any (off:Nat) (A:Option Addr) (n cc:Nat) (l:List (List Nat × Nat)) (w:World) (h8:off % 8=0) (hoff:off≤1000000) (hr:Reads w w.heap.size 2 A n (itCells l)) (hn:n≤8) (hl:∀ p∈l,p.1.length≤16∧∀ b∈p.1,b < 256) :
  Calls Tryz.prog 330 #[.int .u64 (off:Int),arI, .slice A n cc] w (RetPl2 w (plOf off (encA l))):=by
 have hln:l.length=n:=by have:=hr.1;rw [itCells_len] at this;omega
 have HLe:Hid ((encA l).length=33):=hid (by unfold encA;exact wrk_len (fun p hp=>(hl p hp).1) (Nat.le_refl _) (by omega))
 have HRv:=hid hr
 have HLi:=hid hl
 have HN:=hid (And.intro hoff hn)
 have hm:=methArE
 have e4:((off:Int) % 8 != 0)=false:=by rw [bne,beq_iff_eq.2 (by omega)];rfl
 have ho2:(off:Int)≤1000000:=by omega
 have hmkS:=makeU 33 (by decide)
 rw [make_uA] at hmkS
 rw [show ((33:Nat):Int)=33 from rfl] at hmkS
 obtain ⟨Z,hZ⟩:∃ Z:List Nat,Z=List.replicate 33 0:=⟨_,rfl⟩
 rw [← hZ] at hmkS
 have HZ:=hid hZ
 have hmkW:=makeW33
 rw [made33] at hmkW
 obtain ⟨Zw,hZw⟩:∃ Zw:List (Nat × Nat),Zw=List.replicate 33 (0,0):=⟨_,rfl⟩
 rw [← hZw] at hmkW
 have HZw:=hid hZw
 clear hZ hZw hr hl hln h8
 unfold arI
 go_enter Tryz.func330,Tryz.ntmps330
 go_upto_region 4 with (go_at_call 363;refine (arSize_any w).mono ?_;rintro e w1 ⟨rfl,hb1⟩;have HB1:=hid hb1;clear hb1)
 go_upto_region 5 with fail
 obtain ⟨ge,hgee⟩:∃ ge,w1.heap.size=ge:=⟨_,rfl⟩
 obtain ⟨W4,hW4⟩:∃ W4,w1.alloc (.cells (uA Z) 32)=W4:=⟨_,rfl⟩
 have hb4:Below w.heap.size w W4:=by rw [← hW4];exact HB1.out.alloc HB1.out.size _
 have hk4:Blk W4 ge 32 (uA Z):=by rw [← hW4,← hgee];exact Blk.new _ _ _
 have hge:w.heap.size≤ge:=by rw [← hgee];exact HB1.out.size
 have HGq:=hid hgee
 have HGe:=hid hge
 have HW4:=hid hW4
 have HB4:=hid hb4
 have HE4:=hid (arEnc_any A n cc l ge 0 Z W4 ((HRv.out.below hb4).more hb4.size) HN.out.2 HLi.out hk4 (by rw [HZ.out];decide))
 have HPw:Hid (putW Z 0 (encA l)=encA l):=hid (by
  unfold putW
  rw [HLe.out,HZ.out]
  simp)
 clear hW4 hb4 hk4 hge hgee hmkS
 rw [HW4.out,HGq.out]
 go_upto_region 7 with (go_at_call 440;refine HE4.out.mono ?_;rintro e w5 ⟨rfl,hk5,hb5⟩;rw [HPw.out] at hk5;have HK5:=hid hk5;have HB5:=hid (HB4.out.trans (hb5.mono HGe.out));clear hk5 hb5)
 go_upto_region 8 with fail
 obtain ⟨gq,hgqe⟩:∃ gq,w5.heap.size=gq:=⟨_,rfl⟩
 obtain ⟨W7,hW7⟩:∃ W7,w5.alloc (.cells (wrA Zw) 114)=W7:=⟨_,rfl⟩
 have hb7:Below w.heap.size w W7:=by rw [← hW7];exact HB5.out.alloc HB5.out.size _
 have hk7:Blk W7 gq 114 (wrA Zw):=by rw [← hW7,← hgqe];exact Blk.new _ _ _
 have hk7e:Blk W7 ge 32 (uA (encA l)):=by rw [← hW7];exact HK5.out.alloc _
 have hgq:ge < gq:=by rw [← hgqe];exact HK5.out.lt
 have HGqe:=hid hgqe
 have HGq:=hid hgq
 have HW7:=hid hW7
 have HB7:=hid hb7
 have HK7:Hid (Blk W7 gq 114 (wrA (plK off (encA l) 0))):=hid (by
  have e:plK off (encA l) 0=Zw:=by
   rw [HZw.out]
   unfold plK
   simp only [Nat.not_lt_zero,if_false]
   rfl
  rw [e]
  exact hk7)
 have HKe:=hid hk7e
 have HB0:Hid (Below gq W7 W7):=hid (Below.refl _ _)
 clear hW7 hb7 hk7 hk7e hgq hgqe hmkW
 rw [HW7.out,HGqe.out]
 generalize encA l=xs at *
 go_wp2_with fail
 go_loopw [41] (fun i wr=>∃ k:Nat,k≤33∧i = .int .i64 (k:Int)∧Hid (Blk wr gq 114 (wrA (plK off xs k)))∧Hid (Below gq W7 wr)) (fun i _=>33 - (Go.RowKit.intOf i).toNat)
 case atStart=>exact ⟨0,Nat.zero_le _,rfl,HK7,HB0⟩
 case round =>
  clear HB0 HK7
  obtain ⟨k,hk,rfl,HKr,HBr⟩:=hrel
  by_cases hlt:k < 33
  ·have hkl:k < xs.length:=by rw [HLe.out];exact hlt
   have hc:wr.cell? ⟨ge,k,none⟩=some (.int .u64 (xs[k]:Int)):=by
    rw [HBr.out.cell (p:=⟨ge,k,none⟩) HGq.out,HKe.out.cell]
    exact uA_at hkl
   have HS:=hid (plK_set off xs k)
   have hxd:xs.getD k 0=xs[k]:=by simp [hkl]
   rw [hxd] at HS
   have HKs:=hid ((HKr.out.set_ (k * 2) (.int .u64 ((off+8 * k:Nat):Int))).set_ (k * 2+1) (.int .u64 (xs[k]:Int)))
   rw [wrA_set (by rw [plK_len];exact hlt),HS.out] at HKs
   have HBs:=hid ((HBr.out.setCell (p:=⟨gq,k * 2,none⟩) (Nat.le_refl _) (.int .u64 ((off+8 * k:Nat):Int))).setCell (p:=⟨gq,k * 2+1,none⟩) (Nat.le_refl _) (.int .u64 (xs[k]:Int)))
   have hz5:(0:Int)≤(k:Int):=by omega
   have hz6:(k:Int) < 33:=by omega
   generalize xs[k]=x at *
   have z0:wr.frozen? ⟨gq,k * 2,none⟩=false:=HKr.out.frozen _
   have z1:wr.frozen? ⟨gq,k * 2+1,none⟩=false:=HKr.out.frozen _
   obtain ⟨u0,u1,y0,y1⟩:∃ u0 u1:Value,wr.cell? ⟨gq,k * 2,none⟩=some u0∧wr.cell? ⟨gq,k * 2+1,none⟩=some u1:=by
    have hs:(wrA (plK off xs k)).size=2 * 33:=by rw [wrA_size,plK_len]
    exact ⟨_,_,(HKr.out.cell _).trans (Array.getElem?_eq_getElem (by omega)),(HKr.out.cell _).trans (Array.getElem?_eq_getElem (by omega))⟩
   clear hkl hxd HS
   go_wp2_with fail
   go_roundw
   rw [show (off:Int)+(k:Int) * 8=((off+8 * k:Nat):Int) by omega]
   case rel=>exact ⟨k+1,by omega,by go_num,HKs,HBs⟩
   case measure=>simp [Go.RowKit.intOf];omega
  ·obtain rfl:k=33:=by omega
   go_wp2_with fail
   go_ret2
   refine ⟨gq,?_,rfl,?_,?_⟩
   ·have h1:=HB5.out.size
    rw [HGqe.out] at h1
    exact h1
   ·have h1:=HKr.out
    rw [plK_end] at h1
    exact h1
   ·refine HB7.out.trans (HBr.out.mono ?_)
    have h1:=HB5.out.size
    rw [HGqe.out] at h1
    exact h1
end
section
open Go.RowKit Go.Maps Go.Shelf Go.Sort
theorem cb_cons (x y:UInt8) (a b:List UInt8):Lib.compareBytes (x :: a) (y :: b)=if x.toNat < y.toNat then -1 else if y.toNat < x.toNat then 1 else Lib.compareBytes a b:=by
 rw [Lib.compareBytes]
 simp only [UInt8.lt_iff_toNat_lt]
theorem cb_self:∀ a:List UInt8,Lib.compareBytes a a=0
 | []=>rfl
 | x :: a=>by rw [cb_cons,if_neg (Nat.lt_irrefl _),if_neg (Nat.lt_irrefl _),cb_self a]
theorem cb_nil_cons (y:UInt8) (b:List UInt8):Lib.compareBytes [] (y :: b) = -1:=rfl
theorem cb_cons_nil (y:UInt8) (b:List UInt8):Lib.compareBytes (y :: b) []=1:=rfl
theorem cb_trans:∀ a b c:List UInt8,Lib.compareBytes a b < 0→Lib.compareBytes b c < 0→Lib.compareBytes a c < 0
 | [],[],_,h1,_=>absurd h1 (by decide)
 | [],_ :: _,[],_,h2=>absurd h2 (by rw [cb_cons_nil];decide)
 | [],_ :: _,_ :: _,_,_=>by rw [cb_nil_cons];decide
 | _ :: _,[],_,h1,_=>absurd h1 (by rw [cb_cons_nil];decide)
 | _ :: _,_ :: _,[],_,h2=>absurd h2 (by rw [cb_cons_nil];decide)
 | x :: a,y :: b,z :: c,h1,h2=>by
  have ih:=cb_trans a b c
  rw [cb_cons] at h1 h2 ⊢
  split at h1 <;> split at h2 <;> split <;> try split
  all_goals first
   | omega
   | (split at h1 <;> split at h2 <;> first | omega | exact ih (by assumption) (by assumption))
   | (split at h1 <;> omega)
   | (split at h2 <;> omega)
theorem cb_ntrans:∀ a b c:List UInt8,0≤Lib.compareBytes a b→0≤Lib.compareBytes b c→0≤Lib.compareBytes a c
 | [],[],_,_,h2=>h2
 | [],_ :: _,_,h1,_=>absurd h1 (by rw [cb_nil_cons];decide)
 | _ :: _,_,[],_,_=>by rw [cb_cons_nil];decide
 | _ :: _,[],_ :: _,_,h2=>absurd h2 (by rw [cb_nil_cons];decide)
 | x :: a,y :: b,z :: c,h1,h2=>by
  have ih:=cb_ntrans a b c
  rw [cb_cons] at h1 h2 ⊢
  split at h1 <;> split at h2 <;> split <;> try split
  all_goals first
   | omega
   | (split at h1 <;> split at h2 <;> first | omega | exact ih (by assumption) (by assumption))
   | (split at h1 <;> omega)
   | (split at h2 <;> omega)
theorem cb_eq:∀ a b:List UInt8,Lib.compareBytes a b=0→a=b
 | [],[],_=>rfl
 | [],_ :: _,h=>absurd h (by rw [cb_nil_cons];decide)
 | _ :: _,[],h=>absurd h (by rw [cb_cons_nil];decide)
 | x :: a,y :: b,h=>by
  rw [cb_cons] at h
  split at h
  ·omega
  ·split at h
   ·omega
   ·have e:x=y:=UInt8.toNat_inj.1 (by omega)
    rw [e,cb_eq a b h]
def nmCf (x y:List Nat × Nat):Int:=snCmp (strN x.1) (strN y.1)
theorem nmSwo:SWO (fun x y:List Nat × Nat=>decide (nmCf x y < 0)) where
 irrefl x:=decide_eq_false (by unfold nmCf snCmp;rw [cb_self];decide)
 trans x y z h1 h2:=decide_eq_true (cb_trans _ _ _ (of_decide_eq_true h1) (of_decide_eq_true h2))
 ntrans x y z h1 h2:=decide_eq_false (by
  have g1:=of_decide_eq_false h1
  have g2:=of_decide_eq_false h2
  have g3:=cb_ntrans _ _ _ (show 0≤nmCf x y by omega) (show 0≤nmCf y z by omega)
  have g4:0≤nmCf x z:=g3
  omega)
end
end Go.Proofs.YtfkjjoglnmeciaaGreatDoor
