/- The walks and laws that the claim leans on, part 46. -/
import Derived.Test.YtfkjjoglnmeciaaGreatDoorJbs
import Derived.LaidSub
set_option maxRecDepth 100000
set_option maxHeartbeats 16000000
namespace Go.Proofs.YtfkjjoglnmeciaaGreatDoor
open Go.Lib (hid)
section
open Go.RowKit Go.Maps
theorem methDPublish (p : Option Addr) (w : World) : (method 640 59 (.pointer p) "Publish").run Tryz.prog w = .ok (54, .pointer p) w := by kernel_rfl
theorem aheadDPublish (p : Addr) (w : World) : (nilAhead 640 59 (.pointer (some p)) "Publish").run Tryz.prog w = .ok (some false) w := by kernel_rfl
theorem linkB_any (n:Nat) (hn:n < 8) (w:World):Calls Tryz.prog 53 #[.int .i64 (n:Int)] w fun e w'=>e = .returned (.int .u64 ((3328+8 * n:Nat):Int))∧w=w':=by
 have hc:n=0∨n=1∨n=2∨n=3∨n=4∨n=5∨n=6∨n=7:=by omega
 rcases hc with rfl | rfl | rfl | rfl | rfl | rfl | rfl | rfl
 all_goals
  go_enter Tryz.func53,Tryz.ntmps53
  go_wp2
  go_ret
  exact ⟨rfl,rfl⟩
section
variable {a:DA} {L T s n K:Nat} {x:HA} {cs:Nat→CS} {f:Nat→Option Nat} {N m b0:Nat} {S:Fp} {cur:Nat→Nat} {w w':World} {d r:Nat}
theorem RetPub.back {us:List (Nat × Nat)} {keep free:List Nat} {n1:Nat} {e:Ending} {W:World} (hW:Below w.heap.size w W) (h:RetPub a L T s n K x cs f N m b0 S cur W d r us keep free n1 e w'):RetPub a L T s n K x cs f N m b0 S cur w d r us keep free n1 e w':=by
 obtain ⟨ks,V,cm,S',h1,h2,h3,h4,h5,h6,h7,h8⟩:=h
 exact ⟨ks,V,cm,S',h1,h2,h3,h4,h5,h6,(Chg.of_below hW).trans h7 (fun j hj => .inl hj),fun k hk=>(h8 k hk).imp id (fun h=>Nat.le_trans hW.size h)⟩
theorem hdrAt_ge {ln cl i:Nat} (h:hdrAt ln cl i):8 * ln≤i:=by
 rcases h with h | ⟨j,_,h⟩ <;> omega
theorem link_ok (hd:DS a L T 53 n K x cs f N m b0 S cur w) (i q:Nat) (hi:i < 8) (hq:q < 18446744073709551616):UOk L 0 53 K cs [(3328+8 * i,q)]:=by
 have hK:=hd.hK
 refine ⟨fun e he=>?_,fun e he=>?_,fun e he k hk hl=>?_,by simp⟩
 ·simp at he
  subst he
  exact ⟨by show (3328+8 * i) % 8=0;omega,by show 3328+8 * i < 64 * L;omega, .inr (by show 64 * 0+64 * 26≤3328+8 * i;omega)⟩
 ·simp at he
  subst he
  exact hq
 ·simp at he
  subst he
  have hl':lookAt 53 cs k ((3328+8 * i) / 8):=hl
  unfold lookAt at hl'
  split at hl'
  ·have:=hdrAt_ge hl'
   omega
  ·omega
theorem set_any (h:SD a L T 53 n K x cs f N m b0 S cur w d r) (hK12:K≤12) (g i q:Nat) (hi:i < 8) (hq:q < 18446744073709551616) (A1:Option Addr) (n1 c1:Nat) (keep:List Nat) (h1:Reads w w.heap.size 1 A1 n1 (uCells keep)) (hA1:∀ ad,A1=some ad→¬ sfp S x ad.block) (hk:∀ p∈keep,KeepOk 53 K cs f p) (hn:(keep.map pOff).Nodup) (hlen:keep.length≤20) (hT:T+800≤1000000000) (hN:N+n1≤1000000000) :
  Calls Tryz.prog 36 #[.pointer (some ⟨g,0,none⟩),dirV d, .int .i64 (i:Int), .int .u64 (q:Int), .slice A1 n1 c1] w (RetPub a L T 53 n K x cs f N m b0 S cur w d r [(3328+8 * i,q)] keep [] n1):=by
 have HLk:=hid (linkB_any i hi)
 have HPb:Hid (∀ (W W':World),W=w.drew→W'=W.alloc (.cells #[.int .u64 ((3328+8 * i:Nat):Int), .int .u64 (q:Int)] 114)→Calls Tryz.prog 54 #[.pointer (some ⟨d,0,none⟩), .slice (some ⟨W.heap.size,0,none⟩) 1 1, .slice A1 n1 c1, .slice none 0 0] W' (RetPub a L T 53 n K x cs f N m b0 S cur w d r [(3328+8 * i,q)] keep [] n1)):=hid (fun W W' hW hW'=>by
  subst hW hW'
  have hb:Below w.heap.size w (w.drew.alloc (.cells #[.int .u64 ((3328+8 * i:Nat):Int), .int .u64 (q:Int)] 114)):=(Below.refl _ _).drew.alloc (Nat.le_refl _) _
  have h0:=publishD (h.below hb) hK12 (some ⟨w.drew.heap.size,0,none⟩) A1 none 1 1 n1 c1 0 0 [(3328+8 * i,q)] keep [] (one_reads w.drew _ q) (fun h=>by cases h) ((h1.below hb).more hb.size) ⟨rfl,fun h=>absurd h (Nat.lt_irrefl 0)⟩ hA1 hk (fun p hp=>absurd hp (by simp)) (by rw [List.append_nil];exact hn) (link_ok h.ds i q hi hq) (by simp;omega) hT hN
  exact h0.mono (fun e w' h=>RetPub.back hb h))
 have hm:=methDPublish (some ⟨d,0,none⟩)
 have hna:=aheadDPublish ⟨d,0,none⟩
 have hmf:∀ (fn:Fn) (first cap:Array Value) (w:World),(Instr.makeFunc fn first cap).run Tryz.prog w = .ok (.func fn first cap) w:=fun _ _ _ _=>rfl
 generalize 3328+8 * i=O at *
 clear h h1 hA1 hk hn
 unfold dirV
 go_enter Tryz.func36,Tryz.ntmps36
 go_upto_region 1 with fail
 refine wp_region_scriptH (fun _=>True) 10 [] [(1,0),(1,1),(1,3),(1,6),(1,7),(1,8),(1,9),(0,2),(1,4),(0,5)] (by kernel_rfl) (by kernel_rfl) trivial ?_
 refine wpScriptH_take (.iface 59 (.pointer (some ⟨d,0,none⟩))) (by rfl) (by rfl) (fun w' hS=>?_) ?_
 ·go_simp
 simp only [zA,zB,Act.put,zD,zE,zF]
 refine wpScriptH_take (.int .i64 (i:Int)) (by rfl) (by rfl) (fun w' hS=>?_) ?_
 ·go_simp
 simp only [zA,zB,zC,Act.put,zD,zE,zF]
 refine wpScriptH_take (.int .u64 (q:Int)) (by rfl) (by rfl) (fun w' hS=>?_) ?_
 ·go_simp
 simp only [zA,zB,zC,Act.put,zD,zE,zF]
 refine wpScriptH_take (.slice A1 n1 c1) (by rfl) (by rfl) (fun w' hS=>?_) ?_
 ·go_simp
 simp only [zA,zB,zC,Act.put,zD,zE,zF]
 refine wpScriptH_take (.func (.method "Publish") #[.iface 59 (.pointer (some ⟨d, 0, none⟩))] #[]) (by rfl) (by rfl) (fun w' hS => ?_) ?_
 ·go_simp
 simp only [zA,zB,zC,Act.put,zD,zE,zF]
 refine wpScriptH_take (.func (.method "Publish") #[.iface 59 (.pointer (some ⟨d, 0, none⟩))] #[]) (by rfl) (by rfl) (fun w' hS => ?_) ?_
 ·go_simp
 simp only [zA,zB,zC,Act.put,zD,zE,zF]
 refine wpScriptH_take (.iface 59 (.pointer (some ⟨d,0,none⟩))) (by rfl) (by rfl) (fun w' hS=>?_) ?_
 ·go_simp
 simp only [zA,zB,zC,Act.put,zD,zE,zF]
 refine wpScriptH_do (by rfl) ?_
 go_wp2_with (go_at_call 53;refine (HLk.out _).mono ?_;rintro e w1 ⟨rfl,rfl⟩)
 refine ⟨trivial,?_⟩
 refine wpScriptH_take (.agg #[.int .u64 (O:Int), .int .u64 (q:Int)]) (by rfl) (by rfl) (fun w' hS=>?_) ?_
 ·go_simp
 simp only [zA,zB,zC,Act.put,zD,zE,zF]
 refine wpScriptH_do (by rfl) ?_
 go_wp2_with fail
 refine ⟨trivial,?_⟩
 show wpList _ _ _ _ _ _
 simp only [List.drop_succ_cons,List.drop_zero]
 go_wp2_with (go_at_call 54;refine (HPb.out _ _ rfl rfl).mono ?_;intro e w2 h2;have HP2:=hid h2;clear h2;obtain ⟨ks,V,cm,S',rfl,q2,q3,q4,q5,q6,q7,q8⟩:=HP2.out;clear q2 q3 q4 q5 q6 q7 q8)
 refine NoPanic.normal ?_
 go_wp2_with fail
 go_ret
 exact HP2.out
end
end
section
open Go.RowKit Go.Maps
section
variable {a:DA} {L T s n K:Nat} {x:HA} {cs:Nat→CS} {f:Nat→Option Nat} {N m b0:Nat} {S:Fp} {cur:Nat→Nat} {w w':World} {d r:Nat}
def RetRd (w:World) (R:Nat × List Nat × List Nat) (e:Ending) (w':World):Prop :=
 if R.1=0 then ∃ A m c,e = .returned (.tuple #[.slice A m c, .int .i64 0])∧m=R.2.2.length∧Reads w' w'.heap.size 1 A m (u8s R.2.2)∧(∀ ad,A=some ad→w.heap.size≤ad.block)∧m≤c∧Below w.heap.size w w'
 else e = .returned (.tuple #[.slice none 0 0, .int .i64 (R.1:Int)])∧Below w.heap.size w w'
theorem bread_any (h:SD a L T s n K x cs f N m b0 S cur w d r) (p:Nat) (hp64:p < 18446744073709551616) :
  Calls Tryz.prog 30 #[dirV d, .int .u64 (p:Int)] w (RetRd w (walkR L cur (fun q=>chkR s K cs q 1) p)):=by
 have HW:=hid (walk_any h p hp64)
 clear h
 generalize walkR L cur (fun q=>chkR s K cs q 1) p=R at *
 unfold dirV at *
 by_cases hR:R.1=0
 ·have HW2:Hid (Calls Tryz.prog 110 #[.iface 59 (.pointer (some ⟨d,0,none⟩)), .int .u64 (p:Int)] w fun e w'=>∃ A m c A2 m2 c2,e = .returned (.tuple #[.slice A m c, .slice A2 m2 c2, .int .i64 0])∧m2=R.2.2.length∧Reads w' w'.heap.size 1 A2 m2 (u8s R.2.2)∧(∀ ad,A2=some ad→w.heap.size≤ad.block)∧m2≤c2∧Below w.heap.size w w'):=hid (HW.out.mono (fun e w' h=>by
   unfold RetWk at h
   rw [if_pos hR] at h
   obtain ⟨A,m,c,A2,m2,c2,h1,h2,h3,h4,h5,h6,h7,h8,h9⟩:=h
   exact ⟨A,m,c,A2,m2,c2,h1,h3,h5,h7,h8.2,h9⟩))
  have HR:=hid hR
  clear HW hR
  go_enter Tryz.func30,Tryz.ntmps30
  go_wp2_with (go_at_call 110;refine HW2.out.mono ?_;rintro e w1 ⟨A,m1,c,A2,m2,c2,rfl,h1,h2,h3,h4,h5⟩;have HE:=hid (show _∧_∧_∧_∧_ from ⟨h1,h2,h3,h4,h5⟩);clear h1 h2 h3 h4 h5)
  go_ret2
  unfold RetRd
  rw [if_pos HR.out]
  exact ⟨A2,m2,c2,rfl,HE.out.1,HE.out.2.1,HE.out.2.2.1,HE.out.2.2.2.1,HE.out.2.2.2.2⟩
 ·have HW2:Hid (Calls Tryz.prog 110 #[.iface 59 (.pointer (some ⟨d,0,none⟩)), .int .u64 (p:Int)] w fun e w'=>e = .returned (.tuple #[.slice none 0 0, .slice none 0 0, .int .i64 (R.1:Int)])∧Below w.heap.size w w'):=hid (HW.out.mono (fun e w' h=>by
   unfold RetWk at h
   rw [if_neg hR] at h
   exact h))
  have HR:=hid hR
  clear HW hR
  go_enter Tryz.func30,Tryz.ntmps30
  go_wp2_with (go_at_call 110;refine HW2.out.mono ?_;rintro e w1 ⟨rfl,h1⟩;have HE:=hid h1;clear h1)
  go_ret2
  unfold RetRd
  rw [if_neg HR.out]
  exact ⟨rfl,HE.out⟩
end
end
section
open Go.RowKit Go.Maps
structure InB (w:World) (A:Option Addr) (n c:Nat) (l:List Nat):Prop where
 b:∀ z∈l,z < 256
 r:Reads w w.heap.size 1 A n (u8s l)
 le:n≤c
 cap:c≤9223372036854775807
end
section
open Go.RowKit Go.Maps
structure BkA (K:Nat) (cs:Nat→CS) (cur:Nat→Nat) (q next:Nat) (p:List Nat):Prop where
 live:∃ k i,LiveA 53 K cs q 1 k i∧payW (cs k).cl=bSize p.length
 words:WordsAt cur q (payL next p)
section
variable {a:DA} {L T n K:Nat} {x:HA} {cs:Nat→CS} {f:Nat→Option Nat} {N m b0:Nat} {S:Fp} {cur:Nat→Nat} {w:World} {ks free:List Nat} {V:Nat→Nat} {cm:Nat}
theorem chain_bk (hd:DS a L T 53 n K x cs f N m b0 S cur w) {bl p:List Nat} (hlen:bl.length=nBlk p.length) (hp:p.length≤2000) (h:∀ j (hj:j < bl.length),BkA K cs cur bl[j] (bl.getD (j+1) 0) (p.drop (456 * j))):Chain L cur (fun q=>chkR 53 K cs q 1) bl p:=by
 have h1:=chain_words (L:=L) (chk:=fun q=>chkR 53 K cs q 1) hlen hp (fun j hj=>(h j hj).words) (fun j hj=>by
  obtain ⟨k,i2,h1,h2⟩:=(h j hj).live
  have h5:=(h1.at_.inL hd).1
  rw [List.length_drop] at h2
  exact ⟨by omega,h1.nz,h1.lt,(Live.chk ⟨k,i2,h1⟩).1⟩) (bl.length - 1) 0 (by have:=nBlk_drop p;omega)
 simpa using h1
end
end
section
open Go.RowKit Go.Maps
theorem chain_walk {L:Nat} {cur:Nat→Nat} {chk:Nat→Nat} {bl p:List Nat} (hc:Chain L cur chk bl p) (hp:∀ b∈p,b < 256) (hn:p.length≤2000):walkR L cur chk (bl.headD 0)=(0,bl,p):=by
 cases bl with
 | nil=>exact absurd hc (by simp [Chain])
 | cons q t =>
  have hcq:chk q=0:=hc.2.2.2.2.2.2.1
  show walkR L cur _ q=_
  unfold walkR
  rw [if_neg (fun h=>h hcq),walk_chain 6 q t p [] [] (-1) hc hp (.inl (by omega)) (by omega) (by omega)]
  rfl
section
variable {a a2:DA} {L T T2 n K:Nat} {x x2:HA} {cs:Nat→CS} {f f2:Nat→Option Nat} {N N2 m m2 b0 b02:Nat} {S S2:Fp} {cur:Nat→Nat} {w w2:World} {ks:List Nat} {V:Nat→Nat} {cm:Nat}
end
end
section
open Go.RowKit Go.Maps
def bStr (l:List Nat):ByteArray:=⟨(l.map UInt8.ofNat).toArray⟩
theorem run_bStr (w:World) {B n c:Nat} {A:Option Addr} {l:List Nat} (h:Reads w B 1 A n (u8s l)) (hb:∀ b∈l,b < 256):(convert 24 9 (.slice A n c)).run Tryz.prog w = .ok (.string (bStr l)) w:=by
 have hl:l.length=n:=by have:=h.1;simp [u8s] at this;omega
 cases A with
 | none =>
  have h0:n=0:=by
   rcases Nat.eq_zero_or_pos n with h0 | h0
   ·exact h0
   ·obtain ⟨ad,hA,_⟩:=h.2 h0
    cases hA
  have hn:l=[]:=List.eq_nil_of_length_eq_zero (by omega)
  subst hn
  subst h0
  rw [run_convert_bytes_string w 24 9 5 none 0 c Tryz.underlying24 Tryz.underlying5 Tryz.underlying9]
  rfl
 | some ad =>
  have h1:=run_convert_bytes_back w 24 9 5 ad c (l.map UInt8.ofNat) Tryz.underlying24 Tryz.underlying5 Tryz.underlying9 (fun j hj=>by
   have hj':j < l.length:=by simpa using hj
   obtain ⟨ad',hA',_,hc⟩:=h.2 (by omega)
   injection hA' with hA'
   subst hA'
   have h2:=hc j (.int .u8 (l[j]:Int)) (by simp [u8s,hj'])
   rw [h2,List.getElem_map,UInt8.toNat_ofNat_of_lt' (hb _ (List.getElem_mem hj'))])
  rw [List.length_map,hl] at h1
  exact h1
theorem bytesEq_same (A A2:Option Addr) (n c n2 c2 B B2:Nat) (l:List Nat) (w:World) (h:Reads w B 1 A n (u8s l)) (h2:Reads w B2 1 A2 n2 (u8s l)) (hl:∀ b∈l,b < 256) :
  Calls Tryz.prog 32 #[.slice A n c, .slice A2 n2 c2] w fun e w'=>e = .returned (.bool true)∧w=w':=by
 have k1:=run_bStr (c:=c) w h hl
 have k2:=run_bStr (c:=c2) w h2 hl
 generalize bStr l=s at *
 clear h h2 hl
 go_enter Tryz.func32,Tryz.ntmps32
 go_wp2
 go_ret
 exact ⟨rfl,rfl⟩
section
variable {a:DA} {L T s n K:Nat} {x:HA} {cs:Nat→CS} {f:Nat→Option Nat} {N m b0:Nat} {S:Fp} {cur:Nat→Nat} {w w':World} {d r:Nat}
def RetBl (w:World) (R:Nat × List Nat × List Nat) (e:Ending) (w':World):Prop :=
 if R.1=0 then ∃ A m c,e = .returned (.tuple #[.slice A m c, .int .i64 0])∧m=R.2.1.length∧Reads w' w'.heap.size 1 A m (uCells R.2.1)∧m≤c∧Below w.heap.size w w'
 else e = .returned (.tuple #[.slice none 0 0, .int .i64 (R.1:Int)])∧Below w.heap.size w w'
theorem bblocks_any (h:SD a L T s n K x cs f N m b0 S cur w d r) (p:Nat) (hp64:p < 18446744073709551616) :
  Calls Tryz.prog 31 #[dirV d, .int .u64 (p:Int)] w (RetBl w (walkR L cur (fun q=>chkR s K cs q 1) p)):=by
 have HW:=hid (walk_any h p hp64)
 clear h
 generalize walkR L cur (fun q=>chkR s K cs q 1) p=R at *
 unfold dirV at *
 by_cases hR:R.1=0
 ·have HW2:Hid (Calls Tryz.prog 110 #[.iface 59 (.pointer (some ⟨d,0,none⟩)), .int .u64 (p:Int)] w fun e w'=>∃ A m c A2 m2 c2,e = .returned (.tuple #[.slice A m c, .slice A2 m2 c2, .int .i64 0])∧m=R.2.1.length∧Reads w' w'.heap.size 1 A m (uCells R.2.1)∧m≤c∧Below w.heap.size w w'):=hid (HW.out.mono (fun e w' h=>by
   unfold RetWk at h
   rw [if_pos hR] at h
   obtain ⟨A,m,c,A2,m2,c2,h1,h2,h3,h4,h5,h6,h7,h8,h9⟩:=h
   exact ⟨A,m,c,A2,m2,c2,h1,h2,h4,h8.1,h9⟩))
  have HR:=hid hR
  clear HW hR
  go_enter Tryz.func31,Tryz.ntmps31
  go_wp2_with (go_at_call 110;refine HW2.out.mono ?_;rintro e w1 ⟨A,m1,c,A2,m2,c2,rfl,h1,h2,h4,h5⟩;have HE:=hid (show _∧_∧_∧_ from ⟨h1,h2,h4,h5⟩);clear h1 h2 h4 h5)
  go_ret2
  unfold RetBl
  rw [if_pos HR.out]
  exact ⟨A,m1,c,rfl,HE.out.1,HE.out.2.1,HE.out.2.2.1,HE.out.2.2.2⟩
 ·have HW2:Hid (Calls Tryz.prog 110 #[.iface 59 (.pointer (some ⟨d,0,none⟩)), .int .u64 (p:Int)] w fun e w'=>e = .returned (.tuple #[.slice none 0 0, .slice none 0 0, .int .i64 (R.1:Int)])∧Below w.heap.size w w'):=hid (HW.out.mono (fun e w' h=>by
   unfold RetWk at h
   rw [if_neg hR] at h
   exact h))
  have HR:=hid hR
  clear HW hR
  go_enter Tryz.func31,Tryz.ntmps31
  go_wp2_with (go_at_call 110;refine HW2.out.mono ?_;rintro e w1 ⟨rfl,h1⟩;have HE:=hid h1;clear h1)
  go_ret2
  unfold RetBl
  rw [if_neg HR.out]
  exact ⟨rfl,HE.out⟩
theorem bcheck_any (h:SD a L T s n K x cs f N m b0 S cur w d r) (p:Nat) (hp64:p < 18446744073709551616) {e0:Nat} (he:(walkR L cur (fun q=>chkR s K cs q 1) p).1=e0) :
  Calls Tryz.prog 34 #[dirV d, .int .u64 (p:Int)] w fun e w'=>e = .returned (.int .i64 (e0:Int))∧Below w.heap.size w w':=by
 have HW:=hid (walk_any h p hp64)
 clear h
 generalize walkR L cur (fun q=>chkR s K cs q 1) p=R at *
 subst he
 unfold dirV at *
 have HW2:Hid (Calls Tryz.prog 110 #[.iface 59 (.pointer (some ⟨d,0,none⟩)), .int .u64 (p:Int)] w fun e w'=>∃ (A:Option Addr) (m c:Nat) (A2:Option Addr) (m2 c2:Nat),e = .returned (.tuple #[.slice A m c, .slice A2 m2 c2, .int .i64 (R.1:Int)])∧Hid (Below w.heap.size w w')):=hid (HW.out.mono (fun e w' h=>by
  unfold RetWk at h
  split at h
  ·rename_i hR
   obtain ⟨A,m,c,A2,m2,c2,h1,h2,h3,h4,h5,h6,h7,h8,h9⟩:=h
   rw [hR]
   exact ⟨A,m,c,A2,m2,c2,h1,hid h9⟩
  ·exact ⟨none,0,0,none,0,0,h.1,hid h.2⟩))
 clear HW
 generalize R.1=e0 at *
 go_enter Tryz.func34,Tryz.ntmps34
 go_wp2_with (go_at_call 110;refine HW2.out.mono ?_;rintro e w1 ⟨A,m1,c,A2,m2,c2,rfl,hh⟩)
 go_ret
 exact ⟨rfl,hh.out⟩
end
end
section
open Go.RowKit Go.Maps
theorem heapLive_any (h:Nat) (w:World):Calls Tryz.prog 107 #[.pointer (some ⟨h,0,none⟩)] w fun e w'=>e = .returned (.func (.func 206) #[] #[.pointer (some ⟨w.heap.size,0,none⟩)])∧w'=w.alloc (.cells #[.pointer (some ⟨h,0,none⟩)] 29):=by
 have hmf:∀ (fn:Fn) (first cap:Array Value) (w:World),(Instr.makeFunc fn first cap).run Tryz.prog w = .ok (.func fn first cap) w:=fun _ _ _ _=>rfl
 go_enter Tryz.func107,Tryz.ntmps107
 go_wp2
 go_ret
 exact ⟨rfl,rfl⟩
theorem kpT_appended {W w1:World} {n₀ B:Nat} {size:Nat} {v v':Value} {k:Nat} {xs:List Value} {tmp:Obj} (hv:Boxed W B 40 v) (hrow:W.ownsRow n₀ 54 size v k xs) (hgrow:(W.alloc tmp).grownBy w1 v.ownBlock) (hb:Below n₀ W (w1.setCell ⟨B,0,none⟩ v')):KpT n₀ W (w1.setCell ⟨B,0,none⟩ v'):=by
 refine ⟨hb,fun j cs t ht hj=>?_⟩
 have h1:j≠B:=fun e=>by
  subst e
  have h2:=(show W.heap[j]?=_ from hv).symm.trans hj
  simp at h2
  obtain ⟨_,h3⟩:=h2
  subst h3
  revert ht
  decide
 have h2:some j≠v.ownBlock:=fun e=>by
  rcases hrow.2 with ⟨rfl,_⟩ | ⟨g,cap,cur,rfl,_,hgb,_⟩
  ·simp [Value.ownBlock] at e
  ·obtain rfl:j=g:=by simpa [Value.ownBlock] using e
   have h2:=hgb.symm.trans hj
   simp at h2
   obtain ⟨_,h3⟩:=h2
   subst h3
   revert ht
   decide
 have h3:Blk (W.alloc tmp) j t cs:=hj.alloc tmp
 have h4:Blk w1 j t cs:=(hgrow.block j h3.lt h2).trans h3
 exact h4.far (p:=⟨B,0,none⟩) h1 _
attribute [local go_sem] Oper.semAt_some
section
variable {a:DA} {L T s n K:Nat} {x:HA} {cs:Nat→CS} {f:Nat→Option Nat} {N m b0:Nat} {S:Fp} {cur:Nat→Nat} {w:World}
def RetLv (w:World) (l:List Nat) (e:Ending) (w':World):Prop:=∃ v,e = .returned v∧w'.ownsRow w.heap.size 54 1 v l.length (uCells l)∧Below w.heap.size w w'
theorem worldLive_any (h:DS a L T s n K x cs f N m b0 S cur w) (hK12:K≤12) (g:Nat) (hg2:w.cell? ⟨g,2,none⟩=some (.pointer (some ⟨x.h,0,none⟩))) (hgl:g < w.heap.size) :
  Calls Tryz.prog 25 #[.pointer (some ⟨g,0,none⟩)] w (RetLv w (lvK s cs K)):=by
 obtain ⟨i0,hi,hz0,hz1,hz2⟩:=info_parts infoPtr
 have g2:(w.alloc (.cells #[.slice none 0 0] 40)).cell? ⟨g,2,none⟩=some (.pointer (some ⟨x.h,0,none⟩)):=(((Below.refl _ w).alloc (Nat.le_refl _) _).cell (p:=⟨g,2,none⟩) hgl).trans hg2
 have hB0:Below w.heap.size w ((w.alloc (.cells #[.slice none 0 0] 40)).alloc (.cells #[.pointer (some ⟨x.h,0,none⟩)] 29)):=((Below.refl _ w).alloc (Nat.le_refl _) _).alloc (by simp) _
 have bN:=Blk.new (w.alloc (.cells #[.slice none 0 0] 40)) 29 #[.pointer (some ⟨x.h,0,none⟩)]
 rw [World.size_alloc] at bN
 have HSt:=hid (live_stops h hB0 hK12 (w.heap.size+1) bN)
 have HLn:=hid (lvK_len s cs K)
 have bO:=Boxed.new w 40 (.slice none 0 0)
 clear h hg2 bN
 refine (callsIn_wide (n:=7)).1 (callsIn_of_wp_marks Tryz.func25 rfl trivial ?_ rfl)
 simp only [Tryz.ntmps25,List.size_toArray,List.length_cons,List.length_nil,Nat.reduceAdd,Nat.reduceSub,Array.replicate_succ,Array.replicate_zero,List.push_toArray,List.append_toArray,List.nil_append,List.cons_append]
 have hfn:Fence.wide.fn 107:=trivial
 gi_wp2_with (gi_at_call 107;refine (callsIn_wide.2 (heapLive_any x.h _)).mono ?_;rintro e w' ⟨rfl,rfl⟩)
 refine wpIn_rangeFunc_ownG (n:=7) (ps:=#[10]) (encs:=pEnc) rfl (by decide) (gf:=206) (lb:=#[.pointer (some ⟨w.heap.size+1,0,none⟩)]) rfl trivial (fun args w=>by kernel_rfl)
  HSt.out KpT.trans (KpT.put (w:=(w.alloc (.cells #[.slice none 0 0] 40)).alloc (.cells #[.pointer (some ⟨x.h,0,none⟩)] 29)) hB0.size) (Below.refl _ _) (fun _=>rfl)
  (fun pre W=>(∃ v,Boxed W w.heap.size 40 v∧W.ownsRow w.heap.size 54 1 v pre.length (uCells pre)∧True)∧Below w.heap.size w W)
  (fun _ _ _=>False)
  (OwnFrom.and (Own.from (holdsRow_own w.heap.size w.heap.size 40 54 1 (fun pre=>pre.length) (fun pre=>uCells pre) (fun _ _=>True)) _) (ownFrom_below (Nat.le_refl _) hB0.size))
  (fun _ _ _ _ _ hs _ _=>hs)
  ⟨⟨_,bO.alloc _,World.ownsRow_nil _ _ _ _,trivial⟩,hB0⟩
  (fun p=>{ tmps:=#[.pointer (some ⟨g,0,none⟩),undef, .slice none 0 0, .pointer (some ⟨w.heap.size,0,none⟩), .int .u64 (p:Int), .pointer (some ⟨g,0,none⟩), .pointer (some ⟨g,0,none⟩), .pointer (some ⟨g,2,none⟩), .pointer (some ⟨x.h,0,none⟩), .func (.func 206) #[] #[.pointer (some ⟨w.heap.size+1,0,none⟩)], .int .u64 (p:Int),undef,undef,undef,undef,undef],defers:=[] }) ?assign ?body ?done ?stop
 case assign =>
  intro l x W K hK
  unfold pEnc
  gi_wp2
  exact hK
 case body =>
  rintro l pre p W ⟨⟨v,hv,hrow,_⟩,hB⟩ hlt
  have hc:=hv.cell
  have hml:4096≤maxLen:=by decide
  gi_wp2_with (gi_at_builtin;refine wpListIn_append_own _ rfl _ _ 40 rfl w.heap.size 54 i0 (.int .u64 0) 1 8 Tryz.underlying40 hi hz0 hz1 hz2 rfl (by decide) _ _ _ rfl (hrow.alloc _) ⟨W.heap.size,0,none⟩ 1 1 [.int .u64 (p:Int)] rfl rfl (cell_one_new _ _ _) (by simp [Value.oneCell']) (by omega) (by omega) (by have:=hB.size;simp;omega) ?_;intro v' w1 hown' hgrow _;obtain ⟨g',cap',rfl⟩:=ownsRow_succ hown';obtain ⟨hv1,hv2,hr2,hk2,hb2⟩:=hv.appended (by decide) hrow hB.size (Nat.le_refl _) hown' hgrow;have hkp:=kpT_appended hv hrow hgrow hb2;have hc1:=hv1.cell;have hf1:=hv1.frozen)
  exact ⟨hk2.from _,hkp,⟨_,hv2,by simpa [uCells] using hr2,trivial⟩,hB.trans hb2⟩
 case done =>
  rintro D ys W hD rfl ⟨⟨v,hv,hrow,_⟩,hB⟩ hK
  have hc:=hv.cell
  gi_wp2
  refine ⟨by simp, .inl ⟨_,_,rfl,run_takeDeferred hK,?_⟩⟩
  exact ⟨_,results_tmp rfl _ _ _,v,rfl,ownsRow_putObj hrow _ hK rfl,hB.trans (belowK_b (w:=w) (Nat.le_refl _) W D _ _ (by simp at hD;omega) hK rfl rfl)⟩
 case stop =>
  rintro D c pre W _ _ h _
  exact h.elim
end
end
section
open Go.RowKit Go.Maps
section
variable {a:DA} {L T K:Nat} {x:HA} {y:WA} {cs:Nat→CS} {f:Nat→Option Nat} {N m b0:Nat} {S:Fp} {cur:Nat→Nat} {w w':World}
theorem BW.keep {T' N' m':Nat} {cs':Nat→CS} {f':Nat→Option Nat} {S':Fp} {cur':Nat→Nat} (h:BW a L T K x y cs f N m b0 S cur w) (hsd:SD a L T' 53 (32 * K) K x cs' f' N' m' b0 S' cur' w' y.d y.r) (hc:Chg (sfp S x) w w') (hg:Grew S S' w) (hu:cur' (8 * 26)=0):BW a L T' K x y cs' f' N' m' b0 S' cur' w':=by
 have hn:∀ {g:Nat} {t:TypeId} {vs:Array Value},Blk w g t vs→¬ S g→t≠408→¬ sfp S x g:=fun hB hS ht e=>e.elim hS (h.sd.ds.fp_ne hB ht)
 exact ⟨hsd,hc.blk h.blk (hn h.blk h.off.1 (by decide)),hc.blk h.und (hn h.und h.off.2.1 (by decide)),hc.blk h.mgr (hn h.mgr h.off.2.2 (by decide)),hu,⟨hg.off ⟨h.blk.lt,h.off.1⟩,hg.off ⟨h.und.lt,h.off.2.1⟩,hg.off ⟨h.mgr.lt,h.off.2.2⟩⟩,h.new,h.size,h.few,h.rest⟩
theorem BW.below (h:BW a L T K x y cs f N m b0 S cur w) (hb:Below w.heap.size w w'):BW a L T K x y cs f N m b0 S cur w' :=
 h.keep (h.sd.below hb) (Chg.of_below hb) (Grew.refl _ _) h.uid
theorem BW.more {T' N':Nat} (h:BW a L T K x y cs f N m b0 S cur w) (hT:T≤T') (hT':T'≤1000000000) (hN:N≤N'):BW a L T' K x y cs f N' m b0 S cur w :=
 { h with sd:={ h.sd.more hT hT' with ds:={ (h.sd.more hT hT').ds with hs:=h.sd.ds.hs.mono hN } } }
def RetPut (a:DA) (L T K:Nat) (x:HA) (y:WA) (f:Nat→Option Nat) (N m b0:Nat) (S:Fp) (w:World) (al p:List Nat) (i:Nat) (e:Ending) (w':World):Prop :=
 ∃ bl A' m' c' cs' f' S' cur',e = .returned (.tuple #[.int .u64 (bl.headD 0:Int), .slice A' m' c'])∧m'=bl.length∧Reads w' w'.heap.size 1 A' m' (uCells bl)∧(∀ ad,A'=some ad→w.heap.size≤ad.block∧¬ sfp S' x ad.block)∧PutP L K f al p i bl cs' f' cur'∧BW a L (T+4000) K x y cs' f' (N+20) m b0 S' cur' w'∧Chg (sfp S x) w w'∧Grew S S' w∧m'≤c'
theorem put_any (h:BW a L T K x y cs f N m b0 S cur w) (al:List Nat) (hcap:Cap 53 K cs f al) (i:Nat) (hi:i < 8) (A:Option Addr) (n0 c0:Nat) (p:List Nat) (hr:Reads w w.heap.size 1 A n0 (u8s p)) (hA:0 < n0→∀ ad,A=some ad→¬ sfp S x ad.block) (hp:∀ z∈p,z < 256) (hn:n0≤2000) (hc:n0≤c0) (hc2:c0≤9223372036854775807) (hroom:room (alW n0 al (nBlk n0))≤K) (hN:N+20≤1000000000) (hT:T+4000≤1000000000) :
  Calls Tryz.prog 23 #[.pointer (some ⟨y.g,0,none⟩), .int .i64 (i:Int), .slice A n0 c0] w (RetPut a L T K x y f N m b0 S w al p i):=by
 have hl0:p.length=n0:=by have:=hr.1;simp [u8s] at this;omega
 have HWr:=hid (write_any h.sd al hcap A n0 c0 p hr hA hp hn hc hc2 hroom (by omega) (by omega))
 have HB:=hid h
 have HNT:=hid (And.intro hN hT)
 have HM5:=hid (nBlk_few n0 hn)
 have HLn:=hid hl0
 have HHn:=hid hn
 have g3:w.cell? ⟨y.g,3,none⟩=some (.pointer (some ⟨y.d,0,none⟩)):=h.blk.cell 3
 clear h hcap hr hA hp hroom hN hT hl0 hn
 unfold dirV at HWr
 have HWr2:Hid (Calls Tryz.prog 21 #[.iface 59 (.pointer (some ⟨y.d,0,none⟩)), .slice A n0 c0] w fun e w1=>∃ (q:Nat) (A':Option Addr) (m' c':Nat),e = .returned (.tuple #[.int .u64 (q:Int), .slice A' m' c', .int .i64 0])∧Hid (∃ (bl:List Nat) (cs2:Nat→CS) (f2:Nat→Option Nat) (S2:Fp) (cur2:Nat→Nat),q=bl.headD 0∧bl.length=nBlk p.length∧m'=bl.length∧Reads w1 w1.heap.size 1 A' m' (uCells bl)∧(∀ ad,A'=some ad→w.heap.size≤ad.block∧¬ sfp S2 x ad.block)∧W2 53 K cs f cur al p cs2 f2 cur2 bl bl.length∧SD a L (T+3000) 53 (32 * K) K x cs2 f2 (N+bl.length) (m+bl.length) b0 S2 cur2 w1 y.d y.r∧Chg (sfp S x) w w1∧Grew S S2 w∧m'≤c')):=hid (HWr.out.mono (fun e w1 h=>by
  obtain ⟨bl,A',m',c',cs2,f2,S2,cur2,h1,h2,h3,h4,h5,h6,h7,h8,h9⟩:=h
  exact ⟨_,A',m',c',h1,hid ⟨bl,cs2,f2,S2,cur2,rfl,h2,h3,h4,h5,h6,h7,h8,h9⟩⟩))
 clear HWr
 go_enter Tryz.func23,Tryz.ntmps23
 go_wp2_with (go_at_call 21;refine HWr2.out.mono ?_;rintro e w1 ⟨q,A',m',c',rfl,hall⟩;refine stop ?_)
 unfold Stop
 obtain ⟨bl,cs2,f2,S2,cur2,hq,hlen,hm,hrd,had,hw2,hsd,hch,hgr,hmc⟩:=hall.out
 have HMc:=hid hmc
 clear hall
 have hM:0 < bl.length:=by rw [hlen];exact nBlk_drop p
 have hmp:0 < m':=by omega
 obtain ⟨hl1,gb,go,hA3,hgb,fk⟩:=u_facts hrd (k:=0) hmp
 rw [Nat.add_zero] at fk
 have e0:bl.headD 0=bl[0]:=by cases bl with | nil=>simp at hM | cons y t=>rfl
 have hm5:bl.length≤5:=by rw [hlen,HLn.out];exact HM5.out
 have hq64:bl[0] < 18446744073709551616:=(hw2.w1.rq 0 hM).keep.nz.2
 have HSt:=hid (set_any hsd HB.out.few y.g i q hi (by rw [hq,e0];exact hq64) A' m' c' bl hrd (fun ad h=>(had ad h).2) (fun q hq=>by
  obtain ⟨j,hj,e⟩:=List.getElem_of_mem hq
  rw [← e]
  exact (hw2.w1.rq j hj).keep) hw2.w1.nd (by omega) (by have:=HNT.out;omega) (by have:=HNT.out;omega))
 have HB1:=hid (HB.out.keep hsd hch hgr ((hw2.w1.fr.head _ (by omega)).trans HB.out.uid))
 have g31:w1.cell? ⟨y.g,3,none⟩=some (.pointer (some ⟨y.d,0,none⟩)):=HB1.out.blk.cell 3
 have HX:=hid (show bl.length=nBlk p.length∧m'=bl.length from ⟨hlen,hm⟩)
 have HRd:=hid hrd
 have HAd:=hid had
 have HW2:=hid hw2
 have HSd:=hid hsd
 have HCh:=hid hch
 have HGr:=hid hgr
 have HGb:Hid (gb < w1.heap.size):=hid hgb
 have HQ:=hid hq
 have HA3:=hid hA3
 have fq:w1.cell? ⟨gb,go,none⟩=some (.int .u64 (q:Int)):=by rw [hq,e0];exact fk
 clear hlen hm hrd had hw2 hsd hch hgr hmc hM hgb hq64 e0 hq fk hl1 hm5
 subst hA3
 have d1:((m':Int) == 0)=false:=by rw [beq_eq_false_iff_ne];omega
 have d2:(0:Int) < (m':Int):=by omega
 have d3:((q:Int) != (q:Int))=false:=by rw [bne,beq_self_eq_true];rfl
 unfold dirV at HSt
 have HSt2:Hid (Calls Tryz.prog 36 #[.pointer (some ⟨y.g,0,none⟩), .iface 59 (.pointer (some ⟨y.d,0,none⟩)), .int .i64 (i:Int), .int .u64 (q:Int), .slice (some ⟨gb,go,none⟩) m' c'] w1 fun e w2=>e = .returned (.int .i64 0)∧Hid (RetPub a L (T+3000) 53 (32 * K) K x cs2 f2 (N+bl.length) (m+bl.length) b0 S2 cur2 w1 y.d y.r [(3328+8 * i,q)] bl [] m' e w2)):=hid (HSt.out.mono (fun e w' h=>by
  have h0:=h
  obtain ⟨ks,V,cm,S',h1,_⟩:=h
  exact ⟨h1,hid h0⟩))
 clear HSt
 go_wp2_with (go_at_call 36;refine HSt2.out.mono ?_;rintro e w2 ⟨rfl,hpub⟩;have HPub:=hid hpub.out;clear hpub)
 have HF:Hid (RetPut a L T K x y f N m b0 S w al p i (.returned (.tuple #[.int .u64 (q:Int), .slice (some ⟨gb,go,none⟩) m' c'])) w2):=hid (by
  obtain ⟨ks,V,cm,S3,_,hAO,hks,hcm,h96,hsd3,hch3,hgr3⟩:=HPub.out
  have e1:bl.length+m'=bl.length+bl.length:=by rw [HX.out.2]
  have hcur:rdG 0 cur2 ([(3328+8 * i,q)]++ks.flatMap (acW 53 cs2 (tlOf 53 cs2 bl) (dlOf 53 cs2 []) V)) cm (8 * 26)=0:=by
   refine (pub_rest HSd.out.ds (by omega) hAO h96 (.inr (by omega)) (fun e he=>?_) (fun k hk e he heq=>?_)).trans HB1.out.uid
   ·simp at he
    subst he
    show (3328+8 * i) / 8≠_
    omega
   ·obtain ⟨_,h2,_,h4,_⟩:=hAO.at_ hk he
    have:=hdrAt_ge h2
    omega
  have hbw:=HB1.out.keep hsd3 hch3 hgr3 hcur
  have hm5:bl.length≤5:=by rw [HX.out.1,HLn.out];exact HM5.out
  have hmm:m+bl.length - m'=m:=by rw [HX.out.2];omega
  rw [hmm] at hbw
  refine ⟨bl,some ⟨gb,go,none⟩,m',c',_,_,S3,_,by rw [← HQ.out],HX.out.2,(hch3.reads HRd.out (Nat.le_refl _) (fun ad h=>(HAd.out ad h).2)).more hch3.size,fun ad h=>⟨(HAd.out ad h).1,?_⟩,putP_of (cm:=cm) HSd.out.ds HW2.out HX.out.1 (by rw [HLn.out];exact HHn.out) hAO hks (by rw [← HQ.out];exact h96) hi,?_,?_,?_,HMc.out⟩
  ·injection h with h
   subst h
   rintro (e | e)
   ·rcases hgr3 _ e with h1 | h1
    ·exact (HAd.out _ rfl).2 (.inl h1)
    ·have:=HGb.out
     have h2:w1.heap.size≤gb:=h1
     omega
   ·exact (HAd.out _ rfl).2 (.inr e)
  ·rw [← HQ.out]
   exact hbw.more (by omega) (by have:=HNT.out;omega) (by have:=HX.out.2;omega)
  ·refine HCh.out.trans hch3 (fun j hj=>?_)
   rcases hj with hj | hj
   ·rcases HGr.out j hj with h1 | h1
    ·exact .inl (.inl h1)
    ·exact .inr h1
   ·exact .inl (.inr hj)
  ·exact HGr.out.trans hgr3 HCh.out.size)
 clear HPub
 go_ret2
 all_goals exact HF.out
end
end
section
open Go.ChangeShapes Go.WideShapes Go.ChangeAt Go.RowKit
theorem gPay : Tryz.prog.globalNamed "bedrock/sizeclass.payload" = some 0 := by kernel_rfl
theorem gPayType:(Tryz.prog.globals[0]?).map (·.type)=some 409:=by kernel_rfl
theorem cellsPay:Tryz.prog.cellsOf 409=5:=by kernel_rfl
theorem cellsI64:Tryz.prog.cellsOf 3=1:=by kernel_rfl
theorem payIs {W:World} (h:laidMetH Tryz.prog laidList W):Pay W:=by
 have h2 : laidMetH Tryz.prog [("bedrock/sizeclass.payload", Rows.laid_bedrock_sizeclass_payload)] W := laidMetH.filter (fun x => x.1 == "bedrock/sizeclass.payload") h
 have ht : Lib.TabIs Tryz.prog W "bedrock/sizeclass.payload" .i64 [3, 7, 15, 31, 60] :=
  Lib.tabIs_of_head (rest:=[]) gPay gPayType Tryz.underlying409 Tryz.underlying3 cellsI64 cellsPay h2
 intro i hi
 have hc:=ht.cell gPay i hi
 rw [hc]
 have:i=0∨i=1∨i=2∨i=3∨i=4:=by omega
 rcases this with rfl | rfl | rfl | rfl | rfl <;> rfl
theorem ints_of {H:Type} {enc:TypeId × Value→H} {W:World} {base:Nat} {sp:Nat→Bool} {held:Bool} {t e:TypeId} {k:IntKind} {a:Option Addr} {len cap:Nat} {d:DataW H} {p:List MemPlace}
  (ht:Tryz.prog.underlying t=some (.slice e)) (he:Tryz.prog.underlying e=some (.int k)) (hc:Tryz.prog.cellsOf e=1)
  (h:DataW.Trod enc Tryz.prog W base sp held t (.slice a len cap) d p) :
  ∃ zs:List Int,Reads W W.heap.size 1 a len (zs.map (Value.int k))∧len≤cap∧cap≤maxLen∧∀ n∈zs,(Lit.int k n).wf=true:=by
 obtain ⟨fuel,hf⟩:=h
 rcases open_ints ht he hc hf with ⟨hcs,_⟩ | ⟨x,l,c,zs,hcs,_,hl,hm,hz,hx,hcell,hwz⟩
 ·simp [Value.cells] at hcs
  obtain ⟨rfl,rfl,rfl⟩:=hcs
  exact ⟨[],⟨rfl,fun h=>absurd h (Nat.lt_irrefl 0)⟩,Nat.le_refl _,Nat.zero_le _,fun _ hn=>by cases hn⟩
 ·simp [Value.cells] at hcs
  obtain ⟨rfl,rfl,rfl⟩:=hcs
  have hz':len≤zs.length:=by rw [hz];split <;> omega
  refine ⟨zs.take len,⟨by rw [List.length_map,List.length_take];omega,fun hn=>⟨_,rfl,?_,fun j u hu=>?_⟩⟩,hl,hm,fun n hn=>hwz n (List.mem_of_mem_take hn)⟩
  ·have:=World.block_lt_of_cell? _ _ (hcell 0 (by omega))
   rw [block_of_add] at this
   exact this
  ·simp only [List.getElem?_map,Option.map_eq_some_iff] at hu
   obtain ⟨z,hzj,rfl⟩:=hu
   rw [List.getElem?_take] at hzj
   split at hzj
   ·obtain ⟨hj,rfl⟩:=List.getElem?_eq_some_iff.1 hzj
    rw [hcell j hj]
    simp [List.getD,hj]
   ·cases hzj
theorem bytes_of {H:Type} {enc:TypeId × Value→H} {W:World} {base:Nat} {sp:Nat→Bool} {held:Bool} {a:Option Addr} {len cap:Nat} {d:DataW H} {p:List MemPlace}
  (h:DataW.Trod enc Tryz.prog W base sp held 24 (.slice a len cap) d p):∃ l,InB W a len cap l:=by
 obtain ⟨zs,hr,hl,hm,hwz⟩:=ints_of Tryz.underlying24 Tryz.underlying5 (by kernel_rfl) h
 have hb:∀ z∈zs,0≤z∧z≤255:=fun z hz=>by
  have hw:=hwz z hz
  have hmn:IntKind.u8.min=0:=by decide
  have hmx:IntKind.u8.max=255:=by decide
  simp only [Lit.wf,hmn,hmx,Bool.and_eq_true,decide_eq_true_eq] at hw
  omega
 refine ⟨zs.map Int.toNat,?_,?_,hl,hm⟩
 ·intro b hbm
  obtain ⟨z,hz,rfl⟩:=List.mem_map.1 hbm
  have:=hb z hz
  omega
 ·have:u8s (zs.map Int.toNat)=zs.map (Value.int .u8):=by
   simp only [u8s,List.map_map]
   refine List.map_congr_left fun z hz=>?_
   have:=hb z hz
   simp only [Function.comp]
   rw [Int.toNat_of_nonneg this.1]
  rw [this]
  exact hr
end
section
open Go.RowKit
theorem equP_same (A A2:Option Addr) (n c c2:Nat) (l:List Nat) (w:World) (h:Reads w w.heap.size 1 A n (uCells l)) (h2:Reads w w.heap.size 1 A2 n (uCells l)) (hn:n≤1000) :
  Calls Tryz.prog 27 #[.slice A n c, .slice A2 n c2] w fun e w'=>e = .returned (.bool true)∧Below w.heap.size w w':=by
 have HR:=hid h
 have HR2:=hid h2
 have d0:((n:Int) != (n:Int))=false:=by rw [bne,beq_self_eq_true];rfl
 clear h h2
 go_enter Tryz.func27,Tryz.ntmps27
 go_wp2_with fail
 go_loopw [13] (fun i wr=>∃ k:Nat,k≤n∧i = .int .i64 (k:Int)∧Hid (Below w.heap.size w wr)) (fun i _=>n - (Go.RowKit.intOf i).toNat)
 case atStart=>exact ⟨0,Nat.zero_le _,rfl,hid (Below.refl _ _)⟩
 case round =>
  obtain ⟨k,hk,rfl,HB⟩:=hrel
  by_cases hlt:k < n
  ·obtain ⟨hx1,b,off,hA,hbB,f0⟩:=u_facts (HR.out.below HB.out) hlt
   obtain ⟨hx2,b2,off2,hA2,hbB2,f2⟩:=u_facts (HR2.out.below HB.out) hlt
   have hz5:(0:Int)≤(k:Int):=by omega
   have hz6:(k:Int) < (n:Int):=by omega
   subst hA hA2
   generalize l[k]=u at *
   have d3:((u:Int) != (u:Int))=false:=by rw [bne,beq_self_eq_true];rfl
   clear hbB hbB2
   go_upto_region 6 with fail
   go_quiet (fail)
   have HB2:=hid (below_drewN HB.out nq)
   go_wp2_with fail
   go_roundw
   case rel =>
    first
     | exact ⟨k+1,by omega,by go_num,HB2⟩
     | (
       repeat apply Exists.intro
       refine ⟨?_,rfl⟩
       exact ⟨k+1,by omega,by go_num,HB2⟩)
   case measure=>simp [Go.RowKit.intOf];omega
  ·obtain rfl:n=k:=by omega
   go_wp2_with fail
   go_ret
   exact ⟨rfl,HB.out⟩
theorem nBlk_step (r:Nat) (h:456 < r):nBlk r=nBlk (r - 456)+1:=by
 unfold nBlk
 rw [if_neg (by omega)]
 split <;> omega
theorem nBlk_one (r:Nat) (h:¬ 456 < r):nBlk r=1:=by
 unfold nBlk
 rw [if_pos (by omega)]
theorem refBlocks_any (n:Nat) (hn:n≤2000) (w:World):Calls Tryz.prog 24 #[.int .i64 (n:Int)] w fun e w'=>e = .returned (.int .i64 (nBlk n:Int))∧w=w':=by
 obtain ⟨M,hM⟩:∃ M,nBlk n=M:=⟨_,rfl⟩
 have hM5:M≤5:=by rw [← hM];exact nBlk_few n hn
 have H0:Hid (1+nBlk n=M+1):=hid (by omega)
 rw [hM]
 clear hM
 go_enter Tryz.func24,Tryz.ntmps24
 go_wp2_with fail
 go_loop [0,3] (fun v k=>∃ r j:Nat,r≤2000∧j≤5∧v = .int .i64 (r:Int)∧k = .int .i64 (j:Int)∧Hid (j+nBlk r=M+1)) (fun v _=>(Go.RowKit.intOf v).toNat)
 case atStart=>exact ⟨n,1,hn,by omega,rfl,rfl,H0⟩
 case round =>
  clear H0
  obtain ⟨r,j,hr,hj,rfl,rfl,HJ⟩:=hrel
  by_cases h:456 < r
  ·have d1:decide ((456:Int) < (r:Int))=true:=decide_eq_true (by omega)
   have d2:(456:Int) < (r:Int):=by omega
   have hj5:j+1≤5:=by
    have h1:=HJ.out
    have h2:=nBlk_step r h
    have h3:=nBlk_drop (List.replicate (r - 456) 0)
    rw [List.length_replicate] at h3
    omega
   have HJ2:Hid (j+1+nBlk (r - 456)=M+1):=hid (by have h1:=HJ.out;have h2:=nBlk_step r h;omega)
   have e1:(r:Int) - 456=((r - 456:Nat):Int):=by omega
   have HE:=hid e1
   clear e1
   go_wp2_with fail
   go_round
   case rel=>exact ⟨r - 456,j+1,by omega,hj5,by rw [HE.out],by go_num,HJ2⟩
   case measure=>simp [Go.RowKit.intOf];omega
  ·have d1:decide ((456:Int) < (r:Int))=false:=decide_eq_false (by omega)
   have d2:(r:Int)≤456:=by omega
   have hjM:j=M:=by
    have h1:=HJ.out
    have h2:=nBlk_one r h
    omega
   subst hjM
   go_wp2_with fail
   go_ret
   exact ⟨rfl,rfl⟩
end
end Go.Proofs.YtfkjjoglnmeciaaGreatDoor
