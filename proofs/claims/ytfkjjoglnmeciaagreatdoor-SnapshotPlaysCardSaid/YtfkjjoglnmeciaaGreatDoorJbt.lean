/- The walks and laws that the claim leans on, part 46. -/
import Derived.Test.YtfkjjoglnmeciaaGreatDoorJbr
import Derived.Test.YtfkjjoglnmeciaaGreatDoorJbs
set_option maxRecDepth 100000
set_option maxHeartbeats 16000000
namespace Go.Proofs.YtfkjjoglnmeciaaGreatDoor
open Go.Lib (hid)
section
open Go.RowKit Go.Maps
section
variable {a:DA} {L T n K:Nat} {x:HA} {cs:Nat→CS} {f:Nat→Option Nat} {N m b0:Nat} {S:Fp} {cur:Nat→Nat} {w:World}
theorem payOk_of (hd:DS a L T 53 n K x cs f N m b0 S cur w) {q k i:Nat} (h:LiveA 53 K cs q 8 k i) (hc:(cs k).cl=4) (hL:64 * L≤900000):PayOk L 53 K cs q:=by
 have hin:=(h.at_.inL hd).1
 have hl:=h.at_.lines
 have hlo:=h.at_.lo
 rw [hc] at hin
 have e60:payW 4=60:=rfl
 rw [e60] at hin
 refine ⟨h.nz,hl.2,by omega,by omega,fun xs hx=>⟨fun e he=>?_,fun e he=>?_,fun e he k' hk' hlk=>?_,?_⟩⟩
 ·obtain ⟨j,hj,rfl⟩:=plOf_mem.1 he
  exact ⟨by show (pOff q+8+8 * j) % 8=0;omega,by show pOff q+8+8 * j < 64 * L;omega, .inr (by show 64 * 0+64 * 26≤pOff q+8+8 * j;omega)⟩
 ·obtain ⟨j,hj,rfl⟩:=plOf_mem.1 he
  show xs.getD j 0 < _
  rw [List.getD_eq_getElem?_getD]
  cases hg:xs[j]? with
  | none=>exact show (0:Nat) < 18446744073709551616 by omega
  | some y=>exact hx y (List.mem_of_getElem? hg)
 ·obtain ⟨j,hj,rfl⟩:=plOf_mem.1 he
  have h4:=h.at_.notLook (y:=j+1) (by rw [hc,e60];omega) hk'
  have hlk':lookAt 53 cs k' ((pOff q+8+8 * j) / 8):=hlk
  rw [show (pOff q+8+8 * j) / 8=pOff q / 8+(j+1) by omega,hl.1] at hlk'
  exact h4 hlk'
 ·unfold plOf
  rw [List.map_map]
  have e:((fun u:Nat × Nat=>u.1) ∘ fun j=>(pOff q+8+8 * j,xs.getD j 0))=fun j=>pOff q+8+8 * j:=rfl
  rw [e]
  exact (List.nodup_range (n:=33)).map _ (fun a b hab h2=>hab (by omega))
end
end
section
open Go.RowKit Go.Maps
structure HP where
 a:DA
 T:Nat
 x:HA
 y:WA
 cs:Nat→CS
 f:Nat→Option Nat
 N:Nat
 m:Nat
 b0:Nat
 S:Fp
 cur:Nat→Nat
 A:Option Addr
 n:Nat
 c:Nat
 al:List Nat
theorem sfp_lt {a:DA} {L T n K:Nat} {x:HA} {cs:Nat→CS} {f:Nat→Option Nat} {N m b0:Nat} {S:Fp} {cur:Nat→Nat} {w:World} {d r:Nat} (h:SD a L T 53 n K x cs f N m b0 S cur w d r) {i:Nat} (hi:sfp S x i):i < w.heap.size:=by
 rcases hi with e | e
 ·exact h.ds.dev.lt _ e
 ·have h1:=h.lo
  have h2:=h1.pl
  have h3:=h1.mr
  have h4:=h1.mh
  have e':i=x.pl∨i=x.mr∨i=x.mh:=e
  omega
section
variable {w0 w w':World} {k gh:Nat} {rl:List RV} {vl:List VV} {z:HP}
variable {dl:Bool} {bl p:List Nat} {wA wB wC wD wE:World} {T1 N1:Nat} {cs1:Nat→CS} {f1:Nat→Option Nat} {S1:Fp} {cur1:Nat→Nat} {al1:List Nat}
variable {st older q:Nat}
end
end
section
open Go.RowKit Go.Maps
def nmS (p:List Nat × Nat):ByteArray:=strN p.1
theorem fndS_neg (s:ByteArray):∀ (l:List (List Nat × Nat)) (i:Nat),fndS s i l < 0↔s ∉ l.map nmS
 | [],i=>by
  constructor
  ·intro _ h
   cases h
  ·intro _
   exact (by decide:(-1:Int) < 0)
 | p :: t,i=>by
  have ih:=fndS_neg s t (i+1)
  unfold fndS
  rw [List.map_cons,List.mem_cons]
  by_cases h:strN p.1=s
  ·rw [if_pos h]
   constructor
   ·intro h1
    omega
   ·intro h1
    exact absurd (Or.inl h.symm) h1
  ·rw [if_neg h,ih]
   constructor
   ·intro h1 h2
    rcases h2 with h2 | h2
    ·exact h h2.symm
    ·exact h1 h2
   ·intro h1 h2
    exact h1 (.inr h2)
theorem fndS_at (s:ByteArray):∀ (l:List (List Nat × Nat)) (i:Nat),¬ fndS s i l < 0→∃ j,∃ h:j < l.length,fndS s i l=((i+j:Nat):Int)∧nmS l[j]=s
 | [],i,h=>absurd (by decide:(-1:Int) < 0) h
 | p :: t,i,h=>by
  unfold fndS at h ⊢
  by_cases e:strN p.1=s
  ·rw [if_pos e]
   exact ⟨0,by simp,rfl,e⟩
  ·rw [if_neg e] at h ⊢
   obtain ⟨j,hj,h1,h2⟩:=fndS_at s t (i+1) h
   refine ⟨j+1,by simpa using hj,?_,h2⟩
   rw [h1]
   omega
theorem sndS_iff (st:Nat):∀ (l pre:List (List Nat × Nat)),sndS st pre l=true↔(∀ p∈l,nmOk (nmS p)=true∧p.2≤st)∧(l.map nmS).Nodup∧∀ p∈l,nmS p ∉ pre.map nmS
 | [],pre=>by simp [sndS]
 | x :: t,pre=>by
  have ih:=sndS_iff st t (pre++[x])
  unfold sndS
  rw [Bool.and_eq_true,Bool.and_eq_true,Bool.and_eq_true,decide_eq_true_eq,decide_eq_true_eq,ih,fndS_neg,List.map_cons,List.nodup_cons]
  constructor
  ·rintro ⟨⟨h1,h2,h3⟩,h4,h5,h6⟩
   refine ⟨fun p hp=>?_,⟨fun hx=>?_,h5⟩,fun p hp=>?_⟩
   ·rcases List.mem_cons.1 hp with rfl | hp
    ·exact ⟨h1,h2⟩
    ·exact h4 p hp
   ·obtain ⟨q,hq,he⟩:=List.mem_map.1 hx
    refine h6 q hq ?_
    rw [he]
    simp
   ·rcases List.mem_cons.1 hp with rfl | hp
    ·exact h3
    ·intro h7
     refine h6 p hp ?_
     rw [List.map_append]
     exact List.mem_append.2 (.inl h7)
  ·rintro ⟨h1,⟨h2,h3⟩,h4⟩
   refine ⟨⟨(h1 x (by simp)).1,(h1 x (by simp)).2,h4 x (by simp)⟩,fun p hp=>h1 p (by simp [hp]),h3,fun p hp hx=>?_⟩
   rw [List.map_append] at hx
   rcases List.mem_append.1 hx with hx | hx
   ·exact h4 p (by simp [hp]) hx
   ·refine h2 ?_
    have e:nmS p=nmS x:=by simpa using hx
    rw [← e]
    exact List.mem_map.2 ⟨p,hp,rfl⟩
structure LOk (st:Nat) (l:List (List Nat × Nat)):Prop where
 top:st≤4611686018427387903
 len:l.length≤8
 nm:∀ p∈l,nmOk (nmS p)=true∧p.2≤st
 nd:(l.map nmS).Nodup
 by_:∀ p∈l,p.1.length≤16∧∀ b∈p.1,b < 256
theorem LOk.snd {st:Nat} {l:List (List Nat × Nat)} (h:LOk st l):sndP st l=true:=by
 unfold sndP
 rw [Bool.and_eq_true,decide_eq_true_eq]
 exact ⟨h.top,(sndS_iff st l []).2 ⟨h.nm,h.nd,(fun p _ hx=>by cases hx)⟩⟩
theorem LOk.nil:LOk 0 []:=⟨by decide,by decide,(fun p hp=>by cases hp),List.nodup_nil,(fun p hp=>by cases hp)⟩
theorem LOk.next {st:Nat} {l:List (List Nat × Nat)} (h:LOk st l) (hs:st < 4611686018427387903):LOk (st+1) l :=
 ⟨by omega,h.len,fun p hp=>⟨(h.nm p hp).1,Nat.le_succ_of_le (h.nm p hp).2⟩,h.nd,h.by_⟩
theorem LOk.take {st:Nat} {l:List (List Nat × Nat)} (h:LOk st l) {s:ByteArray} (hn:nmOk s=true) (hf:fndS s 0 l < 0) (h8:l.length≠8):LOk st (l++[(bytesN s,st)]):=by
 have h1:=(fndS_neg s l 0).1 hf
 have e:nmS (bytesN s,st)=s:=strN_bytesN s
 refine ⟨h.top,?_,fun p hp=>?_,?_,fun p hp=>?_⟩
 ·have h2:=h.len
  rw [List.length_append]
  show l.length+1≤8
  omega
 ·rcases List.mem_append.1 hp with hp | hp
  ·exact h.nm p hp
  ·have e2:=List.mem_singleton.1 hp
   subst e2
   exact ⟨by rw [e];exact hn,Nat.le_refl _⟩
 ·rw [List.map_append,List.nodup_append]
  refine ⟨h.nd,by simp,fun a ha b hb hab=>?_⟩
  have e2:b=nmS (bytesN s,st):=List.mem_singleton.1 hb
  rw [e] at e2
  subst hab
  rw [e2] at ha
  exact h1 ha
 ·rcases List.mem_append.1 hp with hp | hp
  ·exact h.by_ p hp
  ·have e2:=List.mem_singleton.1 hp
   subst e2
   exact ⟨by show (bytesN s).length≤16;rw [bytesN_len];exact nmOk_size hn,bytesN_lt s⟩
theorem dropL_perm {s:ByteArray} {l:List (List Nat × Nat)} {j:Nat} (hj:j < l.length) (hf:fndS s 0 l=(j:Int)):(l[j] :: dropL s l).Perm l:=by
 obtain ⟨t,z,rfl⟩:∃ t z,l=t++[z]:=⟨l.dropLast,l.getLast (by intro h;rw [h] at hj;simp at hj),(List.dropLast_concat_getLast _).symm⟩
 have hlen:(t++[z]).length - 1=t.length:=by simp
 have hlast:(t++[z]).getD t.length ([],0)=z:=by
  rw [List.getD_eq_getElem?_getD,List.getElem?_append_right (Nat.le_refl _),Nat.sub_self]
  rfl
 unfold dropL
 rw [hf,Int.toNat_natCast,hlen,hlast]
 rcases Nat.lt_or_ge j t.length with h | h
 ·rw [List.set_append_left _ _ h,List.take_left' (by rw [List.length_set])]
  rw [List.getElem_append_left h]
  have h1:(t[j] :: t.set j z).Perm (z :: t):=by
   have h2:t=t.take j++t[j] :: t.drop (j+1):=by rw [List.getElem_cons_drop,List.take_append_drop]
   have h3:t.set j z=t.take j++z :: t.drop (j+1):=List.set_eq_take_append_cons_drop.trans (by rw [if_pos h])
   have h4:(z :: t).Perm (z :: (t.take j++t[j] :: t.drop (j+1))):=by rw [← h2]
   refine List.Perm.trans ?_ h4.symm
   rw [h3]
   refine ((List.perm_middle (a:=z) (l₁:=t.take j) (l₂:=t.drop (j+1))).cons t[j]).trans ?_
   refine (List.Perm.swap z t[j] _).trans ?_
   exact (List.perm_middle.symm).cons z
  exact h1.trans (List.perm_append_comm (l₁:=[z]) (l₂:=t))
 ·have hjt:j=t.length:=by simp at hj;omega
  subst hjt
  rw [List.set_append_right _ _ (Nat.le_refl _),List.take_left' rfl]
  rw [List.getElem_append_right (Nat.le_refl _)]
  simp only [Nat.sub_self,List.getElem_cons_zero]
  exact List.perm_append_comm (l₁:=[z]) (l₂:=t)
theorem LOk.drop {st:Nat} {l:List (List Nat × Nat)} (h:LOk st l) {s:ByteArray} (hf:¬ fndS s 0 l < 0):LOk st (dropL s l):=by
 obtain ⟨j,hj,h1,_⟩:=fndS_at s l 0 hf
 rw [Nat.zero_add] at h1
 have hp:=dropL_perm hj h1
 have hm:∀ p∈dropL s l,p∈l:=fun p hp2=>hp.mem_iff.1 (List.mem_cons_of_mem _ hp2)
 have hl:=hp.length_eq
 rw [List.length_cons] at hl
 refine ⟨h.top,by have:=h.len;omega,fun p hp2=>h.nm p (hm p hp2),?_,fun p hp2=>h.by_ p (hm p hp2)⟩
 have h2:=(hp.map nmS).nodup_iff.2 h.nd
 rw [List.map_cons] at h2
 exact (List.nodup_cons.1 h2).2
end
section
open Go.RowKit Go.Maps
theorem zer_at (cur:Nat→Nat) {o k j:Nat} (h8:o % 8=0) (hj:j < k):wrS cur (zerW o k) (o / 8+j)=0:=by
 have hm:(o+8 * j,0)∈zerW o k:=List.mem_map.2 ⟨j,List.mem_range.2 hj,rfl⟩
 have hn:((zerW o k).map (·.1)).Nodup:=by
  unfold zerW
  rw [List.map_map]
  have e:((fun u:Nat × Nat=>u.1) ∘ fun j=>(o+8 * j,0))=fun j=>o+8 * j:=rfl
  rw [e]
  exact (List.nodup_range (n:=k)).map _ (fun a b hab h2=>hab (by omega))
 have h1:=wrS_get (zerW o k) cur hn (fun x hx=>by
  obtain ⟨j',_,rfl⟩:=zerW_mem hx
  show (o+8 * j') % 8=0
  omega) (o+8 * j,0) hm
 have e:(o+8 * j) / 8=o / 8+j:=by omega
 rw [← e]
 exact h1
section
variable {a:DA} {L T n K:Nat} {x:HA} {y:WA} {cs cs':Nat→CS} {f:Nat→Option Nat} {N m b0:Nat} {S:Fp} {cur cur':Nat→Nat} {w w':World}
theorem fresh_words {q k i:Nat} (ho:ResOk 53 K cs f cur 4 cs' cur' k i) (hA:At 53 K cs' q k i):WordsAt cur' q (List.replicate 34 0):=fun j hj=>by
 rw [List.length_replicate] at hj
 have hl:=hA.lines.2
 have h4:pOff q=offO 53 cs' k i:=hA.2.2.2
 have e60:payW 4=60:=rfl
 rw [List.getD_eq_getElem?_getD,List.getElem?_replicate,if_pos hj]
 show cur' (pOff q / 8+j)=0
 rcases ho.how with ⟨_,h⟩ | ⟨k0,_,_,_,_,h⟩ <;> rw [h,← h4,e60] <;> exact zer_at _ hl (by omega)
structure RgS (a:DA) (L T K:Nat) (x:HA) (y:WA) (cs:Nat→CS) (f:Nat→Option Nat) (N m b0:Nat) (S:Fp) (cur:Nat→Nat) (q st:Nat) (l:List (List Nat × Nat)) (w:World):Prop where
 bw:BW a L T K x y cs f N m b0 S cur w
 live:∃ k i,LiveA 53 K cs q 8 k i∧(cs k).cl=4
 words:WordsAt cur q (st :: encA l)
 ok:LOk st l
 link:cur 416=q
theorem RgS.set {q m1:Nat} {e:Ending} (h:BW a L T K x y cs f N m b0 S cur w) (hr:Rq 53 K cs f 8 q 4) (hw:WordsAt cur q (List.replicate 34 0)) (hT:T+800≤1000000000) (hp:RetPub a L T 53 (32 * K) K x cs f N m b0 S cur w y.d y.r [(3328+8 * 0,q)] [q] [] m1 e w') :
  e = .returned (.int .i64 0)∧∃ cs3 f3 S3 cur3,RgS a L (T+800) K x y cs3 f3 (N+m1) (m - m1) b0 S3 cur3 q 0 [] w'∧Chg (sfp S x) w w'∧Grew S S3 w:=by
 obtain ⟨ks,V,cm,S3,he,hAO,hks,hcm,h96,hsd3,hch3,hgr3⟩:=hp
 obtain ⟨⟨k,i,g1,g2⟩,g3⟩:=pub_words (i:=0) (cm:=cm) h.sd.ds hAO hks h96 (by decide) hr (List.mem_singleton.2 rfl) (by decide) (by rw [List.length_replicate];decide) hw
 have hlk:=pub_link (cm:=cm) (i:=0) h.sd.ds (v:=q) hAO (by decide) hr.keep.nz.2
 have hcur:rdG 0 cur ([(3328+8 * 0,q)]++ks.flatMap (acW 53 cs (tlOf 53 cs [q]) (dlOf 53 cs []) V)) cm (8 * 26)=0:=by
  refine (pub_rest h.sd.ds (by omega) hAO h96 (.inr (by omega)) (fun e he=>?_) (fun k hk e he heq=>?_)).trans h.uid
  ·simp at he
   subst he
   show (3328+8 * 0) / 8≠_
   omega
  ·obtain ⟨_,h2,_,h4,_⟩:=hAO.at_ hk he
   have:=hdrAt_ge h2
   omega
 exact ⟨he,_,_,S3,_,⟨h.keep hsd3 hch3 hgr3 hcur,⟨k,i,g1,g2⟩,g3,LOk.nil,hlk⟩,hch3,hgr3⟩
end
end
section
open Go.RowKit Go.Maps
theorem one_ptr {w:World} {g q:Nat} (h:Blk w g 54 #[.int .u64 (q:Int)]):Reads w w.heap.size 1 (some ⟨g,0,none⟩) 1 (uCells [q]):=by
 refine ⟨rfl,fun _=>⟨_,rfl,h.lt,fun j u hu=>?_⟩⟩
 rw [add_plain,Nat.zero_add,h.cell]
 have hj:j < 1:=(List.getElem?_eq_some_iff.1 hu).1
 obtain rfl:j=0:=by omega
 exact hu
theorem sfp_old {a:DA} {L T n K:Nat} {x:HA} {cs:Nat→CS} {f:Nat→Option Nat} {N m b0:Nat} {S:Fp} {cur:Nat→Nat} {w:World} {d r:Nat} (h:SD a L T 53 n K x cs f N m b0 S cur w d r) {i:Nat} (hi:sfp S x i):b0≤i:=by
 obtain ⟨_,_,_,_,l5,l6,l7,l8⟩:=h.ds.lo
 rcases hi with e | e
 ·exact l8 i e
 ·rcases e with e | e | e <;> rw [e] <;> assumption
theorem RgS.below {a:DA} {L T K:Nat} {x:HA} {y:WA} {cs:Nat→CS} {f:Nat→Option Nat} {N m b0:Nat} {S:Fp} {cur:Nat→Nat} {q st:Nat} {l:List (List Nat × Nat)} {w w':World} (h:RgS a L T K x y cs f N m b0 S cur q st l w) (hb:Below w.heap.size w w'):RgS a L T K x y cs f N m b0 S cur q st l w':={ h with bw:=h.bw.below hb }
def RetBg38 (w:World) (e:Ending) (w':World):Prop:=∃ a T x y cs f N m S cur q gr,e = .returned (.tuple #[.pointer (some ⟨y.g,0,none⟩), .pointer (some ⟨gr,0,none⟩)])∧RgS a 149 T 3 x y cs f N m w.heap.size S cur q 0 [] w'∧Blk w' gr 265 #[.int .u64 (q:Int)]∧¬ sfp S x gr∧q < 18446744073709551616∧T≤3000∧N≤10∧Below w.heap.size w w'
section
variable {w:World}
theorem begin38_any (ht:Tab w) (hpy:Pay w):Calls Tryz.prog 61 #[] w (RetBg38 w):=by
 have HBg:=hid (beginB_any 3 (by decide) (by decide) w ht hpy)
 clear ht hpy
 go_enter Tryz.func61,Tryz.ntmps61
 go_wp2_with (go_at_call 20;refine HBg.out.mono ?_;rintro e w1 ⟨a,T,x,y,S,rfl,hbw,hT,hb⟩;have HBw:=hid hbw;have HT:=hid hT;have HB:=hid hb;clear hbw hT hb;refine stop ?_)
 unfold Stop
 have g3:w1.cell? ⟨y.g,3,none⟩=some (.pointer (some ⟨y.d,0,none⟩)):=HBw.out.blk.cell 3
 have HCr:=hid (snCreate_any HBw.out.sd (by decide) (by have:=HT.out;omega) (.inr ⟨0,by decide,rfl⟩))
 go_upto_region 5 with (go_at_call 149;refine HCr.out.mono ?_;rintro e w2 ⟨k,i,S2,cs2,cur2,g2,rfl,hro,hsd,hk,hns,hch,hgr⟩;refine stop ?_)
 unfold Stop
 have hro4:ResOk 53 3 (fun _=>csN) (fun _=>none) (curB 3) 4 cs2 cur2 k i:=hro
 obtain ⟨hrq,hat⟩:=Rq.new hsd.ds (kind:=8) ⟨by decide,by decide⟩ hro4 rfl
 have hfw:=fresh_words hro4 hat
 have hu2:cur2 (8 * 26)=0:=((Fr.alloc (v:=fptr 53 cs2 8 k i) HBw.out.sd.ds (by decide) hro4).head _ (by omega)).trans HBw.out.uid
 have hbw2:=HBw.out.keep hsd hch hgr hu2
 obtain ⟨q,hq⟩:∃ q,fptr 53 cs2 8 k i=q:=⟨_,rfl⟩
 rw [hq] at hrq hat hfw hk hbw2 hsd ⊢
 have hq64:=hrq.keep.nz.2
 have HSt:=hid (set_any hsd (by decide) y.g 0 q (by decide) hq64 (some ⟨g2,0,none⟩) 1 1 [q] (one_ptr hk) (fun ad h=>by injection h with h;subst h;exact hns) (fun p hp=>by
  rw [List.mem_singleton.1 hp]
  exact hrq.keep) (by simp) (by simp) (by have:=HT.out;omega) (by decide))
 have HSt2:Hid (Calls Tryz.prog 36 #[.pointer (some ⟨y.g,0,none⟩), .iface 59 (.pointer (some ⟨y.d,0,none⟩)), .int .i64 0, .int .u64 (q:Int), .slice (some ⟨g2,0,none⟩) 1 1] w2 fun e w3=>e = .returned (.int .i64 0)∧∃ cs3 f3 S3 cur3,RgS a 149 (T+400+800) 3 x y cs3 f3 (0+1+1) (0+1 - 1) w.heap.size S3 cur3 q 0 [] w3∧Chg (sfp S2 x) w2 w3∧Grew S2 S3 w2):=hid (HSt.out.mono (fun e w' h=>RgS.set hbw2 hrq hfw (by have:=HT.out;omega) h))
 have HBc:=hid (HB.out)
 have HBw2:=hid hbw2
 have HQ64:=hid hq64
 have HChg:=hid hch
 have HGrw:=hid hgr
 have f3:w2.cell? ⟨y.g,3,none⟩=some (.pointer (some ⟨y.d,0,none⟩)):=hbw2.blk.cell 3
 have fk:w2.cell? ⟨g2,0,none⟩=some (.int .u64 (q:Int)):=hk.cell 0
 have HKd:Hid (∀ W,Calls Tryz.prog 150 #[.int .u64 (q:Int)] W fun e w'=>e = .returned (.int .u8 8)∧W=w'):=hid (fun W=>by
  have h1:=kind_any q W
  rw [hrq.kind_] at h1
  exact h1)
 have d3:((q:Int) != (q:Int))=false:=by rw [bne,beq_self_eq_true];rfl
 clear hro hro4 hrq hat hfw hu2 hbw2 hq hq64 hsd hk hns hch hgr HSt HCr g3 HBg
 go_upto_region 7 with (first
  | (go_at_call 150;refine (HKd.out _).mono ?_;rintro e w9 ⟨rfl,rfl⟩)
  | (go_at_call 36;refine HSt2.out.mono ?_;rintro e w3 ⟨rfl,cs3,f3',S3,cur3,hrg,hch3,hgr3⟩;have HRg:=hid hrg;have HCh3:=hid hch3;have HGr3:=hid hgr3;clear hrg hch3 hgr3))
 have g33:w3.cell? ⟨y.g,3,none⟩=some (.pointer (some ⟨y.d,0,none⟩)):=HRg.out.bw.blk.cell 3
 have HOp:=hid (snOpen_any HRg.out.bw.sd q HQ64.out)
 have hck:chkR 53 3 cs3 q 8=0:=by
  obtain ⟨k',i',h1,_⟩:=HRg.out.live
  exact (Live.chk ⟨k',i',h1⟩).1
 rw [hck] at HOp
 have HOp2:Hid (Calls Tryz.prog 64 #[.iface 59 (.pointer (some ⟨y.d,0,none⟩)), .int .u64 (q:Int)] w3 fun e w'=>(∃ gr:Nat,w3.heap.size≤gr∧e = .returned (.tuple #[.pointer (some ⟨gr,0,none⟩), .int .i64 0])∧Blk w' gr 265 #[.int .u64 (q:Int)])∧Below w3.heap.size w3 w'):=HOp
 clear f3 fk HOp hck d3
 go_wp2_with (go_at_call 64;refine HOp2.out.mono ?_;rintro e w4 ⟨⟨gr,hgr,rfl,hkr⟩,hb4⟩;have HGr:=hid hgr;have HKr:=hid hkr;have HB4:=hid hb4;clear hgr hkr hb4)
 go_ret2
 have hsd2:=HBw2.out.sd
 have hb13:Below w.heap.size w w3:=by
  have h1:=HChg.out.trans HCh3.out (fun j hj=>by
   rcases hj with hj | hj
   ·rcases HGrw.out j hj with h | h
    ·exact .inl (.inl h)
    ·exact .inr h
   ·exact .inl (.inr hj))
  exact HBc.out.trans (h1.toBelow HBc.out.size (fun j hj=>sfp_old HBw.out.sd hj))
 have hsz3:=hb13.size
 refine ⟨a,T+400+800,x,y,cs3,f3',0+1+1,0+1 - 1,S3,cur3,q,gr,rfl,HRg.out.below HB4.out,HKr.out,fun hz=>?_,HQ64.out,by have:=HT.out;omega,by decide,hb13.trans (HB4.out.mono hsz3)⟩
 have h1:=sfp_lt HRg.out.bw.sd hz
 have h2:=HGr.out
 omega
end
end
section
open Go.RowKit Go.Maps
section
variable {a:DA} {L T K:Nat} {x:HA} {y:WA} {cs:Nat→CS} {f:Nat→Option Nat} {N m b0:Nat} {S:Fp} {cur:Nat→Nat} {q st:Nat} {l:List (List Nat × Nat)} {w w':World}
theorem RgS.pay (h:RgS a L T K x y cs f N m b0 S cur q st l w) (hL:64 * L≤900000):PayOk L 53 K cs q:=by
 obtain ⟨k,i,h1,h2⟩:=h.live
 exact payOk_of h.bw.sd.ds h1 h2 hL
theorem RgS.chk (h:RgS a L T K x y cs f N m b0 S cur q st l w):chkR 53 K cs q 8=0:=by
 obtain ⟨k,i,h1,_⟩:=h.live
 exact (Live.chk ⟨k,i,h1⟩).1
theorem RgS.lo (h:RgS a L T K x y cs f N m b0 S cur q st l w):3400≤pOff q∧q < 18446744073709551616:=by
 obtain ⟨k,i,h1,_⟩:=h.live
 have:=h1.at_.lo
 exact ⟨by omega,h1.lt⟩
theorem RgS.rgR (h:RgS a L T K x y cs f N m b0 S cur q st l w):rgR cur (fun p=>chkR 53 K cs p 8) q=(some (st,l),0):=by
 have hl33:=encA_len h.ok.len (fun p hp=>(h.ok.by_ p hp).1)
 have hw:rgW cur (pOff q / 8+1)=encA l:=by
  unfold rgW
  apply List.ext_getElem
  ·rw [List.length_map,List.length_range,hl33]
  ·intro j h1 h2
   rw [List.getElem_map,List.getElem_range]
   have h3:=h.words (j+1) (by rw [List.length_cons];omega)
   rw [show pOff q / 8+1+j=pOff q / 8+(j+1) by omega,h3,List.getD_eq_getElem?_getD,List.getElem?_cons_succ,List.getElem?_eq_getElem h2]
   rfl
 have h0:cur (pOff q / 8)=st:=h.words 0 (by rw [List.length_cons];omega)
 show (if chkR 53 K cs q 8≠0 then (none,12) else match decA (rgW cur (pOff q / 8+1)) with
  | none=>(none,11)
  | some l=>if sndP (cur (pOff q / 8)) l=true then (some (cur (pOff q / 8),l),0) else (none,11))=_
 rw [if_neg (fun hn=>hn h.chk),hw,decA_enc h.ok.len h.ok.by_,h0]
 show (if sndP st l=true then (some (st,l),0) else (none,11))=_
 rw [if_pos h.ok.snd]
theorem RgS.rd (h:RgS a L T K x y cs f N m b0 S cur q st l w) (hL:64 * L≤900000) {g:Nat} (hg:Blk w g 265 #[.int .u64 (q:Int)]):RdC (.pointer (some ⟨g,0,none⟩)) (.iface 59 (.pointer (some ⟨y.d,0,none⟩))) w (some (st,l),0):=by
 have hp:=h.pay hL
 have h1:=rgRead_any h.bw.sd g q hg h.lo.2 (fun _=>⟨hp.ne,hp.al,hp.inl⟩)
 rw [h.rgR] at h1
 exact h1
theorem RgS.rgOk (h:RgS a L T K x y cs f N m b0 S cur q st l w):RgOk (some (st,l),0):=by
 have h1:=Go.Proofs.YtfkjjoglnmeciaaGreatDoor.rgOk cur (fun p=>chkR 53 K cs p 8) q
 rw [h.rgR] at h1
 exact h1
theorem RgS.list (h:RgS a L T K x y cs f N m b0 S cur q st l w) (hL:64 * L≤900000) {l':List (List Nat × Nat)} (hok:LOk st l') {e:Ending} (hp:RetPw a L T 53 (32 * K) K x cs f N m b0 S cur w y.d y.r (flW cur (plOf (pOff q+8) (encA l'))) e w') :
  e = .returned (.int .i64 0)∧∃ S' cur',RgS a L (T+800) K x y cs f N m b0 S' cur' q st l' w'∧Chg (sfp S x) w w'∧Grew S S' w:=by
 obtain ⟨cm,S',he,hcm,hsd,hch,hgr⟩:=hp
 have hP:=h.pay hL
 have hlo:=h.lo.1
 have hal:=hP.al
 have hv:∀ v∈encA l',v < 18446744073709551616:=encA_val hok.len (fun p hp=>⟨(hok.by_ p hp).1,(hok.by_ p hp).2,by have h1:=(hok.nm p hp).2;have h2:=hok.top;omega⟩)
 have hu:=hP.uok _ hv
 have h8:(pOff q+8) % 8=0:=by omega
 have hl33:=encA_len hok.len (fun p hp=>(hok.by_ p hp).1)
 have hfar:=fun i hi ho=>plOf_far (cm:=cm) (cur:=cur) (xs:=encA l') h8 (i:=i) hi ho
 refine ⟨he,S',_,⟨h.bw.keep hsd hch hgr ?_,h.live,fun j hj=>?_,hok,?_⟩,hch,hgr⟩
 ·rw [hfar (8 * 26) (by omega) (.inl (by omega))]
  exact h.bw.uid
 ·rw [List.length_cons,hl33] at hj
  rcases j with _ | j
  ·rw [Nat.add_zero,hfar _ (by omega) (.inl (by omega))]
   exact h.words 0 (by rw [List.length_cons];omega)
  ·have h1:=plOf_cur (cm:=cm) (cur:=cur) hu h8 (j:=j) (by omega)
   rw [show pOff q / 8+(j+1)=(pOff q+8) / 8+j by omega,h1,List.getD_cons_succ]
 ·rw [hfar 416 (by omega) (.inl (by omega))]
  exact h.link
theorem RgS.next (h:RgS a L T K x y cs f N m b0 S cur q st l w) (hs:st < 4611686018427387903) {e:Ending} (hp:RetPw a L T 53 (32 * K) K x cs f N m b0 S cur w y.d y.r [(pOff q,st+1)] e w') (hal:pOff q % 8=0) (hin:pOff q < 64 * L) :
  e = .returned (.int .i64 0)∧∃ S' cur',RgS a L (T+800) K x y cs f N m b0 S' cur' q (st+1) l w'∧Chg (sfp S x) w w'∧Grew S S' w:=by
 obtain ⟨cm,S',he,hcm,hsd,hch,hgr⟩:=hp
 have hlo:=h.lo.1
 have hfar:∀ i,208≤i→i≠pOff q / 8→rdG 0 cur [(pOff q,st+1)] cm i=cur i:=fun i hi ho=>rdG_rest (by simp) (.inr (by omega)) (fun e he heq=>by
  have e1:=List.mem_singleton.1 he
  subst e1
  exact ho heq.symm)
 have hget:rdG 0 cur [(pOff q,st+1)] cm (pOff q / 8)=st+1:=rdG_get (L:=L) (e:=(pOff q,st+1)) (fun e he=>by
  have e1:=List.mem_singleton.1 he
  subst e1
  exact ⟨hal,hin, .inr (by show 64 * 0+64 * 26≤pOff q;omega)⟩) (by simp) (List.mem_singleton.2 rfl)
 refine ⟨he,S',_,⟨h.bw.keep hsd hch hgr ?_,h.live,fun j hj=>?_,h.ok.next hs,?_⟩,hch,hgr⟩
 ·rw [hfar (8 * 26) (by omega) (by omega)]
  exact h.bw.uid
 ·rcases j with _ | j
  ·exact hget
  ·have h1:=h.words (j+1) (by rw [List.length_cons] at hj ⊢;exact hj)
   rw [hfar _ (by omega) (by omega),h1]
   rfl
 ·rw [hfar 416 (by omega) (by omega)]
  exact h.link
end
end
section
open Go.RowKit Go.Maps
def tkL (nm:ByteArray) (st:Nat) (l:List (List Nat × Nat)):List (List Nat × Nat):=if (tkR nm (some (st,l),0)).1.2=0 then (tkR nm (some (st,l),0)).2 else l
def dpL (nm:ByteArray) (st:Nat) (l:List (List Nat × Nat)):List (List Nat × Nat):=if (drpR nm (some (st,l),0)).1=0 then (drpR nm (some (st,l),0)).2 else l
theorem tkR_ok {nm:ByteArray} {st:Nat} {l:List (List Nat × Nat)} (h:(tkR nm (some (st,l),0)).1.2=0):nmOk nm=true∧fndS nm 0 l < 0∧l.length≠8∧tkR nm (some (st,l),0)=((st,0),l++[(bytesN nm,st)]):=by
 cases hn:nmOk nm with
 | false =>
  unfold tkR at h
  rw [if_pos hn] at h
  exact absurd h (by decide)
 | true =>
  have e:tkR nm (some (st,l),0)=if 0≤fndS nm 0 l then ((0,6),[]) else if l.length=8 then ((0,4),[]) else ((st,0),l++[(bytesN nm,st)]):=by
   unfold tkR
   rw [if_neg (by rw [hn];decide)]
  rw [e] at h ⊢
  by_cases hf:0≤fndS nm 0 l
  ·rw [if_pos hf] at h
   exact absurd h (by decide)
  ·rw [if_neg hf] at h ⊢
   by_cases h8:l.length=8
   ·rw [if_pos h8] at h
    exact absurd h (by decide)
   ·exact ⟨rfl,by omega,h8,if_neg h8⟩
theorem drpR_ok {nm:ByteArray} {st:Nat} {l:List (List Nat × Nat)} (h:(drpR nm (some (st,l),0)).1=0):¬ fndS nm 0 l < 0∧drpR nm (some (st,l),0)=(0,dropL nm l):=by
 have e:drpR nm (some (st,l),0)=if fndS nm 0 l < 0 then (5,[]) else (0,dropL nm l):=rfl
 rw [e] at h ⊢
 by_cases hf:fndS nm 0 l < 0
 ·rw [if_pos hf] at h
  exact absurd h (by decide)
 ·exact ⟨hf,if_neg hf⟩
section
variable {a:DA} {L T K:Nat} {x:HA} {y:WA} {cs:Nat→CS} {f:Nat→Option Nat} {N m b0:Nat} {S:Fp} {cur:Nat→Nat} {q st:Nat} {l:List (List Nat × Nat)} {w w':World}
def RgTo (a:DA) (L T K:Nat) (x:HA) (y:WA) (cs:Nat→CS) (f:Nat→Option Nat) (N m b0:Nat) (S:Fp) (w:World) (q st:Nat) (l:List (List Nat × Nat)) (w':World):Prop:=∃ S' cur',RgS a L (T+800) K x y cs f N m b0 S' cur' q st l w'∧Chg (sfp S x) w w'∧Grew S S' w
theorem RgS.stay (h:RgS a L T K x y cs f N m b0 S cur q st l w) (hT:T+800≤1000000000) (hb:Below w.heap.size w w'):RgTo a L T K x y cs f N m b0 S w q st l w' :=
 ⟨S,cur,{ h with bw:=(h.bw.below hb).more (by omega) hT (Nat.le_refl _) },Chg.of_below hb,Grew.refl _ _⟩
theorem RgS.take_ (h:RgS a L T K x y cs f N m b0 S cur q st l w) (hL:64 * L≤900000) {g:Nat} (hg:Blk w g 265 #[.int .u64 (q:Int)]) (nm:ByteArray) (hs:nm.size≤9223372036854775807) (hT:T+800≤1000000000) (hN:N≤1000000000) :
  Calls Tryz.prog 146 #[.pointer (some ⟨g,0,none⟩), .iface 59 (.pointer (some ⟨y.d,0,none⟩)), .string nm] w fun e w'=>e = .returned (.tuple #[.int .u64 ((tkR nm (some (st,l),0)).1.1:Int), .int .i64 ((tkR nm (some (st,l),0)).1.2:Int)])∧RgTo a L T K x y cs f N m b0 S w q st (tkL nm st l) w':=by
 have hrd:=h.rd hL hg
 by_cases he:(tkR nm (some (st,l),0)).1.2=0
 ·obtain ⟨h1,h2,h3,h4⟩:=tkR_ok he
  have h5:tkL nm st l=l++[(bytesN nm,st)]:=by
   unfold tkL
   rw [if_pos he,h4]
  rw [h4,h5]
  refine (take_ok h.bw.sd h.bw.few g q hg (h.pay hL) st l hrd h.rgOk nm h1 h2 h3 hT hN).mono ?_
  rintro e w' ⟨cm,S',rfl,q1,q2,q3,q4⟩
  obtain ⟨_,S2,cur2,g1,g2,g3⟩:=h.list hL (h.ok.take h1 h2 h3) (e := .returned (.int .i64 0)) ⟨cm,S',rfl,q1,q2,q3,q4⟩
  exact ⟨rfl,S2,cur2,g1,g2,g3⟩
 ·have h5:tkL nm st l=l:=by
   unfold tkL
   rw [if_neg he]
  have h6:(tkR nm (some (st,l),0)).1.1=0:=by
   unfold tkR at he ⊢
   split
   ·rfl
   ·rename_i hn
    rw [if_neg hn] at he
    show ((if 0≤fndS nm 0 l then ((0,6),[]) else if l.length=8 then ((0,4),[]) else ((st,0),l++[(bytesN nm,st)])):(Nat × Nat) × List (List Nat × Nat)).1.1=0
    have he':((if 0≤fndS nm 0 l then ((0,6),[]) else if l.length=8 then ((0,4),[]) else ((st,0),l++[(bytesN nm,st)])):(Nat × Nat) × List (List Nat × Nat)).1.2≠0:=he
    split
    ·rfl
    ·rename_i hf
     rw [if_neg hf] at he'
     split
     ·rfl
     ·rename_i h8
      rw [if_neg h8] at he'
      exact absurd rfl he'
  rw [h5,h6]
  exact (take_err hrd h.rgOk nm hs he).mono (fun e w' h2=>⟨h2.1,h.stay hT h2.2⟩)
theorem RgS.drop_ (h:RgS a L T K x y cs f N m b0 S cur q st l w) (hL:64 * L≤900000) {g:Nat} (hg:Blk w g 265 #[.int .u64 (q:Int)]) (nm:ByteArray) (hT:T+800≤1000000000) (hN:N≤1000000000) :
  Calls Tryz.prog 152 #[.pointer (some ⟨g,0,none⟩), .iface 59 (.pointer (some ⟨y.d,0,none⟩)), .string nm] w fun e w'=>e = .returned (.int .i64 ((drpR nm (some (st,l),0)).1:Int))∧RgTo a L T K x y cs f N m b0 S w q st (dpL nm st l) w':=by
 have hrd:=h.rd hL hg
 by_cases he:(drpR nm (some (st,l),0)).1=0
 ·obtain ⟨h1,h4⟩:=drpR_ok he
  have h5:dpL nm st l=dropL nm l:=by
   unfold dpL
   rw [if_pos he,h4]
  rw [h4,h5]
  refine (drop_ok h.bw.sd h.bw.few g q hg (h.pay hL) st l hrd h.rgOk nm h1 hT hN).mono ?_
  intro e w' hp
  obtain ⟨g0,S2,cur2,g1,g2,g3⟩:=h.list hL (h.ok.drop h1) hp
  exact ⟨g0,S2,cur2,g1,g2,g3⟩
 ·have h5:dpL nm st l=l:=by
   unfold dpL
   rw [if_neg he]
  rw [h5]
  exact (drop_err hrd h.rgOk nm he).mono (fun e w' h2=>⟨h2.1,h.stay hT h2.2⟩)
end
end
section
open Go.RowKit Go.Maps
section
variable {a:DA} {L T n K:Nat} {x:HA} {y:WA} {cs:Nat→CS} {f:Nat→Option Nat} {N m b0:Nat} {S:Fp} {cur:Nat→Nat} {q st:Nat} {l:List (List Nat × Nat)} {w w':World}
theorem RgS.next_ (h:RgS a L T K x y cs f N m b0 S cur q st l w) (hL:64 * L≤900000) {g:Nat} (hg:Blk w g 265 #[.int .u64 (q:Int)]) :
  Calls Tryz.prog 144 #[.pointer (some ⟨g,0,none⟩), .iface 59 (.pointer (some ⟨y.d,0,none⟩))] w (RetNx w (if st=4611686018427387903 then (0,[]) else (st+1,[(pOff q,st+1)]))) :=
 next_some g q (h.rd hL hg) h.rgOk hg (by intro hn;cases hn) (h.pay hL).ne
theorem stamp_uok (hd:DS a L T 53 n K x cs f N m b0 S cur w) {k i v:Nat} (h:LiveA 53 K cs q 8 k i) (hc:(cs k).cl=4) (hv:v < 18446744073709551616):UOk L 0 53 K cs [(pOff q,v)]:=by
 have hin:=(h.at_.inL hd).1
 have hl:=h.at_.lines
 have hlo:=h.at_.lo
 rw [hc] at hin
 have e60:payW 4=60:=rfl
 rw [e60] at hin
 refine ⟨fun e he=>?_,fun e he=>?_,fun e he k' hk' hlk=>?_,by simp⟩
 ·have e1:=List.mem_singleton.1 he
  subst e1
  exact ⟨hl.2,by show pOff q < 64 * L;omega, .inr (by show 64 * 0+64 * 26≤pOff q;omega)⟩
 ·have e1:=List.mem_singleton.1 he
  subst e1
  exact hv
 ·have e1:=List.mem_singleton.1 he
  subst e1
  have h4:=h.at_.notLook (y:=0) (by rw [hc,e60];omega) hk'
  have hlk':lookAt 53 cs k' (pOff q / 8):=hlk
  rw [hl.1] at hlk'
  exact h4 hlk'
theorem RgS.pubNext (h:RgS a L T K x y cs f N m b0 S cur q st l w) (hL:64 * L≤900000) (hs:st < 4611686018427387903) {g:Nat} (hg:Blk w g 114 #[.int .u64 (pOff q:Int), .int .u64 ((st+1:Nat):Int)]) (hT:T+800≤1000000000) (hN:N≤1000000000) :
  Calls Tryz.prog 54 #[.pointer (some ⟨y.d,0,none⟩), .slice (some ⟨g,0,none⟩) 1 1, .slice none 0 0, .slice none 0 0] w fun e w'=>e = .returned (.int .i64 0)∧RgTo a L T K x y cs f N m b0 S w q (st+1) l w':=by
 have hP:=h.pay hL
 have hinl:=hP.inl
 obtain ⟨k,i,hlv,hc⟩:=h.live
 have hr:Reads w w.heap.size 2 (some ⟨g,0,none⟩) 1 (wrCells [(pOff q,st+1)]):=by
  refine ⟨rfl,fun _=>⟨_,rfl,hg.lt,fun j u hu=>?_⟩⟩
  rw [add_plain,Nat.zero_add,hg.cell]
  have e:wrCells [(pOff q,st+1)]=[.int .u64 (pOff q:Int), .int .u64 ((st+1:Nat):Int)]:=rfl
  rw [e] at hu
  rw [List.getElem?_toArray]
  exact hu
 have h1:=publishD h.bw.sd h.bw.few (some ⟨g,0,none⟩) none none 1 1 0 0 0 0 [(pOff q,st+1)] [] [] hr (fun h=>by cases h) ⟨rfl,fun h=>absurd h (Nat.lt_irrefl 0)⟩ ⟨rfl,fun h=>absurd h (Nat.lt_irrefl 0)⟩ (fun ad h=>by cases h) (fun p hp=>absurd hp (by simp)) (fun p hp=>absurd hp (by simp)) (by simp) (stamp_uok h.bw.sd.ds hlv hc (by omega)) (by simp) hT (by omega)
 refine h1.mono (fun e w' hp=>?_)
 obtain ⟨g0,S2,cur2,g1,g2,g3⟩:=h.next hs hp.words hP.al (by omega)
 exact ⟨g0,S2,cur2,g1,g2,g3⟩
end
end
section
open Go.RowKit Go.Maps
def RgW (B:Nat) (a:DA) (x:HA) (y:WA) (q gr T N st:Nat) (l:List (List Nat × Nat)) (w:World):Prop:=∃ cs f m S cur,RgS a 149 T 3 x y cs f N m B S cur q st l w∧Blk w gr 265 #[.int .u64 (q:Int)]∧¬ sfp S x gr∧B≤w.heap.size
section
variable {B:Nat} {a:DA} {x:HA} {y:WA} {q gr T N st:Nat} {l:List (List Nat × Nat)} {w w':World}
theorem RgW.below (h:RgW B a x y q gr T N st l w) (hb:Below w.heap.size w w'):RgW B a x y q gr T N st l w':=by
 obtain ⟨cs,f,m,S,cur,h1,h2,h3,h4⟩:=h
 exact ⟨cs,f,m,S,cur,h1.below hb,h2.below hb h2.lt,h3,Nat.le_trans h4 hb.size⟩
theorem RgTo.rgW {cs:Nat→CS} {f:Nat→Option Nat} {m:Nat} {S:Fp} {cur:Nat→Nat} {st':Nat} {l':List (List Nat × Nat)} (h1:RgS a 149 T 3 x y cs f N m B S cur q st l w) (h2:Blk w gr 265 #[.int .u64 (q:Int)]) (h3:¬ sfp S x gr) (h4:B≤w.heap.size) (h:RgTo a 149 T 3 x y cs f N m B S w q st' l' w'):RgW B a x y q gr (T+800) N st' l' w'∧Below B w w':=by
 obtain ⟨S',cur',g1,g2,g3⟩:=h
 have hb:Below B w w':=g2.toBelow h4 (fun i hi=>sfp_old h1.bw.sd hi)
 refine ⟨⟨cs,f,m,S',cur',g1,g2.blk h2 h3,fun hz=>?_,Nat.le_trans h4 hb.size⟩,hb⟩
 rcases hz with hz | hz
 ·rcases g3 _ hz with e | e
  ·exact h3 (.inl e)
  ·exact absurd h2.lt (Nat.not_lt.2 e)
 ·exact h3 (.inr hz)
theorem RgW.g3 (h:RgW B a x y q gr T N st l w):w.cell? ⟨y.g,3,none⟩=some (.pointer (some ⟨y.d,0,none⟩)):=by
 obtain ⟨cs,f,m,S,cur,h1,_⟩:=h
 exact h1.bw.blk.cell 3
theorem RgW.ok (h:RgW B a x y q gr T N st l w):LOk st l:=by
 obtain ⟨cs,f,m,S,cur,h1,_⟩:=h
 exact h1.ok
theorem RgW.rd (h:RgW B a x y q gr T N st l w):RdC (.pointer (some ⟨gr,0,none⟩)) (.iface 59 (.pointer (some ⟨y.d,0,none⟩))) w (some (st,l),0)∧RgOk (some (st,l),0):=by
 obtain ⟨cs,f,m,S,cur,h1,h2,_⟩:=h
 exact ⟨h1.rd (by decide) h2,h1.rgOk⟩
theorem RgW.take_ (h:RgW B a x y q gr T N st l w) (nm:ByteArray) (hs:nm.size≤9223372036854775807) (hT:T+800≤1000000000) (hN:N≤1000000000) :
  Calls Tryz.prog 146 #[.pointer (some ⟨gr,0,none⟩), .iface 59 (.pointer (some ⟨y.d,0,none⟩)), .string nm] w fun e w'=>e = .returned (.tuple #[.int .u64 ((tkR nm (some (st,l),0)).1.1:Int), .int .i64 ((tkR nm (some (st,l),0)).1.2:Int)])∧RgW B a x y q gr (T+800) N st (tkL nm st l) w'∧Below B w w':=by
 obtain ⟨cs,f,m,S,cur,h1,h2,h3,h4⟩:=h
 exact (h1.take_ (by decide) h2 nm hs hT hN).mono (fun e w' g=>⟨g.1,RgTo.rgW h1 h2 h3 h4 g.2⟩)
theorem RgW.next_ (h:RgW B a x y q gr T N st l w) :
  Calls Tryz.prog 144 #[.pointer (some ⟨gr,0,none⟩), .iface 59 (.pointer (some ⟨y.d,0,none⟩))] w (RetNx w (if st=4611686018427387903 then (0,[]) else (st+1,[(pOff q,st+1)]))):=by
 obtain ⟨cs,f,m,S,cur,h1,h2,h3,h4⟩:=h
 exact h1.next_ (by decide) h2
theorem RgW.pubNext (h:RgW B a x y q gr T N st l w) (hs:st < 4611686018427387903) {g:Nat} (hg:Blk w g 114 #[.int .u64 (pOff q:Int), .int .u64 ((st+1:Nat):Int)]) (hT:T+800≤1000000000) (hN:N≤1000000000) :
  Calls Tryz.prog 54 #[.pointer (some ⟨y.d,0,none⟩), .slice (some ⟨g,0,none⟩) 1 1, .slice none 0 0, .slice none 0 0] w fun e w'=>e = .returned (.int .i64 0)∧RgW B a x y q gr (T+800) N (st+1) l w'∧Below B w w':=by
 obtain ⟨cs,f,m,S,cur,h1,h2,h3,h4⟩:=h
 exact (h1.pubNext (by decide) hs hg hT hN).mono (fun e w' g=>⟨g.1,RgTo.rgW h1 h2 h3 h4 g.2⟩)
theorem RgW.stamp (h:RgW B a x y q gr T N st l w):Calls Tryz.prog 145 #[.pointer (some ⟨gr,0,none⟩), .iface 59 (.pointer (some ⟨y.d,0,none⟩))] w fun e w'=>e = .returned (.int .u64 (st:Int))∧Below w.heap.size w w':=stamp_any h.rd.1
theorem RgW.oldest (h:RgW B a x y q gr T N st l w):Calls Tryz.prog 148 #[.pointer (some ⟨gr,0,none⟩), .iface 59 (.pointer (some ⟨y.d,0,none⟩))] w fun e w'=>e = .returned (.int .u64 (minL st l:Int))∧Below w.heap.size w w':=oldest_any h.rd.1 h.rd.2
theorem RgW.list (h:RgW B a x y q gr T N st l w):Calls Tryz.prog 147 #[.pointer (some ⟨gr,0,none⟩), .iface 59 (.pointer (some ⟨y.d,0,none⟩))] w (RetLi w l):=list_some (fun {_ _ _ _ _ _} h hm=>nmSort_any h hm) h.rd.1 h.rd.2 st l rfl
theorem RgW.get (h:RgW B a x y q gr T N st l w) (nm:ByteArray):Calls Tryz.prog 155 #[.pointer (some ⟨gr,0,none⟩), .iface 59 (.pointer (some ⟨y.d,0,none⟩)), .string nm] w fun e w'=>e = .returned (.tuple #[.int .u64 ((getR nm (some (st,l),0)).1:Int), .int .i64 ((getR nm (some (st,l),0)).2:Int)])∧Below w.heap.size w w':=get_any h.rd.1 h.rd.2 nm
theorem begin38_w (ht:Tab w) (hpy:Pay w):Calls Tryz.prog 61 #[] w fun e w'=>∃ a x y q gr,e = .returned (.tuple #[.pointer (some ⟨y.g,0,none⟩), .pointer (some ⟨gr,0,none⟩)])∧RgW w.heap.size a x y q gr 3000 10 0 [] w'∧Below w.heap.size w w':=by
 refine (begin38_any ht hpy).mono (fun e w' h=>?_)
 obtain ⟨a,T,x,y,cs,f,N,m,S,cur,q,gr,he,h1,h2,h3,h4,h5,h6,h7⟩:=h
 exact ⟨a,x,y,q,gr,he,⟨cs,f,m,S,cur,{ h1 with bw:=h1.bw.more h5 (by decide) h6 },h2,h3,h7.size⟩,h7⟩
end
end
end Go.Proofs.YtfkjjoglnmeciaaGreatDoor
