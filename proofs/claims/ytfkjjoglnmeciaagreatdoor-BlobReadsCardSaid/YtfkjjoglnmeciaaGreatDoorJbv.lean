/- The walks and laws that the claim leans on, part 48. -/
import Derived.Test.YtfkjjoglnmeciaaGreatDoorJao
import Derived.Test.YtfkjjoglnmeciaaGreatDoorJbu
set_option maxRecDepth 100000
set_option maxHeartbeats 16000000
namespace Go.Proofs.YtfkjjoglnmeciaaGreatDoor
open Go.Lib (hid)
section
open Go.RowKit Go.Maps
theorem write_long (d:Nat) (A:Option Addr) (n c:Nat) (hn:2000 < n) (w:World):Calls Tryz.prog 21 #[.iface 59 (.pointer (some ⟨d,0,none⟩)), .slice A n c] w fun e w'=>e = .returned (.tuple #[.int .u64 0, .slice none 0 0, .int .i64 9])∧Below w.heap.size w w':=by
 have c0:(w.alloc (.cells #[.iface 59 (.pointer (some ⟨d,0,none⟩))] 83)).cell? ⟨w.heap.size,0,none⟩=some (.iface 59 (.pointer (some ⟨d,0,none⟩))):=(Blk.new w 83 #[.iface 59 (.pointer (some ⟨d,0,none⟩))]).cell 0
 have e1:decide ((2000:Int) < (n:Int))=true:=decide_eq_true (by omega)
 go_enter Tryz.func21,Tryz.ntmps21
 go_wp2
 refine bodyPost_ret (results_tmp3 rfl _ _ _) rfl ?_
 exact ⟨rfl,by first | exact Below.refl _ _ | exact (Below.refl _ _).alloc (Nat.le_refl _) _ | exact ((Below.refl _ _).alloc (Nat.le_refl _) _).alloc (by simp) _⟩
section
variable {a:DA} {L T s n K:Nat} {x:HA} {cs:Nat→CS} {f:Nat→Option Nat} {N m b0:Nat} {S:Fp} {cur:Nat→Nat} {w:World}
theorem reserved_any (h:DS a L T s n K x cs f N m b0 S cur w):Calls Tryz.prog 28 #[.pointer (some ⟨x.h,0,none⟩)] w fun e w'=>e = .returned (.int .i64 (m:Int))∧w=w':=by
 have c4:w.cell? ⟨x.h,4,none⟩=some (.map (some x.mr)):=h.hs.heap.cell 4
 obtain ⟨D,ho,hd⟩:=h.hs.res
 have hs:=hd.size
 have hlen:∀ ty,(Builtin.len_ #[190] ty #[.map (some x.mr)]).run Tryz.prog w = .ok (.int .i64 (Maps.size D)) w:=fun ty=>ho.len Tryz.underlying190 ty
 rw [hs] at hlen
 clear h ho hd hs
 go_enter Tryz.func28,Tryz.ntmps28
 go_wp2
 go_ret
 exact ⟨rfl,rfl⟩
end
theorem insP_nil (w:World):Calls Tryz.prog 211 #[.slice none 0 0, .int .i64 0, .int .i64 0] w fun e w'=>e = .returned (.tuple #[])∧w=w':=by
 go_enter Tryz.func211,Tryz.ntmps211
 go_wp2_with fail
 refine wp_loop_rounds 1 ?_
 rw [rounds_succ]
 go_wp2_with fail
 go_end0
 exact ⟨rfl,rfl⟩
theorem pdqP_nil (k:Nat) (w:World):Calls Tryz.prog 108 #[.slice none 0 0, .int .i64 0, .int .i64 0, .int .i64 (k:Int)] w fun e w'=>e = .returned (.tuple #[])∧w=w':=by
 have HI:=hid (insP_nil w)
 go_enter Tryz.func108,Tryz.ntmps108
 go_wp2_with fail
 refine wp_loop_rounds 1 ?_
 rw [rounds_succ]
 go_wp2_with fail
 refine HI.out.mono ?_
 rintro e w1 ⟨rfl,rfl⟩
 go_wp2_with fail
 refine bodyPost_ret (results_none rfl _ _ _) rfl ?_
 exact ⟨rfl,rfl⟩
theorem sortP_nil (w:World):Calls Tryz.prog 26 #[.slice none 0 0] w fun e w'=>e = .returned (.tuple #[])∧w=w':=by
 have HLn:=hid (len_any 0 w (by omega))
 have HP:=hid (pdqP_nil (Lib.bitLen 0) w)
 generalize Lib.bitLen 0=k at *
 go_enter Tryz.func26,Tryz.ntmps26
 go_wp2_with (first
  | (go_at_call 109;refine HLn.out.mono ?_;rintro e w' ⟨rfl,rfl⟩)
  | (go_at_call 108;refine HP.out.mono ?_;rintro e w' ⟨rfl,rfl⟩))
 go_end0
 exact ⟨rfl,rfl⟩
theorem sortP_own (n0:Nat) (v:Value) (k:Nat) (l:List Nat) (w:World) (h:w.ownsRow n0 54 1 v k (uCells l)) (hk:l.length≤49) :
  Calls Tryz.prog 26 #[v] w fun e w'=>e = .returned (.tuple #[])∧∃ l',l'.Perm l∧Srt 0 l.length l'∧w'.ownsRow n0 54 1 v k (uCells l')∧Chg (fun j=>some j=v.ownBlock) w w':=by
 obtain ⟨hl,⟨rfl,rfl⟩ | ⟨g,cap,cur,rfl,h2,h3,h4,h5,h6,h7⟩⟩:=h
 ·have e:l=[]:=by
   cases l with
   | nil=>rfl
   | cons a t=>simp [uCells] at hl
  subst e
  refine (sortP_nil w).mono ?_
  rintro e w' ⟨rfl,rfl⟩
  exact ⟨rfl,[],List.Perm.refl _,fun p q h1 h2 h3=>absurd h3 (by simp),World.ownsRow_nil _ _ _ _,Chg.refl _ _⟩
 ·have hn:l.length=k:=by simpa [uCells] using hl
  have hx:SX 54 w w g k l cur.size:=by
   refine ⟨cur,h3,rfl,⟨by omega,fun i hi=>?_⟩,hn,Chg.refl _ _⟩
   have e:(List.take (k * 1) cur.toList)[i]?=(uCells l)[i]?:=by rw [h7]
   rw [List.getElem?_take,if_pos (by omega)] at e
   rw [← Array.getElem?_toList,e]
   simp [uCells,hi]
  have hcm:cap≤9223372036854775807:=by
   have:maxLen≤9223372036854775807:=by decide
   omega
  refine (sortXP g k cap cur.size l w hx (by omega) (by omega) hcm).mono ?_
  rintro e w' ⟨rfl,l',⟨cs',hb,hsz,hr,hl',hc⟩,hp,hs⟩
  refine ⟨rfl,l',hp.perm,hn ▸ hs,⟨by simp [uCells,hl'], .inr ⟨g,cap,cs',rfl,h2,hb,h4,h5,by omega,?_⟩⟩,?_⟩
  ·apply List.ext_getElem?
   intro i
   rw [List.getElem?_take]
   by_cases hi:i < k
   ·rw [if_pos (by omega),Array.getElem?_toList,hr.2 i (by omega)]
    simp [uCells,hl',hi]
   ·rw [if_neg (by omega)]
    simp [uCells,hl',hi]
  ·exact hc.mono (fun j hj=>by subst hj;rfl)
end
section
open Go.RowKit Go.Maps
theorem mem_lvI {s k:Nat} {c:CS} {q:Nat}:∀ n,q∈lvI s k c n↔∃ i,i < n∧(c.bs i).st=177∧q=pMk (64 * (s+32 * k)+8 * offB c.cl i+8) (c.bs i).gen (c.bs i).kind
 | 0=>by simp [lvI]
 | n+1=>by
  rw [lvI_succ,List.mem_append,mem_lvI n]
  unfold lvB
  constructor
  ·rintro (⟨i,h1,h2,h3⟩ | h)
   ·exact ⟨i,by omega,h2,h3⟩
   ·split at h
    ·exact ⟨n,by omega,by assumption,by simpa using h⟩
    ·simp at h
  ·rintro ⟨i,h1,h2,h3⟩
   by_cases e:i=n
   ·subst e
    right
    rw [if_pos h2]
    simpa using h3
   ·exact .inl ⟨i,by omega,h2,h3⟩
theorem mem_lvK {s:Nat} {cs:Nat→CS} {q:Nat}:∀ K,q∈lvK s cs K↔∃ k i,k < K∧(cs k).dv=true∧i < perC (cs k).cl∧((cs k).bs i).st=177∧q=pMk (offO s cs k i) ((cs k).bs i).gen ((cs k).bs i).kind
 | 0=>by simp [lvK]
 | K+1=>by
  rw [lvK_succ,List.mem_append,mem_lvK K]
  unfold lvC
  constructor
  ·rintro (⟨k,i,h1,h2⟩ | h)
   ·exact ⟨k,i,by omega,h2⟩
   ·split at h
    ·obtain ⟨i,h1,h2,h3⟩:=(mem_lvI _).1 h
     exact ⟨K,i,by omega,by assumption,h1,h2,h3⟩
    ·simp at h
  ·rintro ⟨k,i,h1,h2,h3,h4,h5⟩
   by_cases e:k=K
   ·subst e
    right
    rw [if_pos h2]
    exact (mem_lvI _).2 ⟨i,h3,h4,h5⟩
   ·exact .inl ⟨k,i,by omega,h2,h3,h4,h5⟩
theorem offO_lt {s K:Nat} {cs:Nat→CS} {k i:Nat} (hs:s≤4096) (hK:K≤128) (hk:k < K) (hi:i < perC (cs k).cl):offO s cs k i < 34359738368∧offO s cs k i % 8=0:=by
 have h1:=off_lt hi
 unfold offO blkO
 omega
section
variable {a:DA} {L T s n K:Nat} {x:HA} {cs:Nat→CS} {f:Nat→Option Nat} {N m b0:Nat} {S:Fp} {cur:Nat→Nat} {w:World}
theorem alive_iff (h:DS a L T s n K x cs f N m b0 S cur w) {q:Nat}:q∈lvK s cs K↔Alive s K cs q:=by
 have hf:=h.few
 rw [mem_lvK]
 constructor
 ·rintro ⟨k,i,h1,h2,h3,h4,rfl⟩
  have hC:=h.chw h1 h2
  have hg:=hC.good i h3
  have hin:=hC.inn i h3
  unfold BK.good at hg
  rw [if_neg (by omega),if_pos h4] at hg
  simp at hg
  obtain ⟨o1,o2⟩:=offO_lt (s:=s) hf.2 hf.1 h1 h3
  obtain ⟨l1,l2⟩:=pMk_lt (gen:=((cs k).bs i).gen) (kind:=((cs k).bs i).kind) o1 hin.g (by omega)
  refine ⟨((cs k).bs i).kind,k,i,⟨h1,h2,h3,pMk_off o2 o1⟩,?_,pMk_kind o1 hin.g (by omega),pMk_ne (by omega),l1,l2⟩
  rw [pMk_gen o1 hin.g]
  cases hb:(cs k).bs i
  rw [hb] at h4
  cases h4
  rfl
 ·rintro ⟨kind,k,i,hl⟩
  refine ⟨k,i,hl.at_.1,hl.at_.2.1,hl.at_.2.2.1,by rw [hl.bk],?_⟩
  rw [hl.bk]
  have h1:=pMk_parts hl.top
  rw [hl.at_.2.2.2,hl.kind_] at h1
  exact h1
theorem lvK_nodup (h:DS a L T s n K x cs f N m b0 S cur w):((lvK s cs K).map pOff).Nodup:=by
 have hf:=h.few
 have hoff:∀ k,k < K→(cs k).dv=true→∀ i,i < perC (cs k).cl→((cs k).bs i).st=177→pOff (pMk (64 * (s+32 * k)+8 * offB (cs k).cl i+8) ((cs k).bs i).gen ((cs k).bs i).kind)=offO s cs k i:=fun k hk hd i hi hs=>by
  obtain ⟨o1,o2⟩:=offO_lt (s:=s) (cs:=cs) hf.2 hf.1 hk hi
  exact pMk_off o2 o1
 have hI:∀ k,k < K→(cs k).dv=true→∀ j,j≤perC (cs k).cl→((lvI s k (cs k) j).map pOff).Nodup:=fun k hk hd j=>by
  induction j with
  | zero=>intro _;simp [lvI]
  | succ j ih =>
   intro hj
   rw [lvI_succ,List.map_append,List.nodup_append]
   refine ⟨ih (by omega),?_,?_⟩
   ·unfold lvB;split <;> simp
   ·intro u hu v hv e
    subst e
    obtain ⟨q,hq,rfl⟩:=List.mem_map.1 hu
    obtain ⟨i,h1,h2,h3⟩:=(mem_lvI _).1 hq
    obtain ⟨p,hp,hpe⟩:=List.mem_map.1 hv
    unfold lvB at hp
    split at hp
    ·simp at hp
     subst hp
     rw [h3,hoff k hk hd i (by omega) h2,hoff k hk hd j (by omega) (by assumption)] at hpe
     have:=offO_inj (s:=s) (cs:=cs) (k:=k) (k':=k) (by omega) (by omega) hpe
     omega
    ·simp at hp
 have hK:∀ j,j≤K→((lvK s cs j).map pOff).Nodup:=fun j=>by
  induction j with
  | zero=>intro _;simp [lvK]
  | succ j ih =>
   intro hj
   rw [lvK_succ,List.map_append,List.nodup_append]
   refine ⟨ih (by omega),?_,?_⟩
   ·unfold lvC
    split
    ·exact hI j (by omega) (by assumption) _ (Nat.le_refl _)
    ·simp
   ·intro u hu v hv e
    subst e
    obtain ⟨q,hq,rfl⟩:=List.mem_map.1 hu
    obtain ⟨k,i,h1,h2,h3,h4,rfl⟩:=(mem_lvK _).1 hq
    obtain ⟨p,hp,hpe⟩:=List.mem_map.1 hv
    unfold lvC at hp
    split at hp
    ·obtain ⟨i',g1,g2,rfl⟩:=(mem_lvI _).1 hp
     rw [hoff j (by omega) (by assumption) i' g1 g2] at hpe
     obtain ⟨o1,o2⟩:=offO_lt (s:=s) (cs:=cs) hf.2 hf.1 (show k < K by omega) h3
     rw [pMk_off o2 o1] at hpe
     have:=offO_inj (s:=s) (cs:=cs) g1 h3 hpe
     omega
    ·simp at hp
 exact hK K (Nat.le_refl _)
theorem nodup_of_off {l:List Nat} (h:(l.map pOff).Nodup):l.Nodup:=by
 rw [List.nodup_iff_pairwise_ne] at h ⊢
 rw [List.pairwise_map] at h
 exact h.imp (fun hne e=>hne (congrArg pOff e))
theorem perm_of_mem {l l':List Nat} (h:l.Nodup) (h':l'.Nodup) (e:∀ q,q∈l↔q∈l'):l.Perm l':=by
 rw [List.perm_iff_count]
 intro q
 rw [h.count,h'.count]
 simp [e q]
end
end
section
open Go.RowKit Go.Maps
theorem cnt5 (l:List Nat):l.count 0+l.count 1+l.count 2+l.count 3+l.count 4≤l.length:=by
 induction l with
 | nil=>simp
 | cons a t ih =>
  simp only [List.count_cons,List.length_cons]
  have h:∀ k:Nat,(if (a == k)=true then 1 else 0)=if a=k then 1 else 0:=fun k=>by
   by_cases e:a=k
   ·rw [if_pos (beq_iff_eq.2 e),if_pos e]
   ·rw [if_neg (fun h=>e (beq_iff_eq.1 h)),if_neg e]
  simp only [h]
  split <;> split <;> split <;> split <;> split <;> omega
theorem need_leq (a c:Nat):4 * need a c≤a+3:=by
 unfold need
 split
 ·omega
 ·have h:=(per_le c).1
  have h2:(a - 1) / perC c≤(a - 1) / 4:=Nat.div_le_div_left h (by omega)
  omega
theorem room_leq (al:List Nat):4 * room al≤al.length+15:=by
 have h:=cnt5 al
 have h0:=need_leq (al.count 0) 0
 have h1:=need_leq (al.count 1) 1
 have h2:=need_leq (al.count 2) 2
 have h3:=need_leq (al.count 3) 3
 have h4:=need_leq (al.count 4) 4
 unfold room
 omega
theorem alW_leng (n:Nat) (al:List Nat):∀ j,(alW n al j).length=al.length+j
 | 0=>rfl
 | j+1=>by
  show (alW n al j).length+1=_
  rw [alW_leng n al j]
  omega
def BlE (cs:Nat→CS) (cur:Nat→Nat) (i:Nat) (p:List Nat) (q:Nat) (bl:List Nat):Prop :=
 (2000 < p.length∧q=0∧bl=[])∨(p.length≤2000∧q=bl.headD 0∧bl.length=nBlk p.length∧(∀ j (hj:j < bl.length),BkA 12 cs cur bl[j] (bl.getD (j+1) 0) (p.drop (456 * j)))∧cur (416+i)=q)
theorem BkA.keepL {K:Nat} {cs cs':Nat→CS} {cur cur':Nat→Nat} {bl p:List Nat} {q nx:Nat} (h:BkA K cs cur q nx p) (hk:KeepL K cs cur bl cs' cur'):BkA K cs' cur' q nx p:=by
 obtain ⟨k,i,h1,h2⟩:=h.live
 obtain ⟨g1,g2,_,g4⟩:=hk q 1 k i h1
 refine ⟨⟨k,i,g1,by rw [g2];exact h2⟩,fun j hj=>?_⟩
 have h3:=h.words j hj
 rw [payL_len] at hj
 rw [g4 j (by omega)]
 exact h3
structure BZ where
 T:Nat
 N:Nat
 S:Fp
 cs:Nat→CS
 f:Nat→Option Nat
 cur:Nat→Nat
 al:List Nat
 ptrs:List Nat
 bls:List (List Nat)
structure BlJ (w0:World) (B:Nat) (a:DA) (x:HA) (y:WA) (b0:Nat) (l:List BL) (k:Nat) (z:BZ) (P6 P7:Value) (p6 p7:List Nat) (w:World):Prop where
 bw:BW a 437 z.T 12 x y z.cs z.f z.N 0 b0 z.S z.cur w
 tm:z.T≤1000+4000 * k
 nm:z.N≤20 * k
 cap:Cap 53 12 z.cs z.f z.al
 few:z.al.length≤5 * k
 ptl:z.ptrs.length=k
 bll:z.bls.length=k
 el:∀ i p q bl,i < k→(l.map BL.l)[i]?=some p→z.ptrs[i]?=some q→z.bls[i]?=some bl→BlE z.cs z.cur i p q bl
 ali:∀ q,Alive 53 12 z.cs q↔q∈z.bls.flatten
 nd:(z.bls.flatten.map pOff).Nodup
 r6:w.ownsRow B 54 1 P6 p6.length (uCells p6)
 r7:w.ownsRow B 54 1 P7 p7.length (uCells p7)
 o6:∀ g,P6.ownBlock=some g→¬ sfp z.S x g
 o7:∀ g,P7.ownBlock=some g→¬ sfp z.S x g
 ne:∀ g,P6.ownBlock=some g→P7.ownBlock≠some g
 ord:LoS x y.d y.r b0 B∧y.g < B∧y.u < B∧y.m < B
 hold:∀ g,sfp z.S x g→w0.heap.size≤g
 hB:w0.heap.size≤B∧B≤w.heap.size
 below:Below w0.heap.size w0 w
theorem chg_grown {w w':World} {row:Option Nat} (h:w.grownBy w' row):Chg (fun j=>some j=row) w w':=⟨h.os,h.tape,h.output,h.size,fun k hk hn=>h.block k hk hn⟩
theorem own_in {w:World} {base:Nat} {e:TypeId} {size:Nat} {v:Value} {n:Nat} {xs:List Value} (h:w.ownsRow base e size v n xs) {g:Nat} (hg:v.ownBlock=some g):base≤g∧g < w.heap.size:=by
 rcases h.2 with ⟨rfl,_⟩ | ⟨b,cap,cur,rfl,hb,hgb,_⟩
 ·simp [Value.ownBlock] at hg
 ·have e:b=g:=by simpa [Value.ownBlock] using hg
  subst e
  exact ⟨hb,(Array.getElem?_eq_some_iff.1 hgb).1⟩
theorem own_chg {w w':World} {Z:Fp} {base:Nat} {e:TypeId} {size:Nat} {v:Value} {n:Nat} {xs:List Value} (h:w.ownsRow base e size v n xs) (hc:Chg Z w w') (hn:∀ g,v.ownBlock=some g→¬ Z g):w'.ownsRow base e size v n xs:=by
 refine ⟨h.1,?_⟩
 rcases h.2 with h0 | ⟨b,cap,cur,rfl,hb,hgb,h3⟩
 ·exact .inl h0
 ·exact .inr ⟨b,cap,cur,rfl,hb,(hc.block b (Array.getElem?_eq_some_iff.1 hgb).1 (hn b rfl)).trans hgb,h3⟩
section
variable {w0 w w':World} {B b0:Nat} {a:DA} {x:HA} {y:WA} {l:List BL} {k:Nat} {z:BZ} {P6 P7:Value} {p6 p7:List Nat}
theorem BW.chg {L T K N m:Nat} {cs:Nat→CS} {f:Nat→Option Nat} {S Z:Fp} {cur:Nat→Nat} (h:BW a L T K x y cs f N m b0 S cur w) (ho:LoS x y.d y.r b0 B∧y.g < B∧y.u < B∧y.m < B) (hc:Chg Z w w') (hZ:∀ k,Z k→¬ S k∧B≤k):BW a L T K x y cs f N m b0 S cur w':=by
 have hn:∀ g,g < B→¬ Z g:=fun g hg hz=>by have:=(hZ g hz).2;omega
 exact { h with sd:=h.sd.chg ho.1 hc hZ,blk:=hc.blk h.blk (hn _ ho.2.1),und:=hc.blk h.und (hn _ ho.2.2.1),mgr:=hc.blk h.mgr (hn _ ho.2.2.2) }
theorem BlJ.below_ (h:BlJ w0 B a x y b0 l k z P6 P7 p6 p7 w) (hb:Below w.heap.size w w'):BlJ w0 B a x y b0 l k z P6 P7 p6 p7 w' :=
 { h with bw:=h.bw.below hb,r6:=own_chg h.r6 (Chg.of_below (S:=Fp.no) hb) (fun _ _ e=>e),r7:=own_chg h.r7 (Chg.of_below (S:=Fp.no) hb) (fun _ _ e=>e),hB:=⟨h.hB.1,Nat.le_trans h.hB.2 hb.size⟩,below:=h.below.trans (hb.mono h.below.size) }
theorem BlJ.long (h:BlJ w0 B a x y b0 l k z P6 P7 p6 p7 w) {e:BL} (he:l[k]?=some e) (hl:2000 < e.l.length):BlJ w0 B a x y b0 l (k+1) { z with ptrs:=z.ptrs++[0],bls:=z.bls++[[]] } P6 P7 p6 p7 w:=by
 have hf:(z.bls++[[]]).flatten=z.bls.flatten:=by simp
 refine { h with tm:=by have:=h.tm;show z.T≤_;omega,nm:=by have:=h.nm;show z.N≤_;omega,few:=by have:=h.few;show z.al.length≤_;omega,ptl:=by simp [h.ptl],bll:=by simp [h.bll],el:=?_,ali:=fun q=>by rw [hf];exact h.ali q,nd:=by rw [hf];exact h.nd }
 intro i p q bl hi h1 h2 h3
 by_cases hik:i < k
 ·exact h.el i p q bl hik h1 (by rwa [List.getElem?_append_left (by rw [h.ptl];exact hik)] at h2) (by rwa [List.getElem?_append_left (by rw [h.bll];exact hik)] at h3)
 ·obtain rfl:i=k:=by omega
  rw [List.getElem?_append_right (by rw [h.ptl];omega),h.ptl] at h2
  rw [List.getElem?_append_right (by rw [h.bll];omega),h.bll] at h3
  simp at h2 h3
  rw [List.getElem?_map,he] at h1
  simp at h1
  subst h1 h2 h3
  exact .inl ⟨hl,rfl,rfl⟩
theorem BlJ.put (h:BlJ w0 B a x y b0 l k z P6 P7 p6 p7 w) {e:BL} (he:l[k]?=some e) (hl:e.l.length≤2000) (hk5:k < 5) {q m' c':Nat} {A':Option Addr} (hp:PutK a 437 z.T 12 x y z.cs z.f z.N 0 b0 z.S z.cur w z.al e.l k q A' m' c' w') :
  ∃ z' bl,q=bl.headD 0∧m'=bl.length∧bl.length=nBlk e.l.length∧Reads w' w'.heap.size 1 A' m' (uCells bl)∧m'≤c'∧z'.ptrs=z.ptrs++[q]∧z'.bls=z.bls++[bl]∧BlJ w0 B a x y b0 l (k+1) z' P6 P7 p6 p7 w'∧(∀ ad,A'=some ad→w.heap.size≤ad.block∧¬ sfp z'.S x ad.block)∧Chg (sfp z.S x) w w':=by
 obtain ⟨bl,cs',f',S',cur',h1,h2,h3,h4,h5,h6,h7,h8,h9,h10,h11,h12⟩:=hp
 have hnew:∀ i,i < w.heap.size→sfp S' x i→sfp z.S x i:=fun i hi hz=>by
  rcases hz with hz | hz
  ·rcases h8 i hz with h | h
   ·exact .inl h
   ·omega
  ·exact .inr hz
 have hbk:∀ j (hj:j < bl.length),BkA 12 cs' cur' bl[j] (bl.getD (j+1) 0) (e.l.drop (456 * j)):=fun j hj=>h5.bk j hj
 have hal:∀ r∈bl,Alive 53 12 cs' r:=fun r hr=>by
  obtain ⟨j,hj,er⟩:=List.getElem_of_mem hr
  obtain ⟨k2,i2,hl2,_⟩:=h5.live j hj
  exact ⟨1,k2,i2,er ▸ hl2⟩
 refine ⟨⟨z.T+4000,z.N+20,S',cs',f',cur',alW e.l.length z.al (nBlk e.l.length),z.ptrs++[q],z.bls++[bl]⟩,bl,h1,h2,h5.len,h3,h9,rfl,rfl,?_,fun ad had=>h4 ad had,h7⟩
 have hs:=h7.size
 refine ⟨h6,by have:=h.tm;show z.T+4000≤_;omega,by have:=h.nm;show z.N+20≤_;omega,h5.cap,?_,by simp [h.ptl],by simp [h.bll],?_,?_,?_,own_chg h.r6 h7 h.o6,own_chg h.r7 h7 h.o7,fun g hg hz=>?_,fun g hg hz=>?_,h.ne,h.ord,fun g hz=>?_,⟨h.hB.1,Nat.le_trans h.hB.2 hs⟩,h.below.trans (h7.toBelow h.below.size h.hold)⟩
 ·show (alW e.l.length z.al (nBlk e.l.length)).length≤_
  rw [alW_leng]
  have:=nBlk_few _ hl
  have:=h.few
  omega
 ·intro i p q2 bl2 hi g1 g2 g3
  by_cases hik:i < k
  ·have g2':z.ptrs[i]?=some q2:=by
    have:(z.ptrs++[q])[i]?=some q2:=g2
    rwa [List.getElem?_append_left (by rw [h.ptl];exact hik)] at this
   have g3':z.bls[i]?=some bl2:=by
    have:(z.bls++[bl])[i]?=some bl2:=g3
    rwa [List.getElem?_append_left (by rw [h.bll];exact hik)] at this
   rcases h.el i p q2 bl2 hik g1 g2' g3' with hh | ⟨e1,e2,e3,e4,e5⟩
   ·exact .inl hh
   ·refine .inr ⟨e1,e2,e3,fun j hj=>(e4 j hj).keepL h10,?_⟩
    show cur' (416+i)=q2
    rw [h12 i (by omega),if_neg (by omega)]
    exact e5
  ·obtain rfl:i=k:=by omega
   have g2':(z.ptrs++[q])[i]?=some q2:=g2
   have g3':(z.bls++[bl])[i]?=some bl2:=g3
   rw [List.getElem?_append_right (by rw [h.ptl];omega),h.ptl] at g2'
   rw [List.getElem?_append_right (by rw [h.bll];omega),h.bll] at g3'
   simp at g2' g3'
   rw [List.getElem?_map,he] at g1
   simp at g1
   subst g1 g2' g3'
   refine .inr ⟨hl,h1,h5.len,hbk,?_⟩
   show cur' (416+i)=q
   rw [h12 i (by omega),if_pos rfl,h1]
 ·intro q2
  show Alive 53 12 cs' q2↔q2∈(z.bls++[bl]).flatten
  rw [List.flatten_append,List.mem_append]
  constructor
  ·intro hq
   rcases h11 q2 hq with hq | hq
   ·exact .inr (by simpa using hq)
   ·exact .inl ((h.ali q2).1 hq)
  ·rintro (hq | hq)
   ·obtain ⟨kd,k2,i2,hl2⟩:=(h.ali q2).2 hq
    exact ⟨kd,k2,i2,(h10 q2 kd k2 i2 hl2).1⟩
   ·exact hal q2 (by simpa using hq)
 ·show ((z.bls++[bl]).flatten.map pOff).Nodup
  rw [List.flatten_append,List.map_append,List.nodup_append]
  refine ⟨h.nd,by simpa using h5.nd,fun u hu v hv euv=>?_⟩
  subst euv
  obtain ⟨q2,hq2,rfl⟩:=List.mem_map.1 hu
  obtain ⟨kd,k2,i2,hl2⟩:=(h.ali q2).2 hq2
  exact (h10 q2 kd k2 i2 hl2).2.2.1 (by simpa using hv)
 ·exact h.o6 g hg (hnew g (own_in h.r6 hg).2 hz)
 ·exact h.o7 g hg (hnew g (own_in h.r7 hg).2 hz)
 ·by_cases hg:g < w.heap.size
  ·exact h.hold g (hnew g hg hz)
  ·have:=h.below.size
   omega
theorem BlJ.row6 (h:BlJ w0 B a x y b0 l k z P6 P7 p6 p7 w) (hc:Chg (fun j=>some j=P6.ownBlock) w w') {P6':Value} {p6':List Nat} (ho:w'.ownsRow B 54 1 P6' p6'.length (uCells p6')) (hw:P6'.ownBlock=P6.ownBlock∨∀ g,P6'.ownBlock=some g→w.heap.size≤g):BlJ w0 B a x y b0 l k z P6' P7 p6' p7 w':=by
 have hB:=h.hB
 have hz:∀ j,some j=P6.ownBlock→¬ z.S j∧B≤j:=fun j hj=>⟨fun e=>h.o6 j hj.symm (.inl e),(own_in h.r6 hj.symm).1⟩
 refine { h with bw:=h.bw.chg h.ord hc hz,r6:=ho,r7:=own_chg h.r7 hc (fun g hg e=>h.ne g e.symm hg),o6:=fun g hg=>?_,ne:=fun g hg=>?_,hB:=⟨hB.1,Nat.le_trans hB.2 hc.size⟩,below:=h.below.trans (hc.toBelow h.below.size (fun j hj=>by have:=(hz j hj).2;omega)) }
 ·rcases hw with e | e
  ·exact h.o6 g (e ▸ hg)
  ·intro hz2
   have:=sfp_lt h.bw.sd hz2
   have:=e g hg
   omega
 ·rcases hw with e | e
  ·exact h.ne g (e ▸ hg)
  ·intro h7
   have:=(own_in h.r7 h7).2
   have:=e g hg
   omega
theorem BlJ.row7 (h:BlJ w0 B a x y b0 l k z P6 P7 p6 p7 w) (hc:Chg (fun j=>some j=P7.ownBlock) w w') {P7':Value} {p7':List Nat} (ho:w'.ownsRow B 54 1 P7' p7'.length (uCells p7')) (hw:P7'.ownBlock=P7.ownBlock∨∀ g,P7'.ownBlock=some g→w.heap.size≤g):BlJ w0 B a x y b0 l k z P6 P7' p6 p7' w':=by
 have hB:=h.hB
 have hz:∀ j,some j=P7.ownBlock→¬ z.S j∧B≤j:=fun j hj=>⟨fun e=>h.o7 j hj.symm (.inl e),(own_in h.r7 hj.symm).1⟩
 refine { h with bw:=h.bw.chg h.ord hc hz,r7:=ho,r6:=own_chg h.r6 hc (fun g hg e=>h.ne g hg e.symm),o7:=fun g hg=>?_,ne:=fun g hg=>?_,hB:=⟨hB.1,Nat.le_trans hB.2 hc.size⟩,below:=h.below.trans (hc.toBelow h.below.size (fun j hj=>by have:=(hz j hj).2;omega)) }
 ·rcases hw with e | e
  ·exact h.o7 g (e ▸ hg)
  ·intro hz2
   have:=sfp_lt h.bw.sd hz2
   have:=e g hg
   omega
 ·rcases hw with e | e
  ·rw [e];exact h.ne g hg
  ·intro h7
   have:=(own_in h.r6 hg).2
   have:=e g h7
   omega
end
end
section
open Go.RowKit Go.Maps
structure BlQ (wq:World) (g d:Nat) (l:List BL) (k:Nat) (ptrs:List Nat):Prop where
 g3:∀ W,Below wq.heap.size wq W→W.cell? ⟨g,3,none⟩=some (.pointer (some ⟨d,0,none⟩))
 rd:∀ i p q,i < k→(l.map BL.l)[i]?=some p→ptrs[i]?=some q→q≠0→∀ W,Below wq.heap.size wq W→Calls Tryz.prog 30 #[.iface 59 (.pointer (some ⟨d,0,none⟩)), .int .u64 (q:Int)] W fun e w'=>∃ A m c,e = .returned (.tuple #[.slice A m c, .int .i64 0])∧Hid (m=p.length∧Reads w' w'.heap.size 1 A m (u8s p)∧Below W.heap.size W w')
 bl:∀ i p q,i < k→(l.map BL.l)[i]?=some p→ptrs[i]?=some q→q≠0→∀ W,Below wq.heap.size wq W→Calls Tryz.prog 31 #[.iface 59 (.pointer (some ⟨d,0,none⟩)), .int .u64 (q:Int)] W fun e w'=>∃ gb go m c,e = .returned (.tuple #[.slice (some ⟨gb,go,none⟩) m c, .int .i64 0])∧Hid (m=nBlk p.length∧0 < m∧(∀ V,Below w'.heap.size w' V→V.cell? ⟨gb,go,none⟩=some (.int .u64 (q:Int)))∧Below W.heap.size W w')
 ck:∀ i p q,i < k→(l.map BL.l)[i]?=some p→ptrs[i]?=some q→q≠0→∀ W,Below wq.heap.size wq W→Calls Tryz.prog 34 #[.iface 59 (.pointer (some ⟨d,0,none⟩)), .int .u64 (q:Int)] W fun e w'=>e = .returned (.int .i64 0)∧Below W.heap.size W w'
 lk:∀ i p q,i < k→(l.map BL.l)[i]?=some p→ptrs[i]?=some q→q≠0→∀ W,Below wq.heap.size wq W→Calls Tryz.prog 33 #[.pointer (some ⟨g,0,none⟩), .int .i64 (i:Int)] W fun e w'=>e = .returned (.int .u64 (q:Int))∧Below W.heap.size W w'
 sh:∀ i p q,i < k→(l.map BL.l)[i]?=some p→ptrs[i]?=some q→q≠0→p.length≤2000
theorem blQ_of {a:DA} {L T N m b0:Nat} {x:HA} {y:WA} {cs:Nat→CS} {f:Nat→Option Nat} {S:Fp} {cur:Nat→Nat} {wq:World} {l:List BL} {k:Nat} {ptrs:List Nat} {bls:List (List Nat)} (h:BW a L T 12 x y cs f N m b0 S cur wq) (hk:k≤5)
  (hel:∀ (i:Nat) (p:List Nat) (q:Nat) (bl:List Nat),i < k→(l.map BL.l)[i]?=some p→ptrs[i]?=some q→bls[i]?=some bl→BlE cs cur i p q bl) (hbl:bls.length=k) (hby:∀ (i:Nat) (p:List Nat),(l.map BL.l)[i]?=some p→∀ b∈p,b < 256):BlQ wq y.g y.d l k ptrs:=by
 have key:∀ i p q,i < k→(l.map BL.l)[i]?=some p→ptrs[i]?=some q→q≠0→∃ bl,p.length≤2000∧q=bl.headD 0∧bl.length=nBlk p.length∧cur (416+i)=q∧q < 18446744073709551616∧walkR L cur (fun q=>chkR 53 12 cs q 1) q=(0,bl,p):=by
  intro i p q hi hp hq h0
  obtain ⟨bl,hb⟩:∃ bl,bls[i]?=some bl:=⟨_,List.getElem?_eq_getElem (by omega)⟩
  rcases hel i p q bl hi hp hq hb with ⟨_,e,_⟩ | ⟨e1,e2,e3,e4,e5⟩
  ·exact absurd e h0
  ·have hpos:0 < bl.length:=by rw [e3];exact nBlk_drop p
   have hc:=chain_bk h.sd.ds e3 e1 e4
   have hw:=chain_walk hc (hby i p hp) e1
   rw [← e2] at hw
   have e6:q=bl[0]:=by
    rw [e2]
    cases bl with
    | nil=>simp at hpos
    | cons a t=>rfl
   obtain ⟨k2,i2,hl,_⟩:=(e4 0 hpos).live
   exact ⟨bl,e1,e2,e3,e5,e6 ▸ hl.lt,hw⟩
 refine ⟨fun W hW=>(h.below hW).blk.cell 3,fun i p q hi hp hq h0 W hW=>?_,fun i p q hi hp hq h0 W hW=>?_,fun i p q hi hp hq h0 W hW=>?_,fun i p q hi hp hq h0 W hW=>?_,fun i p q hi hp hq h0=>?_⟩
 ·obtain ⟨bl,e1,e2,e3,e4,e5,e6⟩:=key i p q hi hp hq h0
  have h1:=bread_any (h.below hW).sd q e5
  rw [e6] at h1
  refine h1.mono (fun e w' hr=>?_)
  unfold RetRd at hr
  rw [if_pos rfl] at hr
  obtain ⟨A,m,c,h2,h3,h4,_,_,h5⟩:=hr
  exact ⟨A,m,c,h2,hid ⟨h3,h4,h5⟩⟩
 ·obtain ⟨bl,e1,e2,e3,e4,e5,e6⟩:=key i p q hi hp hq h0
  have h1:=bblocks_any (h.below hW).sd q e5
  rw [e6] at h1
  refine h1.mono (fun e w' hr=>?_)
  unfold RetBl at hr
  rw [if_pos rfl] at hr
  obtain ⟨A,m,c,h2,h3,h4,_,h5⟩:=hr
  have hpos:0 < bl.length:=by rw [e3];exact nBlk_drop p
  have hm:m=bl.length:=h3
  obtain ⟨hx,gb,go,hA,hb,f0⟩:=u_facts h4 (k:=0) (by omega)
  subst hA
  rw [Nat.add_zero] at f0
  have e7:bl[0]=q:=by
   rw [e2]
   cases bl with
   | nil=>simp at hpos
   | cons a t=>rfl
  refine ⟨gb,go,m,c,h2,hid ⟨hm.trans e3,by omega,fun V hV=>?_,h5⟩⟩
  rw [← e7]
  exact (hV.cell (p:=⟨gb,go,none⟩) hb).trans f0
 ·obtain ⟨bl,e1,e2,e3,e4,e5,e6⟩:=key i p q hi hp hq h0
  exact bcheck_any (h.below hW).sd q e5 (e0:=0) (by rw [e6])
 ·obtain ⟨bl,e1,e2,e3,e4,e5,e6⟩:=key i p q hi hp hq h0
  refine (linked_any (h.below hW) i (by omega)).mono (fun e w' hr=>?_)
  obtain ⟨h1,rfl⟩:=hr
  exact ⟨by rw [h1,e4],(Below.refl _ _).drew⟩
 ·obtain ⟨bl,e1,_⟩:=key i p q hi hp hq h0
  exact e1
end
end Go.Proofs.YtfkjjoglnmeciaaGreatDoor
