/- The walks and laws that the claim leans on, part 33. -/
import Derived.Test.YtfkjjoglnmeciaaGreatDoorQbe
import Derived.Test.YtfkjjoglnmeciaaGreatDoorQbf
set_option maxRecDepth 100000
set_option maxHeartbeats 16000000
namespace Go.Proofs.YtfkjjoglnmeciaaGreatDoor
open Go.Lib (hid)
section
open Go.RowKit Go.Maps
section
variable {a:DA} {L T s n K:Nat} {x:HA} {cs:Nat→CS} {f:Nat→Option Nat} {N m b0:Nat} {S:Fp} {cur:Nat→Nat} {w w':World} {k:Nat}
theorem DS.rel (h:DS a L T s n K x cs f N m b0 S cur w) {o p:Nat} (hf:f o=some p) (ho:o < 18446744073709551616) (hk:k < K) (hN:N < maxLen) :
  ∃ (w1 w2 w3:World) (c c2:Int),
   (Builtin.delete_ #[190,32] 0 #[.map (some x.mr), .int .u64 (o:Int)]).run Tryz.prog w.drew = .ok (.tuple #[]) w1 ∧
   (Instr.lookup 191 (.map (some x.mh)) (.int .i64 ((s+32 * k:Nat):Int)) false).run Tryz.prog w1 = .ok (.int .i64 c) w1 ∧
   (Instr.mapUpdate 191 (.map (some x.mh)) (.int .i64 ((s+32 * k:Nat):Int)) (.int .i64 (wrap64 (c - 1)))).run Tryz.prog w1 = .ok () w2 ∧
   (Instr.lookup 191 (.map (some x.mh)) (.int .i64 ((s+32 * k:Nat):Int)) false).run Tryz.prog w2 = .ok (.int .i64 c2) w2 ∧
   (Builtin.delete_ #[191,3] 0 #[.map (some x.mh), .int .i64 ((s+32 * k:Nat):Int)]).run Tryz.prog w2 = .ok (.tuple #[]) w3 ∧
   Blk w1 x.h 194 (heapCells a s n x.gs x.mr x.mh false)∧Blk w2 x.h 194 (heapCells a s n x.gs x.mr x.mh false)∧Blk w3 x.h 194 (heapCells a s n x.gs x.mr x.mh false)∧Plc a s K x.p cs w3 ∧
   (DS a L T s n K x cs (updF f o none) (N+1) (m - 1) b0 S cur w2∧Chg x.fp w w2) ∧
   ∀ w4,Plc a s K x.p cs w4→Chg (fun j=>j=x.pl) w3 w4→DS a L T s n K x cs (updF f o none) (N+1) (m - 1) b0 S cur w4∧Chg x.fp w w4:=by
 obtain ⟨n1,n2,n3,n4,n5,n6,n7,n8⟩:=h.hs.pl_ne;have hfew:=h.few;have hd:Chg Fp.no w w.drew:=(Chg.refl _ _).drew;have hs:=h.hs.chg hd (fun h=>h) (fun h=>h) (fun h=>h) (fun h=>h) (fun h=>h);obtain ⟨w1,r1,p1,g1⟩:=hs.res.del ho hf;have c1:Chg (fun j=>j=x.mr) w.drew w1:=grown_chg g1 rfl;have hm1:=hs.held.chg c1 (fun e=>hs.ne e.symm);obtain ⟨c,r2,hwc⟩:=hm1.look (x:=s+32 * k) oM;obtain ⟨w2,r3,p2,g2⟩:=hm1.put hN (x:=s+32 * k) oM (wrap64_wf (c - 1));have c2:Chg (fun j=>j=x.mh) w1 w2:=grown_chg g2 rfl;obtain ⟨cc,r4,hwc2⟩:=p2.look (x:=s+32 * k) oM;obtain ⟨w3,r5,p3,g3⟩:=p2.del (x:=s+32 * k) oM;have c3:Chg (fun j=>j=x.mh) w2 w3:=grown_chg g3 rfl;have b1:=c1.blk hs.heap n5;have b2:=c2.blk b1 n6;have b3:=c3.blk b2 n6;have l2:=(hs.plc.chg c1 n3 n1).chg c2 n4 n2;have l3:=l2.chg c3 n4 n2;have f2:Chg x.fp w w2:=(((Chg.refl x.fp w).drew).trans (S':=fun j=>j=x.mr) c1 (fun j hj => .inl (.inr (.inl hj)))).trans (S':=fun j=>j=x.mh) c2 (fun j hj => .inl (.inr (.inr hj)));have hres:∀ o' p',updF f o none o'=some p'→ResLoc s K cs o' p':=fun o' p' hop=>by
  unfold updF at hop;split at hop
  ·cases hop
  ·exact h.res o' p' hop
 have q2:=(p1.mono (Nat.le_succ N)).chg c2 h.hs.ne;refine ⟨w1,w2,w3,c,cc,r1,r2,r3,r4,r5,b1,b2,b3,l3,⟨h.own_ ⟨b2,l2,q2,p2,h.hs.ne⟩ f2 h.ok hres,f2⟩,fun w4 l4 c4=>?_⟩;have f4:Chg x.fp w w4:=(f2.trans (S':=fun j=>j=x.mh) c3 (fun j hj => .inl (.inr (.inr hj)))).trans (S':=fun j=>j=x.pl) c4 (fun j hj => .inl (.inl hj));exact ⟨h.own_ ⟨c4.blk b3 n8,l4,(q2.chg c3 h.hs.ne).chg c4 (fun e=>n1 e.symm),p3.chg c4 (fun e=>n2 e.symm),h.hs.ne⟩ f4 h.ok hres,f4⟩
end
def RetRel (a:DA) (L T s n K:Nat) (x:HA) (cs:Nat→CS) (f:Nat→Option Nat) (N m b0:Nat) (S:Fp) (cur:Nat→Nat) (w:World) (v:Value) (e:Ending) (w':World):Prop:=e = .returned v∧DS a L T s n K x cs f N m b0 S cur w'∧Chg x.fp w w'
section
variable {a:DA} {L T s n K:Nat} {x:HA} {cs:Nat→CS} {f:Nat→Option Nat} {N m b0:Nat} {S:Fp} {cur:Nat→Nat} {w w':World}
theorem release_any (h:DS a L T s n K x cs f N m b0 S cur w) (p:Nat) (hf:f (pOff p)=some p) (hN:N < 1000000000) :
  Calls Tryz.prog 245 #[.pointer (some ⟨x.h,0,none⟩), .int .u64 (p:Int)] w (RetRel a L T s n K x cs (updF f (pOff p) none) (N+1) (m - 1) b0 S cur w (.tuple #[])):=by
 obtain ⟨k,i,hk,hd,hi,hoo,_⟩:=h.res _ _ hf;have hho:homeOf s K (pOff p)=some k:=by rw [hoo];exact homeOf_blk hk hi
 have ho64:pOff p < 18446744073709551616:=by unfold pOff;omega
 obtain ⟨w1,w2,w3,c,c2,r1,r2,r3,r4,r5,b1,b2,b3,l3,hA,hB⟩:=h.rel hf ho64 hk (by unfold maxLen;omega);have hfew:=h.few;have HOf:=hid (off_any p);have hn4:n≤4096:=by have:=h.hK;have:=h.hL;omega
 have HHm:=hid (home_any b1 hfew.2 hn4 h.hK.1 (pOff p) ho64);have HHo:=hid (holdP_any l3 hfew.1 oM hk hd false);have HDA:=hid hA;have HDB:=hid hB;have HHO:=hid hho;have y0:w.cell? ⟨x.h,4,none⟩=some (.map (some x.mr)):=h.hs.heap.cell 4;have y1:w1.cell? ⟨x.h,5,none⟩=some (.map (some x.mh)):=b1.cell 5;have y2:w2.cell? ⟨x.h,5,none⟩=some (.map (some x.mh)):=b2.cell 5;have y3:w3.cell? ⟨x.h,3,none⟩=some (.pointer (some ⟨x.gs,0,none⟩)):=b3.cell 3;clear h hoo hf hA hB hho b1 b2 b3 l3 hd hi;unfold HA.p RetHold at HHo;dsimp only at HHo;unfold RetRel;generalize pOff p=o at *;obtain ⟨v,hv⟩:∃ v:Int,((s+32 * k:Nat):Int)=v:=⟨_,rfl⟩
 rw [hv] at r2 r3 r4 r5 HHo;have HVV:=hid hv;clear hv;go_enter Tryz.func245,Tryz.ntmps245
 go_wp2_with fail
 go_region_with (go_at_call 135;refine (HOf.out _).mono ?_;rintro e wz ⟨rfl,rfl⟩)
 all_goals
  go_wp2_with (first
   | (go_at_call 135;refine (HOf.out _).mono ?_;rintro e wz ⟨rfl,rfl⟩)
   | (go_at_call 194;refine HHm.out.mono ?_;rintro e wz ⟨l1,bb,rfl,hP,rfl⟩;refine stop ?_))
  unfold Stop;have hlb:((l1:Nat):Int)=v∧bb=true:=by
   rcases hP with ⟨h1,_,_⟩ | ⟨k',h1,_,h3,h4⟩
   ·rw [HHO.out] at h1;cases h1
   ·rw [HHO.out] at h1
    injection h1 with h1
    subst h1;exact ⟨by rw [h3];exact HVV.out,h4⟩
  obtain ⟨hl1,rfl⟩:=hlb;rw [hl1];clear hP hl1 HHm HHO;by_cases hc2:c2≤0
  ·have e1:decide (c2≤0)=true:=decide_eq_true hc2
   clear hc2;go_wp2_with (go_at_call 320;refine HHo.out.mono ?_;rintro e w4 ⟨rfl,l4,c4⟩;have HE:=hid (HDB.out w4 l4 c4);clear l4 c4)
   go_end0;exact ⟨rfl,HE.out.1,HE.out.2⟩
  ·have e1:decide (c2≤0)=false:=decide_eq_false hc2
   go_wp2;go_end0;exact ⟨rfl,HDA.out.1,HDA.out.2⟩
end
end
section
open Go.RowKit Go.Maps
def chR:Value→Option (DataW Unit × List MemPlace)
 | .pointer (some ⟨g,0,none⟩)=>some (.lit (.int .i64 (g:Int)),[])
 | .pointer none=>some (.lit (.bool false),[])
 | _=>none
def chD:Option Nat→DataW Unit
 | some g => .lit (.int .i64 (g:Int))
 | none => .lit (.bool false)
def chV':Option Nat→Value
 | some g => .pointer (some ⟨g,0,none⟩)
 | none => .pointer none
theorem chR_mk (o:Option Nat):chR (chV' o)=some (chD o,[]):=by cases o <;> rfl
theorem chR_inv {v:Value} {o:Option Nat} {ps:List MemPlace} (h:chR v=some (chD o,ps)):v=chV' o:=by
 unfold chR at h;split at h
 ·rename_i g
  cases o with
  | none=>simp [chD] at h
  | some g' =>
         simp [chD] at h;obtain ⟨h1,_⟩:=h;have:g=g':=oM;subst this;rfl
 ·cases o with
  | none=>rfl
  | some g'=>simp [chD] at h
 ·cases h
def lineK (s k:Nat):Lit := .int .i64 ((s+32 * k:Nat):Int)
theorem lineK_key (s k:Nat):WideAt.IsKeyLit (lineK s k):=by simp [WideAt.IsKeyLit,lineK]
theorem lineK_ne {s k k':Nat} (h:k'≠k):lineK s k'≠lineK s k:=by
 intro e;unfold lineK at e;injection e with _ e
 omega
structure ChMD (D:DataW Unit) (s K:Nat) (cb:Nat→Option Nat):Prop where
 at_:∀ k,k < K→D.atKey (lineK s k) (.lit (.bool false))=chD (cb k)
 has:∀ x:Int,Maps.has D (.int .i64 x)=true↔∃ k,k < K∧x=((s+32 * k:Nat):Int)∧(cb k).isSome=true
def ChM (w:World) (mb N s K:Nat) (cb:Nat→Option Nat):Prop:=∃ D:DataW Unit,w.ownsMap Tryz.prog 3 chR mb N D∧ChMD D s K cb
def updO (cb:Nat→Option Nat) (k:Nat) (v:Option Nat):Nat→Option Nat:=fun j=>if j=k then v else cb j
section
variable {w w':World} {mb N s K:Nat} {cb:Nat→Option Nat} {k:Nat}
theorem ChM.look (h:ChM w mb N s K cb) (hk:k < K) (hs:s+32 * k < 9000000000):(Instr.lookup 335 (.map (some mb)) (.int .i64 ((s+32 * k:Nat):Int)) false).run Tryz.prog w = .ok (chV' (cb k)) w:=by
 obtain ⟨D,ho,hd⟩:=h;obtain ⟨v,ps,hrun,hv⟩:=ho.lookup keyedN Tryz.underlying335 (z := .pointer none) (by kernel_rfl) (show chR (.pointer none)=some (.lit (.bool false),[]) from rfl) (keyI hs);have he:=hd.at_ k hk;unfold lineK at he;rw [he] at hv;rw [hrun,chR_inv hv]
theorem ChM.put (h:ChM w mb N s K cb) (hN:N < maxLen) (hk:k < K) (hs:s+32 * k < 9000000000) (g:Nat) :
  ∃ w',(Instr.mapUpdate 335 (.map (some mb)) (.int .i64 ((s+32 * k:Nat):Int)) (.pointer (some ⟨g,0,none⟩))).run Tryz.prog w = .ok () w'∧ChM w' mb (N+1) s K (updO cb k (some g))∧w.grownBy w' (some mb):=by
 obtain ⟨D,ho,hd⟩:=h;obtain ⟨w',hrun,ho',hg⟩:=ho.update keyedN Tryz.underlying335 hN (keyI hs) (chR_mk (some g));refine ⟨w',hrun,⟨_,ho',fun j hj=>?_,fun y=>?_⟩,hg⟩
 ·unfold updO
  by_cases e:j=k
  ·subst e
   rw [if_pos rfl];exact atKey_put_same ho.isMap (lineK_key s j) _ _
  ·rw [if_neg e]
   exact (atKey_put_other (lineK_ne e) _ _).trans (hd.at_ j hj)
 ·by_cases e:y=((s+32 * k:Nat):Int)
  ·subst e
   have h1:=has_put_same ho.isMap (lineK_key s k) (chD (some g));unfold lineK at h1;rw [h1];exact ⟨fun _=>⟨k,hk,rfl,by simp [updO]⟩,fun _=>rfl⟩
  ·have h1:Maps.has (D.put (lineK s k) (chD (some g))) (.int .i64 y)=Maps.has D (.int .i64 y):=has_put_other (fun e'=>by unfold lineK at e';injection e' with _ e';exact e e') _
   unfold lineK at h1;rw [h1,hd.has y];constructor
   ·rintro ⟨j,hj,hy,hs⟩
    exact ⟨j,hj,hy,by unfold updO;rw [if_neg (fun e'=>e (by rw [hy,e']))];exact hs⟩
   ·rintro ⟨j,hj,hy,hs⟩
    refine ⟨j,hj,hy,?_⟩;unfold updO at hs;rw [if_neg (fun e'=>e (by rw [hy,e']))] at hs;exact hs
theorem ChM.new (w:World) (s K:Nat):ChM (w.alloc (.map #[] 0)) w.heap.size 0 s K (fun _=>none):=⟨_,World.ownsMap_made w _ _ _,fun k _=>by simp [DataW.atKey,chD],fun x=>by simp [Maps.has]⟩
theorem ChM.chg {Z:Fp} (h:ChM w mb N s K cb) (hc:Chg Z w w') (hb:¬ Z mb):ChM w' mb N s K cb:=by
 obtain ⟨D,ho,hd⟩:=h;exact ⟨D,hc.map ho hb,hd⟩
theorem ChM.lt (h:ChM w mb N s K cb):mb < w.heap.size:=by
 obtain ⟨D,ho,hd⟩:=h;exact ho.lt
theorem ChM.mono {N':Nat} (h:ChM w mb N s K cb) (hN:N≤N'):ChM w mb N' s K cb:=by
 obtain ⟨D,ho,hd⟩:=h;exact ⟨D,ho.mono hN,hd⟩
end
def RetAt (w:World) (mb N s K:Nat) (cb:Nat→Option Nat) (k:Nat) (e:Ending) (w':World):Prop :=
 (∃ g,cb k=some g∧e = .returned (.pointer (some ⟨g,0,none⟩))∧w=w') ∨
 (cb k=none∧e = .returned (.pointer (some ⟨w.heap.size,0,none⟩))∧ChM w' mb (N+1) s K (updO cb k (some w.heap.size))∧Blk w' w.heap.size 338 #[.slice none 0 0, .slice none 0 0, .slice none 0 0]∧Chg (fun j=>j=mb) w w')
theorem chAt_any {w:World} {mb N s K:Nat} {cb:Nat→Option Nat} (h:ChM w mb N s K cb) (k:Nat) (hk:k < K) (hs:s+32 * k < 9000000000) (hN:N < 1000000000) (vb:Nat) (hv:w.cell? ⟨vb,0,none⟩=some (.map (some mb))) :
  Calls Tryz.prog 236 #[.int .i64 ((s+32 * k:Nat):Int), .pointer (some ⟨vb,0,none⟩)] w (RetAt w mb N s K cb k):=by
 have hlk:=h.look hk hs;have hvl:=World.block_lt_of_cell? _ _ hv;have hml:=h.lt;cases hc:cb k with
 | some g =>
  rw [hc] at hlk;have hlk2:(Instr.lookup 335 (.map (some mb)) (.int .i64 ((s+32 * k:Nat):Int)) false).run Tryz.prog w = .ok (.pointer (some ⟨g,0,none⟩)) w:=hlk;have HC:=hid hc;clear hlk hc h;generalize ((s+32 * k:Nat):Int)=v at *;go_enter Tryz.func236,Tryz.ntmps236
  go_wp2;go_ret;exact .inl ⟨g,HC.out,rfl,rfl⟩
 | none =>
  rw [hc] at hlk;have hlk2:(Instr.lookup 335 (.map (some mb)) (.int .i64 ((s+32 * k:Nat):Int)) false).run Tryz.prog w = .ok (.pointer none) w:=hlk;have h1:=h.chg ((Chg.refl Fp.no w).alloc (.cells #[.slice none 0 0, .slice none 0 0, .slice none 0 0] 338)) (fun h=>h);obtain ⟨w2,r2,h2,g2⟩:=h1.put (by unfold maxLen;omega) hk hs w.heap.size;have HE:=hid (show ChM w2 mb (N+1) s K (updO cb k (some w.heap.size))∧Blk w2 w.heap.size 338 #[.slice none 0 0, .slice none 0 0, .slice none 0 0]∧Chg (fun j=>j=mb) w w2 from ⟨h2,(Blk.new w _ _).grown g2 (fun e=>by injection e with e;omega),((Chg.refl (fun j=>j=mb) w).alloc _).trans (grown_chg (Z:=fun j=>j=mb) g2 rfl) (Grew.refl _ _)⟩);have HC:=hid hc;clear hlk hc h h1 h2 g2;generalize ((s+32 * k:Nat):Int)=v at *;go_enter Tryz.func236,Tryz.ntmps236
  go_wp2;go_ret;exact .inr ⟨HC.out,rfl,HE.out.1,HE.out.2.1,HE.out.2.2⟩
end
section
open Go.RowKit Go.Maps
theorem setG_plc {a:DA} {s K base g:Nat} {cs:Nat→CS} {w:World} (h:SetIsG a s cs K w base g) (h1:1≤K):∃ pl,base≤pl∧Plc a s K ⟨g,pl,0⟩ cs w:=by
 obtain ⟨A,m,c,hB,hm,ho⟩:=h;subst hm;rcases ho.2 with ⟨_,h0⟩ | ⟨pl,cap,cur,hv,hge,hb,h2,h3,h4,h5⟩
 ·omega
 ·injection hv with e1 e2 e3
  subst e1 e3;refine ⟨pl,hge,⟨_,hB⟩,cur,hb,fun k hk=>?_⟩;obtain ⟨p0,p1,p2,p3⟩:=plCellsG_at s cs m k hk;have hg:∀ (j:Nat) (u:Value),(plCellsG s cs m)[j]?=some u→cur[0+j]?=some u:=fun j u hu=>by
   rw [← h5] at hu;rw [Nat.zero_add,← Array.getElem?_toList];have hj:=(List.getElem?_eq_some_iff.1 hu).1;rw [List.length_take] at hj;rw [List.getElem?_take_of_lt oM] at hu;exact hu
  refine ⟨hg _ _ p0,?_,?_,false,?_⟩
  ·rw [Nat.add_assoc];exact hg _ _ p1
  ·rw [Nat.add_assoc];exact hg _ _ p2
  ·rw [Nat.add_assoc];exact hg _ _ p3
theorem lns_at {w:World} {B n s K:Nat} {A:Option Addr} (h:Reads w B 1 A n (iCells ((List.range K).map fun k=>((s+32 * k:Nat):Int)))) {k:Nat} (hk:k < n) :
  ∃ (b off:Nat),A=some ⟨b,off,none⟩∧b < B∧w.cell? ⟨b,off+k,none⟩=some (.int .i64 ((s+32 * k:Nat):Int)):=by
 have hl:k < K:=by have:=h.1;simp [iCells] at this;omega
 obtain ⟨b,off,hA,hb,hc⟩:=h.plain oM oM;exact ⟨b,off,hA,hb,hc k _ (by simp [iCells,hl])⟩
def RetHog (a:DA) (s n K:Nat) (cs:Nat→CS) (w:World) (e:Ending) (w':World):Prop:=∃ x:HA,e = .returned (.tuple #[.pointer (some ⟨x.h,0,none⟩), .int .i64 0])∧HS a s n K x cs (fun _=>none) 0 0 w'∧(w.heap.size≤x.h∧w.heap.size≤x.gs∧w.heap.size≤x.pl∧w.heap.size≤x.mr∧w.heap.size≤x.mh)∧Below w.heap.size w w'
theorem heapOpenG_any {a:DA} {L T:Nat} {w:World} {S:Fp} {cur:Nat→Nat} {F:Nat} (cs:Nat→CS) (h:Dev a L T w S cur F) (ht:Tab w) (hp:Pay w) (s n K:Nat) (hn:32≤n) (hs:s+n≤L) (hK:n / 32=K) (hv:∀ k,k < K→CSok cur (s+32 * k) (cs k)) :
  Calls Tryz.prog 181 #[memV a, .int .i64 (s:Int), .int .i64 (n:Int)] w (RetHog a s n K cs w):=by
 have HA:=hid (arenaOpenG_any cs h ht hp s n K hn hs hK hv);have hL:L≤4096:=by obtain ⟨ls,exe,per,cs,lsC,hdc,hnt⟩:=h;exact hdc.hL
 have hmm1:∀ W,(Instr.makeMap 190 none).run Tryz.prog W = .ok (.map (some W.heap.size)) (W.alloc (.map #[] 0)):=fun _=>rfl
 have hmm2:∀ W,(Instr.makeMap 191 none).run Tryz.prog W = .ok (.map (some W.heap.size)) (W.alloc (.map #[] 0)):=fun _=>rfl
 have hK2:K≤128:=oM;have hK1:1≤K:=oM;have hs9:s≤100000:=oM;have HCh:Hid (∀ k,k < K→(cs k).dv=true→∀ W,Below w.heap.size w W→Calls Tryz.prog 195 #[memV a, .int .i64 ((s+32 * k:Nat):Int)] W fun e w'=>e = .returned (.tuple #[chV a (s+32 * k) (cs k).cl 0 (cs k).g, .int .i64 0])∧Below W.heap.size W w'):=hid (fun k hk hd W hW=>by
  have hc:=hv k hk;unfold CSok at hc;rw [if_pos hd] at hc;exact chOpen_cls (h.below hW) (ht.below hW) (hp.below hW) (s+32 * k) _ _ oM hc.cls hc.g0 hc.g1 hc.hdr)
 have HCk:Hid (∀ k,k < K→(cs k).dv=true→∀ W,Below w.heap.size w W→Calls Tryz.prog 290 #[chV a (s+32 * k) (cs k).cl 0 (cs k).g] W fun e w'=>e = .returned (.int .i64 0)∧Below W.heap.size W w'):=hid (fun k hk hd W hW=>by
  have hc:=hv k hk;unfold CSok at hc;rw [if_pos hd] at hc;exact chCheck_any (h.below hW) (ht.below hW) (hp.below hW) hc oM)
 clear h ht hp hv hK hn hs;unfold memV at HA HCh;unfold memV;go_enter Tryz.func181,Tryz.ntmps181
 go_wp2_with (first
  | (go_at_call 288;refine HA.out.mono ?_;rintro e w1 ⟨rfl,hset,hb1⟩;obtain ⟨pl,hpl,hplc⟩:=setG_plc hset hK1;have HS1:=hid hplc;have HPl:=hid hpl;have HB1:=hid hb1;have HL:=hid (linesP_any HS1.out hK2 hs9);clear hset hb1 hpl hplc)
  | (go_at_call 197;refine HL.out.mono ?_;rintro e w2 ⟨A,m,c,rfl,ho,hb2⟩;have hmK:m=K:=(by have h1:=ho.1;rw [iCells_len] at h1;simp at h1;omega);have HO:=hid (Reads.of_own ho);have HS2:=hid (HS1.out.below hb2);have HB2:=hid (HB1.out.trans (hb2.mono HB1.out.size));clear ho hb2)
  | go_in)
 clear HA HL HS1 HB1;subst hmK;go_loopw [28] (fun i wr=>∃ (k:Nat),k≤m∧i = .int .i64 k∧Hid (Below w2.heap.size w2 wr)) (fun i _=>m - (Go.RowKit.intOf i).toNat)
 case atStart=>exact ⟨0,Nat.zero_le _,rfl,hid (Below.refl _ _)⟩
 case round =>
  obtain ⟨k,hk,rfl,HR⟩:=hrel;by_cases hlt:k < m
  ·obtain ⟨b,off,hA,hbB,f0⟩:=lns_at (HO.out.below HR.out) hlt
   subst hA;have HOw:=hid (ownerP_any (HS2.out.below HR.out) hK2 hs9 hlt);have HCk1:=hid (HCk.out k hlt);have HCh1:=hid (HCh.out k hlt);obtain ⟨ln,hln⟩:∃ ln,s+32 * k=ln:=⟨_,rfl⟩
   rw [hln] at f0 HOw HCk1 HCh1;have hz5:(0:Int)≤(k:Int):=oM;have hz6:(k:Int) < (m:Int):=oM;clear hln hbB;by_cases hd:(cs k).dv=true
   ·have ho:(cs k).own=0:=by unfold CS.own;rw [if_pos hd]
    rw [ho] at HOw;have HC1:=hid (HCh1.out hd wr (HB2.out.trans (HR.out.mono HB2.out.size)));have HC2:=hid (HCk1.out hd);generalize (cs k).cl=ccl at *;generalize (cs k).g=cg at *;unfold chV memV at HC1 HC2;clear hd ho HCk1 HCh1;go_wp2_with (first
     | (go_at_call 289;refine HOw.out.mono ?_;rintro e w3 ⟨rfl,rfl⟩)
     | (go_at_call 195;refine HC1.out.mono ?_;rintro e w3 ⟨rfl,hb3⟩;have HB3:=hid (HR.out.trans (hb3.mono HR.out.size));clear hb3)
     | fail)
    have HB4:=hid (HB3.out.alloc HB3.out.size (.cells #[.iface 58 (.pointer (some ⟨a.th 0,0,none⟩)), .int .i64 (ln:Int), .int .i64 (ccl:Int), .int .i64 0, .int .u16 (cg:Int)] 306));have HC3:=hid (HC2.out _ (HB2.out.trans (HB4.out.mono HB2.out.size)));go_wp2_with (first
     | (go_at_call 290;refine HC3.out.mono ?_;rintro e w5 ⟨rfl,hb5⟩;have HB5:=hid (HB4.out.trans (hb5.mono HB4.out.size));clear hb5)
     | fail)
    go_roundw
    case rel =>
     first
      | exact ⟨k+1,oM,by go_num,HB5⟩
      | (
        repeat apply Exists.intro
        refine ⟨?_,rfl⟩;exact ⟨k+1,oM,by go_num,HB5⟩)
    case measure=>simp [Go.RowKit.intOf];omega
   ·have ho:(cs k).own = -1:=by unfold CS.own;rw [if_neg hd]
    rw [ho] at HOw;clear hd ho HCk1 HCh1;go_wp2_with (first
     | (go_at_call 289;refine HOw.out.mono ?_;rintro e w3 ⟨rfl,rfl⟩)
     | fail)
    go_roundw
    case rel =>
     first
      | exact ⟨k+1,oM,by go_num,HR⟩
      | (
        repeat apply Exists.intro
        refine ⟨?_,rfl⟩;exact ⟨k+1,oM,by go_num,HR⟩)
    case measure=>simp [Go.RowKit.intOf];omega
  ·obtain rfl:m=k:=oM
   go_wp2;go_ret2;have HB2:=hid (HB2.out.trans (HR.out.mono HB2.out.size));have HS2:=hid (HS2.out.below HR.out);clear HR HO HCh HCk;have e9:((wr.alloc (.map #[] 0)).alloc (.map #[] 0)).heap.size=wr.heap.size+1+1:=by simp
   have hb2:Below w.heap.size w ((wr.alloc (.map #[] 0)).alloc (.map #[] 0)):=(HB2.out.alloc HB2.out.size _).alloc (by have:=HB2.out.size;simp;omega) _;have hplc:=HS2.out;have hpl:=HPl.out;have hsz:=HB2.out.size;have hb3:∀ V,Below wr.heap.size wr (((wr.alloc (.map #[] 0)).alloc (.map #[] 0)).alloc V):=fun V=>(((Below.refl _ wr).alloc (nL _) _).alloc (by simp) _).alloc (by simp;omega) _
   have hm1:PMap ((wr.alloc (.map #[] 0)).alloc (.map #[] 0)) wr.heap.size 0 (fun _=>none) 0:=(PMap.new wr).chg ((Chg.refl Fp.no _).alloc _) (fun h=>h);have hm2:=HMap.new (wr.alloc (.map #[] 0));refine ⟨⟨wr.heap.size+1+1,w.heap.size,pl,0,wr.heap.size,wr.heap.size+1⟩,rfl,⟨by rw [← e9];exact Blk.new _ _ _,hplc.below (hb3 _),hm1.chg ((Chg.refl Fp.no _).alloc _) (fun h=>h),?_,?_⟩,⟨?_,nL _,?_,?_,?_⟩,hb2.alloc (by rw [e9];omega) _⟩
   ·have:=hm2.chg ((Chg.refl Fp.no _).alloc (.cells (heapCells a s n w.heap.size wr.heap.size (wr.heap.size+1) false) 194)) (fun h=>h)
    have e8:(wr.alloc (.map #[] 0)).heap.size=wr.heap.size+1:=by simp
    rw [e8] at this;exact this
   ·show wr.heap.size≠wr.heap.size+1
    omega
   ·show w.heap.size≤wr.heap.size+1+1
    omega
   ·show w.heap.size≤pl
    omega
   ·exact hsz
   ·show w.heap.size≤wr.heap.size+1
    omega
end
section
open Go.RowKit Go.Maps
def relF (f:Nat→Option Nat) (l:List Nat):Nat→Option Nat:=l.foldl (fun g p=>updF g (pOff p) none) f
theorem relF_snoc (f:Nat→Option Nat) (l:List Nat) (p:Nat):relF f (l++[p])=updF (relF f l) (pOff p) none:=by simp [relF]
theorem relF_out:∀ (l:List Nat) (f:Nat→Option Nat) (o:Nat),o ∉ l.map pOff→relF f l o=f o
 | [],_,_,_=>rfl
 | p :: l,f,o,h=>by
  show relF (updF f (pOff p) none) l o=f o;rw [relF_out l _ o (fun hh=>h (by simp at hh ⊢;exact .inr hh))];unfold updF;rw [if_neg (fun hh=>h (by simp [hh]))]
section
variable {a:DA} {L T s n K:Nat} {x:HA} {cs:Nat→CS} {f:Nat→Option Nat} {N m b0:Nat} {S:Fp} {cur:Nat→Nat} {w w':World}
theorem settle_any (h:DS a L T s n K x cs f N m b0 S cur w) (A1:Option Addr) (n1 c1:Nat) (keep:List Nat) (h1:Reads w w.heap.size 1 A1 n1 (uCells keep)) (hA:∀ ad,A1=some ad→¬ x.fp ad.block) (hf:∀ p∈keep,f (pOff p)=some p) (hn:(keep.map pOff).Nodup) (hN:N+n1≤1000000000) (hn1:n1≤1000000) (v2:Value) :
  Calls Tryz.prog 125 #[.pointer (some ⟨x.h,0,none⟩), .slice A1 n1 c1,v2] w (RetRel a L T s n K x cs (relF f keep) (N+n1) (m - n1) b0 S cur w (.tuple #[])):=by
 have HR:=hid h1;have HAd:=hid hA;have HF:=hid hf;have HNd:=hid hn;have HL1:=hid (show keep.length=n1 by have:=h1.1;simp [uCells] at this;omega);have HI0:Hid (DS a L T s n K x cs (relF f (keep.take 0)) (N+0) (m - 0) b0 S cur w∧Chg x.fp w w):=hid ⟨h,Chg.refl _ _⟩;clear h h1 hA hf hn;go_enter Tryz.func125,Tryz.ntmps125
 go_wp2;go_loopw [12] (fun i wr=>∃ (k:Nat),k≤n1∧i = .int .i64 k∧Hid (DS a L T s n K x cs (relF f (keep.take k)) (N+k) (m - k) b0 S cur wr∧Chg x.fp w wr)) (fun i _=>n1 - (Go.RowKit.intOf i).toNat)
 case atStart=>exact ⟨0,Nat.zero_le _,rfl,HI0⟩
 case round =>
  clear HI0;obtain ⟨k,hk,rfl,H⟩:=hrel;by_cases hlt:k < n1
  ·obtain ⟨hl,b,off,hA,hbB,f0⟩:=p_facts (H.out.2.reads HR.out (nL _) HAd.out) hlt
   subst hA;have hnk:pOff keep[k] ∉ (keep.take k).map pOff:=fun hh=>by
    obtain ⟨q,hq,he⟩:=List.mem_map.1 hh;obtain ⟨j,hj,hje⟩:=List.getElem_of_mem hq;have hj2:j < k:=by simp at hj;omega
    have he2:pOff keep[j]=pOff keep[k]:=by rw [← he,← hje];simp
    exact (List.pairwise_iff_getElem.1 HNd.out) j k (by simp;omega) (by simpa using hl) hj2 (by simpa using he2)
   have hfk:relF f (keep.take k) (pOff keep[k])=some keep[k]:=by rw [relF_out _ _ _ hnk];exact HF.out _ (List.getElem_mem hl)
   have HHo:=hid (holds_any H.out.1.hs keep[k]);rw [decide_eq_true hfk] at HHo;have HRl:Hid (∀ W,Below wr.heap.size wr W→Calls Tryz.prog 245 #[.pointer (some ⟨x.h,0,none⟩), .int .u64 (keep[k]:Int)] W (RetRel a L T s n K x cs (relF f (keep.take (k+1))) (N+(k+1)) (m - (k+1)) b0 S cur W (.tuple #[]))):=hid (fun W hW=>by
    have h2:=release_any (H.out.1.below hW) keep[k] hfk oM;rw [← relF_snoc,← List.take_succ_eq_append_getElem hl,show m - k - 1=m - (k+1) by omega] at h2;exact h2)
   clear hfk hnk;have HC:=hid H.out.2;generalize keep[k]=p at *;have hz5:(0:Int)≤(k:Int):=oM;have hz6:(k:Int) < (n1:Int):=oM;go_wp2_with (go_at_call 235;refine HHo.out.mono ?_;rintro e w2 ⟨rfl,hb2⟩;refine stop ?_)
   unfold Stop;have HR2:=hid (HRl.out w2 hb2);have HB2:=hid hb2;clear hb2 HRl HHo H;unfold RetRel at HR2;go_wp2_with (go_at_call 245;refine HR2.out.mono ?_;rintro e w3 ⟨rfl,hd3,hc3⟩;have HN3:Hid (DS a L T s n K x cs (relF f (keep.take (k+1))) (N+(k+1)) (m - (k+1)) b0 S cur w3∧Chg x.fp w w3):=hid ⟨hd3,(HC.out.below HB2.out).trans hc3 (Grew.refl _ _)⟩;clear hd3 hc3)
   go_roundw
   case rel =>
    first
     | exact ⟨k+1,oM,by go_num,HN3⟩
     | (
       repeat apply Exists.intro
       refine ⟨?_,rfl⟩;exact ⟨k+1,oM,by go_num,HN3⟩)
   case measure=>simp [Go.RowKit.intOf];omega
  ·have hkn:n1=k:=oM
   subst hkn;have HE:Hid (DS a L T s n K x cs (relF f keep) (N+n1) (m - n1) b0 S cur wr∧Chg x.fp w wr):=hid (by
    have h:=H.out;rw [List.take_of_length_le (by rw [HL1.out];exact nL _)] at h;exact h)
   go_wp2;go_end0;exact ⟨rfl,HE.out.1,HE.out.2⟩
end
end
section
open Go.RowKit Go.Maps
def updX {α:Type} (f:Nat→α) (k:Nat) (v:α):Nat→α:=fun j=>if j=k then v else f j
theorem updX_same {α:Type} (f:Nat→α) (k:Nat) (v:α):updX f k v k=v:=by simp [updX]
theorem updX_other {α:Type} {f:Nat→α} {k j:Nat} {v:α} (h:j≠k):updX f k v j=f j:=by simp [updX,h]
structure CI where
 cb:Nat→Option Nat
 tA:Nat→Option Addr
 tc:Nat→Nat
 kA:Nat→Option Addr
 kc:Nat→Nat
 dA:Nat→Option Addr
 dc:Nat→Nat
 tl:Nat→List (Nat × Nat)
 dl:Nat→List Nat
def CI.tv (c:CI) (k:Nat):Value := .slice (c.tA k) (c.tl k).length (c.tc k)
def CI.kv (c:CI) (k:Nat):Value := .slice (c.kA k) (c.tl k).length (c.kc k)
def CI.dv (c:CI) (k:Nat):Value := .slice (c.dA k) (c.dl k).length (c.dc k)
structure ChI (w:World) (base mb N s K:Nat) (c:CI):Prop where
 map:ChM w mb N s K c.cb
 mbb:mb < base
 blk:∀ k g,k < K→c.cb k=some g→Blk w g 338 #[c.tv k,c.kv k,c.dv k]∧base≤g
 o1:∀ k,k < K→w.ownsRow base 3 1 (c.tv k) (c.tl k).length (jCells ((c.tl k).map (·.1)))
 o2:∀ k,k < K→w.ownsRow base 5 1 (c.kv k) (c.tl k).length (u8s ((c.tl k).map (·.2)))
 o3:∀ k,k < K→w.ownsRow base 3 1 (c.dv k) (c.dl k).length (jCells (c.dl k))
 a1:∀ k k' g,k < K→k' < K→(c.tv k).ownBlock=some g→(c.tv k').ownBlock=some g→k=k'
 a2:∀ k k' g,k < K→k' < K→(c.kv k).ownBlock=some g→(c.kv k').ownBlock=some g→k=k'
 a3:∀ k k' g,k < K→k' < K→(c.dv k).ownBlock=some g→(c.dv k').ownBlock=some g→k=k'
 a13:∀ k k' g,k < K→k' < K→(c.tv k).ownBlock=some g→(c.dv k').ownBlock≠some g
 ac:∀ k k' g,k < K→k' < K→c.cb k=some g→c.cb k'=some g→k=k'
 none_:∀ k,k < K→c.cb k=none→c.tl k=[]∧c.dl k=[]∧c.tv k = .slice none 0 0∧c.kv k = .slice none 0 0∧c.dv k = .slice none 0 0
section
variable {w w':World} {base mb N s K:Nat} {c:CI} {k g:Nat}
theorem ChI.chg {Z:Fp} (h:ChI w base mb N s K c) (hc:Chg Z w w') (hZ:∀ g,base≤g→¬ Z g) (hm:¬ Z mb):ChI w' base mb N s K c :=
 {h with
  map:=h.map.chg hc hm
  blk:=fun k g hk hg=>⟨hc.blk (h.blk k g hk hg).1 (hZ _ (h.blk k g hk hg).2),(h.blk k g hk hg).2⟩
  o1:=fun k hk=>hc.own (h.o1 k hk) (fun g hg=>hZ _ ((h.o1 k hk).lt g hg).1)
  o2:=fun k hk=>hc.own (h.o2 k hk) (fun g hg=>hZ _ ((h.o2 k hk).lt g hg).1)
  o3:=fun k hk=>hc.own (h.o3 k hk) (fun g hg=>hZ _ ((h.o3 k hk).lt g hg).1) }
theorem ChI.below (h:ChI w base mb N s K c) (hb:Below w.heap.size w w'):ChI w' base mb N s K c:=h.chg (Chg.of_below (S:=Fp.no) hb) (fun _ _ h=>h) (fun h=>h)
theorem ChI.made (h:ChI w base mb N s K c) (hk:k < K) (hn:c.cb k=none) (hb:base≤w.heap.size) (hm:ChM w' mb (N+1) s K (updO c.cb k (some w.heap.size))) (hB:Blk w' w.heap.size 338 #[.slice none 0 0, .slice none 0 0, .slice none 0 0]) (hc:Chg (fun j=>j=mb) w w') :
  ChI w' base mb (N+1) s K { c with cb:=updO c.cb k (some w.heap.size) }:=by
 have hmm:∀ {t:TypeId} {e:TypeId} {size n:Nat} {v:Value} {xs:List Value} {g:Nat},w.ownsRow base e size v n xs→v.ownBlock=some g→¬ g=mb:=fun {_ _ _ _ _ _ g} ho hg e=>by
  obtain ⟨D,hD,_⟩:=h.map;exact map_ne_own hD ho (by rw [hg,e])
 obtain ⟨n1,n2,n3,n4,n5⟩:=h.none_ k hk hn;refine ⟨hm,h.mbb,fun j g' hj hg'=>?_,fun j hj=>hc.own (h.o1 j hj) (fun g hg=>hmm (t:=3) (h.o1 j hj) hg),fun j hj=>hc.own (h.o2 j hj) (fun g hg=>hmm (t:=3) (h.o2 j hj) hg),fun j hj=>hc.own (h.o3 j hj) (fun g hg=>hmm (t:=3) (h.o3 j hj) hg),h.a1,h.a2,h.a3,h.a13,fun i j g' hi hj h1 h2=>?_,fun j hj hj0=>?_⟩
 ·dsimp only at hg'
  unfold updO at hg';by_cases e:j=k
  ·rw [if_pos e] at hg'
   injection hg' with hg'
   subst hg';subst e;refine ⟨?_,hb⟩;show Blk w' w.heap.size _ #[c.tv j,c.kv j,c.dv j];rw [n3,n4,n5];exact hB
  ·rw [if_neg e] at hg'
   obtain ⟨b1,b2⟩:=h.blk j g' hj hg';refine ⟨hc.blk b1 (fun e'=>?_),b2⟩;obtain ⟨D,hD,_⟩:=h.map;exact blk_ne_map hD b1 e'
 ·dsimp only at h1 h2
  unfold updO at h1 h2;by_cases e1:i=k
  ·by_cases e2:j=k
   ·rw [e1,e2]
   ·rw [if_pos e1] at h1
    rw [if_neg e2] at h2;injection h1 with h1
    have:=(h.blk j g' hj h2).1.lt;omega
  ·by_cases e2:j=k
   ·rw [if_neg e1] at h1
    rw [if_pos e2] at h2;injection h2 with h2
    have:=(h.blk i g' hi h1).1.lt;omega
   ·rw [if_neg e1] at h1
    rw [if_neg e2] at h2;exact h.ac i j g' hi hj h1 h2
 ·dsimp only at hj0
  unfold updO at hj0;by_cases e:j=k
  ·rw [if_pos e] at hj0;cases hj0
  ·rw [if_neg e] at hj0
   exact h.none_ j hj hj0
def CI.take (c:CI) (k:Nat) (A2:Option Addr) (c2:Nat) (A4:Option Addr) (c4:Nat) (i kd:Nat):CI :=
 { c with tA:=updX c.tA k A2,tc:=updX c.tc k c2,kA:=updX c.kA k A4,kc:=updX c.kc k c4,tl:=updX c.tl k (c.tl k++[(i,kd)]) }
theorem ChI.take {w1 w2 w3 w4:World} {A2 A4:Option Addr} {n2 c2 n4 c4 i kd:Nat} (h:ChI w base mb N s K c) (hk:k < K) (hg:c.cb k=some g)
  (e1:Chg Fp.no w w1) (g2:w1.grownBy w2 (c.tv k).ownBlock) (r2:w2.ownsRow base 3 1 (.slice A2 n2 c2) n2 (jCells ((c.tl k).map (·.1))++[.int .i64 (i:Int)])) (hn2:n2=(c.tl k).length+1) (b2:(Value.slice A2 n2 c2).ownBlock=(c.tv k).ownBlock∨(Value.slice A2 n2 c2).ownBlock=some w1.heap.size)
  (e3:Chg Fp.no w2 w3) (g4:w3.grownBy w4 (c.kv k).ownBlock) (r4:w4.ownsRow base 5 1 (.slice A4 n4 c4) n4 (u8s ((c.tl k).map (·.2))++[.int .u8 (kd:Int)])) (hn4:n4=(c.tl k).length+1) (b4:(Value.slice A4 n4 c4).ownBlock=(c.kv k).ownBlock∨(Value.slice A4 n4 c4).ownBlock=some w3.heap.size) :
  ChI ((w4.setCell ⟨g,0,none⟩ (.slice A2 n2 c2)).setCell ⟨g,1,none⟩ (.slice A4 n4 c4)) base mb N s K (c.take k A2 c2 A4 c4 i kd)∧Chg (fun j=>base≤j) w ((w4.setCell ⟨g,0,none⟩ (.slice A2 n2 c2)).setCell ⟨g,1,none⟩ (.slice A4 n4 c4)):=by
 obtain ⟨hgB,hgb⟩:=h.blk k g hk hg;have z2:(w2.heap.size) ≥ w1.heap.size:=g2.size;have z1:=e1.size;have z3:=e3.size;have hZ:Chg (fun j=>j=g∨(c.tv k).ownBlock=some j∨(c.kv k).ownBlock=some j) w ((w4.setCell ⟨g,0,none⟩ (.slice A2 n2 c2)).setCell ⟨g,1,none⟩ (.slice A4 n4 c4)):=by
  have q1:Chg (fun j=>j=g∨(c.tv k).ownBlock=some j∨(c.kv k).ownBlock=some j) w w1:=e1.mono (fun _ h=>h.elim);have q2:=q1.grown g2 (fun g' hg' => .inl (.inr (.inl hg')));have q3:=q2.trans e3 (fun _ h=>h.elim);have q4:=q3.grown g4 (fun g' hg' => .inl (.inr (.inr hg')));exact (q4.setCell (.inl (.inl rfl)) _).setCell (.inl (.inl rfl)) _
 obtain ⟨D,hD,_⟩:=id h.map;have nt:∀ j,j < K→j≠k→∀ g',(c.tv j).ownBlock=some g'→¬ (g'=g∨(c.tv k).ownBlock=some g'∨(c.kv k).ownBlock=some g'):=fun j hj hjk g' hg' hz=>by
  rcases hz with e | e | e
  ·subst e;exact own_blk_ne (h.o1 j hj) hgB (by decide) hg'
  ·exact hjk (h.a1 j k g' hj hk hg' e)
  ·rcases own_own_ne (h.o1 j hj) (h.o2 k hk) (by decide) with e2 | e2
   ·rw [e2] at hg';cases hg'
   ·exact e2 (by rw [hg',e])
 have nk:∀ j,j < K→j≠k→∀ g',(c.kv j).ownBlock=some g'→¬ (g'=g∨(c.tv k).ownBlock=some g'∨(c.kv k).ownBlock=some g'):=fun j hj hjk g' hg' hz=>by
  rcases hz with e | e | e
  ·subst e;exact own_blk_ne (h.o2 j hj) hgB (by decide) hg'
  ·rcases own_own_ne (h.o2 j hj) (h.o1 k hk) (by decide) with e2 | e2
   ·rw [e2] at hg';cases hg'
   ·exact e2 (by rw [hg',e])
  ·exact hjk (h.a2 j k g' hj hk hg' e)
 have nd:∀ j,j < K→∀ g',(c.dv j).ownBlock=some g'→¬ (g'=g∨(c.tv k).ownBlock=some g'∨(c.kv k).ownBlock=some g'):=fun j hj g' hg' hz=>by
  rcases hz with e | e | e
  ·subst e;exact own_blk_ne (h.o3 j hj) hgB (by decide) hg'
  ·exact h.a13 k j g' hk hj e hg'
  ·rcases own_own_ne (h.o3 j hj) (h.o2 k hk) (by decide) with e2 | e2
   ·rw [e2] at hg';cases hg'
   ·exact e2 (by rw [hg',e])
 have fresh1:∀ g',g' < w.heap.size→(Value.slice A2 n2 c2).ownBlock=some g'→(c.tv k).ownBlock=some g':=fun g' hlt hg'=>by
  rcases b2 with e | e
  ·rw [← e];exact hg'
  ·rw [e] at hg';injection hg' with hg';omega
 have fresh2:∀ g',g' < w.heap.size→(Value.slice A4 n4 c4).ownBlock=some g'→(c.kv k).ownBlock=some g':=fun g' hlt hg'=>by
  rcases b4 with e | e
  ·rw [← e];exact hg'
  ·rw [e] at hg';injection hg' with hg';omega
 have hgl:=hgB.lt;have k1:=e1.blk hgB (fun h=>h);have k2:=k1.grown g2 (fun e=>own_blk_ne (h.o1 k hk) hgB (by decide) e.symm);have k3:=e3.blk k2 (fun h=>h);have k4:=k3.grown g4 (fun e=>own_blk_ne (h.o2 k hk) hgB (by decide) e.symm);have k5:=(k4.set_ 0 (.slice A2 n2 c2)).set_ 1 (.slice A4 n4 c4);have hne2:∀ u,(Value.slice A2 n2 c2).ownBlock=some u→u≠g:=fun u hu e=>by
  rw [e] at hu;exact own_blk_ne r2 k2 (by decide) hu
 have hne4:∀ u,(Value.slice A4 n4 c4).ownBlock=some u→u≠g:=fun u hu e=>by
  rw [e] at hu;exact own_blk_ne r4 k4 (by decide) hu
 have r3:=e3.own r2 (fun _ _ h=>h);have o2':=e3.own ((e1.own (h.o2 k hk) (fun _ _ h=>h)).kept g2 (own_own_ne (h.o2 k hk) (h.o1 k hk) (by decide))) (fun _ _ h=>h);have r2':=r3.kept g4 (own_own_ne r3 o2' (by decide));have s2:=ownsRow_setCell_other (ownsRow_setCell_other r2' (a:=⟨g,0,none⟩) (fun e=>hne2 g e rfl) (.slice A2 n2 c2)) (a:=⟨g,1,none⟩) (fun e=>hne2 g e rfl) (.slice A4 n4 c4);have s4:=ownsRow_setCell_other (ownsRow_setCell_other r4 (a:=⟨g,0,none⟩) (fun e=>hne4 g e rfl) (.slice A2 n2 c2)) (a:=⟨g,1,none⟩) (fun e=>hne4 g e rfl) (.slice A4 n4 c4);have tvk:(c.take k A2 c2 A4 c4 i kd).tv k = .slice A2 n2 c2:=by
  show Value.slice (updX c.tA k A2 k) (updX c.tl k (c.tl k++[(i,kd)]) k).length (updX c.tc k c2 k)=_;rw [updX_same,updX_same,updX_same,List.length_append,hn2];rfl
 have kvk:(c.take k A2 c2 A4 c4 i kd).kv k = .slice A4 n4 c4:=by
  show Value.slice (updX c.kA k A4 k) (updX c.tl k (c.tl k++[(i,kd)]) k).length (updX c.kc k c4 k)=_;rw [updX_same,updX_same,updX_same,List.length_append,hn4];rfl
 have tvj:∀ j,j≠k→(c.take k A2 c2 A4 c4 i kd).tv j=c.tv j:=fun j hj=>by
  show Value.slice (updX c.tA k A2 j) (updX c.tl k (c.tl k++[(i,kd)]) j).length (updX c.tc k c2 j)=_;rw [updX_other hj,updX_other hj,updX_other hj];rfl
 have kvj:∀ j,j≠k→(c.take k A2 c2 A4 c4 i kd).kv j=c.kv j:=fun j hj=>by
  show Value.slice (updX c.kA k A4 j) (updX c.tl k (c.tl k++[(i,kd)]) j).length (updX c.kc k c4 j)=_;rw [updX_other hj,updX_other hj,updX_other hj];rfl
 have tlj:∀ j,j≠k→(c.take k A2 c2 A4 c4 i kd).tl j=c.tl j:=fun j hj=>updX_other hj
 have tlk:(c.take k A2 c2 A4 c4 i kd).tl k=c.tl k++[(i,kd)]:=updX_same _ _ _;have dvj:∀ j,(c.take k A2 c2 A4 c4 i kd).dv j=c.dv j:=fun j=>rfl
 have hmb:¬ (mb=g∨(c.tv k).ownBlock=some mb∨(c.kv k).ownBlock=some mb):=fun hz=>by
  rcases hz with e | e | e
  ·exact blk_ne_map hD hgB e.symm
  ·exact map_ne_own hD (h.o1 k hk) e.symm
  ·exact map_ne_own hD (h.o2 k hk) e.symm
 refine ⟨⟨h.map.chg hZ hmb,h.mbb,fun j g' hj hg'=>?_,fun j hj=>?_,fun j hj=>?_,fun j hj=>?_,fun i' j g' hi hj h1 h2=>?_,fun i' j g' hi hj h1 h2=>?_,h.a3,fun i' j g' hi hj h1=>?_,h.ac,fun j hj hj0=>?_⟩,hZ.mono (fun j hj=>?_)⟩
 ·by_cases e:j=k
  ·subst e
   have hgg:g'=g:=by
    have h9:c.cb j=some g':=hg';rw [hg] at h9;injection h9 with h9
    exact h9.symm
   subst hgg;refine ⟨?_,hgb⟩;rw [tvk,kvk,dvj];simpa using k5
  ·obtain ⟨b1,b2'⟩:=h.blk j g' hj hg'
   refine ⟨?_,b2'⟩;rw [tvj j e,kvj j e,dvj];refine hZ.blk b1 (fun hz=>?_);rcases hz with e' | e' | e'
   ·subst e';exact e (h.ac j k g' hj hk hg' hg)
   ·exact own_blk_ne (h.o1 k hk) b1 (by decide) e'
   ·exact own_blk_ne (h.o2 k hk) b1 (by decide) e'
 ·by_cases e:j=k
  ·subst e
   rw [tvk,tlk,List.map_append,show jCells ((c.tl j).map (·.1)++[(i,kd)].map (·.1))=jCells ((c.tl j).map (·.1))++[.int .i64 (i:Int)] by simp [jCells],List.length_append];rw [show (c.tl j).length+[(i,kd)].length=n2 by rw [hn2];rfl];exact s2
  ·rw [tvj j e,tlj j e]
   exact hZ.own (h.o1 j hj) (nt j hj e)
 ·by_cases e:j=k
  ·subst e
   rw [kvk,tlk,List.map_append,show u8s ((c.tl j).map (·.2)++[(i,kd)].map (·.2))=u8s ((c.tl j).map (·.2))++[.int .u8 (kd:Int)] by simp [u8s],List.length_append];rw [show (c.tl j).length+[(i,kd)].length=n4 by rw [hn4];rfl];exact s4
  ·rw [kvj j e,tlj j e]
   exact hZ.own (h.o2 j hj) (nk j hj e)
 ·exact hZ.own (h.o3 j hj) (nd j hj)
 ·by_cases e1':i'=k
  ·by_cases e2':j=k
   ·rw [e1',e2']
   ·rw [e1',tvk] at h1
    rw [tvj j e2'] at h2;exact absurd (h.a1 j k g' hj hk h2 (fresh1 g' ((h.o1 j hj).lt g' h2).2 h1)) e2'
  ·by_cases e2':j=k
   ·rw [e2',tvk] at h2
    rw [tvj i' e1'] at h1;exact absurd (h.a1 i' k g' hi hk h1 (fresh1 g' ((h.o1 i' hi).lt g' h1).2 h2)) e1'
   ·rw [tvj i' e1'] at h1
    rw [tvj j e2'] at h2;exact h.a1 i' j g' hi hj h1 h2
 ·by_cases e1':i'=k
  ·by_cases e2':j=k
   ·rw [e1',e2']
   ·rw [e1',kvk] at h1
    rw [kvj j e2'] at h2;exact absurd (h.a2 j k g' hj hk h2 (fresh2 g' ((h.o2 j hj).lt g' h2).2 h1)) e2'
  ·by_cases e2':j=k
   ·rw [e2',kvk] at h2
    rw [kvj i' e1'] at h1;exact absurd (h.a2 i' k g' hi hk h1 (fresh2 g' ((h.o2 i' hi).lt g' h1).2 h2)) e1'
   ·rw [kvj i' e1'] at h1
    rw [kvj j e2'] at h2;exact h.a2 i' j g' hi hj h1 h2
 ·intro h2
  rw [dvj] at h2;by_cases e1':i'=k
  ·rw [e1',tvk] at h1
   exact h.a13 k j g' hk hj (fresh1 g' ((h.o3 j hj).lt g' h2).2 h1) h2
  ·rw [tvj i' e1'] at h1
   exact h.a13 i' j g' hi hj h1 h2
 ·have hjk:j≠k:=fun e=>by
   have h9:c.cb j=none:=hj0;rw [e,hg] at h9;cases h9
  rw [tlj j hjk,tvj j hjk,kvj j hjk,dvj];exact h.none_ j hj hj0
 ·rcases hj with e | e | e
  ·rw [e];exact hgb
  ·exact ((h.o1 k hk).lt j e).1
  ·exact ((h.o2 k hk).lt j e).1
end
end
end Go.Proofs.YtfkjjoglnmeciaaGreatDoor
