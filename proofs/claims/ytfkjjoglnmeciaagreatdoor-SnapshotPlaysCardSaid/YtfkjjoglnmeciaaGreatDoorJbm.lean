/- The walks and laws that the claim leans on, part 39. -/
import Derived.Test.YtfkjjoglnmeciaaGreatDoorJbg
import Derived.Test.YtfkjjoglnmeciaaGreatDoorJbk
set_option maxRecDepth 100000
set_option maxHeartbeats 16000000
namespace Go.Proofs.YtfkjjoglnmeciaaGreatDoor
open Go.Lib (hid)
section
open Go.RowKit Go.Maps
theorem setG_plc {a:DA} {s K base g:Nat} {cs:Nat→CS} {w:World} (h:SetIsG a s cs K w base g) (h1:1≤K):∃ pl,base≤pl∧Plc a s K ⟨g,pl,0⟩ cs w:=by
 obtain ⟨A,m,c,hB,hm,ho⟩:=h
 subst hm
 rcases ho.2 with ⟨_,h0⟩ | ⟨pl,cap,cur,hv,hge,hb,h2,h3,h4,h5⟩
 ·omega
 ·injection hv with e1 e2 e3
  subst e1 e3
  refine ⟨pl,hge,⟨_,hB⟩,cur,hb,fun k hk=>?_⟩
  obtain ⟨p0,p1,p2,p3⟩:=plCellsG_at s cs m k hk
  have hg:∀ (j:Nat) (u:Value),(plCellsG s cs m)[j]?=some u→cur[0+j]?=some u:=fun j u hu=>by
   rw [← h5] at hu
   rw [Nat.zero_add,← Array.getElem?_toList]
   have hj:=(List.getElem?_eq_some_iff.1 hu).1
   rw [List.length_take] at hj
   rw [List.getElem?_take_of_lt (by omega)] at hu
   exact hu
  refine ⟨hg _ _ p0,?_,?_,false,?_⟩
  ·rw [Nat.add_assoc];exact hg _ _ p1
  ·rw [Nat.add_assoc];exact hg _ _ p2
  ·rw [Nat.add_assoc];exact hg _ _ p3
theorem lns_at {w:World} {B n s K:Nat} {A:Option Addr} (h:Reads w B 1 A n (iCells ((List.range K).map fun k=>((s+32 * k:Nat):Int)))) {k:Nat} (hk:k < n) :
  ∃ (b off:Nat),A=some ⟨b,off,none⟩∧b < B∧w.cell? ⟨b,off+k,none⟩=some (.int .i64 ((s+32 * k:Nat):Int)):=by
 have hl:k < K:=by have:=h.1;simp [iCells] at this;omega
 obtain ⟨b,off,hA,hb,hc⟩:=h.plain (by omega) (by omega)
 exact ⟨b,off,hA,hb,hc k _ (by simp [iCells,hl])⟩
def RetHog (a:DA) (s n K:Nat) (cs:Nat→CS) (w:World) (e:Ending) (w':World):Prop:=∃ x:HA,e = .returned (.tuple #[.pointer (some ⟨x.h,0,none⟩), .int .i64 0])∧HS a s n K x cs (fun _=>none) 0 0 w'∧(w.heap.size≤x.h∧w.heap.size≤x.gs∧w.heap.size≤x.pl∧w.heap.size≤x.mr∧w.heap.size≤x.mh)∧Below w.heap.size w w'
theorem heapOpenG_any {a:DA} {L T:Nat} {w:World} {S:Fp} {cur:Nat→Nat} {F:Nat} (cs:Nat→CS) (h:Dev a L T w S cur F) (ht:Tab w) (hp:Pay w) (s n K:Nat) (hn:32≤n) (hs:s+n≤L) (hK:n / 32=K) (hv:∀ k,k < K→CSok cur (s+32 * k) (cs k)) :
  Calls Tryz.prog 181 #[memV a, .int .i64 (s:Int), .int .i64 (n:Int)] w (RetHog a s n K cs w):=by
 have HA:=hid (arenaOpenG_any cs h ht hp s n K hn hs hK hv)
 have hL:L≤4096:=by obtain ⟨ls,exe,per,cs,lsC,hdc,hnt⟩:=h;exact hdc.hL
 have hmm1:∀ W,(Instr.makeMap 190 none).run Tryz.prog W = .ok (.map (some W.heap.size)) (W.alloc (.map #[] 0)):=fun _=>rfl
 have hmm2:∀ W,(Instr.makeMap 191 none).run Tryz.prog W = .ok (.map (some W.heap.size)) (W.alloc (.map #[] 0)):=fun _=>rfl
 have hK2:K≤128:=by omega
 have hK1:1≤K:=by omega
 have hs9:s≤100000:=by omega
 have HCh:Hid (∀ k,k < K→(cs k).dv=true→∀ W,Below w.heap.size w W→Calls Tryz.prog 195 #[memV a, .int .i64 ((s+32 * k:Nat):Int)] W fun e w'=>e = .returned (.tuple #[chV a (s+32 * k) (cs k).cl 0 (cs k).g, .int .i64 0])∧Below W.heap.size W w'):=hid (fun k hk hd W hW=>by
  have hc:=hv k hk
  unfold CSok at hc
  rw [if_pos hd] at hc
  exact chOpen_cls (h.below hW) (ht.below hW) (hp.below hW) (s+32 * k) _ _ (by omega) hc.cls hc.g0 hc.g1 hc.hdr)
 have HCk:Hid (∀ k,k < K→(cs k).dv=true→∀ W,Below w.heap.size w W→Calls Tryz.prog 290 #[chV a (s+32 * k) (cs k).cl 0 (cs k).g] W fun e w'=>e = .returned (.int .i64 0)∧Below W.heap.size W w'):=hid (fun k hk hd W hW=>by
  have hc:=hv k hk
  unfold CSok at hc
  rw [if_pos hd] at hc
  exact chCheck_any (h.below hW) (ht.below hW) (hp.below hW) hc (by omega))
 clear h ht hp hv hK hn hs
 unfold memV at HA HCh
 unfold memV
 go_enter Tryz.func181,Tryz.ntmps181
 go_wp2_with (first
  | (go_at_call 288;refine HA.out.mono ?_;rintro e w1 ⟨rfl,hset,hb1⟩;obtain ⟨pl,hpl,hplc⟩:=setG_plc hset hK1;have HS1:=hid hplc;have HPl:=hid hpl;have HB1:=hid hb1;have HL:=hid (linesP_any HS1.out hK2 hs9);clear hset hb1 hpl hplc)
  | (go_at_call 197;refine HL.out.mono ?_;rintro e w2 ⟨A,m,c,rfl,ho,hb2⟩;have hmK:m=K:=(by have h1:=ho.1;rw [iCells_len] at h1;simp at h1;omega);have HO:=hid (Reads.of_own ho);have HS2:=hid (HS1.out.below hb2);have HB2:=hid (HB1.out.trans (hb2.mono HB1.out.size));clear ho hb2)
  | go_in)
 clear HA HL HS1 HB1
 subst hmK
 go_loopw [28] (fun i wr=>∃ (k:Nat),k≤m∧i = .int .i64 k∧Hid (Below w2.heap.size w2 wr)) (fun i _=>m - (Go.RowKit.intOf i).toNat)
 case atStart=>exact ⟨0,Nat.zero_le _,rfl,hid (Below.refl _ _)⟩
 case round =>
  obtain ⟨k,hk,rfl,HR⟩:=hrel
  by_cases hlt:k < m
  ·obtain ⟨b,off,hA,hbB,f0⟩:=lns_at (HO.out.below HR.out) hlt
   subst hA
   have HOw:=hid (ownerP_any (HS2.out.below HR.out) hK2 hs9 hlt)
   have HCk1:=hid (HCk.out k hlt)
   have HCh1:=hid (HCh.out k hlt)
   obtain ⟨ln,hln⟩:∃ ln,s+32 * k=ln:=⟨_,rfl⟩
   rw [hln] at f0 HOw HCk1 HCh1
   have hz5:(0:Int)≤(k:Int):=by omega
   have hz6:(k:Int) < (m:Int):=by omega
   clear hln hbB
   by_cases hd:(cs k).dv=true
   ·have ho:(cs k).own=0:=by unfold CS.own;rw [if_pos hd]
    rw [ho] at HOw
    have HC1:=hid (HCh1.out hd wr (HB2.out.trans (HR.out.mono HB2.out.size)))
    have HC2:=hid (HCk1.out hd)
    generalize (cs k).cl=ccl at *
    generalize (cs k).g=cg at *
    unfold chV memV at HC1 HC2
    clear hd ho HCk1 HCh1
    go_wp2_with (first
     | (go_at_call 289;refine HOw.out.mono ?_;rintro e w3 ⟨rfl,rfl⟩)
     | (go_at_call 195;refine HC1.out.mono ?_;rintro e w3 ⟨rfl,hb3⟩;have HB3:=hid (HR.out.trans (hb3.mono HR.out.size));clear hb3)
     | fail)
    have HB4:=hid (HB3.out.alloc HB3.out.size (.cells #[.iface 58 (.pointer (some ⟨a.th 0,0,none⟩)), .int .i64 (ln:Int), .int .i64 (ccl:Int), .int .i64 0, .int .u16 (cg:Int)] 306))
    have HC3:=hid (HC2.out _ (HB2.out.trans (HB4.out.mono HB2.out.size)))
    go_wp2_with (first
     | (go_at_call 290;refine HC3.out.mono ?_;rintro e w5 ⟨rfl,hb5⟩;have HB5:=hid (HB4.out.trans (hb5.mono HB4.out.size));clear hb5)
     | fail)
    go_roundw
    case rel =>
     first
      | exact ⟨k+1,by omega,by go_num,HB5⟩
      | (
        repeat apply Exists.intro
        refine ⟨?_,rfl⟩
        exact ⟨k+1,by omega,by go_num,HB5⟩)
    case measure=>simp [Go.RowKit.intOf];omega
   ·have ho:(cs k).own = -1:=by unfold CS.own;rw [if_neg hd]
    rw [ho] at HOw
    clear hd ho HCk1 HCh1
    go_wp2_with (first
     | (go_at_call 289;refine HOw.out.mono ?_;rintro e w3 ⟨rfl,rfl⟩)
     | fail)
    go_roundw
    case rel =>
     first
      | exact ⟨k+1,by omega,by go_num,HR⟩
      | (
        repeat apply Exists.intro
        refine ⟨?_,rfl⟩
        exact ⟨k+1,by omega,by go_num,HR⟩)
    case measure=>simp [Go.RowKit.intOf];omega
  ·obtain rfl:m=k:=by omega
   go_wp2
   go_ret2
   have HB2:=hid (HB2.out.trans (HR.out.mono HB2.out.size))
   have HS2:=hid (HS2.out.below HR.out)
   clear HR HO HCh HCk
   have e9:((wr.alloc (.map #[] 0)).alloc (.map #[] 0)).heap.size=wr.heap.size+1+1:=by simp
   have hb2:Below w.heap.size w ((wr.alloc (.map #[] 0)).alloc (.map #[] 0)):=(HB2.out.alloc HB2.out.size _).alloc (by have:=HB2.out.size;simp;omega) _
   have hplc:=HS2.out
   have hpl:=HPl.out
   have hsz:=HB2.out.size
   have hb3:∀ V,Below wr.heap.size wr (((wr.alloc (.map #[] 0)).alloc (.map #[] 0)).alloc V):=fun V=>(((Below.refl _ wr).alloc (Nat.le_refl _) _).alloc (by simp) _).alloc (by simp;omega) _
   have hm1:PMap ((wr.alloc (.map #[] 0)).alloc (.map #[] 0)) wr.heap.size 0 (fun _=>none) 0:=(PMap.new wr).chg ((Chg.refl Fp.no _).alloc _) (fun h=>h)
   have hm2:=HMap.new (wr.alloc (.map #[] 0))
   refine ⟨⟨wr.heap.size+1+1,w.heap.size,pl,0,wr.heap.size,wr.heap.size+1⟩,rfl,⟨by rw [← e9];exact Blk.new _ _ _,hplc.below (hb3 _),hm1.chg ((Chg.refl Fp.no _).alloc _) (fun h=>h),?_,?_⟩,⟨?_,Nat.le_refl _,?_,?_,?_⟩,hb2.alloc (by rw [e9];omega) _⟩
   ·have:=hm2.chg ((Chg.refl Fp.no _).alloc (.cells (heapCells a s n w.heap.size wr.heap.size (wr.heap.size+1) false) 194)) (fun h=>h)
    have e8:(wr.alloc (.map #[] 0)).heap.size=wr.heap.size+1:=by simp
    rw [e8] at this
    exact this
   ·show wr.heap.size≠wr.heap.size+1
    omega
   ·show w.heap.size≤wr.heap.size+1+1
    omega
   ·show w.heap.size≤pl
    omega
   ·exact hsz
   ·show w.heap.size≤wr.heap.size+1
    omega
end
section
open Go.RowKit Go.Maps
section
variable {ln cl V:Nat} {bs:Nat→BK} {take:List (Nat × Nat)} {drop:List Nat}
theorem chgW_mem {e:Nat × Nat} (h:e∈chgW ln cl bs take drop V):(∃ x∈take,e=(64 * ln+8 * offB cl x.1,(takenB (bs x.1) x.2).w))∨(∃ i∈drop,e=(64 * ln+8 * offB cl i,(freedB (bs i)).w))∨e=(64 * ln+8,V):=by
 unfold chgW tkW drW at h
 rcases List.mem_append.1 h with h | h
 ·rcases List.mem_append.1 h with h | h
  ·obtain ⟨x,hx,rfl⟩:=List.mem_map.1 h
   exact .inl ⟨x,hx,rfl⟩
  ·obtain ⟨x,hx,rfl⟩:=List.mem_map.1 h
   exact .inr (.inl ⟨x,hx,rfl⟩)
 ·exact .inr (.inr (List.mem_singleton.1 h))
theorem chgW_at (h1:∀ e∈take,e.1 < perC cl) (h2:∀ i∈drop,i < perC cl) {e:Nat × Nat} (h:e∈chgW ln cl bs take drop V):e.1 % 8=0∧hdrAt ln cl (e.1 / 8)∧e.1 / 8≠8 * ln∧64 * ln≤e.1∧e.1 < 64 * ln+2048∧(e.1 / 8=8 * ln+1∨8 * ln+8≤e.1 / 8):=by
 have hb:∀ i,i < perC cl→(64 * ln+8 * offB cl i) % 8=0∧hdrAt ln cl ((64 * ln+8 * offB cl i) / 8)∧(64 * ln+8 * offB cl i) / 8≠8 * ln∧64 * ln≤64 * ln+8 * offB cl i∧64 * ln+8 * offB cl i < 64 * ln+2048∧((64 * ln+8 * offB cl i) / 8=8 * ln+1∨8 * ln+8≤(64 * ln+8 * offB cl i) / 8):=fun i hi=>by
  have h3:=off_lt hi
  have h4:=offB_ge cl i
  refine ⟨by omega, .inr ⟨i,hi,by omega⟩,by omega,by omega,by omega, .inr (by omega)⟩
 rcases chgW_mem h with ⟨x,hx,rfl⟩ | ⟨i,hi,rfl⟩ | rfl
 ·exact hb _ (h1 x hx)
 ·exact hb _ (h2 i hi)
 ·exact ⟨by show (64 * ln+8) % 8=0;omega, .inl (by show 8 * ln≤(64 * ln+8) / 8∧(64 * ln+8) / 8 < 8 * ln+8;omega),by show (64 * ln+8) / 8≠8 * ln;omega,by show 64 * ln≤64 * ln+8;omega,by show 64 * ln+8 < _;omega, .inl (by show (64 * ln+8) / 8=_;omega)⟩
theorem chgW_nodup (hn:(take.map (·.1)++drop).Nodup):((chgW ln cl bs take drop V).map (·.1)).Nodup:=by
 unfold chgW tkW drW
 rw [List.map_append,List.map_append,List.map_map,List.map_map]
 have e:take.map ((fun x:Nat × Nat=>x.1) ∘ fun e=>(64 * ln+8 * offB cl e.1,(takenB (bs e.1) e.2).w))++drop.map ((fun x:Nat × Nat=>x.1) ∘ fun i=>(64 * ln+8 * offB cl i,(freedB (bs i)).w))=(take.map (·.1)++drop).map fun i=>64 * ln+8 * offB cl i:=by
  rw [List.map_append,List.map_map]
  rfl
 rw [e,List.nodup_append]
 refine ⟨List.pairwise_map.2 (hn.imp (fun hne e=>hne (offB_inj (c:=cl) (by omega)))),by simp,?_⟩
 intro a ha b hb e
 obtain ⟨i,_,rfl⟩:=List.mem_map.1 ha
 simp at hb
 have:=offB_ge cl i
 omega
theorem chgW_val (hV:V < 18446744073709551616) (h1:∀ e∈take,(bs e.1).In∧e.2 < 128) (h2:∀ i∈drop,(bs i).In) {e:Nat × Nat} (h:e∈chgW ln cl bs take drop V):e.2 < 18446744073709551616:=by
 rcases chgW_mem h with ⟨x,hx,rfl⟩ | ⟨i,hi,rfl⟩ | rfl
 ·exact BK.w_lt (takenB_in (h1 x hx).1 (by have:=(h1 x hx).2;omega))
 ·exact BK.w_lt (freedB_in (h2 i hi))
 ·exact hV
theorem actB_tk (hn:(take.map (·.1)++drop).Nodup) {e:Nat × Nat} (he:e∈take):actB bs take drop e.1=takenB (bs e.1) e.2:=by
 obtain ⟨n1,n2,n3⟩:=List.nodup_append.1 hn
 have h1:=foldB_out (fun i:Nat=>i) (fun i=>freedB (bs i)) e.1 drop (tkB bs take) (fun h=>by
  rw [show drop.map (fun i:Nat=>i)=drop from List.map_id' drop] at h
  exact n3 _ (List.mem_map.2 ⟨e,he,rfl⟩) _ h rfl)
 have h2:=foldB_in (fun e:Nat × Nat=>e.1) (fun e=>takenB (bs e.1) e.2) take bs n1 e he
 exact h1.trans h2
theorem actB_dr (hn:(take.map (·.1)++drop).Nodup) {i:Nat} (hi:i∈drop):actB bs take drop i=freedB (bs i):=by
 obtain ⟨n1,n2,n3⟩:=List.nodup_append.1 hn
 exact foldB_in (fun i:Nat=>i) (fun i=>freedB (bs i)) drop (tkB bs take) (by rw [show drop.map (fun i:Nat=>i)=drop from List.map_id' drop];exact n2) i hi
theorem actB_out {i:Nat} (h1:i ∉ take.map (·.1)) (h2:i ∉ drop):actB bs take drop i=bs i:=by
 have h3:=foldB_out (fun i:Nat=>i) (fun i=>freedB (bs i)) i drop (tkB bs take) (fun h=>by
  rw [show drop.map (fun i:Nat=>i)=drop from List.map_id' drop] at h
  exact h2 h)
 have h4:=foldB_out (fun e:Nat × Nat=>e.1) (fun e=>takenB (bs e.1) e.2) i take bs h1
 exact h3.trans h4
end
def lookAt (s:Nat) (cs:Nat→CS) (k i:Nat):Prop:=if (cs k).dv then hdrAt (s+32 * k) (cs k).cl i else i=8 * (s+32 * k)
structure UOk (L s0 s K:Nat) (cs:Nat→CS) (us:List (Nat × Nat)):Prop where
 off:∀ e∈us,OffOk L s0 26 e.1
 val:∀ e∈us,e.2 < 18446744073709551616
 free:∀ e∈us,∀ k,k < K→¬ lookAt s cs k (e.1 / 8)
 nd:(us.map (·.1)).Nodup
structure AOk (s K:Nat) (cs:Nat→CS) (ks:List Nat) (tl:Nat→List (Nat × Nat)) (dl:Nat→List Nat) (V:Nat→Nat):Prop where
 nd:ks.Nodup
 lt:∀ k∈ks,k < K∧(cs k).dv=true
 once:∀ k∈ks,((tl k).map (·.1)++dl k).Nodup
 tk:∀ k∈ks,∀ e∈tl k,e.1 < perC (cs k).cl∧((cs k).bs e.1).st=176∧0 < e.2∧e.2 < 128
 dr:∀ k∈ks,∀ i∈dl k,i < perC (cs k).cl∧((cs k).bs i).st=177
 bits:∀ k∈ks,Bits (V k) (cs k).cl (actB (cs k).bs (tl k) (dl k))
def acW (s:Nat) (cs:Nat→CS) (tl:Nat→List (Nat × Nat)) (dl:Nat→List Nat) (V:Nat→Nat) (k:Nat):List (Nat × Nat):=chgW (s+32 * k) (cs k).cl (cs k).bs (tl k) (dl k) (V k)
def acC (cs:Nat→CS) (ks:List Nat) (tl:Nat→List (Nat × Nat)) (dl:Nat→List Nat) (V:Nat→Nat):Nat→CS:=fun k=>if k∈ks then { cs k with V:=V k,bs:=actB (cs k).bs (tl k) (dl k) } else cs k
theorem nodup_flat {f:Nat→List (Nat × Nat)}:∀ (ks:List Nat),ks.Nodup→(∀ k∈ks,((f k).map (·.1)).Nodup)→(∀ k∈ks,∀ k'∈ks,k≠k'→∀ e∈f k,∀ e'∈f k',e.1≠e'.1)→((ks.flatMap f).map (·.1)).Nodup
 | [],_,_,_=>by simp
 | k :: ks,hn,h1,h2=>by
  rw [List.nodup_cons] at hn
  rw [List.flatMap_cons,List.map_append,List.nodup_append]
  refine ⟨h1 k (by simp),nodup_flat ks hn.2 (fun k' hk'=>h1 k' (by simp [hk'])) (fun a ha b hb=>h2 a (by simp [ha]) b (by simp [hb])),?_⟩
  intro x hx y hy e
  obtain ⟨e1,he1,rfl⟩:=List.mem_map.1 hx
  obtain ⟨e2,he2,rfl⟩:=List.mem_map.1 hy
  obtain ⟨k',hk',he2⟩:=List.mem_flatMap.1 he2
  exact h2 k (by simp) k' (by simp [hk']) (fun e=>hn.1 (e ▸ hk')) e1 he1 e2 he2 e
theorem diff_of_nodup {ws:List (Nat × Nat)} (h:(ws.map (·.1)).Nodup):Diff ws:=fun i j hi hj hne e=>by
 have hp:ws.Pairwise fun p q=>p.1≠q.1:=List.pairwise_map.1 h
 have h1:=List.pairwise_iff_getElem.1 hp
 rcases Nat.lt_or_ge i j with hij | hij
 ·exact h1 i j hi hj hij e
 ·exact h1 j i hj hi (by omega) e.symm
section
variable {a:DA} {L T s n K:Nat} {x:HA} {cs:Nat→CS} {f:Nat→Option Nat} {N m b0:Nat} {S:Fp} {cur:Nat→Nat} {w w':World} {s0:Nat} {us:List (Nat × Nat)} {ks:List Nat} {tl:Nat→List (Nat × Nat)} {dl:Nat→List Nat} {V:Nat→Nat}
theorem AOk.at_ (h:AOk s K cs ks tl dl V) {k:Nat} (hk:k∈ks) {e:Nat × Nat} (he:e∈acW s cs tl dl V k):e.1 % 8=0∧hdrAt (s+32 * k) (cs k).cl (e.1 / 8)∧e.1 / 8≠8 * (s+32 * k)∧64 * (s+32 * k)≤e.1∧e.1 < 64 * (s+32 * k)+2048∧(e.1 / 8=8 * (s+32 * k)+1∨8 * (s+32 * k)+8≤e.1 / 8) :=
 chgW_at (fun e he=>(h.tk k hk e he).1) (fun i hi=>(h.dr k hk i hi).1) he
theorem AOk.mem (_h:AOk s K cs ks tl dl V) {e:Nat × Nat} (he:e∈ks.flatMap (acW s cs tl dl V)):∃ k∈ks,e∈acW s cs tl dl V k:=by
 obtain ⟨k,hk,hk2⟩:=List.mem_flatMap.1 he
 exact ⟨k,hk,hk2⟩
theorem pub_nodup (hu:UOk L s0 s K cs us) (h:AOk s K cs ks tl dl V):((us++ks.flatMap (acW s cs tl dl V)).map (·.1)).Nodup:=by
 rw [List.map_append,List.nodup_append]
 refine ⟨hu.nd,nodup_flat ks h.nd (fun k hk=>chgW_nodup (h.once k hk)) ?_,?_⟩
 ·intro k hk k' hk' hne e he e' he' heq
  have h1:=h.at_ hk he
  have h2:=h.at_ hk' he'
  omega
 ·intro y hy z hz e
  obtain ⟨e1,he1,rfl⟩:=List.mem_map.1 hy
  obtain ⟨e2,he2,rfl⟩:=List.mem_map.1 hz
  obtain ⟨k,hk,hk2⟩:=h.mem he2
  have h1:=(h.at_ hk hk2).2.1
  refine hu.free e1 he1 k (h.lt k hk).1 ?_
  unfold lookAt
  rw [(h.lt k hk).2,if_pos rfl,e]
  exact h1
theorem pub_off (hd:DS a L T s n K x cs f N m b0 S cur w) (hs0:s0+26≤s) (hu:UOk L s0 s K cs us) (h:AOk s K cs ks tl dl V):∀ e∈us++ks.flatMap (acW s cs tl dl V),OffOk L s0 26 e.1:=fun e he=>by
 rcases List.mem_append.1 he with he | he
 ·exact hu.off e he
 ·obtain ⟨k,hk,hk2⟩:=h.mem he
  obtain ⟨h1,_,_,h4,h5,_⟩:=h.at_ hk hk2
  have hl:=hd.line (h.lt k hk).1
  exact ⟨h1,by omega, .inr (by omega)⟩
theorem pub_val (hd:DS a L T s n K x cs f N m b0 S cur w) (hu:UOk L s0 s K cs us) (h:AOk s K cs ks tl dl V):∀ e∈us++ks.flatMap (acW s cs tl dl V),e.2 < 18446744073709551616:=fun e he=>by
 rcases List.mem_append.1 he with he | he
 ·exact hu.val e he
 ·obtain ⟨k,hk,hk2⟩:=h.mem he
  have hC:=hd.chw (h.lt k hk).1 (h.lt k hk).2
  exact chgW_val (h.bits k hk).lt (fun e he=>⟨hC.inn _ (h.tk k hk e he).1,(h.tk k hk e he).2.2.2⟩) (fun i hi=>hC.inn _ (h.dr k hk i hi).1) hk2
theorem pub_rest {cm:Nat} (_hd:DS a L T s n K x cs f N m b0 S cur w) (_hs0:s0+26≤s) (h:AOk s K cs ks tl dl V) (hlen:(us++ks.flatMap (acW s cs tl dl V)).length≤96) {i:Nat} (hi:i < 8 * s0∨8 * s0+208≤i) (h1:∀ e∈us,e.1 / 8≠i) (h2:∀ k∈ks,∀ e∈acW s cs tl dl V k,e.1 / 8≠i) :
  rdG s0 cur (us++ks.flatMap (acW s cs tl dl V)) cm i=cur i:=by
 refine rdG_rest hlen hi (fun e he=>?_)
 rcases List.mem_append.1 he with he | he
 ·exact h1 e he
 ·obtain ⟨k,hk,hk2⟩:=h.mem he
  exact h2 k hk e hk2
theorem pub_pay {cm k i j:Nat} (hd:DS a L T s n K x cs f N m b0 S cur w) (hs0:s0+26≤s) (h:AOk s K cs ks tl dl V) (hlen:(us++ks.flatMap (acW s cs tl dl V)).length≤96) (hk:k < K) (hdv:(cs k).dv=true) (hi:i < perC (cs k).cl) (hj:j < payW (cs k).cl) (h1:∀ e∈us,e.1 / 8≠8 * (s+32 * k)+offB (cs k).cl i+1+j) :
  rdG s0 cur (us++ks.flatMap (acW s cs tl dl V)) cm (8 * (s+32 * k)+offB (cs k).cl i+1+j)=cur (8 * (s+32 * k)+offB (cs k).cl i+1+j):=by
 obtain ⟨p1,p2,p3,p4⟩:=pay_word (ln:=s+32 * k) hi hj
 refine pub_rest hd hs0 h hlen (.inr (by omega)) h1 (fun k' hk' e he heq=>?_)
 obtain ⟨q1,q2,q3,q4,q5,_⟩:=h.at_ hk' he
 by_cases e1:k'=k
 ·subst e1
  rw [heq] at q2
  exact p4 q2
 ·omega
theorem pub_ok {cm:Nat} (hd:DS a L T s n K x cs f N m b0 S cur w) (hs0:s0+26≤s) (hu:UOk L s0 s K cs us) (h:AOk s K cs ks tl dl V) (hlen:(us++ks.flatMap (acW s cs tl dl V)).length≤96) :
  ∀ k,k < K→CSok (rdG s0 cur (us++ks.flatMap (acW s cs tl dl V)) cm) (s+32 * k) (acC cs ks tl dl V k):=fun k hk=>by
 have hno:∀ i,8 * (s+32 * k)≤i→i < 8 * (s+32 * k)+256→lookAt s cs k i→(∀ e∈us,e.1 / 8≠i):=fun i _ _ hl e he heq=>hu.free e he k hk (heq ▸ hl)
 unfold acC
 by_cases hks:k∈ks
 ·rw [if_pos hks]
  have hdv:=(h.lt k hks).2
  have hC:=hd.chw hk hdv
  have hlk:∀ i,hdrAt (s+32 * k) (cs k).cl i→lookAt s cs k i:=fun i hi=>by unfold lookAt;rw [hdv,if_pos rfl];exact hi
  have hget:∀ e∈acW s cs tl dl V k,rdG s0 cur (us++ks.flatMap (acW s cs tl dl V)) cm (e.1 / 8)=e.2:=fun e he=>rdG_get (pub_off hd hs0 hu h) (pub_nodup hu h) (List.mem_append.2 (.inr (List.mem_flatMap.2 ⟨k,hks,he⟩)))
  have hrest:∀ i,hdrAt (s+32 * k) (cs k).cl i→(∀ e∈acW s cs tl dl V k,e.1 / 8≠i)→rdG s0 cur (us++ks.flatMap (acW s cs tl dl V)) cm i=cur i:=fun i hi hne=>by
   have hin:=hdrAt_in hi
   refine pub_rest hd hs0 h hlen (.inr (by omega)) (hno i (by omega) (by omega) (hlk i hi)) (fun k' hk' e he=>?_)
   by_cases e1:k'=k
   ·subst e1;exact hne e he
   ·obtain ⟨q1,q2,q3,q4,q5,_⟩:=h.at_ hk' he
    omega
  unfold CSok
  show if (cs k).dv=true then _ else _
  rw [if_pos hdv]
  have hon:=h.once k hks
  refine ⟨?_,hC.cls,hC.g0,hC.g1,?_,(h.bits k hks).lt,?_,?_,?_,?_,(h.bits k hks).bit,(h.bits k hks).top⟩
  ·exact (hrest _ (.inl ⟨by omega,by omega⟩) (fun e he=>by have:=h.at_ hks he;omega)).trans hC.hdr
  ·have h1:=hget (64 * (s+32 * k)+8,V k) (by unfold acW chgW;simp)
   have e:(64 * (s+32 * k)+8) / 8=8 * (s+32 * k)+1:=by omega
   rw [← e]
   exact h1
  ·intro j h2 h8
   exact (hrest _ (.inl ⟨by omega,by omega⟩) (fun e he=>by have:=h.at_ hks he;omega)).trans (hC.zero j h2 h8)
  ·intro i hi
   show (actB (cs k).bs (tl k) (dl k) i).In
   by_cases h1:i∈(tl k).map (·.1)
   ·obtain ⟨e,he,rfl⟩:=List.mem_map.1 h1
    rw [actB_tk hon he]
    exact takenB_in (hC.inn _ hi) (by have:=(h.tk k hks e he).2.2.2;omega)
   ·by_cases h2:i∈dl k
    ·rw [actB_dr hon h2]
     exact freedB_in (hC.inn _ hi)
    ·rw [actB_out h1 h2]
     exact hC.inn _ hi
  ·intro i hi
   show (actB (cs k).bs (tl k) (dl k) i).good=true
   by_cases h1:i∈(tl k).map (·.1)
   ·obtain ⟨e,he,rfl⟩:=List.mem_map.1 h1
    obtain ⟨_,t2,t3,t4⟩:=h.tk k hks e he
    rw [actB_tk hon he]
    exact takenB_good (hC.good _ hi) t2 t3 t4
   ·by_cases h2:i∈dl k
    ·rw [actB_dr hon h2]
     exact freedB_good _
    ·rw [actB_out h1 h2]
     exact hC.good _ hi
  ·intro i hi
   show _=(actB (cs k).bs (tl k) (dl k) i).w
   have e0:(64 * (s+32 * k)+8 * offB (cs k).cl i) / 8=8 * (s+32 * k)+offB (cs k).cl i:=by omega
   by_cases h1:i∈(tl k).map (·.1)
   ·obtain ⟨e,he,rfl⟩:=List.mem_map.1 h1
    rw [actB_tk hon he,← e0]
    exact hget _ (by
     unfold acW chgW tkW
     exact List.mem_append.2 (.inl (List.mem_append.2 (.inl (List.mem_map.2 ⟨e,he,rfl⟩)))))
   ·by_cases h2:i∈dl k
    ·rw [actB_dr hon h2,← e0]
     exact hget _ (by
      unfold acW chgW drW
      exact List.mem_append.2 (.inl (List.mem_append.2 (.inr (List.mem_map.2 ⟨i,h2,rfl⟩)))))
    ·rw [actB_out h1 h2]
     refine (hrest _ (.inr ⟨i,hi,rfl⟩) (fun e he heq=>?_)).trans (hC.word i hi)
     have h8:=offB_ge (cs k).cl i
     unfold acW at he
     rcases chgW_mem he with ⟨y,hy,rfl⟩ | ⟨i',hi',rfl⟩ | rfl
     ·have:offB (cs k).cl y.1=offB (cs k).cl i:=by
       have:(64 * (s+32 * k)+8 * offB (cs k).cl y.1) / 8=8 * (s+32 * k)+offB (cs k).cl i:=heq
       omega
      exact h1 (List.mem_map.2 ⟨y,hy,offB_inj this⟩)
     ·have:offB (cs k).cl i'=offB (cs k).cl i:=by
       have:(64 * (s+32 * k)+8 * offB (cs k).cl i') / 8=8 * (s+32 * k)+offB (cs k).cl i:=heq
       omega
      exact h2 (offB_inj this ▸ hi')
     ·have:(64 * (s+32 * k)+8) / 8=8 * (s+32 * k)+offB (cs k).cl i:=heq
      omega
 ·rw [if_neg hks]
  have hfar:∀ i,8 * (s+32 * k)≤i→i < 8 * (s+32 * k)+256→∀ k'∈ks,∀ e∈acW s cs tl dl V k',e.1 / 8≠i:=fun i h1 h2 k' hk' e he heq=>by
   obtain ⟨q1,q2,q3,q4,q5,_⟩:=h.at_ hk' he
   have:k'≠k:=fun e=>hks (e ▸ hk')
   omega
  have hok:=hd.ok k hk
  cases hdv:(cs k).dv with
  | true =>
   refine hok.same (fun i h1 h2 h3=>?_)
   have hl:lookAt s cs k i:=by unfold lookAt;rw [hdv,if_pos rfl];exact h3 hdv
   exact pub_rest hd hs0 h hlen (.inr (by omega)) (hno i h1 h2 hl) (hfar i h1 h2)
  | false =>
   unfold CSok at hok ⊢
   rw [hdv] at hok ⊢
   simp only [Bool.false_eq_true,if_false] at hok ⊢
   obtain ⟨o1,o2⟩:=hok
   have hl:lookAt s cs k (8 * (s+32 * k)):=by unfold lookAt;rw [hdv];simp
   exact ⟨(pub_rest hd hs0 h hlen (.inr (by omega)) (hno _ (by omega) (by omega) hl) (hfar _ (by omega) (by omega))).trans o1,o2⟩
theorem acC_dv (cs:Nat→CS) (ks:List Nat) (tl:Nat→List (Nat × Nat)) (dl:Nat→List Nat) (V:Nat→Nat) (k:Nat):(acC cs ks tl dl V k).dv=(cs k).dv∧(acC cs ks tl dl V k).cl=(cs k).cl∧(acC cs ks tl dl V k).g=(cs k).g:=by
 unfold acC
 split <;> exact ⟨rfl,rfl,rfl⟩
theorem Plc.same {p:PA} {cs cs':Nat→CS} (h:Plc a s K p cs w) (he:∀ k,k < K→(cs' k).cls=(cs k).cls∧(cs' k).own=(cs k).own):Plc a s K p cs' w:=by
 obtain ⟨h1,pcs,hp,hk⟩:=h
 refine ⟨h1,pcs,hp,fun k hkK=>?_⟩
 obtain ⟨q1,q2,q3,q4⟩:=hk k hkK
 obtain ⟨e1,e2⟩:=he k hkK
 exact ⟨q1,by rw [e1];exact q2,by rw [e2];exact q3,q4⟩
theorem DS.pub {cm T':Nat} {S':Fp} (hd:DS a L T s n K x cs f N m b0 S cur w) (hs0:s0+26≤s) (hu:UOk L s0 s K cs us) (h:AOk s K cs ks tl dl V) (hlen:(us++ks.flatMap (acW s cs tl dl V)).length≤96) (hcm:cm < 18446744073709551616)
  (hD:Dev a L T' w' S' (rdG s0 cur (us++ks.flatMap (acW s cs tl dl V)) cm) 0) (hc:Chg S w w') (hg:Grew S S' w) :
  DS a L T' s n K x (acC cs ks tl dl V) f N m b0 S' (rdG s0 cur (us++ks.flatMap (acW s cs tl dl V)) cm) w':=by
 have hb:∀ i,rdG s0 cur (us++ks.flatMap (acW s cs tl dl V)) cm i < 18446744073709551616:=rdG_bnd hd.bnd (fun e he=>⟨by have h1:=(pub_off hd hs0 hu h e he).lt;have:=hd.hL;omega,pub_val hd hu h e he⟩) hcm
 obtain ⟨o1,o2,o3,o4,o5⟩:=hd.off
 obtain ⟨l1,l2,l3,l4,l5,l6,l7,l8⟩:=hd.lo
 obtain ⟨z1,z2,z3,z4,z5⟩:=hd.hs.lt
 have hlow:∀ g,g < b0→¬ S g:=fun g hgb hs=>by have:=l8 g hs;omega
 have hs1:=hd.hs.chg hc o1 o2 o3 o4 o5
 refine ⟨hD,⟨hs1.heap,hs1.plc.same (fun k hk=>?_),hs1.res,hs1.held,hs1.ne⟩,pub_ok hd hs0 hu h hlen,hb,fun o p hop=>?_,hd.tab.chg hc (hlow _ l1),fun i hi=>(World.cell?_of_block (w:=w) (hc.block _ hd.pay.size (hlow _ l2))).trans (hd.pay i hi),⟨l1,l2,l3,l4,l5,l6,l7,fun k hk=>?_⟩,⟨?_,?_,?_,?_,?_⟩,hd.hK⟩
 ·obtain ⟨e1,e2,e3⟩:=acC_dv cs ks tl dl V k
  unfold CS.cls CS.own
  rw [e1,e2]
  exact ⟨rfl,rfl⟩
 ·obtain ⟨k,i,hk,hdv,hi,ho,hpo⟩:=hd.res o p hop
  obtain ⟨e1,e2,e3⟩:=acC_dv cs ks tl dl V k
  exact ⟨k,i,hk,by rw [e1];exact hdv,by rw [e2];exact hi,by rw [e2];exact ho,hpo⟩
 ·rcases hg k hk with h' | h'
  ·exact l8 k h'
  ·omega
 all_goals
  refine hg.off ⟨?_,?_⟩
  ·omega
  ·assumption
end
end
end Go.Proofs.YtfkjjoglnmeciaaGreatDoor
