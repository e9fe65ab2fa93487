/- The walks and laws that the claim leans on, part 4. -/
import Derived.Test.YtfkjjoglnmeciaaGreatDoorJac
set_option maxRecDepth 100000
set_option maxHeartbeats 16000000
namespace Go.Proofs.YtfkjjoglnmeciaaGreatDoor
open Go.Lib (hid)
section
open Go.RowKit Go.Maps
def clearL (s:LS) (i:Nat):LS:=⟨fun k=>if k=i then s.dn i+s.m i else s.dn k,fun k=>if k=i then 0 else s.m k,fun k=>if k=i then .slice none 0 0 else s.h k,fun k=>if k=i then [] else s.xs k,wrS s.pw (s.ws i),fun k=>if k=i then [] else s.ws k⟩
def RetPers (a:DA) (L T:Nat) (w:World) (S:Fp) (cur:Nat→Nat) (s:LS) (exe:Int) (cs:Array Value) (i:Nat) (e:Ending) (w':World):Prop :=
 e = .returned (.tuple #[])∧(∃ per' ls',DevC a L T w' S cur (clearL s i) exe per' cs ls')∧Chg (fun k=>k=a.pb∨k=a.lb) w w'
section
variable {a:DA} {L T:Nat} {w:World} {S:Fp} {cur:Nat→Nat} {s:LS} {exe:Int} {per cs ls:Array Value}
theorem persist_any (h:DevC a L T w S cur s exe per cs ls) (i:Nat) (hi:i < L) (hm:0 < s.m i) :
  Calls Tryz.prog 428 #[.pointer (some ⟨a.d,0,none⟩), .int .i64 (i:Int), .int .i64 (s.m i:Int)] w (RetPers a L T w S cur s exe cs i):=by
 have ho:=h.own i hi
 obtain ⟨hA,hc,hv⟩:=own_slice ho
 rw [hv] at ho
 obtain ⟨g,cap,hve,_,_⟩:=ho.form hm
 have hA':hA=some ⟨g,0,none⟩:=by injection hve
 subst hA'
 have hls:=h.linS
 have hfew:=h.few i hi
 have hT:=h.hT
 refine (persist_core L a.d a.pb a.lb g (s.m i) hc i (s.dn i) per ls (s.xs i) s.pw (s.ws i) (h.hx i hi) w hi h.perB ⟨h.perS,h.pv⟩ ho (h.ok i hi) (by omega) h.hL (h.dev.cell 0) (h.dev.cell 2) h.linB (h.linD i hi) (by rw [h.linH i hi,hv])).mono ?_
 rintro e w' ⟨rfl,per',hB,hI,hl,hC⟩
 have n1:∀ {k:Nat} {t:TypeId} {xs:Array Value},Blk w k t xs→t≠32→t≠298→¬ (k=a.pb∨k=a.lb):=fun hB h1 h2 hk=>by
  rcases hk with rfl | rfl
  ·exact hB.ne_ h.perB h1 rfl
  ·exact hB.ne_ h.linB h2 rfl
 refine ⟨rfl,⟨per',(ls.setIfInBounds (i * 2) (.int .u64 ((s.dn i+s.m i:Nat):Int))).setIfInBounds (i * 2+1) (.slice none 0 0),?_⟩,hC⟩
 exact
 {dev:=hC.blk h.dev (n1 h.dev (by decide) (by decide))
  perB:=hB
  perS:=hI.1
  perI:=fun k hk=>⟨_,hI.2 k hk⟩
  curB:=hC.blk h.curB (fun hk=>by
   rcases hk with hk | hk
   ·exact h.ne hk.symm
   ·exact h.curB.ne_ h.linB (by decide) hk)
  curS:=h.curS
  curL:=h.curL
  curM:=h.curM
  curI:=h.curI
  linB:=hl
  linS:=by simpa using h.linS
  linD:=fun k hk=>by
   rw [set_at _ (by simp;omega),if_neg (by omega),set_at _ (by omega)]
   by_cases hki:k=i
   ·rw [if_pos (by omega)];simp only [clearL,if_pos hki]
   ·rw [if_neg (by omega)];simp only [clearL,if_neg hki];exact h.linD k hk
  linH:=fun k hk=>by
   rw [set_at _ (by simp;omega)]
   by_cases hki:k=i
   ·rw [if_pos (by omega)];simp only [clearL,if_pos hki]
   ·rw [if_neg (by omega),set_at _ (by omega),if_neg (by omega)];simp only [clearL,if_neg hki];exact h.linH k hk
  own:=fun k hk=>by
   by_cases hki:k=i
   ·simp only [clearL,if_pos hki];exact World.ownsRow_nil _ _ _ _
   ·simp only [clearL,if_neg hki]
    refine hC.own (h.own k hk) (fun g hg hk'=>?_)
    rcases hk' with rfl | rfl
    ·exact own_blk_ne (h.own k hk) h.perB (by decide) hg
    ·exact own_blk_ne (h.own k hk) h.linB (by decide) hg
  ok:=fun k hk=>by
   by_cases hki:k=i
   ·simp only [clearL,if_pos hki];intro j hj;omega
   ·simp only [clearL,if_neg hki];exact h.ok k hk
  few:=fun k hk=>by
   by_cases hki:k=i
   ·subst hki;simp only [clearL,if_true];omega
   ·simp only [clearL,if_neg hki];exact h.few k hk
  apart:=fun x y g hx hy h1 h2=>by
   by_cases hx':x=i
   ·simp only [clearL,if_pos hx',Value.ownBlock] at h1;cases h1
   ·by_cases hy':y=i
    ·simp only [clearL,if_pos hy',Value.ownBlock] at h2;cases h2
    ·simp only [clearL,if_neg hx'] at h1
     simp only [clearL,if_neg hy'] at h2
     exact h.apart x y g hx hy h1 h2
  thr:=fun j hj=>hC.blk (h.thr j hj) (n1 (h.thr j hj) (by decide) (by decide))
  sd:=h.sd
  sp:=h.sp
  sc:=h.sc
  sl:=h.sl
  sn:=h.sn
  st:=h.st
  sh:=fun k g hk hg=>by
   by_cases hki:k=i
   ·simp only [clearL,if_pos hki,Value.ownBlock] at hg;cases hg
   ·simp only [clearL,if_neg hki] at hg;exact h.sh k g hk hg
  lt:=fun k hk=>Nat.lt_of_lt_of_le (h.lt k hk) hC.size
  ne:=h.ne
  hL:=h.hL
  hT:=h.hT
  pv:=hI.2
  hx:=fun k hk=>by
   by_cases hki:k=i
   ·simp only [clearL,if_pos hki];rfl
   ·simp only [clearL,if_neg hki];exact h.hx k hk
  lin:=fun k hk e he=>by
   by_cases hki:k=i
   ·simp only [clearL,if_pos hki] at he;cases he
   ·simp only [clearL,if_neg hki] at he;exact h.lin k hk e he
  link:=fun k hk=>by
   by_cases hki:k / 8=i
   ·simp only [clearL,if_pos hki]
    show wrS s.pw (s.ws i) k=cur k
    rw [← hki];exact h.link k hk
   ·simp only [clearL,if_neg hki]
    refine (wrS_congr _ _ s.pw k (wrS_away _ _ k (fun e he h1=>hki ?_))).trans (h.link k hk)
    have:=h.lin i hi e he
    omega }
theorem clearL_ws (s:LS) (i k:Nat):(clearL s i).ws k=[]∨(clearL s i).ws k=s.ws k:=by
 by_cases hki:k=i
 ·exact .inl (by simp [clearL,hki])
 ·exact .inr (by simp [clearL,hki])
theorem DevC.none (h:DevC a L T w S cur s exe per cs ls) {i:Nat} (hi:i < L) (hm:s.m i=0):s.ws i=[]:=by
 have h1:=(h.own i hi).1
 rw [h.hx i hi,wrCells_len,hm] at h1
 exact List.eq_nil_of_length_eq_zero (by omega)
theorem clearL_sum (s:LS) (i k:Nat):(clearL s i).dn k+(clearL s i).m k=s.dn k+s.m k:=by
 by_cases hki:k=i
 ·subst hki;simp [clearL]
 ·simp [clearL,hki]
end
theorem atKey_mem {H:Type} [Inhabited H] {l:List (Lit × DataW H)} {kl:Lit} {d:DataW H} (h:∀ zd,(DataW.map l).atKey kl zd=d):∃ p∈l,p.1.sameKey kl=true∧p.2=d:=by
 cases hf:l.find? (fun p=>p.1.sameKey kl) with
 | some p =>
  refine ⟨p,List.mem_of_find?_eq_some hf,by simpa using List.find?_some hf,?_⟩
  have:=h .nil
  simpa [DataW.atKey,hf] using this
 | none =>
  have h1:=h .nil
  have h2:=h (.map [])
  simp [DataW.atKey,hf] at h1 h2
  rw [← h1] at h2
  cases h2
theorem clear_map {H:Type} {P:Program} {k e t:TypeId} {R:Value→Option (DataW H × List MemPlace)} {w:World} {b n:Nat} {D:DataW H} (h:w.ownsMap P k R b n D) (ht:P.underlying t=some (.map k e)) :
  ∃ w',(∀ ty,(Builtin.clear_ #[t] ty #[.map (some b)]).run P w = .ok (.tuple #[]) w')∧w'.ownsMap P k R b 0 (.map [])∧w.grownBy w' (some b):=by
 obtain ⟨es,clock,hb,F,_,_⟩:=h
 have hs:=ChangeMaps.heap_setBlock_same hb (.map #[] clock)
 refine ⟨ChangeMaps.setBlock w b (.map #[] clock),fun ty=>?_,⟨#[],clock,hs,⟨by simp,MapKept.stamped_empty clock,by simp⟩,Nat.le_refl _,rfl⟩,⟨rfl,rfl,rfl,by simp [ChangeMaps.setBlock],fun i _ hi=>ChangeMaps.heap_setBlock_other hb _ (fun e=>hi (by rw [e]))⟩⟩
 simp [Builtin.clear_,run_underlying ht,MapKept.run_getObj_map hb,MapKept.run_setObj_map _ hb,Result.andThen,ChangeMaps.setBlock]
theorem ranges_chg {H:Type} {P:Program} {k:TypeId} {R:Value→Option (DataW H × List MemPlace)} {w w':World} {b r n:Nat} {D:DataW H} {left:Lit→Bool} {cnt:Nat} {Z:Fp} (h:w.ranges P k R b r n D left cnt) (hc:Chg Z w w') (hb':¬ Z b) (hr':¬ Z r):w'.ranges P k R b r n D left cnt:=by
 have h1:=h.owns.lt
 have h2:=h.lt
 obtain ⟨es,clock,since,seen,c0,hb,F,hs,hD,hr,rest⟩:=h
 exact ⟨es,clock,since,seen,c0,(hc.block b h1 hb').trans hb,F,hs,hD,(hc.block r h2 hr').trans hr,rest⟩
theorem DevC.note {a:DA} {L T:Nat} {w w':World} {S:Fp} {cur:Nat→Nat} {s:LS} {exe:Int} {per cs ls:Array Value} {H:Type} {P:Program} {k:TypeId} {R:Value→Option (DataW H × List MemPlace)} {n:Nat} {D:DataW H} (h:DevC a L T w S cur s exe per cs ls) (hmap:w.ownsMap P k R (a.nt 0) n D) (hg:w.grownBy w' (some (a.nt 0))):DevC a L T w' S cur s exe per cs ls:=by
 have hne:∀ {g:Nat} {t:TypeId} {cs:Array Value},Blk w g t cs→some g≠some (a.nt 0):=fun hB e=>by injection e with e;exact map_ne_blk hmap hB e.symm
 have hsz:=hg.size
 exact
  {h with
   dev:=h.dev.grown hg (hne h.dev)
   perB:=h.perB.grown hg (hne h.perB)
   curB:=h.curB.grown hg (hne h.curB)
   linB:=h.linB.grown hg (hne h.linB)
   own:=fun k hk=>by
    have h1:=h.own k hk
    refine h1.kept hg ?_
    cases hb:(s.h k).ownBlock with
    | none=>exact .inl rfl
    | some g=>exact .inr (fun e=>map_ne_own hmap h1 (by rw [hb];exact e.symm))
   thr:=fun j hj=>(h.thr j hj).grown hg (hne (h.thr j hj))
   lt:=fun k hk=>by have:=h.lt k hk;omega }
theorem has_mem {H:Type} {l:List (Lit × DataW H)} {p:Lit × DataW H} (hp:p∈l) {i:Int} (he:p.1 = .int .i64 i):Maps.has (.map l) (.int .i64 i)=true:=by
 rw [Maps.has_eq]
 exact List.any_eq_true.2 ⟨p,hp,by rw [he];simp [Lit.sameKey]⟩
def FenceI (a:DA) (L T:Nat) (w wr:World) (S:Fp) (cur:Nat→Nat) (s:LS) (exe:Int) (cs:Array Value) (F r:Nat) (l:List (Lit × DataW Unit)) (left:Lit→Bool) (cnt:Nat):Prop :=
 w.heap.size≤r∧wr.ranges Tryz.prog 3 (plainElem Tryz.prog 32) (a.nt 0) r F (.map l) left cnt∧(∃ s' per' ls',DevC a L T wr S cur s' exe per' cs ls'∧(∀ i,s'.dn i+s'.m i=s.dn i+s.m i)∧(∀ i,s'.ws i=[]∨s'.ws i=s.ws i)∧∀ i:Nat,i < L→(∃ p∈l,p.1 = .int .i64 (i:Int))→left (.int .i64 (i:Int))=false→s'.ws i=[])∧Chg S w wr
theorem fence_any {a:DA} {L T:Nat} {w:World} {S:Fp} {cur:Nat→Nat} {s:LS} {exe:Int} {per cs ls:Array Value} {F:Nat} {D N:Nat→Prop} (h:DevC a L T w S cur s exe per cs ls) (hN:NoteM a L w s N F) (hCl:CleanL L s D) :
  Calls Tryz.prog 426 #[.pointer (some ⟨a.th 0,0,none⟩)] w (RetDevM a L T w S cur (fun k=>D k∧¬ N (k / 8)) (fun _=>False) 0 (.tuple #[])):=by
 obtain ⟨f0,f2,f11,f1,_⟩:=h.facts (j:=0) (by omega)
 obtain ⟨l,hmap,hnotes,hns⟩:=hN
 have HNT:=hid hnotes
 have HNS:=hid hns
 have HCl:=hid hCl
 have hth:=h.thr 0 (by omega)
 have n1:a.d≠a.th 0:=h.dev.ne_ hth (by decide)
 have n1':=n1.symm
 have hT:=h.hT
 have hL:=h.hL
 have f12:w.cell? ⟨a.d,12,none⟩=some (.bool false):=h.dev.cell 12
 have f14:w.cell? ⟨a.d,14,none⟩=some (.int .u64 exe):=h.dev.cell 14
 have z14:=h.dev.frozen 14
 have f3:w.cell? ⟨a.th 0,3,none⟩=some (.map (some (a.nt 0))):=hth.cell 3
 have HM1:Hid ((w.setCell ⟨a.d,14,none⟩ (.int .u64 (IntKind.u64.wrap (exe+1)))).ownsMap Tryz.prog 3 (plainElem Tryz.prog 32) (a.nt 0) F (.map l)):=hmap.setCell (a:=⟨a.d,14,none⟩) (map_ne_blk hmap h.dev) _
 have HD1:Hid (DevC a L T (w.setCell ⟨a.d,14,none⟩ (.int .u64 (IntKind.u64.wrap (exe+1)))) S cur s (IntKind.u64.wrap (exe+1)) per cs ls) :=
  {h with
   dev:=h.dev.set_ 14 _
   perB:=h.perB.far (p:=⟨a.d,14,none⟩) (h.perB.ne_ h.dev (by decide)) _
   curB:=h.curB.far (p:=⟨a.d,14,none⟩) (h.curB.ne_ h.dev (by decide)) _
   linB:=h.linB.far (p:=⟨a.d,14,none⟩) (h.linB.ne_ h.dev (by decide)) _
   own:=fun k hk=>ownsRow_setCell_other (h.own k hk) (a:=⟨a.d,14,none⟩) (own_blk_ne (h.own k hk) h.dev (by decide)) _
   thr:=fun j hj=>(h.thr j hj).far (p:=⟨a.d,14,none⟩) ((h.thr j hj).ne_ h.dev (by decide)) _
   lt:=fun k hk=>by have:=h.lt k hk;simpa using this }
 have HC1:Hid (Chg S w (w.setCell ⟨a.d,14,none⟩ (.int .u64 (IntKind.u64.wrap (exe+1))))):=(Chg.refl S w).setCell (p:=⟨a.d,14,none⟩) (.inl h.sd) _
 have HSN:=hid h.sn
 have HSL:=hid h.lt
 obtain ⟨r,hr⟩:∃ r,r=(w.setCell ⟨a.d,14,none⟩ (.int .u64 (IntKind.u64.wrap (exe+1)))).heap.size:=⟨_,rfl⟩
 have HR:=hid hr
 clear hr
 clear h hmap hnotes hth hns hCl
 go_enter Tryz.func426,Tryz.ntmps426
 go_wp2_with (first
  | (at_range;refine wpList_range_own _ rfl _ 266 rfl 3 32 (int_keyed Tryz.underlying3) Tryz.underlying266 _ (a.nt 0) F (.map l) rfl HM1.out ?_;intro w0 hrg0 hg0 hs0;rw [← HR.out] at hrg0 ⊢;have HI0:Hid (FenceI a L T w w0 S cur s (IntKind.u64.wrap (exe+1)) cs F r l (Maps.has (.map l)) (Maps.size (DataW.map l))):=⟨by rw [HR.out];simp,hrg0,⟨s,per,ls,HD1.out.chg (Z:=Fp.no) ((Chg.refl _ _).grown hg0 (fun g hg=>by cases hg)) (fun _ _ h=>h),fun _=>rfl,fun _ => .inr rfl,fun i _ hp hl=>by obtain ⟨p,hp,he⟩:=hp;exact absurd hl (by rw [has_mem hp he];decide)⟩,HC1.out.grown hg0 (fun g hg=>by cases hg)⟩;clear hrg0 hg0 hs0)
  | go_in)
 go_frame
 clear f0 f2 f11 f1 f12 f14 z14 f3 HM1 HD1 HC1
 go_loopw [2] (fun _ wr=>∃ (left:Lit→Bool) (cnt:Nat),Hid (FenceI a L T w wr S cur s (IntKind.u64.wrap (exe+1)) cs F r l left cnt)) (fun _ wr=>wr.rangeLeft (a.nt 0) r)
 case atStart=>exact ⟨_,_,HI0⟩
 case round =>
  clear HI0
  obtain ⟨left,cnt,H⟩:=hrel
  go_wp2_with (first
   | (at_next;refine wpList_next_ranges_ii _ rfl _ rfl 3 32 .i64 .u64 (int_keyed Tryz.underlying3) Tryz.underlying3 Tryz.underlying32 (a.nt 0) r F _ _ _ rfl H.out.2.1 ?_ ?_)
   | go_in)
  ·intro _ hleft
   obtain ⟨hwr,hrg,⟨s',per',ls',hd,hsum,hws,hwl⟩,hC⟩:=H.out
   have HCl2:Hid (CleanL L s' (fun k=>D k∧¬ N (k / 8))):=hid (fun k hk hnd e he=>by
    rcases hws (k / 8) with h1 | h1
    ·rw [h1] at he;cases he
    ·by_cases hN:N (k / 8)
     ·rw [hwl (k / 8) (by omega) (HNS.out _ hN (by omega)) (hleft _)] at he;cases he
     ·rw [h1] at he
      exact HCl.out k hk (fun hd=>hnd ⟨hd,hN⟩) e he)
   clear hws hwl hleft
   obtain ⟨W',hcl,hmap',hgr⟩:=clear_map hrg.owns (t:=266) Tryz.underlying266
   have g3:wr.cell? ⟨a.th 0,3,none⟩=some (.map (some (a.nt 0))):=(hd.thr 0 (by omega)).cell 3
   have HD:=hid hd
   have HC:=hid hC
   have HM:=hid hmap'
   have HG:=hid hgr
   have HO:=hid hrg.owns
   clear hd hC hmap' hgr hrg hsum
   go_wp2
   go_end0
   refine ⟨rfl,S,⟨s',_,per',cs,ls',HD.out.note HO.out HG.out,⟨[],HM.out,(fun p hp=>by cases hp),fun _ h=>h.elim⟩,HCl2.out⟩,HC.out.grown HG.out (fun g hg=>by injection hg with hg;subst hg;exact .inl HSN.out),Grew.refl _ _⟩
  ·intro x c w1 cnt1 hwx hwc hlx hat hrg1 hlt hg1 hs1 hen
   obtain ⟨p,hp,hsk,hpd⟩:=atKey_mem hat
   obtain ⟨i,hi,rfl⟩:=HNT.out p hp
   obtain ⟨hwr,hrg,⟨s',per',ls',hd,hsum,hws,hwl⟩,hC⟩:=H.out
   have hx:x=(i:Int):=by simpa [Lit.sameKey,eq_comm] using hsk
   have hc:c=((s'.dn i+s'.m i:Nat):Int):=by
    rw [hsum i]
    simpa [eq_comm] using hpd
   subst hx hc
   have hrS:∀ k,S k→¬ k=r:=fun k hk e=>by have:=HSL.out k hk;omega
   have hC1:Chg (fun k=>k=r) wr w1:=(Chg.refl _ _).grown hg1 (fun g hg=>by injection hg with hg;exact .inl hg.symm)
   have hd1:=hd.chg hC1 hrS
   have g0:w1.cell? ⟨a.th 0,0,none⟩=some (.pointer (some ⟨a.d,0,none⟩)):=(hd1.thr 0 (by omega)).cell 0
   have g2:w1.cell? ⟨a.d,2,none⟩=some (.slice (some ⟨a.lb,0,none⟩) L L):=hd1.dev.cell 2
   have gl:w1.cell? ⟨a.lb,i * 2,none⟩=some (.int .u64 (s'.dn i:Int)):=by rw [hd1.linB.cell];exact hd1.linD i hi
   have hfew:=hd1.few i hi
   have HM1:Hid (w1.rangeLeft (a.nt 0) r < wr.rangeLeft (a.nt 0) r):=show _ < _ by rw [hrg1.left_eq,hrg.left_eq];exact hlt
   have HCw:Hid (Chg S w w1):=hC.grown hg1 (fun g hg=>by injection hg with hg;subst hg;exact .inr hwr)
   have HPS:=hid (fun hm=>persist_any hd1 i hi hm)
   have HD1:=hid hd1
   have HRG:=hid hrg1
   have HSM:=hid hsum
   have HWs:=hid hws
   have HWl:Hid (∀ s'':LS,(∀ j,s''.ws j=[]∨s''.ws j=s'.ws j)→s''.ws i=[]→∀ j:Nat,j < L→(∃ p∈l,p.1 = .int .i64 (j:Int))→(left (.int .i64 (j:Int)) && !(Lit.int .i64 (j:Int)).sameKey (.int .i64 (i:Int)))=false→s''.ws j=[]):=hid (fun s'' h1 h2 j hj hp hl=>by
    by_cases hji:j=i
    ·subst hji;exact h2
    ·have h3:(Lit.int .i64 (j:Int)).sameKey (.int .i64 (i:Int))=false:=by simp [Lit.sameKey];omega
     rw [h3] at hl
     have h4:=hwl j hj hp (by simpa using hl)
     rcases h1 j with h5 | h5
     ·exact h5
     ·rw [h5];exact h4)
   have e6:(i:Int) < (L:Int):=by omega
   have e7:(0:Int)≤(i:Int):=by omega
   clear hat hp hsk hpd hwx hwc hlx hg1 hs1 hrg hC hd hd1 hrg1 hsum hlt hC1 hrS H hws hwl
   by_cases hm:s'.m i=0
   ·have e1:decide ((s'.dn i:Int) < (s'.dn i:Int)+(s'.m i:Int))=false:=decide_eq_false (by omega)
    go_wp2
    refine ⟨?_,HM1.out⟩
    repeat apply Exists.intro
    refine ⟨?_,rfl⟩
    exact ⟨_,cnt1,⟨hwr,HRG.out,⟨s',per',ls',HD1.out,HSM.out,HWs.out,HWl.out s' (fun _ => .inr rfl) (HD1.out.none hi hm)⟩,HCw.out⟩⟩
   ·have e1:decide ((s'.dn i:Int) < (s'.dn i:Int)+(s'.m i:Int))=true:=decide_eq_true (by omega)
    go_wp2_with fail
    rw [show ((s'.dn i:Int)+(s'.m i:Int) - (s'.dn i:Int))=(s'.m i:Int) by omega]
    refine (HPS.out (by omega)).mono ?_
    rintro e w2 ⟨rfl,⟨per2,ls2,hd2⟩,hC2⟩
    have hr2:w2.ranges Tryz.prog 3 (plainElem Tryz.prog 32) (a.nt 0) r F (.map l) _ cnt1:=ranges_chg HRG.out hC2 (fun hk=>by
     rcases hk with hk | hk
     ·exact map_ne_blk HRG.out.owns HD1.out.perB hk
     ·exact map_ne_blk HRG.out.owns HD1.out.linB hk) (fun hk=>by
     rcases hk with hk | hk
     ·have:=HSL.out _ HD1.out.sp;omega
     ·have:=HSL.out _ HD1.out.sl;omega)
    have HM2:Hid (w2.rangeLeft (a.nt 0) r < wr.rangeLeft (a.nt 0) r):=show _ < _ by have:=HM1.out;rw [HRG.out.left_eq] at this;rw [hr2.left_eq];exact this
    have HI2:Hid (FenceI a L T w w2 S cur s (IntKind.u64.wrap (exe+1)) cs F r l _ cnt1):=⟨hwr,hr2,⟨clearL s' i,per2,ls2,hd2,fun k=>(clearL_sum s' i k).trans (HSM.out k),fun k=>(clearL_ws s' i k).elim .inl (fun h=>(HWs.out k).imp (h.trans) (h.trans)),HWl.out _ (clearL_ws s' i) (by simp [clearL])⟩,HCw.out.trans (S':=fun k=>k=a.pb∨k=a.lb) hC2 (fun k hk=>by
     rcases hk with rfl | rfl
     ·exact .inl HD1.out.sp
     ·exact .inl HD1.out.sl)⟩
    clear hd2 hC2 hr2
    go_wp2
    refine ⟨?_,HM2.out⟩
    repeat apply Exists.intro
    refine ⟨?_,rfl⟩
    exact ⟨_,cnt1,HI2⟩
end
section
open Go.RowKit
def RowU (cs:Array Value) (xs:List Nat):Prop:=xs.length≤cs.size∧∀ i (h:i < xs.length),cs[i]?=some (.int .u64 ((xs[i]:Nat):Int))
theorem RowU.set {cs:Array Value} {xs:List Nat} (h:RowU cs xs) (j x:Nat) (hj:j < xs.length):RowU (cs.setIfInBounds j (.int .u64 (x:Int))) (xs.set j x):=by
 refine ⟨by simpa using h.1,fun i hi=>?_⟩
 rw [List.length_set] at hi
 rw [set_at i (by have:=h.1;omega),List.getElem_set]
 by_cases hij:i=j
 ·rw [if_pos hij,if_pos hij.symm]
 ·rw [if_neg hij,if_neg (fun e=>hij e.symm)];exact h.2 i hi
def SortI (w wr:World) (g:Nat) (xs:List Nat) (sz:Nat):Prop:=∃ cs ys,Blk wr g 32 cs∧cs.size=sz∧RowU cs ys∧ys.Perm xs∧Chg (fun k=>k=g) w wr
def RetSort (w:World) (g:Nat) (xs:List Nat) (sz:Nat) (e:Ending) (w':World):Prop:=e = .returned (.tuple #[])∧SortI w w' g xs sz
end
section
open Go.RowKit
inductive Ins where
 | st (off v:Nat)
 | fl (off:Nat)
 | fe
def Ins.cells:Ins→List Value
 | .st o v=>[.int .u8 1, .int .u64 (o:Int), .int .u64 (v:Int)]
 | .fl o=>[.int .u8 2, .int .u64 (o:Int), .int .u64 0]
 | .fe=>[.int .u8 3, .int .u64 0, .int .u64 0]
theorem Ins.cells_len (i:Ins):i.cells.length=3:=by cases i <;> rfl
theorem Ins.cells_one (i:Ins):∀ u∈i.cells,u.oneCell'=true:=by
 intro u hu
 cases i <;> simp only [Ins.cells,List.mem_cons,List.not_mem_nil,or_false] at hu <;> rcases hu with rfl | rfl | rfl <;> rfl
def insCells (p:List Ins):List Value:=p.flatMap Ins.cells
theorem insCells_len (p:List Ins):(insCells p).length=p.length * 3:=by
 induction p with
 | nil=>rfl
 | cons i p ih=>simp only [insCells,List.flatMap_cons,List.length_append,Ins.cells_len,List.length_cons] at *;omega
theorem insCells_one (p:List Ins):∀ u∈insCells p,u.oneCell'=true:=by
 intro u hu
 simp only [insCells,List.mem_flatMap] at hu
 obtain ⟨i,_,hi⟩:=hu
 exact Ins.cells_one i u hi
theorem insCells_app (p q:List Ins):insCells (p++q)=insCells p++insCells q:=by simp [insCells]
theorem insCells_at:∀ (p:List Ins) (k j:Nat) (hk:k < p.length),j < 3→(insCells p)[k * 3+j]?=(p[k]).cells[j]?
 | i :: p,0,j,_,hj=>by
  simp only [insCells,List.flatMap_cons]
  rw [List.getElem?_append_left (by rw [Ins.cells_len];omega)]
  simp
 | i :: p,k+1,j,h,hj=>by
  have ih:=insCells_at p k j (by simpa using h) hj
  simp only [insCells,List.flatMap_cons] at *
  rw [List.getElem?_append_right (by rw [Ins.cells_len];omega),Ins.cells_len,show (k+1) * 3+j - 3=k * 3+j by omega,ih]
  simp
def runI (cur:Nat→Nat):Ins→Nat→Nat
 | .st o v=>upd cur (o / 8) v
 | _=>cur
def runP (cur:Nat→Nat) (p:List Ins):Nat→Nat:=p.foldl runI cur
theorem runP_app (cur:Nat→Nat) (p q:List Ins):runP cur (p++q)=runP (runP cur p) q:=by simp [runP]
theorem runP_snoc (cur:Nat→Nat) (p:List Ins) (i:Ins):runP cur (p++[i])=runI (runP cur p) i:=by simp [runP]
def noteI (b:Bool):Ins→Bool
 | .st _ _=>b
 | .fl _=>true
 | .fe=>false
def noteP (b:Bool) (p:List Ins):Bool:=p.foldl noteI b
theorem noteP_app (b:Bool) (p q:List Ins):noteP b (p++q)=noteP (noteP b p) q:=by simp [noteP]
def dirI (d:(Nat→Prop) × (Nat→Prop)):Ins→(Nat→Prop) × (Nat→Prop)
 | .st o _=>(fun k=>d.1 k∨k=o / 8,fun _=>False)
 | .fl o=>(d.1,fun i=>d.2 i∨i=o / 64)
 | .fe=>(fun k=>d.1 k∧¬ d.2 (k / 8),fun _=>False)
def dirP (d:(Nat→Prop) × (Nat→Prop)) (p:List Ins):(Nat→Prop) × (Nat→Prop):=p.foldl dirI d
theorem dirP_app (d:(Nat→Prop) × (Nat→Prop)) (p q:List Ins):dirP d (p++q)=dirP (dirP d p) q:=by simp [dirP]
theorem dirI_mono {d e:(Nat→Prop) × (Nat→Prop)} (h1:∀ k,d.1 k→e.1 k) (h2:∀ i,e.2 i→d.2 i) (i:Ins):(∀ k,(dirI d i).1 k→(dirI e i).1 k)∧∀ j,(dirI e i).2 j→(dirI d i).2 j:=by
 cases i with
 | st o v=>exact ⟨fun k hk=>hk.imp (h1 k) id,fun _ h=>h⟩
 | fl o=>exact ⟨h1,fun j hj=>hj.imp (h2 j) id⟩
 | fe=>exact ⟨fun k hk=>⟨h1 k hk.1,fun h=>hk.2 (h2 _ h)⟩,fun _ h=>h⟩
theorem dirP_mono:∀ (p:List Ins) {d e:(Nat→Prop) × (Nat→Prop)},(∀ k,d.1 k→e.1 k)→(∀ i,e.2 i→d.2 i)→∀ k,(dirP d p).1 k→(dirP e p).1 k
 | [],_,_,h1,_=>h1
 | i :: p,_,_,h1,h2=>dirP_mono p (dirI_mono h1 h2 i).1 (dirI_mono h1 h2 i).2
def Clean (p:List Ins):Prop:=∀ (D:Nat→Prop) k,(dirP (D,fun _=>False) p).1 k→D k
theorem Clean.app {p q:List Ins} (hp:Clean p) (hq:Clean q):Clean (p++q):=fun D k h=>by
 rw [dirP_app] at h
 exact hp D k (hq _ k (dirP_mono q (d:=dirP (D,fun _=>False) p) (e:=((dirP (D,fun _=>False) p).1,fun _=>False)) (fun _ h=>h) (fun _ h=>h.elim) k h))
def goodI (L:Nat) (b:Bool):Ins→Prop
 | .st o v=>b=false∧o % 8=0∧o < 64 * L∧v < 18446744073709551616
 | .fl o=>o < 64 * L
 | .fe=>True
def goodQ (L:Nat):Bool→List Ins→Prop
 | b,[]=>b=false
 | b,i :: p=>goodI L b i∧goodQ L (noteI b i) p
theorem goodQ_at {L:Nat}:∀ {p:List Ins} {b:Bool} (_:goodQ L b p) (k:Nat) (hk:k < p.length),goodI L (noteP b (p.take k)) p[k]
 | i :: p,b,h,0,_=>by simpa [noteP] using h.1
 | i :: p,b,h,k+1,hk=>by
  have:=goodQ_at h.2 k (by simpa using hk)
  simpa [noteP] using this
theorem goodQ_end {L:Nat}:∀ {p:List Ins} {b:Bool} (_:goodQ L b p),noteP b p=false
 | [],b,h=>h
 | i :: p,b,h=>by have:=goodQ_end h.2;simpa [noteP] using this
theorem goodQ_app {L:Nat}:∀ {p:List Ins} {b:Bool} {q:List Ins},goodQ L b p→goodQ L false q→goodQ L b (p++q)
 | [],b,q,h,h'=>by have:b=false:=h;subst this;exact h'
 | i :: p,b,q,h,h'=>⟨h.1,goodQ_app h.2 h'⟩
def goodP (L:Nat) (b:Bool) (p:List Ins):Prop:=goodQ L b p∧Clean p
theorem goodP_at {L:Nat} {p:List Ins} {b:Bool} (h:goodP L b p) (k:Nat) (hk:k < p.length):goodI L (noteP b (p.take k)) p[k]:=goodQ_at h.1 k hk
theorem goodP_end {L:Nat} {p:List Ins} {b:Bool} (h:goodP L b p):noteP b p=false:=goodQ_end h.1
theorem goodP_app {L:Nat} {p:List Ins} {b:Bool} {q:List Ins} (h:goodP L b p) (h':goodP L false q):goodP L b (p++q):=⟨goodQ_app h.1 h'.1,h.2.app h'.2⟩
section
variable {a:DA} {L T:Nat} {w:World} {S:Fp} {cur:Nat→Nat} {D N:Nat→Prop} {F:Nat}
theorem DevM.more (h:DevM a L T w S cur D N F) {T':Nat} (hT:T≤T') (hT':T'≤1000000000):DevM a L T' w S cur D N F:=by
 obtain ⟨s,exe,per,cs,ls,hd,hn⟩:=h
 exact ⟨s,exe,per,cs,ls,{ hd with few:=fun i hi=>Nat.le_trans (hd.few i hi) hT,hT:=hT' },hn⟩
theorem DevM.lt (h:DevM a L T w S cur D N F):∀ k,S k→k < w.heap.size:=by
 obtain ⟨s,exe,per,cs,ls,hd,hn⟩:=h
 exact hd.lt
theorem DevM.chg {Z:Fp} {w':World} (h:DevM a L T w S cur D N F) (hc:Chg Z w w') (hd:∀ k,S k→¬ Z k):DevM a L T w' S cur D N F:=by
 obtain ⟨s,exe,per,cs,ls,hdc,⟨l,hm,hn⟩,hcl⟩:=h
 exact ⟨s,exe,per,cs,ls,hdc.chg hc hd,⟨l,hc.map hm (hd _ hdc.sn),hn⟩,hcl⟩
theorem DevM.below {w':World} (h:DevM a L T w S cur D N F) (hb:Below w.heap.size w w'):DevM a L T w' S cur D N F:=h.chg (Z:=Fp.no) (Chg.of_below hb) (fun _ _ h=>h)
theorem Dev.more (h:Dev a L T w S cur F) {T':Nat} (hT:T≤T') (hT':T'≤1000000000):Dev a L T' w S cur F:=DevM.more h hT hT'
theorem Dev.lt (h:Dev a L T w S cur F):∀ k,S k→k < w.heap.size:=DevM.lt h
theorem Dev.chg {Z:Fp} {w':World} (h:Dev a L T w S cur F) (hc:Chg Z w w') (hd:∀ k,S k→¬ Z k):Dev a L T w' S cur F:=DevM.chg h hc hd
theorem Dev.below {w':World} (h:Dev a L T w S cur F) (hb:Below w.heap.size w w'):Dev a L T w' S cur F:=DevM.below h hb
theorem store_devM (h:DevM a L T w S cur D N 0) (off v:Nat) (h8:off % 8=0) (hlt:off < 64 * L) (hT:T < 1000000000) :
  Calls Tryz.prog 76 #[.pointer (some ⟨a.th 0,0,none⟩), .int .u64 (off:Int), .int .u64 (v:Int)] w (RetDevM a L (T+1) w S (upd cur (off / 8) v) (fun k=>D k∨k=off / 8) (fun _=>False) 0 (.tuple #[])):=by
 obtain ⟨s,exe,per,cs,ls,hd,hn,hcl⟩:=h
 exact store_any hd hn hcl off v h8 hlt hT
theorem flush_devM (h:DevM a L T w S cur D N F) (off:Nat) (hlt:off < 64 * L) (hF:F < 1000000000) :
  Calls Tryz.prog 427 #[.pointer (some ⟨a.th 0,0,none⟩), .int .u64 (off:Int)] w (RetDevM a L T w S cur D (fun i=>N i∨i=off / 64) (F+1) (.tuple #[])):=by
 obtain ⟨s,exe,per,cs,ls,hd,hn,hcl⟩:=h
 exact flush_any hd hn hcl off hlt hF
theorem fence_devM (h:DevM a L T w S cur D N F) :
  Calls Tryz.prog 426 #[.pointer (some ⟨a.th 0,0,none⟩)] w (RetDevM a L T w S cur (fun k=>D k∧¬ N (k / 8)) (fun _=>False) 0 (.tuple #[])):=by
 obtain ⟨s,exe,per,cs,ls,hd,hn,hcl⟩:=h
 exact fence_any hd hn hcl
end
def memV (a:DA):Value := .iface 58 (.pointer (some ⟨a.th 0,0,none⟩))
theorem methStore (p : Option Addr) (w : World) : (method 640 58 (.pointer p) "Store").run Tryz.prog w = .ok (76, .pointer p) w := by kernel_rfl
theorem methFlush (p : Option Addr) (w : World) : (method 640 58 (.pointer p) "Flush").run Tryz.prog w = .ok (427, .pointer p) w := by kernel_rfl
theorem methFence (p : Option Addr) (w : World) : (method 640 58 (.pointer p) "Fence").run Tryz.prog w = .ok (426, .pointer p) w := by kernel_rfl
theorem methLoad (p : Option Addr) (w : World) : (method 640 58 (.pointer p) "Load").run Tryz.prog w = .ok (65, .pointer p) w := by kernel_rfl
theorem methErr (p : Option Addr) (w : World) : (method 640 58 (.pointer p) "Err").run Tryz.prog w = .ok (112, .pointer p) w := by kernel_rfl
theorem methSize (p : Option Addr) (w : World) : (method 640 58 (.pointer p) "Size").run Tryz.prog w = .ok (335, .pointer p) w := by kernel_rfl
theorem exec_st {a:DA} {L T:Nat} {w:World} {S:Fp} {cur:Nat→Nat} {D N:Nat→Prop} (h:DevM a L T w S cur D N 0) (off v:Nat) (h8:off % 8=0) (hlt:off < 64 * L) (hT:T < 1000000000) :
  Calls Tryz.prog 176 #[.agg #[.int .u8 1, .int .u64 (off:Int), .int .u64 (v:Int)],memV a] w (RetDevM a L (T+1) w S (upd cur (off / 8) v) (fun k=>D k∨k=off / 8) (fun _=>False) 0 (.tuple #[])):=by
 have HW:=hid (fun o=>h.below ((Below.refl _ w).alloc (Nat.le_refl _) o))
 clear h
 have hm:=methStore (some ⟨a.th 0,0,none⟩)
 unfold memV
 go_enter Tryz.func176,Tryz.ntmps176
 go_wp2_with fail
 refine (store_devM (HW.out _) off v h8 hlt hT).mono ?_
 rintro e w1 ⟨rfl,S1,hd1,hc1,hg1⟩
 have HD:=hid hd1
 have HC:Hid (Chg S w w1):=((Chg.refl S w).alloc _).trans hc1 (Grew.refl _ _)
 have HG:Hid (Grew S S1 w):=fun k hk=>(hg1 k hk).imp id (fun h=>by simp at h;omega)
 clear hd1 hc1 hg1
 go_wp2
 go_end0
 exact ⟨rfl,S1,HD.out,HC.out,HG.out⟩
theorem exec_fl {a:DA} {L T:Nat} {w:World} {S:Fp} {cur:Nat→Nat} {D N:Nat→Prop} {F:Nat} (h:DevM a L T w S cur D N F) (off:Nat) (hlt:off < 64 * L) (hF:F < 1000000000) :
  Calls Tryz.prog 176 #[.agg #[.int .u8 2, .int .u64 (off:Int), .int .u64 0],memV a] w (RetDevM a L T w S cur D (fun i=>N i∨i=off / 64) (F+1) (.tuple #[])):=by
 have HW:=hid (fun o=>h.below ((Below.refl _ w).alloc (Nat.le_refl _) o))
 clear h
 have hm:=methFlush (some ⟨a.th 0,0,none⟩)
 unfold memV
 go_enter Tryz.func176,Tryz.ntmps176
 go_wp2_with fail
 refine (flush_devM (HW.out _) off hlt hF).mono ?_
 rintro e w1 ⟨rfl,S1,hd1,hc1,hg1⟩
 have HD:=hid hd1
 have HC:Hid (Chg S w w1):=((Chg.refl S w).alloc _).trans hc1 (Grew.refl _ _)
 have HG:Hid (Grew S S1 w):=fun k hk=>(hg1 k hk).imp id (fun h=>by simp at h;omega)
 clear hd1 hc1 hg1
 go_wp2
 go_end0
 exact ⟨rfl,S1,HD.out,HC.out,HG.out⟩
theorem exec_fe {a:DA} {L T:Nat} {w:World} {S:Fp} {cur:Nat→Nat} {D N:Nat→Prop} {F:Nat} (h:DevM a L T w S cur D N F)  :
  Calls Tryz.prog 176 #[.agg #[.int .u8 3, .int .u64 0, .int .u64 0],memV a] w (RetDevM a L T w S cur (fun k=>D k∧¬ N (k / 8)) (fun _=>False) 0 (.tuple #[])):=by
 have HW:=hid (fun o=>h.below ((Below.refl _ w).alloc (Nat.le_refl _) o))
 clear h
 have hm:=methFence (some ⟨a.th 0,0,none⟩)
 unfold memV
 go_enter Tryz.func176,Tryz.ntmps176
 go_wp2_with fail
 refine (fence_devM (HW.out _)).mono ?_
 rintro e w1 ⟨rfl,S1,hd1,hc1,hg1⟩
 have HD:=hid hd1
 have HC:Hid (Chg S w w1):=((Chg.refl S w).alloc _).trans hc1 (Grew.refl _ _)
 have HG:Hid (Grew S S1 w):=fun k hk=>(hg1 k hk).imp id (fun h=>by simp at h;omega)
 clear hd1 hc1 hg1
 go_wp2
 go_end0
 exact ⟨rfl,S1,HD.out,HC.out,HG.out⟩
end
section
open Go.RowKit Go.Maps Go.Shelf
theorem err_dev {a:DA} {L T:Nat} {w:World} {S:Fp} {cur:Nat→Nat} {F:Nat} (h:Dev a L T w S cur F) {j:Nat} (hj:j < 8) :
  Calls Tryz.prog 112 #[.pointer (some ⟨a.th j,0,none⟩)] w fun e w'=>e = .returned (.int .i64 0)∧w=w':=by
 obtain ⟨ls,exe,per,cs,lsC,hdc,hnt⟩:=h
 obtain ⟨f0,_,_,_,f4⟩:=hdc.facts hj
 clear hdc hnt
 go_enter Tryz.func112,Tryz.ntmps112
 go_wp2
 go_ret
 exact ⟨rfl,rfl⟩
end
section
open Go.RowKit
def Ins.op:Ins→Nat
 | .st _ _=>1
 | .fl _=>2
 | .fe=>3
def Ins.o:Ins→Nat
 | .st o _=>o
 | .fl o=>o
 | .fe=>0
def Ins.v:Ins→Nat
 | .st _ v=>v
 | _=>0
theorem Ins.cells_eq (i:Ins):i.cells=[.int .u8 (i.op:Int), .int .u64 (i.o:Int), .int .u64 (i.v:Int)]:=by cases i <;> rfl
theorem Ins.op_lt (i:Ins):1≤i.op∧i.op≤3:=by cases i <;> simp [Ins.op]
theorem Reads.plain {w:World} {B size n:Nat} {A:Option Addr} {xs:List Value} (h:Reads w B size A n xs) (hn:0 < n) (hs:0 < size) :
  ∃ b off,A=some ⟨b,off,none⟩∧b < B∧∀ j u,xs[j]?=some u→w.cell? ⟨b,off+j,none⟩=some u:=by
 obtain ⟨⟨b,off,spot⟩,hA,hb,hc⟩:=h.2 hn
 have hl:0 < xs.length:=by rw [h.1];exact Nat.mul_pos hn hs
 have h0:=hc 0 _ (List.getElem?_eq_getElem hl)
 have hspot:spot=none:=by simpa [Addr.add] using World.cell?_spot h0
 subst hspot
 refine ⟨b,off,hA,hb,fun j u hu=>?_⟩
 rw [← Go.WideShapes.add_plain]
 exact hc j u hu
theorem ins_facts {w:World} {B n:Nat} {A:Option Addr} {p:List Ins} (h:Reads w B 3 A n (insCells p)) {k:Nat} (hk:k < n) :
  ∃ (hl:k < p.length) (b off:Nat),A=some ⟨b,off,none⟩∧b < B ∧
   w.cell? ⟨b,off+k * 3,none⟩=some (.int .u8 ((p[k]).op:Int))∧w.cell? ⟨b,off+k * 3+1,none⟩=some (.int .u64 ((p[k]).o:Int))∧w.cell? ⟨b,off+k * 3+2,none⟩=some (.int .u64 ((p[k]).v:Int)):=by
 have hl:k < p.length:=by have:=h.1;rw [insCells_len] at this;omega
 obtain ⟨b,off,hA,hb,hc⟩:=h.plain (by omega) (by omega)
 have e:=Ins.cells_eq p[k]
 refine ⟨hl,b,off,hA,hb,?_,?_,?_⟩
 ·exact hc (k * 3) _ ((insCells_at p k 0 hl (by omega)).trans (by rw [e];rfl))
 ·exact hc (k * 3+1) _ ((insCells_at p k 1 hl (by omega)).trans (by rw [e];rfl))
 ·exact hc (k * 3+2) _ ((insCells_at p k 2 hl (by omega)).trans (by rw [e];rfl))
theorem validP_any (A:Option Addr) (n c:Nat) (p:List Ins) (w:World) (h:Reads w w.heap.size 3 A n (insCells p)) (hn:n≤1000000) :
  Calls Tryz.prog 175 #[.slice A n c] w fun e w'=>e = .returned (.bool true)∧Below w.heap.size w w':=by
 have HR:=hid h
 have HB0:Hid (Below w.heap.size w w):=Below.refl _ _
 clear h
 go_enter Tryz.func175,Tryz.ntmps175
 go_wp2
 go_loopw [7] (fun i wr=>∃ (k:Nat),k≤n∧i = .int .i64 k∧Hid (Below w.heap.size w wr)) (fun i _=>n - (RowKit.intOf i).toNat)
 case atStart=>exact ⟨0,Nat.zero_le _,rfl,HB0⟩
 case round =>
  clear HB0
  obtain ⟨k,hk,rfl,H⟩:=hrel
  by_cases hlt:k < n
  ·obtain ⟨hl,b,off,hA,hbB,f0,f1,f2⟩:=ins_facts (HR.out.below H.out) hlt
   subst hA
   have ho:=Ins.op_lt p[k]
   generalize (p[k]).op=op at *
   generalize (p[k]).o=o at *
   generalize (p[k]).v=v at *
   have hz0:(0:Int)≤(k:Int):=by omega
   have hz1:(k:Int) < (n:Int):=by omega
   have e1:decide ((op:Int) < 1)=false:=decide_eq_false (by omega)
   have e2:decide ((3:Int) < (op:Int))=false:=decide_eq_false (by omega)
   have e3:decide (3 < op)=false:=decide_eq_false (by omega)
   have HN:Hid (∀ o,Below w.heap.size w (wr.alloc o)):=fun o=>H.out.alloc H.out.size o
   clear H
   go_wp2
   go_roundw
   case rel=>exact ⟨k+1,by omega,by go_num,HN.out _⟩
   case measure=>simp [RowKit.intOf];omega
  ·obtain rfl:n=k:=by omega
   go_wp2
   go_ret
   exact ⟨rfl,H.out⟩
def RetIns (a:DA) (L T:Nat) (w:World) (S:Fp) (cur:Nat→Nat) (d:(Nat→Prop) × (Nat→Prop)) (F:Nat) (b:Bool) (e:Ending) (w':World):Prop :=
 e = .returned (.tuple #[])∧∃ S' F',DevM a L T w' S' cur d.1 d.2 F'∧(b=false→F'=0)∧F'≤F+1∧Chg S w w'∧Grew S S' w
theorem exec_any {a:DA} {L T:Nat} {w:World} {S:Fp} {cur:Nat→Nat} {d:(Nat→Prop) × (Nat→Prop)} {F:Nat} (h:DevM a L T w S cur d.1 d.2 F) (i:Ins) (b:Bool) (hg:goodI L b i) (hb:b=false→F=0) (hT:T < 1000000000) (hF:F < 1000000000) :
  Calls Tryz.prog 176 #[.agg #[.int .u8 (i.op:Int), .int .u64 (i.o:Int), .int .u64 (i.v:Int)],memV a] w (RetIns a L (T+1) w S (runI cur i) (dirI d i) F (noteI b i)):=by
 cases i with
 | st o v =>
  obtain ⟨h1,h2,h3,_⟩:=hg
  have hF0:=hb h1
  subst hF0
  refine (exec_st h o v h2 h3 hT).mono ?_
  rintro e w' ⟨rfl,S',hd,hc,hgr⟩
  exact ⟨rfl,S',0,hd,fun _=>rfl,Nat.zero_le _,hc,hgr⟩
 | fl o =>
  refine (exec_fl h o hg hF).mono ?_
  rintro e w' ⟨rfl,S',hd,hc,hgr⟩
  exact ⟨rfl,S',F+1,hd.more (by omega) (by omega),fun h=>(by cases h),Nat.le_refl _,hc,hgr⟩
 | fe =>
  refine (exec_fe h).mono ?_
  rintro e w' ⟨rfl,S',hd,hc,hgr⟩
  exact ⟨rfl,S',0,hd.more (by omega) (by omega),fun _=>rfl,Nat.zero_le _,hc,hgr⟩
def RunI (a:DA) (L T:Nat) (w wr:World) (S:Fp) (cur:Nat→Nat) (p:List Ins) (k:Nat):Prop :=
 ∃ S' F',DevM a L (T+k) wr S' (runP cur (p.take k)) (dirP (a.dirty,fun _=>False) (p.take k)).1 (dirP (a.dirty,fun _=>False) (p.take k)).2 F'∧(noteP false (p.take k)=false→F'=0)∧F'≤k∧Chg S w wr∧Grew S S' w
theorem run_any {a:DA} {L T:Nat} {w:World} {S:Fp} {cur:Nat→Nat} (h:Dev a L T w S cur 0) (A:Option Addr) (n c:Nat) (p:List Ins) (hr:Reads w w.heap.size 3 A n (insCells p)) (hoff:∀ ad,A=some ad→¬ S ad.block) (hg:goodP L false p) (hn:n≤1000000) (hT:T+n≤1000000000) :
  Calls Tryz.prog 78 #[.slice A n c,memV a] w (RetDev a L (T+n) w S (runP cur p) 0 (.int .i64 0)):=by
 have HV:=hid (validP_any A n c p w hr hn)
 have HLN:=hid (show p.length=n by have:=hr.1;rw [insCells_len] at this;omega)
 have HR:=hid hr
 have HOF:=hid hoff
 have HGD:=hid hg
 have HD0:=hid h
 have HSL:=hid h.lt
 have hmE:=methErr (some ⟨a.th 0,0,none⟩)
 have hq:∀ W,(binOp .eql 188 (.iface 58 (.pointer (some ⟨a.th 0,0,none⟩))) .nilIface).run Tryz.prog W = .ok (.bool false) W:=fun W=>by rfl
 clear h hr hoff hg
 unfold memV
 go_enter Tryz.func78,Tryz.ntmps78
 go_wp2_with (go_at_call 175;refine HV.out.mono ?_;rintro e w1 ⟨rfl,hb1⟩;have HI0:Hid (RunI a L T w w1 S cur p 0):=⟨S,0,HD0.out.below hb1,fun _=>rfl,Nat.le_refl _,Chg.of_below hb1,Grew.refl _ _⟩;clear hb1)
 go_loopw [16] (fun i wr=>∃ (k:Nat),k≤n∧i = .int .i64 k∧Hid (RunI a L T w wr S cur p k)) (fun i _=>n - (RowKit.intOf i).toNat)
 case atStart=>exact ⟨0,Nat.zero_le _,rfl,HI0⟩
 case round =>
  clear HI0 HD0 HV
  obtain ⟨k,hk,rfl,H⟩:=hrel
  by_cases hlt:k < n
  ·obtain ⟨S1,F1,hd,hf,hF1,hC,hG⟩:=H.out
   obtain ⟨hl,b,off,hA,hbB,f0,f1,f2⟩:=ins_facts (hC.reads HR.out (Nat.le_refl _) HOF.out) hlt
   subst hA
   have hgi:=goodP_at HGD.out k hl
   have HEX:=hid (fun o=>exec_any (d:=dirP (a.dirty,fun _=>False) (p.take k)) (hd.below ((Below.refl _ wr).alloc (Nat.le_refl _) o)) p[k] (noteP false (p.take k)) hgi hf (by omega) (by omega))
   have HRP:Hid (runI (runP cur (p.take k)) p[k]=runP cur (p.take (k+1))):=show _=_ by rw [List.take_succ_eq_append_getElem hl,runP_snoc]
   have HNP:Hid (noteI (noteP false (p.take k)) p[k]=noteP false (p.take (k+1))):=show _=_ by rw [List.take_succ_eq_append_getElem hl,noteP_app];rfl
   have HDP:Hid (dirI (dirP (a.dirty,fun _=>False) (p.take k)) p[k]=dirP (a.dirty,fun _=>False) (p.take (k+1))):=show _=_ by rw [List.take_succ_eq_append_getElem hl,dirP_app];rfl
   rw [HRP.out,HNP.out,HDP.out] at HEX
   have HC:=hid hC
   have HG:=hid hG
   unfold memV at HEX
   generalize (p[k]).op=op at *
   generalize (p[k]).o=o at *
   generalize (p[k]).v=v at *
   have hz0:(0:Int)≤(k:Int):=by omega
   have hz1:(k:Int) < (n:Int):=by omega
   clear hgi hd hf hC hG H HRP HNP HDP
   go_wp2_with fail
   refine (HEX.out _).mono ?_
   rintro e w2 ⟨rfl,S2,F2,hd2,hf2,hF2,hC2,hG2⟩
   have HN:Hid (RunI a L T w w2 S cur p (k+1)):=⟨S2,F2,by rw [← Nat.add_assoc];exact hd2,hf2,by omega,HC.out.trans (S':=S1) (((Chg.refl S1 wr).alloc _).trans hC2 (Grew.refl _ _)) HG.out,HG.out.trans (w1:=wr) (fun j hj=>(hG2 j hj).imp id (fun h=>by simp at h;omega)) HC.out.size⟩
   clear hd2 hf2 hF2 hC2 hG2
   go_wp2
   go_roundw
   case rel=>exact ⟨k+1,by omega,by go_num,HN⟩
   case measure=>simp [RowKit.intOf];omega
  ·obtain rfl:n=k:=by omega
   obtain ⟨S1,F1,hd,hf,hF1,hC,hG⟩:=H.out
   rw [List.take_of_length_le (by rw [HLN.out];exact Nat.le_refl _)] at hd hf
   have hF0:=hf (goodP_end HGD.out)
   subst hF0
   have HD:Hid (Dev a L (T+n) wr S1 (runP cur p) 0):=hid (hd.mono (fun k hk=>HGD.out.2 _ k hk) (fun _ h=>h.elim))
   have HC:=hid hC
   have HG:=hid hG
   obtain ⟨s,exe,per,cs,ls,hdc,hnt⟩:=hd
   obtain ⟨g0,_,_,_,g2⟩:=hdc.facts (j:=0) (by omega)
   clear hdc hnt hC hG hf H
   go_wp2
   go_ret
   exact ⟨rfl,S1,HD.out,HC.out,HG.out⟩
end
end Go.Proofs.YtfkjjoglnmeciaaGreatDoor
