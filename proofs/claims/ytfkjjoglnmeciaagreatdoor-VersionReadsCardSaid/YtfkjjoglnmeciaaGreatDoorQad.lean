/- The walks and laws that the claim leans on, part 4. -/
import Derived.Test.YtfkjjoglnmeciaaGreatDoorQac
set_option maxRecDepth 100000
set_option maxHeartbeats 16000000
namespace Go.Proofs.YtfkjjoglnmeciaaGreatDoor
open Go.Lib (hid)
section
open Go.RowKit
def Ints (n:Nat) (cs:Array Value) (f:Nat→Nat):Prop:=cs.size=n∧∀ i,i < n→cs[i]?=some (.int .u64 (f i:Int))
theorem Ints.set {n:Nat} {cs:Array Value} {f:Nat→Nat} (h:Ints n cs f) {j:Nat} (hj:j < n) (v:Nat):Ints n (cs.setIfInBounds j (.int .u64 (v:Int))) (upd f j v):=by
 refine ⟨by simpa using h.1,fun i hi=>?_⟩;rw [set_at i (by rw [h.1];exact hj)];unfold upd;by_cases hij:i=j
 ·rw [if_pos hij,if_pos hij]
 ·rw [if_neg hij,if_neg hij];exact h.2 i hi
def RetApply (w:World) (pb n:Nat) (f:Nat→Nat) (e:Ending) (w':World):Prop:=e = .returned (.tuple #[])∧∃ cs,Blk w' pb 32 cs∧Ints n cs f∧Chg (fun k=>k=pb) w w'
theorem apply_any (L pb g m hc:Nat) (per:Array Value) (xs:List Value) (f:Nat→Nat) (ws:List (Nat × Nat)) (hxs:xs=wrCells ws) (w:World) (hB:Blk w pb 32 per) (hI:Ints (8 * L) per f) (own:w.ownsRow 0 114 2 (.slice (some ⟨g,0,none⟩) m hc) m xs) (hok:HistOk L m xs) (hm:m≤1000000000) (hL:L≤4096) :
  Calls Tryz.prog 192 #[.slice (some ⟨pb,0,none⟩) (8 * L) (8 * L), .slice (some ⟨g,0,none⟩) m hc] w (RetApply w pb (8 * L) (wrS f ws)):=by
 have hne:g≠pb:=fun e=>own_blk_ne own hB (by decide) (by rw [e];rfl)
 have HR:=hid own;have HOK:=hid hok;have HX:=hid hxs;have HWl:Hid (ws.length=m):=hid (by have h1:=own.1;rw [hxs,wrCells_len] at h1;omega);have H0:Hid (∃ cs,Blk w pb 32 cs∧Ints (8 * L) cs (wrS f (ws.take 0))∧Chg (fun k=>k=pb) w w):=⟨per,hB,hI,Chg.refl _ _⟩
 have hgl:=(own.lt g rfl).2;clear own hok hB hI hxs;go_enter Tryz.func192,Tryz.ntmps192
 go_wp2;go_loopw [8] (fun i wr=>∃ (k:Nat),k≤m∧i = .int .i64 k∧Hid (∃ cs,Blk wr pb 32 cs∧Ints (8 * L) cs (wrS f (ws.take k))∧Chg (fun k=>k=pb) w wr)) (fun i _=>m - (RowKit.intOf i).toNat)
 case atStart=>exact ⟨0,Nat.zero_le _,rfl,H0⟩
 case round =>
  clear H0;obtain ⟨k,hk,rfl,H⟩:=hrel;by_cases hlt:k < m
  ·obtain ⟨cs,hB,hI,hC⟩:=H.out
   obtain ⟨o0,v0,q1,_,hol0⟩:=HOK.out k hlt;have hkw:k < ws.length:=by rw [HWl.out];exact hlt
   obtain ⟨⟨o,v⟩,hov⟩:∃ e,ws[k]=e:=⟨_,rfl⟩
   have g12:=wrCells_at ws k hkw;rw [hov] at g12;obtain ⟨g1,g2⟩:=g12;simp only at g1 g2;rw [← HX.out] at g1 g2;have hol:o < 64 * L:=by
    rw [g1] at q1;injection q1 with q1
    injection q1 with _ q1
    omega
   have HTk:Hid (wrS f (ws.take (k+1))=upd (wrS f (ws.take k)) (o / 8) v):=hid (by rw [List.take_succ_eq_append_getElem hkw,wrS_snoc,hov]);clear q1 hol0 hov;have hcell:∀ j u,xs[j]?=some u→wr.cell? ⟨g,j,none⟩=some u:=fun j u hu=>by
    have h1:=(hC.own HR.out (fun g' hg'=>by simp [Value.ownBlock] at hg';subst hg';exact hne)).cells (g:=g) rfl j u hu;have ha:(⟨g,0,none⟩:Addr).add j=⟨g,j,none⟩:=by unfold Addr.add;split <;> simp_all
    rw [ha] at h1;exact h1
   have c1:=hcell _ _ g1;have c2:=hcell _ _ g2;obtain ⟨old,hold⟩:∃ old:Int,cs[o / 8]?=some (.int .u64 old):=⟨_,hI.2 (o / 8) oM⟩
   have c3:wr.cell? ⟨pb,o / 8,none⟩=some (.int .u64 old):=by rw [hB.cell];exact hold
   have c4:∀ ob,(wr.alloc ob).cell? ⟨pb,o / 8,none⟩=some (.int .u64 old):=fun ob=>((hB.alloc ob).cell _).trans hold
   have z4:∀ ob,(wr.alloc ob).frozen? ⟨pb,o / 8,none⟩=false:=fun ob=>(hB.alloc ob).frozen _
   have e2:(o:Int) / 8 < 8 * (L:Int):=oM;have e3:(0:Int)≤(o:Int) / 8:=oM;have e4:((o:Int) / 8).toNat=o / 8:=oM;have hz0:(0:Int)≤(k:Int):=oM;have hz1:(k:Int) < (m:Int):=oM;have hlp:=hB.lt;have HN:Hid (∃ cs,Blk ((wr.setCell ⟨pb,o / 8,none⟩ (.int .u64 (v:Int))).alloc (.cells #[.int .u64 (o:Int), .int .u64 (v:Int)] 114)) pb 32 cs∧Ints (8 * L) cs (wrS f (ws.take (k+1)))∧Chg (fun k=>k=pb) w ((wr.setCell ⟨pb,o / 8,none⟩ (.int .u64 (v:Int))).alloc (.cells #[.int .u64 (o:Int), .int .u64 (v:Int)] 114))) :=
    ⟨_,(hB.set_ (o / 8) _).alloc _,by rw [HTk.out];exact hI.set oM v,(hC.setCell (p:=⟨pb,o / 8,none⟩) (.inl rfl) _).alloc _⟩
   clear hcell hB hI hC hold g1 g2 H HTk hkw;go_wp2;go_roundw
   case rel=>exact ⟨k+1,oM,by go_num,HN⟩
   case measure=>simp [RowKit.intOf];omega
  ·obtain rfl:m=k:=oM
   go_wp2;go_end0;obtain ⟨cs,hB,hI,hC⟩:=H.out;rw [List.take_of_length_le (by rw [HWl.out];exact nL _)] at hI;exact ⟨rfl,cs,hB,hI,hC⟩
theorem blk_set2 {w:World} {g:Nat} {t:TypeId} {cs:Array Value} (h:Blk w g t cs) (j:Nat) (u v:Value):Blk ((w.setCell ⟨g,j,none⟩ u).setCell ⟨g,j,none⟩ v) g t (cs.setIfInBounds j v):=by
 have h1:=(h.set_ j u).set_ j v;rw [Array.setIfInBounds_setIfInBounds] at h1;exact h1
def RetPersist (w:World) (pb lb n i:Nat) (dn:Int) (ls:Array Value) (f:Nat→Nat) (e:Ending) (w':World):Prop:=e = .returned (.tuple #[])∧∃ cs,Blk w' pb 32 cs∧Ints n cs f ∧
 Blk w' lb 298 ((ls.setIfInBounds (i * 2) (.int .u64 dn)).setIfInBounds (i * 2+1) (.slice none 0 0))∧Chg (fun k=>k=pb∨k=lb) w w'
theorem persist_core (L d pb lb g m hc i dn:Nat) (per ls:Array Value) (xs:List Value) (f:Nat→Nat) (ws:List (Nat × Nat)) (hxs:xs=wrCells ws) (w:World) (hi:i < L) (hB:Blk w pb 32 per) (hI:Ints (8 * L) per f) (own:w.ownsRow 0 114 2 (.slice (some ⟨g,0,none⟩) m hc) m xs) (hok:HistOk L m xs) (hm:dn+m≤1000000000) (hL:L≤4096)
  (f0:w.cell? ⟨d,0,none⟩=some (.slice (some ⟨pb,0,none⟩) (8 * L) (8 * L))) (f2:w.cell? ⟨d,2,none⟩=some (.slice (some ⟨lb,0,none⟩) L L)) (hl:Blk w lb 298 ls) (l0:ls[i * 2]?=some (.int .u64 (dn:Int))) (l1:ls[i * 2+1]?=some (.slice (some ⟨g,0,none⟩) m hc)) :
  Calls Tryz.prog 428 #[.pointer (some ⟨d,0,none⟩), .int .i64 (i:Int), .int .i64 (m:Int)] w (RetPersist w pb lb (8 * L) i ((dn+m:Nat):Int) ls (wrS f ws)):=by
 have hcap:=own_cap own;have hne:lb≠pb:=hl.ne_ hB (by decide);have c1:w.cell? ⟨lb,i * 2+1,none⟩=some (.slice (some ⟨g,0,none⟩) m hc):=by rw [hl.cell];exact l1
 have HAP:=hid (apply_any L pb g m hc per xs f ws hxs w.drew hB hI own hok oM hL);have HL:=hid hl;have L0:=hid l0;have L1:=hid l1;have e6:(i:Int) < (L:Int):=oM;have e7:(0:Int)≤(i:Int):=oM;have e8:(0:Int)≤(m:Int):=oM;have e9:(m:Int)≤(hc:Int):=oM;have u1:IntKind.u64.wrap (m:Int)=(m:Int):=by rw [IntKind.wrap_u64];omega
 have u2:IntKind.u64.wrap ((dn:Int)+(m:Int))=(dn:Int)+(m:Int):=by rw [IntKind.wrap_u64];omega
 clear hB hI own hok hl l0 l1 hxs;go_enter Tryz.func428,Tryz.ntmps428
 go_wp2;refine wp_region_script (fun w'=>w'.cell? ⟨d,0,none⟩=some (.slice (some ⟨pb,0,none⟩) (8 * L) (8 * L))∧w'.cell? ⟨lb,i * 2+1,none⟩=some (.slice (some ⟨g,0,none⟩) m hc)) 10 [(true,0),(true,1),(true,2),(true,3),(true,4),(true,5),(true,6),(true,7),(true,8),(true,9)] (by kernel_rfl) (by kernel_rfl) ⟨f0,c1⟩ ?_;clear f0 f2 c1;refine tkS (.pointer (some ⟨d,0,none⟩)) (fun w' hS=>?_) ?_
 ·go_simp
 simp only [zA,zB,Act.put,zD,zE,zF];refine tkS (.pointer (some ⟨d,0,none⟩)) (fun w' hS=>?_) ?_
 ·go_simp
 simp only [zA,zB,zC,Act.put,zD,zE,zF];refine tkS (.pointer (some ⟨d,0,none⟩)) (fun w' hS=>?_) ?_
 ·go_simp
 simp only [zA,zB,zC,Act.put,zD,zE,zF];refine tkS (.slice (some ⟨pb,0,none⟩) (8 * L) (8 * L)) (fun w' hS=>?_) ?_
 ·obtain ⟨s1,s2⟩:=hS
  go_simp
 simp only [zA,zB,zC,Act.put,zD,zE,zF];refine tkS (.pointer (some ⟨lb,i * 2,none⟩)) (fun w' hS=>?_) ?_
 ·go_simp
 simp only [zA,zB,zC,Act.put,zD,zE,zF];refine tkS (.pointer (some ⟨lb,i * 2,none⟩)) (fun w' hS=>?_) ?_
 ·go_simp
 simp only [zA,zB,zC,Act.put,zD,zE,zF];refine tkS (.pointer (some ⟨lb,i * 2+1,none⟩)) (fun w' hS=>?_) ?_
 ·go_simp
 simp only [zA,zB,zC,Act.put,zD,zE,zF];refine tkS (.slice (some ⟨g,0,none⟩) m hc) (fun w' hS=>?_) ?_
 ·obtain ⟨s1,s2⟩:=hS
  go_simp
 simp only [zA,zB,zC,Act.put,zD,zE,zF];refine tkS (.int .i64 (m:Int)) (fun w' hS=>?_) ?_
 ·go_simp
 simp only [zA,zB,zC,Act.put,zD,zE,zF];refine tkS (.slice (some ⟨g,0,none⟩) m hc) (fun w' hS=>?_) ?_
 ·go_simp
 simp only [zA,zB,zC,Act.put,zD,zE,zF];show wpList _ _ _ _ _ _;simp only [List.drop_succ_cons,List.drop_zero];go_wp2_with fail
 refine HAP.out.mono ?_;rintro e W ⟨rfl,cs,hB,hI,hC⟩;have hl:Blk W lb 298 ls:=Chg.blk (w:=w) ⟨hC.os,hC.tape,hC.output,hC.size,hC.block⟩ HL.out hne;have d0:W.cell? ⟨lb,i * 2,none⟩=some (.int .u64 (dn:Int)):=(hl.cell _).trans L0.out;have d1:W.cell? ⟨lb,i * 2+1,none⟩=some (.slice (some ⟨g,0,none⟩) m hc):=(hl.cell _).trans L1.out;have z0:=hl.frozen (i * 2);have z1:=hl.frozen (i * 2+1);have HB:=hid hB;have HI:=hid hI;have HC:=hid hC;have HW:=hid hl;clear hB hI hC hl HAP;go_wp2_with fail
 refine NoPanic.normal ?_;go_wp2;all_goals
  go_end0;refine ⟨rfl,cs,?_,HI.out,?_,?_⟩
  ·iterate 3 (refine Blk.far ?_ (fun e=>hne e.symm) _)
   exact HB.out
  ·exact blk_set2 (HW.out.set_ (i * 2) (.int .u64 ((dn:Int)+(m:Int)))) _ _ _
  ·iterate 3 (refine Chg.setCell ?_ (.inl (.inr rfl)) _)
   exact Chg.mono (S:=fun k=>k=pb) (w:=w) ⟨HC.out.os,HC.out.tape,HC.out.output,HC.out.size,HC.out.block⟩ (fun k hk => .inl hk)
end
section
open Go.RowKit Go.Maps
def clearL (s:LS) (i:Nat):LS:=⟨fun k=>if k=i then s.dn i+s.m i else s.dn k,fun k=>if k=i then 0 else s.m k,fun k=>if k=i then .slice none 0 0 else s.h k,fun k=>if k=i then [] else s.xs k,wrS s.pw (s.ws i),fun k=>if k=i then [] else s.ws k⟩
def RetPers (a:DA) (L T:Nat) (w:World) (S:Fp) (cur:Nat→Nat) (s:LS) (exe:Int) (cs:Array Value) (i:Nat) (e:Ending) (w':World):Prop :=
 e = .returned (.tuple #[])∧(∃ per' ls',DevC a L T w' S cur (clearL s i) exe per' cs ls')∧Chg (fun k=>k=a.pb∨k=a.lb) w w'
section
variable {a:DA} {L T:Nat} {w:World} {S:Fp} {cur:Nat→Nat} {s:LS} {exe:Int} {per cs ls:Array Value}
theorem persist_any (h:DevC a L T w S cur s exe per cs ls) (i:Nat) (hi:i < L) (hm:0 < s.m i) :
  Calls Tryz.prog 428 #[.pointer (some ⟨a.d,0,none⟩), .int .i64 (i:Int), .int .i64 (s.m i:Int)] w (RetPers a L T w S cur s exe cs i):=by
 have ho:=h.own i hi;obtain ⟨hA,hc,hv⟩:=own_slice ho;rw [hv] at ho;obtain ⟨g,cap,hve,_,_⟩:=ho.form hm;have hA':hA=some ⟨g,0,none⟩:=by injection hve
 subst hA';have hls:=h.linS;have hfew:=h.few i hi;have hT:=h.hT;refine (persist_core L a.d a.pb a.lb g (s.m i) hc i (s.dn i) per ls (s.xs i) s.pw (s.ws i) (h.hx i hi) w hi h.perB ⟨h.perS,h.pv⟩ ho (h.ok i hi) oM h.hL (h.dev.cell 0) (h.dev.cell 2) h.linB (h.linD i hi) (by rw [h.linH i hi,hv])).mono ?_;rintro e w' ⟨rfl,per',hB,hI,hl,hC⟩;have n1:∀ {k:Nat} {t:TypeId} {xs:Array Value},Blk w k t xs→t≠32→t≠298→¬ (k=a.pb∨k=a.lb):=fun hB h1 h2 hk=>by
  rcases hk with rfl | rfl
  ·exact hB.ne_ h.perB h1 rfl
  ·exact hB.ne_ h.linB h2 rfl
 refine ⟨rfl,⟨per',(ls.setIfInBounds (i * 2) (.int .u64 ((s.dn i+s.m i:Nat):Int))).setIfInBounds (i * 2+1) (.slice none 0 0),?_⟩,hC⟩;exact
 {dev:=hC.blk h.dev (n1 h.dev (by decide) (by decide))
  perB:=hB
  perS:=hI.1
  perI:=fun k hk=>⟨_,hI.2 k hk⟩
  curB:=hC.blk h.curB (fun hk=>by
   rcases hk with hk | hk
   ·exact h.ne hk.symm
   ·exact h.curB.ne_ h.linB (by decide) hk)
  curS:=h.curS
  curL:=h.curL
  curM:=h.curM
  curI:=h.curI
  linB:=hl
  linS:=by simpa using h.linS
  linD:=fun k hk=>by
   rw [set_at _ (by simp;omega),if_neg oM,set_at _ oM];by_cases hki:k=i
   ·rw [if_pos oM];simp only [clearL,if_pos hki]
   ·rw [if_neg oM];simp only [clearL,if_neg hki];exact h.linD k hk
  linH:=fun k hk=>by
   rw [set_at _ (by simp;omega)];by_cases hki:k=i
   ·rw [if_pos oM];simp only [clearL,if_pos hki]
   ·rw [if_neg oM,set_at _ oM,if_neg oM];simp only [clearL,if_neg hki];exact h.linH k hk
  own:=fun k hk=>by
   by_cases hki:k=i
   ·simp only [clearL,if_pos hki];exact World.ownsRow_nil _ _ _ _
   ·simp only [clearL,if_neg hki]
    refine hC.own (h.own k hk) (fun g hg hk'=>?_);rcases hk' with rfl | rfl
    ·exact own_blk_ne (h.own k hk) h.perB (by decide) hg
    ·exact own_blk_ne (h.own k hk) h.linB (by decide) hg
  ok:=fun k hk=>by
   by_cases hki:k=i
   ·simp only [clearL,if_pos hki];intro j hj;omega
   ·simp only [clearL,if_neg hki];exact h.ok k hk
  few:=fun k hk=>by
   by_cases hki:k=i
   ·subst hki;simp only [clearL,if_true];omega
   ·simp only [clearL,if_neg hki];exact h.few k hk
  apart:=fun x y g hx hy h1 h2=>by
   by_cases hx':x=i
   ·simp only [clearL,if_pos hx',Value.ownBlock] at h1;cases h1
   ·by_cases hy':y=i
    ·simp only [clearL,if_pos hy',Value.ownBlock] at h2;cases h2
    ·simp only [clearL,if_neg hx'] at h1
     simp only [clearL,if_neg hy'] at h2;exact h.apart x y g hx hy h1 h2
  thr:=fun j hj=>hC.blk (h.thr j hj) (n1 (h.thr j hj) (by decide) (by decide))
  sd:=h.sd
  sp:=h.sp
  sc:=h.sc
  sl:=h.sl
  sn:=h.sn
  st:=h.st
  sh:=fun k g hk hg=>by
   by_cases hki:k=i
   ·simp only [clearL,if_pos hki,Value.ownBlock] at hg;cases hg
   ·simp only [clearL,if_neg hki] at hg;exact h.sh k g hk hg
  lt:=fun k hk=>Nat.lt_of_lt_of_le (h.lt k hk) hC.size
  ne:=h.ne
  hL:=h.hL
  hT:=h.hT
  pv:=hI.2
  hx:=fun k hk=>by
   by_cases hki:k=i
   ·simp only [clearL,if_pos hki];rfl
   ·simp only [clearL,if_neg hki];exact h.hx k hk
  lin:=fun k hk e he=>by
   by_cases hki:k=i
   ·simp only [clearL,if_pos hki] at he;cases he
   ·simp only [clearL,if_neg hki] at he;exact h.lin k hk e he
  link:=fun k hk=>by
   by_cases hki:k / 8=i
   ·simp only [clearL,if_pos hki]
    show wrS s.pw (s.ws i) k=cur k;rw [← hki];exact h.link k hk
   ·simp only [clearL,if_neg hki]
    refine (wrS_congr _ _ s.pw k (wrS_away _ _ k (fun e he h1=>hki ?_))).trans (h.link k hk);have:=h.lin i hi e he;omega }
theorem clearL_ws (s:LS) (i k:Nat):(clearL s i).ws k=[]∨(clearL s i).ws k=s.ws k:=by
 by_cases hki:k=i
 ·exact .inl (by simp [clearL,hki])
 ·exact .inr (by simp [clearL,hki])
theorem DevC.none (h:DevC a L T w S cur s exe per cs ls) {i:Nat} (hi:i < L) (hm:s.m i=0):s.ws i=[]:=by
 have h1:=(h.own i hi).1;rw [h.hx i hi,wrCells_len,hm] at h1;exact List.eq_nil_of_length_eq_zero oM
theorem clearL_sum (s:LS) (i k:Nat):(clearL s i).dn k+(clearL s i).m k=s.dn k+s.m k:=by
 by_cases hki:k=i
 ·subst hki;simp [clearL]
 ·simp [clearL,hki]
end
theorem atKey_mem {H:Type} [Inhabited H] {l:List (Lit × DataW H)} {kl:Lit} {d:DataW H} (h:∀ zd,(DataW.map l).atKey kl zd=d):∃ p∈l,p.1.sameKey kl=true∧p.2=d:=by
 cases hf:l.find? (fun p=>p.1.sameKey kl) with
 | some p =>
  refine ⟨p,List.mem_of_find?_eq_some hf,by simpa using List.find?_some hf,?_⟩;have:=h .nil;simpa [DataW.atKey,hf] using this
 | none =>
  have h1:=h .nil;have h2:=h (.map []);simp [DataW.atKey,hf] at h1 h2;rw [← h1] at h2;cases h2
theorem clear_map {H:Type} {P:Program} {k e t:TypeId} {R:Value→Option (DataW H × List MemPlace)} {w:World} {b n:Nat} {D:DataW H} (h:w.ownsMap P k R b n D) (ht:P.underlying t=some (.map k e)) :
  ∃ w',(∀ ty,(Builtin.clear_ #[t] ty #[.map (some b)]).run P w = .ok (.tuple #[]) w')∧w'.ownsMap P k R b 0 (.map [])∧w.grownBy w' (some b):=by
 obtain ⟨es,clock,hb,F,_,_⟩:=h;have hs:=ChangeMaps.heap_setBlock_same hb (.map #[] clock);refine ⟨ChangeMaps.setBlock w b (.map #[] clock),fun ty=>?_,⟨#[],clock,hs,⟨by simp,MapKept.stamped_empty clock,by simp⟩,nL _,rfl⟩,⟨rfl,rfl,rfl,by simp [ChangeMaps.setBlock],fun i _ hi=>ChangeMaps.heap_setBlock_other hb _ (fun e=>hi (by rw [e]))⟩⟩;simp [Builtin.clear_,run_underlying ht,MapKept.run_getObj_map hb,MapKept.run_setObj_map _ hb,Result.andThen,ChangeMaps.setBlock]
theorem ranges_chg {H:Type} {P:Program} {k:TypeId} {R:Value→Option (DataW H × List MemPlace)} {w w':World} {b r n:Nat} {D:DataW H} {left:Lit→Bool} {cnt:Nat} {Z:Fp} (h:w.ranges P k R b r n D left cnt) (hc:Chg Z w w') (hb':¬ Z b) (hr':¬ Z r):w'.ranges P k R b r n D left cnt:=by
 have h1:=h.owns.lt;have h2:=h.lt;obtain ⟨es,clock,since,seen,c0,hb,F,hs,hD,hr,rest⟩:=h;exact ⟨es,clock,since,seen,c0,(hc.block b h1 hb').trans hb,F,hs,hD,(hc.block r h2 hr').trans hr,rest⟩
theorem DevC.note {a:DA} {L T:Nat} {w w':World} {S:Fp} {cur:Nat→Nat} {s:LS} {exe:Int} {per cs ls:Array Value} {H:Type} {P:Program} {k:TypeId} {R:Value→Option (DataW H × List MemPlace)} {n:Nat} {D:DataW H} (h:DevC a L T w S cur s exe per cs ls) (hmap:w.ownsMap P k R (a.nt 0) n D) (hg:w.grownBy w' (some (a.nt 0))):DevC a L T w' S cur s exe per cs ls:=by
 have hne:∀ {g:Nat} {t:TypeId} {cs:Array Value},Blk w g t cs→some g≠some (a.nt 0):=fun hB e=>by injection e with e;exact map_ne_blk hmap hB e.symm
 have hsz:=hg.size;exact
  {h with
   dev:=h.dev.grown hg (hne h.dev)
   perB:=h.perB.grown hg (hne h.perB)
   curB:=h.curB.grown hg (hne h.curB)
   linB:=h.linB.grown hg (hne h.linB)
   own:=fun k hk=>by
    have h1:=h.own k hk;refine h1.kept hg ?_;cases hb:(s.h k).ownBlock with
    | none=>exact .inl rfl
    | some g=>exact .inr (fun e=>map_ne_own hmap h1 (by rw [hb];exact e.symm))
   thr:=fun j hj=>(h.thr j hj).grown hg (hne (h.thr j hj))
   lt:=fun k hk=>by have:=h.lt k hk;omega }
theorem has_mem {H:Type} {l:List (Lit × DataW H)} {p:Lit × DataW H} (hp:p∈l) {i:Int} (he:p.1 = .int .i64 i):Maps.has (.map l) (.int .i64 i)=true:=by
 rw [Maps.has_eq];exact List.any_eq_true.2 ⟨p,hp,by rw [he];simp [Lit.sameKey]⟩
def FenceI (a:DA) (L T:Nat) (w wr:World) (S:Fp) (cur:Nat→Nat) (s:LS) (exe:Int) (cs:Array Value) (F r:Nat) (l:List (Lit × DataW Unit)) (left:Lit→Bool) (cnt:Nat):Prop :=
 w.heap.size≤r∧wr.ranges Tryz.prog 3 (plainElem Tryz.prog 32) (a.nt 0) r F (.map l) left cnt∧(∃ s' per' ls',DevC a L T wr S cur s' exe per' cs ls'∧(∀ i,s'.dn i+s'.m i=s.dn i+s.m i)∧(∀ i,s'.ws i=[]∨s'.ws i=s.ws i)∧∀ i:Nat,i < L→(∃ p∈l,p.1 = .int .i64 (i:Int))→left (.int .i64 (i:Int))=false→s'.ws i=[])∧Chg S w wr
theorem fence_any {a:DA} {L T:Nat} {w:World} {S:Fp} {cur:Nat→Nat} {s:LS} {exe:Int} {per cs ls:Array Value} {F:Nat} {D N:Nat→Prop} (h:DevC a L T w S cur s exe per cs ls) (hN:NoteM a L w s N F) (hCl:CleanL L s D) :
  Calls Tryz.prog 426 #[.pointer (some ⟨a.th 0,0,none⟩)] w (RetDevM a L T w S cur (fun k=>D k∧¬ N (k / 8)) (fun _=>False) 0 (.tuple #[])):=by
 obtain ⟨f0,f2,f11,f1,_⟩:=h.facts (j:=0) oM;obtain ⟨l,hmap,hnotes,hns⟩:=hN;have HNT:=hid hnotes;have HNS:=hid hns;have HCl:=hid hCl;have hth:=h.thr 0 oM;have n1:a.d≠a.th 0:=h.dev.ne_ hth (by decide);have n1':=n1.symm;have hT:=h.hT;have hL:=h.hL;have f12:w.cell? ⟨a.d,12,none⟩=some (.bool false):=h.dev.cell 12;have f14:w.cell? ⟨a.d,14,none⟩=some (.int .u64 exe):=h.dev.cell 14;have z14:=h.dev.frozen 14;have f3:w.cell? ⟨a.th 0,3,none⟩=some (.map (some (a.nt 0))):=hth.cell 3;have HM1:Hid ((w.setCell ⟨a.d,14,none⟩ (.int .u64 (IntKind.u64.wrap (exe+1)))).ownsMap Tryz.prog 3 (plainElem Tryz.prog 32) (a.nt 0) F (.map l)):=hmap.setCell (a:=⟨a.d,14,none⟩) (map_ne_blk hmap h.dev) _;have HD1:Hid (DevC a L T (w.setCell ⟨a.d,14,none⟩ (.int .u64 (IntKind.u64.wrap (exe+1)))) S cur s (IntKind.u64.wrap (exe+1)) per cs ls) :=
  {h with
   dev:=h.dev.set_ 14 _
   perB:=h.perB.far (p:=⟨a.d,14,none⟩) (h.perB.ne_ h.dev (by decide)) _
   curB:=h.curB.far (p:=⟨a.d,14,none⟩) (h.curB.ne_ h.dev (by decide)) _
   linB:=h.linB.far (p:=⟨a.d,14,none⟩) (h.linB.ne_ h.dev (by decide)) _
   own:=fun k hk=>ownsRow_setCell_other (h.own k hk) (a:=⟨a.d,14,none⟩) (own_blk_ne (h.own k hk) h.dev (by decide)) _
   thr:=fun j hj=>(h.thr j hj).far (p:=⟨a.d,14,none⟩) ((h.thr j hj).ne_ h.dev (by decide)) _
   lt:=fun k hk=>by have:=h.lt k hk;simpa using this }
 have HC1:Hid (Chg S w (w.setCell ⟨a.d,14,none⟩ (.int .u64 (IntKind.u64.wrap (exe+1))))):=(Chg.refl S w).setCell (p:=⟨a.d,14,none⟩) (.inl h.sd) _;have HSN:=hid h.sn;have HSL:=hid h.lt;obtain ⟨r,hr⟩:∃ r,r=(w.setCell ⟨a.d,14,none⟩ (.int .u64 (IntKind.u64.wrap (exe+1)))).heap.size:=⟨_,rfl⟩
 have HR:=hid hr;clear hr;clear h hmap hnotes hth hns hCl;go_enter Tryz.func426,Tryz.ntmps426
 go_wp2_with (first
  | (at_range;refine wpList_range_own _ rfl _ 266 rfl 3 32 (int_keyed Tryz.underlying3) Tryz.underlying266 _ (a.nt 0) F (.map l) rfl HM1.out ?_;intro w0 hrg0 hg0 hs0;rw [← HR.out] at hrg0 ⊢;have HI0:Hid (FenceI a L T w w0 S cur s (IntKind.u64.wrap (exe+1)) cs F r l (Maps.has (.map l)) (Maps.size (DataW.map l))):=⟨by rw [HR.out];simp,hrg0,⟨s,per,ls,HD1.out.chg (Z:=Fp.no) ((Chg.refl _ _).grown hg0 (fun g hg=>by cases hg)) (fun _ _ h=>h),fun _=>rfl,fun _ => .inr rfl,fun i _ hp hl=>by obtain ⟨p,hp,he⟩:=hp;exact absurd hl (by rw [has_mem hp he];decide)⟩,HC1.out.grown hg0 (fun g hg=>by cases hg)⟩;clear hrg0 hg0 hs0)
  | go_in)
 go_frame
 clear f0 f2 f11 f1 f12 f14 z14 f3 HM1 HD1 HC1;go_loopw [2] (fun _ wr=>∃ (left:Lit→Bool) (cnt:Nat),Hid (FenceI a L T w wr S cur s (IntKind.u64.wrap (exe+1)) cs F r l left cnt)) (fun _ wr=>wr.rangeLeft (a.nt 0) r)
 case atStart=>exact ⟨_,_,HI0⟩
 case round =>
  clear HI0;obtain ⟨left,cnt,H⟩:=hrel;go_wp2_with (first
   | (at_next;refine wpList_next_ranges_ii _ rfl _ rfl 3 32 .i64 .u64 (int_keyed Tryz.underlying3) Tryz.underlying3 Tryz.underlying32 (a.nt 0) r F _ _ _ rfl H.out.2.1 ?_ ?_)
   | go_in)
  ·intro _ hleft
   obtain ⟨hwr,hrg,⟨s',per',ls',hd,hsum,hws,hwl⟩,hC⟩:=H.out;have HCl2:Hid (CleanL L s' (fun k=>D k∧¬ N (k / 8))):=hid (fun k hk hnd e he=>by
    rcases hws (k / 8) with h1 | h1
    ·rw [h1] at he;cases he
    ·by_cases hN:N (k / 8)
     ·rw [hwl (k / 8) oM (HNS.out _ hN oM) (hleft _)] at he;cases he
     ·rw [h1] at he
      exact HCl.out k hk (fun hd=>hnd ⟨hd,hN⟩) e he)
   clear hws hwl hleft;obtain ⟨W',hcl,hmap',hgr⟩:=clear_map hrg.owns (t:=266) Tryz.underlying266;have g3:wr.cell? ⟨a.th 0,3,none⟩=some (.map (some (a.nt 0))):=(hd.thr 0 oM).cell 3;have HD:=hid hd;have HC:=hid hC;have HM:=hid hmap';have HG:=hid hgr;have HO:=hid hrg.owns;clear hd hC hmap' hgr hrg hsum;go_wp2;go_end0;refine ⟨rfl,S,⟨s',_,per',cs,ls',HD.out.note HO.out HG.out,⟨[],HM.out,(fun p hp=>by cases hp),fun _ h=>h.elim⟩,HCl2.out⟩,HC.out.grown HG.out (fun g hg=>by injection hg with hg;subst hg;exact .inl HSN.out),Grew.refl _ _⟩
  ·intro x c w1 cnt1 hwx hwc hlx hat hrg1 hlt hg1 hs1 hen
   obtain ⟨p,hp,hsk,hpd⟩:=atKey_mem hat;obtain ⟨i,hi,rfl⟩:=HNT.out p hp;obtain ⟨hwr,hrg,⟨s',per',ls',hd,hsum,hws,hwl⟩,hC⟩:=H.out;have hx:x=(i:Int):=by simpa [Lit.sameKey,eq_comm] using hsk
   have hc:c=((s'.dn i+s'.m i:Nat):Int):=by
    rw [hsum i];simpa [eq_comm] using hpd
   subst hx hc;have hrS:∀ k,S k→¬ k=r:=fun k hk e=>by have:=HSL.out k hk;omega
   have hC1:Chg (fun k=>k=r) wr w1:=(Chg.refl _ _).grown hg1 (fun g hg=>by injection hg with hg;exact .inl hg.symm);have hd1:=hd.chg hC1 hrS;have g0:w1.cell? ⟨a.th 0,0,none⟩=some (.pointer (some ⟨a.d,0,none⟩)):=(hd1.thr 0 oM).cell 0;have g2:w1.cell? ⟨a.d,2,none⟩=some (.slice (some ⟨a.lb,0,none⟩) L L):=hd1.dev.cell 2;have gl:w1.cell? ⟨a.lb,i * 2,none⟩=some (.int .u64 (s'.dn i:Int)):=by rw [hd1.linB.cell];exact hd1.linD i hi
   have hfew:=hd1.few i hi;have HM1:Hid (w1.rangeLeft (a.nt 0) r < wr.rangeLeft (a.nt 0) r):=show _ < _ by rw [hrg1.left_eq,hrg.left_eq];exact hlt
   have HCw:Hid (Chg S w w1):=hC.grown hg1 (fun g hg=>by injection hg with hg;subst hg;exact .inr hwr);have HPS:=hid (fun hm=>persist_any hd1 i hi hm);have HD1:=hid hd1;have HRG:=hid hrg1;have HSM:=hid hsum;have HWs:=hid hws;have HWl:Hid (∀ s'':LS,(∀ j,s''.ws j=[]∨s''.ws j=s'.ws j)→s''.ws i=[]→∀ j:Nat,j < L→(∃ p∈l,p.1 = .int .i64 (j:Int))→(left (.int .i64 (j:Int)) && !(Lit.int .i64 (j:Int)).sameKey (.int .i64 (i:Int)))=false→s''.ws j=[]):=hid (fun s'' h1 h2 j hj hp hl=>by
    by_cases hji:j=i
    ·subst hji;exact h2
    ·have h3:(Lit.int .i64 (j:Int)).sameKey (.int .i64 (i:Int))=false:=by simp [Lit.sameKey];omega
     rw [h3] at hl;have h4:=hwl j hj hp (by simpa using hl);rcases h1 j with h5 | h5
     ·exact h5
     ·rw [h5];exact h4)
   have e6:(i:Int) < (L:Int):=oM;have e7:(0:Int)≤(i:Int):=oM;clear hat hp hsk hpd hwx hwc hlx hg1 hs1 hrg hC hd hd1 hrg1 hsum hlt hC1 hrS H hws hwl;by_cases hm:s'.m i=0
   ·have e1:decide ((s'.dn i:Int) < (s'.dn i:Int)+(s'.m i:Int))=false:=dF
    go_wp2;refine ⟨?_,HM1.out⟩;repeat apply Exists.intro
    refine ⟨?_,rfl⟩;exact ⟨_,cnt1,⟨hwr,HRG.out,⟨s',per',ls',HD1.out,HSM.out,HWs.out,HWl.out s' (fun _ => .inr rfl) (HD1.out.none hi hm)⟩,HCw.out⟩⟩
   ·have e1:decide ((s'.dn i:Int) < (s'.dn i:Int)+(s'.m i:Int))=true:=dT
    go_wp2_with fail
    rw [show ((s'.dn i:Int)+(s'.m i:Int) - (s'.dn i:Int))=(s'.m i:Int) by omega];refine (HPS.out oM).mono ?_;rintro e w2 ⟨rfl,⟨per2,ls2,hd2⟩,hC2⟩;have hr2:w2.ranges Tryz.prog 3 (plainElem Tryz.prog 32) (a.nt 0) r F (.map l) _ cnt1:=ranges_chg HRG.out hC2 (fun hk=>by
     rcases hk with hk | hk
     ·exact map_ne_blk HRG.out.owns HD1.out.perB hk
     ·exact map_ne_blk HRG.out.owns HD1.out.linB hk) (fun hk=>by
     rcases hk with hk | hk
     ·have:=HSL.out _ HD1.out.sp;omega
     ·have:=HSL.out _ HD1.out.sl;omega)
    have HM2:Hid (w2.rangeLeft (a.nt 0) r < wr.rangeLeft (a.nt 0) r):=show _ < _ by have:=HM1.out;rw [HRG.out.left_eq] at this;rw [hr2.left_eq];exact this
    have HI2:Hid (FenceI a L T w w2 S cur s (IntKind.u64.wrap (exe+1)) cs F r l _ cnt1):=⟨hwr,hr2,⟨clearL s' i,per2,ls2,hd2,fun k=>(clearL_sum s' i k).trans (HSM.out k),fun k=>(clearL_ws s' i k).elim .inl (fun h=>(HWs.out k).imp (h.trans) (h.trans)),HWl.out _ (clearL_ws s' i) (by simp [clearL])⟩,HCw.out.trans (S':=fun k=>k=a.pb∨k=a.lb) hC2 (fun k hk=>by
     rcases hk with rfl | rfl
     ·exact .inl HD1.out.sp
     ·exact .inl HD1.out.sl)⟩
    clear hd2 hC2 hr2;go_wp2;refine ⟨?_,HM2.out⟩;repeat apply Exists.intro
    refine ⟨?_,rfl⟩;exact ⟨_,cnt1,HI2⟩
end
section
open Go.RowKit
def RowU (cs:Array Value) (xs:List Nat):Prop:=xs.length≤cs.size∧∀ i (h:i < xs.length),cs[i]?=some (.int .u64 ((xs[i]:Nat):Int))
theorem RowU.set {cs:Array Value} {xs:List Nat} (h:RowU cs xs) (j x:Nat) (hj:j < xs.length):RowU (cs.setIfInBounds j (.int .u64 (x:Int))) (xs.set j x):=by
 refine ⟨by simpa using h.1,fun i hi=>?_⟩;rw [List.length_set] at hi;rw [set_at i (by have:=h.1;omega),List.getElem_set];by_cases hij:i=j
 ·rw [if_pos hij,if_pos hij.symm]
 ·rw [if_neg hij,if_neg (fun e=>hij e.symm)];exact h.2 i hi
def SortI (w wr:World) (g:Nat) (xs:List Nat) (sz:Nat):Prop:=∃ cs ys,Blk wr g 32 cs∧cs.size=sz∧RowU cs ys∧ys.Perm xs∧Chg (fun k=>k=g) w wr
def RetSort (w:World) (g:Nat) (xs:List Nat) (sz:Nat) (e:Ending) (w':World):Prop:=e = .returned (.tuple #[])∧SortI w w' g xs sz
end
end Go.Proofs.YtfkjjoglnmeciaaGreatDoor
