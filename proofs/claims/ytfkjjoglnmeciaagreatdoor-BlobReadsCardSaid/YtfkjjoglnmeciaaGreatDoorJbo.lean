/- The walks and laws that the claim leans on, part 41. -/
import Derived.Test.YtfkjjoglnmeciaaGreatDoorJbk
import Derived.Test.YtfkjjoglnmeciaaGreatDoorJbn
set_option maxRecDepth 100000
set_option maxHeartbeats 16000000
namespace Go.Proofs.YtfkjjoglnmeciaaGreatDoor
open Go.Lib (hid)
section
open Go.RowKit Go.Maps
theorem cloneW_any (A:Option Addr) (n c:Nat) (l:List (Nat × Nat)) (w:World) (h:Reads w w.heap.size 2 A n (wrCells l)) (hA:A=none→n=0∧c=0) (hn:n≤1000) :
  Calls Tryz.prog 138 #[.slice A n c] w (fun e w'=>∃ A' m' c',e = .returned (.slice A' m' c')∧m'=n∧w'.ownsRow w.heap.size 114 2 (.slice A' m' c') m' (wrCells l)∧Below w.heap.size w w'):=by
 cases A with
 | none =>
  obtain ⟨rfl,rfl⟩:=hA rfl
  have hl:wrCells l=[]:=by have:=h.1;exact List.eq_nil_of_length_eq_zero (by omega)
  rw [hl]
  clear h
  have hnil:∀ W,(binOp .eql 108 (.slice none 0 0) (.slice none 0 0)).run Tryz.prog W = .ok (.bool true) W:=fun W=>by kernel_rfl
  go_enter Tryz.func138,Tryz.ntmps138
  go_wp2
  go_ret
  exact ⟨none,0,0,rfl,rfl,World.ownsRow_nil _ _ _ _,Below.refl _ _⟩
 | some ad =>
  have H:=hid h
  clear h hA
  have hnil:∀ W,(binOp .eql 108 (.slice (some ad) n c) (.slice none 0 0)).run Tryz.prog W = .ok (.bool false) W:=fun W=>Lib.run_eql_slice_some_nil W _ _ _ Tryz.underlying108
  obtain ⟨i0,hi0,hz0,hz1,hz2⟩:=info_parts infoWrite
  have HO:Hid ((w.alloc (.cells #[] 114)).ownsRow w.heap.size 114 2 (.slice (some ⟨w.heap.size,0,none⟩) 0 0) 0 []):=World.ownsRow_made w #[] 0 (Nat.le_refl _) (by unfold maxLen;omega) (by simp)
  go_enter Tryz.func138,Tryz.ntmps138
  go_wp2_with (at_builtin;refine wpList_app _ (.tmp 5) (.tmp 6) 108 rfl rfl w.heap.size 114 i0 _ 2 16 Tryz.underlying108 hi0 hz0 hz1 hz2 rfl ?q1 (.slice (some ⟨w.heap.size,0,none⟩) 0 0) 0 [] rfl HO.out w.heap.size (some ad) n c (wrCells l) rfl ?q5 ?q6 ?q2 ?q3 ?q4 ?_;(case q1=>omega);(case q5=>exact H.out.alloc (Nat.le_refl _) _);(case q6=>exact wrCells_one l);(case q2=>(unfold maxLen;omega));(case q3=>omega);(case q4=>(simp));intro A3 n3 c3 w8 hn3 ho3 hg3 hb3;have HN3:=hid hn3;have HO3:=hid ho3;have HB3:=hid (((Below.refl _ w).alloc (Nat.le_refl _) _).trans hb3);clear hn3 ho3 hg3 hb3)
  go_ret
  refine ⟨_,_,_,rfl,HN3.out.trans (Nat.zero_add _),?_,HB3.out⟩
  have:=HO3.out
  rw [List.nil_append] at this
  exact this
theorem sum_filter (g:Nat→Nat) (ks:List Nat) (hn:ks.Nodup):∀ l:List Nat,(ks.map fun k=>(l.filter fun p=>g p == k).length).sum≤l.length
 | []=>by
  have:∀ ks:List Nat,(ks.map fun k=>(([]:List Nat).filter fun p=>g p == k).length).sum=0:=fun ks=>by
   induction ks with
   | nil=>rfl
   | cons a t ih =>
    simp at ih ⊢
    exact ih
  rw [this];exact Nat.zero_le _
 | p :: l=>by
  have h1:=sum_filter g ks hn l
  have h2:∀ ks:List Nat,(ks.map fun k=>((p :: l).filter fun p=>g p == k).length).sum=(ks.map fun k=>(l.filter fun p=>g p == k).length).sum+ks.count (g p):=fun ks=>by
   induction ks with
   | nil=>rfl
   | cons a t ih =>
    rw [List.map_cons,List.map_cons,List.sum_cons,List.sum_cons,ih,List.filter_cons,List.count_cons]
    by_cases e:g p=a
    ·subst e;simp;omega
    ·have e1:(g p == a)=false:=by rw [beq_eq_false_iff_ne];exact e
     have e2:(a == g p)=false:=by rw [beq_eq_false_iff_ne];exact fun h=>e h.symm
     rw [e1,e2];simp;omega
  rw [h2,List.length_cons]
  have h3:ks.count (g p)≤1:=List.nodup_iff_count.1 hn (g p)
  omega
theorem acts_len {s:Nat} {cs:Nat→CS} {keep free:List Nat} {V:Nat→Nat} {ks:List Nat} (hn:ks.Nodup) (hne:∀ k∈ks,tlOf s cs keep k≠[]∨dlOf s cs free k≠[]):(ks.flatMap (acW s cs (tlOf s cs keep) (dlOf s cs free) V)).length≤2 * (keep.length+free.length):=by
 have h1:=sum_filter (kOf s) ks hn keep
 have h2:=sum_filter (kOf s) ks hn free
 have h3:∀ ks:List Nat,(∀ k∈ks,tlOf s cs keep k≠[]∨dlOf s cs free k≠[])→(ks.flatMap (acW s cs (tlOf s cs keep) (dlOf s cs free) V)).length≤2 * ((ks.map fun k=>(keep.filter fun p=>kOf s p == k).length).sum+(ks.map fun k=>(free.filter fun p=>kOf s p == k).length).sum):=fun ks=>by
  induction ks with
  | nil=>intro _;simp
  | cons k t ih =>
   intro h
   have h4:=ih (fun j hj=>h j (by simp [hj]))
   rw [List.flatMap_cons,List.length_append,List.map_cons,List.map_cons,List.sum_cons,List.sum_cons]
   unfold acW at h4 ⊢
   rw [chgW_len]
   have e1:(tlOf s cs keep k).length=(keep.filter fun p=>kOf s p == k).length:=by unfold tlOf;rw [List.length_map]
   have e2:(dlOf s cs free k).length=(free.filter fun p=>kOf s p == k).length:=by unfold dlOf;rw [List.length_map]
   have h5:1≤(tlOf s cs keep k).length+(dlOf s cs free k).length:=by
    rcases h k (by simp) with h | h
    ·have:=List.length_pos_iff.2 h;omega
    ·have:=List.length_pos_iff.2 h;omega
   omega
 have:=h3 ks hne
 omega
def RetPub (a:DA) (L T s n K:Nat) (x:HA) (cs:Nat→CS) (f:Nat→Option Nat) (N m b0:Nat) (S:Fp) (cur:Nat→Nat) (w:World) (d r:Nat) (us:List (Nat × Nat)) (keep free:List Nat) (n1:Nat) (e:Ending) (w':World):Prop :=
 ∃ ks V cm S',e = .returned (.int .i64 0)∧AOk s K cs ks (tlOf s cs keep) (dlOf s cs free) V∧(∀ k,k∈ks↔k < K∧(tlOf s cs keep k≠[]∨dlOf s cs free k≠[]))∧cm < 18446744073709551616∧(us++ks.flatMap (acW s cs (tlOf s cs keep) (dlOf s cs free) V)).length≤96 ∧
  SD a L (T+800) s n K x (acC cs ks (tlOf s cs keep) (dlOf s cs free) V) (relF f keep) (N+n1) (m - n1) b0 S' (rdG 0 cur (us++ks.flatMap (acW s cs (tlOf s cs keep) (dlOf s cs free) V)) cm) w' d r∧Chg (sfp S x) w w'∧Grew S S' w
section
variable {a:DA} {L T s n K:Nat} {x:HA} {cs:Nat→CS} {f:Nat→Option Nat} {N m b0:Nat} {S:Fp} {cur:Nat→Nat} {w w':World} {d r:Nat}
theorem publishD (h:SD a L T s n K x cs f N m b0 S cur w d r) (hK12:K≤12) (A0 A1 A2:Option Addr) (n0 c0 n1 c1 n2 c2:Nat) (us:List (Nat × Nat)) (keep free:List Nat) (h0:Reads w w.heap.size 2 A0 n0 (wrCells us)) (h00:A0=none→n0=0∧c0=0) (h1:Reads w w.heap.size 1 A1 n1 (uCells keep)) (h2:Reads w w.heap.size 1 A2 n2 (uCells free))
  (hA1:∀ ad,A1=some ad→¬ sfp S x ad.block) (hk:∀ p∈keep,KeepOk s K cs f p) (hfr:∀ p∈free,FreeOk s K cs p) (hn:((keep++free).map pOff).Nodup) (hu:UOk L 0 s K cs us) (hlen:us.length+2 * (keep.length+free.length)≤96) (hT:T+800≤1000000000) (hN:N+n1≤1000000000) :
  Calls Tryz.prog 54 #[.pointer (some ⟨d,0,none⟩), .slice A0 n0 c0, .slice A1 n1 c1, .slice A2 n2 c2] w (RetPub a L T s n K x cs f N m b0 S cur w d r us keep free n1):=by
 have hl0:us.length=n0:=by have:=h0.1;rw [wrCells_len] at this;omega
 have hl1:keep.length=n1:=by have:=h1.1;simp [uCells] at this;omega
 have hl2:free.length=n2:=by have:=h2.1;simp [uCells] at this;omega
 have HPl:=hid (planR_any h.ds.dev r 0 26 h.log (by have h1:=h.ds.hK;have:=h.ln;omega) (by omega) A0 n0 c0 us h0 (diff_of_nodup hu.nd) hu.off hu.val (by omega) h.idle h.ds.tab)
 have HAc:Hid (∀ W,Below w.heap.size w W→Calls Tryz.prog 122 #[.pointer (some ⟨x.h,0,none⟩), .slice A1 n1 c1, .slice A2 n2 c2] W (RetActs W s K cs keep free)):=hid (fun W hW=>hActions_any (h.ds.below hW) hK12 A1 A2 n1 c1 n2 c2 keep free ((h1.below hW).more hW.size) ((h2.below hW).more hW.size) hk hfr hn (by omega) (by omega))
 have HEr:Hid (∀ W,Below w.heap.size w W→Calls Tryz.prog 112 #[.pointer (some ⟨a.th 0,0,none⟩)] W fun e w'=>e = .returned (.int .i64 0)∧W=w'):=hid (fun W hW=>thErr (h.ds.dev.below hW))
 have HS:=hid h
 have HR0:=hid h0
 have HR00:=hid h00
 have HR1:=hid h1
 have HAd:=hid hA1
 have HKp:=hid hk
 have HFp:=hid hfr
 have HNd:=hid hn
 have HU:=hid hu
 have HLn:=hid (And.intro hl0 (And.intro hl1 hl2))
 have hx7:w.cell? ⟨x.h,7,none⟩=some (.bool false):=h.ds.hs.heap.cell 7
 have c2':w.cell? ⟨d,2,none⟩=some (.pointer (some ⟨r,0,none⟩)):=h.dir.cell 2
 clear h h0 h00 h1 h2 hA1 hk hfr hn hu hl0 hl1 hl2
 go_enter Tryz.func54,Tryz.ntmps54
 go_wp2_with (go_at_call 136;refine HPl.out.mono ?_;rintro e W1 ⟨A3,m3,c3,p3,rfl,_,_,hb1⟩;refine stop ?_)
 unfold Stop
 have HB1:=hid hb1
 have HS1:=hid (HS.out.below hb1)
 have e7:W1.cell? ⟨x.h,7,none⟩=some (.bool false):=HS1.out.ds.hs.heap.cell 7
 have e0:W1.cell? ⟨d,0,none⟩=some (.pointer (some ⟨x.h,0,none⟩)):=HS1.out.dir.cell 0
 have e1:W1.cell? ⟨d,1,none⟩=some (.pointer (some ⟨a.th 0,0,none⟩)):=HS1.out.dir.cell 1
 clear hb1 HPl hx7 c2'
 go_wp2_with (first
  | (go_at_call 112;refine (HEr.out _ HB1.out).mono ?_;rintro e w1 ⟨rfl,rfl⟩)
  | (go_at_call 122;refine (HAc.out _ HB1.out).mono ?_;rintro e W2 ⟨A4,m4,c4,ks,V,rfl,hnk,hks,hbi,hro,hb2⟩;refine stop ?_))
 unfold Stop
 have HB2:=hid (HB1.out.trans (hb2.mono HB1.out.size))
 have HS2:=hid (HS.out.below HB2.out)
 have HRo:=hid (Reads.of_own hro)
 have HAO:Hid (AOk s K cs ks (tlOf s cs keep) (dlOf s cs free) V):=hid (by
  have ha:∀ k∈ks,_:=fun k hk=>acts_hyp HKp.out HFp.out HNd.out ((hks k).1 hk).2
  exact ⟨hnk,fun k hk=>⟨((hks k).1 hk).1,(ha k hk).1⟩,fun k hk=>(ha k hk).2.1,fun k hk=>(ha k hk).2.2.1,fun k hk=>(ha k hk).2.2.2,hbi⟩)
 have HKs:=hid hks
 have HL9:Hid ((us++ks.flatMap (acW s cs (tlOf s cs keep) (dlOf s cs free) V)).length≤96):=hid (by
  rw [List.length_append]
  have:=acts_len (V:=V) hnk (fun k hk=>((hks k).1 hk).2)
  omega)
 have hm4:m4≤96:=by
  have h1:=hro.1
  rw [wrCells_len] at h1
  have h2:=HL9.out
  rw [List.length_append] at h2
  have h3:(ks.flatMap fun k=>chgW (s+32 * k) (cs k).cl (cs k).bs (tlOf s cs keep k) (dlOf s cs free k) (V k)).length=(ks.flatMap (acW s cs (tlOf s cs keep) (dlOf s cs free) V)).length:=rfl
  omega
 have HRo':Hid (Reads W2 W2.heap.size 2 A4 m4 (wrCells (ks.flatMap (acW s cs (tlOf s cs keep) (dlOf s cs free) V)))):=HRo
 have HCl:=hid (cloneW_any A0 n0 c0 us W2.drew ((HR0.out.below HB2.out).more HB2.out.size) HR00.out (by have:=HLn.out.1;omega))
 have e0:W2.cell? ⟨d,0,none⟩=some (.pointer (some ⟨x.h,0,none⟩)):=HS2.out.dir.cell 0
 clear hb2 hnk hks hbi hro HAc HRo e0 e1 e7
 go_upto_region 14 with fail
 refine wp_region_scriptH (fun w'=>Below W2.heap.size W2 w') 8 [] [(1,0),(1,1),(1,2),(1,3),(1,4),(1,6),(0,5),(0,7)] (by kernel_rfl) (by kernel_rfl) (Below.refl _ _).drew ?_
 refine wpScriptH_take (.pointer (some ⟨d,0,none⟩)) (by rfl) (by rfl) (fun w' hS=>?_) ?_
 ·go_simp
 simp only [zA,zB,Act.put,zD,zE,zF]
 refine wpScriptH_take (.pointer (some ⟨d,0,none⟩)) (by rfl) (by rfl) (fun w' hS=>?_) ?_
 ·go_simp
 simp only [zA,zB,zC,Act.put,zD,zE,zF]
 refine wpScriptH_take (.pointer (some ⟨d,2,none⟩)) (by rfl) (by rfl) (fun w' hS=>?_) ?_
 ·go_simp
 simp only [zA,zB,zC,Act.put,zD,zE,zF]
 refine wpScriptH_take (.pointer (some ⟨r,0,none⟩)) (by rfl) (by rfl) (fun w' hS=>?_) ?_
 ·have f1:w'.cell? ⟨d,2,none⟩=some (.pointer (some ⟨r,0,none⟩)):=(HS2.out.dir.below hS HS2.out.dir.lt).cell 2
  go_simp
 simp only [zA,zB,zC,Act.put,zD,zE,zF]
 refine wpScriptH_take (.slice A0 n0 c0) (by rfl) (by rfl) (fun w' hS=>?_) ?_
 ·go_simp
 simp only [zA,zB,zC,Act.put,zD,zE,zF]
 refine wpScriptH_take (.slice A4 m4 c4) (by rfl) (by rfl) (fun w' hS=>?_) ?_
 ·go_simp
 simp only [zA,zB,zC,Act.put,zD,zE,zF]
 refine wpScriptH_do (by rfl) ?_
 go_wp2_with (go_at_call 138;refine HCl.out.mono ?_;rintro e W3 ⟨A5,m5,c5,rfl,hm5,ho5,hb5⟩;have HM5:=hid hm5;have HO5:=hid ho5;clear hm5 ho5)
 have HB5:Hid (Below W2.heap.size W2 W3):=hid ((Below.refl _ W2).drew.trans hb5)
 clear hb5 HCl
 refine ⟨HB5.out,?_⟩
 refine wpScriptH_do (by rfl) ?_
 obtain ⟨i0,hi0,hz0,hz1,hz2⟩:=info_parts infoWrite
 have HR5:=hid ((HRo'.out.below HB5.out).more HB5.out.size)
 have hn0:n0≤96:=by have:=HLn.out.1;omega
 have hm5:m5≤96:=by have:=HM5.out;omega
 have HON:=hid (wrCells_one (ks.flatMap (acW s cs (tlOf s cs keep) (dlOf s cs free) V)))
 refine wpList_app2 _ (.tmp 62) (.tmp 63) 108 rfl rfl W2.heap.size 114 i0 _ 2 16 Tryz.underlying108 hi0 hz0 hz1 hz2 rfl (by omega) (.slice A5 m5 c5) m5 (wrCells us) rfl HO5.out W3.heap.size A4 m4 c4 (wrCells (ks.flatMap (acW s cs (tlOf s cs keep) (dlOf s cs free) V))) rfl HR5.out HON.out (by unfold maxLen;omega) (by omega) HB5.out.size ?_
 intro A6 n6 c6 W4 hn6 ho6 hg6 hb6
 have HB6:Hid (Below W2.heap.size W2 W4):=hid (HB5.out.grown hg6 HB5.out.size (fun i hi=>(HO5.out.lt i hi).1))
 have HS4:=hid (HS.out.below (HB2.out.trans (HB6.out.mono HB2.out.size)))
 have HCm:=hid (commitG_any HS4.out.ds.dev r HS4.out.log A6 n6 c6 (us++ks.flatMap (acW s cs (tlOf s cs keep) (dlOf s cs free) V)) (by
  have h1:=Reads.of_own ho6
  have e:wrCells us++wrCells (ks.flatMap (acW s cs (tlOf s cs keep) (dlOf s cs free) V))=wrCells (us++ks.flatMap (acW s cs (tlOf s cs keep) (dlOf s cs free) V)):=by unfold wrCells;rw [List.flatMap_append]
  rw [e] at h1
  exact h1) (diff_of_nodup (pub_nodup HU.out HAO.out)) (pub_off HS.out.ds HS.out.ln HU.out HAO.out) (pub_val HS.out.ds HU.out HAO.out) (by
   have h1:=ho6.1
   rw [List.length_append,wrCells_len,wrCells_len] at h1
   have h2:=HL9.out
   rw [List.length_append] at h2
   omega) HS4.out.idle HS4.out.ds.tab (by have h1:=HS.out.ds.hK;have:=HS.out.ln;omega) hT)
 clear hn6 ho6 hg6 hb6
 refine ⟨HB6.out,?_⟩
 show wpList _ _ _ _ _ _
 simp only [List.drop_succ_cons,List.drop_zero]
 go_wp2_with (go_at_call 137;refine HCm.out.mono ?_;rintro e W5 ⟨cm,hcm,rfl,S',hdv,hch,hgr⟩)
 refine NoPanic.normal ?_
 have HSz:=hid (Nat.le_trans HB2.out.size HB6.out.size)
 have HCh:Hid (Chg S w W5):=hid (((Chg.of_below (S:=S) HB2.out).below (HB6.out)).trans hch (Grew.refl _ _))
 have HGr:Hid (Grew S S' w):=hid (fun k hk=>by
  rcases hgr k hk with h | h
  ·exact .inl h
  ·exact .inr (by have:=HSz.out;omega))
 have HDS:=hid (HS.out.ds.pub HS.out.ln HU.out HAO.out HL9.out hcm hdv HCh.out HGr.out)
 have HCmt:=hid hcm
 have HSd:Hid (SD a L (T+800) s n K x (acC cs ks (tlOf s cs keep) (dlOf s cs free) V) f N m b0 S' (rdG 0 cur (us++ks.flatMap (acW s cs (tlOf s cs keep) (dlOf s cs free) V)) cm) W5 d r):=hid (HS.out.keep HDS.out (HCh.out.mono (fun _ h => .inl h)) HGr.out (rdG_idle HS.out.idle))
 have HSe:=hid (settle_any HDS.out A1 n1 c1 keep (HCh.out.reads HR1.out (Nat.le_refl _) (fun ad h1 h2=>HAd.out ad h1 (.inl h2)) |>.more HCh.out.size) (fun ad h1 h2=>HAd.out ad h1 (.inr h2)) (fun p hp=>(HKp.out p hp).res) (by
  have:=HNd.out
  rw [List.map_append] at this
  exact (List.nodup_append.1 this).1) (by omega) (by have:=HLn.out.2.1;omega) (.slice A2 n2 c2))
 have g0:W5.cell? ⟨d,0,none⟩=some (.pointer (some ⟨x.h,0,none⟩)):=HSd.out.dir.cell 0
 clear hcm hdv hch hgr HCm
 go_wp2_with (go_at_call 125;refine HSe.out.mono ?_;rintro e W6 ⟨rfl,hd6,hc6⟩;have HD6:=hid hd6;have HC6:=hid hc6;clear hd6 hc6)
 go_ret
 exact ⟨ks,V,cm,S',rfl,HAO.out,HKs.out,HCmt.out,HL9.out,HSd.out.keep HD6.out (HC6.out.mono (fun _ h => .inr h)) (Grew.refl _ _) HSd.out.idle,(HCh.out.mono (fun _ h => .inl h)).trans HC6.out (fun _ h => .inl (.inr h)),HGr.out⟩
end
end
section
open Go.RowKit Go.Maps
theorem newDirect_any (h t r:Nat) (w:World) :
  Calls Tryz.prog 200 #[.pointer (some ⟨h,0,none⟩), .pointer (some ⟨t,0,none⟩), .pointer (some ⟨r,0,none⟩)] w fun e w'=>e = .returned (.pointer (some ⟨w.heap.size,0,none⟩))∧w'=w.alloc (.cells #[.pointer (some ⟨h,0,none⟩), .pointer (some ⟨t,0,none⟩), .pointer (some ⟨r,0,none⟩)] 240):=by
 go_enter Tryz.func200,Tryz.ntmps200
 go_wp2
 go_ret
 exact ⟨rfl,rfl⟩
structure WA where
 g:Nat
 d:Nat
 r:Nat
 u:Nat
 m:Nat
def bwCells (a:DA) (x:HA) (y:WA) (c:Nat):Array Value:=#[.pointer (some ⟨a.d,0,none⟩), .pointer (some ⟨a.th 0,0,none⟩), .pointer (some ⟨x.h,0,none⟩), .pointer (some ⟨y.d,0,none⟩), .pointer (some ⟨y.m,0,none⟩), .int .i64 (c:Int)]
structure BW (a:DA) (L T K:Nat) (x:HA) (y:WA) (cs:Nat→CS) (f:Nat→Option Nat) (N m b0:Nat) (S:Fp) (cur:Nat→Nat) (w:World):Prop where
 sd:SD a L T 53 (32 * K) K x cs f N m b0 S cur w y.d y.r
 blk:Blk w y.g 61 (bwCells a x y K)
 und:Blk w y.u 330 (ulogCells a 26 26)
 mgr:Blk w y.m 200 (mgrCells (some ⟨a.th 0,0,none⟩) (some ⟨y.r,0,none⟩) (some ⟨y.u,0,none⟩) (some ⟨x.h,0,none⟩) none)
 uid:cur (8 * 26)=0
 off:¬ S y.g∧¬ S y.u∧¬ S y.m
 new:b0≤y.g∧b0≤y.d∧b0≤y.r∧b0≤y.u∧b0≤y.m
 size:L=53+32 * K
 few:K≤12
 rest:a.dirty=fun _=>False
structure Empt (K:Nat) (cur:Nat→Nat):Prop where
 r:cur (8 * 0)=0
 u:cur (8 * 26)=0
 c:∀ k,k < K→cur (8 * (53+32 * k))=freeW 1
 b:∀ i,cur i < 18446744073709551616
def RetBop (a:DA) (L T K b0:Nat) (S:Fp) (cur:Nat→Nat) (w:World) (e:Ending) (w':World):Prop:=∃ x y,e = .returned (.pointer (some ⟨y.g,0,none⟩))∧BW a L T K x y (fun _=>csN) (fun _=>none) 0 0 b0 S cur w'∧Below w.heap.size w w'
theorem bopen_any {a:DA} {L T K b0:Nat} {w:World} {S:Fp} {cur:Nat→Nat} (h:Dev a L T w S cur 0) (hdi:a.dirty=fun _=>False) (hL:L=53+32 * K) (hK:1≤K) (hK12:K≤12) (ht:Tab w) (hpy:Pay w) (hp:Empt K cur) (hb0:1 < b0∧0 < b0∧b0≤w.heap.size∧∀ k,S k→b0≤k) :
  Calls Tryz.prog 102 #[.pointer (some ⟨a.d,0,none⟩), .int .i64 (K:Int)] w (RetBop a L T K b0 S cur w):=by
 have HD:=hid h
 have HT:=hid ht
 have HP:=hid hp
 have HPy:=hid hpy
 have HB0:=hid hb0
 have HLK:=hid (show L=53+32 * K∧1≤K∧K≤12 from ⟨hL,hK,hK12⟩)
 have HTh:=hid (thread_any h)
 have HDI:=hid hdi
 have HRo:=hid (redoOpen_any h 0 26 (by omega) (by omega))
 have hb1:Below w.heap.size w (w.alloc (.cells (logCells a 0 26) 353)):=(Below.refl _ _).alloc (Nat.le_refl _) _
 have HB1:=hid hb1
 have HBr:=hid (Blk.new w 353 (logCells a 0 26))
 have HRr:=hid (redoRecover_idle (h.below hb1) w.heap.size 0 26 HBr.out (by omega) hp.r)
 have hz32:((32 * K:Nat):Int)=32 * (K:Int):=by omega
 have hLs:26+26≤L:=by omega
 have hLh:53+32 * K≤L:=by omega
 have hKn:32≤32 * K:=by omega
 have hKd:32 * K / 32=K:=by omega
 have HAr:=hid (show 26+26≤L∧53+32 * K≤L∧32≤32 * K∧32 * K / 32=K from ⟨hLs,hLh,hKn,hKd⟩)
 clear h ht hp hb1 hpy hb0 hL hK hLs hLh hKn hKd hdi
 unfold memV at *
 go_enter Tryz.func102,Tryz.ntmps102
 go_wp2_with (first
  | (go_at_call 71;refine HTh.out.mono ?_;rintro e w1 ⟨rfl,rfl⟩)
  | (go_at_call 177;refine HRo.out.mono ?_;rintro e w1 ⟨rfl,rfl⟩)
  | fail)
 generalize (w.alloc (.cells (logCells a 0 26) 353))=W at *
 clear HRo HTh
 refine HRr.out.mono ?_
 rintro e W1 ⟨rfl,hb1⟩
 have HB2:=hid (HB1.out.trans (hb1.mono HB1.out.size))
 have HBr2:=hid (HBr.out.below hb1 HBr.out.lt)
 have HUo:=hid (undoOpen_any (HD.out.below HB2.out) 26 26 (by omega) HAr.out.1)
 clear HRr hb1 HBr HB1
 unfold memV at HUo
 go_wp2_with fail
 refine HUo.out.mono ?_
 rintro e W2 ⟨rfl,rfl⟩
 have HB3:=hid (HB2.out.alloc HB2.out.size (.cells (ulogCells a 26 26) 330))
 have HBr3:=hid (HBr2.out.alloc (.cells (ulogCells a 26 26) 330))
 have HBu3:=hid (Blk.new W1 330 (ulogCells a 26 26))
 have HUr:=hid (undoRecover_none (HD.out.below HB3.out) W1.heap.size 26 26 HBu3.out (by have:=HAr.out.1;omega) (by omega) (by omega) HP.out.u)
 have HL3:=hid (Nat.le_trans HB2.out.size (Nat.le_refl W1.heap.size))
 obtain ⟨u,hu⟩:∃ u,W1.heap.size=u:=⟨_,rfl⟩
 rw [hu] at HBu3 HUr HL3 ⊢
 generalize W1.alloc (.cells (ulogCells a 26 26) 330)=W3 at *
 clear HUo HB2 HBr2 hu
 go_wp2_with fail
 refine HUr.out.mono ?_
 rintro e W4 ⟨rfl,hb1⟩
 have HB4:=hid (HB3.out.trans (hb1.mono HB3.out.size))
 have HBr4:=hid (HBr3.out.below hb1 HBr3.out.lt)
 have HBu4:=hid (HBu3.out.below hb1 HBu3.out.lt)
 have HHo:=hid (heapOpenS_any (HD.out.below HB4.out) (HT.out.below HB4.out) 53 (32 * K) K HAr.out.2.2.1 HAr.out.2.1 HAr.out.2.2.2 HP.out.c)
 rw [hz32] at HHo
 clear HUr hb1 HBr3 HBu3 HB3
 unfold memV at HHo
 have hK12':K≤12:=hK12
 go_wp2_with fail
 refine HHo.out.mono ?_
 rintro e W5 ⟨x,rfl,hhs,hlow,hb1⟩
 have HB5:=hid (HB4.out.trans (hb1.mono HB4.out.size))
 have HBr5:=hid (HBr4.out.below hb1 HBr4.out.lt)
 have HBu5:=hid (HBu4.out.below hb1 HBu4.out.lt)
 have HHs5:=hid hhs
 have HLow:=hid (show w.heap.size≤x.h∧w.heap.size≤x.gs∧w.heap.size≤x.pl∧w.heap.size≤x.mr∧w.heap.size≤x.mh by obtain ⟨l1,l2,l3,l4,l5⟩:=hlow;have:=HB4.out.size;exact ⟨by omega,by omega,by omega,by omega,by omega⟩)
 clear HHo hb1 HBr4 HBu4 HB4 hhs hlow
 obtain ⟨W6,hW6⟩:∃ W6,W5.alloc (.cells (dirCells a x.h w.heap.size) 240)=W6:=⟨_,rfl⟩
 obtain ⟨W7,hW7⟩:∃ W7,W6.alloc (.cells (mgrCells (some ⟨a.th 0,0,none⟩) (some ⟨w.heap.size,0,none⟩) (some ⟨u,0,none⟩) (some ⟨x.h,0,none⟩) none) 200)=W7:=⟨_,rfl⟩
 have HND:Hid (Calls Tryz.prog 200 #[.pointer (some ⟨x.h,0,none⟩), .pointer (some ⟨a.th 0,0,none⟩), .pointer (some ⟨w.heap.size,0,none⟩)] W5 fun e w'=>e = .returned (.pointer (some ⟨W5.heap.size,0,none⟩))∧W6=w'):=hid ((newDirect_any x.h (a.th 0) w.heap.size W5).mono (fun e w' h=>⟨h.1,by rw [← hW6];exact h.2.symm⟩))
 have HTN:Hid (Calls Tryz.prog 182 #[.pointer (some ⟨a.th 0,0,none⟩), .pointer (some ⟨w.heap.size,0,none⟩), .pointer (some ⟨u,0,none⟩), .pointer (some ⟨x.h,0,none⟩)] W6 fun e w'=>e = .returned (.pointer (some ⟨W6.heap.size,0,none⟩))∧W7=w'):=hid ((txNew_any (some ⟨a.th 0,0,none⟩) (some ⟨w.heap.size,0,none⟩) (some ⟨u,0,none⟩) (some ⟨x.h,0,none⟩) W6).mono (fun e w' h=>⟨h.1,by rw [← hW7];exact h.2.symm⟩))
 have hb6:Below W5.heap.size W5 W6:=by rw [← hW6];exact (Below.refl _ _).alloc (Nat.le_refl _) _
 have hb7:Below W6.heap.size W6 W7:=by rw [← hW7];exact (Below.refl _ _).alloc (Nat.le_refl _) _
 have hs6:W6.heap.size=W5.heap.size+1:=by rw [← hW6];simp
 have hd6:Blk W6 W5.heap.size 240 (dirCells a x.h w.heap.size):=by rw [← hW6];exact Blk.new _ _ _
 have hm7:Blk W7 W6.heap.size 200 (mgrCells (some ⟨a.th 0,0,none⟩) (some ⟨w.heap.size,0,none⟩) (some ⟨u,0,none⟩) (some ⟨x.h,0,none⟩) none):=by rw [← hW7];exact Blk.new _ _ _
 have HB57:Hid (Below W5.heap.size W5 W7):=hid (hb6.trans (hb7.mono (by omega)))
 have HB7:=hid (HB5.out.trans (HB57.out.mono HB5.out.size))
 have HD7:=hid (hd6.below hb7 hd6.lt)
 have HM7:=hid hm7
 have HSz:=hid (show W6.heap.size=W5.heap.size+1∧w.heap.size≤W5.heap.size from ⟨hs6,HB5.out.size⟩)
 clear hW6 hW7 hb6 hb7 hs6 hd6 hm7
 go_upto_region 20 with (first
  | (go_at_call 200;refine HND.out.mono ?_;rintro e Wz ⟨rfl,rfl⟩)
  | (go_at_call 182;refine HTN.out.mono ?_;rintro e Wz ⟨rfl,rfl⟩))
 have HBg:=hid (Blk.new W7 61 (bwCells a x ⟨W7.heap.size,W5.heap.size,w.heap.size,u,W6.heap.size⟩ K))
 have HBb:Hid (Below W7.heap.size W7 (W7.alloc (.cells (bwCells a x ⟨W7.heap.size,W5.heap.size,w.heap.size,u,W6.heap.size⟩ K) 61))):=hid ((Below.refl _ _).alloc (Nat.le_refl _) _)
 unfold bwCells at HBb HBg
 generalize hW8:W7.alloc (.cells #[.pointer (some ⟨a.d,0,none⟩), .pointer (some ⟨a.th 0,0,none⟩), .pointer (some ⟨x.h,0,none⟩), .pointer (some ⟨W5.heap.size,0,none⟩), .pointer (some ⟨W6.heap.size,0,none⟩), .int .i64 (K:Int)] 61)=W8 at *
 have f3:W8.cell? ⟨W7.heap.size,3,none⟩=some (.pointer (some ⟨W5.heap.size,0,none⟩)):=HBg.out.cell 3
 have f4:W8.cell? ⟨W7.heap.size,4,none⟩=some (.pointer (some ⟨W6.heap.size,0,none⟩)):=HBg.out.cell 4
 have HF:Hid (RetBop a L T K b0 S cur w (.returned (.pointer (some ⟨W7.heap.size,0,none⟩))) W8):=hid (by
  have h58:Below W5.heap.size W5 W8:=HB57.out.trans (HBb.out.mono HB57.out.size)
  have h8:Below w.heap.size w W8:=HB5.out.trans (h58.mono HB5.out.size)
  obtain ⟨l1,l2,l3,l4,l5⟩:=HLow.out
  obtain ⟨b1,b2,b3,b4⟩:=HB0.out
  obtain ⟨k1,k2,k3⟩:=HLK.out
  obtain ⟨s1,s2⟩:=HSz.out
  have s7:W6.heap.size≤W7.heap.size:=by have:=HM7.out.lt;omega
  have hS:∀ g,w.heap.size≤g→¬ S g:=fun g hg hs=>by have:=HD.out.lt _ hs;omega
  have hu:=HL3.out
  refine ⟨x,⟨W7.heap.size,W5.heap.size,w.heap.size,u,W6.heap.size⟩,rfl,⟨⟨⟨HD.out.below h8,HHs5.out.below h58,fun k hk=>?_,HP.out.b,fun o p h=>(by cases h),HT.out.below h8,HPy.out.below h8,⟨b1,b2,by omega,by omega,by omega,by omega,by omega,b4⟩,⟨hS _ l1,hS _ l2,hS _ l3,hS _ l4,hS _ l5⟩,⟨HAr.out.2.2.2,k2,HAr.out.2.1,by omega⟩⟩,HD7.out.below HBb.out HD7.out.lt,HBr5.out.below h58 HBr5.out.lt,HP.out.r,hS _ s2,hS _ (Nat.le_refl _),by omega⟩,HBg.out,HBu5.out.below h58 HBu5.out.lt,HM7.out.below HBb.out HM7.out.lt,HP.out.u,⟨hS _ (by show w.heap.size≤W7.heap.size;omega),hS _ hu,hS _ (by show w.heap.size≤W6.heap.size;omega)⟩,⟨by show b0≤W7.heap.size;omega,by show b0≤W5.heap.size;omega,b3,by show b0≤u;omega,by show b0≤W6.heap.size;omega⟩,k1,k3,HDI.out⟩,h8⟩
  unfold CSok csN
  exact ⟨HP.out.c k hk,(by show 0 < 1;omega),(by show 1 < 65536;omega)⟩)
 clear HB5 HBr5 HBu5 HHs5 HLow HB57 HB7 HD7 HM7 HSz HBb hW8
 go_wp2_with fail
 go_ret
 exact HF.out
end
end Go.Proofs.YtfkjjoglnmeciaaGreatDoor
