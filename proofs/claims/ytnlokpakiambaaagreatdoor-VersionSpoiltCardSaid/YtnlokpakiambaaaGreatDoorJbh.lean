/- The walks and laws that the claim leans on, part 34. -/
import Derived.Test.YtnlokpakiambaaaGreatDoorJbf
import Derived.Test.YtnlokpakiambaaaGreatDoorJbg
set_option maxRecDepth 100000
set_option maxHeartbeats 16000000
namespace Go.Proofs.YtnlokpakiambaaaGreatDoor
open Go.Lib (hid)
section
open Go.RowKit Go.Maps
theorem cloneW_any (A:Option Addr) (n c:Nat) (l:List (Nat × Nat)) (w:World) (h:Reads w w.heap.size 2 A n (wrCells l)) (hA:A=none→n=0∧c=0) (hn:n≤1000) :
  Calls Tryz.prog 87 #[.slice A n c] w (fun e w'=>∃ A' m' c',e = .returned (.slice A' m' c')∧m'=n∧w'.ownsRow w.heap.size 90 2 (.slice A' m' c') m' (wrCells l)∧Below w.heap.size w w'):=by
 cases A with
 | none =>
  obtain ⟨rfl,rfl⟩:=hA rfl
  have hl:wrCells l=[]:=by have:=h.1;exact List.eq_nil_of_length_eq_zero (by omega)
  rw [hl]
  clear h
  have hnil:∀ W,(binOp .eql 68 (.slice none 0 0) (.slice none 0 0)).run Tryz.prog W = .ok (.bool true) W:=fun W=>by kernel_rfl
  go_enter Tryz.func87,Tryz.ntmps87
  go_wp2
  go_ret
  exact ⟨none,0,0,rfl,rfl,World.ownsRow_nil _ _ _ _,Below.refl _ _⟩
 | some ad =>
  have H:=hid h
  clear h hA
  have hnil:∀ W,(binOp .eql 68 (.slice (some ad) n c) (.slice none 0 0)).run Tryz.prog W = .ok (.bool false) W:=fun W=>Lib.run_eql_slice_some_nil W _ _ _ Tryz.underlying68
  obtain ⟨i0,hi0,hz0,hz1,hz2⟩:=info_parts infoWrite
  have HO:Hid ((w.alloc (.cells #[] 90)).ownsRow w.heap.size 90 2 (.slice (some ⟨w.heap.size,0,none⟩) 0 0) 0 []):=World.ownsRow_made w #[] 0 (Nat.le_refl _) (by unfold maxLen;omega) (by simp)
  go_enter Tryz.func87,Tryz.ntmps87
  go_wp2_with (at_builtin;refine wpList_app _ (.tmp 5) (.tmp 6) 68 rfl rfl w.heap.size 90 i0 _ 2 16 Tryz.underlying68 hi0 hz0 hz1 hz2 rfl ?q1 (.slice (some ⟨w.heap.size,0,none⟩) 0 0) 0 [] rfl HO.out w.heap.size (some ad) n c (wrCells l) rfl ?q5 ?q6 ?q2 ?q3 ?q4 ?_;(case q1=>omega);(case q5=>exact H.out.alloc (Nat.le_refl _) _);(case q6=>exact wrCells_one l);(case q2=>(unfold maxLen;omega));(case q3=>omega);(case q4=>(simp));intro A3 n3 c3 w8 hn3 ho3 hg3 hb3;have HN3:=hid hn3;have HO3:=hid ho3;have HB3:=hid (((Below.refl _ w).alloc (Nat.le_refl _) _).trans hb3);clear hn3 ho3 hg3 hb3)
  go_ret
  refine ⟨_,_,_,rfl,HN3.out.trans (Nat.zero_add _),?_,HB3.out⟩
  have:=HO3.out
  rw [List.nil_append] at this
  exact this
theorem sum_filter (g:Nat→Nat) (ks:List Nat) (hn:ks.Nodup):∀ l:List Nat,(ks.map fun k=>(l.filter fun p=>g p == k).length).sum≤l.length
 | []=>by
  have:∀ ks:List Nat,(ks.map fun k=>(([]:List Nat).filter fun p=>g p == k).length).sum=0:=fun ks=>by
   induction ks with
   | nil=>rfl
   | cons a t ih =>
    simp at ih ⊢
    exact ih
  rw [this];exact Nat.zero_le _
 | p :: l=>by
  have h1:=sum_filter g ks hn l
  have h2:∀ ks:List Nat,(ks.map fun k=>((p :: l).filter fun p=>g p == k).length).sum=(ks.map fun k=>(l.filter fun p=>g p == k).length).sum+ks.count (g p):=fun ks=>by
   induction ks with
   | nil=>rfl
   | cons a t ih =>
    rw [List.map_cons,List.map_cons,List.sum_cons,List.sum_cons,ih,List.filter_cons,List.count_cons]
    by_cases e:g p=a
    ·subst e;simp;omega
    ·have e1:(g p == a)=false:=by rw [beq_eq_false_iff_ne];exact e
     have e2:(a == g p)=false:=by rw [beq_eq_false_iff_ne];exact fun h=>e h.symm
     rw [e1,e2];simp;omega
  rw [h2,List.length_cons]
  have h3:ks.count (g p)≤1:=List.nodup_iff_count.1 hn (g p)
  omega
theorem acts_len {s:Nat} {cs:Nat→CS} {keep free:List Nat} {V:Nat→Nat} {ks:List Nat} (hn:ks.Nodup) (hne:∀ k∈ks,tlOf s cs keep k≠[]∨dlOf s cs free k≠[]):(ks.flatMap (acW s cs (tlOf s cs keep) (dlOf s cs free) V)).length≤2 * (keep.length+free.length):=by
 have h1:=sum_filter (kOf s) ks hn keep
 have h2:=sum_filter (kOf s) ks hn free
 have h3:∀ ks:List Nat,(∀ k∈ks,tlOf s cs keep k≠[]∨dlOf s cs free k≠[])→(ks.flatMap (acW s cs (tlOf s cs keep) (dlOf s cs free) V)).length≤2 * ((ks.map fun k=>(keep.filter fun p=>kOf s p == k).length).sum+(ks.map fun k=>(free.filter fun p=>kOf s p == k).length).sum):=fun ks=>by
  induction ks with
  | nil=>intro _;simp
  | cons k t ih =>
   intro h
   have h4:=ih (fun j hj=>h j (by simp [hj]))
   rw [List.flatMap_cons,List.length_append,List.map_cons,List.map_cons,List.sum_cons,List.sum_cons]
   unfold acW at h4 ⊢
   rw [chgW_len]
   have e1:(tlOf s cs keep k).length=(keep.filter fun p=>kOf s p == k).length:=by unfold tlOf;rw [List.length_map]
   have e2:(dlOf s cs free k).length=(free.filter fun p=>kOf s p == k).length:=by unfold dlOf;rw [List.length_map]
   have h5:1≤(tlOf s cs keep k).length+(dlOf s cs free k).length:=by
    rcases h k (by simp) with h | h
    ·have:=List.length_pos_iff.2 h;omega
    ·have:=List.length_pos_iff.2 h;omega
   omega
 have:=h3 ks hne
 omega
def RetPub (a:DA) (L T s n K:Nat) (x:HA) (cs:Nat→CS) (f:Nat→Option Nat) (N m b0:Nat) (S:Fp) (cur:Nat→Nat) (w:World) (d r:Nat) (us:List (Nat × Nat)) (keep free:List Nat) (n1:Nat) (e:Ending) (w':World):Prop :=
 ∃ ks V cm S',e = .returned (.int .i64 0)∧AOk s K cs ks (tlOf s cs keep) (dlOf s cs free) V∧(∀ k,k∈ks↔k < K∧(tlOf s cs keep k≠[]∨dlOf s cs free k≠[]))∧cm < 18446744073709551616∧(us++ks.flatMap (acW s cs (tlOf s cs keep) (dlOf s cs free) V)).length≤96 ∧
  SD a L (T+800) s n K x (acC cs ks (tlOf s cs keep) (dlOf s cs free) V) (relF f keep) (N+n1) (m - n1) b0 S' (rdG 0 cur (us++ks.flatMap (acW s cs (tlOf s cs keep) (dlOf s cs free) V)) cm) w' d r∧Chg (sfp S x) w w'∧Grew S S' w
section
variable {a:DA} {L T s n K:Nat} {x:HA} {cs:Nat→CS} {f:Nat→Option Nat} {N m b0:Nat} {S:Fp} {cur:Nat→Nat} {w w':World} {d r:Nat}
theorem publishD (h:SD a L T s n K x cs f N m b0 S cur w d r) (hK12:K≤12) (A0 A1 A2:Option Addr) (n0 c0 n1 c1 n2 c2:Nat) (us:List (Nat × Nat)) (keep free:List Nat) (h0:Reads w w.heap.size 2 A0 n0 (wrCells us)) (h00:A0=none→n0=0∧c0=0) (h1:Reads w w.heap.size 1 A1 n1 (uCells keep)) (h2:Reads w w.heap.size 1 A2 n2 (uCells free))
  (hA1:∀ ad,A1=some ad→¬ sfp S x ad.block) (hk:∀ p∈keep,KeepOk s K cs f p) (hfr:∀ p∈free,FreeOk s K cs p) (hn:((keep++free).map pOff).Nodup) (hu:UOk L 0 s K cs us) (hlen:us.length+2 * (keep.length+free.length)≤96) (hT:T+800≤1000000000) (hN:N+n1≤1000000000) :
  Calls Tryz.prog 39 #[.pointer (some ⟨d,0,none⟩), .slice A0 n0 c0, .slice A1 n1 c1, .slice A2 n2 c2] w (RetPub a L T s n K x cs f N m b0 S cur w d r us keep free n1):=by
 have hl0:us.length=n0:=by have:=h0.1;rw [wrCells_len] at this;omega
 have hl1:keep.length=n1:=by have:=h1.1;simp [uCells] at this;omega
 have hl2:free.length=n2:=by have:=h2.1;simp [uCells] at this;omega
 have HPl:=hid (planR_any h.ds.dev r 0 26 h.log (by have h1:=h.ds.hK;have:=h.ln;omega) (by omega) A0 n0 c0 us h0 (diff_of_nodup hu.nd) hu.off hu.val (by omega) h.idle h.ds.tab)
 have HAc:Hid (∀ W,Below w.heap.size w W→Calls Tryz.prog 85 #[.pointer (some ⟨x.h,0,none⟩), .slice A1 n1 c1, .slice A2 n2 c2] W (RetActs W s K cs keep free)):=hid (fun W hW=>hActions_any (h.ds.below hW) hK12 A1 A2 n1 c1 n2 c2 keep free ((h1.below hW).more hW.size) ((h2.below hW).more hW.size) hk hfr hn (by omega) (by omega))
 have HEr:Hid (∀ W,Below w.heap.size w W→Calls Tryz.prog 27 #[.pointer (some ⟨a.th 0,0,none⟩)] W fun e w'=>e = .returned (.int .i64 0)∧W=w'):=hid (fun W hW=>thErr (h.ds.dev.below hW))
 have HS:=hid h
 have HR0:=hid h0
 have HR00:=hid h00
 have HR1:=hid h1
 have HAd:=hid hA1
 have HKp:=hid hk
 have HFp:=hid hfr
 have HNd:=hid hn
 have HU:=hid hu
 have HLn:=hid (And.intro hl0 (And.intro hl1 hl2))
 have hx7:w.cell? ⟨x.h,7,none⟩=some (.bool false):=h.ds.hs.heap.cell 7
 have c2':w.cell? ⟨d,2,none⟩=some (.pointer (some ⟨r,0,none⟩)):=h.dir.cell 2
 clear h h0 h00 h1 h2 hA1 hk hfr hn hu hl0 hl1 hl2
 go_enter Tryz.func39,Tryz.ntmps39
 go_wp2_with (go_at_call 84;refine HPl.out.mono ?_;rintro e W1 ⟨A3,m3,c3,p3,rfl,_,_,hb1⟩;refine stop ?_)
 unfold Stop
 have HB1:=hid hb1
 have HS1:=hid (HS.out.below hb1)
 have e7:W1.cell? ⟨x.h,7,none⟩=some (.bool false):=HS1.out.ds.hs.heap.cell 7
 have e0:W1.cell? ⟨d,0,none⟩=some (.pointer (some ⟨x.h,0,none⟩)):=HS1.out.dir.cell 0
 have e1:W1.cell? ⟨d,1,none⟩=some (.pointer (some ⟨a.th 0,0,none⟩)):=HS1.out.dir.cell 1
 clear hb1 HPl hx7 c2'
 go_wp2_with (first
  | (go_at_call 27;refine (HEr.out _ HB1.out).mono ?_;rintro e w1 ⟨rfl,rfl⟩)
  | (go_at_call 85;refine (HAc.out _ HB1.out).mono ?_;rintro e W2 ⟨A4,m4,c4,ks,V,rfl,hnk,hks,hbi,hro,hb2⟩;refine stop ?_))
 unfold Stop
 have HB2:=hid (HB1.out.trans (hb2.mono HB1.out.size))
 have HS2:=hid (HS.out.below HB2.out)
 have HRo:=hid (Reads.of_own hro)
 have HAO:Hid (AOk s K cs ks (tlOf s cs keep) (dlOf s cs free) V):=hid (by
  have ha:∀ k∈ks,_:=fun k hk=>acts_hyp HKp.out HFp.out HNd.out ((hks k).1 hk).2
  exact ⟨hnk,fun k hk=>⟨((hks k).1 hk).1,(ha k hk).1⟩,fun k hk=>(ha k hk).2.1,fun k hk=>(ha k hk).2.2.1,fun k hk=>(ha k hk).2.2.2,hbi⟩)
 have HKs:=hid hks
 have HL9:Hid ((us++ks.flatMap (acW s cs (tlOf s cs keep) (dlOf s cs free) V)).length≤96):=hid (by
  rw [List.length_append]
  have:=acts_len (V:=V) hnk (fun k hk=>((hks k).1 hk).2)
  omega)
 have hm4:m4≤96:=by
  have h1:=hro.1
  rw [wrCells_len] at h1
  have h2:=HL9.out
  rw [List.length_append] at h2
  have h3:(ks.flatMap fun k=>chgW (s+32 * k) (cs k).cl (cs k).bs (tlOf s cs keep k) (dlOf s cs free k) (V k)).length=(ks.flatMap (acW s cs (tlOf s cs keep) (dlOf s cs free) V)).length:=rfl
  omega
 have HRo':Hid (Reads W2 W2.heap.size 2 A4 m4 (wrCells (ks.flatMap (acW s cs (tlOf s cs keep) (dlOf s cs free) V)))):=HRo
 have HCl:=hid (cloneW_any A0 n0 c0 us W2.drew ((HR0.out.below HB2.out).more HB2.out.size) HR00.out (by have:=HLn.out.1;omega))
 have e0:W2.cell? ⟨d,0,none⟩=some (.pointer (some ⟨x.h,0,none⟩)):=HS2.out.dir.cell 0
 clear hb2 hnk hks hbi hro HAc HRo e0 e1 e7
 go_upto_region 14 with fail
 refine wp_region_scriptH (fun w'=>Below W2.heap.size W2 w') 8 [] [(1,0),(1,1),(1,2),(1,3),(1,4),(1,6),(0,5),(0,7)] (by kernel_rfl) (by kernel_rfl) (Below.refl _ _).drew ?_
 refine wpScriptH_take (.pointer (some ⟨d,0,none⟩)) (by rfl) (by rfl) (fun w' hS=>?_) ?_
 ·go_simp
 simp only [zA,zB,Act.put,zD,zE,zF]
 refine wpScriptH_take (.pointer (some ⟨d,0,none⟩)) (by rfl) (by rfl) (fun w' hS=>?_) ?_
 ·go_simp
 simp only [zA,zB,zC,Act.put,zD,zE,zF]
 refine wpScriptH_take (.pointer (some ⟨d,2,none⟩)) (by rfl) (by rfl) (fun w' hS=>?_) ?_
 ·go_simp
 simp only [zA,zB,zC,Act.put,zD,zE,zF]
 refine wpScriptH_take (.pointer (some ⟨r,0,none⟩)) (by rfl) (by rfl) (fun w' hS=>?_) ?_
 ·have f1:w'.cell? ⟨d,2,none⟩=some (.pointer (some ⟨r,0,none⟩)):=(HS2.out.dir.below hS HS2.out.dir.lt).cell 2
  go_simp
 simp only [zA,zB,zC,Act.put,zD,zE,zF]
 refine wpScriptH_take (.slice A0 n0 c0) (by rfl) (by rfl) (fun w' hS=>?_) ?_
 ·go_simp
 simp only [zA,zB,zC,Act.put,zD,zE,zF]
 refine wpScriptH_take (.slice A4 m4 c4) (by rfl) (by rfl) (fun w' hS=>?_) ?_
 ·go_simp
 simp only [zA,zB,zC,Act.put,zD,zE,zF]
 refine wpScriptH_do (by rfl) ?_
 go_wp2_with (go_at_call 87;refine HCl.out.mono ?_;rintro e W3 ⟨A5,m5,c5,rfl,hm5,ho5,hb5⟩;have HM5:=hid hm5;have HO5:=hid ho5;clear hm5 ho5)
 have HB5:Hid (Below W2.heap.size W2 W3):=hid ((Below.refl _ W2).drew.trans hb5)
 clear hb5 HCl
 refine ⟨HB5.out,?_⟩
 refine wpScriptH_do (by rfl) ?_
 obtain ⟨i0,hi0,hz0,hz1,hz2⟩:=info_parts infoWrite
 have HR5:=hid ((HRo'.out.below HB5.out).more HB5.out.size)
 have hn0:n0≤96:=by have:=HLn.out.1;omega
 have hm5:m5≤96:=by have:=HM5.out;omega
 have HON:=hid (wrCells_one (ks.flatMap (acW s cs (tlOf s cs keep) (dlOf s cs free) V)))
 refine wpList_app2 _ (.tmp 62) (.tmp 63) 68 rfl rfl W2.heap.size 90 i0 _ 2 16 Tryz.underlying68 hi0 hz0 hz1 hz2 rfl (by omega) (.slice A5 m5 c5) m5 (wrCells us) rfl HO5.out W3.heap.size A4 m4 c4 (wrCells (ks.flatMap (acW s cs (tlOf s cs keep) (dlOf s cs free) V))) rfl HR5.out HON.out (by unfold maxLen;omega) (by omega) HB5.out.size ?_
 intro A6 n6 c6 W4 hn6 ho6 hg6 hb6
 have HB6:Hid (Below W2.heap.size W2 W4):=hid (HB5.out.grown hg6 HB5.out.size (fun i hi=>(HO5.out.lt i hi).1))
 have HS4:=hid (HS.out.below (HB2.out.trans (HB6.out.mono HB2.out.size)))
 have HCm:=hid (commitG_any HS4.out.ds.dev r HS4.out.log A6 n6 c6 (us++ks.flatMap (acW s cs (tlOf s cs keep) (dlOf s cs free) V)) (by
  have h1:=Reads.of_own ho6
  have e:wrCells us++wrCells (ks.flatMap (acW s cs (tlOf s cs keep) (dlOf s cs free) V))=wrCells (us++ks.flatMap (acW s cs (tlOf s cs keep) (dlOf s cs free) V)):=by unfold wrCells;rw [List.flatMap_append]
  rw [e] at h1
  exact h1) (diff_of_nodup (pub_nodup HU.out HAO.out)) (pub_off HS.out.ds HS.out.ln HU.out HAO.out) (pub_val HS.out.ds HU.out HAO.out) (by
   have h1:=ho6.1
   rw [List.length_append,wrCells_len,wrCells_len] at h1
   have h2:=HL9.out
   rw [List.length_append] at h2
   omega) HS4.out.idle HS4.out.ds.tab (by have h1:=HS.out.ds.hK;have:=HS.out.ln;omega) hT)
 clear hn6 ho6 hg6 hb6
 refine ⟨HB6.out,?_⟩
 show wpList _ _ _ _ _ _
 simp only [List.drop_succ_cons,List.drop_zero]
 go_wp2_with (go_at_call 86;refine HCm.out.mono ?_;rintro e W5 ⟨cm,hcm,rfl,S',hdv,hch,hgr⟩)
 refine NoPanic.normal ?_
 have HSz:=hid (Nat.le_trans HB2.out.size HB6.out.size)
 have HCh:Hid (Chg S w W5):=hid (((Chg.of_below (S:=S) HB2.out).below (HB6.out)).trans hch (Grew.refl _ _))
 have HGr:Hid (Grew S S' w):=hid (fun k hk=>by
  rcases hgr k hk with h | h
  ·exact .inl h
  ·exact .inr (by have:=HSz.out;omega))
 have HDS:=hid (HS.out.ds.pub HS.out.ln HU.out HAO.out HL9.out hcm hdv HCh.out HGr.out)
 have HCmt:=hid hcm
 have HSd:Hid (SD a L (T+800) s n K x (acC cs ks (tlOf s cs keep) (dlOf s cs free) V) f N m b0 S' (rdG 0 cur (us++ks.flatMap (acW s cs (tlOf s cs keep) (dlOf s cs free) V)) cm) W5 d r):=hid (HS.out.keep HDS.out (HCh.out.mono (fun _ h => .inl h)) HGr.out (rdG_idle HS.out.idle))
 have HSe:=hid (settle_any HDS.out A1 n1 c1 keep (HCh.out.reads HR1.out (Nat.le_refl _) (fun ad h1 h2=>HAd.out ad h1 (.inl h2)) |>.more HCh.out.size) (fun ad h1 h2=>HAd.out ad h1 (.inr h2)) (fun p hp=>(HKp.out p hp).res) (by
  have:=HNd.out
  rw [List.map_append] at this
  exact (List.nodup_append.1 this).1) (by omega) (by have:=HLn.out.2.1;omega) (.slice A2 n2 c2))
 have g0:W5.cell? ⟨d,0,none⟩=some (.pointer (some ⟨x.h,0,none⟩)):=HSd.out.dir.cell 0
 clear hcm hdv hch hgr HCm
 go_wp2_with (go_at_call 88;refine HSe.out.mono ?_;rintro e W6 ⟨rfl,hd6,hc6⟩;have HD6:=hid hd6;have HC6:=hid hc6;clear hd6 hc6)
 go_ret
 exact ⟨ks,V,cm,S',rfl,HAO.out,HKs.out,HCmt.out,HL9.out,HSd.out.keep HD6.out (HC6.out.mono (fun _ h => .inr h)) (Grew.refl _ _) HSd.out.idle,(HCh.out.mono (fun _ h => .inl h)).trans HC6.out (fun _ h => .inl (.inr h)),HGr.out⟩
end
end
end Go.Proofs.YtnlokpakiambaaaGreatDoor
