/- The walks and laws that the claim leans on, part 35. -/
import Derived.Test.YtnlokpakiambaaaGreatDoorJbg
import Derived.Test.YtnlokpakiambaaaGreatDoorJbh
import Derived.Shelf.GgSortFunc.InsertionK
set_option maxRecDepth 100000
set_option maxHeartbeats 16000000
namespace Go.Proofs.YtnlokpakiambaaaGreatDoor
open Go.Lib (hid)
section
open Go.RowKit Go.Maps
theorem cloneW_any (A:Option Addr) (n c:Nat) (l:List (Nat × Nat)) (w:World) (h:Reads w w.heap.size 2 A n (wrCells l)) (hA:A=none→n=0∧c=0) (hn:n≤1000) :
  Calls Tryz.prog 87 #[.slice A n c] w (fun e w'=>∃ A' m' c',e = .returned (.slice A' m' c')∧m'=n∧w'.ownsRow w.heap.size 90 2 (.slice A' m' c') m' (wrCells l)∧Below w.heap.size w w'):=by
 cases A with
 | none =>
  obtain ⟨rfl,rfl⟩:=hA rfl
  have hl:wrCells l=[]:=by have:=h.1;exact List.eq_nil_of_length_eq_zero (by omega)
  rw [hl]
  clear h
  have hnil:∀ W,(binOp .eql 68 (.slice none 0 0) (.slice none 0 0)).run Tryz.prog W = .ok (.bool true) W:=fun W=>by kernel_rfl
  go_enter Tryz.func87,Tryz.ntmps87
  go_wp2
  go_ret
  exact ⟨none,0,0,rfl,rfl,World.ownsRow_nil _ _ _ _,Below.refl _ _⟩
 | some ad =>
  have H:=hid h
  clear h hA
  have hnil:∀ W,(binOp .eql 68 (.slice (some ad) n c) (.slice none 0 0)).run Tryz.prog W = .ok (.bool false) W:=fun W=>Lib.run_eql_slice_some_nil W _ _ _ Tryz.underlying68
  obtain ⟨i0,hi0,hz0,hz1,hz2⟩:=info_parts infoWrite
  have HO:Hid ((w.alloc (.cells #[] 90)).ownsRow w.heap.size 90 2 (.slice (some ⟨w.heap.size,0,none⟩) 0 0) 0 []):=World.ownsRow_made w #[] 0 (Nat.le_refl _) (by unfold maxLen;omega) (by simp)
  go_enter Tryz.func87,Tryz.ntmps87
  go_wp2_with (at_builtin;refine wpList_app _ (.tmp 5) (.tmp 6) 68 rfl rfl w.heap.size 90 i0 _ 2 16 Tryz.underlying68 hi0 hz0 hz1 hz2 rfl ?q1 (.slice (some ⟨w.heap.size,0,none⟩) 0 0) 0 [] rfl HO.out w.heap.size (some ad) n c (wrCells l) rfl ?q5 ?q6 ?q2 ?q3 ?q4 ?_;(case q1=>omega);(case q5=>exact H.out.alloc (Nat.le_refl _) _);(case q6=>exact wrCells_one l);(case q2=>(unfold maxLen;omega));(case q3=>omega);(case q4=>(simp));intro A3 n3 c3 w8 hn3 ho3 hg3 hb3;have HN3:=hid hn3;have HO3:=hid ho3;have HB3:=hid (((Below.refl _ w).alloc (Nat.le_refl _) _).trans hb3);clear hn3 ho3 hg3 hb3)
  go_ret
  refine ⟨_,_,_,rfl,HN3.out.trans (Nat.zero_add _),?_,HB3.out⟩
  have:=HO3.out
  rw [List.nil_append] at this
  exact this
theorem sum_filter (g:Nat→Nat) (ks:List Nat) (hn:ks.Nodup):∀ l:List Nat,(ks.map fun k=>(l.filter fun p=>g p == k).length).sum≤l.length
 | []=>by
  have:∀ ks:List Nat,(ks.map fun k=>(([]:List Nat).filter fun p=>g p == k).length).sum=0:=fun ks=>by
   induction ks with
   | nil=>rfl
   | cons a t ih =>
    simp at ih ⊢
    exact ih
  rw [this];exact Nat.zero_le _
 | p :: l=>by
  have h1:=sum_filter g ks hn l
  have h2:∀ ks:List Nat,(ks.map fun k=>((p :: l).filter fun p=>g p == k).length).sum=(ks.map fun k=>(l.filter fun p=>g p == k).length).sum+ks.count (g p):=fun ks=>by
   induction ks with
   | nil=>rfl
   | cons a t ih =>
    rw [List.map_cons,List.map_cons,List.sum_cons,List.sum_cons,ih,List.filter_cons,List.count_cons]
    by_cases e:g p=a
    ·subst e;simp;omega
    ·have e1:(g p == a)=false:=by rw [beq_eq_false_iff_ne];exact e
     have e2:(a == g p)=false:=by rw [beq_eq_false_iff_ne];exact fun h=>e h.symm
     rw [e1,e2];simp;omega
  rw [h2,List.length_cons]
  have h3:ks.count (g p)≤1:=List.nodup_iff_count.1 hn (g p)
  omega
theorem acts_len {s:Nat} {cs:Nat→CS} {keep free:List Nat} {V:Nat→Nat} {ks:List Nat} (hn:ks.Nodup) (hne:∀ k∈ks,tlOf s cs keep k≠[]∨dlOf s cs free k≠[]):(ks.flatMap (acW s cs (tlOf s cs keep) (dlOf s cs free) V)).length≤2 * (keep.length+free.length):=by
 have h1:=sum_filter (kOf s) ks hn keep
 have h2:=sum_filter (kOf s) ks hn free
 have h3:∀ ks:List Nat,(∀ k∈ks,tlOf s cs keep k≠[]∨dlOf s cs free k≠[])→(ks.flatMap (acW s cs (tlOf s cs keep) (dlOf s cs free) V)).length≤2 * ((ks.map fun k=>(keep.filter fun p=>kOf s p == k).length).sum+(ks.map fun k=>(free.filter fun p=>kOf s p == k).length).sum):=fun ks=>by
  induction ks with
  | nil=>intro _;simp
  | cons k t ih =>
   intro h
   have h4:=ih (fun j hj=>h j (by simp [hj]))
   rw [List.flatMap_cons,List.length_append,List.map_cons,List.map_cons,List.sum_cons,List.sum_cons]
   unfold acW at h4 ⊢
   rw [chgW_len]
   have e1:(tlOf s cs keep k).length=(keep.filter fun p=>kOf s p == k).length:=by unfold tlOf;rw [List.length_map]
   have e2:(dlOf s cs free k).length=(free.filter fun p=>kOf s p == k).length:=by unfold dlOf;rw [List.length_map]
   have h5:1≤(tlOf s cs keep k).length+(dlOf s cs free k).length:=by
    rcases h k (by simp) with h | h
    ·have:=List.length_pos_iff.2 h;omega
    ·have:=List.length_pos_iff.2 h;omega
   omega
 have:=h3 ks hne
 omega
def RetPub (a:DA) (L T s n K:Nat) (x:HA) (cs:Nat→CS) (f:Nat→Option Nat) (N m b0:Nat) (S:Fp) (cur:Nat→Nat) (w:World) (d r:Nat) (us:List (Nat × Nat)) (keep free:List Nat) (n1:Nat) (e:Ending) (w':World):Prop :=
 ∃ ks V cm S',e = .returned (.int .i64 0)∧AOk s K cs ks (tlOf s cs keep) (dlOf s cs free) V∧(∀ k,k∈ks↔k < K∧(tlOf s cs keep k≠[]∨dlOf s cs free k≠[]))∧cm < 18446744073709551616∧(us++ks.flatMap (acW s cs (tlOf s cs keep) (dlOf s cs free) V)).length≤96 ∧
  SD a L (T+800) s n K x (acC cs ks (tlOf s cs keep) (dlOf s cs free) V) (relF f keep) (N+n1) (m - n1) b0 S' (rdG 0 cur (us++ks.flatMap (acW s cs (tlOf s cs keep) (dlOf s cs free) V)) cm) w' d r∧Chg (sfp S x) w w'∧Grew S S' w
section
variable {a:DA} {L T s n K:Nat} {x:HA} {cs:Nat→CS} {f:Nat→Option Nat} {N m b0:Nat} {S:Fp} {cur:Nat→Nat} {w w':World} {d r:Nat}
theorem publishD (h:SD a L T s n K x cs f N m b0 S cur w d r) (hK12:K≤12) (A0 A1 A2:Option Addr) (n0 c0 n1 c1 n2 c2:Nat) (us:List (Nat × Nat)) (keep free:List Nat) (h0:Reads w w.heap.size 2 A0 n0 (wrCells us)) (h00:A0=none→n0=0∧c0=0) (h1:Reads w w.heap.size 1 A1 n1 (uCells keep)) (h2:Reads w w.heap.size 1 A2 n2 (uCells free))
  (hA1:∀ ad,A1=some ad→¬ sfp S x ad.block) (hk:∀ p∈keep,KeepOk s K cs f p) (hfr:∀ p∈free,FreeOk s K cs p) (hn:((keep++free).map pOff).Nodup) (hu:UOk L 0 s K cs us) (hlen:us.length+2 * (keep.length+free.length)≤96) (hT:T+800≤1000000000) (hN:N+n1≤1000000000) :
  Calls Tryz.prog 39 #[.pointer (some ⟨d,0,none⟩), .slice A0 n0 c0, .slice A1 n1 c1, .slice A2 n2 c2] w (RetPub a L T s n K x cs f N m b0 S cur w d r us keep free n1):=by
 have hl0:us.length=n0:=by have:=h0.1;rw [wrCells_len] at this;omega
 have hl1:keep.length=n1:=by have:=h1.1;simp [uCells] at this;omega
 have hl2:free.length=n2:=by have:=h2.1;simp [uCells] at this;omega
 have HPl:=hid (planR_any h.ds.dev r 0 26 h.log (by have h1:=h.ds.hK;have:=h.ln;omega) (by omega) A0 n0 c0 us h0 (diff_of_nodup hu.nd) hu.off hu.val (by omega) h.idle h.ds.tab)
 have HAc:Hid (∀ W,Below w.heap.size w W→Calls Tryz.prog 85 #[.pointer (some ⟨x.h,0,none⟩), .slice A1 n1 c1, .slice A2 n2 c2] W (RetActs W s K cs keep free)):=hid (fun W hW=>hActions_any (h.ds.below hW) hK12 A1 A2 n1 c1 n2 c2 keep free ((h1.below hW).more hW.size) ((h2.below hW).more hW.size) hk hfr hn (by omega) (by omega))
 have HEr:Hid (∀ W,Below w.heap.size w W→Calls Tryz.prog 27 #[.pointer (some ⟨a.th 0,0,none⟩)] W fun e w'=>e = .returned (.int .i64 0)∧W=w'):=hid (fun W hW=>thErr (h.ds.dev.below hW))
 have HS:=hid h
 have HR0:=hid h0
 have HR00:=hid h00
 have HR1:=hid h1
 have HAd:=hid hA1
 have HKp:=hid hk
 have HFp:=hid hfr
 have HNd:=hid hn
 have HU:=hid hu
 have HLn:=hid (And.intro hl0 (And.intro hl1 hl2))
 have hx7:w.cell? ⟨x.h,7,none⟩=some (.bool false):=h.ds.hs.heap.cell 7
 have c2':w.cell? ⟨d,2,none⟩=some (.pointer (some ⟨r,0,none⟩)):=h.dir.cell 2
 clear h h0 h00 h1 h2 hA1 hk hfr hn hu hl0 hl1 hl2
 go_enter Tryz.func39,Tryz.ntmps39
 go_wp2_with (go_at_call 84;refine HPl.out.mono ?_;rintro e W1 ⟨A3,m3,c3,p3,rfl,_,_,hb1⟩;refine stop ?_)
 unfold Stop
 have HB1:=hid hb1
 have HS1:=hid (HS.out.below hb1)
 have e7:W1.cell? ⟨x.h,7,none⟩=some (.bool false):=HS1.out.ds.hs.heap.cell 7
 have e0:W1.cell? ⟨d,0,none⟩=some (.pointer (some ⟨x.h,0,none⟩)):=HS1.out.dir.cell 0
 have e1:W1.cell? ⟨d,1,none⟩=some (.pointer (some ⟨a.th 0,0,none⟩)):=HS1.out.dir.cell 1
 clear hb1 HPl hx7 c2'
 go_wp2_with (first
  | (go_at_call 27;refine (HEr.out _ HB1.out).mono ?_;rintro e w1 ⟨rfl,rfl⟩)
  | (go_at_call 85;refine (HAc.out _ HB1.out).mono ?_;rintro e W2 ⟨A4,m4,c4,ks,V,rfl,hnk,hks,hbi,hro,hb2⟩;refine stop ?_))
 unfold Stop
 have HB2:=hid (HB1.out.trans (hb2.mono HB1.out.size))
 have HS2:=hid (HS.out.below HB2.out)
 have HRo:=hid (Reads.of_own hro)
 have HAO:Hid (AOk s K cs ks (tlOf s cs keep) (dlOf s cs free) V):=hid (by
  have ha:∀ k∈ks,_:=fun k hk=>acts_hyp HKp.out HFp.out HNd.out ((hks k).1 hk).2
  exact ⟨hnk,fun k hk=>⟨((hks k).1 hk).1,(ha k hk).1⟩,fun k hk=>(ha k hk).2.1,fun k hk=>(ha k hk).2.2.1,fun k hk=>(ha k hk).2.2.2,hbi⟩)
 have HKs:=hid hks
 have HL9:Hid ((us++ks.flatMap (acW s cs (tlOf s cs keep) (dlOf s cs free) V)).length≤96):=hid (by
  rw [List.length_append]
  have:=acts_len (V:=V) hnk (fun k hk=>((hks k).1 hk).2)
  omega)
 have hm4:m4≤96:=by
  have h1:=hro.1
  rw [wrCells_len] at h1
  have h2:=HL9.out
  rw [List.length_append] at h2
  have h3:(ks.flatMap fun k=>chgW (s+32 * k) (cs k).cl (cs k).bs (tlOf s cs keep k) (dlOf s cs free k) (V k)).length=(ks.flatMap (acW s cs (tlOf s cs keep) (dlOf s cs free) V)).length:=rfl
  omega
 have HRo':Hid (Reads W2 W2.heap.size 2 A4 m4 (wrCells (ks.flatMap (acW s cs (tlOf s cs keep) (dlOf s cs free) V)))):=HRo
 have HCl:=hid (cloneW_any A0 n0 c0 us W2.drew ((HR0.out.below HB2.out).more HB2.out.size) HR00.out (by have:=HLn.out.1;omega))
 have e0:W2.cell? ⟨d,0,none⟩=some (.pointer (some ⟨x.h,0,none⟩)):=HS2.out.dir.cell 0
 clear hb2 hnk hks hbi hro HAc HRo e0 e1 e7
 go_upto_region 14 with fail
 refine wp_region_scriptH (fun w'=>Below W2.heap.size W2 w') 8 [] [(1,0),(1,1),(1,2),(1,3),(1,4),(1,6),(0,5),(0,7)] (by kernel_rfl) (by kernel_rfl) (Below.refl _ _).drew ?_
 refine wpScriptH_take (.pointer (some ⟨d,0,none⟩)) (by rfl) (by rfl) (fun w' hS=>?_) ?_
 ·go_simp
 simp only [zA,zB,Act.put,zD,zE,zF]
 refine wpScriptH_take (.pointer (some ⟨d,0,none⟩)) (by rfl) (by rfl) (fun w' hS=>?_) ?_
 ·go_simp
 simp only [zA,zB,zC,Act.put,zD,zE,zF]
 refine wpScriptH_take (.pointer (some ⟨d,2,none⟩)) (by rfl) (by rfl) (fun w' hS=>?_) ?_
 ·go_simp
 simp only [zA,zB,zC,Act.put,zD,zE,zF]
 refine wpScriptH_take (.pointer (some ⟨r,0,none⟩)) (by rfl) (by rfl) (fun w' hS=>?_) ?_
 ·have f1:w'.cell? ⟨d,2,none⟩=some (.pointer (some ⟨r,0,none⟩)):=(HS2.out.dir.below hS HS2.out.dir.lt).cell 2
  go_simp
 simp only [zA,zB,zC,Act.put,zD,zE,zF]
 refine wpScriptH_take (.slice A0 n0 c0) (by rfl) (by rfl) (fun w' hS=>?_) ?_
 ·go_simp
 simp only [zA,zB,zC,Act.put,zD,zE,zF]
 refine wpScriptH_take (.slice A4 m4 c4) (by rfl) (by rfl) (fun w' hS=>?_) ?_
 ·go_simp
 simp only [zA,zB,zC,Act.put,zD,zE,zF]
 refine wpScriptH_do (by rfl) ?_
 go_wp2_with (go_at_call 87;refine HCl.out.mono ?_;rintro e W3 ⟨A5,m5,c5,rfl,hm5,ho5,hb5⟩;have HM5:=hid hm5;have HO5:=hid ho5;clear hm5 ho5)
 have HB5:Hid (Below W2.heap.size W2 W3):=hid ((Below.refl _ W2).drew.trans hb5)
 clear hb5 HCl
 refine ⟨HB5.out,?_⟩
 refine wpScriptH_do (by rfl) ?_
 obtain ⟨i0,hi0,hz0,hz1,hz2⟩:=info_parts infoWrite
 have HR5:=hid ((HRo'.out.below HB5.out).more HB5.out.size)
 have hn0:n0≤96:=by have:=HLn.out.1;omega
 have hm5:m5≤96:=by have:=HM5.out;omega
 have HON:=hid (wrCells_one (ks.flatMap (acW s cs (tlOf s cs keep) (dlOf s cs free) V)))
 refine wpList_app2 _ (.tmp 62) (.tmp 63) 68 rfl rfl W2.heap.size 90 i0 _ 2 16 Tryz.underlying68 hi0 hz0 hz1 hz2 rfl (by omega) (.slice A5 m5 c5) m5 (wrCells us) rfl HO5.out W3.heap.size A4 m4 c4 (wrCells (ks.flatMap (acW s cs (tlOf s cs keep) (dlOf s cs free) V))) rfl HR5.out HON.out (by unfold maxLen;omega) (by omega) HB5.out.size ?_
 intro A6 n6 c6 W4 hn6 ho6 hg6 hb6
 have HB6:Hid (Below W2.heap.size W2 W4):=hid (HB5.out.grown hg6 HB5.out.size (fun i hi=>(HO5.out.lt i hi).1))
 have HS4:=hid (HS.out.below (HB2.out.trans (HB6.out.mono HB2.out.size)))
 have HCm:=hid (commitG_any HS4.out.ds.dev r HS4.out.log A6 n6 c6 (us++ks.flatMap (acW s cs (tlOf s cs keep) (dlOf s cs free) V)) (by
  have h1:=Reads.of_own ho6
  have e:wrCells us++wrCells (ks.flatMap (acW s cs (tlOf s cs keep) (dlOf s cs free) V))=wrCells (us++ks.flatMap (acW s cs (tlOf s cs keep) (dlOf s cs free) V)):=by unfold wrCells;rw [List.flatMap_append]
  rw [e] at h1
  exact h1) (diff_of_nodup (pub_nodup HU.out HAO.out)) (pub_off HS.out.ds HS.out.ln HU.out HAO.out) (pub_val HS.out.ds HU.out HAO.out) (by
   have h1:=ho6.1
   rw [List.length_append,wrCells_len,wrCells_len] at h1
   have h2:=HL9.out
   rw [List.length_append] at h2
   omega) HS4.out.idle HS4.out.ds.tab (by have h1:=HS.out.ds.hK;have:=HS.out.ln;omega) hT)
 clear hn6 ho6 hg6 hb6
 refine ⟨HB6.out,?_⟩
 show wpList _ _ _ _ _ _
 simp only [List.drop_succ_cons,List.drop_zero]
 go_wp2_with (go_at_call 86;refine HCm.out.mono ?_;rintro e W5 ⟨cm,hcm,rfl,S',hdv,hch,hgr⟩)
 refine NoPanic.normal ?_
 have HSz:=hid (Nat.le_trans HB2.out.size HB6.out.size)
 have HCh:Hid (Chg S w W5):=hid (((Chg.of_below (S:=S) HB2.out).below (HB6.out)).trans hch (Grew.refl _ _))
 have HGr:Hid (Grew S S' w):=hid (fun k hk=>by
  rcases hgr k hk with h | h
  ·exact .inl h
  ·exact .inr (by have:=HSz.out;omega))
 have HDS:=hid (HS.out.ds.pub HS.out.ln HU.out HAO.out HL9.out hcm hdv HCh.out HGr.out)
 have HCmt:=hid hcm
 have HSd:Hid (SD a L (T+800) s n K x (acC cs ks (tlOf s cs keep) (dlOf s cs free) V) f N m b0 S' (rdG 0 cur (us++ks.flatMap (acW s cs (tlOf s cs keep) (dlOf s cs free) V)) cm) W5 d r):=hid (HS.out.keep HDS.out (HCh.out.mono (fun _ h => .inl h)) HGr.out (rdG_idle HS.out.idle))
 have HSe:=hid (settle_any HDS.out A1 n1 c1 keep (HCh.out.reads HR1.out (Nat.le_refl _) (fun ad h1 h2=>HAd.out ad h1 (.inl h2)) |>.more HCh.out.size) (fun ad h1 h2=>HAd.out ad h1 (.inr h2)) (fun p hp=>(HKp.out p hp).res) (by
  have:=HNd.out
  rw [List.map_append] at this
  exact (List.nodup_append.1 this).1) (by omega) (by have:=HLn.out.2.1;omega) (.slice A2 n2 c2))
 have g0:W5.cell? ⟨d,0,none⟩=some (.pointer (some ⟨x.h,0,none⟩)):=HSd.out.dir.cell 0
 clear hcm hdv hch hgr HCm
 go_wp2_with (go_at_call 88;refine HSe.out.mono ?_;rintro e W6 ⟨rfl,hd6,hc6⟩;have HD6:=hid hd6;have HC6:=hid hc6;clear hd6 hc6)
 go_ret
 exact ⟨ks,V,cm,S',rfl,HAO.out,HKs.out,HCmt.out,HL9.out,HSd.out.keep HD6.out (HC6.out.mono (fun _ h => .inr h)) (Grew.refl _ _) HSd.out.idle,(HCh.out.mono (fun _ h => .inl h)).trans HC6.out (fun _ h => .inl (.inr h)),HGr.out⟩
end
end
section
open Go.RowKit Go.Maps
section
variable {s K:Nat} {cs:Nat→CS} {f:Nat→Option Nat}
theorem At.lo {q k i:Nat} (h:At s K cs q k i):pOff q=64 * (s+32 * k)+8 * offB (cs k).cl i+8:=by
 have:=h.2.2.2
 unfold offO blkO at this
 omega
theorem At.fnd {q k i:Nat} (h:At s K cs q k i):fndC (s+32 * k) (cs k).cl (pOff q)=some i:=by
 have h1:=h.lo
 have h2:=off_lt h.2.2.1
 have h3:=pay_le (cs k).cl
 have e:(pOff q - 64 * (s+32 * k)) / 8=9+i * (payW (cs k).cl+1):=by unfold offB at h1;omega
 unfold fndC
 rw [if_neg (by omega),e]
 unfold findC
 have e2:9+i * (payW (cs k).cl+1) - 9=i * (payW (cs k).cl+1):=by omega
 have hi:=h.2.2.1
 rw [if_neg (by unfold offB at h2;omega),e2,Nat.mul_mod_left,Nat.mul_div_cancel _ (by omega),if_neg (by omega)]
theorem At.home {q k i:Nat} (h:At s K cs q k i):homeOf s K (pOff q)=some k:=by
 rw [h.2.2.2]
 exact homeOf_blk h.1 h.2.2.1
structure LiveA (s K:Nat) (cs:Nat→CS) (q kind k i:Nat):Prop where
 at_:At s K cs q k i
 bk:(cs k).bs i=⟨pGen q,kind,177⟩
 kind_:pKind q=kind
 nz:q≠0
 lt:q < 18446744073709551616
 top:q / 72057594037927936=0
def Live (s K:Nat) (cs:Nat→CS) (q kind:Nat):Prop:=∃ k i,LiveA s K cs q kind k i
theorem Live.chk {q kind:Nat} (h:Live s K cs q kind):chkR s K cs q kind=0∧chkR s K cs q 0=0:=by
 obtain ⟨k,i,h⟩:=h
 have hb:blkR (s+32 * k) (cs k).cl (cs k).bs q=(i,0):=by
  unfold blkR
  rw [if_neg h.nz,h.at_.fnd]
  show (if q / 72057594037927936≠0 then _ else _)=_
  rw [h.bk,h.top,h.kind_,if_neg (by omega),if_neg (by simp),if_neg (by simp)]
 have hc:∀ kd,chkR s K cs q kd=if kd≠0∧kd≠pKind q then 13 else 0:=fun kd=>by
  unfold chkR
  rw [if_neg h.nz,h.top,if_neg (by omega),h.at_.home]
  show (if (cs k).dv=true then _ else _)=_
  rw [if_pos h.at_.2.1,hb,if_neg (by simp)]
 rw [hc,hc,h.kind_]
 simp
end
section
variable {s K:Nat} {cs:Nat→CS} {f:Nat→Option Nat} {keep free ks:List Nat} {V:Nat→Nat}
theorem At.pub {q k i:Nat} {tl:Nat→List (Nat × Nat)} {dl:Nat→List Nat} (h:At s K cs q k i):At s K (acC cs ks tl dl V) q k i:=by
 obtain ⟨e1,e2,_⟩:=acC_dv cs ks tl dl V k
 refine ⟨h.1,by rw [e1];exact h.2.1,by rw [e2];exact h.2.2.1,?_⟩
 rw [h.2.2.2]
 unfold offO
 rw [e2]
theorem tl_mem {q k i:Nat} (h:At s K cs q k i) (hq:q∈keep):(i,pKind q)∈tlOf s cs keep k:=by
 obtain ⟨e1,e2⟩:=kOf_blk h.2.2.1 h.2.2.2
 unfold tlOf
 exact List.mem_map.2 ⟨q,List.mem_filter.2 ⟨hq,by rw [beq_iff_eq];exact e1⟩,by rw [e2]⟩
theorem pub_keep {q kind c:Nat} (h:AOk s K cs ks (tlOf s cs keep) (dlOf s cs free) V) (hks:∀ k,k∈ks↔k < K∧(tlOf s cs keep k≠[]∨dlOf s cs free k≠[])) (hr:Rq s K cs f kind q c) (hq:q∈keep) (_h128:kind < 128):∃ k i,LiveA s K (acC cs ks (tlOf s cs keep) (dlOf s cs free) V) q kind k i∧(cs k).cl=c∧At s K cs q k i:=by
 obtain ⟨k,i,ha,hc,hg⟩:=hr.cls
 have hm:=tl_mem ha hq
 have hk:k∈ks:=(hks k).2 ⟨ha.1, .inl (fun e=>by rw [e] at hm;exact absurd hm (by simp))⟩
 refine ⟨k,i,⟨ha.pub,?_,hr.kind_,hr.keep.nz.1,hr.keep.nz.2,hr.top⟩,hc,ha⟩
 ·unfold acC
  rw [if_pos hk]
  show actB (cs k).bs _ _ i=_
  have:=actB_tk (bs:=(cs k).bs) (h.once k hk) hm
  rw [this,hr.kind_]
  unfold takenB
  rw [hg]
end
end
section
open Go.RowKit Go.Maps
section
variable {a:DA} {L T K:Nat} {x:HA} {y:WA} {cs:Nat→CS} {f:Nat→Option Nat} {N m b0:Nat} {S:Fp} {cur:Nat→Nat} {w w':World}
theorem BW.keep {T' N' m':Nat} {cs':Nat→CS} {f':Nat→Option Nat} {S':Fp} {cur':Nat→Nat} (h:BW a L T K x y cs f N m b0 S cur w) (hsd:SD a L T' 53 (32 * K) K x cs' f' N' m' b0 S' cur' w' y.d y.r) (hc:Chg (sfp S x) w w') (hg:Grew S S' w) (hu:cur' (8 * 26)=0):BW a L T' K x y cs' f' N' m' b0 S' cur' w':=by
 have hn:∀ {g:Nat} {t:TypeId} {vs:Array Value},Blk w g t vs→¬ S g→t≠354→¬ sfp S x g:=fun hB hS ht e=>e.elim hS (h.sd.ds.fp_ne hB ht)
 exact ⟨hsd,hc.blk h.blk (hn h.blk h.off.1 (by decide)),hc.blk h.und (hn h.und h.off.2.1 (by decide)),hc.blk h.mgr (hn h.mgr h.off.2.2 (by decide)),hu,⟨hg.off ⟨h.blk.lt,h.off.1⟩,hg.off ⟨h.und.lt,h.off.2.1⟩,hg.off ⟨h.mgr.lt,h.off.2.2⟩⟩,h.new,h.size,h.few⟩
theorem BW.below (h:BW a L T K x y cs f N m b0 S cur w) (hb:Below w.heap.size w w'):BW a L T K x y cs f N m b0 S cur w' :=
 h.keep (h.sd.below hb) (Chg.of_below hb) (Grew.refl _ _) h.uid
theorem BW.more {T' N':Nat} (h:BW a L T K x y cs f N m b0 S cur w) (hT:T≤T') (hT':T'≤1000000000) (hN:N≤N'):BW a L T' K x y cs f N' m b0 S cur w :=
 { h with sd:={ h.sd.more hT hT' with ds:={ (h.sd.more hT hT').ds with hs:=h.sd.ds.hs.mono hN } } }
end
end
section
open Go.RowKit Go.Maps
theorem methArD (w : World) : (method 563 188 (.agg arC0) "Decode").run Tryz.prog w = .ok (315, .agg arC0) w := by kernel_rfl
def rgW (cur:Nat→Nat) (o:Nat):List Nat:=(List.range 33).map fun j=>cur (o+j)
def RetRr (w:World) (R:Option (List (List Nat × Nat))) (e:Ending) (w':World):Prop:=(match R with
 | some l=>∃ A m c,e = .returned (.tuple #[.slice A m c, .int .i64 0])∧m=l.length∧w'.ownsRow w.heap.size 159 2 (.slice A m c) m (itCells l)
 | none=>e = .returned (.tuple #[.slice none 0 0, .int .i64 11]))∧Below w.heap.size w w'
section
variable {a:DA} {L T s n K:Nat} {x:HA} {cs:Nat→CS} {f:Nat→Option Nat} {N m b0:Nat} {S:Fp} {cur:Nat→Nat} {w:World} {d r:Nat}
theorem rread_any (h:SD a L T s n K x cs f N m b0 S cur w d r) (off:Nat) (h8:off % 8=0) (hlt:off+264≤64 * L) :
  Calls Tryz.prog 118 #[.iface 43 (.pointer (some ⟨d,0,none⟩)), .int .u64 (off:Int),arI] w (RetRr w (decA (rgW cur (off / 8)))):=by
 have hL:L≤4096:=by obtain ⟨ls,exe,per,cs,lsC,hdc,hnt⟩:=h.ds.dev;exact hdc.hL
 have HSz:=hid (fun W (hW:Below w.heap.size w W)=>sizeD (h.below hW).ds.dev (h.below hW).dir)
 have HEr:Hid (∀ W,Below w.heap.size w W→Calls Tryz.prog 288 #[.pointer (some ⟨d,0,none⟩)] W fun e w'=>e = .returned (.int .i64 0)∧W=w'):=hid (fun W hW=>errD (h.below hW).ds.dev (h.below hW).dir)
 have HLd:Hid (∀ k,k < 33→∀ W,Below w.heap.size w W→Calls Tryz.prog 291 #[.pointer (some ⟨d,0,none⟩), .int .u64 ((off+8 * k:Nat):Int)] W fun e w'=>e = .returned (.int .u64 (cur (off / 8+k):Int))∧W=w'):=hid (fun k hk W hW=>loadD (h.below hW).ds.dev (h.below hW).dir (off+8 * k) _ (by omega) (by omega) (by congr 1;omega))
 have hbn:=h.ds.bnd
 have hm1:=methDSize (some ⟨d,0,none⟩)
 have hm2:=methDErr (some ⟨d,0,none⟩)
 have hm3:=methDLoad (some ⟨d,0,none⟩)
 have hm4:=methArD
 have hnil:∀ W,(binOp .eql 166 (.iface 43 (.pointer (some ⟨d,0,none⟩))) .nilIface).run Tryz.prog W = .ok (.bool false) W:=fun W=>by rfl
 have hbn2:∀ y∈rgW cur (off / 8),y < 18446744073709551616:=fun y hy=>by
  unfold rgW at hy
  obtain ⟨j,_,rfl⟩:=List.mem_map.1 hy
  exact hbn _
 have HBn:=hid hbn2
 obtain ⟨M,hM⟩:∃ M,64 * L=M:=⟨_,rfl⟩
 rw [hM] at HSz
 obtain ⟨q,hq⟩:∃ q,M - off=q:=⟨_,rfl⟩
 have e1:IntKind.u64.wrap ((M:Int) - (off:Int))=(q:Int):=by rw [IntKind.wrap_u64];omega
 have e2:(33:Int)≤(q:Int) / 8:=by omega
 have e9:IntKind.u64.wrap ((q:Int) / 8)=(q:Int) / 8:=by rw [IntKind.wrap_u64];omega
 have e3:(off:Int)≤(M:Int):=by omega
 have e4:((off:Int) % 8 != 0)=false:=by rw [bne,beq_iff_eq.2 (by omega)];rfl
 have HOf:=hid (And.intro h8 (show off+264≤262144 by omega))
 have hmkS:=makeU 33 (by decide)
 rw [show madeCells #[.int .u64 0] 33=uA (ldL cur (off / 8) 33 0) by rw [ldL_zero];apply Array.ext';rw [toList_madeCells_one];unfold uA uCells;simp] at hmkS
 rw [show ((33:Nat):Int)=33 from rfl] at hmkS
 have hbq:=hbn
 clear h hbn hbn2 hL hlt hM hq h8
 unfold arI
 go_enter Tryz.func118,Tryz.ntmps118
 go_upto_region 12 with (first
  | (go_at_call 164;refine (arSize_any w).mono ?_;rintro e w1 ⟨rfl,hb1⟩;have HB1:=hid hb1;clear hb1)
  | (go_at_call 292;refine (HSz.out w1 HB1.out).mono ?_;rintro e w2 ⟨rfl,rfl⟩)
  | (go_at_call 288;refine (HEr.out w1 HB1.out).mono ?_;rintro e w2 ⟨rfl,rfl⟩))
 have HBk:Hid (Blk (w1.alloc (.cells (uA (ldL cur (off / 8) 33 0)) 23)) w1.heap.size 23 (uA (ldL cur (off / 8) 33 0))):=hid (Blk.new w1 _ _)
 have HB4:Hid (Below w1.heap.size w1 (w1.alloc (.cells (uA (ldL cur (off / 8) 33 0)) 23))):=hid ((Below.refl _ _).alloc (Nat.le_refl _) _)
 clear hmkS e1 e2 e3 e4 e9 hnil
 go_wp2_with fail
 go_loopw [56] (fun i wr=>∃ k:Nat,k≤33∧i = .int .i64 (k:Int)∧Hid (Blk wr w1.heap.size 23 (uA (ldL cur (off / 8) 33 k)))∧Hid (Below w1.heap.size w1 wr)) (fun i _=>33 - (Go.RowKit.intOf i).toNat)
 case atStart=>exact ⟨0,Nat.zero_le _,rfl,HBk,HB4⟩
 case round =>
  clear HBk HB4
  obtain ⟨k,hk,rfl,HBk,HB4⟩:=hrel
  by_cases hlt:k < 33
  ·have HBl:=hid (HB1.out.trans (HB4.out.mono HB1.out.size))
   have HL4:=hid (HLd.out k hlt wr HBl.out)
   have HNx:Hid (Blk (wr.setCell ⟨w1.heap.size,k,none⟩ (.int .u64 (cur (off / 8+k):Int))) w1.heap.size 23 (uA (ldL cur (off / 8) 33 (k+1)))):=hid (by
    have h1:=HBk.out.set_ k (.int .u64 (cur (off / 8+k):Int))
    rw [uA_set,ldL_set] at h1
    exact h1)
   have HBx:Hid (Below w1.heap.size w1 (wr.setCell ⟨w1.heap.size,k,none⟩ (.int .u64 (cur (off / 8+k):Int)))):=hid (HB4.out.setCell (Nat.le_refl _) _)
   have hz5:(0:Int)≤(k:Int):=by omega
   have hz6:(k:Int) < 33:=by omega
   have c9:wr.cell? ⟨w1.heap.size,k,none⟩=some (.int .u64 (((ldL cur (off / 8) 33 k)[k]'(by rw [ldL_len];exact hlt):Nat):Int)):=by rw [HBk.out.cell];exact uA_at (by rw [ldL_len];exact hlt)
   have z9:wr.frozen? ⟨w1.heap.size,k,none⟩=false:=HBk.out.frozen k
   generalize (ldL cur (off / 8) 33 k)[k]'(by rw [ldL_len];exact hlt)=old at *
   generalize cur (off / 8+k)=vk at *
   have ho:=HOf.out.2
   have e5:IntKind.u64.wrap (k:Int)=(k:Int):=by rw [IntKind.wrap_u64];omega
   have e6:IntKind.u64.wrap ((k:Int) * 8)=(k:Int) * 8:=by rw [IntKind.wrap_u64];omega
   have e7:IntKind.u64.wrap ((off:Int)+(k:Int) * 8)=((off+8 * k:Nat):Int):=by rw [IntKind.wrap_u64];omega
   generalize off+8 * k=ok at HL4 e7
   clear HBk HB4 ho
   go_wp2_with (go_at_call 291;refine HL4.out.mono ?_;rintro e w2 ⟨rfl,rfl⟩)
   go_roundw
   case rel =>
    first
     | exact ⟨k+1,by omega,by go_num,HNx,HBx⟩
     | (
       repeat apply Exists.intro
       refine ⟨?_,rfl⟩
       exact ⟨k+1,by omega,by go_num,HNx,HBx⟩)
   case measure=>simp [Go.RowKit.intOf];omega
  ·obtain rfl:k=33:=by omega
   have HBl:=hid (HB1.out.trans (HB4.out.mono HB1.out.size))
   have HE4:=hid (HEr.out wr HBl.out)
   have HAd:Hid (Calls Tryz.prog 315 #[.agg arC0, .slice (some ⟨w1.heap.size,0,none⟩) 33 33] wr (RetAr wr (decA (rgW cur (off / 8))))):=hid (by
    have h1:=HBk.out
    rw [ldL_end] at h1
    have h2:Reads wr wr.heap.size 1 (some ⟨w1.heap.size,0,none⟩) 33 (uCells (rgW cur (off / 8))):=by
     have h3:=uA_reads h1
     rw [show ((List.range 33).map fun j=>cur (off / 8+j)).length=33 by simp] at h3
     exact h3
    exact arDec_any _ 33 rfl _ wr h2 HBn.out)
   clear HBk HB4 hlt hk
   generalize decA (rgW cur (off / 8))=R at *
   rcases R with _ | l
   ·have HAe:Hid (Calls Tryz.prog 315 #[.agg arC0, .slice (some ⟨w1.heap.size,0,none⟩) 33 33] wr fun e w'=>e = .returned (.tuple #[.slice none 0 0, .bool false])∧Below wr.heap.size wr w'):=HAd
    rw [show ((33:Nat):Int)=33 from rfl]
    go_wp2_with (first
     | (go_at_call 288;refine HE4.out.mono ?_;rintro e w5 ⟨rfl,rfl⟩)
     | (go_at_call 315;refine HAe.out.mono ?_;rintro e w6 ⟨rfl,hb6⟩;have HB6:=hid (HBl.out.trans (hb6.mono HBl.out.size));clear hb6))
    go_ret2
    exact ⟨rfl,HB6.out⟩
   ·have HAe:Hid (Calls Tryz.prog 315 #[.agg arC0, .slice (some ⟨w1.heap.size,0,none⟩) 33 33] wr fun e w'=>(∃ A m c,e = .returned (.tuple #[.slice A m c, .bool true])∧m=l.length∧w'.ownsRow wr.heap.size 159 2 (.slice A m c) m (itCells l))∧Below wr.heap.size wr w'):=HAd
    rw [show ((33:Nat):Int)=33 from rfl]
    go_wp2_with (first
     | (go_at_call 288;refine HE4.out.mono ?_;rintro e w5 ⟨rfl,rfl⟩)
     | (go_at_call 315;refine HAe.out.mono ?_;rintro e w6 ⟨⟨A6,m6,c6,rfl,hm6,ho6⟩,hb6⟩;have HB6:=hid (HBl.out.trans (hb6.mono HBl.out.size));have HM6:=hid hm6;have HO6:=hid ho6;clear hb6 hm6 ho6))
    go_ret2
    exact ⟨⟨_,_,_,rfl,HM6.out,own_le HO6.out HBl.out.size⟩,HB6.out⟩
end
end
section
open Go.RowKit Go.Maps
section
variable {a:DA} {L T n K:Nat} {x:HA} {cs:Nat→CS} {f:Nat→Option Nat} {N m b0:Nat} {S:Fp} {cur:Nat→Nat} {w:World} {ks free:List Nat} {V:Nat→Nat} {cm:Nat}
theorem At.notLook {q k i y:Nat} (h:At 53 K cs q k i) (hy:y < payW (cs k).cl) {k':Nat} (_hk':k' < K):¬ lookAt 53 cs k' (8 * (53+32 * k)+offB (cs k).cl i+1+y):=fun hl=>by
 obtain ⟨_,p2,p3,p4⟩:=pay_word (ln:=53+32 * k) h.2.2.1 hy
 have h9:=offB_ge (cs k).cl i
 unfold lookAt at hl
 by_cases e:k'=k
 ·subst e
  rw [h.2.1,if_pos rfl] at hl
  exact p4 hl
 ·split at hl
  ·have:=hdrAt_in hl
   omega
  ·omega
end
end
section
open Go.RowKit Go.Maps
def RetOpn (w:World) (p ck:Nat) (e:Ending) (w':World):Prop:=(if ck=0 then ∃ g:Nat,w.heap.size≤g∧e = .returned (.tuple #[.pointer (some ⟨g,0,none⟩), .int .i64 0])∧Blk w' g 153 #[.int .u64 (p:Int)] else e = .returned (.tuple #[.pointer none, .int .i64 (ck:Int)]))∧Below w.heap.size w w'
section
variable {a:DA} {L T s n K:Nat} {x:HA} {cs:Nat→CS} {f:Nat→Option Nat} {N m b0:Nat} {S:Fp} {cur:Nat→Nat} {w:World} {d r:Nat}
theorem snOpen_any (h:SD a L T s n K x cs f N m b0 S cur w d r) (p:Nat) (hp:p < 18446744073709551616) :
  Calls Tryz.prog 46 #[.iface 43 (.pointer (some ⟨d,0,none⟩)), .int .u64 (p:Int)] w (RetOpn w p (chkR s K cs p 8)):=by
 have HE0:=hid (errD h.ds.dev h.dir)
 have HC:=hid (checkD h p 8 hp (by decide))
 have hmC:=methDCheck (some ⟨d,0,none⟩)
 have hmE:=methDErr (some ⟨d,0,none⟩)
 have hnil:∀ W,(binOp .eql 124 (.iface 43 (.pointer (some ⟨d,0,none⟩))) .nilIface).run Tryz.prog W = .ok (.bool false) W:=fun W=>by rfl
 generalize chkR s K cs p 8=ck at *
 clear h
 go_enter Tryz.func46,Tryz.ntmps46
 go_upto_region 7 with (first
  | (go_at_call 288;refine HE0.out.mono ?_;rintro e w1 ⟨rfl,rfl⟩)
  | (go_at_call 30;refine HC.out.mono ?_;rintro e w2 ⟨rfl,hb2⟩;have HB2:=hid hb2;clear hb2))
 by_cases hck:ck=0
 ·subst hck
  go_wp2_with fail
  go_ret2
  refine ⟨?_,HB2.out.alloc HB2.out.size _⟩
  rw [if_pos rfl]
  exact ⟨w2.heap.size,HB2.out.size,rfl,Blk.new _ _ _⟩
 ·have d0:((ck:Int) != 0)=true:=by rw [bne,beq_eq_false_iff_ne.2 (by omega)];rfl
  go_wp2_with fail
  go_ret2
  refine ⟨?_,HB2.out⟩
  rw [if_neg hck]
  rfl
end
end
section
open Go.RowKit Go.Maps
section
variable {P:Program} (w:World)
end
section
variable {a:DA} {L T s n K:Nat} {x:HA} {cs:Nat→CS} {f:Nat→Option Nat} {N m b0:Nat} {S:Fp} {cur:Nat→Nat} {w w':World} {d r:Nat}
structure LoS (x:HA) (d r b0 B:Nat):Prop where
 h:x.h < B
 gs:x.gs < B
 pl:x.pl < B
 mr:x.mr < B
 mh:x.mh < B
 d:d < B
 r:r < B
 b:b0≤B
theorem SD.lo (h:SD a L T s n K x cs f N m b0 S cur w d r):LoS x d r b0 w.heap.size:=by
 obtain ⟨h1,h2,h3,h4,h5⟩:=h.ds.hs.lt
 obtain ⟨_,_,l3,_⟩:=h.ds.lo
 exact ⟨h1,h2,h3,h4,h5,h.dir.lt,h.log.lt,by omega⟩
theorem At.inL {q k i:Nat} (h:At s K cs q k i) (hd:DS a L T s n K x cs f N m b0 S cur w):pOff q+8 * payW (cs k).cl≤64 * L∧pOff q % 8=0:=by
 have h1:=h.lo
 have h2:=off_lt h.2.2.1
 have h3:=hd.line h.1
 omega
end
end
section
open Go.RowKit Go.Maps
theorem methDPublish (p : Option Addr) (w : World) : (method 563 43 (.pointer p) "Publish").run Tryz.prog w = .ok (39, .pointer p) w := by kernel_rfl
theorem aheadDPublish (p : Addr) (w : World) : (nilAhead 563 43 (.pointer (some p)) "Publish").run Tryz.prog w = .ok (some false) w := by kernel_rfl
theorem linkB_any (n:Nat) (hn:n < 8) (w:World):Calls Tryz.prog 54 #[.int .i64 (n:Int)] w fun e w'=>e = .returned (.int .u64 ((3328+8 * n:Nat):Int))∧w=w':=by
 have hc:n=0∨n=1∨n=2∨n=3∨n=4∨n=5∨n=6∨n=7:=by omega
 rcases hc with rfl | rfl | rfl | rfl | rfl | rfl | rfl | rfl
 all_goals
  go_enter Tryz.func54,Tryz.ntmps54
  go_wp2
  go_ret
  exact ⟨rfl,rfl⟩
section
variable {a:DA} {L T s n K:Nat} {x:HA} {cs:Nat→CS} {f:Nat→Option Nat} {N m b0:Nat} {S:Fp} {cur:Nat→Nat} {w w':World} {d r:Nat}
theorem RetPub.back {us:List (Nat × Nat)} {keep free:List Nat} {n1:Nat} {e:Ending} {W:World} (hW:Below w.heap.size w W) (h:RetPub a L T s n K x cs f N m b0 S cur W d r us keep free n1 e w'):RetPub a L T s n K x cs f N m b0 S cur w d r us keep free n1 e w':=by
 obtain ⟨ks,V,cm,S',h1,h2,h3,h4,h5,h6,h7,h8⟩:=h
 exact ⟨ks,V,cm,S',h1,h2,h3,h4,h5,h6,(Chg.of_below hW).trans h7 (fun j hj => .inl hj),fun k hk=>(h8 k hk).imp id (fun h=>Nat.le_trans hW.size h)⟩
theorem hdrAt_ge {ln cl i:Nat} (h:hdrAt ln cl i):8 * ln≤i:=by
 rcases h with h | ⟨j,_,h⟩ <;> omega
theorem link_ok (hd:DS a L T 53 n K x cs f N m b0 S cur w) (i q:Nat) (hi:i < 8) (hq:q < 18446744073709551616):UOk L 0 53 K cs [(3328+8 * i,q)]:=by
 have hK:=hd.hK
 refine ⟨fun e he=>?_,fun e he=>?_,fun e he k hk hl=>?_,by simp⟩
 ·simp at he
  subst he
  exact ⟨by show (3328+8 * i) % 8=0;omega,by show 3328+8 * i < 64 * L;omega, .inr (by show 64 * 0+64 * 26≤3328+8 * i;omega)⟩
 ·simp at he
  subst he
  exact hq
 ·simp at he
  subst he
  have hl':lookAt 53 cs k ((3328+8 * i) / 8):=hl
  unfold lookAt at hl'
  split at hl'
  ·have:=hdrAt_ge hl'
   omega
  ·omega
theorem set_any (h:SD a L T 53 n K x cs f N m b0 S cur w d r) (hK12:K≤12) (g i q:Nat) (hi:i < 8) (hq:q < 18446744073709551616) (A1:Option Addr) (n1 c1:Nat) (keep:List Nat) (h1:Reads w w.heap.size 1 A1 n1 (uCells keep)) (hA1:∀ ad,A1=some ad→¬ sfp S x ad.block) (hk:∀ p∈keep,KeepOk 53 K cs f p) (hn:(keep.map pOff).Nodup) (hlen:keep.length≤20) (hT:T+800≤1000000000) (hN:N+n1≤1000000000) :
  Calls Tryz.prog 76 #[.pointer (some ⟨g,0,none⟩),dirV d, .int .i64 (i:Int), .int .u64 (q:Int), .slice A1 n1 c1] w (RetPub a L T 53 n K x cs f N m b0 S cur w d r [(3328+8 * i,q)] keep [] n1):=by
 have HLk:=hid (linkB_any i hi)
 have HPb:Hid (∀ (W W':World),W=w.drew→W'=W.alloc (.cells #[.int .u64 ((3328+8 * i:Nat):Int), .int .u64 (q:Int)] 90)→Calls Tryz.prog 39 #[.pointer (some ⟨d,0,none⟩), .slice (some ⟨W.heap.size,0,none⟩) 1 1, .slice A1 n1 c1, .slice none 0 0] W' (RetPub a L T 53 n K x cs f N m b0 S cur w d r [(3328+8 * i,q)] keep [] n1)):=hid (fun W W' hW hW'=>by
  subst hW hW'
  have hb:Below w.heap.size w (w.drew.alloc (.cells #[.int .u64 ((3328+8 * i:Nat):Int), .int .u64 (q:Int)] 90)):=(Below.refl _ _).drew.alloc (Nat.le_refl _) _
  have h0:=publishD (h.below hb) hK12 (some ⟨w.drew.heap.size,0,none⟩) A1 none 1 1 n1 c1 0 0 [(3328+8 * i,q)] keep [] (one_reads w.drew _ q) (fun h=>by cases h) ((h1.below hb).more hb.size) ⟨rfl,fun h=>absurd h (Nat.lt_irrefl 0)⟩ hA1 hk (fun p hp=>absurd hp (by simp)) (by rw [List.append_nil];exact hn) (link_ok h.ds i q hi hq) (by simp;omega) hT hN
  exact h0.mono (fun e w' h=>RetPub.back hb h))
 have hm:=methDPublish (some ⟨d,0,none⟩)
 have hna:=aheadDPublish ⟨d,0,none⟩
 have hmf:∀ (fn:Fn) (first cap:Array Value) (w:World),(Instr.makeFunc fn first cap).run Tryz.prog w = .ok (.func fn first cap) w:=fun _ _ _ _=>rfl
 generalize 3328+8 * i=O at *
 clear h h1 hA1 hk hn
 unfold dirV
 go_enter Tryz.func76,Tryz.ntmps76
 go_upto_region 1 with fail
 refine wp_region_scriptH (fun _=>True) 10 [] [(1,0),(1,1),(1,3),(1,6),(1,7),(1,8),(1,9),(0,2),(1,4),(0,5)] (by kernel_rfl) (by kernel_rfl) trivial ?_
 refine wpScriptH_take (.iface 43 (.pointer (some ⟨d,0,none⟩))) (by rfl) (by rfl) (fun w' hS=>?_) ?_
 ·go_simp
 simp only [zA,zB,Act.put,zD,zE,zF]
 refine wpScriptH_take (.int .i64 (i:Int)) (by rfl) (by rfl) (fun w' hS=>?_) ?_
 ·go_simp
 simp only [zA,zB,zC,Act.put,zD,zE,zF]
 refine wpScriptH_take (.int .u64 (q:Int)) (by rfl) (by rfl) (fun w' hS=>?_) ?_
 ·go_simp
 simp only [zA,zB,zC,Act.put,zD,zE,zF]
 refine wpScriptH_take (.slice A1 n1 c1) (by rfl) (by rfl) (fun w' hS=>?_) ?_
 ·go_simp
 simp only [zA,zB,zC,Act.put,zD,zE,zF]
 refine wpScriptH_take (.func (.method "Publish") #[.iface 43 (.pointer (some ⟨d, 0, none⟩))] #[]) (by rfl) (by rfl) (fun w' hS => ?_) ?_
 ·go_simp
 simp only [zA,zB,zC,Act.put,zD,zE,zF]
 refine wpScriptH_take (.func (.method "Publish") #[.iface 43 (.pointer (some ⟨d, 0, none⟩))] #[]) (by rfl) (by rfl) (fun w' hS => ?_) ?_
 ·go_simp
 simp only [zA,zB,zC,Act.put,zD,zE,zF]
 refine wpScriptH_take (.iface 43 (.pointer (some ⟨d,0,none⟩))) (by rfl) (by rfl) (fun w' hS=>?_) ?_
 ·go_simp
 simp only [zA,zB,zC,Act.put,zD,zE,zF]
 refine wpScriptH_do (by rfl) ?_
 go_wp2_with (go_at_call 54;refine (HLk.out _).mono ?_;rintro e w1 ⟨rfl,rfl⟩)
 refine ⟨trivial,?_⟩
 refine wpScriptH_take (.agg #[.int .u64 (O:Int), .int .u64 (q:Int)]) (by rfl) (by rfl) (fun w' hS=>?_) ?_
 ·go_simp
 simp only [zA,zB,zC,Act.put,zD,zE,zF]
 refine wpScriptH_do (by rfl) ?_
 go_wp2_with fail
 refine ⟨trivial,?_⟩
 show wpList _ _ _ _ _ _
 simp only [List.drop_succ_cons,List.drop_zero]
 go_wp2_with (go_at_call 39;refine (HPb.out _ _ rfl rfl).mono ?_;intro e w2 h2;have HP2:=hid h2;clear h2;obtain ⟨ks,V,cm,S',rfl,q2,q3,q4,q5,q6,q7,q8⟩:=HP2.out;clear q2 q3 q4 q5 q6 q7 q8)
 refine NoPanic.normal ?_
 go_wp2_with fail
 go_ret
 exact HP2.out
end
end
end Go.Proofs.YtnlokpakiambaaaGreatDoor
