/- The walks and laws that the claim leans on, part 43. -/
import Derived.Test.YtfkjjoglnmeciaaGreatDoorJbp
set_option maxRecDepth 100000
set_option maxHeartbeats 16000000
namespace Go.Proofs.YtfkjjoglnmeciaaGreatDoor
open Go.Lib (hid)
section
open Go.RowKit Go.Maps
theorem own_none {w:World} {b:Nat} {t:TypeId} {sz n c m:Nat} {A:Option Addr} {xs:List Value} (h:w.ownsRow b t sz (.slice A n c) m xs):A=none→n=0∧c=0:=by
 intro hA
 subst hA
 rcases h.2 with ⟨h1,_⟩ | ⟨g,cap,cur,h1,_⟩
 ·cases h1
  exact ⟨rfl,rfl⟩
 ·cases h1
def flW (cur:Nat→Nat) (us:List (Nat × Nat)):List (Nat × Nat):=us.filter fun u=>decide (cur (u.1 / 8)≠u.2)
theorem flW_take (cur:Nat→Nat) (us:List (Nat × Nat)) (k:Nat) (h:k < us.length):flW cur (us.take (k+1))=if cur (us[k].1 / 8)≠us[k].2 then flW cur (us.take k)++[us[k]] else flW cur (us.take k):=by
 unfold flW
 rw [List.take_succ_eq_append_getElem h,List.filter_append]
 by_cases e:cur (us[k].1 / 8)≠us[k].2
 ·rw [if_pos e,List.filter_cons_of_pos (by simpa using e)]
  rfl
 ·rw [if_neg e,List.filter_cons_of_neg (by simpa using e)]
  simp
theorem flW_len (cur:Nat→Nat) (us:List (Nat × Nat)):(flW cur us).length≤us.length:=List.length_filter_le _ _
theorem plOf_len (off:Nat) (xs:List Nat):(plOf off xs).length=33:=by simp [plOf]
section
variable {a:DA} {L T s n K:Nat} {x:HA} {cs:Nat→CS} {f:Nat→Option Nat} {N m b0:Nat} {S:Fp} {cur:Nat→Nat} {w w':World} {d r:Nat}
def RetPw (a:DA) (L T s n K:Nat) (x:HA) (cs:Nat→CS) (f:Nat→Option Nat) (N m b0:Nat) (S:Fp) (cur:Nat→Nat) (w:World) (d r:Nat) (us:List (Nat × Nat)) (e:Ending) (w':World):Prop :=
 ∃ cm S',e = .returned (.int .i64 0)∧cm < 18446744073709551616∧SD a L (T+800) s n K x cs f N m b0 S' (rdG 0 cur us cm) w' d r∧Chg (sfp S x) w w'∧Grew S S' w
theorem RetPub.words {us:List (Nat × Nat)} {e:Ending} (h:RetPub a L T s n K x cs f N m b0 S cur w d r us [] [] 0 e w'):RetPw a L T s n K x cs f N m b0 S cur w d r us e w':=by
 obtain ⟨ks,V,cm,S',h1,h2,h3,h4,h5,h6,h7,h8⟩:=h
 have hk:ks=[]:=by
  apply List.eq_nil_iff_forall_not_mem.2
  intro k hk
  have:=((h3 k).1 hk).2
  simp [tlOf,dlOf] at this
 subst hk
 have hcs:acC cs [] (tlOf s cs []) (dlOf s cs []) V=cs:=by
  funext k
  unfold acC
  rw [if_neg (by simp)]
 rw [hcs] at h6
 rw [List.flatMap_nil,List.append_nil] at h6
 exact ⟨cm,S',h1,h4,h6,h7,h8⟩
theorem UOk.filter {us:List (Nat × Nat)} (h:UOk L 0 s K cs us) (p:Nat × Nat→Bool):UOk L 0 s K cs (us.filter p) :=
 ⟨fun e he=>h.off e (List.mem_filter.1 he).1,fun e he=>h.val e (List.mem_filter.1 he).1,fun e he=>h.free e (List.mem_filter.1 he).1,List.Nodup.sublist (List.Sublist.map _ List.filter_sublist) h.nd⟩
theorem rpub_any (h:SD a L T s n K x cs f N m b0 S cur w d r) (hK12:K≤12) (g p:Nat) (hg:Blk w g 265 #[.int .u64 (p:Int)]) (hp0:p≠0) (h8:pOff p % 8=0) (hL:pOff p+272≤64 * L) (hpo:pOff p≤900000) (A:Option Addr) (k0 c0:Nat) (l:List (List Nat × Nat)) (hr:Reads w w.heap.size 2 A k0 (itCells l)) (hn:k0≤8) (hl:∀ p∈l,p.1.length≤16∧∀ b∈p.1,b < 256) (hu:UOk L 0 s K cs (plOf (pOff p+8) (encA l))) (hT:T+800≤1000000000) (hN:N≤1000000000) :
  Calls Tryz.prog 263 #[.pointer (some ⟨g,0,none⟩), .iface 59 (.pointer (some ⟨d,0,none⟩)), .slice A k0 c0] w (RetPw a L T s n K x cs f N m b0 S cur w d r (flW cur (plOf (pOff p+8) (encA l)))):=by
 have HA1:Hid (∀ W,Calls Tryz.prog 49 #[.int .u64 (p:Int), .int .i64 1] W fun e w'=>e = .returned (.int .u64 ((pOff p+8:Nat):Int))∧W=w'):=hid (fun W=>by
  have h1:=at_any p 1 (by omega) W
  rw [show pAt p 1=pOff p+8 by unfold pAt;rw [if_neg (by omega)]] at h1
  exact h1)
 have HPl:Hid (∀ W,Below w.heap.size w W→Calls Tryz.prog 330 #[.int .u64 ((pOff p+8:Nat):Int),arI, .slice A k0 c0] W (RetPl2 W (plOf (pOff p+8) (encA l)))):=hid (fun W hW=>rplan_any (pOff p+8) A k0 c0 l W (by omega) (by omega) ((hr.below hW).more hW.size) hn hl)
 have HLd:Hid (∀ W,Below w.heap.size w W→∀ o,o % 8=0→o < 64 * L→Calls Tryz.prog 435 #[.pointer (some ⟨d,0,none⟩), .int .u64 (o:Int)] W fun e w'=>e = .returned (.int .u64 (cur (o / 8):Int))∧W=w'):=hid (fun W hW o h1 h2=>loadD (h.below hW).ds.dev (h.below hW).dir o _ h1 h2 rfl)
 have HPb:Hid (∀ (W:World) (A0:Option Addr) (n0 c0:Nat),Below w.heap.size w W→Reads W W.heap.size 2 A0 n0 (wrCells (flW cur (plOf (pOff p+8) (encA l))))→(A0=none→n0=0∧c0=0)→Calls Tryz.prog 54 #[.pointer (some ⟨d,0,none⟩), .slice A0 n0 c0, .slice none 0 0, .slice none 0 0] W (RetPw a L T s n K x cs f N m b0 S cur w d r (flW cur (plOf (pOff p+8) (encA l))))):=hid (fun W A0 n0 c0 hW h0 h00=>by
  have h1:=publishD (h.below hW) hK12 A0 none none n0 c0 0 0 0 0 (flW cur (plOf (pOff p+8) (encA l))) [] [] h0 h00 ⟨rfl,fun h=>absurd h (Nat.lt_irrefl 0)⟩ ⟨rfl,fun h=>absurd h (Nat.lt_irrefl 0)⟩ (fun ad h=>by cases h) (fun p hp=>absurd hp (by simp)) (fun p hp=>absurd hp (by simp)) (by simp) (hu.filter _) (by have:=flW_len cur (plOf (pOff p+8) (encA l));rw [plOf_len] at this;simp;omega) hT (by omega)
  exact h1.mono (fun e w' h=>(RetPub.back hW h).words))
 have HEr:Hid (∀ W S' T' cur',SD a L T' s n K x cs f N m b0 S' cur' W d r→Calls Tryz.prog 432 #[.pointer (some ⟨d,0,none⟩)] W fun e w'=>e = .returned (.int .i64 0)∧W=w'):=hid (fun W S' T' cur' h=>errD h.ds.dev h.dir)
 have HOf:Hid (∀ k (hk:k < 33),∃ o v:Nat,(plOf (pOff p+8) (encA l))[k]?=some (o,v)∧o % 8=0∧o < 64 * L):=hid (fun k hk=>by
  refine ⟨pOff p+8+8 * k,(encA l).getD k 0,?_,by omega,by omega⟩
  unfold plOf
  rw [List.getElem?_map,List.getElem?_range hk]
  rfl)
 have HUl:Hid ((plOf (pOff p+8) (encA l)).length=33):=hid (plOf_len _ _)
 have g0:w.cell? ⟨g,0,none⟩=some (.int .u64 (p:Int)):=hg.cell 0
 have hmP:=methDPublish (some ⟨d,0,none⟩)
 have hmE:=methDErr (some ⟨d,0,none⟩)
 have hmL:=methDLoad (some ⟨d,0,none⟩)
 generalize plOf (pOff p+8) (encA l)=us at *
 generalize pOff p+8=o1 at *
 obtain ⟨i0,hi0,hz0,hz1,hz2⟩:=info_parts infoWrite
 clear h hg hr hl hu h8 hL hpo
 unfold arI at HPl
 go_enter Tryz.func263,Tryz.ntmps263
 go_upto_region 4 with (first
  | (go_at_call 49;refine (HA1.out _).mono ?_;rintro e w3 ⟨rfl,rfl⟩)
  | (go_at_call 267;refine (codec_any w).mono ?_;rintro e w4 ⟨rfl,hb4⟩;have HB4:=hid hb4;clear hb4)
  | (go_at_call 330;refine (HPl.out w4 HB4.out).mono ?_;rintro e w5 ⟨gq,hgq,rfl,hk5,hb5⟩;have HB5:=hid (HB4.out.trans (hb5.mono HB4.out.size));have HK5:=hid hk5;clear hb5 hk5))
 have HBw:Hid (w.heap.size≤w5.heap.size):=hid HB5.out.size
 have HO0:Hid (w5.ownsRow w5.heap.size 114 2 (.slice none 0 0) 0 (wrCells (flW cur (us.take 0)))):=World.ownsRow_nil _ _ _ _
 have HB0:Hid (Below w5.heap.size w5 w5):=hid (Below.refl _ _)
 clear g0
 go_wp2_with fail
 go_loopw [9,30] (fun l i wr=>∃ (k:Nat) (A:Option Addr) (q c:Nat),k≤33∧i = .int .i64 k∧l = .slice A q c∧q≤k∧Hid (q=(flW cur (us.take k)).length)∧Hid (wr.ownsRow w5.heap.size 114 2 (.slice A q c) q (wrCells (flW cur (us.take k))))∧Hid (Below w5.heap.size w5 wr)) (fun _ i _=>33 - (Go.RowKit.intOf i).toNat)
 case atStart=>exact ⟨0,_,_,_,Nat.zero_le _,rfl,rfl,Nat.le_refl _,rfl,HO0,HB0⟩
 case round =>
  clear HO0 HB0
  obtain ⟨k,A1,q,c1,hk,rfl,rfl,hqk,HLn,HO,H2⟩:=hrel
  by_cases hlt:k < 33
  ·have hkl:k < us.length:=by rw [HUl.out];exact hlt
   obtain ⟨o,v,hov,ho8,hoL⟩:=HOf.out k hlt
   have hkk:us[k]=(o,v):=Option.some.inj ((List.getElem?_eq_getElem hkl).symm.trans hov)
   have HTS:=hid (flW_take cur us k hkl)
   rw [hkk] at HTS
   have hz5:(0:Int)≤(k:Int):=by omega
   have hz6:(k:Int) < 33:=by omega
   have HKr:=hid (HK5.out.below H2.out HK5.out.lt)
   have d0:wr.cell? ⟨gq,k * 2,none⟩=some (.int .u64 (o:Int)):=by
    rw [HKr.out.cell]
    have h1:=(wrCells_at us k hkl).1
    rw [hkk] at h1
    unfold wrA
    rw [List.getElem?_toArray]
    exact h1
   have d1:wr.cell? ⟨gq,k * 2+1,none⟩=some (.int .u64 (v:Int)):=by
    rw [HKr.out.cell]
    have h1:=(wrCells_at us k hkl).2
    rw [hkk] at h1
    unfold wrA
    rw [List.getElem?_toArray]
    exact h1
   have HLo:Hid (∀ W,Below w5.heap.size w5 W→Calls Tryz.prog 435 #[.pointer (some ⟨d,0,none⟩), .int .u64 (o:Int)] W fun e w'=>e = .returned (.int .u64 (cur (o / 8):Int))∧W=w'):=hid (fun W hW=>HLd.out W (HB5.out.trans (hW.mono HBw.out)) o ho8 hoL)
   generalize cur (o / 8)=y at *
   clear hov hkk hkl ho8 hoL
   obtain ⟨W7,hW7⟩:∃ W7,wr.alloc (.cells #[.int .u64 (o:Int), .int .u64 (v:Int)] 114)=W7:=⟨_,rfl⟩
   have hk7:Blk W7 wr.heap.size 114 #[.int .u64 (o:Int), .int .u64 (v:Int)]:=by rw [← hW7];exact Blk.new _ _ _
   have HO7:Hid (W7.ownsRow w5.heap.size 114 2 (.slice A1 q c1) q (wrCells (flW cur (us.take k)))):=hid (by rw [← hW7];exact HO.out.alloc _)
   have HB7:Hid (Below w5.heap.size w5 W7):=hid (by rw [← hW7];exact H2.out.alloc H2.out.size _)
   have HW7:=hid hW7
   have HBd:Hid (Below w5.heap.size w5 W7.drew):=hid HB7.out.drew
   have HOd:Hid (W7.drew.ownsRow w5.heap.size 114 2 (.slice A1 q c1) q (wrCells (flW cur (us.take k)))):=hid (own_below HO7.out (Below.refl _ _).drew)
   have s1:W7.drew.cell? ⟨wr.heap.size,0,none⟩=some (.int .u64 (o:Int)):=hk7.cell 0
   have s2:W7.drew.cell? ⟨wr.heap.size,1,none⟩=some (.int .u64 (v:Int)):=hk7.cell 1
   have hal:=aheadDLoad7 ⟨d,0,none⟩
   obtain ⟨b,hb⟩:∃ b,((y:Int) != (v:Int))=b:=⟨_,rfl⟩
   have HTb:Hid (flW cur (us.take (k+1))=if b=true then flW cur (us.take k)++[(o,v)] else flW cur (us.take k)):=hid (by
    rw [HTS.out,← hb]
    by_cases e:y=v
    ·subst e
     simp
    ·rw [if_pos e,if_pos (by rw [bne_iff_ne];omega)])
   clear hW7 hk7 HTS HO7 HB7
   go_upto_region 8 with fail
   rw [HW7.out]
   refine wp_region_scriptH (fun w'=>w'=W7.drew) 7 [] [(1,0),(1,1),(1,2),(1,4),(1,5),(0,3),(1,6)] (by kernel_rfl) (by kernel_rfl) rfl ?_
   refine wpScriptH_take (.iface 59 (.pointer (some ⟨d,0,none⟩))) (by rfl) (by rfl) (fun w' hS=>?_) ?_
   ·go_simp
   simp only [zA,zB,Act.put,zD,zE,zF]
   refine wpScriptH_take (.pointer (some ⟨wr.heap.size,0,none⟩)) (by rfl) (by rfl) (fun w' hS=>?_) ?_
   ·go_simp
   simp only [zA,zB,zC,Act.put,zD,zE,zF]
   refine wpScriptH_take (.int .u64 (o:Int)) (by rfl) (by rfl) (fun w' hS=>?_) ?_
   ·subst hS
    go_simp
   simp only [zA,zB,zC,Act.put,zD,zE,zF]
   refine wpScriptH_take (.pointer (some ⟨wr.heap.size,1,none⟩)) (by rfl) (by rfl) (fun w' hS=>?_) ?_
   ·go_simp
   simp only [zA,zB,zC,Act.put,zD,zE,zF]
   refine wpScriptH_take (.int .u64 (v:Int)) (by rfl) (by rfl) (fun w' hS=>?_) ?_
   ·subst hS
    go_simp
   simp only [zA,zB,zC,Act.put,zD,zE,zF]
   refine wpScriptH_do (by rfl) ?_
   go_wp2_with (go_at_call 435;refine (HLo.out _ HBd.out).mono ?_;rintro e w6 ⟨rfl,rfl⟩)
   refine ⟨rfl,?_⟩
   refine wpScriptH_take (.bool b) (by rfl) (by rfl) (fun w' hS=>?_) ?_
   ·go_simp
   simp only [zA,zB,zC,Act.put,zD,zE,zF]
   show wpList _ _ _ _ _ _
   simp only [List.drop_succ_cons,List.drop_zero]
   refine NoPanic.normal ?_
   cases b
   ·have HLn2:=HLn.out
    have HO2:=HOd.out
    rw [← (HTb.out.trans (if_neg (by decide)))] at HLn2 HO2
    have HLn3:=hid HLn2
    have HO3:=hid HO2
    clear HLn2 HO2
    go_wp2_with fail
    go_roundw
    case rel =>
     first
      | exact ⟨k+1,_,_,_,by omega,by go_num,rfl,by omega,HLn3,HO3,HBd⟩
      | (
        repeat apply Exists.intro
        refine ⟨?_,rfl⟩
        exact ⟨k+1,_,_,_,by omega,by go_num,rfl,by omega,HLn3,HO3,HBd⟩)
    case measure=>simp [Go.RowKit.intOf];omega
   ·have HTS:=hid (HTb.out.trans (if_pos rfl))
    clear HTb
    have HLE:=hid HBd.out.size
    obtain ⟨W8,hW8⟩:∃ W8,W7.drew=W8:=⟨_,rfl⟩
    rw [hW8] at HBd HOd s1 s2 HLE ⊢
    clear hW8
    go_wp2_with (at_builtin;refine stop ?_)
    unfold Stop
    have HR1:=hid (row_reads_at W8 _ rfl [.int .u64 (o:Int), .int .u64 (v:Int)] 1 2 114 _ rfl rfl)
    refine wpList_app _ (.tmp 41) (.tmp 43) 108 rfl rfl w5.heap.size 114 i0 _ 2 16 Tryz.underlying108 hi0 hz0 hz1 hz2 rfl (by omega) (.slice A1 q c1) q (wrCells (flW cur (us.take k))) rfl (HOd.out.alloc _) (W8.heap.size+1) (some ⟨W8.heap.size,0,none⟩) 1 1 [.int .u64 (o:Int), .int .u64 (v:Int)] rfl HR1.out (u64s_one _ _) (by unfold maxLen;omega) (by omega) (by have:=HLE.out;simp;omega) ?_
    intro A3 n3 c3 w8 hn3 ho3 hg3 hb3
    have HO4:Hid (w8.ownsRow w5.heap.size 114 2 (.slice A3 n3 c3) n3 (wrCells (flW cur (us.take (k+1))))):=hid (by rw [HTS.out,wrCells_snoc];exact ho3)
    have HB3:=hid ((HBd.out.alloc HBd.out.size _).trans hb3)
    have b1:n3≤q+1:=by omega
    have b2:q+1≤n3:=by omega
    have HL3:Hid (q+1=(flW cur (us.take (k+1))).length):=hid (by rw [HTS.out,List.length_append,← HLn.out];simp)
    have HN3:Hid (n3=q+1):=hid (by omega)
    clear hn3 ho3 hg3 hb3
    go_wp2_with fail
    go_roundw
    case rel =>
     first
      | exact ⟨k+1,_,_,_,by omega,by go_num,rfl,by omega,hid (HN3.out.trans HL3.out),HO4,HB3⟩
      | (
        repeat apply Exists.intro
        refine ⟨?_,rfl⟩
        exact ⟨k+1,_,_,_,by omega,by go_num,rfl,by omega,hid (HN3.out.trans HL3.out),HO4,HB3⟩)
    case measure=>simp [Go.RowKit.intOf];omega
  ·obtain rfl:k=33:=by omega
   have HT:=HLn.out
   have h0:=HO.out
   rw [List.take_of_length_le (by rw [HUl.out];exact Nat.le_refl _)] at HT h0
   have HB6:=hid (HB5.out.trans (H2.out.mono HBw.out))
   have HPc:=hid (HPb.out wr A1 q c1 HB6.out (Reads.of_own h0) (own_none h0))
   clear hlt HT h0
   go_wp2_with (first
    | (go_at_call 54;refine HPc.out.mono ?_;rintro e w6 h6;have HP6:=hid h6;obtain ⟨cm,S',rfl,q1,q2,q3,q4⟩:=h6;have HE6:=hid (HEr.out w6 _ _ _ q2);clear q1 q2 q3 q4)
    | (go_at_call 432;refine HE6.out.mono ?_;rintro e w7 ⟨rfl,rfl⟩))
   go_ret
   obtain ⟨cm,S',q0,q1,q2,q3,q4⟩:=HP6.out
   exact ⟨cm,S',rfl,q1,q2,q3,q4⟩
end
end
section
open Go.RowKit Go.Maps
section
variable {a:DA} {L T n K:Nat} {x:HA} {cs cs2:Nat→CS} {f f2:Nat→Option Nat} {N m b0:Nat} {S:Fp} {cur cur2:Nat→Nat} {w:World} {ks keep free:List Nat} {V:Nat→Nat} {cm d r:Nat}
theorem sfp_new (h:SD a L T 53 n K x cs f N m b0 S cur w d r):¬ sfp S x w.heap.size:=by
 rintro (e | e)
 ·exact Nat.lt_irrefl _ (h.ds.dev.lt _ e)
 ·have h1:=h.lo
  have h2:=h1.pl
  have h3:=h1.mr
  have h4:=h1.mh
  have e':w.heap.size=x.pl∨w.heap.size=x.mr∨w.heap.size=x.mh:=e
  omega
variable {y:WA}
end
end
section
open Go.RowKit Go.Maps
structure VV where
 st:Nat
 dl:Bool
 q:Nat
 bl:List Nat
 p:List Nat
section
variable {K:Nat} {cs cs':Nat→CS} {cur cur':Nat→Nat} {v:VV} {older:Nat}
end
section
variable {a:DA} {L T n K:Nat} {x:HA} {cs0 cs cs' cs2:Nat→CS} {f0 f f2:Nat→Option Nat} {N m b0:Nat} {S:Fp} {cur0 cur cur' cur2:Nat→Nat} {w:World} {al p bl ks:List Nat} {V:Nat→Nat} {cm i:Nat}
theorem pub_words (hd:DS a L T 53 n K x cs2 f2 N m b0 S cur2 w) {v q kind c:Nat} {l:List Nat} (hA:AOk 53 K cs2 ks (tlOf 53 cs2 bl) (dlOf 53 cs2 []) V) (hks:∀ k,k∈ks↔k < K∧(tlOf 53 cs2 bl k≠[]∨dlOf 53 cs2 [] k≠[]))
  (h96:([(3328+8 * i,v)]++ks.flatMap (acW 53 cs2 (tlOf 53 cs2 bl) (dlOf 53 cs2 []) V)).length≤96) (hi:i < 8) (hr:Rq 53 K cs2 f2 kind q c) (hq:q∈bl) (h128:kind < 128) (hl:l.length≤payW c) (hw:WordsAt cur2 q l) :
  (∃ k i2,LiveA 53 K (acC cs2 ks (tlOf 53 cs2 bl) (dlOf 53 cs2 []) V) q kind k i2∧(acC cs2 ks (tlOf 53 cs2 bl) (dlOf 53 cs2 []) V k).cl=c)∧WordsAt (rdG 0 cur2 ([(3328+8 * i,v)]++ks.flatMap (acW 53 cs2 (tlOf 53 cs2 bl) (dlOf 53 cs2 []) V)) cm) q l:=by
 obtain ⟨k,i2,h1,h2,h3⟩:=pub_keep hA hks hr hq h128
 obtain ⟨_,e2,_⟩:=acC_dv cs2 ks (tlOf 53 cs2 bl) (dlOf 53 cs2 []) V k
 refine ⟨⟨k,i2,h1,by rw [e2,h2]⟩,fun y hy=>?_⟩
 have h5:=hw y hy
 have hln:=h3.lines.1
 rw [hln] at h5 ⊢
 refine (pub_pay hd (by omega) hA h96 h3.1 h3.2.1 h3.2.2.1 (by rw [h2];omega) (fun e he=>?_)).trans h5
 simp at he
 subst he
 show (3328+8 * i) / 8≠_
 omega
theorem pub_link (hd:DS a L T 53 n K x cs2 f2 N m b0 S cur2 w) {v:Nat} (hA:AOk 53 K cs2 ks (tlOf 53 cs2 bl) (dlOf 53 cs2 []) V) (hi:i < 8) (hv:v < 18446744073709551616):rdG 0 cur2 ([(3328+8 * i,v)]++ks.flatMap (acW 53 cs2 (tlOf 53 cs2 bl) (dlOf 53 cs2 []) V)) cm (416+i)=v:=by
 have hu:=link_ok hd i v hi hv
 have h:=rdG_get (cur:=cur2) (cm:=cm) (pub_off hd (by omega) hu hA) (pub_nodup hu hA) (e:=(3328+8 * i,v)) (by simp)
 have e:(3328+8 * i) / 8=416+i:=by omega
 rw [← e]
 exact h
end
end
section
open Go.RowKit Go.Maps
theorem linked_any {a:DA} {L T K:Nat} {x:HA} {y:WA} {cs:Nat→CS} {f:Nat→Option Nat} {N m b0:Nat} {S:Fp} {cur:Nat→Nat} {w:World} (h:BW a L T K x y cs f N m b0 S cur w) (i:Nat) (hi:i < 8) :
  Calls Tryz.prog 33 #[.pointer (some ⟨y.g,0,none⟩), .int .i64 (i:Int)] w fun e w'=>e = .returned (.int .u64 (cur (416+i):Int))∧w'=w.drew:=by
 have HLk:=hid (linkB_any i hi)
 have hL:=h.size
 have HLd:Hid (∀ W,W=w.drew→Calls Tryz.prog 65 #[.pointer (some ⟨a.th 0,0,none⟩), .int .u64 ((3328+8 * i:Nat):Int)] W (fun e w'=>e = .returned (.int .u64 (cur (416+i):Int))∧W=w')):=hid (fun W hW=>by
  subst hW
  exact load_at h.sd.ds.dev (3328+8 * i) _ (by omega) (by omega) (by congr 1;omega) _ (Below.refl _ _).drew)
 have g1:w.cell? ⟨y.g,1,none⟩=some (.pointer (some ⟨a.th 0,0,none⟩)):=h.blk.cell 1
 generalize 3328+8 * i=O at *
 generalize cur (416+i)=V at *
 clear h
 go_enter Tryz.func33,Tryz.ntmps33
 go_upto_region 1 with fail
 refine wp_region_scriptH (fun w'=>w'.cell? ⟨y.g,1,none⟩=some (.pointer (some ⟨a.th 0,0,none⟩))) 8 [] [(1,0),(1,1),(1,2),(1,3),(1,4),(0,5),(0,6),(1,7)] (by kernel_rfl) (by kernel_rfl) g1 ?_
 refine wpScriptH_take (.pointer (some ⟨y.g,0,none⟩)) (by rfl) (by rfl) (fun w' hS=>?_) ?_
 ·go_simp
 simp only [zA,zB,Act.put,zD,zE,zF]
 refine wpScriptH_take (.pointer (some ⟨y.g,0,none⟩)) (by rfl) (by rfl) (fun w' hS=>?_) ?_
 ·go_simp
 simp only [zA,zB,zC,Act.put,zD,zE,zF]
 refine wpScriptH_take (.pointer (some ⟨y.g,1,none⟩)) (by rfl) (by rfl) (fun w' hS=>?_) ?_
 ·go_simp
 simp only [zA,zB,zC,Act.put,zD,zE,zF]
 refine wpScriptH_take (.pointer (some ⟨a.th 0,0,none⟩)) (by rfl) (by rfl) (fun w' hS=>?_) ?_
 ·go_simp
 simp only [zA,zB,zC,Act.put,zD,zE,zF]
 refine wpScriptH_take (.int .i64 (i:Int)) (by rfl) (by rfl) (fun w' hS=>?_) ?_
 ·go_simp
 simp only [zA,zB,zC,Act.put,zD,zE,zF]
 refine wpScriptH_do (by rfl) ?_
 go_wp2_with (go_at_call 53;refine (HLk.out _).mono ?_;rintro e w1 ⟨rfl,rfl⟩)
 refine ⟨g1,?_⟩
 refine wpScriptH_do (by rfl) ?_
 go_wp2_with (go_at_call 65;refine (HLd.out _ rfl).mono ?_;rintro e w1 ⟨rfl,rfl⟩)
 refine ⟨g1,?_⟩
 refine wpScriptH_take (.int .u64 (V:Int)) (by rfl) (by rfl) (fun w' hS=>?_) ?_
 ·go_simp
 simp only [zA,zB,zC,Act.put,zD,zE,zF]
 show wpList _ _ _ _ _ _
 simp only [List.drop_succ_cons,List.drop_zero]
 refine NoPanic.normal ?_
 go_wp2_with fail
 go_ret
 exact ⟨rfl,rfl⟩
end
section
open Go.RowKit Go.Maps
def nxtR (p:Nat) (R:Option (Nat × List (List Nat × Nat)) × Nat):Nat × List (Nat × Nat):=match R.1 with
 | some q=>if q.1=4611686018427387903 then (0,[]) else (q.1+1,[(pOff p,q.1+1)])
 | none=>(0,[])
def RetNx (w:World) (Y:Nat × List (Nat × Nat)) (e:Ending) (w':World):Prop:=(match Y.2 with
 | []=>e = .returned (.tuple #[.int .u64 (Y.1:Int), .slice none 0 0])
 | u :: _=>∃ g:Nat,w.heap.size≤g∧e = .returned (.tuple #[.int .u64 (Y.1:Int), .slice (some ⟨g,0,none⟩) 1 1])∧Blk w' g 114 #[.int .u64 (u.1:Int), .int .u64 (u.2:Int)])∧Below w.heap.size w w'
section
variable {R:Option (Nat × List (List Nat × Nat)) × Nat} {rv sv:Value} {w:World}
theorem next_some (g p:Nat) (h:RdC (.pointer (some ⟨g,0,none⟩)) sv w R) (hok:RgOk R) (hg:Blk w g 265 #[.int .u64 (p:Int)]) (hs:R.1≠none) (hp:p≠0):Calls Tryz.prog 144 #[.pointer (some ⟨g,0,none⟩),sv] w (RetNx w (nxtR p R)):=by
 have H:=hid h
 clear h
 obtain ⟨R1,c⟩:=R
 rcases R1 with _ | ⟨st,l⟩
 ·exact absurd rfl hs
 ·have H2:Hid (Calls Tryz.prog 260 #[.pointer (some ⟨g,0,none⟩),sv] w fun e w'=>(∃ A m c,e = .returned (.tuple #[.int .u64 (st:Int), .slice A m c, .int .i64 0])∧m=l.length∧w'.ownsRow w.heap.size 368 2 (.slice A m c) m (itCells l))∧Below w.heap.size w w'):=H
  have hst:st≤4611686018427387903:=(hok.some_ (st,l) rfl).1
  have HA0:Hid (∀ W,Calls Tryz.prog 49 #[.int .u64 (p:Int), .int .i64 0] W fun e w'=>e = .returned (.int .u64 (pOff p:Int))∧W=w'):=hid (fun W=>by
   have h1:=at_any p 0 (by omega) W
   rw [show pAt p 0=pOff p by unfold pAt;rw [if_neg (by omega)];omega] at h1
   exact h1)
  have HG:Hid (∀ W,Below w.heap.size w W→W.cell? ⟨g,0,none⟩=some (.int .u64 (p:Int))):=hid (fun W hW=>(hg.below hW hg.lt).cell 0)
  have HY:Hid (nxtR p (some (st,l),c)=if st=4611686018427387903 then (0,[]) else (st+1,[(pOff p,st+1)])):=hid rfl
  generalize nxtR p (some (st,l),c)=Y at *
  generalize pOff p=o at *
  have hz:(st:Int)≤4611686018427387903:=by omega
  clear H hok hg hs
  go_enter Tryz.func144,Tryz.ntmps144
  go_upto_region 2 with (go_at_call 260;refine H2.out.mono ?_;rintro e w1 ⟨⟨A1,m1,c1,rfl,_,_⟩,hb1⟩;have HB1:=hid hb1;clear hb1)
  by_cases he:st=4611686018427387903
  ·rw [if_pos he] at HY
   have d1:((st:Int) == 4611686018427387903)=true:=beq_iff_eq.2 (by omega)
   go_wp2_with fail
   go_ret2
   rw [HY.out]
   exact ⟨rfl,HB1.out⟩
  ·rw [if_neg he] at HY
   have d1:((st:Int) == 4611686018427387903)=false:=beq_eq_false_iff_ne.2 (by omega)
   have g1:=HG.out w1 HB1.out
   go_upto_region 4 with fail
   have hw:IntKind.u64.wrap ((st:Int)+1)=(st:Int)+1:=by rw [IntKind.wrap_u64];omega
   go_wp2_with (go_at_call 49;refine (HA0.out _).mono ?_;rintro e w6 ⟨rfl,rfl⟩)
   go_ret2
   rw [HY.out]
   refine ⟨⟨w1.heap.size,HB1.out.size,rfl,?_⟩,HB1.out.alloc HB1.out.size _⟩
   exact Blk.new _ _ _
end
end
section
open Go.RowKit Go.Maps
theorem encN_val {l:List Nat} (hl:l.length≤16) (hb:∀ b∈l,b < 256):∀ v∈encN l,v < 18446744073709551616:=fun v hv=>by
 unfold encN at hv
 rcases List.mem_cons.1 hv with rfl | hv
 ·omega
 ·rcases List.mem_append.1 hv with hv | hv
  ·exact packW_lt hb v hv
  ·have:=List.eq_of_mem_replicate hv
   omega
theorem encA_val {l:List (List Nat × Nat)} (h8:l.length≤8) (h:∀ p∈l,p.1.length≤16∧(∀ b∈p.1,b < 256)∧p.2 < 18446744073709551616):∀ v∈encA l,v < 18446744073709551616:=fun v hv=>by
 unfold encA wrk at hv
 rcases List.mem_cons.1 hv with rfl | hv
 ·omega
 ·rcases List.mem_append.1 hv with hv | hv
  ·rw [List.take_of_length_le (Nat.le_refl _)] at hv
   obtain ⟨p,hp,hv⟩:=List.mem_flatMap.1 hv
   obtain ⟨h1,h2,h3⟩:=h p hp
   unfold encP at hv
   rcases List.mem_append.1 hv with hv | hv
   ·exact encN_val h1 h2 v hv
   ·have:=List.mem_singleton.1 hv
    omega
  ·have:=List.eq_of_mem_replicate hv
   omega
theorem itCells_set:∀ (l:List (List Nat × Nat)) (k:Nat) (p:List Nat × Nat),k < l.length→((itCells l).set (k * 2) (.string (strN p.1))).set (k * 2+1) (.int .u64 (p.2:Int))=itCells (l.set k p)
 | x :: l,0,p,_=>rfl
 | x :: l,k+1,p,h=>by
  have ih:=itCells_set l k p (by simpa using h)
  have e:itCells (x :: l) = .string (strN x.1) :: .int .u64 (x.2:Int) :: itCells l:=rfl
  rw [e,show (k+1) * 2=k * 2+1+1 by omega]
  simp only [List.set_cons_succ]
  rw [ih]
  rfl
def dropL (s:ByteArray) (l:List (List Nat × Nat)):List (List Nat × Nat):=(l.set (fndS s 0 l).toNat (l.getD (l.length - 1) ([],0))).take (l.length - 1)
def drpR (s:ByteArray) (R:Option (Nat × List (List Nat × Nat)) × Nat):Nat × List (List Nat × Nat):=match R.1 with
 | some q=>if fndS s 0 q.2 < 0 then (5,[]) else (0,dropL s q.2)
 | none=>(R.2,[])
theorem dropL_mem {s:ByteArray} {l:List (List Nat × Nat)} (h:0 < l.length):∀ p∈dropL s l,p∈l:=fun p hp=>by
 unfold dropL at hp
 rcases List.mem_or_eq_of_mem_set (List.mem_of_mem_take hp) with h1 | h1
 ·exact h1
 ·rw [h1,List.getD_eq_getElem?_getD,List.getElem?_eq_getElem (by omega)]
  exact List.getElem_mem _
structure PayOk (L s K:Nat) (cs:Nat→CS) (p:Nat):Prop where
 ne:p≠0
 al:pOff p % 8=0
 inl:pOff p+272≤64 * L
 le:pOff p≤900000
 uok:∀ xs:List Nat,(∀ v∈xs,v < 18446744073709551616)→UOk L 0 s K cs (plOf (pOff p+8) xs)
section
variable {R:Option (Nat × List (List Nat × Nat)) × Nat} {rv sv:Value} {w:World}
theorem drop_err (h:RdC rv sv w R) (hok:RgOk R) (s:ByteArray) (he:(drpR s R).1≠0):Calls Tryz.prog 152 #[rv,sv, .string s] w fun e w'=>e = .returned (.int .i64 ((drpR s R).1:Int))∧Below w.heap.size w w':=by
 have H:=hid h
 clear h
 obtain ⟨R1,c⟩:=R
 rcases R1 with _ | ⟨st,l⟩
 ·have H2:Hid (Calls Tryz.prog 260 #[rv,sv] w fun e w'=>e = .returned (.tuple #[.int .u64 0, .slice none 0 0, .int .i64 (c:Int)])∧Below w.heap.size w w'):=H
  have hc:c≠0:=hok.none_ rfl
  have d0:((c:Int) != 0)=true:=by rw [bne,beq_eq_false_iff_ne.2 (by omega)];rfl
  clear H hok hc he
  go_enter Tryz.func152,Tryz.ntmps152
  go_wp2_with (go_at_call 260;refine H2.out.mono ?_;rintro e w1 ⟨rfl,hb1⟩;have HB1:=hid hb1;clear hb1)
  go_ret
  exact ⟨rfl,HB1.out⟩
 ·have H2:Hid (Calls Tryz.prog 260 #[rv,sv] w fun e w'=>(∃ A m c,e = .returned (.tuple #[.int .u64 (st:Int), .slice A m c, .int .i64 0])∧m=l.length∧w'.ownsRow w.heap.size 368 2 (.slice A m c) m (itCells l))∧Below w.heap.size w w'):=H
  have hl8:=(hok.some_ (st,l) rfl).2.1
  have HL8:Hid (l.length≤8):=hid hl8
  have hf:fndS s 0 l < 0:=by
   have h1:(if fndS s 0 l < 0 then (5,[]) else (0,dropL s l)).1≠0:=he
   by_cases h2:fndS s 0 l < 0
   ·exact h2
   ·rw [if_neg h2] at h1
    exact absurd rfl h1
  have HY:Hid (drpR s (some (st,l),c)=(5,[])):=hid (show (if fndS s 0 l < 0 then (5,[]) else (0,dropL s l))=_ by rw [if_pos hf])
  generalize drpR s (some (st,l),c)=Y at *
  have HFn:=hid (fun (A:Option Addr) (n c':Nat) (W:World) (hr:Reads W W.heap.size 2 A n (itCells l)) (hn:n≤100000)=>findS_any A n c' l s W hr hn)
  generalize fndS s 0 l=fi at *
  clear H hok hl8 he
  go_enter Tryz.func152,Tryz.ntmps152
  go_wp2_with (first
   | (go_at_call 260;refine H2.out.mono ?_;rintro e w1 ⟨⟨A1,m1,c1,rfl,hm1,ho1⟩,hb1⟩;have HB1:=hid hb1;have HM1:=hid hm1;have HO1:=hid ho1;clear hb1 hm1 ho1)
   | (go_at_call 262;refine (HFn.out A1 m1 c1 w1 (Reads.of_own HO1.out) (by rw [HM1.out];have:=HL8.out;omega)).mono ?_;rintro e w2 ⟨rfl,hb2⟩;have HB2:=hid (HB1.out.trans (hb2.mono HB1.out.size));clear hb2))
  go_ret
  rw [HY.out]
  exact ⟨rfl,HB2.out⟩
end
section
variable {a:DA} {L T s n K:Nat} {x:HA} {cs:Nat→CS} {f:Nat→Option Nat} {N m b0:Nat} {S:Fp} {cur:Nat→Nat} {w w':World} {d r:Nat}
theorem drop_ok (h:SD a L T s n K x cs f N m b0 S cur w d r) (hK12:K≤12) (g p:Nat) (hg:Blk w g 265 #[.int .u64 (p:Int)]) (hP:PayOk L s K cs p) (st:Nat) (l:List (List Nat × Nat)) (hrd:RdC (.pointer (some ⟨g,0,none⟩)) (.iface 59 (.pointer (some ⟨d,0,none⟩))) w (some (st,l),0)) (hok:RgOk (some (st,l),0)) (nm:ByteArray) (hf:¬ fndS nm 0 l < 0) (hT:T+800≤1000000000) (hN:N≤1000000000) :
  Calls Tryz.prog 152 #[.pointer (some ⟨g,0,none⟩), .iface 59 (.pointer (some ⟨d,0,none⟩)), .string nm] w (RetPw a L T s n K x cs f N m b0 S cur w d r (flW cur (plOf (pOff p+8) (encA (dropL nm l))))):=by
 have H2:Hid (Calls Tryz.prog 260 #[.pointer (some ⟨g,0,none⟩), .iface 59 (.pointer (some ⟨d,0,none⟩))] w fun e w'=>(∃ A m c,e = .returned (.tuple #[.int .u64 (st:Int), .slice A m c, .int .i64 0])∧m=l.length∧w'.ownsRow w.heap.size 368 2 (.slice A m c) m (itCells l))∧Below w.heap.size w w'):=hid hrd
 obtain ⟨hst,hl8,hlm,_⟩:=hok.some_ (st,l) rfl
 have hl8':l.length≤8:=hl8
 have hge:=(fndS_ge nm 0 l).2.1
 obtain ⟨i,hi⟩:∃ i:Nat,fndS nm 0 l=(i:Int):=⟨(fndS nm 0 l).toNat,by omega⟩
 have hil:i < l.length:=by omega
 have hlast:l.length - 1 < l.length:=Nat.sub_lt (Nat.lt_of_le_of_lt (Nat.zero_le _) hil) Nat.one_pos
 have HFn:=hid (fun (A:Option Addr) (n c':Nat) (W:World) (hr:Reads W W.heap.size 2 A n (itCells l)) (hn:n≤100000)=>findS_any A n c' l nm W hr hn)
 have HD:Hid (dropL nm l=(l.set i (l[l.length - 1]'hlast)).take (l.length - 1)):=hid (by
  unfold dropL
  rw [hi,Int.toNat_natCast,List.getD_eq_getElem?_getD,List.getElem?_eq_getElem hlast]
  rfl)
 have hDm:∀ p∈dropL nm l,p.1.length≤16∧(∀ b∈p.1,b < 256)∧p.2 < 18446744073709551616:=fun p hp=>by
  obtain ⟨q1,q2,q3⟩:=hlm p (dropL_mem (s:=nm) (l:=l) (Nat.lt_of_le_of_lt (Nat.zero_le _) hil) p hp)
  have:p.2≤st:=q3
  have:st≤4611686018427387903:=hst
  exact ⟨q1,q2,by omega⟩
 have hDl:(dropL nm l).length≤8:=by
  rw [HD.out,List.length_take,List.length_set]
  omega
 have HPb:Hid (∀ (W:World) (A:Option Addr) (k0 c0:Nat),Below w.heap.size w W→Reads W W.heap.size 2 A k0 (itCells (dropL nm l))→k0≤8→Calls Tryz.prog 263 #[.pointer (some ⟨g,0,none⟩), .iface 59 (.pointer (some ⟨d,0,none⟩)), .slice A k0 c0] W (RetPw a L T s n K x cs f N m b0 S cur w d r (flW cur (plOf (pOff p+8) (encA (dropL nm l)))))):=hid (fun W A k0 c0 hW hr hk0=>by
  have h1:=rpub_any (h.below hW) hK12 g p (hg.below hW hg.lt) hP.ne hP.al hP.inl hP.le A k0 c0 (dropL nm l) hr hk0 (fun p hp=>⟨(hDm p hp).1,(hDm p hp).2.1⟩) (hP.uok _ (encA_val hDl hDm)) hT hN
  refine h1.mono (fun e w' h=>?_)
  obtain ⟨cm,S',q0,q1,q2,q3,q4⟩:=h
  exact ⟨cm,S',q0,q1,q2,(Chg.of_below hW).trans q3 (fun j hj => .inl hj),fun k hk=>(q4 k hk).imp id (fun h=>Nat.le_trans hW.size h)⟩)
 generalize flW cur (plOf (pOff p+8) (encA (dropL nm l)))=us at *
 rw [hi] at HFn
 have HL8:=hid (And.intro hil hl8')
 clear h hg hrd hok hst hl8 hl8' hlm hge hi hf hDm hDl hP
 go_enter Tryz.func152,Tryz.ntmps152
 have hz5:(0:Int)≤(i:Int):=by omega
 go_upto_region 7 with (first
  | (go_at_call 260;refine H2.out.mono ?_;rintro e w1 ⟨⟨A1,m1,c1,rfl,hm1,ho1⟩,hb1⟩;have HB1:=hid hb1;have HM1:=hid hm1;have HO1:=hid ho1;clear hb1 hm1 ho1)
  | (go_at_call 262;refine (HFn.out A1 m1 c1 w1 (Reads.of_own HO1.out) (by rw [HM1.out];have:=HL8.out;omega)).mono ?_;rintro e w2 ⟨rfl,hb2⟩;have HB2:=hid (HB1.out.trans (hb2.mono HB1.out.size));have HO2:=hid (own_below HO1.out hb2);clear hb2))
 have hHL:=HL8.out
 have hHM:=HM1.out
 obtain ⟨j,rfl⟩:∃ j,m1=j+1:=⟨m1 - 1,by omega⟩
 obtain ⟨_,gb,go,hA3,_,f0,f1⟩:=it_facts (Reads.of_own HO2.out) (k:=i) (by omega)
 subst hA3
 obtain ⟨hjl,gb2,go2,hA4,_,f2,f3⟩:=it_facts (Reads.of_own HO2.out) (k:=j) (by omega)
 cases hA4
 obtain ⟨hgo,hgb⟩:go=0∧w.heap.size≤gb:=by
  rcases HO2.out.2 with ⟨h1,_⟩ | ⟨_,_,_,h1,h2,_⟩
  ·cases h1
  ·cases h1
   exact ⟨rfl,h2⟩
 subst hgo
 rw [Nat.zero_add] at f0 f1 f2 f3
 have HD2:Hid (dropL nm l=(l.set i l[j]).take j):=hid (by
  rw [HD.out]
  have e:l.length - 1=j:=by omega
  simp only [e])
 generalize l[j]=q at *
 have HO3:Hid (((w2.setCell ⟨gb,i * 2,none⟩ (.string (strN q.1))).setCell ⟨gb,i * 2+1,none⟩ (.int .u64 (q.2:Int))).ownsRow w.heap.size 368 2 (.slice (some ⟨gb,0,none⟩) (j+1) c1) (j+1) (itCells (l.set i q))):=hid (by
  have h1:=((HO2.out.stored (i * 2) (.string (strN q.1))).1.stored (i * 2+1) (.int .u64 (q.2:Int))).1
  rw [itCells_set l i q hHL.1] at h1
  exact h1)
 have HB3:Hid (Below w.heap.size w ((w2.setCell ⟨gb,i * 2,none⟩ (.string (strN q.1))).setCell ⟨gb,i * 2+1,none⟩ (.int .u64 (q.2:Int)))):=hid ((HB2.out.setCell (p:=⟨gb,i * 2,none⟩) hgb _).setCell (p:=⟨gb,i * 2+1,none⟩) hgb _)
 have z0:w2.frozen? ⟨gb,i * 2,none⟩=false:=HO2.out.frozenAt _
 have z1:w2.frozen? ⟨gb,i * 2+1,none⟩=false:=HO2.out.frozenAt _
 have hz6:(i:Int) < (j:Int)+1:=by omega
 have hz7:(0:Int)≤(j:Int):=by omega
 have hz8:(j:Int)≤7:=by omega
 have hz9:(j:Int)+1≤(c1:Int):=by have:=(own_cap HO2.out).1;omega
 generalize l[i]=u0 at *
 have HJ:=hid (And.intro hHL hHM)
 clear HD hHL hHM hgb hlast
 go_upto_region 8 with fail
 generalize (w2.setCell ⟨gb,i * 2,none⟩ (.string (strN q.1))).setCell ⟨gb,i * 2+1,none⟩ (.int .u64 (q.2:Int))=w3 at *
 have HPc:=hid (HPb.out w3 (some ⟨gb,0,none⟩) j c1 HB3.out (by
  have h1:=Reads.of_own (own_cut HO3.out (m:=j) (by omega))
  rw [itCells_take _ _ (by rw [List.length_set];have:=HJ.out;omega),← HD2.out] at h1
  exact h1) (by omega))
 clear f0 f1 f2 f3 z0 z1 HPb hz5 hz6
 have hza:(j:Int)≤(c1:Int):=by omega
 go_wp2_with (go_at_call 263;refine HPc.out.mono ?_;rintro e w4 h4;have HP4:=hid h4;obtain ⟨cm,S',rfl,q1,q2,q3,q4⟩:=h4;clear q1 q2 q3 q4)
 go_ret
 obtain ⟨cm,S',q0,q1,q2,q3,q4⟩:=HP4.out
 exact ⟨cm,S',rfl,q1,q2,q3,q4⟩
end
end
section
open Go.RowKit Go.Maps
theorem allZ_rep (n:Nat):allZ (List.replicate n 0)=true:=by
 unfold allZ
 rw [List.all_eq_true]
 intro x hx
 rw [List.eq_of_mem_replicate hx]
 rfl
theorem decN_enc {l:List Nat} (hl:l.length≤16) (hb:∀ b∈l,b < 256):decN (encN l)=some l:=by
 have h1:=packW_len l
 have e1:(encN l).headD 0=l.length:=rfl
 have e2:((encN l).drop 1).take ((l.length+7) / 8)=packW l:=by
  show (packW l++List.replicate (2 - (packW l).length) 0).take ((l.length+7) / 8)=packW l
  rw [← h1,List.take_left' rfl]
 have e3:(encN l).drop (1+(l.length+7) / 8)=List.replicate (2 - (packW l).length) 0:=by
  rw [Nat.add_comm 1]
  show (packW l++List.replicate (2 - (packW l).length) 0).drop ((l.length+7) / 8)=_
  rw [← h1,List.drop_left' rfl]
 unfold decN
 rw [e1,if_neg (by omega),e2,unpBad_pack hb,if_neg (by decide),e3,allZ_rep,if_pos rfl,unpB_pack hb]
theorem decP_enc {p:List Nat × Nat} (hl:p.1.length≤16) (hb:∀ b∈p.1,b < 256):decP (encP p)=some p:=by
 have h3:=encN_len hl
 unfold decP encP
 rw [List.take_left' h3,decN_enc hl hb]
 have e:(encN p.1++[p.2]).getD 3 0=p.2:=by
  rw [List.getD_eq_getElem?_getD,List.getElem?_append_right (by omega),h3]
  rfl
 rw [e]
 rfl
theorem decL_enc:∀ (l:List (List Nat × Nat)) (ys:List Nat),(∀ p∈l,p.1.length≤16∧∀ b∈p.1,b < 256)→decL l.length (l.flatMap encP++ys)=some l
 | [],_,_=>rfl
 | p :: t,ys,h=>by
  have h4:=encP_len (h p (by simp)).1
  have ih:=decL_enc t ys (fun q hq=>h q (by simp [hq]))
  rw [List.length_cons,decL]
  rw [List.flatMap_cons,List.append_assoc,List.take_left' h4,List.drop_left' h4,decP_enc (h p (by simp)).1 (h p (by simp)).2,ih]
  rfl
theorem decA_enc {l:List (List Nat × Nat)} (h8:l.length≤8) (h:∀ p∈l,p.1.length≤16∧∀ b∈p.1,b < 256):decA (encA l)=some l:=by
 have hf:=flat_len (l:=l) (fun p hp=>(h p hp).1)
 have ee:encA l=l.length :: (l.flatMap encP++List.replicate (32 - 4 * l.length) 0):=by
  unfold encA wrk
  rw [List.take_of_length_le (Nat.le_refl _)]
 have e1:(encA l).headD 0=l.length:=by rw [ee];rfl
 have e2:(encA l).drop (1+l.length * 4)=List.replicate (32 - 4 * l.length) 0:=by
  rw [ee,Nat.add_comm 1,List.drop_succ_cons,List.drop_left' (by omega)]
 unfold decA
 rw [e1,if_neg (by omega),e2,allZ_rep,if_neg (by decide),ee]
 exact decL_enc l _ h
theorem encA_len {l:List (List Nat × Nat)} (h8:l.length≤8) (h:∀ p∈l,p.1.length≤16):(encA l).length=33:=wrk_len h (Nat.le_refl _) h8
section
variable {L s K:Nat} {cs:Nat→CS} {off cm:Nat} {xs:List Nat} {cur:Nat→Nat}
theorem plOf_mem {e:Nat × Nat}:e∈plOf off xs↔∃ j,j < 33∧e=(off+8 * j,xs.getD j 0):=by
 unfold plOf
 rw [List.mem_map]
 constructor
 ·rintro ⟨j,hj,rfl⟩
  exact ⟨j,List.mem_range.1 hj,rfl⟩
 ·rintro ⟨j,hj,rfl⟩
  exact ⟨j,List.mem_range.2 hj,rfl⟩
theorem flW_few:(flW cur (plOf off xs)).length≤96:=by
 have h1:=flW_len cur (plOf off xs)
 rw [plOf_len] at h1
 omega
theorem plOf_cur (hu:UOk L 0 s K cs (plOf off xs)) (h8:off % 8=0) {j:Nat} (hj:j < 33):rdG 0 cur (flW cur (plOf off xs)) cm (off / 8+j)=xs.getD j 0:=by
 have hf:=hu.filter (fun u=>decide (cur (u.1 / 8)≠u.2))
 have he:(off+8 * j,xs.getD j 0)∈plOf off xs:=plOf_mem.2 ⟨j,hj,rfl⟩
 have hi:(off+8 * j) / 8=off / 8+j:=by omega
 by_cases hc:cur ((off+8 * j) / 8)=xs.getD j 0
 ·have ho:=(hu.off _ he).out
  have ho':off+8 * j < 64 * 0∨64 * 0+64 * 26≤off+8 * j:=ho
  rw [rdG_rest flW_few (.inr (by omega)) (fun e' he' heq=>?_),← hi,hc]
  obtain ⟨h1,h2⟩:=List.mem_filter.1 he'
  obtain ⟨j',hj',rfl⟩:=plOf_mem.1 h1
  have heq':(off+8 * j') / 8=off / 8+j:=heq
  have hjj:j'=j:=by omega
  subst hjj
  exact of_decide_eq_true h2 hc
 ·have hm:(off+8 * j,xs.getD j 0)∈flW cur (plOf off xs):=List.mem_filter.2 ⟨he,decide_eq_true hc⟩
  rw [← hi]
  exact rdG_get (e:=(off+8 * j,xs.getD j 0)) hf.off hf.nd hm
theorem plOf_far (h8:off % 8=0) {i:Nat} (hi:208≤i) (ho:i < off / 8∨off / 8+33≤i):rdG 0 cur (flW cur (plOf off xs)) cm i=cur i:=by
 refine rdG_rest flW_few (.inr (by omega)) (fun e he heq=>?_)
 obtain ⟨j,hj,rfl⟩:=plOf_mem.1 (List.mem_filter.1 he).1
 have heq':(off+8 * j) / 8=i:=heq
 omega
end
end
end Go.Proofs.YtfkjjoglnmeciaaGreatDoor
