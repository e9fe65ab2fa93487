/- The walks and laws that the claim leans on, part 37. -/
import Derived.Test.YtfkjjoglnmeciaaGreatDoorJbj
set_option maxRecDepth 100000
set_option maxHeartbeats 16000000
namespace Go.Proofs.YtfkjjoglnmeciaaGreatDoor
open Go.Lib (hid)
section
open Go.RowKit Go.Maps
section
variable {a:DA} {L T s n K:Nat} {x:HA} {cs:Nat→CS} {f:Nat→Option Nat} {N m b0:Nat} {S:Fp} {cur:Nat→Nat} {w w':World}
theorem hActions_any (h:DS a L T s n K x cs f N m b0 S cur w) (hK12:K≤12) (A1 A2:Option Addr) (n1 c1 n2 c2:Nat) (keep free:List Nat) (h1:Reads w w.heap.size 1 A1 n1 (uCells keep)) (h2:Reads w w.heap.size 1 A2 n2 (uCells free)) (hk:∀ p∈keep,KeepOk s K cs f p) (hfr:∀ p∈free,FreeOk s K cs p) (hn:((keep++free).map pOff).Nodup) (hn1:n1≤60) (hn2:n2≤60) :
  Calls Tryz.prog 122 #[.pointer (some ⟨x.h,0,none⟩), .slice A1 n1 c1, .slice A2 n2 c2] w (RetActs w s K cs keep free):=by
 have hba:Below w.heap.size w (w.alloc (.cells #[.slice A1 n1 c1, .slice A2 n2 c2] 40)):=(Below.refl _ _).alloc (Nat.le_refl _) _
 have HDi:=hid (distinct_any A1 A2 n1 c1 n2 c2 keep free _ _ (Blk.new w 40 #[.slice A1 n1 c1, .slice A2 n2 c2]) ((h1.below hba).more hba.size) ((h2.below hba).more hba.size) (nodup_of_map hn) (fun p hp=>by
  rcases List.mem_append.1 hp with hp | hp
  ·exact (hk p hp).nz
  ·exact (hfr p hp).nz) (by omega) (by omega))
 have HEr:Hid (∀ W,Below w.heap.size w W→Calls Tryz.prog 112 #[.pointer (some ⟨a.th 0,0,none⟩)] W fun e w'=>e = .returned (.int .i64 0)∧W=w'):=hid (fun W hW=>thErr (h.dev.below hW))
 have HHo:Hid (∀ p∈keep,∀ W,Below w.heap.size w W→Calls Tryz.prog 235 #[.pointer (some ⟨x.h,0,none⟩), .int .u64 (p:Int)] W fun e w'=>e = .returned (.bool true)∧Below W.heap.size W w'):=hid (fun p hp W hW=>by
  have h3:=holds_any (h.hs.below hW) p
  rw [decide_eq_true (hk p hp).res] at h3
  exact h3)
 have HCk:Hid (∀ p∈free,∀ W,Below w.heap.size w W→Calls Tryz.prog 96 #[.pointer (some ⟨x.h,0,none⟩), .int .u64 (p:Int), .int .u8 0] W fun e w'=>e = .returned (.int .i64 0)∧Below W.heap.size W w'):=hid (fun p hp W hW=>by
  have h3:=check_any (h.below hW) p 0 (hfr p hp).nz.2 (by omega)
  rw [(hfr p hp).chk] at h3
  exact h3)
 have HD:=hid h
 have HB0:=hid hba
 have HR1:=hid h1
 have HR2:=hid h2
 have HKp:=hid hk
 have HFp:=hid hfr
 have HNd:=hid hn
 have hm:=methErr (some ⟨a.th 0,0,none⟩)
 have hmm:∀ W,(Instr.makeMap 335 none).run Tryz.prog W = .ok (.map (some W.heap.size)) (W.alloc (.map #[] 0)):=fun _=>rfl
 clear h h1 h2 hk hfr hn hba
 go_enter Tryz.func122,Tryz.ntmps122
 go_wp2_with (go_at_call 234;refine HDi.out.mono ?_;rintro e W1 ⟨rfl,hb1⟩;refine stop ?_)
 unfold Stop
 have HB1:=hid (HB0.out.trans (hb1.mono HB0.out.size))
 have hx0:W1.cell? ⟨x.h,0,none⟩=some (.iface 58 (.pointer (some ⟨a.th 0,0,none⟩))):=(HD.out.hs.heap.below HB1.out HD.out.hs.heap.lt).cell 0
 clear hb1 HDi HB0
 go_wp2_with (go_at_call 112;refine (HEr.out _ HB1.out).mono ?_;rintro e W2 ⟨rfl,rfl⟩)
 clear hx0
 go_loopw [52] (fun i wr=>∃ (k:Nat),k≤n1∧i = .int .i64 k∧Hid (Below w.heap.size w wr)) (fun i _=>n1 - (Go.RowKit.intOf i).toNat)
 case atStart=>exact ⟨0,Nat.zero_le _,rfl,HB1⟩
 case round =>
  clear HB1
  obtain ⟨k,hk,rfl,H⟩:=hrel
  by_cases hlt:k < n1
  ·obtain ⟨hl,b,off,hA,hbB,f0⟩:=p_facts (HR1.out.below H.out) hlt
   subst hA
   have HH:=hid (HHo.out _ (List.getElem_mem hl) wr H.out)
   generalize keep[k]=p at *
   have hz5:(0:Int)≤(k:Int):=by omega
   have hz6:(k:Int) < (n1:Int):=by omega
   go_wp2_with (go_at_call 235;refine HH.out.mono ?_;rintro e w3 ⟨rfl,hb3⟩;have HB3:=hid (H.out.trans (hb3.mono H.out.size));clear hb3)
   go_roundw
   case rel =>
    first
     | exact ⟨k+1,by omega,by go_num,HB3⟩
     | (
       repeat apply Exists.intro
       refine ⟨?_,rfl⟩
       exact ⟨k+1,by omega,by go_num,HB3⟩)
   case measure=>simp [Go.RowKit.intOf];omega
  ·have HB2:=hid H.out
   have hd1:decide ((k:Int) < (n1:Int))=false:=decide_eq_false (by omega)
   have hd2:decide (k < n1)=false:=decide_eq_false hlt
   clear H hk hlt HHo
   go_wp2
   clear hd1 hd2
   go_loopw [63] (fun i wr=>∃ (k:Nat),k≤n2∧i = .int .i64 k∧Hid (Below w.heap.size w wr)) (fun i _=>n2 - (Go.RowKit.intOf i).toNat)
   case atStart=>exact ⟨0,Nat.zero_le _,rfl,HB2⟩
   case round =>
    clear HB2
    obtain ⟨k2,hk,rfl,H⟩:=hrel
    by_cases hlt:k2 < n2
    ·obtain ⟨hl,b,off,hA,hbB,f0⟩:=p_facts (HR2.out.below H.out) hlt
     subst hA
     have HH:=hid (HCk.out _ (List.getElem_mem hl) wr H.out)
     generalize free[k2]=p at *
     have hz5:(0:Int)≤(k2:Int):=by omega
     have hz6:(k2:Int) < (n2:Int):=by omega
     go_wp2_with (go_at_call 96;refine HH.out.mono ?_;rintro e w3 ⟨rfl,hb3⟩;have HB3:=hid (H.out.trans (hb3.mono H.out.size));clear hb3)
     go_roundw
     case rel =>
      first
       | exact ⟨k2+1,by omega,by go_num,HB3⟩
       | (
         repeat apply Exists.intro
         refine ⟨?_,rfl⟩
         exact ⟨k2+1,by omega,by go_num,HB3⟩)
     case measure=>simp [Go.RowKit.intOf];omega
    ·have hd1:decide ((k2:Int) < (n2:Int))=false:=decide_eq_false (by omega)
     have hd2:decide (k2 < n2)=false:=decide_eq_false hlt
     clear hk hlt HCk
     go_wp2
     clear hd1 hd2
     have HVB:=hid (Blk.new2 wr (.map #[] 0) 335 #[.map (some wr.heap.size)])
     have HI0:Hid (ActI w ((wr.alloc (.map #[] 0)).alloc (.cells #[.map (some wr.heap.size)] 335)) wr.heap.size 0 s K cs (keep.take 0) (free.take 0) CI.zero):=hid ⟨ChI.zero ((ChM.new wr s K).chg ((Chg.refl Fp.no _).alloc _) (fun h=>h)) (by omega),fun k _=>rfl,fun k _=>rfl,fun k _=>by simp [CI.zero,tlOf,dlOf],HVB.out,(H.out.alloc H.out.size _).alloc (by have:=H.out.size;simp;omega) _,H.out.size,by simp⟩
     clear HVB
     generalize hWA:(wr.alloc (.map #[] 0)).alloc (.cells #[.map (some wr.heap.size)] 335)=WA at *
     have hmb:wr.heap.size=wr.heap.size:=rfl
     generalize wr.heap.size=mb at *
     clear hWA hmb H
     obtain ⟨i0,hi0,hz0,hz1,hz2⟩:=info_parts infoInt
     obtain ⟨u0,hu0,hv0,hv1,hv2⟩:=info_parts infoU8
     go_loopw [78] (fun i wr=>∃ (j:Nat) (c:CI),j≤n1∧i = .int .i64 j∧Hid (ActI w wr mb j s K cs (keep.take j) (free.take 0) c)) (fun i _=>n1 - (Go.RowKit.intOf i).toNat)
     case atStart=>exact ⟨0,CI.zero,Nat.zero_le _,rfl,HI0⟩
     case round =>
      clear HI0
      obtain ⟨j,c,hj,rfl,HA⟩:=hrel
      by_cases hlt:j < n1
      ·obtain ⟨hl,b,off,hA,hbB,f0⟩:=p_facts (HR1.out.below HA.out.below) hlt
       subst hA
       have hok:=HKp.out _ (List.getElem_mem hl)
       obtain ⟨k,i,hk,hd,hi,hpo,hst⟩:=hok.loc
       have HPl:=hid (hPlace_any (HD.out.below HA.out.below) hk hd hi keep[j] hpo)
       have HKO:=hid (kOf_blk hi hpo)
       have HKd:=hid (kind_any keep[j])
       have hkd8:=hok.kind.2
       have hs9:s+32 * k < 9000000000:=by have:=HD.out.line hk;have:=HD.out.hL;omega
       have HTS:Hid (keep.take (j+1)=keep.take j++[keep[j]]):=hid (List.take_succ_eq_append_getElem hl)
       clear hok hd hpo hst
       generalize keep[j]=p at *
       generalize hkde:pKind p=kd at *
       have HKE:=hid hkde
       clear hkde
       have hz5:(0:Int)≤(j:Int):=by omega
       have hz6:(j:Int) < (n1:Int):=by omega
       obtain ⟨v,hv⟩:∃ v:Int,((s+32 * k:Nat):Int)=v:=⟨_,rfl⟩
       rw [hv] at HPl
       go_wp2_with (go_at_call 237;refine HPl.out.mono ?_;rintro e w3 ⟨rfl,hb3⟩;refine stop ?_)
       unfold Stop
       have HC3:=hid (HA.out.chi.below hb3)
       have hvb3:=(HA.out.vb.below hb3 HA.out.vb.lt).cell 0
       have HAt:=hid (chAt2_any HC3.out hk hs9 (by omega) (Nat.le_trans HA.out.size hb3.size) (mb+1) hvb3)
       rw [hv] at HAt
       have HV:=hid hv
       have HB3:=hid hb3
       have HTA:Hid (n1≤60):=hid hn1
       clear hb3 hv HPl hvb3 hbB f0 HC3
       go_wp2_with (go_at_call 236;refine HAt.out.mono ?_;rintro e W4 ⟨g,c1,rfl,hci,hcg,htl,hdl,hcb,hch⟩;refine stop ?_)
       unfold Stop
       have HM:=hid (HA.out.mid HB3.out hci hcg htl hdl hcb hch)
       have HBk:=hid (hci.blk k g hk hcg).1
       have HG:=hid (hci.blk k g hk hcg).2
       have HO1:=hid (hci.o1 k hk)
       have HO2:=hid (hci.o2 k hk)
       have HSz:=hid HM.out.size
       have HLn:Hid ((c1.tl k).length≤60):=hid (by
        have h1:=tlOf_len s cs (keep.take j) k
        rw [← HM.out.tl k hk] at h1
        have h2:=List.length_take_le j keep
        omega)
       clear hci hcg htl hdl hcb hch HAt HA HB3
       go_upto_region 28 with fail
       refine wp_region_scriptH (fun w'=>Blk w' g 338 #[c1.tv k,c1.kv k,c1.dv k]) 17 [0,1] [(2,0),(2,1),(1,2),(1,3),(1,4),(1,5),(1,6),(1,9),(1,10),(1,11),(1,12),(1,13),(0,7),(0,8),(0,14),(0,15),(0,16)] (by kernel_rfl) (by kernel_rfl) HBk.out.drew ?_
       refine wpScriptH_pure (.pointer (some ⟨g,0,none⟩)) (by rfl) (by rfl) (fun w' hS=>?_) ?_
       ·go_simp
       simp only [zA,zB,Act.put,zD,zE,zF]
       refine wpScriptH_pure (.pointer (some ⟨g,0,none⟩)) (by rfl) (by rfl) (fun w' hS=>?_) ?_
       ·go_simp
       simp only [zA,zB,zC,Act.put,zD,zE,zF]
       refine wpScriptH_take (.pointer (some ⟨g,0,none⟩)) (by rfl) (by rfl) (fun w' hS=>?_) ?_
       ·go_simp
       simp only [zA,zB,zC,Act.put,zD,zE,zF]
       refine wpScriptH_take (.pointer (some ⟨g,0,none⟩)) (by rfl) (by rfl) (fun w' hS=>?_) ?_
       ·go_simp
       simp only [zA,zB,zC,Act.put,zD,zE,zF]
       refine wpScriptH_take (.pointer (some ⟨g,0,none⟩)) (by rfl) (by rfl) (fun w' hS=>?_) ?_
       ·go_simp
       simp only [zA,zB,zC,Act.put,zD,zE,zF]
       refine wpScriptH_take (c1.tv k) (by rfl) (by rfl) (fun w' hS=>?_) ?_
       ·have f1:w'.cell? ⟨g,0,none⟩=some (c1.tv k):=Blk.cell hS 0
        go_simp
       simp only [zA,zB,zC,Act.put,zD,zE,zF]
       refine wpScriptH_take (.int .i64 (i:Int)) (by rfl) (by rfl) (fun w' hS=>?_) ?_
       ·go_simp
       simp only [zA,zB,zC,Act.put,zD,zE,zF]
       refine wpScriptH_take (.pointer (some ⟨g,0,none⟩)) (by rfl) (by rfl) (fun w' hS=>?_) ?_
       ·go_simp
       simp only [zA,zB,zC,Act.put,zD,zE,zF]
       refine wpScriptH_take (.pointer (some ⟨g,0,none⟩)) (by rfl) (by rfl) (fun w' hS=>?_) ?_
       ·go_simp
       simp only [zA,zB,zC,Act.put,zD,zE,zF]
       refine wpScriptH_take (.pointer (some ⟨g,1,none⟩)) (by rfl) (by rfl) (fun w' hS=>?_) ?_
       ·go_simp
       simp only [zA,zB,zC,Act.put,zD,zE,zF]
       refine wpScriptH_take (c1.kv k) (by rfl) (by rfl) (fun w' hS=>?_) ?_
       ·have f1:w'.cell? ⟨g,1,none⟩=some (c1.kv k):=Blk.cell hS 1
        go_simp
       simp only [zA,zB,zC,Act.put,zD,zE,zF]
       refine wpScriptH_take (.int .u64 (p:Int)) (by rfl) (by rfl) (fun w' hS=>?_) ?_
       ·go_simp
       simp only [zA,zB,zC,Act.put,zD,zE,zF]
       refine wpScriptH_do (by rfl) ?_
       go_wp2_with fail
       have HE5:Hid (Chg Fp.no W4 ((W4.alloc (.cells #[.int .i64 (i:Int)] 3)).drew)):=hid ((Chg.refl Fp.no W4).alloc _).drew
       have HR5:Hid (Reads (W4.alloc (.cells #[.int .i64 (i:Int)] 3)).drew (W4.heap.size+1) 1 (some ⟨W4.heap.size,0,none⟩) 1 [.int .i64 (i:Int)]):=hid (rowN_reads W4 [.int .i64 (i:Int)] 1 1 3 _ rfl rfl)
       generalize hW5:(W4.alloc (.cells #[.int .i64 (i:Int)] 3)).drew=W5 at *
       clear hW5
       have HBk5:=hid (HE5.out.blk HBk.out (fun h=>h))
       have HO15:=hid (HE5.out.own HO1.out (fun _ _ h=>h))
       have HO25:=hid (HE5.out.own HO2.out (fun _ _ h=>h))
       refine ⟨HBk5.out,?_⟩
       refine wpScriptH_do (by rfl) ?_
       refine wpList_app2 _ (.tmp 97) (.tmp 99) 34 rfl rfl (mb+2) 3 i0 _ 1 8 Tryz.underlying34 hi0 hz0 hz1 hz2 rfl (by omega) (c1.tv k) (c1.tl k).length (jCells ((c1.tl k).map (·.1))) rfl HO15.out (W4.heap.size+1) (some ⟨W4.heap.size,0,none⟩) 1 1 [.int .i64 (i:Int)] rfl HR5.out (by intro u hu;simp at hu;rw [hu];rfl) (by have:=HLn.out;unfold maxLen;omega) (by have:=HLn.out;omega) (by have h1:=HSz.out;have h2:=HE5.out.size;omega) ?_
       intro A3 n3 c3 W6 hn3 ho3 hg3 hb3
       have HBk6:=hid (HBk5.out.grown hg3 (fun e=>own_blk_ne HO15.out HBk5.out (by decide) e.symm))
       have HO26:=hid (HO25.out.kept hg3 (own_own_ne HO25.out HO15.out (by decide)))
       have HG6:=hid hg3
       have HO6:=hid ho3
       have HN6:=hid hn3
       have HOb6:=hid hb3
       clear hg3 ho3 hn3 hb3
       refine ⟨HBk6.out,?_⟩
       refine wpScriptH_do (by rfl) ?_
       go_wp2_with (go_at_call 150;refine (HKd.out _).mono ?_;rintro e w3 ⟨rfl,rfl⟩)
       refine ⟨HBk6.out,?_⟩
       refine wpScriptH_do (by rfl) ?_
       go_wp2_with fail
       have HE7:Hid (Chg Fp.no W6 (W6.alloc (.cells #[.int .u8 (kd:Int)] 5))):=hid ((Chg.refl Fp.no W6).alloc _)
       have HR7:=hid (rowN_reads W6 [.int .u8 (kd:Int)] 1 1 5 _ rfl rfl)
       generalize hW7:W6.alloc (.cells #[.int .u8 (kd:Int)] 5)=W7 at *
       clear hW7
       have HBk7:=hid (HE7.out.blk HBk6.out (fun h=>h))
       have HO27:=hid (HE7.out.own HO26.out (fun _ _ h=>h))
       refine ⟨HBk7.out,?_⟩
       refine wpScriptH_do (by rfl) ?_
       refine wpList_app2 _ (.tmp 104) (.tmp 107) 24 rfl rfl (mb+2) 5 u0 _ 1 1 Tryz.underlying24 hu0 hv0 hv1 hv2 rfl (by omega) (c1.kv k) (c1.tl k).length (u8s ((c1.tl k).map (·.2))) rfl HO27.out (W6.heap.size+1) (some ⟨W6.heap.size,0,none⟩) 1 1 [.int .u8 (kd:Int)] rfl HR7.out (by intro u hu;simp at hu;rw [hu];rfl) (by have:=HLn.out;unfold maxLen;omega) (by have:=HLn.out;omega) (by have h1:=HSz.out;have h2:=HE5.out.size;have h3:=HG6.out.size;have h4:=HE7.out.size;omega) ?_
       intro A4 n4 c4 W8 hn4 ho4 hg4 hb4
       have hB8:=HBk7.out.grown hg4 (fun e=>own_blk_ne HO27.out HBk7.out (by decide) e.symm)
       have htk:=hid (HM.out.chi.take (kd:=kd) (i:=i) hk HM.out.cg HE5.out HG6.out HO6.out HN6.out HOb6.out HE7.out hg4 ho4 hn4 hb4)
       clear hn4 ho4 hg4 hb4
       have a0:W8.cell? ⟨g,0,none⟩=some (c1.tv k):=hB8.cell 0
       have z0:W8.frozen? ⟨g,0,none⟩=false:=hB8.frozen 0
       have hB9:=hB8.set_ 0 (.slice A3 n3 c3)
       have a1:(W8.setCell ⟨g,0,none⟩ (.slice A3 n3 c3)).cell? ⟨g,1,none⟩=some (c1.kv k):=hB9.cell 1
       have z1:(W8.setCell ⟨g,0,none⟩ (.slice A3 n3 c3)).frozen? ⟨g,1,none⟩=false:=hB9.frozen 1
       have a2:W8.cell? ⟨g,1,none⟩=some (c1.kv k):=hB8.cell 1
       have z2:W8.frozen? ⟨g,1,none⟩=false:=hB8.frozen 1
       refine ⟨hB8,?_⟩
       show wpList _ _ _ _ _ _
       simp only [List.drop_succ_cons,List.drop_zero]
       clear hB8 hB9
       go_wp2
       refine NoPanic.normal ?_
       go_wp2
       go_roundw
       case rel =>
        have HF:Hid (ActI w ((W8.setCell ⟨g,0,none⟩ (.slice A3 n3 c3)).setCell ⟨g,1,none⟩ (.slice A4 n4 c4)) mb (j+1) s K cs (keep.take (j+1)) (free.take 0) (c1.take k A3 c3 A4 c4 i kd)):=hid (by
         rw [HTS.out]
         obtain ⟨e1,e2⟩:=HKO.out
         have e3:=HKE.out
         subst e2 e3
         exact HM.out.take hk e1 htk.out.1 htk.out.2)
        first
         | exact ⟨j+1,_,by omega,by go_num,HF⟩
         | (
           repeat apply Exists.intro
           refine ⟨?_,rfl⟩
           exact ⟨j+1,_,by omega,by go_num,HF⟩)
       case measure=>simp [Go.RowKit.intOf];omega
      ·have hj1:j=n1:=by omega
       have HI1:Hid (ActI w wr mb (n1+0) s K cs keep (free.take 0) c):=hid (by
        have h1:=HA.out
        have hl:keep.length=n1:=by have:=HR1.out.1;simp [uCells] at this;omega
        rw [hj1,← hl,List.take_length] at h1
        rw [← hl]
        exact h1)
       have hd1:decide ((j:Int) < (n1:Int))=false:=decide_eq_false (by omega)
       have hd2:decide (j < n1)=false:=decide_eq_false hlt
       clear HA hj hlt hj1
       go_wp2
       clear hd1 hd2
       go_loopw [116] (fun i wr=>∃ (j:Nat) (c:CI),j≤n2∧i = .int .i64 j∧Hid (ActI w wr mb (n1+j) s K cs keep (free.take j) c)) (fun i _=>n2 - (Go.RowKit.intOf i).toNat)
       case atStart=>exact ⟨0,c,Nat.zero_le _,rfl,HI1⟩
       case round =>
        clear HI1
        obtain ⟨j2,c5,hj,rfl,HA⟩:=hrel
        by_cases hlt:j2 < n2
        ·obtain ⟨hl,b,off,hA,hbB,f0⟩:=p_facts (HR2.out.below HA.out.below) hlt
         subst hA
         have hok:=HFp.out _ (List.getElem_mem hl)
         obtain ⟨k,i,hk,hd,hi,hpo,hst⟩:=hok.loc
         have HPl:=hid (hPlace_any (HD.out.below HA.out.below) hk hd hi free[j2] hpo)
         have HKO:=hid (kOf_blk hi hpo)
         have hs9:s+32 * k < 9000000000:=by have:=HD.out.line hk;have:=HD.out.hL;omega
         have HTS:Hid (free.take (j2+1)=free.take j2++[free[j2]]):=hid (List.take_succ_eq_append_getElem hl)
         clear hok hd hpo hst
         generalize free[j2]=p at *
         have hz5:(0:Int)≤(j2:Int):=by omega
         have hz6:(j2:Int) < (n2:Int):=by omega
         obtain ⟨v,hv⟩:∃ v:Int,((s+32 * k:Nat):Int)=v:=⟨_,rfl⟩
         rw [hv] at HPl
         go_wp2_with (go_at_call 237;refine HPl.out.mono ?_;rintro e w3 ⟨rfl,hb3⟩;refine stop ?_)
         unfold Stop
         have HC3:=hid (HA.out.chi.below hb3)
         have hvb3:=(HA.out.vb.below hb3 HA.out.vb.lt).cell 0
         have HAt:=hid (chAt2_any HC3.out hk hs9 (by omega) (Nat.le_trans HA.out.size hb3.size) (mb+1) hvb3)
         rw [hv] at HAt
         have HV:=hid hv
         have HB3:=hid hb3
         have HTA:Hid (n2≤60):=hid hn2
         clear hb3 hv HPl hvb3 hbB f0 HC3
         go_wp2_with (go_at_call 236;refine HAt.out.mono ?_;rintro e W4 ⟨g,c1,rfl,hci,hcg,htl,hdl,hcb,hch⟩;refine stop ?_)
         unfold Stop
         have HM:=hid (HA.out.mid HB3.out hci hcg htl hdl hcb hch)
         have HBk:=hid (hci.blk k g hk hcg).1
         have HG:=hid (hci.blk k g hk hcg).2
         have HO1:=hid (hci.o3 k hk)
         have HSz:=hid HM.out.size
         have HLn:Hid ((c1.dl k).length≤60):=hid (by
          have h1:=dlOf_len s cs (free.take j2) k
          rw [← HM.out.dl k hk] at h1
          have h2:=List.length_take_le j2 free
          omega)
         clear hci hcg htl hdl hcb hch HAt HA HB3
         have f1:W4.cell? ⟨g,2,none⟩=some (c1.dv k):=HBk.out.cell 2
         have f2:g < W4.heap.size:=HBk.out.lt
         have HE5:Hid (Chg Fp.no W4 (W4.alloc (.cells #[.int .i64 (i:Int)] 3))):=hid ((Chg.refl Fp.no W4).alloc _)
         have HR5:Hid (Reads (W4.alloc (.cells #[.int .i64 (i:Int)] 3)) (W4.heap.size+1) 1 (some ⟨W4.heap.size,0,none⟩) 1 [.int .i64 (i:Int)]):=hid (rowN_reads W4 [.int .i64 (i:Int)] 1 1 3 _ rfl rfl)
         have HBk5:=hid (HE5.out.blk HBk.out (fun h=>h))
         have HO15:=hid (HE5.out.own HO1.out (fun _ _ h=>h))
         go_wp2_with (at_builtin;refine wpList_app2 _ (.tmp 134) (.tmp 136) 34 rfl rfl (mb+2) 3 i0 _ 1 8 Tryz.underlying34 hi0 hz0 hz1 hz2 rfl ?q1 (c1.dv k) (c1.dl k).length (jCells (c1.dl k)) rfl HO15.out (W4.heap.size+1) (some ⟨W4.heap.size,0,none⟩) 1 1 [.int .i64 (i:Int)] rfl HR5.out ?q6 ?q2 ?q3 ?q4 ?_;(case q1=>omega);(case q6=>(intro u hu;simp at hu;rw [hu];rfl));(case q2=>(have:=HLn.out;unfold maxLen;omega));(case q3=>(have:=HLn.out;omega));(case q4=>(have h1:=HSz.out;have h2:=HE5.out.size;omega));intro A3 n3 c3 W6 hn3 ho3 hg3 hb3;have hB6:=HBk5.out.grown hg3 (fun e=>own_blk_ne HO15.out HBk5.out (by decide) e.symm);have htk:=hid (HM.out.chi.drop (i:=i) hk HM.out.cg HE5.out hg3 ho3 hn3 hb3);have a0:W6.cell? ⟨g,2,none⟩=some (c1.dv k):=hB6.cell 2;have z0:W6.frozen? ⟨g,2,none⟩=false:=hB6.frozen 2;clear hn3 ho3 hg3 hb3 hB6)
         go_roundw
         case rel =>
          have HF:Hid (ActI w (W6.setCell ⟨g,2,none⟩ (.slice A3 n3 c3)) mb (n1+j2+1) s K cs keep (free.take (j2+1)) (c1.drop k A3 c3 i)):=hid (by
           rw [HTS.out]
           obtain ⟨e1,e2⟩:=HKO.out
           subst e2
           exact HM.out.drop hk e1 htk.out.1 htk.out.2)
          first
           | exact ⟨j2+1,_,by omega,by go_num,HF⟩
           | (
             repeat apply Exists.intro
             refine ⟨?_,rfl⟩
             exact ⟨j2+1,_,by omega,by go_num,HF⟩)
         case measure=>simp [Go.RowKit.intOf];omega
        ·have hj1:j2=n2:=by omega
         have HI1:Hid (ActI w wr mb (n1+n2) s K cs keep free c5):=hid (by
          have h1:=HA.out
          have hl:free.length=n2:=by have:=HR2.out.1;simp [uCells] at this;omega
          rw [hj1,← hl,List.take_length] at h1
          rw [← hl]
          exact h1)
         have hd1:decide ((j2:Int) < (n2:Int))=false:=decide_eq_false (by omega)
         have hd2:decide (j2 < n2)=false:=decide_eq_false hlt
         clear HA hj hlt hj1
         have f1:wr.cell? ⟨mb+1,0,none⟩=some (.map (some mb)):=HI1.out.vb.cell 0
         have HSo:=hid (chSorted_any HI1.out.chi.map hK12 (by omega))
         obtain ⟨wj,hwj⟩:∃ wj,wr.alloc (.cells #[.map (some mb)] 335)=wj:=⟨_,rfl⟩
         have HIj:Hid (ActI w wj mb (n1+n2) s K cs keep free c5):=hid (by
          have h1:=HI1.out
          have hb:Below wr.heap.size wr wj:=hwj ▸ (Below.refl _ wr).alloc (Nat.le_refl _) _
          exact { h1 with chi:=h1.chi.below hb,vb:=h1.vb.below hb h1.vb.lt,below:=h1.below.trans (hb.mono h1.below.size),size:=Nat.le_trans h1.size hb.size })
         rw [hwj] at HSo
         go_wp2_with (first
          | (go_at_call 239;refine (keysChg_any _ _).mono ?_;rintro e wk ⟨rfl,rfl⟩;rw [hwj];clear hwj)
          | (go_at_call 238;refine HSo.out.mono ?_;rintro e W0 ⟨A0,m0,c0,ks,rfl,hnd,hks,hkl,hkm,hrow,hb0⟩;refine stop ?_))
         unfold Stop
         clear hd1 hd2 f1
         have HI0:Hid (ActI w W0 mb (n1+n2) s K cs keep free c5):=hid (by
          have h1:=HIj.out
          exact { h1 with chi:=h1.chi.below hb0,vb:=h1.vb.below hb0 h1.vb.lt,below:=h1.below.trans (hb0.mono h1.below.size),size:=Nat.le_trans h1.size hb0.size })
         have HRk:=hid (Reads.of_own hrow)
         have HNK:=hid hnd
         have HKs:Hid (∀ k,k∈ks↔k < K∧(tlOf s cs keep k≠[]∨dlOf s cs free k≠[])):=hid (fun k=>by
          rw [hks k]
          exact ⟨fun ⟨h1,h2⟩=>⟨h1,(HIj.out.cbs k h1).1 h2⟩,fun ⟨h1,h2⟩=>⟨h1,(HIj.out.cbs k h1).2 h2⟩⟩)
         have HM0:Hid (m0≤12∧ks.length=m0):=hid ⟨by omega,hkl⟩
         have HBw:Hid (Below w.heap.size w W0):=hid HI0.out.below
         clear hnd hks hkl hkm hrow hb0 HSo HI1 HIj
         go_wp2
         obtain ⟨k0,hk0,hy0,hy1,hy2⟩:=info_parts infoWrite
         go_loopw [28,145] (fun ws i wr=>∃ (j:Nat) (A:Option Addr) (m c:Nat) (V:Nat→Nat),j≤m0∧ws = .slice A m c∧i = .int .i64 j∧Hid (wr.ownsRow W0.heap.size 114 2 (.slice A m c) m (wrCells ((ks.take j).flatMap fun k=>chgW (s+32 * k) (cs k).cl (cs k).bs (tlOf s cs keep k) (dlOf s cs free k) (V k))))∧Hid (∀ k∈ks.take j,Bits (V k) (cs k).cl (actB (cs k).bs (tlOf s cs keep k) (dlOf s cs free k)))∧Hid (Below W0.heap.size W0 wr)) (fun _ i _=>m0 - (Go.RowKit.intOf i).toNat)
         case atStart=>exact ⟨0,none,0,0,fun _=>0,Nat.zero_le _,rfl,rfl,hid (World.ownsRow_nil _ _ _ _),hid (fun k hk=>by simp at hk),hid (Below.refl _ _)⟩
         case round =>
          obtain ⟨j,A,m,c,V,hj,rfl,rfl,HO,HBi,HB⟩:=hrel
          by_cases hlt:j < m0
          ·obtain ⟨hl,b,off,hA0,hbB,f0⟩:=jc_facts (HRk.out.below HB.out) hlt
           subst hA0
           have hlk:j < ks.length:=by have:=HM0.out.2;omega
           obtain ⟨hkK,hkne⟩:=(HKs.out _).1 (List.getElem_mem hlk)
           have HTS:Hid (ks.take (j+1)=ks.take j++[ks[j]]):=hid (List.take_succ_eq_append_getElem hlk)
           have HNi:Hid (ks[j] ∉ ks.take j):=hid (fun hm=>by
            have h1:=HNK.out
            rw [← List.take_append_drop j ks,List.nodup_append] at h1
            have h2:ks[j]∈ks.drop j:=by
             rw [List.drop_eq_getElem_cons hlk];exact List.mem_cons_self
            exact h1.2.2 _ hm _ h2 rfl)
           rw [List.getElem_map] at f0
           clear hbB
           generalize ks[j]=k at *
           obtain ⟨hdv,hyN,hyT,hyD⟩:=acts_hyp HKp.out HFp.out HNd.out hkne
           have HIr:=HI0.out.chi.below HB.out
           have HCW:=HD.out.chw hkK hdv
           have hln:=HD.out.line hkK
           have HOp:=hid (chOpen_cls (HD.out.dev.below (HBw.out.trans (HB.out.mono HBw.out.size))) (HD.out.tab.below (HBw.out.trans (HB.out.mono HBw.out.size))) (HD.out.pay.below (HBw.out.trans (HB.out.mono HBw.out.size))) (s+32 * k) (cs k).cl (cs k).g hln HCW.cls HCW.g0 HCW.g1 HCW.hdr)
           have hx1:wr.cell? ⟨x.h,0,none⟩=some (.iface 58 (.pointer (some ⟨a.th 0,0,none⟩))):=(HD.out.hs.heap.below (HBw.out.trans (HB.out.mono HBw.out.size)) HD.out.hs.heap.lt).cell 0
           have hs9:s+32 * k < 9000000000:=by have:=HD.out.line hkK;have:=HD.out.hL;omega
           obtain ⟨v,hv⟩:∃ v:Int,((s+32 * k:Nat):Int)=v:=⟨_,rfl⟩
           have HV:=hid hv
           rw [hv] at f0
           have HOp2:Hid (Calls Tryz.prog 195 #[memV a, .int .i64 v] wr fun e w'=>e = .returned (.tuple #[chV a (s+32 * k) (cs k).cl 0 (cs k).g, .int .i64 0])∧Below wr.heap.size wr w'):=hid (by rw [← hv];exact HOp.out)
           have hz5:(0:Int)≤(j:Int):=by omega
           have hz6:(j:Int) < (m0:Int):=by omega
           have HHy:=hid (And.intro hyN (And.intro hyT hyD))
           clear hv HOp hyN hyT hyD
           unfold chV memV at *
           rw [HV.out] at HOp2
           go_upto_region 41 with fail
           go_wp2_with (go_at_call 195;refine HOp2.out.mono ?_;rintro e w3 ⟨rfl,hb3⟩;have HB3:=hid hb3;clear hb3)
           obtain ⟨g,hg⟩:∃ g,c5.cb k=some g:=Option.isSome_iff_exists.1 ((HI0.out.cbs k hkK).2 hkne)
           have HKl:=hid hkK
           generalize hW4:w3.alloc (.cells #[.iface 58 (.pointer (some ⟨a.th 0,0,none⟩)), .int .i64 v, .int .i64 ((cs k).cl:Int), .int .i64 0, .int .u16 ((cs k).g:Int)] 306)=W4 at *
           have hb4:Below wr.heap.size wr W4:=HB3.out.trans (hW4 ▸ (Below.refl _ w3).alloc (HB3.out.size) _)
           have hk4:Blk W4 w3.heap.size 306 #[.iface 58 (.pointer (some ⟨a.th 0,0,none⟩)), .int .i64 v, .int .i64 ((cs k).cl:Int), .int .i64 0, .int .u16 ((cs k).g:Int)]:=hW4 ▸ Blk.new w3 _ _
           have hB4:Below w.heap.size w W4:=(HBw.out.trans (HB.out.mono HBw.out.size)).trans (hb4.mono (Nat.le_trans HBw.out.size HB.out.size))
           have HB4:Hid (Below W0.heap.size W0 W4):=hid (HB.out.trans (hb4.mono HB.out.size))
           have hC4:=HI0.out.chi.below HB4.out
           have hv4:=HI0.out.vb.below HB4.out HI0.out.vb.lt
           have hg4:=(hC4.blk k g hkK hg).1
           have HSf:Hid (∀ w',Below W4.heap.size W4 w'→(Blk w' w3.heap.size 306 #[.iface 58 (.pointer (some ⟨a.th 0,0,none⟩)), .int .i64 v, .int .i64 ((cs k).cl:Int), .int .i64 0, .int .u16 ((cs k).g:Int)])∧w'.cell? ⟨mb+1,0,none⟩=some (.map (some mb))∧(Instr.lookup 335 (.map (some mb)) (.int .i64 v) false).run Tryz.prog w' = .ok (.pointer (some ⟨g,0,none⟩)) w'∧w'.cell? ⟨g,0,none⟩=some (.slice (c5.tA k) (c5.tl k).length (c5.tc k))∧w'.cell? ⟨g,1,none⟩=some (.slice (c5.kA k) (c5.tl k).length (c5.kc k))∧w'.cell? ⟨g,2,none⟩=some (.slice (c5.dA k) (c5.dl k).length (c5.dc k))):=hid (fun w' hw=>by
            have hl:=(hC4.below hw).map.look hkK hs9
            rw [hg,HV.out] at hl
            have hb:=hg4.below hw hg4.lt
            exact ⟨hk4.below hw hk4.lt,(hv4.below hw hv4.lt).cell 0,hl,hb.cell 0,hb.cell 1,hb.cell 2⟩)
           obtain ⟨hyN,hyT,hyD⟩:=HHy.out
           have etl:=HI0.out.tl k hkK
           have edl:=HI0.out.dl k hkK
           have HTl:=hid etl
           have HDl:=hid edl
           have hl1:(c5.tl k).length≤60:=by
            rw [etl]
            have h1:=tlOf_len s cs keep k
            have h2:=HR1.out.1
            simp [uCells] at h2
            omega
           have hl2:(c5.dl k).length≤60:=by
            rw [edl]
            have h1:=dlOf_len s cs free k
            have h2:=HR2.out.1
            simp [uCells] at h2
            omega
           have HAc:=hid (chActions_any (HD.out.dev.below hB4.drew) (HD.out.tab.below hB4.drew) (HD.out.pay.below hB4.drew) (s+32 * k) (cs k).cl (cs k).g _ (cs k).bs hln HCW (c5.tA k) (c5.kA k) (c5.dA k) (c5.tl k).length (c5.tc k) (c5.kc k) (c5.dl k).length (c5.dc k) (c5.tl k) (c5.dl k) (w:=W4.drew) (Reads.of_own (hC4.o1 k hkK)) (Reads.of_own (hC4.o2 k hkK)) (Reads.of_own (hC4.o3 k hkK)) (by rw [etl,edl];exact hyN) (by rw [etl];exact hyT) (by rw [edl];exact hyD) (by
            rw [etl,edl]
            rcases hkne with h | h
            ·exact .inl (List.length_pos_iff.2 h)
            ·exact .inr (List.length_pos_iff.2 h)) (by omega) (by omega))
           have HO4:=hid ((Chg.of_below (S:=Fp.no) hb4).own HO.out (fun _ _ h=>h))
           have HLm:=hid (And.intro hl1 hl2)
           unfold chV memV at HAc
           rw [HV.out] at HAc
           clear hW4 hb4 hk4 hB4 hC4 hv4 hg4 hyN hyT hyD etl edl hl1 hl2 HCW hln hg hkK hkne HOp2 HO f0
           refine wp_region_scriptH (fun w'=>Below W4.heap.size W4 w') 23 [21,22] [(1,0),(1,1),(1,2),(1,3),(1,4),(1,5),(1,6),(1,7),(1,8),(1,9),(1,10),(1,11),(1,12),(1,13),(1,14),(1,15),(1,16),(1,17),(1,18),(0,19),(0,20),(2,21),(2,22)] (by kernel_rfl) (by kernel_rfl) (Below.refl _ _).drew ?_
           refine wpScriptH_take (.agg #[.iface 58 (.pointer (some ⟨a.th 0,0,none⟩)), .int .i64 v, .int .i64 ((cs k).cl:Int), .int .i64 0, .int .u16 ((cs k).g:Int)]) (by rfl) (by rfl) (fun w' hS=>?_) ?_
           ·(obtain ⟨hb,_⟩:=HSf.out w' hS;have f0:w'.cell? ⟨w3.heap.size,0,none⟩=_:=hb.cell 0;have f1:w'.cell? ⟨w3.heap.size,1,none⟩=_:=hb.cell 1;have f2:w'.cell? ⟨w3.heap.size,2,none⟩=_:=hb.cell 2;have f3:w'.cell? ⟨w3.heap.size,3,none⟩=_:=hb.cell 3;have f4:w'.cell? ⟨w3.heap.size,4,none⟩=_:=hb.cell 4;simp at f0 f1 f2 f3 f4)
            go_simp
           simp only [zA,zB,Act.put,zD,zE,zF]
           refine wpScriptH_take (.map (some mb)) (by rfl) (by rfl) (fun w' hS=>?_) ?_
           ·obtain ⟨_,f1,_⟩:=HSf.out w' hS
            go_simp
           simp only [zA,zB,zC,Act.put,zD,zE,zF]
           refine wpScriptH_take (.int .i64 v) (by rfl) (by rfl) (fun w' hS=>?_) ?_
           ·go_simp
           simp only [zA,zB,zC,Act.put,zD,zE,zF]
           refine wpScriptH_take (.pointer (some ⟨g,0,none⟩)) (by rfl) (by rfl) (fun w' hS=>?_) ?_
           ·obtain ⟨_,_,f1,_⟩:=HSf.out w' hS
            go_simp
           simp only [zA,zB,zC,Act.put,zD,zE,zF]
           refine wpScriptH_take (.pointer (some ⟨g,0,none⟩)) (by rfl) (by rfl) (fun w' hS=>?_) ?_
           ·go_simp
           simp only [zA,zB,zC,Act.put,zD,zE,zF]
           refine wpScriptH_take (.pointer (some ⟨g,0,none⟩)) (by rfl) (by rfl) (fun w' hS=>?_) ?_
           ·go_simp
           simp only [zA,zB,zC,Act.put,zD,zE,zF]
           refine wpScriptH_take (.slice (c5.tA k) (c5.tl k).length (c5.tc k)) (by rfl) (by rfl) (fun w' hS=>?_) ?_
           ·obtain ⟨_,_,_,f1,_⟩:=HSf.out w' hS
            go_simp
           simp only [zA,zB,zC,Act.put,zD,zE,zF]
           refine wpScriptH_take (.map (some mb)) (by rfl) (by rfl) (fun w' hS=>?_) ?_
           ·obtain ⟨_,f1,_⟩:=HSf.out w' hS
            go_simp
           simp only [zA,zB,zC,Act.put,zD,zE,zF]
           refine wpScriptH_take (.int .i64 v) (by rfl) (by rfl) (fun w' hS=>?_) ?_
           ·go_simp
           simp only [zA,zB,zC,Act.put,zD,zE,zF]
           refine wpScriptH_take (.pointer (some ⟨g,0,none⟩)) (by rfl) (by rfl) (fun w' hS=>?_) ?_
           ·obtain ⟨_,_,f1,_⟩:=HSf.out w' hS
            go_simp
           simp only [zA,zB,zC,Act.put,zD,zE,zF]
           refine wpScriptH_take (.pointer (some ⟨g,0,none⟩)) (by rfl) (by rfl) (fun w' hS=>?_) ?_
           ·go_simp
           simp only [zA,zB,zC,Act.put,zD,zE,zF]
           refine wpScriptH_take (.pointer (some ⟨g,1,none⟩)) (by rfl) (by rfl) (fun w' hS=>?_) ?_
           ·go_simp
           simp only [zA,zB,zC,Act.put,zD,zE,zF]
           refine wpScriptH_take (.slice (c5.kA k) (c5.tl k).length (c5.kc k)) (by rfl) (by rfl) (fun w' hS=>?_) ?_
           ·obtain ⟨_,_,_,_,f1,_⟩:=HSf.out w' hS
            go_simp
           simp only [zA,zB,zC,Act.put,zD,zE,zF]
           refine wpScriptH_take (.map (some mb)) (by rfl) (by rfl) (fun w' hS=>?_) ?_
           ·obtain ⟨_,f1,_⟩:=HSf.out w' hS
            go_simp
           simp only [zA,zB,zC,Act.put,zD,zE,zF]
           refine wpScriptH_take (.int .i64 v) (by rfl) (by rfl) (fun w' hS=>?_) ?_
           ·go_simp
           simp only [zA,zB,zC,Act.put,zD,zE,zF]
           refine wpScriptH_take (.pointer (some ⟨g,0,none⟩)) (by rfl) (by rfl) (fun w' hS=>?_) ?_
           ·obtain ⟨_,_,f1,_⟩:=HSf.out w' hS
            go_simp
           simp only [zA,zB,zC,Act.put,zD,zE,zF]
           refine wpScriptH_take (.pointer (some ⟨g,0,none⟩)) (by rfl) (by rfl) (fun w' hS=>?_) ?_
           ·go_simp
           simp only [zA,zB,zC,Act.put,zD,zE,zF]
           refine wpScriptH_take (.pointer (some ⟨g,2,none⟩)) (by rfl) (by rfl) (fun w' hS=>?_) ?_
           ·go_simp
           simp only [zA,zB,zC,Act.put,zD,zE,zF]
           refine wpScriptH_take (.slice (c5.dA k) (c5.dl k).length (c5.dc k)) (by rfl) (by rfl) (fun w' hS=>?_) ?_
           ·obtain ⟨_,_,_,_,_,f1⟩:=HSf.out w' hS
            go_simp
           simp only [zA,zB,zC,Act.put,zD,zE,zF]
           refine wpScriptH_do (by rfl) ?_
           go_wp2_with (go_at_call 240;refine HAc.out.mono ?_;rintro e W5 ⟨A5,m5,c6,V5,rfl,hbi5,hro5,hbb5⟩)
           have HBi5:=hid hbi5
           have HRo5:=hid hro5
           have HBe5:Hid (Below W4.heap.size W4 W5):=hid ((Below.refl _ W4).drew.trans hbb5)
           clear hbi5 hro5 hbb5 HSf HAc
           refine ⟨HBe5.out,?_⟩
           refine wpScriptH_do (by rfl) ?_
           go_wp2_with fail
           refine ⟨HBe5.out,?_⟩
           refine wpScriptH_pure (.slice A5 m5 c6) (by rfl) (by rfl) (fun w' hS=>?_) ?_
           ·go_simp
           simp only [zA,zB,zC,Act.put,zD,zE,zF]
           refine wpScriptH_pure (.int .i64 0) (by rfl) (by rfl) (fun w' hS=>?_) ?_
           ·go_simp
           simp only [zA,zB,zC,Act.put,zD,zE,zF]
           show wpList _ _ _ _ _ _
           simp only [List.drop_succ_cons,List.drop_zero]
           go_wp2
           refine NoPanic.normal ?_
           have hm5:m5≤121:=by
            have h1:=HRo5.out.1
            rw [wrCells_len,chgW_len] at h1
            have:=HLm.out
            omega
           have hm4:m≤121 * j:=by
            have h1:=HO4.out.1
            rw [wrCells_len] at h1
            have h2:=flatMap_len (f:=fun k=>chgW (s+32 * k) (cs k).cl (cs k).bs (tlOf s cs keep k) (dlOf s cs free k) (V k)) (B:=121) (ks.take j) (fun x _=>by
             rw [chgW_len]
             have h3:=tlOf_len s cs keep x
             have h4:=dlOf_len s cs free x
             have h5:=HR1.out.1
             have h6:=HR2.out.1
             simp [uCells] at h5 h6
             omega)
            have h3:=List.length_take_le j ks
            have h4:121 * (ks.take j).length≤121 * j:=Nat.mul_le_mul_left _ h3
            omega
           have hj12:j≤12:=by have:=HM0.out.1;omega
           have HO5:=hid ((Chg.of_below (S:=Fp.no) HBe5.out).own HO4.out (fun _ _ h=>h))
           have HR5:=hid (Reads.of_own HRo5.out)
           have HON:=hid (wrCells_one (chgW (s+32 * k) (cs k).cl (cs k).bs (c5.tl k) (c5.dl k) V5))
           have HEx:Hid (wrCells ((ks.take j).flatMap fun k=>chgW (s+32 * k) (cs k).cl (cs k).bs (tlOf s cs keep k) (dlOf s cs free k) (V k))++wrCells (chgW (s+32 * k) (cs k).cl (cs k).bs (c5.tl k) (c5.dl k) V5)=wrCells ((ks.take (j+1)).flatMap fun k'=>chgW (s+32 * k') (cs k').cl (cs k').bs (tlOf s cs keep k') (dlOf s cs free k') (updX V k V5 k'))):=hid (by
            rw [HTS.out,List.flatMap_append,List.flatMap_singleton]
            have e1:((ks.take j).flatMap fun k'=>chgW (s+32 * k') (cs k').cl (cs k').bs (tlOf s cs keep k') (dlOf s cs free k') (updX V k V5 k'))=(ks.take j).flatMap fun k=>chgW (s+32 * k) (cs k).cl (cs k).bs (tlOf s cs keep k) (dlOf s cs free k) (V k):=flatMap_same _ (fun y hy=>by
             rw [updX_other (fun e=>HNi.out (by rw [← e];exact hy))])
            rw [e1,updX_same,← HTl.out,← HDl.out]
            unfold wrCells
            rw [List.flatMap_append])
           generalize wrCells ((ks.take j).flatMap fun k=>chgW (s+32 * k) (cs k).cl (cs k).bs (tlOf s cs keep k) (dlOf s cs free k) (V k))=xs at *
           have HRo6:=hid HRo5.out
           generalize hnw:wrCells (chgW (s+32 * k) (cs k).cl (cs k).bs (c5.tl k) (c5.dl k) V5)=nw at *
           clear hnw HRo5 HRo6
           have HLE:Hid (W0.heap.size≤W5.heap.size):=hid (Nat.le_trans HB4.out.size HBe5.out.size)
           go_wp2_with (at_builtin;refine wpList_app2 _ (.tmp 187) (.tmp 188) 108 rfl rfl W0.heap.size 114 k0 _ 2 16 Tryz.underlying108 hk0 hy0 hy1 hy2 rfl ?q1 (.slice A m c) m xs rfl HO5.out W5.heap.size A5 m5 c6 nw rfl HR5.out HON.out ?q2 ?q3 ?q4 ?_;(case q1=>omega);(case q2=>(unfold maxLen;omega));(case q3=>omega);(case q4=>exact HLE.out);intro A3 n3 c3 W6 hn3 ho3 hg3 hb3;have HO6:=hid ho3;have HB6:Hid (Below W0.heap.size W0 W6):=hid ((HB4.out.trans (HBe5.out.mono HB4.out.size)).grown hg3 HLE.out (fun i hi=>(HO5.out.lt i hi).1));clear hn3 ho3 hg3 hb3)
           go_roundw
           case rel =>
            have HFo:Hid (W6.ownsRow W0.heap.size 114 2 (.slice A3 n3 c3) n3 (wrCells ((ks.take (j+1)).flatMap fun k'=>chgW (s+32 * k') (cs k').cl (cs k').bs (tlOf s cs keep k') (dlOf s cs free k') (updX V k V5 k')))):=hid (by rw [← HEx.out];exact HO6.out)
            have HFb:Hid (∀ k'∈ks.take (j+1),Bits (updX V k V5 k') (cs k').cl (actB (cs k').bs (tlOf s cs keep k') (dlOf s cs free k'))):=hid (fun k' hk'=>by
             rw [HTS.out] at hk'
             rcases List.mem_append.1 hk' with h | h
             ·rw [updX_other (fun e=>HNi.out (by rw [← e];exact h))]
              exact HBi.out k' h
             ·rw [List.mem_singleton] at h
              subst h
              rw [updX_same,← HTl.out,← HDl.out]
              exact HBi5.out)
            first
             | exact ⟨j+1,A3,n3,c3,updX V k V5,by omega,rfl,by go_num,HFo,HFb,HB6⟩
             | (
               repeat apply Exists.intro
               refine ⟨?_,rfl⟩
               exact ⟨j+1,A3,n3,c3,updX V k V5,by omega,rfl,by go_num,HFo,HFb,HB6⟩)
           case measure=>simp [Go.RowKit.intOf];omega
          ·have hd1:decide ((j:Int) < (m0:Int))=false:=decide_eq_false (by omega)
           have hd2:decide (j < m0)=false:=decide_eq_false hlt
           have HFi:Hid (RetActs w s K cs keep free (.returned (.tuple #[.slice A m c, .int .i64 0])) wr):=hid (by
            have hjm:ks.take j=ks:=List.take_of_length_le (by have:=HM0.out.2;omega)
            have h1:=HO.out
            have h2:=HBi.out
            rw [hjm] at h1 h2
            exact ⟨A,m,c,ks,V,rfl,HNK.out,HKs.out,h2,h1.mono HBw.out.size,HBw.out.trans (HB.out.mono HBw.out.size)⟩)
           have HE9:=hid (HEr.out _ (HBw.out.trans (HB.out.mono HBw.out.size)))
           have hx1:wr.cell? ⟨x.h,0,none⟩=some (.iface 58 (.pointer (some ⟨a.th 0,0,none⟩))):=(HD.out.hs.heap.below (HBw.out.trans (HB.out.mono HBw.out.size)) HD.out.hs.heap.lt).cell 0
           clear HI0 hlt hj
           go_wp2_with (go_at_call 112;refine HE9.out.mono ?_;rintro e W2 ⟨rfl,rfl⟩)
           go_ret2
           exact HFi.out
end
end
end Go.Proofs.YtfkjjoglnmeciaaGreatDoor
