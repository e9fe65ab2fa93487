/- The walks and laws that the claim leans on, part 33. -/
import Derived.Test.YtfkjjoglnmeciaaGreatDoorJax
import Derived.Test.YtfkjjoglnmeciaaGreatDoorJaz
set_option maxRecDepth 100000
set_option maxHeartbeats 16000000
namespace Go.Proofs.YtfkjjoglnmeciaaGreatDoor
open Go.Lib (hid)
section
open Go.RowKit Go.Maps
def IsRedo (s:Nat) (ws:List (Nat × Nat)) (p:List Ins):Prop:=(ws=[]∧p=[])∨(ws≠[]∧∃ cm p1 p2 p3,cm < 18446744073709551616∧IsStores (entW (64 * s) 0 ws) p1∧IsStores [(64 * s,cm)] p2∧IsTwo ws [(64 * s,0)] p3∧p=p1++p2++p3)
def flatW:List (Nat × Nat)→List Nat
 | []=>[]
 | e :: l=>e.1 :: e.2 :: flatW l
theorem flatW_snoc:∀ (l:List (Nat × Nat)) (e:Nat × Nat),flatW (l++[e])=flatW l++[e.1,e.2]
 | [],e=>rfl
 | x :: l,e=>by
  have:=flatW_snoc l e
  simp [flatW,this]
theorem flatW_mem:∀ (l:List (Nat × Nat)) (x:Nat),x∈flatW l→∃ e∈l,x=e.1∨x=e.2
 | [],x,h=>by simp [flatW] at h
 | e :: l,x,h=>by
  simp only [flatW,List.mem_cons] at h
  rcases h with h | h | h
  ·exact ⟨e,by simp, .inl h⟩
  ·exact ⟨e,by simp, .inr h⟩
  ·obtain ⟨y,hy,h2⟩:=flatW_mem l x h
   exact ⟨y,by simp [hy],h2⟩
theorem planR_any {a:DA} {L T:Nat} {w:World} {S:Fp} {cur:Nat→Nat} {F:Nat} (h:Dev a L T w S cur F) (g s n:Nat) (hB:Blk w g 353 (logCells a s n)) (hs:s+n≤L) (hn:26≤n)
  (A:Option Addr) (N c:Nat) (ws:List (Nat × Nat)) (hr:Reads w w.heap.size 2 A N (wrCells ws)) (hd:Diff ws) (ho:∀ e∈ws,OffOk L s n e.1) (hv:∀ e∈ws,e.2 < 18446744073709551616) (hN:N≤96) (hidle:cur (8 * s)=0) (ht:Tab w) :
  Calls Tryz.prog 136 #[.pointer (some ⟨g,0,none⟩), .slice A N c] w (RetPlan w (IsRedo s ws)):=by
 have hL:L≤4096:=by obtain ⟨ls,exe,per,cs,lsC,hdc,hnt⟩:=h;exact hdc.hL
 have HD:=hid h
 have HBB:=hid hB
 have HRo:=hid hr
 obtain ⟨i0,hi0,hz0,hz1,hz2⟩:=info_parts infoWrite
 obtain ⟨j0,hj0,hy0,hy1,hy2⟩:=info_parts infoU64
 have HTb:=hid ht
 have HVal:Hid (∀ e∈ws,e.1 < 18446744073709551616∧e.2 < 18446744073709551616):=hid (fun e he=>⟨by have:=(ho e he).lt;omega,hv e he⟩)
 have hz64:64 * s≤1000000:=by omega
 have HLN:=hid (show ws.length=N by have:=hr.1;rw [wrCells_len] at this;omega)
 have f0:w.cell? ⟨g,0,none⟩=some (memV a):=hB.cell 0
 have hq:=eqMem (some ⟨a.th 0,0,none⟩)
 have hmE:=methErr (some ⟨a.th 0,0,none⟩)
 have hmL:=methLoad (some ⟨a.th 0,0,none⟩)
 have hna:=aheadLoad ⟨a.th 0,0,none⟩
 have HLd:Hid (∀ W,Below w.heap.size w W→Calls Tryz.prog 65 #[.pointer (some ⟨a.th 0,0,none⟩), .int .u64 ((64 * s:Nat):Int)] W fun e w'=>e = .returned (.int .u64 0)∧W=w'):=hid (fun W hW=>load_at h (64 * s) 0 (by omega) (by omega) (by rw [show 64 * s / 8=8 * s by omega];exact hidle) W hW)
 have HV1:Hid (∀ i (h:i < ws.length),(ws[i]).1 < 18446744073709551616):=hid (fun i hi=>by have:=(ho _ (List.getElem_mem hi)).lt;omega)
 have HAl:Hid (∀ k (hk:k < ws.length) W,Below w.heap.size w W→Calls Tryz.prog 247 #[.pointer (some ⟨g,0,none⟩), .int .u64 ((ws[k]).1:Int)] W fun e w'=>e = .returned (.bool true)∧Below W.heap.size W w'):=hid (fun k hk W hW =>
  allowedR_any (h.below hW) g s n (hB.below hW hB.lt) hs _ (ho _ (List.getElem_mem hk)))
 have HEr:Hid (∀ W,Below w.heap.size w W→Calls Tryz.prog 112 #[.pointer (some ⟨a.th 0,0,none⟩)] W fun e w'=>e = .returned (.int .i64 0)∧W=w'):=hid (fun W hW=>err_dev (h.below hW) (j:=0) (by omega))
 have HLa:Hid (∀ W,Below w.heap.size w W→Calls Tryz.prog 248 #[.slice A N c] W (RetWr W ws)):=hid (fun W hW=>last_any A N c ws W ((hr.below hW).more hW.size) hd HV1.out (by omega))
 have HB0:Hid (Below w.heap.size w w):=Below.refl _ _
 clear h hB hr ho hd
 unfold memV at *
 go_enter Tryz.func136,Tryz.ntmps136
 go_wp2
 go_loopw [29] (fun i wr=>∃ (k:Nat),k≤N∧i = .int .i64 k∧Hid (Below w.heap.size w wr)) (fun i _=>N - (Go.RowKit.intOf i).toNat)
 case atStart=>exact ⟨0,Nat.zero_le _,rfl,HB0⟩
 case round =>
  clear HB0
  obtain ⟨k,hk,rfl,H⟩:=hrel
  by_cases hlt:k < N
  ·obtain ⟨hkl,b,off,hA,hbB,q0,q1⟩:=wr_facts (HRo.out.below H.out) hlt
   subst hA
   have hz5:(0:Int)≤(k:Int):=by omega
   have hz6:(k:Int) < (N:Int):=by omega
   have hba:Below w.heap.size w (wr.alloc (.cells #[.int .u64 ((ws[k]).1:Int), .int .u64 ((ws[k]).2:Int)] 114)):=H.out.alloc H.out.size _
   have HA:=hid (HAl.out k hkl _ hba)
   have HBa:=hid hba
   clear hba
   generalize ws[k]=o at *
   go_wp2_with fail
   refine HA.out.mono ?_
   rintro e1 w2 ⟨rfl,hb2⟩
   have HB2:=hid (HBa.out.trans (hb2.mono HBa.out.size))
   clear hb2 HA H HBa
   go_wp2
   go_roundw
   case rel =>
    first
     | exact ⟨k+1,by omega,by go_num,HB2⟩
     | (
       repeat apply Exists.intro
       refine ⟨?_,rfl⟩
       exact ⟨k+1,by omega,by go_num,HB2⟩)
   case measure=>simp [Go.RowKit.intOf];omega
  ·have hkN:k=N:=by omega
   subst hkN
   clear HAl
   go_wp2_with fail
   refine (HLa.out wr H.out).mono ?_
   rintro e1 w1 ⟨A1,m1,c1,rfl,hm1,ho1,hb1⟩
   have HB1:=hid (H.out.trans (hb1.mono H.out.size))
   have HO1:=hid ho1
   have hmk:m1=k:=by have:=HLN.out;omega
   subst hmk
   have g0:w1.cell? ⟨g,0,none⟩=some (.iface 58 (.pointer (some ⟨a.th 0,0,none⟩))):=(HBB.out.below HB1.out HBB.out.lt).cell 0
   have g1:w1.cell? ⟨g,1,none⟩=some (.int .u64 ((64 * s:Nat):Int)):=(HBB.out.below HB1.out HBB.out.lt).cell 1
   have HE1:=hid (HEr.out w1 HB1.out)
   clear hm1 ho1 hb1 HLa H
   go_wp2_with fail
   refine HE1.out.mono ?_
   rintro e w2 ⟨rfl,rfl⟩
   have HB1d:=hid (below_drewN HB1.out 1)
   generalize hz:64 * s=z at *
   have HZ:=hid hz
   clear hz
   go_wp2_with fail
   go_cut [10] from 18 to 132 (fun v wx=>v = .int .u64 0∧Hid (Below w1.heap.size w1 wx))
   case first =>
    go_region_with (go_at_call 65;refine (HLd.out _ HB1d.out).mono ?_;rintro e w3 ⟨rfl,rfl⟩)
    all_goals (go_wp2_with fail;go_meet;exact ⟨rfl,(Below.refl _ w1).drew⟩)
   case rest =>
    obtain ⟨rfl,HW⟩:=hcut
    rename World=>wz
    have HBz:=hid (HB1.out.trans (HW.out.mono HB1.out.size))
    have HE2:=hid (HEr.out wz HBz.out)
    have HOz:=hid (own_below HO1.out HW.out)
    clear HW HE1 HB1d HLd
    have hBk:=HBB.out.below HBz.out HBB.out.lt
    have d0:wz.cell? ⟨g,0,none⟩=some (.iface 58 (.pointer (some ⟨a.th 0,0,none⟩))):=hBk.cell 0
    have d1:wz.cell? ⟨g,1,none⟩=some (.int .u64 (z:Int)):=by rw [← HZ.out];exact hBk.cell 1
    clear hBk g0 g1
    rcases Nat.eq_zero_or_pos m1 with h0 | h0
    ·subst h0
     have hws:ws=[]:=List.eq_nil_of_length_eq_zero HLN.out
     go_wp2_with fail
     refine HE2.out.mono ?_
     rintro e w2 ⟨rfl,rfl⟩
     go_wp2
     go_ret2
     exact ⟨_,_,_,[],rfl, .inl ⟨hws,rfl⟩,World.ownsRow_nil _ _ _ _,HBz.out⟩
    ·have e9:((m1:Int) == 0)=false:=by rw [beq_eq_false_iff_ne];omega
     have hrd:=hid ((Reads.of_own HOz.out).more (Nat.le_refl _))
     have HO0:Hid (wz.ownsRow wz.heap.size 114 2 (.slice none 0 0) 0 (wrCells (entW z 0 (ws.take 0)))):=World.ownsRow_nil _ _ _ _
     have HU0:Hid (wz.ownsRow wz.heap.size 32 1 (.slice none 0 0) 0 (uCells (flatW (ws.take 0)))):=World.ownsRow_nil _ _ _ _
     have HQ0:Hid (Below wz.heap.size wz wz):=Below.refl _ _
     clear hidle
     go_wp2_with fail
     refine HE2.out.mono ?_
     rintro e w2 ⟨rfl,rfl⟩
     clear HE2 hmE
     go_wp2
     go_loopw [12,13,78] (fun l u i wr=>∃ (t:Nat) (A2:Option Addr) (m2 c2:Nat) (A3:Option Addr) (m3 c3:Nat),t≤m1∧i = .int .i64 t∧l = .slice A2 m2 c2∧u = .slice A3 m3 c3∧Hid (m2=2 * t∧m3=2 * t)∧Hid (wr.ownsRow wz.heap.size 114 2 (.slice A2 m2 c2) m2 (wrCells (entW z 0 (ws.take t))))∧Hid (wr.ownsRow wz.heap.size 32 1 (.slice A3 m3 c3) m3 (uCells (flatW (ws.take t))))∧Hid (Below wz.heap.size wz wr)) (fun _ _ i _=>m1 - (Go.RowKit.intOf i).toNat)
     case atStart=>exact ⟨0,_,_,_,_,_,_,Nat.zero_le _,rfl,rfl,rfl,hid ⟨rfl,rfl⟩,HO0,HU0,HQ0⟩
     case round =>
      clear HO0 HU0 HQ0
      obtain ⟨t,A2,m2,c2,A3,m3,c3,ht,rfl,rfl,rfl,HM,HO,HU,HQ⟩:=hrel
      by_cases hlt4:t < m1
      ·obtain ⟨htl,b,off,hA,hbB,q0,q1⟩:=wr_facts (hrd.out.below HQ.out) hlt4
       subst hA
       have hz5:(0:Int)≤(t:Int):=by omega
       have hz6:(t:Int) < (m1:Int):=by omega
       have HTS:=hid (takeS ws t htl)
       have HEn4:=hid (entW_snoc z (ws.take t) 0 (ws[t]))
       have HFl:=hid (flatW_snoc (ws.take t) (ws[t]))
       rw [← HTS.out,show (ws.take t).length=t by simp;omega,Nat.zero_add] at HEn4
       rw [← HTS.out] at HFl
       generalize ws[t]=e at *
       have u1:IntKind.u64.wrap ((z:Int)+64)=((z+64:Nat):Int):=by rw [IntKind.wrap_u64];omega
       have u2:IntKind.u64.wrap (t:Int)=(t:Int):=by rw [IntKind.wrap_u64];omega
       have u3:IntKind.u64.wrap ((t:Int) * 16)=((16 * t:Nat):Int):=by rw [IntKind.wrap_u64];omega
       have u4:IntKind.u64.wrap (((z+64:Nat):Int)+((16 * t:Nat):Int))=((z+64+16 * t:Nat):Int):=by rw [IntKind.wrap_u64];omega
       have u5:IntKind.u64.wrap (((z+64+16 * t:Nat):Int)+8)=((z+64+16 * t+8:Nat):Int):=by rw [IntKind.wrap_u64];omega
       have hmm2:=HM.out.1
       have hmm3:=HM.out.2
       subst hmm2
       subst hmm3
       have HBk:=hid (Blk.new wr 114 #[.int .u64 (e.1:Int), .int .u64 (e.2:Int)])
       have HOa:=hid (HO.out.alloc (.cells #[.int .u64 (e.1:Int), .int .u64 (e.2:Int)] 114))
       have HUa:=hid (HU.out.alloc (.cells #[.int .u64 (e.1:Int), .int .u64 (e.2:Int)] 114))
       have HQa:=hid (HQ.out.alloc HQ.out.size (.cells #[.int .u64 (e.1:Int), .int .u64 (e.2:Int)] 114))
       have HNE:Hid (∀ g',(Value.slice A2 (2 * t) c2).ownBlock=some g'→g' < wr.heap.size):=fun g' hg'=>(HO.out.lt g' hg').2
       have f1:wr.cell? ⟨g,1,none⟩=some (.int .u64 (z:Int)):=(World.cell?_of_block (HQ.out.block g (by have:=HBB.out.below HBz.out HBB.out.lt;exact this.lt))).trans d1
       have hlg:g < wr.heap.size:=by have h1:=(HBB.out.below HBz.out HBB.out.lt).lt;have h2:=HQ.out.size;omega
       clear HO HQ HU HM
       generalize z+64+16 * t+8=y2 at *
       generalize z+64+16 * t=y at *
       generalize z+64=x at *
       generalize 16 * t=q at *
       go_wp2_with (at_builtin;refine stop ?_)
       unfold Stop
       refine wpList_app2 _ (.tmp 92) (.tmp 97) 108 rfl rfl wz.heap.size 114 i0 _ 2 16 Tryz.underlying108 hi0 hz0 hz1 hz2 rfl (by omega) (.slice A2 (2 * t) c2) (2 * t) (wrCells (entW z 0 (ws.take t))) rfl (HOa.out.alloc _) (wr.heap.size+1+1) (some ⟨wr.heap.size+1,0,none⟩) 1 1 [.int .u64 (y:Int), .int .u64 (e.1:Int)] rfl (row_reads_at _ _ (by simp) _ 1 2 114 _ rfl rfl) (u64s_one _ _) (by unfold maxLen;omega) (by omega) (by have:=HQa.out.size;simp;simp at this;omega) ?_
       intro A4 n4 c4 w5 hn4 ho4 hg4 hp4
       have hb4:Below wz.heap.size _ w5:=(Below.refl _ _).grown hg4 (by have:=HQa.out.size;simp;simp at this;omega) (fun j hj=>(HOa.out.lt j hj).1)
       have hk5:=(HBk.out.alloc (.cells #[.int .u64 (y:Int), .int .u64 (e.1:Int)] 114)).grown hg4 (fun e=>by have:=HNE.out _ e.symm;omega)
       have HBk5:=hid hk5
       have d5:w5.cell? ⟨wr.heap.size,1,none⟩=some (.int .u64 (e.2:Int)):=hk5.cell 1
       have HO5:=hid ho4
       have HU5:=hid ((HUa.out.alloc (.cells #[.int .u64 (y:Int), .int .u64 (e.1:Int)] 114)).kept hg4 (own_own_ne HUa.out HOa.out (by decide)))
       have HQ5:=hid ((HQa.out.alloc HQa.out.size _).trans hb4)
       have HN5:Hid (∀ g',(Value.slice A4 n4 c4).ownBlock=some g'→g'≠wr.heap.size):=hid (fun g' hg' e=>by
        rcases hp4 with h | h
        ·have:=HNE.out g' (h.symm.trans hg');omega
        ·rw [h] at hg';simp at hg';omega)
       have hn4':n4=2 * t+1:=by omega
       subst hn4'
       have hl5:wr.heap.size < w5.heap.size:=hk5.lt
       clear hn4 ho4 hg4 hb4 hp4 hk5 HBk HOa HUa HQa HNE
       go_wp2_with (at_builtin;refine stop ?_)
       unfold Stop
       refine wpList_app _ (.tmp 99) (.tmp 105) 108 rfl rfl wz.heap.size 114 i0 _ 2 16 Tryz.underlying108 hi0 hz0 hz1 hz2 rfl (by omega) (.slice A4 (2 * t+1) c4) (2 * t+1) _ rfl (HO5.out.alloc _) (w5.heap.size+1) (some ⟨w5.heap.size,0,none⟩) 1 1 [.int .u64 (y2:Int), .int .u64 (e.2:Int)] rfl (row_reads_at _ _ rfl _ 1 2 114 _ rfl rfl) (u64s_one _ _) (by unfold maxLen;omega) (by omega) (by have:=HQ5.out.size;simp;omega) ?_
       intro A5 n5 c5 w6 hn5 ho5 hg5 hb5
       have HO6:Hid (w6.ownsRow wz.heap.size 114 2 (.slice A5 n5 c5) n5 (wrCells (entW z 0 (ws.take (t+1))))):=hid (by rw [HEn4.out,show ∀ l:List (Nat × Nat),l++[(y,e.1),(y2,e.2)]=(l++[(y,e.1)])++[(y2,e.2)] from fun l=>by simp,wrCells_snoc,wrCells_snoc];exact ho5)
       have HQ6:=hid ((HQ5.out.alloc HQ5.out.size _).trans hb5)
       have HU6:=hid ((HU5.out.alloc (.cells #[.int .u64 (y2:Int), .int .u64 (e.2:Int)] 114)).kept hg5 (own_own_ne HU5.out HO5.out (by decide)))
       have hk6:=(HBk5.out.alloc (.cells #[.int .u64 (y2:Int), .int .u64 (e.2:Int)] 114)).grown hg5 (fun e=>HN5.out _ e.symm rfl)
       have d6:w6.cell? ⟨wr.heap.size,0,none⟩=some (.int .u64 (e.1:Int)):=hk6.cell 0
       have d7:w6.cell? ⟨wr.heap.size,1,none⟩=some (.int .u64 (e.2:Int)):=hk6.cell 1
       have hl6:wr.heap.size < w6.heap.size:=hk6.lt
       have HN6:Hid (n5=2 * (t+1)):=hid (by omega)
       clear hn5 ho5 hg5 hb5 hk6 HO5 HU5 HQ5 HBk5 HN5 d5
       go_wp2_with (at_builtin;refine stop ?_)
       unfold Stop
       refine wpList_app _ (.tmp 107) (.tmp 112) 99 rfl rfl wz.heap.size 32 j0 _ 1 8 Tryz.underlying99 hj0 hy0 hy1 hy2 rfl (by omega) (.slice A3 (2 * t) c3) (2 * t) _ rfl (HU6.out.alloc _) (w6.heap.size+1) (some ⟨w6.heap.size,0,none⟩) 2 2 [.int .u64 (e.1:Int), .int .u64 (e.2:Int)] rfl (row_reads_at _ _ rfl _ 2 1 32 _ rfl rfl) (u64s_one _ _) (by unfold maxLen;omega) (by omega) (by have:=HQ6.out.size;simp;omega) ?_
       intro A6 n6 c6 w7 hn6 ho6 hg6 hb6
       have HU7:Hid (w7.ownsRow wz.heap.size 32 1 (.slice A6 n6 c6) n6 (uCells (flatW (ws.take (t+1))))):=hid (by rw [HFl.out];show w7.ownsRow _ _ _ _ _ (uCells (flatW (ws.take t)++[e.1,e.2]));unfold uCells;rw [List.map_append];exact ho6)
       have HO7:=hid ((HO6.out.alloc (.cells #[.int .u64 (e.1:Int), .int .u64 (e.2:Int)] 32)).kept hg6 (own_own_ne HO6.out HU6.out (by decide)))
       have HQ7:=hid ((HQ6.out.alloc HQ6.out.size _).trans hb6)
       have HM7:Hid (n5=2 * (t+1)∧n6=2 * (t+1)):=hid ⟨HN6.out,by omega⟩
       clear hn6 ho6 hg6 hb6 HO6 HU6 HQ6 HN6 d6 d7
       go_wp2
       go_roundw
       case rel =>
        first
         | exact ⟨t+1,_,_,_,_,_,_,by omega,by go_num,rfl,rfl,HM7,HO7,HU7,HQ7⟩
         | (
           repeat apply Exists.intro
           refine ⟨?_,rfl⟩
           exact ⟨t+1,_,_,_,_,_,_,by omega,by go_num,rfl,rfl,HM7,HO7,HU7,HQ7⟩)
       case measure=>simp [Go.RowKit.intOf];omega
      ·have htm:m1=t:=by omega
       subst htm
       have htk:ws.take m1=ws:=List.take_of_length_le (by have:=HLN.out;omega)
       rw [htk] at HO HU
       have hmm2:=HM.out.1
       have hmm3:=HM.out.2
       subst hmm2
       subst hmm3
       have HBr:=hid (HBz.out.trans (HQ.out.mono HBz.out.size))
       have HWd:=hid (words_any A3 (2 * m1) c3 wr.heap.size (flatW ws) wr (Reads.of_own HU.out) (fun x hx=>by
        obtain ⟨e,he,h | h⟩:=flatW_mem ws x hx
        ·rw [h];exact (HVal.out e he).1
        ·rw [h];exact (HVal.out e he).2) (by omega) (HTb.out.below HBr.out))
       have u1:IntKind.u64.wrap (m1:Int)=(m1:Int):=by rw [IntKind.wrap_u64];omega
       go_wp2_with fail
       refine HWd.out.mono ?_
       rintro e w2 ⟨v,hv,rfl,rfl⟩
       have u2:IntKind.u64.wrap (v:Int)=(v:Int):=by rw [IntKind.wrap_u64];omega
       obtain ⟨cm,hcm,hcl⟩:∃ cm:Nat,bits BinOp.or IntKind.u64 (m1:Int) ((v:Int) * 4294967296)=(cm:Int)∧cm < 18446744073709551616:=by
        refine ⟨m1+v * 4294967296,?_,by omega⟩
        have h:=Go.u64_or32 (y:=(m1:Int)) (x:=(v:Int) * 4294967296) (by omega) (by omega) (by omega) (by omega) (by omega)
        rw [h]
        omega
       have hfl:ws.length=m1:=HLN.out
       have HBk:=hid (HBB.out.below HBr.out HBB.out.lt)
       have HSt:=hid (stores_small A2 (2 * m1) c2 _ wr (Reads.of_own HO.out) (by omega) (by omega) (fun e he=>by
        obtain ⟨j2,h1,h2,_⟩:=entW_mem _ _ _ _ he
        omega))
       have HMk:Hid (∀ W,Below wr.heap.size wr W→Calls Tryz.prog 170 #[.pointer (some ⟨g,0,none⟩), .int .u64 (cm:Int)] W (RetProg W (IsStores [(z,cm)]))):=hid (fun W hW=>by
        have h:=mark_any a s n g cm W (HBk.out.below hW HBk.out.lt) (by omega)
        rw [HZ.out] at h
        exact h)
       have HFi:Hid (∀ W,Below wr.heap.size wr W→Calls Tryz.prog 250 #[.pointer (some ⟨g,0,none⟩), .slice A1 m1 c1] W (RetProg W (IsTwo ws [(z,0)]))):=hid (fun W hW=>by
        have hr:=hrd.out.below (HQ.out.trans (hW.mono HQ.out.size))
        have h:=finish_any a s n g A1 m1 c1 ws W (hr.more (Nat.le_trans HQ.out.size hW.size)) h0 (by omega) (fun e he=>(HVal.out e he).1) (HBk.out.below hW HBk.out.lt) (by omega)
        rw [HZ.out] at h
        exact h)
       clear HWd HU HO
       go_wp2_with fail
       refine HSt.out.mono ?_
       rintro e1 w4 ⟨B1,n1,d1,p1,rfl,hp1,ho1,hb1⟩
       have HP1:=hid hp1
       have HO1:=hid ho1
       have HB4:=hid hb1
       have HMk4:=hid (HMk.out w4 hb1)
       clear hp1 ho1 hb1 HSt
       go_wp2_with fail
       refine HMk4.out.mono ?_
       rintro e1 w5 ⟨B2,n2,d2',p2,rfl,hp2,ho2,hb2⟩
       have HP2:=hid hp2
       have HB5:=hid (HB4.out.trans (hb2.mono HB4.out.size))
       have hl1:n1≤390:=by
        have h1:=HO1.out.1
        have h2:=isStores_len HP1.out
        rw [insCells_len] at h1
        rw [entW_len] at h2
        omega
       have hl2:n2≤3:=by
        have h1:=ho2.1
        have h2:=isStores_len HP2.out
        rw [insCells_len] at h1
        simp at h2
        omega
       have HTh:=hid (then_any B1 B2 n1 d1 n2 d2' p1 p2 w5 (Reads.of_own (own_below HO1.out hb2)) (Reads.of_own ho2) (by omega) (by omega))
       clear hp2 ho2 hb2 HMk4 HO1
       go_wp2_with fail
       refine HTh.out.mono ?_
       rintro e1 w6 ⟨B3,n3,d3,rfl,hn3,ho3,hb3⟩
       have HO3:=hid ho3
       have HB6:=hid (HB5.out.trans (hb3.mono HB5.out.size))
       have HFi6:=hid (HFi.out w6 HB6.out)
       have hl3:n3≤393:=by omega
       clear hn3 ho3 hb3 HTh
       go_wp2_with fail
       refine HFi6.out.mono ?_
       rintro e1 w7 ⟨B4,n4,d4,p4,rfl,hp4,ho4,hb4⟩
       have HP4:=hid hp4
       have HB7:=hid (HB6.out.trans (hb4.mono HB6.out.size))
       have hl4:n4≤200:=by
        have h1:=ho4.1
        have h2:=isTwo_len HP4.out
        rw [insCells_len] at h1
        simp at h2
        omega
       have HTh2:=hid (then_any B3 B4 n3 d3 n4 d4 (p1++p2) p4 w7 (Reads.of_own (own_below HO3.out hb4)) (Reads.of_own ho4) (by omega) (by omega))
       clear hp4 ho4 hb4 HFi6 HO3
       go_wp2_with fail
       refine HTh2.out.mono ?_
       rintro e1 w8 ⟨B5,n5,d5,rfl,hn5,ho5,hb5⟩
       have HO5:=hid ho5
       have HB8:=hid (HBr.out.trans ((HB7.out.trans (hb5.mono HB7.out.size)).mono HBr.out.size))
       have HZ7:=hid (Nat.le_trans HBr.out.size HB7.out.size)
       clear hn5 ho5 hb5 HTh2
       go_wp2
       go_ret2
       have hz:=HZ.out
       subst hz
       exact ⟨_,_,_,_,rfl, .inr ⟨fun h=>by rw [h] at hfl;simp at hfl;omega,cm,p1,p2,p4,hcl,HP1.out,HP2.out,HP4.out,rfl⟩,own_le HO5.out HZ7.out,HB8.out⟩
end
section
open Go.RowKit
theorem image_still {a:DA} {L:Nat} {w:World} {cur:Nat→Nat} (h:Still a L cur w) (hb:∀ i,cur i < 18446744073709551616) (h0:0 < L) (A:Option Addr) (n c:Nat) :
  Calls Tryz.prog 94 #[.pointer (some ⟨a.d,0,none⟩), .slice A n c] w (RetByo w (unpB ((List.range (8 * L)).map cur) (64 * L))):=by
 obtain ⟨xs,hxs⟩:∃ xs,(List.range (8 * L)).map cur=xs:=⟨_,rfl⟩
 have hlen:xs.length=8 * L:=by rw [← hxs];simp
 have hx64:∀ x∈xs,x < 18446744073709551616:=fun x hx=>by
  rw [← hxs] at hx
  obtain ⟨i,_,rfl⟩:=List.mem_map.1 hx
  exact hb i
 have h5:=h.hL
 have hd:=h.dev
 have hper:=h.per
 rw [hxs] at hper ⊢
 have HDr:=hid (fun W (hW:Below w.heap.size w W)=>dirty_still (h.below hW))
 obtain ⟨exe,h1⟩:=hd
 have f0:w.cell? ⟨a.d,0,none⟩=some (.slice (some ⟨a.pb,0,none⟩) (8 * L) (8 * L)):=h1.cell 0
 have hrd:=uA_reads hper
 rw [hlen] at hrd
 have HCl:=hid (cloneU_any ⟨a.pb,0,none⟩ (8 * L) (8 * L) xs w hrd (by omega))
 have HBy:=hid (fun (A:Option Addr) (c:Nat) (W:World) (hr:Reads W W.heap.size 1 A (8 * L) (uCells xs))=>bytesOf_any A (8 * L) c (64 * L) xs W hr hx64 (by omega) (by omega))
 generalize unpB xs (64 * L)=bs at *
 generalize 8 * L=q at *
 clear h hb hper h1 hrd hlen hx64 hxs h0 h5
 by_cases hn:0 < n
 ·have d1:decide ((0:Int) < (n:Int))=true:=decide_eq_true (by omega)
  have d2:(0:Int) < (n:Int):=by omega
  go_enter Tryz.func94,Tryz.ntmps94
  go_wp2_with (first
   | (go_at_call 190;refine HCl.out.mono ?_;rintro e w1 ⟨A1,m1,c1,rfl,rfl,ho1,hb1⟩;have HR1:=hid (Reads.of_own ho1);have HB1:=hid hb1;have HD1:=hid (HDr.out _ hb1);clear ho1 hb1)
   | (go_at_call 191;refine HD1.out.mono ?_;rintro e w2 ⟨rfl,rfl⟩)
   | fail)
  refine wp_loop_rounds 1 ?_
  rw [rounds_succ]
  have HF:=hid (HBy.out _ c1 _ HR1.out)
  go_wp2_with (first
   | (go_at_call 193;refine HF.out.mono ?_;rintro e w3 ⟨g,rfl,h3,hb3⟩;have H3:=hid h3;have HB3:=hid (HB1.out.trans (hb3.mono HB1.out.size));clear h3 hb3)
   | fail)
  go_ret
  exact ⟨g,rfl,H3.out,HB3.out⟩
 ·have d1:decide ((0:Int) < (n:Int))=false:=decide_eq_false (by omega)
  have d2:¬ (0:Int) < (n:Int):=by omega
  go_enter Tryz.func94,Tryz.ntmps94
  go_wp2_with (first
   | (go_at_call 190;refine HCl.out.mono ?_;rintro e w1 ⟨A1,m1,c1,rfl,rfl,ho1,hb1⟩;have HR1:=hid (Reads.of_own ho1);have HB1:=hid hb1;have HF:=hid (HBy.out _ c1 _ HR1.out);clear ho1 hb1)
   | (go_at_call 193;refine HF.out.mono ?_;rintro e w3 ⟨g,rfl,h3,hb3⟩;have H3:=hid h3;have HB3:=hid (HB1.out.trans (hb3.mono HB1.out.size));clear h3 hb3)
   | fail)
  go_ret
  exact ⟨g,rfl,H3.out,HB3.out⟩
theorem Dev.congr {a:DA} {L T:Nat} {w:World} {S:Fp} {cur cur':Nat→Nat} {F:Nat} (h:Dev a L T w S cur F) (e:∀ k,k < 8 * L→cur k=cur' k):Dev a L T w S cur' F:=by
 obtain ⟨s,exe,per,cs,ls,hc,hn,hcl⟩:=h
 exact ⟨s,exe,per,cs,ls,{ hc with curI:=fun i hi=>by rw [← e i hi];exact hc.curI i hi,link:=fun k hk=>by rw [← e k hk];exact hc.link k hk },hn,hcl⟩
theorem crashD_still (D:Nat→Prop) {a:DA} {L:Nat} {w:World} {cur:Nat→Nat} (h:Still a L cur w) (hb:∀ i,cur i < 18446744073709551616) (h0:0 < L) (A:Option Addr) (n c:Nat) :
  Calls Tryz.prog 16 #[.pointer (some ⟨a.d,0,none⟩), .slice A n c] w (RetNew w L D (fun d => .pointer (some ⟨d,0,none⟩)) cur):=by
 have hL:=h.hL
 have HI:=hid (image_still h hb h0 A n c)
 have hlen:(unpB ((List.range (8 * L)).map cur) (64 * L)).length=64 * L:=unpB_len _ _
 have hb256:∀ b∈unpB ((List.range (8 * L)).map cur) (64 * L),b < 256:=fun b hb=>by
  unfold unpB at hb
  obtain ⟨i,_,rfl⟩:=List.mem_map.1 hb
  exact Nat.mod_lt _ (by omega)
 have HFr:Hid (∀ (g:Nat) (W:World),Below w.heap.size w W→Reads W W.heap.size 1 (some ⟨g,0,none⟩) (64 * L) (u8s (unpB ((List.range (8 * L)).map cur) (64 * L)))→Calls Tryz.prog 93 #[.slice (some ⟨g,0,none⟩) (64 * L) (64 * L)] W fun e w'=>∃ d:Nat,e = .returned (.tuple #[.pointer (some ⟨d,0,none⟩), .int .i64 0])∧RetNew w L D (fun d => .pointer (some ⟨d,0,none⟩)) cur (.returned (.pointer (some ⟨d,0,none⟩))) w'):=hid (fun g W hW hr=>by
  refine (from_any D g L _ W hr hb256 h0 hL).mono ?_
  rintro e w' ⟨a',S',rfl,hD,hdev,hS,hbl⟩
  refine ⟨a'.d,rfl,a',S',rfl,hD,?_,fun k hk=>Nat.le_trans hW.size (hS k hk),hW.trans (hbl.mono hW.size)⟩
  refine hdev.congr (fun k hk=>?_)
  have e1:=pack_unp (xs:=(List.range (8 * L)).map cur) (fun x hx=>by obtain ⟨i,_,rfl⟩:=List.mem_map.1 hx;exact hb i)
  have e2:8 * ((List.range (8 * L)).map cur).length=64 * L:=by simp;omega
  rw [e2] at e1
  rw [e1]
  simp [List.getD_eq_getElem?_getD,hk])
 generalize unpB ((List.range (8 * L)).map cur) (64 * L)=bs at *
 clear h hb hb256
 go_enter Tryz.func16,Tryz.ntmps16
 go_wp2_with (first
  | (go_at_call 94;refine HI.out.mono ?_;rintro e w1 ⟨g,rfl,hr1,hb1⟩;rw [hlen] at hr1 ⊢;have HF1:=hid (HFr.out g _ hb1 hr1);clear hr1 hb1)
  | (go_at_call 93;refine HF1.out.mono ?_;rintro e w2 ⟨d,rfl,h2⟩;have HZ:=hid h2;clear h2)
  | fail)
 go_ret
 exact HZ.out
end
section
open Go.RowKit Go.Maps
def csN:CS:=⟨false,0,1,0,fun _=>⟨1,0,176⟩⟩
theorem setIs_plc {a:DA} {s K base g:Nat} {w:World} (h:SetIs a s K w base g) (h1:1≤K):∃ pl,base≤pl∧Plc a s K ⟨g,pl,0⟩ (fun _=>csN) w:=by
 obtain ⟨A,m,c,hB,hm,ho⟩:=h
 subst hm
 rcases ho.2 with ⟨_,h0⟩ | ⟨pl,cap,cur,hv,hge,hb,h2,h3,h4,h5⟩
 ·omega
 ·injection hv with e1 e2 e3
  subst e1 e3
  refine ⟨pl,hge,⟨_,hB⟩,cur,hb,fun k hk=>?_⟩
  obtain ⟨p0,p1,p2,p3⟩:=plCells_at s m k hk
  have hg:∀ (j:Nat) (u:Value),(plCells s m)[j]?=some u→cur[0+j]?=some u:=fun j u hu=>by
   rw [← h5] at hu
   rw [Nat.zero_add,← Array.getElem?_toList]
   have hj:=(List.getElem?_eq_some_iff.1 hu).1
   rw [List.length_take] at hj
   rw [List.getElem?_take_of_lt (by omega)] at hu
   exact hu
  refine ⟨hg _ _ p0,?_,?_,false,?_⟩
  ·rw [Nat.add_assoc];exact hg _ _ p1
  ·rw [Nat.add_assoc];exact hg _ _ p2
  ·rw [Nat.add_assoc];exact hg _ _ p3
def RetHop (a:DA) (s n K:Nat) (w:World) (e:Ending) (w':World):Prop:=∃ x:HA,e = .returned (.tuple #[.pointer (some ⟨x.h,0,none⟩), .int .i64 0])∧HS a s n K x (fun _=>csN) (fun _=>none) 0 0 w'∧(w.heap.size≤x.h∧w.heap.size≤x.gs∧w.heap.size≤x.pl∧w.heap.size≤x.mr∧w.heap.size≤x.mh)∧Below w.heap.size w w'
theorem heapOpenS_any {a:DA} {L T:Nat} {w:World} {S:Fp} {cur:Nat→Nat} {F:Nat} (h:Dev a L T w S cur F) (ht:Tab w) (s n K:Nat) (hn:32≤n) (hs:s+n≤L) (hK:n / 32=K) (hv:∀ k,k < K→cur (8 * (s+32 * k))=freeW 1) :
  Calls Tryz.prog 181 #[memV a, .int .i64 (s:Int), .int .i64 (n:Int)] w (RetHop a s n K w):=by
 have HA:=hid (arenaOpen_any h ht s n K hn hs hK hv)
 have hL:L≤4096:=by obtain ⟨ls,exe,per,cs,lsC,hdc,hnt⟩:=h;exact hdc.hL
 have hmm1:∀ W,(Instr.makeMap 190 none).run Tryz.prog W = .ok (.map (some W.heap.size)) (W.alloc (.map #[] 0)):=fun _=>rfl
 have hmm2:∀ W,(Instr.makeMap 191 none).run Tryz.prog W = .ok (.map (some W.heap.size)) (W.alloc (.map #[] 0)):=fun _=>rfl
 have hK2:K≤128:=by omega
 have hK1:1≤K:=by omega
 clear h ht hv hK hn hs
 unfold memV at HA
 unfold memV
 go_enter Tryz.func181,Tryz.ntmps181
 go_wp2_with (first
  | (go_at_call 288;refine HA.out.mono ?_;rintro e w1 ⟨rfl,hset,hb1⟩;have HS1:=hid hset;have HB1:=hid hb1;have HL:=hid (lines_any HS1.out hK2);clear hset hb1)
  | (go_at_call 197;refine HL.out.mono ?_;rintro e w2 ⟨A,m,c,l,rfl,hm,ho,hb2⟩;have HO:=hid (Reads.of_own ho);have HS2:=hid (HS1.out.below hb2);have HB2:=hid (HB1.out.trans (hb2.mono HB1.out.size));clear ho hb2)
  | go_in)
 have HW:=hid (fun x=>owner_any HS2.out hK2 x)
 clear HA HL HS1 HB1
 go_loopw [28] (fun i wr=>∃ (k:Nat),k≤m∧i = .int .i64 k∧w2=wr) (fun i _=>m - (Go.RowKit.intOf i).toNat)
 case atStart=>exact ⟨0,Nat.zero_le _,rfl,rfl⟩
 case round =>
  obtain ⟨k,hk,rfl,rfl⟩:=hrel
  by_cases hlt:k < m
  ·obtain ⟨b,off,x,hA,hbB,f0⟩:=i_facts HO.out hlt
   subst hA
   have hz5:(0:Int)≤(k:Int):=by omega
   have hz6:(k:Int) < (m:Int):=by omega
   go_wp2_with (first
    | (go_at_call 289;refine (HW.out _).mono ?_;rintro e w3 ⟨rfl,rfl⟩)
    | go_in)
   go_roundw
   case rel =>
    first
     | exact ⟨k+1,by omega,by go_num,trivial⟩
     | exact ⟨k+1,by omega,by go_num,rfl⟩
     | (
       repeat apply Exists.intro
       refine ⟨?_,rfl⟩
       exact ⟨k+1,by omega,by go_num,rfl⟩)
   case measure=>simp [Go.RowKit.intOf];omega
  ·obtain rfl:m=k:=by omega
   go_wp2
   go_ret2
   have e9:((w2.alloc (.map #[] 0)).alloc (.map #[] 0)).heap.size=w2.heap.size+1+1:=by simp
   have hb2:Below w.heap.size w ((w2.alloc (.map #[] 0)).alloc (.map #[] 0)):=(HB2.out.alloc HB2.out.size _).alloc (by have:=HB2.out.size;simp;omega) _
   obtain ⟨pl,hpl,hplc⟩:=setIs_plc HS2.out hK1
   have hsz:=HB2.out.size
   have hb3:∀ V,Below w2.heap.size w2 (((w2.alloc (.map #[] 0)).alloc (.map #[] 0)).alloc V):=fun V=>(((Below.refl _ w2).alloc (Nat.le_refl _) _).alloc (by simp) _).alloc (by simp;omega) _
   have hm1:PMap ((w2.alloc (.map #[] 0)).alloc (.map #[] 0)) w2.heap.size 0 (fun _=>none) 0:=(PMap.new w2).chg ((Chg.refl Fp.no _).alloc _) (fun h=>h)
   have hm2:=HMap.new (w2.alloc (.map #[] 0))
   refine ⟨⟨w2.heap.size+1+1,w.heap.size,pl,0,w2.heap.size,w2.heap.size+1⟩,rfl,⟨by rw [← e9];exact Blk.new _ _ _,hplc.below (hb3 _),hm1.chg ((Chg.refl Fp.no _).alloc _) (fun h=>h),?_,?_⟩,⟨?_,Nat.le_refl _,?_,?_,?_⟩,hb2.alloc (by rw [e9];omega) _⟩
   ·have:=hm2.chg ((Chg.refl Fp.no _).alloc (.cells (heapCells a s n w.heap.size w2.heap.size (w2.heap.size+1) false) 194)) (fun h=>h)
    have e8:(w2.alloc (.map #[] 0)).heap.size=w2.heap.size+1:=by simp
    rw [e8] at this
    exact this
   ·show w2.heap.size≠w2.heap.size+1
    omega
   ·show w.heap.size≤w2.heap.size+1+1
    omega
   ·show w.heap.size≤pl
    omega
   ·exact hsz
   ·show w.heap.size≤w2.heap.size+1
    omega
end
section
open Go.RowKit Go.Maps Go.Shelf
def rdG (s:Nat) (cur:Nat→Nat) (ws:List (Nat × Nat)) (cm:Nat):Nat→Nat:=if ws=[] then cur else wrS (wrS (wrS (wrS cur (entW (64 * s) 0 ws)) [(64 * s,cm)]) ws) [(64 * s,0)]
theorem wrS_oneG (cur:Nat→Nat) (o v i:Nat):wrS cur [(o,v)] i=if i=o / 8 then v else cur i:=rfl
section
variable {cur:Nat→Nat} {ws:List (Nat × Nat)} {cm s:Nat}
theorem rdG_get {L:Nat} (hg:∀ e∈ws,OffOk L s 26 e.1) (hn:(ws.map (·.1)).Nodup) {e:Nat × Nat} (he:e∈ws):rdG s cur ws cm (e.1 / 8)=e.2:=by
 unfold rdG
 have h1:=(hg e he).out
 have h2:=(hg e he).al
 rw [if_neg (fun h=>by rw [h] at he;simp at he),wrS_oneG,if_neg (by omega)]
 exact wrS_get ws _ hn (fun x hx=>(hg x hx).al) e he
theorem rdG_rest (hl:ws.length≤96) {i:Nat} (hi:i < 8 * s∨8 * s+208≤i) (ho:∀ e∈ws,e.1 / 8≠i):rdG s cur ws cm i=cur i:=by
 unfold rdG
 split
 ·rfl
 ·rw [wrS_oneG,if_neg (by omega),wrS_other ws _ _ ho,wrS_oneG,if_neg (by omega),wrS_out s ws 0 i cur (by omega)]
theorem rdG_idle (h:cur (8 * s)=0):rdG s cur ws cm (8 * s)=0:=by
 unfold rdG
 split
 ·exact h
 ·rw [wrS_oneG,if_pos (by omega)]
theorem rdG_bnd (h:∀ i,cur i < 18446744073709551616) (hg:∀ e∈ws,e.1 < 18446744073709551616∧e.2 < 18446744073709551616) (hc:cm < 18446744073709551616) (i:Nat):rdG s cur ws cm i < 18446744073709551616:=by
 unfold rdG
 split
 ·exact h i
 ·refine wrS_bnd _ _ (wrS_bnd _ _ (wrS_bnd _ _ (wrS_bnd _ _ h ?_) ?_) (fun e he=>(hg e he).2)) ?_ i
  ·intro e he
   obtain ⟨j,_,_,x,hx,h1 | h1⟩:=entW_mem _ _ _ _ he
   ·rw [h1];exact (hg x hx).1
   ·rw [h1];exact (hg x hx).2
  ·intro e he
   simp at he
   subst he
   exact hc
  ·intro e he
   simp at he
   subst he
   show 0 < _
   omega
end
theorem run_redoG {a:DA} {L T s:Nat} {w:World} {S:Fp} {cur:Nat→Nat} (h:Dev a L T w S cur 0) {A:Option Addr} {m c base:Nat} {p:List Ins} {ws:List (Nat × Nat)} (ho:w.ownsRow base 284 3 (.slice A m c) m (insCells p)) (hb:∀ k,S k→k < base) (hp:IsRedo s ws p)
  (hw:∀ e∈ws,OffOk L s 26 e.1) (hv:∀ e∈ws,e.2 < 18446744073709551616) (hl:ws.length≤96) (hsL:s+26≤L) (hT:T+800≤1000000000) :
  Calls Tryz.prog 78 #[.slice A m c,memV a] w fun e w'=>∃ cm,cm < 18446744073709551616∧RetDev a L (T+800) w S (rdG s cur ws cm) 0 (.int .i64 0) e w':=by
 have hL:L≤4096:=by obtain ⟨ls,exe,per,cs,lsC,hdc,hnt⟩:=h;exact hdc.hL
 rcases hp with ⟨rfl,rfl⟩ | ⟨hne,cm,p1,p2,p3,hcm,hp1,hp2,⟨p4,p5,hp4,hp5,rfl⟩,rfl⟩
 ·have hm:m=0:=by have:=ho.1;simp [insCells] at this;omega
  subst hm
  refine (run_any h A 0 c [] (Reads.of_own ho) (own_off ho hb) ⟨rfl,fun _ _ h=>h⟩ (by omega) (by omega)).mono ?_
  rintro e w' ⟨he,S',hd,hc,hgr⟩
  exact ⟨0,by omega,he,S',hd.more (by omega) (by omega),hc,hgr⟩
 ·have h1:∀ e∈entW (64 * s) 0 ws,e.1 % 8=0∧e.1 < 64 * L∧e.2 < 18446744073709551616:=fun e he=>by
   obtain ⟨j,hj,h1,x,hx,h2⟩:=entW_mem _ _ _ _ he
   have:=(hw x hx).lt
   have:=hv x hx
   refine ⟨by omega,by omega,?_⟩
   rcases h2 with h2 | h2 <;> omega
  have h2:∀ v,v < 18446744073709551616→∀ e∈[((64 * s:Nat),v)],e.1 % 8=0∧e.1 < 64 * L∧e.2 < 18446744073709551616:=fun v hv e he=>by
   simp only [List.mem_cons,List.not_mem_nil,or_false] at he
   subst he
   exact ⟨by show 64 * s % 8=0;omega,by show 64 * s < 64 * L;omega,hv⟩
  have h3:∀ e∈ws,e.1 % 8=0∧e.1 < 64 * L∧e.2 < 18446744073709551616:=fun e he=>⟨(hw e he).al,(hw e he).lt,hv e he⟩
  obtain ⟨hg1,hr1,hlen1⟩:=isStores_good hp1 h1 cur
  obtain ⟨hg2,hr2,hlen2⟩:=isStores_good hp2 (h2 cm hcm) (wrS cur (entW (64 * s) 0 ws))
  obtain ⟨hg4,hr4,hlen4⟩:=isStores_good hp4 h3 (wrS (wrS cur (entW (64 * s) 0 ws)) [(64 * s,cm)])
  obtain ⟨hg5,hr5,hlen5⟩:=isStores_good hp5 (h2 0 (by omega)) (wrS (wrS (wrS cur (entW (64 * s) 0 ws)) [(64 * s,cm)]) ws)
  have hm:(p1++p2++(p4++p5)).length=m:=by have:=ho.1;rw [insCells_len] at this;omega
  rw [entW_len] at hlen1
  simp only [List.length_append,List.length_cons,List.length_nil] at hm hlen2 hlen5
  refine (run_any h A m c _ (Reads.of_own ho) (own_off ho hb) (goodP_app (goodP_app hg1 hg2) (goodP_app hg4 hg5)) (by omega) (by omega)).mono ?_
  rintro e w' ⟨he,S',hd,hc,hgr⟩
  rw [runP_app,runP_app,runP_app,hr1,hr2,hr4,hr5] at hd
  have hrd:rdG s cur ws cm=wrS (wrS (wrS (wrS cur (entW (64 * s) 0 ws)) [(64 * s,cm)]) ws) [(64 * s,0)]:=by unfold rdG;rw [if_neg hne]
  rw [← hrd] at hd
  exact ⟨cm,hcm,he,S',hd.more (by omega) (by omega),hc,hgr⟩
def RetCmG (a:DA) (L s T':Nat) (w:World) (S:Fp) (cur:Nat→Nat) (ws:List (Nat × Nat)) (e:Ending) (w':World):Prop:=∃ cm,cm < 18446744073709551616∧RetDev a L T' w S (rdG s cur ws cm) 0 (.int .i64 0) e w'
theorem commitG_any {a:DA} {L T s:Nat} {w:World} {S:Fp} {cur:Nat→Nat} (h:Dev a L T w S cur 0) (g:Nat) (hB:Blk w g 353 (logCells a s 26))
  (A:Option Addr) (N c:Nat) (ws:List (Nat × Nat)) (hr:Reads w w.heap.size 2 A N (wrCells ws)) (hd:Diff ws) (ho:∀ e∈ws,OffOk L s 26 e.1) (hv:∀ e∈ws,e.2 < 18446744073709551616) (hN:N≤96) (hidle:cur (8 * s)=0) (ht:Tab w) (hsL:s+26≤L) (hT:T+800≤1000000000) :
  Calls Tryz.prog 137 #[.pointer (some ⟨g,0,none⟩), .slice A N c] w (RetCmG a L s (T+800) w S cur ws):=by
 have HP:=hid (planR_any h g s 26 hB hsL (by omega) A N c ws hr hd ho hv hN hidle ht)
 have hlen:ws.length=N:=by have:=hr.1;rw [wrCells_len] at this;omega
 have HRn:Hid (∀ W A1 m1 c1 p,Below w.heap.size w W→W.ownsRow w.heap.size 284 3 (.slice A1 m1 c1) m1 (insCells p)→IsRedo s ws p→Calls Tryz.prog 78 #[.slice A1 m1 c1,memV a] W fun e w'=>∃ cm,cm < 18446744073709551616∧RetDev a L (T+800) W S (rdG s cur ws cm) 0 (.int .i64 0) e w'):=hid (fun W A1 m1 c1 p hW hown hp =>
  run_redoG (h.below hW) hown h.lt hp ho hv (by omega) hsL hT)
 have HBB:=hid hB
 clear h hB hr hd ho hv hN hidle ht hlen
 go_enter Tryz.func137,Tryz.ntmps137
 go_wp2_with fail
 refine HP.out.mono ?_
 rintro e W1 ⟨A1,m1,c1,p,rfl,hp,ho1,hb1⟩
 have f0:W1.cell? ⟨g,0,none⟩=some (memV a):=(HBB.out.below hb1 HBB.out.lt).cell 0
 have HR:=hid (HRn.out W1 A1 m1 c1 p hb1 ho1 hp)
 have HB1:=hid hb1
 unfold memV at f0
 unfold memV at HR
 clear hp ho1 hb1 HP HRn
 go_wp2_with fail
 refine HR.out.mono ?_
 rintro e W2 ⟨cm,hcm,rfl,S2,hd2,hc2,hg2⟩
 have H2:=hid (show Dev a L (T+800) W2 S2 (rdG s cur ws cm) 0∧Chg S W1 W2∧Grew S S2 W1 from ⟨hd2,hc2,hg2⟩)
 clear hd2 hc2 hg2 HR
 go_wp2
 go_ret
 obtain ⟨hd2,hc2,hg2⟩:=H2.out
 exact ⟨cm,hcm,rfl,S2,hd2,(Chg.of_below HB1.out).trans hc2 (Grew.refl _ _),fun k hk=>(hg2 k hk).imp id (fun h=>Nat.le_trans HB1.out.size h)⟩
end
end Go.Proofs.YtfkjjoglnmeciaaGreatDoor
