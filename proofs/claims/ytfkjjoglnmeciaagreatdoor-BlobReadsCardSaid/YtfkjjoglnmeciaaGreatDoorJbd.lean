/- The walks and laws that the claim leans on, part 30. -/
import Derived.Test.YtfkjjoglnmeciaaGreatDoorJas
import Derived.Test.YtfkjjoglnmeciaaGreatDoorJba
import Derived.Test.YtfkjjoglnmeciaaGreatDoorJbc
set_option maxRecDepth 100000
set_option maxHeartbeats 16000000
namespace Go.Proofs.YtfkjjoglnmeciaaGreatDoor
open Go.Lib (hid)
section
open Go.RowKit
section
theorem freed_any (b:BK) (hb:b.In) (w:World):Calls Tryz.prog 361 #[b.v] w fun e w'=>e = .returned (freedB b).v∧Below w.heap.size w w':=by
 obtain ⟨g,k,s⟩:=b
 obtain ⟨hg,hk,hs⟩:=hb
 dsimp only at hg hk hs
 unfold BK.v freedB
 dsimp only
 have HB:Hid (Below w.heap.size w ((w.alloc (.cells #[.int .u16 (g:Int), .int .u8 (k:Int), .int .u8 (s:Int)] 401)).alloc (.cells #[.int .u16 0, .int .u8 0, .int .u8 0] 401))):=hid (((Below.refl _ w).alloc (Nat.le_refl _) _).alloc (by simp) _)
 by_cases h1:g=65535
 ·subst h1
  rw [if_pos rfl]
  go_enter Tryz.func361,Tryz.ntmps361
  go_wp2
  have hk2:=Blk.new2 w (.cells #[.int .u16 65535, .int .u8 (k:Int), .int .u8 (s:Int)] 401) 401 #[.int .u16 65535, .int .u8 0, .int .u8 178]
  have hb2:Below w.heap.size w ((w.alloc (.cells #[.int .u16 65535, .int .u8 (k:Int), .int .u8 (s:Int)] 401)).alloc (.cells #[.int .u16 65535, .int .u8 0, .int .u8 178] 401)):=((Below.refl _ w).alloc (Nat.le_refl _) _).alloc (by simp) _
  generalize (w.alloc (.cells #[.int .u16 65535, .int .u8 (k:Int), .int .u8 (s:Int)] 401)).alloc (.cells #[.int .u16 65535, .int .u8 0, .int .u8 178] 401)=W at *
  have c0:W.cell? ⟨w.heap.size+1,0,none⟩=some (.int .u16 65535):=hk2.cell 0
  have c1:W.cell? ⟨w.heap.size+1,1,none⟩=some (.int .u8 0):=hk2.cell 1
  have c2:W.cell? ⟨w.heap.size+1,2,none⟩=some (.int .u8 178):=hk2.cell 2
  refine bodyPost_ret (v := .agg #[.int .u16 65535, .int .u8 0, .int .u8 178]) (by simp [results,Tryz.results361,go_sem,c0,c1,c2]) rfl ⟨rfl,hb2⟩
 ·rw [if_neg h1]
  have e1:((g:Int) == 65535)=false:=by rw [beq_eq_false_iff_ne];omega
  have e2:IntKind.u16.wrap ((g:Int)+1)=((g+1:Nat):Int):=by rw [IntKind.wrap_u16];omega
  dsimp only
  generalize g+1=g1 at *
  go_enter Tryz.func361,Tryz.ntmps361
  go_wp2
  have hk2:=Blk.new2 w (.cells #[.int .u16 (g:Int), .int .u8 (k:Int), .int .u8 (s:Int)] 401) 401 #[.int .u16 (g1:Int), .int .u8 0, .int .u8 176]
  have hb2:Below w.heap.size w ((w.alloc (.cells #[.int .u16 (g:Int), .int .u8 (k:Int), .int .u8 (s:Int)] 401)).alloc (.cells #[.int .u16 (g1:Int), .int .u8 0, .int .u8 176] 401)):=((Below.refl _ w).alloc (Nat.le_refl _) _).alloc (by simp) _
  generalize (w.alloc (.cells #[.int .u16 (g:Int), .int .u8 (k:Int), .int .u8 (s:Int)] 401)).alloc (.cells #[.int .u16 (g1:Int), .int .u8 0, .int .u8 176] 401)=W at *
  have c0:W.cell? ⟨w.heap.size+1,0,none⟩=some (.int .u16 (g1:Int)):=hk2.cell 0
  have c1:W.cell? ⟨w.heap.size+1,1,none⟩=some (.int .u8 0):=hk2.cell 1
  have c2:W.cell? ⟨w.heap.size+1,2,none⟩=some (.int .u8 176):=hk2.cell 2
  refine bodyPost_ret (v := .agg #[.int .u16 (g1:Int), .int .u8 0, .int .u8 176]) (by simp [results,Tryz.results361,go_sem,c0,c1,c2]) rfl ⟨rfl,hb2⟩
def SeenOk (V:Nat) (l:List Nat):Prop:=V < 18446744073709551616∧∀ i,bitAt V i=decide (i∈l)
theorem SeenOk.nil:SeenOk 0 []:=⟨by omega,fun i=>by rw [bitAt_zero];simp⟩
theorem SeenOk.add {V:Nat} {l:List Nat} (h:SeenOk V l) {i:Nat} (hi:i < 64):SeenOk (V ||| 2 ^ i) (l++[i]):=by
 obtain ⟨h1,h2⟩:=bit_set h.1 hi
 refine ⟨h1,fun j=>?_⟩
 rw [h2]
 by_cases e:j=i
 ·subst e;simp
 ·rw [if_neg e,h.2 j];simp [e]
theorem n_facts {w:World} {B n:Nat} {A:Option Addr} {l:List Nat} (h:Reads w B 1 A n (jCells l)) {k:Nat} (hk:k < n) :
  ∃ (hl:k < l.length) (b off:Nat),A=some ⟨b,off,none⟩∧b < B∧w.cell? ⟨b,off+k,none⟩=some (.int .i64 ((l[k]:Nat):Int)):=by
 have hl:k < l.length:=by have:=h.1;simp [jCells] at this;omega
 obtain ⟨b,off,hA,hb,hc⟩:=h.plain (by omega) (by omega)
 exact ⟨hl,b,off,hA,hb,hc k _ (by simp [jCells,hl])⟩
theorem once_any (a:DA) (ln cl g:Nat) (hc:cl < 5) (A1 A2:Option Addr) (n1 c1 n2 c2:Nat) (take drop:List Nat) (w:World) (hp:Pay w) (bl:Nat) (hbl:Blk w bl 34 #[.slice A1 n1 c1, .slice A2 n2 c2]) (h1:Reads w w.heap.size 1 A1 n1 (jCells take)) (h2:Reads w w.heap.size 1 A2 n2 (jCells drop)) (hn:(take++drop).Nodup) (hi:∀ i∈take++drop,i < perC cl) (hn1:n1≤1000) (hn2:n2≤1000) :
  Calls Tryz.prog 318 #[chV a ln cl 0 g, .slice (some ⟨bl,0,none⟩) 2 2] w fun e w'=>e = .returned (.bool true)∧Below w.heap.size w w':=by
 have hb0:Below w.heap.size w (w.alloc (.cells (chCells a ln cl g) 306)):=(Below.refl _ _).alloc (Nat.le_refl _) _
 have HB0:=hid hb0
 have HK:=hid (Blk.new w 306 (chCells a ln cl g))
 have HBL:=hid (hbl.alloc (.cells (chCells a ln cl g) 306))
 have HHas:Hid (∀ i,i < perC cl→∀ W,Below w.heap.size w W→Calls Tryz.prog 298 #[chV a ln cl 0 g, .int .i64 (i:Int)] W fun e w'=>e = .returned (.bool true)∧Below W.heap.size W w'):=hid (fun i hi W hW=>by
  have h:=chHas_any a ln cl 0 g i hc W (hp.below hW)
  rw [decide_eq_true hi] at h
  exact h)
 have HR1:=hid h1
 have HR2:=hid h2
 have HL1:=hid (show take.length=n1 by have:=h1.1;simp [jCells] at this;omega)
 have HL2:=hid (show drop.length=n2 by have:=h2.1;simp [jCells] at this;omega)
 have HI:=hid (show (take++drop).Nodup∧(∀ i∈take++drop,i < perC cl)∧perC cl≤62 from ⟨hn,hi,(per_le cl).2⟩)
 clear hp h1 h2 hn hi hbl hc
 unfold chV at *
 unfold chCells memV at *
 generalize hW:w.alloc (.cells #[.iface 58 (.pointer (some ⟨a.th 0,0,none⟩)), .int .i64 (ln:Int), .int .i64 (cl:Int), .int .i64 0, .int .u16 (g:Int)] 306)=W at *
 have HWe:=hid hW.symm
 clear hW hb0
 have HBW:Hid (Below W.heap.size W W):=Below.refl _ _
 go_enter Tryz.func318,Tryz.ntmps318
 have q0:W.cell? ⟨bl,0,none⟩=some (.slice A1 n1 c1):=HBL.out.cell 0
 have q1:W.cell? ⟨bl,1,none⟩=some (.slice A2 n2 c2):=HBL.out.cell 1
 rw [HWe.out] at q0 q1
 go_wp2
 refine wp_loop_rounds 3 ?_
 rw [rounds_succ]
 go_wp2
 rw [← HWe.out]
 have HS0:Hid (SeenOk 0 (take.take 0)):=hid SeenOk.nil
 go_loopw [5,18] (fun v i wr=>∃ (k V:Nat),k≤n1∧i = .int .i64 k∧v = .int .u64 (V:Int)∧Hid (SeenOk V (take.take k))∧Hid (Below W.heap.size W wr)) (fun _ i _=>n1 - (Go.RowKit.intOf i).toNat)
 case atStart=>exact ⟨0,0,Nat.zero_le _,rfl,rfl,HS0,HBW⟩
 case round =>
  clear HS0 HBW
  obtain ⟨k,V,hk,rfl,rfl,HS,H⟩:=hrel
  by_cases hlt:k < n1
  ·have HBr:=hid (HB0.out.trans (H.out.mono HB0.out.size))
   obtain ⟨hl,b,off,hA,hbB,f0⟩:=n_facts (HR1.out.below HBr.out) hlt
   subst hA
   have hmem:take[k]∈take++drop:=List.mem_append.2 (.inl (List.getElem_mem hl))
   have hi:=HI.out.2.1 _ hmem
   have h62:=HI.out.2.2
   have hnk:take[k] ∉ take.take k:=fun hh=>by
    obtain ⟨j,hj,he⟩:=List.getElem_of_mem hh
    have hj2:j < k:=by simp at hj;omega
    have he2:take[j]=take[k]:=by rw [← he];simp
    have hnd:=(List.nodup_append.1 HI.out.1).1
    exact (List.pairwise_iff_getElem.1 hnd) j k (by omega) hl hj2 he2
   have hnot:take[k] ∉ (take.take k):=hnk
   have HS1:Hid (SeenOk (V ||| 2 ^ take[k]) (take.take (k+1))):=hid (by rw [List.take_succ_eq_append_getElem hl];exact HS.out.add (by omega))
   have hbf:bitAt V take[k]=false:=by rw [HS.out.2];exact decide_eq_false hnot
   have ebit:=bit_at V take[k] HS.out.1
   rw [hbf] at ebit
   have HHs:=hid (HHas.out _ hi wr HBr.out)
   have u2:=shl_one (i:=take[k]) (by omega)
   have u3:=u64_or_nat V (2 ^ take[k]) HS.out.1 (pow_lt64 (by omega))
   clear hbf hnot hmem HS hnk
   generalize take[k]=i0 at *
   have u1:IntKind.u64.wrap (i0:Int)=(i0:Int):=by rw [IntKind.wrap_u64];omega
   have hz5:(0:Int)≤(k:Int):=by omega
   have hz6:(k:Int) < (n1:Int):=by omega
   have hi63:(i0:Int) < 62:=by omega
   have hi0:(0:Int)≤(i0:Int):=by omega
   generalize (V ||| 2 ^ i0)=V2 at *
   generalize (2 ^ i0:Nat)=p2 at *
   have hKr:=HK.out.below H.out HK.out.lt
   have hc0:wr.cell? ⟨w.heap.size,0,none⟩=some (.iface 58 (.pointer (some ⟨a.th 0,0,none⟩))):=hKr.cell 0
   have hc1:wr.cell? ⟨w.heap.size,1,none⟩=some (.int .i64 (ln:Int)):=hKr.cell 1
   have hc2:wr.cell? ⟨w.heap.size,2,none⟩=some (.int .i64 (cl:Int)):=hKr.cell 2
   have hc3:wr.cell? ⟨w.heap.size,3,none⟩=some (.int .i64 0):=hKr.cell 3
   have hc4:wr.cell? ⟨w.heap.size,4,none⟩=some (.int .u16 (g:Int)):=hKr.cell 4
   clear hKr
   go_wp2_with (go_at_call 298;refine HHs.out.mono ?_;rintro e w2 ⟨rfl,hb2⟩;have HB2:=hid (H.out.trans (hb2.mono H.out.size));clear hb2)
   go_roundw
   case rel =>
    first
     | exact ⟨k+1,V2,by omega,by go_num,rfl,HS1,HB2⟩
     | (
       repeat apply Exists.intro
       refine ⟨?_,rfl⟩
       exact ⟨k+1,V2,by omega,by go_num,rfl,HS1,HB2⟩)
   case measure=>simp [Go.RowKit.intOf];omega
  ·have hkn:k=n1:=by omega
   subst hkn
   have HS0:Hid (SeenOk V (take++drop.take 0)):=hid (by
    have h:=HS.out
    rw [List.take_of_length_le (by rw [HL1.out];exact Nat.le_refl _)] at h
    simpa using h)
   have HB1:=hid H.out
   have q1r:wr.cell? ⟨bl,1,none⟩=some (.slice A2 n2 c2):=(HBL.out.below H.out HBL.out.lt).cell 1
   obtain ⟨V1,hV1⟩:∃ V1,V=V1:=⟨_,rfl⟩
   subst hV1
   clear HS H hlt hk q0 q1
   go_wp2
   rw [rounds_succ]
   go_wp2
   go_loopw [5,18] (fun v i wr=>∃ (k V:Nat),k≤n2∧i = .int .i64 k∧v = .int .u64 (V:Int)∧Hid (SeenOk V (take++drop.take k))∧Hid (Below W.heap.size W wr)) (fun _ i _=>n2 - (Go.RowKit.intOf i).toNat)
   case atStart=>exact ⟨0,V,Nat.zero_le _,rfl,rfl,HS0,HB1⟩
   case round =>
    clear HS0 HB1
    obtain ⟨k,V,hk,rfl,rfl,HS,H⟩:=hrel
    by_cases hlt:k < n2
    ·have HBr:=hid (HB0.out.trans (H.out.mono HB0.out.size))
     obtain ⟨hl,b,off,hA,hbB,f0⟩:=n_facts (HR2.out.below HBr.out) hlt
     subst hA
     have hmem:drop[k]∈take++drop:=List.mem_append.2 (.inr (List.getElem_mem hl))
     have hi:=HI.out.2.1 _ hmem
     have h62:=HI.out.2.2
     have hnk:drop[k] ∉ drop.take k:=fun hh=>by
      obtain ⟨j,hj,he⟩:=List.getElem_of_mem hh
      have hj2:j < k:=by simp at hj;omega
      have he2:drop[j]=drop[k]:=by rw [← he];simp
      have hnd:=(List.nodup_append.1 HI.out.1).2.1
      exact (List.pairwise_iff_getElem.1 hnd) j k (by omega) hl hj2 he2
     have hnot:drop[k] ∉ (take++drop.take k):=fun hh=>by
      rcases List.mem_append.1 hh with hh | hh
      ·exact (List.nodup_append.1 HI.out.1).2.2 _ hh _ (List.getElem_mem hl) rfl
      ·exact hnk hh
     have HS1:Hid (SeenOk (V ||| 2 ^ drop[k]) (take++drop.take (k+1))):=hid (by rw [List.take_succ_eq_append_getElem hl,← List.append_assoc];exact HS.out.add (by omega))
     have hbf:bitAt V drop[k]=false:=by rw [HS.out.2];exact decide_eq_false hnot
     have ebit:=bit_at V drop[k] HS.out.1
     rw [hbf] at ebit
     have HHs:=hid (HHas.out _ hi wr HBr.out)
     have u2:=shl_one (i:=drop[k]) (by omega)
     have u3:=u64_or_nat V (2 ^ drop[k]) HS.out.1 (pow_lt64 (by omega))
     clear hbf hnot hmem HS hnk
     generalize drop[k]=i0 at *
     have u1:IntKind.u64.wrap (i0:Int)=(i0:Int):=by rw [IntKind.wrap_u64];omega
     have hz5:(0:Int)≤(k:Int):=by omega
     have hz6:(k:Int) < (n2:Int):=by omega
     have hi63:(i0:Int) < 62:=by omega
     have hi0:(0:Int)≤(i0:Int):=by omega
     generalize (V ||| 2 ^ i0)=V2 at *
     generalize (2 ^ i0:Nat)=p2 at *
     have hKr:=HK.out.below H.out HK.out.lt
     have hc0:wr.cell? ⟨w.heap.size,0,none⟩=some (.iface 58 (.pointer (some ⟨a.th 0,0,none⟩))):=hKr.cell 0
     have hc1:wr.cell? ⟨w.heap.size,1,none⟩=some (.int .i64 (ln:Int)):=hKr.cell 1
     have hc2:wr.cell? ⟨w.heap.size,2,none⟩=some (.int .i64 (cl:Int)):=hKr.cell 2
     have hc3:wr.cell? ⟨w.heap.size,3,none⟩=some (.int .i64 0):=hKr.cell 3
     have hc4:wr.cell? ⟨w.heap.size,4,none⟩=some (.int .u16 (g:Int)):=hKr.cell 4
     clear hKr
     go_wp2_with (go_at_call 298;refine HHs.out.mono ?_;rintro e w2 ⟨rfl,hb2⟩;have HB2:=hid (H.out.trans (hb2.mono H.out.size));clear hb2)
     go_roundw
     case rel =>
      first
       | exact ⟨k+1,V2,by omega,by go_num,rfl,HS1,HB2⟩
       | (
         repeat apply Exists.intro
         refine ⟨?_,rfl⟩
         exact ⟨k+1,V2,by omega,by go_num,rfl,HS1,HB2⟩)
     case measure=>simp [Go.RowKit.intOf];omega
    ·have hkn:k=n2:=by omega
     subst hkn
     have HBe:=hid (HB0.out.trans (H.out.mono HB0.out.size))
     go_wp2
     rw [rounds_succ]
     go_wp2
     go_ret
     exact ⟨rfl,HBe.out⟩
end
end
section
open Go.RowKit Go.Maps
def chkR (s K:Nat) (cs:Nat→CS) (p kind:Nat):Nat:=if p=0 then 1 else if p / 72057594037927936≠0 then 2 else match homeOf s K (pOff p) with
 | none=>2
 | some k=>if (cs k).dv=true then (if (blkR (s+32 * k) (cs k).cl (cs k).bs p).2≠0 then (blkR (s+32 * k) (cs k).cl (cs k).bs p).2 else if kind≠0∧kind≠pKind p then 13 else 0) else 2
section
variable {a:DA} {L T s n K:Nat} {x:HA} {cs:Nat→CS} {f:Nat→Option Nat} {N m b0:Nat} {S:Fp} {cur:Nat→Nat} {w w':World}
theorem DS.home (h:DS a L T s n K x cs f N m b0 S cur w) (p:Nat) (W:World) (hW:Below w.heap.size w W) :
  Calls Tryz.prog 194 #[.pointer (some ⟨x.h,0,none⟩), .int .u64 (pOff p:Int)] W fun e w'=>∃ (ln:Nat) (b:Bool),e = .returned (.tuple #[.int .i64 (ln:Int), .bool b])∧HomeP s K (pOff p) ln b∧W=w':=by
 have h1:=h.hK
 have h2:=h.hL
 exact home_any (h.hs.heap.below hW h.hs.heap.lt) (by omega) (by omega) h1.1 (pOff p) (by unfold pOff;omega)
theorem check_any (h:DS a L T s n K x cs f N m b0 S cur w) (p kind:Nat) (hp64:p < 18446744073709551616) (hk:kind < 256) :
  Calls Tryz.prog 96 #[.pointer (some ⟨x.h,0,none⟩), .int .u64 (p:Int), .int .u8 (kind:Int)] w fun e w'=>e = .returned (.int .i64 (chkR s K cs p kind:Int))∧Below w.heap.size w w':=by
 have HD:=hid h
 have HNil:=hid (nil_any p w)
 have HEr:Hid (∀ W,Below w.heap.size w W→Calls Tryz.prog 112 #[.pointer (some ⟨a.th 0,0,none⟩)] W fun e w'=>e = .returned (.int .i64 0)∧W=w'):=hid (fun W hW=>thErr (h.dev.below hW))
 have HOf:=hid (off_any p)
 have HKn:=hid (kind_any p)
 have HHm:=hid (h.home p w (Below.refl _ _))
 have hm:=methErr (some ⟨a.th 0,0,none⟩)
 have hx0:w.cell? ⟨x.h,0,none⟩=some (.iface 58 (.pointer (some ⟨a.th 0,0,none⟩))):=h.hs.heap.cell 0
 have HB0:Hid (Below w.heap.size w w):=Below.refl _ _
 clear h
 by_cases hp0:p=0
 ·have HR:Hid (chkR s K cs p kind=1):=hid (by unfold chkR;rw [if_pos hp0])
  rw [decide_eq_true hp0] at HNil
  clear hp0
  go_enter Tryz.func96,Tryz.ntmps96
  go_wp2_with (go_at_call 22;refine HNil.out.mono ?_;rintro e w1 ⟨rfl,rfl⟩)
  go_ret
  exact ⟨by rw [HR.out];rfl,HB0.out⟩
 ·rw [decide_eq_false hp0] at HNil
  have HRR:Hid (chkR s K cs p kind=if p / 72057594037927936≠0 then 2 else match homeOf s K (pOff p) with
   | none=>2
   | some k=>if (cs k).dv=true then (if (blkR (s+32 * k) (cs k).cl (cs k).bs p).2≠0 then (blkR (s+32 * k) (cs k).cl (cs k).bs p).2 else if kind≠0∧kind≠pKind p then 13 else 0) else 2):=hid (by unfold chkR;rw [if_neg hp0])
  clear hp0
  generalize chkR s K cs p kind=rr at *
  generalize hpo:pOff p=po at *
  have HPO:=hid hpo
  clear hpo
  go_enter Tryz.func96,Tryz.ntmps96
  go_wp2_with (first
   | (go_at_call 22;refine HNil.out.mono ?_;rintro e w1 ⟨rfl,rfl⟩)
   | (go_at_call 112;refine (HEr.out _ HB0.out).mono ?_;rintro e w1 ⟨rfl,rfl⟩)
   | (go_at_call 135;refine (HOf.out _).mono ?_;rintro e w1 ⟨rfl,rfl⟩)
   | (go_at_call 194;refine HHm.out.mono ?_;rintro e w1 ⟨ln,b,rfl,hP,rfl⟩;refine stop ?_))
  unfold Stop
  clear HNil HOf HHm
  rcases hP with ⟨hho,rfl,rfl⟩ | ⟨k,hho,hk,rfl,rfl⟩
  ·have HR:Hid (rr=2):=hid (by rw [HRR.out,hho];split <;> rfl)
   clear hho HRR
   go_wp2
   go_ret
   exact ⟨by rw [HR.out];rfl,HB0.out⟩
  ·rw [hho] at HRR
   clear hho
   dsimp only at HRR
   have HKk:=hid hk
   by_cases hpt:p / 72057594037927936=0
   ·rw [if_neg (fun hh=>hh hpt)] at HRR
    have q0:((p:Int) / 72057594037927936 == 0)=true:=by rw [beq_iff_eq];omega
    have q1:(p:Int) / 72057594037927936=0:=by omega
    clear hpt
    have hln:=HD.out.line hk
    cases hd:(cs k).dv with
    | false =>
     have hu:cur (8 * (s+32 * k))=freeW (cs k).g∧0 < (cs k).g∧(cs k).g < 65536:=by
      have:=HD.out.ok k hk
      unfold CSok at this
      rw [hd] at this
      exact this
     have HR:Hid (rr=2):=hid (by rw [HRR.out,hd];rfl)
     have HOp:=hid (chOpen_undiv HD.out.dev HD.out.tab (s+32 * k) (cs k).g hln hu.2.1 hu.2.2 hu.1)
     unfold chNone memV at HOp
     clear HRR hd hu hk
     generalize ((s+32 * k:Nat):Int)=v at *
     go_wp2_with (go_at_call 195;refine HOp.out.mono ?_;rintro e w1 ⟨rfl,hb1⟩;refine stop ?_)
     unfold Stop
     have HB1:=hid (hb1.alloc hb1.size (.cells #[.nilIface, .int .i64 0, .int .i64 0, .int .i64 0, .int .u16 0] 306))
     have HEr1:=hid (HEr.out _ HB1.out)
     have hx1:w1.cell? ⟨x.h,0,none⟩=some (.iface 58 (.pointer (some ⟨a.th 0,0,none⟩))):=(HD.out.hs.heap.below hb1 HD.out.hs.heap.lt).cell 0
     have hxl:x.h < w1.heap.size:=Nat.lt_of_lt_of_le HD.out.hs.heap.lt hb1.size
     clear hb1 HOp hx0
     go_wp2_with (go_at_call 112;refine HEr1.out.mono ?_;rintro e w2 ⟨rfl,rfl⟩)
     go_ret
     exact ⟨by rw [HR.out];rfl,HB1.out⟩
    | true =>
     rw [hd] at HRR
     have hC:=HD.out.chw hk hd
     have HOp:=hid (chOpen_cls HD.out.dev HD.out.tab HD.out.pay (s+32 * k) (cs k).cl (cs k).g hln hC.cls hC.g0 hC.g1 hC.hdr)
     have HBk:Hid (∀ W,Below w.heap.size w W→Calls Tryz.prog 196 #[chV a (s+32 * k) (cs k).cl 0 (cs k).g, .int .u64 (p:Int)] W fun e w'=>e = .returned (.tuple #[.int .i64 ((blkR (s+32 * k) (cs k).cl (cs k).bs p).1:Int), .int .i64 ((blkR (s+32 * k) (cs k).cl (cs k).bs p).2:Int)])∧Below W.heap.size W w'):=hid (fun W hW=>chBlock_any (HD.out.dev.below hW) (HD.out.tab.below hW) (HD.out.pay.below hW) (s+32 * k) (cs k).cl (cs k).g (cs k).V p (cs k).bs hln hC hp64)
     clear hC hd hln hk
     rw [if_pos rfl] at HRR
     generalize blkR (s+32 * k) (cs k).cl (cs k).bs p=br at *
     obtain ⟨bi,be⟩:=br
     dsimp only at *
     unfold chV memV at *
     generalize s+32 * k=ln at *
     generalize (cs k).cl=cl at *
     generalize (cs k).g=g at *
     go_wp2_with (go_at_call 195;refine HOp.out.mono ?_;rintro e w1 ⟨rfl,hb1⟩;refine stop ?_)
     unfold Stop
     have HB1:=hid (hb1.alloc hb1.size (.cells #[.iface 58 (.pointer (some ⟨a.th 0,0,none⟩)), .int .i64 (ln:Int), .int .i64 (cl:Int), .int .i64 0, .int .u16 (g:Int)] 306))
     have HEr1:=hid (HEr.out _ HB1.out)
     have HBk1:=hid (HBk.out _ HB1.out)
     have hx1:w1.cell? ⟨x.h,0,none⟩=some (.iface 58 (.pointer (some ⟨a.th 0,0,none⟩))):=(HD.out.hs.heap.below hb1 HD.out.hs.heap.lt).cell 0
     have hxl:x.h < w1.heap.size:=Nat.lt_of_lt_of_le HD.out.hs.heap.lt hb1.size
     clear hb1 HOp hx0 HBk
     by_cases hbe:be=0
     ·subst hbe
      rw [if_neg (fun hh=>hh rfl)] at HRR
      by_cases hk0:kind=0
      ·subst hk0
       rw [if_neg (fun hh=>hh.1 rfl)] at HRR
       go_wp2_with (first
        | (go_at_call 112;refine HEr1.out.mono ?_;rintro e w2 ⟨rfl,rfl⟩)
        | (go_at_call 196;refine HBk1.out.mono ?_;rintro e w2 ⟨rfl,hb2⟩;have HB2:=hid (HB1.out.trans (hb2.mono HB1.out.size));clear hb2))
       go_ret
       exact ⟨by rw [HRR.out];rfl,HB2.out⟩
      ·obtain ⟨g1,g2,g3,g4⟩:=nz_facts hk0
       by_cases hkd:kind=pKind p
       ·have e1:((kind:Int) == (pKind p:Int))=true:=by rw [beq_iff_eq];omega
        rw [if_neg (fun hh=>hh.2 hkd)] at HRR
        clear hkd
        generalize pKind p=pk at *
        go_wp2_with (first
         | (go_at_call 112;refine HEr1.out.mono ?_;rintro e w2 ⟨rfl,rfl⟩)
         | (go_at_call 150;refine (HKn.out _).mono ?_;rintro e w3 ⟨rfl,rfl⟩)
         | (go_at_call 196;refine HBk1.out.mono ?_;rintro e w2 ⟨rfl,hb2⟩;have HB2:=hid (HB1.out.trans (hb2.mono HB1.out.size));clear hb2))
        go_ret
        exact ⟨by rw [HRR.out];rfl,HB2.out⟩
       ·have e1:((kind:Int) == (pKind p:Int))=false:=by rw [beq_eq_false_iff_ne];omega
        rw [if_pos ⟨hk0,hkd⟩] at HRR
        clear hkd
        generalize pKind p=pk at *
        go_wp2_with (first
         | (go_at_call 112;refine HEr1.out.mono ?_;rintro e w2 ⟨rfl,rfl⟩)
         | (go_at_call 150;refine (HKn.out _).mono ?_;rintro e w3 ⟨rfl,rfl⟩)
         | (go_at_call 196;refine HBk1.out.mono ?_;rintro e w2 ⟨rfl,hb2⟩;have HB2:=hid (HB1.out.trans (hb2.mono HB1.out.size));clear hb2))
        go_ret
        exact ⟨by rw [HRR.out];rfl,HB2.out⟩
     ·rw [if_pos hbe] at HRR
      obtain ⟨g1,g2,g3,g4⟩:=nz_facts hbe
      clear hbe
      go_wp2_with (first
       | (go_at_call 112;refine HEr1.out.mono ?_;rintro e w2 ⟨rfl,rfl⟩)
       | (go_at_call 196;refine HBk1.out.mono ?_;rintro e w2 ⟨rfl,hb2⟩;have HB2:=hid (HB1.out.trans (hb2.mono HB1.out.size));clear hb2))
      go_ret
      exact ⟨by rw [HRR.out];rfl,HB2.out⟩
   ·rw [if_pos hpt] at HRR
    have q0:((p:Int) / 72057594037927936 == 0)=false:=by rw [beq_eq_false_iff_ne];omega
    clear hpt
    generalize ((s+32 * k:Nat):Int)=v at *
    go_wp2
    go_ret
    exact ⟨by rw [HRR.out];rfl,HB0.out⟩
end
end
section
open Go.RowKit Go.Maps
section
variable {a:DA} {L T s n K:Nat} {x:HA} {cs:Nat→CS} {f:Nat→Option Nat} {N m b0:Nat} {S:Fp} {cur:Nat→Nat} {w w':World} {cl k i:Nat}
theorem Vac.cls (hv:Vac s K cs f cl k i):offO s cs k i=blkO (s+32 * k) cl i:=by unfold offO;rw [hv.2.2.1]
theorem pay_word {ln cl i j:Nat} (hi:i < perC cl) (hj:j < payW cl):(blkO ln cl i+8 * j) / 8=8 * ln+offB cl i+1+j∧8 * ln≤8 * ln+offB cl i+1+j∧8 * ln+offB cl i+1+j < 8 * ln+256∧¬ hdrAt ln cl (8 * ln+offB cl i+1+j):=by
 have h1:=off_lt hi
 have h2:=offB_ge cl i
 refine ⟨by unfold blkO;omega,by omega,by omega,hdrAt_pay hi hj⟩
theorem DS.ok_pay (h:DS a L T s n K x cs f N m b0 S cur w) {cl i:Nat} (hk:k < K) (hd:(cs k).dv=true) (hc:(cs k).cl=cl) (hi:i < perC cl) {ws:List (Nat × Nat)} (hw:∀ e∈ws,∃ j,j < payW cl∧e.1=blkO (s+32 * k) cl i+8 * j) :
  ∀ k',k' < K→CSok (wrS cur ws) (s+32 * k') (cs k'):=fun k' hk'=>by
 refine (h.ok k' hk').same (fun y h1 h2 h3=>wrS_other ws _ _ (fun e he=>?_))
 obtain ⟨j,hj,hej⟩:=hw e he
 obtain ⟨p1,p2,p3,p4⟩:=pay_word (ln:=s+32 * k) hi hj
 rw [hej,p1]
 intro hy
 by_cases e1:k'=k
 ·subst e1
  have:=h3 hd
  rw [hc,← hy] at this
  exact p4 this
 ·omega
theorem DS.zeroed {T':Nat} {S':Fp} (h:DS a L T s n K x cs f N m b0 S cur w) (hv:Vac s K cs f cl k i) (hd:Dev a L T' w' S' (wrS cur (zerW (offO s cs k i) (payW cl))) 0) (hc:Chg S w w') (hg:Grew S S' w) :
  DS a L T' s n K x cs f N m b0 S' (wrS cur (zerW (offO s cs k i) (payW cl))) w':=by
 refine h.dev_ hd hc hg ?_ (wrS_bnd _ _ h.bnd (fun e he=>by obtain ⟨j,_,rfl⟩:=zerW_mem he;show 0 < _;omega))
 refine h.ok_pay hv.1 hv.2.1 hv.2.2.1 hv.2.2.2.1 (fun e he=>?_)
 obtain ⟨j,hj,rfl⟩:=zerW_mem he
 exact ⟨j,hj,by rw [hv.cls]⟩
theorem DS.vac_facts (h:DS a L T s n K x cs f N m b0 S cur w) (hv:Vac s K cs f cl k i) (kind:Nat) (hk8:kind < 128):cl < 5∧offO s cs k i % 8=0∧offO s cs k i+8 * payW cl≤64 * L∧pOff (fptr s cs kind k i)=offO s cs k i∧fptr s cs kind k i≠0∧fptr s cs kind k i < 18446744073709551616∧0 < ((cs k).bs i).gen∧((cs k).bs i).gen < 65536:=by
 obtain ⟨h1,h2,h3,h4,h5,h6⟩:=hv
 have hC:=h.chw h1 h2
 have hL:=h.hL
 have hln:=h.line h1
 have ho:=Go.Proofs.YtfkjjoglnmeciaaGreatDoor.off_lt h4
 have hin:=(hC.inn i (by rw [h3];exact h4)).g
 have hgood:=hC.good i (by rw [h3];exact h4)
 have hg0:0 < ((cs k).bs i).gen:=by unfold BK.good at hgood;rw [if_pos h5] at hgood;simp at hgood;omega
 have e1:offO s cs k i=64 * (s+32 * k)+8 * offB cl i+8:=by unfold offO blkO;rw [h3]
 refine ⟨by rw [← h3];exact hC.cls,by omega,by omega,?_,?_,?_,hg0,hin⟩
 ·exact pMk_off (by rw [show blkO (s+32 * k) (cs k).cl i=offO s cs k i from rfl];omega) (by rw [show blkO (s+32 * k) (cs k).cl i=offO s cs k i from rfl];omega)
 ·exact pMk_ne hg0
 ·exact (pMk_lt (by rw [show blkO (s+32 * k) (cs k).cl i=offO s cs k i from rfl];omega) hin hk8).1
theorem grown_chg {Z:Fp} {b:Nat} (hg:w.grownBy w' (some b)) (hZ:Z b):Chg Z w w':=(Chg.refl Z w).grown hg (fun g e=>by injection e with e;subst e;exact .inl hZ)
theorem DS.rsv (h:DS a L T s n K x cs f N m b0 S cur w) (hv:Vac s K cs f cl k i) (kind:Nat) (_hk0:0 < kind) (hk8:kind < 128) (hN:N < maxLen) :
  ∃ (w7 w8:World) (c:Int),
   (Instr.mapUpdate 190 (.map (some x.mr)) (.int .u64 (offO s cs k i:Int)) (.int .u64 (fptr s cs kind k i:Int))).run Tryz.prog w.drew = .ok () w7 ∧
   (Instr.lookup 191 (.map (some x.mh)) (.int .i64 ((s+32 * k:Nat):Int)) false).run Tryz.prog w7 = .ok (.int .i64 c) w7 ∧
   (Instr.mapUpdate 191 (.map (some x.mh)) (.int .i64 ((s+32 * k:Nat):Int)) (.int .i64 (wrap64 (c+1)))).run Tryz.prog w7 = .ok () w8 ∧
   Blk w7 x.h 194 (heapCells a s n x.gs x.mr x.mh false)∧Blk w8 x.h 194 (heapCells a s n x.gs x.mr x.mh false)∧Plc a s K x.p cs w8 ∧
   ∀ w9,Plc a s K x.p cs w9→Chg (fun j=>j=x.pl) w8 w9→DS a L T s n K x cs (updF f (offO s cs k i) (some (fptr s cs kind k i))) (N+1) (m+1) b0 S cur w9∧Chg x.fp w w9:=by
 obtain ⟨q1,q2,q3,q4,q5,q6,q7,q8⟩:=h.vac_facts hv kind hk8
 obtain ⟨n1,n2,n3,n4,n5,n6,n7,n8⟩:=h.hs.pl_ne
 have hfew:=h.few
 have hkK:=hv.1
 have hd:Chg Fp.no w w.drew:=(Chg.refl _ _).drew
 have hs:=h.hs.chg hd (fun h=>h) (fun h=>h) (fun h=>h) (fun h=>h) (fun h=>h)
 obtain ⟨w7,r7,p7,g7⟩:=hs.res.put hN (show offO s cs k i < 18446744073709551616 by have:=h.hL;omega) q6 hv.2.2.2.2.2
 have c7:Chg (fun j=>j=x.mr) w.drew w7:=grown_chg g7 rfl
 have hm7:=hs.held.chg c7 (fun e=>hs.ne e.symm)
 obtain ⟨c,r8,hwc⟩:=hm7.look (x:=s+32 * k) (by omega)
 obtain ⟨w8,r9,p8,g8⟩:=hm7.put hN (x:=s+32 * k) (by omega) (wrap64_wf (c+1))
 have c8:Chg (fun j=>j=x.mh) w7 w8:=grown_chg g8 rfl
 have b7:=c7.blk hs.heap n5
 have b8:=c8.blk b7 n6
 have l7:=hs.plc.chg c7 n3 n1
 have l8:=l7.chg c8 n4 n2
 refine ⟨w7,w8,c,r7,r8,r9,b7,b8,l8,fun w9 l9 c9=>?_⟩
 have hfp:Chg x.fp w w9:=((((Chg.refl x.fp w).drew).trans (S':=fun j=>j=x.mr) c7 (fun j hj => .inl (.inr (.inl hj)))).trans (S':=fun j=>j=x.mh) c8 (fun j hj => .inl (.inr (.inr hj)))).trans (S':=fun j=>j=x.pl) c9 (fun j hj => .inl (.inl hj))
 refine ⟨h.own_ ⟨c9.blk b8 n8,l9,(p7.chg c8 h.hs.ne).chg c9 (fun e=>n1 e.symm),p8.chg c9 (fun e=>n2 e.symm),h.hs.ne⟩ hfp h.ok ?_,hfp⟩
 intro o p hop
 unfold updF at hop
 split at hop
 ·rename_i ho
  injection hop with hp
  subst ho
  exact ⟨k,i,hkK,hv.2.1,by rw [hv.2.2.1];exact hv.2.2.2.1,rfl,by rw [← hp];exact q4⟩
 ·exact h.res o p hop
end
end
section
open Go.RowKit Go.Maps
section
variable {a:DA} {L T s n K:Nat} {x:HA} {cs:Nat→CS} {f:Nat→Option Nat} {N m b0:Nat} {S:Fp} {cur:Nat→Nat} {w w':World}
theorem hPlace_any (h:DS a L T s n K x cs f N m b0 S cur w) {k i:Nat} (hk:k < K) (hd:(cs k).dv=true) (hi:i < perC (cs k).cl) (p:Nat) (hpo:pOff p=offO s cs k i) :
  Calls Tryz.prog 237 #[.pointer (some ⟨x.h,0,none⟩), .int .u64 (p:Int)] w fun e w'=>e = .returned (.tuple #[.int .i64 ((s+32 * k:Nat):Int), .int .i64 (i:Int), .int .i64 ((cs k).cl:Int)])∧Below w.heap.size w w':=by
 have hC:=h.chw hk hd
 have hln:=h.line hk
 have hL:=h.hL
 have HD:=hid h
 have HOf:Hid (∀ W,Calls Tryz.prog 135 #[.int .u64 (p:Int)] W fun e w'=>e = .returned (.int .u64 (offO s cs k i:Int))∧W=w'):=hid (fun W=>by have h2:=off_any p W;rw [hpo] at h2;exact h2)
 have hho:homeOf s K (offO s cs k i)=some k:=homeOf_blk hk hi
 have HHm:=hid (h.home p w (Below.refl _ _))
 rw [hpo] at HHm
 have HHo:=hid hho
 have HOp:=hid (chOpen_cls h.dev h.tab h.pay (s+32 * k) (cs k).cl (cs k).g hln hC.cls hC.g0 hC.g1 hC.hdr)
 have HCc:Hid (∀ W,Below w.heap.size w W→Calls Tryz.prog 208 #[chV a (s+32 * k) (cs k).cl 0 (cs k).g] W fun e w'=>e = .returned (.int .i64 ((cs k).cl:Int))∧Below W.heap.size W w'):=hid (fun W _=>chClass_any a _ _ _ _ W)
 have hfc:=findC_off hi
 have HFi:Hid (∀ W,Below w.heap.size w W→Calls Tryz.prog 314 #[.int .i64 ((cs k).cl:Int), .int .i64 ((offB (cs k).cl i+1:Nat):Int)] W fun e w'=>e = .returned (.tuple #[.int .i64 (i:Int), .bool true])∧W=w'):=hid (fun W hW=>by
  have h1:=szFind_any (cs k).cl (offB (cs k).cl i+1) hC.cls (by have:=off_lt hi;omega) W (h.pay.below hW)
  unfold findR at h1
  rw [hfc] at h1
  exact h1)
 have hx0:w.cell? ⟨x.h,0,none⟩=some (.iface 58 (.pointer (some ⟨a.th 0,0,none⟩))):=h.hs.heap.cell 0
 have ho:=off_lt hi
 have hoe:offO s cs k i=64 * (s+32 * k)+8 * offB (cs k).cl i+8:=rfl
 have hob:=offB_ge (cs k).cl i
 clear h hC hpo hho hd hfc
 have HE:Hid (s+32 * k=s+32 * k):=hid rfl
 generalize hlne:s+32 * k=ln at *
 have HLE:=hid hlne
 clear hlne HE
 have u1:IntKind.u64.wrap (ln:Int)=(ln:Int):=by rw [IntKind.wrap_u64];omega
 have u2:IntKind.u64.wrap ((ln:Int) * 64)=(ln:Int) * 64:=by rw [IntKind.wrap_u64];omega
 obtain ⟨y,hy⟩:∃ y,8 * offB (cs k).cl i+8=y:=⟨_,rfl⟩
 have u3:IntKind.u64.wrap ((offO s cs k i:Int) - (ln:Int) * 64)=(y:Int):=by rw [IntKind.wrap_u64,hoe];omega
 have u4:(y:Int) / 8=((offB (cs k).cl i+1:Nat):Int):=by omega
 have u5:IntKind.i64.wrap ((offB (cs k).cl i+1:Nat):Int)=((offB (cs k).cl i+1:Nat):Int):=IntWalk.i64_in _ (by omega)
 have uq:IntKind.u64.wrap ((offB (cs k).cl i+1:Nat):Int)=((offB (cs k).cl i+1:Nat):Int):=by rw [IntKind.wrap_u64];omega
 have hq:((offB (cs k).cl i+1:Nat):Int)≤256:=by omega
 clear hoe hy
 generalize offB (cs k).cl i+1=q at *
 generalize offO s cs k i=o at *
 unfold chV memV at *
 generalize (cs k).cl=cl at *
 generalize (cs k).g=g at *
 go_enter Tryz.func237,Tryz.ntmps237
 go_wp2_with (first
  | (go_at_call 135;refine (HOf.out _).mono ?_;rintro e w1 ⟨rfl,rfl⟩)
  | (go_at_call 194;refine HHm.out.mono ?_;rintro e w1 ⟨l1,b1,rfl,hP,rfl⟩;refine stop ?_))
 unfold Stop
 have hlb:l1=ln∧b1=true:=by
  rcases hP with ⟨h1,_,_⟩ | ⟨k',h1,_,h3,h4⟩
  ·rw [HHo.out] at h1;cases h1
  ·rw [HHo.out] at h1
   injection h1 with h1
   subst h1
   exact ⟨by rw [h3];exact HLE.out,h4⟩
 obtain ⟨rfl,rfl⟩:=hlb
 clear hP HHo HHm
 go_wp2_with (go_at_call 195;refine HOp.out.mono ?_;rintro e w1 ⟨rfl,hb1⟩;refine stop ?_)
 unfold Stop
 have HB1:=hid (hb1.alloc hb1.size (.cells #[.iface 58 (.pointer (some ⟨a.th 0,0,none⟩)), .int .i64 (l1:Int), .int .i64 (cl:Int), .int .i64 0, .int .u16 (g:Int)] 306))
 have HK1:=hid (Blk.new w1 306 #[.iface 58 (.pointer (some ⟨a.th 0,0,none⟩)), .int .i64 (l1:Int), .int .i64 (cl:Int), .int .i64 0, .int .u16 (g:Int)])
 clear hb1 HOp hx0
 generalize hW1:w1.alloc (.cells #[.iface 58 (.pointer (some ⟨a.th 0,0,none⟩)), .int .i64 (l1:Int), .int .i64 (cl:Int), .int .i64 0, .int .u16 (g:Int)] 306)=W1 at *
 have HW1:=hid hW1.symm
 clear hW1
 have hc0:W1.cell? ⟨w1.heap.size,0,none⟩=some (.iface 58 (.pointer (some ⟨a.th 0,0,none⟩))):=HK1.out.cell 0
 have hc1:W1.cell? ⟨w1.heap.size,1,none⟩=some (.int .i64 (l1:Int)):=HK1.out.cell 1
 have hc2:W1.cell? ⟨w1.heap.size,2,none⟩=some (.int .i64 (cl:Int)):=HK1.out.cell 2
 have hc3:W1.cell? ⟨w1.heap.size,3,none⟩=some (.int .i64 0):=HK1.out.cell 3
 have hc4:W1.cell? ⟨w1.heap.size,4,none⟩=some (.int .u16 (g:Int)):=HK1.out.cell 4
 go_wp2_with (first
  | (go_at_call 135;refine (HOf.out _).mono ?_;rintro e w1 ⟨rfl,rfl⟩)
  | (go_at_call 208;refine stop ?_))
 unfold Stop
 rw [← HW1.out]
 refine (HCc.out W1 HB1.out).mono ?_
 rintro e W2 ⟨rfl,hb2⟩
 have HB2:=hid (HB1.out.trans (hb2.mono HB1.out.size))
 have HK2:=hid (HK1.out.below hb2 HK1.out.lt)
 have HF2:=hid (HFi.out W2 HB2.out)
 have HC2:=hid (HCc.out W2 HB2.out)
 have hd0:W2.cell? ⟨w1.heap.size,0,none⟩=some (.iface 58 (.pointer (some ⟨a.th 0,0,none⟩))):=HK2.out.cell 0
 have hd1:W2.cell? ⟨w1.heap.size,1,none⟩=some (.int .i64 (l1:Int)):=HK2.out.cell 1
 have hd2:W2.cell? ⟨w1.heap.size,2,none⟩=some (.int .i64 (cl:Int)):=HK2.out.cell 2
 have hd3:W2.cell? ⟨w1.heap.size,3,none⟩=some (.int .i64 0):=HK2.out.cell 3
 have hd4:W2.cell? ⟨w1.heap.size,4,none⟩=some (.int .u16 (g:Int)):=HK2.out.cell 4
 clear hb2 hc0 hc1 hc2 hc3 hc4 HCc HFi HOf
 go_wp2_with (first
  | (go_at_call 314;refine HF2.out.mono ?_;rintro e w3 ⟨rfl,rfl⟩)
  | (go_at_call 208;refine HC2.out.mono ?_;rintro e W3 ⟨rfl,hb3⟩;have HB3:=hid (HB2.out.trans (hb3.mono HB2.out.size));clear hb3))
 go_ret3
 exact ⟨rfl,HB3.out⟩
theorem hWords_any (h:DS a L T s n K x cs f N m b0 S cur w) {k i:Nat} (hk:k < K) (hd:(cs k).dv=true) (hi:i < perC (cs k).cl) (p:Nat) (hpo:pOff p=offO s cs k i) (hp0:p≠0) (hp64:p < 18446744073709551616) (hc:f (pOff p)=some p∨chkR s K cs p 0=0) :
  Calls Tryz.prog 131 #[.pointer (some ⟨x.h,0,none⟩), .int .u64 (p:Int)] w fun e w'=>e = .returned (.tuple #[.int .i64 (payW (cs k).cl:Int), .int .i64 0])∧Below w.heap.size w w':=by
 have HD:=hid h
 have hC:=h.chw hk hd
 have HNil:=hid (nil_any p w)
 rw [decide_eq_false hp0] at HNil
 have HEr:Hid (∀ W,Below w.heap.size w W→Calls Tryz.prog 112 #[.pointer (some ⟨a.th 0,0,none⟩)] W fun e w'=>e = .returned (.int .i64 0)∧W=w'):=hid (fun W hW=>thErr (h.dev.below hW))
 have HHo:=hid (holds_any h.hs p)
 have HCh:Hid (f (pOff p)≠some p→∀ W,Below w.heap.size w W→Calls Tryz.prog 96 #[.pointer (some ⟨x.h,0,none⟩), .int .u64 (p:Int), .int .u8 0] W fun e w'=>e = .returned (.int .i64 0)∧Below W.heap.size W w'):=hid (fun hn W hW=>by
  have h1:=check_any (h.below hW) p 0 hp64 (by omega)
  rw [hc.resolve_left hn] at h1
  exact h1)
 have HPl:Hid (∀ W,Below w.heap.size w W→Calls Tryz.prog 237 #[.pointer (some ⟨x.h,0,none⟩), .int .u64 (p:Int)] W fun e w'=>e = .returned (.tuple #[.int .i64 ((s+32 * k:Nat):Int), .int .i64 (i:Int), .int .i64 ((cs k).cl:Int)])∧Below W.heap.size W w'):=hid (fun W hW=>hPlace_any (h.below hW) hk hd hi p hpo)
 have HWo:Hid (∀ W,Below w.heap.size w W→Calls Tryz.prog 202 #[.int .i64 ((cs k).cl:Int)] W fun e w'=>e = .returned (.int .i64 (payW (cs k).cl:Int))∧W=w'):=hid (fun W hW=>szWords_any _ hC.cls W (h.pay.below hW))
 have hm:=methErr (some ⟨a.th 0,0,none⟩)
 have HH:Hid (∀ W,Below w.heap.size w W→W.cell? ⟨x.h,0,none⟩=some (.iface 58 (.pointer (some ⟨a.th 0,0,none⟩)))):=hid (fun W hW=>(h.hs.heap.below hW h.hs.heap.lt).cell 0)
 have hx0:=HH.out w (Below.refl _ _)
 have HB0:Hid (Below w.heap.size w w):=Below.refl _ _
 clear h hC hpo hc hi hd
 generalize ((s+32 * k:Nat):Int)=v at *
 generalize (cs k).cl=cl at *
 generalize payW cl=r at *
 go_enter Tryz.func131,Tryz.ntmps131
 go_wp2_with (first
  | (go_at_call 22;refine HNil.out.mono ?_;rintro e w1 ⟨rfl,rfl⟩)
  | (go_at_call 112;refine (HEr.out _ HB0.out).mono ?_;rintro e w1 ⟨rfl,rfl⟩)
  | (go_at_call 235;refine HHo.out.mono ?_;rintro e w1 ⟨rfl,hb1⟩;refine stop ?_))
 unfold Stop
 have HB1:=hid hb1
 clear hb1 HNil HHo hx0
 by_cases hf:f (pOff p)=some p
 ·rw [decide_eq_true hf]
  clear HCh hf
  go_wp2_with (go_at_call 237;refine (HPl.out _ HB1.out).mono ?_;rintro e w2 ⟨rfl,hb2⟩;refine stop ?_)
  unfold Stop
  have HB2:=hid (HB1.out.trans (hb2.mono HB1.out.size))
  have hx2:=HH.out w2 HB2.out
  clear hb2
  go_wp2_with (first
   | (go_at_call 112;refine (HEr.out _ HB2.out).mono ?_;rintro e w1 ⟨rfl,rfl⟩)
   | (go_at_call 202;refine (HWo.out _ HB2.out).mono ?_;rintro e w1 ⟨rfl,rfl⟩))
  go_ret2
  exact ⟨rfl,HB2.out⟩
 ·rw [decide_eq_false hf]
  have HC1:=hid (HCh.out hf _ HB1.out)
  clear HCh hf
  go_wp2_with (go_at_call 96;refine HC1.out.mono ?_;rintro e w2 ⟨rfl,hb2⟩;refine stop ?_)
  unfold Stop
  have HB2:=hid (HB1.out.trans (hb2.mono HB1.out.size))
  clear hb2 HC1
  go_wp2_with (go_at_call 237;refine (HPl.out _ HB2.out).mono ?_;rintro e w3 ⟨rfl,hb3⟩;refine stop ?_)
  unfold Stop
  have HB3:=hid (HB2.out.trans (hb3.mono HB2.out.size))
  have hx2:=HH.out w3 HB3.out
  clear hb3
  go_wp2_with (first
   | (go_at_call 112;refine (HEr.out _ HB3.out).mono ?_;rintro e w1 ⟨rfl,rfl⟩)
   | (go_at_call 202;refine (HWo.out _ HB3.out).mono ?_;rintro e w1 ⟨rfl,rfl⟩))
  go_ret2
  exact ⟨rfl,HB3.out⟩
end
end
end Go.Proofs.YtfkjjoglnmeciaaGreatDoor
