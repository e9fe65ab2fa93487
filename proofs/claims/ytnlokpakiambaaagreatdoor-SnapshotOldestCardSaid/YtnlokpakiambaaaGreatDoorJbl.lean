/- The walks and laws that the claim leans on, part 38. -/
import Derived.Test.YtnlokpakiambaaaGreatDoorJbk
set_option maxRecDepth 100000
set_option maxHeartbeats 16000000
namespace Go.Proofs.YtnlokpakiambaaaGreatDoor
open Go.Lib (hid)
section
open Go.RowKit Go.Maps
def RetLi (w:World) (l:List (List Nat × Nat)) (e:Ending) (w':World):Prop:=∃ A m c l',e = .returned (.slice A m c)∧SortNm l l'∧w'.ownsRow w.heap.size 106 2 (.slice A m c) m (itCells l')∧Below w.heap.size w w'
theorem infoNamed:(Tryz.prog.info? 106).map (fun i=>(i.zero,i.size,i.bytes))=some (some (.agg #[.string ⟨#[]⟩, .int .u64 0]),2,24):=by kernel_rfl
section
variable {R:Option (Nat × List (List Nat × Nat)) × Nat} {rv sv:Value} {w:World}
theorem list_some (hs:SrtNm) (h:RdC rv sv w R) (hok:RgOk R) (st:Nat) (l:List (List Nat × Nat)) (hR:R.1=some (st,l)):Calls Tryz.prog 42 #[rv,sv] w (RetLi w l):=by
 have H:=hid h
 clear h
 have hl8:l.length≤8:=(hok.some_ _ hR).2.1
 obtain ⟨R1,c⟩:=R
 have hn':R1=some (st,l):=hR
 subst hn'
 have H2:Hid (Calls Tryz.prog 77 #[rv,sv] w fun e w'=>(∃ A m c,e = .returned (.tuple #[.int .u64 (st:Int), .slice A m c, .int .i64 0])∧m=l.length∧w'.ownsRow w.heap.size 159 2 (.slice A m c) m (itCells l))∧Below w.heap.size w w'):=H
 have HS:Hid SrtNm:=hid hs
 have HL8:=hid hl8
 obtain ⟨i0,hi0,hz0,hz1,hz2⟩:=info_parts infoNamed
 clear H hok hR hl8 hs
 go_enter Tryz.func42,Tryz.ntmps42
 go_upto_region 4 with (go_at_call 77;refine H2.out.mono ?_;rintro e w1 ⟨⟨A1,m1,c1,rfl,hm1,ho1⟩,hb1⟩;have HB1:=hid hb1;have HM1:=hid hm1;have HO1:=hid ho1;clear hb1 hm1 ho1)
 have HO0:Hid (w1.ownsRow w1.heap.size 106 2 (.slice none 0 0) 0 (itCells (l.take 0))):=World.ownsRow_nil _ _ _ _
 have HB0:Hid (Below w1.heap.size w1 w1):=hid (Below.refl _ _)
 go_loopw [8,20] (fun v i wr=>∃ (k:Nat) (A:Option Addr) (c:Nat),k≤m1∧i = .int .i64 (k:Int)∧v = .slice A k c∧Hid (wr.ownsRow w1.heap.size 106 2 (.slice A k c) k (itCells (l.take k)))∧Hid (Below w1.heap.size w1 wr)) (fun _ i _=>m1 - (Go.RowKit.intOf i).toNat)
 case atStart=>exact ⟨0,_,_,Nat.zero_le _,rfl,rfl,HO0,HB0⟩
 case round =>
  clear HO0 HB0
  obtain ⟨k,A2,c2,hk,rfl,rfl,HO,HB⟩:=hrel
  by_cases hlt:k < m1
  ·have hm8:m1≤8:=by rw [HM1.out];exact HL8.out
   obtain ⟨hkl,gb,go,hA3,_,f0,f1⟩:=it_facts ((Reads.of_own HO1.out).below HB.out) (k:=k) hlt
   subst hA3
   have hz5:(0:Int)≤(k:Int):=by omega
   have hz6:(k:Int) < (m1:Int):=by omega
   have hk8:k≤8:=by omega
   have HTS:Hid (itCells (l.take (k+1))=itCells (l.take k)++[.string (strN l[k].1), .int .u64 (l[k].2:Int)]):=hid (by rw [List.take_succ_eq_append_getElem hkl,itCells_snoc])
   generalize l[k]=p at *
   obtain ⟨W2,hW2⟩:∃ W2,wr.alloc (.cells #[.string (strN p.1), .int .u64 (p.2:Int)] 159)=W2:=⟨_,rfl⟩
   have hk2:Blk W2 wr.heap.size 159 #[.string (strN p.1), .int .u64 (p.2:Int)]:=by rw [← hW2];exact Blk.new _ _ _
   have HO2:Hid (W2.ownsRow w1.heap.size 106 2 (.slice A2 k c2) k (itCells (l.take k))):=hid (by rw [← hW2];exact HO.out.alloc _)
   have HB2:Hid (Below w1.heap.size w1 W2):=hid (by rw [← hW2];exact HB.out.alloc HB.out.size _)
   have HW2:=hid hW2
   have g0:W2.cell? ⟨wr.heap.size,0,none⟩=some (.string (strN p.1)):=hk2.cell 0
   have g1:W2.cell? ⟨wr.heap.size,1,none⟩=some (.int .u64 (p.2:Int)):=hk2.cell 1
   clear hW2 hk2
   go_upto_region 6 with fail
   rw [HW2.out]
   have HLE:=hid HB2.out.size
   go_wp2_with (at_builtin;refine stop ?_)
   unfold Stop
   have HR1:=hid (row_reads_at W2 _ rfl [.string (strN p.1), .int .u64 (p.2:Int)] 1 2 106 _ rfl rfl)
   refine wpList_app _ (.tmp 24) (.tmp 30) 103 rfl rfl w1.heap.size 106 i0 _ 2 24 Tryz.underlying103 hi0 hz0 hz1 hz2 rfl (by omega) (.slice A2 k c2) k (itCells (l.take k)) rfl (HO2.out.alloc _) (W2.heap.size+1) (some ⟨W2.heap.size,0,none⟩) 1 1 [.string (strN p.1), .int .u64 (p.2:Int)] rfl HR1.out (fun u hu=>by simp at hu;rcases hu with rfl | rfl <;> rfl) (by unfold maxLen;omega) (by omega) (by have:=HLE.out;simp;omega) ?_
   intro A3 n3 c3 w8 hn3 ho3 hg3 hb3
   obtain rfl:n3=k+1:=hn3
   have HO4:Hid (w8.ownsRow w1.heap.size 106 2 (.slice A3 (k+1) c3) (k+1) (itCells (l.take (k+1)))):=hid (by rw [HTS.out];exact ho3)
   have HB4:=hid ((HB2.out.alloc HB2.out.size _).trans hb3)
   clear ho3 hg3 hb3 g0 g1
   go_wp2_with fail
   go_roundw
   case rel =>
    first
     | exact ⟨k+1,_,_,by omega,by go_num,rfl,HO4,HB4⟩
     | (
       repeat apply Exists.intro
       refine ⟨?_,rfl⟩
       exact ⟨k+1,_,_,by omega,by go_num,rfl,HO4,HB4⟩)
   case measure=>simp [Go.RowKit.intOf];omega
  ·obtain rfl:k=m1:=by omega
   have ho:=HO.out
   rw [List.take_of_length_le (by rw [HM1.out];exact Nat.le_refl _)] at ho
   have HSc:=hid (HS.out ho (by rw [HM1.out];have:=HL8.out;omega))
   clear ho
   go_wp2_with (go_at_call 89;refine HSc.out.mono ?_;rintro e w2 ⟨rfl,l',hs2,ho2,hb2⟩;have HS2:=hid hs2;have HO2:=hid (own_le ho2 HB1.out.size);have HB2:=hid (HB1.out.trans ((HB.out.trans hb2).mono HB1.out.size));clear hs2 ho2 hb2)
   go_ret
   exact ⟨_,_,_,l',rfl,HS2.out,HO2.out,HB2.out⟩
end
end
section
open Go.RowKit Go.Maps
section
variable {a:DA} {L T s n K:Nat} {x:HA} {cs:Nat→CS} {f:Nat→Option Nat} {N m b0:Nat} {S:Fp} {cur:Nat→Nat} {w:World} {d r:Nat}
def RetCrs (a:DA) (L T s n K:Nat) (x:HA) (cs:Nat→CS) (f:Nat→Option Nat) (N m b0:Nat) (S:Fp) (cur:Nat→Nat) (w:World) (d r:Nat) (e:Ending) (w':World):Prop :=
 ∃ k i S' cs' cur' g,e = .returned (.tuple #[.int .u64 (fptr s cs' 8 k i:Int), .slice (some ⟨g,0,none⟩) 1 1, .int .i64 0])∧ResOk s K cs f cur (clsOf 34) cs' cur' k i∧SD a L (T+400) s n K x cs' (updF f (offO s cs' k i) (some (fptr s cs' 8 k i))) (N+1) (m+1) b0 S' cur' w' d r∧Blk w' g 27 #[.int .u64 (fptr s cs' 8 k i:Int)]∧¬ sfp S' x g∧Chg (sfp S x) w w'∧Grew S S' w
theorem snCreate_any (h:SD a L T 53 n K x cs f N m b0 S cur w d r) (hN:N < 1000000000) (hT:T+400≤1000000000)
  (hcap:(∃ k i,Vac 53 K cs f (clsOf 34) k i)∨∃ k,k < K∧(cs k).dv=false) :
  Calls Tryz.prog 47 #[.iface 43 (.pointer (some ⟨d,0,none⟩))] w (RetCrs a L T 53 n K x cs f N m b0 S cur w d r):=by
 have HE0:=hid (errD h.ds.dev h.dir)
 have HAl:Hid (∀ W,Below w.heap.size w W→Calls Tryz.prog 286 #[.pointer (some ⟨d,0,none⟩), .int .i64 34, .int .u8 8] W (RetAl a L T 53 n K x cs f N m b0 S cur W d r (clsOf 34) 8)):=hid (fun W hW=>allocD (h.below hW) 34 8 (by omega) (by omega) (by omega) (by omega) hN hT hcap)
 have hmE:=methDErr (some ⟨d,0,none⟩)
 have hmA:=methDAlloc (some ⟨d,0,none⟩)
 have hna:=aheadDAlloc ⟨d,0,none⟩
 have hmf:∀ (fn:Fn) (first cap:Array Value) (w:World),(Instr.makeFunc fn first cap).run Tryz.prog w = .ok (.func fn first cap) w:=fun _ _ _ _=>rfl
 have hnil:∀ W,(binOp .eql 124 (.iface 43 (.pointer (some ⟨d,0,none⟩))) .nilIface).run Tryz.prog W = .ok (.bool false) W:=fun W=>by rfl
 have e34:IntKind.i64.wrap 34=34:=by rfl
 clear h hcap
 go_enter Tryz.func47,Tryz.ntmps47
 go_upto_region 6 with (go_at_call 288;refine HE0.out.mono ?_;rintro e w1 ⟨rfl,rfl⟩)
 refine wp_region_scriptH (fun _=>True) 13 [] [(1,0),(1,4),(1,5),(1,6),(0,1),(0,2),(1,3),(0,7),(1,8),(1,9),(1,10),(1,11),(1,12)] (by kernel_rfl) (by kernel_rfl) trivial ?_
 refine wpScriptH_take (.iface 43 (.pointer (some ⟨d,0,none⟩))) (by rfl) (by rfl) (fun w' hS=>?_) ?_
 ·go_simp
 simp only [zA,zB,Act.put,zD,zE,zF]
 refine wpScriptH_take (.func (.method "Alloc") #[.iface 43 (.pointer (some ⟨d, 0, none⟩))] #[]) (by rfl) (by rfl) (fun w' hS => ?_) ?_
 ·go_simp
 simp only [zA,zB,zC,Act.put,zD,zE,zF]
 refine wpScriptH_take (.func (.method "Alloc") #[.iface 43 (.pointer (some ⟨d, 0, none⟩))] #[]) (by rfl) (by rfl) (fun w' hS => ?_) ?_
 ·go_simp
 simp only [zA,zB,zC,Act.put,zD,zE,zF]
 refine wpScriptH_take (.iface 43 (.pointer (some ⟨d,0,none⟩))) (by rfl) (by rfl) (fun w' hS=>?_) ?_
 ·go_simp
 simp only [zA,zB,zC,Act.put,zD,zE,zF]
 refine wpScriptH_do (by rfl) ?_
 go_wp2_with (go_at_call 96;refine (codec_any _).mono ?_;rintro e w2 ⟨rfl,hb2⟩;have HB2:=hid ((Below.refl w.heap.size w).drew.trans hb2);clear hb2)
 refine ⟨trivial,?_⟩
 refine wpScriptH_do (by rfl) ?_
 go_wp2_with (go_at_call 97;refine (arWords_any _).mono ?_;rintro e w3 ⟨rfl,hb3⟩;have HB3:=hid (HB2.out.trans (hb3.mono HB2.out.size));clear hb3)
 refine ⟨trivial,?_⟩
 refine wpScriptH_take (.int .i64 34) (by rfl) (by rfl) (fun w' hS=>?_) ?_
 ·go_simp
 simp only [zA,zB,zC,Act.put,zD,zE,zF]
 refine wpScriptH_do (by rfl) ?_
 go_wp2_with (go_at_call 286;refine (HAl.out _ HB3.out).mono ?_;rintro e w4 ⟨k,i,S4,cs4,cur4,rfl,hro,hsd4,hch4,hgr4⟩;refine stop ?_)
 unfold Stop
 have HR4:=hid (And.intro hro (And.intro hsd4 (And.intro ((Chg.of_below HB3.out).trans hch4 (fun j hj => .inl hj)) (fun k hk=>(hgr4 k hk).imp id (fun h=>Nat.le_trans HB3.out.size h)))))
 obtain ⟨q,hq⟩:∃ q,fptr 53 cs4 8 k i=q:=⟨_,rfl⟩
 have HQ:=hid hq
 rw [hq]
 clear hro hsd4 hch4 hgr4 hq
 go_wp2_with fail
 refine ⟨trivial,?_⟩
 refine wpScriptH_take (.tuple #[.int .u64 (q:Int), .int .i64 0]) (by rfl) (by rfl) (fun w' hS=>?_) ?_
 ·go_simp
 simp only [zA,zB,zC,Act.put,zD,zE,zF]
 refine wpScriptH_take (.int .u64 (q:Int)) (by rfl) (by rfl) (fun w' hS=>?_) ?_
 ·go_simp
 simp only [zA,zB,zC,Act.put,zD,zE,zF]
 refine wpScriptH_take (.int .i64 0) (by rfl) (by rfl) (fun w' hS=>?_) ?_
 ·go_simp
 simp only [zA,zB,zC,Act.put,zD,zE,zF]
 refine wpScriptH_take (.int .u64 (q:Int)) (by rfl) (by rfl) (fun w' hS=>?_) ?_
 ·go_simp
 simp only [zA,zB,zC,Act.put,zD,zE,zF]
 refine wpScriptH_take (.int .i64 0) (by rfl) (by rfl) (fun w' hS=>?_) ?_
 ·go_simp
 simp only [zA,zB,zC,Act.put,zD,zE,zF]
 show wpList _ _ _ _ _ _
 simp only [List.drop_succ_cons,List.drop_zero]
 refine NoPanic.normal ?_
 go_wp2_with fail
 go_ret3
 obtain ⟨h1,h2,h3,h4⟩:=HR4.out
 have hb:Below w4.heap.size w4 (w4.alloc (.cells #[.int .u64 (q:Int)] 27)):=(Below.refl _ _).alloc (Nat.le_refl _) _
 refine ⟨k,i,S4,cs4,cur4,w4.heap.size,?_,h1,h2.below hb,?_,sfp_new h2,h3.trans (Chg.of_below hb) (fun j hj => .inl hj),h4⟩
 ·rw [HQ.out]
  rfl
 ·rw [HQ.out]
  exact Blk.new _ _ _
end
end
section
open Go.RowKit Go.Maps
structure RV where
 v:VV
 B:Option Addr
 nb:Nat
 cb:Nat
 D:Option Addr
 nd:Nat
 cd:Nat
end
section
open Go.RowKit Go.Maps
def bytesN (s:ByteArray):List Nat:=s.data.toList.map UInt8.toNat
theorem strN_bytesN (s:ByteArray):strN (bytesN s)=s:=by
 unfold strN bytesN
 rw [List.map_map]
 have e:(UInt8.ofNat ∘ UInt8.toNat)=id:=by
  funext c
  simp
 rw [e,List.map_id]
theorem bytesN_lt (s:ByteArray):∀ b∈bytesN s,b < 256:=fun b hb=>by
 obtain ⟨c,_,rfl⟩:=List.mem_map.1 hb
 exact c.toNat_lt
theorem bytesN_len (s:ByteArray):(bytesN s).length=s.size:=by
 unfold bytesN
 rw [List.length_map]
 rfl
def tkR (s:ByteArray) (R:Option (Nat × List (List Nat × Nat)) × Nat):(Nat × Nat) × List (List Nat × Nat):=if nmOk s=false then ((0,15),[]) else match R.1 with
 | some q=>if 0≤fndS s 0 q.2 then ((0,6),[]) else if q.2.length=8 then ((0,4),[]) else ((q.1,0),q.2++[(bytesN s,q.1)])
 | none=>((0,R.2),[])
section
variable {R:Option (Nat × List (List Nat × Nat)) × Nat} {w:World} {g d:Nat}
theorem take_err (h:RdC (.pointer (some ⟨g,0,none⟩)) (.iface 43 (.pointer (some ⟨d,0,none⟩))) w R) (hok:RgOk R) (s:ByteArray) (hs:s.size≤9223372036854775807) (he:(tkR s R).1.2≠0):Calls Tryz.prog 36 #[.pointer (some ⟨g,0,none⟩), .iface 43 (.pointer (some ⟨d,0,none⟩)), .string s] w fun e w'=>e = .returned (.tuple #[.int .u64 0, .int .i64 ((tkR s R).1.2:Int)])∧Below w.heap.size w w':=by
 have H:=hid h
 have hnil:∀ W,(binOp .eql 124 (.iface 43 (.pointer (some ⟨d,0,none⟩))) .nilIface).run Tryz.prog W = .ok (.bool false) W:=fun W=>by rfl
 have HV:=hid (fun W=>valid_any s hs W)
 clear h
 cases hn:nmOk s with
 | false =>
  have HY:Hid (tkR s R=((0,15),[])):=hid (by unfold tkR;rw [if_pos hn])
  rw [hn] at HV
  clear hn H hok he
  go_enter Tryz.func36,Tryz.ntmps36
  go_wp2_with (go_at_call 79;refine (HV.out _).mono ?_;rintro e w1 ⟨rfl,rfl⟩)
  go_ret2
  rw [HY.out]
  exact ⟨rfl,Below.refl _ _⟩
 | true =>
  rw [hn] at HV
  obtain ⟨R1,c⟩:=R
  rcases R1 with _ | ⟨st,l⟩
  ·have H2:Hid (Calls Tryz.prog 77 #[.pointer (some ⟨g,0,none⟩), .iface 43 (.pointer (some ⟨d,0,none⟩))] w fun e w'=>e = .returned (.tuple #[.int .u64 0, .slice none 0 0, .int .i64 (c:Int)])∧Below w.heap.size w w'):=H
   have HY:Hid (tkR s (none,c)=((0,c),[])):=hid (by unfold tkR;rw [if_neg (by rw [hn];decide)])
   have hc:c≠0:=hok.none_ rfl
   have d0:((c:Int) != 0)=true:=by rw [bne,beq_eq_false_iff_ne.2 (by omega)];rfl
   clear hn H hok he hc
   go_enter Tryz.func36,Tryz.ntmps36
   go_wp2_with (first
    | (go_at_call 79;refine (HV.out _).mono ?_;rintro e w1 ⟨rfl,rfl⟩)
    | (go_at_call 77;refine H2.out.mono ?_;rintro e w1 ⟨rfl,hb1⟩;have HB1:=hid hb1;clear hb1))
   go_ret2
   rw [HY.out]
   exact ⟨rfl,HB1.out⟩
  ·have H2:Hid (Calls Tryz.prog 77 #[.pointer (some ⟨g,0,none⟩), .iface 43 (.pointer (some ⟨d,0,none⟩))] w fun e w'=>(∃ A m c,e = .returned (.tuple #[.int .u64 (st:Int), .slice A m c, .int .i64 0])∧m=l.length∧w'.ownsRow w.heap.size 159 2 (.slice A m c) m (itCells l))∧Below w.heap.size w w'):=H
   have HL8:Hid (l.length≤8):=hid (hok.some_ (st,l) rfl).2.1
   have HY:Hid (tkR s (some (st,l),c)=if 0≤fndS s 0 l then ((0,6),[]) else if l.length=8 then ((0,4),[]) else ((st,0),l++[(bytesN s,st)])):=hid (by unfold tkR;rw [if_neg (by rw [hn];decide)])
   have HE:=hid he
   generalize tkR s (some (st,l),c)=Y at *
   have HFn:=hid (fun (A:Option Addr) (n c':Nat) (W:World) (hr:Reads W W.heap.size 2 A n (itCells l)) (hn:n≤100000)=>findS_any A n c' l s W hr hn)
   generalize fndS s 0 l=fi at *
   clear hn H hok he
   go_enter Tryz.func36,Tryz.ntmps36
   by_cases hf:0≤fi
   ·have HY2:Hid (Y=((0,6),[])):=hid (by rw [HY.out,if_pos hf])
    clear HY
    go_wp2_with (first
     | (go_at_call 79;refine (HV.out _).mono ?_;rintro e w1 ⟨rfl,rfl⟩)
     | (go_at_call 77;refine H2.out.mono ?_;rintro e w1 ⟨⟨A1,m1,c1,rfl,hm1,ho1⟩,hb1⟩;have HB1:=hid hb1;have HM1:=hid hm1;have HO1:=hid ho1;clear hb1 hm1 ho1)
     | (go_at_call 80;refine (HFn.out A1 m1 c1 w1 (Reads.of_own HO1.out) (by rw [HM1.out];have:=HL8.out;omega)).mono ?_;rintro e w2 ⟨rfl,hb2⟩;have HB2:=hid (HB1.out.trans (hb2.mono HB1.out.size));clear hb2))
    go_ret2
    rw [HY2.out]
    exact ⟨rfl,HB2.out⟩
   ·have h8:l.length=8:=by
     have h1:=HE.out
     rw [HY.out,if_neg hf] at h1
     by_cases h2:l.length=8
     ·exact h2
     ·rw [if_neg h2] at h1
      exact absurd rfl h1
    have HY2:Hid (Y=((0,4),[])):=hid (by rw [HY.out,if_neg hf,if_pos h8])
    have hf2:fi < 0:=by omega
    rw [h8] at H2
    clear HY h8 hf
    go_wp2_with (first
     | (go_at_call 79;refine (HV.out _).mono ?_;rintro e w1 ⟨rfl,rfl⟩)
     | (go_at_call 77;refine H2.out.mono ?_;rintro e w1 ⟨⟨A1,m1,c1,rfl,rfl,ho1⟩,hb1⟩;have HB1:=hid hb1;have HO1:=hid ho1;clear hb1 ho1)
     | (go_at_call 80;refine (HFn.out A1 8 c1 w1 (Reads.of_own HO1.out) (by decide)).mono ?_;rintro e w2 ⟨rfl,hb2⟩;have HB2:=hid (HB1.out.trans (hb2.mono HB1.out.size));clear hb2))
    go_ret2
    rw [HY2.out]
    exact ⟨rfl,HB2.out⟩
end
section
variable {a:DA} {L T s n K:Nat} {x:HA} {cs:Nat→CS} {f:Nat→Option Nat} {N m b0:Nat} {S:Fp} {cur:Nat→Nat} {w w':World} {d r:Nat}
def RetPwN (a:DA) (L T s n K:Nat) (x:HA) (cs:Nat→CS) (f:Nat→Option Nat) (N m b0:Nat) (S:Fp) (cur:Nat→Nat) (w:World) (d r:Nat) (us:List (Nat × Nat)) (st:Nat) (e:Ending) (w':World):Prop :=
 ∃ cm S',e = .returned (.tuple #[.int .u64 (st:Int), .int .i64 0])∧cm < 18446744073709551616∧SD a L (T+800) s n K x cs f N m b0 S' (rdG 0 cur us cm) w' d r∧Chg (sfp S x) w w'∧Grew S S' w
theorem nmOk_size {s:ByteArray} (h:nmOk s=true):s.size≤16:=by
 unfold nmOk at h
 simp only [Bool.and_eq_true,decide_eq_true_eq] at h
 exact h.2.2
theorem take_ok (h:SD a L T s n K x cs f N m b0 S cur w d r) (hK12:K≤12) (g p:Nat) (hg:Blk w g 153 #[.int .u64 (p:Int)]) (hP:PayOk L s K cs p) (st:Nat) (l:List (List Nat × Nat)) (hrd:RdC (.pointer (some ⟨g,0,none⟩)) (.iface 43 (.pointer (some ⟨d,0,none⟩))) w (some (st,l),0)) (hok:RgOk (some (st,l),0)) (nm:ByteArray) (hnm:nmOk nm=true) (hf:fndS nm 0 l < 0) (hl7:l.length≠8) (hT:T+800≤1000000000) (hN:N≤1000000000) :
  Calls Tryz.prog 36 #[.pointer (some ⟨g,0,none⟩), .iface 43 (.pointer (some ⟨d,0,none⟩)), .string nm] w (RetPwN a L T s n K x cs f N m b0 S cur w d r (flW cur (plOf (pOff p+8) (encA (l++[(bytesN nm,st)])))) st):=by
 have H2:Hid (Calls Tryz.prog 77 #[.pointer (some ⟨g,0,none⟩), .iface 43 (.pointer (some ⟨d,0,none⟩))] w fun e w'=>(∃ A m c,e = .returned (.tuple #[.int .u64 (st:Int), .slice A m c, .int .i64 0])∧m=l.length∧w'.ownsRow w.heap.size 159 2 (.slice A m c) m (itCells l))∧Below w.heap.size w w'):=hid hrd
 have hnil:∀ W,(binOp .eql 124 (.iface 43 (.pointer (some ⟨d,0,none⟩))) .nilIface).run Tryz.prog W = .ok (.bool false) W:=fun W=>by rfl
 have hsz:=nmOk_size hnm
 have HV:=hid (fun W=>valid_any nm (by omega) W)
 rw [hnm] at HV
 obtain ⟨hst,hl8,hlm,_⟩:=hok.some_ (st,l) rfl
 have hst':st≤4611686018427387903:=hst
 have hl8':l.length≤7:=by
  have:l.length≤8:=hl8
  omega
 have HFn:=hid (fun (A:Option Addr) (n c':Nat) (W:World) (hr:Reads W W.heap.size 2 A n (itCells l)) (hn:n≤100000)=>findS_any A n c' l nm W hr hn)
 have hDm:∀ p∈l++[(bytesN nm,st)],p.1.length≤16∧(∀ b∈p.1,b < 256)∧p.2 < 18446744073709551616:=fun p hp=>by
  rcases List.mem_append.1 hp with hp | hp
  ·obtain ⟨q1,q2,q3⟩:=hlm p hp
   have q4:p.2≤st:=q3
   exact ⟨q1,q2,by omega⟩
  ·have e:=List.mem_singleton.1 hp
   subst e
   exact ⟨by rw [bytesN_len];exact hsz,bytesN_lt nm,show st < _ by omega⟩
 have hDl:(l++[(bytesN nm,st)]).length≤8:=by
  rw [List.length_append]
  simp
  omega
 have HPb:Hid (∀ (W:World) (A:Option Addr) (k0 c0:Nat),Below w.heap.size w W→Reads W W.heap.size 2 A k0 (itCells (l++[(bytesN nm,st)]))→k0≤8→Calls Tryz.prog 81 #[.pointer (some ⟨g,0,none⟩), .iface 43 (.pointer (some ⟨d,0,none⟩)), .slice A k0 c0] W (RetPw a L T s n K x cs f N m b0 S cur w d r (flW cur (plOf (pOff p+8) (encA (l++[(bytesN nm,st)])))))):=hid (fun W A k0 c0 hW hr hk0=>by
  have h1:=rpub_any (h.below hW) hK12 g p (hg.below hW hg.lt) hP.ne hP.al hP.inl hP.le A k0 c0 (l++[(bytesN nm,st)]) hr hk0 (fun p hp=>⟨(hDm p hp).1,(hDm p hp).2.1⟩) (hP.uok _ (encA_val hDl hDm)) hT hN
  refine h1.mono (fun e w' h=>?_)
  obtain ⟨cm,S',q0,q1,q2,q3,q4⟩:=h
  exact ⟨cm,S',q0,q1,q2,(Chg.of_below hW).trans q3 (fun j hj => .inl hj),fun k hk=>(q4 k hk).imp id (fun h=>Nat.le_trans hW.size h)⟩)
 have HIt:Hid (itCells (l++[(bytesN nm,st)])=itCells l++[.string nm, .int .u64 (st:Int)]):=hid (by rw [itCells_snoc,strN_bytesN])
 generalize flW cur (plOf (pOff p+8) (encA (l++[(bytesN nm,st)])))=us at *
 generalize itCells (l++[(bytesN nm,st)])=its at *
 generalize fndS nm 0 l=fi at *
 have HL8:=hid hl8'
 obtain ⟨i0,hi0,hz0,hz1,hz2⟩:=info_parts infoBoth
 clear h hg hrd hok hst hst' hl8 hl7 hl8' hlm hDm hDl hP hnm hsz
 go_enter Tryz.func36,Tryz.ntmps36
 go_upto_region 10 with (first
  | (go_at_call 79;refine (HV.out _).mono ?_;rintro e w1 ⟨rfl,rfl⟩)
  | (go_at_call 77;refine H2.out.mono ?_;rintro e w1 ⟨⟨A1,m1,c1,rfl,hm1,ho1⟩,hb1⟩;have HB1:=hid hb1;have HM1:=hid hm1;have HO1:=hid ho1;clear hb1 hm1 ho1)
  | (go_at_call 80;refine (HFn.out A1 m1 c1 w1 (Reads.of_own HO1.out) (by rw [HM1.out];have:=HL8.out;omega)).mono ?_;rintro e w2 ⟨rfl,hb2⟩;have HB2:=hid (HB1.out.trans (hb2.mono HB1.out.size));have HO2:=hid (own_below HO1.out hb2);clear hb2))
 have d8:((m1:Int) == 8)=false:=beq_eq_false_iff_ne.2 (by have:=HL8.out;have:=HM1.out;omega)
 go_upto_region 12 with fail
 have hm7:m1≤7:=by rw [HM1.out];exact HL8.out
 go_wp2_with (at_builtin;refine stop ?_)
 unfold Stop
 have HR1:=hid (row_reads_at w2 _ rfl [.string nm, .int .u64 (st:Int)] 1 2 159 _ rfl rfl)
 refine wpList_app _ (.tmp 40) (.tmp 44) 149 rfl rfl w.heap.size 159 i0 _ 2 24 Tryz.underlying149 hi0 hz0 hz1 hz2 rfl (by omega) (.slice A1 m1 c1) m1 (itCells l) rfl (HO2.out.alloc _) (w2.heap.size+1) (some ⟨w2.heap.size,0,none⟩) 1 1 [.string nm, .int .u64 (st:Int)] rfl HR1.out (fun u hu=>by simp at hu;rcases hu with rfl | rfl <;> rfl) (by unfold maxLen;omega) (by omega) (by have:=HB2.out.size;simp;omega) ?_
 intro A3 n3 c3 w3 hn3 ho3 hg3 hb3
 have HB3:=hid ((HB2.out.alloc HB2.out.size _).trans hb3)
 have HPc:=hid (HPb.out w3 A3 n3 c3 HB3.out (by
  rw [HIt.out]
  exact Reads.of_own ho3) (by omega))
 clear hn3 ho3 hg3 hb3 HPb
 go_wp2_with (go_at_call 81;refine HPc.out.mono ?_;rintro e w4 h4;have HP4:=hid h4;obtain ⟨cm,S',rfl,q1,q2,q3,q4⟩:=h4;clear q1 q2 q3 q4)
 go_ret2
 obtain ⟨cm,S',q0,q1,q2,q3,q4⟩:=HP4.out
 exact ⟨cm,S',rfl,q1,q2,q3,q4⟩
end
end
section
open Go.RowKit Go.Maps
section
variable {a:DA} {L T n K:Nat} {x:HA} {cs:Nat→CS} {f:Nat→Option Nat} {N m b0:Nat} {S:Fp} {cur:Nat→Nat} {w:World}
theorem payOk_of (hd:DS a L T 53 n K x cs f N m b0 S cur w) {q k i:Nat} (h:LiveA 53 K cs q 8 k i) (hc:(cs k).cl=4) (hL:64 * L≤900000):PayOk L 53 K cs q:=by
 have hin:=(h.at_.inL hd).1
 have hl:=h.at_.lines
 have hlo:=h.at_.lo
 rw [hc] at hin
 have e60:payW 4=60:=rfl
 rw [e60] at hin
 refine ⟨h.nz,hl.2,by omega,by omega,fun xs hx=>⟨fun e he=>?_,fun e he=>?_,fun e he k' hk' hlk=>?_,?_⟩⟩
 ·obtain ⟨j,hj,rfl⟩:=plOf_mem.1 he
  exact ⟨by show (pOff q+8+8 * j) % 8=0;omega,by show pOff q+8+8 * j < 64 * L;omega, .inr (by show 64 * 0+64 * 26≤pOff q+8+8 * j;omega)⟩
 ·obtain ⟨j,hj,rfl⟩:=plOf_mem.1 he
  show xs.getD j 0 < _
  rw [List.getD_eq_getElem?_getD]
  cases hg:xs[j]? with
  | none=>exact show (0:Nat) < 18446744073709551616 by omega
  | some y=>exact hx y (List.mem_of_getElem? hg)
 ·obtain ⟨j,hj,rfl⟩:=plOf_mem.1 he
  have h4:=h.at_.notLook (y:=j+1) (by rw [hc,e60];omega) hk'
  have hlk':lookAt 53 cs k' ((pOff q+8+8 * j) / 8):=hlk
  rw [show (pOff q+8+8 * j) / 8=pOff q / 8+(j+1) by omega,hl.1] at hlk'
  exact h4 hlk'
 ·unfold plOf
  rw [List.map_map]
  have e:((fun u:Nat × Nat=>u.1) ∘ fun j=>(pOff q+8+8 * j,xs.getD j 0))=fun j=>pOff q+8+8 * j:=rfl
  rw [e]
  exact (List.nodup_range (n:=33)).map _ (fun a b hab h2=>hab (by omega))
end
end
section
open Go.RowKit Go.Maps
structure HP where
 a:DA
 T:Nat
 x:HA
 y:WA
 cs:Nat→CS
 f:Nat→Option Nat
 N:Nat
 m:Nat
 b0:Nat
 S:Fp
 cur:Nat→Nat
 A:Option Addr
 n:Nat
 c:Nat
 al:List Nat
theorem sfp_lt {a:DA} {L T n K:Nat} {x:HA} {cs:Nat→CS} {f:Nat→Option Nat} {N m b0:Nat} {S:Fp} {cur:Nat→Nat} {w:World} {d r:Nat} (h:SD a L T 53 n K x cs f N m b0 S cur w d r) {i:Nat} (hi:sfp S x i):i < w.heap.size:=by
 rcases hi with e | e
 ·exact h.ds.dev.lt _ e
 ·have h1:=h.lo
  have h2:=h1.pl
  have h3:=h1.mr
  have h4:=h1.mh
  have e':i=x.pl∨i=x.mr∨i=x.mh:=e
  omega
section
variable {w0 w w':World} {k gh:Nat} {rl:List RV} {vl:List VV} {z:HP}
variable {dl:Bool} {bl p:List Nat} {wA wB wC wD wE:World} {T1 N1:Nat} {cs1:Nat→CS} {f1:Nat→Option Nat} {S1:Fp} {cur1:Nat→Nat} {al1:List Nat}
variable {st older q:Nat}
end
end
section
open Go.RowKit Go.Maps
def nmS (p:List Nat × Nat):ByteArray:=strN p.1
theorem fndS_neg (s:ByteArray):∀ (l:List (List Nat × Nat)) (i:Nat),fndS s i l < 0↔s ∉ l.map nmS
 | [],i=>by
  constructor
  ·intro _ h
   cases h
  ·intro _
   exact (by decide:(-1:Int) < 0)
 | p :: t,i=>by
  have ih:=fndS_neg s t (i+1)
  unfold fndS
  rw [List.map_cons,List.mem_cons]
  by_cases h:strN p.1=s
  ·rw [if_pos h]
   constructor
   ·intro h1
    omega
   ·intro h1
    exact absurd (Or.inl h.symm) h1
  ·rw [if_neg h,ih]
   constructor
   ·intro h1 h2
    rcases h2 with h2 | h2
    ·exact h h2.symm
    ·exact h1 h2
   ·intro h1 h2
    exact h1 (.inr h2)
theorem fndS_at (s:ByteArray):∀ (l:List (List Nat × Nat)) (i:Nat),¬ fndS s i l < 0→∃ j,∃ h:j < l.length,fndS s i l=((i+j:Nat):Int)∧nmS l[j]=s
 | [],i,h=>absurd (by decide:(-1:Int) < 0) h
 | p :: t,i,h=>by
  unfold fndS at h ⊢
  by_cases e:strN p.1=s
  ·rw [if_pos e]
   exact ⟨0,by simp,rfl,e⟩
  ·rw [if_neg e] at h ⊢
   obtain ⟨j,hj,h1,h2⟩:=fndS_at s t (i+1) h
   refine ⟨j+1,by simpa using hj,?_,h2⟩
   rw [h1]
   omega
theorem sndS_iff (st:Nat):∀ (l pre:List (List Nat × Nat)),sndS st pre l=true↔(∀ p∈l,nmOk (nmS p)=true∧p.2≤st)∧(l.map nmS).Nodup∧∀ p∈l,nmS p ∉ pre.map nmS
 | [],pre=>by simp [sndS]
 | x :: t,pre=>by
  have ih:=sndS_iff st t (pre++[x])
  unfold sndS
  rw [Bool.and_eq_true,Bool.and_eq_true,Bool.and_eq_true,decide_eq_true_eq,decide_eq_true_eq,ih,fndS_neg,List.map_cons,List.nodup_cons]
  constructor
  ·rintro ⟨⟨h1,h2,h3⟩,h4,h5,h6⟩
   refine ⟨fun p hp=>?_,⟨fun hx=>?_,h5⟩,fun p hp=>?_⟩
   ·rcases List.mem_cons.1 hp with rfl | hp
    ·exact ⟨h1,h2⟩
    ·exact h4 p hp
   ·obtain ⟨q,hq,he⟩:=List.mem_map.1 hx
    refine h6 q hq ?_
    rw [he]
    simp
   ·rcases List.mem_cons.1 hp with rfl | hp
    ·exact h3
    ·intro h7
     refine h6 p hp ?_
     rw [List.map_append]
     exact List.mem_append.2 (.inl h7)
  ·rintro ⟨h1,⟨h2,h3⟩,h4⟩
   refine ⟨⟨(h1 x (by simp)).1,(h1 x (by simp)).2,h4 x (by simp)⟩,fun p hp=>h1 p (by simp [hp]),h3,fun p hp hx=>?_⟩
   rw [List.map_append] at hx
   rcases List.mem_append.1 hx with hx | hx
   ·exact h4 p (by simp [hp]) hx
   ·refine h2 ?_
    have e:nmS p=nmS x:=by simpa using hx
    rw [← e]
    exact List.mem_map.2 ⟨p,hp,rfl⟩
structure LOk (st:Nat) (l:List (List Nat × Nat)):Prop where
 top:st≤4611686018427387903
 len:l.length≤8
 nm:∀ p∈l,nmOk (nmS p)=true∧p.2≤st
 nd:(l.map nmS).Nodup
 by_:∀ p∈l,p.1.length≤16∧∀ b∈p.1,b < 256
theorem LOk.snd {st:Nat} {l:List (List Nat × Nat)} (h:LOk st l):sndP st l=true:=by
 unfold sndP
 rw [Bool.and_eq_true,decide_eq_true_eq]
 exact ⟨h.top,(sndS_iff st l []).2 ⟨h.nm,h.nd,(fun p _ hx=>by cases hx)⟩⟩
theorem LOk.nil:LOk 0 []:=⟨by decide,by decide,(fun p hp=>by cases hp),List.nodup_nil,(fun p hp=>by cases hp)⟩
theorem LOk.next {st:Nat} {l:List (List Nat × Nat)} (h:LOk st l) (hs:st < 4611686018427387903):LOk (st+1) l :=
 ⟨by omega,h.len,fun p hp=>⟨(h.nm p hp).1,Nat.le_succ_of_le (h.nm p hp).2⟩,h.nd,h.by_⟩
theorem LOk.take {st:Nat} {l:List (List Nat × Nat)} (h:LOk st l) {s:ByteArray} (hn:nmOk s=true) (hf:fndS s 0 l < 0) (h8:l.length≠8):LOk st (l++[(bytesN s,st)]):=by
 have h1:=(fndS_neg s l 0).1 hf
 have e:nmS (bytesN s,st)=s:=strN_bytesN s
 refine ⟨h.top,?_,fun p hp=>?_,?_,fun p hp=>?_⟩
 ·have h2:=h.len
  rw [List.length_append]
  show l.length+1≤8
  omega
 ·rcases List.mem_append.1 hp with hp | hp
  ·exact h.nm p hp
  ·have e2:=List.mem_singleton.1 hp
   subst e2
   exact ⟨by rw [e];exact hn,Nat.le_refl _⟩
 ·rw [List.map_append,List.nodup_append]
  refine ⟨h.nd,by simp,fun a ha b hb hab=>?_⟩
  have e2:b=nmS (bytesN s,st):=List.mem_singleton.1 hb
  rw [e] at e2
  subst hab
  rw [e2] at ha
  exact h1 ha
 ·rcases List.mem_append.1 hp with hp | hp
  ·exact h.by_ p hp
  ·have e2:=List.mem_singleton.1 hp
   subst e2
   exact ⟨by show (bytesN s).length≤16;rw [bytesN_len];exact nmOk_size hn,bytesN_lt s⟩
theorem dropL_perm {s:ByteArray} {l:List (List Nat × Nat)} {j:Nat} (hj:j < l.length) (hf:fndS s 0 l=(j:Int)):(l[j] :: dropL s l).Perm l:=by
 obtain ⟨t,z,rfl⟩:∃ t z,l=t++[z]:=⟨l.dropLast,l.getLast (by intro h;rw [h] at hj;simp at hj),(List.dropLast_concat_getLast _).symm⟩
 have hlen:(t++[z]).length - 1=t.length:=by simp
 have hlast:(t++[z]).getD t.length ([],0)=z:=by
  rw [List.getD_eq_getElem?_getD,List.getElem?_append_right (Nat.le_refl _),Nat.sub_self]
  rfl
 unfold dropL
 rw [hf,Int.toNat_natCast,hlen,hlast]
 rcases Nat.lt_or_ge j t.length with h | h
 ·rw [List.set_append_left _ _ h,List.take_left' (by rw [List.length_set])]
  rw [List.getElem_append_left h]
  have h1:(t[j] :: t.set j z).Perm (z :: t):=by
   have h2:t=t.take j++t[j] :: t.drop (j+1):=by rw [List.getElem_cons_drop,List.take_append_drop]
   have h3:t.set j z=t.take j++z :: t.drop (j+1):=List.set_eq_take_append_cons_drop.trans (by rw [if_pos h])
   have h4:(z :: t).Perm (z :: (t.take j++t[j] :: t.drop (j+1))):=by rw [← h2]
   refine List.Perm.trans ?_ h4.symm
   rw [h3]
   refine ((List.perm_middle (a:=z) (l₁:=t.take j) (l₂:=t.drop (j+1))).cons t[j]).trans ?_
   refine (List.Perm.swap z t[j] _).trans ?_
   exact (List.perm_middle.symm).cons z
  exact h1.trans (List.perm_append_comm (l₁:=[z]) (l₂:=t))
 ·have hjt:j=t.length:=by simp at hj;omega
  subst hjt
  rw [List.set_append_right _ _ (Nat.le_refl _),List.take_left' rfl]
  rw [List.getElem_append_right (Nat.le_refl _)]
  simp only [Nat.sub_self,List.getElem_cons_zero]
  exact List.perm_append_comm (l₁:=[z]) (l₂:=t)
theorem LOk.drop {st:Nat} {l:List (List Nat × Nat)} (h:LOk st l) {s:ByteArray} (hf:¬ fndS s 0 l < 0):LOk st (dropL s l):=by
 obtain ⟨j,hj,h1,_⟩:=fndS_at s l 0 hf
 rw [Nat.zero_add] at h1
 have hp:=dropL_perm hj h1
 have hm:∀ p∈dropL s l,p∈l:=fun p hp2=>hp.mem_iff.1 (List.mem_cons_of_mem _ hp2)
 have hl:=hp.length_eq
 rw [List.length_cons] at hl
 refine ⟨h.top,by have:=h.len;omega,fun p hp2=>h.nm p (hm p hp2),?_,fun p hp2=>h.by_ p (hm p hp2)⟩
 have h2:=(hp.map nmS).nodup_iff.2 h.nd
 rw [List.map_cons] at h2
 exact (List.nodup_cons.1 h2).2
end
section
open Go.RowKit Go.Maps
theorem zer_at (cur:Nat→Nat) {o k j:Nat} (h8:o % 8=0) (hj:j < k):wrS cur (zerW o k) (o / 8+j)=0:=by
 have hm:(o+8 * j,0)∈zerW o k:=List.mem_map.2 ⟨j,List.mem_range.2 hj,rfl⟩
 have hn:((zerW o k).map (·.1)).Nodup:=by
  unfold zerW
  rw [List.map_map]
  have e:((fun u:Nat × Nat=>u.1) ∘ fun j=>(o+8 * j,0))=fun j=>o+8 * j:=rfl
  rw [e]
  exact (List.nodup_range (n:=k)).map _ (fun a b hab h2=>hab (by omega))
 have h1:=wrS_get (zerW o k) cur hn (fun x hx=>by
  obtain ⟨j',_,rfl⟩:=zerW_mem hx
  show (o+8 * j') % 8=0
  omega) (o+8 * j,0) hm
 have e:(o+8 * j) / 8=o / 8+j:=by omega
 rw [← e]
 exact h1
section
variable {a:DA} {L T n K:Nat} {x:HA} {y:WA} {cs cs':Nat→CS} {f:Nat→Option Nat} {N m b0:Nat} {S:Fp} {cur cur':Nat→Nat} {w w':World}
theorem fresh_words {q k i:Nat} (ho:ResOk 53 K cs f cur 4 cs' cur' k i) (hA:At 53 K cs' q k i):WordsAt cur' q (List.replicate 34 0):=fun j hj=>by
 rw [List.length_replicate] at hj
 have hl:=hA.lines.2
 have h4:pOff q=offO 53 cs' k i:=hA.2.2.2
 have e60:payW 4=60:=rfl
 rw [List.getD_eq_getElem?_getD,List.getElem?_replicate,if_pos hj]
 show cur' (pOff q / 8+j)=0
 rcases ho.how with ⟨_,h⟩ | ⟨k0,_,_,_,_,h⟩ <;> rw [h,← h4,e60] <;> exact zer_at _ hl (by omega)
structure RgS (a:DA) (L T K:Nat) (x:HA) (y:WA) (cs:Nat→CS) (f:Nat→Option Nat) (N m b0:Nat) (S:Fp) (cur:Nat→Nat) (q st:Nat) (l:List (List Nat × Nat)) (w:World):Prop where
 bw:BW a L T K x y cs f N m b0 S cur w
 live:∃ k i,LiveA 53 K cs q 8 k i∧(cs k).cl=4
 words:WordsAt cur q (st :: encA l)
 ok:LOk st l
 link:cur 416=q
theorem RgS.set {q m1:Nat} {e:Ending} (h:BW a L T K x y cs f N m b0 S cur w) (hr:Rq 53 K cs f 8 q 4) (hw:WordsAt cur q (List.replicate 34 0)) (hT:T+800≤1000000000) (hp:RetPub a L T 53 (32 * K) K x cs f N m b0 S cur w y.d y.r [(3328+8 * 0,q)] [q] [] m1 e w') :
  e = .returned (.int .i64 0)∧∃ cs3 f3 S3 cur3,RgS a L (T+800) K x y cs3 f3 (N+m1) (m - m1) b0 S3 cur3 q 0 [] w'∧Chg (sfp S x) w w'∧Grew S S3 w:=by
 obtain ⟨ks,V,cm,S3,he,hAO,hks,hcm,h96,hsd3,hch3,hgr3⟩:=hp
 obtain ⟨⟨k,i,g1,g2⟩,g3⟩:=pub_words (i:=0) (cm:=cm) h.sd.ds hAO hks h96 (by decide) hr (List.mem_singleton.2 rfl) (by decide) (by rw [List.length_replicate];decide) hw
 have hlk:=pub_link (cm:=cm) (i:=0) h.sd.ds (v:=q) hAO (by decide) hr.keep.nz.2
 have hcur:rdG 0 cur ([(3328+8 * 0,q)]++ks.flatMap (acW 53 cs (tlOf 53 cs [q]) (dlOf 53 cs []) V)) cm (8 * 26)=0:=by
  refine (pub_rest h.sd.ds (by omega) hAO h96 (.inr (by omega)) (fun e he=>?_) (fun k hk e he heq=>?_)).trans h.uid
  ·simp at he
   subst he
   show (3328+8 * 0) / 8≠_
   omega
  ·obtain ⟨_,h2,_,h4,_⟩:=hAO.at_ hk he
   have:=hdrAt_ge h2
   omega
 exact ⟨he,_,_,S3,_,⟨h.keep hsd3 hch3 hgr3 hcur,⟨k,i,g1,g2⟩,g3,LOk.nil,hlk⟩,hch3,hgr3⟩
end
end
end Go.Proofs.YtnlokpakiambaaaGreatDoor
