/- The walks and laws that the claim leans on, part 47. -/
import Derived.Test.YtfkjjoglnmeciaaGreatDoorJbt
set_option maxRecDepth 100000
set_option maxHeartbeats 16000000
namespace Go.Proofs.YtfkjjoglnmeciaaGreatDoor
open Go.Lib (hid)
section
open Go.RowKit Go.Maps
theorem linked_any {a:DA} {L T K:Nat} {x:HA} {y:WA} {cs:Nat→CS} {f:Nat→Option Nat} {N m b0:Nat} {S:Fp} {cur:Nat→Nat} {w:World} (h:BW a L T K x y cs f N m b0 S cur w) (i:Nat) (hi:i < 8) :
  Calls Tryz.prog 33 #[.pointer (some ⟨y.g,0,none⟩), .int .i64 (i:Int)] w fun e w'=>e = .returned (.int .u64 (cur (416+i):Int))∧w'=w.drew:=by
 have HLk:=hid (linkB_any i hi)
 have hL:=h.size
 have HLd:Hid (∀ W,W=w.drew→Calls Tryz.prog 65 #[.pointer (some ⟨a.th 0,0,none⟩), .int .u64 ((3328+8 * i:Nat):Int)] W (fun e w'=>e = .returned (.int .u64 (cur (416+i):Int))∧W=w')):=hid (fun W hW=>by
  subst hW
  exact load_at h.sd.ds.dev (3328+8 * i) _ (by omega) (by omega) (by congr 1;omega) _ (Below.refl _ _).drew)
 have g1:w.cell? ⟨y.g,1,none⟩=some (.pointer (some ⟨a.th 0,0,none⟩)):=h.blk.cell 1
 generalize 3328+8 * i=O at *
 generalize cur (416+i)=V at *
 clear h
 go_enter Tryz.func33,Tryz.ntmps33
 go_upto_region 1 with fail
 refine wp_region_scriptH (fun w'=>w'.cell? ⟨y.g,1,none⟩=some (.pointer (some ⟨a.th 0,0,none⟩))) 8 [] [(1,0),(1,1),(1,2),(1,3),(1,4),(0,5),(0,6),(1,7)] (by kernel_rfl) (by kernel_rfl) g1 ?_
 refine wpScriptH_take (.pointer (some ⟨y.g,0,none⟩)) (by rfl) (by rfl) (fun w' hS=>?_) ?_
 ·go_simp
 simp only [zA,zB,Act.put,zD,zE,zF]
 refine wpScriptH_take (.pointer (some ⟨y.g,0,none⟩)) (by rfl) (by rfl) (fun w' hS=>?_) ?_
 ·go_simp
 simp only [zA,zB,zC,Act.put,zD,zE,zF]
 refine wpScriptH_take (.pointer (some ⟨y.g,1,none⟩)) (by rfl) (by rfl) (fun w' hS=>?_) ?_
 ·go_simp
 simp only [zA,zB,zC,Act.put,zD,zE,zF]
 refine wpScriptH_take (.pointer (some ⟨a.th 0,0,none⟩)) (by rfl) (by rfl) (fun w' hS=>?_) ?_
 ·go_simp
 simp only [zA,zB,zC,Act.put,zD,zE,zF]
 refine wpScriptH_take (.int .i64 (i:Int)) (by rfl) (by rfl) (fun w' hS=>?_) ?_
 ·go_simp
 simp only [zA,zB,zC,Act.put,zD,zE,zF]
 refine wpScriptH_do (by rfl) ?_
 go_wp2_with (go_at_call 53;refine (HLk.out _).mono ?_;rintro e w1 ⟨rfl,rfl⟩)
 refine ⟨g1,?_⟩
 refine wpScriptH_do (by rfl) ?_
 go_wp2_with (go_at_call 65;refine (HLd.out _ rfl).mono ?_;rintro e w1 ⟨rfl,rfl⟩)
 refine ⟨g1,?_⟩
 refine wpScriptH_take (.int .u64 (V:Int)) (by rfl) (by rfl) (fun w' hS=>?_) ?_
 ·go_simp
 simp only [zA,zB,zC,Act.put,zD,zE,zF]
 show wpList _ _ _ _ _ _
 simp only [List.drop_succ_cons,List.drop_zero]
 refine NoPanic.normal ?_
 go_wp2_with fail
 go_ret
 exact ⟨rfl,rfl⟩
end
section
open Go.RowKit Go.Maps
def RetPy (w:World) (l:List Nat) (e:Ending) (w':World):Prop:=∃ A m c,e = .returned (.slice A m c)∧m=l.length∧Reads w' w'.heap.size 1 A m (uCells l)∧(∀ ad,A=some ad→w.heap.size≤ad.block)∧m≤c∧Below w.heap.size w w'
section
variable {a:DA} {L T K:Nat} {x:HA} {y:WA} {cs:Nat→CS} {f:Nat→Option Nat} {N m b0:Nat} {S:Fp} {cur:Nat→Nat} {w w':World}
theorem payl_take (cur:Nat→Nat) (o _n k:Nat):((List.range (k+1)).map fun j=>cur (o+j))=((List.range k).map fun j=>cur (o+j))++[cur (o+k)]:=by rw [List.range_succ,List.map_append];rfl
theorem payload_any (h:BW a L T K x y cs f N m b0 S cur w) {q kind kk ii:Nat} (hl:LiveA 53 K cs q kind kk ii) :
  Calls Tryz.prog 45 #[.pointer (some ⟨y.g,0,none⟩), .int .u64 (q:Int)] w (RetPy w ((List.range (payW (cs kk).cl)).map fun j=>cur (pOff q / 8+j))):=by
 have HW:=hid (hWords_any h.sd.ds hl.at_.1 hl.at_.2.1 hl.at_.2.2.1 q hl.at_.2.2.2 hl.nz hl.lt (.inr (Live.chk ⟨kk,ii,hl⟩).2))
 have hin:=hl.at_.inL h.sd.ds
 have hp60:=pay_le (cs kk).cl
 have HAt:Hid (∀ (j:Nat) (W:World),j < payW (cs kk).cl→Calls Tryz.prog 49 #[.int .u64 (q:Int), .int .i64 (j:Int)] W fun e w'=>e = .returned (.int .u64 ((pOff q+8 * j:Nat):Int))∧W=w'):=hid (fun j W hj=>by
  have h1:=at_any q j (by omega) W
  have h2:pAt q j=pOff q+8 * j:=by unfold pAt;rw [if_neg (by have:=hl.nz;omega)]
  rw [h2] at h1
  exact h1)
 have HLd:Hid (∀ (j:Nat) (W:World),j < payW (cs kk).cl→Below w.heap.size w W→Calls Tryz.prog 65 #[.pointer (some ⟨a.th 0,0,none⟩), .int .u64 ((pOff q+8 * j:Nat):Int)] W fun e w'=>e = .returned (.int .u64 (cur (pOff q / 8+j):Int))∧W=w'):=hid (fun j W hj hW=>load_at h.sd.ds.dev (pOff q+8 * j) _ (by omega) (by omega) (by rw [show (pOff q+8 * j) / 8=pOff q / 8+j by omega]) W hW)
 have HBk:=hid h.blk
 have g2:w.cell? ⟨y.g,2,none⟩=some (.pointer (some ⟨x.h,0,none⟩)):=h.blk.cell 2
 obtain ⟨n,hn⟩:∃ n,payW (cs kk).cl=n:=⟨_,rfl⟩
 rw [hn] at HW HAt HLd hp60 ⊢
 obtain ⟨o,ho⟩:∃ o,pOff q / 8=o:=⟨_,rfl⟩
 rw [ho] at HLd ⊢
 have HBnd:Hid (∀ i,cur i < 18446744073709551616):=hid h.sd.ds.bnd
 obtain ⟨i0,hi0,hz0,hz1,hz2⟩:=info_parts infoU64
 have hn60:n≤60:=hp60.2
 clear h hl hin hp60 hn ho
 go_enter Tryz.func45,Tryz.ntmps45
 go_wp2_with (go_at_call 131;refine HW.out.mono ?_;rintro e w1 ⟨rfl,hb1⟩;have HB1:=hid hb1;clear hb1)
 have HO0:Hid (w1.ownsRow w.heap.size 32 1 (.slice none 0 0) 0 (uCells ((List.range 0).map fun j=>cur (o+j)))):=World.ownsRow_nil _ _ _ _
 clear HW g2
 go_loopw [7,21] (fun v i wr=>∃ (k:Nat) (A1:Option Addr) (m1 c1:Nat),k≤n∧i = .int .i64 (k:Int)∧v = .slice A1 m1 c1∧Hid (m1=k)∧Hid (wr.ownsRow w.heap.size 32 1 (.slice A1 m1 c1) m1 (uCells ((List.range k).map fun j=>cur (o+j))))∧Hid (Below w.heap.size w wr)) (fun _ i _=>n - (Go.RowKit.intOf i).toNat)
 case atStart=>exact ⟨0,none,0,0,Nat.zero_le _,rfl,rfl,hid rfl,HO0,HB1⟩
 case round =>
  clear HO0 HB1
  obtain ⟨k,A1,m1,c1,hk,rfl,rfl,HM,HO,HB⟩:=hrel
  by_cases hlt:k < n
  ·have hz5:(0:Int)≤(k:Int):=by omega
   have hz6:(k:Int) < (n:Int):=by omega
   have hm1:m1≤60:=by have:=HM.out;omega
   have HA:=hid (fun W=>HAt.out k W hlt)
   have HL:=hid (HLd.out k wr.drew hlt HB.out.drew)
   have hv:=HBnd.out (o+k)
   have HEQ:Hid (uCells ((List.range k).map fun j=>cur (o+j))++[.int .u64 (cur (o+k):Int)]=uCells ((List.range (k+1)).map fun j=>cur (o+j))):=hid (by rw [payl_take cur o n k];simp [uCells])
   have g1:wr.cell? ⟨y.g,1,none⟩=some (.pointer (some ⟨a.th 0,0,none⟩)):=(HBk.out.below HB.out HBk.out.lt).cell 1
   generalize cur (o+k)=vk at *
   generalize pOff q+8 * k=z at *
   have HOD:=hid ((own_below HO.out (Below.refl _ _).drew).alloc (.cells #[.int .u64 (vk:Int)] 32))
   have HBD:=hid (HB.out.drew.alloc HB.out.drew.size (.cells #[.int .u64 (vk:Int)] 32))
   have HLE2:Hid (w.heap.size≤(wr.drew.alloc (.cells #[.int .u64 (vk:Int)] 32)).heap.size):=hid HBD.out.size
   have HLE:=hid HB.out.size
   go_upto_region 8 with fail
   refine wp_region_scriptH (fun w'=>w'.cell? ⟨y.g,1,none⟩=some (.pointer (some ⟨a.th 0,0,none⟩))) 10 [] [(1,0),(1,1),(1,2),(1,3),(1,4),(1,5),(1,6),(0,7),(0,8),(0,9)] (by kernel_rfl) (by kernel_rfl) g1 ?_
   refine wpScriptH_take (.slice A1 m1 c1) (by rfl) (by rfl) (fun w' hS=>?_) ?_
   ·go_simp
   simp only [zA,zB,Act.put,zD,zE,zF]
   refine wpScriptH_take (.pointer (some ⟨y.g,0,none⟩)) (by rfl) (by rfl) (fun w' hS=>?_) ?_
   ·go_simp
   simp only [zA,zB,zC,Act.put,zD,zE,zF]
   refine wpScriptH_take (.pointer (some ⟨y.g,0,none⟩)) (by rfl) (by rfl) (fun w' hS=>?_) ?_
   ·go_simp
   simp only [zA,zB,zC,Act.put,zD,zE,zF]
   refine wpScriptH_take (.pointer (some ⟨y.g,1,none⟩)) (by rfl) (by rfl) (fun w' hS=>?_) ?_
   ·go_simp
   simp only [zA,zB,zC,Act.put,zD,zE,zF]
   refine wpScriptH_take (.pointer (some ⟨a.th 0,0,none⟩)) (by rfl) (by rfl) (fun w' hS=>?_) ?_
   ·go_simp
   simp only [zA,zB,zC,Act.put,zD,zE,zF]
   refine wpScriptH_take (.int .u64 (q:Int)) (by rfl) (by rfl) (fun w' hS=>?_) ?_
   ·go_simp
   simp only [zA,zB,zC,Act.put,zD,zE,zF]
   refine wpScriptH_take (.int .i64 (k:Int)) (by rfl) (by rfl) (fun w' hS=>?_) ?_
   ·go_simp
   simp only [zA,zB,zC,Act.put,zD,zE,zF]
   refine wpScriptH_do (by rfl) ?_
   go_wp2_with (go_at_call 49;refine (HA.out _).mono ?_;rintro e w2 ⟨rfl,rfl⟩)
   refine ⟨g1,?_⟩
   refine wpScriptH_do (by rfl) ?_
   go_wp2_with (go_at_call 65;refine HL.out.mono ?_;rintro e w2 ⟨rfl,rfl⟩)
   refine ⟨g1,?_⟩
   refine wpScriptH_do (by rfl) ?_
   go_wp2_with fail
   refine ⟨(HBk.out.below HBD.out HBk.out.lt).cell 1,?_⟩
   show wpList _ _ _ _ _ _
   simp only [List.drop_succ_cons,List.drop_zero]
   go_wp2_with (at_builtin;refine wpList_app _ (.tmp 24) (.tmp 33) 99 rfl rfl w.heap.size 32 i0 _ 1 8 Tryz.underlying99 hi0 hz0 hz1 hz2 rfl ?q1 (.slice A1 m1 c1) m1 (uCells ((List.range k).map fun j=>cur (o+j))) rfl HOD.out (wr.drew.heap.size+1) (some ⟨wr.drew.heap.size,0,none⟩) 1 1 [.int .u64 (vk:Int)] rfl ?q5 ?q6 ?q2 ?q3 ?q4 ?_;(case q1=>omega);(case q5=>exact row_reads_at _ _ rfl _ 1 1 32 _ rfl rfl);(case q6=>(intro u hu;simp at hu;subst hu;rfl));(case q2=>(unfold maxLen;omega));(case q3=>omega);(case q4=>exact HLE2.out);intro A3 n3 c3 w8 hn3 ho3 hg3 hb3;have HN3:=hid hn3;have HO3:=hid ho3;have HB3:=hid (HBD.out.trans hb3);clear hn3 ho3 hg3 hb3)
   refine NoPanic.normal ?_
   have b1:Hid (n3=k+1):=hid (by have:=HN3.out;have:=HM.out;omega)
   have HO4:Hid (w8.ownsRow w.heap.size 32 1 (.slice A3 n3 c3) n3 (uCells ((List.range (k+1)).map fun j=>cur (o+j)))):=hid (by have h:=HO3.out;rw [HEQ.out] at h;exact h)
   clear HN3 HO3 HO HB HM g1
   go_wp2_with fail
   go_roundw
   case rel =>
    first
     | exact ⟨k+1,A3,n3,c3,by omega,by go_num,rfl,b1,HO4,HB3⟩
     | (
       repeat apply Exists.intro
       refine ⟨?_,rfl⟩
       exact ⟨k+1,A3,n3,c3,by omega,by go_num,rfl,b1,HO4,HB3⟩)
   case measure=>simp [Go.RowKit.intOf];omega
  ·obtain rfl:n=k:=by omega
   have HF:Hid (RetPy w ((List.range n).map fun j=>cur (o+j)) (.returned (.slice A1 m1 c1)) wr):=hid ⟨A1,m1,c1,rfl,by rw [HM.out];simp,Reads.of_own HO.out,fun ad h=>(HO.out.lt ad.block (by rw [h];rfl)).1,(own_cap HO.out).1,HB.out⟩
   clear HO HM HB hlt hk HAt HLd
   go_wp2_with fail
   go_ret
   exact HF.out
end
end
section
open Go.ChangeShapes Go.WideShapes Go.ChangeAt Go.RowKit
structure BL where
 A:Option Addr
 n:Nat
 c:Nat
 l:List Nat
def BL.cells (x:BL):List Value:=[.slice x.A x.n x.c]
def BL.In (w:World) (x:BL):Prop:=InB w x.A x.n x.c x.l
structure BlsIn (w:World) (A:Option Addr) (n c:Nat) (l:List BL):Prop where
 r:Reads w w.heap.size 1 A n (l.flatMap BL.cells)
 le:n≤c
 cap:c≤9223372036854775807
 el:∀ x∈l,x.In w
def BlsIs (w:World) (v:Value):Prop:=∃ (A:Option Addr) (n c:Nat) (l:List BL),v = .slice A n c∧BlsIn w A n c l
theorem cellsBy:Tryz.prog.cellsOf 24=1:=by kernel_rfl
section
variable {H:Type} {enc:TypeId × Value→H} {W:World} {b0 base:Nat} {sp:Nat→Bool} {held:Bool} {v:Value} {d:DataW H} {p:List MemPlace} {r:Reach}
theorem bls_of (hv:Value.okWide Tryz.prog W r b0 51 v) (h:DataW.Trod enc Tryz.prog W base sp held 51 v d p):BlsIs W v:=by
 obtain ⟨fuel,hf⟩:=h
 obtain ⟨a0,n0,k0,rfl⟩:=okWide_slice Tryz.underlying51 hv
 have hcv:(Value.slice a0 n0 k0).cells.toList=[.slice a0 n0 k0]:=rfl
 rw [hcv] at hf
 rcases Go.Deep.open_slice Tryz.underlying51 hf with ⟨hcs,_⟩ | ⟨a,len,cap,m,n,D,Pl,hcs,hb,hl,hm,hmm,hx,hi⟩
 ·obtain hcs:Value.slice a0 n0 k0 = .slice none 0 0:=by simpa using hcs
  rw [hcs]
  exact ⟨none,0,0,[],rfl,⟨rfl,fun h=>absurd h (by omega)⟩,Nat.le_refl _,Nat.zero_le _,fun _ h=>by cases h⟩
 ·obtain hcs:Value.slice a0 n0 k0 = .slice (some a) len cap:=by simpa using hcs
  rw [hcs]
  have hlm:len≤m:=by rw [hmm];split <;> omega
  obtain ⟨l,h1,h2,h3,h4⟩:=reads_elems BL.cells 1 (by omega) (fun _=>rfl) W a (BL.In W) len (fun i hil=>by
   obtain ⟨cs',hc,ht'⟩:=hi i (by omega)
   rw [cellsBy] at hc
   obtain ⟨_,hcl,hat⟩:=World.cells?_some hc
   obtain ⟨A,n2,c2,hcs2⟩:∃ A n2 c2,cs'=[Value.slice A n2 c2]:=by
    rcases Go.Deep.open_slice Tryz.underlying24 ht' with ⟨hcs,_⟩ | ⟨a,len,cap,m,n,D,Pl,hcs,_⟩
    ·exact ⟨none,0,0,hcs⟩
    ·exact ⟨some a,len,cap,hcs⟩
   subst hcs2
   obtain ⟨lb,hlb⟩:=bytes_of (a:=A) (len:=n2) (cap:=c2) ⟨_,ht'⟩
   exact ⟨⟨A,n2,c2,lb⟩,⟨hlb.b,hlb.r,hlb.le,hlb.cap⟩,fun j hj=>by rw [← Go.Deep.add_add];exact hat j hj⟩)
  refine ⟨some a,len,cap,l,rfl,⟨h3,fun hpos=>⟨a,rfl,?_,h4⟩⟩,hl,hm,h2⟩
  have hl9:0 < (l.flatMap BL.cells).length:=by rw [h3];omega
  have:=World.block_lt_of_cell? _ _ (h4 0 _ (List.getElem?_eq_getElem hl9))
  rw [block_of_add] at this
  exact this
end
end
section
open Go.RowKit Go.Maps
section
variable {a:DA} {L T K:Nat} {x:HA} {y:WA} {cs:Nat→CS} {f:Nat→Option Nat} {N m b0:Nat} {S:Fp} {cur:Nat→Nat} {w w':World}
theorem put_link {cs2:Nat→CS} {f2:Nat→Option Nat} {N2 m2 T2 n:Nat} {S2:Fp} {cur2:Nat→Nat} {w2:World} {bl ks:List Nat} {V:Nat→Nat} {cm i v:Nat} (hd:DS a L T2 53 n K x cs2 f2 N2 m2 b0 S2 cur2 w2) (hA:AOk 53 K cs2 ks (tlOf 53 cs2 bl) (dlOf 53 cs2 []) V) (hi:i < 8) (hv:v < 18446744073709551616):rdG 0 cur2 ([(3328+8 * i,v)]++ks.flatMap (acW 53 cs2 (tlOf 53 cs2 bl) (dlOf 53 cs2 []) V)) cm (416+i)=v:=by
 have hu:=link_ok hd i v hi hv
 have h:=rdG_get (cur:=cur2) (cm:=cm) (pub_off hd (by omega) hu hA) (pub_nodup hu hA) (e:=(3328+8 * i,v)) (by simp)
 have e:(3328+8 * i) / 8=416+i:=by omega
 rw [← e]
 exact h
theorem only_of {cs2:Nat→CS} {f2:Nat→Option Nat} {cur2:Nat→Nat} {al p bl ks:List Nat} {V:Nat→Nat} {q:Nat} (hw:W2 53 K cs f cur al p cs2 f2 cur2 bl bl.length) (hA:AOk 53 K cs2 ks (tlOf 53 cs2 bl) (dlOf 53 cs2 []) V) (hks:∀ k,k∈ks↔k < K∧(tlOf 53 cs2 bl k≠[]∨dlOf 53 cs2 [] k≠[]))
  (h:Alive 53 K (acC cs2 ks (tlOf 53 cs2 bl) (dlOf 53 cs2 []) V) q):q∈bl∨Alive 53 K cs q:=by
 rcases pub_only hA hks (fun p hp=>by
  obtain ⟨j,hj,e⟩:=List.getElem_of_mem hp
  subst e
  exact ⟨1,_,by omega,hw.w1.rq j hj⟩) (fun p hp=>absurd hp (by simp)) h with h | ⟨h,_⟩
 ·exact .inl h
 ·exact .inr (hw.w1.fr.alive h)
def RetPutK (a:DA) (L T K:Nat) (x:HA) (y:WA) (cs:Nat→CS) (f:Nat→Option Nat) (N m b0:Nat) (S:Fp) (cur:Nat→Nat) (w:World) (al p:List Nat) (i:Nat) (e:Ending) (w':World):Prop :=
 ∃ bl A' m' c' cs' f' S' cur',e = .returned (.tuple #[.int .u64 (bl.headD 0:Int), .slice A' m' c'])∧m'=bl.length∧Reads w' w'.heap.size 1 A' m' (uCells bl)∧(∀ ad,A'=some ad→w.heap.size≤ad.block∧¬ sfp S' x ad.block)∧PutP L K f al p i bl cs' f' cur'∧BW a L (T+4000) K x y cs' f' (N+20) m b0 S' cur' w'∧Chg (sfp S x) w w'∧Grew S S' w∧m'≤c'∧KeepL K cs cur bl cs' cur'∧(∀ q,Alive 53 K cs' q→q∈bl∨Alive 53 K cs q)∧(∀ j,j < 8→cur' (416+j)=if j=i then bl.headD 0 else cur (416+j))
theorem putK_any (h:BW a L T K x y cs f N m b0 S cur w) (al:List Nat) (hcap:Cap 53 K cs f al) (i:Nat) (hi:i < 8) (A:Option Addr) (n0 c0:Nat) (p:List Nat) (hr:Reads w w.heap.size 1 A n0 (u8s p)) (hA:0 < n0→∀ ad,A=some ad→¬ sfp S x ad.block) (hp:∀ z∈p,z < 256) (hn:n0≤2000) (hc:n0≤c0) (hc2:c0≤9223372036854775807) (hroom:room (alW n0 al (nBlk n0))≤K) (hN:N+20≤1000000000) (hT:T+4000≤1000000000) :
  Calls Tryz.prog 23 #[.pointer (some ⟨y.g,0,none⟩), .int .i64 (i:Int), .slice A n0 c0] w (RetPutK a L T K x y cs f N m b0 S cur w al p i):=by
 have hl0:p.length=n0:=by have:=hr.1;simp [u8s] at this;omega
 have HWr:=hid (write_any h.sd al hcap A n0 c0 p hr hA hp hn hc hc2 hroom (by omega) (by omega))
 have HB:=hid h
 have HNT:=hid (And.intro hN hT)
 have HM5:=hid (nBlk_few n0 hn)
 have HLn:=hid hl0
 have HHn:=hid hn
 have g3:w.cell? ⟨y.g,3,none⟩=some (.pointer (some ⟨y.d,0,none⟩)):=h.blk.cell 3
 clear h hcap hr hA hp hroom hN hT hl0 hn
 unfold dirV at HWr
 have HWr2:Hid (Calls Tryz.prog 21 #[.iface 59 (.pointer (some ⟨y.d,0,none⟩)), .slice A n0 c0] w fun e w1=>∃ (q:Nat) (A':Option Addr) (m' c':Nat),e = .returned (.tuple #[.int .u64 (q:Int), .slice A' m' c', .int .i64 0])∧Hid (∃ (bl:List Nat) (cs2:Nat→CS) (f2:Nat→Option Nat) (S2:Fp) (cur2:Nat→Nat),q=bl.headD 0∧bl.length=nBlk p.length∧m'=bl.length∧Reads w1 w1.heap.size 1 A' m' (uCells bl)∧(∀ ad,A'=some ad→w.heap.size≤ad.block∧¬ sfp S2 x ad.block)∧W2 53 K cs f cur al p cs2 f2 cur2 bl bl.length∧SD a L (T+3000) 53 (32 * K) K x cs2 f2 (N+bl.length) (m+bl.length) b0 S2 cur2 w1 y.d y.r∧Chg (sfp S x) w w1∧Grew S S2 w∧m'≤c')):=hid (HWr.out.mono (fun e w1 h=>by
  obtain ⟨bl,A',m',c',cs2,f2,S2,cur2,h1,h2,h3,h4,h5,h6,h7,h8,h9⟩:=h
  exact ⟨_,A',m',c',h1,hid ⟨bl,cs2,f2,S2,cur2,rfl,h2,h3,h4,h5,h6,h7,h8,h9⟩⟩))
 clear HWr
 go_enter Tryz.func23,Tryz.ntmps23
 go_wp2_with (go_at_call 21;refine HWr2.out.mono ?_;rintro e w1 ⟨q,A',m',c',rfl,hall⟩;refine stop ?_)
 unfold Stop
 obtain ⟨bl,cs2,f2,S2,cur2,hq,hlen,hm,hrd,had,hw2,hsd,hch,hgr,hmc⟩:=hall.out
 have HMc:=hid hmc
 clear hall
 have hM:0 < bl.length:=by rw [hlen];exact nBlk_drop p
 have hmp:0 < m':=by omega
 obtain ⟨hl1,gb,go,hA3,hgb,fk⟩:=u_facts hrd (k:=0) hmp
 rw [Nat.add_zero] at fk
 have e0:bl.headD 0=bl[0]:=by cases bl with | nil=>simp at hM | cons y t=>rfl
 have hm5:bl.length≤5:=by rw [hlen,HLn.out];exact HM5.out
 have hq64:bl[0] < 18446744073709551616:=(hw2.w1.rq 0 hM).keep.nz.2
 have HSt:=hid (set_any hsd HB.out.few y.g i q hi (by rw [hq,e0];exact hq64) A' m' c' bl hrd (fun ad h=>(had ad h).2) (fun q hq=>by
  obtain ⟨j,hj,e⟩:=List.getElem_of_mem hq
  rw [← e]
  exact (hw2.w1.rq j hj).keep) hw2.w1.nd (by omega) (by have:=HNT.out;omega) (by have:=HNT.out;omega))
 have HB1:=hid (HB.out.keep hsd hch hgr ((hw2.w1.fr.head _ (by omega)).trans HB.out.uid))
 have g31:w1.cell? ⟨y.g,3,none⟩=some (.pointer (some ⟨y.d,0,none⟩)):=HB1.out.blk.cell 3
 have HQ64:Hid (q < 18446744073709551616):=hid (by rw [hq,e0];exact hq64)
 have HX:=hid (show bl.length=nBlk p.length∧m'=bl.length from ⟨hlen,hm⟩)
 have HRd:=hid hrd
 have HAd:=hid had
 have HW2:=hid hw2
 have HSd:=hid hsd
 have HCh:=hid hch
 have HGr:=hid hgr
 have HGb:Hid (gb < w1.heap.size):=hid hgb
 have HQ:=hid hq
 have HA3:=hid hA3
 have fq:w1.cell? ⟨gb,go,none⟩=some (.int .u64 (q:Int)):=by rw [hq,e0];exact fk
 clear hlen hm hrd had hw2 hsd hch hgr hmc hM hgb hq64 e0 hq fk hl1 hm5
 subst hA3
 have d1:((m':Int) == 0)=false:=by rw [beq_eq_false_iff_ne];omega
 have d2:(0:Int) < (m':Int):=by omega
 have d3:((q:Int) != (q:Int))=false:=by rw [bne,beq_self_eq_true];rfl
 unfold dirV at HSt
 have HSt2:Hid (Calls Tryz.prog 36 #[.pointer (some ⟨y.g,0,none⟩), .iface 59 (.pointer (some ⟨y.d,0,none⟩)), .int .i64 (i:Int), .int .u64 (q:Int), .slice (some ⟨gb,go,none⟩) m' c'] w1 fun e w2=>e = .returned (.int .i64 0)∧Hid (RetPub a L (T+3000) 53 (32 * K) K x cs2 f2 (N+bl.length) (m+bl.length) b0 S2 cur2 w1 y.d y.r [(3328+8 * i,q)] bl [] m' e w2)):=hid (HSt.out.mono (fun e w' h=>by
  have h0:=h
  obtain ⟨ks,V,cm,S',h1,_⟩:=h
  exact ⟨h1,hid h0⟩))
 clear HSt
 go_wp2_with (go_at_call 36;refine HSt2.out.mono ?_;rintro e w2 ⟨rfl,hpub⟩;have HPub:=hid hpub.out;clear hpub)
 have HF:Hid (RetPutK a L T K x y cs f N m b0 S cur w al p i (.returned (.tuple #[.int .u64 (q:Int), .slice (some ⟨gb,go,none⟩) m' c'])) w2):=hid (by
  obtain ⟨ks,V,cm,S3,_,hAO,hks,hcm,h96,hsd3,hch3,hgr3⟩:=HPub.out
  have e1:bl.length+m'=bl.length+bl.length:=by rw [HX.out.2]
  have hcur:rdG 0 cur2 ([(3328+8 * i,q)]++ks.flatMap (acW 53 cs2 (tlOf 53 cs2 bl) (dlOf 53 cs2 []) V)) cm (8 * 26)=0:=by
   refine (pub_rest HSd.out.ds (by omega) hAO h96 (.inr (by omega)) (fun e he=>?_) (fun k hk e he heq=>?_)).trans HB1.out.uid
   ·simp at he
    subst he
    show (3328+8 * i) / 8≠_
    omega
   ·obtain ⟨_,h2,_,h4,_⟩:=hAO.at_ hk he
    have:=hdrAt_ge h2
    omega
  have hbw:=HB1.out.keep hsd3 hch3 hgr3 hcur
  have hm5:bl.length≤5:=by rw [HX.out.1,HLn.out];exact HM5.out
  have hmm:m+bl.length - m'=m:=by rw [HX.out.2];omega
  rw [hmm] at hbw
  refine ⟨bl,some ⟨gb,go,none⟩,m',c',_,_,S3,_,by rw [← HQ.out],HX.out.2,(hch3.reads HRd.out (Nat.le_refl _) (fun ad h=>(HAd.out ad h).2)).more hch3.size,fun ad h=>⟨(HAd.out ad h).1,?_⟩,putP_of (cm:=cm) HSd.out.ds HW2.out HX.out.1 (by rw [HLn.out];exact HHn.out) hAO hks (by rw [← HQ.out];exact h96) hi,?_,?_,?_,HMc.out,keepL_of (cm:=cm) HSd.out.ds HW2.out hAO h96 hi,fun q hq=>only_of HW2.out hAO hks hq,fun j hj=>?_⟩
  ·injection h with h
   subst h
   rintro (e | e)
   ·rcases hgr3 _ e with h1 | h1
    ·exact (HAd.out _ rfl).2 (.inl h1)
    ·have:=HGb.out
     have h2:w1.heap.size≤gb:=h1
     omega
   ·exact (HAd.out _ rfl).2 (.inr e)
  ·rw [← HQ.out]
   exact hbw.more (by omega) (by have:=HNT.out;omega) (by have:=HX.out.2;omega)
  ·refine HCh.out.trans hch3 (fun j hj=>?_)
   rcases hj with hj | hj
   ·rcases HGr.out j hj with h1 | h1
    ·exact .inl (.inl h1)
    ·exact .inr h1
   ·exact .inl (.inr hj)
  ·exact HGr.out.trans hgr3 HCh.out.size
  ·by_cases hji:j=i
   ·subst hji
    rw [if_pos rfl,← HQ.out]
    exact put_link HSd.out.ds hAO hj HQ64.out
   ·rw [if_neg hji,← HQ.out]
    refine (pub_rest (s0:=0) (i:=416+j) HSd.out.ds (by omega) hAO h96 (.inr (by omega)) (fun e he=>?_) (fun k hk e he heq=>?_)).trans (HW2.out.w1.fr.head _ (by omega))
    ·simp at he
     subst he
     show (3328+8 * i) / 8≠_
     omega
    ·obtain ⟨_,h2,_,h4,_⟩:=hAO.at_ hk he
     have:=hdrAt_ge h2
     omega)
 clear HPub
 go_ret2
 all_goals exact HF.out
end
end
section
open Go.RowKit Go.Maps
section
variable {a:DA} {L T n K:Nat} {x:HA} {cs cs2:Nat→CS} {f f2:Nat→Option Nat} {N m b0:Nat} {S:Fp} {cur cur2:Nat→Nat} {w:World} {ks keep free:List Nat} {V:Nat→Nat} {cm d r:Nat}
theorem lit_cells (W:World) (C:Array Value) (t:TypeId) (l:List Nat) (h:C.toList=uCells l):Reads (W.alloc (.cells C t)) (W.alloc (.cells C t)).heap.size 1 (some ⟨W.heap.size,0,none⟩) l.length (uCells l):=by
 refine ⟨by simp [uCells],fun _=>⟨_,rfl,by simp,fun j u hu=>?_⟩⟩
 have hh:(W.alloc (.cells C t)).heap[W.heap.size]?=some (.cells C t):=heap_alloc_new W _
 have ha:(⟨W.heap.size,0,none⟩:Addr).add j=⟨W.heap.size,j,none⟩:=by unfold Addr.add;split <;> simp_all
 rw [ha,cell_of_row _ _ _ _ _ _ hh,← Array.getElem?_toList,h]
 exact hu
variable {y:WA}
end
end
section
open Go.RowKit Go.Maps
structure HP where
 a:DA
 T:Nat
 x:HA
 y:WA
 cs:Nat→CS
 f:Nat→Option Nat
 N:Nat
 m:Nat
 b0:Nat
 S:Fp
 cur:Nat→Nat
 A:Option Addr
 n:Nat
 c:Nat
 al:List Nat
theorem sfp_lt {a:DA} {L T n K:Nat} {x:HA} {cs:Nat→CS} {f:Nat→Option Nat} {N m b0:Nat} {S:Fp} {cur:Nat→Nat} {w:World} {d r:Nat} (h:SD a L T 53 n K x cs f N m b0 S cur w d r) {i:Nat} (hi:sfp S x i):i < w.heap.size:=by
 rcases hi with e | e
 ·exact h.ds.dev.lt _ e
 ·have h1:=h.lo
  have h2:=h1.pl
  have h3:=h1.mr
  have h4:=h1.mh
  have e':i=x.pl∨i=x.mr∨i=x.mh:=e
  omega
section
variable {w0 w w':World} {k gh:Nat} {rl:List RV} {vl:List VV} {z:HP}
theorem chg_reads3 {Z:Fp} {size n:Nat} {A:Option Addr} {xs:List Value} (hc:Chg Z w w') (hr:Reads w w.heap.size size A n xs) (hS:0 < n→∀ ad,A=some ad→¬ Z ad.block):Reads w' w'.heap.size size A n xs:=by
 by_cases hn:0 < n
 ·exact (hc.reads hr (Nat.le_refl _) (hS hn)).more hc.size
 ·exact ⟨hr.1,fun h=>absurd h hn⟩
variable {dl:Bool} {bl p:List Nat} {wA wB wC wD wE:World} {T1 N1:Nat} {cs1:Nat→CS} {f1:Nat→Option Nat} {S1:Fp} {cur1:Nat→Nat} {al1:List Nat}
variable {st older q:Nat}
end
end
section
open Go.RowKit Go.Maps
def PutH (a:DA) (L T K:Nat) (x:HA) (y:WA) (f:Nat→Option Nat) (N m b0:Nat) (S:Fp) (w:World) (al p:List Nat) (i q:Nat) (A':Option Addr) (m':Nat) (w':World):Prop :=
 ∃ bl cs' f' S' cur',q=bl.headD 0∧m'=bl.length∧Reads w' w'.heap.size 1 A' m' (uCells bl)∧(∀ ad,A'=some ad→w.heap.size≤ad.block∧¬ sfp S' x ad.block)∧PutP L K f al p i bl cs' f' cur'∧BW a L (T+4000) K x y cs' f' (N+20) m b0 S' cur' w'∧Chg (sfp S x) w w'∧Grew S S' w
theorem ret_putH {a:DA} {L T K:Nat} {x:HA} {y:WA} {f:Nat→Option Nat} {N m b0:Nat} {S:Fp} {w:World} {al p:List Nat} {i:Nat} {e:Ending} {w':World} (h:RetPut a L T K x y f N m b0 S w al p i e w'):∃ (q:Nat) (A':Option Addr) (m' c':Nat),e = .returned (.tuple #[.int .u64 (q:Int), .slice A' m' c'])∧Hid (PutH a L T K x y f N m b0 S w al p i q A' m' w'):=by
 obtain ⟨bl,A',m',c',cs',f',S',cur',h1,h2,h3,h4,h5,h6,h7,h8,_⟩:=h
 exact ⟨_,A',m',c',h1,hid ⟨bl,cs',f',S',cur',rfl,h2,h3,h4,h5,h6,h7,h8⟩⟩
theorem PutP.walk {L K:Nat} {f f':Nat→Option Nat} {al p bl:List Nat} {i:Nat} {cs':Nat→CS} {cur':Nat→Nat} (h:PutP L K f al p i bl cs' f' cur') (hp:∀ b∈p,b < 256) (hn:p.length≤2000):walkR L cur' (fun q=>chkR 53 K cs' q 1) (bl.headD 0)=(0,bl,p):=by
 have hc:=h.chain
 cases bl with
 | nil=>exact absurd hc (by simp [Chain])
 | cons q t =>
  have hcq:chkR 53 K cs' q 1=0:=hc.2.2.2.2.2.2.1
  show walkR L cur' _ q=_
  unfold walkR
  rw [if_neg (fun h=>h hcq),walk_chain 6 q t p [] [] (-1) hc hp (.inl (by omega)) (by omega) (by omega)]
  rfl
theorem PutP.head64 {L K:Nat} {f f':Nat→Option Nat} {al p bl:List Nat} {i:Nat} {cs':Nat→CS} {cur':Nat→Nat} (h:PutP L K f al p i bl cs' f' cur'):bl.headD 0 < 18446744073709551616∧bl.headD 0≠0:=by
 have hc:=h.chain
 cases bl with
 | nil=>exact absurd hc (by simp [Chain])
 | cons q t=>exact ⟨hc.2.2.2.2.2.1,hc.2.2.2.2.1⟩
theorem abc_reads (W:World):Reads (W.alloc (.cells #[.int .u8 97, .int .u8 98, .int .u8 99] 5 (3,4))) (W.alloc (.cells #[.int .u8 97, .int .u8 98, .int .u8 99] 5 (3,4))).heap.size 1 (some ⟨W.heap.size,0,none⟩) 3 (u8s [97,98,99]):=by
 refine ⟨rfl,fun _=>⟨_,rfl,by simp,fun j u hu=>?_⟩⟩
 have hh:(W.alloc (.cells #[.int .u8 97, .int .u8 98, .int .u8 99] 5 (3,4))).heap[W.heap.size]?=some (.cells #[.int .u8 97, .int .u8 98, .int .u8 99] 5 (3,4)):=heap_alloc_new W _
 have ha:(⟨W.heap.size,0,none⟩:Addr).add j=⟨W.heap.size,j,none⟩:=by unfold Addr.add;split <;> simp_all
 rw [ha,cell_of_row _ _ _ _ _ _ hh,← Array.getElem?_toList]
 exact hu
theorem getD_at {l:List Nat} {i v:Nat} (h:l.getD i 0=v) (hi:i < l.length):l[i]=v:=by
 rw [List.getD_eq_getElem?_getD,List.getElem?_eq_getElem hi] at h
 exact h
theorem abc_pay:(payL 0 [97,98,99]).length=7∧(payL 0 [97,98,99]).getD 1 0=12884901891∧(payL 0 [97,98,99]).getD 2 0=6513249:=by
 refine ⟨by rw [payL_len];rfl,rfl,rfl⟩
theorem awakeB_any (w:World) (ht:Tab w) (hpy:Pay w):Calls Tryz.prog 19 #[] w fun e w'=>e = .returned (.bool true)∧Below w.heap.size w w':=by
 have HBg:=hid (beginB_any 2 (by omega) (by omega) w ht hpy)
 rw [show ((2:Nat):Int)=2 from rfl] at HBg
 have kc:=fun (w:World) (C:Array Value) (n c:Nat)=>Lib.run_convert_bytes_const (P:=Tryz.prog) w 24 5 C n c Tryz.underlying24 Tryz.underlying5
 clear ht hpy
 go_enter Tryz.func19,Tryz.ntmps19
 go_wp2_with (go_at_call 20;refine HBg.out.mono ?_;rintro e w1 ⟨a,T,x,y,S,rfl,hbw,hT,hb⟩;refine stop ?_)
 unfold Stop
 have hbA:Below w1.heap.size w1 (w1.alloc (.cells #[.int .u8 97, .int .u8 98, .int .u8 99] 5 (3,4))):=(Below.refl _ _).alloc (Nat.le_refl _) _
 have HPut:=hid (put_any (hbw.below hbA) [] (Cap.new (fun _ _=>rfl)) 0 (by omega) (some ⟨w1.heap.size,0,none⟩) 3 3 [97,98,99] (abc_reads w1) (fun _ ad h=>by
  injection h with h
  subst h
  rintro (e | e)
  ·have h1:=hbw.sd.ds.dev.lt _ e
   exact Nat.lt_irrefl _ h1
  ·have h1:=hbw.sd.lo
   have h2:=h1.pl
   have h3:=h1.mr
   have h4:=h1.mh
   have e':w1.heap.size=x.pl∨w1.heap.size=x.mr∨w1.heap.size=x.mh:=e
   omega) (by decide) (by omega) (by omega) (by omega) (by decide) (by omega) (by omega))
 rw [show ((0:Nat):Int)=0 from rfl] at HPut
 have HB1:=hid (hb.trans (hbA.mono hb.size))
 have HSz:=hid hb.size
 have HT:=hid hT
 have hold:∀ k,sfp S x k→w.heap.size≤k:=fun k hk=>by
  obtain ⟨_,_,_,_,l5,l6,l7,l8⟩:=hbw.sd.ds.lo
  rcases hk with h | h
  ·exact l8 k h
  ·rcases h with h | h | h
   ·rw [h];exact l5
   ·rw [h];exact l6
   ·rw [h];exact l7
 have HOld:=hid hold
 clear hbw hT hb hbA hold HBg
 go_wp2_with (go_at_call 23;refine HPut.out.mono ?_;intro e w2 h2;obtain ⟨q,A',m',c',rfl,hall⟩:=ret_putH h2;clear h2;refine stop ?_)
 unfold Stop
 obtain ⟨bl,cs2,f2,S2,cur2,hq,hm,hrd,had,hpp,hbw2,hch,hgr⟩:=hall.out
 have hlen:bl.length=1:=hpp.len
 have hm1:m'=1:=hm.trans hlen
 subst hm1
 obtain ⟨hq64,hq0⟩:=hpp.head64
 rw [← hq] at hq64 hq0
 obtain ⟨kk,ii,hlv,hcl⟩:=hpp.live 0 (by omega)
 have hwd:=hpp.words 0 (by omega)
 have e0:bl[0]=q:=by rw [hq];cases bl with | nil=>simp at hlen | cons z t=>rfl
 have e1:bl.getD 1 0=0:=by rw [List.getD_eq_getElem?_getD,List.getElem?_eq_none (by omega)];rfl
 rw [e0] at hlv hwd
 have hwd2:WordsAt cur2 q (payL 0 [97,98,99]):=by
  have h:WordsAt cur2 q (payL (bl.getD 1 0) [97,98,99]):=hwd
  rw [e1] at h
  exact h
 have hbB:Below w.heap.size w w2:=HB1.out.trans ((hch.toBelow HB1.out.size HOld.out))
 have hpl:((List.range (payW (cs2 kk).cl)).map fun j=>cur2 (pOff q / 8+j))=payL 0 [97,98,99]:=by
  apply List.ext_getElem
  ·rw [List.length_map,List.length_range,abc_pay.1,hcl]
   rfl
  ·intro j h1 h2
   rw [List.getElem_map,List.getElem_range,hwd2 j h2,List.getD_eq_getElem?_getD,List.getElem?_eq_getElem h2]
   rfl
 have HPy0:=payload_any hbw2 hlv
 rw [hpl] at HPy0
 have HPy:Hid (Calls Tryz.prog 45 #[.pointer (some ⟨y.g,0,none⟩), .int .u64 (q:Int)] w2 fun e w'=>∃ (A3:Option Addr) (c3:Nat),e = .returned (.slice A3 7 c3)∧Hid (Reads w' w'.heap.size 1 A3 7 (uCells (payL 0 [97,98,99]))∧Below w2.heap.size w2 w')):=hid (HPy0.mono (fun e w' h=>by
  obtain ⟨A3,m3,c3,h1,h2,h3,h4,h5,h6⟩:=h
  rw [abc_pay.1] at h2
  subst h2
  exact ⟨A3,c3,h1,hid ⟨h3,h6⟩⟩))
 have hwk:=hpp.walk (by decide) (by decide)
 rw [← hq] at hwk
 have HRe:Hid (∀ W,Below w2.heap.size w2 W→Calls Tryz.prog 30 #[.iface 59 (.pointer (some ⟨y.d,0,none⟩)), .int .u64 (q:Int)] W fun e w'=>∃ (ad:Addr) (c3:Nat),e = .returned (.tuple #[.slice (some ad) 3 c3, .int .i64 0])∧Hid (Reads w' w'.heap.size 1 (some ad) 3 (u8s [97,98,99])∧Below W.heap.size W w')):=hid (fun W hW=>by
  have h0:=bread_any (hbw2.sd.below hW) q hq64
  rw [hwk] at h0
  refine h0.mono (fun e w' h=>?_)
  unfold RetRd at h
  rw [if_pos rfl] at h
  obtain ⟨A3,m3,c3,h1,h2,h3,h4,h5,h6⟩:=h
  have h2':m3=3:=h2
  subst h2'
  obtain ⟨ad,hA,_⟩:=h3.2 (by omega)
  subst hA
  exact ⟨ad,c3,h1,hid ⟨h3,h6⟩⟩)
 have HNil:=hid (nil_any q)
 have hdq:decide (q=0)=false:=decide_eq_false hq0
 rw [hdq] at HNil
 have HBw:=hid hbw2.blk
 have g3:w2.cell? ⟨y.g,3,none⟩=some (.pointer (some ⟨y.d,0,none⟩)):=hbw2.blk.cell 3
 have HBb:=hid hbB
 clear hall hq hm hrd had hpp hbw2 hch hgr hlen hq64 hq0 hlv hcl hwd e0 e1 hwd2 hbB hpl HPy0 hwk hdq HOld HPut g3
 go_wp2_with (first
  | (go_at_call 22;refine (HNil.out _).mono ?_;rintro e w3 ⟨rfl,rfl⟩)
  | (go_at_call 45;refine HPy.out.mono ?_;rintro e w4 ⟨A3,c3,rfl,hh⟩;refine stop ?_))
 unfold Stop
 obtain ⟨hr3,hb3⟩:=hh.out
 have HR3:=hid hr3
 have HB3:=hid hb3
 have g3:w4.cell? ⟨y.g,3,none⟩=some (.pointer (some ⟨y.d,0,none⟩)):=(HBw.out.below hb3 HBw.out.lt).cell 3
 have HRe2:=hid (HRe.out w4 hb3)
 clear hh hr3 hb3 HRe HPy
 go_wp2_with (go_at_call 30;refine HRe2.out.mono ?_;rintro e w5 ⟨ad,c5,rfl,hh⟩;refine stop ?_)
 unfold Stop
 obtain ⟨hr5,hb5⟩:=hh.out
 have hr35:=HR3.out.below hb5
 obtain ⟨hl1,gb,go,hA3,_,f1⟩:=u_facts hr35 (k:=1) (by omega)
 obtain ⟨hl2,gb2,go2,hA32,_,f2⟩:=u_facts hr35 (k:=2) (by omega)
 rw [hA3] at hA32
 injection hA32 with e1
 injection e1 with e1 e2
 subst e1 e2
 have v1:=getD_at abc_pay.2.1 hl1
 have v2:=getD_at abc_pay.2.2 hl2
 rw [v1] at f1
 rw [v2] at f2
 have kv:(convert 24 9 (.slice (some ad) 3 c5)).run Tryz.prog w5 = .ok (.string ⟨#[97,98,99]⟩) w5:=run_convert_bytes_back w5 24 9 5 ad c5 [97,98,99] Tryz.underlying24 Tryz.underlying5 Tryz.underlying9 (fun j hj=>by
  obtain ⟨ad',hA',_,hc⟩:=hr5.2 (by omega)
  injection hA' with hA'
  subst hA'
  have hj3:j=0∨j=1∨j=2:=by have:j < 3:=hj;omega
  rcases hj3 with rfl | rfl | rfl
  ·exact hc 0 _ rfl
  ·exact hc 1 _ rfl
  ·exact hc 2 _ rfl)
 have HF:=hid (HBb.out.trans ((HB3.out.trans (hb5.mono HB3.out.size)).mono HBb.out.size))
 subst hA3
 clear hh hr5 hb5 hr35 v1 v2 hl1 hl2 HR3 HB3 HRe2 g3
 go_wp2
 go_ret
 exact ⟨rfl,HF.out⟩
end
section
open Go.RowKit Go.Maps
def PutK (a:DA) (L T K:Nat) (x:HA) (y:WA) (cs:Nat→CS) (f:Nat→Option Nat) (N m b0:Nat) (S:Fp) (cur:Nat→Nat) (w:World) (al p:List Nat) (i q:Nat) (A':Option Addr) (m' c':Nat) (w':World):Prop :=
 ∃ bl cs' f' S' cur',q=bl.headD 0∧m'=bl.length∧Reads w' w'.heap.size 1 A' m' (uCells bl)∧(∀ ad,A'=some ad→w.heap.size≤ad.block∧¬ sfp S' x ad.block)∧PutP L K f al p i bl cs' f' cur'∧BW a L (T+4000) K x y cs' f' (N+20) m b0 S' cur' w'∧Chg (sfp S x) w w'∧Grew S S' w∧m'≤c'∧KeepL K cs cur bl cs' cur'∧(∀ q,Alive 53 K cs' q→q∈bl∨Alive 53 K cs q)∧(∀ j,j < 8→cur' (416+j)=if j=i then bl.headD 0 else cur (416+j))
theorem ret_putK {a:DA} {L T K:Nat} {x:HA} {y:WA} {cs:Nat→CS} {f:Nat→Option Nat} {N m b0:Nat} {S:Fp} {cur:Nat→Nat} {w:World} {al p:List Nat} {i:Nat} {e:Ending} {w':World} (h:RetPutK a L T K x y cs f N m b0 S cur w al p i e w'):∃ (q:Nat) (A':Option Addr) (m' c':Nat),e = .returned (.tuple #[.int .u64 (q:Int), .slice A' m' c'])∧Hid (PutK a L T K x y cs f N m b0 S cur w al p i q A' m' c' w'):=by
 obtain ⟨bl,A',m',c',cs',f',S',cur',h1,h2,h3,h4,h5,h6,h7,h8,h9,h10⟩:=h
 exact ⟨_,A',m',c',h1,hid ⟨bl,cs',f',S',cur',rfl,h2,h3,h4,h5,h6,h7,h8,h9,h10⟩⟩
theorem PutP.bk {L K:Nat} {f f':Nat→Option Nat} {al p bl:List Nat} {i:Nat} {cs':Nat→CS} {cur':Nat→Nat} (h:PutP L K f al p i bl cs' f' cur') (j:Nat) (hj:j < bl.length):BkA K cs' cur' bl[j] (bl.getD (j+1) 0) (p.drop (456 * j)):=by
 obtain ⟨k,i2,h1,h2⟩:=h.live j hj
 exact ⟨⟨k,i2,h1,by rw [List.length_drop];exact h2⟩,h.words j hj⟩
end
end Go.Proofs.YtfkjjoglnmeciaaGreatDoor
