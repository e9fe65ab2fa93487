/- The walks and laws that the claim leans on, part 45. -/
import Derived.Test.YtfkjjoglnmeciaaGreatDoorJbr
set_option maxRecDepth 100000
set_option maxHeartbeats 16000000
namespace Go.Proofs.YtfkjjoglnmeciaaGreatDoor
open Go.Lib (hid)
section
open Go.RowKit Go.Maps
theorem wrapi (o:Nat) (h:o≤100000):IntKind.i64.wrap (o:Int)=(o:Int):=by rw [IntKind.wrap_i64];omega
def subA (A:Option Addr) (c l:Nat):Option Addr:=if c=l then A else A.map (·.add l)
theorem reads_drop8 {w:World} {B n c:Nat} {A:Option Addr} {p:List Nat} (h:Reads w B 1 A n (u8s p)) {o:Nat} (ho:o≤n) (hc:n≤c):Reads w B 1 (subA A c o) (n - o) (u8s (p.drop o)):=by
 have hl:p.length=n:=by have:=h.1;simp [u8s] at this;omega
 refine ⟨by simp [u8s];omega,fun hn=>?_⟩
 obtain ⟨ad,hA,hb,hcs⟩:=h.2 (by omega)
 have e:(ad.add o).block=ad.block:=by unfold Addr.add;split <;> rfl
 refine ⟨ad.add o,by unfold subA;rw [if_neg (by omega),hA];rfl,by rw [e];exact hb,fun j u hu=>?_⟩
 rw [Addr.add_add]
 refine hcs (o+j) u ?_
 rw [← hu]
 simp [u8s]
theorem chg_reads0 {w w1:World} {S:Fp} {B size n:Nat} {A:Option Addr} {xs:List Value} (h:Chg S w w1) (hr:Reads w B size A n xs) (hB:B≤w.heap.size) (hS:0 < n→∀ ad,A=some ad→¬ S ad.block):Reads w1 B size A n xs:=by
 rcases Nat.eq_zero_or_pos n with h0 | h0
 ·exact ⟨hr.1,fun h1=>absurd h1 (by omega)⟩
 ·exact h.reads hr hB (hS h0)
theorem nBlk_le (n j:Nat) (h:j+1≤nBlk n):456 * j≤n:=by
 unfold nBlk at h
 split at h <;> omega
theorem nBlk_last (n j:Nat) (h:j+1≤nBlk n) (hr:n - 456 * j≤456):j+1=nBlk n:=by
 unfold nBlk at h ⊢
 split at h
 ·rw [if_pos (by omega)];omega
 ·rw [if_neg (by omega)];omega
theorem nBlk_more (n j:Nat) (hr:¬ n - 456 * j≤456):j+1+1≤nBlk n:=by
 unfold nBlk
 rw [if_neg (by omega)]
 omega
theorem nBlk_few (n:Nat) (h:n≤2000):nBlk n≤5:=by
 unfold nBlk
 split <;> omega
section
variable {a:DA} {L T s n K:Nat} {x:HA} {N m b0:Nat} {S0:Fp} {d r:Nat} {w wr w':World} {A:Option Addr} {mm c:Nat} {bl:List Nat} {cs:Nat→CS} {f:Nat→Option Nat} {S:Fp} {cur:Nat→Nat}
theorem WrI.cgr {w8:World} {o:Obj} (h:WrI a L T s n K x N m b0 S0 d r w wr A mm c bl cs f S cur) (hg:(wr.alloc o).grownBy w8 (Value.slice A mm c).ownBlock):Blk w8 (w.heap.size+1) 40 #[.slice A mm c]:=by
 have hown:=h.own.lt
 exact (h.below ((Below.refl _ wr).alloc (Nat.le_refl _) o)).cell.grown hg (fun e=>by have:=(hown _ e.symm).1;omega)
def RetWri (a:DA) (L T s n K:Nat) (x:HA) (cs:Nat→CS) (f:Nat→Option Nat) (N m b0:Nat) (S:Fp) (cur:Nat→Nat) (w:World) (d r:Nat) (al p:List Nat) (e:Ending) (w':World):Prop :=
 ∃ bl A' m' c' cs' f' S' cur',e = .returned (.tuple #[.int .u64 (bl.headD 0:Int), .slice A' m' c', .int .i64 0])∧bl.length=nBlk p.length∧m'=bl.length∧Reads w' w'.heap.size 1 A' m' (uCells bl)∧(∀ ad,A'=some ad→w.heap.size≤ad.block∧¬ sfp S' x ad.block) ∧
  W2 s K cs f cur al p cs' f' cur' bl bl.length∧SD a L (T+3000) s n K x cs' f' (N+bl.length) (m+bl.length) b0 S' cur' w' d r∧Chg (sfp S x) w w'∧Grew S S' w∧m'≤c'
def RetWriO (a:DA) (L T s n K:Nat) (x:HA) (cs:Nat→CS) (f:Nat→Option Nat) (N m b0:Nat) (S:Fp) (cur:Nat→Nat) (w:World) (d r:Nat) (al p:List Nat) (e:Ending) (w':World):Prop :=
 ∃ bl A' m' c' cs' f' S' cur',e = .returned (.tuple #[.int .u64 (bl.headD 0:Int), .slice A' m' c', .int .i64 0])∧bl.length=nBlk p.length∧m'=bl.length∧Reads w' w'.heap.size 1 A' m' (uCells bl)∧(∀ ad,A'=some ad→w.heap.size≤ad.block∧¬ sfp S' x ad.block) ∧
  W2 s K cs f cur al p cs' f' cur' bl bl.length∧SD a L (T+3000) s n K x cs' f' (N+bl.length) (m+bl.length) b0 S' cur' w' d r∧Chg (sfp S x) w w'∧Grew S S' w∧m'≤c'∧w'.ownsRow (w.heap.size+2) 54 1 (.slice A' m' c') m' (uCells bl)
theorem write_own (h:SD a L T s n K x cs f N m b0 S cur w d r) (al:List Nat) (hcap:Cap s K cs f al) (A:Option Addr) (n0 c0:Nat) (p:List Nat) (hr:Reads w w.heap.size 1 A n0 (u8s p)) (hA:0 < n0→∀ ad,A=some ad→¬ sfp S x ad.block) (hp:∀ y∈p,y < 256) (hn:n0≤2000) (hc:n0≤c0) (hc2:c0≤9223372036854775807) (hroom:room (alW n0 al (nBlk n0))≤K) (hN:N+10≤1000000000) (hT:T+3000≤1000000000) :
  Calls Tryz.prog 21 #[dirV d, .slice A n0 c0] w (RetWriO a L T s n K x cs f N m b0 S cur w d r al p):=by
 have hl0:p.length=n0:=by have:=hr.1;simp [u8s] at this;omega
 have HLo:=hid h.lo
 have hb0:Below w.heap.size w ((w.alloc (.cells #[dirV d] 83)).alloc (.cells #[.slice none 0 0] 40)):=((Below.refl _ _).alloc (Nat.le_refl _) _).alloc (by simp) _
 have esz:(w.alloc (.cells #[dirV d] 83)).heap.size=w.heap.size+1:=by simp
 have HI0:Hid (WrI a L T s n K x N m b0 S d r w ((w.alloc (.cells #[dirV d] 83)).alloc (.cells #[.slice none 0 0] 40)) none 0 0 [] cs f S cur):=hid (by
  have hS:∀ k,S k→k < w.heap.size:=h.ds.dev.lt
  refine ⟨h.below hb0,Chg.of_below hb0,Grew.refl _ _,(Blk.new w _ _).alloc _,?_,World.ownsRow_nil _ _ _ _,rfl,⟨fun hs=>by have:=hS _ hs;omega,fun hs=>by have:=hS _ hs;omega,fun g hg=>by cases hg⟩⟩
  have h1:=Blk.new (w.alloc (.cells #[dirV d] 83)) 40 #[.slice none 0 0]
  rw [esz] at h1
  exact h1)
 have HW0:Hid (W1 s K cs f cur al n0 cs f cur []):=hid (W1.start n0 hcap)
 have hmE:=methDErr (some ⟨d,0,none⟩)
 have hmA:=methDAlloc (some ⟨d,0,none⟩)
 have hna:=aheadDAlloc ⟨d,0,none⟩
 have hmf:∀ (fn:Fn) (first cap:Array Value) (w:World),(Instr.makeFunc fn first cap).run Tryz.prog w = .ok (.func fn first cap) w:=fun _ _ _ _=>rfl
 have hnil:∀ W,(binOp .eql 83 (.iface 59 (.pointer (some ⟨d,0,none⟩))) .nilIface).run Tryz.prog W = .ok (.bool false) W:=fun W=>by rfl
 have HEr:Hid (∀ W,Below w.heap.size w W→Calls Tryz.prog 432 #[.pointer (some ⟨d,0,none⟩)] W fun e w'=>e = .returned (.int .i64 0)∧W=w'):=hid (fun W hW=>errD (h.ds.dev.below hW) (h.dir.below hW h.dir.lt))
 have HB0:=hid hb0
 have HRd:=hid hr
 have HAd:=hid hA
 have HPb:=hid hp
 have HRm:=hid hroom
 have HLn:=hid hl0
 have HNT:=hid (And.intro hN hT)
 have hM5:=nBlk_few n0 hn
 have hM1:1≤nBlk n0:=by unfold nBlk;split <;> omega
 obtain ⟨M,hM⟩:∃ M,nBlk n0=M:=⟨_,rfl⟩
 have HM:=hid hM
 rw [hM] at hM5 hM1 HRm
 have dn:decide ((2000:Int) < (n0:Int))=false:=decide_eq_false (by omega)
 have dn2:(n0:Int)≤(c0:Int):=by omega
 obtain ⟨i0,hi0,hz0,hz1,hz2⟩:=info_parts infoPtr
 clear h hcap hr hA hp hroom hN hT hb0 esz hl0 hM
 unfold dirV at *
 go_enter Tryz.func21,Tryz.ntmps21
 go_upto_region 10 with (go_at_call 432;refine (HEr.out _ ((Below.refl _ _).alloc (Nat.le_refl _) _)).mono ?_;rintro e w1 ⟨rfl,rfl⟩)
 generalize (w.alloc (.cells #[.iface 59 (.pointer (some ⟨d,0,none⟩))] 83)).alloc (.cells #[.slice none 0 0] 40)=W0 at *
 clear dn hnil HEr
 go_wp2_with fail
 go_loopw [10] (fun v wr=>∃ (j:Nat) (A1:Option Addr) (m1 c1:Nat) (bl:List Nat) (cs1:Nat→CS) (f1:Nat→Option Nat) (S1:Fp) (cur1:Nat→Nat),j+1≤M∧v = .int .i64 ((n0 - 456 * j:Nat):Int)∧Hid (bl.length=j)∧Hid (WrI a L (T+400 * j) s n K x (N+j) (m+j) b0 S d r w wr A1 m1 c1 bl cs1 f1 S1 cur1)∧Hid (W1 s K cs f cur al n0 cs1 f1 cur1 bl)) (fun v _=>(Go.RowKit.intOf v).toNat)
 case atStart=>exact ⟨0,none,0,0,[],cs,f,S,cur,hM1,rfl,hid rfl,HI0,HW0⟩
 case round =>
  clear HI0 HW0 HB0 hM1
  obtain ⟨j,A1,m1,c1,bl,cs1,f1,S1,cur1,hj,rfl,HBl,HI,HW⟩:=hrel
  have HJ:=hid hj
  have hj5:j≤4:=by omega
  obtain ⟨rs,hrs⟩:∃ rs,n0 - 456 * j=rs:=⟨_,rfl⟩
  have hrs2:rs≤2000:=by omega
  have HSz:=hid (bsize_any rs (by omega) wr.drew (HI.out.sd.ds.pay.below (Below.refl _ _).drew))
  have hbs:=bSize_le rs
  have HAl:=hid (allocD (HI.out.sd.below (Below.refl _ _).drew) (bSize rs) 1 (by omega) (by omega) (by omega) (by omega) (by have:=HNT.out;omega) (by have:=HNT.out;omega) (HW.out.cap.has (clsOf_lt _) (by
   have h1:=alW_room n0 al (j:=j+1) (k:=M) (by omega)
   have h2:alW n0 al (j+1)=clsOf (bSize rs) :: alW n0 al j:=by rw [← hrs];rfl
   rw [HBl.out,← h2]
   exact Nat.le_trans h1 HRm.out)))
  rw [show ((1:Nat):Int)=1 from rfl] at HAl
  obtain ⟨bz,hbz⟩:∃ bz,bSize rs=bz:=⟨_,rfl⟩
  rw [hbz] at HSz HAl
  have HRs:=hid hrs
  have HBz:=hid hbz
  rw [hrs]
  have fs:wr.cell? ⟨w.heap.size,0,none⟩=some (.iface 59 (.pointer (some ⟨d,0,none⟩))):=HI.out.spc.cell 0
  have HSl:=hid HI.out.spc
  clear hrs hbs hbz hj
  go_upto_region 12 with fail
  refine wp_region_scriptH (fun w'=>w'.cell? ⟨w.heap.size,0,none⟩=some (.iface 59 (.pointer (some ⟨d,0,none⟩)))) 11 [] [(1,0),(1,1),(1,3),(1,4),(1,5),(0,2),(0,6),(1,7),(1,8),(1,9),(1,10)] (by kernel_rfl) (by kernel_rfl) fs ?_
  refine wpScriptH_take (.iface 59 (.pointer (some ⟨d,0,none⟩))) (by rfl) (by rfl) (fun w' hS=>?_) ?_
  ·go_simp
  simp only [zA,zB,Act.put,zD,zE,zF]
  refine wpScriptH_take (.int .i64 (rs:Int)) (by rfl) (by rfl) (fun w' hS=>?_) ?_
  ·go_simp
  simp only [zA,zB,zC,Act.put,zD,zE,zF]
  refine wpScriptH_take (.func (.method "Alloc") #[.iface 59 (.pointer (some ⟨d, 0, none⟩))] #[]) (by rfl) (by rfl) (fun w' hS => ?_) ?_
  ·go_simp
  simp only [zA,zB,zC,Act.put,zD,zE,zF]
  refine wpScriptH_take (.func (.method "Alloc") #[.iface 59 (.pointer (some ⟨d, 0, none⟩))] #[]) (by rfl) (by rfl) (fun w' hS => ?_) ?_
  ·go_simp
  simp only [zA,zB,zC,Act.put,zD,zE,zF]
  refine wpScriptH_take (.iface 59 (.pointer (some ⟨d,0,none⟩))) (by rfl) (by rfl) (fun w' hS=>?_) ?_
  ·go_simp
  simp only [zA,zB,zC,Act.put,zD,zE,zF]
  refine wpScriptH_do (by rfl) ?_
  go_wp2_with (go_at_call 104;refine HSz.out.mono ?_;rintro e w1 ⟨rfl,rfl⟩)
  refine ⟨fs,?_⟩
  refine wpScriptH_do (by rfl) ?_
  go_wp2_with (go_at_call 429;refine HAl.out.mono ?_;rintro e w2 ⟨k2,i2,S2,cs2,cur2,rfl,hok,hsd,hch,hgr⟩;have HOk:=hid hok;have HI2:=hid ((HI.out.below (Below.refl _ _).drew).sdo HLo.out hsd hch hgr);clear hok hsd hch hgr)
  refine ⟨HI2.out.spc.cell 0,?_⟩
  have HW2:=hid (HW.out.step HI.out.sd.ds (k:=k2) (i:=i2) (cs':=cs2) (cur':=cur2) (by rw [HBl.out,HRs.out,HBz.out];exact HOk.out) HI2.out.sd.ds)
  generalize updF f1 (offO s cs2 k2 i2) (some (fptr s cs2 1 k2 i2))=f2 at *
  generalize fptr s cs2 1 k2 i2=q at *
  have HI2':Hid (WrI a L (T+400 * (j+1)) s n K x (N+(j+1)) (m+(j+1)) b0 S d r w w2 A1 m1 c1 bl cs2 f2 S2 cur2):=by
   rw [show T+400 * (j+1)=T+400 * j+400 by omega]
   exact HI2
  clear HAl HSz HI HW HOk HI2 HSl fs
  refine wpScriptH_take (.tuple #[.int .u64 (q:Int), .int .i64 0]) (by rfl) (by rfl) (fun w' hS=>?_) ?_
  ·go_simp
  simp only [zA,zB,zC,Act.put,zD,zE,zF]
  refine wpScriptH_take (.int .u64 (q:Int)) (by rfl) (by rfl) (fun w' hS=>?_) ?_
  ·go_simp
  simp only [zA,zB,zC,Act.put,zD,zE,zF]
  refine wpScriptH_take (.int .i64 0) (by rfl) (by rfl) (fun w' hS=>?_) ?_
  ·go_simp
  simp only [zA,zB,zC,Act.put,zD,zE,zF]
  refine wpScriptH_take (.int .u64 (q:Int)) (by rfl) (by rfl) (fun w' hS=>?_) ?_
  ·go_simp
  simp only [zA,zB,zC,Act.put,zD,zE,zF]
  show wpList _ _ _ _ _ _
  simp only [List.drop_succ_cons,List.drop_zero]
  go_wp2_with fail
  refine NoPanic.normal ?_
  have hm1:m1≤10:=by have h1:=HI2'.out.len;have h2:=HBl.out;omega
  have HOD:=hid (HI2'.out.own.alloc (.cells #[.int .u64 (q:Int)] 54))
  have fc:w2.cell? ⟨w.heap.size+1,0,none⟩=some (.slice A1 m1 c1):=HI2'.out.cell.cell 0
  go_upto_region 16 with (at_builtin;refine wpList_app3 _ (.tmp 51) (.tmp 53) 40 rfl rfl (w.heap.size+2) 54 i0 _ 1 8 Tryz.underlying40 hi0 hz0 hz1 hz2 rfl ?q1 (.slice A1 m1 c1) m1 (uCells bl) rfl HOD.out (w2.heap.size+1) (some ⟨w2.heap.size,0,none⟩) 1 1 [.int .u64 (q:Int)] rfl ?q5 ?q6 ?q2 ?q3 ?q4 ?_;(case q1=>omega);(case q5=>exact row_reads_at _ _ rfl _ 1 1 54 _ rfl rfl);(case q6=>(intro u hu;simp at hu;subst hu;rfl));(case q2=>(unfold maxLen;omega));(case q3=>omega);(case q4=>(have:=HI2'.out.size;simp;omega));intro A3 n3 c3 w8 hn3 ho3 hg3 hv3;have z8:=(HI2'.out.cgr hg3).frozen 0;have c8:w8.cell? ⟨w.heap.size+1,0,none⟩=some (.slice A1 m1 c1):=(HI2'.out.cgr hg3).cell 0;have HI3:=hid (HI2'.out.push HLo.out rfl hn3 ho3 hg3 hv3);have HN3:=hid hn3;clear hn3 ho3 hg3 hv3)
  clear c8 z8 fc HOD HI2'
  generalize w8.setCell ⟨w.heap.size+1,0,none⟩ (.slice A3 n3 c3)=w9 at *
  have HBl1:Hid ((bl++[q]).length=j+1):=hid (by rw [List.length_append,HBl.out];rfl)
  generalize bl++[q]=bl1 at *
  clear HBl HN3 hm1
  by_cases hlast:rs≤456
  ·have d1:decide ((rs:Int)≤456)=true:=decide_eq_true (by omega)
   have hjM:j+1=M:=by rw [← HM.out];exact nBlk_last n0 j (by rw [HM.out];exact HJ.out) (by rw [HRs.out];exact hlast)
   rw [hjM] at HI3 HBl1
   clear hlast hjM HJ HRs HBz hrs2 hj5
   have c9:w9.cell? ⟨w.heap.size+1,0,none⟩=some (.slice A3 n3 c3):=HI3.out.cell.cell 0
   have HX0:Hid (W2 s K cs f cur al p cs2 f2 cur2 bl1 0):=hid ⟨by rw [HLn.out];exact HW2.out,fun j _ h=>absurd h (Nat.not_lt_zero j)⟩
   have HN5:Hid (n3=M):=hid (HI3.out.len.trans HBl1.out)
   have hn5:n3=M:=HN5.out
   subst hn5
   clear HW2 HN5
   go_wp2_with fail
   go_loopw [59] (fun v wr=>∃ (k:Nat) (S3:Fp) (cur3:Nat→Nat),k≤n3∧v = .int .i64 (k:Int)∧Hid (WrI a L (T+400 * n3+200 * k) s n K x (N+n3) (m+n3) b0 S d r w wr A3 n3 c3 bl1 cs2 f2 S3 cur3)∧Hid (W2 s K cs f cur al p cs2 f2 cur3 bl1 k)) (fun v _=>n3 - (Go.RowKit.intOf v).toNat)
   case atStart=>exact ⟨0,S2,cur2,Nat.zero_le _,rfl,HI3,HX0⟩
   case round =>
    clear HI3 HX0 c9
    obtain ⟨k,S3,cur3,hk,rfl,HI,HX⟩:=hrel
    have c8:wr.cell? ⟨w.heap.size+1,0,none⟩=some (.slice A3 n3 c3):=HI.out.cell.cell 0
    by_cases hlt:k < n3
    ·have hkl:k < bl1.length:=by have:=HBl1.out;omega
     obtain ⟨_,gb,go,hA3,_,fk⟩:=u_facts (Reads.of_own HI.out.own) (k:=k) hlt
     obtain ⟨nx,hnx⟩:∃ nx,bl1.getD (k+1) 0=nx:=⟨_,rfl⟩
     have HQ:=hid (HX.out.w1.rq k hkl)
     have HF1:Hid ((k+1 < n3∧wr.cell? ⟨gb,go+(k+1),none⟩=some (.int .u64 (nx:Int))∧nx < 18446744073709551616)∨(¬ k+1 < n3∧nx=0)):=hid (by
      by_cases h1:k+1 < n3
      ·obtain ⟨hl1,gb1,go1,hA31,_,fk1⟩:=u_facts (Reads.of_own HI.out.own) (k:=k+1) h1
       rw [hA3] at hA31
       injection hA31 with e1
       injection e1 with e1 e2
       subst e1 e2
       have e3:nx=bl1[k+1]:=by rw [← hnx,List.getD_eq_getElem?_getD,List.getElem?_eq_getElem hl1];rfl
       exact .inl ⟨h1,by rw [e3];exact fk1,by rw [e3];exact (HX.out.w1.rq (k+1) hl1).keep.nz.2⟩
      ·exact .inr ⟨h1,by rw [← hnx,List.getD_eq_getElem?_getD,List.getElem?_eq_none (by have:=HBl1.out;omega)];rfl⟩)
     have hnx64:nx < 18446744073709551616:=by
      rcases HF1.out with ⟨_,_,h⟩ | ⟨_,h⟩
      ·exact h
      ·omega
     have HXs:Hid (W2 s K cs f cur al p cs2 f2 (wrS cur3 (pwW (pOff bl1[k]) (payL nx (p.drop (456 * k))))) bl1 (k+1)):=hid (by
      have h:=HX.out.step hkl
      rw [hnx] at h
      exact h)
     obtain ⟨o,ho⟩:∃ o,456 * k=o:=⟨_,rfl⟩
     have hon:o≤n0:=by rw [← ho];exact nBlk_le n0 k (by rw [HM.out];omega)
     have hkM:k≤4:=by omega
     have ho4:wrap64 ((k:Int) * 456)=(o:Int):=by rw [IntWalk.wrap64_in _ (by omega)];omega
     have ho5:(k:Int) * 456=(o:Int):=by omega
     have HO4:=hid (And.intro ho4 ho5)
     clear ho4 ho5
     rw [ho] at HXs
     have HQ2:Hid (Rq s K cs2 f2 1 bl1[k] (clsOf (bSize (n0 - o)))):=hid (by have h:=HQ.out;rw [HLn.out,ho] at h;exact h)
     generalize bl1[k]=b at *
     have hb64:=HQ2.out.keep.nz
     have HCt:=hid (contents_any b nx (subA A c0 o) (n0 - o) (c0 - o) (p.drop o) wr.drew (((reads_drop8 (chg_reads0 HI.out.chg HRd.out (Nat.le_refl _) HAd.out) hon hc).below (Below.refl _ _).drew).more (by have:=HI.out.size;simp;omega)) (fun y hy=>HPb.out y (List.mem_of_mem_drop hy)) (by omega) (by omega) hnx64 hb64.1 (HI.out.sd.ds.tab.below (Below.refl _ _).drew) (HI.out.sd.ds.pay.below (Below.refl _ _).drew))
     obtain ⟨pl,hpl⟩:∃ pl,payL nx (p.drop o)=pl:=⟨_,rfl⟩
     have HPl:Hid (pl.length=bSize (n0 - o)∧∀ y∈pl,y < 18446744073709551616):=hid (by
      rw [← hpl,payL_len,List.length_drop,HLn.out]
      exact ⟨rfl,payL_lt hnx64 (fun y hy=>HPb.out y (List.mem_of_mem_drop hy)) (by rw [List.length_drop,HLn.out];omega)⟩)
     rw [hpl] at HCt HXs
     obtain ⟨ws,hws⟩:∃ ws,pwW (pOff b) pl=ws:=⟨_,rfl⟩
     have HWl:Hid (0 < ws.length∧ws.length≤60∧∀ e∈ws,e.1 < 18446744073709551616):=hid (by
      have h1:=bSize_le (n0 - o)
      have h2:=HPl.out.1
      rw [← hws,pwW_len]
      refine ⟨by omega,by omega,fun e he=>?_⟩
      obtain ⟨y,hy,rfl⟩:=pwW_mem he
      show pOff b+8 * y < _
      unfold pOff
      omega)
     have HRun:Hid (∀ (W W2:World) (A9:Option Addr) (m9 c9:Nat) (pp:List Ins),Below wr.heap.size wr W→Below wr.heap.size wr W2→W2.ownsRow W.heap.size 284 3 (.slice A9 m9 c9) m9 (insCells pp)→IsStores ws pp→Calls Tryz.prog 78 #[.slice A9 m9 c9, .iface 59 (.pointer (some ⟨d,0,none⟩))] W2 (RetPaid a L (T+400 * n3+200 * k+200) s n K x cs2 f2 (N+n3) (m+n3) b0 S3 (wrS cur3 ws) W2 d r)):=hid (fun W W2 A9 m9 c9 pp hW hW2 hown hst=>by
      obtain ⟨kk,ii,hat,hcl,_⟩:=HQ2.out.cls
      have h1:=(HI.out.sd.below hW2).paid hat (l:=pl) (by rw [hcl,bSize_cls];exact HPl.out.1) HPl.out.2 hown (fun g hg=>Nat.lt_of_lt_of_le (HI.out.sd.ds.dev.lt g hg) hW.size) (by rw [hws];exact hst) (by have:=HNT.out;omega)
      rw [hws] at h1
      exact h1)
     rw [hws] at HCt HXs
     have fs:wr.cell? ⟨w.heap.size,0,none⟩=some (.iface 59 (.pointer (some ⟨d,0,none⟩))):=HI.out.spc.cell 0
     have hz5:(0:Int)≤(k:Int):=by omega
     have hz6:(k:Int) < (n3:Int):=by omega
     subst hA3
     clear hkl hnx HQ HX ho hpl hws hnx64 hb64 HPl HQ2
     go_upto_if 68 with fail
     go_cut [15] from 69 to 74 (fun v wx=>v = .int .u64 (nx:Int)∧Hid (wx=wr))
     case first =>
      rcases HF1.out with ⟨h1,fk1,_⟩ | ⟨h1,h2⟩
      ·have d1:decide ((k:Int)+1 < (n3:Int))=true:=decide_eq_true (by omega)
       have d2:(k:Int)+1 < (n3:Int):=by omega
       go_wp2_with fail
       go_meet
       exact ⟨rfl,hid rfl⟩
      ·have d1:decide ((k:Int)+1 < (n3:Int))=false:=decide_eq_false (by omega)
       have H2:=hid h2
       clear h2
       go_wp2_with fail
       go_meet
       exact ⟨by rw [H2.out];rfl,hid rfl⟩
     case rest =>
      obtain ⟨rfl,hwc⟩:=hcut
      have hw:=hwc.out.symm
      subst hw
      clear hwc HF1
      have ho6:(o:Int)≤(n0:Int):=by omega
      have ho7:(0:Int)≤(o:Int):=by omega
      have ho4:=HO4.out.1
      have ho5:=HO4.out.2
      have ho8:IntKind.i64.wrap (o:Int)=(o:Int):=wrapi o (Nat.le_trans hon (Nat.le_trans hn (by decide)))
      go_upto_region 23 with fail
      refine wp_region_scriptH (fun w'=>w'.cell? ⟨w.heap.size,0,none⟩=some (.iface 59 (.pointer (some ⟨d,0,none⟩)))) 9 [] [(1,0),(1,1),(1,2),(1,3),(1,4),(1,5),(1,8),(0,6),(0,7)] (by kernel_rfl) (by kernel_rfl) fs ?_
      refine wpScriptH_take (.int .u64 (b:Int)) (by rfl) (by rfl) (fun w' hS=>?_) ?_
      ·go_simp
      simp only [zA,zB,Act.put,zD,zE,zF]
      refine wpScriptH_take (.int .u64 (nx:Int)) (by rfl) (by rfl) (fun w' hS=>?_) ?_
      ·go_simp
      simp only [zA,zB,zC,Act.put,zD,zE,zF]
      refine wpScriptH_take (.slice A n0 c0) (by rfl) (by rfl) (fun w' hS=>?_) ?_
      ·go_simp
      simp only [zA,zB,zC,Act.put,zD,zE,zF]
      refine wpScriptH_take (.int .i64 (k:Int)) (by rfl) (by rfl) (fun w' hS=>?_) ?_
      ·go_simp
      simp only [zA,zB,zC,Act.put,zD,zE,zF]
      refine wpScriptH_take (.int .i64 (o:Int)) (by rfl) (by rfl) (fun w' hS=>?_) ?_
      ·go_simp
      simp only [zA,zB,zC,Act.put,zD,zE,zF]
      refine wpScriptH_take (.slice (subA A c0 o) (n0 - o) (c0 - o)) (by rfl) (by rfl) (fun w' hS=>?_) ?_
      ·unfold subA
       go_simp
      simp only [zA,zB,zC,Act.put,zD,zE,zF]
      refine wpScriptH_take (.iface 59 (.pointer (some ⟨d,0,none⟩))) (by rfl) (by rfl) (fun w' hS=>?_) ?_
      ·go_simp
      simp only [zA,zB,zC,Act.put,zD,zE,zF]
      clear ho4 ho5 ho6 ho7 ho8
      refine wpScriptH_do (by rfl) ?_
      go_wp2_with (go_at_call 106;refine HCt.out.mono ?_;rintro e w3 ⟨A4,m4,c4,rfl,hm4,hown4,hb4⟩;have HM4:=hid hm4;have HO4':=hid hown4;have HB4:Hid (Below wr.heap.size wr w3):=hid ((Below.refl _ wr).drew.trans hb4);clear hm4 hown4 hb4)
      refine ⟨(HI.out.spc.below HB4.out HI.out.spc.lt).cell 0,?_⟩
      have HSt:=hid (stores_small A4 m4 c4 ws w3 (Reads.of_own HO4'.out) (by rw [HM4.out];exact HWl.out.1) (by rw [HM4.out];exact Nat.le_trans HWl.out.2.1 (by decide)) HWl.out.2.2)
      refine wpScriptH_do (by rfl) ?_
      go_wp2_with (go_at_call 105;refine HSt.out.mono ?_;rintro e w5 ⟨A6,m6,c6,pp,rfl,hst,hown6,hb6⟩;have HS6:=hid hst;have HO6:=hid hown6;have HB6:Hid (Below wr.heap.size wr w5):=hid (HB4.out.trans (hb6.mono HB4.out.size));clear hst hown6 hb6)
      refine ⟨(HI.out.spc.below HB6.out HI.out.spc.lt).cell 0,?_⟩
      have HRn:=hid (HRun.out w3 w5 A6 m6 c6 pp HB4.out HB6.out HO6.out HS6.out)
      clear HSt HRun HCt
      show wpList _ _ _ _ _ _
      simp only [List.drop_succ_cons,List.drop_zero]
      go_wp2_with (go_at_call 78;refine HRn.out.mono ?_;rintro e w6 ⟨rfl,S4,hsd,hch,hgr⟩;have HI6:=hid ((HI.out.below HB6.out).sdo HLo.out hsd (hch.mono (fun _ h => .inl h)) hgr);clear hsd hch hgr)
      refine NoPanic.normal ?_
      have HI7:Hid (WrI a L (T+400 * n3+200 * (k+1)) s n K x (N+n3) (m+n3) b0 S d r w w6 (some ⟨gb,go,none⟩) n3 c3 bl1 cs2 f2 S4 (wrS cur3 ws)):=by
       rw [show T+400 * n3+200 * (k+1)=T+400 * n3+200 * k+200 by omega]
       exact HI6
      clear HI HI6 HB6 HB4
      go_wp2_with fail
      go_roundw
      case rel =>
       first
        | exact ⟨k+1,S4,_,by omega,by go_num,HI7,HXs⟩
        | (
          repeat apply Exists.intro
          refine ⟨?_,rfl⟩
          exact ⟨k+1,S4,_,by omega,by go_num,HI7,HXs⟩)
      case measure=>simp [Go.RowKit.intOf];omega
    ·obtain rfl:n3=k:=by omega
     have h0:0 < n3:=by have:=HM.out;unfold nBlk at this;split at this <;> omega
     obtain ⟨hl0,gb,go,hA3,_,fk⟩:=u_facts (Reads.of_own HI.out.own) (k:=0) h0
     rw [Nat.add_zero] at fk
     have hz6:(0:Int) < (n3:Int):=by omega
     have HFs:Hid (RetWriO a L T s n K x cs f N m b0 S cur w d r al p (.returned (.tuple #[.int .u64 (bl1[0]:Int), .slice A3 n3 c3, .int .i64 0])) wr.drew):=hid (by
      have hown:=HI.out.own.lt
      have e0:bl1.headD 0=bl1[0]:=by cases bl1 with | nil=>simp at hl0 | cons y t=>rfl
      refine ⟨bl1,A3,n3,c3,cs2,f2,S3,cur3,by rw [e0],by rw [HBl1.out,HLn.out,HM.out],HBl1.out.symm,?_,fun ad had=>?_,by rw [HBl1.out];exact HX.out,?_,HI.out.chg.drew,HI.out.grew,(own_cap HI.out.own).1,own_below HI.out.own (Below.refl _ _).drew⟩
      ·exact ((Reads.of_own HI.out.own).below (Below.refl _ _).drew)
      ·have hob:(Value.slice A3 n3 c3).ownBlock=some ad.block:=by rw [had];rfl
       have h1:=hown ad.block hob
       refine ⟨by omega,?_⟩
       rintro (e | e)
       ·exact HI.out.off.2.2 _ hob e
       ·have:=HLo.out.pl
        have:=HLo.out.mr
        have:=HLo.out.mh
        rcases e with e | e | e <;> omega
      ·rw [HBl1.out]
       exact (HI.out.sd.below (Below.refl _ _).drew).more (by omega) (by have:=HNT.out;omega))
     generalize bl1[0]=b at *
     subst hA3
     clear hlt hk HX HI h0
     go_upto_region 28 with fail
     go_region
     go_wp2_with fail
     go_ret3
     exact HFs.out
  ·have d1:decide ((rs:Int)≤456)=false:=decide_eq_false (by omega)
   have hj2:j+1+1≤M:=by rw [← HM.out];exact nBlk_more n0 j (by rw [HRs.out];exact hlast)
   have HE:Hid (wrap64 ((rs:Int) - 456)=((n0 - 456 * (j+1):Nat):Int)):=hid (by rw [IntWalk.wrap64_in _ (by omega)];have:=HRs.out;omega)
   have hme:n0 - 456 * (j+1) < rs:=by have:=HRs.out;omega
   clear hlast HJ HRs HBz hrs2
   go_wp2_with fail
   go_roundw
   case rel =>
    first
     | exact ⟨j+1,A3,n3,c3,bl1,cs2,f2,S2,cur2,hj2,by rw [HE.out],HBl1,HI3,HW2⟩
     | (
       repeat apply Exists.intro
       refine ⟨?_,rfl⟩
       exact ⟨j+1,A3,n3,c3,bl1,cs2,f2,S2,cur2,hj2,by rw [HE.out],HBl1,HI3,HW2⟩)
   case measure =>
    rw [HE.out]
    simp [Go.RowKit.intOf]
    omega
theorem write_any (h:SD a L T s n K x cs f N m b0 S cur w d r) (al:List Nat) (hcap:Cap s K cs f al) (A:Option Addr) (n0 c0:Nat) (p:List Nat) (hr:Reads w w.heap.size 1 A n0 (u8s p)) (hA:0 < n0→∀ ad,A=some ad→¬ sfp S x ad.block) (hp:∀ y∈p,y < 256) (hn:n0≤2000) (hc:n0≤c0) (hc2:c0≤9223372036854775807) (hroom:room (alW n0 al (nBlk n0))≤K) (hN:N+10≤1000000000) (hT:T+3000≤1000000000) :
  Calls Tryz.prog 21 #[dirV d, .slice A n0 c0] w (RetWri a L T s n K x cs f N m b0 S cur w d r al p):=by
 refine (write_own h al hcap A n0 c0 p hr hA hp hn hc hc2 hroom hN hT).mono (fun e w' h=>?_)
 obtain ⟨bl,A',m',c',cs',f',S',cur',h1,h2,h3,h4,h5,h6,h7,h8,h9,h10,_⟩:=h
 exact ⟨bl,A',m',c',cs',f',S',cur',h1,h2,h3,h4,h5,h6,h7,h8,h9,h10⟩
end
end
end Go.Proofs.YtfkjjoglnmeciaaGreatDoor
