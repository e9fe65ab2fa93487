/- The walks and laws that the claim leans on, part 18. -/
import Derived.Test.YtfkjjoglnmeciaaGreatDoorQan
import Derived.Test.YtfkjjoglnmeciaaGreatDoorQaq
import Derived.Laws.CopyOwn
set_option maxRecDepth 100000
set_option maxHeartbeats 16000000
namespace Go.Proofs.YtfkjjoglnmeciaaGreatDoor
open Go.Lib (hid)
section
open Go.RowKit
theorem make_uA (n:Nat):madeCells #[.int .u64 0] n=uA (List.replicate n 0):=by
 apply Array.ext';rw [toList_madeCells_one];unfold uA uCells;simp
theorem half_or (x:Nat) (h:x < 1000000):bits .or .u64 (x:Int) ((x:Int) * 4294967296)=((x * 4294967297:Nat):Int):=by
 rw [bits_join_low .u64 64 (by decide) wraps_u64 32 (x:Int) ((x:Int) * 4294967296) oM oM oM oM oM oM];omega
theorem Reads.take8 {w:World} {B n:Nat} {A:Option Addr} {xs:List Value} (h:Reads w B 1 A n xs) (k:Nat):Reads w B 1 A (min n k) (xs.take k):=by
 refine ⟨by have:=h.1;rw [List.length_take];omega,fun hn=>?_⟩;obtain ⟨ad,hA,hb,hc⟩:=h.2 oM;refine ⟨ad,hA,hb,fun j u hu=>hc j u ?_⟩;rw [List.getElem?_take] at hu;split at hu
 ·exact hu
 ·cases hu
theorem set_two (q nx v:Nat) (hq:3≤q):((List.replicate q 0).set 0 nx).set 1 v=nx :: v :: List.replicate (q - 2) 0:=by
 obtain ⟨m,rfl⟩:∃ m,q=m+2:=⟨q - 2,oM⟩
 rfl
theorem splice_pay (next v:Nat) (pk:List Nat) (m:Nat) (_h:pk.length≤m):(splice (uCells (next :: v :: List.replicate m 0)) 2 (uCells pk)).toArray=uA ([next,v]++pk++List.replicate (m - pk.length) 0):=by
 unfold splice uA uCells;simp only [List.map_cons,List.length_map,List.take_succ_cons,List.take_zero,List.map_append,List.cons_append,List.nil_append];congr 4
 rw [show 2+pk.length=pk.length+1+1 by omega,List.drop_succ_cons,List.drop_succ_cons];simp
def RetWs (w:World) (ws:List (Nat × Nat)) (e:Ending) (w':World):Prop:=∃ A m c,e = .returned (.slice A m c)∧m=ws.length∧w'.ownsRow w.heap.size 114 2 (.slice A m c) m (wrCells ws)∧Below w.heap.size w w'
theorem pwW_take (o:Nat) (l:List Nat) {k:Nat} (hk:k < l.length):(pwW o l).take (k+1)=(pwW o l).take k++[(o+8 * k,l[k])]:=by
 have h:k < (pwW o l).length:=by rw [pwW_len];exact hk
 rw [List.take_succ_eq_append_getElem h];congr 2
 have h2:(pwW o l)[k]?=some (o+8 * k,l[k]):=by
  unfold pwW;rw [List.getElem?_map,List.getElem?_range hk];show some (o+8 * k,l.getD k 0)=_;rw [List.getD_eq_getElem?_getD,List.getElem?_eq_getElem hk];rfl
 rw [List.getElem?_eq_getElem h] at h2;injection h2
theorem contents_any (b next:Nat) (A:Option Addr) (n c:Nat) (p:List Nat) (w:World) (h:Reads w w.heap.size 1 A n (u8s p)) (hp:∀ x∈p,x < 256) (hn:n≤2000) (hc:n≤c) (hnx:next < 18446744073709551616) (hb0:b≠0) (ht:Tab w) (hpy:Pay w) :
  Calls Tryz.prog 106 #[.int .u64 (b:Int), .int .u64 (next:Int), .slice A n c] w (RetWs w (pwW (pOff b) (payL next p))):=by
 have hl0:p.length=n:=by have:=h.1;simp [u8s] at this;omega
 have HSz:=hid (bsize_any n oM w hpy);have hbs:=bSize_le n;have hbg:=bSize_ge n;obtain ⟨q,hq⟩:∃ q,bSize n=q:=⟨_,rfl⟩
 rw [hq] at HSz hbs hbg;have hmk:=makeU q oM;rw [make_uA] at hmk;have hW1:=Blk.new w 32 (uA (List.replicate q 0));have hWB:Below w.heap.size w (w.alloc (.cells (uA (List.replicate q 0)) 32)):=(Below.refl _ _).alloc (nL _) _;have HPk:Hid (∀ W,Below w.heap.size w W→Calls Tryz.prog 204 #[.slice A (min n 456) c] W (RetPk W (packW (p.take 456)))):=hid (fun W hW=>by
  refine pack_any A (min n 456) c (p.take 456) W ?_ (fun x hx=>hp x (List.mem_of_mem_take hx)) oM;have h1:=(h.below hW).more hW.size;have h2:=Reads.take8 h1 456;rw [show (u8s p).take 456=u8s (p.take 456) by simp [u8s]] at h2;exact h2)
 obtain ⟨k4,hk4⟩:∃ k4,min n 456=k4:=⟨_,rfl⟩
 rw [hk4] at HPk;have m1:min (n:Int) 456=(k4:Int):=oM;have m2:(k4:Int)≤(c:Int):=oM;have m3:(0:Int)≤(k4:Int):=oM;have HV:=hid (half_or n oM);have HNx:=hid hnx;have HHp:=hid hp;have HHl:=hid hl0;have HMm:=hid (show bSize n=q∧k4≤456∧k4≤n∧3+(k4+7) / 8≤q∧q≤60 from ⟨hq,oM,oM,by rw [← hk4];exact hbg,hbs.2⟩);have HTb:=hid ht;have hq60:q≤60:=oM;have q0:(0:Int) < (q:Int):=oM;have q1:(1:Int) < (q:Int):=oM;have q2:(2:Int)≤(q:Int):=oM;have hq3:3≤q:=oM;have hqn2:¬ q=2:=oM;have m4:(if (456:Int) < (n:Int) then (456:Int) else (n:Int))=(k4:Int):=by split <;> omega
 obtain ⟨pk,hpk⟩:∃ pk,packW (p.take 456)=pk:=⟨_,rfl⟩
 have hpl:pk.length≤q - 3:=by rw [← hpk,packW_len,List.length_take];omega
 have HPkE:=hid hpk;rw [hpk] at HPk;clear h hp hnx hq hbs hbg ht hpy hk4 hl0;go_enter Tryz.func106,Tryz.ntmps106
 go_upto_region 2 with (go_at_call 104;refine HSz.out.mono ?_;rintro e w1 ⟨rfl,rfl⟩)
 generalize hWW:w.alloc (.cells (uA (List.replicate q 0)) 32)=W1 at *;have c0:W1.cell? ⟨w.heap.size,0,none⟩=some (.int .u64 0):=by rw [hW1.cell,uA_at (by simp;omega)];simp
 have c1:W1.cell? ⟨w.heap.size,1,none⟩=some (.int .u64 0):=by rw [hW1.cell,uA_at (by simp;omega)];simp
 have z0:W1.frozen? ⟨w.heap.size,0,none⟩=false:=hW1.frozen 0;have z1:W1.frozen? ⟨w.heap.size,1,none⟩=false:=hW1.frozen 1;go_upto_region 4 with fail
 rw [HV.out];have HK2:Hid (Blk ((W1.setCell ⟨w.heap.size,0,none⟩ (.int .u64 (next:Int))).setCell ⟨w.heap.size,1,none⟩ (.int .u64 ((n * 4294967297:Nat):Int))) w.heap.size 32 (uCells (next :: n * 4294967297 :: List.replicate (q - 2) 0)).toArray):=hid (by
  have h1:=(hW1.set_ 0 (.int .u64 (next:Int))).set_ 1 (.int .u64 ((n * 4294967297:Nat):Int));rw [uA_set,uA_set,set_two q _ _ hq3] at h1;exact h1)
 have HB2:Hid (Below w.heap.size w ((W1.setCell ⟨w.heap.size,0,none⟩ (.int .u64 (next:Int))).setCell ⟨w.heap.size,1,none⟩ (.int .u64 ((n * 4294967297:Nat):Int)))):=hid ((hWB.setCell (nL _) _).setCell (nL _) _);generalize (W1.setCell ⟨w.heap.size,0,none⟩ (.int .u64 (next:Int))).setCell ⟨w.heap.size,1,none⟩ (.int .u64 ((n * 4294967297:Nat):Int))=W2 at *;clear c0 c1 z0 z1 hW1 hWB hWW;have HPk2:=hid (HPk.out W2.drew HB2.out.drew);refine wp_region_scriptH (fun _=>True) 8 [] [(1,0),(1,1),(1,2),(1,3),(1,4),(1,5),(1,6),(0,7)] (by kernel_rfl) (by kernel_rfl) trivial ?_;refine tkH (.slice (some ⟨w.heap.size,0,none⟩) q q) (fun w' hS=>?_) ?_
 ·go_simp
 simp only [zA,zB,Act.put,zD,zE,zF];refine tkH (.slice (some ⟨w.heap.size,2,none⟩) (q - 2) (q - 2)) (fun w' hS=>?_) ?_
 ·go_simp
 simp only [zA,zB,zC,Act.put,zD,zE,zF];refine tkH (.slice A n c) (fun w' hS=>?_) ?_
 ·go_simp
 simp only [zA,zB,zC,Act.put,zD,zE,zF];refine tkH (.slice A n c) (fun w' hS=>?_) ?_
 ·go_simp
 simp only [zA,zB,zC,Act.put,zD,zE,zF];refine tkH (.int .i64 (n:Int)) (fun w' hS=>?_) ?_
 ·go_simp
 simp only [zA,zB,zC,Act.put,zD,zE,zF];refine tkH (.int .i64 (k4:Int)) (fun w' hS=>?_) ?_
 ·go_simp
 simp only [zA,zB,zC,Act.put,zD,zE,zF];refine tkH (.slice A k4 c) (fun w' hS=>?_) ?_
 ·go_simp
 simp only [zA,zB,zC,Act.put,zD,zE,zF];refine wpScriptH_do (by rfl) ?_;go_wp2_with (go_at_call 204;refine HPk2.out.mono ?_;rintro e w3 ⟨A3,m3,c3,rfl,hm3,hr3,hf3,hb3⟩;have HM3:=hid hm3;have HR3:=hid hr3;have HB3:=hid hb3;clear hm3 hr3 hf3 hb3)
 refine ⟨trivial,?_⟩;show wpList _ _ _ _ _ _;simp only [List.drop_succ_cons,List.drop_zero];have HB3':Hid (Below W2.heap.size W2 w3):=hid ((Below.refl _ W2).drew.trans HB3.out);have HK3:=hid (HK2.out.below HB3'.out HK2.out.lt);have hpl2:pk.length≤q - 2:=oM;refine wpList_copy_splice rfl (.tmp 29) (.tmp 35) 99 99 rfl 32 Tryz.underlying99 (by kernel_rfl) (some ⟨w.heap.size,2,none⟩) A3 (q - 2) (q - 2) m3 c3 rfl rfl w.heap.size 2 (uCells (next :: n * 4294967297 :: List.replicate (q - 2) 0)) 32 HK3.out (uCells pk) ?n1 ?n2 ?n3 ?n4 w.heap.size w (HB2.out.trans (HB3'.out.mono HB2.out.size)) (nL _) ?_
 case n1 =>
  show _=min m3 (q - 2);have h1:=HM3.out;rw [Nat.min_eq_left oM];simp [uCells];omega
 case n2 =>
  intro h0;refine ⟨rfl,?_⟩;obtain ⟨ad,hA,_,hc⟩:=HR3.out.2 (by have:=HM3.out;simp [uCells] at h0;omega);exact ⟨ad,hA,hc⟩
 case n3=>simp [uCells];omega
 case n4=>intro v hv;unfold uCells at hv;obtain ⟨y,_,rfl⟩:=List.mem_map.1 hv;rfl
 intro W4 hg4 hb4;have HK4:Hid (Blk W4 w.heap.size 32 (uA ([next,n * 4294967297]++pk++List.replicate (q - 2 - pk.length) 0))):=hid (by
  have h1:=hg4.out;rw [splice_pay _ _ _ _ hpl2] at h1;exact h1)
 have HB4:=hid hb4;clear hg4 hb4 HK2 HK3 HB2 HB3 HB3' HR3;go_wp2_with fail
 refine NoPanic.normal ?_;have HSe:=hid (seal_blob w.heap.size q q ([next,n * 4294967297]++pk++List.replicate (q - 2 - pk.length) 0) W4 HK4.out (by simp;omega) oM oM (nL _) oM (fun x hx=>by
  rcases List.mem_append.1 hx with hx | hx
  ·rcases List.mem_append.1 hx with hx | hx
   ·simp at hx
    rcases hx with rfl | rfl
    ·exact HNx.out
    ·omega
   ·rw [← HPkE.out] at hx
    exact packW_lt (fun b hb=>HHp.out b (List.mem_of_mem_take hb)) x hx
  ·have:=(List.mem_replicate.1 hx).2
   omega) (HTb.out.below HB4.out))
 have HPay:Hid (([next,n * 4294967297]++pk++List.replicate (q - 2 - pk.length) 0).take (([next,n * 4294967297]++pk++List.replicate (q - 2 - pk.length) 0).length - 1)++[sumW (([next,n * 4294967297]++pk++List.replicate (q - 2 - pk.length) 0).take (([next,n * 4294967297]++pk++List.replicate (q - 2 - pk.length) 0).length - 1))]=payL next p):=hid (by
  have e1:([next,n * 4294967297]++pk++List.replicate (q - 2 - pk.length) 0)=payB next p++[0]:=by
   unfold payB;rw [HPkE.out,HHl.out,HMm.out.1,show q - 2 - pk.length=(q - 3 - pk.length)+1 by omega,List.replicate_succ'];simp only [List.append_assoc]
  rw [e1];unfold payL;have e2:(payB next p++[0]).length - 1=(payB next p).length:=by simp
  rw [e2,List.take_left])
 obtain ⟨pl,hpl3⟩:∃ pl,payL next p=pl:=⟨_,rfl⟩
 have HGp:=hid hpl3;rw [hpl3] at HPay;have HSe2:Hid (Calls Tryz.prog 205 #[.slice (some ⟨w.heap.size,0,none⟩) q q] W4 fun e w'=>e = .returned (.tuple #[])∧Blk w' w.heap.size 32 (uA pl)∧Below w.heap.size w w'):=hid (HSe.out.mono (fun e w' h=>by
  obtain ⟨h1,h2,h3⟩:=h;rw [HPay.out] at h2;exact ⟨h1,h2,HB4.out.trans (h3.toBelow HB4.out.size (fun k hk=>by subst hk;exact nL _))⟩))
 have HPL:Hid (pl.length=q∧∀ x∈pl,x < 18446744073709551616):=hid (by
  rw [← hpl3,payL_len,HHl.out,HMm.out.1];exact ⟨rfl,payL_lt HNx.out HHp.out (by rw [HHl.out];exact hn)⟩)
 clear HSe HPay hpl3 HK4 HMm HPkE HNx HHp HHl hpl hpl2 HPk HPk2 HV;have HAt:Hid (∀ (j:Nat) (W:World),j < q→Calls Tryz.prog 49 #[.int .u64 (b:Int), .int .i64 (j:Int)] W fun e w'=>e = .returned (.int .u64 ((pOff b+8 * j:Nat):Int))∧W=w'):=hid (fun j W hj=>by
  have h1:=at_any b j oM W;have h2:pAt b j=pOff b+8 * j:=by unfold pAt;rw [if_neg oM]
  rw [h2] at h1;exact h1)
 have hpo9:pOff b≤34359738360:=by unfold pOff;omega
 obtain ⟨O,hO⟩:∃ O,pOff b=O:=⟨_,rfl⟩
 have HGo:=hid hO;rw [hO] at HAt hpo9;clear hO;obtain ⟨i0,hi0,hz0,hz1,hz2⟩:=info_parts infoWrite;have HLn:=hid (pwW_len O pl);go_wp2_with (go_at_call 205;refine HSe2.out.mono ?_;rintro e W5 ⟨rfl,hk5,hb5⟩;have HK5:=hid hk5;have HB5:=hid hb5;clear hk5 hb5)
 have HO0:Hid (W5.ownsRow w.heap.size 114 2 (.slice none 0 0) 0 (wrCells ((pwW O pl).take 0))):=World.ownsRow_nil _ _ _ _;clear HSe2 HB4 hmk m2 m4 HSz;go_loopw [8,41] (fun v i wr=>∃ (k:Nat) (A1:Option Addr) (m1 c1:Nat),k≤q∧i = .int .i64 k∧v = .slice A1 m1 c1∧m1=k∧Hid (wr.ownsRow w.heap.size 114 2 (.slice A1 m1 c1) m1 (wrCells ((pwW O pl).take k)))∧Hid (Below w.heap.size w wr)∧Hid (Blk wr w.heap.size 32 (uA pl))) (fun _ i _=>q - (Go.RowKit.intOf i).toNat)
 case atStart=>exact ⟨0,_,_,_,Nat.zero_le _,rfl,rfl,rfl,HO0,HB5,HK5⟩
 case round =>
  clear HO0 HB5 HK5;obtain ⟨k,A1,m1,c1,hk,rfl,rfl,hm1',HO,H,HK⟩:=hrel;by_cases hlt:k < q
  ·have hkl:k < pl.length:=by have:=HPL.out.1;omega
   have hz5:(0:Int)≤(k:Int):=oM;have hz6:(k:Int) < (q:Int):=oM;have hm2:m1≤60:=oM;have HM:=hid hm1';have HA:=hid (fun W=>HAt.out k W hlt);have f0:wr.cell? ⟨w.heap.size,k,none⟩=some (.int .u64 (pl[k]:Int)):=by rw [HK.out.cell];exact uA_at hkl
   have HEQ:Hid (wrCells ((pwW O pl).take k)++[.int .u64 ((O+8 * k:Nat):Int), .int .u64 (pl[k]:Int)]=wrCells ((pwW O pl).take (k+1))):=hid (by rw [pwW_take O pl hkl];simp [wrCells]);have hv64:=HPL.out.2 _ (List.getElem_mem hkl);generalize pl[k]=vk at *;generalize O+8 * k=y at *;have HLE:=hid H.out.size;have HOD:=hid (HO.out.alloc (.cells #[.int .u64 (y:Int), .int .u64 (vk:Int)] 114));have HBD:=hid (H.out.alloc H.out.size (.cells #[.int .u64 (y:Int), .int .u64 (vk:Int)] 114));have HKD:=hid (HK.out.alloc (.cells #[.int .u64 (y:Int), .int .u64 (vk:Int)] 114));have HKO:=hid (own_blk_ne HO.out HK.out (by decide));clear H HO HK hm1' hkl;go_wp2_with (first
    | (go_at_call 49;refine (HA.out _).mono ?_;rintro e w1 ⟨rfl,rfl⟩)
    | (at_builtin;refine wpList_app _ (.tmp 46) (.tmp 52) 108 rfl rfl w.heap.size 114 i0 _ 2 16 Tryz.underlying108 hi0 hz0 hz1 hz2 rfl ?q1 (.slice A1 m1 c1) m1 (wrCells ((pwW O pl).take k)) rfl HOD.out (wr.heap.size+1) (some ⟨wr.heap.size,0,none⟩) 1 1 [.int .u64 (y:Int), .int .u64 (vk:Int)] rfl ?q5 ?q6 ?q2 ?q3 ?q4 ?_;(case q1=>omega);(case q5=>exact row_reads_at _ _ rfl _ 1 2 114 _ rfl rfl);(case q6=>(intro u hu;simp at hu;rcases hu with rfl | rfl <;> rfl));(case q2=>(unfold maxLen;omega));(case q3=>omega);(case q4=>(have:=HLE.out;simp;omega));intro A3 n3 c3 w8 hn3 ho3 hg3 hb3;have HN3:=hid hn3;have HO3:=hid ho3;have HB3:=hid (HBD.out.trans hb3);have HK3:=hid (HKD.out.grown hg3 (fun e=>HKO.out e.symm));clear hn3 ho3 hg3 hb3)
    | go_in)
   have b1:n3=k+1:=by have:=HN3.out;have:=HM.out;omega
   have HO4:Hid (w8.ownsRow w.heap.size 114 2 (.slice A3 n3 c3) n3 (wrCells ((pwW O pl).take (k+1)))):=hid (by have h:=HO3.out;rw [HEQ.out] at h;exact h);go_roundw
   case rel =>
    first
     | exact ⟨k+1,_,_,_,oM,by go_num,rfl,b1,HO4,HB3,HK3⟩
     | (
       repeat apply Exists.intro
       refine ⟨?_,rfl⟩;exact ⟨k+1,_,_,_,oM,by go_num,rfl,b1,HO4,HB3,HK3⟩)
   case measure=>simp [Go.RowKit.intOf];omega
  ·obtain rfl:q=k:=oM
   have HFs:Hid (RetWs w (pwW (pOff b) (payL next p)) (.returned (.slice A1 m1 c1)) wr):=hid (by
    rw [HGp.out,HGo.out];have h:=HO.out;rw [List.take_of_length_le (by rw [HLn.out,HPL.out.1];exact nL _)] at h;exact ⟨A1,m1,c1,rfl,by rw [HLn.out,HPL.out.1];exact hm1',h,H.out⟩)
   clear HO H HK hm1' hlt hk;go_wp2;go_ret;exact HFs.out
end
section
open Go.RowKit
theorem mask_low (x:Nat) (h:x < 18446744073709551616):bits .and .u64 (x:Int) 4294967295=((x % 4294967296:Nat):Int):=by
 have h1:=u64_and_nat x 4294967295 h oM;rw [show ((4294967295:Nat):Int)=4294967295 from rfl] at h1;rw [h1,show (4294967295:Nat)=2 ^ 32 - 1 from rfl,Nat.and_two_pow_sub_one_eq_mod]
theorem aheadDLoad (p : Addr) (w : World) : (nilAhead 640 59 (.pointer (some p)) "Load").run Tryz.prog w = .ok (some false) w := by kernel_rfl
section
variable {a:DA} {L T:Nat} {w:World} {S:Fp} {cur:Nat→Nat} {F:Nat} {d g r:Nat}
theorem within_blob (h:Dev a L T w S cur F) (hB:Blk w d 240 (dirCells a g r)) (p k:Nat) (hp0:p≠0) (hk:k < 60) (bp bs:Nat) (hc:w.cell? ⟨bp,0,none⟩=some (.int .u64 (p:Int))) (hs:w.cell? ⟨bs,0,none⟩=some (dirV d)) :
  Calls Tryz.prog 308 #[.int .i64 (k:Int), .pointer (some ⟨bp,0,none⟩), .pointer (some ⟨bs,0,none⟩)] w fun e w'=>e = .returned (.bool (decide (pOff p+8 * k+8≤64 * L)))∧Below w.heap.size w w':=by
 have hL:L≤4096:=by obtain ⟨ls,exe,per,cs,lsC,hdc,hnt⟩:=h;exact hdc.hL
 have HAt:=hid (at_any p k oM);have e1:pAt p k=pOff p+8 * k:=by unfold pAt;rw [if_neg oM]
 have ho:pOff p≤34359738360:=by unfold pOff;omega
 rw [e1] at HAt;have HSz:Hid (∀ W,W=w.drew→Calls Tryz.prog 436 #[.pointer (some ⟨d,0,none⟩)] W (fun e w'=>e = .returned (.int .u64 ((64 * L:Nat):Int))∧W=w')):=hid (fun W hW=>by subst hW;exact sizeD (h.below (Below.refl _ _).drew) hB.drew);have hm:=methDSize (some ⟨d,0,none⟩);obtain ⟨z,hz⟩:∃ z,pOff p+8 * k=z:=⟨_,rfl⟩
 obtain ⟨m,hm2⟩:∃ m,64 * L=m:=⟨_,rfl⟩
 rw [hz] at HAt ⊢;rw [hm2] at HSz ⊢;have hzb:z≤40000000000:=oM;have hmb:m≤300000:=oM;clear e1 ho hz hm2 h hB hL;unfold dirV at *;go_enter Tryz.func308,Tryz.ntmps308
 go_wp2_with fail
 refine wp_region_scriptH (fun w'=>w'=w.drew) 5 [] [(1,0),(1,1),(1,3),(0,2),(0,4)] (by kernel_rfl) (by kernel_rfl) rfl ?_;refine tkH (.int .u64 (p:Int)) (fun w' hS=>?_) ?_
 ·subst hS
  go_simp
 simp only [zA,zB,Act.put,zD,zE,zF];refine tkH (.int .i64 (k:Int)) (fun w' hS=>?_) ?_
 ·go_simp
 simp only [zA,zB,zC,Act.put,zD,zE,zF];refine tkH (.iface 59 (.pointer (some ⟨d,0,none⟩))) (fun w' hS=>?_) ?_
 ·subst hS
  go_simp
 simp only [zA,zB,zC,Act.put,zD,zE,zF];refine wpScriptH_do (by rfl) ?_;go_wp2_with (go_at_call 49;refine (HAt.out _).mono ?_;rintro e w1 ⟨rfl,rfl⟩)
 refine ⟨rfl,?_⟩;refine wpScriptH_do (by rfl) ?_;go_wp2_with (go_at_call 436;refine (HSz.out _ rfl).mono ?_;rintro e w1 ⟨rfl,rfl⟩)
 refine ⟨rfl,?_⟩;show wpList _ _ _ _ _ _;simp only [List.drop_succ_cons,List.drop_zero];by_cases c1:z < m
 ·have u1:IntKind.u64.wrap ((m:Int) - (z:Int))=((m - z:Nat):Int):=by rw [IntKind.wrap_u64];omega
  have d2:decide ((8:Int)≤((m - z:Nat):Int))=decide (z+8≤m):=decide_eq_decide.2 oM;have d1:decide ((z:Int) < (m:Int))=true:=dT;generalize m - z=q at *;go_wp2;refine NoPanic.normal ?_;go_wp2;go_ret;refine ⟨?_,(Below.refl _ _).drew⟩;first | rfl | rw [d2] | simp [d2]
 ·have d1:decide ((z:Int) < (m:Int))=false:=dF
  have d2:decide (z+8≤m)=false:=dF;go_wp2;refine NoPanic.normal ?_;go_wp2;go_ret;refine ⟨?_,(Below.refl _ _).drew⟩;rw [d2];rfl
def ldL (cur:Nat→Nat) (o n k:Nat):List Nat:=(List.range n).map fun j=>if j < k then cur (o+j) else 0
theorem ldL_len (cur:Nat→Nat) (o n k:Nat):(ldL cur o n k).length=n:=by simp [ldL]
theorem ldL_zero (cur:Nat→Nat) (o n:Nat):ldL cur o n 0=List.replicate n 0:=by
 apply List.ext_getElem
 ·simp [ldL]
 ·intro i h1 h2
  simp [ldL]
theorem ldL_set (cur:Nat→Nat) (o n k:Nat):(ldL cur o n k).set k (cur (o+k))=ldL cur o n (k+1):=by
 apply List.ext_getElem
 ·simp [ldL]
 ·intro i h1 h2
  rw [List.getElem_set];simp only [ldL,List.getElem_map,List.getElem_range];by_cases e:k=i
  ·subst e
   rw [if_pos rfl,if_pos oM]
  ·rw [if_neg e]
   by_cases h:i < k
   ·rw [if_pos h,if_pos oM]
   ·rw [if_neg h,if_neg oM]
theorem ldL_end (cur:Nat→Nat) (o n:Nat):ldL cur o n n=(List.range n).map fun j=>cur (o+j):=by
 apply List.ext_getElem
 ·simp [ldL]
 ·intro i h1 h2
  simp only [ldL,List.getElem_map,List.getElem_range];rw [if_pos (by simpa [ldL] using h1)]
theorem load_cases (L:Nat) (cur:Nat→Nat) (p:Nat) (c1:¬ 64 * L < pOff p+16) (hv:cur (pOff p / 8+1) < 18446744073709551616) (_hL:L≤4096):∃ (v rest hi:Nat),cur (pOff p / 8+1)=v∧bits .and .u64 (v:Int) 4294967295=(rest:Int)∧(v:Int) / 4294967296=(hi:Int)∧rest < 4294967296 ∧
  ((loadR L cur p=none∧((rest:Int) != (hi:Int))=true)∨(loadR L cur p=none∧((rest:Int) != (hi:Int))=false∧decide ((2000:Int) < (rest:Int))=true) ∨
   ∃ n1 n:Nat,((rest:Int) != (hi:Int))=false∧decide ((2000:Int) < (rest:Int))=false∧rest≤2000∧bSize rest=n1∧(n1:Int) - 1=(n:Int)∧n < 60∧n1≤60∧wrap64 (n:Int)=(n:Int) ∧
    ((decide (pOff p+8 * n+8≤64 * L)=false∧loadR L cur p=none)∨(decide (pOff p+8 * n+8≤64 * L)=true∧loadR L cur p=some ((List.range n1).map fun j=>cur (pOff p / 8+j),rest)∧∀ k,k < n1→pOff p+8 * k+8≤64 * L))):=by
 obtain ⟨v,e⟩:∃ v,cur (pOff p / 8+1)=v:=⟨_,rfl⟩
 rw [e] at hv;refine ⟨v,v % 4294967296,v / 4294967296,e,mask_low v hv,oM,oM,?_⟩;have hR:loadR L cur p=if v % 4294967296≠v / 4294967296∨2000 < v % 4294967296 then none else if 64 * L < pOff p+8 * bSize (v % 4294967296) then none else some ((List.range (bSize (v % 4294967296))).map fun j=>cur (pOff p / 8+j),v % 4294967296):=by
  unfold loadR;rw [if_neg c1,e]
 generalize v / 4294967296=hi at *;generalize v % 4294967296=rest at *;by_cases c3:rest=hi
 ·have d1:((rest:Int) != (hi:Int))=false:=by rw [bne,beq_iff_eq.2 oM];rfl
  by_cases c4:2000 < rest
  ·exact .inr (.inl ⟨by rw [hR,if_pos (.inr c4)],d1,dT⟩)
  ·rw [if_neg oM] at hR
   obtain ⟨h3,h60⟩:=bSize_le rest;obtain ⟨n,hn⟩:∃ n,bSize rest=n+1:=⟨bSize rest - 1,oM⟩
   refine .inr (.inr ⟨n+1,n,d1,dF,oM,hn,oM,oM,oM,IntWalk.wrap64_in _ oM,?_⟩);rw [hn] at hR;by_cases c5:64 * L < pOff p+8 * (n+1)
   ·exact .inl ⟨dF,by rw [hR,if_pos c5]⟩
   ·exact .inr ⟨dT,by rw [hR,if_neg c5],fun k hk=>oM⟩
 ·exact .inl ⟨by rw [hR,if_pos (.inl c3)],by rw [bne,beq_eq_false_iff_ne.2 oM];rfl⟩
def RetLd (w:World) (o:Option (List Nat × Nat)) (e:Ending) (w':World):Prop:=match o with
 | none=>e = .returned (.tuple #[.slice none 0 0, .int .i64 0, .int .i64 11])∧Below w.heap.size w w'
 | some (l,rest)=>∃ g,e = .returned (.tuple #[.slice (some ⟨g,0,none⟩) l.length l.length, .int .i64 (rest:Int), .int .i64 0])∧Blk w' g 32 (uA l)∧w.heap.size≤g∧Below w.heap.size w w'
theorem bload_any (h:Dev a L T w S cur 0) (hB:Blk w d 240 (dirCells a g r)) (hpy:Pay w) (hbn:∀ i,cur i < 18446744073709551616) (p:Nat) (hp0:p≠0) (_hp64:p < 18446744073709551616) :
  Calls Tryz.prog 222 #[dirV d, .int .u64 (p:Int)] w (RetLd w (loadR L cur p)):=by
 have hL:L≤4096:=by obtain ⟨ls,exe,per,cs,lsC,hdc,hnt⟩:=h;exact hdc.hL
 have hb0:Below w.heap.size w ((w.alloc (.cells #[dirV d] 83)).alloc (.cells #[.int .u64 (p:Int)] 54)):=((Below.refl _ _).alloc (nL _) _).alloc (by simp) _;have HB0:=hid hb0;have HS:=hid ((Blk.new w 83 #[dirV d]).alloc (.cells #[.int .u64 (p:Int)] 54));have esz:(w.alloc (.cells #[dirV d] 83)).heap.size=w.heap.size+1:=by simp
 have HP:Hid (Blk ((w.alloc (.cells #[dirV d] 83)).alloc (.cells #[.int .u64 (p:Int)] 54)) (w.heap.size+1) 54 #[.int .u64 (p:Int)]):=hid (by
  have:=Blk.new (w.alloc (.cells #[dirV d] 83)) 54 #[.int .u64 (p:Int)];rw [esz] at this;exact this)
 have HD:=hid h;have HBB:=hid hB;have HPy:=hid hpy;have HWt:Hid (∀ (W:World) (k:Nat),k < 60→Below w.heap.size w W→W.cell? ⟨w.heap.size,0,none⟩=some (dirV d)→W.cell? ⟨w.heap.size+1,0,none⟩=some (.int .u64 (p:Int))→Calls Tryz.prog 308 #[.int .i64 (k:Int), .pointer (some ⟨w.heap.size+1,0,none⟩), .pointer (some ⟨w.heap.size,0,none⟩)] W fun e w'=>e = .returned (.bool (decide (pOff p+8 * k+8≤64 * L)))∧Below W.heap.size W w'):=hid (fun W k hk hW h1 h2=>by
  have h5:=within_blob (h.below hW) (hB.below hW hB.lt) p k hp0 hk (w.heap.size+1) w.heap.size h2 h1;exact h5)
 have hmf:∀ (fn:Fn) (first cap:Array Value) (w:World),(Instr.makeFunc fn first cap).run Tryz.prog w = .ok (.func fn first cap) w:=fun _ _ _ _=>rfl
 have hmE:=methDErr (some ⟨d,0,none⟩);have hmL:=methDLoad (some ⟨d,0,none⟩);have hna:=aheadDLoad ⟨d,0,none⟩;clear h hB hpy hb0 esz;unfold dirV at *;go_enter Tryz.func222,Tryz.ntmps222
 go_upto_region 2 with fail
 have hS0:=HS.out.cell 0;have hP0:=HP.out.cell 0;generalize hW0:(w.alloc (.cells #[.iface 59 (.pointer (some ⟨d,0,none⟩))] 83)).alloc (.cells #[.int .u64 (p:Int)] 54)=W0 at *;clear hW0;have hpo8:pOff p % 8=0:=by unfold pOff;omega
 have hpo9:pOff p≤34359738360:=by unfold pOff;omega
 have HAt:Hid (∀ (k:Nat) (W:World),k < 60→Calls Tryz.prog 49 #[.int .u64 (p:Int), .int .i64 (k:Int)] W fun e w'=>e = .returned (.int .u64 ((pOff p+8 * k:Nat):Int))∧W=w'):=hid (fun k W hk=>by
  have h1:=at_any p k oM W;have h2:pAt p k=pOff p+8 * k:=by unfold pAt;rw [if_neg oM]
  rw [h2] at h1;exact h1)
 have HRd:Hid (∀ (k:Nat) (W:World),pOff p+8 * k+8≤64 * L→Below w.heap.size w W→Calls Tryz.prog 435 #[.pointer (some ⟨d,0,none⟩), .int .u64 ((pOff p+8 * k:Nat):Int)] W (fun e w'=>e = .returned (.int .u64 (cur (pOff p / 8+k):Int))∧W=w')):=hid (fun k W hk hW=>loadD (HD.out.below hW) (HBB.out.below hW HBB.out.lt) (pOff p+8 * k) _ oM oM (by rw [show (pOff p+8 * k) / 8=pOff p / 8+k by omega]));have HEr:Hid (∀ W,Below w.heap.size w W→Calls Tryz.prog 432 #[.pointer (some ⟨d,0,none⟩)] W fun e w'=>e = .returned (.int .i64 0)∧W=w'):=hid (fun W hW=>errD (HD.out.below hW) (HBB.out.below hW HBB.out.lt));have HW1:=hid (HWt.out W0 1 oM HB0.out hS0 hP0);rw [show ((1:Nat):Int)=1 from rfl] at HW1;have HFn:Hid (loadR L cur p=none→∀ w',Below w.heap.size w w'→RetLd w (loadR L cur p) (.returned (.tuple #[.slice none 0 0, .int .i64 0, .int .i64 11])) w'):=hid (fun h w' hb=>by rw [h];exact ⟨rfl,hb⟩);by_cases c1:64 * L < pOff p+16
 ·have hR:loadR L cur p=none:=by unfold loadR;rw [if_pos c1]
  have HF:=hid (HFn.out hR);rw [show decide (pOff p+8 * 1+8≤64 * L)=false from dF] at HW1;clear c1 hR;go_wp2_with (go_at_call 308;refine HW1.out.mono ?_;rintro e w1 ⟨rfl,hb1⟩;have HB1:=hid hb1;clear hb1)
  go_ret3
  exact HF.out _ (HB0.out.trans (HB1.out.mono HB0.out.size))
 ·rw [show decide (pOff p+8 * 1+8≤64 * L)=true from dT] at HW1
  obtain ⟨v,rest,hi,hv,hmk,hdv,hr32,hall⟩:=load_cases L cur p c1 (hbn _) hL;have HAll:=hid hall;clear hall;go_upto_region 4 with (go_at_call 308;refine HW1.out.mono ?_;rintro e w1 ⟨rfl,hb1⟩;have HB1:=hid (HB0.out.trans (hb1.mono HB0.out.size));have HS1:=hid (HS.out.below hb1 HS.out.lt);have HP1:=hid (HP.out.below hb1 HP.out.lt);clear hb1)
  have HL1:=hid (HRd.out 1 w1.drew oM HB1.out.drew);rw [hv] at HL1;have HA1:=hid (HAt.out 1 w1.drew oM);rw [show ((1:Nat):Int)=1 from rfl] at HA1;generalize pOff p+8 * 1=o1 at HL1 HA1;refine wp_region_scriptH (fun w'=>w'=w1.drew) 6 [] [(1,0),(1,1),(1,3),(1,4),(1,5),(0,2)] (by kernel_rfl) (by kernel_rfl) rfl ?_;refine tkH (.iface 59 (.pointer (some ⟨d,0,none⟩))) (fun w' hS=>?_) ?_
  ·subst hS;have f1:w1.cell? ⟨w.heap.size,0,none⟩=some (.iface 59 (.pointer (some ⟨d,0,none⟩))):=HS1.out.cell 0
   go_simp
  simp only [zA,zB,Act.put,zD,zE,zF];refine tkH (.int .u64 (p:Int)) (fun w' hS=>?_) ?_
  ·subst hS;have f1:w1.cell? ⟨w.heap.size+1,0,none⟩=some (.int .u64 (p:Int)):=HP1.out.cell 0
   go_simp
  simp only [zA,zB,zC,Act.put,zD,zE,zF];refine wpScriptH_take (.func (.method "Load") #[.iface 59 (.pointer (some ⟨d, 0, none⟩))] #[]) (by rfl) (by rfl) (fun w' hS => ?_) ?_
  ·go_simp
  simp only [zA,zB,zC,Act.put,zD,zE,zF];refine wpScriptH_take (.func (.method "Load") #[.iface 59 (.pointer (some ⟨d, 0, none⟩))] #[]) (by rfl) (by rfl) (fun w' hS => ?_) ?_
  ·go_simp
  simp only [zA,zB,zC,Act.put,zD,zE,zF];refine tkH (.iface 59 (.pointer (some ⟨d,0,none⟩))) (fun w' hS=>?_) ?_
  ·go_simp
  simp only [zA,zB,zC,Act.put,zD,zE,zF];refine wpScriptH_do (by rfl) ?_;go_wp2_with (go_at_call 49;refine HA1.out.mono ?_;rintro e w2 ⟨rfl,rfl⟩)
  refine ⟨rfl,?_⟩;show wpList _ _ _ _ _ _;simp only [List.drop_succ_cons,List.drop_zero];go_wp2_with (go_at_call 435;refine HL1.out.mono ?_;rintro e w2 ⟨rfl,rfl⟩)
  refine NoPanic.normal ?_;have HBd:=hid HB1.out.drew;have HSd:=hid HS1.out.drew;have HPd:=hid HP1.out.drew;clear HL1 HA1 HW1 HB1 HS1 HP1;generalize w1.drew=w2 at *;have HE1:=hid (HEr.out w2 HBd.out);have f1:w2.cell? ⟨w.heap.size,0,none⟩=some (.iface 59 (.pointer (some ⟨d,0,none⟩))):=HSd.out.cell 0;go_upto_region 9 with (go_at_call 432;refine HE1.out.mono ?_;rintro e w3 ⟨rfl,rfl⟩)
  rcases HAll.out with ⟨hR,d1⟩ | ⟨hR,d1,d2⟩ | ⟨n1,n,d1,d2,hr2,hn1,e2,hn60,hn1z,e1,hrest⟩
  ·have HF:=hid (HFn.out hR)
   clear hR HAll;go_wp2;go_ret3
   exact HF.out _ HBd.out
  ·have HF:=hid (HFn.out hR)
   clear hR HAll;go_wp2;go_ret3
   exact HF.out _ HBd.out
  ·have HN6:=hid (And.intro hn60 hn1z)
   have HE1:=hid e1;have HE2:=hid e2;have HN1:=hid hn1;have HRR:=hid hrest;clear hn60 hn1z e1 e2 hn1 hrest HAll;go_upto_region 11 with fail
   clear hdv hmk hr32 d1 d2;have HSz:=hid (bsize_any rest (Nat.le_trans hr2 (by decide)) w2 (HPy.out.below HBd.out));rw [HN1.out] at HSz;have f2:w2.cell? ⟨w.heap.size+1,0,none⟩=some (.int .u64 (p:Int)):=HPd.out.cell 0;have hWn:=HWt.out w2 n HN6.out.1 HBd.out f1 f2;have hWn2:Calls Tryz.prog 308 #[.int .i64 (wrap64 (n:Int)), .pointer (some ⟨w.heap.size+1,0,none⟩), .pointer (some ⟨w.heap.size,0,none⟩)] w2 fun e w'=>e = .returned (.bool (decide (pOff p+8 * n+8≤64 * L)))∧Below w2.heap.size w2 w':=by rw [HE1.out];exact hWn
   have HWn:=hid hWn2;clear hWn hWn2 f2;have e2:=HE2.out;rcases HRR.out with ⟨hd,hR⟩ | ⟨hd,hR,hfit⟩
   ·have HF:=hid (HFn.out hR)
    rw [hd] at HWn;clear hR HRR hd;go_wp2_with (first
     | (go_at_call 104;refine HSz.out.mono ?_;rintro e w3 ⟨rfl,rfl⟩)
     | (go_at_call 308;refine HWn.out.mono ?_;rintro e w3 ⟨rfl,hb3⟩;have HB3:=hid (HBd.out.trans (hb3.mono HBd.out.size));clear hb3))
    go_ret3
    exact HF.out _ HB3.out
   ·rw [hd] at HWn
    have HR2:=hid hR;have HFit:=hid hfit;have hmkS:=makeU n1 (Nat.le_trans HN6.out.2 (by decide));rw [show madeCells #[.int .u64 0] n1=uA (ldL cur (pOff p / 8) n1 0) by rw [ldL_zero];apply Array.ext';rw [toList_madeCells_one];unfold uA uCells;simp] at hmkS;clear hR HRR hd hfit;go_wp2_with (first
     | (go_at_call 104;refine HSz.out.mono ?_;rintro e w3 ⟨rfl,rfl⟩)
     | (go_at_call 308;refine HWn.out.mono ?_;rintro e w3 ⟨rfl,hb3⟩;have HB3:=hid (HBd.out.trans (hb3.mono HBd.out.size));have HS3:=hid (HSd.out.below hb3 HSd.out.lt);have HP3:=hid (HPd.out.below hb3 HPd.out.lt);clear hb3))
    have hn1z:=HN6.out.2;have HBk:Hid (Blk (w3.alloc (.cells (uA (ldL cur (pOff p / 8) n1 0)) 32)) w3.heap.size 32 (uA (ldL cur (pOff p / 8) n1 0))):=hid (Blk.new w3 _ _);have HB4:Hid (Below w3.heap.size w3 (w3.alloc (.cells (uA (ldL cur (pOff p / 8) n1 0)) 32))):=hid ((Below.refl _ _).alloc (nL _) _);go_loopw [53] (fun i wr=>∃ k:Nat,k≤n1∧i = .int .i64 (k:Int)∧Hid (Blk wr w3.heap.size 32 (uA (ldL cur (pOff p / 8) n1 k)))∧Hid (Below w3.heap.size w3 wr)) (fun i _=>n1 - (Go.RowKit.intOf i).toNat)
    case atStart=>exact ⟨0,Nat.zero_le _,rfl,HBk,HB4⟩
    case round =>
     clear HBk HB4;obtain ⟨k,hk,rfl,HBk,HB4⟩:=hrel;by_cases hlt:k < n1
     ·have HBl:=hid (HB3.out.trans (HB4.out.mono HB3.out.size))
      have HS4:=hid (HS3.out.below HB4.out HS3.out.lt);have HP4:=hid (HP3.out.below HB4.out HP3.out.lt);have HL4:=hid (HRd.out k wr.drew (HFit.out k hlt) HBl.out.drew);have HA4:=hid (HAt.out k wr.drew oM);have HNx:Hid (Blk (wr.drew.setCell ⟨w3.heap.size,k,none⟩ (.int .u64 (cur (pOff p / 8+k):Int))) w3.heap.size 32 (uA (ldL cur (pOff p / 8) n1 (k+1)))):=hid (by
       have h1:=HBk.out.drew.set_ k (.int .u64 (cur (pOff p / 8+k):Int));rw [uA_set,ldL_set] at h1;exact h1)
      have HBx:Hid (Below w3.heap.size w3 (wr.drew.setCell ⟨w3.heap.size,k,none⟩ (.int .u64 (cur (pOff p / 8+k):Int)))):=hid (HB4.out.drew.setCell (nL _) _);have hz5:(0:Int)≤(k:Int):=oM;have hz6:(k:Int) < (n1:Int):=oM;have c9:wr.drew.cell? ⟨w3.heap.size,k,none⟩=some (.int .u64 (((ldL cur (pOff p / 8) n1 k)[k]'(by rw [ldL_len];exact hlt):Nat):Int)):=by rw [HBk.out.drew.cell];exact uA_at (by rw [ldL_len];exact hlt)
      have z9:wr.drew.frozen? ⟨w3.heap.size,k,none⟩=false:=HBk.out.drew.frozen k;generalize (ldL cur (pOff p / 8) n1 k)[k]'(by rw [ldL_len];exact hlt)=old at *;have hlb:cur (pOff p / 8+k) < 18446744073709551616:=hbn _;generalize cur (pOff p / 8+k)=vk at *;generalize pOff p+8 * k=ok at HL4 HA4;clear HBk HB4;go_upto_region 18 with fail
      refine wp_region_scriptH (fun w'=>w'=wr.drew) 10 [] [(1,0),(1,1),(1,2),(1,3),(1,4),(1,6),(1,7),(1,8),(0,5),(0,9)] (by kernel_rfl) (by kernel_rfl) rfl ?_;refine tkH (.slice (some ⟨w3.heap.size,0,none⟩) n1 n1) (fun w' hS=>?_) ?_
      ·go_simp
      simp only [zA,zB,Act.put,zD,zE,zF];refine tkH (.int .i64 (k:Int)) (fun w' hS=>?_) ?_
      ·go_simp
      simp only [zA,zB,zC,Act.put,zD,zE,zF];refine tkH (.iface 59 (.pointer (some ⟨d,0,none⟩))) (fun w' hS=>?_) ?_
      ·subst hS;have f1:wr.cell? ⟨w.heap.size,0,none⟩=some (.iface 59 (.pointer (some ⟨d,0,none⟩))):=HS4.out.cell 0
       go_simp
      simp only [zA,zB,zC,Act.put,zD,zE,zF];refine tkH (.int .u64 (p:Int)) (fun w' hS=>?_) ?_
      ·subst hS;have f1:wr.cell? ⟨w.heap.size+1,0,none⟩=some (.int .u64 (p:Int)):=HP4.out.cell 0
       go_simp
      simp only [zA,zB,zC,Act.put,zD,zE,zF];refine tkH (.int .i64 (k:Int)) (fun w' hS=>?_) ?_
      ·go_simp
      simp only [zA,zB,zC,Act.put,zD,zE,zF];refine wpScriptH_take (.func (.method "Load") #[.iface 59 (.pointer (some ⟨d, 0, none⟩))] #[]) (by rfl) (by rfl) (fun w' hS => ?_) ?_
      ·go_simp
      simp only [zA,zB,zC,Act.put,zD,zE,zF];refine wpScriptH_take (.func (.method "Load") #[.iface 59 (.pointer (some ⟨d, 0, none⟩))] #[]) (by rfl) (by rfl) (fun w' hS => ?_) ?_
      ·go_simp
      simp only [zA,zB,zC,Act.put,zD,zE,zF];refine tkH (.iface 59 (.pointer (some ⟨d,0,none⟩))) (fun w' hS=>?_) ?_
      ·go_simp
      simp only [zA,zB,zC,Act.put,zD,zE,zF];refine wpScriptH_do (by rfl) ?_;go_wp2_with (go_at_call 49;refine HA4.out.mono ?_;rintro e w2 ⟨rfl,rfl⟩)
      refine ⟨rfl,?_⟩;refine wpScriptH_do (by rfl) ?_;go_wp2_with (go_at_call 435;refine HL4.out.mono ?_;rintro e w2 ⟨rfl,rfl⟩)
      refine ⟨rfl,?_⟩;show wpList _ _ _ _ _ _;simp only [List.drop_succ_cons,List.drop_zero];go_wp2;refine NoPanic.normal ?_;go_wp2;go_roundw
      case rel =>
       first
        | exact ⟨k+1,oM,by go_num,HNx,HBx⟩
        | (
          repeat apply Exists.intro
          refine ⟨?_,rfl⟩;exact ⟨k+1,oM,by go_num,HNx,HBx⟩)
      case measure=>simp [Go.RowKit.intOf];omega
     ·obtain rfl:k=n1:=oM
      have HBl:=hid (HB3.out.trans (HB4.out.mono HB3.out.size));have HS4:=hid (HS3.out.below HB4.out HS3.out.lt);have f4:wr.cell? ⟨w.heap.size,0,none⟩=some (.iface 59 (.pointer (some ⟨d,0,none⟩))):=HS4.out.cell 0;have HE4:=hid (HEr.out wr HBl.out);have HG:=hid HB3.out.size;have HFs:Hid (RetLd w (loadR L cur p) (.returned (.tuple #[.slice (some ⟨w3.heap.size,0,none⟩) k k, .int .i64 (rest:Int), .int .i64 0])) wr):=hid (by
       rw [HR2.out];refine ⟨w3.heap.size,?_,?_,HG.out,HBl.out⟩
       ·simp
       ·have h1:=HBk.out
        rw [ldL_end] at h1;exact h1)
      clear HBk HB4 hlt hk;go_wp2_with (go_at_call 432;refine HE4.out.mono ?_;rintro e w5 ⟨rfl,rfl⟩)
      go_ret3
      exact HFs.out
end
end
end Go.Proofs.YtfkjjoglnmeciaaGreatDoor
