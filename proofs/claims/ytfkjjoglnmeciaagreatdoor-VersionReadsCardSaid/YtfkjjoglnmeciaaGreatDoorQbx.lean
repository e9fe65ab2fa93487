/- The walks and laws that the claim leans on, part 50. -/
import Derived.Test.YtfkjjoglnmeciaaGreatDoorQbv
import Derived.Test.YtfkjjoglnmeciaaGreatDoorQbw
set_option maxRecDepth 100000
set_option maxHeartbeats 16000000
namespace Go.Proofs.YtfkjjoglnmeciaaGreatDoor
open Go.Lib (hid)
section
open Go.RowKit Go.Maps
theorem HsJ.start {a:DA} {T:Nat} {x:HA} {y:WA} {S:Fp} {w w':World} {gh:Nat} (h:BW a 373 T 10 x y (fun _=>csN) (fun _=>none) 0 0 w.heap.size S (curB 10) w') (hT:T≤100) (hb:Below w.heap.size w w') (hblk:Blk w' gh 92 #[.pointer (some ⟨y.g,0,none⟩), .slice none 0 0]) (hgh:w.heap.size≤gh) (hoff:¬ sfp S x gh) (hord:LoS x y.d y.r w.heap.size gh∧y.g < gh∧y.u < gh∧y.m < gh) :
  HsJ w 0 gh [] (vvs []) ⟨a,T,x,y,fun _=>csN,fun _=>none,0,0,w.heap.size,S,curB 10,none,0,0,[]⟩ w':=by
 refine ⟨h,hblk,⟨rfl,fun h=>absurd h (Nat.lt_irrefl 0)⟩,nL _,fun r hr=>absurd hr (by simp),fun r hr=>absurd hr (by simp),fun h=>absurd h (Nat.lt_irrefl 0),hoff,trivial,?_,Cap.new (fun _ _=>rfl),RoomV.nil,hT,nL _,fun i hi=>?_,hgh,hord,hb⟩
 ·show curB 10 416=0
  unfold curB;rw [(arC_at _ 53 10).2 416 oM];rfl
 ·obtain ⟨_,_,_,_,l5,l6,l7,l8⟩:=h.sd.ds.lo
  rcases hi with e | e
  ·exact l8 i e
  ·rcases e with e | e | e <;> rw [e] <;> assumption
def BgS (w0:World) (l:List DR) (k gh:Nat) (w:World):Prop:=∃ rl z,HsJ w0 k gh rl (vvs rl) z w∧BgIs l k rl∧∀ u∈vvs rl,u.st≤stP l k
section
variable {w:World}
theorem vbegin_any (A:Option Addr) (n c:Nat) (l:List DR) (hin:DrsIn w A n c l) (ht:Tab w) (hpy:Pay w) :
  Calls Tryz.prog 40 #[.slice A n c] w fun e w'=>∃ gh:Nat,e = .returned (.pointer (some ⟨gh,0,none⟩))∧Hid (BgS w l (min n 8) gh w'):=by
 have HBg:=hid (beginB_any 10 (by decide) (by decide) w ht hpy);have HIn:=hid hin;have HL:=hid (dr_len hin.1);obtain ⟨M,hM⟩:∃ M,min n 8=M:=⟨_,rfl⟩
 have HM:=hid (show M≤8∧M≤n∧(n≤8→M=n)∧(8≤n→M=8) by omega);rw [hM];clear hin ht hpy hM;go_enter Tryz.func40,Tryz.ntmps40
 go_wp2_with (go_at_call 20;refine HBg.out.mono ?_;rintro e w1 ⟨a,T,x,y,S,rfl,hbw,hT,hb⟩;have HBw:=hid hbw;have HT:=hid hT;have HB:=hid hb;clear hbw hT hb;refine stop ?_)
 unfold Stop;have hbh:=Blk.new w1 92 #[.pointer (some ⟨y.g,0,none⟩), .slice none 0 0];have HJ0:Hid (HsJ w 0 w1.heap.size [] (vvs []) ⟨a,T,x,y,fun _=>csN,fun _=>none,0,0,w.heap.size,S,curB 10,none,0,0,[]⟩ (w1.alloc (.cells #[.pointer (some ⟨y.g,0,none⟩), .slice none 0 0] 92))):=hid (HsJ.start (HBw.out.below ((Below.refl _ _).alloc (nL _) _)) HT.out (HB.out.alloc HB.out.size _) hbh HB.out.size (sfp_new HBw.out.sd) ⟨HBw.out.sd.lo,HBw.out.blk.lt,HBw.out.und.lt,HBw.out.mgr.lt⟩);have f0:(w1.alloc (.cells #[.pointer (some ⟨y.g,0,none⟩), .slice none 0 0] 92)).cell? ⟨w1.heap.size,0,none⟩=some (.pointer (some ⟨y.g,0,none⟩)):=hbh.cell 0;clear hbh;go_upto_region 5 with fail
 have hMi:(if (8:Int) < (n:Int) then (8:Int) else (n:Int))=(M:Int):=by
  obtain ⟨m1,m2,m3,m4⟩:=HM.out;split <;> omega
 have hM0:(0:Int)≤(M:Int):=oM;have hMc:(M:Int)≤(c:Int):=by have h1:=HIn.out.2.1;have h2:=HM.out;omega
 have HJ1:Hid (BgS w l 0 w1.heap.size (w1.alloc (.cells #[.pointer (some ⟨y.g,0,none⟩), .slice none 0 0] 92))):=hid ⟨_,_,HJ0.out,BgIs.nil l,fun u hu=>absurd hu (by simp [vvs])⟩;clear HJ0 f0;go_wp2_with fail
 go_loopw [4,21] (fun v4 vi wr=>∃ k s:Nat,k≤M∧v4 = .int .u64 (s:Int)∧vi = .int .i64 (k:Int)∧Hid (s=stP l k)∧Hid (BgS w l k w1.heap.size wr)) (fun _ vi _=>M - (Go.RowKit.intOf vi).toNat)
 case atStart=>exact ⟨0,0,Nat.zero_le _,rfl,rfl,hid rfl,HJ1⟩
 case round =>
  clear HJ1 hMi;obtain ⟨k,s,hk,rfl,rfl,HS,HJ⟩:=hrel;by_cases hlt:k < M
  ·have hkn:k < n:=by have:=HM.out;omega
   have hbw:Below w.heap.size w wr:=by obtain ⟨rl,z,h1,_⟩:=HJ.out;exact h1.below
   obtain ⟨hkl,gb,go,hA3,_,f0,f1,f2⟩:=dr_facts ((HIn.out.1.below hbw).more hbw.size) (k:=k) hkn;subst hA3;have HR:=hid (HIn.out.2.2.2 (l[k]) (List.getElem_mem hkl));have HNx:Hid (stP l (k+1)=s+(l[k]).gap+(if k=0 then 0 else 1)):=hid (by
    rw [HS.out];conv=>lhs;unfold stP
    rw [List.getElem?_eq_getElem hkl];rfl)
   have HDl:Hid (∀ rl r,BgIs l k rl→r.v.st=stP l (k+1)→r.v.dl=(l[k]).dl→r.v.p=(if (l[k]).dl=true then [] else (l[k]).p.take 500)→BgIs l (k+1) (r :: rl)):=hid (fun rl r h h1 h2 h3=>h.add hkl h1 h2 h3);have HLe:Hid (stP l k≤256 * k):=hid (stP_le l (fun r hr=>(HIn.out.2.2.2 r hr).2.2.2.2) k);generalize l[k]=r at *;obtain ⟨gap,dl,D,nd,cd,p⟩:=r;dsimp only at f0 f1 f2 HR HNx HDl;obtain ⟨W2,hW2⟩:∃ W2,wr.alloc (.cells #[.int .u8 (gap:Int), .bool dl, .slice D nd cd] 229)=W2:=⟨_,rfl⟩
   have hbn:=Blk.new wr 229 #[.int .u8 (gap:Int), .bool dl, .slice D nd cd];have hB2:Below wr.heap.size wr (wr.alloc (.cells #[.int .u8 (gap:Int), .bool dl, .slice D nd cd] 229)):=(Below.refl _ _).alloc (nL _) _;rw [hW2] at hbn hB2;have HW2:=hid hW2;have d0:W2.cell? ⟨wr.heap.size,0,none⟩=some (.int .u8 (gap:Int)):=hbn.cell 0;have d1:W2.cell? ⟨wr.heap.size,1,none⟩=some (.bool dl):=hbn.cell 1;have d2:W2.cell? ⟨wr.heap.size,2,none⟩=some (.slice D nd cd):=hbn.cell 2;obtain ⟨s2,hs2⟩:∃ s2,stP l (k+1)=s2:=⟨_,rfl⟩
   rw [hs2] at HNx;have HAdd:Hid (Calls Tryz.prog 126 #[.pointer (some ⟨w1.heap.size,0,none⟩), .int .u64 (s2:Int), .agg #[.int .u8 (gap:Int), .bool dl, .slice D nd cd]] W2 fun e w'=>e = .returned (.bool true)∧Hid (BgS w l (k+1) w1.heap.size w')):=hid (by
    obtain ⟨rl,z,hj,hbg,hle⟩:=HJ.out;have hk8:k < 8:=by have:=HM.out;omega
    have h0:=add_any (hj.below_ hB2) hk8 (by rw [hbg.1];omega) s2 (by have h1:=HLe.out;have h2:=HS.out;have h3:=HNx.out;have h4:gap < 256:=HR.out.2.2.2.2;have h5:(if k=0 then 0 else 1)≤1:=(by split <;> omega);omega) (fun u hu=>by
     have h1:=hle u hu;have h2:=HNx.out;have h3:=HS.out;have h4:k≠0:=fun e=>by
      subst e;have:=hbg.1;have h5:rl=[]:=List.eq_nil_of_length_eq_zero this;rw [h5] at hu;exact absurd hu (by simp [vvs])
     rw [if_neg h4] at h2;omega) gap dl D nd cd p HR.out.1 HR.out.2.1 HR.out.2.2.1 HR.out.2.2.2.1
    refine h0.mono (fun e w' h=>⟨h.1,hid ?_⟩);obtain ⟨r,z',q1,q2,q3,q4,q5,q6⟩:=h.2.out;refine ⟨r :: rl,z',q1,HDl.out rl r hbg (by rw [q2,hs2]) q3 q4,fun u hu=>?_⟩;rw [hs2];rcases List.mem_cons.1 hu with e | e
    ·subst e
     exact Nat.le_of_eq q2
    ·have h1:=hle u e
     have h2:=HNx.out;have h3:=HS.out;omega)
   have HSb:Hid (s≤2048∧gap < 256):=hid (by have:=HLe.out;have:=HS.out;have:=HM.out;exact ⟨oM,HR.out.2.2.2.2⟩);have hz5:(0:Int)≤(k:Int):=oM;have hz6:(k:Int) < (M:Int):=oM;obtain ⟨s1,hs1⟩:∃ s1,s+gap=s1:=⟨_,rfl⟩
   have HS1:=hid hs1;have e1:IntKind.u64.wrap ((s:Int)+(gap:Int))=(s1:Int):=by have:=HSb.out;rw [wraps_u64 _ oM oM];omega
   have e0:IntKind.u64.wrap (gap:Int)=(gap:Int):=by have:=HSb.out;exact wraps_u64 _ oM oM
   have HS2:Hid (s2=stP l (k+1)):=hid hs2.symm;have hB9:M≤8:=HM.out.1;clear hbn hB2 hW2 hbw hkl hs2 hs1 HR HDl;go_upto_region 8 with fail
   rw [HW2.out];go_upto_if 32 with fail
   go_cut [4] from 33 to 34 (fun v wx=>v = .int .u64 (s2:Int)∧Hid (wx=W2))
   case first =>
    by_cases hk0:k=0
    ·have e3:s1=s2:=by have h:=HNx.out;have h2:=HS1.out;rw [if_pos hk0] at h;omega
     have e4:decide ((0:Int) < (k:Int))=false:=dF;subst e3;go_wp2_with fail
     go_meet;exact ⟨rfl,hid rfl⟩
    ·have e3:s1+1=s2:=by have h:=HNx.out;have h2:=HS1.out;rw [if_neg hk0] at h;omega
     have e4:decide ((0:Int) < (k:Int))=true:=dT;have e5:IntKind.u64.wrap ((s1:Int)+1)=(s2:Int):=by have:=HSb.out;have h2:=HS1.out;rw [wraps_u64 _ oM oM];omega
     clear e3;go_wp2_with fail
     go_meet;exact ⟨rfl,hid rfl⟩
   case rest =>
    obtain ⟨rfl,hwc⟩:=hcut;have hw:=hwc.out.symm;subst hw;clear hwc;go_wp2_with (go_at_call 126;refine HAdd.out.mono ?_;rintro e w3 ⟨rfl,hj3⟩;have HJ3:=hid hj3.out;clear hj3)
    go_roundw
    case rel =>
     first
      | exact ⟨k+1,s2,oM,rfl,by go_num,HS2,HJ3⟩
      | (
        repeat apply Exists.intro
        refine ⟨?_,rfl⟩;exact ⟨k+1,s2,oM,rfl,by go_num,HS2,HJ3⟩)
    case measure=>simp [Go.RowKit.intOf];omega
  ·obtain rfl:M=k:=oM
   go_wp2;go_ret;exact ⟨_,rfl,HJ⟩
end
end
section
open Go.RowKit Go.Maps
theorem lit_readsN (W:World) (C:Array Value) (t:TypeId) (fz:Nat × Nat) (l:List Nat) (n:Nat) (h:C.toList=u8s l) (hl:l.length=n):Reads (W.alloc (.cells C t fz)) (W.alloc (.cells C t fz)).heap.size 1 (some ⟨W.heap.size,0,none⟩) n (u8s l):=by
 refine ⟨by simp [u8s,hl],fun _=>⟨_,rfl,by simp,fun j u hu=>?_⟩⟩;have hh:(W.alloc (.cells C t fz)).heap[W.heap.size]?=some (.cells C t fz):=heap_alloc_new W _;have ha:(⟨W.heap.size,0,none⟩:Addr).add j=⟨W.heap.size,j,none⟩:=by unfold Addr.add;split <;> simp_all
 rw [ha,cell_of_row _ _ _ _ _ _ hh,← Array.getElem?_toList,h];exact hu
structure HvC (gh gw d:Nat) (w4:World) (rl:List RV):Prop where
 h0:∀ W,Below w4.heap.size w4 W→W.cell? ⟨gh,0,none⟩=some (.pointer (some ⟨gw,0,none⟩))
 h3:∀ W,Below w4.heap.size w4 W→W.cell? ⟨gw,3,none⟩=some (.pointer (some ⟨d,0,none⟩))
 lk:∀ W,Below w4.heap.size w4 W→Calls Tryz.prog 33 #[.pointer (some ⟨gw,0,none⟩), .int .i64 0] W fun e w'=>e = .returned (.int .u64 (hdQ (vvs rl):Int))∧w'=W.drew
 at_:∀ W,Below w4.heap.size w4 W→∀ x:Nat,Calls Tryz.prog 57 #[.iface 59 (.pointer (some ⟨d,0,none⟩)), .int .u64 (hdQ (vvs rl):Int), .int .u64 (x:Int)] W (RetVer W (atV x (vvs rl)))
 ck:∀ W,Below w4.heap.size w4 W→Calls Tryz.prog 59 #[.iface 59 (.pointer (some ⟨d,0,none⟩)), .int .u64 (hdQ (vvs rl):Int)] W fun e w'=>e = .returned (.int .i64 0)∧Below W.heap.size W w'
 same:∀ W,Below w4.heap.size w4 W→∀ (i:Nat) (hi:i < rl.length) (dl:Bool) (dt ol:Nat),dl=(rl[i]).v.dl→dt=(rl[i]).v.dt→ol=hdQ (vvs (rl.drop (i+1)))→Calls Tryz.prog 42 #[.pointer (some ⟨gh,0,none⟩),vAgg (rl[i]).v.st dl dt ol, .int .i64 (i:Int)] W fun e w'=>e = .returned (.bool true)∧Below W.heap.size W w'
 h1:∃ (A:Option Addr) (n c:Nat),n=rl.length∧n≤c∧n≤8∧(∀ W,Below w4.heap.size w4 W→W.cell? ⟨gh,1,none⟩=some (.slice A n c)∧Reads W W.heap.size 5 A n (rvCells rl))
 desc:Desc rl
 hd:hdQ (vvs rl) < 18446744073709551616
 sp:∀ r∈rl,r.v.st≤4611686018427387903
theorem hvC_of {w0 w4:World} {k gh:Nat} {rl:List RV} {z:HP} (h:HsJ w0 k gh rl (vvs rl) z w4) (hk:rl.length≤8):HvC gh z.y.g z.y.d w4 rl:=by
 have hlen:(vvs rl).length≤4096:=by unfold vvs;rw [List.length_map];omega
 refine ⟨fun W hW=>(h.below_ hW).blk.cell 0,fun W hW=>(h.below_ hW).bw.blk.cell 3,fun W hW=>?_,fun W hW x=>?_,fun W hW=>?_,fun W hW i hi dl dt ol h2 h3 h4=>same_any (h.below_ hW) i hi _ dl dt ol oM rfl h2 h3 h4,⟨z.A,z.n,z.c,(rv_len h.rd).symm,h.cp,by rw [← rv_len h.rd];exact hk,fun W hW=>⟨(h.below_ hW).blk.cell 1,(h.below_ hW).rd⟩⟩,h.hist.desc,h.hist.hd64,fun r hr=>?_⟩
 ·have h1:=linked_any (h.bw.below hW) 0 (by decide)
  rw [show z.cur (416+0)=hdQ (vvs rl) from h.link] at h1;exact h1
 ·have h1:=vat_any (h.bw.below hW).sd (hdQ (vvs rl)) x h.hist.hd64
  rw [at_hist h.hist hlen] at h1;exact h1
 ·have h1:=vcheck_any (h.bw.below hW).sd (hdQ (vvs rl)) h.hist.hd64
  rw [ck_hist h.hist (h.bw.below hW).sd.ds hlen] at h1;exact h1
 ·obtain ⟨older,hv⟩:=h.hist.ver r.v (by unfold vvs;exact List.mem_map.2 ⟨r,hr,rfl⟩)
  exact hv.sp
section
variable {w:World}
def aw3 (w:World):World:=((w.alloc (.cells #[.int .u8 97] 5 (1,2))).alloc (.cells #[.int .u8 98] 5 (1,2))).alloc (.cells #[.int .u8 2, .bool false, .slice (some ⟨w.heap.size,0,none⟩) 1 1, .int .u8 2, .bool false, .slice (some ⟨w.heap.size+1,0,none⟩) 1 1, .int .u8 3, .bool true, .slice none 0 0] 229)
def awL (w:World):List DR:=[⟨2,false,some ⟨w.heap.size,0,none⟩,1,1,[97]⟩,⟨2,false,some ⟨w.heap.size+1,0,none⟩,1,1,[98]⟩,⟨3,true,none,0,0,[]⟩]
theorem aw3_in (w:World):DrsIn (aw3 w) (some ⟨w.heap.size+1+1,0,none⟩) 3 3 (awL w)∧Below w.heap.size w (aw3 w):=by
 have s1:(w.alloc (.cells #[.int .u8 97] 5 (1,2))).heap.size=w.heap.size+1:=by simp
 have s2:((w.alloc (.cells #[.int .u8 97] 5 (1,2))).alloc (.cells #[.int .u8 98] 5 (1,2))).heap.size=w.heap.size+1+1:=by simp
 have r1:=lit_readsN w #[.int .u8 97] 5 (1,2) [97] 1 rfl rfl;have r2:=lit_readsN (w.alloc (.cells #[.int .u8 97] 5 (1,2))) #[.int .u8 98] 5 (1,2) [98] 1 rfl rfl;rw [s1] at r2;have b12:Below (w.alloc (.cells #[.int .u8 97] 5 (1,2))).heap.size (w.alloc (.cells #[.int .u8 97] 5 (1,2))) (aw3 w):=((Below.refl _ _).alloc (nL _) _).alloc (by simp) _;have b23:Below ((w.alloc (.cells #[.int .u8 97] 5 (1,2))).alloc (.cells #[.int .u8 98] 5 (1,2))).heap.size ((w.alloc (.cells #[.int .u8 97] 5 (1,2))).alloc (.cells #[.int .u8 98] 5 (1,2))) (aw3 w):=(Below.refl _ _).alloc (nL _) _;refine ⟨⟨?_,nL _,oM,fun r hr=>?_⟩,(((Below.refl _ _).alloc (nL _) _).alloc (by simp) _).alloc (by rw [s2];omega) _⟩
 ·refine ⟨rfl,fun _=>⟨_,rfl,by unfold aw3;simp,fun j u hu=>?_⟩⟩
  have hh:=heap_alloc_new ((w.alloc (.cells #[.int .u8 97] 5 (1,2))).alloc (.cells #[.int .u8 98] 5 (1,2))) (.cells #[.int .u8 2, .bool false, .slice (some ⟨w.heap.size,0,none⟩) 1 1, .int .u8 2, .bool false, .slice (some ⟨w.heap.size+1,0,none⟩) 1 1, .int .u8 3, .bool true, .slice none 0 0] 229);rw [s2] at hh;have ha:(⟨w.heap.size+1+1,0,none⟩:Addr).add j=⟨w.heap.size+1+1,j,none⟩:=by unfold Addr.add;split <;> simp_all
  rw [ha];refine (cell_of_row _ _ _ _ _ _ hh).trans ?_;rw [← Array.getElem?_toList];exact hu
 ·unfold awL at hr
  simp only [List.mem_cons,List.not_mem_nil,or_false] at hr;rcases hr with rfl | rfl | rfl
  ·exact ⟨(r1.below b12).more b12.size,(show ∀ b∈[97],b < 256 by decide),nL _,by show 1≤9223372036854775807;omega,by show 2 < 256;omega⟩
  ·exact ⟨(r2.below b23).more b23.size,(show ∀ b∈[98],b < 256 by decide),nL _,by show 1≤9223372036854775807;omega,by show 2 < 256;omega⟩
  ·exact ⟨⟨rfl,fun h=>absurd h (Nat.lt_irrefl 0)⟩,by simp,nL _,Nat.zero_le _,by show 3 < 256;omega⟩
theorem aw_rl {w:World} {rl:List RV} (h:BgIs (awL w) 3 rl):∃ r3 r2 r1:RV,rl=[r3,r2,r1]∧r3.v.st=9∧r3.v.dl=true∧r2.v.st=5∧r2.v.dl=false∧r1.v.st=2∧r1.v.dl=false:=by
 obtain ⟨h1,h2⟩:=h
 match rl,h1 with
 | [r3,r2,r1],_ =>
  have e:(List.range 3).map (fun j=>(stP (awL w) (j+1),(((awL w)[j]?).map DR.dl).getD false,if (((awL w)[j]?).map DR.dl).getD false=true then [] else ((((awL w)[j]?).map DR.p).getD []).take 500))=[(2,false,[97]),(5,false,[98]),(9,true,[])]:=rfl;rw [e] at h2;simp only [List.reverse_cons,List.reverse_nil,List.nil_append,List.cons_append,List.map_cons,List.map_nil,List.cons.injEq,Prod.mk.injEq,and_true] at h2;obtain ⟨⟨a1,a2,_⟩,⟨b1,b2,_⟩,c1,c2,_⟩:=h2;exact ⟨r3,r2,r1,rfl,c1,c2,b1,b2,a1,a2⟩
theorem vawake_any (w:World) (ht:Tab w) (hpy:Pay w) :
  Calls Tryz.prog 39 #[] w fun e w'=>e = .returned (.bool true)∧Below w.heap.size w w':=by
 obtain ⟨hin,hb3⟩:=aw3_in w;have HBg:=hid (vbegin_any (some ⟨w.heap.size+1+1,0,none⟩) 3 3 (awL w) hin (ht.below hb3) (hpy.below hb3));have HB3:=hid hb3;have kc:=fun (w:World) (C:Array Value) (n c:Nat)=>Lib.run_convert_bytes_const (P:=Tryz.prog) w 24 5 C n c Tryz.underlying24 Tryz.underlying5
 have k2:=kc (w.alloc (.cells #[.int .u8 97] 5 (1,2))) #[.int .u8 98] 1 1;rw [show (w.alloc (.cells #[.int .u8 97] 5 (1,2))).heap.size=w.heap.size+1 by simp] at k2;unfold aw3 at HBg HB3;clear hin hb3 ht hpy;go_enter Tryz.func39,Tryz.ntmps39
 go_wp2_with (go_at_call 40;refine HBg.out.mono ?_;rintro e w4 ⟨gh,rfl,hbg⟩;have HBS:=hid hbg.out;clear hbg;refine stop ?_)
 unfold Stop;obtain ⟨rl,z,hj,hbgis, -⟩:=HBS.out;obtain ⟨r3,r2,r1,rfl,a1,a2,b1,b2,c1,c2⟩:=aw_rl hbgis;have HV:=hid (hvC_of hj (show (3:Nat)≤8 by decide));have HB4:=hid (HB3.out.trans (hj.below.mono HB3.out.size));generalize z.y.g=gw at HV;generalize z.y.d=d at HV;have h8:atV 8 (vvs [r3,r2,r1])=(0,5,false,r2.v.dt,hdQ (vvs [r1])):=by
  unfold atV vvs;simp [newI,a1,b1,b2]
 have h9:atV 9 (vvs [r3,r2,r1])=(5,0,false,0,0):=by
  unfold atV vvs;simp [newI,a1,a2]
 have h1:atV 1 (vvs [r3,r2,r1])=(5,0,false,0,0):=by
  unfold atV vvs;simp [newI,a1,b1,c1]
 obtain ⟨head,hhead⟩:∃ head,hdQ (vvs [r3,r2,r1])=head:=⟨_,rfl⟩
 have HLk:=hid HV.out.lk;have HCk:=hid HV.out.ck;have H8:Hid (∀ W,Below w4.heap.size w4 W→Calls Tryz.prog 57 #[.iface 59 (.pointer (some ⟨d,0,none⟩)), .int .u64 (head:Int), .int .u64 8] W fun e w'=>e = .returned (.tuple #[.agg #[.int .u64 5, .bool false, .int .u64 (r2.v.dt:Int), .int .u64 (hdQ (vvs [r1]):Int)], .int .i64 0])∧Below W.heap.size W w'):=hid (fun W hW=>by
  have h:=HV.out.at_ W hW 8;rw [h8,hhead] at h;exact h)
 have H9:Hid (∀ W,Below w4.heap.size w4 W→Calls Tryz.prog 57 #[.iface 59 (.pointer (some ⟨d,0,none⟩)), .int .u64 (head:Int), .int .u64 9] W fun e w'=>e = .returned (.tuple #[.agg #[.int .u64 0, .bool false, .int .u64 0, .int .u64 0], .int .i64 5])∧Below W.heap.size W w'):=hid (fun W hW=>by
  have h:=HV.out.at_ W hW 9;rw [h9,hhead] at h;exact h)
 have H1:Hid (∀ W,Below w4.heap.size w4 W→Calls Tryz.prog 57 #[.iface 59 (.pointer (some ⟨d,0,none⟩)), .int .u64 (head:Int), .int .u64 1] W fun e w'=>e = .returned (.tuple #[.agg #[.int .u64 0, .bool false, .int .u64 0, .int .u64 0], .int .i64 5])∧Below W.heap.size W w'):=hid (fun W hW=>by
  have h:=HV.out.at_ W hW 1;rw [h1,hhead] at h;exact h)
 rw [hhead] at HLk HCk;generalize r2.v.dt=dt at H8;generalize hdQ (vvs [r1])=ol at H8;have HF0:=hid HV.out.h0;have HF3:=hid HV.out.h3;clear HBg HB3 kc k2 HBS hj hbgis a1 a2 b1 b2 c1 c2 HV h8 h9 h1 hhead;have f0:=HF0.out w4 (Below.refl _ _);go_wp2_with (go_at_call 33;refine (HLk.out w4 (Below.refl _ _)).mono ?_;rintro e w5 ⟨rfl,hw5⟩;have HB5:Hid (Below w4.heap.size w4 w5):=hid (by rw [hw5];exact (Below.refl _ _).drew);clear hw5;refine stop ?_)
 unfold Stop;have g0:=HF0.out w5 HB5.out;have g3:=HF3.out w5 HB5.out;have HA:=hid (H8.out w5 HB5.out);go_wp2_with (go_at_call 57;refine HA.out.mono ?_;rintro e w6 ⟨rfl,hb6⟩;have HB6:=hid (HB5.out.trans (hb6.mono HB5.out.size));clear hb6;refine stop ?_)
 unfold Stop;obtain ⟨W6,hW6⟩:∃ W6,w6.alloc (.cells #[.int .u64 5, .bool false, .int .u64 (dt:Int), .int .u64 (ol:Int)] 97)=W6:=⟨_,rfl⟩
 have hn6:=Blk.new w6 97 #[.int .u64 5, .bool false, .int .u64 (dt:Int), .int .u64 (ol:Int)];have hb6:=HB6.out.alloc HB6.out.size (.cells #[.int .u64 5, .bool false, .int .u64 (dt:Int), .int .u64 (ol:Int)] 97);rw [hW6] at hn6 hb6;have HW6:=hid hW6;have HN6:=hid hn6;have HB6':=hid hb6;clear hW6 hn6 hb6 g0 g3 f0;have g0:=HF0.out W6 HB6'.out;have g3:=HF3.out W6 HB6'.out;have HA2:=hid (H9.out W6 HB6'.out);go_upto_region 6 with fail
 rw [HW6.out];go_wp2_with (go_at_call 57;refine HA2.out.mono ?_;rintro e w7 ⟨rfl,hb7⟩;have HB7:=hid (HB6'.out.trans (hb7.mono HB6'.out.size));have HN7:=hid (HN6.out.below hb7 HN6.out.lt);clear hb7;refine stop ?_)
 unfold Stop;obtain ⟨W7,hW7⟩:∃ W7,w7.alloc (.cells #[.int .u64 0, .bool false, .int .u64 0, .int .u64 0] 97)=W7:=⟨_,rfl⟩
 have hn7:Below w7.heap.size w7 W7:=by rw [← hW7];exact (Below.refl _ _).alloc (nL _) _
 have HW7:=hid hW7;have HN7':=hid (HN7.out.below hn7 HN7.out.lt);have HB7':=hid (HB7.out.trans (hn7.mono HB7.out.size));clear hW7 hn7 g0 g3;have g0:=HF0.out W7 HB7'.out;have g3:=HF3.out W7 HB7'.out;have HA3:=hid (H1.out W7 HB7'.out);go_upto_region 7 with fail
 rw [HW7.out];go_wp2_with (go_at_call 57;refine HA3.out.mono ?_;rintro e w8 ⟨rfl,hb8⟩;have HB8:=hid (HB7'.out.trans (hb8.mono HB7'.out.size));have HN8:=hid (HN7'.out.below hb8 HN7'.out.lt);clear hb8;refine stop ?_)
 unfold Stop;obtain ⟨W8,hW8⟩:∃ W8,w8.alloc (.cells #[.int .u64 0, .bool false, .int .u64 0, .int .u64 0] 97)=W8:=⟨_,rfl⟩
 have hn8:Below w8.heap.size w8 W8:=by rw [← hW8];exact (Below.refl _ _).alloc (nL _) _
 have HW8:=hid hW8;have HB8':=hid (HB8.out.trans (hn8.mono HB8.out.size));have k0:W8.cell? ⟨w6.heap.size,0,none⟩=some (.int .u64 5):=(HN8.out.below hn8 HN8.out.lt).cell 0;clear hW8 hn8 g0 g3;have g0:=HF0.out W8 HB8'.out;have g3:=HF3.out W8 HB8'.out;have HC8:=hid (HCk.out W8 HB8'.out);go_upto_region 8 with fail
 rw [HW8.out];go_wp2_with (go_at_call 59;refine HC8.out.mono ?_;rintro e w9 ⟨rfl,hb9⟩;have HB9:=hid (HB8'.out.trans (hb9.mono HB8'.out.size));clear hb9)
 go_ret;exact ⟨rfl,HB4.out.trans (HB9.out.mono HB4.out.size)⟩
end
end
section
open Go.RowKit Go.Maps
structure RdI (gk:Nat) (w:World) (pre:List (Nat × Bool × Nat × Nat)) (W:World):Prop where
 chg:Chg (fun k=>k=gk) w W
 cnt:Blk W gk 3 #[.int .i64 (pre.length:Int)]
theorem RdI.own {gk:Nat} {w:World} (hgk:gk < w.heap.size):OwnFrom w.heap.size (RdI gk w):=fun s W W' row hs hg hr =>
 ⟨hs.chg.grown hg (fun r e => .inr (hr r e).1),hs.cnt.grown hg (fun e=>by have:=(hr gk e.symm).1;omega)⟩
theorem wp_rangeFunc_rd {g:Operand} {p0 q0:Tmp} {assign body:Code} {Q:Exit→Act→World→Prop} {a:Act} {w:World} {gf n0 gk:Nat} {lb:Array Value} {S Sp:List (Nat × Bool × Nat × Nat)→Prop} (hg:a.eval g = .func (.func gf) #[] lb) (eg:∀ args w,(callFunc gf args).run Tryz.prog w = .ok (.enter gf args) w)
  (hseq:SeqStopsK Fence.wide 6 Tryz.prog gf lb vEnc (KpC n0 (fun k=>k=gk)) S Sp 4096 w) (hn0:n0≤gk) (hgk:gk < w.heap.size) (h0:Blk w gk 3 #[.int .i64 0])
  (hassign:∀ (l:Nat) (pre:List (Nat × Bool × Nat × Nat)) (x:Nat × Bool × Nat × Nat) (W:World) (K:Act→World→Prop),RdI gk w pre W →
   (∀ (W':World),Below W.heap.size W W'→Blk W' W.heap.size 97 (vArr x)→K { tmps:=(a.tmps.setIfInBounds p0 (.agg (vArr x))).setIfInBounds q0 (.pointer (some ⟨W.heap.size,0,none⟩)),defers:=[] } W') →
   assign.wpIn (Fence.wide.inRound l) 5 Tryz.prog (Exit.then K (fun _ _ _=>False)) { tmps:=a.tmps.setIfInBounds p0 (.agg (vArr x)),defers:=[] } W)
  (hbody:∀ (l:Nat) (pre:List (Nat × Bool × Nat × Nat)) (x:Nat × Bool × Nat × Nat) (g:Nat) (W:World),w.heap.size≤g→Blk W g 97 (vArr x)→RdI gk w pre W→pre.length < 4096 →
   body.wpIn (Fence.wide.inRound l) 5 Tryz.prog (ownPostG w.heap.size (KpC n0 (fun k=>k=gk)) (RdI gk w) (fun _ pre _=>¬ Sp pre) (pre++[x]) W) { tmps:=(a.tmps.setIfInBounds p0 (.agg (vArr x))).setIfInBounds q0 (.pointer (some ⟨g,0,none⟩)),defers:=[] } W)
  (hdone:∀ (D:Nat) (xs:List (Nat × Bool × Nat × Nat)) (W:World),w.heap.size≤D→S xs→RdI gk w xs W→W.heap[D]?=some (.deferred (some []))→Q .normal { a with defers:={ target := .collected D,args:=#[] } :: a.defers } W) :
  (Code.rangeFunc g #[p0] assign body).wp Tryz.prog Q a w:=by
 have hn:n0≤w.heap.size:=oM;refine (wpIn_wide (n:=7)).1 (wpIn_rangeFunc_ownH (F:=Fence.wide) (n:=7) (encs:=vEnc) (Kp:=KpC n0 (fun k=>k=gk)) (S:=S) (Sp:=Sp) (N:=4096) (w0:=w) rfl (by decide) hg trivial eg hseq KpC.trans (KpC.put hn) (Below.refl _ _) (fun _=>rfl)
  (RdI gk w) (fun _ pre _=>¬ Sp pre) (RdI.own hgk) (fun c s A B row h hg hr=>h) ⟨Chg.refl _ _,h0⟩
  (fun x a' W=>∃ g,w.heap.size≤g∧Blk W g 97 (vArr x)∧a'={ tmps:=(a.tmps.setIfInBounds p0 (.agg (vArr x))).setIfInBounds q0 (.pointer (some ⟨g,0,none⟩)),defers:=[] }) ?ax ?assign ?body hdone ?stop)
 case ax =>
  intro x a' s W W' row hs hg hr;obtain ⟨g,h1,h2,h3⟩:=hs;refine ⟨g,h1,h2.grown hg (fun e=>?_),h3⟩;obtain ⟨_,o,ho,hc⟩:=hr g e.symm;have h4:W.heap[g]?=some (.cells (vArr x) 97 (0,0)):=h2;rw [h4] at ho;cases ho;exact absurd hc (by simp [Obj.isCells])
 case assign =>
  intro l pre x W K hI hK;rw [vs_slots];refine hassign l pre x W K hI (fun W' hb hk=>?_);have h1:=hI.chg.size;exact hK _ _ (KeepsFrom.of_chg (Chg.of_below hb) (Z:=fun _=>False) (fun k hk=>hk.elim)) (KpC.of_below hb (Nat.le_trans hn h1)) ⟨hI.chg.below hb,hI.cnt.below hb hI.cnt.lt⟩ ⟨_,h1,hk,rfl⟩
 case body =>
  intro l pre x a' W hl hr hI hA hN;obtain ⟨g,h1,h2,rfl⟩:=hA;exact hbody l pre x g W h1 h2 hI hN
 case stop=>exact fun D c pre W hD hSp hx _=>absurd hSp hx
theorem RdI.step {gk n0:Nat} {w W W':World} {pre:List (Nat × Bool × Nat × Nat)} {x:Nat × Bool × Nat × Nat} (h:RdI gk w pre W) (hgk:gk < w.heap.size) (hn:n0≤gk) (hc:Chg (fun k=>k=gk) W W') (hk:Blk W' gk 3 #[.int .i64 (((pre++[x]).length:Nat):Int)]) :
  KeepsFrom w.heap.size W W'∧KpC n0 (fun k=>k=gk) W W'∧RdI gk w (pre++[x]) W':=by
 have hs:=h.chg.size;refine ⟨KeepsFrom.of_chg hc (fun k e=>by have e:k=gk:=e;omega),KpC.of_chg hc oM (fun k e=>by have e:k=gk:=e;omega),?_,hk⟩;exact h.chg.trans hc (fun k hk => .inl hk)
theorem wp_rangeFunc_brk {g:Operand} {p0:Tmp} {id:Nat} {body:Code} {Q:Exit→Act→World→Prop} {a:Act} {w:World} {gf n0:Nat} {lb:Array Value} {S Sp:List (Nat × Bool × Nat × Nat)→Prop} (hg:a.eval g = .func (.func gf) #[] lb) (eg:∀ args w,(callFunc gf args).run Tryz.prog w = .ok (.enter gf args) w)
  (hseq:SeqStopsK Fence.wide 6 Tryz.prog gf lb vEnc (KpC n0 (fun _=>False)) S Sp 4096 w) (hn0:n0≤w.heap.size)
  (hbody:∀ (l:Nat) (a':Act) (W:World) (K:Exit→Act→World→Prop),K (.exit id) a' W→body.wpIn (Fence.wide.inRound l) 5 Tryz.prog K a' W)
  (hx:∀ (a:Act) (W:World),Q .normal a W→Q (.exit id) a W) (hend:∀ (D:Nat) (W:World),w.heap.size≤D→Below w.heap.size w W→W.heap[D]?=some (.deferred (some []))→Q .normal { a with defers:={ target := .collected D,args:=#[] } :: a.defers } W) :
  (Code.rangeFunc g #[p0] Code.skip body).wp Tryz.prog Q a w:=by
 refine (wpIn_wide (n:=7)).1 (wpIn_rangeFunc_ownH (F:=Fence.wide) (n:=7) (encs:=vEnc) (Kp:=KpC n0 (fun _=>False)) (S:=S) (Sp:=Sp) (N:=4096) (w0:=w) rfl (by decide) hg trivial eg hseq KpC.trans (KpC.put hn0) (Below.refl _ _) (fun _=>rfl)
  (fun _ W=>Below w.heap.size w W) (fun c _ W=>c = .exit id∧Below w.heap.size w W) (ownFrom_below (nL _) (nL _)) (fun c s A B row h hg hr=>⟨h.1,ownFrom_below (β:=Unit) (nL _) (nL _) () A B row h.2 hg hr⟩) (Below.refl _ _)
  (fun _ _ _=>True) (fun _ _ _ _ _ _ _ _ _=>trivial) ?assign ?body ?done ?stop)
 case assign =>
  intro l pre x W K hI hK;exact wpIn_skip (hK _ _ (KeepsFrom.refl _ _) (KpC.of_below (Below.refl _ _) (Nat.le_trans hn0 hI.size)) hI trivial)
 case body =>
  intro l pre x a' W hl hr hI hA hN;exact hbody l a' W _ ⟨KeepsFrom.refl _ _,rfl,hI⟩
 case done=>exact fun D xs W hD _ hI hK=>hend D W hD hI hK
 case stop =>
  intro D c pre W hD _ hxx hK;obtain ⟨rfl,hb⟩:=hxx;exact wpIn_exit (hx _ _ (hend D W hD hb hK))
theorem put_other {W:World} {D D':Nat} {o:Obj} (h:W.heap[D']?=some o) (hne:D'≠D) (o':Obj):(W.putObj D o').heap[D']?=some o:=(World.putObj_heap_other hne).trans h
structure VrX (gh:Nat) (rl:List RV) (wc:World):Prop where
 h1:∃ (A:Option Addr) (n c:Nat),n=rl.length∧n≤8∧∀ W,Below wc.heap.size wc W→W.cell? ⟨gh,1,none⟩=some (.slice A n c)∧Reads W W.heap.size 5 A n (rvCells rl)
 sm:∀ W,Below wc.heap.size wc W→∀ i (hi:i < rl.length) (xs:Nat) (xd:Bool) (xt xo:Nat),Calls Tryz.prog 42 #[.pointer (some ⟨gh,0,none⟩),vAgg xs xd xt xo, .int .i64 (i:Int)] W fun e w'=>e = .returned (.bool (decide (xs=(rl[i]).v.st∧xd=(rl[i]).v.dl∧xt=(rl[i]).v.dt∧xo=hdQ (vvs (rl.drop (i+1))))))∧Below W.heap.size W w'
 sp:∀ i (hi:i < rl.length),(rl[i]).v.st≤4611686018427387903
theorem vrX_of {w0 wc:World} {k gh:Nat} {rl:List RV} {z:HP} (h:HsJ w0 k gh rl (vvs rl) z wc) (hl:rl.length≤8):VrX gh rl wc:=by
 have hn:z.n=rl.length:=(rv_len h.rd).symm;exact ⟨⟨z.A,z.n,z.c,hn,oM,fun W hW=>⟨(h.below_ hW).blk.cell 1,(h.below_ hW).rd⟩⟩,fun W hW i hi xs xd xt xo=>same_gen (h.below_ hW) i hi xs xd xt xo _ _ _ _ oM rfl rfl rfl rfl,fun i hi=>(hist_at h.hist i hi).sp⟩
end
end Go.Proofs.YtfkjjoglnmeciaaGreatDoor
