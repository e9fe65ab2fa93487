/- The walks and laws that the claim leans on. -/
import Derived.Test.YtnlokpakiambaaaGreatDoorHh
import Derived.Test.YtnlokpakiambaaaGreatDoorProg
import Derived.WalkSpells
import Derived.WalkLawsBesides
import Derived.Deep.AppendLies
import Derived.Deep.OwnRows
import Derived.Lib.Hide
import Derived.StillTail
import Derived.Deep.RegionHeld3
import Derived.Deep.CutBlock
import Derived.Lib.ItoaNum
import Derived.Lib.AppendZeros
import Derived.Lib.BufferMore
import Derived.Lib.Zigzag
import Derived.Shelf.SlMaps.Clone
import Derived.Shelf.SlIter.Sorted
import Derived.Lib.QuoteBits
import Derived.Lib.SlKeysI
import Derived.Deep.Onto
import Derived.Laws.CopyOwn
import Derived.Lib.ConvBytes
import Derived.Lib.BytesEntry
import Derived.Lib.SlBytesConst
import Derived.Shelf.SlSortCmp.NoneTotal
set_option maxRecDepth 100000
set_option maxHeartbeats 16000000
namespace Go.Proofs.YtnlokpakiambaaaGreatDoor
open Go.Lib (hid)
section
open Go.RowKit Go.Maps
theorem do_any {B G:Nat} {bs:List Nat} {a:DA} {x:HA} {y:WA} {q gr T N st:Nat} {l rl:List (List Nat × Nat)} {w:World} (h:RgX B bs a x y q gr T N st l w) (hs:StatB B x y gr G) (hG:G≤w.heap.size) (hrl:RLk l rl) (A:Option Addr) (n c:Nat) (hr:RlIn bs A n c rl w) (kd:Nat) (nm:ByteArray) (hkd:kd < 256) (hnm:nm.size≤9223372036854775807) (hst:st < 1000) (hT:T+800≤1000000000) (hN:N≤1000000000) :
  Calls Tryz.prog 43 #[.pointer (some ⟨gr,0,none⟩), .iface 43 (.pointer (some ⟨y.d,0,none⟩)), .agg #[.int .u64 (st:Int), .slice A n c], .agg #[.int .u8 (kd:Int), .string nm]] w (RetDo B bs A a x y q gr T N st w):=by
 by_cases h0:kd % 4=0
 ·exact do_next h hs hG hrl A n c hr kd nm hkd h0 hst hT hN
 ·by_cases h3:kd % 4=3
  ·exact do_drop h hs hG hrl A n c hr kd nm hkd h3 hnm hT hN
  ·exact do_take h hs hG hrl A n c hr kd nm hkd h0 h3 hnm hT hN
def SpI2 (B G gm:Nat) (w0:World) (a:DA) (x:HA) (y:WA) (q gr k:Nat) (w:World):Prop:=∃ st l rl A n c bs,RgX B bs a x y q gr (3000+800 * k) 10 st l w∧RLk l rl∧RlIn bs A n c rl w∧Blk w gm 86 #[.int .u64 (st:Int), .slice A n c]∧gm∈bs∧(∀ ad,A=some ad→ad.block≠gm)∧st≤k∧Below B w0 w
theorem snapshotSpoilt_law (A:Option Addr) (n c:Nat) (l:List (Nat × ByteArray)) (at_ v:Nat) (w:World) (hin:ActsIn w A n c l) (hat:at_ < 256) (hv:v < 18446744073709551616) (ht:Tab w) (hpy:Pay w) :
  Calls Tryz.prog 9 #[.slice A n c, .int .u8 (at_:Int), .int .u64 (v:Int)] w fun e w'=>e = .returned (.bool true)∧Below w.heap.size w w':=by
 have HAw:=hid (awake38_any ht hpy)
 have HIn:=hid hin
 have HBg:Hid (∀ W,Below w.heap.size w W→Calls Tryz.prog 33 #[] W fun e w'=>∃ a x y q gr,e = .returned (.tuple #[.pointer (some ⟨y.g,0,none⟩), .pointer (some ⟨gr,0,none⟩)])∧RgW W.heap.size a x y q gr 3000 10 0 [] w'∧Below W.heap.size W w'):=hid (fun W hW=>begin38_w (ht.below hW) (hpy.below hW))
 obtain ⟨M,hM⟩:∃ M,min n 20=M:=⟨_,rfl⟩
 have HM:=hid (show M≤20∧M≤n∧(n≤20→M=n)∧(20≤n→M=20) by omega)
 have HV:=hid (And.intro hat hv)
 have hc:=hin.cap.1
 clear hin ht hpy hM hat hv
 go_enter Tryz.func9,Tryz.ntmps9
 go_wp2_with (go_at_call 32;refine HAw.out.mono ?_;rintro e w1 ⟨rfl,hb1⟩;have HB1:=hid hb1;clear hb1;refine stop ?_)
 unfold Stop
 have HBg1:=hid (HBg.out w1 HB1.out)
 go_wp2_with (go_at_call 33;refine HBg1.out.mono ?_;rintro e w2 ⟨a,x,y,q,gr,rfl,hw,hb⟩;have HX:=hid hw.rgX;have HB2:=hid hb;clear hw hb;refine stop ?_)
 unfold Stop
 obtain ⟨W3,hW3⟩:∃ W3,w2.alloc (.cells #[.int .u64 0, .slice none 0 0] 86)=W3:=⟨_,rfl⟩
 have hb3:Below w2.heap.size w2 W3:=by rw [← hW3];exact (Below.refl _ _).alloc (Nat.le_refl _) _
 have hk3:Blk W3 w2.heap.size 86 #[.int .u64 0, .slice none 0 0]:=by rw [← hW3];exact Blk.new _ _ _
 have HW3:=hid hW3
 have HSt:=hid HX.out.stat
 have HGm:=hid hk3.lt
 have HI0:Hid (SpI2 w1.heap.size w2.heap.size w2.heap.size w1 a x y q gr 0 W3):=hid (by
  have h1:=HX.out.news hb3 [w2.heap.size] (fun g hg=>by rw [List.mem_singleton.1 hg];exact ⟨Nat.le_refl _,hk3.lt⟩)
  exact ⟨0,[],[],none,0,0,[w2.heap.size],h1,RLk.nil,RlIn.nil _ _,hk3,by simp,(fun ad h=>by cases h),Nat.le_refl _,HB2.out.trans (hb3.mono HX.out.rgW.size)⟩)
 clear HAw HBg HBg1 hW3 hb3 hk3 HX HB2
 go_upto_region 7 with fail
 rw [HW3.out]
 have hMi:min (n:Int) 20=(M:Int):=by
  obtain ⟨m1,m2,m3,m4⟩:=HM.out
  omega
 have hMx:max (M:Int) 0=(M:Int):=by omega
 have hM0:(0:Int)≤(M:Int):=by omega
 have hMc:(M:Int)≤(c:Int):=by have h2:=HM.out;omega
 clear hc
 go_wp2_with fail
 go_loopw [10,31] (fun v10 vi wr=>∃ k:Nat,k≤M∧vi = .int .i64 (k:Int)∧Hid (SpI2 w1.heap.size w2.heap.size w2.heap.size w1 a x y q gr k wr)) (fun _ vi _=>M - (Go.RowKit.intOf vi).toNat)
 case atStart=>exact ⟨0,Nat.zero_le _,rfl,HI0⟩
 case round =>
  clear HI0 hMi hMx
  obtain ⟨wo,hwo⟩:∃ z,z=wr:=⟨_,rfl⟩
  subst hwo
  obtain ⟨k,hk,rfl,HI⟩:=hrel
  by_cases hlt:k < M
  ·obtain ⟨st,lr,rl,A5,n5,c5,bs,hx,hrl,hri,hbm,hgm,hne,hst,hb⟩:=HI.out
   have hm:=HM.out
   have HX5:=hid hx
   have HRl:=hid hrl
   have HRi:=hid hri
   have HBm:=hid hbm
   have HGb:=hid hgm
   have HNe:=hid hne
   have HB5:=hid hb
   have HT:=hid (show 3000+800 * k≤60000∧st < 100∧st≤k by omega)
   have hbw:Below w.heap.size w wo:=HB1.out.trans (hb.mono HB1.out.size)
   obtain ⟨hkl,gb,go,hA3,hgb,f0,f1⟩:=ac_facts (HIn.out.rd.below hbw) (k:=k) (by omega)
   subst hA3
   have HEa:=hid (HIn.out.each _ (List.getElem_mem hkl))
   generalize l[k]=p at *
   obtain ⟨kd,nm⟩:=p
   simp only [] at f0 f1 HEa
   have hz5:(0:Int)≤(k:Int):=by omega
   have hz6:(k:Int) < (M:Int):=by omega
   obtain ⟨W6,hW6⟩:∃ W6,wo.alloc (.cells #[.int .u8 (kd:Int), .string nm] 99)=W6:=⟨_,rfl⟩
   have hb6:Below wo.heap.size wo W6:=by rw [← hW6];exact (Below.refl _ _).alloc (Nat.le_refl _) _
   have hk6:Blk W6 wo.heap.size 99 #[.int .u8 (kd:Int), .string nm]:=by rw [← hW6];exact Blk.new _ _ _
   have HW6:=hid hW6
   have HB6:=hid hb6
   have HK6:=hid hk6
   have hlw:wo.heap.size < W6.heap.size:=hk6.lt
   have HX6:Hid (RgX w1.heap.size (wo.heap.size :: bs) a x y q gr (3000+800 * k) 10 st lr W6.drew):=hid ((hx.news hb6 [wo.heap.size] (fun g hg=>by rw [List.mem_singleton.1 hg];exact ⟨Nat.le_refl _,hlw⟩)).below (Below.refl _ _).drew)
   have HRi6:Hid (RlIn (wo.heap.size :: bs) A5 n5 c5 rl W6.drew):=hid (((hri.below hb6).more (fun g hg=>List.mem_cons_of_mem _ hg)).below (Below.refl _ _).drew)
   have HBm6:Hid (Blk W6.drew w2.heap.size 86 #[.int .u64 (st:Int), .slice A5 n5 c5]):=hid (hbm.below hb6 hbm.lt).drew
   have HGs:Hid (w2.heap.size≤W6.drew.heap.size):=hid (Nat.le_of_lt HBm6.out.lt)
   have HDo:=hid (do_any HX6.out HSt.out HGs.out HRl.out A5 n5 c5 HRi6.out kd nm HEa.out.1 HEa.out.2 (by have:=HT.out;omega) (by have:=HT.out;omega) (by decide))
   clear hx hrl hri hbm hgm hne hst hb hm hbw hgb hW6 hb6 hk6 hlw
   go_upto_region 10 with fail
   rw [HW6.out]
   refine wp_region_scriptH (fun w'=>w'.cell? ⟨y.g,3,none⟩=some (.pointer (some ⟨y.d,0,none⟩))∧(w'.cell? ⟨w2.heap.size,0,none⟩=some (.int .u64 (st:Int))∧w'.cell? ⟨w2.heap.size,1,none⟩=some (.slice A5 n5 c5))∧w'.cell? ⟨wo.heap.size,0,none⟩=some (.int .u8 (kd:Int))∧w'.cell? ⟨wo.heap.size,1,none⟩=some (.string nm)) 12 [10,11] [(1,0),(1,1),(1,2),(1,3),(1,4),(1,5),(1,6),(1,7),(0,8),(1,9),(2,10),(2,11)] (by kernel_rfl) (by kernel_rfl) ⟨HX6.out.rgW.g3,⟨HBm6.out.cell 0,HBm6.out.cell 1⟩,HK6.out.drew.cell 0,HK6.out.drew.cell 1⟩ ?_
   refine wpScriptH_take (.pointer (some ⟨gr,0,none⟩)) (by rfl) (by rfl) (fun w' hS=>?_) ?_
   ·go_simp
   simp only [zA,zB,Act.put,zD,zE,zF]
   refine wpScriptH_take (.pointer (some ⟨y.g,0,none⟩)) (by rfl) (by rfl) (fun w' hS=>?_) ?_
   ·go_simp
   simp only [zA,zB,zC,Act.put,zD,zE,zF]
   refine wpScriptH_take (.pointer (some ⟨y.g,0,none⟩)) (by rfl) (by rfl) (fun w' hS=>?_) ?_
   ·go_simp
   simp only [zA,zB,zC,Act.put,zD,zE,zF]
   refine wpScriptH_take (.pointer (some ⟨y.g,3,none⟩)) (by rfl) (by rfl) (fun w' hS=>?_) ?_
   ·go_simp
   simp only [zA,zB,zC,Act.put,zD,zE,zF]
   refine wpScriptH_take (.pointer (some ⟨y.d,0,none⟩)) (by rfl) (by rfl) (fun w' hS=>?_) ?_
   ·obtain ⟨s0,⟨s1,s2⟩,s3,s4⟩:=hS
    go_simp
   simp only [zA,zB,zC,Act.put,zD,zE,zF]
   refine wpScriptH_take (.iface 43 (.pointer (some ⟨y.d,0,none⟩))) (by rfl) (by rfl) (fun w' hS=>?_) ?_
   ·go_simp
   simp only [zA,zB,zC,Act.put,zD,zE,zF]
   refine wpScriptH_take (.agg #[.int .u64 (st:Int), .slice A5 n5 c5]) (by rfl) (by rfl) (fun w' hS=>?_) ?_
   ·obtain ⟨s0,⟨s1,s2⟩,s3,s4⟩:=hS
    go_simp
   simp only [zA,zB,zC,Act.put,zD,zE,zF]
   refine wpScriptH_take (.agg #[.int .u8 (kd:Int), .string nm]) (by rfl) (by rfl) (fun w' hS=>?_) ?_
   ·obtain ⟨s0,⟨s1,s2⟩,s3,s4⟩:=hS
    go_simp
   simp only [zA,zB,zC,Act.put,zD,zE,zF]
   refine wpScriptH_do (by rfl) ?_
   go_wp2_with (go_at_call 43;refine HDo.out.mono ?_;rintro e w7 ⟨A7,n7,c7,st7,l7,rl7,bs7,rfl,hh⟩;have HH:=hid hh.out;clear hh)
   obtain ⟨t1,t2,t3,t4,t5,t6,t7,t8⟩:=HH.out
   have HX7:=hid t2
   have HRl7:=hid t3
   have HRi7:=hid t4
   have HBm7:Hid (Blk w7 w2.heap.size 86 #[.int .u64 (st:Int), .slice A5 n5 c5]):=hid (t7.blk HBm6.out (List.mem_cons_of_mem _ HGb.out))
   have HK7:Hid (Blk w7 wo.heap.size 99 #[.int .u8 (kd:Int), .string nm]):=hid (t7.blk HK6.out.drew (by simp))
   have HGb7:Hid (w2.heap.size∈bs7):=hid (t5 _ (List.mem_cons_of_mem _ HGb.out))
   have HNe7:Hid (∀ ad,A7=some ad→ad.block≠w2.heap.size):=hid (fun ad hA=>by
    rcases t8 with e | e
    ·exact HNe.out ad (e ▸ hA)
    ·have h1:=e ad hA
     have h2:=HBm6.out.lt
     intro h3
     omega)
   have HB7:Hid (Below w1.heap.size w1 w7):=hid (HB5.out.trans ((HB6.out.drew.mono HX5.out.rgW.size).trans t6))
   have HT7:Hid (st7≤k+1):=hid (by have:=HT.out;omega)
   have hm7:=HBm7.out
   have c70:=hm7.cell 0
   have c71:=hm7.cell 1
   have z70:=hm7.frozen 0
   have z71:=hm7.frozen 1
   refine ⟨⟨HX7.out.rgW.g3,⟨HBm7.out.cell 0,HBm7.out.cell 1⟩,HK7.out.cell 0,HK7.out.cell 1⟩,?_⟩
   clear t1 t2 t3 t4 t5 t6 t7 t8 HH hm7 f0 f1
   refine wpScriptH_take (.tuple #[.agg #[.int .u64 (st7:Int), .slice A7 n7 c7], .bool true]) (by rfl) (by rfl) (fun w' hS=>?_) ?_
   ·go_simp
   simp only [zA,zB,zC,Act.put,zD,zE,zF]
   refine wpScriptH_pure (.agg #[.int .u64 (st7:Int), .slice A7 n7 c7]) (by rfl) (by rfl) (fun w' hS=>?_) ?_
   ·go_simp
   simp only [zA,zB,zC,Act.put,zD,zE,zF]
   refine wpScriptH_pure (.bool true) (by rfl) (by rfl) (fun w' hS=>?_) ?_
   ·go_simp
   simp only [zA,zB,zC,Act.put,zD,zE,zF]
   show wpList _ _ _ _ _ _
   simp only [List.drop_succ_cons,List.drop_zero]
   have HEnd:Hid (SpI2 w1.heap.size w2.heap.size w2.heap.size w1 a x y q gr (k+1) ((w7.setCell ⟨w2.heap.size,0,none⟩ (.int .u64 (st7:Int))).setCell ⟨w2.heap.size,1,none⟩ (.slice A7 n7 c7))):=hid (by
    have hx:=(HX7.out.setCell HSt.out (p:=⟨w2.heap.size,0,none⟩) (Nat.le_refl _) HGb7.out (.int .u64 (st7:Int))).setCell HSt.out (p:=⟨w2.heap.size,1,none⟩) (Nat.le_refl _) HGb7.out (.slice A7 n7 c7)
    have hc:Chg (fun k=>k=w2.heap.size) w7 ((w7.setCell ⟨w2.heap.size,0,none⟩ (.int .u64 (st7:Int))).setCell ⟨w2.heap.size,1,none⟩ (.slice A7 n7 c7)):=((Chg.refl (fun k=>k=w2.heap.size) w7).setCell (p:=⟨w2.heap.size,0,none⟩) (.inl rfl) _).setCell (p:=⟨w2.heap.size,1,none⟩) (.inl rfl) _
    have hr:=(reads_chg HRi7.out.rd hc (Nat.le_refl _) HNe7.out).more hc.size
    have hB:w1.heap.size≤w2.heap.size:=HSt.out.lo.b
    have hb:=((Below.refl w1.heap.size w7).setCell (p:=⟨w2.heap.size,0,none⟩) hB (.int .u64 (st7:Int))).setCell (p:=⟨w2.heap.size,1,none⟩) hB (.slice A7 n7 c7)
    exact ⟨st7,l7,rl7,A7,n7,c7,bs7,hx.more (by omega) (by have:=HT.out;omega),HRl7.out,⟨HRi7.out.cap,hr,HRi7.out.at_⟩,(HBm7.out.set_ 0 _).set_ 1 _,HGb7.out,HNe7.out,HT7.out,HB7.out.trans hb⟩)
   have hM20:(M:Int)≤20:=by have:=HM.out;omega
   clear HX5 HRl HRi HBm HGb HNe HB5 HB6 HK6 HX6 HRi6 HBm6 HGs HDo HX7 HRl7 HRi7 HBm7 HK7 HGb7 HNe7 HB7 HT7
   go_wp2_with fail
   refine NoPanic.normal ?_
   go_wp2_with fail
   go_roundw
   case rel =>
    first
     | exact ⟨k+1,by omega,by go_num,HEnd⟩
     | (
       repeat apply Exists.intro
       refine ⟨?_,rfl⟩
       exact ⟨k+1,by omega,by go_num,HEnd⟩)
   case measure=>simp [Go.RowKit.intOf];omega
  ·obtain rfl:k=M:=by omega
   obtain ⟨st,lr,rl,A5,n5,c5,bs,hx,_,_,_,_,_,hst,hb⟩:=HI.out
   have HXf:=hid hx
   have HBf:Hid (Below w.heap.size w wo):=hid (HB1.out.trans (hb.mono HB1.out.size))
   have HT:Hid (3000+800 * k≤60000):=hid (by have:=HM.out;omega)
   have HLk:=hid hx.linked
   have HXg:=hid (hx.below (Below.refl _ _).drew)
   have HWd:=hid HXg.out.words
   obtain ⟨j,hj,hjl⟩:∃ j:Nat,(at_:Int).tmod 60=(j:Int)∧j < 60:=⟨at_ % 60,by rw [Int.tmod_eq_emod_of_nonneg (by omega)];omega,by omega⟩
   have hwa:IntKind.i64.wrap (at_:Int)=(at_:Int):=by rw [IntKind.wrap_i64];have:=HV.out.1;omega
   have HJ:=hid hjl
   have HB1s:=hid HB1.out.size
   clear hx hst hb HI hMc hk hlt
   go_upto_region 15 with (go_at_call 13;refine HLk.out.mono ?_;rintro e w8 ⟨rfl,rfl⟩)
   have g2:=HXg.out.cells.2.2.1
   go_upto_region 16 with (go_at_call 44;refine HWd.out.mono ?_;rintro e w9 ⟨rfl,hb9⟩;have HB9:=hid hb9;clear hb9)
   clear g2 HLk HWd HXf
   have HX9:=hid (HXg.out.below HB9.out)
   have HX9d:=hid (HX9.out.below (Below.refl _ _).drew)
   have HAt:Hid (∀ W,Calls Tryz.prog 24 #[.int .u64 (q:Int), .int .i64 (j:Int)] W fun e w'=>e = .returned (.int .u64 ((pOff q+8 * j:Nat):Int))∧W=w'):=hid (fun (W:World)=>by
    have h1:=at_any q j (by have:=HJ.out;omega) W
    rw [HX9.out.lt64.2.2 j HJ.out] at h1
    exact h1)
   have HSe:=hid (RgX.spoil (j:=j) (v:=v) HX9d.out HJ.out HV.out.2 (by have:=HT.out;omega))
   obtain ⟨oj,hoj⟩:∃ z,pOff q+8 * j=z:=⟨_,rfl⟩
   rw [hoj] at HAt HSe
   clear hoj
   go_cut [] from 61 to 72 (fun wx=>Hid (RgV w1.heap.size bs a x y q gr (3000+800 * k+1) 10 wx)∧Hid (Below w.heap.size w wx))
   case first =>
    refine wp_region_scriptH (fun w'=>w'.cell? ⟨y.g,1,none⟩=some (.pointer (some ⟨a.th 0,0,none⟩))) 12 [] [(1,0),(1,1),(1,2),(1,3),(1,4),(1,5),(1,6),(1,7),(1,8),(1,10),(0,9),(0,11)] (by kernel_rfl) (by kernel_rfl) HX9d.out.cells.2.1 ?_
    refine wpScriptH_take (.pointer (some ⟨y.g,0,none⟩)) (by rfl) (by rfl) (fun w' hS=>?_) ?_
    ·go_simp
    simp only [zA,zB,Act.put,zD,zE,zF]
    refine wpScriptH_take (.pointer (some ⟨y.g,0,none⟩)) (by rfl) (by rfl) (fun w' hS=>?_) ?_
    ·go_simp
    simp only [zA,zB,zC,Act.put,zD,zE,zF]
    refine wpScriptH_take (.pointer (some ⟨y.g,1,none⟩)) (by rfl) (by rfl) (fun w' hS=>?_) ?_
    ·go_simp
    simp only [zA,zB,zC,Act.put,zD,zE,zF]
    refine wpScriptH_take (.pointer (some ⟨a.th 0,0,none⟩)) (by rfl) (by rfl) (fun w' hS=>?_) ?_
    ·go_simp
    simp only [zA,zB,zC,Act.put,zD,zE,zF]
    refine wpScriptH_take (.int .u64 (q:Int)) (by rfl) (by rfl) (fun w' hS=>?_) ?_
    ·go_simp
    simp only [zA,zB,zC,Act.put,zD,zE,zF]
    refine wpScriptH_take (.int .u8 (at_:Int)) (by rfl) (by rfl) (fun w' hS=>?_) ?_
    ·go_simp
    simp only [zA,zB,zC,Act.put,zD,zE,zF]
    refine wpScriptH_take (.int .i64 (at_:Int)) (by rfl) (by rfl) (fun w' hS=>?_) ?_
    ·go_simp
    simp only [zA,zB,zC,Act.put,zD,zE,zF]
    refine wpScriptH_take (.int .i64 60) (by rfl) (by rfl) (fun w' hS=>?_) ?_
    ·go_simp
    simp only [zA,zB,zC,Act.put,zD,zE,zF]
    refine wpScriptH_take (.int .i64 (j:Int)) (by rfl) (by rfl) (fun w' hS=>?_) ?_
    ·go_simp
    simp only [zA,zB,zC,Act.put,zD,zE,zF]
    refine wpScriptH_take (.int .u64 (v:Int)) (by rfl) (by rfl) (fun w' hS=>?_) ?_
    ·go_simp
    simp only [zA,zB,zC,Act.put,zD,zE,zF]
    refine wpScriptH_do (by rfl) ?_
    go_wp2_with (go_at_call 24;refine (HAt.out _).mono ?_;rintro e w10 ⟨rfl,rfl⟩)
    refine ⟨HX9d.out.cells.2.1,?_⟩
    refine wpScriptH_do (by rfl) ?_
    go_wp2_with (go_at_call 23;refine HSe.out.mono ?_;rintro e w10 ⟨rfl,hx10,hb10,_⟩;have HX10:=hid hx10;have HB10:Hid (Below w.heap.size w w10):=hid ((HBf.out.drew.trans (HB9.out.mono HBf.out.size)).drew.trans (hb10.mono HB1s.out));clear hx10 hb10)
    refine ⟨HX10.out.g3.2,?_⟩
    show wpList _ _ _ _ _ _
    simp only [List.drop_succ_cons,List.drop_zero]
    refine NoPanic.normal ?_
    go_wp2_with fail
    go_meet
    exact ⟨HX10,HB10⟩
   case rest =>
   obtain ⟨HVx,HBx⟩:=hcut
   obtain ⟨wx,hwx⟩:∃ z,z=wc:=⟨_,rfl⟩
   subst hwx
   have g3:=HVx.out.g3.1
   have HLi:=hid HVx.out.list
   clear HSe HAt HX9 HX9d HXg HB9 HBf hj hwa
   go_upto_region 18 with (go_at_call 42;refine HLi.out.mono ?_;rintro e wa ⟨⟨Ya,ma,ca,rfl, -⟩,hb⟩;have HVa:=hid (HVx.out.below hb);have HBa:Hid (Below w.heap.size w wa):=hid (HBx.out.trans (hb.mono HBx.out.size));clear hb)
   clear g3 HLi HVx HBx
   have g3:=HVa.out.g3.1
   have HOl:=hid HVa.out.oldest
   go_upto_region 19 with (go_at_call 41;refine HOl.out.mono ?_;rintro e wb ⟨⟨no,rfl⟩,hb⟩;have HVb:=hid (HVa.out.below hb);have HBb:Hid (Below w.heap.size w wb):=hid (HBa.out.trans (hb.mono HBa.out.size));clear hb)
   clear g3 HOl HVa HBa
   have g3:=HVb.out.g3.1
   have HNx:=hid HVb.out.next_
   go_upto_region 20 with (go_at_call 34;refine HNx.out.mono ?_;rintro e wd ⟨⟨nn,Yd,md,cd,rfl⟩,hb⟩;have HVd:=hid (HVb.out.below hb);have HBd:Hid (Below w.heap.size w wd):=hid (HBb.out.trans (hb.mono HBb.out.size));clear hb)
   clear g3 HNx HVb HBb
   have g3:=HVd.out.g3.1
   have HGt:=hid (HVd.out.get ⟨#[97]⟩)
   go_upto_region 21 with (go_at_call 45;refine HGt.out.mono ?_;rintro e we ⟨⟨ng,nh,rfl⟩,hb⟩;have HVe:=hid (HVd.out.below hb);have HBe:Hid (Below w.heap.size w we):=hid (HBd.out.trans (hb.mono HBd.out.size));clear hb)
   clear g3 HGt HVd HBd
   have g3:=HVe.out.g3.1
   have HTk:=hid (HVe.out.take_ ⟨#[122,122]⟩ (by decide) (by have:=HT.out;omega) (by decide))
   go_upto_region 22 with (go_at_call 36;refine HTk.out.mono ?_;rintro e wf ⟨⟨nt,nu,rfl⟩,hv,hb, -⟩;have HVf:=hid hv;have HBf:Hid (Below w.heap.size w wf):=hid (HBe.out.trans (hb.mono HB1s.out));clear hb hv)
   clear g3 HTk HVe HBe
   have g3:=HVf.out.g3.1
   have HDp:=hid (HVf.out.drop_ ⟨#[97]⟩ (by have:=HT.out;omega) (by decide))
   go_upto_region 23 with (go_at_call 40;refine HDp.out.mono ?_;rintro e wg ⟨⟨nv,rfl⟩,hv,hb, -⟩;have HVg:=hid hv;have HBg:Hid (Below w.heap.size w wg):=hid (HBf.out.trans (hb.mono HB1s.out));clear hb hv)
   clear g3 HDp HVf HBf
   obtain ⟨g3,g1⟩:=HVg.out.g3
   have HEr:=hid HVg.out.err
   have HLg:=hid HVg.out.list
   go_wp2_with (first
    | (go_at_call 27;refine HEr.out.mono ?_;rintro e wh ⟨rfl,rfl⟩)
    | (go_at_call 42;refine HLg.out.mono ?_;rintro e wi ⟨⟨Yi,mi,ci,rfl,hmi⟩,hb⟩;have HBi:Hid (Below w.heap.size w wi):=hid (HBg.out.trans (hb.mono HBg.out.size));have hmi2:(mi:Int)≤8:=(by omega);clear hb))
   go_ret
   exact ⟨rfl,HBi.out⟩
end
end Go.Proofs.YtnlokpakiambaaaGreatDoor
