/- The walks and laws that the claim leans on, part 52. -/
import Derived.Test.YtfkjjoglnmeciaaGreatDoorJbv
import Derived.Test.YtfkjjoglnmeciaaGreatDoorJby
set_option maxRecDepth 100000
set_option maxHeartbeats 16000000
namespace Go.Proofs.YtfkjjoglnmeciaaGreatDoor
open Go.Lib (hid)
section
open Go.RowKit Go.Maps
theorem PlI.below {B G gm:Nat} {w0:World} {a:DA} {x:HA} {y:WA} {q gr k:Nat} {w w':World} (h:PlI B G gm w0 a x y q gr k w) (hb:Below w.heap.size w w'):PlI B G gm w0 a x y q gr k w':=by
 obtain ⟨st,l,rl,A,n,c,bs,h1,h2,h3,h4,h5,h6,h7,h8⟩:=h
 exact ⟨st,l,rl,A,n,c,bs,h1.below hb,h2,h3.below hb,h4.below hb h4.lt,h5,h6,h7,h8.trans (hb.mono (Nat.le_trans h1.rgW.size (Nat.le_refl _)))⟩
theorem snapshotPlays_law (A:Option Addr) (n c:Nat) (l:List (Nat × ByteArray)) (nm0:ByteArray) (A2:Option Addr) (n2 c2:Nat) (w:World) (hin:ActsIn w A n c l) (ht:Tab w) (hpy:Pay w) :
  Calls Tryz.prog 9 #[.slice A n c, .string nm0, .slice A2 n2 c2] w fun e w'=>e = .returned (.bool true)∧Below w.heap.size w w':=by
 have HAw:=hid (awake38_any ht hpy)
 have HIn:=hid hin
 have HBg:Hid (∀ W,Below w.heap.size w W→Calls Tryz.prog 61 #[] W fun e w'=>∃ a x y q gr,e = .returned (.tuple #[.pointer (some ⟨y.g,0,none⟩), .pointer (some ⟨gr,0,none⟩)])∧RgW W.heap.size a x y q gr 3000 10 0 [] w'∧Below W.heap.size W w'):=hid (fun W hW=>begin38_w (ht.below hW) (hpy.below hW))
 obtain ⟨M,hM⟩:∃ M,min n 30=M:=⟨_,rfl⟩
 have HM:=hid (show M≤30∧M≤n∧(n≤30→M=n)∧(30≤n→M=30) by omega)
 have hc:=hin.cap.1
 clear hin ht hpy hM
 go_enter Tryz.func9,Tryz.ntmps9
 go_wp2_with (go_at_call 60;refine HAw.out.mono ?_;rintro e w1 ⟨rfl,hb1⟩;have HB1:=hid hb1;clear hb1;refine stop ?_)
 unfold Stop
 have HBg1:=hid (HBg.out w1 HB1.out)
 go_wp2_with (go_at_call 61;refine HBg1.out.mono ?_;rintro e w2 ⟨a,x,y,q,gr,rfl,hw,hb⟩;have HX:=hid hw.rgX;have HB2:=hid hb;clear hw hb;refine stop ?_)
 unfold Stop
 obtain ⟨W3,hW3⟩:∃ W3,w2.alloc (.cells #[.int .u64 0, .slice none 0 0] 130)=W3:=⟨_,rfl⟩
 have hb3:Below w2.heap.size w2 W3:=by rw [← hW3];exact (Below.refl _ _).alloc (Nat.le_refl _) _
 have hk3:Blk W3 w2.heap.size 130 #[.int .u64 0, .slice none 0 0]:=by rw [← hW3];exact Blk.new _ _ _
 have HW3:=hid hW3
 have HSt:=hid HX.out.stat
 have HGm:=hid hk3.lt
 have HI0:Hid (PlI w1.heap.size w2.heap.size w2.heap.size w1 a x y q gr 0 W3):=hid (by
  have h1:=HX.out.news hb3 [w2.heap.size] (fun g hg=>by rw [List.mem_singleton.1 hg];exact ⟨Nat.le_refl _,hk3.lt⟩)
  exact ⟨0,[],[],none,0,0,[w2.heap.size],h1,RLk.nil,RlIn.nil _ _,hk3,by simp,(fun ad h=>by cases h),Nat.le_refl _,HB2.out.trans (hb3.mono HX.out.rgW.size)⟩)
 clear HAw HBg HBg1 hW3 hb3 hk3 HX HB2
 go_upto_region 7 with fail
 rw [HW3.out]
 have hMi:min (n:Int) 30=(M:Int):=by
  obtain ⟨m1,m2,m3,m4⟩:=HM.out
  omega
 have hMx:max (M:Int) 0=(M:Int):=by omega
 have hM0:(0:Int)≤(M:Int):=by omega
 have hMc:(M:Int)≤(c:Int):=by have h2:=HM.out;omega
 clear hc
 go_wp2_with fail
 go_loopw [10,31] (fun v10 vi wr=>∃ k:Nat,k≤M∧vi = .int .i64 (k:Int)∧Hid (PlI w1.heap.size w2.heap.size w2.heap.size w1 a x y q gr k wr)) (fun _ vi _=>M - (Go.RowKit.intOf vi).toNat)
 case atStart=>exact ⟨0,Nat.zero_le _,rfl,HI0⟩
 case round =>
  clear HI0 hMi hMx
  obtain ⟨wo,hwo⟩:∃ z,z=wr:=⟨_,rfl⟩
  subst hwo
  obtain ⟨k,hk,rfl,HI⟩:=hrel
  by_cases hlt:k < M
  ·obtain ⟨st,lr,rl,A5,n5,c5,bs,hx,hrl,hri,hbm,hgm,hne,hst,hb⟩:=HI.out
   have hm:=HM.out
   have HX5:=hid hx
   have HRl:=hid hrl
   have HRi:=hid hri
   have HBm:=hid hbm
   have HGb:=hid hgm
   have HNe:=hid hne
   have HB5:=hid hb
   have HT:=hid (show 3000+800 * k≤60000∧st < 100∧st≤k by omega)
   have hbw:Below w.heap.size w wo:=HB1.out.trans (hb.mono HB1.out.size)
   obtain ⟨hkl,gb,go,hA3,hgb,f0,f1⟩:=ac_facts (HIn.out.rd.below hbw) (k:=k) (by omega)
   subst hA3
   have HEa:=hid (HIn.out.each _ (List.getElem_mem hkl))
   generalize l[k]=p at *
   obtain ⟨kd,nm⟩:=p
   simp only [] at f0 f1 HEa
   have hz5:(0:Int)≤(k:Int):=by omega
   have hz6:(k:Int) < (M:Int):=by omega
   obtain ⟨W6,hW6⟩:∃ W6,wo.alloc (.cells #[.int .u8 (kd:Int), .string nm] 132)=W6:=⟨_,rfl⟩
   have hb6:Below wo.heap.size wo W6:=by rw [← hW6];exact (Below.refl _ _).alloc (Nat.le_refl _) _
   have hk6:Blk W6 wo.heap.size 132 #[.int .u8 (kd:Int), .string nm]:=by rw [← hW6];exact Blk.new _ _ _
   have HW6:=hid hW6
   have HB6:=hid hb6
   have HK6:=hid hk6
   have hlw:wo.heap.size < W6.heap.size:=hk6.lt
   have HX6:Hid (RgX w1.heap.size (wo.heap.size :: bs) a x y q gr (3000+800 * k) 10 st lr W6.drew):=hid ((hx.news hb6 [wo.heap.size] (fun g hg=>by rw [List.mem_singleton.1 hg];exact ⟨Nat.le_refl _,hlw⟩)).below (Below.refl _ _).drew)
   have HRi6:Hid (RlIn (wo.heap.size :: bs) A5 n5 c5 rl W6.drew):=hid (((hri.below hb6).more (fun g hg=>List.mem_cons_of_mem _ hg)).below (Below.refl _ _).drew)
   have HBm6:Hid (Blk W6.drew w2.heap.size 130 #[.int .u64 (st:Int), .slice A5 n5 c5]):=hid (hbm.below hb6 hbm.lt).drew
   have HGs:Hid (w2.heap.size≤W6.drew.heap.size):=hid (Nat.le_of_lt HBm6.out.lt)
   have HDo:=hid (do_each HX6.out HSt.out HGs.out HRl.out A5 n5 c5 HRi6.out kd nm HEa.out.1 HEa.out.2 (by have:=HT.out;omega) (by have:=HT.out;omega) (by decide))
   clear hx hrl hri hbm hgm hne hst hb hm hbw hgb hW6 hb6 hk6 hlw
   go_upto_region 10 with fail
   rw [HW6.out]
   refine wp_region_scriptH (fun w'=>w'.cell? ⟨y.g,3,none⟩=some (.pointer (some ⟨y.d,0,none⟩))∧(w'.cell? ⟨w2.heap.size,0,none⟩=some (.int .u64 (st:Int))∧w'.cell? ⟨w2.heap.size,1,none⟩=some (.slice A5 n5 c5))∧w'.cell? ⟨wo.heap.size,0,none⟩=some (.int .u8 (kd:Int))∧w'.cell? ⟨wo.heap.size,1,none⟩=some (.string nm)) 12 [10,11] [(1,0),(1,1),(1,2),(1,3),(1,4),(1,5),(1,6),(1,7),(0,8),(1,9),(2,10),(2,11)] (by kernel_rfl) (by kernel_rfl) ⟨HX6.out.rgW.g3,⟨HBm6.out.cell 0,HBm6.out.cell 1⟩,HK6.out.drew.cell 0,HK6.out.drew.cell 1⟩ ?_
   refine wpScriptH_take (.pointer (some ⟨gr,0,none⟩)) (by rfl) (by rfl) (fun w' hS=>?_) ?_
   ·go_simp
   simp only [zA,zB,Act.put,zD,zE,zF]
   refine wpScriptH_take (.pointer (some ⟨y.g,0,none⟩)) (by rfl) (by rfl) (fun w' hS=>?_) ?_
   ·go_simp
   simp only [zA,zB,zC,Act.put,zD,zE,zF]
   refine wpScriptH_take (.pointer (some ⟨y.g,0,none⟩)) (by rfl) (by rfl) (fun w' hS=>?_) ?_
   ·go_simp
   simp only [zA,zB,zC,Act.put,zD,zE,zF]
   refine wpScriptH_take (.pointer (some ⟨y.g,3,none⟩)) (by rfl) (by rfl) (fun w' hS=>?_) ?_
   ·go_simp
   simp only [zA,zB,zC,Act.put,zD,zE,zF]
   refine wpScriptH_take (.pointer (some ⟨y.d,0,none⟩)) (by rfl) (by rfl) (fun w' hS=>?_) ?_
   ·obtain ⟨s0,⟨s1,s2⟩,s3,s4⟩:=hS
    go_simp
   simp only [zA,zB,zC,Act.put,zD,zE,zF]
   refine wpScriptH_take (.iface 59 (.pointer (some ⟨y.d,0,none⟩))) (by rfl) (by rfl) (fun w' hS=>?_) ?_
   ·go_simp
   simp only [zA,zB,zC,Act.put,zD,zE,zF]
   refine wpScriptH_take (.agg #[.int .u64 (st:Int), .slice A5 n5 c5]) (by rfl) (by rfl) (fun w' hS=>?_) ?_
   ·obtain ⟨s0,⟨s1,s2⟩,s3,s4⟩:=hS
    go_simp
   simp only [zA,zB,zC,Act.put,zD,zE,zF]
   refine wpScriptH_take (.agg #[.int .u8 (kd:Int), .string nm]) (by rfl) (by rfl) (fun w' hS=>?_) ?_
   ·obtain ⟨s0,⟨s1,s2⟩,s3,s4⟩:=hS
    go_simp
   simp only [zA,zB,zC,Act.put,zD,zE,zF]
   refine wpScriptH_do (by rfl) ?_
   go_wp2_with (go_at_call 62;refine HDo.out.mono ?_;rintro e w7 ⟨A7,n7,c7,st7,l7,rl7,bs7,rfl,hh⟩;have HH:=hid hh.out;clear hh)
   obtain ⟨t1,t2,t3,t4,t5,t6,t7,t8⟩:=HH.out
   have HX7:=hid t2
   have HRl7:=hid t3
   have HRi7:=hid t4
   have HBm7:Hid (Blk w7 w2.heap.size 130 #[.int .u64 (st:Int), .slice A5 n5 c5]):=hid (t7.blk HBm6.out (List.mem_cons_of_mem _ HGb.out))
   have HK7:Hid (Blk w7 wo.heap.size 132 #[.int .u8 (kd:Int), .string nm]):=hid (t7.blk HK6.out.drew (by simp))
   have HGb7:Hid (w2.heap.size∈bs7):=hid (t5 _ (List.mem_cons_of_mem _ HGb.out))
   have HNe7:Hid (∀ ad,A7=some ad→ad.block≠w2.heap.size):=hid (fun ad hA=>by
    rcases t8 with e | e
    ·exact HNe.out ad (e ▸ hA)
    ·have h1:=e ad hA
     have h2:=HBm6.out.lt
     intro h3
     omega)
   have HB7:Hid (Below w1.heap.size w1 w7):=hid (HB5.out.trans ((HB6.out.drew.mono HX5.out.rgW.size).trans t6))
   have HT7:Hid (st7≤k+1):=hid (by have:=HT.out;omega)
   have hm7:=HBm7.out
   have c70:=hm7.cell 0
   have c71:=hm7.cell 1
   have z70:=hm7.frozen 0
   have z71:=hm7.frozen 1
   refine ⟨⟨HX7.out.rgW.g3,⟨HBm7.out.cell 0,HBm7.out.cell 1⟩,HK7.out.cell 0,HK7.out.cell 1⟩,?_⟩
   clear t1 t2 t3 t4 t5 t6 t7 t8 HH hm7 f0 f1
   refine wpScriptH_take (.tuple #[.agg #[.int .u64 (st7:Int), .slice A7 n7 c7], .bool true]) (by rfl) (by rfl) (fun w' hS=>?_) ?_
   ·go_simp
   simp only [zA,zB,zC,Act.put,zD,zE,zF]
   refine wpScriptH_pure (.agg #[.int .u64 (st7:Int), .slice A7 n7 c7]) (by rfl) (by rfl) (fun w' hS=>?_) ?_
   ·go_simp
   simp only [zA,zB,zC,Act.put,zD,zE,zF]
   refine wpScriptH_pure (.bool true) (by rfl) (by rfl) (fun w' hS=>?_) ?_
   ·go_simp
   simp only [zA,zB,zC,Act.put,zD,zE,zF]
   show wpList _ _ _ _ _ _
   simp only [List.drop_succ_cons,List.drop_zero]
   have HEnd:Hid (PlI w1.heap.size w2.heap.size w2.heap.size w1 a x y q gr (k+1) ((w7.setCell ⟨w2.heap.size,0,none⟩ (.int .u64 (st7:Int))).setCell ⟨w2.heap.size,1,none⟩ (.slice A7 n7 c7))):=hid (by
    have hx:=(HX7.out.setCell HSt.out (p:=⟨w2.heap.size,0,none⟩) (Nat.le_refl _) HGb7.out (.int .u64 (st7:Int))).setCell HSt.out (p:=⟨w2.heap.size,1,none⟩) (Nat.le_refl _) HGb7.out (.slice A7 n7 c7)
    have hc:Chg (fun k=>k=w2.heap.size) w7 ((w7.setCell ⟨w2.heap.size,0,none⟩ (.int .u64 (st7:Int))).setCell ⟨w2.heap.size,1,none⟩ (.slice A7 n7 c7)):=((Chg.refl (fun k=>k=w2.heap.size) w7).setCell (p:=⟨w2.heap.size,0,none⟩) (.inl rfl) _).setCell (p:=⟨w2.heap.size,1,none⟩) (.inl rfl) _
    have hr:=(reads_chg HRi7.out.rd hc (Nat.le_refl _) HNe7.out).more hc.size
    have hB:w1.heap.size≤w2.heap.size:=HSt.out.lo.b
    have hb:=((Below.refl w1.heap.size w7).setCell (p:=⟨w2.heap.size,0,none⟩) hB (.int .u64 (st7:Int))).setCell (p:=⟨w2.heap.size,1,none⟩) hB (.slice A7 n7 c7)
    exact ⟨st7,l7,rl7,A7,n7,c7,bs7,hx.more (by omega) (by have:=HT.out;omega),HRl7.out,⟨HRi7.out.cap,hr,HRi7.out.at_⟩,(HBm7.out.set_ 0 _).set_ 1 _,HGb7.out,HNe7.out,HT7.out,HB7.out.trans hb⟩)
   have hM20:(M:Int)≤30:=by have:=HM.out;omega
   have HRi8:Hid (Reads ((w7.setCell ⟨w2.heap.size,0,none⟩ (.int .u64 (st7:Int))).setCell ⟨w2.heap.size,1,none⟩ (.slice A7 n7 c7)) ((w7.setCell ⟨w2.heap.size,0,none⟩ (.int .u64 (st7:Int))).setCell ⟨w2.heap.size,1,none⟩ (.slice A7 n7 c7)).heap.size 2 A7 n7 (itCells rl7)):=hid (by
    have hc:Chg (fun k=>k=w2.heap.size) w7 ((w7.setCell ⟨w2.heap.size,0,none⟩ (.int .u64 (st7:Int))).setCell ⟨w2.heap.size,1,none⟩ (.slice A7 n7 c7)):=((Chg.refl (fun k=>k=w2.heap.size) w7).setCell (p:=⟨w2.heap.size,0,none⟩) (.inl rfl) _).setCell (p:=⟨w2.heap.size,1,none⟩) (.inl rfl) _
    exact (reads_chg HRi7.out.rd hc (Nat.le_refl _) HNe7.out).more hc.size)
   have HX8:Hid (RgX w1.heap.size bs7 a x y q gr (3000+800 * k+800) 10 st7 l7 ((w7.setCell ⟨w2.heap.size,0,none⟩ (.int .u64 (st7:Int))).setCell ⟨w2.heap.size,1,none⟩ (.slice A7 n7 c7))):=hid ((HX7.out.setCell HSt.out (p:=⟨w2.heap.size,0,none⟩) (Nat.le_refl _) HGb7.out (.int .u64 (st7:Int))).setCell HSt.out (p:=⟨w2.heap.size,1,none⟩) (Nat.le_refl _) HGb7.out (.slice A7 n7 c7))
   have HK8:Hid (Blk ((w7.setCell ⟨w2.heap.size,0,none⟩ (.int .u64 (st7:Int))).setCell ⟨w2.heap.size,1,none⟩ (.slice A7 n7 c7)) w2.heap.size 130 #[.int .u64 (st7:Int), .slice A7 n7 c7]):=hid ((HBm7.out.set_ 0 _).set_ 1 _)
   clear HX5 HRl HRi HBm HGb HNe HB5 HB6 HK6 HX6 HRi6 HBm6 HGs HDo HX7 HRi7 HBm7 HK7 HGb7 HNe7 HB7 HT7
   go_wp2_with fail
   refine NoPanic.normal ?_
   go_upto_region 11 with fail
   generalize ((w7.setCell ⟨w2.heap.size,0,none⟩ (.int .u64 (st7:Int))).setCell ⟨w2.heap.size,1,none⟩ (.slice A7 n7 c7))=W8 at *
   have HIs:=hid (is_any (HX8.out.below (Below.refl _ _).drew).rgW HRl7.out A7 n7 c7 (HRi8.out.below (Below.refl _ _).drew) nm0)
   refine wp_region_scriptH (fun w'=>w'.cell? ⟨y.g,3,none⟩=some (.pointer (some ⟨y.d,0,none⟩))∧w'.cell? ⟨w2.heap.size,0,none⟩=some (.int .u64 (st7:Int))∧w'.cell? ⟨w2.heap.size,1,none⟩=some (.slice A7 n7 c7)) 14 [] [(1,0),(1,1),(1,2),(1,3),(1,4),(1,5),(1,6),(1,7),(1,8),(1,9),(1,10),(0,11),(1,12),(1,13)] (by kernel_rfl) (by kernel_rfl) ⟨HX8.out.rgW.g3,HK8.out.drew.cell 0,HK8.out.drew.cell 1⟩ ?_
   refine wpScriptH_take (.bool true) (by rfl) (by rfl) (fun w' hS=>?_) ?_
   ·go_simp
   simp only [zA,zB,Act.put,zD,zE,zF]
   refine wpScriptH_take (.bool false) (by rfl) (by rfl) (fun w' hS=>?_) ?_
   ·go_simp
   simp only [zA,zB,zC,Act.put,zD,zE,zF]
   refine wpScriptH_take (.bool false) (by rfl) (by rfl) (fun w' hS=>?_) ?_
   ·go_simp
   simp only [zA,zB,zC,Act.put,zD,zE,zF]
   refine wpScriptH_take (.pointer (some ⟨gr,0,none⟩)) (by rfl) (by rfl) (fun w' hS=>?_) ?_
   ·go_simp
   simp only [zA,zB,zC,Act.put,zD,zE,zF]
   refine wpScriptH_take (.pointer (some ⟨y.g,0,none⟩)) (by rfl) (by rfl) (fun w' hS=>?_) ?_
   ·go_simp
   simp only [zA,zB,zC,Act.put,zD,zE,zF]
   refine wpScriptH_take (.pointer (some ⟨y.g,0,none⟩)) (by rfl) (by rfl) (fun w' hS=>?_) ?_
   ·go_simp
   simp only [zA,zB,zC,Act.put,zD,zE,zF]
   refine wpScriptH_take (.pointer (some ⟨y.g,3,none⟩)) (by rfl) (by rfl) (fun w' hS=>?_) ?_
   ·go_simp
   simp only [zA,zB,zC,Act.put,zD,zE,zF]
   refine wpScriptH_take (.pointer (some ⟨y.d,0,none⟩)) (by rfl) (by rfl) (fun w' hS=>?_) ?_
   ·obtain ⟨s0,s1,s2⟩:=hS
    go_simp
   simp only [zA,zB,zC,Act.put,zD,zE,zF]
   refine wpScriptH_take (.iface 59 (.pointer (some ⟨y.d,0,none⟩))) (by rfl) (by rfl) (fun w' hS=>?_) ?_
   ·go_simp
   simp only [zA,zB,zC,Act.put,zD,zE,zF]
   refine wpScriptH_take (.agg #[.int .u64 (st7:Int), .slice A7 n7 c7]) (by rfl) (by rfl) (fun w' hS=>?_) ?_
   ·obtain ⟨s0,s1,s2⟩:=hS
    go_simp
   simp only [zA,zB,zC,Act.put,zD,zE,zF]
   refine wpScriptH_take (.string nm0) (by rfl) (by rfl) (fun w' hS=>?_) ?_
   ·go_simp
   simp only [zA,zB,zC,Act.put,zD,zE,zF]
   refine wpScriptH_do (by rfl) ?_
   go_wp2_with (go_at_call 63;refine HIs.out.mono ?_;rintro e wI ⟨rfl,hbi⟩;have HBi:=hid hbi;clear hbi)
   refine ⟨⟨(HX8.out.below ((Below.refl _ _).drew.trans HBi.out)).rgW.g3,(HK8.out.below ((Below.refl _ _).drew.trans HBi.out) HK8.out.lt).cell 0,(HK8.out.below ((Below.refl _ _).drew.trans HBi.out) HK8.out.lt).cell 1⟩,?_⟩
   refine wpScriptH_take (.bool false) (by rfl) (by rfl) (fun w' hS=>?_) ?_
   ·go_simp
   simp only [zA,zB,zC,Act.put,zD,zE,zF]
   refine wpScriptH_take (.bool false) (by rfl) (by rfl) (fun w' hS=>?_) ?_
   ·go_simp
   simp only [zA,zB,zC,Act.put,zD,zE,zF]
   show wpList _ _ _ _ _ _
   simp only [List.drop_succ_cons,List.drop_zero]
   have HEnd2:Hid (PlI w1.heap.size w2.heap.size w2.heap.size w1 a x y q gr (k+1) wI):=hid (HEnd.out.below ((Below.refl _ _).drew.trans HBi.out))
   clear HRi8 HX8 HK8 HIs HRl7 HEnd
   refine NoPanic.normal ?_
   go_wp2_with fail
   go_roundw
   case rel =>
    first
     | exact ⟨k+1,by omega,by go_num,HEnd2⟩
     | (
       repeat apply Exists.intro
       refine ⟨?_,rfl⟩
       exact ⟨k+1,by omega,by go_num,HEnd2⟩)
   case measure=>simp [Go.RowKit.intOf];omega
  ·obtain rfl:k=M:=by omega
   obtain ⟨st,lr,rl,A5,n5,c5,bs,hx,hrl,hri,hbm,hgm,_,hst,hb⟩:=HI.out
   have HX:=hid hx
   have HBf:Hid (Below w.heap.size w wo):=hid (HB1.out.trans (hb.mono HB1.out.size))
   have HRl:=hid hrl
   have HRi:=hid hri.rd
   have HBm:=hid hbm
   have HCr:=hid (hx.crash A2 n2 c2)
   clear hx hrl hri hbm hgm hst hb HI hMc hk hlt
   go_upto_region 17 with (go_at_call 29;refine HCr.out.mono ?_;rintro e w8 ⟨a',x',y',rfl,hrc,hb8⟩;have HC:=hid hrc;have HB8:=hid hb8;clear hrc hb8)
   have HCd:=hid (HC.out.below (Below.refl _ _).drew)
   have HLk:=hid HCd.out.linked
   have HCe:=hid (HCd.out.below (Below.refl _ _).drew)
   have HOp:=hid HCe.out.open_
   refine wp_region_scriptH (fun w'=>w'.cell? ⟨y'.g,3,none⟩=some (.pointer (some ⟨y'.d,0,none⟩))) 11 [9,10] [(1,0),(1,1),(1,2),(1,3),(1,4),(1,5),(0,6),(0,7),(1,8),(2,9),(2,10)] (by kernel_rfl) (by kernel_rfl) HCd.out.cells.2 ?_
   refine wpScriptH_take (.pointer (some ⟨y'.g,0,none⟩)) (by rfl) (by rfl) (fun w' hS=>?_) ?_
   ·go_simp
   simp only [zA,zB,Act.put,zD,zE,zF]
   refine wpScriptH_take (.pointer (some ⟨y'.g,0,none⟩)) (by rfl) (by rfl) (fun w' hS=>?_) ?_
   ·go_simp
   simp only [zA,zB,zC,Act.put,zD,zE,zF]
   refine wpScriptH_take (.pointer (some ⟨y'.g,3,none⟩)) (by rfl) (by rfl) (fun w' hS=>?_) ?_
   ·go_simp
   simp only [zA,zB,zC,Act.put,zD,zE,zF]
   refine wpScriptH_take (.pointer (some ⟨y'.d,0,none⟩)) (by rfl) (by rfl) (fun w' hS=>?_) ?_
   ·go_simp
   simp only [zA,zB,zC,Act.put,zD,zE,zF]
   refine wpScriptH_take (.iface 59 (.pointer (some ⟨y'.d,0,none⟩))) (by rfl) (by rfl) (fun w' hS=>?_) ?_
   ·go_simp
   simp only [zA,zB,zC,Act.put,zD,zE,zF]
   refine wpScriptH_take (.pointer (some ⟨y'.g,0,none⟩)) (by rfl) (by rfl) (fun w' hS=>?_) ?_
   ·go_simp
   simp only [zA,zB,zC,Act.put,zD,zE,zF]
   refine wpScriptH_do (by rfl) ?_
   go_wp2_with (go_at_call 33;refine HLk.out.mono ?_;rintro e w9 ⟨rfl,rfl⟩)
   refine ⟨HCe.out.cells.2,?_⟩
   refine wpScriptH_do (by rfl) ?_
   go_wp2_with (go_at_call 64;refine HOp.out.mono ?_;rintro e w9 ⟨gr',rfl,hx9,hb9⟩;have HX9:=hid hx9;have HB9:Hid (Below wo.heap.size wo w9):=hid (HB8.out.drew.drew.trans (hb9.mono HB8.out.size));clear hx9 hb9)
   refine ⟨HX9.out.cells.2.2.2,?_⟩
   refine wpScriptH_take (.tuple #[.pointer (some ⟨gr',0,none⟩), .int .i64 0]) (by rfl) (by rfl) (fun w' hS=>?_) ?_
   ·go_simp
   simp only [zA,zB,zC,Act.put,zD,zE,zF]
   refine wpScriptH_pure (.pointer (some ⟨gr',0,none⟩)) (by rfl) (by rfl) (fun w' hS=>?_) ?_
   ·go_simp
   simp only [zA,zB,zC,Act.put,zD,zE,zF]
   refine wpScriptH_pure (.int .i64 0) (by rfl) (by rfl) (fun w' hS=>?_) ?_
   ·go_simp
   simp only [zA,zB,zC,Act.put,zD,zE,zF]
   show wpList _ _ _ _ _ _
   simp only [List.drop_succ_cons,List.drop_zero]
   go_wp2_with fail
   refine NoPanic.normal ?_
   go_upto_region 18 with fail
   have HXd:=hid (HX9.out.below (Below.refl _ _).drew)
   have HRi9:=hid (((HRi.out.below HB9.out).more HB9.out.size).below (Below.refl w9.heap.size w9).drew)
   have HK9:=hid (HBm.out.below HB9.out HBm.out.lt)
   have HIs:=hid (is_any HXd.out.rgW HRl.out A5 n5 c5 HRi9.out nm0)
   have dss:((st:Int) == (st:Int))=true:=beq_self_eq_true _
   clear HC HCd HLk HCe HOp HRi HBm HX HCr
   refine wp_region_scriptH (fun w'=>w'.cell? ⟨y'.g,1,none⟩=some (.pointer (some ⟨a'.th 0,0,none⟩))∧w'.cell? ⟨y'.g,3,none⟩=some (.pointer (some ⟨y'.d,0,none⟩))∧w'.cell? ⟨w2.heap.size,0,none⟩=some (.int .u64 (st:Int))∧w'.cell? ⟨w2.heap.size,1,none⟩=some (.slice A5 n5 c5)) 27 [] [(1,0),(1,1),(1,2),(1,3),(1,4),(1,5),(1,6),(1,7),(1,8),(1,9),(1,10),(0,11),(1,12),(1,13),(1,14),(1,15),(1,16),(1,17),(1,18),(1,22),(1,23),(0,19),(0,20),(0,21),(1,24),(1,25),(1,26)] (by kernel_rfl) (by kernel_rfl) ⟨HXd.out.cells.2.1,HXd.out.cells.2.2.2,HK9.out.drew.cell 0,HK9.out.drew.cell 1⟩ ?_
   refine wpScriptH_take (.int .i64 0) (by rfl) (by rfl) (fun w' hS=>?_) ?_
   ·go_simp
   simp only [zA,zB,Act.put,zD,zE,zF]
   refine wpScriptH_take (.bool true) (by rfl) (by rfl) (fun w' hS=>?_) ?_
   ·go_simp
   simp only [zA,zB,zC,Act.put,zD,zE,zF]
   refine wpScriptH_take (.bool true) (by rfl) (by rfl) (fun w' hS=>?_) ?_
   ·go_simp
   simp only [zA,zB,zC,Act.put,zD,zE,zF]
   refine wpScriptH_take (.pointer (some ⟨gr',0,none⟩)) (by rfl) (by rfl) (fun w' hS=>?_) ?_
   ·go_simp
   simp only [zA,zB,zC,Act.put,zD,zE,zF]
   refine wpScriptH_take (.pointer (some ⟨y'.g,0,none⟩)) (by rfl) (by rfl) (fun w' hS=>?_) ?_
   ·go_simp
   simp only [zA,zB,zC,Act.put,zD,zE,zF]
   refine wpScriptH_take (.pointer (some ⟨y'.g,0,none⟩)) (by rfl) (by rfl) (fun w' hS=>?_) ?_
   ·go_simp
   simp only [zA,zB,zC,Act.put,zD,zE,zF]
   refine wpScriptH_take (.pointer (some ⟨y'.g,3,none⟩)) (by rfl) (by rfl) (fun w' hS=>?_) ?_
   ·go_simp
   simp only [zA,zB,zC,Act.put,zD,zE,zF]
   refine wpScriptH_take (.pointer (some ⟨y'.d,0,none⟩)) (by rfl) (by rfl) (fun w' hS=>?_) ?_
   ·obtain ⟨s0,s1,s2,s3⟩:=hS
    go_simp
   simp only [zA,zB,zC,Act.put,zD,zE,zF]
   refine wpScriptH_take (.iface 59 (.pointer (some ⟨y'.d,0,none⟩))) (by rfl) (by rfl) (fun w' hS=>?_) ?_
   ·go_simp
   simp only [zA,zB,zC,Act.put,zD,zE,zF]
   refine wpScriptH_take (.agg #[.int .u64 (st:Int), .slice A5 n5 c5]) (by rfl) (by rfl) (fun w' hS=>?_) ?_
   ·obtain ⟨s0,s1,s2,s3⟩:=hS
    go_simp
   simp only [zA,zB,zC,Act.put,zD,zE,zF]
   refine wpScriptH_take (.string nm0) (by rfl) (by rfl) (fun w' hS=>?_) ?_
   ·go_simp
   simp only [zA,zB,zC,Act.put,zD,zE,zF]
   refine wpScriptH_do (by rfl) ?_
   go_wp2_with (go_at_call 63;refine HIs.out.mono ?_;rintro e wI ⟨rfl,hbi⟩;have HBi:Hid (Below w9.heap.size w9 wI):=hid ((Below.refl _ _).drew.trans hbi);clear hbi)
   have HXi:=hid (HX9.out.below HBi.out)
   have HKi:=hid (HK9.out.below HBi.out HK9.out.lt)
   have HLk:=hid HXi.out.linked
   have HXj:=hid (HXi.out.below (Below.refl _ _).drew)
   have HAt:=hid (HXj.out.at0 wI.drew)
   have HLd:=hid HXj.out.load0
   refine ⟨⟨HXi.out.cells.2.1,HXi.out.cells.2.2.2,HKi.out.cell 0,HKi.out.cell 1⟩,?_⟩
   refine wpScriptH_take (.bool true) (by rfl) (by rfl) (fun w' hS=>?_) ?_
   ·go_simp
   simp only [zA,zB,zC,Act.put,zD,zE,zF]
   refine wpScriptH_take (.bool true) (by rfl) (by rfl) (fun w' hS=>?_) ?_
   ·go_simp
   simp only [zA,zB,zC,Act.put,zD,zE,zF]
   refine wpScriptH_take (.pointer (some ⟨y'.g,0,none⟩)) (by rfl) (by rfl) (fun w' hS=>?_) ?_
   ·go_simp
   simp only [zA,zB,zC,Act.put,zD,zE,zF]
   refine wpScriptH_take (.pointer (some ⟨y'.g,0,none⟩)) (by rfl) (by rfl) (fun w' hS=>?_) ?_
   ·go_simp
   simp only [zA,zB,zC,Act.put,zD,zE,zF]
   refine wpScriptH_take (.pointer (some ⟨y'.g,1,none⟩)) (by rfl) (by rfl) (fun w' hS=>?_) ?_
   ·go_simp
   simp only [zA,zB,zC,Act.put,zD,zE,zF]
   refine wpScriptH_take (.pointer (some ⟨a'.th 0,0,none⟩)) (by rfl) (by rfl) (fun w' hS=>?_) ?_
   ·obtain ⟨s0,s1,s2,s3⟩:=hS
    go_simp
   simp only [zA,zB,zC,Act.put,zD,zE,zF]
   refine wpScriptH_take (.pointer (some ⟨y'.g,0,none⟩)) (by rfl) (by rfl) (fun w' hS=>?_) ?_
   ·go_simp
   simp only [zA,zB,zC,Act.put,zD,zE,zF]
   refine wpScriptH_take (.pointer (some ⟨w2.heap.size,0,none⟩)) (by rfl) (by rfl) (fun w' hS=>?_) ?_
   ·go_simp
   simp only [zA,zB,zC,Act.put,zD,zE,zF]
   refine wpScriptH_take (.int .u64 (st:Int)) (by rfl) (by rfl) (fun w' hS=>?_) ?_
   ·obtain ⟨s0,s1,s2,s3⟩:=hS
    go_simp
   simp only [zA,zB,zC,Act.put,zD,zE,zF]
   refine wpScriptH_do (by rfl) ?_
   go_wp2_with (go_at_call 33;refine HLk.out.mono ?_;rintro e wj ⟨rfl,rfl⟩)
   refine ⟨⟨HXj.out.cells.2.1,HXj.out.cells.2.2.2,HKi.out.drew.cell 0,HKi.out.drew.cell 1⟩,?_⟩
   refine wpScriptH_do (by rfl) ?_
   go_wp2_with (go_at_call 49;refine HAt.out.mono ?_;rintro e wj ⟨rfl,rfl⟩)
   refine ⟨⟨HXj.out.cells.2.1,HXj.out.cells.2.2.2,HKi.out.drew.cell 0,HKi.out.drew.cell 1⟩,?_⟩
   refine wpScriptH_do (by rfl) ?_
   go_wp2_with (go_at_call 65;refine HLd.out.mono ?_;rintro e wj ⟨rfl,rfl⟩)
   refine ⟨⟨HXj.out.cells.2.1,HXj.out.cells.2.2.2,HKi.out.drew.cell 0,HKi.out.drew.cell 1⟩,?_⟩
   refine wpScriptH_take (.bool true) (by rfl) (by rfl) (fun w' hS=>?_) ?_
   ·go_simp
   simp only [zA,zB,zC,Act.put,zD,zE,zF]
   refine wpScriptH_take (.bool true) (by rfl) (by rfl) (fun w' hS=>?_) ?_
   ·go_simp
   simp only [zA,zB,zC,Act.put,zD,zE,zF]
   refine wpScriptH_take (.bool true) (by rfl) (by rfl) (fun w' hS=>?_) ?_
   ·go_simp
   simp only [zA,zB,zC,Act.put,zD,zE,zF]
   show wpList _ _ _ _ _ _
   simp only [List.drop_succ_cons,List.drop_zero]
   refine NoPanic.normal ?_
   go_wp2_with fail
   go_ret
   exact ⟨rfl,HBf.out.trans ((HB9.out.trans (HBi.out.drew.mono HB9.out.size)).mono HBf.out.size)⟩
theorem snapshotPlays_row (A:Option Addr) (n c:Nat) (l:List (Nat × ByteArray)) (nm0:ByteArray) (A2:Option Addr) (n2 c2:Nat) (l2:List Nat) (w:World) (hin:ActsIn w A n c l) (_hnm:nm0.size≤9223372036854775807) (_h2:InB w A2 n2 c2 l2) (ht:Tab w) (hpy:Pay w) :
  Calls Tryz.prog 9 #[.slice A n c, .string nm0, .slice A2 n2 c2] w fun e w'=>e = .returned (.bool true)∧Below w.heap.size w w' :=
 snapshotPlays_law A n c l nm0 A2 n2 c2 w hin ht hpy
end
namespace snapshotPlays
open Go.ChangeShapes Go.WideShapes Go.ChangeAt Go.RowKit
theorem contract (H:Type) (enc:TypeId × Value→H) (W:World) (base:Nat) (args:Array Value) (ds gs:List (DataW H)) (before:List MemPlace)
  (hval:∀ (j:Nat) t v,Tryz.f9.params[j]?=some t→args[j]?=some v→Value.okWide Tryz.prog W .any base t v)
  (hW:DataW.Whole enc Tryz.prog Tryz.f9.params.toList Rows.snapshotPlaysSpec.vars false W args.toList ds gs before) (hL:laidMetH Tryz.prog Rows.snapshotPlaysRow.laid W) :
  Calls Tryz.prog 9 args W fun e W'=>∃ v,e = .returned v∧Rows.snapshotPlaysSpec.post enc Tryz.prog Tryz.f9 false true false false W args v W':=by
 have hW':=hW
 obtain ⟨p,q,hA0,hV,rfl,hfz,hnd⟩:=hW
 have hA:DataW.TrodAll enc Tryz.prog W 0 (fun _=>true) true Tryz.f9.params.toList args.toList ds p:=hA0
 rw [Tryz.params9] at hA hval
 obtain ⟨v0,vs0,d0,ds0,p0,q0,hargs,rfl,rfl,h0,r0⟩:=trodAll_cons hA
 obtain ⟨v1,vs1,d1,ds1,p1,q1,rfl,rfl,rfl,h1,r1⟩:=trodAll_cons r0
 obtain ⟨v2,vs2,d2,ds2,p2,q2,rfl,rfl,rfl,h2,r2⟩:=trodAll_cons r1
 obtain ⟨rfl,rfl,rfl⟩:=trodAll_nil r2
 obtain rfl:args=#[v0,v1,v2]:=by cases args;simp_all
 obtain ⟨rfl,rfl⟩:=trodVars_none hV
 have lt0:∀ x∈p0,x.block < W.heap.size:=by obtain ⟨m,hm⟩:=h0;exact DataW.trod_lt m _ _ _ hm
 obtain ⟨a0,len0,cap0,l0,rfl,w0⟩:=acts_of (hval 0 124 v0 rfl rfl) h0
 have lt1:∀ x∈p1,x.block < W.heap.size:=by obtain ⟨m,hm⟩:=h1;exact DataW.trod_lt m _ _ _ hm
 obtain ⟨a1,rfl,w1⟩:=nstr_of (hval 1 9 v1 rfl rfl) h1
 have lt2:∀ x∈p2,x.block < W.heap.size:=by obtain ⟨m,hm⟩:=h2;exact DataW.trod_lt m _ _ _ hm
 obtain ⟨a2,len2,cap2,rfl⟩:=okWide_slice Tryz.underlying24 (hval 2 24 v2 rfl rfl)
 obtain ⟨l2,w2⟩:=bytes_of h2
 clear hA0
 refine (snapshotPlays_row a0 len0 cap0 l0 a1 a2 len2 cap2 l2 W w0 w1 w2 (table hL) (payIs hL)).mono fun e W' ⟨he,bel⟩=>?_
 subst he
 exact ⟨_,rfl,_,_,_,[],_,[],hW',trodAll_mk1 (shut_bool Tryz.underlying4 _),(trodAll_cons_mk (Below.trod laidOut (by kernel_rfl) (of_decide_eq_true (by kernel_rfl)) h0 bel lt0) (trodAll_cons_mk (Below.trod laidOut (by kernel_rfl) (of_decide_eq_true (by kernel_rfl)) h1 bel lt1) (trodAll_cons_mk (Below.trod laidOut (by kernel_rfl) (of_decide_eq_true (by kernel_rfl)) h2 bel lt2) trodAll_mk0))),rfl,bel.frame _,fun h=>by cases h⟩
theorem laid_met (os:Os):laidMet Tryz.prog Rows.snapshotPlaysRow.laid ((laidWorld os).forCall (fun _ _=>0) ⟨#[],#[.slice none 0 0, .string ⟨#[]⟩, .slice none 0 0],[]⟩).memory :=
 laidMet_of_run' 8 (by kernel_rfl) (by kernel_rfl)
theorem reads (os:Os) {H:Type} (enc:TypeId × Value→H):∃ places,DataW.whole enc Tryz.prog ((laidWorld os).forCall (fun _ _=>0) ⟨#[],#[.slice none 0 0, .string ⟨#[]⟩, .slice none 0 0],[]⟩).memory Tryz.f9.params.toList Rows.snapshotPlaysSpec.vars false #[Value.slice none 0 0,Value.string ⟨#[]⟩,Value.slice none 0 0].toList 8=some ([.nil, .lit (.string []), .nil],[],places) :=
 ⟨[],by kernel_rfl⟩
theorem lifted (os:Os) (started:os.Started) (H:Type) (enc:TypeId × Value→H) (F:Stop.Interp) :
  ReturnsInHanded {} Tryz.checked os 9 .any ((OpenSpec.ofChange Rows.snapshotPlaysSpec).preRow enc Tryz.prog Tryz.f9 Rows.snapshotPlaysRow.domain false Rows.snapshotPlaysRow.laid) (((OpenSpec.ofChange Rows.snapshotPlaysSpec).at F).post enc Tryz.prog Tryz.f9 false true false false):=by
 obtain ⟨places,hx⟩:=reads os enc
 refine returnsInHanded_of_row (C:=Tryz.checked) (s:=OpenSpec.ofChange Rows.snapshotPlaysSpec) ownK started (by kernel_rfl) Tryz.func9
  (witness_row_at (enc:=enc) (C:=Tryz.checked) false (laidWorld os) #[.slice none 0 0, .string ⟨#[]⟩, .slice none 0 0] rfl (by kernel_rfl) (by kernel_rfl) (by kernel_rfl)
   (OpenSpec.preRow_of_cond 8 hx (by kernel_rfl) (fun k hk=>by cases hk) (by kernel_rfl) (laid_met os))) ?_
 intro W base args ds gs before hval hW _ _ _ hL _ _
 exact contract H enc W base args ds gs before hval hW hL
theorem both {a b:Bool} (x:a=true) (y:b=true):(a && b)=true:=by rw [x,y];rfl
theorem closed:joinedFacts Tryz.pinned.checked.prog 9 Tryz.f9 (OpenSpec.ofChange Rows.snapshotPlaysSpec).bare Rows.snapshotPlaysRow=true:=by
 unfold joinedFacts
 refine both (both (both (both (both (both (both (both (both (both (both (both (both (both (both (both (both (both (both (both (both (both (both (both (both (both (both (both (both (both (both ?_ ?_) ?_) ?_) ?_) ?_) ?_) ?_) ?_) ?_) ?_) ?_) ?_) ?_) ?_) ?_) ?_) ?_) ?_) ?_) ?_) ?_) ?_) ?_) ?_) ?_) ?_) ?_) ?_) ?_) ?_) ?_
 all_goals (as_aux_lemma=>kernel_rfl)
theorem named:Tryz.pinned.checked.prog.funcNamed Rows.snapshotPlaysRow.func=some 9:=by kernel_rfl
theorem said:Rows.SnapshotPlaysSaid :=
 OpenClaim.holds_of_cond 9 Tryz.f9 rfl rfl rfl rfl rfl rfl rfl ⟨rfl,rfl,rfl,rfl,rfl⟩ rfl rfl rfl rfl rfl named Tryz.func9 closed
  (of_decide_eq_true (by kernel_rfl)) (by unfold Func.isWrapper;first | (rw [if_pos (by decide +kernel)];kernel_rfl) | (rw [if_neg (by decide +kernel)];exact ⟨rfl,rfl⟩))
  (fun os started H enc _ F=>by rw [OpenClaim.pre_eq_preRow];exact lifted os started H enc F)
theorem plain (f : FuncId) (fn : Func) (hf : Tryz.pinned.checked.prog.funcNamed "bedrock/bedrocklaw38.SnapshotPlays" = some f) (hfn : Tryz.pinned.checked.prog.funcs[f]? = some fn) :
  true=Tryz.pinned.checked.prog.looks []∧∀ (j:Nat) t,fn.params[j]?=some t→Tryz.pinned.checked.prog.wantsStandIn t=false:=by
 obtain rfl : f = 9 := Option.some.inj ((show Tryz.prog.funcNamed "bedrock/bedrocklaw38.SnapshotPlays" = some 9 by kernel_rfl).symm.trans hf) |>.symm
 obtain rfl:fn=Tryz.f9:=(Option.some.inj (Tryz.func9.symm.trans hfn)).symm
 refine ⟨by kernel_rfl,fun j t ht=>?_⟩
 rw [Tryz.params9] at ht
 have hm:=Array.mem_of_getElem? ht
 simp only [List.mem_toArray,List.mem_cons,List.not_mem_nil,or_false] at hm
 rcases hm with rfl | rfl | rfl
 ·exact (show Tryz.prog.wantsStandIn 124=false by kernel_rfl)
 ·exact (show Tryz.prog.wantsStandIn 9=false by kernel_rfl)
 ·exact (show Tryz.prog.wantsStandIn 24=false by kernel_rfl)
end snapshotPlays
end Go.Proofs.YtfkjjoglnmeciaaGreatDoor
