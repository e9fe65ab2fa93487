/- The walks and laws that the claim leans on, part 41. -/
import Derived.Test.YtnlokpakiambaaaGreatDoorJbn
set_option maxRecDepth 100000
set_option maxHeartbeats 16000000
namespace Go.Proofs.YtnlokpakiambaaaGreatDoor
open Go.Lib (hid)
section
open Go.ChangeShapes Go.WideShapes Go.ChangeAt Go.RowKit
theorem ownK:ownKnob Tryz.prog.godebug=none:=by kernel_rfl
theorem laidOut:laidOutB Tryz.prog=true:=by kernel_rfl
theorem gTab : Tryz.prog.globalNamed "bedrock/crc.nibbles" = some 2 := by kernel_rfl
theorem gTabType:(Tryz.prog.globals[2]?).map (·.type)=some 344:=by kernel_rfl
theorem cellsTab:Tryz.prog.cellsOf 344=16:=by kernel_rfl
theorem cellsU32:Tryz.prog.cellsOf 208=1:=by kernel_rfl
def laidList : List (String × DataW Unit) := [("bedrock/crc.nibbles", Rows.laid_bedrock_crc_nibbles), ("bedrock/sizeclass.payload", Rows.laid_bedrock_sizeclass_payload)]
theorem table {W:World} (h:laidMetH Tryz.prog laidList W):Tab W:=by
 have ht : Lib.TabIs Tryz.prog W "bedrock/crc.nibbles" .u32 (Crc.nib.map fun (n : Nat) => (n : Int)) :=
  Lib.tabIs_of_head (rest := [("bedrock/sizeclass.payload", Rows.laid_bedrock_sizeclass_payload)]) gTab gTabType Tryz.underlying344 Tryz.underlying208 cellsU32 cellsTab h
 intro i hi
 have:=ht.cell gTab i (by simpa [Crc.nib] using hi)
 rw [this]
 have hl:i < Crc.nib.length:=by simpa [Crc.nib] using hi
 simp [List.getD,hl]
def nibObj:Obj→Obj
 | .cells _ t frozen => .cells (Crc.nib.map fun (n:Nat)=>Value.int .u32 (n:Int)).toArray t frozen
 | o=>o
def payObj:Obj→Obj
 | .cells _ t frozen => .cells #[.int .i64 3, .int .i64 7, .int .i64 15, .int .i64 31, .int .i64 60] t frozen
 | o=>o
noncomputable def laidWorld (os:Os):World :=
 { World.holding Tryz.prog os ⟨#[],#[],[]⟩ with heap:=((World.holding Tryz.prog os ⟨#[],#[],[]⟩).heap.modify 2 nibObj).modify 0 payObj }
section
variable {H:Type} {enc:TypeId × Value→H} {W:World} {b0 base:Nat} {sp:Nat→Bool} {held:Bool} {v:Value} {d:DataW H} {p:List MemPlace} {r:Reach}
end
end
section
open Go.RowKit Go.Maps
theorem minL_le:∀ (l:List (List Nat × Nat)) (m:Nat),minL m l≤m∧∀ p∈l,minL m l≤p.2
 | [],m=>⟨Nat.le_refl _,fun p hp=>absurd hp (by simp)⟩
 | q :: t,m=>by
  obtain ⟨h1,h2⟩:=minL_le t (min m q.2)
  refine ⟨Nat.le_trans h1 (Nat.min_le_left _ _),fun p hp=>?_⟩
  rcases List.mem_cons.1 hp with rfl | hp
  ·exact Nat.le_trans h1 (Nat.min_le_right _ _)
  ·exact h2 p hp
section
variable {R:Option (Nat × List (List Nat × Nat)) × Nat} {rv sv:Value} {w:World}
end
end
section
open Go.RowKit Go.Maps
theorem minL_mem:∀ (l:List (List Nat × Nat)) (m:Nat),minL m l=m∨∃ p∈l,minL m l=p.2
 | [],m => .inl rfl
 | q :: t,m=>by
  have ih:=minL_mem t (min m q.2)
  have e:minL m (q :: t)=minL (min m q.2) t:=rfl
  rw [e]
  rcases ih with h | ⟨p,hp,h⟩
  ·rcases Nat.le_total m q.2 with h2 | h2
   ·left
    rw [h,Nat.min_eq_left h2]
   ·right
    exact ⟨q,by simp,by rw [h,Nat.min_eq_right h2]⟩
  ·right
   exact ⟨p,by simp [hp],h⟩
end
section
open Go.ChangeShapes Go.WideShapes Go.ChangeAt Go.RowKit
theorem gPay : Tryz.prog.globalNamed "bedrock/sizeclass.payload" = some 0 := by kernel_rfl
theorem gPayType:(Tryz.prog.globals[0]?).map (·.type)=some 252:=by kernel_rfl
theorem cellsPay:Tryz.prog.cellsOf 252=5:=by kernel_rfl
theorem cellsI64:Tryz.prog.cellsOf 3=1:=by kernel_rfl
theorem payIs {W:World} (h:laidMetH Tryz.prog laidList W):Pay W:=by
 have h2 : laidMetH Tryz.prog [("bedrock/sizeclass.payload", Rows.laid_bedrock_sizeclass_payload)] W := laidMetH.filter (fun x => x.1 == "bedrock/sizeclass.payload") h
 have ht : Lib.TabIs Tryz.prog W "bedrock/sizeclass.payload" .i64 [3, 7, 15, 31, 60] :=
  Lib.tabIs_of_head (rest:=[]) gPay gPayType Tryz.underlying252 Tryz.underlying3 cellsI64 cellsPay h2
 intro i hi
 have hc:=ht.cell gPay i hi
 rw [hc]
 have:i=0∨i=1∨i=2∨i=3∨i=4:=by omega
 rcases this with rfl | rfl | rfl | rfl | rfl <;> rfl
end
section
open Go.RowKit Go.Maps
section
def OlI (B:Nat) (w1:World) (a:DA) (x:HA) (y:WA) (q gr k:Nat) (w:World):Prop:=∃ st li,RgX B [] a x y q gr (5000+1600 * k) 10 st li w∧st≤k∧Below B w1 w
theorem snapshotOldest_law (A:Option Addr) (n c:Nat) (l:List (Nat × ByteArray)) (w:World) (hin:ActsIn w A n c l) (ht:Tab w) (hpy:Pay w) :
  Calls Tryz.prog 8 #[.slice A n c] w fun e w'=>e = .returned (.bool true)∧Below w.heap.size w w':=by
 have HAw:=hid (awake38_any ht hpy)
 have HIn:=hid hin
 have HBg:Hid (∀ W,Below w.heap.size w W→Calls Tryz.prog 33 #[] W fun e w'=>∃ a x y q gr,e = .returned (.tuple #[.pointer (some ⟨y.g,0,none⟩), .pointer (some ⟨gr,0,none⟩)])∧RgW W.heap.size a x y q gr 3000 10 0 [] w'∧Below W.heap.size W w'):=hid (fun W hW=>begin38_w (ht.below hW) (hpy.below hW))
 obtain ⟨M,hM⟩:∃ M,min n 30=M:=⟨_,rfl⟩
 have HM:=hid (show M≤30∧M≤n∧(n≤30→M=n)∧(30≤n→M=30) by omega)
 have hc:=hin.cap.1
 clear hin ht hpy hM
 go_enter Tryz.func8,Tryz.ntmps8
 go_wp2_with (go_at_call 32;refine HAw.out.mono ?_;rintro e w1 ⟨rfl,hb1⟩;have HB1:=hid hb1;clear hb1;refine stop ?_)
 unfold Stop
 have HBg1:=hid (HBg.out w1 HB1.out)
 go_wp2_with (go_at_call 33;refine HBg1.out.mono ?_;rintro e w2 ⟨a,x,y,q,gr,rfl,hw,hb⟩;have HW:=hid hw;have HB:=hid hb;clear hw hb;refine stop ?_)
 unfold Stop
 go_upto_region 6 with fail
 have hMi:min (n:Int) 30=(M:Int):=by
  obtain ⟨m1,m2,m3,m4⟩:=HM.out
  omega
 have hMx:max (M:Int) 0=(M:Int):=by omega
 have hM0:(0:Int)≤(M:Int):=by omega
 have hMc:(M:Int)≤(c:Int):=by have h2:=HM.out;omega
 have HI0:Hid (OlI w1.heap.size w1 a x y q gr 0 w2):=hid ⟨0,[],HW.out.rgX.more (by decide) (by decide),Nat.le_refl _,HB.out⟩
 clear hc HAw HBg HBg1
 go_wp2_with fail
 go_loopw [29] (fun vi wr=>∃ k:Nat,k≤M∧vi = .int .i64 (k:Int)∧Hid (OlI w1.heap.size w1 a x y q gr k wr)) (fun vi _=>M - (Go.RowKit.intOf vi).toNat)
 case atStart=>exact ⟨0,Nat.zero_le _,rfl,HI0⟩
 case round =>
  clear HI0 hMi hMx
  obtain ⟨wo,hwo⟩:∃ z,z=wr:=⟨_,rfl⟩
  subst hwo
  obtain ⟨k,hk,rfl,HI⟩:=hrel
  by_cases hlt:k < M
  ·obtain ⟨st,li,hw,hst,hb⟩:=HI.out
   have hm:=HM.out
   have HW2:=hid hw
   have HB2:=hid hb
   have HT:=hid (show 5000+1600 * k≤60000 by omega)
   have HSt:=hid (show st≤30∧st≤k by omega)
   have hbw:Below w.heap.size w wo:=HB1.out.trans (hb.mono HB1.out.size)
   obtain ⟨hkl,gb,go,hA3,hgb,f0,f1⟩:=ac_facts (HIn.out.rd.below hbw) (k:=k) (by omega)
   subst hA3
   have HEa:=hid (HIn.out.each _ (List.getElem_mem hkl))
   generalize l[k]=p at *
   obtain ⟨kd,nm⟩:=p
   simp only [] at f0 f1 HEa
   have hz5:(0:Int)≤(k:Int):=by omega
   have hz6:(k:Int) < (M:Int):=by omega
   obtain ⟨W3,hW3⟩:∃ W3,wo.alloc (.cells #[.int .u8 (kd:Int), .string nm] 99)=W3:=⟨_,rfl⟩
   have hb3:Below wo.heap.size wo W3:=by rw [← hW3];exact (Below.refl _ _).alloc (Nat.le_refl _) _
   have hk3:Blk W3 wo.heap.size 99 #[.int .u8 (kd:Int), .string nm]:=by rw [← hW3];exact Blk.new _ _ _
   have HW3:=hid hW3
   have HB33:=hid hb3
   have HK3:=hid hk3
   clear hw hst hb hm hbw hgb hW3 hb3 hk3
   have HX3:Hid (RgX w1.heap.size [wo.heap.size] a x y q gr (5000+1600 * k) 10 st li W3):=hid (HW2.out.new HB33.out (Nat.le_refl _) HK3.out.lt)
   have HB3:=hid (HB2.out.trans (HB33.out.mono HB2.out.size))
   go_upto_region 9 with fail
   rw [HW3.out]
   have g3:=HX3.out.rgW.g3
   have HS3:=hid HX3.out.rgW.stamp
   have k0:W3.cell? ⟨wo.heap.size,0,none⟩=some (.int .u8 (kd:Int)):=HK3.out.cell 0
   go_upto_region 10 with (go_at_call 38;refine HS3.out.mono ?_;rintro e w4 ⟨rfl,hb4⟩;have HX4:=hid (HX3.out.below hb4);have HK4:=hid (HK3.out.below hb4 HK3.out.lt);have HB4:=hid (HB3.out.trans (hb4.mono HB3.out.size));clear hb4)
   clear k0 g3 HS3 f0 f1
   have k0:w4.cell? ⟨wo.heap.size,0,none⟩=some (.int .u8 (kd:Int)):=HK4.out.cell 0
   obtain ⟨b0,hb0⟩:∃ b,((kd:Int) % 4 == 0)=b:=⟨_,rfl⟩
   have HBz:Hid (b0=true↔kd % 4=0):=hid (by
    rw [← hb0,beq_iff_eq]
    omega)
   go_upto_if 43 with fail
   clear hb0
   go_cut [8,9] from 44 to 99 (fun v8 v9 wx=>∃ st2 li2,(kd % 4≠0→st2=st)∧st2≤k+1∧Hid (RgX w1.heap.size [wo.heap.size] a x y q gr (5000+1600 * k+800) 10 st2 li2 wx)∧Hid (Blk wx wo.heap.size 99 #[.int .u8 (kd:Int), .string nm])∧Hid (Below w1.heap.size w1 wx))
   case first =>
    cases b0
    case true =>
     have h0:kd % 4=0:=HBz.out.1 rfl
     have g3:=HX4.out.rgW.g3
     have HNx:Hid (Calls Tryz.prog 34 #[.pointer (some ⟨gr,0,none⟩), .iface 43 (.pointer (some ⟨y.d,0,none⟩))] w4 fun e w'=>(∃ g:Nat,w4.heap.size≤g∧e = .returned (.tuple #[.int .u64 ((st+1:Nat):Int), .slice (some ⟨g,0,none⟩) 1 1])∧Blk w' g 90 #[.int .u64 (pOff q:Int), .int .u64 ((st+1:Nat):Int)])∧Below w4.heap.size w4 w'):=hid (by
      have h1:=HX4.out.rgW.next_
      rw [if_neg (by have:=HSt.out;omega)] at h1
      exact h1)
     have hw:IntKind.u64.wrap ((st:Int)+1)=(st:Int)+1:=by rw [IntKind.wrap_u64];have:=HSt.out;omega
     go_upto_region 12 with (go_at_call 34;refine HNx.out.mono ?_;rintro e w5 ⟨⟨gn,hgn,rfl,hkn⟩,hb5⟩;have HX5:=hid (HX4.out.below hb5);have HKn:=hid hkn;have HK5:=hid (HK4.out.below hb5 HK4.out.lt);have HB5:=hid (HB4.out.trans (hb5.mono HB4.out.size));clear hgn hkn hb5)
     clear HNx g3 k0
     have g3:=HX5.out.rgW.g3
     have HPu:=hid (HX5.out.pubNext (by have:=HSt.out;omega) HKn.out (by have:=HT.out;omega) (by decide))
     go_wp2_with (first
      | (go_at_call 39;refine HPu.out.mono ?_;rintro e w6 ⟨rfl,hx6,hb6,hk6⟩;have HX6:=hid hx6;have HB6:=hid (HB5.out.trans hb6);have HK6:Hid (Blk w6 wo.heap.size 99 #[.int .u8 (kd:Int), .string nm]):=hid ((hk6 _ (by simp)).trans HK5.out);have HS6:=hid hx6.rgW.stamp;have g6:=hx6.rgW.g3;clear hx6 hb6 hk6)
      | (go_at_call 38;refine HS6.out.mono ?_;rintro e w7 ⟨rfl,hb7⟩;have HX7:=hid (HX6.out.below hb7);have HK7:=hid (HK6.out.below hb7 HK6.out.lt);have HB7:=hid (HB6.out.trans (hb7.mono (HX6.out.rgW.size)));clear hb7))
     go_meet
     exact ⟨st+1,li,fun h=>absurd h0 h,by have:=HSt.out;omega,HX7,HK7,HB7⟩
    case false =>
     have h0:kd % 4≠0:=fun h=>by have:=HBz.out.2 h;cases this
     have g3:=HX4.out.rgW.g3
     have HX4d:=hid (HX4.out.below ((Below.refl _ w4).drew))
     have HK4d:=hid HK4.out.drew
     have HB4d:=hid HB4.out.drew
     have HDr:=hid (HX4d.out.drop_ nm (by have:=HT.out;omega) (by decide))
     have HTk:=hid (HX4d.out.take_ nm HEa.out.2 (by have:=HT.out;omega) (by decide))
     have k1:w4.cell? ⟨wo.heap.size,1,none⟩=some (.string nm):=HK4.out.cell 1
     obtain ⟨b3,hb3⟩:∃ b,((kd:Int) % 4 == 3)=b:=⟨_,rfl⟩
     cases b3
     ·go_upto_region 16 with fail
      refine wp_region_scriptH (fun w'=>w'.cell? ⟨y.g,3,none⟩=some (.pointer (some ⟨y.d,0,none⟩))∧w'.cell? ⟨wo.heap.size,1,none⟩=some (.string nm)) 9 [] [(1,0),(1,1),(1,2),(1,3),(1,4),(1,5),(1,6),(1,7),(0,8)] (by kernel_rfl) (by kernel_rfl) ⟨HX4d.out.rgW.g3,HK4d.out.cell 1⟩ ?_
      refine wpScriptH_take (.pointer (some ⟨gr,0,none⟩)) (by rfl) (by rfl) (fun w' hS=>?_) ?_
      ·go_simp
      simp only [zA,zB,Act.put,zD,zE,zF]
      refine wpScriptH_take (.pointer (some ⟨y.g,0,none⟩)) (by rfl) (by rfl) (fun w' hS=>?_) ?_
      ·go_simp
      simp only [zA,zB,zC,Act.put,zD,zE,zF]
      refine wpScriptH_take (.pointer (some ⟨y.g,0,none⟩)) (by rfl) (by rfl) (fun w' hS=>?_) ?_
      ·go_simp
      simp only [zA,zB,zC,Act.put,zD,zE,zF]
      refine wpScriptH_take (.pointer (some ⟨y.g,3,none⟩)) (by rfl) (by rfl) (fun w' hS=>?_) ?_
      ·go_simp
      simp only [zA,zB,zC,Act.put,zD,zE,zF]
      refine wpScriptH_take (.pointer (some ⟨y.d,0,none⟩)) (by rfl) (by rfl) (fun w' hS=>?_) ?_
      ·obtain ⟨c,c'⟩:=hS
       go_simp
      simp only [zA,zB,zC,Act.put,zD,zE,zF]
      refine wpScriptH_take (.iface 43 (.pointer (some ⟨y.d,0,none⟩))) (by rfl) (by rfl) (fun w' hS=>?_) ?_
      ·go_simp
      simp only [zA,zB,zC,Act.put,zD,zE,zF]
      refine wpScriptH_take (.pointer (some ⟨wo.heap.size,1,none⟩)) (by rfl) (by rfl) (fun w' hS=>?_) ?_
      ·go_simp
      simp only [zA,zB,zC,Act.put,zD,zE,zF]
      refine wpScriptH_take (.string nm) (by rfl) (by rfl) (fun w' hS=>?_) ?_
      ·obtain ⟨c,c'⟩:=hS
       go_simp
      simp only [zA,zB,zC,Act.put,zD,zE,zF]
      refine wpScriptH_do (by rfl) ?_
      go_wp2_with (go_at_call 36;refine HTk.out.mono ?_;rintro e w6 ⟨rfl,hx6,hb6,hk6⟩;have HX6:=hid hx6;have HB6:=hid (HB4d.out.trans hb6);have HK6:Hid (Blk w6 wo.heap.size 99 #[.int .u8 (kd:Int), .string nm]):=hid ((hk6 _ (by simp)).trans HK4d.out);clear hx6 hb6 hk6)
      refine ⟨⟨HX6.out.rgW.g3,HK6.out.cell 1⟩,?_⟩
      show wpList _ _ _ _ _ _
      simp only [List.drop_succ_cons,List.drop_zero]
      refine NoPanic.normal ?_
      go_wp2_with fail
      go_meet
      exact ⟨st,_,fun _=>rfl,by have:=HSt.out;omega,HX6,HK6,HB6⟩
     ·go_upto_region 15 with fail
      refine wp_region_scriptH (fun w'=>w'.cell? ⟨y.g,3,none⟩=some (.pointer (some ⟨y.d,0,none⟩))∧w'.cell? ⟨wo.heap.size,1,none⟩=some (.string nm)) 9 [] [(1,0),(1,1),(1,2),(1,3),(1,4),(1,5),(1,6),(1,7),(0,8)] (by kernel_rfl) (by kernel_rfl) ⟨HX4d.out.rgW.g3,HK4d.out.cell 1⟩ ?_
      refine wpScriptH_take (.pointer (some ⟨gr,0,none⟩)) (by rfl) (by rfl) (fun w' hS=>?_) ?_
      ·go_simp
      simp only [zA,zB,Act.put,zD,zE,zF]
      refine wpScriptH_take (.pointer (some ⟨y.g,0,none⟩)) (by rfl) (by rfl) (fun w' hS=>?_) ?_
      ·go_simp
      simp only [zA,zB,zC,Act.put,zD,zE,zF]
      refine wpScriptH_take (.pointer (some ⟨y.g,0,none⟩)) (by rfl) (by rfl) (fun w' hS=>?_) ?_
      ·go_simp
      simp only [zA,zB,zC,Act.put,zD,zE,zF]
      refine wpScriptH_take (.pointer (some ⟨y.g,3,none⟩)) (by rfl) (by rfl) (fun w' hS=>?_) ?_
      ·go_simp
      simp only [zA,zB,zC,Act.put,zD,zE,zF]
      refine wpScriptH_take (.pointer (some ⟨y.d,0,none⟩)) (by rfl) (by rfl) (fun w' hS=>?_) ?_
      ·obtain ⟨c,c'⟩:=hS
       go_simp
      simp only [zA,zB,zC,Act.put,zD,zE,zF]
      refine wpScriptH_take (.iface 43 (.pointer (some ⟨y.d,0,none⟩))) (by rfl) (by rfl) (fun w' hS=>?_) ?_
      ·go_simp
      simp only [zA,zB,zC,Act.put,zD,zE,zF]
      refine wpScriptH_take (.pointer (some ⟨wo.heap.size,1,none⟩)) (by rfl) (by rfl) (fun w' hS=>?_) ?_
      ·go_simp
      simp only [zA,zB,zC,Act.put,zD,zE,zF]
      refine wpScriptH_take (.string nm) (by rfl) (by rfl) (fun w' hS=>?_) ?_
      ·obtain ⟨c,c'⟩:=hS
       go_simp
      simp only [zA,zB,zC,Act.put,zD,zE,zF]
      refine wpScriptH_do (by rfl) ?_
      go_wp2_with (go_at_call 40;refine HDr.out.mono ?_;rintro e w6 ⟨rfl,hx6,hb6,hk6⟩;have HX6:=hid hx6;have HB6:=hid (HB4d.out.trans hb6);have HK6:Hid (Blk w6 wo.heap.size 99 #[.int .u8 (kd:Int), .string nm]):=hid ((hk6 _ (by simp)).trans HK4d.out);clear hx6 hb6 hk6)
      refine ⟨⟨HX6.out.rgW.g3,HK6.out.cell 1⟩,?_⟩
      show wpList _ _ _ _ _ _
      simp only [List.drop_succ_cons,List.drop_zero]
      refine NoPanic.normal ?_
      go_wp2_with fail
      go_meet
      exact ⟨st,_,fun _=>rfl,by have:=HSt.out;omega,HX6,HK6,HB6⟩
   case rest =>
    obtain ⟨wx,hwx⟩:∃ z,z=wc:=⟨_,rfl⟩
    subst hwx
    obtain ⟨st2,li2,hs2,hs3,HXx,HKx,HBx⟩:=hcut
    have HS2:=hid hs2
    have HS3:=hid hs3
    clear hs2 hs3 HX4 HK4 HB4 HX3 HK3 HB3 HW3 HB33 k0 HI
    obtain ⟨mn,hmn⟩:∃ mn,minL st2 li2=mn:=⟨_,rfl⟩
    have HMn:=hid hmn
    have HSt2:Hid (∀ W,Below wx.heap.size wx W→Calls Tryz.prog 38 #[.pointer (some ⟨gr,0,none⟩), .iface 43 (.pointer (some ⟨y.d,0,none⟩))] W fun e w'=>e = .returned (.int .u64 (st2:Int))∧Below W.heap.size W w'):=hid (fun W hW=>(HXx.out.below hW).rgW.stamp)
    have HOl2:Hid (∀ W,Below wx.heap.size wx W→Calls Tryz.prog 41 #[.pointer (some ⟨gr,0,none⟩), .iface 43 (.pointer (some ⟨y.d,0,none⟩))] W fun e w'=>e = .returned (.int .u64 (mn:Int))∧Below W.heap.size W w'):=hid (fun W hW=>by
     have h1:=(HXx.out.below hW).rgW.oldest
     rw [hmn] at h1
     exact h1)
    have HG3:Hid (∀ W,Below wx.heap.size wx W→W.cell? ⟨y.g,3,none⟩=some (.pointer (some ⟨y.d,0,none⟩))):=hid (fun W hW=>(HXx.out.below hW).rgW.g3)
    clear hmn
    go_upto_region 17 with fail
    go_cut [10,11] from 100 to 113 (fun v10 v11 wy=>v10 = .int .u64 (st2:Int)∧v11 = .int .u64 (mn:Int)∧Hid (Below wx.heap.size wx wy))
    case first =>
     refine wp_region_scriptH (fun w'=>Below wx.heap.size wx w') 16 [] [(1,0),(1,1),(1,2),(1,3),(1,4),(1,5),(1,7),(1,8),(1,9),(1,10),(1,11),(1,12),(0,6),(0,13),(1,14),(1,15)] (by kernel_rfl) (by kernel_rfl) ((Below.refl _ _).drew) ?_
     refine wpScriptH_take (.pointer (some ⟨gr,0,none⟩)) (by rfl) (by rfl) (fun w' hS=>?_) ?_
     ·go_simp
     simp only [zA,zB,Act.put,zD,zE,zF]
     refine wpScriptH_take (.pointer (some ⟨y.g,0,none⟩)) (by rfl) (by rfl) (fun w' hS=>?_) ?_
     ·go_simp
     simp only [zA,zB,zC,Act.put,zD,zE,zF]
     refine wpScriptH_take (.pointer (some ⟨y.g,0,none⟩)) (by rfl) (by rfl) (fun w' hS=>?_) ?_
     ·go_simp
     simp only [zA,zB,zC,Act.put,zD,zE,zF]
     refine wpScriptH_take (.pointer (some ⟨y.g,3,none⟩)) (by rfl) (by rfl) (fun w' hS=>?_) ?_
     ·go_simp
     simp only [zA,zB,zC,Act.put,zD,zE,zF]
     refine wpScriptH_take (.pointer (some ⟨y.d,0,none⟩)) (by rfl) (by rfl) (fun w' hS=>?_) ?_
     ·have c:=HG3.out _ hS
      go_simp
     simp only [zA,zB,zC,Act.put,zD,zE,zF]
     refine wpScriptH_take (.iface 43 (.pointer (some ⟨y.d,0,none⟩))) (by rfl) (by rfl) (fun w' hS=>?_) ?_
     ·go_simp
     simp only [zA,zB,zC,Act.put,zD,zE,zF]
     refine wpScriptH_take (.pointer (some ⟨gr,0,none⟩)) (by rfl) (by rfl) (fun w' hS=>?_) ?_
     ·go_simp
     simp only [zA,zB,zC,Act.put,zD,zE,zF]
     refine wpScriptH_take (.pointer (some ⟨y.g,0,none⟩)) (by rfl) (by rfl) (fun w' hS=>?_) ?_
     ·go_simp
     simp only [zA,zB,zC,Act.put,zD,zE,zF]
     refine wpScriptH_take (.pointer (some ⟨y.g,0,none⟩)) (by rfl) (by rfl) (fun w' hS=>?_) ?_
     ·go_simp
     simp only [zA,zB,zC,Act.put,zD,zE,zF]
     refine wpScriptH_take (.pointer (some ⟨y.g,3,none⟩)) (by rfl) (by rfl) (fun w' hS=>?_) ?_
     ·go_simp
     simp only [zA,zB,zC,Act.put,zD,zE,zF]
     refine wpScriptH_take (.pointer (some ⟨y.d,0,none⟩)) (by rfl) (by rfl) (fun w' hS=>?_) ?_
     ·have c:=HG3.out _ hS
      go_simp
     simp only [zA,zB,zC,Act.put,zD,zE,zF]
     refine wpScriptH_take (.iface 43 (.pointer (some ⟨y.d,0,none⟩))) (by rfl) (by rfl) (fun w' hS=>?_) ?_
     ·go_simp
     simp only [zA,zB,zC,Act.put,zD,zE,zF]
     refine wpScriptH_do (by rfl) ?_
     go_wp2_with (go_at_call 38;refine (HSt2.out _ (Below.refl _ _).drew).mono ?_;rintro e w8 ⟨rfl,hb8⟩;have HB8:Hid (Below wx.heap.size wx w8):=hid ((Below.refl _ _).drew.trans hb8);clear hb8)
     refine ⟨HB8.out,?_⟩
     refine wpScriptH_do (by rfl) ?_
     go_wp2_with (go_at_call 41;refine (HOl2.out _ HB8.out).mono ?_;rintro e w9 ⟨rfl,hb9⟩;have HB9:Hid (Below wx.heap.size wx w9):=hid (HB8.out.trans (hb9.mono HB8.out.size));clear hb9)
     refine ⟨HB9.out,?_⟩
     refine wpScriptH_take (.int .u64 (st2:Int)) (by rfl) (by rfl) (fun w' hS=>?_) ?_
     ·go_simp
     simp only [zA,zB,zC,Act.put,zD,zE,zF]
     refine wpScriptH_take (.int .u64 (mn:Int)) (by rfl) (by rfl) (fun w' hS=>?_) ?_
     ·go_simp
     simp only [zA,zB,zC,Act.put,zD,zE,zF]
     show wpList _ _ _ _ _ _
     simp only [List.drop_succ_cons,List.drop_zero]
     refine NoPanic.normal ?_
     go_wp2_with fail
     go_meet
     exact ⟨rfl,rfl,HB9⟩
    case rest =>
    obtain ⟨wy,hwy⟩:∃ z,z=wc:=⟨_,rfl⟩
    subst hwy
    obtain ⟨rfl,rfl,HBy⟩:=hcut
    have HXy:=hid (HXx.out.below HBy.out)
    have HKy:=hid (HKx.out.below HBy.out HKx.out.lt)
    have HBBy:=hid (HBx.out.trans (HBy.out.mono (HXx.out.rgW.size)))
    clear HXx HKx HBx HBy HSt2 HOl2 HG3
    have g3:=HXy.out.rgW.g3
    have HLi:Hid (Calls Tryz.prog 42 #[.pointer (some ⟨gr,0,none⟩), .iface 43 (.pointer (some ⟨y.d,0,none⟩))] wy fun e w'=>(∃ (A1:Option Addr) (m1 c1:Nat) (l':List (List Nat × Nat)),e = .returned (.slice A1 m1 c1)∧Hid (m1≤8∧Reads w' w'.heap.size 2 A1 m1 (itCells l')∧l'.Perm li2∧(∀ p∈l',mn≤p.2∧p.2≤st2)))∧Below wy.heap.size wy w'):=hid (HXy.out.rgW.list.mono (fun e w' h=>by
     obtain ⟨A1,m,c1,l',he,hs,ho,hb⟩:=h
     have hok:=HXy.out.rgW.ok
     have hlen:=hok.len
     have h1:=ho.1
     rw [itCells_len] at h1
     refine ⟨⟨A1,m,c1,l',he,hid ⟨by have:=hs.len;omega,Reads.of_own ho,hs.perm,fun p hp=>?_⟩⟩,hb⟩
     have hp2:=hs.perm.mem_iff.1 hp
     refine ⟨?_,(hok.nm p hp2).2⟩
     rw [← HMn.out]
     exact (minL_le li2 st2).2 p hp2))
    have HMl:Hid (mn≤st2):=hid (by rw [← HMn.out];exact (minL_le li2 st2).1)
    obtain ⟨bf,hbf⟩:∃ b,((mn:Int) == (st2:Int))=b:=⟨_,rfl⟩
    have HBf:Hid (bf=decide (mn=st2)):=hid (by
     rw [← hbf]
     by_cases h:mn=st2
     ·rw [decide_eq_true h,beq_iff_eq];omega
     ·rw [decide_eq_false h,beq_eq_false_iff_ne];omega)
    go_upto_region 20 with (go_at_call 42;refine HLi.out.mono ?_;rintro e wl ⟨⟨A1,m1,c1,l',rfl,hl⟩,hbl⟩;have HL:=hid hl.out;have HBl:=hid hbl;clear hl hbl)
    clear hbf HLi g3
    have hm8:m1≤8:=HL.out.1
    have HI0:Hid (bf=(decide (mn=st2) || (l'.take 0).any (fun p=>decide (mn=p.2)))):=hid (by rw [HBf.out];simp)
    have HBl0:Hid (Below wl.heap.size wl wl):=hid (Below.refl _ _)
    go_wp2_with fail
    go_loopw [12,125] (fun v12 vi wi=>∃ (j:Nat) (b:Bool),j≤m1∧vi = .int .i64 (j:Int)∧v12 = .bool b∧Hid (b=(decide (mn=st2) || (l'.take j).any (fun p=>decide (mn=p.2))))∧Hid (Below wl.heap.size wl wi)) (fun _ vi _=>m1 - (Go.RowKit.intOf vi).toNat)
    case atStart=>exact ⟨0,bf,Nat.zero_le _,rfl,rfl,HI0,HBl0⟩
    case round =>
     clear HI0 HBl0
     obtain ⟨j,b,hj,rfl,rfl,HIb,HBi⟩:=hrel
     by_cases hjl:j < m1
     ·obtain ⟨hjl2,gb,go,hA3,hgb,f0,f1⟩:=it_facts ((HL.out.2.1.below HBi.out).more HBi.out.size) (k:=j) hjl
      subst hA3
      have HPj:=hid (HL.out.2.2.2 _ (List.getElem_mem hjl2))
      have HTk:=hid (List.take_succ_eq_append_getElem hjl2)
      generalize l'[j]=p at *
      obtain ⟨pn,pv⟩:=p
      dsimp only at f0 f1 HPj
      have hz5:(0:Int)≤(j:Int):=by omega
      have hz6:(j:Int) < (m1:Int):=by omega
      obtain ⟨bp,hbp⟩:∃ b,((mn:Int) == (pv:Int))=b:=⟨_,rfl⟩
      have HBp:Hid (bp=decide (mn=pv)):=hid (by
       rw [← hbp]
       by_cases h:mn=pv
       ·rw [decide_eq_true h,beq_iff_eq];omega
       ·rw [decide_eq_false h,beq_eq_false_iff_ne];omega)
      have HIn2:Hid ((b || bp)=(decide (mn=st2) || (l'.take (j+1)).any (fun p=>decide (mn=p.2)))):=hid (by
       rw [HTk.out,List.any_append,← Bool.or_assoc,← HIb.out]
       simp [HBp.out])
      have g1:(mn:Int)≤(pv:Int):=by have:=HPj.out.1;omega
      have g2:(pv:Int)≤(st2:Int):=by have:=HPj.out.2;omega
      have g3:(j:Int) < 8:=by omega
      have HBa:Hid (Below wl.heap.size wl (wr.alloc (.cells #[.string (strN pn), .int .u64 (pv:Int)] 106))):=hid (HBi.out.alloc HBi.out.size _)
      clear HBp HTk HIb hgb
      cases b
      case' false=>cases bp
      all_goals
       go_wp2_with fail
       go_roundw
       case rel =>
        first
         | exact ⟨j+1,_,by omega,by go_num,rfl,HIn2,HBa⟩
         | (
           repeat apply Exists.intro
           refine ⟨?_,rfl⟩
           exact ⟨j+1,_,by omega,by go_num,rfl,HIn2,HBa⟩)
       case measure=>simp [Go.RowKit.intOf];omega
     ·obtain rfl:j=m1:=by omega
      have hb:b=true:=by
       have hl0:l'.length=j:=by have:=HL.out.2.1.1;rw [itCells_len] at this;omega
       rw [HIb.out,List.take_of_length_le (by omega)]
       rcases minL_mem li2 st2 with h | ⟨p,hp,h⟩
       ·rw [HMn.out] at h
        rw [decide_eq_true h]
        rfl
       ·rw [HMn.out] at h
        rw [Bool.or_eq_true]
        right
        rw [List.any_eq_true]
        exact ⟨p,HL.out.2.2.1.mem_iff.2 hp,decide_eq_true h⟩
      subst hb
      have HXl:=hid (HXy.out.below (HBl.out.trans (HBi.out.mono HBl.out.size)))
      have HKl:=hid (HKy.out.below (HBl.out.trans (HBi.out.mono HBl.out.size)) HKy.out.lt)
      have HBz2:=hid (HBBy.out.trans ((HBl.out.trans (HBi.out.mono HBl.out.size)).mono HXy.out.rgW.size))
      have HEnd:Hid (OlI w1.heap.size w1 a x y q gr (k+1) wr):=hid ⟨st2,li2,(HXl.out.sub (fun g hg=>by cases hg)).more (by omega) (by have:=HT.out;omega),HS3.out,HBz2.out⟩
      have k0:wr.cell? ⟨wo.heap.size,0,none⟩=some (.int .u8 (kd:Int)):=HKl.out.cell 0
      have g2:(mn:Int)≤(st2:Int):=by have:=HMl.out;omega
      have hM30:(M:Int)≤30:=by have:=HM.out;omega
      have hkM:(k:Int) < (M:Int):=by omega
      have d2:((st2:Int) != (st:Int)) = !((st2:Int) == (st:Int)):=rfl
      clear HIb HBi HXy HKy HBBy HL
      cases b0
      case true =>
       have h0:kd % 4=0:=HBz.out.1 rfl
       have e0:((kd:Int) % 4 != 0)=false:=by rw [bne,beq_iff_eq.2 (by omega)];rfl
       go_wp2_with fail
       go_roundw
       case rel =>
        first
         | exact ⟨k+1,by omega,by go_num,HEnd⟩
         | (
           repeat apply Exists.intro
           refine ⟨?_,rfl⟩
           exact ⟨k+1,by omega,by go_num,HEnd⟩)
       case measure=>simp [Go.RowKit.intOf];omega
      case false =>
       have h0:kd % 4≠0:=fun h=>by have:=HBz.out.2 h;cases this
       have e0:((kd:Int) % 4 != 0)=true:=by rw [bne,beq_eq_false_iff_ne.2 (by omega)];rfl
       have hst2:=HS2.out h0
       subst hst2
       have e1:((st2:Int) != (st2:Int))=false:=by rw [bne,beq_self_eq_true];rfl
       go_wp2_with fail
       go_roundw
       case rel =>
        first
         | exact ⟨k+1,by omega,by go_num,HEnd⟩
         | (
           repeat apply Exists.intro
           refine ⟨?_,rfl⟩
           exact ⟨k+1,by omega,by go_num,HEnd⟩)
       case measure=>simp [Go.RowKit.intOf];omega
  ·obtain rfl:k=M:=by omega
   have HBz:Hid (Below w.heap.size w wo):=hid (by
    obtain ⟨_,_,_,_,hb⟩:=HI.out
    exact HB1.out.trans (hb.mono HB1.out.size))
   go_wp2_with fail
   go_ret
   exact ⟨rfl,HBz.out⟩
end
end
end Go.Proofs.YtnlokpakiambaaaGreatDoor
