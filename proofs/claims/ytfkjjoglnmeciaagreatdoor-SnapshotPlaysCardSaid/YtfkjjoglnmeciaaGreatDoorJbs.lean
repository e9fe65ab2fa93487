/- The walks and laws that the claim leans on, part 45. -/
import Derived.Test.YtfkjjoglnmeciaaGreatDoorJbg
import Derived.Test.YtfkjjoglnmeciaaGreatDoorJbk
set_option maxRecDepth 100000
set_option maxHeartbeats 16000000
namespace Go.Proofs.YtfkjjoglnmeciaaGreatDoor
open Go.Lib (hid)
section
open Go.RowKit Go.Maps
theorem arC_at (cur:Nat→Nat) (s:Nat):∀ K,(∀ k,k < K→arC cur s K (8 * (s+32 * k))=freeW 1)∧(∀ i,i < 8 * s→arC cur s K i=cur i)
 | 0=>⟨fun k hk=>absurd hk (Nat.not_lt_zero k),fun _ _=>rfl⟩
 | K+1=>by
  obtain ⟨h1,h2⟩:=arC_at cur s K
  have e:∀ i,arC cur s (K+1) i=if i=8 * (s+32 * K) then freeW 1 else arC cur s K i:=fun i=>by
   show wrS (arC cur s K) [(64 * (s+32 * K),freeW 1)] i=_
   rw [wrS_oneG,show 64 * (s+32 * K) / 8=8 * (s+32 * K) by omega]
  refine ⟨fun k hk=>?_,fun i hi=>?_⟩
  ·rw [e]
   by_cases h:k=K
   ·subst h;rw [if_pos rfl]
   ·rw [if_neg (by omega)];exact h1 k (by omega)
  ·rw [e,if_neg (by omega)]
   exact h2 i hi
theorem arC_bnd (cur:Nat→Nat) (s:Nat) (hc:∀ i,cur i < 18446744073709551616):∀ K i,arC cur s K i < 18446744073709551616
 | 0,i=>hc i
 | K+1,i=>by
  show wrS (arC cur s K) [(64 * (s+32 * K),freeW 1)] i < _
  rw [wrS_oneG]
  have h1:=freeW_lt 1 (by omega)
  have h2:=arC_bnd cur s hc K i
  split <;> omega
def curB (K:Nat):Nat→Nat:=arC (wrS (fun _=>0) [(64 * 0,0)]) 53 K
theorem curB_ok (K:Nat):Empt K (curB K):=by
 obtain ⟨h1,h2⟩:=arC_at (wrS (fun _=>0) [(64 * 0,0)]) 53 K
 have h0:∀ i,wrS (fun _=>0) [(64 * 0,0)] i=0:=fun i=>by rw [wrS_oneG];split <;> rfl
 refine ⟨?_,?_,h1,arC_bnd _ 53 (fun i=>by rw [h0];omega) K⟩
 ·exact (h2 _ (by omega)).trans (h0 _)
 ·exact (h2 _ (by omega)).trans (h0 _)
def RetBeg (K:Nat) (w:World) (e:Ending) (w':World):Prop:=∃ a T x y S,e = .returned (.pointer (some ⟨y.g,0,none⟩))∧BW a (53+32 * K) T K x y (fun _=>csN) (fun _=>none) 0 0 w.heap.size S (curB K) w'∧T≤100∧Below w.heap.size w w'
theorem wrapK (K:Nat) (_h:K≤12):((53+32 * K:Nat):Int)=53+32 * (K:Int)∧((32 * K:Nat):Int)=32 * (K:Int):=by omega
theorem beginB_any (K:Nat) (hK:1≤K) (hK12:K≤12) (w:World) (ht:Tab w) (hpy:Pay w):Calls Tryz.prog 20 #[.int .i64 (K:Int)] w (RetBeg K w):=by
 have HT:=hid ht
 have HPy:=hid hpy
 have HN:=hid (new_any (fun _=>False) (53+32 * K) (by omega) (by omega) w)
 have HK:=hid (And.intro hK hK12)
 have HLow:=hid (show 1 < w.heap.size∧0 < w.heap.size from ⟨ht.size,hpy.size⟩)
 rw [(wrapK K hK12).1] at HN
 clear ht hpy
 go_enter Tryz.func20,Tryz.ntmps20
 go_wp2_with fail
 refine HN.out.mono ?_
 rintro e w1 ⟨a,S1,rfl,hdD,hd1,hS1,hb1⟩
 have HDi:=hid hdD
 clear hdD
 have HH:=hid (fun W (hW:Below w1.heap.size w1 W)=>thread_any (hd1.below hW))
 have HR:=hid (redoFormat_any hd1 0 26 (by omega) (by omega) (by omega))
 have HS1:=hid hS1
 have HB1:=hid hb1
 clear hd1 hS1 hb1 HN
 unfold memV at HR
 have HRf:Hid (Calls Tryz.prog 74 #[.iface 58 (.pointer (some ⟨a.th 0,0,none⟩)), .int .i64 0, .int .i64 26] w1 fun e w'=>∃ S2,e = .returned (.int .i64 0)∧Dev a (53+32 * K) 3 w' S2 (wrS (fun _=>0) [(64 * 0,0)]) 0∧(∀ k,S2 k→w.heap.size≤k)∧Below w.heap.size w w'):=hid (HR.out.mono (fun e w' h=>by
  obtain ⟨he,S2,hd,hc,hg⟩:=h
  refine ⟨S2,he,hd,fun k hk=>(hg k hk).elim (HS1.out k) (fun h=>Nat.le_trans HB1.out.size h),HB1.out.trans (hc.toBelow HB1.out.size HS1.out)⟩))
 clear HR
 go_wp2_with (first
  | (go_at_call 71;refine (HH.out _ (Below.refl _ _)).mono ?_;rintro e Wz ⟨rfl,rfl⟩)
  | (go_at_call 74;refine HRf.out.mono ?_;rintro e w2 ⟨S2,rfl,hd2,hS2,hb2⟩;refine stop ?_))
 unfold Stop
 have HH2:=hid (thread_any hd2)
 have HS2:=hid hS2
 have HB2:=hid hb2
 have hK9:=HK.out
 have HAf:=hid (heapFormat_any hd2 (HT.out.below hb2) (fun h=>by have:=hS2 _ h;have:=HLow.out.1;omega) 53 (32 * K) K (by omega) (by omega) (by omega) (by omega))
 have HAf2:Hid (Calls Tryz.prog 75 #[.iface 58 (.pointer (some ⟨a.th 0,0,none⟩)), .int .i64 53, .int .i64 (32 * (K:Int))] w2 fun e w'=>∃ S3,e = .returned (.int .i64 0)∧Dev a (53+32 * K) (3+3 * K) w' S3 (curB K) 0∧(∀ k,S3 k→w.heap.size≤k)∧Below w.heap.size w w'):=hid (by
  rw [← (wrapK K hK9.2).2]
  refine HAf.out.mono (fun e w' h=>?_)
  obtain ⟨he,S3,hd,hc,hg⟩:=h
  exact ⟨S3,he,hd,fun k hk=>(hg k hk).elim (HS2.out k) (fun h=>Nat.le_trans HB2.out.size h),HB2.out.trans (hc.toBelow HB2.out.size HS2.out)⟩)
 have hk0:(K:Int)≤12:=by omega
 have hk1:(1:Int)≤(K:Int):=by omega
 clear hd2 hS2 hb2 HAf HH HRf HS1 HB1
 go_wp2_with (first
  | (go_at_call 71;refine HH2.out.mono ?_;rintro e Wz ⟨rfl,rfl⟩)
  | (go_at_call 75;refine HAf2.out.mono ?_;rintro e w3 ⟨S3,rfl,hd3,hS3,hb3⟩;refine stop ?_))
 unfold Stop
 have HOp:=hid (bopen_any (b0:=w.heap.size) hd3 HDi.out rfl hK9.1 hK9.2 (HT.out.below hb3) (HPy.out.below hb3) (curB_ok K) ⟨HLow.out.1,HLow.out.2,hb3.size,hS3⟩)
 have HB3:=hid hb3
 clear hd3 hS3 hb3 HAf2 HH2 HS2 HB2
 go_wp2_with (go_at_call 102;refine HOp.out.mono ?_;rintro e w4 ⟨x,y,rfl,hbw,hb4⟩;have HBw:=hid hbw;have HB4:=hid (HB3.out.trans (hb4.mono HB3.out.size));clear hbw hb4)
 go_ret
 exact ⟨a,_,x,y,S3,rfl,HBw.out,by have:=HK.out.2;omega,HB4.out⟩
end
end Go.Proofs.YtfkjjoglnmeciaaGreatDoor
