/- part 11 -/
import Derived.Test.YtfkjjoglnmeciaaGreatDoorMad
set_option maxRecDepth 100000
set_option maxHeartbeats 16000000
namespace Go.Proofs.YtfkjjoglnmeciaaGreatDoor
open Go.Lib (hid)
section
open Go.RowKit
theorem x4r {a:DA} {L T:Nat} {w:World} {S:Fp} {cur:Nat->Nat} {F:Nat} (h:Dev a L T w S cur F) (g s n:Nat) (hB:Blk w g 330 (z2f a s n)) (hs:s < L) (hn:2<=n) (hn2:n<=4096) (h0:cur (8 * s)=0) :
  Calls Tryz.prog 375 #[.pointer (some ⟨g,0,none⟩)] w fun e w'=>e=.returned (.slice none 0 0)/\Blw w w':=by
 have Gc:=hid (z3v h (64 * s) 0 oM oM (by rw [show 64 * s / 8=8 * s by omega];exact h0));have hm:=z4v (some ⟨a.th 0,0,none⟩);have Gd:=z3s ⟨a.th 0,0,none⟩;have hq:=y0k (some ⟨a.th 0,0,none⟩);have Ga:=hid hB;have f0:w.cell? ⟨g,0,none⟩=some (memV a):=hB.cell 0;have f1:w.cell? ⟨g,1,none⟩=some (.int .u64 ((64 * s:Nat):Int)):=hB.cell 1;have Gb:Hid (Blw w w.drew):=(Below.refl _ _).drew;have u1:IntKind.u64.wrap (4 * ((n:Int) - 1))=4 * ((n:Int) - 1):=by rw [IntKind.wrap_u64];omega
 have e1:decide (4 * ((n:Int) - 1) < 0)=false:=dF;have Ge:(2:Int)<=(n:Int):=oM;have Gf:(n:Int)<=4096:=oM;unfold memV at *;generalize 64 * s=z at *;clear hB h;go_enter Tryz.func375,Tryz.ntmps375
 go_wp2;go_cut [4] from 14 to 22 (fun v wx=>v=.int .u64 0/\Hid (Blw w wx))
 case first =>
  go_region_with (go_at_call 65;refine (Gc.out _ Gb.out).mono ?_;rintro e w1 ⟨rfl,rfl⟩)
  all_goals (go_wp2_with fail;go_meet;exact ⟨rfl,Gb⟩)
 case rest =>
  obtain ⟨rfl,HW⟩:=hcut;have k0:wc.cell? ⟨g,0,none⟩=some (.iface 58 (.pointer (some ⟨a.th 0,0,none⟩))):=(Ga.out.below HW.out Ga.out.lt).cell 0;have k2:wc.cell? ⟨g,2,none⟩=some (.int .i64 n):=(Ga.out.below HW.out Ga.out.lt).cell 2;go_wp2;go_loopw [5,30] (fun l i wr=>l=.slice none 0 0/\i=.int .i64 0/\Hid (Blw w wr)) (fun _ _ _=>0)
  case atStart=>exact ⟨rfl,rfl,HW⟩
  case round =>
   obtain ⟨rfl,rfl,HR⟩:=hrel;go_wp2;go_ret;exact ⟨rfl,HR.out⟩
theorem y6m {a:DA} {L T:Nat} {w:World} {S:Fp} {cur:Nat->Nat} {F:Nat} (h:Dev a L T w S cur F) (g s n:Nat) (hB:Blk w g 330 (z2f a s n)) (hs:s < L) (hn:2<=n) (hn2:n<=4096) (h0:cur (8 * s)=0) :
  Calls Tryz.prog 341 #[.pointer (some ⟨g,0,none⟩)] w fun e w'=>e=.returned (.tuple #[.slice none 0 0,.int .i64 0])/\Blw w w':=by
 have HL:=hid (x4r h g s n hB hs hn hn2 h0);have HD:=hid h;have Gd:=hid hB;have c0:w.cell? ⟨g,0,none⟩=some (memV a):=hB.cell 0;obtain ⟨ls,Gk,Gp,cs,Gn,Ge,Gg⟩:=h;obtain ⟨f0,_,_,_,f4⟩:=Ge.facts (j:=0) oM;have Gl:=z1z (some ⟨a.th 0,0,none⟩);have hq:=y0k (some ⟨a.th 0,0,none⟩);clear Ge Gg hB;unfold memV at *;go_enter Tryz.func341,Tryz.ntmps341
 go_wp2_with (first
  | (go_at_call 375;refine HL.out.mono ?_;rintro e w1 ⟨rfl,Gb⟩;have HW:=hid Gb;have d0:w1.cell? ⟨g,0,none⟩=some (.iface 58 (.pointer (some ⟨a.th 0,0,none⟩))):=(Gd.out.below Gb Gd.out.lt).cell 0;obtain ⟨Gm,Gf,Gi,Gj,Gh,Ga,Gc⟩:=HD.out.below Gb;obtain ⟨k0,_,_,_,k4⟩:=Ga.facts (j:=0) oM;clear Gb Ga Gc)
  | go_in)
 go_ret2;exact ⟨rfl,HW.out⟩
theorem x4b {a:DA} {L T:Nat} {w:World} {S:Fp} {cur:Nat->Nat} {F:Nat} (h:Dev a L T w S cur F) (g s n:Nat) (hB:Blk w g 330 (z2f a s n)) (hs:s < L) (hn:2<=n) (hn2:n<=4096) (h0:cur (8 * s)=0) :
  Calls Tryz.prog 286 #[.pointer (some ⟨g,0,none⟩)] w fun e w'=>e=.returned (.tuple #[.slice none 0 0,.bool true,.int .i64 0])/\Blw w w':=by
 have HL:=hid (y6m h g s n hB hs hn hn2 h0);clear h hB;go_enter Tryz.func286,Tryz.ntmps286
 go_wp2_with (go_at_call 341;refine HL.out.mono ?_;rintro e w1 ⟨rfl,Ga⟩;have HW:=hid Ga;clear Ga)
 go_loopw [7,20] (fun l i wr=>l=.slice none 0 0/\i=.int .i64 0/\Hid (Blw w wr)) (fun _ _ _=>0)
 case atStart=>exact ⟨rfl,rfl,HW⟩
 case round =>
  obtain ⟨rfl,rfl,HR⟩:=hrel;go_wp2;go_ret3
  exact ⟨rfl,HR.out⟩
theorem z9m {a:DA} {L T:Nat} {w:World} {S:Fp} {cur:Nat->Nat} {F:Nat} (h:Dev a L T w S cur F) (g s n:Nat) (hB:Blk w g 330 (z2f a s n)) (hs:s < L) (hn:2<=n) (hn2:n<=4096) (h0:cur (8 * s)=0) :
  Calls Tryz.prog 180 #[.pointer (some ⟨g,0,none⟩)] w fun e w'=>e=.returned (.tuple #[.int .i64 0,.int .i64 0])/\Blw w w':=by
 have HL:=hid (x4b h g s n hB hs hn hn2 h0);clear h hB;go_enter Tryz.func180,Tryz.ntmps180
 go_wp2_with (go_at_call 286;refine HL.out.mono ?_;rintro e w1 ⟨rfl,Ga⟩;have HW:=hid Ga;clear Ga)
 go_ret2;exact ⟨rfl,HW.out⟩
end
end Go.Proofs.YtfkjjoglnmeciaaGreatDoor
