/- The walks and laws that the claim leans on, part 58. -/
import Derived.Test.YtpihhlbfpbngaaaGreatDoorJbn
namespace Go.Proofs.YtpihhlbfpbngaaaGreatDoor
open Go.RowKit Go.Maps
section
variable {a : DA} {L T s n K : Nat} {x : HA} {cs : Nat → CS} {f : Nat → Option Nat} {N m b0 : Nat} {S : Fp} {cur : Nat → Nat} {w w' : World} {d r : Nat}
set_option maxRecDepth 100000
set_option maxHeartbeats 4000000
theorem link_bad (h : SD a L T s n K x cs f N m b0 S cur w d r) (p next : Nat) (hp64 : p < 18446744073709551616) (hc : chkR s K cs p 1 ≠ 0) :
    Calls Tryz.prog 33 #[dirV d, .int .u64 (p : Int), .int .u64 (next : Int)] w fun e w' => e = .returned (.tuple #[.slice none 0 0, .int .i64 (chkR s K cs p 1 : Int)]) ∧ Below w.heap.size w w' := by
  have HC := Lib.hid (checkD h p 1 hp64 (by omega))
  rw [show ((1 : Nat) : Int) = 1 from rfl] at HC
  have HEr : Hid (∀ W, Below w.heap.size w W → Calls Tryz.prog 361 #[.pointer (some ⟨d, 0, none⟩)] W fun e w' => e = .returned (.int .i64 0) ∧ W = w') := Lib.hid (fun W hW => errD (h.ds.dev.below hW) (h.dir.below hW h.dir.lt))
  have hmE := methDErr (some ⟨d, 0, none⟩)
  have hmC := methDCheck (some ⟨d, 0, none⟩)
  have hnil : ∀ W, (binOp .eql 113 (.iface 37 (.pointer (some ⟨d, 0, none⟩))) .nilIface).run Tryz.prog W = .ok (.bool false) W := fun W => by rfl
  obtain ⟨v, hv⟩ : ∃ v, chkR s K cs p 1 = v := ⟨_, rfl⟩
  rw [hv] at HC hc ⊢
  have d1 : ((v : Int) != 0) = true := by rw [bne, beq_eq_false_iff_ne.2 (by omega)]; rfl
  clear h hc hv
  unfold dirV
  go_enter Tryz.func33, Tryz.ntmps33
  go_wp2_with (first
    | (go_at_call 361; refine (HEr.out _ (Below.refl _ _)).mono ?_; rintro e w2 ⟨rfl, rfl⟩)
    | (go_at_call 31; refine HC.out.mono ?_; rintro e w1 ⟨rfl, hb1⟩; have HB1 := Lib.hid hb1; clear hb1))
  go_ret2
  exact ⟨rfl, HB1.out⟩
end
end Go.Proofs.YtpihhlbfpbngaaaGreatDoor
