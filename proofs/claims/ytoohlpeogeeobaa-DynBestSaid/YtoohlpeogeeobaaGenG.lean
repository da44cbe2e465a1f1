/- What is given from outside is so. -/
import Derived.Test.YtoohlpeogeeobaaGenT
import Derived.Test.YtoohlpeogeeobaaShelf
open Go Go.Eng
set_option linter.unusedVariables false
namespace W
theorem mixed : P.follows .mixedOrders = true := by kernel_rfl
theorem G_ok : G.Ok P := by
  intro g a H r H' hg hE
  cases H with
  | cons b H => exact absurd hE (by intro h; cases h)
  | nil =>
    have hg' : isGiven g = true := hg
    unfold isGiven at hg'
    split at hg'
    · exact good_body Go.Proofs.Try.func53 rfl (clone_sim (X := fun _ _ _ => none) mixed (fun _ _ _ _ _ h => by cases h) (cf := slices_Clone_s_int64_int64.cf) ⟨fun _ _ => Nat.zero_le _, fun _ _ => Nat.zero_le _, .inl rfl⟩ (fun rows h => ⟨1, by rw [slices_Clone_s_int64_int64.eq, onRoom_of (by omega)]; simp⟩) ⟨1, slices_Clone_s_int64_int64.eq_nil _ 0⟩ hE)
    · exact good_body Go.Proofs.Try.func116 rfl (clone_sim (X := fun _ _ _ => none) mixed (fun _ _ _ _ _ h => by cases h) (cf := slices_Clone_s_uint64_uint64.cf) ⟨fun _ _ => Nat.zero_le _, fun _ _ => Nat.zero_le _, .inl rfl⟩ (fun rows h => ⟨1, by rw [slices_Clone_s_uint64_uint64.eq, onRoom_of (by omega)]; simp⟩) ⟨1, slices_Clone_s_uint64_uint64.eq_nil _ 0⟩ hE)
    · exact good_ext Go.Proofs.Try.func117 (by kernel_rfl) fun _ => add64_ext Go.Proofs.Try.func117 (by kernel_rfl) (by kernel_rfl) (by kernel_rfl) (by kernel_rfl) hE
    · exact good_ext Go.Proofs.Try.func118 (by kernel_rfl) fun _ => sub64_ext Go.Proofs.Try.func118 (by kernel_rfl) (by kernel_rfl) (by kernel_rfl) (by kernel_rfl) hE
    · cases hg'
end W
