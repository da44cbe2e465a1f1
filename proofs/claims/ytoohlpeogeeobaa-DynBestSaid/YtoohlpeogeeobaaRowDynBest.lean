/- The Go function secateurlaw30.DynBest returns true at every input, and its argument reads afterwards as it read before. Conditions: none. -/
import Derived.Test.YtoohlpeogeeobaaRows
import Derived.Test.YtoohlpeogeeobaaGenG
import Derived.Test.YtoohlpeogeeobaaSpec1
import Derived.Test.YtoohlpeogeeobaaEng3
import Derived.LaidMore
import Derived.Lay
import Derived.Handy
namespace Go.Proofs.Ytoohlpeogeeobaa.dynBest
open Go Go.ChangeShapes Go.WideShapes Go.ChangeAt Go.RowKit
open Go.ChangeMaps (shut_string)
open Go.Eng (arg_struct arg_slice arg_int arg_string arg_array lt_of calls_true)
set_option linter.unusedVariables false
theorem own : ownKnob Try.prog.godebug = none := by kernel_rfl
theorem laidOut : laidOutB Try.prog = true := by kernel_rfl
set_option maxRecDepth 100000 in
theorem lifted (os : Os) (started : os.Started) (H : Type) (enc : TypeId × Value → H) :
    ReturnsInHanded {} Try.checked os 3 .any (Rows.dynBestSpec.pre6 enc Try.prog Try.f3 Rows.dynBestRow.domain false) (Rows.dynBestSpec.post enc Try.prog Try.f3 false true false false) := by
  refine returnsInHanded_of_change_sized (C := Try.checked) own started (by kernel_rfl) Try.func3
    (ChangeSpec.witness6 (enc := enc) (C := Try.checked) false ⟨#[], #[.agg #[.int .i64 0, .int .i64 0, .slice none 0 0, .slice none 0 0, .int .i64 0, .slice none 0 0]], []⟩ 8 (by kernel_rfl) (by kernel_rfl) (by kernel_rfl) (by kernel_rfl)) ?_
  intro W base args ds gs before hval0 hW hcnd hsz0 _
  have hval : ∀ (j : Nat) t v, Try.f3.params[j]? = some t → args[j]? = some v → Value.okWide Try.prog W .any base t v := hval0
  have hW' := hW
  obtain ⟨p, q, hA0, hV, rfl, hfz, hnd⟩ := hW
  have hA : DataW.TrodAll enc Try.prog W 0 (fun _ => true) true Try.f3.params.toList args.toList ds p := hA0
  rw [Try.params3] at hA hval
  obtain ⟨v0, vs0, d0, ds0, p0, q0, hargs, rfl, rfl, h0, r0⟩ := trodAll_cons hA
  obtain ⟨rfl, rfl, rfl⟩ := trodAll_nil r0
  obtain rfl : args = #[v0] := by cases args; simp_all
  obtain ⟨rfl, rfl⟩ := trodVars_none hV
  obtain ⟨x0, a0, o0⟩ := arg_struct (d := 12) (shs := [.int .i64, .int .i64, .sl [.int .i64, .int .i64], .sl [.sl [.int .i64]], .int .i64, .sl [.int .i64, .sl [.int .i64]]]) Try.underlying26 (hval 0 26 v0 rfl rfl) (by kernel_rfl) h0
  obtain ⟨al, hs, hr⟩ := _root_.W.dynBest_row o0 a0
  refine (calls_true hs hr).mono fun e W' ⟨he, bel⟩ => ?_
  subst he
  exact ⟨_, rfl, _, _, _, [], _, [], hW', trodAll_mk1 (shut_bool Try.underlying4 _), (trodAll_cons_mk (Below.trod laidOut (by kernel_rfl) (of_decide_eq_true (by kernel_rfl)) h0 bel (lt_of h0)) trodAll_mk0), rfl, bel.frame _, fun h => by cases h⟩
theorem over : Rows.dynBestRow.holds Try.pinned (OpenSpec.ofChange Rows.dynBestSpec) :=
  OpenClaim.holds_of_wide 3 Try.f3 rfl rfl rfl rfl rfl rfl rfl ⟨rfl, rfl, rfl, rfl, rfl⟩ rfl rfl rfl rfl rfl (by kernel_rfl) Try.func3 (by kernel_rfl)
    (of_decide_eq_true (by kernel_rfl)) (by unfold Func.isWrapper; first | (rw [if_pos (by decide +kernel)]; kernel_rfl) | (rw [if_neg (by decide +kernel)]; exact ⟨rfl, rfl⟩))
    (fun os started H enc _ => lifted os started H enc)
theorem proved : Rows.DynBestSaid := over
end Go.Proofs.Ytoohlpeogeeobaa.dynBest
namespace Go.Proofs.Ytoohlpeogeeobaa
/-- The statement, under a short name. -/
theorem dynBest_holds : Rows.DynBestSaid := dynBest.proved
#print axioms dynBest_holds
end Go.Proofs.Ytoohlpeogeeobaa
