/- The Go function secateurlaw12.EvalAnswers returns true at every input, and its arguments read afterwards as they read before. Conditions: the package variables that the row lists hold at the start what the program text lays in them (the card ties this). -/
import Derived.Test.YtcghhklbldcaoaaDoorRows
import Derived.Test.YtcghhklbldcaoaaDoorGenG
import Derived.Test.YtcghhklbldcaoaaDoorSpec
import Derived.Test.YtcghhklbldcaoaaDoorEng3
import Derived.LaidMore
import Derived.Lay
import Derived.Handy
import Derived.Test.YtcghhklbldcaoaaDoorTie
import Derived.Test.YtcghhklbldcaoaaDoorCards
import Derived.SevenTiedAt
namespace Go.Proofs.YtcghhklbldcaoaaDoor.evalAnswers
open Go Go.ChangeShapes Go.WideShapes Go.ChangeAt Go.RowKit
open Go.ChangeMaps (shut_string)
open Go.Eng (arg_struct arg_slice arg_int arg_string arg_array lt_of calls_true)
set_option linter.unusedVariables false
theorem own : ownKnob Tryd.prog.godebug = none := by kernel_rfl
theorem laidOut : laidOutB Tryd.prog = true := by kernel_rfl
set_option maxRecDepth 100000 in
theorem lifted (os : Os) (started : os.Started) (H : Type) (enc : TypeId × Value → H) :
    ReturnsInHanded {} Tryd.checked os 4 .any (fun w args => (Rows.evalAnswersSpec.pre enc Tryd.prog Tryd.f4 Rows.evalAnswersRow.domain false w args ∧ laidMetH Tryd.prog Rows.evalAnswersRow.laid w) ∧ sizedMet enc Tryd.prog Tryd.f4 (OpenSpec.ofChange Rows.evalAnswersSpec) false w args)
      (Rows.evalAnswersSpec.post enc Tryd.prog Tryd.f4 false true false false) := by
  refine returnsInHanded_of_change_and (C := Tryd.checked) (X := fun w _ => laidMetH Tryd.prog Rows.evalAnswersRow.laid w) (fun _ _ _ hh h => h.of_heap hh) own started (by kernel_rfl) Tryd.func4
    (ChangeSpec.witness_shaped (enc := enc) (C := Tryd.checked) (os := os) (X := fun w _ => laidMetH Tryd.prog Rows.evalAnswersRow.laid w) false (World.laidAll Tryd.prog os Rows.evalAnswersRow.laid) #[.agg #[.int .i64 0, .int .i64 0, .slice none 0 0, .slice none 0 0, .int .i64 0, .slice none 0 0], .slice none 0 0] 8 (World.laidAll_os _ _ _)
      (World.shaped_of_ZipB (by kernel_rfl) (by kernel_rfl)) (by kernel_rfl) (by kernel_rfl) (by kernel_rfl)
      (by rw [MakeChecks.laidMetH_plain _ _ _ (by kernel_rfl)]; exact laidMet_laidAll _ (by kernel_rfl) (by kernel_rfl))) ?_
  intro W base args ds gs before hval0 hW _ _ _ _
  have hval : ∀ (j : Nat) t v, Tryd.f4.params[j]? = some t → args[j]? = some v → Value.okWide Tryd.prog W .any base t v := hval0
  have hW' := hW
  obtain ⟨p, q, hA0, hV, rfl, hfz, hnd⟩ := hW
  have hA : DataW.TrodAll enc Tryd.prog W 0 (fun _ => true) true Tryd.f4.params.toList args.toList ds p := hA0
  rw [Tryd.params4] at hA hval
  obtain ⟨v0, vs0, d0, ds0, p0, q0, hargs, rfl, rfl, h0, r0⟩ := trodAll_cons hA
  obtain ⟨v1, vs1, d1, ds1, p1, q1, rfl, rfl, rfl, h1, r1⟩ := trodAll_cons r0
  obtain ⟨rfl, rfl, rfl⟩ := trodAll_nil r1
  obtain rfl : args = #[v0, v1] := by cases args; simp_all
  obtain ⟨rfl, rfl⟩ := trodVars_none hV
  obtain ⟨x0, a0, o0⟩ := arg_struct (d := 12) (shs := [.int .i64, .int .i64, .sl [.int .i64, .int .i64], .sl [.sl [.int .i64]], .int .i64, .sl [.int .i64, .sl [.int .i64]]]) Tryd.underlying26 (hval 0 26 v0 rfl rfl) (by kernel_rfl) h0
  obtain ⟨x1, a1, o1⟩ := arg_slice (d := 12) (s := .sl [.int .i64]) Tryd.underlying27 (hval 1 27 v1 rfl rfl) (by kernel_rfl) h1
  obtain ⟨al, hs, hr⟩ := _root_.W.evalAnswers_row o0 a0 o1 a1
  refine (calls_true hs hr).mono fun e W' ⟨he, bel⟩ => ?_
  subst he
  exact ⟨_, rfl, _, _, _, [], _, [], hW', trodAll_mk1 (shut_bool Tryd.underlying4 _), (trodAll_cons_mk (Below.trod laidOut (by kernel_rfl) (of_decide_eq_true (by kernel_rfl)) h0 bel (lt_of h0)) (trodAll_cons_mk (Below.trod laidOut (by kernel_rfl) (of_decide_eq_true (by kernel_rfl)) h1 bel (lt_of h1)) trodAll_mk0)), rfl, bel.frame _, fun h => by cases h⟩
theorem over : Rows.evalAnswersRow.holds Tryd.pinned (OpenSpec.ofChange Rows.evalAnswersSpec) :=
  OpenClaim.holds_of_wide 4 Tryd.f4 rfl rfl rfl rfl rfl rfl rfl ⟨rfl, rfl, rfl, rfl, rfl⟩ rfl rfl rfl rfl rfl (by kernel_rfl) Tryd.func4 (by kernel_rfl)
    (of_decide_eq_true (by kernel_rfl)) (by unfold Func.isWrapper; first | (rw [if_pos (by decide +kernel)]; kernel_rfl) | (rw [if_neg (by decide +kernel)]; exact ⟨rfl, rfl⟩))
    (fun os started H enc _ => lifted os started H enc)
theorem card : Rows.EvalAnswersCardSaid :=
  Claim7.holds_tied_plain_at .later [] [.data, .data, .data] true (true, "3d9a41ed5ed5b6c764cdf7c805e95c0066f7b1f38db31bc9f20a1abfa4886839") false over (fun _ h => by cases h) (by kernel_rfl) (fun _ h => by cases h) evalAnswers_row_tie rfl ⟨rfl, rfl⟩ (by kernel_rfl) rfl
    (fun f fn hf hfn => by
      obtain rfl : f = 4 := Option.some.inj ((show Tryd.prog.funcNamed "secateur/secateurlaw12.EvalAnswers" = some 4 by kernel_rfl).symm.trans hf) |>.symm
      obtain rfl : fn = Tryd.f4 := (Option.some.inj (Tryd.func4.symm.trans hfn)).symm
      exact ⟨by kernel_rfl, fun j t ht => by
        rw [Tryd.params4] at ht
        have hm : t ∈ [26, 27] := by simpa using Array.mem_of_getElem? ht
        have hall : ([26, 27].all fun u => !Tryd.prog.wantsStandIn u) = true := by kernel_rfl
        exact (show Tryd.prog.wantsStandIn t = false by simpa using List.all_eq_true.1 hall t hm)⟩)
    (by kernel_rfl)
theorem proved : Rows.EvalAnswersCardSaid := card
end Go.Proofs.YtcghhklbldcaoaaDoor.evalAnswers
namespace Go.Proofs.YtcghhklbldcaoaaDoor
/-- The statement, under a short name. -/
theorem evalAnswers_holds : Rows.EvalAnswersCardSaid := evalAnswers.proved
#print axioms evalAnswers_holds
end Go.Proofs.YtcghhklbldcaoaaDoor
