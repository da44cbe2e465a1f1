/- The table's parts. -/
import Derived.Test.YtcghhklbldcaoaaDoorGen0
import Derived.Test.YtcghhklbldcaoaaDoorGen1
open Go Go.Eng
set_option linter.unusedVariables false
namespace W
noncomputable def cfs : FuncId → Cf
  | 3 => law_EvalBetter.cf
  | 4 => law_EvalAnswers.cf
  | 5 => law_insts.cf
  | 6 => law_tame.cf
  | 7 => law_answers.cf
  | 8 => eval_Value.cf
  | 9 => eval_Cost.cf
  | 10 => eval_Better.cf
  | 11 => law_wakes.cf
  | 12 => ref12_Value.cf
  | 13 => ref12_Cost.cf
  | 14 => eval_Feasible.cf
  | 15 => ref12_Feasible.cf
  | 16 => law_tame_fn1.cf
  | 17 => inst_Inst_Check.cf
  | 18 => eval_may.cf
  | 19 => num_Sum.cf
  | 20 => eval_parts.cf
  | 21 => eval_Text.cf
  | 22 => ref09_Check.cf
  | 23 => ref12_rises.cf
  | 24 => ref12_each.cf
  | 25 => ref12_has.cf
  | 26 => inst_Kind_is.cf
  | 27 => inst_Inst_lean.cf
  | 28 => inst_Inst_few.cf
  | 29 => inst_Inst_shaped.cf
  | 30 => inst_Inst_small.cf
  | 31 => inst_Inst_bare.cf
  | 32 => eval_rises.cf
  | 33 => eval_fits.cf
  | 34 => eval_order.cf
  | 35 => eval_covers.cf
  | 36 => num_short.cf
  | 37 => num_total.cf
  | 40 => ref09_numbers.cf
  | 41 => inst_Kind_square.cf
  | 42 => inst_from.cf
  | 43 => bitset_New.cf
  | 44 => bitset_Set_Has.cf
  | 45 => bitset_Set_With.cf
  | 46 => bitset_Set_Count.cf
  | 47 => num_add.cf
  | 48 => num_of.cf
  | 53 => ref09_out.cf
  | 54 => bitset_Set_within.cf
  | 55 => bitset_Set_copied.cf
  | 56 => math_bits_OnesCount64.cf
  | 57 => num_plus.cf
  | 58 => num_distance.cf
  | 59 => num_normal.cf
  | 60 => num_less.cf
  | 61 => num_size.cf
  | 67 => cmp_Or_int.cf
  | 68 => cmp_Compare_uint64.cf
  | 76 => cmp_isNaN_uint64.cf
  | _ => {}
def isGiven : FuncId → Bool
  | 38 => true
  | 39 => true
  | 65 => true
  | 66 => true
  | 69 => true
  | _ => false
def givE : Orc := fun g a H => match H with
  | [] => match g with
    | 38 => (itoaE) a
    | 39 => (joinE) a
    | 65 => (cloneE 1) a
    | 66 => (add64E) a
    | 69 => (sub64E) a
    | _ => none
  | _ => none
def G : Giv := ⟨isGiven, givE⟩
noncomputable def T : Orc := tab P G cfs
theorem T_run {g : Nat} {cf : Cf} {a : List AVal} {r : Res} (hg : isGiven g = false) (hcf : cfs g = cf) (h : Ev' (fun k => runF P T cf (k + 1) g a []) r) : T g a [] = some r := by
  obtain ⟨k, h⟩ := h.get
  subst hcf
  exact tab_run (G := G) (k + 1) hg ⟨fun _ _ => Nat.zero_le _, fun _ _ => Nat.zero_le _, .inl rfl⟩ h
theorem law_EvalBetter.tab {a : List AVal} {r : Res} (h : Ev' (fun k => runF P T law_EvalBetter.cf (k + 1) F.law_EvalBetter a []) r) : T F.law_EvalBetter a [] = some r := T_run rfl rfl h
theorem law_EvalAnswers.tab {a : List AVal} {r : Res} (h : Ev' (fun k => runF P T law_EvalAnswers.cf (k + 1) F.law_EvalAnswers a []) r) : T F.law_EvalAnswers a [] = some r := T_run rfl rfl h
theorem law_insts.tab {a : List AVal} {r : Res} (h : Ev' (fun k => runF P T law_insts.cf (k + 1) F.law_insts a []) r) : T F.law_insts a [] = some r := T_run rfl rfl h
theorem law_tame.tab {a : List AVal} {r : Res} (h : Ev' (fun k => runF P T law_tame.cf (k + 1) F.law_tame a []) r) : T F.law_tame a [] = some r := T_run rfl rfl h
theorem law_answers.tab {a : List AVal} {r : Res} (h : Ev' (fun k => runF P T law_answers.cf (k + 1) F.law_answers a []) r) : T F.law_answers a [] = some r := T_run rfl rfl h
theorem eval_Value.tab {a : List AVal} {r : Res} (h : Ev' (fun k => runF P T eval_Value.cf (k + 1) F.eval_Value a []) r) : T F.eval_Value a [] = some r := T_run rfl rfl h
theorem eval_Cost.tab {a : List AVal} {r : Res} (h : Ev' (fun k => runF P T eval_Cost.cf (k + 1) F.eval_Cost a []) r) : T F.eval_Cost a [] = some r := T_run rfl rfl h
theorem eval_Better.tab {a : List AVal} {r : Res} (h : Ev' (fun k => runF P T eval_Better.cf (k + 1) F.eval_Better a []) r) : T F.eval_Better a [] = some r := T_run rfl rfl h
theorem law_wakes.tab {a : List AVal} {r : Res} (h : Ev' (fun k => runF P T law_wakes.cf (k + 1) F.law_wakes a []) r) : T F.law_wakes a [] = some r := T_run rfl rfl h
theorem ref12_Value.tab {a : List AVal} {r : Res} (h : Ev' (fun k => runF P T ref12_Value.cf (k + 1) F.ref12_Value a []) r) : T F.ref12_Value a [] = some r := T_run rfl rfl h
theorem ref12_Cost.tab {a : List AVal} {r : Res} (h : Ev' (fun k => runF P T ref12_Cost.cf (k + 1) F.ref12_Cost a []) r) : T F.ref12_Cost a [] = some r := T_run rfl rfl h
theorem eval_Feasible.tab {a : List AVal} {r : Res} (h : Ev' (fun k => runF P T eval_Feasible.cf (k + 1) F.eval_Feasible a []) r) : T F.eval_Feasible a [] = some r := T_run rfl rfl h
theorem ref12_Feasible.tab {a : List AVal} {r : Res} (h : Ev' (fun k => runF P T ref12_Feasible.cf (k + 1) F.ref12_Feasible a []) r) : T F.ref12_Feasible a [] = some r := T_run rfl rfl h
theorem law_tame_fn1.tab {a : List AVal} {r : Res} (h : Ev' (fun k => runF P T law_tame_fn1.cf (k + 1) F.law_tame_fn1 a []) r) : T F.law_tame_fn1 a [] = some r := T_run rfl rfl h
theorem inst_Inst_Check.tab {a : List AVal} {r : Res} (h : Ev' (fun k => runF P T inst_Inst_Check.cf (k + 1) F.inst_Inst_Check a []) r) : T F.inst_Inst_Check a [] = some r := T_run rfl rfl h
theorem eval_may.tab {a : List AVal} {r : Res} (h : Ev' (fun k => runF P T eval_may.cf (k + 1) F.eval_may a []) r) : T F.eval_may a [] = some r := T_run rfl rfl h
theorem num_Sum.tab {a : List AVal} {r : Res} (h : Ev' (fun k => runF P T num_Sum.cf (k + 1) F.num_Sum a []) r) : T F.num_Sum a [] = some r := T_run rfl rfl h
theorem eval_parts.tab {a : List AVal} {r : Res} (h : Ev' (fun k => runF P T eval_parts.cf (k + 1) F.eval_parts a []) r) : T F.eval_parts a [] = some r := T_run rfl rfl h
theorem eval_Text.tab {a : List AVal} {r : Res} (h : Ev' (fun k => runF P T eval_Text.cf (k + 1) F.eval_Text a []) r) : T F.eval_Text a [] = some r := T_run rfl rfl h
theorem ref09_Check.tab {a : List AVal} {r : Res} (h : Ev' (fun k => runF P T ref09_Check.cf (k + 1) F.ref09_Check a []) r) : T F.ref09_Check a [] = some r := T_run rfl rfl h
theorem ref12_rises.tab {a : List AVal} {r : Res} (h : Ev' (fun k => runF P T ref12_rises.cf (k + 1) F.ref12_rises a []) r) : T F.ref12_rises a [] = some r := T_run rfl rfl h
theorem ref12_each.tab {a : List AVal} {r : Res} (h : Ev' (fun k => runF P T ref12_each.cf (k + 1) F.ref12_each a []) r) : T F.ref12_each a [] = some r := T_run rfl rfl h
theorem ref12_has.tab {a : List AVal} {r : Res} (h : Ev' (fun k => runF P T ref12_has.cf (k + 1) F.ref12_has a []) r) : T F.ref12_has a [] = some r := T_run rfl rfl h
theorem inst_Kind_is.tab {a : List AVal} {r : Res} (h : Ev' (fun k => runF P T inst_Kind_is.cf (k + 1) F.inst_Kind_is a []) r) : T F.inst_Kind_is a [] = some r := T_run rfl rfl h
theorem inst_Inst_lean.tab {a : List AVal} {r : Res} (h : Ev' (fun k => runF P T inst_Inst_lean.cf (k + 1) F.inst_Inst_lean a []) r) : T F.inst_Inst_lean a [] = some r := T_run rfl rfl h
theorem inst_Inst_few.tab {a : List AVal} {r : Res} (h : Ev' (fun k => runF P T inst_Inst_few.cf (k + 1) F.inst_Inst_few a []) r) : T F.inst_Inst_few a [] = some r := T_run rfl rfl h
theorem inst_Inst_shaped.tab {a : List AVal} {r : Res} (h : Ev' (fun k => runF P T inst_Inst_shaped.cf (k + 1) F.inst_Inst_shaped a []) r) : T F.inst_Inst_shaped a [] = some r := T_run rfl rfl h
theorem inst_Inst_small.tab {a : List AVal} {r : Res} (h : Ev' (fun k => runF P T inst_Inst_small.cf (k + 1) F.inst_Inst_small a []) r) : T F.inst_Inst_small a [] = some r := T_run rfl rfl h
theorem inst_Inst_bare.tab {a : List AVal} {r : Res} (h : Ev' (fun k => runF P T inst_Inst_bare.cf (k + 1) F.inst_Inst_bare a []) r) : T F.inst_Inst_bare a [] = some r := T_run rfl rfl h
theorem eval_rises.tab {a : List AVal} {r : Res} (h : Ev' (fun k => runF P T eval_rises.cf (k + 1) F.eval_rises a []) r) : T F.eval_rises a [] = some r := T_run rfl rfl h
theorem eval_fits.tab {a : List AVal} {r : Res} (h : Ev' (fun k => runF P T eval_fits.cf (k + 1) F.eval_fits a []) r) : T F.eval_fits a [] = some r := T_run rfl rfl h
theorem eval_order.tab {a : List AVal} {r : Res} (h : Ev' (fun k => runF P T eval_order.cf (k + 1) F.eval_order a []) r) : T F.eval_order a [] = some r := T_run rfl rfl h
theorem eval_covers.tab {a : List AVal} {r : Res} (h : Ev' (fun k => runF P T eval_covers.cf (k + 1) F.eval_covers a []) r) : T F.eval_covers a [] = some r := T_run rfl rfl h
theorem num_short.tab {a : List AVal} {r : Res} (h : Ev' (fun k => runF P T num_short.cf (k + 1) F.num_short a []) r) : T F.num_short a [] = some r := T_run rfl rfl h
theorem num_total.tab {a : List AVal} {r : Res} (h : Ev' (fun k => runF P T num_total.cf (k + 1) F.num_total a []) r) : T F.num_total a [] = some r := T_run rfl rfl h
theorem ref09_numbers.tab {a : List AVal} {r : Res} (h : Ev' (fun k => runF P T ref09_numbers.cf (k + 1) F.ref09_numbers a []) r) : T F.ref09_numbers a [] = some r := T_run rfl rfl h
theorem inst_Kind_square.tab {a : List AVal} {r : Res} (h : Ev' (fun k => runF P T inst_Kind_square.cf (k + 1) F.inst_Kind_square a []) r) : T F.inst_Kind_square a [] = some r := T_run rfl rfl h
theorem inst_from.tab {a : List AVal} {r : Res} (h : Ev' (fun k => runF P T inst_from.cf (k + 1) F.inst_from a []) r) : T F.inst_from a [] = some r := T_run rfl rfl h
theorem bitset_New.tab {a : List AVal} {r : Res} (h : Ev' (fun k => runF P T bitset_New.cf (k + 1) F.bitset_New a []) r) : T F.bitset_New a [] = some r := T_run rfl rfl h
theorem bitset_Set_Has.tab {a : List AVal} {r : Res} (h : Ev' (fun k => runF P T bitset_Set_Has.cf (k + 1) F.bitset_Set_Has a []) r) : T F.bitset_Set_Has a [] = some r := T_run rfl rfl h
theorem bitset_Set_With.tab {a : List AVal} {r : Res} (h : Ev' (fun k => runF P T bitset_Set_With.cf (k + 1) F.bitset_Set_With a []) r) : T F.bitset_Set_With a [] = some r := T_run rfl rfl h
theorem bitset_Set_Count.tab {a : List AVal} {r : Res} (h : Ev' (fun k => runF P T bitset_Set_Count.cf (k + 1) F.bitset_Set_Count a []) r) : T F.bitset_Set_Count a [] = some r := T_run rfl rfl h
theorem num_add.tab {a : List AVal} {r : Res} (h : Ev' (fun k => runF P T num_add.cf (k + 1) F.num_add a []) r) : T F.num_add a [] = some r := T_run rfl rfl h
theorem num_of.tab {a : List AVal} {r : Res} (h : Ev' (fun k => runF P T num_of.cf (k + 1) F.num_of a []) r) : T F.num_of a [] = some r := T_run rfl rfl h
theorem ref09_out.tab {a : List AVal} {r : Res} (h : Ev' (fun k => runF P T ref09_out.cf (k + 1) F.ref09_out a []) r) : T F.ref09_out a [] = some r := T_run rfl rfl h
theorem bitset_Set_within.tab {a : List AVal} {r : Res} (h : Ev' (fun k => runF P T bitset_Set_within.cf (k + 1) F.bitset_Set_within a []) r) : T F.bitset_Set_within a [] = some r := T_run rfl rfl h
theorem bitset_Set_copied.tab {a : List AVal} {r : Res} (h : Ev' (fun k => runF P T bitset_Set_copied.cf (k + 1) F.bitset_Set_copied a []) r) : T F.bitset_Set_copied a [] = some r := T_run rfl rfl h
theorem math_bits_OnesCount64.tab {a : List AVal} {r : Res} (h : Ev' (fun k => runF P T math_bits_OnesCount64.cf (k + 1) F.math_bits_OnesCount64 a []) r) : T F.math_bits_OnesCount64 a [] = some r := T_run rfl rfl h
theorem num_plus.tab {a : List AVal} {r : Res} (h : Ev' (fun k => runF P T num_plus.cf (k + 1) F.num_plus a []) r) : T F.num_plus a [] = some r := T_run rfl rfl h
theorem num_distance.tab {a : List AVal} {r : Res} (h : Ev' (fun k => runF P T num_distance.cf (k + 1) F.num_distance a []) r) : T F.num_distance a [] = some r := T_run rfl rfl h
theorem num_normal.tab {a : List AVal} {r : Res} (h : Ev' (fun k => runF P T num_normal.cf (k + 1) F.num_normal a []) r) : T F.num_normal a [] = some r := T_run rfl rfl h
theorem num_less.tab {a : List AVal} {r : Res} (h : Ev' (fun k => runF P T num_less.cf (k + 1) F.num_less a []) r) : T F.num_less a [] = some r := T_run rfl rfl h
theorem num_size.tab {a : List AVal} {r : Res} (h : Ev' (fun k => runF P T num_size.cf (k + 1) F.num_size a []) r) : T F.num_size a [] = some r := T_run rfl rfl h
theorem cmp_Or_int.tab {a : List AVal} {r : Res} (h : Ev' (fun k => runF P T cmp_Or_int.cf (k + 1) F.cmp_Or_int a []) r) : T F.cmp_Or_int a [] = some r := T_run rfl rfl h
theorem cmp_Compare_uint64.tab {a : List AVal} {r : Res} (h : Ev' (fun k => runF P T cmp_Compare_uint64.cf (k + 1) F.cmp_Compare_uint64 a []) r) : T F.cmp_Compare_uint64 a [] = some r := T_run rfl rfl h
theorem cmp_isNaN_uint64.tab {a : List AVal} {r : Res} (h : Ev' (fun k => runF P T cmp_isNaN_uint64.cf (k + 1) F.cmp_isNaN_uint64 a []) r) : T F.cmp_isNaN_uint64 a [] = some r := T_run rfl rfl h
theorem strconv_Itoa.giv {a : List AVal} {r : Res} (h : (itoaE) a = some r) : T F.strconv_Itoa a [] = some r := tab_giv (G := G) rfl h
theorem strings_Join.giv {a : List AVal} {r : Res} (h : (joinE) a = some r) : T F.strings_Join a [] = some r := tab_giv (G := G) rfl h
theorem slices_Clone_s_uint64_uint64.giv {a : List AVal} {r : Res} (h : (cloneE 1) a = some r) : T F.slices_Clone_s_uint64_uint64 a [] = some r := tab_giv (G := G) rfl h
theorem math_bits_Add64.giv {a : List AVal} {r : Res} (h : (add64E) a = some r) : T F.math_bits_Add64 a [] = some r := tab_giv (G := G) rfl h
theorem math_bits_Sub64.giv {a : List AVal} {r : Res} (h : (sub64E) a = some r) : T F.math_bits_Sub64 a [] = some r := tab_giv (G := G) rfl h
end W
