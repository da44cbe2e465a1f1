/- The table's parts. -/
import Derived.Test.YtoohlpeogeeobaaGen0
import Derived.Test.YtoohlpeogeeobaaGen1
open Go Go.Eng
set_option linter.unusedVariables false
namespace W
noncomputable def cfs : FuncId → Cf
  | 3 => law_DynBest.cf
  | 5 => law_insts.cf
  | 6 => law_light.cf
  | 7 => dyn_Best.cf
  | 8 => ref13_Best.cf
  | 9 => ref30_Cells.cf
  | 10 => law_wakes.cf
  | 11 => eval_Cost.cf
  | 12 => dyn_Frontier.cf
  | 14 => law_tame.cf
  | 15 => dyn_Cells.cf
  | 16 => dyn_knapsack.cf
  | 17 => dyn_assignment.cf
  | 18 => dyn_tour.cf
  | 19 => dyn_cover.cf
  | 20 => ref13_Count.cf
  | 21 => ref13_All.cf
  | 22 => ref12_Cost.cf
  | 23 => ref09_Check.cf
  | 24 => ref09_N.cf
  | 25 => ref01_Of.cf
  | 26 => ref01_Mul.cf
  | 27 => ref01_Short.cf
  | 28 => eval_Value.cf
  | 29 => dyn_rows.cf
  | 34 => law_tame_fn1.cf
  | 35 => inst_Inst_Check.cf
  | 36 => dyn_grow.cf
  | 37 => dyn_room.cf
  | 38 => dyn_twos.cf
  | 39 => inst_Inst_N.cf
  | 41 => math_bits_OnesCount.cf
  | 43 => dyn_trace.cf
  | 44 => dyn_elements.cf
  | 45 => ref13_orders.cf
  | 46 => ref12_Value.cf
  | 47 => ref09_numbers.cf
  | 48 => ref01_trim.cf
  | 49 => ref01_Cmp.cf
  | 50 => eval_may.cf
  | 51 => num_Sum.cf
  | 52 => eval_parts.cf
  | 63 => inst_Kind_is.cf
  | 64 => inst_Inst_lean.cf
  | 65 => inst_Inst_few.cf
  | 66 => inst_Inst_shaped.cf
  | 67 => inst_Inst_small.cf
  | 68 => inst_Inst_bare.cf
  | 69 => math_bits_Len.cf
  | 70 => math_bits_OnesCount32.cf
  | 71 => math_bits_OnesCount64.cf
  | 72 => ref12_Feasible.cf
  | 73 => ref09_out.cf
  | 74 => ref01_far.cf
  | 75 => eval_rises.cf
  | 76 => eval_fits.cf
  | 77 => eval_order.cf
  | 78 => eval_covers.cf
  | 79 => num_short.cf
  | 80 => num_total.cf
  | 86 => num_size.cf
  | 88 => inst_Kind_square.cf
  | 89 => inst_from.cf
  | 92 => ref12_rises.cf
  | 93 => ref12_each.cf
  | 94 => ref12_has.cf
  | 95 => bitset_New.cf
  | 96 => bitset_Set_Has.cf
  | 97 => bitset_Set_With.cf
  | 98 => bitset_Set_Count.cf
  | 99 => num_add.cf
  | 100 => num_of.cf
  | 105 => num_distance.cf
  | 107 => bitset_Set_within.cf
  | 108 => bitset_Set_copied.cf
  | 109 => num_plus.cf
  | 110 => num_normal.cf
  | 111 => num_less.cf
  | 114 => cmp_Or_int.cf
  | 115 => cmp_Compare_uint64.cf
  | 120 => cmp_isNaN_uint64.cf
  | _ => {}
def isGiven : FuncId → Bool
  | 53 => true
  | 116 => true
  | 117 => true
  | 118 => true
  | _ => false
def givE : Orc := fun g a H => match H with
  | [] => match g with
    | 53 => (cloneE 1) a
    | 116 => (cloneE 1) a
    | 117 => (add64E) a
    | 118 => (sub64E) a
    | _ => none
  | _ => none
def G : Giv := ⟨isGiven, givE⟩
noncomputable def T : Orc := tab P G cfs
theorem T_run {g : Nat} {cf : Cf} {a : List AVal} {r : Res} (hg : isGiven g = false) (hcf : cfs g = cf) (h : Ev' (fun k => runF P T cf (k + 1) g a []) r) : T g a [] = some r := by
  obtain ⟨k, h⟩ := h.get
  subst hcf
  exact tab_run (G := G) (k + 1) hg ⟨fun _ _ => Nat.zero_le _, fun _ _ => Nat.zero_le _, .inl rfl⟩ h
theorem law_DynBest.tab {a : List AVal} {r : Res} (h : Ev' (fun k => runF P T law_DynBest.cf (k + 1) F.law_DynBest a []) r) : T F.law_DynBest a [] = some r := T_run rfl rfl h
theorem law_insts.tab {a : List AVal} {r : Res} (h : Ev' (fun k => runF P T law_insts.cf (k + 1) F.law_insts a []) r) : T F.law_insts a [] = some r := T_run rfl rfl h
theorem law_light.tab {a : List AVal} {r : Res} (h : Ev' (fun k => runF P T law_light.cf (k + 1) F.law_light a []) r) : T F.law_light a [] = some r := T_run rfl rfl h
theorem dyn_Best.tab {a : List AVal} {r : Res} (h : Ev' (fun k => runF P T dyn_Best.cf (k + 1) F.dyn_Best a []) r) : T F.dyn_Best a [] = some r := T_run rfl rfl h
theorem ref13_Best.tab {a : List AVal} {r : Res} (h : Ev' (fun k => runF P T ref13_Best.cf (k + 1) F.ref13_Best a []) r) : T F.ref13_Best a [] = some r := T_run rfl rfl h
theorem ref30_Cells.tab {a : List AVal} {r : Res} (h : Ev' (fun k => runF P T ref30_Cells.cf (k + 1) F.ref30_Cells a []) r) : T F.ref30_Cells a [] = some r := T_run rfl rfl h
theorem law_wakes.tab {a : List AVal} {r : Res} (h : Ev' (fun k => runF P T law_wakes.cf (k + 1) F.law_wakes a []) r) : T F.law_wakes a [] = some r := T_run rfl rfl h
theorem eval_Cost.tab {a : List AVal} {r : Res} (h : Ev' (fun k => runF P T eval_Cost.cf (k + 1) F.eval_Cost a []) r) : T F.eval_Cost a [] = some r := T_run rfl rfl h
theorem dyn_Frontier.tab {a : List AVal} {r : Res} (h : Ev' (fun k => runF P T dyn_Frontier.cf (k + 1) F.dyn_Frontier a []) r) : T F.dyn_Frontier a [] = some r := T_run rfl rfl h
theorem law_tame.tab {a : List AVal} {r : Res} (h : Ev' (fun k => runF P T law_tame.cf (k + 1) F.law_tame a []) r) : T F.law_tame a [] = some r := T_run rfl rfl h
theorem dyn_Cells.tab {a : List AVal} {r : Res} (h : Ev' (fun k => runF P T dyn_Cells.cf (k + 1) F.dyn_Cells a []) r) : T F.dyn_Cells a [] = some r := T_run rfl rfl h
theorem dyn_knapsack.tab {a : List AVal} {r : Res} (h : Ev' (fun k => runF P T dyn_knapsack.cf (k + 1) F.dyn_knapsack a []) r) : T F.dyn_knapsack a [] = some r := T_run rfl rfl h
theorem dyn_assignment.tab {a : List AVal} {r : Res} (h : Ev' (fun k => runF P T dyn_assignment.cf (k + 1) F.dyn_assignment a []) r) : T F.dyn_assignment a [] = some r := T_run rfl rfl h
theorem dyn_tour.tab {a : List AVal} {r : Res} (h : Ev' (fun k => runF P T dyn_tour.cf (k + 1) F.dyn_tour a []) r) : T F.dyn_tour a [] = some r := T_run rfl rfl h
theorem dyn_cover.tab {a : List AVal} {r : Res} (h : Ev' (fun k => runF P T dyn_cover.cf (k + 1) F.dyn_cover a []) r) : T F.dyn_cover a [] = some r := T_run rfl rfl h
theorem ref13_Count.tab {a : List AVal} {r : Res} (h : Ev' (fun k => runF P T ref13_Count.cf (k + 1) F.ref13_Count a []) r) : T F.ref13_Count a [] = some r := T_run rfl rfl h
theorem ref13_All.tab {a : List AVal} {r : Res} (h : Ev' (fun k => runF P T ref13_All.cf (k + 1) F.ref13_All a []) r) : T F.ref13_All a [] = some r := T_run rfl rfl h
theorem ref12_Cost.tab {a : List AVal} {r : Res} (h : Ev' (fun k => runF P T ref12_Cost.cf (k + 1) F.ref12_Cost a []) r) : T F.ref12_Cost a [] = some r := T_run rfl rfl h
theorem ref09_Check.tab {a : List AVal} {r : Res} (h : Ev' (fun k => runF P T ref09_Check.cf (k + 1) F.ref09_Check a []) r) : T F.ref09_Check a [] = some r := T_run rfl rfl h
theorem ref09_N.tab {a : List AVal} {r : Res} (h : Ev' (fun k => runF P T ref09_N.cf (k + 1) F.ref09_N a []) r) : T F.ref09_N a [] = some r := T_run rfl rfl h
theorem ref01_Of.tab {a : List AVal} {r : Res} (h : Ev' (fun k => runF P T ref01_Of.cf (k + 1) F.ref01_Of a []) r) : T F.ref01_Of a [] = some r := T_run rfl rfl h
theorem ref01_Mul.tab {a : List AVal} {r : Res} (h : Ev' (fun k => runF P T ref01_Mul.cf (k + 1) F.ref01_Mul a []) r) : T F.ref01_Mul a [] = some r := T_run rfl rfl h
theorem ref01_Short.tab {a : List AVal} {r : Res} (h : Ev' (fun k => runF P T ref01_Short.cf (k + 1) F.ref01_Short a []) r) : T F.ref01_Short a [] = some r := T_run rfl rfl h
theorem eval_Value.tab {a : List AVal} {r : Res} (h : Ev' (fun k => runF P T eval_Value.cf (k + 1) F.eval_Value a []) r) : T F.eval_Value a [] = some r := T_run rfl rfl h
theorem dyn_rows.tab {a : List AVal} {r : Res} (h : Ev' (fun k => runF P T dyn_rows.cf (k + 1) F.dyn_rows a []) r) : T F.dyn_rows a [] = some r := T_run rfl rfl h
theorem law_tame_fn1.tab {a : List AVal} {r : Res} (h : Ev' (fun k => runF P T law_tame_fn1.cf (k + 1) F.law_tame_fn1 a []) r) : T F.law_tame_fn1 a [] = some r := T_run rfl rfl h
theorem inst_Inst_Check.tab {a : List AVal} {r : Res} (h : Ev' (fun k => runF P T inst_Inst_Check.cf (k + 1) F.inst_Inst_Check a []) r) : T F.inst_Inst_Check a [] = some r := T_run rfl rfl h
theorem dyn_grow.tab {a : List AVal} {r : Res} (h : Ev' (fun k => runF P T dyn_grow.cf (k + 1) F.dyn_grow a []) r) : T F.dyn_grow a [] = some r := T_run rfl rfl h
theorem dyn_room.tab {a : List AVal} {r : Res} (h : Ev' (fun k => runF P T dyn_room.cf (k + 1) F.dyn_room a []) r) : T F.dyn_room a [] = some r := T_run rfl rfl h
theorem dyn_twos.tab {a : List AVal} {r : Res} (h : Ev' (fun k => runF P T dyn_twos.cf (k + 1) F.dyn_twos a []) r) : T F.dyn_twos a [] = some r := T_run rfl rfl h
theorem inst_Inst_N.tab {a : List AVal} {r : Res} (h : Ev' (fun k => runF P T inst_Inst_N.cf (k + 1) F.inst_Inst_N a []) r) : T F.inst_Inst_N a [] = some r := T_run rfl rfl h
theorem math_bits_OnesCount.tab {a : List AVal} {r : Res} (h : Ev' (fun k => runF P T math_bits_OnesCount.cf (k + 1) F.math_bits_OnesCount a []) r) : T F.math_bits_OnesCount a [] = some r := T_run rfl rfl h
theorem dyn_trace.tab {a : List AVal} {r : Res} (h : Ev' (fun k => runF P T dyn_trace.cf (k + 1) F.dyn_trace a []) r) : T F.dyn_trace a [] = some r := T_run rfl rfl h
theorem dyn_elements.tab {a : List AVal} {r : Res} (h : Ev' (fun k => runF P T dyn_elements.cf (k + 1) F.dyn_elements a []) r) : T F.dyn_elements a [] = some r := T_run rfl rfl h
theorem ref13_orders.tab {a : List AVal} {r : Res} (h : Ev' (fun k => runF P T ref13_orders.cf (k + 1) F.ref13_orders a []) r) : T F.ref13_orders a [] = some r := T_run rfl rfl h
theorem ref12_Value.tab {a : List AVal} {r : Res} (h : Ev' (fun k => runF P T ref12_Value.cf (k + 1) F.ref12_Value a []) r) : T F.ref12_Value a [] = some r := T_run rfl rfl h
theorem ref09_numbers.tab {a : List AVal} {r : Res} (h : Ev' (fun k => runF P T ref09_numbers.cf (k + 1) F.ref09_numbers a []) r) : T F.ref09_numbers a [] = some r := T_run rfl rfl h
theorem ref01_trim.tab {a : List AVal} {r : Res} (h : Ev' (fun k => runF P T ref01_trim.cf (k + 1) F.ref01_trim a []) r) : T F.ref01_trim a [] = some r := T_run rfl rfl h
theorem ref01_Cmp.tab {a : List AVal} {r : Res} (h : Ev' (fun k => runF P T ref01_Cmp.cf (k + 1) F.ref01_Cmp a []) r) : T F.ref01_Cmp a [] = some r := T_run rfl rfl h
theorem eval_may.tab {a : List AVal} {r : Res} (h : Ev' (fun k => runF P T eval_may.cf (k + 1) F.eval_may a []) r) : T F.eval_may a [] = some r := T_run rfl rfl h
theorem num_Sum.tab {a : List AVal} {r : Res} (h : Ev' (fun k => runF P T num_Sum.cf (k + 1) F.num_Sum a []) r) : T F.num_Sum a [] = some r := T_run rfl rfl h
theorem eval_parts.tab {a : List AVal} {r : Res} (h : Ev' (fun k => runF P T eval_parts.cf (k + 1) F.eval_parts a []) r) : T F.eval_parts a [] = some r := T_run rfl rfl h
theorem inst_Kind_is.tab {a : List AVal} {r : Res} (h : Ev' (fun k => runF P T inst_Kind_is.cf (k + 1) F.inst_Kind_is a []) r) : T F.inst_Kind_is a [] = some r := T_run rfl rfl h
theorem inst_Inst_lean.tab {a : List AVal} {r : Res} (h : Ev' (fun k => runF P T inst_Inst_lean.cf (k + 1) F.inst_Inst_lean a []) r) : T F.inst_Inst_lean a [] = some r := T_run rfl rfl h
theorem inst_Inst_few.tab {a : List AVal} {r : Res} (h : Ev' (fun k => runF P T inst_Inst_few.cf (k + 1) F.inst_Inst_few a []) r) : T F.inst_Inst_few a [] = some r := T_run rfl rfl h
theorem inst_Inst_shaped.tab {a : List AVal} {r : Res} (h : Ev' (fun k => runF P T inst_Inst_shaped.cf (k + 1) F.inst_Inst_shaped a []) r) : T F.inst_Inst_shaped a [] = some r := T_run rfl rfl h
theorem inst_Inst_small.tab {a : List AVal} {r : Res} (h : Ev' (fun k => runF P T inst_Inst_small.cf (k + 1) F.inst_Inst_small a []) r) : T F.inst_Inst_small a [] = some r := T_run rfl rfl h
theorem inst_Inst_bare.tab {a : List AVal} {r : Res} (h : Ev' (fun k => runF P T inst_Inst_bare.cf (k + 1) F.inst_Inst_bare a []) r) : T F.inst_Inst_bare a [] = some r := T_run rfl rfl h
theorem math_bits_Len.tab {a : List AVal} {r : Res} (h : Ev' (fun k => runF P T math_bits_Len.cf (k + 1) F.math_bits_Len a []) r) : T F.math_bits_Len a [] = some r := T_run rfl rfl h
theorem math_bits_OnesCount32.tab {a : List AVal} {r : Res} (h : Ev' (fun k => runF P T math_bits_OnesCount32.cf (k + 1) F.math_bits_OnesCount32 a []) r) : T F.math_bits_OnesCount32 a [] = some r := T_run rfl rfl h
theorem math_bits_OnesCount64.tab {a : List AVal} {r : Res} (h : Ev' (fun k => runF P T math_bits_OnesCount64.cf (k + 1) F.math_bits_OnesCount64 a []) r) : T F.math_bits_OnesCount64 a [] = some r := T_run rfl rfl h
theorem ref12_Feasible.tab {a : List AVal} {r : Res} (h : Ev' (fun k => runF P T ref12_Feasible.cf (k + 1) F.ref12_Feasible a []) r) : T F.ref12_Feasible a [] = some r := T_run rfl rfl h
theorem ref09_out.tab {a : List AVal} {r : Res} (h : Ev' (fun k => runF P T ref09_out.cf (k + 1) F.ref09_out a []) r) : T F.ref09_out a [] = some r := T_run rfl rfl h
theorem ref01_far.tab {a : List AVal} {r : Res} (h : Ev' (fun k => runF P T ref01_far.cf (k + 1) F.ref01_far a []) r) : T F.ref01_far a [] = some r := T_run rfl rfl h
theorem eval_rises.tab {a : List AVal} {r : Res} (h : Ev' (fun k => runF P T eval_rises.cf (k + 1) F.eval_rises a []) r) : T F.eval_rises a [] = some r := T_run rfl rfl h
theorem eval_fits.tab {a : List AVal} {r : Res} (h : Ev' (fun k => runF P T eval_fits.cf (k + 1) F.eval_fits a []) r) : T F.eval_fits a [] = some r := T_run rfl rfl h
theorem eval_order.tab {a : List AVal} {r : Res} (h : Ev' (fun k => runF P T eval_order.cf (k + 1) F.eval_order a []) r) : T F.eval_order a [] = some r := T_run rfl rfl h
theorem eval_covers.tab {a : List AVal} {r : Res} (h : Ev' (fun k => runF P T eval_covers.cf (k + 1) F.eval_covers a []) r) : T F.eval_covers a [] = some r := T_run rfl rfl h
theorem num_short.tab {a : List AVal} {r : Res} (h : Ev' (fun k => runF P T num_short.cf (k + 1) F.num_short a []) r) : T F.num_short a [] = some r := T_run rfl rfl h
theorem num_total.tab {a : List AVal} {r : Res} (h : Ev' (fun k => runF P T num_total.cf (k + 1) F.num_total a []) r) : T F.num_total a [] = some r := T_run rfl rfl h
theorem num_size.tab {a : List AVal} {r : Res} (h : Ev' (fun k => runF P T num_size.cf (k + 1) F.num_size a []) r) : T F.num_size a [] = some r := T_run rfl rfl h
theorem inst_Kind_square.tab {a : List AVal} {r : Res} (h : Ev' (fun k => runF P T inst_Kind_square.cf (k + 1) F.inst_Kind_square a []) r) : T F.inst_Kind_square a [] = some r := T_run rfl rfl h
theorem inst_from.tab {a : List AVal} {r : Res} (h : Ev' (fun k => runF P T inst_from.cf (k + 1) F.inst_from a []) r) : T F.inst_from a [] = some r := T_run rfl rfl h
theorem ref12_rises.tab {a : List AVal} {r : Res} (h : Ev' (fun k => runF P T ref12_rises.cf (k + 1) F.ref12_rises a []) r) : T F.ref12_rises a [] = some r := T_run rfl rfl h
theorem ref12_each.tab {a : List AVal} {r : Res} (h : Ev' (fun k => runF P T ref12_each.cf (k + 1) F.ref12_each a []) r) : T F.ref12_each a [] = some r := T_run rfl rfl h
theorem ref12_has.tab {a : List AVal} {r : Res} (h : Ev' (fun k => runF P T ref12_has.cf (k + 1) F.ref12_has a []) r) : T F.ref12_has a [] = some r := T_run rfl rfl h
theorem bitset_New.tab {a : List AVal} {r : Res} (h : Ev' (fun k => runF P T bitset_New.cf (k + 1) F.bitset_New a []) r) : T F.bitset_New a [] = some r := T_run rfl rfl h
theorem bitset_Set_Has.tab {a : List AVal} {r : Res} (h : Ev' (fun k => runF P T bitset_Set_Has.cf (k + 1) F.bitset_Set_Has a []) r) : T F.bitset_Set_Has a [] = some r := T_run rfl rfl h
theorem bitset_Set_With.tab {a : List AVal} {r : Res} (h : Ev' (fun k => runF P T bitset_Set_With.cf (k + 1) F.bitset_Set_With a []) r) : T F.bitset_Set_With a [] = some r := T_run rfl rfl h
theorem bitset_Set_Count.tab {a : List AVal} {r : Res} (h : Ev' (fun k => runF P T bitset_Set_Count.cf (k + 1) F.bitset_Set_Count a []) r) : T F.bitset_Set_Count a [] = some r := T_run rfl rfl h
theorem num_add.tab {a : List AVal} {r : Res} (h : Ev' (fun k => runF P T num_add.cf (k + 1) F.num_add a []) r) : T F.num_add a [] = some r := T_run rfl rfl h
theorem num_of.tab {a : List AVal} {r : Res} (h : Ev' (fun k => runF P T num_of.cf (k + 1) F.num_of a []) r) : T F.num_of a [] = some r := T_run rfl rfl h
theorem num_distance.tab {a : List AVal} {r : Res} (h : Ev' (fun k => runF P T num_distance.cf (k + 1) F.num_distance a []) r) : T F.num_distance a [] = some r := T_run rfl rfl h
theorem bitset_Set_within.tab {a : List AVal} {r : Res} (h : Ev' (fun k => runF P T bitset_Set_within.cf (k + 1) F.bitset_Set_within a []) r) : T F.bitset_Set_within a [] = some r := T_run rfl rfl h
theorem bitset_Set_copied.tab {a : List AVal} {r : Res} (h : Ev' (fun k => runF P T bitset_Set_copied.cf (k + 1) F.bitset_Set_copied a []) r) : T F.bitset_Set_copied a [] = some r := T_run rfl rfl h
theorem num_plus.tab {a : List AVal} {r : Res} (h : Ev' (fun k => runF P T num_plus.cf (k + 1) F.num_plus a []) r) : T F.num_plus a [] = some r := T_run rfl rfl h
theorem num_normal.tab {a : List AVal} {r : Res} (h : Ev' (fun k => runF P T num_normal.cf (k + 1) F.num_normal a []) r) : T F.num_normal a [] = some r := T_run rfl rfl h
theorem num_less.tab {a : List AVal} {r : Res} (h : Ev' (fun k => runF P T num_less.cf (k + 1) F.num_less a []) r) : T F.num_less a [] = some r := T_run rfl rfl h
theorem cmp_Or_int.tab {a : List AVal} {r : Res} (h : Ev' (fun k => runF P T cmp_Or_int.cf (k + 1) F.cmp_Or_int a []) r) : T F.cmp_Or_int a [] = some r := T_run rfl rfl h
theorem cmp_Compare_uint64.tab {a : List AVal} {r : Res} (h : Ev' (fun k => runF P T cmp_Compare_uint64.cf (k + 1) F.cmp_Compare_uint64 a []) r) : T F.cmp_Compare_uint64 a [] = some r := T_run rfl rfl h
theorem cmp_isNaN_uint64.tab {a : List AVal} {r : Res} (h : Ev' (fun k => runF P T cmp_isNaN_uint64.cf (k + 1) F.cmp_isNaN_uint64 a []) r) : T F.cmp_isNaN_uint64 a [] = some r := T_run rfl rfl h
theorem slices_Clone_s_int64_int64.giv {a : List AVal} {r : Res} (h : (cloneE 1) a = some r) : T F.slices_Clone_s_int64_int64 a [] = some r := tab_giv (G := G) rfl h
theorem slices_Clone_s_uint64_uint64.giv {a : List AVal} {r : Res} (h : (cloneE 1) a = some r) : T F.slices_Clone_s_uint64_uint64 a [] = some r := tab_giv (G := G) rfl h
theorem math_bits_Add64.giv {a : List AVal} {r : Res} (h : (add64E) a = some r) : T F.math_bits_Add64 a [] = some r := tab_giv (G := G) rfl h
theorem math_bits_Sub64.giv {a : List AVal} {r : Res} (h : (sub64E) a = some r) : T F.math_bits_Sub64 a [] = some r := tab_giv (G := G) rfl h
end W
