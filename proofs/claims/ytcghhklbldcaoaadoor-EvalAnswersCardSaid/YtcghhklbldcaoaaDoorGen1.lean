/- What single functions do, as equations of the abstract machine; each is checked by the kernel. -/
import Derived.Test.YtcghhklbldcaoaaDoorGenN
open Go Go.Eng
set_option linter.unusedVariables false
namespace W
def eval_order.cf : Cf := { loops := [{ fid := 34, key := 3, live := [0, 1, 5, 6, 14, 15, 16], vecs := [], cvecs := [], nb := 1, cs := [] }] }
noncomputable def eval_order.l3 (X : Orc) (k : Nat) (a0 : Rows) (a1 : Int) (a6 : Int) (a14 : Rows) (a15 : Int) (a16 : Int) (h0_0 : Int) (h0_1 : Rows) : Option Res := loopAt P X eval_order.cf k 34 Go.Proofs.Tryd.f34 3 [(0, .d (.sl 3 1 a0)), (1, .d (.v (.int .i64 a1))), (5, .ptr 0 0), (6, .d (.v (.int .i64 a6))), (14, .d (.sl 3 1 a14)), (15, .d (.v (.int .i64 a15))), (16, .d (.v (.int .i64 a16)))] [] [.cel [.d (.v (.int .i64 h0_0)), .d (.sl 3 1 h0_1)]]
theorem eval_order.l3_eq (X : Orc) (k : Nat) (a0 : Rows) (a1 : Int) (a6 : Int) (a14 : Rows) (a15 : Int) (a16 : Int) (h0_0 : Int) (h0_1 : Rows) : eval_order.l3 X (k + 1) a0 a1 a6 a14 a15 a16 h0_0 h0_1 = (
  if decide (a16 < a15) = true then
    onIx a16 a14.length fun i1 =>
    onRow a14 i1 fun w2 =>
    onCell w2 0 fun x3 =>
    onInt .i64 x3 fun n4 =>
    onCall (X F.bitset_Set_Has [.agg [.d (.v (.int .i64 h0_0)), .d (.sl 3 1 h0_1)], .d (.v (.int .i64 n4))] []) fun z5 =>
    onBool z5 fun b6 =>
    if b6 = true then
      some (.d (.v (.bool false)), [])
    else
      onCall (X F.bitset_Set_With [.agg [.d (.v (.int .i64 h0_0)), .d (.sl 3 1 h0_1)], .d (.v (.int .i64 n4))] []) fun z7 =>
      onAgg 2 z7 fun c8 =>
      onCell c8 0 fun x9 =>
      onInt .i64 x9 fun n10 =>
      onCell c8 1 fun x11 =>
      onSl 1 x11 fun r12 =>
      eval_order.l3 X k a0 a1 a6 a14 a15 (IntKind.i64.wrap (a16 + 1)) n10 r12
  else
    if (a6 == 0) = true then
      if ((a0.length : Int) == a1) = true then
        onCall (X F.bitset_Set_Count [.agg [.d (.v (.int .i64 h0_0)), .d (.sl 3 1 h0_1)]] []) fun z13 =>
        onInt .i64 z13 fun n14 =>
        some (.d (.v (.bool (n14 == a1))), [])
      else
        some (.d (.v (.bool false)), [])
    else
      some (.d (.v (.bool false)), [])) := by kernel_rfl
theorem eval_order.eq (X : Orc) (k : Nat) (p0 : Rows) (p1 : Int) : runF P X eval_order.cf (k + 1) F.eval_order [.d (.sl 3 1 p0), .d (.v (.int .i64 p1))] [] = (
  onCall (X F.bitset_New [.d (.v (.int .i64 p1))] []) fun z1 =>
  onTup 2 z1 fun u2 =>
  onCell u2 0 fun x3 =>
  onAgg 2 x3 fun c4 =>
  onCell c4 0 fun x5 =>
  onInt .i64 x5 fun n6 =>
  onCell c4 1 fun x7 =>
  onSl 1 x7 fun r8 =>
  onCell u2 1 fun x9 =>
  onInt .i64 x9 fun n10 =>
  eval_order.l3 X k p0 p1 n10 p0 (p0.length : Int) 0 n6 r8) := by kernel_rfl
def eval_covers.cf : Cf := { loops := [{ fid := 35, key := 3, live := [2, 5, 17, 18, 19], vecs := [], cvecs := [], nb := 2, cs := [] }, { fid := 35, key := 6, live := [2, 5, 17, 18, 19, 28, 29, 30], vecs := [], cvecs := [], nb := 2, cs := [] }] }
noncomputable def eval_covers.l3 (X : Orc) (k : Nat) (a17 : Rows) (a18 : Int) (a19 : Int) (h0_0 : Int) (h0_1 : Int) (h0_2 : Rows) (h0_3 : Rows) (h0_4 : Int) (h0_5 : Rows) (h1_0 : Int) (h1_1 : Rows) : Option Res := loopAt P X eval_covers.cf k 35 Go.Proofs.Tryd.f35 3 [(2, .ptr 0 0), (5, .ptr 1 0), (17, .d (.sl 3 1 a17)), (18, .d (.v (.int .i64 a18))), (19, .d (.v (.int .i64 a19)))] [] [.cel [.d (.v (.int .i64 h0_0)), .d (.v (.int .i64 h0_1)), .d (.sl 3 2 h0_2), .d (.sl 3 1 h0_3), .d (.v (.int .i64 h0_4)), .d (.sl 3 2 h0_5)], .cel [.d (.v (.int .i64 h1_0)), .d (.sl 3 1 h1_1)]]
noncomputable def eval_covers.l6 (X : Orc) (k : Nat) (a17 : Rows) (a18 : Int) (a19 : Int) (a28 : Rows) (a29 : Int) (a30 : Int) (h0_0 : Int) (h0_1 : Int) (h0_2 : Rows) (h0_3 : Rows) (h0_4 : Int) (h0_5 : Rows) (h1_0 : Int) (h1_1 : Rows) : Option Res := loopAt P X eval_covers.cf k 35 Go.Proofs.Tryd.f35 6 [(2, .ptr 0 0), (5, .ptr 1 0), (17, .d (.sl 3 1 a17)), (18, .d (.v (.int .i64 a18))), (19, .d (.v (.int .i64 a19))), (28, .d (.sl 3 1 a28)), (29, .d (.v (.int .i64 a29))), (30, .d (.v (.int .i64 a30)))] [] [.cel [.d (.v (.int .i64 h0_0)), .d (.v (.int .i64 h0_1)), .d (.sl 3 2 h0_2), .d (.sl 3 1 h0_3), .d (.v (.int .i64 h0_4)), .d (.sl 3 2 h0_5)], .cel [.d (.v (.int .i64 h1_0)), .d (.sl 3 1 h1_1)]]
theorem eval_covers.l3_eq (X : Orc) (k : Nat) (a17 : Rows) (a18 : Int) (a19 : Int) (h0_0 : Int) (h0_1 : Int) (h0_2 : Rows) (h0_3 : Rows) (h0_4 : Int) (h0_5 : Rows) (h1_0 : Int) (h1_1 : Rows) : eval_covers.l3 X (k + 1) a17 a18 a19 h0_0 h0_1 h0_2 h0_3 h0_4 h0_5 h1_0 h1_1 = (
  if decide (a19 < a18) = true then
    onIx a19 a17.length fun i1 =>
    onRow a17 i1 fun w2 =>
    onCell w2 0 fun x3 =>
    onInt .i64 x3 fun n4 =>
    onIx n4 h0_5.length fun i5 =>
    onRow h0_5 i5 fun w6 =>
    onCell w6 1 fun x7 =>
    onSl 1 x7 fun r8 =>
    eval_covers.l6 X k a17 a18 a19 r8 (r8.length : Int) 0 h0_0 h0_1 h0_2 h0_3 h0_4 h0_5 h1_0 h1_1
  else
    onCall (X F.bitset_Set_Count [.agg [.d (.v (.int .i64 h1_0)), .d (.sl 3 1 h1_1)]] []) fun z9 =>
    onInt .i64 z9 fun n10 =>
    some (.d (.v (.bool (n10 == h0_4))), [])) := by kernel_rfl
theorem eval_covers.l6_eq (X : Orc) (k : Nat) (a17 : Rows) (a18 : Int) (a19 : Int) (a28 : Rows) (a29 : Int) (a30 : Int) (h0_0 : Int) (h0_1 : Int) (h0_2 : Rows) (h0_3 : Rows) (h0_4 : Int) (h0_5 : Rows) (h1_0 : Int) (h1_1 : Rows) : eval_covers.l6 X (k + 1) a17 a18 a19 a28 a29 a30 h0_0 h0_1 h0_2 h0_3 h0_4 h0_5 h1_0 h1_1 = (
  if decide (a30 < a29) = true then
    onIx a30 a28.length fun i1 =>
    onRow a28 i1 fun w2 =>
    onCell w2 0 fun x3 =>
    onInt .i64 x3 fun n4 =>
    onCall (X F.bitset_Set_With [.agg [.d (.v (.int .i64 h1_0)), .d (.sl 3 1 h1_1)], .d (.v (.int .i64 n4))] []) fun z5 =>
    onAgg 2 z5 fun c6 =>
    onCell c6 0 fun x7 =>
    onInt .i64 x7 fun n8 =>
    onCell c6 1 fun x9 =>
    onSl 1 x9 fun r10 =>
    eval_covers.l6 X k a17 a18 a19 a28 a29 (IntKind.i64.wrap (a30 + 1)) h0_0 h0_1 h0_2 h0_3 h0_4 h0_5 n8 r10
  else
    eval_covers.l3 X k a17 a18 (IntKind.i64.wrap (a19 + 1)) h0_0 h0_1 h0_2 h0_3 h0_4 h0_5 h1_0 h1_1) := by kernel_rfl
theorem eval_covers.eq (X : Orc) (k : Nat) (p0_0 : Int) (p0_1 : Int) (p0_2 : Rows) (p0_3 : Rows) (p0_4 : Int) (p0_5 : Rows) (p1 : Rows) : runF P X eval_covers.cf (k + 1) F.eval_covers [.agg [.d (.v (.int .i64 p0_0)), .d (.v (.int .i64 p0_1)), .d (.sl 3 2 p0_2), .d (.sl 3 1 p0_3), .d (.v (.int .i64 p0_4)), .d (.sl 3 2 p0_5)], .d (.sl 3 1 p1)] [] = (
  onCall (X F.bitset_New [.d (.v (.int .i64 p0_4))] []) fun z1 =>
  onTup 2 z1 fun u2 =>
  onCell u2 0 fun x3 =>
  onAgg 2 x3 fun c4 =>
  onCell c4 0 fun x5 =>
  onInt .i64 x5 fun n6 =>
  onCell c4 1 fun x7 =>
  onSl 1 x7 fun r8 =>
  onCell u2 1 fun x9 =>
  onInt .i64 x9 fun n10 =>
  eval_covers.l3 X k p1 (p1.length : Int) 0 p0_0 p0_1 p0_2 p0_3 p0_4 p0_5 n6 r8) := by kernel_rfl
def num_short.cf : Cf := { loops := [] }
theorem num_short.eq (X : Orc) (k : Nat) (p0_0 : Bool) (p0_1 : Int) (p0_2 : Int) : runF P X num_short.cf (k + 1) F.num_short [.agg [.d (.v (.bool p0_0)), .d (.v (.int .u64 p0_1)), .d (.v (.int .u64 p0_2))]] [] = (
  if (p0_1 != 0) = true then
    some (.d (.tup [.v (.int .i64 0), .v (.bool false)]), [])
  else
    if (!p0_0) = true then
      if decide (p0_2 > 9223372036854775807) = true then
        some (.d (.tup [.v (.int .i64 0), .v (.bool false)]), [])
      else
        if p0_0 = true then
          if decide (p0_2 > 9223372036854775808) = true then
            some (.d (.tup [.v (.int .i64 0), .v (.bool false)]), [])
          else
            if p0_0 = true then
              some (.d (.tup [.v (.int .i64 (IntKind.i64.wrap (IntKind.u64.wrap (0 - p0_2)))), .v (.bool true)]), [])
            else
              some (.d (.tup [.v (.int .i64 (IntKind.i64.wrap p0_2)), .v (.bool true)]), [])
        else
          if p0_0 = true then
            some (.d (.tup [.v (.int .i64 (IntKind.i64.wrap (IntKind.u64.wrap (0 - p0_2)))), .v (.bool true)]), [])
          else
            some (.d (.tup [.v (.int .i64 (IntKind.i64.wrap p0_2)), .v (.bool true)]), [])
    else
      if p0_0 = true then
        if decide (p0_2 > 9223372036854775808) = true then
          some (.d (.tup [.v (.int .i64 0), .v (.bool false)]), [])
        else
          if p0_0 = true then
            some (.d (.tup [.v (.int .i64 (IntKind.i64.wrap (IntKind.u64.wrap (0 - p0_2)))), .v (.bool true)]), [])
          else
            some (.d (.tup [.v (.int .i64 (IntKind.i64.wrap p0_2)), .v (.bool true)]), [])
      else
        if p0_0 = true then
          some (.d (.tup [.v (.int .i64 (IntKind.i64.wrap (IntKind.u64.wrap (0 - p0_2)))), .v (.bool true)]), [])
        else
          some (.d (.tup [.v (.int .i64 (IntKind.i64.wrap p0_2)), .v (.bool true)]), [])) := by kernel_rfl
def num_total.cf : Cf := { loops := [{ fid := 37, key := 3, live := [2, 3, 6, 7, 8], vecs := [], cvecs := [], nb := 2, cs := [] }] }
noncomputable def num_total.l3 (X : Orc) (k : Nat) (a6 : Rows) (a7 : Int) (a8 : Int) (h0_0 : Bool) (h0_1 : Int) (h0_2 : Int) (h1_0 : Bool) (h1_1 : Int) (h1_2 : Int) : Option Res := loopAt P X num_total.cf k 37 Go.Proofs.Tryd.f37 3 [(2, .ptr 0 0), (3, .ptr 1 0), (6, .d (.sl 3 1 a6)), (7, .d (.v (.int .i64 a7))), (8, .d (.v (.int .i64 a8)))] [] [.cel [.d (.v (.bool h0_0)), .d (.v (.int .u64 h0_1)), .d (.v (.int .u64 h0_2))], .cel [.d (.v (.bool h1_0)), .d (.v (.int .u64 h1_1)), .d (.v (.int .u64 h1_2))]]
theorem num_total.l3_eq (X : Orc) (k : Nat) (a6 : Rows) (a7 : Int) (a8 : Int) (h0_0 : Bool) (h0_1 : Int) (h0_2 : Int) (h1_0 : Bool) (h1_1 : Int) (h1_2 : Int) : num_total.l3 X (k + 1) a6 a7 a8 h0_0 h0_1 h0_2 h1_0 h1_1 h1_2 = (
  if decide (a8 < a7) = true then
    onIx a8 a6.length fun i1 =>
    onRow a6 i1 fun w2 =>
    onCell w2 0 fun x3 =>
    onInt .i64 x3 fun n4 =>
    onCall (X F.num_of [.d (.v (.int .i64 n4))] []) fun z5 =>
    onAgg 3 z5 fun c6 =>
    onCell c6 0 fun x7 =>
    onBool x7 fun b8 =>
    onCell c6 1 fun x9 =>
    onInt .u64 x9 fun n10 =>
    onCell c6 2 fun x11 =>
    onInt .u64 x11 fun n12 =>
    onCall (X F.num_add [.agg [.d (.v (.bool h1_0)), .d (.v (.int .u64 h1_1)), .d (.v (.int .u64 h1_2))], .agg [.d (.v (.bool b8)), .d (.v (.int .u64 n10)), .d (.v (.int .u64 n12))]] []) fun z13 =>
    onAgg 3 z13 fun c14 =>
    onCell c14 0 fun x15 =>
    onBool x15 fun b16 =>
    onCell c14 1 fun x17 =>
    onInt .u64 x17 fun n18 =>
    onCell c14 2 fun x19 =>
    onInt .u64 x19 fun n20 =>
    num_total.l3 X k a6 a7 (IntKind.i64.wrap (a8 + 1)) h0_0 h0_1 h0_2 b16 n18 n20
  else
    some (.d (.agg [.v (.bool h1_0), .v (.int .u64 h1_1), .v (.int .u64 h1_2)]), [])) := by kernel_rfl
theorem num_total.eq (X : Orc) (k : Nat) (p0 : Rows) : runF P X num_total.cf (k + 1) F.num_total [.d (.sl 3 1 p0)] [] = (
  num_total.l3 X k p0 (p0.length : Int) 0 false 0 0 false 0 0) := by kernel_rfl
def ref09_numbers.cf : Cf := { loops := [{ fid := 40, key := 3, live := [1, 3, 4], vecs := [], cvecs := [], nb := 1, cs := [] }, { fid := 40, key := 9, live := [1, 3, 7], vecs := [], cvecs := [], nb := 1, cs := [] }, { fid := 40, key := 12, live := [1, 3, 7, 8], vecs := [], cvecs := [], nb := 1, cs := [] }, { fid := 40, key := 17, live := [1, 3, 10], vecs := [], cvecs := [], nb := 1, cs := [] }] }
noncomputable def ref09_numbers.l3 (X : Orc) (k : Nat) (a3 : Bool) (a4 : Int) (h0_0 : Int) (h0_1 : Int) (h0_2 : Rows) (h0_3 : Rows) (h0_4 : Int) (h0_5 : Rows) : Option Res := loopAt P X ref09_numbers.cf k 40 Go.Proofs.Tryd.f40 3 [(1, .ptr 0 0), (3, .d (.v (.bool a3))), (4, .d (.v (.int .i64 a4)))] [] [.cel [.d (.v (.int .i64 h0_0)), .d (.v (.int .i64 h0_1)), .d (.sl 3 2 h0_2), .d (.sl 3 1 h0_3), .d (.v (.int .i64 h0_4)), .d (.sl 3 2 h0_5)]]
noncomputable def ref09_numbers.l9 (X : Orc) (k : Nat) (a3 : Bool) (a7 : Int) (h0_0 : Int) (h0_1 : Int) (h0_2 : Rows) (h0_3 : Rows) (h0_4 : Int) (h0_5 : Rows) : Option Res := loopAt P X ref09_numbers.cf k 40 Go.Proofs.Tryd.f40 9 [(1, .ptr 0 0), (3, .d (.v (.bool a3))), (7, .d (.v (.int .i64 a7)))] [] [.cel [.d (.v (.int .i64 h0_0)), .d (.v (.int .i64 h0_1)), .d (.sl 3 2 h0_2), .d (.sl 3 1 h0_3), .d (.v (.int .i64 h0_4)), .d (.sl 3 2 h0_5)]]
noncomputable def ref09_numbers.l12 (X : Orc) (k : Nat) (a3 : Bool) (a7 : Int) (a8 : Int) (h0_0 : Int) (h0_1 : Int) (h0_2 : Rows) (h0_3 : Rows) (h0_4 : Int) (h0_5 : Rows) : Option Res := loopAt P X ref09_numbers.cf k 40 Go.Proofs.Tryd.f40 12 [(1, .ptr 0 0), (3, .d (.v (.bool a3))), (7, .d (.v (.int .i64 a7))), (8, .d (.v (.int .i64 a8)))] [] [.cel [.d (.v (.int .i64 h0_0)), .d (.v (.int .i64 h0_1)), .d (.sl 3 2 h0_2), .d (.sl 3 1 h0_3), .d (.v (.int .i64 h0_4)), .d (.sl 3 2 h0_5)]]
noncomputable def ref09_numbers.l17 (X : Orc) (k : Nat) (a3 : Bool) (a10 : Int) (h0_0 : Int) (h0_1 : Int) (h0_2 : Rows) (h0_3 : Rows) (h0_4 : Int) (h0_5 : Rows) : Option Res := loopAt P X ref09_numbers.cf k 40 Go.Proofs.Tryd.f40 17 [(1, .ptr 0 0), (3, .d (.v (.bool a3))), (10, .d (.v (.int .i64 a10)))] [] [.cel [.d (.v (.int .i64 h0_0)), .d (.v (.int .i64 h0_1)), .d (.sl 3 2 h0_2), .d (.sl 3 1 h0_3), .d (.v (.int .i64 h0_4)), .d (.sl 3 2 h0_5)]]
theorem ref09_numbers.l3_eq (X : Orc) (k : Nat) (a3 : Bool) (a4 : Int) (h0_0 : Int) (h0_1 : Int) (h0_2 : Rows) (h0_3 : Rows) (h0_4 : Int) (h0_5 : Rows) : ref09_numbers.l3 X (k + 1) a3 a4 h0_0 h0_1 h0_2 h0_3 h0_4 h0_5 = (
  if decide (a4 < (h0_2.length : Int)) = true then
    onIx a4 h0_2.length fun i1 =>
    onRow h0_2 i1 fun w2 =>
    onCell w2 0 fun x3 =>
    onInt .i64 x3 fun n4 =>
    onCall (X F.ref09_out [.d (.v (.int .i64 n4)), .d (.v (.int .i64 0)), .d (.v (.int .i64 2147483648))] []) fun z5 =>
    onBool z5 fun b6 =>
    onIx a4 h0_2.length fun i7 =>
    onRow h0_2 i7 fun w8 =>
    onCell w8 1 fun x9 =>
    onInt .i64 x9 fun n10 =>
    onCall (X F.ref09_out [.d (.v (.int .i64 n10)), .d (.v (.int .i64 0)), .d (.v (.int .i64 2147483648))] []) fun z11 =>
    onBool z11 fun b12 =>
    if a3 = true then
      ref09_numbers.l3 X k true (IntKind.i64.wrap (a4 + 1)) h0_0 h0_1 h0_2 h0_3 h0_4 h0_5
    else
      if b6 = true then
        ref09_numbers.l3 X k true (IntKind.i64.wrap (a4 + 1)) h0_0 h0_1 h0_2 h0_3 h0_4 h0_5
      else
        ref09_numbers.l3 X k b12 (IntKind.i64.wrap (a4 + 1)) h0_0 h0_1 h0_2 h0_3 h0_4 h0_5
  else
    ref09_numbers.l9 X k a3 0 h0_0 h0_1 h0_2 h0_3 h0_4 h0_5) := by kernel_rfl
theorem ref09_numbers.l9_eq (X : Orc) (k : Nat) (a3 : Bool) (a7 : Int) (h0_0 : Int) (h0_1 : Int) (h0_2 : Rows) (h0_3 : Rows) (h0_4 : Int) (h0_5 : Rows) : ref09_numbers.l9 X (k + 1) a3 a7 h0_0 h0_1 h0_2 h0_3 h0_4 h0_5 = (
  if decide (a7 < (h0_3.length : Int)) = true then
    ref09_numbers.l12 X k a3 a7 0 h0_0 h0_1 h0_2 h0_3 h0_4 h0_5
  else
    ref09_numbers.l17 X k a3 0 h0_0 h0_1 h0_2 h0_3 h0_4 h0_5) := by kernel_rfl
theorem ref09_numbers.l12_eq (X : Orc) (k : Nat) (a3 : Bool) (a7 : Int) (a8 : Int) (h0_0 : Int) (h0_1 : Int) (h0_2 : Rows) (h0_3 : Rows) (h0_4 : Int) (h0_5 : Rows) : ref09_numbers.l12 X (k + 1) a3 a7 a8 h0_0 h0_1 h0_2 h0_3 h0_4 h0_5 = (
  onIx a7 h0_3.length fun i1 =>
  onRow h0_3 i1 fun w2 =>
  onCell w2 0 fun x3 =>
  onSl 1 x3 fun r4 =>
  if decide (a8 < (r4.length : Int)) = true then
    onIx a7 h0_3.length fun i5 =>
    onRow h0_3 i5 fun w6 =>
    onCell w6 0 fun x7 =>
    onSl 1 x7 fun r8 =>
    onIx a8 r8.length fun i9 =>
    onRow r8 i9 fun w10 =>
    onCell w10 0 fun x11 =>
    onInt .i64 x11 fun n12 =>
    onCall (X F.ref09_out [.d (.v (.int .i64 n12)), .d (.v (.int .i64 (-2147483648))), .d (.v (.int .i64 2147483648))] []) fun z13 =>
    onBool z13 fun b14 =>
    if a3 = true then
      ref09_numbers.l12 X k true a7 (IntKind.i64.wrap (a8 + 1)) h0_0 h0_1 h0_2 h0_3 h0_4 h0_5
    else
      ref09_numbers.l12 X k b14 a7 (IntKind.i64.wrap (a8 + 1)) h0_0 h0_1 h0_2 h0_3 h0_4 h0_5
  else
    ref09_numbers.l9 X k a3 (IntKind.i64.wrap (a7 + 1)) h0_0 h0_1 h0_2 h0_3 h0_4 h0_5) := by kernel_rfl
theorem ref09_numbers.l17_eq (X : Orc) (k : Nat) (a3 : Bool) (a10 : Int) (h0_0 : Int) (h0_1 : Int) (h0_2 : Rows) (h0_3 : Rows) (h0_4 : Int) (h0_5 : Rows) : ref09_numbers.l17 X (k + 1) a3 a10 h0_0 h0_1 h0_2 h0_3 h0_4 h0_5 = (
  if decide (a10 < (h0_5.length : Int)) = true then
    onIx a10 h0_5.length fun i1 =>
    onRow h0_5 i1 fun w2 =>
    onCell w2 0 fun x3 =>
    onInt .i64 x3 fun n4 =>
    onCall (X F.ref09_out [.d (.v (.int .i64 n4)), .d (.v (.int .i64 0)), .d (.v (.int .i64 2147483648))] []) fun z5 =>
    onBool z5 fun b6 =>
    if a3 = true then
      ref09_numbers.l17 X k true (IntKind.i64.wrap (a10 + 1)) h0_0 h0_1 h0_2 h0_3 h0_4 h0_5
    else
      ref09_numbers.l17 X k b6 (IntKind.i64.wrap (a10 + 1)) h0_0 h0_1 h0_2 h0_3 h0_4 h0_5
  else
    some (.d (.v (.bool (!a3))), [])) := by kernel_rfl
theorem ref09_numbers.eq (X : Orc) (k : Nat) (p0_0 : Int) (p0_1 : Int) (p0_2 : Rows) (p0_3 : Rows) (p0_4 : Int) (p0_5 : Rows) : runF P X ref09_numbers.cf (k + 1) F.ref09_numbers [.agg [.d (.v (.int .i64 p0_0)), .d (.v (.int .i64 p0_1)), .d (.sl 3 2 p0_2), .d (.sl 3 1 p0_3), .d (.v (.int .i64 p0_4)), .d (.sl 3 2 p0_5)]] [] = (
  onCall (X F.ref09_out [.d (.v (.int .i64 p0_1)), .d (.v (.int .i64 0)), .d (.v (.int .i64 2147483648))] []) fun z1 =>
  onBool z1 fun b2 =>
  ref09_numbers.l3 X k b2 0 p0_0 p0_1 p0_2 p0_3 p0_4 p0_5) := by kernel_rfl
def inst_Kind_square.cf : Cf := { loops := [] }
theorem inst_Kind_square.eq (X : Orc) (k : Nat) (p0 : Int) : runF P X inst_Kind_square.cf (k + 1) F.inst_Kind_square [.d (.v (.int .i64 p0))] [] = (
  if (p0 == 1) = true then
    some (.d (.v (.bool true)), [])
  else
    some (.d (.v (.bool (p0 == 2))), [])) := by kernel_rfl
def inst_from.cf : Cf := { loops := [] }
theorem inst_from.eq (X : Orc) (k : Nat) (p0 : Int) (p1 : Int) : runF P X inst_from.cf (k + 1) F.inst_from [.d (.v (.int .i64 p0)), .d (.v (.int .i64 p1))] [] = (
  if decide (p0 ≥ p1) = true then
    some (.d (.v (.bool (decide (p0 ≤ 2147483648)))), [])
  else
    some (.d (.v (.bool false)), [])) := by kernel_rfl
def bitset_New.cf : Cf := { loops := [] }
theorem bitset_New.eq (X : Orc) (k : Nat) (p0 : Int) : runF P X bitset_New.cf (k + 1) F.bitset_New [.d (.v (.int .i64 p0))] [] = (
  if decide (p0 < 0) = true then
    some (.d (.tup [.agg [.v (.int .i64 0), .v (.slice none 0 0)], .v (.int .i64 2)]), [])
  else
    if decide (p0 > 4096) = true then
      some (.d (.tup [.agg [.v (.int .i64 0), .v (.slice none 0 0)], .v (.int .i64 2)]), [])
    else
      if 0 ≤ (IntKind.i64.wrap ((IntKind.i64.wrap ((IntKind.i64.wrap (p0 + 64)) - 1)).tdiv 64)) then
        onRoom ((IntKind.i64.wrap ((IntKind.i64.wrap ((IntKind.i64.wrap (p0 + 64)) - 1)).tdiv 64)).toNat) <|
        some (.d (.tup [.agg [.v (.int .i64 p0), .sl 3 1 (((List.replicate ((IntKind.i64.wrap ((IntKind.i64.wrap ((IntKind.i64.wrap (p0 + 64)) - 1)).tdiv 64)).toNat) [.v (.int .u64 0)]).drop 0).take ((IntKind.i64.wrap ((IntKind.i64.wrap ((IntKind.i64.wrap (p0 + 64)) - 1)).tdiv 64)).toNat))], .v (.int .i64 0)]), [])
      else
        none) := by kernel_rfl
def bitset_Set_Has.cf : Cf := { loops := [] }
theorem bitset_Set_Has.eq (X : Orc) (k : Nat) (p0_0 : Int) (p0_1 : Rows) (p1 : Int) : runF P X bitset_Set_Has.cf (k + 1) F.bitset_Set_Has [.agg [.d (.v (.int .i64 p0_0)), .d (.sl 3 1 p0_1)], .d (.v (.int .i64 p1))] [] = (
  onCall (X F.bitset_Set_within [.agg [.d (.v (.int .i64 p0_0)), .d (.sl 3 1 p0_1)], .d (.v (.int .i64 p1))] []) fun z1 =>
  onBool z1 fun b2 =>
  if b2 = true then
    onIx (IntKind.i64.wrap (p1.tdiv 64)) p0_1.length fun i3 =>
    onRow p0_1 i3 fun w4 =>
    onCell w4 0 fun x5 =>
    onInt .u64 x5 fun n6 =>
    if (p1.tmod 64) < 0 then
      none
    else
      some (.d (.v (.bool ((IntKind.u64.wrap ((BitVec.ofInt IntKind.u64.bits (n6.fdiv (2 ^ (min (p1.tmod 64).toNat IntKind.u64.bits))) &&& BitVec.ofInt IntKind.u64.bits 1).toNat : Int)) == 1))), [])
  else
    some (.d (.v (.bool false)), [])) := by kernel_rfl
def bitset_Set_With.cf : Cf := { loops := [], mode := fun g => bif Nat.beq g F.bitset_Set_copied then 2 else 0 }
theorem bitset_Set_With.eq (X : Orc) (k : Nat) (p0_0 : Int) (p0_1 : Rows) (p1 : Int) : runF P X bitset_Set_With.cf (k + 1) F.bitset_Set_With [.agg [.d (.v (.int .i64 p0_0)), .d (.sl 3 1 p0_1)], .d (.v (.int .i64 p1))] [] = (
  onCall (X F.bitset_Set_within [.agg [.d (.v (.int .i64 p0_0)), .d (.sl 3 1 p0_1)], .d (.v (.int .i64 p1))] []) fun z1 =>
  onBool z1 fun b2 =>
  if (!b2) = true then
    some (.d (.agg [.v (.int .i64 p0_0), .sl 3 1 p0_1]), [])
  else
    onOwn (X F.bitset_Set_copied [.agg [.d (.v (.int .i64 p0_0)), .d (.sl 3 1 p0_1)]] []) fun z3 h4 =>
    onAggA 2 z3 fun c5 =>
    onCellA c5 0 fun x6 =>
    onD x6 fun y7 =>
    onInt .i64 y7 fun n8 =>
    onCellA c5 1 fun x9 =>
    onHs 0 1 x9 fun l10 =>
    onArr h4 0 1 fun r11 =>
    onIx (IntKind.i64.wrap (p1.tdiv 64)) l10 fun i12 =>
    onRow r11 (0 + i12) fun w13 =>
    onCell w13 0 fun x14 =>
    onInt .u64 x14 fun n15 =>
    if (p1.tmod 64) < 0 then
      none
    else
      onIx (IntKind.i64.wrap (p1.tdiv 64)) l10 fun i16 =>
      onRow r11 (0 + i16) fun w17 =>
      some (.d (.agg [.v (.int .i64 n8), .sl 3 1 (((r11.set (0 + i16) (splice w17 0 [.v (.int .u64 (IntKind.u64.wrap ((BitVec.ofInt IntKind.u64.bits n15 ||| BitVec.ofInt IntKind.u64.bits (IntKind.u64.wrap ((1 : Int) * 2 ^ (min (p1.tmod 64).toNat IntKind.u64.bits)))).toNat : Int)))])).drop 0).take l10)]), [])) := by kernel_rfl
def bitset_Set_Count.cf : Cf := { loops := [{ fid := 46, key := 3, live := [3, 7, 8, 9], vecs := [], cvecs := [], nb := 1, cs := [] }] }
noncomputable def bitset_Set_Count.l3 (X : Orc) (k : Nat) (a3 : Int) (a7 : Rows) (a8 : Int) (a9 : Int) (h0_0 : Int) (h0_1 : Rows) : Option Res := loopAt P X bitset_Set_Count.cf k 46 Go.Proofs.Tryd.f46 3 [(3, .d (.v (.int .i64 a3))), (7, .d (.sl 3 1 a7)), (8, .d (.v (.int .i64 a8))), (9, .d (.v (.int .i64 a9)))] [] [.cel [.d (.v (.int .i64 h0_0)), .d (.sl 3 1 h0_1)]]
theorem bitset_Set_Count.l3_eq (X : Orc) (k : Nat) (a3 : Int) (a7 : Rows) (a8 : Int) (a9 : Int) (h0_0 : Int) (h0_1 : Rows) : bitset_Set_Count.l3 X (k + 1) a3 a7 a8 a9 h0_0 h0_1 = (
  if decide (a9 < a8) = true then
    onIx a9 a7.length fun i1 =>
    onRow a7 i1 fun w2 =>
    onCell w2 0 fun x3 =>
    onInt .u64 x3 fun n4 =>
    onCall (X F.math_bits_OnesCount64 [.d (.v (.int .u64 n4))] []) fun z5 =>
    onInt .i64 z5 fun n6 =>
    bitset_Set_Count.l3 X k (IntKind.i64.wrap (a3 + n6)) a7 a8 (IntKind.i64.wrap (a9 + 1)) h0_0 h0_1
  else
    some (.d (.v (.int .i64 a3)), [])) := by kernel_rfl
theorem bitset_Set_Count.eq (X : Orc) (k : Nat) (p0_0 : Int) (p0_1 : Rows) : runF P X bitset_Set_Count.cf (k + 1) F.bitset_Set_Count [.agg [.d (.v (.int .i64 p0_0)), .d (.sl 3 1 p0_1)]] [] = (
  bitset_Set_Count.l3 X k 0 p0_1 (p0_1.length : Int) 0 p0_0 p0_1) := by kernel_rfl
def num_add.cf : Cf := { loops := [] }
theorem num_add.eq (X : Orc) (k : Nat) (p0_0 : Bool) (p0_1 : Int) (p0_2 : Int) (p1_0 : Bool) (p1_1 : Int) (p1_2 : Int) : runF P X num_add.cf (k + 1) F.num_add [.agg [.d (.v (.bool p0_0)), .d (.v (.int .u64 p0_1)), .d (.v (.int .u64 p0_2))], .agg [.d (.v (.bool p1_0)), .d (.v (.int .u64 p1_1)), .d (.v (.int .u64 p1_2))]] [] = (
  if (p0_0 == p1_0) = true then
    onCall (X F.num_plus [.agg [.d (.v (.bool p0_0)), .d (.v (.int .u64 p0_1)), .d (.v (.int .u64 p0_2))], .agg [.d (.v (.bool p1_0)), .d (.v (.int .u64 p1_1)), .d (.v (.int .u64 p1_2))]] []) fun z1 =>
    onAgg 3 z1 fun c2 =>
    onCell c2 0 fun x3 =>
    onBool x3 fun b4 =>
    onCell c2 1 fun x5 =>
    onInt .u64 x5 fun n6 =>
    onCell c2 2 fun x7 =>
    onInt .u64 x7 fun n8 =>
    some (.d (.agg [.v (.bool b4), .v (.int .u64 n6), .v (.int .u64 n8)]), [])
  else
    onCall (X F.num_distance [.agg [.d (.v (.bool p0_0)), .d (.v (.int .u64 p0_1)), .d (.v (.int .u64 p0_2))], .agg [.d (.v (.bool p1_0)), .d (.v (.int .u64 p1_1)), .d (.v (.int .u64 p1_2))]] []) fun z9 =>
    onInt .i64 z9 fun n10 =>
    if decide (n10 ≥ 0) = true then
      onCall (X F.num_less [.agg [.d (.v (.bool p0_0)), .d (.v (.int .u64 p0_1)), .d (.v (.int .u64 p0_2))], .agg [.d (.v (.bool p1_0)), .d (.v (.int .u64 p1_1)), .d (.v (.int .u64 p1_2))]] []) fun z11 =>
      onAgg 3 z11 fun c12 =>
      onCell c12 0 fun x13 =>
      onBool x13 fun b14 =>
      onCell c12 1 fun x15 =>
      onInt .u64 x15 fun n16 =>
      onCell c12 2 fun x17 =>
      onInt .u64 x17 fun n18 =>
      onCall (X F.num_normal [.agg [.d (.v (.bool b14)), .d (.v (.int .u64 n16)), .d (.v (.int .u64 n18))]] []) fun z19 =>
      onAgg 3 z19 fun c20 =>
      onCell c20 0 fun x21 =>
      onBool x21 fun b22 =>
      onCell c20 1 fun x23 =>
      onInt .u64 x23 fun n24 =>
      onCell c20 2 fun x25 =>
      onInt .u64 x25 fun n26 =>
      some (.d (.agg [.v (.bool b22), .v (.int .u64 n24), .v (.int .u64 n26)]), [])
    else
      onCall (X F.num_less [.agg [.d (.v (.bool p1_0)), .d (.v (.int .u64 p1_1)), .d (.v (.int .u64 p1_2))], .agg [.d (.v (.bool p0_0)), .d (.v (.int .u64 p0_1)), .d (.v (.int .u64 p0_2))]] []) fun z27 =>
      onAgg 3 z27 fun c28 =>
      onCell c28 0 fun x29 =>
      onBool x29 fun b30 =>
      onCell c28 1 fun x31 =>
      onInt .u64 x31 fun n32 =>
      onCell c28 2 fun x33 =>
      onInt .u64 x33 fun n34 =>
      onCall (X F.num_normal [.agg [.d (.v (.bool b30)), .d (.v (.int .u64 n32)), .d (.v (.int .u64 n34))]] []) fun z35 =>
      onAgg 3 z35 fun c36 =>
      onCell c36 0 fun x37 =>
      onBool x37 fun b38 =>
      onCell c36 1 fun x39 =>
      onInt .u64 x39 fun n40 =>
      onCell c36 2 fun x41 =>
      onInt .u64 x41 fun n42 =>
      some (.d (.agg [.v (.bool b38), .v (.int .u64 n40), .v (.int .u64 n42)]), [])) := by kernel_rfl
def num_of.cf : Cf := { loops := [] }
theorem num_of.eq (X : Orc) (k : Nat) (p0 : Int) : runF P X num_of.cf (k + 1) F.num_of [.d (.v (.int .i64 p0))] [] = (
  onCall (X F.num_size [.d (.v (.int .i64 p0))] []) fun z1 =>
  onInt .u64 z1 fun n2 =>
  some (.d (.agg [.v (.bool (decide (p0 < 0))), .v (.int .u64 0), .v (.int .u64 n2)]), [])) := by kernel_rfl
def ref09_out.cf : Cf := { loops := [] }
theorem ref09_out.eq (X : Orc) (k : Nat) (p0 : Int) (p1 : Int) (p2 : Int) : runF P X ref09_out.cf (k + 1) F.ref09_out [.d (.v (.int .i64 p0)), .d (.v (.int .i64 p1)), .d (.v (.int .i64 p2))] [] = (
  if decide (p0 < p1) = true then
    some (.d (.v (.bool true)), [])
  else
    some (.d (.v (.bool (decide (p0 > p2)))), [])) := by kernel_rfl
def bitset_Set_within.cf : Cf := { loops := [] }
theorem bitset_Set_within.eq (X : Orc) (k : Nat) (p0_0 : Int) (p0_1 : Rows) (p1 : Int) : runF P X bitset_Set_within.cf (k + 1) F.bitset_Set_within [.agg [.d (.v (.int .i64 p0_0)), .d (.sl 3 1 p0_1)], .d (.v (.int .i64 p1))] [] = (
  if decide (p1 ≥ 0) = true then
    some (.d (.v (.bool (decide (p1 < p0_0)))), [])
  else
    some (.d (.v (.bool false)), [])) := by kernel_rfl
def bitset_Set_copied.cf : Cf := { loops := [], mode := fun g => bif Nat.beq g F.slices_Clone_s_uint64_uint64 then 3 else 0, ret := 2 }
theorem bitset_Set_copied.eq (X : Orc) (k : Nat) (p0_0 : Int) (p0_1 : Rows) : runF P X bitset_Set_copied.cf (k + 1) F.bitset_Set_copied [.agg [.d (.v (.int .i64 p0_0)), .d (.sl 3 1 p0_1)]] [] = (
  onOwn (X F.slices_Clone_s_uint64_uint64 [.d (.sl 3 1 p0_1)] []) fun z1 h2 =>
  onHs 0 1 z1 fun l3 =>
  onArr h2 0 1 fun r4 =>
  some (.agg [.d (.v (.int .i64 p0_0)), .hs 0 0 1 0 l3], [.arr 1 r4])) := by kernel_rfl
def math_bits_OnesCount64.cf : Cf := { loops := [], joins := [{ fid := 56, key := 2, live := [0], vecs := [], cvecs := [], nb := 0, cs := [] }, { fid := 56, key := 3, live := [0], vecs := [], cvecs := [], nb := 0, cs := [] }, { fid := 56, key := 4, live := [0], vecs := [], cvecs := [], nb := 0, cs := [] }, { fid := 56, key := 5, live := [0], vecs := [], cvecs := [], nb := 0, cs := [] }, { fid := 56, key := 6, live := [0], vecs := [], cvecs := [], nb := 0, cs := [] }, { fid := 56, key := 7, live := [0], vecs := [], cvecs := [], nb := 0, cs := [] }] }
noncomputable def math_bits_OnesCount64.j2 (X : Orc) (k : Nat) (a0 : Int) : Option Res := joinAt P X math_bits_OnesCount64.cf k 56 Go.Proofs.Tryd.f56 2 [(0, .d (.v (.int .u64 a0)))] [] []
noncomputable def math_bits_OnesCount64.j3 (X : Orc) (k : Nat) (a0 : Int) : Option Res := joinAt P X math_bits_OnesCount64.cf k 56 Go.Proofs.Tryd.f56 3 [(0, .d (.v (.int .u64 a0)))] [] []
noncomputable def math_bits_OnesCount64.j4 (X : Orc) (k : Nat) (a0 : Int) : Option Res := joinAt P X math_bits_OnesCount64.cf k 56 Go.Proofs.Tryd.f56 4 [(0, .d (.v (.int .u64 a0)))] [] []
noncomputable def math_bits_OnesCount64.j5 (X : Orc) (k : Nat) (a0 : Int) : Option Res := joinAt P X math_bits_OnesCount64.cf k 56 Go.Proofs.Tryd.f56 5 [(0, .d (.v (.int .u64 a0)))] [] []
noncomputable def math_bits_OnesCount64.j6 (X : Orc) (k : Nat) (a0 : Int) : Option Res := joinAt P X math_bits_OnesCount64.cf k 56 Go.Proofs.Tryd.f56 6 [(0, .d (.v (.int .u64 a0)))] [] []
noncomputable def math_bits_OnesCount64.j7 (X : Orc) (k : Nat) (a0 : Int) : Option Res := joinAt P X math_bits_OnesCount64.cf k 56 Go.Proofs.Tryd.f56 7 [(0, .d (.v (.int .u64 a0)))] [] []
theorem math_bits_OnesCount64.j2_eq (X : Orc) (k : Nat) (a0 : Int) : math_bits_OnesCount64.j2 X (k + 1) a0 = (
  math_bits_OnesCount64.j3 X k (IntKind.u64.wrap ((IntKind.u64.wrap ((BitVec.ofInt IntKind.u64.bits (a0.fdiv (2 ^ (min (2 : Int).toNat IntKind.u64.bits))) &&& BitVec.ofInt IntKind.u64.bits 3689348814741910323).toNat : Int)) + (IntKind.u64.wrap ((BitVec.ofInt IntKind.u64.bits a0 &&& BitVec.ofInt IntKind.u64.bits 3689348814741910323).toNat : Int))))) := by kernel_rfl
theorem math_bits_OnesCount64.j3_eq (X : Orc) (k : Nat) (a0 : Int) : math_bits_OnesCount64.j3 X (k + 1) a0 = (
  math_bits_OnesCount64.j4 X k (IntKind.u64.wrap ((BitVec.ofInt IntKind.u64.bits (IntKind.u64.wrap ((a0.fdiv (2 ^ (min (4 : Int).toNat IntKind.u64.bits))) + a0)) &&& BitVec.ofInt IntKind.u64.bits 1085102592571150095).toNat : Int))) := by kernel_rfl
theorem math_bits_OnesCount64.j4_eq (X : Orc) (k : Nat) (a0 : Int) : math_bits_OnesCount64.j4 X (k + 1) a0 = (
  math_bits_OnesCount64.j5 X k (IntKind.u64.wrap (a0 + (a0.fdiv (2 ^ (min (8 : Int).toNat IntKind.u64.bits)))))) := by kernel_rfl
theorem math_bits_OnesCount64.j5_eq (X : Orc) (k : Nat) (a0 : Int) : math_bits_OnesCount64.j5 X (k + 1) a0 = (
  math_bits_OnesCount64.j6 X k (IntKind.u64.wrap (a0 + (a0.fdiv (2 ^ (min (16 : Int).toNat IntKind.u64.bits)))))) := by kernel_rfl
theorem math_bits_OnesCount64.j6_eq (X : Orc) (k : Nat) (a0 : Int) : math_bits_OnesCount64.j6 X (k + 1) a0 = (
  math_bits_OnesCount64.j7 X k (IntKind.u64.wrap (a0 + (a0.fdiv (2 ^ (min (32 : Int).toNat IntKind.u64.bits)))))) := by kernel_rfl
theorem math_bits_OnesCount64.j7_eq (X : Orc) (k : Nat) (a0 : Int) : math_bits_OnesCount64.j7 X (k + 1) a0 = (
  some (.d (.v (.int .i64 (IntKind.i64.wrap ((BitVec.ofInt IntKind.i64.bits (IntKind.i64.wrap a0) &&& BitVec.ofInt IntKind.i64.bits 127).toNat : Int)))), [])) := by kernel_rfl
theorem math_bits_OnesCount64.eq (X : Orc) (k : Nat) (p0 : Int) : runF P X math_bits_OnesCount64.cf (k + 1) F.math_bits_OnesCount64 [.d (.v (.int .u64 p0))] [] = (
  math_bits_OnesCount64.j2 X k (IntKind.u64.wrap ((IntKind.u64.wrap ((BitVec.ofInt IntKind.u64.bits (p0.fdiv (2 ^ (min (1 : Int).toNat IntKind.u64.bits))) &&& BitVec.ofInt IntKind.u64.bits 6148914691236517205).toNat : Int)) + (IntKind.u64.wrap ((BitVec.ofInt IntKind.u64.bits p0 &&& BitVec.ofInt IntKind.u64.bits 6148914691236517205).toNat : Int))))) := by kernel_rfl
def num_plus.cf : Cf := { loops := [] }
theorem num_plus.eq (X : Orc) (k : Nat) (p0_0 : Bool) (p0_1 : Int) (p0_2 : Int) (p1_0 : Bool) (p1_1 : Int) (p1_2 : Int) : runF P X num_plus.cf (k + 1) F.num_plus [.agg [.d (.v (.bool p0_0)), .d (.v (.int .u64 p0_1)), .d (.v (.int .u64 p0_2))], .agg [.d (.v (.bool p1_0)), .d (.v (.int .u64 p1_1)), .d (.v (.int .u64 p1_2))]] [] = (
  onCall (X F.math_bits_Add64 [.d (.v (.int .u64 p0_2)), .d (.v (.int .u64 p1_2)), .d (.v (.int .u64 0))] []) fun z1 =>
  onTup 2 z1 fun u2 =>
  onCell u2 0 fun x3 =>
  onInt .u64 x3 fun n4 =>
  onCell u2 1 fun x5 =>
  onInt .u64 x5 fun n6 =>
  onCall (X F.math_bits_Add64 [.d (.v (.int .u64 p0_1)), .d (.v (.int .u64 p1_1)), .d (.v (.int .u64 n6))] []) fun z7 =>
  onTup 2 z7 fun u8 =>
  onCell u8 0 fun x9 =>
  onInt .u64 x9 fun n10 =>
  onCell u8 1 fun x11 =>
  onInt .u64 x11 fun n12 =>
  some (.d (.agg [.v (.bool p0_0), .v (.int .u64 n10), .v (.int .u64 n4)]), [])) := by kernel_rfl
def num_distance.cf : Cf := { loops := [] }
theorem num_distance.eq (X : Orc) (k : Nat) (p0_0 : Bool) (p0_1 : Int) (p0_2 : Int) (p1_0 : Bool) (p1_1 : Int) (p1_2 : Int) : runF P X num_distance.cf (k + 1) F.num_distance [.agg [.d (.v (.bool p0_0)), .d (.v (.int .u64 p0_1)), .d (.v (.int .u64 p0_2))], .agg [.d (.v (.bool p1_0)), .d (.v (.int .u64 p1_1)), .d (.v (.int .u64 p1_2))]] [] = (
  onCall (X F.cmp_Compare_uint64 [.d (.v (.int .u64 p0_1)), .d (.v (.int .u64 p1_1))] []) fun z1 =>
  onInt .i64 z1 fun n2 =>
  onCall (X F.cmp_Compare_uint64 [.d (.v (.int .u64 p0_2)), .d (.v (.int .u64 p1_2))] []) fun z3 =>
  onInt .i64 z3 fun n4 =>
  onCall (X F.cmp_Or_int [.d (.sl 3 1 ([[.v (.int .i64 n2)], [.v (.int .i64 n4)]]))] []) fun z5 =>
  onInt .i64 z5 fun n6 =>
  some (.d (.v (.int .i64 n6)), [])) := by kernel_rfl
def num_normal.cf : Cf := { loops := [] }
theorem num_normal.eq (X : Orc) (k : Nat) (p0_0 : Bool) (p0_1 : Int) (p0_2 : Int) : runF P X num_normal.cf (k + 1) F.num_normal [.agg [.d (.v (.bool p0_0)), .d (.v (.int .u64 p0_1)), .d (.v (.int .u64 p0_2))]] [] = (
  if p0_0 = true then
    some (.d (.agg [.v (.bool ((IntKind.u64.wrap ((BitVec.ofInt IntKind.u64.bits p0_1 ||| BitVec.ofInt IntKind.u64.bits p0_2).toNat : Int)) != 0)), .v (.int .u64 p0_1), .v (.int .u64 p0_2)]), [])
  else
    some (.d (.agg [.v (.bool false), .v (.int .u64 p0_1), .v (.int .u64 p0_2)]), [])) := by kernel_rfl
def num_less.cf : Cf := { loops := [] }
theorem num_less.eq (X : Orc) (k : Nat) (p0_0 : Bool) (p0_1 : Int) (p0_2 : Int) (p1_0 : Bool) (p1_1 : Int) (p1_2 : Int) : runF P X num_less.cf (k + 1) F.num_less [.agg [.d (.v (.bool p0_0)), .d (.v (.int .u64 p0_1)), .d (.v (.int .u64 p0_2))], .agg [.d (.v (.bool p1_0)), .d (.v (.int .u64 p1_1)), .d (.v (.int .u64 p1_2))]] [] = (
  onCall (X F.math_bits_Sub64 [.d (.v (.int .u64 p0_2)), .d (.v (.int .u64 p1_2)), .d (.v (.int .u64 0))] []) fun z1 =>
  onTup 2 z1 fun u2 =>
  onCell u2 0 fun x3 =>
  onInt .u64 x3 fun n4 =>
  onCell u2 1 fun x5 =>
  onInt .u64 x5 fun n6 =>
  onCall (X F.math_bits_Sub64 [.d (.v (.int .u64 p0_1)), .d (.v (.int .u64 p1_1)), .d (.v (.int .u64 n6))] []) fun z7 =>
  onTup 2 z7 fun u8 =>
  onCell u8 0 fun x9 =>
  onInt .u64 x9 fun n10 =>
  onCell u8 1 fun x11 =>
  onInt .u64 x11 fun n12 =>
  some (.d (.agg [.v (.bool p0_0), .v (.int .u64 n10), .v (.int .u64 n4)]), [])) := by kernel_rfl
def num_size.cf : Cf := { loops := [] }
theorem num_size.eq (X : Orc) (k : Nat) (p0 : Int) : runF P X num_size.cf (k + 1) F.num_size [.d (.v (.int .i64 p0))] [] = (
  if decide (p0 < 0) = true then
    some (.d (.v (.int .u64 (IntKind.u64.wrap (0 - (IntKind.u64.wrap p0))))), [])
  else
    some (.d (.v (.int .u64 (IntKind.u64.wrap p0))), [])) := by kernel_rfl
def slices_Clone_s_uint64_uint64.cf : Cf := { loops := [], ret := 2 }
theorem slices_Clone_s_uint64_uint64.eq (X : Orc) (k : Nat) (p0 : Rows) : runF P X slices_Clone_s_uint64_uint64.cf (k + 1) F.slices_Clone_s_uint64_uint64 [.d (.sl 0 1 p0)] [] = (
  onRoom (0 + p0.length) <|
  some (.hs 0 0 1 0 ((([]) ++ p0).length), [.arr 1 (([]) ++ p0)])) := by kernel_rfl
theorem slices_Clone_s_uint64_uint64.eq_nil (X : Orc) (k : Nat)  : runF P X slices_Clone_s_uint64_uint64.cf (k + 1) F.slices_Clone_s_uint64_uint64 [.d (.sl 2 1 ([]))] [] = (
  some (.d (.v (.slice none 0 0)), [])) := by kernel_rfl
def cmp_Or_int.cf : Cf := { loops := [{ fid := 67, key := 3, live := [3, 6, 7, 8], vecs := [], cvecs := [], nb := 0, cs := [] }] }
noncomputable def cmp_Or_int.l3 (X : Orc) (k : Nat) (a3 : Int) (a6 : Rows) (a7 : Int) (a8 : Int) : Option Res := loopAt P X cmp_Or_int.cf k 67 Go.Proofs.Tryd.f67 3 [(3, .d (.v (.int .i64 a3))), (6, .d (.sl 3 1 a6)), (7, .d (.v (.int .i64 a7))), (8, .d (.v (.int .i64 a8)))] [] []
theorem cmp_Or_int.l3_eq (X : Orc) (k : Nat) (a3 : Int) (a6 : Rows) (a7 : Int) (a8 : Int) : cmp_Or_int.l3 X (k + 1) a3 a6 a7 a8 = (
  if decide (a8 < a7) = true then
    onIx a8 a6.length fun i1 =>
    onRow a6 i1 fun w2 =>
    onCell w2 0 fun x3 =>
    onInt .i64 x3 fun n4 =>
    if (n4 != a3) = true then
      some (.d (.v (.int .i64 n4)), [])
    else
      cmp_Or_int.l3 X k a3 a6 a7 (IntKind.i64.wrap (a8 + 1))
  else
    some (.d (.v (.int .i64 a3)), [])) := by kernel_rfl
theorem cmp_Or_int.eq (X : Orc) (k : Nat) (p0 : Rows) : runF P X cmp_Or_int.cf (k + 1) F.cmp_Or_int [.d (.sl 3 1 p0)] [] = (
  cmp_Or_int.l3 X k 0 p0 (p0.length : Int) 0) := by kernel_rfl
def cmp_Compare_uint64.cf : Cf := { loops := [] }
theorem cmp_Compare_uint64.eq (X : Orc) (k : Nat) (p0 : Int) (p1 : Int) : runF P X cmp_Compare_uint64.cf (k + 1) F.cmp_Compare_uint64 [.d (.v (.int .u64 p0)), .d (.v (.int .u64 p1))] [] = (
  onCall (X F.cmp_isNaN_uint64 [.d (.v (.int .u64 p0))] []) fun z1 =>
  onBool z1 fun b2 =>
  onCall (X F.cmp_isNaN_uint64 [.d (.v (.int .u64 p1))] []) fun z3 =>
  onBool z3 fun b4 =>
  if b2 = true then
    if b4 = true then
      some (.d (.v (.int .i64 0)), [])
    else
      some (.d (.v (.int .i64 (-1))), [])
  else
    if b4 = true then
      some (.d (.v (.int .i64 1)), [])
    else
      if decide (p0 < p1) = true then
        some (.d (.v (.int .i64 (-1))), [])
      else
        if decide (p0 > p1) = true then
          some (.d (.v (.int .i64 1)), [])
        else
          some (.d (.v (.int .i64 0)), [])) := by kernel_rfl
def cmp_isNaN_uint64.cf : Cf := { loops := [] }
theorem cmp_isNaN_uint64.eq (X : Orc) (k : Nat) (p0 : Int) : runF P X cmp_isNaN_uint64.cf (k + 1) F.cmp_isNaN_uint64 [.d (.v (.int .u64 p0))] [] = (
  some (.d (.v (.bool (p0 != p0))), [])) := by kernel_rfl
end W
