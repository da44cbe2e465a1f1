/- What single functions do, as equations of the abstract machine; each is checked by the kernel. -/
import Derived.Test.YtoohlpeogeeobaaGenN
open Go Go.Eng
set_option linter.unusedVariables false
namespace W
def ref01_Of.cf : Cf := { loops := [{ fid := 25, key := 6, live := [0, 2, 3, 4, 5], vecs := [(4, 1)], cvecs := [], nb := 2, cs := [] }] }
noncomputable def ref01_Of.l6 (X : Orc) (k : Nat) (a0 : Int) (a3 : Int) (a5 : Int) (h0_0 : Bool) (H1 : Rows) : Option Res := loopAt P X ref01_Of.cf k 25 Go.Proofs.Try.f25 6 [(0, .d (.v (.int .i64 a0))), (2, .ptr 0 0), (3, .d (.v (.int .u64 a3))), (4, .vh 1 0 1 H1.length), (5, .d (.v (.int .i64 a5)))] [] [.cel [.d (.v (.bool h0_0)), .d (.v (.slice none 0 0))], .vec 1 0 H1]
theorem ref01_Of.l6_eq (X : Orc) (k : Nat) (a0 : Int) (a3 : Int) (a5 : Int) (h0_0 : Bool) (H1 : Rows) : ref01_Of.l6 X (k + 1) a0 a3 a5 h0_0 H1 = (
  if decide (a5 < 4) = true then
    onRoom (H1.length + 1) <|
    ref01_Of.l6 X k a0 (IntKind.u64.wrap (a3.tdiv 65536)) (IntKind.i64.wrap (a5 + 1)) h0_0 (H1 ++ ([[.v (.int .u64 (a3.tmod 65536))]]))
  else
    onCall (X F.ref01_trim [.agg [.d (.v (.bool (decide (a0 < 0)))), .d (.sl 3 1 H1)]] []) fun z1 =>
    onAgg 2 z1 fun c2 =>
    onCell c2 0 fun x3 =>
    onBool x3 fun b4 =>
    onCell c2 1 fun x5 =>
    onSl 1 x5 fun r6 =>
    some (.d (.agg [.v (.bool b4), .sl 3 1 r6]), [])) := by kernel_rfl
theorem ref01_Of.eq (X : Orc) (k : Nat) (p0 : Int) : runF P X ref01_Of.cf (k + 1) F.ref01_Of [.d (.v (.int .i64 p0))] [] = (
  if decide (p0 < 0) = true then
    ref01_Of.l6 X k p0 (IntKind.u64.wrap ((IntKind.u64.wrap (IntKind.i64.wrap (0 - (IntKind.i64.wrap (p0 + 1))))) + 1)) 0 false ([])
  else
    ref01_Of.l6 X k p0 (IntKind.u64.wrap p0) 0 false ([])) := by kernel_rfl
def ref01_Mul.cf : Cf := { loops := [{ fid := 26, key := 3, live := [2, 3, 4, 5, 6], vecs := [], cvecs := [], nb := 4, cs := [] }, { fid := 26, key := 7, live := [2, 3, 4, 5, 6, 7, 8], vecs := [], cvecs := [], nb := 4, cs := [] }] }
noncomputable def ref01_Mul.l3 (X : Orc) (k : Nat) (a5l : Nat) (a6 : Int) (h0_0 : Bool) (h0_1 : Rows) (h1_0 : Bool) (h1_1 : Rows) (h2_0 : Bool) (H3 : Rows) : Option Res := loopAt P X ref01_Mul.cf k 26 Go.Proofs.Try.f26 3 [(2, .ptr 0 0), (3, .ptr 1 0), (4, .ptr 2 0), (5, .hs 3 0 1 0 a5l), (6, .d (.v (.int .i64 a6)))] [] [.cel [.d (.v (.bool h0_0)), .d (.sl 3 1 h0_1)], .cel [.d (.v (.bool h1_0)), .d (.sl 3 1 h1_1)], .cel [.d (.v (.bool h2_0)), .d (.v (.slice none 0 0))], .arr 1 H3]
noncomputable def ref01_Mul.l7 (X : Orc) (k : Nat) (a5l : Nat) (a6 : Int) (a7 : Int) (a8 : Int) (h0_0 : Bool) (h0_1 : Rows) (h1_0 : Bool) (h1_1 : Rows) (h2_0 : Bool) (H3 : Rows) : Option Res := loopAt P X ref01_Mul.cf k 26 Go.Proofs.Try.f26 7 [(2, .ptr 0 0), (3, .ptr 1 0), (4, .ptr 2 0), (5, .hs 3 0 1 0 a5l), (6, .d (.v (.int .i64 a6))), (7, .d (.v (.int .u64 a7))), (8, .d (.v (.int .i64 a8)))] [] [.cel [.d (.v (.bool h0_0)), .d (.sl 3 1 h0_1)], .cel [.d (.v (.bool h1_0)), .d (.sl 3 1 h1_1)], .cel [.d (.v (.bool h2_0)), .d (.v (.slice none 0 0))], .arr 1 H3]
theorem ref01_Mul.l3_eq (X : Orc) (k : Nat) (a5l : Nat) (a6 : Int) (h0_0 : Bool) (h0_1 : Rows) (h1_0 : Bool) (h1_1 : Rows) (h2_0 : Bool) (H3 : Rows) : ref01_Mul.l3 X (k + 1) a5l a6 h0_0 h0_1 h1_0 h1_1 h2_0 H3 = (
  if decide (a6 < (h0_1.length : Int)) = true then
    ref01_Mul.l7 X k a5l a6 0 0 h0_0 h0_1 h1_0 h1_1 h2_0 H3
  else
    onCall (X F.ref01_trim [.agg [.d (.v (.bool (!(h0_0 == h1_0)))), .d (.sl 3 1 ((H3.drop 0).take a5l))]] []) fun z1 =>
    onAgg 2 z1 fun c2 =>
    onCell c2 0 fun x3 =>
    onBool x3 fun b4 =>
    onCell c2 1 fun x5 =>
    onSl 1 x5 fun r6 =>
    some (.d (.agg [.v (.bool b4), .sl 3 1 r6]), [])) := by kernel_rfl
theorem ref01_Mul.l7_eq (X : Orc) (k : Nat) (a5l : Nat) (a6 : Int) (a7 : Int) (a8 : Int) (h0_0 : Bool) (h0_1 : Rows) (h1_0 : Bool) (h1_1 : Rows) (h2_0 : Bool) (H3 : Rows) : ref01_Mul.l7 X (k + 1) a5l a6 a7 a8 h0_0 h0_1 h1_0 h1_1 h2_0 H3 = (
  if decide (a8 < (h1_1.length : Int)) = true then
    onIx (IntKind.i64.wrap (a6 + a8)) a5l fun i1 =>
    onRow H3 (0 + i1) fun w2 =>
    onCell w2 0 fun x3 =>
    onInt .u64 x3 fun n4 =>
    if decide (a8 < (h1_1.length : Int)) = true then
      onIx a6 h0_1.length fun i5 =>
      onRow h0_1 i5 fun w6 =>
      onCell w6 0 fun x7 =>
      onInt .u64 x7 fun n8 =>
      onIx a8 h1_1.length fun i9 =>
      onRow h1_1 i9 fun w10 =>
      onCell w10 0 fun x11 =>
      onInt .u64 x11 fun n12 =>
      onIx (IntKind.i64.wrap (a6 + a8)) a5l fun i13 =>
      onRow H3 (0 + i13) fun w14 =>
      ref01_Mul.l7 X k a5l a6 (IntKind.u64.wrap ((IntKind.u64.wrap ((IntKind.u64.wrap (a7 + n4)) + (IntKind.u64.wrap (n8 * n12)))).tdiv 65536)) (IntKind.i64.wrap (a8 + 1)) h0_0 h0_1 h1_0 h1_1 h2_0 (H3.set (0 + i13) (splice w14 0 [.v (.int .u64 ((IntKind.u64.wrap ((IntKind.u64.wrap (a7 + n4)) + (IntKind.u64.wrap (n8 * n12)))).tmod 65536))]))
    else
      onIx (IntKind.i64.wrap (a6 + a8)) a5l fun i15 =>
      onRow H3 (0 + i15) fun w16 =>
      ref01_Mul.l7 X k a5l a6 (IntKind.u64.wrap ((IntKind.u64.wrap (a7 + n4)).tdiv 65536)) (IntKind.i64.wrap (a8 + 1)) h0_0 h0_1 h1_0 h1_1 h2_0 (H3.set (0 + i15) (splice w16 0 [.v (.int .u64 ((IntKind.u64.wrap (a7 + n4)).tmod 65536))]))
  else
    if decide (a7 > 0) = true then
      onIx (IntKind.i64.wrap (a6 + a8)) a5l fun i17 =>
      onRow H3 (0 + i17) fun w18 =>
      onCell w18 0 fun x19 =>
      onInt .u64 x19 fun n20 =>
      if decide (a8 < (h1_1.length : Int)) = true then
        onIx a6 h0_1.length fun i21 =>
        onRow h0_1 i21 fun w22 =>
        onCell w22 0 fun x23 =>
        onInt .u64 x23 fun n24 =>
        onIx a8 h1_1.length fun i25 =>
        onRow h1_1 i25 fun w26 =>
        onCell w26 0 fun x27 =>
        onInt .u64 x27 fun n28 =>
        onIx (IntKind.i64.wrap (a6 + a8)) a5l fun i29 =>
        onRow H3 (0 + i29) fun w30 =>
        ref01_Mul.l7 X k a5l a6 (IntKind.u64.wrap ((IntKind.u64.wrap ((IntKind.u64.wrap (a7 + n20)) + (IntKind.u64.wrap (n24 * n28)))).tdiv 65536)) (IntKind.i64.wrap (a8 + 1)) h0_0 h0_1 h1_0 h1_1 h2_0 (H3.set (0 + i29) (splice w30 0 [.v (.int .u64 ((IntKind.u64.wrap ((IntKind.u64.wrap (a7 + n20)) + (IntKind.u64.wrap (n24 * n28)))).tmod 65536))]))
      else
        onIx (IntKind.i64.wrap (a6 + a8)) a5l fun i31 =>
        onRow H3 (0 + i31) fun w32 =>
        ref01_Mul.l7 X k a5l a6 (IntKind.u64.wrap ((IntKind.u64.wrap (a7 + n20)).tdiv 65536)) (IntKind.i64.wrap (a8 + 1)) h0_0 h0_1 h1_0 h1_1 h2_0 (H3.set (0 + i31) (splice w32 0 [.v (.int .u64 ((IntKind.u64.wrap (a7 + n20)).tmod 65536))]))
    else
      ref01_Mul.l3 X k a5l (IntKind.i64.wrap (a6 + 1)) h0_0 h0_1 h1_0 h1_1 h2_0 H3) := by kernel_rfl
theorem ref01_Mul.eq (X : Orc) (k : Nat) (p0_0 : Bool) (p0_1 : Rows) (p1_0 : Bool) (p1_1 : Rows) : runF P X ref01_Mul.cf (k + 1) F.ref01_Mul [.agg [.d (.v (.bool p0_0)), .d (.sl 3 1 p0_1)], .agg [.d (.v (.bool p1_0)), .d (.sl 3 1 p1_1)]] [] = (
  if 0 ≤ (IntKind.i64.wrap ((IntKind.i64.wrap ((p0_1.length : Int) + (p1_1.length : Int))) + 1)) then
    onRoom ((IntKind.i64.wrap ((IntKind.i64.wrap ((p0_1.length : Int) + (p1_1.length : Int))) + 1)).toNat) <|
    ref01_Mul.l3 X k ((IntKind.i64.wrap ((IntKind.i64.wrap ((p0_1.length : Int) + (p1_1.length : Int))) + 1)).toNat) 0 p0_0 p0_1 p1_0 p1_1 false (List.replicate ((IntKind.i64.wrap ((IntKind.i64.wrap ((p0_1.length : Int) + (p1_1.length : Int))) + 1)).toNat) [.v (.int .u64 0)])
  else
    none) := by kernel_rfl
def ref01_Short.cf : Cf := { loops := [{ fid := 27, key := 9, live := [1, 8, 9], vecs := [], cvecs := [], nb := 3, cs := [] }] }
noncomputable def ref01_Short.l9 (X : Orc) (k : Nat) (a8 : Int) (a9 : Int) (h0_0 : Bool) (h0_1 : Rows) (h1_0 : Bool) (h1_1 : Rows) (h2_0 : Bool) (h2_1 : Rows) : Option Res := loopAt P X ref01_Short.cf k 27 Go.Proofs.Try.f27 9 [(1, .ptr 0 0), (8, .d (.v (.int .i64 a8))), (9, .d (.v (.int .i64 a9)))] [] [.cel [.d (.v (.bool h0_0)), .d (.sl 3 1 h0_1)], .cel [.d (.v (.bool h1_0)), .d (.sl 3 1 h1_1)], .cel [.d (.v (.bool h2_0)), .d (.sl 3 1 h2_1)]]
theorem ref01_Short.l9_eq (X : Orc) (k : Nat) (a8 : Int) (a9 : Int) (h0_0 : Bool) (h0_1 : Rows) (h1_0 : Bool) (h1_1 : Rows) (h2_0 : Bool) (h2_1 : Rows) : ref01_Short.l9 X (k + 1) a8 a9 h0_0 h0_1 h1_0 h1_1 h2_0 h2_1 = (
  if decide (a9 ≥ 0) = true then
    if h0_0 = true then
      onIx a9 h0_1.length fun i1 =>
      onRow h0_1 i1 fun w2 =>
      onCell w2 0 fun x3 =>
      onInt .u64 x3 fun n4 =>
      ref01_Short.l9 X k (IntKind.i64.wrap ((IntKind.i64.wrap (a8 * 65536)) - (IntKind.i64.wrap n4))) (IntKind.i64.wrap (a9 - 1)) h0_0 h0_1 h1_0 h1_1 h2_0 h2_1
    else
      onIx a9 h0_1.length fun i5 =>
      onRow h0_1 i5 fun w6 =>
      onCell w6 0 fun x7 =>
      onInt .u64 x7 fun n8 =>
      ref01_Short.l9 X k (IntKind.i64.wrap ((IntKind.i64.wrap (a8 * 65536)) + (IntKind.i64.wrap n8))) (IntKind.i64.wrap (a9 - 1)) h0_0 h0_1 h1_0 h1_1 h2_0 h2_1
  else
    some (.d (.tup [.v (.int .i64 a8), .v (.bool true)]), [])) := by kernel_rfl
theorem ref01_Short.eq (X : Orc) (k : Nat) (p0_0 : Bool) (p0_1 : Rows) : runF P X ref01_Short.cf (k + 1) F.ref01_Short [.agg [.d (.v (.bool p0_0)), .d (.sl 3 1 p0_1)]] [] = (
  onCall (X F.ref01_Of [.d (.v (.int .i64 (-9223372036854775808)))] []) fun z1 =>
  onAgg 2 z1 fun c2 =>
  onCell c2 0 fun x3 =>
  onBool x3 fun b4 =>
  onCell c2 1 fun x5 =>
  onSl 1 x5 fun r6 =>
  onCall (X F.ref01_Of [.d (.v (.int .i64 9223372036854775807))] []) fun z7 =>
  onAgg 2 z7 fun c8 =>
  onCell c8 0 fun x9 =>
  onBool x9 fun b10 =>
  onCell c8 1 fun x11 =>
  onSl 1 x11 fun r12 =>
  onCall (X F.ref01_Cmp [.agg [.d (.v (.bool p0_0)), .d (.sl 3 1 p0_1)], .agg [.d (.v (.bool b4)), .d (.sl 3 1 r6)]] []) fun z13 =>
  onInt .i64 z13 fun n14 =>
  onCall (X F.ref01_Cmp [.agg [.d (.v (.bool p0_0)), .d (.sl 3 1 p0_1)], .agg [.d (.v (.bool b10)), .d (.sl 3 1 r12)]] []) fun z15 =>
  onInt .i64 z15 fun n16 =>
  if decide (n14 < 0) = true then
    some (.d (.tup [.v (.int .i64 0), .v (.bool false)]), [])
  else
    if decide (n16 > 0) = true then
      some (.d (.tup [.v (.int .i64 0), .v (.bool false)]), [])
    else
      ref01_Short.l9 X k 0 (IntKind.i64.wrap ((p0_1.length : Int) - 1)) p0_0 p0_1 b4 r6 b10 r12) := by kernel_rfl
def eval_Value.cf : Cf := { loops := [] }
theorem eval_Value.eq (X : Orc) (k : Nat) (p0_0 : Int) (p0_1 : Int) (p0_2 : Rows) (p0_3 : Rows) (p0_4 : Int) (p0_5 : Rows) (p1 : Rows) : runF P X eval_Value.cf (k + 1) F.eval_Value [.agg [.d (.v (.int .i64 p0_0)), .d (.v (.int .i64 p0_1)), .d (.sl 3 2 p0_2), .d (.sl 3 1 p0_3), .d (.v (.int .i64 p0_4)), .d (.sl 3 2 p0_5)], .d (.sl 3 1 p1)] [] = (
  onCall (X F.inst_Inst_Check [.agg [.d (.v (.int .i64 p0_0)), .d (.v (.int .i64 p0_1)), .d (.sl 3 2 p0_2), .d (.sl 3 1 p0_3), .d (.v (.int .i64 p0_4)), .d (.sl 3 2 p0_5)]] []) fun z1 =>
  onInt .i64 z1 fun n2 =>
  if (n2 != 0) = true then
    some (.d (.tup [.v (.int .i64 0), .v (.int .i64 n2)]), [])
  else
    onCall (X F.eval_may [.agg [.d (.v (.int .i64 p0_0)), .d (.v (.int .i64 p0_1)), .d (.sl 3 2 p0_2), .d (.sl 3 1 p0_3), .d (.v (.int .i64 p0_4)), .d (.sl 3 2 p0_5)], .d (.sl 3 1 p1)] []) fun z3 =>
    onBool z3 fun b4 =>
    if (!b4) = true then
      some (.d (.tup [.v (.int .i64 0), .v (.int .i64 12)]), [])
    else
      onCall (X F.eval_parts [.agg [.d (.v (.int .i64 p0_0)), .d (.v (.int .i64 p0_1)), .d (.sl 3 2 p0_2), .d (.sl 3 1 p0_3), .d (.v (.int .i64 p0_4)), .d (.sl 3 2 p0_5)], .d (.sl 3 1 p1)] []) fun z5 =>
      onSl 1 z5 fun r6 =>
      onCall (X F.num_Sum [.d (.sl 3 1 r6)] []) fun z7 =>
      onTup 2 z7 fun u8 =>
      onCell u8 0 fun x9 =>
      onInt .i64 x9 fun n10 =>
      onCell u8 1 fun x11 =>
      onBool x11 fun b12 =>
      some (.d (.tup [.v (.int .i64 n10), .v (.int .i64 0)]), [])) := by kernel_rfl
def dyn_rows.cf : Cf := { loops := [{ fid := 29, key := 3, live := [3, 15, 16, 17], vecs := [], cvecs := [], nb := 2, cs := [] }, { fid := 29, key := 8, live := [3, 5, 6, 7, 8, 15, 16, 17], vecs := [], cvecs := [], nb := 4, cs := [] }], mode := fun g => bif Nat.beq g F.slices_Clone_s_int64_int64 then 2 else 0, own := [13], dat := [12] }
noncomputable def dyn_rows.l3 (X : Orc) (k : Nat) (a15 : Rows) (a16 : Int) (a17 : Int) (h0_0 : Int) (h0_1 : Int) (h0_2 : Rows) (h0_3 : Rows) (h0_4 : Int) (h0_5 : Rows) (H1 : Rows) : Option Res := loopAt P X dyn_rows.cf k 29 Go.Proofs.Try.f29 3 [(3, .vh 1 0 1 H1.length), (15, .d (.sl 3 2 a15)), (16, .d (.v (.int .i64 a16))), (17, .d (.v (.int .i64 a17)))] [] [.cel [.d (.v (.int .i64 h0_0)), .d (.v (.int .i64 h0_1)), .d (.sl 3 2 h0_2), .d (.sl 3 1 h0_3), .d (.v (.int .i64 h0_4)), .d (.sl 3 2 h0_5)], .vec 1 0 H1]
noncomputable def dyn_rows.l8 (X : Orc) (k : Nat) (a6 : Rows) (a7l : Nat) (a8 : Int) (a15 : Rows) (a16 : Int) (a17 : Int) (h0_0 : Int) (h0_1 : Int) (h0_2 : Rows) (h0_3 : Rows) (h0_4 : Int) (h0_5 : Rows) (H1 : Rows) (h2_0 : Int) (h2_1 : Int) (H3 : Rows) : Option Res := loopAt P X dyn_rows.cf k 29 Go.Proofs.Try.f29 8 [(3, .vh 1 0 1 H1.length), (5, .ptr 2 0), (6, .d (.sl 3 1 a6)), (7, .hs 3 0 1 0 a7l), (8, .d (.v (.int .i64 a8))), (15, .d (.sl 3 2 a15)), (16, .d (.v (.int .i64 a16))), (17, .d (.v (.int .i64 a17)))] [] [.cel [.d (.v (.int .i64 h0_0)), .d (.v (.int .i64 h0_1)), .d (.sl 3 2 h0_2), .d (.sl 3 1 h0_3), .d (.v (.int .i64 h0_4)), .d (.sl 3 2 h0_5)], .vec 1 0 H1, .cel [.d (.v (.int .i64 h2_0)), .d (.v (.int .i64 h2_1))], .arr 1 H3]
theorem dyn_rows.l3_eq (X : Orc) (k : Nat) (a15 : Rows) (a16 : Int) (a17 : Int) (h0_0 : Int) (h0_1 : Int) (h0_2 : Rows) (h0_3 : Rows) (h0_4 : Int) (h0_5 : Rows) (H1 : Rows) : dyn_rows.l3 X (k + 1) a15 a16 a17 h0_0 h0_1 h0_2 h0_3 h0_4 h0_5 H1 = (
  if decide (a17 < a16) = true then
    onIx a17 a15.length fun i1 =>
    onRow a15 i1 fun w2 =>
    onCell w2 0 fun x3 =>
    onInt .i64 x3 fun n4 =>
    onCell w2 1 fun x5 =>
    onInt .i64 x5 fun n6 =>
    onIx (IntKind.i64.wrap ((H1.length : Int) - 1)) H1.length fun i7 =>
    onRow H1 i7 fun w8 =>
    onCell w8 0 fun x9 =>
    onSl 1 x9 fun r10 =>
    onOwn (X F.slices_Clone_s_int64_int64 [.d (.sl 3 1 r10)] []) fun z11 h12 =>
    onHs 0 1 z11 fun l13 =>
    onArr h12 0 1 fun r14 =>
    dyn_rows.l8 X k r10 l13 n6 a15 a16 a17 h0_0 h0_1 h0_2 h0_3 h0_4 h0_5 H1 n4 n6 r14
  else
    some (.d (.sl 3 1 H1), [])) := by kernel_rfl
theorem dyn_rows.l8_eq (X : Orc) (k : Nat) (a6 : Rows) (a7l : Nat) (a8 : Int) (a15 : Rows) (a16 : Int) (a17 : Int) (h0_0 : Int) (h0_1 : Int) (h0_2 : Rows) (h0_3 : Rows) (h0_4 : Int) (h0_5 : Rows) (H1 : Rows) (h2_0 : Int) (h2_1 : Int) (H3 : Rows) : dyn_rows.l8 X (k + 1) a6 a7l a8 a15 a16 a17 h0_0 h0_1 h0_2 h0_3 h0_4 h0_5 H1 h2_0 h2_1 H3 = (
  if decide (a8 < (a7l : Int)) = true then
    onIx a8 a7l fun i1 =>
    onRow H3 (0 + i1) fun w2 =>
    onCell w2 0 fun x3 =>
    onInt .i64 x3 fun n4 =>
    onIx (IntKind.i64.wrap (a8 - h2_1)) a6.length fun i5 =>
    onRow a6 i5 fun w6 =>
    onCell w6 0 fun x7 =>
    onInt .i64 x7 fun n8 =>
    onIx a8 a7l fun i9 =>
    onRow H3 (0 + i9) fun w10 =>
    dyn_rows.l8 X k a6 a7l (IntKind.i64.wrap (a8 + 1)) a15 a16 a17 h0_0 h0_1 h0_2 h0_3 h0_4 h0_5 H1 h2_0 h2_1 (H3.set (0 + i9) (splice w10 0 [.v (.int .i64 (if (IntKind.i64.wrap (n8 + h2_0)) > n4 then (IntKind.i64.wrap (n8 + h2_0)) else n4))]))
  else
    onRoom (H1.length + 1) <|
    dyn_rows.l3 X k a15 a16 (IntKind.i64.wrap (a17 + 1)) h0_0 h0_1 h0_2 h0_3 h0_4 h0_5 (H1 ++ ([[.sl 3 1 ((H3.drop 0).take a7l)]]))) := by kernel_rfl
theorem dyn_rows.eq (X : Orc) (k : Nat) (p0_0 : Int) (p0_1 : Int) (p0_2 : Rows) (p0_3 : Rows) (p0_4 : Int) (p0_5 : Rows) : runF P X dyn_rows.cf (k + 1) F.dyn_rows [.agg [.d (.v (.int .i64 p0_0)), .d (.v (.int .i64 p0_1)), .d (.sl 3 2 p0_2), .d (.sl 3 1 p0_3), .d (.v (.int .i64 p0_4)), .d (.sl 3 2 p0_5)]] [] = (
  onCall (X F.dyn_room [.agg [.d (.v (.int .i64 p0_0)), .d (.v (.int .i64 p0_1)), .d (.sl 3 2 p0_2), .d (.sl 3 1 p0_3), .d (.v (.int .i64 p0_4)), .d (.sl 3 2 p0_5)]] []) fun z1 =>
  onInt .i64 z1 fun n2 =>
  if 0 ≤ (IntKind.i64.wrap (n2 + 1)) then
    onRoom ((IntKind.i64.wrap (n2 + 1)).toNat) <|
    dyn_rows.l3 X k p0_2 (p0_2.length : Int) 0 p0_0 p0_1 p0_2 p0_3 p0_4 p0_5 ([[.sl 3 1 (List.replicate ((IntKind.i64.wrap (n2 + 1)).toNat) [.v (.int .i64 0)])]])
  else
    none) := by kernel_rfl
def law_tame_fn1.cf : Cf := { loops := [] }
theorem law_tame_fn1.eq (X : Orc) (k : Nat) (p0 : Int) : runF P X law_tame_fn1.cf (k + 1) F.law_tame_fn1 [.d (.v (.int .i64 p0))] [] = (
  some (.d (.v (.int .i64 (if 2147483648 < (if (-2147483648) > p0 then (-2147483648) else p0) then 2147483648 else (if (-2147483648) > p0 then (-2147483648) else p0)))), [])) := by kernel_rfl
def inst_Inst_Check.cf : Cf := { loops := [] }
theorem inst_Inst_Check.eq (X : Orc) (k : Nat) (p0_0 : Int) (p0_1 : Int) (p0_2 : Rows) (p0_3 : Rows) (p0_4 : Int) (p0_5 : Rows) : runF P X inst_Inst_Check.cf (k + 1) F.inst_Inst_Check [.agg [.d (.v (.int .i64 p0_0)), .d (.v (.int .i64 p0_1)), .d (.sl 3 2 p0_2), .d (.sl 3 1 p0_3), .d (.v (.int .i64 p0_4)), .d (.sl 3 2 p0_5)]] [] = (
  onCall (X F.inst_Kind_is [.d (.v (.int .i64 p0_0))] []) fun z1 =>
  onBool z1 fun b2 =>
  if (!b2) = true then
    some (.d (.v (.int .i64 25)), [])
  else
    onCall (X F.inst_Inst_lean [.agg [.d (.v (.int .i64 p0_0)), .d (.v (.int .i64 p0_1)), .d (.sl 3 2 p0_2), .d (.sl 3 1 p0_3), .d (.v (.int .i64 p0_4)), .d (.sl 3 2 p0_5)]] []) fun z3 =>
    onBool z3 fun b4 =>
    if (!b4) = true then
      some (.d (.v (.int .i64 4)), [])
    else
      onCall (X F.inst_Inst_few [.agg [.d (.v (.int .i64 p0_0)), .d (.v (.int .i64 p0_1)), .d (.sl 3 2 p0_2), .d (.sl 3 1 p0_3), .d (.v (.int .i64 p0_4)), .d (.sl 3 2 p0_5)]] []) fun z5 =>
      onBool z5 fun b6 =>
      if (!b6) = true then
        some (.d (.v (.int .i64 22)), [])
      else
        onCall (X F.inst_Inst_shaped [.agg [.d (.v (.int .i64 p0_0)), .d (.v (.int .i64 p0_1)), .d (.sl 3 2 p0_2), .d (.sl 3 1 p0_3), .d (.v (.int .i64 p0_4)), .d (.sl 3 2 p0_5)]] []) fun z7 =>
        onBool z7 fun b8 =>
        if (!b8) = true then
          some (.d (.v (.int .i64 4)), [])
        else
          onCall (X F.inst_Inst_small [.agg [.d (.v (.int .i64 p0_0)), .d (.v (.int .i64 p0_1)), .d (.sl 3 2 p0_2), .d (.sl 3 1 p0_3), .d (.v (.int .i64 p0_4)), .d (.sl 3 2 p0_5)]] []) fun z9 =>
          onBool z9 fun b10 =>
          if (!b10) = true then
            some (.d (.v (.int .i64 22)), [])
          else
            onCall (X F.inst_Inst_bare [.agg [.d (.v (.int .i64 p0_0)), .d (.v (.int .i64 p0_1)), .d (.sl 3 2 p0_2), .d (.sl 3 1 p0_3), .d (.v (.int .i64 p0_4)), .d (.sl 3 2 p0_5)]] []) fun z11 =>
            onBool z11 fun b12 =>
            if (!b12) = true then
              some (.d (.v (.int .i64 4)), [])
            else
              some (.d (.v (.int .i64 0)), [])) := by kernel_rfl
def dyn_grow.cf : Cf := { loops := [] }
theorem dyn_grow.eq (X : Orc) (k : Nat) (p0 : Int) (p1 : Int) : runF P X dyn_grow.cf (k + 1) F.dyn_grow [.d (.v (.int .i64 p0)), .d (.v (.int .i64 p1))] [] = (
  if decide (p0 > 0) = true then
    if p0 = 0 then
      none
    else
      if decide (p1 > (IntKind.i64.wrap ((1048576 : Int).tdiv p0))) = true then
        some (.d (.v (.int .i64 1048577)), [])
      else
        some (.d (.v (.int .i64 (IntKind.i64.wrap (p0 * p1)))), [])
  else
    some (.d (.v (.int .i64 (IntKind.i64.wrap (p0 * p1)))), [])) := by kernel_rfl
def dyn_room.cf : Cf := { loops := [{ fid := 37, key := 3, live := [1, 3, 7, 8, 9], vecs := [], cvecs := [], nb := 1, cs := [] }] }
noncomputable def dyn_room.l3 (X : Orc) (k : Nat) (a3 : Int) (a7 : Rows) (a8 : Int) (a9 : Int) (h0_0 : Int) (h0_1 : Int) (h0_2 : Rows) (h0_3 : Rows) (h0_4 : Int) (h0_5 : Rows) : Option Res := loopAt P X dyn_room.cf k 37 Go.Proofs.Try.f37 3 [(1, .ptr 0 0), (3, .d (.v (.int .i64 a3))), (7, .d (.sl 3 2 a7)), (8, .d (.v (.int .i64 a8))), (9, .d (.v (.int .i64 a9)))] [] [.cel [.d (.v (.int .i64 h0_0)), .d (.v (.int .i64 h0_1)), .d (.sl 3 2 h0_2), .d (.sl 3 1 h0_3), .d (.v (.int .i64 h0_4)), .d (.sl 3 2 h0_5)]]
theorem dyn_room.l3_eq (X : Orc) (k : Nat) (a3 : Int) (a7 : Rows) (a8 : Int) (a9 : Int) (h0_0 : Int) (h0_1 : Int) (h0_2 : Rows) (h0_3 : Rows) (h0_4 : Int) (h0_5 : Rows) : dyn_room.l3 X (k + 1) a3 a7 a8 a9 h0_0 h0_1 h0_2 h0_3 h0_4 h0_5 = (
  if decide (a9 < a8) = true then
    onIx a9 a7.length fun i1 =>
    onRow a7 i1 fun w2 =>
    onCell w2 0 fun x3 =>
    onInt .i64 x3 fun n4 =>
    onCell w2 1 fun x5 =>
    onInt .i64 x5 fun n6 =>
    dyn_room.l3 X k (IntKind.i64.wrap (a3 + n6)) a7 a8 (IntKind.i64.wrap (a9 + 1)) h0_0 h0_1 h0_2 h0_3 h0_4 h0_5
  else
    some (.d (.v (.int .i64 (if h0_1 < a3 then h0_1 else a3))), [])) := by kernel_rfl
theorem dyn_room.eq (X : Orc) (k : Nat) (p0_0 : Int) (p0_1 : Int) (p0_2 : Rows) (p0_3 : Rows) (p0_4 : Int) (p0_5 : Rows) : runF P X dyn_room.cf (k + 1) F.dyn_room [.agg [.d (.v (.int .i64 p0_0)), .d (.v (.int .i64 p0_1)), .d (.sl 3 2 p0_2), .d (.sl 3 1 p0_3), .d (.v (.int .i64 p0_4)), .d (.sl 3 2 p0_5)]] [] = (
  dyn_room.l3 X k 0 p0_2 (p0_2.length : Int) 0 p0_0 p0_1 p0_2 p0_3 p0_4 p0_5) := by kernel_rfl
def dyn_twos.cf : Cf := { loops := [] }
theorem dyn_twos.eq (X : Orc) (k : Nat) (p0 : Int) : runF P X dyn_twos.cf (k + 1) F.dyn_twos [.d (.v (.int .i64 p0))] [] = (
  onCall (X F.math_bits_Len [.d (.v (.int .u64 1048576))] []) fun z1 =>
  onInt .i64 z1 fun n2 =>
  if decide (p0 > n2) = true then
    some (.d (.v (.int .i64 1048577)), [])
  else
    if p0 < 0 then
      none
    else
      some (.d (.v (.int .i64 (IntKind.i64.wrap ((1 : Int) * 2 ^ (min p0.toNat IntKind.i64.bits))))), [])) := by kernel_rfl
def inst_Inst_N.cf : Cf := { loops := [] }
theorem inst_Inst_N.eq (X : Orc) (k : Nat) (p0_0 : Int) (p0_1 : Int) (p0_2 : Rows) (p0_3 : Rows) (p0_4 : Int) (p0_5 : Rows) : runF P X inst_Inst_N.cf (k + 1) F.inst_Inst_N [.agg [.d (.v (.int .i64 p0_0)), .d (.v (.int .i64 p0_1)), .d (.sl 3 2 p0_2), .d (.sl 3 1 p0_3), .d (.v (.int .i64 p0_4)), .d (.sl 3 2 p0_5)]] [] = (
  onCall (X F.inst_Inst_Check [.agg [.d (.v (.int .i64 p0_0)), .d (.v (.int .i64 p0_1)), .d (.sl 3 2 p0_2), .d (.sl 3 1 p0_3), .d (.v (.int .i64 p0_4)), .d (.sl 3 2 p0_5)]] []) fun z1 =>
  onInt .i64 z1 fun n2 =>
  if (n2 != 0) = true then
    some (.d (.v (.int .i64 0)), [])
  else
    if (p0_0 == 0) = true then
      some (.d (.v (.int .i64 (p0_2.length : Int))), [])
    else
      if (p0_0 == 1) = true then
        some (.d (.v (.int .i64 (p0_3.length : Int))), [])
      else
        if (p0_0 == 2) = true then
          some (.d (.v (.int .i64 (IntKind.i64.wrap ((p0_3.length : Int) - 1)))), [])
        else
          some (.d (.v (.int .i64 (p0_5.length : Int))), [])) := by kernel_rfl
def math_bits_OnesCount.cf : Cf := { loops := [] }
theorem math_bits_OnesCount.eq (X : Orc) (k : Nat) (p0 : Int) : runF P X math_bits_OnesCount.cf (k + 1) F.math_bits_OnesCount [.d (.v (.int .u64 p0))] [] = (
  onCall (X F.math_bits_OnesCount64 [.d (.v (.int .u64 p0))] []) fun z1 =>
  onInt .i64 z1 fun n2 =>
  some (.d (.v (.int .i64 n2)), [])) := by kernel_rfl
def dyn_trace.cf : Cf := { loops := [{ fid := 43, key := 2, live := [0, 1, 5], vecs := [(5, 1)], cvecs := [], nb := 1, cs := [] }, { fid := 40, key := 1, live := [0, 2, 3], vecs := [], cvecs := [], nb := 1, cs := [[5]] }], mode := fun g => bif Nat.beq g F.slices_Reverse_s_int_int then 1 else 0 }
noncomputable def dyn_trace.l2 (X : Orc) (k : Nat) (a0 : Rows) (a1 : Int) (H0 : Rows) : Option Res := loopAt P X dyn_trace.cf k 43 Go.Proofs.Try.f43 2 [(0, .d (.sl 3 4 a0)), (1, .d (.v (.int .i64 a1))), (5, .vh 0 0 1 H0.length)] [] [.vec 1 0 H0]
noncomputable def dyn_trace.l40_1 (X : Orc) (k : Nat) (a2 : Int) (a3 : Int) (H0 : Rows) : Option Res := loopAt P X dyn_trace.cf k 40 Go.Proofs.Try.f40 1 [(0, .vh 0 0 1 H0.length), (2, .d (.v (.int .i64 a2))), (3, .d (.v (.int .i64 a3)))] [⟨43, Go.Proofs.Try.f43, [(5, .vh 0 0 1 H0.length)], callTodo Go.Proofs.Try.f43 5 1⟩] [.vec 1 0 H0]
theorem dyn_trace.l2_eq (X : Orc) (k : Nat) (a0 : Rows) (a1 : Int) (H0 : Rows) : dyn_trace.l2 X (k + 1) a0 a1 H0 = (
  onIx a1 a0.length fun i1 =>
  onRow a0 i1 fun w2 =>
  onCell w2 2 fun x3 =>
  onInt .i64 x3 fun n4 =>
  if decide (n4 ≥ 0) = true then
    onIx a1 a0.length fun i5 =>
    onRow a0 i5 fun w6 =>
    onCell w6 2 fun x7 =>
    onInt .i64 x7 fun n8 =>
    onRoom (H0.length + 1) <|
    onIx a1 a0.length fun i9 =>
    onRow a0 i9 fun w10 =>
    onCell w10 3 fun x11 =>
    onInt .i64 x11 fun n12 =>
    dyn_trace.l2 X k a0 n12 (H0 ++ ([[.v (.int .i64 n8)]]))
  else
    dyn_trace.l40_1 X k 0 (IntKind.i64.wrap ((H0.length : Int) - 1)) H0) := by kernel_rfl
theorem dyn_trace.l40_1_eq (X : Orc) (k : Nat) (a2 : Int) (a3 : Int) (H0 : Rows) : dyn_trace.l40_1 X (k + 1) a2 a3 H0 = (
  if decide (a2 < a3) = true then
    onIx a3 H0.length fun i1 =>
    onRow H0 i1 fun w2 =>
    onCell w2 0 fun x3 =>
    onInt .i64 x3 fun n4 =>
    onIx a2 H0.length fun i5 =>
    onRow H0 i5 fun w6 =>
    onCell w6 0 fun x7 =>
    onInt .i64 x7 fun n8 =>
    onIx a2 H0.length fun i9 =>
    onRow H0 i9 fun w10 =>
    onIx a3 H0.length fun i11 =>
    onRow (H0.set i9 (splice w10 0 [.v (.int .i64 n4)])) i11 fun w12 =>
    dyn_trace.l40_1 X k (IntKind.i64.wrap (a2 + 1)) (IntKind.i64.wrap (a3 - 1)) ((H0.set i9 (splice w10 0 [.v (.int .i64 n4)])).set i11 (splice w12 0 [.v (.int .i64 n8)]))
  else
    some (.d (.sl 3 1 H0), [])) := by kernel_rfl
theorem dyn_trace.eq (X : Orc) (k : Nat) (p0 : Rows) (p1 : Int) : runF P X dyn_trace.cf (k + 1) F.dyn_trace [.d (.sl 3 4 p0), .d (.v (.int .i64 p1))] [] = (
  dyn_trace.l2 X k p0 p1 ([])) := by kernel_rfl
def dyn_elements.cf : Cf := { loops := [{ fid := 44, key := 3, live := [3, 7, 8, 9], vecs := [], cvecs := [], nb := 1, cs := [] }] }
noncomputable def dyn_elements.l3 (X : Orc) (k : Nat) (a3 : Int) (a7 : Rows) (a8 : Int) (a9 : Int) (h0_0 : Int) (h0_1 : Rows) : Option Res := loopAt P X dyn_elements.cf k 44 Go.Proofs.Try.f44 3 [(3, .d (.v (.int .i64 a3))), (7, .d (.sl 3 1 a7)), (8, .d (.v (.int .i64 a8))), (9, .d (.v (.int .i64 a9)))] [] [.cel [.d (.v (.int .i64 h0_0)), .d (.sl 3 1 h0_1)]]
theorem dyn_elements.l3_eq (X : Orc) (k : Nat) (a3 : Int) (a7 : Rows) (a8 : Int) (a9 : Int) (h0_0 : Int) (h0_1 : Rows) : dyn_elements.l3 X (k + 1) a3 a7 a8 a9 h0_0 h0_1 = (
  if decide (a9 < a8) = true then
    onIx a9 a7.length fun i1 =>
    onRow a7 i1 fun w2 =>
    onCell w2 0 fun x3 =>
    onInt .i64 x3 fun n4 =>
    if n4 < 0 then
      none
    else
      dyn_elements.l3 X k (IntKind.i64.wrap ((BitVec.ofInt IntKind.i64.bits a3 ||| BitVec.ofInt IntKind.i64.bits (IntKind.i64.wrap ((1 : Int) * 2 ^ (min n4.toNat IntKind.i64.bits)))).toNat : Int)) a7 a8 (IntKind.i64.wrap (a9 + 1)) h0_0 h0_1
  else
    some (.d (.v (.int .i64 a3)), [])) := by kernel_rfl
theorem dyn_elements.eq (X : Orc) (k : Nat) (p0_0 : Int) (p0_1 : Rows) : runF P X dyn_elements.cf (k + 1) F.dyn_elements [.agg [.d (.v (.int .i64 p0_0)), .d (.sl 3 1 p0_1)]] [] = (
  dyn_elements.l3 X k 0 p0_1 (p0_1.length : Int) 0 p0_0 p0_1) := by kernel_rfl
def ref13_orders.cf : Cf := { loops := [{ fid := 45, key := 5, live := [0, 1, 5, 6], vecs := [(5, 1)], cvecs := [], nb := 1, cs := [] }, { fid := 45, key := 9, live := [0, 1, 5, 6, 7, 8], vecs := [], cvecs := [], nb := 1, cs := [] }] }
noncomputable def ref13_orders.l5 (X : Orc) (k : Nat) (a0 : Rows) (a1 : Int) (a6 : Int) (H0 : Rows) : Option Res := loopAt P X ref13_orders.cf k 45 Go.Proofs.Try.f45 5 [(0, .d (.sl 3 1 a0)), (1, .d (.v (.int .i64 a1))), (5, .vh 0 0 1 H0.length), (6, .d (.v (.int .i64 a6)))] [] [.vec 1 0 H0]
noncomputable def ref13_orders.l9 (X : Orc) (k : Nat) (a0 : Rows) (a1 : Int) (a6 : Int) (a7 : Bool) (a8 : Int) (H0 : Rows) : Option Res := loopAt P X ref13_orders.cf k 45 Go.Proofs.Try.f45 9 [(0, .d (.sl 3 1 a0)), (1, .d (.v (.int .i64 a1))), (5, .vh 0 0 1 H0.length), (6, .d (.v (.int .i64 a6))), (7, .d (.v (.bool a7))), (8, .d (.v (.int .i64 a8)))] [] [.vec 1 0 H0]
theorem ref13_orders.l5_eq (X : Orc) (k : Nat) (a0 : Rows) (a1 : Int) (a6 : Int) (H0 : Rows) : ref13_orders.l5 X (k + 1) a0 a1 a6 H0 = (
  if decide (a6 < a1) = true then
    ref13_orders.l9 X k a0 a1 a6 false 0 H0
  else
    some (.d (.sl 3 1 H0), [])) := by kernel_rfl
theorem ref13_orders.l9_eq (X : Orc) (k : Nat) (a0 : Rows) (a1 : Int) (a6 : Int) (a7 : Bool) (a8 : Int) (H0 : Rows) : ref13_orders.l9 X (k + 1) a0 a1 a6 a7 a8 H0 = (
  if decide (a8 < (a0.length : Int)) = true then
    if a7 = true then
      ref13_orders.l9 X k a0 a1 a6 true (IntKind.i64.wrap (a8 + 1)) H0
    else
      onIx a8 a0.length fun i1 =>
      onRow a0 i1 fun w2 =>
      onCell w2 0 fun x3 =>
      onInt .i64 x3 fun n4 =>
      ref13_orders.l9 X k a0 a1 a6 (n4 == a6) (IntKind.i64.wrap (a8 + 1)) H0
  else
    if a7 = true then
      ref13_orders.l5 X k a0 a1 (IntKind.i64.wrap (a6 + 1)) H0
    else
      onRoom a0.length <|
      onRoom (a0.length + 1) <|
      onCall (X F.ref13_orders [.d (.sl 3 1 (a0 ++ ([[.v (.int .i64 a6)]]))), .d (.v (.int .i64 a1))] []) fun z5 =>
      onSl 1 z5 fun r6 =>
      onRoom (H0.length + r6.length) <|
      ref13_orders.l5 X k a0 a1 (IntKind.i64.wrap (a6 + 1)) (H0 ++ r6)) := by kernel_rfl
theorem ref13_orders.eq (X : Orc) (k : Nat) (p0 : Rows) (p1 : Int) : runF P X ref13_orders.cf (k + 1) F.ref13_orders [.d (.sl 3 1 p0), .d (.v (.int .i64 p1))] [] = (
  if ((p0.length : Int) == p1) = true then
    some (.d (.sl 0 1 ([[.sl 3 1 p0]])), [])
  else
    ref13_orders.l5 X k p0 p1 0 ([])) := by kernel_rfl
def ref12_Value.cf : Cf := { loops := [{ fid := 46, key := 9, live := [1, 2, 8, 9], vecs := [], cvecs := [], nb := 1, cs := [] }] }
noncomputable def ref12_Value.l9 (X : Orc) (k : Nat) (a1 : Rows) (a8 : Int) (a9 : Int) (h0_0 : Int) (h0_1 : Int) (h0_2 : Rows) (h0_3 : Rows) (h0_4 : Int) (h0_5 : Rows) : Option Res := loopAt P X ref12_Value.cf k 46 Go.Proofs.Try.f46 9 [(1, .d (.sl 3 1 a1)), (2, .ptr 0 0), (8, .d (.v (.int .i64 a8))), (9, .d (.v (.int .i64 a9)))] [] [.cel [.d (.v (.int .i64 h0_0)), .d (.v (.int .i64 h0_1)), .d (.sl 3 2 h0_2), .d (.sl 3 1 h0_3), .d (.v (.int .i64 h0_4)), .d (.sl 3 2 h0_5)]]
theorem ref12_Value.l9_eq (X : Orc) (k : Nat) (a1 : Rows) (a8 : Int) (a9 : Int) (h0_0 : Int) (h0_1 : Int) (h0_2 : Rows) (h0_3 : Rows) (h0_4 : Int) (h0_5 : Rows) : ref12_Value.l9 X (k + 1) a1 a8 a9 h0_0 h0_1 h0_2 h0_3 h0_4 h0_5 = (
  if decide (a9 < (a1.length : Int)) = true then
    if (h0_0 == 0) = true then
      onIx a9 a1.length fun i1 =>
      onRow a1 i1 fun w2 =>
      onCell w2 0 fun x3 =>
      onInt .i64 x3 fun n4 =>
      onIx n4 h0_2.length fun i5 =>
      onRow h0_2 i5 fun w6 =>
      onCell w6 0 fun x7 =>
      onInt .i64 x7 fun n8 =>
      ref12_Value.l9 X k a1 (IntKind.i64.wrap (a8 + n8)) (IntKind.i64.wrap (a9 + 1)) h0_0 h0_1 h0_2 h0_3 h0_4 h0_5
    else
      if (h0_0 == 1) = true then
        onIx a9 h0_3.length fun i9 =>
        onRow h0_3 i9 fun w10 =>
        onCell w10 0 fun x11 =>
        onSl 1 x11 fun r12 =>
        onIx a9 a1.length fun i13 =>
        onRow a1 i13 fun w14 =>
        onCell w14 0 fun x15 =>
        onInt .i64 x15 fun n16 =>
        onIx n16 r12.length fun i17 =>
        onRow r12 i17 fun w18 =>
        onCell w18 0 fun x19 =>
        onInt .i64 x19 fun n20 =>
        ref12_Value.l9 X k a1 (IntKind.i64.wrap (a8 + n20)) (IntKind.i64.wrap (a9 + 1)) h0_0 h0_1 h0_2 h0_3 h0_4 h0_5
      else
        if (h0_0 == 2) = true then
          if decide ((IntKind.i64.wrap (a9 + 1)) < (a1.length : Int)) = true then
            onIx (IntKind.i64.wrap (a9 + 1)) a1.length fun i21 =>
            onRow a1 i21 fun w22 =>
            onCell w22 0 fun x23 =>
            onInt .i64 x23 fun n24 =>
            onIx a9 a1.length fun i25 =>
            onRow a1 i25 fun w26 =>
            onCell w26 0 fun x27 =>
            onInt .i64 x27 fun n28 =>
            onIx n28 h0_3.length fun i29 =>
            onRow h0_3 i29 fun w30 =>
            onCell w30 0 fun x31 =>
            onSl 1 x31 fun r32 =>
            onIx n24 r32.length fun i33 =>
            onRow r32 i33 fun w34 =>
            onCell w34 0 fun x35 =>
            onInt .i64 x35 fun n36 =>
            ref12_Value.l9 X k a1 (IntKind.i64.wrap (a8 + n36)) (IntKind.i64.wrap (a9 + 1)) h0_0 h0_1 h0_2 h0_3 h0_4 h0_5
          else
            onIx a9 a1.length fun i37 =>
            onRow a1 i37 fun w38 =>
            onCell w38 0 fun x39 =>
            onInt .i64 x39 fun n40 =>
            onIx n40 h0_3.length fun i41 =>
            onRow h0_3 i41 fun w42 =>
            onCell w42 0 fun x43 =>
            onSl 1 x43 fun r44 =>
            onIx 0 r44.length fun i45 =>
            onRow r44 i45 fun w46 =>
            onCell w46 0 fun x47 =>
            onInt .i64 x47 fun n48 =>
            ref12_Value.l9 X k a1 (IntKind.i64.wrap (a8 + n48)) (IntKind.i64.wrap (a9 + 1)) h0_0 h0_1 h0_2 h0_3 h0_4 h0_5
        else
          onIx a9 a1.length fun i49 =>
          onRow a1 i49 fun w50 =>
          onCell w50 0 fun x51 =>
          onInt .i64 x51 fun n52 =>
          onIx n52 h0_5.length fun i53 =>
          onRow h0_5 i53 fun w54 =>
          onCell w54 0 fun x55 =>
          onInt .i64 x55 fun n56 =>
          ref12_Value.l9 X k a1 (IntKind.i64.wrap (a8 + n56)) (IntKind.i64.wrap (a9 + 1)) h0_0 h0_1 h0_2 h0_3 h0_4 h0_5
  else
    some (.d (.tup [.v (.int .i64 a8), .v (.int .i64 0)]), [])) := by kernel_rfl
theorem ref12_Value.eq (X : Orc) (k : Nat) (p0_0 : Int) (p0_1 : Int) (p0_2 : Rows) (p0_3 : Rows) (p0_4 : Int) (p0_5 : Rows) (p1 : Rows) : runF P X ref12_Value.cf (k + 1) F.ref12_Value [.agg [.d (.v (.int .i64 p0_0)), .d (.v (.int .i64 p0_1)), .d (.sl 3 2 p0_2), .d (.sl 3 1 p0_3), .d (.v (.int .i64 p0_4)), .d (.sl 3 2 p0_5)], .d (.sl 3 1 p1)] [] = (
  onCall (X F.ref09_Check [.agg [.d (.v (.int .i64 p0_0)), .d (.v (.int .i64 p0_1)), .d (.sl 3 2 p0_2), .d (.sl 3 1 p0_3), .d (.v (.int .i64 p0_4)), .d (.sl 3 2 p0_5)]] []) fun z1 =>
  onInt .i64 z1 fun n2 =>
  if (n2 != 0) = true then
    some (.d (.tup [.v (.int .i64 0), .v (.int .i64 n2)]), [])
  else
    onCall (X F.ref12_Feasible [.agg [.d (.v (.int .i64 p0_0)), .d (.v (.int .i64 p0_1)), .d (.sl 3 2 p0_2), .d (.sl 3 1 p0_3), .d (.v (.int .i64 p0_4)), .d (.sl 3 2 p0_5)], .d (.sl 3 1 p1)] []) fun z3 =>
    onBool z3 fun b4 =>
    if (!b4) = true then
      some (.d (.tup [.v (.int .i64 0), .v (.int .i64 12)]), [])
    else
      ref12_Value.l9 X k p1 0 0 p0_0 p0_1 p0_2 p0_3 p0_4 p0_5) := by kernel_rfl
def ref09_numbers.cf : Cf := { loops := [{ fid := 47, key := 3, live := [1, 3, 4], vecs := [], cvecs := [], nb := 1, cs := [] }, { fid := 47, key := 9, live := [1, 3, 7], vecs := [], cvecs := [], nb := 1, cs := [] }, { fid := 47, key := 12, live := [1, 3, 7, 8], vecs := [], cvecs := [], nb := 1, cs := [] }, { fid := 47, key := 17, live := [1, 3, 10], vecs := [], cvecs := [], nb := 1, cs := [] }] }
noncomputable def ref09_numbers.l3 (X : Orc) (k : Nat) (a3 : Bool) (a4 : Int) (h0_0 : Int) (h0_1 : Int) (h0_2 : Rows) (h0_3 : Rows) (h0_4 : Int) (h0_5 : Rows) : Option Res := loopAt P X ref09_numbers.cf k 47 Go.Proofs.Try.f47 3 [(1, .ptr 0 0), (3, .d (.v (.bool a3))), (4, .d (.v (.int .i64 a4)))] [] [.cel [.d (.v (.int .i64 h0_0)), .d (.v (.int .i64 h0_1)), .d (.sl 3 2 h0_2), .d (.sl 3 1 h0_3), .d (.v (.int .i64 h0_4)), .d (.sl 3 2 h0_5)]]
noncomputable def ref09_numbers.l9 (X : Orc) (k : Nat) (a3 : Bool) (a7 : Int) (h0_0 : Int) (h0_1 : Int) (h0_2 : Rows) (h0_3 : Rows) (h0_4 : Int) (h0_5 : Rows) : Option Res := loopAt P X ref09_numbers.cf k 47 Go.Proofs.Try.f47 9 [(1, .ptr 0 0), (3, .d (.v (.bool a3))), (7, .d (.v (.int .i64 a7)))] [] [.cel [.d (.v (.int .i64 h0_0)), .d (.v (.int .i64 h0_1)), .d (.sl 3 2 h0_2), .d (.sl 3 1 h0_3), .d (.v (.int .i64 h0_4)), .d (.sl 3 2 h0_5)]]
noncomputable def ref09_numbers.l12 (X : Orc) (k : Nat) (a3 : Bool) (a7 : Int) (a8 : Int) (h0_0 : Int) (h0_1 : Int) (h0_2 : Rows) (h0_3 : Rows) (h0_4 : Int) (h0_5 : Rows) : Option Res := loopAt P X ref09_numbers.cf k 47 Go.Proofs.Try.f47 12 [(1, .ptr 0 0), (3, .d (.v (.bool a3))), (7, .d (.v (.int .i64 a7))), (8, .d (.v (.int .i64 a8)))] [] [.cel [.d (.v (.int .i64 h0_0)), .d (.v (.int .i64 h0_1)), .d (.sl 3 2 h0_2), .d (.sl 3 1 h0_3), .d (.v (.int .i64 h0_4)), .d (.sl 3 2 h0_5)]]
noncomputable def ref09_numbers.l17 (X : Orc) (k : Nat) (a3 : Bool) (a10 : Int) (h0_0 : Int) (h0_1 : Int) (h0_2 : Rows) (h0_3 : Rows) (h0_4 : Int) (h0_5 : Rows) : Option Res := loopAt P X ref09_numbers.cf k 47 Go.Proofs.Try.f47 17 [(1, .ptr 0 0), (3, .d (.v (.bool a3))), (10, .d (.v (.int .i64 a10)))] [] [.cel [.d (.v (.int .i64 h0_0)), .d (.v (.int .i64 h0_1)), .d (.sl 3 2 h0_2), .d (.sl 3 1 h0_3), .d (.v (.int .i64 h0_4)), .d (.sl 3 2 h0_5)]]
theorem ref09_numbers.l3_eq (X : Orc) (k : Nat) (a3 : Bool) (a4 : Int) (h0_0 : Int) (h0_1 : Int) (h0_2 : Rows) (h0_3 : Rows) (h0_4 : Int) (h0_5 : Rows) : ref09_numbers.l3 X (k + 1) a3 a4 h0_0 h0_1 h0_2 h0_3 h0_4 h0_5 = (
  if decide (a4 < (h0_2.length : Int)) = true then
    onIx a4 h0_2.length fun i1 =>
    onRow h0_2 i1 fun w2 =>
    onCell w2 0 fun x3 =>
    onInt .i64 x3 fun n4 =>
    onCall (X F.ref09_out [.d (.v (.int .i64 n4)), .d (.v (.int .i64 0)), .d (.v (.int .i64 2147483648))] []) fun z5 =>
    onBool z5 fun b6 =>
    onIx a4 h0_2.length fun i7 =>
    onRow h0_2 i7 fun w8 =>
    onCell w8 1 fun x9 =>
    onInt .i64 x9 fun n10 =>
    onCall (X F.ref09_out [.d (.v (.int .i64 n10)), .d (.v (.int .i64 0)), .d (.v (.int .i64 2147483648))] []) fun z11 =>
    onBool z11 fun b12 =>
    if a3 = true then
      ref09_numbers.l3 X k true (IntKind.i64.wrap (a4 + 1)) h0_0 h0_1 h0_2 h0_3 h0_4 h0_5
    else
      if b6 = true then
        ref09_numbers.l3 X k true (IntKind.i64.wrap (a4 + 1)) h0_0 h0_1 h0_2 h0_3 h0_4 h0_5
      else
        ref09_numbers.l3 X k b12 (IntKind.i64.wrap (a4 + 1)) h0_0 h0_1 h0_2 h0_3 h0_4 h0_5
  else
    ref09_numbers.l9 X k a3 0 h0_0 h0_1 h0_2 h0_3 h0_4 h0_5) := by kernel_rfl
theorem ref09_numbers.l9_eq (X : Orc) (k : Nat) (a3 : Bool) (a7 : Int) (h0_0 : Int) (h0_1 : Int) (h0_2 : Rows) (h0_3 : Rows) (h0_4 : Int) (h0_5 : Rows) : ref09_numbers.l9 X (k + 1) a3 a7 h0_0 h0_1 h0_2 h0_3 h0_4 h0_5 = (
  if decide (a7 < (h0_3.length : Int)) = true then
    ref09_numbers.l12 X k a3 a7 0 h0_0 h0_1 h0_2 h0_3 h0_4 h0_5
  else
    ref09_numbers.l17 X k a3 0 h0_0 h0_1 h0_2 h0_3 h0_4 h0_5) := by kernel_rfl
theorem ref09_numbers.l12_eq (X : Orc) (k : Nat) (a3 : Bool) (a7 : Int) (a8 : Int) (h0_0 : Int) (h0_1 : Int) (h0_2 : Rows) (h0_3 : Rows) (h0_4 : Int) (h0_5 : Rows) : ref09_numbers.l12 X (k + 1) a3 a7 a8 h0_0 h0_1 h0_2 h0_3 h0_4 h0_5 = (
  onIx a7 h0_3.length fun i1 =>
  onRow h0_3 i1 fun w2 =>
  onCell w2 0 fun x3 =>
  onSl 1 x3 fun r4 =>
  if decide (a8 < (r4.length : Int)) = true then
    onIx a7 h0_3.length fun i5 =>
    onRow h0_3 i5 fun w6 =>
    onCell w6 0 fun x7 =>
    onSl 1 x7 fun r8 =>
    onIx a8 r8.length fun i9 =>
    onRow r8 i9 fun w10 =>
    onCell w10 0 fun x11 =>
    onInt .i64 x11 fun n12 =>
    onCall (X F.ref09_out [.d (.v (.int .i64 n12)), .d (.v (.int .i64 (-2147483648))), .d (.v (.int .i64 2147483648))] []) fun z13 =>
    onBool z13 fun b14 =>
    if a3 = true then
      ref09_numbers.l12 X k true a7 (IntKind.i64.wrap (a8 + 1)) h0_0 h0_1 h0_2 h0_3 h0_4 h0_5
    else
      ref09_numbers.l12 X k b14 a7 (IntKind.i64.wrap (a8 + 1)) h0_0 h0_1 h0_2 h0_3 h0_4 h0_5
  else
    ref09_numbers.l9 X k a3 (IntKind.i64.wrap (a7 + 1)) h0_0 h0_1 h0_2 h0_3 h0_4 h0_5) := by kernel_rfl
theorem ref09_numbers.l17_eq (X : Orc) (k : Nat) (a3 : Bool) (a10 : Int) (h0_0 : Int) (h0_1 : Int) (h0_2 : Rows) (h0_3 : Rows) (h0_4 : Int) (h0_5 : Rows) : ref09_numbers.l17 X (k + 1) a3 a10 h0_0 h0_1 h0_2 h0_3 h0_4 h0_5 = (
  if decide (a10 < (h0_5.length : Int)) = true then
    onIx a10 h0_5.length fun i1 =>
    onRow h0_5 i1 fun w2 =>
    onCell w2 0 fun x3 =>
    onInt .i64 x3 fun n4 =>
    onCall (X F.ref09_out [.d (.v (.int .i64 n4)), .d (.v (.int .i64 0)), .d (.v (.int .i64 2147483648))] []) fun z5 =>
    onBool z5 fun b6 =>
    if a3 = true then
      ref09_numbers.l17 X k true (IntKind.i64.wrap (a10 + 1)) h0_0 h0_1 h0_2 h0_3 h0_4 h0_5
    else
      ref09_numbers.l17 X k b6 (IntKind.i64.wrap (a10 + 1)) h0_0 h0_1 h0_2 h0_3 h0_4 h0_5
  else
    some (.d (.v (.bool (!a3))), [])) := by kernel_rfl
theorem ref09_numbers.eq (X : Orc) (k : Nat) (p0_0 : Int) (p0_1 : Int) (p0_2 : Rows) (p0_3 : Rows) (p0_4 : Int) (p0_5 : Rows) : runF P X ref09_numbers.cf (k + 1) F.ref09_numbers [.agg [.d (.v (.int .i64 p0_0)), .d (.v (.int .i64 p0_1)), .d (.sl 3 2 p0_2), .d (.sl 3 1 p0_3), .d (.v (.int .i64 p0_4)), .d (.sl 3 2 p0_5)]] [] = (
  onCall (X F.ref09_out [.d (.v (.int .i64 p0_1)), .d (.v (.int .i64 0)), .d (.v (.int .i64 2147483648))] []) fun z1 =>
  onBool z1 fun b2 =>
  ref09_numbers.l3 X k b2 0 p0_0 p0_1 p0_2 p0_3 p0_4 p0_5) := by kernel_rfl
def ref01_trim.cf : Cf := { loops := [{ fid := 48, key := 2, live := [1, 2, 3], vecs := [], cvecs := [], nb := 2, cs := [] }] }
noncomputable def ref01_trim.l2 (X : Orc) (k : Nat) (a3 : Int) (h0_0 : Bool) (h0_1 : Rows) (h1_0 : Bool) : Option Res := loopAt P X ref01_trim.cf k 48 Go.Proofs.Try.f48 2 [(1, .ptr 0 0), (2, .ptr 1 0), (3, .d (.v (.int .i64 a3)))] [] [.cel [.d (.v (.bool h0_0)), .d (.sl 3 1 h0_1)], .cel [.d (.v (.bool h1_0)), .d (.v (.slice none 0 0))]]
theorem ref01_trim.l2_eq (X : Orc) (k : Nat) (a3 : Int) (h0_0 : Bool) (h0_1 : Rows) (h1_0 : Bool) : ref01_trim.l2 X (k + 1) a3 h0_0 h0_1 h1_0 = (
  if decide (a3 > 0) = true then
    onIx (IntKind.i64.wrap (a3 - 1)) h0_1.length fun i1 =>
    onRow h0_1 i1 fun w2 =>
    onCell w2 0 fun x3 =>
    onInt .u64 x3 fun n4 =>
    if (n4 == 0) = true then
      ref01_trim.l2 X k (IntKind.i64.wrap (a3 - 1)) h0_0 h0_1 h1_0
    else
      if h0_0 = true then
        onIx a3 (h0_1.length + 1) fun i5 =>
        some (.d (.agg [.v (.bool (decide (a3 > 0))), .sl 3 1 ((h0_1.take i5).drop 0)]), [])
      else
        onIx a3 (h0_1.length + 1) fun i6 =>
        some (.d (.agg [.v (.bool false), .sl 3 1 ((h0_1.take i6).drop 0)]), [])
  else
    if h0_0 = true then
      onIx a3 (h0_1.length + 1) fun i7 =>
      some (.d (.agg [.v (.bool (decide (a3 > 0))), .sl 3 1 ((h0_1.take i7).drop 0)]), [])
    else
      onIx a3 (h0_1.length + 1) fun i8 =>
      some (.d (.agg [.v (.bool false), .sl 3 1 ((h0_1.take i8).drop 0)]), [])) := by kernel_rfl
theorem ref01_trim.eq (X : Orc) (k : Nat) (p0_0 : Bool) (p0_1 : Rows) : runF P X ref01_trim.cf (k + 1) F.ref01_trim [.agg [.d (.v (.bool p0_0)), .d (.sl 3 1 p0_1)]] [] = (
  ref01_trim.l2 X k (p0_1.length : Int) p0_0 p0_1 false) := by kernel_rfl
def ref01_Cmp.cf : Cf := { loops := [] }
theorem ref01_Cmp.eq (X : Orc) (k : Nat) (p0_0 : Bool) (p0_1 : Rows) (p1_0 : Bool) (p1_1 : Rows) : runF P X ref01_Cmp.cf (k + 1) F.ref01_Cmp [.agg [.d (.v (.bool p0_0)), .d (.sl 3 1 p0_1)], .agg [.d (.v (.bool p1_0)), .d (.sl 3 1 p1_1)]] [] = (
  if (!(p0_0 == p1_0)) = true then
    if p0_0 = true then
      some (.d (.v (.int .i64 (-1))), [])
    else
      some (.d (.v (.int .i64 1)), [])
  else
    onCall (X F.ref01_far [.agg [.d (.v (.bool p0_0)), .d (.sl 3 1 p0_1)], .agg [.d (.v (.bool p1_0)), .d (.sl 3 1 p1_1)]] []) fun z1 =>
    onInt .i64 z1 fun n2 =>
    if p0_0 = true then
      some (.d (.v (.int .i64 (IntKind.i64.wrap (0 - n2)))), [])
    else
      some (.d (.v (.int .i64 n2)), [])) := by kernel_rfl
def eval_may.cf : Cf := { loops := [] }
theorem eval_may.eq (X : Orc) (k : Nat) (p0_0 : Int) (p0_1 : Int) (p0_2 : Rows) (p0_3 : Rows) (p0_4 : Int) (p0_5 : Rows) (p1 : Rows) : runF P X eval_may.cf (k + 1) F.eval_may [.agg [.d (.v (.int .i64 p0_0)), .d (.v (.int .i64 p0_1)), .d (.sl 3 2 p0_2), .d (.sl 3 1 p0_3), .d (.v (.int .i64 p0_4)), .d (.sl 3 2 p0_5)], .d (.sl 3 1 p1)] [] = (
  if (p0_0 == 0) = true then
    onCall (X F.eval_rises [.d (.sl 3 1 p1), .d (.v (.int .i64 (p0_2.length : Int)))] []) fun z1 =>
    onBool z1 fun b2 =>
    if b2 = true then
      onCall (X F.eval_fits [.agg [.d (.v (.int .i64 p0_0)), .d (.v (.int .i64 p0_1)), .d (.sl 3 2 p0_2), .d (.sl 3 1 p0_3), .d (.v (.int .i64 p0_4)), .d (.sl 3 2 p0_5)], .d (.sl 3 1 p1)] []) fun z3 =>
      onBool z3 fun b4 =>
      some (.d (.v (.bool b4)), [])
    else
      some (.d (.v (.bool false)), [])
  else
    if (p0_0 == 1) = true then
      onCall (X F.eval_order [.d (.sl 3 1 p1), .d (.v (.int .i64 (p0_3.length : Int)))] []) fun z5 =>
      onBool z5 fun b6 =>
      some (.d (.v (.bool b6)), [])
    else
      if (p0_0 == 2) = true then
        onCall (X F.eval_order [.d (.sl 3 1 p1), .d (.v (.int .i64 (p0_3.length : Int)))] []) fun z7 =>
        onBool z7 fun b8 =>
        if b8 = true then
          onIx 0 p1.length fun i9 =>
          onRow p1 i9 fun w10 =>
          onCell w10 0 fun x11 =>
          onInt .i64 x11 fun n12 =>
          some (.d (.v (.bool (n12 == 0))), [])
        else
          some (.d (.v (.bool false)), [])
      else
        onCall (X F.eval_rises [.d (.sl 3 1 p1), .d (.v (.int .i64 (p0_5.length : Int)))] []) fun z13 =>
        onBool z13 fun b14 =>
        if b14 = true then
          onCall (X F.eval_covers [.agg [.d (.v (.int .i64 p0_0)), .d (.v (.int .i64 p0_1)), .d (.sl 3 2 p0_2), .d (.sl 3 1 p0_3), .d (.v (.int .i64 p0_4)), .d (.sl 3 2 p0_5)], .d (.sl 3 1 p1)] []) fun z15 =>
          onBool z15 fun b16 =>
          some (.d (.v (.bool b16)), [])
        else
          some (.d (.v (.bool false)), [])) := by kernel_rfl
def num_Sum.cf : Cf := { loops := [] }
theorem num_Sum.eq (X : Orc) (k : Nat) (p0 : Rows) : runF P X num_Sum.cf (k + 1) F.num_Sum [.d (.sl 3 1 p0)] [] = (
  onCall (X F.num_total [.d (.sl 3 1 p0)] []) fun z1 =>
  onAgg 3 z1 fun c2 =>
  onCell c2 0 fun x3 =>
  onBool x3 fun b4 =>
  onCell c2 1 fun x5 =>
  onInt .u64 x5 fun n6 =>
  onCell c2 2 fun x7 =>
  onInt .u64 x7 fun n8 =>
  onCall (X F.num_short [.agg [.d (.v (.bool b4)), .d (.v (.int .u64 n6)), .d (.v (.int .u64 n8))]] []) fun z9 =>
  onTup 2 z9 fun u10 =>
  onCell u10 0 fun x11 =>
  onInt .i64 x11 fun n12 =>
  onCell u10 1 fun x13 =>
  onBool x13 fun b14 =>
  some (.d (.tup [.v (.int .i64 n12), .v (.bool b14)]), [])) := by kernel_rfl
def eval_parts.cf : Cf := { loops := [{ fid := 52, key := 3, live := [1, 2, 5, 8, 9, 10], vecs := [(5, 1)], cvecs := [], nb := 2, cs := [] }] }
noncomputable def eval_parts.l3 (X : Orc) (k : Nat) (a1 : Rows) (a8 : Rows) (a9 : Int) (a10 : Int) (h0_0 : Int) (h0_1 : Int) (h0_2 : Rows) (h0_3 : Rows) (h0_4 : Int) (h0_5 : Rows) (H1 : Rows) : Option Res := loopAt P X eval_parts.cf k 52 Go.Proofs.Try.f52 3 [(1, .d (.sl 3 1 a1)), (2, .ptr 0 0), (5, .vh 1 0 1 H1.length), (8, .d (.sl 3 1 a8)), (9, .d (.v (.int .i64 a9))), (10, .d (.v (.int .i64 a10)))] [] [.cel [.d (.v (.int .i64 h0_0)), .d (.v (.int .i64 h0_1)), .d (.sl 3 2 h0_2), .d (.sl 3 1 h0_3), .d (.v (.int .i64 h0_4)), .d (.sl 3 2 h0_5)], .vec 1 0 H1]
theorem eval_parts.l3_eq (X : Orc) (k : Nat) (a1 : Rows) (a8 : Rows) (a9 : Int) (a10 : Int) (h0_0 : Int) (h0_1 : Int) (h0_2 : Rows) (h0_3 : Rows) (h0_4 : Int) (h0_5 : Rows) (H1 : Rows) : eval_parts.l3 X (k + 1) a1 a8 a9 a10 h0_0 h0_1 h0_2 h0_3 h0_4 h0_5 H1 = (
  if decide (a10 < a9) = true then
    onIx a10 a8.length fun i1 =>
    onRow a8 i1 fun w2 =>
    onCell w2 0 fun x3 =>
    onInt .i64 x3 fun n4 =>
    if (h0_0 == 0) = true then
      onIx n4 h0_2.length fun i5 =>
      onRow h0_2 i5 fun w6 =>
      onCell w6 0 fun x7 =>
      onInt .i64 x7 fun n8 =>
      onRoom (H1.length + 1) <|
      eval_parts.l3 X k a1 a8 a9 (IntKind.i64.wrap (a10 + 1)) h0_0 h0_1 h0_2 h0_3 h0_4 h0_5 (H1 ++ ([[.v (.int .i64 n8)]]))
    else
      if (h0_0 == 1) = true then
        onIx a10 h0_3.length fun i9 =>
        onRow h0_3 i9 fun w10 =>
        onCell w10 0 fun x11 =>
        onSl 1 x11 fun r12 =>
        onIx n4 r12.length fun i13 =>
        onRow r12 i13 fun w14 =>
        onCell w14 0 fun x15 =>
        onInt .i64 x15 fun n16 =>
        onRoom (H1.length + 1) <|
        eval_parts.l3 X k a1 a8 a9 (IntKind.i64.wrap (a10 + 1)) h0_0 h0_1 h0_2 h0_3 h0_4 h0_5 (H1 ++ ([[.v (.int .i64 n16)]]))
      else
        if (h0_0 == 2) = true then
          onIx n4 h0_3.length fun i17 =>
          onRow h0_3 i17 fun w18 =>
          onCell w18 0 fun x19 =>
          onSl 1 x19 fun r20 =>
          if (a1.length : Int) = 0 then
            none
          else
            onIx ((IntKind.i64.wrap (a10 + 1)).tmod (a1.length : Int)) a1.length fun i21 =>
            onRow a1 i21 fun w22 =>
            onCell w22 0 fun x23 =>
            onInt .i64 x23 fun n24 =>
            onIx n24 r20.length fun i25 =>
            onRow r20 i25 fun w26 =>
            onCell w26 0 fun x27 =>
            onInt .i64 x27 fun n28 =>
            onRoom (H1.length + 1) <|
            eval_parts.l3 X k a1 a8 a9 (IntKind.i64.wrap (a10 + 1)) h0_0 h0_1 h0_2 h0_3 h0_4 h0_5 (H1 ++ ([[.v (.int .i64 n28)]]))
        else
          onIx n4 h0_5.length fun i29 =>
          onRow h0_5 i29 fun w30 =>
          onCell w30 0 fun x31 =>
          onInt .i64 x31 fun n32 =>
          onRoom (H1.length + 1) <|
          eval_parts.l3 X k a1 a8 a9 (IntKind.i64.wrap (a10 + 1)) h0_0 h0_1 h0_2 h0_3 h0_4 h0_5 (H1 ++ ([[.v (.int .i64 n32)]]))
  else
    some (.d (.sl 3 1 H1), [])) := by kernel_rfl
theorem eval_parts.eq (X : Orc) (k : Nat) (p0_0 : Int) (p0_1 : Int) (p0_2 : Rows) (p0_3 : Rows) (p0_4 : Int) (p0_5 : Rows) (p1 : Rows) : runF P X eval_parts.cf (k + 1) F.eval_parts [.agg [.d (.v (.int .i64 p0_0)), .d (.v (.int .i64 p0_1)), .d (.sl 3 2 p0_2), .d (.sl 3 1 p0_3), .d (.v (.int .i64 p0_4)), .d (.sl 3 2 p0_5)], .d (.sl 3 1 p1)] [] = (
  eval_parts.l3 X k p1 p1 (p1.length : Int) 0 p0_0 p0_1 p0_2 p0_3 p0_4 p0_5 ([])) := by kernel_rfl
def slices_Clone_s_int64_int64.cf : Cf := { loops := [], ret := 2 }
theorem slices_Clone_s_int64_int64.eq (X : Orc) (k : Nat) (p0 : Rows) : runF P X slices_Clone_s_int64_int64.cf (k + 1) F.slices_Clone_s_int64_int64 [.d (.sl 0 1 p0)] [] = (
  onRoom (0 + p0.length) <|
  some (.hs 0 0 1 0 ((([]) ++ p0).length), [.arr 1 (([]) ++ p0)])) := by kernel_rfl
theorem slices_Clone_s_int64_int64.eq_nil (X : Orc) (k : Nat)  : runF P X slices_Clone_s_int64_int64.cf (k + 1) F.slices_Clone_s_int64_int64 [.d (.sl 2 1 ([]))] [] = (
  some (.d (.v (.slice none 0 0)), [])) := by kernel_rfl
def inst_Kind_is.cf : Cf := { loops := [] }
theorem inst_Kind_is.eq (X : Orc) (k : Nat) (p0 : Int) : runF P X inst_Kind_is.cf (k + 1) F.inst_Kind_is [.d (.v (.int .i64 p0))] [] = (
  if decide (p0 ≥ 0) = true then
    some (.d (.v (.bool (decide (p0 < 4)))), [])
  else
    some (.d (.v (.bool false)), [])) := by kernel_rfl
def inst_Inst_lean.cf : Cf := { loops := [] }
theorem inst_Inst_lean.eq (X : Orc) (k : Nat) (p0_0 : Int) (p0_1 : Int) (p0_2 : Rows) (p0_3 : Rows) (p0_4 : Int) (p0_5 : Rows) : runF P X inst_Inst_lean.cf (k + 1) F.inst_Inst_lean [.agg [.d (.v (.int .i64 p0_0)), .d (.v (.int .i64 p0_1)), .d (.sl 3 2 p0_2), .d (.sl 3 1 p0_3), .d (.v (.int .i64 p0_4)), .d (.sl 3 2 p0_5)]] [] = (
  if (p0_0 == 0) = true then
    onCall (X F.inst_Kind_square [.d (.v (.int .i64 p0_0))] []) fun z1 =>
    onBool z1 fun b2 =>
    if b2 = true then
      if (p0_0 == 3) = true then
        some (.d (.v (.bool true)), [])
      else
        if (p0_4 == 0) = true then
          some (.d (.v (.bool ((p0_5.length : Int) == 0))), [])
        else
          some (.d (.v (.bool false)), [])
    else
      if ((p0_3.length : Int) == 0) = true then
        if (p0_0 == 3) = true then
          some (.d (.v (.bool true)), [])
        else
          if (p0_4 == 0) = true then
            some (.d (.v (.bool ((p0_5.length : Int) == 0))), [])
          else
            some (.d (.v (.bool false)), [])
      else
        some (.d (.v (.bool false)), [])
  else
    if (p0_1 == 0) = true then
      if ((p0_2.length : Int) == 0) = true then
        onCall (X F.inst_Kind_square [.d (.v (.int .i64 p0_0))] []) fun z3 =>
        onBool z3 fun b4 =>
        if b4 = true then
          if (p0_0 == 3) = true then
            some (.d (.v (.bool true)), [])
          else
            if (p0_4 == 0) = true then
              some (.d (.v (.bool ((p0_5.length : Int) == 0))), [])
            else
              some (.d (.v (.bool false)), [])
        else
          if ((p0_3.length : Int) == 0) = true then
            if (p0_0 == 3) = true then
              some (.d (.v (.bool true)), [])
            else
              if (p0_4 == 0) = true then
                some (.d (.v (.bool ((p0_5.length : Int) == 0))), [])
              else
                some (.d (.v (.bool false)), [])
          else
            some (.d (.v (.bool false)), [])
      else
        some (.d (.v (.bool false)), [])
    else
      some (.d (.v (.bool false)), [])) := by kernel_rfl
def inst_Inst_few.cf : Cf := { loops := [] }
theorem inst_Inst_few.eq (X : Orc) (k : Nat) (p0_0 : Int) (p0_1 : Int) (p0_2 : Rows) (p0_3 : Rows) (p0_4 : Int) (p0_5 : Rows) : runF P X inst_Inst_few.cf (k + 1) F.inst_Inst_few [.agg [.d (.v (.int .i64 p0_0)), .d (.v (.int .i64 p0_1)), .d (.sl 3 2 p0_2), .d (.sl 3 1 p0_3), .d (.v (.int .i64 p0_4)), .d (.sl 3 2 p0_5)]] [] = (
  onCall (X F.inst_Kind_square [.d (.v (.int .i64 p0_0))] []) fun z1 =>
  onBool z1 fun b2 =>
  if b2 = true then
    if decide ((p0_3.length : Int) < 1) = true then
      some (.d (.v (.bool false)), [])
    else
      if decide ((p0_3.length : Int) > 64) = true then
        some (.d (.v (.bool false)), [])
      else
        if decide ((p0_2.length : Int) ≤ 4096) = true then
          if decide ((p0_5.length : Int) ≤ 4096) = true then
            if decide (p0_4 ≥ 0) = true then
              some (.d (.v (.bool (decide (p0_4 ≤ 4096)))), [])
            else
              some (.d (.v (.bool false)), [])
          else
            some (.d (.v (.bool false)), [])
        else
          some (.d (.v (.bool false)), [])
  else
    if decide ((p0_2.length : Int) ≤ 4096) = true then
      if decide ((p0_5.length : Int) ≤ 4096) = true then
        if decide (p0_4 ≥ 0) = true then
          some (.d (.v (.bool (decide (p0_4 ≤ 4096)))), [])
        else
          some (.d (.v (.bool false)), [])
      else
        some (.d (.v (.bool false)), [])
    else
      some (.d (.v (.bool false)), [])) := by kernel_rfl
def inst_Inst_shaped.cf : Cf := { loops := [{ fid := 66, key := 2, live := [1, 11, 12, 13], vecs := [], cvecs := [], nb := 1, cs := [] }, { fid := 66, key := 8, live := [1, 25, 26, 27], vecs := [], cvecs := [], nb := 1, cs := [] }, { fid := 66, key := 12, live := [1, 7, 25, 26, 27, 32, 33, 34], vecs := [], cvecs := [], nb := 2, cs := [] }] }
noncomputable def inst_Inst_shaped.l2 (X : Orc) (k : Nat) (a11 : Rows) (a12 : Int) (a13 : Int) (h0_0 : Int) (h0_1 : Int) (h0_2 : Rows) (h0_3 : Rows) (h0_4 : Int) (h0_5 : Rows) : Option Res := loopAt P X inst_Inst_shaped.cf k 66 Go.Proofs.Try.f66 2 [(1, .ptr 0 0), (11, .d (.sl 3 1 a11)), (12, .d (.v (.int .i64 a12))), (13, .d (.v (.int .i64 a13)))] [] [.cel [.d (.v (.int .i64 h0_0)), .d (.v (.int .i64 h0_1)), .d (.sl 3 2 h0_2), .d (.sl 3 1 h0_3), .d (.v (.int .i64 h0_4)), .d (.sl 3 2 h0_5)]]
noncomputable def inst_Inst_shaped.l8 (X : Orc) (k : Nat) (a25 : Rows) (a26 : Int) (a27 : Int) (h0_0 : Int) (h0_1 : Int) (h0_2 : Rows) (h0_3 : Rows) (h0_4 : Int) (h0_5 : Rows) : Option Res := loopAt P X inst_Inst_shaped.cf k 66 Go.Proofs.Try.f66 8 [(1, .ptr 0 0), (25, .d (.sl 3 2 a25)), (26, .d (.v (.int .i64 a26))), (27, .d (.v (.int .i64 a27)))] [] [.cel [.d (.v (.int .i64 h0_0)), .d (.v (.int .i64 h0_1)), .d (.sl 3 2 h0_2), .d (.sl 3 1 h0_3), .d (.v (.int .i64 h0_4)), .d (.sl 3 2 h0_5)]]
noncomputable def inst_Inst_shaped.l12 (X : Orc) (k : Nat) (a7 : Int) (a25 : Rows) (a26 : Int) (a27 : Int) (a32 : Rows) (a33 : Int) (a34 : Int) (h0_0 : Int) (h0_1 : Int) (h0_2 : Rows) (h0_3 : Rows) (h0_4 : Int) (h0_5 : Rows) (h1_0 : Int) (h1_1 : Rows) : Option Res := loopAt P X inst_Inst_shaped.cf k 66 Go.Proofs.Try.f66 12 [(1, .ptr 0 0), (7, .d (.v (.int .i64 a7))), (25, .d (.sl 3 2 a25)), (26, .d (.v (.int .i64 a26))), (27, .d (.v (.int .i64 a27))), (32, .d (.sl 3 1 a32)), (33, .d (.v (.int .i64 a33))), (34, .d (.v (.int .i64 a34)))] [] [.cel [.d (.v (.int .i64 h0_0)), .d (.v (.int .i64 h0_1)), .d (.sl 3 2 h0_2), .d (.sl 3 1 h0_3), .d (.v (.int .i64 h0_4)), .d (.sl 3 2 h0_5)], .cel [.d (.v (.int .i64 h1_0)), .d (.sl 3 1 h1_1)]]
theorem inst_Inst_shaped.l2_eq (X : Orc) (k : Nat) (a11 : Rows) (a12 : Int) (a13 : Int) (h0_0 : Int) (h0_1 : Int) (h0_2 : Rows) (h0_3 : Rows) (h0_4 : Int) (h0_5 : Rows) : inst_Inst_shaped.l2 X (k + 1) a11 a12 a13 h0_0 h0_1 h0_2 h0_3 h0_4 h0_5 = (
  if decide (a13 < a12) = true then
    onIx a13 a11.length fun i1 =>
    onRow a11 i1 fun w2 =>
    onCell w2 0 fun x3 =>
    onSl 1 x3 fun r4 =>
    if ((r4.length : Int) != (h0_3.length : Int)) = true then
      some (.d (.v (.bool false)), [])
    else
      inst_Inst_shaped.l2 X k a11 a12 (IntKind.i64.wrap (a13 + 1)) h0_0 h0_1 h0_2 h0_3 h0_4 h0_5
  else
    inst_Inst_shaped.l8 X k h0_5 (h0_5.length : Int) 0 h0_0 h0_1 h0_2 h0_3 h0_4 h0_5) := by kernel_rfl
theorem inst_Inst_shaped.l8_eq (X : Orc) (k : Nat) (a25 : Rows) (a26 : Int) (a27 : Int) (h0_0 : Int) (h0_1 : Int) (h0_2 : Rows) (h0_3 : Rows) (h0_4 : Int) (h0_5 : Rows) : inst_Inst_shaped.l8 X (k + 1) a25 a26 a27 h0_0 h0_1 h0_2 h0_3 h0_4 h0_5 = (
  if decide (a27 < a26) = true then
    onIx a27 a25.length fun i1 =>
    onRow a25 i1 fun w2 =>
    onCell w2 0 fun x3 =>
    onInt .i64 x3 fun n4 =>
    onCell w2 1 fun x5 =>
    onSl 1 x5 fun r6 =>
    inst_Inst_shaped.l12 X k (-1) a25 a26 a27 r6 (r6.length : Int) 0 h0_0 h0_1 h0_2 h0_3 h0_4 h0_5 n4 r6
  else
    some (.d (.v (.bool true)), [])) := by kernel_rfl
theorem inst_Inst_shaped.l12_eq (X : Orc) (k : Nat) (a7 : Int) (a25 : Rows) (a26 : Int) (a27 : Int) (a32 : Rows) (a33 : Int) (a34 : Int) (h0_0 : Int) (h0_1 : Int) (h0_2 : Rows) (h0_3 : Rows) (h0_4 : Int) (h0_5 : Rows) (h1_0 : Int) (h1_1 : Rows) : inst_Inst_shaped.l12 X (k + 1) a7 a25 a26 a27 a32 a33 a34 h0_0 h0_1 h0_2 h0_3 h0_4 h0_5 h1_0 h1_1 = (
  if decide (a34 < a33) = true then
    onIx a34 a32.length fun i1 =>
    onRow a32 i1 fun w2 =>
    onCell w2 0 fun x3 =>
    onInt .i64 x3 fun n4 =>
    if decide (n4 ≤ a7) = true then
      some (.d (.v (.bool false)), [])
    else
      if decide (n4 ≥ h0_4) = true then
        some (.d (.v (.bool false)), [])
      else
        inst_Inst_shaped.l12 X k n4 a25 a26 a27 a32 a33 (IntKind.i64.wrap (a34 + 1)) h0_0 h0_1 h0_2 h0_3 h0_4 h0_5 h1_0 h1_1
  else
    inst_Inst_shaped.l8 X k a25 a26 (IntKind.i64.wrap (a27 + 1)) h0_0 h0_1 h0_2 h0_3 h0_4 h0_5) := by kernel_rfl
theorem inst_Inst_shaped.eq (X : Orc) (k : Nat) (p0_0 : Int) (p0_1 : Int) (p0_2 : Rows) (p0_3 : Rows) (p0_4 : Int) (p0_5 : Rows) : runF P X inst_Inst_shaped.cf (k + 1) F.inst_Inst_shaped [.agg [.d (.v (.int .i64 p0_0)), .d (.v (.int .i64 p0_1)), .d (.sl 3 2 p0_2), .d (.sl 3 1 p0_3), .d (.v (.int .i64 p0_4)), .d (.sl 3 2 p0_5)]] [] = (
  inst_Inst_shaped.l2 X k p0_3 (p0_3.length : Int) 0 p0_0 p0_1 p0_2 p0_3 p0_4 p0_5) := by kernel_rfl
def inst_Inst_small.cf : Cf := { loops := [{ fid := 67, key := 3, live := [1, 3, 16, 17, 18], vecs := [], cvecs := [], nb := 1, cs := [] }, { fid := 67, key := 8, live := [1, 3, 35, 36, 37], vecs := [], cvecs := [], nb := 1, cs := [] }, { fid := 67, key := 11, live := [1, 3, 35, 36, 37, 41, 42, 43], vecs := [], cvecs := [], nb := 1, cs := [] }, { fid := 67, key := 17, live := [3, 55, 56, 57], vecs := [], cvecs := [], nb := 1, cs := [] }] }
noncomputable def inst_Inst_small.l3 (X : Orc) (k : Nat) (a3 : Bool) (a16 : Rows) (a17 : Int) (a18 : Int) (h0_0 : Int) (h0_1 : Int) (h0_2 : Rows) (h0_3 : Rows) (h0_4 : Int) (h0_5 : Rows) : Option Res := loopAt P X inst_Inst_small.cf k 67 Go.Proofs.Try.f67 3 [(1, .ptr 0 0), (3, .d (.v (.bool a3))), (16, .d (.sl 3 2 a16)), (17, .d (.v (.int .i64 a17))), (18, .d (.v (.int .i64 a18)))] [] [.cel [.d (.v (.int .i64 h0_0)), .d (.v (.int .i64 h0_1)), .d (.sl 3 2 h0_2), .d (.sl 3 1 h0_3), .d (.v (.int .i64 h0_4)), .d (.sl 3 2 h0_5)]]
noncomputable def inst_Inst_small.l8 (X : Orc) (k : Nat) (a3 : Bool) (a35 : Rows) (a36 : Int) (a37 : Int) (h0_0 : Int) (h0_1 : Int) (h0_2 : Rows) (h0_3 : Rows) (h0_4 : Int) (h0_5 : Rows) : Option Res := loopAt P X inst_Inst_small.cf k 67 Go.Proofs.Try.f67 8 [(1, .ptr 0 0), (3, .d (.v (.bool a3))), (35, .d (.sl 3 1 a35)), (36, .d (.v (.int .i64 a36))), (37, .d (.v (.int .i64 a37)))] [] [.cel [.d (.v (.int .i64 h0_0)), .d (.v (.int .i64 h0_1)), .d (.sl 3 2 h0_2), .d (.sl 3 1 h0_3), .d (.v (.int .i64 h0_4)), .d (.sl 3 2 h0_5)]]
noncomputable def inst_Inst_small.l11 (X : Orc) (k : Nat) (a3 : Bool) (a35 : Rows) (a36 : Int) (a37 : Int) (a41 : Rows) (a42 : Int) (a43 : Int) (h0_0 : Int) (h0_1 : Int) (h0_2 : Rows) (h0_3 : Rows) (h0_4 : Int) (h0_5 : Rows) : Option Res := loopAt P X inst_Inst_small.cf k 67 Go.Proofs.Try.f67 11 [(1, .ptr 0 0), (3, .d (.v (.bool a3))), (35, .d (.sl 3 1 a35)), (36, .d (.v (.int .i64 a36))), (37, .d (.v (.int .i64 a37))), (41, .d (.sl 3 1 a41)), (42, .d (.v (.int .i64 a42))), (43, .d (.v (.int .i64 a43)))] [] [.cel [.d (.v (.int .i64 h0_0)), .d (.v (.int .i64 h0_1)), .d (.sl 3 2 h0_2), .d (.sl 3 1 h0_3), .d (.v (.int .i64 h0_4)), .d (.sl 3 2 h0_5)]]
noncomputable def inst_Inst_small.l17 (X : Orc) (k : Nat) (a3 : Bool) (a55 : Rows) (a56 : Int) (a57 : Int) (h0_0 : Int) (h0_1 : Int) (h0_2 : Rows) (h0_3 : Rows) (h0_4 : Int) (h0_5 : Rows) : Option Res := loopAt P X inst_Inst_small.cf k 67 Go.Proofs.Try.f67 17 [(3, .d (.v (.bool a3))), (55, .d (.sl 3 2 a55)), (56, .d (.v (.int .i64 a56))), (57, .d (.v (.int .i64 a57)))] [] [.cel [.d (.v (.int .i64 h0_0)), .d (.v (.int .i64 h0_1)), .d (.sl 3 2 h0_2), .d (.sl 3 1 h0_3), .d (.v (.int .i64 h0_4)), .d (.sl 3 2 h0_5)]]
theorem inst_Inst_small.l3_eq (X : Orc) (k : Nat) (a3 : Bool) (a16 : Rows) (a17 : Int) (a18 : Int) (h0_0 : Int) (h0_1 : Int) (h0_2 : Rows) (h0_3 : Rows) (h0_4 : Int) (h0_5 : Rows) : inst_Inst_small.l3 X (k + 1) a3 a16 a17 a18 h0_0 h0_1 h0_2 h0_3 h0_4 h0_5 = (
  if decide (a18 < a17) = true then
    onIx a18 a16.length fun i1 =>
    onRow a16 i1 fun w2 =>
    onCell w2 0 fun x3 =>
    onInt .i64 x3 fun n4 =>
    onCell w2 1 fun x5 =>
    onInt .i64 x5 fun n6 =>
    if a3 = true then
      onCall (X F.inst_from [.d (.v (.int .i64 n4)), .d (.v (.int .i64 0))] []) fun z7 =>
      onBool z7 fun b8 =>
      if b8 = true then
        onCall (X F.inst_from [.d (.v (.int .i64 n6)), .d (.v (.int .i64 0))] []) fun z9 =>
        onBool z9 fun b10 =>
        inst_Inst_small.l3 X k b10 a16 a17 (IntKind.i64.wrap (a18 + 1)) h0_0 h0_1 h0_2 h0_3 h0_4 h0_5
      else
        inst_Inst_small.l3 X k false a16 a17 (IntKind.i64.wrap (a18 + 1)) h0_0 h0_1 h0_2 h0_3 h0_4 h0_5
    else
      inst_Inst_small.l3 X k false a16 a17 (IntKind.i64.wrap (a18 + 1)) h0_0 h0_1 h0_2 h0_3 h0_4 h0_5
  else
    inst_Inst_small.l8 X k a3 h0_3 (h0_3.length : Int) 0 h0_0 h0_1 h0_2 h0_3 h0_4 h0_5) := by kernel_rfl
theorem inst_Inst_small.l8_eq (X : Orc) (k : Nat) (a3 : Bool) (a35 : Rows) (a36 : Int) (a37 : Int) (h0_0 : Int) (h0_1 : Int) (h0_2 : Rows) (h0_3 : Rows) (h0_4 : Int) (h0_5 : Rows) : inst_Inst_small.l8 X (k + 1) a3 a35 a36 a37 h0_0 h0_1 h0_2 h0_3 h0_4 h0_5 = (
  if decide (a37 < a36) = true then
    onIx a37 a35.length fun i1 =>
    onRow a35 i1 fun w2 =>
    onCell w2 0 fun x3 =>
    onSl 1 x3 fun r4 =>
    inst_Inst_small.l11 X k a3 a35 a36 a37 r4 (r4.length : Int) 0 h0_0 h0_1 h0_2 h0_3 h0_4 h0_5
  else
    inst_Inst_small.l17 X k a3 h0_5 (h0_5.length : Int) 0 h0_0 h0_1 h0_2 h0_3 h0_4 h0_5) := by kernel_rfl
theorem inst_Inst_small.l11_eq (X : Orc) (k : Nat) (a3 : Bool) (a35 : Rows) (a36 : Int) (a37 : Int) (a41 : Rows) (a42 : Int) (a43 : Int) (h0_0 : Int) (h0_1 : Int) (h0_2 : Rows) (h0_3 : Rows) (h0_4 : Int) (h0_5 : Rows) : inst_Inst_small.l11 X (k + 1) a3 a35 a36 a37 a41 a42 a43 h0_0 h0_1 h0_2 h0_3 h0_4 h0_5 = (
  if decide (a43 < a42) = true then
    onIx a43 a41.length fun i1 =>
    onRow a41 i1 fun w2 =>
    onCell w2 0 fun x3 =>
    onInt .i64 x3 fun n4 =>
    if a3 = true then
      onCall (X F.inst_from [.d (.v (.int .i64 n4)), .d (.v (.int .i64 (-2147483648)))] []) fun z5 =>
      onBool z5 fun b6 =>
      inst_Inst_small.l11 X k b6 a35 a36 a37 a41 a42 (IntKind.i64.wrap (a43 + 1)) h0_0 h0_1 h0_2 h0_3 h0_4 h0_5
    else
      inst_Inst_small.l11 X k false a35 a36 a37 a41 a42 (IntKind.i64.wrap (a43 + 1)) h0_0 h0_1 h0_2 h0_3 h0_4 h0_5
  else
    inst_Inst_small.l8 X k a3 a35 a36 (IntKind.i64.wrap (a37 + 1)) h0_0 h0_1 h0_2 h0_3 h0_4 h0_5) := by kernel_rfl
theorem inst_Inst_small.l17_eq (X : Orc) (k : Nat) (a3 : Bool) (a55 : Rows) (a56 : Int) (a57 : Int) (h0_0 : Int) (h0_1 : Int) (h0_2 : Rows) (h0_3 : Rows) (h0_4 : Int) (h0_5 : Rows) : inst_Inst_small.l17 X (k + 1) a3 a55 a56 a57 h0_0 h0_1 h0_2 h0_3 h0_4 h0_5 = (
  if decide (a57 < a56) = true then
    onIx a57 a55.length fun i1 =>
    onRow a55 i1 fun w2 =>
    onCell w2 0 fun x3 =>
    onInt .i64 x3 fun n4 =>
    onCell w2 1 fun x5 =>
    onSl 1 x5 fun r6 =>
    if a3 = true then
      onCall (X F.inst_from [.d (.v (.int .i64 n4)), .d (.v (.int .i64 0))] []) fun z7 =>
      onBool z7 fun b8 =>
      inst_Inst_small.l17 X k b8 a55 a56 (IntKind.i64.wrap (a57 + 1)) h0_0 h0_1 h0_2 h0_3 h0_4 h0_5
    else
      inst_Inst_small.l17 X k false a55 a56 (IntKind.i64.wrap (a57 + 1)) h0_0 h0_1 h0_2 h0_3 h0_4 h0_5
  else
    some (.d (.v (.bool a3)), [])) := by kernel_rfl
theorem inst_Inst_small.eq (X : Orc) (k : Nat) (p0_0 : Int) (p0_1 : Int) (p0_2 : Rows) (p0_3 : Rows) (p0_4 : Int) (p0_5 : Rows) : runF P X inst_Inst_small.cf (k + 1) F.inst_Inst_small [.agg [.d (.v (.int .i64 p0_0)), .d (.v (.int .i64 p0_1)), .d (.sl 3 2 p0_2), .d (.sl 3 1 p0_3), .d (.v (.int .i64 p0_4)), .d (.sl 3 2 p0_5)]] [] = (
  onCall (X F.inst_from [.d (.v (.int .i64 p0_1)), .d (.v (.int .i64 0))] []) fun z1 =>
  onBool z1 fun b2 =>
  inst_Inst_small.l3 X k b2 p0_2 (p0_2.length : Int) 0 p0_0 p0_1 p0_2 p0_3 p0_4 p0_5) := by kernel_rfl
def inst_Inst_bare.cf : Cf := { loops := [{ fid := 68, key := 2, live := [1, 6, 7, 8], vecs := [], cvecs := [], nb := 1, cs := [] }] }
noncomputable def inst_Inst_bare.l2 (X : Orc) (k : Nat) (a6 : Rows) (a7 : Int) (a8 : Int) (h0_0 : Int) (h0_1 : Int) (h0_2 : Rows) (h0_3 : Rows) (h0_4 : Int) (h0_5 : Rows) : Option Res := loopAt P X inst_Inst_bare.cf k 68 Go.Proofs.Try.f68 2 [(1, .ptr 0 0), (6, .d (.sl 3 1 a6)), (7, .d (.v (.int .i64 a7))), (8, .d (.v (.int .i64 a8)))] [] [.cel [.d (.v (.int .i64 h0_0)), .d (.v (.int .i64 h0_1)), .d (.sl 3 2 h0_2), .d (.sl 3 1 h0_3), .d (.v (.int .i64 h0_4)), .d (.sl 3 2 h0_5)]]
theorem inst_Inst_bare.l2_eq (X : Orc) (k : Nat) (a6 : Rows) (a7 : Int) (a8 : Int) (h0_0 : Int) (h0_1 : Int) (h0_2 : Rows) (h0_3 : Rows) (h0_4 : Int) (h0_5 : Rows) : inst_Inst_bare.l2 X (k + 1) a6 a7 a8 h0_0 h0_1 h0_2 h0_3 h0_4 h0_5 = (
  if decide (a8 < a7) = true then
    onIx a8 a6.length fun i1 =>
    onRow a6 i1 fun w2 =>
    onCell w2 0 fun x3 =>
    onSl 1 x3 fun r4 =>
    if (h0_0 == 2) = true then
      onIx a8 r4.length fun i5 =>
      onRow r4 i5 fun w6 =>
      onCell w6 0 fun x7 =>
      onInt .i64 x7 fun n8 =>
      if (n8 != 0) = true then
        some (.d (.v (.bool false)), [])
      else
        inst_Inst_bare.l2 X k a6 a7 (IntKind.i64.wrap (a8 + 1)) h0_0 h0_1 h0_2 h0_3 h0_4 h0_5
    else
      inst_Inst_bare.l2 X k a6 a7 (IntKind.i64.wrap (a8 + 1)) h0_0 h0_1 h0_2 h0_3 h0_4 h0_5
  else
    some (.d (.v (.bool true)), [])) := by kernel_rfl
theorem inst_Inst_bare.eq (X : Orc) (k : Nat) (p0_0 : Int) (p0_1 : Int) (p0_2 : Rows) (p0_3 : Rows) (p0_4 : Int) (p0_5 : Rows) : runF P X inst_Inst_bare.cf (k + 1) F.inst_Inst_bare [.agg [.d (.v (.int .i64 p0_0)), .d (.v (.int .i64 p0_1)), .d (.sl 3 2 p0_2), .d (.sl 3 1 p0_3), .d (.v (.int .i64 p0_4)), .d (.sl 3 2 p0_5)]] [] = (
  inst_Inst_bare.l2 X k p0_3 (p0_3.length : Int) 0 p0_0 p0_1 p0_2 p0_3 p0_4 p0_5) := by kernel_rfl
def math_bits_Len.cf : Cf := { mode := fun g => bif Nat.beq g F.math_bits_Len64 || Nat.beq g F.math_bits_Len32 then 1 else 0 }
/-- Of the one number that is asked for. -/
theorem math_bits_Len.eq (X : Orc) (k : Nat) : runF P X math_bits_Len.cf (k + 1) F.math_bits_Len [.d (.v (.int .u64 1048576))] [] = some (.d (.v (.int .i64 21)), []) := by kernel_rfl

def math_bits_OnesCount32.cf : Cf := { loops := [] }
theorem math_bits_OnesCount32.eq (X : Orc) (k : Nat) (p0 : Int) : runF P X math_bits_OnesCount32.cf (k + 1) F.math_bits_OnesCount32 [.d (.v (.int .u32 p0))] [] = (
  onByte ({ data := #[0, 1, 1, 2, 1, 2, 2, 3, 1, 2, 2, 3, 2, 3, 3, 4, 1, 2, 2, 3, 2, 3, 3, 4, 2, 3, 3, 4, 3, 4, 4, 5, 1, 2, 2, 3, 2, 3, 3, 4, 2, 3, 3, 4, 3, 4, 4, 5, 2, 3, 3, 4, 3, 4, 4, 5, 3, 4, 4, 5, 4, 5, 5, 6, 1, 2, 2, 3, 2, 3, 3, 4, 2, 3, 3, 4, 3, 4, 4, 5, 2, 3, 3, 4, 3, 4, 4, 5, 3, 4, 4, 5, 4, 5, 5, 6, 2, 3, 3, 4, 3, 4, 4, 5, 3, 4, 4, 5, 4, 5, 5, 6, 3, 4, 4, 5, 4, 5, 5, 6, 4, 5, 5, 6, 5, 6, 6, 7, 1, 2, 2, 3, 2, 3, 3, 4, 2, 3, 3, 4, 3, 4, 4, 5, 2, 3, 3, 4, 3, 4, 4, 5, 3, 4, 4, 5, 4, 5, 5, 6, 2, 3, 3, 4, 3, 4, 4, 5, 3, 4, 4, 5, 4, 5, 5, 6, 3, 4, 4, 5, 4, 5, 5, 6, 4, 5, 5, 6, 5, 6, 6, 7, 2, 3, 3, 4, 3, 4, 4, 5, 3, 4, 4, 5, 4, 5, 5, 6, 3, 4, 4, 5, 4, 5, 5, 6, 4, 5, 5, 6, 5, 6, 6, 7, 3, 4, 4, 5, 4, 5, 5, 6, 4, 5, 5, 6, 5, 6, 6, 7, 4, 5, 5, 6, 5, 6, 6, 7, 5, 6, 6, 7, 6, 7, 7, 8] } : ByteArray) (p0.fdiv (2 ^ (min (24 : Int).toNat IntKind.u32.bits))) fun c1 =>
  onByte ({ data := #[0, 1, 1, 2, 1, 2, 2, 3, 1, 2, 2, 3, 2, 3, 3, 4, 1, 2, 2, 3, 2, 3, 3, 4, 2, 3, 3, 4, 3, 4, 4, 5, 1, 2, 2, 3, 2, 3, 3, 4, 2, 3, 3, 4, 3, 4, 4, 5, 2, 3, 3, 4, 3, 4, 4, 5, 3, 4, 4, 5, 4, 5, 5, 6, 1, 2, 2, 3, 2, 3, 3, 4, 2, 3, 3, 4, 3, 4, 4, 5, 2, 3, 3, 4, 3, 4, 4, 5, 3, 4, 4, 5, 4, 5, 5, 6, 2, 3, 3, 4, 3, 4, 4, 5, 3, 4, 4, 5, 4, 5, 5, 6, 3, 4, 4, 5, 4, 5, 5, 6, 4, 5, 5, 6, 5, 6, 6, 7, 1, 2, 2, 3, 2, 3, 3, 4, 2, 3, 3, 4, 3, 4, 4, 5, 2, 3, 3, 4, 3, 4, 4, 5, 3, 4, 4, 5, 4, 5, 5, 6, 2, 3, 3, 4, 3, 4, 4, 5, 3, 4, 4, 5, 4, 5, 5, 6, 3, 4, 4, 5, 4, 5, 5, 6, 4, 5, 5, 6, 5, 6, 6, 7, 2, 3, 3, 4, 3, 4, 4, 5, 3, 4, 4, 5, 4, 5, 5, 6, 3, 4, 4, 5, 4, 5, 5, 6, 4, 5, 5, 6, 5, 6, 6, 7, 3, 4, 4, 5, 4, 5, 5, 6, 4, 5, 5, 6, 5, 6, 6, 7, 4, 5, 5, 6, 5, 6, 6, 7, 5, 6, 6, 7, 6, 7, 7, 8] } : ByteArray) (IntKind.u32.wrap ((BitVec.ofInt IntKind.u32.bits (p0.fdiv (2 ^ (min (16 : Int).toNat IntKind.u32.bits))) &&& BitVec.ofInt IntKind.u32.bits 255).toNat : Int)) fun c2 =>
  onByte ({ data := #[0, 1, 1, 2, 1, 2, 2, 3, 1, 2, 2, 3, 2, 3, 3, 4, 1, 2, 2, 3, 2, 3, 3, 4, 2, 3, 3, 4, 3, 4, 4, 5, 1, 2, 2, 3, 2, 3, 3, 4, 2, 3, 3, 4, 3, 4, 4, 5, 2, 3, 3, 4, 3, 4, 4, 5, 3, 4, 4, 5, 4, 5, 5, 6, 1, 2, 2, 3, 2, 3, 3, 4, 2, 3, 3, 4, 3, 4, 4, 5, 2, 3, 3, 4, 3, 4, 4, 5, 3, 4, 4, 5, 4, 5, 5, 6, 2, 3, 3, 4, 3, 4, 4, 5, 3, 4, 4, 5, 4, 5, 5, 6, 3, 4, 4, 5, 4, 5, 5, 6, 4, 5, 5, 6, 5, 6, 6, 7, 1, 2, 2, 3, 2, 3, 3, 4, 2, 3, 3, 4, 3, 4, 4, 5, 2, 3, 3, 4, 3, 4, 4, 5, 3, 4, 4, 5, 4, 5, 5, 6, 2, 3, 3, 4, 3, 4, 4, 5, 3, 4, 4, 5, 4, 5, 5, 6, 3, 4, 4, 5, 4, 5, 5, 6, 4, 5, 5, 6, 5, 6, 6, 7, 2, 3, 3, 4, 3, 4, 4, 5, 3, 4, 4, 5, 4, 5, 5, 6, 3, 4, 4, 5, 4, 5, 5, 6, 4, 5, 5, 6, 5, 6, 6, 7, 3, 4, 4, 5, 4, 5, 5, 6, 4, 5, 5, 6, 5, 6, 6, 7, 4, 5, 5, 6, 5, 6, 6, 7, 5, 6, 6, 7, 6, 7, 7, 8] } : ByteArray) (IntKind.u32.wrap ((BitVec.ofInt IntKind.u32.bits (p0.fdiv (2 ^ (min (8 : Int).toNat IntKind.u32.bits))) &&& BitVec.ofInt IntKind.u32.bits 255).toNat : Int)) fun c3 =>
  onByte ({ data := #[0, 1, 1, 2, 1, 2, 2, 3, 1, 2, 2, 3, 2, 3, 3, 4, 1, 2, 2, 3, 2, 3, 3, 4, 2, 3, 3, 4, 3, 4, 4, 5, 1, 2, 2, 3, 2, 3, 3, 4, 2, 3, 3, 4, 3, 4, 4, 5, 2, 3, 3, 4, 3, 4, 4, 5, 3, 4, 4, 5, 4, 5, 5, 6, 1, 2, 2, 3, 2, 3, 3, 4, 2, 3, 3, 4, 3, 4, 4, 5, 2, 3, 3, 4, 3, 4, 4, 5, 3, 4, 4, 5, 4, 5, 5, 6, 2, 3, 3, 4, 3, 4, 4, 5, 3, 4, 4, 5, 4, 5, 5, 6, 3, 4, 4, 5, 4, 5, 5, 6, 4, 5, 5, 6, 5, 6, 6, 7, 1, 2, 2, 3, 2, 3, 3, 4, 2, 3, 3, 4, 3, 4, 4, 5, 2, 3, 3, 4, 3, 4, 4, 5, 3, 4, 4, 5, 4, 5, 5, 6, 2, 3, 3, 4, 3, 4, 4, 5, 3, 4, 4, 5, 4, 5, 5, 6, 3, 4, 4, 5, 4, 5, 5, 6, 4, 5, 5, 6, 5, 6, 6, 7, 2, 3, 3, 4, 3, 4, 4, 5, 3, 4, 4, 5, 4, 5, 5, 6, 3, 4, 4, 5, 4, 5, 5, 6, 4, 5, 5, 6, 5, 6, 6, 7, 3, 4, 4, 5, 4, 5, 5, 6, 4, 5, 5, 6, 5, 6, 6, 7, 4, 5, 5, 6, 5, 6, 6, 7, 5, 6, 6, 7, 6, 7, 7, 8] } : ByteArray) (IntKind.u32.wrap ((BitVec.ofInt IntKind.u32.bits p0 &&& BitVec.ofInt IntKind.u32.bits 255).toNat : Int)) fun c4 =>
  some (.d (.v (.int .i64 (IntKind.i64.wrap (IntKind.u8.wrap ((IntKind.u8.wrap ((IntKind.u8.wrap ((c1.toNat : Int) + (c2.toNat : Int))) + (c3.toNat : Int))) + (c4.toNat : Int)))))), [])) := by kernel_rfl
def math_bits_OnesCount64.cf : Cf := { loops := [], joins := [{ fid := 71, key := 2, live := [0], vecs := [], cvecs := [], nb := 0, cs := [] }, { fid := 71, key := 3, live := [0], vecs := [], cvecs := [], nb := 0, cs := [] }, { fid := 71, key := 4, live := [0], vecs := [], cvecs := [], nb := 0, cs := [] }, { fid := 71, key := 5, live := [0], vecs := [], cvecs := [], nb := 0, cs := [] }, { fid := 71, key := 6, live := [0], vecs := [], cvecs := [], nb := 0, cs := [] }, { fid := 71, key := 7, live := [0], vecs := [], cvecs := [], nb := 0, cs := [] }] }
noncomputable def math_bits_OnesCount64.j2 (X : Orc) (k : Nat) (a0 : Int) : Option Res := joinAt P X math_bits_OnesCount64.cf k 71 Go.Proofs.Try.f71 2 [(0, .d (.v (.int .u64 a0)))] [] []
noncomputable def math_bits_OnesCount64.j3 (X : Orc) (k : Nat) (a0 : Int) : Option Res := joinAt P X math_bits_OnesCount64.cf k 71 Go.Proofs.Try.f71 3 [(0, .d (.v (.int .u64 a0)))] [] []
noncomputable def math_bits_OnesCount64.j4 (X : Orc) (k : Nat) (a0 : Int) : Option Res := joinAt P X math_bits_OnesCount64.cf k 71 Go.Proofs.Try.f71 4 [(0, .d (.v (.int .u64 a0)))] [] []
noncomputable def math_bits_OnesCount64.j5 (X : Orc) (k : Nat) (a0 : Int) : Option Res := joinAt P X math_bits_OnesCount64.cf k 71 Go.Proofs.Try.f71 5 [(0, .d (.v (.int .u64 a0)))] [] []
noncomputable def math_bits_OnesCount64.j6 (X : Orc) (k : Nat) (a0 : Int) : Option Res := joinAt P X math_bits_OnesCount64.cf k 71 Go.Proofs.Try.f71 6 [(0, .d (.v (.int .u64 a0)))] [] []
noncomputable def math_bits_OnesCount64.j7 (X : Orc) (k : Nat) (a0 : Int) : Option Res := joinAt P X math_bits_OnesCount64.cf k 71 Go.Proofs.Try.f71 7 [(0, .d (.v (.int .u64 a0)))] [] []
theorem math_bits_OnesCount64.j2_eq (X : Orc) (k : Nat) (a0 : Int) : math_bits_OnesCount64.j2 X (k + 1) a0 = (
  math_bits_OnesCount64.j3 X k (IntKind.u64.wrap ((IntKind.u64.wrap ((BitVec.ofInt IntKind.u64.bits (a0.fdiv (2 ^ (min (2 : Int).toNat IntKind.u64.bits))) &&& BitVec.ofInt IntKind.u64.bits 3689348814741910323).toNat : Int)) + (IntKind.u64.wrap ((BitVec.ofInt IntKind.u64.bits a0 &&& BitVec.ofInt IntKind.u64.bits 3689348814741910323).toNat : Int))))) := by kernel_rfl
theorem math_bits_OnesCount64.j3_eq (X : Orc) (k : Nat) (a0 : Int) : math_bits_OnesCount64.j3 X (k + 1) a0 = (
  math_bits_OnesCount64.j4 X k (IntKind.u64.wrap ((BitVec.ofInt IntKind.u64.bits (IntKind.u64.wrap ((a0.fdiv (2 ^ (min (4 : Int).toNat IntKind.u64.bits))) + a0)) &&& BitVec.ofInt IntKind.u64.bits 1085102592571150095).toNat : Int))) := by kernel_rfl
theorem math_bits_OnesCount64.j4_eq (X : Orc) (k : Nat) (a0 : Int) : math_bits_OnesCount64.j4 X (k + 1) a0 = (
  math_bits_OnesCount64.j5 X k (IntKind.u64.wrap (a0 + (a0.fdiv (2 ^ (min (8 : Int).toNat IntKind.u64.bits)))))) := by kernel_rfl
theorem math_bits_OnesCount64.j5_eq (X : Orc) (k : Nat) (a0 : Int) : math_bits_OnesCount64.j5 X (k + 1) a0 = (
  math_bits_OnesCount64.j6 X k (IntKind.u64.wrap (a0 + (a0.fdiv (2 ^ (min (16 : Int).toNat IntKind.u64.bits)))))) := by kernel_rfl
theorem math_bits_OnesCount64.j6_eq (X : Orc) (k : Nat) (a0 : Int) : math_bits_OnesCount64.j6 X (k + 1) a0 = (
  math_bits_OnesCount64.j7 X k (IntKind.u64.wrap (a0 + (a0.fdiv (2 ^ (min (32 : Int).toNat IntKind.u64.bits)))))) := by kernel_rfl
theorem math_bits_OnesCount64.j7_eq (X : Orc) (k : Nat) (a0 : Int) : math_bits_OnesCount64.j7 X (k + 1) a0 = (
  some (.d (.v (.int .i64 (IntKind.i64.wrap ((BitVec.ofInt IntKind.i64.bits (IntKind.i64.wrap a0) &&& BitVec.ofInt IntKind.i64.bits 127).toNat : Int)))), [])) := by kernel_rfl
theorem math_bits_OnesCount64.eq (X : Orc) (k : Nat) (p0 : Int) : runF P X math_bits_OnesCount64.cf (k + 1) F.math_bits_OnesCount64 [.d (.v (.int .u64 p0))] [] = (
  math_bits_OnesCount64.j2 X k (IntKind.u64.wrap ((IntKind.u64.wrap ((BitVec.ofInt IntKind.u64.bits (p0.fdiv (2 ^ (min (1 : Int).toNat IntKind.u64.bits))) &&& BitVec.ofInt IntKind.u64.bits 6148914691236517205).toNat : Int)) + (IntKind.u64.wrap ((BitVec.ofInt IntKind.u64.bits p0 &&& BitVec.ofInt IntKind.u64.bits 6148914691236517205).toNat : Int))))) := by kernel_rfl
def ref12_Feasible.cf : Cf := { loops := [{ fid := 72, key := 9, live := [1, 2, 6, 7, 8], vecs := [], cvecs := [], nb := 1, cs := [] }, { fid := 72, key := 20, live := [1, 2, 10, 11], vecs := [], cvecs := [], nb := 1, cs := [] }] }
noncomputable def ref12_Feasible.l9 (X : Orc) (k : Nat) (a1 : Rows) (a6 : Bool) (a7 : Int) (a8 : Int) (h0_0 : Int) (h0_1 : Int) (h0_2 : Rows) (h0_3 : Rows) (h0_4 : Int) (h0_5 : Rows) : Option Res := loopAt P X ref12_Feasible.cf k 72 Go.Proofs.Try.f72 9 [(1, .d (.sl 3 1 a1)), (2, .ptr 0 0), (6, .d (.v (.bool a6))), (7, .d (.v (.int .i64 a7))), (8, .d (.v (.int .i64 a8)))] [] [.cel [.d (.v (.int .i64 h0_0)), .d (.v (.int .i64 h0_1)), .d (.sl 3 2 h0_2), .d (.sl 3 1 h0_3), .d (.v (.int .i64 h0_4)), .d (.sl 3 2 h0_5)]]
noncomputable def ref12_Feasible.l20 (X : Orc) (k : Nat) (a1 : Rows) (a10 : Bool) (a11 : Int) (h0_0 : Int) (h0_1 : Int) (h0_2 : Rows) (h0_3 : Rows) (h0_4 : Int) (h0_5 : Rows) : Option Res := loopAt P X ref12_Feasible.cf k 72 Go.Proofs.Try.f72 20 [(1, .d (.sl 3 1 a1)), (2, .ptr 0 0), (10, .d (.v (.bool a10))), (11, .d (.v (.int .i64 a11)))] [] [.cel [.d (.v (.int .i64 h0_0)), .d (.v (.int .i64 h0_1)), .d (.sl 3 2 h0_2), .d (.sl 3 1 h0_3), .d (.v (.int .i64 h0_4)), .d (.sl 3 2 h0_5)]]
theorem ref12_Feasible.l9_eq (X : Orc) (k : Nat) (a1 : Rows) (a6 : Bool) (a7 : Int) (a8 : Int) (h0_0 : Int) (h0_1 : Int) (h0_2 : Rows) (h0_3 : Rows) (h0_4 : Int) (h0_5 : Rows) : ref12_Feasible.l9 X (k + 1) a1 a6 a7 a8 h0_0 h0_1 h0_2 h0_3 h0_4 h0_5 = (
  if decide (a8 < (a1.length : Int)) = true then
    if a6 = true then
      onIx a8 a1.length fun i1 =>
      onRow a1 i1 fun w2 =>
      onCell w2 0 fun x3 =>
      onInt .i64 x3 fun n4 =>
      onIx n4 h0_2.length fun i5 =>
      onRow h0_2 i5 fun w6 =>
      onCell w6 1 fun x7 =>
      onInt .i64 x7 fun n8 =>
      ref12_Feasible.l9 X k a1 a6 (IntKind.i64.wrap (a7 + n8)) (IntKind.i64.wrap (a8 + 1)) h0_0 h0_1 h0_2 h0_3 h0_4 h0_5
    else
      if a6 = true then
        some (.d (.v (.bool (decide (a7 ≤ h0_1)))), [])
      else
        some (.d (.v (.bool false)), [])
  else
    if a6 = true then
      some (.d (.v (.bool (decide (a7 ≤ h0_1)))), [])
    else
      some (.d (.v (.bool false)), [])) := by kernel_rfl
theorem ref12_Feasible.l20_eq (X : Orc) (k : Nat) (a1 : Rows) (a10 : Bool) (a11 : Int) (h0_0 : Int) (h0_1 : Int) (h0_2 : Rows) (h0_3 : Rows) (h0_4 : Int) (h0_5 : Rows) : ref12_Feasible.l20 X (k + 1) a1 a10 a11 h0_0 h0_1 h0_2 h0_3 h0_4 h0_5 = (
  if decide (a11 < h0_4) = true then
    if a10 = true then
      onCall (X F.ref12_has [.d (.sl 3 2 h0_5), .d (.sl 3 1 a1), .d (.v (.int .i64 a11))] []) fun z1 =>
      onBool z1 fun b2 =>
      ref12_Feasible.l20 X k a1 b2 (IntKind.i64.wrap (a11 + 1)) h0_0 h0_1 h0_2 h0_3 h0_4 h0_5
    else
      some (.d (.v (.bool a10)), [])
  else
    some (.d (.v (.bool a10)), [])) := by kernel_rfl
theorem ref12_Feasible.eq (X : Orc) (k : Nat) (p0_0 : Int) (p0_1 : Int) (p0_2 : Rows) (p0_3 : Rows) (p0_4 : Int) (p0_5 : Rows) (p1 : Rows) : runF P X ref12_Feasible.cf (k + 1) F.ref12_Feasible [.agg [.d (.v (.int .i64 p0_0)), .d (.v (.int .i64 p0_1)), .d (.sl 3 2 p0_2), .d (.sl 3 1 p0_3), .d (.v (.int .i64 p0_4)), .d (.sl 3 2 p0_5)], .d (.sl 3 1 p1)] [] = (
  onCall (X F.ref09_Check [.agg [.d (.v (.int .i64 p0_0)), .d (.v (.int .i64 p0_1)), .d (.sl 3 2 p0_2), .d (.sl 3 1 p0_3), .d (.v (.int .i64 p0_4)), .d (.sl 3 2 p0_5)]] []) fun z1 =>
  onInt .i64 z1 fun n2 =>
  if (n2 != 0) = true then
    some (.d (.v (.bool false)), [])
  else
    if (p0_0 == 0) = true then
      onCall (X F.ref12_rises [.d (.sl 3 1 p1), .d (.v (.int .i64 (p0_2.length : Int)))] []) fun z3 =>
      onBool z3 fun b4 =>
      ref12_Feasible.l9 X k p1 b4 0 0 p0_0 p0_1 p0_2 p0_3 p0_4 p0_5
    else
      if (p0_0 == 1) = true then
        onCall (X F.ref12_each [.d (.sl 3 1 p1), .d (.v (.int .i64 (p0_3.length : Int)))] []) fun z5 =>
        onBool z5 fun b6 =>
        some (.d (.v (.bool b6)), [])
      else
        if (p0_0 == 2) = true then
          onCall (X F.ref12_each [.d (.sl 3 1 p1), .d (.v (.int .i64 (p0_3.length : Int)))] []) fun z7 =>
          onBool z7 fun b8 =>
          if b8 = true then
            onIx 0 p1.length fun i9 =>
            onRow p1 i9 fun w10 =>
            onCell w10 0 fun x11 =>
            onInt .i64 x11 fun n12 =>
            some (.d (.v (.bool (n12 == 0))), [])
          else
            some (.d (.v (.bool false)), [])
        else
          onCall (X F.ref12_rises [.d (.sl 3 1 p1), .d (.v (.int .i64 (p0_5.length : Int)))] []) fun z13 =>
          onBool z13 fun b14 =>
          ref12_Feasible.l20 X k p1 b14 0 p0_0 p0_1 p0_2 p0_3 p0_4 p0_5) := by kernel_rfl
def ref09_out.cf : Cf := { loops := [] }
theorem ref09_out.eq (X : Orc) (k : Nat) (p0 : Int) (p1 : Int) (p2 : Int) : runF P X ref09_out.cf (k + 1) F.ref09_out [.d (.v (.int .i64 p0)), .d (.v (.int .i64 p1)), .d (.v (.int .i64 p2))] [] = (
  if decide (p0 < p1) = true then
    some (.d (.v (.bool true)), [])
  else
    some (.d (.v (.bool (decide (p0 > p2)))), [])) := by kernel_rfl
def ref01_far.cf : Cf := { loops := [{ fid := 74, key := 6, live := [2, 3, 5], vecs := [], cvecs := [], nb := 2, cs := [] }] }
noncomputable def ref01_far.l6 (X : Orc) (k : Nat) (a5 : Int) (h0_0 : Bool) (h0_1 : Rows) (h1_0 : Bool) (h1_1 : Rows) : Option Res := loopAt P X ref01_far.cf k 74 Go.Proofs.Try.f74 6 [(2, .ptr 0 0), (3, .ptr 1 0), (5, .d (.v (.int .i64 a5)))] [] [.cel [.d (.v (.bool h0_0)), .d (.sl 3 1 h0_1)], .cel [.d (.v (.bool h1_0)), .d (.sl 3 1 h1_1)]]
theorem ref01_far.l6_eq (X : Orc) (k : Nat) (a5 : Int) (h0_0 : Bool) (h0_1 : Rows) (h1_0 : Bool) (h1_1 : Rows) : ref01_far.l6 X (k + 1) a5 h0_0 h0_1 h1_0 h1_1 = (
  if decide (a5 ≥ 0) = true then
    onIx a5 h0_1.length fun i1 =>
    onRow h0_1 i1 fun w2 =>
    onCell w2 0 fun x3 =>
    onInt .u64 x3 fun n4 =>
    onIx a5 h1_1.length fun i5 =>
    onRow h1_1 i5 fun w6 =>
    onCell w6 0 fun x7 =>
    onInt .u64 x7 fun n8 =>
    if decide (n4 < n8) = true then
      some (.d (.v (.int .i64 (-1))), [])
    else
      onIx a5 h0_1.length fun i9 =>
      onRow h0_1 i9 fun w10 =>
      onCell w10 0 fun x11 =>
      onInt .u64 x11 fun n12 =>
      onIx a5 h1_1.length fun i13 =>
      onRow h1_1 i13 fun w14 =>
      onCell w14 0 fun x15 =>
      onInt .u64 x15 fun n16 =>
      if decide (n12 > n16) = true then
        some (.d (.v (.int .i64 1)), [])
      else
        ref01_far.l6 X k (IntKind.i64.wrap (a5 - 1)) h0_0 h0_1 h1_0 h1_1
  else
    some (.d (.v (.int .i64 0)), [])) := by kernel_rfl
theorem ref01_far.eq (X : Orc) (k : Nat) (p0_0 : Bool) (p0_1 : Rows) (p1_0 : Bool) (p1_1 : Rows) : runF P X ref01_far.cf (k + 1) F.ref01_far [.agg [.d (.v (.bool p0_0)), .d (.sl 3 1 p0_1)], .agg [.d (.v (.bool p1_0)), .d (.sl 3 1 p1_1)]] [] = (
  if ((p0_1.length : Int) != (p1_1.length : Int)) = true then
    if decide ((p0_1.length : Int) < (p1_1.length : Int)) = true then
      some (.d (.v (.int .i64 (-1))), [])
    else
      some (.d (.v (.int .i64 1)), [])
  else
    ref01_far.l6 X k (IntKind.i64.wrap ((p0_1.length : Int) - 1)) p0_0 p0_1 p1_0 p1_1) := by kernel_rfl
def eval_rises.cf : Cf := { loops := [{ fid := 75, key := 3, live := [1, 5, 8, 9, 10], vecs := [], cvecs := [], nb := 0, cs := [] }] }
noncomputable def eval_rises.l3 (X : Orc) (k : Nat) (a1 : Int) (a5 : Int) (a8 : Rows) (a9 : Int) (a10 : Int) : Option Res := loopAt P X eval_rises.cf k 75 Go.Proofs.Try.f75 3 [(1, .d (.v (.int .i64 a1))), (5, .d (.v (.int .i64 a5))), (8, .d (.sl 3 1 a8)), (9, .d (.v (.int .i64 a9))), (10, .d (.v (.int .i64 a10)))] [] []
theorem eval_rises.l3_eq (X : Orc) (k : Nat) (a1 : Int) (a5 : Int) (a8 : Rows) (a9 : Int) (a10 : Int) : eval_rises.l3 X (k + 1) a1 a5 a8 a9 a10 = (
  if decide (a10 < a9) = true then
    onIx a10 a8.length fun i1 =>
    onRow a8 i1 fun w2 =>
    onCell w2 0 fun x3 =>
    onInt .i64 x3 fun n4 =>
    if decide (n4 ≤ a5) = true then
      some (.d (.v (.bool false)), [])
    else
      if decide (n4 ≥ a1) = true then
        some (.d (.v (.bool false)), [])
      else
        eval_rises.l3 X k a1 n4 a8 a9 (IntKind.i64.wrap (a10 + 1))
  else
    some (.d (.v (.bool true)), [])) := by kernel_rfl
theorem eval_rises.eq (X : Orc) (k : Nat) (p0 : Rows) (p1 : Int) : runF P X eval_rises.cf (k + 1) F.eval_rises [.d (.sl 3 1 p0), .d (.v (.int .i64 p1))] [] = (
  eval_rises.l3 X k p1 (-1) p0 (p0.length : Int) 0) := by kernel_rfl
def eval_fits.cf : Cf := { loops := [{ fid := 76, key := 3, live := [2, 5, 10, 11, 12], vecs := [(5, 1)], cvecs := [], nb := 2, cs := [] }] }
noncomputable def eval_fits.l3 (X : Orc) (k : Nat) (a10 : Rows) (a11 : Int) (a12 : Int) (h0_0 : Int) (h0_1 : Int) (h0_2 : Rows) (h0_3 : Rows) (h0_4 : Int) (h0_5 : Rows) (H1 : Rows) : Option Res := loopAt P X eval_fits.cf k 76 Go.Proofs.Try.f76 3 [(2, .ptr 0 0), (5, .vh 1 0 1 H1.length), (10, .d (.sl 3 1 a10)), (11, .d (.v (.int .i64 a11))), (12, .d (.v (.int .i64 a12)))] [] [.cel [.d (.v (.int .i64 h0_0)), .d (.v (.int .i64 h0_1)), .d (.sl 3 2 h0_2), .d (.sl 3 1 h0_3), .d (.v (.int .i64 h0_4)), .d (.sl 3 2 h0_5)], .vec 1 0 H1]
theorem eval_fits.l3_eq (X : Orc) (k : Nat) (a10 : Rows) (a11 : Int) (a12 : Int) (h0_0 : Int) (h0_1 : Int) (h0_2 : Rows) (h0_3 : Rows) (h0_4 : Int) (h0_5 : Rows) (H1 : Rows) : eval_fits.l3 X (k + 1) a10 a11 a12 h0_0 h0_1 h0_2 h0_3 h0_4 h0_5 H1 = (
  if decide (a12 < a11) = true then
    onIx a12 a10.length fun i1 =>
    onRow a10 i1 fun w2 =>
    onCell w2 0 fun x3 =>
    onInt .i64 x3 fun n4 =>
    onIx n4 h0_2.length fun i5 =>
    onRow h0_2 i5 fun w6 =>
    onCell w6 1 fun x7 =>
    onInt .i64 x7 fun n8 =>
    onRoom (H1.length + 1) <|
    eval_fits.l3 X k a10 a11 (IntKind.i64.wrap (a12 + 1)) h0_0 h0_1 h0_2 h0_3 h0_4 h0_5 (H1 ++ ([[.v (.int .i64 n8)]]))
  else
    onCall (X F.num_Sum [.d (.sl 3 1 H1)] []) fun z9 =>
    onTup 2 z9 fun u10 =>
    onCell u10 0 fun x11 =>
    onInt .i64 x11 fun n12 =>
    onCell u10 1 fun x13 =>
    onBool x13 fun b14 =>
    if b14 = true then
      some (.d (.v (.bool (decide (n12 ≤ h0_1)))), [])
    else
      some (.d (.v (.bool false)), [])) := by kernel_rfl
theorem eval_fits.eq (X : Orc) (k : Nat) (p0_0 : Int) (p0_1 : Int) (p0_2 : Rows) (p0_3 : Rows) (p0_4 : Int) (p0_5 : Rows) (p1 : Rows) : runF P X eval_fits.cf (k + 1) F.eval_fits [.agg [.d (.v (.int .i64 p0_0)), .d (.v (.int .i64 p0_1)), .d (.sl 3 2 p0_2), .d (.sl 3 1 p0_3), .d (.v (.int .i64 p0_4)), .d (.sl 3 2 p0_5)], .d (.sl 3 1 p1)] [] = (
  eval_fits.l3 X k p1 (p1.length : Int) 0 p0_0 p0_1 p0_2 p0_3 p0_4 p0_5 ([])) := by kernel_rfl
def eval_order.cf : Cf := { loops := [{ fid := 77, key := 3, live := [0, 1, 5, 6, 14, 15, 16], vecs := [], cvecs := [], nb := 1, cs := [] }] }
noncomputable def eval_order.l3 (X : Orc) (k : Nat) (a0 : Rows) (a1 : Int) (a6 : Int) (a14 : Rows) (a15 : Int) (a16 : Int) (h0_0 : Int) (h0_1 : Rows) : Option Res := loopAt P X eval_order.cf k 77 Go.Proofs.Try.f77 3 [(0, .d (.sl 3 1 a0)), (1, .d (.v (.int .i64 a1))), (5, .ptr 0 0), (6, .d (.v (.int .i64 a6))), (14, .d (.sl 3 1 a14)), (15, .d (.v (.int .i64 a15))), (16, .d (.v (.int .i64 a16)))] [] [.cel [.d (.v (.int .i64 h0_0)), .d (.sl 3 1 h0_1)]]
theorem eval_order.l3_eq (X : Orc) (k : Nat) (a0 : Rows) (a1 : Int) (a6 : Int) (a14 : Rows) (a15 : Int) (a16 : Int) (h0_0 : Int) (h0_1 : Rows) : eval_order.l3 X (k + 1) a0 a1 a6 a14 a15 a16 h0_0 h0_1 = (
  if decide (a16 < a15) = true then
    onIx a16 a14.length fun i1 =>
    onRow a14 i1 fun w2 =>
    onCell w2 0 fun x3 =>
    onInt .i64 x3 fun n4 =>
    onCall (X F.bitset_Set_Has [.agg [.d (.v (.int .i64 h0_0)), .d (.sl 3 1 h0_1)], .d (.v (.int .i64 n4))] []) fun z5 =>
    onBool z5 fun b6 =>
    if b6 = true then
      some (.d (.v (.bool false)), [])
    else
      onCall (X F.bitset_Set_With [.agg [.d (.v (.int .i64 h0_0)), .d (.sl 3 1 h0_1)], .d (.v (.int .i64 n4))] []) fun z7 =>
      onAgg 2 z7 fun c8 =>
      onCell c8 0 fun x9 =>
      onInt .i64 x9 fun n10 =>
      onCell c8 1 fun x11 =>
      onSl 1 x11 fun r12 =>
      eval_order.l3 X k a0 a1 a6 a14 a15 (IntKind.i64.wrap (a16 + 1)) n10 r12
  else
    if (a6 == 0) = true then
      if ((a0.length : Int) == a1) = true then
        onCall (X F.bitset_Set_Count [.agg [.d (.v (.int .i64 h0_0)), .d (.sl 3 1 h0_1)]] []) fun z13 =>
        onInt .i64 z13 fun n14 =>
        some (.d (.v (.bool (n14 == a1))), [])
      else
        some (.d (.v (.bool false)), [])
    else
      some (.d (.v (.bool false)), [])) := by kernel_rfl
theorem eval_order.eq (X : Orc) (k : Nat) (p0 : Rows) (p1 : Int) : runF P X eval_order.cf (k + 1) F.eval_order [.d (.sl 3 1 p0), .d (.v (.int .i64 p1))] [] = (
  onCall (X F.bitset_New [.d (.v (.int .i64 p1))] []) fun z1 =>
  onTup 2 z1 fun u2 =>
  onCell u2 0 fun x3 =>
  onAgg 2 x3 fun c4 =>
  onCell c4 0 fun x5 =>
  onInt .i64 x5 fun n6 =>
  onCell c4 1 fun x7 =>
  onSl 1 x7 fun r8 =>
  onCell u2 1 fun x9 =>
  onInt .i64 x9 fun n10 =>
  eval_order.l3 X k p0 p1 n10 p0 (p0.length : Int) 0 n6 r8) := by kernel_rfl
def eval_covers.cf : Cf := { loops := [{ fid := 78, key := 3, live := [2, 5, 17, 18, 19], vecs := [], cvecs := [], nb := 2, cs := [] }, { fid := 78, key := 6, live := [2, 5, 17, 18, 19, 28, 29, 30], vecs := [], cvecs := [], nb := 2, cs := [] }] }
noncomputable def eval_covers.l3 (X : Orc) (k : Nat) (a17 : Rows) (a18 : Int) (a19 : Int) (h0_0 : Int) (h0_1 : Int) (h0_2 : Rows) (h0_3 : Rows) (h0_4 : Int) (h0_5 : Rows) (h1_0 : Int) (h1_1 : Rows) : Option Res := loopAt P X eval_covers.cf k 78 Go.Proofs.Try.f78 3 [(2, .ptr 0 0), (5, .ptr 1 0), (17, .d (.sl 3 1 a17)), (18, .d (.v (.int .i64 a18))), (19, .d (.v (.int .i64 a19)))] [] [.cel [.d (.v (.int .i64 h0_0)), .d (.v (.int .i64 h0_1)), .d (.sl 3 2 h0_2), .d (.sl 3 1 h0_3), .d (.v (.int .i64 h0_4)), .d (.sl 3 2 h0_5)], .cel [.d (.v (.int .i64 h1_0)), .d (.sl 3 1 h1_1)]]
noncomputable def eval_covers.l6 (X : Orc) (k : Nat) (a17 : Rows) (a18 : Int) (a19 : Int) (a28 : Rows) (a29 : Int) (a30 : Int) (h0_0 : Int) (h0_1 : Int) (h0_2 : Rows) (h0_3 : Rows) (h0_4 : Int) (h0_5 : Rows) (h1_0 : Int) (h1_1 : Rows) : Option Res := loopAt P X eval_covers.cf k 78 Go.Proofs.Try.f78 6 [(2, .ptr 0 0), (5, .ptr 1 0), (17, .d (.sl 3 1 a17)), (18, .d (.v (.int .i64 a18))), (19, .d (.v (.int .i64 a19))), (28, .d (.sl 3 1 a28)), (29, .d (.v (.int .i64 a29))), (30, .d (.v (.int .i64 a30)))] [] [.cel [.d (.v (.int .i64 h0_0)), .d (.v (.int .i64 h0_1)), .d (.sl 3 2 h0_2), .d (.sl 3 1 h0_3), .d (.v (.int .i64 h0_4)), .d (.sl 3 2 h0_5)], .cel [.d (.v (.int .i64 h1_0)), .d (.sl 3 1 h1_1)]]
theorem eval_covers.l3_eq (X : Orc) (k : Nat) (a17 : Rows) (a18 : Int) (a19 : Int) (h0_0 : Int) (h0_1 : Int) (h0_2 : Rows) (h0_3 : Rows) (h0_4 : Int) (h0_5 : Rows) (h1_0 : Int) (h1_1 : Rows) : eval_covers.l3 X (k + 1) a17 a18 a19 h0_0 h0_1 h0_2 h0_3 h0_4 h0_5 h1_0 h1_1 = (
  if decide (a19 < a18) = true then
    onIx a19 a17.length fun i1 =>
    onRow a17 i1 fun w2 =>
    onCell w2 0 fun x3 =>
    onInt .i64 x3 fun n4 =>
    onIx n4 h0_5.length fun i5 =>
    onRow h0_5 i5 fun w6 =>
    onCell w6 1 fun x7 =>
    onSl 1 x7 fun r8 =>
    eval_covers.l6 X k a17 a18 a19 r8 (r8.length : Int) 0 h0_0 h0_1 h0_2 h0_3 h0_4 h0_5 h1_0 h1_1
  else
    onCall (X F.bitset_Set_Count [.agg [.d (.v (.int .i64 h1_0)), .d (.sl 3 1 h1_1)]] []) fun z9 =>
    onInt .i64 z9 fun n10 =>
    some (.d (.v (.bool (n10 == h0_4))), [])) := by kernel_rfl
theorem eval_covers.l6_eq (X : Orc) (k : Nat) (a17 : Rows) (a18 : Int) (a19 : Int) (a28 : Rows) (a29 : Int) (a30 : Int) (h0_0 : Int) (h0_1 : Int) (h0_2 : Rows) (h0_3 : Rows) (h0_4 : Int) (h0_5 : Rows) (h1_0 : Int) (h1_1 : Rows) : eval_covers.l6 X (k + 1) a17 a18 a19 a28 a29 a30 h0_0 h0_1 h0_2 h0_3 h0_4 h0_5 h1_0 h1_1 = (
  if decide (a30 < a29) = true then
    onIx a30 a28.length fun i1 =>
    onRow a28 i1 fun w2 =>
    onCell w2 0 fun x3 =>
    onInt .i64 x3 fun n4 =>
    onCall (X F.bitset_Set_With [.agg [.d (.v (.int .i64 h1_0)), .d (.sl 3 1 h1_1)], .d (.v (.int .i64 n4))] []) fun z5 =>
    onAgg 2 z5 fun c6 =>
    onCell c6 0 fun x7 =>
    onInt .i64 x7 fun n8 =>
    onCell c6 1 fun x9 =>
    onSl 1 x9 fun r10 =>
    eval_covers.l6 X k a17 a18 a19 a28 a29 (IntKind.i64.wrap (a30 + 1)) h0_0 h0_1 h0_2 h0_3 h0_4 h0_5 n8 r10
  else
    eval_covers.l3 X k a17 a18 (IntKind.i64.wrap (a19 + 1)) h0_0 h0_1 h0_2 h0_3 h0_4 h0_5 h1_0 h1_1) := by kernel_rfl
theorem eval_covers.eq (X : Orc) (k : Nat) (p0_0 : Int) (p0_1 : Int) (p0_2 : Rows) (p0_3 : Rows) (p0_4 : Int) (p0_5 : Rows) (p1 : Rows) : runF P X eval_covers.cf (k + 1) F.eval_covers [.agg [.d (.v (.int .i64 p0_0)), .d (.v (.int .i64 p0_1)), .d (.sl 3 2 p0_2), .d (.sl 3 1 p0_3), .d (.v (.int .i64 p0_4)), .d (.sl 3 2 p0_5)], .d (.sl 3 1 p1)] [] = (
  onCall (X F.bitset_New [.d (.v (.int .i64 p0_4))] []) fun z1 =>
  onTup 2 z1 fun u2 =>
  onCell u2 0 fun x3 =>
  onAgg 2 x3 fun c4 =>
  onCell c4 0 fun x5 =>
  onInt .i64 x5 fun n6 =>
  onCell c4 1 fun x7 =>
  onSl 1 x7 fun r8 =>
  onCell u2 1 fun x9 =>
  onInt .i64 x9 fun n10 =>
  eval_covers.l3 X k p1 (p1.length : Int) 0 p0_0 p0_1 p0_2 p0_3 p0_4 p0_5 n6 r8) := by kernel_rfl
def num_short.cf : Cf := { loops := [] }
theorem num_short.eq (X : Orc) (k : Nat) (p0_0 : Bool) (p0_1 : Int) (p0_2 : Int) : runF P X num_short.cf (k + 1) F.num_short [.agg [.d (.v (.bool p0_0)), .d (.v (.int .u64 p0_1)), .d (.v (.int .u64 p0_2))]] [] = (
  if (p0_1 != 0) = true then
    some (.d (.tup [.v (.int .i64 0), .v (.bool false)]), [])
  else
    if (!p0_0) = true then
      if decide (p0_2 > 9223372036854775807) = true then
        some (.d (.tup [.v (.int .i64 0), .v (.bool false)]), [])
      else
        if p0_0 = true then
          if decide (p0_2 > 9223372036854775808) = true then
            some (.d (.tup [.v (.int .i64 0), .v (.bool false)]), [])
          else
            if p0_0 = true then
              some (.d (.tup [.v (.int .i64 (IntKind.i64.wrap (IntKind.u64.wrap (0 - p0_2)))), .v (.bool true)]), [])
            else
              some (.d (.tup [.v (.int .i64 (IntKind.i64.wrap p0_2)), .v (.bool true)]), [])
        else
          if p0_0 = true then
            some (.d (.tup [.v (.int .i64 (IntKind.i64.wrap (IntKind.u64.wrap (0 - p0_2)))), .v (.bool true)]), [])
          else
            some (.d (.tup [.v (.int .i64 (IntKind.i64.wrap p0_2)), .v (.bool true)]), [])
    else
      if p0_0 = true then
        if decide (p0_2 > 9223372036854775808) = true then
          some (.d (.tup [.v (.int .i64 0), .v (.bool false)]), [])
        else
          if p0_0 = true then
            some (.d (.tup [.v (.int .i64 (IntKind.i64.wrap (IntKind.u64.wrap (0 - p0_2)))), .v (.bool true)]), [])
          else
            some (.d (.tup [.v (.int .i64 (IntKind.i64.wrap p0_2)), .v (.bool true)]), [])
      else
        if p0_0 = true then
          some (.d (.tup [.v (.int .i64 (IntKind.i64.wrap (IntKind.u64.wrap (0 - p0_2)))), .v (.bool true)]), [])
        else
          some (.d (.tup [.v (.int .i64 (IntKind.i64.wrap p0_2)), .v (.bool true)]), [])) := by kernel_rfl
def num_total.cf : Cf := { loops := [{ fid := 80, key := 3, live := [2, 3, 6, 7, 8], vecs := [], cvecs := [], nb := 2, cs := [] }] }
noncomputable def num_total.l3 (X : Orc) (k : Nat) (a6 : Rows) (a7 : Int) (a8 : Int) (h0_0 : Bool) (h0_1 : Int) (h0_2 : Int) (h1_0 : Bool) (h1_1 : Int) (h1_2 : Int) : Option Res := loopAt P X num_total.cf k 80 Go.Proofs.Try.f80 3 [(2, .ptr 0 0), (3, .ptr 1 0), (6, .d (.sl 3 1 a6)), (7, .d (.v (.int .i64 a7))), (8, .d (.v (.int .i64 a8)))] [] [.cel [.d (.v (.bool h0_0)), .d (.v (.int .u64 h0_1)), .d (.v (.int .u64 h0_2))], .cel [.d (.v (.bool h1_0)), .d (.v (.int .u64 h1_1)), .d (.v (.int .u64 h1_2))]]
theorem num_total.l3_eq (X : Orc) (k : Nat) (a6 : Rows) (a7 : Int) (a8 : Int) (h0_0 : Bool) (h0_1 : Int) (h0_2 : Int) (h1_0 : Bool) (h1_1 : Int) (h1_2 : Int) : num_total.l3 X (k + 1) a6 a7 a8 h0_0 h0_1 h0_2 h1_0 h1_1 h1_2 = (
  if decide (a8 < a7) = true then
    onIx a8 a6.length fun i1 =>
    onRow a6 i1 fun w2 =>
    onCell w2 0 fun x3 =>
    onInt .i64 x3 fun n4 =>
    onCall (X F.num_of [.d (.v (.int .i64 n4))] []) fun z5 =>
    onAgg 3 z5 fun c6 =>
    onCell c6 0 fun x7 =>
    onBool x7 fun b8 =>
    onCell c6 1 fun x9 =>
    onInt .u64 x9 fun n10 =>
    onCell c6 2 fun x11 =>
    onInt .u64 x11 fun n12 =>
    onCall (X F.num_add [.agg [.d (.v (.bool h1_0)), .d (.v (.int .u64 h1_1)), .d (.v (.int .u64 h1_2))], .agg [.d (.v (.bool b8)), .d (.v (.int .u64 n10)), .d (.v (.int .u64 n12))]] []) fun z13 =>
    onAgg 3 z13 fun c14 =>
    onCell c14 0 fun x15 =>
    onBool x15 fun b16 =>
    onCell c14 1 fun x17 =>
    onInt .u64 x17 fun n18 =>
    onCell c14 2 fun x19 =>
    onInt .u64 x19 fun n20 =>
    num_total.l3 X k a6 a7 (IntKind.i64.wrap (a8 + 1)) h0_0 h0_1 h0_2 b16 n18 n20
  else
    some (.d (.agg [.v (.bool h1_0), .v (.int .u64 h1_1), .v (.int .u64 h1_2)]), [])) := by kernel_rfl
theorem num_total.eq (X : Orc) (k : Nat) (p0 : Rows) : runF P X num_total.cf (k + 1) F.num_total [.d (.sl 3 1 p0)] [] = (
  num_total.l3 X k p0 (p0.length : Int) 0 false 0 0 false 0 0) := by kernel_rfl
def num_size.cf : Cf := { loops := [] }
theorem num_size.eq (X : Orc) (k : Nat) (p0 : Int) : runF P X num_size.cf (k + 1) F.num_size [.d (.v (.int .i64 p0))] [] = (
  if decide (p0 < 0) = true then
    some (.d (.v (.int .u64 (IntKind.u64.wrap (0 - (IntKind.u64.wrap p0))))), [])
  else
    some (.d (.v (.int .u64 (IntKind.u64.wrap p0))), [])) := by kernel_rfl
def inst_Kind_square.cf : Cf := { loops := [] }
theorem inst_Kind_square.eq (X : Orc) (k : Nat) (p0 : Int) : runF P X inst_Kind_square.cf (k + 1) F.inst_Kind_square [.d (.v (.int .i64 p0))] [] = (
  if (p0 == 1) = true then
    some (.d (.v (.bool true)), [])
  else
    some (.d (.v (.bool (p0 == 2))), [])) := by kernel_rfl
def inst_from.cf : Cf := { loops := [] }
theorem inst_from.eq (X : Orc) (k : Nat) (p0 : Int) (p1 : Int) : runF P X inst_from.cf (k + 1) F.inst_from [.d (.v (.int .i64 p0)), .d (.v (.int .i64 p1))] [] = (
  if decide (p0 ≥ p1) = true then
    some (.d (.v (.bool (decide (p0 ≤ 2147483648)))), [])
  else
    some (.d (.v (.bool false)), [])) := by kernel_rfl
def ref12_rises.cf : Cf := { loops := [{ fid := 92, key := 2, live := [0, 1, 5], vecs := [], cvecs := [], nb := 0, cs := [] }] }
noncomputable def ref12_rises.l2 (X : Orc) (k : Nat) (a0 : Rows) (a1 : Int) (a5 : Int) : Option Res := loopAt P X ref12_rises.cf k 92 Go.Proofs.Try.f92 2 [(0, .d (.sl 3 1 a0)), (1, .d (.v (.int .i64 a1))), (5, .d (.v (.int .i64 a5)))] [] []
theorem ref12_rises.l2_eq (X : Orc) (k : Nat) (a0 : Rows) (a1 : Int) (a5 : Int) : ref12_rises.l2 X (k + 1) a0 a1 a5 = (
  if decide (a5 < (a0.length : Int)) = true then
    onIx a5 a0.length fun i1 =>
    onRow a0 i1 fun w2 =>
    onCell w2 0 fun x3 =>
    onInt .i64 x3 fun n4 =>
    if decide (n4 < 0) = true then
      some (.d (.v (.bool false)), [])
    else
      onIx a5 a0.length fun i5 =>
      onRow a0 i5 fun w6 =>
      onCell w6 0 fun x7 =>
      onInt .i64 x7 fun n8 =>
      if decide (n8 ≥ a1) = true then
        some (.d (.v (.bool false)), [])
      else
        if decide (a5 > 0) = true then
          onIx a5 a0.length fun i9 =>
          onRow a0 i9 fun w10 =>
          onCell w10 0 fun x11 =>
          onInt .i64 x11 fun n12 =>
          onIx (IntKind.i64.wrap (a5 - 1)) a0.length fun i13 =>
          onRow a0 i13 fun w14 =>
          onCell w14 0 fun x15 =>
          onInt .i64 x15 fun n16 =>
          if decide (n12 ≤ n16) = true then
            some (.d (.v (.bool false)), [])
          else
            ref12_rises.l2 X k a0 a1 (IntKind.i64.wrap (a5 + 1))
        else
          ref12_rises.l2 X k a0 a1 (IntKind.i64.wrap (a5 + 1))
  else
    some (.d (.v (.bool true)), [])) := by kernel_rfl
theorem ref12_rises.eq (X : Orc) (k : Nat) (p0 : Rows) (p1 : Int) : runF P X ref12_rises.cf (k + 1) F.ref12_rises [.d (.sl 3 1 p0), .d (.v (.int .i64 p1))] [] = (
  ref12_rises.l2 X k p0 p1 0) := by kernel_rfl
def ref12_each.cf : Cf := { loops := [{ fid := 93, key := 2, live := [0, 1, 5], vecs := [], cvecs := [], nb := 0, cs := [] }, { fid := 93, key := 6, live := [0, 1, 5, 6, 7], vecs := [], cvecs := [], nb := 0, cs := [] }] }
noncomputable def ref12_each.l2 (X : Orc) (k : Nat) (a0 : Rows) (a1 : Int) (a5 : Int) : Option Res := loopAt P X ref12_each.cf k 93 Go.Proofs.Try.f93 2 [(0, .d (.sl 3 1 a0)), (1, .d (.v (.int .i64 a1))), (5, .d (.v (.int .i64 a5)))] [] []
noncomputable def ref12_each.l6 (X : Orc) (k : Nat) (a0 : Rows) (a1 : Int) (a5 : Int) (a6 : Int) (a7 : Int) : Option Res := loopAt P X ref12_each.cf k 93 Go.Proofs.Try.f93 6 [(0, .d (.sl 3 1 a0)), (1, .d (.v (.int .i64 a1))), (5, .d (.v (.int .i64 a5))), (6, .d (.v (.int .i64 a6))), (7, .d (.v (.int .i64 a7)))] [] []
theorem ref12_each.l2_eq (X : Orc) (k : Nat) (a0 : Rows) (a1 : Int) (a5 : Int) : ref12_each.l2 X (k + 1) a0 a1 a5 = (
  if decide (a5 < a1) = true then
    ref12_each.l6 X k a0 a1 a5 0 0
  else
    some (.d (.v (.bool ((a0.length : Int) == a1))), [])) := by kernel_rfl
theorem ref12_each.l6_eq (X : Orc) (k : Nat) (a0 : Rows) (a1 : Int) (a5 : Int) (a6 : Int) (a7 : Int) : ref12_each.l6 X (k + 1) a0 a1 a5 a6 a7 = (
  if decide (a7 < (a0.length : Int)) = true then
    onIx a7 a0.length fun i1 =>
    onRow a0 i1 fun w2 =>
    onCell w2 0 fun x3 =>
    onInt .i64 x3 fun n4 =>
    if (n4 == a5) = true then
      ref12_each.l6 X k a0 a1 a5 (IntKind.i64.wrap (a6 + 1)) (IntKind.i64.wrap (a7 + 1))
    else
      ref12_each.l6 X k a0 a1 a5 a6 (IntKind.i64.wrap (a7 + 1))
  else
    if (a6 != 1) = true then
      some (.d (.v (.bool false)), [])
    else
      ref12_each.l2 X k a0 a1 (IntKind.i64.wrap (a5 + 1))) := by kernel_rfl
theorem ref12_each.eq (X : Orc) (k : Nat) (p0 : Rows) (p1 : Int) : runF P X ref12_each.cf (k + 1) F.ref12_each [.d (.sl 3 1 p0), .d (.v (.int .i64 p1))] [] = (
  ref12_each.l2 X k p0 p1 0) := by kernel_rfl
def ref12_has.cf : Cf := { loops := [{ fid := 94, key := 2, live := [0, 1, 2, 7], vecs := [], cvecs := [], nb := 0, cs := [] }, { fid := 94, key := 5, live := [0, 1, 2, 7, 8], vecs := [], cvecs := [], nb := 0, cs := [] }] }
noncomputable def ref12_has.l2 (X : Orc) (k : Nat) (a0 : Rows) (a1 : Rows) (a2 : Int) (a7 : Int) : Option Res := loopAt P X ref12_has.cf k 94 Go.Proofs.Try.f94 2 [(0, .d (.sl 3 2 a0)), (1, .d (.sl 3 1 a1)), (2, .d (.v (.int .i64 a2))), (7, .d (.v (.int .i64 a7)))] [] []
noncomputable def ref12_has.l5 (X : Orc) (k : Nat) (a0 : Rows) (a1 : Rows) (a2 : Int) (a7 : Int) (a8 : Int) : Option Res := loopAt P X ref12_has.cf k 94 Go.Proofs.Try.f94 5 [(0, .d (.sl 3 2 a0)), (1, .d (.sl 3 1 a1)), (2, .d (.v (.int .i64 a2))), (7, .d (.v (.int .i64 a7))), (8, .d (.v (.int .i64 a8)))] [] []
theorem ref12_has.l2_eq (X : Orc) (k : Nat) (a0 : Rows) (a1 : Rows) (a2 : Int) (a7 : Int) : ref12_has.l2 X (k + 1) a0 a1 a2 a7 = (
  if decide (a7 < (a1.length : Int)) = true then
    ref12_has.l5 X k a0 a1 a2 a7 0
  else
    some (.d (.v (.bool false)), [])) := by kernel_rfl
theorem ref12_has.l5_eq (X : Orc) (k : Nat) (a0 : Rows) (a1 : Rows) (a2 : Int) (a7 : Int) (a8 : Int) : ref12_has.l5 X (k + 1) a0 a1 a2 a7 a8 = (
  onIx a7 a1.length fun i1 =>
  onRow a1 i1 fun w2 =>
  onCell w2 0 fun x3 =>
  onInt .i64 x3 fun n4 =>
  onIx n4 a0.length fun i5 =>
  onRow a0 i5 fun w6 =>
  onCell w6 1 fun x7 =>
  onSl 1 x7 fun r8 =>
  if decide (a8 < (r8.length : Int)) = true then
    onIx a7 a1.length fun i9 =>
    onRow a1 i9 fun w10 =>
    onCell w10 0 fun x11 =>
    onInt .i64 x11 fun n12 =>
    onIx n12 a0.length fun i13 =>
    onRow a0 i13 fun w14 =>
    onCell w14 1 fun x15 =>
    onSl 1 x15 fun r16 =>
    onIx a8 r16.length fun i17 =>
    onRow r16 i17 fun w18 =>
    onCell w18 0 fun x19 =>
    onInt .i64 x19 fun n20 =>
    if (n20 == a2) = true then
      some (.d (.v (.bool true)), [])
    else
      ref12_has.l5 X k a0 a1 a2 a7 (IntKind.i64.wrap (a8 + 1))
  else
    ref12_has.l2 X k a0 a1 a2 (IntKind.i64.wrap (a7 + 1))) := by kernel_rfl
theorem ref12_has.eq (X : Orc) (k : Nat) (p0 : Rows) (p1 : Rows) (p2 : Int) : runF P X ref12_has.cf (k + 1) F.ref12_has [.d (.sl 3 2 p0), .d (.sl 3 1 p1), .d (.v (.int .i64 p2))] [] = (
  ref12_has.l2 X k p0 p1 p2 0) := by kernel_rfl
def bitset_New.cf : Cf := { loops := [] }
theorem bitset_New.eq (X : Orc) (k : Nat) (p0 : Int) : runF P X bitset_New.cf (k + 1) F.bitset_New [.d (.v (.int .i64 p0))] [] = (
  if decide (p0 < 0) = true then
    some (.d (.tup [.agg [.v (.int .i64 0), .v (.slice none 0 0)], .v (.int .i64 2)]), [])
  else
    if decide (p0 > 4096) = true then
      some (.d (.tup [.agg [.v (.int .i64 0), .v (.slice none 0 0)], .v (.int .i64 2)]), [])
    else
      if 0 ≤ (IntKind.i64.wrap ((IntKind.i64.wrap ((IntKind.i64.wrap (p0 + 64)) - 1)).tdiv 64)) then
        onRoom ((IntKind.i64.wrap ((IntKind.i64.wrap ((IntKind.i64.wrap (p0 + 64)) - 1)).tdiv 64)).toNat) <|
        some (.d (.tup [.agg [.v (.int .i64 p0), .sl 3 1 (((List.replicate ((IntKind.i64.wrap ((IntKind.i64.wrap ((IntKind.i64.wrap (p0 + 64)) - 1)).tdiv 64)).toNat) [.v (.int .u64 0)]).drop 0).take ((IntKind.i64.wrap ((IntKind.i64.wrap ((IntKind.i64.wrap (p0 + 64)) - 1)).tdiv 64)).toNat))], .v (.int .i64 0)]), [])
      else
        none) := by kernel_rfl
def bitset_Set_Has.cf : Cf := { loops := [] }
theorem bitset_Set_Has.eq (X : Orc) (k : Nat) (p0_0 : Int) (p0_1 : Rows) (p1 : Int) : runF P X bitset_Set_Has.cf (k + 1) F.bitset_Set_Has [.agg [.d (.v (.int .i64 p0_0)), .d (.sl 3 1 p0_1)], .d (.v (.int .i64 p1))] [] = (
  onCall (X F.bitset_Set_within [.agg [.d (.v (.int .i64 p0_0)), .d (.sl 3 1 p0_1)], .d (.v (.int .i64 p1))] []) fun z1 =>
  onBool z1 fun b2 =>
  if b2 = true then
    onIx (IntKind.i64.wrap (p1.tdiv 64)) p0_1.length fun i3 =>
    onRow p0_1 i3 fun w4 =>
    onCell w4 0 fun x5 =>
    onInt .u64 x5 fun n6 =>
    if (p1.tmod 64) < 0 then
      none
    else
      some (.d (.v (.bool ((IntKind.u64.wrap ((BitVec.ofInt IntKind.u64.bits (n6.fdiv (2 ^ (min (p1.tmod 64).toNat IntKind.u64.bits))) &&& BitVec.ofInt IntKind.u64.bits 1).toNat : Int)) == 1))), [])
  else
    some (.d (.v (.bool false)), [])) := by kernel_rfl
def bitset_Set_With.cf : Cf := { loops := [], mode := fun g => bif Nat.beq g F.bitset_Set_copied then 2 else 0 }
theorem bitset_Set_With.eq (X : Orc) (k : Nat) (p0_0 : Int) (p0_1 : Rows) (p1 : Int) : runF P X bitset_Set_With.cf (k + 1) F.bitset_Set_With [.agg [.d (.v (.int .i64 p0_0)), .d (.sl 3 1 p0_1)], .d (.v (.int .i64 p1))] [] = (
  onCall (X F.bitset_Set_within [.agg [.d (.v (.int .i64 p0_0)), .d (.sl 3 1 p0_1)], .d (.v (.int .i64 p1))] []) fun z1 =>
  onBool z1 fun b2 =>
  if (!b2) = true then
    some (.d (.agg [.v (.int .i64 p0_0), .sl 3 1 p0_1]), [])
  else
    onOwn (X F.bitset_Set_copied [.agg [.d (.v (.int .i64 p0_0)), .d (.sl 3 1 p0_1)]] []) fun z3 h4 =>
    onAggA 2 z3 fun c5 =>
    onCellA c5 0 fun x6 =>
    onD x6 fun y7 =>
    onInt .i64 y7 fun n8 =>
    onCellA c5 1 fun x9 =>
    onHs 0 1 x9 fun l10 =>
    onArr h4 0 1 fun r11 =>
    onIx (IntKind.i64.wrap (p1.tdiv 64)) l10 fun i12 =>
    onRow r11 (0 + i12) fun w13 =>
    onCell w13 0 fun x14 =>
    onInt .u64 x14 fun n15 =>
    if (p1.tmod 64) < 0 then
      none
    else
      onIx (IntKind.i64.wrap (p1.tdiv 64)) l10 fun i16 =>
      onRow r11 (0 + i16) fun w17 =>
      some (.d (.agg [.v (.int .i64 n8), .sl 3 1 (((r11.set (0 + i16) (splice w17 0 [.v (.int .u64 (IntKind.u64.wrap ((BitVec.ofInt IntKind.u64.bits n15 ||| BitVec.ofInt IntKind.u64.bits (IntKind.u64.wrap ((1 : Int) * 2 ^ (min (p1.tmod 64).toNat IntKind.u64.bits)))).toNat : Int)))])).drop 0).take l10)]), [])) := by kernel_rfl
def bitset_Set_Count.cf : Cf := { loops := [{ fid := 98, key := 3, live := [3, 7, 8, 9], vecs := [], cvecs := [], nb := 1, cs := [] }] }
noncomputable def bitset_Set_Count.l3 (X : Orc) (k : Nat) (a3 : Int) (a7 : Rows) (a8 : Int) (a9 : Int) (h0_0 : Int) (h0_1 : Rows) : Option Res := loopAt P X bitset_Set_Count.cf k 98 Go.Proofs.Try.f98 3 [(3, .d (.v (.int .i64 a3))), (7, .d (.sl 3 1 a7)), (8, .d (.v (.int .i64 a8))), (9, .d (.v (.int .i64 a9)))] [] [.cel [.d (.v (.int .i64 h0_0)), .d (.sl 3 1 h0_1)]]
theorem bitset_Set_Count.l3_eq (X : Orc) (k : Nat) (a3 : Int) (a7 : Rows) (a8 : Int) (a9 : Int) (h0_0 : Int) (h0_1 : Rows) : bitset_Set_Count.l3 X (k + 1) a3 a7 a8 a9 h0_0 h0_1 = (
  if decide (a9 < a8) = true then
    onIx a9 a7.length fun i1 =>
    onRow a7 i1 fun w2 =>
    onCell w2 0 fun x3 =>
    onInt .u64 x3 fun n4 =>
    onCall (X F.math_bits_OnesCount64 [.d (.v (.int .u64 n4))] []) fun z5 =>
    onInt .i64 z5 fun n6 =>
    bitset_Set_Count.l3 X k (IntKind.i64.wrap (a3 + n6)) a7 a8 (IntKind.i64.wrap (a9 + 1)) h0_0 h0_1
  else
    some (.d (.v (.int .i64 a3)), [])) := by kernel_rfl
theorem bitset_Set_Count.eq (X : Orc) (k : Nat) (p0_0 : Int) (p0_1 : Rows) : runF P X bitset_Set_Count.cf (k + 1) F.bitset_Set_Count [.agg [.d (.v (.int .i64 p0_0)), .d (.sl 3 1 p0_1)]] [] = (
  bitset_Set_Count.l3 X k 0 p0_1 (p0_1.length : Int) 0 p0_0 p0_1) := by kernel_rfl
def num_add.cf : Cf := { loops := [] }
theorem num_add.eq (X : Orc) (k : Nat) (p0_0 : Bool) (p0_1 : Int) (p0_2 : Int) (p1_0 : Bool) (p1_1 : Int) (p1_2 : Int) : runF P X num_add.cf (k + 1) F.num_add [.agg [.d (.v (.bool p0_0)), .d (.v (.int .u64 p0_1)), .d (.v (.int .u64 p0_2))], .agg [.d (.v (.bool p1_0)), .d (.v (.int .u64 p1_1)), .d (.v (.int .u64 p1_2))]] [] = (
  if (p0_0 == p1_0) = true then
    onCall (X F.num_plus [.agg [.d (.v (.bool p0_0)), .d (.v (.int .u64 p0_1)), .d (.v (.int .u64 p0_2))], .agg [.d (.v (.bool p1_0)), .d (.v (.int .u64 p1_1)), .d (.v (.int .u64 p1_2))]] []) fun z1 =>
    onAgg 3 z1 fun c2 =>
    onCell c2 0 fun x3 =>
    onBool x3 fun b4 =>
    onCell c2 1 fun x5 =>
    onInt .u64 x5 fun n6 =>
    onCell c2 2 fun x7 =>
    onInt .u64 x7 fun n8 =>
    some (.d (.agg [.v (.bool b4), .v (.int .u64 n6), .v (.int .u64 n8)]), [])
  else
    onCall (X F.num_distance [.agg [.d (.v (.bool p0_0)), .d (.v (.int .u64 p0_1)), .d (.v (.int .u64 p0_2))], .agg [.d (.v (.bool p1_0)), .d (.v (.int .u64 p1_1)), .d (.v (.int .u64 p1_2))]] []) fun z9 =>
    onInt .i64 z9 fun n10 =>
    if decide (n10 ≥ 0) = true then
      onCall (X F.num_less [.agg [.d (.v (.bool p0_0)), .d (.v (.int .u64 p0_1)), .d (.v (.int .u64 p0_2))], .agg [.d (.v (.bool p1_0)), .d (.v (.int .u64 p1_1)), .d (.v (.int .u64 p1_2))]] []) fun z11 =>
      onAgg 3 z11 fun c12 =>
      onCell c12 0 fun x13 =>
      onBool x13 fun b14 =>
      onCell c12 1 fun x15 =>
      onInt .u64 x15 fun n16 =>
      onCell c12 2 fun x17 =>
      onInt .u64 x17 fun n18 =>
      onCall (X F.num_normal [.agg [.d (.v (.bool b14)), .d (.v (.int .u64 n16)), .d (.v (.int .u64 n18))]] []) fun z19 =>
      onAgg 3 z19 fun c20 =>
      onCell c20 0 fun x21 =>
      onBool x21 fun b22 =>
      onCell c20 1 fun x23 =>
      onInt .u64 x23 fun n24 =>
      onCell c20 2 fun x25 =>
      onInt .u64 x25 fun n26 =>
      some (.d (.agg [.v (.bool b22), .v (.int .u64 n24), .v (.int .u64 n26)]), [])
    else
      onCall (X F.num_less [.agg [.d (.v (.bool p1_0)), .d (.v (.int .u64 p1_1)), .d (.v (.int .u64 p1_2))], .agg [.d (.v (.bool p0_0)), .d (.v (.int .u64 p0_1)), .d (.v (.int .u64 p0_2))]] []) fun z27 =>
      onAgg 3 z27 fun c28 =>
      onCell c28 0 fun x29 =>
      onBool x29 fun b30 =>
      onCell c28 1 fun x31 =>
      onInt .u64 x31 fun n32 =>
      onCell c28 2 fun x33 =>
      onInt .u64 x33 fun n34 =>
      onCall (X F.num_normal [.agg [.d (.v (.bool b30)), .d (.v (.int .u64 n32)), .d (.v (.int .u64 n34))]] []) fun z35 =>
      onAgg 3 z35 fun c36 =>
      onCell c36 0 fun x37 =>
      onBool x37 fun b38 =>
      onCell c36 1 fun x39 =>
      onInt .u64 x39 fun n40 =>
      onCell c36 2 fun x41 =>
      onInt .u64 x41 fun n42 =>
      some (.d (.agg [.v (.bool b38), .v (.int .u64 n40), .v (.int .u64 n42)]), [])) := by kernel_rfl
def num_of.cf : Cf := { loops := [] }
theorem num_of.eq (X : Orc) (k : Nat) (p0 : Int) : runF P X num_of.cf (k + 1) F.num_of [.d (.v (.int .i64 p0))] [] = (
  onCall (X F.num_size [.d (.v (.int .i64 p0))] []) fun z1 =>
  onInt .u64 z1 fun n2 =>
  some (.d (.agg [.v (.bool (decide (p0 < 0))), .v (.int .u64 0), .v (.int .u64 n2)]), [])) := by kernel_rfl
def num_distance.cf : Cf := { loops := [] }
theorem num_distance.eq (X : Orc) (k : Nat) (p0_0 : Bool) (p0_1 : Int) (p0_2 : Int) (p1_0 : Bool) (p1_1 : Int) (p1_2 : Int) : runF P X num_distance.cf (k + 1) F.num_distance [.agg [.d (.v (.bool p0_0)), .d (.v (.int .u64 p0_1)), .d (.v (.int .u64 p0_2))], .agg [.d (.v (.bool p1_0)), .d (.v (.int .u64 p1_1)), .d (.v (.int .u64 p1_2))]] [] = (
  onCall (X F.cmp_Compare_uint64 [.d (.v (.int .u64 p0_1)), .d (.v (.int .u64 p1_1))] []) fun z1 =>
  onInt .i64 z1 fun n2 =>
  onCall (X F.cmp_Compare_uint64 [.d (.v (.int .u64 p0_2)), .d (.v (.int .u64 p1_2))] []) fun z3 =>
  onInt .i64 z3 fun n4 =>
  onCall (X F.cmp_Or_int [.d (.sl 3 1 ([[.v (.int .i64 n2)], [.v (.int .i64 n4)]]))] []) fun z5 =>
  onInt .i64 z5 fun n6 =>
  some (.d (.v (.int .i64 n6)), [])) := by kernel_rfl
def bitset_Set_within.cf : Cf := { loops := [] }
theorem bitset_Set_within.eq (X : Orc) (k : Nat) (p0_0 : Int) (p0_1 : Rows) (p1 : Int) : runF P X bitset_Set_within.cf (k + 1) F.bitset_Set_within [.agg [.d (.v (.int .i64 p0_0)), .d (.sl 3 1 p0_1)], .d (.v (.int .i64 p1))] [] = (
  if decide (p1 ≥ 0) = true then
    some (.d (.v (.bool (decide (p1 < p0_0)))), [])
  else
    some (.d (.v (.bool false)), [])) := by kernel_rfl
def bitset_Set_copied.cf : Cf := { loops := [], mode := fun g => bif Nat.beq g F.slices_Clone_s_uint64_uint64 then 3 else 0, ret := 2 }
theorem bitset_Set_copied.eq (X : Orc) (k : Nat) (p0_0 : Int) (p0_1 : Rows) : runF P X bitset_Set_copied.cf (k + 1) F.bitset_Set_copied [.agg [.d (.v (.int .i64 p0_0)), .d (.sl 3 1 p0_1)]] [] = (
  onOwn (X F.slices_Clone_s_uint64_uint64 [.d (.sl 3 1 p0_1)] []) fun z1 h2 =>
  onHs 0 1 z1 fun l3 =>
  onArr h2 0 1 fun r4 =>
  some (.agg [.d (.v (.int .i64 p0_0)), .hs 0 0 1 0 l3], [.arr 1 r4])) := by kernel_rfl
def num_plus.cf : Cf := { loops := [] }
theorem num_plus.eq (X : Orc) (k : Nat) (p0_0 : Bool) (p0_1 : Int) (p0_2 : Int) (p1_0 : Bool) (p1_1 : Int) (p1_2 : Int) : runF P X num_plus.cf (k + 1) F.num_plus [.agg [.d (.v (.bool p0_0)), .d (.v (.int .u64 p0_1)), .d (.v (.int .u64 p0_2))], .agg [.d (.v (.bool p1_0)), .d (.v (.int .u64 p1_1)), .d (.v (.int .u64 p1_2))]] [] = (
  onCall (X F.math_bits_Add64 [.d (.v (.int .u64 p0_2)), .d (.v (.int .u64 p1_2)), .d (.v (.int .u64 0))] []) fun z1 =>
  onTup 2 z1 fun u2 =>
  onCell u2 0 fun x3 =>
  onInt .u64 x3 fun n4 =>
  onCell u2 1 fun x5 =>
  onInt .u64 x5 fun n6 =>
  onCall (X F.math_bits_Add64 [.d (.v (.int .u64 p0_1)), .d (.v (.int .u64 p1_1)), .d (.v (.int .u64 n6))] []) fun z7 =>
  onTup 2 z7 fun u8 =>
  onCell u8 0 fun x9 =>
  onInt .u64 x9 fun n10 =>
  onCell u8 1 fun x11 =>
  onInt .u64 x11 fun n12 =>
  some (.d (.agg [.v (.bool p0_0), .v (.int .u64 n10), .v (.int .u64 n4)]), [])) := by kernel_rfl
def num_normal.cf : Cf := { loops := [] }
theorem num_normal.eq (X : Orc) (k : Nat) (p0_0 : Bool) (p0_1 : Int) (p0_2 : Int) : runF P X num_normal.cf (k + 1) F.num_normal [.agg [.d (.v (.bool p0_0)), .d (.v (.int .u64 p0_1)), .d (.v (.int .u64 p0_2))]] [] = (
  if p0_0 = true then
    some (.d (.agg [.v (.bool ((IntKind.u64.wrap ((BitVec.ofInt IntKind.u64.bits p0_1 ||| BitVec.ofInt IntKind.u64.bits p0_2).toNat : Int)) != 0)), .v (.int .u64 p0_1), .v (.int .u64 p0_2)]), [])
  else
    some (.d (.agg [.v (.bool false), .v (.int .u64 p0_1), .v (.int .u64 p0_2)]), [])) := by kernel_rfl
def num_less.cf : Cf := { loops := [] }
theorem num_less.eq (X : Orc) (k : Nat) (p0_0 : Bool) (p0_1 : Int) (p0_2 : Int) (p1_0 : Bool) (p1_1 : Int) (p1_2 : Int) : runF P X num_less.cf (k + 1) F.num_less [.agg [.d (.v (.bool p0_0)), .d (.v (.int .u64 p0_1)), .d (.v (.int .u64 p0_2))], .agg [.d (.v (.bool p1_0)), .d (.v (.int .u64 p1_1)), .d (.v (.int .u64 p1_2))]] [] = (
  onCall (X F.math_bits_Sub64 [.d (.v (.int .u64 p0_2)), .d (.v (.int .u64 p1_2)), .d (.v (.int .u64 0))] []) fun z1 =>
  onTup 2 z1 fun u2 =>
  onCell u2 0 fun x3 =>
  onInt .u64 x3 fun n4 =>
  onCell u2 1 fun x5 =>
  onInt .u64 x5 fun n6 =>
  onCall (X F.math_bits_Sub64 [.d (.v (.int .u64 p0_1)), .d (.v (.int .u64 p1_1)), .d (.v (.int .u64 n6))] []) fun z7 =>
  onTup 2 z7 fun u8 =>
  onCell u8 0 fun x9 =>
  onInt .u64 x9 fun n10 =>
  onCell u8 1 fun x11 =>
  onInt .u64 x11 fun n12 =>
  some (.d (.agg [.v (.bool p0_0), .v (.int .u64 n10), .v (.int .u64 n4)]), [])) := by kernel_rfl
def cmp_Or_int.cf : Cf := { loops := [{ fid := 114, key := 3, live := [3, 6, 7, 8], vecs := [], cvecs := [], nb := 0, cs := [] }] }
noncomputable def cmp_Or_int.l3 (X : Orc) (k : Nat) (a3 : Int) (a6 : Rows) (a7 : Int) (a8 : Int) : Option Res := loopAt P X cmp_Or_int.cf k 114 Go.Proofs.Try.f114 3 [(3, .d (.v (.int .i64 a3))), (6, .d (.sl 3 1 a6)), (7, .d (.v (.int .i64 a7))), (8, .d (.v (.int .i64 a8)))] [] []
theorem cmp_Or_int.l3_eq (X : Orc) (k : Nat) (a3 : Int) (a6 : Rows) (a7 : Int) (a8 : Int) : cmp_Or_int.l3 X (k + 1) a3 a6 a7 a8 = (
  if decide (a8 < a7) = true then
    onIx a8 a6.length fun i1 =>
    onRow a6 i1 fun w2 =>
    onCell w2 0 fun x3 =>
    onInt .i64 x3 fun n4 =>
    if (n4 != a3) = true then
      some (.d (.v (.int .i64 n4)), [])
    else
      cmp_Or_int.l3 X k a3 a6 a7 (IntKind.i64.wrap (a8 + 1))
  else
    some (.d (.v (.int .i64 a3)), [])) := by kernel_rfl
theorem cmp_Or_int.eq (X : Orc) (k : Nat) (p0 : Rows) : runF P X cmp_Or_int.cf (k + 1) F.cmp_Or_int [.d (.sl 3 1 p0)] [] = (
  cmp_Or_int.l3 X k 0 p0 (p0.length : Int) 0) := by kernel_rfl
def cmp_Compare_uint64.cf : Cf := { loops := [] }
theorem cmp_Compare_uint64.eq (X : Orc) (k : Nat) (p0 : Int) (p1 : Int) : runF P X cmp_Compare_uint64.cf (k + 1) F.cmp_Compare_uint64 [.d (.v (.int .u64 p0)), .d (.v (.int .u64 p1))] [] = (
  onCall (X F.cmp_isNaN_uint64 [.d (.v (.int .u64 p0))] []) fun z1 =>
  onBool z1 fun b2 =>
  onCall (X F.cmp_isNaN_uint64 [.d (.v (.int .u64 p1))] []) fun z3 =>
  onBool z3 fun b4 =>
  if b2 = true then
    if b4 = true then
      some (.d (.v (.int .i64 0)), [])
    else
      some (.d (.v (.int .i64 (-1))), [])
  else
    if b4 = true then
      some (.d (.v (.int .i64 1)), [])
    else
      if decide (p0 < p1) = true then
        some (.d (.v (.int .i64 (-1))), [])
      else
        if decide (p0 > p1) = true then
          some (.d (.v (.int .i64 1)), [])
        else
          some (.d (.v (.int .i64 0)), [])) := by kernel_rfl
def slices_Clone_s_uint64_uint64.cf : Cf := { loops := [], ret := 2 }
theorem slices_Clone_s_uint64_uint64.eq (X : Orc) (k : Nat) (p0 : Rows) : runF P X slices_Clone_s_uint64_uint64.cf (k + 1) F.slices_Clone_s_uint64_uint64 [.d (.sl 0 1 p0)] [] = (
  onRoom (0 + p0.length) <|
  some (.hs 0 0 1 0 ((([]) ++ p0).length), [.arr 1 (([]) ++ p0)])) := by kernel_rfl
theorem slices_Clone_s_uint64_uint64.eq_nil (X : Orc) (k : Nat)  : runF P X slices_Clone_s_uint64_uint64.cf (k + 1) F.slices_Clone_s_uint64_uint64 [.d (.sl 2 1 ([]))] [] = (
  some (.d (.v (.slice none 0 0)), [])) := by kernel_rfl
def cmp_isNaN_uint64.cf : Cf := { loops := [] }
theorem cmp_isNaN_uint64.eq (X : Orc) (k : Nat) (p0 : Int) : runF P X cmp_isNaN_uint64.cf (k + 1) F.cmp_isNaN_uint64 [.d (.v (.int .u64 p0))] [] = (
  some (.d (.v (.bool (p0 != p0))), [])) := by kernel_rfl
end W
