/- What single functions do, as equations of the abstract machine; each is checked by the kernel. -/
import Derived.Test.YtcghhklbldcaoaaDoorGenN
open Go Go.Eng
set_option linter.unusedVariables false
namespace W
def law_EvalBetter.cf : Cf := { loops := [{ fid := 3, key := 3, live := [2, 7, 8, 29, 30, 31], vecs := [], cvecs := [], nb := 3, cs := [] }, { fid := 3, key := 6, live := [2, 7, 8, 10, 29, 30, 31, 37, 38, 39], vecs := [], cvecs := [], nb := 3, cs := [] }] }
noncomputable def law_EvalBetter.l3 (X : Orc) (k : Nat) (a2 : Rows) (a29 : Rows) (a30 : Int) (a31 : Int) (h0_0 : Int) (h0_1 : Int) (h0_2 : Rows) (h0_3 : Rows) (h0_4 : Int) (h0_5 : Rows) (h1_0 : Int) (h1_1 : Int) (h1_2 : Rows) (h1_3 : Rows) (h1_4 : Int) (h1_5 : Rows) (h2_0 : Int) (h2_1 : Int) (h2_2 : Rows) (h2_3 : Rows) (h2_4 : Int) (h2_5 : Rows) : Option Res := loopAt P X law_EvalBetter.cf k 3 Go.Proofs.Tryd.f3 3 [(2, .d (.sl 3 1 a2)), (7, .ptr 1 0), (8, .ptr 2 0), (29, .d (.sl 3 1 a29)), (30, .d (.v (.int .i64 a30))), (31, .d (.v (.int .i64 a31)))] [] [.cel [.d (.v (.int .i64 h0_0)), .d (.v (.int .i64 h0_1)), .d (.sl 3 2 h0_2), .d (.sl 3 1 h0_3), .d (.v (.int .i64 h0_4)), .d (.sl 3 2 h0_5)], .cel [.d (.v (.int .i64 h1_0)), .d (.v (.int .i64 h1_1)), .d (.sl 3 2 h1_2), .d (.sl 3 1 h1_3), .d (.v (.int .i64 h1_4)), .d (.sl 3 2 h1_5)], .cel [.d (.v (.int .i64 h2_0)), .d (.v (.int .i64 h2_1)), .d (.sl 3 2 h2_2), .d (.sl 3 1 h2_3), .d (.v (.int .i64 h2_4)), .d (.sl 3 2 h2_5)]]
noncomputable def law_EvalBetter.l6 (X : Orc) (k : Nat) (a2 : Rows) (a10 : Rows) (a29 : Rows) (a30 : Int) (a31 : Int) (a37 : Rows) (a38 : Int) (a39 : Int) (h0_0 : Int) (h0_1 : Int) (h0_2 : Rows) (h0_3 : Rows) (h0_4 : Int) (h0_5 : Rows) (h1_0 : Int) (h1_1 : Int) (h1_2 : Rows) (h1_3 : Rows) (h1_4 : Int) (h1_5 : Rows) (h2_0 : Int) (h2_1 : Int) (h2_2 : Rows) (h2_3 : Rows) (h2_4 : Int) (h2_5 : Rows) : Option Res := loopAt P X law_EvalBetter.cf k 3 Go.Proofs.Tryd.f3 6 [(2, .d (.sl 3 1 a2)), (7, .ptr 1 0), (8, .ptr 2 0), (10, .d (.sl 3 1 a10)), (29, .d (.sl 3 1 a29)), (30, .d (.v (.int .i64 a30))), (31, .d (.v (.int .i64 a31))), (37, .d (.sl 3 1 a37)), (38, .d (.v (.int .i64 a38))), (39, .d (.v (.int .i64 a39)))] [] [.cel [.d (.v (.int .i64 h0_0)), .d (.v (.int .i64 h0_1)), .d (.sl 3 2 h0_2), .d (.sl 3 1 h0_3), .d (.v (.int .i64 h0_4)), .d (.sl 3 2 h0_5)], .cel [.d (.v (.int .i64 h1_0)), .d (.v (.int .i64 h1_1)), .d (.sl 3 2 h1_2), .d (.sl 3 1 h1_3), .d (.v (.int .i64 h1_4)), .d (.sl 3 2 h1_5)], .cel [.d (.v (.int .i64 h2_0)), .d (.v (.int .i64 h2_1)), .d (.sl 3 2 h2_2), .d (.sl 3 1 h2_3), .d (.v (.int .i64 h2_4)), .d (.sl 3 2 h2_5)]]
theorem law_EvalBetter.l3_eq (X : Orc) (k : Nat) (a2 : Rows) (a29 : Rows) (a30 : Int) (a31 : Int) (h0_0 : Int) (h0_1 : Int) (h0_2 : Rows) (h0_3 : Rows) (h0_4 : Int) (h0_5 : Rows) (h1_0 : Int) (h1_1 : Int) (h1_2 : Rows) (h1_3 : Rows) (h1_4 : Int) (h1_5 : Rows) (h2_0 : Int) (h2_1 : Int) (h2_2 : Rows) (h2_3 : Rows) (h2_4 : Int) (h2_5 : Rows) : law_EvalBetter.l3 X (k + 1) a2 a29 a30 a31 h0_0 h0_1 h0_2 h0_3 h0_4 h0_5 h1_0 h1_1 h1_2 h1_3 h1_4 h1_5 h2_0 h2_1 h2_2 h2_3 h2_4 h2_5 = (
  if decide (a31 < a30) = true then
    onIx a31 a29.length fun i1 =>
    onRow a29 i1 fun w2 =>
    onCell w2 0 fun x3 =>
    onSl 1 x3 fun r4 =>
    onCall (X F.law_answers [.d (.sl 3 1 a2), .agg [.d (.v (.int .i64 h2_0)), .d (.v (.int .i64 h2_1)), .d (.sl 3 2 h2_2), .d (.sl 3 1 h2_3), .d (.v (.int .i64 h2_4)), .d (.sl 3 2 h2_5)]] []) fun z5 =>
    onSl 1 z5 fun r6 =>
    law_EvalBetter.l6 X k a2 r4 a29 a30 a31 r6 (r6.length : Int) 0 h0_0 h0_1 h0_2 h0_3 h0_4 h0_5 h1_0 h1_1 h1_2 h1_3 h1_4 h1_5 h2_0 h2_1 h2_2 h2_3 h2_4 h2_5
  else
    onCall (X F.law_wakes [] []) fun z7 =>
    onBool z7 fun b8 =>
    if b8 = true then
      onCall (X F.eval_Better [.d (.v (.int .i64 4)), .d (.v (.int .i64 1)), .d (.v (.int .i64 2))] []) fun z9 =>
      onBool z9 fun b10 =>
      if (!b10) = true then
        onCall (X F.eval_Better [.d (.v (.int .i64 (-1))), .d (.v (.int .i64 2)), .d (.v (.int .i64 1))] []) fun z11 =>
        onBool z11 fun b12 =>
        if (!b12) = true then
          onCall (X F.eval_Better [.d (.v (.int .i64 2)), .d (.v (.int .i64 (-1))), .d (.v (.int .i64 0))] []) fun z13 =>
          onBool z13 fun b14 =>
          some (.d (.v (.bool b14)), [])
        else
          some (.d (.v (.bool false)), [])
      else
        some (.d (.v (.bool false)), [])
    else
      some (.d (.v (.bool false)), [])) := by kernel_rfl
theorem law_EvalBetter.l6_eq (X : Orc) (k : Nat) (a2 : Rows) (a10 : Rows) (a29 : Rows) (a30 : Int) (a31 : Int) (a37 : Rows) (a38 : Int) (a39 : Int) (h0_0 : Int) (h0_1 : Int) (h0_2 : Rows) (h0_3 : Rows) (h0_4 : Int) (h0_5 : Rows) (h1_0 : Int) (h1_1 : Int) (h1_2 : Rows) (h1_3 : Rows) (h1_4 : Int) (h1_5 : Rows) (h2_0 : Int) (h2_1 : Int) (h2_2 : Rows) (h2_3 : Rows) (h2_4 : Int) (h2_5 : Rows) : law_EvalBetter.l6 X (k + 1) a2 a10 a29 a30 a31 a37 a38 a39 h0_0 h0_1 h0_2 h0_3 h0_4 h0_5 h1_0 h1_1 h1_2 h1_3 h1_4 h1_5 h2_0 h2_1 h2_2 h2_3 h2_4 h2_5 = (
  if decide (a39 < a38) = true then
    onIx a39 a37.length fun i1 =>
    onRow a37 i1 fun w2 =>
    onCell w2 0 fun x3 =>
    onSl 1 x3 fun r4 =>
    onCall (X F.eval_Value [.agg [.d (.v (.int .i64 h1_0)), .d (.v (.int .i64 h1_1)), .d (.sl 3 2 h1_2), .d (.sl 3 1 h1_3), .d (.v (.int .i64 h1_4)), .d (.sl 3 2 h1_5)], .d (.sl 3 1 a10)] []) fun z5 =>
    onTup 2 z5 fun u6 =>
    onCell u6 0 fun x7 =>
    onInt .i64 x7 fun n8 =>
    onCell u6 1 fun x9 =>
    onInt .i64 x9 fun n10 =>
    onCall (X F.eval_Value [.agg [.d (.v (.int .i64 h1_0)), .d (.v (.int .i64 h1_1)), .d (.sl 3 2 h1_2), .d (.sl 3 1 h1_3), .d (.v (.int .i64 h1_4)), .d (.sl 3 2 h1_5)], .d (.sl 3 1 r4)] []) fun z11 =>
    onTup 2 z11 fun u12 =>
    onCell u12 0 fun x13 =>
    onInt .i64 x13 fun n14 =>
    onCell u12 1 fun x15 =>
    onInt .i64 x15 fun n16 =>
    onCall (X F.eval_Cost [.agg [.d (.v (.int .i64 h1_0)), .d (.v (.int .i64 h1_1)), .d (.sl 3 2 h1_2), .d (.sl 3 1 h1_3), .d (.v (.int .i64 h1_4)), .d (.sl 3 2 h1_5)], .d (.sl 3 1 a10)] []) fun z17 =>
    onTup 2 z17 fun u18 =>
    onCell u18 0 fun x19 =>
    onInt .i64 x19 fun n20 =>
    onCell u18 1 fun x21 =>
    onInt .i64 x21 fun n22 =>
    onCall (X F.eval_Cost [.agg [.d (.v (.int .i64 h1_0)), .d (.v (.int .i64 h1_1)), .d (.sl 3 2 h1_2), .d (.sl 3 1 h1_3), .d (.v (.int .i64 h1_4)), .d (.sl 3 2 h1_5)], .d (.sl 3 1 r4)] []) fun z23 =>
    onTup 2 z23 fun u24 =>
    onCell u24 0 fun x25 =>
    onInt .i64 x25 fun n26 =>
    onCell u24 1 fun x27 =>
    onInt .i64 x27 fun n28 =>
    if (n10 != n22) = true then
      some (.d (.v (.bool false)), [])
    else
      if (n16 != n28) = true then
        some (.d (.v (.bool false)), [])
      else
        if (n10 == 0) = true then
          if (n16 == 0) = true then
            onCall (X F.eval_Better [.d (.v (.int .i64 h1_0)), .d (.v (.int .i64 n8)), .d (.v (.int .i64 n14))] []) fun z29 =>
            onBool z29 fun b30 =>
            if (!(b30 == (decide (n20 < n26)))) = true then
              some (.d (.v (.bool false)), [])
            else
              law_EvalBetter.l6 X k a2 a10 a29 a30 a31 a37 a38 (IntKind.i64.wrap (a39 + 1)) h0_0 h0_1 h0_2 h0_3 h0_4 h0_5 h1_0 h1_1 h1_2 h1_3 h1_4 h1_5 h2_0 h2_1 h2_2 h2_3 h2_4 h2_5
          else
            law_EvalBetter.l6 X k a2 a10 a29 a30 a31 a37 a38 (IntKind.i64.wrap (a39 + 1)) h0_0 h0_1 h0_2 h0_3 h0_4 h0_5 h1_0 h1_1 h1_2 h1_3 h1_4 h1_5 h2_0 h2_1 h2_2 h2_3 h2_4 h2_5
        else
          law_EvalBetter.l6 X k a2 a10 a29 a30 a31 a37 a38 (IntKind.i64.wrap (a39 + 1)) h0_0 h0_1 h0_2 h0_3 h0_4 h0_5 h1_0 h1_1 h1_2 h1_3 h1_4 h1_5 h2_0 h2_1 h2_2 h2_3 h2_4 h2_5
  else
    law_EvalBetter.l3 X k a2 a29 a30 (IntKind.i64.wrap (a31 + 1)) h0_0 h0_1 h0_2 h0_3 h0_4 h0_5 h1_0 h1_1 h1_2 h1_3 h1_4 h1_5 h2_0 h2_1 h2_2 h2_3 h2_4 h2_5) := by kernel_rfl
theorem law_EvalBetter.eq (X : Orc) (k : Nat) (p0_0 : Int) (p0_1 : Int) (p0_2 : Rows) (p0_3 : Rows) (p0_4 : Int) (p0_5 : Rows) (p1 : Rows) (p2 : Rows) : runF P X law_EvalBetter.cf (k + 1) F.law_EvalBetter [.agg [.d (.v (.int .i64 p0_0)), .d (.v (.int .i64 p0_1)), .d (.sl 3 2 p0_2), .d (.sl 3 1 p0_3), .d (.v (.int .i64 p0_4)), .d (.sl 3 2 p0_5)], .d (.sl 3 1 p1), .d (.sl 3 1 p2)] [] = (
  onCall (X F.law_tame [.agg [.d (.v (.int .i64 p0_0)), .d (.v (.int .i64 p0_1)), .d (.sl 3 2 p0_2), .d (.sl 3 1 p0_3), .d (.v (.int .i64 p0_4)), .d (.sl 3 2 p0_5)], .d (.v (.int .i64 9))] []) fun z1 =>
  onAgg 6 z1 fun c2 =>
  onCell c2 0 fun x3 =>
  onInt .i64 x3 fun n4 =>
  onCell c2 1 fun x5 =>
  onInt .i64 x5 fun n6 =>
  onCell c2 2 fun x7 =>
  onSl 2 x7 fun r8 =>
  onCell c2 3 fun x9 =>
  onSl 1 x9 fun r10 =>
  onCell c2 4 fun x11 =>
  onInt .i64 x11 fun n12 =>
  onCell c2 5 fun x13 =>
  onSl 2 x13 fun r14 =>
  onCall (X F.law_insts [.agg [.d (.v (.int .i64 n4)), .d (.v (.int .i64 n6)), .d (.sl 3 2 r8), .d (.sl 3 1 r10), .d (.v (.int .i64 n12)), .d (.sl 3 2 r14)]] []) fun z15 =>
  onTup 2 z15 fun u16 =>
  onCell u16 0 fun x17 =>
  onAgg 6 x17 fun c18 =>
  onCell c18 0 fun x19 =>
  onInt .i64 x19 fun n20 =>
  onCell c18 1 fun x21 =>
  onInt .i64 x21 fun n22 =>
  onCell c18 2 fun x23 =>
  onSl 2 x23 fun r24 =>
  onCell c18 3 fun x25 =>
  onSl 1 x25 fun r26 =>
  onCell c18 4 fun x27 =>
  onInt .i64 x27 fun n28 =>
  onCell c18 5 fun x29 =>
  onSl 2 x29 fun r30 =>
  onCell u16 1 fun x31 =>
  onAgg 6 x31 fun c32 =>
  onCell c32 0 fun x33 =>
  onInt .i64 x33 fun n34 =>
  onCell c32 1 fun x35 =>
  onInt .i64 x35 fun n36 =>
  onCell c32 2 fun x37 =>
  onSl 2 x37 fun r38 =>
  onCell c32 3 fun x39 =>
  onSl 1 x39 fun r40 =>
  onCell c32 4 fun x41 =>
  onInt .i64 x41 fun n42 =>
  onCell c32 5 fun x43 =>
  onSl 2 x43 fun r44 =>
  onCall (X F.law_answers [.d (.sl 3 1 p1), .agg [.d (.v (.int .i64 n34)), .d (.v (.int .i64 n36)), .d (.sl 3 2 r38), .d (.sl 3 1 r40), .d (.v (.int .i64 n42)), .d (.sl 3 2 r44)]] []) fun z45 =>
  onSl 1 z45 fun r46 =>
  law_EvalBetter.l3 X k p2 r46 (r46.length : Int) 0 p0_0 p0_1 p0_2 p0_3 p0_4 p0_5 n20 n22 r24 r26 n28 r30 n34 n36 r38 r40 n42 r44) := by kernel_rfl
def law_EvalAnswers.cf : Cf := { loops := [{ fid := 4, key := 2, live := [1, 22, 23, 24], vecs := [], cvecs := [], nb := 7, cs := [] }, { fid := 4, key := 6, live := [1, 7, 8, 22, 23, 24, 35, 36, 37], vecs := [], cvecs := [], nb := 10, cs := [] }] }
noncomputable def law_EvalAnswers.l2 (X : Orc) (k : Nat) (a1 : Rows) (a22f : Nat) (a22 : Rows) (a23 : Int) (a24 : Int) (h0_0 : Int) (h0_1 : Int) (h0_2 : Rows) (h0_3 : Rows) (h0_4 : Int) (h0_5 : Rows) : Option Res := loopAt P X law_EvalAnswers.cf k 4 Go.Proofs.Tryd.f4 2 [(1, .d (.sl 3 1 a1)), (22, .d (.sl a22f 6 a22)), (23, .d (.v (.int .i64 a23))), (24, .d (.v (.int .i64 a24)))] [] [.cel [.d (.v (.int .i64 h0_0)), .d (.v (.int .i64 h0_1)), .d (.sl 3 2 h0_2), .d (.sl 3 1 h0_3), .d (.v (.int .i64 h0_4)), .d (.sl 3 2 h0_5)], .gone, .gone, .gone, .gone, .gone, .gone]
noncomputable def law_EvalAnswers.l6 (X : Orc) (k : Nat) (a1 : Rows) (a22f : Nat) (a22 : Rows) (a23 : Int) (a24 : Int) (a35 : Rows) (a36 : Int) (a37 : Int) (h0_0 : Int) (h0_1 : Int) (h0_2 : Rows) (h0_3 : Rows) (h0_4 : Int) (h0_5 : Rows) (h7_0 : Int) (h7_1 : Int) (h7_2 : Rows) (h7_3 : Rows) (h7_4 : Int) (h7_5 : Rows) (h8_0 : Int) (h8_1 : Int) (h8_2 : Rows) (h8_3 : Rows) (h8_4 : Int) (h8_5 : Rows) (h9_0 : Int) (h9_1 : Int) (h9_2 : Rows) (h9_3 : Rows) (h9_4 : Int) (h9_5 : Rows) : Option Res := loopAt P X law_EvalAnswers.cf k 4 Go.Proofs.Tryd.f4 6 [(1, .d (.sl 3 1 a1)), (7, .ptr 8 0), (8, .ptr 9 0), (22, .d (.sl a22f 6 a22)), (23, .d (.v (.int .i64 a23))), (24, .d (.v (.int .i64 a24))), (35, .d (.sl 3 1 a35)), (36, .d (.v (.int .i64 a36))), (37, .d (.v (.int .i64 a37)))] [] [.cel [.d (.v (.int .i64 h0_0)), .d (.v (.int .i64 h0_1)), .d (.sl 3 2 h0_2), .d (.sl 3 1 h0_3), .d (.v (.int .i64 h0_4)), .d (.sl 3 2 h0_5)], .gone, .gone, .gone, .gone, .gone, .gone, .cel [.d (.v (.int .i64 h7_0)), .d (.v (.int .i64 h7_1)), .d (.sl 3 2 h7_2), .d (.sl 3 1 h7_3), .d (.v (.int .i64 h7_4)), .d (.sl 3 2 h7_5)], .cel [.d (.v (.int .i64 h8_0)), .d (.v (.int .i64 h8_1)), .d (.sl 3 2 h8_2), .d (.sl 3 1 h8_3), .d (.v (.int .i64 h8_4)), .d (.sl 3 2 h8_5)], .cel [.d (.v (.int .i64 h9_0)), .d (.v (.int .i64 h9_1)), .d (.sl 3 2 h9_2), .d (.sl 3 1 h9_3), .d (.v (.int .i64 h9_4)), .d (.sl 3 2 h9_5)]]
theorem law_EvalAnswers.l2_eq (X : Orc) (k : Nat) (a1 : Rows) (a22f : Nat) (a22 : Rows) (a23 : Int) (a24 : Int) (h0_0 : Int) (h0_1 : Int) (h0_2 : Rows) (h0_3 : Rows) (h0_4 : Int) (h0_5 : Rows) : law_EvalAnswers.l2 X (k + 1) a1 a22f a22 a23 a24 h0_0 h0_1 h0_2 h0_3 h0_4 h0_5 = (
  if decide (a24 < a23) = true then
    onIx a24 a22.length fun i1 =>
    onRow a22 i1 fun w2 =>
    onCell w2 0 fun x3 =>
    onInt .i64 x3 fun n4 =>
    onCell w2 1 fun x5 =>
    onInt .i64 x5 fun n6 =>
    onCell w2 2 fun x7 =>
    onSl 2 x7 fun r8 =>
    onCell w2 3 fun x9 =>
    onSl 1 x9 fun r10 =>
    onCell w2 4 fun x11 =>
    onInt .i64 x11 fun n12 =>
    onCell w2 5 fun x13 =>
    onSl 2 x13 fun r14 =>
    onCall (X F.law_insts [.agg [.d (.v (.int .i64 n4)), .d (.v (.int .i64 n6)), .d (.sl 3 2 r8), .d (.sl 3 1 r10), .d (.v (.int .i64 n12)), .d (.sl 3 2 r14)]] []) fun z15 =>
    onTup 2 z15 fun u16 =>
    onCell u16 0 fun x17 =>
    onAgg 6 x17 fun c18 =>
    onCell c18 0 fun x19 =>
    onInt .i64 x19 fun n20 =>
    onCell c18 1 fun x21 =>
    onInt .i64 x21 fun n22 =>
    onCell c18 2 fun x23 =>
    onSl 2 x23 fun r24 =>
    onCell c18 3 fun x25 =>
    onSl 1 x25 fun r26 =>
    onCell c18 4 fun x27 =>
    onInt .i64 x27 fun n28 =>
    onCell c18 5 fun x29 =>
    onSl 2 x29 fun r30 =>
    onCell u16 1 fun x31 =>
    onAgg 6 x31 fun c32 =>
    onCell c32 0 fun x33 =>
    onInt .i64 x33 fun n34 =>
    onCell c32 1 fun x35 =>
    onInt .i64 x35 fun n36 =>
    onCell c32 2 fun x37 =>
    onSl 2 x37 fun r38 =>
    onCell c32 3 fun x39 =>
    onSl 1 x39 fun r40 =>
    onCell c32 4 fun x41 =>
    onInt .i64 x41 fun n42 =>
    onCell c32 5 fun x43 =>
    onSl 2 x43 fun r44 =>
    onCall (X F.law_answers [.d (.sl 3 1 a1), .agg [.d (.v (.int .i64 n34)), .d (.v (.int .i64 n36)), .d (.sl 3 2 r38), .d (.sl 3 1 r40), .d (.v (.int .i64 n42)), .d (.sl 3 2 r44)]] []) fun z45 =>
    onSl 1 z45 fun r46 =>
    law_EvalAnswers.l6 X k a1 a22f a22 a23 a24 r46 (r46.length : Int) 0 h0_0 h0_1 h0_2 h0_3 h0_4 h0_5 n4 n6 r8 r10 n12 r14 n20 n22 r24 r26 n28 r30 n34 n36 r38 r40 n42 r44
  else
    onCall (X F.law_wakes [] []) fun z47 =>
    onBool z47 fun b48 =>
    some (.d (.v (.bool b48)), [])) := by kernel_rfl
theorem law_EvalAnswers.l6_eq (X : Orc) (k : Nat) (a1 : Rows) (a22f : Nat) (a22 : Rows) (a23 : Int) (a24 : Int) (a35 : Rows) (a36 : Int) (a37 : Int) (h0_0 : Int) (h0_1 : Int) (h0_2 : Rows) (h0_3 : Rows) (h0_4 : Int) (h0_5 : Rows) (h7_0 : Int) (h7_1 : Int) (h7_2 : Rows) (h7_3 : Rows) (h7_4 : Int) (h7_5 : Rows) (h8_0 : Int) (h8_1 : Int) (h8_2 : Rows) (h8_3 : Rows) (h8_4 : Int) (h8_5 : Rows) (h9_0 : Int) (h9_1 : Int) (h9_2 : Rows) (h9_3 : Rows) (h9_4 : Int) (h9_5 : Rows) : law_EvalAnswers.l6 X (k + 1) a1 a22f a22 a23 a24 a35 a36 a37 h0_0 h0_1 h0_2 h0_3 h0_4 h0_5 h7_0 h7_1 h7_2 h7_3 h7_4 h7_5 h8_0 h8_1 h8_2 h8_3 h8_4 h8_5 h9_0 h9_1 h9_2 h9_3 h9_4 h9_5 = (
  if decide (a37 < a36) = true then
    onIx a37 a35.length fun i1 =>
    onRow a35 i1 fun w2 =>
    onCell w2 0 fun x3 =>
    onSl 1 x3 fun r4 =>
    onCall (X F.eval_Value [.agg [.d (.v (.int .i64 h8_0)), .d (.v (.int .i64 h8_1)), .d (.sl 3 2 h8_2), .d (.sl 3 1 h8_3), .d (.v (.int .i64 h8_4)), .d (.sl 3 2 h8_5)], .d (.sl 3 1 r4)] []) fun z5 =>
    onTup 2 z5 fun u6 =>
    onCell u6 0 fun x7 =>
    onInt .i64 x7 fun n8 =>
    onCell u6 1 fun x9 =>
    onInt .i64 x9 fun n10 =>
    onCall (X F.ref12_Value [.agg [.d (.v (.int .i64 h9_0)), .d (.v (.int .i64 h9_1)), .d (.sl 3 2 h9_2), .d (.sl 3 1 h9_3), .d (.v (.int .i64 h9_4)), .d (.sl 3 2 h9_5)], .d (.sl 3 1 r4)] []) fun z11 =>
    onTup 2 z11 fun u12 =>
    onCell u12 0 fun x13 =>
    onInt .i64 x13 fun n14 =>
    onCell u12 1 fun x15 =>
    onInt .i64 x15 fun n16 =>
    onCall (X F.eval_Cost [.agg [.d (.v (.int .i64 h8_0)), .d (.v (.int .i64 h8_1)), .d (.sl 3 2 h8_2), .d (.sl 3 1 h8_3), .d (.v (.int .i64 h8_4)), .d (.sl 3 2 h8_5)], .d (.sl 3 1 r4)] []) fun z17 =>
    onTup 2 z17 fun u18 =>
    onCell u18 0 fun x19 =>
    onInt .i64 x19 fun n20 =>
    onCell u18 1 fun x21 =>
    onInt .i64 x21 fun n22 =>
    onCall (X F.ref12_Cost [.agg [.d (.v (.int .i64 h9_0)), .d (.v (.int .i64 h9_1)), .d (.sl 3 2 h9_2), .d (.sl 3 1 h9_3), .d (.v (.int .i64 h9_4)), .d (.sl 3 2 h9_5)], .d (.sl 3 1 r4)] []) fun z23 =>
    onTup 2 z23 fun u24 =>
    onCell u24 0 fun x25 =>
    onInt .i64 x25 fun n26 =>
    onCell u24 1 fun x27 =>
    onInt .i64 x27 fun n28 =>
    onCall (X F.eval_Feasible [.agg [.d (.v (.int .i64 h8_0)), .d (.v (.int .i64 h8_1)), .d (.sl 3 2 h8_2), .d (.sl 3 1 h8_3), .d (.v (.int .i64 h8_4)), .d (.sl 3 2 h8_5)], .d (.sl 3 1 r4)] []) fun z29 =>
    onBool z29 fun b30 =>
    onCall (X F.ref12_Feasible [.agg [.d (.v (.int .i64 h9_0)), .d (.v (.int .i64 h9_1)), .d (.sl 3 2 h9_2), .d (.sl 3 1 h9_3), .d (.v (.int .i64 h9_4)), .d (.sl 3 2 h9_5)], .d (.sl 3 1 r4)] []) fun z31 =>
    onBool z31 fun b32 =>
    if (!(b30 == b32)) = true then
      some (.d (.v (.bool false)), [])
    else
      if (n8 != n14) = true then
        some (.d (.v (.bool false)), [])
      else
        if (n10 != n16) = true then
          some (.d (.v (.bool false)), [])
        else
          if (n20 != n26) = true then
            some (.d (.v (.bool false)), [])
          else
            if (n22 != n28) = true then
              some (.d (.v (.bool false)), [])
            else
              law_EvalAnswers.l6 X k a1 a22f a22 a23 a24 a35 a36 (IntKind.i64.wrap (a37 + 1)) h0_0 h0_1 h0_2 h0_3 h0_4 h0_5 h7_0 h7_1 h7_2 h7_3 h7_4 h7_5 h8_0 h8_1 h8_2 h8_3 h8_4 h8_5 h9_0 h9_1 h9_2 h9_3 h9_4 h9_5
  else
    law_EvalAnswers.l2 X k a1 a22f a22 a23 (IntKind.i64.wrap (a24 + 1)) h0_0 h0_1 h0_2 h0_3 h0_4 h0_5) := by kernel_rfl
theorem law_EvalAnswers.eq (X : Orc) (k : Nat) (p0_0 : Int) (p0_1 : Int) (p0_2 : Rows) (p0_3 : Rows) (p0_4 : Int) (p0_5 : Rows) (p1 : Rows) : runF P X law_EvalAnswers.cf (k + 1) F.law_EvalAnswers [.agg [.d (.v (.int .i64 p0_0)), .d (.v (.int .i64 p0_1)), .d (.sl 3 2 p0_2), .d (.sl 3 1 p0_3), .d (.v (.int .i64 p0_4)), .d (.sl 3 2 p0_5)], .d (.sl 3 1 p1)] [] = (
  onCall (X F.law_tame [.agg [.d (.v (.int .i64 p0_0)), .d (.v (.int .i64 p0_1)), .d (.sl 3 2 p0_2), .d (.sl 3 1 p0_3), .d (.v (.int .i64 p0_4)), .d (.sl 3 2 p0_5)], .d (.v (.int .i64 9))] []) fun z1 =>
  onAgg 6 z1 fun c2 =>
  onCell c2 0 fun x3 =>
  onInt .i64 x3 fun n4 =>
  onCell c2 1 fun x5 =>
  onInt .i64 x5 fun n6 =>
  onCell c2 2 fun x7 =>
  onSl 2 x7 fun r8 =>
  onCell c2 3 fun x9 =>
  onSl 1 x9 fun r10 =>
  onCell c2 4 fun x11 =>
  onInt .i64 x11 fun n12 =>
  onCell c2 5 fun x13 =>
  onSl 2 x13 fun r14 =>
  law_EvalAnswers.l2 X k p1 0 ([[.v (.int .i64 p0_0), .v (.int .i64 p0_1), .sl 3 2 p0_2, .sl 3 1 p0_3, .v (.int .i64 p0_4), .sl 3 2 p0_5], [.v (.int .i64 n4), .v (.int .i64 n6), .sl 3 2 r8, .sl 3 1 r10, .v (.int .i64 n12), .sl 3 2 r14]]) 2 0 p0_0 p0_1 p0_2 p0_3 p0_4 p0_5) := by kernel_rfl
def law_insts.cf : Cf := { loops := [{ fid := 5, key := 4, live := [1, 2, 3, 4, 5, 33, 34, 35], vecs := [], cvecs := [(3, 2, 2), (4, 2, 2)], nb := 7, cs := [] }, { fid := 5, key := 9, live := [1, 2, 3, 4, 5, 62, 63, 64], vecs := [], cvecs := [(3, 3, 1), (4, 3, 1)], nb := 9, cs := [] }, { fid := 5, key := 15, live := [2, 3, 4, 5, 94, 95, 96], vecs := [], cvecs := [(3, 5, 2), (4, 5, 2)], nb := 11, cs := [] }] }
noncomputable def law_insts.l4 (X : Orc) (k : Nat) (a33 : Rows) (a34 : Int) (a35 : Int) (h0_0 : Int) (h0_1 : Int) (h0_2 : Rows) (h0_3 : Rows) (h0_4 : Int) (h0_5 : Rows) (h1_0 : Int) (h1_1 : Int) (h1_4 : Int) (h2_0 : Int) (h2_1 : Int) (h2_4 : Int) (h3_0 : Int) (h3_1 : Int) (h3_4 : Int) (h4_0 : Int) (h4_1 : Int) (h4_4 : Int) (H5 : Rows) (H6 : Rows) : Option Res := loopAt P X law_insts.cf k 5 Go.Proofs.Tryd.f5 4 [(1, .ptr 0 0), (2, .ptr 1 0), (3, .ptr 2 0), (4, .ptr 3 0), (5, .ptr 4 0), (33, .d (.sl 3 2 a33)), (34, .d (.v (.int .i64 a34))), (35, .d (.v (.int .i64 a35)))] [] [.cel [.d (.v (.int .i64 h0_0)), .d (.v (.int .i64 h0_1)), .d (.sl 3 2 h0_2), .d (.sl 3 1 h0_3), .d (.v (.int .i64 h0_4)), .d (.sl 3 2 h0_5)], .cel [.d (.v (.int .i64 h1_0)), .d (.v (.int .i64 h1_1)), .d (.v (.slice none 0 0)), .d (.v (.slice none 0 0)), .d (.v (.int .i64 h1_4)), .d (.v (.slice none 0 0))], .cel [.d (.v (.int .i64 h2_0)), .d (.v (.int .i64 h2_1)), .d (.v (.slice none 0 0)), .d (.v (.slice none 0 0)), .d (.v (.int .i64 h2_4)), .d (.v (.slice none 0 0))], .cel [.d (.v (.int .i64 h3_0)), .d (.v (.int .i64 h3_1)), .vh 5 0 2 H5.length, .d (.v (.slice none 0 0)), .d (.v (.int .i64 h3_4)), .d (.v (.slice none 0 0))], .cel [.d (.v (.int .i64 h4_0)), .d (.v (.int .i64 h4_1)), .vh 6 0 2 H6.length, .d (.v (.slice none 0 0)), .d (.v (.int .i64 h4_4)), .d (.v (.slice none 0 0))], .vec 2 0 H5, .vec 2 0 H6]
noncomputable def law_insts.l9 (X : Orc) (k : Nat) (a62 : Rows) (a63 : Int) (a64 : Int) (h0_0 : Int) (h0_1 : Int) (h0_2 : Rows) (h0_3 : Rows) (h0_4 : Int) (h0_5 : Rows) (h1_0 : Int) (h1_1 : Int) (h1_4 : Int) (h2_0 : Int) (h2_1 : Int) (h2_4 : Int) (h3_0 : Int) (h3_1 : Int) (h3_4 : Int) (h4_0 : Int) (h4_1 : Int) (h4_4 : Int) (H5 : Rows) (H6 : Rows) (H7 : Rows) (H8 : Rows) : Option Res := loopAt P X law_insts.cf k 5 Go.Proofs.Tryd.f5 9 [(1, .ptr 0 0), (2, .ptr 1 0), (3, .ptr 2 0), (4, .ptr 3 0), (5, .ptr 4 0), (62, .d (.sl 3 1 a62)), (63, .d (.v (.int .i64 a63))), (64, .d (.v (.int .i64 a64)))] [] [.cel [.d (.v (.int .i64 h0_0)), .d (.v (.int .i64 h0_1)), .d (.sl 3 2 h0_2), .d (.sl 3 1 h0_3), .d (.v (.int .i64 h0_4)), .d (.sl 3 2 h0_5)], .cel [.d (.v (.int .i64 h1_0)), .d (.v (.int .i64 h1_1)), .d (.v (.slice none 0 0)), .d (.v (.slice none 0 0)), .d (.v (.int .i64 h1_4)), .d (.v (.slice none 0 0))], .cel [.d (.v (.int .i64 h2_0)), .d (.v (.int .i64 h2_1)), .d (.v (.slice none 0 0)), .d (.v (.slice none 0 0)), .d (.v (.int .i64 h2_4)), .d (.v (.slice none 0 0))], .cel [.d (.v (.int .i64 h3_0)), .d (.v (.int .i64 h3_1)), .vh 5 0 2 H5.length, .vh 7 0 1 H7.length, .d (.v (.int .i64 h3_4)), .d (.v (.slice none 0 0))], .cel [.d (.v (.int .i64 h4_0)), .d (.v (.int .i64 h4_1)), .vh 6 0 2 H6.length, .vh 8 0 1 H8.length, .d (.v (.int .i64 h4_4)), .d (.v (.slice none 0 0))], .vec 2 0 H5, .vec 2 0 H6, .vec 1 0 H7, .vec 1 0 H8]
noncomputable def law_insts.l15 (X : Orc) (k : Nat) (a94 : Rows) (a95 : Int) (a96 : Int) (h0_0 : Int) (h0_1 : Int) (h0_2 : Rows) (h0_3 : Rows) (h0_4 : Int) (h0_5 : Rows) (h1_0 : Int) (h1_1 : Int) (h1_4 : Int) (h2_0 : Int) (h2_1 : Int) (h2_4 : Int) (h3_0 : Int) (h3_1 : Int) (h3_4 : Int) (h4_0 : Int) (h4_1 : Int) (h4_4 : Int) (H5 : Rows) (H6 : Rows) (H7 : Rows) (H8 : Rows) (H9 : Rows) (H10 : Rows) : Option Res := loopAt P X law_insts.cf k 5 Go.Proofs.Tryd.f5 15 [(2, .ptr 1 0), (3, .ptr 2 0), (4, .ptr 3 0), (5, .ptr 4 0), (94, .d (.sl 3 2 a94)), (95, .d (.v (.int .i64 a95))), (96, .d (.v (.int .i64 a96)))] [] [.cel [.d (.v (.int .i64 h0_0)), .d (.v (.int .i64 h0_1)), .d (.sl 3 2 h0_2), .d (.sl 3 1 h0_3), .d (.v (.int .i64 h0_4)), .d (.sl 3 2 h0_5)], .cel [.d (.v (.int .i64 h1_0)), .d (.v (.int .i64 h1_1)), .d (.v (.slice none 0 0)), .d (.v (.slice none 0 0)), .d (.v (.int .i64 h1_4)), .d (.v (.slice none 0 0))], .cel [.d (.v (.int .i64 h2_0)), .d (.v (.int .i64 h2_1)), .d (.v (.slice none 0 0)), .d (.v (.slice none 0 0)), .d (.v (.int .i64 h2_4)), .d (.v (.slice none 0 0))], .cel [.d (.v (.int .i64 h3_0)), .d (.v (.int .i64 h3_1)), .vh 5 0 2 H5.length, .vh 7 0 1 H7.length, .d (.v (.int .i64 h3_4)), .vh 9 0 2 H9.length], .cel [.d (.v (.int .i64 h4_0)), .d (.v (.int .i64 h4_1)), .vh 6 0 2 H6.length, .vh 8 0 1 H8.length, .d (.v (.int .i64 h4_4)), .vh 10 0 2 H10.length], .vec 2 0 H5, .vec 2 0 H6, .vec 1 0 H7, .vec 1 0 H8, .vec 2 0 H9, .vec 2 0 H10]
theorem law_insts.l4_eq (X : Orc) (k : Nat) (a33 : Rows) (a34 : Int) (a35 : Int) (h0_0 : Int) (h0_1 : Int) (h0_2 : Rows) (h0_3 : Rows) (h0_4 : Int) (h0_5 : Rows) (h1_0 : Int) (h1_1 : Int) (h1_4 : Int) (h2_0 : Int) (h2_1 : Int) (h2_4 : Int) (h3_0 : Int) (h3_1 : Int) (h3_4 : Int) (h4_0 : Int) (h4_1 : Int) (h4_4 : Int) (H5 : Rows) (H6 : Rows) : law_insts.l4 X (k + 1) a33 a34 a35 h0_0 h0_1 h0_2 h0_3 h0_4 h0_5 h1_0 h1_1 h1_4 h2_0 h2_1 h2_4 h3_0 h3_1 h3_4 h4_0 h4_1 h4_4 H5 H6 = (
  if decide (a35 < a34) = true then
    onIx a35 a33.length fun i1 =>
    onRow a33 i1 fun w2 =>
    onCell w2 0 fun x3 =>
    onInt .i64 x3 fun n4 =>
    onCell w2 1 fun x5 =>
    onInt .i64 x5 fun n6 =>
    onRoom (H5.length + 1) <|
    onRoom (H6.length + 1) <|
    law_insts.l4 X k a33 a34 (IntKind.i64.wrap (a35 + 1)) h0_0 h0_1 h0_2 h0_3 h0_4 h0_5 h1_0 h1_1 h1_4 h2_0 h2_1 h2_4 h3_0 h3_1 h3_4 h4_0 h4_1 h4_4 (H5 ++ ([[.v (.int .i64 n4), .v (.int .i64 n6)]])) (H6 ++ ([[.v (.int .i64 n4), .v (.int .i64 n6)]]))
  else
    onIx (if 70 < (h0_3.length : Int) then 70 else (h0_3.length : Int)) (h0_3.length + 1) fun i7 =>
    law_insts.l9 X k ((h0_3.take i7).drop 0) (((h0_3.take i7).drop 0).length : Int) 0 h0_0 h0_1 h0_2 h0_3 h0_4 h0_5 h1_0 h1_1 h1_4 h2_0 h2_1 h2_4 h3_0 h3_1 h3_4 h4_0 h4_1 h4_4 H5 H6 ([]) ([])) := by kernel_rfl
theorem law_insts.l9_eq (X : Orc) (k : Nat) (a62 : Rows) (a63 : Int) (a64 : Int) (h0_0 : Int) (h0_1 : Int) (h0_2 : Rows) (h0_3 : Rows) (h0_4 : Int) (h0_5 : Rows) (h1_0 : Int) (h1_1 : Int) (h1_4 : Int) (h2_0 : Int) (h2_1 : Int) (h2_4 : Int) (h3_0 : Int) (h3_1 : Int) (h3_4 : Int) (h4_0 : Int) (h4_1 : Int) (h4_4 : Int) (H5 : Rows) (H6 : Rows) (H7 : Rows) (H8 : Rows) : law_insts.l9 X (k + 1) a62 a63 a64 h0_0 h0_1 h0_2 h0_3 h0_4 h0_5 h1_0 h1_1 h1_4 h2_0 h2_1 h2_4 h3_0 h3_1 h3_4 h4_0 h4_1 h4_4 H5 H6 H7 H8 = (
  if decide (a64 < a63) = true then
    onIx a64 a62.length fun i1 =>
    onRow a62 i1 fun w2 =>
    onCell w2 0 fun x3 =>
    onSl 1 x3 fun r4 =>
    onIx (if 70 < (r4.length : Int) then 70 else (r4.length : Int)) (r4.length + 1) fun i5 =>
    onRoom (((r4.take i5).drop 0).length) <|
    onRoom (H7.length + 1) <|
    onRoom (((r4.take i5).drop 0).length) <|
    onRoom (H8.length + 1) <|
    law_insts.l9 X k a62 a63 (IntKind.i64.wrap (a64 + 1)) h0_0 h0_1 h0_2 h0_3 h0_4 h0_5 h1_0 h1_1 h1_4 h2_0 h2_1 h2_4 h3_0 h3_1 h3_4 h4_0 h4_1 h4_4 H5 H6 (H7 ++ ([[.sl 3 1 ((r4.take i5).drop 0)]])) (H8 ++ ([[.sl 3 1 ((r4.take i5).drop 0)]]))
  else
    onIx (if 40 < (h0_5.length : Int) then 40 else (h0_5.length : Int)) (h0_5.length + 1) fun i6 =>
    law_insts.l15 X k ((h0_5.take i6).drop 0) (((h0_5.take i6).drop 0).length : Int) 0 h0_0 h0_1 h0_2 h0_3 h0_4 h0_5 h1_0 h1_1 h1_4 h2_0 h2_1 h2_4 h3_0 h3_1 h3_4 h4_0 h4_1 h4_4 H5 H6 H7 H8 ([]) ([])) := by kernel_rfl
theorem law_insts.l15_eq (X : Orc) (k : Nat) (a94 : Rows) (a95 : Int) (a96 : Int) (h0_0 : Int) (h0_1 : Int) (h0_2 : Rows) (h0_3 : Rows) (h0_4 : Int) (h0_5 : Rows) (h1_0 : Int) (h1_1 : Int) (h1_4 : Int) (h2_0 : Int) (h2_1 : Int) (h2_4 : Int) (h3_0 : Int) (h3_1 : Int) (h3_4 : Int) (h4_0 : Int) (h4_1 : Int) (h4_4 : Int) (H5 : Rows) (H6 : Rows) (H7 : Rows) (H8 : Rows) (H9 : Rows) (H10 : Rows) : law_insts.l15 X (k + 1) a94 a95 a96 h0_0 h0_1 h0_2 h0_3 h0_4 h0_5 h1_0 h1_1 h1_4 h2_0 h2_1 h2_4 h3_0 h3_1 h3_4 h4_0 h4_1 h4_4 H5 H6 H7 H8 H9 H10 = (
  if decide (a96 < a95) = true then
    onIx a96 a94.length fun i1 =>
    onRow a94 i1 fun w2 =>
    onCell w2 0 fun x3 =>
    onInt .i64 x3 fun n4 =>
    onCell w2 1 fun x5 =>
    onSl 1 x5 fun r6 =>
    onIx (if 40 < (r6.length : Int) then 40 else (r6.length : Int)) (r6.length + 1) fun i7 =>
    onRoom (((r6.take i7).drop 0).length) <|
    onRoom (H9.length + 1) <|
    onRoom (((r6.take i7).drop 0).length) <|
    onRoom (H10.length + 1) <|
    law_insts.l15 X k a94 a95 (IntKind.i64.wrap (a96 + 1)) h0_0 h0_1 h0_2 h0_3 h0_4 h0_5 h1_0 h1_1 h1_4 h2_0 h2_1 h2_4 h3_0 h3_1 h3_4 h4_0 h4_1 h4_4 H5 H6 H7 H8 (H9 ++ ([[.v (.int .i64 n4), .sl 3 1 ((r6.take i7).drop 0)]])) (H10 ++ ([[.v (.int .i64 n4), .sl 3 1 ((r6.take i7).drop 0)]]))
  else
    some (.d (.tup [.agg [.v (.int .i64 h3_0), .v (.int .i64 h3_1), .sl 3 2 H5, .sl 3 1 H7, .v (.int .i64 h3_4), .sl 3 2 H9], .agg [.v (.int .i64 h4_0), .v (.int .i64 h4_1), .sl 3 2 H6, .sl 3 1 H8, .v (.int .i64 h4_4), .sl 3 2 H10]]), [])) := by kernel_rfl
theorem law_insts.eq (X : Orc) (k : Nat) (p0_0 : Int) (p0_1 : Int) (p0_2 : Rows) (p0_3 : Rows) (p0_4 : Int) (p0_5 : Rows) : runF P X law_insts.cf (k + 1) F.law_insts [.agg [.d (.v (.int .i64 p0_0)), .d (.v (.int .i64 p0_1)), .d (.sl 3 2 p0_2), .d (.sl 3 1 p0_3), .d (.v (.int .i64 p0_4)), .d (.sl 3 2 p0_5)]] [] = (
  onIx (if 40 < (p0_2.length : Int) then 40 else (p0_2.length : Int)) (p0_2.length + 1) fun i1 =>
  law_insts.l4 X k ((p0_2.take i1).drop 0) (((p0_2.take i1).drop 0).length : Int) 0 p0_0 p0_1 p0_2 p0_3 p0_4 p0_5 0 0 0 0 0 0 p0_0 p0_1 p0_4 p0_0 p0_1 p0_4 ([]) ([])) := by kernel_rfl
def law_tame.cf : Cf := { loops := [{ fid := 6, key := 20, live := [4, 5, 6, 106, 107, 108], vecs := [], cvecs := [(2, 2, 2)], nb := 4, cs := [] }, { fid := 6, key := 27, live := [4, 5, 6, 143, 144, 145], vecs := [], cvecs := [(2, 5, 2)], nb := 4, cs := [] }, { fid := 6, key := 31, live := [4, 5, 6, 10, 11, 143, 144, 145, 156, 157], vecs := [], cvecs := [(4, 1, 1), (5, 1, 1)], nb := 7, cs := [] }, { fid := 6, key := 34, live := [4, 5, 6, 10, 11, 12, 143, 144, 145, 156, 157, 166, 167, 168], vecs := [], cvecs := [], nb := 7, cs := [] }, { fid := 6, key := 6, live := [2, 4, 5, 6, 15, 34, 35], vecs := [], cvecs := [(2, 3, 1)], nb := 4, cs := [] }, { fid := 6, key := 10, live := [2, 4, 5, 6, 15, 16, 17, 34, 35, 40, 41], vecs := [], cvecs := [], nb := 5, cs := [] }] }
noncomputable def law_tame.l20 (X : Orc) (k : Nat) (a106 : Rows) (a107 : Int) (a108 : Int) (h0_0 : Int) (h0_1 : Int) (h0_2 : Rows) (h0_3 : Rows) (h0_4 : Int) (h0_5 : Rows) (h1_0 : Int) (h1_1 : Int) (h1_4 : Int) (h2_0 : Int) (h2_1 : Int) (h2_4 : Int) (H3 : Rows) : Option Res := loopAt P X law_tame.cf k 6 Go.Proofs.Tryd.f6 20 [(4, .ptr 1 0), (5, .fn (.func 16) []), (6, .ptr 2 0), (106, .d (.sl 3 2 a106)), (107, .d (.v (.int .i64 a107))), (108, .d (.v (.int .i64 a108)))] [] [.cel [.d (.v (.int .i64 h0_0)), .d (.v (.int .i64 h0_1)), .d (.sl 3 2 h0_2), .d (.sl 3 1 h0_3), .d (.v (.int .i64 h0_4)), .d (.sl 3 2 h0_5)], .cel [.d (.v (.int .i64 h1_0)), .d (.v (.int .i64 h1_1)), .d (.v (.slice none 0 0)), .d (.v (.slice none 0 0)), .d (.v (.int .i64 h1_4)), .d (.v (.slice none 0 0))], .cel [.d (.v (.int .i64 h2_0)), .d (.v (.int .i64 h2_1)), .vh 3 0 2 H3.length, .d (.v (.slice none 0 0)), .d (.v (.int .i64 h2_4)), .d (.v (.slice none 0 0))], .vec 2 0 H3]
noncomputable def law_tame.l27 (X : Orc) (k : Nat) (a143 : Rows) (a144 : Int) (a145 : Int) (h0_0 : Int) (h0_1 : Int) (h0_2 : Rows) (h0_3 : Rows) (h0_4 : Int) (h0_5 : Rows) (h1_0 : Int) (h1_1 : Int) (h1_4 : Int) (h2_0 : Int) (h2_1 : Int) (h2_4 : Int) (H3 : Rows) : Option Res := loopAt P X law_tame.cf k 6 Go.Proofs.Tryd.f6 27 [(4, .ptr 1 0), (5, .fn (.func 16) []), (6, .ptr 2 0), (143, .d (.sl 3 2 a143)), (144, .d (.v (.int .i64 a144))), (145, .d (.v (.int .i64 a145)))] [] [.cel [.d (.v (.int .i64 h0_0)), .d (.v (.int .i64 h0_1)), .d (.sl 3 2 h0_2), .d (.sl 3 1 h0_3), .d (.v (.int .i64 h0_4)), .d (.sl 3 2 h0_5)], .cel [.d (.v (.int .i64 h1_0)), .d (.v (.int .i64 h1_1)), .d (.v (.slice none 0 0)), .d (.v (.slice none 0 0)), .d (.v (.int .i64 h1_4)), .d (.v (.slice none 0 0))], .cel [.d (.v (.int .i64 h2_0)), .d (.v (.int .i64 h2_1)), .d (.v (.slice none 0 0)), .d (.v (.slice none 0 0)), .d (.v (.int .i64 h2_4)), .vh 3 0 2 H3.length], .vec 2 0 H3]
noncomputable def law_tame.l31 (X : Orc) (k : Nat) (a143 : Rows) (a144 : Int) (a145 : Int) (a156 : Int) (a157 : Int) (h0_0 : Int) (h0_1 : Int) (h0_2 : Rows) (h0_3 : Rows) (h0_4 : Int) (h0_5 : Rows) (h1_0 : Int) (h1_1 : Int) (h1_4 : Int) (h2_0 : Int) (h2_1 : Int) (h2_4 : Int) (H3 : Rows) (h4_0 : Int) (h4_1 : Rows) (h5_0 : Int) (H6 : Rows) : Option Res := loopAt P X law_tame.cf k 6 Go.Proofs.Tryd.f6 31 [(4, .ptr 1 0), (5, .fn (.func 16) []), (6, .ptr 2 0), (10, .ptr 4 0), (11, .ptr 5 0), (143, .d (.sl 3 2 a143)), (144, .d (.v (.int .i64 a144))), (145, .d (.v (.int .i64 a145))), (156, .d (.v (.int .i64 a156))), (157, .d (.v (.int .i64 a157)))] [] [.cel [.d (.v (.int .i64 h0_0)), .d (.v (.int .i64 h0_1)), .d (.sl 3 2 h0_2), .d (.sl 3 1 h0_3), .d (.v (.int .i64 h0_4)), .d (.sl 3 2 h0_5)], .cel [.d (.v (.int .i64 h1_0)), .d (.v (.int .i64 h1_1)), .d (.v (.slice none 0 0)), .d (.v (.slice none 0 0)), .d (.v (.int .i64 h1_4)), .d (.v (.slice none 0 0))], .cel [.d (.v (.int .i64 h2_0)), .d (.v (.int .i64 h2_1)), .d (.v (.slice none 0 0)), .d (.v (.slice none 0 0)), .d (.v (.int .i64 h2_4)), .vh 3 0 2 H3.length], .vec 2 0 H3, .cel [.d (.v (.int .i64 h4_0)), .d (.sl 3 1 h4_1)], .cel [.d (.v (.int .i64 h5_0)), .vh 6 0 1 H6.length], .vec 1 0 H6]
noncomputable def law_tame.l34 (X : Orc) (k : Nat) (a12 : Int) (a143 : Rows) (a144 : Int) (a145 : Int) (a156 : Int) (a157 : Int) (a166 : Rows) (a167 : Int) (a168 : Int) (h0_0 : Int) (h0_1 : Int) (h0_2 : Rows) (h0_3 : Rows) (h0_4 : Int) (h0_5 : Rows) (h1_0 : Int) (h1_1 : Int) (h1_4 : Int) (h2_0 : Int) (h2_1 : Int) (h2_4 : Int) (H3 : Rows) (h4_0 : Int) (h4_1 : Rows) (h5_0 : Int) (H6 : Rows) : Option Res := loopAt P X law_tame.cf k 6 Go.Proofs.Tryd.f6 34 [(4, .ptr 1 0), (5, .fn (.func 16) []), (6, .ptr 2 0), (10, .ptr 4 0), (11, .ptr 5 0), (12, .d (.v (.int .i64 a12))), (143, .d (.sl 3 2 a143)), (144, .d (.v (.int .i64 a144))), (145, .d (.v (.int .i64 a145))), (156, .d (.v (.int .i64 a156))), (157, .d (.v (.int .i64 a157))), (166, .d (.sl 3 1 a166)), (167, .d (.v (.int .i64 a167))), (168, .d (.v (.int .i64 a168)))] [] [.cel [.d (.v (.int .i64 h0_0)), .d (.v (.int .i64 h0_1)), .d (.sl 3 2 h0_2), .d (.sl 3 1 h0_3), .d (.v (.int .i64 h0_4)), .d (.sl 3 2 h0_5)], .cel [.d (.v (.int .i64 h1_0)), .d (.v (.int .i64 h1_1)), .d (.v (.slice none 0 0)), .d (.v (.slice none 0 0)), .d (.v (.int .i64 h1_4)), .d (.v (.slice none 0 0))], .cel [.d (.v (.int .i64 h2_0)), .d (.v (.int .i64 h2_1)), .d (.v (.slice none 0 0)), .d (.v (.slice none 0 0)), .d (.v (.int .i64 h2_4)), .vh 3 0 2 H3.length], .vec 2 0 H3, .cel [.d (.v (.int .i64 h4_0)), .d (.sl 3 1 h4_1)], .cel [.d (.v (.int .i64 h5_0)), .vh 6 0 1 H6.length], .vec 1 0 H6]
noncomputable def law_tame.l6 (X : Orc) (k : Nat) (a15 : Int) (a34 : Int) (a35 : Int) (h0_0 : Int) (h0_1 : Int) (h0_2 : Rows) (h0_3 : Rows) (h0_4 : Int) (h0_5 : Rows) (h1_0 : Int) (h1_1 : Int) (h1_4 : Int) (h2_0 : Int) (h2_1 : Int) (h2_4 : Int) (H3 : Rows) : Option Res := loopAt P X law_tame.cf k 6 Go.Proofs.Tryd.f6 6 [(2, .ptr 0 0), (4, .ptr 1 0), (5, .fn (.func 16) []), (6, .ptr 2 0), (15, .d (.v (.int .i64 a15))), (34, .d (.v (.int .i64 a34))), (35, .d (.v (.int .i64 a35)))] [] [.cel [.d (.v (.int .i64 h0_0)), .d (.v (.int .i64 h0_1)), .d (.sl 3 2 h0_2), .d (.sl 3 1 h0_3), .d (.v (.int .i64 h0_4)), .d (.sl 3 2 h0_5)], .cel [.d (.v (.int .i64 h1_0)), .d (.v (.int .i64 h1_1)), .d (.v (.slice none 0 0)), .d (.v (.slice none 0 0)), .d (.v (.int .i64 h1_4)), .d (.v (.slice none 0 0))], .cel [.d (.v (.int .i64 h2_0)), .d (.v (.int .i64 h2_1)), .d (.v (.slice none 0 0)), .vh 3 0 1 H3.length, .d (.v (.int .i64 h2_4)), .d (.v (.slice none 0 0))], .vec 1 0 H3]
noncomputable def law_tame.l10 (X : Orc) (k : Nat) (a15 : Int) (a16 : Int) (a17l : Nat) (a34 : Int) (a35 : Int) (a40 : Int) (a41 : Int) (h0_0 : Int) (h0_1 : Int) (h0_2 : Rows) (h0_3 : Rows) (h0_4 : Int) (h0_5 : Rows) (h1_0 : Int) (h1_1 : Int) (h1_4 : Int) (h2_0 : Int) (h2_1 : Int) (h2_4 : Int) (H3 : Rows) (H4 : Rows) : Option Res := loopAt P X law_tame.cf k 6 Go.Proofs.Tryd.f6 10 [(2, .ptr 0 0), (4, .ptr 1 0), (5, .fn (.func 16) []), (6, .ptr 2 0), (15, .d (.v (.int .i64 a15))), (16, .d (.v (.int .i64 a16))), (17, .hs 4 0 1 0 a17l), (34, .d (.v (.int .i64 a34))), (35, .d (.v (.int .i64 a35))), (40, .d (.v (.int .i64 a40))), (41, .d (.v (.int .i64 a41)))] [] [.cel [.d (.v (.int .i64 h0_0)), .d (.v (.int .i64 h0_1)), .d (.sl 3 2 h0_2), .d (.sl 3 1 h0_3), .d (.v (.int .i64 h0_4)), .d (.sl 3 2 h0_5)], .cel [.d (.v (.int .i64 h1_0)), .d (.v (.int .i64 h1_1)), .d (.v (.slice none 0 0)), .d (.v (.slice none 0 0)), .d (.v (.int .i64 h1_4)), .d (.v (.slice none 0 0))], .cel [.d (.v (.int .i64 h2_0)), .d (.v (.int .i64 h2_1)), .d (.v (.slice none 0 0)), .vh 3 0 1 H3.length, .d (.v (.int .i64 h2_4)), .d (.v (.slice none 0 0))], .vec 1 0 H3, .arr 1 H4]
theorem law_tame.l20_eq (X : Orc) (k : Nat) (a106 : Rows) (a107 : Int) (a108 : Int) (h0_0 : Int) (h0_1 : Int) (h0_2 : Rows) (h0_3 : Rows) (h0_4 : Int) (h0_5 : Rows) (h1_0 : Int) (h1_1 : Int) (h1_4 : Int) (h2_0 : Int) (h2_1 : Int) (h2_4 : Int) (H3 : Rows) : law_tame.l20 X (k + 1) a106 a107 a108 h0_0 h0_1 h0_2 h0_3 h0_4 h0_5 h1_0 h1_1 h1_4 h2_0 h2_1 h2_4 H3 = (
  if decide (a108 < a107) = true then
    onIx a108 a106.length fun i1 =>
    onRow a106 i1 fun w2 =>
    onCell w2 0 fun x3 =>
    onInt .i64 x3 fun n4 =>
    onCell w2 1 fun x5 =>
    onInt .i64 x5 fun n6 =>
    onCall (X F.law_tame_fn1 [.d (.v (.int .i64 n4))] []) fun z7 =>
    onInt .i64 z7 fun n8 =>
    onCall (X F.law_tame_fn1 [.d (.v (.int .i64 n6))] []) fun z9 =>
    onInt .i64 z9 fun n10 =>
    onRoom (H3.length + 1) <|
    law_tame.l20 X k a106 a107 (IntKind.i64.wrap (a108 + 1)) h0_0 h0_1 h0_2 h0_3 h0_4 h0_5 h1_0 h1_1 h1_4 h2_0 h2_1 h2_4 (H3 ++ ([[.v (.int .i64 (if n8 > 0 then n8 else 0)), .v (.int .i64 (if n10 > 0 then n10 else 0))]]))
  else
    some (.d (.agg [.v (.int .i64 h2_0), .v (.int .i64 h2_1), .sl 3 2 H3, .v (.slice none 0 0), .v (.int .i64 h2_4), .v (.slice none 0 0)]), [])) := by kernel_rfl
theorem law_tame.l27_eq (X : Orc) (k : Nat) (a143 : Rows) (a144 : Int) (a145 : Int) (h0_0 : Int) (h0_1 : Int) (h0_2 : Rows) (h0_3 : Rows) (h0_4 : Int) (h0_5 : Rows) (h1_0 : Int) (h1_1 : Int) (h1_4 : Int) (h2_0 : Int) (h2_1 : Int) (h2_4 : Int) (H3 : Rows) : law_tame.l27 X (k + 1) a143 a144 a145 h0_0 h0_1 h0_2 h0_3 h0_4 h0_5 h1_0 h1_1 h1_4 h2_0 h2_1 h2_4 H3 = (
  if decide (a145 < a144) = true then
    onIx a145 a143.length fun i1 =>
    onRow a143 i1 fun w2 =>
    onCell w2 0 fun x3 =>
    onInt .i64 x3 fun n4 =>
    onCell w2 1 fun x5 =>
    onSl 1 x5 fun r6 =>
    onCall (X F.law_tame_fn1 [.d (.v (.int .i64 n4))] []) fun z7 =>
    onInt .i64 z7 fun n8 =>
    law_tame.l31 X k a143 a144 a145 h2_4 0 h0_0 h0_1 h0_2 h0_3 h0_4 h0_5 h1_0 h1_1 h1_4 h2_0 h2_1 h2_4 H3 n4 r6 (if n8 > 0 then n8 else 0) ([])
  else
    some (.d (.agg [.v (.int .i64 h2_0), .v (.int .i64 h2_1), .v (.slice none 0 0), .v (.slice none 0 0), .v (.int .i64 h2_4), .sl 3 2 H3]), [])) := by kernel_rfl
theorem law_tame.l31_eq (X : Orc) (k : Nat) (a143 : Rows) (a144 : Int) (a145 : Int) (a156 : Int) (a157 : Int) (h0_0 : Int) (h0_1 : Int) (h0_2 : Rows) (h0_3 : Rows) (h0_4 : Int) (h0_5 : Rows) (h1_0 : Int) (h1_1 : Int) (h1_4 : Int) (h2_0 : Int) (h2_1 : Int) (h2_4 : Int) (H3 : Rows) (h4_0 : Int) (h4_1 : Rows) (h5_0 : Int) (H6 : Rows) : law_tame.l31 X (k + 1) a143 a144 a145 a156 a157 h0_0 h0_1 h0_2 h0_3 h0_4 h0_5 h1_0 h1_1 h1_4 h2_0 h2_1 h2_4 H3 h4_0 h4_1 h5_0 H6 = (
  if decide (a157 < a156) = true then
    onIx (if 40 < (h4_1.length : Int) then 40 else (h4_1.length : Int)) (h4_1.length + 1) fun i1 =>
    law_tame.l34 X k a157 a143 a144 a145 a156 a157 ((h4_1.take i1).drop 0) (((h4_1.take i1).drop 0).length : Int) 0 h0_0 h0_1 h0_2 h0_3 h0_4 h0_5 h1_0 h1_1 h1_4 h2_0 h2_1 h2_4 H3 h4_0 h4_1 h5_0 H6
  else
    onRoom (H3.length + 1) <|
    law_tame.l27 X k a143 a144 (IntKind.i64.wrap (a145 + 1)) h0_0 h0_1 h0_2 h0_3 h0_4 h0_5 h1_0 h1_1 h1_4 h2_0 h2_1 h2_4 (H3 ++ ([[.v (.int .i64 h5_0), .sl 3 1 H6]]))) := by kernel_rfl
theorem law_tame.l34_eq (X : Orc) (k : Nat) (a12 : Int) (a143 : Rows) (a144 : Int) (a145 : Int) (a156 : Int) (a157 : Int) (a166 : Rows) (a167 : Int) (a168 : Int) (h0_0 : Int) (h0_1 : Int) (h0_2 : Rows) (h0_3 : Rows) (h0_4 : Int) (h0_5 : Rows) (h1_0 : Int) (h1_1 : Int) (h1_4 : Int) (h2_0 : Int) (h2_1 : Int) (h2_4 : Int) (H3 : Rows) (h4_0 : Int) (h4_1 : Rows) (h5_0 : Int) (H6 : Rows) : law_tame.l34 X (k + 1) a12 a143 a144 a145 a156 a157 a166 a167 a168 h0_0 h0_1 h0_2 h0_3 h0_4 h0_5 h1_0 h1_1 h1_4 h2_0 h2_1 h2_4 H3 h4_0 h4_1 h5_0 H6 = (
  if decide (a168 < a167) = true then
    onIx a168 a166.length fun i1 =>
    onRow a166 i1 fun w2 =>
    onCell w2 0 fun x3 =>
    onInt .i64 x3 fun n4 =>
    if (((if n4 > 0 then n4 else 0).tmod 9) == a12) = true then
      onRoom (H6.length + 1) <|
      law_tame.l31 X k a143 a144 a145 a156 (IntKind.i64.wrap (a157 + 1)) h0_0 h0_1 h0_2 h0_3 h0_4 h0_5 h1_0 h1_1 h1_4 h2_0 h2_1 h2_4 H3 h4_0 h4_1 h5_0 (H6 ++ ([[.v (.int .i64 a12)]]))
    else
      law_tame.l34 X k a12 a143 a144 a145 a156 a157 a166 a167 (IntKind.i64.wrap (a168 + 1)) h0_0 h0_1 h0_2 h0_3 h0_4 h0_5 h1_0 h1_1 h1_4 h2_0 h2_1 h2_4 H3 h4_0 h4_1 h5_0 H6
  else
    law_tame.l31 X k a143 a144 a145 a156 (IntKind.i64.wrap (a157 + 1)) h0_0 h0_1 h0_2 h0_3 h0_4 h0_5 h1_0 h1_1 h1_4 h2_0 h2_1 h2_4 H3 h4_0 h4_1 h5_0 H6) := by kernel_rfl
theorem law_tame.l6_eq (X : Orc) (k : Nat) (a15 : Int) (a34 : Int) (a35 : Int) (h0_0 : Int) (h0_1 : Int) (h0_2 : Rows) (h0_3 : Rows) (h0_4 : Int) (h0_5 : Rows) (h1_0 : Int) (h1_1 : Int) (h1_4 : Int) (h2_0 : Int) (h2_1 : Int) (h2_4 : Int) (H3 : Rows) : law_tame.l6 X (k + 1) a15 a34 a35 h0_0 h0_1 h0_2 h0_3 h0_4 h0_5 h1_0 h1_1 h1_4 h2_0 h2_1 h2_4 H3 = (
  if decide (a35 < a34) = true then
    if 0 ≤ a15 then
      onRoom a15.toNat <|
      law_tame.l10 X k a15 a35 a15.toNat a34 a35 a15 0 h0_0 h0_1 h0_2 h0_3 h0_4 h0_5 h1_0 h1_1 h1_4 h2_0 h2_1 h2_4 H3 (List.replicate a15.toNat [.v (.int .i64 0)])
    else
      none
  else
    some (.d (.agg [.v (.int .i64 h2_0), .v (.int .i64 h2_1), .v (.slice none 0 0), .sl 3 1 H3, .v (.int .i64 h2_4), .v (.slice none 0 0)]), [])) := by kernel_rfl
theorem law_tame.l10_eq (X : Orc) (k : Nat) (a15 : Int) (a16 : Int) (a17l : Nat) (a34 : Int) (a35 : Int) (a40 : Int) (a41 : Int) (h0_0 : Int) (h0_1 : Int) (h0_2 : Rows) (h0_3 : Rows) (h0_4 : Int) (h0_5 : Rows) (h1_0 : Int) (h1_1 : Int) (h1_4 : Int) (h2_0 : Int) (h2_1 : Int) (h2_4 : Int) (H3 : Rows) (H4 : Rows) : law_tame.l10 X (k + 1) a15 a16 a17l a34 a35 a40 a41 h0_0 h0_1 h0_2 h0_3 h0_4 h0_5 h1_0 h1_1 h1_4 h2_0 h2_1 h2_4 H3 H4 = (
  if decide (a41 < a40) = true then
    if decide (a16 < (h0_3.length : Int)) = true then
      onIx a16 h0_3.length fun i1 =>
      onRow h0_3 i1 fun w2 =>
      onCell w2 0 fun x3 =>
      onSl 1 x3 fun r4 =>
      if decide (a41 < (r4.length : Int)) = true then
        if (h2_0 == 2) = true then
          if (!(a16 == a41)) = true then
            onIx a16 h0_3.length fun i5 =>
            onRow h0_3 i5 fun w6 =>
            onCell w6 0 fun x7 =>
            onSl 1 x7 fun r8 =>
            onIx a41 r8.length fun i9 =>
            onRow r8 i9 fun w10 =>
            onCell w10 0 fun x11 =>
            onInt .i64 x11 fun n12 =>
            onCall (X F.law_tame_fn1 [.d (.v (.int .i64 n12))] []) fun z13 =>
            onInt .i64 z13 fun n14 =>
            onIx a41 a17l fun i15 =>
            onRow H4 (0 + i15) fun w16 =>
            law_tame.l10 X k a15 a16 a17l a34 a35 a40 (IntKind.i64.wrap (a41 + 1)) h0_0 h0_1 h0_2 h0_3 h0_4 h0_5 h1_0 h1_1 h1_4 h2_0 h2_1 h2_4 H3 (H4.set (0 + i15) (splice w16 0 [.v (.int .i64 n14)]))
          else
            law_tame.l10 X k a15 a16 a17l a34 a35 a40 (IntKind.i64.wrap (a41 + 1)) h0_0 h0_1 h0_2 h0_3 h0_4 h0_5 h1_0 h1_1 h1_4 h2_0 h2_1 h2_4 H3 H4
        else
          onIx a16 h0_3.length fun i17 =>
          onRow h0_3 i17 fun w18 =>
          onCell w18 0 fun x19 =>
          onSl 1 x19 fun r20 =>
          onIx a41 r20.length fun i21 =>
          onRow r20 i21 fun w22 =>
          onCell w22 0 fun x23 =>
          onInt .i64 x23 fun n24 =>
          onCall (X F.law_tame_fn1 [.d (.v (.int .i64 n24))] []) fun z25 =>
          onInt .i64 z25 fun n26 =>
          onIx a41 a17l fun i27 =>
          onRow H4 (0 + i27) fun w28 =>
          law_tame.l10 X k a15 a16 a17l a34 a35 a40 (IntKind.i64.wrap (a41 + 1)) h0_0 h0_1 h0_2 h0_3 h0_4 h0_5 h1_0 h1_1 h1_4 h2_0 h2_1 h2_4 H3 (H4.set (0 + i27) (splice w28 0 [.v (.int .i64 n26)]))
      else
        law_tame.l10 X k a15 a16 a17l a34 a35 a40 (IntKind.i64.wrap (a41 + 1)) h0_0 h0_1 h0_2 h0_3 h0_4 h0_5 h1_0 h1_1 h1_4 h2_0 h2_1 h2_4 H3 H4
    else
      law_tame.l10 X k a15 a16 a17l a34 a35 a40 (IntKind.i64.wrap (a41 + 1)) h0_0 h0_1 h0_2 h0_3 h0_4 h0_5 h1_0 h1_1 h1_4 h2_0 h2_1 h2_4 H3 H4
  else
    onRoom (H3.length + 1) <|
    law_tame.l6 X k a15 a34 (IntKind.i64.wrap (a35 + 1)) h0_0 h0_1 h0_2 h0_3 h0_4 h0_5 h1_0 h1_1 h1_4 h2_0 h2_1 h2_4 (H3 ++ ([[.sl 3 1 ((H4.drop 0).take a17l)]]))) := by kernel_rfl
theorem law_tame.eq (X : Orc) (k : Nat) (p0_0 : Int) (p0_1 : Int) (p0_2 : Rows) (p0_3 : Rows) (p0_4 : Int) (p0_5 : Rows) (p1 : Int) : runF P X law_tame.cf (k + 1) F.law_tame [.agg [.d (.v (.int .i64 p0_0)), .d (.v (.int .i64 p0_1)), .d (.sl 3 2 p0_2), .d (.sl 3 1 p0_3), .d (.v (.int .i64 p0_4)), .d (.sl 3 2 p0_5)], .d (.v (.int .i64 p1))] [] = (
  if (((IntKind.i64.wrap ((p0_0.tmod 4) + 4)).tmod 4) == 0) = true then
    onCall (X F.law_tame_fn1 [.d (.v (.int .i64 p0_1))] []) fun z1 =>
    onInt .i64 z1 fun n2 =>
    onIx (if p1 < (p0_2.length : Int) then p1 else (p0_2.length : Int)) (p0_2.length + 1) fun i3 =>
    law_tame.l20 X k ((p0_2.take i3).drop 0) (((p0_2.take i3).drop 0).length : Int) 0 p0_0 p0_1 p0_2 p0_3 p0_4 p0_5 0 0 0 ((IntKind.i64.wrap ((p0_0.tmod 4) + 4)).tmod 4) (if n2 > 0 then n2 else 0) 0 ([])
  else
    if (((IntKind.i64.wrap ((p0_0.tmod 4) + 4)).tmod 4) == 3) = true then
      onIx (if p1 < (p0_5.length : Int) then p1 else (p0_5.length : Int)) (p0_5.length + 1) fun i4 =>
      law_tame.l27 X k ((p0_5.take i4).drop 0) (((p0_5.take i4).drop 0).length : Int) 0 p0_0 p0_1 p0_2 p0_3 p0_4 p0_5 0 0 0 ((IntKind.i64.wrap ((p0_0.tmod 4) + 4)).tmod 4) 0 ((if p0_4 > 0 then p0_4 else 0).tmod 9) ([])
    else
      law_tame.l6 X k (if (if (IntKind.i64.wrap (p1 - 1)) < (p0_3.length : Int) then (IntKind.i64.wrap (p1 - 1)) else (p0_3.length : Int)) > 1 then (if (IntKind.i64.wrap (p1 - 1)) < (p0_3.length : Int) then (IntKind.i64.wrap (p1 - 1)) else (p0_3.length : Int)) else 1) (if (if (IntKind.i64.wrap (p1 - 1)) < (p0_3.length : Int) then (IntKind.i64.wrap (p1 - 1)) else (p0_3.length : Int)) > 1 then (if (IntKind.i64.wrap (p1 - 1)) < (p0_3.length : Int) then (IntKind.i64.wrap (p1 - 1)) else (p0_3.length : Int)) else 1) 0 p0_0 p0_1 p0_2 p0_3 p0_4 p0_5 0 0 0 ((IntKind.i64.wrap ((p0_0.tmod 4) + 4)).tmod 4) 0 0 ([])) := by kernel_rfl
def law_answers.cf : Cf := { loops := [{ fid := 7, key := 5, live := [0, 3, 5, 6, 7, 33, 34], vecs := [(6, 1), (7, 1)], cvecs := [], nb := 3, cs := [] }, { fid := 7, key := 8, live := [0, 3, 5, 6, 7, 8, 33, 34, 37, 38, 39], vecs := [], cvecs := [], nb := 3, cs := [] }, { fid := 7, key := 20, live := [0, 5, 7, 11, 70, 71, 72], vecs := [], cvecs := [], nb := 3, cs := [] }] }
noncomputable def law_answers.l5 (X : Orc) (k : Nat) (a0 : Rows) (a5 : Int) (a33 : Int) (a34 : Int) (h0_0 : Int) (h0_1 : Int) (h0_2 : Rows) (h0_3 : Rows) (h0_4 : Int) (h0_5 : Rows) (H1 : Rows) (H2 : Rows) : Option Res := loopAt P X law_answers.cf k 7 Go.Proofs.Tryd.f7 5 [(0, .d (.sl 3 1 a0)), (3, .ptr 0 0), (5, .d (.v (.int .i64 a5))), (6, .vh 1 0 1 H1.length), (7, .vh 2 0 1 H2.length), (33, .d (.v (.int .i64 a33))), (34, .d (.v (.int .i64 a34)))] [] [.cel [.d (.v (.int .i64 h0_0)), .d (.v (.int .i64 h0_1)), .d (.sl 3 2 h0_2), .d (.sl 3 1 h0_3), .d (.v (.int .i64 h0_4)), .d (.sl 3 2 h0_5)], .vec 1 0 H1, .vec 1 0 H2]
noncomputable def law_answers.l8 (X : Orc) (k : Nat) (a0 : Rows) (a5 : Int) (a8 : Int) (a33 : Int) (a34 : Int) (a37 : Rows) (a38 : Int) (a39 : Int) (h0_0 : Int) (h0_1 : Int) (h0_2 : Rows) (h0_3 : Rows) (h0_4 : Int) (h0_5 : Rows) (H1 : Rows) (H2 : Rows) : Option Res := loopAt P X law_answers.cf k 7 Go.Proofs.Tryd.f7 8 [(0, .d (.sl 3 1 a0)), (3, .ptr 0 0), (5, .d (.v (.int .i64 a5))), (6, .vh 1 0 1 H1.length), (7, .vh 2 0 1 H2.length), (8, .d (.v (.int .i64 a8))), (33, .d (.v (.int .i64 a33))), (34, .d (.v (.int .i64 a34))), (37, .d (.sl 3 1 a37)), (38, .d (.v (.int .i64 a38))), (39, .d (.v (.int .i64 a39)))] [] [.cel [.d (.v (.int .i64 h0_0)), .d (.v (.int .i64 h0_1)), .d (.sl 3 2 h0_2), .d (.sl 3 1 h0_3), .d (.v (.int .i64 h0_4)), .d (.sl 3 2 h0_5)], .vec 1 0 H1, .vec 1 0 H2]
noncomputable def law_answers.l20 (X : Orc) (k : Nat) (a0 : Rows) (a5 : Int) (a11 : Int) (a70 : Rows) (a71 : Int) (a72 : Int) (h0_0 : Int) (h0_1 : Int) (h0_2 : Rows) (h0_3 : Rows) (h0_4 : Int) (h0_5 : Rows) (H1 : Rows) (H2 : Rows) : Option Res := loopAt P X law_answers.cf k 7 Go.Proofs.Tryd.f7 20 [(0, .d (.sl 3 1 a0)), (5, .d (.v (.int .i64 a5))), (7, .vh 2 0 1 H2.length), (11, .d (.v (.int .i64 a11))), (70, .d (.sl 3 1 a70)), (71, .d (.v (.int .i64 a71))), (72, .d (.v (.int .i64 a72)))] [] [.cel [.d (.v (.int .i64 h0_0)), .d (.v (.int .i64 h0_1)), .d (.sl 3 2 h0_2), .d (.sl 3 1 h0_3), .d (.v (.int .i64 h0_4)), .d (.sl 3 2 h0_5)], .vec 1 0 H1, .vec 1 0 H2]
theorem law_answers.l5_eq (X : Orc) (k : Nat) (a0 : Rows) (a5 : Int) (a33 : Int) (a34 : Int) (h0_0 : Int) (h0_1 : Int) (h0_2 : Rows) (h0_3 : Rows) (h0_4 : Int) (h0_5 : Rows) (H1 : Rows) (H2 : Rows) : law_answers.l5 X (k + 1) a0 a5 a33 a34 h0_0 h0_1 h0_2 h0_3 h0_4 h0_5 H1 H2 = (
  if decide (a34 < a33) = true then
    law_answers.l8 X k a0 a5 a34 a33 a34 a0 (a0.length : Int) 0 h0_0 h0_1 h0_2 h0_3 h0_4 h0_5 H1 H2
  else
    if (h0_0 == 1) = true then
      if (h0_0 == 2) = true then
        law_answers.l20 X k a0 a5 1 a0 (a0.length : Int) 0 h0_0 h0_1 h0_2 h0_3 h0_4 h0_5 H1 H2
      else
        law_answers.l20 X k a0 a5 0 a0 (a0.length : Int) 0 h0_0 h0_1 h0_2 h0_3 h0_4 h0_5 H1 H2
    else
      if (h0_0 == 2) = true then
        if (h0_0 == 2) = true then
          law_answers.l20 X k a0 a5 1 a0 (a0.length : Int) 0 h0_0 h0_1 h0_2 h0_3 h0_4 h0_5 H1 H2
        else
          law_answers.l20 X k a0 a5 0 a0 (a0.length : Int) 0 h0_0 h0_1 h0_2 h0_3 h0_4 h0_5 H1 H2
      else
        some (.d (.sl 0 1 ([[.sl 3 1 a0], [.sl 3 1 H1]])), [])) := by kernel_rfl
theorem law_answers.l8_eq (X : Orc) (k : Nat) (a0 : Rows) (a5 : Int) (a8 : Int) (a33 : Int) (a34 : Int) (a37 : Rows) (a38 : Int) (a39 : Int) (h0_0 : Int) (h0_1 : Int) (h0_2 : Rows) (h0_3 : Rows) (h0_4 : Int) (h0_5 : Rows) (H1 : Rows) (H2 : Rows) : law_answers.l8 X (k + 1) a0 a5 a8 a33 a34 a37 a38 a39 h0_0 h0_1 h0_2 h0_3 h0_4 h0_5 H1 H2 = (
  if decide (a39 < a38) = true then
    onIx a39 a37.length fun i1 =>
    onRow a37 i1 fun w2 =>
    onCell w2 0 fun x3 =>
    onInt .i64 x3 fun n4 =>
    if a5 = 0 then
      none
    else
      if (((if n4 > 0 then n4 else 0).tmod a5) == a8) = true then
        onRoom (H1.length + 1) <|
        onRoom (H2.length + 1) <|
        law_answers.l5 X k a0 a5 a33 (IntKind.i64.wrap (a34 + 1)) h0_0 h0_1 h0_2 h0_3 h0_4 h0_5 (H1 ++ ([[.v (.int .i64 a8)]])) (H2 ++ ([[.v (.int .i64 a8)]]))
      else
        law_answers.l8 X k a0 a5 a8 a33 a34 a37 a38 (IntKind.i64.wrap (a39 + 1)) h0_0 h0_1 h0_2 h0_3 h0_4 h0_5 H1 H2
  else
    onRoom (H2.length + 1) <|
    law_answers.l5 X k a0 a5 a33 (IntKind.i64.wrap (a34 + 1)) h0_0 h0_1 h0_2 h0_3 h0_4 h0_5 H1 (H2 ++ ([[.v (.int .i64 a8)]]))) := by kernel_rfl
theorem law_answers.l20_eq (X : Orc) (k : Nat) (a0 : Rows) (a5 : Int) (a11 : Int) (a70 : Rows) (a71 : Int) (a72 : Int) (h0_0 : Int) (h0_1 : Int) (h0_2 : Rows) (h0_3 : Rows) (h0_4 : Int) (h0_5 : Rows) (H1 : Rows) (H2 : Rows) : law_answers.l20 X (k + 1) a0 a5 a11 a70 a71 a72 h0_0 h0_1 h0_2 h0_3 h0_4 h0_5 H1 H2 = (
  if decide (a72 < a71) = true then
    onIx a72 a70.length fun i1 =>
    onRow a70 i1 fun w2 =>
    onCell w2 0 fun x3 =>
    onInt .i64 x3 fun n4 =>
    if decide ((IntKind.i64.wrap (a5 - a11)) > 0) = true then
      if (IntKind.i64.wrap (a5 - a11)) = 0 then
        none
      else
        if (IntKind.i64.wrap (a5 - a11)) = 0 then
          none
        else
          onIx (IntKind.i64.wrap (a11 + ((if n4 > 0 then n4 else 0).tmod (IntKind.i64.wrap (a5 - a11))))) H2.length fun i5 =>
          onRow H2 i5 fun w6 =>
          onCell w6 0 fun x7 =>
          onInt .i64 x7 fun n8 =>
          onIx (IntKind.i64.wrap (a11 + (a72.tmod (IntKind.i64.wrap (a5 - a11))))) H2.length fun i9 =>
          onRow H2 i9 fun w10 =>
          onCell w10 0 fun x11 =>
          onInt .i64 x11 fun n12 =>
          onIx (IntKind.i64.wrap (a11 + (a72.tmod (IntKind.i64.wrap (a5 - a11))))) H2.length fun i13 =>
          onRow H2 i13 fun w14 =>
          onIx (IntKind.i64.wrap (a11 + ((if n4 > 0 then n4 else 0).tmod (IntKind.i64.wrap (a5 - a11))))) H2.length fun i15 =>
          onRow (H2.set i13 (splice w14 0 [.v (.int .i64 n8)])) i15 fun w16 =>
          law_answers.l20 X k a0 a5 a11 a70 a71 (IntKind.i64.wrap (a72 + 1)) h0_0 h0_1 h0_2 h0_3 h0_4 h0_5 H1 ((H2.set i13 (splice w14 0 [.v (.int .i64 n8)])).set i15 (splice w16 0 [.v (.int .i64 n12)]))
    else
      law_answers.l20 X k a0 a5 a11 a70 a71 (IntKind.i64.wrap (a72 + 1)) h0_0 h0_1 h0_2 h0_3 h0_4 h0_5 H1 H2
  else
    some (.d (.sl 0 1 ([[.sl 3 1 a0], [.sl 3 1 H2]])), [])) := by kernel_rfl
theorem law_answers.eq (X : Orc) (k : Nat) (p0 : Rows) (p1_0 : Int) (p1_1 : Int) (p1_2 : Rows) (p1_3 : Rows) (p1_4 : Int) (p1_5 : Rows) : runF P X law_answers.cf (k + 1) F.law_answers [.d (.sl 3 1 p0), .agg [.d (.v (.int .i64 p1_0)), .d (.v (.int .i64 p1_1)), .d (.sl 3 2 p1_2), .d (.sl 3 1 p1_3), .d (.v (.int .i64 p1_4)), .d (.sl 3 2 p1_5)]] [] = (
  onIx (if 20 < (p0.length : Int) then 20 else (p0.length : Int)) (p0.length + 1) fun i1 =>
  law_answers.l5 X k ((p0.take i1).drop 0) (IntKind.i64.wrap ((IntKind.i64.wrap ((p1_2.length : Int) + (p1_3.length : Int))) + (p1_5.length : Int))) (IntKind.i64.wrap ((IntKind.i64.wrap ((p1_2.length : Int) + (p1_3.length : Int))) + (p1_5.length : Int))) 0 p1_0 p1_1 p1_2 p1_3 p1_4 p1_5 ([]) ([])) := by kernel_rfl
def eval_Value.cf : Cf := { loops := [] }
theorem eval_Value.eq (X : Orc) (k : Nat) (p0_0 : Int) (p0_1 : Int) (p0_2 : Rows) (p0_3 : Rows) (p0_4 : Int) (p0_5 : Rows) (p1 : Rows) : runF P X eval_Value.cf (k + 1) F.eval_Value [.agg [.d (.v (.int .i64 p0_0)), .d (.v (.int .i64 p0_1)), .d (.sl 3 2 p0_2), .d (.sl 3 1 p0_3), .d (.v (.int .i64 p0_4)), .d (.sl 3 2 p0_5)], .d (.sl 3 1 p1)] [] = (
  onCall (X F.inst_Inst_Check [.agg [.d (.v (.int .i64 p0_0)), .d (.v (.int .i64 p0_1)), .d (.sl 3 2 p0_2), .d (.sl 3 1 p0_3), .d (.v (.int .i64 p0_4)), .d (.sl 3 2 p0_5)]] []) fun z1 =>
  onInt .i64 z1 fun n2 =>
  if (n2 != 0) = true then
    some (.d (.tup [.v (.int .i64 0), .v (.int .i64 n2)]), [])
  else
    onCall (X F.eval_may [.agg [.d (.v (.int .i64 p0_0)), .d (.v (.int .i64 p0_1)), .d (.sl 3 2 p0_2), .d (.sl 3 1 p0_3), .d (.v (.int .i64 p0_4)), .d (.sl 3 2 p0_5)], .d (.sl 3 1 p1)] []) fun z3 =>
    onBool z3 fun b4 =>
    if (!b4) = true then
      some (.d (.tup [.v (.int .i64 0), .v (.int .i64 12)]), [])
    else
      onCall (X F.eval_parts [.agg [.d (.v (.int .i64 p0_0)), .d (.v (.int .i64 p0_1)), .d (.sl 3 2 p0_2), .d (.sl 3 1 p0_3), .d (.v (.int .i64 p0_4)), .d (.sl 3 2 p0_5)], .d (.sl 3 1 p1)] []) fun z5 =>
      onSl 1 z5 fun r6 =>
      onCall (X F.num_Sum [.d (.sl 3 1 r6)] []) fun z7 =>
      onTup 2 z7 fun u8 =>
      onCell u8 0 fun x9 =>
      onInt .i64 x9 fun n10 =>
      onCell u8 1 fun x11 =>
      onBool x11 fun b12 =>
      some (.d (.tup [.v (.int .i64 n10), .v (.int .i64 0)]), [])) := by kernel_rfl
def eval_Cost.cf : Cf := { loops := [] }
theorem eval_Cost.eq (X : Orc) (k : Nat) (p0_0 : Int) (p0_1 : Int) (p0_2 : Rows) (p0_3 : Rows) (p0_4 : Int) (p0_5 : Rows) (p1 : Rows) : runF P X eval_Cost.cf (k + 1) F.eval_Cost [.agg [.d (.v (.int .i64 p0_0)), .d (.v (.int .i64 p0_1)), .d (.sl 3 2 p0_2), .d (.sl 3 1 p0_3), .d (.v (.int .i64 p0_4)), .d (.sl 3 2 p0_5)], .d (.sl 3 1 p1)] [] = (
  onCall (X F.eval_Value [.agg [.d (.v (.int .i64 p0_0)), .d (.v (.int .i64 p0_1)), .d (.sl 3 2 p0_2), .d (.sl 3 1 p0_3), .d (.v (.int .i64 p0_4)), .d (.sl 3 2 p0_5)], .d (.sl 3 1 p1)] []) fun z1 =>
  onTup 2 z1 fun u2 =>
  onCell u2 0 fun x3 =>
  onInt .i64 x3 fun n4 =>
  onCell u2 1 fun x5 =>
  onInt .i64 x5 fun n6 =>
  if (p0_0 == 0) = true then
    some (.d (.tup [.v (.int .i64 (IntKind.i64.wrap (0 - n4))), .v (.int .i64 n6)]), [])
  else
    some (.d (.tup [.v (.int .i64 n4), .v (.int .i64 n6)]), [])) := by kernel_rfl
def eval_Better.cf : Cf := { loops := [] }
theorem eval_Better.eq (X : Orc) (k : Nat) (p0 : Int) (p1 : Int) (p2 : Int) : runF P X eval_Better.cf (k + 1) F.eval_Better [.d (.v (.int .i64 p0)), .d (.v (.int .i64 p1)), .d (.v (.int .i64 p2))] [] = (
  if (p0 == 0) = true then
    some (.d (.v (.bool (decide (p1 > p2)))), [])
  else
    if (p0 == 1) = true then
      some (.d (.v (.bool (decide (p1 < p2)))), [])
    else
      if (p0 == 2) = true then
        some (.d (.v (.bool (decide (p1 < p2)))), [])
      else
        if (p0 == 3) = true then
          some (.d (.v (.bool (decide (p1 < p2)))), [])
        else
          some (.d (.v (.bool false)), [])) := by kernel_rfl
def law_wakes.cf : Cf := { loops := [] }
theorem law_wakes.eq (X : Orc) (k : Nat)  : runF P X law_wakes.cf (k + 1) F.law_wakes [] [] = (
  onCall (X F.eval_Value [.agg [.d (.v (.int .i64 1)), .d (.v (.int .i64 0)), .d (.sl 3 2 ([])), .d (.sl 3 1 ([[.sl 3 1 ([[.v (.int .i64 1)], [.v (.int .i64 2)]])], [.sl 3 1 ([[.v (.int .i64 3)], [.v (.int .i64 4)]])]])), .d (.v (.int .i64 0)), .d (.sl 3 2 ([]))], .d (.sl 3 1 ([[.v (.int .i64 1)], [.v (.int .i64 0)]]))] []) fun z1 =>
  onTup 2 z1 fun u2 =>
  onCell u2 0 fun x3 =>
  onInt .i64 x3 fun n4 =>
  onCell u2 1 fun x5 =>
  onInt .i64 x5 fun n6 =>
  onCall (X F.eval_Value [.agg [.d (.v (.int .i64 1)), .d (.v (.int .i64 0)), .d (.sl 3 2 ([])), .d (.sl 3 1 ([[.sl 3 1 ([[.v (.int .i64 1)], [.v (.int .i64 2)]])], [.sl 3 1 ([[.v (.int .i64 3)], [.v (.int .i64 4)]])]])), .d (.v (.int .i64 0)), .d (.sl 3 2 ([]))], .d (.sl 3 1 ([[.v (.int .i64 1)], [.v (.int .i64 1)]]))] []) fun z7 =>
  onTup 2 z7 fun u8 =>
  onCell u8 0 fun x9 =>
  onInt .i64 x9 fun n10 =>
  onCell u8 1 fun x11 =>
  onInt .i64 x11 fun n12 =>
  if (n6 == 0) = true then
    if (n4 == 5) = true then
      if (n12 == 12) = true then
        onCall (X F.eval_Better [.d (.v (.int .i64 0)), .d (.v (.int .i64 2)), .d (.v (.int .i64 1))] []) fun z13 =>
        onBool z13 fun b14 =>
        if b14 = true then
          onCall (X F.eval_Better [.d (.v (.int .i64 3)), .d (.v (.int .i64 1)), .d (.v (.int .i64 2))] []) fun z15 =>
          onBool z15 fun b16 =>
          if b16 = true then
            onCall (X F.eval_Text [.d (.sl 3 1 ([[.v (.int .i64 1)], [.v (.int .i64 0)]]))] []) fun z17 =>
            onStr z17 fun s18 =>
            some (.d (.v (.bool (s18.toList == ({ data := #[49, 32, 48] } : ByteArray).toList))), [])
          else
            some (.d (.v (.bool false)), [])
        else
          some (.d (.v (.bool false)), [])
      else
        some (.d (.v (.bool false)), [])
    else
      some (.d (.v (.bool false)), [])
  else
    some (.d (.v (.bool false)), [])) := by kernel_rfl
def ref12_Value.cf : Cf := { loops := [{ fid := 12, key := 9, live := [1, 2, 8, 9], vecs := [], cvecs := [], nb := 1, cs := [] }] }
noncomputable def ref12_Value.l9 (X : Orc) (k : Nat) (a1 : Rows) (a8 : Int) (a9 : Int) (h0_0 : Int) (h0_1 : Int) (h0_2 : Rows) (h0_3 : Rows) (h0_4 : Int) (h0_5 : Rows) : Option Res := loopAt P X ref12_Value.cf k 12 Go.Proofs.Tryd.f12 9 [(1, .d (.sl 3 1 a1)), (2, .ptr 0 0), (8, .d (.v (.int .i64 a8))), (9, .d (.v (.int .i64 a9)))] [] [.cel [.d (.v (.int .i64 h0_0)), .d (.v (.int .i64 h0_1)), .d (.sl 3 2 h0_2), .d (.sl 3 1 h0_3), .d (.v (.int .i64 h0_4)), .d (.sl 3 2 h0_5)]]
theorem ref12_Value.l9_eq (X : Orc) (k : Nat) (a1 : Rows) (a8 : Int) (a9 : Int) (h0_0 : Int) (h0_1 : Int) (h0_2 : Rows) (h0_3 : Rows) (h0_4 : Int) (h0_5 : Rows) : ref12_Value.l9 X (k + 1) a1 a8 a9 h0_0 h0_1 h0_2 h0_3 h0_4 h0_5 = (
  if decide (a9 < (a1.length : Int)) = true then
    if (h0_0 == 0) = true then
      onIx a9 a1.length fun i1 =>
      onRow a1 i1 fun w2 =>
      onCell w2 0 fun x3 =>
      onInt .i64 x3 fun n4 =>
      onIx n4 h0_2.length fun i5 =>
      onRow h0_2 i5 fun w6 =>
      onCell w6 0 fun x7 =>
      onInt .i64 x7 fun n8 =>
      ref12_Value.l9 X k a1 (IntKind.i64.wrap (a8 + n8)) (IntKind.i64.wrap (a9 + 1)) h0_0 h0_1 h0_2 h0_3 h0_4 h0_5
    else
      if (h0_0 == 1) = true then
        onIx a9 h0_3.length fun i9 =>
        onRow h0_3 i9 fun w10 =>
        onCell w10 0 fun x11 =>
        onSl 1 x11 fun r12 =>
        onIx a9 a1.length fun i13 =>
        onRow a1 i13 fun w14 =>
        onCell w14 0 fun x15 =>
        onInt .i64 x15 fun n16 =>
        onIx n16 r12.length fun i17 =>
        onRow r12 i17 fun w18 =>
        onCell w18 0 fun x19 =>
        onInt .i64 x19 fun n20 =>
        ref12_Value.l9 X k a1 (IntKind.i64.wrap (a8 + n20)) (IntKind.i64.wrap (a9 + 1)) h0_0 h0_1 h0_2 h0_3 h0_4 h0_5
      else
        if (h0_0 == 2) = true then
          if decide ((IntKind.i64.wrap (a9 + 1)) < (a1.length : Int)) = true then
            onIx (IntKind.i64.wrap (a9 + 1)) a1.length fun i21 =>
            onRow a1 i21 fun w22 =>
            onCell w22 0 fun x23 =>
            onInt .i64 x23 fun n24 =>
            onIx a9 a1.length fun i25 =>
            onRow a1 i25 fun w26 =>
            onCell w26 0 fun x27 =>
            onInt .i64 x27 fun n28 =>
            onIx n28 h0_3.length fun i29 =>
            onRow h0_3 i29 fun w30 =>
            onCell w30 0 fun x31 =>
            onSl 1 x31 fun r32 =>
            onIx n24 r32.length fun i33 =>
            onRow r32 i33 fun w34 =>
            onCell w34 0 fun x35 =>
            onInt .i64 x35 fun n36 =>
            ref12_Value.l9 X k a1 (IntKind.i64.wrap (a8 + n36)) (IntKind.i64.wrap (a9 + 1)) h0_0 h0_1 h0_2 h0_3 h0_4 h0_5
          else
            onIx a9 a1.length fun i37 =>
            onRow a1 i37 fun w38 =>
            onCell w38 0 fun x39 =>
            onInt .i64 x39 fun n40 =>
            onIx n40 h0_3.length fun i41 =>
            onRow h0_3 i41 fun w42 =>
            onCell w42 0 fun x43 =>
            onSl 1 x43 fun r44 =>
            onIx 0 r44.length fun i45 =>
            onRow r44 i45 fun w46 =>
            onCell w46 0 fun x47 =>
            onInt .i64 x47 fun n48 =>
            ref12_Value.l9 X k a1 (IntKind.i64.wrap (a8 + n48)) (IntKind.i64.wrap (a9 + 1)) h0_0 h0_1 h0_2 h0_3 h0_4 h0_5
        else
          onIx a9 a1.length fun i49 =>
          onRow a1 i49 fun w50 =>
          onCell w50 0 fun x51 =>
          onInt .i64 x51 fun n52 =>
          onIx n52 h0_5.length fun i53 =>
          onRow h0_5 i53 fun w54 =>
          onCell w54 0 fun x55 =>
          onInt .i64 x55 fun n56 =>
          ref12_Value.l9 X k a1 (IntKind.i64.wrap (a8 + n56)) (IntKind.i64.wrap (a9 + 1)) h0_0 h0_1 h0_2 h0_3 h0_4 h0_5
  else
    some (.d (.tup [.v (.int .i64 a8), .v (.int .i64 0)]), [])) := by kernel_rfl
theorem ref12_Value.eq (X : Orc) (k : Nat) (p0_0 : Int) (p0_1 : Int) (p0_2 : Rows) (p0_3 : Rows) (p0_4 : Int) (p0_5 : Rows) (p1 : Rows) : runF P X ref12_Value.cf (k + 1) F.ref12_Value [.agg [.d (.v (.int .i64 p0_0)), .d (.v (.int .i64 p0_1)), .d (.sl 3 2 p0_2), .d (.sl 3 1 p0_3), .d (.v (.int .i64 p0_4)), .d (.sl 3 2 p0_5)], .d (.sl 3 1 p1)] [] = (
  onCall (X F.ref09_Check [.agg [.d (.v (.int .i64 p0_0)), .d (.v (.int .i64 p0_1)), .d (.sl 3 2 p0_2), .d (.sl 3 1 p0_3), .d (.v (.int .i64 p0_4)), .d (.sl 3 2 p0_5)]] []) fun z1 =>
  onInt .i64 z1 fun n2 =>
  if (n2 != 0) = true then
    some (.d (.tup [.v (.int .i64 0), .v (.int .i64 n2)]), [])
  else
    onCall (X F.ref12_Feasible [.agg [.d (.v (.int .i64 p0_0)), .d (.v (.int .i64 p0_1)), .d (.sl 3 2 p0_2), .d (.sl 3 1 p0_3), .d (.v (.int .i64 p0_4)), .d (.sl 3 2 p0_5)], .d (.sl 3 1 p1)] []) fun z3 =>
    onBool z3 fun b4 =>
    if (!b4) = true then
      some (.d (.tup [.v (.int .i64 0), .v (.int .i64 12)]), [])
    else
      ref12_Value.l9 X k p1 0 0 p0_0 p0_1 p0_2 p0_3 p0_4 p0_5) := by kernel_rfl
def ref12_Cost.cf : Cf := { loops := [] }
theorem ref12_Cost.eq (X : Orc) (k : Nat) (p0_0 : Int) (p0_1 : Int) (p0_2 : Rows) (p0_3 : Rows) (p0_4 : Int) (p0_5 : Rows) (p1 : Rows) : runF P X ref12_Cost.cf (k + 1) F.ref12_Cost [.agg [.d (.v (.int .i64 p0_0)), .d (.v (.int .i64 p0_1)), .d (.sl 3 2 p0_2), .d (.sl 3 1 p0_3), .d (.v (.int .i64 p0_4)), .d (.sl 3 2 p0_5)], .d (.sl 3 1 p1)] [] = (
  onCall (X F.ref12_Value [.agg [.d (.v (.int .i64 p0_0)), .d (.v (.int .i64 p0_1)), .d (.sl 3 2 p0_2), .d (.sl 3 1 p0_3), .d (.v (.int .i64 p0_4)), .d (.sl 3 2 p0_5)], .d (.sl 3 1 p1)] []) fun z1 =>
  onTup 2 z1 fun u2 =>
  onCell u2 0 fun x3 =>
  onInt .i64 x3 fun n4 =>
  onCell u2 1 fun x5 =>
  onInt .i64 x5 fun n6 =>
  if (p0_0 == 0) = true then
    some (.d (.tup [.v (.int .i64 (IntKind.i64.wrap (0 - n4))), .v (.int .i64 n6)]), [])
  else
    some (.d (.tup [.v (.int .i64 n4), .v (.int .i64 n6)]), [])) := by kernel_rfl
def eval_Feasible.cf : Cf := { loops := [] }
theorem eval_Feasible.eq (X : Orc) (k : Nat) (p0_0 : Int) (p0_1 : Int) (p0_2 : Rows) (p0_3 : Rows) (p0_4 : Int) (p0_5 : Rows) (p1 : Rows) : runF P X eval_Feasible.cf (k + 1) F.eval_Feasible [.agg [.d (.v (.int .i64 p0_0)), .d (.v (.int .i64 p0_1)), .d (.sl 3 2 p0_2), .d (.sl 3 1 p0_3), .d (.v (.int .i64 p0_4)), .d (.sl 3 2 p0_5)], .d (.sl 3 1 p1)] [] = (
  onCall (X F.inst_Inst_Check [.agg [.d (.v (.int .i64 p0_0)), .d (.v (.int .i64 p0_1)), .d (.sl 3 2 p0_2), .d (.sl 3 1 p0_3), .d (.v (.int .i64 p0_4)), .d (.sl 3 2 p0_5)]] []) fun z1 =>
  onInt .i64 z1 fun n2 =>
  if (n2 == 0) = true then
    onCall (X F.eval_may [.agg [.d (.v (.int .i64 p0_0)), .d (.v (.int .i64 p0_1)), .d (.sl 3 2 p0_2), .d (.sl 3 1 p0_3), .d (.v (.int .i64 p0_4)), .d (.sl 3 2 p0_5)], .d (.sl 3 1 p1)] []) fun z3 =>
    onBool z3 fun b4 =>
    some (.d (.v (.bool b4)), [])
  else
    some (.d (.v (.bool false)), [])) := by kernel_rfl
def ref12_Feasible.cf : Cf := { loops := [{ fid := 15, key := 9, live := [1, 2, 6, 7, 8], vecs := [], cvecs := [], nb := 1, cs := [] }, { fid := 15, key := 20, live := [1, 2, 10, 11], vecs := [], cvecs := [], nb := 1, cs := [] }] }
noncomputable def ref12_Feasible.l9 (X : Orc) (k : Nat) (a1 : Rows) (a6 : Bool) (a7 : Int) (a8 : Int) (h0_0 : Int) (h0_1 : Int) (h0_2 : Rows) (h0_3 : Rows) (h0_4 : Int) (h0_5 : Rows) : Option Res := loopAt P X ref12_Feasible.cf k 15 Go.Proofs.Tryd.f15 9 [(1, .d (.sl 3 1 a1)), (2, .ptr 0 0), (6, .d (.v (.bool a6))), (7, .d (.v (.int .i64 a7))), (8, .d (.v (.int .i64 a8)))] [] [.cel [.d (.v (.int .i64 h0_0)), .d (.v (.int .i64 h0_1)), .d (.sl 3 2 h0_2), .d (.sl 3 1 h0_3), .d (.v (.int .i64 h0_4)), .d (.sl 3 2 h0_5)]]
noncomputable def ref12_Feasible.l20 (X : Orc) (k : Nat) (a1 : Rows) (a10 : Bool) (a11 : Int) (h0_0 : Int) (h0_1 : Int) (h0_2 : Rows) (h0_3 : Rows) (h0_4 : Int) (h0_5 : Rows) : Option Res := loopAt P X ref12_Feasible.cf k 15 Go.Proofs.Tryd.f15 20 [(1, .d (.sl 3 1 a1)), (2, .ptr 0 0), (10, .d (.v (.bool a10))), (11, .d (.v (.int .i64 a11)))] [] [.cel [.d (.v (.int .i64 h0_0)), .d (.v (.int .i64 h0_1)), .d (.sl 3 2 h0_2), .d (.sl 3 1 h0_3), .d (.v (.int .i64 h0_4)), .d (.sl 3 2 h0_5)]]
theorem ref12_Feasible.l9_eq (X : Orc) (k : Nat) (a1 : Rows) (a6 : Bool) (a7 : Int) (a8 : Int) (h0_0 : Int) (h0_1 : Int) (h0_2 : Rows) (h0_3 : Rows) (h0_4 : Int) (h0_5 : Rows) : ref12_Feasible.l9 X (k + 1) a1 a6 a7 a8 h0_0 h0_1 h0_2 h0_3 h0_4 h0_5 = (
  if decide (a8 < (a1.length : Int)) = true then
    if a6 = true then
      onIx a8 a1.length fun i1 =>
      onRow a1 i1 fun w2 =>
      onCell w2 0 fun x3 =>
      onInt .i64 x3 fun n4 =>
      onIx n4 h0_2.length fun i5 =>
      onRow h0_2 i5 fun w6 =>
      onCell w6 1 fun x7 =>
      onInt .i64 x7 fun n8 =>
      ref12_Feasible.l9 X k a1 a6 (IntKind.i64.wrap (a7 + n8)) (IntKind.i64.wrap (a8 + 1)) h0_0 h0_1 h0_2 h0_3 h0_4 h0_5
    else
      if a6 = true then
        some (.d (.v (.bool (decide (a7 ≤ h0_1)))), [])
      else
        some (.d (.v (.bool false)), [])
  else
    if a6 = true then
      some (.d (.v (.bool (decide (a7 ≤ h0_1)))), [])
    else
      some (.d (.v (.bool false)), [])) := by kernel_rfl
theorem ref12_Feasible.l20_eq (X : Orc) (k : Nat) (a1 : Rows) (a10 : Bool) (a11 : Int) (h0_0 : Int) (h0_1 : Int) (h0_2 : Rows) (h0_3 : Rows) (h0_4 : Int) (h0_5 : Rows) : ref12_Feasible.l20 X (k + 1) a1 a10 a11 h0_0 h0_1 h0_2 h0_3 h0_4 h0_5 = (
  if decide (a11 < h0_4) = true then
    if a10 = true then
      onCall (X F.ref12_has [.d (.sl 3 2 h0_5), .d (.sl 3 1 a1), .d (.v (.int .i64 a11))] []) fun z1 =>
      onBool z1 fun b2 =>
      ref12_Feasible.l20 X k a1 b2 (IntKind.i64.wrap (a11 + 1)) h0_0 h0_1 h0_2 h0_3 h0_4 h0_5
    else
      some (.d (.v (.bool a10)), [])
  else
    some (.d (.v (.bool a10)), [])) := by kernel_rfl
theorem ref12_Feasible.eq (X : Orc) (k : Nat) (p0_0 : Int) (p0_1 : Int) (p0_2 : Rows) (p0_3 : Rows) (p0_4 : Int) (p0_5 : Rows) (p1 : Rows) : runF P X ref12_Feasible.cf (k + 1) F.ref12_Feasible [.agg [.d (.v (.int .i64 p0_0)), .d (.v (.int .i64 p0_1)), .d (.sl 3 2 p0_2), .d (.sl 3 1 p0_3), .d (.v (.int .i64 p0_4)), .d (.sl 3 2 p0_5)], .d (.sl 3 1 p1)] [] = (
  onCall (X F.ref09_Check [.agg [.d (.v (.int .i64 p0_0)), .d (.v (.int .i64 p0_1)), .d (.sl 3 2 p0_2), .d (.sl 3 1 p0_3), .d (.v (.int .i64 p0_4)), .d (.sl 3 2 p0_5)]] []) fun z1 =>
  onInt .i64 z1 fun n2 =>
  if (n2 != 0) = true then
    some (.d (.v (.bool false)), [])
  else
    if (p0_0 == 0) = true then
      onCall (X F.ref12_rises [.d (.sl 3 1 p1), .d (.v (.int .i64 (p0_2.length : Int)))] []) fun z3 =>
      onBool z3 fun b4 =>
      ref12_Feasible.l9 X k p1 b4 0 0 p0_0 p0_1 p0_2 p0_3 p0_4 p0_5
    else
      if (p0_0 == 1) = true then
        onCall (X F.ref12_each [.d (.sl 3 1 p1), .d (.v (.int .i64 (p0_3.length : Int)))] []) fun z5 =>
        onBool z5 fun b6 =>
        some (.d (.v (.bool b6)), [])
      else
        if (p0_0 == 2) = true then
          onCall (X F.ref12_each [.d (.sl 3 1 p1), .d (.v (.int .i64 (p0_3.length : Int)))] []) fun z7 =>
          onBool z7 fun b8 =>
          if b8 = true then
            onIx 0 p1.length fun i9 =>
            onRow p1 i9 fun w10 =>
            onCell w10 0 fun x11 =>
            onInt .i64 x11 fun n12 =>
            some (.d (.v (.bool (n12 == 0))), [])
          else
            some (.d (.v (.bool false)), [])
        else
          onCall (X F.ref12_rises [.d (.sl 3 1 p1), .d (.v (.int .i64 (p0_5.length : Int)))] []) fun z13 =>
          onBool z13 fun b14 =>
          ref12_Feasible.l20 X k p1 b14 0 p0_0 p0_1 p0_2 p0_3 p0_4 p0_5) := by kernel_rfl
def law_tame_fn1.cf : Cf := { loops := [] }
theorem law_tame_fn1.eq (X : Orc) (k : Nat) (p0 : Int) : runF P X law_tame_fn1.cf (k + 1) F.law_tame_fn1 [.d (.v (.int .i64 p0))] [] = (
  some (.d (.v (.int .i64 (if 2147483648 < (if (-2147483648) > p0 then (-2147483648) else p0) then 2147483648 else (if (-2147483648) > p0 then (-2147483648) else p0)))), [])) := by kernel_rfl
def inst_Inst_Check.cf : Cf := { loops := [] }
theorem inst_Inst_Check.eq (X : Orc) (k : Nat) (p0_0 : Int) (p0_1 : Int) (p0_2 : Rows) (p0_3 : Rows) (p0_4 : Int) (p0_5 : Rows) : runF P X inst_Inst_Check.cf (k + 1) F.inst_Inst_Check [.agg [.d (.v (.int .i64 p0_0)), .d (.v (.int .i64 p0_1)), .d (.sl 3 2 p0_2), .d (.sl 3 1 p0_3), .d (.v (.int .i64 p0_4)), .d (.sl 3 2 p0_5)]] [] = (
  onCall (X F.inst_Kind_is [.d (.v (.int .i64 p0_0))] []) fun z1 =>
  onBool z1 fun b2 =>
  if (!b2) = true then
    some (.d (.v (.int .i64 25)), [])
  else
    onCall (X F.inst_Inst_lean [.agg [.d (.v (.int .i64 p0_0)), .d (.v (.int .i64 p0_1)), .d (.sl 3 2 p0_2), .d (.sl 3 1 p0_3), .d (.v (.int .i64 p0_4)), .d (.sl 3 2 p0_5)]] []) fun z3 =>
    onBool z3 fun b4 =>
    if (!b4) = true then
      some (.d (.v (.int .i64 4)), [])
    else
      onCall (X F.inst_Inst_few [.agg [.d (.v (.int .i64 p0_0)), .d (.v (.int .i64 p0_1)), .d (.sl 3 2 p0_2), .d (.sl 3 1 p0_3), .d (.v (.int .i64 p0_4)), .d (.sl 3 2 p0_5)]] []) fun z5 =>
      onBool z5 fun b6 =>
      if (!b6) = true then
        some (.d (.v (.int .i64 22)), [])
      else
        onCall (X F.inst_Inst_shaped [.agg [.d (.v (.int .i64 p0_0)), .d (.v (.int .i64 p0_1)), .d (.sl 3 2 p0_2), .d (.sl 3 1 p0_3), .d (.v (.int .i64 p0_4)), .d (.sl 3 2 p0_5)]] []) fun z7 =>
        onBool z7 fun b8 =>
        if (!b8) = true then
          some (.d (.v (.int .i64 4)), [])
        else
          onCall (X F.inst_Inst_small [.agg [.d (.v (.int .i64 p0_0)), .d (.v (.int .i64 p0_1)), .d (.sl 3 2 p0_2), .d (.sl 3 1 p0_3), .d (.v (.int .i64 p0_4)), .d (.sl 3 2 p0_5)]] []) fun z9 =>
          onBool z9 fun b10 =>
          if (!b10) = true then
            some (.d (.v (.int .i64 22)), [])
          else
            onCall (X F.inst_Inst_bare [.agg [.d (.v (.int .i64 p0_0)), .d (.v (.int .i64 p0_1)), .d (.sl 3 2 p0_2), .d (.sl 3 1 p0_3), .d (.v (.int .i64 p0_4)), .d (.sl 3 2 p0_5)]] []) fun z11 =>
            onBool z11 fun b12 =>
            if (!b12) = true then
              some (.d (.v (.int .i64 4)), [])
            else
              some (.d (.v (.int .i64 0)), [])) := by kernel_rfl
def eval_may.cf : Cf := { loops := [] }
theorem eval_may.eq (X : Orc) (k : Nat) (p0_0 : Int) (p0_1 : Int) (p0_2 : Rows) (p0_3 : Rows) (p0_4 : Int) (p0_5 : Rows) (p1 : Rows) : runF P X eval_may.cf (k + 1) F.eval_may [.agg [.d (.v (.int .i64 p0_0)), .d (.v (.int .i64 p0_1)), .d (.sl 3 2 p0_2), .d (.sl 3 1 p0_3), .d (.v (.int .i64 p0_4)), .d (.sl 3 2 p0_5)], .d (.sl 3 1 p1)] [] = (
  if (p0_0 == 0) = true then
    onCall (X F.eval_rises [.d (.sl 3 1 p1), .d (.v (.int .i64 (p0_2.length : Int)))] []) fun z1 =>
    onBool z1 fun b2 =>
    if b2 = true then
      onCall (X F.eval_fits [.agg [.d (.v (.int .i64 p0_0)), .d (.v (.int .i64 p0_1)), .d (.sl 3 2 p0_2), .d (.sl 3 1 p0_3), .d (.v (.int .i64 p0_4)), .d (.sl 3 2 p0_5)], .d (.sl 3 1 p1)] []) fun z3 =>
      onBool z3 fun b4 =>
      some (.d (.v (.bool b4)), [])
    else
      some (.d (.v (.bool false)), [])
  else
    if (p0_0 == 1) = true then
      onCall (X F.eval_order [.d (.sl 3 1 p1), .d (.v (.int .i64 (p0_3.length : Int)))] []) fun z5 =>
      onBool z5 fun b6 =>
      some (.d (.v (.bool b6)), [])
    else
      if (p0_0 == 2) = true then
        onCall (X F.eval_order [.d (.sl 3 1 p1), .d (.v (.int .i64 (p0_3.length : Int)))] []) fun z7 =>
        onBool z7 fun b8 =>
        if b8 = true then
          onIx 0 p1.length fun i9 =>
          onRow p1 i9 fun w10 =>
          onCell w10 0 fun x11 =>
          onInt .i64 x11 fun n12 =>
          some (.d (.v (.bool (n12 == 0))), [])
        else
          some (.d (.v (.bool false)), [])
      else
        onCall (X F.eval_rises [.d (.sl 3 1 p1), .d (.v (.int .i64 (p0_5.length : Int)))] []) fun z13 =>
        onBool z13 fun b14 =>
        if b14 = true then
          onCall (X F.eval_covers [.agg [.d (.v (.int .i64 p0_0)), .d (.v (.int .i64 p0_1)), .d (.sl 3 2 p0_2), .d (.sl 3 1 p0_3), .d (.v (.int .i64 p0_4)), .d (.sl 3 2 p0_5)], .d (.sl 3 1 p1)] []) fun z15 =>
          onBool z15 fun b16 =>
          some (.d (.v (.bool b16)), [])
        else
          some (.d (.v (.bool false)), [])) := by kernel_rfl
def num_Sum.cf : Cf := { loops := [] }
theorem num_Sum.eq (X : Orc) (k : Nat) (p0 : Rows) : runF P X num_Sum.cf (k + 1) F.num_Sum [.d (.sl 3 1 p0)] [] = (
  onCall (X F.num_total [.d (.sl 3 1 p0)] []) fun z1 =>
  onAgg 3 z1 fun c2 =>
  onCell c2 0 fun x3 =>
  onBool x3 fun b4 =>
  onCell c2 1 fun x5 =>
  onInt .u64 x5 fun n6 =>
  onCell c2 2 fun x7 =>
  onInt .u64 x7 fun n8 =>
  onCall (X F.num_short [.agg [.d (.v (.bool b4)), .d (.v (.int .u64 n6)), .d (.v (.int .u64 n8))]] []) fun z9 =>
  onTup 2 z9 fun u10 =>
  onCell u10 0 fun x11 =>
  onInt .i64 x11 fun n12 =>
  onCell u10 1 fun x13 =>
  onBool x13 fun b14 =>
  some (.d (.tup [.v (.int .i64 n12), .v (.bool b14)]), [])) := by kernel_rfl
def eval_parts.cf : Cf := { loops := [{ fid := 20, key := 3, live := [1, 2, 5, 8, 9, 10], vecs := [(5, 1)], cvecs := [], nb := 2, cs := [] }] }
noncomputable def eval_parts.l3 (X : Orc) (k : Nat) (a1 : Rows) (a8 : Rows) (a9 : Int) (a10 : Int) (h0_0 : Int) (h0_1 : Int) (h0_2 : Rows) (h0_3 : Rows) (h0_4 : Int) (h0_5 : Rows) (H1 : Rows) : Option Res := loopAt P X eval_parts.cf k 20 Go.Proofs.Tryd.f20 3 [(1, .d (.sl 3 1 a1)), (2, .ptr 0 0), (5, .vh 1 0 1 H1.length), (8, .d (.sl 3 1 a8)), (9, .d (.v (.int .i64 a9))), (10, .d (.v (.int .i64 a10)))] [] [.cel [.d (.v (.int .i64 h0_0)), .d (.v (.int .i64 h0_1)), .d (.sl 3 2 h0_2), .d (.sl 3 1 h0_3), .d (.v (.int .i64 h0_4)), .d (.sl 3 2 h0_5)], .vec 1 0 H1]
theorem eval_parts.l3_eq (X : Orc) (k : Nat) (a1 : Rows) (a8 : Rows) (a9 : Int) (a10 : Int) (h0_0 : Int) (h0_1 : Int) (h0_2 : Rows) (h0_3 : Rows) (h0_4 : Int) (h0_5 : Rows) (H1 : Rows) : eval_parts.l3 X (k + 1) a1 a8 a9 a10 h0_0 h0_1 h0_2 h0_3 h0_4 h0_5 H1 = (
  if decide (a10 < a9) = true then
    onIx a10 a8.length fun i1 =>
    onRow a8 i1 fun w2 =>
    onCell w2 0 fun x3 =>
    onInt .i64 x3 fun n4 =>
    if (h0_0 == 0) = true then
      onIx n4 h0_2.length fun i5 =>
      onRow h0_2 i5 fun w6 =>
      onCell w6 0 fun x7 =>
      onInt .i64 x7 fun n8 =>
      onRoom (H1.length + 1) <|
      eval_parts.l3 X k a1 a8 a9 (IntKind.i64.wrap (a10 + 1)) h0_0 h0_1 h0_2 h0_3 h0_4 h0_5 (H1 ++ ([[.v (.int .i64 n8)]]))
    else
      if (h0_0 == 1) = true then
        onIx a10 h0_3.length fun i9 =>
        onRow h0_3 i9 fun w10 =>
        onCell w10 0 fun x11 =>
        onSl 1 x11 fun r12 =>
        onIx n4 r12.length fun i13 =>
        onRow r12 i13 fun w14 =>
        onCell w14 0 fun x15 =>
        onInt .i64 x15 fun n16 =>
        onRoom (H1.length + 1) <|
        eval_parts.l3 X k a1 a8 a9 (IntKind.i64.wrap (a10 + 1)) h0_0 h0_1 h0_2 h0_3 h0_4 h0_5 (H1 ++ ([[.v (.int .i64 n16)]]))
      else
        if (h0_0 == 2) = true then
          onIx n4 h0_3.length fun i17 =>
          onRow h0_3 i17 fun w18 =>
          onCell w18 0 fun x19 =>
          onSl 1 x19 fun r20 =>
          if (a1.length : Int) = 0 then
            none
          else
            onIx ((IntKind.i64.wrap (a10 + 1)).tmod (a1.length : Int)) a1.length fun i21 =>
            onRow a1 i21 fun w22 =>
            onCell w22 0 fun x23 =>
            onInt .i64 x23 fun n24 =>
            onIx n24 r20.length fun i25 =>
            onRow r20 i25 fun w26 =>
            onCell w26 0 fun x27 =>
            onInt .i64 x27 fun n28 =>
            onRoom (H1.length + 1) <|
            eval_parts.l3 X k a1 a8 a9 (IntKind.i64.wrap (a10 + 1)) h0_0 h0_1 h0_2 h0_3 h0_4 h0_5 (H1 ++ ([[.v (.int .i64 n28)]]))
        else
          onIx n4 h0_5.length fun i29 =>
          onRow h0_5 i29 fun w30 =>
          onCell w30 0 fun x31 =>
          onInt .i64 x31 fun n32 =>
          onRoom (H1.length + 1) <|
          eval_parts.l3 X k a1 a8 a9 (IntKind.i64.wrap (a10 + 1)) h0_0 h0_1 h0_2 h0_3 h0_4 h0_5 (H1 ++ ([[.v (.int .i64 n32)]]))
  else
    some (.d (.sl 3 1 H1), [])) := by kernel_rfl
theorem eval_parts.eq (X : Orc) (k : Nat) (p0_0 : Int) (p0_1 : Int) (p0_2 : Rows) (p0_3 : Rows) (p0_4 : Int) (p0_5 : Rows) (p1 : Rows) : runF P X eval_parts.cf (k + 1) F.eval_parts [.agg [.d (.v (.int .i64 p0_0)), .d (.v (.int .i64 p0_1)), .d (.sl 3 2 p0_2), .d (.sl 3 1 p0_3), .d (.v (.int .i64 p0_4)), .d (.sl 3 2 p0_5)], .d (.sl 3 1 p1)] [] = (
  eval_parts.l3 X k p1 p1 (p1.length : Int) 0 p0_0 p0_1 p0_2 p0_3 p0_4 p0_5 ([])) := by kernel_rfl
def eval_Text.cf : Cf := { loops := [{ fid := 21, key := 5, live := [3, 9, 10, 11], vecs := [(3, 1)], cvecs := [], nb := 1, cs := [] }] }
noncomputable def eval_Text.l5 (X : Orc) (k : Nat) (a9 : Rows) (a10 : Int) (a11 : Int) (H0 : Rows) : Option Res := loopAt P X eval_Text.cf k 21 Go.Proofs.Tryd.f21 5 [(3, .vh 0 0 1 H0.length), (9, .d (.sl 3 1 a9)), (10, .d (.v (.int .i64 a10))), (11, .d (.v (.int .i64 a11)))] [] [.vec 1 0 H0]
theorem eval_Text.l5_eq (X : Orc) (k : Nat) (a9 : Rows) (a10 : Int) (a11 : Int) (H0 : Rows) : eval_Text.l5 X (k + 1) a9 a10 a11 H0 = (
  if decide (a11 < a10) = true then
    onIx a11 a9.length fun i1 =>
    onRow a9 i1 fun w2 =>
    onCell w2 0 fun x3 =>
    onInt .i64 x3 fun n4 =>
    onCall (X F.strconv_Itoa [.d (.v (.int .i64 n4))] []) fun z5 =>
    onStr z5 fun s6 =>
    onRoom (H0.length + 1) <|
    eval_Text.l5 X k a9 a10 (IntKind.i64.wrap (a11 + 1)) (H0 ++ ([[.v (.string s6)]]))
  else
    onCall (X F.strings_Join [.d (.sl 3 1 H0), .d (.v (.string ({ data := #[32] } : ByteArray)))] []) fun z7 =>
    onStr z7 fun s8 =>
    some (.d (.v (.string s8)), [])) := by kernel_rfl
theorem eval_Text.eq (X : Orc) (k : Nat) (p0 : Rows) : runF P X eval_Text.cf (k + 1) F.eval_Text [.d (.sl 3 1 p0)] [] = (
  if ((p0.length : Int) == 0) = true then
    some (.d (.v (.string ({ data := #[45] } : ByteArray))), [])
  else
    eval_Text.l5 X k p0 (p0.length : Int) 0 ([])) := by kernel_rfl
def ref09_Check.cf : Cf := { loops := [{ fid := 22, key := 9, live := [1, 4], vecs := [], cvecs := [], nb := 1, cs := [] }, { fid := 22, key := 14, live := [1, 5], vecs := [], cvecs := [], nb := 1, cs := [] }, { fid := 22, key := 18, live := [1, 5, 6, 7], vecs := [], cvecs := [], nb := 1, cs := [] }, { fid := 22, key := 26, live := [1, 9], vecs := [], cvecs := [], nb := 1, cs := [] }], joins := [{ fid := 22, key := 4, live := [1, 3], vecs := [], cvecs := [], nb := 1, cs := [] }, { fid := 22, key := 6, live := [1, 3], vecs := [], cvecs := [], nb := 1, cs := [] }, { fid := 22, key := 8, live := [1], vecs := [], cvecs := [], nb := 1, cs := [] }] }
noncomputable def ref09_Check.j4 (X : Orc) (k : Nat) (a3 : Bool) (h0_0 : Int) (h0_1 : Int) (h0_2 : Rows) (h0_3 : Rows) (h0_4 : Int) (h0_5 : Rows) : Option Res := joinAt P X ref09_Check.cf k 22 Go.Proofs.Tryd.f22 4 [(1, .ptr 0 0), (3, .d (.v (.bool a3)))] [] [.cel [.d (.v (.int .i64 h0_0)), .d (.v (.int .i64 h0_1)), .d (.sl 3 2 h0_2), .d (.sl 3 1 h0_3), .d (.v (.int .i64 h0_4)), .d (.sl 3 2 h0_5)]]
noncomputable def ref09_Check.j6 (X : Orc) (k : Nat) (a3 : Bool) (h0_0 : Int) (h0_1 : Int) (h0_2 : Rows) (h0_3 : Rows) (h0_4 : Int) (h0_5 : Rows) : Option Res := joinAt P X ref09_Check.cf k 22 Go.Proofs.Tryd.f22 6 [(1, .ptr 0 0), (3, .d (.v (.bool a3)))] [] [.cel [.d (.v (.int .i64 h0_0)), .d (.v (.int .i64 h0_1)), .d (.sl 3 2 h0_2), .d (.sl 3 1 h0_3), .d (.v (.int .i64 h0_4)), .d (.sl 3 2 h0_5)]]
noncomputable def ref09_Check.j8 (X : Orc) (k : Nat) (h0_0 : Int) (h0_1 : Int) (h0_2 : Rows) (h0_3 : Rows) (h0_4 : Int) (h0_5 : Rows) : Option Res := joinAt P X ref09_Check.cf k 22 Go.Proofs.Tryd.f22 8 [(1, .ptr 0 0)] [] [.cel [.d (.v (.int .i64 h0_0)), .d (.v (.int .i64 h0_1)), .d (.sl 3 2 h0_2), .d (.sl 3 1 h0_3), .d (.v (.int .i64 h0_4)), .d (.sl 3 2 h0_5)]]
noncomputable def ref09_Check.l9 (X : Orc) (k : Nat) (a4 : Int) (h0_0 : Int) (h0_1 : Int) (h0_2 : Rows) (h0_3 : Rows) (h0_4 : Int) (h0_5 : Rows) : Option Res := loopAt P X ref09_Check.cf k 22 Go.Proofs.Tryd.f22 9 [(1, .ptr 0 0), (4, .d (.v (.int .i64 a4)))] [] [.cel [.d (.v (.int .i64 h0_0)), .d (.v (.int .i64 h0_1)), .d (.sl 3 2 h0_2), .d (.sl 3 1 h0_3), .d (.v (.int .i64 h0_4)), .d (.sl 3 2 h0_5)]]
noncomputable def ref09_Check.l14 (X : Orc) (k : Nat) (a5 : Int) (h0_0 : Int) (h0_1 : Int) (h0_2 : Rows) (h0_3 : Rows) (h0_4 : Int) (h0_5 : Rows) : Option Res := loopAt P X ref09_Check.cf k 22 Go.Proofs.Tryd.f22 14 [(1, .ptr 0 0), (5, .d (.v (.int .i64 a5)))] [] [.cel [.d (.v (.int .i64 h0_0)), .d (.v (.int .i64 h0_1)), .d (.sl 3 2 h0_2), .d (.sl 3 1 h0_3), .d (.v (.int .i64 h0_4)), .d (.sl 3 2 h0_5)]]
noncomputable def ref09_Check.l18 (X : Orc) (k : Nat) (a5 : Int) (a6 : Rows) (a7 : Int) (h0_0 : Int) (h0_1 : Int) (h0_2 : Rows) (h0_3 : Rows) (h0_4 : Int) (h0_5 : Rows) : Option Res := loopAt P X ref09_Check.cf k 22 Go.Proofs.Tryd.f22 18 [(1, .ptr 0 0), (5, .d (.v (.int .i64 a5))), (6, .d (.sl 3 1 a6)), (7, .d (.v (.int .i64 a7)))] [] [.cel [.d (.v (.int .i64 h0_0)), .d (.v (.int .i64 h0_1)), .d (.sl 3 2 h0_2), .d (.sl 3 1 h0_3), .d (.v (.int .i64 h0_4)), .d (.sl 3 2 h0_5)]]
noncomputable def ref09_Check.l26 (X : Orc) (k : Nat) (a9 : Int) (h0_0 : Int) (h0_1 : Int) (h0_2 : Rows) (h0_3 : Rows) (h0_4 : Int) (h0_5 : Rows) : Option Res := loopAt P X ref09_Check.cf k 22 Go.Proofs.Tryd.f22 26 [(1, .ptr 0 0), (9, .d (.v (.int .i64 a9)))] [] [.cel [.d (.v (.int .i64 h0_0)), .d (.v (.int .i64 h0_1)), .d (.sl 3 2 h0_2), .d (.sl 3 1 h0_3), .d (.v (.int .i64 h0_4)), .d (.sl 3 2 h0_5)]]
theorem ref09_Check.j4_eq (X : Orc) (k : Nat) (a3 : Bool) (h0_0 : Int) (h0_1 : Int) (h0_2 : Rows) (h0_3 : Rows) (h0_4 : Int) (h0_5 : Rows) : ref09_Check.j4 X (k + 1) a3 h0_0 h0_1 h0_2 h0_3 h0_4 h0_5 = (
  if (h0_0 != 0) = true then
    if (h0_1 != 0) = true then
      some (.d (.v (.int .i64 4)), [])
    else
      if decide ((h0_2.length : Int) > 0) = true then
        some (.d (.v (.int .i64 4)), [])
      else
        if (!a3) = true then
          if decide ((h0_3.length : Int) > 0) = true then
            some (.d (.v (.int .i64 4)), [])
          else
            if (h0_0 != 3) = true then
              if (h0_4 != 0) = true then
                some (.d (.v (.int .i64 4)), [])
              else
                if decide ((h0_5.length : Int) > 0) = true then
                  some (.d (.v (.int .i64 4)), [])
                else
                  ref09_Check.j6 X k a3 h0_0 h0_1 h0_2 h0_3 h0_4 h0_5
            else
              ref09_Check.j6 X k a3 h0_0 h0_1 h0_2 h0_3 h0_4 h0_5
        else
          if (h0_0 != 3) = true then
            if (h0_4 != 0) = true then
              some (.d (.v (.int .i64 4)), [])
            else
              if decide ((h0_5.length : Int) > 0) = true then
                some (.d (.v (.int .i64 4)), [])
              else
                ref09_Check.j6 X k a3 h0_0 h0_1 h0_2 h0_3 h0_4 h0_5
          else
            ref09_Check.j6 X k a3 h0_0 h0_1 h0_2 h0_3 h0_4 h0_5
  else
    if (!a3) = true then
      if decide ((h0_3.length : Int) > 0) = true then
        some (.d (.v (.int .i64 4)), [])
      else
        if (h0_0 != 3) = true then
          if (h0_4 != 0) = true then
            some (.d (.v (.int .i64 4)), [])
          else
            if decide ((h0_5.length : Int) > 0) = true then
              some (.d (.v (.int .i64 4)), [])
            else
              ref09_Check.j6 X k a3 h0_0 h0_1 h0_2 h0_3 h0_4 h0_5
        else
          ref09_Check.j6 X k a3 h0_0 h0_1 h0_2 h0_3 h0_4 h0_5
    else
      if (h0_0 != 3) = true then
        if (h0_4 != 0) = true then
          some (.d (.v (.int .i64 4)), [])
        else
          if decide ((h0_5.length : Int) > 0) = true then
            some (.d (.v (.int .i64 4)), [])
          else
            ref09_Check.j6 X k a3 h0_0 h0_1 h0_2 h0_3 h0_4 h0_5
      else
        ref09_Check.j6 X k a3 h0_0 h0_1 h0_2 h0_3 h0_4 h0_5) := by kernel_rfl
theorem ref09_Check.j6_eq (X : Orc) (k : Nat) (a3 : Bool) (h0_0 : Int) (h0_1 : Int) (h0_2 : Rows) (h0_3 : Rows) (h0_4 : Int) (h0_5 : Rows) : ref09_Check.j6 X (k + 1) a3 h0_0 h0_1 h0_2 h0_3 h0_4 h0_5 = (
  if decide ((h0_2.length : Int) > 4096) = true then
    some (.d (.v (.int .i64 22)), [])
  else
    if decide ((h0_5.length : Int) > 4096) = true then
      some (.d (.v (.int .i64 22)), [])
    else
      if decide ((h0_3.length : Int) > 64) = true then
        some (.d (.v (.int .i64 22)), [])
      else
        if a3 = true then
          if ((h0_3.length : Int) == 0) = true then
            some (.d (.v (.int .i64 22)), [])
          else
            if decide (h0_4 < 0) = true then
              some (.d (.v (.int .i64 22)), [])
            else
              if decide (h0_4 > 4096) = true then
                some (.d (.v (.int .i64 22)), [])
              else
                ref09_Check.j8 X k h0_0 h0_1 h0_2 h0_3 h0_4 h0_5
        else
          if decide (h0_4 < 0) = true then
            some (.d (.v (.int .i64 22)), [])
          else
            if decide (h0_4 > 4096) = true then
              some (.d (.v (.int .i64 22)), [])
            else
              ref09_Check.j8 X k h0_0 h0_1 h0_2 h0_3 h0_4 h0_5) := by kernel_rfl
theorem ref09_Check.j8_eq (X : Orc) (k : Nat) (h0_0 : Int) (h0_1 : Int) (h0_2 : Rows) (h0_3 : Rows) (h0_4 : Int) (h0_5 : Rows) : ref09_Check.j8 X (k + 1) h0_0 h0_1 h0_2 h0_3 h0_4 h0_5 = (
  ref09_Check.l9 X k 0 h0_0 h0_1 h0_2 h0_3 h0_4 h0_5) := by kernel_rfl
theorem ref09_Check.l9_eq (X : Orc) (k : Nat) (a4 : Int) (h0_0 : Int) (h0_1 : Int) (h0_2 : Rows) (h0_3 : Rows) (h0_4 : Int) (h0_5 : Rows) : ref09_Check.l9 X (k + 1) a4 h0_0 h0_1 h0_2 h0_3 h0_4 h0_5 = (
  if decide (a4 < (h0_3.length : Int)) = true then
    onIx a4 h0_3.length fun i1 =>
    onRow h0_3 i1 fun w2 =>
    onCell w2 0 fun x3 =>
    onSl 1 x3 fun r4 =>
    if ((r4.length : Int) != (h0_3.length : Int)) = true then
      some (.d (.v (.int .i64 4)), [])
    else
      ref09_Check.l9 X k (IntKind.i64.wrap (a4 + 1)) h0_0 h0_1 h0_2 h0_3 h0_4 h0_5
  else
    ref09_Check.l14 X k 0 h0_0 h0_1 h0_2 h0_3 h0_4 h0_5) := by kernel_rfl
theorem ref09_Check.l14_eq (X : Orc) (k : Nat) (a5 : Int) (h0_0 : Int) (h0_1 : Int) (h0_2 : Rows) (h0_3 : Rows) (h0_4 : Int) (h0_5 : Rows) : ref09_Check.l14 X (k + 1) a5 h0_0 h0_1 h0_2 h0_3 h0_4 h0_5 = (
  if decide (a5 < (h0_5.length : Int)) = true then
    onIx a5 h0_5.length fun i1 =>
    onRow h0_5 i1 fun w2 =>
    onCell w2 1 fun x3 =>
    onSl 1 x3 fun r4 =>
    ref09_Check.l18 X k a5 r4 0 h0_0 h0_1 h0_2 h0_3 h0_4 h0_5
  else
    onCall (X F.ref09_numbers [.agg [.d (.v (.int .i64 h0_0)), .d (.v (.int .i64 h0_1)), .d (.sl 3 2 h0_2), .d (.sl 3 1 h0_3), .d (.v (.int .i64 h0_4)), .d (.sl 3 2 h0_5)]] []) fun z5 =>
    onBool z5 fun b6 =>
    if (!b6) = true then
      some (.d (.v (.int .i64 22)), [])
    else
      ref09_Check.l26 X k 0 h0_0 h0_1 h0_2 h0_3 h0_4 h0_5) := by kernel_rfl
theorem ref09_Check.l18_eq (X : Orc) (k : Nat) (a5 : Int) (a6 : Rows) (a7 : Int) (h0_0 : Int) (h0_1 : Int) (h0_2 : Rows) (h0_3 : Rows) (h0_4 : Int) (h0_5 : Rows) : ref09_Check.l18 X (k + 1) a5 a6 a7 h0_0 h0_1 h0_2 h0_3 h0_4 h0_5 = (
  if decide (a7 < (a6.length : Int)) = true then
    onIx a7 a6.length fun i1 =>
    onRow a6 i1 fun w2 =>
    onCell w2 0 fun x3 =>
    onInt .i64 x3 fun n4 =>
    if decide (n4 < 0) = true then
      some (.d (.v (.int .i64 4)), [])
    else
      onIx a7 a6.length fun i5 =>
      onRow a6 i5 fun w6 =>
      onCell w6 0 fun x7 =>
      onInt .i64 x7 fun n8 =>
      if decide (n8 ≥ h0_4) = true then
        some (.d (.v (.int .i64 4)), [])
      else
        if decide (a7 > 0) = true then
          onIx a7 a6.length fun i9 =>
          onRow a6 i9 fun w10 =>
          onCell w10 0 fun x11 =>
          onInt .i64 x11 fun n12 =>
          onIx (IntKind.i64.wrap (a7 - 1)) a6.length fun i13 =>
          onRow a6 i13 fun w14 =>
          onCell w14 0 fun x15 =>
          onInt .i64 x15 fun n16 =>
          if decide (n12 ≤ n16) = true then
            some (.d (.v (.int .i64 4)), [])
          else
            ref09_Check.l18 X k a5 a6 (IntKind.i64.wrap (a7 + 1)) h0_0 h0_1 h0_2 h0_3 h0_4 h0_5
        else
          ref09_Check.l18 X k a5 a6 (IntKind.i64.wrap (a7 + 1)) h0_0 h0_1 h0_2 h0_3 h0_4 h0_5
  else
    ref09_Check.l14 X k (IntKind.i64.wrap (a5 + 1)) h0_0 h0_1 h0_2 h0_3 h0_4 h0_5) := by kernel_rfl
theorem ref09_Check.l26_eq (X : Orc) (k : Nat) (a9 : Int) (h0_0 : Int) (h0_1 : Int) (h0_2 : Rows) (h0_3 : Rows) (h0_4 : Int) (h0_5 : Rows) : ref09_Check.l26 X (k + 1) a9 h0_0 h0_1 h0_2 h0_3 h0_4 h0_5 = (
  if decide (a9 < (h0_3.length : Int)) = true then
    if (h0_0 == 2) = true then
      onIx a9 h0_3.length fun i1 =>
      onRow h0_3 i1 fun w2 =>
      onCell w2 0 fun x3 =>
      onSl 1 x3 fun r4 =>
      onIx a9 r4.length fun i5 =>
      onRow r4 i5 fun w6 =>
      onCell w6 0 fun x7 =>
      onInt .i64 x7 fun n8 =>
      if (n8 != 0) = true then
        some (.d (.v (.int .i64 4)), [])
      else
        ref09_Check.l26 X k (IntKind.i64.wrap (a9 + 1)) h0_0 h0_1 h0_2 h0_3 h0_4 h0_5
    else
      some (.d (.v (.int .i64 0)), [])
  else
    some (.d (.v (.int .i64 0)), [])) := by kernel_rfl
theorem ref09_Check.eq (X : Orc) (k : Nat) (p0_0 : Int) (p0_1 : Int) (p0_2 : Rows) (p0_3 : Rows) (p0_4 : Int) (p0_5 : Rows) : runF P X ref09_Check.cf (k + 1) F.ref09_Check [.agg [.d (.v (.int .i64 p0_0)), .d (.v (.int .i64 p0_1)), .d (.sl 3 2 p0_2), .d (.sl 3 1 p0_3), .d (.v (.int .i64 p0_4)), .d (.sl 3 2 p0_5)]] [] = (
  if decide (p0_0 < 0) = true then
    some (.d (.v (.int .i64 25)), [])
  else
    if decide (p0_0 > 3) = true then
      some (.d (.v (.int .i64 25)), [])
    else
      if (p0_0 == 1) = true then
        ref09_Check.j4 X k true p0_0 p0_1 p0_2 p0_3 p0_4 p0_5
      else
        ref09_Check.j4 X k (p0_0 == 2) p0_0 p0_1 p0_2 p0_3 p0_4 p0_5) := by kernel_rfl
def ref12_rises.cf : Cf := { loops := [{ fid := 23, key := 2, live := [0, 1, 5], vecs := [], cvecs := [], nb := 0, cs := [] }] }
noncomputable def ref12_rises.l2 (X : Orc) (k : Nat) (a0 : Rows) (a1 : Int) (a5 : Int) : Option Res := loopAt P X ref12_rises.cf k 23 Go.Proofs.Tryd.f23 2 [(0, .d (.sl 3 1 a0)), (1, .d (.v (.int .i64 a1))), (5, .d (.v (.int .i64 a5)))] [] []
theorem ref12_rises.l2_eq (X : Orc) (k : Nat) (a0 : Rows) (a1 : Int) (a5 : Int) : ref12_rises.l2 X (k + 1) a0 a1 a5 = (
  if decide (a5 < (a0.length : Int)) = true then
    onIx a5 a0.length fun i1 =>
    onRow a0 i1 fun w2 =>
    onCell w2 0 fun x3 =>
    onInt .i64 x3 fun n4 =>
    if decide (n4 < 0) = true then
      some (.d (.v (.bool false)), [])
    else
      onIx a5 a0.length fun i5 =>
      onRow a0 i5 fun w6 =>
      onCell w6 0 fun x7 =>
      onInt .i64 x7 fun n8 =>
      if decide (n8 ≥ a1) = true then
        some (.d (.v (.bool false)), [])
      else
        if decide (a5 > 0) = true then
          onIx a5 a0.length fun i9 =>
          onRow a0 i9 fun w10 =>
          onCell w10 0 fun x11 =>
          onInt .i64 x11 fun n12 =>
          onIx (IntKind.i64.wrap (a5 - 1)) a0.length fun i13 =>
          onRow a0 i13 fun w14 =>
          onCell w14 0 fun x15 =>
          onInt .i64 x15 fun n16 =>
          if decide (n12 ≤ n16) = true then
            some (.d (.v (.bool false)), [])
          else
            ref12_rises.l2 X k a0 a1 (IntKind.i64.wrap (a5 + 1))
        else
          ref12_rises.l2 X k a0 a1 (IntKind.i64.wrap (a5 + 1))
  else
    some (.d (.v (.bool true)), [])) := by kernel_rfl
theorem ref12_rises.eq (X : Orc) (k : Nat) (p0 : Rows) (p1 : Int) : runF P X ref12_rises.cf (k + 1) F.ref12_rises [.d (.sl 3 1 p0), .d (.v (.int .i64 p1))] [] = (
  ref12_rises.l2 X k p0 p1 0) := by kernel_rfl
def ref12_each.cf : Cf := { loops := [{ fid := 24, key := 2, live := [0, 1, 5], vecs := [], cvecs := [], nb := 0, cs := [] }, { fid := 24, key := 6, live := [0, 1, 5, 6, 7], vecs := [], cvecs := [], nb := 0, cs := [] }] }
noncomputable def ref12_each.l2 (X : Orc) (k : Nat) (a0 : Rows) (a1 : Int) (a5 : Int) : Option Res := loopAt P X ref12_each.cf k 24 Go.Proofs.Tryd.f24 2 [(0, .d (.sl 3 1 a0)), (1, .d (.v (.int .i64 a1))), (5, .d (.v (.int .i64 a5)))] [] []
noncomputable def ref12_each.l6 (X : Orc) (k : Nat) (a0 : Rows) (a1 : Int) (a5 : Int) (a6 : Int) (a7 : Int) : Option Res := loopAt P X ref12_each.cf k 24 Go.Proofs.Tryd.f24 6 [(0, .d (.sl 3 1 a0)), (1, .d (.v (.int .i64 a1))), (5, .d (.v (.int .i64 a5))), (6, .d (.v (.int .i64 a6))), (7, .d (.v (.int .i64 a7)))] [] []
theorem ref12_each.l2_eq (X : Orc) (k : Nat) (a0 : Rows) (a1 : Int) (a5 : Int) : ref12_each.l2 X (k + 1) a0 a1 a5 = (
  if decide (a5 < a1) = true then
    ref12_each.l6 X k a0 a1 a5 0 0
  else
    some (.d (.v (.bool ((a0.length : Int) == a1))), [])) := by kernel_rfl
theorem ref12_each.l6_eq (X : Orc) (k : Nat) (a0 : Rows) (a1 : Int) (a5 : Int) (a6 : Int) (a7 : Int) : ref12_each.l6 X (k + 1) a0 a1 a5 a6 a7 = (
  if decide (a7 < (a0.length : Int)) = true then
    onIx a7 a0.length fun i1 =>
    onRow a0 i1 fun w2 =>
    onCell w2 0 fun x3 =>
    onInt .i64 x3 fun n4 =>
    if (n4 == a5) = true then
      ref12_each.l6 X k a0 a1 a5 (IntKind.i64.wrap (a6 + 1)) (IntKind.i64.wrap (a7 + 1))
    else
      ref12_each.l6 X k a0 a1 a5 a6 (IntKind.i64.wrap (a7 + 1))
  else
    if (a6 != 1) = true then
      some (.d (.v (.bool false)), [])
    else
      ref12_each.l2 X k a0 a1 (IntKind.i64.wrap (a5 + 1))) := by kernel_rfl
theorem ref12_each.eq (X : Orc) (k : Nat) (p0 : Rows) (p1 : Int) : runF P X ref12_each.cf (k + 1) F.ref12_each [.d (.sl 3 1 p0), .d (.v (.int .i64 p1))] [] = (
  ref12_each.l2 X k p0 p1 0) := by kernel_rfl
def ref12_has.cf : Cf := { loops := [{ fid := 25, key := 2, live := [0, 1, 2, 7], vecs := [], cvecs := [], nb := 0, cs := [] }, { fid := 25, key := 5, live := [0, 1, 2, 7, 8], vecs := [], cvecs := [], nb := 0, cs := [] }] }
noncomputable def ref12_has.l2 (X : Orc) (k : Nat) (a0 : Rows) (a1 : Rows) (a2 : Int) (a7 : Int) : Option Res := loopAt P X ref12_has.cf k 25 Go.Proofs.Tryd.f25 2 [(0, .d (.sl 3 2 a0)), (1, .d (.sl 3 1 a1)), (2, .d (.v (.int .i64 a2))), (7, .d (.v (.int .i64 a7)))] [] []
noncomputable def ref12_has.l5 (X : Orc) (k : Nat) (a0 : Rows) (a1 : Rows) (a2 : Int) (a7 : Int) (a8 : Int) : Option Res := loopAt P X ref12_has.cf k 25 Go.Proofs.Tryd.f25 5 [(0, .d (.sl 3 2 a0)), (1, .d (.sl 3 1 a1)), (2, .d (.v (.int .i64 a2))), (7, .d (.v (.int .i64 a7))), (8, .d (.v (.int .i64 a8)))] [] []
theorem ref12_has.l2_eq (X : Orc) (k : Nat) (a0 : Rows) (a1 : Rows) (a2 : Int) (a7 : Int) : ref12_has.l2 X (k + 1) a0 a1 a2 a7 = (
  if decide (a7 < (a1.length : Int)) = true then
    ref12_has.l5 X k a0 a1 a2 a7 0
  else
    some (.d (.v (.bool false)), [])) := by kernel_rfl
theorem ref12_has.l5_eq (X : Orc) (k : Nat) (a0 : Rows) (a1 : Rows) (a2 : Int) (a7 : Int) (a8 : Int) : ref12_has.l5 X (k + 1) a0 a1 a2 a7 a8 = (
  onIx a7 a1.length fun i1 =>
  onRow a1 i1 fun w2 =>
  onCell w2 0 fun x3 =>
  onInt .i64 x3 fun n4 =>
  onIx n4 a0.length fun i5 =>
  onRow a0 i5 fun w6 =>
  onCell w6 1 fun x7 =>
  onSl 1 x7 fun r8 =>
  if decide (a8 < (r8.length : Int)) = true then
    onIx a7 a1.length fun i9 =>
    onRow a1 i9 fun w10 =>
    onCell w10 0 fun x11 =>
    onInt .i64 x11 fun n12 =>
    onIx n12 a0.length fun i13 =>
    onRow a0 i13 fun w14 =>
    onCell w14 1 fun x15 =>
    onSl 1 x15 fun r16 =>
    onIx a8 r16.length fun i17 =>
    onRow r16 i17 fun w18 =>
    onCell w18 0 fun x19 =>
    onInt .i64 x19 fun n20 =>
    if (n20 == a2) = true then
      some (.d (.v (.bool true)), [])
    else
      ref12_has.l5 X k a0 a1 a2 a7 (IntKind.i64.wrap (a8 + 1))
  else
    ref12_has.l2 X k a0 a1 a2 (IntKind.i64.wrap (a7 + 1))) := by kernel_rfl
theorem ref12_has.eq (X : Orc) (k : Nat) (p0 : Rows) (p1 : Rows) (p2 : Int) : runF P X ref12_has.cf (k + 1) F.ref12_has [.d (.sl 3 2 p0), .d (.sl 3 1 p1), .d (.v (.int .i64 p2))] [] = (
  ref12_has.l2 X k p0 p1 p2 0) := by kernel_rfl
def inst_Kind_is.cf : Cf := { loops := [] }
theorem inst_Kind_is.eq (X : Orc) (k : Nat) (p0 : Int) : runF P X inst_Kind_is.cf (k + 1) F.inst_Kind_is [.d (.v (.int .i64 p0))] [] = (
  if decide (p0 ≥ 0) = true then
    some (.d (.v (.bool (decide (p0 < 4)))), [])
  else
    some (.d (.v (.bool false)), [])) := by kernel_rfl
def inst_Inst_lean.cf : Cf := { loops := [] }
theorem inst_Inst_lean.eq (X : Orc) (k : Nat) (p0_0 : Int) (p0_1 : Int) (p0_2 : Rows) (p0_3 : Rows) (p0_4 : Int) (p0_5 : Rows) : runF P X inst_Inst_lean.cf (k + 1) F.inst_Inst_lean [.agg [.d (.v (.int .i64 p0_0)), .d (.v (.int .i64 p0_1)), .d (.sl 3 2 p0_2), .d (.sl 3 1 p0_3), .d (.v (.int .i64 p0_4)), .d (.sl 3 2 p0_5)]] [] = (
  if (p0_0 == 0) = true then
    onCall (X F.inst_Kind_square [.d (.v (.int .i64 p0_0))] []) fun z1 =>
    onBool z1 fun b2 =>
    if b2 = true then
      if (p0_0 == 3) = true then
        some (.d (.v (.bool true)), [])
      else
        if (p0_4 == 0) = true then
          some (.d (.v (.bool ((p0_5.length : Int) == 0))), [])
        else
          some (.d (.v (.bool false)), [])
    else
      if ((p0_3.length : Int) == 0) = true then
        if (p0_0 == 3) = true then
          some (.d (.v (.bool true)), [])
        else
          if (p0_4 == 0) = true then
            some (.d (.v (.bool ((p0_5.length : Int) == 0))), [])
          else
            some (.d (.v (.bool false)), [])
      else
        some (.d (.v (.bool false)), [])
  else
    if (p0_1 == 0) = true then
      if ((p0_2.length : Int) == 0) = true then
        onCall (X F.inst_Kind_square [.d (.v (.int .i64 p0_0))] []) fun z3 =>
        onBool z3 fun b4 =>
        if b4 = true then
          if (p0_0 == 3) = true then
            some (.d (.v (.bool true)), [])
          else
            if (p0_4 == 0) = true then
              some (.d (.v (.bool ((p0_5.length : Int) == 0))), [])
            else
              some (.d (.v (.bool false)), [])
        else
          if ((p0_3.length : Int) == 0) = true then
            if (p0_0 == 3) = true then
              some (.d (.v (.bool true)), [])
            else
              if (p0_4 == 0) = true then
                some (.d (.v (.bool ((p0_5.length : Int) == 0))), [])
              else
                some (.d (.v (.bool false)), [])
          else
            some (.d (.v (.bool false)), [])
      else
        some (.d (.v (.bool false)), [])
    else
      some (.d (.v (.bool false)), [])) := by kernel_rfl
def inst_Inst_few.cf : Cf := { loops := [] }
theorem inst_Inst_few.eq (X : Orc) (k : Nat) (p0_0 : Int) (p0_1 : Int) (p0_2 : Rows) (p0_3 : Rows) (p0_4 : Int) (p0_5 : Rows) : runF P X inst_Inst_few.cf (k + 1) F.inst_Inst_few [.agg [.d (.v (.int .i64 p0_0)), .d (.v (.int .i64 p0_1)), .d (.sl 3 2 p0_2), .d (.sl 3 1 p0_3), .d (.v (.int .i64 p0_4)), .d (.sl 3 2 p0_5)]] [] = (
  onCall (X F.inst_Kind_square [.d (.v (.int .i64 p0_0))] []) fun z1 =>
  onBool z1 fun b2 =>
  if b2 = true then
    if decide ((p0_3.length : Int) < 1) = true then
      some (.d (.v (.bool false)), [])
    else
      if decide ((p0_3.length : Int) > 64) = true then
        some (.d (.v (.bool false)), [])
      else
        if decide ((p0_2.length : Int) ≤ 4096) = true then
          if decide ((p0_5.length : Int) ≤ 4096) = true then
            if decide (p0_4 ≥ 0) = true then
              some (.d (.v (.bool (decide (p0_4 ≤ 4096)))), [])
            else
              some (.d (.v (.bool false)), [])
          else
            some (.d (.v (.bool false)), [])
        else
          some (.d (.v (.bool false)), [])
  else
    if decide ((p0_2.length : Int) ≤ 4096) = true then
      if decide ((p0_5.length : Int) ≤ 4096) = true then
        if decide (p0_4 ≥ 0) = true then
          some (.d (.v (.bool (decide (p0_4 ≤ 4096)))), [])
        else
          some (.d (.v (.bool false)), [])
      else
        some (.d (.v (.bool false)), [])
    else
      some (.d (.v (.bool false)), [])) := by kernel_rfl
def inst_Inst_shaped.cf : Cf := { loops := [{ fid := 29, key := 2, live := [1, 11, 12, 13], vecs := [], cvecs := [], nb := 1, cs := [] }, { fid := 29, key := 8, live := [1, 25, 26, 27], vecs := [], cvecs := [], nb := 1, cs := [] }, { fid := 29, key := 12, live := [1, 7, 25, 26, 27, 32, 33, 34], vecs := [], cvecs := [], nb := 2, cs := [] }] }
noncomputable def inst_Inst_shaped.l2 (X : Orc) (k : Nat) (a11 : Rows) (a12 : Int) (a13 : Int) (h0_0 : Int) (h0_1 : Int) (h0_2 : Rows) (h0_3 : Rows) (h0_4 : Int) (h0_5 : Rows) : Option Res := loopAt P X inst_Inst_shaped.cf k 29 Go.Proofs.Tryd.f29 2 [(1, .ptr 0 0), (11, .d (.sl 3 1 a11)), (12, .d (.v (.int .i64 a12))), (13, .d (.v (.int .i64 a13)))] [] [.cel [.d (.v (.int .i64 h0_0)), .d (.v (.int .i64 h0_1)), .d (.sl 3 2 h0_2), .d (.sl 3 1 h0_3), .d (.v (.int .i64 h0_4)), .d (.sl 3 2 h0_5)]]
noncomputable def inst_Inst_shaped.l8 (X : Orc) (k : Nat) (a25 : Rows) (a26 : Int) (a27 : Int) (h0_0 : Int) (h0_1 : Int) (h0_2 : Rows) (h0_3 : Rows) (h0_4 : Int) (h0_5 : Rows) : Option Res := loopAt P X inst_Inst_shaped.cf k 29 Go.Proofs.Tryd.f29 8 [(1, .ptr 0 0), (25, .d (.sl 3 2 a25)), (26, .d (.v (.int .i64 a26))), (27, .d (.v (.int .i64 a27)))] [] [.cel [.d (.v (.int .i64 h0_0)), .d (.v (.int .i64 h0_1)), .d (.sl 3 2 h0_2), .d (.sl 3 1 h0_3), .d (.v (.int .i64 h0_4)), .d (.sl 3 2 h0_5)]]
noncomputable def inst_Inst_shaped.l12 (X : Orc) (k : Nat) (a7 : Int) (a25 : Rows) (a26 : Int) (a27 : Int) (a32 : Rows) (a33 : Int) (a34 : Int) (h0_0 : Int) (h0_1 : Int) (h0_2 : Rows) (h0_3 : Rows) (h0_4 : Int) (h0_5 : Rows) (h1_0 : Int) (h1_1 : Rows) : Option Res := loopAt P X inst_Inst_shaped.cf k 29 Go.Proofs.Tryd.f29 12 [(1, .ptr 0 0), (7, .d (.v (.int .i64 a7))), (25, .d (.sl 3 2 a25)), (26, .d (.v (.int .i64 a26))), (27, .d (.v (.int .i64 a27))), (32, .d (.sl 3 1 a32)), (33, .d (.v (.int .i64 a33))), (34, .d (.v (.int .i64 a34)))] [] [.cel [.d (.v (.int .i64 h0_0)), .d (.v (.int .i64 h0_1)), .d (.sl 3 2 h0_2), .d (.sl 3 1 h0_3), .d (.v (.int .i64 h0_4)), .d (.sl 3 2 h0_5)], .cel [.d (.v (.int .i64 h1_0)), .d (.sl 3 1 h1_1)]]
theorem inst_Inst_shaped.l2_eq (X : Orc) (k : Nat) (a11 : Rows) (a12 : Int) (a13 : Int) (h0_0 : Int) (h0_1 : Int) (h0_2 : Rows) (h0_3 : Rows) (h0_4 : Int) (h0_5 : Rows) : inst_Inst_shaped.l2 X (k + 1) a11 a12 a13 h0_0 h0_1 h0_2 h0_3 h0_4 h0_5 = (
  if decide (a13 < a12) = true then
    onIx a13 a11.length fun i1 =>
    onRow a11 i1 fun w2 =>
    onCell w2 0 fun x3 =>
    onSl 1 x3 fun r4 =>
    if ((r4.length : Int) != (h0_3.length : Int)) = true then
      some (.d (.v (.bool false)), [])
    else
      inst_Inst_shaped.l2 X k a11 a12 (IntKind.i64.wrap (a13 + 1)) h0_0 h0_1 h0_2 h0_3 h0_4 h0_5
  else
    inst_Inst_shaped.l8 X k h0_5 (h0_5.length : Int) 0 h0_0 h0_1 h0_2 h0_3 h0_4 h0_5) := by kernel_rfl
theorem inst_Inst_shaped.l8_eq (X : Orc) (k : Nat) (a25 : Rows) (a26 : Int) (a27 : Int) (h0_0 : Int) (h0_1 : Int) (h0_2 : Rows) (h0_3 : Rows) (h0_4 : Int) (h0_5 : Rows) : inst_Inst_shaped.l8 X (k + 1) a25 a26 a27 h0_0 h0_1 h0_2 h0_3 h0_4 h0_5 = (
  if decide (a27 < a26) = true then
    onIx a27 a25.length fun i1 =>
    onRow a25 i1 fun w2 =>
    onCell w2 0 fun x3 =>
    onInt .i64 x3 fun n4 =>
    onCell w2 1 fun x5 =>
    onSl 1 x5 fun r6 =>
    inst_Inst_shaped.l12 X k (-1) a25 a26 a27 r6 (r6.length : Int) 0 h0_0 h0_1 h0_2 h0_3 h0_4 h0_5 n4 r6
  else
    some (.d (.v (.bool true)), [])) := by kernel_rfl
theorem inst_Inst_shaped.l12_eq (X : Orc) (k : Nat) (a7 : Int) (a25 : Rows) (a26 : Int) (a27 : Int) (a32 : Rows) (a33 : Int) (a34 : Int) (h0_0 : Int) (h0_1 : Int) (h0_2 : Rows) (h0_3 : Rows) (h0_4 : Int) (h0_5 : Rows) (h1_0 : Int) (h1_1 : Rows) : inst_Inst_shaped.l12 X (k + 1) a7 a25 a26 a27 a32 a33 a34 h0_0 h0_1 h0_2 h0_3 h0_4 h0_5 h1_0 h1_1 = (
  if decide (a34 < a33) = true then
    onIx a34 a32.length fun i1 =>
    onRow a32 i1 fun w2 =>
    onCell w2 0 fun x3 =>
    onInt .i64 x3 fun n4 =>
    if decide (n4 ≤ a7) = true then
      some (.d (.v (.bool false)), [])
    else
      if decide (n4 ≥ h0_4) = true then
        some (.d (.v (.bool false)), [])
      else
        inst_Inst_shaped.l12 X k n4 a25 a26 a27 a32 a33 (IntKind.i64.wrap (a34 + 1)) h0_0 h0_1 h0_2 h0_3 h0_4 h0_5 h1_0 h1_1
  else
    inst_Inst_shaped.l8 X k a25 a26 (IntKind.i64.wrap (a27 + 1)) h0_0 h0_1 h0_2 h0_3 h0_4 h0_5) := by kernel_rfl
theorem inst_Inst_shaped.eq (X : Orc) (k : Nat) (p0_0 : Int) (p0_1 : Int) (p0_2 : Rows) (p0_3 : Rows) (p0_4 : Int) (p0_5 : Rows) : runF P X inst_Inst_shaped.cf (k + 1) F.inst_Inst_shaped [.agg [.d (.v (.int .i64 p0_0)), .d (.v (.int .i64 p0_1)), .d (.sl 3 2 p0_2), .d (.sl 3 1 p0_3), .d (.v (.int .i64 p0_4)), .d (.sl 3 2 p0_5)]] [] = (
  inst_Inst_shaped.l2 X k p0_3 (p0_3.length : Int) 0 p0_0 p0_1 p0_2 p0_3 p0_4 p0_5) := by kernel_rfl
def inst_Inst_small.cf : Cf := { loops := [{ fid := 30, key := 3, live := [1, 3, 16, 17, 18], vecs := [], cvecs := [], nb := 1, cs := [] }, { fid := 30, key := 8, live := [1, 3, 35, 36, 37], vecs := [], cvecs := [], nb := 1, cs := [] }, { fid := 30, key := 11, live := [1, 3, 35, 36, 37, 41, 42, 43], vecs := [], cvecs := [], nb := 1, cs := [] }, { fid := 30, key := 17, live := [3, 55, 56, 57], vecs := [], cvecs := [], nb := 1, cs := [] }] }
noncomputable def inst_Inst_small.l3 (X : Orc) (k : Nat) (a3 : Bool) (a16 : Rows) (a17 : Int) (a18 : Int) (h0_0 : Int) (h0_1 : Int) (h0_2 : Rows) (h0_3 : Rows) (h0_4 : Int) (h0_5 : Rows) : Option Res := loopAt P X inst_Inst_small.cf k 30 Go.Proofs.Tryd.f30 3 [(1, .ptr 0 0), (3, .d (.v (.bool a3))), (16, .d (.sl 3 2 a16)), (17, .d (.v (.int .i64 a17))), (18, .d (.v (.int .i64 a18)))] [] [.cel [.d (.v (.int .i64 h0_0)), .d (.v (.int .i64 h0_1)), .d (.sl 3 2 h0_2), .d (.sl 3 1 h0_3), .d (.v (.int .i64 h0_4)), .d (.sl 3 2 h0_5)]]
noncomputable def inst_Inst_small.l8 (X : Orc) (k : Nat) (a3 : Bool) (a35 : Rows) (a36 : Int) (a37 : Int) (h0_0 : Int) (h0_1 : Int) (h0_2 : Rows) (h0_3 : Rows) (h0_4 : Int) (h0_5 : Rows) : Option Res := loopAt P X inst_Inst_small.cf k 30 Go.Proofs.Tryd.f30 8 [(1, .ptr 0 0), (3, .d (.v (.bool a3))), (35, .d (.sl 3 1 a35)), (36, .d (.v (.int .i64 a36))), (37, .d (.v (.int .i64 a37)))] [] [.cel [.d (.v (.int .i64 h0_0)), .d (.v (.int .i64 h0_1)), .d (.sl 3 2 h0_2), .d (.sl 3 1 h0_3), .d (.v (.int .i64 h0_4)), .d (.sl 3 2 h0_5)]]
noncomputable def inst_Inst_small.l11 (X : Orc) (k : Nat) (a3 : Bool) (a35 : Rows) (a36 : Int) (a37 : Int) (a41 : Rows) (a42 : Int) (a43 : Int) (h0_0 : Int) (h0_1 : Int) (h0_2 : Rows) (h0_3 : Rows) (h0_4 : Int) (h0_5 : Rows) : Option Res := loopAt P X inst_Inst_small.cf k 30 Go.Proofs.Tryd.f30 11 [(1, .ptr 0 0), (3, .d (.v (.bool a3))), (35, .d (.sl 3 1 a35)), (36, .d (.v (.int .i64 a36))), (37, .d (.v (.int .i64 a37))), (41, .d (.sl 3 1 a41)), (42, .d (.v (.int .i64 a42))), (43, .d (.v (.int .i64 a43)))] [] [.cel [.d (.v (.int .i64 h0_0)), .d (.v (.int .i64 h0_1)), .d (.sl 3 2 h0_2), .d (.sl 3 1 h0_3), .d (.v (.int .i64 h0_4)), .d (.sl 3 2 h0_5)]]
noncomputable def inst_Inst_small.l17 (X : Orc) (k : Nat) (a3 : Bool) (a55 : Rows) (a56 : Int) (a57 : Int) (h0_0 : Int) (h0_1 : Int) (h0_2 : Rows) (h0_3 : Rows) (h0_4 : Int) (h0_5 : Rows) : Option Res := loopAt P X inst_Inst_small.cf k 30 Go.Proofs.Tryd.f30 17 [(3, .d (.v (.bool a3))), (55, .d (.sl 3 2 a55)), (56, .d (.v (.int .i64 a56))), (57, .d (.v (.int .i64 a57)))] [] [.cel [.d (.v (.int .i64 h0_0)), .d (.v (.int .i64 h0_1)), .d (.sl 3 2 h0_2), .d (.sl 3 1 h0_3), .d (.v (.int .i64 h0_4)), .d (.sl 3 2 h0_5)]]
theorem inst_Inst_small.l3_eq (X : Orc) (k : Nat) (a3 : Bool) (a16 : Rows) (a17 : Int) (a18 : Int) (h0_0 : Int) (h0_1 : Int) (h0_2 : Rows) (h0_3 : Rows) (h0_4 : Int) (h0_5 : Rows) : inst_Inst_small.l3 X (k + 1) a3 a16 a17 a18 h0_0 h0_1 h0_2 h0_3 h0_4 h0_5 = (
  if decide (a18 < a17) = true then
    onIx a18 a16.length fun i1 =>
    onRow a16 i1 fun w2 =>
    onCell w2 0 fun x3 =>
    onInt .i64 x3 fun n4 =>
    onCell w2 1 fun x5 =>
    onInt .i64 x5 fun n6 =>
    if a3 = true then
      onCall (X F.inst_from [.d (.v (.int .i64 n4)), .d (.v (.int .i64 0))] []) fun z7 =>
      onBool z7 fun b8 =>
      if b8 = true then
        onCall (X F.inst_from [.d (.v (.int .i64 n6)), .d (.v (.int .i64 0))] []) fun z9 =>
        onBool z9 fun b10 =>
        inst_Inst_small.l3 X k b10 a16 a17 (IntKind.i64.wrap (a18 + 1)) h0_0 h0_1 h0_2 h0_3 h0_4 h0_5
      else
        inst_Inst_small.l3 X k false a16 a17 (IntKind.i64.wrap (a18 + 1)) h0_0 h0_1 h0_2 h0_3 h0_4 h0_5
    else
      inst_Inst_small.l3 X k false a16 a17 (IntKind.i64.wrap (a18 + 1)) h0_0 h0_1 h0_2 h0_3 h0_4 h0_5
  else
    inst_Inst_small.l8 X k a3 h0_3 (h0_3.length : Int) 0 h0_0 h0_1 h0_2 h0_3 h0_4 h0_5) := by kernel_rfl
theorem inst_Inst_small.l8_eq (X : Orc) (k : Nat) (a3 : Bool) (a35 : Rows) (a36 : Int) (a37 : Int) (h0_0 : Int) (h0_1 : Int) (h0_2 : Rows) (h0_3 : Rows) (h0_4 : Int) (h0_5 : Rows) : inst_Inst_small.l8 X (k + 1) a3 a35 a36 a37 h0_0 h0_1 h0_2 h0_3 h0_4 h0_5 = (
  if decide (a37 < a36) = true then
    onIx a37 a35.length fun i1 =>
    onRow a35 i1 fun w2 =>
    onCell w2 0 fun x3 =>
    onSl 1 x3 fun r4 =>
    inst_Inst_small.l11 X k a3 a35 a36 a37 r4 (r4.length : Int) 0 h0_0 h0_1 h0_2 h0_3 h0_4 h0_5
  else
    inst_Inst_small.l17 X k a3 h0_5 (h0_5.length : Int) 0 h0_0 h0_1 h0_2 h0_3 h0_4 h0_5) := by kernel_rfl
theorem inst_Inst_small.l11_eq (X : Orc) (k : Nat) (a3 : Bool) (a35 : Rows) (a36 : Int) (a37 : Int) (a41 : Rows) (a42 : Int) (a43 : Int) (h0_0 : Int) (h0_1 : Int) (h0_2 : Rows) (h0_3 : Rows) (h0_4 : Int) (h0_5 : Rows) : inst_Inst_small.l11 X (k + 1) a3 a35 a36 a37 a41 a42 a43 h0_0 h0_1 h0_2 h0_3 h0_4 h0_5 = (
  if decide (a43 < a42) = true then
    onIx a43 a41.length fun i1 =>
    onRow a41 i1 fun w2 =>
    onCell w2 0 fun x3 =>
    onInt .i64 x3 fun n4 =>
    if a3 = true then
      onCall (X F.inst_from [.d (.v (.int .i64 n4)), .d (.v (.int .i64 (-2147483648)))] []) fun z5 =>
      onBool z5 fun b6 =>
      inst_Inst_small.l11 X k b6 a35 a36 a37 a41 a42 (IntKind.i64.wrap (a43 + 1)) h0_0 h0_1 h0_2 h0_3 h0_4 h0_5
    else
      inst_Inst_small.l11 X k false a35 a36 a37 a41 a42 (IntKind.i64.wrap (a43 + 1)) h0_0 h0_1 h0_2 h0_3 h0_4 h0_5
  else
    inst_Inst_small.l8 X k a3 a35 a36 (IntKind.i64.wrap (a37 + 1)) h0_0 h0_1 h0_2 h0_3 h0_4 h0_5) := by kernel_rfl
theorem inst_Inst_small.l17_eq (X : Orc) (k : Nat) (a3 : Bool) (a55 : Rows) (a56 : Int) (a57 : Int) (h0_0 : Int) (h0_1 : Int) (h0_2 : Rows) (h0_3 : Rows) (h0_4 : Int) (h0_5 : Rows) : inst_Inst_small.l17 X (k + 1) a3 a55 a56 a57 h0_0 h0_1 h0_2 h0_3 h0_4 h0_5 = (
  if decide (a57 < a56) = true then
    onIx a57 a55.length fun i1 =>
    onRow a55 i1 fun w2 =>
    onCell w2 0 fun x3 =>
    onInt .i64 x3 fun n4 =>
    onCell w2 1 fun x5 =>
    onSl 1 x5 fun r6 =>
    if a3 = true then
      onCall (X F.inst_from [.d (.v (.int .i64 n4)), .d (.v (.int .i64 0))] []) fun z7 =>
      onBool z7 fun b8 =>
      inst_Inst_small.l17 X k b8 a55 a56 (IntKind.i64.wrap (a57 + 1)) h0_0 h0_1 h0_2 h0_3 h0_4 h0_5
    else
      inst_Inst_small.l17 X k false a55 a56 (IntKind.i64.wrap (a57 + 1)) h0_0 h0_1 h0_2 h0_3 h0_4 h0_5
  else
    some (.d (.v (.bool a3)), [])) := by kernel_rfl
theorem inst_Inst_small.eq (X : Orc) (k : Nat) (p0_0 : Int) (p0_1 : Int) (p0_2 : Rows) (p0_3 : Rows) (p0_4 : Int) (p0_5 : Rows) : runF P X inst_Inst_small.cf (k + 1) F.inst_Inst_small [.agg [.d (.v (.int .i64 p0_0)), .d (.v (.int .i64 p0_1)), .d (.sl 3 2 p0_2), .d (.sl 3 1 p0_3), .d (.v (.int .i64 p0_4)), .d (.sl 3 2 p0_5)]] [] = (
  onCall (X F.inst_from [.d (.v (.int .i64 p0_1)), .d (.v (.int .i64 0))] []) fun z1 =>
  onBool z1 fun b2 =>
  inst_Inst_small.l3 X k b2 p0_2 (p0_2.length : Int) 0 p0_0 p0_1 p0_2 p0_3 p0_4 p0_5) := by kernel_rfl
def inst_Inst_bare.cf : Cf := { loops := [{ fid := 31, key := 2, live := [1, 6, 7, 8], vecs := [], cvecs := [], nb := 1, cs := [] }] }
noncomputable def inst_Inst_bare.l2 (X : Orc) (k : Nat) (a6 : Rows) (a7 : Int) (a8 : Int) (h0_0 : Int) (h0_1 : Int) (h0_2 : Rows) (h0_3 : Rows) (h0_4 : Int) (h0_5 : Rows) : Option Res := loopAt P X inst_Inst_bare.cf k 31 Go.Proofs.Tryd.f31 2 [(1, .ptr 0 0), (6, .d (.sl 3 1 a6)), (7, .d (.v (.int .i64 a7))), (8, .d (.v (.int .i64 a8)))] [] [.cel [.d (.v (.int .i64 h0_0)), .d (.v (.int .i64 h0_1)), .d (.sl 3 2 h0_2), .d (.sl 3 1 h0_3), .d (.v (.int .i64 h0_4)), .d (.sl 3 2 h0_5)]]
theorem inst_Inst_bare.l2_eq (X : Orc) (k : Nat) (a6 : Rows) (a7 : Int) (a8 : Int) (h0_0 : Int) (h0_1 : Int) (h0_2 : Rows) (h0_3 : Rows) (h0_4 : Int) (h0_5 : Rows) : inst_Inst_bare.l2 X (k + 1) a6 a7 a8 h0_0 h0_1 h0_2 h0_3 h0_4 h0_5 = (
  if decide (a8 < a7) = true then
    onIx a8 a6.length fun i1 =>
    onRow a6 i1 fun w2 =>
    onCell w2 0 fun x3 =>
    onSl 1 x3 fun r4 =>
    if (h0_0 == 2) = true then
      onIx a8 r4.length fun i5 =>
      onRow r4 i5 fun w6 =>
      onCell w6 0 fun x7 =>
      onInt .i64 x7 fun n8 =>
      if (n8 != 0) = true then
        some (.d (.v (.bool false)), [])
      else
        inst_Inst_bare.l2 X k a6 a7 (IntKind.i64.wrap (a8 + 1)) h0_0 h0_1 h0_2 h0_3 h0_4 h0_5
    else
      inst_Inst_bare.l2 X k a6 a7 (IntKind.i64.wrap (a8 + 1)) h0_0 h0_1 h0_2 h0_3 h0_4 h0_5
  else
    some (.d (.v (.bool true)), [])) := by kernel_rfl
theorem inst_Inst_bare.eq (X : Orc) (k : Nat) (p0_0 : Int) (p0_1 : Int) (p0_2 : Rows) (p0_3 : Rows) (p0_4 : Int) (p0_5 : Rows) : runF P X inst_Inst_bare.cf (k + 1) F.inst_Inst_bare [.agg [.d (.v (.int .i64 p0_0)), .d (.v (.int .i64 p0_1)), .d (.sl 3 2 p0_2), .d (.sl 3 1 p0_3), .d (.v (.int .i64 p0_4)), .d (.sl 3 2 p0_5)]] [] = (
  inst_Inst_bare.l2 X k p0_3 (p0_3.length : Int) 0 p0_0 p0_1 p0_2 p0_3 p0_4 p0_5) := by kernel_rfl
def eval_rises.cf : Cf := { loops := [{ fid := 32, key := 3, live := [1, 5, 8, 9, 10], vecs := [], cvecs := [], nb := 0, cs := [] }] }
noncomputable def eval_rises.l3 (X : Orc) (k : Nat) (a1 : Int) (a5 : Int) (a8 : Rows) (a9 : Int) (a10 : Int) : Option Res := loopAt P X eval_rises.cf k 32 Go.Proofs.Tryd.f32 3 [(1, .d (.v (.int .i64 a1))), (5, .d (.v (.int .i64 a5))), (8, .d (.sl 3 1 a8)), (9, .d (.v (.int .i64 a9))), (10, .d (.v (.int .i64 a10)))] [] []
theorem eval_rises.l3_eq (X : Orc) (k : Nat) (a1 : Int) (a5 : Int) (a8 : Rows) (a9 : Int) (a10 : Int) : eval_rises.l3 X (k + 1) a1 a5 a8 a9 a10 = (
  if decide (a10 < a9) = true then
    onIx a10 a8.length fun i1 =>
    onRow a8 i1 fun w2 =>
    onCell w2 0 fun x3 =>
    onInt .i64 x3 fun n4 =>
    if decide (n4 ≤ a5) = true then
      some (.d (.v (.bool false)), [])
    else
      if decide (n4 ≥ a1) = true then
        some (.d (.v (.bool false)), [])
      else
        eval_rises.l3 X k a1 n4 a8 a9 (IntKind.i64.wrap (a10 + 1))
  else
    some (.d (.v (.bool true)), [])) := by kernel_rfl
theorem eval_rises.eq (X : Orc) (k : Nat) (p0 : Rows) (p1 : Int) : runF P X eval_rises.cf (k + 1) F.eval_rises [.d (.sl 3 1 p0), .d (.v (.int .i64 p1))] [] = (
  eval_rises.l3 X k p1 (-1) p0 (p0.length : Int) 0) := by kernel_rfl
def eval_fits.cf : Cf := { loops := [{ fid := 33, key := 3, live := [2, 5, 10, 11, 12], vecs := [(5, 1)], cvecs := [], nb := 2, cs := [] }] }
noncomputable def eval_fits.l3 (X : Orc) (k : Nat) (a10 : Rows) (a11 : Int) (a12 : Int) (h0_0 : Int) (h0_1 : Int) (h0_2 : Rows) (h0_3 : Rows) (h0_4 : Int) (h0_5 : Rows) (H1 : Rows) : Option Res := loopAt P X eval_fits.cf k 33 Go.Proofs.Tryd.f33 3 [(2, .ptr 0 0), (5, .vh 1 0 1 H1.length), (10, .d (.sl 3 1 a10)), (11, .d (.v (.int .i64 a11))), (12, .d (.v (.int .i64 a12)))] [] [.cel [.d (.v (.int .i64 h0_0)), .d (.v (.int .i64 h0_1)), .d (.sl 3 2 h0_2), .d (.sl 3 1 h0_3), .d (.v (.int .i64 h0_4)), .d (.sl 3 2 h0_5)], .vec 1 0 H1]
theorem eval_fits.l3_eq (X : Orc) (k : Nat) (a10 : Rows) (a11 : Int) (a12 : Int) (h0_0 : Int) (h0_1 : Int) (h0_2 : Rows) (h0_3 : Rows) (h0_4 : Int) (h0_5 : Rows) (H1 : Rows) : eval_fits.l3 X (k + 1) a10 a11 a12 h0_0 h0_1 h0_2 h0_3 h0_4 h0_5 H1 = (
  if decide (a12 < a11) = true then
    onIx a12 a10.length fun i1 =>
    onRow a10 i1 fun w2 =>
    onCell w2 0 fun x3 =>
    onInt .i64 x3 fun n4 =>
    onIx n4 h0_2.length fun i5 =>
    onRow h0_2 i5 fun w6 =>
    onCell w6 1 fun x7 =>
    onInt .i64 x7 fun n8 =>
    onRoom (H1.length + 1) <|
    eval_fits.l3 X k a10 a11 (IntKind.i64.wrap (a12 + 1)) h0_0 h0_1 h0_2 h0_3 h0_4 h0_5 (H1 ++ ([[.v (.int .i64 n8)]]))
  else
    onCall (X F.num_Sum [.d (.sl 3 1 H1)] []) fun z9 =>
    onTup 2 z9 fun u10 =>
    onCell u10 0 fun x11 =>
    onInt .i64 x11 fun n12 =>
    onCell u10 1 fun x13 =>
    onBool x13 fun b14 =>
    if b14 = true then
      some (.d (.v (.bool (decide (n12 ≤ h0_1)))), [])
    else
      some (.d (.v (.bool false)), [])) := by kernel_rfl
theorem eval_fits.eq (X : Orc) (k : Nat) (p0_0 : Int) (p0_1 : Int) (p0_2 : Rows) (p0_3 : Rows) (p0_4 : Int) (p0_5 : Rows) (p1 : Rows) : runF P X eval_fits.cf (k + 1) F.eval_fits [.agg [.d (.v (.int .i64 p0_0)), .d (.v (.int .i64 p0_1)), .d (.sl 3 2 p0_2), .d (.sl 3 1 p0_3), .d (.v (.int .i64 p0_4)), .d (.sl 3 2 p0_5)], .d (.sl 3 1 p1)] [] = (
  eval_fits.l3 X k p1 (p1.length : Int) 0 p0_0 p0_1 p0_2 p0_3 p0_4 p0_5 ([])) := by kernel_rfl
end W
