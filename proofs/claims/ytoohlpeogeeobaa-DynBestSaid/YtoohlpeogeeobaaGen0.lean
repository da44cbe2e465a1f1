/- What single functions do, as equations of the abstract machine; each is checked by the kernel. -/
import Derived.Test.YtoohlpeogeeobaaGenN
open Go Go.Eng
set_option linter.unusedVariables false
namespace W
def law_DynBest.cf : Cf := { loops := [] }
theorem law_DynBest.eq (X : Orc) (k : Nat) (p0_0 : Int) (p0_1 : Int) (p0_2 : Rows) (p0_3 : Rows) (p0_4 : Int) (p0_5 : Rows) : runF P X law_DynBest.cf (k + 1) F.law_DynBest [.agg [.d (.v (.int .i64 p0_0)), .d (.v (.int .i64 p0_1)), .d (.sl 3 2 p0_2), .d (.sl 3 1 p0_3), .d (.v (.int .i64 p0_4)), .d (.sl 3 2 p0_5)]] [] = (
  onCall (X F.law_light [.agg [.d (.v (.int .i64 p0_0)), .d (.v (.int .i64 p0_1)), .d (.sl 3 2 p0_2), .d (.sl 3 1 p0_3), .d (.v (.int .i64 p0_4)), .d (.sl 3 2 p0_5)], .d (.v (.int .i64 7))] []) fun z1 =>
  onAgg 6 z1 fun c2 =>
  onCell c2 0 fun x3 =>
  onInt .i64 x3 fun n4 =>
  onCell c2 1 fun x5 =>
  onInt .i64 x5 fun n6 =>
  onCell c2 2 fun x7 =>
  onSl 2 x7 fun r8 =>
  onCell c2 3 fun x9 =>
  onSl 1 x9 fun r10 =>
  onCell c2 4 fun x11 =>
  onInt .i64 x11 fun n12 =>
  onCell c2 5 fun x13 =>
  onSl 2 x13 fun r14 =>
  onCall (X F.law_insts [.agg [.d (.v (.int .i64 n4)), .d (.v (.int .i64 n6)), .d (.sl 3 2 r8), .d (.sl 3 1 r10), .d (.v (.int .i64 n12)), .d (.sl 3 2 r14)]] []) fun z15 =>
  onTup 2 z15 fun u16 =>
  onCell u16 0 fun x17 =>
  onAgg 6 x17 fun c18 =>
  onCell c18 0 fun x19 =>
  onInt .i64 x19 fun n20 =>
  onCell c18 1 fun x21 =>
  onInt .i64 x21 fun n22 =>
  onCell c18 2 fun x23 =>
  onSl 2 x23 fun r24 =>
  onCell c18 3 fun x25 =>
  onSl 1 x25 fun r26 =>
  onCell c18 4 fun x27 =>
  onInt .i64 x27 fun n28 =>
  onCell c18 5 fun x29 =>
  onSl 2 x29 fun r30 =>
  onCell u16 1 fun x31 =>
  onAgg 6 x31 fun c32 =>
  onCell c32 0 fun x33 =>
  onInt .i64 x33 fun n34 =>
  onCell c32 1 fun x35 =>
  onInt .i64 x35 fun n36 =>
  onCell c32 2 fun x37 =>
  onSl 2 x37 fun r38 =>
  onCell c32 3 fun x39 =>
  onSl 1 x39 fun r40 =>
  onCell c32 4 fun x41 =>
  onInt .i64 x41 fun n42 =>
  onCell c32 5 fun x43 =>
  onSl 2 x43 fun r44 =>
  onCall (X F.dyn_Best [.agg [.d (.v (.int .i64 n20)), .d (.v (.int .i64 n22)), .d (.sl 3 2 r24), .d (.sl 3 1 r26), .d (.v (.int .i64 n28)), .d (.sl 3 2 r30)]] []) fun z45 =>
  onTup 4 z45 fun u46 =>
  onCell u46 0 fun x47 =>
  onSl 1 x47 fun r48 =>
  onCell u46 1 fun x49 =>
  onInt .i64 x49 fun n50 =>
  onCell u46 2 fun x51 =>
  onBool x51 fun b52 =>
  onCell u46 3 fun x53 =>
  onInt .i64 x53 fun n54 =>
  onCall (X F.ref13_Best [.agg [.d (.v (.int .i64 n34)), .d (.v (.int .i64 n36)), .d (.sl 3 2 r38), .d (.sl 3 1 r40), .d (.v (.int .i64 n42)), .d (.sl 3 2 r44)]] []) fun z55 =>
  onTup 4 z55 fun u56 =>
  onCell u56 0 fun x57 =>
  onSl 1 x57 fun r58 =>
  onCell u56 1 fun x59 =>
  onInt .i64 x59 fun n60 =>
  onCell u56 2 fun x61 =>
  onBool x61 fun b62 =>
  onCell u56 3 fun x63 =>
  onInt .i64 x63 fun n64 =>
  onCall (X F.ref30_Cells [.agg [.d (.v (.int .i64 n34)), .d (.v (.int .i64 n36)), .d (.sl 3 2 r38), .d (.sl 3 1 r40), .d (.v (.int .i64 n42)), .d (.sl 3 2 r44)]] []) fun z65 =>
  onTup 2 z65 fun u66 =>
  onCell u66 0 fun x67 =>
  onInt .i64 x67 fun n68 =>
  onCell u66 1 fun x69 =>
  onInt .i64 x69 fun n70 =>
  if (n70 != 0) = true then
    onCall (X F.law_wakes [] []) fun z71 =>
    onBool z71 fun b72 =>
    if b72 = true then
      some (.d (.v (.bool (n54 == n70))), [])
    else
      some (.d (.v (.bool false)), [])
  else
    onCall (X F.law_wakes [] []) fun z73 =>
    onBool z73 fun b74 =>
    if (!b74) = true then
      some (.d (.v (.bool false)), [])
    else
      if (n54 != 0) = true then
        some (.d (.v (.bool false)), [])
      else
        if (!(b52 == b62)) = true then
          some (.d (.v (.bool false)), [])
        else
          if (n50 != n60) = true then
            some (.d (.v (.bool false)), [])
          else
            onCall (X F.eval_Cost [.agg [.d (.v (.int .i64 n20)), .d (.v (.int .i64 n22)), .d (.sl 3 2 r24), .d (.sl 3 1 r26), .d (.v (.int .i64 n28)), .d (.sl 3 2 r30)], .d (.sl 3 1 r48)] []) fun z75 =>
            onTup 2 z75 fun u76 =>
            onCell u76 0 fun x77 =>
            onInt .i64 x77 fun n78 =>
            onCell u76 1 fun x79 =>
            onInt .i64 x79 fun n80 =>
            if (!b52) = true then
              if ((r48.length : Int) == 0) = true then
                some (.d (.v (.bool true)), [])
              else
                if b52 = true then
                  if (n80 == 0) = true then
                    some (.d (.v (.bool (n78 == n50))), [])
                  else
                    some (.d (.v (.bool false)), [])
                else
                  some (.d (.v (.bool false)), [])
            else
              if b52 = true then
                if (n80 == 0) = true then
                  some (.d (.v (.bool (n78 == n50))), [])
                else
                  some (.d (.v (.bool false)), [])
              else
                some (.d (.v (.bool false)), [])) := by kernel_rfl
def law_insts.cf : Cf := { loops := [{ fid := 5, key := 4, live := [1, 2, 3, 4, 5, 33, 34, 35], vecs := [], cvecs := [(3, 2, 2), (4, 2, 2)], nb := 7, cs := [] }, { fid := 5, key := 9, live := [1, 2, 3, 4, 5, 62, 63, 64], vecs := [], cvecs := [(3, 3, 1), (4, 3, 1)], nb := 9, cs := [] }, { fid := 5, key := 15, live := [2, 3, 4, 5, 94, 95, 96], vecs := [], cvecs := [(3, 5, 2), (4, 5, 2)], nb := 11, cs := [] }] }
noncomputable def law_insts.l4 (X : Orc) (k : Nat) (a33 : Rows) (a34 : Int) (a35 : Int) (h0_0 : Int) (h0_1 : Int) (h0_2 : Rows) (h0_3 : Rows) (h0_4 : Int) (h0_5 : Rows) (h1_0 : Int) (h1_1 : Int) (h1_4 : Int) (h2_0 : Int) (h2_1 : Int) (h2_4 : Int) (h3_0 : Int) (h3_1 : Int) (h3_4 : Int) (h4_0 : Int) (h4_1 : Int) (h4_4 : Int) (H5 : Rows) (H6 : Rows) : Option Res := loopAt P X law_insts.cf k 5 Go.Proofs.Try.f5 4 [(1, .ptr 0 0), (2, .ptr 1 0), (3, .ptr 2 0), (4, .ptr 3 0), (5, .ptr 4 0), (33, .d (.sl 3 2 a33)), (34, .d (.v (.int .i64 a34))), (35, .d (.v (.int .i64 a35)))] [] [.cel [.d (.v (.int .i64 h0_0)), .d (.v (.int .i64 h0_1)), .d (.sl 3 2 h0_2), .d (.sl 3 1 h0_3), .d (.v (.int .i64 h0_4)), .d (.sl 3 2 h0_5)], .cel [.d (.v (.int .i64 h1_0)), .d (.v (.int .i64 h1_1)), .d (.v (.slice none 0 0)), .d (.v (.slice none 0 0)), .d (.v (.int .i64 h1_4)), .d (.v (.slice none 0 0))], .cel [.d (.v (.int .i64 h2_0)), .d (.v (.int .i64 h2_1)), .d (.v (.slice none 0 0)), .d (.v (.slice none 0 0)), .d (.v (.int .i64 h2_4)), .d (.v (.slice none 0 0))], .cel [.d (.v (.int .i64 h3_0)), .d (.v (.int .i64 h3_1)), .vh 5 0 2 H5.length, .d (.v (.slice none 0 0)), .d (.v (.int .i64 h3_4)), .d (.v (.slice none 0 0))], .cel [.d (.v (.int .i64 h4_0)), .d (.v (.int .i64 h4_1)), .vh 6 0 2 H6.length, .d (.v (.slice none 0 0)), .d (.v (.int .i64 h4_4)), .d (.v (.slice none 0 0))], .vec 2 0 H5, .vec 2 0 H6]
noncomputable def law_insts.l9 (X : Orc) (k : Nat) (a62 : Rows) (a63 : Int) (a64 : Int) (h0_0 : Int) (h0_1 : Int) (h0_2 : Rows) (h0_3 : Rows) (h0_4 : Int) (h0_5 : Rows) (h1_0 : Int) (h1_1 : Int) (h1_4 : Int) (h2_0 : Int) (h2_1 : Int) (h2_4 : Int) (h3_0 : Int) (h3_1 : Int) (h3_4 : Int) (h4_0 : Int) (h4_1 : Int) (h4_4 : Int) (H5 : Rows) (H6 : Rows) (H7 : Rows) (H8 : Rows) : Option Res := loopAt P X law_insts.cf k 5 Go.Proofs.Try.f5 9 [(1, .ptr 0 0), (2, .ptr 1 0), (3, .ptr 2 0), (4, .ptr 3 0), (5, .ptr 4 0), (62, .d (.sl 3 1 a62)), (63, .d (.v (.int .i64 a63))), (64, .d (.v (.int .i64 a64)))] [] [.cel [.d (.v (.int .i64 h0_0)), .d (.v (.int .i64 h0_1)), .d (.sl 3 2 h0_2), .d (.sl 3 1 h0_3), .d (.v (.int .i64 h0_4)), .d (.sl 3 2 h0_5)], .cel [.d (.v (.int .i64 h1_0)), .d (.v (.int .i64 h1_1)), .d (.v (.slice none 0 0)), .d (.v (.slice none 0 0)), .d (.v (.int .i64 h1_4)), .d (.v (.slice none 0 0))], .cel [.d (.v (.int .i64 h2_0)), .d (.v (.int .i64 h2_1)), .d (.v (.slice none 0 0)), .d (.v (.slice none 0 0)), .d (.v (.int .i64 h2_4)), .d (.v (.slice none 0 0))], .cel [.d (.v (.int .i64 h3_0)), .d (.v (.int .i64 h3_1)), .vh 5 0 2 H5.length, .vh 7 0 1 H7.length, .d (.v (.int .i64 h3_4)), .d (.v (.slice none 0 0))], .cel [.d (.v (.int .i64 h4_0)), .d (.v (.int .i64 h4_1)), .vh 6 0 2 H6.length, .vh 8 0 1 H8.length, .d (.v (.int .i64 h4_4)), .d (.v (.slice none 0 0))], .vec 2 0 H5, .vec 2 0 H6, .vec 1 0 H7, .vec 1 0 H8]
noncomputable def law_insts.l15 (X : Orc) (k : Nat) (a94 : Rows) (a95 : Int) (a96 : Int) (h0_0 : Int) (h0_1 : Int) (h0_2 : Rows) (h0_3 : Rows) (h0_4 : Int) (h0_5 : Rows) (h1_0 : Int) (h1_1 : Int) (h1_4 : Int) (h2_0 : Int) (h2_1 : Int) (h2_4 : Int) (h3_0 : Int) (h3_1 : Int) (h3_4 : Int) (h4_0 : Int) (h4_1 : Int) (h4_4 : Int) (H5 : Rows) (H6 : Rows) (H7 : Rows) (H8 : Rows) (H9 : Rows) (H10 : Rows) : Option Res := loopAt P X law_insts.cf k 5 Go.Proofs.Try.f5 15 [(2, .ptr 1 0), (3, .ptr 2 0), (4, .ptr 3 0), (5, .ptr 4 0), (94, .d (.sl 3 2 a94)), (95, .d (.v (.int .i64 a95))), (96, .d (.v (.int .i64 a96)))] [] [.cel [.d (.v (.int .i64 h0_0)), .d (.v (.int .i64 h0_1)), .d (.sl 3 2 h0_2), .d (.sl 3 1 h0_3), .d (.v (.int .i64 h0_4)), .d (.sl 3 2 h0_5)], .cel [.d (.v (.int .i64 h1_0)), .d (.v (.int .i64 h1_1)), .d (.v (.slice none 0 0)), .d (.v (.slice none 0 0)), .d (.v (.int .i64 h1_4)), .d (.v (.slice none 0 0))], .cel [.d (.v (.int .i64 h2_0)), .d (.v (.int .i64 h2_1)), .d (.v (.slice none 0 0)), .d (.v (.slice none 0 0)), .d (.v (.int .i64 h2_4)), .d (.v (.slice none 0 0))], .cel [.d (.v (.int .i64 h3_0)), .d (.v (.int .i64 h3_1)), .vh 5 0 2 H5.length, .vh 7 0 1 H7.length, .d (.v (.int .i64 h3_4)), .vh 9 0 2 H9.length], .cel [.d (.v (.int .i64 h4_0)), .d (.v (.int .i64 h4_1)), .vh 6 0 2 H6.length, .vh 8 0 1 H8.length, .d (.v (.int .i64 h4_4)), .vh 10 0 2 H10.length], .vec 2 0 H5, .vec 2 0 H6, .vec 1 0 H7, .vec 1 0 H8, .vec 2 0 H9, .vec 2 0 H10]
theorem law_insts.l4_eq (X : Orc) (k : Nat) (a33 : Rows) (a34 : Int) (a35 : Int) (h0_0 : Int) (h0_1 : Int) (h0_2 : Rows) (h0_3 : Rows) (h0_4 : Int) (h0_5 : Rows) (h1_0 : Int) (h1_1 : Int) (h1_4 : Int) (h2_0 : Int) (h2_1 : Int) (h2_4 : Int) (h3_0 : Int) (h3_1 : Int) (h3_4 : Int) (h4_0 : Int) (h4_1 : Int) (h4_4 : Int) (H5 : Rows) (H6 : Rows) : law_insts.l4 X (k + 1) a33 a34 a35 h0_0 h0_1 h0_2 h0_3 h0_4 h0_5 h1_0 h1_1 h1_4 h2_0 h2_1 h2_4 h3_0 h3_1 h3_4 h4_0 h4_1 h4_4 H5 H6 = (
  if decide (a35 < a34) = true then
    onIx a35 a33.length fun i1 =>
    onRow a33 i1 fun w2 =>
    onCell w2 0 fun x3 =>
    onInt .i64 x3 fun n4 =>
    onCell w2 1 fun x5 =>
    onInt .i64 x5 fun n6 =>
    onRoom (H5.length + 1) <|
    onRoom (H6.length + 1) <|
    law_insts.l4 X k a33 a34 (IntKind.i64.wrap (a35 + 1)) h0_0 h0_1 h0_2 h0_3 h0_4 h0_5 h1_0 h1_1 h1_4 h2_0 h2_1 h2_4 h3_0 h3_1 h3_4 h4_0 h4_1 h4_4 (H5 ++ ([[.v (.int .i64 n4), .v (.int .i64 n6)]])) (H6 ++ ([[.v (.int .i64 n4), .v (.int .i64 n6)]]))
  else
    onIx (if 70 < (h0_3.length : Int) then 70 else (h0_3.length : Int)) (h0_3.length + 1) fun i7 =>
    law_insts.l9 X k ((h0_3.take i7).drop 0) (((h0_3.take i7).drop 0).length : Int) 0 h0_0 h0_1 h0_2 h0_3 h0_4 h0_5 h1_0 h1_1 h1_4 h2_0 h2_1 h2_4 h3_0 h3_1 h3_4 h4_0 h4_1 h4_4 H5 H6 ([]) ([])) := by kernel_rfl
theorem law_insts.l9_eq (X : Orc) (k : Nat) (a62 : Rows) (a63 : Int) (a64 : Int) (h0_0 : Int) (h0_1 : Int) (h0_2 : Rows) (h0_3 : Rows) (h0_4 : Int) (h0_5 : Rows) (h1_0 : Int) (h1_1 : Int) (h1_4 : Int) (h2_0 : Int) (h2_1 : Int) (h2_4 : Int) (h3_0 : Int) (h3_1 : Int) (h3_4 : Int) (h4_0 : Int) (h4_1 : Int) (h4_4 : Int) (H5 : Rows) (H6 : Rows) (H7 : Rows) (H8 : Rows) : law_insts.l9 X (k + 1) a62 a63 a64 h0_0 h0_1 h0_2 h0_3 h0_4 h0_5 h1_0 h1_1 h1_4 h2_0 h2_1 h2_4 h3_0 h3_1 h3_4 h4_0 h4_1 h4_4 H5 H6 H7 H8 = (
  if decide (a64 < a63) = true then
    onIx a64 a62.length fun i1 =>
    onRow a62 i1 fun w2 =>
    onCell w2 0 fun x3 =>
    onSl 1 x3 fun r4 =>
    onIx (if 70 < (r4.length : Int) then 70 else (r4.length : Int)) (r4.length + 1) fun i5 =>
    onRoom (((r4.take i5).drop 0).length) <|
    onRoom (H7.length + 1) <|
    onRoom (((r4.take i5).drop 0).length) <|
    onRoom (H8.length + 1) <|
    law_insts.l9 X k a62 a63 (IntKind.i64.wrap (a64 + 1)) h0_0 h0_1 h0_2 h0_3 h0_4 h0_5 h1_0 h1_1 h1_4 h2_0 h2_1 h2_4 h3_0 h3_1 h3_4 h4_0 h4_1 h4_4 H5 H6 (H7 ++ ([[.sl 3 1 ((r4.take i5).drop 0)]])) (H8 ++ ([[.sl 3 1 ((r4.take i5).drop 0)]]))
  else
    onIx (if 40 < (h0_5.length : Int) then 40 else (h0_5.length : Int)) (h0_5.length + 1) fun i6 =>
    law_insts.l15 X k ((h0_5.take i6).drop 0) (((h0_5.take i6).drop 0).length : Int) 0 h0_0 h0_1 h0_2 h0_3 h0_4 h0_5 h1_0 h1_1 h1_4 h2_0 h2_1 h2_4 h3_0 h3_1 h3_4 h4_0 h4_1 h4_4 H5 H6 H7 H8 ([]) ([])) := by kernel_rfl
theorem law_insts.l15_eq (X : Orc) (k : Nat) (a94 : Rows) (a95 : Int) (a96 : Int) (h0_0 : Int) (h0_1 : Int) (h0_2 : Rows) (h0_3 : Rows) (h0_4 : Int) (h0_5 : Rows) (h1_0 : Int) (h1_1 : Int) (h1_4 : Int) (h2_0 : Int) (h2_1 : Int) (h2_4 : Int) (h3_0 : Int) (h3_1 : Int) (h3_4 : Int) (h4_0 : Int) (h4_1 : Int) (h4_4 : Int) (H5 : Rows) (H6 : Rows) (H7 : Rows) (H8 : Rows) (H9 : Rows) (H10 : Rows) : law_insts.l15 X (k + 1) a94 a95 a96 h0_0 h0_1 h0_2 h0_3 h0_4 h0_5 h1_0 h1_1 h1_4 h2_0 h2_1 h2_4 h3_0 h3_1 h3_4 h4_0 h4_1 h4_4 H5 H6 H7 H8 H9 H10 = (
  if decide (a96 < a95) = true then
    onIx a96 a94.length fun i1 =>
    onRow a94 i1 fun w2 =>
    onCell w2 0 fun x3 =>
    onInt .i64 x3 fun n4 =>
    onCell w2 1 fun x5 =>
    onSl 1 x5 fun r6 =>
    onIx (if 40 < (r6.length : Int) then 40 else (r6.length : Int)) (r6.length + 1) fun i7 =>
    onRoom (((r6.take i7).drop 0).length) <|
    onRoom (H9.length + 1) <|
    onRoom (((r6.take i7).drop 0).length) <|
    onRoom (H10.length + 1) <|
    law_insts.l15 X k a94 a95 (IntKind.i64.wrap (a96 + 1)) h0_0 h0_1 h0_2 h0_3 h0_4 h0_5 h1_0 h1_1 h1_4 h2_0 h2_1 h2_4 h3_0 h3_1 h3_4 h4_0 h4_1 h4_4 H5 H6 H7 H8 (H9 ++ ([[.v (.int .i64 n4), .sl 3 1 ((r6.take i7).drop 0)]])) (H10 ++ ([[.v (.int .i64 n4), .sl 3 1 ((r6.take i7).drop 0)]]))
  else
    some (.d (.tup [.agg [.v (.int .i64 h3_0), .v (.int .i64 h3_1), .sl 3 2 H5, .sl 3 1 H7, .v (.int .i64 h3_4), .sl 3 2 H9], .agg [.v (.int .i64 h4_0), .v (.int .i64 h4_1), .sl 3 2 H6, .sl 3 1 H8, .v (.int .i64 h4_4), .sl 3 2 H10]]), [])) := by kernel_rfl
theorem law_insts.eq (X : Orc) (k : Nat) (p0_0 : Int) (p0_1 : Int) (p0_2 : Rows) (p0_3 : Rows) (p0_4 : Int) (p0_5 : Rows) : runF P X law_insts.cf (k + 1) F.law_insts [.agg [.d (.v (.int .i64 p0_0)), .d (.v (.int .i64 p0_1)), .d (.sl 3 2 p0_2), .d (.sl 3 1 p0_3), .d (.v (.int .i64 p0_4)), .d (.sl 3 2 p0_5)]] [] = (
  onIx (if 40 < (p0_2.length : Int) then 40 else (p0_2.length : Int)) (p0_2.length + 1) fun i1 =>
  law_insts.l4 X k ((p0_2.take i1).drop 0) (((p0_2.take i1).drop 0).length : Int) 0 p0_0 p0_1 p0_2 p0_3 p0_4 p0_5 0 0 0 0 0 0 p0_0 p0_1 p0_4 p0_0 p0_1 p0_4 ([]) ([])) := by kernel_rfl
def law_light.cf : Cf := { loops := [{ fid := 6, key := 3, live := [4, 5, 12, 13], vecs := [], cvecs := [], nb := 6, cs := [] }], mode := fun g => bif Nat.beq g F.law_tame then 2 else 0 }
noncomputable def law_light.l3 (X : Orc) (k : Nat) (a12 : Int) (a13 : Int) (h0_0 : Int) (h0_1 : Int) (h0_2 : Rows) (h0_3 : Rows) (h0_4 : Int) (h0_5 : Rows) (h1_0 : Int) (h1_1 : Int) (h1_4 : Int) (H2 : Rows) (H3 : Rows) (H4 : Rows) (h5_0 : Int) (h5_1 : Int) (h5_2l : Nat) (h5_3l : Nat) (h5_4 : Int) (h5_5l : Nat) : Option Res := loopAt P X law_light.cf k 6 Go.Proofs.Try.f6 3 [(4, .ptr 1 0), (5, .ptr 5 0), (12, .d (.v (.int .i64 a12))), (13, .d (.v (.int .i64 a13)))] [] [.cel [.d (.v (.int .i64 h0_0)), .d (.v (.int .i64 h0_1)), .d (.sl 3 2 h0_2), .d (.sl 3 1 h0_3), .d (.v (.int .i64 h0_4)), .d (.sl 3 2 h0_5)], .cel [.d (.v (.int .i64 h1_0)), .d (.v (.int .i64 h1_1)), .d (.v (.slice none 0 0)), .d (.v (.slice none 0 0)), .d (.v (.int .i64 h1_4)), .d (.v (.slice none 0 0))], .arr 2 H2, .arr 1 H3, .arr 2 H4, .cel [.d (.v (.int .i64 h5_0)), .d (.v (.int .i64 h5_1)), .hs 2 0 2 0 h5_2l, .hs 3 0 1 0 h5_3l, .d (.v (.int .i64 h5_4)), .hs 4 0 2 0 h5_5l]]
theorem law_light.l3_eq (X : Orc) (k : Nat) (a12 : Int) (a13 : Int) (h0_0 : Int) (h0_1 : Int) (h0_2 : Rows) (h0_3 : Rows) (h0_4 : Int) (h0_5 : Rows) (h1_0 : Int) (h1_1 : Int) (h1_4 : Int) (H2 : Rows) (H3 : Rows) (H4 : Rows) (h5_0 : Int) (h5_1 : Int) (h5_2l : Nat) (h5_3l : Nat) (h5_4 : Int) (h5_5l : Nat) : law_light.l3 X (k + 1) a12 a13 h0_0 h0_1 h0_2 h0_3 h0_4 h0_5 h1_0 h1_1 h1_4 H2 H3 H4 h5_0 h5_1 h5_2l h5_3l h5_4 h5_5l = (
  if decide (a13 < a12) = true then
    onIx a13 h5_2l fun i1 =>
    onRow H2 (0 + i1) fun w2 =>
    onCell w2 1 fun x3 =>
    onInt .i64 x3 fun n4 =>
    onIx a13 h5_2l fun i5 =>
    onRow H2 (0 + i5) fun w6 =>
    law_light.l3 X k a12 (IntKind.i64.wrap (a13 + 1)) h0_0 h0_1 h0_2 h0_3 h0_4 h0_5 h1_0 h1_1 h1_4 (H2.set (0 + i5) (splice w6 1 [.v (.int .i64 (n4.tmod 40))])) H3 H4 h5_0 h5_1 h5_2l h5_3l h5_4 h5_5l
  else
    some (.d (.agg [.v (.int .i64 h5_0), .v (.int .i64 h5_1), .sl 3 2 ((H2.drop 0).take h5_2l), .sl 3 1 ((H3.drop 0).take h5_3l), .v (.int .i64 h5_4), .sl 3 2 ((H4.drop 0).take h5_5l)]), [])) := by kernel_rfl
theorem law_light.eq (X : Orc) (k : Nat) (p0_0 : Int) (p0_1 : Int) (p0_2 : Rows) (p0_3 : Rows) (p0_4 : Int) (p0_5 : Rows) (p1 : Int) : runF P X law_light.cf (k + 1) F.law_light [.agg [.d (.v (.int .i64 p0_0)), .d (.v (.int .i64 p0_1)), .d (.sl 3 2 p0_2), .d (.sl 3 1 p0_3), .d (.v (.int .i64 p0_4)), .d (.sl 3 2 p0_5)], .d (.v (.int .i64 p1))] [] = (
  onOwn (X F.law_tame [.agg [.d (.v (.int .i64 p0_0)), .d (.v (.int .i64 p0_1)), .d (.sl 3 2 p0_2), .d (.sl 3 1 p0_3), .d (.v (.int .i64 p0_4)), .d (.sl 3 2 p0_5)], .d (.v (.int .i64 p1))] []) fun z1 h2 =>
  onAggA 6 z1 fun c3 =>
  onCellA c3 0 fun x4 =>
  onD x4 fun y5 =>
  onInt .i64 y5 fun n6 =>
  onCellA c3 1 fun x7 =>
  onD x7 fun y8 =>
  onInt .i64 y8 fun n9 =>
  onCellA c3 2 fun x10 =>
  onHs 0 2 x10 fun l11 =>
  onArr h2 0 2 fun r12 =>
  onCellA c3 3 fun x13 =>
  onHs 1 1 x13 fun l14 =>
  onArr h2 1 1 fun r15 =>
  onCellA c3 4 fun x16 =>
  onD x16 fun y17 =>
  onInt .i64 y17 fun n18 =>
  onCellA c3 5 fun x19 =>
  onHs 2 2 x19 fun l20 =>
  onArr h2 2 2 fun r21 =>
  law_light.l3 X k (l11 : Int) 0 p0_0 p0_1 p0_2 p0_3 p0_4 p0_5 0 0 0 r12 r15 r21 n6 n9 l11 l14 n18 l20) := by kernel_rfl
def dyn_Best.cf : Cf := { loops := [] }
theorem dyn_Best.eq (X : Orc) (k : Nat) (p0_0 : Int) (p0_1 : Int) (p0_2 : Rows) (p0_3 : Rows) (p0_4 : Int) (p0_5 : Rows) : runF P X dyn_Best.cf (k + 1) F.dyn_Best [.agg [.d (.v (.int .i64 p0_0)), .d (.v (.int .i64 p0_1)), .d (.sl 3 2 p0_2), .d (.sl 3 1 p0_3), .d (.v (.int .i64 p0_4)), .d (.sl 3 2 p0_5)]] [] = (
  onCall (X F.dyn_Cells [.agg [.d (.v (.int .i64 p0_0)), .d (.v (.int .i64 p0_1)), .d (.sl 3 2 p0_2), .d (.sl 3 1 p0_3), .d (.v (.int .i64 p0_4)), .d (.sl 3 2 p0_5)]] []) fun z1 =>
  onTup 2 z1 fun u2 =>
  onCell u2 0 fun x3 =>
  onInt .i64 x3 fun n4 =>
  onCell u2 1 fun x5 =>
  onInt .i64 x5 fun n6 =>
  if (n6 != 0) = true then
    some (.d (.tup [.v (.slice none 0 0), .v (.int .i64 0), .v (.bool false), .v (.int .i64 n6)]), [])
  else
    if p0_0 = (0 : Nat) then
      onCall (X F.dyn_knapsack [.agg [.d (.v (.int .i64 p0_0)), .d (.v (.int .i64 p0_1)), .d (.sl 3 2 p0_2), .d (.sl 3 1 p0_3), .d (.v (.int .i64 p0_4)), .d (.sl 3 2 p0_5)]] []) fun z7 =>
      onTup 3 z7 fun u8 =>
      onCell u8 0 fun x9 =>
      onSl 1 x9 fun r10 =>
      onCell u8 1 fun x11 =>
      onInt .i64 x11 fun n12 =>
      onCell u8 2 fun x13 =>
      onBool x13 fun b14 =>
      some (.d (.tup [.sl 3 1 r10, .v (.int .i64 n12), .v (.bool b14), .v (.int .i64 0)]), [])
    else
      if p0_0 = (1 : Nat) then
        onCall (X F.dyn_assignment [.agg [.d (.v (.int .i64 p0_0)), .d (.v (.int .i64 p0_1)), .d (.sl 3 2 p0_2), .d (.sl 3 1 p0_3), .d (.v (.int .i64 p0_4)), .d (.sl 3 2 p0_5)]] []) fun z15 =>
        onTup 3 z15 fun u16 =>
        onCell u16 0 fun x17 =>
        onSl 1 x17 fun r18 =>
        onCell u16 1 fun x19 =>
        onInt .i64 x19 fun n20 =>
        onCell u16 2 fun x21 =>
        onBool x21 fun b22 =>
        some (.d (.tup [.sl 3 1 r18, .v (.int .i64 n20), .v (.bool b22), .v (.int .i64 0)]), [])
      else
        if p0_0 = (2 : Nat) then
          onCall (X F.dyn_tour [.agg [.d (.v (.int .i64 p0_0)), .d (.v (.int .i64 p0_1)), .d (.sl 3 2 p0_2), .d (.sl 3 1 p0_3), .d (.v (.int .i64 p0_4)), .d (.sl 3 2 p0_5)]] []) fun z23 =>
          onTup 3 z23 fun u24 =>
          onCell u24 0 fun x25 =>
          onSl 1 x25 fun r26 =>
          onCell u24 1 fun x27 =>
          onInt .i64 x27 fun n28 =>
          onCell u24 2 fun x29 =>
          onBool x29 fun b30 =>
          some (.d (.tup [.sl 3 1 r26, .v (.int .i64 n28), .v (.bool b30), .v (.int .i64 0)]), [])
        else
          if p0_0 = (3 : Nat) then
            onCall (X F.dyn_cover [.agg [.d (.v (.int .i64 p0_0)), .d (.v (.int .i64 p0_1)), .d (.sl 3 2 p0_2), .d (.sl 3 1 p0_3), .d (.v (.int .i64 p0_4)), .d (.sl 3 2 p0_5)]] []) fun z31 =>
            onTup 3 z31 fun u32 =>
            onCell u32 0 fun x33 =>
            onSl 1 x33 fun r34 =>
            onCell u32 1 fun x35 =>
            onInt .i64 x35 fun n36 =>
            onCell u32 2 fun x37 =>
            onBool x37 fun b38 =>
            some (.d (.tup [.sl 3 1 r34, .v (.int .i64 n36), .v (.bool b38), .v (.int .i64 0)]), [])
          else
            none) := by kernel_rfl
def ref13_Best.cf : Cf := { loops := [{ fid := 8, key := 9, live := [1, 8, 9, 10, 11, 12], vecs := [], cvecs := [], nb := 1, nils := [(9, 1)], cs := [] }] }
noncomputable def ref13_Best.l9 (X : Orc) (k : Nat) (a8 : Rows) (a9 : Rows) (a10 : Int) (a11 : Bool) (a12 : Int) (h0_0 : Int) (h0_1 : Int) (h0_2 : Rows) (h0_3 : Rows) (h0_4 : Int) (h0_5 : Rows) : Option Res := loopAt P X ref13_Best.cf k 8 Go.Proofs.Try.f8 9 [(1, .ptr 0 0), (8, .d (.sl 3 1 a8)), (9, .d (.sl 3 1 a9)), (10, .d (.v (.int .i64 a10))), (11, .d (.v (.bool a11))), (12, .d (.v (.int .i64 a12)))] [] [.cel [.d (.v (.int .i64 h0_0)), .d (.v (.int .i64 h0_1)), .d (.sl 3 2 h0_2), .d (.sl 3 1 h0_3), .d (.v (.int .i64 h0_4)), .d (.sl 3 2 h0_5)]]
theorem ref13_Best.l9_eq (X : Orc) (k : Nat) (a8 : Rows) (a9 : Rows) (a10 : Int) (a11 : Bool) (a12 : Int) (h0_0 : Int) (h0_1 : Int) (h0_2 : Rows) (h0_3 : Rows) (h0_4 : Int) (h0_5 : Rows) : ref13_Best.l9 X (k + 1) a8 a9 a10 a11 a12 h0_0 h0_1 h0_2 h0_3 h0_4 h0_5 = (
  if decide (a12 < (a8.length : Int)) = true then
    onIx a12 a8.length fun i1 =>
    onRow a8 i1 fun w2 =>
    onCell w2 0 fun x3 =>
    onSl 1 x3 fun r4 =>
    onCall (X F.ref12_Cost [.agg [.d (.v (.int .i64 h0_0)), .d (.v (.int .i64 h0_1)), .d (.sl 3 2 h0_2), .d (.sl 3 1 h0_3), .d (.v (.int .i64 h0_4)), .d (.sl 3 2 h0_5)], .d (.sl 3 1 r4)] []) fun z5 =>
    onTup 2 z5 fun u6 =>
    onCell u6 0 fun x7 =>
    onInt .i64 x7 fun n8 =>
    onCell u6 1 fun x9 =>
    onInt .i64 x9 fun n10 =>
    if (n10 == 0) = true then
      if (!a11) = true then
        onIx a12 a8.length fun i11 =>
        onRow a8 i11 fun w12 =>
        onCell w12 0 fun x13 =>
        onSl 1 x13 fun r14 =>
        ref13_Best.l9 X k a8 r14 n8 true (IntKind.i64.wrap (a12 + 1)) h0_0 h0_1 h0_2 h0_3 h0_4 h0_5
      else
        if decide (n8 < a10) = true then
          onIx a12 a8.length fun i15 =>
          onRow a8 i15 fun w16 =>
          onCell w16 0 fun x17 =>
          onSl 1 x17 fun r18 =>
          ref13_Best.l9 X k a8 r18 n8 true (IntKind.i64.wrap (a12 + 1)) h0_0 h0_1 h0_2 h0_3 h0_4 h0_5
        else
          ref13_Best.l9 X k a8 a9 a10 a11 (IntKind.i64.wrap (a12 + 1)) h0_0 h0_1 h0_2 h0_3 h0_4 h0_5
    else
      ref13_Best.l9 X k a8 a9 a10 a11 (IntKind.i64.wrap (a12 + 1)) h0_0 h0_1 h0_2 h0_3 h0_4 h0_5
  else
    some (.d (.tup [.sl 3 1 a9, .v (.int .i64 a10), .v (.bool a11), .v (.int .i64 0)]), [])) := by kernel_rfl
theorem ref13_Best.eq (X : Orc) (k : Nat) (p0_0 : Int) (p0_1 : Int) (p0_2 : Rows) (p0_3 : Rows) (p0_4 : Int) (p0_5 : Rows) : runF P X ref13_Best.cf (k + 1) F.ref13_Best [.agg [.d (.v (.int .i64 p0_0)), .d (.v (.int .i64 p0_1)), .d (.sl 3 2 p0_2), .d (.sl 3 1 p0_3), .d (.v (.int .i64 p0_4)), .d (.sl 3 2 p0_5)]] [] = (
  onCall (X F.ref13_Count [.agg [.d (.v (.int .i64 p0_0)), .d (.v (.int .i64 p0_1)), .d (.sl 3 2 p0_2), .d (.sl 3 1 p0_3), .d (.v (.int .i64 p0_4)), .d (.sl 3 2 p0_5)]] []) fun z1 =>
  onTup 2 z1 fun u2 =>
  onCell u2 0 fun x3 =>
  onInt .i64 x3 fun n4 =>
  onCell u2 1 fun x5 =>
  onInt .i64 x5 fun n6 =>
  if (n6 != 0) = true then
    some (.d (.tup [.v (.slice none 0 0), .v (.int .i64 0), .v (.bool false), .v (.int .i64 n6)]), [])
  else
    onCall (X F.ref13_All [.agg [.d (.v (.int .i64 p0_0)), .d (.v (.int .i64 p0_1)), .d (.sl 3 2 p0_2), .d (.sl 3 1 p0_3), .d (.v (.int .i64 p0_4)), .d (.sl 3 2 p0_5)]] []) fun z7 =>
    onSl 1 z7 fun r8 =>
    ref13_Best.l9 X k r8 ([]) 0 false 0 p0_0 p0_1 p0_2 p0_3 p0_4 p0_5) := by kernel_rfl
def ref30_Cells.cf : Cf := { loops := [{ fid := 9, key := 13, live := [1, 6, 7, 8], vecs := [], cvecs := [], nb := 1, cs := [] }, { fid := 9, key := 25, live := [6, 10, 11, 12], vecs := [], cvecs := [], nb := 3, cs := [] }] }
noncomputable def ref30_Cells.l13 (X : Orc) (k : Nat) (a6 : Int) (a7 : Int) (a8 : Int) (h0_0 : Int) (h0_1 : Int) (h0_2 : Rows) (h0_3 : Rows) (h0_4 : Int) (h0_5 : Rows) : Option Res := loopAt P X ref30_Cells.cf k 9 Go.Proofs.Try.f9 13 [(1, .ptr 0 0), (6, .d (.v (.int .i64 a6))), (7, .d (.v (.int .i64 a7))), (8, .d (.v (.int .i64 a8)))] [] [.cel [.d (.v (.int .i64 h0_0)), .d (.v (.int .i64 h0_1)), .d (.sl 3 2 h0_2), .d (.sl 3 1 h0_3), .d (.v (.int .i64 h0_4)), .d (.sl 3 2 h0_5)]]
noncomputable def ref30_Cells.l25 (X : Orc) (k : Nat) (a6 : Int) (a12 : Int) (h0_0 : Int) (h0_1 : Int) (h0_2 : Rows) (h0_3 : Rows) (h0_4 : Int) (h0_5 : Rows) (h1_0 : Bool) (h1_1 : Rows) (h2_0 : Bool) (h2_1 : Rows) : Option Res := loopAt P X ref30_Cells.cf k 9 Go.Proofs.Try.f9 25 [(6, .d (.v (.int .i64 a6))), (10, .ptr 1 0), (11, .ptr 2 0), (12, .d (.v (.int .i64 a12)))] [] [.cel [.d (.v (.int .i64 h0_0)), .d (.v (.int .i64 h0_1)), .d (.sl 3 2 h0_2), .d (.sl 3 1 h0_3), .d (.v (.int .i64 h0_4)), .d (.sl 3 2 h0_5)], .cel [.d (.v (.bool h1_0)), .d (.sl 3 1 h1_1)], .cel [.d (.v (.bool h2_0)), .d (.sl 3 1 h2_1)]]
theorem ref30_Cells.l13_eq (X : Orc) (k : Nat) (a6 : Int) (a7 : Int) (a8 : Int) (h0_0 : Int) (h0_1 : Int) (h0_2 : Rows) (h0_3 : Rows) (h0_4 : Int) (h0_5 : Rows) : ref30_Cells.l13 X (k + 1) a6 a7 a8 h0_0 h0_1 h0_2 h0_3 h0_4 h0_5 = (
  if decide (a8 < (h0_2.length : Int)) = true then
    onIx a8 h0_2.length fun i1 =>
    onRow h0_2 i1 fun w2 =>
    onCell w2 1 fun x3 =>
    onInt .i64 x3 fun n4 =>
    ref30_Cells.l13 X k a6 (IntKind.i64.wrap (a7 + n4)) (IntKind.i64.wrap (a8 + 1)) h0_0 h0_1 h0_2 h0_3 h0_4 h0_5
  else
    if decide (a7 > h0_1) = true then
      onCall (X F.ref01_Of [.d (.v (.int .i64 (IntKind.i64.wrap ((IntKind.i64.wrap (h0_1 + 1)) * (IntKind.i64.wrap ((h0_2.length : Int) + 1))))))] []) fun z5 =>
      onAgg 2 z5 fun c6 =>
      onCell c6 0 fun x7 =>
      onBool x7 fun b8 =>
      onCell c6 1 fun x9 =>
      onSl 1 x9 fun r10 =>
      onCall (X F.ref01_Of [.d (.v (.int .i64 2))] []) fun z11 =>
      onAgg 2 z11 fun c12 =>
      onCell c12 0 fun x13 =>
      onBool x13 fun b14 =>
      onCell c12 1 fun x15 =>
      onSl 1 x15 fun r16 =>
      ref30_Cells.l25 X k a6 0 h0_0 h0_1 h0_2 h0_3 h0_4 h0_5 b8 r10 b14 r16
    else
      onCall (X F.ref01_Of [.d (.v (.int .i64 (IntKind.i64.wrap ((IntKind.i64.wrap (a7 + 1)) * (IntKind.i64.wrap ((h0_2.length : Int) + 1))))))] []) fun z17 =>
      onAgg 2 z17 fun c18 =>
      onCell c18 0 fun x19 =>
      onBool x19 fun b20 =>
      onCell c18 1 fun x21 =>
      onSl 1 x21 fun r22 =>
      onCall (X F.ref01_Of [.d (.v (.int .i64 2))] []) fun z23 =>
      onAgg 2 z23 fun c24 =>
      onCell c24 0 fun x25 =>
      onBool x25 fun b26 =>
      onCell c24 1 fun x27 =>
      onSl 1 x27 fun r28 =>
      ref30_Cells.l25 X k a6 0 h0_0 h0_1 h0_2 h0_3 h0_4 h0_5 b20 r22 b26 r28) := by kernel_rfl
theorem ref30_Cells.l25_eq (X : Orc) (k : Nat) (a6 : Int) (a12 : Int) (h0_0 : Int) (h0_1 : Int) (h0_2 : Rows) (h0_3 : Rows) (h0_4 : Int) (h0_5 : Rows) (h1_0 : Bool) (h1_1 : Rows) (h2_0 : Bool) (h2_1 : Rows) : ref30_Cells.l25 X (k + 1) a6 a12 h0_0 h0_1 h0_2 h0_3 h0_4 h0_5 h1_0 h1_1 h2_0 h2_1 = (
  if decide (a12 < a6) = true then
    if decide ((h1_1.length : Int) > 4) = true then
      some (.d (.tup [.v (.int .i64 0), .v (.int .i64 24)]), [])
    else
      onCall (X F.ref01_Mul [.agg [.d (.v (.bool h1_0)), .d (.sl 3 1 h1_1)], .agg [.d (.v (.bool h2_0)), .d (.sl 3 1 h2_1)]] []) fun z1 =>
      onAgg 2 z1 fun c2 =>
      onCell c2 0 fun x3 =>
      onBool x3 fun b4 =>
      onCell c2 1 fun x5 =>
      onSl 1 x5 fun r6 =>
      ref30_Cells.l25 X k a6 (IntKind.i64.wrap (a12 + 1)) h0_0 h0_1 h0_2 h0_3 h0_4 h0_5 b4 r6 h2_0 h2_1
  else
    onCall (X F.ref01_Short [.agg [.d (.v (.bool h1_0)), .d (.sl 3 1 h1_1)]] []) fun z7 =>
    onTup 2 z7 fun u8 =>
    onCell u8 0 fun x9 =>
    onInt .i64 x9 fun n10 =>
    onCell u8 1 fun x11 =>
    onBool x11 fun b12 =>
    if (!b12) = true then
      some (.d (.tup [.v (.int .i64 0), .v (.int .i64 24)]), [])
    else
      if decide (n10 > 1048576) = true then
        some (.d (.tup [.v (.int .i64 0), .v (.int .i64 24)]), [])
      else
        some (.d (.tup [.v (.int .i64 n10), .v (.int .i64 0)]), [])) := by kernel_rfl
theorem ref30_Cells.eq (X : Orc) (k : Nat) (p0_0 : Int) (p0_1 : Int) (p0_2 : Rows) (p0_3 : Rows) (p0_4 : Int) (p0_5 : Rows) : runF P X ref30_Cells.cf (k + 1) F.ref30_Cells [.agg [.d (.v (.int .i64 p0_0)), .d (.v (.int .i64 p0_1)), .d (.sl 3 2 p0_2), .d (.sl 3 1 p0_3), .d (.v (.int .i64 p0_4)), .d (.sl 3 2 p0_5)]] [] = (
  onCall (X F.ref09_Check [.agg [.d (.v (.int .i64 p0_0)), .d (.v (.int .i64 p0_1)), .d (.sl 3 2 p0_2), .d (.sl 3 1 p0_3), .d (.v (.int .i64 p0_4)), .d (.sl 3 2 p0_5)]] []) fun z1 =>
  onInt .i64 z1 fun n2 =>
  if (n2 != 0) = true then
    some (.d (.tup [.v (.int .i64 0), .v (.int .i64 n2)]), [])
  else
    if (p0_0 == 0) = true then
      ref30_Cells.l13 X k 0 0 0 p0_0 p0_1 p0_2 p0_3 p0_4 p0_5
    else
      if (p0_0 == 3) = true then
        onCall (X F.ref01_Of [.d (.v (.int .i64 (IntKind.i64.wrap ((p0_5.length : Int) + 1))))] []) fun z3 =>
        onAgg 2 z3 fun c4 =>
        onCell c4 0 fun x5 =>
        onBool x5 fun b6 =>
        onCell c4 1 fun x7 =>
        onSl 1 x7 fun r8 =>
        onCall (X F.ref01_Of [.d (.v (.int .i64 2))] []) fun z9 =>
        onAgg 2 z9 fun c10 =>
        onCell c10 0 fun x11 =>
        onBool x11 fun b12 =>
        onCell c10 1 fun x13 =>
        onSl 1 x13 fun r14 =>
        ref30_Cells.l25 X k p0_4 0 p0_0 p0_1 p0_2 p0_3 p0_4 p0_5 b6 r8 b12 r14
      else
        onCall (X F.ref09_N [.agg [.d (.v (.int .i64 p0_0)), .d (.v (.int .i64 p0_1)), .d (.sl 3 2 p0_2), .d (.sl 3 1 p0_3), .d (.v (.int .i64 p0_4)), .d (.sl 3 2 p0_5)]] []) fun z15 =>
        onInt .i64 z15 fun n16 =>
        onCall (X F.ref01_Of [.d (.v (.int .i64 n16))] []) fun z17 =>
        onAgg 2 z17 fun c18 =>
        onCell c18 0 fun x19 =>
        onBool x19 fun b20 =>
        onCell c18 1 fun x21 =>
        onSl 1 x21 fun r22 =>
        onCall (X F.ref01_Of [.d (.v (.int .i64 2))] []) fun z23 =>
        onAgg 2 z23 fun c24 =>
        onCell c24 0 fun x25 =>
        onBool x25 fun b26 =>
        onCell c24 1 fun x27 =>
        onSl 1 x27 fun r28 =>
        ref30_Cells.l25 X k n16 0 p0_0 p0_1 p0_2 p0_3 p0_4 p0_5 b20 r22 b26 r28) := by kernel_rfl
def law_wakes.cf : Cf := { loops := [] }
theorem law_wakes.eq (X : Orc) (k : Nat)  : runF P X law_wakes.cf (k + 1) F.law_wakes [] [] = (
  onCall (X F.dyn_Cells [.agg [.d (.v (.int .i64 0)), .d (.v (.int .i64 5)), .d (.sl 3 2 ([[.v (.int .i64 6), .v (.int .i64 3)], [.v (.int .i64 5), .v (.int .i64 4)]])), .d (.sl 3 1 ([])), .d (.v (.int .i64 0)), .d (.sl 3 2 ([]))]] []) fun z1 =>
  onTup 2 z1 fun u2 =>
  onCell u2 0 fun x3 =>
  onInt .i64 x3 fun n4 =>
  onCell u2 1 fun x5 =>
  onInt .i64 x5 fun n6 =>
  onCall (X F.dyn_Best [.agg [.d (.v (.int .i64 0)), .d (.v (.int .i64 5)), .d (.sl 3 2 ([[.v (.int .i64 6), .v (.int .i64 3)], [.v (.int .i64 5), .v (.int .i64 4)]])), .d (.sl 3 1 ([])), .d (.v (.int .i64 0)), .d (.sl 3 2 ([]))]] []) fun z7 =>
  onTup 4 z7 fun u8 =>
  onCell u8 0 fun x9 =>
  onSl 1 x9 fun r10 =>
  onCell u8 1 fun x11 =>
  onInt .i64 x11 fun n12 =>
  onCell u8 2 fun x13 =>
  onBool x13 fun b14 =>
  onCell u8 3 fun x15 =>
  onInt .i64 x15 fun n16 =>
  onCall (X F.dyn_Frontier [.agg [.d (.v (.int .i64 0)), .d (.v (.int .i64 5)), .d (.sl 3 2 ([[.v (.int .i64 6), .v (.int .i64 3)], [.v (.int .i64 5), .v (.int .i64 4)]])), .d (.sl 3 1 ([])), .d (.v (.int .i64 0)), .d (.sl 3 2 ([]))]] []) fun z17 =>
  onTup 2 z17 fun u18 =>
  onCell u18 0 fun x19 =>
  onSl 1 x19 fun r20 =>
  onCell u18 1 fun x21 =>
  onInt .i64 x21 fun n22 =>
  if (n6 == 0) = true then
    if (n4 == 18) = true then
      if (n16 == 0) = true then
        if b14 = true then
          if (n12 == (-6)) = true then
            if ((r10.length : Int) == 1) = true then
              onIx 0 r10.length fun i23 =>
              onRow r10 i23 fun w24 =>
              onCell w24 0 fun x25 =>
              onInt .i64 x25 fun n26 =>
              if (n26 == 0) = true then
                if (n22 == 0) = true then
                  if ((r20.length : Int) == 6) = true then
                    onIx 2 r20.length fun i27 =>
                    onRow r20 i27 fun w28 =>
                    onCell w28 0 fun x29 =>
                    onInt .i64 x29 fun n30 =>
                    if (n30 == 0) = true then
                      onIx 3 r20.length fun i31 =>
                      onRow r20 i31 fun w32 =>
                      onCell w32 0 fun x33 =>
                      onInt .i64 x33 fun n34 =>
                      some (.d (.v (.bool (n34 == 6))), [])
                    else
                      some (.d (.v (.bool false)), [])
                  else
                    some (.d (.v (.bool false)), [])
                else
                  some (.d (.v (.bool false)), [])
              else
                some (.d (.v (.bool false)), [])
            else
              some (.d (.v (.bool false)), [])
          else
            some (.d (.v (.bool false)), [])
        else
          some (.d (.v (.bool false)), [])
      else
        some (.d (.v (.bool false)), [])
    else
      some (.d (.v (.bool false)), [])
  else
    some (.d (.v (.bool false)), [])) := by kernel_rfl
def eval_Cost.cf : Cf := { loops := [] }
theorem eval_Cost.eq (X : Orc) (k : Nat) (p0_0 : Int) (p0_1 : Int) (p0_2 : Rows) (p0_3 : Rows) (p0_4 : Int) (p0_5 : Rows) (p1 : Rows) : runF P X eval_Cost.cf (k + 1) F.eval_Cost [.agg [.d (.v (.int .i64 p0_0)), .d (.v (.int .i64 p0_1)), .d (.sl 3 2 p0_2), .d (.sl 3 1 p0_3), .d (.v (.int .i64 p0_4)), .d (.sl 3 2 p0_5)], .d (.sl 3 1 p1)] [] = (
  onCall (X F.eval_Value [.agg [.d (.v (.int .i64 p0_0)), .d (.v (.int .i64 p0_1)), .d (.sl 3 2 p0_2), .d (.sl 3 1 p0_3), .d (.v (.int .i64 p0_4)), .d (.sl 3 2 p0_5)], .d (.sl 3 1 p1)] []) fun z1 =>
  onTup 2 z1 fun u2 =>
  onCell u2 0 fun x3 =>
  onInt .i64 x3 fun n4 =>
  onCell u2 1 fun x5 =>
  onInt .i64 x5 fun n6 =>
  if (p0_0 == 0) = true then
    some (.d (.tup [.v (.int .i64 (IntKind.i64.wrap (0 - n4))), .v (.int .i64 n6)]), [])
  else
    some (.d (.tup [.v (.int .i64 n4), .v (.int .i64 n6)]), [])) := by kernel_rfl
def dyn_Frontier.cf : Cf := { loops := [] }
theorem dyn_Frontier.eq (X : Orc) (k : Nat) (p0_0 : Int) (p0_1 : Int) (p0_2 : Rows) (p0_3 : Rows) (p0_4 : Int) (p0_5 : Rows) : runF P X dyn_Frontier.cf (k + 1) F.dyn_Frontier [.agg [.d (.v (.int .i64 p0_0)), .d (.v (.int .i64 p0_1)), .d (.sl 3 2 p0_2), .d (.sl 3 1 p0_3), .d (.v (.int .i64 p0_4)), .d (.sl 3 2 p0_5)]] [] = (
  onCall (X F.dyn_Cells [.agg [.d (.v (.int .i64 p0_0)), .d (.v (.int .i64 p0_1)), .d (.sl 3 2 p0_2), .d (.sl 3 1 p0_3), .d (.v (.int .i64 p0_4)), .d (.sl 3 2 p0_5)]] []) fun z1 =>
  onTup 2 z1 fun u2 =>
  onCell u2 0 fun x3 =>
  onInt .i64 x3 fun n4 =>
  onCell u2 1 fun x5 =>
  onInt .i64 x5 fun n6 =>
  if (n6 != 0) = true then
    some (.d (.tup [.v (.slice none 0 0), .v (.int .i64 n6)]), [])
  else
    if (p0_0 != 0) = true then
      some (.d (.tup [.v (.slice none 0 0), .v (.int .i64 25)]), [])
    else
      onCall (X F.dyn_rows [.agg [.d (.v (.int .i64 p0_0)), .d (.v (.int .i64 p0_1)), .d (.sl 3 2 p0_2), .d (.sl 3 1 p0_3), .d (.v (.int .i64 p0_4)), .d (.sl 3 2 p0_5)]] []) fun z7 =>
      onSl 1 z7 fun r8 =>
      onIx (IntKind.i64.wrap ((r8.length : Int) - 1)) r8.length fun i9 =>
      onRow r8 i9 fun w10 =>
      onCell w10 0 fun x11 =>
      onSl 1 x11 fun r12 =>
      some (.d (.tup [.sl 3 1 r12, .v (.int .i64 0)]), [])) := by kernel_rfl
def law_tame.cf : Cf := { loops := [{ fid := 14, key := 20, live := [4, 5, 6, 106, 107, 108], vecs := [], cvecs := [], nb := 6, cs := [] }, { fid := 14, key := 27, live := [4, 5, 6, 143, 144, 145], vecs := [], cvecs := [], nb := 6, cs := [] }, { fid := 14, key := 31, live := [4, 5, 6, 10, 11, 143, 144, 145, 156, 157], vecs := [], cvecs := [(7, 1, 1)], nb := 9, cs := [] }, { fid := 14, key := 34, live := [4, 5, 6, 10, 11, 12, 143, 144, 145, 156, 157, 166, 167, 168], vecs := [], cvecs := [], nb := 9, cs := [] }, { fid := 14, key := 6, live := [2, 4, 5, 6, 15, 34, 35], vecs := [], cvecs := [], nb := 6, cs := [] }, { fid := 14, key := 10, live := [2, 4, 5, 6, 15, 16, 17, 34, 35, 40, 41], vecs := [], cvecs := [], nb := 7, cs := [] }], joins := [{ fid := 14, key := 3, live := [1, 2, 4, 5, 6], vecs := [], cvecs := [(2, 2, 2), (2, 3, 1), (2, 5, 2)], nb := 6, cs := [] }], ret := 2 }
noncomputable def law_tame.j3 (X : Orc) (k : Nat) (a1 : Int) (h0_0 : Int) (h0_1 : Int) (h0_2 : Rows) (h0_3 : Rows) (h0_4 : Int) (h0_5 : Rows) (h1_0 : Int) (h1_1 : Int) (h1_4 : Int) (h2_0 : Int) (h2_1 : Int) (h2_4 : Int) (H3 : Rows) (H4 : Rows) (H5 : Rows) : Option Res := joinAt P X law_tame.cf k 14 Go.Proofs.Try.f14 3 [(1, .d (.v (.int .i64 a1))), (2, .ptr 0 0), (4, .ptr 1 0), (5, .fn (.func 34) []), (6, .ptr 2 0)] [] [.cel [.d (.v (.int .i64 h0_0)), .d (.v (.int .i64 h0_1)), .d (.sl 3 2 h0_2), .d (.sl 3 1 h0_3), .d (.v (.int .i64 h0_4)), .d (.sl 3 2 h0_5)], .cel [.d (.v (.int .i64 h1_0)), .d (.v (.int .i64 h1_1)), .d (.v (.slice none 0 0)), .d (.v (.slice none 0 0)), .d (.v (.int .i64 h1_4)), .d (.v (.slice none 0 0))], .cel [.d (.v (.int .i64 h2_0)), .d (.v (.int .i64 h2_1)), .vh 3 0 2 H3.length, .vh 4 0 1 H4.length, .d (.v (.int .i64 h2_4)), .vh 5 0 2 H5.length], .vec 2 0 H3, .vec 1 0 H4, .vec 2 0 H5]
noncomputable def law_tame.l20 (X : Orc) (k : Nat) (a106 : Rows) (a107 : Int) (a108 : Int) (h0_0 : Int) (h0_1 : Int) (h0_2 : Rows) (h0_3 : Rows) (h0_4 : Int) (h0_5 : Rows) (h1_0 : Int) (h1_1 : Int) (h1_4 : Int) (h2_0 : Int) (h2_1 : Int) (h2_4 : Int) (H3 : Rows) (H4 : Rows) (H5 : Rows) : Option Res := loopAt P X law_tame.cf k 14 Go.Proofs.Try.f14 20 [(4, .ptr 1 0), (5, .fn (.func 34) []), (6, .ptr 2 0), (106, .d (.sl 3 2 a106)), (107, .d (.v (.int .i64 a107))), (108, .d (.v (.int .i64 a108)))] [] [.cel [.d (.v (.int .i64 h0_0)), .d (.v (.int .i64 h0_1)), .d (.sl 3 2 h0_2), .d (.sl 3 1 h0_3), .d (.v (.int .i64 h0_4)), .d (.sl 3 2 h0_5)], .cel [.d (.v (.int .i64 h1_0)), .d (.v (.int .i64 h1_1)), .d (.v (.slice none 0 0)), .d (.v (.slice none 0 0)), .d (.v (.int .i64 h1_4)), .d (.v (.slice none 0 0))], .cel [.d (.v (.int .i64 h2_0)), .d (.v (.int .i64 h2_1)), .vh 3 0 2 H3.length, .vh 4 0 1 H4.length, .d (.v (.int .i64 h2_4)), .vh 5 0 2 H5.length], .vec 2 0 H3, .vec 1 0 H4, .vec 2 0 H5]
noncomputable def law_tame.l27 (X : Orc) (k : Nat) (a143 : Rows) (a144 : Int) (a145 : Int) (h0_0 : Int) (h0_1 : Int) (h0_2 : Rows) (h0_3 : Rows) (h0_4 : Int) (h0_5 : Rows) (h1_0 : Int) (h1_1 : Int) (h1_4 : Int) (h2_0 : Int) (h2_1 : Int) (h2_4 : Int) (H3 : Rows) (H4 : Rows) (H5 : Rows) : Option Res := loopAt P X law_tame.cf k 14 Go.Proofs.Try.f14 27 [(4, .ptr 1 0), (5, .fn (.func 34) []), (6, .ptr 2 0), (143, .d (.sl 3 2 a143)), (144, .d (.v (.int .i64 a144))), (145, .d (.v (.int .i64 a145)))] [] [.cel [.d (.v (.int .i64 h0_0)), .d (.v (.int .i64 h0_1)), .d (.sl 3 2 h0_2), .d (.sl 3 1 h0_3), .d (.v (.int .i64 h0_4)), .d (.sl 3 2 h0_5)], .cel [.d (.v (.int .i64 h1_0)), .d (.v (.int .i64 h1_1)), .d (.v (.slice none 0 0)), .d (.v (.slice none 0 0)), .d (.v (.int .i64 h1_4)), .d (.v (.slice none 0 0))], .cel [.d (.v (.int .i64 h2_0)), .d (.v (.int .i64 h2_1)), .vh 3 0 2 H3.length, .vh 4 0 1 H4.length, .d (.v (.int .i64 h2_4)), .vh 5 0 2 H5.length], .vec 2 0 H3, .vec 1 0 H4, .vec 2 0 H5]
noncomputable def law_tame.l31 (X : Orc) (k : Nat) (a143 : Rows) (a144 : Int) (a145 : Int) (a156 : Int) (a157 : Int) (h0_0 : Int) (h0_1 : Int) (h0_2 : Rows) (h0_3 : Rows) (h0_4 : Int) (h0_5 : Rows) (h1_0 : Int) (h1_1 : Int) (h1_4 : Int) (h2_0 : Int) (h2_1 : Int) (h2_4 : Int) (H3 : Rows) (H4 : Rows) (H5 : Rows) (h6_0 : Int) (h6_1 : Rows) (h7_0 : Int) (H8 : Rows) : Option Res := loopAt P X law_tame.cf k 14 Go.Proofs.Try.f14 31 [(4, .ptr 1 0), (5, .fn (.func 34) []), (6, .ptr 2 0), (10, .ptr 6 0), (11, .ptr 7 0), (143, .d (.sl 3 2 a143)), (144, .d (.v (.int .i64 a144))), (145, .d (.v (.int .i64 a145))), (156, .d (.v (.int .i64 a156))), (157, .d (.v (.int .i64 a157)))] [] [.cel [.d (.v (.int .i64 h0_0)), .d (.v (.int .i64 h0_1)), .d (.sl 3 2 h0_2), .d (.sl 3 1 h0_3), .d (.v (.int .i64 h0_4)), .d (.sl 3 2 h0_5)], .cel [.d (.v (.int .i64 h1_0)), .d (.v (.int .i64 h1_1)), .d (.v (.slice none 0 0)), .d (.v (.slice none 0 0)), .d (.v (.int .i64 h1_4)), .d (.v (.slice none 0 0))], .cel [.d (.v (.int .i64 h2_0)), .d (.v (.int .i64 h2_1)), .vh 3 0 2 H3.length, .vh 4 0 1 H4.length, .d (.v (.int .i64 h2_4)), .vh 5 0 2 H5.length], .vec 2 0 H3, .vec 1 0 H4, .vec 2 0 H5, .cel [.d (.v (.int .i64 h6_0)), .d (.sl 3 1 h6_1)], .cel [.d (.v (.int .i64 h7_0)), .vh 8 0 1 H8.length], .vec 1 0 H8]
noncomputable def law_tame.l34 (X : Orc) (k : Nat) (a12 : Int) (a143 : Rows) (a144 : Int) (a145 : Int) (a156 : Int) (a157 : Int) (a166 : Rows) (a167 : Int) (a168 : Int) (h0_0 : Int) (h0_1 : Int) (h0_2 : Rows) (h0_3 : Rows) (h0_4 : Int) (h0_5 : Rows) (h1_0 : Int) (h1_1 : Int) (h1_4 : Int) (h2_0 : Int) (h2_1 : Int) (h2_4 : Int) (H3 : Rows) (H4 : Rows) (H5 : Rows) (h6_0 : Int) (h6_1 : Rows) (h7_0 : Int) (H8 : Rows) : Option Res := loopAt P X law_tame.cf k 14 Go.Proofs.Try.f14 34 [(4, .ptr 1 0), (5, .fn (.func 34) []), (6, .ptr 2 0), (10, .ptr 6 0), (11, .ptr 7 0), (12, .d (.v (.int .i64 a12))), (143, .d (.sl 3 2 a143)), (144, .d (.v (.int .i64 a144))), (145, .d (.v (.int .i64 a145))), (156, .d (.v (.int .i64 a156))), (157, .d (.v (.int .i64 a157))), (166, .d (.sl 3 1 a166)), (167, .d (.v (.int .i64 a167))), (168, .d (.v (.int .i64 a168)))] [] [.cel [.d (.v (.int .i64 h0_0)), .d (.v (.int .i64 h0_1)), .d (.sl 3 2 h0_2), .d (.sl 3 1 h0_3), .d (.v (.int .i64 h0_4)), .d (.sl 3 2 h0_5)], .cel [.d (.v (.int .i64 h1_0)), .d (.v (.int .i64 h1_1)), .d (.v (.slice none 0 0)), .d (.v (.slice none 0 0)), .d (.v (.int .i64 h1_4)), .d (.v (.slice none 0 0))], .cel [.d (.v (.int .i64 h2_0)), .d (.v (.int .i64 h2_1)), .vh 3 0 2 H3.length, .vh 4 0 1 H4.length, .d (.v (.int .i64 h2_4)), .vh 5 0 2 H5.length], .vec 2 0 H3, .vec 1 0 H4, .vec 2 0 H5, .cel [.d (.v (.int .i64 h6_0)), .d (.sl 3 1 h6_1)], .cel [.d (.v (.int .i64 h7_0)), .vh 8 0 1 H8.length], .vec 1 0 H8]
noncomputable def law_tame.l6 (X : Orc) (k : Nat) (a15 : Int) (a34 : Int) (a35 : Int) (h0_0 : Int) (h0_1 : Int) (h0_2 : Rows) (h0_3 : Rows) (h0_4 : Int) (h0_5 : Rows) (h1_0 : Int) (h1_1 : Int) (h1_4 : Int) (h2_0 : Int) (h2_1 : Int) (h2_4 : Int) (H3 : Rows) (H4 : Rows) (H5 : Rows) : Option Res := loopAt P X law_tame.cf k 14 Go.Proofs.Try.f14 6 [(2, .ptr 0 0), (4, .ptr 1 0), (5, .fn (.func 34) []), (6, .ptr 2 0), (15, .d (.v (.int .i64 a15))), (34, .d (.v (.int .i64 a34))), (35, .d (.v (.int .i64 a35)))] [] [.cel [.d (.v (.int .i64 h0_0)), .d (.v (.int .i64 h0_1)), .d (.sl 3 2 h0_2), .d (.sl 3 1 h0_3), .d (.v (.int .i64 h0_4)), .d (.sl 3 2 h0_5)], .cel [.d (.v (.int .i64 h1_0)), .d (.v (.int .i64 h1_1)), .d (.v (.slice none 0 0)), .d (.v (.slice none 0 0)), .d (.v (.int .i64 h1_4)), .d (.v (.slice none 0 0))], .cel [.d (.v (.int .i64 h2_0)), .d (.v (.int .i64 h2_1)), .vh 3 0 2 H3.length, .vh 4 0 1 H4.length, .d (.v (.int .i64 h2_4)), .vh 5 0 2 H5.length], .vec 2 0 H3, .vec 1 0 H4, .vec 2 0 H5]
noncomputable def law_tame.l10 (X : Orc) (k : Nat) (a15 : Int) (a16 : Int) (a17l : Nat) (a34 : Int) (a35 : Int) (a40 : Int) (a41 : Int) (h0_0 : Int) (h0_1 : Int) (h0_2 : Rows) (h0_3 : Rows) (h0_4 : Int) (h0_5 : Rows) (h1_0 : Int) (h1_1 : Int) (h1_4 : Int) (h2_0 : Int) (h2_1 : Int) (h2_4 : Int) (H3 : Rows) (H4 : Rows) (H5 : Rows) (H6 : Rows) : Option Res := loopAt P X law_tame.cf k 14 Go.Proofs.Try.f14 10 [(2, .ptr 0 0), (4, .ptr 1 0), (5, .fn (.func 34) []), (6, .ptr 2 0), (15, .d (.v (.int .i64 a15))), (16, .d (.v (.int .i64 a16))), (17, .hs 6 0 1 0 a17l), (34, .d (.v (.int .i64 a34))), (35, .d (.v (.int .i64 a35))), (40, .d (.v (.int .i64 a40))), (41, .d (.v (.int .i64 a41)))] [] [.cel [.d (.v (.int .i64 h0_0)), .d (.v (.int .i64 h0_1)), .d (.sl 3 2 h0_2), .d (.sl 3 1 h0_3), .d (.v (.int .i64 h0_4)), .d (.sl 3 2 h0_5)], .cel [.d (.v (.int .i64 h1_0)), .d (.v (.int .i64 h1_1)), .d (.v (.slice none 0 0)), .d (.v (.slice none 0 0)), .d (.v (.int .i64 h1_4)), .d (.v (.slice none 0 0))], .cel [.d (.v (.int .i64 h2_0)), .d (.v (.int .i64 h2_1)), .vh 3 0 2 H3.length, .vh 4 0 1 H4.length, .d (.v (.int .i64 h2_4)), .vh 5 0 2 H5.length], .vec 2 0 H3, .vec 1 0 H4, .vec 2 0 H5, .arr 1 H6]
theorem law_tame.j3_eq (X : Orc) (k : Nat) (a1 : Int) (h0_0 : Int) (h0_1 : Int) (h0_2 : Rows) (h0_3 : Rows) (h0_4 : Int) (h0_5 : Rows) (h1_0 : Int) (h1_1 : Int) (h1_4 : Int) (h2_0 : Int) (h2_1 : Int) (h2_4 : Int) (H3 : Rows) (H4 : Rows) (H5 : Rows) : law_tame.j3 X (k + 1) a1 h0_0 h0_1 h0_2 h0_3 h0_4 h0_5 h1_0 h1_1 h1_4 h2_0 h2_1 h2_4 H3 H4 H5 = (
  if (h2_0 == 0) = true then
    onCall (X F.law_tame_fn1 [.d (.v (.int .i64 h0_1))] []) fun z1 =>
    onInt .i64 z1 fun n2 =>
    onIx (if a1 < (h0_2.length : Int) then a1 else (h0_2.length : Int)) (h0_2.length + 1) fun i3 =>
    law_tame.l20 X k ((h0_2.take i3).drop 0) (((h0_2.take i3).drop 0).length : Int) 0 h0_0 h0_1 h0_2 h0_3 h0_4 h0_5 h1_0 h1_1 h1_4 h2_0 (if n2 > 0 then n2 else 0) h2_4 H3 H4 H5
  else
    if (h2_0 == 3) = true then
      onIx (if a1 < (h0_5.length : Int) then a1 else (h0_5.length : Int)) (h0_5.length + 1) fun i4 =>
      law_tame.l27 X k ((h0_5.take i4).drop 0) (((h0_5.take i4).drop 0).length : Int) 0 h0_0 h0_1 h0_2 h0_3 h0_4 h0_5 h1_0 h1_1 h1_4 h2_0 h2_1 ((if h0_4 > 0 then h0_4 else 0).tmod 9) H3 H4 H5
    else
      law_tame.l6 X k (if (if (IntKind.i64.wrap (a1 - 1)) < (h0_3.length : Int) then (IntKind.i64.wrap (a1 - 1)) else (h0_3.length : Int)) > 1 then (if (IntKind.i64.wrap (a1 - 1)) < (h0_3.length : Int) then (IntKind.i64.wrap (a1 - 1)) else (h0_3.length : Int)) else 1) (if (if (IntKind.i64.wrap (a1 - 1)) < (h0_3.length : Int) then (IntKind.i64.wrap (a1 - 1)) else (h0_3.length : Int)) > 1 then (if (IntKind.i64.wrap (a1 - 1)) < (h0_3.length : Int) then (IntKind.i64.wrap (a1 - 1)) else (h0_3.length : Int)) else 1) 0 h0_0 h0_1 h0_2 h0_3 h0_4 h0_5 h1_0 h1_1 h1_4 h2_0 h2_1 h2_4 H3 H4 H5) := by kernel_rfl
theorem law_tame.l20_eq (X : Orc) (k : Nat) (a106 : Rows) (a107 : Int) (a108 : Int) (h0_0 : Int) (h0_1 : Int) (h0_2 : Rows) (h0_3 : Rows) (h0_4 : Int) (h0_5 : Rows) (h1_0 : Int) (h1_1 : Int) (h1_4 : Int) (h2_0 : Int) (h2_1 : Int) (h2_4 : Int) (H3 : Rows) (H4 : Rows) (H5 : Rows) : law_tame.l20 X (k + 1) a106 a107 a108 h0_0 h0_1 h0_2 h0_3 h0_4 h0_5 h1_0 h1_1 h1_4 h2_0 h2_1 h2_4 H3 H4 H5 = (
  if decide (a108 < a107) = true then
    onIx a108 a106.length fun i1 =>
    onRow a106 i1 fun w2 =>
    onCell w2 0 fun x3 =>
    onInt .i64 x3 fun n4 =>
    onCell w2 1 fun x5 =>
    onInt .i64 x5 fun n6 =>
    onCall (X F.law_tame_fn1 [.d (.v (.int .i64 n4))] []) fun z7 =>
    onInt .i64 z7 fun n8 =>
    onCall (X F.law_tame_fn1 [.d (.v (.int .i64 n6))] []) fun z9 =>
    onInt .i64 z9 fun n10 =>
    onRoom (H3.length + 1) <|
    law_tame.l20 X k a106 a107 (IntKind.i64.wrap (a108 + 1)) h0_0 h0_1 h0_2 h0_3 h0_4 h0_5 h1_0 h1_1 h1_4 h2_0 h2_1 h2_4 (H3 ++ ([[.v (.int .i64 (if n8 > 0 then n8 else 0)), .v (.int .i64 (if n10 > 0 then n10 else 0))]])) H4 H5
  else
    some (.agg [.d (.v (.int .i64 h2_0)), .d (.v (.int .i64 h2_1)), .hs 0 0 2 0 H3.length, .hs 1 0 1 0 H4.length, .d (.v (.int .i64 h2_4)), .hs 2 0 2 0 H5.length], [.arr 2 H3, .arr 1 H4, .arr 2 H5])) := by kernel_rfl
theorem law_tame.l27_eq (X : Orc) (k : Nat) (a143 : Rows) (a144 : Int) (a145 : Int) (h0_0 : Int) (h0_1 : Int) (h0_2 : Rows) (h0_3 : Rows) (h0_4 : Int) (h0_5 : Rows) (h1_0 : Int) (h1_1 : Int) (h1_4 : Int) (h2_0 : Int) (h2_1 : Int) (h2_4 : Int) (H3 : Rows) (H4 : Rows) (H5 : Rows) : law_tame.l27 X (k + 1) a143 a144 a145 h0_0 h0_1 h0_2 h0_3 h0_4 h0_5 h1_0 h1_1 h1_4 h2_0 h2_1 h2_4 H3 H4 H5 = (
  if decide (a145 < a144) = true then
    onIx a145 a143.length fun i1 =>
    onRow a143 i1 fun w2 =>
    onCell w2 0 fun x3 =>
    onInt .i64 x3 fun n4 =>
    onCell w2 1 fun x5 =>
    onSl 1 x5 fun r6 =>
    onCall (X F.law_tame_fn1 [.d (.v (.int .i64 n4))] []) fun z7 =>
    onInt .i64 z7 fun n8 =>
    law_tame.l31 X k a143 a144 a145 h2_4 0 h0_0 h0_1 h0_2 h0_3 h0_4 h0_5 h1_0 h1_1 h1_4 h2_0 h2_1 h2_4 H3 H4 H5 n4 r6 (if n8 > 0 then n8 else 0) ([])
  else
    some (.agg [.d (.v (.int .i64 h2_0)), .d (.v (.int .i64 h2_1)), .hs 0 0 2 0 H3.length, .hs 1 0 1 0 H4.length, .d (.v (.int .i64 h2_4)), .hs 2 0 2 0 H5.length], [.arr 2 H3, .arr 1 H4, .arr 2 H5])) := by kernel_rfl
theorem law_tame.l31_eq (X : Orc) (k : Nat) (a143 : Rows) (a144 : Int) (a145 : Int) (a156 : Int) (a157 : Int) (h0_0 : Int) (h0_1 : Int) (h0_2 : Rows) (h0_3 : Rows) (h0_4 : Int) (h0_5 : Rows) (h1_0 : Int) (h1_1 : Int) (h1_4 : Int) (h2_0 : Int) (h2_1 : Int) (h2_4 : Int) (H3 : Rows) (H4 : Rows) (H5 : Rows) (h6_0 : Int) (h6_1 : Rows) (h7_0 : Int) (H8 : Rows) : law_tame.l31 X (k + 1) a143 a144 a145 a156 a157 h0_0 h0_1 h0_2 h0_3 h0_4 h0_5 h1_0 h1_1 h1_4 h2_0 h2_1 h2_4 H3 H4 H5 h6_0 h6_1 h7_0 H8 = (
  if decide (a157 < a156) = true then
    onIx (if 40 < (h6_1.length : Int) then 40 else (h6_1.length : Int)) (h6_1.length + 1) fun i1 =>
    law_tame.l34 X k a157 a143 a144 a145 a156 a157 ((h6_1.take i1).drop 0) (((h6_1.take i1).drop 0).length : Int) 0 h0_0 h0_1 h0_2 h0_3 h0_4 h0_5 h1_0 h1_1 h1_4 h2_0 h2_1 h2_4 H3 H4 H5 h6_0 h6_1 h7_0 H8
  else
    onRoom (H5.length + 1) <|
    law_tame.l27 X k a143 a144 (IntKind.i64.wrap (a145 + 1)) h0_0 h0_1 h0_2 h0_3 h0_4 h0_5 h1_0 h1_1 h1_4 h2_0 h2_1 h2_4 H3 H4 (H5 ++ ([[.v (.int .i64 h7_0), .sl 3 1 H8]]))) := by kernel_rfl
theorem law_tame.l34_eq (X : Orc) (k : Nat) (a12 : Int) (a143 : Rows) (a144 : Int) (a145 : Int) (a156 : Int) (a157 : Int) (a166 : Rows) (a167 : Int) (a168 : Int) (h0_0 : Int) (h0_1 : Int) (h0_2 : Rows) (h0_3 : Rows) (h0_4 : Int) (h0_5 : Rows) (h1_0 : Int) (h1_1 : Int) (h1_4 : Int) (h2_0 : Int) (h2_1 : Int) (h2_4 : Int) (H3 : Rows) (H4 : Rows) (H5 : Rows) (h6_0 : Int) (h6_1 : Rows) (h7_0 : Int) (H8 : Rows) : law_tame.l34 X (k + 1) a12 a143 a144 a145 a156 a157 a166 a167 a168 h0_0 h0_1 h0_2 h0_3 h0_4 h0_5 h1_0 h1_1 h1_4 h2_0 h2_1 h2_4 H3 H4 H5 h6_0 h6_1 h7_0 H8 = (
  if decide (a168 < a167) = true then
    onIx a168 a166.length fun i1 =>
    onRow a166 i1 fun w2 =>
    onCell w2 0 fun x3 =>
    onInt .i64 x3 fun n4 =>
    if (((if n4 > 0 then n4 else 0).tmod 9) == a12) = true then
      onRoom (H8.length + 1) <|
      law_tame.l31 X k a143 a144 a145 a156 (IntKind.i64.wrap (a157 + 1)) h0_0 h0_1 h0_2 h0_3 h0_4 h0_5 h1_0 h1_1 h1_4 h2_0 h2_1 h2_4 H3 H4 H5 h6_0 h6_1 h7_0 (H8 ++ ([[.v (.int .i64 a12)]]))
    else
      law_tame.l34 X k a12 a143 a144 a145 a156 a157 a166 a167 (IntKind.i64.wrap (a168 + 1)) h0_0 h0_1 h0_2 h0_3 h0_4 h0_5 h1_0 h1_1 h1_4 h2_0 h2_1 h2_4 H3 H4 H5 h6_0 h6_1 h7_0 H8
  else
    law_tame.l31 X k a143 a144 a145 a156 (IntKind.i64.wrap (a157 + 1)) h0_0 h0_1 h0_2 h0_3 h0_4 h0_5 h1_0 h1_1 h1_4 h2_0 h2_1 h2_4 H3 H4 H5 h6_0 h6_1 h7_0 H8) := by kernel_rfl
theorem law_tame.l6_eq (X : Orc) (k : Nat) (a15 : Int) (a34 : Int) (a35 : Int) (h0_0 : Int) (h0_1 : Int) (h0_2 : Rows) (h0_3 : Rows) (h0_4 : Int) (h0_5 : Rows) (h1_0 : Int) (h1_1 : Int) (h1_4 : Int) (h2_0 : Int) (h2_1 : Int) (h2_4 : Int) (H3 : Rows) (H4 : Rows) (H5 : Rows) : law_tame.l6 X (k + 1) a15 a34 a35 h0_0 h0_1 h0_2 h0_3 h0_4 h0_5 h1_0 h1_1 h1_4 h2_0 h2_1 h2_4 H3 H4 H5 = (
  if decide (a35 < a34) = true then
    if 0 ≤ a15 then
      onRoom a15.toNat <|
      law_tame.l10 X k a15 a35 a15.toNat a34 a35 a15 0 h0_0 h0_1 h0_2 h0_3 h0_4 h0_5 h1_0 h1_1 h1_4 h2_0 h2_1 h2_4 H3 H4 H5 (List.replicate a15.toNat [.v (.int .i64 0)])
    else
      none
  else
    some (.agg [.d (.v (.int .i64 h2_0)), .d (.v (.int .i64 h2_1)), .hs 0 0 2 0 H3.length, .hs 1 0 1 0 H4.length, .d (.v (.int .i64 h2_4)), .hs 2 0 2 0 H5.length], [.arr 2 H3, .arr 1 H4, .arr 2 H5])) := by kernel_rfl
theorem law_tame.l10_eq (X : Orc) (k : Nat) (a15 : Int) (a16 : Int) (a17l : Nat) (a34 : Int) (a35 : Int) (a40 : Int) (a41 : Int) (h0_0 : Int) (h0_1 : Int) (h0_2 : Rows) (h0_3 : Rows) (h0_4 : Int) (h0_5 : Rows) (h1_0 : Int) (h1_1 : Int) (h1_4 : Int) (h2_0 : Int) (h2_1 : Int) (h2_4 : Int) (H3 : Rows) (H4 : Rows) (H5 : Rows) (H6 : Rows) : law_tame.l10 X (k + 1) a15 a16 a17l a34 a35 a40 a41 h0_0 h0_1 h0_2 h0_3 h0_4 h0_5 h1_0 h1_1 h1_4 h2_0 h2_1 h2_4 H3 H4 H5 H6 = (
  if decide (a41 < a40) = true then
    if decide (a16 < (h0_3.length : Int)) = true then
      onIx a16 h0_3.length fun i1 =>
      onRow h0_3 i1 fun w2 =>
      onCell w2 0 fun x3 =>
      onSl 1 x3 fun r4 =>
      if decide (a41 < (r4.length : Int)) = true then
        if (h2_0 == 2) = true then
          if (!(a16 == a41)) = true then
            onIx a16 h0_3.length fun i5 =>
            onRow h0_3 i5 fun w6 =>
            onCell w6 0 fun x7 =>
            onSl 1 x7 fun r8 =>
            onIx a41 r8.length fun i9 =>
            onRow r8 i9 fun w10 =>
            onCell w10 0 fun x11 =>
            onInt .i64 x11 fun n12 =>
            onCall (X F.law_tame_fn1 [.d (.v (.int .i64 n12))] []) fun z13 =>
            onInt .i64 z13 fun n14 =>
            onIx a41 a17l fun i15 =>
            onRow H6 (0 + i15) fun w16 =>
            law_tame.l10 X k a15 a16 a17l a34 a35 a40 (IntKind.i64.wrap (a41 + 1)) h0_0 h0_1 h0_2 h0_3 h0_4 h0_5 h1_0 h1_1 h1_4 h2_0 h2_1 h2_4 H3 H4 H5 (H6.set (0 + i15) (splice w16 0 [.v (.int .i64 n14)]))
          else
            law_tame.l10 X k a15 a16 a17l a34 a35 a40 (IntKind.i64.wrap (a41 + 1)) h0_0 h0_1 h0_2 h0_3 h0_4 h0_5 h1_0 h1_1 h1_4 h2_0 h2_1 h2_4 H3 H4 H5 H6
        else
          onIx a16 h0_3.length fun i17 =>
          onRow h0_3 i17 fun w18 =>
          onCell w18 0 fun x19 =>
          onSl 1 x19 fun r20 =>
          onIx a41 r20.length fun i21 =>
          onRow r20 i21 fun w22 =>
          onCell w22 0 fun x23 =>
          onInt .i64 x23 fun n24 =>
          onCall (X F.law_tame_fn1 [.d (.v (.int .i64 n24))] []) fun z25 =>
          onInt .i64 z25 fun n26 =>
          onIx a41 a17l fun i27 =>
          onRow H6 (0 + i27) fun w28 =>
          law_tame.l10 X k a15 a16 a17l a34 a35 a40 (IntKind.i64.wrap (a41 + 1)) h0_0 h0_1 h0_2 h0_3 h0_4 h0_5 h1_0 h1_1 h1_4 h2_0 h2_1 h2_4 H3 H4 H5 (H6.set (0 + i27) (splice w28 0 [.v (.int .i64 n26)]))
      else
        law_tame.l10 X k a15 a16 a17l a34 a35 a40 (IntKind.i64.wrap (a41 + 1)) h0_0 h0_1 h0_2 h0_3 h0_4 h0_5 h1_0 h1_1 h1_4 h2_0 h2_1 h2_4 H3 H4 H5 H6
    else
      law_tame.l10 X k a15 a16 a17l a34 a35 a40 (IntKind.i64.wrap (a41 + 1)) h0_0 h0_1 h0_2 h0_3 h0_4 h0_5 h1_0 h1_1 h1_4 h2_0 h2_1 h2_4 H3 H4 H5 H6
  else
    onRoom (H4.length + 1) <|
    law_tame.l6 X k a15 a34 (IntKind.i64.wrap (a35 + 1)) h0_0 h0_1 h0_2 h0_3 h0_4 h0_5 h1_0 h1_1 h1_4 h2_0 h2_1 h2_4 H3 (H4 ++ ([[.sl 3 1 ((H6.drop 0).take a17l)]])) H5) := by kernel_rfl
theorem law_tame.eq (X : Orc) (k : Nat) (p0_0 : Int) (p0_1 : Int) (p0_2 : Rows) (p0_3 : Rows) (p0_4 : Int) (p0_5 : Rows) (p1 : Int) : runF P X law_tame.cf (k + 1) F.law_tame [.agg [.d (.v (.int .i64 p0_0)), .d (.v (.int .i64 p0_1)), .d (.sl 3 2 p0_2), .d (.sl 3 1 p0_3), .d (.v (.int .i64 p0_4)), .d (.sl 3 2 p0_5)], .d (.v (.int .i64 p1))] [] = (
  law_tame.j3 X k p1 p0_0 p0_1 p0_2 p0_3 p0_4 p0_5 0 0 0 ((IntKind.i64.wrap ((p0_0.tmod 4) + 4)).tmod 4) 0 0 ([]) ([]) ([])) := by kernel_rfl
def dyn_Cells.cf : Cf := { loops := [] }
theorem dyn_Cells.eq (X : Orc) (k : Nat) (p0_0 : Int) (p0_1 : Int) (p0_2 : Rows) (p0_3 : Rows) (p0_4 : Int) (p0_5 : Rows) : runF P X dyn_Cells.cf (k + 1) F.dyn_Cells [.agg [.d (.v (.int .i64 p0_0)), .d (.v (.int .i64 p0_1)), .d (.sl 3 2 p0_2), .d (.sl 3 1 p0_3), .d (.v (.int .i64 p0_4)), .d (.sl 3 2 p0_5)]] [] = (
  onCall (X F.inst_Inst_Check [.agg [.d (.v (.int .i64 p0_0)), .d (.v (.int .i64 p0_1)), .d (.sl 3 2 p0_2), .d (.sl 3 1 p0_3), .d (.v (.int .i64 p0_4)), .d (.sl 3 2 p0_5)]] []) fun z1 =>
  onInt .i64 z1 fun n2 =>
  if (n2 != 0) = true then
    some (.d (.tup [.v (.int .i64 0), .v (.int .i64 n2)]), [])
  else
    if (p0_0 == 0) = true then
      onCall (X F.dyn_room [.agg [.d (.v (.int .i64 p0_0)), .d (.v (.int .i64 p0_1)), .d (.sl 3 2 p0_2), .d (.sl 3 1 p0_3), .d (.v (.int .i64 p0_4)), .d (.sl 3 2 p0_5)]] []) fun z3 =>
      onInt .i64 z3 fun n4 =>
      onCall (X F.dyn_grow [.d (.v (.int .i64 (IntKind.i64.wrap ((p0_2.length : Int) + 1)))), .d (.v (.int .i64 (IntKind.i64.wrap (n4 + 1))))] []) fun z5 =>
      onInt .i64 z5 fun n6 =>
      if decide (n6 > 1048576) = true then
        some (.d (.tup [.v (.int .i64 0), .v (.int .i64 24)]), [])
      else
        some (.d (.tup [.v (.int .i64 n6), .v (.int .i64 0)]), [])
    else
      if (p0_0 == 3) = true then
        onCall (X F.dyn_twos [.d (.v (.int .i64 p0_4))] []) fun z7 =>
        onInt .i64 z7 fun n8 =>
        onCall (X F.dyn_grow [.d (.v (.int .i64 (IntKind.i64.wrap ((p0_5.length : Int) + 1)))), .d (.v (.int .i64 n8))] []) fun z9 =>
        onInt .i64 z9 fun n10 =>
        if decide (n10 > 1048576) = true then
          some (.d (.tup [.v (.int .i64 0), .v (.int .i64 24)]), [])
        else
          some (.d (.tup [.v (.int .i64 n10), .v (.int .i64 0)]), [])
      else
        onCall (X F.inst_Inst_N [.agg [.d (.v (.int .i64 p0_0)), .d (.v (.int .i64 p0_1)), .d (.sl 3 2 p0_2), .d (.sl 3 1 p0_3), .d (.v (.int .i64 p0_4)), .d (.sl 3 2 p0_5)]] []) fun z11 =>
        onInt .i64 z11 fun n12 =>
        onCall (X F.inst_Inst_N [.agg [.d (.v (.int .i64 p0_0)), .d (.v (.int .i64 p0_1)), .d (.sl 3 2 p0_2), .d (.sl 3 1 p0_3), .d (.v (.int .i64 p0_4)), .d (.sl 3 2 p0_5)]] []) fun z13 =>
        onInt .i64 z13 fun n14 =>
        onCall (X F.dyn_twos [.d (.v (.int .i64 n14))] []) fun z15 =>
        onInt .i64 z15 fun n16 =>
        onCall (X F.dyn_grow [.d (.v (.int .i64 n12)), .d (.v (.int .i64 n16))] []) fun z17 =>
        onInt .i64 z17 fun n18 =>
        if decide (n18 > 1048576) = true then
          some (.d (.tup [.v (.int .i64 0), .v (.int .i64 24)]), [])
        else
          some (.d (.tup [.v (.int .i64 n18), .v (.int .i64 0)]), [])) := by kernel_rfl
def dyn_knapsack.cf : Cf := { loops := [{ fid := 16, key := 6, live := [1, 5, 6, 7, 8, 9], vecs := [(8, 1)], cvecs := [], nb := 2, cs := [] }, { fid := 40, key := 1, live := [0, 2, 3], vecs := [], cvecs := [], nb := 2, cs := [[7, 8]] }], mode := fun g => bif Nat.beq g F.slices_Reverse_s_int_int then 1 else 0 }
noncomputable def dyn_knapsack.l6 (X : Orc) (k : Nat) (a5 : Rows) (a6 : Int) (a7 : Int) (a9 : Int) (h0_0 : Int) (h0_1 : Int) (h0_2 : Rows) (h0_3 : Rows) (h0_4 : Int) (h0_5 : Rows) (H1 : Rows) : Option Res := loopAt P X dyn_knapsack.cf k 16 Go.Proofs.Try.f16 6 [(1, .ptr 0 0), (5, .d (.sl 3 1 a5)), (6, .d (.v (.int .i64 a6))), (7, .d (.v (.int .i64 a7))), (8, .vh 1 0 1 H1.length), (9, .d (.v (.int .i64 a9)))] [] [.cel [.d (.v (.int .i64 h0_0)), .d (.v (.int .i64 h0_1)), .d (.sl 3 2 h0_2), .d (.sl 3 1 h0_3), .d (.v (.int .i64 h0_4)), .d (.sl 3 2 h0_5)], .vec 1 0 H1]
noncomputable def dyn_knapsack.l40_1 (X : Orc) (k : Nat) (a2 : Int) (a3 : Int) (o0_7 : Int) (h0_0 : Int) (h0_1 : Int) (h0_2 : Rows) (h0_3 : Rows) (h0_4 : Int) (h0_5 : Rows) (H1 : Rows) : Option Res := loopAt P X dyn_knapsack.cf k 40 Go.Proofs.Try.f40 1 [(0, .vh 1 0 1 H1.length), (2, .d (.v (.int .i64 a2))), (3, .d (.v (.int .i64 a3)))] [⟨16, Go.Proofs.Try.f16, [(7, .d (.v (.int .i64 o0_7))), (8, .vh 1 0 1 H1.length)], callTodo Go.Proofs.Try.f16 11 1⟩] [.cel [.d (.v (.int .i64 h0_0)), .d (.v (.int .i64 h0_1)), .d (.sl 3 2 h0_2), .d (.sl 3 1 h0_3), .d (.v (.int .i64 h0_4)), .d (.sl 3 2 h0_5)], .vec 1 0 H1]
theorem dyn_knapsack.l6_eq (X : Orc) (k : Nat) (a5 : Rows) (a6 : Int) (a7 : Int) (a9 : Int) (h0_0 : Int) (h0_1 : Int) (h0_2 : Rows) (h0_3 : Rows) (h0_4 : Int) (h0_5 : Rows) (H1 : Rows) : dyn_knapsack.l6 X (k + 1) a5 a6 a7 a9 h0_0 h0_1 h0_2 h0_3 h0_4 h0_5 H1 = (
  if decide (a9 ≥ 0) = true then
    onIx (IntKind.i64.wrap (a9 + 1)) a5.length fun i1 =>
    onRow a5 i1 fun w2 =>
    onCell w2 0 fun x3 =>
    onSl 1 x3 fun r4 =>
    onIx a6 r4.length fun i5 =>
    onRow r4 i5 fun w6 =>
    onCell w6 0 fun x7 =>
    onInt .i64 x7 fun n8 =>
    onIx a9 a5.length fun i9 =>
    onRow a5 i9 fun w10 =>
    onCell w10 0 fun x11 =>
    onSl 1 x11 fun r12 =>
    onIx a6 r12.length fun i13 =>
    onRow r12 i13 fun w14 =>
    onCell w14 0 fun x15 =>
    onInt .i64 x15 fun n16 =>
    if (n8 != n16) = true then
      onRoom (H1.length + 1) <|
      onIx a9 h0_2.length fun i17 =>
      onRow h0_2 i17 fun w18 =>
      onCell w18 1 fun x19 =>
      onInt .i64 x19 fun n20 =>
      dyn_knapsack.l6 X k a5 (IntKind.i64.wrap (a6 - n20)) a7 (IntKind.i64.wrap (a9 - 1)) h0_0 h0_1 h0_2 h0_3 h0_4 h0_5 (H1 ++ ([[.v (.int .i64 a9)]]))
    else
      dyn_knapsack.l6 X k a5 a6 a7 (IntKind.i64.wrap (a9 - 1)) h0_0 h0_1 h0_2 h0_3 h0_4 h0_5 H1
  else
    dyn_knapsack.l40_1 X k 0 (IntKind.i64.wrap ((H1.length : Int) - 1)) a7 h0_0 h0_1 h0_2 h0_3 h0_4 h0_5 H1) := by kernel_rfl
theorem dyn_knapsack.l40_1_eq (X : Orc) (k : Nat) (a2 : Int) (a3 : Int) (o0_7 : Int) (h0_0 : Int) (h0_1 : Int) (h0_2 : Rows) (h0_3 : Rows) (h0_4 : Int) (h0_5 : Rows) (H1 : Rows) : dyn_knapsack.l40_1 X (k + 1) a2 a3 o0_7 h0_0 h0_1 h0_2 h0_3 h0_4 h0_5 H1 = (
  if decide (a2 < a3) = true then
    onIx a3 H1.length fun i1 =>
    onRow H1 i1 fun w2 =>
    onCell w2 0 fun x3 =>
    onInt .i64 x3 fun n4 =>
    onIx a2 H1.length fun i5 =>
    onRow H1 i5 fun w6 =>
    onCell w6 0 fun x7 =>
    onInt .i64 x7 fun n8 =>
    onIx a2 H1.length fun i9 =>
    onRow H1 i9 fun w10 =>
    onIx a3 H1.length fun i11 =>
    onRow (H1.set i9 (splice w10 0 [.v (.int .i64 n4)])) i11 fun w12 =>
    dyn_knapsack.l40_1 X k (IntKind.i64.wrap (a2 + 1)) (IntKind.i64.wrap (a3 - 1)) o0_7 h0_0 h0_1 h0_2 h0_3 h0_4 h0_5 ((H1.set i9 (splice w10 0 [.v (.int .i64 n4)])).set i11 (splice w12 0 [.v (.int .i64 n8)]))
  else
    some (.d (.tup [.sl 3 1 H1, .v (.int .i64 o0_7), .v (.bool true)]), [])) := by kernel_rfl
theorem dyn_knapsack.eq (X : Orc) (k : Nat) (p0_0 : Int) (p0_1 : Int) (p0_2 : Rows) (p0_3 : Rows) (p0_4 : Int) (p0_5 : Rows) : runF P X dyn_knapsack.cf (k + 1) F.dyn_knapsack [.agg [.d (.v (.int .i64 p0_0)), .d (.v (.int .i64 p0_1)), .d (.sl 3 2 p0_2), .d (.sl 3 1 p0_3), .d (.v (.int .i64 p0_4)), .d (.sl 3 2 p0_5)]] [] = (
  onCall (X F.dyn_rows [.agg [.d (.v (.int .i64 p0_0)), .d (.v (.int .i64 p0_1)), .d (.sl 3 2 p0_2), .d (.sl 3 1 p0_3), .d (.v (.int .i64 p0_4)), .d (.sl 3 2 p0_5)]] []) fun z1 =>
  onSl 1 z1 fun r2 =>
  onIx 0 r2.length fun i3 =>
  onRow r2 i3 fun w4 =>
  onCell w4 0 fun x5 =>
  onSl 1 x5 fun r6 =>
  onIx (IntKind.i64.wrap ((r2.length : Int) - 1)) r2.length fun i7 =>
  onRow r2 i7 fun w8 =>
  onCell w8 0 fun x9 =>
  onSl 1 x9 fun r10 =>
  onIx (IntKind.i64.wrap ((r6.length : Int) - 1)) r10.length fun i11 =>
  onRow r10 i11 fun w12 =>
  onCell w12 0 fun x13 =>
  onInt .i64 x13 fun n14 =>
  dyn_knapsack.l6 X k r2 (IntKind.i64.wrap ((r6.length : Int) - 1)) (IntKind.i64.wrap (0 - n14)) (IntKind.i64.wrap ((p0_2.length : Int) - 1)) p0_0 p0_1 p0_2 p0_3 p0_4 p0_5 ([])) := by kernel_rfl
def dyn_assignment.cf : Cf := { loops := [{ fid := 17, key := 5, live := [1, 5, 6, 22, 23], vecs := [], cvecs := [], nb := 2, cs := [] }, { fid := 17, key := 9, live := [1, 5, 6, 7, 8, 22, 23, 29, 30], vecs := [], cvecs := [], nb := 2, cs := [] }], mode := fun g => bif Nat.beq g F.dyn_cell_offer then 1 else 0 }
noncomputable def dyn_assignment.l5 (X : Orc) (k : Nat) (a5 : Int) (a6l : Nat) (a22 : Int) (a23 : Int) (h0_0 : Int) (h0_1 : Int) (h0_2 : Rows) (h0_3 : Rows) (h0_4 : Int) (h0_5 : Rows) (H1 : Rows) : Option Res := loopAt P X dyn_assignment.cf k 17 Go.Proofs.Try.f17 5 [(1, .ptr 0 0), (5, .d (.v (.int .i64 a5))), (6, .hs 1 0 4 0 a6l), (22, .d (.v (.int .i64 a22))), (23, .d (.v (.int .i64 a23)))] [] [.cel [.d (.v (.int .i64 h0_0)), .d (.v (.int .i64 h0_1)), .d (.sl 3 2 h0_2), .d (.sl 3 1 h0_3), .d (.v (.int .i64 h0_4)), .d (.sl 3 2 h0_5)], .arr 4 H1]
noncomputable def dyn_assignment.l9 (X : Orc) (k : Nat) (a5 : Int) (a6l : Nat) (a7 : Int) (a8 : Int) (a22 : Int) (a23 : Int) (a29 : Int) (a30 : Int) (h0_0 : Int) (h0_1 : Int) (h0_2 : Rows) (h0_3 : Rows) (h0_4 : Int) (h0_5 : Rows) (H1 : Rows) : Option Res := loopAt P X dyn_assignment.cf k 17 Go.Proofs.Try.f17 9 [(1, .ptr 0 0), (5, .d (.v (.int .i64 a5))), (6, .hs 1 0 4 0 a6l), (7, .d (.v (.int .i64 a7))), (8, .d (.v (.int .i64 a8))), (22, .d (.v (.int .i64 a22))), (23, .d (.v (.int .i64 a23))), (29, .d (.v (.int .i64 a29))), (30, .d (.v (.int .i64 a30)))] [] [.cel [.d (.v (.int .i64 h0_0)), .d (.v (.int .i64 h0_1)), .d (.sl 3 2 h0_2), .d (.sl 3 1 h0_3), .d (.v (.int .i64 h0_4)), .d (.sl 3 2 h0_5)], .arr 4 H1]
theorem dyn_assignment.l5_eq (X : Orc) (k : Nat) (a5 : Int) (a6l : Nat) (a22 : Int) (a23 : Int) (h0_0 : Int) (h0_1 : Int) (h0_2 : Rows) (h0_3 : Rows) (h0_4 : Int) (h0_5 : Rows) (H1 : Rows) : dyn_assignment.l5 X (k + 1) a5 a6l a22 a23 h0_0 h0_1 h0_2 h0_3 h0_4 h0_5 H1 = (
  if decide (a23 < a22) = true then
    onCall (X F.math_bits_OnesCount [.d (.v (.int .u64 (IntKind.u64.wrap a23)))] []) fun z1 =>
    onInt .i64 z1 fun n2 =>
    dyn_assignment.l9 X k a5 a6l a23 n2 a22 a23 a5 0 h0_0 h0_1 h0_2 h0_3 h0_4 h0_5 H1
  else
    onCall (X F.dyn_trace [.d (.sl 3 4 ((H1.drop 0).take a6l)), .d (.v (.int .i64 (IntKind.i64.wrap ((a6l : Int) - 1))))] []) fun z3 =>
    onSl 1 z3 fun r4 =>
    onIx (IntKind.i64.wrap ((a6l : Int) - 1)) a6l fun i5 =>
    onRow H1 (0 + i5) fun w6 =>
    onCell w6 0 fun x7 =>
    onInt .i64 x7 fun n8 =>
    some (.d (.tup [.sl 3 1 r4, .v (.int .i64 n8), .v (.bool true)]), [])) := by kernel_rfl
theorem dyn_assignment.l9_eq (X : Orc) (k : Nat) (a5 : Int) (a6l : Nat) (a7 : Int) (a8 : Int) (a22 : Int) (a23 : Int) (a29 : Int) (a30 : Int) (h0_0 : Int) (h0_1 : Int) (h0_2 : Rows) (h0_3 : Rows) (h0_4 : Int) (h0_5 : Rows) (H1 : Rows) : dyn_assignment.l9 X (k + 1) a5 a6l a7 a8 a22 a23 a29 a30 h0_0 h0_1 h0_2 h0_3 h0_4 h0_5 H1 = (
  if decide (a30 < a29) = true then
    if a30 < 0 then
      none
    else
      if ((IntKind.i64.wrap ((BitVec.ofInt IntKind.i64.bits (a7.fdiv (2 ^ (min a30.toNat IntKind.i64.bits))) &&& BitVec.ofInt IntKind.i64.bits 1).toNat : Int)) == 0) = true then
        if a30 < 0 then
          none
        else
          onIx (IntKind.i64.wrap ((BitVec.ofInt IntKind.i64.bits a7 ||| BitVec.ofInt IntKind.i64.bits (IntKind.i64.wrap ((1 : Int) * 2 ^ (min a30.toNat IntKind.i64.bits)))).toNat : Int)) a6l fun i1 =>
          onIx a7 a6l fun i2 =>
          onRow H1 (0 + i2) fun w3 =>
          onCell w3 0 fun x4 =>
          onInt .i64 x4 fun n5 =>
          onIx a8 h0_3.length fun i6 =>
          onRow h0_3 i6 fun w7 =>
          onCell w7 0 fun x8 =>
          onSl 1 x8 fun r9 =>
          onIx a30 r9.length fun i10 =>
          onRow r9 i10 fun w11 =>
          onCell w11 0 fun x12 =>
          onInt .i64 x12 fun n13 =>
          onRow H1 (0 + i1) fun w14 =>
          onCell w14 1 fun x15 =>
          onBool x15 fun b16 =>
          if (!b16) = true then
            onRow H1 (0 + i1) fun w17 =>
            dyn_assignment.l9 X k a5 a6l a7 a8 a22 a23 a29 (IntKind.i64.wrap (a30 + 1)) h0_0 h0_1 h0_2 h0_3 h0_4 h0_5 (H1.set (0 + i1) (splice w17 0 [.v (.int .i64 (IntKind.i64.wrap (n5 + n13))), .v (.bool true), .v (.int .i64 a30), .v (.int .i64 a7)]))
          else
            onRow H1 (0 + i1) fun w18 =>
            onCell w18 0 fun x19 =>
            onInt .i64 x19 fun n20 =>
            if decide ((IntKind.i64.wrap (n5 + n13)) < n20) = true then
              onRow H1 (0 + i1) fun w21 =>
              dyn_assignment.l9 X k a5 a6l a7 a8 a22 a23 a29 (IntKind.i64.wrap (a30 + 1)) h0_0 h0_1 h0_2 h0_3 h0_4 h0_5 (H1.set (0 + i1) (splice w21 0 [.v (.int .i64 (IntKind.i64.wrap (n5 + n13))), .v (.bool true), .v (.int .i64 a30), .v (.int .i64 a7)]))
            else
              dyn_assignment.l9 X k a5 a6l a7 a8 a22 a23 a29 (IntKind.i64.wrap (a30 + 1)) h0_0 h0_1 h0_2 h0_3 h0_4 h0_5 H1
      else
        dyn_assignment.l9 X k a5 a6l a7 a8 a22 a23 a29 (IntKind.i64.wrap (a30 + 1)) h0_0 h0_1 h0_2 h0_3 h0_4 h0_5 H1
  else
    dyn_assignment.l5 X k a5 a6l a22 (IntKind.i64.wrap (a23 + 1)) h0_0 h0_1 h0_2 h0_3 h0_4 h0_5 H1) := by kernel_rfl
theorem dyn_assignment.eq (X : Orc) (k : Nat) (p0_0 : Int) (p0_1 : Int) (p0_2 : Rows) (p0_3 : Rows) (p0_4 : Int) (p0_5 : Rows) : runF P X dyn_assignment.cf (k + 1) F.dyn_assignment [.agg [.d (.v (.int .i64 p0_0)), .d (.v (.int .i64 p0_1)), .d (.sl 3 2 p0_2), .d (.sl 3 1 p0_3), .d (.v (.int .i64 p0_4)), .d (.sl 3 2 p0_5)]] [] = (
  if (p0_3.length : Int) < 0 then
    none
  else
    if 0 ≤ (IntKind.i64.wrap ((1 : Int) * 2 ^ (min (p0_3.length : Int).toNat IntKind.i64.bits))) then
      onRoom ((IntKind.i64.wrap ((1 : Int) * 2 ^ (min (p0_3.length : Int).toNat IntKind.i64.bits))).toNat) <|
      onIx 0 ((IntKind.i64.wrap ((1 : Int) * 2 ^ (min (p0_3.length : Int).toNat IntKind.i64.bits))).toNat) fun i1 =>
      onRow (List.replicate ((IntKind.i64.wrap ((1 : Int) * 2 ^ (min (p0_3.length : Int).toNat IntKind.i64.bits))).toNat) [.v (.int .i64 0), .v (.bool false), .v (.int .i64 0), .v (.int .i64 0)]) (0 + i1) fun w2 =>
      dyn_assignment.l5 X k (p0_3.length : Int) ((IntKind.i64.wrap ((1 : Int) * 2 ^ (min (p0_3.length : Int).toNat IntKind.i64.bits))).toNat) ((IntKind.i64.wrap ((1 : Int) * 2 ^ (min (p0_3.length : Int).toNat IntKind.i64.bits))).toNat : Int) 0 p0_0 p0_1 p0_2 p0_3 p0_4 p0_5 ((List.replicate ((IntKind.i64.wrap ((1 : Int) * 2 ^ (min (p0_3.length : Int).toNat IntKind.i64.bits))).toNat) [.v (.int .i64 0), .v (.bool false), .v (.int .i64 0), .v (.int .i64 0)]).set (0 + i1) (splice w2 0 [.v (.int .i64 0), .v (.bool true), .v (.int .i64 (-1)), .v (.int .i64 0)]))
    else
      none) := by kernel_rfl
def dyn_tour.cf : Cf := { loops := [{ fid := 18, key := 6, live := [1, 5, 6, 28, 29], vecs := [], cvecs := [], nb := 2, cs := [] }, { fid := 18, key := 11, live := [1, 5, 6, 52, 53], vecs := [], cvecs := [], nb := 2, cs := [] }, { fid := 18, key := 14, live := [1, 5, 6, 8, 52, 53, 56, 57], vecs := [], cvecs := [], nb := 2, cs := [] }, { fid := 18, key := 18, live := [1, 5, 6, 8, 9, 10, 52, 53, 56, 57, 68, 69], vecs := [], cvecs := [], nb := 3, cs := [] }, { fid := 18, key := 27, live := [1, 5, 6, 12, 115, 116], vecs := [], cvecs := [], nb := 3, cs := [] }, { fid := 18, key := 34, live := [6, 12, 15, 16], vecs := [], cvecs := [], nb := 4, cs := [] }, { fid := 40, key := 1, live := [0, 2, 3], vecs := [], cvecs := [], nb := 4, cs := [[12, 15]] }], mode := fun g => bif Nat.beq g F.slices_Reverse_s_int_int then 1 else bif Nat.beq g F.dyn_cell_offer then 1 else 0, own := [143] }
noncomputable def dyn_tour.l6 (X : Orc) (k : Nat) (a5 : Int) (a6l : Nat) (a28 : Int) (a29 : Int) (h0_0 : Int) (h0_1 : Int) (h0_2 : Rows) (h0_3 : Rows) (h0_4 : Int) (h0_5 : Rows) (H1 : Rows) : Option Res := loopAt P X dyn_tour.cf k 18 Go.Proofs.Try.f18 6 [(1, .ptr 0 0), (5, .d (.v (.int .i64 a5))), (6, .hs 1 0 4 0 a6l), (28, .d (.v (.int .i64 a28))), (29, .d (.v (.int .i64 a29)))] [] [.cel [.d (.v (.int .i64 h0_0)), .d (.v (.int .i64 h0_1)), .d (.sl 3 2 h0_2), .d (.sl 3 1 h0_3), .d (.v (.int .i64 h0_4)), .d (.sl 3 2 h0_5)], .arr 4 H1]
noncomputable def dyn_tour.l11 (X : Orc) (k : Nat) (a5 : Int) (a6l : Nat) (a52 : Int) (a53 : Int) (h0_0 : Int) (h0_1 : Int) (h0_2 : Rows) (h0_3 : Rows) (h0_4 : Int) (h0_5 : Rows) (H1 : Rows) : Option Res := loopAt P X dyn_tour.cf k 18 Go.Proofs.Try.f18 11 [(1, .ptr 0 0), (5, .d (.v (.int .i64 a5))), (6, .hs 1 0 4 0 a6l), (52, .d (.v (.int .i64 a52))), (53, .d (.v (.int .i64 a53)))] [] [.cel [.d (.v (.int .i64 h0_0)), .d (.v (.int .i64 h0_1)), .d (.sl 3 2 h0_2), .d (.sl 3 1 h0_3), .d (.v (.int .i64 h0_4)), .d (.sl 3 2 h0_5)], .arr 4 H1]
noncomputable def dyn_tour.l14 (X : Orc) (k : Nat) (a5 : Int) (a6l : Nat) (a8 : Int) (a52 : Int) (a53 : Int) (a56 : Int) (a57 : Int) (h0_0 : Int) (h0_1 : Int) (h0_2 : Rows) (h0_3 : Rows) (h0_4 : Int) (h0_5 : Rows) (H1 : Rows) : Option Res := loopAt P X dyn_tour.cf k 18 Go.Proofs.Try.f18 14 [(1, .ptr 0 0), (5, .d (.v (.int .i64 a5))), (6, .hs 1 0 4 0 a6l), (8, .d (.v (.int .i64 a8))), (52, .d (.v (.int .i64 a52))), (53, .d (.v (.int .i64 a53))), (56, .d (.v (.int .i64 a56))), (57, .d (.v (.int .i64 a57)))] [] [.cel [.d (.v (.int .i64 h0_0)), .d (.v (.int .i64 h0_1)), .d (.sl 3 2 h0_2), .d (.sl 3 1 h0_3), .d (.v (.int .i64 h0_4)), .d (.sl 3 2 h0_5)], .arr 4 H1]
noncomputable def dyn_tour.l18 (X : Orc) (k : Nat) (a5 : Int) (a6l : Nat) (a8 : Int) (a9 : Int) (a52 : Int) (a53 : Int) (a56 : Int) (a57 : Int) (a68 : Int) (a69 : Int) (h0_0 : Int) (h0_1 : Int) (h0_2 : Rows) (h0_3 : Rows) (h0_4 : Int) (h0_5 : Rows) (H1 : Rows) (h2_0 : Int) (h2_1 : Bool) (h2_2 : Int) (h2_3 : Int) : Option Res := loopAt P X dyn_tour.cf k 18 Go.Proofs.Try.f18 18 [(1, .ptr 0 0), (5, .d (.v (.int .i64 a5))), (6, .hs 1 0 4 0 a6l), (8, .d (.v (.int .i64 a8))), (9, .d (.v (.int .i64 a9))), (10, .ptr 2 0), (52, .d (.v (.int .i64 a52))), (53, .d (.v (.int .i64 a53))), (56, .d (.v (.int .i64 a56))), (57, .d (.v (.int .i64 a57))), (68, .d (.v (.int .i64 a68))), (69, .d (.v (.int .i64 a69)))] [] [.cel [.d (.v (.int .i64 h0_0)), .d (.v (.int .i64 h0_1)), .d (.sl 3 2 h0_2), .d (.sl 3 1 h0_3), .d (.v (.int .i64 h0_4)), .d (.sl 3 2 h0_5)], .arr 4 H1, .cel [.d (.v (.int .i64 h2_0)), .d (.v (.bool h2_1)), .d (.v (.int .i64 h2_2)), .d (.v (.int .i64 h2_3))]]
noncomputable def dyn_tour.l27 (X : Orc) (k : Nat) (a5 : Int) (a6l : Nat) (a115 : Int) (a116 : Int) (h0_0 : Int) (h0_1 : Int) (h0_2 : Rows) (h0_3 : Rows) (h0_4 : Int) (h0_5 : Rows) (H1 : Rows) (h2_0 : Int) (h2_1 : Bool) (h2_2 : Int) (h2_3 : Int) : Option Res := loopAt P X dyn_tour.cf k 18 Go.Proofs.Try.f18 27 [(1, .ptr 0 0), (5, .d (.v (.int .i64 a5))), (6, .hs 1 0 4 0 a6l), (12, .ptr 2 0), (115, .d (.v (.int .i64 a115))), (116, .d (.v (.int .i64 a116)))] [] [.cel [.d (.v (.int .i64 h0_0)), .d (.v (.int .i64 h0_1)), .d (.sl 3 2 h0_2), .d (.sl 3 1 h0_3), .d (.v (.int .i64 h0_4)), .d (.sl 3 2 h0_5)], .arr 4 H1, .cel [.d (.v (.int .i64 h2_0)), .d (.v (.bool h2_1)), .d (.v (.int .i64 h2_2)), .d (.v (.int .i64 h2_3))]]
noncomputable def dyn_tour.l34 (X : Orc) (k : Nat) (a6l : Nat) (a16 : Int) (h0_0 : Int) (h0_1 : Int) (h0_2 : Rows) (h0_3 : Rows) (h0_4 : Int) (h0_5 : Rows) (H1 : Rows) (h2_0 : Int) (h2_1 : Bool) (h2_2 : Int) (h2_3 : Int) (H3 : Rows) : Option Res := loopAt P X dyn_tour.cf k 18 Go.Proofs.Try.f18 34 [(6, .hs 1 0 4 0 a6l), (12, .ptr 2 0), (15, .vh 3 0 1 H3.length), (16, .d (.v (.int .i64 a16)))] [] [.cel [.d (.v (.int .i64 h0_0)), .d (.v (.int .i64 h0_1)), .d (.sl 3 2 h0_2), .d (.sl 3 1 h0_3), .d (.v (.int .i64 h0_4)), .d (.sl 3 2 h0_5)], .arr 4 H1, .cel [.d (.v (.int .i64 h2_0)), .d (.v (.bool h2_1)), .d (.v (.int .i64 h2_2)), .d (.v (.int .i64 h2_3))], .vec 1 0 H3]
noncomputable def dyn_tour.l40_1 (X : Orc) (k : Nat) (a2 : Int) (a3 : Int) (h0_0 : Int) (h0_1 : Int) (h0_2 : Rows) (h0_3 : Rows) (h0_4 : Int) (h0_5 : Rows) (H1 : Rows) (h2_0 : Int) (h2_1 : Bool) (h2_2 : Int) (h2_3 : Int) (H3 : Rows) : Option Res := loopAt P X dyn_tour.cf k 40 Go.Proofs.Try.f40 1 [(0, .vh 3 0 1 H3.length), (2, .d (.v (.int .i64 a2))), (3, .d (.v (.int .i64 a3)))] [⟨18, Go.Proofs.Try.f18, [(12, .ptr 2 0), (15, .vh 3 0 1 H3.length)], callTodo Go.Proofs.Try.f18 37 1⟩] [.cel [.d (.v (.int .i64 h0_0)), .d (.v (.int .i64 h0_1)), .d (.sl 3 2 h0_2), .d (.sl 3 1 h0_3), .d (.v (.int .i64 h0_4)), .d (.sl 3 2 h0_5)], .arr 4 H1, .cel [.d (.v (.int .i64 h2_0)), .d (.v (.bool h2_1)), .d (.v (.int .i64 h2_2)), .d (.v (.int .i64 h2_3))], .vec 1 0 H3]
theorem dyn_tour.l6_eq (X : Orc) (k : Nat) (a5 : Int) (a6l : Nat) (a28 : Int) (a29 : Int) (h0_0 : Int) (h0_1 : Int) (h0_2 : Rows) (h0_3 : Rows) (h0_4 : Int) (h0_5 : Rows) (H1 : Rows) : dyn_tour.l6 X (k + 1) a5 a6l a28 a29 h0_0 h0_1 h0_2 h0_3 h0_4 h0_5 H1 = (
  if decide (a29 < a28) = true then
    if a29 < 0 then
      none
    else
      onIx 0 h0_3.length fun i1 =>
      onRow h0_3 i1 fun w2 =>
      onCell w2 0 fun x3 =>
      onSl 1 x3 fun r4 =>
      onIx (IntKind.i64.wrap (a29 + 1)) r4.length fun i5 =>
      onRow r4 i5 fun w6 =>
      onCell w6 0 fun x7 =>
      onInt .i64 x7 fun n8 =>
      onIx (IntKind.i64.wrap ((IntKind.i64.wrap (a5 * 2 ^ (min a29.toNat IntKind.i64.bits))) + a29)) a6l fun i9 =>
      onRow H1 (0 + i9) fun w10 =>
      dyn_tour.l6 X k a5 a6l a28 (IntKind.i64.wrap (a29 + 1)) h0_0 h0_1 h0_2 h0_3 h0_4 h0_5 (H1.set (0 + i9) (splice w10 0 [.v (.int .i64 n8), .v (.bool true), .v (.int .i64 (IntKind.i64.wrap (a29 + 1))), .v (.int .i64 (-1))]))
  else
    if a5 < 0 then
      none
    else
      dyn_tour.l11 X k a5 a6l (IntKind.i64.wrap ((1 : Int) * 2 ^ (min a5.toNat IntKind.i64.bits))) 0 h0_0 h0_1 h0_2 h0_3 h0_4 h0_5 H1) := by kernel_rfl
theorem dyn_tour.l11_eq (X : Orc) (k : Nat) (a5 : Int) (a6l : Nat) (a52 : Int) (a53 : Int) (h0_0 : Int) (h0_1 : Int) (h0_2 : Rows) (h0_3 : Rows) (h0_4 : Int) (h0_5 : Rows) (H1 : Rows) : dyn_tour.l11 X (k + 1) a5 a6l a52 a53 h0_0 h0_1 h0_2 h0_3 h0_4 h0_5 H1 = (
  if decide (a53 < a52) = true then
    dyn_tour.l14 X k a5 a6l a53 a52 a53 a5 0 h0_0 h0_1 h0_2 h0_3 h0_4 h0_5 H1
  else
    dyn_tour.l27 X k a5 a6l a5 0 h0_0 h0_1 h0_2 h0_3 h0_4 h0_5 H1 0 false 0 0) := by kernel_rfl
theorem dyn_tour.l14_eq (X : Orc) (k : Nat) (a5 : Int) (a6l : Nat) (a8 : Int) (a52 : Int) (a53 : Int) (a56 : Int) (a57 : Int) (h0_0 : Int) (h0_1 : Int) (h0_2 : Rows) (h0_3 : Rows) (h0_4 : Int) (h0_5 : Rows) (H1 : Rows) : dyn_tour.l14 X (k + 1) a5 a6l a8 a52 a53 a56 a57 h0_0 h0_1 h0_2 h0_3 h0_4 h0_5 H1 = (
  if decide (a57 < a56) = true then
    onIx (IntKind.i64.wrap ((IntKind.i64.wrap (a5 * a8)) + a57)) a6l fun i1 =>
    onRow H1 (0 + i1) fun w2 =>
    onCell w2 0 fun x3 =>
    onInt .i64 x3 fun n4 =>
    onCell w2 1 fun x5 =>
    onBool x5 fun b6 =>
    onCell w2 2 fun x7 =>
    onInt .i64 x7 fun n8 =>
    onCell w2 3 fun x9 =>
    onInt .i64 x9 fun n10 =>
    dyn_tour.l18 X k a5 a6l a8 a57 a52 a53 a56 a57 a5 0 h0_0 h0_1 h0_2 h0_3 h0_4 h0_5 H1 n4 b6 n8 n10
  else
    dyn_tour.l11 X k a5 a6l a52 (IntKind.i64.wrap (a53 + 1)) h0_0 h0_1 h0_2 h0_3 h0_4 h0_5 H1) := by kernel_rfl
theorem dyn_tour.l18_eq (X : Orc) (k : Nat) (a5 : Int) (a6l : Nat) (a8 : Int) (a9 : Int) (a52 : Int) (a53 : Int) (a56 : Int) (a57 : Int) (a68 : Int) (a69 : Int) (h0_0 : Int) (h0_1 : Int) (h0_2 : Rows) (h0_3 : Rows) (h0_4 : Int) (h0_5 : Rows) (H1 : Rows) (h2_0 : Int) (h2_1 : Bool) (h2_2 : Int) (h2_3 : Int) : dyn_tour.l18 X (k + 1) a5 a6l a8 a9 a52 a53 a56 a57 a68 a69 h0_0 h0_1 h0_2 h0_3 h0_4 h0_5 H1 h2_0 h2_1 h2_2 h2_3 = (
  if decide (a69 < a68) = true then
    if h2_1 = true then
      if a69 < 0 then
        none
      else
        if ((IntKind.i64.wrap ((BitVec.ofInt IntKind.i64.bits (a8.fdiv (2 ^ (min a69.toNat IntKind.i64.bits))) &&& BitVec.ofInt IntKind.i64.bits 1).toNat : Int)) == 0) = true then
          if a69 < 0 then
            none
          else
            onIx (IntKind.i64.wrap ((IntKind.i64.wrap (a5 * (IntKind.i64.wrap ((BitVec.ofInt IntKind.i64.bits a8 ||| BitVec.ofInt IntKind.i64.bits (IntKind.i64.wrap ((1 : Int) * 2 ^ (min a69.toNat IntKind.i64.bits)))).toNat : Int)))) + a69)) a6l fun i1 =>
            onIx (IntKind.i64.wrap (a9 + 1)) h0_3.length fun i2 =>
            onRow h0_3 i2 fun w3 =>
            onCell w3 0 fun x4 =>
            onSl 1 x4 fun r5 =>
            onIx (IntKind.i64.wrap (a69 + 1)) r5.length fun i6 =>
            onRow r5 i6 fun w7 =>
            onCell w7 0 fun x8 =>
            onInt .i64 x8 fun n9 =>
            onRow H1 (0 + i1) fun w10 =>
            onCell w10 1 fun x11 =>
            onBool x11 fun b12 =>
            if (!b12) = true then
              onRow H1 (0 + i1) fun w13 =>
              dyn_tour.l18 X k a5 a6l a8 a9 a52 a53 a56 a57 a68 (IntKind.i64.wrap (a69 + 1)) h0_0 h0_1 h0_2 h0_3 h0_4 h0_5 (H1.set (0 + i1) (splice w13 0 [.v (.int .i64 (IntKind.i64.wrap (h2_0 + n9))), .v (.bool true), .v (.int .i64 (IntKind.i64.wrap (a69 + 1))), .v (.int .i64 (IntKind.i64.wrap ((IntKind.i64.wrap (a5 * a8)) + a9)))])) h2_0 h2_1 h2_2 h2_3
            else
              onRow H1 (0 + i1) fun w14 =>
              onCell w14 0 fun x15 =>
              onInt .i64 x15 fun n16 =>
              if decide ((IntKind.i64.wrap (h2_0 + n9)) < n16) = true then
                onRow H1 (0 + i1) fun w17 =>
                dyn_tour.l18 X k a5 a6l a8 a9 a52 a53 a56 a57 a68 (IntKind.i64.wrap (a69 + 1)) h0_0 h0_1 h0_2 h0_3 h0_4 h0_5 (H1.set (0 + i1) (splice w17 0 [.v (.int .i64 (IntKind.i64.wrap (h2_0 + n9))), .v (.bool true), .v (.int .i64 (IntKind.i64.wrap (a69 + 1))), .v (.int .i64 (IntKind.i64.wrap ((IntKind.i64.wrap (a5 * a8)) + a9)))])) h2_0 h2_1 h2_2 h2_3
              else
                dyn_tour.l18 X k a5 a6l a8 a9 a52 a53 a56 a57 a68 (IntKind.i64.wrap (a69 + 1)) h0_0 h0_1 h0_2 h0_3 h0_4 h0_5 H1 h2_0 h2_1 h2_2 h2_3
        else
          dyn_tour.l18 X k a5 a6l a8 a9 a52 a53 a56 a57 a68 (IntKind.i64.wrap (a69 + 1)) h0_0 h0_1 h0_2 h0_3 h0_4 h0_5 H1 h2_0 h2_1 h2_2 h2_3
    else
      dyn_tour.l18 X k a5 a6l a8 a9 a52 a53 a56 a57 a68 (IntKind.i64.wrap (a69 + 1)) h0_0 h0_1 h0_2 h0_3 h0_4 h0_5 H1 h2_0 h2_1 h2_2 h2_3
  else
    dyn_tour.l14 X k a5 a6l a8 a52 a53 a56 (IntKind.i64.wrap (a57 + 1)) h0_0 h0_1 h0_2 h0_3 h0_4 h0_5 H1) := by kernel_rfl
theorem dyn_tour.l27_eq (X : Orc) (k : Nat) (a5 : Int) (a6l : Nat) (a115 : Int) (a116 : Int) (h0_0 : Int) (h0_1 : Int) (h0_2 : Rows) (h0_3 : Rows) (h0_4 : Int) (h0_5 : Rows) (H1 : Rows) (h2_0 : Int) (h2_1 : Bool) (h2_2 : Int) (h2_3 : Int) : dyn_tour.l27 X (k + 1) a5 a6l a115 a116 h0_0 h0_1 h0_2 h0_3 h0_4 h0_5 H1 h2_0 h2_1 h2_2 h2_3 = (
  if decide (a116 < a115) = true then
    if a5 < 0 then
      none
    else
      onIx (IntKind.i64.wrap ((IntKind.i64.wrap (a5 * (IntKind.i64.wrap ((IntKind.i64.wrap ((1 : Int) * 2 ^ (min a5.toNat IntKind.i64.bits))) - 1)))) + a116)) a6l fun i1 =>
      onRow H1 (0 + i1) fun w2 =>
      onCell w2 0 fun x3 =>
      onInt .i64 x3 fun n4 =>
      onIx (IntKind.i64.wrap (a116 + 1)) h0_3.length fun i5 =>
      onRow h0_3 i5 fun w6 =>
      onCell w6 0 fun x7 =>
      onSl 1 x7 fun r8 =>
      onIx 0 r8.length fun i9 =>
      onRow r8 i9 fun w10 =>
      onCell w10 0 fun x11 =>
      onInt .i64 x11 fun n12 =>
      if (!h2_1) = true then
        dyn_tour.l27 X k a5 a6l a115 (IntKind.i64.wrap (a116 + 1)) h0_0 h0_1 h0_2 h0_3 h0_4 h0_5 H1 (IntKind.i64.wrap (n4 + n12)) true 0 (IntKind.i64.wrap ((IntKind.i64.wrap (a5 * (IntKind.i64.wrap ((IntKind.i64.wrap ((1 : Int) * 2 ^ (min a5.toNat IntKind.i64.bits))) - 1)))) + a116))
      else
        if decide ((IntKind.i64.wrap (n4 + n12)) < h2_0) = true then
          dyn_tour.l27 X k a5 a6l a115 (IntKind.i64.wrap (a116 + 1)) h0_0 h0_1 h0_2 h0_3 h0_4 h0_5 H1 (IntKind.i64.wrap (n4 + n12)) true 0 (IntKind.i64.wrap ((IntKind.i64.wrap (a5 * (IntKind.i64.wrap ((IntKind.i64.wrap ((1 : Int) * 2 ^ (min a5.toNat IntKind.i64.bits))) - 1)))) + a116))
        else
          dyn_tour.l27 X k a5 a6l a115 (IntKind.i64.wrap (a116 + 1)) h0_0 h0_1 h0_2 h0_3 h0_4 h0_5 H1 h2_0 h2_1 h2_2 h2_3
  else
    dyn_tour.l34 X k a6l h2_3 h0_0 h0_1 h0_2 h0_3 h0_4 h0_5 H1 h2_0 h2_1 h2_2 h2_3 ([])) := by kernel_rfl
theorem dyn_tour.l34_eq (X : Orc) (k : Nat) (a6l : Nat) (a16 : Int) (h0_0 : Int) (h0_1 : Int) (h0_2 : Rows) (h0_3 : Rows) (h0_4 : Int) (h0_5 : Rows) (H1 : Rows) (h2_0 : Int) (h2_1 : Bool) (h2_2 : Int) (h2_3 : Int) (H3 : Rows) : dyn_tour.l34 X (k + 1) a6l a16 h0_0 h0_1 h0_2 h0_3 h0_4 h0_5 H1 h2_0 h2_1 h2_2 h2_3 H3 = (
  if decide (a16 ≥ 0) = true then
    onIx a16 a6l fun i1 =>
    onRow H1 (0 + i1) fun w2 =>
    onCell w2 2 fun x3 =>
    onInt .i64 x3 fun n4 =>
    onRoom (H3.length + 1) <|
    onIx a16 a6l fun i5 =>
    onRow H1 (0 + i5) fun w6 =>
    onCell w6 3 fun x7 =>
    onInt .i64 x7 fun n8 =>
    dyn_tour.l34 X k a6l n8 h0_0 h0_1 h0_2 h0_3 h0_4 h0_5 H1 h2_0 h2_1 h2_2 h2_3 (H3 ++ ([[.v (.int .i64 n4)]]))
  else
    dyn_tour.l40_1 X k 0 (IntKind.i64.wrap ((H3.length : Int) - 1)) h0_0 h0_1 h0_2 h0_3 h0_4 h0_5 H1 h2_0 h2_1 h2_2 h2_3 H3) := by kernel_rfl
theorem dyn_tour.l40_1_eq (X : Orc) (k : Nat) (a2 : Int) (a3 : Int) (h0_0 : Int) (h0_1 : Int) (h0_2 : Rows) (h0_3 : Rows) (h0_4 : Int) (h0_5 : Rows) (H1 : Rows) (h2_0 : Int) (h2_1 : Bool) (h2_2 : Int) (h2_3 : Int) (H3 : Rows) : dyn_tour.l40_1 X (k + 1) a2 a3 h0_0 h0_1 h0_2 h0_3 h0_4 h0_5 H1 h2_0 h2_1 h2_2 h2_3 H3 = (
  if decide (a2 < a3) = true then
    onIx a3 H3.length fun i1 =>
    onRow H3 i1 fun w2 =>
    onCell w2 0 fun x3 =>
    onInt .i64 x3 fun n4 =>
    onIx a2 H3.length fun i5 =>
    onRow H3 i5 fun w6 =>
    onCell w6 0 fun x7 =>
    onInt .i64 x7 fun n8 =>
    onIx a2 H3.length fun i9 =>
    onRow H3 i9 fun w10 =>
    onIx a3 H3.length fun i11 =>
    onRow (H3.set i9 (splice w10 0 [.v (.int .i64 n4)])) i11 fun w12 =>
    dyn_tour.l40_1 X k (IntKind.i64.wrap (a2 + 1)) (IntKind.i64.wrap (a3 - 1)) h0_0 h0_1 h0_2 h0_3 h0_4 h0_5 H1 h2_0 h2_1 h2_2 h2_3 ((H3.set i9 (splice w10 0 [.v (.int .i64 n4)])).set i11 (splice w12 0 [.v (.int .i64 n8)]))
  else
    onRoom (1 + H3.length) <|
    some (.d (.tup [.sl 3 1 (([[.v (.int .i64 0)]]) ++ H3), .v (.int .i64 h2_0), .v (.bool true)]), [])) := by kernel_rfl
theorem dyn_tour.eq (X : Orc) (k : Nat) (p0_0 : Int) (p0_1 : Int) (p0_2 : Rows) (p0_3 : Rows) (p0_4 : Int) (p0_5 : Rows) : runF P X dyn_tour.cf (k + 1) F.dyn_tour [.agg [.d (.v (.int .i64 p0_0)), .d (.v (.int .i64 p0_1)), .d (.sl 3 2 p0_2), .d (.sl 3 1 p0_3), .d (.v (.int .i64 p0_4)), .d (.sl 3 2 p0_5)]] [] = (
  if ((IntKind.i64.wrap ((p0_3.length : Int) - 1)) == 0) = true then
    some (.d (.tup [.sl 0 1 ([[.v (.int .i64 0)]]), .v (.int .i64 0), .v (.bool true)]), [])
  else
    if (IntKind.i64.wrap ((p0_3.length : Int) - 1)) < 0 then
      none
    else
      if 0 ≤ (IntKind.i64.wrap ((IntKind.i64.wrap ((p0_3.length : Int) - 1)) * 2 ^ (min (IntKind.i64.wrap ((p0_3.length : Int) - 1)).toNat IntKind.i64.bits))) then
        onRoom ((IntKind.i64.wrap ((IntKind.i64.wrap ((p0_3.length : Int) - 1)) * 2 ^ (min (IntKind.i64.wrap ((p0_3.length : Int) - 1)).toNat IntKind.i64.bits))).toNat) <|
        dyn_tour.l6 X k (IntKind.i64.wrap ((p0_3.length : Int) - 1)) ((IntKind.i64.wrap ((IntKind.i64.wrap ((p0_3.length : Int) - 1)) * 2 ^ (min (IntKind.i64.wrap ((p0_3.length : Int) - 1)).toNat IntKind.i64.bits))).toNat) (IntKind.i64.wrap ((p0_3.length : Int) - 1)) 0 p0_0 p0_1 p0_2 p0_3 p0_4 p0_5 (List.replicate ((IntKind.i64.wrap ((IntKind.i64.wrap ((p0_3.length : Int) - 1)) * 2 ^ (min (IntKind.i64.wrap ((p0_3.length : Int) - 1)).toNat IntKind.i64.bits))).toNat) [.v (.int .i64 0), .v (.bool false), .v (.int .i64 0), .v (.int .i64 0)])
      else
        none) := by kernel_rfl
def dyn_cover.cf : Cf := { loops := [{ fid := 19, key := 5, live := [5, 6, 28, 29, 30], vecs := [], cvecs := [], nb := 2, cs := [] }, { fid := 19, key := 9, live := [5, 6, 7, 8, 9, 28, 29, 30, 37, 38], vecs := [], cvecs := [], nb := 3, cs := [] }], mode := fun g => bif Nat.beq g F.dyn_cell_offer then 1 else 0 }
noncomputable def dyn_cover.l5 (X : Orc) (k : Nat) (a5 : Int) (a6l : Nat) (a28 : Rows) (a29 : Int) (a30 : Int) (h0_0 : Int) (h0_1 : Int) (h0_2 : Rows) (h0_3 : Rows) (h0_4 : Int) (h0_5 : Rows) (H1 : Rows) : Option Res := loopAt P X dyn_cover.cf k 19 Go.Proofs.Try.f19 5 [(5, .d (.v (.int .i64 a5))), (6, .hs 1 0 4 0 a6l), (28, .d (.sl 3 2 a28)), (29, .d (.v (.int .i64 a29))), (30, .d (.v (.int .i64 a30)))] [] [.cel [.d (.v (.int .i64 h0_0)), .d (.v (.int .i64 h0_1)), .d (.sl 3 2 h0_2), .d (.sl 3 1 h0_3), .d (.v (.int .i64 h0_4)), .d (.sl 3 2 h0_5)], .arr 4 H1]
noncomputable def dyn_cover.l9 (X : Orc) (k : Nat) (a5 : Int) (a6l : Nat) (a7 : Int) (a9 : Int) (a28 : Rows) (a29 : Int) (a30 : Int) (a37 : Int) (a38 : Int) (h0_0 : Int) (h0_1 : Int) (h0_2 : Rows) (h0_3 : Rows) (h0_4 : Int) (h0_5 : Rows) (H1 : Rows) (h2_0 : Int) (h2_1 : Rows) : Option Res := loopAt P X dyn_cover.cf k 19 Go.Proofs.Try.f19 9 [(5, .d (.v (.int .i64 a5))), (6, .hs 1 0 4 0 a6l), (7, .d (.v (.int .i64 a7))), (8, .ptr 2 0), (9, .d (.v (.int .i64 a9))), (28, .d (.sl 3 2 a28)), (29, .d (.v (.int .i64 a29))), (30, .d (.v (.int .i64 a30))), (37, .d (.v (.int .i64 a37))), (38, .d (.v (.int .i64 a38)))] [] [.cel [.d (.v (.int .i64 h0_0)), .d (.v (.int .i64 h0_1)), .d (.sl 3 2 h0_2), .d (.sl 3 1 h0_3), .d (.v (.int .i64 h0_4)), .d (.sl 3 2 h0_5)], .arr 4 H1, .cel [.d (.v (.int .i64 h2_0)), .d (.sl 3 1 h2_1)]]
theorem dyn_cover.l5_eq (X : Orc) (k : Nat) (a5 : Int) (a6l : Nat) (a28 : Rows) (a29 : Int) (a30 : Int) (h0_0 : Int) (h0_1 : Int) (h0_2 : Rows) (h0_3 : Rows) (h0_4 : Int) (h0_5 : Rows) (H1 : Rows) : dyn_cover.l5 X (k + 1) a5 a6l a28 a29 a30 h0_0 h0_1 h0_2 h0_3 h0_4 h0_5 H1 = (
  if decide (a30 < a29) = true then
    onIx a30 a28.length fun i1 =>
    onRow a28 i1 fun w2 =>
    onCell w2 0 fun x3 =>
    onInt .i64 x3 fun n4 =>
    onCell w2 1 fun x5 =>
    onSl 1 x5 fun r6 =>
    onCall (X F.dyn_elements [.agg [.d (.v (.int .i64 n4)), .d (.sl 3 1 r6)]] []) fun z7 =>
    onInt .i64 z7 fun n8 =>
    dyn_cover.l9 X k a5 a6l a30 n8 a28 a29 a30 a5 0 h0_0 h0_1 h0_2 h0_3 h0_4 h0_5 H1 n4 r6
  else
    onIx (IntKind.i64.wrap ((a6l : Int) - 1)) a6l fun i9 =>
    onRow H1 (0 + i9) fun w10 =>
    onCell w10 1 fun x11 =>
    onBool x11 fun b12 =>
    if (!b12) = true then
      some (.d (.tup [.v (.slice none 0 0), .v (.int .i64 0), .v (.bool false)]), [])
    else
      onCall (X F.dyn_trace [.d (.sl 3 4 ((H1.drop 0).take a6l)), .d (.v (.int .i64 (IntKind.i64.wrap ((a6l : Int) - 1))))] []) fun z13 =>
      onSl 1 z13 fun r14 =>
      onIx (IntKind.i64.wrap ((a6l : Int) - 1)) a6l fun i15 =>
      onRow H1 (0 + i15) fun w16 =>
      onCell w16 0 fun x17 =>
      onInt .i64 x17 fun n18 =>
      some (.d (.tup [.sl 3 1 r14, .v (.int .i64 n18), .v (.bool true)]), [])) := by kernel_rfl
theorem dyn_cover.l9_eq (X : Orc) (k : Nat) (a5 : Int) (a6l : Nat) (a7 : Int) (a9 : Int) (a28 : Rows) (a29 : Int) (a30 : Int) (a37 : Int) (a38 : Int) (h0_0 : Int) (h0_1 : Int) (h0_2 : Rows) (h0_3 : Rows) (h0_4 : Int) (h0_5 : Rows) (H1 : Rows) (h2_0 : Int) (h2_1 : Rows) : dyn_cover.l9 X (k + 1) a5 a6l a7 a9 a28 a29 a30 a37 a38 h0_0 h0_1 h0_2 h0_3 h0_4 h0_5 H1 h2_0 h2_1 = (
  if decide (a38 < a37) = true then
    onIx (IntKind.i64.wrap ((IntKind.i64.wrap (a7 * a5)) + a38)) a6l fun i1 =>
    onRow H1 (0 + i1) fun w2 =>
    onCell w2 0 fun x3 =>
    onInt .i64 x3 fun n4 =>
    onCell w2 1 fun x5 =>
    onBool x5 fun b6 =>
    onCell w2 2 fun x7 =>
    onInt .i64 x7 fun n8 =>
    onCell w2 3 fun x9 =>
    onInt .i64 x9 fun n10 =>
    if b6 = true then
      onIx (IntKind.i64.wrap ((IntKind.i64.wrap ((IntKind.i64.wrap (a7 * a5)) + a38)) + a5)) a6l fun i11 =>
      onRow H1 (0 + i11) fun w12 =>
      onCell w12 1 fun x13 =>
      onBool x13 fun b14 =>
      if (!b14) = true then
        onRow H1 (0 + i11) fun w15 =>
        onIx (IntKind.i64.wrap ((IntKind.i64.wrap ((IntKind.i64.wrap (a7 + 1)) * a5)) + (IntKind.i64.wrap ((BitVec.ofInt IntKind.i64.bits a38 ||| BitVec.ofInt IntKind.i64.bits a9).toNat : Int)))) a6l fun i16 =>
        onRow (H1.set (0 + i11) (splice w15 0 [.v (.int .i64 n4), .v (.bool true), .v (.int .i64 n8), .v (.int .i64 n10)])) (0 + i16) fun w17 =>
        onCell w17 1 fun x18 =>
        onBool x18 fun b19 =>
        if (!b19) = true then
          onRow (H1.set (0 + i11) (splice w15 0 [.v (.int .i64 n4), .v (.bool true), .v (.int .i64 n8), .v (.int .i64 n10)])) (0 + i16) fun w20 =>
          dyn_cover.l9 X k a5 a6l a7 a9 a28 a29 a30 a37 (IntKind.i64.wrap (a38 + 1)) h0_0 h0_1 h0_2 h0_3 h0_4 h0_5 ((H1.set (0 + i11) (splice w15 0 [.v (.int .i64 n4), .v (.bool true), .v (.int .i64 n8), .v (.int .i64 n10)])).set (0 + i16) (splice w20 0 [.v (.int .i64 (IntKind.i64.wrap (n4 + h2_0))), .v (.bool true), .v (.int .i64 a7), .v (.int .i64 (IntKind.i64.wrap ((IntKind.i64.wrap (a7 * a5)) + a38)))])) h2_0 h2_1
        else
          onRow (H1.set (0 + i11) (splice w15 0 [.v (.int .i64 n4), .v (.bool true), .v (.int .i64 n8), .v (.int .i64 n10)])) (0 + i16) fun w21 =>
          onCell w21 0 fun x22 =>
          onInt .i64 x22 fun n23 =>
          if decide ((IntKind.i64.wrap (n4 + h2_0)) < n23) = true then
            onRow (H1.set (0 + i11) (splice w15 0 [.v (.int .i64 n4), .v (.bool true), .v (.int .i64 n8), .v (.int .i64 n10)])) (0 + i16) fun w24 =>
            dyn_cover.l9 X k a5 a6l a7 a9 a28 a29 a30 a37 (IntKind.i64.wrap (a38 + 1)) h0_0 h0_1 h0_2 h0_3 h0_4 h0_5 ((H1.set (0 + i11) (splice w15 0 [.v (.int .i64 n4), .v (.bool true), .v (.int .i64 n8), .v (.int .i64 n10)])).set (0 + i16) (splice w24 0 [.v (.int .i64 (IntKind.i64.wrap (n4 + h2_0))), .v (.bool true), .v (.int .i64 a7), .v (.int .i64 (IntKind.i64.wrap ((IntKind.i64.wrap (a7 * a5)) + a38)))])) h2_0 h2_1
          else
            dyn_cover.l9 X k a5 a6l a7 a9 a28 a29 a30 a37 (IntKind.i64.wrap (a38 + 1)) h0_0 h0_1 h0_2 h0_3 h0_4 h0_5 (H1.set (0 + i11) (splice w15 0 [.v (.int .i64 n4), .v (.bool true), .v (.int .i64 n8), .v (.int .i64 n10)])) h2_0 h2_1
      else
        onRow H1 (0 + i11) fun w25 =>
        onCell w25 0 fun x26 =>
        onInt .i64 x26 fun n27 =>
        if decide (n4 < n27) = true then
          onRow H1 (0 + i11) fun w28 =>
          onIx (IntKind.i64.wrap ((IntKind.i64.wrap ((IntKind.i64.wrap (a7 + 1)) * a5)) + (IntKind.i64.wrap ((BitVec.ofInt IntKind.i64.bits a38 ||| BitVec.ofInt IntKind.i64.bits a9).toNat : Int)))) a6l fun i29 =>
          onRow (H1.set (0 + i11) (splice w28 0 [.v (.int .i64 n4), .v (.bool true), .v (.int .i64 n8), .v (.int .i64 n10)])) (0 + i29) fun w30 =>
          onCell w30 1 fun x31 =>
          onBool x31 fun b32 =>
          if (!b32) = true then
            onRow (H1.set (0 + i11) (splice w28 0 [.v (.int .i64 n4), .v (.bool true), .v (.int .i64 n8), .v (.int .i64 n10)])) (0 + i29) fun w33 =>
            dyn_cover.l9 X k a5 a6l a7 a9 a28 a29 a30 a37 (IntKind.i64.wrap (a38 + 1)) h0_0 h0_1 h0_2 h0_3 h0_4 h0_5 ((H1.set (0 + i11) (splice w28 0 [.v (.int .i64 n4), .v (.bool true), .v (.int .i64 n8), .v (.int .i64 n10)])).set (0 + i29) (splice w33 0 [.v (.int .i64 (IntKind.i64.wrap (n4 + h2_0))), .v (.bool true), .v (.int .i64 a7), .v (.int .i64 (IntKind.i64.wrap ((IntKind.i64.wrap (a7 * a5)) + a38)))])) h2_0 h2_1
          else
            onRow (H1.set (0 + i11) (splice w28 0 [.v (.int .i64 n4), .v (.bool true), .v (.int .i64 n8), .v (.int .i64 n10)])) (0 + i29) fun w34 =>
            onCell w34 0 fun x35 =>
            onInt .i64 x35 fun n36 =>
            if decide ((IntKind.i64.wrap (n4 + h2_0)) < n36) = true then
              onRow (H1.set (0 + i11) (splice w28 0 [.v (.int .i64 n4), .v (.bool true), .v (.int .i64 n8), .v (.int .i64 n10)])) (0 + i29) fun w37 =>
              dyn_cover.l9 X k a5 a6l a7 a9 a28 a29 a30 a37 (IntKind.i64.wrap (a38 + 1)) h0_0 h0_1 h0_2 h0_3 h0_4 h0_5 ((H1.set (0 + i11) (splice w28 0 [.v (.int .i64 n4), .v (.bool true), .v (.int .i64 n8), .v (.int .i64 n10)])).set (0 + i29) (splice w37 0 [.v (.int .i64 (IntKind.i64.wrap (n4 + h2_0))), .v (.bool true), .v (.int .i64 a7), .v (.int .i64 (IntKind.i64.wrap ((IntKind.i64.wrap (a7 * a5)) + a38)))])) h2_0 h2_1
            else
              dyn_cover.l9 X k a5 a6l a7 a9 a28 a29 a30 a37 (IntKind.i64.wrap (a38 + 1)) h0_0 h0_1 h0_2 h0_3 h0_4 h0_5 (H1.set (0 + i11) (splice w28 0 [.v (.int .i64 n4), .v (.bool true), .v (.int .i64 n8), .v (.int .i64 n10)])) h2_0 h2_1
        else
          onIx (IntKind.i64.wrap ((IntKind.i64.wrap ((IntKind.i64.wrap (a7 + 1)) * a5)) + (IntKind.i64.wrap ((BitVec.ofInt IntKind.i64.bits a38 ||| BitVec.ofInt IntKind.i64.bits a9).toNat : Int)))) a6l fun i38 =>
          onRow H1 (0 + i38) fun w39 =>
          onCell w39 1 fun x40 =>
          onBool x40 fun b41 =>
          if (!b41) = true then
            onRow H1 (0 + i38) fun w42 =>
            dyn_cover.l9 X k a5 a6l a7 a9 a28 a29 a30 a37 (IntKind.i64.wrap (a38 + 1)) h0_0 h0_1 h0_2 h0_3 h0_4 h0_5 (H1.set (0 + i38) (splice w42 0 [.v (.int .i64 (IntKind.i64.wrap (n4 + h2_0))), .v (.bool true), .v (.int .i64 a7), .v (.int .i64 (IntKind.i64.wrap ((IntKind.i64.wrap (a7 * a5)) + a38)))])) h2_0 h2_1
          else
            onRow H1 (0 + i38) fun w43 =>
            onCell w43 0 fun x44 =>
            onInt .i64 x44 fun n45 =>
            if decide ((IntKind.i64.wrap (n4 + h2_0)) < n45) = true then
              onRow H1 (0 + i38) fun w46 =>
              dyn_cover.l9 X k a5 a6l a7 a9 a28 a29 a30 a37 (IntKind.i64.wrap (a38 + 1)) h0_0 h0_1 h0_2 h0_3 h0_4 h0_5 (H1.set (0 + i38) (splice w46 0 [.v (.int .i64 (IntKind.i64.wrap (n4 + h2_0))), .v (.bool true), .v (.int .i64 a7), .v (.int .i64 (IntKind.i64.wrap ((IntKind.i64.wrap (a7 * a5)) + a38)))])) h2_0 h2_1
            else
              dyn_cover.l9 X k a5 a6l a7 a9 a28 a29 a30 a37 (IntKind.i64.wrap (a38 + 1)) h0_0 h0_1 h0_2 h0_3 h0_4 h0_5 H1 h2_0 h2_1
    else
      dyn_cover.l9 X k a5 a6l a7 a9 a28 a29 a30 a37 (IntKind.i64.wrap (a38 + 1)) h0_0 h0_1 h0_2 h0_3 h0_4 h0_5 H1 h2_0 h2_1
  else
    dyn_cover.l5 X k a5 a6l a28 a29 (IntKind.i64.wrap (a30 + 1)) h0_0 h0_1 h0_2 h0_3 h0_4 h0_5 H1) := by kernel_rfl
theorem dyn_cover.eq (X : Orc) (k : Nat) (p0_0 : Int) (p0_1 : Int) (p0_2 : Rows) (p0_3 : Rows) (p0_4 : Int) (p0_5 : Rows) : runF P X dyn_cover.cf (k + 1) F.dyn_cover [.agg [.d (.v (.int .i64 p0_0)), .d (.v (.int .i64 p0_1)), .d (.sl 3 2 p0_2), .d (.sl 3 1 p0_3), .d (.v (.int .i64 p0_4)), .d (.sl 3 2 p0_5)]] [] = (
  if p0_4 < 0 then
    none
  else
    if 0 ≤ (IntKind.i64.wrap ((IntKind.i64.wrap ((p0_5.length : Int) + 1)) * (IntKind.i64.wrap ((1 : Int) * 2 ^ (min p0_4.toNat IntKind.i64.bits))))) then
      onRoom ((IntKind.i64.wrap ((IntKind.i64.wrap ((p0_5.length : Int) + 1)) * (IntKind.i64.wrap ((1 : Int) * 2 ^ (min p0_4.toNat IntKind.i64.bits))))).toNat) <|
      onIx 0 ((IntKind.i64.wrap ((IntKind.i64.wrap ((p0_5.length : Int) + 1)) * (IntKind.i64.wrap ((1 : Int) * 2 ^ (min p0_4.toNat IntKind.i64.bits))))).toNat) fun i1 =>
      onRow (List.replicate ((IntKind.i64.wrap ((IntKind.i64.wrap ((p0_5.length : Int) + 1)) * (IntKind.i64.wrap ((1 : Int) * 2 ^ (min p0_4.toNat IntKind.i64.bits))))).toNat) [.v (.int .i64 0), .v (.bool false), .v (.int .i64 0), .v (.int .i64 0)]) (0 + i1) fun w2 =>
      dyn_cover.l5 X k (IntKind.i64.wrap ((1 : Int) * 2 ^ (min p0_4.toNat IntKind.i64.bits))) ((IntKind.i64.wrap ((IntKind.i64.wrap ((p0_5.length : Int) + 1)) * (IntKind.i64.wrap ((1 : Int) * 2 ^ (min p0_4.toNat IntKind.i64.bits))))).toNat) p0_5 (p0_5.length : Int) 0 p0_0 p0_1 p0_2 p0_3 p0_4 p0_5 ((List.replicate ((IntKind.i64.wrap ((IntKind.i64.wrap ((p0_5.length : Int) + 1)) * (IntKind.i64.wrap ((1 : Int) * 2 ^ (min p0_4.toNat IntKind.i64.bits))))).toNat) [.v (.int .i64 0), .v (.bool false), .v (.int .i64 0), .v (.int .i64 0)]).set (0 + i1) (splice w2 0 [.v (.int .i64 0), .v (.bool true), .v (.int .i64 (-1)), .v (.int .i64 0)]))
    else
      none) := by kernel_rfl
def ref13_Count.cf : Cf := { loops := [{ fid := 20, key := 7, live := [1, 5, 6, 7], vecs := [], cvecs := [], nb := 1, cs := [] }] }
noncomputable def ref13_Count.l7 (X : Orc) (k : Nat) (a5 : Int) (a6 : Int) (a7 : Int) (h0_0 : Int) (h0_1 : Int) (h0_2 : Rows) (h0_3 : Rows) (h0_4 : Int) (h0_5 : Rows) : Option Res := loopAt P X ref13_Count.cf k 20 Go.Proofs.Try.f20 7 [(1, .ptr 0 0), (5, .d (.v (.int .i64 a5))), (6, .d (.v (.int .i64 a6))), (7, .d (.v (.int .i64 a7)))] [] [.cel [.d (.v (.int .i64 h0_0)), .d (.v (.int .i64 h0_1)), .d (.sl 3 2 h0_2), .d (.sl 3 1 h0_3), .d (.v (.int .i64 h0_4)), .d (.sl 3 2 h0_5)]]
theorem ref13_Count.l7_eq (X : Orc) (k : Nat) (a5 : Int) (a6 : Int) (a7 : Int) (h0_0 : Int) (h0_1 : Int) (h0_2 : Rows) (h0_3 : Rows) (h0_4 : Int) (h0_5 : Rows) : ref13_Count.l7 X (k + 1) a5 a6 a7 h0_0 h0_1 h0_2 h0_3 h0_4 h0_5 = (
  if decide (a7 ≤ a5) = true then
    if decide (a6 ≤ 1048576) = true then
      if (h0_0 == 0) = true then
        ref13_Count.l7 X k a5 (IntKind.i64.wrap (2 * a6)) (IntKind.i64.wrap (a7 + 1)) h0_0 h0_1 h0_2 h0_3 h0_4 h0_5
      else
        if (h0_0 == 3) = true then
          ref13_Count.l7 X k a5 (IntKind.i64.wrap (2 * a6)) (IntKind.i64.wrap (a7 + 1)) h0_0 h0_1 h0_2 h0_3 h0_4 h0_5
        else
          ref13_Count.l7 X k a5 (IntKind.i64.wrap (a7 * a6)) (IntKind.i64.wrap (a7 + 1)) h0_0 h0_1 h0_2 h0_3 h0_4 h0_5
    else
      if decide (a6 > 1048576) = true then
        some (.d (.tup [.v (.int .i64 0), .v (.int .i64 24)]), [])
      else
        some (.d (.tup [.v (.int .i64 a6), .v (.int .i64 0)]), [])
  else
    if decide (a6 > 1048576) = true then
      some (.d (.tup [.v (.int .i64 0), .v (.int .i64 24)]), [])
    else
      some (.d (.tup [.v (.int .i64 a6), .v (.int .i64 0)]), [])) := by kernel_rfl
theorem ref13_Count.eq (X : Orc) (k : Nat) (p0_0 : Int) (p0_1 : Int) (p0_2 : Rows) (p0_3 : Rows) (p0_4 : Int) (p0_5 : Rows) : runF P X ref13_Count.cf (k + 1) F.ref13_Count [.agg [.d (.v (.int .i64 p0_0)), .d (.v (.int .i64 p0_1)), .d (.sl 3 2 p0_2), .d (.sl 3 1 p0_3), .d (.v (.int .i64 p0_4)), .d (.sl 3 2 p0_5)]] [] = (
  onCall (X F.ref09_Check [.agg [.d (.v (.int .i64 p0_0)), .d (.v (.int .i64 p0_1)), .d (.sl 3 2 p0_2), .d (.sl 3 1 p0_3), .d (.v (.int .i64 p0_4)), .d (.sl 3 2 p0_5)]] []) fun z1 =>
  onInt .i64 z1 fun n2 =>
  if (n2 != 0) = true then
    some (.d (.tup [.v (.int .i64 0), .v (.int .i64 n2)]), [])
  else
    onCall (X F.ref09_N [.agg [.d (.v (.int .i64 p0_0)), .d (.v (.int .i64 p0_1)), .d (.sl 3 2 p0_2), .d (.sl 3 1 p0_3), .d (.v (.int .i64 p0_4)), .d (.sl 3 2 p0_5)]] []) fun z3 =>
    onInt .i64 z3 fun n4 =>
    ref13_Count.l7 X k n4 1 1 p0_0 p0_1 p0_2 p0_3 p0_4 p0_5) := by kernel_rfl
def ref13_All.cf : Cf := { loops := [{ fid := 21, key := 10, live := [3, 5, 6], vecs := [(5, 1)], cvecs := [], nb := 2, cs := [] }, { fid := 21, key := 15, live := [3, 5, 6, 7, 8, 9], vecs := [(7, 1)], cvecs := [], nb := 3, cs := [] }] }
noncomputable def ref13_All.l10 (X : Orc) (k : Nat) (a3 : Int) (a6 : Int) (h0_0 : Int) (h0_1 : Int) (h0_2 : Rows) (h0_3 : Rows) (h0_4 : Int) (h0_5 : Rows) (H1 : Rows) : Option Res := loopAt P X ref13_All.cf k 21 Go.Proofs.Try.f21 10 [(3, .d (.v (.int .i64 a3))), (5, .vh 1 0 1 H1.length), (6, .d (.v (.int .i64 a6)))] [] [.cel [.d (.v (.int .i64 h0_0)), .d (.v (.int .i64 h0_1)), .d (.sl 3 2 h0_2), .d (.sl 3 1 h0_3), .d (.v (.int .i64 h0_4)), .d (.sl 3 2 h0_5)], .vec 1 0 H1]
noncomputable def ref13_All.l15 (X : Orc) (k : Nat) (a3 : Int) (a6 : Int) (a8 : Int) (a9 : Int) (h0_0 : Int) (h0_1 : Int) (h0_2 : Rows) (h0_3 : Rows) (h0_4 : Int) (h0_5 : Rows) (H1 : Rows) (H2 : Rows) : Option Res := loopAt P X ref13_All.cf k 21 Go.Proofs.Try.f21 15 [(3, .d (.v (.int .i64 a3))), (5, .vh 1 0 1 H1.length), (6, .d (.v (.int .i64 a6))), (7, .vh 2 0 1 H2.length), (8, .d (.v (.int .i64 a8))), (9, .d (.v (.int .i64 a9)))] [] [.cel [.d (.v (.int .i64 h0_0)), .d (.v (.int .i64 h0_1)), .d (.sl 3 2 h0_2), .d (.sl 3 1 h0_3), .d (.v (.int .i64 h0_4)), .d (.sl 3 2 h0_5)], .vec 1 0 H1, .vec 1 0 H2]
theorem ref13_All.l10_eq (X : Orc) (k : Nat) (a3 : Int) (a6 : Int) (h0_0 : Int) (h0_1 : Int) (h0_2 : Rows) (h0_3 : Rows) (h0_4 : Int) (h0_5 : Rows) (H1 : Rows) : ref13_All.l10 X (k + 1) a3 a6 h0_0 h0_1 h0_2 h0_3 h0_4 h0_5 H1 = (
  if decide (a6 < a3) = true then
    ref13_All.l15 X k a3 a6 a6 0 h0_0 h0_1 h0_2 h0_3 h0_4 h0_5 H1 ([])
  else
    some (.d (.sl 3 1 H1), [])) := by kernel_rfl
theorem ref13_All.l15_eq (X : Orc) (k : Nat) (a3 : Int) (a6 : Int) (a8 : Int) (a9 : Int) (h0_0 : Int) (h0_1 : Int) (h0_2 : Rows) (h0_3 : Rows) (h0_4 : Int) (h0_5 : Rows) (H1 : Rows) (H2 : Rows) : ref13_All.l15 X (k + 1) a3 a6 a8 a9 h0_0 h0_1 h0_2 h0_3 h0_4 h0_5 H1 H2 = (
  if decide (a8 > 0) = true then
    if ((a8.tmod 2) == 1) = true then
      onRoom (H2.length + 1) <|
      ref13_All.l15 X k a3 a6 (IntKind.i64.wrap (a8.tdiv 2)) (IntKind.i64.wrap (a9 + 1)) h0_0 h0_1 h0_2 h0_3 h0_4 h0_5 H1 (H2 ++ ([[.v (.int .i64 a9)]]))
    else
      ref13_All.l15 X k a3 a6 (IntKind.i64.wrap (a8.tdiv 2)) (IntKind.i64.wrap (a9 + 1)) h0_0 h0_1 h0_2 h0_3 h0_4 h0_5 H1 H2
  else
    onRoom (H1.length + 1) <|
    ref13_All.l10 X k a3 (IntKind.i64.wrap (a6 + 1)) h0_0 h0_1 h0_2 h0_3 h0_4 h0_5 (H1 ++ ([[.sl 3 1 H2]]))) := by kernel_rfl
theorem ref13_All.eq (X : Orc) (k : Nat) (p0_0 : Int) (p0_1 : Int) (p0_2 : Rows) (p0_3 : Rows) (p0_4 : Int) (p0_5 : Rows) : runF P X ref13_All.cf (k + 1) F.ref13_All [.agg [.d (.v (.int .i64 p0_0)), .d (.v (.int .i64 p0_1)), .d (.sl 3 2 p0_2), .d (.sl 3 1 p0_3), .d (.v (.int .i64 p0_4)), .d (.sl 3 2 p0_5)]] [] = (
  onCall (X F.ref13_Count [.agg [.d (.v (.int .i64 p0_0)), .d (.v (.int .i64 p0_1)), .d (.sl 3 2 p0_2), .d (.sl 3 1 p0_3), .d (.v (.int .i64 p0_4)), .d (.sl 3 2 p0_5)]] []) fun z1 =>
  onTup 2 z1 fun u2 =>
  onCell u2 0 fun x3 =>
  onInt .i64 x3 fun n4 =>
  onCell u2 1 fun x5 =>
  onInt .i64 x5 fun n6 =>
  if (n6 != 0) = true then
    some (.d (.v (.slice none 0 0)), [])
  else
    if (p0_0 == 1) = true then
      onCall (X F.ref13_orders [.d (.sl 3 1 ([])), .d (.v (.int .i64 (p0_3.length : Int)))] []) fun z7 =>
      onSl 1 z7 fun r8 =>
      some (.d (.sl 3 1 r8), [])
    else
      if (p0_0 == 2) = true then
        onCall (X F.ref13_orders [.d (.sl 3 1 ([[.v (.int .i64 0)]])), .d (.v (.int .i64 (p0_3.length : Int)))] []) fun z9 =>
        onSl 1 z9 fun r10 =>
        some (.d (.sl 3 1 r10), [])
      else
        ref13_All.l10 X k n4 0 p0_0 p0_1 p0_2 p0_3 p0_4 p0_5 ([])) := by kernel_rfl
def ref12_Cost.cf : Cf := { loops := [] }
theorem ref12_Cost.eq (X : Orc) (k : Nat) (p0_0 : Int) (p0_1 : Int) (p0_2 : Rows) (p0_3 : Rows) (p0_4 : Int) (p0_5 : Rows) (p1 : Rows) : runF P X ref12_Cost.cf (k + 1) F.ref12_Cost [.agg [.d (.v (.int .i64 p0_0)), .d (.v (.int .i64 p0_1)), .d (.sl 3 2 p0_2), .d (.sl 3 1 p0_3), .d (.v (.int .i64 p0_4)), .d (.sl 3 2 p0_5)], .d (.sl 3 1 p1)] [] = (
  onCall (X F.ref12_Value [.agg [.d (.v (.int .i64 p0_0)), .d (.v (.int .i64 p0_1)), .d (.sl 3 2 p0_2), .d (.sl 3 1 p0_3), .d (.v (.int .i64 p0_4)), .d (.sl 3 2 p0_5)], .d (.sl 3 1 p1)] []) fun z1 =>
  onTup 2 z1 fun u2 =>
  onCell u2 0 fun x3 =>
  onInt .i64 x3 fun n4 =>
  onCell u2 1 fun x5 =>
  onInt .i64 x5 fun n6 =>
  if (p0_0 == 0) = true then
    some (.d (.tup [.v (.int .i64 (IntKind.i64.wrap (0 - n4))), .v (.int .i64 n6)]), [])
  else
    some (.d (.tup [.v (.int .i64 n4), .v (.int .i64 n6)]), [])) := by kernel_rfl
def ref09_Check.cf : Cf := { loops := [{ fid := 23, key := 9, live := [1, 4], vecs := [], cvecs := [], nb := 1, cs := [] }, { fid := 23, key := 14, live := [1, 5], vecs := [], cvecs := [], nb := 1, cs := [] }, { fid := 23, key := 18, live := [1, 5, 6, 7], vecs := [], cvecs := [], nb := 1, cs := [] }, { fid := 23, key := 26, live := [1, 9], vecs := [], cvecs := [], nb := 1, cs := [] }], joins := [{ fid := 23, key := 4, live := [1, 3], vecs := [], cvecs := [], nb := 1, cs := [] }, { fid := 23, key := 6, live := [1, 3], vecs := [], cvecs := [], nb := 1, cs := [] }, { fid := 23, key := 8, live := [1], vecs := [], cvecs := [], nb := 1, cs := [] }] }
noncomputable def ref09_Check.j4 (X : Orc) (k : Nat) (a3 : Bool) (h0_0 : Int) (h0_1 : Int) (h0_2 : Rows) (h0_3 : Rows) (h0_4 : Int) (h0_5 : Rows) : Option Res := joinAt P X ref09_Check.cf k 23 Go.Proofs.Try.f23 4 [(1, .ptr 0 0), (3, .d (.v (.bool a3)))] [] [.cel [.d (.v (.int .i64 h0_0)), .d (.v (.int .i64 h0_1)), .d (.sl 3 2 h0_2), .d (.sl 3 1 h0_3), .d (.v (.int .i64 h0_4)), .d (.sl 3 2 h0_5)]]
noncomputable def ref09_Check.j6 (X : Orc) (k : Nat) (a3 : Bool) (h0_0 : Int) (h0_1 : Int) (h0_2 : Rows) (h0_3 : Rows) (h0_4 : Int) (h0_5 : Rows) : Option Res := joinAt P X ref09_Check.cf k 23 Go.Proofs.Try.f23 6 [(1, .ptr 0 0), (3, .d (.v (.bool a3)))] [] [.cel [.d (.v (.int .i64 h0_0)), .d (.v (.int .i64 h0_1)), .d (.sl 3 2 h0_2), .d (.sl 3 1 h0_3), .d (.v (.int .i64 h0_4)), .d (.sl 3 2 h0_5)]]
noncomputable def ref09_Check.j8 (X : Orc) (k : Nat) (h0_0 : Int) (h0_1 : Int) (h0_2 : Rows) (h0_3 : Rows) (h0_4 : Int) (h0_5 : Rows) : Option Res := joinAt P X ref09_Check.cf k 23 Go.Proofs.Try.f23 8 [(1, .ptr 0 0)] [] [.cel [.d (.v (.int .i64 h0_0)), .d (.v (.int .i64 h0_1)), .d (.sl 3 2 h0_2), .d (.sl 3 1 h0_3), .d (.v (.int .i64 h0_4)), .d (.sl 3 2 h0_5)]]
noncomputable def ref09_Check.l9 (X : Orc) (k : Nat) (a4 : Int) (h0_0 : Int) (h0_1 : Int) (h0_2 : Rows) (h0_3 : Rows) (h0_4 : Int) (h0_5 : Rows) : Option Res := loopAt P X ref09_Check.cf k 23 Go.Proofs.Try.f23 9 [(1, .ptr 0 0), (4, .d (.v (.int .i64 a4)))] [] [.cel [.d (.v (.int .i64 h0_0)), .d (.v (.int .i64 h0_1)), .d (.sl 3 2 h0_2), .d (.sl 3 1 h0_3), .d (.v (.int .i64 h0_4)), .d (.sl 3 2 h0_5)]]
noncomputable def ref09_Check.l14 (X : Orc) (k : Nat) (a5 : Int) (h0_0 : Int) (h0_1 : Int) (h0_2 : Rows) (h0_3 : Rows) (h0_4 : Int) (h0_5 : Rows) : Option Res := loopAt P X ref09_Check.cf k 23 Go.Proofs.Try.f23 14 [(1, .ptr 0 0), (5, .d (.v (.int .i64 a5)))] [] [.cel [.d (.v (.int .i64 h0_0)), .d (.v (.int .i64 h0_1)), .d (.sl 3 2 h0_2), .d (.sl 3 1 h0_3), .d (.v (.int .i64 h0_4)), .d (.sl 3 2 h0_5)]]
noncomputable def ref09_Check.l18 (X : Orc) (k : Nat) (a5 : Int) (a6 : Rows) (a7 : Int) (h0_0 : Int) (h0_1 : Int) (h0_2 : Rows) (h0_3 : Rows) (h0_4 : Int) (h0_5 : Rows) : Option Res := loopAt P X ref09_Check.cf k 23 Go.Proofs.Try.f23 18 [(1, .ptr 0 0), (5, .d (.v (.int .i64 a5))), (6, .d (.sl 3 1 a6)), (7, .d (.v (.int .i64 a7)))] [] [.cel [.d (.v (.int .i64 h0_0)), .d (.v (.int .i64 h0_1)), .d (.sl 3 2 h0_2), .d (.sl 3 1 h0_3), .d (.v (.int .i64 h0_4)), .d (.sl 3 2 h0_5)]]
noncomputable def ref09_Check.l26 (X : Orc) (k : Nat) (a9 : Int) (h0_0 : Int) (h0_1 : Int) (h0_2 : Rows) (h0_3 : Rows) (h0_4 : Int) (h0_5 : Rows) : Option Res := loopAt P X ref09_Check.cf k 23 Go.Proofs.Try.f23 26 [(1, .ptr 0 0), (9, .d (.v (.int .i64 a9)))] [] [.cel [.d (.v (.int .i64 h0_0)), .d (.v (.int .i64 h0_1)), .d (.sl 3 2 h0_2), .d (.sl 3 1 h0_3), .d (.v (.int .i64 h0_4)), .d (.sl 3 2 h0_5)]]
theorem ref09_Check.j4_eq (X : Orc) (k : Nat) (a3 : Bool) (h0_0 : Int) (h0_1 : Int) (h0_2 : Rows) (h0_3 : Rows) (h0_4 : Int) (h0_5 : Rows) : ref09_Check.j4 X (k + 1) a3 h0_0 h0_1 h0_2 h0_3 h0_4 h0_5 = (
  if (h0_0 != 0) = true then
    if (h0_1 != 0) = true then
      some (.d (.v (.int .i64 4)), [])
    else
      if decide ((h0_2.length : Int) > 0) = true then
        some (.d (.v (.int .i64 4)), [])
      else
        if (!a3) = true then
          if decide ((h0_3.length : Int) > 0) = true then
            some (.d (.v (.int .i64 4)), [])
          else
            if (h0_0 != 3) = true then
              if (h0_4 != 0) = true then
                some (.d (.v (.int .i64 4)), [])
              else
                if decide ((h0_5.length : Int) > 0) = true then
                  some (.d (.v (.int .i64 4)), [])
                else
                  ref09_Check.j6 X k a3 h0_0 h0_1 h0_2 h0_3 h0_4 h0_5
            else
              ref09_Check.j6 X k a3 h0_0 h0_1 h0_2 h0_3 h0_4 h0_5
        else
          if (h0_0 != 3) = true then
            if (h0_4 != 0) = true then
              some (.d (.v (.int .i64 4)), [])
            else
              if decide ((h0_5.length : Int) > 0) = true then
                some (.d (.v (.int .i64 4)), [])
              else
                ref09_Check.j6 X k a3 h0_0 h0_1 h0_2 h0_3 h0_4 h0_5
          else
            ref09_Check.j6 X k a3 h0_0 h0_1 h0_2 h0_3 h0_4 h0_5
  else
    if (!a3) = true then
      if decide ((h0_3.length : Int) > 0) = true then
        some (.d (.v (.int .i64 4)), [])
      else
        if (h0_0 != 3) = true then
          if (h0_4 != 0) = true then
            some (.d (.v (.int .i64 4)), [])
          else
            if decide ((h0_5.length : Int) > 0) = true then
              some (.d (.v (.int .i64 4)), [])
            else
              ref09_Check.j6 X k a3 h0_0 h0_1 h0_2 h0_3 h0_4 h0_5
        else
          ref09_Check.j6 X k a3 h0_0 h0_1 h0_2 h0_3 h0_4 h0_5
    else
      if (h0_0 != 3) = true then
        if (h0_4 != 0) = true then
          some (.d (.v (.int .i64 4)), [])
        else
          if decide ((h0_5.length : Int) > 0) = true then
            some (.d (.v (.int .i64 4)), [])
          else
            ref09_Check.j6 X k a3 h0_0 h0_1 h0_2 h0_3 h0_4 h0_5
      else
        ref09_Check.j6 X k a3 h0_0 h0_1 h0_2 h0_3 h0_4 h0_5) := by kernel_rfl
theorem ref09_Check.j6_eq (X : Orc) (k : Nat) (a3 : Bool) (h0_0 : Int) (h0_1 : Int) (h0_2 : Rows) (h0_3 : Rows) (h0_4 : Int) (h0_5 : Rows) : ref09_Check.j6 X (k + 1) a3 h0_0 h0_1 h0_2 h0_3 h0_4 h0_5 = (
  if decide ((h0_2.length : Int) > 4096) = true then
    some (.d (.v (.int .i64 22)), [])
  else
    if decide ((h0_5.length : Int) > 4096) = true then
      some (.d (.v (.int .i64 22)), [])
    else
      if decide ((h0_3.length : Int) > 64) = true then
        some (.d (.v (.int .i64 22)), [])
      else
        if a3 = true then
          if ((h0_3.length : Int) == 0) = true then
            some (.d (.v (.int .i64 22)), [])
          else
            if decide (h0_4 < 0) = true then
              some (.d (.v (.int .i64 22)), [])
            else
              if decide (h0_4 > 4096) = true then
                some (.d (.v (.int .i64 22)), [])
              else
                ref09_Check.j8 X k h0_0 h0_1 h0_2 h0_3 h0_4 h0_5
        else
          if decide (h0_4 < 0) = true then
            some (.d (.v (.int .i64 22)), [])
          else
            if decide (h0_4 > 4096) = true then
              some (.d (.v (.int .i64 22)), [])
            else
              ref09_Check.j8 X k h0_0 h0_1 h0_2 h0_3 h0_4 h0_5) := by kernel_rfl
theorem ref09_Check.j8_eq (X : Orc) (k : Nat) (h0_0 : Int) (h0_1 : Int) (h0_2 : Rows) (h0_3 : Rows) (h0_4 : Int) (h0_5 : Rows) : ref09_Check.j8 X (k + 1) h0_0 h0_1 h0_2 h0_3 h0_4 h0_5 = (
  ref09_Check.l9 X k 0 h0_0 h0_1 h0_2 h0_3 h0_4 h0_5) := by kernel_rfl
theorem ref09_Check.l9_eq (X : Orc) (k : Nat) (a4 : Int) (h0_0 : Int) (h0_1 : Int) (h0_2 : Rows) (h0_3 : Rows) (h0_4 : Int) (h0_5 : Rows) : ref09_Check.l9 X (k + 1) a4 h0_0 h0_1 h0_2 h0_3 h0_4 h0_5 = (
  if decide (a4 < (h0_3.length : Int)) = true then
    onIx a4 h0_3.length fun i1 =>
    onRow h0_3 i1 fun w2 =>
    onCell w2 0 fun x3 =>
    onSl 1 x3 fun r4 =>
    if ((r4.length : Int) != (h0_3.length : Int)) = true then
      some (.d (.v (.int .i64 4)), [])
    else
      ref09_Check.l9 X k (IntKind.i64.wrap (a4 + 1)) h0_0 h0_1 h0_2 h0_3 h0_4 h0_5
  else
    ref09_Check.l14 X k 0 h0_0 h0_1 h0_2 h0_3 h0_4 h0_5) := by kernel_rfl
theorem ref09_Check.l14_eq (X : Orc) (k : Nat) (a5 : Int) (h0_0 : Int) (h0_1 : Int) (h0_2 : Rows) (h0_3 : Rows) (h0_4 : Int) (h0_5 : Rows) : ref09_Check.l14 X (k + 1) a5 h0_0 h0_1 h0_2 h0_3 h0_4 h0_5 = (
  if decide (a5 < (h0_5.length : Int)) = true then
    onIx a5 h0_5.length fun i1 =>
    onRow h0_5 i1 fun w2 =>
    onCell w2 1 fun x3 =>
    onSl 1 x3 fun r4 =>
    ref09_Check.l18 X k a5 r4 0 h0_0 h0_1 h0_2 h0_3 h0_4 h0_5
  else
    onCall (X F.ref09_numbers [.agg [.d (.v (.int .i64 h0_0)), .d (.v (.int .i64 h0_1)), .d (.sl 3 2 h0_2), .d (.sl 3 1 h0_3), .d (.v (.int .i64 h0_4)), .d (.sl 3 2 h0_5)]] []) fun z5 =>
    onBool z5 fun b6 =>
    if (!b6) = true then
      some (.d (.v (.int .i64 22)), [])
    else
      ref09_Check.l26 X k 0 h0_0 h0_1 h0_2 h0_3 h0_4 h0_5) := by kernel_rfl
theorem ref09_Check.l18_eq (X : Orc) (k : Nat) (a5 : Int) (a6 : Rows) (a7 : Int) (h0_0 : Int) (h0_1 : Int) (h0_2 : Rows) (h0_3 : Rows) (h0_4 : Int) (h0_5 : Rows) : ref09_Check.l18 X (k + 1) a5 a6 a7 h0_0 h0_1 h0_2 h0_3 h0_4 h0_5 = (
  if decide (a7 < (a6.length : Int)) = true then
    onIx a7 a6.length fun i1 =>
    onRow a6 i1 fun w2 =>
    onCell w2 0 fun x3 =>
    onInt .i64 x3 fun n4 =>
    if decide (n4 < 0) = true then
      some (.d (.v (.int .i64 4)), [])
    else
      onIx a7 a6.length fun i5 =>
      onRow a6 i5 fun w6 =>
      onCell w6 0 fun x7 =>
      onInt .i64 x7 fun n8 =>
      if decide (n8 ≥ h0_4) = true then
        some (.d (.v (.int .i64 4)), [])
      else
        if decide (a7 > 0) = true then
          onIx a7 a6.length fun i9 =>
          onRow a6 i9 fun w10 =>
          onCell w10 0 fun x11 =>
          onInt .i64 x11 fun n12 =>
          onIx (IntKind.i64.wrap (a7 - 1)) a6.length fun i13 =>
          onRow a6 i13 fun w14 =>
          onCell w14 0 fun x15 =>
          onInt .i64 x15 fun n16 =>
          if decide (n12 ≤ n16) = true then
            some (.d (.v (.int .i64 4)), [])
          else
            ref09_Check.l18 X k a5 a6 (IntKind.i64.wrap (a7 + 1)) h0_0 h0_1 h0_2 h0_3 h0_4 h0_5
        else
          ref09_Check.l18 X k a5 a6 (IntKind.i64.wrap (a7 + 1)) h0_0 h0_1 h0_2 h0_3 h0_4 h0_5
  else
    ref09_Check.l14 X k (IntKind.i64.wrap (a5 + 1)) h0_0 h0_1 h0_2 h0_3 h0_4 h0_5) := by kernel_rfl
theorem ref09_Check.l26_eq (X : Orc) (k : Nat) (a9 : Int) (h0_0 : Int) (h0_1 : Int) (h0_2 : Rows) (h0_3 : Rows) (h0_4 : Int) (h0_5 : Rows) : ref09_Check.l26 X (k + 1) a9 h0_0 h0_1 h0_2 h0_3 h0_4 h0_5 = (
  if decide (a9 < (h0_3.length : Int)) = true then
    if (h0_0 == 2) = true then
      onIx a9 h0_3.length fun i1 =>
      onRow h0_3 i1 fun w2 =>
      onCell w2 0 fun x3 =>
      onSl 1 x3 fun r4 =>
      onIx a9 r4.length fun i5 =>
      onRow r4 i5 fun w6 =>
      onCell w6 0 fun x7 =>
      onInt .i64 x7 fun n8 =>
      if (n8 != 0) = true then
        some (.d (.v (.int .i64 4)), [])
      else
        ref09_Check.l26 X k (IntKind.i64.wrap (a9 + 1)) h0_0 h0_1 h0_2 h0_3 h0_4 h0_5
    else
      some (.d (.v (.int .i64 0)), [])
  else
    some (.d (.v (.int .i64 0)), [])) := by kernel_rfl
theorem ref09_Check.eq (X : Orc) (k : Nat) (p0_0 : Int) (p0_1 : Int) (p0_2 : Rows) (p0_3 : Rows) (p0_4 : Int) (p0_5 : Rows) : runF P X ref09_Check.cf (k + 1) F.ref09_Check [.agg [.d (.v (.int .i64 p0_0)), .d (.v (.int .i64 p0_1)), .d (.sl 3 2 p0_2), .d (.sl 3 1 p0_3), .d (.v (.int .i64 p0_4)), .d (.sl 3 2 p0_5)]] [] = (
  if decide (p0_0 < 0) = true then
    some (.d (.v (.int .i64 25)), [])
  else
    if decide (p0_0 > 3) = true then
      some (.d (.v (.int .i64 25)), [])
    else
      if (p0_0 == 1) = true then
        ref09_Check.j4 X k true p0_0 p0_1 p0_2 p0_3 p0_4 p0_5
      else
        ref09_Check.j4 X k (p0_0 == 2) p0_0 p0_1 p0_2 p0_3 p0_4 p0_5) := by kernel_rfl
def ref09_N.cf : Cf := { loops := [] }
theorem ref09_N.eq (X : Orc) (k : Nat) (p0_0 : Int) (p0_1 : Int) (p0_2 : Rows) (p0_3 : Rows) (p0_4 : Int) (p0_5 : Rows) : runF P X ref09_N.cf (k + 1) F.ref09_N [.agg [.d (.v (.int .i64 p0_0)), .d (.v (.int .i64 p0_1)), .d (.sl 3 2 p0_2), .d (.sl 3 1 p0_3), .d (.v (.int .i64 p0_4)), .d (.sl 3 2 p0_5)]] [] = (
  onCall (X F.ref09_Check [.agg [.d (.v (.int .i64 p0_0)), .d (.v (.int .i64 p0_1)), .d (.sl 3 2 p0_2), .d (.sl 3 1 p0_3), .d (.v (.int .i64 p0_4)), .d (.sl 3 2 p0_5)]] []) fun z1 =>
  onInt .i64 z1 fun n2 =>
  if (n2 != 0) = true then
    some (.d (.v (.int .i64 0)), [])
  else
    if (p0_0 == 2) = true then
      some (.d (.v (.int .i64 (IntKind.i64.wrap ((p0_3.length : Int) - 1)))), [])
    else
      some (.d (.v (.int .i64 (IntKind.i64.wrap ((IntKind.i64.wrap ((p0_2.length : Int) + (p0_3.length : Int))) + (p0_5.length : Int))))), [])) := by kernel_rfl
end W
