/- What the program's functions compute, as plain functions. Conditions: none. -/
import Derived.Test.YtoohlpeogeeobaaSpec0
import Derived.Test.YtoohlpeogeeobaaGenG
import Derived.Test.YtoohlpeogeeobaaEng3
open Go Go.Eng
namespace W

theorem bit_i64 {a k : Nat} (ha : a < 2 ^ 62) (hk : k ≤ 62) : ((IntKind.i64.wrap ((BitVec.ofInt IntKind.i64.bits ((a : Int).fdiv (2 ^ (min (k : Int).toNat IntKind.i64.bits))) &&& BitVec.ofInt IntKind.i64.bits 1).toNat : Int)) == 0) = !a.testBit k := by
  have e : (a : Int).fdiv (2 ^ (min (k : Int).toNat IntKind.i64.bits)) = ((a / 2 ^ k : Nat) : Int) := by
    rw [Int.toNat_natCast, show min k IntKind.i64.bits = k from Nat.min_eq_left (by show k ≤ 64; omega), Int.fdiv_eq_ediv_of_nonneg _ (Int.pow_nonneg (by decide))]
    simp
  have h1 : a / 2 ^ k ≤ a := Nat.div_le_self _ _
  rw [e, bvand_i64 ⟨Int.natCast_nonneg _, by omega⟩ ⟨by decide, by decide⟩, Int.toNat_natCast, show (1 : Int).toNat = 1 from rfl, and1]
  rw [wrap_i64 (by omega) (by omega), cast_beq0]
  rw [Nat.testBit_eq_decide_div_mod_eq]
  have := Nat.mod_two_eq_zero_or_one (a / 2 ^ k)
  rcases this with h | h <;> simp [h]

theorem popn_lt {n u k : Nat} (hn : n ≤ 64) (hu : u < 2 ^ n) (hk : k < n) (hb : u.testBit k = false) : popn 64 u < n := by
  rw [popn_eq]
  have e : cnt u.testBit 64 = cnt u.testBit n := by
    obtain ⟨d, hd⟩ := Nat.exists_eq_add_of_le hn
    rw [hd, cnt_add, cnt_false (f := fun i => u.testBit (n + i)), Nat.add_zero]
    intro i _
    exact Nat.testBit_lt_two_pow (Nat.lt_of_lt_of_le hu (two_pow_le (Nat.le_add_right _ _)))
  rw [e]
  have h1 := cnt_le u.testBit n
  rcases Nat.lt_or_ge (cnt u.testBit n) n with h | h
  · exact h
  · have := cnt_all.1 (Nat.le_antisymm h1 h) k hk
    rw [hb] at this; cases this

theorem or_lt_gt {u k : Nat} (h : u.testBit k = false) : u < u ||| 2 ^ k := by
  have h1 : u ≤ u ||| 2 ^ k := Nat.left_le_or
  rcases Nat.lt_or_ge u (u ||| 2 ^ k) with h2 | h2
  · exact h2
  · have e : u ||| 2 ^ k = u := Nat.le_antisymm h2 h1
    have : (u ||| 2 ^ k).testBit k = true := by simp [Nat.testBit_or]
    rw [e, h] at this; cases this

def costAt (m : List (List Int)) (i k : Nat) : Int := (m.getD i []).getD k 0
def aEdge (m : List (List Int)) (u k : Nat) : List Edge := if u.testBit k = true then [] else [⟨u, u ||| 2 ^ k, costAt m (popn 64 u) k, some ((k : Int), (u : Int))⟩]
def aOut (m : List (List Int)) (n u : Nat) : List Edge := (List.range n).flatMap (aEdge m u)
def aEdges (m : List (List Int)) (n N : Nat) : List Edge := (List.range N).flatMap (aOut m n)
def aTable (m : List (List Int)) : List Cell := (aEdges m m.length (2 ^ m.length)).foldl stepE (startT (2 ^ m.length))

theorem flat_sorted {f : Nat → List Edge} (hf : ∀ u, ∀ e ∈ f u, e.u = u) : ∀ N, ((List.range N).flatMap f).Pairwise (fun a b : Edge => a.u ≤ b.u)
  | 0 => by simp
  | N + 1 => by
    rw [List.range_succ, List.flatMap_append]
    refine List.pairwise_append.2 ⟨flat_sorted hf N, ?_, fun a ha b hb => ?_⟩
    · simp only [List.flatMap_cons, List.flatMap_nil, List.append_nil]
      refine List.pairwise_of_forall_mem_list fun a ha b hb => ?_
      rw [hf N a ha, hf N b hb]; exact Nat.le_refl _
    · obtain ⟨i, hi, ha⟩ := List.mem_flatMap.1 ha
      simp only [List.flatMap_cons, List.flatMap_nil, List.append_nil] at hb
      rw [hf i a ha, hf N b hb]
      exact Nat.le_of_lt (List.mem_range.1 hi)

/-- What is asked of a square table. -/
structure Sq (m : List (List Int)) : Prop where
  row : ∀ r ∈ m, r.length = m.length
  cell : ∀ r ∈ m, ∀ c ∈ r, -2147483648 ≤ c ∧ c ≤ 2147483648
theorem Sq.at {m : List (List Int)} (h : Sq m) (i k : Nat) : -2147483648 ≤ costAt m i k ∧ costAt m i k ≤ 2147483648 := by
  unfold costAt
  by_cases hi : i < m.length
  · rw [getD_eq hi]
    by_cases hk : k < m[i].length
    · rw [getD_eq hk]; exact h.cell _ (List.getElem_mem hi) _ (List.getElem_mem hk)
    · rw [List.getD_eq_getElem?_getD, List.getElem?_eq_none_iff.2 (by omega)]; exact ⟨by decide, by decide⟩
  · rw [List.getD_eq_getElem?_getD (l := m), List.getElem?_eq_none_iff.2 (by omega)]; simp

theorem aEdge_mem {m : List (List Int)} {u k : Nat} {e : Edge} (h : e ∈ aEdge m u k) : u.testBit k = false ∧ e = ⟨u, u ||| 2 ^ k, costAt m (popn 64 u) k, some ((k : Int), (u : Int))⟩ := by
  unfold aEdge at h
  split at h
  · cases h
  · rename_i hb
    exact ⟨by simpa using hb, by simpa using h⟩
theorem aOut_mem {m : List (List Int)} {n u : Nat} {e : Edge} (h : e ∈ aOut m n u) : ∃ k, k < n ∧ u.testBit k = false ∧ e = ⟨u, u ||| 2 ^ k, costAt m (popn 64 u) k, some ((k : Int), (u : Int))⟩ := by
  obtain ⟨k, hk, h⟩ := List.mem_flatMap.1 h
  exact ⟨k, List.mem_range.1 hk, aEdge_mem h⟩
theorem aEdges_mem {m : List (List Int)} {n N : Nat} {e : Edge} : e ∈ aEdges m n N ↔ ∃ u k, u < N ∧ k < n ∧ u.testBit k = false ∧ e = ⟨u, u ||| 2 ^ k, costAt m (popn 64 u) k, some ((k : Int), (u : Int))⟩ := by
  constructor
  · intro h
    obtain ⟨u, hu, h⟩ := List.mem_flatMap.1 h
    obtain ⟨k, h⟩ := aOut_mem h
    exact ⟨u, k, List.mem_range.1 hu, h⟩
  · rintro ⟨u, k, hu, hk, hb, rfl⟩
    refine List.mem_flatMap.2 ⟨u, List.mem_range.2 hu, List.mem_flatMap.2 ⟨k, List.mem_range.2 hk, ?_⟩⟩
    unfold aEdge; rw [if_neg (by simp [hb])]; simp
theorem aEdges_ok {m : List (List Int)} (hm : Sq m) (n : Nat) : EdgesOk (2 ^ n) (aEdges m n (2 ^ n)) := by
  refine ⟨flat_sorted (fun u e he => by obtain ⟨k, _, _, rfl⟩ := aOut_mem he; rfl) _, fun e he => ?_⟩
  obtain ⟨u, k, hu, hk, hb, rfl⟩ := aEdges_mem.1 he
  exact ⟨or_lt_gt hb, Nat.or_lt_two_pow hu (Nat.pow_lt_pow_right (by decide) hk), hm.at _ _⟩
theorem aTable_good {m : List (List Int)} (hm : Sq m) : Good (startT (2 ^ m.length)) (aEdges m m.length (2 ^ m.length)) (aTable m) := by
  have h := (start_good (2 ^ m.length)).fold (aEdges m m.length (2 ^ m.length)) (by rw [startT_length]; exact aEdges_ok hm _)
  rw [List.nil_append] at h
  exact h
theorem aTable_length (m : List (List Int)) (hm : Sq m) : (aTable m).length = 2 ^ m.length := by rw [(aTable_good hm).len, startT_length]
theorem aTable_back {m : List (List Int)} (hm : Sq m) : Back (aTable m) :=
  (aTable_good hm).back (start_back (Nat.pow_pos (by decide))) (by rw [startT_length]; exact aEdges_ok hm _) fun e he => by
    obtain ⟨u, k, _, _, _, rfl⟩ := aEdges_mem.1 he
    exact .inr ⟨_, rfl⟩

/-- All that were gone out from are there, and the next one. -/
theorem a_there {m : List (List Int)} {n N : Nat} {E : List Edge} {t : List Cell} (hN : 0 < N) (g : Good (startT N) E t) {u : Nat} (hsub : ∀ e ∈ aEdges m n u, e ∈ E) : ∀ x, x ≤ u → x < 2 ^ n → (cat t x).there = true := by
  intro x
  induction x using Nat.strongRecOn with
  | _ x ih =>
    intro hx hn
    by_cases h0 : x = 0
    · subst h0
      exact (g.init 0 (by rw [cat_start hN, if_pos rfl])).1
    · have hl := Nat.log2_self_le h0
      have hlt : x < 2 ^ (x.log2 + 1) := Nat.lt_log2_self
      have hkn : x.log2 < n := by
        rcases Nat.lt_or_ge x.log2 n with h | h
        · exact h
        · have := two_pow_le h; omega
      generalize x.log2 = k at hl hlt hkn
      rw [Nat.pow_succ] at hlt
      obtain ⟨y, rfl⟩ := Nat.exists_eq_add_of_le hl
      have hy : y < 2 ^ k := by omega
      have hpos : 0 < 2 ^ k := Nat.pow_pos (by decide)
      have hb : y.testBit k = false := Nat.testBit_lt_two_pow hy
      have e : y ||| 2 ^ k = 2 ^ k + y := by
        rw [Nat.or_comm]
        have := Nat.two_pow_add_eq_or_of_lt hy 1
        rw [Nat.mul_one] at this
        exact this.symm
      have hy' := ih y (by omega) (by omega) (by omega)
      have := (g.best _ (hsub ⟨y, y ||| 2 ^ k, costAt m (popn 64 y) k, some ((k : Int), (y : Int))⟩ (aEdges_mem.2 ⟨y, k, by omega, hkn, hb, rfl⟩)) hy').1
      rw [← e]; exact this

theorem Valid.sq {x : Ins} (hv : Valid x) : Sq x.cost := ⟨hv.square, hv.cost⟩

theorem OnesCount_spec {x : Nat} (hx : x < 18446744073709551616) : T F.math_bits_OnesCount [.d (du x)] [] = some (.d (di (popn 64 x : Nat)), []) := by
  refine math_bits_OnesCount.tab ?_
  simp only [math_bits_OnesCount.eq, bits_OnesCount_spec hx, onCall_d, onInt_v]
  exact .rfl'

/-- One row of the way: a column that is free. -/
theorem assign_step {x : Ins} (hsq : Sq x.cost) {n N : Nat} (hn : x.cost.length = n) (hn20 : n ≤ 20) (hNN : 2 ^ n = N) {u k q : Nat} (hu : u < N) (hk : k < n) (hq : popn 64 u = q) {t2 : List Cell} (hlen2 : t2.length = N) (hth : u.testBit k = false → (cat t2 u).there = true)
    (hbn : -(2147483648 * ((u : Int) + 1)) ≤ (cat t2 u).cost ∧ (cat t2 u).cost ≤ 2147483648 * ((u : Int) + 1)) {r : Res}
    (hr : Ev' (fun k' => dyn_assignment.l9 T k' (n : Int) N (u : Int) (q : Nat) (N : Int) (u : Int) (n : Int) ((k + 1 : Nat) : Int) x.kind x.cap (encP x.items) (encR x.cost) x.size (encS x.sets) (encC ((aEdge x.cost u k).foldl stepE t2))) r) :
    Ev' (fun k' => dyn_assignment.l9 T (k' + 1) (n : Int) N (u : Int) (q : Nat) (N : Int) (u : Int) (n : Int) (k : Int) x.kind x.cap (encP x.items) (encR x.cost) x.size (encS x.sets) (encC t2)) r := by
  have hN : N ≤ 2 ^ 20 := by rw [← hNN]; exact two_pow_le hn20
  have hu2 : u < t2.length := by omega
  simp only [dyn_assignment.l9_eq, lt_true hk, if_true, if_neg (show ¬ (k : Int) < 0 by omega), bit_i64 (show u < 2 ^ 62 by omega) (show k ≤ 62 by omega), wrap_succ (i := k) (by omega)]
  cases hb : u.testBit k with
  | true =>
    simp only [Bool.not_true, Bool.false_eq_true, if_false]
    simp only [aEdge, hb, if_true, List.foldl_nil] at hr
    exact hr
  | false =>
    simp only [Bool.not_false, if_true]
    simp only [aEdge, hb, Bool.false_eq_true, if_false, List.foldl_cons, List.foldl_nil, hq] at hr
    have hp := popn_lt (u := u) (by omega) (by rw [hNN]; exact hu) hk hb
    rw [hq] at hp
    have hpc : q < x.cost.length := by rw [hn]; exact hp
    have hkr : k < (x.cost[q]'hpc).length := by rw [hsq.row _ (List.getElem_mem hpc), hn]; exact hk
    have hpk : 2 ^ k < 2 ^ 63 := Nat.pow_lt_pow_right (by decide) (by omega)
    have hvN : u ||| 2 ^ k < N := by rw [← hNN]; exact Nat.or_lt_two_pow (by rw [hNN]; exact hu) (Nat.pow_lt_pow_right (by decide) hk)
    have hv2 : u ||| 2 ^ k < t2.length := by rw [hlen2]; exact hvN
    rw [stepE, if_pos (hth hb)] at hr
    have hc := hsq.at q k
    have ec : (x.cost[q]'hpc)[k]'hkr = costAt x.cost q k := by unfold costAt; rw [getD_eq hpc, getD_eq hkr]
    simp only [wrap_shl (c := (k : Int)) (s := k) rfl (by omega), wrap_or (show u < 2 ^ 63 by omega) hpk, onIx_nat hvN, onIx_nat hu, Nat.zero_add, onRow_encC hu2, onRow_encC hv2, onCell_0, onCell_1, onInt_v, onBool_v, encR_length, onIx_nat hpc, onRow_encR hpc, onSl_v, encI_length, onIx_nat hkr, onRow_encI hkr, ec,
      wrap_i64 (x := (cat t2 u).cost + costAt x.cost q k) (by omega) (by omega)]
    have es := encC_set t2 (u ||| 2 ^ k) ⟨(cat t2 u).cost + costAt x.cost q k, true, (k : Int), (u : Int)⟩
    simp only [es]
    exact ev_offer (t := t2) (v := u ||| 2 ^ k) (c := ⟨(cat t2 u).cost + costAt x.cost q k, true, (k : Int), (u : Int)⟩) rfl
      (fun k' H => dyn_assignment.l9 T k' (n : Int) N (u : Int) (q : Nat) (N : Int) (u : Int) (n : Int) ((k + 1 : Nat) : Int) x.kind x.cap (encP x.items) (encR x.cost) x.size (encS x.sets) H) hr

theorem dyn_assignment_spec {x : Ins} (hv : Valid x) {n : Nat} (hn : x.cost.length = n) (hn20 : n ≤ 20) : T F.dyn_assignment [insA x] [] = some (.d (.tup [.sl 3 1 (encI (traceF (aTable x.cost) (2 ^ n) (2 ^ n - 1)).reverse), di (cat (aTable x.cost) (2 ^ n - 1)).cost, db true]), []) := by
  refine dyn_assignment.tab ?_
  have hsq := hv.sq
  have hN : 2 ^ n ≤ 2 ^ 20 := two_pow_le hn20
  have hN0 : 0 < 2 ^ n := Nat.pow_pos (by decide)
  have hN62 : ∀ u, u < 2 ^ n → u < 2 ^ 62 := fun u hu => by omega
  have ew : IntKind.i64.wrap ((1 : Int) * 2 ^ (min ((x.cost.length : Int)).toNat IntKind.i64.bits)) = ((2 ^ n : Nat) : Int) := wrap_shl (by rw [hn]) (by omega)
  have ew' : IntKind.i64.wrap ((1 : Int) * 2 ^ (min x.cost.length IntKind.i64.bits)) = ((2 ^ n : Nat) : Int) := by rw [Int.toNat_natCast] at ew; exact ew
  have hgood := aTable_good hsq
  have hlen := aTable_length x.cost hsq
  have hback := aTable_back hsq
  have hok := aEdges_ok hsq n
  have heT : aTable x.cost = ((List.range (2 ^ n)).flatMap (aOut x.cost n)).foldl stepE (startT (2 ^ n)) := by unfold aTable aEdges; rw [hn]
  rw [hn] at hlen
  have hsub : ∀ u, aEdges x.cost n u = (List.range u).flatMap (aOut x.cost n) := fun _ => rfl
  generalize hNN : 2 ^ n = N at *
  simp only [dyn_assignment.eq, encR_length, if_neg (show ¬ (x.cost.length : Int) < 0 by omega), ew, ew', show (0 : Int) ≤ (N : Int) from Int.natCast_nonneg _, if_true, Int.toNat_natCast, onRoom_of (n := N) (by omega), encC_rep]
  have o0 : ∀ {A : Type} (f : Nat → Option A), onIx 0 N f = f 0 := fun f => onIx_nat (i := 0) hN0 f
  have hl0 : 0 < (List.replicate N noCell).length := by simpa using hN0
  simp only [o0, Nat.zero_add, onRow_encC hl0, encC_set _ _ ⟨0, true, -1, 0⟩]
  have hs0 : (List.replicate N noCell).set 0 ⟨0, true, -1, 0⟩ = startT N := rfl
  rw [hs0]
  refine ev_edges (t0 := startT N) N (aOut x.cost n) (fun k i t => dyn_assignment.l5 T k (x.cost.length : Int) N (N : Int) i x.kind x.cap (encP x.items) (encR x.cost) x.size (encS x.sets) (encC t)) (E := []) (start_good N) (by rw [startT_length, List.nil_append]; exact hok) ?_ ?_
  · intro u hu t' _ g r hr
    have hulen : t'.length = N := by rw [g.len, startT_length]
    have hub : u < 18446744073709551616 := by omega
    simp only [dyn_assignment.l5_eq, lt_true hu, if_true, wrapu_nat hub, OnesCount_spec hub, onCall_d, onInt_v]
    have hok2 : EdgesOk (startT N).length (([] ++ (List.range u).flatMap (aOut x.cost n)) ++ (List.range n).flatMap (aEdge x.cost u)) := by
      rw [startT_length, List.nil_append]
      refine hok.sub ?_
      have e : (List.range u).flatMap (aOut x.cost n) ++ (List.range n).flatMap (aEdge x.cost u) = (List.range (u + 1)).flatMap (aOut x.cost n) := by rw [List.range_succ, List.flatMap_append]; simp [aOut]
      rw [e]
      obtain ⟨d, hd⟩ := Nat.exists_eq_add_of_le (show u + 1 ≤ N from hu)
      show List.Sublist _ (aEdges x.cost n N)
      rw [hsub, hd, show List.range (u + 1 + d) = List.range (u + 1) ++ (List.range d).map (u + 1 + ·) from List.range_add, List.flatMap_append]
      exact List.sublist_append_left _ _
    have en : (x.cost.length : Int) = (n : Int) := by rw [hn]
    rw [en]
    refine ev_edges (t0 := startT N) n (aEdge x.cost u) (fun k i t => dyn_assignment.l9 T k (n : Int) N (u : Int) (popn 64 u : Nat) (N : Int) (u : Int) (n : Int) i x.kind x.cap (encP x.items) (encR x.cost) x.size (encS x.sets) (encC t)) g hok2 ?_ ?_
    · intro k hk t2 _ g3 r hr
      exact assign_step hsq hn hn20 hNN hu hk rfl (by rw [g3.len, startT_length]) (fun _ => a_there (m := x.cost) (n := n) hN0 g3 (u := u) (fun e he => by rw [List.nil_append]; exact List.mem_append_left _ he) u (Nat.le_refl _) (by rw [hNN]; exact hu)) (g3.bnd u) hr
    · intro _
      simp only [dyn_assignment.l9_eq, lt_self, Bool.false_eq_true, if_false, wrap_succ (i := u) (by omega)]
      rw [← en]
      exact hr
  · intro _
    have hla : N - 1 < (aTable x.cost).length := by omega
    have hlN : N - 1 < N := by omega
    have el : IntKind.i64.wrap ((N : Int) - 1) = ((N - 1 : Nat) : Int) := by rw [wrap_i64] <;> omega
    simp only [← heT]
    simp only [dyn_assignment.l5_eq, lt_self, Bool.false_eq_true, if_false, List.drop_zero, el]
    rw [List.take_of_length_le (by rw [encC_length]; omega)]
    rw [dyn_trace_spec (by omega) hback hla]
    simp only [onCall_d, onSl_v, onIx_nat hlN, Nat.zero_add, onRow_encC hla, onCell_0, onInt_v]
    rw [show N - 1 + 1 = N by omega]
    exact .rfl'
end W

open Go Go.Eng
namespace W

def tEdge (m : List (List Int)) (q u last k : Nat) : List Edge := if u.testBit k = true then [] else [⟨q * u + last, q * (u ||| 2 ^ k) + k, costAt m (last + 1) (k + 1), some (((k + 1 : Nat) : Int), ((q * u + last : Nat) : Int))⟩]
def tOut (m : List (List Int)) (q u last : Nat) : List Edge := (List.range q).flatMap (tEdge m q u last)
def tOuts (m : List (List Int)) (q u : Nat) : List Edge := (List.range q).flatMap (tOut m q u)
def tEdges (m : List (List Int)) (q N : Nat) : List Edge := (List.range N).flatMap (tOuts m q)
def tInit (m : List (List Int)) (k : Nat) : Cell := ⟨costAt m 0 (k + 1), true, ((k + 1 : Nat) : Int), -1⟩
def tStart (m : List (List Int)) (q i : Nat) : List Cell := (List.range i).foldl (fun t k => t.set (q * 2 ^ k + k) (tInit m k)) (List.replicate (q * 2 ^ q) noCell)
def tTable (m : List (List Int)) (q : Nat) : List Cell := (tEdges m q (2 ^ q)).foldl stepE (tStart m q q)
theorem tStart_length (m : List (List Int)) (q : Nat) : ∀ i, (tStart m q i).length = q * 2 ^ q
  | 0 => by simp [tStart]
  | i + 1 => by
    have := tStart_length m q i
    unfold tStart at this ⊢
    rw [List.range_succ, List.foldl_append]
    simpa using this
theorem tStart_succ (m : List (List Int)) (q i : Nat) : tStart m q (i + 1) = (tStart m q i).set (q * 2 ^ i + i) (tInit m i) := by
  unfold tStart; rw [List.range_succ, List.foldl_append]; rfl

theorem idx_lt {q u k N : Nat} (hu : u < N) (hk : k < q) : q * u + k < q * N := by
  have : q * (u + 1) ≤ q * N := Nat.mul_le_mul_left q hu
  rw [Nat.mul_succ] at this; omega
theorem idx_inj {q u k u' k' : Nat} (hk : k < q) (hk' : k' < q) (h : q * u + k = q * u' + k') : u = u' ∧ k = k' := by
  have hq : 0 < q := by omega
  have h1 : (q * u + k) / q = u := by rw [Nat.mul_add_div hq, Nat.div_eq_of_lt hk, Nat.add_zero]
  have h2 : (q * u' + k') / q = u' := by rw [Nat.mul_add_div hq, Nat.div_eq_of_lt hk', Nat.add_zero]
  have : u = u' := by rw [← h1, h, h2]
  subst this
  exact ⟨rfl, by omega⟩
theorem tStart_cat (m : List (List Int)) {q : Nat} : ∀ i, i ≤ q → ∀ x, cat (tStart m q i) x = if ∃ k, k < i ∧ x = q * 2 ^ k + k then tInit m (x % q) else noCell
  | 0, _, x => by
    rw [if_neg (fun ⟨k, h, _⟩ => by omega)]
    show cat (List.replicate (q * 2 ^ q) noCell) x = noCell
    exact cat_rep _ _
  | i + 1, hi, x => by
    rw [tStart_succ, cat_set, tStart_cat m i (by omega) x, tStart_length]
    by_cases hx : q * 2 ^ i + i = x
    · have hlt : x < q * 2 ^ q := by rw [← hx]; exact idx_lt (Nat.pow_lt_pow_right (by decide) hi) hi
      have hmod : x % q = i := by rw [← hx, Nat.mul_add_mod, Nat.mod_eq_of_lt hi]
      rw [if_pos ⟨hx, hlt⟩, if_pos ⟨i, by omega, hx.symm⟩, hmod]
    · rw [if_neg (fun h => hx h.1)]
      by_cases h : ∃ k, k < i ∧ x = q * 2 ^ k + k
      · obtain ⟨k, h1, h2⟩ := h
        rw [if_pos ⟨k, h1, h2⟩, if_pos ⟨k, by omega, h2⟩]
      · rw [if_neg h, if_neg]
        rintro ⟨k, h1, h2⟩
        by_cases hk : k = i
        · subst hk; exact hx h2.symm
        · exact h ⟨k, by omega, h2⟩
theorem tStart_good {m : List (List Int)} (hm : Sq m) (q : Nat) : Good (tStart m q q) [] (tStart m q q) := Good.start fun c hc => by
  obtain ⟨i, hi, rfl⟩ := List.getElem_of_mem hc
  have : (tStart m q q)[i] = cat (tStart m q q) i := by unfold cat; rw [getD_eq hi]
  rw [this, tStart_cat m q (Nat.le_refl _)]
  split
  · exact hm.at _ _
  · exact ⟨by decide, by decide⟩

theorem tEdge_mem {m : List (List Int)} {q u last k : Nat} {e : Edge} (h : e ∈ tEdge m q u last k) : u.testBit k = false ∧ e = ⟨q * u + last, q * (u ||| 2 ^ k) + k, costAt m (last + 1) (k + 1), some (((k + 1 : Nat) : Int), ((q * u + last : Nat) : Int))⟩ := by
  unfold tEdge at h
  split at h
  · cases h
  · rename_i hb
    exact ⟨by simpa using hb, by simpa using h⟩
theorem tEdges_mem {m : List (List Int)} {q N : Nat} {e : Edge} : e ∈ tEdges m q N ↔ ∃ u last k, u < N ∧ last < q ∧ k < q ∧ u.testBit k = false ∧ e = ⟨q * u + last, q * (u ||| 2 ^ k) + k, costAt m (last + 1) (k + 1), some (((k + 1 : Nat) : Int), ((q * u + last : Nat) : Int))⟩ := by
  constructor
  · intro h
    obtain ⟨u, hu, h⟩ := List.mem_flatMap.1 h
    obtain ⟨l, hl, h⟩ := List.mem_flatMap.1 h
    obtain ⟨k, hk, h⟩ := List.mem_flatMap.1 h
    exact ⟨u, l, k, List.mem_range.1 hu, List.mem_range.1 hl, List.mem_range.1 hk, tEdge_mem h⟩
  · rintro ⟨u, l, k, hu, hl, hk, hb, rfl⟩
    refine List.mem_flatMap.2 ⟨u, List.mem_range.2 hu, List.mem_flatMap.2 ⟨l, List.mem_range.2 hl, List.mem_flatMap.2 ⟨k, List.mem_range.2 hk, ?_⟩⟩⟩
    unfold tEdge; rw [if_neg (by simp [hb])]; simp
theorem sorted_flat {f : Nat → List Edge} {b : Nat → Nat} (hs : ∀ i, (f i).Pairwise (fun a b : Edge => a.u ≤ b.u)) (hlo : ∀ i, ∀ e ∈ f i, b i ≤ e.u ∧ e.u ≤ b (i + 1)) (hb : ∀ i, b i ≤ b (i + 1)) : ∀ N, ((List.range N).flatMap f).Pairwise (fun a b : Edge => a.u ≤ b.u)
  | 0 => by simp
  | N + 1 => by
    have hmono : ∀ i j, i ≤ j → b i ≤ b j := fun i j h => by
      induction h with
      | refl => exact Nat.le_refl _
      | step _ ih => exact Nat.le_trans ih (hb _)
    rw [List.range_succ, List.flatMap_append]
    refine List.pairwise_append.2 ⟨sorted_flat hs hlo hb N, ?_, fun x hx y hy => ?_⟩
    · simpa using hs N
    · obtain ⟨i, hi, hx⟩ := List.mem_flatMap.1 hx
      simp only [List.flatMap_cons, List.flatMap_nil, List.append_nil] at hy
      have h1 := (hlo i x hx).2
      have h2 := (hlo N y hy).1
      have h3 := hmono (i + 1) N (by have := List.mem_range.1 hi; omega)
      omega
theorem flat_sorted' {f : Nat → List Edge} {c : Nat} (hf : ∀ l, ∀ e ∈ f l, e.u = c + l) (N : Nat) : ((List.range N).flatMap f).Pairwise (fun a b : Edge => a.u ≤ b.u) := by
  refine sorted_flat (b := fun l => c + l) (fun l => ?_) (fun l e he => by rw [hf l e he]; omega) (fun l => by omega) N
  refine List.pairwise_of_forall_mem_list fun a ha b hb => ?_
  rw [hf l a ha, hf l b hb]; exact Nat.le_refl _
theorem tEdges_ok {m : List (List Int)} (hm : Sq m) (q : Nat) : EdgesOk (q * 2 ^ q) (tEdges m q (2 ^ q)) := by
  refine ⟨?_, fun e he => ?_⟩
  · refine sorted_flat (b := fun u => q * u) (fun u => ?_) (fun u e he => ?_) (fun u => by rw [Nat.mul_succ]; omega) _
    · refine flat_sorted' (c := q * u) ?_ q
      intro l e he
      obtain ⟨k, _, h⟩ := List.mem_flatMap.1 he
      rw [(tEdge_mem h).2]
    · obtain ⟨l, hl, he⟩ := List.mem_flatMap.1 he
      obtain ⟨k, _, h⟩ := List.mem_flatMap.1 he
      have hl := List.mem_range.1 hl
      rw [(tEdge_mem h).2, Nat.mul_succ]
      dsimp only; omega
  · obtain ⟨u, l, k, hu, hl, hk, hb, rfl⟩ := tEdges_mem.1 he
    refine ⟨?_, idx_lt (Nat.or_lt_two_pow hu (Nat.pow_lt_pow_right (by decide) hk)) hk, hm.at _ _⟩
    have : q * (u + 1) ≤ q * (u ||| 2 ^ k) := Nat.mul_le_mul_left q (or_lt_gt hb)
    rw [Nat.mul_succ] at this
    dsimp only; omega

theorem tTable_good {m : List (List Int)} (hm : Sq m) (q : Nat) : Good (tStart m q q) (tEdges m q (2 ^ q)) (tTable m q) := by
  have h := (tStart_good hm q).fold (tEdges m q (2 ^ q)) (by rw [tStart_length]; exact tEdges_ok hm _)
  rw [List.nil_append] at h
  exact h

/-- A place ahead, with what it takes to come to its end. -/
def endF (m : List (List Int)) (q : Nat) (t : List Cell) (c : Cell) (l : Nat) : Cell :=
  let at' := q * (2 ^ q - 1) + l
  let n : Cell := ⟨(cat t at').cost + costAt m (l + 1) 0, true, 0, (at' : Int)⟩
  if c.there = false ∨ n.cost < c.cost then n else c
def endC (m : List (List Int)) (q : Nat) (t : List Cell) (i : Nat) : Cell := (List.range i).foldl (endF m q t) noCell
def walkF (t : List Cell) : Nat → Int → List Int
  | 0, _ => []
  | f + 1, a => if 0 ≤ a then (cat t a.toNat).mv :: walkF t f (cat t a.toNat).fr else []
/-- From a place that is there one comes to such as are. -/
def Walk (t : List Cell) : Prop := ∀ x, x < t.length → (cat t x).there = true → (cat t x).fr < 0 ∨ (0 ≤ (cat t x).fr ∧ (cat t x).fr < (x : Int) ∧ (cat t (cat t x).fr.toNat).there = true)
theorem tTable_walk {m : List (List Int)} (hm : Sq m) (q : Nat) : Walk (tTable m q) := by
  intro x hx hth
  have g := tTable_good hm q
  rcases g.way x hth with h | ⟨e, he, h1, h2, h3⟩
  · rw [h] at hth ⊢
    rw [tStart_cat m q (Nat.le_refl _)] at hth ⊢
    split at hth
    · rename_i hc; rw [if_pos hc]; exact .inl (show (-1 : Int) < 0 by decide)
    · cases hth
  · have hlt := ((tEdges_ok hm q).each e he).lt
    obtain ⟨u, l, k, hu, hl, hk, hb, rfl⟩ := tEdges_mem.1 he
    rw [h3]
    simp only [Edge.to] at h2 hlt h1 ⊢
    refine .inr ⟨Int.natCast_nonneg _, by omega, ?_⟩
    rw [Int.toNat_natCast]; exact h2

section
variable {x : Ins} {q N : Nat}
/-- A step on from a place that is there. -/
theorem tour_step (hsq : Sq x.cost) (hn : x.cost.length = q + 1) (hq : q ≤ 15) (hNN : 2 ^ q = N) {u l k : Nat} (hu : u < N) (hl : l < q) (hk : k < q) {t2 : List Cell} (hlen2 : t2.length = q * N)
    {c : Cell} (hc : cat t2 (q * u + l) = c) (hbn : -(2147483648 * (((q * u + l : Nat) : Int) + 1)) ≤ c.cost ∧ c.cost ≤ 2147483648 * (((q * u + l : Nat) : Int) + 1)) {r : Res}
    (hr : Ev' (fun k' => dyn_tour.l18 T k' (q : Int) (q * N) (u : Int) (l : Int) (N : Int) (u : Int) (q : Int) (l : Int) (q : Int) ((k + 1 : Nat) : Int) x.kind x.cap (encP x.items) (encR x.cost) x.size (encS x.sets) (encC ((tEdge x.cost q u l k).foldl stepE t2)) c.cost c.there c.mv c.fr) r) :
    Ev' (fun k' => dyn_tour.l18 T (k' + 1) (q : Int) (q * N) (u : Int) (l : Int) (N : Int) (u : Int) (q : Int) (l : Int) (q : Int) (k : Int) x.kind x.cap (encP x.items) (encR x.cost) x.size (encS x.sets) (encC t2) c.cost c.there c.mv c.fr) r := by
  have hN : N ≤ 2 ^ 15 := by rw [← hNN]; exact two_pow_le hq
  have hqN : q * N ≤ 15 * 2 ^ 15 := Nat.mul_le_mul hq hN
  simp only [dyn_tour.l18_eq, lt_true hk, if_true, if_neg (show ¬ (k : Int) < 0 by omega), bit_i64 (show u < 2 ^ 62 by omega) (show k ≤ 62 by omega), wrap_succ (i := k) (by omega)]
  cases hth : c.there with
  | false =>
    simp only [Bool.false_eq_true, if_false]
    have : (tEdge x.cost q u l k).foldl stepE t2 = t2 := by
      unfold tEdge; split
      · rfl
      · rw [List.foldl_cons, List.foldl_nil, stepE, if_neg (by rw [hc, hth]; simp)]
    rw [this, hth] at hr; exact hr
  | true =>
    simp only [if_true]
    cases hb : u.testBit k with
    | true =>
      simp only [Bool.not_true, Bool.false_eq_true, if_false]
      simp only [tEdge, hb, if_true, List.foldl_nil, hth] at hr
      exact hr
    | false =>
      simp only [Bool.not_false, if_true]
      simp only [tEdge, hb, Bool.false_eq_true, if_false, List.foldl_cons, List.foldl_nil] at hr
      rw [stepE, if_pos (by rw [hc]; exact hth), hth] at hr
      simp only [hc] at hr
      have hpk : 2 ^ k < 2 ^ 63 := Nat.pow_lt_pow_right (by decide) (by omega)
      have hvN : u ||| 2 ^ k < N := by rw [← hNN]; exact Nat.or_lt_two_pow (by rw [hNN]; exact hu) (Nat.pow_lt_pow_right (by decide) hk)
      have hv2 : q * (u ||| 2 ^ k) + k < q * N := idx_lt hvN hk
      have hu2 : q * u + l < q * N := idx_lt hu hl
      have hl1 : l + 1 < x.cost.length := by omega
      have hk1 : k + 1 < (x.cost[l + 1]'hl1).length := by rw [hsq.row _ (List.getElem_mem hl1)]; omega
      have hcc := hsq.at (l + 1) (k + 1)
      have ec : (x.cost[l + 1]'hl1)[k + 1]'hk1 = costAt x.cost (l + 1) (k + 1) := by unfold costAt; rw [getD_eq hl1, getD_eq hk1]
      have ei : IntKind.i64.wrap (IntKind.i64.wrap ((q : Int) * ((u ||| 2 ^ k : Nat) : Int)) + (k : Int)) = ((q * (u ||| 2 ^ k) + k : Nat) : Int) := by
        rw [← Int.natCast_mul]
        generalize q * (u ||| 2 ^ k) = z at hv2
        rw [wrap_i64 (x := (z : Int)) (by omega) (by omega), wrap_i64] <;> omega
      have eu : IntKind.i64.wrap (IntKind.i64.wrap ((q : Int) * (u : Int)) + (l : Int)) = ((q * u + l : Nat) : Int) := by
        rw [← Int.natCast_mul]
        generalize q * u = z at hu2
        rw [wrap_i64 (x := (z : Int)) (by omega) (by omega), wrap_i64] <;> omega
      have hv3 : q * (u ||| 2 ^ k) + k < t2.length := by rw [hlen2]; exact hv2
      simp only [wrap_shl (c := (k : Int)) (s := k) rfl (by omega), wrap_or (show u < 2 ^ 63 by omega) hpk, ei, eu, onIx_nat hv2, wrap_succ (i := l) (by omega), encR_length, onIx_nat hl1, onRow_encR hl1, onCell_0, onSl_v, encI_length, onIx_nat hk1, onRow_encI hk1, onInt_v, ec, Nat.zero_add, onRow_encC hv3, onCell_1, onBool_v,
        wrap_i64 (x := c.cost + costAt x.cost (l + 1) (k + 1)) (by omega) (by omega)]
      have es := encC_set t2 (q * (u ||| 2 ^ k) + k) ⟨c.cost + costAt x.cost (l + 1) (k + 1), true, ((k + 1 : Nat) : Int), ((q * u + l : Nat) : Int)⟩
      simp only [es]
      exact ev_offer (t := t2) (v := q * (u ||| 2 ^ k) + k) (c := ⟨c.cost + costAt x.cost (l + 1) (k + 1), true, ((k + 1 : Nat) : Int), ((q * u + l : Nat) : Int)⟩) rfl
        (fun k' H => dyn_tour.l18 T k' (q : Int) (q * N) (u : Int) (l : Int) (N : Int) (u : Int) (q : Int) (l : Int) (q : Int) ((k + 1 : Nat) : Int) x.kind x.cap (encP x.items) (encR x.cost) x.size (encS x.sets) H c.cost true c.mv c.fr) hr

theorem range_sub {α : Type} (f : Nat → List α) {i n : Nat} (h : i ≤ n) : ((List.range i).flatMap f).Sublist ((List.range n).flatMap f) := by
  obtain ⟨d, rfl⟩ := Nat.exists_eq_add_of_le h
  rw [show List.range (i + d) = List.range i ++ (List.range d).map (i + ·) from List.range_add, List.flatMap_append]
  exact List.sublist_append_left _ _
theorem range_flat_succ {α : Type} (f : Nat → List α) (i : Nat) : (List.range (i + 1)).flatMap f = (List.range i).flatMap f ++ f i := by rw [List.range_succ, List.flatMap_append]; simp

theorem tour_l14 (hsq : Sq x.cost) (hn : x.cost.length = q + 1) (hq : q ≤ 15) (hNN : 2 ^ q = N) {u : Nat} (hu : u < N) {E : List Edge} {t : List Cell} (g : Good (tStart x.cost q q) E t) (hok : EdgesOk (q * N) (E ++ tOuts x.cost q u)) {r : Res}
    (hr : Ev' (fun k' => dyn_tour.l11 T k' (q : Int) (q * N) (N : Int) ((u + 1 : Nat) : Int) x.kind x.cap (encP x.items) (encR x.cost) x.size (encS x.sets) (encC ((tOuts x.cost q u).foldl stepE t))) r) :
    Ev' (fun k' => dyn_tour.l14 T k' (q : Int) (q * N) (u : Int) (N : Int) (u : Int) (q : Int) 0 x.kind x.cap (encP x.items) (encR x.cost) x.size (encS x.sets) (encC t)) r := by
  have hN : N ≤ 2 ^ 15 := by rw [← hNN]; exact two_pow_le hq
  have hqN : q * N ≤ 15 * 2 ^ 15 := Nat.mul_le_mul hq hN
  have hlt0 : (tStart x.cost q q).length = q * N := by rw [tStart_length, hNN]
  refine ev_edges q (tOut x.cost q u) (fun k i t => dyn_tour.l14 T k (q : Int) (q * N) (u : Int) (N : Int) (u : Int) (q : Int) i x.kind x.cap (encP x.items) (encR x.cost) x.size (encS x.sets) (encC t)) g (by rw [hlt0]; exact hok) ?_ ?_
  · intro l hl t1 _ g1 r hr
    have hu2 : q * u + l < q * N := idx_lt hu hl
    have hlen1 : t1.length = q * N := by rw [g1.len, hlt0]
    have hu3 : q * u + l < t1.length := by omega
    have eu : IntKind.i64.wrap (IntKind.i64.wrap ((q : Int) * (u : Int)) + (l : Int)) = ((q * u + l : Nat) : Int) := by
      rw [← Int.natCast_mul]
      generalize q * u = z at hu2
      rw [wrap_i64 (x := (z : Int)) (by omega) (by omega), wrap_i64] <;> omega
    simp only [dyn_tour.l14_eq, lt_true hl, if_true, eu, onIx_nat hu2, Nat.zero_add, onRow_encC hu3, onCell_0, onCell_1, onCell_2, onCell_3, onInt_v, onBool_v]
    have hok1 : EdgesOk (tStart x.cost q q).length ((E ++ (List.range l).flatMap (tOut x.cost q u)) ++ (List.range q).flatMap (tEdge x.cost q u l)) := by
      rw [hlt0]
      refine hok.sub ?_
      rw [List.append_assoc]
      refine List.Sublist.append (List.Sublist.refl _) ?_
      have : (List.range l).flatMap (tOut x.cost q u) ++ (List.range q).flatMap (tEdge x.cost q u l) = (List.range (l + 1)).flatMap (tOut x.cost q u) := (range_flat_succ _ _).symm
      rw [this]
      exact range_sub _ hl
    have hb := g1.bnd (q * u + l)
    generalize hcc : cat t1 (q * u + l) = c at hb
    refine ev_edges q (tEdge x.cost q u l) (fun k i t => dyn_tour.l18 T k (q : Int) (q * N) (u : Int) (l : Int) (N : Int) (u : Int) (q : Int) (l : Int) (q : Int) i x.kind x.cap (encP x.items) (encR x.cost) x.size (encS x.sets) (encC t) c.cost c.there c.mv c.fr) g1 hok1 ?_ ?_
    · intro k hk t2 ht2 g2 r hr
      have hlen2 : t2.length = q * N := by rw [g2.len, hlt0]
      have hc2 : cat t2 (q * u + l) = c := by
        rw [ht2, fold_ne, hcc]
        intro e he
        obtain ⟨k', _, he⟩ := List.mem_flatMap.1 he
        obtain ⟨hbit, rfl⟩ := tEdge_mem he
        have : q * (u + 1) ≤ q * (u ||| 2 ^ k') := Nat.mul_le_mul_left q (or_lt_gt hbit)
        rw [Nat.mul_succ] at this
        dsimp only; omega
      exact tour_step hsq hn hq hNN hu hl hk hlen2 hc2 hb hr
    · intro _
      simp only [dyn_tour.l18_eq, lt_self, Bool.false_eq_true, if_false, wrap_succ (i := l) (by omega)]
      exact hr
  · intro _
    simp only [dyn_tour.l14_eq, lt_self, Bool.false_eq_true, if_false, wrap_succ (i := u) (by omega)]
    exact hr
end
end W

open Go Go.Eng
namespace W

theorem endC_succ (m : List (List Int)) (q : Nat) (t : List Cell) (i : Nat) : endC m q t (i + 1) = endF m q t (endC m q t i) i := by
  unfold endC; rw [List.range_succ, List.foldl_append]; rfl
theorem endC_some {m : List (List Int)} {q : Nat} {t : List Cell} : ∀ i, 0 < i → (∃ l, l < i ∧ endC m q t i = ⟨(cat t (q * (2 ^ q - 1) + l)).cost + costAt m (l + 1) 0, true, 0, ((q * (2 ^ q - 1) + l : Nat) : Int)⟩) ∧ ∀ l, l < i → (endC m q t i).cost ≤ (cat t (q * (2 ^ q - 1) + l)).cost + costAt m (l + 1) 0
  | 0, h => by omega
  | i + 1, _ => by
    rw [endC_succ]
    unfold endF
    dsimp only
    by_cases h0 : i = 0
    · subst h0
      have : endC m q t 0 = noCell := rfl
      rw [this, if_pos (.inl rfl)]
      refine ⟨⟨0, by omega, rfl⟩, fun l hl => ?_⟩
      rw [show l = 0 by omega]; exact Int.le_refl _
    · obtain ⟨⟨l0, hl0, he⟩, hmin⟩ := endC_some (m := m) (q := q) (t := t) i (by omega)
      split
      · rename_i hc
        refine ⟨⟨i, by omega, rfl⟩, fun l hl => ?_⟩
        by_cases hli : l = i
        · subst hli; exact Int.le_refl _
        · have := hmin l (by omega)
          rcases hc with hc | hc
          · rw [he] at hc; cases hc
          · dsimp only at hc ⊢; omega
      · rename_i hc
        refine ⟨⟨l0, by omega, he⟩, fun l hl => ?_⟩
        by_cases hli : l = i
        · subst hli
          simp only [not_or] at hc
          have := hc.2
          omega
        · exact hmin l (by omega)

theorem tour_rev {s : List Int} (hs : s.length ≤ 1073741824) {c m f h00 h01 h04 : Int} {th : Bool} {h02 h03 h05 H1 : Rows} : Ev' (fun k => dyn_tour.l40_1 T k 0 (IntKind.i64.wrap ((s.length : Int) - 1)) h00 h01 h02 h03 h04 h05 H1 c th m f (encI s)) (.d (.tup [.sl 3 1 (encI (0 :: s.reverse)), di c, db true]), []) := by
  rw [wrap_i64 (x := (s.length : Int) - 1) (by omega) (by omega)]
  refine ev_rev (fun k i j l => dyn_tour.l40_1 T k i j h00 h01 h02 h03 h04 h05 H1 c th m f l) s ?_ ?_
  · intro l i j hl hij hi hj r hr
    have hj' : j < (l.set i l[j]).length := by simpa using hj
    simp only [dyn_tour.l40_1_eq, lt_true hij, if_true, encI_length, onIx_nat hi, onIx_nat hj, onRow_encI hi, onRow_encI hj, onCell_0, onInt_v, encI_swap _ i 0, onRow_encI hj', encI_swap _ j 0, wrap_succ (i := i) (by omega), wrap_i64 (x := (j : Int) - 1) (by omega) (by omega)]
    exact hr
  · intro i j hij
    simp only [dyn_tour.l40_1_eq, show decide (i < j) = false from decide_eq_false hij, Bool.false_eq_true, if_false, encI_length, List.length_reverse, onRoom_of (n := 1 + s.length) (by omega)]
    exact .of (by simp [encI])

theorem tour_walk {t : List Cell} {N : Nat} (hlen : t.length = N) (hN : N ≤ 1048576) (hw : Walk t) {c m f0 h00 h01 h04 : Int} {th : Bool} {h02 h03 h05 : Rows} : ∀ (f : Nat) (a : Int) (s : List Int), a < f → (a < 0 ∨ 0 ≤ a ∧ a < N ∧ (cat t a.toNat).there = true) → s.length + f ≤ 1073741824 →
    Ev' (fun k => dyn_tour.l34 T k N a h00 h01 h02 h03 h04 h05 (encC t) c th m f0 (encI s)) (.d (.tup [.sl 3 1 (encI (0 :: (s ++ walkF t f a).reverse)), di c, db true]), []) := by
  intro f
  induction f with
  | zero =>
    intro a s hf ha hs
    refine .step ?_
    simp only [dyn_tour.l34_eq, show decide (a ≥ 0) = false from decide_eq_false (by omega), Bool.false_eq_true, if_false, encI_length, walkF, List.append_nil]
    exact tour_rev (by omega)
  | succ f ih =>
    intro a s hf ha hs
    refine .step ?_
    rw [walkF]
    by_cases h0 : 0 ≤ a
    · have ha' := ha.resolve_left (by omega)
      obtain ⟨b, rfl⟩ := Int.eq_ofNat_of_zero_le h0
      rw [Int.toNat_natCast] at ha' ⊢
      have hb : b < N := by omega
      have hb2 : b < t.length := by omega
      simp only [dyn_tour.l34_eq, show decide ((b : Int) ≥ 0) = true from decide_eq_true h0, if_true, onIx_nat hb, Nat.zero_add, onRow_encC hb2, onCell_2, onCell_3, onInt_v, encI_length, onRoom_of (n := s.length + 1) (by omega), encI_snoc, if_pos h0]
      have hwb := hw b hb2 ha'.2.2
      have := ih (cat t b).fr (s ++ [(cat t b).mv]) (by omega) (by
        rcases hwb with h | ⟨h1, h2, h3⟩
        · exact .inl h
        · exact .inr ⟨h1, by omega, h3⟩) (by simp; omega)
      rw [List.append_assoc, List.singleton_append] at this
      exact this
    · simp only [dyn_tour.l34_eq, show decide (a ≥ 0) = false from decide_eq_false h0, Bool.false_eq_true, if_false, encI_length, if_neg h0, List.append_nil]
      exact tour_rev (by omega)

def tourEnd (m : List (List Int)) (q : Nat) : Cell := endC m q (tTable m q) q
def tourL (m : List (List Int)) (q : Nat) : List Int := if q = 0 then [0] else 0 :: (walkF (tTable m q) ((tourEnd m q).fr.toNat + 1) (tourEnd m q).fr).reverse
def tourC (m : List (List Int)) (q : Nat) : Int := if q = 0 then 0 else (tourEnd m q).cost

theorem tour_l27 {x : Ins} {q N : Nat} (hsq : Sq x.cost) (hn : x.cost.length = q + 1) (hq : 0 < q ∧ q ≤ 15) (hNN : 2 ^ q = N) {t : List Cell} (hlen : t.length = q * N) (hbnd : ∀ x : Nat, -(2147483648 * ((x : Int) + 1)) ≤ (cat t x).cost ∧ (cat t x).cost ≤ 2147483648 * ((x : Int) + 1)) {r : Res}
    (hr : Ev' (fun k => dyn_tour.l34 T k (q * N) (endC x.cost q t q).fr x.kind x.cap (encP x.items) (encR x.cost) x.size (encS x.sets) (encC t) (endC x.cost q t q).cost (endC x.cost q t q).there (endC x.cost q t q).mv (endC x.cost q t q).fr []) r) :
    Ev' (fun k => dyn_tour.l27 T k (q : Int) (q * N) (q : Int) 0 x.kind x.cap (encP x.items) (encR x.cost) x.size (encS x.sets) (encC t) 0 false 0 0) r := by
  have hN : N ≤ 2 ^ 15 := by rw [← hNN]; exact two_pow_le hq.2
  have hN1 : 0 < N := by rw [← hNN]; exact Nat.pow_pos (by decide)
  have hqN : q * N ≤ 15 * 2 ^ 15 := Nat.mul_le_mul hq.2 hN
  have hl : (List.range q).length = q := List.length_range
  have := ev_fold (List.range q) (endF x.cost q t) (fun k i s => dyn_tour.l27 T k (q : Int) (q * N) (q : Int) i x.kind x.cap (encP x.items) (encR x.cost) x.size (encS x.sets) (encC t) s.cost s.there s.mv s.fr) (fun _ _ => True) (s0 := noCell) (r := r) trivial (fun _ _ _ _ => trivial) ?_ ?_
  · exact this
  · intro l h s _ r hr
    rw [List.getElem_range] at hr
    rw [hl] at h
    have hm1 : N - 1 < N := by omega
    have hu2 : q * (N - 1) + l < q * N := idx_lt hm1 h
    have hu3 : q * (N - 1) + l < t.length := by omega
    have e1 : IntKind.i64.wrap (((N : Nat) : Int) - 1) = ((N - 1 : Nat) : Int) := by rw [wrap_i64] <;> omega
    have eu : IntKind.i64.wrap (IntKind.i64.wrap ((q : Int) * ((N - 1 : Nat) : Int)) + (l : Int)) = ((q * (N - 1) + l : Nat) : Int) := by
      rw [← Int.natCast_mul]
      generalize q * (N - 1) = z at hu2
      rw [wrap_i64 (x := (z : Int)) (by omega) (by omega), wrap_i64] <;> omega
    have hl1 : l + 1 < x.cost.length := by omega
    have hk1 : 0 < (x.cost[l + 1]'hl1).length := by rw [hsq.row _ (List.getElem_mem hl1)]; omega
    have hcc := hsq.at (l + 1) 0
    have hb := hbnd (q * (N - 1) + l)
    have ec : (x.cost[l + 1]'hl1)[0]'hk1 = costAt x.cost (l + 1) 0 := by unfold costAt; rw [getD_eq hl1, getD_eq hk1]
    have ew : IntKind.i64.wrap ((1 : Int) * 2 ^ (min ((q : Int)).toNat IntKind.i64.bits)) = ((N : Nat) : Int) := by rw [← hNN]; exact wrap_shl rfl (by omega)
    have o0 : ∀ {A : Type} (f : Nat → Option A), onIx 0 (x.cost[l + 1]'hl1).length f = f 0 := fun f => onIx_nat (i := 0) hk1 f
    simp only [dyn_tour.l27_eq, lt_true h, if_true, if_neg (show ¬ (q : Int) < 0 by omega), ew, e1, eu, onIx_nat hu2, Nat.zero_add, onRow_encC hu3, onCell_0, onInt_v, wrap_succ (i := l) (by omega), encR_length, onIx_nat hl1, onRow_encR hl1, onSl_v, encI_length, o0, onRow_encI hk1, ec,
      wrap_i64 (x := (cat t (q * (N - 1) + l)).cost + costAt x.cost (l + 1) 0) (by omega) (by omega)]
    unfold endF at hr
    rw [hNN] at hr
    dsimp only at hr
    cases hth : s.there with
    | false =>
      rw [if_pos (.inl hth)] at hr
      simp only [Bool.not_false, if_true]
      exact hr
    | true =>
      simp only [Bool.not_true, Bool.false_eq_true, if_false]
      by_cases hlt : (cat t (q * (N - 1) + l)).cost + costAt x.cost (l + 1) 0 < s.cost
      · rw [if_pos (.inr hlt)] at hr
        simp only [hlt, decide_true, if_true]
        exact hr
      · rw [if_neg (by rw [hth]; simp [hlt])] at hr
        simp only [hlt, decide_false, Bool.false_eq_true, if_false]
        rw [hth] at hr
        exact hr
  · intro _
    rw [hl]
    simp only [dyn_tour.l27_eq, lt_self, Bool.false_eq_true, if_false]
    exact hr

theorem dyn_tour_spec {x : Ins} (hv : Valid x) {q : Nat} (hn : x.cost.length = q + 1) (hq : q ≤ 15) (hend : ∀ l, l < q → (cat (tTable x.cost q) (q * (2 ^ q - 1) + l)).there = true) :
    ∃ fl, T F.dyn_tour [insA x] [] = some (.d (.tup [.sl fl 1 (encI (tourL x.cost q)), di (tourC x.cost q), db true]), []) := by
  have e1 : IntKind.i64.wrap ((x.cost.length : Int) - 1) = (q : Int) := by rw [hn, wrap_i64] <;> omega
  by_cases h0 : q = 0
  · subst h0
    refine ⟨0, dyn_tour.tab ?_⟩
    simp only [dyn_tour.eq, encR_length, e1, zero_cast, beq_self_eq_true, if_true]
    exact .rfl'
  refine ⟨3, dyn_tour.tab ?_⟩
  have hsq := hv.sq
  have hN := two_pow_le hq
  have hN1 : 0 < 2 ^ q := Nat.pow_pos (by decide)
  have hg := tTable_good hsq q
  have hwalk := tTable_walk hsq q
  have hok := tEdges_ok hsq q
  have htab : tTable x.cost q = ((List.range (2 ^ q)).flatMap (tOuts x.cost q)).foldl stepE (tStart x.cost q q) := rfl
  have hl0 := tStart_length x.cost q
  have eN : IntKind.i64.wrap ((1 : Int) * 2 ^ (min ((q : Int)).toNat IntKind.i64.bits)) = ((2 ^ q : Nat) : Int) := wrap_shl rfl (by omega)
  have eqN : IntKind.i64.wrap ((q : Int) * 2 ^ (min ((q : Int)).toNat IntKind.i64.bits)) = ((q * 2 ^ q : Nat) : Int) := by
    have : q * 2 ^ q ≤ 15 * 2 ^ 15 := Nat.mul_le_mul hq hN
    rw [shl_i64 rfl (by omega), ← Int.natCast_mul]
    generalize q * 2 ^ q = z at this
    rw [wrap_i64] <;> omega
  have eshift : ∀ k, k < q → IntKind.i64.wrap (IntKind.i64.wrap ((q : Int) * 2 ^ (min ((k : Int)).toNat IntKind.i64.bits)) + (k : Int)) = ((q * 2 ^ k + k : Nat) : Int) := by
    intro k hk
    have h1 : 2 ^ k ≤ 2 ^ 15 := two_pow_le (by omega)
    have : q * 2 ^ k ≤ 15 * 2 ^ 15 := Nat.mul_le_mul hq h1
    rw [shl_i64 rfl (by omega), ← Int.natCast_mul]
    generalize q * 2 ^ k = z at this
    rw [wrap_i64 (x := (z : Int)) (by omega) (by omega), wrap_i64] <;> omega
  have hinit : ∀ k, k < q → q * 2 ^ k + k < q * 2 ^ q := fun k hk => idx_lt (Nat.pow_lt_pow_right (by decide) hk) hk
  have hcells := hg.len
  have hbnd := hg.bnd
  have hqN : q * 2 ^ q ≤ 15 * 2 ^ 15 := Nat.mul_le_mul hq hN
  have hE := endC_some (m := x.cost) (q := q) (t := tTable x.cost q) q (by omega)
  rw [hl0] at hcells
  have htL : tourL x.cost q = 0 :: (walkF (tTable x.cost q) ((endC x.cost q (tTable x.cost q) q).fr.toNat + 1) (endC x.cost q (tTable x.cost q) q).fr).reverse := by unfold tourL; rw [if_neg h0]; rfl
  have htC : tourC x.cost q = (endC x.cost q (tTable x.cost q) q).cost := by unfold tourC; rw [if_neg h0]; rfl
  rw [htL, htC]
  obtain ⟨⟨l0, hl0q, hend0⟩, _⟩ := hE
  have hthere := hend l0 hl0q
  have hidx : q * (2 ^ q - 1) + l0 < q * 2 ^ q := idx_lt (by omega) hl0q
  generalize hNN : 2 ^ q = N at *
  simp only [dyn_tour.eq, encR_length, e1, show ((q : Int) == 0) = false from by rw [beq_eq_false_iff_ne]; omega, Bool.false_eq_true, if_false, if_neg (show ¬ (q : Int) < 0 by omega), eqN, show (0 : Int) ≤ ((q * N : Nat) : Int) from Int.natCast_nonneg _, if_true]
  rw [Int.toNat_natCast (q * N)]
  simp only [onRoom_of (n := q * N) (by omega), encC_rep]
  -- the first places
  have hl : (List.range q).length = q := List.length_range
  have hstart0 : tStart x.cost q 0 = List.replicate (q * N) noCell := by unfold tStart; rw [hNN]; rfl
  rw [← hstart0]
  have := ev_fold (List.range q) (fun t k => t.set (q * 2 ^ k + k) (tInit x.cost k)) (fun k i t => dyn_tour.l6 T k (q : Int) (q * N) (q : Int) i x.kind x.cap (encP x.items) (encR x.cost) x.size (encS x.sets) (encC t)) (fun i t => t = tStart x.cost q i) (s0 := tStart x.cost q 0)
    (r := (.d (.tup [.sl 3 1 (encI (0 :: (walkF (tTable x.cost q) ((endC x.cost q (tTable x.cost q) q).fr.toNat + 1) (endC x.cost q (tTable x.cost q) q).fr).reverse)), di (endC x.cost q (tTable x.cost q) q).cost, db true]), [])) rfl ?_ ?_ ?_
  · exact this
  · intro i h s hs
    rw [List.getElem_range, hs, ← tStart_succ]
  · intro k h s hs r hr
    rw [List.getElem_range] at hr
    rw [hl] at h
    have hi1 := hinit k h
    have hsl : s.length = q * N := by rw [hs]; exact hl0 k
    have hi2 : q * 2 ^ k + k < s.length := by omega
    have hx0 : 0 < x.cost.length := by omega
    have hk1 : k + 1 < (x.cost[0]'hx0).length := by rw [hsq.row _ (List.getElem_mem hx0)]; omega
    have o0 : ∀ {A : Type} (f : Nat → Option A), onIx 0 x.cost.length f = f 0 := fun f => onIx_nat (i := 0) hx0 f
    have ec : (x.cost[0]'hx0)[k + 1]'hk1 = costAt x.cost 0 (k + 1) := by unfold costAt; rw [getD_eq hx0, getD_eq hk1]
    have es := encC_set s (q * 2 ^ k + k) (tInit x.cost k)
    simp only [tInit] at es hr
    simp only [dyn_tour.l6_eq, lt_true h, if_true, if_neg (show ¬ (k : Int) < 0 by omega), encR_length, o0, onRow_encR hx0, onCell_0, onSl_v, wrap_succ (i := k) (by omega), encI_length, onIx_nat hk1, onRow_encI hk1, onInt_v, ec, eshift k h, onIx_nat hi1, Nat.zero_add, onRow_encC hi2, es]
    exact hr
  · intro hs
    rw [hs, hl]
    simp only [dyn_tour.l6_eq, lt_self, Bool.false_eq_true, if_false, if_neg (show ¬ (q : Int) < 0 by omega), eN]
    refine ev_edges (t0 := tStart x.cost q q) N (tOuts x.cost q) (fun k i t => dyn_tour.l11 T k (q : Int) (q * N) (N : Int) i x.kind x.cap (encP x.items) (encR x.cost) x.size (encS x.sets) (encC t)) (tStart_good hsq q) (by rw [hl0, List.nil_append]; exact hok) ?_ ?_
    · intro u hu t' _ g r hr
      simp only [dyn_tour.l11_eq, lt_true hu, if_true]
      refine tour_l14 hsq hn hq hNN hu g ?_ hr
      rw [List.nil_append]
      refine hok.sub ?_
      rw [← range_flat_succ]
      exact range_sub _ hu
    · intro _
      rw [← htab]
      simp only [dyn_tour.l11_eq, lt_self, Bool.false_eq_true, if_false]
      refine tour_l27 hsq hn ⟨by omega, hq⟩ hNN hcells hbnd ?_
      rw [hend0]
      dsimp only
      have := tour_walk (t := tTable x.cost q) (N := q * N) hcells (by omega) hwalk (c := (cat (tTable x.cost q) (q * (N - 1) + l0)).cost + costAt x.cost (l0 + 1) 0) (m := 0) (f0 := ((q * (N - 1) + l0 : Nat) : Int)) (h00 := x.kind) (h01 := x.cap) (h04 := x.size) (th := true) (h02 := encP x.items) (h03 := encR x.cost) (h05 := encS x.sets)
        ((q * (N - 1) + l0) + 1) ((q * (N - 1) + l0 : Nat) : Int) [] (by omega) (.inr ⟨Int.natCast_nonneg _, by omega, by rw [Int.toNat_natCast]; exact hthere⟩) (by simp; omega)
      rw [Int.toNat_natCast]
      exact this
end W

open Go Go.Eng
namespace W

abbrev CSet := Int × List Int
def setAt (sets : List CSet) (k : Nat) : CSet := sets.getD k (0, [])
def cEdge (sets : List CSet) (z k h : Nat) : List Edge := [⟨k * z + h, k * z + h + z, 0, none⟩, ⟨k * z + h, (k + 1) * z + (h ||| elemsOf (setAt sets k).2), (setAt sets k).1, some ((k : Int), ((k * z + h : Nat) : Int))⟩]
def cOut (sets : List CSet) (z k : Nat) : List Edge := (List.range z).flatMap (cEdge sets z k)
def cEdges (sets : List CSet) (z N : Nat) : List Edge := (List.range N).flatMap (cOut sets z)
def cTable (sets : List CSet) (z : Nat) : List Cell := (cEdges sets z sets.length).foldl stepE (startT ((sets.length + 1) * z))

structure SetsOk (sets : List CSet) (s : Nat) : Prop where
  cost : ∀ y ∈ sets, 0 ≤ y.1 ∧ y.1 ≤ 2147483648
  elem : ∀ y ∈ sets, ∀ e ∈ y.2, 0 ≤ e ∧ e < (s : Int)
theorem SetsOk.at {sets : List CSet} {s : Nat} (h : SetsOk sets s) (k : Nat) : (0 ≤ (setAt sets k).1 ∧ (setAt sets k).1 ≤ 2147483648) ∧ ∀ e ∈ (setAt sets k).2, 0 ≤ e ∧ e < (s : Int) := by
  unfold setAt
  by_cases hk : k < sets.length
  · rw [getD_eq hk]; exact ⟨h.cost _ (List.getElem_mem hk), h.elem _ (List.getElem_mem hk)⟩
  · rw [List.getD_eq_getElem?_getD, List.getElem?_eq_none_iff.2 (by omega)]; simp
theorem SetsOk.lt {sets : List CSet} {s : Nat} (h : SetsOk sets s) (k : Nat) : elemsOf (setAt sets k).2 < 2 ^ s := elems_lt _ _ (Nat.pow_pos (by decide)) (h.at k).2
theorem or_lt' {sets : List CSet} {s : Nat} (h : SetsOk sets s) (k : Nat) {a : Nat} (ha : a < 2 ^ s) : a ||| elemsOf (setAt sets k).2 < 2 ^ s := Nat.or_lt_two_pow ha (h.lt k)

theorem cEdge_mem {sets : List CSet} {z k h : Nat} {e : Edge} (he : e ∈ cEdge sets z k h) : e.u = k * z + h ∧ (e = ⟨k * z + h, k * z + h + z, 0, none⟩ ∨ e = ⟨k * z + h, (k + 1) * z + (h ||| elemsOf (setAt sets k).2), (setAt sets k).1, some ((k : Int), ((k * z + h : Nat) : Int))⟩) := by
  simp only [cEdge, List.mem_cons, List.not_mem_nil, or_false] at he
  rcases he with rfl | rfl
  · exact ⟨rfl, .inl rfl⟩
  · exact ⟨rfl, .inr rfl⟩
theorem cEdges_mem {sets : List CSet} {z N : Nat} {e : Edge} : e ∈ cEdges sets z N ↔ ∃ k h, k < N ∧ h < z ∧ e ∈ cEdge sets z k h := by
  constructor
  · intro h
    obtain ⟨k, hk, h⟩ := List.mem_flatMap.1 h
    obtain ⟨a, ha, h⟩ := List.mem_flatMap.1 h
    exact ⟨k, a, List.mem_range.1 hk, List.mem_range.1 ha, h⟩
  · rintro ⟨k, a, hk, ha, h⟩
    exact List.mem_flatMap.2 ⟨k, List.mem_range.2 hk, List.mem_flatMap.2 ⟨a, List.mem_range.2 ha, h⟩⟩
theorem cidx_lt {z k a M : Nat} (hk : k < M) (ha : a < z) : k * z + a < M * z := by
  rw [Nat.mul_comm k, Nat.mul_comm M]; exact idx_lt hk ha
theorem cEdges_ok {sets : List CSet} {s : Nat} (hs : SetsOk sets s) : EdgesOk ((sets.length + 1) * 2 ^ s) (cEdges sets (2 ^ s) sets.length) := by
  have hz : 0 < 2 ^ s := Nat.pow_pos (by decide)
  refine ⟨?_, fun e he => ?_⟩
  · refine sorted_flat (b := fun k => k * 2 ^ s) (fun k => ?_) (fun k e he => ?_) (fun k => by rw [Nat.succ_mul]; omega) _
    · exact flat_sorted' (c := k * 2 ^ s) (fun l e he => (cEdge_mem he).1) _
    · obtain ⟨a, ha, he⟩ := List.mem_flatMap.1 he
      have := List.mem_range.1 ha
      rw [(cEdge_mem he).1, Nat.succ_mul]; omega
  · obtain ⟨k, a, hk, ha, he⟩ := cEdges_mem.1 he
    rcases (cEdge_mem he).2 with rfl | rfl
    · refine ⟨by dsimp only; omega, ?_, show (-2147483648 : Int) ≤ 0 by decide, show (0 : Int) ≤ 2147483648 by decide⟩
      have := cidx_lt (M := sets.length + 1) (show k + 1 < sets.length + 1 by omega) ha
      rw [Nat.succ_mul] at this
      dsimp only; omega
    · refine ⟨?_, cidx_lt (by omega) (or_lt' hs k ha), ?_⟩
      · dsimp only; rw [Nat.succ_mul]; omega
      · have := (hs.at k).1; dsimp only; omega
theorem cTable_good {sets : List CSet} {s : Nat} (hs : SetsOk sets s) : Good (startT ((sets.length + 1) * 2 ^ s)) (cEdges sets (2 ^ s) sets.length) (cTable sets (2 ^ s)) := by
  have h := (start_good ((sets.length + 1) * 2 ^ s)).fold (cEdges sets (2 ^ s) sets.length) (by rw [startT_length]; exact cEdges_ok hs)
  rw [List.nil_append] at h
  exact h
theorem cTable_back {sets : List CSet} {s : Nat} (hs : SetsOk sets s) : Back (cTable sets (2 ^ s)) :=
  (cTable_good hs).back (start_back (Nat.mul_pos (by omega) (Nat.pow_pos (by decide)))) (by rw [startT_length]; exact cEdges_ok hs) fun e he => by
    obtain ⟨k, a, _, _, he⟩ := cEdges_mem.1 he
    rcases (cEdge_mem he).2 with rfl | rfl
    · exact .inl rfl
    · exact .inr ⟨_, rfl⟩

section
variable {x : Ins} {z N : Nat}
theorem cover_step {s : Nat} (hs : SetsOk x.sets s) (hz : 2 ^ s = z) (hN : (x.sets.length + 1) * z = N) (hN20 : N ≤ 1048576) {k a : Nat} (hk : k < x.sets.length) (ha : a < z) {t2 : List Cell} (hlen : t2.length = N)
    (hbn : -(2147483648 * (((k * z + a : Nat) : Int) + 1)) ≤ (cat t2 (k * z + a)).cost ∧ (cat t2 (k * z + a)).cost ≤ 2147483648 * (((k * z + a : Nat) : Int) + 1)) {r : Res}
    (hr : Ev' (fun k' => dyn_cover.l9 T k' (z : Int) N (k : Int) (elemsOf (setAt x.sets k).2 : Nat) (encS x.sets) (x.sets.length : Int) (k : Int) (z : Int) ((a + 1 : Nat) : Int) x.kind x.cap (encP x.items) (encR x.cost) x.size (encS x.sets) (encC ((cEdge x.sets z k a).foldl stepE t2)) (setAt x.sets k).1 (encI (setAt x.sets k).2)) r) :
    Ev' (fun k' => dyn_cover.l9 T (k' + 1) (z : Int) N (k : Int) (elemsOf (setAt x.sets k).2 : Nat) (encS x.sets) (x.sets.length : Int) (k : Int) (z : Int) (a : Int) x.kind x.cap (encP x.items) (encR x.cost) x.size (encS x.sets) (encC t2) (setAt x.sets k).1 (encI (setAt x.sets k).2)) r := by
  have hcost := (hs.at k).1
  have hm := hs.lt k
  have hor := or_lt' hs k (a := a) (by rw [hz]; exact ha)
  rw [hz] at hm hor
  unfold cEdge at hr
  generalize elemsOf (setAt x.sets k).2 = m at hm hor hr
  generalize (setAt x.sets k).1 = w at hcost hr
  generalize encI (setAt x.sets k).2 = el at hr
  have hzN : z ≤ N := by rw [← hN]; exact Nat.le_mul_of_pos_left _ (by omega)
  have hSN : x.sets.length + 1 ≤ N := by rw [← hN]; exact Nat.le_mul_of_pos_right _ (by omega)
  have h1 : k * z + a < N := by rw [← hN]; exact cidx_lt (by omega) ha
  have h2 : (k + 1) * z + (a ||| m) < N := by rw [← hN]; exact cidx_lt (by omega) hor
  have h3 : k * z + a + z < N := by
    have := cidx_lt (M := x.sets.length + 1) (show k + 1 < x.sets.length + 1 by omega) ha
    rw [Nat.succ_mul] at this
    omega
  have e1 : IntKind.i64.wrap (IntKind.i64.wrap ((k : Int) * (z : Int)) + (a : Int)) = ((k * z + a : Nat) : Int) := by
    rw [← Int.natCast_mul]
    generalize k * z = y at h1
    rw [wrap_i64 (x := (y : Int)) (by omega) (by omega), wrap_i64] <;> omega
  have e2 : IntKind.i64.wrap (((k * z + a : Nat) : Int) + (z : Int)) = ((k * z + a + z : Nat) : Int) := by
    generalize k * z = y at h1 h3
    rw [wrap_i64] <;> omega
  have e3 : IntKind.i64.wrap (IntKind.i64.wrap (((k + 1 : Nat) : Int) * (z : Int)) + ((a ||| m : Nat) : Int)) = (((k + 1) * z + (a ||| m) : Nat) : Int) := by
    rw [← Int.natCast_mul]
    generalize (k + 1) * z = y at h2
    rw [wrap_i64 (x := (y : Int)) (by omega) (by omega), wrap_i64] <;> omega
  have eo := wrap_or (a := a) (b := m) (by omega) (by omega)
  simp only [dyn_cover.l9_eq, lt_true ha, if_true, e1, onIx_nat h1, Nat.zero_add, onRow_encC (show k * z + a < t2.length by omega), onCell_0, onCell_1, onCell_2, onCell_3, onInt_v, onBool_v, wrap_succ (i := a) (by omega), wrap_succ (i := k) (by omega), e2, e3, eo, onIx_nat h3, onIx_nat h2, onRow_encC (show k * z + a + z < t2.length by omega)]
  have hne1 : k * z + a + z ≠ k * z + a := by omega
  simp only [List.foldl_cons, List.foldl_nil] at hr
  generalize hv1 : k * z + a + z = v1 at *
  generalize hv2 : (k + 1) * z + (a ||| m) = v2 at *
  generalize hu : k * z + a = u at *
  generalize hc : cat t2 u = c at *
  cases hth : c.there with
  | false =>
    simp only [Bool.false_eq_true, if_false]
    have s1 : stepE t2 ⟨u, v1, 0, none⟩ = t2 := by unfold stepE; rw [if_neg (by rw [hc, hth]; simp)]
    have s2 : ∀ e : Edge, e.u = u → stepE t2 e = t2 := fun e he => by unfold stepE; rw [he, if_neg (by rw [hc, hth]; simp)]
    rw [s1, s2 _ rfl] at hr
    exact hr
  | true =>
    simp only [if_true]
    have s1 : stepE t2 ⟨u, v1, 0, none⟩ = offer t2 v1 ⟨c.cost, true, c.mv, c.fr⟩ := by unfold stepE; rw [if_pos (by rw [hc]; exact hth)]; simp [Edge.to, hc]
    have hcu : cat (offer t2 v1 ⟨c.cost, true, c.mv, c.fr⟩) u = c := by rw [offer_ne hne1, hc]
    rw [s1] at hr
    have s2 : stepE (offer t2 v1 ⟨c.cost, true, c.mv, c.fr⟩) ⟨u, v2, w, some ((k : Int), (u : Int))⟩ = offer (offer t2 v1 ⟨c.cost, true, c.mv, c.fr⟩) v2 ⟨c.cost + w, true, (k : Int), (u : Int)⟩ := by unfold stepE; rw [if_pos (by rw [hcu]; exact hth)]; simp [Edge.to, hcu]
    rw [s2] at hr
    have ew : IntKind.i64.wrap (c.cost + w) = c.cost + w := wrap_i64 (by omega) (by omega)
    have es1 : ∀ x0 x1 x2 x3, (encC t2).set v1 (splice [x0, x1, x2, x3] 0 [di c.cost, db true, di c.mv, di c.fr]) = encC (t2.set v1 ⟨c.cost, true, c.mv, c.fr⟩) := fun x0 x1 x2 x3 => encC_set t2 v1 ⟨c.cost, true, c.mv, c.fr⟩ x0 x1 x2 x3
    simp only [ew, es1]
    have l1 : v2 < t2.length := by omega
    have l2 : v2 < (t2.set v1 ⟨c.cost, true, c.mv, c.fr⟩).length := by rw [List.length_set]; exact l1
    -- the second offer
    have fin : ∀ t3 : List Cell, (∀ x0 x1 x2 x3, (encC t3).set v2 (splice [x0, x1, x2, x3] 0 [di (c.cost + w), db true, di (k : Int), di (u : Int)]) = encC (t3.set v2 ⟨c.cost + w, true, (k : Int), (u : Int)⟩)) := fun t3 x0 x1 x2 x3 => encC_set t3 v2 ⟨c.cost + w, true, (k : Int), (u : Int)⟩ x0 x1 x2 x3
    simp only [onRow_encC l1, onRow_encC l2, onCell_1, onCell_0, onBool_v, onInt_v, fin]
    have G := fun t3 hr => ev_offer (t := t3) (v := v2) (c := ⟨c.cost + w, true, (k : Int), (u : Int)⟩) rfl (fun k' H => dyn_cover.l9 T k' (z : Int) N (k : Int) (m : Nat) (encS x.sets) (x.sets.length : Int) (k : Int) (z : Int) ((a + 1 : Nat) : Int) x.kind x.cap (encP x.items) (encR x.cost) x.size (encS x.sets) H w el) (r := r) hr
    cases ht1 : (cat t2 v1).there with
    | false =>
      have so : offer t2 v1 ⟨c.cost, true, c.mv, c.fr⟩ = t2.set v1 ⟨c.cost, true, c.mv, c.fr⟩ := if_pos (.inl ht1)
      rw [so] at hr
      simp only [Bool.not_false, if_true]
      exact G _ hr
    | true =>
      simp only [Bool.not_true, Bool.false_eq_true, if_false]
      by_cases hlt : c.cost < (cat t2 v1).cost
      · have so : offer t2 v1 ⟨c.cost, true, c.mv, c.fr⟩ = t2.set v1 ⟨c.cost, true, c.mv, c.fr⟩ := if_pos (.inr hlt)
        rw [so] at hr
        simp only [hlt, decide_true, if_true]
        exact G _ hr
      · have so : offer t2 v1 ⟨c.cost, true, c.mv, c.fr⟩ = t2 := if_neg (by rw [ht1]; simpa using hlt)
        rw [so] at hr
        simp only [hlt, decide_false, Bool.false_eq_true, if_false]
        exact G _ hr
end

def coverRes (sets : List CSet) (z : Nat) : DVal :=
  if (cat (cTable sets z) ((sets.length + 1) * z - 1)).there = true then .tup [.sl 3 1 (encI (traceF (cTable sets z) ((sets.length + 1) * z) ((sets.length + 1) * z - 1)).reverse), di (cat (cTable sets z) ((sets.length + 1) * z - 1)).cost, db true]
  else .tup [.v (.slice none 0 0), di 0, db false]
theorem Valid.setsOk {x : Ins} (hv : Valid x) : SetsOk x.sets x.size.toNat := ⟨fun y hy => (hv.set y hy).1, fun y hy e he => by
  have := rising_mem (hv.set y hy).2 e he
  omega⟩

theorem dyn_cover_spec {x : Ins} (hx : x.Fits) (hv : Valid x) {s N : Nat} (hs : x.size = (s : Int)) (hs20 : s ≤ 20) (hN : (x.sets.length + 1) * 2 ^ s = N) (hN20 : N ≤ 1048576) : T F.dyn_cover [insA x] [] = some (.d (coverRes x.sets (2 ^ s)), []) := by
  refine dyn_cover.tab ?_
  have hok : SetsOk x.sets s := by have := hv.setsOk; rw [hs] at this; exact this
  have hz0 : 0 < 2 ^ s := Nat.pow_pos (by decide)
  have hsl := hv.sets
  have eS : IntKind.i64.wrap ((x.sets.length : Int) + 1) = ((x.sets.length + 1 : Nat) : Int) := wrap_succ (by omega)
  have ez : IntKind.i64.wrap ((1 : Int) * 2 ^ (min (x.size).toNat IntKind.i64.bits)) = ((2 ^ s : Nat) : Int) := wrap_shl hs (by omega)
  have hN0 : 0 < N := by rw [← hN]; exact Nat.mul_pos (by omega) hz0
  have eN : IntKind.i64.wrap (((x.sets.length + 1 : Nat) : Int) * ((2 ^ s : Nat) : Int)) = (N : Int) := by rw [← Int.natCast_mul, hN, wrap_i64] <;> omega
  have hgood := cTable_good hok
  have hback := cTable_back hok
  have hedges := cEdges_ok hok
  have htab : cTable x.sets (2 ^ s) = ((List.range x.sets.length).flatMap (cOut x.sets (2 ^ s))).foldl stepE (startT N) := by unfold cTable cEdges; rw [hN]
  have hlen := hgood.len
  rw [startT_length, hN] at hlen
  have o0 : ∀ {A : Type} (f : Nat → Option A), onIx 0 N f = f 0 := fun f => onIx_nat (i := 0) hN0 f
  have hl0 : 0 < (List.replicate N noCell).length := by simpa using hN0
  have hzN : 2 ^ s ≤ N := by rw [← hN]; exact Nat.le_mul_of_pos_left _ (by omega)
  rw [hN] at hedges hgood
  unfold coverRes
  rw [hN]
  have helem : ∀ (i : Nat) (h : i < x.sets.length), T F.dyn_elements [.agg [.d (di (x.sets[i]).1), .d (.sl 3 1 (encI (x.sets[i]).2))]] [] = some (.d (di (elemsOf (x.sets[i]).2 : Nat)), []) := fun i h =>
    dyn_elements_spec (hx.elems _ (List.getElem_mem h)) (n := s) (by omega) (hok.elem _ (List.getElem_mem h))
  have hzz : 2 ^ s = 2 ^ s := rfl
  generalize hz : 2 ^ s = z at *
  simp only [dyn_cover.eq, encS_length, if_neg (show ¬ x.size < 0 by omega), ez, eS, eN, show (0 : Int) ≤ (N : Int) from Int.natCast_nonneg _, if_true, Int.toNat_natCast, onRoom_of (n := N) (by omega), encC_rep, o0, Nat.zero_add, onRow_encC hl0, encC_set _ _ ⟨0, true, -1, 0⟩]
  have hs0 : (List.replicate N noCell).set 0 ⟨0, true, -1, 0⟩ = startT N := rfl
  rw [hs0]
  refine ev_edges (t0 := startT N) x.sets.length (cOut x.sets z) (fun k i t => dyn_cover.l5 T k (z : Int) N (encS x.sets) (x.sets.length : Int) i x.kind x.cap (encP x.items) (encR x.cost) x.size (encS x.sets) (encC t)) (E := []) (start_good N) (by rw [startT_length, List.nil_append]; exact hedges) ?_ ?_
  · intro k hk t' _ g r hr
    simp only [dyn_cover.l5_eq, lt_true hk, if_true, encS_length, onIx_nat hk, onRow_encS hk, onCell_0, onCell_1, onInt_v, onSl_v, helem k hk, onCall_d]
    have esa : x.sets[k] = setAt x.sets k := by unfold setAt; rw [getD_eq hk]
    rw [esa]
    have hok2 : EdgesOk (startT N).length (([] ++ (List.range k).flatMap (cOut x.sets z)) ++ (List.range z).flatMap (cEdge x.sets z k)) := by
      rw [startT_length, List.nil_append]
      refine hedges.sub ?_
      have : (List.range k).flatMap (cOut x.sets z) ++ (List.range z).flatMap (cEdge x.sets z k) = (List.range (k + 1)).flatMap (cOut x.sets z) := (range_flat_succ _ _).symm
      rw [this]
      exact range_sub _ hk
    refine ev_edges (t0 := startT N) z (cEdge x.sets z k) (fun k' i t => dyn_cover.l9 T k' (z : Int) N (k : Int) (elemsOf (setAt x.sets k).2 : Nat) (encS x.sets) (x.sets.length : Int) (k : Int) (z : Int) i x.kind x.cap (encP x.items) (encR x.cost) x.size (encS x.sets) (encC t) (setAt x.sets k).1 (encI (setAt x.sets k).2)) g hok2 ?_ ?_
    · intro a ha t2 _ g2 r hr
      exact cover_step hok hz hN hN20 hk ha (by rw [g2.len, startT_length]) (g2.bnd _) hr
    · intro _
      simp only [dyn_cover.l9_eq, lt_self, Bool.false_eq_true, if_false, wrap_succ (i := k) (by omega)]
      exact hr
  · intro _
    rw [← htab]
    have hla : N - 1 < (cTable x.sets z).length := by omega
    have hlN : N - 1 < N := by omega
    have el : IntKind.i64.wrap ((N : Int) - 1) = ((N - 1 : Nat) : Int) := by rw [wrap_i64] <;> omega
    simp only [dyn_cover.l5_eq, lt_self, Bool.false_eq_true, if_false, List.drop_zero, el, onIx_nat hlN, Nat.zero_add, onRow_encC hla, onCell_0, onCell_1, onBool_v, onInt_v]
    rw [List.take_of_length_le (by rw [encC_length]; omega)]
    cases hth : (cat (cTable x.sets z) (N - 1)).there with
    | false => exact .of (by simp)
    | true =>
      rw [dyn_trace_spec (by omega) hback hla]
      simp only [onCall_d, onSl_v, Bool.not_true, Bool.false_eq_true, if_false, if_true]
      rw [show N - 1 + 1 = N by omega]
      exact .rfl'
end W

open Go Go.Eng
namespace W

def ordersF (n : Nat) : Nat → List Int → List (List Int)
  | 0, h => [h]
  | f + 1, h => (List.range n).flatMap fun k : Nat => if h.contains (k : Int) then [] else ordersF n f (h ++ [(k : Int)])
theorem ordersF_length (n : Nat) : ∀ f h, (ordersF n f h).length ≤ n ^ f
  | 0, h => by simp [ordersF]
  | f + 1, h => by
    have key : ∀ i, i ≤ n → ((List.range i).flatMap fun k : Nat => if h.contains (k : Int) then [] else ordersF n f (h ++ [(k : Int)])).length ≤ i * n ^ f := by
      intro i
      induction i with
      | zero => simp
      | succ i ih =>
        intro hi
        have := ih (by omega)
        rw [List.range_succ, List.flatMap_append, List.length_append, Nat.succ_mul]
        simp only [List.flatMap_cons, List.flatMap_nil, List.append_nil]
        have h2 := ordersF_length n f (h ++ [(i : Int)])
        split
        · simp only [List.length_nil]; omega
        · omega
    have := key n (Nat.le_refl _)
    rw [ordersF, Nat.pow_succ, Nat.mul_comm]; exact this
theorem ref13_orders_spec {n : Nat} (hn : n ≤ 8) : ∀ (f : Nat) (h : List Int), h.length + f = n → ∃ fl, T F.ref13_orders [.d (.sl 3 1 (encI h)), .d (di (n : Nat))] [] = some (.d (.sl fl 1 (encR (ordersF n f h))), [])
  | 0, h, hf => by
    refine ⟨0, ref13_orders.tab ?_⟩
    simp only [ref13_orders.eq, encI_length, show ((h.length : Int) == (n : Int)) = true from by rw [beq_iff_eq]; omega, if_true]
    exact .of (by simp [ordersF, encR])
  | f + 1, h, hf => by
    refine ⟨3, ref13_orders.tab ?_⟩
    have ih : ∀ k : Nat, ∃ fl, T F.ref13_orders [.d (.sl 3 1 (encI (h ++ [(k : Int)]))), .d (di (n : Nat))] [] = some (.d (.sl fl 1 (encR (ordersF n f (h ++ [(k : Int)])))), []) := fun k => ref13_orders_spec hn f _ (by simp; omega)
    simp only [ref13_orders.eq, encI_length, show ((h.length : Int) == (n : Int)) = false from by rw [beq_eq_false_iff_ne]; omega, Bool.false_eq_true, if_false]
    have hl : (List.range n).length = n := List.length_range
    have hpow : n ^ f ≤ 16777216 := Nat.le_trans (Nat.pow_le_pow_left hn f) (Nat.pow_le_pow_right (n := 8) (by decide) (show f ≤ 8 by omega))
    obtain ⟨B, hB⟩ : ∃ B, B = 16777216 := ⟨_, rfl⟩
    have hb : ∀ k : Nat, (ordersF n f (h ++ [(k : Int)])).length ≤ B := fun k => Nat.le_trans (ordersF_length n f _) (by omega)
    have e : ∀ (i : Nat) (s : List (List Int)), (List.range i).foldl (fun s (k : Nat) => if h.contains (k : Int) then s else s ++ ordersF n f (h ++ [(k : Int)])) s = s ++ (List.range i).flatMap fun k : Nat => if h.contains (k : Int) then [] else ordersF n f (h ++ [(k : Int)]) := by
      intro i
      induction i with
      | zero => intro s; simp
      | succ i ih =>
        intro s
        rw [List.range_succ, List.foldl_append, ih, List.flatMap_append, ← List.append_assoc]
        simp only [List.foldl_cons, List.foldl_nil, List.flatMap_cons, List.flatMap_nil, List.append_nil]
        split <;> simp
    have := ev_fold (List.range n) (fun (s : List (List Int)) (k : Nat) => if h.contains (k : Int) then s else s ++ ordersF n f (h ++ [(k : Int)])) (fun k i s => ref13_orders.l5 T k (encI h) (n : Int) i (encR s)) (fun i s => s.length ≤ i * B) (s0 := [])
      (r := (.d (.sl 3 1 (encR (ordersF n (f + 1) h))), [])) (by simp) ?_ ?_ ?_
    · exact this
    · intro i hi s hs
      rw [List.getElem_range]
      have := hb i
      rw [Nat.succ_mul]
      split
      · omega
      · rw [List.length_append]; omega
    · intro i hi s hs r hr
      rw [List.getElem_range] at hr
      rw [hl] at hi
      have hbi := hb i
      simp only [ref13_orders.l5_eq, lt_true hi, if_true]
      refine ev_or h (fun y => y == (i : Int)) (fun k j b => ref13_orders.l9 T k (encI h) (n : Int) (i : Int) b j (encR s)) false ?_ ?_
      · intro j hj b r hr
        simp only [ref13_orders.l9_eq, lt_true hj, encI_length, if_true, onIx_nat hj, onRow_encI hj, onCell_0, onInt_v, wrap_succ (i := j) (by omega)]
        cases b with
        | true => simp only [if_true]; simpa using hr
        | false => simp only [Bool.false_eq_true, if_false]; simpa using hr
      · have ec : (false || h.any fun y => y == (i : Int)) = h.contains (i : Int) := by
          rw [Bool.false_or, List.contains_eq_any_beq]
          congr 1; funext y
          rw [Bool.eq_iff_iff, beq_iff_eq, beq_iff_eq]; exact eq_comm
        rw [ec]
        simp only [ref13_orders.l9_eq, encI_length, lt_self, Bool.false_eq_true, if_false, wrap_succ (i := i) (by omega)]
        cases hc : h.contains (i : Int) with
        | true =>
          rw [if_pos hc] at hr
          simp only [if_true]; exact hr
        | false =>
          rw [if_neg (by rw [hc]; simp)] at hr
          obtain ⟨fl, hfl⟩ := ih i
          have ea : encR s ++ encR (ordersF n f (h ++ [(i : Int)])) = encR (s ++ ordersF n f (h ++ [(i : Int)])) := by simp [encR]
          have hroom : s.length + (ordersF n f (h ++ [(i : Int)])).length ≤ 549755813888 := by
            have : i * B ≤ 8 * B := Nat.mul_le_mul_right _ (by omega)
            omega
          simp only [Bool.false_eq_true, if_false, onRoom_of (n := h.length) (by omega), onRoom_of (n := h.length + 1) (by omega), encI_snoc, hfl, onCall_d, onSl_v, encR_length, onRoom_of hroom, ea]
          exact hr
    · intro _
      rw [e, hl, List.nil_append]
      simp only [ref13_orders.l5_eq, lt_self, Bool.false_eq_true, if_false]
      exact .of (by rw [ordersF])

def decs (x : Ins) : Nat := if x.kind = 0 then x.items.length else if x.kind = 3 then x.sets.length else sideOf x
theorem ref09_N_spec {x : Ins} (hx : x.Fits) (hc : chk x = 0) : T F.ref09_N [insA x] [] = some (.d (di (decs x : Nat)), []) := by
  refine ref09_N.tab ?_
  have hv := Valid.of hc
  have hk := hv.kind
  have hi := hv.items
  have hse := hv.sets
  simp only [ref09_N.eq, ref09_Check_spec hx, onCall_d, onInt_v, hc, bne_self_eq_false, Bool.false_eq_true, if_false, beq_iff_eq, encP_length, encR_length, encS_length]
  refine .of ?_
  unfold decs sideOf
  have hs2 := hv.side
  by_cases h2 : x.kind = 2
  · have hs := hv.side1 (.inr h2)
    rw [if_pos h2, if_neg (by omega), if_neg (by omega), if_neg (by omega)]
    exact di_congr (by rw [wrap_i64] <;> omega)
  rw [if_neg h2]
  refine di_congr ?_
  rw [wrap_i64 (x := (x.items.length : Int) + x.cost.length) (by omega) (by omega), wrap_i64 (by omega) (by omega)]
  by_cases h0 : x.kind = 0
  · have l1 := hv.lean1 (by omega) (by omega)
    have l3 := (hv.lean3 (by omega)).2
    rw [if_pos h0, l1, l3]; simp
  have l0 := (hv.lean0 h0).2
  by_cases h3 : x.kind = 3
  · have l1 := hv.lean1 (by omega) (by omega)
    rw [if_neg h0, if_pos h3, l0, l1]; simp
  have l3 := (hv.lean3 h3).2
  rw [if_neg h0, if_neg h3, if_pos (by omega), l0, l3]; simp

def factN : Nat → Nat
  | 0 => 1
  | n + 1 => (n + 1) * factN n
def countOf (x : Ins) : Nat := if x.kind = 0 ∨ x.kind = 3 then 2 ^ decs x else factN (decs x)
theorem fact_le : ∀ n, n < 8 → factN n ≤ 5040 := by decide
theorem pow_le128 : ∀ n, n < 8 → 2 ^ n ≤ 128 := by decide
theorem ref13_Count_spec {x : Ins} (hx : x.Fits) (hc : chk x = 0) (hd : decs x ≤ 7) : T F.ref13_Count [insA x] [] = some (.d (.tup [di (countOf x : Nat), di 0]), []) := by
  refine ref13_Count.tab ?_
  have hv := Valid.of hc
  simp only [ref13_Count.eq, ref09_Check_spec hx, ref09_N_spec hx hc, onCall_d, onInt_v, hc, bne_self_eq_false, Bool.false_eq_true, if_false]
  have hk := hv.kind
  have hl : (List.range (decs x)).length = decs x := List.length_range
  let g : Nat → Nat → Nat := fun s i => if x.kind = 0 ∨ x.kind = 3 then 2 * s else (i + 1) * s
  have hval : ∀ i, (List.range i).foldl g 1 = if x.kind = 0 ∨ x.kind = 3 then 2 ^ i else factN i := by
    intro i
    induction i with
    | zero => simp [factN]
    | succ i ih =>
      rw [List.range_succ, List.foldl_append, ih]
      simp only [List.foldl_cons, List.foldl_nil, g]
      by_cases h : x.kind = 0 ∨ x.kind = 3
      · simp only [if_pos h]; rw [Nat.pow_succ, Nat.mul_comm]
      · simp only [if_neg h]; rfl
  have hbd : ∀ i, i ≤ 7 → (List.range i).foldl g 1 ≤ 5040 := by
    intro i hi
    rw [hval]
    split
    · have := pow_le128 i (by omega); omega
    · exact fact_le i (by omega)
  have := ev_fold (List.range (decs x)) g (fun k i (s : Nat) => ref13_Count.l7 T k (decs x : Int) (s : Int) (i + 1) x.kind x.cap (encP x.items) (encR x.cost) x.size (encS x.sets)) (fun i s => s = (List.range i).foldl g 1) (s0 := 1)
    (r := (.d (.tup [di (countOf x : Nat), di 0]), [])) rfl ?_ ?_ ?_
  · exact this
  · intro i h s hs
    rw [List.getElem_range, hs, List.range_succ, List.foldl_append]; rfl
  · intro i h s hs r hr
    rw [List.getElem_range] at hr
    rw [hl] at h
    have h1 := hbd i (by omega)
    have h2 := hbd (i + 1) (by omega)
    rw [List.range_succ, List.foldl_append, ← hs] at h2
    rw [← hs] at h1
    simp only [List.foldl_cons, List.foldl_nil] at h2
    have e1 : IntKind.i64.wrap ((i : Int) + 1 + 1) = ((i + 1 : Nat) : Int) + 1 := by rw [wrap_i64] <;> omega
    simp only [ref13_Count.l7_eq, show decide ((i : Int) + 1 ≤ (decs x : Int)) = true from decide_eq_true (by omega), show decide ((s : Int) ≤ 1048576) = true from decide_eq_true (by omega), if_true, e1, beq_iff_eq]
    simp only [g] at h2 hr
    have e2 : IntKind.i64.wrap (2 * (s : Int)) = ((2 * s : Nat) : Int) := by rw [wrap_i64] <;> omega
    by_cases h0 : x.kind = 0
    · rw [if_pos (.inl h0)] at hr
      simp only [h0, if_true, e2]
      rw [h0] at hr; exact hr
    by_cases h3 : x.kind = 3
    · rw [if_pos (.inr h3)] at hr
      simp only [h3, if_true, e2, show ¬ (3 : Int) = 0 from by decide, if_false]
      rw [h3] at hr; exact hr
    · rw [if_neg (by omega)] at hr h2
      have e3 : IntKind.i64.wrap (((i : Int) + 1) * (s : Int)) = (((i + 1) * s : Nat) : Int) := by
        rw [show ((i : Int) + 1) * (s : Int) = (((i + 1) * s : Nat) : Int) from by rw [Int.natCast_mul]; rfl]
        exact wrap_i64 (by omega) (by omega)
      simp only [h0, h3, if_false, e3]
      exact hr
  · intro hs
    rw [hl] at hs ⊢
    have h1 := hbd (decs x) hd
    have hv2 := hval (decs x)
    have e1 : ((List.range (decs x)).foldl g 1) = countOf x := by rw [hv2]; rfl
    rw [e1] at h1 ⊢
    simp only [ref13_Count.l7_eq, show decide ((decs x : Int) + 1 ≤ (decs x : Int)) = false from decide_eq_false (by omega), Bool.false_eq_true, if_false, show decide ((countOf x : Int) > 1048576) = false from decide_eq_false (by omega)]
    exact .rfl'

def bitsTo (k m : Nat) : List Int := ((List.range k).filter fun j => m.testBit j).map fun j : Nat => (j : Int)
theorem bitsTo_succ (k m : Nat) : bitsTo (k + 1) m = if m.testBit k = true then bitsTo k m ++ [(k : Int)] else bitsTo k m := by
  unfold bitsTo
  rw [List.range_succ, List.filter_append, List.map_append]
  by_cases h : m.testBit k = true
  · simp [h]
  · simp [h]
theorem bitsTo_length (k m : Nat) : (bitsTo k m).length ≤ k := by
  unfold bitsTo
  rw [List.length_map]
  have := List.length_filter_le (fun j => m.testBit j) (List.range k)
  simpa using this
def allOf (x : Ins) : List (List Int) :=
  if x.kind = 1 then ordersF x.cost.length x.cost.length [] else if x.kind = 2 then ordersF x.cost.length (x.cost.length - 1) [0] else (List.range (2 ^ decs x)).map (bitsTo (decs x))
theorem all_l15 {N n m : Nat} (hn : n ≤ 7) (hm : m < 2 ^ n) {x : Ins} {H1 : Rows} (hH : H1.length ≤ 128) {r : Res} (hr : Ev' (fun k => ref13_All.l10 T k (N : Int) (IntKind.i64.wrap ((m : Int) + 1)) x.kind x.cap (encP x.items) (encR x.cost) x.size (encS x.sets) (H1 ++ [[.sl 3 1 (encI (bitsTo n m))]])) r) :
    Ev' (fun k => ref13_All.l15 T k (N : Int) (m : Int) (m : Int) 0 x.kind x.cap (encP x.items) (encR x.cost) x.size (encS x.sets) H1 []) r := by
  have h128 := pow_le128 n (by omega)
  have main : ∀ (d k : Nat), d + k = n → Ev' (fun k' => ref13_All.l15 T k' (N : Int) (m : Int) ((m / 2 ^ k : Nat) : Int) (k : Int) x.kind x.cap (encP x.items) (encR x.cost) x.size (encS x.sets) H1 (encI (bitsTo k m))) r := by
    intro d
    induction d with
    | zero =>
      intro k hd
      rw [show k = n by omega, Nat.div_eq_of_lt hm]
      refine .step ?_
      simp only [ref13_All.l15_eq, show decide (((0 : Nat) : Int) > 0) = false from by decide, Bool.false_eq_true, if_false, onRoom_of (n := H1.length + 1) (by omega)]
      exact hr
    | succ d ih =>
      intro k hd
      have hq : m / 2 ^ k ≤ m := Nat.div_le_self _ _
      by_cases h0 : m / 2 ^ k = 0
      · have hlt : m < 2 ^ k := by
          rcases Nat.lt_or_ge m (2 ^ k) with h | h
          · exact h
          · have := Nat.div_pos h (Nat.pow_pos (by decide)); omega
        have ebits : bitsTo k m = bitsTo n m := by
          obtain ⟨e, he⟩ := Nat.exists_eq_add_of_le (show k ≤ n by omega)
          rw [he]; clear hd ih he
          induction e with
          | zero => rfl
          | succ e ih2 => rw [← Nat.add_assoc, bitsTo_succ, if_neg (by rw [Nat.testBit_lt_two_pow (Nat.lt_of_lt_of_le hlt (two_pow_le (Nat.le_add_right _ _)))]; simp), ← ih2]
        rw [h0, ebits]
        refine .step ?_
        simp only [ref13_All.l15_eq, show decide (((0 : Nat) : Int) > 0) = false from by decide, Bool.false_eq_true, if_false, onRoom_of (n := H1.length + 1) (by omega)]
        exact hr
      · have hlen := bitsTo_length k m
        have hd0 : decide (((m / 2 ^ k : Nat) : Int) > 0) = true := decide_eq_true (Int.natCast_pos.2 (Nat.pos_of_ne_zero h0))
        have e1 : (((m / 2 ^ k : Nat) : Int).tmod 2 == 1) = m.testBit k := by
          rw [Int.tmod_eq_emod_of_nonneg (Int.natCast_nonneg _), Nat.testBit_eq_decide_div_mod_eq, Bool.eq_iff_iff, beq_iff_eq, decide_eq_true_iff]
          omega
        have e2 : IntKind.i64.wrap (((m / 2 ^ k : Nat) : Int).tdiv 2) = ((m / 2 ^ (k + 1) : Nat) : Int) := by
          rw [Int.tdiv_eq_ediv_of_nonneg (Int.natCast_nonneg _), Nat.pow_succ, ← Nat.div_div_eq_div_mul]
          generalize m / 2 ^ k = y at hq
          rw [wrap_i64] <;> omega
        have := ih (k + 1) (by omega)
        rw [bitsTo_succ] at this
        refine .step ?_
        simp only [ref13_All.l15_eq, hd0, if_true, e1, e2, wrap_succ (i := k) (by omega), encI_length, onRoom_of (n := (bitsTo k m).length + 1) (by omega), encI_snoc]
        cases hb : m.testBit k with
        | true => rw [if_pos hb] at this; simp only [if_true]; exact this
        | false => rw [if_neg (by rw [hb]; simp)] at this; simp only [Bool.false_eq_true, if_false]; exact this
  have := main n 0 (by omega)
  rw [Nat.pow_zero, Nat.div_one] at this
  exact this
theorem ref13_All_spec {x : Ins} (hx : x.Fits) (hc : chk x = 0) (hd : decs x ≤ 7) (hn : x.cost.length ≤ 8) : T F.ref13_All [insA x] [] = some (.d (.sl 3 1 (encR (allOf x))), []) := by
  refine ref13_All.tab ?_
  have hv := Valid.of hc
  have hk := hv.kind
  simp only [ref13_All.eq, ref13_Count_spec hx hc hd, onCall_d, onTup_v, List.length_cons, List.length_nil, if_true, onCell_0, onCell_1, onInt_v, bne_self_eq_false, Bool.false_eq_true, if_false, beq_iff_eq, encR_length]
  unfold allOf
  by_cases h1 : x.kind = 1
  · obtain ⟨fl, h⟩ := ref13_orders_spec hn x.cost.length [] (by simp)
    have h' : T F.ref13_orders [.d (.sl 3 1 []), .d (.v (.int .i64 (x.cost.length : Int)))] [] = some (.d (.sl fl 1 (encR (ordersF x.cost.length x.cost.length []))), []) := h
    simp only [h1, if_true, h', onCall_d, onSl_v]
    exact .rfl'
  by_cases h2 : x.kind = 2
  · have hs := hv.side1 (.inr h2)
    obtain ⟨fl, h⟩ := ref13_orders_spec hn (x.cost.length - 1) [0] (by simp; omega)
    have h' : T F.ref13_orders [.d (.sl 3 1 [[.v (.int .i64 0)]]), .d (.v (.int .i64 (x.cost.length : Int)))] [] = some (.d (.sl fl 1 (encR (ordersF x.cost.length (x.cost.length - 1) [0]))), []) := h
    simp only [h2, if_true, show ¬ (2 : Int) = 1 from by decide, if_false, h', onCall_d, onSl_v]
    exact .rfl'
  simp only [h1, h2, if_false]
  have e : countOf x = 2 ^ decs x := by unfold countOf; rw [if_pos (by omega)]
  have h128 := pow_le128 (decs x) (by omega)
  rw [e]
  have hl : (List.range (2 ^ decs x)).length = 2 ^ decs x := List.length_range
  have := ev_map (List.range (2 ^ decs x)) (bitsTo (decs x)) encR (fun k i s => ref13_All.l10 T k ((2 ^ decs x : Nat) : Int) i x.kind x.cap (encP x.items) (encR x.cost) x.size (encS x.sets) s) (r := (.d (.sl 3 1 (encR ((List.range (2 ^ decs x)).map (bitsTo (decs x))))), [])) rfl ?_ ?_
  · exact this
  · intro i h out ho r hr
    rw [List.getElem_range] at hr
    rw [hl] at h
    simp only [ref13_All.l10_eq, lt_true h, if_true]
    refine all_l15 hd h (by rw [encR_length]; omega) ?_
    rw [wrap_succ (by omega), encR_snoc]
    exact hr
  · rw [hl]
    simp only [ref13_All.l10_eq, lt_self, Bool.false_eq_true, if_false]
    exact .rfl'

structure Bst where
  best : List Int
  least : Int
  found : Bool
def bestF (x : Ins) (s : Bst) (l : List Int) : Bst := if (costOf x l).2 = 0 ∧ (s.found = false ∨ (costOf x l).1 < s.least) then ⟨l, (costOf x l).1, true⟩ else s
def bestOf (x : Ins) : Bst := (allOf x).foldl (bestF x) ⟨[], 0, false⟩
theorem ref13_Best_spec {x : Ins} (hx : x.Fits) (hc : chk x = 0) (hd : decs x ≤ 7) (hn : x.cost.length ≤ 8) (hall : ∀ l ∈ allOf x, len l.length) (hcnt : len (allOf x).length) : T F.ref13_Best [insA x] [] = some (.d (.tup [.sl 3 1 (encI (bestOf x).best), di (bestOf x).least, db (bestOf x).found, di 0]), []) := by
  refine ref13_Best.tab ?_
  simp only [ref13_Best.eq, ref13_Count_spec hx hc hd, ref13_All_spec hx hc hd hn, onCall_d, onTup_v, List.length_cons, List.length_nil, if_true, onCell_0, onCell_1, onInt_v, onSl_v, bne_self_eq_false, Bool.false_eq_true, if_false]
  have := ev_fold (allOf x) (bestF x) (fun k i s => ref13_Best.l9 T k (encR (allOf x)) (encI s.best) s.least s.found i x.kind x.cap (encP x.items) (encR x.cost) x.size (encS x.sets)) (fun _ _ => True) (s0 := ⟨[], 0, false⟩)
    (r := (.d (.tup [.sl 3 1 (encI (bestOf x).best), di (bestOf x).least, db (bestOf x).found, di 0]), [])) trivial (fun _ _ _ _ => trivial) ?_ ?_
  · exact this
  · intro i h s _ r hr
    simp only [ref13_Best.l9_eq, encR_length, lt_true h, if_true, onIx_nat h, onRow_encR h, onCell_0, onCell_1, onSl_v, ref12_Cost_spec hx (hall _ (List.getElem_mem h)), onCall_d, onTup_v, List.length_cons, List.length_nil, onInt_v, beq_iff_eq, wrap_succ (i := i) (by simp [len] at hcnt; omega)]
    unfold bestF at hr
    by_cases h0 : (costOf x (allOf x)[i]).2 = 0
    · simp only [h0, if_true]
      cases hf : s.found with
      | false =>
        rw [if_pos ⟨h0, .inl hf⟩] at hr
        simp only [Bool.not_false, if_true]; exact hr
      | true =>
        simp only [Bool.not_true, Bool.false_eq_true, if_false]
        by_cases hlt : (costOf x (allOf x)[i]).1 < s.least
        · rw [if_pos ⟨h0, .inr hlt⟩] at hr
          simp only [hlt, decide_true, if_true]; exact hr
        · rw [if_neg (by rw [hf]; simp [hlt])] at hr
          simp only [hlt, decide_false, Bool.false_eq_true, if_false]
          rw [hf] at hr; exact hr
    · rw [if_neg (fun c => h0 c.1)] at hr
      simp only [h0, if_false]; exact hr
  · intro _
    simp only [ref13_Best.l9_eq, encR_length, lt_self, Bool.false_eq_true, if_false]
    exact .rfl'
end W

open Go Go.Eng
namespace W

def trimLen (l : List Nat) : Nat → Nat
  | 0 => 0
  | n + 1 => if l.getD n 0 = 0 then trimLen l n else n + 1
theorem trimLen_le (l : List Nat) : ∀ n, trimLen l n ≤ n
  | 0 => Nat.le_refl _
  | n + 1 => by
    rw [trimLen]; split
    · have := trimLen_le l n; omega
    · exact Nat.le_refl _
theorem encU_take (l : List Nat) (n : Nat) : ((encU l).take n).drop 0 = encU (l.take n) := by simp [encU, List.map_take]
theorem trim_spec (neg : Bool) {l : List Nat} (hl : l.length ≤ 1000) : T F.ref01_trim [.agg [.d (db neg), .d (.sl 3 1 (encU l))]] [] = some (.d (.agg [db (neg && decide (0 < trimLen l l.length)), .sl 3 1 (encU (l.take (trimLen l l.length)))]), []) := by
  refine ref01_trim.tab ?_
  simp only [ref01_trim.eq, encU_length]
  have fin : ∀ n, n ≤ l.length → ∀ r : Res, r = (.d (.agg [db (neg && decide (0 < n)), .sl 3 1 (encU (l.take n))]), []) →
      (if neg = true then onIx (n : Int) (l.length + 1) fun i5 => some (AVal.d (.agg [.v (.bool (decide ((n : Int) > 0))), .sl 3 1 (((encU l).take i5).drop 0)]), ([] : Heap))
       else onIx (n : Int) (l.length + 1) fun i6 => some (AVal.d (.agg [.v (.bool false), .sl 3 1 (((encU l).take i6).drop 0)]), [])) = some r := by
    intro n hn r hr
    subst hr
    rw [onIx_nat (by omega), onIx_nat (by omega), encU_take]
    have : decide ((n : Int) > 0) = decide (0 < n) := by rw [Bool.eq_iff_iff, decide_eq_true_iff, decide_eq_true_iff]; omega
    cases neg <;> simp [this]
  have main : ∀ n, n ≤ l.length → Ev' (fun k => ref01_trim.l2 T k (n : Int) neg (encU l) false) (.d (.agg [db (neg && decide (0 < trimLen l n)), .sl 3 1 (encU (l.take (trimLen l n)))]), []) := by
    intro n
    induction n with
    | zero =>
      intro hn
      refine .step ?_
      simp only [ref01_trim.l2_eq, encU_length, show decide (((0 : Nat) : Int) > 0) = false from by decide, Bool.false_eq_true, if_false]
      exact .of (fin 0 (by omega) _ rfl)
    | succ n ih =>
      intro hn
      have hn' : n < l.length := by omega
      refine .step ?_
      simp only [ref01_trim.l2_eq, encU_length, show decide (((n + 1 : Nat) : Int) > 0) = true from decide_eq_true (by omega), if_true, show IntKind.i64.wrap (((n + 1 : Nat) : Int) - 1) = (n : Int) from by rw [wrap_i64] <;> omega, onIx_nat hn', onRow_encU hn', onCell_0, onInt_v, cast_beq0]
      rw [trimLen, List.getD_eq_getElem?_getD, List.getElem?_eq_getElem hn', Option.getD_some]
      by_cases h0 : l[n] = 0
      · simp only [h0, beq_self_eq_true, if_true]
        exact ih (by omega)
      · simp only [show (l[n] == 0) = false from by simpa using h0, Bool.false_eq_true, if_false, if_neg h0]
        have := fin (n + 1) hn _ rfl
        simp only [show decide (((n + 1 : Nat) : Int) > 0) = true from decide_eq_true (by omega)] at this
        exact .of this
  exact main l.length (Nat.le_refl _)

abbrev bigA (neg : Bool) (l : List Nat) : AVal := .agg [.d (db neg), .d (.sl 3 1 (encU l))]
abbrev bigD (neg : Bool) (l : List Nat) : DVal := .agg [db neg, .sl 3 1 (encU l)]
def digs (u : Nat) : List Nat := [u % 65536, u / 65536 % 65536, u / 65536 / 65536 % 65536, u / 65536 / 65536 / 65536 % 65536]
theorem of_l6 {a : Int} {u : Nat} (hu : u < 18446744073709551616) : Ev' (fun k => ref01_Of.l6 T k a (u : Int) 0 false []) (.d (bigD (decide (a < 0) && decide (0 < trimLen (digs u) 4)) ((digs u).take (trimLen (digs u) 4))), []) := by
  have m : ∀ v : Nat, (v : Int).tmod 65536 = ((v % 65536 : Nat) : Int) := fun v => by rw [Int.tmod_eq_emod_of_nonneg (Int.natCast_nonneg _)]; omega
  have d : ∀ v : Nat, v < 18446744073709551616 → IntKind.u64.wrap ((v : Int).tdiv 65536) = ((v / 65536 : Nat) : Int) := fun v hv => by rw [Int.tdiv_eq_ediv_of_nonneg (Int.natCast_nonneg _), wrap_u64] <;> omega
  have r : ∀ {A : Type} (n : Nat) (f : Option A), n ≤ 10 → onRoom n f = f := fun n f h => onRoom_of (by omega) f
  refine .step ?_
  simp only [ref01_Of.l6_eq, show decide ((0 : Int) < 4) = true from rfl, if_true, List.length_nil, List.length_cons, r _ _ (show 0 + 1 ≤ 10 by decide), m, d u hu, show IntKind.i64.wrap ((0 : Int) + 1) = 1 from by decide, List.nil_append]
  refine .step ?_
  simp only [ref01_Of.l6_eq, show decide ((1 : Int) < 4) = true from rfl, if_true, List.length_nil, List.length_cons, r _ _ (show 0 + 1 + 1 ≤ 10 by decide), m, d (u / 65536) (by omega), show IntKind.i64.wrap ((1 : Int) + 1) = 2 from by decide, List.cons_append, List.nil_append]
  refine .step ?_
  simp only [ref01_Of.l6_eq, show decide ((2 : Int) < 4) = true from rfl, if_true, List.length_nil, List.length_cons, r _ _ (show 0 + 1 + 1 + 1 ≤ 10 by decide), m, d (u / 65536 / 65536) (by omega), show IntKind.i64.wrap ((2 : Int) + 1) = 3 from by decide, List.cons_append, List.nil_append]
  refine .step ?_
  simp only [ref01_Of.l6_eq, show decide ((3 : Int) < 4) = true from rfl, if_true, List.length_nil, List.length_cons, r _ _ (show 0 + 1 + 1 + 1 + 1 ≤ 10 by decide), m, d (u / 65536 / 65536 / 65536) (by omega), show IntKind.i64.wrap ((3 : Int) + 1) = 4 from by decide, List.cons_append, List.nil_append]
  refine .step ?_
  have e : ([[DVal.v (.int .u64 ((u % 65536 : Nat) : Int))], [.v (.int .u64 ((u / 65536 % 65536 : Nat) : Int))], [.v (.int .u64 ((u / 65536 / 65536 % 65536 : Nat) : Int))], [.v (.int .u64 ((u / 65536 / 65536 / 65536 % 65536 : Nat) : Int))]] : Rows) = encU (digs u) := rfl
  have ht := trim_spec (decide (a < 0)) (l := digs u) (by simp [digs])
  rw [show (digs u).length = 4 from rfl] at ht
  simp only [ref01_Of.l6_eq, show decide ((4 : Int) < 4) = false from rfl, Bool.false_eq_true, if_false, e, ht, onCall_d, onAgg_v, List.length_cons, List.length_nil, if_true, onCell_0, onCell_1, onBool_v, onSl_v]
  exact .rfl'
def dig (n : Nat) : List Nat := if n = 0 then [] else [n]
theorem Of_small {n : Nat} (hn : n < 65536) : T F.ref01_Of [.d (di (n : Nat))] [] = some (.d (bigD false (dig n)), []) := by
  refine ref01_Of.tab ?_
  simp only [ref01_Of.eq, show decide ((n : Int) < 0) = false from decide_eq_false (by omega), Bool.false_eq_true, if_false, wrapu_nat (show n < 18446744073709551616 by omega)]
  have := of_l6 (a := (n : Int)) (u := n) (by omega)
  have e : digs n = [n, 0, 0, 0] := by
    unfold digs
    rw [Nat.mod_eq_of_lt hn, Nat.div_eq_of_lt hn]
  rw [e, show decide ((n : Int) < 0) = false from decide_eq_false (by omega), Bool.false_and] at this
  have e2 : [n, 0, 0, 0].take (trimLen [n, 0, 0, 0] 4) = dig n := by
    by_cases h : n = 0
    · subst h; rfl
    · simp [trimLen, dig, h]
  rw [e2] at this
  exact this
theorem Of_low : T F.ref01_Of [.d (di (-9223372036854775808))] [] = some (.d (bigD true [0, 0, 0, 32768]), []) := by
  refine ref01_Of.tab ?_
  have e : IntKind.u64.wrap (IntKind.u64.wrap (IntKind.i64.wrap (0 - IntKind.i64.wrap ((-9223372036854775808 : Int) + 1))) + 1) = ((9223372036854775808 : Nat) : Int) := by decide
  simp only [ref01_Of.eq, show decide ((-9223372036854775808 : Int) < 0) = true from rfl, if_true, e]
  exact of_l6 (a := -9223372036854775808) (u := 9223372036854775808) (by decide)
theorem Of_high : T F.ref01_Of [.d (di 9223372036854775807)] [] = some (.d (bigD false [65535, 65535, 65535, 32767]), []) := by
  refine ref01_Of.tab ?_
  have e : IntKind.u64.wrap (9223372036854775807 : Int) = ((9223372036854775807 : Nat) : Int) := by decide
  simp only [ref01_Of.eq, show decide ((9223372036854775807 : Int) < 0) = false from rfl, Bool.false_eq_true, if_false, e]
  exact of_l6 (a := 9223372036854775807) (u := 9223372036854775807) (by decide)

theorem dig_length (n : Nat) : (dig n).length ≤ 1 := by unfold dig; split <;> simp
theorem Short_small {n : Nat} (hn : n < 65536) : T F.ref01_Short [bigA false (dig n)] [] = some (.d (.tup [di (n : Nat), db true]), []) := by
  have hd := dig_length n
  have c1 : T F.ref01_Cmp [bigA false (dig n), bigA true [0, 0, 0, 32768]] [] = some (.d (di 1), []) := by
    refine ref01_Cmp.tab ?_
    simp only [ref01_Cmp.eq]
    exact .rfl'
  have c2 : T F.ref01_Cmp [bigA false (dig n), bigA false [65535, 65535, 65535, 32767]] [] = some (.d (di (-1)), []) := by
    refine ref01_Cmp.tab ?_
    have hf : T F.ref01_far [bigA false (dig n), bigA false [65535, 65535, 65535, 32767]] [] = some (.d (di (-1)), []) := by
      refine ref01_far.tab ?_
      simp only [ref01_far.eq, encU_length, List.length_cons, List.length_nil]
      have h1 : (((dig n).length : Int) != ((0 + 1 + 1 + 1 + 1 : Nat) : Int)) = true := by rw [bne_iff_ne]; omega
      have h2 : decide (((dig n).length : Int) < ((0 + 1 + 1 + 1 + 1 : Nat) : Int)) = true := decide_eq_true (by omega)
      simp only [h1, h2, if_true]
      exact .rfl'
    simp only [ref01_Cmp.eq, hf, onCall_d, onInt_v, beq_self_eq_true, Bool.not_true, Bool.false_eq_true, if_false]
    exact .rfl'
  refine ref01_Short.tab ?_
  simp only [ref01_Short.eq, Of_low, Of_high, onCall_d, onAgg_v, List.length_cons, List.length_nil, if_true, onCell_0, onCell_1, onBool_v, onSl_v, c1, c2, onInt_v, show decide ((1 : Int) < 0) = false from rfl, show decide ((-1 : Int) > 0) = false from rfl, Bool.false_eq_true, if_false, encU_length]
  by_cases h : n = 0
  · subst h
    refine .step ?_
    simp only [ref01_Short.l9_eq, dig, if_true, List.length_nil, show decide (IntKind.i64.wrap (((0 : Nat) : Int) - 1) ≥ 0) = false from by decide, Bool.false_eq_true, if_false]
    exact .rfl'
  · have e : dig n = [n] := by simp [dig, h]
    rw [e]
    refine .step ?_
    have h1 : (0 : Nat) < [n].length := by simp
    have o0 : ∀ {A : Type} (f : Nat → Option A), onIx 0 1 f = f 0 := fun f => onIx_nat (i := 0) (by decide) f
    have ew : IntKind.i64.wrap (IntKind.i64.wrap ((0 : Int) * 65536) + IntKind.i64.wrap (n : Int)) = (n : Int) := by
      rw [show IntKind.i64.wrap ((0 : Int) * 65536) = 0 from by decide, Int.zero_add, wrap_i64 (x := (n : Int)) (by omega) (by omega), wrap_i64] <;> omega
    simp only [ref01_Short.l9_eq, List.length_cons, List.length_nil, show IntKind.i64.wrap (((0 + 1 : Nat) : Int) - 1) = 0 from by decide, show decide ((0 : Int) ≥ 0) = true from rfl, if_true, Bool.false_eq_true, if_false, encU_length, Nat.zero_add, o0, onRow_encU h1, List.getElem_cons_zero, onCell_0, onInt_v, ew, show IntKind.i64.wrap ((0 : Int) - 1) = -1 from by decide]
    refine .step ?_
    simp only [ref01_Short.l9_eq, show decide ((-1 : Int) ≥ 0) = false from rfl, Bool.false_eq_true, if_false]
    exact .rfl'

theorem Mul_small {n : Nat} (h0 : 1 ≤ n) (hn : 2 * n < 65536) : T F.ref01_Mul [bigA false (dig n), bigA false [2]] [] = some (.d (bigD false (dig (2 * n))), []) := by
  refine ref01_Mul.tab ?_
  have e : dig n = [n] := by simp [dig]; omega
  have e2 : dig (2 * n) = [2 * n] := by simp [dig]; omega
  rw [e, e2]
  have o01 : ∀ {A : Type} (f : Nat → Option A), onIx 0 1 f = f 0 := fun f => onIx_nat (i := 0) (by decide) f
  have o03 : ∀ {A : Type} (f : Nat → Option A), onIx 0 3 f = f 0 := fun f => onIx_nat (i := 0) (by decide) f
  have hr : ∀ {A : Type} (l : List Nat) (h : 0 < l.length) (f : List DVal → Option A), onRow (encU l) 0 f = f [du ((l[0] : Nat) : Int)] := fun l h f => onRow_encU h f
  have e3 : (List.replicate 3 [DVal.v (.int .u64 0)]) = encU [0, 0, 0] := rfl
  have hw3 : IntKind.i64.wrap (IntKind.i64.wrap (((0 + 1 : Nat) : Int) + ((0 + 1 : Nat) : Int)) + 1) = 3 := by decide
  simp only [ref01_Mul.eq, encU_length, List.length_cons, List.length_nil, hw3, show (0 : Int) ≤ 3 from by decide, if_true, show (3 : Int).toNat = 3 from rfl, onRoom_of (n := 3) (by decide), e3]
  have h1 : (0 : Nat) < [n].length := by simp
  have h2 : (0 : Nat) < [2].length := by simp
  have h3 : (0 : Nat) < [0, 0, 0].length := by simp
  refine .step ?_
  simp only [ref01_Mul.l3_eq, encU_length, List.length_cons, List.length_nil, Nat.zero_add, show decide ((0 : Int) < ((1 : Nat) : Int)) = true from rfl, if_true]
  refine .step ?_
  have w1 : IntKind.u64.wrap ((0 : Int) + ((0 : Nat) : Int)) = 0 := by decide
  have w2 : IntKind.u64.wrap (0 + IntKind.u64.wrap (((n : Nat) : Int) * ((2 : Nat) : Int))) = ((2 * n : Nat) : Int) := by
    rw [wrap_u64 (x := ((n : Nat) : Int) * ((2 : Nat) : Int)) (by omega) (by omega), Int.zero_add, wrap_u64] <;> omega
  have w3 : IntKind.u64.wrap (((2 * n : Nat) : Int).tdiv 65536) = 0 := by
    rw [Int.tdiv_eq_ediv_of_nonneg (Int.natCast_nonneg _), wrap_u64] <;> omega
  have w4 : ((2 * n : Nat) : Int).tmod 65536 = ((2 * n : Nat) : Int) := by rw [Int.tmod_eq_emod_of_nonneg (Int.natCast_nonneg _)]; omega
  have es : (encU [0, 0, 0]).set 0 (splice [du ((0 : Nat) : Int)] 0 [DVal.v (.int .u64 ((2 * n : Nat) : Int))]) = encU [2 * n, 0, 0] := rfl
  simp only [ref01_Mul.l7_eq, encU_length, List.length_cons, List.length_nil, Nat.zero_add, show decide ((0 : Int) < ((1 : Nat) : Int)) = true from rfl, if_true, show IntKind.i64.wrap ((0 : Int) + 0) = 0 from by decide, o03, o01, hr _ h1, hr _ h2, hr _ h3, List.getElem_cons_zero, onCell_0, onInt_v, w1, w2, w3, w4, es, show IntKind.i64.wrap ((0 : Int) + 1) = 1 from by decide]
  refine .step ?_
  simp only [ref01_Mul.l7_eq, encU_length, List.length_cons, List.length_nil, Nat.zero_add, show decide ((1 : Int) < ((1 : Nat) : Int)) = false from rfl, show decide ((0 : Int) > 0) = false from rfl, Bool.false_eq_true, if_false, show IntKind.i64.wrap ((0 : Int) + 1) = 1 from by decide]
  refine .step ?_
  have ht := trim_spec false (l := [2 * n, 0, 0]) (by simp)
  have ht2 : [2 * n, 0, 0].take (trimLen [2 * n, 0, 0] [2 * n, 0, 0].length) = [2 * n] := by
    have : trimLen [2 * n, 0, 0] 3 = 1 := by
      have : ¬ 2 * n = 0 := by omega
      show (if (0 : Nat) = 0 then (if (0 : Nat) = 0 then (if 2 * n = 0 then 0 else 1) else 2) else 3) = 1
      rw [if_pos rfl, if_pos rfl, if_neg this]
    show [2 * n, 0, 0].take (trimLen [2 * n, 0, 0] 3) = _
    rw [this]; rfl
  rw [ht2, Bool.false_and] at ht
  have hd : ((encU [2 * n, 0, 0]).drop 0).take 3 = encU [2 * n, 0, 0] := rfl
  simp only [ref01_Mul.l3_eq, encU_length, List.length_cons, List.length_nil, Nat.zero_add, show decide ((1 : Int) < ((1 : Nat) : Int)) = false from rfl, Bool.false_eq_true, if_false, hd, beq_self_eq_true, Bool.not_true, ht, onCall_d, onAgg_v, if_true, onCell_0, onCell_1, onBool_v, onSl_v]
  exact .rfl'

theorem cells_l25 {a t : Nat} (ha : 1 ≤ a ∨ t = 0) (hat : a * 2 ^ t < 65536) {h00 h01 h04 : Int} {h02 h03 h05 : Rows} : Ev' (fun k => ref30_Cells.l25 T k (t : Int) 0 h00 h01 h02 h03 h04 h05 false (encU (dig a)) false (encU [2])) (.d (.tup [di ((a * 2 ^ t : Nat) : Int), di 0]), []) := by
  have hpos : 0 < 2 ^ t := Nat.pow_pos (by decide)
  have hat0 : t < 65536 ∨ a = 0 := by
    rcases Nat.eq_zero_or_pos a with h | h
    · exact .inr h
    · have h1 : 2 ^ t ≤ a * 2 ^ t := Nat.le_mul_of_pos_left _ h
      have h2 : t < 2 ^ t := Nat.lt_two_pow_self
      omega
  have main : ∀ (d i : Nat), d + i = t → Ev' (fun k => ref30_Cells.l25 T k (t : Int) (i : Int) h00 h01 h02 h03 h04 h05 false (encU (dig (a * 2 ^ i))) false (encU [2])) (.d (.tup [di ((a * 2 ^ t : Nat) : Int), di 0]), []) := by
    intro d
    induction d with
    | zero =>
      intro i hd
      rw [show i = t by omega]
      refine .step ?_
      have hs := Short_small hat
      simp only [ref30_Cells.l25_eq, lt_self, Bool.false_eq_true, if_false, hs, onCall_d, onTup_v, List.length_cons, List.length_nil, if_true, onCell_0, onCell_1, onInt_v, onBool_v, Bool.not_true]
      generalize a * 2 ^ t = y at hat
      simp only [show decide ((y : Int) > 1048576) = false from decide_eq_false (by omega), Bool.false_eq_true, if_false]
      exact .rfl'
    | succ d ih =>
      intro i hd
      have hi : i < t := by omega
      have ha1 : 1 ≤ a := by omega
      have hle : a * 2 ^ (i + 1) ≤ a * 2 ^ t := Nat.mul_le_mul_left a (two_pow_le hi)
      have e2 : a * 2 ^ (i + 1) = 2 * (a * 2 ^ i) := by rw [Nat.pow_succ, ← Nat.mul_assoc, Nat.mul_comm]
      have hp1 : 1 ≤ a * 2 ^ i := Nat.mul_pos ha1 (Nat.pow_pos (by decide))
      have hm := Mul_small hp1 (by omega)
      have hd1 := dig_length (a * 2 ^ i)
      have := ih (i + 1) (by omega)
      rw [e2] at this
      refine .step ?_
      simp only [ref30_Cells.l25_eq, lt_true hi, if_true, encU_length, show decide (((dig (a * 2 ^ i)).length : Int) > 4) = false from decide_eq_false (by omega), Bool.false_eq_true, if_false, hm, onCall_d, onAgg_v, List.length_cons, List.length_nil, onCell_0, onCell_1, onBool_v, onSl_v, wrap_succ (i := i) (by omega)]
      exact this
  have := main t 0 (by omega)
  rw [Nat.pow_zero, Nat.mul_one] at this
  exact this

theorem ref30_Cells_spec {x : Ins} (hx : x.Fits) (hc : chk x = 0) (hs : x.size ≤ 20) (hn : x.cost.length ≤ 20) (hm : cellsOf x < 65536) : ∃ n, T F.ref30_Cells [insA x] [] = some (.d (.tup [di n, di 0]), []) := by
  have hv := Valid.of hc
  have hk := hv.kind
  have hw := sumW_bound hv
  have hcap := hv.cap
  have hr : 0 ≤ roomOf x ∧ roomOf x ≤ 2147483648 := by unfold roomOf; omega
  have hi := hv.items
  have hse := hv.sets
  have two : T F.ref01_Of [.d (.v (.int .i64 2))] [] = some (.d (bigD false [2]), []) := Of_small (n := 2) (by decide)
  unfold cellsOf at hm
  by_cases h0 : x.kind = 0
  · rw [if_pos h0] at hm
    obtain ⟨a, ha⟩ := Int.eq_ofNat_of_zero_le (show 0 ≤ (roomOf x + 1) * ((x.items.length : Int) + 1) from Int.mul_nonneg (by omega) (by omega))
    rw [Int.mul_comm] at hm
    have ha1 : a < 65536 := by omega
    have hapos : 1 ≤ a := by
      have : 0 < (roomOf x + 1) * ((x.items.length : Int) + 1) := Int.mul_pos (by omega) (by omega)
      omega
    have hof := Of_small ha1
    refine ⟨((a * 2 ^ 0 : Nat) : Int), ref30_Cells.tab ?_⟩
    simp only [ref30_Cells.eq, ref09_Check_spec hx, onCall_d, onInt_v, hc, bne_self_eq_false, Bool.false_eq_true, if_false, show (x.kind == 0) = true from by simpa using h0, if_true]
    have e : ∀ (l : List (Int × Int)) (s : Int), l.foldl (fun s p => s + p.2) s = s + (l.map (·.2)).sum := by
      intro l
      induction l with
      | nil => intro s; simp
      | cons p l ih => intro s; rw [List.foldl_cons, ih, List.map_cons, List.sum_cons]; omega
    have hI : ∀ p ∈ x.items, 0 ≤ p.2 ∧ p.2 ≤ 2147483648 := fun p hp => (hv.item p hp).2
    have := ev_fold x.items (fun s p => s + p.2) (fun k i s => ref30_Cells.l13 T k 0 s i x.kind x.cap (encP x.items) (encR x.cost) x.size (encS x.sets)) (fun i s => 0 ≤ s ∧ s ≤ (i : Int) * 2147483648)
      (s0 := 0) (r := (.d (.tup [di ((a * 2 ^ 0 : Nat) : Int), di 0]), [])) (by simp) (fun i h s hs => by have := hI _ (List.getElem_mem h); omega) ?_ ?_
    · exact this
    · intro i h s hs r hr
      have hp := hI _ (List.getElem_mem h)
      simp only [ref30_Cells.l13_eq, encP_length, lt_true h, if_true, onIx_nat h, onRow_encP h, onCell_1, onInt_v, wrap_succ (i := i) (by omega), wrap_i64 (x := s + x.items[i].2) (by omega) (by omega)]
      exact hr
    · intro _
      rw [e, Int.zero_add]
      have hfin := cells_l25 (a := a) (t := 0) (.inl hapos) (by simpa using ha1) (h00 := x.kind) (h01 := x.cap) (h02 := encP x.items) (h03 := encR x.cost) (h04 := x.size) (h05 := encS x.sets)
      have el : IntKind.i64.wrap ((x.items.length : Int) + 1) = (x.items.length : Int) + 1 := wrap_i64 (by omega) (by omega)
      simp only [ref30_Cells.l13_eq, encP_length, lt_self, Bool.false_eq_true, if_false, el]
      by_cases hgt : (x.items.map (·.2)).sum > x.cap
      · have hro : roomOf x = x.cap := by unfold roomOf sumW; omega
        rw [hro] at ha
        simp only [hgt, decide_true, if_true, wrap_i64 (x := x.cap + 1) (by omega) (by omega), ha, wrap_i64 (x := (a : Int)) (by omega) (by omega), hof, two, onCall_d, onAgg_v, List.length_cons, List.length_nil, onCell_0, onCell_1, onBool_v, onSl_v]
        exact hfin
      · have hro : roomOf x = (x.items.map (·.2)).sum := by unfold roomOf sumW; omega
        rw [hro] at ha hr
        simp only [hgt, decide_false, Bool.false_eq_true, if_false, wrap_i64 (x := (x.items.map (·.2)).sum + 1) (by omega) (by omega), ha, wrap_i64 (x := (a : Int)) (by omega) (by omega), hof, two, onCall_d, onAgg_v, List.length_cons, List.length_nil, if_true, onCell_0, onCell_1, onBool_v, onSl_v]
        exact hfin
  by_cases h3 : x.kind = 3
  · rw [if_neg h0, if_pos h3] at hm
    have hsz := hv.size
    obtain ⟨t, ht⟩ := Int.eq_ofNat_of_zero_le hsz.1
    rw [ht, Int.toNat_natCast] at hm
    have hm' : (x.sets.length + 1) * 2 ^ t < 65536 := by
      have : (((x.sets.length + 1) * 2 ^ t : Nat) : Int) < 65536 := by rw [Int.natCast_mul]; exact hm
      omega
    have hle : x.sets.length + 1 ≤ (x.sets.length + 1) * 2 ^ t := Nat.le_mul_of_pos_right _ (Nat.pow_pos (by decide))
    have hof := Of_small (n := x.sets.length + 1) (by omega)
    refine ⟨(((x.sets.length + 1) * 2 ^ t : Nat) : Int), ref30_Cells.tab ?_⟩
    simp only [ref30_Cells.eq, ref09_Check_spec hx, onCall_d, onInt_v, hc, bne_self_eq_false, Bool.false_eq_true, if_false, show (x.kind == 0) = false from by simpa using h0, show (x.kind == 3) = true from by simpa using h3, if_true, encS_length, wrap_succ (i := x.sets.length) (by omega), hof, two, onAgg_v, List.length_cons, List.length_nil, onCell_0, onCell_1, onBool_v, onSl_v]
    have := cells_l25 (.inl (show 1 ≤ x.sets.length + 1 by omega)) hm' (h00 := x.kind) (h01 := x.cap) (h02 := encP x.items) (h03 := encR x.cost) (h04 := x.size) (h05 := encS x.sets)
    rw [← ht] at this
    exact this
  · rw [if_neg h0, if_neg h3] at hm
    have hde : decs x = sideOf x := by unfold decs; rw [if_neg h0, if_neg h3]
    have hm' : sideOf x * 2 ^ sideOf x < 65536 := by
      have : ((sideOf x * 2 ^ sideOf x : Nat) : Int) < 65536 := by rw [Int.natCast_mul]; exact hm
      omega
    have hsd : sideOf x ≤ 20 := by unfold sideOf; split <;> omega
    have hof := Of_small (n := sideOf x) (by omega)
    refine ⟨((sideOf x * 2 ^ sideOf x : Nat) : Int), ref30_Cells.tab ?_⟩
    have hN := ref09_N_spec hx hc
    rw [hde] at hN
    simp only [ref30_Cells.eq, ref09_Check_spec hx, onCall_d, onInt_v, hc, bne_self_eq_false, Bool.false_eq_true, if_false, show (x.kind == 0) = false from by simpa using h0, show (x.kind == 3) = false from by simpa using h3, hN, hof, two, onAgg_v, List.length_cons, List.length_nil, if_true, onCell_0, onCell_1, onBool_v, onSl_v]
    exact cells_l25 (by omega) hm'
end W

open Go Go.Eng
namespace W

structure Ans where
  l : List Int
  c : Int
  ok : Bool
def dynAns (x : Ins) : Ans :=
  if x.kind = 0 then ⟨(backK x.items (roomOf x).toNat x.items.length (roomOf x).toNat).reverse, -((rowK x.items (roomOf x).toNat x.items.length).getD (roomOf x).toNat 0), true⟩
  else if x.kind = 1 then ⟨(traceF (aTable x.cost) (2 ^ x.cost.length) (2 ^ x.cost.length - 1)).reverse, (cat (aTable x.cost) (2 ^ x.cost.length - 1)).cost, true⟩
  else if x.kind = 2 then ⟨tourL x.cost (x.cost.length - 1), tourC x.cost (x.cost.length - 1), true⟩
  else if (cat (cTable x.sets (2 ^ x.size.toNat)) ((x.sets.length + 1) * 2 ^ x.size.toNat - 1)).there = true then ⟨(traceF (cTable x.sets (2 ^ x.size.toNat)) ((x.sets.length + 1) * 2 ^ x.size.toNat) ((x.sets.length + 1) * 2 ^ x.size.toNat - 1)).reverse, (cat (cTable x.sets (2 ^ x.size.toNat)) ((x.sets.length + 1) * 2 ^ x.size.toNat - 1)).cost, true⟩
  else ⟨[], 0, false⟩

theorem dyn_Best_spec {x : Ins} (hx : x.Fits) (hc : chk x = 0) (hs : x.size ≤ 20) (hn : x.cost.length ≤ 15) (hm : cellsOf x ≤ 1048576) (hend : x.kind = 2 → ∀ l, l < x.cost.length - 1 → (cat (tTable x.cost (x.cost.length - 1)) ((x.cost.length - 1) * (2 ^ (x.cost.length - 1) - 1) + l)).there = true) :
    T F.dyn_Best [insA x] [] = some (.d (.tup [.sl 3 1 (encI (dynAns x).l), di (dynAns x).c, db (dynAns x).ok, di 0]), []) := by
  refine dyn_Best.tab ?_
  have hv := Valid.of hc
  have hk := hv.kind
  simp only [dyn_Best.eq, dyn_Cells_spec hx hc hs (by omega) hm, onCall_d, onTup_v, List.length_cons, List.length_nil, if_true, onCell_0, onCell_1, onInt_v, bne_self_eq_false, Bool.false_eq_true, if_false]
  unfold dynAns
  by_cases h0 : x.kind = 0
  · have := dyn_knapsack_spec hv
    simp only [if_pos (show x.kind = ((0 : Nat) : Int) from h0), if_pos h0, this, onCall_d, onTup_v, List.length_cons, List.length_nil, if_true, onCell_0, onCell_1, onCell_2, onInt_v, onSl_v, onBool_v]
    exact .rfl'
  rw [if_neg h0]
  by_cases h1 : x.kind = 1
  · have := dyn_assignment_spec hv rfl (by omega)
    simp only [if_neg (show ¬ x.kind = ((0 : Nat) : Int) from h0), if_pos (show x.kind = ((1 : Nat) : Int) from h1), if_pos h1, this, onCall_d, onTup_v, List.length_cons, List.length_nil, if_true, onCell_0, onCell_1, onCell_2, onInt_v, onSl_v, onBool_v]
    exact .rfl'
  rw [if_neg h1]
  by_cases h2 : x.kind = 2
  · have hs1 := hv.side1 (.inr h2)
    obtain ⟨fl, this⟩ := dyn_tour_spec hv (q := x.cost.length - 1) (by omega) (by omega) (hend h2)
    simp only [if_neg (show ¬ x.kind = ((0 : Nat) : Int) from h0), if_neg (show ¬ x.kind = ((1 : Nat) : Int) from h1), if_pos (show x.kind = ((2 : Nat) : Int) from h2), if_pos h2, this, onCall_d, onTup_v, List.length_cons, List.length_nil, if_true, onCell_0, onCell_1, onCell_2, onInt_v, onSl_v, onBool_v]
    exact .rfl'
  rw [if_neg h2]
  have h3 : x.kind = 3 := by omega
  have hsz := hv.size
  have hm' : (x.sets.length + 1) * 2 ^ x.size.toNat ≤ 1048576 := by
    unfold cellsOf at hm
    rw [if_neg h0, if_pos h3] at hm
    have : (((x.sets.length + 1) * 2 ^ x.size.toNat : Nat) : Int) ≤ 1048576 := by rw [Int.natCast_mul]; exact hm
    omega
  have this := dyn_cover_spec hx hv (s := x.size.toNat) (by omega) (by omega) rfl hm'
  simp only [if_neg (show ¬ x.kind = ((0 : Nat) : Int) from h0), if_neg (show ¬ x.kind = ((1 : Nat) : Int) from h1), if_neg (show ¬ x.kind = ((2 : Nat) : Int) from h2), if_pos (show x.kind = ((3 : Nat) : Int) from h3), this]
  unfold coverRes
  split
  · simp only [onCall_d, onTup_v, List.length_cons, List.length_nil, if_true, onCell_0, onCell_1, onCell_2, onInt_v, onSl_v, onBool_v]
    exact .rfl'
  · simp only [onCall_d, onTup_v, List.length_cons, List.length_nil, if_true, onCell_0, onCell_1, onCell_2, onInt_v, onBool_v]
    exact .rfl'

def W30 : Ins := { kind := 0, cap := 5, items := [(6, 3), (5, 4)], cost := [], size := 0, sets := [] }
theorem W30_fits : W30.Fits := ⟨by decide, by decide, by decide, by decide, by decide⟩
theorem W30_chk : chk W30 = 0 := by decide
theorem W30_cells : cellsOf W30 = 18 := by decide
theorem W30_best : T F.dyn_Best [insA W30] [] = some (.d (.tup [.sl 3 1 (encI [0]), di (-6), db true, di 0]), []) := by
  have h := dyn_Best_spec W30_fits W30_chk (by decide) (by decide) (by rw [W30_cells]; decide) (fun h => absurd h (by decide))
  have e : dynAns W30 = ⟨[0], -6, true⟩ := by rfl
  rw [e] at h
  exact h
theorem dyn_Frontier_spec {x : Ins} (hx : x.Fits) (hc : chk x = 0) (h0 : x.kind = 0) (hs : x.size ≤ 20) (hn : x.cost.length ≤ 20) (hm : cellsOf x ≤ 1048576) : T F.dyn_Frontier [insA x] [] = some (.d (.tup [.sl 3 1 (encI (rowK x.items (roomOf x).toNat x.items.length)), di 0]), []) := by
  refine dyn_Frontier.tab ?_
  have hv := Valid.of hc
  have hi := hv.items
  have hl : (rowsK x).length = x.items.length + 1 := by simp [rowsK]
  have e1 : IntKind.i64.wrap (((rowsK x).length : Int) - 1) = (x.items.length : Int) := by rw [wrap_i64] <;> omega
  have hnl : x.items.length < (rowsK x).length := by omega
  have hg : (rowsK x)[x.items.length] = rowK x.items (roomOf x).toNat x.items.length := by simp only [rowsK, List.getElem_map, List.getElem_range]
  simp only [dyn_Frontier.eq, dyn_Cells_spec hx hc hs hn hm, dyn_rows_spec hv, onCall_d, onTup_v, List.length_cons, List.length_nil, if_true, onCell_0, onCell_1, onInt_v, bne_self_eq_false, Bool.false_eq_true, if_false, show (x.kind != 0) = false from by simpa using h0, onSl_v, encR_length, e1, onIx_nat hnl, onRow_encR hnl, hg]
  exact .rfl'
theorem law_wakes_spec : T F.law_wakes [] [] = some (.d (db true), []) := by
  refine law_wakes.tab ?_
  have h1 : T F.dyn_Cells [.agg [.d (.v (.int .i64 0)), .d (.v (.int .i64 5)), .d (.sl 3 2 [[.v (.int .i64 6), .v (.int .i64 3)], [.v (.int .i64 5), .v (.int .i64 4)]]), .d (.sl 3 1 []), .d (.v (.int .i64 0)), .d (.sl 3 2 [])]] [] = some (.d (.tup [di 18, di 0]), []) := by
    have h := dyn_Cells_spec W30_fits W30_chk (by decide) (by decide) (by rw [W30_cells]; decide)
    rw [W30_cells] at h
    exact h
  have h2 : T F.dyn_Best [.agg [.d (.v (.int .i64 0)), .d (.v (.int .i64 5)), .d (.sl 3 2 [[.v (.int .i64 6), .v (.int .i64 3)], [.v (.int .i64 5), .v (.int .i64 4)]]), .d (.sl 3 1 []), .d (.v (.int .i64 0)), .d (.sl 3 2 [])]] [] = some (.d (.tup [.sl 3 1 [[di 0]], di (-6), db true, di 0]), []) := W30_best
  have h3 : T F.dyn_Frontier [.agg [.d (.v (.int .i64 0)), .d (.v (.int .i64 5)), .d (.sl 3 2 [[.v (.int .i64 6), .v (.int .i64 3)], [.v (.int .i64 5), .v (.int .i64 4)]]), .d (.sl 3 1 []), .d (.v (.int .i64 0)), .d (.sl 3 2 [])]] [] = some (.d (.tup [.sl 3 1 [[di 0], [di 0], [di 0], [di 6], [di 6], [di 6]], di 0]), []) := by
    have h := dyn_Frontier_spec W30_fits W30_chk rfl (by decide) (by decide) (by rw [W30_cells]; decide)
    have e3 : rowK W30.items (roomOf W30).toNat W30.items.length = [0, 0, 0, 6, 6, 6] := by rfl
    rw [e3] at h
    exact h
  simp only [law_wakes.eq, h1, h2, h3, onCall_d]
  exact .rfl'
end W

open Go Go.Eng
namespace W

theorem best_inv (x : Ins) : ∀ (L : List (List Int)) (s : Bst), (s.found = true ∨ s.least = 0) →
    (((L.foldl (bestF x) s).found = true ∨ (L.foldl (bestF x) s).least = 0) ∧ (s.found = true → (L.foldl (bestF x) s).found = true ∧ (L.foldl (bestF x) s).least ≤ s.least)
      ∧ (∀ l ∈ L, (costOf x l).2 = 0 → (L.foldl (bestF x) s).found = true ∧ (L.foldl (bestF x) s).least ≤ (costOf x l).1)
      ∧ ((L.foldl (bestF x) s).found = true → (s.found = true ∧ (L.foldl (bestF x) s).least = s.least) ∨ ∃ l ∈ L, (costOf x l).2 = 0 ∧ (costOf x l).1 = (L.foldl (bestF x) s).least))
  | [], s, hs => ⟨hs, fun h => ⟨h, Int.le_refl _⟩, fun l hl => (nomatch hl), fun h => .inl ⟨h, rfl⟩⟩
  | a :: L, s, hs => by
    rw [List.foldl_cons]
    have hs' : (bestF x s a).found = true ∨ (bestF x s a).least = 0 := by
      unfold bestF; split
      · exact .inl rfl
      · exact hs
    obtain ⟨h1, h2, h3, h4⟩ := best_inv x L (bestF x s a) hs'
    have hmono : s.found = true → (bestF x s a).found = true ∧ (bestF x s a).least ≤ s.least := by
      intro h
      unfold bestF; split
      · rename_i hc
        refine ⟨rfl, ?_⟩
        rcases hc.2 with h5 | h5
        · rw [h] at h5; cases h5
        · dsimp only; omega
      · exact ⟨h, Int.le_refl _⟩
    have hhead : (costOf x a).2 = 0 → (bestF x s a).found = true ∧ (bestF x s a).least ≤ (costOf x a).1 := by
      intro h0
      unfold bestF; split
      · exact ⟨rfl, Int.le_refl _⟩
      · rename_i hc
        simp only [h0, true_and, not_or, Bool.not_eq_false] at hc
        exact ⟨hc.1, by omega⟩
    refine ⟨h1, fun h => ?_, fun l hl h0 => ?_, fun h => ?_⟩
    · obtain ⟨a1, a2⟩ := hmono h
      obtain ⟨a3, a4⟩ := h2 a1
      exact ⟨a3, by omega⟩
    · rcases List.mem_cons.1 hl with rfl | hl
      · obtain ⟨a1, a2⟩ := hhead h0
        obtain ⟨a3, a4⟩ := h2 a1
        exact ⟨a3, by omega⟩
      · exact h3 l hl h0
    · rcases h4 h with ⟨a1, a2⟩ | ⟨l, a1, a2, a3⟩
      · by_cases hc : (costOf x a).2 = 0 ∧ (s.found = false ∨ (costOf x a).1 < s.least)
        · have e : bestF x s a = ⟨a, (costOf x a).1, true⟩ := if_pos hc
          refine .inr ⟨a, List.mem_cons_self, hc.1, ?_⟩
          rw [a2, e]
        · have e : bestF x s a = s := if_neg hc
          rw [e] at a1 a2
          exact .inl ⟨a1, by rw [e]; exact a2⟩
      · exact .inr ⟨l, List.mem_cons_of_mem _ a1, a2, a3⟩

/-- An answer that is one of all, and no worse than any, is the best one. -/
theorem best_of {x : Ins} {l : List Int} {c : Int} {ok : Bool} (h1 : ok = true → l ∈ allOf x ∧ (costOf x l).2 = 0 ∧ (costOf x l).1 = c) (h2 : ∀ y, (costOf x y).2 = 0 → ok = true ∧ c ≤ (costOf x y).1) (h3 : ok = false → c = 0) :
    ok = (bestOf x).found ∧ c = (bestOf x).least := by
  obtain ⟨a1, _, a3, a4⟩ := best_inv x (allOf x) ⟨[], 0, false⟩ (.inr rfl)
  change ((bestOf x).found = true ∨ (bestOf x).least = 0) at a1
  change ∀ l ∈ allOf x, (costOf x l).2 = 0 → (bestOf x).found = true ∧ (bestOf x).least ≤ (costOf x l).1 at a3
  change (bestOf x).found = true → (false = true ∧ (bestOf x).least = 0) ∨ ∃ l ∈ allOf x, (costOf x l).2 = 0 ∧ (costOf x l).1 = (bestOf x).least at a4
  cases ok with
  | true =>
    obtain ⟨b1, b2, b3⟩ := h1 rfl
    obtain ⟨c1, c2⟩ := a3 l b1 b2
    refine ⟨c1.symm, ?_⟩
    rcases a4 c1 with ⟨d, _⟩ | ⟨y, d1, d2, d3⟩
    · cases d
    · have := (h2 y d2).2
      omega
  | false =>
    have hf : (bestOf x).found = false := by
      cases hb : (bestOf x).found with
      | false => rfl
      | true =>
        rcases a4 hb with ⟨d, _⟩ | ⟨y, d1, d2, d3⟩
        · cases d
        · exact absurd (h2 y d2).1 (by decide)
    refine ⟨hf.symm, ?_⟩
    rw [h3 rfl]
    rcases a1 with h | h
    · rw [hf] at h; cases h
    · exact h.symm

theorem orders_mem {n : Nat} : ∀ (f : Nat) (h l : List Int), l.length = f → (h ++ l).Nodup → (∀ e ∈ l, 0 ≤ e ∧ e < (n : Int)) → h ++ l ∈ ordersF n f h
  | 0, h, l, hl, _, _ => by
    have : l = [] := List.length_eq_zero_iff.1 hl
    subst this; simp [ordersF]
  | f + 1, h, [], hl, _, _ => by simp at hl
  | f + 1, h, e :: l, hl, hnd, hr => by
    have he := hr e List.mem_cons_self
    obtain ⟨j, rfl⟩ := Int.eq_ofNat_of_zero_le he.1
    rw [ordersF]
    refine List.mem_flatMap.2 ⟨j, List.mem_range.2 (by omega), ?_⟩
    have hc : ¬ h.contains (j : Int) = true := by
      rw [List.contains_iff_mem]
      intro hm
      rw [List.nodup_append] at hnd
      exact hnd.2.2 _ hm _ List.mem_cons_self rfl
    rw [if_neg hc]
    have ea : h ++ (j : Int) :: l = (h ++ [(j : Int)]) ++ l := by simp
    rw [ea] at hnd ⊢
    exact orders_mem f _ l (by simpa using hl) hnd fun e he => hr e (List.mem_cons_of_mem _ he)

/- Numbers that rise. -/
theorem rising_push {k n : Int} : ∀ {l : List Int} {last : Int}, rising k last l = true → last < k → k < n → rising n last (l ++ [k]) = true
  | [], last, _, h1, h2 => by simp [rising]; omega
  | e :: l, last, h, h1, h2 => by
    simp only [rising, List.cons_append, Bool.and_eq_true, Bool.not_eq_true', decide_eq_false_iff_not] at h ⊢
    exact ⟨by omega, rising_push h.2 (by omega) h2⟩
theorem rising_mono {k n : Int} (hkn : k ≤ n) : ∀ {l : List Int} {last : Int}, rising k last l = true → rising n last l = true
  | [], last, _ => rfl
  | e :: l, last, h => by
    simp only [rising, Bool.and_eq_true, Bool.not_eq_true', decide_eq_false_iff_not] at h ⊢
    exact ⟨by omega, rising_mono hkn h.2⟩
theorem rising_cases {k : Int} : ∀ {l : List Int} {last : Int}, rising (k + 1) last l = true → rising k last l = true ∨ ∃ l', l = l' ++ [k] ∧ rising k last l' = true
  | [], last, _ => .inl rfl
  | e :: l, last, h => by
    simp only [rising, Bool.and_eq_true, Bool.not_eq_true', decide_eq_false_iff_not] at h
    by_cases hek : e = k
    · subst hek
      have : l = [] := by
        cases l with
        | nil => rfl
        | cons y l =>
          have := rising_mem h.2 y List.mem_cons_self
          omega
      subst this
      exact .inr ⟨[], rfl, rfl⟩
    · rcases rising_cases h.2 with h1 | ⟨l', rfl, h1⟩
      · refine .inl ?_
        simp only [rising, Bool.and_eq_true, Bool.not_eq_true', decide_eq_false_iff_not]
        exact ⟨by omega, h1⟩
      · refine .inr ⟨e :: l', rfl, ?_⟩
        simp only [rising, Bool.and_eq_true, Bool.not_eq_true', decide_eq_false_iff_not]
        exact ⟨by omega, h1⟩
theorem rising_zero {l : List Int} (h : rising 0 (-1) l = true) : l = [] := by
  cases l with
  | nil => rfl
  | cons e l => have := rising_mem h e List.mem_cons_self; omega

theorem elemsOf_snoc (l : List Int) (a : Int) : elemsOf (l ++ [a]) = elemsOf l ||| 2 ^ a.toNat := by unfold elemsOf; rw [List.foldl_append]; rfl
theorem elemsOf_lt {n : Nat} {l : List Int} (h : ∀ e ∈ l, 0 ≤ e ∧ e < (n : Int)) : elemsOf l < 2 ^ n := elems_lt l 0 (Nat.pow_pos (by decide)) h
theorem elems_bit : ∀ (l : List Int) (m j : Nat), (∀ e ∈ l, 0 ≤ e) → ((l.foldl (fun m e => m ||| 2 ^ e.toNat) m).testBit j = (m.testBit j || l.contains (j : Int)))
  | [], m, j, _ => by simp
  | e :: l, m, j, h => by
    have he := h e List.mem_cons_self
    rw [List.foldl_cons, elems_bit l _ j fun e' he' => h e' (List.mem_cons_of_mem _ he'), Nat.testBit_or, Nat.testBit_two_pow, List.contains_cons, Bool.or_assoc]
    congr 2
    rw [Bool.eq_iff_iff, decide_eq_true_iff, beq_iff_eq]
    omega
theorem elemsOf_bit {l : List Int} (h : ∀ e ∈ l, 0 ≤ e) (j : Nat) : (elemsOf l).testBit j = l.contains (j : Int) := by
  unfold elemsOf; rw [elems_bit l 0 j h]; simp
theorem bitsTo_congr {n m m' : Nat} (h : ∀ j, j < n → m.testBit j = m'.testBit j) : bitsTo n m = bitsTo n m' := by
  unfold bitsTo
  congr 1
  refine List.filter_congr fun j hj => ?_
  exact h j (List.mem_range.1 hj)
theorem bitsTo_elems : ∀ (n : Nat) (l : List Int), rising n (-1) l = true → bitsTo n (elemsOf l) = l
  | 0, l, h => by rw [rising_zero h]; rfl
  | n + 1, l, h => by
    rcases rising_cases (k := (n : Int)) h with h1 | ⟨l', rfl, h1⟩
    · have hlt := elemsOf_lt (n := n) fun e he => by have := rising_mem h1 e he; omega
      rw [bitsTo_succ, Nat.testBit_lt_two_pow hlt, if_neg (by decide)]
      exact bitsTo_elems n l h1
    · have hlt := elemsOf_lt (n := n) (l := l') fun e he => by have := rising_mem h1 e he; omega
      rw [bitsTo_succ, elemsOf_snoc, Int.toNat_natCast, Nat.testBit_or, Nat.testBit_two_pow_self, Bool.or_true, if_pos rfl]
      congr 1
      rw [bitsTo_congr (m' := elemsOf l') fun j hj => by rw [Nat.testBit_or, Nat.testBit_two_pow, decide_eq_false (by omega), Bool.or_false]]
      exact bitsTo_elems n l' h1
theorem bits_mem {n : Nat} {l : List Int} (h : rising n (-1) l = true) : l ∈ (List.range (2 ^ n)).map (bitsTo n) :=
  List.mem_map.2 ⟨elemsOf l, List.mem_range.2 (elemsOf_lt fun e he => by have := rising_mem h e he; omega), bitsTo_elems n l h⟩
theorem bits_len {n : Nat} {l : List Int} (h : l ∈ (List.range (2 ^ n)).map (bitsTo n)) : l.length ≤ n := by
  obtain ⟨m, _, rfl⟩ := List.mem_map.1 h; exact bitsTo_length n m
theorem orders_len {n : Nat} : ∀ (f : Nat) (h l : List Int), l ∈ ordersF n f h → l.length = h.length + f
  | 0, h, l, hl => by rw [ordersF, List.mem_singleton] at hl; rw [hl]; rfl
  | f + 1, h, l, hl => by
    rw [ordersF] at hl
    obtain ⟨k, _, hl⟩ := List.mem_flatMap.1 hl
    split at hl
    · cases hl
    · rw [orders_len f _ l hl]; simp; omega
end W

open Go Go.Eng
namespace W

def itemAt (items : List (Int × Int)) (k : Int) : Int × Int := items.getD k.toNat (0, 0)
def sumV (items : List (Int × Int)) (l : List Int) : Int := (l.map fun k => (itemAt items k).1).sum
def sumWt (items : List (Int × Int)) (l : List Int) : Int := (l.map fun k => (itemAt items k).2).sum
theorem sumV_snoc (items : List (Int × Int)) (l : List Int) (k : Nat) : sumV items (l ++ [(k : Int)]) = sumV items l + (items.getD k (0, 0)).1 := by simp [sumV, itemAt]
theorem sumWt_snoc (items : List (Int × Int)) (l : List Int) (k : Nat) : sumWt items (l ++ [(k : Int)]) = sumWt items l + (items.getD k (0, 0)).2 := by simp [sumWt, itemAt]
structure ItemsOk (items : List (Int × Int)) : Prop where
  each : ∀ k : Nat, 0 ≤ (items.getD k (0, 0)).1 ∧ 0 ≤ (items.getD k (0, 0)).2
theorem Valid.itemsOk {x : Ins} (hv : Valid x) : ItemsOk x.items := ⟨fun k => by
  by_cases hk : k < x.items.length
  · rw [getD_eq hk]; have := hv.item _ (List.getElem_mem hk); omega
  · rw [List.getD_eq_getElem?_getD, List.getElem?_eq_none_iff.2 (by omega)]; exact ⟨by decide, by decide⟩⟩
theorem sumWt_nonneg {items : List (Int × Int)} (h : ItemsOk items) : ∀ l, 0 ≤ sumWt items l
  | [] => by simp [sumWt]
  | k :: l => by
    have := sumWt_nonneg h l
    have h2 := (h.each k.toNat).2
    unfold sumWt itemAt at this ⊢
    rw [List.map_cons, List.sum_cons]; omega
theorem row_mono {items : List (Int × Int)} {R k w : Nat} (hw : w ≤ R) : (rowK items R k).getD w 0 ≤ (rowK items R (k + 1)).getD w 0 := by
  have hl : w < (rowK items R k).length := by rw [rowK_length]; omega
  rw [rowK]; unfold nextRow
  rw [mixRow_getD _ _ _ hl]
  unfold mixAt; split <;> omega
theorem knap_opt {items : List (Int × Int)} (h : ItemsOk items) {R : Nat} : ∀ (k w : Nat) (l : List Int), rising k (-1) l = true → sumWt items l ≤ (w : Int) → w ≤ R → sumV items l ≤ (rowK items R k).getD w 0
  | 0, w, l, hr, hw, hwR => by
    rw [rising_zero hr]
    rw [rowK, List.getD_eq_getElem?_getD, List.getElem?_replicate, if_pos (by omega)]
    simp [sumV]
  | k + 1, w, l, hr, hw, hwR => by
    rcases rising_cases (k := (k : Int)) hr with h1 | ⟨l', rfl, h1⟩
    · have := knap_opt h (R := R) k w l h1 hw hwR
      have := row_mono (items := items) (k := k) hwR
      omega
    · rw [sumV_snoc]
      rw [sumWt_snoc] at hw
      have hn := sumWt_nonneg h l'
      have hk := (h.each k).2
      have ih := knap_opt h (R := R) k (w - (items.getD k (0, 0)).2.toNat) l' h1 (by omega) (by omega)
      have hl : w < (rowK items R k).length := by rw [rowK_length]; omega
      rw [rowK]; unfold nextRow
      rw [mixRow_getD _ _ _ hl]
      unfold mixAt
      rw [if_pos ⟨by omega, hl⟩]
      omega
theorem knap_ach {items : List (Int × Int)} (h : ItemsOk items) {R : Nat} : ∀ (k w : Nat), w ≤ R → rising k (-1) (backK items R k w).reverse = true ∧ sumWt items (backK items R k w).reverse ≤ (w : Int) ∧ sumV items (backK items R k w).reverse = (rowK items R k).getD w 0
  | 0, w, hw => by
    refine ⟨rfl, by simp [backK, sumWt], ?_⟩
    rw [rowK, List.getD_eq_getElem?_getD, List.getElem?_replicate, if_pos (by omega)]
    simp [sumV, backK]
  | k + 1, w, hw => by
    rw [backK]
    split
    · rename_i hd
      obtain ⟨d1, d2⟩ := row_differ hw hd
      have hk := (h.each k).2
      obtain ⟨a1, a2, a3⟩ := knap_ach h (R := R) k (w - (items.getD k (0, 0)).2.toNat) (by omega)
      rw [List.reverse_cons]
      refine ⟨rising_push a1 (by omega) (by omega), ?_, ?_⟩
      · rw [sumWt_snoc]; omega
      · rw [sumV_snoc, a3, d2]
    · rename_i hd
      simp only [ne_eq, Decidable.not_not] at hd
      obtain ⟨a1, a2, a3⟩ := knap_ach h k w hw
      exact ⟨rising_mono (by omega) a1, a2, by rw [a3, hd]⟩
theorem sumWt_all {items : List (Int × Int)} (h : ItemsOk items) : ∀ (k : Nat) (l : List Int), k ≤ items.length → rising k (-1) l = true → sumWt items l ≤ ((items.take k).map (·.2)).sum
  | 0, l, _, hr => by rw [rising_zero hr]; simp [sumWt]
  | k + 1, l, hk, hr => by
    have hlt : k < items.length := hk
    rw [List.take_succ_eq_append_getElem hlt, List.map_append, List.sum_append]
    have hw := (h.each k).2
    rw [getD_eq hlt] at hw
    simp only [List.map_cons, List.map_nil, List.sum_cons, List.sum_nil]
    rcases rising_cases (k := (k : Int)) hr with h1 | ⟨l', rfl, h1⟩
    · have := sumWt_all h k l (by omega) h1; omega
    · have := sumWt_all h k l' (by omega) h1
      rw [sumWt_snoc, getD_eq hlt]; omega

theorem parts_kind0 {x : Ins} (h0 : x.kind = 0) (l : List Int) : (parts x l).sum = sumV x.items l := by
  unfold parts sumV
  congr 1
  apply List.ext_getElem (by simp)
  intro i h1 h2
  simp only [List.getElem_map, List.getElem_range, partAt, if_pos h0, itemAt]
  rw [getD_eq (l := l) (by simpa using h2)]

theorem knap_law {x : Ins} (hc : chk x = 0) (h0 : x.kind = 0) : (dynAns x).ok = (bestOf x).found ∧ (dynAns x).c = (bestOf x).least ∧ (costOf x (dynAns x).l).2 = 0 ∧ (costOf x (dynAns x).l).1 = (dynAns x).c := by
  have hv := Valid.of hc
  have hi := hv.itemsOk
  have hw := sumW_bound hv
  have hcap := hv.cap
  obtain ⟨R, hR⟩ := Int.eq_ofNat_of_zero_le (show 0 ≤ roomOf x by unfold roomOf; omega)
  have hRc : (R : Int) ≤ x.cap ∧ (R : Int) ≤ sumW x ∧ ((R : Int) = x.cap ∨ (R : Int) = sumW x) := by unfold roomOf at hR; omega
  have eA : dynAns x = ⟨(backK x.items R x.items.length R).reverse, -((rowK x.items R x.items.length).getD R 0), true⟩ := by unfold dynAns; rw [if_pos h0, hR, Int.toNat_natCast]
  obtain ⟨a1, a2, a3⟩ := knap_ach hi x.items.length R (Nat.le_refl _)
  have may : ∀ l, mayB x l = (rising x.items.length (-1) l && decide (sumWt x.items l ≤ x.cap)) := fun l => by unfold mayB weights sumWt itemAt; rw [if_pos h0]
  have cost : ∀ l, mayB x l = true → costOf x l = (-(sumV x.items l), 0) := fun l hl => by
    unfold costOf valueOf
    rw [if_pos h0, if_neg (by rw [hc]; decide), if_neg (by rw [hl]; decide), parts_kind0 h0]
  have hmay : mayB x (backK x.items R x.items.length R).reverse = true := by
    rw [may, a1]; simp; omega
  have hcst := cost _ hmay
  rw [a3] at hcst
  rw [eA]
  have hb := best_of (x := x) (l := (backK x.items R x.items.length R).reverse) (c := -((rowK x.items R x.items.length).getD R 0)) (ok := true) (fun _ => ⟨by
      unfold allOf decs
      rw [if_neg (by omega), if_neg (by omega), if_pos h0]
      exact bits_mem a1, by rw [hcst], by rw [hcst]⟩) (fun y hy => ⟨rfl, by
      have hmy : mayB x y = true := by
        cases hm : mayB x y with
        | true => rfl
        | false =>
          exfalso
          unfold costOf valueOf at hy
          rw [if_pos h0, if_neg (by rw [hc]; decide), if_pos hm] at hy
          cases hy
      rw [cost y hmy]
      rw [may, Bool.and_eq_true, decide_eq_true_iff] at hmy
      have h1 := sumWt_all hi x.items.length y (Nat.le_refl _) hmy.1
      rw [List.take_of_length_le (Nat.le_refl _)] at h1
      have h2 : sumWt x.items y ≤ (R : Int) := by
        rcases hRc.2.2 with h | h
        · omega
        · rw [h]; exact h1
      have := knap_opt hi (R := R) x.items.length R y hmy.1 h2 (Nat.le_refl _)
      dsimp only; omega⟩) (fun h => by cases h)
  exact ⟨hb.1, hb.2, by rw [hcst], by rw [hcst]⟩
end W

open Go Go.Eng
namespace W

theorem snoc_ind {α : Type} {p : List α → Prop} (h0 : p []) (hs : ∀ l a, p l → p (l ++ [a])) (l : List α) : p l := by
  have : ∀ l : List α, p l.reverse := by
    intro l
    induction l with
    | nil => exact h0
    | cons a l ih => rw [List.reverse_cons]; exact hs _ _ ih
  have := this l.reverse
  rwa [List.reverse_reverse] at this
def InR (n : Nat) (l : List Int) : Prop := ∀ e ∈ l, 0 ≤ e ∧ e < (n : Int)
theorem InR.left {n : Nat} {l : List Int} {a : Int} (h : InR n (l ++ [a])) : InR n l ∧ 0 ≤ a ∧ a < (n : Int) := ⟨fun e he => h e (by simp [he]), h a (by simp)⟩
theorem nodup_snoc {l : List Int} {a : Int} (h : (l ++ [a]).Nodup) : l.Nodup ∧ a ∉ l := by
  rw [List.nodup_append] at h
  exact ⟨h.1, fun hm => h.2.2 a hm a (by simp) rfl⟩
theorem popn_or {m k : Nat} (hk : k < 64) (hb : m.testBit k = false) : popn 64 (m ||| 2 ^ k) = popn 64 m + 1 := by
  rw [popn_eq, popn_eq]
  refine cnt_ins hk hb (by simp [Nat.testBit_or]) fun i hi => ?_
  rw [Nat.testBit_or, Nat.testBit_two_pow, decide_eq_false (fun h => hi h.symm), Bool.or_false]
theorem mask_bit {n : Nat} {l : List Int} (h : InR n l) (j : Nat) : (elemsOf l).testBit j = l.contains (j : Int) := elemsOf_bit (fun e he => (h e he).1) j
theorem mask_free {n : Nat} {l : List Int} (h : InR n l) {j : Nat} (hj : (j : Int) ∉ l) : (elemsOf l).testBit j = false := by
  rw [mask_bit h, Bool.eq_false_iff]
  intro hc; exact hj (List.contains_iff_mem.1 hc)
theorem popn_mask {n : Nat} (hn : n ≤ 64) (l : List Int) : l.Nodup → InR n l → popn 64 (elemsOf l) = l.length := by
  induction l using snoc_ind with
  | h0 => intro _ _; rfl
  | hs l a ih =>
    intro hnd hr
    obtain ⟨h1, h2⟩ := nodup_snoc hnd
    obtain ⟨h3, h4, h5⟩ := hr.left
    obtain ⟨k, rfl⟩ := Int.eq_ofNat_of_zero_le h4
    rw [elemsOf_snoc, Int.toNat_natCast, popn_or (by omega) (mask_free h3 h2), ih h1 h3]
    simp
theorem cnt64 {n u : Nat} (hn : n ≤ 64) (hu : u < 2 ^ n) : cnt u.testBit 64 = cnt u.testBit n := by
  obtain ⟨d, hd⟩ := Nat.exists_eq_add_of_le hn
  rw [hd, cnt_add, cnt_false (f := fun i => u.testBit (n + i)), Nat.add_zero]
  intro i _
  exact Nat.testBit_lt_two_pow (Nat.lt_of_lt_of_le hu (two_pow_le (Nat.le_add_right _ _)))
theorem full_of_mask {n : Nat} (hn : n ≤ 64) {l : List Int} (hnd : l.Nodup) (hr : InR n l) (hm : elemsOf l = 2 ^ n - 1) : eachB n l = true := by
  have hbit : ∀ k, k < n → (k : Int) ∈ l := by
    intro k hk
    have := mask_bit hr k
    rw [hm, Nat.testBit_two_pow_sub_one, decide_eq_true hk] at this
    exact List.contains_iff_mem.1 this.symm
  have hlen : l.length = n := by
    rw [← popn_mask hn l hnd hr, popn_eq, hm, cnt64 hn (by have := Nat.pow_pos (n := n) (show 0 < 2 by decide); omega)]
    exact cnt_all.2 fun i hi => by rw [Nat.testBit_two_pow_sub_one]; simpa using hi
  simp only [eachB, Bool.and_eq_true, List.all_eq_true, beq_iff_eq, List.mem_range]
  refine ⟨fun k hk => ?_, hlen⟩
  have h1 := List.nodup_iff_count.1 hnd (k : Int)
  have h2 := List.count_pos_iff.2 (hbit k hk)
  omega
theorem mask_of_full {n : Nat} {l : List Int} (h : eachB n l = true) : l.Nodup ∧ InR n l ∧ elemsOf l = 2 ^ n - 1 := by
  have hm := eachB_mem h
  simp only [eachB, Bool.and_eq_true, List.all_eq_true, beq_iff_eq, List.mem_range] at h
  have hr : InR n l := fun e he => hm e he
  refine ⟨List.nodup_iff_count.2 fun a => ?_, hr, ?_⟩
  · by_cases ha : a ∈ l
    · have := hm a ha
      obtain ⟨k, rfl⟩ := Int.eq_ofNat_of_zero_le this.1
      rw [h.1 k (by omega)]
      exact Nat.le_refl _
    · rw [List.count_eq_zero.2 ha]; omega
  · apply Nat.eq_of_testBit_eq
    intro j
    rw [mask_bit hr, Nat.testBit_two_pow_sub_one, Bool.eq_iff_iff, List.contains_iff_mem, decide_eq_true_iff]
    constructor
    · intro hj; have := hm _ hj; omega
    · intro hj
      have := h.1 j hj
      exact List.count_pos_iff.1 (by omega)

def costA (m : List (List Int)) (l : List Int) : Int := ((List.range l.length).map fun i => costAt m i (l.getD i 0).toNat).sum
theorem costA_snoc (m : List (List Int)) (l : List Int) (k : Nat) : costA m (l ++ [(k : Int)]) = costA m l + costAt m l.length k := by
  unfold costA
  rw [List.length_append, List.length_singleton, List.range_succ, List.map_append, List.sum_append]
  congr 1
  · congr 1
    apply List.map_congr_left
    intro i hi
    have hi := List.mem_range.1 hi
    rw [getD_eq (by simp; omega), getD_eq hi, List.getElem_append_left hi]
  · simp

theorem match_opt {m : List (List Int)} (hm : Sq m) (hn : m.length ≤ 20) (l : List Int) : l.Nodup → InR m.length l → (cat (aTable m) (elemsOf l)).there = true ∧ (cat (aTable m) (elemsOf l)).cost ≤ costA m l := by
  have g := aTable_good hm
  have hN : 0 < 2 ^ m.length := Nat.pow_pos (by decide)
  induction l using snoc_ind with
  | h0 =>
    intro _ _
    have := g.init 0 (by rw [cat_start hN, if_pos rfl])
    rw [cat_start hN, if_pos rfl] at this
    exact this
  | hs l a ih =>
    intro hnd hr
    obtain ⟨h1, h2⟩ := nodup_snoc hnd
    obtain ⟨h3, h4, h5⟩ := hr.left
    obtain ⟨k, rfl⟩ := Int.eq_ofNat_of_zero_le h4
    obtain ⟨i1, i2⟩ := ih h1 h3
    have hb := mask_free h3 h2
    have := g.best _ (aEdges_mem.2 ⟨elemsOf l, k, elemsOf_lt h3, by omega, hb, rfl⟩) i1
    dsimp only at this
    rw [popn_mask (n := m.length) (by omega) l h1 h3] at this
    rw [elemsOf_snoc, Int.toNat_natCast, costA_snoc]
    exact ⟨this.1, by omega⟩

theorem match_ach {m : List (List Int)} (hm : Sq m) (hn : m.length ≤ 20) : ∀ (u : Nat), u < 2 ^ m.length → (cat (aTable m) u).there = true → ∃ l : List Int, l.Nodup ∧ InR m.length l ∧ elemsOf l = u ∧ costA m l = (cat (aTable m) u).cost ∧ ∀ f, u < f → traceF (aTable m) f u = l.reverse := by
  have g := aTable_good hm
  have hN : 0 < 2 ^ m.length := Nat.pow_pos (by decide)
  have hok := aEdges_ok hm m.length
  intro u
  induction u using Nat.strongRecOn with
  | _ u ih =>
    intro hu hth
    rcases g.way u hth with h | ⟨e, he, h1, h2, h3⟩
    · rw [h, cat_start hN] at hth
      have h0 : u = 0 := by
        by_cases h0 : u = 0
        · exact h0
        · rw [if_neg h0] at hth; cases hth
      subst h0
      rw [cat_start hN, if_pos rfl] at h
      refine ⟨[], List.nodup_nil, fun e he => (nomatch he), rfl, by rw [h]; rfl, fun f hf => ?_⟩
      obtain ⟨f, rfl⟩ := Nat.exists_eq_succ_of_ne_zero (show f ≠ 0 by omega)
      rw [traceF, h]; rfl
    · have hlt := (hok.each e he).lt
      obtain ⟨w, k, hw, hk, hb, rfl⟩ := aEdges_mem.1 he
      dsimp only at h1 h2 h3 hlt
      obtain ⟨l, i1, i2, i3, i4, i5⟩ := ih w (by omega) hw h2
      have hkl : (k : Int) ∉ l := by
        intro hm'
        have := mask_bit i2 k
        rw [i3, hb, List.contains_iff_mem.2 hm'] at this; cases this
      have hpop : popn 64 w = l.length := by rw [← i3]; exact popn_mask (n := m.length) (by omega) l i1 i2
      refine ⟨l ++ [(k : Int)], ?_, ?_, ?_, ?_, fun f hf => ?_⟩
      · rw [List.nodup_append]
        refine ⟨i1, by simp, fun a ha b hb' => ?_⟩
        rw [List.mem_singleton] at hb'
        subst hb'
        rintro rfl; exact hkl ha
      · intro e he
        rcases List.mem_append.1 he with he | he
        · exact i2 e he
        · rw [List.mem_singleton] at he; subst he; omega
      · rw [elemsOf_snoc, Int.toNat_natCast, i3]; exact h1
      · rw [costA_snoc, i4, h3]; simp only [Edge.to]; rw [hpop]
      · obtain ⟨f, rfl⟩ := Nat.exists_eq_succ_of_ne_zero (show f ≠ 0 by omega)
        have hmv : (cat (aTable m) u).mv = (k : Int) := by rw [h3]; rfl
        have hfr : (cat (aTable m) u).fr = (w : Int) := by rw [h3]; rfl
        rw [traceF, hmv, hfr, if_pos (Int.natCast_nonneg k), Int.toNat_natCast, i5 f (by omega), List.reverse_append]
        rfl

theorem parts_kind1 {x : Ins} (h1 : x.kind = 1) (l : List Int) : (parts x l).sum = costA x.cost l := by
  unfold parts costA
  congr 1
  apply List.map_congr_left
  intro i _
  simp only [partAt]
  rw [if_neg (by omega), if_pos h1]; rfl

theorem match_law {x : Ins} (hc : chk x = 0) (h1 : x.kind = 1) (hn : x.cost.length ≤ 8) : (dynAns x).ok = (bestOf x).found ∧ (dynAns x).c = (bestOf x).least ∧ (costOf x (dynAns x).l).2 = 0 ∧ (costOf x (dynAns x).l).1 = (dynAns x).c := by
  have hv := Valid.of hc
  have hm := hv.sq
  have hN : 0 < 2 ^ x.cost.length := Nat.pow_pos (by decide)
  have may : ∀ l, mayB x l = eachB x.cost.length l := fun l => by unfold mayB; rw [if_neg (by omega), if_pos h1]
  have cost : ∀ l, mayB x l = true → costOf x l = (costA x.cost l, 0) := fun l hl => by
    unfold costOf valueOf
    rw [if_neg (by omega), if_neg (by rw [hc]; decide), if_neg (by rw [hl]; decide), parts_kind1 h1]
  have hlast : (cat (aTable x.cost) (2 ^ x.cost.length - 1)).there = true :=
    a_there (m := x.cost) (n := x.cost.length) hN (aTable_good hm) (u := 2 ^ x.cost.length) (fun e he => he) _ (by omega) (by omega)
  obtain ⟨l, l1, l2, l3, l4, l5⟩ := match_ach hm (by omega) (2 ^ x.cost.length - 1) (by omega) hlast
  have l5 := l5 (2 ^ x.cost.length) (by omega)
  have eA : dynAns x = ⟨l, (cat (aTable x.cost) (2 ^ x.cost.length - 1)).cost, true⟩ := by
    unfold dynAns; rw [if_neg (by omega), if_pos h1, l5, List.reverse_reverse]
  have hfull := full_of_mask (n := x.cost.length) (by omega) l1 l2 l3
  have hcst := cost l (by rw [may]; exact hfull)
  rw [l4] at hcst
  rw [eA]
  have hb := best_of (x := x) (l := l) (c := (cat (aTable x.cost) (2 ^ x.cost.length - 1)).cost) (ok := true) (fun _ => ⟨by
      unfold allOf
      rw [if_pos h1]
      have := orders_mem (n := x.cost.length) x.cost.length [] l (eachB_length hfull) (by simpa using l1) l2
      simpa using this, by rw [hcst], by rw [hcst]⟩) (fun y hy => ⟨rfl, by
      have hmy : mayB x y = true := by
        cases hm' : mayB x y with
        | true => rfl
        | false =>
          exfalso
          unfold costOf valueOf at hy
          rw [if_neg (by omega), if_neg (by rw [hc]; decide), if_pos hm'] at hy
          cases hy
      rw [cost y hmy]
      rw [may] at hmy
      obtain ⟨y1, y2, y3⟩ := mask_of_full hmy
      have := (match_opt hm (by omega) y y1 y2).2
      rw [y3] at this
      exact this⟩) (fun h => by cases h)
  exact ⟨hb.1, hb.2, by rw [hcst], by rw [hcst]⟩
end W

open Go Go.Eng
namespace W

def unionU (sets : List CSet) (l : List Int) : Nat := l.foldl (fun m k => m ||| elemsOf (setAt sets k.toNat).2) 0
def costS (sets : List CSet) (l : List Int) : Int := (l.map fun k => (setAt sets k.toNat).1).sum
theorem unionU_snoc (sets : List CSet) (l : List Int) (k : Nat) : unionU sets (l ++ [(k : Int)]) = unionU sets l ||| elemsOf (setAt sets k).2 := by unfold unionU; rw [List.foldl_append]; rfl
theorem costS_snoc (sets : List CSet) (l : List Int) (k : Nat) : costS sets (l ++ [(k : Int)]) = costS sets l + (setAt sets k).1 := by simp [costS]
theorem unionU_lt {sets : List CSet} {s : Nat} (hs : SetsOk sets s) (l : List Int) : unionU sets l < 2 ^ s := by
  have : ∀ (l : List Int) (m : Nat), m < 2 ^ s → l.foldl (fun m k => m ||| elemsOf (setAt sets k.toNat).2) m < 2 ^ s := by
    intro l
    induction l with
    | nil => intro m h; exact h
    | cons a l ih => intro m h; rw [List.foldl_cons]; exact ih _ (or_lt' hs _ h)
  exact this l 0 (Nat.pow_pos (by decide))
theorem unionU_bit {sets : List CSet} {s : Nat} (hs : SetsOk sets s) (l : List Int) (j : Nat) : (unionU sets l).testBit j = l.any fun k => (setAt sets k.toNat).2.contains (j : Int) := by
  have : ∀ (l : List Int) (m : Nat), (l.foldl (fun m k => m ||| elemsOf (setAt sets k.toNat).2) m).testBit j = (m.testBit j || l.any fun k => (setAt sets k.toNat).2.contains (j : Int)) := by
    intro l
    induction l with
    | nil => intro m; simp
    | cons a l ih => intro m; rw [List.foldl_cons, ih, Nat.testBit_or, elemsOf_bit (fun e he => ((hs.at a.toNat).2 e he).1), List.any_cons, Bool.or_assoc]
  unfold unionU; rw [this]; simp

theorem cover_opt {sets : List CSet} {s z : Nat} (hs : SetsOk sets s) (hz : 2 ^ s = z) : ∀ (k : Nat) (l : List Int), k ≤ sets.length → rising k (-1) l = true →
    (cat (cTable sets z) (k * z + unionU sets l)).there = true ∧ (cat (cTable sets z) (k * z + unionU sets l)).cost ≤ costS sets l
  | 0, l, _, hr => by
    subst hz
    rw [rising_zero hr]
    have hN : 0 < (sets.length + 1) * 2 ^ s := Nat.mul_pos (by omega) (Nat.pow_pos (by decide))
    have := (cTable_good hs).init 0 (by rw [cat_start hN, if_pos rfl])
    rw [cat_start hN, if_pos rfl] at this
    rw [show 0 * 2 ^ s + unionU sets [] = 0 by simp [unionU]]
    exact this
  | k + 1, l, hk, hr => by
    have g := cTable_good hs
    rw [hz] at g
    rcases rising_cases (k := (k : Int)) hr with h1 | ⟨l', rfl, h1⟩
    · obtain ⟨i1, i2⟩ := cover_opt hs hz k l (by omega) h1
      have hu : unionU sets l < z := by rw [← hz]; exact unionU_lt hs l
      have := g.best ⟨k * z + unionU sets l, k * z + unionU sets l + z, 0, none⟩ (cEdges_mem.2 ⟨k, unionU sets l, by omega, hu, by simp [cEdge]⟩) i1
      dsimp only at this
      rw [show (k + 1) * z + unionU sets l = k * z + unionU sets l + z by rw [Nat.succ_mul]; omega]
      exact ⟨this.1, by omega⟩
    · obtain ⟨i1, i2⟩ := cover_opt hs hz k l' (by omega) h1
      have hu : unionU sets l' < z := by rw [← hz]; exact unionU_lt hs l'
      have := g.best ⟨k * z + unionU sets l', (k + 1) * z + (unionU sets l' ||| elemsOf (setAt sets k).2), (setAt sets k).1, some ((k : Int), ((k * z + unionU sets l' : Nat) : Int))⟩ (cEdges_mem.2 ⟨k, unionU sets l', by omega, hu, by simp [cEdge]⟩) i1
      dsimp only at this
      rw [unionU_snoc, costS_snoc]
      exact ⟨this.1, by omega⟩

theorem cidx_inj {z k a k' a' : Nat} (ha : a < z) (ha' : a' < z) (h : k * z + a = k' * z + a') : k = k' ∧ a = a' := by
  rw [Nat.mul_comm k, Nat.mul_comm k'] at h
  exact idx_inj ha ha' h
theorem cover_ach {sets : List CSet} {s z : Nat} (hs : SetsOk sets s) (hz : 2 ^ s = z) : ∀ (k h : Nat), k ≤ sets.length → h < z → (cat (cTable sets z) (k * z + h)).there = true →
    ∃ l : List Int, rising k (-1) l = true ∧ unionU sets l = h ∧ costS sets l = (cat (cTable sets z) (k * z + h)).cost ∧ ∀ f, k * z + h < f → traceF (cTable sets z) f (k * z + h) = l.reverse := by
  have g := cTable_good hs
  rw [hz] at g
  have hN : 0 < (sets.length + 1) * z := by rw [← hz]; exact Nat.mul_pos (by omega) (Nat.pow_pos (by decide))
  have hz0 : 0 < z := by rw [← hz]; exact Nat.pow_pos (by decide)
  intro k
  induction k with
  | zero =>
    intro h hk hh hth
    rcases g.way _ hth with h1 | ⟨e, he, h1, h2, h3⟩
    · rw [h1, cat_start hN] at hth
      have h0 : 0 * z + h = 0 := by
        by_cases h0 : 0 * z + h = 0
        · exact h0
        · rw [if_neg h0] at hth; cases hth
      have hh0 : h = 0 := by omega
      subst hh0
      rw [cat_start hN, if_pos h0] at h1
      refine ⟨[], rfl, rfl, by rw [h1]; rfl, fun f hf => ?_⟩
      obtain ⟨f, rfl⟩ := Nat.exists_eq_succ_of_ne_zero (show f ≠ 0 by omega)
      rw [traceF, h1]; rfl
    · exfalso
      obtain ⟨k', a, hk', ha, he⟩ := cEdges_mem.1 he
      rcases (cEdge_mem he).2 with rfl | rfl <;> dsimp only at h1
      · omega
      · rw [Nat.succ_mul] at h1; omega
  | succ k ih =>
    intro h hk hh hth
    rcases g.way _ hth with h1 | ⟨e, he, h1, h2, h3⟩
    · exfalso
      rw [h1, cat_start hN, if_neg (by rw [Nat.succ_mul]; omega)] at hth
      cases hth
    · obtain ⟨k', a, hk', ha, he⟩ := cEdges_mem.1 he
      rcases (cEdge_mem he).2 with rfl | rfl <;> dsimp only at h1 h2
      · have hi : (k' + 1) * z + a = (k + 1) * z + h := by rw [← h1, Nat.succ_mul]; omega
        obtain ⟨e1, e2⟩ := cidx_inj ha hh hi
        have e1 : k' = k := by omega
        subst e1 e2
        obtain ⟨l, i1, i2, i3, i4⟩ := ih a (by omega) ha h2
        refine ⟨l, rising_mono (by omega) i1, i2, ?_, fun f hf => ?_⟩
        · rw [i3, h3]; simp [Edge.to]
        · obtain ⟨f, rfl⟩ := Nat.exists_eq_succ_of_ne_zero (show f ≠ 0 by omega)
          have := i4 (f + 1) (by rw [Nat.succ_mul] at hf; omega)
          rw [traceF] at this ⊢
          have hmv : (cat (cTable sets z) ((k' + 1) * z + a)).mv = (cat (cTable sets z) (k' * z + a)).mv := by rw [h3]; rfl
          have hfr : (cat (cTable sets z) ((k' + 1) * z + a)).fr = (cat (cTable sets z) (k' * z + a)).fr := by rw [h3]; rfl
          rw [hmv, hfr]; exact this
      · have hor : a ||| elemsOf (setAt sets k').2 < z := by rw [← hz]; exact or_lt' hs k' (by rw [hz]; exact ha)
        obtain ⟨e1, e2⟩ := cidx_inj hor hh h1
        have e1 : k' = k := by omega
        subst e1
        obtain ⟨l, i1, i2, i3, i4⟩ := ih a (by omega) ha h2
        refine ⟨l ++ [(k' : Int)], rising_push i1 (by omega) (by omega), ?_, ?_, fun f hf => ?_⟩
        · rw [unionU_snoc, i2, e2]
        · rw [costS_snoc, i3, h3]; rfl
        · obtain ⟨f, rfl⟩ := Nat.exists_eq_succ_of_ne_zero (show f ≠ 0 by omega)
          have hmv : (cat (cTable sets z) ((k' + 1) * z + h)).mv = (k' : Int) := by rw [h3]; rfl
          have hfr : (cat (cTable sets z) ((k' + 1) * z + h)).fr = ((k' * z + a : Nat) : Int) := by rw [h3]; rfl
          rw [traceF, hmv, hfr, if_pos (Int.natCast_nonneg k'), Int.toNat_natCast, i4 f (by rw [Nat.succ_mul] at hf; omega), List.reverse_append]
          rfl

theorem parts_kind3 {x : Ins} (h3 : x.kind = 3) (l : List Int) : (parts x l).sum = costS x.sets l := by
  unfold parts costS setAt
  congr 1
  apply List.ext_getElem (by simp)
  intro i h1 h2
  simp only [List.getElem_map, List.getElem_range, partAt]
  rw [if_neg (by omega), if_neg (by omega), if_neg (by omega), getD_eq (l := l) (by simpa using h2)]

theorem cover_law {x : Ins} (hc : chk x = 0) (h3 : x.kind = 3) : (dynAns x).ok = (bestOf x).found ∧ (dynAns x).c = (bestOf x).least ∧ ((dynAns x).ok = true → (costOf x (dynAns x).l).2 = 0 ∧ (costOf x (dynAns x).l).1 = (dynAns x).c) ∧ ((dynAns x).ok = false → (dynAns x).l = []) := by
  have hv := Valid.of hc
  have hs := hv.setsOk
  have hsz := hv.size
  have hz0 : 0 < 2 ^ x.size.toNat := Nat.pow_pos (by decide)
  have may : ∀ l, mayB x l = (rising x.sets.length (-1) l && decide (unionU x.sets l = 2 ^ x.size.toNat - 1)) := fun l => by
    unfold mayB coversB
    rw [if_neg (by omega), if_neg (by omega), if_neg (by omega)]
    congr 1
    rw [Bool.eq_iff_iff, decide_eq_true_iff, List.all_eq_true]
    constructor
    · intro h
      apply Nat.eq_of_testBit_eq
      intro j
      rw [unionU_bit hs, Nat.testBit_two_pow_sub_one]
      by_cases hj : j < x.size.toNat
      · rw [decide_eq_true hj]
        exact h j (List.mem_range.2 hj)
      · rw [decide_eq_false hj, ← unionU_bit hs]
        exact Nat.testBit_lt_two_pow (Nat.lt_of_lt_of_le (unionU_lt hs l) (two_pow_le (by omega)))
    · intro h j hj
      have := unionU_bit hs l j
      rw [h, Nat.testBit_two_pow_sub_one, decide_eq_true (List.mem_range.1 hj)] at this
      exact this.symm
  have cost : ∀ l, mayB x l = true → costOf x l = (costS x.sets l, 0) := fun l hl => by
    unfold costOf valueOf
    rw [if_neg (by omega), if_neg (by rw [hc]; decide), if_neg (by rw [hl]; decide), parts_kind3 h3]
  have hidx : (x.sets.length + 1) * 2 ^ x.size.toNat - 1 = x.sets.length * 2 ^ x.size.toNat + (2 ^ x.size.toNat - 1) := by rw [Nat.succ_mul]; omega
  have best : ∀ y, (costOf x y).2 = 0 → (cat (cTable x.sets (2 ^ x.size.toNat)) ((x.sets.length + 1) * 2 ^ x.size.toNat - 1)).there = true ∧ (cat (cTable x.sets (2 ^ x.size.toNat)) ((x.sets.length + 1) * 2 ^ x.size.toNat - 1)).cost ≤ (costOf x y).1 := by
    intro y hy
    have hmy : mayB x y = true := by
      cases hm' : mayB x y with
      | true => rfl
      | false =>
        exfalso
        unfold costOf valueOf at hy
        rw [if_neg (by omega), if_neg (by rw [hc]; decide), if_pos hm'] at hy
        cases hy
    rw [cost y hmy]
    rw [may, Bool.and_eq_true, decide_eq_true_iff] at hmy
    have := cover_opt hs rfl x.sets.length y (Nat.le_refl _) hmy.1
    rw [hmy.2, ← hidx] at this
    exact this
  cases hth : (cat (cTable x.sets (2 ^ x.size.toNat)) ((x.sets.length + 1) * 2 ^ x.size.toNat - 1)).there with
  | false =>
    have eA : dynAns x = ⟨[], 0, false⟩ := by
      unfold dynAns; rw [if_neg (by omega), if_neg (by omega), if_neg (by omega), if_neg (by rw [hth]; decide)]
    rw [eA]
    have hb := best_of (x := x) (l := []) (c := 0) (ok := false) (fun h => by cases h) (fun y hy => by
      have := (best y hy).1
      rw [hth] at this; cases this) (fun _ => rfl)
    exact ⟨hb.1, hb.2, (fun h => by cases h), fun _ => rfl⟩
  | true =>
    have hth' := hth
    rw [hidx] at hth'
    obtain ⟨l, l1, l2, l3, l4⟩ := cover_ach hs rfl x.sets.length (2 ^ x.size.toNat - 1) (Nat.le_refl _) (by omega) hth'
    have l4 := l4 ((x.sets.length + 1) * 2 ^ x.size.toNat) (by rw [Nat.succ_mul]; omega)
    rw [← hidx] at l3 l4
    have eA : dynAns x = ⟨l, (cat (cTable x.sets (2 ^ x.size.toNat)) ((x.sets.length + 1) * 2 ^ x.size.toNat - 1)).cost, true⟩ := by
      unfold dynAns; rw [if_neg (by omega), if_neg (by omega), if_neg (by omega), if_pos hth, l4, List.reverse_reverse]
    have hcst := cost l (by rw [may, l1]; simpa using l2)
    rw [l3] at hcst
    rw [eA]
    have hb := best_of (x := x) (l := l) (c := (cat (cTable x.sets (2 ^ x.size.toNat)) ((x.sets.length + 1) * 2 ^ x.size.toNat - 1)).cost) (ok := true) (fun _ => ⟨by
      unfold allOf decs
      rw [if_neg (by omega), if_neg (by omega), if_neg (by omega), if_pos h3]
      exact bits_mem l1, by rw [hcst], by rw [hcst]⟩) (fun y hy => ⟨rfl, (best y hy).2⟩) (fun h => by cases h)
    exact ⟨hb.1, hb.2, fun _ => ⟨by rw [hcst], by rw [hcst]⟩, fun h => by cases h⟩
end W

open Go Go.Eng
namespace W

/-- What it takes to go from one to the next, along a list. -/
def hops (m : List (List Int)) : Int → List Int → Int
  | _, [] => 0
  | a, b :: l => costAt m a.toNat b.toNat + hops m b l
theorem hops_snoc (m : List (List Int)) : ∀ (l : List Int) (a b : Int), hops m a (l ++ [b]) = hops m a l + costAt m (l.getLastD a).toNat b.toNat
  | [], a, b => by simp [hops]
  | c :: l, a, b => by
    rw [List.cons_append, hops, hops, hops_snoc m l c b]
    rw [List.getLastD_cons]
    omega
/-- The numbers of the others, from 1 on. -/
def up (l : List Int) : List Int := l.map (· + 1)
theorem up_snoc (l : List Int) (k : Int) : up (l ++ [k]) = up l ++ [k + 1] := by simp [up]
/-- What a way takes from the first one on to the others. -/
def tourW (m : List (List Int)) (l : List Int) : Int := hops m 0 (up l)
theorem up_last (l : List Int) (k : Nat) (a : Int) : (up (l ++ [(k : Int)])).getLastD a = ((k + 1 : Nat) : Int) := by
  rw [up_snoc]; simp
theorem tourW_one (m : List (List Int)) (k : Nat) : tourW m [(k : Int)] = costAt m 0 (k + 1) := by
  unfold tourW up
  simp only [List.map_cons, List.map_nil, hops]
  have : ((k : Int) + 1).toNat = k + 1 := by omega
  rw [this]; simp
theorem tourW_snoc (m : List (List Int)) (l : List Int) (j k : Nat) : tourW m ((l ++ [(j : Int)]) ++ [(k : Int)]) = tourW m (l ++ [(j : Int)]) + costAt m (j + 1) (k + 1) := by
  unfold tourW
  rw [up_snoc (l ++ [(j : Int)]), hops_snoc, up_last]
  have h1 : ((k : Int) + 1).toNat = k + 1 := by omega
  rw [h1, Int.toNat_natCast]

section
variable {m : List (List Int)} {q : Nat}
theorem tour_opt (hm : Sq m) (hq : q ≤ 15) (l : List Int) : ∀ k : Nat, (l ++ [(k : Int)]).Nodup → InR q (l ++ [(k : Int)]) → (cat (tTable m q) (q * elemsOf (l ++ [(k : Int)]) + k)).there = true ∧ (cat (tTable m q) (q * elemsOf (l ++ [(k : Int)]) + k)).cost ≤ tourW m (l ++ [(k : Int)]) := by
  have g := tTable_good hm q
  induction l using snoc_ind with
  | h0 =>
    intro k _ hr
    have hk := (hr.left).2
    have hkq : k < q := by omega
    have e : elemsOf ([] ++ [(k : Int)]) = 2 ^ k := by rw [elemsOf_snoc, Int.toNat_natCast]; simp [elemsOf]
    rw [e]
    have hmod : (q * 2 ^ k + k) % q = k := by rw [Nat.mul_add_mod, Nat.mod_eq_of_lt hkq]
    have h0 : cat (tStart m q q) (q * 2 ^ k + k) = tInit m k := by rw [tStart_cat m q (Nat.le_refl _), if_pos ⟨k, hkq, rfl⟩, hmod]
    have := g.init (q * 2 ^ k + k) (by rw [h0]; rfl)
    rw [h0] at this
    rw [List.nil_append, tourW_one]
    exact this
  | hs l a ih =>
    intro k hnd hr
    obtain ⟨h1, h2⟩ := nodup_snoc hnd
    obtain ⟨h3, h4, h5⟩ := hr.left
    have ha := (h3.left).2
    obtain ⟨j, rfl⟩ := Int.eq_ofNat_of_zero_le ha.1
    obtain ⟨i1, i2⟩ := ih j h1 h3
    have hb := mask_free h3 h2
    have := g.best _ (tEdges_mem.2 ⟨elemsOf (l ++ [(j : Int)]), j, k, elemsOf_lt h3, by omega, by omega, hb, rfl⟩) i1
    dsimp only at this
    rw [elemsOf_snoc (l ++ [(j : Int)]), Int.toNat_natCast, tourW_snoc]
    exact ⟨this.1, by omega⟩

theorem tour_ach (hm : Sq m) (hq : q ≤ 15) : ∀ (i : Nat), (cat (tTable m q) i).there = true → ∃ (l : List Int) (k : Nat), (l ++ [(k : Int)]).Nodup ∧ InR q (l ++ [(k : Int)]) ∧ q * elemsOf (l ++ [(k : Int)]) + k = i ∧ tourW m (l ++ [(k : Int)]) = (cat (tTable m q) i).cost
    ∧ ∀ f, i < f → walkF (tTable m q) f (i : Int) = (up (l ++ [(k : Int)])).reverse := by
  have g := tTable_good hm q
  have hok := tEdges_ok hm q
  intro i
  induction i using Nat.strongRecOn with
  | _ i ih =>
    intro hth
    rcases g.way i hth with h | ⟨e, he, h1, h2, h3⟩
    · rw [h, tStart_cat m q (Nat.le_refl _)] at hth
      have hex : ∃ k, k < q ∧ i = q * 2 ^ k + k := by
        by_cases hex : ∃ k, k < q ∧ i = q * 2 ^ k + k
        · exact hex
        · rw [if_neg hex] at hth; cases hth
      obtain ⟨k, hk, rfl⟩ := hex
      have hmod : (q * 2 ^ k + k) % q = k := by rw [Nat.mul_add_mod, Nat.mod_eq_of_lt hk]
      rw [tStart_cat m q (Nat.le_refl _), if_pos ⟨k, hk, rfl⟩, hmod] at h
      have e : elemsOf ([] ++ [(k : Int)]) = 2 ^ k := by rw [elemsOf_snoc, Int.toNat_natCast]; simp [elemsOf]
      refine ⟨[], k, by simp, fun e he => ?_, by rw [e], by rw [h, List.nil_append, tourW_one]; rfl, fun f hf => ?_⟩
      · rw [List.nil_append, List.mem_singleton] at he; subst he; omega
      · obtain ⟨f, rfl⟩ := Nat.exists_eq_succ_of_ne_zero (show f ≠ 0 by omega)
        rw [walkF, if_pos (Int.natCast_nonneg _), Int.toNat_natCast, h]
        have : walkF (tTable m q) f (tInit m k).fr = [] := by
          cases f with
          | zero => rfl
          | succ f => rw [walkF, if_neg (show ¬ (0 : Int) ≤ (tInit m k).fr from (show ¬ (0 : Int) ≤ -1 by decide))]
        rw [this]
        simp [tInit, up]
    · have hlt := (hok.each e he).lt
      obtain ⟨u, j, k, hu, hj, hk, hb, rfl⟩ := tEdges_mem.1 he
      dsimp only at h1 h2 h3 hlt
      obtain ⟨l, j', i1, i2, i3, i4, i5⟩ := ih (q * u + j) (by omega) h2
      have hj' := (i2.left).2
      obtain ⟨e1, e2⟩ := idx_inj (show j' < q by omega) hj i3
      subst e2
      have hkl : (k : Int) ∉ l ++ [(j' : Int)] := by
        intro hm'
        have := mask_bit i2 k
        rw [e1, hb, List.contains_iff_mem.2 hm'] at this; cases this
      refine ⟨l ++ [(j' : Int)], k, ?_, ?_, ?_, ?_, fun f hf => ?_⟩
      · rw [List.nodup_append]
        refine ⟨i1, by simp, fun a ha b hb' => ?_⟩
        rw [List.mem_singleton] at hb'
        subst hb'
        rintro rfl; exact hkl ha
      · intro e he
        rcases List.mem_append.1 he with he | he
        · exact i2 e he
        · rw [List.mem_singleton] at he; subst he; omega
      · rw [elemsOf_snoc (l ++ [(j' : Int)]), Int.toNat_natCast, e1]; exact h1
      · rw [tourW_snoc, i4, h3]; rfl
      · obtain ⟨f, rfl⟩ := Nat.exists_eq_succ_of_ne_zero (show f ≠ 0 by omega)
        have hmv : (cat (tTable m q) i).mv = ((k + 1 : Nat) : Int) := by rw [h3]; rfl
        have hfr : (cat (tTable m q) i).fr = ((q * u + j' : Nat) : Int) := by rw [h3]; rfl
        rw [walkF, if_pos (Int.natCast_nonneg _), Int.toNat_natCast, hmv, hfr, i5 f (by omega), up_snoc (l ++ [(j' : Int)]), List.reverse_append]
        rfl
end

theorem hops_sum (m : List (List Int)) : ∀ (r : List Int) (a : Int), ((List.range r.length).map fun i => costAt m ((a :: r).getD i 0).toNat ((a :: r).getD (i + 1) 0).toNat).sum = hops m a r
  | [], _ => rfl
  | b :: r, a => by
    rw [hops, ← hops_sum m r b, List.length_cons, List.range_succ_eq_map, List.map_cons, List.sum_cons, List.map_map]
    rfl
theorem last_get : ∀ (r : List Int) (a : Int), (a :: r).getD r.length 0 = r.getLastD a
  | [], _ => rfl
  | b :: r, a => by
    rw [List.getLastD_cons, ← last_get r b, List.length_cons]; rfl
theorem parts_kind2 {x : Ins} (h2 : x.kind = 2) (a : Int) (r : List Int) : (parts x (a :: r)).sum = hops x.cost a r + costAt x.cost (r.getLastD a).toNat a.toNat := by
  unfold parts
  rw [List.length_cons, List.range_succ, List.map_append, List.sum_append, ← hops_sum]
  congr 1
  · congr 1
    apply List.map_congr_left
    intro i hi
    have hi := List.mem_range.1 hi
    simp only [partAt]
    rw [if_neg (by omega), if_neg (by omega), if_pos h2, List.length_cons, Nat.mod_eq_of_lt (show i + 1 < r.length + 1 by omega)]
    rfl
  · simp only [List.map_cons, List.map_nil, List.sum_cons, List.sum_nil, partAt]
    rw [if_neg (by omega), if_neg (by omega), if_pos h2, List.length_cons, Nat.mod_self]
    have : (a :: r).getD r.length 0 = r.getLastD a := last_get r a
    rw [this]
    show _ + (0 : Int) = _
    rw [Int.add_zero]; rfl
theorem full_of_len {n : Nat} (hn : n ≤ 64) {l : List Int} (hnd : l.Nodup) (hr : InR n l) (hl : l.length = n) : eachB n l = true := by
  refine full_of_mask hn hnd hr ?_
  have hlt := elemsOf_lt hr
  have h1 := popn_mask hn l hnd hr
  rw [hl, popn_eq, cnt64 hn hlt] at h1
  have h2 := cnt_all.1 h1
  apply Nat.eq_of_testBit_eq
  intro j
  rw [Nat.testBit_two_pow_sub_one]
  by_cases hj : j < n
  · rw [h2 j hj, decide_eq_true hj]
  · rw [decide_eq_false hj]
    exact Nat.testBit_lt_two_pow (Nat.lt_of_lt_of_le hlt (two_pow_le (by omega)))

theorem up_nodup {p : List Int} : (up p).Nodup ↔ p.Nodup := by
  unfold up List.Nodup
  rw [List.pairwise_map]
  constructor
  · intro h; exact h.imp fun hab e => hab (by rw [e])
  · intro h; exact h.imp fun hab e => hab (by omega)
theorem up_range {q : Nat} {p : List Int} (h : InR q p) : InR (q + 1) (up p) ∧ (0 : Int) ∉ up p := by
  refine ⟨fun e he => ?_, fun h0 => ?_⟩
  · obtain ⟨y, hy, rfl⟩ := List.mem_map.1 he
    have := h y hy; omega
  · obtain ⟨y, hy, h1⟩ := List.mem_map.1 h0
    have := h y hy; omega
theorem tour_of_full {q : Nat} (hq : q ≤ 15) {p : List Int} (h1 : p.Nodup) (h2 : InR q p) (h3 : elemsOf p = 2 ^ q - 1) : eachB (q + 1) (0 :: up p) = true ∧ p.length = q := by
  have hl : p.length = q := eachB_length (full_of_mask (n := q) (by omega) h1 h2 h3)
  obtain ⟨u1, u2⟩ := up_range h2
  refine ⟨full_of_len (by omega) (List.nodup_cons.2 ⟨u2, up_nodup.2 h1⟩) (fun e he => ?_) (by simp [up, hl]), hl⟩
  rcases List.mem_cons.1 he with rfl | he
  · omega
  · exact u1 e he
theorem full_of_tour {q : Nat} (hq : q ≤ 15) {y : List Int} (h : eachB (q + 1) y = true) (h0 : y.getD 0 0 = 0) : ∃ p, y = 0 :: up p ∧ p.Nodup ∧ InR q p ∧ elemsOf p = 2 ^ q - 1 ∧ p.length = q := by
  obtain ⟨y1, y2, _⟩ := mask_of_full h
  have hl := eachB_length h
  cases y with
  | nil => simp at hl
  | cons a r =>
    have ha : a = 0 := h0
    subst ha
    obtain ⟨n1, n2⟩ := List.nodup_cons.1 y1
    have hr : ∀ e ∈ r, 1 ≤ e ∧ e < ((q + 1 : Nat) : Int) := fun e he => by
      have := y2 e (List.mem_cons_of_mem _ he)
      have h3 : e ≠ 0 := fun h => n1 (h ▸ he)
      omega
    have hup : up (r.map (· - 1)) = r := by
      unfold up
      rw [List.map_map]
      conv => rhs; rw [← List.map_id r]
      apply List.map_congr_left
      intro e _
      show e - 1 + 1 = e
      omega
    have hnd : (r.map (· - 1)).Nodup := by rw [← hup] at n2; exact up_nodup.1 n2
    have hrr : InR q (r.map (· - 1)) := fun e he => by
      obtain ⟨z, hz, rfl⟩ := List.mem_map.1 he
      have := hr z hz; omega
    have hll : (r.map (· - 1)).length = q := by simpa using hl
    exact ⟨r.map (· - 1), by rw [hup], hnd, hrr, (mask_of_full (full_of_len (by omega) hnd hrr hll)).2.2, hll⟩

/-- Each place at the end is there. -/
theorem tour_end {m : List (List Int)} (hm : Sq m) {q : Nat} (hq : q ≤ 15) : ∀ l, l < q → (cat (tTable m q) (q * (2 ^ q - 1) + l)).there = true := by
  intro l hl
  let p : List Int := ((List.range q).filter fun j => decide (j ≠ l)).map fun j : Nat => (j : Int)
  have hmem : ∀ j : Nat, (j : Int) ∈ p ++ [(l : Int)] ↔ j < q := by
    intro j
    rw [List.mem_append, List.mem_singleton, List.mem_map]
    constructor
    · rintro (⟨a, ha, h⟩ | h)
      · have := List.mem_range.1 (List.mem_filter.1 ha).1; omega
      · omega
    · intro hj
      by_cases h : j = l
      · exact .inr (by omega)
      · exact .inl ⟨j, List.mem_filter.2 ⟨List.mem_range.2 hj, by simpa using h⟩, rfl⟩
  have hr : InR q (p ++ [(l : Int)]) := by
    intro e he
    rcases List.mem_append.1 he with he | he
    · obtain ⟨a, ha, rfl⟩ := List.mem_map.1 he
      have := List.mem_range.1 (List.mem_filter.1 ha).1; omega
    · rw [List.mem_singleton] at he; omega
  have hnd : (p ++ [(l : Int)]).Nodup := by
    rw [List.nodup_append]
    refine ⟨?_, by simp, fun a ha b hb => ?_⟩
    · unfold List.Nodup
      rw [List.pairwise_map]
      exact (List.Pairwise.filter _ List.nodup_range).imp fun h e => h (by omega)
    · obtain ⟨j, hj, rfl⟩ := List.mem_map.1 ha
      rw [List.mem_singleton] at hb
      subst hb
      have := (List.mem_filter.1 hj).2
      simp at this
      omega
  have hmask : elemsOf (p ++ [(l : Int)]) = 2 ^ q - 1 := by
    apply Nat.eq_of_testBit_eq
    intro j
    rw [mask_bit hr, Nat.testBit_two_pow_sub_one, Bool.eq_iff_iff, List.contains_iff_mem, decide_eq_true_iff]
    exact hmem j
  have := (tour_opt hm hq p l hnd hr).1
  rw [hmask] at this
  exact this

theorem tour_cost {x : Ins} (h2 : x.kind = 2) (p : List Int) (k : Nat) : (parts x (0 :: up (p ++ [(k : Int)]))).sum = tourW x.cost (p ++ [(k : Int)]) + costAt x.cost (k + 1) 0 := by
  rw [parts_kind2 h2, up_last, Int.toNat_natCast]; rfl

theorem tour_law {x : Ins} (hc : chk x = 0) (h2 : x.kind = 2) (hn : x.cost.length ≤ 8) : (dynAns x).ok = (bestOf x).found ∧ (dynAns x).c = (bestOf x).least ∧ (costOf x (dynAns x).l).2 = 0 ∧ (costOf x (dynAns x).l).1 = (dynAns x).c := by
  have hv := Valid.of hc
  have hm := hv.sq
  have hs1 := hv.side1 (.inr h2)
  obtain ⟨q, hq⟩ : ∃ q, x.cost.length = q + 1 := ⟨x.cost.length - 1, by omega⟩
  have eq' : x.cost.length - 1 = q := by omega
  have may : ∀ l, mayB x l = (eachB x.cost.length l && l.getD 0 0 == 0) := fun l => by unfold mayB; rw [if_neg (by omega), if_neg (by omega), if_pos h2]
  have cost : ∀ l, mayB x l = true → costOf x l = ((parts x l).sum, 0) := fun l hl => by
    unfold costOf valueOf
    rw [if_neg (by omega), if_neg (by rw [hc]; decide), if_neg (by rw [hl]; decide)]
  have feas : ∀ y, (costOf x y).2 = 0 → mayB x y = true := by
    intro y hy
    cases hm' : mayB x y with
    | true => rfl
    | false =>
      exfalso
      unfold costOf valueOf at hy
      rw [if_neg (by omega), if_neg (by rw [hc]; decide), if_pos hm'] at hy
      cases hy
  have eA : dynAns x = ⟨tourL x.cost q, tourC x.cost q, true⟩ := by unfold dynAns; rw [if_neg (by omega), if_neg (by omega), if_pos h2, eq']
  have mem : ∀ y, mayB x y = true → y ∈ allOf x := by
    intro y hy
    rw [may, Bool.and_eq_true, beq_iff_eq, hq] at hy
    obtain ⟨p, rfl, p1, p2, p3, p4⟩ := full_of_tour (by omega) hy.1 hy.2
    obtain ⟨u1, u2⟩ := up_range p2
    unfold allOf
    rw [if_neg (by omega), if_pos h2, eq', hq]
    have := orders_mem (n := q + 1) q [0] (up p) (by simp [up, p4]) (List.nodup_cons.2 ⟨u2, up_nodup.2 p1⟩) u1
    exact this
  -- what is told may be, and comes to that; nothing comes to less
  have main : mayB x (tourL x.cost q) = true ∧ (parts x (tourL x.cost q)).sum = tourC x.cost q ∧ ∀ y, mayB x y = true → tourC x.cost q ≤ (parts x y).sum := by
    by_cases h0 : q = 0
    · subst h0
      have hL : tourL x.cost 0 = [0] := by unfold tourL; rw [if_pos rfl]
      have hC : tourC x.cost 0 = 0 := by unfold tourC; rw [if_pos rfl]
      have hx0 : 0 < x.cost.length := by omega
      have hx1 : 0 < (x.cost[0]'hx0).length := by rw [hm.row _ (List.getElem_mem hx0)]; omega
      have hdiag := hv.diag h2 0 hx0 hx1
      have hp : (parts x [0]).sum = 0 := by
        rw [parts_kind2 h2]
        simp only [hops, List.getLastD_nil]
        unfold costAt
        rw [show (0 : Int).toNat = 0 from rfl, getD_eq hx0, getD_eq hx1, hdiag]; rfl
      rw [hL, hC]
      have hy : ∀ y, mayB x y = true → y = [0] := by
        intro y hy
        rw [may, Bool.and_eq_true, beq_iff_eq, hq] at hy
        obtain ⟨p, rfl, p1, p2, p3, p4⟩ := full_of_tour (by omega) hy.1 hy.2
        rw [List.length_eq_zero_iff.1 p4]; rfl
      refine ⟨?_, hp, fun y h => by rw [hy y h, hp]; exact Int.le_refl _⟩
      rw [may, hq]; decide
    · have hend := tour_end hm (q := q) (by omega)
      obtain ⟨⟨l0, hl0, he⟩, hmin⟩ := endC_some (m := x.cost) (q := q) (t := tTable x.cost q) q (by omega)
      have hC : tourC x.cost q = (cat (tTable x.cost q) (q * (2 ^ q - 1) + l0)).cost + costAt x.cost (l0 + 1) 0 := by
        unfold tourC tourEnd; rw [if_neg h0, he]
      obtain ⟨p, k, a1, a2, a3, a4, a5⟩ := tour_ach hm (q := q) (by omega) _ (hend l0 hl0)
      have hkq := (a2.left).2
      obtain ⟨e1, e2⟩ := idx_inj (show k < q by omega) hl0 a3
      subst e2
      have hL : tourL x.cost q = 0 :: up (p ++ [(k : Int)]) := by
        unfold tourL tourEnd
        rw [if_neg h0, he]
        dsimp only
        rw [Int.toNat_natCast, a5 _ (by omega), List.reverse_reverse]
      obtain ⟨f1, f2⟩ := tour_of_full (by omega) a1 a2 e1
      rw [hL, hC]
      refine ⟨by rw [may, hq, f1]; rfl, by rw [tour_cost h2, a4], fun y hy => ?_⟩
      rw [may, Bool.and_eq_true, beq_iff_eq, hq] at hy
      obtain ⟨r, rfl, r1, r2, r3, r4⟩ := full_of_tour (by omega) hy.1 hy.2
      have hne : r ≠ [] := fun h => by rw [h] at r4; exact h0 r4.symm
      have hr : r = r.dropLast ++ [r.getLast hne] := (List.dropLast_concat_getLast hne).symm
      have hlast := r2 _ (List.getLast_mem hne)
      obtain ⟨j, hj⟩ := Int.eq_ofNat_of_zero_le hlast.1
      rw [hj] at hr hlast
      rw [hr] at r1 r2 r3 ⊢
      have := (tour_opt hm (q := q) (by omega) _ j r1 r2).2
      rw [r3] at this
      have h5 := hmin j (by omega)
      rw [he] at h5
      dsimp only at h5
      rw [tour_cost h2]
      omega
  have hcst := cost _ main.1
  rw [main.2.1] at hcst
  rw [eA]
  have hb := best_of (x := x) (l := tourL x.cost q) (c := tourC x.cost q) (ok := true) (fun _ => ⟨mem _ main.1, by rw [hcst], by rw [hcst]⟩) (fun y hy => ⟨rfl, by
      rw [cost y (feas y hy)]; exact main.2.2 y (feas y hy)⟩) (fun h => by cases h)
  exact ⟨hb.1, hb.2, by rw [hcst], by rw [hcst]⟩
end W

open Go Go.Eng
namespace W

theorem rising_filter (p : Nat → Bool) : ∀ n : Nat, rising n (-1) (((List.range n).filter p).map fun e : Nat => (e : Int)) = true
  | 0 => rfl
  | n + 1 => by
    rw [List.range_succ, List.filter_append, List.map_append]
    by_cases h : p n = true
    · rw [List.filter_cons_of_pos h, List.filter_nil]
      exact rising_push (k := (n : Int)) (rising_filter p n) (by omega) (by omega)
    · rw [List.filter_cons_of_neg h, List.filter_nil, List.map_nil, List.append_nil]
      exact rising_mono (by omega) (rising_filter p n)

theorem light_fields (x : Ins) : (light x 7).kind = kindOf x.kind ∧ ((light x 7).kind ≠ 0 → (light x 7).cap = 0 ∧ (light x 7).items = []) ∧ ((light x 7).kind ≠ 3 → (light x 7).size = 0 ∧ (light x 7).sets = []) ∧ ((light x 7).kind = 0 ∨ (light x 7).kind = 3 → (light x 7).cost = []) := by
  unfold light tame
  by_cases h0 : kindOf x.kind = 0
  · rw [if_pos h0]; exact ⟨h0.symm, fun h => absurd rfl h, fun _ => ⟨rfl, rfl⟩, fun _ => rfl⟩
  rw [if_neg h0]
  by_cases h3 : kindOf x.kind = 3
  · rw [if_pos h3]; exact ⟨h3.symm, fun _ => ⟨rfl, rfl⟩, fun h => absurd rfl h, fun _ => rfl⟩
  rw [if_neg h3]
  exact ⟨rfl, fun _ => ⟨rfl, rfl⟩, fun _ => ⟨rfl, rfl⟩, fun h => by rcases h with h | h <;> exact absurd h (by assumption)⟩
theorem light_items (x : Ins) : (light x 7).items.length ≤ 7 ∧ ∀ p ∈ (light x 7).items, (0 ≤ p.1 ∧ p.1 ≤ 2147483648) ∧ 0 ≤ p.2 ∧ p.2 < 40 := by
  have hm := mag_le
  unfold light tame
  by_cases h0 : kindOf x.kind = 0
  · rw [if_pos h0]
    refine ⟨by simp; omega, fun p hp => ?_⟩
    obtain ⟨y, hy, rfl⟩ := List.mem_map.1 hp
    obtain ⟨z, hz, rfl⟩ := List.mem_map.1 hy
    have h1 := hm z.1
    have h2 : (max 0 (mag z.2)).tmod 40 = (max 0 (mag z.2)) % 40 := Int.tmod_eq_emod_of_nonneg (by omega)
    simp only [lightItem, tameItem]
    rw [h2]; omega
  rw [if_neg h0]
  split <;> exact ⟨by simp, fun p hp => by simp at hp⟩
theorem light_cap (x : Ins) : 0 ≤ (light x 7).cap ∧ (light x 7).cap ≤ 2147483648 := by
  have hm := mag_le x.cap
  unfold light tame
  split
  · dsimp only; omega
  · split <;> dsimp only <;> omega
theorem light_sets (x : Ins) : (light x 7).sets.length ≤ 7 ∧ (0 ≤ (light x 7).size ∧ (light x 7).size ≤ 8) ∧ ∀ y ∈ (light x 7).sets, (0 ≤ y.1 ∧ y.1 ≤ 2147483648) ∧ rising (light x 7).size (-1) y.2 = true ∧ y.2.length ≤ 9 := by
  have hm := mag_le
  unfold light tame
  split
  · exact ⟨by simp, by simp, fun y hy => by simp at hy⟩
  · split
    · refine ⟨by simp; omega, by dsimp only; omega, fun y hy => ?_⟩
      obtain ⟨z, hz, rfl⟩ := List.mem_map.1 hy
      have h1 := hm z.1
      have e : (max 0 x.size) % 9 = (((max 0 x.size) % 9).toNat : Int) := by omega
      refine ⟨by simp only [tameSet]; omega, ?_, ?_⟩
      · dsimp only
        rw [e, Int.toNat_natCast]
        exact rising_filter _ _
      · simp only [tameSet, tameElems, List.length_map]
        have := List.length_filter_le (fun e : Nat => (z.2.take 40).any fun z => (max 0 z) % 9 == (e : Int)) (List.range ((max 0 x.size) % 9).toNat)
        rw [List.length_range] at this
        omega
    · exact ⟨by simp, by simp, fun y hy => by simp at hy⟩
theorem tameCell_le (x : Ins) (b : Bool) (i k : Nat) : -2147483648 ≤ tameCell x b i k ∧ tameCell x b i k ≤ 2147483648 := by
  unfold tameCell; split
  · exact mag_le _
  · exact ⟨by decide, by decide⟩
theorem light_cost (x : Ins) : (light x 7).cost.length ≤ 6 ∧ ((light x 7).kind = 1 ∨ (light x 7).kind = 2 → 1 ≤ (light x 7).cost.length) ∧ (∀ r ∈ (light x 7).cost, r.length = (light x 7).cost.length ∧ ∀ c ∈ r, -2147483648 ≤ c ∧ c ≤ 2147483648) ∧ ((light x 7).kind = 2 → ∀ i, i < (light x 7).cost.length → bareAt (light x 7).cost i = true) := by
  have hk := kindOf_le x.kind
  have hkind := (light_fields x).1
  rw [hkind]
  unfold light tame
  by_cases h0 : kindOf x.kind = 0
  · rw [if_pos h0]; exact ⟨by simp, fun h => by omega, fun r hr => by simp at hr, fun h => by omega⟩
  rw [if_neg h0]
  by_cases h3 : kindOf x.kind = 3
  · rw [if_pos h3]; exact ⟨by simp, fun h => by omega, fun r hr => by simp at hr, fun h => by omega⟩
  rw [if_neg h3]
  dsimp only
  have hnb : max 1 (min x.cost.length (7 - 1)) ≤ 6 ∧ 1 ≤ max 1 (min x.cost.length (7 - 1)) := by omega
  generalize max 1 (min x.cost.length (7 - 1)) = n at hnb
  refine ⟨by simp; omega, fun _ => by simp; omega, fun r hr => ?_, fun h2 i hi => ?_⟩
  · obtain ⟨i, hi, rfl⟩ := List.mem_map.1 hr
    refine ⟨by simp, fun c hc => ?_⟩
    obtain ⟨k, hk, rfl⟩ := List.mem_map.1 hc
    exact tameCell_le _ _ _ _
  · have hi' : i < n := by simpa using hi
    rw [bareAt_eq hi (by simpa using hi')]
    simp only [List.getElem_map, List.getElem_range, beq_iff_eq]
    unfold tameCell
    rw [if_neg]
    rintro ⟨_, _, h⟩
    exact h ⟨by rw [h2]; rfl, rfl⟩
theorem light_chk (x : Ins) : chk (light x 7) = 0 := by
  have hk := kindOf_le x.kind
  obtain ⟨f1, f2, f3, f4⟩ := light_fields x
  obtain ⟨i1, i2⟩ := light_items x
  have hcap := light_cap x
  obtain ⟨s1, s2, s3⟩ := light_sets x
  obtain ⟨c1, c2, c3, c4⟩ := light_cost x
  rw [← f1] at hk
  generalize light x 7 = y at *
  refine chk_zero.2 ⟨?_, ?_, ?_, ?_, ?_, ?_⟩
  · simp [isKind]; omega
  · unfold lean
    have e1 : (y.kind == 0 || (y.cap == 0 && y.items.length == 0)) = true := by
      by_cases h : y.kind = 0
      · simp [h]
      · simp [f2 h]
    have e2 : (W.square y.kind || y.cost.length == 0) = true := by
      unfold W.square
      by_cases h : y.kind = 0 ∨ y.kind = 3
      · simp [f4 h]
      · have : y.kind = 1 ∨ y.kind = 2 := by omega
        rcases this with h | h <;> simp [h]
    have e3 : (y.kind == 3 || (y.size == 0 && y.sets.length == 0)) = true := by
      by_cases h : y.kind = 3
      · simp [h]
      · simp [f3 h]
    rw [e1, e2, e3]; rfl
  · unfold few
    have e2 : (!W.square y.kind || (decide (1 ≤ y.cost.length) && decide (y.cost.length ≤ 64))) = true := by
      by_cases h : y.kind = 1 ∨ y.kind = 2
      · have := c2 h
        simp; right; omega
      · unfold W.square; simp; left; omega
    rw [e2]
    simp; omega
  · unfold shaped
    rw [Bool.and_eq_true, List.all_eq_true, List.all_eq_true]
    exact ⟨fun r hr => by rw [beq_iff_eq]; exact (c3 r hr).1, fun s hs => (s3 s hs).2.1⟩
  · unfold small from'
    simp only [Bool.and_eq_true, List.all_eq_true, decide_eq_true_eq]
    refine ⟨⟨⟨hcap, fun p hp => ?_⟩, fun r hr c hc => (c3 r hr).2 c hc⟩, fun s hs => (s3 s hs).1⟩
    have := i2 p hp; omega
  · unfold bare
    by_cases h : y.kind = 2
    · rw [Bool.or_eq_true, List.all_eq_true]
      exact .inr fun i hi => c4 h i (List.mem_range.1 hi)
    · simp [h]
theorem light_fits (x : Ins) : (light x 7).Fits := by
  obtain ⟨i1, _⟩ := light_items x
  obtain ⟨s1, _, s3⟩ := light_sets x
  obtain ⟨c1, _, c3, _⟩ := light_cost x
  exact ⟨by simp only [len]; omega, by simp only [len]; omega, fun r hr => by have := (c3 r hr).1; simp only [len]; omega, by simp only [len]; omega, fun s hs => by have := (s3 s hs).2.2; simp only [len]; omega⟩
theorem light_cut (x : Ins) : cut (light x 7) = light x 7 := by
  obtain ⟨i1, _⟩ := light_items x
  obtain ⟨s1, _, s3⟩ := light_sets x
  obtain ⟨c1, _, c3, _⟩ := light_cost x
  generalize light x 7 = y at *
  obtain ⟨k, cap, items, cost, size, sets⟩ := y
  dsimp only at *
  unfold cut
  dsimp only
  have e1 : items.take 40 = items := List.take_of_length_le (by omega)
  have e2 : (cost.take 70).map (·.take 70) = cost := by
    rw [List.take_of_length_le (by omega)]
    conv => rhs; rw [← List.map_id cost]
    apply List.map_congr_left
    intro r hr
    exact List.take_of_length_le (by have := (c3 r hr).1; omega)
  have e3 : ((sets.take 40).map fun s => (s.1, s.2.take 40)) = sets := by
    rw [List.take_of_length_le (by omega)]
    conv => rhs; rw [← List.map_id sets]
    apply List.map_congr_left
    intro s hs
    rw [List.take_of_length_le (by have := (s3 s hs).2.2; omega)]; rfl
  rw [e1, e2, e3]

theorem dyn_law {x : Ins} (hc : chk x = 0) (hn : x.cost.length ≤ 8) : (dynAns x).ok = (bestOf x).found ∧ (dynAns x).c = (bestOf x).least ∧ ((dynAns x).ok = true → (costOf x (dynAns x).l).2 = 0 ∧ (costOf x (dynAns x).l).1 = (dynAns x).c) ∧ ((dynAns x).ok = false → (dynAns x).l = []) := by
  have hk := (Valid.of hc).kind
  by_cases h0 : x.kind = 0
  · obtain ⟨a1, a2, a3⟩ := knap_law hc h0
    exact ⟨a1, a2, fun _ => a3, fun h => by unfold dynAns at h; rw [if_pos h0] at h; cases h⟩
  by_cases h1 : x.kind = 1
  · obtain ⟨a1, a2, a3⟩ := match_law hc h1 hn
    exact ⟨a1, a2, fun _ => a3, fun h => by unfold dynAns at h; rw [if_neg h0, if_pos h1] at h; cases h⟩
  by_cases h2 : x.kind = 2
  · obtain ⟨a1, a2, a3⟩ := tour_law hc h2 hn
    exact ⟨a1, a2, fun _ => a3, fun h => by unfold dynAns at h; rw [if_neg h0, if_neg h1, if_pos h2] at h; cases h⟩
  exact cover_law hc (by omega)

theorem sum_small : ∀ (l : List (Int × Int)), (∀ p ∈ l, 0 ≤ p.2 ∧ p.2 < 40) → (l.map (·.2)).sum ≤ (l.length : Int) * 39
  | [], _ => by simp
  | p :: l, h => by
    have h1 := sum_small l fun q hq => h q (List.mem_cons_of_mem _ hq)
    have h2 := h p List.mem_cons_self
    simp only [List.map_cons, List.sum_cons, List.length_cons]
    omega
theorem side_small : ∀ n, n < 7 → n * 2 ^ n ≤ 384 := by decide
theorem light_cells (x : Ins) : cellsOf (light x 7) < 65536 := by
  have hk := kindOf_le x.kind
  have f1 := (light_fields x).1
  obtain ⟨i1, i2⟩ := light_items x
  have hcap := light_cap x
  obtain ⟨s1, s2, s3⟩ := light_sets x
  obtain ⟨c1, _⟩ := light_cost x
  generalize light x 7 = y at *
  unfold cellsOf
  split
  · have h1 : roomOf y ≤ 273 := by
      have := sum_small y.items fun p hp => (i2 p hp).2
      unfold roomOf sumW; omega
    have h2 : (((y.items.length : Int) + 1) * (roomOf y + 1)) ≤ 8 * 274 := by
      rcases Int.le_total 0 (roomOf y + 1) with h | h
      · exact Int.mul_le_mul (by omega) (by omega) h (by decide)
      · have := Int.mul_nonpos_of_nonneg_of_nonpos (show 0 ≤ (y.items.length : Int) + 1 by omega) h
        omega
    omega
  · split
    · have h1 : 2 ^ y.size.toNat ≤ 2 ^ 8 := two_pow_le (by omega)
      have h2 : (y.sets.length + 1) * 2 ^ y.size.toNat ≤ 8 * 256 := Nat.mul_le_mul (by omega) h1
      have h3 : ((y.sets.length : Int) + 1) * ((2 ^ y.size.toNat : Nat) : Int) = (((y.sets.length + 1) * 2 ^ y.size.toNat : Nat) : Int) := by rw [Int.natCast_mul]; rfl
      rw [h3]; omega
    · have h1 : sideOf y ≤ 6 := by unfold sideOf; split <;> omega
      have h2 := side_small (sideOf y) (by omega)
      rw [← Int.natCast_mul]; omega
theorem light_decs (x : Ins) : decs (light x 7) ≤ 7 := by
  obtain ⟨i1, _⟩ := light_items x
  obtain ⟨s1, _⟩ := light_sets x
  obtain ⟨c1, _⟩ := light_cost x
  unfold decs sideOf
  split
  · exact i1
  · split
    · exact s1
    · split <;> omega
theorem light_all (x : Ins) : (∀ l ∈ allOf (light x 7), len l.length) ∧ len (allOf (light x 7)).length := by
  have hd := light_decs x
  obtain ⟨c1, _⟩ := light_cost x
  generalize light x 7 = y at *
  have hpow : ∀ f, f ≤ 8 → y.cost.length ^ f ≤ 8 ^ 8 := fun f hf => Nat.le_trans (Nat.pow_le_pow_left (show y.cost.length ≤ 8 by omega) f) (Nat.pow_le_pow_right (n := 8) (by decide) hf)
  have h8 : (8 : Nat) ^ 8 = 16777216 := rfl
  unfold allOf
  split
  · have h1 := ordersF_length y.cost.length y.cost.length []
    have h2 := hpow y.cost.length (by omega)
    refine ⟨fun l hl => ?_, by simp only [len]; omega⟩
    have := orders_len _ _ l hl
    simp only [len]; simp at this; omega
  · split
    · have h1 := ordersF_length y.cost.length (y.cost.length - 1) [0]
      have h2 := hpow (y.cost.length - 1) (by omega)
      refine ⟨fun l hl => ?_, by simp only [len]; omega⟩
      have := orders_len _ _ l hl
      simp only [len]; simp at this; omega
    · have h128 := pow_le128 (decs y) (by omega)
      refine ⟨fun l hl => ?_, by simp only [len, List.length_map, List.length_range]; omega⟩
      have := bits_len hl
      simp only [len]; omega

theorem law_DynBest_spec {x : Ins} (hx : x.Fits) : T F.law_DynBest [insA x] [] = some (.d (db true), []) := by
  refine law_DynBest.tab ?_
  have h7 : T F.law_light [insA x, .d (.v (.int .i64 7))] [] = some (.d (insD (light x 7)), []) := law_light_spec hx (most := 7) ⟨by decide, by decide⟩
  have hf := light_fits x
  have hc := light_chk x
  have hcut := light_cut x
  obtain ⟨c1, _⟩ := light_cost x
  obtain ⟨s1, s2, _⟩ := light_sets x
  have hcells := light_cells x
  have hd := light_decs x
  obtain ⟨ha1, ha2⟩ := light_all x
  simp only [law_DynBest.eq, h7, onCall_d, onAgg_v, List.length_cons, List.length_nil, if_true, onCell_0, onCell_1, onCell_2, onCell_3, onCell_4, onCell_5, onInt_v, onSl_v]
  generalize light x 7 = y at *
  have hv := Valid.of hc
  have hins := law_insts_spec hf
  rw [hcut] at hins
  have hb := dyn_Best_spec hf hc (by omega) (by omega) (by omega) (fun _ => tour_end hv.sq (by omega))
  have hr := ref13_Best_spec hf hc hd (by omega) ha1 ha2
  obtain ⟨n, hcl⟩ := ref30_Cells_spec hf hc (by omega) (by omega) hcells
  obtain ⟨l1, l2, l3, l4⟩ := dyn_law hc (by omega)
  simp only [hins, onCall_d, onTup_v, onAgg_v, List.length_cons, List.length_nil, if_true, onCell_0, onCell_1, onCell_2, onCell_3, onCell_4, onCell_5, onInt_v, onSl_v, onBool_v, hb, hr, hcl, law_wakes_spec, bne_self_eq_false, Bool.false_eq_true, if_false, Bool.not_true, ← l1, ← l2, beq_self_eq_true]
  have hlen : len (dynAns y).l.length := by
    cases hok : (dynAns y).ok with
    | false => rw [l4 hok]; decide
    | true =>
      have h0 := (l3 hok).1
      have hmay : mayB y (dynAns y).l = true := by
        cases hm : mayB y (dynAns y).l with
        | true => rfl
        | false =>
          exfalso
          unfold costOf valueOf at h0
          rw [if_neg (show ¬ chk y ≠ 0 by rw [hc]; decide), if_pos hm] at h0
          split at h0 <;> cases h0
      have := (may_parts hv hmay).few
      simp only [len]; omega
  simp only [eval_Cost_spec hf hlen, onCall_d, onTup_v, List.length_cons, List.length_nil, if_true, onCell_0, onCell_1, onInt_v]
  cases hok : (dynAns y).ok with
  | false =>
    have := l4 hok
    refine .of ?_
    simp [this, encI]
  | true =>
    obtain ⟨b1, b2⟩ := l3 hok
    refine .of ?_
    simp [b1, b2]
end W

open Go Go.Eng
namespace W

theorem i64_wf {n : Int} (h : (Lit.int .i64 n).wf = true) : i64 n := by
  simpa [Lit.wf, IntKind.min, IntKind.max, IntKind.signed, IntKind.bits] using h
theorem ints_of {x : DVal} (h : Ok (.sl [.int .i64]) x) : ∃ l : List Int, x = .sl 3 1 (encI l) ∧ len l.length ∧ ∀ e ∈ l, i64 e := by
  cases h with
  | sl hl hr =>
    rename_i rows
    have key : ∀ rows : Rows, (∀ row ∈ rows, Oks [.int .i64] row) → ∃ l : List Int, rows = encI l ∧ ∀ e ∈ l, i64 e := by
      intro rows
      induction rows with
      | nil => intro _; exact ⟨[], rfl, by simp⟩
      | cons row rows ih =>
        intro hr
        obtain ⟨l, rfl, h2⟩ := ih fun r h => hr r (List.mem_cons_of_mem _ h)
        have := hr row List.mem_cons_self
        cases this with
        | cons hx hn =>
          cases hn
          cases hx with
          | int hw => exact ⟨_ :: l, rfl, by simpa using ⟨i64_wf hw, h2⟩⟩
    obtain ⟨l, rfl, h2⟩ := key rows hr
    exact ⟨l, rfl, by simpa [maxLen] using hl, h2⟩
theorem ints2_of {x : DVal} (h : Ok (.sl [.sl [.int .i64]]) x) : ∃ l : List (List Int), x = .sl 3 1 (encR l) ∧ len l.length ∧ ∀ e ∈ l, len e.length ∧ ∀ n ∈ e, i64 n := by
  cases h with
  | sl hl hr =>
    rename_i rows
    have key : ∀ rows : Rows, (∀ row ∈ rows, Oks [.sl [.int .i64]] row) → ∃ l : List (List Int), rows = encR l ∧ ∀ e ∈ l, len e.length ∧ ∀ n ∈ e, i64 n := by
      intro rows
      induction rows with
      | nil => intro _; exact ⟨[], rfl, by simp⟩
      | cons row rows ih =>
        intro hr
        obtain ⟨l, rfl, h2⟩ := ih fun r h => hr r (List.mem_cons_of_mem _ h)
        have := hr row List.mem_cons_self
        cases this with
        | cons hx hn =>
          cases hn
          obtain ⟨y, rfl, h3, h4⟩ := ints_of hx
          exact ⟨y :: l, rfl, by simpa using ⟨⟨h3, h4⟩, h2⟩⟩
    obtain ⟨l, rfl, h2⟩ := key rows hr
    exact ⟨l, rfl, by simpa [maxLen] using hl, h2⟩
theorem pairs_of {x : DVal} (h : Ok (.sl [.int .i64, .int .i64]) x) : ∃ l : List (Int × Int), x = .sl 3 2 (encP l) ∧ len l.length ∧ ∀ e ∈ l, i64 e.1 ∧ i64 e.2 := by
  cases h with
  | sl hl hr =>
    rename_i rows
    have key : ∀ rows : Rows, (∀ row ∈ rows, Oks [.int .i64, .int .i64] row) → ∃ l : List (Int × Int), rows = encP l ∧ ∀ e ∈ l, i64 e.1 ∧ i64 e.2 := by
      intro rows
      induction rows with
      | nil => intro _; exact ⟨[], rfl, by simp⟩
      | cons row rows ih =>
        intro hr
        obtain ⟨l, rfl, h2⟩ := ih fun r h => hr r (List.mem_cons_of_mem _ h)
        have := hr row List.mem_cons_self
        cases this with
        | cons hx hn =>
          cases hn with
          | cons hy hn =>
            cases hn
            cases hx with
            | int hw => cases hy with
              | int hw' => exact ⟨(_, _) :: l, rfl, fun e he => (List.mem_cons.1 he).elim (fun e' => e' ▸ ⟨i64_wf hw, i64_wf hw'⟩) (h2 e)⟩
    obtain ⟨l, rfl, h2⟩ := key rows hr
    exact ⟨l, rfl, by simpa [maxLen] using hl, h2⟩
theorem sets_of {x : DVal} (h : Ok (.sl [.int .i64, .sl [.int .i64]]) x) : ∃ l : List (Int × List Int), x = .sl 3 2 (encS l) ∧ len l.length ∧ ∀ e ∈ l, i64 e.1 ∧ len e.2.length ∧ ∀ n ∈ e.2, i64 n := by
  cases h with
  | sl hl hr =>
    rename_i rows
    have key : ∀ rows : Rows, (∀ row ∈ rows, Oks [.int .i64, .sl [.int .i64]] row) → ∃ l : List (Int × List Int), rows = encS l ∧ ∀ e ∈ l, i64 e.1 ∧ len e.2.length ∧ ∀ n ∈ e.2, i64 n := by
      intro rows
      induction rows with
      | nil => intro _; exact ⟨[], rfl, by simp⟩
      | cons row rows ih =>
        intro hr
        obtain ⟨l, rfl, h2⟩ := ih fun r h => hr r (List.mem_cons_of_mem _ h)
        have := hr row List.mem_cons_self
        cases this with
        | cons hx hn =>
          cases hn with
          | cons hy hn =>
            cases hn
            cases hx with
            | int hw =>
              obtain ⟨y, rfl, h3, h4⟩ := ints_of hy
              exact ⟨(_, y) :: l, rfl, fun e he => (List.mem_cons.1 he).elim (fun e' => e' ▸ ⟨i64_wf hw, h3, h4⟩) (h2 e)⟩
    obtain ⟨l, rfl, h2⟩ := key rows hr
    exact ⟨l, rfl, by simpa [maxLen] using hl, h2⟩
abbrev insSh : List Sh := [.int .i64, .int .i64, .sl [.int .i64, .int .i64], .sl [.sl [.int .i64]], .int .i64, .sl [.int .i64, .sl [.int .i64]]]
theorem ins_of {xs : List DVal} (h : Oks insSh xs) : ∃ x : Ins, DVal.agg xs = insD x ∧ x.Fits := by
  cases h with | cons h0 h => cases h with | cons h1 h => cases h with | cons h2 h => cases h with | cons h3 h => cases h with | cons h4 h => cases h with | cons h5 h =>
    cases h
    obtain ⟨its, rfl, l2, _⟩ := pairs_of h2
    obtain ⟨cst, rfl, l3, e3⟩ := ints2_of h3
    obtain ⟨sts, rfl, l5, e5⟩ := sets_of h5
    cases h0 with | int w0 => cases h1 with | int w1 => cases h4 with | int w4 =>
      exact ⟨⟨_, _, its, cst, _, sts⟩, rfl, ⟨l2, l3, fun r hr => (e3 r hr).1, l5, fun s hs => (e5 s hs).2.1⟩⟩
theorem ras_ins {W : World} {x : Ins} {v : Value} (h : V (Kw W) (insD x) v) : RA (Kw W) id id [] (insA x) v := by
  cases h with | agg _ vs hv => exact .agg (.ofVs (xs := [di x.kind, di x.cap, .sl 3 2 (encP x.items), .sl 3 1 (encR x.cost), di x.size, .sl 3 2 (encS x.sets)]) hv)

theorem sim_of {g : Nat} (hb : ((P.funcs[g]?).bind (·.body)).isSome = true) {a : List AVal} {r : AVal} (h : T g a [] = some (r, [])) : Sim P g a [] r [] := by
  cases hf : P.funcs[g]? with
  | none => rw [hf] at hb; cases hb
  | some fn =>
    rw [hf] at hb
    cases hbd : fn.body with
    | none => simp [hbd] at hb
    | some body => exact tab_sim mixed G_ok hf hbd h

end W

open Go Go.Eng
namespace W
theorem dynBest_row {W : World} {xs : List DVal} (o0 : Oks insSh xs) {v0 : Value} (a0 : V (Kw W) (.agg xs) v0) :
    ∃ al, Sim P F.law_DynBest al [] (.d (.v (.bool true))) [] ∧ RAs (Kw W) id id [] al [v0] := by
  obtain ⟨x, e0, hx⟩ := ins_of o0
  rw [e0] at a0
  exact ⟨_, sim_of (by kernel_rfl) (law_DynBest_spec hx), .cons (ras_ins a0) .nil⟩
end W
