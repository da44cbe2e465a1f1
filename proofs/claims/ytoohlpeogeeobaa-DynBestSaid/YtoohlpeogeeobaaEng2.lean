/- An abstract machine for the program's text, over any program: its steps are sound for the model. Conditions: none. -/
import Derived.Test.YtoohlpeogeeobaaEng1
import Derived.Below
import Derived.Laws.Externs
import Derived.Lib.Join
import Derived.Lib.ItoaNum
namespace Go.Eng
open Go

/-- With rounds enough the answer is r. -/
def Ev' (f : Nat → Option Res) (r : Res) : Prop := ∃ k0, ∀ k, k0 ≤ k → f k = some r

theorem Ev'.step {f : Nat → Option Res} {r : Res} (h : Ev' (fun k => f (k + 1)) r) : Ev' f r := by
  obtain ⟨k0, h⟩ := h
  refine ⟨k0 + 1, fun k hk => ?_⟩
  obtain ⟨m, rfl⟩ : ∃ m, k = m + 1 := ⟨k - 1, by omega⟩
  exact h m (by omega)
theorem Ev'.of {x : Option Res} {r : Res} (h : x = some r) : Ev' (fun _ => x) r := ⟨0, fun _ _ => h⟩
theorem Ev'.rfl' {r : Res} : Ev' (fun _ => some r) r := ⟨0, fun _ _ => rfl⟩
theorem Ev'.ite {c : Prop} [Decidable c] {f g : Nat → Option Res} {r : Res} (h1 : c → Ev' f r) (h2 : ¬ c → Ev' g r) : Ev' (fun k => if c then f k else g k) r := by
  by_cases h : c
  · simpa only [h, if_true] using h1 h
  · simpa only [h, if_false] using h2 h
theorem Ev'.get {f : Nat → Option Res} {r : Res} (h : Ev' f r) : ∃ k, f k = some r := by
  obtain ⟨k0, h⟩ := h
  exact ⟨k0, h k0 (Nat.le_refl _)⟩
theorem Ev'.get1 {f : Nat → Option Res} {r : Res} (h : Ev' f r) : ∃ k, f (k + 1) = some r := by
  obtain ⟨k0, h⟩ := h
  exact ⟨k0, h _ (Nat.le_succ _)⟩

abbrev di (n : Int) : DVal := .v (.int .i64 n)
abbrev du (n : Int) : DVal := .v (.int .u64 n)
abbrev db (b : Bool) : DVal := .v (.bool b)
abbrev ds (s : ByteArray) : DVal := .v (.string s)

section red
variable {A : Type}
@[simp] theorem onInt_v (k : IntKind) (n : Int) (f : Int → Option A) : onInt k (.v (.int k n)) f = f n := if_pos rfl
@[simp] theorem onBool_v (b : Bool) (f : Bool → Option A) : onBool (.v (.bool b)) f = f b := rfl
@[simp] theorem onStr_v (s : ByteArray) (f : ByteArray → Option A) : onStr (.v (.string s)) f = f s := rfl
@[simp] theorem onSl_v (sz fl : Nat) (rows : Rows) (f : Rows → Option A) : onSl sz (.sl fl sz rows) f = f rows := if_pos rfl
@[simp] theorem onSl_nil (sz : Nat) (f : Rows → Option A) : onSl sz (.v (.slice none 0 0)) f = f [] := rfl
@[simp] theorem onAgg_v (n : Nat) (cs : List DVal) (f : List DVal → Option A) : onAgg n (.agg cs) f = if cs.length = n then f cs else none := rfl
@[simp] theorem onTup_v (n : Nat) (cs : List DVal) (f : List DVal → Option A) : onTup n (.tup cs) f = if cs.length = n then f cs else none := rfl
@[simp] theorem onAggA_v (n : Nat) (cs : List AVal) (f : List AVal → Option A) : onAggA n (.agg cs) f = if cs.length = n then f cs else none := rfl
@[simp] theorem onIfc_nil (g : Option A) (f : TypeId → DVal → Option A) : onIfc (.v .nilIface) g f = g := rfl
@[simp] theorem onIfc_ifc (t : TypeId) (y : DVal) (g : Option A) (f : TypeId → DVal → Option A) : onIfc (.ifc t y) g f = f t y := rfl
@[simp] theorem onCell_0 (x : DVal) (r : List DVal) (f : DVal → Option A) : onCell (x :: r) 0 f = f x := rfl
@[simp] theorem onCell_1 (x0 x : DVal) (r : List DVal) (f : DVal → Option A) : onCell (x0 :: x :: r) 1 f = f x := rfl
@[simp] theorem onCell_2 (x0 x1 x : DVal) (r : List DVal) (f : DVal → Option A) : onCell (x0 :: x1 :: x :: r) 2 f = f x := rfl
@[simp] theorem onCell_3 (x0 x1 x2 x : DVal) (r : List DVal) (f : DVal → Option A) : onCell (x0 :: x1 :: x2 :: x :: r) 3 f = f x := rfl
@[simp] theorem onCell_4 (x0 x1 x2 x3 x : DVal) (r : List DVal) (f : DVal → Option A) : onCell (x0 :: x1 :: x2 :: x3 :: x :: r) 4 f = f x := rfl
@[simp] theorem onCell_5 (x0 x1 x2 x3 x4 x : DVal) (r : List DVal) (f : DVal → Option A) : onCell (x0 :: x1 :: x2 :: x3 :: x4 :: x :: r) 5 f = f x := rfl
@[simp] theorem onCell_6 (x0 x1 x2 x3 x4 x5 x : DVal) (r : List DVal) (f : DVal → Option A) : onCell (x0 :: x1 :: x2 :: x3 :: x4 :: x5 :: x :: r) 6 f = f x := rfl
@[simp] theorem onCell_7 (x0 x1 x2 x3 x4 x5 x6 x : DVal) (r : List DVal) (f : DVal → Option A) : onCell (x0 :: x1 :: x2 :: x3 :: x4 :: x5 :: x6 :: x :: r) 7 f = f x := rfl
@[simp] theorem onCellA_0 (x : AVal) (r : List AVal) (f : AVal → Option A) : onCellA (x :: r) 0 f = f x := rfl
@[simp] theorem onCellA_1 (x0 x : AVal) (r : List AVal) (f : AVal → Option A) : onCellA (x0 :: x :: r) 1 f = f x := rfl
@[simp] theorem onCellA_2 (x0 x1 x : AVal) (r : List AVal) (f : AVal → Option A) : onCellA (x0 :: x1 :: x :: r) 2 f = f x := rfl
@[simp] theorem onCellA_3 (x0 x1 x2 x : AVal) (r : List AVal) (f : AVal → Option A) : onCellA (x0 :: x1 :: x2 :: x :: r) 3 f = f x := rfl
@[simp] theorem onD_d (x : DVal) (f : DVal → Option A) : onD (.d x) f = f x := rfl
@[simp] theorem onOwn_some (x : AVal) (H : Heap) (f : AVal → Heap → Option A) : onOwn (some (x, H)) f = f x H := rfl
@[simp] theorem onHs_hs (j sz len : Nat) (f : Nat → Option A) : onHs j sz (.hs j 0 sz 0 len) f = f len := by simp [onHs]
@[simp] theorem onArr_0 (sz : Nat) (rows : Rows) (H : Heap) (f : Rows → Option A) : onArr (.arr sz rows :: H) 0 sz f = f rows := by simp [onArr]
@[simp] theorem onArr_1 (b : ABlk) (sz : Nat) (rows : Rows) (H : Heap) (f : Rows → Option A) : onArr (b :: .arr sz rows :: H) 1 sz f = f rows := by simp [onArr]
@[simp] theorem onCall_d (x : DVal) (H : Heap) (f : DVal → Option A) : onCall (some (.d x, H)) f = f x := rfl
theorem onRoom_of {n : Nat} (h : n ≤ 549755813888) (f : Option A) : onRoom n f = f := if_pos h
theorem onIx_of {i : Int} {n : Nat} (h0 : 0 ≤ i) (h : i.toNat < n) (f : Nat → Option A) : onIx i n f = f i.toNat := by rw [onIx, if_pos h0, if_pos h]
theorem onIx_nat {i n : Nat} (h : i < n) (f : Nat → Option A) : onIx (i : Int) n f = f i := onIx_of (Int.natCast_nonneg i) (by simpa using h) f
theorem onRow_of {rows : Rows} {i : Nat} {r : List DVal} (h : rows[i]? = some r) (f : List DVal → Option A) : onRow rows i f = f r := by rw [onRow, h]
theorem onRow_map {B : Type} {l : List B} {g : B → List DVal} {i : Nat} (h : i < l.length) (f : List DVal → Option A) : onRow (l.map g) i f = f (g l[i]) := by
  rw [onRow]; simp [h]
theorem onEnum_of {i n j : Nat} (h : j ≤ i) (h' : i < j + n) (f : Nat → Option A) : onEnum (i : Int) n j f = f i := by
  induction n generalizing j with
  | zero => omega
  | succ n ih =>
    rw [onEnum]
    by_cases e : i = j
    · subst e; rw [if_pos rfl]
    · rw [if_neg (by omega)]; exact ih (by omega) (by omega)
theorem onByte_of {s : ByteArray} {i : Nat} (h : i < s.size) (f : UInt8 → Option A) : onByte s (i : Int) f = f s[i] := by
  rw [onByte, if_pos (Int.natCast_nonneg i), Int.toNat_natCast]
  simp [h]
end red

/- What is given from outside. -/
def cloneE (sz : Nat) : List AVal → Option Res
  | [.d (.sl 3 sz' rows)] => if sz' = sz ∧ rows.length ≤ 549755813888 then some (.hs 0 0 sz 0 rows.length, [.arr sz rows]) else none
  | _ => none
theorem cloneE_eq {sz : Nat} {rows : Rows} (h : rows.length ≤ 549755813888) : cloneE sz [.d (.sl 3 sz rows)] = some (.hs 0 0 sz 0 rows.length, [.arr sz rows]) := if_pos ⟨rfl, h⟩
def add64E : List AVal → Option Res
  | [.d (.v (.int .u64 x)), .d (.v (.int .u64 y)), .d (.v (.int .u64 c))] => if 0 ≤ x ∧ 0 ≤ y ∧ 0 ≤ c ∧ c ≤ 1 then some (.d (.tup [.v (.int .u64 ((x + y + c) % 18446744073709551616)), .v (.int .u64 ((x + y + c) / 18446744073709551616))]), []) else none
  | _ => none
def sub64E : List AVal → Option Res
  | [.d (.v (.int .u64 x)), .d (.v (.int .u64 y)), .d (.v (.int .u64 c))] => if 0 ≤ x ∧ x < 18446744073709551616 ∧ 0 ≤ y ∧ y < 18446744073709551616 ∧ 0 ≤ c ∧ c ≤ 1 then some (.d (.tup [.v (.int .u64 ((x - y - c) % 18446744073709551616)), .v (.int .u64 (if x < y + c then 1 else 0))]), []) else none
  | _ => none
def strsOf : Rows → Option (List ByteArray)
  | [] => some []
  | [.v (.string s)] :: r => (strsOf r).map (s :: ·)
  | _ => none

theorem wrap_i64_def (x : Int) : IntKind.i64.wrap x = if 9223372036854775808 ≤ x % 18446744073709551616 then x % 18446744073709551616 - 18446744073709551616 else x % 18446744073709551616 := by
  simp [IntKind.wrap, IntKind.bits, IntKind.signed]
theorem wrap_u64_def (x : Int) : IntKind.u64.wrap x = x % 18446744073709551616 := by
  simp [IntKind.wrap, IntKind.bits, IntKind.signed]
theorem wrap_i64 {x : Int} (h0 : -9223372036854775808 ≤ x) (h1 : x ≤ 9223372036854775807) : IntKind.i64.wrap x = x := by
  rw [wrap_i64_def]; split <;> omega
theorem wrap_u64 {x : Int} (h0 : 0 ≤ x) (h1 : x < 18446744073709551616) : IntKind.u64.wrap x = x := by
  rw [wrap_u64_def]; omega
theorem wrap_succ {i : Nat} (h : i < 9223372036854775807) : IntKind.i64.wrap ((i : Int) + 1) = ((i + 1 : Nat) : Int) := by
  rw [wrap_i64] <;> omega
end Go.Eng
namespace Go.Eng
open Go

/-- A loop over a list that stops where p fails. -/
theorem ev_all {α : Type} (l : List α) (p : α → Bool) (F : Nat → Int → Option Res) {rf r : Res}
    (hT : ∀ (i : Nat) (h : i < l.length), p l[i] = true → ∀ r, Ev' (fun k => F k ((i + 1 : Nat) : Int)) r → Ev' (fun k => F (k + 1) (i : Int)) r)
    (hF : ∀ (i : Nat) (h : i < l.length), p l[i] = false → Ev' (fun k => F (k + 1) (i : Int)) rf)
    (hE : l.all p = true → Ev' (fun k => F (k + 1) (l.length : Int)) r) : Ev' (fun k => F k 0) (if l.all p then r else rf) := by
  have main : ∀ (d i : Nat), d + i = l.length → (l.take i).all p = true → Ev' (fun k => F k (i : Int)) (if l.all p then r else rf) := by
    intro d
    induction d with
    | zero =>
      intro i hd ht
      rw [List.take_of_length_le (by omega)] at ht
      rw [if_pos ht]
      have := hE ht
      rw [show l.length = i by omega] at this
      exact .step this
    | succ d ih =>
      intro i hd ht
      have hi : i < l.length := by omega
      cases hp : p l[i] with
      | true =>
        refine .step (hT i hi hp _ (ih (i + 1) (by omega) ?_))
        rw [List.take_succ_eq_append_getElem hi, List.all_append, ht]; simp [hp]
      | false =>
        have : l.all p = false := by
          rw [Bool.eq_false_iff]; intro h
          rw [List.all_eq_true.1 h _ (List.getElem_mem hi)] at hp; cases hp
        rw [this]; exact .step (hF i hi hp)
  exact main l.length 0 (by omega) (by simp)

/-- A loop over a list that goes on to its end. 'I': what holds ahead of each round. -/
theorem ev_fold {α S : Type} (l : List α) (g : S → α → S) (F : Nat → Int → S → Option Res) (I : Nat → S → Prop) {r : Res} {s0 : S} (h0 : I 0 s0)
    (hI : ∀ (i : Nat) (h : i < l.length) s, I i s → I (i + 1) (g s l[i]))
    (hT : ∀ (i : Nat) (h : i < l.length) s, I i s → ∀ r, Ev' (fun k => F k ((i + 1 : Nat) : Int) (g s l[i])) r → Ev' (fun k => F (k + 1) (i : Int) s) r)
    (hE : I l.length (l.foldl g s0) → Ev' (fun k => F (k + 1) (l.length : Int) (l.foldl g s0)) r) : Ev' (fun k => F k 0 s0) r := by
  have main : ∀ (d i : Nat), d + i = l.length → I i ((l.take i).foldl g s0) → Ev' (fun k => F k (i : Int) ((l.take i).foldl g s0)) r := by
    intro d
    induction d with
    | zero =>
      intro i hd hi
      rw [List.take_of_length_le (by omega)] at hi ⊢
      rw [show i = l.length by omega] at hi ⊢
      exact .step (hE hi)
    | succ d ih =>
      intro i hd hi
      have hlt : i < l.length := by omega
      have e : (l.take (i + 1)).foldl g s0 = g ((l.take i).foldl g s0) l[i] := by
        rw [List.take_succ_eq_append_getElem hlt, List.foldl_append]; rfl
      refine .step (hT i hlt _ hi _ ?_)
      rw [← e]
      exact ih (i + 1) (by omega) (by rw [e]; exact hI i hlt _ hi)
  exact main l.length 0 (by omega) h0

/-- A loop over a list that may stop. -/
def foldE {α S : Type} (g : S → α → Res ⊕ S) : List α → S → Res ⊕ S
  | [], s => .inr s
  | a :: l, s => match g s a with
    | .inl r => .inl r
    | .inr s' => foldE g l s'
theorem ev_for {α S : Type} (l : List α) (g : S → α → Res ⊕ S) (F : Nat → Int → S → Option Res) (I : Nat → S → Prop) {r : Res} {s0 : S} (h0 : I 0 s0)
    (hI : ∀ (i : Nat) (h : i < l.length) s s', I i s → g s l[i] = .inr s' → I (i + 1) s')
    (hS : ∀ (i : Nat) (h : i < l.length) s r, I i s → g s l[i] = .inl r → Ev' (fun k => F (k + 1) (i : Int) s) r)
    (hT : ∀ (i : Nat) (h : i < l.length) s s', I i s → g s l[i] = .inr s' → ∀ r, Ev' (fun k => F k ((i + 1 : Nat) : Int) s') r → Ev' (fun k => F (k + 1) (i : Int) s) r)
    (hL : ∀ r', foldE g l s0 = .inl r' → r = r')
    (hE : ∀ s, foldE g l s0 = .inr s → I l.length s → Ev' (fun k => F (k + 1) (l.length : Int) s) r) : Ev' (fun k => F k 0 s0) r := by
  have main : ∀ (d i : Nat) (s : S), d + i = l.length → I i s → foldE g l s0 = foldE g (l.drop i) s → Ev' (fun k => F k (i : Int) s) r := by
    intro d
    induction d with
    | zero =>
      intro i s hd hi he
      rw [List.drop_of_length_le (by omega)] at he
      rw [show i = l.length by omega] at hi ⊢
      exact .step (hE s he hi)
    | succ d ih =>
      intro i s hd hi he
      have hlt : i < l.length := by omega
      rw [List.drop_eq_getElem_cons hlt, foldE] at he
      cases hg : g s l[i] with
      | inl r' =>
        rw [hg] at he
        rw [hL r' he]
        exact .step (hS i hlt s r' hi hg)
      | inr s' =>
        rw [hg] at he
        exact .step (hT i hlt s s' hi hg _ (ih (i + 1) s' (by omega) (hI i hlt s s' hi hg) he))
  exact main l.length 0 s0 (by omega) h0 rfl

@[simp] theorem lt_true {i n : Nat} (h : i < n) : decide ((i : Int) < (n : Int)) = true := by simpa using h
@[simp] theorem lt_self (n : Nat) : decide ((n : Int) < (n : Int)) = false := by simp
@[simp] theorem zero_cast : ((0 : Nat) : Int) = 0 := rfl
theorem cast_beq (a b : Nat) : ((a : Int) == (b : Int)) = (a == b) := by
  rw [Bool.eq_iff_iff, beq_iff_eq, beq_iff_eq]; omega
theorem cast_beq0 (a : Nat) : ((a : Int) == 0) = (a == 0) := cast_beq a 0
theorem cast_bne (a b : Nat) : ((a : Int) != (b : Int)) = (a != b) := by unfold bne; rw [cast_beq]

theorem ev_and {α : Type} (l : List α) (p : α → Bool) (F : Nat → Int → Bool → Option Res) {r : Res} (b0 : Bool)
    (hT : ∀ (i : Nat) (h : i < l.length) b r, Ev' (fun k => F k ((i + 1 : Nat) : Int) (b && p l[i])) r → Ev' (fun k => F (k + 1) (i : Int) b) r)
    (hE : Ev' (fun k => F (k + 1) (l.length : Int) (b0 && l.all p)) r) : Ev' (fun k => F k 0 b0) r := by
  have e : ∀ (l : List α) b, l.foldl (fun b x => b && p x) b = (b && l.all p) := by
    intro l
    induction l with
    | nil => intro b; simp
    | cons x l ih => intro b; simp only [List.foldl_cons, ih, List.all_cons, Bool.and_assoc]
  exact ev_fold l (fun b x => b && p x) F (fun _ _ => True) trivial (fun _ _ _ _ => trivial) (fun i h b _ r hr => hT i h b r hr) (fun _ => by rw [e]; exact hE)
theorem ev_or {α : Type} (l : List α) (p : α → Bool) (F : Nat → Int → Bool → Option Res) {r : Res} (b0 : Bool)
    (hT : ∀ (i : Nat) (h : i < l.length) b r, Ev' (fun k => F k ((i + 1 : Nat) : Int) (b || p l[i])) r → Ev' (fun k => F (k + 1) (i : Int) b) r)
    (hE : Ev' (fun k => F (k + 1) (l.length : Int) (b0 || l.any p)) r) : Ev' (fun k => F k 0 b0) r := by
  have e : ∀ (l : List α) b, l.foldl (fun b x => b || p x) b = (b || l.any p) := by
    intro l
    induction l with
    | nil => intro b; simp
    | cons x l ih => intro b; simp only [List.foldl_cons, ih, List.any_cons, Bool.or_assoc]
  exact ev_fold l (fun b x => b || p x) F (fun _ _ => True) trivial (fun _ _ _ _ => trivial) (fun i h b _ r hr => hT i h b r hr) (fun _ => by rw [e]; exact hE)
end Go.Eng

namespace Go.Eng
open Go Go.RowKit

variable {P : Program} {K : KMap} {β κ : Nat → Nat} {w : World} {Fr : Nat → Prop}

def itoaE : List AVal → Option Res
  | [.d (.v (.int .i64 n))] => if 0 ≤ n ∧ n < 100 then some (.d (.v (.string ⟨(Lib.decDigits n.toNat).toArray⟩)), []) else none
  | _ => none
def joinB (xs : List ByteArray) (sep : ByteArray) : ByteArray := ⟨(Lib.join (xs.map (·.data.toList)) sep.data.toList).toArray⟩
def joinE : List AVal → Option Res
  | [.d (.sl 3 1 rows), .d (.v (.string sep))] => match strsOf rows with
    | some xs => if xs.length ≤ 140737488355328 ∧ (Lib.join (xs.map (·.data.toList)) sep.data.toList).length ≤ 140737488355328 then some (.d (.v (.string (joinB xs sep))), []) else none
    | none => none
  | _ => none

theorem good_body {g : FuncId} {fn : Func} (hf : P.funcs[g]? = some fn) (hb : fn.body.isSome = true) {a : List AVal} {H : Heap} {r : AVal} {H' : Heap} (h : Sim P g a H r H') : Good P g a H r H' := by
  intro fn' hf'
  rw [hf] at hf'; injection hf' with hf'; subst hf'
  exact ⟨fun _ => h, fun e => by rw [e] at hb; cases hb⟩
theorem good_ext {g : FuncId} {fn : Func} (hf : P.funcs[g]? = some fn) (hb : fn.body.isNone = true) {a : List AVal} {H : Heap} {r : AVal} {H' : Heap} (h : H = [] → H' = [] ∧ ExtSim P g a r) : Good P g a H r H' := by
  intro fn' hf'
  rw [hf] at hf'; injection hf' with hf'; subst hf'
  exact ⟨fun e => by cases hh : fn.body <;> simp_all, fun _ => h⟩

/-- Behind a call that wrote nothing that was there. -/
theorem postA_below (s : SR Fr K β κ [] w) {w' : World} (hb : Below w.heap.size w w') {x : DVal} {u : Value} (hx : V K x u) : PostA Fr K β [] w (.d x) [] u w' := by
  have hk : ∀ bl c T fz, w.heap[bl]? = some (Obj.cells c T fz) → w'.heap[bl]? = some (Obj.cells c T fz) := fun bl c T fz h => by
    rw [hb.block bl (Array.getElem?_eq_some_iff.1 h).1]; exact h
  refine ⟨K, β, κ, ⟨fun bl o v h => ?_, fun _ _ h => by simp at h, fun _ _ _ _ h => by simp at h, fun _ _ h => by simp at h, fun bl h => Nat.lt_of_lt_of_le (s.frsz bl h) hb.size⟩, ExtA.refl _ _ _ _, .refl _ _,
    ⟨hb.os, hb.tape, hb.output, hb.size, fun bl h => hb.block bl (s.frsz bl h), fun bl c T fz h => ⟨c, T, fz, hk bl c T fz h, rfl⟩⟩, .d hx⟩
  obtain ⟨c, T, fz, h1, h2⟩ := s.wk bl o v h
  exact ⟨c, T, fz, hk bl c T fz h1, h2⟩

theorem itoa_sim {g : FuncId} (hC : ∀ (i : Nat) (_ : i < 100) (w : World), Calls P g #[.int .i64 i] w fun e w' => e = .returned (.string ⟨(Lib.decDigits i).toArray⟩) ∧ w' = w)
    {a : List AVal} {r : AVal} {H' : Heap} (h : itoaE a = some (r, H')) : Sim P g a [] r H' := by
  unfold itoaE at h
  split at h
  · rename_i n
    split at h
    · rename_i hn
      simp only [Option.some.injEq, Prod.mk.injEq] at h
      obtain ⟨rfl, rfl⟩ := h
      intro Fr K β κ w vs s ha
      cases ha with
      | cons h1 h2 =>
        cases h2
        cases h1 with
        | d h1 =>
          cases h1
          obtain ⟨i, rfl⟩ := Int.eq_ofNat_of_zero_le hn.1
          refine (hC i (by omega) w).mono ?_
          rintro e w' ⟨rfl, rfl⟩
          exact ⟨_, rfl, postA_below s (.refl _ _) (.v _ rfl)⟩
    · cases h
  · cases h

theorem strsOf_cells {g : Nat → Option Value} {o : Nat} : ∀ {rows : Rows} {xs : List ByteArray}, strsOf rows = some xs → Rws K g 1 o rows → xs.length = rows.length ∧ ∀ (j : Nat) x, xs[j]? = some x → g (o + j) = some (.string x)
  | [], xs, h, _ => by simp only [strsOf, Option.some.injEq] at h; subst h; simp
  | row :: rows, xs, h, hr => by
    cases hr with
    | cons hl hc hr =>
      unfold strsOf at h
      split at h
      · rename_i e; cases e
      · rename_i s r e
        injection e with e1 e2; subst e1 e2
        cases hs : strsOf rows with
        | none => rw [hs] at h; cases h
        | some ys =>
          rw [hs] at h
          simp only [Option.map_some, Option.some.injEq] at h
          subst h
          obtain ⟨h1, h2⟩ := strsOf_cells hs hr
          refine ⟨by simp [h1], fun j x hj => ?_⟩
          cases j with
          | zero =>
            simp at hj; subst hj
            cases hc with
            | cons hg _ hv _ => cases hv; exact hg
          | succ j =>
            have := h2 j x (by simpa using hj)
            rw [← this]; congr 1; omega
      · cases h

theorem join_sim {g : FuncId} (hN : ∀ (a : Option Addr) (c : Nat) (sep : ByteArray) (w : World), Calls P g #[.slice a 0 c, .string sep] w fun e w' => e = .returned (.string ⟨#[]⟩) ∧ w' = w)
    (hC : ∀ (bk o c : Nat) (xs : List ByteArray) (sep : ByteArray) (w : World) (_ : ∀ (j : Nat) x, xs[j]? = some x → w.cell? ⟨bk, o + j, none⟩ = some (.string x)) (_ : bk < w.heap.size) (_ : xs.length ≤ 140737488355328) (_ : xs.length ≤ c) (_ : (Lib.join (xs.map (·.data.toList)) sep.data.toList).length ≤ 140737488355328),
      Calls P g #[.slice (some ⟨bk, o, none⟩) xs.length c, .string sep] w fun e w' => e = .returned (.string ⟨(Lib.join (xs.map (·.data.toList)) sep.data.toList).toArray⟩) ∧ Below w.heap.size w w')
    {a : List AVal} {r : AVal} {H' : Heap} (h : joinE a = some (r, H')) : Sim P g a [] r H' := by
  unfold joinE at h
  split at h
  · rename_i rows sep
    split at h
    · rename_i xs hxs
      split at h
      · rename_i hn
        simp only [Option.some.injEq, Prod.mk.injEq] at h
        obtain ⟨rfl, rfl⟩ := h
        intro Fr K β κ w vs s ha
        cases ha with
        | cons h1 h2 =>
          cases h2 with
          | cons h2 h3 =>
            cases h3
            cases h2 with
            | d h2 =>
              cases h2
              have empty : rows = [] → ∀ (ad : Option Addr) (c : Nat), Calls P g ⟨[.slice ad 0 c, .string sep]⟩ w fun e w' => ∃ u, e = .returned u ∧ PostA Fr K β [] w (.d (.v (.string (joinB xs sep)))) [] u w' := by
                intro hr ad c
                subst hr
                simp only [strsOf, Option.some.injEq] at hxs
                subst hxs
                refine (hN ad c sep w).mono ?_
                rintro e w' ⟨rfl, rfl⟩
                exact ⟨_, rfl, postA_below s (.refl _ _) (.v _ rfl)⟩
              cases h1 with
              | d h1 =>
                cases h1 with
                | nil => exact empty rfl _ _
                | emp => exact empty rfl _ _
                | sl _ _ _ bl o cap _ hcap hr =>
                  by_cases hz : rows = []
                  · subst hz; exact empty rfl _ _
                  · obtain ⟨e1, e2⟩ := strsOf_cells hxs hr
                    have hlt : bl < w.heap.size := by
                      cases hr with
                      | nil => exact absurd rfl hz
                      | cons hl hc _ => cases hc with
                        | nil => simp at hl
                        | cons hg _ _ _ => exact s.lt hg
                    have := hC bl o cap xs sep w (fun j x hj => s.cell (e2 j x hj)) hlt hn.1 (by omega) hn.2
                    rw [e1] at this
                    refine this.mono ?_
                    rintro e w' ⟨rfl, hb⟩
                    exact ⟨_, rfl, postA_below s hb (.v _ rfl)⟩
      · cases h
    · cases h
  · cases h

/-- slices.Clone: by its two runs. -/
theorem clone_sim {X : Orc} (hmix : P.follows .mixedOrders = true) (hX : OrcOk P X) {g : FuncId} {sz : Nat} {cf : Cf} (hcf : CfFor cf [])
    (h0 : ∀ rows : Rows, rows.length ≤ 549755813888 → ∃ k, runF P X cf k g [.d (.sl 0 sz rows)] [] = some (.hs 0 0 sz 0 rows.length, [.arr sz rows]))
    (h2 : ∃ k, runF P X cf k g [.d (.sl 2 sz [])] [] = some (.d (.v (.slice none 0 0)), []))
    {a : List AVal} {r : AVal} {H' : Heap} (h : cloneE sz a = some (r, H')) : Sim P g a [] r H' := by
  unfold cloneE at h
  split at h
  · rename_i sz' rows
    split at h
    · rename_i hn
      obtain ⟨rfl, hn⟩ := hn
      simp only [Option.some.injEq, Prod.mk.injEq] at h
      obtain ⟨rfl, rfl⟩ := h
      intro Fr K β κ w vs s ha
      cases ha with
      | cons h1 hr =>
        cases hr
        cases h1 with
        | d h1 =>
          have full : ∀ v, V K (.sl 0 sz' rows) v → Calls P g ⟨[v]⟩ w fun e w' => ∃ u, e = .returned u ∧ PostA Fr K β [] w (.hs 0 0 sz' 0 rows.length) [.arr sz' rows] u w' := by
            intro v hv
            obtain ⟨k, hk⟩ := h0 rows hn
            exact sim_of_run hmix hX hcf hk Fr K β κ w _ s (.cons (.d hv) .nil)
          cases h1 with
          | emp fl sz ad cap hf => exact full _ (.emp _ _ _ _ (by decide))
          | sl fl sz rows bl o cap hf hc hr => exact full _ (.sl _ _ _ _ _ _ (by decide) hc hr)
          | nil fl sz cap hf =>
            obtain ⟨k, hk⟩ := h2
            refine (sim_of_run hmix hX hcf hk Fr K β κ w _ s (.cons (.d (.nil 2 _ cap (by decide))) .nil)).mono ?_
            rintro e w' ⟨u, he, K', β', κ', s', e', n', k', r'⟩
            refine ⟨u, he, K', β', κ', ⟨s'.wk, fun id x hx => ?_, fun i j x y hi hj hx hy => ?_, fun id x hx ho => ?_, s'.frsz⟩, ⟨e'.kle, fun id x hlt => absurd hlt (Nat.not_lt_zero _)⟩, n', k', ?_⟩
            · cases id with
              | zero => simp at hx; subst hx; exact .inl rfl
              | succ id => simp at hx
            · cases i with
              | zero => simp at hi; subst hi; exact absurd rfl hx
              | succ i => simp at hi
            · cases id with
              | zero => simp at hx; subst hx; exact absurd rfl ho
              | succ id => simp at hx
            · cases r' with
              | d r' =>
                cases r'
                exact .hs (bl := 0) (o := 0) (cv := 0) (n := 0) rfl (Nat.le_refl _) ⟨_, _, rfl, Nat.le_refl _, fun h => absurd rfl h⟩ fun _ => ⟨Nat.le_refl _, fun h => absurd rfl h⟩
    · cases h
  · cases h

def sub64Entry : Array Value → Sem Value := fun args => do
  let (x, y, b) ← Extern.MathBitsCarry.three "Sub64" args
  pure (Extern.MathBitsCarry.pair ((x + Extern.MathBitsCarry.m64 - y - b) % Extern.MathBitsCarry.m64) (if x < y + b then 1 else 0))
theorem run_sub64 (x y c : Int) (hx : 0 ≤ x ∧ x < 18446744073709551616) (hy : 0 ≤ y ∧ y < 18446744073709551616) (hc0 : 0 ≤ c) (hc : c ≤ 1) (w : World) :
    (sub64Entry #[.int .u64 x, .int .u64 y, .int .u64 c]).run P w =
      .ok (.tuple #[.int .u64 ((x - y - c) % 18446744073709551616), .int .u64 (if x < y + c then 1 else 0)]) w := by
  have key : ∀ k : Nat, k ≤ 1 → (sub64Entry #[.int .u64 x, .int .u64 y, .int .u64 (k : Int)]).run P w =
      .ok (Extern.MathBitsCarry.pair ((x.toNat + Extern.MathBitsCarry.m64 - y.toNat - k) % Extern.MathBitsCarry.m64) (if x.toNat < y.toNat + k then 1 else 0)) w := by
    intro k hk
    have : k = 0 ∨ k = 1 := by omega
    rcases this with rfl | rfl <;> rfl
  obtain ⟨k, rfl⟩ := Int.eq_ofNat_of_zero_le hc0
  rw [key k (by omega)]
  obtain ⟨X, rfl⟩ := Int.eq_ofNat_of_zero_le hx.1
  obtain ⟨Y, rfl⟩ := Int.eq_ofNat_of_zero_le hy.1
  have e1 : (((X + 18446744073709551616 - Y - k) % 18446744073709551616 : Nat) : Int) = ((X : Int) - Y - k) % 18446744073709551616 := by omega
  have e2 : ((if X < Y + k then 1 else 0 : Nat) : Int) = if (X : Int) < (Y : Int) + (k : Int) then 1 else 0 := by split <;> split <;> omega
  simp only [Extern.MathBitsCarry.pair, Extern.MathBitsCarry.m64, Int.toNat_natCast]
  show Result.ok (Value.tuple #[.int .u64 ((((X + 18446744073709551616 - Y - k) % 18446744073709551616 : Nat) : Int)), .int .u64 (((if X < Y + k then 1 else 0 : Nat) : Int))]) w = _
  rw [e1, e2]

theorem add64_ext {g : FuncId} {fn : Func} (hf : P.funcs[g]? = some fn) (h1 : (fn.name == "runtime.NumGoroutine") = false) (h2 : fn.body.isNone = true) (h3 : Extern.findNext fn = none) (h4 : Extern.find fn = some add64Entry)
    {a : List AVal} {r : AVal} {H' : Heap} (h : add64E a = some (r, H')) : H' = [] ∧ ExtSim P g a r := by
  unfold add64E at h
  split at h
  · split at h
    · rename_i x y c hc
      simp only [Option.some.injEq, Prod.mk.injEq] at h
      obtain ⟨rfl, rfl⟩ := h
      refine ⟨rfl, fun K w vs ha => ?_⟩
      cases ha with
      | cons a1 ha => cases ha with
        | cons a2 ha => cases ha with
          | cons a3 ha =>
            cases ha
            cases a1 with | d a1 => cases a1; cases a2 with | d a2 => cases a2; cases a3 with | d a3 =>
              cases a3
              refine ⟨_, (run_callFunc_extern hf h1 h2 h3 h4 _ w).trans (by rw [run_add64 x y c hc.1 hc.2.1 hc.2.2.1 hc.2.2.2]; rfl), ?_⟩
              exact .d (.tup _ _ (.cons (.v _ rfl) (.cons (.v _ rfl) .nil)))
    · cases h
  · cases h
theorem sub64_ext {g : FuncId} {fn : Func} (hf : P.funcs[g]? = some fn) (h1 : (fn.name == "runtime.NumGoroutine") = false) (h2 : fn.body.isNone = true) (h3 : Extern.findNext fn = none) (h4 : Extern.find fn = some sub64Entry)
    {a : List AVal} {r : AVal} {H' : Heap} (h : sub64E a = some (r, H')) : H' = [] ∧ ExtSim P g a r := by
  unfold sub64E at h
  split at h
  · split at h
    · rename_i x y c hc
      simp only [Option.some.injEq, Prod.mk.injEq] at h
      obtain ⟨rfl, rfl⟩ := h
      refine ⟨rfl, fun K w vs ha => ?_⟩
      cases ha with
      | cons a1 ha => cases ha with
        | cons a2 ha => cases ha with
          | cons a3 ha =>
            cases ha
            cases a1 with | d a1 => cases a1; cases a2 with | d a2 => cases a2; cases a3 with | d a3 =>
              cases a3
              refine ⟨_, (run_callFunc_extern hf h1 h2 h3 h4 _ w).trans (by rw [run_sub64 x y c ⟨hc.1, hc.2.1⟩ ⟨hc.2.2.1, hc.2.2.2.1⟩ hc.2.2.2.2.1 hc.2.2.2.2.2]; rfl), ?_⟩
              exact .d (.tup _ _ (.cons (.v _ rfl) (.cons (.v _ rfl) .nil)))
    · cases h
  · cases h
end Go.Eng
