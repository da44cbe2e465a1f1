/- An abstract machine for the program's text, over any program: its steps are sound for the model. Conditions: none. -/
import Derived.Test.YtoohlpeogeeobaaEng2
import Derived.WalkKit
import Derived.ProofKit
import Derived.OpenShut
import Derived.ShutString
import Derived.ChangeOld
import Derived.SizedLaws
import Derived.Carry
namespace Go.Eng
open Go Go.RowKit

/-- The shape of one cell. -/
inductive Sh where
  | int (k : IntKind)
  | bool
  | str
  | sl (es : List Sh)

mutual
inductive Ok : Sh → DVal → Prop
  | int {k : IntKind} {n : Int} : (Lit.int k n).wf = true → Ok (.int k) (.v (.int k n))
  | bool (b : Bool) : Ok .bool (.v (.bool b))
  | str {s : ByteArray} : s.size ≤ maxLen → Ok .str (.v (.string s))
  | sl {es : List Sh} {rows : Rows} : rows.length ≤ maxLen → (∀ row ∈ rows, Oks es row) → Ok (.sl es) (.sl 3 es.length rows)
inductive Oks : List Sh → List DVal → Prop
  | nil : Oks [] []
  | cons {s : Sh} {x : DVal} {ss : List Sh} {xs : List DVal} : Ok s x → Oks ss xs → Oks (s :: ss) (x :: xs)
end
theorem Oks.length : ∀ {ss : List Sh} {xs : List DVal}, Oks ss xs → xs.length = ss.length
  | _, _, .nil => rfl
  | _, _, .cons _ h => by simp [h.length]
theorem Oks.append : ∀ {ss ts : List Sh} {xs ys : List DVal}, Oks ss xs → Oks ts ys → Oks (ss ++ ts) (xs ++ ys)
  | _, _, _, _, .nil, h => h
  | _, _, _, _, .cons h h', h2 => .cons h (h'.append h2)

/-- The shapes of fields that lie one behind the other. -/
def fieldsSh (P : Program) (g : TypeId → Option (List Sh)) : Nat → List Field → Option (List Sh)
  | _, [] => some []
  | off, f :: fs => if f.offset = off then match g f.type, fieldsSh P g (off + P.cellsOf f.type) fs with
    | some a, some b => if a.length = P.cellsOf f.type then some (a ++ b) else none
    | _, _ => none else none
def timesSh : Nat → List Sh → List Sh
  | 0, _ => []
  | n + 1, es => es ++ timesSh n es
theorem timesSh_length (n : Nat) (es : List Sh) : (timesSh n es).length = n * es.length := by
  induction n with
  | zero => simp [timesSh]
  | succ n ih => simp only [timesSh, List.length_append, ih, Nat.succ_mul]; omega

def shOf (P : Program) : Nat → TypeId → Option (List Sh)
  | 0, _ => none
  | d + 1, t => match P.underlying t with
    | some (.int k) => some [.int k]
    | some .bool => some [.bool]
    | some .string => some [.str]
    | some (.slice e) => match shOf P d e with
      | some es => if es.length = P.cellsOf e ∧ 0 < P.cellsOf e then some [.sl es] else none
      | none => none
    | some (.struct fs) => match fieldsSh P (shOf P d) 0 fs.toList with
      | some es => if es.length = P.cellsOf t then some es else none
      | none => none
    | some (.array n e) => match shOf P d e with
      | some es => if es.length = P.cellsOf e ∧ n * P.cellsOf e = P.cellsOf t then some (timesSh n es) else none
      | none => none
    | _ => none

/-- All cells of a world. -/
def Kw (w : World) : KMap := fun bl o => w.cell? ⟨bl, o, none⟩
theorem Kw_sr (w : World) (β κ : Nat → Nat) : SR (· < w.heap.size) (Kw w) β κ [] w := by
  refine ⟨fun bl o v h => ?_, fun _ _ h => by simp at h, fun _ _ _ _ h => by simp at h, fun _ _ h => by simp at h, fun _ h => h⟩
  unfold Kw World.cell? at h
  dsimp only at h
  split at h
  · rename_i c T fz hc
    exact ⟨c, T, fz, hc, by simpa using h⟩
  · cases h

theorem mapM_each {A B : Type} {f : A → Option B} : ∀ {l : List A} {r : List B}, l.mapM f = some r → ∀ x ∈ l, ∃ y, f x = some y
  | [], _, _, _, hx => by cases hx
  | a :: l, r, h, x, hx => by
    simp only [List.mapM_cons] at h
    cases ha : f a with
    | none => rw [ha] at h; cases h
    | some y =>
      rw [ha] at h
      cases hl : l.mapM f with
      | none => simp [hl] at h
      | some ys =>
        rcases List.mem_cons.1 hx with rfl | hx
        · exact ⟨y, ha⟩
        · exact mapM_each hl x hx
theorem mapM_range_get {B : Type} {f : Nat → Option B} {n : Nat} {r : List B} (h : (List.range n).mapM f = some r) : r.length = n ∧ ∀ i (hi : i < r.length), f i = some r[i] := by
  have key : ∀ (l : List Nat) (r : List B), l.mapM f = some r → r.length = l.length ∧ ∀ i (hi : i < l.length) (hr : i < r.length), f l[i] = some r[i] := by
    intro l
    induction l with
    | nil => intro r h; simp only [List.mapM_nil] at h; injection h with h; subst h; simp
    | cons a l ih =>
      intro r h
      simp only [List.mapM_cons] at h
      cases ha : f a with
      | none => rw [ha] at h; cases h
      | some y =>
        rw [ha] at h
        cases hl : l.mapM f with
        | none => simp [hl] at h
        | some ys =>
          simp [hl] at h
          subst h
          obtain ⟨h1, h2⟩ := ih ys hl
          refine ⟨by simp [h1], fun i hi hr => ?_⟩
          cases i with
          | zero => simpa using ha
          | succ i => simpa using h2 i (by simpa using hi) (by simpa using hr)
  obtain ⟨h1, h2⟩ := key _ _ h
  rw [List.length_range] at h1
  exact ⟨h1, fun i hi => by have := h2 i (by simpa using (by omega)) hi; simpa using this⟩

theorem cells_get {w : World} {base : Nat} {a : Addr} {n : Nat} {cs : List Value} (h : w.cells? base a n = some cs) : cs.length = n ∧ ∀ i u, cs[i]? = some u → w.cell? (a.add i) = some u := by
  unfold World.cells? at h
  split at h
  · obtain ⟨h1, h2⟩ := mapM_range_get h
    refine ⟨h1, fun i u hi => ?_⟩
    obtain ⟨hl, hu⟩ := List.getElem?_eq_some_iff.1 hi
    rw [← hu]; exact h2 i hl
  · cases h

section
variable {H : Type} {enc : TypeId × Value → H} {P : Program} {w : World}

theorem Vs.take {K : KMap} {xs : List DVal} {vs : List Value} (h : Vs K xs vs) (n : Nat) : Vs K (xs.take n) (vs.take n) := by
  induction n generalizing xs vs with
  | zero => exact .nil
  | succ n ih => cases h with
    | nil => exact .nil
    | cons hx hr => exact .cons hx (ih hr)

theorem trod_slice {t e : TypeId} (hu : P.underlying t = some (.slice e)) {fuel : Nat} {cs : List Value} {r : DataW H × List MemPlace} (h : DataW.trod enc P w 0 (fun _ => true) true (fuel + 1) t cs = some r) :
    cs = [.slice none 0 0] ∨ ∃ a len cap, cs = [.slice (some a) len cap] ∧ len ≤ cap ∧ cap ≤ maxLen ∧ ∃ elems, (List.range len).mapM (fun i => (w.cells? 0 (a.add (i * P.cellsOf e)) (P.cellsOf e)).bind (DataW.trod enc P w 0 (fun _ => true) true fuel e)) = some elems := by
  match cs with
  | [] => simp [DataW.trod, hu] at h
  | _ :: _ :: _ => simp [DataW.trod, hu] at h
  | [v] =>
    cases v with
    | slice a len cap =>
      cases a with
      | none =>
        cases len with
        | zero => cases cap with
          | zero => exact .inl rfl
          | succ n => simp [DataW.trod, hu] at h
        | succ n => simp [DataW.trod, hu] at h
      | some a =>
        refine .inr ⟨a, len, cap, rfl, ?_⟩
        simp only [DataW.trod, hu] at h
        split at h
        · rename_i hc
          cases hm : (List.range len).mapM (fun i => (w.cells? 0 (a.add (i * P.cellsOf e)) (P.cellsOf e)).bind (DataW.trod enc P w 0 (fun _ => true) true fuel e)) with
          | none => rw [hm] at h; cases h
          | some elems => exact ⟨hc.2.1, hc.2.2, elems, rfl⟩
        · cases h
    | _ => simp [DataW.trod, hu] at h

theorem trod_fields {enc : TypeId × Value → H} {fuel : Nat} {g : TypeId → Option (List Sh)}
    (ih : ∀ (t : TypeId) (shs : List Sh) (cs : List Value) (dd : DataW H) (ps : List MemPlace), g t = some shs → DataW.trod enc P w 0 (fun _ => true) true fuel t cs = some (dd, ps) → ∃ xs, Vs (Kw w) xs cs ∧ Oks shs xs ∧ (∀ u ∈ cs, leafV u = true)) :
    ∀ (fs : List Field) (off : Nat) (shs : List Sh) (cs : List Value), fieldsSh P g off fs = some shs → (∀ f ∈ fs, ∃ y, DataW.trod enc P w 0 (fun _ => true) true fuel f.type ((cs.drop f.offset).take (P.cellsOf f.type)) = some y) →
      ∃ xs, Vs (Kw w) xs ((cs.drop off).take shs.length) ∧ Oks shs xs ∧ (∀ u ∈ (cs.drop off).take shs.length, leafV u = true)
  | [], off, shs, cs, h, _ => by
    simp only [fieldsSh, Option.some.injEq] at h; subst h
    exact ⟨[], by simp; exact .nil, .nil, by simp⟩
  | f :: fs, off, shs, cs, h, hf => by
    simp only [fieldsSh] at h
    split at h
    · rename_i ho
      subst ho
      split at h
      · rename_i a b ha hb
        split at h
        · rename_i hl
          injection h with h; subst h
          obtain ⟨⟨dd, ps⟩, hy⟩ := hf f List.mem_cons_self
          obtain ⟨xs, h1, h2, h3⟩ := ih _ _ _ _ _ ha hy
          obtain ⟨ys, h4, h5, h6⟩ := trod_fields ih fs _ b cs hb (fun f' hf' => hf f' (List.mem_cons_of_mem _ hf'))
          have e : (cs.drop f.offset).take (a ++ b).length = (cs.drop f.offset).take (P.cellsOf f.type) ++ (cs.drop (f.offset + P.cellsOf f.type)).take b.length := by
            rw [List.length_append, hl, List.take_add, List.drop_drop]
          rw [e]
          exact ⟨xs ++ ys, h1.append h4, h2.append h5, fun u hu => (List.mem_append.1 hu).elim (h3 u) (h6 u)⟩
        · cases h
      · cases h
    · cases h

theorem trod_times {es : List Sh} {sz : Nat} (hsz : es.length = sz) : ∀ (n : Nat) (cs : List Value), cs.length = n * sz → (∀ i, i < n → ∃ xs, Vs (Kw w) xs ((cs.drop (i * sz)).take sz) ∧ Oks es xs ∧ (∀ u ∈ (cs.drop (i * sz)).take sz, leafV u = true)) →
    ∃ xs, Vs (Kw w) xs cs ∧ Oks (timesSh n es) xs ∧ (∀ u ∈ cs, leafV u = true)
  | 0, cs, hl, _ => by
    have : cs = [] := List.eq_nil_of_length_eq_zero (by simpa using hl)
    subst this
    exact ⟨[], .nil, .nil, by simp⟩
  | n + 1, cs, hl, h => by
    obtain ⟨xs, h1, h2, h3⟩ := h 0 (by omega)
    rw [Nat.zero_mul, List.drop_zero] at h1 h3
    obtain ⟨ys, h4, h5, h6⟩ := trod_times hsz n (cs.drop sz) (by rw [List.length_drop, hl, Nat.succ_mul]; omega) (fun i hi => by
      obtain ⟨zs, a, b, c⟩ := h (i + 1) (by omega)
      rw [List.drop_drop, show sz + i * sz = (i + 1) * sz by rw [Nat.succ_mul]; omega]
      exact ⟨zs, a, b, c⟩)
    rw [← List.take_append_drop sz cs]
    exact ⟨xs ++ ys, h1.append h4, h2.append h5, fun u hu => (List.mem_append.1 hu).elim (h3 u) (h6 u)⟩

theorem rows_of {g : Nat → Option Value} {K : KMap} {es : List Sh} {sz : Nat} : ∀ (n o : Nat), (∀ i, i < n → ∃ row, Oks es row ∧ row.length = sz ∧ Cells K g (o + i * sz) row) → ∃ rows : Rows, rows.length = n ∧ Rws K g sz o rows ∧ ∀ row ∈ rows, Oks es row
  | 0, o, _ => ⟨[], rfl, .nil _ _ _, by simp⟩
  | n + 1, o, h => by
    obtain ⟨row, h1, h2, h3⟩ := h 0 (by omega)
    obtain ⟨rows, h4, h5, h6⟩ := rows_of n (o + sz) (fun i hi => by
      obtain ⟨r, a, b, c⟩ := h (i + 1) (by omega)
      exact ⟨r, a, b, by rw [show o + sz + i * sz = o + (i + 1) * sz by rw [Nat.succ_mul]; omega]; exact c⟩)
    exact ⟨row :: rows, by simp [h4], .cons h2 (by simpa using h3) h5, fun r hr => (List.mem_cons.1 hr).elim (fun e => e ▸ h1) (h6 r)⟩

/-- What is read as data of a type is data of its shape. -/
theorem trod_sh : ∀ (d : Nat) (t : TypeId) (shs : List Sh) (fuel : Nat) (cs : List Value) (dd : DataW H) (ps : List MemPlace), shOf P d t = some shs → DataW.trod enc P w 0 (fun _ => true) true fuel t cs = some (dd, ps) →
    ∃ xs, Vs (Kw w) xs cs ∧ Oks shs xs ∧ (∀ u ∈ cs, leafV u = true)
  | 0, _, _, _, _, _, _, h, _ => by simp [shOf] at h
  | _ + 1, _, _, 0, _, _, _, _, h => by simp [DataW.trod] at h
  | d + 1, t, shs, fuel + 1, cs, dd, ps, hs, ht => by
    simp only [shOf] at hs
    split at hs
    · -- whole number
      rename_i k hu
      injection hs with hs; subst hs
      match cs with
      | [] => simp [DataW.trod, hu] at ht
      | _ :: _ :: _ => simp [DataW.trod, hu] at ht
      | [v] =>
        cases v with
        | int k' n =>
          simp only [DataW.trod, hu] at ht
          split at ht
          · rename_i hc
            obtain ⟨rfl, hwf⟩ := hc
            exact ⟨[.v (.int _ n)], .cons (.v _ rfl) .nil, .cons (.int hwf) .nil, by simp [leafV]⟩
          · cases ht
        | _ => simp [DataW.trod, hu] at ht
    · rename_i hu
      injection hs with hs; subst hs
      match cs with
      | [] => simp [DataW.trod, hu] at ht
      | _ :: _ :: _ => simp [DataW.trod, hu] at ht
      | [v] =>
        cases v with
        | bool b => exact ⟨[.v (.bool b)], .cons (.v _ rfl) .nil, .cons (.bool b) .nil, by simp [leafV]⟩
        | _ => simp [DataW.trod, hu] at ht
    · rename_i hu
      injection hs with hs; subst hs
      match cs with
      | [] => simp [DataW.trod, hu] at ht
      | _ :: _ :: _ => simp [DataW.trod, hu] at ht
      | [v] =>
        cases v with
        | string s =>
          simp only [DataW.trod, hu] at ht
          split at ht
          · rename_i hc
            exact ⟨[.v (.string s)], .cons (.v _ rfl) .nil, .cons (.str hc) .nil, by simp [leafV]⟩
          · cases ht
        | _ => simp [DataW.trod, hu] at ht
    · -- slice
      rename_i e hu
      split at hs
      · rename_i es hes
        split at hs
        · rename_i hel
          injection hs with hs; subst hs
          rcases trod_slice hu ht with rfl | ⟨a, len, cap, rfl, hle, hmax, elems, hm⟩
          · exact ⟨[.sl 3 es.length []], .cons (.nil 3 _ 0 (by decide)) .nil, .cons (.sl (Nat.zero_le _) (by simp)) .nil, by simp [leafV]⟩
          · have each : ∀ i, i < len → ∃ cs' y, w.cells? 0 (a.add (i * P.cellsOf e)) (P.cellsOf e) = some cs' ∧ DataW.trod enc P w 0 (fun _ => true) true fuel e cs' = some y := by
              intro i hi
              obtain ⟨y, hy⟩ := mapM_each hm i (List.mem_range.2 hi)
              cases hcs : w.cells? 0 (a.add (i * P.cellsOf e)) (P.cellsOf e) with
              | none => rw [hcs] at hy; cases hy
              | some cs' => rw [hcs] at hy; exact ⟨cs', y, rfl, hy⟩
            by_cases hz : len = 0
            · subst hz
              exact ⟨[.sl 3 es.length []], .cons (.emp 3 _ a cap (by decide)) .nil, .cons (.sl (Nat.zero_le _) (by simp)) .nil, by simp [leafV]⟩
            · -- the address leads to whole cells
              have hspot : a.spot = none := by
                obtain ⟨cs', y, h1, _⟩ := each 0 (by omega)
                obtain ⟨h2, h3⟩ := cells_get h1
                have hpos := hel.2
                have := h3 0 cs'[0] (List.getElem?_eq_getElem (by omega))
                rw [Nat.zero_mul] at this
                have ea : (a.add 0).add 0 = a := rfl
                rw [ea] at this
                unfold World.cell? at this
                split at this
                · split at this
                  · cases this
                  · rename_i h4; simpa using h4
                · cases this
              obtain ⟨bl, o, sp⟩ := a
              simp only at hspot
              subst hspot
              obtain ⟨rows, h1, h2, h3⟩ := rows_of (g := Kw w bl) (K := Kw w) (es := es) (sz := es.length) len o (fun i hi => by
                obtain ⟨cs', ⟨y, yp⟩, h1, h2⟩ := each i hi
                obtain ⟨xs, h3, h4, h5⟩ := trod_sh d e es fuel cs' y yp hes h2
                refine ⟨xs, h4, h4.length, .ofVs h3 h5 fun j u hj => ?_⟩
                have := (cells_get h1).2 j u hj
                rw [addr_add, addr_add, ← hel.1] at this
                exact this)
              refine ⟨[.sl 3 es.length rows], .cons ?_ .nil, .cons (.sl (by omega) h3) .nil, by simp [leafV]⟩
              have := V.sl (K := Kw w) 3 es.length rows bl o cap (by decide) (by omega) h2
              rw [h1] at this; exact this
        · cases hs
      · cases hs
    · -- struct
      rename_i fs hu
      split at hs
      · rename_i es hes
        split at hs
        · rename_i hel
          injection hs with hs; subst hs
          have ht' : cs.length = P.cellsOf t ∧ ∃ xs, fs.toList.mapM (fun f => DataW.trod enc P w 0 (fun _ => true) true fuel f.type ((cs.drop f.offset).take (P.cellsOf f.type))) = some xs := by
            simp only [DataW.trod, hu] at ht
            split at ht
            · rename_i hc
              cases hm : fs.toList.mapM (fun f => DataW.trod enc P w 0 (fun _ => true) true fuel f.type ((cs.drop f.offset).take (P.cellsOf f.type))) with
              | none => rw [hm] at ht; cases ht
              | some xs => exact ⟨hc, xs, rfl⟩
            · cases ht
          obtain ⟨hl, xs, hm⟩ := ht'
          obtain ⟨ys, h1, h2, h3⟩ := trod_fields (fun t shs cs dd ps a b => trod_sh d t shs fuel cs dd ps a b) fs.toList 0 es cs hes (fun f hf => mapM_each hm f hf)
          rw [List.drop_zero, List.take_of_length_le (by omega)] at h1 h3
          exact ⟨ys, h1, h2, h3⟩
        · cases hs
      · cases hs
    · -- array
      rename_i n e hu
      split at hs
      · rename_i es hes
        split at hs
        · rename_i hel
          injection hs with hs; subst hs
          have ht' : cs.length = P.cellsOf t ∧ ∃ xs, (List.range n).mapM (fun i => DataW.trod enc P w 0 (fun _ => true) true fuel e ((cs.drop (i * P.cellsOf e)).take (P.cellsOf e))) = some xs := by
            simp only [DataW.trod, hu] at ht
            split at ht
            · rename_i hc
              cases hm : (List.range n).mapM (fun i => DataW.trod enc P w 0 (fun _ => true) true fuel e ((cs.drop (i * P.cellsOf e)).take (P.cellsOf e))) with
              | none => rw [hm] at ht; cases ht
              | some xs => exact ⟨hc, xs, rfl⟩
            · cases ht
          obtain ⟨hl, xs, hm⟩ := ht'
          exact trod_times hel.1 n cs (by omega) (fun i hi => by
            obtain ⟨⟨y, yp⟩, hy⟩ := mapM_each hm i (List.mem_range.2 hi)
            exact trod_sh d e es fuel _ y yp hes hy)
        · cases hs
      · cases hs
    · cases hs
end

/-- An argument, as one value. -/
theorem arg_sh {H : Type} {enc : TypeId × Value → H} {P : Program} {w : World} {d : Nat} {t : TypeId} {shs : List Sh} {v : Value} {dd : DataW H} {ps : List MemPlace} (hs : shOf P d t = some shs) (h : DataW.Trod enc P w 0 (fun _ => true) true t v dd ps) :
    ∃ xs, Vs (Kw w) xs v.cells.toList ∧ Oks shs xs := by
  obtain ⟨fuel, h⟩ := h
  obtain ⟨xs, h1, h2, _⟩ := trod_sh d t shs fuel _ _ _ hs h
  exact ⟨xs, h1, h2⟩

section
open Go.WideShapes
variable {H : Type} {enc : TypeId × Value → H} {P : Program} {w : World} {d : Nat} {t : TypeId} {v : Value} {dd : DataW H} {ps : List MemPlace} {r : Reach} {base : Nat}
theorem one_of {s : Sh} {x : DVal} {xs : List DVal} (h1 : Vs (Kw w) xs [v]) (h2 : Oks [s] xs) : ∃ x, V (Kw w) x v ∧ Ok s x := by
  cases h2 with | cons hx hr => cases hr; cases h1 with | cons h1 _ => exact ⟨_, h1, hx⟩
theorem arg_slice {e : TypeId} {s : Sh} (hu : P.underlying t = some (.slice e)) (hval : Value.okWide P w r base t v) (hs : shOf P d t = some [s]) (h : DataW.Trod enc P w 0 (fun _ => true) true t v dd ps) : ∃ x, V (Kw w) x v ∧ Ok s x := by
  obtain ⟨a, len, cap, rfl⟩ := okWide_slice hu hval
  obtain ⟨xs, h1, h2⟩ := arg_sh hs h
  exact one_of (x := .v .nilFunc) h1 h2
theorem arg_int {k : IntKind} (hu : P.underlying t = some (.int k)) (hval : Value.okWide P w r base t v) (hs : shOf P d t = some [.int k]) (h : DataW.Trod enc P w 0 (fun _ => true) true t v dd ps) : ∃ x, V (Kw w) x v ∧ Ok (.int k) x := by
  obtain ⟨n, rfl⟩ := okWide_int hu hval
  obtain ⟨xs, h1, h2⟩ := arg_sh hs h
  exact one_of (x := .v .nilFunc) h1 h2
theorem arg_string (hu : P.underlying t = some .string) (hval : Value.okWide P w r base t v) (hs : shOf P d t = some [.str]) (h : DataW.Trod enc P w 0 (fun _ => true) true t v dd ps) : ∃ x, V (Kw w) x v ∧ Ok .str x := by
  obtain ⟨n, rfl⟩ := okWide_string hu hval
  obtain ⟨xs, h1, h2⟩ := arg_sh hs h
  exact one_of (x := .v .nilFunc) h1 h2
theorem arg_struct {fs : Array Field} {shs : List Sh} (hu : P.underlying t = some (.struct fs)) (hval : Value.okWide P w r base t v) (hs : shOf P d t = some shs) (h : DataW.Trod enc P w 0 (fun _ => true) true t v dd ps) : ∃ xs, V (Kw w) (.agg xs) v ∧ Oks shs xs := by
  simp only [Value.okWide, hu] at hval
  obtain ⟨cs, rfl, _, _⟩ := hval
  obtain ⟨xs, h1, h2⟩ := arg_sh hs h
  exact ⟨xs, .agg xs cs.toList h1, h2⟩
theorem arg_array {n : Nat} {e : TypeId} {shs : List Sh} (hu : P.underlying t = some (.array n e)) (hval : Value.okWide P w r base t v) (hs : shOf P d t = some shs) (h : DataW.Trod enc P w 0 (fun _ => true) true t v dd ps) : ∃ xs, V (Kw w) (.agg xs) v ∧ Oks shs xs := by
  simp only [Value.okWide, hu] at hval
  obtain ⟨cs, rfl, _, _⟩ := hval
  obtain ⟨xs, h1, h2⟩ := arg_sh hs h
  exact ⟨xs, .agg xs cs.toList h1, h2⟩
theorem lt_of {H : Type} {enc : TypeId × Value → H} {P : Program} {w : World} {t : TypeId} {v : Value} {dd : DataW H} {ps : List MemPlace} (h : DataW.Trod enc P w 0 (fun _ => true) true t v dd ps) : ∀ x ∈ ps, x.block < w.heap.size := by
  obtain ⟨m, hm⟩ := h
  exact DataW.trod_lt m _ _ _ hm
end

/-- What a row asks of the call, out of what the table says. -/
theorem calls_true {P : Program} {g : FuncId} {args : List AVal} {vs : List Value} {W : World} (h : Sim P g args [] (.d (.v (.bool true))) []) (ha : RAs (Kw W) id id [] args vs) :
    Calls P g ⟨vs⟩ W fun e w' => e = .returned (.bool true) ∧ Below W.heap.size W w' := by
  refine (h (· < W.heap.size) (Kw W) id id W vs (Kw_sr W id id) ha).mono ?_
  rintro e w' ⟨u, he, K', β', κ', s', e', n', k', r'⟩
  cases r' with
  | d hv => cases hv; exact ⟨he, k'.os, k'.tape, k'.output, k'.size, fun k hk => k'.same k hk⟩
end Go.Eng
