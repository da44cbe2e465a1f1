/- An abstract machine for the program's text, over any program: its steps are sound for the model. Conditions: none. -/
import Derived.Test.YtcghhklbldcaoaaDoorEng1
import Derived.Below
import Derived.Laws.Externs
import Derived.Lib.Join
import Derived.Lib.ItoaNum
namespace Go.Eng
open Go Go.RowKit

variable {P : Program} {K : KMap} {β κ : Nat → Nat} {w : World} {Fr : Nat → Prop}

def itoaE : List AVal → Option Res
  | [.d (.v (.int .i64 n))] => if 0 ≤ n ∧ n < 100 then some (.d (.v (.string ⟨(Lib.decDigits n.toNat).toArray⟩)), []) else none
  | _ => none
def joinB (xs : List ByteArray) (sep : ByteArray) : ByteArray := ⟨(Lib.join (xs.map (·.data.toList)) sep.data.toList).toArray⟩
def joinE : List AVal → Option Res
  | [.d (.sl 3 1 rows), .d (.v (.string sep))] => match strsOf rows with
    | some xs => if xs.length ≤ 140737488355328 ∧ (Lib.join (xs.map (·.data.toList)) sep.data.toList).length ≤ 140737488355328 then some (.d (.v (.string (joinB xs sep))), []) else none
    | none => none
  | _ => none

theorem good_body {g : FuncId} {fn : Func} (hf : P.funcs[g]? = some fn) (hb : fn.body.isSome = true) {a : List AVal} {H : Heap} {r : AVal} {H' : Heap} (h : Sim P g a H r H') : Good P g a H r H' := by
  intro fn' hf'
  rw [hf] at hf'; injection hf' with hf'; subst hf'
  exact ⟨fun _ => h, fun e => by rw [e] at hb; cases hb⟩
theorem good_ext {g : FuncId} {fn : Func} (hf : P.funcs[g]? = some fn) (hb : fn.body.isNone = true) {a : List AVal} {H : Heap} {r : AVal} {H' : Heap} (h : H = [] → H' = [] ∧ ExtSim P g a r) : Good P g a H r H' := by
  intro fn' hf'
  rw [hf] at hf'; injection hf' with hf'; subst hf'
  exact ⟨fun e => by cases hh : fn.body <;> simp_all, fun _ => h⟩

/-- Behind a call that wrote nothing that was there. -/
theorem postA_below (s : SR Fr K β κ [] w) {w' : World} (hb : Below w.heap.size w w') {x : DVal} {u : Value} (hx : V K x u) : PostA Fr K β [] w (.d x) [] u w' := by
  have hk : ∀ bl c T fz, w.heap[bl]? = some (Obj.cells c T fz) → w'.heap[bl]? = some (Obj.cells c T fz) := fun bl c T fz h => by
    rw [hb.block bl (Array.getElem?_eq_some_iff.1 h).1]; exact h
  refine ⟨K, β, κ, ⟨fun bl o v h => ?_, fun _ _ h => by simp at h, fun _ _ _ _ h => by simp at h, fun _ _ h => by simp at h, fun bl h => Nat.lt_of_lt_of_le (s.frsz bl h) hb.size⟩, ExtA.refl _ _ _ _, .refl _ _,
    ⟨hb.os, hb.tape, hb.output, hb.size, fun bl h => hb.block bl (s.frsz bl h), fun bl c T fz h => ⟨c, T, fz, hk bl c T fz h, rfl⟩⟩, .d hx⟩
  obtain ⟨c, T, fz, h1, h2⟩ := s.wk bl o v h
  exact ⟨c, T, fz, hk bl c T fz h1, h2⟩

theorem itoa_sim {g : FuncId} (hC : ∀ (i : Nat) (_ : i < 100) (w : World), Calls P g #[.int .i64 i] w fun e w' => e = .returned (.string ⟨(Lib.decDigits i).toArray⟩) ∧ w' = w)
    {a : List AVal} {r : AVal} {H' : Heap} (h : itoaE a = some (r, H')) : Sim P g a [] r H' := by
  unfold itoaE at h
  split at h
  · rename_i n
    split at h
    · rename_i hn
      simp only [Option.some.injEq, Prod.mk.injEq] at h
      obtain ⟨rfl, rfl⟩ := h
      intro Fr K β κ w vs s ha
      cases ha with
      | cons h1 h2 =>
        cases h2
        cases h1 with
        | d h1 =>
          cases h1
          obtain ⟨i, rfl⟩ := Int.eq_ofNat_of_zero_le hn.1
          refine (hC i (by omega) w).mono ?_
          rintro e w' ⟨rfl, rfl⟩
          exact ⟨_, rfl, postA_below s (.refl _ _) (.v _ rfl)⟩
    · cases h
  · cases h

theorem strsOf_cells {g : Nat → Option Value} {o : Nat} : ∀ {rows : Rows} {xs : List ByteArray}, strsOf rows = some xs → Rws K g 1 o rows → xs.length = rows.length ∧ ∀ (j : Nat) x, xs[j]? = some x → g (o + j) = some (.string x)
  | [], xs, h, _ => by simp only [strsOf, Option.some.injEq] at h; subst h; simp
  | row :: rows, xs, h, hr => by
    cases hr with
    | cons hl hc hr =>
      unfold strsOf at h
      split at h
      · rename_i e; cases e
      · rename_i s r e
        injection e with e1 e2; subst e1 e2
        cases hs : strsOf rows with
        | none => rw [hs] at h; cases h
        | some ys =>
          rw [hs] at h
          simp only [Option.map_some, Option.some.injEq] at h
          subst h
          obtain ⟨h1, h2⟩ := strsOf_cells hs hr
          refine ⟨by simp [h1], fun j x hj => ?_⟩
          cases j with
          | zero =>
            simp at hj; subst hj
            cases hc with
            | cons hg _ hv _ => cases hv; exact hg
          | succ j =>
            have := h2 j x (by simpa using hj)
            rw [← this]; congr 1; omega
      · cases h

theorem join_sim {g : FuncId} (hN : ∀ (a : Option Addr) (c : Nat) (sep : ByteArray) (w : World), Calls P g #[.slice a 0 c, .string sep] w fun e w' => e = .returned (.string ⟨#[]⟩) ∧ w' = w)
    (hC : ∀ (bk o c : Nat) (xs : List ByteArray) (sep : ByteArray) (w : World) (_ : ∀ (j : Nat) x, xs[j]? = some x → w.cell? ⟨bk, o + j, none⟩ = some (.string x)) (_ : bk < w.heap.size) (_ : xs.length ≤ 140737488355328) (_ : xs.length ≤ c) (_ : (Lib.join (xs.map (·.data.toList)) sep.data.toList).length ≤ 140737488355328),
      Calls P g #[.slice (some ⟨bk, o, none⟩) xs.length c, .string sep] w fun e w' => e = .returned (.string ⟨(Lib.join (xs.map (·.data.toList)) sep.data.toList).toArray⟩) ∧ Below w.heap.size w w')
    {a : List AVal} {r : AVal} {H' : Heap} (h : joinE a = some (r, H')) : Sim P g a [] r H' := by
  unfold joinE at h
  split at h
  · rename_i rows sep
    split at h
    · rename_i xs hxs
      split at h
      · rename_i hn
        simp only [Option.some.injEq, Prod.mk.injEq] at h
        obtain ⟨rfl, rfl⟩ := h
        intro Fr K β κ w vs s ha
        cases ha with
        | cons h1 h2 =>
          cases h2 with
          | cons h2 h3 =>
            cases h3
            cases h2 with
            | d h2 =>
              cases h2
              have empty : rows = [] → ∀ (ad : Option Addr) (c : Nat), Calls P g ⟨[.slice ad 0 c, .string sep]⟩ w fun e w' => ∃ u, e = .returned u ∧ PostA Fr K β [] w (.d (.v (.string (joinB xs sep)))) [] u w' := by
                intro hr ad c
                subst hr
                simp only [strsOf, Option.some.injEq] at hxs
                subst hxs
                refine (hN ad c sep w).mono ?_
                rintro e w' ⟨rfl, rfl⟩
                exact ⟨_, rfl, postA_below s (.refl _ _) (.v _ rfl)⟩
              cases h1 with
              | d h1 =>
                cases h1 with
                | nil => exact empty rfl _ _
                | emp => exact empty rfl _ _
                | sl _ _ _ bl o cap _ hcap hr =>
                  by_cases hz : rows = []
                  · subst hz; exact empty rfl _ _
                  · obtain ⟨e1, e2⟩ := strsOf_cells hxs hr
                    have hlt : bl < w.heap.size := by
                      cases hr with
                      | nil => exact absurd rfl hz
                      | cons hl hc _ => cases hc with
                        | nil => simp at hl
                        | cons hg _ _ _ => exact s.lt hg
                    have := hC bl o cap xs sep w (fun j x hj => s.cell (e2 j x hj)) hlt hn.1 (by omega) hn.2
                    rw [e1] at this
                    refine this.mono ?_
                    rintro e w' ⟨rfl, hb⟩
                    exact ⟨_, rfl, postA_below s hb (.v _ rfl)⟩
      · cases h
    · cases h
  · cases h

/-- slices.Clone: by its two runs. -/
theorem clone_sim {X : Orc} (hmix : P.follows .mixedOrders = true) (hX : OrcOk P X) {g : FuncId} {sz : Nat} {cf : Cf} (hcf : CfFor cf [])
    (h0 : ∀ rows : Rows, rows.length ≤ 549755813888 → ∃ k, runF P X cf k g [.d (.sl 0 sz rows)] [] = some (.hs 0 0 sz 0 rows.length, [.arr sz rows]))
    (h2 : ∃ k, runF P X cf k g [.d (.sl 2 sz [])] [] = some (.d (.v (.slice none 0 0)), []))
    {a : List AVal} {r : AVal} {H' : Heap} (h : cloneE sz a = some (r, H')) : Sim P g a [] r H' := by
  unfold cloneE at h
  split at h
  · rename_i sz' rows
    split at h
    · rename_i hn
      obtain ⟨rfl, hn⟩ := hn
      simp only [Option.some.injEq, Prod.mk.injEq] at h
      obtain ⟨rfl, rfl⟩ := h
      intro Fr K β κ w vs s ha
      cases ha with
      | cons h1 hr =>
        cases hr
        cases h1 with
        | d h1 =>
          have full : ∀ v, V K (.sl 0 sz' rows) v → Calls P g ⟨[v]⟩ w fun e w' => ∃ u, e = .returned u ∧ PostA Fr K β [] w (.hs 0 0 sz' 0 rows.length) [.arr sz' rows] u w' := by
            intro v hv
            obtain ⟨k, hk⟩ := h0 rows hn
            exact sim_of_run hmix hX hcf hk Fr K β κ w _ s (.cons (.d hv) .nil)
          cases h1 with
          | emp fl sz ad cap hf => exact full _ (.emp _ _ _ _ (by decide))
          | sl fl sz rows bl o cap hf hc hr => exact full _ (.sl _ _ _ _ _ _ (by decide) hc hr)
          | nil fl sz cap hf =>
            obtain ⟨k, hk⟩ := h2
            refine (sim_of_run hmix hX hcf hk Fr K β κ w _ s (.cons (.d (.nil 2 _ cap (by decide))) .nil)).mono ?_
            rintro e w' ⟨u, he, K', β', κ', s', e', n', k', r'⟩
            refine ⟨u, he, K', β', κ', ⟨s'.wk, fun id x hx => ?_, fun i j x y hi hj hx hy => ?_, fun id x hx ho => ?_, s'.frsz⟩, ⟨e'.kle, fun id x hlt => absurd hlt (Nat.not_lt_zero _)⟩, n', k', ?_⟩
            · cases id with
              | zero => simp at hx; subst hx; exact .inl rfl
              | succ id => simp at hx
            · cases i with
              | zero => simp at hi; subst hi; exact absurd rfl hx
              | succ i => simp at hi
            · cases id with
              | zero => simp at hx; subst hx; exact absurd rfl ho
              | succ id => simp at hx
            · cases r' with
              | d r' =>
                cases r'
                exact .hs (bl := 0) (o := 0) (cv := 0) (n := 0) rfl (Nat.le_refl _) ⟨_, _, rfl, Nat.le_refl _, fun h => absurd rfl h⟩ fun _ => ⟨Nat.le_refl _, fun h => absurd rfl h⟩
    · cases h
  · cases h

def sub64Entry : Array Value → Sem Value := fun args => do
  let (x, y, b) ← Extern.MathBitsCarry.three "Sub64" args
  pure (Extern.MathBitsCarry.pair ((x + Extern.MathBitsCarry.m64 - y - b) % Extern.MathBitsCarry.m64) (if x < y + b then 1 else 0))
theorem run_sub64 (x y c : Int) (hx : 0 ≤ x ∧ x < 18446744073709551616) (hy : 0 ≤ y ∧ y < 18446744073709551616) (hc0 : 0 ≤ c) (hc : c ≤ 1) (w : World) :
    (sub64Entry #[.int .u64 x, .int .u64 y, .int .u64 c]).run P w =
      .ok (.tuple #[.int .u64 ((x - y - c) % 18446744073709551616), .int .u64 (if x < y + c then 1 else 0)]) w := by
  have key : ∀ k : Nat, k ≤ 1 → (sub64Entry #[.int .u64 x, .int .u64 y, .int .u64 (k : Int)]).run P w =
      .ok (Extern.MathBitsCarry.pair ((x.toNat + Extern.MathBitsCarry.m64 - y.toNat - k) % Extern.MathBitsCarry.m64) (if x.toNat < y.toNat + k then 1 else 0)) w := by
    intro k hk
    have : k = 0 ∨ k = 1 := by omega
    rcases this with rfl | rfl <;> rfl
  obtain ⟨k, rfl⟩ := Int.eq_ofNat_of_zero_le hc0
  rw [key k (by omega)]
  obtain ⟨X, rfl⟩ := Int.eq_ofNat_of_zero_le hx.1
  obtain ⟨Y, rfl⟩ := Int.eq_ofNat_of_zero_le hy.1
  have e1 : (((X + 18446744073709551616 - Y - k) % 18446744073709551616 : Nat) : Int) = ((X : Int) - Y - k) % 18446744073709551616 := by omega
  have e2 : ((if X < Y + k then 1 else 0 : Nat) : Int) = if (X : Int) < (Y : Int) + (k : Int) then 1 else 0 := by split <;> split <;> omega
  simp only [Extern.MathBitsCarry.pair, Extern.MathBitsCarry.m64, Int.toNat_natCast]
  show Result.ok (Value.tuple #[.int .u64 ((((X + 18446744073709551616 - Y - k) % 18446744073709551616 : Nat) : Int)), .int .u64 (((if X < Y + k then 1 else 0 : Nat) : Int))]) w = _
  rw [e1, e2]

theorem add64_ext {g : FuncId} {fn : Func} (hf : P.funcs[g]? = some fn) (h1 : (fn.name == "runtime.NumGoroutine") = false) (h2 : fn.body.isNone = true) (h3 : Extern.findNext fn = none) (h4 : Extern.find fn = some add64Entry)
    {a : List AVal} {r : AVal} {H' : Heap} (h : add64E a = some (r, H')) : H' = [] ∧ ExtSim P g a r := by
  unfold add64E at h
  split at h
  · split at h
    · rename_i x y c hc
      simp only [Option.some.injEq, Prod.mk.injEq] at h
      obtain ⟨rfl, rfl⟩ := h
      refine ⟨rfl, fun K w vs ha => ?_⟩
      cases ha with
      | cons a1 ha => cases ha with
        | cons a2 ha => cases ha with
          | cons a3 ha =>
            cases ha
            cases a1 with | d a1 => cases a1; cases a2 with | d a2 => cases a2; cases a3 with | d a3 =>
              cases a3
              refine ⟨_, (run_callFunc_extern hf h1 h2 h3 h4 _ w).trans (by rw [run_add64 x y c hc.1 hc.2.1 hc.2.2.1 hc.2.2.2]; rfl), ?_⟩
              exact .d (.tup _ _ (.cons (.v _ rfl) (.cons (.v _ rfl) .nil)))
    · cases h
  · cases h
theorem sub64_ext {g : FuncId} {fn : Func} (hf : P.funcs[g]? = some fn) (h1 : (fn.name == "runtime.NumGoroutine") = false) (h2 : fn.body.isNone = true) (h3 : Extern.findNext fn = none) (h4 : Extern.find fn = some sub64Entry)
    {a : List AVal} {r : AVal} {H' : Heap} (h : sub64E a = some (r, H')) : H' = [] ∧ ExtSim P g a r := by
  unfold sub64E at h
  split at h
  · split at h
    · rename_i x y c hc
      simp only [Option.some.injEq, Prod.mk.injEq] at h
      obtain ⟨rfl, rfl⟩ := h
      refine ⟨rfl, fun K w vs ha => ?_⟩
      cases ha with
      | cons a1 ha => cases ha with
        | cons a2 ha => cases ha with
          | cons a3 ha =>
            cases ha
            cases a1 with | d a1 => cases a1; cases a2 with | d a2 => cases a2; cases a3 with | d a3 =>
              cases a3
              refine ⟨_, (run_callFunc_extern hf h1 h2 h3 h4 _ w).trans (by rw [run_sub64 x y c ⟨hc.1, hc.2.1⟩ ⟨hc.2.2.1, hc.2.2.2.1⟩ hc.2.2.2.2.1 hc.2.2.2.2.2]; rfl), ?_⟩
              exact .d (.tup _ _ (.cons (.v _ rfl) (.cons (.v _ rfl) .nil)))
    · cases h
  · cases h
end Go.Eng
