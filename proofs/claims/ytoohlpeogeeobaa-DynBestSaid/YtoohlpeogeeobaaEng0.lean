/- An abstract machine for the program's text, over any program: its steps are sound for the model. Conditions: none. -/
import Derived.Calls
import Derived.Orders
import Derived.Laws.Sem
import Derived.Laws.World
import Derived.Laws.Cells
namespace Go.Eng
open Go

/-- A frame that runs: its function, its slots, what it is to do. -/
structure RF where
  fn : FuncId
  a : Act
  todo : List Item

def RF.frame (r : RF) : Frame := { fn := r.fn, tmps := r.a.tmps, todo := r.todo, defers := r.a.defers, mode := .run, kind := .normal }

def base (fn : FuncId) : Frame := { (default : Frame) with fn := fn, kind := .normal }

theorem RF.frame_at (fn : FuncId) (a : Act) (todo : List Item) : (RF.mk fn a todo).frame = (base fn).at a todo := rfl

/-- The run from frame 'F' over the frames 'rs' over any others comes to an end of the call whose frame is the lowest of them (its function: 'f0'). -/
def Fin (P : Program) (f0 : FuncId) (R : Ending → World → Prop) (F : Frame) (rs : List RF) (w : World) : Prop :=
  ∀ cs, ∃ e w' fr, R e w' ∧ Comes P (lone F (rs.map RF.frame ++ cs) w) (lone fr cs w') e ∧ fr.fn = f0 ∧ fr.leaving P w' e

variable {P : Program} {f0 : FuncId} {R : Ending → World → Prop}

theorem Fin.step {F F' : Frame} {rs rs' : List RF} {w w' : World}
    (h : ∀ cs, step P (lone F (rs.map RF.frame ++ cs) w) = .next (lone F' (rs'.map RF.frame ++ cs) w'))
    (h' : Fin P f0 R F' rs' w') : Fin P f0 R F rs w := fun cs =>
  let ⟨e, w2, fr, hR, hc, hf, hl⟩ := h' cs
  ⟨e, w2, fr, hR, .of_steps (.one (h cs)) hc, hf, hl⟩

theorem Fin.calls {f : FuncId} {args : Array Value} {w : World} (h : Fin P f R (Frame.enter P f args .normal) [] w) : Calls P f args w R := fun cs =>
  let ⟨e, w2, fr, hR, hc, hf, hl⟩ := h cs
  ⟨e, w2, fr, hR, by simpa using hc, hf, hl⟩

section code
variable {fn : FuncId} {a : Act} {k : List Item} {rs : List RF} {w : World}

theorem Fin.skip (h : Fin P f0 R ((base fn).at a k) rs w) : Fin P f0 R ((base fn).at a (.code .skip :: k)) rs w := .step (fun _ => step_skip) h
theorem Fin.label {l : Nat} (h : Fin P f0 R ((base fn).at a k) rs w) : Fin P f0 R ((base fn).at a (.code (.label l) :: k)) rs w := .step (fun _ => step_label) h
theorem Fin.inBlock {id : Nat} (h : Fin P f0 R ((base fn).at a k) rs w) : Fin P f0 R ((base fn).at a (.inBlock id :: k)) rs w := .step (fun _ => step_inBlock) h
theorem Fin.seq {x y : Code} (h : Fin P f0 R ((base fn).at a (.code x :: .code y :: k)) rs w) : Fin P f0 R ((base fn).at a (.code (.seq x y) :: k)) rs w := .step (fun _ => step_seq) h
theorem Fin.cond {c : Operand} {x y : Code} {t : Bool} (hc : a.eval c = .bool t) (h : Fin P f0 R ((base fn).at a (.code (if t then x else y) :: k)) rs w) :
    Fin P f0 R ((base fn).at a (.code (.cond c x y) :: k)) rs w := .step (fun _ => step_cond hc) h
theorem Fin.block {id : Nat} {c : Code} (h : Fin P f0 R ((base fn).at a (.code c :: .inBlock id :: k)) rs w) : Fin P f0 R ((base fn).at a (.code (.block id c) :: k)) rs w := .step (fun _ => step_block) h
theorem Fin.loop {c : Code} (h : Fin P f0 R ((base fn).at a (.code c :: .inLoop c :: k)) rs w) : Fin P f0 R ((base fn).at a (.code (.loop c) :: k)) rs w := .step (fun _ => step_loop) h
theorem Fin.inLoop {c : Code} (h : Fin P f0 R ((base fn).at a (.code c :: .inLoop c :: k)) rs w) : Fin P f0 R ((base fn).at a (.inLoop c :: k)) rs w := .step (fun _ => step_inLoop) h
theorem Fin.exit {id : Nat} {k' : List Item} (he : exitTo id k = some k') (h : Fin P f0 R ((base fn).at a k') rs w) : Fin P f0 R ((base fn).at a (.code (.exit id) :: k)) rs w := .step (fun _ => step_exit he) h
theorem Fin.goto {id : Nat} {k' : List Item} (he : gotoIn id k = some k') (h : Fin P f0 R ((base fn).at a k') rs w) : Fin P f0 R ((base fn).at a (.code (.goto id) :: k)) rs w := .step (fun _ => step_goto he) h
theorem step_inScope' {cs : List Frame} {c : Code} :
    step P (lone ((base fn).at a (.inScope c :: k)) cs w) = .next (lone ((base fn).at a k) cs w) :=
  step_lone_go (by simp [stepG, stepG.exec, Frame.at])
theorem step_scope' {cs : List Frame} {c : Code} :
    step P (lone ((base fn).at a (.code (.scope c) :: k)) cs w) = .next (lone ((base fn).at a (.code c :: .inScope c :: k)) cs w) :=
  step_lone_go (by simp [stepG, stepG.exec, Frame.at])
theorem Fin.inScope {c : Code} (h : Fin P f0 R ((base fn).at a k) rs w) : Fin P f0 R ((base fn).at a (.inScope c :: k)) rs w := .step (fun _ => step_inScope') h
theorem Fin.scope {c : Code} (h : Fin P f0 R ((base fn).at a (.code c :: .inScope c :: k)) rs w) : Fin P f0 R ((base fn).at a (.code (.scope c) :: k)) rs w := .step (fun _ => step_scope') h
theorem Fin.region {id : Nat} {ops : Array Oper} (h : Fin P f0 R ((base fn).at a (.inRegion ops (List.range ops.size) :: k)) rs w) :
    Fin P f0 R ((base fn).at a (.code (.region id ops false) :: k)) rs w := .step (fun _ => step_region) h
theorem Fin.regionEnd {ops : Array Oper} (h : Fin P f0 R ((base fn).at a k) rs w) : Fin P f0 R ((base fn).at a (.inRegion ops [] :: k)) rs w := .step (fun _ => step_region_end) h

/-- Where a piece of code has a 'wp', the run goes on behind it. -/
theorem Fin.wp {c : Code} {Q : Exit → Act → World → Prop} (h : c.wp P Q a w)
    (hn : ∀ a' w', Q .normal a' w' → Fin P f0 R ((base fn).at a' k) rs w') (ho : ∀ e a' w', e ≠ .normal → ¬ Q e a' w') :
    Fin P f0 R ((base fn).at a (.code c :: k)) rs w := by
  intro cs
  obtain ⟨e, a', w', q, arr⟩ := h (base fn) k (rs.map RF.frame ++ cs)
  cases e with
  | normal =>
    obtain ⟨e2, w2, fr, hR, hc, hf, hl⟩ := hn a' w' q cs
    exact ⟨e2, w2, fr, hR, .of_steps arr hc, hf, hl⟩
  | _ => exact absurd q (ho _ a' w' (by simp))

end code

section ops
variable {fn : FuncId} {a : Act} {k : List Item} {rs : List RF} {w : World} {ops : Array Oper} {i : Nat} {rest : List Nat} {o : Oper}

theorem Fin.opNone (ho : ops[i]? = none) (h : Fin P f0 R ((base fn).at a (.inRegion ops rest :: k)) rs w) :
    Fin P f0 R ((base fn).at a (.inRegion ops (i :: rest) :: k)) rs w := by
  refine .step (fun cs => ?_) h
  have hs := step_op_skip (P := P) (b := base fn) (a := a) (k := k) (cs := rs.map RF.frame ++ cs) (w := w) (ops := ops) (i := i) (rest := rest) (by simp [ho])
  simpa only [ho, Option.bind_none, Act.put] using hs

theorem Fin.opSkip (ho : ops[i]? = some o) (hw : Region.wanted o (yielded ops a.tmps) = false)
    (h : Fin P f0 R ((base fn).at (a.put o.dst undef) (.inRegion ops rest :: k)) rs w) :
    Fin P f0 R ((base fn).at a (.inRegion ops (i :: rest) :: k)) rs w := by
  refine .step (fun cs => ?_) h
  have hs := step_op_skip (P := P) (b := base fn) (a := a) (k := k) (cs := rs.map RF.frame ++ cs) (w := w) (ops := ops) (i := i) (rest := rest) (by simp [ho]; simpa using hw)
  simpa [ho] using hs

theorem finish_op (ho : ops[i]? = some o) (v : Value) : ((base fn).at a (.inRegion ops (i :: rest) :: k)).finish v = (base fn).at (a.put o.dst v) (.inRegion ops rest :: k) := by
  rw [Frame.finish_at, ho]; rfl

theorem Fin.opValue (ho : ops[i]? = some o) (hw : Region.wanted o (yielded ops a.tmps) = true) {v : Value} {w' : World}
    (hr : (execOp a.eval o).run P w = .ok (.value v) w')
    (h : Fin P f0 R ((base fn).at (a.put o.dst v) (.inRegion ops rest :: k)) rs w') :
    Fin P f0 R ((base fn).at a (.inRegion ops (i :: rest) :: k)) rs w := by
  refine .step (fun cs => step_lone_go ?_) h
  rw [stepG_op ho hw, ← finish_op ho]; simp [stepG.apply, hr]

theorem Fin.opUnit (ho : ops[i]? = some o) (hw : Region.wanted o (yielded ops a.tmps) = true) {w' : World}
    (hr : (execOp a.eval o).run P w = .ok .skip w')
    (h : Fin P f0 R ((base fn).at (a.put o.dst undef) (.inRegion ops rest :: k)) rs w') :
    Fin P f0 R ((base fn).at a (.inRegion ops (i :: rest) :: k)) rs w := by
  refine .step (fun cs => step_lone_go ?_) h
  rw [stepG_op ho hw, ← finish_op ho]; simp [stepG.apply, hr]

theorem step_enter (ho : ops[i]? = some o) (hw : Region.wanted o (yielded ops a.tmps) = true) {f : FuncId} {args : Array Value} {w' : World}
    (hr : (execOp a.eval o).run P w = .ok (.enter f args) w') (cs : List Frame) :
    step P (lone ((base fn).at a (.inRegion ops (i :: rest) :: k)) cs w) =
      .next (lone (Frame.enter P f args .normal) ((base fn).at a (.inRegion ops (i :: rest) :: k) :: cs) w') :=
  step_lone_go (by rw [stepG_op ho hw]; simp [stepG.apply, hr, Frame.at])

/-- A call by its contract. -/
theorem Fin.opCall (ho : ops[i]? = some o) (hw : Region.wanted o (yielded ops a.tmps) = true) {f : FuncId} {args : Array Value} {w' : World}
    (hr : (execOp a.eval o).run P w = .ok (.enter f args) w') {R' : Ending → World → Prop} (hc : Calls P f args w' R')
    (h : ∀ e w2, R' e w2 → ∃ v, e = .returned v ∧ Fin P f0 R ((base fn).at (a.put o.dst v) (.inRegion ops rest :: k)) rs w2) :
    Fin P f0 R ((base fn).at a (.inRegion ops (i :: rest) :: k)) rs w := by
  intro cs
  obtain ⟨e, w2, fr, hR, hcomes, _, hleave⟩ := hc ((base fn).at a (.inRegion ops (i :: rest) :: k) :: (rs.map RF.frame ++ cs))
  obtain ⟨v, rfl, hF⟩ := h e w2 hR
  obtain ⟨e3, w3, fr3, hR3, hc3, hf3, hl3⟩ := hF cs
  refine ⟨e3, w3, fr3, hR3, .of_steps (.head (step_enter ho hw hr _) (hcomes.trans (.one ?_))) hc3, hf3, hl3⟩
  rw [← finish_op ho]; exact step_leave_returned hleave

/-- A call that is gone through here. -/
theorem Fin.opEnter (ho : ops[i]? = some o) (hw : Region.wanted o (yielded ops a.tmps) = true) {f : FuncId} {args : Array Value} {w' : World}
    (hr : (execOp a.eval o).run P w = .ok (.enter f args) w')
    (h : Fin P f0 R (Frame.enter P f args .normal) (⟨fn, a, .inRegion ops (i :: rest) :: k⟩ :: rs) w') :
    Fin P f0 R ((base fn).at a (.inRegion ops (i :: rest) :: k)) rs w :=
  .step (fun cs => by simpa [RF.frame_at] using step_enter ho hw hr (rs.map RF.frame ++ cs)) h
end ops

section ret
variable {fn : FuncId} {a : Act} {k : List Item} {rs : List RF} {w : World}

theorem Fin.retMode {F : Frame} {todo : List Item} (ht : todo = [] ∨ ∃ k, todo = .code .ret :: k) (hF : F = { (base fn).at a todo with mode := .returning }) (h : Fin P f0 R F rs w) :
    Fin P f0 R ((base fn).at a todo) rs w := by
  subst hF
  rcases ht with rfl | ⟨k, rfl⟩
  · exact .step (fun _ => step_end) h
  · exact .step (fun _ => step_ret) h

/-- The lowest frame returns. -/
theorem Fin.ret {func : Func} {v : Value} {todo : List Item} (ht : todo = [] ∨ ∃ k, todo = .code .ret :: k) (hf : P.funcs[fn]? = some func)
    (hd : a.defers = []) (hr : (results func a.tmps).run P w = .ok v w) (hR : R (.returned v) w) : Fin P fn R ((base fn).at a todo) [] w := by
  refine .retMode ht rfl fun cs => ⟨.returned v, w, { (base fn).at a todo with mode := .returning }, hR, ?_, rfl, rfl, hd, rfl, func, hf, hr⟩
  exact Steps.refl _ _

/-- A frame that was entered here returns to its caller. -/
theorem Fin.pop {func : Func} {v : Value} {todo : List Item} (ht : todo = [] ∨ ∃ k, todo = .code .ret :: k) (hf : P.funcs[fn]? = some func)
    (hd : a.defers = []) (hr : (results func a.tmps).run P w = .ok v w) {c : RF} {i : Nat} {ops : Array Oper} {rest : List Nat} {k : List Item} {o : Oper}
    (hc : c.todo = .inRegion ops (i :: rest) :: k) (ho : ops[i]? = some o)
    (h : Fin P f0 R ((base c.fn).at (c.a.put o.dst v) (.inRegion ops rest :: k)) rs w) : Fin P f0 R ((base fn).at a todo) (c :: rs) w := by
  refine .retMode ht rfl (.step (F' := (base c.fn).at (c.a.put o.dst v) (.inRegion ops rest :: k)) (rs' := rs) (fun cs => ?_) h)
  have hfr : c.frame = (base c.fn).at c.a (.inRegion ops (i :: rest) :: k) := by rw [← hc]; exact (RF.frame_at c.fn c.a c.todo)
  rw [← finish_op (a := c.a) ho]
  simp only [List.map_cons, List.cons_append, hfr]
  exact step_leave_returned ⟨rfl, hd, rfl, func, hf, hr⟩
end ret
end Go.Eng

namespace Go.Eng
open Go

/-- Values that are known whole: none of what they lead to is ever written again. 'sl fl sz rows': a slice: 'fl' 0: not nil; 2: nil; 3: nobody asks which, if it is empty; each row holds one element's 'sz' cells. 'rp': a pointer to such cells. -/
inductive DVal where
  | v (x : Value)
  | sl (fl sz : Nat) (rows : List (List DVal))
  | rp (row : List DVal) (off : Nat)
  | agg (cs : List DVal)
  | tup (xs : List DVal)
  | fn (f : Fn) (caps : List DVal)
  | ifc (t : TypeId) (x : DVal)
  deriving Inhabited

abbrev Rows := List (List DVal)

/-- Values that may point into the abstract heap: 'ptr id off': a cell of a variable; 'ep id ver i off': a cell of row i of an array; 'hs id ver off len': a slice of an array's rows; 'vh id ver len': the slice of all rows of a growing array. 'junk': nobody asks. -/
inductive AVal where
  | junk
  | d (x : DVal)
  | ptr (id off : Nat)
  | ep (id ver i off : Nat)
  | hs (id ver sz off len : Nat)
  | vh (id ver sz len : Nat)
  | agg (cs : List AVal)
  | tup (xs : List AVal)
  | fn (f : Fn) (caps : List AVal)
  deriving Inhabited

/-- A block: a variable's cells; an array of data of fixed length; a growing one (no row: the slice is nil); one that is no longer written. -/
inductive ABlk where
  | gone
  | cel (cs : List AVal)
  | arr (sz : Nat) (rows : Rows)
  | vec (sz ver : Nat) (rows : Rows)
  | frz (sz ver : Nat) (rows : Rows)
  deriving Inhabited

abbrev Heap := List ABlk
abbrev Tm := List (Nat × AVal)

/-- What can be read of a block. -/
inductive BView where
  | none
  | cel (cs : List AVal)
  | rows (sz ver : Nat) (rows : Rows)

def ABlk.view : ABlk → BView
  | .gone => .none
  | .cel cs => .cel cs
  | .arr sz rows => .rows sz 0 rows
  | .vec sz ver rows => .rows sz ver rows
  | .frz sz ver rows => .rows sz ver rows

def ABlk.freeze : ABlk → ABlk
  | .arr sz rows => .frz sz 0 rows
  | .vec sz ver rows => .frz sz ver rows
  | b => b

section comb
variable {A : Type}
/- What stops the evaluation: each of these stands in the printed text as it is. -/
def onInt (k : IntKind) (x : DVal) (f : Int → Option A) : Option A :=
  match x with
  | .v (.int k' n) => if k' = k then f n else none
  | _ => none
def onBool (x : DVal) (f : Bool → Option A) : Option A :=
  match x with
  | .v (.bool b) => f b
  | _ => none
def onStr (x : DVal) (f : ByteArray → Option A) : Option A :=
  match x with
  | .v (.string s) => f s
  | _ => none
def onSl (sz : Nat) (x : DVal) (f : Rows → Option A) : Option A :=
  match x with
  | .sl _ sz' rows => if sz' = sz then f rows else none
  | .v (.slice none 0 0) => f []
  | _ => none
def onAgg (n : Nat) (x : DVal) (f : List DVal → Option A) : Option A :=
  match x with
  | .agg cs => if cs.length = n then f cs else none
  | _ => none
def onTup (n : Nat) (x : DVal) (f : List DVal → Option A) : Option A :=
  match x with
  | .tup cs => if cs.length = n then f cs else none
  | _ => none
/-- An interface's value: nil or not. -/
def onIfc (x : DVal) (fnil : Option A) (f : TypeId → DVal → Option A) : Option A :=
  match x with
  | .v .nilIface => fnil
  | .ifc t y => f t y
  | _ => none
/-- Row i. -/
def onRow (rows : Rows) (i : Nat) (f : List DVal → Option A) : Option A :=
  match rows[i]? with
  | some r => f r
  | none => none
/-- An index in bounds. -/
def onIx (i : Int) (n : Nat) (f : Nat → Option A) : Option A :=
  if 0 ≤ i then if i.toNat < n then f i.toNat else none else none
def onCell (row : List DVal) (i : Nat) (f : DVal → Option A) : Option A :=
  match row[i]? with
  | some x => f x
  | none => none
def onByte (s : ByteArray) (i : Int) (f : UInt8 → Option A) : Option A :=
  if 0 ≤ i then match s[i.toNat]? with
    | some b => f b
    | none => none
  else none
/-- There is room for so many. -/
def onRoom (n : Nat) (f : Option A) : Option A := if n ≤ 549755813888 then f else none
end comb

section types
def aggTy (P : Program) (t : TypeId) : Option Bool :=
  match P.underlying t with
  | some (.struct _) | some (.array _ _) => some true
  | some _ => some false
  | none => none

/-- The types of a type's cells. -/
def leafTys (P : Program) : Nat → TypeId → List TypeId
  | 0, _ => []
  | d + 1, t =>
    match P.underlying t with
    | some (.struct fs) => fs.toList.flatMap fun f => leafTys P d f.type
    | some (.array n e) => (List.replicate n (leafTys P d e)).flatten
    | _ => [t]

variable {A : Type}
/-- A cell's value, by its type. -/
def castLeaf (P : Program) (t : TypeId) (x : DVal) (f : DVal → Option A) : Option A :=
  match P.underlying t with
  | some (.int k) => onInt k x fun n => f (.v (.int k n))
  | some .bool => onBool x fun b => f (.v (.bool b))
  | some .string => onStr x fun s => f (.v (.string s))
  | some (.slice e) => onSl (P.cellsOf e) x fun rows => f (.sl 3 (P.cellsOf e) rows)
  | some (.interface _) => onIfc x (f (.v .nilIface)) fun t y => f (.ifc t y)
  | some _ => f x
  | none => none

def castCells (P : Program) : List TypeId → List DVal → Nat → (List AVal → Option A) → Option A
  | [], _, _, f => f []
  | t :: ts, row, off, f => onCell row off fun x => castLeaf P t x fun y => castCells P ts row (off + 1) fun ys => f (.d y :: ys)

/-- What is loaded of a type from a row of cells. -/
def castLoad (P : Program) (t : TypeId) (row : List DVal) (off : Nat) (f : AVal → Option A) : Option A :=
  match aggTy P t with
  | some true => if (leafTys P 9 t).length = P.cellsOf t then castCells P (leafTys P 9 t) row off fun ys => f (.agg ys) else none
  | some false => onCell row off fun x => castLeaf P t x fun y => f (.d y)
  | none => none

/-- A value that a call answers, by its type. -/
def castVal (P : Program) (t : TypeId) (x : DVal) (f : AVal → Option A) : Option A :=
  match aggTy P t with
  | some true => onAgg (leafTys P 9 t).length x fun cs => castCells P (leafTys P 9 t) cs 0 fun ys => f (.agg ys)
  | some false => castLeaf P t x fun y => f (.d y)
  | none => none

def castVals (P : Program) : List TypeId → List DVal → Nat → (List AVal → Option A) → Option A
  | [], _, _, f => f []
  | t :: ts, xs, i, f => onCell xs i fun x => castVal P t x fun y => castVals P ts xs (i + 1) fun ys => f (y :: ys)

def castRes (P : Program) (ts : List TypeId) (x : DVal) (f : AVal → Option A) : Option A :=
  match ts with
  | [t] => castVal P t x f
  | _ => onTup ts.length x fun xs => castVals P ts xs 0 fun ys => f (.tup ys)

/-- A row's cells, by their types. -/
def castRow (P : Program) : List TypeId → List DVal → Option (List DVal)
  | [], [] => some []
  | t :: ts, x :: xs => match castLeaf P t x some, castRow P ts xs with
    | some y, some ys => some (y :: ys)
    | _, _ => none
  | _, _ => none

/-- The arguments of a call, by the types of the parameters (of a closure: as they are). -/
def castArgs (P : Program) (fn : Func) (ds : List DVal) (f : List AVal → Option A) : Option A :=
  if fn.params.toList.length = ds.length then castVals P fn.params.toList ds 0 f else f (ds.map .d)

def scalarTy (P : Program) (t : TypeId) : Bool :=
  match P.underlying t with
  | some (.int _) | some .bool | some .string => true
  | _ => false
end types

/-- The slots. -/
def get : Tm → Nat → AVal
  | [], _ => .junk
  | (t, v) :: r, s => bif Nat.beq t s then v else get r s

def leafV : Value → Bool
  | .agg _ | .tuple _ => false
  | _ => true

def constD : Value → AVal
  | .agg cs => bif cs.toList.all leafV then .agg (cs.toList.map fun c => .d (.v c)) else .junk
  | .tuple _ => .junk
  | x => .d (.v x)

def ev (tm : Tm) : Operand → AVal
  | .tmp t => get tm t
  | .const v => constD v
  | .func f => .fn (.func f) []
  | .global _ => .junk

/-- A value's cells. -/
def leaves : AVal → List AVal
  | .agg cs => cs
  | .d (.agg cs) => cs.map .d
  | x => [x]

def AVal.leafB : AVal → Bool
  | .d (.v _) | .d (.sl ..) | .d (.rp ..) | .d (.fn ..) | .d (.ifc ..) | .ptr .. | .ep .. | .hs .. | .vh .. | .fn .. => true
  | _ => false

/-- The arrays that a value leads to. -/
def handles : AVal → List Nat
  | .hs id _ _ _ _ => [id]
  | .vh id _ _ _ => [id]
  | .agg cs => handlesL cs
  | .tup cs => handlesL cs
  | .fn _ cs => handlesL cs
  | _ => []
where handlesL : List AVal → List Nat
  | [] => []
  | c :: cs => handles c ++ handlesL cs

def look (ids : List Nat) (vs : List BView) (id : Nat) : BView :=
  match ids, vs with
  | i :: ids, v :: vs => bif Nat.beq i id then v else look ids vs id
  | _, _ => .none

/-- The value as data, by what the arrays hold that it leads to. -/
def toD (lk : Nat → BView) : AVal → Option DVal
  | .d x => some x
  | .vh id ver _ _ => match lk id with
    | .rows sz ver' rows => bif Nat.beq ver ver' then some (.sl 3 sz rows) else none
    | _ => none
  | .hs id ver _ off len => match lk id with
    | .rows sz ver' rows => bif Nat.beq ver ver' then some (.sl 3 sz ((rows.drop off).take len)) else none
    | _ => none
  | .agg cs => match toDs lk cs with
    | some xs => some (.agg xs)
    | none => none
  | .tup cs => match toDs lk cs with
    | some xs => some (.tup xs)
    | none => none
  | .fn f cs => match toDs lk cs with
    | some xs => some (.fn f xs)
    | none => none
  | _ => none
where toDs (lk : Nat → BView) : List AVal → Option (List DVal)
  | [] => some []
  | c :: cs => match toD lk c, toDs lk cs with
    | some x, some xs => some (x :: xs)
    | _, _ => none

def viewAt (H : Heap) (id : Nat) : BView :=
  match H[id]? with
  | some b => b.view
  | none => .none

/-- What a call answers, as data. -/
def onCall {A : Type} (r : Option (AVal × Heap)) (f : DVal → Option A) : Option A :=
  match r with
  | some (x, H) => match toD (viewAt H) x with
    | some y => f y
    | none => none
  | none => none

/-- What one operation does: it reads; it reads and lets nobody write any more; it writes; it makes a block. -/
inductive Plan : Type 1 where
  | fail
  | rd (ids : List Nat) (f : ∀ {A : Type}, List BView → (AVal → Option A) → Option A)
  | fz (ids : List Nat) (f : ∀ {A : Type}, List BView → (AVal → Option A) → Option A)
  | wrs (ids : List Nat) (f : ∀ {A : Type}, List ABlk → (AVal → List ABlk → Option A) → Option A)
  | new (nid : Nat) (ids : List Nat) (f : ∀ {A : Type}, List BView → (ABlk → AVal → Option A) → Option A)

abbrev Plan.pure (f : ∀ {A : Type}, (AVal → Option A) → Option A) : Plan := .rd [] fun _ k => f k

def viewsOf {A : Type} (H : Heap) : List Nat → (List BView → Option A) → Option A
  | [], g => g []
  | id :: ids, g => match H[id]? with
    | some b => viewsOf H ids fun vs => g (b.view :: vs)
    | none => none

def blksOf {A : Type} (H : Heap) : List Nat → (List ABlk → Option A) → Option A
  | [], g => g []
  | id :: ids, g => match H[id]? with
    | some b => blksOf H ids fun vs => g (b :: vs)
    | none => none

def setAll (H : Heap) : List Nat → List ABlk → Heap
  | id :: ids, b :: bs => setAll (H.set id b) ids bs
  | _, _ => H

def freezeAll (H : Heap) : List Nat → Heap
  | id :: ids => match H[id]? with
    | some b => freezeAll (H.set id b.freeze) ids
    | none => H
  | [] => H

/-- A new block takes a place that was kept for it, or the next one. -/
def putNew {A : Type} (H : Heap) (nid : Nat) (blk : ABlk) (k : Heap → Option A) : Option A :=
  match H[nid]? with
  | some .gone => k (H.set nid blk)
  | some _ => none
  | none => if nid = H.length then k (H ++ [blk]) else none

def Plan.run {A : Type} (pl : Plan) (H : Heap) (k : AVal → Heap → Option A) : Option A :=
  match pl with
  | .fail => none
  | .rd ids f => viewsOf H ids fun vs => f vs fun v => k v H
  | .fz ids f => viewsOf H ids fun vs => f vs fun v => k v (freezeAll H ids)
  | .wrs ids f => blksOf H ids fun bs => f bs fun v bs' => if bs'.length = ids.length then k v (setAll H ids bs') else none
  | .new nid ids f => viewsOf H ids fun vs => f vs fun blk v => putNew H nid blk fun H' => k v H'

section pure
variable {A : Type}
def b (x : Bool) : AVal := .d (.v (.bool x))
def i64 (n : Int) : AVal := .d (.v (.int .i64 n))

def onCat (x y : ByteArray) (f : ByteArray → Option A) : Option A :=
  if x.size + y.size ≤ 549755813888 then f (x ++ y) else none

/-- Arithmetic, comparison. -/
def intOp (op : BinOp) (k : IntKind) (x y : Int) (f : AVal → Option A) : Option A :=
  match op with
  | .add => f (.d (.v (.int k (k.wrap (x + y)))))
  | .sub => f (.d (.v (.int k (k.wrap (x - y)))))
  | .mul => f (.d (.v (.int k (k.wrap (x * y)))))
  | .quo => if y = 0 then none else f (.d (.v (.int k (k.wrap (x.tdiv y)))))
  | .rem => if y = 0 then none else f (.d (.v (.int k (x.tmod y))))
  | .and => f (.d (.v (.int k (k.wrap (BitVec.ofInt k.bits x &&& BitVec.ofInt k.bits y).toNat))))
  | .or => f (.d (.v (.int k (k.wrap (BitVec.ofInt k.bits x ||| BitVec.ofInt k.bits y).toNat))))
  | .xor => f (.d (.v (.int k (k.wrap (BitVec.ofInt k.bits x ^^^ BitVec.ofInt k.bits y).toNat))))
  | .andNot => f (.d (.v (.int k (k.wrap (BitVec.ofInt k.bits x &&& ~~~(BitVec.ofInt k.bits y)).toNat))))
  | .eql => f (b (x == y))
  | .neq => f (b (x != y))
  | .lss => f (b (x < y))
  | .leq => f (b (x ≤ y))
  | .gtr => f (b (x > y))
  | .geq => f (b (x ≥ y))
  | _ => none

def shiftOp (op : BinOp) (k : IntKind) (x y : Int) (f : AVal → Option A) : Option A :=
  if y < 0 then none else
  match op with
  | .shl => f (.d (.v (.int k (k.wrap (x * 2 ^ (min y.toNat k.bits))))))
  | .shr => f (.d (.v (.int k (x.fdiv (2 ^ (min y.toNat k.bits))))))
  | _ => none

def strOp (op : BinOp) (x y : ByteArray) (f : AVal → Option A) : Option A :=
  match op with
  | .add => onCat x y fun s => f (.d (.v (.string s)))
  | .eql => f (b (x.toList == y.toList))
  | .neq => f (b (!(x.toList == y.toList)))
  | .lss => f (b (Op.bytesLess x.toList y.toList))
  | .leq => f (b (Op.bytesLess x.toList y.toList || x.toList == y.toList))
  | .gtr => f (b (!(Op.bytesLess x.toList y.toList || x.toList == y.toList)))
  | .geq => f (b (!(Op.bytesLess x.toList y.toList)))
  | _ => none

/-- '==' of the cells of two structs, all of them whole numbers, bools or strings. -/
def eqLeaves : List AVal → List AVal → Option Bool
  | [], [] => some true
  | .d (.v (.int k x)) :: xs, .d (.v (.int k' y)) :: ys => if k = k' then match eqLeaves xs ys with
    | some r => some (x == y && r)
    | none => none else none
  | _, _ => none

/-- '==' where one side is nil, or of bools; 'cst': one of both stands there as a constant. -/
def eqNil (P : Program) (t : TypeId) (cst : Bool) (x y : AVal) : Option Bool :=
  match P.underlying t, x, y with
  | some (.slice _), .d (.sl 0 _ _), .d (.v (.slice none 0 0)) => some false
  | some (.slice _), .d (.sl 2 _ _), .d (.v (.slice none 0 0)) => some true
  | some (.slice _), .d (.v (.slice none 0 0)), .d (.v (.slice none 0 0)) => some true
  | some (.interface _), .d (.v .nilIface), .d (.v .nilIface) => if cst = true then some true else none
  | some (.interface _), .d (.ifc _ _), .d (.v .nilIface) => some false
  | some (.interface _), .d (.v .nilIface), .d (.ifc _ _) => some false
  | some .bool, .d (.v (.bool x)), .d (.v (.bool y)) => some (x == y)
  | _, _, _ => none

def binK (P : Program) (t : TypeId) (cst : Bool) (op : BinOp) (x y : AVal) (f : AVal → Option A) : Option A :=
  match op, x, y with
  | .shl, .d (.v (.int k x)), .d (.v (.int _ y)) => shiftOp .shl k x y f
  | .shr, .d (.v (.int k x)), .d (.v (.int _ y)) => shiftOp .shr k x y f
  | op, .d (.v (.int k x)), .d (.v (.int k' y)) => if k = k' then intOp op k x y f else none
  | op, .d (.v (.string x)), .d (.v (.string y)) => strOp op x y f
  | .eql, x, y => match eqNil P t cst x y with
    | some r => f (b r)
    | none => none
  | .neq, x, y => match eqNil P t cst x y with
    | some r => f (b (!r))
    | none => none
  | _, _, _ => none

def unK (op : UnOp) (x : AVal) (f : AVal → Option A) : Option A :=
  match op, x with
  | .neg, .d (.v (.int k n)) => f (.d (.v (.int k (k.wrap (0 - n)))))
  | .not, .d (.v (.bool x)) => f (b (!x))
  | _, _ => none

def convK (P : Program) (dst : TypeId) (x : AVal) (f : AVal → Option A) : Option A :=
  match P.underlying dst, x with
  | some (.int k), .d (.v (.int _ n)) => f (.d (.v (.int k (k.wrap n))))
  | some .string, .d (.v (.string s)) => f (.d (.v (.string s)))
  | _, _ => none

def allLeaf : List AVal → Bool
  | [] => true
  | x :: xs => x.leafB && allLeaf xs

/-- Cells written over others. -/
def splice {B : Type} (cs : List B) (off : Nat) (xs : List B) : List B := cs.take off ++ xs ++ cs.drop (off + xs.length)

/-- Parts laid over the cells of a struct or an array. -/
def fillA (place : Nat → Option (Nat × Nat)) (cells : List AVal) : List (Nat × AVal) → Option (List AVal)
  | [] => some cells
  | (i, v) :: rest =>
    match place i with
    | none => none
    | some (off, size) =>
      if allLeaf (leaves v) && decide ((leaves v).length = size) && decide (off + size ≤ cells.length) then fillA place (splice cells off (leaves v)) rest else none

def zeroLeaves (P : Program) (t : TypeId) : Option (List AVal) :=
  match P.info? t with
  | some i => match i.zero with
    | some z => some (leaves (constD z))
    | none => none
  | none => none

def fieldAt (P : Program) (s : TypeId) (f : Nat) : Option (Nat × TypeId) :=
  match P.underlying s with
  | some (.struct fs) => match fs.toList[f]? with
    | some x => if P.cellsOf x.type = 0 then none else some (x.offset, x.type)
    | none => none
  | _ => none

def addOff (x : AVal) (n : Nat) (f : AVal → Option A) : Option A :=
  match x with
  | .ptr id off => f (.ptr id (off + n))
  | .ep id ver i off => f (.ep id ver i (off + n))
  | .d (.rp row off) => f (.d (.rp row (off + n)))
  | _ => none

/-- A part of a struct or an array that is at hand. -/
def partK (P : Program) (t : TypeId) (cs : List AVal) (off : Nat) (f : AVal → Option A) : Option A :=
  match aggTy P t with
  | some true => if off + P.cellsOf t ≤ cs.length then f (.agg ((cs.drop off).take (P.cellsOf t))) else none
  | some false => match cs[off]? with
    | some x => f x
    | none => none
  | none => none

/-- An index below n that may be known later: one of the numbers from j on. -/
def onEnum (i : Int) : Nat → Nat → (Nat → Option A) → Option A
  | 0, _, _ => none
  | n + 1, j, f => if i = (j : Int) then f j else onEnum i n (j + 1) f

def indexAddrK (P : Program) (t : TypeId) (x i : AVal) (f : AVal → Option A) : Option A :=
  match P.underlying t, x, i with
  | some (.slice e), .d (.sl _ sz rows), .d (.v (.int _ i)) =>
    if decide (sz = P.cellsOf e) && decide (0 < sz) then onIx i rows.length fun n => onRow rows n fun row => f (.d (.rp row 0)) else none
  | some (.slice e), .hs id ver sz off len, .d (.v (.int _ i)) => if decide (sz = P.cellsOf e) && decide (0 < sz) then onIx i len fun n => f (.ep id ver (off + n) 0) else none
  | some (.slice e), .vh id ver sz len, .d (.v (.int _ i)) => if decide (sz = P.cellsOf e) && decide (0 < sz) then onIx i len fun n => f (.ep id ver n 0) else none
  | some (.array len e), x, .d (.v (.int _ i)) => if 0 < P.cellsOf e then onEnum i len 0 fun n => addOff x (n * P.cellsOf e) f else none
  | _, _, _ => none

def indexK (P : Program) (t : TypeId) (x i : AVal) (f : AVal → Option A) : Option A :=
  match P.underlying t, x, i with
  | some (.array len e), .agg cs, .d (.v (.int _ i)) => if 0 < P.cellsOf e then onEnum i len 0 fun n => partK P e cs (n * P.cellsOf e) f else none
  | some .string, .d (.v (.string s)), .d (.v (.int _ i)) => onByte s i fun c => f (.d (.v (.int .u8 c.toNat)))
  | _, _, _ => none

def lenK (P : Program) (t : TypeId) (x : AVal) (f : AVal → Option A) : Option A :=
  match P.underlying t, x with
  | some (.slice _), .d (.sl _ _ rows) => f (i64 rows.length)
  | some (.slice _), .d (.v (.slice none 0 0)) => f (i64 0)
  | some (.slice _), .hs _ _ _ _ len => f (i64 len)
  | some (.slice _), .vh _ _ _ len => f (i64 len)
  | some .string, .d (.v (.string s)) => f (i64 s.size)
  | _, _ => none

def minK (x y : AVal) (f : AVal → Option A) : Option A :=
  match x, y with
  | .d (.v (.int k x)), .d (.v (.int _ y)) => f (.d (.v (.int k (if y < x then y else x))))
  | _, _ => none
def maxK (x y : AVal) (f : AVal → Option A) : Option A :=
  match x, y with
  | .d (.v (.int k x)), .d (.v (.int _ y)) => f (.d (.v (.int k (if y > x then y else x))))
  | _, _ => none

def foldK (g : AVal → AVal → (AVal → Option A) → Option A) : AVal → List AVal → (AVal → Option A) → Option A
  | x, [], f => f x
  | x, y :: ys, f => g x y fun z => foldK g z ys f

/-- A bound of a slice expression. -/
def bndK (most : Nat) (o : Option AVal) (dflt : Nat) (f : Nat → Option A) : Option A :=
  match o with
  | none => f dflt
  | some (.d (.v (.int _ h))) => onIx h (most + 1) f
  | _ => none

def boundsK (len : Nat) (lo hi mx : Option AVal) (f : Nat → Nat → Option A) : Option A :=
  match mx with
  | none => bndK len hi len fun h => bndK h lo 0 fun l => f l h
  | _ => none

def sliceK (P : Program) (t : TypeId) (x : AVal) (lo hi mx : Option AVal) (f : AVal → Option A) : Option A :=
  match P.underlying t, x with
  | some (.slice e), .d (.sl fl sz rows) =>
    if decide (sz = P.cellsOf e) && decide (0 < sz) then boundsK rows.length lo hi mx fun l h =>
      f (.d (.sl fl sz ((rows.take h).drop l)))
    else none
  | some (.slice e), .hs id ver sz off len => if decide (sz = P.cellsOf e) && decide (0 < sz) then boundsK len lo hi mx fun l h => f (.hs id ver sz (off + l) (h - l)) else none
  | some (.slice e), .vh id ver sz len => if decide (sz = P.cellsOf e) && decide (0 < sz) then boundsK len lo hi mx fun l h => f (.hs id ver sz l (h - l)) else none
  | some .string, .d (.v (.string s)) => boundsK s.size lo hi mx fun l h => f (.d (.v (.string (s.extract l h))))
  | _, _ => none
end pure

section plans
def plLoad (P : Program) (t : TypeId) (x : AVal) : Plan :=
  match x with
  | .d (.rp row off) => .pure fun k => castLoad P t row off k
  | .ptr id off => .rd [id] fun vs k => match vs with
    | [.cel cs] => partK P t cs off k
    | _ => none
  | .ep id ver i off => .rd [id] fun vs k => match vs with
    | [.rows _ ver' rows] => bif Nat.beq ver ver' then onRow rows i fun row => castLoad P t row off k else none
    | _ => none
  | _ => .fail

def toDL (lk : Nat → BView) : List AVal → Option (List DVal) := toD.toDs lk

def plStore (P : Program) (t : TypeId) (x y : AVal) : Plan :=
  if allLeaf (leaves y) && decide ((leaves y).length = P.cellsOf t) && decide (0 < P.cellsOf t) then
    match x with
    | .ptr id off => .wrs [id] fun bs k => match bs with
      | [.cel cs] => if off + (leaves y).length ≤ cs.length then k .junk [.cel (splice cs off (leaves y))] else none
      | _ => none
    | .ep id ver i off =>
      match (toDL (fun _ => .none) (leaves y)).bind (castRow P (leafTys P 9 t)) with
      | some ds => .wrs [id] fun bs k => match bs with
        | [.arr sz rows] => bif Nat.beq ver 0 then onRow rows i fun row => if off + ds.length ≤ sz then k .junk [.arr sz (rows.set i (splice row off ds))] else none else none
        | [.vec sz ver' rows] => bif Nat.beq ver ver' then onRow rows i fun row => if off + ds.length ≤ sz then k .junk [.vec sz ver' (rows.set i (splice row off ds))] else none else none
        | _ => none
      | none => .fail
    | _ => .fail
  else .fail

/-- Rows that are written out: the parts stand in their order. -/
def rowsP (P : Program) (ts : List TypeId) (lk : Nat → BView) (size : Nat) : Nat → List (Nat × AVal) → Option Rows
  | _, [] => some []
  | k, (i, x) :: ps =>
    if Nat.beq i k && allLeaf (leaves x) then
      match (toDL lk (leaves x)).bind (castRow P ts), rowsP P ts lk size (k + 1) ps with
      | some row, some rows => if row.length = size then some (row :: rows) else none
      | _, _ => none
    else none

/-- A new slice of what is written out. 'own': it is going to be appended to. -/
def plBuildSlice (P : Program) (t : TypeId) (len : Nat) (parts : List (Nat × AVal)) (own : Bool) (nid : Nat) : Plan :=
  match P.underlying t with
  | some (.slice e) =>
    match zeroLeaves P e with
    | some _ =>
      if decide (parts.length = len) && decide (0 < P.cellsOf e) && decide (len * P.cellsOf e ≤ 16777216) then
        bif own then
          match rowsP P (leafTys P 9 e) (fun _ => .none) (P.cellsOf e) 0 parts with
          | some rows => .new nid [] fun _ k => k (.vec (P.cellsOf e) 0 rows) (.vh nid 0 (P.cellsOf e) len)
          | none => .fail
        else
          .fz (parts.map fun p => handles p.2).flatten fun vs k => match rowsP P (leafTys P 9 e) (look (parts.map fun p => handles p.2).flatten vs) (P.cellsOf e) 0 parts with
            | some rows => k (.d (.sl 0 (P.cellsOf e) rows))
            | none => none
      else .fail
    | none => .fail
  | _ => .fail

/-- What is appended, as rows. -/
def appRows {A : Type} (lk : Nat → BView) (x : AVal) (sz : Nat) (f : Rows → Option A) : Option A :=
  match x with
  | .d (.sl _ sz' rows) => if sz' = sz then f rows else none
  | .d (.v (.slice none 0 0)) => f []
  | .vh id ver _ _ => match lk id with
    | .rows sz' ver' rows => bif Nat.beq ver ver' then if sz' = sz then f rows else none else none
    | _ => none
  | .hs id ver _ off len => match lk id with
    | .rows sz' ver' rows => bif Nat.beq ver ver' then if sz' = sz then f ((rows.drop off).take len) else none else none
    | _ => none
  | _ => none

def zeroOk (P : Program) (e : TypeId) : Bool :=
  match zeroLeaves P e with
  | some zl => allLeaf zl && decide (zl.length = P.cellsOf e)
  | none => false

/-- 'append(dst, x...)'. -/
def plAppend (P : Program) (t : TypeId) (dst x : AVal) (nid : Nat) : Plan :=
  match P.underlying t with
  | some (.slice e) =>
    if zeroOk P e && decide (0 < P.cellsOf e) && decide (P.bytesOf e ≤ 128) && decide (0 < P.bytesOf e) then
      match dst with
      | .vh id ver _ _ =>
        .wrs (id :: handles x) fun bs k => match bs with
          | .vec sz ver' rows :: bs' => bif Nat.beq ver ver' && !((handles x).contains id) then if sz = P.cellsOf e then appRows (look (handles x) (bs'.map ABlk.view)) x sz fun ys =>
              onRoom (rows.length + ys.length) (k (.vh id (ver + 1) sz (rows ++ ys).length) (.vec sz (ver + 1) (rows ++ ys) :: bs')) else none else none
          | _ => none
      | .d (.v (.slice none 0 0)) =>
        .new nid (handles x) fun vs k => appRows (look (handles x) vs) x (P.cellsOf e) fun ys =>
          onRoom ys.length (k (.vec (P.cellsOf e) 0 ys) (.vh nid 0 (P.cellsOf e) ys.length))
      | _ => .fail
    else .fail
  | _ => .fail

def sameOperand : Operand → Operand → Bool
  | .tmp i, .tmp j => Nat.beq i j
  | .const (.int _ x), .const (.int _ y) => decide (x = y)
  | _, _ => false

def plMake (P : Program) (t : TypeId) (l c : Operand) (len : AVal) (dat : Bool) (nid : Nat) : Plan :=
  match P.underlying t, len with
  | some (.slice e), .d (.v (.int .i64 n)) =>
    match zeroLeaves P e with
    | some zero =>
      match (toDL (fun _ => .none) zero).bind (castRow P (leafTys P 9 e)) with
      | some ds =>
        if sameOperand l c && allLeaf zero && decide (zero.length = P.cellsOf e) && decide (0 < P.cellsOf e) && decide (P.bytesOf e ≤ 128) then
          bif dat then .fz [] fun _ k => if 0 ≤ n then onRoom n.toNat (k (.d (.sl 0 (P.cellsOf e) (List.replicate n.toNat ds)))) else none
          else .new nid [] fun _ k => if 0 ≤ n then onRoom n.toNat (k (.arr (P.cellsOf e) (List.replicate n.toNat ds)) (.hs nid 0 (P.cellsOf e) 0 n.toNat)) else none
        else .fail
      | none => .fail
    | none => .fail
  | _, _ => .fail

/-- What is asked of a program's functions: what they answer (of data; of arrays that are handed on). -/
abbrev Orc := FuncId → List AVal → Heap → Option (AVal × Heap)

structure LA where
  fid : Nat
  key : Nat                           -- the first region of the loop's body
  live : List Nat
  vecs : List (Nat × Nat) := []       -- slots that hold a slice that grows; its cells
  cvecs : List (Nat × Nat × Nat) := []
  nb : Nat                            -- so many blocks stay
  nils : List (Nat × Nat) := []       -- slots whose nil slice is just an empty one
  cnils : List (Nat × Nat × Nat) := []
  cs : List (List Nat) := []          -- the slots of the callers that are asked for

structure Cf where
  loops : List LA := []
  joins : List LA := []               -- regions where the run stops as at a loop's head (key: the region's number)
  mode : FuncId → Nat := fun _ => 0   -- 0: of data; 1: gone through here; 2: its slices are the caller's own
  ret : Nat := 0                      -- 0, 1: data; 2: its slices are the caller's own
  keep : Nat := 0
  own : List Nat := []                -- slots whose literal is going to be appended to
  dat : List Nat := []                -- slots whose made slice is never written

/-- The values as data, by what is read. -/
def plCall (P : Program) (X : Orc) (g : FuncId) (fn : Func) (args : List AVal) : Plan :=
  let ids := (args.map handles).flatten
  let go {A : Type} (vs : List BView) (k : AVal → Option A) : Option A :=
    match toDL (look ids vs) args with
    | some ds => castArgs P fn ds fun as => onCall (X g as []) fun r => castRes P fn.resultTypes.toList r k
    | none => none
  if fn.resultTypes.toList.all (scalarTy P) then .rd ids go else .fz ids go

/-- One block's rows, handed on and back. -/
def asArr : ABlk → Option ABlk
  | .arr sz rows => some (.arr sz rows)
  | .vec sz _ rows => some (.arr sz rows)
  | _ => none
def asArrs : List ABlk → Option (List ABlk)
  | [] => some []
  | b :: bs => match asArr b, asArrs bs with
    | some x, some xs => some (x :: xs)
    | _, _ => none

def onArr {A : Type} (H : Heap) (j sz : Nat) (f : Rows → Option A) : Option A :=
  match H[j]? with
  | some (.arr sz' rows) => if sz' = sz then f rows else none
  | _ => none

/-- The blocks behind a call that may have written them: as many rows as before. -/
def backArrs {A : Type} (H : Heap) : Nat → List ABlk → (List ABlk → Option A) → Option A
  | _, [], f => f []
  | j, .arr sz rows :: bs, f => onArr H j sz fun rows' => if rows'.length = rows.length then backArrs H (j + 1) bs fun xs => f (.arr sz rows' :: xs) else none
  | j, .vec sz ver rows :: bs, f => onArr H j sz fun rows' => if rows'.length = rows.length then backArrs H (j + 1) bs fun xs => f (.vec sz ver rows' :: xs) else none
  | _, _, _ => none

def idxOf : List Nat → Nat → Option Nat
  | [], _ => none
  | i :: ids, id => bif Nat.beq i id then some 0 else (idxOf ids id).map (· + 1)

/-- The numbers of blocks, in what is handed on. -/
def renum (ids : List Nat) : AVal → Option AVal
  | .d x => some (.d x)
  | .hs id ver sz off len => (idxOf ids id).map fun j => bif Nat.beq ver 0 then .hs j 0 sz off len else .junk
  | .vh id ver sz len => (idxOf ids id).map fun j => bif Nat.beq ver 0 then .hs j 0 sz 0 len else .junk
  | .ep id ver i off => (idxOf ids id).map fun j => bif Nat.beq ver 0 then .ep j 0 i off else .junk
  | _ => none
def renums (ids : List Nat) : List AVal → Option (List AVal)
  | [] => some []
  | a :: as => match renum ids a, renums ids as with
    | some x, some xs => some (x :: xs)
    | _, _ => none
def epIds : AVal → List Nat
  | .ep id _ _ _ => [id]
  | _ => []
def dedup : List Nat → List Nat
  | [] => []
  | x :: xs => let r := dedup xs; bif r.contains x then r else x :: r

def onCallS {A : Type} (r : Option (AVal × Heap)) (f : DVal → Heap → Option A) : Option A :=
  match r with
  | some (.d x, H) => f x H
  | _ => none

def plCallS (P : Program) (X : Orc) (g : FuncId) (fn : Func) (args : List AVal) : Plan :=
  let ids := dedup (args.map fun a => handles a ++ epIds a).flatten
  match renums ids args with
  | some args' => .wrs ids fun bs k => match asArrs bs with
    | some bs' => onCallS (X g args' bs') fun r H' => castRes P fn.resultTypes.toList r fun v => backArrs H' 0 bs fun xs => k v xs
    | none => none
  | none => .fail

/-- What a call answers whose slices are the caller's own. -/
def onOwn {A : Type} (r : Option (AVal × Heap)) (f : AVal → Heap → Option A) : Option A :=
  match r with
  | some (x, H) => f x H
  | none => none
def onHs {A : Type} (j sz : Nat) (x : AVal) (f : Nat → Option A) : Option A :=
  match x with
  | .hs id 0 sz' 0 len => if id = j ∧ sz' = sz then f len else none
  | _ => none
def onAggA {A : Type} (n : Nat) (x : AVal) (f : List AVal → Option A) : Option A :=
  match x with
  | .agg cs => if cs.length = n then f cs else none
  | _ => none
def onD {A : Type} (x : AVal) (f : DVal → Option A) : Option A :=
  match x with
  | .d x => f x
  | _ => none
def onCellA {A : Type} (row : List AVal) (i : Nat) (f : AVal → Option A) : Option A :=
  match row[i]? with
  | some x => f x
  | none => none

/-- One cell of such an answer: j blocks were told already; they begin at n in the caller's heap. -/
def castOwn1 {A : Type} (P : Program) (H' : Heap) (n j : Nat) (t : TypeId) (x : AVal) (f : AVal → List ABlk → Option A) : Option A :=
  match P.underlying t with
  | some (.slice e) => onHs j (P.cellsOf e) x fun len => onArr H' j (P.cellsOf e) fun rows => f (.hs (n + j) 0 (P.cellsOf e) 0 len) [.arr (P.cellsOf e) rows]
  | _ => onD x fun x => castLeaf P t x fun y => f (.d y) []

/-- A call whose answer is one slice of the caller's own: it takes a place that was kept for it (in a region whose order is open). -/
def plCallN (P : Program) (X : Orc) (g : FuncId) (fn : Func) (args : List AVal) (nid : Nat) : Plan :=
  match fn.resultTypes.toList with
  | [rt] => match toDL (fun _ => .none) args with
    | some ds => .new nid [] fun _ k => castArgs P fn ds fun as => onOwn (X g as []) fun x H' => castOwn1 P H' nid 0 rt x fun y bs => match bs with
      | [b] => k b y
      | _ => none
    | none => .fail
  | _ => .fail

def partsOf (e : Operand → AVal) (ps : Array (Nat × Operand)) : List (Nat × AVal) := ps.toList.map fun p => (p.1, e p.2)

def inDst (l : List Nat) (o : Oper) : Bool :=
  match o.dst with
  | some d => l.any (Nat.beq d)
  | none => false

def ownAt (ops : Array Oper) (o : Oper) : Bool :=
  match o.dst with
  | some d => ops.toList.any fun o' => match o'.op with
    | .call { callee := .builtin .append, args, .. } => match args.toList with
      | .tmp s :: _ => Nat.beq s d
      | _ => false
    | _ => false
  | none => false

def buildA (P : Program) (t : TypeId) (parts : List (Nat × AVal)) : Option (List AVal) :=
  match zeroLeaves P t with
  | some zero =>
    match P.underlying t with
    | some (.struct fs) => if fs.toList.all (fun f => (P.info? f.type).isSome) && allLeaf zero then fillA (fun i => (fs.toList[i]?).map fun f => (f.offset, P.cellsOf f.type)) zero parts else none
    | some (.array _ e) => if decide (0 < P.cellsOf e) && allLeaf zero then fillA (fun i => some (i * P.cellsOf e, P.cellsOf e)) zero parts else none
    | _ => none
  | none => none

def isConstB : Operand → Bool
  | .const _ => true
  | _ => false

/-- What an operation does, but for calls of Go functions that are gone through here. -/
def planOf (P : Program) (X : Orc) (cf : Cf) (ops : Array Oper) (o : Oper) (e : Operand → AVal) (nid : Nat) : Plan :=
  match o.op with
  | .move x | .assign x => .pure fun k => k (e x)
  | .pick c x y => match e c with
    | .d (.v (.bool t)) => .pure fun k => if t = true then k (e x) else k (e y)
    | _ => .fail
  | .alloc t => match zeroLeaves P t with
    | some zs => if allLeaf zs = true then .new nid [] fun _ k => k (.cel zs) (.ptr nid 0) else .fail
    | none => .fail
  | .box _ x => .new nid [] fun _ k => if allLeaf (leaves (e x)) then k (.cel (leaves (e x))) (.ptr nid 0) else none
  | .build t parts => match buildA P t (partsOf e parts) with
    | some cs => .pure fun k => k (.agg cs)
    | none => .fail
  | .buildSlice t len parts => plBuildSlice P t len (partsOf e parts) (ownAt ops o || inDst cf.own o) nid
  | .load t x => plLoad P t (e x)
  | .store t x y => plStore P t (e x) (e y)
  | .nilCheck x => match e x with
    | .ptr id off => .pure fun k => k (.ptr id off)
    | .ep id ver i off => .pure fun k => k (.ep id ver i off)
    | .d (.rp row off) => .pure fun k => k (.d (.rp row off))
    | _ => .fail
  | .binOp op t x y _ => .pure fun k => binK P t (isConstB x || isConstB y) op (e x) (e y) k
  | .unOp op _ x => .pure fun k => unK op (e x) k
  | .convert src dst x => match P.underlying src with
    | some _ => .pure fun k => convK P dst (e x) k
    | none => .fail
  | .makeInterface t x => match P.underlying t, e x with
    | some (.interface _), _ => .fail
    | some _, .d y => .pure fun k => k (.d (.ifc t y))
    | _, _ => .fail
  | .makeFunc f first caps => match first.toList with
    | [] => .pure fun k => k (.fn f (caps.toList.map e))
    | _ => .fail
  | .makeSlice t l c => plMake P t l c (e l) (inDst cf.dat o) nid
  | .slice t x lo hi mx => .pure fun k => sliceK P t (e x) (lo.map e) (hi.map e) (mx.map e) k
  | .fieldAddr s x f => match fieldAt P s f with
    | some (off, _) => .pure fun k => addOff (e x) off k
    | none => .fail
  | .field s x f => match fieldAt P s f, e x with
    | some (off, t), .agg cs => .pure fun k => partK P t cs off k
    | _, _ => .fail
  | .indexAddr t x i => .pure fun k => indexAddrK P t (e x) (e i) k
  | .index t x i => .pure fun k => indexK P t (e x) (e i) k
  | .extract x i => match e x with
    | .tup xs => match xs[i]? with
      | some y => .pure fun k => k y
      | none => .fail
    | _ => .fail
  | .call c =>
    let args := c.args.toList.map e
    match c.callee with
    | .builtin bi => match bi, args, c.argTypes.toList with
      | .len, [x], [t] => .pure fun k => lenK P t x k
      | .min, x :: xs, _ => .pure fun k => foldK minK x xs k
      | .max, x :: xs, _ => .pure fun k => foldK maxK x xs k
      | .append, [x, y], [t, t'] => match P.underlying t' with
        | some (.slice _) => plAppend P t x y nid
        | _ => .fail
      | _, _, _ => .fail
    | .value f => match e f with
      | .fn (.func g) caps => match P.funcs[g]? with
        | some fn => if fn.name = "runtime.NumGoroutine" then .fail else match fn.body with
          | some _ => match cf.mode g with
            | 0 => plCall P X g fn (args ++ caps)
            | 3 => plCallN P X g fn (args ++ caps) nid
            | _ => .fail
          | none => plCall P X g fn (args ++ caps)
        | none => .fail
      | _ => .fail
    | _ => .fail
  | _ => .fail
end plans
end Go.Eng

namespace Go.Eng
open Go

/-- A frame: its function's number and text, its slots, what it is to do. -/
structure Frm where
  fid : Nat
  f : Func
  tm : Tm
  todo : List Item

structure Cfg where
  fr : Frm
  cs : List Frm
  H : Heap

abbrev Res := AVal × Heap

/-- The first region's number. -/
def firstRegion : Code → Option Nat
  | .region id _ _ => some id
  | .seq a b => match firstRegion a with
    | some n => some n
    | none => firstRegion b
  | .block _ c => firstRegion c
  | .loop c => firstRegion c
  | .scope c => firstRegion c
  | .cond _ a b => match firstRegion a with
    | some n => some n
    | none => firstRegion b
  | _ => none

def findLA : List LA → Nat → Nat → Option LA
  | [], _, _ => none
  | l :: ls, fid, key => bif Nat.beq l.fid fid && Nat.beq l.key key then some l else findLA ls fid key

/- At a loop's head: nil slices that will grow get an (empty) array; slots that nobody asks for are forgotten; blocks that were made in the last round are dropped; versions begin anew. -/
def coerce (sz : Nat) (x : AVal) (H : Heap) : AVal × Heap :=
  match x with
  | .d (.v (.slice none 0 0)) => (.vh H.length 0 sz 0, H ++ [.vec sz 0 []])
  | x => (x, H)

def coerceTm : List (Nat × Nat) → Tm → Heap → Tm × Heap
  | [], tm, H => (tm, H)
  | (s, sz) :: r, tm, H => match coerce sz (get tm s) H with
    | (x, H') => coerceTm r ((s, x) :: tm) H'

def coerceH : List (Nat × Nat × Nat) → Heap → Heap
  | [], H => H
  | (id, off, sz) :: r, H => match H[id]? with
    | some (.cel cs) => match cs[off]? with
      | some x => match coerce sz x H with
        | (y, H') => coerceH r (H'.set id (.cel (cs.set off y)))
      | none => coerceH r H
    | _ => coerceH r H

def blkVer : ABlk → Nat
  | .vec _ ver _ => ver
  | .frz _ ver _ => ver
  | _ => 0

def blkLen : ABlk → Nat
  | .arr _ rows => rows.length
  | .vec _ _ rows => rows.length
  | .frz _ _ rows => rows.length
  | _ => 0

/-- Handles of blocks below nb that are up to date, of version 0; others are forgotten; none: it leads to a block that is dropped. -/
def resetA (H : Heap) (nb : Nat) : AVal → Option AVal
  | .hs id ver sz off len => bif Nat.ble (id + 1) nb then match H[id]? with
    | some b => bif Nat.beq (blkVer b) ver then some (.hs id 0 sz off len) else some .junk
    | none => some .junk else none
  | .vh id ver sz len => bif Nat.ble (id + 1) nb then match H[id]? with
    | some b => bif Nat.beq (blkVer b) ver then some (.vh id 0 sz (blkLen b)) else some .junk
    | none => some .junk else none
  | .ep id ver i off => bif Nat.ble (id + 1) nb then match H[id]? with
    | some b => bif Nat.beq (blkVer b) ver then some (.ep id 0 i off) else some .junk
    | none => some .junk else none
  | .ptr id off => bif Nat.ble (id + 1) nb then some (.ptr id off) else none
  | .agg cs => match resetL H nb cs with
    | some xs => some (.agg xs)
    | none => none
  | .tup cs => match resetL H nb cs with
    | some xs => some (.tup xs)
    | none => none
  | .fn f cs => match resetL H nb cs with
    | some xs => some (.fn f xs)
    | none => none
  | x => some x
where resetL (H : Heap) (nb : Nat) : List AVal → Option (List AVal)
  | [] => some []
  | c :: cs => match resetA H nb c, resetL H nb cs with
    | some x, some xs => some (x :: xs)
    | _, _ => none

/-- The slots that are asked for; what leads to a dropped block is forgotten. -/
def keepTm (H : Heap) (nb : Nat) (tm : Tm) : List Nat → Tm
  | [] => []
  | s :: r => match resetA H nb (get tm s) with
    | some x => (s, x) :: keepTm H nb tm r
    | none => keepTm H nb tm r

def resetTm (H : Heap) (nb : Nat) : Tm → Tm
  | [] => []
  | (s, x) :: r => match resetA H nb x with
    | some y => (s, y) :: resetTm H nb r
    | none => (s, .junk) :: resetTm H nb r

def resetBlk (H : Heap) (nb : Nat) : ABlk → Option ABlk
  | .cel cs => match resetA.resetL H nb cs with
    | some xs => some (.cel xs)
    | none => none
  | .vec sz _ rows => some (.vec sz 0 rows)
  | .frz sz _ rows => some (.frz sz 0 rows)
  | b => some b

def resetH (H0 : Heap) (nb : Nat) : Heap → Nat → Option Heap
  | _, 0 => some []
  | [], _ + 1 => some []
  | b :: bs, n + 1 => match resetBlk H0 nb b, resetH H0 nb bs n with
    | some x, some xs => some (x :: xs)
    | _, _ => none

def keepCs (H : Heap) (nb : Nat) : List (List Nat) → List Frm → List Frm
  | l :: ls, f :: fs => { f with tm := keepTm H nb f.tm l } :: keepCs H nb ls fs
  | _, [] => []
  | [], f :: fs => { f with tm := resetTm H nb f.tm } :: keepCs H nb [] fs

def coerceN (sz : Nat) (x : AVal) : AVal :=
  match x with
  | .d (.v (.slice none 0 0)) => .d (.sl 3 sz [])
  | x => x

def coerceNs : List (Nat × Nat) → Tm → Tm
  | [], tm => tm
  | (s, sz) :: r, tm => coerceNs r ((s, coerceN sz (get tm s)) :: tm)

def coerceNH : List (Nat × Nat × Nat) → Heap → Heap
  | [], H => H
  | (id, off, sz) :: r, H => match H[id]? with
    | some (.cel cs) => match cs[off]? with
      | some x => coerceNH r (H.set id (.cel (cs.set off (coerceN sz x))))
      | none => coerceNH r H
    | _ => coerceNH r H

def canon (la : LA) (c : Cfg) : Option Cfg :=
  match coerceTm la.vecs (coerceNs la.nils c.fr.tm) (coerceNH la.cnils c.H) with
  | (tm, H1) => match coerceH la.cvecs H1 with
    | H => match resetH H la.nb H la.nb with
      | some H' => some { fr := { c.fr with tm := keepTm H la.nb tm la.live }, cs := keepCs H la.nb la.cs c.cs, H := H' }
      | none => none

def enterTm : List AVal → Nat → Tm
  | [], _ => []
  | x :: xs, i => (i, x) :: enterTm xs (i + 1)

def putDst (o : Oper) (n : Nat) (v : AVal) (tm : Tm) : Option Tm :=
  match o.dst with
  | some d => bif Nat.ble (d + 1) n then some ((d, v) :: tm) else none
  | none => some tm

/-- The results, as one value. -/
def resultA (P : Program) (H : Heap) (tm : Tm) : ResultVar → Option AVal
  | .tmp t => some (get tm t)
  | .cell a t => match get tm a with
    | .ptr id off => match H[id]? with
      | some (.cel cs) => partK P t cs off some
      | _ => none
    | _ => none

def resultsA (P : Program) (H : Heap) (tm : Tm) : List ResultVar → Option (List AVal)
  | [] => some []
  | r :: rs => match resultA P H tm r, resultsA P H tm rs with
    | some x, some xs => some (x :: xs)
    | _, _ => none

def oneOf : List AVal → AVal
  | [x] => x
  | xs => .tup xs

/-- An answer whose slices are the caller's own: their blocks, in the order in which they occur. -/
def own1 (H : Heap) (n : Nat) : AVal → Option (AVal × List Nat)
  | .d x => some (.d x, [])
  | .vh id ver sz len => match H[id]? with
    | some (.vec _ ver' _) => bif Nat.beq ver ver' then some (.hs n 0 sz 0 len, [id]) else none
    | _ => none
  | .hs id ver sz off len => match H[id]? with
    | some (.arr _ _) => bif Nat.beq ver 0 then some (.hs n 0 sz off len, [id]) else none
    | _ => none
  | .agg cs => match ownL H n cs with
    | some (xs, ids) => some (.agg xs, ids)
    | none => none
  | .tup cs => match ownL H n cs with
    | some (xs, ids) => some (.tup xs, ids)
    | none => none
  | _ => none
where ownL (H : Heap) (n : Nat) : List AVal → Option (List AVal × List Nat)
  | [] => some ([], [])
  | c :: cs => match own1 H n c with
    | some (x, ids) => match ownL H (n + ids.length) cs with
      | some (xs, ids') => some (x :: xs, ids ++ ids')
      | none => none
    | none => none

def distinct : List Nat → Bool
  | [] => true
  | x :: xs => !(xs.contains x) && distinct xs

def arrsAt (H : Heap) : List Nat → Option Heap
  | [] => some []
  | id :: ids => match (H[id]?).bind asArr, arrsAt H ids with
    | some b, some bs => some (b :: bs)
    | _, _ => none

def noCel : ABlk → Bool
  | .cel _ => false
  | _ => true

/-- The answer: data (0; 1: beside what is left of the blocks that were handed in); or slices of the caller's own (2). -/
def finK (cf : Cf) (x : AVal) (H : Heap) : Option Res :=
  match cf.ret with
  | 0 => match toD (viewAt H) x with
    | some y => some (.d y, [])
    | none => none
  | 1 => match toD (viewAt H) x with
    | some y => bif ((freezeAll H (handles x)).take cf.keep).all noCel then some (.d y, (freezeAll H (handles x)).take cf.keep) else none
    | none => none
  | _ => match own1 H 0 x with
    | some (y, ids) => if distinct ids then match arrsAt H ids with
      | some bs => some (y, bs)
      | none => none else none
    | none => none

def castOwnL {A : Type} (P : Program) (H' : Heap) (n : Nat) : (j : Nat) → List TypeId → List AVal → Nat → (List AVal → List ABlk → Option A) → Option A
  | _, [], _, _, f => f [] []
  | j, t :: ts, xs, i, f => onCellA xs i fun x => castOwn1 P H' n j t x fun y bs => castOwnL P H' n (j + bs.length) ts xs (i + 1) fun ys bs' => f (y :: ys) (bs ++ bs')

def castOwn {A : Type} (P : Program) (t : TypeId) (x : AVal) (H' : Heap) (n : Nat) (f : AVal → List ABlk → Option A) : Option A :=
  match aggTy P t with
  | some true => onAggA (leafTys P 9 t).length x fun cs => castOwnL P H' n 0 (leafTys P 9 t) cs 0 fun ys bs => f (.agg ys) bs
  | some false => castOwn1 P H' n 0 t x f
  | none => none

section step
variable {A : Type}

/-- An operation's guard: whether it is wanted; the slot that it asks is known from there on. -/
def guardK (ops : Array Oper) (o : Oper) (tm : Tm) (f : Bool → Tm → Option A) : Option A :=
  match o.guard with
  | none => f true tm
  | some (j, want) => match ops[j]? with
    | some oj => match oj.dst with
      | some s => match get tm s with
        | .d (.v (.bool t)) => if t = true then f want ((s, b true) :: tm) else f (!want) ((s, b false) :: tm)
        | .tup [] => f false tm
        | _ => none
      | none => none
    | none => none

/- A region whose order is open: the operations one by one, as they stand; the blocks that each touches are noted: two that may come up in either order must not touch one, unless both read. -/
structure Fp where
  rd : List Nat
  wr : List Nat

def Plan.fp : Plan → Fp
  | .rd ids _ => ⟨ids, []⟩
  | .wrs ids _ => ⟨[], ids⟩
  | .fz ids _ => ⟨ids, []⟩
  | .new nid ids _ => ⟨ids, [nid]⟩
  | .fail => ⟨[], []⟩

def apartFp (x y : Fp) : Bool :=
  x.wr.all (fun i => !y.rd.contains i && !y.wr.contains i) && y.wr.all fun i => !x.rd.contains i

/-- Every edge leads to an operation that stands ahead. -/
def okEdges : List Oper → Nat → Bool
  | [], _ => true
  | o :: os, i => o.after.toList.all (fun e => !Region.binds .any e || Nat.blt e.on i) && okEdges os (i + 1)

def apartTmp (ops : Array Oper) (x y : Oper) : Bool := x.apart ops y

def drawOps (P : Program) (X : Orc) (cf : Cf) (ops : Array Oper) (bef : Array Nat) (n nid : Nat) : List (Nat × Oper) → List (Nat × Oper × Fp) → Tm → Heap → (Tm → Heap → Option A) → Option A
  | [], _, tm, H, f => f tm H
  | (i, o) :: rest, done, tm, H, f =>
    guardK ops o tm fun want tm' =>
      if want = true then
        let pl := planOf P X cf ops o (ev tm') (nid + i)
        if done.all fun p => (bef.getD i 0).testBit p.1 || (apartTmp ops p.2.1 o && apartFp p.2.2 pl.fp) then
          pl.run H fun v H' => match putDst o n v tm' with
            | some tm2 => drawOps P X cf ops bef n nid rest ((i, o, pl.fp) :: done) tm2 H' f
            | none => none
        else none
      else
        if done.all fun p => (bef.getD i 0).testBit p.1 || apartTmp ops p.2.1 o then
          match putDst o n (.tup []) tm' with
            | some tm2 => drawOps P X cf ops bef n nid rest ((i, o, ⟨[], []⟩) :: done) tm2 H f
            | none => none
        else none

/-- A region whose last operation waits for all others, and is a call that is gone through here: it stands apart. -/
def peelB (cf : Cf) (ops : List Oper) (bef : Array Nat) : Bool :=
  match ops.getLast? with
  | some o => match o.op with
    | .call c => match c.callee with
      | .value (.func g) => (Nat.beq (cf.mode g) 1 || Nat.beq (cf.mode g) 2) && (List.range (ops.length - 1)).all fun p => (bef.getD (ops.length - 1) 0).testBit p
      | _ => false
    | _ => false
  | none => false

def endK (P : Program) (cf : Cf) (c : Cfg) (k : Cfg → Option Res) : Option Res :=
  match resultsA P c.H c.fr.tm c.fr.f.results.toList with
  | some vs =>
    match c.cs with
    | [] => finK cf (oneOf vs) c.H
    | r :: cs => match r.todo with
      | .inRegion ops (i :: rest) :: t => match ops[i]? with
        | some o => match putDst o r.f.ntmps (oneOf vs) r.tm with
          | some tm => k { fr := { r with tm := tm, todo := .inRegion ops rest :: t }, cs := cs, H := c.H }
          | none => none
        | none => none
      | _ => none
  | none => none

/-- One step; 'k': the run goes on; 'kl': it stands at a loop's head. -/
def stepK (P : Program) (X : Orc) (cf : Cf) (c : Cfg) (k kl : Cfg → Option Res) : Option Res :=
  let to (t : List Item) : Cfg := { c with fr := { c.fr with todo := t } }
  match c.fr.todo with
  | [] => endK P cf c k
  | .code .ret :: _ => endK P cf c k
  | .code .skip :: t => k (to t)
  | .code (.label _) :: t => k (to t)
  | .inBlock _ :: t => k (to t)
  | .inScope _ :: t => k (to t)
  | .code (.seq x y) :: t => k (to (.code x :: .code y :: t))
  | .code (.cond o x y) :: t => match o, ev c.fr.tm o with
    | .tmp s, .d (.v (.bool v)) =>
      if v = true then k { c with fr := { c.fr with tm := (s, b true) :: c.fr.tm, todo := .code x :: t } }
      else k { c with fr := { c.fr with tm := (s, b false) :: c.fr.tm, todo := .code y :: t } }
    | _, .d (.v (.bool v)) => if v = true then k (to (.code x :: t)) else k (to (.code y :: t))
    | _, _ => none
  | .code (.block id x) :: t => k (to (.code x :: .inBlock id :: t))
  | .code (.scope x) :: t => k (to (.code x :: .inScope x :: t))
  | .code (.exit id) :: t => match exitTo id t with
    | some t' => k (to t')
    | none => none
  | .code (.goto l) :: t => match gotoIn l t with
    | some t' => k (to t')
    | none => none
  | .code (.loop x) :: t => match firstRegion x with
    | some key => match findLA cf.loops c.fr.fid key with
      | some la => match canon la (to (.code x :: .inLoop x :: t)) with
        | some c' => kl c'
        | none => none
      | none => none
    | none => none
  | .inLoop x :: t => match firstRegion x with
    | some key => match findLA cf.loops c.fr.fid key with
      | some la => match canon la (to (.code x :: .inLoop x :: t)) with
        | some c' => kl c'
        | none => none
      | none => none
    | none => none
  | .code (.region id ops false) :: t => match findLA cf.joins c.fr.fid id with
    | some la => match canon la (to (.inRegion ops (List.range ops.size) :: t)) with
      | some c' => kl c'
      | none => none
    | none => k (to (.inRegion ops (List.range ops.size) :: t))
  | .code (.region _ ops true) :: t =>
    if okEdges ops.toList 0 then
      if peelB cf ops.toList (Region.before ops) = true then drawOps P X cf ops (Region.before ops) c.fr.f.ntmps c.H.length ((ops.toList.zipIdx.map fun p => (p.2, p.1)).take (ops.size - 1)) [] c.fr.tm (c.H ++ List.replicate ops.size .gone) fun tm H =>
        k { c with fr := { c.fr with tm := tm, todo := .inRegion ops [ops.size - 1] :: t }, H := H }
      else drawOps P X cf ops (Region.before ops) c.fr.f.ntmps c.H.length (ops.toList.zipIdx.map fun p => (p.2, p.1)) [] c.fr.tm (c.H ++ List.replicate ops.size .gone) fun tm H =>
        k { c with fr := { c.fr with tm := tm, todo := t }, H := H }
    else none
  | .inRegion _ [] :: t => k (to t)
  | .inRegion ops (i :: rest) :: t => match ops[i]? with
    | none => k (to (.inRegion ops rest :: t))
    | some o => guardK ops o c.fr.tm fun want tm =>
      if want = true then
        let plain : Option Res := (planOf P X cf ops o (ev tm) c.H.length).run c.H fun v H' => match putDst o c.fr.f.ntmps v tm with
          | some tm2 => k { c with fr := { c.fr with tm := tm2, todo := .inRegion ops rest :: t }, H := H' }
          | none => none
        match o.op with
        | .call cl => match cl.callee with
          | .value f => match ev tm f with
            | .fn (.func g) caps => match P.funcs[g]? with
              | some fn => match fn.body with
                | some body => if fn.name = "runtime.NumGoroutine" then none else match cf.mode g with
                  | 1 => k { fr := ⟨g, fn, enterTm (cl.args.toList.map (ev tm) ++ caps) 0, [.code body]⟩, cs := ⟨c.fr.fid, c.fr.f, tm, .inRegion ops (i :: rest) :: t⟩ :: c.cs, H := c.H }
                  | 2 => match toDL (viewAt c.H) (cl.args.toList.map (ev tm) ++ caps), fn.resultTypes.toList with
                    | some ds, [rt] =>
                      castArgs P fn ds fun as => onOwn (X g as []) fun x H' => castOwn P rt x H' c.H.length fun v bs => match putDst o c.fr.f.ntmps v tm with
                        | some tm2 => if (cl.args.toList.map (ev tm) ++ caps).all (fun a => (handles a).isEmpty) then k { c with fr := { c.fr with tm := tm2, todo := .inRegion ops rest :: t }, H := c.H ++ bs } else none
                        | none => none
                    | _, _ => none
                  | _ => plain
                | none => plain
              | none => none
            | _ => none
          | _ => plain
        | _ => plain
      else match putDst o c.fr.f.ntmps (.tup []) tm with
        | some tm2 => k { c with fr := { c.fr with tm := tm2, todo := .inRegion ops rest :: t } }
        | none => none
  | _ => none

def seg (P : Program) (X : Orc) (cf : Cf) : Nat → Cfg → (Cfg → Option Res) → Option Res
  | 0, _, _ => none
  | n + 1, c, kl => stepK P X cf c (fun c' => seg P X cf n c' kl) kl

/-- So many rounds of loops. -/
def run (P : Program) (X : Orc) (cf : Cf) : Nat → Cfg → Option Res
  | 0, _ => none
  | k + 1, c => seg P X cf 100000 c (run P X cf k)

/-- What is to be done at the head of a loop. -/
def findLoop (key : Nat) : Code → List Item → Option (List Item)
  | .seq a b, t => match findLoop key a (.code b :: t) with
    | some r => some r
    | none => findLoop key b t
  | .block id c, t => findLoop key c (.inBlock id :: t)
  | .scope c, t => findLoop key c (.inScope c :: t)
  | .cond _ a b, t => match findLoop key a t with
    | some r => some r
    | none => findLoop key b t
  | .loop c, t => match firstRegion c with
    | some n => bif Nat.beq n key then some (.code c :: .inLoop c :: t) else findLoop key c (.inLoop c :: t)
    | none => none
  | _, _ => none

/-- What is to be done from a region on. -/
def findJoin (key : Nat) : Code → List Item → Option (List Item)
  | .region id ops _, t => bif Nat.beq id key then some (.inRegion ops (List.range ops.size) :: t) else none
  | .seq a b, t => match findJoin key a (.code b :: t) with
    | some r => some r
    | none => findJoin key b t
  | .block id c, t => findJoin key c (.inBlock id :: t)
  | .scope c, t => findJoin key c (.inScope c :: t)
  | .cond _ a b, t => match findJoin key a t with
    | some r => some r
    | none => findJoin key b t
  | .loop c, t => findJoin key c (.inLoop c :: t)
  | _, _ => none

def joinTodo (f : Func) (key : Nat) : List Item :=
  match f.body with
  | some c => (findJoin key c []).getD []
  | none => []

/-- What a caller is to do from the i-th operation of a region on. -/
def callTodo (f : Func) (key i : Nat) : List Item :=
  match joinTodo f key with
  | .inRegion ops l :: t => .inRegion ops (l.drop i) :: t
  | t => t

/-- The run from a region on. -/
def joinAt (P : Program) (X : Orc) (cf : Cf) (k g : Nat) (f : Func) (key : Nat) (tm : Tm) (cs : List Frm) (H : Heap) : Option Res :=
  run P X cf k ⟨⟨g, f, tm, joinTodo f key⟩, cs, H⟩

def loopTodo (f : Func) (key : Nat) : List Item :=
  match f.body with
  | some c => (findLoop key c []).getD []
  | none => []

/-- The run from a loop's head. -/
def loopAt (P : Program) (X : Orc) (cf : Cf) (k g : Nat) (f : Func) (key : Nat) (tm : Tm) (cs : List Frm) (H : Heap) : Option Res :=
  run P X cf k ⟨⟨g, f, tm, loopTodo f key⟩, cs, H⟩

def start (g : FuncId) (fn : Func) (body : Code) (args : List AVal) (H : Heap) : Cfg := ⟨⟨g, fn, enterTm args 0, [.code body]⟩, [], H⟩

def runF (P : Program) (X : Orc) (cf : Cf) (k : Nat) (g : FuncId) (args : List AVal) (H : Heap) : Option Res :=
  match P.funcs[g]? with
  | some fn => match fn.body with
    | some body => run P X cf k (start g fn body args H)
    | none => none
  | none => none
end step
end Go.Eng

namespace Go.Eng
open Go

/-- Cells that are never written again, and what they hold. -/
abbrev KMap := Nat → Nat → Option Value

def KLe (K K' : KMap) : Prop := ∀ b o v, K b o = some v → K' b o = some v
theorem KLe.refl (K : KMap) : KLe K K := fun _ _ _ h => h
theorem KLe.trans {K K' K'' : KMap} (h : KLe K K') (h' : KLe K' K'') : KLe K K'' := fun b o v e => h' b o v (h b o v e)

mutual
inductive V (K : KMap) : DVal → Value → Prop
  | v (x : Value) : leafV x = true → V K (.v x) x
  | nil (fl sz cap : Nat) : fl ≠ 0 → V K (.sl fl sz []) (.slice none 0 cap)
  | emp (fl sz : Nat) (a : Addr) (cap : Nat) : fl ≠ 2 → V K (.sl fl sz []) (.slice (some a) 0 cap)
  | sl (fl sz : Nat) (rows : Rows) (bl o cap : Nat) : fl ≠ 2 → rows.length ≤ cap → Rws K (K bl) sz o rows → V K (.sl fl sz rows) (.slice (some ⟨bl, o, none⟩) rows.length cap)
  | rp (row : List DVal) (off bl o : Nat) : Cells K (K bl) o (row.drop off) → V K (.rp row off) (.pointer (some ⟨bl, o, none⟩))
  | agg (cs : List DVal) (vs : List Value) : Vs K cs vs → V K (.agg cs) (.agg ⟨vs⟩)
  | tup (cs : List DVal) (vs : List Value) : Vs K cs vs → V K (.tup cs) (.tuple ⟨vs⟩)
  | fn (f : Fn) (cs : List DVal) (vs : List Value) : Vs K cs vs → V K (.fn f cs) (.func f #[] ⟨vs⟩)
  | ifc (t : TypeId) (x : DVal) (v : Value) : V K x v → V K (.ifc t x) (.iface t v)
inductive Vs (K : KMap) : List DVal → List Value → Prop
  | nil : Vs K [] []
  | cons {x : DVal} {v : Value} {xs : List DVal} {vs : List Value} : V K x v → Vs K xs vs → Vs K (x :: xs) (v :: vs)
inductive Cells (K : KMap) : (Nat → Option Value) → Nat → List DVal → Prop
  | nil (g : Nat → Option Value) (o : Nat) : Cells K g o []
  | cons {g : Nat → Option Value} {o : Nat} {u : Value} {x : DVal} {xs : List DVal} : g o = some u → leafV u = true → V K x u → Cells K g (o + 1) xs → Cells K g o (x :: xs)
inductive Rws (K : KMap) : (Nat → Option Value) → Nat → Nat → Rows → Prop
  | nil (g : Nat → Option Value) (sz o : Nat) : Rws K g sz o []
  | cons {g : Nat → Option Value} {sz o : Nat} {row : List DVal} {rows : Rows} : row.length = sz → Cells K g o row → Rws K g sz (o + sz) rows → Rws K g sz o (row :: rows)
end

mutual
theorem V.mono {K K' : KMap} (h : KLe K K') : ∀ {x : DVal} {v : Value}, V K x v → V K' x v
  | _, _, .v x hx => .v x hx
  | _, _, .nil fl sz cap hf => .nil fl sz cap hf
  | _, _, .emp fl sz a cap hf => .emp fl sz a cap hf
  | _, _, .sl fl sz rows bl o cap hf hc hr => .sl fl sz rows bl o cap hf hc (Rws.mono h (h bl) hr)
  | _, _, .rp row off bl o hc => .rp row off bl o (Cells.mono h (h bl) hc)
  | _, _, .agg cs vs hv => .agg cs vs (Vs.mono h hv)
  | _, _, .tup cs vs hv => .tup cs vs (Vs.mono h hv)
  | _, _, .fn f cs vs hv => .fn f cs vs (Vs.mono h hv)
  | _, _, .ifc t x v hv => .ifc t x v (V.mono h hv)
theorem Vs.mono {K K' : KMap} (h : KLe K K') : ∀ {x : List DVal} {v : List Value}, Vs K x v → Vs K' x v
  | _, _, .nil => .nil
  | _, _, .cons hx hr => .cons (V.mono h hx) (Vs.mono h hr)
theorem Cells.mono {K K' : KMap} (h : KLe K K') {g g' : Nat → Option Value} (hg : ∀ o v, g o = some v → g' o = some v) : ∀ {o : Nat} {xs : List DVal}, Cells K g o xs → Cells K' g' o xs
  | _, _, .nil _ o => .nil _ o
  | _, _, .cons hu hl hv hr => .cons (hg _ _ hu) hl (V.mono h hv) (Cells.mono h hg hr)
theorem Rws.mono {K K' : KMap} (h : KLe K K') {g g' : Nat → Option Value} (hg : ∀ o v, g o = some v → g' o = some v) : ∀ {sz o : Nat} {xs : Rows}, Rws K g sz o xs → Rws K' g' sz o xs
  | _, _, _, .nil _ sz o => .nil _ sz o
  | _, _, _, .cons hl hc hr => .cons hl (Cells.mono h hg hc) (Rws.mono h hg hr)
end

variable {K : KMap}

theorem Vs.length {xs : List DVal} {vs : List Value} (h : Vs K xs vs) : vs.length = xs.length := by
  induction xs generalizing vs with
  | nil => cases h; rfl
  | cons x xs ih => cases h with | cons _ hr => simp [ih hr]
theorem Vs.get {xs : List DVal} {vs : List Value} (h : Vs K xs vs) {i : Nat} {x : DVal} (hi : xs[i]? = some x) : ∃ v, vs[i]? = some v ∧ V K x v := by
  induction xs generalizing vs i with
  | nil => simp at hi
  | cons y xs ih => cases h with
    | cons hv hr => cases i with
      | zero => simp at hi; subst hi; exact ⟨_, rfl, hv⟩
      | succ i => simpa using ih hr (by simpa using hi)
theorem Vs.append {xs ys : List DVal} {vs us : List Value} (h : Vs K xs vs) (h' : Vs K ys us) : Vs K (xs ++ ys) (vs ++ us) := by
  induction xs generalizing vs with
  | nil => cases h; exact h'
  | cons x xs ih => cases h with | cons hv hr => exact .cons hv (ih hr)

theorem Cells.get {g : Nat → Option Value} {o : Nat} {xs : List DVal} (h : Cells K g o xs) {i : Nat} {x : DVal} (hi : xs[i]? = some x) :
    ∃ u, g (o + i) = some u ∧ leafV u = true ∧ V K x u := by
  induction xs generalizing o i with
  | nil => simp at hi
  | cons y xs ih => cases h with
    | cons hg hl hv hr => cases i with
      | zero => simp at hi; subst hi; exact ⟨_, hg, hl, hv⟩
      | succ i =>
        obtain ⟨u, h1, h2⟩ := ih hr (by simpa using hi)
        exact ⟨u, by rw [← h1]; congr 1; omega, h2⟩
theorem Cells.of {g : Nat → Option Value} {o : Nat} {xs : List DVal} (h : ∀ i x, xs[i]? = some x → ∃ u, g (o + i) = some u ∧ leafV u = true ∧ V K x u) : Cells K g o xs := by
  induction xs generalizing o with
  | nil => exact .nil _ _
  | cons y xs ih =>
    obtain ⟨u, h1, h2, h3⟩ := h 0 y rfl
    exact .cons h1 h2 h3 (ih fun i x hi => by
      obtain ⟨u, h1, h2⟩ := h (i + 1) x (by simpa using hi)
      exact ⟨u, by rw [← h1]; congr 1; omega, h2⟩)
theorem Cells.shift {g g' : Nat → Option Value} {o o' : Nat} {xs : List DVal} (h : Cells K g o xs) (hg : ∀ i, i < xs.length → g (o + i) = g' (o' + i)) : Cells K g' o' xs :=
  .of fun i x hi => by
    obtain ⟨u, h1, h2⟩ := h.get hi
    exact ⟨u, by rw [← hg i (List.getElem?_eq_some_iff.1 hi).1]; exact h1, h2⟩
theorem Cells.drop {g : Nat → Option Value} {o : Nat} {xs : List DVal} (h : Cells K g o xs) (n : Nat) : Cells K g (o + n) (xs.drop n) :=
  .of fun i x hi => by
    obtain ⟨u, h1, h2⟩ := h.get (i := n + i) (by simpa using hi)
    exact ⟨u, by rw [← h1]; congr 1; omega, h2⟩
theorem Cells.vals {g : Nat → Option Value} {o : Nat} {xs : List DVal} (h : Cells K g o xs) : ∃ us, Vs K xs us ∧ (∀ i u, us[i]? = some u → g (o + i) = some u ∧ leafV u = true) := by
  induction xs generalizing o with
  | nil => exact ⟨[], .nil, by simp⟩
  | cons x xs ih => cases h with
    | cons hg hl hv hr =>
      rename_i u
      obtain ⟨us, h1, h2⟩ := ih hr
      refine ⟨u :: us, .cons hv h1, fun i v hi => ?_⟩
      cases i with
      | zero => simp at hi; subst hi; exact ⟨hg, hl⟩
      | succ i => have := h2 i v (by simpa using hi); exact ⟨by rw [← this.1]; congr 1; omega, this.2⟩

theorem Rws.get {g : Nat → Option Value} {sz o : Nat} {rows : Rows} (h : Rws K g sz o rows) {i : Nat} {row : List DVal} (hi : rows[i]? = some row) :
    row.length = sz ∧ Cells K g (o + i * sz) row := by
  induction rows generalizing o i with
  | nil => simp at hi
  | cons r rows ih => cases h with
    | cons hl hc hr => cases i with
      | zero => simp at hi; subst hi; exact ⟨hl, by simpa using hc⟩
      | succ i =>
        obtain ⟨h1, h2⟩ := ih hr (by simpa using hi)
        exact ⟨h1, by rw [show o + (i + 1) * sz = o + sz + i * sz by rw [Nat.succ_mul]; omega]; exact h2⟩
theorem Rws.of {g : Nat → Option Value} {sz o : Nat} {rows : Rows} (h : ∀ i row, rows[i]? = some row → row.length = sz ∧ Cells K g (o + i * sz) row) : Rws K g sz o rows := by
  induction rows generalizing o with
  | nil => exact .nil _ _ _
  | cons r rows ih =>
    obtain ⟨h1, h2⟩ := h 0 r rfl
    refine .cons h1 (by simpa using h2) (ih fun i row hi => ?_)
    obtain ⟨h1, h2⟩ := h (i + 1) row (by simpa using hi)
    exact ⟨h1, by rw [show o + sz + i * sz = o + (i + 1) * sz by rw [Nat.succ_mul]; omega]; exact h2⟩
theorem Rws.take {g : Nat → Option Value} {sz o : Nat} {rows : Rows} (h : Rws K g sz o rows) (n : Nat) : Rws K g sz o (rows.take n) :=
  .of fun i row hi => h.get (by
    rw [List.getElem?_take] at hi; split at hi
    · exact hi
    · simp at hi)
theorem Rws.drop {g : Nat → Option Value} {sz o : Nat} {rows : Rows} (h : Rws K g sz o rows) (n : Nat) : Rws K g sz (o + n * sz) (rows.drop n) :=
  .of fun i row hi => by
    obtain ⟨h1, h2⟩ := h.get (i := n + i) (by simpa using hi)
    exact ⟨h1, by rw [show o + n * sz + i * sz = o + (n + i) * sz by rw [Nat.add_mul]; omega]; exact h2⟩
theorem Rws.append {g : Nat → Option Value} {sz o : Nat} {rows rows' : Rows} (h : Rws K g sz o rows) (h' : Rws K g sz (o + rows.length * sz) rows') : Rws K g sz o (rows ++ rows') :=
  .of fun i row hi => by
    rw [List.getElem?_append] at hi
    split at hi
    · exact h.get hi
    · rename_i hlt
      obtain ⟨h1, h2⟩ := h'.get hi
      exact ⟨h1, by rw [show o + rows.length * sz + (i - rows.length) * sz = o + i * sz by rw [Nat.add_assoc, ← Nat.add_mul]; congr 2; omega] at h2; exact h2⟩
theorem Rws.shift {g g' : Nat → Option Value} {sz o o' : Nat} {rows : Rows} (h : Rws K g sz o rows) (hg : ∀ i, i < rows.length * sz → g (o + i) = g' (o' + i)) : Rws K g' sz o' rows :=
  .of fun i row hi => by
    obtain ⟨h1, h2⟩ := h.get hi
    refine ⟨h1, h2.shift fun j hj => ?_⟩
    have hi' := (List.getElem?_eq_some_iff.1 hi).1
    have : (i + 1) * sz ≤ rows.length * sz := Nat.mul_le_mul_right _ hi'
    rw [Nat.succ_mul] at this
    have := hg (i * sz + j) (by omega)
    rw [Nat.add_assoc, this, Nat.add_assoc]

/- Values that may point into the abstract heap. 'β': a block's number in memory; 'κ': a growing array's capacity. -/
def curOf (H : Heap) (id : Nat) : Option (Nat × Nat × Nat) :=
  match H[id]? with
  | some (.arr sz rows) => some (sz, 0, rows.length)
  | some (.vec sz ver rows) => some (sz, ver, rows.length)
  | some (.frz sz ver rows) => some (sz, ver, rows.length)
  | _ => none

def isCel (H : Heap) (id : Nat) : Prop := ∃ cs, H[id]? = some (.cel cs)

def SlF (bl o len : Nat) (v : Value) : Prop := ∃ a cap, v = .slice a len cap ∧ len ≤ cap ∧ (len ≠ 0 → a = some ⟨bl, o, none⟩)
def VecF (bl n cap : Nat) (v : Value) : Prop := (n = 0 ∧ ∃ a, v = .slice a 0 0) ∨ (n ≠ 0 ∧ v = .slice (some ⟨bl, 0, none⟩) n cap)

mutual
inductive RA (K : KMap) (β κ : Nat → Nat) (H : Heap) : AVal → Value → Prop
  | junk (v : Value) : RA K β κ H .junk v
  | d {x : DVal} {v : Value} : V K x v → RA K β κ H (.d x) v
  | ptr {id off : Nat} : isCel H id → RA K β κ H (.ptr id off) (.pointer (some ⟨β id, off, none⟩))
  | ep {id ver i off sz cv n bl o : Nat} : curOf H id = some (sz, cv, n) → ver ≤ cv → (ver = cv → bl = β id ∧ o = i * sz + off) → RA K β κ H (.ep id ver i off) (.pointer (some ⟨bl, o, none⟩))
  | hs {id ver off len sz cv n bl o : Nat} {v : Value} : curOf H id = some (sz, cv, n) → ver ≤ cv → SlF bl o len v → (ver = cv → off + len ≤ n ∧ (len ≠ 0 → bl = β id ∧ o = off * sz)) → RA K β κ H (.hs id ver sz off len) v
  | vh {id ver len sz cv n bl : Nat} {v : Value} : curOf H id = some (sz, cv, n) → ver ≤ cv → SlF bl 0 len v → (ver = cv → len = n ∧ VecF (β id) n (κ id) v) → RA K β κ H (.vh id ver sz len) v
  | agg {cs : List AVal} {vs : List Value} : RAs K β κ H cs vs → RA K β κ H (.agg cs) (.agg ⟨vs⟩)
  | tup {cs : List AVal} {vs : List Value} : RAs K β κ H cs vs → RA K β κ H (.tup cs) (.tuple ⟨vs⟩)
  | fn {f : Fn} {cs : List AVal} {vs : List Value} : RAs K β κ H cs vs → RA K β κ H (.fn f cs) (.func f #[] ⟨vs⟩)
inductive RAs (K : KMap) (β κ : Nat → Nat) (H : Heap) : List AVal → List Value → Prop
  | nil : RAs K β κ H [] []
  | cons {x : AVal} {v : Value} {xs : List AVal} {vs : List Value} : RA K β κ H x v → RAs K β κ H xs vs → RAs K β κ H (x :: xs) (v :: vs)
end

/-- What may change without a value's meaning another thing: versions only rise. -/
structure Ext (K : KMap) (β κ : Nat → Nat) (H : Heap) (K' : KMap) (β' κ' : Nat → Nat) (H' : Heap) : Prop where
  kle : KLe K K'
  cel : ∀ id, isCel H id → isCel H' id ∧ β' id = β id
  cur : ∀ id sz cv n, curOf H id = some (sz, cv, n) → ∃ cv' n', curOf H' id = some (sz, cv', n') ∧ ((cv' = cv ∧ n' = n ∧ β' id = β id ∧ κ' id = κ id) ∨ cv < cv')
  kd : ∀ (id : Nat) (x : ABlk) (sz : Nat) (rows' : Rows), H[id]? = some x → H'[id]? = some (ABlk.arr sz rows') → x = ABlk.gone ∨ ∃ rows, x = ABlk.arr sz rows

theorem Ext.refl (K : KMap) (β κ : Nat → Nat) (H : Heap) : Ext K β κ H K β κ H :=
  ⟨.refl _, fun _ h => ⟨h, rfl⟩, fun _ _ cv n h => ⟨cv, n, h, .inl ⟨rfl, rfl, rfl, rfl⟩⟩, fun _ _ _ rows h h' => .inr ⟨rows, by rw [h] at h'; injection h'⟩⟩

theorem Ext.trans {K K' K'' : KMap} {β κ β' κ' β'' κ'' : Nat → Nat} {H H' H'' : Heap} (h : Ext K β κ H K' β' κ' H') (h' : Ext K' β' κ' H' K'' β'' κ'' H'') : Ext K β κ H K'' β'' κ'' H'' := by
  refine ⟨h.kle.trans h'.kle, fun id hc => ?_, fun id sz cv n hc => ?_, fun id x sz rows' hx hx' => ?_⟩
  · obtain ⟨h1, h2⟩ := h.cel id hc
    obtain ⟨h3, h4⟩ := h'.cel id h1
    exact ⟨h3, h4.trans h2⟩
  · obtain ⟨cv1, n1, h1, h2⟩ := h.cur id sz cv n hc
    obtain ⟨cv2, n2, h3, h4⟩ := h'.cur id sz cv1 n1 h1
    refine ⟨cv2, n2, h3, ?_⟩
    rcases h2 with ⟨rfl, rfl, a, b⟩ | h2
    · rcases h4 with ⟨rfl, rfl, c, d⟩ | h4
      · exact .inl ⟨rfl, rfl, c.trans a, d.trans b⟩
      · exact .inr h4
    · rcases h4 with ⟨rfl, _, _, _⟩ | h4
      · exact .inr h2
      · exact .inr (by omega)
  · have there : ∀ sz cv m, curOf H id = some (sz, cv, m) → H'[id]? ≠ none ∧ H'[id]? ≠ some ABlk.gone := by
      intro sz cv m hc
      obtain ⟨cv', n', h1, _⟩ := h.cur id sz cv m hc
      exact ⟨fun e => by simp [curOf, e] at h1, fun e => by simp [curOf, e] at h1⟩
    have hx1 : x = ABlk.gone ∨ (H'[id]? ≠ none ∧ H'[id]? ≠ some ABlk.gone) := by
      cases x with
      | gone => exact .inl rfl
      | cel cs => obtain ⟨⟨cs', hc'⟩, _⟩ := h.cel id ⟨cs, hx⟩; exact .inr ⟨by rw [hc']; simp, by rw [hc']; simp⟩
      | arr sz rows => exact .inr (there sz 0 rows.length (by simp [curOf, hx]))
      | vec sz v rows => exact .inr (there sz v rows.length (by simp [curOf, hx]))
      | frz sz v rows => exact .inr (there sz v rows.length (by simp [curOf, hx]))
    rcases hx1 with hx1 | ⟨h1, h2⟩
    · exact .inl hx1
    · cases hm : H'[id]? with
      | none => exact absurd hm h1
      | some y =>
        rcases h'.kd id y sz rows' hm hx' with rfl | ⟨rows, rfl⟩
        · exact absurd hm h2
        · exact h.kd id x sz rows hx hm

mutual
theorem RA.mono {K K' : KMap} {β κ β' κ' : Nat → Nat} {H H' : Heap} (h : Ext K β κ H K' β' κ' H') : ∀ {x : AVal} {v : Value}, RA K β κ H x v → RA K' β' κ' H' x v
  | _, _, .junk v => .junk v
  | _, _, .d hv => .d (hv.mono h.kle)
  | _, _, .ptr (id := id) hc => by
    obtain ⟨h1, h2⟩ := h.cel id hc
    rw [← h2]; exact .ptr h1
  | _, _, .ep (id := id) hc hv hf => by
    obtain ⟨cv', n', h1, h2⟩ := h.cur id _ _ _ hc
    refine .ep h1 (by omega) fun e => ?_
    rcases h2 with ⟨rfl, _, hb, _⟩ | h2
    · rw [hb]; exact hf e
    · omega
  | _, _, .hs (id := id) hc hv hl hf => by
    obtain ⟨cv', n', h1, h2⟩ := h.cur id _ _ _ hc
    refine .hs h1 (by omega) hl fun e => ?_
    rcases h2 with ⟨rfl, rfl, hb, _⟩ | h2
    · rw [hb]; exact hf e
    · omega
  | _, _, .vh (id := id) hc hv hl hf => by
    obtain ⟨cv', n', h1, h2⟩ := h.cur id _ _ _ hc
    refine .vh h1 (by omega) hl fun e => ?_
    rcases h2 with ⟨rfl, rfl, hb, hk⟩ | h2
    · rw [hb, hk]; exact hf e
    · omega
  | _, _, .agg hs => .agg (RAs.mono h hs)
  | _, _, .tup hs => .tup (RAs.mono h hs)
  | _, _, .fn hs => .fn (RAs.mono h hs)
theorem RAs.mono {K K' : KMap} {β κ β' κ' : Nat → Nat} {H H' : Heap} (h : Ext K β κ H K' β' κ' H') : ∀ {x : List AVal} {v : List Value}, RAs K β κ H x v → RAs K' β' κ' H' x v
  | _, _, .nil => .nil
  | _, _, .cons hx hr => .cons (RA.mono h hx) (RAs.mono h hr)
end

section ra
variable {β κ : Nat → Nat} {H : Heap}
theorem RAs.length {xs : List AVal} {vs : List Value} (h : RAs K β κ H xs vs) : vs.length = xs.length := by
  induction xs generalizing vs with
  | nil => cases h; rfl
  | cons x xs ih => cases h with | cons _ hr => simp [ih hr]
theorem RAs.get {xs : List AVal} {vs : List Value} (h : RAs K β κ H xs vs) {i : Nat} {x : AVal} (hi : xs[i]? = some x) : ∃ v, vs[i]? = some v ∧ RA K β κ H x v := by
  induction xs generalizing vs i with
  | nil => simp at hi
  | cons y xs ih => cases h with
    | cons hv hr => cases i with
      | zero => simp at hi; subst hi; exact ⟨_, rfl, hv⟩
      | succ i => simpa using ih hr (by simpa using hi)
theorem RAs.append {xs ys : List AVal} {vs us : List Value} (h : RAs K β κ H xs vs) (h' : RAs K β κ H ys us) : RAs K β κ H (xs ++ ys) (vs ++ us) := by
  induction xs generalizing vs with
  | nil => cases h; exact h'
  | cons x xs ih => cases h with | cons hv hr => exact .cons hv (ih hr)
theorem RAs.take {xs : List AVal} {vs : List Value} (h : RAs K β κ H xs vs) (n : Nat) : RAs K β κ H (xs.take n) (vs.take n) := by
  induction n generalizing xs vs with
  | zero => exact .nil
  | succ n ih => cases h with
    | nil => exact .nil
    | cons hv hr => exact .cons hv (ih hr)
theorem RAs.drop {xs : List AVal} {vs : List Value} (h : RAs K β κ H xs vs) (n : Nat) : RAs K β κ H (xs.drop n) (vs.drop n) := by
  induction n generalizing xs vs with
  | zero => exact h
  | succ n ih => cases h with
    | nil => exact .nil
    | cons hv hr => exact ih hr
theorem RAs.ofVs {xs : List DVal} {vs : List Value} (h : Vs K xs vs) : RAs K β κ H (xs.map .d) vs := by
  induction xs generalizing vs with
  | nil => cases h; exact .nil
  | cons x xs ih => cases h with | cons hv hr => exact .cons (.d hv) (ih hr)
end ra

/-- A block of the abstract heap, and the memory that holds it. -/
def Held (w : World) (bl : Nat) (vs : List Value) : Prop := ∃ T, w.heap[bl]? = some (.cells ⟨vs⟩ T (0, 0))

def BRel (K : KMap) (β κ : Nat → Nat) (H : Heap) (w : World) (id : Nat) : ABlk → Prop
  | .gone => True
  | .cel cs => ∃ vs, Held w (β id) vs ∧ RAs K β κ H cs vs ∧ (∀ v ∈ vs, leafV v = true) ∧ ∀ o, K (β id) o = none
  | .arr sz rows => rows = [] ∨ ∃ vs, Held w (β id) vs ∧ Rws K (fun o => vs[o]?) sz 0 rows ∧ ∀ o, K (β id) o = none
  | .vec sz _ rows => rows = [] ∨ ∃ vs, Held w (β id) vs ∧ Rws K (fun o => vs[o]?) sz 0 rows ∧ (∀ o, K (β id) o = none) ∧ κ id * sz ≤ vs.length ∧ rows.length ≤ κ id
  | .frz sz _ rows => rows = [] ∨ Rws K (K (β id)) sz 0 rows

def owns : ABlk → Prop
  | .cel _ => True
  | .arr _ rows => rows ≠ []
  | .vec _ _ rows => rows ≠ []
  | _ => False

structure SR (Fr : Nat → Prop) (K : KMap) (β κ : Nat → Nat) (H : Heap) (w : World) : Prop where
  wk : ∀ bl o v, K bl o = some v → ∃ c T fz, w.heap[bl]? = some (.cells c T fz) ∧ c[o]? = some v
  blk : ∀ id x, H[id]? = some x → BRel K β κ H w id x
  inj : ∀ i j x y, H[i]? = some x → H[j]? = some y → owns x → owns y → β i = β j → i = j
  nfr : ∀ id x, H[id]? = some x → owns x → ¬ Fr (β id)
  frsz : ∀ bl, Fr bl → bl < w.heap.size

/-- Nothing that was there and is in 'Fr' has changed. -/
structure Keep (Fr : Nat → Prop) (w w' : World) : Prop where
  os : w'.os = w.os
  tape : w'.tape = w.tape
  output : w'.output = w.output
  size : w.heap.size ≤ w'.heap.size
  same : ∀ bl, Fr bl → w'.heap[bl]? = w.heap[bl]?
  sizes : ∀ (bl : Nat) (c : Array Value) (T : TypeId) (fz : Nat × Nat), w.heap[bl]? = some (Obj.cells c T fz) → ∃ (c' : Array Value) (T' : TypeId) (fz' : Nat × Nat), w'.heap[bl]? = some (Obj.cells c' T' fz') ∧ c'.size = c.size

theorem Keep.refl (Fr : Nat → Prop) (w : World) : Keep Fr w w := ⟨rfl, rfl, rfl, Nat.le_refl _, fun _ _ => rfl, fun _ c T fz h => ⟨c, T, fz, h, rfl⟩⟩
theorem Keep.trans {Fr : Nat → Prop} {a b c : World} (h : Keep Fr a b) (h' : Keep Fr b c) : Keep Fr a c :=
  ⟨h'.os.trans h.os, h'.tape.trans h.tape, h'.output.trans h.output, Nat.le_trans h.size h'.size, fun bl hb => (h'.same bl hb).trans (h.same bl hb), fun bl c T fz hc => by
    obtain ⟨c1, T1, f1, h1, h2⟩ := h.sizes bl c T fz hc
    obtain ⟨c2, T2, f2, h3, h4⟩ := h'.sizes bl c1 T1 f1 h1
    exact ⟨c2, T2, f2, h3, h4.trans h2⟩⟩

/-- New cells that are fixed lie outside of 'Fr'. -/
def KNew (Fr : Nat → Prop) (K K' : KMap) : Prop := ∀ bl o v, K bl o = none → K' bl o = some v → ¬ Fr bl
theorem KNew.refl (Fr : Nat → Prop) (K : KMap) : KNew Fr K K := fun _ _ _ h h' => by rw [h] at h'; cases h'
theorem KNew.trans {Fr : Nat → Prop} {K K' K'' : KMap} (h : KNew Fr K K') (hk : KLe K K') (h' : KNew Fr K' K'') : KNew Fr K K'' := fun bl o v e e' => by
  cases hK : K' bl o with
  | none => exact h' bl o v hK e'
  | some u => exact h bl o u e hK

/-- What is left of 'Ext', of the first n blocks, where versions have begun anew. -/
structure ExtA (n : Nat) (K : KMap) (β : Nat → Nat) (H : Heap) (K' : KMap) (β' : Nat → Nat) (H' : Heap) : Prop where
  kle : KLe K K'
  blk : ∀ (id : Nat) (x : ABlk), id < n → H[id]? = some x → x ≠ ABlk.gone → ∃ y : ABlk, H'[id]? = some y ∧ y ≠ ABlk.gone ∧ ∀ (sz : Nat) (rows' : Rows), y = ABlk.arr sz rows' → ∃ rows, x = ABlk.arr sz rows ∧ rows.length = rows'.length ∧ β' id = β id

theorem Ext.toA {K K' : KMap} {β κ β' κ' : Nat → Nat} {H H' : Heap} (h : Ext K β κ H K' β' κ' H') (n : Nat) : ExtA n K β H K' β' H' := by
  refine ⟨h.kle, fun id x _ hx hg => ?_⟩
  have some_of : ∀ sz cv m, curOf H id = some (sz, cv, m) → ∃ y : ABlk, H'[id]? = some y ∧ y ≠ ABlk.gone := by
    intro sz cv m hc
    obtain ⟨cv', n', h1, _⟩ := h.cur id sz cv m hc
    cases hx' : H'[id]? with
    | none => simp [curOf, hx'] at h1
    | some y => exact ⟨y, rfl, by rintro rfl; simp [curOf, hx'] at h1⟩
  have hy : ∃ y : ABlk, H'[id]? = some y ∧ y ≠ ABlk.gone := by
    cases x with
    | gone => exact absurd rfl hg
    | cel cs => obtain ⟨⟨cs', hc'⟩, _⟩ := h.cel id ⟨cs, hx⟩; exact ⟨_, hc', by simp⟩
    | arr sz rows => exact some_of sz 0 rows.length (by simp [curOf, hx])
    | vec sz v rows => exact some_of sz v rows.length (by simp [curOf, hx])
    | frz sz v rows => exact some_of sz v rows.length (by simp [curOf, hx])
  obtain ⟨y, hy, hyg⟩ := hy
  refine ⟨y, hy, hyg, fun sz rows' e => ?_⟩
  subst e
  rcases h.kd id x sz rows' hx hy with rfl | ⟨rows, rfl⟩
  · exact absurd rfl hg
  · obtain ⟨cv', n', h1, h2⟩ := h.cur id sz 0 rows.length (by simp [curOf, hx])
    simp only [curOf, hy, Option.some.injEq, Prod.mk.injEq] at h1
    obtain ⟨_, rfl, rfl⟩ := h1
    rcases h2 with ⟨_, h3, h4, _⟩ | h2
    · exact ⟨rows, rfl, h3.symm, h4⟩
    · omega

theorem ExtA.refl (n : Nat) (K : KMap) (β : Nat → Nat) (H : Heap) : ExtA n K β H K β H := (Ext.refl K β β H).toA n

theorem ExtA.trans {n : Nat} {K K' K'' : KMap} {β β' β'' : Nat → Nat} {H H' H'' : Heap} (h : ExtA n K β H K' β' H') (h' : ExtA n K' β' H' K'' β'' H'') : ExtA n K β H K'' β'' H'' := by
  refine ⟨h.kle.trans h'.kle, fun id x hn hx hg => ?_⟩
  obtain ⟨y, hy, hyg, h1⟩ := h.blk id x hn hx hg
  obtain ⟨z, hz, hzg, h2⟩ := h'.blk id y hn hy hyg
  refine ⟨z, hz, hzg, fun sz rows'' e => ?_⟩
  obtain ⟨rows', e', h3, h4⟩ := h2 sz rows'' e
  obtain ⟨rows, e'', h5, h6⟩ := h1 sz rows' e'
  exact ⟨rows, e'', h5.trans h3, h4.trans h6⟩

/-- The slots. -/
def FR (K : KMap) (β κ : Nat → Nat) (H : Heap) (tm : Tm) (tmps : Array Value) : Prop := ∀ s, RA K β κ H (get tm s) (tmps.getD s undef)

theorem FR.mono {K K' : KMap} {β κ β' κ' : Nat → Nat} {H H' : Heap} (h : Ext K β κ H K' β' κ' H') {tm : Tm} {tmps : Array Value} (hf : FR K β κ H tm tmps) : FR K' β' κ' H' tm tmps :=
  fun s => (hf s).mono h

end Go.Eng

namespace Go.Eng
open Go

variable {P : Program} {K : KMap} {β κ : Nat → Nat} {H : Heap} {w : World} {Fr : Nat → Prop}

theorem addr_add (bl off i : Nat) : (⟨bl, off, none⟩ : Addr).add i = ⟨bl, off + i, none⟩ := by
  unfold Addr.add; split
  · subst_vars; rfl
  · rfl

theorem Held.cell {bl : Nat} {vs : List Value} (h : Held w bl vs) (o : Nat) : w.cell? ⟨bl, o, none⟩ = vs[o]? := by
  obtain ⟨T, h⟩ := h
  simp [World.cell?, h]
theorem Held.frozen {bl : Nat} {vs : List Value} (h : Held w bl vs) (o : Nat) : w.frozen? ⟨bl, o, none⟩ = false := by
  obtain ⟨T, h⟩ := h
  simp [World.frozen?, h]
theorem Held.lt {bl : Nat} {vs : List Value} (h : Held w bl vs) : bl < w.heap.size := by
  obtain ⟨T, h⟩ := h
  rcases Nat.lt_or_ge bl w.heap.size with h' | h'
  · exact h'
  · simp [Array.getElem?_eq_none h'] at h
theorem Held.uniq {bl : Nat} {vs us : List Value} (h : Held w bl vs) (h' : Held w bl us) : us = vs := by
  obtain ⟨T, h⟩ := h
  obtain ⟨T', h'⟩ := h'
  rw [h] at h'; injection h' with h'; injection h' with h' _ _; simpa using h'.symm

theorem SR.cell (s : SR Fr K β κ H w) {bl o : Nat} {v : Value} (h : K bl o = some v) : w.cell? ⟨bl, o, none⟩ = some v := by
  obtain ⟨c, T, fz, h1, h2⟩ := s.wk bl o v h
  simp [World.cell?, h1, h2]

theorem leafV_one {v : Value} (h : leafV v = true) : v.oneCell' = true := by cases v <;> first | rfl | (simp [leafV] at h)
theorem leafV_cells {v : Value} (h : leafV v = true) : v.cells = #[v] := by cases v <;> first | rfl | (simp [leafV] at h)

theorem info_of_underlying {t : TypeId} {d : TypeDesc} (h : P.underlying t = some d) : ∃ i, P.info? t = some i ∧ P.cellsOf t = i.size := by
  unfold Program.underlying at h
  cases hi : P.info? t with
  | none => simp [hi] at h
  | some i => exact ⟨i, rfl, by simp [Program.cellsOf, hi]⟩

theorem run_under {t : TypeId} {d : TypeDesc} (h : P.underlying t = some d) (w : World) : (underlying t).run P w = .ok d w := by
  simp [underlying, h]
theorem run_size {t : TypeId} {i : TypeInfo} (h : P.info? t = some i) (w : World) : (sizeOf t).run P w = .ok (P.cellsOf t) w := by
  simp [sizeOf, typeInfo, h, Program.cellsOf]
theorem run_zero {t : TypeId} {i : TypeInfo} {z : Value} (h : P.info? t = some i) (hz : i.zero = some z) (w : World) : (zeroValue t).run P w = .ok z w := by
  simp [zeroValue, typeInfo, h, hz]
theorem aggTy_some {t : TypeId} {g : Bool} (h : aggTy P t = some g) : ∃ d, P.underlying t = some d ∧ (match d with | .struct _ | .array _ _ => true | _ => false) = g := by
  unfold aggTy at h
  split at h
  · rename_i fs hd; exact ⟨_, hd, by simpa using h⟩
  · rename_i n e hd; exact ⟨_, hd, by simpa using h⟩
  · rename_i d h1 h2 hd
    refine ⟨d, hd, ?_⟩
    injection h with h; subst h
    split
    · exact (h1 _ rfl).elim
    · exact (h2 _ _ rfl).elim
    · rfl
  · cases h
theorem run_aggTy {t : TypeId} {g : Bool} (h : aggTy P t = some g) (w : World) : (isAgg t).run P w = .ok g w := by
  obtain ⟨d, hd, hg⟩ := aggTy_some h
  simp only [isAgg, Sem.run_bind, run_under hd, Result.andThen_ok]
  subst hg
  cases d <;> rfl
theorem aggTy_info {t : TypeId} {g : Bool} (h : aggTy P t = some g) : ∃ i, P.info? t = some i := by
  obtain ⟨d, hd, _⟩ := aggTy_some h
  obtain ⟨i, hi, _⟩ := info_of_underlying hd
  exact ⟨i, hi⟩

/-- Reading a struct or an array out of cells. -/
theorem run_loadAgg {t : TypeId} (h : aggTy P t = some true) {bl o : Nat} {us : List Value} (hl : us.length = P.cellsOf t)
    (hc : ∀ j v, us[j]? = some v → w.cell? ⟨bl, o + j, none⟩ = some v) : (loadVar t ⟨bl, o, none⟩).run P w = .ok (.agg ⟨us⟩) w := by
  obtain ⟨i, hi⟩ := aggTy_info h
  simp only [loadVar, Sem.run_bind, run_aggTy h, Result.andThen_ok, if_true, run_size hi]
  rw [← hl, run_loadCells_list w _ us (fun j v hv => by rw [addr_add]; exact hc j v hv)]
  simp
theorem run_loadOne {t : TypeId} (h : aggTy P t = some false) {bl o : Nat} {v : Value} (hc : w.cell? ⟨bl, o, none⟩ = some v) : (loadVar t ⟨bl, o, none⟩).run P w = .ok v w := by
  simp only [loadVar, Sem.run_bind, run_aggTy h, Result.andThen_ok, Bool.false_eq_true, if_false, run_load, hc]

/-- The world behind a store into block 'bl', which holds 'vs' then. -/
structure Upd (w : World) (bl : Nat) (vs : List Value) (w' : World) : Prop where
  held : Held w' bl vs
  other : ∀ b, b ≠ bl → w'.heap[b]? = w.heap[b]?
  size : w'.heap.size = w.heap.size
  os : w'.os = w.os
  tape : w'.tape = w.tape
  output : w'.output = w.output

theorem Upd.trans {bl : Nat} {vs us : List Value} {w w' w'' : World} (h : Upd w bl vs w') (h' : Upd w' bl us w'') : Upd w bl us w'' :=
  ⟨h'.held, fun b hb => (h'.other b hb).trans (h.other b hb), h'.size.trans h.size, h'.os.trans h.os, h'.tape.trans h.tape, h'.output.trans h.output⟩

theorem upd_setCell {bl o : Nat} {vs : List Value} (h : Held w bl vs) (v : Value) : Upd w bl (vs.set o v) (w.setCell ⟨bl, o, none⟩ v) := by
  obtain ⟨T, h⟩ := h
  refine ⟨⟨T, ?_⟩, fun b hb => ?_, by simp [World.setCell], rfl, rfl, rfl⟩
  · simp [World.setCell, Array.getElem?_modify, h]
  · simp [World.setCell, Array.getElem?_modify, Ne.symm hb]

theorem run_storeOne {bl o : Nat} {vs : List Value} (h : Held w bl vs) (ho : o < vs.length) {v : Value} (hv : leafV v = true) :
    (store ⟨bl, o, none⟩ v).run P w = .ok () (w.setCell ⟨bl, o, none⟩ v) := by
  rw [run_store P w _ v _ (leafV_one hv), h.cell, List.getElem?_eq_getElem ho]
  simp [h.frozen]

theorem run_storeCells (us : List Value) : ∀ {w : World} {bl o i : Nat} {vs : List Value}, Held w bl vs → o + i + us.length ≤ vs.length → (∀ v ∈ us, leafV v = true) →
    ∃ w', (storeCells ⟨bl, o, none⟩ us i).run P w = .ok () w' ∧ Upd w bl (splice vs (o + i) us) w' := by
  induction us with
  | nil =>
    intro w bl o i vs h _ _
    refine ⟨w, by simp [storeCells], ?_⟩
    have : splice vs (o + i) [] = vs := by simp [splice]
    rw [this]
    exact ⟨h, fun _ _ => rfl, rfl, rfl, rfl, rfl⟩
  | cons u us ih =>
    intro w bl o i vs h hl hv
    simp only [List.length_cons] at hl
    have h1 := upd_setCell (o := o + i) h u
    obtain ⟨w', h2, h3⟩ := ih (w := w.setCell ⟨bl, o + i, none⟩ u) (o := o) (i := i + 1) h1.held (by simp; omega) (fun v hv' => hv v (by simp [hv']))
    refine ⟨w', ?_, ?_⟩
    · simp only [storeCells, Sem.run_bind, addr_add, run_storeOne h (show o + i < vs.length by omega) (hv u (by simp)), Result.andThen_ok]
      exact h2
    · have e : splice (vs.set (o + i) u) (o + (i + 1)) us = splice vs (o + i) (u :: us) := by
        unfold splice
        simp only [List.length_cons]
        rw [show o + (i + 1) = o + i + 1 by omega]
        generalize o + i = n at *
        have h5 : n < vs.length := by omega
        rw [List.drop_set, if_pos (by omega)]
        rw [List.take_set, List.take_succ_eq_append_getElem h5]
        rw [List.set_append, if_neg (by simp; omega)]
        simp only [List.length_take, Nat.min_eq_left (Nat.le_of_lt h5), Nat.sub_self, List.set_cons_zero, List.append_assoc, List.nil_append, List.cons_append]
        rw [show n + 1 + us.length = n + (us.length + 1) by omega]
      rw [← e]
      exact h1.trans h3

theorem run_storeVar {t : TypeId} {i : TypeInfo} (hi : P.info? t = some i) {v : Value} {us : List Value} (hc : v.cells = ⟨us⟩) (hlen : us.length = P.cellsOf t)
    {bl o : Nat} {vs : List Value} (h : Held w bl vs) (hl : o + us.length ≤ vs.length) (hv : ∀ v ∈ us, leafV v = true) :
    ∃ w', (storeVar t ⟨bl, o, none⟩ v).run P w = .ok () w' ∧ Upd w bl (splice vs o us) w' := by
  obtain ⟨w', h1, h2⟩ := run_storeCells (P := P) us (i := 0) h (by simpa using hl) hv
  refine ⟨w', ?_, by simpa using h2⟩
  simp only [storeVar, Sem.run_bind, run_size hi, Result.andThen_ok, hc]
  rw [if_neg (by simp [hlen])]
  simpa using h1

/-- What a step leaves: the same relation, further on; 'y' is its value. -/
def Post (Fr : Nat → Prop) (K : KMap) (β κ : Nat → Nat) (H : Heap) (w : World) (y : AVal) (H' : Heap) (u : Value) (w' : World) : Prop :=
  ∃ K' β' κ', SR Fr K' β' κ' H' w' ∧ Ext K β κ H K' β' κ' H' ∧ KNew Fr K K' ∧ Keep Fr w w' ∧ RA K' β' κ' H' y u

theorem Post.same (s : SR Fr K β κ H w) {y : AVal} {u : Value} (h : RA K β κ H y u) : Post Fr K β κ H w y H u w :=
  ⟨K, β, κ, s, .refl _ _ _ _, .refl _ _, .refl _ _, h⟩

/-- What one operation of the machine does. -/
def Does (P : Program) (o : Oper) (a : Act) (w : World) (R : Value → World → Prop) : Prop :=
  (∃ u w', (execOp a.eval o).run P w = .ok (.value u) w' ∧ R u w') ∨
  (∃ w', (execOp a.eval o).run P w = .ok .skip w' ∧ R undef w') ∨
  (∃ f args w', (execOp a.eval o).run P w = .ok (.enter f args) w' ∧ Calls P f args w' fun e w2 => ∃ u, e = .returned u ∧ R u w2)

theorem Does.mono {o : Oper} {a : Act} {R R' : Value → World → Prop} (h : Does P o a w R) (hr : ∀ u w', R u w' → R' u w') : Does P o a w R' := by
  rcases h with ⟨u, w', h1, h2⟩ | ⟨w', h1, h2⟩ | ⟨f, args, w', h1, h2⟩
  · exact .inl ⟨u, w', h1, hr _ _ h2⟩
  · exact .inr (.inl ⟨w', h1, hr _ _ h2⟩)
  · exact .inr (.inr ⟨f, args, w', h1, h2.mono fun e w2 ⟨u, h3, h4⟩ => ⟨u, h3, hr _ _ h4⟩⟩)

end Go.Eng

namespace Go.Eng
open Go

section
variable {A B : Type}
theorem ite_bind (c : Prop) [Decidable c] (x y : Option A) (h : A → Option B) : (if c then x else y).bind h = if c then x.bind h else y.bind h := by split <;> rfl
theorem onInt_bind (k : IntKind) (x : DVal) (f : Int → Option A) (h : A → Option B) : (onInt k x f).bind h = onInt k x fun n => (f n).bind h := by
  unfold onInt; split
  · rw [ite_bind]; rfl
  · rfl
theorem onBool_bind (x : DVal) (f : Bool → Option A) (h : A → Option B) : (onBool x f).bind h = onBool x fun n => (f n).bind h := by unfold onBool; split <;> rfl
theorem onStr_bind (x : DVal) (f : ByteArray → Option A) (h : A → Option B) : (onStr x f).bind h = onStr x fun n => (f n).bind h := by unfold onStr; split <;> rfl
theorem onSl_bind (sz : Nat) (x : DVal) (f : Rows → Option A) (h : A → Option B) : (onSl sz x f).bind h = onSl sz x fun n => (f n).bind h := by
  unfold onSl; split
  · rw [ite_bind]; rfl
  · rfl
  · rfl
theorem onAgg_bind (n : Nat) (x : DVal) (f : List DVal → Option A) (h : A → Option B) : (onAgg n x f).bind h = onAgg n x fun n => (f n).bind h := by
  unfold onAgg; split
  · rw [ite_bind]; rfl
  · rfl
theorem onTup_bind (n : Nat) (x : DVal) (f : List DVal → Option A) (h : A → Option B) : (onTup n x f).bind h = onTup n x fun n => (f n).bind h := by
  unfold onTup; split
  · rw [ite_bind]; rfl
  · rfl
theorem onIfc_bind (x : DVal) (a : Option A) (f : TypeId → DVal → Option A) (h : A → Option B) : (onIfc x a f).bind h = onIfc x (a.bind h) fun t y => (f t y).bind h := by unfold onIfc; split <;> rfl
theorem onRow_bind (rows : Rows) (i : Nat) (f : List DVal → Option A) (h : A → Option B) : (onRow rows i f).bind h = onRow rows i fun n => (f n).bind h := by unfold onRow; split <;> rfl
theorem onIx_bind (i : Int) (n : Nat) (f : Nat → Option A) (h : A → Option B) : (onIx i n f).bind h = onIx i n fun n => (f n).bind h := by
  unfold onIx; simp only [ite_bind]; rfl
theorem onCell_bind (row : List DVal) (i : Nat) (f : DVal → Option A) (h : A → Option B) : (onCell row i f).bind h = onCell row i fun n => (f n).bind h := by unfold onCell; split <;> rfl
theorem onByte_bind (s : ByteArray) (i : Int) (f : UInt8 → Option A) (h : A → Option B) : (onByte s i f).bind h = onByte s i fun n => (f n).bind h := by
  unfold onByte; rw [ite_bind]; split
  · split <;> rfl
  · rfl
theorem onRoom_bind (n : Nat) (f : Option A) (h : A → Option B) : (onRoom n f).bind h = onRoom n (f.bind h) := by unfold onRoom; rw [ite_bind]; rfl
theorem onCall_bind (r : Option (AVal × Heap)) (f : DVal → Option A) (h : A → Option B) : (onCall r f).bind h = onCall r fun n => (f n).bind h := by
  unfold onCall; split
  · split <;> rfl
  · rfl
theorem onCallS_bind (r : Option (AVal × Heap)) (f : DVal → Heap → Option A) (h : A → Option B) : (onCallS r f).bind h = onCallS r fun n H => (f n H).bind h := by unfold onCallS; split <;> rfl
theorem onCat_bind (x y : ByteArray) (f : ByteArray → Option A) (h : A → Option B) : (onCat x y f).bind h = onCat x y fun n => (f n).bind h := by unfold onCat; rw [ite_bind]; rfl
theorem onEnum_bind (i : Int) (n j : Nat) (f : Nat → Option A) (h : A → Option B) : (onEnum i n j f).bind h = onEnum i n j fun n => (f n).bind h := by
  induction n generalizing j with
  | zero => rfl
  | succ n ih => simp only [onEnum, ite_bind, ih]
theorem onArr_bind (H : Heap) (j sz : Nat) (f : Rows → Option A) (h : A → Option B) : (onArr H j sz f).bind h = onArr H j sz fun n => (f n).bind h := by
  unfold onArr; split
  · rw [ite_bind]; rfl
  · rfl

theorem castLeaf_bind (P : Program) (t : TypeId) (x : DVal) (f : DVal → Option A) (h : A → Option B) : (castLeaf P t x f).bind h = castLeaf P t x fun n => (f n).bind h := by
  unfold castLeaf; split <;> simp only [onInt_bind, onBool_bind, onStr_bind, onSl_bind, onIfc_bind, Option.bind_none]
theorem castCells_bind (P : Program) (ts : List TypeId) (row : List DVal) (off : Nat) (f : List AVal → Option A) (h : A → Option B) :
    (castCells P ts row off f).bind h = castCells P ts row off fun n => (f n).bind h := by
  induction ts generalizing off f with
  | nil => rfl
  | cons t ts ih => simp only [castCells, onCell_bind, castLeaf_bind, ih]
theorem castLoad_bind (P : Program) (t : TypeId) (row : List DVal) (off : Nat) (f : AVal → Option A) (h : A → Option B) :
    (castLoad P t row off f).bind h = castLoad P t row off fun n => (f n).bind h := by
  unfold castLoad; split <;> simp only [ite_bind, castCells_bind, onCell_bind, castLeaf_bind, Option.bind_none]
theorem castVal_bind (P : Program) (t : TypeId) (x : DVal) (f : AVal → Option A) (h : A → Option B) : (castVal P t x f).bind h = castVal P t x fun n => (f n).bind h := by
  unfold castVal; split <;> simp only [onAgg_bind, castCells_bind, castLeaf_bind, Option.bind_none]
theorem castVals_bind (P : Program) (ts : List TypeId) (xs : List DVal) (i : Nat) (f : List AVal → Option A) (h : A → Option B) :
    (castVals P ts xs i f).bind h = castVals P ts xs i fun n => (f n).bind h := by
  induction ts generalizing i f with
  | nil => rfl
  | cons t ts ih => simp only [castVals, onCell_bind, castVal_bind, ih]
theorem castArgs_bind (P : Program) (fn : Func) (ds : List DVal) (f : List AVal → Option A) (h : A → Option B) :
    (castArgs P fn ds f).bind h = castArgs P fn ds fun n => (f n).bind h := by
  unfold castArgs; split
  · exact castVals_bind ..
  · rfl
theorem castRes_bind (P : Program) (ts : List TypeId) (x : DVal) (f : AVal → Option A) (h : A → Option B) : (castRes P ts x f).bind h = castRes P ts x fun n => (f n).bind h := by
  unfold castRes; split <;> simp only [castVal_bind, onTup_bind, castVals_bind]
theorem intOp_bind (op : BinOp) (k : IntKind) (x y : Int) (f : AVal → Option A) (h : A → Option B) : (intOp op k x y f).bind h = intOp op k x y fun n => (f n).bind h := by
  unfold intOp; split <;> first | rfl | (rw [ite_bind]; rfl)
theorem shiftOp_bind (op : BinOp) (k : IntKind) (x y : Int) (f : AVal → Option A) (h : A → Option B) : (shiftOp op k x y f).bind h = shiftOp op k x y fun n => (f n).bind h := by
  unfold shiftOp; rw [ite_bind]; split
  · rfl
  · split <;> rfl
theorem strOp_bind (op : BinOp) (x y : ByteArray) (f : AVal → Option A) (h : A → Option B) : (strOp op x y f).bind h = strOp op x y fun n => (f n).bind h := by
  unfold strOp; split <;> first | rfl | exact onCat_bind _ _ _ _
theorem binK_bind (P : Program) (t : TypeId) (cst : Bool) (op : BinOp) (x y : AVal) (f : AVal → Option A) (h : A → Option B) : (binK P t cst op x y f).bind h = binK P t cst op x y fun n => (f n).bind h := by
  unfold binK
  split
  · exact shiftOp_bind ..
  · exact shiftOp_bind ..
  · rw [ite_bind, intOp_bind]; rfl
  · exact strOp_bind ..
  · split <;> rfl
  · split <;> rfl
  · rfl
theorem unK_bind (op : UnOp) (x : AVal) (f : AVal → Option A) (h : A → Option B) : (unK op x f).bind h = unK op x fun n => (f n).bind h := by unfold unK; split <;> rfl
theorem convK_bind (P : Program) (t : TypeId) (x : AVal) (f : AVal → Option A) (h : A → Option B) : (convK P t x f).bind h = convK P t x fun n => (f n).bind h := by unfold convK; split <;> rfl
theorem addOff_bind (x : AVal) (n : Nat) (f : AVal → Option A) (h : A → Option B) : (addOff x n f).bind h = addOff x n fun n => (f n).bind h := by unfold addOff; split <;> rfl
theorem partK_bind (P : Program) (t : TypeId) (cs : List AVal) (off : Nat) (f : AVal → Option A) (h : A → Option B) : (partK P t cs off f).bind h = partK P t cs off fun n => (f n).bind h := by
  unfold partK; split
  · rw [ite_bind]; rfl
  · split <;> rfl
  · rfl
theorem indexAddrK_bind (P : Program) (t : TypeId) (x i : AVal) (f : AVal → Option A) (h : A → Option B) : (indexAddrK P t x i f).bind h = indexAddrK P t x i fun n => (f n).bind h := by
  unfold indexAddrK; split <;> simp only [ite_bind, onIx_bind, onRow_bind, onEnum_bind, addOff_bind, Option.bind_none]
theorem indexK_bind (P : Program) (t : TypeId) (x i : AVal) (f : AVal → Option A) (h : A → Option B) : (indexK P t x i f).bind h = indexK P t x i fun n => (f n).bind h := by
  unfold indexK; split <;> simp only [ite_bind, onEnum_bind, partK_bind, onByte_bind, Option.bind_none]
theorem lenK_bind (P : Program) (t : TypeId) (x : AVal) (f : AVal → Option A) (h : A → Option B) : (lenK P t x f).bind h = lenK P t x fun n => (f n).bind h := by unfold lenK; split <;> rfl
theorem minK_bind (x y : AVal) (f : AVal → Option A) (h : A → Option B) : (minK x y f).bind h = minK x y fun n => (f n).bind h := by unfold minK; split <;> rfl
theorem maxK_bind (x y : AVal) (f : AVal → Option A) (h : A → Option B) : (maxK x y f).bind h = maxK x y fun n => (f n).bind h := by unfold maxK; split <;> rfl
theorem foldK_bind (g : ∀ {A : Type}, AVal → AVal → (AVal → Option A) → Option A) (hg : ∀ {A B : Type} (x y : AVal) (f : AVal → Option A) (h : A → Option B), (g x y f).bind h = g x y fun n => (f n).bind h)
    (x : AVal) (xs : List AVal) (f : AVal → Option A) (h : A → Option B) : (foldK g x xs f).bind h = foldK g x xs fun n => (f n).bind h := by
  induction xs generalizing x with
  | nil => rfl
  | cons y ys ih => simp only [foldK, hg, ih]
theorem bndK_bind (len d : Nat) (o : Option AVal) (f : Nat → Option A) (h : A → Option B) : (bndK len o d f).bind h = bndK len o d fun l => (f l).bind h := by
  unfold bndK; split <;> first | rfl | exact onIx_bind ..
theorem boundsK_bind (len : Nat) (lo hi mx : Option AVal) (f : Nat → Nat → Option A) (h : A → Option B) : (boundsK len lo hi mx f).bind h = boundsK len lo hi mx fun l m => (f l m).bind h := by
  unfold boundsK; split
  · simp only [bndK_bind]
  · rfl
theorem sliceK_bind (P : Program) (t : TypeId) (x : AVal) (lo hi mx : Option AVal) (f : AVal → Option A) (h : A → Option B) :
    (sliceK P t x lo hi mx f).bind h = sliceK P t x lo hi mx fun n => (f n).bind h := by
  unfold sliceK; split <;> simp only [ite_bind, boundsK_bind, Option.bind_none]
theorem appRows_bind (lk : Nat → BView) (x : AVal) (sz : Nat) (f : Rows → Option A) (h : A → Option B) : (appRows lk x sz f).bind h = appRows lk x sz fun n => (f n).bind h := by
  unfold appRows
  split
  · rw [ite_bind]; rfl
  · rfl
  · split
    · cases Nat.beq _ _ <;> simp only [cond_true, cond_false, ite_bind, Option.bind_none]
    · rfl
  · split
    · cases Nat.beq _ _ <;> simp only [cond_true, cond_false, ite_bind, Option.bind_none]
    · rfl
  · rfl
theorem backArrs_bind (H : Heap) (j : Nat) (bs : List ABlk) (f : List ABlk → Option A) (h : A → Option B) : (backArrs H j bs f).bind h = backArrs H j bs fun n => (f n).bind h := by
  induction bs generalizing j f with
  | nil => rfl
  | cons b bs ih => cases b <;> simp only [backArrs, onArr_bind, ite_bind, ih, Option.bind_none]
theorem viewsOf_bind (H : Heap) (ids : List Nat) (f : List BView → Option A) (h : A → Option B) : (viewsOf H ids f).bind h = viewsOf H ids fun n => (f n).bind h := by
  induction ids generalizing f with
  | nil => rfl
  | cons id ids ih => simp only [viewsOf]; split <;> simp only [ih, Option.bind_none]
theorem blksOf_bind (H : Heap) (ids : List Nat) (f : List ABlk → Option A) (h : A → Option B) : (blksOf H ids f).bind h = blksOf H ids fun n => (f n).bind h := by
  induction ids generalizing f with
  | nil => rfl
  | cons id ids ih => simp only [blksOf]; split <;> simp only [ih, Option.bind_none]
theorem putNew_bind (H : Heap) (nid : Nat) (blk : ABlk) (k : Heap → Option A) (h : A → Option B) : (putNew H nid blk k).bind h = putNew H nid blk fun H' => (k H').bind h := by
  unfold putNew; split
  · rfl
  · rfl
  · rw [ite_bind]; rfl
end

/-- A plan hands on what stands behind it. -/
def Plan.Par : Plan → Prop
  | .fail => True
  | .rd _ f => ∀ {A B : Type} (vs : List BView) (k : AVal → Option A) (h : A → Option B), (f vs k).bind h = f vs fun v => (k v).bind h
  | .fz _ f => ∀ {A B : Type} (vs : List BView) (k : AVal → Option A) (h : A → Option B), (f vs k).bind h = f vs fun v => (k v).bind h
  | .wrs _ f => ∀ {A B : Type} (bs : List ABlk) (k : AVal → List ABlk → Option A) (h : A → Option B), (f bs k).bind h = f bs fun v b => (k v b).bind h
  | .new _ _ f => ∀ {A B : Type} (vs : List BView) (k : ABlk → AVal → Option A) (h : A → Option B), (f vs k).bind h = f vs fun v b => (k v b).bind h

theorem Plan.run_bind {pl : Plan} (hp : pl.Par) {A B : Type} (H : Heap) (k : AVal → Heap → Option A) (h : A → Option B) :
    (pl.run H k).bind h = pl.run H fun v H' => (k v H').bind h := by
  cases pl with
  | fail => rfl
  | rd ids f => simp only [Plan.run, viewsOf_bind]; congr; funext vs; exact hp ..
  | fz ids f => simp only [Plan.run, viewsOf_bind]; congr; funext vs; exact hp ..
  | wrs ids f =>
    simp only [Plan.run, blksOf_bind]; congr; funext vs
    refine (hp _ _ _).trans ?_
    congr; funext v b; exact ite_bind ..
  | new nid ids f =>
    simp only [Plan.run, viewsOf_bind]; congr; funext vs
    refine (hp _ _ _).trans ?_
    congr; funext v b; exact putNew_bind ..

theorem bif_bind {A B : Type} (c : Bool) (x y : Option A) (h : A → Option B) : (bif c then x else y).bind h = bif c then x.bind h else y.bind h := by cases c <;> rfl

theorem plLoad_par (P : Program) (t : TypeId) (x : AVal) : (plLoad P t x).Par := by
  unfold plLoad; split
  · intro A B vs k h; exact castLoad_bind ..
  · intro A B vs k h; dsimp only; split
    · exact partK_bind ..
    · rfl
  · intro A B vs k h; dsimp only; split
    · simp only [bif_bind, onRow_bind, castLoad_bind, Option.bind_none]
    · rfl
  · trivial

theorem plStore_par (P : Program) (t : TypeId) (x y : AVal) : (plStore P t x y).Par := by
  unfold plStore; split
  · split
    · intro A B vs k h; dsimp only; split
      · simp only [ite_bind, Option.bind_none]
      · rfl
    · split
      · intro A B vs k h; dsimp only; split
        · simp only [bif_bind, onRow_bind, ite_bind, Option.bind_none]
        · simp only [bif_bind, onRow_bind, ite_bind, Option.bind_none]
        · rfl
      · trivial
    · trivial
  · trivial

theorem plBuildSlice_par (P : Program) (t : TypeId) (len : Nat) (parts : List (Nat × AVal)) (own : Bool) (nid : Nat) : (plBuildSlice P t len parts own nid).Par := by
  unfold plBuildSlice
  split
  · split
    · split
      · cases own
        · simp only [cond_false]; intro A B vs k h; dsimp only; split <;> rfl
        · simp only [cond_true]; split
          · intro A B vs k h; rfl
          · trivial
      · trivial
    · trivial
  · trivial

theorem plAppend_par (P : Program) (t : TypeId) (x y : AVal) (nid : Nat) : (plAppend P t x y nid).Par := by
  unfold plAppend
  split
  · split
    · split
      · intro A B vs k h; dsimp only; split
        · simp only [bif_bind, ite_bind, appRows_bind, onRoom_bind, Option.bind_none]
        · rfl
      · intro A B vs k h; simp only [appRows_bind, onRoom_bind]
      · trivial
    · trivial
  · trivial

theorem plMake_par (P : Program) (t : TypeId) (l c : Operand) (len : AVal) (dat : Bool) (nid : Nat) : (plMake P t l c len dat nid).Par := by
  unfold plMake
  split
  · split
    · split
      · split
        · cases dat
          · intro A B vs k h; simp only [ite_bind, onRoom_bind, Option.bind_none]
          · intro A B vs k h; simp only [ite_bind, onRoom_bind, Option.bind_none]
        · trivial
      · trivial
    · trivial
  · trivial

theorem plCall_par (P : Program) (X : Orc) (g : FuncId) (fn : Func) (args : List AVal) : (plCall P X g fn args).Par := by
  unfold plCall
  dsimp only
  split
  · intro A B vs k h; dsimp only; split
    · simp only [castArgs_bind, onCall_bind, castRes_bind]
    · rfl
  · intro A B vs k h; dsimp only; split
    · simp only [castArgs_bind, onCall_bind, castRes_bind]
    · rfl

theorem plCallS_par (P : Program) (X : Orc) (g : FuncId) (fn : Func) (args : List AVal) : (plCallS P X g fn args).Par := by
  unfold plCallS
  dsimp only
  split
  · intro A B vs k h; dsimp only; split
    · simp only [onCallS_bind, castRes_bind, backArrs_bind]
    · rfl
  · trivial

section ownbind
variable {A B : Type} {P : Program}
theorem onHs_bind (j sz : Nat) (x : AVal) (f : Nat → Option A) (h : A → Option B) : (onHs j sz x f).bind h = onHs j sz x fun n => (f n).bind h := by
  unfold onHs; split
  · rw [ite_bind]; rfl
  · rfl
theorem onD_bind (x : AVal) (f : DVal → Option A) (h : A → Option B) : (onD x f).bind h = onD x fun n => (f n).bind h := by
  unfold onD; split <;> rfl
theorem castOwn1_bind (H' : Heap) (n j : Nat) (t : TypeId) (x : AVal) (f : AVal → List ABlk → Option A) (h : A → Option B) : (castOwn1 P H' n j t x f).bind h = castOwn1 P H' n j t x fun y bs => (f y bs).bind h := by
  unfold castOwn1; split
  · simp only [onHs_bind, onArr_bind]
  · simp only [onD_bind, castLeaf_bind]
theorem onOwn_bind (r : Option (AVal × Heap)) (f : AVal → Heap → Option A) (h : A → Option B) : (onOwn r f).bind h = onOwn r fun x H => (f x H).bind h := by
  unfold onOwn; split <;> rfl
theorem plCallN_par (P : Program) (X : Orc) (g : FuncId) (fn : Func) (args : List AVal) (nid : Nat) : (plCallN P X g fn args nid).Par := by
  unfold plCallN
  split
  · split
    · intro A B vs k h
      simp only [castArgs_bind, onOwn_bind, castOwn1_bind]
      refine congrArg _ (funext fun as => congrArg _ (funext fun x => funext fun H => congrArg _ (funext fun y => funext fun bs => ?_)))
      split <;> rfl
    · trivial
  · trivial
end ownbind

theorem planOf_par (P : Program) (X : Orc) (cf : Cf) (ops : Array Oper) (o : Oper) (e : Operand → AVal) (nid : Nat) : (planOf P X cf ops o e nid).Par := by
  unfold planOf
  dsimp only
  split
  all_goals try (intro A B vs k h; rfl)
  all_goals try (exact plLoad_par ..)
  all_goals try (exact plStore_par ..)
  all_goals try (exact plBuildSlice_par ..)
  all_goals try (exact plMake_par ..)
  all_goals try trivial
  case h_3 => -- pick
    split
    · intro A B vs k h; simp only [ite_bind]
    · trivial
  case h_4 =>
    split
    · split
      · intro A B vs k h; rfl
      · trivial
    · trivial
  case h_5 => intro A B vs k h; simp only [ite_bind, Option.bind_none]
  case h_6 =>
    split
    · intro A B vs k h; rfl
    · trivial
  case h_10 =>
    split <;> first | trivial | (intro A B vs k h; rfl)
  case h_11 => intro A B vs k h; exact binK_bind ..
  case h_12 => intro A B vs k h; exact unK_bind ..
  case h_13 =>
    split
    · intro A B vs k h; exact convK_bind ..
    · trivial
  case h_14 => split <;> first | trivial | (intro A B vs k h; rfl)
  case h_15 => split <;> first | trivial | (intro A B vs k h; rfl)
  case h_17 => intro A B vs k h; exact sliceK_bind ..
  case h_18 =>
    split
    · intro A B vs k h; exact addOff_bind ..
    · trivial
  case h_19 =>
    split
    · intro A B vs k h; exact partK_bind ..
    · trivial
  case h_20 => intro A B vs k h; exact indexAddrK_bind ..
  case h_21 => intro A B vs k h; exact indexK_bind ..
  case h_22 =>
    split
    · split <;> first | trivial | (intro A B vs k h; rfl)
    · trivial
  case h_23 =>
    split
    · split
      · intro A B vs k h; exact lenK_bind ..
      · intro A B vs k h; exact foldK_bind minK minK_bind ..
      · intro A B vs k h; exact foldK_bind maxK maxK_bind ..
      · split
        · exact plAppend_par ..
        · trivial
      · trivial
    · split
      · split
        · split
          · trivial
          · split
            · split
              · exact plCall_par ..
              · exact plCallN_par ..
              · trivial
            · exact plCall_par ..
        · trivial
      · trivial
    · trivial
end Go.Eng

namespace Go.Eng
open Go

variable {P : Program} {K : KMap} {β κ : Nat → Nat} {H : Heap} {w : World} {Fr : Nat → Prop}

theorem vs_leaf {l : List Value} (h : l.all leafV = true) : Vs K (l.map .v) l := by
  induction l with
  | nil => exact .nil
  | cons x l ih =>
    simp only [List.all_cons, Bool.and_eq_true] at h
    exact .cons (.v x h.1) (ih h.2)

theorem constD_sound (v : Value) : RA K β κ H (constD v) v := by
  unfold constD
  split
  · rename_i cs
    cases h : cs.toList.all leafV
    · exact .junk _
    · simp only [cond_true]
      have := RAs.ofVs (β := β) (κ := κ) (H := H) (vs_leaf (K := K) h)
      simp only [List.map_map] at this
      exact .agg (vs := cs.toList) this
  · exact .junk _
  · rename_i h1 h2
    refine .d (.v _ ?_)
    cases v <;> first | rfl | exact (h1 _ rfl).elim | exact (h2 _ rfl).elim

theorem ev_sound {tm : Tm} {a : Act} (hf : FR K β κ H tm a.tmps) (x : Operand) : RA K β κ H (ev tm x) (a.eval x) := by
  cases x with
  | tmp t => exact hf t
  | const v => exact constD_sound v
  | global g => exact .junk _
  | func f => exact .fn (vs := []) .nil

theorem evs_sound {tm : Tm} {a : Act} (hf : FR K β κ H tm a.tmps) (xs : List Operand) : RAs K β κ H (xs.map (ev tm)) (xs.map a.eval) := by
  induction xs with
  | nil => exact .nil
  | cons x xs ih => exact .cons (ev_sound hf x) ih

/- Reading by type. -/
theorem castLeaf_sound {t : TypeId} {x y : DVal} {u : Value} (h : castLeaf P t x some = some y) (hv : V K x u) : V K y u := by
  unfold castLeaf at h
  split at h
  · unfold onInt at h; split at h
    · split at h
      · injection h with h; subst h; rename_i hk; subst hk; exact hv
      · cases h
    · cases h
  · unfold onBool at h; split at h
    · injection h with h; subst h; exact hv
    · cases h
  · unfold onStr at h; split at h
    · injection h with h; subst h; exact hv
    · cases h
  · unfold onSl at h; split at h
    · split at h
      · injection h with h; subst h; rename_i hk; subst hk
        cases hv with
        | nil _ _ cap hf => exact .nil _ _ cap (by decide)
        | emp _ _ a cap hf => exact .emp _ _ a cap (by decide)
        | sl _ _ _ bl o cap hf hc hr => exact .sl _ _ _ bl o cap (by decide) hc hr
      · cases h
    · injection h with h; subst h
      cases hv; exact .nil _ _ 0 (by decide)
    · cases h
  · unfold onIfc at h; split at h
    · injection h with h; subst h; exact hv
    · injection h with h; subst h; exact hv
    · cases h
  · injection h with h; subst h; exact hv
  · cases h

theorem castLeaf_leaf {t : TypeId} {x y : DVal} (h : castLeaf P t x some = some y) : True := trivial

theorem some_of_bind {A B : Type} {x : Option A} {f : A → Option B} {r : B} (h : x.bind f = some r) : ∃ a, x = some a ∧ f a = some r := by
  cases x with
  | none => cases h
  | some a => exact ⟨a, rfl, h⟩

theorem par1 {B A : Type} {g : ∀ {A : Type}, (B → Option A) → Option A} (hg : ∀ {A C : Type} (f : B → Option A) (h : A → Option C), (g f).bind h = g fun n => (f n).bind h)
    {k : B → Option A} {r : A} (h : g k = some r) : ∃ y, g some = some y ∧ k y = some r := by
  have e : g k = (g some).bind k := by rw [hg]; rfl
  rw [e] at h
  exact some_of_bind h

theorem onCell_some {A : Type} {row : List DVal} {i : Nat} {f : DVal → Option A} {r : A} (h : onCell row i f = some r) : ∃ x, row[i]? = some x ∧ f x = some r := by
  unfold onCell at h; split at h
  · exact ⟨_, by assumption, h⟩
  · cases h
theorem onRow_some {A : Type} {rows : Rows} {i : Nat} {f : List DVal → Option A} {r : A} (h : onRow rows i f = some r) : ∃ x, rows[i]? = some x ∧ f x = some r := by
  unfold onRow at h; split at h
  · exact ⟨_, by assumption, h⟩
  · cases h
theorem onIx_some {A : Type} {i : Int} {n : Nat} {f : Nat → Option A} {r : A} (h : onIx i n f = some r) : 0 ≤ i ∧ i.toNat < n ∧ f i.toNat = some r := by
  unfold onIx at h; split at h
  · split at h
    · exact ⟨by assumption, by assumption, h⟩
    · cases h
  · cases h
theorem onRoom_some {A : Type} {n : Nat} {f : Option A} {r : A} (h : onRoom n f = some r) : n ≤ 549755813888 ∧ f = some r := by
  unfold onRoom at h; split at h
  · exact ⟨by assumption, h⟩
  · cases h
theorem onEnum_some {A : Type} {i : Int} {n j : Nat} {f : Nat → Option A} {r : A} (h : onEnum i n j f = some r) : ∃ m : Nat, i = (m : Int) ∧ j ≤ m ∧ m < j + n ∧ f m = some r := by
  induction n generalizing j with
  | zero => cases h
  | succ n ih =>
    simp only [onEnum] at h
    split at h
    · exact ⟨j, by assumption, Nat.le_refl _, by omega, h⟩
    · obtain ⟨m, h1, h2, h3, h4⟩ := ih h
      exact ⟨m, h1, by omega, by omega, h4⟩

theorem castCells_sound {g : Nat → Option Value} {o : Nat} {row : List DVal} (hc : Cells K g o row) : ∀ {ts : List TypeId} {off : Nat} {ys : List AVal}, castCells P ts row off some = some ys →
    ∃ us, RAs K β κ H ys us ∧ us.length = ts.length ∧ ∀ i u, us[i]? = some u → g (o + off + i) = some u := by
  intro ts
  induction ts with
  | nil => intro off ys h; injection h with h; subst h; exact ⟨[], .nil, rfl, by simp⟩
  | cons t ts ih =>
    intro off ys h
    simp only [castCells] at h
    obtain ⟨x, hx, h⟩ := onCell_some h
    obtain ⟨y, hy, h⟩ := par1 (castLeaf_bind P t x) h
    obtain ⟨zs, hz, h⟩ := par1 (castCells_bind P ts row (off + 1)) h
    injection h with h; subst h
    obtain ⟨u, h1, h2, h3⟩ := hc.get hx
    obtain ⟨us, h4, h5, h6⟩ := ih hz
    refine ⟨u :: us, .cons (.d (castLeaf_sound hy h3)) h4, by simp [h5], fun i v hv => ?_⟩
    cases i with
    | zero => simp at hv; subst hv; exact h1
    | succ i => have := h6 i v (by simpa using hv); rw [← this]; congr 1; omega

theorem castLoad_sound {t : TypeId} {g : Nat → Option Value} {bl o : Nat} {row : List DVal} {off : Nat} {y : AVal} (hc : Cells K g o (row.drop off)) (hg : ∀ i v, g i = some v → w.cell? ⟨bl, i, none⟩ = some v)
    (h : castLoad P t row off some = some y) : ∃ u, (loadVar t ⟨bl, o, none⟩).run P w = .ok u w ∧ RA K β κ H y u := by
  have hoff : ∀ {ts : List TypeId} {n : Nat} {A : Type} (f : List AVal → Option A), castCells P ts (row.drop off) n f = castCells P ts row (off + n) f := by
    intro ts
    induction ts with
    | nil => intros; rfl
    | cons t ts ih => intro n A f; simp only [castCells, onCell, List.getElem?_drop, ih, Nat.add_assoc]
  unfold castLoad at h
  split at h
  · rename_i ha
    split at h
    · rename_i hl
      obtain ⟨ys, hy, h⟩ := par1 (castCells_bind P _ row off) h
      injection h with h; subst h
      rw [show off = off + 0 from rfl, ← hoff] at hy
      obtain ⟨us, h1, h2, h3⟩ := castCells_sound (β := β) (κ := κ) (H := H) hc hy
      exact ⟨.agg ⟨us⟩, run_loadAgg ha (by rw [h2, hl]) (fun j v hv => hg _ _ (by simpa using h3 j v hv)), .agg h1⟩
    · cases h
  · rename_i ha
    obtain ⟨x, hx, h⟩ := onCell_some h
    obtain ⟨y', hy, h⟩ := par1 (castLeaf_bind P t x) h
    injection h with h; subst h
    obtain ⟨u, h1, h2, h3⟩ := hc.get (i := 0) (x := x) (by simpa using hx)
    exact ⟨u, run_loadOne ha (hg _ _ h1), .d (castLeaf_sound hy h3)⟩
  · cases h

theorem castVal_sound {t : TypeId} {x : DVal} {y : AVal} {u : Value} (hv : V K x u) (h : castVal P t x some = some y) : RA K β κ H y u := by
  unfold castVal at h
  split at h
  · unfold onAgg at h
    split at h
    · rename_i cs
      split at h
      · rename_i hl
        obtain ⟨ys, hy, h⟩ := par1 (castCells_bind P _ cs 0) h
        injection h with h; subst h
        cases hv with
        | agg _ vs hvs =>
          have hc : ∀ (ts : List TypeId) (pre : List DVal) (post : List DVal) (vpost : List Value) (ys : List AVal), Vs K post vpost → cs = pre ++ post → ts.length = post.length → castCells P ts cs pre.length some = some ys → RAs K β κ H ys vpost := by
            intro ts
            induction ts with
            | nil =>
              intro pre post vpost ys hv' _ hlen hy'
              cases post with
              | nil => cases hv'; injection hy' with hy'; subst hy'; exact .nil
              | cons _ _ => simp at hlen
            | cons t ts ih =>
              intro pre post vpost ys hv' hcs hlen hy'
              simp only [castCells] at hy'
              obtain ⟨x, hx, hy'⟩ := onCell_some hy'
              obtain ⟨y, hy1, hy'⟩ := par1 (castLeaf_bind P t x) hy'
              obtain ⟨zs, hz, hy'⟩ := par1 (castCells_bind P ts cs (pre.length + 1)) hy'
              injection hy' with hy'; subst hy'
              cases hv' with
              | nil => simp at hlen
              | cons h1 h2 =>
                rename_i x' _ _ _
                subst hcs
                simp at hx; subst hx
                exact .cons (.d (castLeaf_sound hy1 h1)) (ih (pre ++ [x']) _ _ _ h2 (by simp) (by simpa using hlen) (by simpa using hz))
          exact .agg (hc _ [] cs vs ys hvs rfl hl.symm hy)
      · cases h
    · cases h
  · obtain ⟨y', hy, h⟩ := par1 (castLeaf_bind P t x) h
    injection h with h; subst h
    exact .d (castLeaf_sound hy hv)
  · cases h

theorem castVals_sound {xs : List DVal} {vs : List Value} (hv : Vs K xs vs) : ∀ {ts : List TypeId} {ys : List AVal}, ts.length = xs.length → castVals P ts xs 0 some = some ys → RAs K β κ H ys vs := by
  have hc : ∀ (ts : List TypeId) (pre : List DVal) (post : List DVal) (vpost : List Value) (ys : List AVal), Vs K post vpost → xs = pre ++ post → ts.length = post.length → castVals P ts xs pre.length some = some ys → RAs K β κ H ys vpost := by
    intro ts
    induction ts with
    | nil =>
      intro pre post vpost ys hv' _ hlen hy'
      cases post with
      | nil => cases hv'; injection hy' with hy'; subst hy'; exact .nil
      | cons _ _ => simp at hlen
    | cons t ts ih =>
      intro pre post vpost ys hv' hcs hlen hy'
      simp only [castVals] at hy'
      obtain ⟨x, hx, hy'⟩ := onCell_some hy'
      obtain ⟨y, hy1, hy'⟩ := par1 (castVal_bind P t x) hy'
      obtain ⟨zs, hz, hy'⟩ := par1 (castVals_bind P ts xs (pre.length + 1)) hy'
      injection hy' with hy'; subst hy'
      cases hv' with
      | nil => simp at hlen
      | cons h1 h2 =>
        rename_i x' _ _ _
        subst hcs
        simp at hx; subst hx
        exact .cons (castVal_sound h1 hy1) (ih (pre ++ [x']) _ _ _ h2 (by simp) (by simpa using hlen) (by simpa using hz))
  intro ts ys hl h
  exact hc ts [] xs vs ys hv rfl hl h

theorem castRes_sound {ts : List TypeId} {x : DVal} {y : AVal} {u : Value} (hv : V K x u) (h : castRes P ts x some = some y) : RA K β κ H y u := by
  unfold castRes at h
  split at h
  · exact castVal_sound hv h
  · unfold onTup at h
    split at h
    · rename_i xs
      split at h
      · rename_i hl
        obtain ⟨ys, hy, h⟩ := par1 (castVals_bind P _ xs 0) h
        injection h with h; subst h
        cases hv with
        | tup _ vs hvs => exact .tup (castVals_sound hvs hl.symm hy)
      · cases h
    · cases h

theorem castArgs_sound {fn : Func} {xs : List DVal} {vs : List Value} (hv : Vs K xs vs) {ys : List AVal} (h : castArgs P fn xs some = some ys) : RAs K β κ H ys vs := by
  unfold castArgs at h
  split at h
  · rename_i hl; exact castVals_sound hv hl h
  · injection h with h; subst h; exact .ofVs hv

theorem castRow_sound : ∀ {ts : List TypeId} {xs ys : List DVal} {us : List Value}, castRow P ts xs = some ys → Vs K xs us → Vs K ys us
  | [], [], _, _, h, hv => by simp only [castRow, Option.some.injEq] at h; subst h; exact hv
  | t :: ts, x :: xs, _, _, h, hv => by
    simp only [castRow] at h
    split at h
    · rename_i y ys h1 h2
      injection h with h; subst h
      cases hv with | cons hx hr => exact .cons (castLeaf_sound h1 hx) (castRow_sound h2 hr)
    · cases h
  | [], _ :: _, _, _, h, _ => by simp [castRow] at h
  | _ :: _, [], _, _, h, _ => by simp [castRow] at h
end Go.Eng

namespace Go.Eng
open Go

variable {P : Program} {K : KMap} {β κ : Nat → Nat} {H : Heap} {w : World} {Fr : Nat → Prop}

theorem RA.dv {x u : Value} (h : RA K β κ H (.d (.v x)) u) : u = x := by cases h with | d h => cases h; rfl
theorem RA.b (x : Bool) : RA K β κ H (Eng.b x) (.bool x) := .d (.v _ rfl)
theorem RA.int (k : IntKind) (x : Int) : RA K β κ H (.d (.v (.int k x))) (.int k x) := .d (.v _ rfl)

theorem eqGuard_other {op : BinOp} {t : TypeId} {x y : Operand} {u v : Value} (h : ¬ (u = .nilIface ∧ v = .nilIface)) (h' : ∀ cs, u ≠ .agg cs) : (eqGuard op t x y u v).run P w = .ok () w := by
  unfold eqGuard
  cases op <;> simp only [Bool.not_true, Bool.not_false, Bool.false_eq_true, if_false, if_true, Sem.run_pure, Sem.run_bind, Result.andThen_ok] <;> (split <;> first | rfl | (exfalso; simp_all; done) | (exfalso; exact h' _ rfl))

theorem intOp_sound {op : BinOp} {k : IntKind} {x y : Int} {z : AVal} {t : TypeId} (hs : op ≠ .shl ∧ op ≠ .shr) (h : intOp op k x y some = some z) : ∃ r, (binOp op t (.int k x) (.int k y)).run P w = .ok r w ∧ RA K β κ H z r := by
  unfold intOp at h
  cases op <;> simp only at h <;> first
    | cases h; done
    | (exfalso; simp at hs; done)
    | (split at h
       · cases h
       · injection h with h; subst h; rename_i hy
         exact ⟨_, by simp [binOp, Op.intDiv, hy], .int _ _⟩)
    | (injection h with h; subst h; exact ⟨_, by simp [binOp, Op.intArith, Op.intBits, Op.intCmp], .int _ _⟩)
    | (injection h with h; subst h; exact ⟨_, by simp only [binOp, ne_eq, not_true_eq_false, if_false, Op.intCmp]; rfl, .b _⟩)

theorem shiftOp_sound {op : BinOp} {k k' : IntKind} {x y : Int} {z : AVal} {t : TypeId} (hs : op = .shl ∨ op = .shr) (h : shiftOp op k x y some = some z) : ∃ r, (binOp op t (.int k x) (.int k' y)).run P w = .ok r w ∧ RA K β κ H z r := by
  unfold shiftOp at h
  split at h
  · cases h
  · rename_i hy
    rcases hs with rfl | rfl
    · injection h with h; subst h; exact ⟨_, by simp [binOp, Op.shift, hy], .int _ _⟩
    · injection h with h; subst h; exact ⟨_, by simp [binOp, Op.shift, hy], .int _ _⟩

theorem strOp_sound {op : BinOp} {x y : ByteArray} {z : AVal} {t : TypeId} (h : strOp op x y some = some z) : ∃ r, (binOp op t (.string x) (.string y)).run P w = .ok r w ∧ RA K β κ H z r := by
  unfold strOp at h
  cases op <;> simp only at h <;> first
    | cases h; done
    | (unfold onCat at h
       split at h
       · injection h with h; subst h; rename_i hy
         refine ⟨.string (x ++ y), ?_, .d (.v _ rfl)⟩
         have : ¬ ((x.size + y.size : Nat) : Int) > IntKind.i64.max := by
           have e : IntKind.i64.max = 9223372036854775807 := rfl
           rw [e]; omega
         simp only [binOp, Op.stringOp, this, if_false]
         rfl
       · cases h)
    | (injection h with h; subst h; exact ⟨_, by simp only [binOp, Op.stringOp]; rfl, .b _⟩)

theorem run_equalIn_slice {t e : TypeId} (hu : P.underlying t = some (.slice e)) {a b : Option Addr} {n c m d : Nat} (h : a = none ∨ b = none) :
    (Op.equal t (.slice a n c) (.slice b m d)).run P w = .ok (a.isNone && b.isNone) w := by
  show (Op.equalIn (9999 + 1) t _ _).run P w = _
  unfold Op.equalIn
  simp only [Sem.run_bind, run_under hu, Result.andThen_ok]
  cases a <;> cases b <;> first | rfl | simp at h

theorem eqNil_sound {t : TypeId} {cst : Bool} {x y : AVal} {u v : Value} {r : Bool} (hx : RA K β κ H x u) (hy : RA K β κ H y v) (h : eqNil P t cst x y = some r) :
    (Op.equal t u v).run P w = .ok r w ∧ ((u = .nilIface ∧ v = .nilIface) → cst = true) ∧ (∀ cs, u ≠ .agg cs) := by
  unfold eqNil at h
  split at h
  · rename_i hu
    injection h with h; subst h
    have := hy.dv; subst this
    cases hx with
    | d hv => cases hv with
      | nil _ _ _ hf => exact (hf rfl).elim
      | emp => exact ⟨run_equalIn_slice hu (.inr rfl), by simp, by simp⟩
      | sl => exact ⟨run_equalIn_slice hu (.inr rfl), by simp, by simp⟩
  · rename_i hu
    injection h with h; subst h
    have := hy.dv; subst this
    cases hx with
    | d hv => cases hv with
      | nil _ _ _ hf => exact ⟨run_equalIn_slice hu (.inr rfl), by simp, by simp⟩
      | emp _ _ _ _ hf => exact (hf rfl).elim
      | sl _ _ _ _ _ _ hf => exact (hf rfl).elim
  · rename_i hu
    injection h with h; subst h
    have := hy.dv; subst this
    have := hx.dv; subst this
    exact ⟨run_equalIn_slice hu (.inr rfl), by simp, by simp⟩
  · rename_i ms hu
    split at h
    · injection h with h; subst h
      have := hy.dv; subst this
      have := hx.dv; subst this
      refine ⟨?_, fun _ => by assumption, by simp⟩
      show (Op.equalIn (9999 + 1) t _ _).run P w = _
      unfold Op.equalIn
      simp only [Sem.run_bind, run_under hu, Result.andThen_ok, Sem.run_pure]
    · cases h
  · rename_i ms hu
    injection h with h; subst h
    have := hy.dv; subst this
    cases hx with
    | d hv => cases hv with
      | ifc =>
        refine ⟨?_, by simp, by simp⟩
        show (Op.equalIn (9999 + 1) t _ _).run P w = _
        unfold Op.equalIn
        simp only [Sem.run_bind, run_under hu, Result.andThen_ok, Sem.run_pure]
  · rename_i ms hu
    injection h with h; subst h
    have := hx.dv; subst this
    cases hy with
    | d hv => cases hv with
      | ifc =>
        refine ⟨?_, by simp, by simp⟩
        show (Op.equalIn (9999 + 1) t _ _).run P w = _
        unfold Op.equalIn
        simp only [Sem.run_bind, run_under hu, Result.andThen_ok, Sem.run_pure]
  · rename_i hu
    injection h with h; subst h
    have := hy.dv; subst this
    have := hx.dv; subst this
    refine ⟨?_, by simp, by simp⟩
    show (Op.equalIn (9999 + 1) t _ _).run P w = _
    unfold Op.equalIn
    simp only [Sem.run_bind, run_under hu, Result.andThen_ok, Sem.run_pure]
  · cases h

theorem eqGuard_const {op : BinOp} {t : TypeId} {x y : Operand} (h : (isConstB x || isConstB y) = true) : (eqGuard op t x y .nilIface .nilIface).run P w = .ok () w := by
  unfold eqGuard
  cases x <;> cases y <;> simp [isConstB] at h <;> cases op <;> rfl

theorem binOp_eql {t : TypeId} {u v : Value} {r : Bool} (hint : ∀ k a k' b, ¬ (u = .int k a ∧ v = .int k' b)) (hfl : ∀ k a k' b, ¬ (u = .float k a ∧ v = .float k' b)) (hcx : ∀ k a b k' c d, ¬ (u = .complex k a b ∧ v = .complex k' c d)) (hst : ∀ a b, ¬ (u = .string a ∧ v = .string b))
    (h : (Op.equal t u v).run P w = .ok r w) : (binOp .eql t u v).run P w = .ok (.bool r) w ∧ (binOp .neq t u v).run P w = .ok (.bool !r) w := by
  constructor
  · unfold binOp
    split <;> first
      | (exfalso; simp_all; done)
      | (exfalso; exact hint _ _ _ _ ⟨rfl, rfl⟩)
      | (exfalso; exact hfl _ _ _ _ ⟨rfl, rfl⟩)
      | (exfalso; exact hcx _ _ _ _ _ _ ⟨rfl, rfl⟩)
      | (exfalso; exact hst _ _ ⟨rfl, rfl⟩)
      | (simp only [Sem.run_bind, h, Result.andThen_ok, Sem.run_pure])
  · unfold binOp
    split <;> first
      | (exfalso; simp_all; done)
      | (exfalso; exact hint _ _ _ _ ⟨rfl, rfl⟩)
      | (exfalso; exact hfl _ _ _ _ ⟨rfl, rfl⟩)
      | (exfalso; exact hcx _ _ _ _ _ _ ⟨rfl, rfl⟩)
      | (exfalso; exact hst _ _ ⟨rfl, rfl⟩)
      | (simp only [Sem.run_bind, h, Result.andThen_ok, Sem.run_pure])
end Go.Eng

namespace Go.Eng
open Go

variable {P : Program} {K : KMap} {β κ : Nat → Nat} {H : Heap} {w : World} {Fr : Nat → Prop}

theorem binK_sound {op : BinOp} {t : TypeId} {xo yo : Operand} {x y z : AVal} {u v : Value} (hx : RA K β κ H x u) (hy : RA K β κ H y v)
    (h : binK P t (isConstB xo || isConstB yo) op x y some = some z) : ∃ r, (do eqGuard op t xo yo u v; binOp op t u v).run P w = .ok r w ∧ RA K β κ H z r := by
  unfold binK at h
  split at h
  · have := hx.dv; subst this; have := hy.dv; subst this
    simp only [Sem.run_bind, eqGuard_other (P := P) (w := w) (op := .shl) (t := t) (x := xo) (y := yo) (u := .int _ _) (v := .int _ _) (by simp) (by simp), Result.andThen_ok]
    exact shiftOp_sound (.inl rfl) h
  · have := hx.dv; subst this; have := hy.dv; subst this
    simp only [Sem.run_bind, eqGuard_other (P := P) (w := w) (op := .shr) (t := t) (x := xo) (y := yo) (u := .int _ _) (v := .int _ _) (by simp) (by simp), Result.andThen_ok]
    exact shiftOp_sound (.inr rfl) h
  · rename_i h1 h2
    have := hx.dv; subst this; have := hy.dv; subst this
    split at h
    · rename_i hk; subst hk
      simp only [Sem.run_bind, eqGuard_other (P := P) (w := w) (op := op) (t := t) (x := xo) (y := yo) (u := .int _ _) (v := .int _ _) (by simp) (by simp), Result.andThen_ok]
      refine intOp_sound ⟨fun e => ?_, fun e => ?_⟩ h
      · subst e; first | exact h1 rfl | exact h1 _ _ _ _ rfl rfl rfl | simp_all
      · subst e; first | exact h2 rfl | exact h2 _ _ _ _ rfl rfl rfl | simp_all
    · cases h
  · have := hx.dv; subst this; have := hy.dv; subst this
    simp only [Sem.run_bind, eqGuard_other (P := P) (w := w) (op := op) (t := t) (x := xo) (y := yo) (u := .string _) (v := .string _) (by simp) (by simp), Result.andThen_ok]
    exact strOp_sound h
  · rename_i h3 h4
    split at h
    · rename_i r hr
      injection h with h; subst h
      obtain ⟨e1, e2, e3⟩ := eqNil_sound (w := w) hx hy hr
      have hg : (eqGuard .eql t xo yo u v).run P w = .ok () w := by
        by_cases hn : u = .nilIface ∧ v = .nilIface
        · obtain ⟨rfl, rfl⟩ := hn; exact eqGuard_const (e2 ⟨rfl, rfl⟩)
        · exact eqGuard_other hn e3
      simp only [Sem.run_bind, hg, Result.andThen_ok]
      refine ⟨.bool r, (binOp_eql ?_ ?_ ?_ ?_ e1).1, .b r⟩
      all_goals
        unfold eqNil at hr
        split at hr <;> first
          | (cases hr; done)
          | (have hv := hy.dv; subst hv; intros; simp)
          | (have hv := hx.dv; subst hv; intros; simp)
    · cases h
  · rename_i h3 h4
    split at h
    · rename_i r hr
      injection h with h; subst h
      obtain ⟨e1, e2, e3⟩ := eqNil_sound (w := w) hx hy hr
      have hg : (eqGuard .neq t xo yo u v).run P w = .ok () w := by
        by_cases hn : u = .nilIface ∧ v = .nilIface
        · obtain ⟨rfl, rfl⟩ := hn; exact eqGuard_const (e2 ⟨rfl, rfl⟩)
        · exact eqGuard_other hn e3
      simp only [Sem.run_bind, hg, Result.andThen_ok]
      refine ⟨.bool !r, (binOp_eql ?_ ?_ ?_ ?_ e1).2, .b _⟩
      all_goals
        unfold eqNil at hr
        split at hr <;> first
          | (cases hr; done)
          | (have hv := hy.dv; subst hv; intros; simp)
          | (have hv := hx.dv; subst hv; intros; simp)
    · cases h
  · cases h

theorem unK_sound {op : UnOp} {x z : AVal} {u : Value} (hx : RA K β κ H x u) (h : unK op x some = some z) : ∃ r, (Op.unary op u).run P w = .ok r w ∧ RA K β κ H z r := by
  unfold unK at h
  split at h
  · have := hx.dv; subst this; injection h with h; subst h; exact ⟨_, rfl, .int _ _⟩
  · have := hx.dv; subst this; injection h with h; subst h; exact ⟨_, rfl, .b _⟩
  · cases h

theorem convK_sound {src dst : TypeId} {x z : AVal} {u : Value} (hs : ∃ d, P.underlying src = some d) (hx : RA K β κ H x u) (h : convK P dst x some = some z) : ∃ r, (convert src dst u).run P w = .ok r w ∧ RA K β κ H z r := by
  obtain ⟨d, hd⟩ := hs
  unfold convK at h
  split at h
  · rename_i hu
    have := hx.dv; subst this; injection h with h; subst h
    refine ⟨_, ?_, .int _ _⟩
    simp only [convert, Sem.run_bind, run_under hd, run_under hu, Result.andThen_ok]
    cases d <;> rfl
  · rename_i hu
    have := hx.dv; subst this; injection h with h; subst h
    refine ⟨_, ?_, .d (.v _ rfl)⟩
    simp only [convert, Sem.run_bind, run_under hd, run_under hu, Result.andThen_ok]
    cases d <;> rfl
  · cases h

theorem addOff_sound {x z : AVal} {n : Nat} {u : Value} (hx : RA K β κ H x u) (h : addOff x n some = some z) :
    ∃ bl o, u = .pointer (some ⟨bl, o, none⟩) ∧ RA K β κ H z (.pointer (some ⟨bl, o + n, none⟩)) := by
  unfold addOff at h
  split at h
  · injection h with h; subst h
    cases hx with | ptr hc => exact ⟨_, _, rfl, .ptr hc⟩
  · injection h with h; subst h
    cases hx with
    | ep hc hv hf => exact ⟨_, _, rfl, .ep hc hv fun e => ⟨(hf e).1, by rw [(hf e).2, Nat.add_assoc]⟩⟩
  · injection h with h; subst h
    cases hx with
    | d hv => cases hv with
      | rp row off bl o hc =>
        refine ⟨_, _, rfl, .d (.rp _ _ _ _ ?_)⟩
        have := hc.drop n
        simpa [List.drop_drop, Nat.add_comm] using this
  · cases h
end Go.Eng

namespace Go.Eng
open Go

variable {P : Program} {K : KMap} {β κ : Nat → Nat} {H : Heap} {w : World} {Fr : Nat → Prop}

theorem info_of_cells {t : TypeId} (h : 0 < P.cellsOf t) : ∃ i, P.info? t = some i := by
  unfold Program.cellsOf at h
  cases hi : P.info? t with
  | none => simp [hi] at h
  | some i => exact ⟨i, rfl⟩

theorem fieldAt_some {s f off : Nat} {t : TypeId} (h : fieldAt P s f = some (off, t)) : ∃ fs x, P.underlying s = some (.struct fs) ∧ fs[f]? = some x ∧ x.offset = off ∧ x.type = t ∧ 0 < P.cellsOf t := by
  unfold fieldAt at h
  split at h
  · rename_i fs hu
    split at h
    · rename_i x hx
      split at h
      · cases h
      · rename_i hc
        injection h with h; injection h with h1 h2; subst h1; subst h2
        exact ⟨fs, x, hu, by simpa using hx, rfl, rfl, Nat.pos_of_ne_zero hc⟩
    · cases h
  · cases h

theorem fieldAddr_sound {s f off : Nat} {t : TypeId} {x z : AVal} {u : Value} (hf : fieldAt P s f = some (off, t)) (hx : RA K β κ H x u) (h : addOff x off some = some z) :
    ∃ r, (Instr.fieldAt s u f).run P w = .ok r w ∧ RA K β κ H z r := by
  obtain ⟨fs, y, h1, h2, h3, h4, h5⟩ := fieldAt_some hf
  obtain ⟨bl, o, rfl, hr⟩ := addOff_sound hx h
  obtain ⟨i, hi⟩ := info_of_cells h5
  refine ⟨_, ?_, hr⟩
  subst h3; subst h4
  simp only [Instr.fieldAt, Sem.run_bind, run_under h1, Result.andThen_ok, h2, Instr.sureAddr, Sem.run_pure, fieldPlace, run_size hi, Nat.ne_of_gt h5, if_false, addr_add]

theorem partK_sound {t : TypeId} {cs : List AVal} {off : Nat} {z : AVal} {vs : List Value} (hx : RAs K β κ H cs vs) (h : partK P t cs off some = some z) : ∃ r, (part t ⟨vs⟩ off).run P w = .ok r w ∧ RA K β κ H z r := by
  unfold partK at h
  split at h
  · rename_i ha
    split at h
    · injection h with h; subst h
      obtain ⟨i, hi⟩ := aggTy_info ha
      refine ⟨_, ?_, .agg ((hx.drop off).take _)⟩
      simp only [part, Sem.run_bind, run_aggTy ha, Result.andThen_ok, if_true, run_size hi, Sem.run_pure]
      congr 2
      apply Array.ext'
      simp [Array.toList_extract, List.extract]
    · cases h
  · rename_i ha
    split at h
    · rename_i y hy
      injection h with h; subst h
      obtain ⟨v, h1, h2⟩ := hx.get hy
      refine ⟨v, ?_, h2⟩
      simp only [part, Sem.run_bind, run_aggTy ha, Result.andThen_ok, Bool.false_eq_true, if_false]
      have : (⟨vs⟩ : Array Value)[off]? = some v := by simpa using h1
      rw [this]; rfl
    · cases h
  · cases h

theorem partK_load {t : TypeId} {cs : List AVal} {off : Nat} {z : AVal} {vs : List Value} {bl : Nat} (hb : Held w bl vs) (hx : RAs K β κ H cs vs) (h : partK P t cs off some = some z) : ∃ r, (loadVar t ⟨bl, off, none⟩).run P w = .ok r w ∧ RA K β κ H z r := by
  unfold partK at h
  split at h
  · rename_i ha
    split at h
    · rename_i hl
      injection h with h; subst h
      have hlen := hx.length
      refine ⟨_, run_loadAgg (us := (vs.drop off).take (P.cellsOf t)) ha (by simp; omega) (fun j v hv => ?_), .agg ((hx.drop off).take _)⟩
      rw [hb.cell]
      rw [List.getElem?_take] at hv
      split at hv
      · simpa using hv
      · cases hv
    · cases h
  · rename_i ha
    split at h
    · rename_i y hy
      injection h with h; subst h
      obtain ⟨v, h1, h2⟩ := hx.get hy
      exact ⟨v, run_loadOne ha (by rw [hb.cell]; exact h1), h2⟩
    · cases h
  · cases h

theorem field_sound {s f off : Nat} {t : TypeId} {cs : List AVal} {z : AVal} {u : Value} (hf : fieldAt P s f = some (off, t)) (hx : RA K β κ H (.agg cs) u) (h : partK P t cs off some = some z) :
    ∃ r, (Instr.field s u f).run P w = .ok r w ∧ RA K β κ H z r := by
  obtain ⟨fs, y, h1, h2, h3, h4, h5⟩ := fieldAt_some hf
  cases hx with
  | agg hs =>
    obtain ⟨r, h6, h7⟩ := partK_sound (w := w) hs h
    refine ⟨r, ?_, h7⟩
    subst h3; subst h4
    simp only [Instr.field, Sem.run_bind, run_under h1, Result.andThen_ok, h2, asAgg, Sem.run_pure, h6]

theorem indexAddr_slice {t e : TypeId} (hu : P.underlying t = some (.slice e)) (he : 0 < P.cellsOf e) {bl o n cap : Nat} {a : Option Addr} {k : IntKind} {i : Int} (h0 : 0 ≤ i) (h1 : i.toNat < n) (ha : n ≠ 0 → a = some ⟨bl, o, none⟩) :
    (Instr.indexAt t (.slice a n cap) (.int k i)).run P w = .ok (.pointer (some ⟨bl, o + i.toNat * P.cellsOf e, none⟩)) w := by
  obtain ⟨inf, hi⟩ := info_of_cells he
  have := ha (by omega); subst this
  have hlt : 0 ≤ i ∧ i < (n : Int) := ⟨h0, by omega⟩
  simp only [Instr.indexAt, Sem.run_bind, asIntOf, Sem.run_pure, Result.andThen_ok, run_under hu, hlt, and_self, if_true, run_size hi, addr_add]

theorem indexAddrK_sound {t : TypeId} {x i z : AVal} {u v : Value} (hx : RA K β κ H x u) (hi : RA K β κ H i v) (h : indexAddrK P t x i some = some z) :
    ∃ r, (Instr.indexAt t u v).run P w = .ok r w ∧ RA K β κ H z r := by
  unfold indexAddrK at h
  split at h
  · rename_i e fl sz rows k i hu
    have := hi.dv; subst this
    split at h
    · rename_i hc
      simp only [Bool.and_eq_true, decide_eq_true_eq] at hc
      obtain ⟨h0, h1, h2⟩ := onIx_some h
      obtain ⟨row, h3, h4⟩ := onRow_some h2
      injection h4 with h4; subst h4
      cases hx with
      | d hv =>
        cases hv with
        | nil => simp at h1
        | emp => simp at h1
        | sl _ _ _ bl o cap hf hcap hr =>
          obtain ⟨hl, hcl⟩ := hr.get h3
          refine ⟨_, indexAddr_slice hu (hc.1 ▸ hc.2) h0 h1 (fun _ => rfl), .d (.rp _ _ _ _ ?_)⟩
          rw [← hc.1]; simpa using hcl
    · cases h
  · rename_i e id ver sz off len k i hu
    have := hi.dv; subst this
    split at h
    · rename_i hc
      simp only [Bool.and_eq_true, decide_eq_true_eq] at hc
      obtain ⟨h0, h1, h2⟩ := onIx_some h
      injection h2 with h2; subst h2
      cases hx with
      | hs hcur hver hsl hf =>
        obtain ⟨a, cap, rfl, hcap, ha⟩ := hsl
        refine ⟨_, indexAddr_slice hu (hc.1 ▸ hc.2) h0 h1 ha, .ep hcur hver fun ev => ?_⟩
        obtain ⟨hb, ho⟩ := (hf ev).2 (by omega)
        exact ⟨hb, by rw [ho, hc.1, Nat.add_mul]; omega⟩
    · cases h
  · rename_i e id ver sz len k i hu
    have := hi.dv; subst this
    split at h
    · rename_i hc
      simp only [Bool.and_eq_true, decide_eq_true_eq] at hc
      obtain ⟨h0, h1, h2⟩ := onIx_some h
      injection h2 with h2; subst h2
      cases hx with
      | vh hcur hver hsl hf =>
        obtain ⟨a, cap, rfl, hcap, ha⟩ := hsl
        refine ⟨_, indexAddr_slice hu (hc.1 ▸ hc.2) h0 h1 ha, .ep hcur hver fun ev => ?_⟩
        obtain ⟨hn, hv⟩ := hf ev
        rcases hv with ⟨hz, _⟩ | ⟨hz, hv⟩
        · omega
        · injection hv with hv1 hv2 hv3
          have := ha (by omega); rw [this] at hv1; injection hv1 with hv1; injection hv1 with hv1 _ _
          exact ⟨hv1, by rw [hc.1]; omega⟩
    · cases h
  · rename_i n el k i hu
    have := hi.dv; subst this
    split at h
    · rename_i he
      obtain ⟨m, rfl, _, h2, h3⟩ := onEnum_some h
      obtain ⟨bl, o, rfl, hr⟩ := addOff_sound hx h3
      obtain ⟨inf, hinf⟩ := info_of_cells he
      refine ⟨_, ?_, hr⟩
      have hlt : 0 ≤ (m : Int) ∧ (m : Int) < (n : Int) := ⟨by omega, by omega⟩
      simp only [Instr.indexAt, Sem.run_bind, asIntOf, Sem.run_pure, Result.andThen_ok, run_under hu, Instr.sureAddr, hlt, and_self, if_true, run_size hinf, addr_add, Int.toNat_natCast]
    · cases h
  · cases h

theorem onByte_some {A : Type} {s : ByteArray} {i : Int} {f : UInt8 → Option A} {r : A} (h : onByte s i f = some r) : 0 ≤ i ∧ ∃ c, s[i.toNat]? = some c ∧ f c = some r := by
  unfold onByte at h; split at h
  · split at h
    · exact ⟨by assumption, _, by assumption, h⟩
    · cases h
  · cases h

theorem indexK_sound {t : TypeId} {x i z : AVal} {u v : Value} (hx : RA K β κ H x u) (hi : RA K β κ H i v) (h : indexK P t x i some = some z) :
    ∃ r, (Instr.index t u v).run P w = .ok r w ∧ RA K β κ H z r := by
  unfold indexK at h
  split at h
  · rename_i len e cs k i hu
    have := hi.dv; subst this
    split at h
    · rename_i he
      obtain ⟨m, rfl, _, h2, h3⟩ := onEnum_some h
      cases hx with
      | agg hs =>
        obtain ⟨inf, hinf⟩ := info_of_cells he
        obtain ⟨r, h4, h5⟩ := partK_sound (w := w) hs h3
        refine ⟨r, ?_, h5⟩
        have hlt : 0 ≤ (m : Int) ∧ (m : Int) < (len : Int) := ⟨by omega, by omega⟩
        simp only [Instr.index, Sem.run_bind, asIntOf, Sem.run_pure, Result.andThen_ok, run_under hu, hlt, and_self, if_true, run_size hinf, Int.toNat_natCast, h4]
    · cases h
  · rename_i s k i hu
    have := hi.dv; subst this
    have := hx.dv; subst this
    obtain ⟨h0, c, h1, h2⟩ := onByte_some h
    injection h2 with h2; subst h2
    refine ⟨_, ?_, .int _ _⟩
    simp only [Instr.index, Sem.run_bind, asIntOf, Sem.run_pure, Result.andThen_ok, run_under hu, h0, if_true, h1]
  · cases h

theorem lenK_sound {t : TypeId} {x z : AVal} {u : Value} {ty : TypeId} (hx : RA K β κ H x u) (h : lenK P t x some = some z) : ∃ r, (Builtin.len_ #[t] ty #[u]).run P w = .ok r w ∧ RA K β κ H z r := by
  unfold lenK at h
  split at h
  · rename_i hu
    injection h with h; subst h
    refine ⟨_, ?_, .int _ _⟩
    cases hx with
    | d hv => cases hv <;> (simp [Builtin.len_, run_under hu, goInt])
  · rename_i hu
    injection h with h; subst h
    have := hx.dv; subst this
    refine ⟨_, ?_, .int _ _⟩
    simp [Builtin.len_, run_under hu, goInt]
  · rename_i hu
    injection h with h; subst h
    refine ⟨_, ?_, .int _ _⟩
    cases hx with
    | hs hcur hver hsl hf =>
      obtain ⟨a, cap, rfl, hcap, ha⟩ := hsl
      simp [Builtin.len_, run_under hu, goInt]
  · rename_i hu
    injection h with h; subst h
    refine ⟨_, ?_, .int _ _⟩
    cases hx with
    | vh hcur hver hsl hf =>
      obtain ⟨a, cap, rfl, hcap, ha⟩ := hsl
      simp [Builtin.len_, run_under hu, goInt]
  · rename_i hu
    injection h with h; subst h
    have := hx.dv; subst this
    refine ⟨_, ?_, .int _ _⟩
    simp [Builtin.len_, run_under hu, goInt]
  · cases h

theorem minK_sound {x y z : AVal} {u v : Value} (hx : RA K β κ H x u) (hy : RA K β κ H y v) (h : minK x y some = some z) : ∃ r, (Builtin.min2 u v).run P w = .ok r w ∧ RA K β κ H z r := by
  unfold minK at h
  split at h
  · have := hx.dv; subst this; have := hy.dv; subst this
    injection h with h; subst h; exact ⟨_, rfl, .int _ _⟩
  · cases h
theorem maxK_sound {x y z : AVal} {u v : Value} (hx : RA K β κ H x u) (hy : RA K β κ H y v) (h : maxK x y some = some z) : ∃ r, (Builtin.max2 u v).run P w = .ok r w ∧ RA K β κ H z r := by
  unfold maxK at h
  split at h
  · have := hx.dv; subst this; have := hy.dv; subst this
    injection h with h; subst h; exact ⟨_, rfl, .int _ _⟩
  · cases h

theorem foldK_sound {g : ∀ {A : Type}, AVal → AVal → (AVal → Option A) → Option A} (hg : ∀ {A B : Type} (x y : AVal) (f : AVal → Option A) (h : A → Option B), (g x y f).bind h = g x y fun n => (f n).bind h)
    {r2 : Value → Value → Sem Value} (hs : ∀ {x y z : AVal} {u v : Value}, RA K β κ H x u → RA K β κ H y v → g x y some = some z → ∃ r, (r2 u v).run P w = .ok r w ∧ RA K β κ H z r)
    {ys : List AVal} : ∀ {x z : AVal} {u : Value} {vs : List Value}, RA K β κ H x u → RAs K β κ H ys vs → foldK g x ys some = some z → ∃ r, (vs.foldlM r2 u).run P w = .ok r w ∧ RA K β κ H z r := by
  induction ys with
  | nil => intro x z u vs hx hv h; cases hv; injection h with h; subst h; exact ⟨u, rfl, hx⟩
  | cons y ys ih =>
    intro x z u vs hx hv h
    cases hv with
    | cons h1 h2 =>
      simp only [foldK] at h
      obtain ⟨y', hy, h⟩ := par1 (g := fun {A} f => g x y f) (fun f h => hg x y f h) h
      obtain ⟨r, h3, h4⟩ := hs hx h1 hy
      obtain ⟨r', h5, h6⟩ := ih h4 h2 h
      refine ⟨r', ?_, h6⟩
      simp only [List.foldlM_cons, Sem.run_bind, h3, Result.andThen_ok, h5]
end Go.Eng

namespace Go.Eng
open Go

variable {P : Program} {K : KMap} {β κ : Nat → Nat} {H : Heap} {w : World} {Fr : Nat → Prop}

theorem bndK_some {A : Type} {most d : Nat} {o : Option AVal} {f : Nat → Option A} {r : A} (h : bndK most o d f = some r) :
    ∃ n, f n = some r ∧ ((o = none ∧ n = d) ∨ ∃ k i, o = some (.d (.v (.int k i))) ∧ 0 ≤ i ∧ i.toNat ≤ most ∧ n = i.toNat) := by
  unfold bndK at h
  split at h
  · exact ⟨d, h, .inl ⟨rfl, rfl⟩⟩
  · obtain ⟨h0, h1, h2⟩ := onIx_some h
    exact ⟨_, h2, .inr ⟨_, _, rfl, h0, by omega, rfl⟩⟩
  · cases h

theorem run_sliceBound {k : IntKind} {i : Int} {y : Nat} {c : BoundsCode} (h0 : 0 ≤ i) (h1 : i.toNat ≤ y) : (Instr.sliceBound (.int k i) y c).run P w = .ok i.toNat w := by
  have : 0 ≤ i ∧ i ≤ (y : Int) := ⟨h0, by omega⟩
  simp only [Instr.sliceBound, Sem.run_bind, asIntOf, Sem.run_pure, Result.andThen_ok, this, and_self, if_true]

theorem boundsK_sound {A : Type} {tm : Tm} {a : Act} (hf : FR K β κ H tm a.tmps) {len : Nat} {lo hi mx : Option Operand} {f : Nat → Nat → Option A} {r : A}
    (h : boundsK len (lo.map (ev tm)) (hi.map (ev tm)) (mx.map (ev tm)) f = some r) :
    ∃ l m, l ≤ m ∧ m ≤ len ∧ f l m = some r ∧ ∀ b cap, len ≤ cap → (Instr.sliceBounds b len cap (lo.map a.eval) (hi.map a.eval) (mx.map a.eval)).run P w = .ok (l, m, cap) w := by
  unfold boundsK at h
  split at h
  · rename_i hm
    obtain ⟨m, h1, h2⟩ := bndK_some h
    obtain ⟨l, h3, h4⟩ := bndK_some h1
    have hmx : mx = none := by cases mx <;> simp at hm ⊢
    subst hmx
    have hmlen : m ≤ len := by
      rcases h2 with ⟨_, rfl⟩ | ⟨_, _, _, _, _, rfl⟩
      · exact Nat.le_refl _
      · omega
    have hlm : l ≤ m := by
      rcases h4 with ⟨_, rfl⟩ | ⟨_, _, _, _, _, rfl⟩
      · omega
      · omega
    refine ⟨l, m, hlm, hmlen, h3, fun b cap hcap => ?_⟩
    have hopt : ∀ (o : Option Operand) (k : IntKind) (i : Int), o.map (ev tm) = some (.d (.v (.int k i))) → o.map a.eval = some (.int k i) := by
      intro o k i ho
      cases o with
      | none => simp at ho
      | some x =>
        simp only [Option.map_some, Option.some.injEq] at ho
        have := ev_sound (β := β) hf x
        rw [ho] at this
        simp [this.dv]
    have hnone : ∀ (o : Option Operand), o.map (ev tm) = none → o.map a.eval = none := by
      intro o ho; cases o <;> simp at ho ⊢
    have run_sb : ∀ {k : IntKind} {i : Int} {y : Nat} {c : BoundsCode}, 0 ≤ i → i.toNat ≤ y → (Instr.sliceBound (.int k i) y c).run P w = .ok i.toNat w := fun h0 h1 => run_sliceBound h0 h1
    unfold Instr.sliceBounds
    rcases h2 with ⟨h2, rfl⟩ | ⟨k, i, h2, h5, h6, rfl⟩
    · rw [hnone _ h2]
      rcases h4 with ⟨h4, rfl⟩ | ⟨k', i', h4, h7, h8, rfl⟩
      · rw [hnone _ h4]; rfl
      · rw [hopt _ _ _ h4]
        simp only [Option.map_none, Sem.run_bind, Sem.run_pure, Result.andThen_ok, run_sb h7 h8]
    · rw [hopt _ _ _ h2]
      rcases h4 with ⟨h4, rfl⟩ | ⟨k', i', h4, h7, h8, rfl⟩
      · rw [hnone _ h4]
        simp only [Option.map_none, Sem.run_bind, Sem.run_pure, Result.andThen_ok, run_sb h5 (Nat.le_trans h6 hcap)]
      · rw [hopt _ _ _ h4]
        simp only [Option.map_none, Sem.run_bind, Sem.run_pure, Result.andThen_ok, run_sb h5 (Nat.le_trans h6 hcap), run_sb h7 h8]
  · cases h

theorem slF_slice {bl o len l m sz : Nat} {a : Option Addr} {cap : Nat} (hcap : len ≤ cap) (ha : len ≠ 0 → a = some ⟨bl, o, none⟩) (hl : l ≤ m) (hm : m ≤ len) :
    SlF bl (o + l * sz) (m - l) (.slice (if cap = l then a else a.map (·.add (l * sz))) (m - l) (cap - l)) := by
  refine ⟨_, _, rfl, by omega, fun hne => ?_⟩
  rw [if_neg (by omega), ha (by omega)]
  simp [addr_add]

theorem sliceK_sound {tm : Tm} {a : Act} (hf : FR K β κ H tm a.tmps) {t : TypeId} {x : Operand} {lo hi mx : Option Operand} {z : AVal}
    (h : sliceK P t (ev tm x) (lo.map (ev tm)) (hi.map (ev tm)) (mx.map (ev tm)) some = some z) :
    ∃ r, (Instr.sliceAt t (a.eval x) (lo.map a.eval) (hi.map a.eval) (mx.map a.eval)).run P w = .ok r w ∧ RA K β κ H z r := by
  have hx := ev_sound hf x
  unfold sliceK at h
  split at h
  · rename_i e fl sz rows hu hxe
    rw [hxe] at hx
    split at h
    · rename_i hc
      simp only [Bool.and_eq_true, decide_eq_true_eq] at hc
      obtain ⟨l, m, h1, h2, h3, h4⟩ := boundsK_sound (w := w) (P := P) hf h
      injection h3 with h3; subst h3
      obtain ⟨inf, hinf⟩ := info_of_cells (hc.1 ▸ hc.2)
      generalize hv : a.eval x = v at hx
      cases hx with
      | d hx =>
        cases hx with
        | nil _ _ cap hfl =>
          have hb := h4 true cap (by simp)
          simp only [List.length_nil] at hb h2
          have : m = 0 := by omega
          subst this; have : l = 0 := by omega
          subst this
          refine ⟨.slice none 0 cap, ?_, .d ?_⟩
          · simp only [Instr.sliceAt, Sem.run_bind, run_under hu, Result.andThen_ok, Instr.slice, hb, run_size hinf, Sem.run_pure]
            split <;> simp
          · simpa using V.nil fl sz cap hfl
        | emp _ _ ad cap hfl =>
          have hb := h4 true cap (by simp)
          simp only [List.length_nil] at hb h2
          have : m = 0 := by omega
          subst this; have : l = 0 := by omega
          subst this
          refine ⟨.slice (some ad) 0 cap, ?_, .d ?_⟩
          · simp only [Instr.sliceAt, Sem.run_bind, run_under hu, Result.andThen_ok, Instr.slice, hb, run_size hinf, Sem.run_pure, Nat.zero_mul]
            split <;> simp [Addr.add]
          · simpa using V.emp fl sz ad cap hfl
        | sl _ _ _ bl o cap hfl hcap hr =>
          have hb := h4 true cap hcap
          have hlen : ((rows.take m).drop l).length = m - l := by simp; omega
          refine ⟨.slice (if cap = l then some ⟨bl, o, none⟩ else (some (⟨bl, o, none⟩ : Addr)).map (·.add (l * P.cellsOf e))) (m - l) (cap - l), ?_, .d ?_⟩
          · simp only [Instr.sliceAt, Sem.run_bind, run_under hu, Result.andThen_ok, Instr.slice, hb, run_size hinf, Sem.run_pure]
          · by_cases hz : m - l = 0
            · have hnil : (rows.take m).drop l = [] := List.eq_nil_of_length_eq_zero (by rw [hlen]; exact hz)
              rw [hnil, hz]
              split
              · exact .emp _ _ _ _ hfl
              · exact .emp _ _ _ _ hfl
            · rw [if_neg (by omega)]
              simp only [Option.map_some, addr_add]
              rw [← hlen]
              refine .sl _ _ _ _ _ _ hfl (by rw [hlen]; omega) ?_
              rw [← hc.1]
              exact (hr.take m).drop l
    · cases h
  · rename_i e id ver sz off len hu hxe
    rw [hxe] at hx
    split at h
    · rename_i hc
      simp only [Bool.and_eq_true, decide_eq_true_eq] at hc
      obtain ⟨l, m, h1, h2, h3, h4⟩ := boundsK_sound (w := w) (P := P) hf h
      injection h3 with h3; subst h3
      obtain ⟨inf, hinf⟩ := info_of_cells (hc.1 ▸ hc.2)
      generalize hv : a.eval x = v at hx
      cases hx with
      | hs hcur hver hsl hff =>
        obtain ⟨ad, cap, rfl, hcap, ha⟩ := hsl
        have hb := h4 true cap hcap
        refine ⟨_, ?_, .hs hcur hver (slF_slice (sz := P.cellsOf e) hcap ha h1 h2) fun ev => ?_⟩
        · simp only [Instr.sliceAt, Sem.run_bind, run_under hu, Result.andThen_ok, Instr.slice, hb, run_size hinf, Sem.run_pure]
        · obtain ⟨h5, h6⟩ := hff ev
          refine ⟨by omega, fun hne => ?_⟩
          obtain ⟨h7, h8⟩ := h6 (by omega)
          exact ⟨h7, by rw [h8, hc.1, Nat.add_mul]⟩
    · cases h
  · rename_i e id ver sz len hu hxe
    rw [hxe] at hx
    split at h
    · rename_i hc
      simp only [Bool.and_eq_true, decide_eq_true_eq] at hc
      obtain ⟨l, m, h1, h2, h3, h4⟩ := boundsK_sound (w := w) (P := P) hf h
      injection h3 with h3; subst h3
      obtain ⟨inf, hinf⟩ := info_of_cells (hc.1 ▸ hc.2)
      generalize hv : a.eval x = v at hx
      cases hx with
      | vh hcur hver hsl hff =>
        obtain ⟨ad, cap, rfl, hcap, ha⟩ := hsl
        have hb := h4 true cap hcap
        refine ⟨_, ?_, .hs hcur hver (slF_slice (sz := P.cellsOf e) hcap ha h1 h2) fun ev => ?_⟩
        · simp only [Instr.sliceAt, Sem.run_bind, run_under hu, Result.andThen_ok, Instr.slice, hb, run_size hinf, Sem.run_pure]
        · obtain ⟨h5, h6⟩ := hff ev
          refine ⟨by omega, fun hne => ?_⟩
          rcases h6 with ⟨h6, _⟩ | ⟨h6, h7⟩
          · omega
          · injection h7 with h7 h8 h9
            have := ha (by omega); rw [this] at h7; injection h7 with h7; injection h7 with h7 _ _
            exact ⟨h7, by rw [hc.1]; omega⟩
    · cases h
  · rename_i s hu hxe
    rw [hxe] at hx
    have hv := hx.dv
    obtain ⟨l, m, h1, h2, h3, h4⟩ := boundsK_sound (w := w) (P := P) hf h
    injection h3 with h3; subst h3
    have hb := h4 false s.size (Nat.le_refl _)
    have hmx : mx = none := by
      cases mx with
      | none => rfl
      | some y => simp [boundsK] at h
    subst hmx
    refine ⟨.string (s.extract l m), ?_, .d (.v _ rfl)⟩
    simp only [Instr.sliceAt, Sem.run_bind, run_under hu, Result.andThen_ok, hv, Instr.slice, Option.map_none, Option.isSome_none, Bool.false_eq_true, if_false, Sem.run_pure] at hb ⊢
    rw [hb]; rfl
  · cases h

/- Memory. -/
theorem plLoad_sound {t : TypeId} {x z : AVal} {u : Value} {H' : Heap} (s : SR Fr K β κ H w) (hx : RA K β κ H x u) (h : (plLoad P t x).run H (fun v H' => some (v, H')) = some (z, H')) :
    H' = H ∧ ∃ r, (Instr.loadAt t u).run P w = .ok r w ∧ RA K β κ H z r := by
  unfold plLoad at h
  split at h
  · rename_i row off
    simp only [Plan.run, viewsOf] at h
    obtain ⟨y, h1, h2⟩ := par1 (castLoad_bind P t row off) h
    injection h2 with h2; injection h2 with h2 h3; subst h2; subst h3
    cases hx with
    | d hv =>
      cases hv with
      | rp _ _ bl o hc =>
        obtain ⟨r, h4, h5⟩ := castLoad_sound (w := w) hc (fun i v hk => s.cell hk) h1
        exact ⟨rfl, r, by simpa [Instr.loadAt, Instr.sureAddr] using h4, h5⟩
  · rename_i id off
    simp only [Plan.run, viewsOf] at h
    split at h
    · rename_i blk hb
      cases blk with
      | cel cs =>
        simp only [ABlk.view] at h
        obtain ⟨y, h1, h2⟩ := par1 (partK_bind P t cs off) h
        injection h2 with h2; injection h2 with h2 h3; subst h2; subst h3
        cases hx with
        | ptr hc =>
          obtain ⟨vs, h3, h4, _, _⟩ := s.blk id _ hb
          obtain ⟨r, h5, h6⟩ := partK_load (P := P) h3 h4 h1
          exact ⟨rfl, r, by simpa [Instr.loadAt, Instr.sureAddr] using h5, h6⟩
      | gone => simp [ABlk.view] at h
      | arr => simp [ABlk.view] at h
      | vec => simp [ABlk.view] at h
      | frz => simp [ABlk.view] at h
    · cases h
  · rename_i id ver i off
    simp only [Plan.run, viewsOf] at h
    split at h
    · rename_i blk hb
      have key : ∀ sz ver' rows, blk.view = .rows sz ver' rows → (∃ n, curOf H id = some (sz, ver', n)) →
          (∀ row, rows[i]? = some row → ∃ g : Nat → Option Value, (∀ o v, g o = some v → w.cell? ⟨β id, o, none⟩ = some v) ∧ Cells K g (i * sz) row) →
          H' = H ∧ ∃ r, (Instr.loadAt t u).run P w = .ok r w ∧ RA K β κ H z r := by
        intro sz ver' rows hview hcur hcells
        simp only [hview] at h
        cases hver : Nat.beq ver ver' with
        | false => simp [hver] at h
        | true =>
          simp only [hver, cond_true] at h
          obtain ⟨row, h1, h2⟩ := onRow_some h
          obtain ⟨y, h3, h4⟩ := par1 (castLoad_bind P t row off) h2
          injection h4 with h4; injection h4 with h4 h5; subst h4; subst h5
          have hv : ver = ver' := Nat.eq_of_beq_eq_true hver
          obtain ⟨n, hcur⟩ := hcur
          cases hx with
          | ep hc hle hf =>
            rw [hcur] at hc; injection hc with hc; injection hc with e1 hc; injection hc with e2 e3
            subst e1; subst e2
            obtain ⟨rfl, rfl⟩ := hf hv
            obtain ⟨g, hg, hc⟩ := hcells row h1
            obtain ⟨r, h6, h7⟩ := castLoad_sound (w := w) (hc.drop off) hg h3
            exact ⟨rfl, r, by simpa [Instr.loadAt, Instr.sureAddr] using h6, h7⟩
      have hrel := s.blk id _ hb
      cases blk with
      | cel cs => simp [ABlk.view] at h
      | gone => simp [ABlk.view] at h
      | arr sz rows =>
        refine key sz 0 rows rfl ⟨rows.length, by simp [curOf, hb]⟩ fun row hr => ?_
        rcases hrel with rfl | ⟨vs, h1, h2, _⟩
        · simp at hr
        · exact ⟨fun o => vs[o]?, fun o v ho => by rw [h1.cell]; exact ho, by simpa using (h2.get hr).2⟩
      | vec sz v' rows =>
        refine key sz v' rows rfl ⟨rows.length, by simp [curOf, hb]⟩ fun row hr => ?_
        rcases hrel with rfl | ⟨vs, h1, h2, _⟩
        · simp at hr
        · exact ⟨fun o => vs[o]?, fun o v ho => by rw [h1.cell]; exact ho, by simpa using (h2.get hr).2⟩
      | frz sz v' rows =>
        refine key sz v' rows rfl ⟨rows.length, by simp [curOf, hb]⟩ fun row hr => ?_
        rcases hrel with rfl | h2
        · simp at hr
        · exact ⟨K (β id), fun o v ho => s.cell ho, by simpa using (h2.get hr).2⟩
    · cases h
  · cases h
end Go.Eng

namespace Go.Eng
open Go

variable {P : Program} {K : KMap} {β κ : Nat → Nat} {H : Heap} {w : World} {Fr : Nat → Prop}

theorem leafB_leafV {x : AVal} {v : Value} (hx : RA K β κ H x v) (h : x.leafB = true) : leafV v = true := by
  cases hx with
  | junk => cases h
  | d hv => cases hv <;> first | assumption | rfl | (cases h; done)
  | ptr => rfl
  | ep => rfl
  | hs _ _ hs _ => obtain ⟨a, cap, rfl, _⟩ := hs; rfl
  | vh _ _ hs _ => obtain ⟨a, cap, rfl, _⟩ := hs; rfl
  | agg => cases h
  | tup => cases h
  | fn => rfl

theorem allLeaf_vals {xs : List AVal} {vs : List Value} (hx : RAs K β κ H xs vs) (h : allLeaf xs = true) : ∀ v ∈ vs, leafV v = true := by
  induction xs generalizing vs with
  | nil => cases hx; simp
  | cons x xs ih =>
    cases hx with
    | cons h1 h2 =>
      simp only [allLeaf, Bool.and_eq_true] at h
      intro v hv
      rcases List.mem_cons.1 hv with rfl | hv
      · exact leafB_leafV h1 h.1
      · exact ih h2 h.2 v hv

theorem leaves_sound {y : AVal} {v : Value} (hy : RA K β κ H y v) (h : allLeaf (leaves y) = true) : ∃ us, v.cells = ⟨us⟩ ∧ RAs K β κ H (leaves y) us ∧ ∀ u ∈ us, leafV u = true := by
  have one : leaves y = [y] → ∃ us, v.cells = ⟨us⟩ ∧ RAs K β κ H (leaves y) us ∧ ∀ u ∈ us, leafV u = true := by
    intro e
    rw [e] at h ⊢
    simp only [allLeaf, Bool.and_true] at h
    have hl := leafB_leafV hy h
    exact ⟨[v], by rw [leafV_cells hl], .cons hy .nil, by simpa using hl⟩
  cases hy with
  | agg hs => exact ⟨_, rfl, hs, allLeaf_vals hs h⟩
  | d hv =>
    cases hv with
    | agg cs vs hvs =>
      have := RAs.ofVs (β := β) (κ := κ) (H := H) hvs
      exact ⟨vs, rfl, this, allLeaf_vals this h⟩
    | _ => exact one rfl
  | _ => exact one rfl

def curB : ABlk → Option (Nat × Nat × Nat)
  | .arr sz rows => some (sz, 0, rows.length)
  | .vec sz ver rows => some (sz, ver, rows.length)
  | .frz sz ver rows => some (sz, ver, rows.length)
  | _ => none
theorem curOf_eq (H : Heap) (id : Nat) : curOf H id = (H[id]?).bind curB := by
  unfold curOf; split <;> simp_all [curB]
  rename_i h1 h2 h3
  cases h : H[id]? with
  | none => rfl
  | some b => cases b <;> simp_all [curB]

theorem get_set {H : Heap} {id : Nat} {old new : ABlk} (hid : H[id]? = some old) (j : Nat) : (H.set id new)[j]? = if id = j then some new else H[j]? := by
  rw [List.getElem?_set]
  have := (List.getElem?_eq_some_iff.1 hid).1
  split
  · simp_all
  · rfl

/-- One block changes, in place. -/
theorem ext_set {id : Nat} {old new : ABlk} (hid : H[id]? = some old) (hc : ∀ cs, old = .cel cs → ∃ cs', new = .cel cs') (hcur : curB new = curB old) (hk : ∀ sz rows', new = .arr sz rows' → ∃ rows, old = .arr sz rows) : Ext K β κ H K β κ (H.set id new) := by
  refine ⟨.refl _, fun j hj => ?_, fun j sz cv n hj => ?_, fun j x sz rows' hx hx' => ?_⟩
  · obtain ⟨cs, hj⟩ := hj
    refine ⟨?_, rfl⟩
    unfold isCel
    rw [get_set hid]
    split
    · subst_vars
      rw [hid] at hj; injection hj with hj
      obtain ⟨cs', h⟩ := hc cs hj
      exact ⟨cs', by rw [h]⟩
    · exact ⟨cs, hj⟩
  · refine ⟨cv, n, ?_, .inl ⟨rfl, rfl, rfl, rfl⟩⟩
    rw [curOf_eq] at hj ⊢
    rw [get_set hid]
    split
    · subst_vars
      rw [hid] at hj; simpa [hcur] using hj
    · exact hj
  · rw [get_set hid] at hx'
    split at hx'
    · subst_vars
      injection hx' with hx'
      rw [hid] at hx; injection hx with hx; subst hx
      exact .inr (hk _ _ hx')
    · rw [hx] at hx'; injection hx' with hx'; exact .inr ⟨_, hx'⟩

theorem BRel.mono {K' : KMap} {β' κ' : Nat → Nat} {H' : Heap} {w' : World} (hE : Ext K β κ H K' β' κ' H') {id : Nat} {x : ABlk} (hb : β' id = β id) (hk : κ' id = κ id)
    (hK : owns x → ∀ o, K (β id) o = none → K' (β id) o = none) (hw : owns x → ∀ vs, Held w (β id) vs → Held w' (β id) vs) (h : BRel K β κ H w id x) : BRel K' β' κ' H' w' id x := by
  cases x with
  | gone => trivial
  | cel cs =>
    obtain ⟨vs, h1, h2, h3, h4⟩ := h
    exact ⟨vs, by rw [hb]; exact hw trivial _ h1, h2.mono hE, h3, fun o => by rw [hb]; exact hK trivial o (h4 o)⟩
  | arr sz rows =>
    rcases h with h | ⟨vs, h1, h2, h3⟩
    · exact .inl h
    · by_cases hn : rows = []
      · exact .inl hn
      · exact .inr ⟨vs, by rw [hb]; exact hw hn _ h1, h2.mono hE.kle (fun _ _ e => e), fun o => by rw [hb]; exact hK hn o (h3 o)⟩
  | vec sz ver rows =>
    rcases h with h | ⟨vs, h1, h2, h3, h4, h5⟩
    · exact .inl h
    · by_cases hn : rows = []
      · exact .inl hn
      · exact .inr ⟨vs, by rw [hb]; exact hw hn _ h1, h2.mono hE.kle (fun _ _ e => e), fun o => by rw [hb]; exact hK hn o (h3 o), by rw [hk]; exact h4, by rw [hk]; exact h5⟩
  | frz sz ver rows =>
    rcases h with h | h
    · exact .inl h
    · exact .inr (by rw [hb]; exact h.mono hE.kle (hE.kle _))

/-- One block that the abstract heap owns is written. -/
theorem SR.update (s : SR Fr K β κ H w) {id : Nat} {old new : ABlk} {vs vs0 : List Value} {w' : World} (hid : H[id]? = some old) (ho : owns old) (hn : owns new) (h0 : Held w (β id) vs0) (hl0 : vs.length = vs0.length)
    (hK : ∀ o, K (β id) o = none) (hu : Upd w (β id) vs w') (hE : Ext K β κ H K β κ (H.set id new)) (hB : BRel K β κ (H.set id new) w' id new) :
    SR Fr K β κ (H.set id new) w' ∧ Keep Fr w w' := by
  have hfr := s.nfr id old hid ho
  refine ⟨⟨fun bl o v hk => ?_, fun j x hj => ?_, fun i j x y hi hj hx hy e => ?_, fun j x hj hx => ?_, fun bl hb => by rw [hu.size]; exact s.frsz bl hb⟩,
    ⟨hu.os, hu.tape, hu.output, Nat.le_of_eq hu.size.symm, fun bl hb => hu.other bl fun e => hfr (e ▸ hb), fun bl c T fz hc => by
      by_cases e : bl = β id
      · subst e
        obtain ⟨T0, h0⟩ := h0
        rw [h0] at hc; injection hc with hc; injection hc with hc _ _
        obtain ⟨T1, h1⟩ := hu.held
        exact ⟨_, T1, _, h1, by rw [← hc]; simpa using hl0⟩
      · exact ⟨c, T, fz, by rw [hu.other bl e]; exact hc, rfl⟩⟩⟩
  · have hne : bl ≠ β id := fun e => by subst e; rw [hK] at hk; cases hk
    rw [hu.other bl hne]; exact s.wk bl o v hk
  · rw [get_set hid] at hj
    split at hj
    · injection hj with hj; subst hj; subst_vars; exact hB
    · rename_i hne
      refine BRel.mono hE rfl rfl (fun _ _ h => h) (fun hx vs' hh => ?_) (s.blk j x hj)
      have hd : β j ≠ β id := fun e => hne (s.inj id j old x hid hj ho hx e.symm)
      obtain ⟨T, hh⟩ := hh
      exact ⟨T, by rw [hu.other _ hd]; exact hh⟩
  · rw [get_set hid] at hi hj
    split at hi
    · split at hj
      · subst_vars; rfl
      · subst_vars; exact s.inj _ _ old y hid hj ho hy e
    · split at hj
      · subst_vars; exact s.inj _ _ x old hi hid hx ho e
      · exact s.inj _ _ x y hi hj hx hy e
  · rw [get_set hid] at hj
    split at hj
    · subst_vars; exact hfr
    · exact s.nfr j x hj hx

theorem splice_ra {cs ls : List AVal} {vs us : List Value} (h : RAs K β κ H cs vs) (h' : RAs K β κ H ls us) (n : Nat) : RAs K β κ H (splice cs n ls) (splice vs n us) := by
  unfold splice
  rw [h'.length]
  exact ((h.take n).append h').append (h.drop _)
theorem splice_mem {B : Type} {vs us : List B} {n : Nat} {p : B → Prop} (h : ∀ v ∈ vs, p v) (h' : ∀ v ∈ us, p v) : ∀ v ∈ splice vs n us, p v := by
  intro v hv
  simp only [splice, List.mem_append] at hv
  rcases hv with (hv | hv) | hv
  · exact h v (List.mem_of_mem_take hv)
  · exact h' v hv
  · exact h v (List.mem_of_mem_drop hv)

theorem splice_get {B : Type} {vs us : List B} {n : Nat} (hl : n + us.length ≤ vs.length) (i : Nat) : (splice vs n us)[i]? = if n ≤ i ∧ i < n + us.length then us[i - n]? else vs[i]? := by
  unfold splice
  have hln : (vs.take n).length = n := by simp; omega
  by_cases h1 : i < n
  · rw [if_neg (by omega), List.append_assoc, List.getElem?_append_left (by omega), List.getElem?_take, if_pos h1]
  · by_cases h2 : i < n + us.length
    · rw [if_pos ⟨by omega, h2⟩, List.append_assoc, List.getElem?_append_right (by omega), hln, List.getElem?_append_left (by omega)]
    · rw [if_neg (by omega), List.getElem?_append_right (by simp; omega), List.getElem?_drop]
      congr 1
      simp; omega

/-- Rows of memory, one of which is written. -/
theorem rws_set {sz : Nat} {vs : List Value} {rows : Rows} (h : Rws K (fun o => vs[o]?) sz 0 rows) {i off : Nat} {row : List DVal} (hi : rows[i]? = some row) {ds : List DVal} {us : List Value}
    (hv : Vs K ds us) (hleaf : ∀ u ∈ us, leafV u = true) (ho : off + ds.length ≤ sz) (hlen : i * sz + off + us.length ≤ vs.length) :
    Rws K (fun o => (splice vs (i * sz + off) us)[o]?) sz 0 (rows.set i (splice row off ds)) := by
  have hul := hv.length
  obtain ⟨hrl, hrc⟩ := h.get hi
  refine .of fun j r hj => ?_
  have hilt := (List.getElem?_eq_some_iff.1 hi).1
  rw [List.getElem?_set] at hj
  split at hj
  · subst_vars
    simp only [hilt, if_true, Option.some.injEq] at hj; subst hj
    refine ⟨by simp [splice]; omega, .of fun k x hk => ?_⟩
    simp only [Nat.zero_add]
    rw [splice_get (by omega)] at hk
    split at hk
    · rename_i hc
      obtain ⟨u, h1, h2⟩ := hv.get hk
      refine ⟨u, ?_, hleaf u (List.mem_of_getElem? h1), h2⟩
      rw [splice_get hlen, if_pos ⟨by omega, by omega⟩, ← h1]
      congr 1; omega
    · rename_i hc
      obtain ⟨u, h1, h2, h3⟩ := hrc.get hk
      refine ⟨u, ?_, h2, h3⟩
      simp only [Nat.zero_add] at h1
      rw [splice_get hlen, if_neg (by omega)]
      exact h1
  · rename_i hne
    obtain ⟨h1, h2⟩ := h.get hj
    refine ⟨h1, h2.shift fun k hk => ?_⟩
    simp only [Nat.zero_add]
    rw [splice_get hlen, if_neg ?_]
    rcases Nat.lt_or_gt_of_ne hne with hlt | hgt
    · have : (i + 1) * sz ≤ j * sz := Nat.mul_le_mul_right _ hlt
      rw [Nat.succ_mul] at this; omega
    · have : (j + 1) * sz ≤ i * sz := Nat.mul_le_mul_right _ hgt
      rw [Nat.succ_mul] at this; omega
end Go.Eng

namespace Go.Eng
open Go

variable {P : Program} {K : KMap} {β κ : Nat → Nat} {H : Heap} {w : World} {Fr : Nat → Prop}

/-- What is looked up is fixed in memory. -/
def LkOk (K : KMap) (β : Nat → Nat) (H : Heap) (lk : Nat → BView) : Prop :=
  ∀ id sz ver rows, lk id = .rows sz ver rows → curOf H id = some (sz, ver, rows.length) ∧ (rows = [] ∨ Rws K (K (β id)) sz 0 rows)

theorem LkOk.none : LkOk K β H (fun _ => .none) := fun _ _ _ _ h => by cases h

mutual
theorem toD_sound {lk : Nat → BView} (hl : LkOk K β H lk) : ∀ (x : AVal) {v : Value} {y : DVal}, RA K β κ H x v → toD lk x = some y → V K y v
  | .junk, _, _, _, h => by simp [toD] at h
  | .d x, v, y, hx, h => by
    simp only [toD, Option.some.injEq] at h; subst h
    cases hx; assumption
  | .ptr .., _, _, _, h => by simp [toD] at h
  | .ep .., _, _, _, h => by simp [toD] at h
  | .hs id ver sz' off len, v, y, hx, h => by
    simp only [toD] at h
    split at h
    · rename_i sz ver' rows hlk
      cases hv : Nat.beq ver ver' with
      | false => simp [hv] at h
      | true =>
        simp only [hv, cond_true, Option.some.injEq] at h; subst h
        have hv := Nat.eq_of_beq_eq_true hv
        obtain ⟨h1, h2⟩ := hl _ _ _ _ hlk
        cases hx with
        | hs hcur hle hsl hf =>
          rw [h1] at hcur; injection hcur with hcur; injection hcur with e1 hcur; injection hcur with e2 e3
          subst e1; subst e2; subst e3
          obtain ⟨a, cap, rfl, hcap, ha⟩ := hsl
          obtain ⟨h3, h4⟩ := hf hv
          have hlen : ((rows.drop off).take len).length = len := by simp; omega
          by_cases hz : len = 0
          · subst hz
            simp only [List.take_zero]
            cases a with
            | none => exact .nil _ _ _ (by decide)
            | some a => exact .emp _ _ _ _ (by decide)
          · obtain ⟨rfl, rfl⟩ := h4 hz
            rw [ha hz]
            have : V K (.sl 3 sz ((rows.drop off).take len)) (.slice (some ⟨β id, off * sz, Option.none⟩) ((rows.drop off).take len).length cap) := by
              refine .sl _ _ _ _ _ _ (by decide) (by rw [hlen]; exact hcap) ?_
              rcases h2 with rfl | h2
              · simp at h3; omega
              · simpa using (h2.drop off).take len
            rwa [hlen] at this
    · cases h
  | .vh id ver sz' len, v, y, hx, h => by
    simp only [toD] at h
    split at h
    · rename_i sz ver' rows hlk
      cases hv : Nat.beq ver ver' with
      | false => simp [hv] at h
      | true =>
        simp only [hv, cond_true, Option.some.injEq] at h; subst h
        have hv := Nat.eq_of_beq_eq_true hv
        obtain ⟨h1, h2⟩ := hl _ _ _ _ hlk
        cases hx with
        | vh hcur hle hsl hf =>
          rw [h1] at hcur; injection hcur with hcur; injection hcur with e1 hcur; injection hcur with e2 e3
          subst e1; subst e2; subst e3
          obtain ⟨h3, h4⟩ := hf hv
          rcases h4 with ⟨hz, a, rfl⟩ | ⟨hz, rfl⟩
          · have := List.eq_nil_of_length_eq_zero hz; subst this
            cases a with
            | none => exact .nil _ _ _ (by decide)
            | some a => exact .emp _ _ _ _ (by decide)
          · rcases h2 with rfl | h2
            · simp at hz
            · obtain ⟨a, cap, he, hcap, _⟩ := hsl
              injection he with _ e5 e6
              exact .sl _ _ _ _ _ _ (by decide) (by omega) h2
    · cases h
  | .agg cs, v, y, hx, h => by
    simp only [toD] at h
    split at h
    · rename_i xs hxs
      injection h with h; subst h
      cases hx with | agg hs => exact .agg _ _ (toDs_sound hl cs hs hxs)
    · cases h
  | .tup cs, v, y, hx, h => by
    simp only [toD] at h
    split at h
    · rename_i xs hxs
      injection h with h; subst h
      cases hx with | tup hs => exact .tup _ _ (toDs_sound hl cs hs hxs)
    · cases h
  | .fn f cs, v, y, hx, h => by
    simp only [toD] at h
    split at h
    · rename_i xs hxs
      injection h with h; subst h
      cases hx with | fn hs => exact .fn _ _ _ (toDs_sound hl cs hs hxs)
    · cases h
theorem toDs_sound {lk : Nat → BView} (hl : LkOk K β H lk) : ∀ (xs : List AVal) {vs : List Value} {ys : List DVal}, RAs K β κ H xs vs → toD.toDs lk xs = some ys → Vs K ys vs
  | [], vs, ys, hx, h => by
    simp only [toD.toDs, Option.some.injEq] at h; subst h
    cases hx; exact .nil
  | x :: xs, vs, ys, hx, h => by
    simp only [toD.toDs] at h
    split at h
    · rename_i y ys' h1 h2
      injection h with h; subst h
      cases hx with | cons h3 h4 => exact .cons (toD_sound hl x h3 h1) (toDs_sound hl xs h4 h2)
    · cases h
end

theorem plStore_sound {t : TypeId} {x y z : AVal} {u v : Value} {H' : Heap} (s : SR Fr K β κ H w) (hx : RA K β κ H x u) (hy : RA K β κ H y v) (h : (plStore P t x y).run H (fun v H' => some (v, H')) = some (z, H')) :
    ∃ w', (Instr.storeAt t u v).run P w = .ok () w' ∧ Post Fr K β κ H w z H' undef w' := by
  unfold plStore at h
  split at h
  · rename_i hc
    simp only [Bool.and_eq_true, decide_eq_true_eq] at hc
    obtain ⟨⟨hal, hlen⟩, hpos⟩ := hc
    obtain ⟨inf, hinf⟩ := info_of_cells hpos
    obtain ⟨us, h1, h2, h3⟩ := leaves_sound hy hal
    have hul := h2.length
    split at h
    · rename_i id off
      simp only [Plan.run, blksOf] at h
      split at h
      · rename_i blk hb
        cases blk with
        | cel cs =>
          simp only at h
          split at h
          · rename_i hoff
            simp only [List.length_cons, List.length_nil, if_true, Option.some.injEq, Prod.mk.injEq, setAll] at h
            obtain ⟨rfl, rfl⟩ := h
            obtain ⟨vs, h4, h5, h6, h7⟩ := s.blk id _ hb
            have hvl := h5.length
            cases hx with
            | ptr hc =>
              obtain ⟨w', h8, h9⟩ := run_storeVar (P := P) hinf h1 (by omega) h4 (o := off) (by omega) h3
              have hE : Ext K β κ H K β κ (H.set id (.cel (splice cs off (leaves y)))) := ext_set hb (fun cs' e => ⟨_, rfl⟩) rfl (fun _ _ e => by cases e)
              obtain ⟨h10, h11⟩ := s.update (new := .cel (splice cs off (leaves y))) hb trivial trivial h4 (by simp [splice]; omega) h7 h9 hE ⟨_, h9.held, splice_ra (h5.mono hE) (h2.mono hE) off, splice_mem h6 h3, h7⟩
              exact ⟨w', by simpa [Instr.storeAt, Instr.sureAddr] using h8, K, β, κ, h10, hE, .refl _ _, h11, .junk _⟩
          · cases h
        | _ => simp at h
      · cases h
    · rename_i id ver i off
      split at h
      · rename_i ds hds
        obtain ⟨ds0, hds, hds'⟩ := some_of_bind hds
        have hvs := castRow_sound hds' (toDs_sound (LkOk.none (K := K) (β := β) (H := H)) _ h2 hds)
        simp only [Plan.run, blksOf] at h
        split at h
        · rename_i blk hb
          have key : ∀ sz ver' rows (mk : Rows → ABlk), ver = ver' → curOf H id = some (sz, ver', rows.length) → (∀ r, curB (mk r) = some (sz, ver', r.length)) → (∀ r, r ≠ [] → owns (mk r)) → (∀ r sz' r', mk r = .arr sz' r' → ∃ r0, blk = .arr sz' r0) →
              blk = mk rows → (∀ cs, blk ≠ .cel cs) →
              (rows = [] ∨ ∃ vs, Held w (β id) vs ∧ Rws K (fun o => vs[o]?) sz 0 rows ∧ (∀ o, K (β id) o = none) ∧
                (∀ r vs' w', r.length = rows.length → vs'.length = vs.length → Held w' (β id) vs' → Rws K (fun o => vs'[o]?) sz 0 r → BRel K β κ (H.set id (mk r)) w' id (mk r))) →
              (∃ row, rows[i]? = some row ∧ off + ds.length ≤ sz ∧ H' = H.set id (mk (rows.set i (splice row off ds))) ∧ z = .junk) →
              ∃ w', (Instr.storeAt t u v).run P w = .ok () w' ∧ Post Fr K β κ H w z H' undef w' := by
            intro sz ver' rows mk hver hcur hcb how hkk hblk hncel hrel ⟨row, hr, ho, hH, hz⟩
            rcases hrel with rfl | ⟨vs, h4, h5, h7, h6⟩
            · simp at hr
            · subst hH; subst hz
              have hne : rows ≠ [] := by intro e; subst e; simp at hr
              cases hx with
              | ep hc hle hf =>
                rw [hcur] at hc; injection hc with hc; injection hc with e1 hc; injection hc with e2 e3
                subst e1; subst e2
                obtain ⟨rfl, rfl⟩ := hf hver
                have hrl := (h5.get hr).1
                have hvl := hvs.length
                have hlast : i * sz + sz ≤ vs.length := by
                  rcases Nat.eq_zero_or_pos sz with hz | hz
                  · omega
                  · obtain ⟨hl', hc'⟩ := h5.get hr
                    obtain ⟨uu, hu1, _⟩ := hc'.get (i := sz - 1) (x := row[sz - 1]'(by omega)) (List.getElem?_eq_getElem _)
                    have := (List.getElem?_eq_some_iff.1 hu1).1
                    omega
                obtain ⟨w', h8, h9⟩ := run_storeVar (P := P) hinf h1 (by omega) h4 (o := i * sz + off) (by omega) h3
                have hsl : ∀ (r : Rows) x, (r.set i x).length = r.length := fun r x => by simp
                have hE : Ext K β κ H K β κ (H.set id (mk (rows.set i (splice row off ds)))) := ext_set hb (fun cs' e => absurd e (hncel cs')) (by rw [hcb, hsl, hblk, hcb]) (fun sz' r' e => hkk _ _ _ e)
                have hne' : rows.set i (splice row off ds) ≠ [] := by intro e; have := congrArg List.length e; simp at this; exact hne this
                obtain ⟨h10, h11⟩ := s.update hb (hblk ▸ how _ hne) (how _ hne') h4 (by simp [splice]; omega) h7 h9 hE
                  (h6 _ _ _ (by simp) (by simp [splice]; omega) h9.held (rws_set h5 hr hvs h3 ho (by omega)))
                exact ⟨w', by simpa [Instr.storeAt, Instr.sureAddr] using h8, K, β, κ, h10, hE, .refl _ _, h11, .junk _⟩
          have hrel := s.blk id _ hb
          cases blk with
          | arr sz rows =>
            simp only at h
            cases hv : Nat.beq ver 0 with
            | false => simp [hv] at h
            | true =>
              simp only [hv, cond_true] at h
              obtain ⟨row, hr, h⟩ := onRow_some h
              split at h
              · rename_i ho
                simp only [List.length_cons, List.length_nil, if_true, Option.some.injEq, Prod.mk.injEq, setAll] at h
                refine key sz 0 rows (.arr sz) (Nat.eq_of_beq_eq_true hv) (by simp [curOf, hb]) (fun _ => rfl) (fun _ h => h) (fun r sz' r' e => by injection e with e1 e2; subst e1; exact ⟨_, rfl⟩) rfl (by simp) ?_ ⟨row, hr, ho, h.2.symm, h.1.symm⟩
                rcases hrel with rfl | ⟨vs, h4, h5, h6⟩
                · exact .inl rfl
                · exact .inr ⟨vs, h4, h5, h6, fun r vs' w' _ _ hh hr => .inr ⟨vs', hh, hr, h6⟩⟩
              · cases h
          | vec sz ver' rows =>
            simp only at h
            cases hv : Nat.beq ver ver' with
            | false => simp [hv] at h
            | true =>
              simp only [hv, cond_true] at h
              obtain ⟨row, hr, h⟩ := onRow_some h
              split at h
              · rename_i ho
                simp only [List.length_cons, List.length_nil, if_true, Option.some.injEq, Prod.mk.injEq, setAll] at h
                refine key sz ver' rows (.vec sz ver') (Nat.eq_of_beq_eq_true hv) (by simp [curOf, hb]) (fun _ => rfl) (fun _ h => h) (fun r sz' r' e => by cases e) rfl (by simp) ?_ ⟨row, hr, ho, h.2.symm, h.1.symm⟩
                rcases hrel with rfl | ⟨vs, h4, h5, h6, h7, h8⟩
                · exact .inl rfl
                · exact .inr ⟨vs, h4, h5, h6, fun r vs' w' hl1 hl2 hh hr => .inr ⟨vs', hh, hr, h6, by rw [hl2]; exact h7, by rw [hl1]; exact h8⟩⟩
              · cases h
          | _ => simp at h
        · cases h
      · cases h
    · cases h
  · cases h
end Go.Eng

namespace Go.Eng
open Go

variable {P : Program} {K : KMap} {β κ : Nat → Nat} {H : Heap} {w : World} {Fr : Nat → Prop}

def PutNew (H : Heap) (nid : Nat) (blk : ABlk) (H' : Heap) : Prop := (H[nid]? = some .gone ∧ H' = H.set nid blk) ∨ (nid = H.length ∧ H' = H ++ [blk])

theorem putNew_some {A : Type} {nid : Nat} {blk : ABlk} {k : Heap → Option A} {r : A} (h : putNew H nid blk k = some r) : ∃ H', PutNew H nid blk H' ∧ k H' = some r := by
  unfold putNew at h
  split at h
  · exact ⟨_, .inl ⟨by assumption, rfl⟩, h⟩
  · cases h
  · split at h
    · exact ⟨_, .inr ⟨by assumption, rfl⟩, h⟩
    · cases h

theorem PutNew.get {nid : Nat} {blk : ABlk} {H' : Heap} (h : PutNew H nid blk H') (j : Nat) : H'[j]? = if j = nid then some blk else H[j]? := by
  rcases h with ⟨h1, rfl⟩ | ⟨rfl, rfl⟩
  · rw [get_set h1]; simp only [eq_comm]
  · rw [List.getElem?_append]
    split
    · rw [if_neg (by omega)]
    · split
      · subst_vars; simp
      · rw [List.getElem?_eq_none (by simp; omega), List.getElem?_eq_none (by omega)]
theorem PutNew.old {nid : Nat} {blk : ABlk} {H' : Heap} (h : PutNew H nid blk H') : H[nid]? = some .gone ∨ H[nid]? = none := by
  rcases h with ⟨h1, rfl⟩ | ⟨rfl, rfl⟩
  · exact .inl h1
  · exact .inr (by simp)
theorem PutNew.self {nid : Nat} {blk : ABlk} {H' : Heap} (h : PutNew H nid blk H') : H'[nid]? = some blk := by rw [h.get]; simp

def upd (β : Nat → Nat) (i v : Nat) : Nat → Nat := fun j => if j = i then v else β j
theorem upd_same (β : Nat → Nat) (i v : Nat) : upd β i v i = v := by simp [upd]
theorem upd_ne {β : Nat → Nat} {i v j : Nat} (h : j ≠ i) : upd β i v j = β j := by simp [upd, h]

theorem ext_new {nid : Nat} {blk : ABlk} {H' : Heap} (h : PutNew H nid blk H') (n c : Nat) : Ext K β κ H K (upd β nid n) (upd κ nid c) H' := by
  refine ⟨.refl _, fun j hj => ?_, fun j sz cv m hj => ?_, fun j x sz rows' hx hx' => ?_⟩
  · obtain ⟨cs, hj⟩ := hj
    have hne : j ≠ nid := by
      rintro rfl
      rcases h.old with e | e <;> rw [e] at hj <;> cases hj
    exact ⟨⟨cs, by rw [h.get, if_neg hne]; exact hj⟩, upd_ne hne⟩
  · have hne : j ≠ nid := by
      rintro rfl
      rw [curOf_eq] at hj
      rcases h.old with e | e <;> rw [e] at hj <;> cases hj
    exact ⟨cv, m, by rw [curOf_eq] at hj ⊢; rw [h.get, if_neg hne]; exact hj, .inl ⟨rfl, rfl, upd_ne hne, upd_ne hne⟩⟩
  · rw [h.get] at hx'
    split at hx'
    · subst_vars
      rcases h.old with e | e <;> rw [e] at hx
      · injection hx with hx; exact .inl hx.symm
      · cases hx
    · rw [hx] at hx'; injection hx' with hx'; exact .inr ⟨_, hx'⟩

theorem SR.lt (s : SR Fr K β κ H w) {bl o : Nat} {v : Value} (h : K bl o = some v) : bl < w.heap.size := by
  obtain ⟨c, T, fz, h1, _⟩ := s.wk bl o v h
  exact (Array.getElem?_eq_some_iff.1 h1).1
theorem SR.noneOf (s : SR Fr K β κ H w) {bl : Nat} (h : w.heap.size ≤ bl) (o : Nat) : K bl o = none := by
  cases e : K bl o with
  | none => rfl
  | some v => exact absurd (s.lt e) (by omega)

theorem owns_lt (s : SR Fr K β κ H w) {id : Nat} {x : ABlk} (hid : H[id]? = some x) (ho : owns x) : β id < w.heap.size := by
  have h := s.blk id x hid
  cases x with
  | gone => cases ho
  | frz => cases ho
  | cel cs => obtain ⟨vs, h1, _⟩ := h; exact h1.lt
  | arr sz rows => rcases h with h | ⟨vs, h1, _⟩; exact absurd h ho; exact h1.lt
  | vec sz ver rows => rcases h with h | ⟨vs, h1, _⟩; exact absurd h ho; exact h1.lt

theorem alloc_old {w : World} (o : Obj) {bl : Nat} (h : bl < w.heap.size) : (w.alloc o).heap[bl]? = w.heap[bl]? := by
  show (w.heap.push o)[bl]? = _
  rw [Array.getElem?_push, if_neg (by omega)]
theorem alloc_new {w : World} (o : Obj) : (w.alloc o).heap[w.heap.size]? = some o := by
  show (w.heap.push o)[w.heap.size]? = _
  simp

theorem keep_alloc (hf : ∀ bl, Fr bl → bl < w.heap.size) (o : Obj) : Keep Fr w (w.alloc o) :=
  ⟨rfl, rfl, rfl, by simp, fun bl hb => alloc_old o (hf bl hb), fun bl c T fz hc => ⟨c, T, fz, by rw [alloc_old o (Array.getElem?_eq_some_iff.1 hc).1]; exact hc, rfl⟩⟩

/-- A new block of the abstract heap's. -/
theorem SR.new (s : SR Fr K β κ H w) {nid : Nat} {blk : ABlk} {H' : Heap} (h : PutNew H nid blk H') (c : Nat) (o : Obj)
    (hB : Ext K β κ H K (upd β nid w.heap.size) (upd κ nid c) H' → BRel K (upd β nid w.heap.size) (upd κ nid c) H' (w.alloc o) nid blk) :
    SR Fr K (upd β nid w.heap.size) (upd κ nid c) H' (w.alloc o) ∧ Ext K β κ H K (upd β nid w.heap.size) (upd κ nid c) H' ∧ Keep Fr w (w.alloc o) := by
  have hE := ext_new (K := K) (β := β) (κ := κ) h w.heap.size c
  refine ⟨⟨fun bl o' v hk => ?_, fun j x hj => ?_, fun i j x y hi hj hx hy e => ?_, fun j x hj hx => ?_, fun bl hb => ?_⟩, hE, keep_alloc s.frsz o⟩
  · obtain ⟨c', T, fz, h1, h2⟩ := s.wk bl o' v hk
    exact ⟨c', T, fz, by rw [alloc_old _ (s.lt hk)]; exact h1, h2⟩
  · rw [h.get] at hj
    split at hj
    · injection hj with hj; subst hj; subst_vars; exact hB hE
    · rename_i hne
      refine BRel.mono hE (upd_ne hne) (upd_ne hne) (fun _ _ h => h) (fun hx vs' hh => ?_) (s.blk j x hj)
      obtain ⟨T, hh⟩ := hh
      exact ⟨T, by rw [alloc_old _ (owns_lt s hj hx)]; exact hh⟩
  · rw [h.get] at hi hj
    split at hi
    · split at hj
      · omega
      · rename_i h1 h2
        subst h1
        rw [upd_same, upd_ne h2] at e
        have := owns_lt s hj hy; omega
    · split at hj
      · rename_i h1 h2
        subst h2
        rw [upd_same, upd_ne h1] at e
        have := owns_lt s hi hx; omega
      · rename_i h1 h2
        rw [upd_ne h1, upd_ne h2] at e
        exact s.inj i j x y hi hj hx hy e
  · rw [h.get] at hj
    split at hj
    · subst_vars; rw [upd_same]; intro hb; have := s.frsz _ hb; omega
    · rename_i h1; rw [upd_ne h1]; exact s.nfr j x hj hx
  · have := s.frsz bl hb; simp; omega

/-- A new block whose cells are fixed at once. -/
theorem SR.newFixed (s : SR Fr K β κ H w) (vs : List Value) (T : TypeId) :
    ∃ K', SR Fr K' β κ H (w.alloc (.cells ⟨vs⟩ T)) ∧ Ext K β κ H K' β κ H ∧ KNew Fr K K' ∧ Keep Fr w (w.alloc (.cells ⟨vs⟩ T)) ∧ ∀ o, K' w.heap.size o = vs[o]? := by
  let K' : KMap := fun bl o => if bl = w.heap.size then vs[o]? else K bl o
  have hle : KLe K K' := fun bl o v hk => by
    have := s.lt hk
    simp only [K']; rw [if_neg (by omega)]; exact hk
  have hE : Ext K β κ H K' β κ H := ⟨hle, fun _ h => ⟨h, rfl⟩, fun _ _ cv n h => ⟨cv, n, h, .inl ⟨rfl, rfl, rfl, rfl⟩⟩, (Ext.refl K β κ H).kd⟩
  refine ⟨K', ⟨fun bl o v hk => ?_, fun j x hj => ?_, s.inj, s.nfr, fun bl hb => ?_⟩, hE, fun bl o v h1 h2 hb => ?_, keep_alloc s.frsz _, fun o => by simp [K']⟩
  · simp only [K'] at hk
    split at hk
    · subst_vars
      exact ⟨_, _, _, alloc_new _, by simpa using hk⟩
    · obtain ⟨c', T, fz, h1, h2⟩ := s.wk bl o v hk
      exact ⟨c', T, fz, by rw [alloc_old _ (s.lt hk)]; exact h1, h2⟩
  · refine BRel.mono hE rfl rfl (fun hx o ho => ?_) (fun hx vs' hh => ?_) (s.blk j x hj)
    · have := owns_lt s hj hx
      simp only [K']; rw [if_neg (by omega)]; exact ho
    · obtain ⟨T', hh⟩ := hh
      exact ⟨T', by rw [alloc_old _ (owns_lt s hj hx)]; exact hh⟩
  · have := s.frsz bl hb; simp; omega
  · simp only [K'] at h2
    split at h2
    · subst_vars; have := s.frsz _ hb; omega
    · rw [h1] at h2; cases h2

/-- One array is no longer written. -/
theorem SR.freeze1 (s : SR Fr K β κ H w) {id : Nat} {x : ABlk} (hid : H[id]? = some x) :
    ∃ K', SR Fr K' β κ (H.set id x.freeze) w ∧ Ext K β κ H K' β κ (H.set id x.freeze) ∧ KNew Fr K K' := by
  have same : x.freeze = x → ∃ K', SR Fr K' β κ (H.set id x.freeze) w ∧ Ext K β κ H K' β κ (H.set id x.freeze) ∧ KNew Fr K K' := by
    intro e
    have : H.set id x.freeze = H := by
      rw [e]; apply List.ext_getElem?; intro j; rw [get_set hid]; split
      · subst_vars; exact hid.symm
      · rfl
    rw [this]; exact ⟨K, s, .refl _ _ _ _, .refl _ _⟩
  have main : ∀ sz ver rows, x.freeze = .frz sz ver rows → curB x = some (sz, ver, rows.length) → (∀ cs, x ≠ .cel cs) → (rows ≠ [] → owns x) →
      (rows = [] ∨ ∃ vs, Held w (β id) vs ∧ Rws K (fun o => vs[o]?) sz 0 rows ∧ ∀ o, K (β id) o = none) →
      ∃ K', SR Fr K' β κ (H.set id x.freeze) w ∧ Ext K β κ H K' β κ (H.set id x.freeze) ∧ KNew Fr K K' := by
    intro sz ver rows he hc hncel ho hrel
    rw [he]
    rcases hrel with rfl | ⟨vs, h1, h2, h3⟩
    · have hE : Ext K β κ H K β κ (H.set id (.frz sz ver [])) := ext_set hid (fun cs e => absurd e (hncel cs)) (by rw [hc]; rfl) (fun _ _ e => by cases e)
      refine ⟨K, ⟨s.wk, fun j y hj => ?_, fun i j y z hi hj hy hz e => ?_, fun j y hj hy => ?_, s.frsz⟩, hE, .refl _ _⟩
      · rw [get_set hid] at hj
        split at hj
        · injection hj with hj; subst hj; exact .inl rfl
        · exact BRel.mono hE rfl rfl (fun _ _ h => h) (fun _ _ h => h) (s.blk j y hj)
      · rw [get_set hid] at hi hj
        split at hi
        · injection hi with hi; subst hi; cases hy
        · split at hj
          · injection hj with hj; subst hj; cases hz
          · exact s.inj i j y z hi hj hy hz e
      · rw [get_set hid] at hj
        split at hj
        · injection hj with hj; subst hj; cases hy
        · exact s.nfr j y hj hy
    · by_cases hne : rows = []
      · subst hne
        have hE : Ext K β κ H K β κ (H.set id (.frz sz ver [])) := ext_set hid (fun cs e => absurd e (hncel cs)) (by rw [hc]; rfl) (fun _ _ e => by cases e)
        refine ⟨K, ⟨s.wk, fun j y hj => ?_, fun i j y z hi hj hy hz e => ?_, fun j y hj hy => ?_, s.frsz⟩, hE, .refl _ _⟩
        · rw [get_set hid] at hj
          split at hj
          · injection hj with hj; subst hj; exact .inl rfl
          · exact BRel.mono hE rfl rfl (fun _ _ h => h) (fun _ _ h => h) (s.blk j y hj)
        · rw [get_set hid] at hi hj
          split at hi
          · injection hi with hi; subst hi; cases hy
          · split at hj
            · injection hj with hj; subst hj; cases hz
            · exact s.inj i j y z hi hj hy hz e
        · rw [get_set hid] at hj
          split at hj
          · injection hj with hj; subst hj; cases hy
          · exact s.nfr j y hj hy
      · have how := ho hne
        let K' : KMap := fun bl o => if bl = β id then (if o < rows.length * sz then vs[o]? else none) else K bl o
        have hle : KLe K K' := fun bl o v hk => by
          simp only [K']
          rw [if_neg (fun e => by subst e; rw [h3] at hk; cases hk)]; exact hk
        have hE0 : Ext K β κ H K β κ (H.set id (.frz sz ver rows)) := ext_set hid (fun cs e => absurd e (hncel cs)) (by rw [hc]; rfl) (fun _ _ e => by cases e)
        have hE : Ext K β κ H K' β κ (H.set id (.frz sz ver rows)) := ⟨hle, hE0.cel, hE0.cur, hE0.kd⟩
        refine ⟨K', ⟨fun bl o v hk => ?_, fun j y hj => ?_, fun i j y z hi hj hy hz e => ?_, fun j y hj hy => ?_, s.frsz⟩, hE, fun bl o v h4 h5 hb => ?_⟩
        · simp only [K'] at hk
          split at hk
          · subst_vars
            split at hk
            · obtain ⟨T, h1⟩ := h1
              exact ⟨_, _, _, h1, by simpa using hk⟩
            · cases hk
          · exact s.wk bl o v hk
        · rw [get_set hid] at hj
          split at hj
          · injection hj with hj; subst hj; subst_vars
            refine .inr ((h2.mono hle (fun _ _ e => e)).shift fun i hi => ?_)
            simp only [K', Nat.zero_add, if_true, hi]
          · rename_i hnej
            refine BRel.mono hE rfl rfl (fun hy o ho => ?_) (fun _ _ h => h) (s.blk j y hj)
            simp only [K']
            rw [if_neg (fun e => hnej (s.inj id j x y hid hj how hy e.symm))]; exact ho
        · rw [get_set hid] at hi hj
          split at hi
          · injection hi with hi; subst hi; cases hy
          · split at hj
            · injection hj with hj; subst hj; cases hz
            · exact s.inj i j y z hi hj hy hz e
        · rw [get_set hid] at hj
          split at hj
          · injection hj with hj; subst hj; cases hy
          · exact s.nfr j y hj hy
        · simp only [K'] at h5
          split at h5
          · subst_vars; exact s.nfr id x hid how hb
          · rw [h4] at h5; cases h5
  have hrel := s.blk id x hid
  cases x with
  | gone => exact same rfl
  | cel => exact same rfl
  | frz => exact same rfl
  | arr sz rows => exact main sz 0 rows rfl rfl (by simp) (fun h => h) hrel
  | vec sz ver rows =>
    refine main sz ver rows rfl rfl (by simp) (fun h => h) ?_
    rcases hrel with h | ⟨vs, h1, h2, h3, _⟩
    · exact .inl h
    · exact .inr ⟨vs, h1, h2, h3⟩

theorem freeze_freeze (x : ABlk) : x.freeze.freeze = x.freeze := by cases x <;> rfl
theorem freeze_view (x : ABlk) : x.freeze.view = x.view := by cases x <;> rfl

theorem freezeAll_get : ∀ (ids : List Nat) (H : Heap), (∀ id ∈ ids, ∃ x, H[id]? = some x) → ∀ j, (freezeAll H ids)[j]? = if j ∈ ids then (H[j]?).map ABlk.freeze else H[j]?
  | [], H, _, j => by simp [freezeAll]
  | id :: ids, H, h, j => by
    obtain ⟨x, hx⟩ := h id (by simp)
    simp only [freezeAll, hx]
    have ih := freezeAll_get ids (H.set id x.freeze) (fun i hi => by
      rw [get_set hx]; split
      · exact ⟨_, rfl⟩
      · exact h i (by simp [hi])) j
    rw [ih, get_set hx]
    by_cases e : id = j
    · subst e
      simp only [if_true, List.mem_cons, true_or, hx, Option.map_some, freeze_freeze]
      split <;> rfl
    · rw [if_neg e]
      simp only [List.mem_cons, Ne.symm e, false_or]

theorem SR.freezeAll (s : SR Fr K β κ H w) : ∀ (ids : List Nat), (∀ id ∈ ids, ∃ x, H[id]? = some x) → ∃ K', SR Fr K' β κ (freezeAll H ids) w ∧ Ext K β κ H K' β κ (Eng.freezeAll H ids) ∧ KNew Fr K K' := by
  intro ids
  induction ids generalizing K H with
  | nil => intro _; exact ⟨K, s, .refl _ _ _ _, .refl _ _⟩
  | cons id ids ih =>
    intro h
    obtain ⟨x, hx⟩ := h id (by simp)
    obtain ⟨K1, s1, e1, n1⟩ := s.freeze1 hx
    obtain ⟨K2, s2, e2, n2⟩ := ih s1 (fun i hi => by
      rw [get_set hx]; split
      · exact ⟨_, rfl⟩
      · exact h i (by simp [hi]))
    refine ⟨K2, ?_, ?_, n1.trans e1.kle n2⟩
    · simpa only [Eng.freezeAll, hx] using s2
    · simpa only [Eng.freezeAll, hx] using e1.trans e2

def Blks (H : Heap) (ids : List Nat) (bs : List ABlk) : Prop := ∀ (i id : Nat), ids[i]? = some id → ∃ b : ABlk, bs[i]? = some b ∧ H[id]? = some b

/-- What was looked at. -/
theorem viewsOf_some {A : Type} {ids : List Nat} {g : List BView → Option A} {r : A} (h : viewsOf H ids g = some r) :
    ∃ bs : List ABlk, bs.length = ids.length ∧ Blks H ids bs ∧ g (bs.map ABlk.view) = some r := by
  induction ids generalizing g with
  | nil => exact ⟨[], rfl, fun i id hi => by simp at hi, h⟩
  | cons id ids ih =>
    simp only [viewsOf] at h
    split at h
    · rename_i b hb
      obtain ⟨bs, h1, h2, h3⟩ := ih h
      refine ⟨b :: bs, by simp [h1], fun i id' hi => ?_, h3⟩
      cases i with
      | zero => simp at hi; subst hi; exact ⟨b, rfl, hb⟩
      | succ i => simpa using h2 i id' (by simpa using hi)
    · cases h

theorem look_some : ∀ {ids : List Nat} {bs : List ABlk} {id : Nat} {v : BView}, Blks H ids bs → look ids (bs.map ABlk.view) id = v → v ≠ .none →
    id ∈ ids ∧ ∃ b, H[id]? = some b ∧ b.view = v
  | [], _, _, _, _, h, hv => by simp [look] at h; exact absurd h.symm hv
  | i :: ids, [], _, _, _, h, hv => by simp [look] at h; exact absurd h.symm hv
  | i :: ids, b :: bs, id, v, hb, h, hv => by
    simp only [look, List.map_cons] at h
    cases e : Nat.beq i id with
    | true =>
      simp only [e, cond_true] at h
      have := Nat.eq_of_beq_eq_true e; subst this
      obtain ⟨b', h1, h2⟩ := hb 0 i rfl
      simp at h1; subst h1
      exact ⟨by simp, b, h2, h⟩
    | false =>
      simp only [e, cond_false] at h
      obtain ⟨h1, h2⟩ := look_some (fun j id' hj => by simpa using hb (j + 1) id' (by simpa using hj)) h hv
      exact ⟨by simp [h1], h2⟩

theorem view_rows {b : ABlk} {sz ver : Nat} {rows : Rows} (h : b.view = .rows sz ver rows) : curB b = some (sz, ver, rows.length) := by
  cases b <;> simp [ABlk.view] at h <;> (obtain ⟨rfl, rfl, rfl⟩ := h; rfl)
theorem view_freeze {b : ABlk} {sz ver : Nat} {rows : Rows} (h : b.view = .rows sz ver rows) : b.freeze = .frz sz ver rows := by
  cases b <;> simp [ABlk.view] at h <;> (obtain ⟨rfl, rfl, rfl⟩ := h; rfl)

/-- Behind the freezing, what was looked at is fixed in memory. -/
theorem lkOk_frozen {K' : KMap} {ids : List Nat} {bs : List ABlk} (hb : Blks H ids bs) (hall : ∀ id ∈ ids, ∃ x, H[id]? = some x)
    (s : SR Fr K' β κ (freezeAll H ids) w) : LkOk K' β (freezeAll H ids) (look ids (bs.map ABlk.view)) := by
  intro id sz ver rows h
  obtain ⟨h1, b, h2, h3⟩ := look_some hb h (by simp)
  have hg := freezeAll_get ids H hall id
  rw [if_pos h1, h2, Option.map_some, view_freeze h3] at hg
  exact ⟨by rw [curOf_eq, hg]; rfl, s.blk id _ hg⟩

theorem blks_all {ids : List Nat} {bs : List ABlk} (hb : Blks H ids bs) : ∀ id ∈ ids, ∃ x, H[id]? = some x := by
  intro id hid
  obtain ⟨i, hi⟩ := List.getElem?_of_mem hid
  obtain ⟨b, _, h⟩ := hb i id hi
  exact ⟨b, h⟩
end Go.Eng

namespace Go.Eng
open Go

variable {P : Program} {K : KMap} {β κ : Nat → Nat} {H : Heap} {w : World} {Fr : Nat → Prop}

theorem zeroLeaves_some {t : TypeId} {zs : List AVal} (h : zeroLeaves P t = some zs) : ∃ i z, P.info? t = some i ∧ i.zero = some z ∧ zs = leaves (constD z) := by
  unfold zeroLeaves at h
  split at h
  · rename_i i hi
    split at h
    · rename_i z hz
      injection h with h
      exact ⟨i, z, hi, hz, h.symm⟩
    · cases h
  · cases h

theorem run_newRow (elem : TypeId) (cells : Array Value) (w : World) : (newRow elem cells).run P w = .ok ⟨w.heap.size, 0, none⟩ (w.alloc (.cells cells elem)) := by
  simp only [newRow, Sem.run_bind, run_newObj, Result.andThen_ok, Sem.run_pure, World.alloc_eq]

theorem new_cel (s : SR Fr K β κ H w) {nid : Nat} {H' : Heap} {cs : List AVal} {vs : List Value} (h : PutNew H nid (.cel cs) H') (hr : RAs K β κ H cs vs) (hl : ∀ v ∈ vs, leafV v = true) (T : TypeId) :
    Post Fr K β κ H w (.ptr nid 0) H' (.pointer (some ⟨w.heap.size, 0, none⟩)) (w.alloc (.cells ⟨vs⟩ T)) := by
  obtain ⟨h1, h2, h3⟩ := s.new h 0 (.cells ⟨vs⟩ T) (fun hE => ⟨vs, ⟨T, by rw [upd_same]; exact alloc_new _⟩, hr.mono hE, hl, fun o => by rw [upd_same]; exact s.noneOf (Nat.le_refl _) o⟩)
  refine ⟨K, _, _, h1, h2, .refl _ _, h3, ?_⟩
  have : RA K (upd β nid w.heap.size) (upd κ nid 0) H' (.ptr nid 0) (.pointer (some ⟨upd β nid w.heap.size nid, 0, none⟩)) := .ptr ⟨cs, h.self⟩
  rwa [upd_same] at this

theorem foldl_set (l : List Value) : ∀ (k off : Nat) (cs : Array Value), off + k + l.length ≤ cs.size → (l.zipIdx k).foldl (fun cs p => cs.setIfInBounds (off + p.2) p.1) cs = ⟨splice cs.toList (off + k) l⟩ := by
  induction l with
  | nil => intro k off cs _; simp [splice]
  | cons v l ih =>
    intro k off cs h
    simp only [List.length_cons] at h
    simp only [List.zipIdx_cons, List.foldl_cons]
    rw [ih (k + 1) off _ (by simp; omega)]
    congr 1
    apply List.ext_getElem?
    intro i
    have hsz : cs.toList.length = cs.size := by simp
    rw [splice_get (by simp; omega), splice_get (by simp; omega)]
    simp only [Array.toList_setIfInBounds, List.length_cons]
    by_cases h1 : off + (k + 1) ≤ i ∧ i < off + (k + 1) + l.length
    · rw [if_pos h1, if_pos ⟨by omega, by omega⟩, show i - (off + k) = (i - (off + (k + 1))) + 1 by omega]
      rfl
    · rw [if_neg h1, List.getElem?_set]
      by_cases h2 : off + k = i
      · subst h2
        rw [if_pos rfl, if_pos (by omega), if_pos ⟨by omega, by omega⟩]; simp
      · rw [if_neg h2, if_neg (by omega)]

theorem fill_step {place : Nat → Option (Nat × Nat)} {i off size : Nat} {v : Value} {rest : List (Nat × Value)} {vs us : List Value} (hp : place i = some (off, size)) (hc : v.cells = ⟨us⟩) (hl : us.length = size) (hb : off + size ≤ vs.length) :
    Instr.fill place ⟨vs⟩ ((i, v) :: rest) = Instr.fill place ⟨splice vs off us⟩ rest := by
  simp only [Instr.fill, hp, hc]
  rw [if_neg (by simp; omega)]
  congr 1
  rw [← Array.foldl_toList]
  simp only [Array.toList_zipIdx]
  have := foldl_set us 0 off ⟨vs⟩ (by simp; omega)
  simpa using this

/-- Parts: the same places, and what is in them. -/
inductive Parts (K : KMap) (β κ : Nat → Nat) (H : Heap) : List (Nat × AVal) → List (Nat × Value) → Prop
  | nil : Parts K β κ H [] []
  | cons {i : Nat} {x : AVal} {v : Value} {ps : List (Nat × AVal)} {qs : List (Nat × Value)} : RA K β κ H x v → Parts K β κ H ps qs → Parts K β κ H ((i, x) :: ps) ((i, v) :: qs)

theorem fillA_sound {place place' : Nat → Option (Nat × Nat)} (hpl : ∀ i x, place i = some x → place' i = some x) : ∀ {parts : List (Nat × AVal)} {parts' : List (Nat × Value)} {cells cells' : List AVal} {vs : List Value},
    Parts K β κ H parts parts' → RAs K β κ H cells vs → fillA place cells parts = some cells' → ∃ vs', Instr.fill place' ⟨vs⟩ parts' = some ⟨vs'⟩ ∧ RAs K β κ H cells' vs' := by
  intro parts
  induction parts with
  | nil => intro parts' cells cells' vs hp hr h; cases hp; simp only [fillA, Option.some.injEq] at h; subst h; exact ⟨vs, rfl, hr⟩
  | cons p parts ih =>
    intro parts' cells cells' vs hp hr h
    cases hp with
    | cons hx h2 =>
      simp only [fillA] at h
      split at h
      · cases h
      · rename_i off size hpi
        split at h
        · rename_i hc
          simp only [Bool.and_eq_true, decide_eq_true_eq] at hc
          obtain ⟨us, h3, h4, h5⟩ := leaves_sound hx hc.1.1
          have h6 := h4.length
          have h7 := hr.length
          obtain ⟨vs', h8, h9⟩ := ih h2 (splice_ra hr h4 off) h
          exact ⟨vs', by rw [fill_step (hpl _ _ hpi) h3 (by omega) (by omega)]; exact h8, h9⟩
        · cases h

theorem constD_cells {z : Value} (h : allLeaf (leaves (constD z)) = true) : ∃ us, z.cells = ⟨us⟩ ∧ RAs K β κ H (leaves (constD z)) us ∧ ∀ u ∈ us, leafV u = true := leaves_sound (constD_sound z) h

theorem partsOf_sound {tm : Tm} {a : Act} (hf : FR K β κ H tm a.tmps) (ps : Array (Nat × Operand)) :
    Parts K β κ H (partsOf (ev tm) ps) (ps.map fun (i, x) => (i, a.eval x)).toList := by
  simp only [partsOf, Array.toList_map]
  induction ps.toList with
  | nil => exact .nil
  | cons p l ih => exact .cons (ev_sound hf p.2) ih

theorem run_mapM_places (fs : Array Field) (hall : ∀ f ∈ fs.toList, ∃ i, P.info? f.type = some i) (w : World) :
    (fs.mapM fun (f : Field) => (do pure (f.offset, ← sizeOf f.type) : Sem (Nat × Nat))).run P w = .ok (fs.map fun f => (f.offset, P.cellsOf f.type)) w := by
  rw [Array.mapM_eq_mapM_toList]
  have : ∀ l : List Field, (∀ f ∈ l, ∃ i, P.info? f.type = some i) → (l.mapM fun (f : Field) => (do pure (f.offset, ← sizeOf f.type) : Sem (Nat × Nat))).run P w = .ok (l.map fun f => (f.offset, P.cellsOf f.type)) w := by
    intro l
    induction l with
    | nil => intro _; rfl
    | cons f l ih =>
      intro h
      obtain ⟨i, hi⟩ := h f (by simp)
      simp only [List.mapM_cons, Sem.run_bind, run_size hi, Result.andThen_ok, Sem.run_pure, ih (fun g hg => h g (by simp [hg])), List.map_cons]
  simp only [Sem.run_map, this _ hall, Result.andThen_ok]
  congr 1
  apply Array.ext'
  simp
end Go.Eng

namespace Go.Eng
open Go

variable {P : Program} {K : KMap} {β κ : Nat → Nat} {H : Heap} {w : World} {Fr : Nat → Prop}

theorem build_sound {t : TypeId} {parts : List (Nat × AVal)} {parts' : Array (Nat × Value)} {cs : List AVal} (hp : Parts K β κ H parts parts'.toList) (h : buildA P t parts = some cs) :
    ∃ r, (Instr.build t parts').run P w = .ok r w ∧ RA K β κ H (.agg cs) r := by
  unfold buildA at h
  split at h
  · rename_i zero hz
    obtain ⟨i, z, hi, hiz, rfl⟩ := zeroLeaves_some hz
    split at h
    · rename_i fs hu
      split at h
      · rename_i hc
        simp only [Bool.and_eq_true, List.all_eq_true] at hc
        obtain ⟨us, h1, h2, h3⟩ := constD_cells (K := K) (β := β) (κ := κ) (H := H) hc.2
        obtain ⟨vs', h4, h5⟩ := fillA_sound (place' := fun i => (fs.map fun f => (f.offset, P.cellsOf f.type))[i]?) (fun j x hx => by simpa using hx) hp h2 h
        have hm := run_mapM_places (P := P) fs (fun f hf => Option.isSome_iff_exists.1 (hc.1 f hf)) w
        refine ⟨.agg ⟨vs'⟩, ?_, .agg h5⟩
        unfold Instr.build
        simp only [Sem.run_bind, run_zero hi hiz, Result.andThen_ok, h1, run_under hu]
        rw [hm]
        simp only [Result.andThen_ok, h4, Sem.run_pure]
      · cases h
    · rename_i n e hu
      split at h
      · rename_i hc
        simp only [Bool.and_eq_true, decide_eq_true_eq] at hc
        obtain ⟨us, h1, h2, h3⟩ := constD_cells (K := K) (β := β) (κ := κ) (H := H) hc.2
        obtain ⟨inf, hinf⟩ := info_of_cells hc.1
        obtain ⟨vs', h4, h5⟩ := fillA_sound (place' := fun i => some (i * P.cellsOf e, P.cellsOf e)) (fun j x hx => hx) hp h2 h
        refine ⟨.agg ⟨vs'⟩, ?_, .agg h5⟩
        unfold Instr.build
        simp only [Sem.run_bind, run_zero hi hiz, Result.andThen_ok, h1, run_under hu, run_size hinf, h4, Sem.run_pure]
      · cases h
    · cases h
  · cases h

theorem Cells.ofVs {g : Nat → Option Value} {o : Nat} {ds : List DVal} {us : List Value} (hv : Vs K ds us) (hl : ∀ u ∈ us, leafV u = true) (hg : ∀ i u, us[i]? = some u → g (o + i) = some u) : Cells K g o ds :=
  .of fun i x hi => by
    obtain ⟨u, h1, h2⟩ := hv.get hi
    exact ⟨u, hg i u h1, hl u (List.mem_of_getElem? h1), h2⟩

/-- The cells that parts come to, one behind the other. -/
theorem fill_seq {ts : List TypeId} {lk : Nat → BView} (hl : LkOk K β H lk) {size : Nat} : ∀ {ps : List (Nat × AVal)} {qs : List (Nat × Value)} {k : Nat} {rows : Rows} {vs : List Value},
    Parts K β κ H ps qs → rowsP P ts lk size k ps = some rows → vs.length = (k + ps.length) * size →
    ∃ us : List Value, Instr.fill (fun i => some (i * size, size)) ⟨vs⟩ qs = some ⟨vs.take (k * size) ++ us⟩ ∧ us.length = ps.length * size ∧ rows.length = ps.length ∧ Rws K (fun o => us[o]?) size 0 rows ∧ ∀ u ∈ us, leafV u = true
  | [], qs, k, rows, vs, hp, h, hlen => by
    cases hp
    simp only [rowsP, Option.some.injEq] at h; subst h
    refine ⟨[], ?_, by simp, rfl, .nil _ _ _, by simp⟩
    simp only [Instr.fill, List.append_nil]
    rw [List.take_of_length_le (by simp at hlen; omega)]
  | (i, x) :: ps, qs, k, rows, vs, hp, h, hlen => by
    cases hp with
    | cons hx hps =>
      rename_i v qs
      simp only [rowsP] at h
      split at h
      · rename_i hc
        simp only [Bool.and_eq_true] at hc
        have := Nat.eq_of_beq_eq_true hc.1; subst this
        split at h
        · rename_i row rows' h1 h2
          split at h
          · rename_i hrl
            injection h with h; subst h
            obtain ⟨ws, h3, h4, h5⟩ := leaves_sound hx hc.2
            obtain ⟨row0, h1, h1'⟩ := some_of_bind h1
            have hvs := castRow_sound h1' (toDs_sound hl _ h4 h1)
            have hwl := hvs.length
            simp only [List.length_cons] at hlen
            have hle : i * size + size ≤ vs.length := by
              rw [hlen, show i + (ps.length + 1) = (i + 1) + ps.length by omega, Nat.add_mul, Nat.succ_mul]; omega
            obtain ⟨us, h6, h7, h8, h9, h10⟩ := fill_seq hl (vs := splice vs (i * size) ws) hps h2 (by
              simp [splice]; rw [hlen, show i + 1 + ps.length = i + (ps.length + 1) by omega] at *; omega)
            refine ⟨ws ++ us, ?_, by simp [h7, hwl, hrl, Nat.succ_mul]; omega, by simp [h8], ?_, ?_⟩
            · rw [fill_step rfl h3 (by omega) hle, h6]
              congr 2
              rw [← List.append_assoc]
              congr 1
              unfold splice
              rw [show (i + 1) * size = i * size + ws.length by rw [Nat.succ_mul]; omega]
              rw [List.append_assoc, List.take_append]
              have hln : (vs.take (i * size)).length = i * size := by simp; omega
              rw [hln, List.take_of_length_le (by omega)]
              congr 1
              rw [show i * size + ws.length - i * size = ws.length by omega]
              simp
            · refine .cons hrl (.ofVs hvs h5 fun j u hj => ?_) (h9.shift fun j hj => ?_)
              · have := (List.getElem?_eq_some_iff.1 hj).1
                simp only [Nat.zero_add]
                rw [List.getElem?_append_left this]; exact hj
              · simp only [Nat.zero_add]
                rw [List.getElem?_append_right (by omega)]
                congr 1; omega
            · intro u hu
              rcases List.mem_append.1 hu with hu | hu
              · exact h5 u hu
              · exact h10 u hu
          · cases h
        · cases h
      · cases h

theorem rowsP_length {ts : List TypeId} {lk : Nat → BView} {size : Nat} : ∀ {ps : List (Nat × AVal)} {k : Nat} {rows : Rows}, rowsP P ts lk size k ps = some rows → rows.length = ps.length
  | [], _, _, h => by simp only [rowsP, Option.some.injEq] at h; subst h; rfl
  | (i, x) :: ps, k, rows, h => by
    simp only [rowsP] at h
    split at h
    · split at h
      · rename_i h1 h2
        split at h
        · injection h with h; subst h; simp [rowsP_length h2]
        · cases h
      · cases h
    · cases h

theorem Parts.mono {K' : KMap} {β' κ' : Nat → Nat} {H' : Heap} (hE : Ext K β κ H K' β' κ' H') {ps : List (Nat × AVal)} {qs : List (Nat × Value)} (h : Parts K β κ H ps qs) : Parts K' β' κ' H' ps qs := by
  induction ps generalizing qs with
  | nil => cases h; exact .nil
  | cons p ps ih => cases h with | cons h1 h2 => exact .cons (h1.mono hE) (ih h2)

/-- What 'buildSlice' does in memory. -/
theorem run_buildSlice {t e : TypeId} {inf : TypeInfo} {z : Value} (hu : P.underlying t = some (.slice e)) (hinf : P.info? e = some inf) (hz : inf.zero = some z) {lk : Nat → BView} (hl : LkOk K β H lk)
    {ps : List (Nat × AVal)} {qs : Array (Nat × Value)} {rows : Rows} {ts : List TypeId} (hp : Parts K β κ H ps qs.toList) (hr : rowsP P ts lk (P.cellsOf e) 0 ps = some rows) (hb : ps.length * P.cellsOf e ≤ 16777216) :
    ∃ us, (Instr.buildSlice t ps.length qs).run P w = .ok (.slice (some ⟨w.heap.size, 0, none⟩) ps.length ps.length) (w.alloc (.cells ⟨us⟩ e)) ∧ us.length = ps.length * P.cellsOf e ∧ Rws K (fun o => us[o]?) (P.cellsOf e) 0 rows ∧ ∀ u ∈ us, leafV u = true := by
  have key : ∀ za : Array Value, ∃ us : List Value, Instr.fill (fun i => some (i * P.cellsOf e, P.cellsOf e)) ((Array.range (ps.length * P.cellsOf e)).map (za[· % za.size]!)) qs.toList = some ⟨us⟩ ∧
      us.length = ps.length * P.cellsOf e ∧ Rws K (fun o => us[o]?) (P.cellsOf e) 0 rows ∧ ∀ u ∈ us, leafV u = true := by
    intro za
    obtain ⟨us, h1, h2, h3, h4, h5⟩ := fill_seq hl (k := 0) (vs := ((Array.range (ps.length * P.cellsOf e)).map (za[· % za.size]!)).toList) hp hr (by simp)
    exact ⟨us, by simp only [Nat.zero_mul, List.take_zero, List.nil_append] at h1; exact h1, h2, h4, h5⟩
  by_cases h0 : ps.length * P.cellsOf e = 0
  · obtain ⟨us, h1, h2, h3, h4⟩ := key #[]
    refine ⟨us, ?_, h2, h3, h4⟩
    unfold Instr.buildSlice
    simp only [Sem.run_bind, run_under hu, Result.andThen_ok, run_size hinf]
    rw [if_neg (by omega), if_pos h0]
    simp only [Sem.run_bind, Sem.run_pure, Result.andThen_ok]
    rw [h1]
    simp only [Sem.run_bind, run_newRow, Result.andThen_ok, Sem.run_pure]
  · obtain ⟨us, h1, h2, h3, h4⟩ := key z.cells
    refine ⟨us, ?_, h2, h3, h4⟩
    unfold Instr.buildSlice
    simp only [Sem.run_bind, run_under hu, Result.andThen_ok, run_size hinf]
    rw [if_neg (by omega), if_neg h0]
    simp only [Sem.run_bind, run_zero hinf hz, Sem.run_pure, Result.andThen_ok]
    rw [h1]
    simp only [Sem.run_bind, run_newRow, Result.andThen_ok, Sem.run_pure]

theorem buildSlice_sound {t : TypeId} {len nid : Nat} {parts : List (Nat × AVal)} {parts' : Array (Nat × Value)} {own : Bool} {z : AVal} {H' : Heap} (s : SR Fr K β κ H w) (hp : Parts K β κ H parts parts'.toList)
    (h : (plBuildSlice P t len parts own nid).run H (fun v H' => some (v, H')) = some (z, H')) :
    ∃ r w', (Instr.buildSlice t len parts').run P w = .ok r w' ∧ Post Fr K β κ H w z H' r w' := by
  unfold plBuildSlice at h
  split at h
  · rename_i e hu
    split at h
    · rename_i zl hzl
      obtain ⟨inf, zv, hinf, hzv, _⟩ := zeroLeaves_some hzl
      split at h
      · rename_i hc
        simp only [Bool.and_eq_true, decide_eq_true_eq] at hc
        obtain ⟨⟨hlen, hpos⟩, hb⟩ := hc
        subst hlen
        cases own
        · simp only [cond_false, Plan.run] at h
          obtain ⟨bs, h1, h2, h3⟩ := viewsOf_some h
          split at h3
          · rename_i rows hr
            simp only [Option.some.injEq, Prod.mk.injEq] at h3
            obtain ⟨rfl, rfl⟩ := h3
            obtain ⟨K1, s1, e1, n1⟩ := s.freezeAll _ (blks_all h2)
            have hlk := lkOk_frozen h2 (blks_all h2) s1
            obtain ⟨us, h4, h5, h6, h7⟩ := run_buildSlice (w := w) hu hinf hzv hlk (hp.mono e1) hr hb
            obtain ⟨K2, s2, e2, n2, k2, h8⟩ := s1.newFixed us e
            refine ⟨_, _, h4, K2, β, κ, s2, e1.trans e2, n1.trans e1.kle n2, k2, .d ?_⟩
            have hrl := rowsP_length hr
            rw [← hrl]
            refine .sl _ _ _ _ _ _ (by decide) (Nat.le_refl _) ((h6.mono e2.kle (fun _ _ e => e)).shift fun i _ => ?_)
            simp only [Nat.zero_add]; rw [h8]
          · cases h3
        · simp only [cond_true] at h
          split at h
          · rename_i rows hr
            simp only [Plan.run, viewsOf] at h
            obtain ⟨H2, hput, h⟩ := putNew_some h
            simp only [Option.some.injEq, Prod.mk.injEq] at h
            obtain ⟨rfl, rfl⟩ := h
            obtain ⟨us, h4, h5, h6, h7⟩ := run_buildSlice (w := w) hu hinf hzv (LkOk.none (K := K) (β := β) (H := H)) hp hr hb
            have hrl := rowsP_length hr
            obtain ⟨s1, e1, k1⟩ := s.new hput parts.length (.cells ⟨us⟩ e) (fun hE => by
              by_cases hn : rows = []
              · exact .inl hn
              · refine .inr ⟨us, ⟨e, by rw [upd_same]; exact alloc_new _⟩, h6, fun o => by rw [upd_same]; exact s.noneOf (Nat.le_refl _) o, ?_, ?_⟩
                · rw [upd_same]; omega
                · rw [upd_same]; omega)
            refine ⟨_, _, h4, K, _, _, s1, e1, .refl _ _, k1, ?_⟩
            have hcur : curOf H2 nid = some (P.cellsOf e, 0, rows.length) := by rw [curOf_eq, hput.self]; rfl
            refine .vh hcur (Nat.le_refl _) ⟨_, _, rfl, Nat.le_refl _, fun _ => rfl⟩ fun _ => ⟨by omega, ?_⟩
            rw [upd_same, upd_same, hrl]
            by_cases hz : parts.length = 0
            · exact .inl ⟨hz, _, by rw [hz]⟩
            · exact .inr ⟨hz, rfl⟩
          · cases h
      · cases h
    · cases h
  · cases h
end Go.Eng
