/- A machine that runs a translated function over symbolic data, and its soundness; part 1 of 3. -/
import Derived.WalkKit
import Derived.Below
import Derived.Orders
import Derived.Deep.LoopGhost
import Derived.Laws.AppendOwn
import Derived.Laws.MakeOwn
import Derived.Laws.OwnMore
import Derived.Laws.Rows
import Derived.Laws.Tables
import Derived.Laws.Small
import Derived.Laws.Cover3
import Derived.Laws.Pointers
import Derived.Laws.BytesString
import Derived.Deep.AppendSrc
set_option linter.unusedVariables false
set_option linter.unusedSimpArgs false
namespace Go.Vm
open Go

/-! ### values and rows -/
/-- A value of the symbolic machine. Rows of cells are named by numbers; 'un': not known. -/
inductive V where
  | un
  | int (k : IntKind) (n : Int)
  | bool (b : Bool)
  | str (s : ByteArray)
  | nils
  | nilp
  | ptr (id i f : Nat)
  | sl (id off len : Nat)
  | agg (cs : List V)
  | tup (cs : List V)
  deriving Inhabited

/-- Where a row lies: its block, its first cell there, a cell count an element, how many elements, and for how many there is room. -/
structure Pl where
  blk : Nat
  base : Nat
  sz : Nat
  n : Nat
  room : Nat
abbrev Ren := Nat → Option Pl

def leaf : V → Bool
  | .un | .agg _ | .tup _ => false
  | _ => true

inductive VR (ρ : Ren) : V → Value → Prop
  | un (v : Value) : VR ρ .un v
  | int (k : IntKind) (n : Int) : VR ρ (.int k n) (.int k n)
  | bool (b : Bool) : VR ρ (.bool b) (.bool b)
  | str (s : ByteArray) : VR ρ (.str s) (.string s)
  | nils : VR ρ .nils (.slice none 0 0)
  | nilp : VR ρ .nilp (.pointer none)
  | ptr {id i f : Nat} {p : Pl} (h : ρ id = some p) (hi : i < p.n) (hf : f < p.sz) : VR ρ (.ptr id i f) (.pointer (some ⟨p.blk, p.base + (i * p.sz + f), none⟩))
  | sl {id off len cap : Nat} {p : Pl} (h : ρ id = some p) (hn : off + len ≤ p.n) (hl : len ≤ cap) (hr : off + cap ≤ p.room) (hm : p.room ≤ maxLen) : VR ρ (.sl id off len) (.slice (some ⟨p.blk, p.base + off * p.sz, none⟩) len cap)
  | slz (id off : Nat) (b : Option Addr) : VR ρ (.sl id off 0) (.slice b 0 0)
  | agg {cs : List V} {vs : Array Value} (hl : vs.size = cs.length) (hf : ∀ c ∈ cs, leaf c = true) (h : ∀ (i : Nat) (c : V) (v : Value), cs[i]? = some c → vs[i]? = some v → VR ρ c v) : VR ρ (.agg cs) (.agg vs)
  | tup {cs : List V} {vs : Array Value} (hl : vs.size = cs.length) (h : ∀ (i : Nat) (c : V) (v : Value), cs[i]? = some c → vs[i]? = some v → VR ρ c v) : VR ρ (.tup cs) (.tuple vs)

def Ext (ρ ρ' : Ren) : Prop := ∀ id p, ρ id = some p → ρ' id = some p
theorem Ext.refl (ρ : Ren) : Ext ρ ρ := fun _ _ h => h
theorem Ext.trans {ρ ρ1 ρ2 : Ren} (h : Ext ρ ρ1) (k : Ext ρ1 ρ2) : Ext ρ ρ2 := fun id p e => k id p (h id p e)
theorem VR.ext {ρ ρ' : Ren} {x : V} {v : Value} (h : VR ρ x v) (e : Ext ρ ρ') : VR ρ' x v := by
  induction h with
  | un v => exact .un v
  | int k n => exact .int k n
  | bool b => exact .bool b
  | str s => exact .str s
  | nils => exact .nils
  | nilp => exact .nilp
  | ptr h hi hf => exact .ptr (e _ _ h) hi hf
  | sl h hn hl hr hm => exact .sl (e _ _ h) hn hl hr hm
  | slz id off b => exact .slz id off b
  | agg hl hf _ ih => exact .agg hl hf ih
  | tup hl _ ih => exact .tup hl ih
theorem VR.oneCell {ρ : Ren} {x : V} {v : Value} (h : VR ρ x v) (hl : leaf x = true) : v.oneCell' = true := by
  cases h <;> simp_all [leaf] <;> rfl

/-! ### rows: typed lists -/
inductive Fd where
  | int (k : IntKind)
  | bool
  | str
  | ref
  deriving DecidableEq
def FdT : Fd → Type
  | .int _ => Int
  | .bool => Bool
  | .str => ByteArray
  | .ref => V
def encF : (f : Fd) → FdT f → V
  | .int k, n => .int k n
  | .bool, b => .bool b
  | .str, s => .str s
  | .ref, v => v
def decF : (f : Fd) → V → Option (FdT f)
  | .int k, .int k' n => if k = k' then some n else none
  | .bool, .bool b => some b
  | .str, .str s => some s
  | .ref, .nils => some .nils
  | .ref, .nilp => some .nilp
  | .ref, .ptr a b c => some (.ptr a b c)
  | .ref, .sl a b c => some (.sl a b c)
  | _, _ => none
def dfF : (f : Fd) → FdT f
  | .int _ => (0 : Int)
  | .bool => false
  | .str => ByteArray.empty
  | .ref => V.un
def Rec : List Fd → Type
  | [] => Unit
  | f :: fs => FdT f × Rec fs
def encR : (fs : List Fd) → Rec fs → List V
  | [], _ => []
  | f :: fs, (x, r) => encF f x :: encR fs r
def decR : (fs : List Fd) → List V → Option (Rec fs)
  | [], [] => some ()
  | f :: fs, v :: vs => match decF f v, decR fs vs with
    | some x, some r => some (x, r)
    | _, _ => none
  | _, _ => none
def dfR : (fs : List Fd) → Rec fs
  | [] => ()
  | f :: fs => (dfF f, dfR fs)

theorem decF_enc {f : Fd} {v : V} {x : FdT f} (h : decF f v = some x) : encF f x = v := by
  cases f <;> cases v <;> simp [decF] at h <;> first | (obtain ⟨rfl, h⟩ := h; cases h; rfl) | (cases h; rfl)
theorem decR_enc : ∀ {fs : List Fd} {vs : List V} {x : Rec fs}, decR fs vs = some x → encR fs x = vs
  | [], [], _, _ => rfl
  | [], _ :: _, _, h => by simp [decR] at h
  | _ :: _, [], _, h => by simp [decR] at h
  | f :: fs, v :: vs, x, h => by
    simp only [decR] at h
    cases hf : decF f v with
    | none => rw [hf] at h; cases h
    | some y =>
      cases hr : decR fs vs with
      | none => rw [hf, hr] at h; cases h
      | some r =>
        rw [hf, hr] at h
        obtain rfl := Option.some.inj h
        simp only [encR, decF_enc hf, decR_enc hr]
theorem encR_length : ∀ (fs : List Fd) (r : Rec fs), (encR fs r).length = fs.length
  | [], _ => rfl
  | f :: fs, (x, r) => by simp [encR, encR_length fs r]
theorem decF_leaf {f : Fd} {v : V} {x : FdT f} (h : decF f v = some x) : leaf v = true := by
  cases f <;> cases v <;> simp [decF] at h <;> rfl

/-- What a row holds: 'one': a variable, its cells; 'col': elements of one cell; 'recs': elements of several cells. -/
inductive Body where
  | one (cs : List V)
  | col (f : Fd) (xs : List (FdT f))
  | recs (fs : List Fd) (xs : List (Rec fs))
namespace Body
def n : Body → Nat
  | .one _ => 1
  | .col _ xs => xs.length
  | .recs _ xs => xs.length
def sz : Body → Nat
  | .one cs => cs.length
  | .col _ _ => 1
  | .recs fs _ => fs.length
def cell : Body → Nat → Nat → V
  | .one cs, _, f => cs.getD f .un
  | .col fd xs, i, _ => encF fd (xs.getD i (dfF fd))
  | .recs fs xs, i, f => (encR fs (xs.getD i (dfR fs))).getD f .un
/-- One cell written. -/
def set : Body → Nat → Nat → V → Option Body
  | .one cs, _, f, v => some (.one (cs.set f v))
  | .col fd xs, i, _, v => (decF fd v).map fun x => .col fd (xs.set i x)
  | .recs fs xs, i, f, v => (decR fs ((encR fs (xs.getD i (dfR fs))).set f v)).map fun x => .recs fs (xs.set i x)
end Body
structure Row where
  own : Bool
  ty : TypeId
  body : Body
theorem Body.set_n {b b' : Body} {i f : Nat} {v : V} (h : b.set i f v = some b') : b'.n = b.n ∧ b'.sz = b.sz := by
  cases b with
  | one cs => simp [Body.set] at h; subst h; simp [Body.n, Body.sz]
  | col fd xs => simp [Body.set] at h; obtain ⟨x, _, rfl⟩ := h; simp [Body.n, Body.sz]
  | recs fs xs => simp [Body.set] at h; obtain ⟨x, _, rfl⟩ := h; simp [Body.n, Body.sz]
theorem Body.set_cell {b b' : Body} {i f : Nat} {v : V} (h : b.set i f v = some b') (hi : i < b.n) (hf : f < b.sz) (j g : Nat) (hj : j < b.n) (hg : g < b.sz) :
    b'.cell j g = if j = i ∧ g = f then v else b.cell j g := by
  cases b with
  | one cs =>
    simp [Body.set] at h; subst h
    simp only [Body.n, Body.sz] at hi hf hj hg
    obtain rfl : i = 0 := by omega
    obtain rfl : j = 0 := by omega
    simp only [Body.cell, true_and]
    by_cases e : g = f
    · subst e; simp [List.getD, hg]
    · rw [if_neg e]; simp [List.getD, List.getElem?_set, Ne.symm e]
  | col fd xs =>
    simp [Body.set] at h; obtain ⟨x, hx, rfl⟩ := h
    simp only [Body.n, Body.sz] at hi hf hj hg
    obtain rfl : f = 0 := by omega
    obtain rfl : g = 0 := by omega
    simp only [Body.cell, and_true]
    by_cases e : j = i
    · subst e; simp [List.getD, hj, decF_enc hx]
    · rw [if_neg e]; simp [List.getD, List.getElem?_set, Ne.symm e]
  | recs fs xs =>
    simp [Body.set] at h; obtain ⟨x, hx, rfl⟩ := h
    simp only [Body.n, Body.sz] at hi hf hj hg
    simp only [Body.cell]
    by_cases e : j = i
    · subst e
      have he := decR_enc hx
      have e1 : (xs.set j x).getD j (dfR fs) = x := by simp [List.getD, hj]
      rw [e1, he]
      by_cases e2 : g = f
      · subst e2; simp [List.getD, encR_length, hg]
      · rw [if_neg (by simp [e2])]; simp [List.getD, List.getElem?_set, Ne.symm e2]
    · rw [if_neg (by simp [e])]; simp [List.getD, List.getElem?_set, Ne.symm e]
end Go.Vm
set_option linter.unusedVariables false
set_option linter.unusedSimpArgs false
namespace Go.Vm
open Go

/-! ### the symbolic machine -/
abbrev Mem := Nat → Option Row
structure St where
  env : Nat → V
  mem : Mem
  nx : Nat
inductive TD where
  | int (k : IntKind)
  | bool
  | str
  | ptr (e : TypeId)
  | sl (e : TypeId)
  | arr (len : Nat) (e : TypeId)
  | st (fs : List (Nat × TypeId))
structure TInfo where
  td : TD
  size : Nat
  bytes : Nat
  agg : Bool
  zero : List V
  fds : List Fd
  eq : Bool
abbrev Tab := TypeId → Option TInfo
/-- What is kept: nil slices that become empty rows (in cells of variables; in slots), and the slots. -/
structure Keep where
  cells : List (Nat × Nat × TypeId × List Fd)
  sl : List (Nat × TypeId × List Fd)
  keep : List Nat
/-- What the machine is told: the types; the callees; what is kept at a region's end, at a join, at a loop's head, at the end; the rounds of a loop; the frame's slots; the rows handed in; which arguments a callee writes to. -/
structure Ctx where
  tab : Tab
  call : FuncId → List V → Mem → Nat → (R : Type) → (V → Mem → Nat → Option R) → Option R
  mask : Nat → Option Keep
  join : Nat → Option Keep
  head : Nat → Option Keep
  fin : Keep
  fuel : Nat
  gate : Nat
  slots : Nat
  base : Nat
  wr : FuncId → List Nat

def ofL : List (Nat × V) → Nat → V
  | [], _ => .un
  | (s, v) :: l, t => if t = s then v else ofL l t
def ofM : List (Nat × Option Row) → Mem
  | [], _ => none
  | (s, r) :: l, t => if t = s then r else ofM l t
def upd (m : Mem) (id : Nat) (r : Option Row) : Mem := fun t => if t = id then r else m t
def St.put (s : St) (dst : Option Tmp) (v : V) : St :=
  match dst with
  | some d => { s with env := fun t => if t = d then v else s.env t }
  | none => s

def ofConst : Value → V
  | .int k n => .int k n
  | .bool b => .bool b
  | .string s => .str s
  | .slice none 0 0 => .nils
  | .pointer none => .nilp
  | .tuple ⟨[]⟩ => .tup []
  | _ => .un
def opv (s : St) : Operand → V
  | .tmp t => s.env t
  | .const v => ofConst v
  | _ => .un

/-- The cells of a value that can be stored. -/
def cellsV : V → Option (List V)
  | .agg cs => some cs
  | v => if leaf v then some [v] else none

def binI (op : BinOp) (k : IntKind) (a b : Int) : Option V :=
  match op with
  | .add => some (.int k (k.wrap (a + b)))
  | .sub => some (.int k (k.wrap (a - b)))
  | .mul => some (.int k (k.wrap (a * b)))
  | .and => some (.int k (k.wrap (BitVec.ofInt k.bits a &&& BitVec.ofInt k.bits b).toNat))
  | .or => some (.int k (k.wrap (BitVec.ofInt k.bits a ||| BitVec.ofInt k.bits b).toNat))
  | .xor => some (.int k (k.wrap (BitVec.ofInt k.bits a ^^^ BitVec.ofInt k.bits b).toNat))
  | .andNot => some (.int k (k.wrap (BitVec.ofInt k.bits a &&& ~~~ BitVec.ofInt k.bits b).toNat))
  | .eql => some (.bool (a == b))
  | .neq => some (.bool (a != b))
  | .lss => some (.bool (decide (a < b)))
  | .leq => some (.bool (decide (a ≤ b)))
  | .gtr => some (.bool (decide (a > b)))
  | .geq => some (.bool (decide (a ≥ b)))
  | _ => none
/-- Two lists of plain cells: are they the same? -/
def eqF : (f : Fd) → FdT f → FdT f → Bool
  | .int _, (a : Int), (b : Int) => a == b
  | .bool, (a : Bool), (b : Bool) => a == b
  | .str, (a : ByteArray), (b : ByteArray) => a == b
  | .ref, _, _ => false
def eqR : (fs : List Fd) → Rec fs → Rec fs → Bool
  | [], _, _ => true
  | f :: fs, (x, r), (y, q) => eqF f x y && eqR fs r q
def eqC (fs : List Fd) (xs ys : List V) : Option Bool :=
  match decR fs xs, decR fs ys with
  | some a, some b => some (eqR fs a b)
  | _, _ => none
section
variable {R : Type}
def binC (tab : Tab) (t : TypeId) (op : BinOp) (x y : V) (K : V → Option R) : Option R :=
  match x, y with
  | .int k a, .int k' b =>
    match op with
    | .shl => cond (decide (b < 0)) none (K (.int k (k.wrap (a * 2 ^ (min b.toNat k.bits)))))
    | .shr => cond (decide (b < 0)) none (K (.int k (a.fdiv (2 ^ (min b.toNat k.bits)))))
    | .quo => if k = k' then cond (b == 0) none (K (.int k (k.wrap (a.tdiv b)))) else none
    | .rem => if k = k' then cond (b == 0) none (K (.int k (a.tmod b))) else none
    | op => if k = k' then (match binI op k a b with | some v => K v | none => none) else none
  | .bool a, .bool b =>
    match tab t with
    | some { td := .bool, .. } =>
      match op with
      | .eql => K (.bool (a == b))
      | .neq => K (.bool (!(a == b)))
      | _ => none
    | _ => none
  | .str a, .str b =>
    match op with
    | .eql => K (.bool (a.toList == b.toList))
    | .neq => K (.bool (a.toList != b.toList))
    | _ => none
  | .agg xs, .agg ys =>
    match tab t with
    | some { eq := true, fds := fs, .. } =>
      match eqC fs xs ys with
      | some b =>
        match op with
        | .eql => K (.bool b)
        | .neq => K (.bool (!b))
        | _ => none
      | none => none
    | _ => none
  | .nilp, .nilp =>
    match tab t, op with
    | some { td := .ptr _, .. }, .eql => K (.bool true)
    | some { td := .ptr _, .. }, .neq => K (.bool false)
    | _, _ => none
  | .ptr _ _ _, .nilp =>
    match tab t, op with
    | some { td := .ptr _, .. }, .eql => K (.bool false)
    | some { td := .ptr _, .. }, .neq => K (.bool true)
    | _, _ => none
  | .nils, .nils =>
    match tab t, op with
    | some { td := .sl _, .. }, .eql => K (.bool true)
    | some { td := .sl _, .. }, .neq => K (.bool false)
    | _, _ => none
  | .sl _ _ len, .nils =>
    match tab t, op with
    | some { td := .sl _, .. }, .eql => cond (Nat.blt 0 len) (K (.bool false)) none
    | some { td := .sl _, .. }, .neq => cond (Nat.blt 0 len) (K (.bool true)) none
    | _, _ => none
  | _, _ => none
/-- An index below a small bound, told apart. -/
def selIdx (i : Int) (K : Nat → Option R) : Nat → Nat → Option R
  | _, 0 => none
  | j, n + 1 => cond (i == (j : Int)) (K j) (selIdx i K (j + 1) n)
end

def fillV (cells : List V) (off : Nat) : List V → List V
  | [] => cells
  | c :: cs => fillV (cells.set off c) (off + 1) cs
def buildV (place : Nat → Option (Nat × Nat)) (cells : List V) : List (Nat × V) → Option (List V)
  | [] => some cells
  | (i, v) :: rest =>
    match place i, cellsV v with
    | some (off, size), some cs => if cs.length = size ∧ off + cs.length ≤ cells.length then buildV place (fillV cells off cs) rest else none
    | _, _ => none
def decCol (f : Fd) : List V → Option (List (FdT f))
  | [] => some []
  | v :: vs => match decF f v, decCol f vs with
    | some x, some xs => some (x :: xs)
    | _, _ => none
def decRecs (fs : List Fd) : Nat → List V → Option (List (Rec fs))
  | 0, [] => some []
  | n + 1, vs => match decR fs (vs.take fs.length), decRecs fs n (vs.drop fs.length) with
    | some x, some xs => some (x :: xs)
    | _, _ => none
  | _, _ => none
def mkBody (fs : List Fd) (n : Nat) (cells : List V) : Option Body :=
  match fs with
  | [f] => (decCol f cells).map (.col f)
  | fs => (decRecs fs n cells).map (.recs fs)
def zeroBody (fs : List Fd) (zero : List V) (n : Nat) : Option Body :=
  match fs, zero with
  | [f], [z] => (decF f z).map fun x => .col f (List.replicate n x)
  | fs, z => (decR fs z).map fun x => .recs fs (List.replicate n x)
def Body.sub : Body → Nat → Nat → Body
  | .one cs, _, _ => .one cs
  | .col f xs, off, len => .col f ((xs.drop off).take len)
  | .recs fs xs, off, len => .recs fs ((xs.drop off).take len)
def Body.app : Body → Body → Option Body
  | .col f xs, .col g ys => if h : f = g then some (.col g ((h ▸ xs : List (FdT g)) ++ ys)) else none
  | .recs fs xs, .recs gs ys => if h : fs = gs then some (.recs gs ((h ▸ xs : List (Rec gs)) ++ ys)) else none
  | _, _ => none
def Body.isOne : Body → Bool
  | .one _ => true
  | _ => false

section
variable {R : Type}
/-- Cells 'f' to 'f + n - 1' of one element. -/
def rdCells (b : Body) (i f : Nat) : Nat → List V
  | 0 => []
  | n + 1 => b.cell i f :: rdCells b i (f + 1) n
def wrCells (b : Body) (i f : Nat) : List V → Option Body
  | [] => some b
  | v :: vs => match b.set i f v with
    | some b' => wrCells b' i (f + 1) vs
    | none => none
def partV (tab : Tab) (t : TypeId) (cs : List V) (off : Nat) : Option V :=
  match tab t with
  | some ti => if ti.agg then (if off + ti.size ≤ cs.length then some (.agg ((cs.drop off).take ti.size)) else none) else cs[off]?
  | none => none
def optI (s : St) : Option Operand → Option (Option Int)
  | none => some none
  | some x => match opv s x with
    | .int _ n => some (some n)
    | _ => none

def aPick (c : Ctx) (s : St) (b x y : Operand) (K : V → Mem → Nat → Option R) : Option R :=
  match opv s b with | .bool t => cond t (K (opv s x) s.mem s.nx) (K (opv s y) s.mem s.nx) | _ => none

def aAlloc (c : Ctx) (s : St) (t : TypeId) (K : V → Mem → Nat → Option R) : Option R :=
  match c.tab t with | some ti => if 0 < ti.size then K (.ptr s.nx 0 0) (upd s.mem s.nx (some ⟨true, t, .one ti.zero⟩)) (s.nx + 1) else none | none => none

def aBox (c : Ctx) (s : St) (t : TypeId) (x : Operand) (K : V → Mem → Nat → Option R) : Option R :=
  match c.tab t, cellsV (opv s x) with
      | some ti, some cs => if cs.length = ti.size ∧ 0 < ti.size then K (.ptr s.nx 0 0) (upd s.mem s.nx (some ⟨true, t, .one cs⟩)) (s.nx + 1) else none
      | _, _ => none

def aLoad (c : Ctx) (s : St) (t : TypeId) (x : Operand) (K : V → Mem → Nat → Option R) : Option R :=
  match opv s x, c.tab t with
      | .ptr id i f, some ti => match s.mem id with
        | some row => if f + ti.size ≤ row.body.sz then (if ti.agg then K (.agg (rdCells row.body i f ti.size)) s.mem s.nx else if ti.size = 1 then K (row.body.cell i f) s.mem s.nx else none) else none
        | none => none
      | _, _ => none

def aStore (c : Ctx) (s : St) (t : TypeId) (x y : Operand) (K : V → Mem → Nat → Option R) : Option R :=
  match opv s x, c.tab t, cellsV (opv s y) with
      | .ptr id i f, some ti, some cs => match s.mem id with
        | some row => if row.own ∧ cs.length = ti.size ∧ f + ti.size ≤ row.body.sz then
            (match wrCells row.body i f cs with
            | some b => K (.tup []) (upd s.mem id (some { row with body := b })) s.nx
            | none => none) else none
        | none => none
      | _, _, _ => none

def aNilCheck (c : Ctx) (s : St) (x : Operand) (K : V → Mem → Nat → Option R) : Option R :=
  match opv s x with | .ptr id i f => K (.ptr id i f) s.mem s.nx | _ => none

def aExtract (c : Ctx) (s : St) (x : Operand) (k : Nat) (K : V → Mem → Nat → Option R) : Option R :=
  match opv s x with | .tup vs => (match vs[k]? with | some v => K v s.mem s.nx | none => none) | _ => none

def aFieldAddr (c : Ctx) (s : St) (t : TypeId) (x : Operand) (k : Nat) (K : V → Mem → Nat → Option R) : Option R :=
  match opv s x, c.tab t with
      | .ptr id i f, some { td := .st fs, .. } => (match fs[k]? with
        | some (off, e) => (match s.mem id, c.tab e with
          | some row, some te => if f + off < row.body.sz ∧ 0 < te.size then K (.ptr id i (f + off)) s.mem s.nx else none
          | _, _ => none)
        | none => none)
      | _, _ => none

def aUnOp (c : Ctx) (s : St) (op : UnOp) (x : Operand) (K : V → Mem → Nat → Option R) : Option R :=
  match op, opv s x with
      | .neg, .int k n => K (.int k (k.wrap (0 - n))) s.mem s.nx
      | .xor, .int k n => K (.int k (k.wrap (BitVec.ofInt k.bits (if k.signed then -1 else k.max) ^^^ BitVec.ofInt k.bits n).toNat)) s.mem s.nx
      | .not, .bool b => K (.bool (!b)) s.mem s.nx
      | _, _ => none

def textOf (xs : List Int) : ByteArray := xs.foldl (fun r n => r.push (UInt8.ofNat n.toNat)) ByteArray.empty
def aText (c : Ctx) (s : St) (e : TypeId) (id off len : Nat) (K : V → Mem → Nat → Option R) : Option R :=
  match c.tab e, s.mem id with
  | some { td := .int .u8, .. }, some ⟨_, _, .col (.int .u8) xs⟩ => K (.str (textOf (List.take len (List.drop off xs)))) s.mem s.nx
  | _, _ => none
def aConvert (c : Ctx) (s : St) (src dst : TypeId) (x : Operand) (K : V → Mem → Nat → Option R) : Option R :=
  match c.tab src, c.tab dst, opv s x with
      | some _, some { td := .int k, .. }, .int _ n => K (.int k (k.wrap n)) s.mem s.nx
      | some { td := .sl e, .. }, some { td := .str, .. }, .sl id off len => aText c s e id off len K
      | _, _, _ => none

def aField (c : Ctx) (s : St) (t : TypeId) (x : Operand) (k : Nat) (K : V → Mem → Nat → Option R) : Option R :=
  match opv s x, c.tab t with
      | .agg cs, some { td := .st fs, .. } => (match fs[k]? with
        | some (off, e) => (match partV c.tab e cs off with
          | some v => K v s.mem s.nx
          | none => none)
        | none => none)
      | _, _ => none

def aIndexAddr (c : Ctx) (s : St) (t : TypeId) (x ix : Operand) (K : V → Mem → Nat → Option R) : Option R :=
  match opv s x, opv s ix, c.tab t with
      | .sl id off len, .int _ i, some { td := .sl e, .. } => (match c.tab e, s.mem id with
        | some te, some row => if row.body.sz = te.size ∧ 0 < te.size then cond (decide (0 ≤ i)) (cond (decide (i < len)) (K (.ptr id (off + i.toNat) 0) s.mem s.nx) none) none else none
        | _, _ => none)
      | .ptr id j f, .int _ i, some { td := .arr n e, .. } => (match c.tab e, s.mem id with
        | some te, some row => if 2 ≤ n ∧ 0 < te.size ∧ f + n * te.size ≤ row.body.sz then selIdx i (fun q => K (.ptr id j (f + q * te.size)) s.mem s.nx) 0 n else none
        | _, _ => none)
      | _, _, _ => none

def aIndex (c : Ctx) (s : St) (t : TypeId) (x ix : Operand) (K : V → Mem → Nat → Option R) : Option R :=
  match opv s x, opv s ix, c.tab t with
      | .str b, .int _ i, some { td := .str, .. } => cond (decide (0 ≤ i)) (cond (decide (i < b.size)) (K (.int .u8 ((b.data.getD i.toNat 0).toNat : Int)) s.mem s.nx) none) none
      | .agg cs, .int _ i, some { td := .arr n e, .. } => (match c.tab e with
        | some te => selIdx i (fun q => (match partV c.tab e cs (q * te.size) with
          | some v => K v s.mem s.nx
          | none => none)) 0 n
        | none => none)
      | _, _, _ => none

def aSlice (c : Ctx) (s : St) (t : TypeId) (x : Operand) (lo hi mx : Option Operand) (K : V → Mem → Nat → Option R) : Option R :=
  match opv s x, c.tab t with
    | .sl id off len, some { td := .sl e, .. } => (match c.tab e, s.mem id with
      | some te, some row => if row.body.sz = te.size then
        (match optI s lo, optI s hi, optI s mx with
        | some none, some none, some none => K (.sl id off len) s.mem s.nx
        | some (some l), some none, some none => cond (decide (0 ≤ l)) (cond (decide (l ≤ len)) (K (.sl id (off + l.toNat) (len - l.toNat)) s.mem s.nx) none) none
        | some none, some (some h), some none => cond (decide (0 ≤ h)) (cond (decide (h ≤ len)) (K (.sl id off h.toNat) s.mem s.nx) none) none
        | some (some l), some (some h), some none => cond (decide (0 ≤ l)) (cond (decide (l ≤ h)) (cond (decide (h ≤ len)) (K (.sl id (off + l.toNat) (h.toNat - l.toNat)) s.mem s.nx) none) none) none
        | some none, some (some h), some (some m) => cond (decide (0 ≤ h)) (cond (decide (h ≤ m)) (cond (decide (m ≤ len)) (K (.sl id off h.toNat) s.mem s.nx) none) none) none
        | _, _, _ => none) else none
      | _, _ => none)
    | .str b, some { td := .str, .. } =>
      (match optI s lo, optI s hi, optI s mx with
      | some (some l), some (some h), some none => cond (decide (0 ≤ l)) (cond (decide (l ≤ h)) (cond (decide (h ≤ b.size)) (K (.str (b.extract l.toNat h.toNat)) s.mem s.nx) none) none) none
      | _, _, _ => none)
    | _, _ => none

def aBuild (c : Ctx) (s : St) (t : TypeId) (ps : Array (Nat × Operand)) (K : V → Mem → Nat → Option R) : Option R :=
  match c.tab t with
    | some { td := .st fs, zero := z, .. } =>
      (match buildV (fun i => match fs[i]? with | some (off, e) => (match c.tab e with | some te => some (off, te.size) | none => none) | none => none) z (ps.toList.map fun p => (p.1, opv s p.2)) with
      | some cs => K (.agg cs) s.mem s.nx
      | none => none)
    | some { td := .arr len e, zero := z, .. } =>
      (match c.tab e with
      | some te => (match buildV (fun i => some (i * te.size, te.size)) z (ps.toList.map fun p => (p.1, opv s p.2)) with
        | some cs => K (.agg cs) s.mem s.nx
        | none => none)
      | none => none)
    | _ => none

def aBuildSlice (c : Ctx) (s : St) (t : TypeId) (len : Nat) (ps : Array (Nat × Operand)) (K : V → Mem → Nat → Option R) : Option R :=
  match c.tab t with
    | some { td := .sl e, .. } => (match c.tab e with
      | some te =>
        (match buildV (fun i => some (i * te.size, te.size)) ((List.replicate len te.zero).flatten) (ps.toList.map fun p => (p.1, opv s p.2)) with
        | some cs => (match mkBody te.fds len cs with
          | some b => if 0 < te.size ∧ b.n = len ∧ b.sz = te.size ∧ len * te.size ≤ 1024 then K (.sl s.nx 0 len) (upd s.mem s.nx (some ⟨true, e, b⟩)) (s.nx + 1) else none
          | none => none)
        | none => none)
      | none => none)
    | _ => none

def aMakeSlice (c : Ctx) (s : St) (t : TypeId) (l cp : Operand) (K : V → Mem → Nat → Option R) : Option R :=
  match c.tab t with
    | some { td := .sl e, .. } => (match c.tab e, opv s l, opv s cp with
      | some te, .int .i64 n, .int .i64 m => cond (n == m) (cond (decide (0 ≤ n)) (cond (decide (n * te.bytes ≤ 140737488355328))
          (match zeroBody te.fds te.zero n.toNat with
          | some b => if 0 < te.size ∧ te.fds.length = te.size then K (.sl s.nx 0 n.toNat) (upd s.mem s.nx (some ⟨true, e, b⟩)) (s.nx + 1) else none
          | none => none) none) none) none
      | _, _, _ => none)
    | _ => none

def aLen (c : Ctx) (s : St) (xs : Array Operand) (ats : Array TypeId) (K : V → Mem → Nat → Option R) : Option R :=
  match xs.toList.map (opv s), ats.toList.map c.tab with
      | [.sl _ _ len], [some { td := .sl _, .. }] => K (.int .i64 len) s.mem s.nx
      | [.nils], [some { td := .sl _, .. }] => K (.int .i64 0) s.mem s.nx
      | [.str b], [some { td := .str, .. }] => K (.int .i64 b.size) s.mem s.nx
      | _, _ => none

def aMin (c : Ctx) (s : St) (xs : Array Operand) (K : V → Mem → Nat → Option R) : Option R :=
  match xs.toList.map (opv s) with
      | [.int k a, .int k' b] => K (.int k (if b < a then b else a)) s.mem s.nx
      | _ => none

def aMax (c : Ctx) (s : St) (xs : Array Operand) (K : V → Mem → Nat → Option R) : Option R :=
  match xs.toList.map (opv s) with
      | [.int k a, .int k' b] => K (.int k (if a < b then b else a)) s.mem s.nx
      | _ => none

def aApp1 (c : Ctx) (s : St) (x : V) (id2 off2 len2 : Nat) (t t' : TypeId) (K : V → Mem → Nat → Option R) : Option R :=
  match c.tab t, s.mem id2 with
  | some { td := .sl e, .. }, some row2 => (match c.tab e with
    | some te => if t = t' ∧ 0 < te.size ∧ row2.body.sz = te.size ∧ row2.body.isOne = false then
        (match x with
        | .nils => cond (len2 == 0) (K .nils s.mem s.nx) (cond (decide (len2 * te.bytes ≤ 140737488355328)) (K (.sl s.nx 0 len2) (upd s.mem s.nx (some ⟨true, e, row2.body.sub off2 len2⟩)) (s.nx + 1)) none)
        | .sl id off len => (match s.mem id with
          | some row => if row.own ∧ row.ty = e ∧ row.body.sz = te.size ∧ row.body.isOne = false then
              (match (row.body.sub off len).app (row2.body.sub off2 len2) with
              | some b => cond (decide ((len + len2) * te.bytes ≤ 140737488355328)) (K (.sl s.nx 0 (len + len2)) (upd (upd s.mem id none) s.nx (some ⟨true, e, b⟩)) (s.nx + 1)) none
              | none => none) else none
          | none => none)
        | _ => none) else none
    | none => none)
  | _, _ => none
def aApp0 (c : Ctx) (s : St) (x : V) (t t' : TypeId) (K : V → Mem → Nat → Option R) : Option R :=
  match c.tab t, x with
  | some { td := .sl e, .. }, .sl id off len => if t = t' ∧ (c.tab e).isSome then K (.sl id off len) s.mem s.nx else none
  | some { td := .sl e, .. }, .nils => if t = t' ∧ (c.tab e).isSome then K .nils s.mem s.nx else none
  | _, _ => none
def aAppend (c : Ctx) (s : St) (xs : Array Operand) (ats : Array TypeId) (K : V → Mem → Nat → Option R) : Option R :=
  match xs.toList.map (opv s), ats.toList with
  | [x, .sl id2 off2 len2], [t, t'] => aApp1 c s x id2 off2 len2 t t' K
  | [x, .nils], [t, t'] => aApp0 c s x t t' K
  | _, _ => none
/-- One operation: what it answers, and the rows behind it. -/
def aop (c : Ctx) (o : Oper) (s : St) (K : V → Mem → Nat → Option R) : Option R :=
  match o.op with
  | .move x => K (opv s x) s.mem s.nx
  | .assign x => K (opv s x) s.mem s.nx
  | .pick b x y => aPick c s b x y K
  | .alloc t => aAlloc c s t K
  | .box t x => aBox c s t x K
  | .build t ps => aBuild c s t ps K
  | .buildSlice t len ps => aBuildSlice c s t len ps K
  | .load t x => aLoad c s t x K
  | .store t x y => aStore c s t x y K
  | .nilCheck x => aNilCheck c s x K
  | .binOp op t x y _ => binC c.tab t op (opv s x) (opv s y) fun v => K v s.mem s.nx
  | .unOp op _ x => aUnOp c s op x K
  | .convert src dst x => aConvert c s src dst x K
  | .makeSlice t l cp => aMakeSlice c s t l cp K
  | .slice t x lo hi mx => aSlice c s t x lo hi mx K
  | .fieldAddr t x k => aFieldAddr c s t x k K
  | .field t x k => aField c s t x k K
  | .indexAddr t x ix => aIndexAddr c s t x ix K
  | .index t x ix => aIndex c s t x ix K
  | .extract x k => aExtract c s x k K
  | .call { callee := .value (.func g), args := xs, .. } => c.call g (xs.toList.map (opv s)) s.mem s.nx R K
  | .call { callee := .builtin .len, args := xs, argTypes := ats } => aLen c s xs ats K
  | .call { callee := .builtin .min, args := xs, .. } => aMin c s xs K
  | .call { callee := .builtin .max, args := xs, .. } => aMax c s xs K
  | .call { callee := .builtin .append, args := xs, argTypes := ats } => aAppend c s xs ats K
  | _ => none

/-! ### code -/
/-- A slot within the frame. -/
def dstOk (n : Nat) : Option Tmp → Bool
  | some d => decide (d < n)
  | none => true
/-- A slot whose answer is known. -/
def St.know (s : St) (t : Tmp) (b : Bool) : St := ⟨fun u => if u = t then .bool b else s.env u, s.mem, s.nx⟩
theorem St.know_eq {s : St} {t : Tmp} {b : Bool} (h : s.env t = .bool b) : s.know t b = s := by
  obtain ⟨e, m, nx⟩ := s
  unfold St.know
  congr 1
  funext u
  by_cases hu : u = t
  · subst hu; rw [if_pos rfl]; exact h.symm
  · rw [if_neg hu]
def condW (want b : Bool) (x y : Option R) : Option R := match want with | true => cond b x y | false => cond b y x
theorem condW_some {want b : Bool} {x y : Option R} {r : R} (h : condW want b x y = some r) : (b = want ∧ x = some r) ∨ (b = (!want) ∧ y = some r) := by
  cases want <;> cases b <;> simp_all [condW]
/-- The operations of a region, in the text's order. -/
def runOps (c : Ctx) (all : List Oper) : List Oper → St → (St → Option R) → Option R
  | [], s, K => K s
  | o :: os, s, K =>
    if dstOk c.slots o.dst then
      match o.guard with
      | none => aop c o s fun v m nx => runOps c all os (St.put ⟨s.env, m, nx⟩ o.dst v) K
      | some (g, want) => match (all[g]?).bind (·.dst) with
        | none => none
        | some t => if t < c.slots then
          (match s.env t with
          | .bool b => condW want b (aop c o (s.know t want) fun v m nx => runOps c all os (St.put ⟨(s.know t want).env, m, nx⟩ o.dst v) K) (runOps c all os ((s.know t (!want)).put o.dst (.tup [])) K)
          | .tup [] => runOps c all os (s.put o.dst (.tup [])) K
          | _ => none) else none
    else none

end
end Go.Vm
set_option linter.unusedVariables false
set_option linter.unusedSimpArgs false
namespace Go.Vm
open Go Go.RowKit

/-! ### worlds that grow -/
structure Grow (S : Nat → Prop) (W W' : World) : Prop where
  os : W'.os = W.os
  tape : W'.tape = W.tape
  output : W'.output = W.output
  size : W.heap.size ≤ W'.heap.size
  block : ∀ b, b < W.heap.size → ¬ S b → W'.heap[b]? = W.heap[b]?
theorem Grow.refl (S : Nat → Prop) (W : World) : Grow S W W := ⟨rfl, rfl, rfl, Nat.le_refl _, fun _ _ _ => rfl⟩
theorem Grow.trans {S T : Nat → Prop} {W0 W1 W2 : World} (h : Grow S W0 W1) (k : Grow T W1 W2) (hT : ∀ b, b < W0.heap.size → T b → S b) : Grow S W0 W2 :=
  ⟨k.os.trans h.os, k.tape.trans h.tape, k.output.trans h.output, Nat.le_trans h.size k.size, fun b hb hS => (k.block b (Nat.lt_of_lt_of_le hb h.size) (fun ht => hS (hT b hb ht))).trans (h.block b hb hS)⟩
theorem Grow.below {W W' : World} (h : Grow (fun _ => False) W W') : Below W.heap.size W W' := ⟨h.os, h.tape, h.output, h.size, fun b hb => h.block b hb (fun x => x)⟩
theorem Grow.of_below {W W' : World} (h : Below W.heap.size W W') : Grow (fun _ => False) W W' := ⟨h.os, h.tape, h.output, h.size, fun b hb _ => h.block b hb⟩
theorem Grow.cell {S : Nat → Prop} {W W' : World} (h : Grow S W W') {a : Addr} (hb : a.block < W.heap.size) (hS : ¬ S a.block) : W'.cell? a = W.cell? a := by
  simp [World.cell?, h.block _ hb hS]
theorem Grow.alloc (S : Nat → Prop) (W : World) (o : Obj) : Grow S W (W.alloc o) :=
  ⟨rfl, rfl, rfl, by simp, fun b hb _ => Below.heap_alloc W o b hb⟩
theorem Grow.drew (S : Nat → Prop) (W : World) : Grow S W W.drew := ⟨rfl, rfl, rfl, Nat.le_refl _, fun _ _ _ => rfl⟩

/-! ### rows in memory -/
structure MR (ρ : Ren) (X : Nat → Prop) (B : Nat) (m : Mem) (W : World) : Prop where
  dim : ∀ id r p, m id = some r → ρ id = some p → p.n = r.body.n ∧ p.sz = r.body.sz ∧ p.blk < W.heap.size
  cell : ∀ id r p, m id = some r → ρ id = some p → ∀ i f, i < p.n → f < p.sz → leaf (r.body.cell i f) = true ∧ ∃ v, W.cell? ⟨p.blk, p.base + (i * p.sz + f), none⟩ = some v ∧ VR ρ (r.body.cell i f) v
  own : ∀ id r p, m id = some r → ρ id = some p → r.own = true → (B ≤ p.blk ∨ X p.blk) ∧ p.n ≤ p.room ∧ ∃ arr, W.heap[p.blk]? = some (.cells arr r.ty (0, 0)) ∧ p.base + p.room * p.sz ≤ arr.size
  apart : ∀ id id' r r' p p', id ≠ id' → m id = some r → m id' = some r' → ρ id = some p → ρ id' = some p' → r.own = true → p.blk ≠ p'.blk

theorem MR.grow {ρ : Ren} {X S : Nat → Prop} {B : Nat} {m : Mem} {W W' : World} (h : MR ρ X B m W) (hg : Grow S W W')
    (hS : ∀ id r p, m id = some r → ρ id = some p → ¬ S p.blk) : MR ρ X B m W' where
  dim id r p hm hp := ⟨(h.dim id r p hm hp).1, (h.dim id r p hm hp).2.1, Nat.lt_of_lt_of_le (h.dim id r p hm hp).2.2 hg.size⟩
  cell id r p hm hp i f hi hf := by
    obtain ⟨hl, v, hv, hr⟩ := h.cell id r p hm hp i f hi hf
    exact ⟨hl, v, (hg.cell (a := ⟨p.blk, p.base + (i * p.sz + f), none⟩) (h.dim id r p hm hp).2.2 (hS id r p hm hp)).trans hv, hr⟩
  own id r p hm hp ho := by
    obtain ⟨hb, hn, arr, ha, hs⟩ := h.own id r p hm hp ho
    exact ⟨hb, hn, arr, (hg.block _ (h.dim id r p hm hp).2.2 (hS id r p hm hp)).trans ha, hs⟩
  apart := h.apart
theorem MR.del {ρ : Ren} {X : Nat → Prop} {B : Nat} {m : Mem} {W : World} (h : MR ρ X B m W) (d : Nat) : MR ρ X B (upd m d none) W := by
  have e : ∀ id r, upd m d none id = some r → m id = some r := fun id r hm => by unfold upd at hm; split at hm; cases hm; exact hm
  exact ⟨fun id r p hm => h.dim id r p (e _ _ hm), fun id r p hm => h.cell id r p (e _ _ hm), fun id r p hm => h.own id r p (e _ _ hm), fun id id' r r' p p' hne hm hm' => h.apart id id' r r' p p' hne (e _ _ hm) (e _ _ hm')⟩
def updR (ρ : Ren) (id : Nat) (p : Pl) : Ren := fun t => if t = id then some p else ρ t
theorem updR_ext {ρ : Ren} {id : Nat} {p : Pl} (h : ρ id = none) : Ext ρ (updR ρ id p) := fun t q e => by
  unfold updR; split
  · rename_i ht; subst ht; rw [h] at e; cases e
  · exact e
/-- Further, and what was below 'n' as it was. -/
def ExtS (n : Nat) (ρ ρ' : Ren) : Prop := Ext ρ ρ' ∧ ∀ id, id < n → ρ' id = ρ id
theorem ExtS.refl (n : Nat) (ρ : Ren) : ExtS n ρ ρ := ⟨Ext.refl ρ, fun _ _ => rfl⟩
theorem updR_extS {ρ : Ren} {id : Nat} {p : Pl} (h : ρ id = none) : ExtS id ρ (updR ρ id p) := ⟨updR_ext h, fun t ht => by unfold updR; rw [if_neg (by omega)]⟩
theorem MR.add {ρ : Ren} {X : Nat → Prop} {B : Nat} {m : Mem} {W : World} (h : MR ρ X B m W) {d : Nat} {p : Pl} {r : Row} (hd : ρ d = none)
    (hdim : p.n = r.body.n ∧ p.sz = r.body.sz ∧ p.blk < W.heap.size)
    (hcell : ∀ i f, i < p.n → f < p.sz → leaf (r.body.cell i f) = true ∧ ∃ v, W.cell? ⟨p.blk, p.base + (i * p.sz + f), none⟩ = some v ∧ VR ρ (r.body.cell i f) v)
    (hown : r.own = true → (B ≤ p.blk ∨ X p.blk) ∧ p.n ≤ p.room ∧ ∃ arr, W.heap[p.blk]? = some (.cells arr r.ty (0, 0)) ∧ p.base + p.room * p.sz ≤ arr.size)
    (hap : ∀ id' r' p', m id' = some r' → ρ id' = some p' → p.blk ≠ p'.blk) : MR (updR ρ d p) X B (upd m d (some r)) W := by
  have hx := updR_ext (p := p) hd
  have key : ∀ id r1 p1, upd m d (some r) id = some r1 → updR ρ d p id = some p1 → (id = d ∧ r1 = r ∧ p1 = p) ∨ (id ≠ d ∧ m id = some r1 ∧ ρ id = some p1) := by
    intro id r1 p1 h1 h2
    unfold upd at h1; unfold updR at h2
    by_cases e : id = d
    · rw [if_pos e] at h1 h2; exact .inl ⟨e, (Option.some.inj h1).symm, (Option.some.inj h2).symm⟩
    · rw [if_neg e] at h1 h2; exact .inr ⟨e, h1, h2⟩
  refine ⟨?_, ?_, ?_, ?_⟩
  · intro id r1 p1 h1 h2
    rcases key id r1 p1 h1 h2 with ⟨rfl, rfl, rfl⟩ | ⟨_, h1, h2⟩
    · exact hdim
    · exact h.dim id r1 p1 h1 h2
  · intro id r1 p1 h1 h2 i f hi hf
    rcases key id r1 p1 h1 h2 with ⟨rfl, rfl, rfl⟩ | ⟨_, h1, h2⟩
    · obtain ⟨hl, v, hv, hr⟩ := hcell i f hi hf; exact ⟨hl, v, hv, hr.ext hx⟩
    · obtain ⟨hl, v, hv, hr⟩ := h.cell id r1 p1 h1 h2 i f hi hf; exact ⟨hl, v, hv, hr.ext hx⟩
  · intro id r1 p1 h1 h2 ho
    rcases key id r1 p1 h1 h2 with ⟨rfl, rfl, rfl⟩ | ⟨_, h1, h2⟩
    · exact hown ho
    · exact h.own id r1 p1 h1 h2 ho
  · intro id id' r1 r2 p1 p2 hne h1 h1' h2 h2' ho
    rcases key id r1 p1 h1 h2 with ⟨e1, e2, e3⟩ | ⟨hn, k1, k2⟩
    · rcases key id' r2 p2 h1' h2' with ⟨f1, _, _⟩ | ⟨hn', k1', k2'⟩
      · exact absurd (e1.trans f1.symm) hne
      · rw [e3]; exact hap _ _ _ k1' k2'
    · rcases key id' r2 p2 h1' h2' with ⟨f1, f2, f3⟩ | ⟨hn', k1', k2'⟩
      · rw [f3]; exact fun e => hap _ _ _ k1 k2 e.symm
      · exact h.apart id id' r1 r2 p1 p2 hne k1 k1' k2 k2' ho
/-- A row of the call's own in a new block. -/
theorem MR.new {ρ : Ren} {X : Nat → Prop} {B : Nat} {m : Mem} {W : World} (h : MR ρ X B m W) (hB : B ≤ W.heap.size) {d : Nat} (hd : ρ d = none) {b : Body} {ty : TypeId} {cs : Array Value} {room : Nat}
    (hroom : b.n ≤ room) (hs : room * b.sz ≤ cs.size)
    (hc : ∀ i f, i < b.n → f < b.sz → leaf (b.cell i f) = true ∧ ∃ v, cs[i * b.sz + f]? = some v ∧ VR ρ (b.cell i f) v) :
    MR (updR ρ d ⟨W.heap.size, 0, b.sz, b.n, room⟩) X B (upd m d (some ⟨true, ty, b⟩)) (W.alloc (.cells cs ty)) := by
  have h1 : MR ρ X B m (W.alloc (.cells cs ty)) := h.grow (Grow.alloc (fun _ => False) W _) (fun _ _ _ _ _ x => x)
  refine h1.add hd ⟨rfl, rfl, by simp⟩ ?_ ?_ ?_
  · intro i f hi hf
    obtain ⟨hl, v, hv, hr⟩ := hc i f hi hf
    refine ⟨hl, v, ?_, hr⟩
    rw [cell_of_row _ _ _ cs ty (0, 0) (heap_alloc_new W _)]
    simpa using hv
  · intro _
    exact ⟨.inl hB, hroom, cs, heap_alloc_new W _, by simpa using hs⟩
  · intro id' r' p' hm hp e
    have := (h.dim id' r' p' hm hp).2.2
    simp only at e
    omega
/-- A cell of a row of the call's own written. -/
theorem MR.set {ρ : Ren} {X : Nat → Prop} {B : Nat} {m : Mem} {W : World} (h : MR ρ X B m W) {d : Nat} {p : Pl} {r : Row} (hm : m d = some r) (hp : ρ d = some p) (ho : r.own = true)
    {i f : Nat} (hi : i < p.n) (hf : f < p.sz) {x : V} {v : Value} (hx : VR ρ x v) (hl : leaf x = true) {b : Body} (hb : r.body.set i f x = some b) :
    MR ρ X B (upd m d (some { r with body := b })) (W.setCell ⟨p.blk, p.base + (i * p.sz + f), none⟩ v) := by
  obtain ⟨hn, hz, hlt⟩ := h.dim d r p hm hp
  obtain ⟨hB, hrm, arr, ha, has⟩ := h.own d r p hm hp ho
  have hbn := Body.set_n hb
  have heap1 : (W.setCell ⟨p.blk, p.base + (i * p.sz + f), none⟩ v).heap[p.blk]? = some (.cells (arr.setIfInBounds (p.base + (i * p.sz + f)) v) r.ty (0, 0)) := by
    simp only [World.setCell, Array.getElem?_modify, ha, Option.map_some, if_true]; rfl
  have heap2 : ∀ k, k ≠ p.blk → (W.setCell ⟨p.blk, p.base + (i * p.sz + f), none⟩ v).heap[k]? = W.heap[k]? := fun k hk => heap_setCell_other W _ k v hk
  have hsz : (W.setCell ⟨p.blk, p.base + (i * p.sz + f), none⟩ v).heap.size = W.heap.size := by simp [World.setCell]
  have key : ∀ id r1 p1, upd m d (some { r with body := b }) id = some r1 → ρ id = some p1 → (id = d ∧ r1 = { r with body := b } ∧ p1 = p) ∨ (id ≠ d ∧ m id = some r1) := by
    intro id r1 p1 h1 h2
    unfold upd at h1
    by_cases e : id = d
    · subst e; rw [if_pos rfl] at h1; rw [hp] at h2; exact .inl ⟨rfl, (Option.some.inj h1).symm, (Option.some.inj h2).symm⟩
    · rw [if_neg e] at h1; exact .inr ⟨e, h1⟩
  have hin : i * p.sz + f < p.room * p.sz := by
    have : (i + 1) * p.sz ≤ p.room * p.sz := Nat.mul_le_mul_right _ (by omega)
    rw [Nat.add_mul, Nat.one_mul] at this; omega
  refine ⟨?_, ?_, ?_, ?_⟩
  · intro id r1 p1 h1 h2
    rcases key id r1 p1 h1 h2 with ⟨rfl, rfl, rfl⟩ | ⟨_, h1⟩
    · exact ⟨hn.trans hbn.1.symm, hz.trans hbn.2.symm, by omega⟩
    · have := h.dim id r1 p1 h1 h2; exact ⟨this.1, this.2.1, by omega⟩
  · intro id r1 p1 h1 h2 j g hj hg
    rcases key id r1 p1 h1 h2 with ⟨rfl, rfl, rfl⟩ | ⟨hne, h1⟩
    · have hc := Body.set_cell hb (by omega) (by omega) j g (by omega) (by omega)
      rw [cell_of_row _ _ _ _ _ _ heap1]
      show leaf (b.cell j g) = true ∧ _
      rw [show ({ r with body := b } : Row).body.cell j g = b.cell j g from rfl, hc]
      by_cases e : j = i ∧ g = f
      · obtain ⟨rfl, rfl⟩ := e
        rw [if_pos ⟨rfl, rfl⟩]
        refine ⟨hl, v, ?_, hx⟩
        rw [Array.getElem?_setIfInBounds, if_pos rfl, if_pos (by omega)]
      · rw [if_neg e]
        obtain ⟨hl', v', hv', hr'⟩ := h.cell id r p1 hm hp j g hj hg
        refine ⟨hl', v', ?_, hr'⟩
        rw [cell_of_row _ _ _ _ _ _ ha] at hv'
        rw [Array.getElem?_setIfInBounds, if_neg, hv']
        intro e2
        apply e
        have e3 : i * p1.sz + f = j * p1.sz + g := by omega
        have e4 : i = j := by
          rcases Nat.lt_trichotomy i j with hlt | heq | hlt
          · have : (i + 1) * p1.sz ≤ j * p1.sz := Nat.mul_le_mul_right _ hlt
            rw [Nat.add_mul, Nat.one_mul] at this; omega
          · exact heq
          · have : (j + 1) * p1.sz ≤ i * p1.sz := Nat.mul_le_mul_right _ hlt
            rw [Nat.add_mul, Nat.one_mul] at this; omega
        subst e4
        exact ⟨rfl, by omega⟩
    · obtain ⟨hl', v', hv', hr'⟩ := h.cell id r1 p1 h1 h2 j g hj hg
      refine ⟨hl', v', ?_, hr'⟩
      have hb2 : p1.blk ≠ p.blk := fun e => h.apart d id r r1 p p1 (Ne.symm hne) hm h1 hp h2 ho e.symm
      rw [← hv']; unfold World.cell?; simp only [heap2 _ hb2]
  · intro id r1 p1 h1 h2 ho1
    rcases key id r1 p1 h1 h2 with ⟨rfl, rfl, rfl⟩ | ⟨hne, h1⟩
    · exact ⟨hB, hrm, _, heap1, by simpa using has⟩
    · obtain ⟨hB', hrm', arr', ha', hs'⟩ := h.own id r1 p1 h1 h2 ho1
      have hb2 : p1.blk ≠ p.blk := fun e => h.apart d id r r1 p p1 (Ne.symm hne) hm h1 hp h2 ho e.symm
      exact ⟨hB', hrm', arr', (heap2 _ hb2).trans ha', hs'⟩
  · intro id id' r1 r2 p1 p2 hne h1 h1' h2 h2' ho1
    rcases key id r1 p1 h1 h2 with ⟨e1, e2, e3⟩ | ⟨hn1, k1⟩
    · rcases key id' r2 p2 h1' h2' with ⟨f1, _, _⟩ | ⟨hn2, k1'⟩
      · exact absurd (e1.trans f1.symm) hne
      · subst e1; rw [e3]; exact h.apart _ id' r r2 p p2 hne hm k1' hp h2' ho
    · rcases key id' r2 p2 h1' h2' with ⟨f1, f2, f3⟩ | ⟨hn2, k1'⟩
      · subst f1; rw [f3]; exact h.apart id _ r1 r p1 p hne k1 hm h2 hp ho1
      · exact h.apart id id' r1 r2 p1 p2 hne k1 k1' h2 h2' ho1
section
variable {ρ : Ren} {X : Nat → Prop} {W : World}
theorem MR.ghost {B : Nat} {m : Mem} (h : MR ρ X B m W) {d : Nat} (hd : ρ d = none) (r : Option Row) : MR ρ X B (upd m d r) W := by
  have key : ∀ id p, ρ id = some p → upd m d r id = m id := by
    intro id p hp
    unfold upd
    by_cases e : id = d
    · subst e; rw [hd] at hp; cases hp
    · rw [if_neg e]
  exact ⟨fun id r p hm hp => h.dim id r p (by rw [← key id p hp]; exact hm) hp, fun id r p hm hp => h.cell id r p (by rw [← key id p hp]; exact hm) hp, fun id r p hm hp => h.own id r p (by rw [← key id p hp]; exact hm) hp,
    fun id id' r r' p p' hne hm hm' hp hp' => h.apart id id' r r' p p' hne (by rw [← key id p hp]; exact hm) (by rw [← key id' p' hp']; exact hm') hp hp'⟩
theorem MR.same {B : Nat} {m : Mem} (h : MR ρ X B m W) {d : Nat} {r : Row} (hm : m d = some r) {b : Body} (hn : b.n = r.body.n ∧ b.sz = r.body.sz)
    (hc : ∀ i f v, i < b.n → f < b.sz → leaf (r.body.cell i f) = true → VR ρ (r.body.cell i f) v → VR ρ (b.cell i f) v ∧ leaf (b.cell i f) = true) : MR ρ X B (upd m d (some { r with body := b })) W := by
  have key : ∀ id r1, upd m d (some { r with body := b }) id = some r1 → (id = d ∧ r1 = { r with body := b }) ∨ (id ≠ d ∧ m id = some r1) := by
    intro id r1 h1
    unfold upd at h1
    by_cases e : id = d
    · subst e; rw [if_pos rfl] at h1; exact .inl ⟨rfl, (Option.some.inj h1).symm⟩
    · rw [if_neg e] at h1; exact .inr ⟨e, h1⟩
  refine ⟨?_, ?_, ?_, ?_⟩
  · intro id r1 p h1 hp
    rcases key id r1 h1 with ⟨rfl, rfl⟩ | ⟨_, h1⟩
    · have := h.dim id r p hm hp
      exact ⟨this.1.trans hn.1.symm, this.2.1.trans hn.2.symm, this.2.2⟩
    · exact h.dim id r1 p h1 hp
  · intro id r1 p h1 hp i f hi hf
    rcases key id r1 h1 with ⟨rfl, rfl⟩ | ⟨_, h1⟩
    · have := h.dim id r p hm hp
      obtain ⟨hl, v, hv, hvr⟩ := h.cell id r p hm hp i f hi hf
      obtain ⟨c1, c2⟩ := hc i f v (by omega) (by omega) hl hvr
      exact ⟨c2, v, hv, c1⟩
    · exact h.cell id r1 p h1 hp i f hi hf
  · intro id r1 p h1 hp ho
    rcases key id r1 h1 with ⟨rfl, rfl⟩ | ⟨_, h1⟩
    · exact h.own id r p hm hp ho
    · exact h.own id r1 p h1 hp ho
  · intro id id' r1 r2 p p' hne h1 h2 hp hp' ho
    have low : ∀ id r1, upd m d (some { r with body := b }) id = some r1 → ∃ r0, m id = some r0 ∧ r0.own = r1.own := by
      intro id r1 h1
      rcases key id r1 h1 with ⟨rfl, rfl⟩ | ⟨_, h1⟩
      · exact ⟨r, hm, rfl⟩
      · exact ⟨r1, h1, rfl⟩
    obtain ⟨r10, e1, o1⟩ := low id r1 h1
    obtain ⟨r20, e2, o2⟩ := low id' r2 h2
    exact h.apart id id' r10 r20 p p' hne e1 e2 hp hp' (by rw [o1]; exact ho)
end
end Go.Vm
set_option linter.unusedVariables false
set_option linter.unusedSimpArgs false
namespace Go.Vm
open Go Go.RowKit

/-- What the machine is told of the program's types. -/
structure TOK (P : Program) (tab : Tab) : Prop where
  pos : ∀ t ti, tab t = some ti → 0 < ti.bytes
  info : ∀ t ti, tab t = some ti → ∃ i z, P.info? t = some i ∧ i.size = ti.size ∧ i.bytes = ti.bytes ∧ i.zero = some z ∧ z.cells.size = ti.size ∧ ti.zero.length = ti.size ∧
    (∀ (j : Nat) (c : V) (v : Value), ti.zero[j]? = some c → z.cells[j]? = some v → VR (fun _ => none) c v) ∧ ∀ c ∈ ti.zero, leaf c = true
  td : ∀ t ti, tab t = some ti → match ti.td with
    | .int k => P.underlying t = some (.int k) ∧ ti.agg = false
    | .bool => P.underlying t = some .bool ∧ ti.agg = false
    | .str => P.underlying t = some .string ∧ ti.agg = false
    | .ptr e => P.underlying t = some (.pointer e) ∧ ti.agg = false
    | .sl e => P.underlying t = some (.slice e) ∧ ti.agg = false
    | .arr n e => P.underlying t = some (.array n e) ∧ ti.agg = true
    | .st fs => ti.agg = true ∧ ∃ fields, P.underlying t = some (.struct fields) ∧ fields.size = fs.length ∧ (∀ f ∈ fields.toList, (P.info? f.type).isSome = true) ∧ ∀ (k off : Nat) (e : TypeId), fs[k]? = some (off, e) → ∃ fl, fields[k]? = some fl ∧ fl.offset = off ∧ fl.type = e
  eq : ∀ t ti ρ xs ys xs' ys' b, tab t = some ti → ti.eq = true → eqC ti.fds xs ys = some b → VR ρ (.agg xs) xs' → VR ρ (.agg ys) ys' → ∀ (w : World) (x y : Operand),
    (eqGuard .eql t x y xs' ys').run P w = .ok () w ∧ (eqGuard .neq t x y xs' ys').run P w = .ok () w ∧ (binOp .eql t xs' ys').run P w = .ok (.bool b) w ∧ (binOp .neq t xs' ys').run P w = .ok (.bool (!b)) w

structure Rel (ρ : Ren) (X : Nat → Prop) (W0 : World) (N : Nat) (s : St) (a : Act) (W : World) : Prop where
  env : ∀ t, VR ρ (s.env t) (a.tmps.getD t undef)
  size : a.tmps.size = N
  defers : a.defers = []
  mem : MR ρ X W0.heap.size s.mem W
  nx : ∀ id, s.nx ≤ id → ρ id = none
  fr : Grow X W0 W

theorem ofConst_ok (ρ : Ren) (v : Value) : VR ρ (ofConst v) v := by
  unfold ofConst
  split <;> first | exact .int _ _ | exact .bool _ | exact .str _ | exact .nils | exact .nilp | exact .un _ | exact .tup rfl (fun i c v h => by simp at h)
theorem Rel.op {ρ : Ren} {X : Nat → Prop} {W0 : World} {N : Nat} {s : St} {a : Act} {W : World} (h : Rel ρ X W0 N s a W) (x : Operand) : VR ρ (opv s x) (a.eval x) := by
  cases x with
  | tmp t => exact h.env t
  | const v => exact ofConst_ok ρ v
  | global g => exact .un _
  | func f => exact .un _
/-- A slot written. -/
theorem Rel.put {ρ : Ren} {X : Nat → Prop} {W0 : World} {N : Nat} {s : St} {a : Act} {W : World} (h : Rel ρ X W0 N s a W) (d : Option Tmp) (hd : ∀ t, d = some t → t < N) {v : V} {v' : Value} (hv : VR ρ v v') :
    Rel ρ X W0 N (s.put d v) (a.put d v') W := by
  cases d with
  | none => exact h
  | some t =>
    refine ⟨?_, ?_, h.defers, h.mem, h.nx, h.fr⟩
    · intro u
      have ht := hd t rfl
      have hs := h.size
      show VR ρ (if u = t then v else s.env u) ((a.tmps.setIfInBounds t v').getD u undef)
      by_cases e : u = t
      · subst e
        rw [if_pos rfl]
        have : (a.tmps.setIfInBounds u v').getD u undef = v' := by simp [Array.getD, hs, ht]
        rw [this]; exact hv
      · rw [if_neg e]
        have : (a.tmps.setIfInBounds t v').getD u undef = a.tmps.getD u undef := by
          simp only [Array.getD_eq_getD_getElem?, Array.getElem?_setIfInBounds, if_neg (Ne.symm e)]
        rw [this]; exact h.env u
    · simp [Act.put, h.size]
/-- Other rows, another world. -/
theorem Rel.step {ρ ρ' : Ren} {X : Nat → Prop} {W0 : World} {N : Nat} {s : St} {a : Act} {W W' : World} (h : Rel ρ X W0 N s a W) (he : ExtS s.nx ρ ρ') {m : Mem} {nx : Nat} (hm : MR ρ' X W0.heap.size m W')
    (hn : ∀ id, nx ≤ id → ρ' id = none) (hf : Grow X W0 W') : Rel ρ' X W0 N ⟨s.env, m, nx⟩ a W' :=
  ⟨fun t => (h.env t).ext he.1, h.size, h.defers, hm, hn, hf⟩

section
variable {P : Program} {o : Oper} {a : Act} {W W' : World} {next : Act → World → Prop} {Q : Exit → Act → World → Prop}
theorem wp_val {v : Value} (hrun : (execOp a.eval o).run P W = .ok (.value v) W') (h : next (a.put o.dst v) W') : o.wp P a W next Q := by
  unfold Oper.wp; rw [hrun]; exact h
theorem wp_skp (hrun : (execOp a.eval o).run P W = .ok .skip W') (h : next (a.put o.dst undef) W') : o.wp P a W next Q := by
  unfold Oper.wp; rw [hrun]; exact h
theorem wp_v {s : Sem Value} {v : Value} (he : execOp a.eval o = (do pure (Next.value (← s)))) (hrun : s.run P W = .ok v W') (h : next (a.put o.dst v) W') : o.wp P a W next Q := by
  refine wp_val ?_ h
  rw [he]; simp [hrun]
theorem wp_u {s : Sem Unit} (he : execOp a.eval o = (do s; pure Next.skip)) (hrun : s.run P W = .ok () W') (h : next (a.put o.dst undef) W') : o.wp P a W next Q := by
  refine wp_skp ?_ h
  rw [he]; simp [hrun]
end
section
variable {P : Program} {tab : Tab} (T : TOK P tab)
include T
theorem run_zero {t : TypeId} {ti : TInfo} (ht : tab t = some ti) (W : World) : ∃ z, (zeroValue t).run P W = .ok z W ∧ z.cells.size = ti.size ∧ ∀ (j : Nat) (c : V) (v : Value), ti.zero[j]? = some c → z.cells[j]? = some v → VR (fun _ => none) c v := by
  obtain ⟨i, z, hi, hs, hb, hz, hzs, _, hv, _⟩ := T.info t ti ht
  exact ⟨z, by simp [zeroValue, typeInfo, hi, hz], hzs, hv⟩
theorem run_size {t : TypeId} {ti : TInfo} (ht : tab t = some ti) (W : World) : (sizeOf t).run P W = .ok ti.size W := by
  obtain ⟨i, z, hi, hs, _⟩ := T.info t ti ht
  simp [sizeOf, typeInfo, hi, hs]
theorem run_agg {t : TypeId} {ti : TInfo} (ht : tab t = some ti) (W : World) : (isAgg t).run P W = .ok ti.agg W := by
  have h := T.td t ti ht
  unfold isAgg
  cases hd : ti.td with
  | st fs =>
    rw [hd] at h; obtain ⟨ha, fields, hu, _⟩ := h
    simp [run_underlying hu, ha]
  | _ => rw [hd] at h; simp [run_underlying h.1, h.2]
end
theorem Ext.none (ρ : Ren) : Ext (fun _ => none) ρ := fun _ _ h => by cases h
theorem nx_upd {ρ : Ren} {nx : Nat} {p : Pl} (h : ∀ id, nx ≤ id → ρ id = none) : ∀ id, nx + 1 ≤ id → updR ρ nx p id = none := fun id hid => by
  unfold updR; rw [if_neg (by omega)]; exact h id (by omega)
theorem alloc_fr {X : Nat → Prop} {W0 W : World} (h : Grow X W0 W) (o : Obj) : Grow X W0 (W.alloc o) := h.trans (Grow.alloc X W o) (fun _ _ x => x)

section
variable {P : Program} {R : Type} {c : Ctx} {o : Oper} {ρ : Ren} {X : Nat → Prop} {W0 : World} {N : Nat} {s : St} {a : Act} {W : World} {K : V → Mem → Nat → Option R} {r : R}
  {next : Act → World → Prop} {Q : Exit → Act → World → Prop}
/-- What follows an operation. -/
def Goes (o : Oper) (ρ : Ren) (X : Nat → Prop) (W0 : World) (N : Nat) (s : St) (a : Act) (K : V → Mem → Nat → Option R) (r : R) (next : Act → World → Prop) : Prop :=
  ∀ ρ' v v' m nx W', ExtS s.nx ρ ρ' → VR ρ' v v' → Rel ρ' X W0 N ⟨s.env, m, nx⟩ a W' → K v m nx = some r → next (a.put o.dst v') W'
theorem Rel.same (h : Rel ρ X W0 N s a W) : Rel ρ X W0 N ⟨s.env, s.mem, s.nx⟩ a W := h

theorem op_move {x : Operand} (ho : o.op = .move x ∨ o.op = .assign x) (hr : Rel ρ X W0 N s a W) (h : K (opv s x) s.mem s.nx = some r) (hn : Goes o ρ X W0 N s a K r next) : o.wp P a W next Q := by
  refine wp_val (v := a.eval x) (W' := W) ?_ (hn ρ _ _ _ _ W (ExtS.refl s.nx ρ) (hr.op x) hr.same h)
  rcases ho with ho | ho <;> simp [execOp, ho]
theorem no {α : Type} {r : α} {C : Prop} (h : (none : Option α) = some r) : C := by cases h
theorem op_pick {b x y : Operand} (ho : o.op = .pick b x y) (hr : Rel ρ X W0 N s a W) (h : aPick c s b x y K = some r)
    (hn : Goes o ρ X W0 N s a K r next) : o.wp P a W next Q := by
  unfold aPick at h
  have hb := hr.op b
  generalize opv s b = vb at h hb
  generalize he : a.eval b = eb at hb
  cases hb <;> try (exact no h)
  rename_i t
  refine wp_val (v := if t then a.eval x else a.eval y) (W' := W) ?_ ?_
  · simp [execOp, ho, he, asBool]
  · cases t with
    | true => exact hn ρ _ _ _ _ W (ExtS.refl s.nx ρ) (hr.op x) hr.same h
    | false => exact hn ρ _ _ _ _ W (ExtS.refl s.nx ρ) (hr.op y) hr.same h
theorem cellsV_ok {x : V} {v : Value} (h : VR ρ x v) {cs : List V} (hc : cellsV x = some cs) :
    v.cells.size = cs.length ∧ (∀ c ∈ cs, leaf c = true) ∧ ∀ (k : Nat) (y : V) (u : Value), cs[k]? = some y → v.cells[k]? = some u → VR ρ y u := by
  have one : ∀ (y : V) (u : Value), VR ρ y u → leaf y = true → u.cells = #[u] → [y] = cs → u.cells.size = cs.length ∧ (∀ c ∈ cs, leaf c = true) ∧ ∀ (k : Nat) (z : V) (q : Value), cs[k]? = some z → u.cells[k]? = some q → VR ρ z q := by
    intro y u hv hl hu e
    subst e
    rw [hu]
    refine ⟨rfl, by simpa using hl, ?_⟩
    intro k z q hz hq
    match k with
    | 0 => simp at hz hq; subst hz; subst hq; exact hv
    | k + 1 => simp at hz
  cases h with
  | agg hl hf h => simp [cellsV] at hc; subst hc; exact ⟨hl, hf, h⟩
  | un v => simp [cellsV, leaf] at hc
  | tup => simp [cellsV, leaf] at hc
  | int k n => exact one _ _ (.int k n) rfl rfl (by simpa [cellsV, leaf] using hc)
  | bool b => exact one _ _ (.bool b) rfl rfl (by simpa [cellsV, leaf] using hc)
  | str b => exact one _ _ (.str b) rfl rfl (by simpa [cellsV, leaf] using hc)
  | nils => exact one _ _ .nils rfl rfl (by simpa [cellsV, leaf] using hc)
  | nilp => exact one _ _ .nilp rfl rfl (by simpa [cellsV, leaf] using hc)
  | ptr h hi hf => exact one _ _ (.ptr h hi hf) rfl rfl (by simpa [cellsV, leaf] using hc)
  | sl h hn hl hr hm => exact one _ _ (.sl h hn hl hr hm) rfl rfl (by simpa [cellsV, leaf] using hc)
  | slz id off b => exact one _ _ (.slz id off b) rfl rfl (by simpa [cellsV, leaf] using hc)
/-- A new row of the call's own. -/
theorem new_row (hr : Rel ρ X W0 N s a W) {b : Body} {ty : TypeId} {cs : Array Value} {room : Nat} (hroom : b.n ≤ room) (hs : room * b.sz ≤ cs.size)
    (hc : ∀ i f, i < b.n → f < b.sz → leaf (b.cell i f) = true ∧ ∃ v, cs[i * b.sz + f]? = some v ∧ VR ρ (b.cell i f) v) :
    ExtS s.nx ρ (updR ρ s.nx ⟨W.heap.size, 0, b.sz, b.n, room⟩) ∧ Rel (updR ρ s.nx ⟨W.heap.size, 0, b.sz, b.n, room⟩) X W0 N ⟨s.env, upd s.mem s.nx (some ⟨true, ty, b⟩), s.nx + 1⟩ a (W.alloc (.cells cs ty)) := by
  have hnx := hr.nx s.nx (Nat.le_refl _)
  exact ⟨updR_extS hnx, hr.step (updR_extS hnx) (hr.mem.new hr.fr.size hnx hroom hs hc) (nx_upd hr.nx) (alloc_fr hr.fr _)⟩
theorem one_row (hr : Rel ρ X W0 N s a W) {ty : TypeId} {cs : List V} {vs : Array Value} (hsz : vs.size = cs.length) (h0 : 0 < cs.length) (hl : ∀ c ∈ cs, leaf c = true)
    (hc : ∀ (k : Nat) (y : V) (u : Value), cs[k]? = some y → vs[k]? = some u → VR ρ y u) :
    ∃ ρ', ExtS s.nx ρ ρ' ∧ VR ρ' (.ptr s.nx 0 0) (.pointer (some ⟨W.heap.size, 0, none⟩)) ∧ Rel ρ' X W0 N ⟨s.env, upd s.mem s.nx (some ⟨true, ty, .one cs⟩), s.nx + 1⟩ a (W.alloc (.cells vs ty)) := by
  obtain ⟨he, hrel⟩ := new_row (ty := ty) hr (b := .one cs) (cs := vs) (room := 1) (Nat.le_refl _) (by simp [Body.sz, hsz]) (by
    intro i f hi hf
    simp only [Body.n, Body.sz] at hi hf
    obtain rfl : i = 0 := by omega
    have h1 : cs[f]? = some cs[f] := List.getElem?_eq_getElem hf
    have h2 : vs[f]? = some (vs[f]'(by omega)) := Array.getElem?_eq_getElem (by omega)
    have e : (Body.one cs).cell 0 f = cs[f] := by simp [Body.cell, List.getD, h1]
    rw [e]
    exact ⟨hl _ (List.getElem_mem hf), _, (by simp only [Body.sz, Nat.zero_mul, Nat.zero_add]; exact h2), hc f _ _ h1 h2⟩)
  refine ⟨_, he, ?_, hrel⟩
  have := VR.ptr (ρ := updR ρ s.nx ⟨W.heap.size, 0, cs.length, 1, 1⟩) (id := s.nx) (i := 0) (f := 0) (p := ⟨W.heap.size, 0, cs.length, 1, 1⟩) (by simp [updR]) (by simp) h0
  have e : (⟨W.heap.size, 0 + (0 * cs.length + 0), none⟩ : Addr) = ⟨W.heap.size, 0, none⟩ := by simp
  rw [← e]; exact this
theorem run_newVar (t : TypeId) (v : Value) : (newVar t v).run P W = .ok ⟨W.heap.size, 0, none⟩ (W.alloc (.cells v.cells t)) := by
  simp [newVar, newRow, run_newObj_alloc]
theorem op_alloc (T : TOK P c.tab) {t : TypeId} (ho : o.op = .alloc t) (hr : Rel ρ X W0 N s a W)
    (h : aAlloc c s t K = some r)
    (hn : Goes o ρ X W0 N s a K r next) : o.wp P a W next Q := by
  unfold aAlloc at h
  cases ht : c.tab t with
  | none => rw [ht] at h; exact no h
  | some ti =>
    rw [ht] at h
    obtain ⟨i, z, hi, hs, hb, hz, hzs, hl, hv, hlf⟩ := T.info t ti ht
    by_cases h0 : 0 < ti.size
    · simp only [h0, if_true] at h
      obtain ⟨ρ', he, hp, hrel⟩ := one_row (ty := t) hr (cs := ti.zero) (vs := z.cells) (by omega) (by omega) hlf (fun k y u hk hu => (hv k y u hk hu).ext (Ext.none ρ))
      refine wp_v (s := Instr.alloc t true (.tuple #[])) (by simp [execOp, ho]) ?_ (hn ρ' _ _ _ _ _ he hp hrel h)
      simp [Instr.alloc, zeroValue, typeInfo, hi, hz, run_newVar]
    · simp only [h0, if_false] at h; exact no h
theorem op_box (T : TOK P c.tab) {t : TypeId} {x : Operand} (ho : o.op = .box t x) (hr : Rel ρ X W0 N s a W)
    (h : aBox c s t x K = some r)
    (hn : Goes o ρ X W0 N s a K r next) : o.wp P a W next Q := by
  unfold aBox at h
  cases ht : c.tab t with
  | none => rw [ht] at h; exact no h
  | some ti =>
    cases hcs : cellsV (opv s x) with
    | none => rw [ht, hcs] at h; exact no h
    | some cs =>
      rw [ht, hcs] at h
      by_cases h0 : cs.length = ti.size ∧ 0 < ti.size
      · simp only [h0, and_self, if_true] at h
        obtain ⟨h1, h2, h3⟩ := cellsV_ok (hr.op x) hcs
        obtain ⟨ρ', he, hp, hrel⟩ := one_row (ty := t) hr (cs := cs) (vs := (a.eval x).cells) h1 (by omega) h2 h3
        refine wp_v (s := Instr.box t (a.eval x)) (by simp [execOp, ho]) ?_ (hn ρ' _ _ _ _ _ he hp hrel h)
        simp [Instr.box, run_newVar]
      · simp only [h0, if_false] at h; exact no h
theorem rdCells_get (b : Body) (i : Nat) : ∀ (n f j : Nat), j < n → (rdCells b i f n)[j]? = some (b.cell i (f + j))
  | 0, _, _, h => by omega
  | n + 1, f, 0, _ => by simp [rdCells]
  | n + 1, f, j + 1, h => by
    have := rdCells_get b i n (f + 1) j (by omega)
    simp only [rdCells, List.getElem?_cons_succ, this]
    congr 2; omega
theorem rdCells_length (b : Body) (i : Nat) : ∀ (n f : Nat), (rdCells b i f n).length = n
  | 0, _ => rfl
  | n + 1, f => by simp [rdCells, rdCells_length b i n (f + 1)]
theorem add_at (g o j : Nat) : (⟨g, o, none⟩ : Addr).add j = ⟨g, o + j, none⟩ := by unfold Addr.add; split <;> simp_all
theorem op_load (T : TOK P c.tab) {t : TypeId} {x : Operand} (ho : o.op = .load t x) (hr : Rel ρ X W0 N s a W)
    (h : aLoad c s t x K = some r)
    (hn : Goes o ρ X W0 N s a K r next) : o.wp P a W next Q := by
  unfold aLoad at h
  have hx := hr.op x
  generalize opv s x = vx at h hx
  generalize he : a.eval x = ex at hx
  cases hx <;> try (exact no h)
  rename_i id i f p hp hi hf
  cases ht : c.tab t with
  | none => rw [ht] at h; exact no h
  | some ti =>
    rw [ht] at h
    cases hm : s.mem id with
    | none => simp [hm] at h
    | some row =>
      simp only [hm] at h
      by_cases hfit : f + ti.size ≤ row.body.sz
      · simp only [hfit, if_true] at h
        obtain ⟨d1, d2, d3⟩ := hr.mem.dim id row p hm hp
        have hcell := hr.mem.cell id row p hm hp i
        by_cases hag : ti.agg = true
        · simp only [hag, if_true] at h
          have hex : ∀ j, j < ti.size → ∃ v, W.cell? ((⟨p.blk, p.base + (i * p.sz + f), none⟩ : Addr).add j) = some v ∧ VR ρ (row.body.cell i (f + j)) v := by
            intro j hj
            obtain ⟨_, v, hv, hvr⟩ := hcell (f + j) hi (by omega)
            refine ⟨v, ?_, hvr⟩
            rw [add_at, ← hv]; congr 2; omega
          have hch := Classical.axiomOfChoice (r := fun (j : Fin ti.size) v => W.cell? ((⟨p.blk, p.base + (i * p.sz + f), none⟩ : Addr).add j.1) = some v ∧ VR ρ (row.body.cell i (f + j.1)) v) (fun j => hex j.1 j.2)
          obtain ⟨g, hg⟩ := hch
          have hlen : (List.ofFn g).length = ti.size := by simp
          have hrun := run_loadCells_list (P := P) (w := W) (⟨p.blk, p.base + (i * p.sz + f), none⟩ : Addr) (List.ofFn g) (by
            intro j v hj
            have hj' : j < ti.size := by
              have := (List.getElem?_eq_some_iff.1 hj).1; simpa using this
            simp [List.getElem?_ofFn, hj'] at hj
            rw [(hg ⟨j, hj'⟩).1, hj])
          rw [hlen] at hrun
          refine wp_v (s := Instr.loadAt t (a.eval x)) (v := .agg (List.ofFn g).toArray) (W' := W) (by simp [execOp, ho]) ?_ (hn ρ _ _ _ _ _ (ExtS.refl s.nx ρ) ?_ hr.same h)
          · rw [he]
            simp [Instr.loadAt, Instr.sureAddr, loadVar, run_agg T ht, run_size T ht, hag, hrun]
          · refine .agg (by simp [rdCells_length]) ?_ ?_
            · intro y hy
              obtain ⟨j, hj, rfl⟩ := List.getElem_of_mem hy
              rw [rdCells_length] at hj
              have := rdCells_get row.body i ti.size f j hj
              rw [List.getElem?_eq_getElem (by rw [rdCells_length]; exact hj)] at this
              rw [Option.some.inj this]
              exact (hcell (f + j) hi (by omega)).1
            · intro j y v hy hv
              have hj : j < ti.size := by
                have := (List.getElem?_eq_some_iff.1 hy).1; rwa [rdCells_length] at this
              rw [rdCells_get row.body i ti.size f j hj] at hy
              obtain rfl := Option.some.inj hy
              simp [List.getElem?_ofFn, hj] at hv
              rw [← hv]; exact (hg ⟨j, hj⟩).2
        · simp only [hag] at h
          by_cases h1 : ti.size = 1
          · simp only [h1, if_true] at h
            obtain ⟨_, v, hv, hvr⟩ := hcell f hi hf
            refine wp_v (s := Instr.loadAt t (a.eval x)) (v := v) (W' := W) (by simp [execOp, ho]) ?_ (hn ρ _ _ _ _ _ (ExtS.refl s.nx ρ) hvr hr.same (by simpa using h))
            rw [he]
            simp [Instr.loadAt, Instr.sureAddr, loadVar, run_agg T ht, hag, hv]
          · simp [h1] at h
      · simp only [hfit, if_false] at h; exact no h
end
end Go.Vm
set_option linter.unusedVariables false
set_option linter.unusedSimpArgs false
namespace Go.Vm
open Go Go.RowKit
section
variable {P : Program} {R : Type} {c : Ctx} {o : Oper} {ρ : Ren} {X : Nat → Prop} {W0 : World} {N : Nat} {s : St} {a : Act} {W : World} {K : V → Mem → Nat → Option R} {r : R}
  {next : Act → World → Prop} {Q : Exit → Act → World → Prop}
theorem upd_upd (m : Mem) (d : Nat) (x y : Option Row) : upd (upd m d x) d y = upd m d y := by
  funext t; unfold upd; split <;> rfl
/-- Cells of one element written, one behind the other. -/
theorem wr_ok {B : Nat} {d : Nat} {p : Pl} (hp : ρ d = some p) {i f0 : Nat} (hi : i < p.n) : ∀ (cs : List V) (vals : List Value) (j : Nat) (row : Row) (m : Mem) (W : World) (b : Body),
    vals.length = cs.length → (∀ y ∈ cs, leaf y = true) → (∀ (k : Nat) (y : V) (u : Value), cs[k]? = some y → vals[k]? = some u → VR ρ y u) → MR ρ X B m W → m d = some row → row.own = true → f0 + j + cs.length ≤ p.sz →
    wrCells row.body i (f0 + j) cs = some b → ∃ W', (storeCells (⟨p.blk, p.base + (i * p.sz + f0), none⟩ : Addr) vals j).run P W = .ok () W' ∧ MR ρ X B (upd m d (some { row with body := b })) W' ∧ Grow (fun g => g = p.blk) W W'
  | [], [], j, row, m, W, b, _, _, _, hm, hd, _, _, hb => by
    simp only [wrCells, Option.some.injEq] at hb
    subst hb
    refine ⟨W, rfl, ?_, Grow.refl _ _⟩
    have : upd m d (some row) = m := by funext t; unfold upd; split <;> simp_all
    rw [this]; exact hm
  | [], _ :: _, _, _, _, _, _, hl, _, _, _, _, _, _, _ => by simp at hl
  | _ :: _, [], _, _, _, _, _, hl, _, _, _, _, _, _, _ => by simp at hl
  | y :: cs, u :: vals, j, row, m, W, b, hl, hlf, hv, hm, hd, ho, hf, hb => by
    simp only [wrCells] at hb
    cases hs : row.body.set i (f0 + j) y with
    | none => rw [hs] at hb; exact no hb
    | some b1 =>
      rw [hs] at hb
      simp only [List.length_cons] at hf
      have hyu : VR ρ y u := hv 0 y u rfl rfl
      have hly : leaf y = true := hlf y (by simp)
      have hm1 := hm.set hd hp ho hi (f := f0 + j) (by omega) hyu hly hs
      obtain ⟨hl0, v0, hv0, _⟩ := hm.cell d row p hd hp i (f0 + j) hi (by omega)
      obtain ⟨hB, hrm, arr, ha, _⟩ := hm.own d row p hd hp ho
      have e1 : (⟨p.blk, p.base + (i * p.sz + f0), none⟩ : Addr).add j = ⟨p.blk, p.base + (i * p.sz + (f0 + j)), none⟩ := by
        rw [add_at]; congr 1; omega
      have hst : (store ((⟨p.blk, p.base + (i * p.sz + f0), none⟩ : Addr).add j) u).run P W = .ok () (W.setCell ⟨p.blk, p.base + (i * p.sz + (f0 + j)), none⟩ u) := by
        rw [e1, run_store P W _ u _ (hyu.oneCell hly), hv0]
        have : W.frozen? ⟨p.blk, p.base + (i * p.sz + (f0 + j)), none⟩ = false := frozen_of_row W p.blk _ arr row.ty ha
        simp [this]
      obtain ⟨W', hrun, hm2, hg⟩ := wr_ok (f0 := f0) hp hi cs vals (j + 1) { row with body := b1 } (upd m d (some { row with body := b1 })) (W.setCell ⟨p.blk, p.base + (i * p.sz + (f0 + j)), none⟩ u) b
        (by simpa using hl) (fun z hz => hlf z (by simp [hz])) (fun k z q hz hq => hv (k + 1) z q hz hq) hm1 (by simp [upd]) ho (by omega) (by rw [← Nat.add_assoc]; exact hb)
      refine ⟨W', ?_, ?_, ?_⟩
      · simp only [storeCells]
        simp [hst, hrun]
      · rw [upd_upd] at hm2; exact hm2
      · have g1 : Grow (fun g => g = p.blk) W (W.setCell ⟨p.blk, p.base + (i * p.sz + (f0 + j)), none⟩ u) := ⟨rfl, rfl, rfl, by simp [World.setCell], fun b hb hne => heap_setCell_other W _ b u hne⟩
        exact g1.trans hg (fun _ _ x => x)
theorem op_store (T : TOK P c.tab) {t : TypeId} {x y : Operand} (ho : o.op = .store t x y) (hr : Rel ρ X W0 N s a W)
    (h : aStore c s t x y K = some r)
    (hn : Goes o ρ X W0 N s a K r next) : o.wp P a W next Q := by
  unfold aStore at h
  have hx := hr.op x
  generalize opv s x = vx at h hx
  generalize he : a.eval x = ex at hx
  cases hx <;> try (exact no h)
  rename_i id i f p hp hi hf
  cases ht : c.tab t with
  | none => rw [ht] at h; exact no h
  | some ti =>
  cases hcs : cellsV (opv s y) with
  | none => rw [ht, hcs] at h; exact no h
  | some cs =>
  rw [ht, hcs] at h
  cases hm : s.mem id with
  | none => simp [hm] at h
  | some row =>
  simp only [hm] at h
  by_cases hc : row.own = true ∧ cs.length = ti.size ∧ f + ti.size ≤ row.body.sz
  · rw [if_pos hc] at h
    cases hw : wrCells row.body i f cs with
    | none => rw [hw] at h; exact no h
    | some b =>
      rw [hw] at h
      obtain ⟨ho1, hlen, hfit⟩ := hc
      obtain ⟨d1, d2, d3⟩ := hr.mem.dim id row p hm hp
      obtain ⟨h1, h2, h3⟩ := cellsV_ok (hr.op y) hcs
      obtain ⟨W', hrun, hm2, hg⟩ := wr_ok (P := P) (X := X) hp (f0 := f) hi cs (a.eval y).cells.toList 0 row s.mem W b (by simpa using h1) h2 (fun k z q hz hq => h3 k z q hz (by simpa using hq)) hr.mem hm ho1 (by omega) (by simpa using hw)
      obtain ⟨hB, _⟩ := hr.mem.own id row p hm hp ho1
      have hrel : Rel ρ X W0 N ⟨s.env, upd s.mem id (some { row with body := b }), s.nx⟩ a W' :=
        hr.step (ExtS.refl s.nx ρ) hm2 hr.nx (hr.fr.trans hg (fun g hgl e => by subst e; rcases hB with hB | hB; exact absurd hgl (by omega); exact hB))
      refine wp_u (s := Instr.storeAt t (a.eval x) (a.eval y)) (W' := W') (by simp [execOp, ho]) ?_ (hn ρ (.tup []) undef _ _ W' (ExtS.refl s.nx ρ) (.tup rfl (fun i c v h => by simp at h)) hrel h)
      rw [he]
      have : (a.eval y).cells.size = ti.size := by omega
      simp [Instr.storeAt, Instr.sureAddr, storeVar, run_size T ht, this, hrun]
  · simp only [hc, if_false] at h; exact no h
theorem op_nilCheck {x : Operand} (ho : o.op = .nilCheck x) (hr : Rel ρ X W0 N s a W)
    (h : aNilCheck c s x K = some r) (hn : Goes o ρ X W0 N s a K r next) : o.wp P a W next Q := by
  unfold aNilCheck at h
  have hx := hr.op x
  generalize opv s x = vx at h hx
  generalize he : a.eval x = ex at hx
  cases hx <;> try (exact no h)
  rename_i id i f p hp hi hf
  refine wp_val (v := .pointer (some ⟨p.blk, p.base + (i * p.sz + f), none⟩)) (W' := W) ?_ (hn ρ _ _ _ _ W (ExtS.refl s.nx ρ) (.ptr hp hi hf) hr.same h)
  simp [execOp, ho, he]
theorem op_extract {x : Operand} {k : Nat} (ho : o.op = .extract x k) (hr : Rel ρ X W0 N s a W)
    (h : aExtract c s x k K = some r) (hn : Goes o ρ X W0 N s a K r next) : o.wp P a W next Q := by
  unfold aExtract at h
  have hx := hr.op x
  generalize opv s x = vx at h hx
  generalize he : a.eval x = ex at hx
  cases hx <;> try (exact no h)
  rename_i cs vs hl hv
  cases hk : cs[k]? with
  | none => simp [hk] at h
  | some v =>
    simp only [hk] at h
    have hlt : k < vs.size := by rw [hl]; exact (List.getElem?_eq_some_iff.1 hk).1
    refine wp_v (s := Instr.extract (a.eval x) k) (v := vs[k]) (W' := W) (by simp [execOp, ho]) ?_ (hn ρ _ _ _ _ W (ExtS.refl s.nx ρ) (hv k v vs[k] hk (by simp [hlt])) hr.same h)
    rw [he]
    simp [Instr.extract, hlt]
theorem op_fieldAddr (T : TOK P c.tab) {t : TypeId} {x : Operand} {k : Nat} (ho : o.op = .fieldAddr t x k) (hr : Rel ρ X W0 N s a W)
    (h : aFieldAddr c s t x k K = some r) (hn : Goes o ρ X W0 N s a K r next) : o.wp P a W next Q := by
  unfold aFieldAddr at h
  have hx := hr.op x
  generalize opv s x = vx at h hx
  generalize he : a.eval x = ex at hx
  cases hx <;> try (exact no h)
  rename_i id i f p hp hi hf
  cases ht : c.tab t with
  | none => rw [ht] at h; exact no h
  | some ti =>
  have htd := T.td t ti ht
  rw [ht] at h
  obtain ⟨td, tsz, tby, tag, tz, tf, te⟩ := ti
  cases td <;> try (exact no h)
  rename_i fs
  simp only at h htd
  obtain ⟨_, fields, hu, hfs, _, hfl⟩ := htd
  cases hk : fs[k]? with
  | none => simp [hk] at h
  | some oe =>
  obtain ⟨off, e⟩ := oe
  simp only [hk] at h
  obtain ⟨fl, hfk, hfo, hft⟩ := hfl k off e hk
  cases hm : s.mem id with
  | none => simp [hm] at h
  | some row =>
  cases hte : c.tab e with
  | none => simp [hm, hte] at h
  | some te =>
  simp only [hm, hte] at h
  by_cases hlt : f + off < row.body.sz ∧ 0 < te.size
  · rw [if_pos hlt] at h
    obtain ⟨d1, d2, d3⟩ := hr.mem.dim id row p hm hp
    have hvr : VR ρ (.ptr id i (f + off)) (.pointer (some ((⟨p.blk, p.base + (i * p.sz + f), none⟩ : Addr).add off))) := by
      rw [add_at]
      have := VR.ptr (ρ := ρ) (id := id) (i := i) (f := f + off) hp hi (by omega)
      rwa [show p.base + (i * p.sz + (f + off)) = p.base + (i * p.sz + f) + off by omega] at this
    refine wp_v (s := Instr.fieldAt t (a.eval x) k) (v := .pointer (some ((⟨p.blk, p.base + (i * p.sz + f), none⟩ : Addr).add off))) (W' := W) (by simp [execOp, ho]) ?_ (hn ρ _ _ _ _ W (ExtS.refl s.nx ρ) hvr hr.same h)
    rw [he]
    have hsz := run_size T hte W
    have hne : te.size ≠ 0 := by omega
    simp [Instr.fieldAt, run_underlying hu, hfk, Instr.sureAddr, fieldPlace, hfo, hft, hsz, hne]
  · rw [if_neg hlt] at h; exact no h
/-- A pure operation: the world stays. -/
theorem op_pure {v : V} {v' : Value} {sm : Sem Value} (he : execOp a.eval o = (do pure (Next.value (← sm)))) (hrun : sm.run P W = .ok v' W) (hv : VR ρ v v') (hr : Rel ρ X W0 N s a W)
    (h : K v s.mem s.nx = some r) (hn : Goes o ρ X W0 N s a K r next) : o.wp P a W next Q :=
  wp_v he hrun (hn ρ _ _ _ _ W (ExtS.refl s.nx ρ) hv hr.same h)
theorem cond_some {b : Bool} {x y : Option R} (h : cond b x y = some r) : (b = true ∧ x = some r) ∨ (b = false ∧ y = some r) := by cases b <;> simp_all
theorem binI_ok {op : BinOp} {k : IntKind} {x y : Int} {v : V} (h : binI op k x y = some v) (t : TypeId) : ∃ v', (binOp op t (.int k x) (.int k y)) = pure v' ∧ VR ρ v v' := by
  cases op <;> simp only [binI, Option.some.injEq, reduceCtorEq] at h <;> subst h <;>
    first | exact ⟨_, by simp [binOp, Op.intArith, Op.intBits, Op.intCmp], .int _ _⟩ | exact ⟨_, by simp [binOp, Op.intCmp], .bool _⟩
end
end Go.Vm
set_option linter.unusedVariables false
set_option linter.unusedSimpArgs false
namespace Go.Vm
open Go Go.RowKit
section
variable {P : Program} {R : Type} {c : Ctx} {o : Oper} {ρ : Ren} {X : Nat → Prop} {W0 : World} {N : Nat} {s : St} {a : Act} {W : World} {K : V → Mem → Nat → Option R} {r : R}
  {next : Act → World → Prop} {Q : Exit → Act → World → Prop}
theorem op_binOp (T : TOK P c.tab) {op : BinOp} {t t' : TypeId} {x y : Operand} (ho : o.op = .binOp op t x y t') (hr : Rel ρ X W0 N s a W)
    (h : binC c.tab t op (opv s x) (opv s y) (fun v => K v s.mem s.nx) = some r) (hn : Goes o ρ X W0 N s a K r next) : o.wp P a W next Q := by
  have hx := hr.op x
  have hy := hr.op y
  have hexec : execOp a.eval o = (do pure (Next.value (← (do eqGuard op t x y (a.eval x) (a.eval y); binOp op t (a.eval x) (a.eval y) : Sem Value)))) := by simp [execOp, ho]
  generalize opv s x = vx at h hx
  generalize opv s y = vy at h hy
  generalize he : a.eval x = ex at hx hexec
  generalize he' : a.eval y = ey at hy hexec
  cases hx with
  | int k n =>
    cases hy <;> try (exact no h)
    rename_i k' m
    have hg : ∀ op, (eqGuard op t x y (.int k n) (.int k' m)).run P W = .ok () W := fun op => by cases op <;> rfl
    have fin : ∀ v v', VR ρ v v' → (binOp op t (.int k n) (.int k' m)).run P W = .ok v' W → K v s.mem s.nx = some r → o.wp P a W next Q := fun v v' hv hrun hk =>
      op_pure hexec (by simp [hg op, hrun]) hv hr hk hn
    cases op with
    | shl =>
      rcases cond_some h with ⟨_, h⟩ | ⟨hb, h⟩
      · exact no h
      · exact fin _ _ (.int _ _) (by simp [binOp, Op.shift, of_decide_eq_false hb]) h
    | shr =>
      rcases cond_some h with ⟨_, h⟩ | ⟨hb, h⟩
      · exact no h
      · exact fin _ _ (.int _ _) (by simp [binOp, Op.shift, of_decide_eq_false hb]) h
    | quo =>
      simp only [binC] at h
      by_cases hk : k = k'
      · subst hk
        rw [if_pos rfl] at h
        rcases cond_some h with ⟨_, h⟩ | ⟨hb, h⟩
        · exact no h
        · exact fin _ _ (.int _ _) (by simp [binOp, Op.intDiv, beq_eq_false_iff_ne.1 hb]) h
      · rw [if_neg hk] at h; exact no h
    | rem =>
      simp only [binC] at h
      by_cases hk : k = k'
      · subst hk
        rw [if_pos rfl] at h
        rcases cond_some h with ⟨_, h⟩ | ⟨hb, h⟩
        · exact no h
        · exact fin _ _ (.int _ _) (by simp [binOp, Op.intDiv, beq_eq_false_iff_ne.1 hb]) h
      · rw [if_neg hk] at h; exact no h
    | _ =>
      simp only [binC] at h
      by_cases hk : k = k'
      · subst hk
        rw [if_pos rfl] at h
        revert h
        cases hb : binI _ k n m with
        | none => intro h; exact no h
        | some v =>
          intro h
          obtain ⟨v', hv', hvr⟩ := binI_ok hb t
          exact fin v v' hvr (by rw [hv']; rfl) h
      · rw [if_neg hk] at h; exact no h
  | bool b =>
    cases hy <;> try (exact no h)
    rename_i b'
    simp only [binC] at h
    cases ht : c.tab t with
    | none => simp [ht] at h
    | some ti =>
    have htd := T.td t ti ht
    rw [ht] at h
    obtain ⟨td, tsz, tby, tag, tz, tf, te⟩ := ti
    cases td <;> try (exact no h)
    simp only at h htd
    cases op <;> try (exact no h)
    · refine op_pure hexec (v' := .bool (b == b')) ?_ (.bool _) hr h hn
      have hg : (eqGuard .eql t x y (.bool b) (.bool b')).run P W = .ok () W := rfl
      simp [hg, run_eql_bool W t b b' htd.1]
    · refine op_pure hexec (v' := .bool (!(b == b'))) ?_ (.bool _) hr h hn
      have hg : (eqGuard .neq t x y (.bool b) (.bool b')).run P W = .ok () W := rfl
      simp [hg, run_neq_bool W t b b' htd.1]
  | str b =>
    cases hy <;> try (exact no h)
    rename_i b'
    simp only [binC] at h
    cases op <;> try (exact no h)
    · refine op_pure hexec (v' := .bool (b.toList == b'.toList)) ?_ (.bool _) hr h hn
      have hg : (eqGuard .eql t x y (.string b) (.string b')).run P W = .ok () W := rfl
      simp [hg, binOp, Op.stringOp]
    · refine op_pure hexec (v' := .bool (b.toList != b'.toList)) ?_ (.bool _) hr h hn
      have hg : (eqGuard .neq t x y (.string b) (.string b')).run P W = .ok () W := rfl
      simp [hg, binOp, Op.stringOp, bne]
  | @agg xs xs' hl hf hv =>
    cases hy <;> try (exact no h)
    rename_i ys ys' hl' hf' hv'
    simp only [binC] at h
    cases ht : c.tab t with
    | none => simp [ht] at h
    | some ti =>
    rw [ht] at h
    have heq := T.eq t ti ρ xs ys (.agg xs') (.agg ys')
    obtain ⟨td, tsz, tby, tag, tz, tf, te⟩ := ti
    cases te
    · exact no h
    simp only at h
    cases hb : eqC tf xs ys with
    | none => simp [hb] at h
    | some b =>
    simp only [hb] at h
    obtain ⟨g1, g2, g3, g4⟩ := heq b ht rfl hb (.agg hl hf hv) (.agg hl' hf' hv') W x y
    cases op <;> try (exact no h)
    · exact op_pure hexec (by simp [g1, g3]) (.bool _) hr h hn
    · exact op_pure hexec (by simp [g2, g4]) (.bool _) hr h hn
  | nilp =>
    cases hy <;> try (exact no h)
    simp only [binC] at h
    cases ht : c.tab t with
    | none => simp [ht] at h
    | some ti =>
    have htd := T.td t ti ht
    rw [ht] at h
    obtain ⟨td, tsz, tby, tag, tz, tf, te⟩ := ti
    cases td <;> try (exact no h)
    rename_i e
    simp only at h htd
    have hpt : P.underlying t = some (.pointer (P.pointee t)) := by rw [htd.1]; simp [Program.pointee, htd.1]
    cases op <;> try (exact no h)
    · exact op_pure hexec (v' := .bool true) (by simp [show (eqGuard .eql t x y (.pointer none) (.pointer none)).run P W = .ok () W from rfl, run_eql_pointer_nil W t none hpt]) (.bool _) hr h hn
    · exact op_pure hexec (v' := .bool false) (by simp [show (eqGuard .neq t x y (.pointer none) (.pointer none)).run P W = .ok () W from rfl, run_neq_pointer_nil W t none hpt]) (.bool _) hr h hn
  | @ptr id i f p hp hi hf =>
    cases hy <;> try (exact no h)
    simp only [binC] at h
    cases ht : c.tab t with
    | none => simp [ht] at h
    | some ti =>
    have htd := T.td t ti ht
    rw [ht] at h
    obtain ⟨td, tsz, tby, tag, tz, tf, te⟩ := ti
    cases td <;> try (exact no h)
    rename_i e
    simp only at h htd
    have hpt : P.underlying t = some (.pointer (P.pointee t)) := by rw [htd.1]; simp [Program.pointee, htd.1]
    cases op <;> try (exact no h)
    · exact op_pure hexec (v' := .bool false) (by simp [show ∀ q, (eqGuard .eql t x y (.pointer (some q)) (.pointer none)).run P W = .ok () W from fun _ => rfl, run_eql_pointer_nil W t _ hpt]) (.bool _) hr h hn
    · exact op_pure hexec (v' := .bool true) (by simp [show ∀ q, (eqGuard .neq t x y (.pointer (some q)) (.pointer none)).run P W = .ok () W from fun _ => rfl, run_neq_pointer_nil W t _ hpt]) (.bool _) hr h hn
  | nils =>
    cases hy <;> try (exact no h)
    simp only [binC] at h
    cases ht : c.tab t with
    | none => simp [ht] at h
    | some ti =>
    have htd := T.td t ti ht
    rw [ht] at h
    obtain ⟨td, tsz, tby, tag, tz, tf, te⟩ := ti
    cases td <;> try (exact no h)
    rename_i e
    simp only at h htd
    have h1 := fun (A : Option Addr) l q => run_equal_slice_nil (P := P) (w := W) t e A l q htd.1
    cases op <;> try (exact no h)
    · exact op_pure hexec (v' := .bool true) (by simp [show (eqGuard .eql t x y (.slice none 0 0) (.slice none 0 0)).run P W = .ok () W from rfl, binOp, h1]) (.bool _) hr h hn
    · exact op_pure hexec (v' := .bool false) (by simp [show (eqGuard .neq t x y (.slice none 0 0) (.slice none 0 0)).run P W = .ok () W from rfl, binOp, h1]) (.bool _) hr h hn
  | @sl id off len cap p hp hn1 hl1 hr1 hm1 =>
    cases hy <;> try (exact no h)
    simp only [binC] at h
    cases ht : c.tab t with
    | none => simp [ht] at h
    | some ti =>
    have htd := T.td t ti ht
    rw [ht] at h
    obtain ⟨td, tsz, tby, tag, tz, tf, te⟩ := ti
    cases td <;> try (exact no h)
    rename_i e
    simp only at h htd
    have h1 := fun (A : Option Addr) l q => run_equal_slice_nil (P := P) (w := W) t e A l q htd.1
    cases op <;> try (exact no h)
    · rcases cond_some h with ⟨_, h⟩ | ⟨_, h⟩
      · exact op_pure hexec (v' := .bool false) (by simp [show ∀ A l q, (eqGuard .eql t x y (.slice A l q) (.slice none 0 0)).run P W = .ok () W from fun _ _ _ => rfl, binOp, h1]) (.bool _) hr h hn
      · exact no h
    · rcases cond_some h with ⟨_, h⟩ | ⟨_, h⟩
      · exact op_pure hexec (v' := .bool true) (by simp [show ∀ A l q, (eqGuard .neq t x y (.slice A l q) (.slice none 0 0)).run P W = .ok () W from fun _ _ _ => rfl, binOp, h1]) (.bool _) hr h hn
      · exact no h
  | slz id off b =>
    cases hy <;> try (exact no h)
    simp only [binC] at h
    cases ht : c.tab t with
    | none => simp [ht] at h
    | some ti =>
    have htd := T.td t ti ht
    rw [ht] at h
    obtain ⟨td, tsz, tby, tag, tz, tf, te⟩ := ti
    cases td <;> try (exact no h)
    rename_i e
    simp only at h htd
    have h1 := fun (A : Option Addr) l q => run_equal_slice_nil (P := P) (w := W) t e A l q htd.1
    cases op <;> try (exact no h)
  | _ => exact no h
theorem op_unOp {op : UnOp} {t : TypeId} {x : Operand} (ho : o.op = .unOp op t x) (hr : Rel ρ X W0 N s a W)
    (h : aUnOp c s op x K = some r) (hn : Goes o ρ X W0 N s a K r next) : o.wp P a W next Q := by
  unfold aUnOp at h
  have hx := hr.op x
  have hexec : execOp a.eval o = (do pure (Next.value (← Op.unary op (a.eval x)))) := by simp [execOp, ho]
  generalize opv s x = vx at h hx
  generalize he : a.eval x = ex at hx hexec
  cases op <;> cases hx <;> try (exact no h)
  · exact op_pure hexec (by simp [Op.unary, Op.intArith]; try rfl) (.int _ _) hr h hn
  · exact op_pure hexec (by simp only [Op.unary, Op.intBits]; try rfl) (.int _ _) hr h hn
  · exact op_pure hexec (by simp [Op.unary]; try rfl) (.bool _) hr h hn
theorem text_load (xs : List Int) {own : Bool} {ty : TypeId} {id off len : Nat} {p : Pl} (hr : Rel ρ X W0 N s a W) (hm : s.mem id = some ⟨own, ty, .col (.int .u8) xs⟩) (hp : ρ id = some p) (hn : off + len ≤ p.n) (cap : Nat) :
    (Conv.bytesToString (.slice (some ⟨p.blk, p.base + off * p.sz, none⟩) len cap)).run P W = .ok (.string (textOf (List.take len (List.drop off xs)))) W := by
  have hdim := hr.mem.dim id _ p hm hp
  have hsz : p.sz = 1 := hdim.2.1
  have hpn : p.n = xs.length := hdim.1
  have hlen : (List.take len (List.drop off xs)).length = len := by rw [List.length_take, List.length_drop]; omega
  have hload := run_loadCells_list (P := P) (w := W) (⟨p.blk, p.base + off * p.sz, none⟩ : Addr) ((List.take len (List.drop off xs)).map (Value.int .u8)) (by
    intro j v hj
    rw [List.getElem?_map] at hj
    cases hx : (List.take len (List.drop off xs))[j]? with
    | none => rw [hx] at hj; cases hj
    | some n =>
      rw [hx] at hj
      cases hj
      have hjl : j < len := by
        have h1 := (List.getElem?_eq_some_iff.1 hx).1
        rw [hlen] at h1
        exact h1
      obtain ⟨_, v, hc, hvr⟩ := hr.mem.cell id _ p hm hp (off + j) 0 (by omega) (by omega)
      have hcell : (Body.col (.int .u8) xs : Body).cell (off + j) 0 = .int .u8 n := by
        rw [List.getElem?_take_of_lt hjl, List.getElem?_drop] at hx
        show V.int .u8 (List.getD xs (off + j) 0) = _
        rw [List.getD, hx]; rfl
      have hvr : VR ρ (.int .u8 n) v := hcell ▸ hvr
      cases hvr
      rw [hsz, Nat.mul_one, Nat.add_zero] at hc
      rw [hsz, Nat.mul_one]
      have ha : ((⟨p.blk, p.base + off, none⟩ : Addr).add j) = ⟨p.blk, p.base + (off + j), none⟩ := by simp [Addr.add, Nat.add_assoc]
      rw [ha]; exact hc)
  rw [List.length_map, hlen] at hload
  rw [run_bytesToString W _ len cap _ hload]; rfl
theorem text_ok (T : TOK P c.tab) {e : TypeId} {id off len : Nat} {src dst : TypeId} {u : Value} (hr : Rel ρ X W0 N s a W) (hs : P.underlying src = some (.slice e)) (hd : P.underlying dst = some .string) (hv : VR ρ (.sl id off len) u)
    (h : aText c s e id off len K = some r) : ∃ b, K (.str b) s.mem s.nx = some r ∧ (convert src dst u).run P W = .ok (.string b) W := by
  unfold aText at h
  cases he : c.tab e with
  | none => rw [he] at h; exact no h
  | some ei =>
  have hte := T.td e ei he
  rw [he] at h
  obtain ⟨td, tsz, tby, tag, tz, tf, te⟩ := ei
  cases td <;> try (exact no h)
  rename_i k
  cases k <;> try (exact no h)
  cases hm : s.mem id with
  | none => rw [hm] at h; exact no h
  | some row =>
  rw [hm] at h
  obtain ⟨own, ty, body⟩ := row
  cases body with
  | one _ => exact no h
  | recs _ _ => exact no h
  | col fd xs =>
  cases fd <;> try (exact no h)
  rename_i k
  cases k <;> try (exact no h)
  refine ⟨_, h, ?_⟩
  cases hv with
  | slz _ _ b =>
    rw [run_convert_bytes_string W src dst e b 0 0 hs hte.1 hd]
    cases b with
    | none => simp [Conv.bytesToString, textOf, Sem.run_pure]
    | some a => rw [run_bytesToString W a 0 0 [] (by simp [loadCells, loadCellsFrom, Sem.run_pure])]; simp [textOf]
  | @sl _ _ _ cap p hp hn hl hrm hmx =>
    rw [run_convert_bytes_string W src dst e _ len cap hs hte.1 hd]
    exact text_load xs hr hm hp hn cap
theorem op_convert (T : TOK P c.tab) {src dst : TypeId} {x : Operand} (ho : o.op = .convert src dst x) (hr : Rel ρ X W0 N s a W)
    (h : aConvert c s src dst x K = some r) (hn : Goes o ρ X W0 N s a K r next) : o.wp P a W next Q := by
  unfold aConvert at h
  have hx := hr.op x
  have hexec : execOp a.eval o = (do pure (Next.value (← convert src dst (a.eval x)))) := by simp [execOp, ho]
  generalize opv s x = vx at h hx
  generalize he : a.eval x = ex at hx hexec
  cases hs : c.tab src with
  | none => rw [hs] at h; exact no h
  | some si =>
  cases hd : c.tab dst with
  | none => rw [hs, hd] at h; exact no h
  | some di =>
  have htd := T.td dst di hd
  have hts := T.td src si hs
  rw [hs, hd] at h
  obtain ⟨td, tsz, tby, tag, tz, tf, te⟩ := di
  cases td with
  | str =>
    obtain ⟨sd, ssz, sby, sag, sz', sf, se⟩ := si
    cases sd <;> try (exact no h)
    rename_i e
    cases vx <;> try (exact no h)
    obtain ⟨b, hk, hrun⟩ := text_ok T hr hts.1 htd.1 hx h
    refine op_pure hexec (v' := .string b) ?_ (.str _) hr hk hn
    exact hrun
  | int k => ?_
  | _ => first | exact no h | (cases si; rename_i sd _ _ _ _ _ _; cases sd <;> exact no h)
  cases hx <;> try (exact no h)
  rename_i k' n
  have hsome : ∃ d, P.underlying src = some d := by
    obtain ⟨sd, _, _, _, _, _, _⟩ := si
    cases sd with
    | st fs => obtain ⟨_, f, hf, _⟩ := hts; exact ⟨_, hf⟩
    | _ => exact ⟨_, hts.1⟩
  obtain ⟨d, hd'⟩ := hsome
  refine op_pure hexec (v' := .int k (k.wrap n)) ?_ (.int _ _) hr h hn
  simp [convert, run_underlying hd', run_underlying htd.1, Conv.intToInt]
theorem partV_ok (T : TOK P c.tab) {t : TypeId} {cs : List V} {vs : Array Value} {off : Nat} {v : V} (hv : VR ρ (.agg cs) (.agg vs)) (h : partV c.tab t cs off = some v) :
    ∃ v', (part t vs off).run P W = .ok v' W ∧ VR ρ v v' := by
  cases hv with
  | agg hl hf hc =>
  unfold partV at h
  cases ht : c.tab t with
  | none => rw [ht] at h; exact no h
  | some ti =>
    rw [ht] at h
    by_cases hag : ti.agg = true
    · simp only [hag, if_true] at h
      by_cases hb : off + ti.size ≤ cs.length
      · rw [if_pos hb] at h
        obtain rfl := Option.some.inj h
        refine ⟨.agg (vs.extract off (off + ti.size)), by simp [part, run_agg T ht, run_size T ht, hag], .agg (by simp; omega) (fun y hy => hf y (List.mem_of_mem_drop (List.mem_of_mem_take hy))) ?_⟩
        intro i y u hy hu
        have h1 : i < ti.size := by
          have := (List.getElem?_eq_some_iff.1 hy).1; simp at this; omega
        rw [List.getElem?_take, if_pos h1, List.getElem?_drop] at hy
        rw [Array.getElem?_extract] at hu
        split at hu
        · exact hc _ _ _ hy hu
        · cases hu
      · rw [if_neg hb] at h; exact no h
    · simp only [hag] at h
      have h' : cs[off]? = some v := by simpa using h
      have hlt : off < vs.size := by rw [hl]; exact (List.getElem?_eq_some_iff.1 h').1
      exact ⟨vs[off], by simp [part, run_agg T ht, hag, hlt], hc off v _ h' (by simp [hlt])⟩
theorem op_field (T : TOK P c.tab) {t : TypeId} {x : Operand} {k : Nat} (ho : o.op = .field t x k) (hr : Rel ρ X W0 N s a W)
    (h : aField c s t x k K = some r) (hn : Goes o ρ X W0 N s a K r next) : o.wp P a W next Q := by
  unfold aField at h
  have hx := hr.op x
  have hexec : execOp a.eval o = (do pure (Next.value (← Instr.field t (a.eval x) k))) := by simp [execOp, ho]
  generalize opv s x = vx at h hx
  generalize he : a.eval x = ex at hx hexec
  cases hx <;> try (exact no h)
  rename_i cs vs hl hf hv
  cases ht : c.tab t with
  | none => rw [ht] at h; exact no h
  | some ti =>
  have htd := T.td t ti ht
  rw [ht] at h
  obtain ⟨td, tsz, tby, tag, tz, tf, te⟩ := ti
  cases td <;> try (exact no h)
  rename_i fs
  simp only at h htd
  obtain ⟨_, fields, hu, hfs, _, hfl⟩ := htd
  cases hk : fs[k]? with
  | none => simp [hk] at h
  | some oe =>
  obtain ⟨off, e⟩ := oe
  simp only [hk] at h
  obtain ⟨fl, hfk, hfo, hft⟩ := hfl k off e hk
  cases hp : partV c.tab e cs off with
  | none => simp [hp] at h
  | some v =>
    simp only [hp] at h
    obtain ⟨v', hrun, hvr⟩ := partV_ok (W := W) T (.agg hl hf hv) hp
    exact op_pure hexec (by simp [Instr.field, run_underlying hu, hfk, asAgg, hfo, hft, hrun]) hvr hr h hn
theorem selIdx_some {i : Int} {F : Nat → Option R} : ∀ (n j : Nat), selIdx i F j n = some r → ∃ q, j ≤ q ∧ q < j + n ∧ i = (q : Int) ∧ F q = some r
  | 0, _, h => by cases h
  | n + 1, j, h => by
    rcases cond_some h with ⟨hi, h⟩ | ⟨_, h⟩
    · exact ⟨j, Nat.le_refl _, by omega, by simpa using hi, h⟩
    · obtain ⟨q, h1, h2, h3, h4⟩ := selIdx_some n (j + 1) h
      exact ⟨q, by omega, by omega, h3, h4⟩
theorem op_indexAddr (T : TOK P c.tab) {t : TypeId} {x ix : Operand} (ho : o.op = .indexAddr t x ix) (hr : Rel ρ X W0 N s a W)
    (h : aIndexAddr c s t x ix K = some r) (hn : Goes o ρ X W0 N s a K r next) : o.wp P a W next Q := by
  unfold aIndexAddr at h
  have hx := hr.op x
  have hi := hr.op ix
  have hexec : execOp a.eval o = (do pure (Next.value (← Instr.indexAt t (a.eval x) (a.eval ix)))) := by simp [execOp, ho]
  generalize opv s x = vx at h hx
  generalize opv s ix = vi at h hi
  generalize he : a.eval x = ex at hx hexec
  generalize he' : a.eval ix = ei at hi hexec
  cases ht : c.tab t with
  | none =>
    rw [ht] at h
    cases hx <;> cases hi <;> exact no h
  | some ti =>
  have htd := T.td t ti ht
  rw [ht] at h
  obtain ⟨td, tsz, tby, tag, tz, tf, te⟩ := ti
  cases hx with
  | @sl id off len cap p hp hn1 hl1 hr1 hm1 =>
    cases hi <;> try (exact no h)
    rename_i k i
    cases td <;> try (exact no h)
    rename_i e
    simp only at h htd
    cases hte : c.tab e with
    | none => simp [hte] at h
    | some te =>
    cases hm : s.mem id with
    | none => simp [hte, hm] at h
    | some row =>
    simp only [hte, hm] at h
    by_cases hc : row.body.sz = te.size ∧ 0 < te.size
    · rw [if_pos hc] at h
      obtain ⟨d1, d2, d3⟩ := hr.mem.dim id row p hm hp
      rcases cond_some h with ⟨h0, h⟩ | ⟨_, h⟩
      · rcases cond_some h with ⟨h1, h⟩ | ⟨_, h⟩
        · have i0 : 0 ≤ i := of_decide_eq_true h0
          have i1 : i < (len : Int) := of_decide_eq_true h1
          have hvr : VR ρ (.ptr id (off + i.toNat) 0) (.pointer (some ((⟨p.blk, p.base + off * p.sz, none⟩ : Addr).add (i.toNat * te.size)))) := by
            rw [add_at]
            have := VR.ptr (ρ := ρ) (id := id) (i := off + i.toNat) (f := 0) hp (by omega) (by omega)
            rwa [show p.base + ((off + i.toNat) * p.sz + 0) = p.base + off * p.sz + i.toNat * te.size by rw [Nat.add_mul, d2, hc.1]; omega] at this
          refine op_pure hexec ?_ hvr hr h hn
          have hsz := run_size T hte W
          simp [Instr.indexAt, asIntOf, run_underlying htd.1, hsz, i0, i1]
        · exact no h
      · exact no h
    · rw [if_neg hc] at h; exact no h
  | slz id off b =>
    cases hi <;> try (exact no h)
    rename_i k i
    cases td <;> try (exact no h)
    rename_i e
    simp only at h htd
    cases hte : c.tab e with
    | none => simp [hte] at h
    | some te =>
    cases hm : s.mem id with
    | none => simp [hte, hm] at h
    | some row =>
    simp only [hte, hm] at h
    by_cases hc : row.body.sz = te.size ∧ 0 < te.size
    · rw [if_pos hc] at h
      rcases cond_some h with ⟨h0, h⟩ | ⟨_, h⟩
      · rcases cond_some h with ⟨h1, h⟩ | ⟨_, h⟩
        · have i0 : 0 ≤ i := of_decide_eq_true h0
          have i1 : i < ((0 : Nat) : Int) := of_decide_eq_true h1
          omega
        · exact no h
      · exact no h
    · rw [if_neg hc] at h; exact no h
  | @ptr id j f p hp hj hf =>
    cases hi <;> try (exact no h)
    rename_i k i
    cases td <;> try (exact no h)
    rename_i n e
    simp only at h htd
    cases hte : c.tab e with
    | none => simp [hte] at h
    | some te =>
    cases hm : s.mem id with
    | none => simp [hte, hm] at h
    | some row =>
    simp only [hte, hm] at h
    by_cases hc : 2 ≤ n ∧ 0 < te.size ∧ f + n * te.size ≤ row.body.sz
    · rw [if_pos hc] at h
      obtain ⟨q, _, hq, hiq, hk⟩ := selIdx_some n 0 h
      clear h
      subst hiq
      obtain ⟨d1, d2, d3⟩ := hr.mem.dim id row p hm hp
      have hqs : q * te.size + te.size ≤ n * te.size := by
        have : (q + 1) * te.size ≤ n * te.size := Nat.mul_le_mul_right _ (by omega)
        rwa [Nat.add_mul, Nat.one_mul] at this
      have hvr : VR ρ (.ptr id j (f + q * te.size)) (.pointer (some ((⟨p.blk, p.base + (j * p.sz + f), none⟩ : Addr).add (q * te.size)))) := by
        rw [add_at]
        have := VR.ptr (ρ := ρ) (id := id) (i := j) (f := f + q * te.size) hp hj (by omega)
        rwa [show p.base + (j * p.sz + (f + q * te.size)) = p.base + (j * p.sz + f) + q * te.size by omega] at this
      refine op_pure hexec ?_ hvr hr hk hn
      have hsz := run_size T hte W
      have hlt : (q : Int) < (n : Int) := by omega
      have hn1 : ¬ n ≤ 1 := by omega
      simp [Instr.indexAt, asIntOf, run_underlying htd.1, Instr.sureAddr, hsz, hlt, hn1]
      intro hh; omega
    · rw [if_neg hc] at h; exact no h
  | _ => cases hi <;> exact no h
theorem op_index (T : TOK P c.tab) {t : TypeId} {x ix : Operand} (ho : o.op = .index t x ix) (hr : Rel ρ X W0 N s a W)
    (h : aIndex c s t x ix K = some r) (hn : Goes o ρ X W0 N s a K r next) : o.wp P a W next Q := by
  unfold aIndex at h
  have hx := hr.op x
  have hi := hr.op ix
  have hexec : execOp a.eval o = (do pure (Next.value (← Instr.index t (a.eval x) (a.eval ix)))) := by simp [execOp, ho]
  generalize opv s x = vx at h hx
  generalize opv s ix = vi at h hi
  generalize he : a.eval x = ex at hx hexec
  generalize he' : a.eval ix = ei at hi hexec
  cases ht : c.tab t with
  | none =>
    rw [ht] at h
    cases hx <;> cases hi <;> exact no h
  | some ti =>
  have htd := T.td t ti ht
  rw [ht] at h
  obtain ⟨td, tsz, tby, tag, tz, tf, te⟩ := ti
  cases hx with
  | str b =>
    cases hi <;> try (exact no h)
    rename_i k i
    cases td <;> try (exact no h)
    simp only at h htd
    rcases cond_some h with ⟨h0, h⟩ | ⟨_, h⟩
    · rcases cond_some h with ⟨h1, h⟩ | ⟨_, h⟩
      · have i0 : 0 ≤ i := of_decide_eq_true h0
        have i1 : i < (b.size : Int) := of_decide_eq_true h1
        have hlt : i.toNat < b.size := by omega
        refine op_pure hexec (v' := .int .u8 ((b.data.getD i.toNat 0).toNat : Int)) ?_ (.int _ _) hr h hn
        have hb : b[i.toNat]? = some (b.data.getD i.toNat 0) := by
          have : b[i.toNat]? = some (b[i.toNat]'hlt) := by simp [hlt]
          rw [this]
          have h2 : i.toNat < b.data.size := hlt
          simp only [Array.getD, h2, dite_true]
          rfl
        simp [Instr.index, asIntOf, run_underlying htd.1, i0, hb]
      · exact no h
    · exact no h
  | @agg cs vs hl hf hv =>
    cases hi <;> try (exact no h)
    rename_i k i
    cases td <;> try (exact no h)
    rename_i n e
    simp only at h htd
    cases hte : c.tab e with
    | none => simp [hte] at h
    | some te =>
    simp only [hte] at h
    obtain ⟨q, _, hq, hiq, hk⟩ := selIdx_some n 0 h
    clear h
    subst hiq
    cases hp : partV c.tab e cs (q * te.size) with
    | none => simp [hp] at hk
    | some v =>
      simp only [hp] at hk
      obtain ⟨v', hrun, hvr⟩ := partV_ok (W := W) T (.agg hl hf hv) hp
      refine op_pure hexec ?_ hvr hr hk hn
      have hsz := run_size T hte W
      have hlt : (q : Int) < (n : Int) := by omega
      simp [Instr.index, asIntOf, run_underlying htd.1, hlt, hsz, hrun]
      intro hh; omega
  | _ => cases hi <;> exact no h
end
end Go.Vm
set_option linter.unusedVariables false
set_option linter.unusedSimpArgs false
namespace Go.Vm
open Go Go.RowKit
section
variable {P : Program} {R : Type} {c : Ctx} {o : Oper} {ρ : Ren} {X : Nat → Prop} {W0 : World} {N : Nat} {s : St} {a : Act} {W : World} {K : V → Mem → Nat → Option R} {r : R}
  {next : Act → World → Prop} {Q : Exit → Act → World → Prop}
theorem optI_ok (hr : Rel ρ X W0 N s a W) {x : Option Operand} : (optI s x = some none → x.map a.eval = none) ∧ ∀ n, optI s x = some (some n) → ∃ k, x.map a.eval = some (.int k n) := by
  cases x with
  | none => exact ⟨fun _ => rfl, fun n h => by simp [optI] at h⟩
  | some x =>
    have hx := hr.op x
    constructor
    · intro h; simp only [optI] at h; split at h <;> simp at h
    · intro n h
      simp only [optI] at h
      generalize opv s x = vx at h hx
      generalize he : a.eval x = ex at hx
      cases hx <;> try (exact no h)
      rename_i k m
      simp at h; subst h
      exact ⟨k, by simp [he]⟩
theorem sl_cut {id off len l h m sz : Nat} {A : Option Addr} {cap : Nat} (hv : VR ρ (.sl id off len) (.slice A len cap)) (hp : ∀ p, ρ id = some p → p.sz = sz) (h1 : l ≤ h) (h2 : h ≤ len) (h3 : h ≤ m) (h4 : m ≤ cap) :
    VR ρ (.sl id (off + l) (h - l)) (.slice (if m = l then A else A.map (·.add (l * sz))) (h - l) (m - l)) := by
  cases hv with
  | @sl _ _ _ _ q hq hn hl hr hm =>
    have hz := hp q hq
    by_cases e : m = l
    · subst e
      obtain rfl : h = m := by omega
      simp only [if_true, Nat.sub_self]
      exact .slz _ _ _
    · rw [if_neg e]
      simp only [Option.map_some, add_at]
      have := VR.sl (ρ := ρ) (id := id) (off := off + l) (len := h - l) (cap := m - l) hq (by omega) (by omega) (by omega) hm
      rwa [show q.base + (off + l) * q.sz = q.base + off * q.sz + l * sz by rw [Nat.add_mul, hz]; omega] at this
  | slz id off b =>
    obtain rfl : m = 0 := by omega
    obtain rfl : l = 0 := by omega
    obtain rfl : h = 0 := by omega
    simp only [if_true, Nat.sub_self]
    exact .slz _ _ _
theorem op_slice (T : TOK P c.tab) {t : TypeId} {x : Operand} {lo hi mx : Option Operand} (ho : o.op = .slice t x lo hi mx) (hr : Rel ρ X W0 N s a W)
    (h : aSlice c s t x lo hi mx K = some r) (hn : Goes o ρ X W0 N s a K r next) : o.wp P a W next Q := by
  unfold aSlice at h
  have hx := hr.op x
  have hexec : execOp a.eval o = (do pure (Next.value (← Instr.sliceAt t (a.eval x) (lo.map a.eval) (hi.map a.eval) (mx.map a.eval)))) := by simp [execOp, ho]
  generalize opv s x = vx at h hx
  generalize he : a.eval x = ex at hx hexec
  cases ht : c.tab t with
  | none =>
    rw [ht] at h
    cases hx <;> exact no h
  | some ti =>
  have htd := T.td t ti ht
  rw [ht] at h
  obtain ⟨td, tsz, tby, tag, tz, tf, te⟩ := ti
  have lo_ok := optI_ok hr (x := lo)
  have hi_ok := optI_ok hr (x := hi)
  have mx_ok := optI_ok hr (x := mx)
  have main : ∀ (id off len cap : Nat) (A : Option Addr), VR ρ (.sl id off len) (.slice A len cap) → len ≤ cap → ex = .slice A len cap → ∀ e, td = .sl e → ∀ te row, c.tab e = some te → s.mem id = some row → row.body.sz = te.size →
      ∀ l hh m : Nat, l ≤ hh → hh ≤ len → hh ≤ m → m ≤ cap → (Instr.sliceBounds true len cap (lo.map a.eval) (hi.map a.eval) (mx.map a.eval)).run P W = .ok (l, hh, m) W → K (.sl id (off + l) (hh - l)) s.mem s.nx = some r → o.wp P a W next Q := by
    intro id off len cap A hv hlc hex e htde te' row hte hm hsz l hh m h1 h2 h3 h4 hb hk
    subst htde
    simp only at htd
    refine op_pure hexec ?_ (sl_cut (sz := te'.size) hv (fun p hp => by rw [(hr.mem.dim id row p hm hp).2.1, hsz]) h1 h2 h3 h4) hr hk hn
    rw [hex]
    have hs := run_size T hte W
    simp [Instr.sliceAt, run_underlying htd.1, Instr.slice, hb, hs]
  have core : ∀ (id off len cap : Nat) (A : Option Addr), VR ρ (.sl id off len) (.slice A len cap) → len ≤ cap → ex = .slice A len cap → ∀ e, td = .sl e → (match c.tab e, s.mem id with
      | some te, some row => if row.body.sz = te.size then
        (match optI s lo, optI s hi, optI s mx with
        | some none, some none, some none => K (.sl id off len) s.mem s.nx
        | some (some l), some none, some none => cond (decide (0 ≤ l)) (cond (decide (l ≤ len)) (K (.sl id (off + l.toNat) (len - l.toNat)) s.mem s.nx) none) none
        | some none, some (some h), some none => cond (decide (0 ≤ h)) (cond (decide (h ≤ len)) (K (.sl id off h.toNat) s.mem s.nx) none) none
        | some (some l), some (some h), some none => cond (decide (0 ≤ l)) (cond (decide (l ≤ h)) (cond (decide (h ≤ len)) (K (.sl id (off + l.toNat) (h.toNat - l.toNat)) s.mem s.nx) none) none) none
        | some none, some (some h), some (some m) => cond (decide (0 ≤ h)) (cond (decide (h ≤ m)) (cond (decide (m ≤ len)) (K (.sl id off h.toNat) s.mem s.nx) none) none) none
        | _, _, _ => none) else none
      | _, _ => none) = some r → o.wp P a W next Q := by
    intro id off len cap A hv hlc hex e htde h
    cases hte : c.tab e with
    | none => simp [hte] at h
    | some te' =>
    cases hm : s.mem id with
    | none => simp [hte, hm] at h
    | some row =>
    simp only [hte, hm] at h
    by_cases hsz : row.body.sz = te'.size
    · rw [if_pos hsz] at h
      have M := main id off len cap A hv hlc hex e htde te' row hte hm hsz
      cases h1 : optI s lo with
      | none => simp [h1] at h
      | some ol =>
      cases h2 : optI s hi with
      | none => simp [h1, h2] at h
      | some oh =>
      cases h3 : optI s mx with
      | none => simp [h1, h2, h3] at h
      | some om =>
      rw [h1, h2, h3] at h
      cases ol with
      | none =>
        have e1 := lo_ok.1 h1
        cases oh with
        | none =>
          have e2 := hi_ok.1 h2
          cases om with
          | some m => exact no h
          | none =>
            have e3 := mx_ok.1 h3
            exact M 0 len cap (by omega) (by omega) hlc (by omega) (by rw [e1, e2, e3]; simp [Instr.sliceBounds]) (by simpa using h)
        | some hh =>
          obtain ⟨k2, e2⟩ := hi_ok.2 _ h2
          cases om with
          | none =>
            have e3 := mx_ok.1 h3
            rcases cond_some h with ⟨q1, h⟩ | ⟨_, h⟩
            · rcases cond_some h with ⟨q2, h⟩ | ⟨_, h⟩
              · have g1 : 0 ≤ hh := of_decide_eq_true q1
                have g2 : hh ≤ (len : Int) := of_decide_eq_true q2
                have g3 : hh ≤ (cap : Int) := by omega
                exact M 0 hh.toNat cap (by omega) (by omega) (by omega) (by omega) (by rw [e1, e2, e3]; simp [Instr.sliceBounds, Instr.sliceBound, asIntOf, g1, g3]) (by simpa using h)
              · exact no h
            · exact no h
          | some m =>
            obtain ⟨k3, e3⟩ := mx_ok.2 _ h3
            rcases cond_some h with ⟨q1, h⟩ | ⟨_, h⟩
            · rcases cond_some h with ⟨q2, h⟩ | ⟨_, h⟩
              · rcases cond_some h with ⟨q3, h⟩ | ⟨_, h⟩
                · have g1 : 0 ≤ hh := of_decide_eq_true q1
                  have g2 : hh ≤ m := of_decide_eq_true q2
                  have g3 : m ≤ (len : Int) := of_decide_eq_true q3
                  have g4 : m ≤ (cap : Int) := by omega
                  have g5 : (0 : Int) ≤ m := by omega
                  have g6 : hh ≤ max m 0 := by omega
                  exact M 0 hh.toNat m.toNat (by omega) (by omega) (by omega) (by omega) (by rw [e1, e2, e3]; simp [Instr.sliceBounds, Instr.sliceBound, asIntOf, g1, g2, g4, g5, g6]) (by simpa using h)
                · exact no h
              · exact no h
            · exact no h
      | some l =>
        obtain ⟨k1, e1⟩ := lo_ok.2 _ h1
        cases oh with
        | none =>
          have e2 := hi_ok.1 h2
          cases om with
          | some m => exact no h
          | none =>
            have e3 := mx_ok.1 h3
            rcases cond_some h with ⟨q1, h⟩ | ⟨_, h⟩
            · rcases cond_some h with ⟨q2, h⟩ | ⟨_, h⟩
              · have g1 : 0 ≤ l := of_decide_eq_true q1
                have g2 : l ≤ (len : Int) := of_decide_eq_true q2
                exact M l.toNat len cap (by omega) (by omega) hlc (by omega) (by rw [e1, e2, e3]; simp [Instr.sliceBounds, Instr.sliceBound, asIntOf, g1, g2]) (by simpa using h)
              · exact no h
            · exact no h
        | some hh =>
          obtain ⟨k2, e2⟩ := hi_ok.2 _ h2
          cases om with
          | some m => exact no h
          | none =>
            have e3 := mx_ok.1 h3
            rcases cond_some h with ⟨q1, h⟩ | ⟨_, h⟩
            · rcases cond_some h with ⟨q2, h⟩ | ⟨_, h⟩
              · rcases cond_some h with ⟨q3, h⟩ | ⟨_, h⟩
                · have g1 : 0 ≤ l := of_decide_eq_true q1
                  have g2 : l ≤ hh := of_decide_eq_true q2
                  have g3 : hh ≤ (len : Int) := of_decide_eq_true q3
                  have g4 : hh ≤ (cap : Int) := by omega
                  have g5 : (0 : Int) ≤ hh := by omega
                  have g6 : l ≤ max hh 0 := by omega
                  exact M l.toNat hh.toNat cap (by omega) (by omega) (by omega) (by omega) (by rw [e1, e2, e3]; simp [Instr.sliceBounds, Instr.sliceBound, asIntOf, g1, g2, g4, g5, g6]) (by simpa using h)
                · exact no h
              · exact no h
            · exact no h
    · rw [if_neg hsz] at h; exact no h
  cases hx with
  | @sl id off len cap p hp hn1 hl1 hr1 hm1 =>
    cases td <;> try (exact no h)
    rename_i e
    exact core id off len cap _ (.sl hp hn1 hl1 hr1 hm1) hl1 rfl e rfl h
  | slz id off b =>
    cases td <;> try (exact no h)
    rename_i e
    exact core id off 0 0 _ (.slz id off b) (Nat.le_refl _) rfl e rfl h
  | str b =>
    cases td <;> try (exact no h)
    simp only at h htd
    cases h1 : optI s lo with
    | none => simp [h1] at h
    | some ol =>
    cases h2 : optI s hi with
    | none => cases ol <;> simp [h1, h2] at h
    | some oh =>
    cases h3 : optI s mx with
    | none => cases ol <;> cases oh <;> simp [h1, h2, h3] at h
    | some om =>
    rw [h1, h2, h3] at h
    cases ol with
    | none => exact no h
    | some l =>
    cases oh with
    | none => exact no h
    | some hh =>
    cases om with
    | some m => exact no h
    | none =>
    obtain ⟨k1, e1⟩ := lo_ok.2 _ h1
    obtain ⟨k2, e2⟩ := hi_ok.2 _ h2
    have e3 := mx_ok.1 h3
    rcases cond_some h with ⟨q1, h⟩ | ⟨_, h⟩
    · rcases cond_some h with ⟨q2, h⟩ | ⟨_, h⟩
      · rcases cond_some h with ⟨q3, h⟩ | ⟨_, h⟩
        · have g1 : 0 ≤ l := of_decide_eq_true q1
          have g2 : l ≤ hh := of_decide_eq_true q2
          have g3 : hh ≤ (b.size : Int) := of_decide_eq_true q3
          have g5 : (0 : Int) ≤ hh := by omega
          have g6 : l ≤ max hh 0 := by omega
          refine op_pure hexec (v' := .string (b.extract l.toNat hh.toNat)) ?_ (.str _) hr h hn
          rw [e1, e2, e3]
          simp [Instr.sliceAt, run_underlying htd.1, Instr.slice, Instr.sliceBounds, Instr.sliceBound, asIntOf, g1, g2, g3, g5, g6]
        · exact no h
      · exact no h
    · exact no h
  | _ => exact no h
end
end Go.Vm
set_option linter.unusedVariables false
set_option linter.unusedSimpArgs false
namespace Go.Vm
open Go Go.RowKit
/-- Cells of the machine and cells of memory. -/
structure AggR (ρ : Ren) (cs : List V) (vs : Array Value) : Prop where
  size : vs.size = cs.length
  leaf : ∀ c ∈ cs, leaf c = true
  cell : ∀ (i : Nat) (c : V) (v : Value), cs[i]? = some c → vs[i]? = some v → VR ρ c v
theorem AggR.set {ρ : Ren} {cs : List V} {vs : Array Value} (h : AggR ρ cs vs) {k : Nat} {c : V} {v : Value} (hv : VR ρ c v) (hl : Vm.leaf c = true) : AggR ρ (cs.set k c) (vs.setIfInBounds k v) := by
  refine ⟨by simp [h.size], ?_, ?_⟩
  · intro x hx
    rcases List.mem_or_eq_of_mem_set hx with hx | hx
    · exact h.leaf x hx
    · rw [hx]; exact hl
  · intro i x u hx hu
    rw [List.getElem?_set] at hx
    rw [Array.getElem?_setIfInBounds] at hu
    by_cases e : k = i
    · rw [if_pos e] at hx hu
      split at hx
      · split at hu
        · cases hx; cases hu; exact hv
        · cases hu
      · cases hx
    · rw [if_neg e] at hx hu; exact h.cell i x u hx hu
theorem fill1 {ρ : Ren} (off : Nat) : ∀ (cs : List V) (l : List Value) (j0 : Nat) (cells : List V) (A : Array Value), AggR ρ cells A → l.length = cs.length → (∀ c ∈ cs, leaf c = true) →
    (∀ (k : Nat) (y : V) (u : Value), cs[k]? = some y → l[k]? = some u → VR ρ y u) →
    AggR ρ (fillV cells (off + j0) cs) ((l.zipIdx j0).foldl (fun cs p => cs.setIfInBounds (off + p.2) p.1) A)
  | [], [], _, _, _, h, _, _, _ => by simpa [fillV] using h
  | [], _ :: _, _, _, _, _, hl, _, _ => by simp at hl
  | _ :: _, [], _, _, _, _, hl, _, _ => by simp at hl
  | c :: cs, v :: l, j0, cells, A, h, hl, hf, hv => by
    have h1 := h.set (k := off + j0) (hv 0 c v rfl rfl) (hf c (by simp))
    have := fill1 off cs l (j0 + 1) _ _ h1 (by simpa using hl) (fun x hx => hf x (by simp [hx])) (fun k y u hy hu => hv (k + 1) y u hy hu)
    simpa [fillV, Nat.add_assoc] using this
theorem fill_ok {ρ : Ren} {pl pl' : Nat → Option (Nat × Nat)} (hpl : ∀ i x, pl i = some x → pl' i = some x) : ∀ (parts : List (Nat × V)) (parts' : List (Nat × Value)) (cells cs : List V) (A : Array Value), AggR ρ cells A → parts'.length = parts.length →
    (∀ (k i : Nat) (y : V) (i' : Nat) (u : Value), parts[k]? = some (i, y) → parts'[k]? = some (i', u) → i' = i ∧ VR ρ y u) → buildV pl cells parts = some cs → ∃ A', Instr.fill pl' A parts' = some A' ∧ AggR ρ cs A'
  | [], [], _, _, A, h, _, _, hb => by simp [buildV] at hb; subst hb; exact ⟨A, rfl, h⟩
  | [], _ :: _, _, _, _, _, hl, _, _ => by simp at hl
  | _ :: _, [], _, _, _, _, hl, _, _ => by simp at hl
  | (i, y) :: parts, (i', u) :: parts', cells, cs, A, h, hl, hp, hb => by
    obtain ⟨rfl, hv⟩ := hp 0 i y i' u rfl rfl
    simp only [buildV] at hb
    cases hpi : pl i' with
    | none => simp [hpi] at hb
    | some os =>
    obtain ⟨off, size⟩ := os
    cases hc : cellsV y with
    | none => simp [hpi, hc] at hb
    | some ds =>
    simp only [hpi, hc] at hb
    by_cases hcond : ds.length = size ∧ off + ds.length ≤ cells.length
    · rw [if_pos hcond] at hb
      obtain ⟨h1, h2, h3⟩ := cellsV_ok hv hc
      have h4 := fill1 (ρ := ρ) off ds u.cells.toList 0 cells A h (by simpa using h1) h2 (fun k z q hz hq => h3 k z q hz (by simpa using hq))
      obtain ⟨A', hA, hR⟩ := fill_ok hpl parts parts' _ cs _ h4 (by simpa using hl) (fun k j z j' q hz hq => hp (k + 1) j z j' q hz hq) hb
      refine ⟨A', ?_, hR⟩
      simp only [Instr.fill, hpl _ _ hpi]
      have e1 : u.cells.size = size := by omega
      have e2 : ¬ (off + u.cells.size > A.size) := by rw [h.size]; omega
      have e3 : (u.cells.size ≠ size || decide (off + u.cells.size > A.size)) = false := by simp [e1]; rw [h.size]; omega
      rw [← hA]
      simp only [e1] at e3 e2 ⊢
      have e4 : (u.cells.toList.zipIdx 0).foldl (fun cs p => cs.setIfInBounds (off + p.2) p.1) A = u.cells.zipIdx.foldl (fun cs x => match x with | (c, j) => cs.setIfInBounds (off + j) c) A := by
        rw [← Array.foldl_toList, Array.toList_zipIdx]
      rw [e4]
      simp [e2]
    · rw [if_neg hcond] at hb; exact no hb
theorem AggR.zero {P : Program} {tab : Tab} (T : TOK P tab) {t : TypeId} {ti : TInfo} (ht : tab t = some ti) (ρ : Ren) : ∃ i z, P.info? t = some i ∧ i.size = ti.size ∧ i.bytes = ti.bytes ∧ i.zero = some z ∧ ti.zero.length = ti.size ∧ AggR ρ ti.zero z.cells := by
  obtain ⟨i, z, hi, hs, hb, hz, hzs, hl, hv, hlf⟩ := T.info t ti ht
  exact ⟨i, z, hi, hs, hb, hz, hl, by omega, hlf, fun k c v hc hu => (hv k c v hc hu).ext (Ext.none ρ)⟩
theorem mapM_info {P : Program} : ∀ (fs : List Field), (∀ f ∈ fs, (P.info? f.type).isSome = true) → ∃ places, fs.mapM (fun f => (P.info? f.type).map fun i => (f.offset, i.size)) = some places ∧ places.length = fs.length ∧
    ∀ (k : Nat) (f : Field) (i : TypeInfo), fs[k]? = some f → P.info? f.type = some i → places[k]? = some (f.offset, i.size)
  | [], _ => ⟨[], rfl, rfl, fun k f i h => by simp at h⟩
  | f :: fs, h => by
    obtain ⟨i, hi⟩ := Option.isSome_iff_exists.1 (h f (by simp))
    obtain ⟨places, hm, hl, hk⟩ := mapM_info fs (fun g hg => h g (by simp [hg]))
    refine ⟨(f.offset, i.size) :: places, by simp [List.mapM_cons, hi, hm], by simp [hl], ?_⟩
    intro k g j hg hj
    match k with
    | 0 => simp at hg; subst hg; rw [hi] at hj; cases hj; rfl
    | k + 1 => simp at hg; simpa using hk k g j hg hj
section
variable {P : Program} {R : Type} {c : Ctx} {o : Oper} {ρ : Ren} {X : Nat → Prop} {W0 : World} {N : Nat} {s : St} {a : Act} {W : World} {K : V → Mem → Nat → Option R} {r : R}
  {next : Act → World → Prop} {Q : Exit → Act → World → Prop}
theorem parts_ok (hr : Rel ρ X W0 N s a W) (ps : List (Nat × Operand)) : (∀ (k i : Nat) (y : V) (i' : Nat) (u : Value), (ps.map fun p => (p.1, opv s p.2))[k]? = some (i, y) → (ps.map fun p => (p.1, a.eval p.2))[k]? = some (i', u) → i' = i ∧ VR ρ y u) := by
  intro k i y i' u h1 h2
  rw [List.getElem?_map] at h1 h2
  cases hp : ps[k]? with
  | none => simp [hp] at h1
  | some p =>
    simp [hp] at h1 h2
    obtain ⟨rfl, rfl⟩ := h1
    obtain ⟨rfl, rfl⟩ := h2
    exact ⟨rfl, hr.op p.2⟩
theorem op_build (T : TOK P c.tab) {t : TypeId} {ps : Array (Nat × Operand)} (ho : o.op = .build t ps) (hr : Rel ρ X W0 N s a W)
    (h : aBuild c s t ps K = some r) (hn : Goes o ρ X W0 N s a K r next) : o.wp P a W next Q := by
  unfold aBuild at h
  have hexec : execOp a.eval o = (do pure (Next.value (← Instr.build t (ps.map fun (i, x) => (i, a.eval x))))) := by simp [execOp, ho]
  cases ht : c.tab t with
  | none => rw [ht] at h; exact no h
  | some ti =>
  have htd := T.td t ti ht
  obtain ⟨it, z, hi, hsz, hby, hz, hzl, hzr⟩ := AggR.zero T ht ρ
  rw [ht] at h
  obtain ⟨td, tsz, tby, tag, tz, tf, teq⟩ := ti
  have hlist : (ps.map fun (i, x) => (i, a.eval x)).toList = ps.toList.map fun p => (p.1, a.eval p.2) := by simp
  cases td <;> try (exact no h)
  · rename_i len e
    simp only at h htd
    cases hte : c.tab e with
    | none => simp [hte] at h
    | some te =>
    simp only [hte] at h
    cases hb : buildV (fun i => some (i * te.size, te.size)) tz (ps.toList.map fun p => (p.1, opv s p.2)) with
    | none => simp [hb] at h
    | some cs =>
    simp only [hb] at h
    obtain ⟨A', hA, hR⟩ := fill_ok (ρ := ρ) (pl' := fun i => some (i * te.size, te.size)) (fun i x hx => hx) _ (ps.toList.map fun p => (p.1, a.eval p.2)) tz cs z.cells hzr (by simp) (parts_ok hr ps.toList) hb
    obtain ⟨ie, ze, hie, hise, _⟩ := AggR.zero T hte ρ
    refine op_pure hexec (v' := .agg A') (run_build W t _ A' ?_) (.agg hR.size hR.leaf hR.cell) hr h hn
    unfold Program.built
    simp only [hi, htd.1, hz, hie, hise, hlist, hA]
  · rename_i fs
    simp only at h htd
    obtain ⟨_, fields, hu, hfs, hsome, hfl⟩ := htd
    obtain ⟨places, hm, hpl, hpk⟩ := mapM_info fields.toList hsome
    generalize hplv : (fun i => match fs[i]? with | some (off, e) => (match c.tab e with | some te => some (off, te.size) | none => none) | none => none : Nat → Option (Nat × Nat)) = plv at h
    cases hb : buildV plv tz (ps.toList.map fun p => (p.1, opv s p.2)) with
    | none => simp [hb] at h
    | some cs =>
    simp only [hb] at h
    obtain ⟨A', hA, hR⟩ := fill_ok (ρ := ρ) (pl' := fun i => places.toArray[i]?) (by
      intro i x hx
      rw [← hplv] at hx
      simp only at hx
      cases hfi : fs[i]? with
      | none => simp [hfi] at hx
      | some oe =>
      obtain ⟨off, e⟩ := oe
      cases hte : c.tab e with
      | none => simp [hfi, hte] at hx
      | some te =>
      simp only [hfi, hte, Option.some.injEq] at hx
      subst hx
      obtain ⟨fl, hfk, hfo, hft⟩ := hfl i off e hfi
      obtain ⟨ie, ze, hie, hise, _⟩ := AggR.zero T hte ρ
      have := hpk i fl ie (by simpa using hfk) (by rw [hft]; exact hie)
      simpa [hfo, hise] using this) _ (ps.toList.map fun p => (p.1, a.eval p.2)) tz cs z.cells hzr (by simp) (parts_ok hr ps.toList) hb
    refine op_pure hexec (v' := .agg A') (run_build W t _ A' ?_) (.agg hR.size hR.leaf hR.cell) hr h hn
    unfold Program.built
    simp only [hi, hu, hz, hm, hlist, hA]
theorem decCol_ok (f : Fd) : ∀ (vs : List V) (xs : List (FdT f)), decCol f vs = some xs → xs.length = vs.length ∧ ∀ i, i < vs.length → encF f (xs.getD i (dfF f)) = vs.getD i .un ∧ leaf (vs.getD i .un) = true
  | [], xs, h => by simp [decCol] at h; subst h; exact ⟨rfl, fun i hi => by simp at hi⟩
  | v :: vs, xs, h => by
    simp only [decCol] at h
    cases h1 : decF f v with
    | none => simp [h1] at h
    | some x =>
    cases h2 : decCol f vs with
    | none => simp [h1, h2] at h
    | some ys =>
    simp [h1, h2] at h
    subst h
    obtain ⟨hl, hg⟩ := decCol_ok f vs ys h2
    refine ⟨by simp [hl], fun i hi => ?_⟩
    match i with
    | 0 => exact ⟨by simpa [List.getD] using decF_enc h1, by simpa [List.getD] using decF_leaf h1⟩
    | i + 1 => simpa [List.getD] using hg i (by simpa using hi)
end
end Go.Vm
set_option linter.unusedVariables false
set_option linter.unusedSimpArgs false
namespace Go.Vm
open Go Go.RowKit
theorem decR_leaf : ∀ {fs : List Fd} {vs : List V} {x : Rec fs}, decR fs vs = some x → vs.length = fs.length ∧ ∀ v ∈ vs, leaf v = true
  | [], [], _, _ => ⟨rfl, fun v h => by cases h⟩
  | [], _ :: _, _, h => by simp [decR] at h
  | _ :: _, [], _, h => by simp [decR] at h
  | f :: fs, v :: vs, x, h => by
    simp only [decR] at h
    cases h1 : decF f v with
    | none => simp [h1] at h
    | some y =>
    cases h2 : decR fs vs with
    | none => simp [h1, h2] at h
    | some r =>
    obtain ⟨hl, hv⟩ := decR_leaf h2
    exact ⟨by simp [hl], fun u hu => by rcases List.mem_cons.1 hu with rfl | hu; exact decF_leaf h1; exact hv u hu⟩
theorem decRecs_ok (fs : List Fd) : ∀ (n : Nat) (vs : List V) (xs : List (Rec fs)), decRecs fs n vs = some xs → xs.length = n ∧ vs.length = n * fs.length ∧
    ∀ i f, i < n → f < fs.length → (encR fs (xs.getD i (dfR fs))).getD f .un = vs.getD (i * fs.length + f) .un ∧ leaf (vs.getD (i * fs.length + f) .un) = true
  | 0, [], xs, h => by simp [decRecs] at h; subst h; exact ⟨rfl, by simp, fun i f hi => by omega⟩
  | 0, _ :: _, xs, h => by simp [decRecs] at h
  | n + 1, vs, xs, h => by
    simp only [decRecs] at h
    cases h1 : decR fs (vs.take fs.length) with
    | none => simp [h1] at h
    | some x =>
    cases h2 : decRecs fs n (vs.drop fs.length) with
    | none => simp [h1, h2] at h
    | some ys =>
    simp [h1, h2] at h
    subst h
    obtain ⟨hl, hv⟩ := decR_leaf h1
    obtain ⟨hl2, hl3, hg⟩ := decRecs_ok fs n _ ys h2
    have hlen : fs.length ≤ vs.length := by rw [List.length_take] at hl; omega
    refine ⟨by simp [hl2], ?_, ?_⟩
    · rw [List.length_drop] at hl3; rw [Nat.add_mul, Nat.one_mul]; omega
    · intro i f hi hf
      match i with
      | 0 =>
        have he := decR_enc h1
        have e1 : ((x :: ys).getD 0 (dfR fs)) = x := rfl
        have e2 : (vs.take fs.length).getD f .un = vs.getD f .un := by simp [List.getD, List.getElem?_take, hf]
        rw [e1, he, Nat.zero_mul, Nat.zero_add, e2]
        refine ⟨rfl, ?_⟩
        rw [← e2]
        have : f < (vs.take fs.length).length := by rw [hl]; exact hf
        have e3 : (vs.take fs.length).getD f .un = (vs.take fs.length)[f] := by simp only [List.getD, List.getElem?_eq_getElem this]; rfl
        rw [e3]; exact hv _ (List.getElem_mem this)
      | i + 1 =>
        obtain ⟨g1, g2⟩ := hg i f (by omega) hf
        have e1 : ((x :: ys).getD (i + 1) (dfR fs)) = ys.getD i (dfR fs) := rfl
        have e2 : (vs.drop fs.length).getD (i * fs.length + f) .un = vs.getD ((i + 1) * fs.length + f) .un := by
          simp only [List.getD, List.getElem?_drop]
          rw [show fs.length + (i * fs.length + f) = (i + 1) * fs.length + f by rw [Nat.add_mul, Nat.one_mul]; omega]
        rw [e1, ← e2]
        exact ⟨g1, g2⟩
theorem mkBody_ok {fs : List Fd} {n : Nat} {cs : List V} {b : Body} (h : mkBody fs n cs = some b) (hn : b.n = n) : b.isOne = false ∧ cs.length = n * b.sz ∧ ∀ i f, i < n → f < b.sz → b.cell i f = cs.getD (i * b.sz + f) .un ∧ leaf (b.cell i f) = true := by
  have recs : ∀ fs : List Fd, (decRecs fs n cs).map (Body.recs fs) = some b → b.isOne = false ∧ cs.length = n * b.sz ∧ ∀ i f, i < n → f < b.sz → b.cell i f = cs.getD (i * b.sz + f) .un ∧ leaf (b.cell i f) = true := by
    intro fs h
    cases hd : decRecs fs n cs with
    | none => simp [hd] at h
    | some xs =>
      simp [hd] at h; subst h
      obtain ⟨h1, h2, h3⟩ := decRecs_ok fs n cs xs hd
      refine ⟨rfl, h2, fun i f hi hf => ?_⟩
      obtain ⟨g1, g2⟩ := h3 i f hi hf
      exact ⟨g1, by rw [show (Body.recs fs xs).cell i f = (encR fs (xs.getD i (dfR fs))).getD f .un from rfl, g1]; exact g2⟩
  unfold mkBody at h
  split at h
  · rename_i f
    cases hd : decCol f cs with
    | none => simp [hd] at h
    | some xs =>
      simp [hd] at h; subst h
      obtain ⟨h1, h2⟩ := decCol_ok f cs xs hd
      simp only [Body.n] at hn
      refine ⟨rfl, by simp [Body.sz]; omega, fun i g hi hg => ?_⟩
      simp only [Body.sz] at hg ⊢
      obtain rfl : g = 0 := by omega
      obtain ⟨g1, g2⟩ := h2 i (by omega)
      simp only [Body.cell, Nat.mul_one, Nat.add_zero]
      exact ⟨g1, by rw [g1]; exact g2⟩
  · exact recs fs h
theorem flat_get (l : List V) (hl : 0 < l.length) : ∀ (n k : Nat), k < n * l.length → ((List.replicate n l).flatten)[k]? = l[k % l.length]?
  | 0, k, h => by omega
  | n + 1, k, h => by
    rw [List.replicate_succ, List.flatten_cons]
    by_cases hk : k < l.length
    · rw [List.getElem?_append_left hk, Nat.mod_eq_of_lt hk]
    · have h2 : k - l.length < n * l.length := by rw [Nat.add_mul, Nat.one_mul] at h; omega
      rw [List.getElem?_append_right (by omega), flat_get l hl n _ h2]
      congr 1
      rw [← Nat.mod_eq_sub_mod (by omega)]
theorem flat_len (l : List V) (n : Nat) : ((List.replicate n l).flatten).length = n * l.length := by simp
theorem AggR.rep {ρ : Ren} {cs : List V} {z : Value} (h : AggR ρ cs z.cells) (hl : 0 < cs.length) (n : Nat) : AggR ρ ((List.replicate n cs).flatten) (madeCells z.cells (n * cs.length)) := by
  refine ⟨by simp [madeCells], ?_, ?_⟩
  · intro x hx
    obtain ⟨l, hl1, hl2⟩ := List.mem_flatten.1 hx
    rw [List.eq_of_mem_replicate hl1] at hl2
    exact h.leaf x hl2
  · intro i x v hx hv
    have hi : i < n * cs.length := by
      have := (List.getElem?_eq_some_iff.1 hx).1; rwa [flat_len] at this
    rw [flat_get cs hl n i hi] at hx
    have hm : i % z.cells.size < z.cells.size := Nat.mod_lt _ (by rw [h.size]; exact hl)
    have : (madeCells z.cells (n * cs.length))[i]? = some (z.cells[i % z.cells.size]!) := by
      simp [madeCells, hi]
    rw [this] at hv
    cases hv
    refine h.cell _ x _ hx ?_
    rw [← h.size]
    simp [hm]
section
variable {P : Program} {R : Type} {c : Ctx} {o : Oper} {ρ : Ren} {X : Nat → Prop} {W0 : World} {N : Nat} {s : St} {a : Act} {W : World} {K : V → Mem → Nat → Option R} {r : R}
  {next : Act → World → Prop} {Q : Exit → Act → World → Prop}
theorem VR.new {ρ : Ren} {id blk sz n room : Nat} (hr : n ≤ room) (hm : room ≤ maxLen) : VR (updR ρ id ⟨blk, 0, sz, n, room⟩) (.sl id 0 n) (.slice (some ⟨blk, 0, none⟩) n room) := by
  have := VR.sl (ρ := updR ρ id ⟨blk, 0, sz, n, room⟩) (id := id) (off := 0) (len := n) (cap := room) (p := ⟨blk, 0, sz, n, room⟩) (by simp [updR]) (by simp) hr (by simp) hm
  simpa using this
theorem op_buildSlice (T : TOK P c.tab) {t : TypeId} {len : Nat} {ps : Array (Nat × Operand)} (ho : o.op = .buildSlice t len ps) (hr : Rel ρ X W0 N s a W)
    (h : aBuildSlice c s t len ps K = some r) (hn : Goes o ρ X W0 N s a K r next) : o.wp P a W next Q := by
  unfold aBuildSlice at h
  have hexec : execOp a.eval o = (do pure (Next.value (← Instr.buildSlice t len (ps.map fun (i, x) => (i, a.eval x))))) := by simp [execOp, ho]
  cases ht : c.tab t with
  | none => rw [ht] at h; exact no h
  | some ti =>
  have htd := T.td t ti ht
  rw [ht] at h
  obtain ⟨td, tsz, tby, tag, tz, tf, teq⟩ := ti
  cases td <;> try (exact no h)
  rename_i e
  simp only at h htd
  cases hte : c.tab e with
  | none => simp [hte] at h
  | some te =>
  simp only [hte] at h
  cases hb : buildV (fun i => some (i * te.size, te.size)) ((List.replicate len te.zero).flatten) (ps.toList.map fun p => (p.1, opv s p.2)) with
  | none => simp [hb] at h
  | some cs =>
  simp only [hb] at h
  cases hmk : mkBody te.fds len cs with
  | none => simp [hmk] at h
  | some b =>
  simp only [hmk] at h
  by_cases hc : 0 < te.size ∧ b.n = len ∧ b.sz = te.size ∧ len * te.size ≤ 1024
  · rw [if_pos hc] at h
    obtain ⟨h0, hbn, hbs, hlim⟩ := hc
    obtain ⟨i, z, hi, hsz, hby, hz, hzl, hzr⟩ := AggR.zero T hte ρ
    have hrep := hzr.rep (by omega) len
    rw [hzl] at hrep
    have hlist : (ps.map fun (i, x) => (i, a.eval x)).toList = ps.toList.map fun p => (p.1, a.eval p.2) := by simp
    obtain ⟨A', hA, hR⟩ := fill_ok (ρ := ρ) (pl' := fun i => some (i * te.size, te.size)) (fun i x hx => hx) _ (ps.toList.map fun p => (p.1, a.eval p.2)) _ cs _ hrep (by simp) (parts_ok hr ps.toList) hb
    obtain ⟨_, hcl, hcell⟩ := mkBody_ok hmk hbn
    obtain ⟨he, hrel⟩ := new_row (ty := e) hr (b := b) (cs := A') (room := len) (by omega) (by rw [hR.size, hcl]; exact Nat.le_refl _) (by
      intro i f hi hf
      obtain ⟨g1, g2⟩ := hcell i f (by omega) hf
      have hlt : i * b.sz + f < cs.length := by
        have : (i + 1) * b.sz ≤ len * b.sz := Nat.mul_le_mul_right _ (by omega)
        rw [Nat.add_mul, Nat.one_mul] at this; omega
      have e1 : cs[i * b.sz + f]? = some (b.cell i f) := by rw [g1]; simp [List.getD, hlt]
      have hlt2 : i * b.sz + f < A'.size := by rw [hR.size]; exact hlt
      exact ⟨g2, A'[i * b.sz + f], by simp [hlt2], hR.cell _ _ _ e1 (by simp [hlt2])⟩)
    have hmax : len ≤ maxLen := by
      have : len * 1 ≤ len * te.size := Nat.mul_le_mul_left _ h0
      unfold maxLen; omega
    refine wp_v hexec (v := .slice (some ⟨W.heap.size, 0, none⟩) len len) (W' := W.alloc (.cells A' e)) ?_ (hn _ _ _ _ _ _ he ?_ hrel h)
    · have hs := run_size T hte W
      have hze : (zeroValue e).run P W = .ok z W := by simp [zeroValue, typeInfo, hi, hz]
      have hlim2 : ¬ (16777216 < len * te.size) := by omega
      have hparts : (ps.map fun (i, x) => (i, a.eval x)).toList = ps.toList.map fun p => (p.1, a.eval p.2) := hlist
      by_cases hz0 : len * te.size = 0
      · have hm : madeCells z.cells (len * te.size) = #[] := by rw [hz0]; simp [madeCells, Array.range_zero']
        rw [hm, ← hparts] at hA
        have hm2 : ((Array.range (len * te.size)).map ((#[] : Array Value)[· % (#[] : Array Value).size]!)) = #[] := by rw [hz0]; simp [Array.range_zero']
        simp only [Instr.buildSlice, Sem.run_bind, run_underlying htd.1, Result.andThen_ok, hs, hz0]
        simp only [Sem.run_ite, Sem.run_bind, Sem.run_pure, Result.andThen_ok, if_true, show ¬ (0 > 2 ^ 24) by omega, if_false]
        rw [hz0] at hm2
        rw [hm2, hA]
        simp [newRow, run_newObj_alloc]
      · rw [show madeCells z.cells (len * te.size) = (Array.range (len * te.size)).map (z.cells[· % z.cells.size]!) from rfl, ← hparts] at hA
        simp only [Instr.buildSlice, Sem.run_bind, run_underlying htd.1, Result.andThen_ok, hs]
        simp only [Sem.run_ite, Sem.run_bind, Sem.run_pure, Result.andThen_ok, hz0, if_false, show ¬ (len * te.size > 2 ^ 24) by omega, hze]
        rw [hA]
        simp [newRow, run_newObj_alloc]
    · rw [hbn]; exact VR.new (Nat.le_refl _) hmax
  · rw [if_neg hc] at h; exact no h
end
end Go.Vm
set_option linter.unusedVariables false
set_option linter.unusedSimpArgs false
namespace Go.Vm
open Go Go.RowKit
theorem zeroBody_ok {fs : List Fd} {z : List V} {n : Nat} {b : Body} (h : zeroBody fs z n = some b) : b.n = n ∧ b.sz = fs.length ∧ z.length = fs.length ∧ b.isOne = false ∧ ∀ i f, i < n → f < b.sz → b.cell i f = z.getD f .un ∧ leaf (b.cell i f) = true := by
  have recs : ∀ (fs : List Fd) (z : List V), ((decR fs z).map fun x => Body.recs fs (List.replicate n x)) = some b → b.n = n ∧ b.sz = fs.length ∧ z.length = fs.length ∧ b.isOne = false ∧ ∀ i f, i < n → f < b.sz → b.cell i f = z.getD f .un ∧ leaf (b.cell i f) = true := by
    intro fs z h
    cases hd : decR fs z with
    | none => simp [hd] at h
    | some x =>
      simp [hd] at h; subst h
      obtain ⟨hl, hv⟩ := decR_leaf hd
      refine ⟨by simp [Body.n], rfl, hl, rfl, fun i f hi hf => ?_⟩
      simp only [Body.sz] at hf
      have e1 : (List.replicate n x).getD i (dfR fs) = x := by simp [List.getD, hi]
      have e2 : (Body.recs fs (List.replicate n x)).cell i f = z.getD f .un := by simp only [Body.cell, e1, decR_enc hd]
      refine ⟨e2, ?_⟩
      rw [e2]
      have : f < z.length := by omega
      have e3 : z.getD f .un = z[f] := by simp only [List.getD, List.getElem?_eq_getElem this]; rfl
      rw [e3]; exact hv _ (List.getElem_mem this)
  unfold zeroBody at h
  split at h
  · rename_i f v
    cases hd : decF f v with
    | none => simp [hd] at h
    | some x =>
      simp [hd] at h; subst h
      refine ⟨by simp [Body.n], rfl, rfl, rfl, fun i g hi hg => ?_⟩
      simp only [Body.sz] at hg
      obtain rfl : g = 0 := by omega
      have e1 : (List.replicate n x).getD i (dfF f) = x := by simp [List.getD, hi]
      simp only [Body.cell, e1, decF_enc hd]
      exact ⟨rfl, decF_leaf hd⟩
  · exact recs fs z h
theorem sub_ok (b : Body) (off len : Nat) (h1 : b.isOne = false) (h : off + len ≤ b.n) : (b.sub off len).n = len ∧ (b.sub off len).sz = b.sz ∧ (b.sub off len).isOne = false ∧ ∀ i f, i < len → (b.sub off len).cell i f = b.cell (off + i) f := by
  cases b with
  | one cs => simp [Body.isOne] at h1
  | col fd xs =>
    simp only [Body.n] at h
    refine ⟨by simp [Body.sub, Body.n]; omega, rfl, rfl, fun i f hi => ?_⟩
    simp only [Body.sub, Body.cell]
    simp [List.getD, List.getElem?_take, List.getElem?_drop, hi]
  | recs fs xs =>
    simp only [Body.n] at h
    refine ⟨by simp [Body.sub, Body.n]; omega, rfl, rfl, fun i f hi => ?_⟩
    simp only [Body.sub, Body.cell]
    simp [List.getD, List.getElem?_take, List.getElem?_drop, hi]
theorem app_ok {b1 b2 b : Body} (h : b1.app b2 = some b) : b.n = b1.n + b2.n ∧ b.sz = b1.sz ∧ b.sz = b2.sz ∧ ∀ i f, b.cell i f = if i < b1.n then b1.cell i f else b2.cell (i - b1.n) f := by
  cases b1 with
  | one cs => simp [Body.app] at h
  | col fd xs =>
    cases b2 with
    | col gd ys =>
      simp only [Body.app] at h
      by_cases e : fd = gd
      · subst e
        simp at h; subst h
        refine ⟨by simp [Body.n], rfl, rfl, fun i f => ?_⟩
        by_cases hi : i < (Body.col fd xs).n
        · rw [if_pos hi]
          show encF fd ((xs ++ ys).getD i (dfF fd)) = encF fd (xs.getD i (dfF fd))
          simp [List.getD, List.getElem?_append_left (show i < xs.length from hi)]
        · rw [if_neg hi]
          show encF fd ((xs ++ ys).getD i (dfF fd)) = encF fd (ys.getD (i - xs.length) (dfF fd))
          simp [List.getD, List.getElem?_append_right (show xs.length ≤ i from Nat.le_of_not_lt hi)]
      · simp [e] at h
    | _ => simp [Body.app] at h
  | recs fs xs =>
    cases b2 with
    | recs gs ys =>
      simp only [Body.app] at h
      by_cases e : fs = gs
      · subst e
        simp at h; subst h
        refine ⟨by simp [Body.n], rfl, rfl, fun i f => ?_⟩
        by_cases hi : i < (Body.recs fs xs).n
        · rw [if_pos hi]
          show (encR fs ((xs ++ ys).getD i (dfR fs))).getD f .un = (encR fs (xs.getD i (dfR fs))).getD f .un
          simp [List.getD, List.getElem?_append_left (show i < xs.length from hi)]
        · rw [if_neg hi]
          show (encR fs ((xs ++ ys).getD i (dfR fs))).getD f .un = (encR fs (ys.getD (i - xs.length) (dfR fs))).getD f .un
          simp [List.getD, List.getElem?_append_right (show xs.length ≤ i from Nat.le_of_not_lt hi)]
      · simp [e] at h
    | _ => simp [Body.app] at h
section
variable {P : Program} {R : Type} {c : Ctx} {o : Oper} {ρ : Ren} {X : Nat → Prop} {W0 : World} {N : Nat} {s : St} {a : Act} {W : World} {K : V → Mem → Nat → Option R} {r : R}
  {next : Act → World → Prop} {Q : Exit → Act → World → Prop}
theorem op_makeSlice (T : TOK P c.tab) {t : TypeId} {l cp : Operand} (ho : o.op = .makeSlice t l cp) (hr : Rel ρ X W0 N s a W)
    (h : aMakeSlice c s t l cp K = some r) (hn : Goes o ρ X W0 N s a K r next) : o.wp P a W next Q := by
  unfold aMakeSlice at h
  have hexec : execOp a.eval o = (do pure (Next.value (← Instr.makeSlice t (a.eval l) (a.eval cp)))) := by simp [execOp, ho]
  cases ht : c.tab t with
  | none => rw [ht] at h; exact no h
  | some ti =>
  have htd := T.td t ti ht
  rw [ht] at h
  obtain ⟨td, tsz, tby, tag, tz, tf, teq⟩ := ti
  cases td <;> try (exact no h)
  rename_i e
  simp only at h htd
  cases hte : c.tab e with
  | none => simp [hte] at h
  | some te =>
  simp only [hte] at h
  have h1 := hr.op l
  have h2 := hr.op cp
  generalize opv s l = v1 at h h1
  generalize opv s cp = v2 at h h2
  generalize he1 : a.eval l = e1 at h1 hexec
  generalize he2 : a.eval cp = e2 at h2 hexec
  cases h1 <;> try (cases h2 <;> exact no h)
  rename_i k n
  cases k <;> try (cases h2 <;> exact no h)
  cases h2 <;> try (exact no h)
  rename_i k m
  cases k <;> try (exact no h)
  rcases cond_some h with ⟨q1, h⟩ | ⟨_, h⟩
  · rcases cond_some h with ⟨q2, h⟩ | ⟨_, h⟩
    · rcases cond_some h with ⟨q3, h⟩ | ⟨_, h⟩
      · have hk := h
        clear h
        obtain rfl : n = m := by simpa using q1
        have g2 : 0 ≤ n := of_decide_eq_true q2
        have g3 : n * te.bytes ≤ 140737488355328 := of_decide_eq_true q3
        cases hz : zeroBody te.fds te.zero n.toNat with
        | none => simp [hz] at hk
        | some b =>
        simp only [hz] at hk
        by_cases hc : 0 < te.size ∧ te.fds.length = te.size
        · rw [if_pos hc] at hk
          obtain ⟨b1, b2, b3, b4, b5⟩ := zeroBody_ok hz
          obtain ⟨i, z, hi, hsz, hby', hzz, hzl, hzr⟩ := AggR.zero T hte ρ
          have hb0 := T.pos e te hte
          have hn1 : n ≤ 140737488355328 := by
            have : n * 1 ≤ n * (te.bytes : Int) := Int.mul_le_mul_of_nonneg_left (by omega) g2
            omega
          obtain ⟨he, hrel⟩ := new_row (ty := e) hr (b := b) (cs := madeCells z.cells (n.toNat * i.size)) (room := n.toNat) (by omega) (by rw [size_madeCells, b2, hc.2, hsz]; exact Nat.le_refl _) (by
            intro j f hj hf
            obtain ⟨g1, g2'⟩ := b5 j f (by omega) hf
            refine ⟨g2', ?_⟩
            have hbs : b.sz = te.size := by omega
            have hlt : j * b.sz + f < n.toNat * i.size := by
              have : (j + 1) * b.sz ≤ n.toNat * b.sz := Nat.mul_le_mul_right _ (by omega)
              rw [Nat.add_mul, Nat.one_mul] at this
              rw [hsz, ← hbs]; omega
            have hzs : z.cells.size = te.size := by rw [hzr.size]; exact hzl
            have hmod : (j * b.sz + f) % z.cells.size = f := by
              rw [hzs, ← hbs, Nat.mul_comm, Nat.mul_add_mod, Nat.mod_eq_of_lt hf]
            refine ⟨z.cells[f]!, ?_, ?_⟩
            · simp only [madeCells, Array.getElem?_map]
              rw [Array.getElem?_range]
              simp [hlt, hmod]
            · rw [g1]
              have hfz : f < te.zero.length := by omega
              have e3 : te.zero[f]? = some (te.zero.getD f .un) := by simp [List.getD, hfz]
              refine hzr.cell f _ _ e3 ?_
              have : f < z.cells.size := by omega
              simp [this])
          refine wp_v hexec (v := .slice (some ⟨W.heap.size, 0, none⟩) n.toNat n.toNat) (W' := W.alloc (.cells (madeCells z.cells (n.toNat * i.size)) e)) ?_ (hn _ _ _ _ _ _ he ?_ hrel hk)
          · exact run_make W t e i z htd.1 hi hzz .i64 .i64 n n g2 (Int.le_refl _) (by rw [hby', Int.mul_comm]; omega) (by omega)
          · rw [b1]; exact VR.new (Nat.le_refl _) (by unfold maxLen; omega)
        · rw [if_neg hc] at hk; exact no hk
      · exact no h
    · exact no h
  · exact no h
theorem bi_exec {b : Builtin} {xs : Array Operand} {ats : Array TypeId} (ho : o.op = .call { callee := .builtin b, args := xs, argTypes := ats }) :
    execOp a.eval o = (do let d ← resolve a.eval { callee := .builtin b, args := xs, argTypes := ats } o.type; invoke d.target d.args) := by simp [execOp, ho]
theorem op_len (T : TOK P c.tab) {xs : Array Operand} {ats : Array TypeId} (ho : o.op = .call { callee := .builtin .len, args := xs, argTypes := ats }) (hr : Rel ρ X W0 N s a W)
    (h : aLen c s xs ats K = some r) (hn : Goes o ρ X W0 N s a K r next) : o.wp P a W next Q := by
  unfold aLen at h
  obtain ⟨xs⟩ := xs
  obtain ⟨ats⟩ := ats
  match xs, ats with
  | [], _ => exact no h
  | [x], [] => cases hx : opv s x <;> simp [hx] at h
  | x :: y :: xs, ats => rcases ats with _ | ⟨t, _ | ⟨t2, ts⟩⟩ <;> (cases hx : opv s x <;> simp [hx] at h)
  | [x], t :: t' :: ats => cases hx : opv s x <;> simp [hx] at h
  | [x], [t] =>
    have hx := hr.op x
    simp only [List.map_cons, List.map_nil] at h
    generalize opv s x = vx at h hx
    generalize he : a.eval x = ex at hx
    cases ht : c.tab t with
    | none =>
      rw [ht] at h
      cases hx <;> exact no h
    | some ti =>
    have htd := T.td t ti ht
    rw [ht] at h
    obtain ⟨td, tsz, tby, tag, tz, tf, teq⟩ := ti
    have fin : ∀ (n : Nat), (Builtin.len_ #[t] o.type #[ex]).run P W = .ok (goInt n) W → K (.int .i64 n) s.mem s.nx = some r → o.wp P a W next Q := by
      intro n hrun hk
      refine wp_val (v := goInt n) (W' := W) ?_ (hn ρ _ _ _ _ W (ExtS.refl s.nx ρ) (.int _ _) hr.same hk)
      rw [bi_exec ho]
      simp [resolve, invoke, builtin, he, hrun]
    cases hx with
    | @sl id off len cap p hp hn1 hl1 hr1 hm1 =>
      cases td <;> try (exact no h)
      simp only at h htd
      exact fin len (by simp [Builtin.len_, run_underlying htd.1]) h
    | slz id off b =>
      cases td <;> try (exact no h)
      simp only at h htd
      exact fin 0 (by simp [Builtin.len_, run_underlying htd.1]) h
    | nils =>
      cases td <;> try (exact no h)
      simp only at h htd
      exact fin 0 (by simp [Builtin.len_, run_underlying htd.1]) h
    | str b =>
      cases td <;> try (exact no h)
      simp only at h htd
      exact fin b.size (by simp [Builtin.len_, run_underlying htd.1]) h
    | _ => exact no h
theorem op_min {xs : Array Operand} {ats : Array TypeId} (ho : o.op = .call { callee := .builtin .min, args := xs, argTypes := ats }) (hr : Rel ρ X W0 N s a W)
    (h : aMin c s xs K = some r) (hn : Goes o ρ X W0 N s a K r next) : o.wp P a W next Q := by
  unfold aMin at h
  obtain ⟨xs⟩ := xs
  match xs with
  | [] => exact no h
  | [x] => cases hx : opv s x <;> simp [hx] at h
  | x :: y :: z :: xs => cases hx : opv s x <;> cases hy : opv s y <;> simp [hx, hy] at h
  | [x, y] =>
    have hx := hr.op x
    have hy := hr.op y
    simp only [List.map_cons, List.map_nil] at h
    generalize opv s x = vx at h hx
    generalize opv s y = vy at h hy
    generalize he : a.eval x = ex at hx
    generalize he' : a.eval y = ey at hy
    cases hx <;> try (cases hy <;> exact no h)
    rename_i k n
    cases hy <;> try (exact no h)
    rename_i k' m
    refine wp_val (v := .int k (if m < n then m else n)) (W' := W) ?_ (hn ρ _ _ _ _ W (ExtS.refl s.nx ρ) (.int _ _) hr.same h)
    rw [bi_exec ho]
    simp [resolve, invoke, builtin, he, he', Builtin.min_, Builtin.min2]
theorem op_max {xs : Array Operand} {ats : Array TypeId} (ho : o.op = .call { callee := .builtin .max, args := xs, argTypes := ats }) (hr : Rel ρ X W0 N s a W)
    (h : aMax c s xs K = some r) (hn : Goes o ρ X W0 N s a K r next) : o.wp P a W next Q := by
  unfold aMax at h
  obtain ⟨xs⟩ := xs
  match xs with
  | [] => exact no h
  | [x] => cases hx : opv s x <;> simp [hx] at h
  | x :: y :: z :: xs => cases hx : opv s x <;> cases hy : opv s y <;> simp [hx, hy] at h
  | [x, y] =>
    have hx := hr.op x
    have hy := hr.op y
    simp only [List.map_cons, List.map_nil] at h
    generalize opv s x = vx at h hx
    generalize opv s y = vy at h hy
    generalize he : a.eval x = ex at hx
    generalize he' : a.eval y = ey at hy
    cases hx <;> try (cases hy <;> exact no h)
    rename_i k n
    cases hy <;> try (exact no h)
    rename_i k' m
    refine wp_val (v := .int k (if n < m then m else n)) (W' := W) ?_ (hn ρ _ _ _ _ W (ExtS.refl s.nx ρ) (.int _ _) hr.same h)
    rw [bi_exec ho]
    simp [resolve, invoke, builtin, he, he', Builtin.max_, Builtin.max2]
end
end Go.Vm
set_option linter.unusedVariables false
set_option linter.unusedSimpArgs false
namespace Go.Vm
open Go Go.RowKit
theorem setCells_grow (g : Nat) (ty : TypeId) : ∀ (vs : List Value) (o : Nat) (W : World) (arr : Array Value), W.heap[g]? = some (.cells arr ty (0, 0)) →
    Grow (fun b => b = g) W (W.setCells g o vs) ∧ ∃ arr', (W.setCells g o vs).heap[g]? = some (.cells arr' ty (0, 0)) ∧ arr'.size = arr.size
  | [], _, W, arr, h => ⟨Grow.refl _ _, arr, h, rfl⟩
  | v :: vs, o, W, arr, h => by
    have h1 : (W.setCell ⟨g, o, none⟩ v).heap[g]? = some (.cells (arr.setIfInBounds o v) ty (0, 0)) := by
      simp only [World.setCell, Array.getElem?_modify, h, Option.map_some, if_true]; rfl
    have g1 : Grow (fun b => b = g) W (W.setCell ⟨g, o, none⟩ v) := ⟨rfl, rfl, rfl, by simp [World.setCell], fun b hb hne => heap_setCell_other W _ b v hne⟩
    obtain ⟨g2, arr', h2, h3⟩ := setCells_grow g ty vs (o + 1) _ _ h1
    exact ⟨g1.trans g2 (fun _ _ x => x), arr', h2, by simpa using h3⟩
section
variable {P : Program} {R : Type} {c : Ctx} {o : Oper} {ρ : Ren} {X : Nat → Prop} {W0 : World} {N : Nat} {s : St} {a : Act} {W : World} {K : V → Mem → Nat → Option R} {r : R}
  {next : Act → World → Prop} {Q : Exit → Act → World → Prop}
theorem src_cells (hm : MR ρ X W0.heap.size s.mem W) {id off len cap : Nat} {A : Addr} (hv : VR ρ (.sl id off len) (.slice (some A) len cap)) {row : Row} (hrow : s.mem id = some row) {sz : Nat} (hsz : row.body.sz = sz) (h0 : 0 < sz) :
    ∃ news : List Value, news.length = len * sz ∧ (∀ j u, news[j]? = some u → W.cell? (A.add j) = some u) ∧ (∀ u ∈ news, u.oneCell' = true) ∧
      ∀ i f, i < len → f < sz → leaf (row.body.cell (off + i) f) = true ∧ ∃ u, news[i * sz + f]? = some u ∧ VR ρ (row.body.cell (off + i) f) u := by
  cases hv with
  | slz a b c => exact ⟨[], by simp, (fun j u h => by simp at h), (fun u h => absurd h (by simp)), (fun i f hi => by omega)⟩
  | @sl _ _ _ _ p hp hn hl hr hmx =>
    obtain ⟨d1, d2, d3⟩ := hm.dim id row p hrow hp
    have hcell := hm.cell id row p hrow hp
    have hps : p.sz = sz := by omega
    have hex : ∀ j : Fin (len * sz), ∃ u, W.cell? ((⟨p.blk, p.base + off * p.sz, none⟩ : Addr).add j.1) = some u ∧ VR ρ (row.body.cell (off + j.1 / sz) (j.1 % sz)) u ∧ leaf (row.body.cell (off + j.1 / sz) (j.1 % sz)) = true := by
      intro ⟨j, hj⟩
      have h1 : j / sz < len := Nat.div_lt_of_lt_mul (by rw [Nat.mul_comm]; exact hj)
      have h2 : j % sz < sz := Nat.mod_lt _ h0
      obtain ⟨hl, u, hu, hvr⟩ := hcell (off + j / sz) (j % sz) (by omega) (by omega)
      refine ⟨u, ?_, hvr, hl⟩
      have e1 : (off + j / sz) * sz + j % sz = off * sz + j := by
        have := Nat.div_add_mod j sz
        rw [Nat.mul_comm] at this
        rw [Nat.add_mul]; omega
      rw [add_at, ← hu, hps, e1, Nat.add_assoc]
    obtain ⟨g, hg⟩ := Classical.axiomOfChoice hex
    have hget : ∀ (j : Nat) (hj : j < len * sz), (List.ofFn g)[j]? = some (g ⟨j, hj⟩) := fun j hj => by simp [List.getElem?_ofFn, hj]
    refine ⟨List.ofFn g, by simp, ?_, ?_, ?_⟩
    · intro j u hu
      have hj : j < len * sz := by have := (List.getElem?_eq_some_iff.1 hu).1; simpa using this
      rw [hget j hj] at hu
      rw [← Option.some.inj hu]; exact (hg ⟨j, hj⟩).1
    · intro u hu
      obtain ⟨j, rfl⟩ := List.mem_ofFn.1 hu
      exact (hg j).2.1.oneCell (hg j).2.2
    · intro i f hi hf
      have hlt : i * sz + f < len * sz := by
        have : (i + 1) * sz ≤ len * sz := Nat.mul_le_mul_right _ hi
        rw [Nat.add_mul, Nat.one_mul] at this; omega
      have e1 : (i * sz + f) / sz = i := by rw [Nat.mul_comm, Nat.mul_add_div h0, Nat.div_eq_of_lt hf]; omega
      have e2 : (i * sz + f) % sz = f := by rw [Nat.mul_comm, Nat.mul_add_mod, Nat.mod_eq_of_lt hf]
      have h3 := hg ⟨i * sz + f, hlt⟩
      simp only [e1, e2] at h3
      exact ⟨h3.2.2, _, hget _ hlt, h3.2.1⟩
theorem drew_rel (hr : Rel ρ X W0 N s a W) : Rel ρ X W0 N s a W.drew :=
  ⟨hr.env, hr.size, hr.defers, hr.mem.grow (Grow.drew (fun _ => False) W) (fun _ _ _ _ _ x => x), hr.nx, hr.fr.trans (Grow.drew X W) (fun _ _ x => x)⟩
/-- An append that grows: a new row. -/
theorem app_grow (T : TOK P c.tab) (hr : Rel ρ X W0 N s a W) {t e : TypeId} {te : TInfo} (htd : P.underlying t = some (.slice e)) (hte : c.tab e = some te) (h0 : 0 < te.size) {ty : TypeId}
    {base : Option Addr} {sLen sCap : Nat} {olds news : List Value} {x : Value} {n : Nat}
    (hold : (Builtin.firstCells te.size sLen (.slice base sLen sCap)).run P W.drew = .ok olds.toArray W.drew) (hlo : olds.length = sLen * te.size) (hs : Src P te.size t x n news W)
    (hg : sCap < sLen + n) (hb : (sLen + n) * te.bytes ≤ 140737488355328) {m : Mem} (hmem : MR ρ X W0.heap.size m W) {b : Body} (hbn : b.n = sLen + n) (hbs : b.sz = te.size)
    (hc : ∀ i f, i < sLen + n → f < te.size → leaf (b.cell i f) = true ∧ ∃ u, (olds ++ news)[i * te.size + f]? = some u ∧ VR ρ (b.cell i f) u) :
    ∃ v' W' ρ', (Builtin.append_ #[t, t] ty #[.slice base sLen sCap, x]).run P W = .ok v' W' ∧ ExtS s.nx ρ ρ' ∧ VR ρ' (.sl s.nx 0 (sLen + n)) v' ∧ Rel ρ' X W0 N ⟨s.env, upd m s.nx (some ⟨true, e, b⟩), s.nx + 1⟩ a W' := by
  obtain ⟨i, z, hi, hsz, hby, hz, hzl, hzr⟩ := AggR.zero T hte ρ
  have hpos := T.pos e te hte
  have hmx : sLen + n ≤ 140737488355328 := by
    have : (sLen + n) * 1 ≤ (sLen + n) * te.bytes := Nat.mul_le_mul_left _ hpos
    omega
  have hs' : Src P i.size t x n news W := by rw [hsz]; exact hs
  have hrun := run_append_grow_src W t t ty e i z htd hi hz base sLen sCap olds (by rw [hsz]; exact hold) x n news hs' hg (by omega) (growslice_fits hg (by rw [hby]; exact hb))
  have hge := grownCap_ge W (sLen + n) sCap e
  have hcm : grownCap W (sLen + n) sCap e ≤ maxLen := grownCap_le_maxLen W (sLen + n) sCap e (by unfold maxLen; omega)
  have hr2 : Rel ρ X W0 N ⟨s.env, m, s.nx⟩ a W.drew := (drew_rel hr).step (ExtS.refl s.nx ρ) (hmem.grow (Grow.drew (fun _ => False) W) (fun _ _ _ _ _ x => x)) hr.nx ((drew_rel hr).fr)
  have hnews : news.length = n * te.size := hs.newsLen
  have hzs : z.cells.size = te.size := by rw [hzr.size]; exact hzl
  obtain ⟨he, hrel⟩ := new_row (ty := e) hr2 (b := b) (cs := (olds ++ news).toArray ++ Builtin.zeroCells z.cells (grownCap W (sLen + n) sCap e - (sLen + n))) (room := grownCap W (sLen + n) sCap e) (by omega) (by
    rw [hbs]
    simp only [Array.size_append, List.size_toArray, size_zeroCells, List.length_append, hlo, hnews, hzs]
    rw [← Nat.add_mul, ← Nat.add_mul]
    exact Nat.mul_le_mul_right _ (by omega)) (by
    intro j f hj hf
    obtain ⟨g1, u, hu, hvr⟩ := hc j f (by omega) (by omega)
    refine ⟨g1, u, ?_, hvr⟩
    have hlt := (List.getElem?_eq_some_iff.1 hu).1
    rw [hbs, Array.getElem?_append_left (by simpa using hlt)]
    simpa using hu)
  refine ⟨_, _, _, hrun, he, ?_, hrel⟩
  have h2 := VR.sl (ρ := updR ρ s.nx ⟨W.heap.size, 0, b.sz, b.n, grownCap W (sLen + n) sCap e⟩) (id := s.nx) (off := 0) (len := sLen + n) (cap := grownCap W (sLen + n) sCap e) (p := ⟨W.heap.size, 0, b.sz, b.n, grownCap W (sLen + n) sCap e⟩) (by simp [updR]) (by simp; omega) hge (by simp) hcm
  simpa using h2
theorem app_none {t ty e : TypeId} (htd : P.underlying t = some (.slice e)) (T : TOK P c.tab) {te : TInfo} (hte : c.tab e = some te) {base : Option Addr} {x : Value} (hs : Src P te.size t x 0 [] W) :
    (Builtin.append_ #[t, t] ty #[.slice base 0 0, x]).run P W = .ok (.slice base 0 0) W := by
  have h1 := hs.cells
  cases base <;> simp [Builtin.append_, run_underlying htd, run_size T hte, hs.len, h1, storeCells]
/-- An append in place. -/
theorem app_room (T : TOK P c.tab) (hr : Rel ρ X W0 N s a W) {t e : TypeId} {te : TInfo} (htd : P.underlying t = some (.slice e)) (hte : c.tab e = some te) (h0 : 0 < te.size) {ty : TypeId}
    {id off len cap : Nat} {A : Addr} {p : Pl} (hp : ρ id = some p) (hA : A = ⟨p.blk, p.base + off * p.sz, none⟩) (hoff : off + len ≤ p.n) (hrr : off + cap ≤ p.room) (hmx : p.room ≤ maxLen) {row : Row} (hrow : s.mem id = some row) (hown : row.own = true) (hty : row.ty = e) (hsz : row.body.sz = te.size) (hone : row.body.isOne = false)
    {news : List Value} {x : Value} {n : Nat} (hs : Src P te.size t x n news W) (hg : len + n ≤ cap) {b b2 : Body} (happ : (row.body.sub off len).app b2 = some b) (hb2n : b2.n = n) (hb2s : b2.sz = te.size)
    (hc : ∀ i f, i < n → f < te.size → leaf (b2.cell i f) = true ∧ ∃ u, news[i * te.size + f]? = some u ∧ VR ρ (b2.cell i f) u) :
    ∃ v' W' ρ', (Builtin.append_ #[t, t] ty #[.slice (some A) len cap, x]).run P W = .ok v' W' ∧ ExtS s.nx ρ ρ' ∧ VR ρ' (.sl s.nx 0 (len + n)) v' ∧ Rel ρ' X W0 N ⟨s.env, upd (upd s.mem id none) s.nx (some ⟨true, e, b⟩), s.nx + 1⟩ a W' := by
  obtain ⟨i, z, hi, hisz, hby, hz, hzl, hzr⟩ := AggR.zero T hte ρ
  have hs' : Src P i.size t x n news W := by rw [hisz]; exact hs
  have hnx := hr.nx s.nx (Nat.le_refl _)
  have hnl : news.length = n * te.size := hs.newsLen
  subst hA
  obtain ⟨d1, d2, d3⟩ := hr.mem.dim id row p hrow hp
  obtain ⟨hB, hrm, arr, ha, has⟩ := hr.mem.own id row p hrow hp hown
  have hcell := hr.mem.cell id row p hrow hp
  have hps : p.sz = te.size := by omega
  obtain ⟨u1, u2, u3, u4⟩ := sub_ok row.body off len hone (by omega)
  obtain ⟨v1, v2, v3, v4⟩ := app_ok happ
  have hdel := hr.mem.del id
  have hap : ∀ id' r' p', upd s.mem id none id' = some r' → ρ id' = some p' → p.blk ≠ p'.blk := by
    intro id' r' p' hm' hp'
    unfold upd at hm'
    by_cases e1 : id' = id
    · rw [if_pos e1] at hm'; cases hm'
    · rw [if_neg e1] at hm'; exact hr.mem.apart id id' row r' p p' (fun h => e1 h.symm) hrow hm' hp hp' hown
  have hfit : off * p.sz + (len + n) * p.sz ≤ p.room * p.sz := by rw [← Nat.add_mul]; exact Nat.mul_le_mul_right _ (by omega)
  have hin : ∀ j, j < news.length → (W.cell? ⟨p.blk, p.base + off * p.sz + len * i.size + j, none⟩).isSome = true := by
    intro j hj
    rw [cell_of_row W p.blk _ arr row.ty (0, 0) ha]
    have : p.base + off * p.sz + len * i.size + j < arr.size := by rw [hisz, ← hps]; rw [hnl, ← hps] at hj; rw [Nat.add_mul] at hfit; omega
    simp [this]
  have hrun := run_append_room_src W t t ty e i htd hi p.blk (p.base + off * p.sz) len cap x n news hs' hg hin (fun j hj => frozen_of_row W p.blk _ arr row.ty ha)
  obtain ⟨hgr, arr', ha', has'⟩ := setCells_grow p.blk row.ty news (p.base + off * p.sz + len * i.size) W arr ha
  have hdel2 := hdel.grow hgr (fun id' r' p' hm' hp' e1 => hap id' r' p' hm' hp' e1.symm)
  have hadd := hdel2.add (p := ⟨p.blk, p.base + off * p.sz, p.sz, len + n, p.room - off⟩) (r := ⟨true, e, b⟩) hnx ⟨by simp only; omega, by simp only; omega, Nat.lt_of_lt_of_le d3 hgr.size⟩ (by
    intro j f hj hf
    simp only at hj hf
    show leaf (b.cell j f) = true ∧ _
    simp only [v4, u1]
    by_cases hjl : j < len
    · rw [if_pos hjl, u4 j f hjl]
      obtain ⟨g1, u, hu, hvr⟩ := hcell (off + j) f (by omega) hf
      refine ⟨g1, u, ?_, hvr⟩
      rw [World.cell?_setCells_out]
      · rw [← hu]; congr 2; rw [Nat.add_mul]; omega
      · intro _ _
        left
        simp only
        have : (j + 1) * p.sz ≤ len * p.sz := Nat.mul_le_mul_right _ hjl
        rw [Nat.add_mul, Nat.one_mul] at this
        rw [hisz, ← hps]; omega
    · rw [if_neg hjl]
      obtain ⟨g1, u, hu, hvr⟩ := hc (j - len) f (by omega) (by omega)
      refine ⟨g1, u, ?_, hvr⟩
      have hlt := (List.getElem?_eq_some_iff.1 hu).1
      have h1 := World.cell?_setCells_in p.blk news (p.base + off * p.sz + len * i.size) W hin ((j - len) * te.size + f) hlt
      have e1 : p.base + off * p.sz + (j * p.sz + f) = p.base + off * p.sz + len * i.size + ((j - len) * te.size + f) := by
        rw [hisz, hps]
        have : len * te.size + (j - len) * te.size = j * te.size := by rw [← Nat.add_mul]; congr 1; omega
        omega
      simp only [e1]
      rw [h1]
      rw [List.getElem?_eq_getElem hlt] at hu
      simpa using hu) (fun _ => ⟨hB, by simp only; omega, arr', by rw [← hty]; exact ha', by
    simp only
    have : off * p.sz + (p.room - off) * p.sz = p.room * p.sz := by rw [← Nat.add_mul]; congr 1; omega
    omega⟩) hap
  refine ⟨_, _, _, hrun, updR_extS hnx, ?_, hr.step (updR_extS hnx) hadd (nx_upd hr.nx) (hr.fr.trans hgr (fun g hgl e1 => by subst e1; rcases hB with hB | hB; exact absurd hgl (by omega); exact hB))⟩
  have h2 := VR.sl (ρ := updR ρ s.nx ⟨p.blk, p.base + off * p.sz, p.sz, len + n, p.room - off⟩) (id := s.nx) (off := 0) (len := len + n) (cap := cap) (p := ⟨p.blk, p.base + off * p.sz, p.sz, len + n, p.room - off⟩) (by simp [updR]) (by simp) hg (by simp only; omega) (by simp only; omega)
  simpa using h2
end
end Go.Vm
set_option linter.unusedVariables false
set_option linter.unusedSimpArgs false
namespace Go.Vm
open Go Go.RowKit
/-- Blocks that hold what they hold, whoever calls: package-level variables. -/
structure GI (gl : List (Nat × Obj)) (X : Nat → Prop) (W : World) : Prop where
  hold : ∀ g o, (g, o) ∈ gl → W.heap[g]? = some o
  out : ∀ g o, (g, o) ∈ gl → ¬ X g
theorem GI.lt {gl : List (Nat × Obj)} {X : Nat → Prop} {W : World} (h : GI gl X W) {g : Nat} {o : Obj} (hm : (g, o) ∈ gl) : g < W.heap.size := (Array.getElem?_eq_some_iff.1 (h.hold g o hm)).1
theorem GI.grow {gl : List (Nat × Obj)} {X : Nat → Prop} {W0 W : World} (h : GI gl X W0) (hg : Grow X W0 W) : GI gl X W :=
  ⟨fun g o hm => (hg.block g (h.lt hm) (h.out g o hm)).trans (h.hold g o hm), h.out⟩
theorem GI.sub {gl : List (Nat × Obj)} {X Y : Nat → Prop} {W0 W : World} (h : GI gl X W0) (hg : Grow X W0 W) (hY : ∀ b, Y b → W0.heap.size ≤ b ∨ X b) : GI gl Y W :=
  ⟨(h.grow hg).hold, fun g o hm hy => (hY g hy).elim (fun hh => absurd (h.lt hm) (by omega)) (h.out g o hm)⟩
/-- What a call does: a Go body is entered, or the model answers at once. -/
def Does (P : Program) (g : FuncId) (cs : Array Value) (W : World) (Post : Ending → World → Prop) : Prop :=
  (∃ fn, P.funcs[g]? = some fn ∧ fn.name ≠ "runtime.NumGoroutine" ∧ fn.body.isSome = true ∧ Calls P g cs W Post) ∨ (∃ v W', (callFunc g cs).run P W = .ok (.value v) W' ∧ Post (.returned v) W')
/-- A callee, as the machine is told of it: whatever it answers the call does. -/
def CallOK (P : Program) (gl : List (Nat × Obj)) (call : FuncId → List V → Mem → Nat → (R : Type) → (V → Mem → Nat → Option R) → Option R) : Prop :=
  ∀ g vs m nx R K r, call g vs m nx R K = some r → ∃ v m' nx', K v m' nx' = some r ∧
    ∀ ρ (X : Nat → Prop) (B : Nat) (W : World) (cs : Array Value), B ≤ W.heap.size → GI gl X W → (∀ g o, (g, o) ∈ gl → g < B) → MR ρ X B m W → (∀ id, nx ≤ id → ρ id = none) → cs.size = vs.length → (∀ (i : Nat) (y : V) (u : Value), vs[i]? = some y → cs[i]? = some u → VR ρ y u) →
      Does P g cs W fun e W' => ∃ ρ' cv, e = .returned cv ∧ ExtS nx ρ ρ' ∧ VR ρ' v cv ∧ MR ρ' X B m' W' ∧ (∀ id, nx' ≤ id → ρ' id = none) ∧ Grow (fun b => B ≤ b ∨ X b) W W'
section
variable {P : Program} {gl : List (Nat × Obj)} {R : Type} {c : Ctx} {o : Oper} {ρ : Ren} {X : Nat → Prop} {W0 : World} {N : Nat} {s : St} {a : Act} {W : World} {K : V → Mem → Nat → Option R} {r : R}
  {next : Act → World → Prop} {Q : Exit → Act → World → Prop}
theorem op_call (G : CallOK P gl c.call) (I : GI gl X W0) {g : FuncId} {xs : Array Operand} {ats : Array TypeId} (ho : o.op = .call { callee := .value (.func g), args := xs, argTypes := ats }) (hr : Rel ρ X W0 N s a W)
    (h : c.call g (xs.toList.map (opv s)) s.mem s.nx R K = some r) (hn : Goes o ρ X W0 N s a K r next) : o.wp P a W next Q := by
  obtain ⟨v, m', nx', hk, hcall⟩ := G g _ _ _ R K r h
  have hargs : ∀ (i : Nat) (y : V) (u : Value), (xs.toList.map (opv s))[i]? = some y → (xs.map a.eval)[i]? = some u → VR ρ y u := by
    intro i y u hy hu
    rw [List.getElem?_map] at hy
    rw [Array.getElem?_map] at hu
    cases hx : xs[i]? with
    | none => rw [hx] at hu; cases hu
    | some x =>
      rw [hx] at hu
      have hx' : xs.toList[i]? = some x := by simpa using hx
      rw [hx'] at hy
      cases hy; cases hu
      exact hr.op x
  have fin : ∀ (e : Ending) (W' : World), (∃ ρ' cv, e = .returned cv ∧ ExtS s.nx ρ ρ' ∧ VR ρ' v cv ∧ MR ρ' X W0.heap.size m' W' ∧ (∀ id, nx' ≤ id → ρ' id = none) ∧ Grow (fun b => W0.heap.size ≤ b ∨ X b) W W') → ∃ cv, e = .returned cv ∧ next (a.put o.dst cv) W' := by
    rintro e W' ⟨ρ', cv, rfl, hext, hvr, hm, hnx, hg⟩
    refine ⟨cv, rfl, hn ρ' v cv m' nx' W' hext hvr (hr.step hext hm hnx (hr.fr.trans hg (fun b hb hx => ?_))) hk⟩
    rcases hx with hx | hx
    · exact absurd hb (by omega)
    · exact hx
  rcases hcall ρ X W0.heap.size W (xs.map a.eval) hr.fr.size (I.grow hr.fr) (fun g o hm => I.lt hm) hr.mem hr.nx (by simp) hargs with ⟨fn, hf, hname, hb, hc⟩ | ⟨v', W', hrun, hp⟩
  · have henter : (execOp a.eval o).run P W = .ok (.enter g (xs.map a.eval)) W := by
      obtain ⟨code, hcode⟩ := Option.isSome_iff_exists.1 hb
      simp [execOp, ho, resolve, Deferred.ofValue, invoke, Act.eval, callFunc, hf, hname, hcode]
    unfold Oper.wp
    rw [henter]
    show Calls P g (xs.map a.eval) W _
    refine hc.mono fun e W' he => ?_
    obtain ⟨cv, rfl, hh⟩ := fin e W' he
    exact hh
  · obtain ⟨cv, e1, hh⟩ := fin _ W' hp
    cases e1
    refine wp_val (v := v') (W' := W') ?_ hh
    simp [execOp, ho, resolve, Deferred.ofValue, invoke, Act.eval, hrun]
theorem sub_zero (b : Body) (off : Nat) (h1 : b.isOne = false) : (b.sub off 0).n = 0 ∧ (b.sub off 0).sz = b.sz ∧ (b.sub off 0).isOne = false := by
  cases b with
  | one cs => simp [Body.isOne] at h1
  | col fd xs => exact ⟨by simp [Body.sub, Body.n], rfl, rfl⟩
  | recs fs xs => exact ⟨by simp [Body.sub, Body.n], rfl, rfl⟩
theorem op_append (T : TOK P c.tab) {xs : Array Operand} {ats : Array TypeId} (ho : o.op = .call { callee := .builtin .append, args := xs, argTypes := ats }) (hr : Rel ρ X W0 N s a W)
    (h : aAppend c s xs ats K = some r) (hn : Goes o ρ X W0 N s a K r next) : o.wp P a W next Q := by
  unfold aAppend at h
  obtain ⟨xs⟩ := xs
  obtain ⟨ats⟩ := ats
  match xs, ats with
  | [], _ => exact no h
  | [x], _ => cases hx : opv s x <;> simp [hx] at h
  | [x, y], [] => cases hy : opv s y <;> simp [hy] at h
  | [x, y], [t] => cases hy : opv s y <;> simp [hy] at h
  | [x, y], t :: t' :: t'' :: ats => cases hy : opv s y <;> simp [hy] at h
  | x :: y :: z :: xs, ats => cases hy : opv s y <;> simp [hy] at h
  | [x, y], [t, t'] =>
    have hx := hr.op x
    have hy := hr.op y
    simp only [List.map_cons, List.map_nil] at h
    generalize opv s x = vx at h hx
    generalize opv s y = vy at h hy
    generalize he : a.eval x = ex at hx
    generalize he' : a.eval y = ey at hy
    have fin : ∀ (v : V) (v' : Value) (ρ' : Ren) (m : Mem) (nx : Nat) (W' : World), (Builtin.append_ #[t, t'] o.type #[ex, ey]).run P W = .ok v' W' → ExtS s.nx ρ ρ' → VR ρ' v v' → Rel ρ' X W0 N ⟨s.env, m, nx⟩ a W' → K v m nx = some r → o.wp P a W next Q := by
      intro v v' ρ' m nx W' hrun hext hvr hrel hk
      refine wp_val (v := v') (W' := W') ?_ (hn ρ' _ _ _ _ W' hext hvr hrel hk)
      rw [bi_exec ho]
      simp [resolve, invoke, builtin, he, he', hrun]
    -- the row that is appended
    have main : ∀ (id2 off2 len2 : Nat), VR ρ (.sl id2 off2 len2) ey → aApp1 c s vx id2 off2 len2 t t' K = some r → o.wp P a W next Q := by
      clear h
      intro id2 off2 len2 hv2 h
      unfold aApp1 at h
      cases ht : c.tab t with
      | none => simp [ht] at h
      | some ti =>
      have htd := T.td t ti ht
      rw [ht] at h
      obtain ⟨td, tsz, tby, tag, tz, tf, teq⟩ := ti
      cases td <;> try (exact no h)
      rename_i e
      simp only at h htd
      cases hm2 : s.mem id2 with
      | none => simp [hm2] at h
      | some row2 =>
      cases hte : c.tab e with
      | none => simp [hm2, hte] at h
      | some te =>
      simp only [hm2, hte] at h
      by_cases hc : t = t' ∧ 0 < te.size ∧ row2.body.sz = te.size ∧ row2.body.isOne = false
      · rw [if_pos hc] at h
        obtain ⟨rfl, h0, hsz2, hone2⟩ := hc
        obtain ⟨i, z, hi, hisz, hby, hz, hzl, hzr⟩ := AggR.zero T hte ρ
        obtain ⟨news, hnl, hsrc, w1, w2, w3, hc2⟩ : ∃ news : List Value, news.length = len2 * te.size ∧ Src P te.size t ey len2 news W ∧ (row2.body.sub off2 len2).n = len2 ∧ (row2.body.sub off2 len2).sz = row2.body.sz ∧ (row2.body.sub off2 len2).isOne = false ∧
            ∀ i f, i < len2 → f < te.size → leaf ((row2.body.sub off2 len2).cell i f) = true ∧ ∃ u, news[i * te.size + f]? = some u ∧ VR ρ ((row2.body.sub off2 len2).cell i f) u := by
          have real : ∀ (A2 : Addr) (cap2 : Nat) (p2 : Pl), VR ρ (.sl id2 off2 len2) (.slice (some A2) len2 cap2) → ρ id2 = some p2 → off2 + len2 ≤ p2.n → ey = .slice (some A2) len2 cap2 → ∃ news : List Value, news.length = len2 * te.size ∧ Src P te.size t ey len2 news W ∧ (row2.body.sub off2 len2).n = len2 ∧ (row2.body.sub off2 len2).sz = row2.body.sz ∧ (row2.body.sub off2 len2).isOne = false ∧
            ∀ i f, i < len2 → f < te.size → leaf ((row2.body.sub off2 len2).cell i f) = true ∧ ∃ u, news[i * te.size + f]? = some u ∧ VR ρ ((row2.body.sub off2 len2).cell i f) u := by
            intro A2 cap2 p2 hv2 hp2 hof hey
            obtain ⟨news, hnl, hnc, hn1, hncell⟩ := src_cells hr.mem hv2 hm2 hsz2 h0
            have hsrc : Src P te.size t ey len2 news W := by rw [hey]; exact Src.ofSlice W htd.1 A2 len2 cap2 news hnl hnc hn1
            obtain ⟨d1, d2, d3⟩ := hr.mem.dim id2 row2 p2 hm2 hp2
            obtain ⟨w1, w2, w3, w4⟩ := sub_ok row2.body off2 len2 hone2 (by omega)
            exact ⟨news, hnl, hsrc, w1, w2, w3, fun i f hi hf => by rw [w4 i f hi]; exact hncell i f hi hf⟩
          cases hv2 with
          | sl hp hn hl hr' hm => exact real _ _ _ (.sl hp hn hl hr' hm) hp hn rfl
          | slz id off b =>
            obtain ⟨w1, w2, w3⟩ := sub_zero row2.body off2 hone2
            refine ⟨[], by simp, ?_, w1, w2, w3, fun i f hi => by omega⟩
            cases b with
            | none => exact Src.ofNil W htd.1 0
            | some A => exact Src.ofSlice W htd.1 A 0 0 [] (by simp) (fun j u h => by simp at h) (fun u h => by simp at h)
        cases hx with
        | nils =>
          rcases cond_some h with ⟨q0, h⟩ | ⟨q0, h⟩
          · have hl0 : len2 = 0 := by simpa using q0
            refine fin .nils (.slice none 0 0) ρ s.mem s.nx W ?_ (ExtS.refl s.nx ρ) .nils hr.same h
            subst hl0
            have hnews : news = [] := List.length_eq_zero_iff.1 (by simpa using hnl)
            subst hnews
            exact app_none htd.1 T hte hsrc
          · rcases cond_some h with ⟨q1, h⟩ | ⟨_, h⟩
            · have hl0 : len2 ≠ 0 := by simpa using q0
              have g1 : len2 * te.bytes ≤ 140737488355328 := of_decide_eq_true q1
              obtain ⟨v', W', ρ', hrun, hext, hvr, hrel⟩ := app_grow (ty := o.type) T hr htd.1 hte h0 (base := none) (sLen := 0) (sCap := 0) (olds := []) (news := news) (x := ey) (n := len2) (by simp [Builtin.firstCells]) (by simp) hsrc (by omega) (by simpa using g1) hr.mem (b := row2.body.sub off2 len2) (by omega) (by omega) (by
                intro i f hi hf
                simpa using hc2 i f (by omega) hf)
              rw [Nat.zero_add] at hvr
              exact fin _ v' ρ' _ _ W' hrun hext hvr hrel h
            · exact no h
        | @sl id off len cap p hp hn' hl hrr hmx =>
          cases hm : s.mem id with
          | none => simp [hm] at h
          | some row =>
          simp only [hm] at h
          by_cases hc : row.own = true ∧ row.ty = e ∧ row.body.sz = te.size ∧ row.body.isOne = false
          · rw [if_pos hc] at h
            obtain ⟨c1, c2, c3, c4⟩ := hc
            cases happ : (row.body.sub off len).app (row2.body.sub off2 len2) with
            | none => simp [happ] at h
            | some b =>
            simp only [happ] at h
            rcases cond_some h with ⟨q1, h⟩ | ⟨_, h⟩
            · have g1 : (len + len2) * te.bytes ≤ 140737488355328 := of_decide_eq_true q1
              have hv1 : VR ρ (.sl id off len) (.slice (some ⟨p.blk, p.base + off * p.sz, none⟩) len cap) := .sl hp hn' hl hrr hmx
              by_cases hroom : len + len2 ≤ cap
              · obtain ⟨v', W', ρ', hrun, hext, hvr, hrel⟩ := app_room (ty := o.type) T hr htd.1 hte h0 hp rfl hn' hrr hmx hm c1 c2 c3 c4 hsrc hroom happ w1 (by omega) hc2
                exact fin _ v' ρ' _ _ W' hrun hext hvr hrel h
              · obtain ⟨olds, hol, hoc, ho1, hocell⟩ := src_cells hr.mem hv1 hm c3 h0
                obtain ⟨e1, e2, e3⟩ := hr.mem.dim id row p hm hp
                obtain ⟨u1, u2, u3, u4⟩ := sub_ok row.body off len c4 (by omega)
                obtain ⟨v1, v2, v3, v4⟩ := app_ok happ
                obtain ⟨v', W', ρ', hrun, hext, hvr, hrel⟩ := app_grow (ty := o.type) T hr htd.1 hte h0 (base := some ⟨p.blk, p.base + off * p.sz, none⟩) (sLen := len) (sCap := cap) (olds := olds) (news := news) (x := ey) (n := len2)
                  (run_firstCells_some (P := P) W.drew te.size len _ len cap olds hol (by simpa using hoc)) hol hsrc (by omega) g1 (hr.mem.del id) (b := b) (by omega) (by omega) (by
                  intro i f hi hf
                  rw [v4, u1]
                  by_cases hil : i < len
                  · rw [if_pos hil, u4 i f hil]
                    obtain ⟨g1, u, hu, hvr⟩ := hocell i f hil hf
                    have hlt := (List.getElem?_eq_some_iff.1 hu).1
                    exact ⟨g1, u, by rw [List.getElem?_append_left hlt]; exact hu, hvr⟩
                  · rw [if_neg hil]
                    obtain ⟨g1, u, hu, hvr⟩ := hc2 (i - len) f (by omega) hf
                    refine ⟨g1, u, ?_, hvr⟩
                    have e5 : len * te.size + (i - len) * te.size = i * te.size := by rw [← Nat.add_mul]; congr 1; omega
                    rw [List.getElem?_append_right (by rw [hol]; omega), hol, show i * te.size + f - len * te.size = (i - len) * te.size + f by omega]
                    exact hu)
                exact fin _ v' ρ' _ _ W' hrun hext hvr hrel h
            · exact no h
          · rw [if_neg hc] at h; exact no h
        | slz id off b0 =>
          cases hm : s.mem id with
          | none => simp [hm] at h
          | some row =>
          simp only [hm] at h
          by_cases hc : row.own = true ∧ row.ty = e ∧ row.body.sz = te.size ∧ row.body.isOne = false
          · rw [if_pos hc] at h
            obtain ⟨c1, c2, c3, c4⟩ := hc
            cases happ : (row.body.sub off 0).app (row2.body.sub off2 len2) with
            | none => simp [happ] at h
            | some b =>
            simp only [happ] at h
            rcases cond_some h with ⟨q1, h⟩ | ⟨_, h⟩
            · have g1 : (0 + len2) * te.bytes ≤ 140737488355328 := of_decide_eq_true q1
              obtain ⟨u1, u2, u3⟩ := sub_zero row.body off c4
              obtain ⟨v1, v2, v3, v4⟩ := app_ok happ
              have hdel := hr.mem.del id
              by_cases hl0 : len2 = 0
              · subst hl0
                have hnews : news = [] := List.length_eq_zero_iff.1 (by simpa using hnl)
                subst hnews
                have hnxn := hr.nx s.nx (Nat.le_refl _)
                exact fin _ _ ρ _ _ W (app_none htd.1 T hte hsrc) (ExtS.refl s.nx ρ) (.slz _ _ _) (hr.step (ExtS.refl s.nx ρ) (hdel.ghost hnxn _) (fun k hk => hr.nx k (by omega)) hr.fr) h
              · obtain ⟨v', W', ρ', hrun, hext, hvr, hrel⟩ := app_grow (ty := o.type) T hr htd.1 hte h0 (base := b0) (sLen := 0) (sCap := 0) (olds := []) (news := news) (x := ey) (n := len2) (by cases b0 with
                  | none => simp [Builtin.firstCells]
                  | some A0 => exact run_firstCells_some (P := P) W.drew te.size 0 _ 0 0 [] (by simp) (by simp)) (by simp) hsrc (by omega) g1 hdel (b := b) (by omega) (by omega) (by
                  intro i f hi hf
                  rw [v4, u1, if_neg (by omega)]
                  simpa using hc2 i f (by omega) hf)
                exact fin _ v' ρ' _ _ W' hrun hext hvr hrel h
            · exact no h
          · rw [if_neg hc] at h; exact no h
        | _ => exact no h
      · rw [if_neg hc] at h; exact no h
    cases hy with
    | @sl id2 off2 len2 cap2 p2 hp2 hn2 hl2 hr2 hm2 => exact main id2 off2 len2 (.sl hp2 hn2 hl2 hr2 hm2) h
    | slz id2 off2 b => exact main id2 off2 0 (.slz id2 off2 b) h
    | nils =>
      replace h : aApp0 c s vx t t' K = some r := h
      unfold aApp0 at h
      cases ht : c.tab t with
      | none => simp [ht] at h
      | some ti =>
      have htd := T.td t ti ht
      rw [ht] at h
      obtain ⟨td, tsz, tby, tag, tz, tf, teq⟩ := ti
      cases td <;> try (cases hx <;> exact no h)
      rename_i e
      simp only at htd
      have hinfo : (c.tab e).isSome = true → ∃ i, P.info? e = some i := fun hs => by
        obtain ⟨te, hte⟩ := Option.isSome_iff_exists.1 hs
        obtain ⟨i, z, hi, _⟩ := T.info e te hte
        exact ⟨i, hi⟩
      cases hx with
      | @sl id off len cap p hp hn' hl hrr hmx =>
        simp only at h
        by_cases hc : t = t' ∧ (c.tab e).isSome = true
        · rw [if_pos hc] at h
          obtain ⟨rfl, hs⟩ := hc
          obtain ⟨i, hi⟩ := hinfo hs
          refine fin _ (.slice (some ⟨p.blk, p.base + off * p.sz, none⟩) len cap) ρ s.mem s.nx W ?_ (ExtS.refl s.nx ρ) (.sl hp hn' hl hrr hmx) hr.same h
          simp [Builtin.append_, run_underlying htd.1, sizeOf, typeInfo, hi, Builtin.lenOf, Builtin.firstCells, hl, storeCells]
        · rw [if_neg hc] at h; exact no h
      | nils =>
        simp only at h
        by_cases hc : t = t' ∧ (c.tab e).isSome = true
        · rw [if_pos hc] at h
          obtain ⟨rfl, hs⟩ := hc
          obtain ⟨i, hi⟩ := hinfo hs
          refine fin .nils (.slice none 0 0) ρ s.mem s.nx W ?_ (ExtS.refl s.nx ρ) .nils hr.same h
          simp [Builtin.append_, run_underlying htd.1, sizeOf, typeInfo, hi, Builtin.lenOf, Builtin.firstCells, storeCells]
        · rw [if_neg hc] at h; exact no h
      | slz id off b =>
        simp only at h
        by_cases hc : t = t' ∧ (c.tab e).isSome = true
        · rw [if_pos hc] at h
          obtain ⟨rfl, hs⟩ := hc
          obtain ⟨i, hi⟩ := hinfo hs
          refine fin _ (.slice b 0 0) ρ s.mem s.nx W ?_ (ExtS.refl s.nx ρ) (.slz _ _ _) hr.same h
          cases b <;> simp [Builtin.append_, run_underlying htd.1, sizeOf, typeInfo, hi, Builtin.lenOf, Builtin.firstCells, storeCells]
        · rw [if_neg hc] at h; exact no h
      | _ => exact no h
    | _ => exact no h
end
end Go.Vm
set_option linter.unusedVariables false
set_option linter.unusedSimpArgs false
namespace Go.Vm
open Go Go.RowKit
section
variable {P : Program} {gl : List (Nat × Obj)} {R : Type} {c : Ctx} {o : Oper} {ρ : Ren} {X : Nat → Prop} {W0 : World} {N : Nat} {s : St} {a : Act} {W : World} {K : V → Mem → Nat → Option R} {r : R}
  {next : Act → World → Prop} {Q : Exit → Act → World → Prop}
theorem aop_ok (T : TOK P c.tab) (G : CallOK P gl c.call) (I : GI gl X W0) (hr : Rel ρ X W0 N s a W) (h : aop c o s K = some r) (hn : Goes o ρ X W0 N s a K r next) : o.wp P a W next Q := by
  unfold aop at h
  cases ho : o.op <;> rw [ho] at h <;> try (exact no h)
  case move x => exact op_move (.inl ho) hr h hn
  case assign x => exact op_move (.inr ho) hr h hn
  case pick b x y => exact op_pick ho hr h hn
  case alloc t => exact op_alloc T ho hr h hn
  case box t x => exact op_box T ho hr h hn
  case build t ps => exact op_build T ho hr h hn
  case buildSlice t len ps => exact op_buildSlice T ho hr h hn
  case load t x => exact op_load T ho hr h hn
  case store t x y => exact op_store T ho hr h hn
  case nilCheck x => exact op_nilCheck ho hr h hn
  case binOp op t x y t' => exact op_binOp T ho hr h hn
  case unOp op t x => exact op_unOp ho hr h hn
  case convert src dst x => exact op_convert T ho hr h hn
  case makeSlice t l cp => exact op_makeSlice T ho hr h hn
  case slice t x lo hi mx => exact op_slice T ho hr h hn
  case fieldAddr t x k => exact op_fieldAddr T ho hr h hn
  case field t x k => exact op_field T ho hr h hn
  case indexAddr t x ix => exact op_indexAddr T ho hr h hn
  case index t x ix => exact op_index T ho hr h hn
  case extract x k => exact op_extract ho hr h hn
  case call cl =>
    obtain ⟨callee, xs, ats⟩ := cl
    cases callee with
    | invoke rv m => exact no h
    | value f =>
      cases f with
      | func g => exact op_call G I ho hr h hn
      | _ => exact no h
    | builtin b =>
      cases b with
      | len => exact op_len T ho hr h hn
      | min => exact op_min ho hr h hn
      | max => exact op_max ho hr h hn
      | append => exact op_append T ho hr h hn
      | _ => exact no h
end
section
variable {P : Program} {gl : List (Nat × Obj)} {R : Type} {c : Ctx} {ρ : Ren} {X : Nat → Prop} {W0 : World} {s : St} {a : Act} {W : World} {r : R}
/-- What is left of a walk: some state of the machine that fits, from which it goes on to the same answer. -/
def Lands (c : Ctx) (ρ : Ren) (X : Nat → Prop) (W0 : World) (K : St → Option R) (r : R) (a : Act) (W : World) : Prop :=
  ∃ ρ' s', Ext ρ ρ' ∧ Rel ρ' X W0 c.slots s' a W ∧ K s' = some r
theorem Lands.of_ext {ρ0 : Ren} (he : Ext ρ0 ρ) {K : St → Option R} (h : Lands c ρ X W0 K r a W) : Lands c ρ0 X W0 K r a W := by
  obtain ⟨ρ', s', h1, h2, h3⟩ := h
  exact ⟨ρ', s', he.trans h1, h2, h3⟩
theorem yield_ok {all : List Oper} (hr : Rel ρ X W0 c.slots s a W) {g : Nat} {t : Tmp} (hg : (all[g]?).bind (·.dst) = some t) (ht : t < c.slots) :
    (∀ b, s.env t = .bool b → yielded all.toArray a.tmps g = some b) ∧ (s.env t = .tup [] → yielded all.toArray a.tmps g = none) := by
  have hv := hr.env t
  have hs : a.tmps[t]? = some (a.tmps.getD t undef) := by
    have : t < a.tmps.size := by rw [hr.size]; exact ht
    simp [Array.getD, this]
  have hg' : (all.toArray[g]?).bind (·.dst) = some t := by simpa using hg
  constructor
  · intro b hb
    rw [hb] at hv
    unfold yielded
    rw [hg']
    simp only [Option.bind_some, hs]
    generalize a.tmps.getD t undef = q at hv
    cases hv; rfl
  · intro hb
    rw [hb] at hv
    unfold yielded
    rw [hg']
    simp only [Option.bind_some, hs]
    generalize a.tmps.getD t undef = q at hv
    cases hv; rfl
theorem runOps_ok (T : TOK P c.tab) (G : CallOK P gl c.call) (I : GI gl X W0) (all : List Oper) {Q : Exit → Act → World → Prop} : ∀ (os : List Oper) (ρ : Ren) (s : St) (a : Act) (W : World) (K : St → Option R), Rel ρ X W0 c.slots s a W → runOps c all os s K = some r →
    (∀ a' W', Lands c ρ X W0 K r a' W' → Q .normal a' W') → wpList P all.toArray Q os a W
  | [], ρ, s, a, W, K, hr, h, hq => hq a W ⟨ρ, s, Ext.refl ρ, hr, h⟩
  | o :: os, ρ, s, a, W, K, hr, h, hq => by
    simp only [runOps] at h
    by_cases hd : dstOk c.slots o.dst = true
    · rw [if_pos hd] at h
      have hdst : ∀ t, o.dst = some t → t < c.slots := by
        intro t ht
        rw [ht] at hd
        exact of_decide_eq_true hd
      -- the operation is carried out
      have go : aop c o s (fun v m nx => runOps c all os (St.put ⟨s.env, m, nx⟩ o.dst v) K) = some r → Region.wanted o (yielded all.toArray a.tmps) = true → wpList P all.toArray Q (o :: os) a W := by
        intro h hw
        unfold wpList
        rw [if_pos hw]
        refine .inl (aop_ok T G I hr h ?_)
        intro ρ' v v' m nx W' he hvr hrel hk
        exact runOps_ok T G I all os ρ' _ _ W' K (hrel.put o.dst hdst hvr) hk (fun a' W'' hl => hq a' W'' (hl.of_ext he.1))
      -- it is passed over
      have off : runOps c all os (s.put o.dst (.tup [])) K = some r → Region.wanted o (yielded all.toArray a.tmps) = false → wpList P all.toArray Q (o :: os) a W := by
        intro h hw
        unfold wpList
        rw [hw]
        exact runOps_ok T G I all os ρ _ _ W K (hr.put o.dst hdst (.tup rfl (fun i c v h => by simp at h))) h hq
      cases hg : o.guard with
      | none =>
        rw [hg] at h
        exact go h (by simp [Region.wanted, hg])
      | some gw =>
        obtain ⟨g, want⟩ := gw
        rw [hg] at h
        simp only at h
        cases hb : (all[g]?).bind (·.dst) with
        | none => simp [hb] at h
        | some t =>
          simp only [hb] at h
          by_cases ht : t < c.slots
          · rw [if_pos ht] at h
            obtain ⟨y1, y2⟩ := yield_ok (c := c) hr hb ht
            cases he : s.env t <;> rw [he] at h <;> try (exact no h)
            · rename_i b
              have hy := y1 b he
              rcases condW_some h with ⟨hc, h⟩ | ⟨hc, h⟩
              · rw [St.know_eq (by rw [he, hc])] at h
                exact go h (by simp [Region.wanted, hg, hy, hc])
              · rw [St.know_eq (by rw [he, hc])] at h
                exact off h (by cases want <;> simp [Region.wanted, hg, hy, hc])
            · rename_i cs
              cases cs with
              | nil => exact off h (by simp [Region.wanted, hg, y2 he])
              | cons x xs => exact no h
          · rw [if_neg ht] at h; exact no h
    · rw [if_neg hd] at h; exact no h
end
end Go.Vm
