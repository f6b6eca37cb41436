/- A machine that runs a translated function over symbolic data, and its soundness; part 2 of 3. -/
import Derived.Test.YtfcmkfdofogenaaDoorV1
set_option linter.unusedVariables false
set_option linter.unusedSimpArgs false
namespace Go.Vm
open Go Go.RowKit

/-! ### rows renumbered -/
def lfIn (ok : Nat → Bool) : V → Bool
  | .ptr id _ _ => ok id
  | .sl id _ _ => ok id
  | .agg _ => false
  | .tup _ => false
  | _ => true
def in1 (ok : Nat → Bool) : V → Bool
  | .agg cs => cs.all (lfIn ok)
  | v => lfIn ok v
def in2 (ok : Nat → Bool) : V → Bool
  | .tup cs => cs.all (in1 ok)
  | v => in1 ok v
def renL (f : Nat → Nat) : V → V
  | .ptr id i x => .ptr (f id) i x
  | .sl id o l => .sl (f id) o l
  | v => v
def ren1 (f : Nat → Nat) : V → V
  | .agg cs => .agg (cs.map (renL f))
  | v => renL f v
def ren2 (f : Nat → Nat) : V → V
  | .tup cs => .tup (cs.map (ren1 f))
  | v => ren1 f v
def fdOk : List Fd → Bool
  | [] => true
  | .ref :: _ => false
  | _ :: fs => fdOk fs
def bodyIn (ok : Nat → Bool) : Body → Bool
  | .one cs => cs.all (lfIn ok)
  | .col f _ => fdOk [f]
  | .recs fs _ => fdOk fs
def renB (f : Nat → Nat) : Body → Body
  | .one cs => .one (cs.map (renL f))
  | b => b
def refL : V → List Nat
  | .ptr id _ _ => [id]
  | .sl id _ _ => [id]
  | _ => []
def ref1 : V → List Nat
  | .agg cs => cs.flatMap refL
  | v => refL v
def ref2 : V → List Nat
  | .tup cs => cs.flatMap ref1
  | v => ref1 v
def refB : Body → List Nat
  | .one cs => cs.flatMap refL
  | _ => []
def addNew : List Nat → List Nat → List Nat
  | l, [] => l
  | l, x :: xs => cond (l.elem x) (addNew l xs) (addNew (l ++ [x]) xs)
/-- The rows that are reached from some. -/
def reach (m : Mem) : Nat → List Nat → List Nat
  | 0, l => l
  | n + 1, l => reach m n (addNew l (l.flatMap fun id => match m id with | some r => refB r.body | none => []))

section
variable {ρ ρ1 : Ren} {f : Nat → Nat} {ok : Nat → Bool}
theorem VR.renL (hok : ∀ id, ok id = true → ρ1 (f id) = ρ id) {x : V} {v : Value} (h : VR ρ x v) (hi : lfIn ok x = true) : VR ρ1 (renL f x) v := by
  cases h with
  | un v => exact .un v
  | int k n => exact .int k n
  | bool b => exact .bool b
  | str s => exact .str s
  | nils => exact .nils
  | nilp => exact .nilp
  | ptr h h1 h2 => exact .ptr ((hok _ hi).trans h) h1 h2
  | sl h hn hl hr hm => exact .sl ((hok _ hi).trans h) hn hl hr hm
  | slz id off b => exact .slz _ _ _
  | agg hl hf h => cases hi
  | tup hl h => cases hi
theorem leaf_renL (x : V) : leaf (Go.Vm.renL f x) = leaf x := by cases x <;> rfl
theorem VR.ren1 (hok : ∀ id, ok id = true → ρ1 (f id) = ρ id) {x : V} {v : Value} (h : VR ρ x v) (hi : in1 ok x = true) : VR ρ1 (ren1 f x) v := by
  cases h with
  | @agg cs vs hl hf h =>
    replace hi : cs.all (lfIn ok) = true := hi
    rw [List.all_eq_true] at hi
    refine .agg (by simpa using hl) ?_ ?_
    · intro c hc
      obtain ⟨d, hd, rfl⟩ := List.mem_map.1 hc
      rw [leaf_renL]; exact hf d hd
    · intro i c v hc hv
      rw [List.getElem?_map] at hc
      cases hd : cs[i]? with
      | none => rw [hd] at hc; cases hc
      | some d =>
        rw [hd] at hc; cases hc
        exact (h i d v hd hv).renL hok (hi d (List.mem_of_getElem? hd))
  | tup hl h => cases hi
  | un v => exact .un v
  | int k n => exact .int k n
  | bool b => exact .bool b
  | str s => exact .str s
  | nils => exact .nils
  | nilp => exact .nilp
  | ptr h h1 h2 => exact VR.renL hok (.ptr h h1 h2) hi
  | sl h hn hl hr hm => exact VR.renL hok (.sl h hn hl hr hm) hi
  | slz id off b => exact .slz _ _ _
theorem VR.ren2 (hok : ∀ id, ok id = true → ρ1 (f id) = ρ id) {x : V} {v : Value} (h : VR ρ x v) (hi : in2 ok x = true) : VR ρ1 (ren2 f x) v := by
  cases h with
  | @tup cs vs hl h =>
    replace hi : cs.all (in1 ok) = true := hi
    rw [List.all_eq_true] at hi
    refine .tup (by simpa using hl) ?_
    intro i c v hc hv
    rw [List.getElem?_map] at hc
    cases hd : cs[i]? with
    | none => rw [hd] at hc; cases hc
    | some d =>
      rw [hd] at hc; cases hc
      exact (h i d v hd hv).ren1 hok (hi d (List.mem_of_getElem? hd))
  | agg hl hf h => exact VR.ren1 hok (.agg hl hf h) hi
  | un v => exact .un v
  | int k n => exact .int k n
  | bool b => exact .bool b
  | str s => exact .str s
  | nils => exact .nils
  | nilp => exact .nilp
  | ptr h h1 h2 => exact VR.ren1 hok (.ptr h h1 h2) hi
  | sl h hn hl hr hm => exact VR.ren1 hok (.sl h hn hl hr hm) hi
  | slz id off b => exact .slz _ _ _
theorem renB_n (b : Body) : (renB f b).n = b.n ∧ (renB f b).sz = b.sz := by
  cases b <;> simp [renB, Body.n, Body.sz]
theorem encF_in {fd : Fd} (h : fdOk [fd] = true) (x : FdT fd) : lfIn ok (encF fd x) = true ∧ Go.Vm.renL f (encF fd x) = encF fd x := by
  cases fd <;> first | exact ⟨rfl, rfl⟩ | cases h
theorem encR_in : ∀ {fs : List Fd}, fdOk fs = true → ∀ (x : Rec fs) (j : Nat), lfIn ok ((encR fs x).getD j .un) = true ∧ Go.Vm.renL f ((encR fs x).getD j .un) = (encR fs x).getD j .un
  | [], _, _, j => by simp [encR, lfIn, Go.Vm.renL]
  | fd :: fs, h, (x, r), j => by
    have h1 : fdOk [fd] = true ∧ fdOk fs = true := by cases fd <;> simp_all [fdOk]
    cases j with
    | zero => simpa [encR] using encF_in h1.1 x
    | succ j => simpa [encR] using encR_in h1.2 r j
theorem renB_cell {b : Body} (h : bodyIn ok b = true) (i j : Nat) : lfIn ok (b.cell i j) = true ∧ (renB f b).cell i j = Go.Vm.renL f (b.cell i j) := by
  cases b with
  | one cs =>
    replace h : cs.all (lfIn ok) = true := h
    rw [List.all_eq_true] at h
    simp only [Body.cell, renB, List.getD_eq_getElem?_getD, List.getElem?_map]
    cases hc : cs[j]? with
    | none => exact ⟨rfl, rfl⟩
    | some c => exact ⟨h c (List.mem_of_getElem? hc), rfl⟩
  | col fd xs =>
    have := encF_in (ok := ok) (f := f) (fd := fd) h (xs.getD i (dfF fd))
    exact ⟨this.1, this.2.symm⟩
  | recs fs xs =>
    have := encR_in (ok := ok) (f := f) h (xs.getD i (dfR fs)) j
    exact ⟨this.1, this.2.symm⟩
/-- Rows under other numbers. -/
theorem MR.ren {X : Nat → Prop} {B : Nat} {m m1 : Mem} {W : World} (h : MR ρ X B m W) (hok : ∀ id, ok id = true → ρ1 (f id) = ρ id)
    (hm : ∀ id' r', m1 id' = some r' → ∃ id r, f id = id' ∧ ok id = true ∧ m id = some r ∧ bodyIn ok r.body = true ∧ r' = { r with body := renB f r.body }) : MR ρ1 X B m1 W where
  dim id' r' p h1 h2 := by
    obtain ⟨id, r, rfl, ho, hr, hb, rfl⟩ := hm _ _ h1
    rw [hok _ ho] at h2
    have := h.dim id r p hr h2
    exact ⟨this.1.trans (renB_n _).1.symm, this.2.1.trans (renB_n _).2.symm, this.2.2⟩
  cell id' r' p h1 h2 i j hi hj := by
    obtain ⟨id, r, rfl, ho, hr, hb, rfl⟩ := hm _ _ h1
    rw [hok _ ho] at h2
    obtain ⟨hl, v, hv, hvr⟩ := h.cell id r p hr h2 i j hi hj
    obtain ⟨c1, c2⟩ := renB_cell (f := f) hb i j
    show leaf ((renB f r.body).cell i j) = true ∧ ∃ v, _ ∧ VR ρ1 ((renB f r.body).cell i j) v
    rw [c2, leaf_renL]
    exact ⟨hl, v, hv, hvr.renL hok c1⟩
  own id' r' p h1 h2 := by
    obtain ⟨id, r, rfl, ho, hr, hb, rfl⟩ := hm _ _ h1
    rw [hok _ ho] at h2
    exact h.own id r p hr h2
  apart id id' r r' p p' hne h1 h1' h2 h2' := by
    obtain ⟨jd, s, rfl, ho, hr, hb, rfl⟩ := hm _ _ h1
    obtain ⟨jd', s', rfl, ho', hr', hb', rfl⟩ := hm _ _ h1'
    rw [hok _ ho] at h2; rw [hok _ ho'] at h2'
    exact h.apart jd jd' s s' p p' (fun e => hne (by rw [e])) hr hr' h2 h2'
end

/-! ### what is kept -/
def renN (base : Nat) (order : List Nat) (id : Nat) : Nat := cond (Nat.blt id base) id (base + order.idxOf id)
def keepIds (base : Nat) (keep : List Nat) (s : St) : List Nat :=
  (reach s.mem 3 (addNew [] (List.range base ++ keep.flatMap fun t => ref2 (s.env t)))).filter fun id => !Nat.blt id base
def okId (base : Nat) (order : List Nat) (id : Nat) : Bool := Nat.blt id base || order.elem id
def rowOk (ok : Nat → Bool) : Option Row → Bool
  | some r => bodyIn ok r.body
  | none => true
def mask (base : Nat) (keep : List Nat) (s : St) : Option St :=
  (fun order => cond ((keep.all fun t => in2 (okId base order) (s.env t)) && (List.range base ++ order).all fun id => rowOk (okId base order) (s.mem id))
    (some ⟨ofL (keep.map fun t => (t, ren2 (renN base order) (s.env t))),
      ofM ((List.range base ++ order).map fun id => (renN base order id, (s.mem id).map fun r => ⟨r.own, r.ty, renB (renN base order) r.body⟩)), base + order.length⟩) none) (keepIds base keep s)
def ExtB (n : Nat) (ρ ρ' : Ren) : Prop := ∀ id, id < n → ∀ p, ρ id = some p → ρ' id = some p
theorem ExtB.refl (n : Nat) (ρ : Ren) : ExtB n ρ ρ := fun _ _ _ h => h
theorem ExtB.trans {n : Nat} {ρ ρ1 ρ2 : Ren} (h : ExtB n ρ ρ1) (k : ExtB n ρ1 ρ2) : ExtB n ρ ρ2 := fun id hi p e => k id hi p (h id hi p e)
theorem Ext.toB {ρ ρ' : Ren} (h : Ext ρ ρ') (n : Nat) : ExtB n ρ ρ' := fun id _ p e => h id p e
theorem ofL_some {l : List Nat} {g : Nat → V} (t : Nat) : ofL (l.map fun t => (t, g t)) t = .un ∨ (t ∈ l ∧ ofL (l.map fun t => (t, g t)) t = g t) := by
  induction l with
  | nil => exact .inl rfl
  | cons x xs ih =>
    simp only [List.map_cons, ofL]
    by_cases e : t = x
    · subst e; rw [if_pos rfl]; exact .inr ⟨by simp, rfl⟩
    · rw [if_neg e]
      rcases ih with h | ⟨h1, h2⟩
      · exact .inl h
      · exact .inr ⟨by simp [h1], h2⟩
theorem ofM_some {l : List Nat} {f : Nat → Nat} {g : Nat → Option Row} {t : Nat} {r : Row} (h : ofM (l.map fun t => (f t, g t)) t = some r) : ∃ id, id ∈ l ∧ f id = t ∧ g id = some r := by
  induction l with
  | nil => cases h
  | cons x xs ih =>
    simp only [List.map_cons, ofM] at h
    by_cases e : t = f x
    · rw [if_pos e] at h; exact ⟨x, by simp, e.symm, h⟩
    · rw [if_neg e] at h
      obtain ⟨id, h1, h2, h3⟩ := ih h
      exact ⟨id, by simp [h1], h2, h3⟩
section
variable {ρ : Ren} {X : Nat → Prop} {W0 : World} {N : Nat} {s s1 : St} {a : Act} {W : World}
def rho1 (ρ : Ren) (base : Nat) (order : List Nat) : Ren := fun id => if id < base then ρ id else match order[id - base]? with | some j => ρ j | none => none
theorem rho1_ok (base : Nat) (order : List Nat) (id : Nat) (h : okId base order id = true) : rho1 ρ base order (renN base order id) = ρ id := by
  unfold renN rho1
  simp only [okId, Bool.or_eq_true] at h
  cases hb : Nat.blt id base with
  | true => simp only [cond_true]; rw [if_pos (by simpa [Nat.blt_eq] using hb)]
  | false =>
    simp only [cond_false]
    rw [if_neg (by omega), Nat.add_sub_cancel_left]
    rw [hb] at h
    have hm : id ∈ order := by simpa using h
    rw [List.getElem?_eq_getElem (List.idxOf_lt_length_of_mem hm)]
    simp
theorem mask_ok {base : Nat} {keep : List Nat} (hr : Rel ρ X W0 N s a W) (h : mask base keep s = some s1) : ∃ ρ1, ExtB base ρ ρ1 ∧ Rel ρ1 X W0 N s1 a W := by
  unfold mask at h
  generalize keepIds base keep s = order at h
  simp only at h
  rcases cond_some h with ⟨hc, h⟩ | ⟨_, h⟩
  · cases h
    rw [Bool.and_eq_true, List.all_eq_true, List.all_eq_true] at hc
    obtain ⟨h1, h2⟩ := hc
    refine ⟨rho1 ρ base order, ?_, ?_, hr.size, hr.defers, ?_, ?_, hr.fr⟩
    · intro id hi p hp; unfold rho1; rw [if_pos hi]; exact hp
    · intro t
      rcases ofL_some (l := keep) (g := fun t => ren2 (renN base order) (s.env t)) t with e | ⟨hm, e⟩
      · show VR _ (ofL _ t) _
        rw [e]; exact .un _
      · show VR _ (ofL _ t) _
        rw [e]; exact (hr.env t).ren2 (rho1_ok base order) (h1 t hm)
    · refine hr.mem.ren (rho1_ok base order) ?_
      intro id' r' hm
      obtain ⟨id, hid, hf, hg⟩ := ofM_some (f := renN base order) (g := fun id => (s.mem id).map fun r => (⟨r.own, r.ty, renB (renN base order) r.body⟩ : Row)) hm
      cases hs : s.mem id with
      | none => rw [hs] at hg; cases hg
      | some r =>
        rw [hs] at hg
        have hb := h2 id hid
        rw [hs] at hb
        refine ⟨id, r, hf, ?_, hs, hb, (Option.some.inj hg).symm⟩
        simp only [okId, Bool.or_eq_true]
        rcases List.mem_append.1 hid with h | h
        · exact .inl (by simpa [Nat.blt_eq] using h)
        · exact .inr (by simpa using h)
    · intro id hi
      replace hi : base + order.length ≤ id := hi
      unfold rho1
      rw [if_neg (by omega), List.getElem?_eq_none (by omega)]
  · exact no h

/-! ### nil slices as empty rows -/
def emptyB : List Fd → Body
  | [f] => .col f []
  | fs => .recs fs []
def nilSlot (x : Nat × TypeId × List Fd) (s : St) : St :=
  match s.env x.1 with
  | .nils => ⟨fun t => cond (Nat.beq t x.1) (.sl s.nx 0 0) (s.env t), upd s.mem s.nx (some ⟨true, x.2.1, emptyB x.2.2⟩), s.nx + 1⟩
  | _ => s
def nilCell (x : Nat × Nat × TypeId × List Fd) (s : St) : St :=
  match s.mem x.1 with
  | some ⟨o, ty, .one cs⟩ => (match cs[x.2.1]? with
    | some .nils => ⟨s.env, upd (upd s.mem x.1 (some ⟨o, ty, .one (cs.set x.2.1 (.sl s.nx 0 0))⟩)) s.nx (some ⟨true, x.2.2.1, emptyB x.2.2.2⟩), s.nx + 1⟩
    | _ => s)
  | _ => s
def mask2 (base : Nat) (k : Keep) (s : St) : Option St :=
  mask base k.keep (k.sl.foldl (fun s x => nilSlot x s) (k.cells.foldl (fun s x => nilCell x s) s))
theorem nilSlot_ok (hr : Rel ρ X W0 N s a W) (x : Nat × TypeId × List Fd) : Rel ρ X W0 N (nilSlot x s) a W := by
  unfold nilSlot
  split
  · rename_i he
    refine ⟨?_, hr.size, hr.defers, hr.mem.ghost (hr.nx s.nx (Nat.le_refl _)) _, fun id hid => hr.nx id (Nat.le_of_succ_le hid), hr.fr⟩
    intro t
    have ht := hr.env t
    show VR ρ (cond (Nat.beq t x.1) (.sl s.nx 0 0) (s.env t)) _
    cases hb : Nat.beq t x.1 with
    | false => exact ht
    | true =>
      have := Nat.eq_of_beq_eq_true hb
      subst this
      rw [he] at ht
      generalize a.tmps.getD x.1 undef = v at ht
      cases ht
      exact .slz _ _ _
  · exact hr
theorem nilCell_ok (hr : Rel ρ X W0 N s a W) (x : Nat × Nat × TypeId × List Fd) : Rel ρ X W0 N (nilCell x s) a W := by
  unfold nilCell
  split
  · rename_i o ty cs hm
    split
    · rename_i hc
      have hnx := hr.nx s.nx (Nat.le_refl _)
      have h1 := hr.mem.same hm (b := .one (cs.set x.2.1 (.sl s.nx 0 0))) (by simp [Body.n, Body.sz]) (by
        intro i f v hi hf hlf hv
        have hf' : f < cs.length := by simpa [Body.sz] using hf
        have e0 : (Body.one cs).cell i f = cs[f] := by simp [Body.cell, List.getD, hf']
        have e1 : (Body.one (cs.set x.2.1 (.sl s.nx 0 0))).cell i f = if x.2.1 = f then .sl s.nx 0 0 else cs[f] := by
          simp [Body.cell, List.getD, List.getElem?_set, hf']
          split <;> simp_all
        by_cases e : x.2.1 = f
        · subst e
          have : cs[x.2.1] = .nils := by
            rw [List.getElem?_eq_getElem hf'] at hc
            exact Option.some.inj hc
          rw [e0, this] at hv
          cases hv
          rw [e1, if_pos rfl]
          exact ⟨.slz _ _ _, rfl⟩
        · rw [e1, if_neg e]
          rw [e0] at hv
          rw [e0] at hlf
          exact ⟨hv, hlf⟩)
      exact ⟨hr.env, hr.size, hr.defers, h1.ghost hnx _, fun id hid => hr.nx id (Nat.le_of_succ_le hid), hr.fr⟩
    · exact hr
  · exact hr
theorem mask2_ok {base : Nat} {k : Keep} (hr : Rel ρ X W0 N s a W) (h : mask2 base k s = some s1) : ∃ ρ1, ExtB base ρ ρ1 ∧ Rel ρ1 X W0 N s1 a W := by
  unfold mask2 at h
  have f1 : ∀ (l : List (Nat × Nat × TypeId × List Fd)) (s : St), Rel ρ X W0 N s a W → Rel ρ X W0 N (l.foldl (fun s x => nilCell x s) s) a W := by
    intro l
    induction l with
    | nil => exact fun s h => h
    | cons x l ih => exact fun s h => ih _ (nilCell_ok h x)
  have f2 : ∀ (l : List (Nat × TypeId × List Fd)) (s : St), Rel ρ X W0 N s a W → Rel ρ X W0 N (l.foldl (fun s x => nilSlot x s) s) a W := by
    intro l
    induction l with
    | nil => exact fun s h => h
    | cons x l ih => exact fun s h => ih _ (nilSlot_ok h x)
  exact mask_ok (f2 _ _ (f1 _ _ hr)) h
end
end Go.Vm
set_option linter.unusedVariables false
set_option linter.unusedSimpArgs false
namespace Go.Vm
open Go

/-! ### what an operation hands on does not hang on who asks -/
def Par (F : (R : Type) → (V → Mem → Nat → Option R) → Option R) : Prop :=
  ∀ R K r, F R K = some r → ∃ v m nx, K v m nx = some r ∧ ∀ R' K', F R' K' = K' v m nx
def CallPar (call : FuncId → List V → Mem → Nat → (R : Type) → (V → Mem → Nat → Option R) → Option R) : Prop := ∀ g vs m nx, Par fun R K => call g vs m nx R K
theorem par_none : Par fun R K => none := fun R K r h => no h
theorem par_leaf (v : V) (m : Mem) (nx : Nat) : Par fun R K => K v m nx := fun R K r h => ⟨v, m, nx, h, fun _ _ => rfl⟩
theorem par_cond {b : Bool} {F G : (R : Type) → (V → Mem → Nat → Option R) → Option R} (hF : Par F) (hG : Par G) : Par fun R K => cond b (F R K) (G R K) := by
  cases b
  · exact hG
  · exact hF
theorem par_ite {p : Prop} [Decidable p] {F G : (R : Type) → (V → Mem → Nat → Option R) → Option R} (hF : Par F) (hG : Par G) : Par fun R K => if p then F R K else G R K := by
  by_cases h : p
  · simpa only [if_pos h] using hF
  · simpa only [if_neg h] using hG
theorem par_sel {F : Nat → (R : Type) → (V → Mem → Nat → Option R) → Option R} (hF : ∀ q, Par (F q)) (i : Int) : ∀ (n j : Nat), Par fun R K => selIdx i (fun q => F q R K) j n
  | 0, j => par_none
  | n + 1, j => by
    simp only [selIdx]
    exact par_cond (hF j) (par_sel hF i n (j + 1))
section
variable (c : Ctx) (s : St)
theorem par_pick (b x y : Operand) : Par fun R K => aPick c s b x y K := by
  unfold aPick
  generalize opv s b = vb
  cases vb <;> first | exact par_none | exact par_cond (par_leaf _ _ _) (par_leaf _ _ _)
theorem par_alloc (t : TypeId) : Par fun R K => aAlloc c s t K := by
  unfold aAlloc
  generalize c.tab t = q
  cases q <;> first | exact par_none | exact par_ite (par_leaf _ _ _) par_none
theorem par_box (t : TypeId) (x : Operand) : Par fun R K => aBox c s t x K := by
  unfold aBox
  generalize c.tab t = q
  generalize cellsV (opv s x) = p
  cases q <;> cases p <;> first | exact par_none | exact par_ite (par_leaf _ _ _) par_none
theorem par_load (t : TypeId) (x : Operand) : Par fun R K => aLoad c s t x K := by
  unfold aLoad
  generalize c.tab t = q
  generalize opv s x = vx
  cases vx <;> cases q <;> try exact par_none
  rename_i id i f ti
  dsimp only
  generalize s.mem id = row
  cases row <;> first | exact par_none | exact par_ite (par_ite (par_leaf _ _ _) (par_ite (par_leaf _ _ _) par_none)) par_none
theorem par_store (t : TypeId) (x y : Operand) : Par fun R K => aStore c s t x y K := by
  unfold aStore
  generalize c.tab t = q
  generalize cellsV (opv s y) = cy
  generalize opv s x = vx
  cases vx <;> cases q <;> cases cy <;> try exact par_none
  rename_i id i f ti cs
  dsimp only
  generalize s.mem id = row
  cases row with
  | none => exact par_none
  | some row =>
    refine par_ite ?_ par_none
    generalize wrCells row.body i f cs = b
    cases b <;> first | exact par_none | exact par_leaf _ _ _
theorem par_nilCheck (x : Operand) : Par fun R K => aNilCheck c s x K := by
  unfold aNilCheck
  generalize opv s x = vx
  cases vx <;> first | exact par_none | exact par_leaf _ _ _
theorem par_extract (x : Operand) (k : Nat) : Par fun R K => aExtract c s x k K := by
  unfold aExtract
  generalize opv s x = vx
  cases vx <;> try exact par_none
  rename_i vs
  dsimp only
  generalize vs[k]? = w
  cases w <;> first | exact par_none | exact par_leaf _ _ _
theorem par_fieldAddr (t : TypeId) (x : Operand) (k : Nat) : Par fun R K => aFieldAddr c s t x k K := by
  unfold aFieldAddr
  generalize c.tab t = q
  generalize opv s x = vx
  cases vx <;> try exact par_none
  rename_i id i f
  cases q with
  | none => exact par_none
  | some ti =>
  obtain ⟨td, _, _, _, _, _, _⟩ := ti
  cases td <;> try exact par_none
  rename_i fs
  dsimp only
  generalize fs[k]? = w
  cases w with
  | none => exact par_none
  | some w =>
  obtain ⟨off, e⟩ := w
  dsimp only
  generalize s.mem id = row
  generalize c.tab e = te
  cases row <;> cases te <;> first | exact par_none | exact par_ite (par_leaf _ _ _) par_none
theorem par_unOp (op : UnOp) (x : Operand) : Par fun R K => aUnOp c s op x K := by
  unfold aUnOp
  generalize opv s x = vx
  cases op <;> cases vx <;> first | exact par_none | exact par_leaf _ _ _
theorem par_text (e : TypeId) (id off len : Nat) : Par fun R K => aText c s e id off len K := by
  unfold aText
  generalize c.tab e = q
  generalize s.mem id = m
  cases q with
  | none => exact par_none
  | some q =>
  obtain ⟨td, _, _, _, _, _, _⟩ := q
  cases td <;> try exact par_none
  rename_i k
  cases k <;> try exact par_none
  cases m with
  | none => exact par_none
  | some m =>
  obtain ⟨_, _, body⟩ := m
  cases body with
  | one _ => exact par_none
  | recs _ _ => exact par_none
  | col fd xs =>
  cases fd <;> try exact par_none
  rename_i k
  cases k <;> first | exact par_none | exact par_leaf _ _ _
theorem par_convert (src dst : TypeId) (x : Operand) : Par fun R K => aConvert c s src dst x K := by
  unfold aConvert
  generalize c.tab src = q
  generalize c.tab dst = q'
  generalize opv s x = vx
  cases q with
  | none => exact par_none
  | some q =>
  cases q' with
  | none => exact par_none
  | some ti =>
  obtain ⟨td, _, _, _, _, _, _⟩ := ti
  obtain ⟨sd, _, _, _, _, _, _⟩ := q
  cases td <;> cases vx <;> first | exact par_leaf _ _ _ | (cases sd <;> first | exact par_none | exact par_text _ _ _ _ _ _)
theorem par_field (t : TypeId) (x : Operand) (k : Nat) : Par fun R K => aField c s t x k K := by
  unfold aField
  generalize c.tab t = q
  generalize opv s x = vx
  cases vx <;> try exact par_none
  cases q with
  | none => exact par_none
  | some ti =>
  obtain ⟨td, _, _, _, _, _, _⟩ := ti
  cases td <;> try exact par_none
  rename_i cs _ _ _ _ _ _ fs
  dsimp only
  generalize fs[k]? = w
  cases w with
  | none => exact par_none
  | some w =>
  obtain ⟨off, e⟩ := w
  dsimp only
  generalize partV c.tab e _ off = pv
  cases pv <;> first | exact par_none | exact par_leaf _ _ _
theorem par_indexAddr (t : TypeId) (x ix : Operand) : Par fun R K => aIndexAddr c s t x ix K := by
  unfold aIndexAddr
  generalize c.tab t = q
  generalize opv s x = vx
  generalize opv s ix = vi
  rcases q with _ | ⟨td, _, _, _, _, _, _⟩
  · cases vx <;> try exact par_none
    all_goals cases vi <;> exact par_none
  cases vx <;> try exact par_none
  · rename_i id j f
    cases vi <;> try exact par_none
    rename_i k i
    cases td <;> try exact par_none
    rename_i n e
    dsimp only
    generalize s.mem id = row
    generalize c.tab e = te
    cases te <;> cases row <;> first | exact par_none | exact par_ite (par_sel (fun _ => par_leaf _ _ _) _ _ _) par_none
  · rename_i id off len
    cases vi <;> try exact par_none
    rename_i k i
    cases td <;> try exact par_none
    rename_i e
    dsimp only
    generalize s.mem id = row
    generalize c.tab e = te
    cases te <;> cases row <;> first | exact par_none | exact par_ite (par_cond (par_cond (par_leaf _ _ _) par_none) par_none) par_none
theorem par_index (t : TypeId) (x ix : Operand) : Par fun R K => aIndex c s t x ix K := by
  unfold aIndex
  generalize c.tab t = q
  generalize opv s x = vx
  generalize opv s ix = vi
  rcases q with _ | ⟨td, _, _, _, _, _, _⟩
  · cases vx <;> try exact par_none
    all_goals cases vi <;> exact par_none
  cases vx <;> try exact par_none
  · cases vi <;> try exact par_none
    cases td <;> try exact par_none
    exact par_cond (par_cond (par_leaf _ _ _) par_none) par_none
  · rename_i cs
    cases vi <;> try exact par_none
    rename_i k i
    cases td <;> try exact par_none
    rename_i n e
    dsimp only
    generalize c.tab e = te
    cases te with
    | none => exact par_none
    | some te =>
      dsimp only
      refine par_sel (F := fun q R K => match partV c.tab e cs (q * te.size) with | some v => K v s.mem s.nx | none => none) (fun q => ?_) _ _ _
      generalize partV c.tab e cs (q * te.size) = pv
      cases pv <;> first | exact par_none | exact par_leaf _ _ _
theorem par_slice (t : TypeId) (x : Operand) (lo hi mx : Option Operand) : Par fun R K => aSlice c s t x lo hi mx K := by
  unfold aSlice
  generalize c.tab t = q
  generalize opv s x = vx
  generalize optI s lo = l
  generalize optI s hi = h
  generalize optI s mx = m
  rcases q with _ | ⟨td, _, _, _, _, _, _⟩
  · cases vx <;> exact par_none
  cases vx <;> try exact par_none
  · cases td <;> try exact par_none
    rcases l with _ | _ | l <;> rcases h with _ | _ | h <;> rcases m with _ | _ | m <;> first | exact par_none | exact par_cond (par_cond (par_cond (par_leaf _ _ _) par_none) par_none) par_none
  · rename_i id off len
    cases td <;> try exact par_none
    rename_i e
    dsimp only
    generalize s.mem id = row
    generalize c.tab e = te
    cases te <;> cases row <;> try exact par_none
    refine par_ite ?_ par_none
    rcases l with _ | _ | l <;> rcases h with _ | _ | h <;> rcases m with _ | _ | m <;> first | exact par_none | exact par_leaf _ _ _ | exact par_cond (par_cond (par_leaf _ _ _) par_none) par_none | exact par_cond (par_cond (par_cond (par_leaf _ _ _) par_none) par_none) par_none
theorem par_build (t : TypeId) (ps : Array (Nat × Operand)) : Par fun R K => aBuild c s t ps K := by
  unfold aBuild
  generalize c.tab t = q
  cases q with
  | none => exact par_none
  | some ti =>
  obtain ⟨td, _, _, _, z, _, _⟩ := ti
  cases td <;> try exact par_none
  · rename_i n e
    dsimp only
    generalize c.tab e = te
    cases te with
    | none => exact par_none
    | some te =>
      dsimp only
      generalize buildV _ _ _ = b
      cases b <;> first | exact par_none | exact par_leaf _ _ _
  · dsimp only
    generalize buildV _ _ _ = b
    cases b <;> first | exact par_none | exact par_leaf _ _ _
theorem par_buildSlice (t : TypeId) (len : Nat) (ps : Array (Nat × Operand)) : Par fun R K => aBuildSlice c s t len ps K := by
  unfold aBuildSlice
  generalize c.tab t = q
  cases q with
  | none => exact par_none
  | some ti =>
  obtain ⟨td, _, _, _, z, _, _⟩ := ti
  cases td <;> try exact par_none
  rename_i e
  dsimp only
  generalize c.tab e = te
  cases te with
  | none => exact par_none
  | some te =>
    dsimp only
    generalize buildV _ _ _ = b
    cases b with
    | none => exact par_none
    | some cs =>
      dsimp only
      generalize mkBody _ _ _ = b
      cases b <;> first | exact par_none | exact par_ite (par_leaf _ _ _) par_none
theorem par_makeSlice (t : TypeId) (l cp : Operand) : Par fun R K => aMakeSlice c s t l cp K := by
  unfold aMakeSlice
  generalize c.tab t = q
  generalize opv s l = vl
  generalize opv s cp = vc
  cases q with
  | none => exact par_none
  | some ti =>
  obtain ⟨td, _, _, _, z, _, _⟩ := ti
  cases td <;> try exact par_none
  rename_i e
  dsimp only
  generalize c.tab e = te
  cases te with
  | none => exact par_none
  | some te =>
    cases vl <;> try exact par_none
    rename_i k n
    cases vc <;> try (cases k <;> exact par_none)
    rename_i k' m
    cases k <;> try exact par_none
    cases k' <;> try exact par_none
    dsimp only
    refine par_cond (par_cond (par_cond ?_ par_none) par_none) par_none
    generalize zeroBody _ _ _ = b
    cases b <;> first | exact par_none | exact par_ite (par_leaf _ _ _) par_none
theorem par_len (xs : Array Operand) (ats : Array TypeId) : Par fun R K => aLen c s xs ats K := by
  unfold aLen
  generalize xs.toList.map (opv s) = vs
  generalize ats.toList.map c.tab = ts
  rcases vs with _ | ⟨v, _ | ⟨v', vs⟩⟩
  · exact par_none
  · rcases ts with _ | ⟨t, _ | ⟨t', ts⟩⟩
    · cases v <;> exact par_none
    · rcases t with _ | ⟨td, _, _, _, _, _, _⟩
      · cases v <;> exact par_none
      · cases v <;> cases td <;> first | exact par_none | exact par_leaf _ _ _
    · rcases t with _ | ⟨td, _, _, _, _, _, _⟩
      · cases v <;> exact par_none
      · cases v <;> cases td <;> exact par_none
  · cases v <;> exact par_none
theorem par_min (xs : Array Operand) : Par fun R K => aMin c s xs K := by
  unfold aMin
  generalize xs.toList.map (opv s) = vs
  rcases vs with _ | ⟨v, _ | ⟨w, _ | ⟨v', vs⟩⟩⟩
  · exact par_none
  · cases v <;> exact par_none
  · cases v <;> cases w <;> first | exact par_none | exact par_leaf _ _ _
  · cases v <;> cases w <;> exact par_none
theorem par_max (xs : Array Operand) : Par fun R K => aMax c s xs K := by
  unfold aMax
  generalize xs.toList.map (opv s) = vs
  rcases vs with _ | ⟨v, _ | ⟨w, _ | ⟨v', vs⟩⟩⟩
  · exact par_none
  · cases v <;> exact par_none
  · cases v <;> cases w <;> first | exact par_none | exact par_leaf _ _ _
  · cases v <;> cases w <;> exact par_none
theorem par_app0 (x : V) (t t' : TypeId) : Par fun R K => aApp0 c s x t t' K := by
  unfold aApp0
  generalize c.tab t = q
  rcases q with _ | ⟨td, _, _, _, _, _, _⟩
  · exact par_none
  · cases td <;> cases x <;> first | exact par_none | exact par_ite (par_leaf _ _ _) par_none
theorem par_app1 (x : V) (id2 off2 len2 : Nat) (t t' : TypeId) : Par fun R K => aApp1 c s x id2 off2 len2 t t' K := by
  unfold aApp1
  generalize c.tab t = q
  generalize s.mem id2 = r2
  rcases q with _ | ⟨td, _, _, _, _, _, _⟩
  · exact par_none
  · cases td <;> cases r2 <;> try exact par_none
    rename_i e row2
    dsimp only
    generalize c.tab e = te
    cases te with
    | none => exact par_none
    | some te =>
      refine par_ite ?_ par_none
      cases x <;> try exact par_none
      · exact par_cond (par_leaf _ _ _) (par_cond (par_leaf _ _ _) par_none)
      · rename_i id off len
        dsimp only
        generalize s.mem id = row
        cases row with
        | none => exact par_none
        | some row =>
          refine par_ite ?_ par_none
          generalize (row.body.sub off len).app (row2.body.sub off2 len2) = b
          cases b <;> first | exact par_none | exact par_cond (par_leaf _ _ _) par_none
theorem par_append (xs : Array Operand) (ats : Array TypeId) : Par fun R K => aAppend c s xs ats K := by
  unfold aAppend
  generalize xs.toList.map (opv s) = vs
  generalize ats.toList = ts
  rcases vs with _ | ⟨v, _ | ⟨w, _ | ⟨v', vs⟩⟩⟩
  · exact par_none
  · exact par_none
  · rcases ts with _ | ⟨t, _ | ⟨t', _ | ⟨t'', ts⟩⟩⟩
    · cases w <;> exact par_none
    · cases w <;> exact par_none
    · cases w <;> first | exact par_none | exact par_app0 c s _ _ _ | exact par_app1 c s _ _ _ _ _ _
    · cases w <;> exact par_none
  · cases w <;> exact par_none
theorem par_bin (t : TypeId) (op : BinOp) (x y : V) : Par fun R K => binC c.tab t op x y fun v => K v s.mem s.nx := by
  unfold binC
  generalize c.tab t = q
  cases x <;> cases y <;> try exact par_none
  · -- whole numbers
    rename_i k a k' b
    cases op <;> first
      | exact par_cond par_none (par_leaf _ _ _)
      | exact par_ite (par_cond par_none (par_leaf _ _ _)) par_none
      | (refine par_ite ?_ par_none
         generalize binI _ _ _ _ = w
         cases w <;> first | exact par_none | exact par_leaf _ _ _)
  · rcases q with _ | ⟨td, _, _, _, _, _, _⟩
    · exact par_none
    · cases td <;> try exact par_none
      cases op <;> first | exact par_none | exact par_leaf _ _ _ | exact par_cond (par_leaf _ _ _) par_none
  · cases op <;> first | exact par_none | exact par_leaf _ _ _
  · rcases q with _ | ⟨td, _, _, _, _, _, _⟩
    · exact par_none
    · cases td <;> try exact par_none
      cases op <;> first | exact par_none | exact par_leaf _ _ _ | exact par_cond (par_leaf _ _ _) par_none
  · rcases q with _ | ⟨td, _, _, _, _, _, _⟩
    · exact par_none
    · cases td <;> try exact par_none
      cases op <;> first | exact par_none | exact par_leaf _ _ _ | exact par_cond (par_leaf _ _ _) par_none
  · rcases q with _ | ⟨td, _, _, _, _, _, _⟩
    · exact par_none
    · cases td <;> try exact par_none
      cases op <;> first | exact par_none | exact par_leaf _ _ _ | exact par_cond (par_leaf _ _ _) par_none
  · rcases q with _ | ⟨td, _, _, _, _, _, _⟩
    · exact par_none
    · cases td <;> try exact par_none
      cases op <;> first | exact par_none | exact par_leaf _ _ _ | exact par_cond (par_leaf _ _ _) par_none
  · rename_i xs ys
    rcases q with _ | ⟨td, _, _, _, _, tf, e⟩
    · exact par_none
    · cases e
      · exact par_none
      · dsimp only
        generalize eqC tf xs ys = w
        cases w with
        | none => exact par_none
        | some b => cases op <;> first | exact par_none | exact par_leaf _ _ _
theorem aop_par (hc : CallPar c.call) (o : Oper) : Par fun R K => aop c o s K := by
  unfold aop
  cases o.op <;> try exact par_none
  case move x => exact par_leaf _ _ _
  case assign x => exact par_leaf _ _ _
  case pick b x y => exact par_pick c s b x y
  case alloc t => exact par_alloc c s t
  case box t x => exact par_box c s t x
  case build t ps => exact par_build c s t ps
  case buildSlice t len ps => exact par_buildSlice c s t len ps
  case load t x => exact par_load c s t x
  case store t x y => exact par_store c s t x y
  case nilCheck x => exact par_nilCheck c s x
  case binOp op t x y t' => exact par_bin c s t op _ _
  case unOp op t x => exact par_unOp c s op x
  case convert src dst x => exact par_convert c s src dst x
  case makeSlice t l cp => exact par_makeSlice c s t l cp
  case slice t x lo hi mx => exact par_slice c s t x lo hi mx
  case fieldAddr t x k => exact par_fieldAddr c s t x k
  case field t x k => exact par_field c s t x k
  case indexAddr t x ix => exact par_indexAddr c s t x ix
  case index t x ix => exact par_index c s t x ix
  case extract x k => exact par_extract c s x k
  case call cl =>
    obtain ⟨callee, xs, ats⟩ := cl
    cases callee with
    | invoke rv m => exact par_none
    | value f =>
      cases f with
      | func g => exact hc g _ _ _
      | _ => exact par_none
    | builtin b =>
      cases b with
      | len => exact par_len c s xs ats
      | min => exact par_min c s xs
      | max => exact par_max c s xs
      | append => exact par_append c s xs ats
      | _ => exact par_none
end
end Go.Vm
set_option linter.unusedVariables false
set_option linter.unusedSimpArgs false
namespace Go.Vm
open Go Go.RowKit

/-! ### a region whose order is drawn: one log, for all orders -/
structure Lg where
  v : V
  dst : Option Tmp
  rd : List Nat
  wr : List Nat
  post : Mem
  lo : Nat
  hi : Nat
  pre : St
def slotOf : Operand → Option Tmp
  | .tmp t => some t
  | _ => none
def slotsOf (o : Oper) : List Tmp := o.op.operands.toList.filterMap slotOf
def guardOf (all : List Oper) (o : Oper) : List Tmp :=
  match o.guard with
  | some (g, _) => ((all[g]?).bind (·.dst)).toList
  | none => []
def wrOf (c : Ctx) (s : St) (o : Oper) : List Nat :=
  match o.op with
  | .store _ x _ => ref2 (opv s x)
  | .call { callee := .builtin .append, args := xs, .. } => (match xs.toList with | x :: _ => ref2 (opv s x) | [] => [])
  | .call { callee := .value (.func g), args := xs, .. } => reach s.mem 3 ((c.wr g).flatMap fun i => match xs.toList[i]? with | some x => ref2 (opv s x) | none => [])
  | _ => []
def rdOf (s : St) (o : Oper) : List Nat := reach s.mem 3 (addNew [] ((slotsOf o).flatMap fun t => ref2 (s.env t)))
/-- What an operation may look at. -/
def cut (slots F wr : List Nat) (lo : Nat) (s : St) : St :=
  ⟨fun t => cond (slots.elem t) (s.env t) .un, fun id => cond (F.elem id) ((s.mem id).map fun r => ⟨r.own && wr.elem id, r.ty, r.body⟩) none, lo⟩
def fits (slots F wr : List Nat) (s : St) : Bool :=
  (slots.all fun t => in2 F.elem (s.env t)) && (F.all fun id => Nat.blt id s.nx && rowOk F.elem (s.mem id)) && wr.all F.elem
def inNew (F : List Nat) (lo hi id : Nat) : Bool := F.elem id || (Nat.ble lo id && Nat.blt id hi)
def ownOk (ok : Nat → Bool) : Option Row → Bool
  | some r => r.own && bodyIn ok r.body
  | none => true
def news (lo hi : Nat) : List Nat := (List.range (hi - lo)).map fun k => lo + k
def okPost (F wr : List Nat) (lo hi : Nat) (v : V) (post : Mem) : Bool :=
  Nat.ble lo hi && in2 (inNew F lo hi) v && (wr ++ news lo hi).all fun id => ownOk (inNew F lo hi) (post id)
def dstIs : Option Tmp → Nat → Bool
  | some d, t => t == d
  | none, _ => false
def apply1 (s : St) (r : Lg) : St :=
  ⟨fun t => cond (dstIs r.dst t) r.v (s.env t), fun id => cond (r.wr.elem id) (r.post id) (s.mem id), r.hi⟩
def skipLg (o : Oper) (s : St) : Lg := ⟨.tup [], o.dst, [], [], s.mem, s.nx, s.nx, s⟩
section
variable {R : Type}
def stepDo (c : Ctx) (o : Oper) (s : St) (K : Lg → Option R) : Option R :=
  cond (fits (slotsOf o) (rdOf s o) (wrOf c s o) s)
    (aop c o (cut (slotsOf o) (rdOf s o) (wrOf c s o) s.nx s) fun v m nx =>
      cond (okPost (rdOf s o) (wrOf c s o) s.nx nx v m) (K ⟨v, o.dst, rdOf s o, wrOf c s o ++ news s.nx nx, m, s.nx, nx, s⟩) none) none
def draw (c : Ctx) (all : List Oper) : List Oper → St → List Lg → (List Lg → St → Option R) → Option R
  | [], s, log, K => K log s
  | o :: os, s, log, K =>
    if dstOk c.slots o.dst then
      match o.guard with
      | none => stepDo c o s fun r => draw c all os (apply1 s r) (log ++ [r]) K
      | some (g, want) => match (all[g]?).bind (·.dst) with
        | none => none
        | some t => if t < c.slots then
          (match s.env t with
          | .bool b => condW want b (stepDo c o (s.know t want) fun r => draw c all os (apply1 (s.know t want) r) (log ++ [r]) K) (draw c all os (apply1 (s.know t (!want)) (skipLg o (s.know t (!want)))) (log ++ [skipLg o (s.know t (!want))]) K)
          | .tup [] => draw c all os (apply1 s (skipLg o s)) (log ++ [skipLg o s]) K
          | _ => none) else none
    else none
end
def depsOf (o : Oper) : List Nat := (o.after.toList.filter fun e => Region.binds .any e).map (·.on)
def deps (all : List Oper) (j : Nat) : List Nat := match all[j]? with | some o => depsOf o | none => []
def forced (all : List Oper) : Nat → Nat → Nat → Bool
  | 0, _, _ => false
  | n + 1, i, j => (deps all j).any fun d => Nat.beq d i || (Nat.blt i d && forced all n i d)
def dstIn (d : Option Tmp) (l : List Tmp) : Bool := match d with | some t => l.elem t | none => false
def confl (all : List Oper) (log : List Lg) (i j : Nat) : Bool :=
  match all[i]?, all[j]?, log[i]?, log[j]? with
  | some oi, some oj, some ri, some rj =>
    dstIn oi.dst (slotsOf oj ++ guardOf all oj ++ oj.dst.toList) || dstIn oj.dst (slotsOf oi ++ guardOf all oi) ||
    ri.wr.any (fun id => rj.rd.elem id || rj.wr.elem id) || rj.wr.any ri.rd.elem
  | _, _, _, _ => true
def okLog (all : List Oper) (log : List Lg) : Bool :=
  ((List.range all.length).all fun j => (deps all j).all fun d => Nat.blt d j) &&
  (List.range all.length).all fun j => (List.range j).all fun i => !confl all log i j || forced all all.length i j

/-! ### the last of several -/
def pk {α : Type} (f : Nat → Option α) (b : α) : Nat → α
  | 0 => b
  | n + 1 => match f n with | some x => x | none => pk f b n
theorem pk_congr {α : Type} {f g : Nat → Option α} {b : α} : ∀ {n : Nat}, (∀ k, k < n → f k = g k) → pk f b n = pk g b n
  | 0, _ => rfl
  | n + 1, h => by simp only [pk]; rw [h n (by omega), pk_congr (fun k hk => h k (by omega))]
theorem pk_stop {α : Type} {f : Nat → Option α} {b : α} {m : Nat} : ∀ {n : Nat}, m ≤ n → (∀ k, m ≤ k → k < n → f k = none) → pk f b n = pk f b m
  | 0, h, _ => by obtain rfl : m = 0 := by omega
                  rfl
  | n + 1, h, hf => by
    by_cases e : m = n + 1
    · subst e; rfl
    · simp only [pk]; rw [hf n (by omega) (by omega)]; exact pk_stop (by omega) (fun k h1 h2 => hf k h1 (by omega))
theorem pk_at {α : Type} {f : Nat → Option α} {b x : α} {i n : Nat} (hi : i < n) (h : f i = some x) (hf : ∀ k, i < k → k < n → f k = none) : pk f b n = x := by
  rw [pk_stop (m := i + 1) (by omega) (fun k h1 h2 => hf k (by omega) h2)]
  simp only [pk, h]
theorem pk_none {α : Type} {f : Nat → Option α} {b : α} {n : Nat} (h : ∀ k, k < n → f k = none) : pk f b n = b := by
  rw [pk_stop (m := 0) (by omega) (fun k _ hk => h k hk)]; rfl

def fE (log : List Lg) (L : Nat → Bool) (t : Nat) (j : Nat) : Option V :=
  match log[j]? with
  | some r => cond (L j && dstIs r.dst t) (some r.v) none
  | none => none
def fM (log : List Lg) (L : Nat → Bool) (id : Nat) (j : Nat) : Option (Option Row) :=
  match log[j]? with
  | some r => cond (L j && r.wr.elem id) (some (r.post id)) none
  | none => none
/-- The state when some of the operations are done. -/
def stL (s0 : St) (log : List Lg) (L : Nat → Bool) (n nx : Nat) : St :=
  ⟨fun t => pk (fE log L t) (s0.env t) n, fun id => pk (fM log L id) (s0.mem id) n, nx⟩
/-- What the log tells of one operation. -/
structure StepOK (c : Ctx) (all : List Oper) (o : Oper) (r : Lg) : Prop where
  dst : r.dst = o.dst
  slot : dstOk c.slots o.dst = true
  gd : ∀ g want, o.guard = some (g, want) → ∃ t, (all[g]?).bind (·.dst) = some t ∧ t < c.slots ∧ (r.pre.env t = .tup [] ∨ ∃ b, r.pre.env t = .bool b)
  lohi : r.lo ≤ r.hi
  low : r.lo = r.pre.nx
  act : (r.v = .tup [] ∧ r.wr = [] ∧ ∃ g want t, o.guard = some (g, want) ∧ (all[g]?).bind (·.dst) = some t ∧ r.pre.env t ≠ .bool want) ∨
    ((∀ g want, o.guard = some (g, want) → ∃ t, (all[g]?).bind (·.dst) = some t ∧ r.pre.env t = .bool want) ∧
     ∃ wr, r.wr = wr ++ news r.lo r.hi ∧ fits (slotsOf o) r.rd wr r.pre = true ∧ okPost r.rd wr r.lo r.hi r.v r.post = true ∧
      r.rd = rdOf r.pre o ∧
      aop c o (cut (slotsOf o) r.rd wr r.lo r.pre) (fun v m nx => some (v, m, nx)) = some (r.v, r.post, r.hi))
def tt : Nat → Bool := fun _ => true
structure Logged (c : Ctx) (all : List Oper) (s0 : St) (log : List Lg) (s : St) (n : Nat) : Prop where
  len : log.length = n
  env : ∀ t, s.env t = pk (fE log tt t) (s0.env t) n
  mem : ∀ id, s.mem id = pk (fM log tt id) (s0.mem id) n
  nx : s0.nx ≤ s.nx
  at_ : ∀ (i : Nat) (o : Oper) (r : Lg), all[i]? = some o → log[i]? = some r → StepOK c all o r ∧ (∀ t, r.pre.env t = pk (fE log tt t) (s0.env t) i) ∧ (∀ id, r.pre.mem id = pk (fM log tt id) (s0.mem id) i) ∧ s0.nx ≤ r.lo ∧ r.hi ≤ s.nx
  order : ∀ (i j : Nat) (ri rj : Lg), i < j → log[i]? = some ri → log[j]? = some rj → ri.hi ≤ rj.lo
theorem fE_app (log : List Lg) (r : Lg) (L : Nat → Bool) (t j : Nat) (h : j < log.length) : fE (log ++ [r]) L t j = fE log L t j := by
  unfold fE; rw [List.getElem?_append_left h]
theorem fM_app (log : List Lg) (r : Lg) (L : Nat → Bool) (t j : Nat) (h : j < log.length) : fM (log ++ [r]) L t j = fM log L t j := by
  unfold fM; rw [List.getElem?_append_left h]
theorem Logged.push {c : Ctx} {all : List Oper} {s0 s : St} {log : List Lg} {n : Nat} (h : Logged c all s0 log s n) {o : Oper} {r : Lg} (ho : all[n]? = some o) (hr : StepOK c all o r) (hp : r.pre = s) : Logged c all s0 (log ++ [r]) (apply1 s r) (n + 1) := by
  have hl := h.len
  have hn : (log ++ [r])[n]? = some r := by rw [List.getElem?_append_right (by omega)]; simp [hl]
  have hlow := hr.low
  have hlohi := hr.lohi
  have hnx := h.nx
  rw [hp] at hlow
  refine ⟨by simp [hl], ?_, ?_, ?_, ?_, ?_⟩
  · intro t
    show cond (dstIs r.dst t) r.v (s.env t) = _
    simp only [pk]
    rw [show fE (log ++ [r]) tt t n = cond (dstIs r.dst t) (some r.v) none by unfold fE; rw [hn]; rfl, h.env t]
    cases dstIs r.dst t
    · exact pk_congr (fun k hk => (fE_app log r tt t k (by omega)).symm)
    · rfl
  · intro id
    show cond (r.wr.elem id) (r.post id) (s.mem id) = _
    simp only [pk]
    rw [show fM (log ++ [r]) tt id n = cond (r.wr.elem id) (some (r.post id)) none by unfold fM; rw [hn]; rfl, h.mem id]
    cases r.wr.elem id
    · exact pk_congr (fun k hk => (fM_app log r tt id k (by omega)).symm)
    · rfl
  · show s0.nx ≤ r.hi
    omega
  · intro i o' r' ho' hr'
    by_cases e : i < n
    · rw [List.getElem?_append_left (by omega)] at hr'
      obtain ⟨a1, a2, a3, a4, a5⟩ := h.at_ i o' r' ho' hr'
      refine ⟨a1, fun t => (a2 t).trans (pk_congr fun k hk => (fE_app log r tt t k (by omega)).symm), fun id => (a3 id).trans (pk_congr fun k hk => (fM_app log r tt id k (by omega)).symm), a4, ?_⟩
      show r'.hi ≤ r.hi
      omega
    · have hi : i < (log ++ [r]).length := (List.getElem?_eq_some_iff.1 hr').1
      simp [hl] at hi
      obtain rfl : i = n := by omega
      rw [hn] at hr'; cases hr'
      rw [ho] at ho'; cases ho'
      refine ⟨hr, fun t => ?_, fun id => ?_, by omega, Nat.le_refl _⟩
      · rw [hp, h.env t]; exact pk_congr fun k hk => (fE_app log r tt t k (by omega)).symm
      · rw [hp, h.mem id]; exact pk_congr fun k hk => (fM_app log r tt id k (by omega)).symm
  · intro i j ri rj hij hri hrj
    have hj : j < (log ++ [r]).length := (List.getElem?_eq_some_iff.1 hrj).1
    simp [hl] at hj
    rw [List.getElem?_append_left (by omega)] at hri
    by_cases e : j < n
    · rw [List.getElem?_append_left (by omega)] at hrj
      exact h.order i j ri rj hij hri hrj
    · obtain rfl : j = n := by omega
      rw [hn] at hrj; cases hrj
      have hia : i < all.length := by
        have := (List.getElem?_eq_some_iff.1 ho).1; omega
      have := (h.at_ i all[i] ri (List.getElem?_eq_getElem hia) hri).2.2.2.2
      omega
end Go.Vm
set_option linter.unusedVariables false
set_option linter.unusedSimpArgs false
namespace Go.Vm
open Go Go.RowKit
section
variable {R : Type} {c : Ctx} {r : R}
theorem stepDo_ok (hp : CallPar c.call) (all : List Oper) {o : Oper} {s : St} {K : Lg → Option R} (hs : dstOk c.slots o.dst = true)
    (hg : ∀ g want, o.guard = some (g, want) → ∃ t, (all[g]?).bind (·.dst) = some t ∧ t < c.slots ∧ s.env t = .bool want) (h : stepDo c o s K = some r) :
    ∃ lg, K lg = some r ∧ lg.pre = s ∧ StepOK c all o lg := by
  unfold stepDo at h
  rcases cond_some h with ⟨h1, h⟩ | ⟨_, h⟩
  · obtain ⟨v, m, nx, hk, hpar⟩ := aop_par c (cut (slotsOf o) (rdOf s o) (wrOf c s o) s.nx s) hp o R _ r h
    rcases cond_some hk with ⟨h2, hk⟩ | ⟨_, hk⟩
    · refine ⟨_, hk, rfl, rfl, hs, ?_, ?_, rfl, .inr ⟨?_, _, rfl, h1, h2, rfl, hpar _ _⟩⟩
      · intro g want e
        obtain ⟨t, a1, a2, a3⟩ := hg g want e
        exact ⟨t, a1, a2, .inr ⟨want, a3⟩⟩
      · unfold okPost at h2
        simp only [Bool.and_eq_true] at h2
        simpa using h2.1.1
      · intro g want e
        obtain ⟨t, a1, _, a3⟩ := hg g want e
        exact ⟨t, a1, a3⟩
    · exact no hk
  · exact no h
theorem draw_log (hp : CallPar c.call) (all : List Oper) (s0 : St) : ∀ (os done : List Oper) (s : St) (log : List Lg) (K : List Lg → St → Option R), all = done ++ os → Logged c all s0 log s done.length →
    draw c all os s log K = some r → ∃ log' s', K log' s' = some r ∧ Logged c all s0 log' s' all.length
  | [], done, s, log, K, he, hl, h => by
    subst he
    exact ⟨log, s, h, by simpa using hl⟩
  | o :: os, done, s, log, K, he, hl, h => by
    have ho : all[done.length]? = some o := by subst he; simp
    have next : ∀ lg : Lg, lg.pre = s → StepOK c all o lg → draw c all os (apply1 s lg) (log ++ [lg]) K = some r → ∃ log' s', K log' s' = some r ∧ Logged c all s0 log' s' all.length := by
      intro lg hpre hok h
      refine draw_log hp all s0 os (done ++ [o]) _ _ K (by simp [he]) ?_ h
      rw [List.length_append]
      exact hl.push ho hok hpre
    simp only [draw] at h
    by_cases hd : dstOk c.slots o.dst = true
    · rw [if_pos hd] at h
      cases hg : o.guard with
      | none =>
        rw [hg] at h
        obtain ⟨lg, hk, hpre, hok⟩ := stepDo_ok hp all hd (by intro g want e; rw [hg] at e; cases e) h
        exact next lg hpre hok hk
      | some gw =>
        obtain ⟨g, want⟩ := gw
        rw [hg] at h
        simp only at h
        cases hb : (all[g]?).bind (·.dst) with
        | none => simp [hb] at h
        | some t =>
          simp only [hb] at h
          by_cases ht : t < c.slots
          · rw [if_pos ht] at h
            have skip : s.env t ≠ .bool want → (s.env t = .tup [] ∨ ∃ b, s.env t = .bool b) → StepOK c all o (skipLg o s) := by
              intro hne hor
              refine ⟨rfl, hd, ?_, Nat.le_refl _, rfl, .inl ⟨rfl, rfl, g, want, t, hg, hb, hne⟩⟩
              intro g' want' e
              rw [hg] at e; cases e
              exact ⟨t, hb, ht, hor⟩
            cases he : s.env t <;> rw [he] at h <;> try (exact no h)
            · rename_i b
              rcases condW_some h with ⟨hc, h1⟩ | ⟨hc, h1⟩
              · rw [St.know_eq (by rw [he, hc])] at h1
                obtain ⟨lg, hk, hpre, hok⟩ := stepDo_ok hp all hd (by
                  intro g' want' e
                  rw [hg] at e; cases e
                  exact ⟨t, hb, ht, by rw [he, hc]⟩) h1
                exact next lg hpre hok hk
              · rw [St.know_eq (by rw [he, hc])] at h1
                exact next _ rfl (skip (by rw [he, hc]; cases want <;> intro e <;> cases e) (.inr ⟨b, he⟩)) h1
            · rename_i cs
              cases cs with
              | nil => exact next _ rfl (skip (by rw [he]; intro e; cases e) (.inl he)) h
              | cons x xs => exact no h
          · rw [if_neg ht] at h; exact no h
    · rw [if_neg hd] at h; exact no h
end

/-! ### what is forced -/
def Closed (all : List Oper) (L : Nat → Bool) : Prop := ∀ j d, L j = true → j < all.length → d ∈ deps all j → L d = true
theorem forced_in {all : List Oper} {L : Nat → Bool} (hc : Closed all L) (hlt : ∀ j d, j < all.length → d ∈ deps all j → d < j) : ∀ (n i j : Nat), j < all.length → forced all n i j = true → (∀ d, d ∈ deps all j → L d = true) → L i = true
  | 0, i, j, hj, h, hd => by cases h
  | n + 1, i, j, hj, h, hd => by
    simp only [forced, List.any_eq_true, Bool.or_eq_true, Bool.and_eq_true] at h
    obtain ⟨d, hm, h | ⟨_, h⟩⟩ := h
    · have : d = i := Nat.eq_of_beq_eq_true h
      subst this; exact hd _ hm
    · have hdl : d < all.length := Nat.lt_trans (hlt j d hj hm) hj
      exact forced_in hc hlt n i d hdl h (fun e he => hc d e (hd d hm) hdl he)
theorem okLog_spec {all : List Oper} {log : List Lg} (h : okLog all log = true) : (∀ j d, j < all.length → d ∈ deps all j → d < j) ∧ ∀ i j, i < j → j < all.length → confl all log i j = true → forced all all.length i j = true := by
  unfold okLog at h
  simp only [Bool.and_eq_true, List.all_eq_true, List.mem_range, Bool.or_eq_true, Bool.not_eq_true'] at h
  refine ⟨fun j d hj hd => by simpa using h.1 j hj d hd, fun i j hij hj hc => ?_⟩
  rcases h.2 j hj i hij with h | h
  · rw [hc] at h; cases h
  · exact h
section
variable {all : List Oper} {log : List Lg} {L : Nat → Bool}
/-- An operation that is ready: what clashes with it ahead of it is done; what clashes behind it is not. -/
theorem clash (hok : okLog all log = true) (hc : Closed all L) {i k : Nat} (hi : i < all.length) (hk : k < all.length) (hne : k ≠ i) (hr : ∀ d, d ∈ deps all i → L d = true) (hL : L i = false)
    (hcf : (k < i → confl all log k i = true) ∧ (i < k → confl all log i k = true)) : L k = decide (k < i) := by
  obtain ⟨h1, h2⟩ := okLog_spec hok
  by_cases hlt : k < i
  · rw [decide_eq_true hlt]
    exact forced_in hc h1 _ k i hi (h2 k i hlt hi (hcf.1 hlt)) hr
  · have hgt : i < k := by omega
    rw [decide_eq_false hlt]
    cases hk' : L k with
    | false => rfl
    | true =>
      have := forced_in hc h1 _ i k hk (h2 i k hgt hk (hcf.2 hgt)) (fun d hd => hc k d hk' hk hd)
      rw [hL] at this; cases this
end
end Go.Vm
set_option linter.unusedVariables false
set_option linter.unusedSimpArgs false
namespace Go.Vm
open Go Go.RowKit

/-! ### the last writer -/
def fW {α : Type} (log : List Lg) (L : Nat → Bool) (w : Lg → Bool) (x : Lg → α) (j : Nat) : Option α :=
  match log[j]? with
  | some r => cond (L j && w r) (some (x r)) none
  | none => none
theorem fE_eq (log : List Lg) (L : Nat → Bool) (t : Nat) : fE log L t = fW log L (fun r => dstIs r.dst t) (·.v) := rfl
theorem fM_eq (log : List Lg) (L : Nat → Bool) (id : Nat) : fM log L id = fW log L (fun r => r.wr.elem id) (fun r => r.post id) := rfl
section
variable {α : Type} {log : List Lg} {L : Nat → Bool} {w : Lg → Bool} {x : Lg → α} {b : α} {n i : Nat}
theorem pk_agree (hi : i ≤ n) (hL : L i = false) (h : ∀ (k : Nat) (r : Lg), k < n → k ≠ i → log[k]? = some r → w r = true → L k = decide (k < i)) :
    pk (fW log L w x) b n = pk (fW log tt w x) b i := by
  rw [pk_congr (g := fW log (fun k => decide (k < i)) w x) (n := n), pk_stop (m := i) hi]
  · refine pk_congr fun k hk => ?_
    unfold fW
    cases log[k]? with
    | none => rfl
    | some r => simp [hk, tt]
  · intro k h1 h2
    unfold fW
    cases log[k]? with
    | none => rfl
    | some r => simp [Nat.not_lt.2 h1]
  · intro k hk
    unfold fW
    cases hl : log[k]? with
    | none => rfl
    | some r =>
      cases hw : w r with
      | false => simp [hw]
      | true =>
        by_cases e : k = i
        · subst e; simp [hL]
        · simp only [h k r hk e hl hw]
theorem pk_put (hi : i < n) {r : Lg} (hr : log[i]? = some r) (hw : w r = true) (h : ∀ (k : Nat) (r : Lg), i < k → k < n → log[k]? = some r → w r = true → L k = false) :
    pk (fW log (fun k => L k || k == i) w x) b n = x r := by
  refine pk_at hi ?_ ?_
  · unfold fW; rw [hr]; simp [hw]
  · intro k h1 h2
    unfold fW
    cases hl : log[k]? with
    | none => rfl
    | some r' =>
      cases hw' : w r' with
      | false => simp [hw']
      | true =>
        have := h k r' h1 h2 hl hw'
        have e : (k == i) = false := by simp; omega
        simp [this, e]
theorem pk_keep {r : Lg} (hr : log[i]? = some r) (hw : w r = false) : pk (fW log (fun k => L k || k == i) w x) b n = pk (fW log L w x) b n := by
  refine pk_congr fun k hk => ?_
  unfold fW
  by_cases e : k = i
  · subst e; rw [hr]; simp [hw]
  · have e : (k == i) = false := by simp [e]
    simp [e]
end

/-! ### rows that are reached are known -/
section
variable {ρ : Ren}
theorem renL_id (x : V) : renL (fun id => id) x = x := by cases x <;> rfl
theorem ren1_id (x : V) : ren1 (fun id => id) x = x := by
  cases x <;> first | rfl | (simp only [ren1]; congr 1; rw [List.map_congr_left (fun x _ => renL_id x)]; simp)
theorem ren2_id (x : V) : ren2 (fun id => id) x = x := by
  cases x with
  | tup cs => simp only [ren2]; congr 1; rw [List.map_congr_left (fun x _ => ren1_id x)]; simp
  | _ => first | rfl | (simp only [ren2]; exact ren1_id _)
theorem VR.lim {ρ1 : Ren} {ok : Nat → Bool} (hok : ∀ id, ok id = true → ρ1 id = ρ id) {x : V} {v : Value} (h : VR ρ x v) (hi : in2 ok x = true) : VR ρ1 x v := by
  have := h.ren2 (f := fun id => id) hok hi
  rwa [ren2_id] at this
theorem VR.limL {ρ1 : Ren} {ok : Nat → Bool} (hok : ∀ id, ok id = true → ρ1 id = ρ id) {x : V} {v : Value} (h : VR ρ x v) (hi : lfIn ok x = true) : VR ρ1 x v := by
  have := h.renL (f := fun id => id) hok hi
  rwa [renL_id] at this
end
end Go.Vm
set_option linter.unusedVariables false
set_option linter.unusedSimpArgs false
namespace Go.Vm
open Go Go.RowKit
section
variable {c : Ctx} {all : List Oper} {s0 sf : St} {log : List Lg} {L : Nat → Bool}
theorem confl_of {i j : Nat} {oi oj : Oper} {ri rj : Lg} (h1 : all[i]? = some oi) (h2 : all[j]? = some oj) (h3 : log[i]? = some ri) (h4 : log[j]? = some rj)
    (h : dstIn oi.dst (slotsOf oj ++ guardOf all oj ++ oj.dst.toList) = true ∨ dstIn oj.dst (slotsOf oi ++ guardOf all oi) = true ∨ ri.wr.any (fun id => rj.rd.elem id || rj.wr.elem id) = true ∨ rj.wr.any ri.rd.elem = true) : confl all log i j = true := by
  unfold confl
  rw [h1, h2, h3, h4]
  simp only [Bool.or_eq_true]
  rcases h with h | h | h | h
  · exact .inl (.inl (.inl h))
  · exact .inl (.inl (.inr h))
  · exact .inl (.inr h)
  · exact .inr h
theorem dstIs_some {d : Option Tmp} {t : Nat} (h : dstIs d t = true) : d = some t := by
  cases d with
  | none => cases h
  | some u => have : t = u := by simpa [dstIs] using h
              rw [this]
theorem dstIn_of {d : Option Tmp} {t : Tmp} {l : List Tmp} (h : d = some t) (hm : t ∈ l) : dstIn d l = true := by
  subst h; exact List.elem_iff.2 hm
theorem any_of {l : List Nat} {f : Nat → Bool} {id : Nat} (h : l.elem id = true) (hf : f id = true) : l.any f = true :=
  List.any_eq_true.2 ⟨id, List.elem_iff.1 h, hf⟩
structure Turn (c : Ctx) (all : List Oper) (s0 sf : St) (log : List Lg) (L : Nat → Bool) (i : Nat) (o : Oper) (lg : Lg) : Prop where
  lgd : Logged c all s0 log sf all.length
  ok : okLog all log = true
  closed : Closed all L
  op : all[i]? = some o
  lg : log[i]? = some lg
  not : L i = false
  rdy : ∀ d, d ∈ deps all i → L d = true
variable {i : Nat} {o : Oper} {lg : Lg}
theorem Turn.lt (h : Turn c all s0 sf log L i o lg) : i < all.length := (List.getElem?_eq_some_iff.1 h.op).1
theorem Turn.other (h : Turn c all s0 sf log L i o lg) {k : Nat} {r : Lg} (hk : k < all.length) (hr : log[k]? = some r) : ∃ ok, all[k]? = some ok ∧ r.dst = ok.dst :=
  ⟨all[k], List.getElem?_eq_getElem hk, (h.lgd.at_ k all[k] r (List.getElem?_eq_getElem hk) hr).1.dst⟩
theorem Turn.env (h : Turn c all s0 sf log L i o lg) (nx : Nat) {t : Tmp} (ht : t ∈ slotsOf o ++ guardOf all o) : (stL s0 log L all.length nx).env t = lg.pre.env t := by
  rw [(h.lgd.at_ i o lg h.op h.lg).2.1 t]
  show pk (fE log L t) _ _ = _
  rw [fE_eq, fE_eq]
  refine pk_agree (Nat.le_of_lt h.lt) h.not ?_
  intro k r hk hne hlk hw
  obtain ⟨ok, hok, hd⟩ := h.other hk hlk
  have hdst : ok.dst = some t := by rw [← hd]; exact dstIs_some hw
  refine clash h.ok h.closed h.lt hk hne h.rdy h.not ⟨fun hlt => confl_of hok h.op hlk h.lg (.inl (dstIn_of hdst (List.mem_append_left _ ht))), fun hgt => confl_of h.op hok h.lg hlk (.inr (.inl (dstIn_of hdst ht)))⟩
theorem Turn.mem (h : Turn c all s0 sf log L i o lg) (nx : Nat) {id : Nat} (ht : lg.rd.elem id = true) : (stL s0 log L all.length nx).mem id = lg.pre.mem id := by
  rw [(h.lgd.at_ i o lg h.op h.lg).2.2.1 id]
  show pk (fM log L id) _ _ = _
  rw [fM_eq, fM_eq]
  refine pk_agree (Nat.le_of_lt h.lt) h.not ?_
  intro k r hk hne hlk hw
  obtain ⟨ok, hok, hd⟩ := h.other hk hlk
  refine clash h.ok h.closed h.lt hk hne h.rdy h.not ⟨fun hlt => confl_of hok h.op hlk h.lg (.inr (.inr (.inl (any_of hw (by rw [ht]; rfl))))), fun hgt => confl_of h.op hok h.lg hlk (.inr (.inr (.inr (any_of hw ht))))⟩
/-- One more operation done. -/
theorem Turn.step (h : Turn c all s0 sf log L i o lg) (nx : Nat) : stL s0 log (fun k => L k || k == i) all.length nx =
    ⟨fun t => cond (dstIs lg.dst t) lg.v ((stL s0 log L all.length nx).env t), fun id => cond (lg.wr.elem id) (lg.post id) ((stL s0 log L all.length nx).mem id), nx⟩ := by
  have hd := (h.lgd.at_ i o lg h.op h.lg).1.dst
  have later : ∀ (k : Nat) (r : Lg), i < k → k < all.length → log[k]? = some r → confl all log i k = true → L k = false := by
    intro k r hik hk hlk hc
    have := clash h.ok h.closed h.lt hk (by omega) h.rdy h.not ⟨fun hlt => absurd hlt (by omega), fun _ => hc⟩
    rw [this]; simp; omega
  unfold stL
  congr 1
  · funext t
    show pk (fE log _ t) _ _ = cond _ _ (pk (fE log L t) _ _)
    rw [fE_eq, fE_eq]
    cases hw : dstIs lg.dst t with
    | false => exact pk_keep h.lg hw
    | true =>
      refine pk_put h.lt h.lg hw ?_
      intro k r hik hk hlk hwk
      obtain ⟨ok, hok, hdk⟩ := h.other hk hlk
      have e1 : o.dst = some t := by rw [← hd]; exact dstIs_some hw
      have e2 : ok.dst = some t := by rw [← hdk]; exact dstIs_some hwk
      exact later k r hik hk hlk (confl_of h.op hok h.lg hlk (.inl (dstIn_of e1 (by rw [e2]; simp))))
  · funext id
    show pk (fM log _ id) _ _ = cond _ _ (pk (fM log L id) _ _)
    rw [fM_eq, fM_eq]
    cases hw : lg.wr.elem id with
    | false => exact pk_keep h.lg hw
    | true =>
      refine pk_put h.lt h.lg hw ?_
      intro k r hik hk hlk hwk
      obtain ⟨ok, hok, hdk⟩ := h.other hk hlk
      exact later k r hik hk hlk (confl_of h.op hok h.lg hlk (.inr (.inr (.inl (any_of hw (by rw [hwk]; simp))))))
theorem Turn.cut (h : Turn c all s0 sf log L i o lg) (nx : Nat) (wr : List Nat) (lo : Nat) : Go.Vm.cut (slotsOf o) lg.rd wr lo (stL s0 log L all.length nx) = Go.Vm.cut (slotsOf o) lg.rd wr lo lg.pre := by
  unfold Go.Vm.cut
  congr 1
  · funext t
    cases hs : (slotsOf o).elem t with
    | false => rfl
    | true => simp only [cond_true]; exact h.env nx (List.mem_append_left _ (List.elem_iff.1 hs))
  · funext id
    cases hs : lg.rd.elem id with
    | false => rfl
    | true => simp only [cond_true]; rw [h.mem nx hs]
end
section
variable {P : Program} {c : Ctx} {all : List Oper} {s0 sf : St} {log : List Lg} {L : Nat → Bool} {i : Nat} {o : Oper} {lg : Lg}
  {ρ : Ren} {X : Nat → Prop} {W0 : World} {a : Act} {W : World} {Q : Exit → Act → World → Prop}
def rhoF (ρ : Ren) (F : List Nat) : Ren := fun id => cond (F.elem id) (ρ id) none
def XF (ρ : Ren) (F wr : List Nat) (m : Mem) (b : Nat) : Prop := ∃ id r p, F.elem id = true ∧ wr.elem id = true ∧ m id = some r ∧ r.own = true ∧ ρ id = some p ∧ p.blk = b
theorem rhoF_ok (F : List Nat) (id : Nat) (h : F.elem id = true) : rhoF ρ F id = ρ id := by unfold rhoF; rw [h]; rfl
/-- What an operation looks at, as a state of its own. -/
theorem cut_rel {N : Nat} {s : St} (hr : Rel ρ X W0 N s a W) {slots F wr : List Nat} {lo : Nat} (h1 : ∀ t, slots.elem t = true → in2 F.elem (s.env t) = true)
    (h2 : ∀ id, F.elem id = true → id < lo ∧ rowOk F.elem (s.mem id) = true) : Rel (rhoF ρ F) (XF ρ F wr s.mem) W N (cut slots F wr lo s) a W := by
  have key : ∀ id r p, (cut slots F wr lo s).mem id = some r → rhoF ρ F id = some p → ∃ r0, F.elem id = true ∧ s.mem id = some r0 ∧ ρ id = some p ∧ r = ⟨r0.own && wr.elem id, r0.ty, r0.body⟩ := by
    intro id r p hm hp
    have hm : cond (F.elem id) ((s.mem id).map fun r => (⟨r.own && wr.elem id, r.ty, r.body⟩ : Row)) none = some r := hm
    unfold rhoF at hp
    cases hF : F.elem id with
    | false => rw [hF] at hp; cases hp
    | true =>
      rw [hF] at hp hm
      cases hs : s.mem id with
      | none => rw [hs] at hm; cases hm
      | some r0 => rw [hs] at hm; exact ⟨r0, rfl, rfl, hp, (Option.some.inj hm).symm⟩
  refine ⟨?_, hr.size, hr.defers, ⟨?_, ?_, ?_, ?_⟩, ?_, Grow.refl _ _⟩
  · intro t
    show VR _ (cond (slots.elem t) (s.env t) .un) _
    cases hs : slots.elem t with
    | false => exact .un _
    | true => exact (hr.env t).lim (rhoF_ok F) (h1 t hs)
  · intro id r p hm hp
    obtain ⟨r0, hF, hs, hp, rfl⟩ := key id r p hm hp
    exact hr.mem.dim id r0 p hs hp
  · intro id r p hm hp j f hj hf
    obtain ⟨r0, hF, hs, hp, rfl⟩ := key id r p hm hp
    obtain ⟨hl, v, hv, hvr⟩ := hr.mem.cell id r0 p hs hp j f hj hf
    have hb := (h2 id hF).2
    rw [hs] at hb
    exact ⟨hl, v, hv, hvr.limL (rhoF_ok F) (renB_cell (f := fun x => x) hb j f).1⟩
  · intro id r p hm hp ho
    obtain ⟨r0, hF, hs, hp, rfl⟩ := key id r p hm hp
    simp only [Bool.and_eq_true] at ho
    obtain ⟨_, h2, h3⟩ := hr.mem.own id r0 p hs hp ho.1
    exact ⟨.inr ⟨id, r0, p, hF, ho.2, hs, ho.1, hp, rfl⟩, h2, h3⟩
  · intro id id' r r' p p' hne hm hm' hp hp' ho
    obtain ⟨r0, hF, hs, hp, rfl⟩ := key id r p hm hp
    obtain ⟨r0', hF', hs', hp', rfl⟩ := key id' r' p' hm' hp'
    simp only [Bool.and_eq_true] at ho
    exact hr.mem.apart id id' r0 r0' p p' hne hs hs' hp hp' ho.1
  · intro id hid
    unfold rhoF
    cases hF : F.elem id with
    | false => rfl
    | true =>
      have := (h2 id hF).1
      have hid : lo ≤ id := hid
      omega
end
end Go.Vm
set_option linter.unusedVariables false
set_option linter.unusedSimpArgs false
namespace Go.Vm
open Go Go.RowKit
section
variable {P : Program} {ρ ρ2 : Ren} {X : Nat → Prop} {W0 : World} {a : Act} {W W' : World} {Q : Exit → Act → World → Prop}
def rho3 (ρ ρ2 : Ren) (lo hi : Nat) : Ren := fun id => if lo ≤ id ∧ id < hi then ρ2 id else ρ id
theorem mem_news {lo hi id : Nat} : id ∈ news lo hi ↔ lo ≤ id ∧ id < hi := by
  unfold news
  simp only [List.mem_map, List.mem_range]
  constructor
  · rintro ⟨k, hk, rfl⟩; omega
  · rintro ⟨h1, h2⟩; exact ⟨id - lo, by omega, by omega⟩
theorem inNew_iff {F : List Nat} {lo hi id : Nat} : inNew F lo hi id = true ↔ F.elem id = true ∨ (lo ≤ id ∧ id < hi) := by
  unfold inNew
  rw [Bool.or_eq_true, Bool.and_eq_true, Nat.ble_eq, Nat.blt_eq]
theorem merge_rel {N : Nat} {s : St} (hr : Rel ρ X W0 N s a W) {F wr : List Nat} {lo hi : Nat} {env' : Nat → V} {post : Mem} (hr2 : Rel ρ2 (XF ρ F wr s.mem) W N ⟨env', post, hi⟩ a W')
    (hext : ExtS lo (rhoF ρ F) ρ2) (hlo : ∀ id, F.elem id = true → id < lo) (hfr : ∀ id, lo ≤ id → id < hi → ρ id = none)
    (hwr : ∀ id, id ∈ wr → F.elem id = true) (hok : ∀ id, id ∈ wr ++ news lo hi → ownOk (inNew F lo hi) (post id) = true) (hnx : hi ≤ s.nx) :
    Ext ρ (rho3 ρ ρ2 lo hi) ∧ (∀ id, inNew F lo hi id = true → rho3 ρ ρ2 lo hi id = ρ2 id) ∧
    Rel (rho3 ρ ρ2 lo hi) X W0 N ⟨s.env, fun id => cond ((wr ++ news lo hi).elem id) (post id) (s.mem id), s.nx⟩ a W' := by
  have e1 : Ext ρ (rho3 ρ ρ2 lo hi) := by
    intro id p hp
    unfold rho3
    by_cases h : lo ≤ id ∧ id < hi
    · rw [hfr id h.1 h.2] at hp; cases hp
    · rw [if_neg h]; exact hp
  have e2 : ∀ id, inNew F lo hi id = true → rho3 ρ ρ2 lo hi id = ρ2 id := by
    intro id h
    unfold rho3
    rcases inNew_iff.1 h with h | h
    · have := hlo id h
      rw [if_neg (by omega), hext.2 id this, rhoF_ok F id h]
    · rw [if_pos h]
  have e3 : ∀ id, id ∈ wr ++ news lo hi → inNew F lo hi id = true := by
    intro id h
    rcases List.mem_append.1 h with h | h
    · exact inNew_iff.2 (.inl (hwr id h))
    · exact inNew_iff.2 (.inr (mem_news.1 h))
  have e4 : ∀ id, id ∉ wr ++ news lo hi → rho3 ρ ρ2 lo hi id = ρ id := by
    intro id h
    unfold rho3
    rw [if_neg (fun hh => h (List.mem_append_right _ (mem_news.2 hh)))]
  have key : ∀ id r p, (fun id => cond ((wr ++ news lo hi).elem id) (post id) (s.mem id)) id = some r → rho3 ρ ρ2 lo hi id = some p →
      (id ∈ wr ++ news lo hi ∧ post id = some r ∧ ρ2 id = some p ∧ r.own = true ∧ bodyIn (inNew F lo hi) r.body = true) ∨ (id ∉ wr ++ news lo hi ∧ s.mem id = some r ∧ ρ id = some p) := by
    intro id r p hm hp
    simp only at hm
    cases hc : (wr ++ news lo hi).elem id with
    | true =>
      rw [hc] at hm
      have hin := List.elem_iff.1 hc
      have ho := hok id hin
      have hm : post id = some r := hm
      rw [hm] at ho
      simp only [ownOk, Bool.and_eq_true] at ho
      exact .inl ⟨hin, hm, by rw [← e2 id (e3 id hin)]; exact hp, ho.1, ho.2⟩
    | false =>
      rw [hc] at hm
      have hin : id ∉ wr ++ news lo hi := fun h => by rw [List.elem_iff.2 h] at hc; cases hc
      exact .inr ⟨hin, hm, by rw [← e4 id hin]; exact hp⟩
  -- the rows that were not written lie apart from those that were
  have away : ∀ id r p, id ∉ wr ++ news lo hi → s.mem id = some r → ρ id = some p → ¬ XF ρ F wr s.mem p.blk := by
    intro id r p hin hm hp hx
    obtain ⟨jd, r', p', hF, hw, hm', ho', hp', hb⟩ := hx
    have hne : jd ≠ id := fun e => hin (by subst e; exact List.mem_append_left _ (List.elem_iff.1 hw))
    exact hr.mem.apart jd id r' r p' p hne hm' hm hp' hp ho' hb
  have hX : ∀ b, XF ρ F wr s.mem b → W0.heap.size ≤ b ∨ X b := by
    intro b hx
    obtain ⟨jd, r', p', hF, hw, hm', ho', hp', hb⟩ := hx
    rw [← hb]
    exact (hr.mem.own jd r' p' hm' hp' ho').1
  refine ⟨e1, e2, ?_, hr.size, hr.defers, ⟨?_, ?_, ?_, ?_⟩, ?_, ?_⟩
  · exact fun t => (hr.env t).ext e1
  · intro id r p hm hp
    rcases key id r p hm hp with ⟨h1, h2, h3, h4, h5⟩ | ⟨h1, h2, h3⟩
    · exact hr2.mem.dim id r p h2 h3
    · obtain ⟨a1, a2, a3⟩ := hr.mem.dim id r p h2 h3
      exact ⟨a1, a2, Nat.lt_of_lt_of_le a3 hr2.fr.size⟩
  · intro id r p hm hp j f hj hf
    rcases key id r p hm hp with ⟨h1, h2, h3, h4, h5⟩ | ⟨h1, h2, h3⟩
    · obtain ⟨hl, v, hv, hvr⟩ := hr2.mem.cell id r p h2 h3 j f hj hf
      exact ⟨hl, v, hv, hvr.limL e2 (renB_cell (f := fun x => x) h5 j f).1⟩
    · obtain ⟨hl, v, hv, hvr⟩ := hr.mem.cell id r p h2 h3 j f hj hf
      refine ⟨hl, v, ?_, hvr.ext e1⟩
      exact (hr2.fr.cell (a := ⟨p.blk, p.base + (j * p.sz + f), none⟩) (hr.mem.dim id r p h2 h3).2.2 (away id r p h1 h2 h3)).trans hv
  · intro id r p hm hp ho
    rcases key id r p hm hp with ⟨h1, h2, h3, h4, h5⟩ | ⟨h1, h2, h3⟩
    · obtain ⟨b1, b2, b3⟩ := hr2.mem.own id r p h2 h3 ho
      refine ⟨?_, b2, b3⟩
      rcases b1 with b1 | b1
      · exact .inl (Nat.le_trans hr.fr.size b1)
      · exact hX _ b1
    · obtain ⟨b1, b2, arr, b3, b4⟩ := hr.mem.own id r p h2 h3 ho
      exact ⟨b1, b2, arr, (hr2.fr.block _ (hr.mem.dim id r p h2 h3).2.2 (away id r p h1 h2 h3)).trans b3, b4⟩
  · have mixed : ∀ id id' r r' p p', id ∈ wr ++ news lo hi → post id = some r → ρ2 id = some p → r.own = true → id' ∉ wr ++ news lo hi → s.mem id' = some r' → ρ id' = some p' → p.blk ≠ p'.blk := by
      intro id id' r r' p p' h1 h2 h3 ho h1' h2' h3' e
      rcases (hr2.mem.own id r p h2 h3 ho).1 with b | b
      · have := (hr.mem.dim id' r' p' h2' h3').2.2
        omega
      · exact away id' r' p' h1' h2' h3' (by rw [← e]; exact b)
    intro id id' r r' p p' hne hm hm' hp hp' ho
    rcases key id r p hm hp with ⟨h1, h2, h3, h4, h5⟩ | ⟨h1, h2, h3⟩
    · rcases key id' r' p' hm' hp' with ⟨k1, k2, k3, k4, k5⟩ | ⟨k1, k2, k3⟩
      · exact hr2.mem.apart id id' r r' p p' hne h2 k2 h3 k3 ho
      · exact mixed id id' r r' p p' h1 h2 h3 ho k1 k2 k3
    · rcases key id' r' p' hm' hp' with ⟨k1, k2, k3, k4, k5⟩ | ⟨k1, k2, k3⟩
      · exact fun e => mixed id' id r' r p' p k1 k2 k3 k4 h1 h2 h3 e.symm
      · exact hr.mem.apart id id' r r' p p' hne h2 k2 h3 k3 ho
  · intro id hid
    have hid : s.nx ≤ id := hid
    unfold rho3
    rw [if_neg (by omega)]
    exact hr.nx id hid
  · exact hr.fr.trans hr2.fr (fun b hb hx => (hX b hx).elim (fun h => absurd hb (by omega)) (fun h => h))
end
section
variable {P : Program} {gl : List (Nat × Obj)} {c : Ctx} {all : List Oper} {s0 sf : St} {log : List Lg} {L : Nat → Bool} {i : Nat} {o : Oper} {lg : Lg}
  {ρ : Ren} {X : Nat → Prop} {W0 : World} {a : Act} {W : World} {Q : Exit → Act → World → Prop}
def Fresh (ρ : Ren) (log : List Lg) (L : Nat → Bool) : Prop := ∀ (k : Nat) (r : Lg), log[k]? = some r → L k = false → ∀ id, r.lo ≤ id → id < r.hi → ρ id = none
theorem exec1 (T : TOK P c.tab) (G : CallOK P gl c.call) (I : GI gl X W0) (ht : Turn c all s0 sf log L i o lg) (hr : Rel ρ X W0 c.slots (stL s0 log L all.length sf.nx) a W) (hfr : Fresh ρ log L) :
    wpOp P all.toArray Q i (fun a' W' => ∃ ρ', Rel ρ' X W0 c.slots (stL s0 log (fun k => L k || k == i) all.length sf.nx) a' W' ∧ Ext ρ ρ' ∧ Fresh ρ' log (fun k => L k || k == i)) a W := by
  obtain ⟨hok, hpe, hpm, hlo0, hhi⟩ := ht.lgd.at_ i o lg ht.op ht.lg
  have hdst : ∀ t, o.dst = some t → t < c.slots := by
    intro t e
    have := hok.slot
    rw [e] at this
    exact of_decide_eq_true this
  unfold wpOp
  have hop : all.toArray[i]? = some o := by simpa using ht.op
  rw [hop]
  simp only
  rw [ht.step sf.nx, hok.dst]
  -- the guard's answer is the log's
  have guard : ∀ g want t, o.guard = some (g, want) → (all[g]?).bind (·.dst) = some t → t < c.slots → (stL s0 log L all.length sf.nx).env t = lg.pre.env t := by
    intro g want t hg hb _
    refine ht.env sf.nx (List.mem_append_right _ ?_)
    unfold guardOf
    rw [hg]
    simp only
    rw [hb]; simp
  have putEq : ∀ (v : V) (m : Mem), St.put ⟨(stL s0 log L all.length sf.nx).env, m, sf.nx⟩ o.dst v = ⟨fun t => cond (dstIs o.dst t) v ((stL s0 log L all.length sf.nx).env t), m, sf.nx⟩ := by
    intro v m
    cases hd : o.dst with
    | none => rfl
    | some d =>
      simp only [St.put]
      congr 1
      funext t
      by_cases e : t = d
      · subst e; simp [dstIs]
      · have e' : (t == d) = false := beq_eq_false_iff_ne.2 e
        rw [if_neg e]
        show _ = cond (t == d) v _
        rw [e']; rfl
  rcases hok.act with ⟨hv, hw, g, want, t, hg, hb, hne⟩ | ⟨hgd, wr, hwr, hfit, hpost, hrd, haop⟩
  · obtain ⟨t', hb', htl, hor⟩ := hok.gd g want hg
    have : t' = t := by rw [hb] at hb'; exact (Option.some.inj hb').symm
    subst this
    have hen := guard g want t' hg hb htl
    obtain ⟨y1, y2⟩ := yield_ok (c := c) hr hb htl
    have hnw : Region.wanted o (yielded all.toArray a.tmps) = false := by
      rcases hor with h | ⟨b, h⟩
      · simp [Region.wanted, hg, y2 (by rw [hen]; exact h)]
      · have hbw : b ≠ want := fun e => hne (by rw [h, e])
        simp [Region.wanted, hg, y1 b (by rw [hen]; exact h), hbw]
    rw [hnw]
    simp only [Bool.false_eq_true, if_false]
    refine ⟨ρ, ?_, Ext.refl ρ, ?_⟩
    · have h1 := hr.put o.dst hdst (v := .tup []) (v' := undef) (.tup rfl (fun i c v h => by simp at h))
      have h2 : (stL s0 log L all.length sf.nx).put o.dst (.tup []) = ⟨fun t => cond (dstIs o.dst t) lg.v ((stL s0 log L all.length sf.nx).env t), fun id => cond (lg.wr.elem id) (lg.post id) ((stL s0 log L all.length sf.nx).mem id), sf.nx⟩ := by
        rw [hv, hw]
        exact putEq (.tup []) _
      rw [← h2]
      exact h1
    · intro k r hk hL
      simp only [Bool.or_eq_false_iff] at hL
      exact hfr k r hk hL.1
  · have hw : Region.wanted o (yielded all.toArray a.tmps) = true := by
      cases hg : o.guard with
      | none => simp [Region.wanted, hg]
      | some gw =>
        obtain ⟨g, want⟩ := gw
        obtain ⟨t, hb, he⟩ := hgd g want hg
        obtain ⟨t', hb', htl, _⟩ := hok.gd g want hg
        have : t' = t := by rw [hb] at hb'; exact (Option.some.inj hb').symm
        subst this
        obtain ⟨y1, y2⟩ := yield_ok (c := c) hr hb htl
        simp [Region.wanted, hg, y1 want (by rw [guard g want t' hg hb htl]; exact he)]
    rw [if_pos hw]
    refine .inl ?_
    unfold fits at hfit
    simp only [Bool.and_eq_true, List.all_eq_true] at hfit
    obtain ⟨⟨f1, f2⟩, f3⟩ := hfit
    unfold okPost at hpost
    simp only [Bool.and_eq_true, List.all_eq_true] at hpost
    obtain ⟨⟨p1, p2⟩, p3⟩ := hpost
    have slotsEq : ∀ t, (slotsOf o).elem t = true → (stL s0 log L all.length sf.nx).env t = lg.pre.env t := fun t h => ht.env sf.nx (List.mem_append_left _ (List.elem_iff.1 h))
    have hF : ∀ id, lg.rd.elem id = true → id < lg.lo ∧ rowOk lg.rd.elem ((stL s0 log L all.length sf.nx).mem id) = true := by
      intro id h
      have := f2 id (List.elem_iff.1 h)
      rw [ht.mem sf.nx h, hok.low]
      exact ⟨by simpa [Nat.blt_eq] using this.1, this.2⟩
    have hsub := cut_rel hr (slots := slotsOf o) (F := lg.rd) (wr := wr) (lo := lg.lo) (fun t h => by rw [slotsEq t h]; exact f1 t (List.elem_iff.1 h)) hF
    rw [ht.cut sf.nx wr lg.lo] at hsub
    have hI : GI gl (XF ρ lg.rd wr lg.pre.mem) W := I.sub hr.fr (fun b hb => by
      obtain ⟨jd, r', p', hF', hw', hm', ho', hp', hbb⟩ := hb
      rw [← hbb]
      exact (hr.mem.own jd r' p' (by rw [ht.mem sf.nx hF']; exact hm') hp' ho').1)
    have hI2 : XF ρ lg.rd wr lg.pre.mem = XF ρ lg.rd wr (stL s0 log L all.length sf.nx).mem := by
      funext b
      unfold XF
      apply propext
      constructor
      · rintro ⟨jd, r', p', hF', hw', hm', h⟩
        exact ⟨jd, r', p', hF', hw', by rw [ht.mem sf.nx hF']; exact hm', h⟩
      · rintro ⟨jd, r', p', hF', hw', hm', h⟩
        exact ⟨jd, r', p', hF', hw', by rw [← ht.mem sf.nx hF']; exact hm', h⟩
    rw [hI2] at hI
    refine aop_ok T G hI hsub haop ?_
    intro ρ2 v v' m nx W' hext hvr hrel2 hk
    cases hk
    obtain ⟨m1, m2, m3⟩ := merge_rel hr hrel2 hext (fun id h => (hF id h).1) (fun id h1 h2 => hfr i lg ht.lg ht.not id h1 h2) (fun id h => f3 id h) (fun id h => p3 id h) hhi
    refine ⟨rho3 ρ ρ2 lg.lo lg.hi, ?_, m1, ?_⟩
    · have h1 := m3.put o.dst hdst (hvr.lim m2 p2)
      have h2 := putEq lg.v (fun id => cond ((wr ++ news lg.lo lg.hi).elem id) (lg.post id) ((stL s0 log L all.length sf.nx).mem id))
      rw [hwr, ← h2]
      exact h1
    · intro k r hk hL id h1 h2
      simp only [Bool.or_eq_false_iff, beq_eq_false_iff_ne, ne_eq] at hL
      have h3 := hfr k r hk hL.1 id h1 h2
      unfold rho3
      rw [if_neg, h3]
      intro hh
      rcases Nat.lt_or_gt_of_ne hL.2 with hlt | hgt
      · have := ht.lgd.order k i r lg hlt hk ht.lg; omega
      · have := ht.lgd.order i k lg r hgt ht.lg hk; omega
end
end Go.Vm
set_option linter.unusedVariables false
set_option linter.unusedSimpArgs false
namespace Go.Vm
open Go Go.RowKit
def cnt (L : Nat → Bool) : Nat → Nat
  | 0 => 0
  | n + 1 => cnt L n + cond (L n) 0 1
theorem cnt_same {L L' : Nat → Bool} : ∀ {n : Nat}, (∀ k, k < n → L' k = L k) → cnt L' n = cnt L n
  | 0, _ => rfl
  | n + 1, h => by simp only [cnt]; rw [h n (by omega), cnt_same (fun k hk => h k (by omega))]
theorem cnt_set {L : Nat → Bool} {i : Nat} (hL : L i = false) : ∀ {n : Nat}, i < n → cnt (fun k => L k || k == i) n + 1 = cnt L n
  | 0, h => absurd h (by omega)
  | n + 1, h => by
    simp only [cnt]
    by_cases e : i = n
    · subst e
      rw [cnt_same (L := L) (L' := fun k => L k || k == i) (fun k hk => by
        have : (k == i) = false := by simp; omega
        simp [this])]
      simp [hL]
    · have := cnt_set hL (n := n) (by omega)
      have e' : (n == i) = false := by simp; omega
      rw [e', Bool.or_false]
      omega
theorem cnt_zero {L : Nat → Bool} : ∀ {n : Nat}, cnt L n = 0 → ∀ k, k < n → L k = true
  | 0, _, k, hk => absurd hk (by omega)
  | n + 1, h, k, hk => by
    simp only [cnt] at h
    cases hn : L n with
    | false => rw [hn] at h; simp at h
    | true =>
      by_cases e : k = n
      · subst e; exact hn
      · exact cnt_zero (n := n) (by omega) k (by omega)
section
variable {P : Program} {gl : List (Nat × Obj)} {c : Ctx} {all : List Oper} {s0 sf : St} {log : List Lg} {X : Nat → Prop} {W0 : World} {Q : Exit → Act → World → Prop}
theorem ready_iff {listed : Array Bool} (hs : listed.size = all.length) {i : Nat} : i ∈ Region.ready .any all.toArray listed ↔ i < all.length ∧ listed.getD i false = false ∧ ∀ d, d ∈ deps all i → listed.getD d false = true := by
  unfold Region.ready
  simp only [List.mem_filter, List.mem_range, List.size_toArray, Bool.and_eq_true, Bool.not_eq_true']
  refine and_congr_right fun hi => ?_
  have h1 : listed.getD i true = listed.getD i false := by simp [Array.getD, hs, hi]
  rw [h1]
  refine and_congr_right fun _ => ?_
  have h2 : all.toArray[i]? = some all[i] := by simp [hi]
  rw [h2]
  simp only [Option.map_some, Option.getD_some]
  unfold deps
  rw [List.getElem?_eq_getElem hi]
  simp only [depsOf, ← Array.all_toList, List.all_eq_true, List.mem_map, List.mem_filter, Bool.or_eq_true, Bool.not_eq_true']
  constructor
  · rintro h d ⟨e, ⟨he, hb⟩, rfl⟩
    rcases h e he with h | h
    · rw [hb] at h; cases h
    · exact h
  · intro h e he
    cases hb : Region.binds .any e with
    | false => exact .inl rfl
    | true => exact .inr (h e.on ⟨e, ⟨he, hb⟩, rfl⟩)
theorem any_ok (T : TOK P c.tab) (G : CallOK P gl c.call) (I : GI gl X W0) (hl : Logged c all s0 log sf all.length) (hok : okLog all log = true) (ρ0 : Ren)
    (hq : ∀ ρ a W, Ext ρ0 ρ → Rel ρ X W0 c.slots sf a W → Q .normal a W) : ∀ (fuel : Nat) (listed : Array Bool) (ρ : Ren) (a : Act) (W : World), listed.size = all.length →
      cnt (fun k => listed.getD k false) all.length ≤ fuel → Closed all (fun k => listed.getD k false) → Ext ρ0 ρ → Rel ρ X W0 c.slots (stL s0 log (fun k => listed.getD k false) all.length sf.nx) a W →
      Fresh ρ log (fun k => listed.getD k false) → wpAny P .any all.toArray Q fuel listed a W := by
  -- when all is done
  have fin : ∀ (listed : Array Bool) (ρ : Ren) (a : Act) (W : World), Ext ρ0 ρ → Rel ρ X W0 c.slots (stL s0 log (fun k => listed.getD k false) all.length sf.nx) a W → (∀ k, k < all.length → listed.getD k false = true) → Q .normal a W := by
    intro listed ρ a W he hr hall
    refine hq ρ a W he ?_
    have : stL s0 log (fun k => listed.getD k false) all.length sf.nx = sf := by
      obtain ⟨e, m, nx⟩ := sf
      unfold stL
      congr 1
      · funext t
        rw [show e t = _ from hl.env t]
        refine pk_congr fun k hk => ?_
        unfold fE
        cases log[k]? with
        | none => rfl
        | some r => simp only [hall k hk, tt]
      · funext id
        rw [show m id = _ from hl.mem id]
        refine pk_congr fun k hk => ?_
        unfold fM
        cases log[k]? with
        | none => rfl
        | some r => simp only [hall k hk, tt]
    rwa [this] at hr
  -- when nothing is ready all is done
  have none_left : ∀ listed : Array Bool, listed.size = all.length → Region.ready .any all.toArray listed = [] → ∀ k, k < all.length → listed.getD k false = true := by
    intro listed hs he k
    induction k using Nat.strongRecOn with
    | _ k ih =>
      intro hk
      cases h : listed.getD k false with
      | true => rfl
      | false =>
        have : k ∈ Region.ready .any all.toArray listed := (ready_iff hs).2 ⟨hk, h, fun d hd => by
          have := (okLog_spec hok).1 k d hk hd
          exact ih d this (by omega)⟩
        rw [he] at this; cases this
  intro fuel
  induction fuel with
  | zero =>
    intro listed ρ a W hs hc hcl he hr hf
    have hall := cnt_zero (L := fun k => listed.getD k false) (n := all.length) (by omega)
    refine ⟨?_, fin listed ρ a W he hr hall⟩
    rw [List.eq_nil_iff_forall_not_mem]
    intro i hi
    obtain ⟨h1, h2, _⟩ := (ready_iff hs).1 hi
    rw [hall i h1] at h2; cases h2
  | succ fuel ih =>
    intro listed ρ a W hs hc hcl he hr hf
    refine ⟨fun hn => fin listed ρ a W he hr (none_left listed hs hn), fun i hi => ?_⟩
    obtain ⟨h1, h2, h3⟩ := (ready_iff hs).1 hi
    obtain ⟨lg, hlg⟩ : ∃ lg, log[i]? = some lg := ⟨log[i]'(by rw [hl.len]; exact h1), List.getElem?_eq_getElem _⟩
    have ht : Turn c all s0 sf log (fun k => listed.getD k false) i all[i] lg := ⟨hl, hok, hcl, List.getElem?_eq_getElem h1, hlg, h2, h3⟩
    refine wpOp_mono ?_ (exec1 T G I ht hr hf)
    rintro a' W' ⟨ρ', hr', he', hf'⟩
    have hL : (fun k => (listed.setIfInBounds i true).getD k false) = fun k => listed.getD k false || k == i := by
      funext k
      by_cases e : k = i
      · subst e
        rw [beq_self_eq_true, Bool.or_true]
        simp [Array.getD, hs, h1]
      · have e' : (k == i) = false := beq_eq_false_iff_ne.2 e
        rw [e', Bool.or_false, Array.getD_eq_getD_getElem?, Array.getD_eq_getD_getElem?, Array.getElem?_setIfInBounds, if_neg (Ne.symm e)]
    refine ih _ ρ' a' W' (by simpa using hs) ?_ ?_ (he.trans he') ?_ ?_
    · rw [hL]
      have := cnt_set (L := fun k => listed.getD k false) h2 h1
      omega
    · rw [hL]
      intro j d hj hjl hd
      simp only [Bool.or_eq_true, beq_iff_eq] at hj ⊢
      rcases hj with hj | rfl
      · exact .inl (hcl j d hj hjl hd)
      · exact .inl (h3 d hd)
    · rw [hL]; exact hr'
    · rw [hL]; exact hf'
end
section
variable {P : Program} {gl : List (Nat × Obj)} {R : Type} {c : Ctx} {ρ : Ren} {X : Nat → Prop} {W0 : World} {s : St} {a : Act} {W : World} {r : R} {Q : Exit → Act → World → Prop}
theorem draw_ok (T : TOK P c.tab) (G : CallOK P gl c.call) (I : GI gl X W0) (hp : CallPar c.call) (hm : P.follows .mixedOrders = true) (all : List Oper) (id : Nat) (hr : Rel ρ X W0 c.slots s a W) {K : St → Option R}
    (h : draw c all all s [] (fun log s' => cond (okLog all log) (K s') none) = some r) (hq : ∀ a' W', Lands c ρ X W0 K r a' W' → Q .normal a' W') : (Code.region id all.toArray true).wp P Q a W := by
  obtain ⟨log, sf, hk, hl⟩ := draw_log hp all s all [] s [] _ rfl ⟨rfl, fun t => rfl, fun id => rfl, Nat.le_refl _, fun i o r _ h => by simp at h, fun i j ri rj _ h => by simp at h⟩ h
  rcases cond_some hk with ⟨hok, hk⟩ | ⟨_, hk⟩
  · refine wp_region_any hm ?_
    have hL : (fun k => (Array.replicate all.toArray.size false).getD k false) = fun _ => false := by
      funext k
      rw [Array.getD_eq_getD_getElem?, Array.getElem?_replicate]
      split <;> rfl
    refine any_ok (s0 := s) (sf := sf) (log := log) T G I hl hok ρ (fun ρ' a' W' he hr' => hq a' W' ⟨ρ', sf, he, hr', hk⟩) _ _ ρ a _ (by simp) ?_ ?_ (Ext.refl ρ) ?_ ?_
    · rw [hL]
      have : ∀ n, cnt (fun _ => false) n ≤ n := by
        intro n
        induction n with
        | zero => exact Nat.le_refl _
        | succ n ih => simp only [cnt, cond_false]; omega
      simpa using this all.length
    · rw [hL]; intro j d hj; cases hj
    · rw [hL]
      have hst : stL s log (fun _ => false) all.length sf.nx = ⟨s.env, s.mem, sf.nx⟩ := by
        unfold stL
        congr 1
        · funext t
          refine pk_none fun k hk => ?_
          unfold fE
          cases log[k]? <;> rfl
        · funext t
          refine pk_none fun k hk => ?_
          unfold fM
          cases log[k]? <;> rfl
      rw [hst]
      refine ⟨hr.env, hr.size, hr.defers, hr.mem.grow (Grow.drew (fun _ => False) W) (fun _ _ _ _ _ x => x), fun id hid => hr.nx id (Nat.le_trans hl.nx hid), hr.fr.trans (Grow.drew (fun _ => False) W) (fun _ _ x => x.elim)⟩
    · rw [hL]
      intro k lg hk _ id h1 h2
      have hka : k < all.length := by rw [← hl.len]; exact (List.getElem?_eq_some_iff.1 hk).1
      have := (hl.at_ k all[k] lg (List.getElem?_eq_getElem hka) hk).2.2.2.1
      exact hr.nx id (Nat.le_trans this h1)
  · exact no hk
end
end Go.Vm
