/- Proved: for any two numbers de Morgan's law, twice Not, and Join as least upper bound hold. Conditions: those of the given statement alone. -/
import Derived.Test.YtmbnmgpipeinfaaPTriTurnsx2
namespace Go.Proofs.Ytmbnmgpipeinfaa.Pure
open Go.RowKit Go.Proofs.Ytmbnmgpipeinfaa.PTriTurns Go.Proofs.YtmbnmgpipeinfaaW.PrintWords Go.Proofs.YtmbnmgpipeinfaaW.PrintLast

/-- The number as it counts: 0, 1, else 2. -/
def normI (a : Int) : Int := if a = 0 then 0 else if a = 1 then 1 else 2
theorem norm_eq (a : Int) : tri_Norm.f a = some (normI a) := by
  unfold tri_Norm.f normI
  by_cases h0 : a = 0
  · simp [h0]
  · by_cases h1 : a = 1
    · simp [h1]
    · simp [h0, h1]
theorem normI_cases (a : Int) : normI a = 0 ∨ normI a = 1 ∨ normI a = 2 := by
  unfold normI
  by_cases h0 : a = 0
  · simp [h0]
  · by_cases h1 : a = 1
    · simp [h1]
    · simp [h0, h1]
def notI (a : Int) : Int := if normI a = 0 then 1 else if normI a = 1 then 0 else 2
theorem not_eq (a : Int) : tri_Not.f a = some (notI a) := by
  unfold tri_Not.f notI normI
  by_cases h0 : a = 0
  · simp [h0]
  · by_cases h1 : a = 1
    · simp [h1]
    · simp [h0, h1]
def andS (l : List Int) (out : Int) : Int := if l.any (fun a => normI a == 0) then 0 else if l.any (fun a => normI a == 2) then 2 else out
def orS (l : List Int) (out : Int) : Int := if l.any (fun a => normI a == 1) then 1 else if l.any (fun a => normI a == 2) then 2 else out
def joinS (l : List Int) (out : Int) : Int := if l.all (fun a => normI a == out) then out else 2
theorem step_wrap {i : Int} {n : Nat} (h0 : 0 ≤ i) (h : i < (n : Int)) (hn : n ≤ 4611686018427387904) : wrap64 (i + 1) = i + 1 := by
  unfold wrap64; omega
theorem drop_rd {l : List Int} {i : Int} (h0 : 0 ≤ i) (h : i < (l.length : Int)) : l.drop i.toNat = rd l i :: l.drop (i + 1).toNat := by
  have hi : i.toNat < l.length := by omega
  have e : (i + 1).toNat = i.toNat + 1 := by omega
  rw [List.drop_eq_getElem_cons hi, e]
  unfold rd
  simp [List.getD, hi]
theorem and_l (l : List Int) (hn : l.length ≤ 4611686018427387904) (d : Nat) : ∀ (k : Nat) (i out : Int), 0 ≤ i → i ≤ l.length → (l.length : Int) - i = d → d < k →
    tri_And.l0 k out l (l.length : Int) i = some (andS (l.drop i.toNat) out) := by
  induction d with
  | zero =>
    intro k i out h0 h1 hd hk
    obtain ⟨k, rfl⟩ : ∃ m, k = m + 1 := ⟨k - 1, by omega⟩
    simp only [tri_And.l0]; rw [if_neg (by omega)]
    have : l.drop i.toNat = [] := List.drop_eq_nil_of_le (by omega)
    rw [this]; rfl
  | succ d ih =>
    intro k i out h0 h1 hd hk
    obtain ⟨k, rfl⟩ : ∃ m, k = m + 1 := ⟨k - 1, by omega⟩
    have hlt : i < (l.length : Int) := by omega
    simp only [tri_And.l0]; rw [if_pos hlt, if_pos h0, if_pos hlt, norm_eq, step_wrap h0 hlt hn]; simp only [Option.bind_some]
    rw [drop_rd h0 hlt]
    rcases normI_cases (rd l i) with h | h | h
    · simp [h, andS]
    · rw [ih k (i + 1) out (by omega) (by omega) (by omega) (by omega)]; simp [h, andS]
    · rw [ih k (i + 1) 2 (by omega) (by omega) (by omega) (by omega)]; simp [h, andS]
theorem and_eq (k : Nat) (l : List Int) (hn : l.length ≤ 4611686018427387904) (hk : l.length < k) : tri_And.f k l = some (andS l 1) := by
  unfold tri_And.f
  rw [and_l l hn l.length k 0 1 (by omega) (by omega) (by omega) hk]; rfl

theorem or_l (l : List Int) (hn : l.length ≤ 4611686018427387904) (d : Nat) : ∀ (k : Nat) (i out : Int), 0 ≤ i → i ≤ l.length → (l.length : Int) - i = d → d < k →
    tri_Or.l0 k out l (l.length : Int) i = some (orS (l.drop i.toNat) out) := by
  induction d with
  | zero =>
    intro k i out h0 h1 hd hk
    obtain ⟨k, rfl⟩ : ∃ m, k = m + 1 := ⟨k - 1, by omega⟩
    simp only [tri_Or.l0]; rw [if_neg (by omega)]
    have : l.drop i.toNat = [] := List.drop_eq_nil_of_le (by omega)
    rw [this]; rfl
  | succ d ih =>
    intro k i out h0 h1 hd hk
    obtain ⟨k, rfl⟩ : ∃ m, k = m + 1 := ⟨k - 1, by omega⟩
    have hlt : i < (l.length : Int) := by omega
    simp only [tri_Or.l0]; rw [if_pos hlt, if_pos h0, if_pos hlt, norm_eq, step_wrap h0 hlt hn]; simp only [Option.bind_some]
    rw [drop_rd h0 hlt]
    rcases normI_cases (rd l i) with h | h | h
    · rw [ih k (i + 1) out (by omega) (by omega) (by omega) (by omega)]; simp [h, orS]
    · simp [h, orS]
    · rw [ih k (i + 1) 2 (by omega) (by omega) (by omega) (by omega)]; simp [h, orS]
theorem or_eq (k : Nat) (l : List Int) (hn : l.length ≤ 4611686018427387904) (hk : l.length < k) : tri_Or.f k l = some (orS l 0) := by
  unfold tri_Or.f
  rw [or_l l hn l.length k 0 0 (by omega) (by omega) (by omega) hk]; rfl

theorem join_l (l : List Int) (hn : l.length ≤ 4611686018427387904) (out : Int) (d : Nat) : ∀ (k : Nat) (i : Int), 0 ≤ i → i ≤ l.length → (l.length : Int) - i = d → d < k →
    tri_Join.l0 k out l (l.length : Int) i = some (joinS (l.drop i.toNat) out) := by
  induction d with
  | zero =>
    intro k i h0 h1 hd hk
    obtain ⟨k, rfl⟩ : ∃ m, k = m + 1 := ⟨k - 1, by omega⟩
    simp only [tri_Join.l0]; rw [if_neg (by omega)]
    have : l.drop i.toNat = [] := List.drop_eq_nil_of_le (by omega)
    rw [this]; rfl
  | succ d ih =>
    intro k i h0 h1 hd hk
    obtain ⟨k, rfl⟩ : ∃ m, k = m + 1 := ⟨k - 1, by omega⟩
    have hlt : i < (l.length : Int) := by omega
    simp only [tri_Join.l0]; rw [if_pos hlt, if_pos h0, if_pos hlt, norm_eq, step_wrap h0 hlt hn]; simp only [Option.bind_some]
    rw [drop_rd h0 hlt]
    by_cases h : normI (rd l i) = out
    · rw [if_pos h, ih k (i + 1) (by omega) (by omega) (by omega) (by omega)]; simp [h, joinS]
    · rw [if_neg h]; simp [h, joinS]
theorem join_eq (k : Nat) (a : Int) (l : List Int) (hn : l.length ≤ 4611686018427387904) (hk : l.length < k) : tri_Join.f k a l = some (joinS l (normI a)) := by
  unfold tri_Join.f
  rw [norm_eq]; simp only [Option.bind_some]
  rw [join_l l hn (normI a) l.length k 0 (by omega) (by omega) (by omega) hk]; rfl

theorem below_eq (a b : Int) : tri_Below.f a b = some (decide (normI b = 2) || (normI a == normI b)) := by
  unfold tri_Below.f
  simp only [norm_eq, Option.bind_some]
  by_cases h : normI b = 2 <;> simp [h]

theorem one_list (c : UInt8) : (⟨#[c]⟩ : ByteArray).toList = [c] := by
  unfold ByteArray.toList
  rw [ByteArray.toList.loop, if_pos (by show 0 < 1; omega), ByteArray.toList.loop, if_neg (by show ¬ 0 + 1 < 1; omega)]
  rfl
theorem not_0 : tri_Not.f 0 = some 1 := by unfold tri_Not.f; simp
theorem text_1 : tri_Text.f 1 = some ⟨#[49]⟩ := by
  have n : tri_Norm.f 1 = some 1 := by unfold tri_Norm.f; simp
  have w : wrap64 (1 + 1) = 2 := by unfold wrap64; omega
  unfold tri_Text.f
  rw [n]
  simp only [Option.bind_some, w]
  rfl
theorem first_eq (k : Nat) (hk : 2 < k) : armaturelaw01_first.f k = some true := by
  unfold armaturelaw01_first.f
  rw [and_eq k [1, 2] (by simp) (by simpa using hk)]
  have e : andS [1, 2] 1 = 2 := by decide
  simp only [e, Option.bind_some, if_true, not_0, text_1, one_list]
  rfl

set_option maxHeartbeats 4000000 in
theorem TriTurns : armaturelaw01_TriTurns.Pure := by
  intro a b _ _
  refine ⟨10, ?_⟩
  unfold armaturelaw01_TriTurns.f
  rw [first_eq 10 (by omega)]
  simp only [Option.bind_some, if_true]
  rw [join_eq 10 a [b] (by simp) (by simp)]
  simp only [Option.bind_some]
  have w0 : wrap64 (0 + 1) = 1 := by unfold wrap64; omega
  have w1 : wrap64 (1 + 1) = 2 := by unfold wrap64; omega
  have w2 : wrap64 (2 + 1) = 3 := by unfold wrap64; omega
  have n0 : normI 0 = 0 := rfl
  have n1 : normI 1 = 1 := rfl
  have n2 : normI 2 = 2 := rfl
  simp only [armaturelaw01_TriTurns.l0, below_eq, w0, w1, w2, n0, n1, n2, Option.bind_some, not_eq]
  simp only [and_eq 6 [a, b] (by simp) (by simp), and_eq 6 [b, a] (by simp) (by simp), or_eq 6 [a, b] (by simp) (by simp), or_eq 6 [b, a] (by simp) (by simp), or_eq 6 [notI a, notI b] (by simp) (by simp), norm_eq, Option.bind_some]
  rcases normI_cases a with ha | ha | ha <;> rcases normI_cases b with hb | hb | hb <;>
    simp [andS, orS, joinS, notI, ha, hb, n0, n1, n2]

end Go.Proofs.Ytmbnmgpipeinfaa.Pure
