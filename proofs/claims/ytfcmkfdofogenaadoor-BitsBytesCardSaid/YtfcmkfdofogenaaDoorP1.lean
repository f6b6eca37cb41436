/- Sets by their numbers; the run of the law of points. -/
import Derived.Test.YtfcmkfdofogenaaDoorS1
set_option linter.unusedVariables false
namespace Go.Vm
open Go
/-! ### sets by their numbers -/
def hs (a b : Int) (i : Int) : Bool := b_there i && (if i < 64 then tb a i.toNat else tb b (i.toNat - 64))
def inS (s : Int × Int) : Prop := inW s.1 ∧ inW s.2
theorem there_iff (i : Int) : b_there i = true ↔ 0 ≤ i ∧ i < 128 := by simp [b_there]
theorem bhas_hs {a b : Int} (ha : inW a) (hb : inW b) (i : Int) : b_Has a b i = hs a b i := by
  unfold b_Has hs; rw [bitI_tb ha, bitI_tb hb]
theorem refhas_hs {a b : Int} (ha : inW a) (hb : inW b) (i : Int) : ref_Has a b i = hs a b i := by
  unfold ref_Has hs; rw [hB_tb _ ha, hB_tb _ hb]
theorem hs_there {a b i : Int} (h : hs a b i = true) : 0 ≤ i ∧ i < 128 := by
  unfold hs at h
  exact (there_iff i).1 (Bool.and_eq_true _ _ ▸ h).1
theorem set_ext {a b c d : Int} (ha : inW a) (hb : inW b) (hc : inW c) (hd : inW d) (h : ∀ i : Int, 0 ≤ i → i < 128 → hs a b i = hs c d i) : a = c ∧ b = d := by
  constructor
  · refine word_ext ha hc fun i hi => ?_
    have := h (i : Int) (by omega) (by omega)
    unfold hs at this
    rw [(there_iff _).2 (by omega), if_pos (by omega), if_pos (by omega)] at this
    simpa using this
  · refine word_ext hb hd fun i hi => ?_
    have := h ((i + 64 : Nat) : Int) (by omega) (by omega)
    unfold hs at this
    rw [(there_iff _).2 (by omega), if_neg (by omega), if_neg (by omega), show ((i + 64 : Nat) : Int).toNat - 64 = i by omega, Bool.true_and, Bool.true_and] at this
    exact this
section
variable {a b c d : Int}
theorem hs_union (ha : inW a) (hb : inW b) (hc : inW c) (hd : inW d) (i : Int) : hs (orI .u64 a c) (orI .u64 b d) i = (hs a b i || hs c d i) := by
  unfold hs; rw [tb_or ha hc, tb_or hb hd]; split <;> cases b_there i <;> simp
theorem hs_meet (ha : inW a) (hb : inW b) (hc : inW c) (hd : inW d) (i : Int) : hs (andI .u64 a c) (andI .u64 b d) i = (hs a b i && hs c d i) := by
  unfold hs; rw [tb_and ha hc, tb_and hb hd]; split <;> cases b_there i <;> simp
theorem hs_minus (ha : inW a) (hb : inW b) (hc : inW c) (hd : inW d) (i : Int) : hs (andNotI .u64 a c) (andNotI .u64 b d) i = (hs a b i && !hs c d i) := by
  unfold hs; rw [tb_andNot ha hc, tb_andNot hb hd]; split <;> cases b_there i <;> simp
theorem hs_differ (ha : inW a) (hb : inW b) (hc : inW c) (hd : inW d) (i : Int) : hs (xorI .u64 a c) (xorI .u64 b d) i = (hs a b i != hs c d i) := by
  unfold hs; rw [tb_xor ha hc, tb_xor hb hd]; split <;> cases b_there i <;> simp
end
theorem tb_0 (i : Nat) : tb 0 i = false := Nat.zero_testBit i
theorem in_one (i : Int) : inS (b_one i) := by
  unfold b_one
  split
  · exact ⟨inW_pow (by omega), inW_0⟩
  · split
    · exact ⟨inW_0, inW_pow (by omega)⟩
    · exact ⟨inW_0, inW_0⟩
theorem hs_one (i j : Int) : hs (b_one i).1 (b_one i).2 j = (b_there i && decide (i = j)) := by
  by_cases hj : 0 ≤ j ∧ j < 128
  · unfold hs b_one
    rw [(there_iff j).2 hj, Bool.true_and]
    by_cases h1 : 0 ≤ i ∧ i < 64
    · rw [if_pos h1, (there_iff i).2 (by omega), Bool.true_and]
      by_cases h : j < 64
      · rw [if_pos h]; simp only [tb_pow]; exact decide_eq_decide.2 (by omega)
      · rw [if_neg h]; simp only [tb_0]; exact (decide_eq_false (by omega)).symm
    · rw [if_neg h1]
      by_cases h2 : 64 ≤ i ∧ i < 128
      · rw [if_pos h2, (there_iff i).2 (by omega), Bool.true_and]
        by_cases h : j < 64
        · rw [if_pos h]; simp only [tb_0]; exact (decide_eq_false (by omega)).symm
        · rw [if_neg h]; simp only [tb_pow]; exact decide_eq_decide.2 (by omega)
      · have : b_there i = false := by
          cases hb : b_there i
          · rfl
          · have := (there_iff i).1 hb; omega
        rw [if_neg h2, this]; simp only [tb_0]; simp
  · have : b_there j = false := by
      cases hb : b_there j
      · rfl
      · exact absurd ((there_iff j).1 hb) hj
    unfold hs; rw [this, Bool.false_and]
    by_cases hi : b_there i = true
    · have hi' := (there_iff i).1 hi
      rw [decide_eq_false (by intro e; subst e; exact hj hi')]; simp
    · simp [hi]
theorem tb_ones {k : Nat} (i : Nat) : tb (2 ^ k - 1 : Int) i = decide (i < k) := by
  show ((2 : Int) ^ k - 1).toNat.testBit i = _
  have : ((2 : Int) ^ k - 1).toNat = 2 ^ k - 1 := by rw [show ((2 : Int) ^ k) = ((2 ^ k : Nat) : Int) by simp]; have := Nat.one_le_two_pow (n := k); omega
  rw [this, Nat.testBit_two_pow_sub_one]
theorem inW_ones {k : Nat} (h : k ≤ 64) : inW (2 ^ k - 1 : Int) := by
  have h1 := Nat.one_le_two_pow (n := k)
  have h2 : 2 ^ k ≤ 2 ^ 64 := Nat.pow_le_pow_right (by omega) h
  rw [show ((2 : Int) ^ k) = ((2 ^ k : Nat) : Int) by simp]
  unfold inW; omega
theorem in_below (n : Int) : inS (b_Below n) := by
  have h64 : inW 18446744073709551615 := ⟨by omega, by omega⟩
  unfold b_Below
  split
  · exact ⟨inW_0, inW_0⟩
  · split
    · exact ⟨inW_ones (by omega), inW_0⟩
    · split
      · exact ⟨h64, inW_ones (by omega)⟩
      · exact ⟨h64, h64⟩
theorem hs_below (n i : Int) : hs (b_Below n).1 (b_Below n).2 i = (b_there i && decide (i < n)) := by
  unfold hs
  cases hb : b_there i with
  | false => rfl
  | true =>
    have hi := (there_iff i).1 hb
    have e64 : (18446744073709551615 : Int) = 2 ^ 64 - 1 := by decide
    rw [Bool.true_and, Bool.true_and]
    unfold b_Below
    by_cases h0 : n ≤ 0
    · rw [if_pos h0]; simp only [tb_0]; rw [decide_eq_false (by omega)]; split <;> rfl
    · rw [if_neg h0]
      by_cases h1 : n < 64
      · rw [if_pos h1]
        by_cases h : i < 64
        · rw [if_pos h]; simp only [tb_ones]; exact decide_eq_decide.2 (by omega)
        · rw [if_neg h]; simp only [tb_0]; exact (decide_eq_false (by omega)).symm
      · rw [if_neg h1]
        by_cases h2 : n < 128
        · rw [if_pos h2, e64]
          by_cases h : i < 64
          · rw [if_pos h]; simp only [tb_ones]; exact decide_eq_decide.2 (by omega)
          · rw [if_neg h]; simp only [tb_ones]; exact decide_eq_decide.2 (by omega)
        · rw [if_neg h2, e64]
          by_cases h : i < 64
          · rw [if_pos h]; simp only [tb_ones]; exact decide_eq_decide.2 (by omega)
          · rw [if_neg h]; simp only [tb_ones]; exact decide_eq_decide.2 (by omega)
theorem hs_0 (i : Int) : hs 0 0 i = false := by unfold hs; rw [tb_0, tb_0]; simp
theorem in_with {a b : Int} (i : Int) : inS (b_With a b i) := ⟨inW_or _ _, inW_or _ _⟩
theorem hs_with {a b : Int} (ha : inW a) (hb : inW b) (i j : Int) : hs (b_With a b i).1 (b_With a b i).2 j = (hs a b j || (b_there i && decide (i = j))) := by
  have := in_one i
  rw [← hs_one i j]
  exact hs_union ha hb this.1 this.2 j
theorem hs_without {a b : Int} (ha : inW a) (hb : inW b) (i j : Int) : hs (b_Without a b i).1 (b_Without a b i).2 j = (hs a b j && !(b_there i && decide (i = j))) := by
  have := in_one i
  rw [← hs_one i j]
  exact hs_minus ha hb this.1 this.2 j
theorem hs_flip {a b : Int} (ha : inW a) (hb : inW b) (i j : Int) : hs (b_Flip a b i).1 (b_Flip a b i).2 j = (hs a b j != (b_there i && decide (i = j))) := by
  have := in_one i
  rw [← hs_one i j]
  exact hs_differ ha hb this.1 this.2 j
theorem of_fold : ∀ (l : List Int) (s : Int × Int), inS s → inS (l.foldl (fun s i => b_With s.1 s.2 i) s) ∧ ∀ j, hs (l.foldl (fun s i => b_With s.1 s.2 i) s).1 (l.foldl (fun s i => b_With s.1 s.2 i) s).2 j = (hs s.1 s.2 j || (b_there j && l.contains j))
  | [], s, h => ⟨h, fun j => by simp⟩
  | x :: l, s, h => by
    obtain ⟨h1, h2⟩ := of_fold l (b_With s.1 s.2 x) (in_with x)
    refine ⟨h1, fun j => ?_⟩
    rw [List.foldl_cons, h2 j, hs_with h.1 h.2, List.contains_cons]
    by_cases hx : x = j
    · subst hx; simp
      cases hs s.1 s.2 x <;> cases b_there x <;> simp
    · have : (j == x) = false := beq_eq_false_iff_ne.2 (fun e => hx e.symm)
      rw [this, decide_eq_false hx]; simp
theorem in_of (l : List Int) : inS (b_Of l) := (of_fold l (0, 0) ⟨inW_0, inW_0⟩).1
theorem hs_of (l : List Int) (j : Int) : hs (b_Of l).1 (b_Of l).2 j = (b_there j && l.contains j) := by
  have := (of_fold l (0, 0) ⟨inW_0, inW_0⟩).2 j
  rw [hs_0, Bool.false_or] at this
  exact this
/-! the document's set of a list -/
theorem tb_add {a : Int} (ha : inW a) {k : Nat} (hk : k < 64) (h0 : tb a k = false) : inW (IntKind.u64.wrap (a + 2 ^ k)) ∧ ∀ i, tb (IntKind.u64.wrap (a + 2 ^ k)) i = (tb a i || decide (k = i)) := by
  obtain ⟨n, rfl, hn⟩ := ha.ex
  rw [tb_nat] at h0
  have hp : 2 ^ k < 18446744073709551616 := Nat.lt_of_lt_of_le (Nat.pow_lt_pow_right (by omega) hk) (by decide)
  have key : (n + 2 ^ k) % 2 ^ 64 = n ||| 2 ^ k := by
    have h := BitVec.add_eq_or_of_and_eq_zero (BitVec.ofNat 64 n) (BitVec.ofNat 64 (2 ^ k)) (by
      apply BitVec.eq_of_toNat_eq
      apply Nat.eq_of_testBit_eq
      intro i
      rw [BitVec.toNat_and, BitVec.toNat_ofNat, BitVec.toNat_ofNat, Nat.mod_eq_of_lt (by omega), Nat.mod_eq_of_lt (by omega), Nat.testBit_and, Nat.testBit_two_pow]
      by_cases hi : k = i
      · subst hi; rw [h0]; simp
      · simp [hi])
    have h := congrArg BitVec.toNat h
    rw [BitVec.toNat_add, BitVec.toNat_or, BitVec.toNat_ofNat, BitVec.toNat_ofNat, Nat.mod_eq_of_lt (by omega : n < 2 ^ 64), Nat.mod_eq_of_lt (by omega : 2 ^ k < 2 ^ 64)] at h
    exact h
  have e : IntKind.u64.wrap ((n : Int) + 2 ^ k) = ((n ||| 2 ^ k : Nat) : Int) := by
    rw [wrapU, show ((2 : Int) ^ k) = ((2 ^ k : Nat) : Int) by simp, ← key]; omega
  rw [e]
  refine ⟨inW_nat (Nat.or_lt_two_pow (n := 64) (by omega) (by omega)), fun i => ?_⟩
  rw [tb_nat, tb_nat, Nat.testBit_or, Nat.testBit_two_pow]
theorem addW_hs {s : Int × Int} (h : inS s) {k : Nat} (hk : k < 128) (h0 : hs s.1 s.2 k = false) : inS (addW s k) ∧ ∀ j, hs (addW s k).1 (addW s k).2 j = (hs s.1 s.2 j || decide ((k : Int) = j)) := by
  unfold hs at h0
  rw [(there_iff _).2 (by omega), Bool.true_and] at h0
  by_cases h6 : k < 64
  · rw [if_pos (by omega)] at h0
    obtain ⟨h1, h2⟩ := tb_add h.1 h6 h0
    rw [addW, if_pos (by omega)]
    refine ⟨⟨h1, h.2⟩, fun j => ?_⟩
    unfold hs
    cases hj : b_there j with
    | false =>
      have : (k : Int) ≠ j := by rintro rfl; have := (there_iff (k : Int)).2 (by omega); rw [hj] at this; cases this
      simp [this]
    | true =>
      have hj := (there_iff j).1 hj
      by_cases hc : j < 64
      · rw [if_pos hc, if_pos hc]; simp only [Int.toNat_natCast, h2]; simp only [Bool.true_and]; congr 1; exact decide_eq_decide.2 (by omega)
      · rw [if_neg hc, if_neg hc, decide_eq_false (by omega)]; simp
  · rw [if_neg (by omega)] at h0
    obtain ⟨h1, h2⟩ := tb_add h.2 (k := k - 64) (by omega) h0
    rw [addW, if_neg (by omega)]
    refine ⟨⟨h.1, h1⟩, fun j => ?_⟩
    unfold hs
    cases hj : b_there j with
    | false =>
      have : (k : Int) ≠ j := by rintro rfl; have := (there_iff (k : Int)).2 (by omega); rw [hj] at this; cases this
      simp [this]
    | true =>
      have hj := (there_iff j).1 hj
      by_cases hc : j < 64
      · rw [if_pos hc, if_pos hc, decide_eq_false (by omega)]; simp
      · rw [if_neg hc, if_neg hc]; simp only [Int.toNat_natCast, h2]; simp only [Bool.true_and]; congr 1; exact decide_eq_decide.2 (by omega)
theorem refof_fold (l : List Int) : ∀ (m k : Nat) (s : Int × Int), m = 128 - k → k ≤ 128 → inS s →
    inS ((upTo k).foldl (ofStep l) s) ∧ ∀ j, hs ((upTo k).foldl (ofStep l) s).1 ((upTo k).foldl (ofStep l) s).2 j = (hs s.1 s.2 j || (b_there j && decide ((k : Int) ≤ j) && l.contains j))
  | 0, k, s, hm, hk, h => by
    obtain rfl : k = 128 := by omega
    rw [upTo_128]
    refine ⟨h, fun j => ?_⟩
    cases hj : b_there j with
    | false => simp
    | true => have := (there_iff j).1 hj; rw [decide_eq_false (by omega)]; simp
  | m + 1, k, s, hm, hk, h => by
    rw [upTo_lt (by omega), List.foldl_cons]
    have hstep : inS (ofStep l s k) ∧ ∀ j, hs (ofStep l s k).1 (ofStep l s k).2 j = (hs s.1 s.2 j || (decide ((k : Int) = j) && l.contains j)) := by
      unfold ofStep
      rw [refhas_hs h.1 h.2]
      cases hc : l.contains (k : Int) with
      | false =>
        refine ⟨h, fun j => ?_⟩
        by_cases e : (k : Int) = j
        · subst e; rw [decide_eq_true rfl, hc]; simp
        · simp [e]
      | true =>
        cases hh : hs s.1 s.2 (k : Int) with
        | true =>
          refine ⟨h, fun j => ?_⟩
          by_cases e : (k : Int) = j
          · subst e; simp [hh]
          · simp [e]
        | false =>
          obtain ⟨g1, g2⟩ := addW_hs h (k := k) (by omega) hh
          refine ⟨g1, fun j => ?_⟩
          rw [show (if (true && !false) = true then addW s (k : Int) else s) = addW s (k : Int) from rfl, g2 j]
          by_cases e : (k : Int) = j
          · subst e; simp; exact .inr (by simpa using hc)
          · simp [e]
    obtain ⟨g1, g2⟩ := refof_fold l m (k + 1) _ (by omega) (by omega) hstep.1
    refine ⟨g1, fun j => ?_⟩
    rw [g2 j, hstep.2 j]
    cases hj : b_there j with
    | false =>
      have : (k : Int) ≠ j := by rintro rfl; have := (there_iff (k : Int)).2 (by omega); rw [hj] at this; cases this
      simp [this]
    | true =>
      have hk' : (decide ((k : Int) = j) || decide (((k + 1 : Nat) : Int) ≤ j)) = decide ((k : Int) ≤ j) := by rw [← Bool.decide_or]; exact decide_eq_decide.2 (by omega)
      rw [← hk']
      generalize decide ((k : Int) = j) = x
      generalize decide (((k + 1 : Nat) : Int) ≤ j) = y
      generalize l.contains j = z
      generalize hs s.1 s.2 j = u
      revert x y z u
      decide
theorem in_refof (l : List Int) : inS (ref_Of l) := (refof_fold l 128 0 (0, 0) (by omega) (by omega) ⟨inW_0, inW_0⟩).1
theorem hs_refof (l : List Int) (j : Int) : hs (ref_Of l).1 (ref_Of l).2 j = (b_there j && l.contains j) := by
  have := (refof_fold l 128 0 (0, 0) (by omega) (by omega) ⟨inW_0, inW_0⟩).2 j
  rw [hs_0, Bool.false_or] at this
  have h2 : hs (ref_Of l).1 (ref_Of l).2 j = (b_there j && decide (((0 : Nat) : Int) ≤ j) && l.contains j) := this
  rw [h2]
  cases hj : b_there j with
  | false => rfl
  | true => have := (there_iff j).1 hj; rw [decide_eq_true (by omega)]; rfl
theorem of_refof (l : List Int) : b_Of l = ref_Of l := by
  have h1 := in_of l; have h2 := in_refof l
  have := set_ext h1.1 h1.2 h2.1 h2.2 (fun i _ _ => by rw [hs_of, hs_refof])
  exact Prod.ext this.1 this.2
end Go.Vm
set_option linter.unusedVariables false
namespace Go.Vm
open Go
theorem peq {x y : Int × Int} (h : x = y) : ((x.1 == y.1) && ((x.2 == y.2) && true)) = true := by subst h; simp
theorem peqs {a b c d : Int} (h : a = c ∧ b = d) : ((a == c) && ((b == d) && true)) = true := by rw [h.1, h.2]; simp
theorem mem_upTo {k : Nat} {j : Int} : j ∈ upTo k ↔ (k : Int) ≤ j ∧ j < 128 := by
  unfold upTo
  simp only [List.mem_map, List.mem_range'_1]
  constructor
  · rintro ⟨i, hi, rfl⟩; omega
  · intro h; exact ⟨j.toNat, by omega, by omega⟩
theorem upTo_len (k : Nat) : (upTo k).length = 128 - k := by unfold upTo; simp
theorem reflist_len (a b : Int) : (ref_List a b).length ≤ 128 := Nat.le_trans (List.length_filter_le _ _) (by rw [upTo_len]; omega)
theorem reflist_mem {a b : Int} (ha : inW a) (hb : inW b) (j : Int) : (ref_List a b).contains j = hs a b j := by
  rw [Bool.eq_iff_iff, List.contains_iff_mem, ref_List, List.mem_filter, mem_upTo, refhas_hs ha hb]
  constructor
  · exact fun h => h.2
  · exact fun h => ⟨by have := hs_there h; omega, h⟩
theorem take_mem (n : Int) : ∀ (m k : Nat) (j : Int), m = 128 - k → k ≤ 128 → (j ∈ (upTo k).takeWhile (fun i => decide (i < n)) ↔ (k : Int) ≤ j ∧ j < 128 ∧ j < n)
  | 0, k, j, hm, hk => by
    obtain rfl : k = 128 := by omega
    rw [upTo_128]; simp; omega
  | m + 1, k, j, hm, hk => by
    rw [upTo_lt (by omega)]
    by_cases hn : (k : Int) < n
    · rw [List.takeWhile_cons_of_pos (by simpa using hn), List.mem_cons, take_mem n m (k + 1) j (by omega) (by omega)]
      omega
    · rw [List.takeWhile_cons_of_neg (by simpa using hn)]; simp; omega
theorem below_eq (n : Int) : b_Below n = ref_Below n := by
  have h1 := in_below n
  have h2 := in_refof ((upTo 0).takeWhile (fun i => decide (i < n)))
  have := set_ext h1.1 h1.2 h2.1 h2.2 (fun i hi hi2 => by
    rw [hs_below, hs_refof]
    congr 1
    rw [Bool.eq_iff_iff, List.contains_iff_mem, take_mem n 128 0 i (by omega) (by omega), decide_eq_true_iff]; omega)
  exact Prod.ext this.1 this.2
theorem with_eq {a b : Int} (ha : inW a) (hb : inW b) (i : Int) : b_With a b i = ref_Of (ref_List a b ++ [i]) := by
  have h1 := in_with (a := a) (b := b) i
  have h2 := in_refof (ref_List a b ++ [i])
  have := set_ext h1.1 h1.2 h2.1 h2.2 (fun j hj hj2 => by
    have ht := (there_iff j).2 ⟨hj, hj2⟩
    rw [hs_with ha hb, hs_refof, ht, Bool.true_and, Bool.eq_iff_iff, List.contains_iff_mem, List.mem_append, ← List.contains_iff_mem, reflist_mem ha hb, Bool.or_eq_true, Bool.and_eq_true, decide_eq_true_iff, List.mem_singleton, there_iff]
    constructor
    · rintro (h | h)
      · exact .inl h
      · exact .inr h.2.symm
    · rintro (h | h)
      · exact .inl h
      · subst h; exact .inr ⟨⟨hj, hj2⟩, rfl⟩)
  exact Prod.ext this.1 this.2
theorem without_eq {a b : Int} (ha : inW a) (hb : inW b) (i : Int) : b_Without a b i = ref_Of ((ref_List a b).filter (fun x => x != i)) := by
  have h1 : inS (b_Without a b i) := ⟨inW_andNot _ _, inW_andNot _ _⟩
  have h2 := in_refof ((ref_List a b).filter (fun x => x != i))
  have := set_ext h1.1 h1.2 h2.1 h2.2 (fun j hj hj2 => by
    have ht := (there_iff j).2 ⟨hj, hj2⟩
    rw [hs_without ha hb, hs_refof, ht, Bool.true_and, Bool.eq_iff_iff, List.contains_iff_mem, List.mem_filter, ← List.contains_iff_mem, reflist_mem ha hb, Bool.and_eq_true]
    refine and_congr Iff.rfl ?_
    by_cases e : i = j
    · subst e; simp [ht]
    · simp [e]; exact fun h => e h.symm)
  exact Prod.ext this.1 this.2
theorem flip_eq {a b : Int} (ha : inW a) (hb : inW b) (i : Int) : b_Flip a b i = if ref_Has a b i then ref_Of ((ref_List a b).filter (fun x => x != i)) else ref_Of (ref_List a b ++ [i]) := by
  have h1 : inS (b_Flip a b i) := ⟨inW_xor _ _, inW_xor _ _⟩
  rw [refhas_hs ha hb]
  cases hc : hs a b i with
  | true =>
    rw [if_pos rfl, ← without_eq ha hb]
    have h2 : inS (b_Without a b i) := ⟨inW_andNot _ _, inW_andNot _ _⟩
    have := set_ext h1.1 h1.2 h2.1 h2.2 (fun j hj hj2 => by
      rw [hs_flip ha hb, hs_without ha hb]
      by_cases e : i = j
      · subst e; rw [hc, (there_iff i).2 ⟨hj, hj2⟩]; simp
      · simp [e])
    exact Prod.ext this.1 this.2
  | false =>
    rw [if_neg (by simp), ← with_eq ha hb]
    have h2 := in_with (a := a) (b := b) i
    have := set_ext h1.1 h1.2 h2.1 h2.2 (fun j hj hj2 => by
      rw [hs_flip ha hb, hs_with ha hb]
      by_cases e : i = j
      · subst e; rw [hc]; simp
      · simp [e])
    exact Prod.ext this.1 this.2
theorem inW_of {k : Int} (h : IntKind.u64.min ≤ k ∧ k ≤ IntKind.u64.max) : inW k := by
  have h1 : IntKind.u64.min = 0 := by decide
  have h2 : IntKind.u64.max = 18446744073709551615 := by decide
  rw [h1, h2] at h
  unfold inW; omega
theorem i64_of {k : Int} (h : IntKind.i64.min ≤ k ∧ k ≤ IntKind.i64.max) : -9223372036854775808 ≤ k ∧ k ≤ 9223372036854775807 := by
  have h1 : IntKind.i64.min = -9223372036854775808 := by decide
  have h2 : IntKind.i64.max = 9223372036854775807 := by decide
  rw [h1, h2] at h; exact h
theorem points_loop {a b : Int} (ha : inW a) (hb : inW b) (i n : Int) (fuel : Nat) : ∀ (m q : Nat) (out : List Int), (ref_List a b).length < q + m → q ≤ (ref_List a b).length → out.length ≤ q → out ++ ((ref_List a b).drop q).filter (fun x => x != i) = (ref_List a b).filter (fun x => x != i) →
    Ret (L4_0 fuel 1 law_first ref_List ref_Of ref_Has b_Has b_With b_Without b_Flip b_Below ref_Below m i n a b out.length (q : Int) out) 0 (.bool true) []
  | 0, q, out, h0, h1, h2, h3 => by omega
  | m + 1, q, out, h0, h1, h2, h3 => by
    have hl := reflist_len a b
    rw [L4_0_succ]
    by_cases hq : q < (ref_List a b).length
    · rw [idx_lt hq, idx_0, idx_lt hq, toNat_k, wrapS q (by unfold maxLen; omega), cnd_pos (p := (out.length + 1) * 8 ≤ _) (by omega)]
      rw [drop_getD _ q 0 hq] at h3
      refine ret_cnd (fun h => ?_) (fun h => ?_)
      · rw [List.filter_cons_of_pos (p := fun x => x != i) h] at h3
        have := points_loop ha hb i n fuel m (q + 1) (out ++ [(ref_List a b).getD q 0]) (by omega) (by omega) (by simp; omega) (by rw [List.append_assoc]; exact h3)
        rw [List.length_append, List.length_singleton] at this
        rw [List.take_length]; exact this
      · rw [List.filter_cons_of_neg (p := fun x => x != i) (by simp only [h]; decide)] at h3
        exact points_loop ha hb i n fuel m (q + 1) out (by omega) (by omega) (by omega) h3
    · rw [List.drop_eq_nil_of_le (by omega), List.filter_nil, List.append_nil] at h3
      subst h3
      have e1 : List.take (0 + (ref_List a b).length + 1) (List.take (0 + (ref_List a b).length) ([] ++ List.take (ref_List a b).length (ref_List a b)) ++ [i]) = ref_List a b ++ [i] := by
        rw [List.take_length, List.nil_append, Nat.zero_add, List.take_length]
        exact List.take_of_length_le (by simp)
      have fin : ∀ s : Int × Int, b_Flip a b i = s → Ret (J4_1 fuel 1 law_first ref_List ref_Of ref_Has b_Has b_With b_Without b_Flip b_Below ref_Below i n ((ref_List a b).filter (fun x => x != i)).length a b ((ref_List a b).filter (fun x => x != i)) s.1 s.2) 0 (.bool true) [] := by
        intro s hs'
        rw [J4_1_eq, e1, List.take_length, cnd_t (by rw [bhas_hs ha hb, refhas_hs ha hb]; simp), cnd_t (peq (with_eq ha hb i)), cnd_t (peq (without_eq ha hb i)), cnd_t (peq hs')]
        exact Ret.leaf (by rw [peq (below_eq n)])
      rw [idx_ge hq, cnd_pos (by omega), cnd_pos (by omega), e1, List.take_length]
      refine ret_cnd (fun h => ?_) (fun h => ?_)
      · exact fin (ref_Of ((ref_List a b).filter (fun x => x != i))) (by rw [flip_eq ha hb, if_pos h])
      · exact fin (ref_Of (ref_List a b ++ [i])) (by rw [flip_eq ha hb, if_neg (by rw [h]; decide)])
theorem points_run {a b : Int} (ha : inW a) (hb : inW b) (i n : Int) : Ret (F4 129 1 law_first ref_List ref_Of ref_Has b_Has b_With b_Without b_Flip b_Below ref_Below a b i n) 0 (.bool true) [] := by
  have hl := reflist_len a b
  rw [F4_eq, cnd_f (by rfl)]
  exact points_loop ha hb i n 129 129 0 [] (by omega) (by omega) (by simp) (by simp)
end Go.Vm
namespace Go.Vm
open Go
theorem lawrun4 {t : TypeId × Nat × Nat} : LawRun Proofs.Tryd.prog (gl t) Proofs.Tryd.f4 [.tmp 6] none [(true, [.f (.int .u64), .f (.int .u64)]), (false, [.f (.int .i64)]), (false, [.f (.int .i64)])] := by
  rintro ⟨⟨p0_0, ⟨p0_1, ⟨⟩⟩⟩, ⟨⟨p1, ⟨⟩⟩, ⟨⟨p2, ⟨⟩⟩, ⟨⟩⟩⟩⟩ hok
  exact ⟨c4 129 1 law_first ref_List ref_Of ref_Has b_Has b_With b_Without b_Flip b_Below ref_Below, tok, callOf_ok (l := [(12, e12 law_first), (19, e19 ref_List), (20, e20 ref_Of), (13, e13 ref_Has), (21, e21 b_Has), (22, e22 b_With), (23, e23 b_Without), (24, e24 b_Flip), (25, e25 b_Below), (26, e26 ref_Below)]) (by
    intro x hx
    rcases List.mem_cons.1 hx with rfl | hx
    · exact valid12
    rcases List.mem_cons.1 hx with rfl | hx
    · exact valid19
    rcases List.mem_cons.1 hx with rfl | hx
    · exact valid20
    rcases List.mem_cons.1 hx with rfl | hx
    · exact valid13
    rcases List.mem_cons.1 hx with rfl | hx
    · exact valid21
    rcases List.mem_cons.1 hx with rfl | hx
    · exact valid22
    rcases List.mem_cons.1 hx with rfl | hx
    · exact valid23
    rcases List.mem_cons.1 hx with rfl | hx
    · exact valid24
    rcases List.mem_cons.1 hx with rfl | hx
    · exact valid25
    rcases List.mem_cons.1 hx with rfl | hx
    · exact valid26
    cases hx), callOf_par [(12, e12 law_first), (19, e19 ref_List), (20, e20 ref_Of), (13, e13 ref_Has), (21, e21 b_Has), (22, e22 b_With), (23, e23 b_Without), (24, e24 b_Flip), (25, e25 b_Below), (26, e26 ref_Below)], by kernel_rfl, by kernel_rfl, cast (by kernel_rfl) (points_run (inW_of hok.1.1) (inW_of hok.1.2.1) p1 p2)⟩
end Go.Vm
