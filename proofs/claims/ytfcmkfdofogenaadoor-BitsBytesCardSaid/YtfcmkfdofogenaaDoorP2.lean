/- Sets as numbers: order, shifts, the sets within a set; the runs of two laws. -/
import Derived.Test.YtfcmkfdofogenaaDoorP1
set_option linter.unusedVariables false
namespace Go.Vm
open Go
/-! ### sets as numbers; order -/
def num (a b : Int) : Nat := 2 ^ 64 * b.toNat + a.toNat
theorem num_lt {a b : Int} (ha : inW a) (hb : inW b) : num a b < 2 ^ 128 := by
  have := ha.1; have := ha.2; have := hb.1; have := hb.2
  unfold num; omega
theorem num_inj {a b c d : Int} (ha : inW a) (hb : inW b) (hc : inW c) (hd : inW d) (h : num a b = num c d) : a = c ∧ b = d := by
  have := ha.1; have := ha.2; have := hb.1; have := hb.2; have := hc.1; have := hc.2; have := hd.1; have := hd.2
  unfold num at h; omega
theorem num_bit {a b : Int} (ha : inW a) (i : Nat) : (num a b).testBit i = if i < 64 then tb a i else tb b (i - 64) := by
  have := ha.1; have := ha.2
  unfold num
  rw [Nat.testBit_two_pow_mul_add _ (by omega)]; rfl
theorem hs_num {a b : Int} (ha : inW a) (hb : inW b) {i : Int} (hi : 0 ≤ i) : hs a b i = (num a b).testBit i.toNat := by
  rw [num_bit ha]
  unfold hs
  by_cases h : i < 64
  · rw [if_pos h, if_pos (by omega), (there_iff i).2 (by omega), Bool.true_and]
  · rw [if_neg h, if_neg (by omega)]
    by_cases h2 : i < 128
    · rw [(there_iff i).2 (by omega), Bool.true_and]
    · have : b_there i = false := by
        cases hb : b_there i
        · rfl
        · have := (there_iff i).1 hb; omega
      rw [this, Bool.false_and, tb_big hb (by omega)]
def cmpN (x y : Nat) : Int := if x = y then 0 else if x > y then 1 else -1
theorem mod_step (x k : Nat) : x % 2 ^ (k + 1) = 2 ^ k * (if x.testBit k then 1 else 0) + x % 2 ^ k := by
  rw [Nat.pow_succ, Nat.mod_mul, Nat.testBit_eq_decide_div_mod_eq]
  by_cases h : x / 2 ^ k % 2 = 1
  · rw [h]; simp; omega
  · have : x / 2 ^ k % 2 = 0 := by omega
    rw [this]; simp
theorem cmpB_num (x y : Nat) (p q : Int → Bool) : ∀ k, (∀ i : Nat, i < k → p i = x.testBit i) → (∀ i : Nat, i < k → q i = y.testBit i) → cmpB p q k = cmpN (x % 2 ^ k) (y % 2 ^ k)
  | 0, _, _ => by simp [cmpB, cmpN, Nat.mod_one]
  | k + 1, hp, hq => by
    have ih := cmpB_num x y p q k (fun i hi => hp i (by omega)) (fun i hi => hq i (by omega))
    have h1 : x % 2 ^ k < 2 ^ k := Nat.mod_lt _ (Nat.two_pow_pos _)
    have h2 : y % 2 ^ k < 2 ^ k := Nat.mod_lt _ (Nat.two_pow_pos _)
    rw [show cmpB p q (k + 1) = if p (k : Int) = q (k : Int) then cmpB p q k else if p (k : Int) then 1 else -1 from rfl, hp k (by omega), hq k (by omega), ih, mod_step x, mod_step y]
    unfold cmpN
    cases x.testBit k <;> cases y.testBit k <;> simp <;> split <;> omega
theorem refcmp_num {a b c d : Int} (ha : inW a) (hb : inW b) (hc : inW c) (hd : inW d) : ref_Compare a b c d = cmpN (num a b) (num c d) := by
  unfold ref_Compare
  rw [cmpB_num (num a b) (num c d) _ _ 128 (fun i hi => by rw [refhas_hs ha hb, hs_num ha hb (by omega)]; rfl) (fun i hi => by rw [refhas_hs hc hd, hs_num hc hd (by omega)]; rfl), Nat.mod_eq_of_lt (num_lt ha hb), Nat.mod_eq_of_lt (num_lt hc hd)]
theorem bcmp_num {a b c d : Int} (ha : inW a) (hb : inW b) (hc : inW c) (hd : inW d) : b_Compare a b c d = cmpN (num a b) (num c d) := by
  have := ha.1; have := ha.2; have := hb.1; have := hb.2; have := hc.1; have := hc.2; have := hd.1; have := hd.2
  unfold b_Compare cmpN num
  by_cases h : b = d
  · subst h
    rw [if_neg (show ¬ (b ≠ b) by simp)]
    by_cases h2 : a = c
    · subst h2; simp
    · rw [if_pos h2, if_neg (show ¬ (2 ^ 64 * b.toNat + a.toNat = 2 ^ 64 * b.toNat + c.toNat) by omega)]
      by_cases h3 : a > c
      · rw [if_pos h3, if_pos (by omega)]
      · rw [if_neg h3, if_neg (by omega)]
  · rw [if_pos h, if_neg (show ¬ (2 ^ 64 * b.toNat + a.toNat = 2 ^ 64 * d.toNat + c.toNat) by omega)]
    by_cases h3 : b > d
    · rw [if_pos h3, if_pos (by omega)]
    · rw [if_neg h3, if_neg (by omega)]
theorem cmpN_neg (x y : Nat) : cmpN y x = IntKind.i64.wrap (0 - cmpN x y) := by
  unfold cmpN
  by_cases h : x = y
  · rw [if_pos h, if_pos h.symm]; rfl
  · rw [if_neg h, if_neg (fun e => h e.symm)]
    by_cases h2 : x > y
    · rw [if_pos h2, if_neg (by omega)]; rfl
    · rw [if_neg h2, if_pos (by omega)]; rfl
/-! shifts -/
theorem inW_fdiv {w : Int} (h : inW w) (n : Nat) : inW (Int.fdiv w (2 ^ n)) := by
  obtain ⟨a, rfl, ha⟩ := h.ex
  rw [fdiv_nat]; exact inW_nat (Nat.lt_of_le_of_lt (Nat.div_le_self _ _) ha)
theorem tb_fdiv {w : Int} (h : inW w) (n i : Nat) : tb (Int.fdiv w (2 ^ n)) i = tb w (n + i) := by
  obtain ⟨a, rfl, ha⟩ := h.ex
  rw [fdiv_nat, tb_nat, tb_nat, Nat.testBit_div_two_pow, Nat.add_comm]
theorem tb_shl {w : Int} (h : inW w) (n i : Nat) : tb (shl w n) i = (decide (i < 64) && (decide (n ≤ i) && tb w (i - n))) := by
  obtain ⟨a, rfl, ha⟩ := h.ex
  have e : shl (a : Int) n = ((a * 2 ^ n % 2 ^ 64 : Nat) : Int) := by
    unfold shl
    rw [wrapU, show ((2 : Int) ^ n) = ((2 ^ n : Nat) : Int) by simp]; omega
  rw [e, tb_nat, tb_nat, Nat.testBit_mod_two_pow, Nat.testBit_mul_two_pow]
theorem in_shift {a b : Int} (ha : inW a) (hb : inW b) (k : Int) : inS (b_Shift a b k) := by
  unfold b_Shift
  split
  · exact ⟨inW_0, inW_0⟩
  · split
    · split
      · exact ⟨inW_0, inW_wrap _⟩
      · exact ⟨inW_wrap _, inW_or _ _⟩
    · split
      · exact ⟨inW_fdiv hb _, inW_0⟩
      · exact ⟨inW_or _ _, inW_fdiv hb _⟩
theorem hs_shift {a b : Int} (ha : inW a) (hb : inW b) (k : Int) {j : Int} (h0 : 0 ≤ j) (h1 : j < 128) : hs (b_Shift a b k).1 (b_Shift a b k).2 j = hs a b (j - k) := by
  have hj : b_there j = true := (there_iff j).2 ⟨h0, h1⟩
  have nth : ∀ i : Int, ¬ (0 ≤ i ∧ i < 128) → hs a b i = false := fun i hi => by
    cases h : hs a b i
    · rfl
    · exact absurd (hs_there h) hi
  have yes : ∀ i : Int, 0 ≤ i → i < 64 → hs a b i = tb a i.toNat := fun i g1 g2 => by unfold hs; rw [(there_iff i).2 (by omega), if_pos g2, Bool.true_and]
  have yes2 : ∀ i : Int, 64 ≤ i → i < 128 → hs a b i = tb b (i.toNat - 64) := fun i g1 g2 => by unfold hs; rw [(there_iff i).2 (by omega), if_neg (by omega), Bool.true_and]
  unfold b_Shift
  by_cases c1 : k ≤ -128 ∨ 128 ≤ k
  · rw [if_pos c1, nth _ (by omega)]; exact hs_0 j
  rw [if_neg c1]
  by_cases c2 : 0 ≤ k
  · rw [if_pos c2]
    by_cases c3 : k ≥ 64
    · rw [if_pos c3]
      unfold hs; rw [hj, Bool.true_and]
      by_cases c4 : j < 64
      · rw [if_pos c4]; simp only [tb_0]
        exact (nth _ (by omega)).symm
      · rw [if_neg c4]; simp only [tb_shl ha]
        rw [decide_eq_true (by omega), Bool.true_and]
        by_cases c5 : k ≤ j
        · rw [decide_eq_true (by omega), Bool.true_and]
          exact (congrArg (tb a) (by omega)).trans (yes (j - k) (by omega) (by omega)).symm
        · rw [decide_eq_false (by omega)]; exact (nth _ (by omega)).symm
    · rw [if_neg c3]
      by_cases c4 : j < 64
      · unfold hs; rw [hj, Bool.true_and, if_pos c4]; simp only [tb_shl ha]
        rw [decide_eq_true (by omega), Bool.true_and]
        by_cases c5 : k ≤ j
        · rw [decide_eq_true (by omega), Bool.true_and]
          exact (congrArg (tb a) (by omega)).trans (yes (j - k) (by omega) (by omega)).symm
        · rw [decide_eq_false (by omega)]; exact (nth _ (by omega)).symm
      · unfold hs; rw [hj, Bool.true_and, if_neg c4]; simp only [tb_or (inW_wrap (b * 2 ^ k.toNat)) (inW_fdiv ha (64 - k.toNat)), show shl b k.toNat = IntKind.u64.wrap (b * 2 ^ k.toNat) from rfl]
        rw [show IntKind.u64.wrap (b * 2 ^ k.toNat) = shl b k.toNat from rfl, tb_shl hb, tb_fdiv ha, decide_eq_true (by omega), Bool.true_and]
        by_cases c5 : k ≤ j - 64
        · rw [decide_eq_true (by omega), Bool.true_and, tb_big ha (by omega), Bool.or_false]
          exact (congrArg (tb b) (by omega)).trans (yes2 (j - k) (by omega) (by omega)).symm
        · rw [decide_eq_false (by omega), Bool.false_and, Bool.false_or]
          exact (congrArg (tb a) (by omega)).trans (yes (j - k) (by omega) (by omega)).symm
  · rw [if_neg c2]
    by_cases c3 : -k ≥ 64
    · rw [if_pos c3]
      unfold hs; rw [hj, Bool.true_and]
      by_cases c4 : j < 64
      · rw [if_pos c4]; simp only [tb_fdiv hb]
        by_cases c5 : j - k < 128
        · exact (congrArg (tb b) (by omega)).trans (yes2 (j - k) (by omega) (by omega)).symm
        · rw [tb_big hb (by omega)]; exact (nth _ (by omega)).symm
      · rw [if_neg c4]; simp only [tb_0]; exact (nth _ (by omega)).symm
    · rw [if_neg c3]
      by_cases c4 : j < 64
      · unfold hs; rw [hj, Bool.true_and, if_pos c4]; simp only [tb_or (inW_fdiv ha (-k).toNat) (inW_wrap (b * 2 ^ (64 - (-k).toNat))), show shl b (64 - (-k).toNat) = IntKind.u64.wrap (b * 2 ^ (64 - (-k).toNat)) from rfl]
        rw [show IntKind.u64.wrap (b * 2 ^ (64 - (-k).toNat)) = shl b (64 - (-k).toNat) from rfl, tb_shl hb, tb_fdiv ha, decide_eq_true (by omega), Bool.true_and]
        by_cases c5 : j - k < 64
        · rw [decide_eq_false (by omega), Bool.false_and, Bool.or_false]
          exact (congrArg (tb a) (by omega)).trans (yes (j - k) (by omega) (by omega)).symm
        · rw [decide_eq_true (by omega), Bool.true_and, tb_big ha (by omega), Bool.false_or]
          exact (congrArg (tb b) (by omega)).trans (yes2 (j - k) (by omega) (by omega)).symm
      · unfold hs; rw [hj, Bool.true_and, if_neg c4]; simp only [tb_fdiv hb]
        by_cases c5 : j - k < 128
        · exact (congrArg (tb b) (by omega)).trans (yes2 (j - k) (by omega) (by omega)).symm
        · rw [tb_big hb (by omega)]; exact (nth _ (by omega)).symm
end Go.Vm
set_option linter.unusedVariables false
namespace Go.Vm
open Go
/-! the run of BitsMoves -/
theorem pos_div {a b : Int} (ha : inW a) (hb : inW b) {i : Nat} (hi : i < 128) : ref_Has a b (i : Int) = hs a b (i : Int) := refhas_hs ha hb _
theorem moves_in (a b c d : Int) (p2 : Int) (n0 fuel : Nat) (k : Nat) (hk : k < 128) (H : Bool) (hH : ref_Has a b (k : Int) = H) : ∀ (m q : Nat) (out : List Int), 128 < q + m → q ≤ 128 → out.length ≤ 128 * k + q →
    L9_1 fuel 1 law_first b_Compare ref_Compare b_Shift ref_Of ref_Has n0 m p2 (k : Int) a b c d out.length (q : Int) out =
    L9_0 fuel 1 law_first b_Compare ref_Compare b_Shift ref_Of ref_Has n0 p2 a b c d (out ++ (upTo q).filter (fun j => j - k == p2 && H)).length ((k + 1 : Nat) : Int) (out ++ (upTo q).filter (fun j => j - k == p2 && H))
  | 0, q, out, h0, h1, h2 => by omega
  | m + 1, q, out, h0, h1, h2 => by
    rw [L9_1_succ]
    by_cases hq : q < 128
    · rw [cnd_pos (by omega), wrap_i64 ((q : Int) - k) (by omega) (by omega), wrapS q (by unfold maxLen; omega), upTo_lt hq, hH, cnd_pos (p := (out.length + 1) * 8 ≤ _) (by omega), List.take_length]
      cases he : ((q : Int) - k == p2) with
      | false =>
        rw [cnd_false, List.filter_cons_of_neg (by rw [he]; simp), moves_in a b c d p2 n0 fuel k hk H hH m (q + 1) out (by omega) (by omega) (by omega)]
      | true =>
        rw [cnd_true]
        cases H with
        | false => rw [cnd_false, List.filter_cons_of_neg (by simp), moves_in a b c d p2 n0 fuel k hk false hH m (q + 1) out (by omega) (by omega) (by omega)]
        | true =>
          have := moves_in a b c d p2 n0 fuel k hk true hH m (q + 1) (out ++ [(q : Int)]) (by omega) (by omega) (by simp; omega)
          rw [List.length_append (bs := [(q : Int)]), List.length_singleton] at this
          rw [cnd_true, this, List.filter_cons_of_pos (by rw [he]; rfl), List.append_assoc]; rfl
    · obtain rfl : q = 128 := by omega
      rw [cnd_neg (by omega), upTo_128, wrapS k (by unfold maxLen; omega)]; simp
theorem moves_out {a b c d : Int} (ha : inW a) (hb : inW b) (hc : inW c) (hd : inW d) (p2 : Int) (fuel : Nat) (hf : 128 < fuel) : ∀ (m k : Nat) (out : List Int), 128 < k + m → k ≤ 128 → out.length ≤ 128 * k →
    (∀ j : Int, 0 ≤ j → j < 128 → (j ∈ out ↔ j - p2 < k ∧ hs a b (j - p2) = true)) →
    Ret (L9_0 fuel 1 law_first b_Compare ref_Compare b_Shift ref_Of ref_Has m p2 a b c d out.length (k : Int) out) 0 (.bool true) []
  | 0, k, out, h0, h1, h2, h3 => by omega
  | m + 1, k, out, h0, h1, h2, h3 => by
    rw [L9_0_succ]
    by_cases hk : k < 128
    · have key := moves_in a b c d p2 m fuel k hk _ rfl fuel 0 out (by omega) (by omega) (by omega)
      rw [show ((0 : Nat) : Int) = 0 by rfl] at key
      rw [cnd_pos (by omega), key]
      refine moves_out ha hb hc hd p2 fuel hf m (k + 1) _ (by omega) (by omega) ?_ ?_
      · have := List.length_filter_le (fun j => j - (k : Int) == p2 && ref_Has a b (k : Int)) (upTo 0)
        rw [upTo_len] at this
        rw [List.length_append]; omega
      · intro j g0 g1
        rw [List.mem_append, h3 j g0 g1, List.mem_filter, mem_upTo, refhas_hs ha hb, Bool.and_eq_true, beq_iff_eq]
        constructor
        · rintro (h | ⟨_, h, h'⟩)
          · exact ⟨by omega, h.2⟩
          · have : j - p2 = k := by omega
            rw [this]; exact ⟨by omega, h'⟩
        · rintro ⟨g2, g3⟩
          by_cases e : j - p2 < k
          · exact .inl ⟨e, g3⟩
          · have : j - p2 = k := by omega
            rw [this] at g3
            exact .inr ⟨⟨by omega, g1⟩, by omega, g3⟩
    · obtain rfl : k = 128 := by omega
      have hsft : b_Shift a b p2 = ref_Of out := by
        have i1 := in_shift ha hb p2
        have i2 := in_refof out
        have := set_ext i1.1 i1.2 i2.1 i2.2 (fun j g0 g1 => by
          rw [hs_shift ha hb p2 g0 g1, hs_refof, (there_iff j).2 ⟨g0, g1⟩, Bool.true_and, Bool.eq_iff_iff, List.contains_iff_mem, h3 j g0 g1]
          constructor
          · exact fun h => ⟨by have := hs_there h; omega, h⟩
          · exact fun h => h.2)
        exact Prod.ext this.1 this.2
      rw [cnd_neg (by omega), cnd_t (by rw [bcmp_num ha hb hc hd, refcmp_num ha hb hc hd]; simp), cnd_t (by rw [bcmp_num hc hd ha hb, refcmp_num ha hb hc hd, cmpN_neg]; simp), List.take_length]
      exact Ret.leaf (by rw [peq hsft])
theorem moves_run {a b c d : Int} (ha : inW a) (hb : inW b) (hc : inW c) (hd : inW d) (p2 : Int) : Ret (F9 129 1 law_first b_Compare ref_Compare b_Shift ref_Of ref_Has a b c d p2) 0 (.bool true) [] := by
  rw [F9_eq, cnd_f (by rfl)]
  refine moves_out ha hb hc hd p2 129 (by omega) 129 0 [] (by omega) (by omega) (by simp) (fun j g0 g1 => ?_)
  constructor
  · intro h; cases h
  · rintro ⟨h, h'⟩
    have := hs_there h'; omega
/-! the run of BitsShifts but for the count -/
end Go.Vm
set_option linter.unusedVariables false
namespace Go.Vm
open Go
/-! ### the sets within a set, in their order -/
theorem and_step (m n : Nat) : m &&& n = 2 * (m / 2 &&& n / 2) + (m % 2) * (n % 2) := by
  have h1 : (m &&& n) / 2 = m / 2 &&& n / 2 := Nat.and_div_two
  have h2 : (m &&& n) % 2 ^ 1 = m % 2 ^ 1 &&& n % 2 ^ 1 := Nat.and_mod_two_pow
  rw [Nat.pow_one] at h2
  have h3 : m % 2 &&& n % 2 = (m % 2) * (n % 2) := by
    rcases Nat.mod_two_eq_zero_or_one m with x | x <;> rcases Nat.mod_two_eq_zero_or_one n with y | y <;> rw [x, y] <;> rfl
  rw [h3] at h2
  rw [← h1, ← h2]; omega
theorem sub_step {H O : Nat} (h : H &&& O = H) : H / 2 &&& O / 2 = H / 2 ∧ (O % 2 = 0 → H % 2 = 0) := by
  have e := and_step H O
  rw [h] at e
  rcases Nat.mod_two_eq_zero_or_one O with x | x <;> rcases Nat.mod_two_eq_zero_or_one H with y | y <;> rw [x, y] at e <;> constructor <;> omega
theorem step_sub {H O : Nat} (h1 : H / 2 &&& O / 2 = H / 2) (h2 : O % 2 = 0 → H % 2 = 0) : H &&& O = H := by
  have e := and_step H O
  rw [h1] at e
  rcases Nat.mod_two_eq_zero_or_one O with x | x
  · rw [x, h2 x] at e; have := h2 x; omega
  · rw [x] at e; omega
theorem sub_le : ∀ (n H O : Nat), O < 2 ^ n → H &&& O = H → H ≤ O
  | 0, H, O, hO, h => by
    have : O = 0 := by simpa using hO
    subst this; rw [Nat.and_zero] at h; omega
  | n + 1, H, O, hO, h => by
    obtain ⟨h1, h2⟩ := sub_step h
    have := sub_le n (H / 2) (O / 2) (by rw [Nat.pow_succ] at hO; omega) h1
    omega
def pc : Nat → Nat → Nat
  | 0, _ => 0
  | n + 1, O => O % 2 + pc n (O / 2)
def rank : Nat → Nat → Nat → Nat
  | 0, _, _ => 0
  | n + 1, O, H => if O % 2 = 1 then 2 * rank n (O / 2) (H / 2) + H % 2 else rank n (O / 2) (H / 2)
theorem rank_full : ∀ (n O : Nat), rank n O O + 1 = 2 ^ pc n O
  | 0, _ => rfl
  | n + 1, O => by
    have := rank_full n (O / 2)
    unfold rank pc
    rcases Nat.mod_two_eq_zero_or_one O with x | x
    · rw [x, if_neg (by omega), Nat.zero_add]; exact this
    · rw [x, if_pos rfl, Nat.add_comm 1, Nat.pow_succ]; omega
theorem rank_0 : ∀ (n O : Nat), rank n O 0 = 0
  | 0, _ => rfl
  | n + 1, O => by
    have := rank_0 n (O / 2)
    unfold rank
    split
    · rw [this]
    · exact this
theorem rank_lt : ∀ (n O X Y : Nat), X < 2 ^ n → Y < 2 ^ n → X &&& O = X → Y &&& O = Y → X < Y → rank n O X < rank n O Y
  | 0, O, X, Y, hX, hY, _, _, h => by simp at hX hY; omega
  | n + 1, O, X, Y, hX, hY, h1, h2, h => by
    obtain ⟨a1, a2⟩ := sub_step h1
    obtain ⟨b1, b2⟩ := sub_step h2
    rw [Nat.pow_succ] at hX hY
    unfold rank
    rcases Nat.mod_two_eq_zero_or_one O with x | x
    · have := a2 x; have := b2 x
      rw [if_neg (by omega), if_neg (by omega)]
      exact rank_lt n (O / 2) (X / 2) (Y / 2) (by omega) (by omega) a1 b1 (by omega)
    · rw [if_pos x, if_pos x]
      by_cases e : X / 2 = Y / 2
      · rw [e]; omega
      · have := rank_lt n (O / 2) (X / 2) (Y / 2) (by omega) (by omega) a1 b1 (by omega)
        omega
theorem compl : ∀ (n o h : Nat), o < 2 ^ n → h &&& o = h → (2 ^ n - 1 - (o - h)) &&& o = h
  | 0, o, h, ho, hh => by
    have : o = 0 := by simpa using ho
    subst this; rw [Nat.and_zero] at hh ⊢; exact hh
  | n + 1, o, h, ho, hh => by
    obtain ⟨a1, a2⟩ := sub_step hh
    rw [Nat.pow_succ] at ho
    have ih := compl n (o / 2) (h / 2) (by omega) a1
    have hle := sub_le n (h / 2) (o / 2) (by omega) a1
    rw [and_step, Nat.pow_succ]
    have e1 : (2 ^ n * 2 - 1 - (o - h)) / 2 = 2 ^ n - 1 - (o / 2 - h / 2) := by
      rcases Nat.mod_two_eq_zero_or_one o with x | x
      · have := a2 x; omega
      · omega
    rw [e1, ih]
    rcases Nat.mod_two_eq_zero_or_one o with x | x
    · have := a2 x; rw [x]; omega
    · rw [x]; omega
def nx (n O H : Nat) : Nat := ((2 ^ n + H - O) % 2 ^ n) &&& O
theorem dbl_mod (n x : Nat) : (2 * x) % (2 ^ n * 2) = 2 * (x % 2 ^ n) := by rw [Nat.mul_comm (2 ^ n) 2, Nat.mul_mod_mul_left]
theorem nx_ok : ∀ (n O H : Nat), O < 2 ^ n → H &&& O = H → H ≠ O → nx n O H &&& O = nx n O H ∧ rank n O (nx n O H) = rank n O H + 1
  | 0, O, H, hO, h, hne => by
    have : O = 0 := by simpa using hO
    subst this; rw [Nat.and_zero] at h; omega
  | n + 1, O, H, hO, h, hne => by
    refine ⟨by unfold nx; rw [Nat.and_assoc, Nat.and_self], ?_⟩
    obtain ⟨a1, a2⟩ := sub_step h
    rw [Nat.pow_succ] at hO
    have hle := sub_le n (H / 2) (O / 2) (by omega) a1
    have hp := Nat.two_pow_pos n
    by_cases hc : O % 2 = 1 ∧ H % 2 = 0
    · have e0 : (2 ^ (n + 1) + H - O) % 2 ^ (n + 1) = 2 * (2 ^ n - 1 - (O / 2 - H / 2)) + 1 := by
        rw [Nat.pow_succ, Nat.mod_eq_of_lt (by omega)]; omega
      have e1 : nx (n + 1) O H = H + 1 := by
        unfold nx
        rw [e0, and_step, show (2 * (2 ^ n - 1 - (O / 2 - H / 2)) + 1) / 2 = 2 ^ n - 1 - (O / 2 - H / 2) by omega, compl n (O / 2) (H / 2) (by omega) a1, hc.1]
        omega
      rw [e1]
      unfold rank
      rw [if_pos hc.1, if_pos hc.1, show (H + 1) / 2 = H / 2 by omega]; omega
    · have hmod : O % 2 = H % 2 := by
        rcases Nat.mod_two_eq_zero_or_one O with x | x
        · rw [x, a2 x]
        · rw [x]; have : ¬ H % 2 = 0 := fun e => hc ⟨x, e⟩; omega
      obtain ⟨i1, i2⟩ := nx_ok n (O / 2) (H / 2) (by omega) a1 (by omega)
      have e0 : (2 ^ (n + 1) + H - O) % 2 ^ (n + 1) = 2 * ((2 ^ n + H / 2 - O / 2) % 2 ^ n) := by
        rw [Nat.pow_succ, ← dbl_mod]; congr 1; omega
      have e1 : nx (n + 1) O H = 2 * nx n (O / 2) (H / 2) := by
        unfold nx
        rw [e0, and_step, show (2 * ((2 ^ n + H / 2 - O / 2) % 2 ^ n)) / 2 = (2 ^ n + H / 2 - O / 2) % 2 ^ n by omega, show (2 * ((2 ^ n + H / 2 - O / 2) % 2 ^ n)) % 2 = 0 by omega]
        omega
      rw [e1]
      unfold rank
      rw [show (2 * nx n (O / 2) (H / 2)) / 2 = nx n (O / 2) (H / 2) by omega, show (2 * nx n (O / 2) (H / 2)) % 2 = 0 by omega, i2]
      rcases Nat.mod_two_eq_zero_or_one O with x | x
      · rw [if_neg (by omega), if_neg (by omega)]
      · rw [if_pos x, if_pos x]; omega
/-! the two words -/
theorem num_and {a b c d : Int} (ha : inW a) (hb : inW b) (hc : inW c) (hd : inW d) : num (andI .u64 a c) (andI .u64 b d) = num a b &&& num c d := by
  apply Nat.eq_of_testBit_eq
  intro i
  rw [Nat.testBit_and, num_bit (inW_and _ _), num_bit ha, num_bit hc, tb_and ha hc, tb_and hb hd]
  split <;> rfl
theorem words_1 (X Y C D : Nat) (hx : X < 18446744073709551616) (hy : Y < 18446744073709551616) (hc : C < 18446744073709551616) (hd : D < 18446744073709551616) (hh : X < C) :
  18446744073709551616 * ((Y + 18446744073709551616 - D - 1) % 18446744073709551616) + (X + 18446744073709551616 - C) % 18446744073709551616 = (340282366920938463463374607431768211456 + (18446744073709551616 * Y + X) - (18446744073709551616 * D + C)) % 340282366920938463463374607431768211456 := by omega
theorem words_2 (X Y C D : Nat) (hx : X < 18446744073709551616) (hy : Y < 18446744073709551616) (hc : C < 18446744073709551616) (hd : D < 18446744073709551616) (hh : ¬ X < C) :
  18446744073709551616 * ((Y + 18446744073709551616 - D - 0) % 18446744073709551616) + (X + 18446744073709551616 - C) % 18446744073709551616 = (340282366920938463463374607431768211456 + (18446744073709551616 * Y + X) - (18446744073709551616 * D + C)) % 340282366920938463463374607431768211456 := by omega
theorem sub_1 (x y b : Int) : (m_Sub64 x y b).1 = (((x.toNat + 18446744073709551616 - y.toNat - b.toNat) % 18446744073709551616 : Nat) : Int) := rfl
theorem sub_2 (x y b : Int) : (m_Sub64 x y b).2 = if x.toNat < y.toNat + b.toNat then 1 else 0 := rfl
theorem sub_num {a b c d : Int} (ha : inW a) (hb : inW b) (hc : inW c) (hd : inW d) (hne : ¬ ((b_Meet a b c d).1 = c ∧ (b_Meet a b c d).2 = d)) :
    (b_Sub a b c d).2.2 = true ∧ inW (b_Sub a b c d).1 ∧ inW (b_Sub a b c d).2.1 ∧ num (b_Sub a b c d).1 (b_Sub a b c d).2.1 = nx 128 (num c d) (num a b &&& num c d) := by
  have e : b_Sub a b c d = ((b_Meet (m_Sub64 (b_Meet a b c d).1 c 0).1 (m_Sub64 (b_Meet a b c d).2 d (m_Sub64 (b_Meet a b c d).1 c 0).2).1 c d).1, (b_Meet (m_Sub64 (b_Meet a b c d).1 c 0).1 (m_Sub64 (b_Meet a b c d).2 d (m_Sub64 (b_Meet a b c d).1 c 0).2).1 c d).2, true) := by
    simp only [b_Sub, if_neg hne]
  have hm := num_and ha hb hc hd
  have w1 : inW (b_Meet a b c d).1 := inW_and _ _
  have w2 : inW (b_Meet a b c d).2 := inW_and _ _
  have hm : num (b_Meet a b c d).1 (b_Meet a b c d).2 = num a b &&& num c d := hm
  generalize (b_Meet a b c d).1 = x at *
  generalize (b_Meet a b c d).2 = y at *
  have b01 : (m_Sub64 x c 0).2.toNat = if x.toNat < c.toNat then 1 else 0 := by rw [sub_2]; simp only [Int.toNat_zero, Nat.add_zero]; split <;> simp
  have l1 : (m_Sub64 x c 0).1 = (((x.toNat + 18446744073709551616 - c.toNat) % 18446744073709551616 : Nat) : Int) := by rw [sub_1]; simp only [Int.toNat_zero, Nat.sub_zero]
  have q1 : inW (m_Sub64 x c 0).1 := by rw [l1]; exact inW_nat (by omega)
  have q2 : inW (m_Sub64 y d (m_Sub64 x c 0).2).1 := by rw [sub_1]; exact inW_nat (by omega)
  rw [e]
  refine ⟨rfl, inW_and _ _, inW_and _ _, ?_⟩
  have := num_and q1 q2 hc hd
  rw [show num (b_Meet (m_Sub64 x c 0).1 (m_Sub64 y d (m_Sub64 x c 0).2).1 c d).1 (b_Meet (m_Sub64 x c 0).1 (m_Sub64 y d (m_Sub64 x c 0).2).1 c d).2 = num (m_Sub64 x c 0).1 (m_Sub64 y d (m_Sub64 x c 0).2).1 &&& num c d from this]
  unfold nx
  rw [← hm]
  congr 1
  have h1 := w1.1; have h2 := w1.2; have h3 := w2.1; have h4 := w2.2; have h5 := hc.1; have h6 := hc.2; have h7 := hd.1; have h8 := hd.2
  have l2 : (m_Sub64 y d (m_Sub64 x c 0).2).1 = (((y.toNat + 18446744073709551616 - d.toNat - (if x.toNat < c.toNat then 1 else 0)) % 18446744073709551616 : Nat) : Int) := by rw [sub_1, b01]
  unfold num
  rw [l1, l2]
  rw [Int.toNat_natCast, Int.toNat_natCast, show (2 : Nat) ^ 64 = 18446744073709551616 from rfl, show (2 : Nat) ^ 128 = 340282366920938463463374607431768211456 from rfl]
  have k1 : x.toNat < 18446744073709551616 := by clear l1 l2 b01; omega
  have k2 : y.toNat < 18446744073709551616 := by clear l1 l2 b01; omega
  have k3 : c.toNat < 18446744073709551616 := by clear l1 l2 b01; omega
  have k4 : d.toNat < 18446744073709551616 := by clear l1 l2 b01; omega
  by_cases hh : x.toNat < c.toNat
  · rw [if_pos hh]; exact words_1 _ _ _ _ k1 k2 k3 k4 hh
  · rw [if_neg hh]; exact words_2 _ _ _ _ k1 k2 k3 k4 hh
theorem subs_run {a b c d e f : Int} (ha : inW a) (hb : inW b) (hc : inW c) (hd : inW d) (he : inW e) (hf : inW f) : Ret (F7 0 1 law_first b_Sub b_Meet ref_Compare a b c d e f) 0 (.bool true) [] := by
  rw [F7_eq, cnd_f (by rfl)]
  by_cases hne : (b_Meet a b c d).1 = c ∧ (b_Meet a b c d).2 = d
  · have hs : b_Sub a b c d = (0, 0, false) := by simp only [b_Sub, if_pos hne]
    rw [hs, cnd_t (by rfl), cnd_t (by rfl)]
    exact Ret.leaf (by rw [peqs hne])
  · obtain ⟨h1, h2, h3, h4⟩ := sub_num ha hb hc hd hne
    have w1 : inW (b_Meet a b c d).1 := inW_and _ _
    have w2 : inW (b_Meet a b c d).2 := inW_and _ _
    have x1 : inW (b_Meet e f c d).1 := inW_and _ _
    have x2 : inW (b_Meet e f c d).2 := inW_and _ _
    have hm : num (b_Meet a b c d).1 (b_Meet a b c d).2 = num a b &&& num c d := num_and ha hb hc hd
    have hx : num (b_Meet e f c d).1 (b_Meet e f c d).2 = num e f &&& num c d := num_and he hf hc hd
    have hsub : (num a b &&& num c d) &&& num c d = num a b &&& num c d := by rw [Nat.and_assoc, Nat.and_self]
    have xsub : (num e f &&& num c d) &&& num c d = num e f &&& num c d := by rw [Nat.and_assoc, Nat.and_self]
    have hO := num_lt hc hd
    have hHO : num a b &&& num c d ≠ num c d := fun he => hne (num_inj w1 w2 hc hd (by rw [hm, he]))
    obtain ⟨n1, n2⟩ := nx_ok 128 (num c d) (num a b &&& num c d) hO hsub hHO
    have lH : num a b &&& num c d < 2 ^ 128 := Nat.lt_of_le_of_lt (sub_le 128 _ _ hO hsub) hO
    have lX : num e f &&& num c d < 2 ^ 128 := Nat.lt_of_le_of_lt (sub_le 128 _ _ hO xsub) hO
    have lT : nx 128 (num c d) (num a b &&& num c d) < 2 ^ 128 := Nat.lt_of_le_of_lt (sub_le 128 _ _ hO n1) hO
    have gt : nx 128 (num c d) (num a b &&& num c d) > num a b &&& num c d := by
      rcases Nat.lt_trichotomy (nx 128 (num c d) (num a b &&& num c d)) (num a b &&& num c d) with g | g | g
      · have := rank_lt 128 (num c d) _ _ lT lH n1 hsub g; omega
      · rw [g] at n2; omega
      · exact g
    have mt : (b_Meet (b_Sub a b c d).1 (b_Sub a b c d).2.1 c d).1 = (b_Sub a b c d).1 ∧ (b_Meet (b_Sub a b c d).1 (b_Sub a b c d).2.1 c d).2 = (b_Sub a b c d).2.1 :=
      num_inj (inW_and _ _) (inW_and _ _) h2 h3 ((num_and h2 h3 hc hd).trans (by rw [h4, n1]))
    have nt : ¬ ((((b_Meet a b c d).1 == c) && (((b_Meet a b c d).2 == d) && true)) = true) := by simpa using hne
    rw [cnd_f (by rw [h1]; rfl), cnd_f (by rw [peqs mt]; rfl), cnd_f (by rw [refcmp_num h2 h3 w1 w2, h4, hm, cmpN, if_neg (by omega), if_pos gt]; rfl), cnd_f (by simpa using nt)]
    refine ret_cnd (fun g => Ret.leaf rfl) (fun g => Ret.leaf ?_)
    have g := of_decide_eq_false g
    rw [refcmp_num x1 x2 w1 w2, hx, hm] at g
    rw [refcmp_num x1 x2 h2 h3, hx, h4]
    have g1 : num e f &&& num c d > num a b &&& num c d := by
      unfold cmpN at g
      by_cases q1 : num e f &&& num c d = num a b &&& num c d
      · rw [if_pos q1] at g; omega
      · rw [if_neg q1] at g
        by_cases q2 : num e f &&& num c d > num a b &&& num c d
        · exact q2
        · rw [if_neg q2] at g; omega
    have g2 : ¬ (num e f &&& num c d < nx 128 (num c d) (num a b &&& num c d)) := fun q => by
      have r1 := rank_lt 128 (num c d) _ _ lH lX hsub xsub g1
      have r2 := rank_lt 128 (num c d) _ _ lX lT xsub n1 q
      omega
    have : cmpN (num e f &&& num c d) (nx 128 (num c d) (num a b &&& num c d)) ≥ 0 := by
      unfold cmpN
      by_cases q : num e f &&& num c d = nx 128 (num c d) (num a b &&& num c d)
      · rw [if_pos q]; omega
      · rw [if_neg q, if_pos (by omega)]; omega
    rw [decide_eq_true this]
end Go.Vm
namespace Go.Vm
open Go
theorem lawrun9 {t : TypeId × Nat × Nat} : LawRun Proofs.Tryd.prog (gl t) Proofs.Tryd.f9 [.tmp 6] none [(true, [.f (.int .u64), .f (.int .u64)]), (true, [.f (.int .u64), .f (.int .u64)]), (false, [.f (.int .i64)])] := by
  rintro ⟨⟨p0_0, ⟨p0_1, ⟨⟩⟩⟩, ⟨⟨p1_0, ⟨p1_1, ⟨⟩⟩⟩, ⟨⟨p2, ⟨⟩⟩, ⟨⟩⟩⟩⟩ hok
  exact ⟨c9 129 1 law_first b_Compare ref_Compare b_Shift ref_Of ref_Has, tok, callOf_ok (l := [(12, e12 law_first), (33, e33 b_Compare), (32, e32 ref_Compare), (34, e34 b_Shift), (20, e20 ref_Of), (13, e13 ref_Has)]) (by
    intro x hx
    rcases List.mem_cons.1 hx with rfl | hx
    · exact valid12
    rcases List.mem_cons.1 hx with rfl | hx
    · exact valid33
    rcases List.mem_cons.1 hx with rfl | hx
    · exact valid32
    rcases List.mem_cons.1 hx with rfl | hx
    · exact valid34
    rcases List.mem_cons.1 hx with rfl | hx
    · exact valid20
    rcases List.mem_cons.1 hx with rfl | hx
    · exact valid13
    cases hx), callOf_par [(12, e12 law_first), (33, e33 b_Compare), (32, e32 ref_Compare), (34, e34 b_Shift), (20, e20 ref_Of), (13, e13 ref_Has)], by kernel_rfl, by kernel_rfl, cast (by kernel_rfl) (moves_run (inW_of hok.1.1) (inW_of hok.1.2.1) (inW_of hok.2.1.1) (inW_of hok.2.1.2.1) p2)⟩
theorem lawrun7 {t : TypeId × Nat × Nat} : LawRun Proofs.Tryd.prog (gl t) Proofs.Tryd.f7 [.tmp 6] none [(true, [.f (.int .u64), .f (.int .u64)]), (true, [.f (.int .u64), .f (.int .u64)]), (true, [.f (.int .u64), .f (.int .u64)])] := by
  rintro ⟨⟨p0_0, ⟨p0_1, ⟨⟩⟩⟩, ⟨⟨p1_0, ⟨p1_1, ⟨⟩⟩⟩, ⟨⟨p2_0, ⟨p2_1, ⟨⟩⟩⟩, ⟨⟩⟩⟩⟩ hok
  exact ⟨c7 0 1 law_first b_Sub b_Meet ref_Compare, tok, callOf_ok (l := [(12, e12 law_first), (31, e31 b_Sub), (15, e15 b_Meet), (32, e32 ref_Compare)]) (by
    intro x hx
    rcases List.mem_cons.1 hx with rfl | hx
    · exact valid12
    rcases List.mem_cons.1 hx with rfl | hx
    · exact valid31
    rcases List.mem_cons.1 hx with rfl | hx
    · exact valid15
    rcases List.mem_cons.1 hx with rfl | hx
    · exact valid32
    cases hx), callOf_par [(12, e12 law_first), (31, e31 b_Sub), (15, e15 b_Meet), (32, e32 ref_Compare)], by kernel_rfl, by kernel_rfl, cast (by kernel_rfl) (subs_run (inW_of hok.1.1) (inW_of hok.1.2.1) (inW_of hok.2.1.1) (inW_of hok.2.1.2.1) (inW_of hok.2.2.1.1) (inW_of hok.2.2.1.2.1))⟩
end Go.Vm
