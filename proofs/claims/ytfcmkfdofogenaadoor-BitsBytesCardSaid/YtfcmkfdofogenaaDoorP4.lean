/- The count of a set; the runs of four laws. -/
import Derived.Test.YtfcmkfdofogenaaDoorP3
set_option linter.unusedVariables false
namespace Go.Vm
open Go
/-! ### the count of a word -/
theorem wrapN {n : Nat} (h : n < 18446744073709551616) : IntKind.u64.wrap (n : Int) = (n : Int) := wrap_u64 _ (by omega) (by omega)
/-- digits' sum, base B -/
def dsum (B : Nat) : Nat → Nat → Nat
  | 0, _ => 0
  | n + 1, y => y % B + dsum B n (y / B)
theorem dsum_s (B n y : Nat) : dsum B (n + 1) y = y % B + dsum B n (y / B) := rfl
def msk1 : Nat → Nat
  | 0 => 0
  | n + 1 => 4 * msk1 n + 1
def msk2 : Nat → Nat
  | 0 => 0
  | n + 1 => 16 * msk2 n + 3
def msk4 : Nat → Nat
  | 0 => 0
  | n + 1 => 256 * msk4 n + 15
theorem and_low (j x M c : Nat) (hc : c < 2 ^ j) : x &&& (2 ^ j * M + c) = 2 ^ j * (x / 2 ^ j &&& M) + (x % 2 ^ j &&& c) := by
  have h1 : (x &&& (2 ^ j * M + c)) / 2 ^ j = x / 2 ^ j &&& M := by
    rw [Nat.and_div_two_pow, Nat.mul_add_div (Nat.two_pow_pos j), Nat.div_eq_of_lt hc, Nat.add_zero]
  have h2 : (x &&& (2 ^ j * M + c)) % 2 ^ j = x % 2 ^ j &&& c := by
    rw [Nat.and_mod_two_pow, Nat.mul_add_mod, Nat.mod_eq_of_lt hc]
  have := Nat.div_add_mod (x &&& (2 ^ j * M + c)) (2 ^ j)
  rw [h1, h2] at this
  exact this.symm
def p1 (n x : Nat) : Nat := (x / 2 &&& msk1 n) + (x &&& msk1 n)
theorem p1_step (n x : Nat) : p1 (n + 1) x = 4 * p1 n (x / 4) + (x % 2 + x / 2 % 2) := by
  unfold p1
  rw [show msk1 (n + 1) = 2 ^ 2 * msk1 n + 1 from rfl, and_low 2 x _ 1 (by omega), and_low 2 (x / 2) _ 1 (by omega)]
  rw [Nat.and_one_is_mod, Nat.and_one_is_mod, show (2 : Nat) ^ 2 = 4 from rfl, show x / 2 / 4 = x / 4 / 2 by omega]
  omega
theorem p1_sum : ∀ n x, dsum 4 n (p1 n x) = pc (2 * n) x
  | 0, x => rfl
  | n + 1, x => by
    have := p1_sum n (x / 4)
    rw [p1_step, show 2 * (n + 1) = (2 * n + 1) + 1 by omega]
    unfold dsum pc
    unfold pc
    rw [show (4 * p1 n (x / 4) + (x % 2 + x / 2 % 2)) / 4 = p1 n (x / 4) by omega, this, show x / 2 / 2 = x / 4 by omega]
    omega
/-- every digit, base B, at most c -/
def dig (B c : Nat) : Nat → Nat → Prop
  | 0, y => y = 0
  | n + 1, y => y % B ≤ c ∧ dig B c n (y / B)
theorem p1_dig : ∀ n x, dig 4 2 n (p1 n x)
  | 0, x => by simp [dig, p1, msk1]
  | n + 1, x => by
    rw [p1_step]
    refine ⟨by omega, ?_⟩
    rw [show (4 * p1 n (x / 4) + (x % 2 + x / 2 % 2)) / 4 = p1 n (x / 4) by omega]
    exact p1_dig n _
def p2 (n y : Nat) : Nat := (y / 4 &&& msk2 n) + (y &&& msk2 n)
theorem and3 (x : Nat) : x % 16 &&& 3 = x % 4 := by
  rw [show (3 : Nat) = 2 ^ 2 - 1 from rfl, Nat.and_two_pow_sub_one_eq_mod]; omega
theorem p2_step (n y : Nat) : p2 (n + 1) y = 16 * p2 n (y / 16) + (y % 4 + y / 4 % 4) := by
  unfold p2
  rw [show msk2 (n + 1) = 2 ^ 4 * msk2 n + 3 from rfl, and_low 4 y _ 3 (by omega), and_low 4 (y / 4) _ 3 (by omega)]
  rw [show (2 : Nat) ^ 4 = 16 from rfl, and3, and3, show y / 4 / 16 = y / 16 / 4 by omega]
  omega
theorem p2_sum : ∀ n y, dsum 16 n (p2 n y) = dsum 4 (2 * n) y
  | 0, y => rfl
  | n + 1, y => by
    have := p2_sum n (y / 16)
    rw [p2_step, show 2 * (n + 1) = (2 * n + 1) + 1 by omega]
    rw [dsum_s, dsum_s, dsum_s, show (16 * p2 n (y / 16) + (y % 4 + y / 4 % 4)) / 16 = p2 n (y / 16) by omega, this, show y / 4 / 4 = y / 16 by omega]
    omega
theorem p2_dig : ∀ n y, dig 4 2 (2 * n) y → dig 16 4 n (p2 n y)
  | 0, y, _ => by simp [dig, p2, msk2]
  | n + 1, y, h => by
    rw [show 2 * (n + 1) = (2 * n + 1) + 1 by omega] at h
    unfold dig at h
    unfold dig at h
    rw [p2_step]
    refine ⟨by omega, ?_⟩
    rw [show (16 * p2 n (y / 16) + (y % 4 + y / 4 % 4)) / 16 = p2 n (y / 16) by omega]
    exact p2_dig n _ (by rw [show y / 4 / 4 = y / 16 by omega] at h; exact h.2.2)
def p4 (n z : Nat) : Nat := (z / 16 + z) &&& msk4 n
theorem and15 (x : Nat) : x % 256 &&& 15 = x % 16 := by
  rw [show (15 : Nat) = 2 ^ 4 - 1 from rfl, Nat.and_two_pow_sub_one_eq_mod]; omega
theorem p4_step (n z : Nat) (h : dig 16 4 (2 * (n + 1)) z) : p4 (n + 1) z = 256 * p4 n (z / 256) + (z % 16 + z / 16 % 16) := by
  have h' : z % 16 ≤ 4 ∧ z / 16 % 16 ≤ 4 ∧ z / 256 % 16 ≤ 4 := by
    rw [show 2 * (n + 1) = (2 * n + 1) + 1 by omega] at h
    unfold dig at h
    unfold dig at h
    refine ⟨h.1, h.2.1, ?_⟩
    have h3 := h.2.2
    rw [show z / 16 / 16 = z / 256 by omega] at h3
    match n, h3 with
    | 0, h3 => have : z / 256 = 0 := h3; omega
    | n + 1, h3 => rw [show 2 * (n + 1) = (2 * n + 1) + 1 by omega] at h3; unfold dig at h3; exact h3.1
  have q1 : z / 16 = 16 * (z / 256) + z / 16 % 16 := by omega
  have q2 : z = 16 * (z / 16) + z % 16 := by omega
  have q3 : z / 256 = 16 * (z / 256 / 16) + z / 256 % 16 := by omega
  have q4 : (z / 16 + z) / 256 = z / 256 / 16 + z / 256 := by
    obtain ⟨h1, h2, h3⟩ := h'
    generalize z / 256 / 16 = e at *
    generalize z / 256 % 16 = d2 at *
    generalize z / 256 = q at *
    generalize z / 16 % 16 = d1 at *
    generalize z / 16 = y at *
    generalize z % 16 = d0 at *
    subst q2 q1 q3
    omega
  unfold p4
  rw [show msk4 (n + 1) = 2 ^ 8 * msk4 n + 15 from rfl, and_low 8 _ _ 15 (by omega), show (2 : Nat) ^ 8 = 256 from rfl, and15, q4, show (z / 16 + z) % 16 = z % 16 + z / 16 % 16 by omega]
theorem p4_all : ∀ n z, dig 16 4 (2 * n) z → dsum 256 n (p4 n z) = dsum 16 (2 * n) z ∧ dig 256 8 n (p4 n z)
  | 0, z, _ => by simp [dsum, dig, p4, msk4]
  | n + 1, z, h => by
    have h0 := h
    rw [show 2 * (n + 1) = (2 * n + 1) + 1 by omega] at h
    unfold dig at h
    unfold dig at h
    obtain ⟨i1, i2⟩ := p4_all n (z / 256) (by rw [show z / 16 / 16 = z / 256 by omega] at h; exact h.2.2)
    have e : (256 * p4 n (z / 256) + (z % 16 + z / 16 % 16)) / 256 = p4 n (z / 256) := by omega
    rw [p4_step n z h0, show 2 * (n + 1) = (2 * n + 1) + 1 by omega]
    refine ⟨?_, by omega, by rw [e]; exact i2⟩
    rw [dsum_s, dsum_s, dsum_s, e, i1, show z / 16 / 16 = z / 256 by omega]; omega
theorem dv (x y : Nat) (h : x < 256) : (x + 256 * y) / 256 = y := by omega
theorem fin8d (d0 d1 d2 d3 d4 d5 d6 d7 w a b c : Nat) (h0 : d0 ≤ 8) (h1 : d1 ≤ 8) (h2 : d2 ≤ 8) (h3 : d3 ≤ 8) (h4 : d4 ≤ 8) (h5 : d5 ≤ 8) (h6 : d6 ≤ 8) (h7 : d7 ≤ 8)
    (hw : w = d0 + 256 * (d1 + 256 * (d2 + 256 * (d3 + 256 * (d4 + 256 * (d5 + 256 * (d6 + 256 * d7))))))) (ha : a = w + w / 256) (hb : b = a + a / 65536) (hc : c = b + b / 4294967296) :
    c % 128 = d0 + d1 + d2 + d3 + d4 + d5 + d6 + d7 ∧ c < 9223372036854775808 ∧ b < 9223372036854775808 ∧ a < 9223372036854775808 := by
  have w1 : w / 256 = d1 + 256 * (d2 + 256 * (d3 + 256 * (d4 + 256 * (d5 + 256 * (d6 + 256 * d7))))) := by rw [hw]; exact dv _ _ (by omega)
  have a1 : a = (d0 + d1) + 256 * ((d1 + d2) + 256 * ((d2 + d3) + 256 * ((d3 + d4) + 256 * ((d4 + d5) + 256 * ((d5 + d6) + 256 * ((d6 + d7) + 256 * d7)))))) := by rw [ha, w1, hw]; clear ha hb hc hw w1; omega
  have a2 : a / 65536 = (d2 + d3) + 256 * ((d3 + d4) + 256 * ((d4 + d5) + 256 * ((d5 + d6) + 256 * ((d6 + d7) + 256 * d7)))) := by
    rw [show (65536 : Nat) = 256 * 256 from rfl, ← Nat.div_div_eq_div_mul, a1, dv _ _ (by omega), dv _ _ (by omega)]
  have b1 : b = (d0 + d1 + d2 + d3) + 256 * ((d1 + d2 + d3 + d4) + 256 * ((d2 + d3 + d4 + d5) + 256 * ((d3 + d4 + d5 + d6) + 256 * ((d4 + d5 + d6 + d7) + 256 * ((d5 + d6 + d7) + 256 * ((d6 + d7) + 256 * d7)))))) := by rw [hb, a2, a1]; clear ha hb hc hw w1 a1 a2; omega
  have b2 : b / 4294967296 = (d4 + d5 + d6 + d7) + 256 * ((d5 + d6 + d7) + 256 * ((d6 + d7) + 256 * d7)) := by
    rw [show (4294967296 : Nat) = 256 * 256 * 256 * 256 from rfl, ← Nat.div_div_eq_div_mul, ← Nat.div_div_eq_div_mul, ← Nat.div_div_eq_div_mul, b1, dv _ _ (by omega), dv _ _ (by omega), dv _ _ (by omega), dv _ _ (by omega)]
  have c1 : c = (d0 + d1 + d2 + d3 + d4 + d5 + d6 + d7) + 256 * ((d1 + d2 + d3 + d4 + d5 + d6 + d7) + 256 * ((d2 + d3 + d4 + d5 + d6 + d7) + 256 * ((d3 + d4 + d5 + d6 + d7) + 256 * ((d4 + d5 + d6 + d7) + 256 * ((d5 + d6 + d7) + 256 * ((d6 + d7) + 256 * d7)))))) := by rw [hc, b2, b1]; clear ha hb hc hw w1 a1 a2 b1 b2; omega
  clear hc hb ha hw w1 a2 b2
  refine ⟨?_, ?_, ?_, ?_⟩
  · rw [c1]; clear a1 b1 c1; omega
  · rw [c1]; clear a1 b1 c1; omega
  · rw [b1]; clear a1 b1 c1; omega
  · rw [a1]; clear a1 b1 c1; omega
theorem chain8 (w x1 x2 x3 x4 x5 x6 x7 d0 d1 d2 d3 d4 d5 d6 d7 : Nat) (q0 : d0 + 256 * x1 = w) (q1 : d1 + 256 * x2 = x1) (q2 : d2 + 256 * x3 = x2) (q3 : d3 + 256 * x4 = x3) (q4 : d4 + 256 * x5 = x4) (q5 : d5 + 256 * x6 = x5) (q6 : d6 + 256 * x7 = x6) (q7 : d7 + 256 * 0 = x7) :
    w = d0 + 256 * (d1 + 256 * (d2 + 256 * (d3 + 256 * (d4 + 256 * (d5 + 256 * (d6 + 256 * d7)))))) := by
  subst q7; subst q6; subst q5; subst q4; subst q3; subst q2; subst q1; subst q0; rfl
theorem fin8 (w : Nat) (h : dig 256 8 8 w) (a b c : Nat) (ha : a = w + w / 256) (hb : b = a + a / 65536) (hc : c = b + b / 4294967296) : c % 128 = dsum 256 8 w ∧ c < 9223372036854775808 ∧ b < 9223372036854775808 ∧ a < 9223372036854775808 := by
  simp only [dig] at h
  simp only [dsum]
  obtain ⟨h0, h1, h2, h3, h4, h5, h6, h7, h8⟩ := h
  have q0 := Nat.mod_add_div w 256
  have q1 := Nat.mod_add_div (w / 256) 256
  have q2 := Nat.mod_add_div (w / 256 / 256) 256
  have q3 := Nat.mod_add_div (w / 256 / 256 / 256) 256
  have q4 := Nat.mod_add_div (w / 256 / 256 / 256 / 256) 256
  have q5 := Nat.mod_add_div (w / 256 / 256 / 256 / 256 / 256) 256
  have q6 := Nat.mod_add_div (w / 256 / 256 / 256 / 256 / 256 / 256) 256
  have q7 := Nat.mod_add_div (w / 256 / 256 / 256 / 256 / 256 / 256 / 256) 256
  rw [h8] at q7
  have hw := chain8 _ _ _ _ _ _ _ _ _ _ _ _ _ _ _ _ q0 q1 q2 q3 q4 q5 q6 q7
  have := fin8d _ _ _ _ _ _ _ _ w a b c h0 h1 h2 h3 h4 h5 h6 h7 hw ha hb hc
  refine ⟨?_, this.2⟩
  rw [this.1]; simp only [Nat.add_assoc, Nat.add_zero]
end Go.Vm
set_option linter.unusedVariables false
namespace Go.Vm
open Go
theorem pop1_nat {n : Nat} (h : n < 18446744073709551616) : pop1 (n : Int) = (p1 32 n : Nat) ∧ p1 32 n < 18446744073709551616 := by
  have e : (6148914691236517205 : Int) = ((msk1 32 : Nat) : Int) := by decide
  have hk : msk1 32 = 6148914691236517205 := by decide
  have l1 : n / 2 &&& msk1 32 ≤ msk1 32 := Nat.and_le_right
  have l2 : n &&& msk1 32 ≤ msk1 32 := Nat.and_le_right
  have l3 : p1 32 n < 18446744073709551616 := by unfold p1; omega
  refine ⟨?_, l3⟩
  unfold pop1
  rw [fdiv_nat, e, Nat.pow_one, andU (by omega) (by omega), andU h (by omega), ← Int.natCast_add]
  exact wrapN l3
theorem pop2_nat {n : Nat} (h : n < 18446744073709551616) : pop2 (n : Int) = (p2 16 n : Nat) ∧ p2 16 n ≤ 7378697629483820646 := by
  have e : (3689348814741910323 : Int) = ((msk2 16 : Nat) : Int) := by decide
  have hk : msk2 16 = 3689348814741910323 := by decide
  have l1 : n / 4 &&& msk2 16 ≤ msk2 16 := Nat.and_le_right
  have l2 : n &&& msk2 16 ≤ msk2 16 := Nat.and_le_right
  have l3 : p2 16 n ≤ 7378697629483820646 := by unfold p2; omega
  refine ⟨?_, l3⟩
  unfold pop2
  rw [fdiv_nat, e, show (2 : Nat) ^ 2 = 4 from rfl, andU (by omega) (by omega), andU h (by omega), ← Int.natCast_add]
  exact wrapN (n := p2 16 n) (by omega)
theorem pop4_nat {n : Nat} (h : n ≤ 7378697629483820646) : pop4 (n : Int) = (p4 8 n : Nat) ∧ p4 8 n < 18446744073709551616 := by
  have e : (1085102592571150095 : Int) = ((msk4 8 : Nat) : Int) := by decide
  have hk : msk4 8 = 1085102592571150095 := by decide
  have l1 : p4 8 n ≤ msk4 8 := Nat.and_le_right
  refine ⟨?_, by omega⟩
  unfold pop4
  rw [fdiv_nat, e, show (2 : Nat) ^ 4 = 16 from rfl, ← Int.natCast_add, wrapN (by omega), andU (by omega) (by omega)]; rfl
theorem popS_nat {n k : Nat} (h : n + n / 2 ^ k < 18446744073709551616) : popS (n : Int) k = ((n + n / 2 ^ k : Nat) : Int) := by
  unfold popS
  rw [fdiv_nat, ← Int.natCast_add, wrapN h]
theorem and127 {c : Nat} (h : c < 9223372036854775808) : andI .i64 (c : Int) 127 = ((c % 128 : Nat) : Int) := by
  show IntKind.i64.wrap ((BitVec.ofInt 64 (c : Int) &&& BitVec.ofInt 64 ((127 : Nat) : Int)).toNat : Int) = _
  rw [BitVec.toNat_and, ofInt_nat (by omega), ofInt_nat (by omega), show (127 : Nat) = 2 ^ 7 - 1 by rfl, Nat.and_two_pow_sub_one_eq_mod, wrap_i64 _ (by omega) (by omega)]
theorem ones_pc {w : Int} (h : inW w) : m_OnesCount64 w = (pc 64 w.toNat : Nat) := by
  obtain ⟨n, rfl, hn⟩ := h.ex
  obtain ⟨a1, a2⟩ := pop1_nat hn
  obtain ⟨b1, b2⟩ := pop2_nat a2
  obtain ⟨c1, c2⟩ := pop4_nat b2
  have d1 := p1_dig 32 n
  have d2 := p2_dig 16 (p1 32 n) d1
  obtain ⟨s3, d3⟩ := p4_all 8 (p2 16 (p1 32 n)) d2
  have s1 := p1_sum 32 n
  have s2 := p2_sum 16 (p1 32 n)
  obtain ⟨f1, f2, f3, f4⟩ := fin8 _ d3 _ _ _ rfl rfl rfl
  have k1 := popS_nat (n := p4 8 (p2 16 (p1 32 n))) (k := 8) (by rw [show (2 : Nat) ^ 8 = 256 from rfl]; omega)
  rw [show (2 : Nat) ^ 8 = 256 from rfl] at k1
  have k2 := popS_nat (n := p4 8 (p2 16 (p1 32 n)) + p4 8 (p2 16 (p1 32 n)) / 256) (k := 16) (by rw [show (2 : Nat) ^ 16 = 65536 from rfl]; omega)
  rw [show (2 : Nat) ^ 16 = 65536 from rfl] at k2
  have k3 := popS_nat (n := p4 8 (p2 16 (p1 32 n)) + p4 8 (p2 16 (p1 32 n)) / 256 + (p4 8 (p2 16 (p1 32 n)) + p4 8 (p2 16 (p1 32 n)) / 256) / 65536) (k := 32) (by rw [show (2 : Nat) ^ 32 = 4294967296 from rfl]; omega)
  rw [show (2 : Nat) ^ 32 = 4294967296 from rfl] at k3
  unfold m_OnesCount64
  rw [a1, b1, c1, k1, k2, k3, wrap_i64 _ (by omega) (by omega), and127 f2, f1, s3]
  rw [show 2 * 8 = 16 from rfl, s2, show 2 * 16 = 32 from rfl, s1]; rfl
theorem pc_s (n O : Nat) : pc (n + 1) O = O % 2 + pc n (O / 2) := rfl
theorem pc_add : ∀ (n m A : Nat), pc (n + m) A = pc n (A % 2 ^ n) + pc m (A / 2 ^ n)
  | 0, m, A => by simp [pc]
  | n + 1, m, A => by
    have ih := pc_add n m (A / 2)
    rw [show n + 1 + m = (n + m) + 1 by omega]
    rw [pc_s, pc_s, ih, Nat.pow_succ, Nat.mul_comm (2 ^ n) 2, ← Nat.div_div_eq_div_mul, Nat.mod_mul_right_div_self, Nat.mod_mul_right_mod]; omega
theorem pc_le : ∀ n A, pc n A ≤ n
  | 0, _ => Nat.le_refl _
  | n + 1, A => by have := pc_le n (A / 2); unfold pc; omega
theorem count_pc {a b : Int} (ha : inW a) (hb : inW b) : b_Count a b = (pc 128 (num a b) : Nat) := by
  have h1 := ha.1; have h2 := ha.2
  have e := pc_add 64 64 (num a b)
  have e1 : num a b % 2 ^ 64 = a.toNat := by unfold num; rw [Nat.mul_add_mod, Nat.mod_eq_of_lt (by omega)]
  have e2 : num a b / 2 ^ 64 = b.toNat := by unfold num; rw [Nat.mul_add_div (Nat.two_pow_pos _), Nat.div_eq_of_lt (by omega), Nat.add_zero]
  rw [e1, e2] at e
  have l1 := pc_le 64 a.toNat
  have l2 := pc_le 64 b.toNat
  unfold b_Count
  rw [ones_pc ha, ones_pc hb, wrap_i64 _ (by omega) (by omega), show (128 : Nat) = 64 + 64 from rfl, e]; omega
theorem pc_bits (x : Nat) : ∀ n A k, (∀ i, i < n → A.testBit i = x.testBit (k + i)) → ∀ p : Int → Bool, (∀ i : Nat, i < n → p ((k + i : Nat) : Int) = x.testBit (k + i)) → (((List.range' k n).map fun i => ((i : Nat) : Int)).filter p).length = pc n A
  | 0, A, k, _, p, _ => rfl
  | n + 1, A, k, hA, p, hp => by
    have ih := pc_bits x n (A / 2) (k + 1) (fun i hi => by rw [← Nat.testBit_succ, hA (i + 1) (by omega)]; congr 1; omega) p (fun i hi => by rw [show k + 1 + i = k + (i + 1) by omega]; exact hp (i + 1) (by omega))
    have h0 := hA 0 (by omega)
    have h1 := hp 0 (by omega)
    rw [Nat.add_zero] at h0 h1
    rw [Nat.testBit_zero] at h0
    rw [List.range'_succ, List.map_cons]
    unfold pc
    by_cases hb : A % 2 = 1
    · rw [List.filter_cons_of_pos (by rw [h1, ← h0]; simpa using hb), List.length_cons, ih, hb]; omega
    · rw [List.filter_cons_of_neg (by rw [h1, ← h0]; simpa using hb), ih, show A % 2 = 0 by omega]; omega
theorem len_pc {a b : Int} (ha : inW a) (hb : inW b) : (ref_List a b).length = pc 128 (num a b) := by
  unfold ref_List upTo
  exact pc_bits (num a b) 128 (num a b) 0 (fun i hi => by rw [Nat.zero_add]) _ (fun i hi => by rw [Nat.zero_add, refhas_hs ha hb, hs_num ha hb (by omega)]; rfl)
end Go.Vm
set_option linter.unusedVariables false
namespace Go.Vm
open Go
theorem alg_loop {a b c d : Int} (ha : inW a) (hb : inW b) (hc : inW c) (hd : inW d) (fuel : Nat) : ∀ (m k n : Nat), 128 < k + m → k ≤ 128 → n ≤ k → n + ((upTo k).filter (ref_Has a b)).length = pc 128 (num a b) →
    Ret (L3_0 fuel 1 law_first ref_Has b_Union b_Meet b_Minus b_Differ b_Count m a b c d (n : Int) (k : Int)) 0 (.bool true) []
  | 0, k, n, h0, h1, h2, h3 => by omega
  | m + 1, k, n, h0, h1, h2, h3 => by
    rw [L3_0_succ]
    by_cases hk : k < 128
    · have hu : ref_Has (b_Union a b c d).1 (b_Union a b c d).2 (k : Int) = (ref_Has a b (k : Int) || ref_Has c d (k : Int)) := by
        show ref_Has (orI .u64 a c) (orI .u64 b d) _ = _
        rw [refhas_hs (inW_or _ _) (inW_or _ _), refhas_hs ha hb, refhas_hs hc hd]; exact hs_union ha hb hc hd _
      have hm : ref_Has (b_Meet a b c d).1 (b_Meet a b c d).2 (k : Int) = (ref_Has a b (k : Int) && ref_Has c d (k : Int)) := by
        show ref_Has (andI .u64 a c) (andI .u64 b d) _ = _
        rw [refhas_hs (inW_and _ _) (inW_and _ _), refhas_hs ha hb, refhas_hs hc hd]; exact hs_meet ha hb hc hd _
      have hi : ref_Has (b_Minus a b c d).1 (b_Minus a b c d).2 (k : Int) = (ref_Has a b (k : Int) && !ref_Has c d (k : Int)) := by
        show ref_Has (andNotI .u64 a c) (andNotI .u64 b d) _ = _
        rw [refhas_hs (inW_andNot _ _) (inW_andNot _ _), refhas_hs ha hb, refhas_hs hc hd]; exact hs_minus ha hb hc hd _
      have hf : ref_Has (b_Differ a b c d).1 (b_Differ a b c d).2 (k : Int) = (ref_Has a b (k : Int) != ref_Has c d (k : Int)) := by
        show ref_Has (xorI .u64 a c) (xorI .u64 b d) _ = _
        rw [refhas_hs (inW_xor _ _) (inW_xor _ _), refhas_hs ha hb, refhas_hs hc hd]; exact hs_differ ha hb hc hd _
      rw [cnd_pos (by omega), hu, hm, hi, hf, wrapS k (by unfold maxLen; omega), wrapS n (by unfold maxLen; omega)]
      rw [upTo_lt hk] at h3
      cases hx : ref_Has a b (k : Int) with
      | true =>
        rw [List.filter_cons_of_pos hx, List.length_cons] at h3
        have ih := alg_loop ha hb hc hd fuel m (k + 1) (n + 1) (by omega) (by omega) (by omega) (by omega)
        cases hy : ref_Has c d (k : Int) <;> simpa [cnd] using ih
      | false =>
        rw [List.filter_cons_of_neg (by rw [hx]; simp)] at h3
        have ih := alg_loop ha hb hc hd fuel m (k + 1) n (by omega) (by omega) (by omega) (by omega)
        cases hy : ref_Has c d (k : Int) <;> simpa [cnd] using ih
    · obtain rfl : k = 128 := by omega
      rw [upTo_128] at h3
      have h3 : n = pc 128 (num a b) := h3
      rw [cnd_neg (by omega), count_pc ha hb, h3]
      exact Ret.leaf (by simp)
theorem alg_run {a b c d : Int} (ha : inW a) (hb : inW b) (hc : inW c) (hd : inW d) : Ret (F3 129 1 law_first ref_Has b_Union b_Meet b_Minus b_Differ b_Count a b c d) 0 (.bool true) [] := by
  rw [F3_eq, cnd_f (by rfl)]
  exact alg_loop ha hb hc hd 129 129 0 0 (by omega) (by omega) (by omega) (by rw [Nat.zero_add]; exact len_pc ha hb)
/-! the run of BitsLaws -/
theorem pc_or : ∀ n A B, pc n (A ||| B) + pc n (A &&& B) = pc n A + pc n B
  | 0, _, _ => rfl
  | n + 1, A, B => by
    have ih := pc_or n (A / 2) (B / 2)
    have h1 : (A ||| B) % 2 ^ 1 = A % 2 ^ 1 ||| B % 2 ^ 1 := Nat.or_mod_two_pow
    have h2 : (A &&& B) % 2 ^ 1 = A % 2 ^ 1 &&& B % 2 ^ 1 := Nat.and_mod_two_pow
    rw [Nat.pow_one] at h1 h2
    rw [pc_s, pc_s, pc_s, pc_s, Nat.or_div_two, Nat.and_div_two, h1, h2]
    rcases Nat.mod_two_eq_zero_or_one A with x | x <;> rcases Nat.mod_two_eq_zero_or_one B with y | y <;> rw [x, y] <;> simp <;> omega
theorem num_or {a b c d : Int} (ha : inW a) (hb : inW b) (hc : inW c) (hd : inW d) : num (orI .u64 a c) (orI .u64 b d) = num a b ||| num c d := by
  apply Nat.eq_of_testBit_eq
  intro i
  rw [Nat.testBit_or, num_bit (inW_or _ _), num_bit ha, num_bit hc, tb_or ha hc, tb_or hb hd]
  split <;> rfl
theorem of_list_eq {a b : Int} (ha : inW a) (hb : inW b) : (b_Of (ref_List a b)).1 = a ∧ (b_Of (ref_List a b)).2 = b := by
  have h := in_of (ref_List a b)
  exact set_ext h.1 h.2 ha hb (fun i g0 g1 => by rw [hs_of, reflist_mem ha hb, (there_iff i).2 ⟨g0, g1⟩, Bool.true_and])
theorem laws_run {a b c d e f : Int} (ha : inW a) (hb : inW b) (hc : inW c) (hd : inW d) (he : inW e) (hf : inW f) : Ret (F6 0 1 law_first b_Union b_Meet b_Minus b_Differ b_Count b_ListS b_Of a b c d e f) 0 (.bool true) [] := by
  have u1 : inW (b_Union a b c d).1 := inW_or _ _
  have u2 : inW (b_Union a b c d).2 := inW_or _ _
  have m1 : inW (b_Meet a b c d).1 := inW_and _ _
  have m2 : inW (b_Meet a b c d).2 := inW_and _ _
  have d1 : inW (b_Differ a b c d).1 := inW_xor _ _
  have d2 : inW (b_Differ a b c d).2 := inW_xor _ _
  have hU : ∀ i, hs (b_Union a b c d).1 (b_Union a b c d).2 i = (hs a b i || hs c d i) := hs_union ha hb hc hd
  have hM : ∀ i, hs (b_Meet a b c d).1 (b_Meet a b c d).2 i = (hs a b i && hs c d i) := hs_meet ha hb hc hd
  have hD : ∀ i, hs (b_Differ a b c d).1 (b_Differ a b c d).2 i = (hs a b i != hs c d i) := hs_differ ha hb hc hd
  have k1 : (b_Meet (b_Union a b c d).1 (b_Union a b c d).2 e f).1 = (b_Union (b_Meet a b e f).1 (b_Meet a b e f).2 (b_Meet c d e f).1 (b_Meet c d e f).2).1 ∧ (b_Meet (b_Union a b c d).1 (b_Union a b c d).2 e f).2 = (b_Union (b_Meet a b e f).1 (b_Meet a b e f).2 (b_Meet c d e f).1 (b_Meet c d e f).2).2 :=
    set_ext (inW_and _ _) (inW_and _ _) (inW_or _ _) (inW_or _ _) (fun i _ _ => by
      refine (hs_meet u1 u2 he hf i).trans ?_
      refine Eq.trans ?_ (hs_union (inW_and a e) (inW_and b f) (inW_and c e) (inW_and d f) i).symm
      rw [hU, hs_meet ha hb he hf, hs_meet hc hd he hf]
      cases hs a b i <;> cases hs c d i <;> cases hs e f i <;> rfl)
  have k2 : (b_Minus (b_Union a b c d).1 (b_Union a b c d).2 (b_Meet a b c d).1 (b_Meet a b c d).2).1 = (b_Differ a b c d).1 ∧ (b_Minus (b_Union a b c d).1 (b_Union a b c d).2 (b_Meet a b c d).1 (b_Meet a b c d).2).2 = (b_Differ a b c d).2 :=
    set_ext (inW_andNot _ _) (inW_andNot _ _) d1 d2 (fun i _ _ => by
      refine (hs_minus u1 u2 m1 m2 i).trans ?_
      rw [hU, hM, hD]
      cases hs a b i <;> cases hs c d i <;> rfl)
  have k5 : (b_Differ (b_Differ a b c d).1 (b_Differ a b c d).2 c d).1 = a ∧ (b_Differ (b_Differ a b c d).1 (b_Differ a b c d).2 c d).2 = b :=
    set_ext (inW_xor _ _) (inW_xor _ _) ha hb (fun i _ _ => by
      refine (hs_differ d1 d2 hc hd i).trans ?_
      rw [hD]
      cases hs a b i <;> cases hs c d i <;> rfl)
  have k3 : (pc 128 (num a b) : Int) + pc 128 (num c d) = pc 128 (num (b_Union a b c d).1 (b_Union a b c d).2) + pc 128 (num (b_Meet a b c d).1 (b_Meet a b c d).2) := by
    have := pc_or 128 (num a b) (num c d)
    rw [show num (b_Union a b c d).1 (b_Union a b c d).2 = num a b ||| num c d from num_or ha hb hc hd, show num (b_Meet a b c d).1 (b_Meet a b c d).2 = num a b &&& num c d from num_and ha hb hc hd]
    omega
  rw [F6_eq, cnd_f (by rfl), cnd_t (peqs k1), cnd_t (peqs k2), cnd_t (by rw [count_pc ha hb, count_pc hc hd, count_pc u1 u2, count_pc m1 m2, k3]; simp), List.take_length, blist_eq ha hb, cnd_t (peqs (of_list_eq ha hb)), cnd_t (peqs k5)]
  exact Ret.leaf (by rw [len_pc ha hb, count_pc ha hb]; simp)
/-! the run of BitsCounts -/
theorem rank_le {n O X : Nat} (hO : O < 2 ^ n) (h : X &&& O = X) : rank n O X + 1 ≤ 2 ^ pc n O := by
  have hle := sub_le n X O hO h
  have hf := rank_full n O
  by_cases e : X = O
  · subst e; omega
  · have := rank_lt n O X O (by omega) hO h (Nat.and_self O) (by omega)
    omega
theorem sub_next {a b c d : Int} (ha : inW a) (hb : inW b) (hc : inW c) (hd : inW d) (hsub : num a b &&& num c d = num a b) (n : Nat) (hn : rank 128 (num c d) (num a b) = n) :
    ((b_Sub a b c d).2.2 = false ∧ n + 1 = 2 ^ pc 128 (num c d)) ∨ ((b_Sub a b c d).2.2 = true ∧ inW (b_Sub a b c d).1 ∧ inW (b_Sub a b c d).2.1 ∧ num (b_Sub a b c d).1 (b_Sub a b c d).2.1 &&& num c d = num (b_Sub a b c d).1 (b_Sub a b c d).2.1 ∧ rank 128 (num c d) (num (b_Sub a b c d).1 (b_Sub a b c d).2.1) = n + 1) := by
  have hO := num_lt hc hd
  by_cases hne : (b_Meet a b c d).1 = c ∧ (b_Meet a b c d).2 = d
  · have hs : b_Sub a b c d = (0, 0, false) := by simp only [b_Sub, if_pos hne]
    have hm : num (b_Meet a b c d).1 (b_Meet a b c d).2 = num a b &&& num c d := num_and ha hb hc hd
    rw [hne.1, hne.2, hsub] at hm
    rw [← hm] at hn
    have := rank_full 128 (num c d)
    exact .inl ⟨by rw [hs], by omega⟩
  · obtain ⟨h1, h2, h3, h4⟩ := sub_num ha hb hc hd hne
    have hne2 : num a b ≠ num c d := fun e => hne (num_inj (inW_and _ _) (inW_and _ _) hc hd ((num_and ha hb hc hd).trans (by rw [hsub, e])))
    obtain ⟨n1, n2⟩ := nx_ok 128 (num c d) (num a b) hO hsub hne2
    rw [hsub] at h4
    exact .inr ⟨h1, h2, h3, by rw [h4]; exact n1, by rw [h4, n2, hn]⟩
theorem counts_loop {c d : Int} (hc : inW c) (hd : inW d) (hp : pc 128 (num c d) ≤ 10) (fuel : Nat) : ∀ (m n : Nat) (ok : Bool) (a b : Int), 2 ^ pc 128 (num c d) < n + m → n ≤ 2 ^ pc 128 (num c d) →
    ((ok = false ∧ n = 2 ^ pc 128 (num c d)) ∨ (ok = true ∧ inW a ∧ inW b ∧ num a b &&& num c d = num a b ∧ rank 128 (num c d) (num a b) = n)) →
    Ret (L8_0 fuel 1 law_first b_Count b_Sub ref_List m c d (n : Int) ok a b) 0 (.bool true) []
  | 0, n, ok, a, b, h0, h1, h2 => by omega
  | m + 1, n, ok, a, b, h0, h1, h2 => by
    have h10 : 2 ^ pc 128 (num c d) ≤ 2 ^ 10 := Nat.pow_le_pow_right (by omega) hp
    rw [L8_0_succ]
    rcases h2 with ⟨rfl, h2⟩ | ⟨rfl, ha, hb, hsub, hr⟩
    · have hpw := inW_pow (k := pc 128 (num c d)) (by omega)
      rw [cnd_false, len_pc hc hd, wrap_u64 ((pc 128 (num c d) : Nat) : Int) (by omega) (by omega), cnd_neg (by omega), Int.toNat_natCast, Nat.min_eq_left (by omega), Int.one_mul, h2]
      have e : ((2 : Int) ^ pc 128 (num c d)) = ((2 ^ pc 128 (num c d) : Nat) : Int) := by simp
      rw [e, wrap_i64 _ (by omega) (by omega)]
      exact Ret.leaf (by simp)
    · have hle := rank_le (num_lt hc hd) hsub
      rw [cnd_true, cnd_pos (by omega), wrapS n (by unfold maxLen; omega)]
      refine counts_loop hc hd hp fuel m (n + 1) _ _ _ (by omega) (by omega) ?_
      rcases sub_next ha hb hc hd hsub n hr with ⟨h, h'⟩ | ⟨h, h'⟩
      · exact .inl ⟨h, h'⟩
      · exact .inr ⟨h, h'⟩
theorem counts_run {c d : Int} (hc : inW c) (hd : inW d) : Ret (F8 1030 1 law_first b_Count b_Sub ref_List c d) 0 (.bool true) [] := by
  rw [F8_eq, cnd_f (by rfl), count_pc hc hd]
  refine ret_cnd (fun h => Ret.leaf rfl) (fun h => ?_)
  have h := of_decide_eq_false h
  have hp : pc 128 (num c d) ≤ 10 := by omega
  have h10 : 2 ^ pc 128 (num c d) ≤ 2 ^ 10 := Nat.pow_le_pow_right (by omega) hp
  have hpos := Nat.two_pow_pos (pc 128 (num c d))
  have n0 : num 0 0 = 0 := rfl
  have := counts_loop hc hd hp 1030 1030 1 (b_Sub 0 0 c d).2.2 (b_Sub 0 0 c d).1 (b_Sub 0 0 c d).2.1 (by omega) (by omega)
    (sub_next inW_0 inW_0 hc hd (by rw [n0, Nat.zero_and]) 0 (by rw [n0]; exact rank_0 _ _))
  exact this
end Go.Vm
set_option linter.unusedVariables false
namespace Go.Vm
open Go
/-! the run of BitsShifts -/
theorem hs_out {a b i : Int} (h : ¬ (0 ≤ i ∧ i < 128)) : hs a b i = false := by
  cases hh : hs a b i
  · rfl
  · exact absurd (hs_there hh) h
theorem pc_dbl : ∀ n A, pc n (2 * A) ≤ pc n A
  | 0, _ => Nat.le_refl _
  | n + 1, A => by
    have ih := pc_dbl n (A / 2)
    rw [pc_s, pc_s, show 2 * A % 2 = 0 by omega, show 2 * A / 2 = A by omega]
    rcases Nat.mod_two_eq_zero_or_one A with x | x
    · have : A = 2 * (A / 2) := by omega
      rw [← this] at ih; omega
    · have h2 := pc_succ n A
      omega
where
  pc_succ : ∀ n A, pc n A ≤ A % 2 + pc n (A / 2)
    | 0, A => by simp [pc]
    | n + 1, A => by
      have := pc_succ n (A / 2)
      rw [pc_s, pc_s]; omega
theorem pc_pow (n A : Nat) : ∀ k, pc n (A * 2 ^ k) ≤ pc n A
  | 0 => by simp
  | k + 1 => by
    have := pc_pow n A k
    have h := pc_dbl n (A * 2 ^ k)
    rw [Nat.pow_succ, ← Nat.mul_assoc, Nat.mul_comm _ 2]; omega
theorem pc_mod : ∀ n A, pc n (A % 2 ^ n) = pc n A
  | 0, _ => rfl
  | n + 1, A => by
    have := pc_mod n (A / 2)
    rw [pc_s, pc_s, ← this, Nat.pow_succ, Nat.mul_comm (2 ^ n) 2, Nat.mod_mul_right_div_self, Nat.mod_mul_right_mod]
theorem shift_num {a b : Int} (ha : inW a) (hb : inW b) (k : Nat) : num (b_Shift a b (k : Int)).1 (b_Shift a b (k : Int)).2 = num a b * 2 ^ k % 2 ^ 128 := by
  have hi := in_shift ha hb (k : Int)
  apply Nat.eq_of_testBit_eq
  intro i
  have e := hs_num hi.1 hi.2 (i := (i : Int)) (by omega)
  rw [Int.toNat_natCast] at e
  rw [← e, Nat.testBit_mod_two_pow, Nat.testBit_mul_two_pow]
  by_cases h : i < 128
  · rw [hs_shift ha hb _ (by omega) (by omega), decide_eq_true h, Bool.true_and]
    by_cases hk : k ≤ i
    · rw [hs_num ha hb (by omega), decide_eq_true hk, Bool.true_and, show ((i : Int) - (k : Int)).toNat = i - k by omega]
    · rw [hs_out (by omega), decide_eq_false hk, Bool.false_and]
  · rw [hs_out (by omega), decide_eq_false h, Bool.false_and]
theorem amount (p : Int) : ∃ m : Nat, m < 130 ∧ IntKind.i64.wrap (Int.tmod (IntKind.u64.wrap p) (130 : Int)) = (m : Int) := by
  obtain ⟨n, hn, h⟩ := (inW_wrap p).ex
  refine ⟨n % 130, by omega, ?_⟩
  rw [hn, show Int.tmod (n : Int) 130 = ((n % 130 : Nat) : Int) by simp [Int.tmod], wrap_i64 _ (by omega) (by omega)]
theorem shifts_run {a b : Int} (ha : inW a) (hb : inW b) (p q : Int) : Ret (F11 0 1 law_first b_Shift b_Below b_Meet b_Count a b p q) 0 (.bool true) [] := by
  obtain ⟨m, hm, em⟩ := amount p
  obtain ⟨n, hn, en⟩ := amount q
  rw [F11_eq, cnd_f (by rfl), em, en, Int.zero_sub, Int.zero_sub, wrap_i64 (-(m : Int)) (by omega) (by omega), wrap_i64 (-(n : Int)) (by omega) (by omega), wrap_i64 ((m : Int) + n) (by omega) (by omega), wrap_i64 (-(m : Int) - n) (by omega) (by omega), wrap_i64 (128 - (m : Int)) (by omega) (by omega)]
  have s1 := in_shift ha hb (m : Int)
  have s2 := in_shift ha hb (-(m : Int))
  have s3 := in_shift s1.1 s1.2 (n : Int)
  have s4 := in_shift s2.1 s2.2 (-(n : Int))
  have s5 := in_shift s1.1 s1.2 (-(m : Int))
  have t1 := in_shift ha hb ((m : Int) + n)
  have t2 := in_shift ha hb (-(m : Int) - n)
  have t0 := in_shift ha hb 0
  have bl := in_below (128 - (m : Int))
  have k1 : b_Shift (b_Shift a b (m : Int)).1 (b_Shift a b (m : Int)).2 (n : Int) = b_Shift a b ((m : Int) + n) := by
    have := set_ext s3.1 s3.2 t1.1 t1.2 (fun j g0 g1 => by
      rw [hs_shift s1.1 s1.2 _ g0 g1, hs_shift ha hb _ g0 g1]
      by_cases h : 0 ≤ j - n
      · rw [hs_shift ha hb _ h (by omega), show j - (n : Int) - m = j - (m + n) by omega]
      · rw [hs_out (by omega), hs_out (by omega)])
    exact Prod.ext this.1 this.2
  have k2 : b_Shift (b_Shift a b (-(m : Int))).1 (b_Shift a b (-(m : Int))).2 (-(n : Int)) = b_Shift a b (-(m : Int) - n) := by
    have := set_ext s4.1 s4.2 t2.1 t2.2 (fun j g0 g1 => by
      rw [hs_shift s2.1 s2.2 _ g0 g1, hs_shift ha hb _ g0 g1]
      by_cases h : j - -(n : Int) < 128
      · rw [hs_shift ha hb _ (by omega) h, show j - -(n : Int) - -(m : Int) = j - (-(m : Int) - n) by omega]
      · rw [hs_out (by omega), hs_out (by omega)])
    exact Prod.ext this.1 this.2
  have k3 : b_Shift (b_Shift a b (m : Int)).1 (b_Shift a b (m : Int)).2 (-(m : Int)) = b_Meet a b (b_Below (128 - (m : Int))).1 (b_Below (128 - (m : Int))).2 := by
    have := set_ext s5.1 s5.2 (inW_and _ _) (inW_and _ _) (fun j g0 g1 => by
      refine Eq.trans ?_ (hs_meet ha hb bl.1 bl.2 j).symm
      rw [hs_shift s1.1 s1.2 _ g0 g1, hs_below, (there_iff j).2 ⟨g0, g1⟩, Bool.true_and]
      by_cases h : j - -(m : Int) < 128
      · rw [hs_shift ha hb _ (by omega) h, show j - -(m : Int) - m = j by omega, decide_eq_true (by omega), Bool.and_true]
      · rw [hs_out (by omega), decide_eq_false (by omega), Bool.and_false])
    exact Prod.ext this.1 this.2
  have k5 : (b_Shift a b 0).1 = a ∧ (b_Shift a b 0).2 = b := set_ext t0.1 t0.2 ha hb (fun j g0 g1 => by rw [hs_shift ha hb _ g0 g1, Int.sub_zero])
  have k4 : b_Count (b_Shift a b ((m : Int) + n)).1 (b_Shift a b ((m : Int) + n)).2 ≤ b_Count a b := by
    rw [count_pc t1.1 t1.2, count_pc ha hb]
    have e := shift_num ha hb (m + n)
    rw [Int.natCast_add] at e
    rw [e, pc_mod]
    exact Int.ofNat_le.2 (pc_pow 128 (num a b) (m + n))
  rw [k1, cnd_t (peq rfl), k2, cnd_t (peq rfl), k3, cnd_t (peq rfl), cnd_pos k4, peqs k5]
  exact Ret.leaf rfl
end Go.Vm
namespace Go.Vm
open Go
theorem lawrun3 {t : TypeId × Nat × Nat} : LawRun Proofs.Tryd.prog (gl t) Proofs.Tryd.f3 [.tmp 4] none [(true, [.f (.int .u64), .f (.int .u64)]), (true, [.f (.int .u64), .f (.int .u64)])] := by
  rintro ⟨⟨p0_0, ⟨p0_1, ⟨⟩⟩⟩, ⟨⟨p1_0, ⟨p1_1, ⟨⟩⟩⟩, ⟨⟩⟩⟩ hok
  exact ⟨c3 129 1 law_first ref_Has b_Union b_Meet b_Minus b_Differ b_Count, tok, callOf_ok (l := [(12, e12 law_first), (13, e13 ref_Has), (14, e14 b_Union), (15, e15 b_Meet), (16, e16 b_Minus), (17, e17 b_Differ), (18, e18 b_Count)]) (by
    intro x hx
    rcases List.mem_cons.1 hx with rfl | hx
    · exact valid12
    rcases List.mem_cons.1 hx with rfl | hx
    · exact valid13
    rcases List.mem_cons.1 hx with rfl | hx
    · exact valid14
    rcases List.mem_cons.1 hx with rfl | hx
    · exact valid15
    rcases List.mem_cons.1 hx with rfl | hx
    · exact valid16
    rcases List.mem_cons.1 hx with rfl | hx
    · exact valid17
    rcases List.mem_cons.1 hx with rfl | hx
    · exact valid18
    cases hx), callOf_par [(12, e12 law_first), (13, e13 ref_Has), (14, e14 b_Union), (15, e15 b_Meet), (16, e16 b_Minus), (17, e17 b_Differ), (18, e18 b_Count)], by kernel_rfl, by kernel_rfl, cast (by kernel_rfl) (alg_run (inW_of hok.1.1) (inW_of hok.1.2.1) (inW_of hok.2.1.1) (inW_of hok.2.1.2.1))⟩
theorem lawrun6 {t : TypeId × Nat × Nat} : LawRun Proofs.Tryd.prog (gl t) Proofs.Tryd.f6 [.tmp 6] none [(true, [.f (.int .u64), .f (.int .u64)]), (true, [.f (.int .u64), .f (.int .u64)]), (true, [.f (.int .u64), .f (.int .u64)])] := by
  rintro ⟨⟨p0_0, ⟨p0_1, ⟨⟩⟩⟩, ⟨⟨p1_0, ⟨p1_1, ⟨⟩⟩⟩, ⟨⟨p2_0, ⟨p2_1, ⟨⟩⟩⟩, ⟨⟩⟩⟩⟩ hok
  exact ⟨c6 0 1 law_first b_Union b_Meet b_Minus b_Differ b_Count b_ListS b_Of, tok, callOf_ok (l := [(12, e12 law_first), (14, e14 b_Union), (15, e15 b_Meet), (16, e16 b_Minus), (17, e17 b_Differ), (18, e18 b_Count), (29, e29 b_ListS), (27, e27 b_Of)]) (by
    intro x hx
    rcases List.mem_cons.1 hx with rfl | hx
    · exact valid12
    rcases List.mem_cons.1 hx with rfl | hx
    · exact valid14
    rcases List.mem_cons.1 hx with rfl | hx
    · exact valid15
    rcases List.mem_cons.1 hx with rfl | hx
    · exact valid16
    rcases List.mem_cons.1 hx with rfl | hx
    · exact valid17
    rcases List.mem_cons.1 hx with rfl | hx
    · exact valid18
    rcases List.mem_cons.1 hx with rfl | hx
    · exact valid29
    rcases List.mem_cons.1 hx with rfl | hx
    · exact valid27
    cases hx), callOf_par [(12, e12 law_first), (14, e14 b_Union), (15, e15 b_Meet), (16, e16 b_Minus), (17, e17 b_Differ), (18, e18 b_Count), (29, e29 b_ListS), (27, e27 b_Of)], by kernel_rfl, by kernel_rfl, cast (by kernel_rfl) (laws_run (inW_of hok.1.1) (inW_of hok.1.2.1) (inW_of hok.2.1.1) (inW_of hok.2.1.2.1) (inW_of hok.2.2.1.1) (inW_of hok.2.2.1.2.1))⟩
theorem lawrun8 {t : TypeId × Nat × Nat} : LawRun Proofs.Tryd.prog (gl t) Proofs.Tryd.f8 [.tmp 2] none [(true, [.f (.int .u64), .f (.int .u64)])] := by
  rintro ⟨⟨p0_0, ⟨p0_1, ⟨⟩⟩⟩, ⟨⟩⟩ hok
  exact ⟨c8 1030 1 law_first b_Count b_Sub ref_List, tok, callOf_ok (l := [(12, e12 law_first), (18, e18 b_Count), (31, e31 b_Sub), (19, e19 ref_List)]) (by
    intro x hx
    rcases List.mem_cons.1 hx with rfl | hx
    · exact valid12
    rcases List.mem_cons.1 hx with rfl | hx
    · exact valid18
    rcases List.mem_cons.1 hx with rfl | hx
    · exact valid31
    rcases List.mem_cons.1 hx with rfl | hx
    · exact valid19
    cases hx), callOf_par [(12, e12 law_first), (18, e18 b_Count), (31, e31 b_Sub), (19, e19 ref_List)], by kernel_rfl, by kernel_rfl, cast (by kernel_rfl) (counts_run (inW_of hok.1.1) (inW_of hok.1.2.1))⟩
theorem lawrun11 {t : TypeId × Nat × Nat} : LawRun Proofs.Tryd.prog (gl t) Proofs.Tryd.f11 [.tmp 6] none [(true, [.f (.int .u64), .f (.int .u64)]), (false, [.f (.int .i64)]), (false, [.f (.int .i64)])] := by
  rintro ⟨⟨p0_0, ⟨p0_1, ⟨⟩⟩⟩, ⟨⟨p1, ⟨⟩⟩, ⟨⟨p2, ⟨⟩⟩, ⟨⟩⟩⟩⟩ hok
  exact ⟨c11 0 1 law_first b_Shift b_Below b_Meet b_Count, tok, callOf_ok (l := [(12, e12 law_first), (34, e34 b_Shift), (25, e25 b_Below), (15, e15 b_Meet), (18, e18 b_Count)]) (by
    intro x hx
    rcases List.mem_cons.1 hx with rfl | hx
    · exact valid12
    rcases List.mem_cons.1 hx with rfl | hx
    · exact valid34
    rcases List.mem_cons.1 hx with rfl | hx
    · exact valid25
    rcases List.mem_cons.1 hx with rfl | hx
    · exact valid15
    rcases List.mem_cons.1 hx with rfl | hx
    · exact valid18
    cases hx), callOf_par [(12, e12 law_first), (34, e34 b_Shift), (25, e25 b_Below), (15, e15 b_Meet), (18, e18 b_Count)], by kernel_rfl, by kernel_rfl, cast (by kernel_rfl) (shifts_run (inW_of hok.1.1) (inW_of hok.1.2.1) p1 p2)⟩
end Go.Vm
