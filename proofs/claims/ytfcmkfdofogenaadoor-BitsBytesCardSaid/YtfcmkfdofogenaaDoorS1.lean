/- What the functions answer, in plain words. -/
import Derived.Test.YtfcmkfdofogenaaDoorG1
import Derived.Lib.TrailingZeros
import Derived.Shelf.Lays7
import Derived.Shelf.Spec.TrailingZeros
import Derived.Laws.Externs
import Derived.Lib.LaidTab
set_option linter.unusedVariables false
namespace Go.Vm
open Go
/-! ### words -/
def inW (w : Int) : Prop := 0 ≤ w ∧ w < 18446744073709551616
instance (w : Int) : Decidable (inW w) := by unfold inW; exact inferInstance
theorem inW.ex {w : Int} (h : inW w) : ∃ n : Nat, w = (n : Int) ∧ n < 18446744073709551616 := ⟨w.toNat, by have := h.1; omega, by have := h.1; have := h.2; omega⟩
theorem inW_nat {n : Nat} (h : n < 18446744073709551616) : inW (n : Int) := ⟨by omega, by omega⟩
theorem inW_0 : inW 0 := ⟨by omega, by omega⟩
theorem wrapU (n : Int) : IntKind.u64.wrap n = n % 18446744073709551616 := by simp [IntKind.wrap, IntKind.signed, IntKind.bits]
theorem inW_wrap (n : Int) : inW (IntKind.u64.wrap n) := by rw [wrapU]; unfold inW; omega
theorem ofInt_nat {a : Nat} (h : a < 18446744073709551616) : (BitVec.ofInt 64 (a : Int)).toNat = a := by
  rw [BitVec.ofInt_natCast, BitVec.toNat_ofNat]; exact Nat.mod_eq_of_lt (by omega)
theorem andU {a b : Nat} (ha : a < 18446744073709551616) (hb : b < 18446744073709551616) : andI .u64 (a : Int) (b : Int) = ((a &&& b : Nat) : Int) := by
  have hx : a &&& b < 2 ^ 64 := Nat.and_lt_two_pow _ (by omega)
  show IntKind.u64.wrap ((BitVec.ofInt 64 (a : Int) &&& BitVec.ofInt 64 (b : Int)).toNat : Int) = _
  rw [BitVec.toNat_and, ofInt_nat ha, ofInt_nat hb, wrapU]; omega
theorem orU {a b : Nat} (ha : a < 18446744073709551616) (hb : b < 18446744073709551616) : orI .u64 (a : Int) (b : Int) = ((a ||| b : Nat) : Int) := by
  have hx : a ||| b < 2 ^ 64 := Nat.or_lt_two_pow (by omega) (by omega)
  show IntKind.u64.wrap ((BitVec.ofInt 64 (a : Int) ||| BitVec.ofInt 64 (b : Int)).toNat : Int) = _
  rw [BitVec.toNat_or, ofInt_nat ha, ofInt_nat hb, wrapU]; omega
theorem xorU {a b : Nat} (ha : a < 18446744073709551616) (hb : b < 18446744073709551616) : xorI .u64 (a : Int) (b : Int) = ((a ^^^ b : Nat) : Int) := by
  have hx : a ^^^ b < 2 ^ 64 := Nat.xor_lt_two_pow (by omega) (by omega)
  show IntKind.u64.wrap ((BitVec.ofInt 64 (a : Int) ^^^ BitVec.ofInt 64 (b : Int)).toNat : Int) = _
  rw [BitVec.toNat_xor, ofInt_nat ha, ofInt_nat hb, wrapU]; omega
theorem andNotU {a b : Nat} (ha : a < 18446744073709551616) (hb : b < 18446744073709551616) : andNotI .u64 (a : Int) (b : Int) = ((a ^^^ (a &&& b) : Nat) : Int) := by
  have hx : a ^^^ (a &&& b) < 2 ^ 64 := Nat.xor_lt_two_pow (by omega) (Nat.and_lt_two_pow _ (by omega))
  show IntKind.u64.wrap ((BitVec.ofInt 64 (a : Int) &&& ~~~ BitVec.ofInt 64 (b : Int)).toNat : Int) = _
  have : (BitVec.ofInt 64 (a : Int) &&& ~~~ BitVec.ofInt 64 (b : Int)).toNat = a ^^^ (a &&& b) := by
    apply Nat.eq_of_testBit_eq
    intro i
    by_cases hi : i < 64
    · rw [BitVec.testBit_toNat, BitVec.getLsbD_and, BitVec.getLsbD_not, ← BitVec.testBit_toNat, ← BitVec.testBit_toNat, ofInt_nat ha, ofInt_nat hb, Nat.testBit_xor, Nat.testBit_and]
      simp only [hi, decide_true, Bool.true_and]
      cases a.testBit i <;> cases b.testBit i <;> rfl
    · rw [Nat.testBit_lt_two_pow (Nat.lt_of_lt_of_le (BitVec.isLt _) (Nat.pow_le_pow_right (by omega) (by omega))), Nat.testBit_lt_two_pow (Nat.lt_of_lt_of_le hx (Nat.pow_le_pow_right (by omega) (by omega)))]
  rw [this, wrapU]; omega
theorem inW_or (a b : Int) : inW (orI .u64 a b) := inW_wrap _
theorem inW_and (a b : Int) : inW (andI .u64 a b) := inW_wrap _
theorem inW_xor (a b : Int) : inW (xorI .u64 a b) := inW_wrap _
theorem inW_andNot (a b : Int) : inW (andNotI .u64 a b) := inW_wrap _
/-- The bit of a word. -/
def tb (w : Int) (i : Nat) : Bool := w.toNat.testBit i
theorem tb_nat (n i : Nat) : tb (n : Int) i = n.testBit i := rfl
theorem tb_or {a b : Int} (ha : inW a) (hb : inW b) (i : Nat) : tb (orI .u64 a b) i = (tb a i || tb b i) := by
  obtain ⟨a, rfl, ha1⟩ := ha.ex
  obtain ⟨b, rfl, hb1⟩ := hb.ex
  rw [orU ha1 hb1, tb_nat, tb_nat, tb_nat, Nat.testBit_or]
theorem tb_and {a b : Int} (ha : inW a) (hb : inW b) (i : Nat) : tb (andI .u64 a b) i = (tb a i && tb b i) := by
  obtain ⟨a, rfl, ha1⟩ := ha.ex
  obtain ⟨b, rfl, hb1⟩ := hb.ex
  rw [andU ha1 hb1, tb_nat, tb_nat, tb_nat, Nat.testBit_and]
theorem tb_xor {a b : Int} (ha : inW a) (hb : inW b) (i : Nat) : tb (xorI .u64 a b) i = (tb a i != tb b i) := by
  obtain ⟨a, rfl, ha1⟩ := ha.ex
  obtain ⟨b, rfl, hb1⟩ := hb.ex
  rw [xorU ha1 hb1, tb_nat, tb_nat, tb_nat, Nat.testBit_xor]
theorem tb_andNot {a b : Int} (ha : inW a) (hb : inW b) (i : Nat) : tb (andNotI .u64 a b) i = (tb a i && !tb b i) := by
  obtain ⟨a, rfl, ha1⟩ := ha.ex
  obtain ⟨b, rfl, hb1⟩ := hb.ex
  rw [andNotU ha1 hb1, tb_nat, tb_nat, tb_nat, Nat.testBit_xor, Nat.testBit_and]
  cases a.testBit i <;> cases b.testBit i <;> rfl
theorem tb_big {a : Int} (ha : inW a) {i : Nat} (h : 64 ≤ i) : tb a i = false := by
  obtain ⟨a, rfl, ha1⟩ := ha.ex
  exact Nat.testBit_lt_two_pow (Nat.lt_of_lt_of_le ha1 (Nat.pow_le_pow_right (n := 2) (by omega) h))
theorem word_ext {a b : Int} (ha : inW a) (hb : inW b) (h : ∀ i, i < 64 → tb a i = tb b i) : a = b := by
  have : a.toNat = b.toNat := by
    apply Nat.eq_of_testBit_eq
    intro i
    by_cases hi : i < 64
    · exact h i hi
    · exact (tb_big ha (by omega)).trans (tb_big hb (by omega)).symm
  have := ha.1; have := hb.1; omega
theorem tb_pow (k i : Nat) : tb (2 ^ k : Int) i = decide (k = i) := by
  show ((2 : Int) ^ k).toNat.testBit i = _
  have : ((2 : Int) ^ k).toNat = 2 ^ k := by rw [show ((2 : Int) ^ k) = ((2 ^ k : Nat) : Int) by simp]; rfl
  rw [this, Nat.testBit_two_pow]
theorem inW_pow {k : Nat} (h : k < 64) : inW (2 ^ k : Int) := by
  rw [show ((2 : Int) ^ k) = ((2 ^ k : Nat) : Int) by simp]
  exact inW_nat (Nat.lt_of_lt_of_le (Nat.pow_lt_pow_right (by omega) h) (by decide))
/-- a bit, as the code reads it -/
def bitI (w : Int) (n : Nat) : Bool := andI .u64 (Int.fdiv w (2 ^ n)) 1 == 1
theorem fdiv_nat (a n : Nat) : Int.fdiv (a : Int) (2 ^ n) = ((a / 2 ^ n : Nat) : Int) := by
  rw [show ((2 : Int) ^ n) = ((2 ^ n : Nat) : Int) by simp]; exact Int.ofNat_fdiv _ _ |>.symm
theorem bitI_tb {w : Int} (h : inW w) (n : Nat) : bitI w n = tb w n := by
  obtain ⟨a, rfl, ha⟩ := h.ex
  have h1 : a / 2 ^ n < 18446744073709551616 := Nat.lt_of_le_of_lt (Nat.div_le_self _ _) ha
  have h2 := andU (a := a / 2 ^ n) (b := 1) h1 (by omega)
  unfold bitI
  rw [fdiv_nat, show (1 : Int) = ((1 : Nat) : Int) by rfl, h2, tb_nat, Nat.testBit_eq_decide_div_mod_eq, Nat.and_one_is_mod]
  by_cases hh : a / 2 ^ n % 2 = 1
  · rw [hh]; rfl
  · have : a / 2 ^ n % 2 = 0 := by omega
    rw [this]; rfl
def halve : Nat → Int → Int
  | 0, w => w
  | n + 1, w => halve n (IntKind.u64.wrap (Int.tdiv w 2))
def hB (w : Int) (n : Nat) : Bool := Int.tmod (halve n w) 2 == 1
theorem hB_tb : ∀ (n : Nat) {w : Int}, inW w → hB w n = tb w n
  | 0, w, h => by
    obtain ⟨a, rfl, ha⟩ := h.ex
    show (Int.tmod (a : Int) 2 == 1) = a.testBit 0
    rw [Nat.testBit_zero, show Int.tmod (a : Int) 2 = ((a % 2 : Nat) : Int) by simp [Int.tmod]]
    by_cases hh : a % 2 = 1
    · rw [hh]; rfl
    · have : a % 2 = 0 := by omega
      rw [this]; rfl
  | n + 1, w, h => by
    obtain ⟨a, rfl, ha⟩ := h.ex
    have h1 : Int.tdiv (a : Int) 2 = ((a / 2 : Nat) : Int) := by simp [Int.tdiv]
    have h2 : inW ((a / 2 : Nat) : Int) := inW_nat (by omega)
    show hB (IntKind.u64.wrap (Int.tdiv (a : Int) 2)) n = a.testBit (n + 1)
    rw [h1, wrapU, Int.emod_eq_of_lt h2.1 h2.2, hB_tb n h2, Nat.testBit_succ]; rfl
end Go.Vm
set_option linter.unusedVariables false
namespace Go.Vm
open Go
/-! ### what the functions answer -/
def b_there (i : Int) : Bool := decide (0 ≤ i) && decide (i < 128)
def b_one (i : Int) : Int × Int := if 0 ≤ i ∧ i < 64 then (2 ^ i.toNat, 0) else if 64 ≤ i ∧ i < 128 then (0, 2 ^ (i.toNat - 64)) else (0, 0)
def b_Union (a b c d : Int) : Int × Int := (orI .u64 a c, orI .u64 b d)
def b_Meet (a b c d : Int) : Int × Int := (andI .u64 a c, andI .u64 b d)
def b_Minus (a b c d : Int) : Int × Int := (andNotI .u64 a c, andNotI .u64 b d)
def b_Differ (a b c d : Int) : Int × Int := (xorI .u64 a c, xorI .u64 b d)
def b_With (a b i : Int) : Int × Int := b_Union a b (b_one i).1 (b_one i).2
def b_Without (a b i : Int) : Int × Int := b_Minus a b (b_one i).1 (b_one i).2
def b_Flip (a b i : Int) : Int × Int := b_Differ a b (b_one i).1 (b_one i).2
def b_Has (a b i : Int) : Bool := b_there i && (if i < 64 then bitI a i.toNat else bitI b (i.toNat - 64))
def b_Below (n : Int) : Int × Int := if n ≤ 0 then (0, 0) else if n < 64 then (2 ^ n.toNat - 1, 0) else if n < 128 then (18446744073709551615, 2 ^ (n.toNat - 64) - 1) else (18446744073709551615, 18446744073709551615)
def b_Of (l : List Int) : Int × Int := l.foldl (fun s i => b_With s.1 s.2 i) (0, 0)
def m_TrailingZeros64 (x : Int) : Int := (Lib.ctz 64 x.toNat : Nat)
def tz_pre (x : Int) : Bool := decide (inW x)
def m_Sub64 (x y b : Int) : Int × Int := (((x.toNat + 18446744073709551616 - y.toNat - b.toNat) % 18446744073709551616 : Nat), (if x.toNat < y.toNat + b.toNat then 1 else 0))
def sub_pre (x y b : Int) : Bool := decide (b = 0 ∨ b = 1)
def b_Next (a b f : Int) : Int :=
  if (b_Minus a b (b_Below f).1 (b_Below f).2).1 ≠ 0 then m_TrailingZeros64 (b_Minus a b (b_Below f).1 (b_Below f).2).1
  else if (b_Minus a b (b_Below f).1 (b_Below f).2).2 ≠ 0 then 64 + m_TrailingZeros64 (b_Minus a b (b_Below f).1 (b_Below f).2).2 else -1
def b_lst (a b : Int) : Nat → Int → List Int
  | 0, _ => []
  | n + 1, i => if 0 ≤ i then i :: b_lst a b n (b_Next a b (i + 1)) else []
def b_List (a b : Int) : List Int := b_lst a b 200 (b_Next a b 0)
def ref_Has (a b i : Int) : Bool := b_there i && (if i < 64 then hB a i.toNat else hB b (i.toNat - 64))
/-- the numbers from k on, below 128 -/
def upTo (k : Nat) : List Int := (List.range' k (128 - k)).map fun i => ((i : Nat) : Int)
def ref_List (a b : Int) : List Int := (upTo 0).filter (ref_Has a b)
def addW (s : Int × Int) (i : Int) : Int × Int := if i < 64 then (IntKind.u64.wrap (s.1 + 2 ^ i.toNat), s.2) else (s.1, IntKind.u64.wrap (s.2 + 2 ^ (i.toNat - 64)))
def ofStep (l : List Int) (s : Int × Int) (i : Int) : Int × Int := if l.contains i && !ref_Has s.1 s.2 i then addW s i else s
def ref_Of (l : List Int) : Int × Int := (upTo 0).foldl (ofStep l) (0, 0)
def ref_Below (n : Int) : Int × Int := ref_Of ((upTo 0).takeWhile (fun i => decide (i < n)))
def ref_Same (a b : List Int) : Bool := a == b
def cmpB (p q : Int → Bool) : Nat → Int
  | 0 => 0
  | n + 1 => if p n = q n then cmpB p q n else if p n then 1 else -1
def ref_Compare (a b c d : Int) : Int := cmpB (ref_Has a b) (ref_Has c d) 128
def b_Compare (a b c d : Int) : Int := if b ≠ d then (if b > d then 1 else -1) else if a ≠ c then (if a > c then 1 else -1) else 0
def shl (w : Int) (n : Nat) : Int := IntKind.u64.wrap (w * 2 ^ n)
def b_Shift (a b k : Int) : Int × Int :=
  if k ≤ -128 ∨ 128 ≤ k then (0, 0)
  else if 0 ≤ k then (if k ≥ 64 then (0, shl a (k.toNat - 64)) else (shl a k.toNat, orI .u64 (shl b k.toNat) (Int.fdiv a (2 ^ (64 - k.toNat)))))
  else (if -k ≥ 64 then (Int.fdiv b (2 ^ ((-k).toNat - 64)), 0) else (orI .u64 (Int.fdiv a (2 ^ (-k).toNat)) (shl b (64 - (-k).toNat)), Int.fdiv b (2 ^ (-k).toNat)))
def b_Sub (a b c d : Int) : (Int × Int × Bool) :=
  let m := b_Meet a b c d
  if m.1 = c ∧ m.2 = d then (0, 0, false) else
    let lo := m_Sub64 m.1 c 0
    let hi := m_Sub64 m.2 d lo.2
    ((b_Meet lo.1 hi.1 c d).1, (b_Meet lo.1 hi.1 c d).2, true)
def pop1 (x : Int) : Int := IntKind.u64.wrap ((andI .u64 (Int.fdiv x (2 ^ 1)) 6148914691236517205) + (andI .u64 x 6148914691236517205))
def pop2 (x : Int) : Int := IntKind.u64.wrap ((andI .u64 (Int.fdiv x (2 ^ 2)) 3689348814741910323) + (andI .u64 x 3689348814741910323))
def pop4 (x : Int) : Int := andI .u64 (IntKind.u64.wrap (Int.fdiv x (2 ^ 4) + x)) 1085102592571150095
def popS (x : Int) (k : Nat) : Int := IntKind.u64.wrap (x + Int.fdiv x (2 ^ k))
def m_OnesCount64 (x : Int) : Int := andI .i64 (IntKind.i64.wrap (popS (popS (popS (pop4 (pop2 (pop1 x))) 8) 16) 32)) 127
def b_Count (a b : Int) : Int := IntKind.i64.wrap (m_OnesCount64 a + m_OnesCount64 b)
def law_first : Bool := true
/-! ### the runs -/
theorem there_run (i : Int) : Ret (F38 0 1 i) 0 (.bool (b_there i)) [] := by
  rw [F38_eq]
  refine ret_cnd (fun h => Ret.leaf ?_) (fun h => Ret.leaf ?_)
  · have h := of_decide_eq_true h
    simp [b_there, h]
  · have h := of_decide_eq_false h
    simp [b_there, h]
theorem and63 {i : Int} (h0 : 0 ≤ i) (h1 : i < 128) : andI .i64 i 63 = i % 64 := by
  obtain ⟨n, rfl⟩ : ∃ n : Nat, i = (n : Int) := ⟨i.toNat, by omega⟩
  show IntKind.i64.wrap ((BitVec.ofInt 64 (n : Int) &&& BitVec.ofInt 64 ((63 : Nat) : Int)).toNat : Int) = _
  rw [BitVec.toNat_and, ofInt_nat (by omega), ofInt_nat (by omega), show (63 : Nat) = 2 ^ 6 - 1 by rfl, Nat.and_two_pow_sub_one_eq_mod, wrap_i64 _ (by omega) (by omega)]
  omega
theorem fdiv64 {i : Int} (h0 : 0 ≤ i) : Int.fdiv i (2 ^ (min (Int.toNat (6 : Int)) 64)) = i / 64 := by
  rw [show (2 : Int) ^ (min (Int.toNat (6 : Int)) 64) = 64 by decide, Int.fdiv_eq_ediv_of_nonneg _ (by omega)]
theorem cnt63 {i : Int} (h0 : 0 ≤ i) (h1 : i < 128) : IntKind.u64.wrap (andI .i64 i (63 : Int)) = i % 64 := by
  rw [and63 h0 h1, wrap_u64 _ (by omega) (by omega)]
theorem powW {k : Nat} (h : k < 64) : IntKind.u64.wrap ((1 : Int) * 2 ^ k) = 2 ^ k := by
  have := inW_pow h
  rw [Int.one_mul, wrapU, Int.emod_eq_of_lt this.1 this.2]
theorem one_run (i : Int) : Ret (F39 0 1 b_there i) 0 (.agg [.int .u64 (b_one i).1, .int .u64 (b_one i).2]) [] := by
  rw [F39_eq]
  refine ret_cnd (fun h => ?_) (fun h => Ret.leaf ?_)
  · simp only [b_there, Bool.and_eq_true, decide_eq_true_eq] at h
    rw [cnt63 h.1 h.2, fdiv64 h.1, cnd_neg (by omega), Nat.min_eq_left (by omega), powW (by omega)]
    refine ret_cnd (fun g => Ret.leaf ?_) (fun g => ret_cnd (fun g1 => Ret.leaf ?_) (fun g1 => ?_))
    · have g := of_decide_eq_true g
      rw [b_one, if_pos (by omega), show i % 64 = i by omega]
    · have g1 := of_decide_eq_true g1
      rw [b_one, if_neg (by omega), if_pos (by omega), show (i % 64).toNat = i.toNat - 64 by omega]
    · have g := of_decide_eq_false g
      have g1 := of_decide_eq_false g1
      omega
  · have h : ¬ (0 ≤ i ∧ i < 128) := by simpa [b_there] using h
    rw [b_one, if_neg (by omega), if_neg (by omega)]
theorem union_run (a b c d : Int) : Ret (F14 0 1 a b c d) 0 (.agg [.int .u64 (b_Union a b c d).1, .int .u64 (b_Union a b c d).2]) [] := by rw [F14_eq]; exact Ret.leaf rfl
theorem meet_run (a b c d : Int) : Ret (F15 0 1 a b c d) 0 (.agg [.int .u64 (b_Meet a b c d).1, .int .u64 (b_Meet a b c d).2]) [] := by rw [F15_eq]; exact Ret.leaf rfl
theorem minus_run (a b c d : Int) : Ret (F16 0 1 a b c d) 0 (.agg [.int .u64 (b_Minus a b c d).1, .int .u64 (b_Minus a b c d).2]) [] := by rw [F16_eq]; exact Ret.leaf rfl
theorem differ_run (a b c d : Int) : Ret (F17 0 1 a b c d) 0 (.agg [.int .u64 (b_Differ a b c d).1, .int .u64 (b_Differ a b c d).2]) [] := by rw [F17_eq]; exact Ret.leaf rfl
theorem count_run (a b : Int) : Ret (F18 0 1 m_OnesCount64 a b) 0 (.int .i64 (b_Count a b)) [] := by rw [F18_eq]; exact Ret.leaf rfl
theorem ones_run (a : Int) : Ret (F37 0 1 a) 0 (.int .i64 (m_OnesCount64 a)) [] := by rw [F37_eq]; exact Ret.leaf rfl
theorem with_run (a b i : Int) : Ret (F22 0 1 b_one b_Union a b i) 0 (.agg [.int .u64 (b_With a b i).1, .int .u64 (b_With a b i).2]) [] := by rw [F22_eq]; exact Ret.leaf rfl
theorem without_run (a b i : Int) : Ret (F23 0 1 b_one b_Minus a b i) 0 (.agg [.int .u64 (b_Without a b i).1, .int .u64 (b_Without a b i).2]) [] := by rw [F23_eq]; exact Ret.leaf rfl
theorem flip_run (a b i : Int) : Ret (F24 0 1 b_one b_Differ a b i) 0 (.agg [.int .u64 (b_Flip a b i).1, .int .u64 (b_Flip a b i).2]) [] := by rw [F24_eq]; exact Ret.leaf rfl
theorem bhas_run (a b i : Int) : Ret (F21 0 1 b_there a b i) 0 (.bool (b_Has a b i)) [] := by
  rw [F21_eq]
  refine ret_cnd (fun h => ?_) (fun h => Ret.leaf (by rw [b_Has, h]; rfl))
  have hh := h
  simp only [b_there, Bool.and_eq_true, decide_eq_true_eq] at h
  rw [cnt63 h.1 h.2, fdiv64 h.1, cnd_neg (by omega), cnd_neg (by omega), Nat.min_eq_left (by omega)]
  refine ret_cnd (fun g => Ret.leaf ?_) (fun g => ret_cnd (fun g1 => Ret.leaf ?_) (fun g1 => ?_))
  · have g := of_decide_eq_true g
    rw [b_Has, hh, if_pos (by omega), show i % 64 = i by omega]; rfl
  · have g1 := of_decide_eq_true g1
    rw [b_Has, hh, if_neg (by omega), show (i % 64).toNat = i.toNat - 64 by omega]; rfl
  · have g := of_decide_eq_false g
    have g1 := of_decide_eq_false g1
    omega
end Go.Vm
set_option linter.unusedVariables false
namespace Go.Vm
open Go
theorem hasloop : ∀ (m n : Nat) (fuel : Nat) (w : Int), n < m → m ≤ 200 → L13_1 fuel 1 m (n : Int) w = some (.bool (hB w n), ofM [], 0)
  | m + 1, 0, fuel, w, _, _ => by
    rw [L13_1_succ, cnd_neg (by omega)]; rfl
  | m + 1, n + 1, fuel, w, h, hm => by
    rw [L13_1_succ, cnd_pos (by omega), show ((n + 1 : Nat) : Int) - 1 = (n : Int) by omega, wrap_i64 _ (by omega) (by omega), hasloop m n fuel _ (by omega) (by omega)]; rfl
theorem has_run (a b i : Int) : Ret (F13 128 1 a b i) 0 (.bool (ref_Has a b i)) [] := by
  rw [F13_eq]
  refine ret_cnd (fun h => Ret.leaf ?_) (fun h => ret_cnd (fun h1 => Ret.leaf ?_) (fun h1 => ret_cnd (fun h2 => ?_) (fun h2 => ?_)))
  · have h := of_decide_eq_true h
    rw [ref_Has, b_there, decide_eq_false (by omega)]; rfl
  · have h1 := of_decide_eq_true h1
    rw [ref_Has, b_there, decide_eq_false (p := i < 128) (by omega), Bool.and_false]; rfl
  · have h := of_decide_eq_false h; have h1 := of_decide_eq_false h1; have h2 := of_decide_eq_true h2
    rw [J13_0_eq, wrap_i64 _ (by omega) (by omega), show i - 64 = ((i.toNat - 64 : Nat) : Int) by omega, hasloop 128 _ _ _ (by omega) (by omega)]
    refine Ret.leaf ?_
    rw [ref_Has, b_there, decide_eq_true (by omega), decide_eq_true (by omega), if_neg (by omega)]; rfl
  · have h := of_decide_eq_false h; have h1 := of_decide_eq_false h1; have h2 := of_decide_eq_false h2
    rw [J13_0_eq, show i = ((i.toNat : Nat) : Int) by omega, hasloop 128 _ _ _ (by omega) (by omega)]
    refine Ret.leaf ?_
    rw [ref_Has, b_there, decide_eq_true (by omega), decide_eq_true (by omega), if_pos (by omega)]; rfl
theorem powS {k : Nat} (h : k ≤ 64) : IntKind.u64.wrap (IntKind.u64.wrap ((1 : Int) * 2 ^ k) - 1) = 2 ^ k - 1 := by
  by_cases hk : k = 64
  · subst hk; rw [wrapU, wrapU]; decide
  · have h0 := inW_pow (k := k) (by omega)
    have h1 : (1 : Int) ≤ 2 ^ k := by
      rw [show ((2 : Int) ^ k) = ((2 ^ k : Nat) : Int) by simp]
      have := Nat.one_le_two_pow (n := k); omega
    rw [powW (by omega), wrapU, Int.emod_eq_of_lt (by omega) (by have := h0.2; omega)]
theorem below_run (n : Int) : Ret (F25 0 1 n) 0 (.agg [.int .u64 (b_Below n).1, .int .u64 (b_Below n).2]) [] := by
  rw [F25_eq]
  refine ret_cnd (fun h => Ret.leaf ?_) (fun h => ret_cnd (fun h1 => Ret.leaf ?_) (fun h1 => ret_cnd (fun h2 => ?_) (fun h2 => ?_)))
  · have h := of_decide_eq_true h
    rw [b_Below, if_pos h]
  · have h := of_decide_eq_false h; have h1 := of_decide_eq_true h1
    rw [b_Below, if_neg h, if_neg (by omega), if_neg (by omega)]
  · have h := of_decide_eq_false h; have h1 := of_decide_eq_false h1; have h2 := of_decide_eq_true h2
    rw [wrap_i64 _ (by omega) (by omega), wrap_u64 _ (by omega) (by omega), cnd_neg (by omega), Nat.min_eq_left (by omega), powS (by omega)]
    refine Ret.leaf ?_
    rw [b_Below, if_neg h, if_neg (by omega), if_pos (by omega), show (n - 64).toNat = n.toNat - 64 by omega]
  · have h := of_decide_eq_false h; have h1 := of_decide_eq_false h1; have h2 := of_decide_eq_false h2
    rw [wrap_u64 _ (by omega) (by omega), cnd_neg (by omega), Nat.min_eq_left (by omega), powS (by omega)]
    refine Ret.leaf ?_
    rw [b_Below, if_neg h, if_pos (by omega)]
theorem ctz_le (x : Int) : 0 ≤ m_TrailingZeros64 x ∧ (inW x → x ≠ 0 → m_TrailingZeros64 x < 64) := by
  refine ⟨by unfold m_TrailingZeros64; omega, fun h h0 => ?_⟩
  have := (Lib.lowest_bit 64 x.toNat (by have := h.1; omega) (by have := h.1; have := h.2; omega)).2
  unfold m_TrailingZeros64; omega
theorem tzp_and (a b : Int) : tz_pre (andNotI .u64 a b) = true := decide_eq_true (inW_andNot _ _)
theorem next_run (a b f : Int) : Ret (F30 3 1 b_Below b_Minus tz_pre m_TrailingZeros64 a b f) 0 (.int .i64 (b_Next a b f)) [] := by
  rw [F30_eq, L30_0_succ, cnd_pos (by omega), cnd_t (by rfl)]
  have t1 := ctz_le (b_Minus a b (b_Below f).1 (b_Below f).2).1
  have t2 := ctz_le (b_Minus a b (b_Below f).1 (b_Below f).2).2
  have w1 : inW (b_Minus a b (b_Below f).1 (b_Below f).2).1 := inW_andNot _ _
  have w2 : inW (b_Minus a b (b_Below f).1 (b_Below f).2).2 := inW_andNot _ _
  refine ret_cnd (fun h => ?_) (fun h => ?_)
  · rw [cnd_t (show tz_pre (b_Minus a b (b_Below f).1 (b_Below f).2).1 = true from tzp_and _ _)]
    have h : (b_Minus a b (b_Below f).1 (b_Below f).2).1 ≠ 0 := by simpa using h
    refine Ret.leaf ?_
    have := t1.2 w1 h
    rw [b_Next, if_pos h, show IntKind.i64.wrap ((0 : Int) * 2 ^ min (Int.toNat 6) 64) = 0 by rfl, Int.zero_add, wrap_i64 _ (by omega) (by omega)]
  · have h : (b_Minus a b (b_Below f).1 (b_Below f).2).1 = 0 := by simpa using h
    rw [show IntKind.i64.wrap ((0 : Int) + 1) = 1 by rfl, L30_0_succ, cnd_pos (by omega), cnd_f (by rfl), cnd_t (by rfl)]
    refine ret_cnd (fun h2 => ?_) (fun h2 => ?_)
    · rw [cnd_t (show tz_pre (b_Minus a b (b_Below f).1 (b_Below f).2).2 = true from tzp_and _ _)]
      have h2 : (b_Minus a b (b_Below f).1 (b_Below f).2).2 ≠ 0 := by simpa using h2
      refine Ret.leaf ?_
      have := t2.2 w2 h2
      rw [b_Next, if_neg (by simpa using h), if_pos h2, show IntKind.i64.wrap ((1 : Int) * 2 ^ min (Int.toNat 6) 64) = 64 by rfl, wrap_i64 _ (by omega) (by omega)]
    · have h2 : (b_Minus a b (b_Below f).1 (b_Below f).2).2 = 0 := by simpa using h2
      rw [show IntKind.i64.wrap ((1 : Int) + 1) = 2 by rfl, L30_0_succ, cnd_neg (by omega)]
      refine Ret.leaf ?_
      rw [b_Next, if_neg (by simpa using h), if_neg (by simpa using h2)]
theorem ofloop (l : List Int) (hl : l.length ≤ maxLen) : ∀ (m k : Nat) (fuel : Nat) (a b : Int), k + m = l.length + 1 → k ≤ l.length →
    L27_0 fuel 1 b_With m l (k : Int) a b = some (.agg [.int .u64 ((l.drop k).foldl (fun s i => b_With s.1 s.2 i) (a, b)).1, .int .u64 ((l.drop k).foldl (fun s i => b_With s.1 s.2 i) (a, b)).2], ofM [(0, some ⟨false, 3, .col (.int .i64) l⟩)], 1)
  | 0, k, fuel, a, b, h, h1 => by omega
  | m + 1, k, fuel, a, b, h, h1 => by
    rw [L27_0_succ]
    by_cases hk : k < l.length
    · rw [idx_lt hk, idx_0, idx_lt hk, wrapS k (by omega), toNat_k, ofloop l hl m (k + 1) fuel _ _ (by omega) (by omega), drop_getD l k 0 hk, List.foldl_cons]
    · rw [idx_ge hk, List.drop_eq_nil_of_le (by omega)]; rfl
theorem of_run (l : List Int) (hl : l.length ≤ maxLen) : Ret (F27 (l.length + 1) 1 b_With l) 1 (.agg [.int .u64 (b_Of l).1, .int .u64 (b_Of l).2]) [] := by
  rw [F27_eq]
  have := ofloop l hl (l.length + 1) 0 (l.length + 1) 0 0 (by omega) (by omega)
  rw [show ((0 : Nat) : Int) = 0 by rfl] at this
  rw [this]
  exact Ret.leaf rfl
end Go.Vm
set_option linter.unusedVariables false
namespace Go.Vm
open Go
theorem upTo_lt {k : Nat} (h : k < 128) : upTo k = (k : Int) :: upTo (k + 1) := by
  unfold upTo
  rw [show 128 - k = (128 - (k + 1)) + 1 by omega, List.range'_succ, List.map_cons]
theorem upTo_128 : upTo 128 = [] := rfl
theorem listloop (h : Int → Int → Int → Bool) : ∀ (m k fuel : Nat) (a b : Int) (out : List Int), 128 < k + m → k ≤ 128 → out.length ≤ k →
    L19_0 fuel 1 h m a b out.length (k : Int) out = some (.sl 0 0 (out ++ (upTo k).filter (h a b)).length, ofM [(0, some ⟨true, 3, .col (.int .i64) (out ++ (upTo k).filter (h a b))⟩)], 1)
  | 0, k, fuel, a, b, out, h0, h1, h2 => by omega
  | m + 1, k, fuel, a, b, out, h0, h1, h2 => by
    rw [L19_0_succ]
    by_cases hk : k < 128
    · rw [cnd_pos (by omega), wrapS k (by unfold maxLen; omega), cnd_pos (by omega), upTo_lt hk]
      cases hb : h a b (k : Int) with
      | true =>
        rw [cnd_true, List.take_length, List.filter_cons_of_pos hb]
        have := listloop h m (k + 1) fuel a b (out ++ [(k : Int)]) (by omega) (by omega) (by simp; omega)
        rw [List.length_append, List.length_singleton] at this
        rw [this, List.append_assoc]; rfl
      | false =>
        rw [cnd_false, List.filter_cons_of_neg (by simp [hb]), listloop h m (k + 1) fuel a b out (by omega) (by omega) (by omega)]
    · obtain rfl : k = 128 := by omega
      rw [cnd_neg (by omega), upTo_128]; simp
theorem reflist_run (a b : Int) : Ret (F19 129 1 ref_Has a b) 0 (.sl 0 0 (ref_List a b).length) [⟨true, 3, .col (.int .i64) (ref_List a b)⟩] := by
  rw [F19_eq]
  have := listloop ref_Has 129 0 129 a b [] (by omega) (by omega) (by simp)
  rw [List.nil_append] at this
  refine ⟨_, _, this, fun j r hj => ?_⟩
  match j, hj with
  | 0, hj => exact hj ▸ rfl
theorem pow2W {q : Nat} (h : q < 63) : IntKind.u64.wrap ((2 : Int) ^ q * 2) = 2 ^ (q + 1) := by
  have := inW_pow (k := q + 1) (by omega)
  rw [← Int.pow_succ, wrapU, Int.emod_eq_of_lt this.1 this.2]
theorem tmod64 (k : Nat) : Int.tmod (k : Int) 64 = ((k % 64 : Nat) : Int) := by simp [Int.tmod]
theorem tdiv64 (k : Nat) : Int.tdiv (k : Int) 64 = ((k / 64 : Nat) : Int) := by simp [Int.tdiv]
theorem ofl2 (h : Int → Int → Int → Bool) (l : List Int) (k : Nat) (hk : k < 128) (a b : Int) (n0 n1 : Nat) : ∀ (m q fuel : Nat), k % 64 < q + m → q ≤ k % 64 →
    L20_2 fuel 1 h n0 n1 m l (k : Int) a b (2 ^ q) (q : Int) = L20_0 fuel 1 h n0 l ((k + 1 : Nat) : Int) (addW (a, b) k).1 (addW (a, b) k).2
  | 0, q, fuel, h0, h1 => by omega
  | m + 1, q, fuel, h0, h1 => by
    rw [L20_2_succ, tmod64]
    by_cases hq : q < k % 64
    · rw [cnd_pos (by omega), pow2W (by omega), wrapS q (by unfold maxLen; omega), ofl2 h l k hk a b n0 n1 m (q + 1) fuel (by omega) (by omega)]
    · obtain rfl : q = k % 64 := by omega
      rw [cnd_neg (by omega), tdiv64, wrap_i64 _ (by omega) (by omega), wrapS k (by unfold maxLen; omega)]
      by_cases h6 : k < 64
      · rw [show k / 64 = 0 by omega, cnd_t (by rfl), cnd_t (by rfl), show k % 64 = k by omega, addW, if_pos (by omega)]; rfl
      · rw [show k / 64 = 1 by omega, cnd_f (by rfl), cnd_t (by rfl), cnd_f (by rfl), cnd_t (by rfl), show k % 64 = k - 64 by omega, addW, if_neg (by omega)]; rfl
theorem ofl1 (h : Int → Int → Int → Bool) (l : List Int) (hl : l.length ≤ maxLen) (k : Nat) (hk : k < 128) (a b : Int) (n0 : Nat) (fuel : Nat) (hf : 64 < fuel) : ∀ (m q : Nat), l.length < q + m → q ≤ l.length →
    L20_1 fuel 1 h n0 m l (k : Int) a b (q : Int) = L20_0 fuel 1 h n0 l ((k + 1 : Nat) : Int) (if (l.drop q).contains (k : Int) && !h a b k then addW (a, b) k else (a, b)).1 (if (l.drop q).contains (k : Int) && !h a b k then addW (a, b) k else (a, b)).2
  | 0, q, h0, h1 => by omega
  | m + 1, q, h0, h1 => by
    rw [L20_1_succ]
    by_cases hq : q < l.length
    · have ih := ofl1 h l hl k hk a b n0 fuel hf m (q + 1) (by omega) (by omega)
      rw [idx_lt hq, idx_0, idx_lt hq, toNat_k, wrapS q (by omega)]
      rw [drop_getD l q 0 hq, List.contains_cons]
      by_cases he : l.getD q 0 = (k : Int)
      · rw [cnd_t (beq_iff_eq.2 he), he, BEq.rfl, Bool.true_or, Bool.true_and]
        cases hb : h a b (k : Int) with
        | true =>
          rw [cnd_f (by rfl), ih, hb]; simp
        | false =>
          rw [cnd_t (by rfl), show (1 : Int) = 2 ^ 0 by rfl]
          have := ofl2 h l k hk a b n0 m fuel 0 fuel (by omega) (by omega)
          rw [show ((0 : Nat) : Int) = 0 by rfl] at this
          rw [this]; rfl
      · rw [cnd_f (beq_eq_false_iff_ne.2 he), ih, show ((k : Int) == l.getD q 0) = false from beq_eq_false_iff_ne.2 (fun e => he e.symm), Bool.false_or]
    · rw [idx_ge hq, List.drop_eq_nil_of_le (by omega), wrapS k (by unfold maxLen; omega)]; simp
theorem ofl0 (l : List Int) (hl : l.length ≤ maxLen) (fuel : Nat) (hf : l.length + 64 < fuel) : ∀ (m k : Nat) (a b : Int), 128 < k + m → k ≤ 128 →
    L20_0 fuel 1 ref_Has m l (k : Int) a b = some (.agg [.int .u64 ((upTo k).foldl (ofStep l) (a, b)).1, .int .u64 ((upTo k).foldl (ofStep l) (a, b)).2], ofM [(0, some ⟨false, 3, .col (.int .i64) l⟩)], 1)
  | 0, k, a, b, h0, h1 => by omega
  | m + 1, k, a, b, h0, h1 => by
    rw [L20_0_succ]
    by_cases hk : k < 128
    · have := ofl1 ref_Has l hl k hk a b m fuel (by omega) fuel 0 (by omega) (by omega)
      rw [show ((0 : Nat) : Int) = 0 by rfl, List.drop_zero] at this
      rw [cnd_pos (by omega), this, ofl0 l hl fuel hf m (k + 1) _ _ (by omega) (by omega), upTo_lt hk, List.foldl_cons]; rfl
    · obtain rfl : k = 128 := by omega
      rw [cnd_neg (by omega)]; rfl
theorem refof_run (l : List Int) (hl : l.length ≤ maxLen) : Ret (F20 (l.length + 200) 1 ref_Has l) 1 (.agg [.int .u64 (ref_Of l).1, .int .u64 (ref_Of l).2]) [] := by
  rw [F20_eq]
  have := ofl0 l hl (l.length + 200) (by omega) (l.length + 200) 0 0 0 (by omega) (by omega)
  rw [show ((0 : Nat) : Int) = 0 by rfl] at this
  rw [this]; exact Ret.leaf rfl
theorem belowloop (n : Int) : ∀ (m k fuel : Nat) (out : List Int), 128 < k + m → k ≤ 128 → out.length ≤ k →
    L26_0 fuel 1 ref_Of m n out.length (k : Int) out = some (.agg [.int .u64 (ref_Of (out ++ (upTo k).takeWhile (fun i => decide (i < n)))).1, .int .u64 (ref_Of (out ++ (upTo k).takeWhile (fun i => decide (i < n)))).2], ofM [], 0)
  | 0, k, fuel, out, h0, h1, h2 => by omega
  | m + 1, k, fuel, out, h0, h1, h2 => by
    rw [L26_0_succ, List.take_length]
    by_cases hk : k < 128
    · rw [cnd_pos (by omega), wrapS k (by unfold maxLen; omega), cnd_pos (p := (out.length + 1) * 8 ≤ _) (by omega), upTo_lt hk]
      by_cases hn : (k : Int) < n
      · have := belowloop n m (k + 1) fuel (out ++ [(k : Int)]) (by omega) (by omega) (by simp; omega)
        rw [List.length_append, List.length_singleton] at this
        rw [cnd_pos hn, this, List.takeWhile_cons_of_pos (by simpa using hn), List.append_assoc]; rfl
      · rw [cnd_neg hn, List.takeWhile_cons_of_neg (by simpa using hn), List.append_nil]
    · obtain rfl : k = 128 := by omega
      rw [cnd_neg (by omega), upTo_128]; simp
theorem refbelow_run (n : Int) : Ret (F26 129 1 ref_Of n) 0 (.agg [.int .u64 (ref_Below n).1, .int .u64 (ref_Below n).2]) [] := by
  rw [F26_eq]
  have := belowloop n 129 0 129 [] (by omega) (by omega) (by simp)
  rw [List.nil_append] at this
  exact Ret.of_eq this
theorem sameloop (a b : List Int) (hl : a.length ≤ maxLen) (he : a.length = b.length) : ∀ (m k fuel : Nat), a.length < k + m → k ≤ a.length →
    L28_0 fuel 1 m a b (k : Int) = some (.bool (a.drop k == b.drop k), ofM [(0, some ⟨false, 3, .col (.int .i64) a⟩), (1, some ⟨false, 3, .col (.int .i64) b⟩)], 2)
  | 0, k, fuel, h0, h1 => by omega
  | m + 1, k, fuel, h0, h1 => by
    rw [L28_0_succ]
    by_cases hk : k < a.length
    · rw [idx_lt hk, idx_0, idx_lt hk, idx_0, idx_lt (by omega), toNat_k, wrapS k (by omega), drop_getD a k 0 hk, drop_getD b k 0 (by omega), sameloop a b hl he m (k + 1) fuel (by omega) (by omega)]
      by_cases hx : a.getD k 0 = b.getD k 0
      · rw [cnd_f (by rw [hx]; simp), hx]; simp
      · rw [cnd_t (by simpa using hx)]
        have : (a.getD k 0 :: List.drop (k + 1) a == b.getD k 0 :: List.drop (k + 1) b) = false := by
          simp only [beq_eq_false_iff_ne, ne_eq, List.cons.injEq, not_and]; exact fun h => absurd h hx
        rw [this]
    · rw [idx_ge hk, List.drop_eq_nil_of_le (by omega), List.drop_eq_nil_of_le (by omega)]; rfl
theorem same_run (a b : List Int) (hl : a.length ≤ maxLen) : Ret (F28 (a.length + 1) 1 a b) 2 (.bool (ref_Same a b)) [] := by
  rw [F28_eq]
  refine ret_cnd (fun h => Ret.leaf ?_) (fun h => ?_)
  · have h' : ((a.length : Nat) : Int) ≠ ((b.length : Nat) : Int) := by simpa using h
    have : a.length ≠ b.length := by omega
    have : (a == b) = false := by simp only [beq_eq_false_iff_ne, ne_eq]; intro e; exact this (by rw [e])
    rw [ref_Same, this]
  · have h' : ((a.length : Nat) : Int) = ((b.length : Nat) : Int) := by simpa using h
    have h : a.length = b.length := by omega
    have := sameloop a b hl h (a.length + 1) 0 (a.length + 1) (by omega) (by omega)
    exact Ret.of_eq this
end Go.Vm
set_option linter.unusedVariables false
namespace Go.Vm
open Go
theorem cmploop (h : Int → Int → Int → Bool) : ∀ (k m fuel : Nat) (a b c d : Int), k < m → k ≤ 128 →
    L32_0 fuel 1 h m a b c d ((k : Int) - 1) = some (.int .i64 (cmpB (fun i => h a b i) (fun i => h c d i) k), ofM [], 0)
  | 0, m + 1, fuel, a, b, c, d, _, _ => by rw [L32_0_succ, cnd_neg (by omega)]; rfl
  | k + 1, m + 1, fuel, a, b, c, d, h0, h1 => by
    rw [L32_0_succ, cnd_pos (by omega), wrap_i64 _ (by omega) (by omega), show ((k + 1 : Nat) : Int) - 1 = (k : Int) by omega, cmploop h k m fuel a b c d (by omega) (by omega)]
    rw [show cmpB (fun i => h a b i) (fun i => h c d i) (k + 1) = if h a b (k : Int) = h c d (k : Int) then cmpB (fun i => h a b i) (fun i => h c d i) k else if h a b (k : Int) then 1 else -1 from rfl]
    cases h a b (k : Int) <;> cases h c d (k : Int) <;> rfl
theorem refcmp_run (a b c d : Int) : Ret (F32 129 1 ref_Has a b c d) 0 (.int .i64 (ref_Compare a b c d)) [] := by
  rw [F32_eq]
  exact Ret.of_eq (cmploop ref_Has 128 129 129 a b c d (by omega) (by omega))
theorem cmp_run (a b c d : Int) : Ret (F33 3 1 a b c d) 0 (.int .i64 (b_Compare a b c d)) [] := by
  rw [F33_eq, L33_0_succ, cnd_pos (by omega)]
  simp only [show ((1 : Int) == 0) = false by rfl, show ((1 : Int) == 1) = true by rfl, show ((0 : Int) == 0) = true by rfl, cnd_true, cnd_false]
  refine ret_cnd (fun h => ret_cnd (fun g => Ret.leaf ?_) (fun g => Ret.leaf ?_)) (fun h => ?_)
  · have h : b ≠ d := by simpa using h
    have g := of_decide_eq_true g
    rw [b_Compare, if_pos h, if_pos g]
  · have h : b ≠ d := by simpa using h
    have g := of_decide_eq_false g
    rw [b_Compare, if_pos h, if_neg g]
  · have h : b = d := by simpa using h
    rw [show IntKind.i64.wrap ((1 : Int) - 1) = 0 by rfl, L33_0_succ, cnd_pos (by omega)]
    simp only [show ((1 : Int) == 0) = false by rfl, show ((1 : Int) == 1) = true by rfl, show ((0 : Int) == 0) = true by rfl, cnd_true, cnd_false]
    refine ret_cnd (fun h1 => ret_cnd (fun g => Ret.leaf ?_) (fun g => Ret.leaf ?_)) (fun h1 => ?_)
    · have h1 : a ≠ c := by simpa using h1
      have g := of_decide_eq_true g
      rw [b_Compare, if_neg (by simpa using h), if_pos h1, if_pos g]
    · have h1 : a ≠ c := by simpa using h1
      have g := of_decide_eq_false g
      rw [b_Compare, if_neg (by simpa using h), if_pos h1, if_neg g]
    · have h1 : a = c := by simpa using h1
      rw [show IntKind.i64.wrap ((0 : Int) - 1) = -1 by rfl, L33_0_succ, cnd_neg (by omega)]
      refine Ret.leaf ?_
      rw [b_Compare, if_neg (by simpa using h), if_neg (by simpa using h1)]
theorem shift_run (a b k : Int) : Ret (F34 0 1 a b k) 0 (.agg [.int .u64 (b_Shift a b k).1, .int .u64 (b_Shift a b k).2]) [] := by
  rw [F34_eq]
  refine ret_cnd (fun h => Ret.leaf ?_) (fun h => ret_cnd (fun h1 => Ret.leaf ?_) (fun h1 => ret_cnd (fun h2 => ?_) (fun h2 => ?_)))
  · have h := of_decide_eq_true h
    rw [b_Shift, if_pos (Or.inl h)]
  · have h1 := of_decide_eq_true h1
    rw [b_Shift, if_pos (Or.inr h1)]
  · have h := of_decide_eq_false h; have h1 := of_decide_eq_false h1; have h2 := of_decide_eq_true h2
    rw [wrap_u64 k (by omega) (by omega)]
    refine ret_cnd (fun g => ?_) (fun g => ?_)
    · have g := of_decide_eq_true g
      rw [wrap_u64 _ (by omega) (by omega), cnd_neg (by omega), Nat.min_eq_left (by omega), show (k - 64).toNat = k.toNat - 64 by omega]
      refine Ret.leaf ?_
      rw [b_Shift, if_neg (by omega), if_pos h2, if_pos g]; rfl
    · have g := of_decide_eq_false g
      rw [wrap_u64 (64 - k) (by omega) (by omega), cnd_neg (by omega), cnd_neg (by omega), cnd_neg (by omega), Nat.min_eq_left (by omega), Nat.min_eq_left (by omega), show (64 - k).toNat = 64 - k.toNat by omega]
      refine Ret.leaf ?_
      rw [b_Shift, if_neg (by omega), if_pos h2, if_neg g]; rfl
  · have h := of_decide_eq_false h; have h1 := of_decide_eq_false h1; have h2 := of_decide_eq_false h2
    rw [Int.zero_sub, wrap_i64 (-k) (by omega) (by omega), wrap_u64 (-k) (by omega) (by omega)]
    refine ret_cnd (fun g => ?_) (fun g => ?_)
    · have g := of_decide_eq_true g
      rw [wrap_u64 _ (by omega) (by omega), cnd_neg (by omega), Nat.min_eq_left (by omega), show (-k - 64).toNat = (-k).toNat - 64 by omega]
      refine Ret.leaf ?_
      rw [b_Shift, if_neg (by omega), if_neg h2, if_pos g]
    · have g := of_decide_eq_false g
      rw [wrap_u64 (64 - -k) (by omega) (by omega), cnd_neg (by omega), cnd_neg (by omega), cnd_neg (by omega), Nat.min_eq_left (by omega), Nat.min_eq_left (by omega), show (64 - -k).toNat = 64 - (-k).toNat by omega]
      refine Ret.leaf ?_
      rw [b_Shift, if_neg (by omega), if_neg h2, if_neg g]; rfl
theorem sub_run (a b c d : Int) : Ret (F31 0 1 b_Meet sub_pre m_Sub64 a b c d) 0 (.tup [.agg [.int .u64 (b_Sub a b c d).1, .int .u64 (b_Sub a b c d).2.1], .bool (b_Sub a b c d).2.2]) [] := by
  rw [F31_eq]
  refine ret_cnd (fun h => Ret.leaf ?_) (fun h => ?_)
  · have h : (b_Meet a b c d).1 = c ∧ (b_Meet a b c d).2 = d := by simpa using h
    simp only [b_Sub, if_pos h]
  · have h : ¬ ((b_Meet a b c d).1 = c ∧ (b_Meet a b c d).2 = d) := by simpa using h
    have hb : (m_Sub64 (b_Meet a b c d).1 c 0).2 = 0 ∨ (m_Sub64 (b_Meet a b c d).1 c 0).2 = 1 := by unfold m_Sub64; simp only; split <;> decide
    rw [cnd_t (show sub_pre _ _ 0 = true by rfl), cnd_t (show sub_pre _ _ _ = true from decide_eq_true hb)]
    refine Ret.leaf ?_
    simp only [b_Sub, if_neg h]
theorem first_run : Ret (F12 0 1 b_Of b_Has b_Count b_Next b_Compare) 0 (.bool law_first) [] := by
  rw [F12_eq, cnd_t (by decide +kernel), cnd_t (by decide +kernel), cnd_t (by decide +kernel)]
  exact Ret.leaf (congrArg V.bool (by decide +kernel))
end Go.Vm
set_option linter.unusedVariables false
namespace Go.Vm
open Go
/-- A callee whose contract stands elsewhere: plain values in, plain values out. -/
theorem valid_raw {P : Program} {gl : List (Nat × Obj)} {g : FuncId} {pk rk : PK} {pre : RkA pk → Bool} {f : RkA pk → RkA rk} (h0 : sumA pk = 0) (hr : ∀ x, (encArgs 0 rk (f x)).2 = [])
    (h : ∀ (x : RkA pk) (W : World) (cs : Array Value), pre x = true → GI gl (fun _ => False) W → cs.size = (encArgs 0 pk x).1.length → (∀ (i : Nat) (y : V) (u : Value), (encArgs 0 pk x).1[i]? = some y → cs[i]? = some u → VR (fun _ => none) y u) →
      Does P g cs W fun e W' => ∃ cv, e = .returned cv ∧ VR (fun _ => none) (resOf (encArgs 0 rk (f x)).1) cv ∧ W' = W) : Valid P gl g (entryFn pk rk pre f) := by
  intro args rows v new hev hsl W cs pls hI hpl hsz hargs
  simp only [entryFn] at hev
  cases hd : decArgs 0 pk args rows with
  | none => simp [hd, Tree.eval] at hev
  | some x =>
    simp only [hd] at hev
    cases hlb : Nat.beq rows.length (sumA pk) with
    | false => rw [hlb] at hev; simp [Tree.eval] at hev
    | true =>
    rw [hlb] at hev
    simp only [cond_true, Tree.eval] at hev
    rcases cond_some hev with ⟨hpre, hev⟩ | ⟨_, hev⟩
    · simp only [Option.some.injEq, Prod.mk.injEq] at hev
      obtain ⟨rfl, rfl⟩ := hev
      obtain ⟨e1, e2⟩ := decArgs_eq hd hsl
      have hlen := Nat.eq_of_beq_eq_true hlb
      rw [h0] at hlen
      obtain rfl : rows = [] := List.eq_nil_of_length_eq_zero hlen
      obtain rfl : pls = [] := List.eq_nil_of_length_eq_zero hpl.1
      have hn : renOf [] = fun _ => none := by funext id; rfl
      rw [hn] at hargs
      have key := h x W cs hpre hI (by rw [e1]; exact hsz) (by rw [e1]; exact hargs)
      have post : ∀ e W', (∃ cv, e = Ending.returned cv ∧ VR (fun _ => none) (resOf (encArgs 0 rk (f x)).1) cv ∧ W' = W) →
          ∃ cv ρn mn, e = .returned cv ∧ VR ρn (resOf (encArgs (sumA pk) rk (f x)).1) cv ∧ MR ρn (fun _ => False) W.heap.size mn W' ∧ (∀ (j : Nat) (r : Row), (ownRows (encArgs (sumA pk) rk (f x)).2)[j]? = some r → mn (([] : List Row).length + j) = some r) ∧ Grow (fun _ => False) W W' := by
        rintro e W' ⟨cv, rfl, hv, rfl⟩
        refine ⟨cv, fun _ => none, fun _ => none, rfl, by rw [h0]; exact hv, ⟨fun _ _ _ h => (by cases h), fun _ _ _ h => (by cases h), fun _ _ _ h => (by cases h), fun _ _ _ _ _ _ _ h => (by cases h)⟩, ?_, Grow.refl _ _⟩
        intro j r hj
        rw [h0, hr x] at hj
        simp [ownRows] at hj
      rcases key with ⟨fn, a, b, c, d⟩ | ⟨v', W', a, b⟩
      · exact .inl ⟨fn, a, b, c, d.mono fun e W' hh => post e W' hh⟩
      · exact .inr ⟨v', W', a, post _ _ b⟩
    · exact no hev
/-! the two functions of math/bits that are no Go text of ours -/
def renTz : Go.Shelf.Ren := ⟨fun n => match n with | 29 => 40 | 26 => 41 | n => n, fun n => match n with | 25 => 43 | 54 => 56 | n => n, fun n => match n with | 1 => 0 | n => n⟩
def tabO (t : TypeId × Nat × Nat) : Obj := .cells (Lib.deBruijn64tab.map fun (z : Nat) => Value.int .u8 z).toArray t.1 t.2
def gl (t : TypeId × Nat × Nat) : List (Nat × Obj) := [(0, tabO t)]
theorem gl_tab {t : TypeId × Nat × Nat} {W : World} (h : GI (gl t) (fun _ => False) W) : Proofs.TabAt 0 Lib.deBruijn64tab W := by
  have hh := h.hold 0 (tabO t) List.mem_cons_self
  have ht : Lib.TabIs Proofs.Tryd.prog W "math/bits.deBruijn64tab" .u8 (Lib.deBruijn64tab.map fun (z : Nat) => (z : Int)) := by
    unfold Lib.TabIs World.var?
    rw [show Proofs.Tryd.prog.globalNamed "math/bits.deBruijn64tab" = some 0 by kernel_rfl]
    simp only [Option.bind_some, hh, tabO, List.map_map]; rfl
  intro j hj
  have := ht.cell (g := 0) (by kernel_rfl) j (by simpa using hj)
  rw [this]
  congr 2
  simp [List.getD, hj]
theorem lays29 : Proofs.Lays7.n29 Proofs.Tryd.prog renTz where
  mixed := by kernel_rfl
  f29 := Proofs.Tryd.func40.trans (congrArg some (by kernel_rfl))
  t0 := Proofs.Tryd.underlying0
  a0 := Proofs.Tryd.isAgg0
  z0 := Proofs.Tryd.sizeOf0
  v0 := Proofs.Tryd.zeroValue0
  i0 := by kernel_rfl
  t3 := Proofs.Tryd.underlying3
  a3 := Proofs.Tryd.isAgg3
  z3 := Proofs.Tryd.sizeOf3
  v3 := Proofs.Tryd.zeroValue3
  i3 := by kernel_rfl
  t4 := Proofs.Tryd.underlying4
  a4 := Proofs.Tryd.isAgg4
  z4 := Proofs.Tryd.sizeOf4
  v4 := Proofs.Tryd.zeroValue4
  i4 := by kernel_rfl
  t5 := Proofs.Tryd.underlying5
  a5 := Proofs.Tryd.isAgg5
  z5 := Proofs.Tryd.sizeOf5
  v5 := Proofs.Tryd.zeroValue5
  i5 := by kernel_rfl
  t22 := Proofs.Tryd.underlying22
  a22 := Proofs.Tryd.isAgg22
  z22 := Proofs.Tryd.sizeOf22
  v22 := Proofs.Tryd.zeroValue22
  i22 := by kernel_rfl
  t25 := Proofs.Tryd.underlying43
  a25 := Proofs.Tryd.isAgg43
  z25 := Proofs.Tryd.sizeOf43
  v25 := Proofs.Tryd.zeroValue43
  i25 := by kernel_rfl
  t54 := Proofs.Tryd.underlying56
  a54 := Proofs.Tryd.isAgg56
  z54 := Proofs.Tryd.sizeOf56
  g1 := by kernel_rfl
theorem one_arg {x : Int} {cs : Array Value} {l : List V} (hl : l = [.int .u64 x]) (hs : cs.size = l.length) (h : ∀ (i : Nat) (y : V) (u : Value), l[i]? = some y → cs[i]? = some u → VR (fun _ => none) y u) : cs = #[.int .u64 x] := by
  subst hl
  match cs, hs with
  | ⟨[c]⟩, _ =>
    have := h 0 _ c rfl rfl
    cases this; rfl
theorem tz_does {t : TypeId × Nat × Nat} {W : World} (x : Int) (hpre : tz_pre x = true) (hI : GI (gl t) (fun _ => False) W) : Does Proofs.Tryd.prog 40 #[.int .u64 x] W fun e W' => ∃ cv, e = .returned cv ∧ VR (fun _ => none) (.int .i64 (m_TrailingZeros64 x)) cv ∧ W' = W := by
  have hx : inW x := of_decide_eq_true hpre
  obtain ⟨n, rfl, hn⟩ := hx.ex
  refine .inl ⟨_, Proofs.Tryd.func40, by decide +kernel, by kernel_rfl, ?_⟩
  refine (Proofs.Any7.bits_TrailingZeros64 lays29 n hn W (fun _ => gl_tab hI)).mono ?_
  rintro e W' ⟨rfl, hw⟩
  exact ⟨_, rfl, .int _ _, hw⟩
theorem valid40 {t : TypeId × Nat × Nat} : Valid Proofs.Tryd.prog (gl t) 40 (e40 tz_pre m_TrailingZeros64) := by
  refine valid_raw rfl (fun x => rfl) ?_
  rintro ⟨⟨x, ⟨⟩⟩, ⟨⟩⟩ W cs hpre hI hsz hargs
  obtain rfl := one_arg rfl hsz hargs
  exact tz_does x hpre hI
theorem three_arg {x y z : Int} {cs : Array Value} {l : List V} (hl : l = [.int .u64 x, .int .u64 y, .int .u64 z]) (hs : cs.size = l.length) (h : ∀ (i : Nat) (y : V) (u : Value), l[i]? = some y → cs[i]? = some u → VR (fun _ => none) y u) : cs = #[.int .u64 x, .int .u64 y, .int .u64 z] := by
  subst hl
  match cs, hs with
  | ⟨[c, d, e]⟩, _ =>
    have h0 := h 0 _ c rfl rfl
    have h1 := h 1 _ d rfl rfl
    have h2 := h 2 _ e rfl rfl
    cases h0; cases h1; cases h2; rfl
/-- The model's entry for math/bits.Sub64. -/
def sub64E : Array Value → Sem Value := fun args => do
  let (x, y, b) ← Extern.MathBitsCarry.three "Sub64" args
  pure (Extern.MathBitsCarry.pair ((x + Extern.MathBitsCarry.m64 - y - b) % Extern.MathBitsCarry.m64) (if x < y + b then 1 else 0))
theorem run_sub64E (x y b : Int) (hb : b = 0 ∨ b = 1) (w : World) :
    (sub64E #[.int .u64 x, .int .u64 y, .int .u64 b]).run Proofs.Tryd.prog w = .ok (.tuple #[.int .u64 (m_Sub64 x y b).1, .int .u64 (m_Sub64 x y b).2]) w := by
  have h2 : (sub64E #[.int .u64 x, .int .u64 y, .int .u64 b]).run Proofs.Tryd.prog w = .ok (Extern.MathBitsCarry.pair ((x.toNat + Extern.MathBitsCarry.m64 - y.toNat - b.toNat) % Extern.MathBitsCarry.m64) (if x.toNat < y.toNat + b.toNat then 1 else 0)) w := by
    rcases hb with rfl | rfl <;> rfl
  rw [h2]
  unfold Extern.MathBitsCarry.pair m_Sub64
  by_cases hh : x.toNat < y.toNat + b.toNat
  · rw [if_pos hh, if_pos hh]; rfl
  · rw [if_neg hh, if_neg hh]; rfl
theorem sub_does {W : World} (x y b : Int) (hpre : sub_pre x y b = true) : Does Proofs.Tryd.prog 41 #[.int .u64 x, .int .u64 y, .int .u64 b] W fun e W' => ∃ cv, e = .returned cv ∧ VR (fun _ => none) (.tup [.int .u64 (m_Sub64 x y b).1, .int .u64 (m_Sub64 x y b).2]) cv ∧ W' = W := by
  have hb : b = 0 ∨ b = 1 := of_decide_eq_true hpre
  have h1 : (callFunc 41 #[.int .u64 x, .int .u64 y, .int .u64 b]).run Proofs.Tryd.prog W = .ok (.value (.tuple #[.int .u64 (m_Sub64 x y b).1, .int .u64 (m_Sub64 x y b).2])) W := by
    rw [run_callFunc_extern Proofs.Tryd.func41 (by kernel_rfl) (by kernel_rfl) (by kernel_rfl) (e := sub64E) (by kernel_rfl), run_sub64E x y b hb]; rfl
  refine .inr ⟨_, W, h1, _, rfl, ?_, rfl⟩
  refine .tup rfl ?_
  intro i c v hc hv
  match i with
  | 0 => cases hc; cases hv; exact .int _ _
  | 1 => cases hc; cases hv; exact .int _ _
  | i + 2 => simp at hc
theorem valid41 {t : TypeId × Nat × Nat} : Valid Proofs.Tryd.prog (gl t) 41 (e41 sub_pre m_Sub64) := by
  refine valid_raw rfl (fun x => rfl) ?_
  rintro ⟨⟨x, ⟨⟩⟩, ⟨y, ⟨⟩⟩, ⟨b, ⟨⟩⟩, ⟨⟩⟩ W cs hpre hI hsz hargs
  obtain rfl := three_arg rfl hsz hargs
  exact sub_does x y b hpre
end Go.Vm
set_option linter.unusedVariables false
namespace Go.Vm
open Go
theorem mixed : Proofs.Tryd.prog.follows .mixedOrders = true := by kernel_rfl
def eqFds : List Fd → Bool
  | [.int .u64, .int .u64] => true
  | _ => false
theorem eqFds_eq {l : List Fd} (h : eqFds l = true) : l = [.int .u64, .int .u64] := by
  unfold eqFds at h
  split at h
  · rfl
  · cases h
def tabU : List (TypeId × TInfo) := [(22, ⟨.int .u64, 1, 8, false, [.int .u64 (0 : Int)], [.int .u64], false⟩)]
theorem tokU : TOK Proofs.Tryd.prog (lookT tabU) := tok_of tabU (by kernel_rfl) (fun x hx he => by
  revert he
  have : (tabU.all fun x => !x.2.eq) = true := by kernel_rfl
  rw [List.all_eq_true] at this
  have := this x hx
  intro he
  rw [he] at this
  cases this)
theorem tok : TOK Proofs.Tryd.prog tab := tok_of tabL (by kernel_rfl) (fun x hx he => by
  have : (tabL.all fun x => !x.2.eq || (Nat.beq x.1 23 || Nat.beq x.1 24)) = true := by kernel_rfl
  rw [List.all_eq_true] at this
  have h1 := this x hx
  rw [he] at h1
  have h2 : x.1 = 23 ∨ x.1 = 24 := by simpa using h1
  have h3 : (tabL.all fun x => !x.2.eq || eqFds x.2.fds) = true := by kernel_rfl
  rw [List.all_eq_true] at h3
  have h4 := h3 x hx
  rw [he] at h4
  have h5 : x.2.fds = [.int .u64, .int .u64] := eqFds_eq (by simpa using h4)
  rw [h5]
  rcases h2 with h2 | h2
  · rw [h2]; exact eq_ok (eq_arr2 tokU Proofs.Tryd.underlying23 (e := 22) rfl rfl rfl rfl) (by omega) (by kernel_rfl)
  · rw [h2]; exact eq_ok (eq_arr2 tokU Proofs.Tryd.underlying24 (e := 22) rfl rfl rfl rfl) (by omega) (by kernel_rfl))
theorem valid37 {t : TypeId × Nat × Nat} : Valid Proofs.Tryd.prog (gl t) 37 (e37 m_OnesCount64) := by
  refine valid_fn Proofs.Tryd.func37 (by kernel_rfl) (by decide +kernel) (rs := [.tmp 2]) (by kernel_rfl) mixed (by kernel_rfl) ?_
  rintro ⟨⟨p0, ⟨⟩⟩, ⟨⟩⟩ hlen hpre
  exact ⟨c37 0 1, tok, callOf_ok (l := []) (by
    intro x hx
    cases hx), callOf_par [], by kernel_rfl, by kernel_rfl, cast (by kernel_rfl) (ones_run p0)⟩

theorem valid38 {t : TypeId × Nat × Nat} : Valid Proofs.Tryd.prog (gl t) 38 (e38 b_there) := by
  refine valid_fn Proofs.Tryd.func38 (by kernel_rfl) (by decide +kernel) (rs := [.tmp 2]) (by kernel_rfl) mixed (by kernel_rfl) ?_
  rintro ⟨⟨p0, ⟨⟩⟩, ⟨⟩⟩ hlen hpre
  exact ⟨c38 0 1, tok, callOf_ok (l := []) (by
    intro x hx
    cases hx), callOf_par [], by kernel_rfl, by kernel_rfl, cast (by kernel_rfl) (there_run p0)⟩

theorem valid39 {t : TypeId × Nat × Nat} : Valid Proofs.Tryd.prog (gl t) 39 (e39 b_one) := by
  refine valid_fn Proofs.Tryd.func39 (by kernel_rfl) (by decide +kernel) (rs := [.cell 2 24]) (by kernel_rfl) mixed (by kernel_rfl) ?_
  rintro ⟨⟨p0, ⟨⟩⟩, ⟨⟩⟩ hlen hpre
  exact ⟨c39 0 1 b_there, tok, callOf_ok (l := [(38, e38 b_there)]) (by
    intro x hx
    rcases List.mem_cons.1 hx with rfl | hx
    · exact valid38
    cases hx), callOf_par [(38, e38 b_there)], by kernel_rfl, by kernel_rfl, cast (by kernel_rfl) (one_run p0)⟩

theorem valid14 {t : TypeId × Nat × Nat} : Valid Proofs.Tryd.prog (gl t) 14 (e14 b_Union) := by
  refine valid_fn Proofs.Tryd.func14 (by kernel_rfl) (by decide +kernel) (rs := [.cell 4 24]) (by kernel_rfl) mixed (by kernel_rfl) ?_
  rintro ⟨⟨p0_0, ⟨p0_1, ⟨⟩⟩⟩, ⟨⟨p1_0, ⟨p1_1, ⟨⟩⟩⟩, ⟨⟩⟩⟩ hlen hpre
  exact ⟨c14 0 1, tok, callOf_ok (l := []) (by
    intro x hx
    cases hx), callOf_par [], by kernel_rfl, by kernel_rfl, cast (by kernel_rfl) (union_run p0_0 p0_1 p1_0 p1_1)⟩

theorem valid15 {t : TypeId × Nat × Nat} : Valid Proofs.Tryd.prog (gl t) 15 (e15 b_Meet) := by
  refine valid_fn Proofs.Tryd.func15 (by kernel_rfl) (by decide +kernel) (rs := [.cell 4 24]) (by kernel_rfl) mixed (by kernel_rfl) ?_
  rintro ⟨⟨p0_0, ⟨p0_1, ⟨⟩⟩⟩, ⟨⟨p1_0, ⟨p1_1, ⟨⟩⟩⟩, ⟨⟩⟩⟩ hlen hpre
  exact ⟨c15 0 1, tok, callOf_ok (l := []) (by
    intro x hx
    cases hx), callOf_par [], by kernel_rfl, by kernel_rfl, cast (by kernel_rfl) (meet_run p0_0 p0_1 p1_0 p1_1)⟩

theorem valid16 {t : TypeId × Nat × Nat} : Valid Proofs.Tryd.prog (gl t) 16 (e16 b_Minus) := by
  refine valid_fn Proofs.Tryd.func16 (by kernel_rfl) (by decide +kernel) (rs := [.cell 4 24]) (by kernel_rfl) mixed (by kernel_rfl) ?_
  rintro ⟨⟨p0_0, ⟨p0_1, ⟨⟩⟩⟩, ⟨⟨p1_0, ⟨p1_1, ⟨⟩⟩⟩, ⟨⟩⟩⟩ hlen hpre
  exact ⟨c16 0 1, tok, callOf_ok (l := []) (by
    intro x hx
    cases hx), callOf_par [], by kernel_rfl, by kernel_rfl, cast (by kernel_rfl) (minus_run p0_0 p0_1 p1_0 p1_1)⟩

theorem valid17 {t : TypeId × Nat × Nat} : Valid Proofs.Tryd.prog (gl t) 17 (e17 b_Differ) := by
  refine valid_fn Proofs.Tryd.func17 (by kernel_rfl) (by decide +kernel) (rs := [.cell 4 24]) (by kernel_rfl) mixed (by kernel_rfl) ?_
  rintro ⟨⟨p0_0, ⟨p0_1, ⟨⟩⟩⟩, ⟨⟨p1_0, ⟨p1_1, ⟨⟩⟩⟩, ⟨⟩⟩⟩ hlen hpre
  exact ⟨c17 0 1, tok, callOf_ok (l := []) (by
    intro x hx
    cases hx), callOf_par [], by kernel_rfl, by kernel_rfl, cast (by kernel_rfl) (differ_run p0_0 p0_1 p1_0 p1_1)⟩

theorem valid18 {t : TypeId × Nat × Nat} : Valid Proofs.Tryd.prog (gl t) 18 (e18 b_Count) := by
  refine valid_fn Proofs.Tryd.func18 (by kernel_rfl) (by decide +kernel) (rs := [.tmp 2]) (by kernel_rfl) mixed (by kernel_rfl) ?_
  rintro ⟨⟨p0_0, ⟨p0_1, ⟨⟩⟩⟩, ⟨⟩⟩ hlen hpre
  exact ⟨c18 0 1 m_OnesCount64, tok, callOf_ok (l := [(37, e37 m_OnesCount64)]) (by
    intro x hx
    rcases List.mem_cons.1 hx with rfl | hx
    · exact valid37
    cases hx), callOf_par [(37, e37 m_OnesCount64)], by kernel_rfl, by kernel_rfl, cast (by kernel_rfl) (count_run p0_0 p0_1)⟩

theorem valid21 {t : TypeId × Nat × Nat} : Valid Proofs.Tryd.prog (gl t) 21 (e21 b_Has) := by
  refine valid_fn Proofs.Tryd.func21 (by kernel_rfl) (by decide +kernel) (rs := [.tmp 4]) (by kernel_rfl) mixed (by kernel_rfl) ?_
  rintro ⟨⟨p0_0, ⟨p0_1, ⟨⟩⟩⟩, ⟨⟨p1, ⟨⟩⟩, ⟨⟩⟩⟩ hlen hpre
  exact ⟨c21 0 1 b_there, tok, callOf_ok (l := [(38, e38 b_there)]) (by
    intro x hx
    rcases List.mem_cons.1 hx with rfl | hx
    · exact valid38
    cases hx), callOf_par [(38, e38 b_there)], by kernel_rfl, by kernel_rfl, cast (by kernel_rfl) (bhas_run p0_0 p0_1 p1)⟩

theorem valid22 {t : TypeId × Nat × Nat} : Valid Proofs.Tryd.prog (gl t) 22 (e22 b_With) := by
  refine valid_fn Proofs.Tryd.func22 (by kernel_rfl) (by decide +kernel) (rs := [.cell 4 24]) (by kernel_rfl) mixed (by kernel_rfl) ?_
  rintro ⟨⟨p0_0, ⟨p0_1, ⟨⟩⟩⟩, ⟨⟨p1, ⟨⟩⟩, ⟨⟩⟩⟩ hlen hpre
  exact ⟨c22 0 1 b_one b_Union, tok, callOf_ok (l := [(39, e39 b_one), (14, e14 b_Union)]) (by
    intro x hx
    rcases List.mem_cons.1 hx with rfl | hx
    · exact valid39
    rcases List.mem_cons.1 hx with rfl | hx
    · exact valid14
    cases hx), callOf_par [(39, e39 b_one), (14, e14 b_Union)], by kernel_rfl, by kernel_rfl, cast (by kernel_rfl) (with_run p0_0 p0_1 p1)⟩

theorem valid23 {t : TypeId × Nat × Nat} : Valid Proofs.Tryd.prog (gl t) 23 (e23 b_Without) := by
  refine valid_fn Proofs.Tryd.func23 (by kernel_rfl) (by decide +kernel) (rs := [.cell 4 24]) (by kernel_rfl) mixed (by kernel_rfl) ?_
  rintro ⟨⟨p0_0, ⟨p0_1, ⟨⟩⟩⟩, ⟨⟨p1, ⟨⟩⟩, ⟨⟩⟩⟩ hlen hpre
  exact ⟨c23 0 1 b_one b_Minus, tok, callOf_ok (l := [(39, e39 b_one), (16, e16 b_Minus)]) (by
    intro x hx
    rcases List.mem_cons.1 hx with rfl | hx
    · exact valid39
    rcases List.mem_cons.1 hx with rfl | hx
    · exact valid16
    cases hx), callOf_par [(39, e39 b_one), (16, e16 b_Minus)], by kernel_rfl, by kernel_rfl, cast (by kernel_rfl) (without_run p0_0 p0_1 p1)⟩

theorem valid24 {t : TypeId × Nat × Nat} : Valid Proofs.Tryd.prog (gl t) 24 (e24 b_Flip) := by
  refine valid_fn Proofs.Tryd.func24 (by kernel_rfl) (by decide +kernel) (rs := [.cell 4 24]) (by kernel_rfl) mixed (by kernel_rfl) ?_
  rintro ⟨⟨p0_0, ⟨p0_1, ⟨⟩⟩⟩, ⟨⟨p1, ⟨⟩⟩, ⟨⟩⟩⟩ hlen hpre
  exact ⟨c24 0 1 b_one b_Differ, tok, callOf_ok (l := [(39, e39 b_one), (17, e17 b_Differ)]) (by
    intro x hx
    rcases List.mem_cons.1 hx with rfl | hx
    · exact valid39
    rcases List.mem_cons.1 hx with rfl | hx
    · exact valid17
    cases hx), callOf_par [(39, e39 b_one), (17, e17 b_Differ)], by kernel_rfl, by kernel_rfl, cast (by kernel_rfl) (flip_run p0_0 p0_1 p1)⟩

theorem valid25 {t : TypeId × Nat × Nat} : Valid Proofs.Tryd.prog (gl t) 25 (e25 b_Below) := by
  refine valid_fn Proofs.Tryd.func25 (by kernel_rfl) (by decide +kernel) (rs := [.cell 2 24]) (by kernel_rfl) mixed (by kernel_rfl) ?_
  rintro ⟨⟨p0, ⟨⟩⟩, ⟨⟩⟩ hlen hpre
  exact ⟨c25 0 1, tok, callOf_ok (l := []) (by
    intro x hx
    cases hx), callOf_par [], by kernel_rfl, by kernel_rfl, cast (by kernel_rfl) (below_run p0)⟩

theorem valid30 {t : TypeId × Nat × Nat} : Valid Proofs.Tryd.prog (gl t) 30 (e30 b_Next) := by
  refine valid_fn Proofs.Tryd.func30 (by kernel_rfl) (by decide +kernel) (rs := [.tmp 4]) (by kernel_rfl) mixed (by kernel_rfl) ?_
  rintro ⟨⟨p0_0, ⟨p0_1, ⟨⟩⟩⟩, ⟨⟨p1, ⟨⟩⟩, ⟨⟩⟩⟩ hlen hpre
  exact ⟨c30 3 1 b_Below b_Minus tz_pre m_TrailingZeros64, tok, callOf_ok (l := [(25, e25 b_Below), (16, e16 b_Minus), (40, e40 tz_pre m_TrailingZeros64)]) (by
    intro x hx
    rcases List.mem_cons.1 hx with rfl | hx
    · exact valid25
    rcases List.mem_cons.1 hx with rfl | hx
    · exact valid16
    rcases List.mem_cons.1 hx with rfl | hx
    · exact valid40
    cases hx), callOf_par [(25, e25 b_Below), (16, e16 b_Minus), (40, e40 tz_pre m_TrailingZeros64)], by kernel_rfl, by kernel_rfl, cast (by kernel_rfl) (next_run p0_0 p0_1 p1)⟩

theorem valid27 {t : TypeId × Nat × Nat} : Valid Proofs.Tryd.prog (gl t) 27 (e27 b_Of) := by
  refine valid_fn Proofs.Tryd.func27 (by kernel_rfl) (by decide +kernel) (rs := [.cell 2 24]) (by kernel_rfl) mixed (by kernel_rfl) ?_
  rintro ⟨⟨p0, ⟨⟩⟩, ⟨⟩⟩ hlen hpre
  exact ⟨c27 (List.length p0 + 1) 1 b_With, tok, callOf_ok (l := [(22, e22 b_With)]) (by
    intro x hx
    rcases List.mem_cons.1 hx with rfl | hx
    · exact valid22
    cases hx), callOf_par [(22, e22 b_With)], by kernel_rfl, by kernel_rfl, cast (by kernel_rfl) (of_run p0 hlen.1.1)⟩

theorem valid33 {t : TypeId × Nat × Nat} : Valid Proofs.Tryd.prog (gl t) 33 (e33 b_Compare) := by
  refine valid_fn Proofs.Tryd.func33 (by kernel_rfl) (by decide +kernel) (rs := [.tmp 4]) (by kernel_rfl) mixed (by kernel_rfl) ?_
  rintro ⟨⟨p0_0, ⟨p0_1, ⟨⟩⟩⟩, ⟨⟨p1_0, ⟨p1_1, ⟨⟩⟩⟩, ⟨⟩⟩⟩ hlen hpre
  exact ⟨c33 3 1, tok, callOf_ok (l := []) (by
    intro x hx
    cases hx), callOf_par [], by kernel_rfl, by kernel_rfl, cast (by kernel_rfl) (cmp_run p0_0 p0_1 p1_0 p1_1)⟩

theorem valid34 {t : TypeId × Nat × Nat} : Valid Proofs.Tryd.prog (gl t) 34 (e34 b_Shift) := by
  refine valid_fn Proofs.Tryd.func34 (by kernel_rfl) (by decide +kernel) (rs := [.cell 4 24]) (by kernel_rfl) mixed (by kernel_rfl) ?_
  rintro ⟨⟨p0_0, ⟨p0_1, ⟨⟩⟩⟩, ⟨⟨p1, ⟨⟩⟩, ⟨⟩⟩⟩ hlen hpre
  exact ⟨c34 0 1, tok, callOf_ok (l := []) (by
    intro x hx
    cases hx), callOf_par [], by kernel_rfl, by kernel_rfl, cast (by kernel_rfl) (shift_run p0_0 p0_1 p1)⟩

theorem valid31 {t : TypeId × Nat × Nat} : Valid Proofs.Tryd.prog (gl t) 31 (e31 b_Sub) := by
  refine valid_fn Proofs.Tryd.func31 (by kernel_rfl) (by decide +kernel) (rs := [.cell 4 24, .tmp 5]) (by kernel_rfl) mixed (by kernel_rfl) ?_
  rintro ⟨⟨p0_0, ⟨p0_1, ⟨⟩⟩⟩, ⟨⟨p1_0, ⟨p1_1, ⟨⟩⟩⟩, ⟨⟩⟩⟩ hlen hpre
  exact ⟨c31 0 1 b_Meet sub_pre m_Sub64, tok, callOf_ok (l := [(15, e15 b_Meet), (41, e41 sub_pre m_Sub64)]) (by
    intro x hx
    rcases List.mem_cons.1 hx with rfl | hx
    · exact valid15
    rcases List.mem_cons.1 hx with rfl | hx
    · exact valid41
    cases hx), callOf_par [(15, e15 b_Meet), (41, e41 sub_pre m_Sub64)], by kernel_rfl, by kernel_rfl, cast (by kernel_rfl) (sub_run p0_0 p0_1 p1_0 p1_1)⟩

theorem valid13 {t : TypeId × Nat × Nat} : Valid Proofs.Tryd.prog (gl t) 13 (e13 ref_Has) := by
  refine valid_fn Proofs.Tryd.func13 (by kernel_rfl) (by decide +kernel) (rs := [.tmp 4]) (by kernel_rfl) mixed (by kernel_rfl) ?_
  rintro ⟨⟨p0_0, ⟨p0_1, ⟨⟩⟩⟩, ⟨⟨p1, ⟨⟩⟩, ⟨⟩⟩⟩ hlen hpre
  exact ⟨c13 128 1, tok, callOf_ok (l := []) (by
    intro x hx
    cases hx), callOf_par [], by kernel_rfl, by kernel_rfl, cast (by kernel_rfl) (has_run p0_0 p0_1 p1)⟩

theorem valid19 {t : TypeId × Nat × Nat} : Valid Proofs.Tryd.prog (gl t) 19 (e19 ref_List) := by
  refine valid_fn Proofs.Tryd.func19 (by kernel_rfl) (by decide +kernel) (rs := [.tmp 2]) (by kernel_rfl) mixed (by kernel_rfl) ?_
  rintro ⟨⟨p0_0, ⟨p0_1, ⟨⟩⟩⟩, ⟨⟩⟩ hlen hpre
  exact ⟨c19 129 1 ref_Has, tok, callOf_ok (l := [(13, e13 ref_Has)]) (by
    intro x hx
    rcases List.mem_cons.1 hx with rfl | hx
    · exact valid13
    cases hx), callOf_par [(13, e13 ref_Has)], by kernel_rfl, by kernel_rfl, cast (by kernel_rfl) (reflist_run p0_0 p0_1)⟩

theorem valid20 {t : TypeId × Nat × Nat} : Valid Proofs.Tryd.prog (gl t) 20 (e20 ref_Of) := by
  refine valid_fn Proofs.Tryd.func20 (by kernel_rfl) (by decide +kernel) (rs := [.cell 2 24]) (by kernel_rfl) mixed (by kernel_rfl) ?_
  rintro ⟨⟨p0, ⟨⟩⟩, ⟨⟩⟩ hlen hpre
  exact ⟨c20 (List.length p0 + 200) 1 ref_Has, tok, callOf_ok (l := [(13, e13 ref_Has)]) (by
    intro x hx
    rcases List.mem_cons.1 hx with rfl | hx
    · exact valid13
    cases hx), callOf_par [(13, e13 ref_Has)], by kernel_rfl, by kernel_rfl, cast (by kernel_rfl) (refof_run p0 hlen.1.1)⟩

theorem valid26 {t : TypeId × Nat × Nat} : Valid Proofs.Tryd.prog (gl t) 26 (e26 ref_Below) := by
  refine valid_fn Proofs.Tryd.func26 (by kernel_rfl) (by decide +kernel) (rs := [.cell 2 24]) (by kernel_rfl) mixed (by kernel_rfl) ?_
  rintro ⟨⟨p0, ⟨⟩⟩, ⟨⟩⟩ hlen hpre
  exact ⟨c26 129 1 ref_Of, tok, callOf_ok (l := [(20, e20 ref_Of)]) (by
    intro x hx
    rcases List.mem_cons.1 hx with rfl | hx
    · exact valid20
    cases hx), callOf_par [(20, e20 ref_Of)], by kernel_rfl, by kernel_rfl, cast (by kernel_rfl) (refbelow_run p0)⟩

theorem valid28 {t : TypeId × Nat × Nat} : Valid Proofs.Tryd.prog (gl t) 28 (e28 ref_Same) := by
  refine valid_fn Proofs.Tryd.func28 (by kernel_rfl) (by decide +kernel) (rs := [.tmp 4]) (by kernel_rfl) mixed (by kernel_rfl) ?_
  rintro ⟨⟨p0, ⟨⟩⟩, ⟨⟨p1, ⟨⟩⟩, ⟨⟩⟩⟩ hlen hpre
  exact ⟨c28 (List.length p0 + 1) 1, tok, callOf_ok (l := []) (by
    intro x hx
    cases hx), callOf_par [], by kernel_rfl, by kernel_rfl, cast (by kernel_rfl) (same_run p0 p1 hlen.1.1)⟩

theorem valid32 {t : TypeId × Nat × Nat} : Valid Proofs.Tryd.prog (gl t) 32 (e32 ref_Compare) := by
  refine valid_fn Proofs.Tryd.func32 (by kernel_rfl) (by decide +kernel) (rs := [.tmp 4]) (by kernel_rfl) mixed (by kernel_rfl) ?_
  rintro ⟨⟨p0_0, ⟨p0_1, ⟨⟩⟩⟩, ⟨⟨p1_0, ⟨p1_1, ⟨⟩⟩⟩, ⟨⟩⟩⟩ hlen hpre
  exact ⟨c32 129 1 ref_Has, tok, callOf_ok (l := [(13, e13 ref_Has)]) (by
    intro x hx
    rcases List.mem_cons.1 hx with rfl | hx
    · exact valid13
    cases hx), callOf_par [(13, e13 ref_Has)], by kernel_rfl, by kernel_rfl, cast (by kernel_rfl) (refcmp_run p0_0 p0_1 p1_0 p1_1)⟩

theorem valid12 {t : TypeId × Nat × Nat} : Valid Proofs.Tryd.prog (gl t) 12 (e12 law_first) := by
  refine valid_fn Proofs.Tryd.func12 (by kernel_rfl) (by decide +kernel) (rs := [.tmp 0]) (by kernel_rfl) mixed (by kernel_rfl) ?_
  rintro ⟨⟩ hlen hpre
  exact ⟨c12 0 1 b_Of b_Has b_Count b_Next b_Compare, tok, callOf_ok (l := [(27, e27 b_Of), (21, e21 b_Has), (18, e18 b_Count), (30, e30 b_Next), (33, e33 b_Compare)]) (by
    intro x hx
    rcases List.mem_cons.1 hx with rfl | hx
    · exact valid27
    rcases List.mem_cons.1 hx with rfl | hx
    · exact valid21
    rcases List.mem_cons.1 hx with rfl | hx
    · exact valid18
    rcases List.mem_cons.1 hx with rfl | hx
    · exact valid30
    rcases List.mem_cons.1 hx with rfl | hx
    · exact valid33
    cases hx), callOf_par [(27, e27 b_Of), (21, e21 b_Has), (18, e18 b_Count), (30, e30 b_Next), (33, e33 b_Compare)], by kernel_rfl, by kernel_rfl, cast (by kernel_rfl) (first_run)⟩
end Go.Vm
