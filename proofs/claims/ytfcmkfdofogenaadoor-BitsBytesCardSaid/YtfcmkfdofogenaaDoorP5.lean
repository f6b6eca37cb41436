/- Bytes there and back; the run of the law of bytes. -/
import Derived.Test.YtfcmkfdofogenaaDoorP4
set_option linter.unusedVariables false
namespace Go.Vm
open Go
/-! ### Bytes -/
def byteAt (a b : Int) (i : Nat) : Int := if i < 8 then IntKind.u8.wrap (Int.fdiv a (2 ^ (8 * i))) else IntKind.u8.wrap (Int.fdiv b (2 ^ (8 * (i - 8))))
def b_Bytes (a b : Int) : List Int := (List.range' 0 16).map (byteAt a b)
theorem and7 {k : Nat} (h : k < 128) : andI .i64 (k : Int) 7 = ((k % 8 : Nat) : Int) := by
  show IntKind.i64.wrap ((BitVec.ofInt 64 (k : Int) &&& BitVec.ofInt 64 ((7 : Nat) : Int)).toNat : Int) = _
  rw [BitVec.toNat_and, ofInt_nat (by omega), ofInt_nat (by omega), show (7 : Nat) = 2 ^ 3 - 1 by rfl, Nat.and_two_pow_sub_one_eq_mod, wrap_i64 _ (by omega) (by omega)]
theorem cnt7 {k : Nat} (h : k < 128) : IntKind.u64.wrap (IntKind.i64.wrap (andI .i64 (k : Int) (7 : Int) * (8 : Int))) = ((8 * (k % 8) : Nat) : Int) := by
  rw [and7 h, wrap_i64 _ (by omega) (by omega), wrap_u64 _ (by omega) (by omega)]; omega
theorem fdiv8 (k : Nat) : Int.fdiv (k : Int) (2 ^ (min (Int.toNat (3 : Int)) 64)) = ((k / 8 : Nat) : Int) := by
  rw [show min (Int.toNat (3 : Int)) 64 = 3 by decide, fdiv_nat]
theorem take_set {l : List Int} {k : Nat} (h : k < l.length) (v : Int) : (l.set k v).take (k + 1) = l.take k ++ [v] := by
  rw [List.take_succ_eq_append_getElem (by simpa using h)]
  rw [List.getElem_set_self, List.take_set_of_le (Nat.le_refl k)]
theorem bytes_loop (a b : Int) : ∀ (m k fuel : Nat) (l : List Int), 16 < k + m → k ≤ 16 → l.length = 16 →
    L35_0 fuel 1 m a b (k : Int) l = some (.sl 0 0 16, ofM [(0, some ⟨true, 5, .col (.int .u8) (l.take k ++ (List.range' k (16 - k)).map (byteAt a b))⟩)], 1)
  | 0, k, fuel, l, h0, h1, h2 => by omega
  | m + 1, k, fuel, l, h0, h1, h2 => by
    rw [L35_0_succ]
    by_cases hk : k < 16
    · have ih := fun v => bytes_loop a b m (k + 1) fuel (l.set k v) (by omega) (by omega) (by simpa using h2)
      rw [cnd_pos (by omega), cnt7 (by omega), fdiv8, show 16 - k = (16 - (k + 1)) + 1 by omega, List.range'_succ, List.map_cons]
      by_cases h8 : k < 8
      · rw [show k / 8 = 0 by omega, cnd_t (by rfl), cnd_neg (by omega), idx_0, cnd_pos (by omega), toNat_k, wrapS k (by unfold maxLen; omega), Int.toNat_natCast, Nat.min_eq_left (by omega), ih, take_set (by omega), List.append_assoc]
        rw [show byteAt a b k = IntKind.u8.wrap (Int.fdiv a (2 ^ (8 * (k % 8)))) by unfold byteAt; rw [if_pos h8, show k % 8 = k by omega]]; rfl
      · rw [show k / 8 = 1 by omega, cnd_f (by rfl), cnd_t (by rfl), cnd_neg (by omega), idx_0, cnd_pos (by omega), toNat_k, wrapS k (by unfold maxLen; omega), Int.toNat_natCast, Nat.min_eq_left (by omega), ih, take_set (by omega), List.append_assoc]
        rw [show byteAt a b k = IntKind.u8.wrap (Int.fdiv b (2 ^ (8 * (k % 8)))) by unfold byteAt; rw [if_neg h8, show k % 8 = k - 8 by omega]]; rfl
    · obtain rfl : k = 16 := by omega
      rw [cnd_neg (by omega), List.take_of_length_le (by omega)]; simp
theorem bytes_run (a b : Int) : Ret (F35 17 1 a b) 0 (.sl 0 0 (b_Bytes a b).length) [⟨true, 5, .col (.int .u8) (b_Bytes a b)⟩] := by
  rw [F35_eq]
  have := bytes_loop a b 17 0 17 [0, 0, 0, 0, 0, 0, 0, 0, 0, 0, 0, 0, 0, 0, 0, 0] (by omega) (by omega) rfl
  have hl : (b_Bytes a b).length = 16 := by simp [b_Bytes]
  rw [hl]
  refine ⟨_, _, this, fun j r hj => ?_⟩
  match j, hj with
  | 0, hj => exact hj ▸ rfl
/-! FromBytes -/
def fbStep (s : Int × Int) (i : Nat) (x : Int) : Int × Int :=
  if i < 8 then (orI .u64 s.1 (IntKind.u64.wrap (IntKind.u64.wrap x * 2 ^ (8 * i))), s.2) else (s.1, orI .u64 s.2 (IntKind.u64.wrap (IntKind.u64.wrap x * 2 ^ (8 * (i - 8)))))
def fb : List Int → Nat → Int × Int → Int × Int
  | [], _, s => s
  | x :: r, i, s => fb r (i + 1) (fbStep s i x)
def b_FromBytes (l : List Int) : Int × Int × Int := if l.length = 16 then ((fb l 0 (0, 0)).1, (fb l 0 (0, 0)).2, 0) else (0, 0, 3)
theorem from_loop (l : List Int) (hl : l.length = 16) : ∀ (m k fuel : Nat) (s : Int × Int), 16 < k + m → k ≤ 16 →
    L36_0 fuel 1 m l (k : Int) s.1 s.2 = some (.tup [.agg [.int .u64 (fb (l.drop k) k s).1, .int .u64 (fb (l.drop k) k s).2], .int .i64 0], ofM [(0, some ⟨false, 5, .col (.int .u8) l⟩)], 1)
  | 0, k, fuel, s, h0, h1 => by omega
  | m + 1, k, fuel, s, h0, h1 => by
    rw [L36_0_succ]
    by_cases hk : k < 16
    · have ih := fun s => from_loop l hl m (k + 1) fuel s (by omega) (by omega)
      rw [idx_lt (by omega), idx_0, idx_lt (by omega), cnt7 (by omega), fdiv8, drop_getD l k 0 (by omega)]
      by_cases h8 : k < 8
      · have := ih (fbStep s k (l.getD k 0))
        have e : fbStep s k (l.getD k 0) = (orI .u64 s.1 (IntKind.u64.wrap (IntKind.u64.wrap (l.getD k 0) * 2 ^ (8 * (k % 8)))), s.2) := by unfold fbStep; rw [if_pos h8, show k % 8 = k by omega]
        rw [show k / 8 = 0 by omega, cnd_t (by rfl), cnd_neg (by omega), cnd_t (by rfl), toNat_k, wrapS k (by unfold maxLen; omega), Int.toNat_natCast, Nat.min_eq_left (by omega)]
        rw [e] at this
        unfold fb; rw [e]; exact this
      · have := ih (fbStep s k (l.getD k 0))
        have e : fbStep s k (l.getD k 0) = (s.1, orI .u64 s.2 (IntKind.u64.wrap (IntKind.u64.wrap (l.getD k 0) * 2 ^ (8 * (k % 8))))) := by unfold fbStep; rw [if_neg h8, show k % 8 = k - 8 by omega]
        rw [show k / 8 = 1 by omega, cnd_f (by rfl), cnd_t (by rfl), cnd_neg (by omega), cnd_f (by rfl), cnd_t (by rfl), toNat_k, wrapS k (by unfold maxLen; omega), Int.toNat_natCast, Nat.min_eq_left (by omega)]
        rw [e] at this
        unfold fb; rw [e]; exact this
    · obtain rfl : k = 16 := by omega
      rw [idx_ge (by omega), List.drop_eq_nil_of_le (by omega)]; rfl
theorem from_run (l : List Int) : Ret (F36 17 1 l) 1 (.tup [.agg [.int .u64 (b_FromBytes l).1, .int .u64 (b_FromBytes l).2.1], .int .i64 (b_FromBytes l).2.2]) [] := by
  rw [F36_eq]
  refine ret_cnd (fun h => Ret.leaf ?_) (fun h => ?_)
  · have h' : ((l.length : Nat) : Int) ≠ 16 := by simpa using h
    rw [b_FromBytes, if_neg (by omega)]
  · have h' : ((l.length : Nat) : Int) = 16 := by simpa using h
    have hl : l.length = 16 := by omega
    have := from_loop l hl 17 0 17 (0, 0) (by omega) (by omega)
    rw [b_FromBytes, if_pos hl]
    exact Ret.of_eq this
end Go.Vm
set_option linter.unusedVariables false
namespace Go.Vm
open Go
def isB (x : Int) : Prop := 0 ≤ x ∧ x < 256
theorem isB.inW {x : Int} (h : isB x) : inW x := ⟨h.1, by have := h.2; omega⟩
theorem isB.big {x : Int} (h : isB x) {q : Nat} (hq : 8 ≤ q) : tb x q = false := by
  have := h.1; have := h.2
  exact Nat.testBit_lt_two_pow (Nat.lt_of_lt_of_le (show x.toNat < 2 ^ 8 by omega) (Nat.pow_le_pow_right (by omega) hq))
theorem wrap8 (n : Int) : IntKind.u8.wrap n = n % 256 := by simp [IntKind.wrap, IntKind.signed, IntKind.bits]
theorem isB_wrap (n : Int) : isB (IntKind.u8.wrap n) := by rw [wrap8]; unfold isB; omega
theorem isB_byte (a b : Int) (i : Nat) : isB (byteAt a b i) := by unfold byteAt; split <;> exact isB_wrap _
theorem tb_w8 {w : Int} (h : inW w) {q : Nat} (hq : q < 8) : tb (IntKind.u8.wrap w) q = tb w q := by
  obtain ⟨n, rfl, hn⟩ := h.ex
  rw [wrap8, show ((n : Int) % 256) = ((n % 2 ^ 8 : Nat) : Int) by omega, tb_nat, tb_nat, Nat.testBit_mod_two_pow, decide_eq_true hq, Bool.true_and]
theorem byte_tb {a b : Int} (ha : inW a) (hb : inW b) {i q : Nat} (hi : i < 16) (hq : q < 8) : tb (byteAt a b i) q = hs a b ((8 * i + q : Nat) : Int) := by
  unfold byteAt hs
  rw [(there_iff _).2 (by omega), Bool.true_and]
  by_cases h : i < 8
  · rw [if_pos h, if_pos (by omega), tb_w8 (inW_fdiv ha _) hq, tb_fdiv ha, Int.toNat_natCast]
  · rw [if_neg h, if_neg (by omega), tb_w8 (inW_fdiv hb _) hq, tb_fdiv hb, Int.toNat_natCast]
    congr 1; omega
theorem step_hs {s : Int × Int} (h : inS s) {i : Nat} (hi : i < 16) {x : Int} (hx : isB x) : inS (fbStep s i x) ∧ ∀ j : Nat, j < 128 → hs (fbStep s i x).1 (fbStep s i x).2 (j : Int) = (hs s.1 s.2 (j : Int) || (decide (8 * i ≤ j) && tb x (j - 8 * i))) := by
  have hw : IntKind.u64.wrap x = x := wrap_u64 _ hx.1 (by have := hx.2; omega)
  unfold fbStep
  rw [hw]
  by_cases h8 : i < 8
  · rw [if_pos h8]
    refine ⟨⟨inW_or _ _, h.2⟩, fun j hj => ?_⟩
    unfold hs
    rw [(there_iff _).2 (by omega), Bool.true_and, Bool.true_and]
    by_cases c : (j : Int) < 64
    · rw [if_pos c, if_pos c, tb_or h.1 (inW_wrap _), show IntKind.u64.wrap (x * 2 ^ (8 * i)) = shl x (8 * i) from rfl, tb_shl hx.inW, Int.toNat_natCast, decide_eq_true (by omega), Bool.true_and]
    · rw [if_neg c, if_neg c]
      have : (decide (8 * i ≤ j) && tb x (j - 8 * i)) = false := by
        by_cases e : 8 * i ≤ j
        · rw [hx.big (by omega), Bool.and_false]
        · rw [decide_eq_false e, Bool.false_and]
      rw [this, Bool.or_false]
  · rw [if_neg h8]
    refine ⟨⟨h.1, inW_or _ _⟩, fun j hj => ?_⟩
    unfold hs
    rw [(there_iff _).2 (by omega), Bool.true_and, Bool.true_and]
    by_cases c : (j : Int) < 64
    · rw [if_pos c, if_pos c, decide_eq_false (by omega), Bool.false_and, Bool.or_false]
    · rw [if_neg c, if_neg c, tb_or h.2 (inW_wrap _), show IntKind.u64.wrap (x * 2 ^ (8 * (i - 8))) = shl x (8 * (i - 8)) from rfl, tb_shl hx.inW, Int.toNat_natCast, decide_eq_true (by omega), Bool.true_and]
      congr 1
      by_cases e : 8 * i ≤ j
      · rw [decide_eq_true e, decide_eq_true (by omega), Bool.true_and, Bool.true_and]; congr 1; omega
      · rw [decide_eq_false e, decide_eq_false (by omega)]; rfl
theorem fb_hs : ∀ (l : List Int) (k : Nat) (s : Int × Int), inS s → (∀ x ∈ l, isB x) → k + l.length ≤ 16 →
    inS (fb l k s) ∧ ∀ j : Nat, j < 128 → hs (fb l k s).1 (fb l k s).2 (j : Int) = (hs s.1 s.2 (j : Int) || (decide (8 * k ≤ j ∧ j < 8 * (k + l.length)) && tb (l.getD (j / 8 - k) 0) (j % 8)))
  | [], k, s, h, _, _ => by
    refine ⟨h, fun j hj => ?_⟩
    rw [decide_eq_false (by simp only [List.length_nil]; omega)]; simp [fb]
  | x :: r, k, s, h, hx, hk => by
    rw [List.length_cons] at hk
    have hxB := hx x List.mem_cons_self
    obtain ⟨g1, g2⟩ := step_hs h (i := k) (by omega) hxB
    obtain ⟨i1, i2⟩ := fb_hs r (k + 1) _ g1 (fun y hy => hx y (List.mem_cons_of_mem _ hy)) (by omega)
    refine ⟨i1, fun j hj => ?_⟩
    rw [show fb (x :: r) k s = fb r (k + 1) (fbStep s k x) from rfl, i2 j hj, g2 j hj, List.length_cons, Bool.or_assoc]
    congr 1
    by_cases c1 : 8 * k ≤ j
    · by_cases c2 : j < 8 * (k + 1)
      · rw [decide_eq_true c1, decide_eq_false (show ¬ (8 * (k + 1) ≤ j ∧ j < 8 * (k + 1 + r.length)) by omega), decide_eq_true (show 8 * k ≤ j ∧ j < 8 * (k + (r.length + 1)) by omega), show j / 8 - k = 0 by omega, show j - 8 * k = j % 8 by omega]
        simp
      · rw [hxB.big (show 8 ≤ j - 8 * k by omega), Bool.and_false, Bool.false_or, show j / 8 - k = (j / 8 - (k + 1)) + 1 by omega, List.getD_cons_succ]
        congr 1
        exact decide_eq_decide.2 (by omega)
    · rw [decide_eq_false c1, decide_eq_false (show ¬ (8 * (k + 1) ≤ j ∧ j < 8 * (k + 1 + r.length)) by omega), decide_eq_false (show ¬ (8 * k ≤ j ∧ j < 8 * (k + (r.length + 1))) by omega)]; simp
theorem bytes_len (a b : Int) : (b_Bytes a b).length = 16 := by simp [b_Bytes]
theorem bytes_get (a b : Int) {i : Nat} (hi : i < 16) : (b_Bytes a b).getD i 0 = byteAt a b i := by
  unfold b_Bytes
  rw [List.getD, List.getElem?_map, List.getElem?_range' hi]; simp
theorem bytes_isB (a b : Int) : ∀ x ∈ b_Bytes a b, isB x := by
  intro x hx
  obtain ⟨i, _, rfl⟩ := List.mem_map.1 hx
  exact isB_byte a b i
theorem from_bytes {a b : Int} (ha : inW a) (hb : inW b) : b_FromBytes (b_Bytes a b) = (a, b, 0) := by
  obtain ⟨h1, h2⟩ := fb_hs (b_Bytes a b) 0 (0, 0) ⟨inW_0, inW_0⟩ (bytes_isB a b) (by rw [bytes_len]; omega)
  have := set_ext h1.1 h1.2 ha hb (fun j g0 g1 => by
    rw [show j = ((j.toNat : Nat) : Int) by omega, h2 j.toNat (by omega), hs_0, Bool.false_or, decide_eq_true (by rw [bytes_len]; omega), Bool.true_and, Nat.sub_zero, bytes_get a b (by omega), byte_tb ha hb (by omega) (by omega)]
    congr 1; omega)
  rw [b_FromBytes, if_pos (bytes_len a b), this.1, this.2]
theorem bytes_from {l : List Int} (hl : l.length = 16) (hB : ∀ x ∈ l, isB x) : b_Bytes (b_FromBytes l).1 (b_FromBytes l).2.1 = l := by
  obtain ⟨h1, h2⟩ := fb_hs l 0 (0, 0) ⟨inW_0, inW_0⟩ hB (by omega)
  rw [b_FromBytes, if_pos hl]
  apply List.ext_getElem (by rw [bytes_len, hl])
  intro i g0 g1
  have e1 := bytes_get (fb l 0 (0, 0)).1 (fb l 0 (0, 0)).2 (i := i) (by omega)
  rw [List.getD, List.getElem?_eq_getElem g0] at e1
  have e1 : (b_Bytes (fb l 0 (0, 0)).1 (fb l 0 (0, 0)).2)[i] = byteAt (fb l 0 (0, 0)).1 (fb l 0 (0, 0)).2 i := e1
  have hx := hB _ (List.getElem_mem g1)
  refine e1.trans (word_ext (isB_byte _ _ _).inW hx.inW fun q hq => ?_)
  by_cases h8 : q < 8
  · rw [byte_tb h1.1 h1.2 (by omega) h8, h2 _ (by omega), hs_0, Bool.false_or, decide_eq_true (by omega), Bool.true_and, Nat.sub_zero, show (8 * i + q) / 8 = i by omega, show (8 * i + q) % 8 = q by omega, List.getD, List.getElem?_eq_getElem g1]; rfl
  · rw [(isB_byte _ _ _).big (by omega), hx.big (by omega)]
theorem bit8 {x : Int} (h : isB x) (q : Nat) : (andI .u8 (Int.fdiv x (2 ^ q)) 1 == 1) = tb x q := by
  obtain ⟨n, rfl⟩ : ∃ n : Nat, x = (n : Int) := ⟨x.toNat, by have := h.1; omega⟩
  have hn : n < 256 := by have := h.2; omega
  have hd : n / 2 ^ q < 256 := Nat.lt_of_le_of_lt (Nat.div_le_self _ _) hn
  have e : andI .u8 ((n / 2 ^ q : Nat) : Int) 1 = ((n / 2 ^ q % 2 : Nat) : Int) := by
    show IntKind.u8.wrap ((BitVec.ofInt 8 ((n / 2 ^ q : Nat) : Int) &&& BitVec.ofInt 8 ((1 : Nat) : Int)).toNat : Int) = _
    rw [BitVec.toNat_and, BitVec.ofInt_natCast, BitVec.ofInt_natCast, BitVec.toNat_ofNat, BitVec.toNat_ofNat, Nat.mod_eq_of_lt (by omega), Nat.mod_eq_of_lt (by omega), Nat.and_one_is_mod, wrap8]
    omega
  rw [fdiv_nat, e, tb_nat, Nat.testBit_eq_decide_div_mod_eq]
  by_cases hh : n / 2 ^ q % 2 = 1
  · rw [hh]; rfl
  · rw [show n / 2 ^ q % 2 = 0 by omega]; rfl
theorem bytesL_loop {a b : Int} (ha : inW a) (hb : inW b) (l : List Int) (hB : ∀ x ∈ l, isB x) (fuel : Nat) : ∀ (m k : Nat), 128 < k + m → k ≤ 128 →
    Ret (L10_0 fuel 1 law_first b_Bytes ref_Has b_FromBytes m l a b (k : Int)) 0 (.bool true) []
  | 0, k, h0, h1 => by omega
  | m + 1, k, h0, h1 => by
    rw [L10_0_succ]
    by_cases hk : k < 128
    · have ih := bytesL_loop ha hb l hB fuel m (k + 1) (by omega) (by omega)
      have e8 : IntKind.i64.wrap (Int.tdiv (k : Int) (8 : Int)) = ((k / 8 : Nat) : Int) := by
        rw [show Int.tdiv (k : Int) 8 = ((k / 8 : Nat) : Int) by simp [Int.tdiv], wrap_i64 _ (by omega) (by omega)]
      have m8 : IntKind.u64.wrap (Int.tmod (k : Int) (8 : Int)) = ((k % 8 : Nat) : Int) := by
        rw [show Int.tmod (k : Int) 8 = ((k % 8 : Nat) : Int) by simp [Int.tmod], wrap_u64 _ (by omega) (by omega)]
      rw [cnd_pos (by omega), e8, m8, idx_0, bytes_len, cnd_pos (by omega), cnd_neg (by omega), toNat_k, bytes_get a b (by omega), Int.toNat_natCast, Nat.min_eq_left (by omega), bit8 (isB_byte a b _), byte_tb ha hb (by omega) (by omega), show 8 * (k / 8) + k % 8 = k by omega, refhas_hs ha hb, cnd_f (by simp), wrapS k (by unfold maxLen; omega)]
      exact ih
    · obtain rfl : k = 128 := by omega
      have hf := from_bytes ha hb
      rw [cnd_neg (by omega), List.take_length, List.take_length, List.take_length, hf, cnd_f (by rfl), cnd_f (by simp)]
      by_cases h16 : l.length = 16
      · have e2 : (b_FromBytes l).2.2 = 0 := by rw [b_FromBytes, if_pos h16]
        have hb2 := bytes_from h16 hB
        rw [e2, hb2, h16]
        simp only [cnd]
        exact ⟨_, _, by simp; exact ⟨rfl, rfl⟩, fun j r hj => by simp at hj⟩
      · have e2 : b_FromBytes l = (0, 0, 3) := by rw [b_FromBytes, if_neg h16]
        have e3 : (((l.length : Nat) : Int) == 16) = false := beq_eq_false_iff_ne.2 (by omega)
        rw [e2, e3]
        exact ⟨_, _, rfl, fun j r hj => by simp at hj⟩
theorem bytesL_run {a b : Int} (ha : inW a) (hb : inW b) (l : List Int) (hB : ∀ x ∈ l, isB x) : Ret (F10 129 1 law_first b_Bytes ref_Has b_FromBytes a b l) 0 (.bool true) [] := by
  rw [F10_eq, cnd_f (by rfl), bytes_len, cnd_f (by rfl)]
  exact bytesL_loop ha hb l hB 129 129 0 (by omega) (by omega)
end Go.Vm
namespace Go.Vm
open Go
theorem valid35 {t : TypeId × Nat × Nat} : Valid Proofs.Tryd.prog (gl t) 35 (e35 b_Bytes) := by
  refine valid_fn Proofs.Tryd.func35 (by kernel_rfl) (by decide +kernel) (rs := [.tmp 2]) (by kernel_rfl) mixed (by kernel_rfl) ?_
  rintro ⟨⟨p0_0, ⟨p0_1, ⟨⟩⟩⟩, ⟨⟩⟩ hlen hpre
  exact ⟨c35 17 1, tok, callOf_ok (l := []) (by
    intro x hx
    cases hx), callOf_par [], by kernel_rfl, by kernel_rfl, cast (by kernel_rfl) (bytes_run p0_0 p0_1)⟩
theorem valid36 {t : TypeId × Nat × Nat} : Valid Proofs.Tryd.prog (gl t) 36 (e36 b_FromBytes) := by
  refine valid_fn Proofs.Tryd.func36 (by kernel_rfl) (by decide +kernel) (rs := [.cell 2 24, .tmp 3]) (by kernel_rfl) mixed (by kernel_rfl) ?_
  rintro ⟨⟨p0, ⟨⟩⟩, ⟨⟩⟩ hlen hpre
  exact ⟨c36 17 1, tok, callOf_ok (l := []) (by
    intro x hx
    cases hx), callOf_par [], by kernel_rfl, by kernel_rfl, cast (by kernel_rfl) (from_run p0)⟩
theorem isB_of {l : List Int} (h : ∀ x ∈ l, IntKind.u8.min ≤ x ∧ x ≤ IntKind.u8.max) : ∀ x ∈ l, isB x := by
  intro x hx
  have h0 := h x hx
  have h1 : IntKind.u8.min = 0 := by decide
  have h2 : IntKind.u8.max = 255 := by decide
  rw [h1, h2] at h0
  unfold isB; omega
theorem lawrun10 {t : TypeId × Nat × Nat} : LawRun Proofs.Tryd.prog (gl t) Proofs.Tryd.f10 [.tmp 4] none [(true, [.f (.int .u64), .f (.int .u64)]), (false, [.s 5 [.int .u8]])] := by
  rintro ⟨⟨p0_0, ⟨p0_1, ⟨⟩⟩⟩, ⟨⟨p1, ⟨⟩⟩, ⟨⟩⟩⟩ hok
  exact ⟨c10 129 1 law_first b_Bytes ref_Has b_FromBytes, tok, callOf_ok (l := [(12, e12 law_first), (35, e35 b_Bytes), (13, e13 ref_Has), (36, e36 b_FromBytes)]) (by
    intro x hx
    rcases List.mem_cons.1 hx with rfl | hx
    · exact valid12
    rcases List.mem_cons.1 hx with rfl | hx
    · exact valid35
    rcases List.mem_cons.1 hx with rfl | hx
    · exact valid13
    rcases List.mem_cons.1 hx with rfl | hx
    · exact valid36
    cases hx), callOf_par [(12, e12 law_first), (35, e35 b_Bytes), (13, e13 ref_Has), (36, e36 b_FromBytes)], by kernel_rfl, by kernel_rfl, cast (by kernel_rfl) (bytesL_run (inW_of hok.1.1) (inW_of hok.1.2.1) p1 (isB_of hok.2.1.1.2.2.2))⟩
end Go.Vm
