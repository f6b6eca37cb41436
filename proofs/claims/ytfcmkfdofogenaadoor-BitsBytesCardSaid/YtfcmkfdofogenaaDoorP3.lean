/- Next and List; the run of the law of lists. -/
import Derived.Test.YtfcmkfdofogenaaDoorP2
set_option linter.unusedVariables false
namespace Go.Vm
open Go
/-! ### Next, List -/
theorem ctz_tb {w : Int} (h : inW w) (h0 : w ≠ 0) : ∃ k : Nat, m_TrailingZeros64 w = (k : Int) ∧ k < 64 ∧ tb w k = true ∧ ∀ j, j < k → tb w j = false := by
  obtain ⟨n, rfl, hn⟩ := h.ex
  have hn0 : n ≠ 0 := fun e => h0 (by rw [e]; rfl)
  obtain ⟨m, hm, hk⟩ := Lib.ctzFrom_spec 64 n (by omega) (by omega)
  have e : Lib.ctz 64 n = Lib.ctzFrom 64 n := by unfold Lib.ctz; rw [if_neg hn0]
  refine ⟨Lib.ctzFrom 64 n, ?_, hk, ?_, fun j hj => ?_⟩
  · unfold m_TrailingZeros64; rw [Int.toNat_natCast, e]
  · rw [tb_nat]
    have : n.testBit (Lib.ctzFrom 64 n) = (2 ^ Lib.ctzFrom 64 n * (2 * m + 1)).testBit (Lib.ctzFrom 64 n) := congrArg (fun x => x.testBit (Lib.ctzFrom 64 n)) hm
    rw [this, Nat.testBit_two_pow_mul, Nat.sub_self, Nat.testBit_zero]; simp
  · rw [tb_nat]
    have : n.testBit j = (2 ^ Lib.ctzFrom 64 n * (2 * m + 1)).testBit j := congrArg (fun x => x.testBit j) hm
    rw [this, Nat.testBit_two_pow_mul, decide_eq_false (by omega), Bool.false_and]
theorem next_spec {a b : Int} (ha : inW a) (hb : inW b) (f : Int) : (b_Next a b f = -1 ∧ ∀ i, f ≤ i → hs a b i = false) ∨
    (∃ k : Nat, b_Next a b f = (k : Int) ∧ k < 128 ∧ f ≤ k ∧ hs a b (k : Int) = true ∧ ∀ i, f ≤ i → i < k → hs a b i = false) := by
  have hB := in_below f
  have w1 : inW (b_Minus a b (b_Below f).1 (b_Below f).2).1 := inW_andNot _ _
  have w2 : inW (b_Minus a b (b_Below f).1 (b_Below f).2).2 := inW_andNot _ _
  have hm : ∀ i, hs (b_Minus a b (b_Below f).1 (b_Below f).2).1 (b_Minus a b (b_Below f).1 (b_Below f).2).2 i = (hs a b i && !(b_there i && decide (i < f))) := fun i => by
    rw [← hs_below]; exact hs_minus ha hb hB.1 hB.2 i
  have hkeep : ∀ i, f ≤ i → hs (b_Minus a b (b_Below f).1 (b_Below f).2).1 (b_Minus a b (b_Below f).1 (b_Below f).2).2 i = hs a b i := fun i hi => by
    rw [hm i, decide_eq_false (by omega)]; simp
  have hback : ∀ i, hs (b_Minus a b (b_Below f).1 (b_Below f).2).1 (b_Minus a b (b_Below f).1 (b_Below f).2).2 i = true → f ≤ i ∧ hs a b i = true := fun i hi => by
    rw [hm i, Bool.and_eq_true, Bool.not_eq_true', Bool.and_eq_false_iff] at hi
    refine ⟨?_, hi.1⟩
    rcases hi.2 with h | h
    · rw [(there_iff i).2 (hs_there hi.1)] at h; cases h
    · have := of_decide_eq_false h; omega
  unfold b_Next
  generalize (b_Minus a b (b_Below f).1 (b_Below f).2).1 = x at *
  generalize (b_Minus a b (b_Below f).1 (b_Below f).2).2 = y at *
  have lo : ∀ i : Nat, i < 64 → hs x y (i : Int) = tb x i := fun i h => by unfold hs; rw [(there_iff _).2 (by omega), if_pos (by omega), Bool.true_and]; rfl
  have hi' : ∀ i : Nat, i < 64 → hs x y (64 + (i : Int)) = tb y i := fun i h => by
    unfold hs; rw [(there_iff _).2 (by omega), if_neg (by omega), Bool.true_and, show (64 + (i : Int)).toNat - 64 = i by omega]
  by_cases hx : x ≠ 0
  · obtain ⟨k, e, hk, h1, h2⟩ := ctz_tb w1 hx
    rw [if_pos hx, e]
    have h3 := hback (k : Int) (by rw [lo k hk]; exact h1)
    refine .inr ⟨k, rfl, by omega, h3.1, h3.2, fun i hf hlt => ?_⟩
    rw [← hkeep i hf]
    by_cases hn : 0 ≤ i
    · rw [show i = ((i.toNat : Nat) : Int) by omega, lo _ (by omega)]; exact h2 _ (by omega)
    · cases hh : hs x y i
      · rfl
      · have := hs_there hh; omega
  · have hx0 : x = 0 := by simpa using hx
    rw [if_neg hx]
    have lo0 : ∀ i : Int, i < 64 → hs x y i = false := fun i h => by
      cases hh : hs x y i
      · rfl
      · have := hs_there hh
        rw [show i = ((i.toNat : Nat) : Int) by omega, lo _ (by omega), hx0, tb_0] at hh; exact hh.symm
    by_cases hy : y ≠ 0
    · obtain ⟨k, e, hk, h1, h2⟩ := ctz_tb w2 hy
      rw [if_pos hy, e]
      have h3 := hback (64 + (k : Int)) (by rw [hi' k hk]; exact h1)
      refine .inr ⟨64 + k, by omega, by omega, by omega, by rw [show ((64 + k : Nat) : Int) = 64 + (k : Int) by omega]; exact h3.2, fun i hf hlt => ?_⟩
      rw [← hkeep i hf]
      by_cases hn : i < 64
      · exact lo0 i hn
      · rw [show i = 64 + ((i.toNat - 64 : Nat) : Int) by omega, hi' _ (by omega)]; exact h2 _ (by omega)
    · have hy0 : y = 0 := by simpa using hy
      rw [if_neg hy]
      refine .inl ⟨rfl, fun i hf => ?_⟩
      rw [← hkeep i hf]
      cases hh : hs x y i
      · rfl
      · have := hs_there hh
        by_cases hn : i < 64
        · rw [lo0 i hn] at hh; exact hh.symm
        · rw [show i = 64 + ((i.toNat - 64 : Nat) : Int) by omega, hi' _ (by omega), hy0, tb_0] at hh; exact hh.symm
theorem ofInt_wrap (a : Int) : BitVec.ofInt 64 (IntKind.u64.wrap a) = BitVec.ofInt 64 a := by
  apply BitVec.eq_of_toNat_eq
  rw [BitVec.toNat_ofInt, BitVec.toNat_ofInt, wrapU]
  congr 1
  rw [show ((2 ^ 64 : Nat) : Int) = 18446744073709551616 by rfl, Int.emod_emod_of_dvd _ (Int.dvd_refl _)]
theorem minus_wrap (a b c d : Int) : b_Minus (IntKind.u64.wrap a) (IntKind.u64.wrap b) c d = b_Minus a b c d := by
  have e : ∀ x y : Int, andNotI .u64 (IntKind.u64.wrap x) y = andNotI .u64 x y := fun x y => by
    show IntKind.u64.wrap ((BitVec.ofInt 64 (IntKind.u64.wrap x) &&& ~~~ BitVec.ofInt 64 y).toNat : Int) = _
    rw [ofInt_wrap]; rfl
  unfold b_Minus; rw [e, e]
theorem next_wrap (a b f : Int) : b_Next (IntKind.u64.wrap a) (IntKind.u64.wrap b) f = b_Next a b f := by unfold b_Next; rw [minus_wrap]
def b_ListS (a b : Int) : List Int := (upTo 0).filter (hs (IntKind.u64.wrap a) (IntKind.u64.wrap b))
theorem upTo_skip (p : Int → Bool) : ∀ (m k r : Nat), m = r - k → k ≤ r → r ≤ 128 → (∀ i : Int, (k : Int) ≤ i → i < r → p i = false) → (upTo k).filter p = (upTo r).filter p
  | 0, k, r, hm, hk, hr, h => by obtain rfl : k = r := by omega
                                 rfl
  | m + 1, k, r, hm, hk, hr, h => by
    rw [upTo_lt (by omega), List.filter_cons_of_neg (by rw [h (k : Int) (by omega) (by omega)]; simp), upTo_skip p m (k + 1) r (by omega) (by omega) hr (fun i h1 h2 => h i (by omega) h2)]
theorem listL {a b : Int} (ha : inW a) (hb : inW b) : ∀ (m k fuel : Nat) (out : List Int), 128 < k + m → k ≤ 128 → out.length ≤ k →
    L29_0 fuel 1 b_Next m a b out.length (b_Next a b (k : Int)) out = some (.sl 0 0 (out ++ (upTo k).filter (hs a b)).length, ofM [(0, some ⟨true, 3, .col (.int .i64) (out ++ (upTo k).filter (hs a b))⟩)], 1)
  | 0, k, fuel, out, h0, h1, h2 => by omega
  | m + 1, k, fuel, out, h0, h1, h2 => by
    rw [L29_0_succ]
    rcases next_spec ha hb (k : Int) with ⟨e, h⟩ | ⟨r, e, hr, hkr, hh, h⟩
    · rw [e, cnd_neg (by omega), upTo_skip (hs a b) (128 - k) k 128 rfl h1 (by omega) (fun i g1 _ => h i g1), upTo_128]; simp
    · have ih := listL ha hb m (r + 1) fuel (out ++ [(r : Int)]) (by omega) (by omega) (by simp; omega)
      rw [List.length_append (bs := [(r : Int)]), List.length_singleton] at ih
      rw [e, cnd_pos (by omega), cnd_pos (by omega), wrapS r (by unfold maxLen; omega), List.take_length, ih, upTo_skip (hs a b) (r - k) k r rfl (by omega) (by omega) (fun i g1 g2 => h i g1 g2), upTo_lt hr, List.filter_cons_of_pos hh, List.append_assoc]; rfl
theorem blist_run (a b : Int) : Ret (F29 129 1 b_Next a b) 0 (.sl 0 0 (b_ListS a b).length) [⟨true, 3, .col (.int .i64) (b_ListS a b)⟩] := by
  rw [F29_eq]
  have hL : ∀ (m : Nat) (n : Nat) (i : Int) (o : List Int), L29_0 129 1 b_Next m a b n i o = L29_0 129 1 b_Next m (IntKind.u64.wrap a) (IntKind.u64.wrap b) n i o := by
    intro m
    induction m with
    | zero => intro n i o; rw [L29_0_zero, L29_0_zero]
    | succ m ih => intro n i o; rw [L29_0_succ, L29_0_succ, ih, next_wrap]
  have := listL (inW_wrap a) (inW_wrap b) 129 0 129 [] (by omega) (by omega) (by simp)
  rw [List.nil_append, next_wrap] at this
  rw [hL]
  refine ⟨_, _, this, fun j r hj => ?_⟩
  match j, hj with
  | 0, hj => exact hj ▸ rfl
theorem blist_eq {a b : Int} (ha : inW a) (hb : inW b) : b_ListS a b = ref_List a b := by
  unfold b_ListS ref_List
  rw [wrapU, wrapU, Int.emod_eq_of_lt ha.1 ha.2, Int.emod_eq_of_lt hb.1 hb.2]
  congr 1; funext i; exact (refhas_hs ha hb i).symm
/-! the run of BitsLists -/
def wnt (f : Int) : List Int → Int → Int
  | [], w => w
  | x :: r, w => if x ≥ f then (if w < 0 then wnt f r x else wnt f r w) else wnt f r w
theorem wnt_pos (f : Int) : ∀ (l : List Int) (w : Int), 0 ≤ w → wnt f l w = w
  | [], w, _ => rfl
  | x :: r, w, h => by
    unfold wnt
    rw [if_neg (show ¬ w < 0 by omega), wnt_pos f r w h]; simp
theorem wnt_none {f : Int} {p : Int → Bool} : ∀ (m k : Nat), m = 128 - k → k ≤ 128 → (∀ i, f ≤ i → p i = false) → wnt f ((upTo k).filter p) (-1) = -1
  | 0, k, hm, hk, h => by obtain rfl : k = 128 := by omega
                          rfl
  | m + 1, k, hm, hk, h => by
    rw [upTo_lt (by omega)]
    cases hp : p (k : Int) with
    | false => rw [List.filter_cons_of_neg (by rw [hp]; simp), wnt_none m (k + 1) (by omega) (by omega) h]
    | true =>
      have : ¬ (k : Int) ≥ f := fun g => by have := h _ g; rw [hp] at this; cases this
      rw [List.filter_cons_of_pos hp]; unfold wnt; rw [if_neg this, wnt_none m (k + 1) (by omega) (by omega) h]
theorem wnt_some {f : Int} {p : Int → Bool} {r : Nat} (hr : r < 128) (hf : f ≤ r) (hp : p (r : Int) = true) (h : ∀ i, f ≤ i → i < r → p i = false) : ∀ (m k : Nat), m = r - k → k ≤ r → wnt f ((upTo k).filter p) (-1) = r
  | 0, k, hm, hk => by
    obtain rfl : k = r := by omega
    rw [upTo_lt hr, List.filter_cons_of_pos hp]; unfold wnt
    rw [if_pos hf, if_pos (by omega), wnt_pos f _ _ (by omega)]
  | m + 1, k, hm, hk => by
    rw [upTo_lt (by omega)]
    cases hq : p (k : Int) with
    | false => rw [List.filter_cons_of_neg (by rw [hq]; simp), wnt_some hr hf hp h m (k + 1) (by omega) (by omega)]
    | true =>
      have : ¬ (k : Int) ≥ f := fun g => by have := h _ g (by omega); rw [hq] at this; cases this
      rw [List.filter_cons_of_pos hq]; unfold wnt; rw [if_neg this, wnt_some hr hf hp h m (k + 1) (by omega) (by omega)]
theorem wnt_next {a b : Int} (ha : inW a) (hb : inW b) (f : Int) : wnt f (ref_List a b) (-1) = b_Next a b f := by
  have e : ref_List a b = (upTo 0).filter (hs a b) := by unfold ref_List; congr 1; funext i; exact refhas_hs ha hb i
  rw [e]
  rcases next_spec ha hb f with ⟨e, h⟩ | ⟨r, e, hr, hkr, hh, h⟩
  · rw [e]; exact wnt_none 128 0 (by omega) (by omega) h
  · rw [e]; exact wnt_some hr hkr hh h r 0 (by omega) (by omega)
theorem lists_loop {a b : Int} (ha : inW a) (hb : inW b) (l : List Int) (hl : l.length * 8 ≤ 140737488355328) (f : Int) (fuel : Nat) : ∀ (m q : Nat) (w : Int), (ref_List a b).length < q + m → q ≤ (ref_List a b).length → wnt f ((ref_List a b).drop q) w = b_Next a b f →
    Ret (L5_0 fuel 1 law_first ref_List b_Of b_ListS ref_Same ref_Of b_Next m l f a b w (q : Int)) 0 (.bool true) []
  | 0, q, w, h0, h1, h2 => by omega
  | m + 1, q, w, h0, h1, h2 => by
    have hlen := reflist_len a b
    rw [L5_0_succ]
    by_cases hq : q < (ref_List a b).length
    · rw [idx_lt hq, idx_0, idx_lt hq, toNat_k, wrapS q (by unfold maxLen; omega)]
      rw [drop_getD _ q 0 hq] at h2
      unfold wnt at h2
      refine ret_cnd (fun g => ret_cnd (fun g1 => ?_) (fun g1 => ?_)) (fun g => ?_)
      · rw [if_pos (of_decide_eq_true g), if_pos (of_decide_eq_true g1)] at h2
        exact lists_loop ha hb l hl f fuel m (q + 1) _ (by omega) (by omega) h2
      · rw [if_pos (of_decide_eq_true g), if_neg (of_decide_eq_false g1)] at h2
        exact lists_loop ha hb l hl f fuel m (q + 1) _ (by omega) (by omega) h2
      · rw [if_neg (of_decide_eq_false g)] at h2
        exact lists_loop ha hb l hl f fuel m (q + 1) _ (by omega) (by omega) h2
    · rw [List.drop_eq_nil_of_le (by omega)] at h2
      have h2 : w = b_Next a b f := h2
      rw [idx_ge hq, cnd_pos (by omega), List.take_length, List.take_length, List.take_length, List.nil_append, Nat.zero_add, List.take_length, cnd_t (by rw [blist_eq ha hb]; simp [ref_Same]), cnd_t (by rw [of_refof]; simp), cnd_t (by simp [ref_Same]), h2]
      exact ⟨_, _, by rw [show (b_Next a b f == b_Next a b f) = true by simp], fun j r hj => by simp at hj⟩
theorem lists_run {a b : Int} (ha : inW a) (hb : inW b) (l : List Int) (hl : l.length * 8 ≤ 140737488355328) (f : Int) : Ret (F5 129 1 law_first ref_List b_Of b_ListS ref_Same ref_Of b_Next a b l f) 0 (.bool true) [] := by
  rw [F5_eq, cnd_f (by rfl)]
  have := reflist_len a b
  exact lists_loop ha hb l hl f 129 129 0 (-1) (by omega) (by omega) (by rw [List.drop_zero]; exact wnt_next ha hb f)
end Go.Vm
namespace Go.Vm
open Go
theorem valid29 {t : TypeId × Nat × Nat} : Valid Proofs.Tryd.prog (gl t) 29 (e29 b_ListS) := by
  refine valid_fn Proofs.Tryd.func29 (by kernel_rfl) (by decide +kernel) (rs := [.tmp 2]) (by kernel_rfl) mixed (by kernel_rfl) ?_
  rintro ⟨⟨p0_0, ⟨p0_1, ⟨⟩⟩⟩, ⟨⟩⟩ hlen hpre
  exact ⟨c29 129 1 b_Next, tok, callOf_ok (l := [(30, e30 b_Next)]) (by
    intro x hx
    rcases List.mem_cons.1 hx with rfl | hx
    · exact valid30
    cases hx), callOf_par [(30, e30 b_Next)], by kernel_rfl, by kernel_rfl, cast (by kernel_rfl) (blist_run p0_0 p0_1)⟩
theorem bytes3 : Proofs.Tryd.prog.bytesOf 3 = 8 := by kernel_rfl
theorem ints_len (l : List Int) (h : l.length * Proofs.Tryd.prog.bytesOf 3 ≤ reachBytes) : l.length * 8 ≤ 140737488355328 := by
  rw [bytes3] at h
  unfold reachBytes at h
  omega
theorem lawrun5 {t : TypeId × Nat × Nat} : LawRun Proofs.Tryd.prog (gl t) Proofs.Tryd.f5 [.tmp 6] none [(true, [.f (.int .u64), .f (.int .u64)]), (false, [.s 3 [.int .i64]]), (false, [.f (.int .i64)])] := by
  rintro ⟨⟨p0_0, ⟨p0_1, ⟨⟩⟩⟩, ⟨⟨p1, ⟨⟩⟩, ⟨⟨p2, ⟨⟩⟩, ⟨⟩⟩⟩⟩ hok
  exact ⟨c5 129 1 law_first ref_List b_Of b_ListS ref_Same ref_Of b_Next, tok, callOf_ok (l := [(12, e12 law_first), (19, e19 ref_List), (27, e27 b_Of), (29, e29 b_ListS), (28, e28 ref_Same), (20, e20 ref_Of), (30, e30 b_Next)]) (by
    intro x hx
    rcases List.mem_cons.1 hx with rfl | hx
    · exact valid12
    rcases List.mem_cons.1 hx with rfl | hx
    · exact valid19
    rcases List.mem_cons.1 hx with rfl | hx
    · exact valid27
    rcases List.mem_cons.1 hx with rfl | hx
    · exact valid29
    rcases List.mem_cons.1 hx with rfl | hx
    · exact valid28
    rcases List.mem_cons.1 hx with rfl | hx
    · exact valid20
    rcases List.mem_cons.1 hx with rfl | hx
    · exact valid30
    cases hx), callOf_par [(12, e12 law_first), (19, e19 ref_List), (27, e27 b_Of), (29, e29 b_ListS), (28, e28 ref_Same), (20, e20 ref_Of), (30, e30 b_Next)], by kernel_rfl, by kernel_rfl, cast (by kernel_rfl) (lists_run (inW_of hok.1.1) (inW_of hok.1.2.1) p1 (ints_len p1 hok.2.1.1.2.1) p2)⟩
end Go.Vm
