/- What the functions answer, in plain words, and the laws' runs. -/
import Derived.Test.YtmbnmgpipeinfaaG1
set_option linter.unusedVariables false
namespace Go.Vm
open Go
/-! ### what tri's functions answer -/
def normI (a : Int) : Int := if a = 0 then 0 else if a = 1 then 1 else 2
theorem normI_cases (a : Int) : normI a = 0 ∨ normI a = 1 ∨ normI a = 2 := by
  unfold normI; split
  · simp
  · split <;> simp
theorem normI_0 : normI 0 = 0 := rfl
theorem normI_1 : normI 1 = 1 := rfl
theorem normI_2 : normI 2 = 2 := rfl
theorem normI_norm (a : Int) : normI (normI a) = normI a := by rcases normI_cases a with h | h | h <;> rw [h] <;> rfl
def ofB (b : Bool) : Int := if b then 1 else 0
def notI (a : Int) : Int := if a = 0 then 1 else if a = 1 then 0 else 2
def allowsI (a : Int) (b : Bool) : Bool := normI a == 2 || normI a == ofB b
def belowI (a b : Int) : Bool := normI b == 2 || normI a == normI b
def andS (l : List Int) (out : Int) : Int := if l.any (fun a => normI a == 0) then 0 else if l.any (fun a => normI a == 2) then 2 else out
def orS (l : List Int) (out : Int) : Int := if l.any (fun a => normI a == 1) then 1 else if l.any (fun a => normI a == 2) then 2 else out
def joinS (out : Int) (l : List Int) : Int := if l.all (fun a => normI a == out) then out else 2
def andL (l : List Int) : Int := andS l 1
def orL (l : List Int) : Int := orS l 0
def joinL (a : Int) (l : List Int) : Int := joinS (normI a) l
theorem norm_run (fuel g : Nat) (a : Int) : Ret (F21 fuel g a) 0 (.int .i64 (normI a)) [] := by
  rw [F21_eq]
  refine ret_cnd (fun h => Ret.leaf ?_) (fun h => ret_cnd (fun h1 => Ret.leaf ?_) (fun h1 => Ret.leaf ?_))
  all_goals simp_all [normI]
theorem refnorm_run (fuel g : Nat) (a : Int) : Ret (F24 fuel g a) 0 (.int .i64 (normI a)) [] := by
  rw [F24_eq]
  refine ret_cnd (fun h => Ret.leaf ?_) (fun h => ret_cnd (fun h1 => Ret.leaf ?_) (fun h1 => Ret.leaf ?_))
  all_goals simp_all [normI]
theorem not_run (fuel g : Nat) (a : Int) : Ret (F20 fuel g a) 0 (.int .i64 (notI a)) [] := by
  rw [F20_eq]
  refine ret_cnd (fun h => Ret.leaf ?_) (fun h => ret_cnd (fun h1 => Ret.leaf ?_) (fun h1 => Ret.leaf ?_))
  all_goals simp_all [notI]
theorem of_run (fuel g : Nat) (b : Bool) : Ret (F27 fuel g b) 0 (.int .i64 (ofB b)) [] := by
  rw [F27_eq]
  cases b <;> exact Ret.leaf rfl
theorem allows_run (fuel g : Nat) (a : Int) (b : Bool) : Ret (F10 fuel g normI ofB a b) 0 (.bool (allowsI a b)) [] := by
  rw [F10_eq]
  refine ret_cnd (fun h => Ret.leaf ?_) (fun h => Ret.leaf ?_)
  all_goals simp_all [allowsI]
theorem below_run (fuel g : Nat) (a b : Int) : Ret (F19 fuel g normI a b) 0 (.bool (belowI a b)) [] := by
  rw [F19_eq]
  refine ret_cnd (fun h => Ret.leaf ?_) (fun h => Ret.leaf ?_)
  all_goals simp_all [belowI]
theorem and_l (fuel g : Nat) (l : List Int) (hl : l.length ≤ maxLen) : ∀ (n k : Nat) (out : Int), k ≤ l.length → l.length < k + n → Ret (L12_0 fuel g normI n l out (k : Int)) 1 (.int .i64 (andS (l.drop k) out)) []
  | 0, k, out, h, hn => by omega
  | n + 1, k, out, h, hn => by
    rw [L12_0_succ]
    by_cases hk : k < l.length
    · rw [idx_lt hk, idx_0, idx_lt hk, toNat_k, wrapS k (by omega), drop_getD l k 0 hk]
      refine ret_cnd (fun h0 => Ret.leaf ?_) (fun h0 => ret_cnd (fun h1 => ?_) (fun h1 => ?_))
      · simp at h0; simp [andS, h0]
      · have := and_l fuel g l hl n (k + 1) 2 (by omega) (by omega)
        simp at h0 h1
        simpa [andS, h0, h1] using this
      · have := and_l fuel g l hl n (k + 1) out (by omega) (by omega)
        simp at h0 h1
        simpa [andS, h0, h1] using this
    · rw [idx_ge hk, List.drop_eq_nil_of_le (by omega)]
      exact Ret.leaf rfl
theorem and_run (g : Nat) (l : List Int) (hl : l.length ≤ maxLen) : Ret (F12 (l.length + 1) g normI l) 1 (.int .i64 (andL l)) [] := by
  rw [F12_eq]; exact and_l _ g l hl _ 0 1 (by omega) (by omega)
theorem or_l (fuel g : Nat) (l : List Int) (hl : l.length ≤ maxLen) : ∀ (n k : Nat) (out : Int), k ≤ l.length → l.length < k + n → Ret (L13_0 fuel g normI n l out (k : Int)) 1 (.int .i64 (orS (l.drop k) out)) []
  | 0, k, out, h, hn => by omega
  | n + 1, k, out, h, hn => by
    rw [L13_0_succ]
    by_cases hk : k < l.length
    · rw [idx_lt hk, idx_0, idx_lt hk, toNat_k, wrapS k (by omega), drop_getD l k 0 hk]
      refine ret_cnd (fun h0 => Ret.leaf ?_) (fun h0 => ret_cnd (fun h1 => ?_) (fun h1 => ?_))
      · simp at h0; simp [orS, h0]
      · have := or_l fuel g l hl n (k + 1) 2 (by omega) (by omega)
        simp at h0 h1
        simpa [orS, h0, h1] using this
      · have := or_l fuel g l hl n (k + 1) out (by omega) (by omega)
        simp at h0 h1
        simpa [orS, h0, h1] using this
    · rw [idx_ge hk, List.drop_eq_nil_of_le (by omega)]
      exact Ret.leaf rfl
theorem or_run (g : Nat) (l : List Int) (hl : l.length ≤ maxLen) : Ret (F13 (l.length + 1) g normI l) 1 (.int .i64 (orL l)) [] := by
  rw [F13_eq]; exact or_l _ g l hl _ 0 0 (by omega) (by omega)
theorem join_l (fuel g : Nat) (a : Int) (l : List Int) (hl : l.length ≤ maxLen) : ∀ (n k : Nat), k ≤ l.length → l.length < k + n → Ret (L14_0 fuel g normI n a l (k : Int)) 1 (.int .i64 (joinS (normI a) (l.drop k))) []
  | 0, k, h, hn => by omega
  | n + 1, k, h, hn => by
    rw [L14_0_succ]
    by_cases hk : k < l.length
    · rw [idx_lt hk, idx_0, idx_lt hk, toNat_k, wrapS k (by omega), drop_getD l k 0 hk]
      refine ret_cnd (fun h0 => Ret.leaf ?_) (fun h0 => ?_)
      · simp at h0; simp [joinS, h0]
      · have := join_l fuel g a l hl n (k + 1) (by omega) (by omega)
        simp at h0
        simpa [joinS, h0] using this
    · rw [idx_ge hk, List.drop_eq_nil_of_le (by omega)]
      exact Ret.leaf rfl
theorem join_run (g : Nat) (a : Int) (l : List Int) (hl : l.length ≤ maxLen) : Ret (F14 (l.length + 1) g normI a l) 1 (.int .i64 (joinL a l)) [] := by
  rw [F14_eq]; exact join_l _ g a l hl _ 0 (by omega) (by omega)
/-! more of them -/
def saidI (t : Int) (a b : Bool) : Bool := (allowsI t false == a) && (allowsI t true == b)
theorem said_run (fuel g : Nat) (t : Int) (a b : Bool) : Ret (F11 fuel g allowsI t a b) 0 (.bool (saidI t a b)) [] := by
  rw [F11_eq]
  refine ret_cnd (fun h => Ret.leaf ?_) (fun h => Ret.leaf ?_)
  all_goals simp_all [saidI]
def textI (a : Int) : ByteArray := if normI a = 0 then ⟨#[48]⟩ else if normI a = 1 then ⟨#[49]⟩ else ⟨#[88]⟩
theorem text_run (fuel g : Nat) (a : Int) : Ret (F26 fuel g normI a) 0 (.str (textI a)) [] := by
  rw [F26_eq]
  unfold textI
  rcases normI_cases a with h | h | h <;> rw [h] <;> exact Ret.leaf (by kernel_rfl)
theorem reftext_run (fuel g : Nat) (a : Int) : Ret (F23 fuel g normI a) 0 (.str (textI a)) [] := by
  rw [F23_eq]
  unfold textI
  rcases normI_cases a with h | h | h <;> rw [h] <;> exact Ret.leaf rfl
theorem refnot_run (fuel g : Nat) (a : Int) : Ret (F25 fuel g normI a) 0 (.int .i64 (notI a)) [] := by
  rw [F25_eq]
  have hn : notI a = notI (normI a) := by
    unfold notI normI; split
    · simp_all
    · split <;> simp_all
  rw [hn]
  rcases normI_cases a with h | h | h <;> rw [h] <;> exact Ret.leaf rfl
theorem one_list (c : UInt8) : (⟨#[c]⟩ : ByteArray).toList = [c] := by
  unfold ByteArray.toList
  rw [ByteArray.toList.loop, if_pos (by show 0 < 1; omega), ByteArray.toList.loop, if_neg (by show ¬ 0 + 1 < 1; omega)]
  rfl
theorem first_run (fuel g : Nat) : Ret (F9 fuel g andL notI textI) 0 (.bool true) [] := by
  rw [F9_eq]
  have h1 : (andL [(1 : Int), (2 : Int)] == (2 : Int)) = true := by decide
  have h2 : (notI (0 : Int) == (1 : Int)) = true := by decide
  have h3 : textI 1 = ⟨#[49]⟩ := rfl
  rw [cnd_t h1, cnd_t h2, h3]
  simp only [beq_self_eq_true]
  exact Ret.leaf rfl
def readI (s : ByteArray) : Int × Int := if s.toList = [48] then (0, 0) else if s.toList = [49] then (1, 0) else if s.toList = [88] then (2, 0) else (0, 40)
theorem text_0 : (textI 0).toList = [48] := one_list 48
theorem text_1 : (textI 1).toList = [49] := one_list 49
theorem text_2 : (textI 2).toList = [88] := one_list 88
theorem read_run (g : Nat) (s : ByteArray) : Ret (F22 4 g textI s) 0 (.tup [.int .i64 (readI s).1, .int .i64 (readI s).2]) [] := by
  rw [F22_eq, L22_0_succ, L22_0_succ, L22_0_succ, L22_0_succ]
  have w0 : IntKind.i64.wrap ((0 : Int) + (1 : Int)) = 1 := by decide +kernel
  have w1 : IntKind.i64.wrap ((1 : Int) + (1 : Int)) = 2 := by decide +kernel
  have w2 : IntKind.i64.wrap ((2 : Int) + (1 : Int)) = 3 := by decide +kernel
  have g0 : List.getD [(0 : Int), (1 : Int), (2 : Int)] (0 + Int.toNat 0) 0 = 0 := rfl
  have g1 : List.getD [(0 : Int), (1 : Int), (2 : Int)] (0 + Int.toNat 1) 0 = 1 := rfl
  have g2 : List.getD [(0 : Int), (1 : Int), (2 : Int)] (0 + Int.toNat 2) 0 = 2 := rfl
  rw [w0, w1, w2, g0, g1, g2, text_0, text_1, text_2]
  unfold readI
  by_cases h0 : s.toList = [48]
  · rw [h0]; exact Ret.leaf rfl
  · by_cases h1 : s.toList = [49]
    · rw [h1]; exact Ret.leaf rfl
    · by_cases h2 : s.toList = [88]
      · rw [h2]; exact Ret.leaf rfl
      · rw [if_neg h0, if_neg h1, if_neg h2]
        have e0 : (([48] : List UInt8) == s.toList) = false := by simp; exact fun h => h0 h.symm
        have e1 : (([49] : List UInt8) == s.toList) = false := by simp; exact fun h => h1 h.symm
        have e2 : (([88] : List UInt8) == s.toList) = false := by simp; exact fun h => h2 h.symm
        rw [e0, e1, e2]
        exact Ret.leaf rfl
def bothP (t : List Int) (a b : Int) : Bool := decide (9 ≤ t.length)
def bothI (t : List Int) (a b : Int) : Int := t.getD (3 * normI a + normI b).toNat 0
theorem both_run (fuel g : Nat) (t : List Int) (a b : Int) (h : bothP t a b = true) : Ret (F28 fuel g normI t a b) 1 (.int .i64 (bothI t a b)) [] := by
  rw [F28_eq]
  have hl : 9 ≤ t.length := of_decide_eq_true h
  have e : IntKind.i64.wrap (IntKind.i64.wrap (3 * normI a) + normI b) = 3 * normI a + normI b := by
    rcases normI_cases a with h | h | h <;> rcases normI_cases b with h' | h' | h' <;> rw [h, h'] <;> decide +kernel
  have h1 : 0 ≤ 3 * normI a + normI b := by rcases normI_cases a with h | h | h <;> rcases normI_cases b with h' | h' | h' <;> omega
  have h2 : 3 * normI a + normI b < ((t.length : Nat) : Int) := by rcases normI_cases a with h | h | h <;> rcases normI_cases b with h' | h' | h' <;> omega
  rw [e, cnd_pos h1, cnd_pos h2, Nat.zero_add]
  exact Ret.leaf rfl
def join2I (a b : Int) : Int := bothI [0, 2, 2, 2, 1, 2, 2, 2, 2] a b
def and2I (a b : Int) : Int := bothI [0, 0, 0, 0, 1, 2, 0, 2, 2] a b
def or2I (a b : Int) : Int := bothI [0, 1, 2, 1, 1, 1, 2, 1, 2] a b
theorem join2_run (fuel g : Nat) (a b : Int) : Ret (F15 fuel g bothP bothI a b) 0 (.int .i64 (join2I a b)) [] := by
  rw [F15_eq]; exact Ret.leaf rfl
theorem and2_run (fuel g : Nat) (a b : Int) : Ret (F29 fuel g bothP bothI a b) 0 (.int .i64 (and2I a b)) [] := by
  rw [F29_eq]; exact Ret.leaf rfl
theorem or2_run (fuel g : Nat) (a b : Int) : Ret (F30 fuel g bothP bothI a b) 0 (.int .i64 (or2I a b)) [] := by
  rw [F30_eq]; exact Ret.leaf rfl
def idL (l : List Int) : List Int := l
def intsP (l : List Int) : Bool := decide (l.length * 8 ≤ 140737488355328)
theorem ints_l (fuel g : Nat) (l : List Int) (hl : l.length * 8 ≤ 140737488355328) : ∀ (n k : Nat), k ≤ l.length → l.length < k + n → Ret (L17_0 fuel g n l k (k : Int) (l.take k)) 1 (.sl 1 0 l.length) [⟨true, 3, .col (.int .i64) l⟩]
  | 0, k, h, hn => by omega
  | n + 1, k, h, hn => by
    rw [L17_0_succ]
    by_cases hk : k < l.length
    · rw [idx_lt hk, idx_0, idx_lt hk, toNat_k, wrapS k (by unfold maxLen; omega), cnd_pos (by omega)]
      have := ints_l fuel g l hl n (k + 1) (by omega) (by omega)
      have e : List.take k (List.take k l) ++ [l.getD k 0] = l.take (k + 1) := by
        rw [List.take_take, Nat.min_self, List.take_add_one]
        simp [List.getD, hk]
      rw [e]; exact this
    · rw [idx_ge hk]
      obtain rfl : k = l.length := by omega
      rw [List.take_length]
      refine ⟨_, _, rfl, ?_⟩
      intro j r hj
      match j with
      | 0 => exact hj
      | j + 1 => simp at hj
theorem ints_run (g : Nat) (l : List Int) (h : intsP l = true) : Ret (F17 (l.length + 1) g l) 1 (.sl 1 0 (idL l).length) [⟨true, 3, .col (.int .i64) (idL l)⟩] := by
  rw [F17_eq]; exact ints_l _ g l (of_decide_eq_true h) _ 0 (by omega) (by omega)
def refAnd (l : List Int) : Int := l.foldl and2I 1
def refOr (l : List Int) : Int := l.foldl or2I 0
theorem refand_l (fuel g : Nat) (l : List Int) (hl : l.length ≤ maxLen) : ∀ (n k : Nat) (out : Int), k ≤ l.length → l.length < k + n → Ret (L16_0 fuel g and2I n l out (k : Int)) 1 (.int .i64 ((l.drop k).foldl and2I out)) []
  | 0, k, out, h, hn => by omega
  | n + 1, k, out, h, hn => by
    rw [L16_0_succ]
    by_cases hk : k < l.length
    · rw [idx_lt hk, idx_0, idx_lt hk, toNat_k, wrapS k (by omega), drop_getD l k 0 hk]
      exact refand_l fuel g l hl n (k + 1) _ (by omega) (by omega)
    · rw [idx_ge hk, List.drop_eq_nil_of_le (by omega)]
      exact Ret.leaf rfl
theorem refand_run (g : Nat) (l : List Int) (hl : l.length ≤ maxLen) : Ret (F16 (l.length + 1) g and2I l) 1 (.int .i64 (refAnd l)) [] := by
  rw [F16_eq]; exact refand_l _ g l hl _ 0 1 (by omega) (by omega)
theorem refor_l (fuel g : Nat) (l : List Int) (hl : l.length ≤ maxLen) : ∀ (n k : Nat) (out : Int), k ≤ l.length → l.length < k + n → Ret (L18_0 fuel g or2I n l out (k : Int)) 1 (.int .i64 ((l.drop k).foldl or2I out)) []
  | 0, k, out, h, hn => by omega
  | n + 1, k, out, h, hn => by
    rw [L18_0_succ]
    by_cases hk : k < l.length
    · rw [idx_lt hk, idx_0, idx_lt hk, toNat_k, wrapS k (by omega), drop_getD l k 0 hk]
      exact refor_l fuel g l hl n (k + 1) _ (by omega) (by omega)
    · rw [idx_ge hk, List.drop_eq_nil_of_le (by omega)]
      exact Ret.leaf rfl
theorem refor_run (g : Nat) (l : List Int) (hl : l.length ≤ maxLen) : Ret (F18 (l.length + 1) g or2I l) 1 (.int .i64 (refOr l)) [] := by
  rw [F18_eq]; exact refor_l _ g l hl _ 0 0 (by omega) (by omega)
/-! validity -/
theorem mixed : Proofs.Try.prog.follows .mixedOrders = true := by kernel_rfl
theorem tok : TOK Proofs.Try.prog tab := tok_of tabL (by kernel_rfl) (fun x hx he => by
  revert he
  have : (tabL.all fun x => !x.2.eq) = true := by kernel_rfl
  rw [List.all_eq_true] at this
  have := this x hx
  intro he
  rw [he] at this
  cases this)
theorem valid21 : Valid Proofs.Try.prog [] 21 (e21 normI) := by
  refine valid_fn Proofs.Try.func21 (by kernel_rfl) (by decide +kernel) (rs := [.tmp 2]) (by kernel_rfl) mixed (by kernel_rfl) ?_
  rintro ⟨⟨p0, ⟨⟩⟩, ⟨⟩⟩ hlen hpre
  exact ⟨c21 0 1, tok, callOf_ok (l := []) (by
    intro x hx
    cases hx), callOf_par [], by kernel_rfl, by kernel_rfl, cast (by kernel_rfl) (norm_run 0 1 p0)⟩

theorem valid24 : Valid Proofs.Try.prog [] 24 (e24 normI) := by
  refine valid_fn Proofs.Try.func24 (by kernel_rfl) (by decide +kernel) (rs := [.tmp 2]) (by kernel_rfl) mixed (by kernel_rfl) ?_
  rintro ⟨⟨p0, ⟨⟩⟩, ⟨⟩⟩ hlen hpre
  exact ⟨c24 0 1, tok, callOf_ok (l := []) (by
    intro x hx
    cases hx), callOf_par [], by kernel_rfl, by kernel_rfl, cast (by kernel_rfl) (refnorm_run 0 1 p0)⟩

theorem valid20 : Valid Proofs.Try.prog [] 20 (e20 notI) := by
  refine valid_fn Proofs.Try.func20 (by kernel_rfl) (by decide +kernel) (rs := [.tmp 2]) (by kernel_rfl) mixed (by kernel_rfl) ?_
  rintro ⟨⟨p0, ⟨⟩⟩, ⟨⟩⟩ hlen hpre
  exact ⟨c20 0 1, tok, callOf_ok (l := []) (by
    intro x hx
    cases hx), callOf_par [], by kernel_rfl, by kernel_rfl, cast (by kernel_rfl) (not_run 0 1 p0)⟩

theorem valid27 : Valid Proofs.Try.prog [] 27 (e27 ofB) := by
  refine valid_fn Proofs.Try.func27 (by kernel_rfl) (by decide +kernel) (rs := [.tmp 2]) (by kernel_rfl) mixed (by kernel_rfl) ?_
  rintro ⟨⟨p0, ⟨⟩⟩, ⟨⟩⟩ hlen hpre
  exact ⟨c27 0 1, tok, callOf_ok (l := []) (by
    intro x hx
    cases hx), callOf_par [], by kernel_rfl, by kernel_rfl, cast (by kernel_rfl) (of_run 0 1 p0)⟩

theorem valid10 : Valid Proofs.Try.prog [] 10 (e10 allowsI) := by
  refine valid_fn Proofs.Try.func10 (by kernel_rfl) (by decide +kernel) (rs := [.tmp 4]) (by kernel_rfl) mixed (by kernel_rfl) ?_
  rintro ⟨⟨p0, ⟨⟩⟩, ⟨⟨p1, ⟨⟩⟩, ⟨⟩⟩⟩ hlen hpre
  exact ⟨c10 0 1 normI ofB, tok, callOf_ok (l := [(21, e21 normI), (27, e27 ofB)]) (by
    intro x hx
    rcases List.mem_cons.1 hx with rfl | hx
    · exact valid21
    rcases List.mem_cons.1 hx with rfl | hx
    · exact valid27
    cases hx), callOf_par [(21, e21 normI), (27, e27 ofB)], by kernel_rfl, by kernel_rfl, cast (by kernel_rfl) (allows_run 0 1 p0 p1)⟩

theorem valid19 : Valid Proofs.Try.prog [] 19 (e19 belowI) := by
  refine valid_fn Proofs.Try.func19 (by kernel_rfl) (by decide +kernel) (rs := [.tmp 4]) (by kernel_rfl) mixed (by kernel_rfl) ?_
  rintro ⟨⟨p0, ⟨⟩⟩, ⟨⟨p1, ⟨⟩⟩, ⟨⟩⟩⟩ hlen hpre
  exact ⟨c19 0 1 normI, tok, callOf_ok (l := [(21, e21 normI)]) (by
    intro x hx
    rcases List.mem_cons.1 hx with rfl | hx
    · exact valid21
    cases hx), callOf_par [(21, e21 normI)], by kernel_rfl, by kernel_rfl, cast (by kernel_rfl) (below_run 0 1 p0 p1)⟩

theorem valid12 : Valid Proofs.Try.prog [] 12 (e12 andL) := by
  refine valid_fn Proofs.Try.func12 (by kernel_rfl) (by decide +kernel) (rs := [.tmp 2]) (by kernel_rfl) mixed (by kernel_rfl) ?_
  rintro ⟨⟨p0, ⟨⟩⟩, ⟨⟩⟩ hlen hpre
  exact ⟨c12 (List.length p0 + 1) 1 normI, tok, callOf_ok (l := [(21, e21 normI)]) (by
    intro x hx
    rcases List.mem_cons.1 hx with rfl | hx
    · exact valid21
    cases hx), callOf_par [(21, e21 normI)], by kernel_rfl, by kernel_rfl, cast (by kernel_rfl) (and_run 1 p0 hlen.1.1)⟩

theorem valid13 : Valid Proofs.Try.prog [] 13 (e13 orL) := by
  refine valid_fn Proofs.Try.func13 (by kernel_rfl) (by decide +kernel) (rs := [.tmp 2]) (by kernel_rfl) mixed (by kernel_rfl) ?_
  rintro ⟨⟨p0, ⟨⟩⟩, ⟨⟩⟩ hlen hpre
  exact ⟨c13 (List.length p0 + 1) 1 normI, tok, callOf_ok (l := [(21, e21 normI)]) (by
    intro x hx
    rcases List.mem_cons.1 hx with rfl | hx
    · exact valid21
    cases hx), callOf_par [(21, e21 normI)], by kernel_rfl, by kernel_rfl, cast (by kernel_rfl) (or_run 1 p0 hlen.1.1)⟩

theorem valid14 : Valid Proofs.Try.prog [] 14 (e14 joinL) := by
  refine valid_fn Proofs.Try.func14 (by kernel_rfl) (by decide +kernel) (rs := [.tmp 4]) (by kernel_rfl) mixed (by kernel_rfl) ?_
  rintro ⟨⟨p0, ⟨⟩⟩, ⟨⟨p1, ⟨⟩⟩, ⟨⟩⟩⟩ hlen hpre
  exact ⟨c14 (List.length p1 + 1) 1 normI, tok, callOf_ok (l := [(21, e21 normI)]) (by
    intro x hx
    rcases List.mem_cons.1 hx with rfl | hx
    · exact valid21
    cases hx), callOf_par [(21, e21 normI)], by kernel_rfl, by kernel_rfl, cast (by kernel_rfl) (join_run 1 p0 p1 hlen.2.1.1)⟩

theorem valid11 : Valid Proofs.Try.prog [] 11 (e11 saidI) := by
  refine valid_fn Proofs.Try.func11 (by kernel_rfl) (by decide +kernel) (rs := [.tmp 4]) (by kernel_rfl) mixed (by kernel_rfl) ?_
  rintro ⟨⟨p0, ⟨⟩⟩, ⟨⟨p1_0, ⟨p1_1, ⟨⟩⟩⟩, ⟨⟩⟩⟩ hlen hpre
  exact ⟨c11 0 1 allowsI, tok, callOf_ok (l := [(10, e10 allowsI)]) (by
    intro x hx
    rcases List.mem_cons.1 hx with rfl | hx
    · exact valid10
    cases hx), callOf_par [(10, e10 allowsI)], by kernel_rfl, by kernel_rfl, cast (by kernel_rfl) (said_run 0 1 p0 p1_0 p1_1)⟩

theorem valid26 : Valid Proofs.Try.prog [] 26 (e26 textI) := by
  refine valid_fn Proofs.Try.func26 (by kernel_rfl) (by decide +kernel) (rs := [.tmp 2]) (by kernel_rfl) mixed (by kernel_rfl) ?_
  rintro ⟨⟨p0, ⟨⟩⟩, ⟨⟩⟩ hlen hpre
  exact ⟨c26 0 1 normI, tok, callOf_ok (l := [(21, e21 normI)]) (by
    intro x hx
    rcases List.mem_cons.1 hx with rfl | hx
    · exact valid21
    cases hx), callOf_par [(21, e21 normI)], by kernel_rfl, by kernel_rfl, cast (by kernel_rfl) (text_run 0 1 p0)⟩

theorem valid23 : Valid Proofs.Try.prog [] 23 (e23 textI) := by
  refine valid_fn Proofs.Try.func23 (by kernel_rfl) (by decide +kernel) (rs := [.tmp 2]) (by kernel_rfl) mixed (by kernel_rfl) ?_
  rintro ⟨⟨p0, ⟨⟩⟩, ⟨⟩⟩ hlen hpre
  exact ⟨c23 0 1 normI, tok, callOf_ok (l := [(24, e24 normI)]) (by
    intro x hx
    rcases List.mem_cons.1 hx with rfl | hx
    · exact valid24
    cases hx), callOf_par [(24, e24 normI)], by kernel_rfl, by kernel_rfl, cast (by kernel_rfl) (reftext_run 0 1 p0)⟩

theorem valid25 : Valid Proofs.Try.prog [] 25 (e25 notI) := by
  refine valid_fn Proofs.Try.func25 (by kernel_rfl) (by decide +kernel) (rs := [.tmp 2]) (by kernel_rfl) mixed (by kernel_rfl) ?_
  rintro ⟨⟨p0, ⟨⟩⟩, ⟨⟩⟩ hlen hpre
  exact ⟨c25 0 1 normI, tok, callOf_ok (l := [(24, e24 normI)]) (by
    intro x hx
    rcases List.mem_cons.1 hx with rfl | hx
    · exact valid24
    cases hx), callOf_par [(24, e24 normI)], by kernel_rfl, by kernel_rfl, cast (by kernel_rfl) (refnot_run 0 1 p0)⟩

theorem valid9 : Valid Proofs.Try.prog [] 9 (e9 true) := by
  refine valid_fn Proofs.Try.func9 (by kernel_rfl) (by decide +kernel) (rs := [.tmp 0]) (by kernel_rfl) mixed (by kernel_rfl) ?_
  rintro ⟨⟩ hlen hpre
  exact ⟨c9 0 1 andL notI textI, tok, callOf_ok (l := [(12, e12 andL), (20, e20 notI), (26, e26 textI)]) (by
    intro x hx
    rcases List.mem_cons.1 hx with rfl | hx
    · exact valid12
    rcases List.mem_cons.1 hx with rfl | hx
    · exact valid20
    rcases List.mem_cons.1 hx with rfl | hx
    · exact valid26
    cases hx), callOf_par [(12, e12 andL), (20, e20 notI), (26, e26 textI)], by kernel_rfl, by kernel_rfl, cast (by kernel_rfl) (first_run 0 1)⟩

theorem valid22 : Valid Proofs.Try.prog [] 22 (e22 readI) := by
  refine valid_fn Proofs.Try.func22 (by kernel_rfl) (by decide +kernel) (rs := [.tmp 2, .tmp 3]) (by kernel_rfl) mixed (by kernel_rfl) ?_
  rintro ⟨⟨p0, ⟨⟩⟩, ⟨⟩⟩ hlen hpre
  exact ⟨c22 4 1 textI, tok, callOf_ok (l := [(26, e26 textI)]) (by
    intro x hx
    rcases List.mem_cons.1 hx with rfl | hx
    · exact valid26
    cases hx), callOf_par [(26, e26 textI)], by kernel_rfl, by kernel_rfl, cast (by kernel_rfl) (read_run 1 p0)⟩

theorem valid28 : Valid Proofs.Try.prog [] 28 (e28 bothP bothI) := by
  refine valid_fn Proofs.Try.func28 (by kernel_rfl) (by decide +kernel) (rs := [.tmp 6]) (by kernel_rfl) mixed (by kernel_rfl) ?_
  rintro ⟨⟨p0, ⟨⟩⟩, ⟨⟨p1, ⟨⟩⟩, ⟨⟨p2, ⟨⟩⟩, ⟨⟩⟩⟩⟩ hlen hpre
  exact ⟨c28 0 1 normI, tok, callOf_ok (l := [(24, e24 normI)]) (by
    intro x hx
    rcases List.mem_cons.1 hx with rfl | hx
    · exact valid24
    cases hx), callOf_par [(24, e24 normI)], by kernel_rfl, by kernel_rfl, cast (by kernel_rfl) (both_run 0 1 p0 p1 p2 hpre)⟩

theorem valid15 : Valid Proofs.Try.prog [] 15 (e15 join2I) := by
  refine valid_fn Proofs.Try.func15 (by kernel_rfl) (by decide +kernel) (rs := [.tmp 4]) (by kernel_rfl) mixed (by kernel_rfl) ?_
  rintro ⟨⟨p0, ⟨⟩⟩, ⟨⟨p1, ⟨⟩⟩, ⟨⟩⟩⟩ hlen hpre
  exact ⟨c15 0 1 bothP bothI, tok, callOf_ok (l := [(28, e28 bothP bothI)]) (by
    intro x hx
    rcases List.mem_cons.1 hx with rfl | hx
    · exact valid28
    cases hx), callOf_par [(28, e28 bothP bothI)], by kernel_rfl, by kernel_rfl, cast (by kernel_rfl) (join2_run 0 1 p0 p1)⟩

theorem valid29 : Valid Proofs.Try.prog [] 29 (e29 and2I) := by
  refine valid_fn Proofs.Try.func29 (by kernel_rfl) (by decide +kernel) (rs := [.tmp 4]) (by kernel_rfl) mixed (by kernel_rfl) ?_
  rintro ⟨⟨p0, ⟨⟩⟩, ⟨⟨p1, ⟨⟩⟩, ⟨⟩⟩⟩ hlen hpre
  exact ⟨c29 0 1 bothP bothI, tok, callOf_ok (l := [(28, e28 bothP bothI)]) (by
    intro x hx
    rcases List.mem_cons.1 hx with rfl | hx
    · exact valid28
    cases hx), callOf_par [(28, e28 bothP bothI)], by kernel_rfl, by kernel_rfl, cast (by kernel_rfl) (and2_run 0 1 p0 p1)⟩

theorem valid30 : Valid Proofs.Try.prog [] 30 (e30 or2I) := by
  refine valid_fn Proofs.Try.func30 (by kernel_rfl) (by decide +kernel) (rs := [.tmp 4]) (by kernel_rfl) mixed (by kernel_rfl) ?_
  rintro ⟨⟨p0, ⟨⟩⟩, ⟨⟨p1, ⟨⟩⟩, ⟨⟩⟩⟩ hlen hpre
  exact ⟨c30 0 1 bothP bothI, tok, callOf_ok (l := [(28, e28 bothP bothI)]) (by
    intro x hx
    rcases List.mem_cons.1 hx with rfl | hx
    · exact valid28
    cases hx), callOf_par [(28, e28 bothP bothI)], by kernel_rfl, by kernel_rfl, cast (by kernel_rfl) (or2_run 0 1 p0 p1)⟩

theorem valid17 : Valid Proofs.Try.prog [] 17 (e17 intsP idL) := by
  refine valid_fn Proofs.Try.func17 (by kernel_rfl) (by decide +kernel) (rs := [.tmp 2]) (by kernel_rfl) mixed (by kernel_rfl) ?_
  rintro ⟨⟨p0, ⟨⟩⟩, ⟨⟩⟩ hlen hpre
  exact ⟨c17 (List.length p0 + 1) 1, tok, callOf_ok (l := []) (by
    intro x hx
    cases hx), callOf_par [], by kernel_rfl, by kernel_rfl, cast (by kernel_rfl) (ints_run 1 p0 hpre)⟩

theorem valid16 : Valid Proofs.Try.prog [] 16 (e16 refAnd) := by
  refine valid_fn Proofs.Try.func16 (by kernel_rfl) (by decide +kernel) (rs := [.tmp 2]) (by kernel_rfl) mixed (by kernel_rfl) ?_
  rintro ⟨⟨p0, ⟨⟩⟩, ⟨⟩⟩ hlen hpre
  exact ⟨c16 (List.length p0 + 1) 1 and2I, tok, callOf_ok (l := [(29, e29 and2I)]) (by
    intro x hx
    rcases List.mem_cons.1 hx with rfl | hx
    · exact valid29
    cases hx), callOf_par [(29, e29 and2I)], by kernel_rfl, by kernel_rfl, cast (by kernel_rfl) (refand_run 1 p0 hlen.1.1)⟩

theorem valid18 : Valid Proofs.Try.prog [] 18 (e18 refOr) := by
  refine valid_fn Proofs.Try.func18 (by kernel_rfl) (by decide +kernel) (rs := [.tmp 2]) (by kernel_rfl) mixed (by kernel_rfl) ?_
  rintro ⟨⟨p0, ⟨⟩⟩, ⟨⟩⟩ hlen hpre
  exact ⟨c18 (List.length p0 + 1) 1 or2I, tok, callOf_ok (l := [(30, e30 or2I)]) (by
    intro x hx
    rcases List.mem_cons.1 hx with rfl | hx
    · exact valid30
    cases hx), callOf_par [(30, e30 or2I)], by kernel_rfl, by kernel_rfl, cast (by kernel_rfl) (refor_run 1 p0 hlen.1.1)⟩
end Go.Vm
set_option linter.unusedVariables false
namespace Go.Vm
open Go
theorem bit_0_1 : (andI .i64 (0 : Int) (1 : Int) == (1 : Int)) = false := by decide +kernel
theorem bit_0_2 : (andI .i64 (0 : Int) (2 : Int) == (2 : Int)) = false := by decide +kernel
theorem bit_0_4 : (andI .i64 (0 : Int) (4 : Int) == (4 : Int)) = false := by decide +kernel
theorem wr_0 : IntKind.i64.wrap ((0 : Int) + (1 : Int)) = (1 : Int) := by decide +kernel
theorem bit_1_1 : (andI .i64 (1 : Int) (1 : Int) == (1 : Int)) = true := by decide +kernel
theorem bit_1_2 : (andI .i64 (1 : Int) (2 : Int) == (2 : Int)) = false := by decide +kernel
theorem bit_1_4 : (andI .i64 (1 : Int) (4 : Int) == (4 : Int)) = false := by decide +kernel
theorem wr_1 : IntKind.i64.wrap ((1 : Int) + (1 : Int)) = (2 : Int) := by decide +kernel
theorem bit_2_1 : (andI .i64 (2 : Int) (1 : Int) == (1 : Int)) = false := by decide +kernel
theorem bit_2_2 : (andI .i64 (2 : Int) (2 : Int) == (2 : Int)) = true := by decide +kernel
theorem bit_2_4 : (andI .i64 (2 : Int) (4 : Int) == (4 : Int)) = false := by decide +kernel
theorem wr_2 : IntKind.i64.wrap ((2 : Int) + (1 : Int)) = (3 : Int) := by decide +kernel
theorem bit_3_1 : (andI .i64 (3 : Int) (1 : Int) == (1 : Int)) = true := by decide +kernel
theorem bit_3_2 : (andI .i64 (3 : Int) (2 : Int) == (2 : Int)) = true := by decide +kernel
theorem bit_3_4 : (andI .i64 (3 : Int) (4 : Int) == (4 : Int)) = false := by decide +kernel
theorem wr_3 : IntKind.i64.wrap ((3 : Int) + (1 : Int)) = (4 : Int) := by decide +kernel
theorem bit_4_1 : (andI .i64 (4 : Int) (1 : Int) == (1 : Int)) = false := by decide +kernel
theorem bit_4_2 : (andI .i64 (4 : Int) (2 : Int) == (2 : Int)) = false := by decide +kernel
theorem bit_4_4 : (andI .i64 (4 : Int) (4 : Int) == (4 : Int)) = true := by decide +kernel
theorem wr_4 : IntKind.i64.wrap ((4 : Int) + (1 : Int)) = (5 : Int) := by decide +kernel
theorem bit_5_1 : (andI .i64 (5 : Int) (1 : Int) == (1 : Int)) = true := by decide +kernel
theorem bit_5_2 : (andI .i64 (5 : Int) (2 : Int) == (2 : Int)) = false := by decide +kernel
theorem bit_5_4 : (andI .i64 (5 : Int) (4 : Int) == (4 : Int)) = true := by decide +kernel
theorem wr_5 : IntKind.i64.wrap ((5 : Int) + (1 : Int)) = (6 : Int) := by decide +kernel
theorem bit_6_1 : (andI .i64 (6 : Int) (1 : Int) == (1 : Int)) = false := by decide +kernel
theorem bit_6_2 : (andI .i64 (6 : Int) (2 : Int) == (2 : Int)) = true := by decide +kernel
theorem bit_6_4 : (andI .i64 (6 : Int) (4 : Int) == (4 : Int)) = true := by decide +kernel
theorem wr_6 : IntKind.i64.wrap ((6 : Int) + (1 : Int)) = (7 : Int) := by decide +kernel
theorem bit_7_1 : (andI .i64 (7 : Int) (1 : Int) == (1 : Int)) = true := by decide +kernel
theorem bit_7_2 : (andI .i64 (7 : Int) (2 : Int) == (2 : Int)) = true := by decide +kernel
theorem bit_7_4 : (andI .i64 (7 : Int) (4 : Int) == (4 : Int)) = true := by decide +kernel
theorem wr_7 : IntKind.i64.wrap ((7 : Int) + (1 : Int)) = (8 : Int) := by decide +kernel
theorem cnd_not {R : Type} (x y : R) : cnd (!true) x y = y := rfl
theorem bool_chain {b : Bool} {x y : Option Out} {v : V} {base : Nat} {new : List Row} (hb : b = true) (h : Ret x base v new) : Ret (cnd b x y) base v new := by rw [hb]; exact h
theorem joinL_one (a b : Int) : joinL a [b] = join2I a b := by
  unfold joinL joinS join2I bothI
  rcases normI_cases a with h | h | h <;> rcases normI_cases b with h' | h' | h' <;> simp [h, h']
theorem joinL_nil (a : Int) : joinL a [] = normI a := by simp [joinL, joinS]
/-! TriTables -/
theorem tables_tail (g n : Nat) (a b : Int) (s : ByteArray) (want why : Int) (h1 : (readI s).1 = want) (h2 : (readI s).2 = why) :
    Ret (L8_0 4 g true readI textI normI normI notI notI joinL join2I belowI textI ofB allowsI (n + 1) a b s want why 3) 0 (.bool true) [] := by
  rw [L8_0_succ, cnd_neg (by decide)]
  refine bool_chain (by simp) (bool_chain (by simp) (bool_chain (by simp [joinL_one]) (bool_chain (by simp [joinL_nil]) ?_)))
  have last : Ret (some (.bool (allowsI a false == (normI a != 1)), ofM [], 0)) 0 (.bool true) [] := by
    refine Ret.leaf ?_
    unfold allowsI
    rcases normI_cases a with h | h | h <;> rw [h] <;> rfl
  have al : (allowsI a true == (normI a != (0 : Int))) = true := by
    unfold allowsI
    rcases normI_cases a with h | h | h <;> rw [h] <;> rfl
  refine ret_cnd (fun hb => ?_) (fun hb => ?_)
  · refine bool_chain (by simp at hb; simp [belowI, hb]) ?_
    refine bool_chain (by simp) (bool_chain (by simp [h1]) (bool_chain (by simp [h2]) (bool_chain rfl (bool_chain rfl (bool_chain al last)))))
  · refine bool_chain (by simp at hb; simp [belowI, hb]) ?_
    refine bool_chain (by simp) (bool_chain (by simp [h1]) (bool_chain (by simp [h2]) (bool_chain rfl (bool_chain rfl (bool_chain al last)))))
theorem tables_run (g : Nat) (a b : Int) (s : ByteArray) : Ret (F8 4 g true readI textI normI normI notI notI joinL join2I belowI textI ofB allowsI a b s) 0 (.bool true) [] := by
  rw [F8_eq, cnd_not, L8_0_succ, cnd_pos (by decide), text_0, wr_0]
  have r := fun (l : List UInt8) => (show readI s = if s.toList = [48] then (0, 0) else if s.toList = [49] then (1, 0) else if s.toList = [88] then (2, 0) else (0, 40) from rfl)
  refine ret_cnd (fun h0 => ?_) (fun h0 => ?_)
  · have e : s.toList = [48] := by simpa using Eq.symm (by simpa using h0)
    rw [L8_0_succ, cnd_pos (by decide), text_1, wr_1, cnd_f (by rw [e]; rfl), L8_0_succ, cnd_pos (by decide), text_2, wr_2, cnd_f (by rw [e]; rfl)]
    exact tables_tail g 0 a b s 0 0 (by rw [r [], if_pos e]) (by rw [r [], if_pos e])
  · have e0 : ¬ s.toList = [48] := by intro e; rw [e] at h0; simp at h0
    rw [L8_0_succ, cnd_pos (by decide), text_1, wr_1]
    refine ret_cnd (fun h1 => ?_) (fun h1 => ?_)
    · have e : s.toList = [49] := by simpa using Eq.symm (by simpa using h1)
      rw [L8_0_succ, cnd_pos (by decide), text_2, wr_2, cnd_f (by rw [e]; rfl)]
      exact tables_tail g 0 a b s 1 0 (by rw [r [], if_neg e0, if_pos e]) (by rw [r [], if_neg e0, if_pos e])
    · have e1 : ¬ s.toList = [49] := by intro e; rw [e] at h1; simp at h1
      rw [L8_0_succ, cnd_pos (by decide), text_2, wr_2]
      refine ret_cnd (fun h2 => ?_) (fun h2 => ?_)
      · have e : s.toList = [88] := by simpa using Eq.symm (by simpa using h2)
        exact tables_tail g 0 a b s 2 0 (by rw [r [], if_neg e0, if_neg e1, if_pos e]) (by rw [r [], if_neg e0, if_neg e1, if_pos e])
      · have e2 : ¬ s.toList = [88] := by intro e; rw [e] at h2; simp at h2
        exact tables_tail g 0 a b s 0 40 (by rw [r [], if_neg e0, if_neg e1, if_neg e2]) (by rw [r [], if_neg e0, if_neg e1, if_neg e2])
theorem lt8_0 : decide ((0 : Int) < (8 : Int)) = true := rfl
theorem lt8_1 : decide ((1 : Int) < (8 : Int)) = true := rfl
theorem lt8_2 : decide ((2 : Int) < (8 : Int)) = true := rfl
theorem lt8_3 : decide ((3 : Int) < (8 : Int)) = true := rfl
theorem lt8_4 : decide ((4 : Int) < (8 : Int)) = true := rfl
theorem lt8_5 : decide ((5 : Int) < (8 : Int)) = true := rfl
theorem lt8_6 : decide ((6 : Int) < (8 : Int)) = true := rfl
theorem lt8_7 : decide ((7 : Int) < (8 : Int)) = true := rfl
theorem lt8_8 : decide ((8 : Int) < (8 : Int)) = false := rfl
theorem eq_00 : ((0 : Int) == (0 : Int)) = true := rfl
theorem eq_10 : ((1 : Int) == (0 : Int)) = false := rfl
theorem eq_11 : ((1 : Int) == (1 : Int)) = true := rfl
/-! TriExact -/
theorem exact_run (a b c : Int) : Ret (F3 9 1 true allowsI andL saidI orL a b c) 0 (.bool true) [] := by
  have al : ∀ x, (normI x = 0 → allowsI x true = false ∧ allowsI x false = true) ∧ (normI x = 1 → allowsI x true = true ∧ allowsI x false = false) ∧ (normI x = 2 → allowsI x true = true ∧ allowsI x false = true) := by
    intro x
    unfold allowsI
    exact ⟨fun h => by rw [h]; exact ⟨rfl, rfl⟩, fun h => by rw [h]; exact ⟨rfl, rfl⟩, fun h => by rw [h]; exact ⟨rfl, rfl⟩⟩
  rw [F3_eq, cnd_not]
  rcases normI_cases a with ha | ha | ha <;> rcases normI_cases b with hb | hb | hb <;> rcases normI_cases c with hc | hc | hc
  all_goals
    have xa := al a; have xb := al b; have xc := al c
    simp only [ha, hb, hc] at xa xb xc
    simp at xa xb xc
    simp only [L3_0_succ, J3_1_eq, bit_0_1, bit_0_2, bit_0_4, bit_1_1, bit_1_2, bit_1_4, bit_2_1, bit_2_2, bit_2_4, bit_3_1, bit_3_2, bit_3_4, bit_4_1, bit_4_2, bit_4_4, bit_5_1, bit_5_2, bit_5_4, bit_6_1, bit_6_2, bit_6_4, bit_7_1, bit_7_2, bit_7_4, wr_0, wr_1, wr_2, wr_3, wr_4, wr_5, wr_6, wr_7, xa.1, xa.2, xb.1, xb.2, xc.1, xc.2, cnd_true, cnd_false, Bool.not_true, Bool.not_false, lt8_0, lt8_1, lt8_2, lt8_3, lt8_4, lt8_5, lt8_6, lt8_7, lt8_8, eq_00, eq_10, eq_11]
    refine bool_chain ?_ (Ret.leaf ?_)
    all_goals simp [saidI, allowsI, andL, andS, orL, orS, ha, hb, hc, normI_0, normI_1, normI_2, ofB]
/-! TriLists -/
theorem and2_eq (o a : Int) (ho : o = 1 ∨ o = 2) : and2I o a = if normI a = 0 then 0 else if normI a = 2 then 2 else o := by
  unfold and2I bothI
  rcases ho with rfl | rfl <;> rcases normI_cases a with h | h | h <;> rw [h] <;> rfl
theorem and2_0 (a : Int) : and2I 0 a = 0 := by
  unfold and2I bothI
  rcases normI_cases a with h | h | h <;> rw [h] <;> rfl
theorem refAnd_0 : ∀ l : List Int, l.foldl and2I 0 = 0
  | [] => rfl
  | a :: l => by simp only [List.foldl_cons, and2_0, refAnd_0 l]
theorem refAnd_eq : ∀ (l : List Int) (o : Int), o = 1 ∨ o = 2 → l.foldl and2I o = andS l o
  | [], o, _ => rfl
  | a :: l, o, h => by
    rw [List.foldl_cons, and2_eq o a h]
    by_cases h0 : normI a = 0
    · rw [if_pos h0, refAnd_0]; simp [andS, h0]
    · rw [if_neg h0]
      by_cases h2 : normI a = 2
      · rw [if_pos h2, refAnd_eq l 2 (.inr rfl)]; simp [andS, h2]
      · rw [if_neg h2, refAnd_eq l o h]; simp [andS, h0, h2]
theorem or2_eq (o a : Int) (ho : o = 0 ∨ o = 2) : or2I o a = if normI a = 1 then 1 else if normI a = 2 then 2 else o := by
  unfold or2I bothI
  rcases ho with rfl | rfl <;> rcases normI_cases a with h | h | h <;> rw [h] <;> rfl
theorem or2_1 (a : Int) : or2I 1 a = 1 := by
  unfold or2I bothI
  rcases normI_cases a with h | h | h <;> rw [h] <;> rfl
theorem refOr_1 : ∀ l : List Int, l.foldl or2I 1 = 1
  | [] => rfl
  | a :: l => by simp only [List.foldl_cons, or2_1, refOr_1 l]
theorem refOr_eq : ∀ (l : List Int) (o : Int), o = 0 ∨ o = 2 → l.foldl or2I o = orS l o
  | [], o, _ => rfl
  | a :: l, o, h => by
    rw [List.foldl_cons, or2_eq o a h]
    by_cases h0 : normI a = 1
    · rw [if_pos h0, refOr_1]; simp [orS, h0]
    · rw [if_neg h0]
      by_cases h2 : normI a = 2
      · rw [if_pos h2, refOr_eq l 2 (.inr rfl)]; simp [orS, h2]
      · rw [if_neg h2, refOr_eq l o h]; simp [orS, h0, h2]
theorem join2_2 (a : Int) : join2I 2 a = 2 := by
  unfold join2I bothI
  rcases normI_cases a with h | h | h <;> rw [h] <;> rfl
theorem refJoin_2 : ∀ l : List Int, l.foldl join2I 2 = 2
  | [] => rfl
  | a :: l => by simp only [List.foldl_cons, join2_2, refJoin_2 l]
theorem join2_eq (o a : Int) (ho : o = 0 ∨ o = 1) : join2I o a = if normI a = o then o else 2 := by
  unfold join2I bothI
  rcases ho with rfl | rfl <;> rcases normI_cases a with h | h | h <;> rw [h] <;> rfl
theorem refJoin_eq : ∀ (l : List Int) (o : Int), o = 0 ∨ o = 1 → l.foldl join2I o = joinS o l
  | [], o, _ => by simp [joinS]
  | a :: l, o, h => by
    rw [List.foldl_cons, join2_eq o a h]
    by_cases h0 : normI a = o
    · rw [if_pos h0, refJoin_eq l o h]; simp [joinS, h0]
    · rw [if_neg h0, refJoin_2]; simp [joinS, h0]
section
variable (l : List Int) (hl : l.length * 8 ≤ 140737488355328)
include hl
theorem lists_2 (fuel g : Nat) (ok : Bool) (h : ok = true) : ∀ (n k : Nat), k ≤ l.length → l.length < k + n → Ret (L4_1 fuel g true joinL join2I andL intsP idL refAnd orL refOr n l true ok (k : Int)) 0 (.bool true) []
  | 0, k, h, hn => by omega
  | n + 1, k, hk0, hn => by
    rw [L4_1_succ]
    simp only [Nat.zero_add, List.take_length, List.nil_append]
    by_cases hk : k < l.length
    · rw [idx_lt hk, cnd_true, idx_0, idx_lt hk, idx_0, idx_lt hk, wrapS k (by unfold maxLen; omega), beq_self_eq_true]
      exact lists_2 fuel g ok h n (k + 1) (by omega) (by omega)
    · rw [idx_ge hk, h]
      exact Ret.leaf rfl
theorem lists_1 (g : Nat) : ∀ (n k : Nat) (x : Int), k ≤ l.length → l.length < k + n → (l.drop k).foldl join2I x = joinL 1 l → Ret (L4_0 (l.length + 1) g true joinL join2I andL intsP idL refAnd orL refOr n l x (k : Int)) 0 (.bool true) []
  | 0, k, x, h, hn, _ => by omega
  | n + 1, k, x, hk0, hn, hx => by
    rw [L4_0_succ]
    simp only [Nat.zero_add, List.take_length, List.nil_append, show idL l = l from rfl]
    by_cases hk : k < l.length
    · rw [idx_lt hk, idx_0, idx_lt hk, wrapS k (by unfold maxLen; omega), Int.toNat_natCast]
      refine lists_1 g n (k + 1) _ (by omega) (by omega) ?_
      rw [drop_getD l k 0 hk] at hx
      exact hx
    · rw [idx_ge hk]
      rw [List.drop_eq_nil_of_le (by omega)] at hx
      have hp : intsP l = true := decide_eq_true hl
      have e1 : andL l = refAnd l := (refAnd_eq l 1 (.inl rfl)).symm
      have e2 : orL l = refOr l := (refOr_eq l 0 (.inl rfl)).symm
      simp only [hp, cnd_true, e1, e2, beq_self_eq_true]
      refine lists_2 l hl _ g _ ?_ _ 0 (by omega) (by omega)
      simpa using hx.symm
theorem lists_run (g : Nat) : Ret (F4 (l.length + 1) g true joinL join2I andL intsP idL refAnd orL refOr l) 0 (.bool true) [] := by
  rw [F4_eq, cnd_not]
  simp only [Nat.zero_add]
  rw [cnd_pos hl]
  exact lists_1 l hl g _ 0 1 (by omega) (by omega) (by rw [List.drop_zero, refJoin_eq l 1 (.inr rfl)]; rfl)
end
/-! TriSplits -/
theorem andS_app (a b : List Int) : andS (a ++ b) 1 = andS [andS a 1, andS b 1] 1 := by
  unfold andS
  simp only [List.any_append, List.any_cons, List.any_nil, Bool.or_false]
  cases a.any (fun a => normI a == 0) <;> cases b.any (fun a => normI a == 0) <;> cases a.any (fun a => normI a == 2) <;> cases b.any (fun a => normI a == 2) <;> rfl
theorem orS_app (a b : List Int) : orS (a ++ b) 0 = orS [orS a 0, orS b 0] 0 := by
  unfold orS
  simp only [List.any_append, List.any_cons, List.any_nil, Bool.or_false]
  cases a.any (fun a => normI a == 1) <;> cases b.any (fun a => normI a == 1) <;> cases a.any (fun a => normI a == 2) <;> cases b.any (fun a => normI a == 2) <;> rfl
theorem joinL_app (a b : List Int) : joinL 0 (a ++ b) = joinL (joinL 0 a) [joinL 0 b] := by
  unfold joinL joinS
  simp only [List.all_append, List.all_cons, List.all_nil, Bool.and_true, normI_0]
  have key : ∀ p q : Bool, (if (p && q) = true then (0 : Int) else 2) = if (normI (if q = true then 0 else 2) == normI (if p = true then 0 else 2)) = true then normI (if p = true then 0 else 2) else 2 := by
    intro p q; cases p <;> cases q <;> rfl
  exact key _ _
theorem splits_run (g : Nat) (a b : List Int) (h : (a.length + b.length) * 8 ≤ 140737488355328) : Ret (F5 0 g true andL orL joinL a b) 0 (.bool true) [] := by
  rw [F5_eq, cnd_not]
  simp only [Nat.zero_add, List.take_length, List.nil_append]
  have e : List.take (a.length + b.length) (a ++ b) = a ++ b := by rw [← List.length_append, List.take_length]
  rw [cnd_pos (by omega), cnd_pos h, e]
  refine bool_chain ?_ (bool_chain ?_ (Ret.leaf ?_))
  · simp only [andL, andS_app, beq_self_eq_true]
  · simp only [orL, orS_app, beq_self_eq_true]
  · rw [joinL_app, beq_self_eq_true]
end Go.Vm
namespace Go.Vm
open Go
theorem bytes22 : Proofs.Try.prog.bytesOf 22 = 8 := by kernel_rfl
theorem tri_len (l : List Int) (h : l.length * Proofs.Try.prog.bytesOf 22 ≤ reachBytes) : l.length * 8 ≤ 140737488355328 := by
  rw [bytes22] at h
  unfold reachBytes at h
  omega
theorem tri_len2 (a b : List Int) (h0 : a.length ≤ 1048576) (h1 : b.length ≤ 1048576) : (a.length + b.length) * 8 ≤ 140737488355328 := by omega
theorem lawrun3 : LawRun Proofs.Try.prog [] Proofs.Try.f3 [.tmp 6] none [(false, [.f (.int .i64)]), (false, [.f (.int .i64)]), (false, [.f (.int .i64)])] := by
  rintro ⟨⟨p0, ⟨⟩⟩, ⟨⟨p1, ⟨⟩⟩, ⟨⟨p2, ⟨⟩⟩, ⟨⟩⟩⟩⟩ hok
  exact ⟨c3 9 1 true allowsI andL saidI orL, tok, callOf_ok (l := [(9, e9 true), (10, e10 allowsI), (12, e12 andL), (11, e11 saidI), (13, e13 orL)]) (by
    intro x hx
    rcases List.mem_cons.1 hx with rfl | hx
    · exact valid9
    rcases List.mem_cons.1 hx with rfl | hx
    · exact valid10
    rcases List.mem_cons.1 hx with rfl | hx
    · exact valid12
    rcases List.mem_cons.1 hx with rfl | hx
    · exact valid11
    rcases List.mem_cons.1 hx with rfl | hx
    · exact valid13
    cases hx), callOf_par [(9, e9 true), (10, e10 allowsI), (12, e12 andL), (11, e11 saidI), (13, e13 orL)], by kernel_rfl, by kernel_rfl, cast (by kernel_rfl) (exact_run p0 p1 p2)⟩

theorem lawrun8 : LawRun Proofs.Try.prog [] Proofs.Try.f8 [.tmp 6] none [(false, [.f (.int .i64)]), (false, [.f (.int .i64)]), (false, [.f .str])] := by
  rintro ⟨⟨p0, ⟨⟩⟩, ⟨⟨p1, ⟨⟩⟩, ⟨⟨p2, ⟨⟩⟩, ⟨⟩⟩⟩⟩ hok
  exact ⟨c8 4 1 true readI textI normI normI notI notI joinL join2I belowI textI ofB allowsI, tok, callOf_ok (l := [(9, e9 true), (22, e22 readI), (23, e23 textI), (21, e21 normI), (24, e24 normI), (20, e20 notI), (25, e25 notI), (14, e14 joinL), (15, e15 join2I), (19, e19 belowI), (26, e26 textI), (27, e27 ofB), (10, e10 allowsI)]) (by
    intro x hx
    rcases List.mem_cons.1 hx with rfl | hx
    · exact valid9
    rcases List.mem_cons.1 hx with rfl | hx
    · exact valid22
    rcases List.mem_cons.1 hx with rfl | hx
    · exact valid23
    rcases List.mem_cons.1 hx with rfl | hx
    · exact valid21
    rcases List.mem_cons.1 hx with rfl | hx
    · exact valid24
    rcases List.mem_cons.1 hx with rfl | hx
    · exact valid20
    rcases List.mem_cons.1 hx with rfl | hx
    · exact valid25
    rcases List.mem_cons.1 hx with rfl | hx
    · exact valid14
    rcases List.mem_cons.1 hx with rfl | hx
    · exact valid15
    rcases List.mem_cons.1 hx with rfl | hx
    · exact valid19
    rcases List.mem_cons.1 hx with rfl | hx
    · exact valid26
    rcases List.mem_cons.1 hx with rfl | hx
    · exact valid27
    rcases List.mem_cons.1 hx with rfl | hx
    · exact valid10
    cases hx), callOf_par [(9, e9 true), (22, e22 readI), (23, e23 textI), (21, e21 normI), (24, e24 normI), (20, e20 notI), (25, e25 notI), (14, e14 joinL), (15, e15 join2I), (19, e19 belowI), (26, e26 textI), (27, e27 ofB), (10, e10 allowsI)], by kernel_rfl, by kernel_rfl, cast (by kernel_rfl) (tables_run 1 p0 p1 p2)⟩

theorem lawrun4 : LawRun Proofs.Try.prog [] Proofs.Try.f4 [.tmp 2] none [(false, [.s 22 [.int .i64]])] := by
  rintro ⟨⟨p0, ⟨⟩⟩, ⟨⟩⟩ hok
  exact ⟨c4 (List.length p0 + 1) 1 true joinL join2I andL intsP idL refAnd orL refOr, tok, callOf_ok (l := [(9, e9 true), (14, e14 joinL), (15, e15 join2I), (12, e12 andL), (17, e17 intsP idL), (16, e16 refAnd), (13, e13 orL), (18, e18 refOr)]) (by
    intro x hx
    rcases List.mem_cons.1 hx with rfl | hx
    · exact valid9
    rcases List.mem_cons.1 hx with rfl | hx
    · exact valid14
    rcases List.mem_cons.1 hx with rfl | hx
    · exact valid15
    rcases List.mem_cons.1 hx with rfl | hx
    · exact valid12
    rcases List.mem_cons.1 hx with rfl | hx
    · exact valid17
    rcases List.mem_cons.1 hx with rfl | hx
    · exact valid16
    rcases List.mem_cons.1 hx with rfl | hx
    · exact valid13
    rcases List.mem_cons.1 hx with rfl | hx
    · exact valid18
    cases hx), callOf_par [(9, e9 true), (14, e14 joinL), (15, e15 join2I), (12, e12 andL), (17, e17 intsP idL), (16, e16 refAnd), (13, e13 orL), (18, e18 refOr)], by kernel_rfl, by kernel_rfl, cast (by kernel_rfl) (lists_run p0 (tri_len p0 hok.1.1.2.1) 1)⟩

theorem lawrun5 : LawRun Proofs.Try.prog [] Proofs.Try.f5 [.tmp 4] (some 1048576) [(false, [.s 22 [.int .i64]]), (false, [.s 22 [.int .i64]])] := by
  rintro ⟨⟨p0, ⟨⟩⟩, ⟨⟨p1, ⟨⟩⟩, ⟨⟩⟩⟩ hok
  exact ⟨c5 0 1 true andL orL joinL, tok, callOf_ok (l := [(9, e9 true), (12, e12 andL), (13, e13 orL), (14, e14 joinL)]) (by
    intro x hx
    rcases List.mem_cons.1 hx with rfl | hx
    · exact valid9
    rcases List.mem_cons.1 hx with rfl | hx
    · exact valid12
    rcases List.mem_cons.1 hx with rfl | hx
    · exact valid13
    rcases List.mem_cons.1 hx with rfl | hx
    · exact valid14
    cases hx), callOf_par [(9, e9 true), (12, e12 andL), (13, e13 orL), (14, e14 joinL)], by kernel_rfl, by kernel_rfl, cast (by kernel_rfl) (splits_run 1 p0 p1 (tri_len2 p0 p1 (hok.1.1.2.2.1 1048576 rfl) (hok.2.1.1.2.2.1 1048576 rfl)))⟩
end Go.Vm
