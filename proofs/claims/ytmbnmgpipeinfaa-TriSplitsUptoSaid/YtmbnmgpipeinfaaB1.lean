/- What the bound of the second form gives, as the machine asks for it. -/
import Derived.Test.YtmbnmgpipeinfaaBulk
import Derived.Test.YtmbnmgpipeinfaaV3
namespace Go.Proofs.Ytmbnmgpipeinfaa
open Go.Vm
theorem bulk_parts {H : Type} {parts : List (DataW H)} {d : DataW H} (h : d ∈ parts) (hb : Rows.uptoBulk (.agg parts) ≤ 1048576) : Rows.uptoBulk d ≤ 1048576 := by
  have : Rows.uptoBulk d ≤ Rows.uptoBulkAll parts := by
    clear hb
    induction parts with
    | nil => cases h
    | cons x r ih =>
      simp only [Rows.uptoBulkAll]
      rcases List.mem_cons.1 h with rfl | h
      · omega
      · have := ih h; omega
  simp only [Rows.uptoBulk] at hb
  omega
theorem bulk_all {H : Type} {l : List (DataW H)} {d : DataW H} (h : d ∈ l) (hk : Rows.uptoSmall H l = true) : Rows.uptoBulk d ≤ 1048576 := by
  have hb : Rows.uptoBulkAll l ≤ 1048576 := by simpa [Rows.uptoSmall] using hk
  have : Rows.uptoBulk d ≤ Rows.uptoBulkAll l := by
    clear hb hk
    induction l with
    | nil => cases h
    | cons x r ih =>
      simp only [Rows.uptoBulkAll]
      rcases List.mem_cons.1 h with rfl | h
      · omega
      · have := ih h; omega
  omega
theorem elems_le {H : Type} : ∀ l : List (DataW H), l.length ≤ Rows.uptoBulkAll l
  | [] => Nat.zero_le _
  | x :: r => by
    have h1 : 1 ≤ Rows.uptoBulk x := by
      cases x with
      | lit l => cases l <;> simp [Rows.uptoBulk]
      | _ => simp [Rows.uptoBulk]
    have := elems_le r
    simp only [Rows.uptoBulkAll, List.length_cons]; omega
theorem boundUpto (P : Program) {H : Type} : Bound P (some 1048576) (fun t (d : DataW H) => bdSaid P t d ∧ Rows.uptoBulk d ≤ 1048576) where
  sl t e elems sp hu h := by
    refine ⟨((bound_said P).sl t e elems sp hu h.1).1, fun n hn => ?_⟩
    cases hn
    have h2 := h.2
    simp only [Rows.uptoBulk] at h2
    have := elems_le elems
    omega
  st t fs parts hu h i f d hf hd := ⟨(bound_said P).st t fs parts hu h.1 i f d hf hd, bulk_parts (List.mem_of_getElem? hd) h.2⟩
  ar t n e parts hu h d hd := ⟨(bound_said P).ar t n e parts hu h.1 d hd, bulk_parts hd h.2⟩
  str t b h n hn := by
    cases hn
    have h2 := h.2
    simp only [Rows.uptoBulk] at h2
    omega
end Go.Proofs.Ytmbnmgpipeinfaa
