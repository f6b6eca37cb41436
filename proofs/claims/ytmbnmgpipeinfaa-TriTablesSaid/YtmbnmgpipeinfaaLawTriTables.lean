/- Proved: each call of tri answers as the tables say, of any numbers and any text. Conditions: those of the given statement alone. -/
import Derived.Test.YtmbnmgpipeinfaaRows
import Derived.Test.YtmbnmgpipeinfaaS1
import Derived.WalkKit
import Derived.ProofKit
import Derived.OpenShut
import Derived.ShutString
import Derived.ChangeOld
import Derived.Below
import Derived.SizedLaws
import Derived.Carry
namespace Go.Proofs.Ytmbnmgpipeinfaa.triTables
open Go.ChangeShapes Go.WideShapes Go.ChangeAt Go.RowKit
set_option linter.unusedVariables false
theorem own : ownKnob Try.prog.godebug = none := by kernel_rfl
set_option maxRecDepth 100000 in
theorem lifted (os : Os) (started : os.Started) (H : Type) (enc : TypeId × Value → H) :
    ReturnsInHanded {} Try.checked os 8 .any (Rows.triTablesSpec.pre6 enc Try.prog Try.f8 Rows.triTablesRow.domain false) (Rows.triTablesSpec.post enc Try.prog Try.f8 false true false false) := by
  refine returnsInHanded_of_change_sized (C := Try.checked) own started (by kernel_rfl) Try.func8
    (ChangeSpec.witness6 (enc := enc) (C := Try.checked) false ⟨#[], #[.int .i64 0, .int .i64 0, .string ⟨#[]⟩], []⟩ 8 (by kernel_rfl) (by kernel_rfl) (by kernel_rfl) (by kernel_rfl)) ?_
  intro W base args ds gs before hval0 hW hcnd hsz0 _
  have hval : ∀ (j : Nat) t v, Try.f8.params[j]? = some t → args[j]? = some v → Value.okWide Try.prog W .any base t v := hval0
  have hW' := hW
  obtain ⟨p, q, hA, hV, hpq, hfz, hnd⟩ := hW
  obtain ⟨rfl, hq⟩ := trodVars_none hV
  have hA1 : DataW.TrodAll enc Try.prog W 0 (fun _ => true) true Try.f8.params.toList args.toList ds p := hA
  rw [Try.params8] at hA1
  obtain ⟨v0, vs0, d0, ds0, p0, q0, hargs0, rfl, hp0, h0, r0⟩ := trodAll_cons hA1
  obtain ⟨v1, vs1, d1, ds1, p1, q1, hargs1, rfl, hp1, h1, r1⟩ := trodAll_cons r0
  obtain ⟨v2, vs2, d2, ds2, p2, q2, hargs2, rfl, hp2, h2, r2⟩ := trodAll_cons r1
  obtain ⟨_, rfl, _⟩ := trodAll_nil r2
  refine (Go.Vm.law_calls (N := none) Go.Vm.tok Go.Vm.mixed Try.func8 (by kernel_rfl) (rs := [.tmp 6]) (by kernel_rfl) (pk := [(false, [.f (.int .i64)]), (false, [.f (.int .i64)]), (false, [.f .str])]) (by kernel_rfl) Go.Vm.lawrun8 (Go.Vm.bound_said Try.prog) ⟨(fun _ _ h => by cases h), (fun _ _ h => by cases h)⟩ hA hval (Go.Vm.bd_of_each hsz0)).mono fun e W' ⟨he, bel⟩ => ?_
  subst he
  exact ⟨_, rfl, _, _, _, [], p, [], hW', trodAll_mk1 (shut_bool Try.underlying4 _), Go.Vm.trodAll_below (by kernel_rfl) bel (by kernel_rfl) hA (fun x hx => DataW.TrodAll.lt hA x hx), rfl, bel.frame _, fun h => by cases h⟩
theorem over : Rows.triTablesRow.holds Try.pinned (OpenSpec.ofChange Rows.triTablesSpec) :=
  OpenClaim.holds_of_wide 8 Try.f8 rfl rfl rfl rfl rfl rfl rfl ⟨rfl, rfl, rfl, rfl, rfl⟩ rfl rfl rfl rfl rfl (by kernel_rfl) Try.func8 (by kernel_rfl)
    (of_decide_eq_true (by kernel_rfl)) (by unfold Func.isWrapper; first | (rw [if_pos (by decide +kernel)]; kernel_rfl) | (rw [if_neg (by decide +kernel)]; exact ⟨rfl, rfl⟩))
    (fun os started H enc _ => lifted os started H enc)
theorem proved : Rows.TriTablesSaid := over
#print axioms proved
end Go.Proofs.Ytmbnmgpipeinfaa.triTables
namespace Go.Proofs.Ytmbnmgpipeinfaa
/-- The row, under a short name, for the claim. -/
theorem triTables_holds : Rows.TriTablesSaid := triTables.proved
end Go.Proofs.Ytmbnmgpipeinfaa
