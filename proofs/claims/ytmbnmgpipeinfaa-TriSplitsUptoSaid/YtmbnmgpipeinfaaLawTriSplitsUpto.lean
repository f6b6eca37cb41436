/- Proved: a list's And, Or and Join are those of its parts' ones. Conditions: those of the given statement alone. -/
import Derived.Test.YtmbnmgpipeinfaaRows
import Derived.Test.YtmbnmgpipeinfaaS1
import Derived.Test.YtmbnmgpipeinfaaB1
import Derived.WalkKit
import Derived.ProofKit
import Derived.OpenShut
import Derived.ShutString
import Derived.ChangeOld
import Derived.Below
import Derived.SizedLaws
import Derived.Carry
import Derived.Deep.DeepHandedRow
import Derived.Lib.LaidTab
namespace Go.Proofs.Ytmbnmgpipeinfaa.triSplitsUpto
open Go.ChangeShapes Go.WideShapes Go.ChangeAt Go.RowKit
set_option linter.unusedVariables false
theorem own : ownKnob Try.prog.godebug = none := by kernel_rfl
theorem laid_met (os : Os) : laidMet Try.prog Rows.triSplitsUptoRow.laid (((World.holding Try.prog os ⟨#[], #[], []⟩)).forCall (fun _ _ => 0) ⟨#[], #[.slice none 0 0, .slice none 0 0], []⟩).memory :=
  laidMet_of_run' 8 (by kernel_rfl) (by kernel_rfl)
theorem reads (os : Os) {H : Type} (enc : TypeId × Value → H) : ∃ places, DataW.whole enc Try.prog (((World.holding Try.prog os ⟨#[], #[], []⟩)).forCall (fun _ _ => 0) ⟨#[], #[.slice none 0 0, .slice none 0 0], []⟩).memory Try.f5.params.toList Rows.triSplitsSpec.vars false (#[.slice none 0 0, .slice none 0 0] : Array Value).toList 8 = some ([.nil, .nil], [], places) :=
  ⟨[], by kernel_rfl⟩
set_option maxRecDepth 100000 in
theorem lifted (os : Os) (started : os.Started) (H : Type) (enc : TypeId × Value → H) (F : Stop.Interp) :
    ReturnsInHanded {} Try.checked os 5 .any ((Rows.OpenSpec.upto Rows.triSplitsSpec).preRow enc Try.prog Try.f5 Rows.triSplitsUptoRow.domain false Rows.triSplitsUptoRow.laid) (((Rows.OpenSpec.upto Rows.triSplitsSpec).at F).post enc Try.prog Try.f5 false true false false) := by
  obtain ⟨places, hx⟩ := reads os enc
  refine returnsInHanded_of_row (C := Try.checked) (s := Rows.OpenSpec.upto Rows.triSplitsSpec) own started (by kernel_rfl) Try.func5
    (witness_row_at (enc := enc) (C := Try.checked) false (World.holding Try.prog os ⟨#[], #[], []⟩) #[.slice none 0 0, .slice none 0 0] rfl (by kernel_rfl) (by kernel_rfl) (by kernel_rfl)
      (OpenSpec.preRow_of_cond 8 hx (by kernel_rfl) (fun k hk => by cases hk; kernel_rfl) (by kernel_rfl) (laid_met os))) ?_
  intro W base args ds gs before hval0 hW hcnd hcond hsz0 hL hsh _
  have hval : ∀ (j : Nat) t v, Try.f5.params[j]? = some t → args[j]? = some v → Value.okWide Try.prog W .any base t v := hval0
  have hsz : (DataW.weightsEach Try.prog (Try.f5.params.toList ++ (Rows.OpenSpec.upto Rows.triSplitsSpec).bare.plain.varTypes Try.prog) (ds ++ gs)).all (· ≤ reachBytes) = true := hsz0
  have hW' := hW
  obtain ⟨p, q, hA, hV, hpq, hfz, hnd⟩ := hW
  obtain ⟨rfl, hq⟩ := trodVars_none hV
  have hA1 : DataW.TrodAll enc Try.prog W 0 (fun _ => true) true Try.f5.params.toList args.toList ds p := hA
  rw [Try.params5] at hA1
  obtain ⟨v0, vs0, d0, ds0, p0, q0, hargs0, rfl, hp0, h0, r0⟩ := trodAll_cons hA1
  obtain ⟨v1, vs1, d1, ds1, p1, q1, hargs1, rfl, hp1, h1, r1⟩ := trodAll_cons r0
  obtain ⟨_, rfl, _⟩ := trodAll_nil r1
  refine (Go.Vm.law_calls (N := (some 1048576)) Go.Vm.tok Go.Vm.mixed Try.func5 (by kernel_rfl) (rs := [.tmp 4]) (by kernel_rfl) (pk := [(false, [.s 22 [.int .i64]]), (false, [.s 22 [.int .i64]])]) (by kernel_rfl) Go.Vm.lawrun5 (boundUpto Try.prog) ⟨(fun _ _ h => by cases h), (fun _ _ h => by cases h)⟩ hA hval (fun j t d ht hd => ⟨Go.Vm.bd_of_each hsz j t d ht hd, bulk_all (List.mem_append_left _ (List.mem_of_getElem? hd)) (hcond _ rfl)⟩)).mono fun e W' ⟨he, bel⟩ => ?_
  subst he
  exact ⟨_, rfl, _, _, _, [], p, [], hW', trodAll_mk1 (shut_bool Try.underlying4 _), Go.Vm.trodAll_below (by kernel_rfl) bel (by kernel_rfl) hA (fun x hx => DataW.TrodAll.lt hA x hx), rfl, bel.frame _, fun h => by cases h⟩
theorem said : Rows.TriSplitsUptoSaid :=
  OpenClaim.holds_of_cond 5 Try.f5 rfl rfl rfl rfl rfl rfl rfl ⟨rfl, rfl, rfl, rfl, rfl⟩ rfl rfl rfl rfl rfl (by kernel_rfl) Try.func5 (by kernel_rfl)
    (of_decide_eq_true (by kernel_rfl)) (by unfold Func.isWrapper; first | (rw [if_pos (by decide +kernel)]; kernel_rfl) | (rw [if_neg (by decide +kernel)]; exact ⟨rfl, rfl⟩))
    (fun os started H enc _ F => by rw [OpenClaim.pre_eq_preRow]; exact lifted os started H enc F)
theorem proved : Rows.TriSplitsUptoSaid := said
#print axioms proved
end Go.Proofs.Ytmbnmgpipeinfaa.triSplitsUpto
namespace Go.Proofs.Ytmbnmgpipeinfaa
/-- The row, under a short name, for the claim. -/
theorem triSplitsUpto_holds : Rows.TriSplitsUptoSaid := triSplitsUpto.proved
end Go.Proofs.Ytmbnmgpipeinfaa
