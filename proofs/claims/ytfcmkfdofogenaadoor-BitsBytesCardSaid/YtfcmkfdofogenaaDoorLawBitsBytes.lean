/- Proved: bytes there and back, and bit by bit. Conditions: those of the given statement alone. -/
import Derived.Test.YtfcmkfdofogenaaDoorRows
import Derived.Test.YtfcmkfdofogenaaDoorCards
import Derived.Test.YtfcmkfdofogenaaDoorTie
import Derived.Test.YtfcmkfdofogenaaDoorP5
import Derived.WalkKit
import Derived.ProofKit
import Derived.OpenShut
import Derived.ShutString
import Derived.ChangeOld
import Derived.Below
import Derived.SizedLaws
import Derived.Carry
import Derived.Deep.DeepHandedRow
import Derived.Lib.LaidTab
namespace Go.Proofs.YtfcmkfdofogenaaDoor.bitsBytes
open Go.ChangeShapes Go.WideShapes Go.ChangeAt Go.RowKit
set_option linter.unusedVariables false
theorem own : ownKnob Tryd.prog.godebug = none := by kernel_rfl
theorem gTab : Tryd.prog.globalNamed "math/bits.deBruijn64tab" = some 0 := by kernel_rfl
theorem gTabType : (Tryd.prog.globals[0]?).map (·.type) = some 56 := by kernel_rfl
theorem cells56 : Tryd.prog.cellsOf 56 = 64 := by kernel_rfl
theorem cells5 : Tryd.prog.cellsOf 5 = 1 := by kernel_rfl
theorem table {W : World} (h : laidMetH Tryd.prog Rows.bitsBytesRow.laid W) : Lib.TabIs Tryd.prog W "math/bits.deBruijn64tab" .u8 (Lib.deBruijn64tab.map fun (z : Nat) => (z : Int)) :=
  Lib.tabIs_of_head (rest := []) gTab gTabType Tryd.underlying56 Tryd.underlying5 cells5 cells56 h
theorem gi {W : World} (h : laidMetH Tryd.prog Rows.bitsBytesRow.laid W) : ∃ t, Go.Vm.GI (Go.Vm.gl t) (fun _ => False) W := by
  have ht := table h
  unfold Lib.TabIs World.var? at ht
  rw [gTab] at ht
  simp only [Option.bind_some] at ht
  split at ht
  · rename_i cs x y hc
    cases ht
    refine ⟨(x, y), fun g o hm => ?_, fun _ _ _ h => h⟩
    obtain ⟨rfl, rfl⟩ := Prod.mk.inj (List.mem_singleton.1 hm)
    rw [hc]; simp only [Go.Vm.tabO, List.map_map]; rfl
  · cases ht
noncomputable def laidWorld (os : Os) : World :=
  { World.holding Tryd.prog os ⟨#[], #[], []⟩ with heap := (World.holding Tryd.prog os ⟨#[], #[], []⟩).heap.modify 0 fun
      | .cells _ t frozen => .cells (Lib.deBruijn64tab.map fun (z : Nat) => Value.int .u8 z).toArray t frozen
      | o => o }
theorem laid_met (os : Os) : laidMet Tryd.prog Rows.bitsBytesRow.laid (((laidWorld os)).forCall (fun _ _ => 0) ⟨#[], #[.agg #[.int .u64 0, .int .u64 0], .slice none 0 0], []⟩).memory :=
  laidMet_of_run' 8 (by kernel_rfl) (by kernel_rfl)
theorem reads (os : Os) {H : Type} (enc : TypeId × Value → H) : ∃ places, DataW.whole enc Tryd.prog (((laidWorld os)).forCall (fun _ _ => 0) ⟨#[], #[.agg #[.int .u64 0, .int .u64 0], .slice none 0 0], []⟩).memory Tryd.f10.params.toList Rows.bitsBytesSpec.vars false (#[.agg #[.int .u64 0, .int .u64 0], .slice none 0 0] : Array Value).toList 8 = some ([.agg [.lit (.int .u64 0), .lit (.int .u64 0)], .nil], [], places) :=
  ⟨[], by kernel_rfl⟩
set_option maxRecDepth 100000 in
theorem lifted (os : Os) (started : os.Started) (H : Type) (enc : TypeId × Value → H) (F : Stop.Interp) :
    ReturnsInHanded {} Tryd.checked os 10 .any ((OpenSpec.ofChange Rows.bitsBytesSpec).preRow enc Tryd.prog Tryd.f10 Rows.bitsBytesRow.domain false Rows.bitsBytesRow.laid) (((OpenSpec.ofChange Rows.bitsBytesSpec).at F).post enc Tryd.prog Tryd.f10 false true false false) := by
  obtain ⟨places, hx⟩ := reads os enc
  refine returnsInHanded_of_row (C := Tryd.checked) (s := OpenSpec.ofChange Rows.bitsBytesSpec) own started (by kernel_rfl) Tryd.func10
    (witness_row_at (enc := enc) (C := Tryd.checked) false (laidWorld os) #[.agg #[.int .u64 0, .int .u64 0], .slice none 0 0] rfl (by kernel_rfl) (by kernel_rfl) (by kernel_rfl)
      (OpenSpec.preRow_of_cond 8 hx (by kernel_rfl) (fun k hk => by cases hk) (by kernel_rfl) (laid_met os))) ?_
  intro W base args ds gs before hval0 hW hcnd hcond hsz0 hL hsh _
  have hval : ∀ (j : Nat) t v, Tryd.f10.params[j]? = some t → args[j]? = some v → Value.okWide Tryd.prog W .any base t v := hval0
  have hsz : (DataW.weightsEach Tryd.prog (Tryd.f10.params.toList ++ (OpenSpec.ofChange Rows.bitsBytesSpec).bare.plain.varTypes Tryd.prog) (ds ++ gs)).all (· ≤ reachBytes) = true := hsz0
  have hW' := hW
  obtain ⟨p, q, hA, hV, hpq, hfz, hnd⟩ := hW
  obtain ⟨rfl, hq⟩ := trodVars_none hV
  have hA1 : DataW.TrodAll enc Tryd.prog W 0 (fun _ => true) true Tryd.f10.params.toList args.toList ds p := hA
  rw [Tryd.params10] at hA1
  obtain ⟨v0, vs0, d0, ds0, p0, q0, hargs0, rfl, hp0, h0, r0⟩ := trodAll_cons hA1
  obtain ⟨v1, vs1, d1, ds1, p1, q1, hargs1, rfl, hp1, h1, r1⟩ := trodAll_cons r0
  obtain ⟨_, rfl, _⟩ := trodAll_nil r1
  refine (Go.Vm.law_calls (N := none) Go.Vm.tok Go.Vm.mixed Tryd.func10 (by kernel_rfl) (rs := [.tmp 4]) (by kernel_rfl) (pk := [(true, [.f (.int .u64), .f (.int .u64)]), (false, [.s 5 [.int .u8]])]) (by kernel_rfl) Go.Vm.lawrun10 (Go.Vm.bound_said Tryd.prog) (gi hL).choose_spec hA hval (Go.Vm.bd_of_each hsz)).mono fun e W' ⟨he, bel⟩ => ?_
  subst he
  exact ⟨_, rfl, _, _, _, [], p, [], hW', trodAll_mk1 (shut_bool Tryd.underlying4 _), Go.Vm.trodAll_below (by kernel_rfl) bel (by kernel_rfl) hA (fun x hx => DataW.TrodAll.lt hA x hx), rfl, bel.frame _, fun h => by cases h⟩
theorem said : Rows.BitsBytesSaid :=
  OpenClaim.holds_of_cond 10 Tryd.f10 rfl rfl rfl rfl rfl rfl rfl ⟨rfl, rfl, rfl, rfl, rfl⟩ rfl rfl rfl rfl rfl (by kernel_rfl) Tryd.func10 (by kernel_rfl)
    (of_decide_eq_true (by kernel_rfl)) (by unfold Func.isWrapper; first | (rw [if_pos (by decide +kernel)]; kernel_rfl) | (rw [if_neg (by decide +kernel)]; exact ⟨rfl, rfl⟩))
    (fun os started H enc _ F => by rw [OpenClaim.pre_eq_preRow]; exact lifted os started H enc F)
/-- No parameter wants a stand-in; the program's own looks are off. -/
theorem plain (f : FuncId) (fn : Func) (hf : Tryd.pinned.checked.prog.funcNamed "armature/armaturelaw02.BitsBytes" = some f) (hfn : Tryd.pinned.checked.prog.funcs[f]? = some fn) :
    false = Tryd.pinned.checked.prog.looks [] ∧ ∀ (j : Nat) t, fn.params[j]? = some t → Tryd.pinned.checked.prog.wantsStandIn t = false := by
  obtain rfl : f = 10 := Option.some.inj ((show Tryd.prog.funcNamed "armature/armaturelaw02.BitsBytes" = some 10 by kernel_rfl).symm.trans hf) |>.symm
  obtain rfl : fn = Tryd.f10 := (Option.some.inj (Tryd.func10.symm.trans hfn)).symm
  refine ⟨by kernel_rfl, fun j t ht => ?_⟩
  rw [Tryd.params10] at ht
  have hall : (#[24, 46] : Array TypeId).toList.all (fun t => !Tryd.prog.wantsStandIn t) = true := by kernel_rfl
  have h1 : (!Tryd.prog.wantsStandIn t) = true := List.all_eq_true.1 hall t (by simpa using Array.mem_of_getElem? ht)
  have h2 : Tryd.prog.wantsStandIn t = false := by simpa using h1
  exact h2
theorem proved : Rows.BitsBytesCardSaid :=
  Claim7.holds_tied_plain_at .later [] _ _ _ _ said (fun _ h => by cases h) (by kernel_rfl) (fun _ h => by cases h) bitsBytes_row_tie rfl ⟨rfl, rfl⟩ (by kernel_rfl) rfl plain (by kernel_rfl)
#print axioms proved
end Go.Proofs.YtfcmkfdofogenaaDoor.bitsBytes
namespace Go.Proofs.YtfcmkfdofogenaaDoor
/-- The row, under a short name, for the claim. -/
theorem bitsBytes_holds : Rows.BitsBytesCardSaid := bitsBytes.proved
end Go.Proofs.YtfcmkfdofogenaaDoor
