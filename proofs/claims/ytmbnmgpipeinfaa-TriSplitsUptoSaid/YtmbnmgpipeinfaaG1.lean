/- The functions of this seat as equations over lists and numbers, each checked by the kernel. -/
import Derived.Test.YtmbnmgpipeinfaaProg
import Derived.Test.YtmbnmgpipeinfaaV3
import Derived.KernelRfl
set_option linter.unusedVariables false
namespace Go.Vm
open Go
def tabL : List (TypeId × TInfo) := [
  (3, ⟨.int .i64, 1, 8, false, [.int .i64 (0 : Int)], [.int .i64], false⟩),
  (4, ⟨.bool, 1, 1, false, [.bool false], [.bool], false⟩),
  (9, ⟨.str, 1, 16, false, [.str ByteArray.empty], [.str], false⟩),
  (22, ⟨.int .i64, 1, 8, false, [.int .i64 (0 : Int)], [.int .i64], false⟩),
  (24, ⟨.arr 2 4, 2, 2, true, [.bool false, .bool false], [.bool, .bool], false⟩),
  (29, ⟨.sl 22, 1, 24, false, [.nils], [.ref], false⟩),
  (33, ⟨.sl 3, 1, 24, false, [.nils], [.ref], false⟩),
  (39, ⟨.int .i64, 1, 8, false, [.int .i64 (0 : Int)], [.int .i64], false⟩),
  (48, ⟨.sl 9, 1, 24, false, [.nils], [.ref], false⟩)]
abbrev tab : Tab := lookT tabL
def e9 (law_first : Bool) : Entry := entryFn [] [(false, [.f .bool])] (fun x => true) (fun x => ((law_first, ()), ()))
def e10 (t_Allows : Int → Bool → Bool) : Entry := entryFn [(false, [.f (.int .i64)]), (false, [.f .bool])] [(false, [.f .bool])] (fun x => true) (fun x => (((t_Allows x.1.1 x.2.1.1), ()), ()))
def e11 (law_said : Int → Bool → Bool → Bool) : Entry := entryFn [(false, [.f (.int .i64)]), (true, [.f .bool, .f .bool])] [(false, [.f .bool])] (fun x => true) (fun x => (((law_said x.1.1 x.2.1.1 x.2.1.2.1), ()), ()))
def e12 (t_And : List Int → Int) : Entry := entryFn [(false, [.s 22 [.int .i64]])] [(false, [.f (.int .i64)])] (fun x => true) (fun x => (((t_And x.1.1), ()), ()))
def e13 (t_Or : List Int → Int) : Entry := entryFn [(false, [.s 22 [.int .i64]])] [(false, [.f (.int .i64)])] (fun x => true) (fun x => (((t_Or x.1.1), ()), ()))
def e14 (t_Join : Int → List Int → Int) : Entry := entryFn [(false, [.f (.int .i64)]), (false, [.s 22 [.int .i64]])] [(false, [.f (.int .i64)])] (fun x => true) (fun x => (((t_Join x.1.1 x.2.1.1), ()), ()))
def e15 (ref_Join2 : Int → Int → Int) : Entry := entryFn [(false, [.f (.int .i64)]), (false, [.f (.int .i64)])] [(false, [.f (.int .i64)])] (fun x => true) (fun x => (((ref_Join2 x.1.1 x.2.1.1), ()), ()))
def e16 (ref_And : List Int → Int) : Entry := entryFn [(false, [.s 3 [.int .i64]])] [(false, [.f (.int .i64)])] (fun x => true) (fun x => (((ref_And x.1.1), ()), ()))
def e17 (ints_pre : List Int → Bool) (law_ints : List Int → List Int) : Entry := entryFn [(false, [.s 22 [.int .i64]])] [(false, [.s 3 [.int .i64]])] (fun x => (ints_pre x.1.1)) (fun x => (((law_ints x.1.1), ()), ()))
def e18 (ref_Or : List Int → Int) : Entry := entryFn [(false, [.s 3 [.int .i64]])] [(false, [.f (.int .i64)])] (fun x => true) (fun x => (((ref_Or x.1.1), ()), ()))
def e19 (t_Below : Int → Int → Bool) : Entry := entryFn [(false, [.f (.int .i64)]), (false, [.f (.int .i64)])] [(false, [.f .bool])] (fun x => true) (fun x => (((t_Below x.1.1 x.2.1.1), ()), ()))
def e20 (t_Not : Int → Int) : Entry := entryFn [(false, [.f (.int .i64)])] [(false, [.f (.int .i64)])] (fun x => true) (fun x => (((t_Not x.1.1), ()), ()))
def e21 (t_Norm : Int → Int) : Entry := entryFn [(false, [.f (.int .i64)])] [(false, [.f (.int .i64)])] (fun x => true) (fun x => (((t_Norm x.1.1), ()), ()))
def e22 (t_Read : ByteArray → Int × Int) : Entry := entryFn [(false, [.f .str])] [(false, [.f (.int .i64)]), (false, [.f (.int .i64)])] (fun x => true) (fun x => (((t_Read x.1.1).1, ()), ((t_Read x.1.1).2, ()), ()))
def e23 (ref_Text : Int → ByteArray) : Entry := entryFn [(false, [.f (.int .i64)])] [(false, [.f .str])] (fun x => true) (fun x => (((ref_Text x.1.1), ()), ()))
def e24 (ref_Norm : Int → Int) : Entry := entryFn [(false, [.f (.int .i64)])] [(false, [.f (.int .i64)])] (fun x => true) (fun x => (((ref_Norm x.1.1), ()), ()))
def e25 (ref_Not : Int → Int) : Entry := entryFn [(false, [.f (.int .i64)])] [(false, [.f (.int .i64)])] (fun x => true) (fun x => (((ref_Not x.1.1), ()), ()))
def e26 (t_Text : Int → ByteArray) : Entry := entryFn [(false, [.f (.int .i64)])] [(false, [.f .str])] (fun x => true) (fun x => (((t_Text x.1.1), ()), ()))
def e27 (t_Of : Bool → Int) : Entry := entryFn [(false, [.f .bool])] [(false, [.f (.int .i64)])] (fun x => true) (fun x => (((t_Of x.1.1), ()), ()))
def e28 (both_pre : List Int → Int → Int → Bool) (ref_both : List Int → Int → Int → Int) : Entry := entryFn [(false, [.s 3 [.int .i64]]), (false, [.f (.int .i64)]), (false, [.f (.int .i64)])] [(false, [.f (.int .i64)])] (fun x => (both_pre x.1.1 x.2.1.1 x.2.2.1.1)) (fun x => (((ref_both x.1.1 x.2.1.1 x.2.2.1.1), ()), ()))
def e29 (ref_And2 : Int → Int → Int) : Entry := entryFn [(false, [.f (.int .i64)]), (false, [.f (.int .i64)])] [(false, [.f (.int .i64)])] (fun x => true) (fun x => (((ref_And2 x.1.1 x.2.1.1), ()), ()))
def e30 (ref_Or2 : Int → Int → Int) : Entry := entryFn [(false, [.f (.int .i64)]), (false, [.f (.int .i64)])] [(false, [.f (.int .i64)])] (fun x => true) (fun x => (((ref_Or2 x.1.1 x.2.1.1), ()), ()))
/-! armature/armaturelaw01.TriExact -/
noncomputable def c3 (fuel g : Nat) (law_first : Bool) (t_Allows : Int → Bool → Bool) (t_And : List Int → Int) (law_said : Int → Bool → Bool → Bool) (t_Or : List Int → Int) : Ctx := ⟨tab, callOf [(9, e9 law_first), (10, e10 t_Allows), (12, e12 t_And), (11, e11 law_said), (13, e13 t_Or)], (fun k => match k with | 0 => some ⟨[], [], [0, 1, 2]⟩ | 1 => some ⟨[], [], [0, 1, 2, 16]⟩ | 2 => some ⟨[], [], [6]⟩ | 3 => some ⟨[], [], [0, 1, 2, 7, 8]⟩ | 4 => some ⟨[], [], [0, 1, 2, 7, 8, 9]⟩ | 5 => some ⟨[], [], [0, 1, 2, 7, 8, 9, 18]⟩ | 7 => some ⟨[], [], [0, 1, 2, 7, 8, 9, 10, 11, 12]⟩ | 8 => some ⟨[], [], [0, 1, 2, 7, 8, 9, 10, 11, 12, 45]⟩ | 6 => some ⟨[], [], [0, 1, 2, 7, 8, 9]⟩ | 9 => some ⟨[], [], [0, 1, 2, 7, 8, 9, 10, 11, 12, 13, 14]⟩ | 10 => some ⟨[], [], [0, 1, 2, 7, 8, 9, 10, 11, 12, 13, 14, 52]⟩ | 11 => some ⟨[], [], [0, 1, 2, 7, 8, 9, 10, 11, 12, 13, 14]⟩ | 15 => some ⟨[], [], [6]⟩ | 12 => some ⟨[], [], [0, 1, 2, 7, 8, 9, 13, 14, 59]⟩ | 13 => some ⟨[], [], [0, 1, 2, 7, 8, 9, 13, 14]⟩ | 14 => some ⟨[], [], [0, 1, 2, 7, 8, 9]⟩ | _ => none), (fun k => match k with | 12 => some ⟨[], [], [0, 1, 2, 7, 8, 9, 10, 11, 12, 13, 14]⟩ | _ => none), (fun k => match k with | 5 => some ⟨[], [], [0, 1, 2, 7, 8, 9]⟩ | _ => none), ⟨[], [], [0]⟩, fuel, g, 80, 0, fun _ => []⟩
noncomputable def F3 (fuel g : Nat) (law_first : Bool) (t_Allows : Int → Bool → Bool) (t_And : List Int → Int) (law_said : Int → Bool → Bool → Bool) (t_Or : List Int → Int) (p0 : Int) (p1 : Int) (p2 : Int) : Option Out := runFn (c3 fuel g law_first t_Allows t_And law_said t_Or) (bodyOf Go.Proofs.Try.f3) [.tmp 6] [.int .i64 p0, .int .i64 p1, .int .i64 p2] (memOf []) outT
noncomputable def L3_0 (fuel g : Nat) (law_first : Bool) (t_Allows : Int → Bool → Bool) (t_And : List Int → Int) (law_said : Int → Bool → Bool → Bool) (t_Or : List Int → Int) (n0 : Nat) (p0 : Int) (p1 : Int) (p2 : Int) (x0_5 : Int) (x0_6 : Bool) (x0_7 : Bool) (x0_8 : Bool) (x0_9 : Bool) : Option Out := iterAt (c3 fuel g law_first t_Allows t_And law_said t_Or) (bodyOf Go.Proofs.Try.f3) [.r, .r, .r, .l, .r, .l] n0 ⟨ofL [(0, .int .i64 p0), (1, .int .i64 p1), (2, .int .i64 p2), (7, .ptr 0 0 0), (8, .ptr 1 0 0), (9, .int .i64 x0_5)], ofM [(0, some ⟨true, 24, .one [.bool x0_6, .bool x0_7]⟩), (1, some ⟨true, 24, .one [.bool x0_8, .bool x0_9]⟩)], 2⟩ (retK (c3 fuel g law_first t_Allows t_And law_said t_Or) [.tmp 6] outT)
noncomputable def J3_1 (fuel g : Nat) (law_first : Bool) (t_Allows : Int → Bool → Bool) (t_And : List Int → Int) (law_said : Int → Bool → Bool → Bool) (t_Or : List Int → Int) (n0 : Nat) (p0 : Int) (p1 : Int) (p2 : Int) (x0_5 : Int) (x0_6 : Bool) (x0_7 : Bool) (x0_8 : Bool) (x0_9 : Bool) (x1_9 : Int) : Option Out := gate ((c3 fuel g law_first t_Allows t_And law_said t_Or).join 12) g (fun _ => runAt (c3 fuel g law_first t_Allows t_And law_said t_Or) (bodyOf Go.Proofs.Try.f3) [.r, .r, .r, .l, .r, .l, .it n0, .r, .l, .l, .r, .r, .r, .r] ⟨ofL [(0, .int .i64 p0), (1, .int .i64 p1), (2, .int .i64 p2), (7, .ptr 0 0 0), (8, .ptr 1 0 0), (9, .int .i64 x0_5), (10, .bool ((andI .i64 x0_5 (1 : Int)) == (1 : Int))), (11, .bool ((andI .i64 x0_5 (2 : Int)) == (2 : Int))), (12, .bool ((andI .i64 x0_5 (4 : Int)) == (4 : Int))), (13, .int .i64 x1_9), (14, .int .i64 (0 : Int))], ofM [(0, some ⟨true, 24, .one [.bool x0_6, .bool x0_7]⟩), (1, some ⟨true, 24, .one [.bool x0_8, .bool x0_9]⟩)], 2⟩ (retK (c3 fuel g law_first t_Allows t_And law_said t_Or) [.tmp 6] outT))
theorem L3_0_succ (fuel g : Nat) (law_first : Bool) (t_Allows : Int → Bool → Bool) (t_And : List Int → Int) (law_said : Int → Bool → Bool → Bool) (t_Or : List Int → Int) (n0 : Nat) (p0 : Int) (p1 : Int) (p2 : Int) (x0_5 : Int) (x0_6 : Bool) (x0_7 : Bool) (x0_8 : Bool) (x0_9 : Bool) : L3_0 fuel g law_first t_Allows t_And law_said t_Or (n0 + 1) p0 p1 p2 x0_5 x0_6 x0_7 x0_8 x0_9 = cnd (decide (x0_5 < (8 : Int)))
  (cnd (!(t_Allows p0 ((andI .i64 x0_5 (1 : Int)) == (1 : Int))))
  (L3_0 fuel g law_first t_Allows t_And law_said t_Or n0 p0 p1 p2 (IntKind.i64.wrap (x0_5 + (1 : Int))) x0_6 x0_7 x0_8 x0_9)
  (cnd (!(t_Allows p1 ((andI .i64 x0_5 (2 : Int)) == (2 : Int))))
  (L3_0 fuel g law_first t_Allows t_And law_said t_Or n0 p0 p1 p2 (IntKind.i64.wrap (x0_5 + (1 : Int))) x0_6 x0_7 x0_8 x0_9)
  (cnd (!(t_Allows p2 ((andI .i64 x0_5 (4 : Int)) == (4 : Int))))
  (L3_0 fuel g law_first t_Allows t_And law_said t_Or n0 p0 p1 p2 (IntKind.i64.wrap (x0_5 + (1 : Int))) x0_6 x0_7 x0_8 x0_9)
  (cnd ((andI .i64 x0_5 (1 : Int)) == (1 : Int))
  (cnd ((andI .i64 x0_5 (2 : Int)) == (2 : Int))
  (cnd ((andI .i64 x0_5 (4 : Int)) == (4 : Int))
  (J3_1 fuel g law_first t_Allows t_And law_said t_Or n0 p0 p1 p2 x0_5 x0_6 x0_7 x0_8 x0_9 (1 : Int))
  (J3_1 fuel g law_first t_Allows t_And law_said t_Or n0 p0 p1 p2 x0_5 x0_6 x0_7 x0_8 x0_9 (0 : Int)))
  (J3_1 fuel g law_first t_Allows t_And law_said t_Or n0 p0 p1 p2 x0_5 x0_6 x0_7 x0_8 x0_9 (0 : Int)))
  (J3_1 fuel g law_first t_Allows t_And law_said t_Or n0 p0 p1 p2 x0_5 x0_6 x0_7 x0_8 x0_9 (0 : Int))))))
  (cnd (law_said (t_And [p0, p1, p2]) x0_6 x0_7)
  (some (.bool (law_said (t_Or [p0, p1, p2]) x0_8 x0_9), ofM [], 0))
  (some (.bool false, ofM [], 0))) := by kernel_rfl
theorem L3_0_zero (fuel g : Nat) (law_first : Bool) (t_Allows : Int → Bool → Bool) (t_And : List Int → Int) (law_said : Int → Bool → Bool → Bool) (t_Or : List Int → Int) (p0 : Int) (p1 : Int) (p2 : Int) (x0_5 : Int) (x0_6 : Bool) (x0_7 : Bool) (x0_8 : Bool) (x0_9 : Bool) : L3_0 fuel g law_first t_Allows t_And law_said t_Or 0 p0 p1 p2 x0_5 x0_6 x0_7 x0_8 x0_9 = none := by kernel_rfl
theorem J3_1_raw (fuel g : Nat) (law_first : Bool) (t_Allows : Int → Bool → Bool) (t_And : List Int → Int) (law_said : Int → Bool → Bool → Bool) (t_Or : List Int → Int) (n0 : Nat) (p0 : Int) (p1 : Int) (p2 : Int) (x0_5 : Int) (x0_6 : Bool) (x0_7 : Bool) (x0_8 : Bool) (x0_9 : Bool) (x1_9 : Int) : runAt (c3 fuel g law_first t_Allows t_And law_said t_Or) (bodyOf Go.Proofs.Try.f3) [.r, .r, .r, .l, .r, .l, .it n0, .r, .l, .l, .r, .r, .r, .r] ⟨ofL [(0, .int .i64 p0), (1, .int .i64 p1), (2, .int .i64 p2), (7, .ptr 0 0 0), (8, .ptr 1 0 0), (9, .int .i64 x0_5), (10, .bool ((andI .i64 x0_5 (1 : Int)) == (1 : Int))), (11, .bool ((andI .i64 x0_5 (2 : Int)) == (2 : Int))), (12, .bool ((andI .i64 x0_5 (4 : Int)) == (4 : Int))), (13, .int .i64 x1_9), (14, .int .i64 (0 : Int))], ofM [(0, some ⟨true, 24, .one [.bool x0_6, .bool x0_7]⟩), (1, some ⟨true, 24, .one [.bool x0_8, .bool x0_9]⟩)], 2⟩ (retK (c3 fuel g law_first t_Allows t_And law_said t_Or) [.tmp 6] outT) = cnd ((andI .i64 x0_5 (1 : Int)) == (1 : Int))
  (cnd (x1_9 == (0 : Int))
  (L3_0 fuel g law_first t_Allows t_And law_said t_Or n0 p0 p1 p2 (IntKind.i64.wrap (x0_5 + (1 : Int))) true x0_7 x0_8 true)
  (cnd (x1_9 == (1 : Int))
  (L3_0 fuel g law_first t_Allows t_And law_said t_Or n0 p0 p1 p2 (IntKind.i64.wrap (x0_5 + (1 : Int))) x0_6 true x0_8 true)
  (none)))
  (cnd ((andI .i64 x0_5 (2 : Int)) == (2 : Int))
  (cnd (x1_9 == (0 : Int))
  (L3_0 fuel g law_first t_Allows t_And law_said t_Or n0 p0 p1 p2 (IntKind.i64.wrap (x0_5 + (1 : Int))) true x0_7 x0_8 true)
  (cnd (x1_9 == (1 : Int))
  (L3_0 fuel g law_first t_Allows t_And law_said t_Or n0 p0 p1 p2 (IntKind.i64.wrap (x0_5 + (1 : Int))) x0_6 true x0_8 true)
  (none)))
  (cnd ((andI .i64 x0_5 (4 : Int)) == (4 : Int))
  (cnd (x1_9 == (0 : Int))
  (L3_0 fuel g law_first t_Allows t_And law_said t_Or n0 p0 p1 p2 (IntKind.i64.wrap (x0_5 + (1 : Int))) true x0_7 x0_8 true)
  (cnd (x1_9 == (1 : Int))
  (L3_0 fuel g law_first t_Allows t_And law_said t_Or n0 p0 p1 p2 (IntKind.i64.wrap (x0_5 + (1 : Int))) x0_6 true x0_8 true)
  (none)))
  (cnd (x1_9 == (0 : Int))
  (L3_0 fuel g law_first t_Allows t_And law_said t_Or n0 p0 p1 p2 (IntKind.i64.wrap (x0_5 + (1 : Int))) true x0_7 true x0_9)
  (cnd (x1_9 == (1 : Int))
  (L3_0 fuel g law_first t_Allows t_And law_said t_Or n0 p0 p1 p2 (IntKind.i64.wrap (x0_5 + (1 : Int))) x0_6 true true x0_9)
  (none))))) := by kernel_rfl
theorem J3_1_eq (fuel : Nat) (law_first : Bool) (t_Allows : Int → Bool → Bool) (t_And : List Int → Int) (law_said : Int → Bool → Bool → Bool) (t_Or : List Int → Int) (n0 : Nat) (p0 : Int) (p1 : Int) (p2 : Int) (x0_5 : Int) (x0_6 : Bool) (x0_7 : Bool) (x0_8 : Bool) (x0_9 : Bool) (x1_9 : Int) : J3_1 fuel 1 law_first t_Allows t_And law_said t_Or n0 p0 p1 p2 x0_5 x0_6 x0_7 x0_8 x0_9 x1_9 = cnd ((andI .i64 x0_5 (1 : Int)) == (1 : Int))
  (cnd (x1_9 == (0 : Int))
  (L3_0 fuel 1 law_first t_Allows t_And law_said t_Or n0 p0 p1 p2 (IntKind.i64.wrap (x0_5 + (1 : Int))) true x0_7 x0_8 true)
  (cnd (x1_9 == (1 : Int))
  (L3_0 fuel 1 law_first t_Allows t_And law_said t_Or n0 p0 p1 p2 (IntKind.i64.wrap (x0_5 + (1 : Int))) x0_6 true x0_8 true)
  (none)))
  (cnd ((andI .i64 x0_5 (2 : Int)) == (2 : Int))
  (cnd (x1_9 == (0 : Int))
  (L3_0 fuel 1 law_first t_Allows t_And law_said t_Or n0 p0 p1 p2 (IntKind.i64.wrap (x0_5 + (1 : Int))) true x0_7 x0_8 true)
  (cnd (x1_9 == (1 : Int))
  (L3_0 fuel 1 law_first t_Allows t_And law_said t_Or n0 p0 p1 p2 (IntKind.i64.wrap (x0_5 + (1 : Int))) x0_6 true x0_8 true)
  (none)))
  (cnd ((andI .i64 x0_5 (4 : Int)) == (4 : Int))
  (cnd (x1_9 == (0 : Int))
  (L3_0 fuel 1 law_first t_Allows t_And law_said t_Or n0 p0 p1 p2 (IntKind.i64.wrap (x0_5 + (1 : Int))) true x0_7 x0_8 true)
  (cnd (x1_9 == (1 : Int))
  (L3_0 fuel 1 law_first t_Allows t_And law_said t_Or n0 p0 p1 p2 (IntKind.i64.wrap (x0_5 + (1 : Int))) x0_6 true x0_8 true)
  (none)))
  (cnd (x1_9 == (0 : Int))
  (L3_0 fuel 1 law_first t_Allows t_And law_said t_Or n0 p0 p1 p2 (IntKind.i64.wrap (x0_5 + (1 : Int))) true x0_7 true x0_9)
  (cnd (x1_9 == (1 : Int))
  (L3_0 fuel 1 law_first t_Allows t_And law_said t_Or n0 p0 p1 p2 (IntKind.i64.wrap (x0_5 + (1 : Int))) x0_6 true true x0_9)
  (none))))) := J3_1_raw fuel 1 law_first t_Allows t_And law_said t_Or n0 p0 p1 p2 x0_5 x0_6 x0_7 x0_8 x0_9 x1_9
theorem F3_eq (fuel g : Nat) (law_first : Bool) (t_Allows : Int → Bool → Bool) (t_And : List Int → Int) (law_said : Int → Bool → Bool → Bool) (t_Or : List Int → Int) (p0 : Int) (p1 : Int) (p2 : Int) : F3 fuel g law_first t_Allows t_And law_said t_Or p0 p1 p2 = cnd (!law_first)
  (some (.bool false, ofM [], 0))
  (L3_0 fuel g law_first t_Allows t_And law_said t_Or fuel p0 p1 p2 (0 : Int) false false false false) := by kernel_rfl
/-! armature/armaturelaw01.TriLists -/
noncomputable def c4 (fuel g : Nat) (law_first : Bool) (t_Join : Int → List Int → Int) (ref_Join2 : Int → Int → Int) (t_And : List Int → Int) (ints_pre : List Int → Bool) (law_ints : List Int → List Int) (ref_And : List Int → Int) (t_Or : List Int → Int) (ref_Or : List Int → Int) : Ctx := ⟨tab, callOf [(9, e9 law_first), (14, e14 t_Join), (15, e15 ref_Join2), (12, e12 t_And), (17, e17 ints_pre law_ints), (16, e16 ref_And), (13, e13 t_Or), (18, e18 ref_Or)], (fun k => match k with | 0 => some ⟨[], [], [0]⟩ | 1 => some ⟨[], [], [0, 12]⟩ | 2 => some ⟨[], [], [2]⟩ | 3 => some ⟨[], [], [0, 3]⟩ | 4 => some ⟨[], [], [0, 3, 4]⟩ | 5 => some ⟨[], [], [0, 3, 4, 5]⟩ | 6 => some ⟨[], [], [0, 3, 4, 5, 6]⟩ | 7 => some ⟨[], [], [0, 3, 4, 5, 6, 18, 19, 20]⟩ | 8 => some ⟨[], [], [0, 3, 4, 5, 6, 18, 19, 20, 21]⟩ | 9 => some ⟨[], [], [0, 3, 4, 5, 6, 8, 18, 19, 20]⟩ | 10 => some ⟨[], [], [0, 3, 4, 5, 6, 18, 19, 20]⟩ | 11 => some ⟨[], [], [0, 3, 4, 5, 6, 18, 19, 20]⟩ | 12 => some ⟨[], [], [0, 3, 4, 9]⟩ | 13 => some ⟨[], [], [0, 3, 4, 9, 48, 49]⟩ | 14 => some ⟨[], [], [0, 3, 4, 9, 48, 49, 50]⟩ | 15 => some ⟨[], [], [0, 3, 4, 9, 10, 48, 49]⟩ | 16 => some ⟨[], [], [0, 3, 4, 9, 48, 49]⟩ | 17 => some ⟨[], [], [0, 3, 4, 9, 48, 49]⟩ | 18 => some ⟨[], [], [2]⟩ | _ => none), (fun _ => none), (fun k => match k with | 8 => some ⟨[], [], [0, 3, 4, 5, 6, 18, 19, 20]⟩ | 14 => some ⟨[], [], [0, 3, 4, 9, 48, 49]⟩ | _ => none), ⟨[], [], [0]⟩, fuel, g, 69, 1, fun _ => []⟩
noncomputable def F4 (fuel g : Nat) (law_first : Bool) (t_Join : Int → List Int → Int) (ref_Join2 : Int → Int → Int) (t_And : List Int → Int) (ints_pre : List Int → Bool) (law_ints : List Int → List Int) (ref_And : List Int → Int) (t_Or : List Int → Int) (ref_Or : List Int → Int) (p0 : List Int) : Option Out := runFn (c4 fuel g law_first t_Join ref_Join2 t_And ints_pre law_ints ref_And t_Or ref_Or) (bodyOf Go.Proofs.Try.f4) [.tmp 2] [.sl 0 0 (List.length p0)] (memOf [⟨false, 22, .col (.int .i64) p0⟩]) outT
noncomputable def L4_0 (fuel g : Nat) (law_first : Bool) (t_Join : Int → List Int → Int) (ref_Join2 : Int → Int → Int) (t_And : List Int → Int) (ints_pre : List Int → Bool) (law_ints : List Int → List Int) (ref_And : List Int → Int) (t_Or : List Int → Int) (ref_Or : List Int → Int) (n0 : Nat) (p0 : List Int) (x0_6 : Int) (x0_10 : Int) : Option Out := iterAt (c4 fuel g law_first t_Join ref_Join2 t_And ints_pre law_ints ref_And t_Or ref_Or) (bodyOf Go.Proofs.Try.f4) [.r, .r, .r, .r, .r, .r, .l, .r, .l] n0 ⟨ofL [(0, .sl 0 0 (List.length p0)), (3, .sl 1 0 (0 + (List.length p0))), (4, .bool true), (5, .int .i64 (t_Join (1 : Int) (List.take (List.length p0) p0))), (6, .int .i64 x0_6), (18, .sl 1 0 (0 + (List.length p0))), (19, .int .i64 (((0 + (List.length p0)) : Nat) : Int)), (20, .int .i64 x0_10)], ofM [(0, some ⟨false, 22, .col (.int .i64) p0⟩), (1, some ⟨true, 22, .col (.int .i64) ([] ++ (List.take (List.length p0) p0))⟩)], 2⟩ (retK (c4 fuel g law_first t_Join ref_Join2 t_And ints_pre law_ints ref_And t_Or ref_Or) [.tmp 2] outT)
noncomputable def L4_1 (fuel g : Nat) (law_first : Bool) (t_Join : Int → List Int → Int) (ref_Join2 : Int → Int → Int) (t_And : List Int → Int) (ints_pre : List Int → Bool) (law_ints : List Int → List Int) (ref_And : List Int → Int) (t_Or : List Int → Int) (ref_Or : List Int → Int) (n0 : Nat) (p0 : List Int) (x1_4 : Bool) (x1_5 : Bool) (x1_7 : Int) : Option Out := iterAt (c4 fuel g law_first t_Join ref_Join2 t_And ints_pre law_ints ref_And t_Or ref_Or) (bodyOf Go.Proofs.Try.f4) [.r, .r, .r, .r, .r, .r, .r, .r, .l, .r, .l] n0 ⟨ofL [(0, .sl 0 0 (List.length p0)), (3, .sl 1 0 (0 + (List.length p0))), (4, .bool x1_4), (9, .bool x1_5), (48, .int .i64 (((0 + (List.length p0)) : Nat) : Int)), (49, .int .i64 x1_7)], ofM [(0, some ⟨false, 22, .col (.int .i64) p0⟩), (1, some ⟨true, 22, .col (.int .i64) ([] ++ (List.take (List.length p0) p0))⟩)], 2⟩ (retK (c4 fuel g law_first t_Join ref_Join2 t_And ints_pre law_ints ref_And t_Or ref_Or) [.tmp 2] outT)
theorem L4_0_succ (fuel g : Nat) (law_first : Bool) (t_Join : Int → List Int → Int) (ref_Join2 : Int → Int → Int) (t_And : List Int → Int) (ints_pre : List Int → Bool) (law_ints : List Int → List Int) (ref_And : List Int → Int) (t_Or : List Int → Int) (ref_Or : List Int → Int) (n0 : Nat) (p0 : List Int) (x0_6 : Int) (x0_10 : Int) : L4_0 fuel g law_first t_Join ref_Join2 t_And ints_pre law_ints ref_And t_Or ref_Or (n0 + 1) p0 x0_6 x0_10 = cnd (decide (x0_10 < (((0 + (List.length p0)) : Nat) : Int)))
  (cnd (decide (0 ≤ x0_10))
  (cnd (decide (x0_10 < (((0 + (List.length p0)) : Nat) : Int)))
  (L4_0 fuel g law_first t_Join ref_Join2 t_And ints_pre law_ints ref_And t_Or ref_Or n0 p0 (ref_Join2 x0_6 (List.getD ([] ++ (List.take (List.length p0) p0)) (0 + (Int.toNat x0_10)) (0 : Int))) (IntKind.i64.wrap (x0_10 + (1 : Int))))
  none)
  none)
  (cnd (ints_pre (List.take (0 + (List.length p0)) ([] ++ (List.take (List.length p0) p0))))
  (cnd ((t_And (List.take (List.length p0) p0)) == (ref_And (List.take (List.length (law_ints (List.take (0 + (List.length p0)) ([] ++ (List.take (List.length p0) p0))))) (law_ints (List.take (0 + (List.length p0)) ([] ++ (List.take (List.length p0) p0)))))))
  (cnd (ints_pre (List.take (0 + (List.length p0)) ([] ++ (List.take (List.length p0) p0))))
  (cnd ((t_Or (List.take (List.length p0) p0)) == (ref_Or (List.take (List.length (law_ints (List.take (0 + (List.length p0)) ([] ++ (List.take (List.length p0) p0))))) (law_ints (List.take (0 + (List.length p0)) ([] ++ (List.take (List.length p0) p0)))))))
  (L4_1 fuel g law_first t_Join ref_Join2 t_And ints_pre law_ints ref_And t_Or ref_Or fuel p0 true ((t_Join (1 : Int) (List.take (List.length p0) p0)) == x0_6) (0 : Int))
  (L4_1 fuel g law_first t_Join ref_Join2 t_And ints_pre law_ints ref_And t_Or ref_Or fuel p0 true false (0 : Int)))
  none)
  (L4_1 fuel g law_first t_Join ref_Join2 t_And ints_pre law_ints ref_And t_Or ref_Or fuel p0 true false (0 : Int)))
  none) := by kernel_rfl
theorem L4_0_zero (fuel g : Nat) (law_first : Bool) (t_Join : Int → List Int → Int) (ref_Join2 : Int → Int → Int) (t_And : List Int → Int) (ints_pre : List Int → Bool) (law_ints : List Int → List Int) (ref_And : List Int → Int) (t_Or : List Int → Int) (ref_Or : List Int → Int) (p0 : List Int) (x0_6 : Int) (x0_10 : Int) : L4_0 fuel g law_first t_Join ref_Join2 t_And ints_pre law_ints ref_And t_Or ref_Or 0 p0 x0_6 x0_10 = none := by kernel_rfl
theorem L4_1_succ (fuel g : Nat) (law_first : Bool) (t_Join : Int → List Int → Int) (ref_Join2 : Int → Int → Int) (t_And : List Int → Int) (ints_pre : List Int → Bool) (law_ints : List Int → List Int) (ref_And : List Int → Int) (t_Or : List Int → Int) (ref_Or : List Int → Int) (n0 : Nat) (p0 : List Int) (x1_4 : Bool) (x1_5 : Bool) (x1_7 : Int) : L4_1 fuel g law_first t_Join ref_Join2 t_And ints_pre law_ints ref_And t_Or ref_Or (n0 + 1) p0 x1_4 x1_5 x1_7 = cnd (decide (x1_7 < (((0 + (List.length p0)) : Nat) : Int)))
  (cnd x1_4
  (cnd (decide (0 ≤ x1_7))
  (cnd (decide (x1_7 < (((0 + (List.length p0)) : Nat) : Int)))
  (cnd (decide (0 ≤ x1_7))
  (cnd (decide (x1_7 < (((List.length p0) : Nat) : Int)))
  (L4_1 fuel g law_first t_Join ref_Join2 t_And ints_pre law_ints ref_And t_Or ref_Or n0 p0 ((List.getD ([] ++ (List.take (List.length p0) p0)) (0 + (Int.toNat x1_7)) (0 : Int)) == (List.getD p0 (0 + (Int.toNat x1_7)) (0 : Int))) x1_5 (IntKind.i64.wrap (x1_7 + (1 : Int))))
  none)
  none)
  none)
  none)
  (L4_1 fuel g law_first t_Join ref_Join2 t_And ints_pre law_ints ref_And t_Or ref_Or n0 p0 false x1_5 (IntKind.i64.wrap (x1_7 + (1 : Int)))))
  (cnd x1_5
  (some (.bool x1_4, ofM [(0, some ⟨false, 22, .col (.int .i64) p0⟩)], 1))
  (some (.bool false, ofM [(0, some ⟨false, 22, .col (.int .i64) p0⟩)], 1))) := by kernel_rfl
theorem L4_1_zero (fuel g : Nat) (law_first : Bool) (t_Join : Int → List Int → Int) (ref_Join2 : Int → Int → Int) (t_And : List Int → Int) (ints_pre : List Int → Bool) (law_ints : List Int → List Int) (ref_And : List Int → Int) (t_Or : List Int → Int) (ref_Or : List Int → Int) (p0 : List Int) (x1_4 : Bool) (x1_5 : Bool) (x1_7 : Int) : L4_1 fuel g law_first t_Join ref_Join2 t_And ints_pre law_ints ref_And t_Or ref_Or 0 p0 x1_4 x1_5 x1_7 = none := by kernel_rfl
theorem F4_eq (fuel g : Nat) (law_first : Bool) (t_Join : Int → List Int → Int) (ref_Join2 : Int → Int → Int) (t_And : List Int → Int) (ints_pre : List Int → Bool) (law_ints : List Int → List Int) (ref_And : List Int → Int) (t_Or : List Int → Int) (ref_Or : List Int → Int) (p0 : List Int) : F4 fuel g law_first t_Join ref_Join2 t_And ints_pre law_ints ref_And t_Or ref_Or p0 = cnd (!law_first)
  (some (.bool false, ofM [(0, some ⟨false, 22, .col (.int .i64) p0⟩)], 1))
  (cnd (decide ((0 + (List.length p0)) * 8 ≤ 140737488355328))
  (L4_0 fuel g law_first t_Join ref_Join2 t_And ints_pre law_ints ref_And t_Or ref_Or fuel p0 (1 : Int) (0 : Int))
  none) := by kernel_rfl
/-! armature/armaturelaw01.TriSplits -/
noncomputable def c5 (fuel g : Nat) (law_first : Bool) (t_And : List Int → Int) (t_Or : List Int → Int) (t_Join : Int → List Int → Int) : Ctx := ⟨tab, callOf [(9, e9 law_first), (12, e12 t_And), (13, e13 t_Or), (14, e14 t_Join)], (fun k => match k with | 0 => some ⟨[], [], [0, 1]⟩ | 1 => some ⟨[], [], [0, 1, 7]⟩ | 2 => some ⟨[], [], [4]⟩ | 3 => some ⟨[], [], [0, 1, 5]⟩ | 4 => some ⟨[], [], [4]⟩ | _ => none), (fun _ => none), (fun _ => none), ⟨[], [], [0]⟩, fuel, g, 44, 2, fun _ => []⟩
noncomputable def F5 (fuel g : Nat) (law_first : Bool) (t_And : List Int → Int) (t_Or : List Int → Int) (t_Join : Int → List Int → Int) (p0 : List Int) (p1 : List Int) : Option Out := runFn (c5 fuel g law_first t_And t_Or t_Join) (bodyOf Go.Proofs.Try.f5) [.tmp 4] [.sl 0 0 (List.length p0), .sl 1 0 (List.length p1)] (memOf [⟨false, 22, .col (.int .i64) p0⟩, ⟨false, 22, .col (.int .i64) p1⟩]) outT
theorem F5_eq (fuel g : Nat) (law_first : Bool) (t_And : List Int → Int) (t_Or : List Int → Int) (t_Join : Int → List Int → Int) (p0 : List Int) (p1 : List Int) : F5 fuel g law_first t_And t_Or t_Join p0 p1 = cnd (!law_first)
  (some (.bool false, ofM [(0, some ⟨false, 22, .col (.int .i64) p0⟩), (1, some ⟨false, 22, .col (.int .i64) p1⟩)], 2))
  (cnd (decide ((0 + (List.length p0)) * 8 ≤ 140737488355328))
  (cnd (decide (((0 + (List.length p0)) + (List.length p1)) * 8 ≤ 140737488355328))
  (cnd ((t_And (List.take ((0 + (List.length p0)) + (List.length p1)) ((List.take (0 + (List.length p0)) ([] ++ (List.take (List.length p0) p0))) ++ (List.take (List.length p1) p1)))) == (t_And [(t_And (List.take (List.length p0) p0)), (t_And (List.take (List.length p1) p1))]))
  (cnd ((t_Or (List.take ((0 + (List.length p0)) + (List.length p1)) ((List.take (0 + (List.length p0)) ([] ++ (List.take (List.length p0) p0))) ++ (List.take (List.length p1) p1)))) == (t_Or [(t_Or (List.take (List.length p0) p0)), (t_Or (List.take (List.length p1) p1))]))
  (some (.bool ((t_Join (0 : Int) (List.take ((0 + (List.length p0)) + (List.length p1)) ((List.take (0 + (List.length p0)) ([] ++ (List.take (List.length p0) p0))) ++ (List.take (List.length p1) p1)))) == (t_Join (t_Join (0 : Int) (List.take (List.length p0) p0)) [(t_Join (0 : Int) (List.take (List.length p1) p1))])), ofM [(0, some ⟨false, 22, .col (.int .i64) p0⟩), (1, some ⟨false, 22, .col (.int .i64) p1⟩)], 2))
  (some (.bool false, ofM [(0, some ⟨false, 22, .col (.int .i64) p0⟩), (1, some ⟨false, 22, .col (.int .i64) p1⟩)], 2)))
  (some (.bool false, ofM [(0, some ⟨false, 22, .col (.int .i64) p0⟩), (1, some ⟨false, 22, .col (.int .i64) p1⟩)], 2)))
  none)
  none) := by kernel_rfl
/-! armature/armaturelaw01.TriTurns -/
noncomputable def c6 (fuel g : Nat) (law_first : Bool) (t_Join : Int → List Int → Int) (t_Below : Int → Int → Bool) (t_And : List Int → Int) (t_Not : Int → Int) (t_Or : List Int → Int) (t_Norm : Int → Int) : Ctx := ⟨tab, callOf [(9, e9 law_first), (14, e14 t_Join), (19, e19 t_Below), (12, e12 t_And), (20, e20 t_Not), (13, e13 t_Or), (21, e21 t_Norm)], (fun k => match k with | 0 => some ⟨[], [], [0, 1]⟩ | 1 => some ⟨[], [], [0, 1, 8]⟩ | 2 => some ⟨[], [], [4]⟩ | 3 => some ⟨[], [], [0, 1, 5]⟩ | 4 => some ⟨[], [], [0, 1, 5, 6]⟩ | 5 => some ⟨[], [], [0, 1, 5, 6, 14]⟩ | 7 => some ⟨[], [], [0, 1, 5, 6, 30]⟩ | 8 => some ⟨[], [], [4]⟩ | 6 => some ⟨[], [], [0, 1, 5, 6]⟩ | 9 => some ⟨[], [], [4]⟩ | _ => none), (fun _ => none), (fun k => match k with | 5 => some ⟨[], [], [0, 1, 5, 6]⟩ | _ => none), ⟨[], [], [0]⟩, fuel, g, 83, 0, fun _ => []⟩
noncomputable def F6 (fuel g : Nat) (law_first : Bool) (t_Join : Int → List Int → Int) (t_Below : Int → Int → Bool) (t_And : List Int → Int) (t_Not : Int → Int) (t_Or : List Int → Int) (t_Norm : Int → Int) (p0 : Int) (p1 : Int) : Option Out := runFn (c6 fuel g law_first t_Join t_Below t_And t_Not t_Or t_Norm) (bodyOf Go.Proofs.Try.f6) [.tmp 4] [.int .i64 p0, .int .i64 p1] (memOf []) outT
noncomputable def L6_0 (fuel g : Nat) (law_first : Bool) (t_Join : Int → List Int → Int) (t_Below : Int → Int → Bool) (t_And : List Int → Int) (t_Not : Int → Int) (t_Or : List Int → Int) (t_Norm : Int → Int) (n0 : Nat) (p0 : Int) (p1 : Int) (x0_3 : Int) : Option Out := iterAt (c6 fuel g law_first t_Join t_Below t_And t_Not t_Or t_Norm) (bodyOf Go.Proofs.Try.f6) [.r, .r, .r, .l, .r, .l] n0 ⟨ofL [(0, .int .i64 p0), (1, .int .i64 p1), (5, .int .i64 (t_Join p0 [p1])), (6, .int .i64 x0_3)], ofM [], 0⟩ (retK (c6 fuel g law_first t_Join t_Below t_And t_Not t_Or t_Norm) [.tmp 4] outT)
theorem L6_0_succ (fuel g : Nat) (law_first : Bool) (t_Join : Int → List Int → Int) (t_Below : Int → Int → Bool) (t_And : List Int → Int) (t_Not : Int → Int) (t_Or : List Int → Int) (t_Norm : Int → Int) (n0 : Nat) (p0 : Int) (p1 : Int) (x0_3 : Int) : L6_0 fuel g law_first t_Join t_Below t_And t_Not t_Or t_Norm (n0 + 1) p0 p1 x0_3 = cnd (decide (x0_3 ≤ (2 : Int)))
  (cnd (t_Below p0 x0_3)
  (cnd (t_Below p1 x0_3)
  (cnd (!(t_Below (t_Join p0 [p1]) x0_3))
  (some (.bool false, ofM [], 0))
  (L6_0 fuel g law_first t_Join t_Below t_And t_Not t_Or t_Norm n0 p0 p1 (IntKind.i64.wrap (x0_3 + (1 : Int)))))
  (L6_0 fuel g law_first t_Join t_Below t_And t_Not t_Or t_Norm n0 p0 p1 (IntKind.i64.wrap (x0_3 + (1 : Int)))))
  (L6_0 fuel g law_first t_Join t_Below t_And t_Not t_Or t_Norm n0 p0 p1 (IntKind.i64.wrap (x0_3 + (1 : Int)))))
  (cnd ((t_Not (t_And [p0, p1])) == (t_Or [(t_Not p0), (t_Not p1)]))
  (cnd ((t_Not (t_Not p0)) == (t_Norm p0))
  (cnd (t_Below p0 (t_Join p0 [p1]))
  (cnd (t_Below p1 (t_Join p0 [p1]))
  (cnd ((t_And [p0, p1]) == (t_And [p1, p0]))
  (some (.bool ((t_Or [p0, p1]) == (t_Or [p1, p0])), ofM [], 0))
  (some (.bool false, ofM [], 0)))
  (some (.bool false, ofM [], 0)))
  (some (.bool false, ofM [], 0)))
  (some (.bool false, ofM [], 0)))
  (some (.bool false, ofM [], 0))) := by kernel_rfl
theorem L6_0_zero (fuel g : Nat) (law_first : Bool) (t_Join : Int → List Int → Int) (t_Below : Int → Int → Bool) (t_And : List Int → Int) (t_Not : Int → Int) (t_Or : List Int → Int) (t_Norm : Int → Int) (p0 : Int) (p1 : Int) (x0_3 : Int) : L6_0 fuel g law_first t_Join t_Below t_And t_Not t_Or t_Norm 0 p0 p1 x0_3 = none := by kernel_rfl
theorem F6_eq (fuel g : Nat) (law_first : Bool) (t_Join : Int → List Int → Int) (t_Below : Int → Int → Bool) (t_And : List Int → Int) (t_Not : Int → Int) (t_Or : List Int → Int) (t_Norm : Int → Int) (p0 : Int) (p1 : Int) : F6 fuel g law_first t_Join t_Below t_And t_Not t_Or t_Norm p0 p1 = cnd (!law_first)
  (some (.bool false, ofM [], 0))
  (L6_0 fuel g law_first t_Join t_Below t_And t_Not t_Or t_Norm fuel p0 p1 (0 : Int)) := by kernel_rfl
/-! armature/armaturelaw01.TriGrows -/
noncomputable def c7 (fuel g : Nat) (law_first : Bool) (t_Join : Int → List Int → Int) (t_And : List Int → Int) (t_Below : Int → Int → Bool) (t_Or : List Int → Int) (t_Not : Int → Int) : Ctx := ⟨tab, callOf [(9, e9 law_first), (14, e14 t_Join), (12, e12 t_And), (19, e19 t_Below), (13, e13 t_Or), (20, e20 t_Not)], (fun k => match k with | 0 => some ⟨[], [], [0, 1, 2]⟩ | 1 => some ⟨[], [], [0, 1, 2, 9]⟩ | 2 => some ⟨[], [], [6]⟩ | 3 => some ⟨[], [], [0, 1, 7]⟩ | 4 => some ⟨[], [], [6]⟩ | _ => none), (fun _ => none), (fun _ => none), ⟨[], [], [0]⟩, fuel, g, 41, 0, fun _ => []⟩
noncomputable def F7 (fuel g : Nat) (law_first : Bool) (t_Join : Int → List Int → Int) (t_And : List Int → Int) (t_Below : Int → Int → Bool) (t_Or : List Int → Int) (t_Not : Int → Int) (p0 : Int) (p1 : Int) (p2 : Int) : Option Out := runFn (c7 fuel g law_first t_Join t_And t_Below t_Or t_Not) (bodyOf Go.Proofs.Try.f7) [.tmp 6] [.int .i64 p0, .int .i64 p1, .int .i64 p2] (memOf []) outT
theorem F7_eq (fuel g : Nat) (law_first : Bool) (t_Join : Int → List Int → Int) (t_And : List Int → Int) (t_Below : Int → Int → Bool) (t_Or : List Int → Int) (t_Not : Int → Int) (p0 : Int) (p1 : Int) (p2 : Int) : F7 fuel g law_first t_Join t_And t_Below t_Or t_Not p0 p1 p2 = cnd (!law_first)
  (some (.bool false, ofM [], 0))
  (cnd (t_Below (t_And [p0, p1]) (t_And [(t_Join p0 [p2]), p1]))
  (cnd (t_Below (t_Or [p0, p1]) (t_Or [(t_Join p0 [p2]), p1]))
  (some (.bool (t_Below (t_Not p0) (t_Not (t_Join p0 [p2]))), ofM [], 0))
  (some (.bool false, ofM [], 0)))
  (some (.bool false, ofM [], 0))) := by kernel_rfl
/-! armature/armaturelaw01.TriTables -/
noncomputable def c8 (fuel g : Nat) (law_first : Bool) (t_Read : ByteArray → Int × Int) (ref_Text : Int → ByteArray) (t_Norm : Int → Int) (ref_Norm : Int → Int) (t_Not : Int → Int) (ref_Not : Int → Int) (t_Join : Int → List Int → Int) (ref_Join2 : Int → Int → Int) (t_Below : Int → Int → Bool) (t_Text : Int → ByteArray) (t_Of : Bool → Int) (t_Allows : Int → Bool → Bool) : Ctx := ⟨tab, callOf [(9, e9 law_first), (22, e22 t_Read), (23, e23 ref_Text), (21, e21 t_Norm), (24, e24 ref_Norm), (20, e20 t_Not), (25, e25 ref_Not), (14, e14 t_Join), (15, e15 ref_Join2), (19, e19 t_Below), (26, e26 t_Text), (27, e27 t_Of), (10, e10 t_Allows)], (fun k => match k with | 0 => some ⟨[], [], [0, 1, 2]⟩ | 1 => some ⟨[], [], [0, 1, 2, 15]⟩ | 2 => some ⟨[], [], [6]⟩ | 3 => some ⟨[], [], [0, 1, 2, 7, 8]⟩ | 4 => some ⟨[], [], [0, 1, 2, 7, 8, 9, 10]⟩ | 5 => some ⟨[], [], [0, 1, 2, 7, 8, 9, 10, 11, 12]⟩ | 6 => some ⟨[], [], [0, 1, 2, 7, 8, 9, 10, 11, 12, 13]⟩ | 7 => some ⟨[], [], [0, 1, 2, 7, 8, 9, 10, 11, 12, 13, 24]⟩ | 9 => some ⟨[], [], [0, 1, 2, 7, 8, 9, 10, 11, 12, 13, 30]⟩ | 10 => some ⟨[], [], [0, 1, 2, 7, 8, 9, 10, 11, 12, 13]⟩ | 8 => some ⟨[], [], [0, 1, 2, 7, 8, 9, 10, 11, 12, 13]⟩ | 11 => some ⟨[], [], [6]⟩ | _ => none), (fun _ => none), (fun k => match k with | 7 => some ⟨[], [], [0, 1, 2, 7, 8, 9, 10, 11, 12, 13]⟩ | _ => none), ⟨[], [], [0]⟩, fuel, g, 118, 0, fun _ => []⟩
noncomputable def F8 (fuel g : Nat) (law_first : Bool) (t_Read : ByteArray → Int × Int) (ref_Text : Int → ByteArray) (t_Norm : Int → Int) (ref_Norm : Int → Int) (t_Not : Int → Int) (ref_Not : Int → Int) (t_Join : Int → List Int → Int) (ref_Join2 : Int → Int → Int) (t_Below : Int → Int → Bool) (t_Text : Int → ByteArray) (t_Of : Bool → Int) (t_Allows : Int → Bool → Bool) (p0 : Int) (p1 : Int) (p2 : ByteArray) : Option Out := runFn (c8 fuel g law_first t_Read ref_Text t_Norm ref_Norm t_Not ref_Not t_Join ref_Join2 t_Below t_Text t_Of t_Allows) (bodyOf Go.Proofs.Try.f8) [.tmp 6] [.int .i64 p0, .int .i64 p1, .str p2] (memOf []) outT
noncomputable def L8_0 (fuel g : Nat) (law_first : Bool) (t_Read : ByteArray → Int × Int) (ref_Text : Int → ByteArray) (t_Norm : Int → Int) (ref_Norm : Int → Int) (t_Not : Int → Int) (ref_Not : Int → Int) (t_Join : Int → List Int → Int) (ref_Join2 : Int → Int → Int) (t_Below : Int → Int → Bool) (t_Text : Int → ByteArray) (t_Of : Bool → Int) (t_Allows : Int → Bool → Bool) (n0 : Nat) (p0 : Int) (p1 : Int) (p2 : ByteArray) (x0_7 : Int) (x0_8 : Int) (x0_9 : Int) : Option Out := iterAt (c8 fuel g law_first t_Read ref_Text t_Norm ref_Norm t_Not ref_Not t_Join ref_Join2 t_Below t_Text t_Of t_Allows) (bodyOf Go.Proofs.Try.f8) [.r, .r, .r, .r, .r, .l, .r, .l] n0 ⟨ofL [(0, .int .i64 p0), (1, .int .i64 p1), (2, .str p2), (7, .int .i64 p0), (8, .int .i64 p1), (9, .int .i64 (t_Read p2).1), (10, .int .i64 (t_Read p2).2), (11, .int .i64 x0_7), (12, .int .i64 x0_8), (13, .int .i64 x0_9)], ofM [], 0⟩ (retK (c8 fuel g law_first t_Read ref_Text t_Norm ref_Norm t_Not ref_Not t_Join ref_Join2 t_Below t_Text t_Of t_Allows) [.tmp 6] outT)
theorem L8_0_succ (fuel g : Nat) (law_first : Bool) (t_Read : ByteArray → Int × Int) (ref_Text : Int → ByteArray) (t_Norm : Int → Int) (ref_Norm : Int → Int) (t_Not : Int → Int) (ref_Not : Int → Int) (t_Join : Int → List Int → Int) (ref_Join2 : Int → Int → Int) (t_Below : Int → Int → Bool) (t_Text : Int → ByteArray) (t_Of : Bool → Int) (t_Allows : Int → Bool → Bool) (n0 : Nat) (p0 : Int) (p1 : Int) (p2 : ByteArray) (x0_7 : Int) (x0_8 : Int) (x0_9 : Int) : L8_0 fuel g law_first t_Read ref_Text t_Norm ref_Norm t_Not ref_Not t_Join ref_Join2 t_Below t_Text t_Of t_Allows (n0 + 1) p0 p1 p2 x0_7 x0_8 x0_9 = cnd (decide (x0_9 < (3 : Int)))
  (cnd (((ref_Text x0_9)).toList == (p2).toList)
  (L8_0 fuel g law_first t_Read ref_Text t_Norm ref_Norm t_Not ref_Not t_Join ref_Join2 t_Below t_Text t_Of t_Allows n0 p0 p1 p2 x0_9 (0 : Int) (IntKind.i64.wrap (x0_9 + (1 : Int))))
  (L8_0 fuel g law_first t_Read ref_Text t_Norm ref_Norm t_Not ref_Not t_Join ref_Join2 t_Below t_Text t_Of t_Allows n0 p0 p1 p2 x0_7 x0_8 (IntKind.i64.wrap (x0_9 + (1 : Int)))))
  (cnd ((t_Norm p0) == (ref_Norm p0))
  (cnd ((t_Not p0) == (ref_Not p0))
  (cnd ((t_Join p0 [p1]) == (ref_Join2 p0 p1))
  (cnd ((t_Join p0 []) == (ref_Norm p0))
  (cnd ((ref_Norm p1) == (2 : Int))
  (cnd ((t_Below p0 p1) == true)
  (cnd (((t_Text p0)).toList == ((ref_Text p0)).toList)
  (cnd ((t_Read p2).1 == x0_7)
  (cnd ((t_Read p2).2 == x0_8)
  (cnd ((t_Of true) == (1 : Int))
  (cnd ((t_Of false) == (0 : Int))
  (cnd ((t_Allows p0 true) == ((ref_Norm p0) != (0 : Int)))
  (some (.bool ((t_Allows p0 false) == ((ref_Norm p0) != (1 : Int))), ofM [], 0))
  (some (.bool false, ofM [], 0)))
  (some (.bool false, ofM [], 0)))
  (some (.bool false, ofM [], 0)))
  (some (.bool false, ofM [], 0)))
  (some (.bool false, ofM [], 0)))
  (some (.bool false, ofM [], 0)))
  (some (.bool false, ofM [], 0)))
  (cnd ((t_Below p0 p1) == ((ref_Norm p0) == (ref_Norm p1)))
  (cnd (((t_Text p0)).toList == ((ref_Text p0)).toList)
  (cnd ((t_Read p2).1 == x0_7)
  (cnd ((t_Read p2).2 == x0_8)
  (cnd ((t_Of true) == (1 : Int))
  (cnd ((t_Of false) == (0 : Int))
  (cnd ((t_Allows p0 true) == ((ref_Norm p0) != (0 : Int)))
  (some (.bool ((t_Allows p0 false) == ((ref_Norm p0) != (1 : Int))), ofM [], 0))
  (some (.bool false, ofM [], 0)))
  (some (.bool false, ofM [], 0)))
  (some (.bool false, ofM [], 0)))
  (some (.bool false, ofM [], 0)))
  (some (.bool false, ofM [], 0)))
  (some (.bool false, ofM [], 0)))
  (some (.bool false, ofM [], 0))))
  (some (.bool false, ofM [], 0)))
  (some (.bool false, ofM [], 0)))
  (some (.bool false, ofM [], 0)))
  (some (.bool false, ofM [], 0))) := by kernel_rfl
theorem L8_0_zero (fuel g : Nat) (law_first : Bool) (t_Read : ByteArray → Int × Int) (ref_Text : Int → ByteArray) (t_Norm : Int → Int) (ref_Norm : Int → Int) (t_Not : Int → Int) (ref_Not : Int → Int) (t_Join : Int → List Int → Int) (ref_Join2 : Int → Int → Int) (t_Below : Int → Int → Bool) (t_Text : Int → ByteArray) (t_Of : Bool → Int) (t_Allows : Int → Bool → Bool) (p0 : Int) (p1 : Int) (p2 : ByteArray) (x0_7 : Int) (x0_8 : Int) (x0_9 : Int) : L8_0 fuel g law_first t_Read ref_Text t_Norm ref_Norm t_Not ref_Not t_Join ref_Join2 t_Below t_Text t_Of t_Allows 0 p0 p1 p2 x0_7 x0_8 x0_9 = none := by kernel_rfl
theorem F8_eq (fuel g : Nat) (law_first : Bool) (t_Read : ByteArray → Int × Int) (ref_Text : Int → ByteArray) (t_Norm : Int → Int) (ref_Norm : Int → Int) (t_Not : Int → Int) (ref_Not : Int → Int) (t_Join : Int → List Int → Int) (ref_Join2 : Int → Int → Int) (t_Below : Int → Int → Bool) (t_Text : Int → ByteArray) (t_Of : Bool → Int) (t_Allows : Int → Bool → Bool) (p0 : Int) (p1 : Int) (p2 : ByteArray) : F8 fuel g law_first t_Read ref_Text t_Norm ref_Norm t_Not ref_Not t_Join ref_Join2 t_Below t_Text t_Of t_Allows p0 p1 p2 = cnd (!law_first)
  (some (.bool false, ofM [], 0))
  (L8_0 fuel g law_first t_Read ref_Text t_Norm ref_Norm t_Not ref_Not t_Join ref_Join2 t_Below t_Text t_Of t_Allows fuel p0 p1 p2 (0 : Int) (40 : Int) (0 : Int)) := by kernel_rfl
/-! armature/armaturelaw01.first -/
noncomputable def c9 (fuel g : Nat) (t_And : List Int → Int) (t_Not : Int → Int) (t_Text : Int → ByteArray) : Ctx := ⟨tab, callOf [(12, e12 t_And), (20, e20 t_Not), (26, e26 t_Text)], (fun k => match k with | 0 => some ⟨[], [], []⟩ | 1 => some ⟨[], [], [0]⟩ | _ => none), (fun _ => none), (fun _ => none), ⟨[], [], [0]⟩, fuel, g, 12, 0, fun _ => []⟩
noncomputable def F9 (fuel g : Nat) (t_And : List Int → Int) (t_Not : Int → Int) (t_Text : Int → ByteArray) : Option Out := runFn (c9 fuel g t_And t_Not t_Text) (bodyOf Go.Proofs.Try.f9) [.tmp 0] [] (memOf []) outT
theorem F9_eq (fuel g : Nat) (t_And : List Int → Int) (t_Not : Int → Int) (t_Text : Int → ByteArray) : F9 fuel g t_And t_Not t_Text = cnd ((t_And [(1 : Int), (2 : Int)]) == (2 : Int))
  (cnd ((t_Not (0 : Int)) == (1 : Int))
  (some (.bool (((t_Text (1 : Int))).toList == ((⟨#[49]⟩ : ByteArray)).toList), ofM [], 0))
  (some (.bool false, ofM [], 0)))
  (some (.bool false, ofM [], 0)) := by kernel_rfl
/-! armature/tri.Allows -/
noncomputable def c10 (fuel g : Nat) (t_Norm : Int → Int) (t_Of : Bool → Int) : Ctx := ⟨tab, callOf [(21, e21 t_Norm), (27, e27 t_Of)], (fun k => match k with | 0 => some ⟨[], [], [0, 1]⟩ | 1 => some ⟨[], [], [4]⟩ | _ => none), (fun _ => none), (fun _ => none), ⟨[], [], [0]⟩, fuel, g, 15, 0, fun _ => []⟩
noncomputable def F10 (fuel g : Nat) (t_Norm : Int → Int) (t_Of : Bool → Int) (p0 : Int) (p1 : Bool) : Option Out := runFn (c10 fuel g t_Norm t_Of) (bodyOf Go.Proofs.Try.f10) [.tmp 4] [.int .i64 p0, .bool p1] (memOf []) outT
theorem F10_eq (fuel g : Nat) (t_Norm : Int → Int) (t_Of : Bool → Int) (p0 : Int) (p1 : Bool) : F10 fuel g t_Norm t_Of p0 p1 = cnd ((t_Norm p0) == (2 : Int))
  (some (.bool true, ofM [], 0))
  (some (.bool ((t_Norm p0) == (t_Of p1)), ofM [], 0)) := by kernel_rfl
/-! armature/armaturelaw01.said -/
noncomputable def c11 (fuel g : Nat) (t_Allows : Int → Bool → Bool) : Ctx := ⟨tab, callOf [(10, e10 t_Allows)], (fun k => match k with | 0 => some ⟨[], [], [0, 3]⟩ | 1 => some ⟨[], [], [4]⟩ | _ => none), (fun _ => none), (fun _ => none), ⟨[], [], [0]⟩, fuel, g, 17, 0, fun _ => []⟩
noncomputable def F11 (fuel g : Nat) (t_Allows : Int → Bool → Bool) (p0 : Int) (p1_0 : Bool) (p1_1 : Bool) : Option Out := runFn (c11 fuel g t_Allows) (bodyOf Go.Proofs.Try.f11) [.tmp 4] [.int .i64 p0, .agg [.bool p1_0, .bool p1_1]] (memOf []) outT
theorem F11_eq (fuel g : Nat) (t_Allows : Int → Bool → Bool) (p0 : Int) (p1_0 : Bool) (p1_1 : Bool) : F11 fuel g t_Allows p0 p1_0 p1_1 = cnd ((t_Allows p0 false) == p1_0)
  (some (.bool ((t_Allows p0 true) == p1_1), ofM [], 0))
  (some (.bool false, ofM [], 0)) := by kernel_rfl
/-! armature/tri.And -/
noncomputable def c12 (fuel g : Nat) (t_Norm : Int → Int) : Ctx := ⟨tab, callOf [(21, e21 t_Norm)], (fun k => match k with | 0 => some ⟨[], [], [0]⟩ | 1 => some ⟨[], [], [0, 3]⟩ | 2 => some ⟨[], [], [3, 6, 7, 8]⟩ | 3 => some ⟨[], [], [3, 6, 7, 8, 9]⟩ | 4 => some ⟨[], [], [3, 5, 6, 7, 8]⟩ | 5 => some ⟨[], [], [3, 6, 7, 8, 13]⟩ | 6 => some ⟨[], [], [3, 6, 7, 8, 13, 14]⟩ | 7 => some ⟨[], [], [2]⟩ | 8 => some ⟨[], [], [3, 6, 7, 8, 16]⟩ | 9 => some ⟨[], [], [3, 6, 7, 8]⟩ | 10 => some ⟨[], [], [3, 6, 7, 8]⟩ | 11 => some ⟨[], [], [2]⟩ | _ => none), (fun _ => none), (fun k => match k with | 3 => some ⟨[], [], [3, 6, 7, 8]⟩ | _ => none), ⟨[], [], [0]⟩, fuel, g, 20, 1, fun _ => []⟩
noncomputable def F12 (fuel g : Nat) (t_Norm : Int → Int) (p0 : List Int) : Option Out := runFn (c12 fuel g t_Norm) (bodyOf Go.Proofs.Try.f12) [.tmp 2] [.sl 0 0 (List.length p0)] (memOf [⟨false, 22, .col (.int .i64) p0⟩]) outT
noncomputable def L12_0 (fuel g : Nat) (t_Norm : Int → Int) (n0 : Nat) (p0 : List Int) (x0_0 : Int) (x0_4 : Int) : Option Out := iterAt (c12 fuel g t_Norm) (bodyOf Go.Proofs.Try.f12) [.r, .r, .l, .r, .l] n0 ⟨ofL [(3, .int .i64 x0_0), (6, .sl 0 0 (List.length p0)), (7, .int .i64 (((List.length p0) : Nat) : Int)), (8, .int .i64 x0_4)], ofM [(0, some ⟨false, 22, .col (.int .i64) p0⟩)], 1⟩ (retK (c12 fuel g t_Norm) [.tmp 2] outT)
theorem L12_0_succ (fuel g : Nat) (t_Norm : Int → Int) (n0 : Nat) (p0 : List Int) (x0_0 : Int) (x0_4 : Int) : L12_0 fuel g t_Norm (n0 + 1) p0 x0_0 x0_4 = cnd (decide (x0_4 < (((List.length p0) : Nat) : Int)))
  (cnd (decide (0 ≤ x0_4))
  (cnd (decide (x0_4 < (((List.length p0) : Nat) : Int)))
  (cnd ((t_Norm (List.getD p0 (0 + (Int.toNat x0_4)) (0 : Int))) == (0 : Int))
  (some (.int .i64 (0 : Int), ofM [(0, some ⟨false, 22, .col (.int .i64) p0⟩)], 1))
  (cnd ((t_Norm (List.getD p0 (0 + (Int.toNat x0_4)) (0 : Int))) == (2 : Int))
  (L12_0 fuel g t_Norm n0 p0 (2 : Int) (IntKind.i64.wrap (x0_4 + (1 : Int))))
  (L12_0 fuel g t_Norm n0 p0 x0_0 (IntKind.i64.wrap (x0_4 + (1 : Int))))))
  none)
  none)
  (some (.int .i64 x0_0, ofM [(0, some ⟨false, 22, .col (.int .i64) p0⟩)], 1)) := by kernel_rfl
theorem L12_0_zero (fuel g : Nat) (t_Norm : Int → Int) (p0 : List Int) (x0_0 : Int) (x0_4 : Int) : L12_0 fuel g t_Norm 0 p0 x0_0 x0_4 = none := by kernel_rfl
theorem F12_eq (fuel g : Nat) (t_Norm : Int → Int) (p0 : List Int) : F12 fuel g t_Norm p0 = L12_0 fuel g t_Norm fuel p0 (1 : Int) (0 : Int) := by kernel_rfl
/-! armature/tri.Or -/
noncomputable def c13 (fuel g : Nat) (t_Norm : Int → Int) : Ctx := ⟨tab, callOf [(21, e21 t_Norm)], (fun k => match k with | 0 => some ⟨[], [], [0]⟩ | 1 => some ⟨[], [], [0, 3]⟩ | 2 => some ⟨[], [], [3, 6, 7, 8]⟩ | 3 => some ⟨[], [], [3, 6, 7, 8, 9]⟩ | 4 => some ⟨[], [], [3, 5, 6, 7, 8]⟩ | 5 => some ⟨[], [], [3, 6, 7, 8, 13]⟩ | 6 => some ⟨[], [], [3, 6, 7, 8, 13, 14]⟩ | 7 => some ⟨[], [], [2]⟩ | 8 => some ⟨[], [], [3, 6, 7, 8, 16]⟩ | 9 => some ⟨[], [], [3, 6, 7, 8]⟩ | 10 => some ⟨[], [], [3, 6, 7, 8]⟩ | 11 => some ⟨[], [], [2]⟩ | _ => none), (fun _ => none), (fun k => match k with | 3 => some ⟨[], [], [3, 6, 7, 8]⟩ | _ => none), ⟨[], [], [0]⟩, fuel, g, 20, 1, fun _ => []⟩
noncomputable def F13 (fuel g : Nat) (t_Norm : Int → Int) (p0 : List Int) : Option Out := runFn (c13 fuel g t_Norm) (bodyOf Go.Proofs.Try.f13) [.tmp 2] [.sl 0 0 (List.length p0)] (memOf [⟨false, 22, .col (.int .i64) p0⟩]) outT
noncomputable def L13_0 (fuel g : Nat) (t_Norm : Int → Int) (n0 : Nat) (p0 : List Int) (x0_0 : Int) (x0_4 : Int) : Option Out := iterAt (c13 fuel g t_Norm) (bodyOf Go.Proofs.Try.f13) [.r, .r, .l, .r, .l] n0 ⟨ofL [(3, .int .i64 x0_0), (6, .sl 0 0 (List.length p0)), (7, .int .i64 (((List.length p0) : Nat) : Int)), (8, .int .i64 x0_4)], ofM [(0, some ⟨false, 22, .col (.int .i64) p0⟩)], 1⟩ (retK (c13 fuel g t_Norm) [.tmp 2] outT)
theorem L13_0_succ (fuel g : Nat) (t_Norm : Int → Int) (n0 : Nat) (p0 : List Int) (x0_0 : Int) (x0_4 : Int) : L13_0 fuel g t_Norm (n0 + 1) p0 x0_0 x0_4 = cnd (decide (x0_4 < (((List.length p0) : Nat) : Int)))
  (cnd (decide (0 ≤ x0_4))
  (cnd (decide (x0_4 < (((List.length p0) : Nat) : Int)))
  (cnd ((t_Norm (List.getD p0 (0 + (Int.toNat x0_4)) (0 : Int))) == (1 : Int))
  (some (.int .i64 (1 : Int), ofM [(0, some ⟨false, 22, .col (.int .i64) p0⟩)], 1))
  (cnd ((t_Norm (List.getD p0 (0 + (Int.toNat x0_4)) (0 : Int))) == (2 : Int))
  (L13_0 fuel g t_Norm n0 p0 (2 : Int) (IntKind.i64.wrap (x0_4 + (1 : Int))))
  (L13_0 fuel g t_Norm n0 p0 x0_0 (IntKind.i64.wrap (x0_4 + (1 : Int))))))
  none)
  none)
  (some (.int .i64 x0_0, ofM [(0, some ⟨false, 22, .col (.int .i64) p0⟩)], 1)) := by kernel_rfl
theorem L13_0_zero (fuel g : Nat) (t_Norm : Int → Int) (p0 : List Int) (x0_0 : Int) (x0_4 : Int) : L13_0 fuel g t_Norm 0 p0 x0_0 x0_4 = none := by kernel_rfl
theorem F13_eq (fuel g : Nat) (t_Norm : Int → Int) (p0 : List Int) : F13 fuel g t_Norm p0 = L13_0 fuel g t_Norm fuel p0 (0 : Int) (0 : Int) := by kernel_rfl
/-! armature/tri.Join -/
noncomputable def c14 (fuel g : Nat) (t_Norm : Int → Int) : Ctx := ⟨tab, callOf [(21, e21 t_Norm)], (fun k => match k with | 0 => some ⟨[], [], [0, 1]⟩ | 1 => some ⟨[], [], [1, 5]⟩ | 2 => some ⟨[], [], [5, 10, 11, 12]⟩ | 3 => some ⟨[], [], [5, 10, 11, 12, 13]⟩ | 4 => some ⟨[], [], [5, 7, 10, 11, 12]⟩ | 5 => some ⟨[], [], [5, 10, 11, 12, 19]⟩ | 6 => some ⟨[], [], [4]⟩ | 7 => some ⟨[], [], [5, 10, 11, 12]⟩ | 8 => some ⟨[], [], [4]⟩ | _ => none), (fun _ => none), (fun k => match k with | 3 => some ⟨[], [], [5, 10, 11, 12]⟩ | _ => none), ⟨[], [], [0]⟩, fuel, g, 22, 1, fun _ => []⟩
noncomputable def F14 (fuel g : Nat) (t_Norm : Int → Int) (p0 : Int) (p1 : List Int) : Option Out := runFn (c14 fuel g t_Norm) (bodyOf Go.Proofs.Try.f14) [.tmp 4] [.int .i64 p0, .sl 0 0 (List.length p1)] (memOf [⟨false, 22, .col (.int .i64) p1⟩]) outT
noncomputable def L14_0 (fuel g : Nat) (t_Norm : Int → Int) (n0 : Nat) (p0 : Int) (p1 : List Int) (x0_4 : Int) : Option Out := iterAt (c14 fuel g t_Norm) (bodyOf Go.Proofs.Try.f14) [.r, .r, .l, .r, .l] n0 ⟨ofL [(5, .int .i64 (t_Norm p0)), (10, .sl 0 0 (List.length p1)), (11, .int .i64 (((List.length p1) : Nat) : Int)), (12, .int .i64 x0_4)], ofM [(0, some ⟨false, 22, .col (.int .i64) p1⟩)], 1⟩ (retK (c14 fuel g t_Norm) [.tmp 4] outT)
theorem L14_0_succ (fuel g : Nat) (t_Norm : Int → Int) (n0 : Nat) (p0 : Int) (p1 : List Int) (x0_4 : Int) : L14_0 fuel g t_Norm (n0 + 1) p0 p1 x0_4 = cnd (decide (x0_4 < (((List.length p1) : Nat) : Int)))
  (cnd (decide (0 ≤ x0_4))
  (cnd (decide (x0_4 < (((List.length p1) : Nat) : Int)))
  (cnd ((t_Norm (List.getD p1 (0 + (Int.toNat x0_4)) (0 : Int))) != (t_Norm p0))
  (some (.int .i64 (2 : Int), ofM [(0, some ⟨false, 22, .col (.int .i64) p1⟩)], 1))
  (L14_0 fuel g t_Norm n0 p0 p1 (IntKind.i64.wrap (x0_4 + (1 : Int)))))
  none)
  none)
  (some (.int .i64 (t_Norm p0), ofM [(0, some ⟨false, 22, .col (.int .i64) p1⟩)], 1)) := by kernel_rfl
theorem L14_0_zero (fuel g : Nat) (t_Norm : Int → Int) (p0 : Int) (p1 : List Int) (x0_4 : Int) : L14_0 fuel g t_Norm 0 p0 p1 x0_4 = none := by kernel_rfl
theorem F14_eq (fuel g : Nat) (t_Norm : Int → Int) (p0 : Int) (p1 : List Int) : F14 fuel g t_Norm p0 p1 = L14_0 fuel g t_Norm fuel p0 p1 (0 : Int) := by kernel_rfl
/-! armature/armatureref01.Join2 -/
noncomputable def c15 (fuel g : Nat) (both_pre : List Int → Int → Int → Bool) (ref_both : List Int → Int → Int → Int) : Ctx := ⟨tab, callOf [(28, e28 both_pre ref_both)], (fun k => match k with | 0 => some ⟨[], [], [0, 1]⟩ | 1 => some ⟨[], [], [4]⟩ | _ => none), (fun _ => none), (fun _ => none), ⟨[], [], [0]⟩, fuel, g, 9, 0, fun _ => []⟩
noncomputable def F15 (fuel g : Nat) (both_pre : List Int → Int → Int → Bool) (ref_both : List Int → Int → Int → Int) (p0 : Int) (p1 : Int) : Option Out := runFn (c15 fuel g both_pre ref_both) (bodyOf Go.Proofs.Try.f15) [.tmp 4] [.int .i64 p0, .int .i64 p1] (memOf []) outT
theorem F15_eq (fuel g : Nat) (both_pre : List Int → Int → Int → Bool) (ref_both : List Int → Int → Int → Int) (p0 : Int) (p1 : Int) : F15 fuel g both_pre ref_both p0 p1 = cnd (both_pre [(0 : Int), (2 : Int), (2 : Int), (2 : Int), (1 : Int), (2 : Int), (2 : Int), (2 : Int), (2 : Int)] p0 p1)
  (some (.int .i64 (ref_both [(0 : Int), (2 : Int), (2 : Int), (2 : Int), (1 : Int), (2 : Int), (2 : Int), (2 : Int), (2 : Int)] p0 p1), ofM [], 0))
  none := by kernel_rfl
/-! armature/armatureref01.And -/
noncomputable def c16 (fuel g : Nat) (ref_And2 : Int → Int → Int) : Ctx := ⟨tab, callOf [(29, e29 ref_And2)], (fun k => match k with | 0 => some ⟨[], [], [0]⟩ | 1 => some ⟨[], [], [0, 3]⟩ | 2 => some ⟨[], [], [3, 6, 7, 8]⟩ | 3 => some ⟨[], [], [3, 6, 7, 8, 9]⟩ | 4 => some ⟨[], [], [3, 5, 6, 7, 8]⟩ | 5 => some ⟨[], [], [3, 6, 7, 8]⟩ | 6 => some ⟨[], [], [3, 6, 7, 8]⟩ | 7 => some ⟨[], [], [2]⟩ | _ => none), (fun _ => none), (fun k => match k with | 3 => some ⟨[], [], [3, 6, 7, 8]⟩ | _ => none), ⟨[], [], [0]⟩, fuel, g, 17, 1, fun _ => []⟩
noncomputable def F16 (fuel g : Nat) (ref_And2 : Int → Int → Int) (p0 : List Int) : Option Out := runFn (c16 fuel g ref_And2) (bodyOf Go.Proofs.Try.f16) [.tmp 2] [.sl 0 0 (List.length p0)] (memOf [⟨false, 3, .col (.int .i64) p0⟩]) outT
noncomputable def L16_0 (fuel g : Nat) (ref_And2 : Int → Int → Int) (n0 : Nat) (p0 : List Int) (x0_0 : Int) (x0_4 : Int) : Option Out := iterAt (c16 fuel g ref_And2) (bodyOf Go.Proofs.Try.f16) [.r, .r, .l, .r, .l] n0 ⟨ofL [(3, .int .i64 x0_0), (6, .sl 0 0 (List.length p0)), (7, .int .i64 (((List.length p0) : Nat) : Int)), (8, .int .i64 x0_4)], ofM [(0, some ⟨false, 3, .col (.int .i64) p0⟩)], 1⟩ (retK (c16 fuel g ref_And2) [.tmp 2] outT)
theorem L16_0_succ (fuel g : Nat) (ref_And2 : Int → Int → Int) (n0 : Nat) (p0 : List Int) (x0_0 : Int) (x0_4 : Int) : L16_0 fuel g ref_And2 (n0 + 1) p0 x0_0 x0_4 = cnd (decide (x0_4 < (((List.length p0) : Nat) : Int)))
  (cnd (decide (0 ≤ x0_4))
  (cnd (decide (x0_4 < (((List.length p0) : Nat) : Int)))
  (L16_0 fuel g ref_And2 n0 p0 (ref_And2 x0_0 (List.getD p0 (0 + (Int.toNat x0_4)) (0 : Int))) (IntKind.i64.wrap (x0_4 + (1 : Int))))
  none)
  none)
  (some (.int .i64 x0_0, ofM [(0, some ⟨false, 3, .col (.int .i64) p0⟩)], 1)) := by kernel_rfl
theorem L16_0_zero (fuel g : Nat) (ref_And2 : Int → Int → Int) (p0 : List Int) (x0_0 : Int) (x0_4 : Int) : L16_0 fuel g ref_And2 0 p0 x0_0 x0_4 = none := by kernel_rfl
theorem F16_eq (fuel g : Nat) (ref_And2 : Int → Int → Int) (p0 : List Int) : F16 fuel g ref_And2 p0 = L16_0 fuel g ref_And2 fuel p0 (1 : Int) (0 : Int) := by kernel_rfl
/-! armature/armaturelaw01.ints -/
noncomputable def c17 (fuel g : Nat) : Ctx := ⟨tab, callOf [], (fun k => match k with | 0 => some ⟨[], [], [0]⟩ | 1 => some ⟨[], [], [0, 3]⟩ | 2 => some ⟨[], [], [3, 6, 7, 8]⟩ | 3 => some ⟨[], [], [3, 6, 7, 8, 9]⟩ | 4 => some ⟨[], [], [3, 5, 6, 7, 8]⟩ | 5 => some ⟨[], [], [3, 6, 7, 8]⟩ | 6 => some ⟨[], [], [3, 6, 7, 8]⟩ | 7 => some ⟨[], [], [2]⟩ | _ => none), (fun _ => none), (fun k => match k with | 3 => some ⟨[], [(3, 3, [.int .i64])], [3, 6, 7, 8]⟩ | _ => none), ⟨[], [], [0]⟩, fuel, g, 18, 1, fun _ => []⟩
noncomputable def F17 (fuel g : Nat) (p0 : List Int) : Option Out := runFn (c17 fuel g) (bodyOf Go.Proofs.Try.f17) [.tmp 2] [.sl 0 0 (List.length p0)] (memOf [⟨false, 22, .col (.int .i64) p0⟩]) outT
noncomputable def L17_0 (fuel g : Nat) (n0 : Nat) (p0 : List Int) (x0_1 : Nat) (x0_5 : Int) (x0_7 : List Int) : Option Out := iterAt (c17 fuel g) (bodyOf Go.Proofs.Try.f17) [.r, .r, .l, .r, .l] n0 ⟨ofL [(3, .sl 1 0 x0_1), (6, .sl 0 0 (List.length p0)), (7, .int .i64 (((List.length p0) : Nat) : Int)), (8, .int .i64 x0_5)], ofM [(0, some ⟨false, 22, .col (.int .i64) p0⟩), (1, some ⟨true, 3, .col (.int .i64) x0_7⟩)], 2⟩ (retK (c17 fuel g) [.tmp 2] outT)
theorem L17_0_succ (fuel g : Nat) (n0 : Nat) (p0 : List Int) (x0_1 : Nat) (x0_5 : Int) (x0_7 : List Int) : L17_0 fuel g (n0 + 1) p0 x0_1 x0_5 x0_7 = cnd (decide (x0_5 < (((List.length p0) : Nat) : Int)))
  (cnd (decide (0 ≤ x0_5))
  (cnd (decide (x0_5 < (((List.length p0) : Nat) : Int)))
  (cnd (decide ((x0_1 + 1) * 8 ≤ 140737488355328))
  (L17_0 fuel g n0 p0 (x0_1 + 1) (IntKind.i64.wrap (x0_5 + (1 : Int))) ((List.take x0_1 x0_7) ++ [(List.getD p0 (0 + (Int.toNat x0_5)) (0 : Int))]))
  none)
  none)
  none)
  (some (.sl 1 0 x0_1, ofM [(0, some ⟨false, 22, .col (.int .i64) p0⟩), (1, some ⟨true, 3, .col (.int .i64) x0_7⟩)], 2)) := by kernel_rfl
theorem L17_0_zero (fuel g : Nat) (p0 : List Int) (x0_1 : Nat) (x0_5 : Int) (x0_7 : List Int) : L17_0 fuel g 0 p0 x0_1 x0_5 x0_7 = none := by kernel_rfl
theorem F17_eq (fuel g : Nat) (p0 : List Int) : F17 fuel g p0 = L17_0 fuel g fuel p0 0 (0 : Int) [] := by kernel_rfl
/-! armature/armatureref01.Or -/
noncomputable def c18 (fuel g : Nat) (ref_Or2 : Int → Int → Int) : Ctx := ⟨tab, callOf [(30, e30 ref_Or2)], (fun k => match k with | 0 => some ⟨[], [], [0]⟩ | 1 => some ⟨[], [], [0, 3]⟩ | 2 => some ⟨[], [], [3, 6, 7, 8]⟩ | 3 => some ⟨[], [], [3, 6, 7, 8, 9]⟩ | 4 => some ⟨[], [], [3, 5, 6, 7, 8]⟩ | 5 => some ⟨[], [], [3, 6, 7, 8]⟩ | 6 => some ⟨[], [], [3, 6, 7, 8]⟩ | 7 => some ⟨[], [], [2]⟩ | _ => none), (fun _ => none), (fun k => match k with | 3 => some ⟨[], [], [3, 6, 7, 8]⟩ | _ => none), ⟨[], [], [0]⟩, fuel, g, 17, 1, fun _ => []⟩
noncomputable def F18 (fuel g : Nat) (ref_Or2 : Int → Int → Int) (p0 : List Int) : Option Out := runFn (c18 fuel g ref_Or2) (bodyOf Go.Proofs.Try.f18) [.tmp 2] [.sl 0 0 (List.length p0)] (memOf [⟨false, 3, .col (.int .i64) p0⟩]) outT
noncomputable def L18_0 (fuel g : Nat) (ref_Or2 : Int → Int → Int) (n0 : Nat) (p0 : List Int) (x0_0 : Int) (x0_4 : Int) : Option Out := iterAt (c18 fuel g ref_Or2) (bodyOf Go.Proofs.Try.f18) [.r, .r, .l, .r, .l] n0 ⟨ofL [(3, .int .i64 x0_0), (6, .sl 0 0 (List.length p0)), (7, .int .i64 (((List.length p0) : Nat) : Int)), (8, .int .i64 x0_4)], ofM [(0, some ⟨false, 3, .col (.int .i64) p0⟩)], 1⟩ (retK (c18 fuel g ref_Or2) [.tmp 2] outT)
theorem L18_0_succ (fuel g : Nat) (ref_Or2 : Int → Int → Int) (n0 : Nat) (p0 : List Int) (x0_0 : Int) (x0_4 : Int) : L18_0 fuel g ref_Or2 (n0 + 1) p0 x0_0 x0_4 = cnd (decide (x0_4 < (((List.length p0) : Nat) : Int)))
  (cnd (decide (0 ≤ x0_4))
  (cnd (decide (x0_4 < (((List.length p0) : Nat) : Int)))
  (L18_0 fuel g ref_Or2 n0 p0 (ref_Or2 x0_0 (List.getD p0 (0 + (Int.toNat x0_4)) (0 : Int))) (IntKind.i64.wrap (x0_4 + (1 : Int))))
  none)
  none)
  (some (.int .i64 x0_0, ofM [(0, some ⟨false, 3, .col (.int .i64) p0⟩)], 1)) := by kernel_rfl
theorem L18_0_zero (fuel g : Nat) (ref_Or2 : Int → Int → Int) (p0 : List Int) (x0_0 : Int) (x0_4 : Int) : L18_0 fuel g ref_Or2 0 p0 x0_0 x0_4 = none := by kernel_rfl
theorem F18_eq (fuel g : Nat) (ref_Or2 : Int → Int → Int) (p0 : List Int) : F18 fuel g ref_Or2 p0 = L18_0 fuel g ref_Or2 fuel p0 (0 : Int) (0 : Int) := by kernel_rfl
/-! armature/tri.Below -/
noncomputable def c19 (fuel g : Nat) (t_Norm : Int → Int) : Ctx := ⟨tab, callOf [(21, e21 t_Norm)], (fun k => match k with | 0 => some ⟨[], [], [0, 1]⟩ | 1 => some ⟨[], [], [4]⟩ | _ => none), (fun _ => none), (fun _ => none), ⟨[], [], [0]⟩, fuel, g, 15, 0, fun _ => []⟩
noncomputable def F19 (fuel g : Nat) (t_Norm : Int → Int) (p0 : Int) (p1 : Int) : Option Out := runFn (c19 fuel g t_Norm) (bodyOf Go.Proofs.Try.f19) [.tmp 4] [.int .i64 p0, .int .i64 p1] (memOf []) outT
theorem F19_eq (fuel g : Nat) (t_Norm : Int → Int) (p0 : Int) (p1 : Int) : F19 fuel g t_Norm p0 p1 = cnd ((t_Norm p1) == (2 : Int))
  (some (.bool true, ofM [], 0))
  (some (.bool ((t_Norm p0) == (t_Norm p1)), ofM [], 0)) := by kernel_rfl
/-! armature/tri.Not -/
noncomputable def c20 (fuel g : Nat) : Ctx := ⟨tab, callOf [], (fun k => match k with | 0 => some ⟨[], [], [0]⟩ | 1 => some ⟨[], [], [3]⟩ | 2 => some ⟨[], [], [3, 4]⟩ | 3 => some ⟨[], [], [2]⟩ | 4 => some ⟨[], [], [6]⟩ | 5 => some ⟨[], [], [2]⟩ | 6 => some ⟨[], [], [2]⟩ | _ => none), (fun _ => none), (fun _ => none), ⟨[], [], [0]⟩, fuel, g, 8, 0, fun _ => []⟩
noncomputable def F20 (fuel g : Nat) (p0 : Int) : Option Out := runFn (c20 fuel g) (bodyOf Go.Proofs.Try.f20) [.tmp 2] [.int .i64 p0] (memOf []) outT
theorem F20_eq (fuel g : Nat) (p0 : Int) : F20 fuel g p0 = cnd (p0 == (0 : Int))
  (some (.int .i64 (1 : Int), ofM [], 0))
  (cnd (p0 == (1 : Int))
  (some (.int .i64 (0 : Int), ofM [], 0))
  (some (.int .i64 (2 : Int), ofM [], 0))) := by kernel_rfl
/-! armature/tri.Norm -/
noncomputable def c21 (fuel g : Nat) : Ctx := ⟨tab, callOf [], (fun k => match k with | 0 => some ⟨[], [], [0]⟩ | 1 => some ⟨[], [], [0, 8]⟩ | 2 => some ⟨[], [], [2]⟩ | 3 => some ⟨[], [], [2]⟩ | _ => none), (fun _ => none), (fun _ => none), ⟨[], [], [0]⟩, fuel, g, 10, 0, fun _ => []⟩
noncomputable def F21 (fuel g : Nat) (p0 : Int) : Option Out := runFn (c21 fuel g) (bodyOf Go.Proofs.Try.f21) [.tmp 2] [.int .i64 p0] (memOf []) outT
theorem F21_eq (fuel g : Nat) (p0 : Int) : F21 fuel g p0 = cnd (p0 == (0 : Int))
  (some (.int .i64 p0, ofM [], 0))
  (cnd (p0 == (1 : Int))
  (some (.int .i64 p0, ofM [], 0))
  (some (.int .i64 (2 : Int), ofM [], 0))) := by kernel_rfl
/-! armature/tri.Read -/
noncomputable def c22 (fuel g : Nat) (t_Text : Int → ByteArray) : Ctx := ⟨tab, callOf [(26, e26 t_Text)], (fun k => match k with | 0 => some ⟨[], [], [0]⟩ | 1 => some ⟨[], [], [0, 6, 7, 8]⟩ | 2 => some ⟨[], [], [0, 6, 7, 8, 9]⟩ | 3 => some ⟨[], [], [0, 5, 6, 7, 8]⟩ | 4 => some ⟨[], [], [0, 5, 6, 7, 8, 15]⟩ | 5 => some ⟨[], [], [2, 3]⟩ | 6 => some ⟨[], [], [0, 6, 7, 8]⟩ | 7 => some ⟨[], [], [2, 3]⟩ | _ => none), (fun _ => none), (fun k => match k with | 2 => some ⟨[], [], [0, 6, 7, 8]⟩ | _ => none), ⟨[], [], [0, 1]⟩, fuel, g, 18, 0, fun _ => []⟩
noncomputable def F22 (fuel g : Nat) (t_Text : Int → ByteArray) (p0 : ByteArray) : Option Out := runFn (c22 fuel g t_Text) (bodyOf Go.Proofs.Try.f22) [.tmp 2, .tmp 3] [.str p0] (memOf []) outT
noncomputable def L22_0 (fuel g : Nat) (t_Text : Int → ByteArray) (n0 : Nat) (p0 : ByteArray) (x0_4 : Int) : Option Out := iterAt (c22 fuel g t_Text) (bodyOf Go.Proofs.Try.f22) [.r, .l, .r, .l] n0 ⟨ofL [(0, .str p0), (6, .sl 0 0 3), (7, .int .i64 (3 : Int)), (8, .int .i64 x0_4)], ofM [(0, some ⟨true, 22, .col (.int .i64) [(0 : Int), (1 : Int), (2 : Int)]⟩)], 1⟩ (retK (c22 fuel g t_Text) [.tmp 2, .tmp 3] outT)
theorem L22_0_succ (fuel g : Nat) (t_Text : Int → ByteArray) (n0 : Nat) (p0 : ByteArray) (x0_4 : Int) : L22_0 fuel g t_Text (n0 + 1) p0 x0_4 = cnd (decide (x0_4 < (3 : Int)))
  (cnd (decide (0 ≤ x0_4))
  (cnd (decide (x0_4 < ((3 : Nat) : Int)))
  (cnd (((t_Text (List.getD [(0 : Int), (1 : Int), (2 : Int)] (0 + (Int.toNat x0_4)) (0 : Int)))).toList == (p0).toList)
  (some (.tup [.int .i64 (List.getD [(0 : Int), (1 : Int), (2 : Int)] (0 + (Int.toNat x0_4)) (0 : Int)), .int .i64 (0 : Int)], ofM [], 0))
  (L22_0 fuel g t_Text n0 p0 (IntKind.i64.wrap (x0_4 + (1 : Int)))))
  none)
  none)
  (some (.tup [.int .i64 (0 : Int), .int .i64 (40 : Int)], ofM [], 0)) := by kernel_rfl
theorem L22_0_zero (fuel g : Nat) (t_Text : Int → ByteArray) (p0 : ByteArray) (x0_4 : Int) : L22_0 fuel g t_Text 0 p0 x0_4 = none := by kernel_rfl
theorem F22_eq (fuel g : Nat) (t_Text : Int → ByteArray) (p0 : ByteArray) : F22 fuel g t_Text p0 = L22_0 fuel g t_Text fuel p0 (0 : Int) := by kernel_rfl
/-! armature/armatureref01.Text -/
noncomputable def c23 (fuel g : Nat) (ref_Norm : Int → Int) : Ctx := ⟨tab, callOf [(24, e24 ref_Norm)], (fun k => match k with | 0 => some ⟨[], [], [0]⟩ | 1 => some ⟨[], [], [2]⟩ | _ => none), (fun _ => none), (fun _ => none), ⟨[], [], [0]⟩, fuel, g, 8, 0, fun _ => []⟩
noncomputable def F23 (fuel g : Nat) (ref_Norm : Int → Int) (p0 : Int) : Option Out := runFn (c23 fuel g ref_Norm) (bodyOf Go.Proofs.Try.f23) [.tmp 2] [.int .i64 p0] (memOf []) outT
theorem F23_eq (fuel g : Nat) (ref_Norm : Int → Int) (p0 : Int) : F23 fuel g ref_Norm p0 = cnd (decide (0 ≤ (ref_Norm p0)))
  (cnd (decide ((ref_Norm p0) < ((3 : Nat) : Int)))
  (some (.str (List.getD [(⟨#[48]⟩ : ByteArray), (⟨#[49]⟩ : ByteArray), (⟨#[88]⟩ : ByteArray)] (0 + (Int.toNat (ref_Norm p0))) ByteArray.empty), ofM [], 0))
  none)
  none := by kernel_rfl
/-! armature/armatureref01.Norm -/
noncomputable def c24 (fuel g : Nat) : Ctx := ⟨tab, callOf [], (fun k => match k with | 0 => some ⟨[], [], [0]⟩ | 1 => some ⟨[], [], [0, 8]⟩ | 2 => some ⟨[], [], [2]⟩ | 3 => some ⟨[], [], [2]⟩ | _ => none), (fun _ => none), (fun _ => none), ⟨[], [], [0]⟩, fuel, g, 10, 0, fun _ => []⟩
noncomputable def F24 (fuel g : Nat) (p0 : Int) : Option Out := runFn (c24 fuel g) (bodyOf Go.Proofs.Try.f24) [.tmp 2] [.int .i64 p0] (memOf []) outT
theorem F24_eq (fuel g : Nat) (p0 : Int) : F24 fuel g p0 = cnd (p0 == (0 : Int))
  (some (.int .i64 p0, ofM [], 0))
  (cnd (p0 == (1 : Int))
  (some (.int .i64 p0, ofM [], 0))
  (some (.int .i64 (2 : Int), ofM [], 0))) := by kernel_rfl
/-! armature/armatureref01.Not -/
noncomputable def c25 (fuel g : Nat) (ref_Norm : Int → Int) : Ctx := ⟨tab, callOf [(24, e24 ref_Norm)], (fun k => match k with | 0 => some ⟨[], [], [0]⟩ | 1 => some ⟨[], [], [2]⟩ | _ => none), (fun _ => none), (fun _ => none), ⟨[], [], [0]⟩, fuel, g, 8, 0, fun _ => []⟩
noncomputable def F25 (fuel g : Nat) (ref_Norm : Int → Int) (p0 : Int) : Option Out := runFn (c25 fuel g ref_Norm) (bodyOf Go.Proofs.Try.f25) [.tmp 2] [.int .i64 p0] (memOf []) outT
theorem F25_eq (fuel g : Nat) (ref_Norm : Int → Int) (p0 : Int) : F25 fuel g ref_Norm p0 = cnd (decide (0 ≤ (ref_Norm p0)))
  (cnd (decide ((ref_Norm p0) < ((3 : Nat) : Int)))
  (some (.int .i64 (List.getD [(1 : Int), (0 : Int), (2 : Int)] (0 + (Int.toNat (ref_Norm p0))) (0 : Int)), ofM [], 0))
  none)
  none := by kernel_rfl
/-! armature/tri.Text -/
noncomputable def c26 (fuel g : Nat) (t_Norm : Int → Int) : Ctx := ⟨tab, callOf [(21, e21 t_Norm)], (fun k => match k with | 0 => some ⟨[], [], [0]⟩ | 1 => some ⟨[], [], [2]⟩ | _ => none), (fun _ => none), (fun _ => none), ⟨[], [], [0]⟩, fuel, g, 9, 0, fun _ => []⟩
noncomputable def F26 (fuel g : Nat) (t_Norm : Int → Int) (p0 : Int) : Option Out := runFn (c26 fuel g t_Norm) (bodyOf Go.Proofs.Try.f26) [.tmp 2] [.int .i64 p0] (memOf []) outT
theorem F26_eq (fuel g : Nat) (t_Norm : Int → Int) (p0 : Int) : F26 fuel g t_Norm p0 = cnd (decide (0 ≤ (t_Norm p0)))
  (cnd (decide ((t_Norm p0) ≤ (IntKind.i64.wrap ((t_Norm p0) + (1 : Int)))))
  (cnd (decide ((IntKind.i64.wrap ((t_Norm p0) + (1 : Int))) ≤ (((⟨#[48, 49, 88]⟩ : ByteArray)).size : Int)))
  (some (.str (ByteArray.extract (⟨#[48, 49, 88]⟩ : ByteArray) (Int.toNat (t_Norm p0)) (Int.toNat (IntKind.i64.wrap ((t_Norm p0) + (1 : Int))))), ofM [], 0))
  none)
  none)
  none := by kernel_rfl
/-! armature/tri.Of -/
noncomputable def c27 (fuel g : Nat) : Ctx := ⟨tab, callOf [], (fun k => match k with | 0 => some ⟨[], [], [0]⟩ | 1 => some ⟨[], [], [3]⟩ | 2 => some ⟨[], [], [2]⟩ | 3 => some ⟨[], [], [2]⟩ | _ => none), (fun _ => none), (fun _ => none), ⟨[], [], [0]⟩, fuel, g, 4, 0, fun _ => []⟩
noncomputable def F27 (fuel g : Nat) (p0 : Bool) : Option Out := runFn (c27 fuel g) (bodyOf Go.Proofs.Try.f27) [.tmp 2] [.bool p0] (memOf []) outT
theorem F27_eq (fuel g : Nat) (p0 : Bool) : F27 fuel g p0 = cnd p0
  (some (.int .i64 (1 : Int), ofM [], 0))
  (some (.int .i64 (0 : Int), ofM [], 0)) := by kernel_rfl
/-! armature/armatureref01.both -/
noncomputable def c28 (fuel g : Nat) (ref_Norm : Int → Int) : Ctx := ⟨tab, callOf [(24, e24 ref_Norm)], (fun k => match k with | 0 => some ⟨[], [], [0, 1, 2]⟩ | 1 => some ⟨[], [], [6]⟩ | _ => none), (fun _ => none), (fun _ => none), ⟨[], [], [0]⟩, fuel, g, 16, 1, fun _ => []⟩
noncomputable def F28 (fuel g : Nat) (ref_Norm : Int → Int) (p0 : List Int) (p1 : Int) (p2 : Int) : Option Out := runFn (c28 fuel g ref_Norm) (bodyOf Go.Proofs.Try.f28) [.tmp 6] [.sl 0 0 (List.length p0), .int .i64 p1, .int .i64 p2] (memOf [⟨false, 3, .col (.int .i64) p0⟩]) outT
theorem F28_eq (fuel g : Nat) (ref_Norm : Int → Int) (p0 : List Int) (p1 : Int) (p2 : Int) : F28 fuel g ref_Norm p0 p1 p2 = cnd (decide (0 ≤ (IntKind.i64.wrap ((IntKind.i64.wrap ((3 : Int) * (ref_Norm p1))) + (ref_Norm p2)))))
  (cnd (decide ((IntKind.i64.wrap ((IntKind.i64.wrap ((3 : Int) * (ref_Norm p1))) + (ref_Norm p2))) < (((List.length p0) : Nat) : Int)))
  (some (.int .i64 (List.getD p0 (0 + (Int.toNat (IntKind.i64.wrap ((IntKind.i64.wrap ((3 : Int) * (ref_Norm p1))) + (ref_Norm p2))))) (0 : Int)), ofM [(0, some ⟨false, 3, .col (.int .i64) p0⟩)], 1))
  none)
  none := by kernel_rfl
/-! armature/armatureref01.And2 -/
noncomputable def c29 (fuel g : Nat) (both_pre : List Int → Int → Int → Bool) (ref_both : List Int → Int → Int → Int) : Ctx := ⟨tab, callOf [(28, e28 both_pre ref_both)], (fun k => match k with | 0 => some ⟨[], [], [0, 1]⟩ | 1 => some ⟨[], [], [4]⟩ | _ => none), (fun _ => none), (fun _ => none), ⟨[], [], [0]⟩, fuel, g, 9, 0, fun _ => []⟩
noncomputable def F29 (fuel g : Nat) (both_pre : List Int → Int → Int → Bool) (ref_both : List Int → Int → Int → Int) (p0 : Int) (p1 : Int) : Option Out := runFn (c29 fuel g both_pre ref_both) (bodyOf Go.Proofs.Try.f29) [.tmp 4] [.int .i64 p0, .int .i64 p1] (memOf []) outT
theorem F29_eq (fuel g : Nat) (both_pre : List Int → Int → Int → Bool) (ref_both : List Int → Int → Int → Int) (p0 : Int) (p1 : Int) : F29 fuel g both_pre ref_both p0 p1 = cnd (both_pre [(0 : Int), (0 : Int), (0 : Int), (0 : Int), (1 : Int), (2 : Int), (0 : Int), (2 : Int), (2 : Int)] p0 p1)
  (some (.int .i64 (ref_both [(0 : Int), (0 : Int), (0 : Int), (0 : Int), (1 : Int), (2 : Int), (0 : Int), (2 : Int), (2 : Int)] p0 p1), ofM [], 0))
  none := by kernel_rfl
/-! armature/armatureref01.Or2 -/
noncomputable def c30 (fuel g : Nat) (both_pre : List Int → Int → Int → Bool) (ref_both : List Int → Int → Int → Int) : Ctx := ⟨tab, callOf [(28, e28 both_pre ref_both)], (fun k => match k with | 0 => some ⟨[], [], [0, 1]⟩ | 1 => some ⟨[], [], [4]⟩ | _ => none), (fun _ => none), (fun _ => none), ⟨[], [], [0]⟩, fuel, g, 9, 0, fun _ => []⟩
noncomputable def F30 (fuel g : Nat) (both_pre : List Int → Int → Int → Bool) (ref_both : List Int → Int → Int → Int) (p0 : Int) (p1 : Int) : Option Out := runFn (c30 fuel g both_pre ref_both) (bodyOf Go.Proofs.Try.f30) [.tmp 4] [.int .i64 p0, .int .i64 p1] (memOf []) outT
theorem F30_eq (fuel g : Nat) (both_pre : List Int → Int → Int → Bool) (ref_both : List Int → Int → Int → Int) (p0 : Int) (p1 : Int) : F30 fuel g both_pre ref_both p0 p1 = cnd (both_pre [(0 : Int), (1 : Int), (2 : Int), (1 : Int), (1 : Int), (1 : Int), (2 : Int), (1 : Int), (2 : Int)] p0 p1)
  (some (.int .i64 (ref_both [(0 : Int), (1 : Int), (2 : Int), (1 : Int), (1 : Int), (1 : Int), (2 : Int), (1 : Int), (2 : Int)] p0 p1), ofM [], 0))
  none := by kernel_rfl
end Go.Vm
