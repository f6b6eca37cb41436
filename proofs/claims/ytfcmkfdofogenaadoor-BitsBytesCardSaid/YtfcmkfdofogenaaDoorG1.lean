/- The functions of this seat as equations over lists and numbers, each checked by the kernel. -/
import Derived.Test.YtfcmkfdofogenaaDoorProg
import Derived.Test.YtfcmkfdofogenaaDoorV3
import Derived.KernelRfl
set_option linter.unusedVariables false
namespace Go.Vm
open Go
def tabL : List (TypeId × TInfo) := [
  (3, ⟨.int .i64, 1, 8, false, [.int .i64 (0 : Int)], [.int .i64], false⟩),
  (4, ⟨.bool, 1, 1, false, [.bool false], [.bool], false⟩),
  (5, ⟨.int .u8, 1, 1, false, [.int .u8 (0 : Int)], [.int .u8], false⟩),
  (9, ⟨.str, 1, 16, false, [.str ByteArray.empty], [.str], false⟩),
  (22, ⟨.int .u64, 1, 8, false, [.int .u64 (0 : Int)], [.int .u64], false⟩),
  (24, ⟨.arr 2 22, 2, 16, true, [.int .u64 (0 : Int), .int .u64 (0 : Int)], [.int .u64, .int .u64], true⟩),
  (30, ⟨.sl 3, 1, 24, false, [.nils], [.ref], false⟩),
  (43, ⟨.int .u64, 1, 8, false, [.int .u64 (0 : Int)], [.int .u64], false⟩),
  (46, ⟨.sl 5, 1, 24, false, [.nils], [.ref], false⟩),
  (48, ⟨.int .i64, 1, 8, false, [.int .i64 (0 : Int)], [.int .i64], false⟩)]
abbrev tab : Tab := lookT tabL
def e12 (law_first : Bool) : Entry := entryFn [] [(false, [.f .bool])] (fun x => true) (fun x => ((law_first, ()), ()))
def e13 (ref_Has : Int → Int → Int → Bool) : Entry := entryFn [(true, [.f (.int .u64), .f (.int .u64)]), (false, [.f (.int .i64)])] [(false, [.f .bool])] (fun x => true) (fun x => (((ref_Has x.1.1 x.1.2.1 x.2.1.1), ()), ()))
def e14 (b_Union : Int → Int → Int → Int → Int × Int) : Entry := entryFn [(true, [.f (.int .u64), .f (.int .u64)]), (true, [.f (.int .u64), .f (.int .u64)])] [(true, [.f (.int .u64), .f (.int .u64)])] (fun x => true) (fun x => (((b_Union x.1.1 x.1.2.1 x.2.1.1 x.2.1.2.1).1, (b_Union x.1.1 x.1.2.1 x.2.1.1 x.2.1.2.1).2, ()), ()))
def e15 (b_Meet : Int → Int → Int → Int → Int × Int) : Entry := entryFn [(true, [.f (.int .u64), .f (.int .u64)]), (true, [.f (.int .u64), .f (.int .u64)])] [(true, [.f (.int .u64), .f (.int .u64)])] (fun x => true) (fun x => (((b_Meet x.1.1 x.1.2.1 x.2.1.1 x.2.1.2.1).1, (b_Meet x.1.1 x.1.2.1 x.2.1.1 x.2.1.2.1).2, ()), ()))
def e16 (b_Minus : Int → Int → Int → Int → Int × Int) : Entry := entryFn [(true, [.f (.int .u64), .f (.int .u64)]), (true, [.f (.int .u64), .f (.int .u64)])] [(true, [.f (.int .u64), .f (.int .u64)])] (fun x => true) (fun x => (((b_Minus x.1.1 x.1.2.1 x.2.1.1 x.2.1.2.1).1, (b_Minus x.1.1 x.1.2.1 x.2.1.1 x.2.1.2.1).2, ()), ()))
def e17 (b_Differ : Int → Int → Int → Int → Int × Int) : Entry := entryFn [(true, [.f (.int .u64), .f (.int .u64)]), (true, [.f (.int .u64), .f (.int .u64)])] [(true, [.f (.int .u64), .f (.int .u64)])] (fun x => true) (fun x => (((b_Differ x.1.1 x.1.2.1 x.2.1.1 x.2.1.2.1).1, (b_Differ x.1.1 x.1.2.1 x.2.1.1 x.2.1.2.1).2, ()), ()))
def e18 (b_Count : Int → Int → Int) : Entry := entryFn [(true, [.f (.int .u64), .f (.int .u64)])] [(false, [.f (.int .i64)])] (fun x => true) (fun x => (((b_Count x.1.1 x.1.2.1), ()), ()))
def e19 (ref_List : Int → Int → List Int) : Entry := entryFn [(true, [.f (.int .u64), .f (.int .u64)])] [(false, [.s 3 [.int .i64]])] (fun x => true) (fun x => (((ref_List x.1.1 x.1.2.1), ()), ()))
def e20 (ref_Of : List Int → Int × Int) : Entry := entryFn [(false, [.s 3 [.int .i64]])] [(true, [.f (.int .u64), .f (.int .u64)])] (fun x => true) (fun x => (((ref_Of x.1.1).1, (ref_Of x.1.1).2, ()), ()))
def e21 (b_Has : Int → Int → Int → Bool) : Entry := entryFn [(true, [.f (.int .u64), .f (.int .u64)]), (false, [.f (.int .i64)])] [(false, [.f .bool])] (fun x => true) (fun x => (((b_Has x.1.1 x.1.2.1 x.2.1.1), ()), ()))
def e22 (b_With : Int → Int → Int → Int × Int) : Entry := entryFn [(true, [.f (.int .u64), .f (.int .u64)]), (false, [.f (.int .i64)])] [(true, [.f (.int .u64), .f (.int .u64)])] (fun x => true) (fun x => (((b_With x.1.1 x.1.2.1 x.2.1.1).1, (b_With x.1.1 x.1.2.1 x.2.1.1).2, ()), ()))
def e23 (b_Without : Int → Int → Int → Int × Int) : Entry := entryFn [(true, [.f (.int .u64), .f (.int .u64)]), (false, [.f (.int .i64)])] [(true, [.f (.int .u64), .f (.int .u64)])] (fun x => true) (fun x => (((b_Without x.1.1 x.1.2.1 x.2.1.1).1, (b_Without x.1.1 x.1.2.1 x.2.1.1).2, ()), ()))
def e24 (b_Flip : Int → Int → Int → Int × Int) : Entry := entryFn [(true, [.f (.int .u64), .f (.int .u64)]), (false, [.f (.int .i64)])] [(true, [.f (.int .u64), .f (.int .u64)])] (fun x => true) (fun x => (((b_Flip x.1.1 x.1.2.1 x.2.1.1).1, (b_Flip x.1.1 x.1.2.1 x.2.1.1).2, ()), ()))
def e25 (b_Below : Int → Int × Int) : Entry := entryFn [(false, [.f (.int .i64)])] [(true, [.f (.int .u64), .f (.int .u64)])] (fun x => true) (fun x => (((b_Below x.1.1).1, (b_Below x.1.1).2, ()), ()))
def e26 (ref_Below : Int → Int × Int) : Entry := entryFn [(false, [.f (.int .i64)])] [(true, [.f (.int .u64), .f (.int .u64)])] (fun x => true) (fun x => (((ref_Below x.1.1).1, (ref_Below x.1.1).2, ()), ()))
def e27 (b_Of : List Int → Int × Int) : Entry := entryFn [(false, [.s 3 [.int .i64]])] [(true, [.f (.int .u64), .f (.int .u64)])] (fun x => true) (fun x => (((b_Of x.1.1).1, (b_Of x.1.1).2, ()), ()))
def e28 (ref_Same : List Int → List Int → Bool) : Entry := entryFn [(false, [.s 3 [.int .i64]]), (false, [.s 3 [.int .i64]])] [(false, [.f .bool])] (fun x => true) (fun x => (((ref_Same x.1.1 x.2.1.1), ()), ()))
def e29 (b_List : Int → Int → List Int) : Entry := entryFn [(true, [.f (.int .u64), .f (.int .u64)])] [(false, [.s 3 [.int .i64]])] (fun x => true) (fun x => (((b_List x.1.1 x.1.2.1), ()), ()))
def e30 (b_Next : Int → Int → Int → Int) : Entry := entryFn [(true, [.f (.int .u64), .f (.int .u64)]), (false, [.f (.int .i64)])] [(false, [.f (.int .i64)])] (fun x => true) (fun x => (((b_Next x.1.1 x.1.2.1 x.2.1.1), ()), ()))
def e31 (b_Sub : Int → Int → Int → Int → Int × Int × Bool) : Entry := entryFn [(true, [.f (.int .u64), .f (.int .u64)]), (true, [.f (.int .u64), .f (.int .u64)])] [(true, [.f (.int .u64), .f (.int .u64)]), (false, [.f .bool])] (fun x => true) (fun x => (((b_Sub x.1.1 x.1.2.1 x.2.1.1 x.2.1.2.1).1, (b_Sub x.1.1 x.1.2.1 x.2.1.1 x.2.1.2.1).2.1, ()), ((b_Sub x.1.1 x.1.2.1 x.2.1.1 x.2.1.2.1).2.2, ()), ()))
def e32 (ref_Compare : Int → Int → Int → Int → Int) : Entry := entryFn [(true, [.f (.int .u64), .f (.int .u64)]), (true, [.f (.int .u64), .f (.int .u64)])] [(false, [.f (.int .i64)])] (fun x => true) (fun x => (((ref_Compare x.1.1 x.1.2.1 x.2.1.1 x.2.1.2.1), ()), ()))
def e33 (b_Compare : Int → Int → Int → Int → Int) : Entry := entryFn [(true, [.f (.int .u64), .f (.int .u64)]), (true, [.f (.int .u64), .f (.int .u64)])] [(false, [.f (.int .i64)])] (fun x => true) (fun x => (((b_Compare x.1.1 x.1.2.1 x.2.1.1 x.2.1.2.1), ()), ()))
def e34 (b_Shift : Int → Int → Int → Int × Int) : Entry := entryFn [(true, [.f (.int .u64), .f (.int .u64)]), (false, [.f (.int .i64)])] [(true, [.f (.int .u64), .f (.int .u64)])] (fun x => true) (fun x => (((b_Shift x.1.1 x.1.2.1 x.2.1.1).1, (b_Shift x.1.1 x.1.2.1 x.2.1.1).2, ()), ()))
def e35 (b_Bytes : Int → Int → List Int) : Entry := entryFn [(true, [.f (.int .u64), .f (.int .u64)])] [(false, [.s 5 [.int .u8]])] (fun x => true) (fun x => (((b_Bytes x.1.1 x.1.2.1), ()), ()))
def e36 (b_FromBytes : List Int → Int × Int × Int) : Entry := entryFn [(false, [.s 5 [.int .u8]])] [(true, [.f (.int .u64), .f (.int .u64)]), (false, [.f (.int .i64)])] (fun x => true) (fun x => (((b_FromBytes x.1.1).1, (b_FromBytes x.1.1).2.1, ()), ((b_FromBytes x.1.1).2.2, ()), ()))
def e37 (m_OnesCount64 : Int → Int) : Entry := entryFn [(false, [.f (.int .u64)])] [(false, [.f (.int .i64)])] (fun x => true) (fun x => (((m_OnesCount64 x.1.1), ()), ()))
def e38 (b_there : Int → Bool) : Entry := entryFn [(false, [.f (.int .i64)])] [(false, [.f .bool])] (fun x => true) (fun x => (((b_there x.1.1), ()), ()))
def e39 (b_one : Int → Int × Int) : Entry := entryFn [(false, [.f (.int .i64)])] [(true, [.f (.int .u64), .f (.int .u64)])] (fun x => true) (fun x => (((b_one x.1.1).1, (b_one x.1.1).2, ()), ()))
def e40 (tz_pre : Int → Bool) (m_TrailingZeros64 : Int → Int) : Entry := entryFn [(false, [.f (.int .u64)])] [(false, [.f (.int .i64)])] (fun x => (tz_pre x.1.1)) (fun x => (((m_TrailingZeros64 x.1.1), ()), ()))
def e41 (sub_pre : Int → Int → Int → Bool) (m_Sub64 : Int → Int → Int → Int × Int) : Entry := entryFn [(false, [.f (.int .u64)]), (false, [.f (.int .u64)]), (false, [.f (.int .u64)])] [(false, [.f (.int .u64)]), (false, [.f (.int .u64)])] (fun x => (sub_pre x.1.1 x.2.1.1 x.2.2.1.1)) (fun x => (((m_Sub64 x.1.1 x.2.1.1 x.2.2.1.1).1, ()), ((m_Sub64 x.1.1 x.2.1.1 x.2.2.1.1).2, ()), ()))
/-! armature/armaturelaw02.BitsAlgebra -/
noncomputable def c3 (fuel g : Nat) (law_first : Bool) (ref_Has : Int → Int → Int → Bool) (b_Union : Int → Int → Int → Int → Int × Int) (b_Meet : Int → Int → Int → Int → Int × Int) (b_Minus : Int → Int → Int → Int → Int × Int) (b_Differ : Int → Int → Int → Int → Int × Int) (b_Count : Int → Int → Int) : Ctx := ⟨tab, callOf [(12, e12 law_first), (13, e13 ref_Has), (14, e14 b_Union), (15, e15 b_Meet), (16, e16 b_Minus), (17, e17 b_Differ), (18, e18 b_Count)], (fun k => match k with | 0 => some ⟨[], [], [2, 3]⟩ | 1 => some ⟨[], [], [2, 3, 10]⟩ | 2 => some ⟨[], [], [4]⟩ | 3 => some ⟨[], [], [2, 3, 5]⟩ | 4 => some ⟨[], [], [2, 3, 5, 6]⟩ | 5 => some ⟨[], [], [2, 3, 5, 6, 12]⟩ | 7 => some ⟨[], [], [2, 3, 5, 6, 7, 8]⟩ | 8 => some ⟨[], [], [2, 3, 5, 6, 7, 66]⟩ | 9 => some ⟨[], [], [4]⟩ | 10 => some ⟨[], [], [2, 3, 5, 6, 67]⟩ | 11 => some ⟨[], [], [2, 3, 5, 6]⟩ | 6 => some ⟨[], [], [2, 3, 5, 6]⟩ | 12 => some ⟨[], [], [4]⟩ | _ => none), (fun _ => none), (fun k => match k with | 5 => some ⟨[], [], [2, 3, 5, 6]⟩ | _ => none), ⟨[], [], [0]⟩, fuel, g, 74, 0, fun _ => []⟩
noncomputable def F3 (fuel g : Nat) (law_first : Bool) (ref_Has : Int → Int → Int → Bool) (b_Union : Int → Int → Int → Int → Int × Int) (b_Meet : Int → Int → Int → Int → Int × Int) (b_Minus : Int → Int → Int → Int → Int × Int) (b_Differ : Int → Int → Int → Int → Int × Int) (b_Count : Int → Int → Int) (p0_0 : Int) (p0_1 : Int) (p1_0 : Int) (p1_1 : Int) : Option Out := runFn (c3 fuel g law_first ref_Has b_Union b_Meet b_Minus b_Differ b_Count) (bodyOf Go.Proofs.Tryd.f3) [.tmp 4] [.agg [.int .u64 p0_0, .int .u64 p0_1], .agg [.int .u64 p1_0, .int .u64 p1_1]] (memOf []) outT
noncomputable def L3_0 (fuel g : Nat) (law_first : Bool) (ref_Has : Int → Int → Int → Bool) (b_Union : Int → Int → Int → Int → Int × Int) (b_Meet : Int → Int → Int → Int → Int × Int) (b_Minus : Int → Int → Int → Int → Int × Int) (b_Differ : Int → Int → Int → Int → Int × Int) (b_Count : Int → Int → Int) (n0 : Nat) (p0_0 : Int) (p0_1 : Int) (p1_0 : Int) (p1_1 : Int) (x0_2 : Int) (x0_3 : Int) : Option Out := iterAt (c3 fuel g law_first ref_Has b_Union b_Meet b_Minus b_Differ b_Count) (bodyOf Go.Proofs.Tryd.f3) [.r, .r, .r, .l, .r, .l] n0 ⟨ofL [(2, .ptr 0 0 0), (3, .ptr 1 0 0), (5, .int .i64 x0_2), (6, .int .i64 x0_3)], ofM [(0, some ⟨true, 24, .one [.int .u64 p0_0, .int .u64 p0_1]⟩), (1, some ⟨true, 24, .one [.int .u64 p1_0, .int .u64 p1_1]⟩)], 2⟩ (retK (c3 fuel g law_first ref_Has b_Union b_Meet b_Minus b_Differ b_Count) [.tmp 4] outT)
theorem L3_0_succ (fuel g : Nat) (law_first : Bool) (ref_Has : Int → Int → Int → Bool) (b_Union : Int → Int → Int → Int → Int × Int) (b_Meet : Int → Int → Int → Int → Int × Int) (b_Minus : Int → Int → Int → Int → Int × Int) (b_Differ : Int → Int → Int → Int → Int × Int) (b_Count : Int → Int → Int) (n0 : Nat) (p0_0 : Int) (p0_1 : Int) (p1_0 : Int) (p1_1 : Int) (x0_2 : Int) (x0_3 : Int) : L3_0 fuel g law_first ref_Has b_Union b_Meet b_Minus b_Differ b_Count (n0 + 1) p0_0 p0_1 p1_0 p1_1 x0_2 x0_3 = cnd (decide (x0_3 < (128 : Int)))
  (cnd (ref_Has p0_0 p0_1 x0_3)
  (cnd (!((ref_Has (b_Union p0_0 p0_1 p1_0 p1_1).1 (b_Union p0_0 p0_1 p1_0 p1_1).2 x0_3) == true))
  (some (.bool false, ofM [], 0))
  (cnd (ref_Has p0_0 p0_1 x0_3)
  (cnd (!((ref_Has (b_Meet p0_0 p0_1 p1_0 p1_1).1 (b_Meet p0_0 p0_1 p1_0 p1_1).2 x0_3) == (ref_Has p1_0 p1_1 x0_3)))
  (some (.bool false, ofM [], 0))
  (cnd (ref_Has p0_0 p0_1 x0_3)
  (cnd (!((ref_Has (b_Minus p0_0 p0_1 p1_0 p1_1).1 (b_Minus p0_0 p0_1 p1_0 p1_1).2 x0_3) == (!(ref_Has p1_0 p1_1 x0_3))))
  (some (.bool false, ofM [], 0))
  (cnd (!((ref_Has (b_Differ p0_0 p0_1 p1_0 p1_1).1 (b_Differ p0_0 p0_1 p1_0 p1_1).2 x0_3) == (!((ref_Has p0_0 p0_1 x0_3) == (ref_Has p1_0 p1_1 x0_3)))))
  (some (.bool false, ofM [], 0))
  (cnd (ref_Has p0_0 p0_1 x0_3)
  (L3_0 fuel g law_first ref_Has b_Union b_Meet b_Minus b_Differ b_Count n0 p0_0 p0_1 p1_0 p1_1 (IntKind.i64.wrap (x0_2 + (1 : Int))) (IntKind.i64.wrap (x0_3 + (1 : Int))))
  (L3_0 fuel g law_first ref_Has b_Union b_Meet b_Minus b_Differ b_Count n0 p0_0 p0_1 p1_0 p1_1 x0_2 (IntKind.i64.wrap (x0_3 + (1 : Int)))))))
  (cnd (!((ref_Has (b_Minus p0_0 p0_1 p1_0 p1_1).1 (b_Minus p0_0 p0_1 p1_0 p1_1).2 x0_3) == false))
  (some (.bool false, ofM [], 0))
  (cnd (!((ref_Has (b_Differ p0_0 p0_1 p1_0 p1_1).1 (b_Differ p0_0 p0_1 p1_0 p1_1).2 x0_3) == (!((ref_Has p0_0 p0_1 x0_3) == (ref_Has p1_0 p1_1 x0_3)))))
  (some (.bool false, ofM [], 0))
  (cnd (ref_Has p0_0 p0_1 x0_3)
  (L3_0 fuel g law_first ref_Has b_Union b_Meet b_Minus b_Differ b_Count n0 p0_0 p0_1 p1_0 p1_1 (IntKind.i64.wrap (x0_2 + (1 : Int))) (IntKind.i64.wrap (x0_3 + (1 : Int))))
  (L3_0 fuel g law_first ref_Has b_Union b_Meet b_Minus b_Differ b_Count n0 p0_0 p0_1 p1_0 p1_1 x0_2 (IntKind.i64.wrap (x0_3 + (1 : Int)))))))))
  (cnd (!((ref_Has (b_Meet p0_0 p0_1 p1_0 p1_1).1 (b_Meet p0_0 p0_1 p1_0 p1_1).2 x0_3) == false))
  (some (.bool false, ofM [], 0))
  (cnd (ref_Has p0_0 p0_1 x0_3)
  (cnd (!((ref_Has (b_Minus p0_0 p0_1 p1_0 p1_1).1 (b_Minus p0_0 p0_1 p1_0 p1_1).2 x0_3) == (!(ref_Has p1_0 p1_1 x0_3))))
  (some (.bool false, ofM [], 0))
  (cnd (!((ref_Has (b_Differ p0_0 p0_1 p1_0 p1_1).1 (b_Differ p0_0 p0_1 p1_0 p1_1).2 x0_3) == (!((ref_Has p0_0 p0_1 x0_3) == (ref_Has p1_0 p1_1 x0_3)))))
  (some (.bool false, ofM [], 0))
  (cnd (ref_Has p0_0 p0_1 x0_3)
  (L3_0 fuel g law_first ref_Has b_Union b_Meet b_Minus b_Differ b_Count n0 p0_0 p0_1 p1_0 p1_1 (IntKind.i64.wrap (x0_2 + (1 : Int))) (IntKind.i64.wrap (x0_3 + (1 : Int))))
  (L3_0 fuel g law_first ref_Has b_Union b_Meet b_Minus b_Differ b_Count n0 p0_0 p0_1 p1_0 p1_1 x0_2 (IntKind.i64.wrap (x0_3 + (1 : Int)))))))
  (cnd (!((ref_Has (b_Minus p0_0 p0_1 p1_0 p1_1).1 (b_Minus p0_0 p0_1 p1_0 p1_1).2 x0_3) == false))
  (some (.bool false, ofM [], 0))
  (cnd (!((ref_Has (b_Differ p0_0 p0_1 p1_0 p1_1).1 (b_Differ p0_0 p0_1 p1_0 p1_1).2 x0_3) == (!((ref_Has p0_0 p0_1 x0_3) == (ref_Has p1_0 p1_1 x0_3)))))
  (some (.bool false, ofM [], 0))
  (cnd (ref_Has p0_0 p0_1 x0_3)
  (L3_0 fuel g law_first ref_Has b_Union b_Meet b_Minus b_Differ b_Count n0 p0_0 p0_1 p1_0 p1_1 (IntKind.i64.wrap (x0_2 + (1 : Int))) (IntKind.i64.wrap (x0_3 + (1 : Int))))
  (L3_0 fuel g law_first ref_Has b_Union b_Meet b_Minus b_Differ b_Count n0 p0_0 p0_1 p1_0 p1_1 x0_2 (IntKind.i64.wrap (x0_3 + (1 : Int)))))))))))
  (cnd (!((ref_Has (b_Union p0_0 p0_1 p1_0 p1_1).1 (b_Union p0_0 p0_1 p1_0 p1_1).2 x0_3) == (ref_Has p1_0 p1_1 x0_3)))
  (some (.bool false, ofM [], 0))
  (cnd (ref_Has p0_0 p0_1 x0_3)
  (cnd (!((ref_Has (b_Meet p0_0 p0_1 p1_0 p1_1).1 (b_Meet p0_0 p0_1 p1_0 p1_1).2 x0_3) == (ref_Has p1_0 p1_1 x0_3)))
  (some (.bool false, ofM [], 0))
  (cnd (ref_Has p0_0 p0_1 x0_3)
  (cnd (!((ref_Has (b_Minus p0_0 p0_1 p1_0 p1_1).1 (b_Minus p0_0 p0_1 p1_0 p1_1).2 x0_3) == (!(ref_Has p1_0 p1_1 x0_3))))
  (some (.bool false, ofM [], 0))
  (cnd (!((ref_Has (b_Differ p0_0 p0_1 p1_0 p1_1).1 (b_Differ p0_0 p0_1 p1_0 p1_1).2 x0_3) == (!((ref_Has p0_0 p0_1 x0_3) == (ref_Has p1_0 p1_1 x0_3)))))
  (some (.bool false, ofM [], 0))
  (cnd (ref_Has p0_0 p0_1 x0_3)
  (L3_0 fuel g law_first ref_Has b_Union b_Meet b_Minus b_Differ b_Count n0 p0_0 p0_1 p1_0 p1_1 (IntKind.i64.wrap (x0_2 + (1 : Int))) (IntKind.i64.wrap (x0_3 + (1 : Int))))
  (L3_0 fuel g law_first ref_Has b_Union b_Meet b_Minus b_Differ b_Count n0 p0_0 p0_1 p1_0 p1_1 x0_2 (IntKind.i64.wrap (x0_3 + (1 : Int)))))))
  (cnd (!((ref_Has (b_Minus p0_0 p0_1 p1_0 p1_1).1 (b_Minus p0_0 p0_1 p1_0 p1_1).2 x0_3) == false))
  (some (.bool false, ofM [], 0))
  (cnd (!((ref_Has (b_Differ p0_0 p0_1 p1_0 p1_1).1 (b_Differ p0_0 p0_1 p1_0 p1_1).2 x0_3) == (!((ref_Has p0_0 p0_1 x0_3) == (ref_Has p1_0 p1_1 x0_3)))))
  (some (.bool false, ofM [], 0))
  (cnd (ref_Has p0_0 p0_1 x0_3)
  (L3_0 fuel g law_first ref_Has b_Union b_Meet b_Minus b_Differ b_Count n0 p0_0 p0_1 p1_0 p1_1 (IntKind.i64.wrap (x0_2 + (1 : Int))) (IntKind.i64.wrap (x0_3 + (1 : Int))))
  (L3_0 fuel g law_first ref_Has b_Union b_Meet b_Minus b_Differ b_Count n0 p0_0 p0_1 p1_0 p1_1 x0_2 (IntKind.i64.wrap (x0_3 + (1 : Int)))))))))
  (cnd (!((ref_Has (b_Meet p0_0 p0_1 p1_0 p1_1).1 (b_Meet p0_0 p0_1 p1_0 p1_1).2 x0_3) == false))
  (some (.bool false, ofM [], 0))
  (cnd (ref_Has p0_0 p0_1 x0_3)
  (cnd (!((ref_Has (b_Minus p0_0 p0_1 p1_0 p1_1).1 (b_Minus p0_0 p0_1 p1_0 p1_1).2 x0_3) == (!(ref_Has p1_0 p1_1 x0_3))))
  (some (.bool false, ofM [], 0))
  (cnd (!((ref_Has (b_Differ p0_0 p0_1 p1_0 p1_1).1 (b_Differ p0_0 p0_1 p1_0 p1_1).2 x0_3) == (!((ref_Has p0_0 p0_1 x0_3) == (ref_Has p1_0 p1_1 x0_3)))))
  (some (.bool false, ofM [], 0))
  (cnd (ref_Has p0_0 p0_1 x0_3)
  (L3_0 fuel g law_first ref_Has b_Union b_Meet b_Minus b_Differ b_Count n0 p0_0 p0_1 p1_0 p1_1 (IntKind.i64.wrap (x0_2 + (1 : Int))) (IntKind.i64.wrap (x0_3 + (1 : Int))))
  (L3_0 fuel g law_first ref_Has b_Union b_Meet b_Minus b_Differ b_Count n0 p0_0 p0_1 p1_0 p1_1 x0_2 (IntKind.i64.wrap (x0_3 + (1 : Int)))))))
  (cnd (!((ref_Has (b_Minus p0_0 p0_1 p1_0 p1_1).1 (b_Minus p0_0 p0_1 p1_0 p1_1).2 x0_3) == false))
  (some (.bool false, ofM [], 0))
  (cnd (!((ref_Has (b_Differ p0_0 p0_1 p1_0 p1_1).1 (b_Differ p0_0 p0_1 p1_0 p1_1).2 x0_3) == (!((ref_Has p0_0 p0_1 x0_3) == (ref_Has p1_0 p1_1 x0_3)))))
  (some (.bool false, ofM [], 0))
  (cnd (ref_Has p0_0 p0_1 x0_3)
  (L3_0 fuel g law_first ref_Has b_Union b_Meet b_Minus b_Differ b_Count n0 p0_0 p0_1 p1_0 p1_1 (IntKind.i64.wrap (x0_2 + (1 : Int))) (IntKind.i64.wrap (x0_3 + (1 : Int))))
  (L3_0 fuel g law_first ref_Has b_Union b_Meet b_Minus b_Differ b_Count n0 p0_0 p0_1 p1_0 p1_1 x0_2 (IntKind.i64.wrap (x0_3 + (1 : Int))))))))))))
  (some (.bool ((b_Count p0_0 p0_1) == x0_2), ofM [], 0)) := by kernel_rfl
theorem L3_0_zero (fuel g : Nat) (law_first : Bool) (ref_Has : Int → Int → Int → Bool) (b_Union : Int → Int → Int → Int → Int × Int) (b_Meet : Int → Int → Int → Int → Int × Int) (b_Minus : Int → Int → Int → Int → Int × Int) (b_Differ : Int → Int → Int → Int → Int × Int) (b_Count : Int → Int → Int) (p0_0 : Int) (p0_1 : Int) (p1_0 : Int) (p1_1 : Int) (x0_2 : Int) (x0_3 : Int) : L3_0 fuel g law_first ref_Has b_Union b_Meet b_Minus b_Differ b_Count 0 p0_0 p0_1 p1_0 p1_1 x0_2 x0_3 = none := by kernel_rfl
theorem F3_eq (fuel g : Nat) (law_first : Bool) (ref_Has : Int → Int → Int → Bool) (b_Union : Int → Int → Int → Int → Int × Int) (b_Meet : Int → Int → Int → Int → Int × Int) (b_Minus : Int → Int → Int → Int → Int × Int) (b_Differ : Int → Int → Int → Int → Int × Int) (b_Count : Int → Int → Int) (p0_0 : Int) (p0_1 : Int) (p1_0 : Int) (p1_1 : Int) : F3 fuel g law_first ref_Has b_Union b_Meet b_Minus b_Differ b_Count p0_0 p0_1 p1_0 p1_1 = cnd (!law_first)
  (some (.bool false, ofM [], 0))
  (L3_0 fuel g law_first ref_Has b_Union b_Meet b_Minus b_Differ b_Count fuel p0_0 p0_1 p1_0 p1_1 (0 : Int) (0 : Int)) := by kernel_rfl
/-! armature/armaturelaw02.BitsPoints -/
noncomputable def c4 (fuel g : Nat) (law_first : Bool) (ref_List : Int → Int → List Int) (ref_Of : List Int → Int × Int) (ref_Has : Int → Int → Int → Bool) (b_Has : Int → Int → Int → Bool) (b_With : Int → Int → Int → Int × Int) (b_Without : Int → Int → Int → Int × Int) (b_Flip : Int → Int → Int → Int × Int) (b_Below : Int → Int × Int) (ref_Below : Int → Int × Int) : Ctx := ⟨tab, callOf [(12, e12 law_first), (19, e19 ref_List), (20, e20 ref_Of), (13, e13 ref_Has), (21, e21 b_Has), (22, e22 b_With), (23, e23 b_Without), (24, e24 b_Flip), (25, e25 b_Below), (26, e26 ref_Below)], (fun k => match k with | 0 => some ⟨[], [], [1, 2, 3]⟩ | 1 => some ⟨[], [], [1, 2, 3, 14]⟩ | 2 => some ⟨[], [], [6]⟩ | 3 => some ⟨[], [], [1, 2, 3, 7]⟩ | 4 => some ⟨[], [], [1, 2, 3, 7, 8]⟩ | 5 => some ⟨[], [], [1, 2, 3, 7, 8, 17, 18, 19]⟩ | 6 => some ⟨[], [], [1, 2, 3, 7, 8, 17, 18, 19, 20]⟩ | 7 => some ⟨[], [], [1, 2, 3, 7, 8, 10, 17, 18, 19]⟩ | 8 => some ⟨[], [], [1, 2, 3, 7, 8, 10, 17, 18, 19, 25]⟩ | 9 => some ⟨[], [], [1, 2, 3, 7, 8, 17, 18, 19]⟩ | 10 => some ⟨[], [], [1, 2, 3, 7, 8, 17, 18, 19]⟩ | 11 => some ⟨[], [], [1, 2, 3, 8, 11]⟩ | 12 => some ⟨[], [], [1, 2, 3, 8, 11, 12]⟩ | 13 => some ⟨[], [], [1, 2, 3, 8, 11, 12, 41]⟩ | 14 => some ⟨[], [], [1, 2, 3, 8, 11, 12]⟩ | 15 => some ⟨[], [], [6]⟩ | _ => none), (fun k => match k with | 15 => some ⟨[], [], [1, 2, 3, 8, 11, 12]⟩ | _ => none), (fun k => match k with | 6 => some ⟨[], [(8, 3, [.int .i64])], [1, 2, 3, 7, 8, 17, 18, 19]⟩ | _ => none), ⟨[], [], [0]⟩, fuel, g, 80, 0, fun _ => []⟩
noncomputable def F4 (fuel g : Nat) (law_first : Bool) (ref_List : Int → Int → List Int) (ref_Of : List Int → Int × Int) (ref_Has : Int → Int → Int → Bool) (b_Has : Int → Int → Int → Bool) (b_With : Int → Int → Int → Int × Int) (b_Without : Int → Int → Int → Int × Int) (b_Flip : Int → Int → Int → Int × Int) (b_Below : Int → Int × Int) (ref_Below : Int → Int × Int) (p0_0 : Int) (p0_1 : Int) (p1 : Int) (p2 : Int) : Option Out := runFn (c4 fuel g law_first ref_List ref_Of ref_Has b_Has b_With b_Without b_Flip b_Below ref_Below) (bodyOf Go.Proofs.Tryd.f4) [.tmp 6] [.agg [.int .u64 p0_0, .int .u64 p0_1], .int .i64 p1, .int .i64 p2] (memOf []) outT
noncomputable def L4_0 (fuel g : Nat) (law_first : Bool) (ref_List : Int → Int → List Int) (ref_Of : List Int → Int × Int) (ref_Has : Int → Int → Int → Bool) (b_Has : Int → Int → Int → Bool) (b_With : Int → Int → Int → Int × Int) (b_Without : Int → Int → Int → Int × Int) (b_Flip : Int → Int → Int → Int × Int) (b_Below : Int → Int × Int) (ref_Below : Int → Int × Int) (n0 : Nat) (p1 : Int) (p2 : Int) (p0_0 : Int) (p0_1 : Int) (x0_6 : Nat) (x0_10 : Int) (x0_14 : List Int) : Option Out := iterAt (c4 fuel g law_first ref_List ref_Of ref_Has b_Has b_With b_Without b_Flip b_Below ref_Below) (bodyOf Go.Proofs.Tryd.f4) [.r, .r, .r, .r, .l, .r, .l] n0 ⟨ofL [(1, .int .i64 p1), (2, .int .i64 p2), (3, .ptr 0 0 0), (7, .sl 1 0 (List.length (ref_List p0_0 p0_1))), (8, .sl 2 0 x0_6), (17, .sl 1 0 (List.length (ref_List p0_0 p0_1))), (18, .int .i64 (((List.length (ref_List p0_0 p0_1)) : Nat) : Int)), (19, .int .i64 x0_10)], ofM [(0, some ⟨true, 24, .one [.int .u64 p0_0, .int .u64 p0_1]⟩), (1, some ⟨true, 3, .col (.int .i64) (ref_List p0_0 p0_1)⟩), (2, some ⟨true, 3, .col (.int .i64) x0_14⟩)], 3⟩ (retK (c4 fuel g law_first ref_List ref_Of ref_Has b_Has b_With b_Without b_Flip b_Below ref_Below) [.tmp 6] outT)
noncomputable def J4_1 (fuel g : Nat) (law_first : Bool) (ref_List : Int → Int → List Int) (ref_Of : List Int → Int × Int) (ref_Has : Int → Int → Int → Bool) (b_Has : Int → Int → Int → Bool) (b_With : Int → Int → Int → Int × Int) (b_Without : Int → Int → Int → Int × Int) (b_Flip : Int → Int → Int → Int × Int) (b_Below : Int → Int × Int) (ref_Below : Int → Int × Int) (p1 : Int) (p2 : Int) (x0_6 : Nat) (p0_0 : Int) (p0_1 : Int) (x0_14 : List Int) (x1_12 : Int) (x1_13 : Int) : Option Out := gate ((c4 fuel g law_first ref_List ref_Of ref_Has b_Has b_With b_Without b_Flip b_Below ref_Below).join 15) g (fun _ => runAt (c4 fuel g law_first ref_List ref_Of ref_Has b_Has b_With b_Without b_Flip b_Below ref_Below) (bodyOf Go.Proofs.Tryd.f4) [.r, .r, .r, .r, .r, .r, .r, .r] ⟨ofL [(1, .int .i64 p1), (2, .int .i64 p2), (3, .ptr 0 0 0), (8, .sl 1 0 x0_6), (11, .ptr 2 0 0), (12, .ptr 3 0 0)], ofM [(0, some ⟨true, 24, .one [.int .u64 p0_0, .int .u64 p0_1]⟩), (1, some ⟨true, 3, .col (.int .i64) x0_14⟩), (2, some ⟨true, 24, .one [.int .u64 (ref_Of (List.take ((0 + (List.length (ref_List p0_0 p0_1))) + 1) ((List.take (0 + (List.length (ref_List p0_0 p0_1))) ([] ++ (List.take (List.length (ref_List p0_0 p0_1)) (ref_List p0_0 p0_1)))) ++ [p1]))).1, .int .u64 (ref_Of (List.take ((0 + (List.length (ref_List p0_0 p0_1))) + 1) ((List.take (0 + (List.length (ref_List p0_0 p0_1))) ([] ++ (List.take (List.length (ref_List p0_0 p0_1)) (ref_List p0_0 p0_1)))) ++ [p1]))).2]⟩), (3, some ⟨true, 24, .one [.int .u64 x1_12, .int .u64 x1_13]⟩)], 4⟩ (retK (c4 fuel g law_first ref_List ref_Of ref_Has b_Has b_With b_Without b_Flip b_Below ref_Below) [.tmp 6] outT))
theorem L4_0_succ (fuel g : Nat) (law_first : Bool) (ref_List : Int → Int → List Int) (ref_Of : List Int → Int × Int) (ref_Has : Int → Int → Int → Bool) (b_Has : Int → Int → Int → Bool) (b_With : Int → Int → Int → Int × Int) (b_Without : Int → Int → Int → Int × Int) (b_Flip : Int → Int → Int → Int × Int) (b_Below : Int → Int × Int) (ref_Below : Int → Int × Int) (n0 : Nat) (p1 : Int) (p2 : Int) (p0_0 : Int) (p0_1 : Int) (x0_6 : Nat) (x0_10 : Int) (x0_14 : List Int) : L4_0 fuel g law_first ref_List ref_Of ref_Has b_Has b_With b_Without b_Flip b_Below ref_Below (n0 + 1) p1 p2 p0_0 p0_1 x0_6 x0_10 x0_14 = cnd (decide (x0_10 < (((List.length (ref_List p0_0 p0_1)) : Nat) : Int)))
  (cnd (decide (0 ≤ x0_10))
  (cnd (decide (x0_10 < (((List.length (ref_List p0_0 p0_1)) : Nat) : Int)))
  (cnd ((List.getD (ref_List p0_0 p0_1) (0 + (Int.toNat x0_10)) (0 : Int)) != p1)
  (cnd (decide ((x0_6 + 1) * 8 ≤ 140737488355328))
  (L4_0 fuel g law_first ref_List ref_Of ref_Has b_Has b_With b_Without b_Flip b_Below ref_Below n0 p1 p2 p0_0 p0_1 (x0_6 + 1) (IntKind.i64.wrap (x0_10 + (1 : Int))) ((List.take x0_6 x0_14) ++ [(List.getD (ref_List p0_0 p0_1) (0 + (Int.toNat x0_10)) (0 : Int))]))
  none)
  (L4_0 fuel g law_first ref_List ref_Of ref_Has b_Has b_With b_Without b_Flip b_Below ref_Below n0 p1 p2 p0_0 p0_1 x0_6 (IntKind.i64.wrap (x0_10 + (1 : Int))) x0_14))
  none)
  none)
  (cnd (decide ((0 + (List.length (ref_List p0_0 p0_1))) * 8 ≤ 140737488355328))
  (cnd (decide (((0 + (List.length (ref_List p0_0 p0_1))) + 1) * 8 ≤ 140737488355328))
  (cnd (ref_Has p0_0 p0_1 p1)
  (J4_1 fuel g law_first ref_List ref_Of ref_Has b_Has b_With b_Without b_Flip b_Below ref_Below p1 p2 x0_6 p0_0 p0_1 x0_14 (ref_Of (List.take x0_6 x0_14)).1 (ref_Of (List.take x0_6 x0_14)).2)
  (J4_1 fuel g law_first ref_List ref_Of ref_Has b_Has b_With b_Without b_Flip b_Below ref_Below p1 p2 x0_6 p0_0 p0_1 x0_14 (ref_Of (List.take ((0 + (List.length (ref_List p0_0 p0_1))) + 1) ((List.take (0 + (List.length (ref_List p0_0 p0_1))) ([] ++ (List.take (List.length (ref_List p0_0 p0_1)) (ref_List p0_0 p0_1)))) ++ [p1]))).1 (ref_Of (List.take ((0 + (List.length (ref_List p0_0 p0_1))) + 1) ((List.take (0 + (List.length (ref_List p0_0 p0_1))) ([] ++ (List.take (List.length (ref_List p0_0 p0_1)) (ref_List p0_0 p0_1)))) ++ [p1]))).2))
  none)
  none) := by kernel_rfl
theorem L4_0_zero (fuel g : Nat) (law_first : Bool) (ref_List : Int → Int → List Int) (ref_Of : List Int → Int × Int) (ref_Has : Int → Int → Int → Bool) (b_Has : Int → Int → Int → Bool) (b_With : Int → Int → Int → Int × Int) (b_Without : Int → Int → Int → Int × Int) (b_Flip : Int → Int → Int → Int × Int) (b_Below : Int → Int × Int) (ref_Below : Int → Int × Int) (p1 : Int) (p2 : Int) (p0_0 : Int) (p0_1 : Int) (x0_6 : Nat) (x0_10 : Int) (x0_14 : List Int) : L4_0 fuel g law_first ref_List ref_Of ref_Has b_Has b_With b_Without b_Flip b_Below ref_Below 0 p1 p2 p0_0 p0_1 x0_6 x0_10 x0_14 = none := by kernel_rfl
theorem J4_1_raw (fuel g : Nat) (law_first : Bool) (ref_List : Int → Int → List Int) (ref_Of : List Int → Int × Int) (ref_Has : Int → Int → Int → Bool) (b_Has : Int → Int → Int → Bool) (b_With : Int → Int → Int → Int × Int) (b_Without : Int → Int → Int → Int × Int) (b_Flip : Int → Int → Int → Int × Int) (b_Below : Int → Int × Int) (ref_Below : Int → Int × Int) (p1 : Int) (p2 : Int) (x0_6 : Nat) (p0_0 : Int) (p0_1 : Int) (x0_14 : List Int) (x1_12 : Int) (x1_13 : Int) : runAt (c4 fuel g law_first ref_List ref_Of ref_Has b_Has b_With b_Without b_Flip b_Below ref_Below) (bodyOf Go.Proofs.Tryd.f4) [.r, .r, .r, .r, .r, .r, .r, .r] ⟨ofL [(1, .int .i64 p1), (2, .int .i64 p2), (3, .ptr 0 0 0), (8, .sl 1 0 x0_6), (11, .ptr 2 0 0), (12, .ptr 3 0 0)], ofM [(0, some ⟨true, 24, .one [.int .u64 p0_0, .int .u64 p0_1]⟩), (1, some ⟨true, 3, .col (.int .i64) x0_14⟩), (2, some ⟨true, 24, .one [.int .u64 (ref_Of (List.take ((0 + (List.length (ref_List p0_0 p0_1))) + 1) ((List.take (0 + (List.length (ref_List p0_0 p0_1))) ([] ++ (List.take (List.length (ref_List p0_0 p0_1)) (ref_List p0_0 p0_1)))) ++ [p1]))).1, .int .u64 (ref_Of (List.take ((0 + (List.length (ref_List p0_0 p0_1))) + 1) ((List.take (0 + (List.length (ref_List p0_0 p0_1))) ([] ++ (List.take (List.length (ref_List p0_0 p0_1)) (ref_List p0_0 p0_1)))) ++ [p1]))).2]⟩), (3, some ⟨true, 24, .one [.int .u64 x1_12, .int .u64 x1_13]⟩)], 4⟩ (retK (c4 fuel g law_first ref_List ref_Of ref_Has b_Has b_With b_Without b_Flip b_Below ref_Below) [.tmp 6] outT) = cnd ((b_Has p0_0 p0_1 p1) == (ref_Has p0_0 p0_1 p1))
  (cnd (((b_With p0_0 p0_1 p1).1 == (ref_Of (List.take ((0 + (List.length (ref_List p0_0 p0_1))) + 1) ((List.take (0 + (List.length (ref_List p0_0 p0_1))) ([] ++ (List.take (List.length (ref_List p0_0 p0_1)) (ref_List p0_0 p0_1)))) ++ [p1]))).1) && (((b_With p0_0 p0_1 p1).2 == (ref_Of (List.take ((0 + (List.length (ref_List p0_0 p0_1))) + 1) ((List.take (0 + (List.length (ref_List p0_0 p0_1))) ([] ++ (List.take (List.length (ref_List p0_0 p0_1)) (ref_List p0_0 p0_1)))) ++ [p1]))).2) && true))
  (cnd (((b_Without p0_0 p0_1 p1).1 == (ref_Of (List.take x0_6 x0_14)).1) && (((b_Without p0_0 p0_1 p1).2 == (ref_Of (List.take x0_6 x0_14)).2) && true))
  (cnd (((b_Flip p0_0 p0_1 p1).1 == x1_12) && (((b_Flip p0_0 p0_1 p1).2 == x1_13) && true))
  (some (.bool (((b_Below p2).1 == (ref_Below p2).1) && (((b_Below p2).2 == (ref_Below p2).2) && true)), ofM [], 0))
  (some (.bool false, ofM [], 0)))
  (some (.bool false, ofM [], 0)))
  (some (.bool false, ofM [], 0)))
  (some (.bool false, ofM [], 0)) := by kernel_rfl
theorem J4_1_eq (fuel : Nat) (law_first : Bool) (ref_List : Int → Int → List Int) (ref_Of : List Int → Int × Int) (ref_Has : Int → Int → Int → Bool) (b_Has : Int → Int → Int → Bool) (b_With : Int → Int → Int → Int × Int) (b_Without : Int → Int → Int → Int × Int) (b_Flip : Int → Int → Int → Int × Int) (b_Below : Int → Int × Int) (ref_Below : Int → Int × Int) (p1 : Int) (p2 : Int) (x0_6 : Nat) (p0_0 : Int) (p0_1 : Int) (x0_14 : List Int) (x1_12 : Int) (x1_13 : Int) : J4_1 fuel 1 law_first ref_List ref_Of ref_Has b_Has b_With b_Without b_Flip b_Below ref_Below p1 p2 x0_6 p0_0 p0_1 x0_14 x1_12 x1_13 = cnd ((b_Has p0_0 p0_1 p1) == (ref_Has p0_0 p0_1 p1))
  (cnd (((b_With p0_0 p0_1 p1).1 == (ref_Of (List.take ((0 + (List.length (ref_List p0_0 p0_1))) + 1) ((List.take (0 + (List.length (ref_List p0_0 p0_1))) ([] ++ (List.take (List.length (ref_List p0_0 p0_1)) (ref_List p0_0 p0_1)))) ++ [p1]))).1) && (((b_With p0_0 p0_1 p1).2 == (ref_Of (List.take ((0 + (List.length (ref_List p0_0 p0_1))) + 1) ((List.take (0 + (List.length (ref_List p0_0 p0_1))) ([] ++ (List.take (List.length (ref_List p0_0 p0_1)) (ref_List p0_0 p0_1)))) ++ [p1]))).2) && true))
  (cnd (((b_Without p0_0 p0_1 p1).1 == (ref_Of (List.take x0_6 x0_14)).1) && (((b_Without p0_0 p0_1 p1).2 == (ref_Of (List.take x0_6 x0_14)).2) && true))
  (cnd (((b_Flip p0_0 p0_1 p1).1 == x1_12) && (((b_Flip p0_0 p0_1 p1).2 == x1_13) && true))
  (some (.bool (((b_Below p2).1 == (ref_Below p2).1) && (((b_Below p2).2 == (ref_Below p2).2) && true)), ofM [], 0))
  (some (.bool false, ofM [], 0)))
  (some (.bool false, ofM [], 0)))
  (some (.bool false, ofM [], 0)))
  (some (.bool false, ofM [], 0)) := by
    refine Eq.trans ?_ (J4_1_raw fuel 1 law_first ref_List ref_Of ref_Has b_Has b_With b_Without b_Flip b_Below ref_Below p1 p2 x0_6 p0_0 p0_1 x0_14 x1_12 x1_13)
    kernel_rfl
theorem F4_eq (fuel g : Nat) (law_first : Bool) (ref_List : Int → Int → List Int) (ref_Of : List Int → Int × Int) (ref_Has : Int → Int → Int → Bool) (b_Has : Int → Int → Int → Bool) (b_With : Int → Int → Int → Int × Int) (b_Without : Int → Int → Int → Int × Int) (b_Flip : Int → Int → Int → Int × Int) (b_Below : Int → Int × Int) (ref_Below : Int → Int × Int) (p0_0 : Int) (p0_1 : Int) (p1 : Int) (p2 : Int) : F4 fuel g law_first ref_List ref_Of ref_Has b_Has b_With b_Without b_Flip b_Below ref_Below p0_0 p0_1 p1 p2 = cnd (!law_first)
  (some (.bool false, ofM [], 0))
  (L4_0 fuel g law_first ref_List ref_Of ref_Has b_Has b_With b_Without b_Flip b_Below ref_Below fuel p1 p2 p0_0 p0_1 0 (0 : Int) []) := by kernel_rfl
/-! armature/armaturelaw02.BitsLists -/
noncomputable def c5 (fuel g : Nat) (law_first : Bool) (ref_List : Int → Int → List Int) (b_Of : List Int → Int × Int) (b_List : Int → Int → List Int) (ref_Same : List Int → List Int → Bool) (ref_Of : List Int → Int × Int) (b_Next : Int → Int → Int → Int) : Ctx := ⟨tab, callOf [(12, e12 law_first), (19, e19 ref_List), (27, e27 b_Of), (29, e29 b_List), (28, e28 ref_Same), (20, e20 ref_Of), (30, e30 b_Next)], (fun k => match k with | 0 => some ⟨[], [], [1, 2, 3]⟩ | 1 => some ⟨[], [], [1, 2, 3, 13]⟩ | 2 => some ⟨[], [], [6]⟩ | 3 => some ⟨[], [], [1, 2, 3, 7]⟩ | 4 => some ⟨[], [], [1, 2, 3, 7, 15, 16, 17]⟩ | 5 => some ⟨[], [], [1, 2, 3, 7, 15, 16, 17, 18]⟩ | 6 => some ⟨[], [], [1, 2, 3, 7, 9, 15, 16, 17]⟩ | 7 => some ⟨[], [], [1, 2, 3, 7, 9, 15, 16, 17, 27]⟩ | 8 => some ⟨[], [], [1, 2, 3, 7, 15, 16, 17]⟩ | 9 => some ⟨[], [], [1, 2, 3, 7, 15, 16, 17]⟩ | 10 => some ⟨[], [], [1, 2, 3, 7, 10]⟩ | 11 => some ⟨[], [], [1, 2, 3, 7, 10, 11]⟩ | 12 => some ⟨[], [], [6]⟩ | _ => none), (fun _ => none), (fun k => match k with | 5 => some ⟨[], [], [1, 2, 3, 7, 15, 16, 17]⟩ | _ => none), ⟨[], [], [0]⟩, fuel, g, 58, 1, fun _ => []⟩
noncomputable def F5 (fuel g : Nat) (law_first : Bool) (ref_List : Int → Int → List Int) (b_Of : List Int → Int × Int) (b_List : Int → Int → List Int) (ref_Same : List Int → List Int → Bool) (ref_Of : List Int → Int × Int) (b_Next : Int → Int → Int → Int) (p0_0 : Int) (p0_1 : Int) (p1 : List Int) (p2 : Int) : Option Out := runFn (c5 fuel g law_first ref_List b_Of b_List ref_Same ref_Of b_Next) (bodyOf Go.Proofs.Tryd.f5) [.tmp 6] [.agg [.int .u64 p0_0, .int .u64 p0_1], .sl 0 0 (List.length p1), .int .i64 p2] (memOf [⟨false, 3, .col (.int .i64) p1⟩]) outT
noncomputable def L5_0 (fuel g : Nat) (law_first : Bool) (ref_List : Int → Int → List Int) (b_Of : List Int → Int × Int) (b_List : Int → Int → List Int) (ref_Same : List Int → List Int → Bool) (ref_Of : List Int → Int × Int) (b_Next : Int → Int → Int → Int) (n0 : Nat) (p1 : List Int) (p2 : Int) (p0_0 : Int) (p0_1 : Int) (x0_4 : Int) (x0_8 : Int) : Option Out := iterAt (c5 fuel g law_first ref_List b_Of b_List ref_Same ref_Of b_Next) (bodyOf Go.Proofs.Tryd.f5) [.r, .r, .r, .l, .r, .l] n0 ⟨ofL [(1, .sl 0 0 (List.length p1)), (2, .int .i64 p2), (3, .ptr 1 0 0), (7, .int .i64 x0_4), (15, .sl 2 0 (List.length (ref_List p0_0 p0_1))), (16, .int .i64 (((List.length (ref_List p0_0 p0_1)) : Nat) : Int)), (17, .int .i64 x0_8)], ofM [(0, some ⟨false, 3, .col (.int .i64) p1⟩), (1, some ⟨true, 24, .one [.int .u64 p0_0, .int .u64 p0_1]⟩), (2, some ⟨true, 3, .col (.int .i64) (ref_List p0_0 p0_1)⟩)], 3⟩ (retK (c5 fuel g law_first ref_List b_Of b_List ref_Same ref_Of b_Next) [.tmp 6] outT)
theorem L5_0_succ (fuel g : Nat) (law_first : Bool) (ref_List : Int → Int → List Int) (b_Of : List Int → Int × Int) (b_List : Int → Int → List Int) (ref_Same : List Int → List Int → Bool) (ref_Of : List Int → Int × Int) (b_Next : Int → Int → Int → Int) (n0 : Nat) (p1 : List Int) (p2 : Int) (p0_0 : Int) (p0_1 : Int) (x0_4 : Int) (x0_8 : Int) : L5_0 fuel g law_first ref_List b_Of b_List ref_Same ref_Of b_Next (n0 + 1) p1 p2 p0_0 p0_1 x0_4 x0_8 = cnd (decide (x0_8 < (((List.length (ref_List p0_0 p0_1)) : Nat) : Int)))
  (cnd (decide (0 ≤ x0_8))
  (cnd (decide (x0_8 < (((List.length (ref_List p0_0 p0_1)) : Nat) : Int)))
  (cnd (decide ((List.getD (ref_List p0_0 p0_1) (0 + (Int.toNat x0_8)) (0 : Int)) ≥ p2))
  (cnd (decide (x0_4 < (0 : Int)))
  (L5_0 fuel g law_first ref_List b_Of b_List ref_Same ref_Of b_Next n0 p1 p2 p0_0 p0_1 (List.getD (ref_List p0_0 p0_1) (0 + (Int.toNat x0_8)) (0 : Int)) (IntKind.i64.wrap (x0_8 + (1 : Int))))
  (L5_0 fuel g law_first ref_List b_Of b_List ref_Same ref_Of b_Next n0 p1 p2 p0_0 p0_1 x0_4 (IntKind.i64.wrap (x0_8 + (1 : Int)))))
  (L5_0 fuel g law_first ref_List b_Of b_List ref_Same ref_Of b_Next n0 p1 p2 p0_0 p0_1 x0_4 (IntKind.i64.wrap (x0_8 + (1 : Int)))))
  none)
  none)
  (cnd (decide ((0 + (List.length p1)) * 8 ≤ 140737488355328))
  (cnd (ref_Same (List.take (List.length (b_List p0_0 p0_1)) (b_List p0_0 p0_1)) (List.take (List.length (ref_List p0_0 p0_1)) (ref_List p0_0 p0_1)))
  (cnd (((b_Of (List.take (List.length p1) p1)).1 == (ref_Of (List.take (0 + (List.length p1)) ([] ++ (List.take (List.length p1) p1)))).1) && (((b_Of (List.take (List.length p1) p1)).2 == (ref_Of (List.take (0 + (List.length p1)) ([] ++ (List.take (List.length p1) p1)))).2) && true))
  (cnd (ref_Same (List.take (0 + (List.length p1)) ([] ++ (List.take (List.length p1) p1))) (List.take (List.length p1) p1))
  (some (.bool ((b_Next p0_0 p0_1 p2) == x0_4), ofM [(0, some ⟨false, 3, .col (.int .i64) p1⟩)], 1))
  (some (.bool false, ofM [(0, some ⟨false, 3, .col (.int .i64) p1⟩)], 1)))
  (some (.bool false, ofM [(0, some ⟨false, 3, .col (.int .i64) p1⟩)], 1)))
  (some (.bool false, ofM [(0, some ⟨false, 3, .col (.int .i64) p1⟩)], 1)))
  none) := by kernel_rfl
theorem L5_0_zero (fuel g : Nat) (law_first : Bool) (ref_List : Int → Int → List Int) (b_Of : List Int → Int × Int) (b_List : Int → Int → List Int) (ref_Same : List Int → List Int → Bool) (ref_Of : List Int → Int × Int) (b_Next : Int → Int → Int → Int) (p1 : List Int) (p2 : Int) (p0_0 : Int) (p0_1 : Int) (x0_4 : Int) (x0_8 : Int) : L5_0 fuel g law_first ref_List b_Of b_List ref_Same ref_Of b_Next 0 p1 p2 p0_0 p0_1 x0_4 x0_8 = none := by kernel_rfl
theorem F5_eq (fuel g : Nat) (law_first : Bool) (ref_List : Int → Int → List Int) (b_Of : List Int → Int × Int) (b_List : Int → Int → List Int) (ref_Same : List Int → List Int → Bool) (ref_Of : List Int → Int × Int) (b_Next : Int → Int → Int → Int) (p0_0 : Int) (p0_1 : Int) (p1 : List Int) (p2 : Int) : F5 fuel g law_first ref_List b_Of b_List ref_Same ref_Of b_Next p0_0 p0_1 p1 p2 = cnd (!law_first)
  (some (.bool false, ofM [(0, some ⟨false, 3, .col (.int .i64) p1⟩)], 1))
  (L5_0 fuel g law_first ref_List b_Of b_List ref_Same ref_Of b_Next fuel p1 p2 p0_0 p0_1 (-1 : Int) (0 : Int)) := by kernel_rfl
/-! armature/armaturelaw02.BitsLaws -/
noncomputable def c6 (fuel g : Nat) (law_first : Bool) (b_Union : Int → Int → Int → Int → Int × Int) (b_Meet : Int → Int → Int → Int → Int × Int) (b_Minus : Int → Int → Int → Int → Int × Int) (b_Differ : Int → Int → Int → Int → Int × Int) (b_Count : Int → Int → Int) (b_List : Int → Int → List Int) (b_Of : List Int → Int × Int) : Ctx := ⟨tab, callOf [(12, e12 law_first), (14, e14 b_Union), (15, e15 b_Meet), (16, e16 b_Minus), (17, e17 b_Differ), (18, e18 b_Count), (29, e29 b_List), (27, e27 b_Of)], (fun k => match k with | 0 => some ⟨[], [], [3, 4, 5]⟩ | 1 => some ⟨[], [], [3, 4, 5, 9]⟩ | 2 => some ⟨[], [], [6]⟩ | 3 => some ⟨[], [], [3, 4, 5, 7]⟩ | 4 => some ⟨[], [], [6]⟩ | _ => none), (fun _ => none), (fun _ => none), ⟨[], [], [0]⟩, fuel, g, 74, 0, fun _ => []⟩
noncomputable def F6 (fuel g : Nat) (law_first : Bool) (b_Union : Int → Int → Int → Int → Int × Int) (b_Meet : Int → Int → Int → Int → Int × Int) (b_Minus : Int → Int → Int → Int → Int × Int) (b_Differ : Int → Int → Int → Int → Int × Int) (b_Count : Int → Int → Int) (b_List : Int → Int → List Int) (b_Of : List Int → Int × Int) (p0_0 : Int) (p0_1 : Int) (p1_0 : Int) (p1_1 : Int) (p2_0 : Int) (p2_1 : Int) : Option Out := runFn (c6 fuel g law_first b_Union b_Meet b_Minus b_Differ b_Count b_List b_Of) (bodyOf Go.Proofs.Tryd.f6) [.tmp 6] [.agg [.int .u64 p0_0, .int .u64 p0_1], .agg [.int .u64 p1_0, .int .u64 p1_1], .agg [.int .u64 p2_0, .int .u64 p2_1]] (memOf []) outT
theorem F6_eq (fuel g : Nat) (law_first : Bool) (b_Union : Int → Int → Int → Int → Int × Int) (b_Meet : Int → Int → Int → Int → Int × Int) (b_Minus : Int → Int → Int → Int → Int × Int) (b_Differ : Int → Int → Int → Int → Int × Int) (b_Count : Int → Int → Int) (b_List : Int → Int → List Int) (b_Of : List Int → Int × Int) (p0_0 : Int) (p0_1 : Int) (p1_0 : Int) (p1_1 : Int) (p2_0 : Int) (p2_1 : Int) : F6 fuel g law_first b_Union b_Meet b_Minus b_Differ b_Count b_List b_Of p0_0 p0_1 p1_0 p1_1 p2_0 p2_1 = cnd (!law_first)
  (some (.bool false, ofM [], 0))
  (cnd (((b_Meet (b_Union p0_0 p0_1 p1_0 p1_1).1 (b_Union p0_0 p0_1 p1_0 p1_1).2 p2_0 p2_1).1 == (b_Union (b_Meet p0_0 p0_1 p2_0 p2_1).1 (b_Meet p0_0 p0_1 p2_0 p2_1).2 (b_Meet p1_0 p1_1 p2_0 p2_1).1 (b_Meet p1_0 p1_1 p2_0 p2_1).2).1) && (((b_Meet (b_Union p0_0 p0_1 p1_0 p1_1).1 (b_Union p0_0 p0_1 p1_0 p1_1).2 p2_0 p2_1).2 == (b_Union (b_Meet p0_0 p0_1 p2_0 p2_1).1 (b_Meet p0_0 p0_1 p2_0 p2_1).2 (b_Meet p1_0 p1_1 p2_0 p2_1).1 (b_Meet p1_0 p1_1 p2_0 p2_1).2).2) && true))
  (cnd (((b_Minus (b_Union p0_0 p0_1 p1_0 p1_1).1 (b_Union p0_0 p0_1 p1_0 p1_1).2 (b_Meet p0_0 p0_1 p1_0 p1_1).1 (b_Meet p0_0 p0_1 p1_0 p1_1).2).1 == (b_Differ p0_0 p0_1 p1_0 p1_1).1) && (((b_Minus (b_Union p0_0 p0_1 p1_0 p1_1).1 (b_Union p0_0 p0_1 p1_0 p1_1).2 (b_Meet p0_0 p0_1 p1_0 p1_1).1 (b_Meet p0_0 p0_1 p1_0 p1_1).2).2 == (b_Differ p0_0 p0_1 p1_0 p1_1).2) && true))
  (cnd ((IntKind.i64.wrap ((b_Count p0_0 p0_1) + (b_Count p1_0 p1_1))) == (IntKind.i64.wrap ((b_Count (b_Union p0_0 p0_1 p1_0 p1_1).1 (b_Union p0_0 p0_1 p1_0 p1_1).2) + (b_Count (b_Meet p0_0 p0_1 p1_0 p1_1).1 (b_Meet p0_0 p0_1 p1_0 p1_1).2))))
  (cnd (((b_Of (List.take (List.length (b_List p0_0 p0_1)) (b_List p0_0 p0_1))).1 == p0_0) && (((b_Of (List.take (List.length (b_List p0_0 p0_1)) (b_List p0_0 p0_1))).2 == p0_1) && true))
  (cnd (((b_Differ (b_Differ p0_0 p0_1 p1_0 p1_1).1 (b_Differ p0_0 p0_1 p1_0 p1_1).2 p1_0 p1_1).1 == p0_0) && (((b_Differ (b_Differ p0_0 p0_1 p1_0 p1_1).1 (b_Differ p0_0 p0_1 p1_0 p1_1).2 p1_0 p1_1).2 == p0_1) && true))
  (some (.bool ((((List.length (b_List p0_0 p0_1)) : Nat) : Int) == (b_Count p0_0 p0_1)), ofM [], 0))
  (some (.bool false, ofM [], 0)))
  (some (.bool false, ofM [], 0)))
  (some (.bool false, ofM [], 0)))
  (some (.bool false, ofM [], 0)))
  (some (.bool false, ofM [], 0))) := by kernel_rfl
/-! armature/armaturelaw02.BitsSubs -/
noncomputable def c7 (fuel g : Nat) (law_first : Bool) (b_Sub : Int → Int → Int → Int → Int × Int × Bool) (b_Meet : Int → Int → Int → Int → Int × Int) (ref_Compare : Int → Int → Int → Int → Int) : Ctx := ⟨tab, callOf [(12, e12 law_first), (31, e31 b_Sub), (15, e15 b_Meet), (32, e32 ref_Compare)], (fun k => match k with | 0 => some ⟨[], [], [3, 4, 5]⟩ | 1 => some ⟨[], [], [3, 4, 5, 12]⟩ | 2 => some ⟨[], [], [6]⟩ | 3 => some ⟨[], [], [3, 4, 5, 7, 8]⟩ | 4 => some ⟨[], [], [4, 5, 7, 8, 9]⟩ | 5 => some ⟨[], [], [4, 5, 7, 9, 23]⟩ | 6 => some ⟨[], [], [6]⟩ | 7 => some ⟨[], [], [4, 5, 7, 9, 47]⟩ | 8 => some ⟨[], [], [6]⟩ | 9 => some ⟨[], [], [7, 9, 10]⟩ | 10 => some ⟨[], [], [6]⟩ | _ => none), (fun _ => none), (fun _ => none), ⟨[], [], [0]⟩, fuel, g, 61, 0, fun _ => []⟩
noncomputable def F7 (fuel g : Nat) (law_first : Bool) (b_Sub : Int → Int → Int → Int → Int × Int × Bool) (b_Meet : Int → Int → Int → Int → Int × Int) (ref_Compare : Int → Int → Int → Int → Int) (p0_0 : Int) (p0_1 : Int) (p1_0 : Int) (p1_1 : Int) (p2_0 : Int) (p2_1 : Int) : Option Out := runFn (c7 fuel g law_first b_Sub b_Meet ref_Compare) (bodyOf Go.Proofs.Tryd.f7) [.tmp 6] [.agg [.int .u64 p0_0, .int .u64 p0_1], .agg [.int .u64 p1_0, .int .u64 p1_1], .agg [.int .u64 p2_0, .int .u64 p2_1]] (memOf []) outT
theorem F7_eq (fuel g : Nat) (law_first : Bool) (b_Sub : Int → Int → Int → Int → Int × Int × Bool) (b_Meet : Int → Int → Int → Int → Int × Int) (ref_Compare : Int → Int → Int → Int → Int) (p0_0 : Int) (p0_1 : Int) (p1_0 : Int) (p1_1 : Int) (p2_0 : Int) (p2_1 : Int) : F7 fuel g law_first b_Sub b_Meet ref_Compare p0_0 p0_1 p1_0 p1_1 p2_0 p2_1 = cnd (!law_first)
  (some (.bool false, ofM [], 0))
  (cnd (!(b_Sub p0_0 p0_1 p1_0 p1_1).2.2)
  (cnd (((b_Sub p0_0 p0_1 p1_0 p1_1).1 == (0 : Int)) && (((b_Sub p0_0 p0_1 p1_0 p1_1).2.1 == (0 : Int)) && true))
  (some (.bool (((b_Meet p0_0 p0_1 p1_0 p1_1).1 == p1_0) && (((b_Meet p0_0 p0_1 p1_0 p1_1).2 == p1_1) && true)), ofM [], 0))
  (some (.bool false, ofM [], 0)))
  (cnd (!(((b_Meet (b_Sub p0_0 p0_1 p1_0 p1_1).1 (b_Sub p0_0 p0_1 p1_0 p1_1).2.1 p1_0 p1_1).1 == (b_Sub p0_0 p0_1 p1_0 p1_1).1) && (((b_Meet (b_Sub p0_0 p0_1 p1_0 p1_1).1 (b_Sub p0_0 p0_1 p1_0 p1_1).2.1 p1_0 p1_1).2 == (b_Sub p0_0 p0_1 p1_0 p1_1).2.1) && true)))
  (some (.bool false, ofM [], 0))
  (cnd ((ref_Compare (b_Sub p0_0 p0_1 p1_0 p1_1).1 (b_Sub p0_0 p0_1 p1_0 p1_1).2.1 (b_Meet p0_0 p0_1 p1_0 p1_1).1 (b_Meet p0_0 p0_1 p1_0 p1_1).2) != (1 : Int))
  (some (.bool false, ofM [], 0))
  (cnd (((b_Meet p0_0 p0_1 p1_0 p1_1).1 == p1_0) && (((b_Meet p0_0 p0_1 p1_0 p1_1).2 == p1_1) && true))
  (some (.bool false, ofM [], 0))
  (cnd (decide ((ref_Compare (b_Meet p2_0 p2_1 p1_0 p1_1).1 (b_Meet p2_0 p2_1 p1_0 p1_1).2 (b_Meet p0_0 p0_1 p1_0 p1_1).1 (b_Meet p0_0 p0_1 p1_0 p1_1).2) ≤ (0 : Int)))
  (some (.bool true, ofM [], 0))
  (some (.bool (decide ((ref_Compare (b_Meet p2_0 p2_1 p1_0 p1_1).1 (b_Meet p2_0 p2_1 p1_0 p1_1).2 (b_Sub p0_0 p0_1 p1_0 p1_1).1 (b_Sub p0_0 p0_1 p1_0 p1_1).2.1) ≥ (0 : Int))), ofM [], 0))))))) := by kernel_rfl
/-! armature/armaturelaw02.BitsCounts -/
noncomputable def c8 (fuel g : Nat) (law_first : Bool) (b_Count : Int → Int → Int) (b_Sub : Int → Int → Int → Int → Int × Int × Bool) (ref_List : Int → Int → List Int) : Ctx := ⟨tab, callOf [(12, e12 law_first), (18, e18 b_Count), (31, e31 b_Sub), (19, e19 ref_List)], (fun k => match k with | 0 => some ⟨[], [], [1]⟩ | 1 => some ⟨[], [], [1, 7]⟩ | 2 => some ⟨[], [], [2]⟩ | 3 => some ⟨[], [], [1, 10]⟩ | 4 => some ⟨[], [], [2]⟩ | 5 => some ⟨[], [], [1, 3]⟩ | 6 => some ⟨[], [], [1, 3, 4, 5]⟩ | 7 => some ⟨[], [], [1, 3, 4, 21]⟩ | 8 => some ⟨[], [], [1, 3, 4]⟩ | 9 => some ⟨[], [], [1, 3, 4, 5]⟩ | 10 => some ⟨[], [], [2]⟩ | _ => none), (fun _ => none), (fun k => match k with | 7 => some ⟨[], [], [1, 3, 4, 5]⟩ | _ => none), ⟨[], [], [0]⟩, fuel, g, 37, 0, fun _ => []⟩
noncomputable def F8 (fuel g : Nat) (law_first : Bool) (b_Count : Int → Int → Int) (b_Sub : Int → Int → Int → Int → Int × Int × Bool) (ref_List : Int → Int → List Int) (p0_0 : Int) (p0_1 : Int) : Option Out := runFn (c8 fuel g law_first b_Count b_Sub ref_List) (bodyOf Go.Proofs.Tryd.f8) [.tmp 2] [.agg [.int .u64 p0_0, .int .u64 p0_1]] (memOf []) outT
noncomputable def L8_0 (fuel g : Nat) (law_first : Bool) (b_Count : Int → Int → Int) (b_Sub : Int → Int → Int → Int → Int × Int × Bool) (ref_List : Int → Int → List Int) (n0 : Nat) (p0_0 : Int) (p0_1 : Int) (x0_1 : Int) (x0_3 : Bool) (x0_6 : Int) (x0_7 : Int) : Option Out := iterAt (c8 fuel g law_first b_Count b_Sub ref_List) (bodyOf Go.Proofs.Tryd.f8) [.r, .r, .r, .r, .r, .l, .l] n0 ⟨ofL [(1, .ptr 0 0 0), (3, .int .i64 x0_1), (4, .ptr 1 0 0), (5, .bool x0_3)], ofM [(0, some ⟨true, 24, .one [.int .u64 p0_0, .int .u64 p0_1]⟩), (1, some ⟨true, 24, .one [.int .u64 x0_6, .int .u64 x0_7]⟩)], 2⟩ (retK (c8 fuel g law_first b_Count b_Sub ref_List) [.tmp 2] outT)
theorem L8_0_succ (fuel g : Nat) (law_first : Bool) (b_Count : Int → Int → Int) (b_Sub : Int → Int → Int → Int → Int × Int × Bool) (ref_List : Int → Int → List Int) (n0 : Nat) (p0_0 : Int) (p0_1 : Int) (x0_1 : Int) (x0_3 : Bool) (x0_6 : Int) (x0_7 : Int) : L8_0 fuel g law_first b_Count b_Sub ref_List (n0 + 1) p0_0 p0_1 x0_1 x0_3 x0_6 x0_7 = cnd x0_3
  (cnd (decide (x0_1 < (2000 : Int)))
  (L8_0 fuel g law_first b_Count b_Sub ref_List n0 p0_0 p0_1 (IntKind.i64.wrap (x0_1 + (1 : Int))) (b_Sub x0_6 x0_7 p0_0 p0_1).2.2 (b_Sub x0_6 x0_7 p0_0 p0_1).1 (b_Sub x0_6 x0_7 p0_0 p0_1).2.1)
  (cnd (decide ((IntKind.u64.wrap (((List.length (ref_List p0_0 p0_1)) : Nat) : Int)) < 0))
  none
  (some (.bool (x0_1 == (IntKind.i64.wrap ((1 : Int) * 2 ^ (min (Int.toNat (IntKind.u64.wrap (((List.length (ref_List p0_0 p0_1)) : Nat) : Int))) 64)))), ofM [], 0))))
  (cnd (decide ((IntKind.u64.wrap (((List.length (ref_List p0_0 p0_1)) : Nat) : Int)) < 0))
  none
  (some (.bool (x0_1 == (IntKind.i64.wrap ((1 : Int) * 2 ^ (min (Int.toNat (IntKind.u64.wrap (((List.length (ref_List p0_0 p0_1)) : Nat) : Int))) 64)))), ofM [], 0))) := by kernel_rfl
theorem L8_0_zero (fuel g : Nat) (law_first : Bool) (b_Count : Int → Int → Int) (b_Sub : Int → Int → Int → Int → Int × Int × Bool) (ref_List : Int → Int → List Int) (p0_0 : Int) (p0_1 : Int) (x0_1 : Int) (x0_3 : Bool) (x0_6 : Int) (x0_7 : Int) : L8_0 fuel g law_first b_Count b_Sub ref_List 0 p0_0 p0_1 x0_1 x0_3 x0_6 x0_7 = none := by kernel_rfl
theorem F8_eq (fuel g : Nat) (law_first : Bool) (b_Count : Int → Int → Int) (b_Sub : Int → Int → Int → Int → Int × Int × Bool) (ref_List : Int → Int → List Int) (p0_0 : Int) (p0_1 : Int) : F8 fuel g law_first b_Count b_Sub ref_List p0_0 p0_1 = cnd (!law_first)
  (some (.bool false, ofM [], 0))
  (cnd (decide ((b_Count p0_0 p0_1) > (10 : Int)))
  (some (.bool true, ofM [], 0))
  (L8_0 fuel g law_first b_Count b_Sub ref_List fuel p0_0 p0_1 (1 : Int) (b_Sub (0 : Int) (0 : Int) p0_0 p0_1).2.2 (b_Sub (0 : Int) (0 : Int) p0_0 p0_1).1 (b_Sub (0 : Int) (0 : Int) p0_0 p0_1).2.1)) := by kernel_rfl
/-! armature/armaturelaw02.BitsMoves -/
noncomputable def c9 (fuel g : Nat) (law_first : Bool) (b_Compare : Int → Int → Int → Int → Int) (ref_Compare : Int → Int → Int → Int → Int) (b_Shift : Int → Int → Int → Int × Int) (ref_Of : List Int → Int × Int) (ref_Has : Int → Int → Int → Bool) : Ctx := ⟨tab, callOf [(12, e12 law_first), (33, e33 b_Compare), (32, e32 ref_Compare), (34, e34 b_Shift), (20, e20 ref_Of), (13, e13 ref_Has)], (fun k => match k with | 0 => some ⟨[], [], [2, 3, 4]⟩ | 1 => some ⟨[], [], [2, 3, 4, 11]⟩ | 2 => some ⟨[], [], [6]⟩ | 3 => some ⟨[], [], [2, 3, 4, 7]⟩ | 4 => some ⟨[], [], [2, 3, 4, 7, 8]⟩ | 5 => some ⟨[], [], [2, 3, 4, 7, 8, 13]⟩ | 7 => some ⟨[], [], [2, 3, 4, 7, 8, 9]⟩ | 8 => some ⟨[], [], [2, 3, 4, 7, 8, 9, 17]⟩ | 10 => some ⟨[], [], [2, 3, 4, 7, 8, 9, 29]⟩ | 11 => some ⟨[], [], [2, 3, 4, 7, 8, 9]⟩ | 9 => some ⟨[], [], [2, 3, 4, 7, 8, 9]⟩ | 6 => some ⟨[], [], [2, 3, 4, 7, 8]⟩ | 12 => some ⟨[], [], [6]⟩ | _ => none), (fun _ => none), (fun k => match k with | 5 => some ⟨[], [(7, 3, [.int .i64])], [2, 3, 4, 7, 8]⟩ | 8 => some ⟨[], [], [2, 3, 4, 7, 8, 9]⟩ | _ => none), ⟨[], [], [0]⟩, fuel, g, 59, 0, fun _ => []⟩
noncomputable def F9 (fuel g : Nat) (law_first : Bool) (b_Compare : Int → Int → Int → Int → Int) (ref_Compare : Int → Int → Int → Int → Int) (b_Shift : Int → Int → Int → Int × Int) (ref_Of : List Int → Int × Int) (ref_Has : Int → Int → Int → Bool) (p0_0 : Int) (p0_1 : Int) (p1_0 : Int) (p1_1 : Int) (p2 : Int) : Option Out := runFn (c9 fuel g law_first b_Compare ref_Compare b_Shift ref_Of ref_Has) (bodyOf Go.Proofs.Tryd.f9) [.tmp 6] [.agg [.int .u64 p0_0, .int .u64 p0_1], .agg [.int .u64 p1_0, .int .u64 p1_1], .int .i64 p2] (memOf []) outT
noncomputable def L9_0 (fuel g : Nat) (law_first : Bool) (b_Compare : Int → Int → Int → Int → Int) (ref_Compare : Int → Int → Int → Int → Int) (b_Shift : Int → Int → Int → Int × Int) (ref_Of : List Int → Int × Int) (ref_Has : Int → Int → Int → Bool) (n0 : Nat) (p2 : Int) (p0_0 : Int) (p0_1 : Int) (p1_0 : Int) (p1_1 : Int) (x0_4 : Nat) (x0_5 : Int) (x0_10 : List Int) : Option Out := iterAt (c9 fuel g law_first b_Compare ref_Compare b_Shift ref_Of ref_Has) (bodyOf Go.Proofs.Tryd.f9) [.r, .r, .r, .l, .r, .l] n0 ⟨ofL [(2, .int .i64 p2), (3, .ptr 0 0 0), (4, .ptr 1 0 0), (7, .sl 2 0 x0_4), (8, .int .i64 x0_5)], ofM [(0, some ⟨true, 24, .one [.int .u64 p0_0, .int .u64 p0_1]⟩), (1, some ⟨true, 24, .one [.int .u64 p1_0, .int .u64 p1_1]⟩), (2, some ⟨true, 3, .col (.int .i64) x0_10⟩)], 3⟩ (retK (c9 fuel g law_first b_Compare ref_Compare b_Shift ref_Of ref_Has) [.tmp 6] outT)
noncomputable def L9_1 (fuel g : Nat) (law_first : Bool) (b_Compare : Int → Int → Int → Int → Int) (ref_Compare : Int → Int → Int → Int → Int) (b_Shift : Int → Int → Int → Int × Int) (ref_Of : List Int → Int × Int) (ref_Has : Int → Int → Int → Bool) (n0 : Nat) (n1 : Nat) (p2 : Int) (x0_5 : Int) (p0_0 : Int) (p0_1 : Int) (p1_0 : Int) (p1_1 : Int) (x1_4 : Nat) (x1_6 : Int) (x1_11 : List Int) : Option Out := iterAt (c9 fuel g law_first b_Compare ref_Compare b_Shift ref_Of ref_Has) (bodyOf Go.Proofs.Tryd.f9) [.r, .r, .r, .l, .r, .l, .it n0, .r, .l, .l, .r, .l] n1 ⟨ofL [(2, .int .i64 p2), (3, .ptr 0 0 0), (4, .ptr 1 0 0), (7, .sl 2 0 x1_4), (8, .int .i64 x0_5), (9, .int .i64 x1_6)], ofM [(0, some ⟨true, 24, .one [.int .u64 p0_0, .int .u64 p0_1]⟩), (1, some ⟨true, 24, .one [.int .u64 p1_0, .int .u64 p1_1]⟩), (2, some ⟨true, 3, .col (.int .i64) x1_11⟩)], 3⟩ (retK (c9 fuel g law_first b_Compare ref_Compare b_Shift ref_Of ref_Has) [.tmp 6] outT)
theorem L9_0_succ (fuel g : Nat) (law_first : Bool) (b_Compare : Int → Int → Int → Int → Int) (ref_Compare : Int → Int → Int → Int → Int) (b_Shift : Int → Int → Int → Int × Int) (ref_Of : List Int → Int × Int) (ref_Has : Int → Int → Int → Bool) (n0 : Nat) (p2 : Int) (p0_0 : Int) (p0_1 : Int) (p1_0 : Int) (p1_1 : Int) (x0_4 : Nat) (x0_5 : Int) (x0_10 : List Int) : L9_0 fuel g law_first b_Compare ref_Compare b_Shift ref_Of ref_Has (n0 + 1) p2 p0_0 p0_1 p1_0 p1_1 x0_4 x0_5 x0_10 = cnd (decide (x0_5 < (128 : Int)))
  (L9_1 fuel g law_first b_Compare ref_Compare b_Shift ref_Of ref_Has n0 fuel p2 x0_5 p0_0 p0_1 p1_0 p1_1 x0_4 (0 : Int) x0_10)
  (cnd ((b_Compare p0_0 p0_1 p1_0 p1_1) == (ref_Compare p0_0 p0_1 p1_0 p1_1))
  (cnd ((b_Compare p1_0 p1_1 p0_0 p0_1) == (IntKind.i64.wrap (0 - (ref_Compare p0_0 p0_1 p1_0 p1_1))))
  (some (.bool (((b_Shift p0_0 p0_1 p2).1 == (ref_Of (List.take x0_4 x0_10)).1) && (((b_Shift p0_0 p0_1 p2).2 == (ref_Of (List.take x0_4 x0_10)).2) && true)), ofM [], 0))
  (some (.bool false, ofM [], 0)))
  (some (.bool false, ofM [], 0))) := by kernel_rfl
theorem L9_0_zero (fuel g : Nat) (law_first : Bool) (b_Compare : Int → Int → Int → Int → Int) (ref_Compare : Int → Int → Int → Int → Int) (b_Shift : Int → Int → Int → Int × Int) (ref_Of : List Int → Int × Int) (ref_Has : Int → Int → Int → Bool) (p2 : Int) (p0_0 : Int) (p0_1 : Int) (p1_0 : Int) (p1_1 : Int) (x0_4 : Nat) (x0_5 : Int) (x0_10 : List Int) : L9_0 fuel g law_first b_Compare ref_Compare b_Shift ref_Of ref_Has 0 p2 p0_0 p0_1 p1_0 p1_1 x0_4 x0_5 x0_10 = none := by kernel_rfl
theorem L9_1_succ (fuel g : Nat) (law_first : Bool) (b_Compare : Int → Int → Int → Int → Int) (ref_Compare : Int → Int → Int → Int → Int) (b_Shift : Int → Int → Int → Int × Int) (ref_Of : List Int → Int × Int) (ref_Has : Int → Int → Int → Bool) (n0 : Nat) (n1 : Nat) (p2 : Int) (x0_5 : Int) (p0_0 : Int) (p0_1 : Int) (p1_0 : Int) (p1_1 : Int) (x1_4 : Nat) (x1_6 : Int) (x1_11 : List Int) : L9_1 fuel g law_first b_Compare ref_Compare b_Shift ref_Of ref_Has n0 (n1 + 1) p2 x0_5 p0_0 p0_1 p1_0 p1_1 x1_4 x1_6 x1_11 = cnd (decide (x1_6 < (128 : Int)))
  (cnd ((IntKind.i64.wrap (x1_6 - x0_5)) == p2)
  (cnd (ref_Has p0_0 p0_1 x0_5)
  (cnd (decide ((x1_4 + 1) * 8 ≤ 140737488355328))
  (L9_1 fuel g law_first b_Compare ref_Compare b_Shift ref_Of ref_Has n0 n1 p2 x0_5 p0_0 p0_1 p1_0 p1_1 (x1_4 + 1) (IntKind.i64.wrap (x1_6 + (1 : Int))) ((List.take x1_4 x1_11) ++ [x1_6]))
  none)
  (L9_1 fuel g law_first b_Compare ref_Compare b_Shift ref_Of ref_Has n0 n1 p2 x0_5 p0_0 p0_1 p1_0 p1_1 x1_4 (IntKind.i64.wrap (x1_6 + (1 : Int))) x1_11))
  (L9_1 fuel g law_first b_Compare ref_Compare b_Shift ref_Of ref_Has n0 n1 p2 x0_5 p0_0 p0_1 p1_0 p1_1 x1_4 (IntKind.i64.wrap (x1_6 + (1 : Int))) x1_11))
  (L9_0 fuel g law_first b_Compare ref_Compare b_Shift ref_Of ref_Has n0 p2 p0_0 p0_1 p1_0 p1_1 x1_4 (IntKind.i64.wrap (x0_5 + (1 : Int))) x1_11) := by kernel_rfl
theorem L9_1_zero (fuel g : Nat) (law_first : Bool) (b_Compare : Int → Int → Int → Int → Int) (ref_Compare : Int → Int → Int → Int → Int) (b_Shift : Int → Int → Int → Int × Int) (ref_Of : List Int → Int × Int) (ref_Has : Int → Int → Int → Bool) (n0 : Nat) (p2 : Int) (x0_5 : Int) (p0_0 : Int) (p0_1 : Int) (p1_0 : Int) (p1_1 : Int) (x1_4 : Nat) (x1_6 : Int) (x1_11 : List Int) : L9_1 fuel g law_first b_Compare ref_Compare b_Shift ref_Of ref_Has n0 0 p2 x0_5 p0_0 p0_1 p1_0 p1_1 x1_4 x1_6 x1_11 = none := by kernel_rfl
theorem F9_eq (fuel g : Nat) (law_first : Bool) (b_Compare : Int → Int → Int → Int → Int) (ref_Compare : Int → Int → Int → Int → Int) (b_Shift : Int → Int → Int → Int × Int) (ref_Of : List Int → Int × Int) (ref_Has : Int → Int → Int → Bool) (p0_0 : Int) (p0_1 : Int) (p1_0 : Int) (p1_1 : Int) (p2 : Int) : F9 fuel g law_first b_Compare ref_Compare b_Shift ref_Of ref_Has p0_0 p0_1 p1_0 p1_1 p2 = cnd (!law_first)
  (some (.bool false, ofM [], 0))
  (L9_0 fuel g law_first b_Compare ref_Compare b_Shift ref_Of ref_Has fuel p2 p0_0 p0_1 p1_0 p1_1 0 (0 : Int) []) := by kernel_rfl
/-! armature/armaturelaw02.BitsBytes -/
noncomputable def c10 (fuel g : Nat) (law_first : Bool) (b_Bytes : Int → Int → List Int) (ref_Has : Int → Int → Int → Bool) (b_FromBytes : List Int → Int × Int × Int) : Ctx := ⟨tab, callOf [(12, e12 law_first), (35, e35 b_Bytes), (13, e13 ref_Has), (36, e36 b_FromBytes)], (fun k => match k with | 0 => some ⟨[], [], [1, 2]⟩ | 1 => some ⟨[], [], [1, 2, 12]⟩ | 2 => some ⟨[], [], [4]⟩ | 3 => some ⟨[], [], [1, 2, 5]⟩ | 4 => some ⟨[], [], [1, 2, 5, 17]⟩ | 5 => some ⟨[], [], [4]⟩ | 6 => some ⟨[], [], [1, 2, 5, 6]⟩ | 7 => some ⟨[], [], [1, 2, 5, 6, 19]⟩ | 9 => some ⟨[], [], [1, 2, 5, 6, 36]⟩ | 10 => some ⟨[], [], [4]⟩ | 8 => some ⟨[], [], [1, 2, 5, 6]⟩ | 11 => some ⟨[], [], [1, 2, 7, 8]⟩ | 12 => some ⟨[], [], [1, 2, 7, 8, 9, 10]⟩ | 13 => some ⟨[], [], [1, 9, 10, 74]⟩ | 14 => some ⟨[], [], [4]⟩ | 15 => some ⟨[], [], [4]⟩ | _ => none), (fun _ => none), (fun k => match k with | 7 => some ⟨[], [], [1, 2, 5, 6]⟩ | _ => none), ⟨[], [], [0]⟩, fuel, g, 85, 1, fun _ => []⟩
noncomputable def F10 (fuel g : Nat) (law_first : Bool) (b_Bytes : Int → Int → List Int) (ref_Has : Int → Int → Int → Bool) (b_FromBytes : List Int → Int × Int × Int) (p0_0 : Int) (p0_1 : Int) (p1 : List Int) : Option Out := runFn (c10 fuel g law_first b_Bytes ref_Has b_FromBytes) (bodyOf Go.Proofs.Tryd.f10) [.tmp 4] [.agg [.int .u64 p0_0, .int .u64 p0_1], .sl 0 0 (List.length p1)] (memOf [⟨false, 5, .col (.int .u8) p1⟩]) outT
noncomputable def L10_0 (fuel g : Nat) (law_first : Bool) (b_Bytes : Int → Int → List Int) (ref_Has : Int → Int → Int → Bool) (b_FromBytes : List Int → Int × Int × Int) (n0 : Nat) (p1 : List Int) (p0_0 : Int) (p0_1 : Int) (x0_5 : Int) : Option Out := iterAt (c10 fuel g law_first b_Bytes ref_Has b_FromBytes) (bodyOf Go.Proofs.Tryd.f10) [.r, .r, .r, .r, .l, .r, .l] n0 ⟨ofL [(1, .sl 0 0 (List.length p1)), (2, .ptr 1 0 0), (5, .sl 2 0 (List.length (b_Bytes p0_0 p0_1))), (6, .int .i64 x0_5)], ofM [(0, some ⟨false, 5, .col (.int .u8) p1⟩), (1, some ⟨true, 24, .one [.int .u64 p0_0, .int .u64 p0_1]⟩), (2, some ⟨true, 5, .col (.int .u8) (b_Bytes p0_0 p0_1)⟩)], 3⟩ (retK (c10 fuel g law_first b_Bytes ref_Has b_FromBytes) [.tmp 4] outT)
theorem L10_0_succ (fuel g : Nat) (law_first : Bool) (b_Bytes : Int → Int → List Int) (ref_Has : Int → Int → Int → Bool) (b_FromBytes : List Int → Int × Int × Int) (n0 : Nat) (p1 : List Int) (p0_0 : Int) (p0_1 : Int) (x0_5 : Int) : L10_0 fuel g law_first b_Bytes ref_Has b_FromBytes (n0 + 1) p1 p0_0 p0_1 x0_5 = cnd (decide (x0_5 < (128 : Int)))
  (cnd (decide (0 ≤ (IntKind.i64.wrap (Int.tdiv x0_5 (8 : Int)))))
  (cnd (decide ((IntKind.i64.wrap (Int.tdiv x0_5 (8 : Int))) < (((List.length (b_Bytes p0_0 p0_1)) : Nat) : Int)))
  (cnd (decide ((IntKind.u64.wrap (Int.tmod x0_5 (8 : Int))) < 0))
  none
  (cnd (!(((andI .u8 (Int.fdiv (List.getD (b_Bytes p0_0 p0_1) (0 + (Int.toNat (IntKind.i64.wrap (Int.tdiv x0_5 (8 : Int))))) (0 : Int)) (2 ^ (min (Int.toNat (IntKind.u64.wrap (Int.tmod x0_5 (8 : Int)))) 8))) (1 : Int)) == (1 : Int)) == (ref_Has p0_0 p0_1 x0_5)))
  (some (.bool false, ofM [(0, some ⟨false, 5, .col (.int .u8) p1⟩)], 1))
  (L10_0 fuel g law_first b_Bytes ref_Has b_FromBytes n0 p1 p0_0 p0_1 (IntKind.i64.wrap (x0_5 + (1 : Int))))))
  none)
  none)
  (cnd ((b_FromBytes (List.take (List.length (b_Bytes p0_0 p0_1)) (b_Bytes p0_0 p0_1))).2.2 != (0 : Int))
  (some (.bool false, ofM [(0, some ⟨false, 5, .col (.int .u8) p1⟩)], 1))
  (cnd (!(((b_FromBytes (List.take (List.length (b_Bytes p0_0 p0_1)) (b_Bytes p0_0 p0_1))).1 == p0_0) && (((b_FromBytes (List.take (List.length (b_Bytes p0_0 p0_1)) (b_Bytes p0_0 p0_1))).2.1 == p0_1) && true)))
  (some (.bool false, ofM [(0, some ⟨false, 5, .col (.int .u8) p1⟩)], 1))
  (cnd (!(((b_FromBytes (List.take (List.length p1) p1)).2.2 == (0 : Int)) == ((((List.length p1) : Nat) : Int) == (16 : Int))))
  (some (.bool false, ofM [(0, some ⟨false, 5, .col (.int .u8) p1⟩)], 1))
  (cnd ((b_FromBytes (List.take (List.length p1) p1)).2.2 != (0 : Int))
  (cnd ((b_FromBytes (List.take (List.length p1) p1)).2.2 != (3 : Int))
  (some (.bool false, ofM [(0, some ⟨false, 5, .col (.int .u8) p1⟩)], 1))
  (cnd (!(((b_FromBytes (List.take (List.length p1) p1)).1 == (0 : Int)) && (((b_FromBytes (List.take (List.length p1) p1)).2.1 == (0 : Int)) && true)))
  (some (.bool false, ofM [(0, some ⟨false, 5, .col (.int .u8) p1⟩)], 1))
  (cnd ((b_FromBytes (List.take (List.length p1) p1)).2.2 != (0 : Int))
  (some (.bool true, ofM [(0, some ⟨false, 5, .col (.int .u8) p1⟩)], 1))
  (some (.bool (((textOf (List.take (List.length (b_Bytes (b_FromBytes (List.take (List.length p1) p1)).1 (b_FromBytes (List.take (List.length p1) p1)).2.1)) (b_Bytes (b_FromBytes (List.take (List.length p1) p1)).1 (b_FromBytes (List.take (List.length p1) p1)).2.1)))).toList == ((textOf (List.take (List.length p1) p1))).toList), ofM [(0, some ⟨false, 5, .col (.int .u8) p1⟩)], 1)))))
  (cnd ((b_FromBytes (List.take (List.length p1) p1)).2.2 != (0 : Int))
  (some (.bool true, ofM [(0, some ⟨false, 5, .col (.int .u8) p1⟩)], 1))
  (some (.bool (((textOf (List.take (List.length (b_Bytes (b_FromBytes (List.take (List.length p1) p1)).1 (b_FromBytes (List.take (List.length p1) p1)).2.1)) (b_Bytes (b_FromBytes (List.take (List.length p1) p1)).1 (b_FromBytes (List.take (List.length p1) p1)).2.1)))).toList == ((textOf (List.take (List.length p1) p1))).toList), ofM [(0, some ⟨false, 5, .col (.int .u8) p1⟩)], 1))))))) := by kernel_rfl
theorem L10_0_zero (fuel g : Nat) (law_first : Bool) (b_Bytes : Int → Int → List Int) (ref_Has : Int → Int → Int → Bool) (b_FromBytes : List Int → Int × Int × Int) (p1 : List Int) (p0_0 : Int) (p0_1 : Int) (x0_5 : Int) : L10_0 fuel g law_first b_Bytes ref_Has b_FromBytes 0 p1 p0_0 p0_1 x0_5 = none := by kernel_rfl
theorem F10_eq (fuel g : Nat) (law_first : Bool) (b_Bytes : Int → Int → List Int) (ref_Has : Int → Int → Int → Bool) (b_FromBytes : List Int → Int × Int × Int) (p0_0 : Int) (p0_1 : Int) (p1 : List Int) : F10 fuel g law_first b_Bytes ref_Has b_FromBytes p0_0 p0_1 p1 = cnd (!law_first)
  (some (.bool false, ofM [(0, some ⟨false, 5, .col (.int .u8) p1⟩)], 1))
  (cnd ((((List.length (b_Bytes p0_0 p0_1)) : Nat) : Int) != (16 : Int))
  (some (.bool false, ofM [(0, some ⟨false, 5, .col (.int .u8) p1⟩)], 1))
  (L10_0 fuel g law_first b_Bytes ref_Has b_FromBytes fuel p1 p0_0 p0_1 (0 : Int))) := by kernel_rfl
/-! armature/armaturelaw02.BitsShifts -/
noncomputable def c11 (fuel g : Nat) (law_first : Bool) (b_Shift : Int → Int → Int → Int × Int) (b_Below : Int → Int × Int) (b_Meet : Int → Int → Int → Int → Int × Int) (b_Count : Int → Int → Int) : Ctx := ⟨tab, callOf [(12, e12 law_first), (34, e34 b_Shift), (25, e25 b_Below), (15, e15 b_Meet), (18, e18 b_Count)], (fun k => match k with | 0 => some ⟨[], [], [1, 2, 3]⟩ | 1 => some ⟨[], [], [1, 2, 3, 9]⟩ | 2 => some ⟨[], [], [6]⟩ | 3 => some ⟨[], [], [1, 2, 3]⟩ | 4 => some ⟨[], [], [1, 2, 3, 7]⟩ | 5 => some ⟨[], [], [6]⟩ | _ => none), (fun _ => none), (fun _ => none), ⟨[], [], [0]⟩, fuel, g, 73, 0, fun _ => []⟩
noncomputable def F11 (fuel g : Nat) (law_first : Bool) (b_Shift : Int → Int → Int → Int × Int) (b_Below : Int → Int × Int) (b_Meet : Int → Int → Int → Int → Int × Int) (b_Count : Int → Int → Int) (p0_0 : Int) (p0_1 : Int) (p1 : Int) (p2 : Int) : Option Out := runFn (c11 fuel g law_first b_Shift b_Below b_Meet b_Count) (bodyOf Go.Proofs.Tryd.f11) [.tmp 6] [.agg [.int .u64 p0_0, .int .u64 p0_1], .int .i64 p1, .int .i64 p2] (memOf []) outT
theorem F11_eq (fuel g : Nat) (law_first : Bool) (b_Shift : Int → Int → Int → Int × Int) (b_Below : Int → Int × Int) (b_Meet : Int → Int → Int → Int → Int × Int) (b_Count : Int → Int → Int) (p0_0 : Int) (p0_1 : Int) (p1 : Int) (p2 : Int) : F11 fuel g law_first b_Shift b_Below b_Meet b_Count p0_0 p0_1 p1 p2 = cnd (!law_first)
  (some (.bool false, ofM [], 0))
  (cnd (((b_Shift (b_Shift p0_0 p0_1 (IntKind.i64.wrap (Int.tmod (IntKind.u64.wrap p1) (130 : Int)))).1 (b_Shift p0_0 p0_1 (IntKind.i64.wrap (Int.tmod (IntKind.u64.wrap p1) (130 : Int)))).2 (IntKind.i64.wrap (Int.tmod (IntKind.u64.wrap p2) (130 : Int)))).1 == (b_Shift p0_0 p0_1 (IntKind.i64.wrap ((IntKind.i64.wrap (Int.tmod (IntKind.u64.wrap p1) (130 : Int))) + (IntKind.i64.wrap (Int.tmod (IntKind.u64.wrap p2) (130 : Int)))))).1) && (((b_Shift (b_Shift p0_0 p0_1 (IntKind.i64.wrap (Int.tmod (IntKind.u64.wrap p1) (130 : Int)))).1 (b_Shift p0_0 p0_1 (IntKind.i64.wrap (Int.tmod (IntKind.u64.wrap p1) (130 : Int)))).2 (IntKind.i64.wrap (Int.tmod (IntKind.u64.wrap p2) (130 : Int)))).2 == (b_Shift p0_0 p0_1 (IntKind.i64.wrap ((IntKind.i64.wrap (Int.tmod (IntKind.u64.wrap p1) (130 : Int))) + (IntKind.i64.wrap (Int.tmod (IntKind.u64.wrap p2) (130 : Int)))))).2) && true))
  (cnd (((b_Shift (b_Shift p0_0 p0_1 (IntKind.i64.wrap (0 - (IntKind.i64.wrap (Int.tmod (IntKind.u64.wrap p1) (130 : Int)))))).1 (b_Shift p0_0 p0_1 (IntKind.i64.wrap (0 - (IntKind.i64.wrap (Int.tmod (IntKind.u64.wrap p1) (130 : Int)))))).2 (IntKind.i64.wrap (0 - (IntKind.i64.wrap (Int.tmod (IntKind.u64.wrap p2) (130 : Int)))))).1 == (b_Shift p0_0 p0_1 (IntKind.i64.wrap ((IntKind.i64.wrap (0 - (IntKind.i64.wrap (Int.tmod (IntKind.u64.wrap p1) (130 : Int))))) - (IntKind.i64.wrap (Int.tmod (IntKind.u64.wrap p2) (130 : Int)))))).1) && (((b_Shift (b_Shift p0_0 p0_1 (IntKind.i64.wrap (0 - (IntKind.i64.wrap (Int.tmod (IntKind.u64.wrap p1) (130 : Int)))))).1 (b_Shift p0_0 p0_1 (IntKind.i64.wrap (0 - (IntKind.i64.wrap (Int.tmod (IntKind.u64.wrap p1) (130 : Int)))))).2 (IntKind.i64.wrap (0 - (IntKind.i64.wrap (Int.tmod (IntKind.u64.wrap p2) (130 : Int)))))).2 == (b_Shift p0_0 p0_1 (IntKind.i64.wrap ((IntKind.i64.wrap (0 - (IntKind.i64.wrap (Int.tmod (IntKind.u64.wrap p1) (130 : Int))))) - (IntKind.i64.wrap (Int.tmod (IntKind.u64.wrap p2) (130 : Int)))))).2) && true))
  (cnd (((b_Shift (b_Shift p0_0 p0_1 (IntKind.i64.wrap (Int.tmod (IntKind.u64.wrap p1) (130 : Int)))).1 (b_Shift p0_0 p0_1 (IntKind.i64.wrap (Int.tmod (IntKind.u64.wrap p1) (130 : Int)))).2 (IntKind.i64.wrap (0 - (IntKind.i64.wrap (Int.tmod (IntKind.u64.wrap p1) (130 : Int)))))).1 == (b_Meet p0_0 p0_1 (b_Below (IntKind.i64.wrap ((128 : Int) - (IntKind.i64.wrap (Int.tmod (IntKind.u64.wrap p1) (130 : Int)))))).1 (b_Below (IntKind.i64.wrap ((128 : Int) - (IntKind.i64.wrap (Int.tmod (IntKind.u64.wrap p1) (130 : Int)))))).2).1) && (((b_Shift (b_Shift p0_0 p0_1 (IntKind.i64.wrap (Int.tmod (IntKind.u64.wrap p1) (130 : Int)))).1 (b_Shift p0_0 p0_1 (IntKind.i64.wrap (Int.tmod (IntKind.u64.wrap p1) (130 : Int)))).2 (IntKind.i64.wrap (0 - (IntKind.i64.wrap (Int.tmod (IntKind.u64.wrap p1) (130 : Int)))))).2 == (b_Meet p0_0 p0_1 (b_Below (IntKind.i64.wrap ((128 : Int) - (IntKind.i64.wrap (Int.tmod (IntKind.u64.wrap p1) (130 : Int)))))).1 (b_Below (IntKind.i64.wrap ((128 : Int) - (IntKind.i64.wrap (Int.tmod (IntKind.u64.wrap p1) (130 : Int)))))).2).2) && true))
  (cnd (decide ((b_Count (b_Shift (b_Shift p0_0 p0_1 (IntKind.i64.wrap (Int.tmod (IntKind.u64.wrap p1) (130 : Int)))).1 (b_Shift p0_0 p0_1 (IntKind.i64.wrap (Int.tmod (IntKind.u64.wrap p1) (130 : Int)))).2 (IntKind.i64.wrap (Int.tmod (IntKind.u64.wrap p2) (130 : Int)))).1 (b_Shift (b_Shift p0_0 p0_1 (IntKind.i64.wrap (Int.tmod (IntKind.u64.wrap p1) (130 : Int)))).1 (b_Shift p0_0 p0_1 (IntKind.i64.wrap (Int.tmod (IntKind.u64.wrap p1) (130 : Int)))).2 (IntKind.i64.wrap (Int.tmod (IntKind.u64.wrap p2) (130 : Int)))).2) ≤ (b_Count p0_0 p0_1)))
  (some (.bool (((b_Shift p0_0 p0_1 (0 : Int)).1 == p0_0) && (((b_Shift p0_0 p0_1 (0 : Int)).2 == p0_1) && true)), ofM [], 0))
  (some (.bool false, ofM [], 0)))
  (some (.bool false, ofM [], 0)))
  (some (.bool false, ofM [], 0)))
  (some (.bool false, ofM [], 0))) := by kernel_rfl
/-! armature/armaturelaw02.first -/
noncomputable def c12 (fuel g : Nat) (b_Of : List Int → Int × Int) (b_Has : Int → Int → Int → Bool) (b_Count : Int → Int → Int) (b_Next : Int → Int → Int → Int) (b_Compare : Int → Int → Int → Int → Int) : Ctx := ⟨tab, callOf [(27, e27 b_Of), (21, e21 b_Has), (18, e18 b_Count), (30, e30 b_Next), (33, e33 b_Compare)], (fun k => match k with | 0 => some ⟨[], [], []⟩ | 1 => some ⟨[], [], [1]⟩ | 2 => some ⟨[], [], [0]⟩ | _ => none), (fun _ => none), (fun _ => none), ⟨[], [], [0]⟩, fuel, g, 22, 0, fun _ => []⟩
noncomputable def F12 (fuel g : Nat) (b_Of : List Int → Int × Int) (b_Has : Int → Int → Int → Bool) (b_Count : Int → Int → Int) (b_Next : Int → Int → Int → Int) (b_Compare : Int → Int → Int → Int → Int) : Option Out := runFn (c12 fuel g b_Of b_Has b_Count b_Next b_Compare) (bodyOf Go.Proofs.Tryd.f12) [.tmp 0] [] (memOf []) outT
theorem F12_eq (fuel g : Nat) (b_Of : List Int → Int × Int) (b_Has : Int → Int → Int → Bool) (b_Count : Int → Int → Int) (b_Next : Int → Int → Int → Int) (b_Compare : Int → Int → Int → Int → Int) : F12 fuel g b_Of b_Has b_Count b_Next b_Compare = cnd (b_Has (b_Of [(3 : Int), (64 : Int)]).1 (b_Of [(3 : Int), (64 : Int)]).2 (64 : Int))
  (cnd ((b_Count (b_Of [(3 : Int), (64 : Int)]).1 (b_Of [(3 : Int), (64 : Int)]).2) == (2 : Int))
  (cnd ((b_Next (b_Of [(3 : Int), (64 : Int)]).1 (b_Of [(3 : Int), (64 : Int)]).2 (4 : Int)) == (64 : Int))
  (some (.bool ((b_Compare (b_Of [(3 : Int), (64 : Int)]).1 (b_Of [(3 : Int), (64 : Int)]).2 (0 : Int) (0 : Int)) == (1 : Int)), ofM [], 0))
  (some (.bool false, ofM [], 0)))
  (some (.bool false, ofM [], 0)))
  (some (.bool false, ofM [], 0)) := by kernel_rfl
/-! armature/armatureref02.Has -/
noncomputable def c13 (fuel g : Nat) : Ctx := ⟨tab, callOf [], (fun k => match k with | 0 => some ⟨[], [], [1, 2]⟩ | 1 => some ⟨[], [], [1, 2, 11]⟩ | 2 => some ⟨[], [], [4]⟩ | 3 => some ⟨[], [], [1, 2, 5]⟩ | 4 => some ⟨[], [], [1, 2, 5, 15]⟩ | 5 => some ⟨[], [], [1, 5]⟩ | 6 => some ⟨[], [], [1, 5]⟩ | 7 => some ⟨[], [], [1, 5, 21]⟩ | 8 => some ⟨[], [], [1, 5]⟩ | 9 => some ⟨[], [], [1, 5]⟩ | 10 => some ⟨[], [], [4]⟩ | _ => none), (fun k => match k with | 7 => some ⟨[], [], [1, 5]⟩ | _ => none), (fun k => match k with | 7 => some ⟨[], [], [1, 5]⟩ | _ => none), ⟨[], [], [0]⟩, fuel, g, 29, 0, fun _ => []⟩
noncomputable def F13 (fuel g : Nat) (p0_0 : Int) (p0_1 : Int) (p1 : Int) : Option Out := runFn (c13 fuel g) (bodyOf Go.Proofs.Tryd.f13) [.tmp 4] [.agg [.int .u64 p0_0, .int .u64 p0_1], .int .i64 p1] (memOf []) outT
noncomputable def J13_0 (fuel g : Nat) (x0_0 : Int) (x0_1 : Int) : Option Out := gate ((c13 fuel g).join 7) g (fun _ => runAt (c13 fuel g) (bodyOf Go.Proofs.Tryd.f13) [.r, .r, .r, .r] ⟨ofL [(1, .int .i64 x0_0), (5, .int .u64 x0_1)], ofM [], 0⟩ (retK (c13 fuel g) [.tmp 4] outT))
noncomputable def L13_1 (fuel g : Nat) (n0 : Nat) (x1_0 : Int) (x1_1 : Int) : Option Out := iterAt (c13 fuel g) (bodyOf Go.Proofs.Tryd.f13) [.r, .r, .r, .r, .l, .l] n0 ⟨ofL [(1, .int .i64 x1_0), (5, .int .u64 x1_1)], ofM [], 0⟩ (retK (c13 fuel g) [.tmp 4] outT)
theorem J13_0_raw (fuel g : Nat) (x0_0 : Int) (x0_1 : Int) : runAt (c13 fuel g) (bodyOf Go.Proofs.Tryd.f13) [.r, .r, .r, .r] ⟨ofL [(1, .int .i64 x0_0), (5, .int .u64 x0_1)], ofM [], 0⟩ (retK (c13 fuel g) [.tmp 4] outT) = L13_1 fuel g fuel x0_0 x0_1 := by kernel_rfl
theorem J13_0_eq (fuel : Nat) (x0_0 : Int) (x0_1 : Int) : J13_0 fuel 1 x0_0 x0_1 = L13_1 fuel 1 fuel x0_0 x0_1 := by
    refine Eq.trans ?_ (J13_0_raw fuel 1 x0_0 x0_1)
    kernel_rfl
theorem L13_1_succ (fuel g : Nat) (n0 : Nat) (x1_0 : Int) (x1_1 : Int) : L13_1 fuel g (n0 + 1) x1_0 x1_1 = cnd (decide (x1_0 > (0 : Int)))
  (L13_1 fuel g n0 (IntKind.i64.wrap (x1_0 - (1 : Int))) (IntKind.u64.wrap (Int.tdiv x1_1 (2 : Int))))
  (some (.bool ((Int.tmod x1_1 (2 : Int)) == (1 : Int)), ofM [], 0)) := by kernel_rfl
theorem L13_1_zero (fuel g : Nat) (x1_0 : Int) (x1_1 : Int) : L13_1 fuel g 0 x1_0 x1_1 = none := by kernel_rfl
theorem F13_eq (fuel g : Nat) (p0_0 : Int) (p0_1 : Int) (p1 : Int) : F13 fuel g p0_0 p0_1 p1 = cnd (decide (p1 < (0 : Int)))
  (some (.bool false, ofM [], 0))
  (cnd (decide (p1 > (127 : Int)))
  (some (.bool false, ofM [], 0))
  (cnd (decide (p1 > (63 : Int)))
  (J13_0 fuel g (IntKind.i64.wrap (p1 - (64 : Int))) p0_1)
  (J13_0 fuel g p1 p0_0))) := by kernel_rfl
/-! armature/bits.Union -/
noncomputable def c14 (fuel g : Nat) : Ctx := ⟨tab, callOf [], (fun k => match k with | 0 => some ⟨[], [], [2, 3, 4]⟩ | 1 => some ⟨[], [], [4]⟩ | _ => none), (fun _ => none), (fun _ => none), ⟨[], [], [0]⟩, fuel, g, 16, 0, fun _ => []⟩
noncomputable def F14 (fuel g : Nat) (p0_0 : Int) (p0_1 : Int) (p1_0 : Int) (p1_1 : Int) : Option Out := runFn (c14 fuel g) (bodyOf Go.Proofs.Tryd.f14) [.cell 4 24] [.agg [.int .u64 p0_0, .int .u64 p0_1], .agg [.int .u64 p1_0, .int .u64 p1_1]] (memOf []) outT
theorem F14_eq (fuel g : Nat) (p0_0 : Int) (p0_1 : Int) (p1_0 : Int) (p1_1 : Int) : F14 fuel g p0_0 p0_1 p1_0 p1_1 = some (.agg [.int .u64 (orI .u64 p0_0 p1_0), .int .u64 (orI .u64 p0_1 p1_1)], ofM [], 0) := by kernel_rfl
/-! armature/bits.Meet -/
noncomputable def c15 (fuel g : Nat) : Ctx := ⟨tab, callOf [], (fun k => match k with | 0 => some ⟨[], [], [2, 3, 4]⟩ | 1 => some ⟨[], [], [4]⟩ | _ => none), (fun _ => none), (fun _ => none), ⟨[], [], [0]⟩, fuel, g, 16, 0, fun _ => []⟩
noncomputable def F15 (fuel g : Nat) (p0_0 : Int) (p0_1 : Int) (p1_0 : Int) (p1_1 : Int) : Option Out := runFn (c15 fuel g) (bodyOf Go.Proofs.Tryd.f15) [.cell 4 24] [.agg [.int .u64 p0_0, .int .u64 p0_1], .agg [.int .u64 p1_0, .int .u64 p1_1]] (memOf []) outT
theorem F15_eq (fuel g : Nat) (p0_0 : Int) (p0_1 : Int) (p1_0 : Int) (p1_1 : Int) : F15 fuel g p0_0 p0_1 p1_0 p1_1 = some (.agg [.int .u64 (andI .u64 p0_0 p1_0), .int .u64 (andI .u64 p0_1 p1_1)], ofM [], 0) := by kernel_rfl
/-! armature/bits.Minus -/
noncomputable def c16 (fuel g : Nat) : Ctx := ⟨tab, callOf [], (fun k => match k with | 0 => some ⟨[], [], [2, 3, 4]⟩ | 1 => some ⟨[], [], [4]⟩ | _ => none), (fun _ => none), (fun _ => none), ⟨[], [], [0]⟩, fuel, g, 16, 0, fun _ => []⟩
noncomputable def F16 (fuel g : Nat) (p0_0 : Int) (p0_1 : Int) (p1_0 : Int) (p1_1 : Int) : Option Out := runFn (c16 fuel g) (bodyOf Go.Proofs.Tryd.f16) [.cell 4 24] [.agg [.int .u64 p0_0, .int .u64 p0_1], .agg [.int .u64 p1_0, .int .u64 p1_1]] (memOf []) outT
theorem F16_eq (fuel g : Nat) (p0_0 : Int) (p0_1 : Int) (p1_0 : Int) (p1_1 : Int) : F16 fuel g p0_0 p0_1 p1_0 p1_1 = some (.agg [.int .u64 (andNotI .u64 p0_0 p1_0), .int .u64 (andNotI .u64 p0_1 p1_1)], ofM [], 0) := by kernel_rfl
/-! armature/bits.Differ -/
noncomputable def c17 (fuel g : Nat) : Ctx := ⟨tab, callOf [], (fun k => match k with | 0 => some ⟨[], [], [2, 3, 4]⟩ | 1 => some ⟨[], [], [4]⟩ | _ => none), (fun _ => none), (fun _ => none), ⟨[], [], [0]⟩, fuel, g, 16, 0, fun _ => []⟩
noncomputable def F17 (fuel g : Nat) (p0_0 : Int) (p0_1 : Int) (p1_0 : Int) (p1_1 : Int) : Option Out := runFn (c17 fuel g) (bodyOf Go.Proofs.Tryd.f17) [.cell 4 24] [.agg [.int .u64 p0_0, .int .u64 p0_1], .agg [.int .u64 p1_0, .int .u64 p1_1]] (memOf []) outT
theorem F17_eq (fuel g : Nat) (p0_0 : Int) (p0_1 : Int) (p1_0 : Int) (p1_1 : Int) : F17 fuel g p0_0 p0_1 p1_0 p1_1 = some (.agg [.int .u64 (xorI .u64 p0_0 p1_0), .int .u64 (xorI .u64 p0_1 p1_1)], ofM [], 0) := by kernel_rfl
/-! armature/bits.Count -/
noncomputable def c18 (fuel g : Nat) (m_OnesCount64 : Int → Int) : Ctx := ⟨tab, callOf [(37, e37 m_OnesCount64)], (fun k => match k with | 0 => some ⟨[], [], [1]⟩ | 1 => some ⟨[], [], [2]⟩ | _ => none), (fun _ => none), (fun _ => none), ⟨[], [], [0]⟩, fuel, g, 10, 0, fun _ => []⟩
noncomputable def F18 (fuel g : Nat) (m_OnesCount64 : Int → Int) (p0_0 : Int) (p0_1 : Int) : Option Out := runFn (c18 fuel g m_OnesCount64) (bodyOf Go.Proofs.Tryd.f18) [.tmp 2] [.agg [.int .u64 p0_0, .int .u64 p0_1]] (memOf []) outT
theorem F18_eq (fuel g : Nat) (m_OnesCount64 : Int → Int) (p0_0 : Int) (p0_1 : Int) : F18 fuel g m_OnesCount64 p0_0 p0_1 = some (.int .i64 (IntKind.i64.wrap ((m_OnesCount64 p0_0) + (m_OnesCount64 p0_1))), ofM [], 0) := by kernel_rfl
/-! armature/armatureref02.List -/
noncomputable def c19 (fuel g : Nat) (ref_Has : Int → Int → Int → Bool) : Ctx := ⟨tab, callOf [(13, e13 ref_Has)], (fun k => match k with | 0 => some ⟨[], [], [1]⟩ | 1 => some ⟨[], [], [1, 3]⟩ | 2 => some ⟨[], [], [1, 3, 4]⟩ | 3 => some ⟨[], [], [1, 3, 4, 6]⟩ | 5 => some ⟨[], [], [1, 3, 4, 11]⟩ | 6 => some ⟨[], [], [1, 3, 4]⟩ | 4 => some ⟨[], [], [1, 3, 4]⟩ | 7 => some ⟨[], [], [2]⟩ | _ => none), (fun _ => none), (fun k => match k with | 3 => some ⟨[], [(3, 3, [.int .i64])], [1, 3, 4]⟩ | _ => none), ⟨[], [], [0]⟩, fuel, g, 17, 0, fun _ => []⟩
noncomputable def F19 (fuel g : Nat) (ref_Has : Int → Int → Int → Bool) (p0_0 : Int) (p0_1 : Int) : Option Out := runFn (c19 fuel g ref_Has) (bodyOf Go.Proofs.Tryd.f19) [.tmp 2] [.agg [.int .u64 p0_0, .int .u64 p0_1]] (memOf []) outT
noncomputable def L19_0 (fuel g : Nat) (ref_Has : Int → Int → Int → Bool) (n0 : Nat) (p0_0 : Int) (p0_1 : Int) (x0_2 : Nat) (x0_3 : Int) (x0_6 : List Int) : Option Out := iterAt (c19 fuel g ref_Has) (bodyOf Go.Proofs.Tryd.f19) [.r, .r, .l, .r, .l] n0 ⟨ofL [(1, .ptr 0 0 0), (3, .sl 1 0 x0_2), (4, .int .i64 x0_3)], ofM [(0, some ⟨true, 24, .one [.int .u64 p0_0, .int .u64 p0_1]⟩), (1, some ⟨true, 3, .col (.int .i64) x0_6⟩)], 2⟩ (retK (c19 fuel g ref_Has) [.tmp 2] outT)
theorem L19_0_succ (fuel g : Nat) (ref_Has : Int → Int → Int → Bool) (n0 : Nat) (p0_0 : Int) (p0_1 : Int) (x0_2 : Nat) (x0_3 : Int) (x0_6 : List Int) : L19_0 fuel g ref_Has (n0 + 1) p0_0 p0_1 x0_2 x0_3 x0_6 = cnd (decide (x0_3 < (128 : Int)))
  (cnd (ref_Has p0_0 p0_1 x0_3)
  (cnd (decide ((x0_2 + 1) * 8 ≤ 140737488355328))
  (L19_0 fuel g ref_Has n0 p0_0 p0_1 (x0_2 + 1) (IntKind.i64.wrap (x0_3 + (1 : Int))) ((List.take x0_2 x0_6) ++ [x0_3]))
  none)
  (L19_0 fuel g ref_Has n0 p0_0 p0_1 x0_2 (IntKind.i64.wrap (x0_3 + (1 : Int))) x0_6))
  (some (.sl 0 0 x0_2, ofM [(0, some ⟨true, 3, .col (.int .i64) x0_6⟩)], 1)) := by kernel_rfl
theorem L19_0_zero (fuel g : Nat) (ref_Has : Int → Int → Int → Bool) (p0_0 : Int) (p0_1 : Int) (x0_2 : Nat) (x0_3 : Int) (x0_6 : List Int) : L19_0 fuel g ref_Has 0 p0_0 p0_1 x0_2 x0_3 x0_6 = none := by kernel_rfl
theorem F19_eq (fuel g : Nat) (ref_Has : Int → Int → Int → Bool) (p0_0 : Int) (p0_1 : Int) : F19 fuel g ref_Has p0_0 p0_1 = L19_0 fuel g ref_Has fuel p0_0 p0_1 0 (0 : Int) [] := by kernel_rfl
/-! armature/armatureref02.Of -/
noncomputable def c20 (fuel g : Nat) (ref_Has : Int → Int → Int → Bool) : Ctx := ⟨tab, callOf [(13, e13 ref_Has)], (fun k => match k with | 0 => some ⟨[], [], [0, 2]⟩ | 1 => some ⟨[], [], [0, 2, 3]⟩ | 2 => some ⟨[], [], [0, 2, 3, 4]⟩ | 3 => some ⟨[], [], [0, 2, 3, 4, 10]⟩ | 5 => some ⟨[], [], [0, 2, 3, 4, 13, 14, 15]⟩ | 6 => some ⟨[], [], [0, 2, 3, 4, 13, 14, 15, 16]⟩ | 7 => some ⟨[], [], [0, 2, 3, 4, 6, 13, 14, 15]⟩ | 8 => some ⟨[], [], [0, 2, 3, 4, 13, 14, 15, 27]⟩ | 9 => some ⟨[], [], [0, 2, 3, 4, 7]⟩ | 10 => some ⟨[], [], [0, 2, 3, 4, 7, 8]⟩ | 15 => some ⟨[], [], [0, 2, 3, 4, 13, 14, 15]⟩ | 4 => some ⟨[], [], [0, 2, 3, 4]⟩ | 16 => some ⟨[], [], [2]⟩ | 11 => some ⟨[], [], [0, 2, 3, 4, 7, 8, 31]⟩ | 13 => some ⟨[], [], [0, 2, 3, 4, 7, 8]⟩ | 12 => some ⟨[], [], [0, 2, 3, 4, 7, 8]⟩ | 14 => some ⟨[], [], [0, 2, 3, 4]⟩ | _ => none), (fun _ => none), (fun k => match k with | 3 => some ⟨[], [], [0, 2, 3, 4]⟩ | 6 => some ⟨[], [], [0, 2, 3, 4, 13, 14, 15]⟩ | 11 => some ⟨[], [], [0, 2, 3, 4, 7, 8]⟩ | _ => none), ⟨[], [], [0]⟩, fuel, g, 45, 1, fun _ => []⟩
noncomputable def F20 (fuel g : Nat) (ref_Has : Int → Int → Int → Bool) (p0 : List Int) : Option Out := runFn (c20 fuel g ref_Has) (bodyOf Go.Proofs.Tryd.f20) [.cell 2 24] [.sl 0 0 (List.length p0)] (memOf [⟨false, 3, .col (.int .i64) p0⟩]) outT
noncomputable def L20_0 (fuel g : Nat) (ref_Has : Int → Int → Int → Bool) (n0 : Nat) (p0 : List Int) (x0_4 : Int) (x0_8 : Int) (x0_9 : Int) : Option Out := iterAt (c20 fuel g ref_Has) (bodyOf Go.Proofs.Tryd.f20) [.r, .r, .l, .r, .l] n0 ⟨ofL [(0, .sl 0 0 (List.length p0)), (2, .ptr 1 0 0), (3, .ptr 2 0 0), (4, .int .i64 x0_4)], ofM [(0, some ⟨false, 3, .col (.int .i64) p0⟩), (1, some ⟨true, 24, .one [.int .u64 (0 : Int), .int .u64 (0 : Int)]⟩), (2, some ⟨true, 24, .one [.int .u64 x0_8, .int .u64 x0_9]⟩)], 3⟩ (retK (c20 fuel g ref_Has) [.cell 2 24] outT)
noncomputable def L20_1 (fuel g : Nat) (ref_Has : Int → Int → Int → Bool) (n0 : Nat) (n1 : Nat) (p0 : List Int) (x0_4 : Int) (x0_8 : Int) (x0_9 : Int) (x1_8 : Int) : Option Out := iterAt (c20 fuel g ref_Has) (bodyOf Go.Proofs.Tryd.f20) [.r, .r, .l, .r, .l, .it n0, .r, .l, .l, .r, .l] n1 ⟨ofL [(0, .sl 0 0 (List.length p0)), (2, .ptr 1 0 0), (3, .ptr 2 0 0), (4, .int .i64 x0_4), (13, .sl 0 0 (List.length p0)), (14, .int .i64 (((List.length p0) : Nat) : Int)), (15, .int .i64 x1_8)], ofM [(0, some ⟨false, 3, .col (.int .i64) p0⟩), (1, some ⟨true, 24, .one [.int .u64 (0 : Int), .int .u64 (0 : Int)]⟩), (2, some ⟨true, 24, .one [.int .u64 x0_8, .int .u64 x0_9]⟩)], 3⟩ (retK (c20 fuel g ref_Has) [.cell 2 24] outT)
noncomputable def L20_2 (fuel g : Nat) (ref_Has : Int → Int → Int → Bool) (n0 : Nat) (n1 : Nat) (n2 : Nat) (p0 : List Int) (x0_4 : Int) (x0_8 : Int) (x0_9 : Int) (x2_5 : Int) (x2_6 : Int) : Option Out := iterAt (c20 fuel g ref_Has) (bodyOf Go.Proofs.Tryd.f20) [.r, .r, .l, .r, .l, .it n0, .r, .l, .l, .r, .l, .it n1, .r, .r, .l, .l, .r, .r, .l, .r, .l, .r, .l] n2 ⟨ofL [(0, .sl 0 0 (List.length p0)), (2, .ptr 1 0 0), (3, .ptr 2 0 0), (4, .int .i64 x0_4), (7, .int .u64 x2_5), (8, .int .i64 x2_6)], ofM [(0, some ⟨false, 3, .col (.int .i64) p0⟩), (1, some ⟨true, 24, .one [.int .u64 (0 : Int), .int .u64 (0 : Int)]⟩), (2, some ⟨true, 24, .one [.int .u64 x0_8, .int .u64 x0_9]⟩)], 3⟩ (retK (c20 fuel g ref_Has) [.cell 2 24] outT)
theorem L20_0_succ (fuel g : Nat) (ref_Has : Int → Int → Int → Bool) (n0 : Nat) (p0 : List Int) (x0_4 : Int) (x0_8 : Int) (x0_9 : Int) : L20_0 fuel g ref_Has (n0 + 1) p0 x0_4 x0_8 x0_9 = cnd (decide (x0_4 < (128 : Int)))
  (L20_1 fuel g ref_Has n0 fuel p0 x0_4 x0_8 x0_9 (0 : Int))
  (some (.agg [.int .u64 x0_8, .int .u64 x0_9], ofM [(0, some ⟨false, 3, .col (.int .i64) p0⟩)], 1)) := by kernel_rfl
theorem L20_0_zero (fuel g : Nat) (ref_Has : Int → Int → Int → Bool) (p0 : List Int) (x0_4 : Int) (x0_8 : Int) (x0_9 : Int) : L20_0 fuel g ref_Has 0 p0 x0_4 x0_8 x0_9 = none := by kernel_rfl
theorem L20_1_succ (fuel g : Nat) (ref_Has : Int → Int → Int → Bool) (n0 : Nat) (n1 : Nat) (p0 : List Int) (x0_4 : Int) (x0_8 : Int) (x0_9 : Int) (x1_8 : Int) : L20_1 fuel g ref_Has n0 (n1 + 1) p0 x0_4 x0_8 x0_9 x1_8 = cnd (decide (x1_8 < (((List.length p0) : Nat) : Int)))
  (cnd (decide (0 ≤ x1_8))
  (cnd (decide (x1_8 < (((List.length p0) : Nat) : Int)))
  (cnd ((List.getD p0 (0 + (Int.toNat x1_8)) (0 : Int)) == x0_4)
  (cnd (!(ref_Has x0_8 x0_9 x0_4))
  (L20_2 fuel g ref_Has n0 n1 fuel p0 x0_4 x0_8 x0_9 (1 : Int) (0 : Int))
  (L20_1 fuel g ref_Has n0 n1 p0 x0_4 x0_8 x0_9 (IntKind.i64.wrap (x1_8 + (1 : Int)))))
  (L20_1 fuel g ref_Has n0 n1 p0 x0_4 x0_8 x0_9 (IntKind.i64.wrap (x1_8 + (1 : Int)))))
  none)
  none)
  (L20_0 fuel g ref_Has n0 p0 (IntKind.i64.wrap (x0_4 + (1 : Int))) x0_8 x0_9) := by kernel_rfl
theorem L20_1_zero (fuel g : Nat) (ref_Has : Int → Int → Int → Bool) (n0 : Nat) (p0 : List Int) (x0_4 : Int) (x0_8 : Int) (x0_9 : Int) (x1_8 : Int) : L20_1 fuel g ref_Has n0 0 p0 x0_4 x0_8 x0_9 x1_8 = none := by kernel_rfl
theorem L20_2_succ (fuel g : Nat) (ref_Has : Int → Int → Int → Bool) (n0 : Nat) (n1 : Nat) (n2 : Nat) (p0 : List Int) (x0_4 : Int) (x0_8 : Int) (x0_9 : Int) (x2_5 : Int) (x2_6 : Int) : L20_2 fuel g ref_Has n0 n1 (n2 + 1) p0 x0_4 x0_8 x0_9 x2_5 x2_6 = cnd (decide (x2_6 < (Int.tmod x0_4 (64 : Int))))
  (L20_2 fuel g ref_Has n0 n1 n2 p0 x0_4 x0_8 x0_9 (IntKind.u64.wrap (x2_5 * (2 : Int))) (IntKind.i64.wrap (x2_6 + (1 : Int))))
  (cnd ((IntKind.i64.wrap (Int.tdiv x0_4 (64 : Int))) == (0 : Int))
  (cnd ((IntKind.i64.wrap (Int.tdiv x0_4 (64 : Int))) == (0 : Int))
  (L20_0 fuel g ref_Has n0 p0 (IntKind.i64.wrap (x0_4 + (1 : Int))) (IntKind.u64.wrap (x0_8 + x2_5)) x0_9)
  (cnd ((IntKind.i64.wrap (Int.tdiv x0_4 (64 : Int))) == (1 : Int))
  (L20_0 fuel g ref_Has n0 p0 (IntKind.i64.wrap (x0_4 + (1 : Int))) x0_8 (IntKind.u64.wrap (x0_8 + x2_5)))
  (none)))
  (cnd ((IntKind.i64.wrap (Int.tdiv x0_4 (64 : Int))) == (1 : Int))
  (cnd ((IntKind.i64.wrap (Int.tdiv x0_4 (64 : Int))) == (0 : Int))
  (L20_0 fuel g ref_Has n0 p0 (IntKind.i64.wrap (x0_4 + (1 : Int))) (IntKind.u64.wrap (x0_9 + x2_5)) x0_9)
  (cnd ((IntKind.i64.wrap (Int.tdiv x0_4 (64 : Int))) == (1 : Int))
  (L20_0 fuel g ref_Has n0 p0 (IntKind.i64.wrap (x0_4 + (1 : Int))) x0_8 (IntKind.u64.wrap (x0_9 + x2_5)))
  (none)))
  (none))) := by kernel_rfl
theorem L20_2_zero (fuel g : Nat) (ref_Has : Int → Int → Int → Bool) (n0 : Nat) (n1 : Nat) (p0 : List Int) (x0_4 : Int) (x0_8 : Int) (x0_9 : Int) (x2_5 : Int) (x2_6 : Int) : L20_2 fuel g ref_Has n0 n1 0 p0 x0_4 x0_8 x0_9 x2_5 x2_6 = none := by kernel_rfl
theorem F20_eq (fuel g : Nat) (ref_Has : Int → Int → Int → Bool) (p0 : List Int) : F20 fuel g ref_Has p0 = L20_0 fuel g ref_Has fuel p0 (0 : Int) (0 : Int) (0 : Int) := by kernel_rfl
/-! armature/bits.Has -/
noncomputable def c21 (fuel g : Nat) (b_there : Int → Bool) : Ctx := ⟨tab, callOf [(38, e38 b_there)], (fun k => match k with | 0 => some ⟨[], [], [1, 2]⟩ | 1 => some ⟨[], [], [4]⟩ | _ => none), (fun _ => none), (fun _ => none), ⟨[], [], [0]⟩, fuel, g, 19, 0, fun _ => []⟩
noncomputable def F21 (fuel g : Nat) (b_there : Int → Bool) (p0_0 : Int) (p0_1 : Int) (p1 : Int) : Option Out := runFn (c21 fuel g b_there) (bodyOf Go.Proofs.Tryd.f21) [.tmp 4] [.agg [.int .u64 p0_0, .int .u64 p0_1], .int .i64 p1] (memOf []) outT
theorem F21_eq (fuel g : Nat) (b_there : Int → Bool) (p0_0 : Int) (p0_1 : Int) (p1 : Int) : F21 fuel g b_there p0_0 p0_1 p1 = cnd (b_there p1)
  (cnd ((Int.fdiv p1 (2 ^ (min (Int.toNat (6 : Int)) 64))) == (0 : Int))
  (cnd (decide ((IntKind.u64.wrap (andI .i64 p1 (63 : Int))) < 0))
  none
  (some (.bool ((andI .u64 (Int.fdiv p0_0 (2 ^ (min (Int.toNat (IntKind.u64.wrap (andI .i64 p1 (63 : Int)))) 64))) (1 : Int)) == (1 : Int)), ofM [], 0)))
  (cnd ((Int.fdiv p1 (2 ^ (min (Int.toNat (6 : Int)) 64))) == (1 : Int))
  (cnd (decide ((IntKind.u64.wrap (andI .i64 p1 (63 : Int))) < 0))
  none
  (some (.bool ((andI .u64 (Int.fdiv p0_1 (2 ^ (min (Int.toNat (IntKind.u64.wrap (andI .i64 p1 (63 : Int)))) 64))) (1 : Int)) == (1 : Int)), ofM [], 0)))
  (none)))
  (some (.bool false, ofM [], 0)) := by kernel_rfl
/-! armature/bits.With -/
noncomputable def c22 (fuel g : Nat) (b_one : Int → Int × Int) (b_Union : Int → Int → Int → Int → Int × Int) : Ctx := ⟨tab, callOf [(39, e39 b_one), (14, e14 b_Union)], (fun k => match k with | 0 => some ⟨[], [], [1, 2, 4]⟩ | 1 => some ⟨[], [], [4]⟩ | _ => none), (fun _ => none), (fun _ => none), ⟨[], [], [0]⟩, fuel, g, 9, 0, fun _ => []⟩
noncomputable def F22 (fuel g : Nat) (b_one : Int → Int × Int) (b_Union : Int → Int → Int → Int → Int × Int) (p0_0 : Int) (p0_1 : Int) (p1 : Int) : Option Out := runFn (c22 fuel g b_one b_Union) (bodyOf Go.Proofs.Tryd.f22) [.cell 4 24] [.agg [.int .u64 p0_0, .int .u64 p0_1], .int .i64 p1] (memOf []) outT
theorem F22_eq (fuel g : Nat) (b_one : Int → Int × Int) (b_Union : Int → Int → Int → Int → Int × Int) (p0_0 : Int) (p0_1 : Int) (p1 : Int) : F22 fuel g b_one b_Union p0_0 p0_1 p1 = some (.agg [.int .u64 (b_Union p0_0 p0_1 (b_one p1).1 (b_one p1).2).1, .int .u64 (b_Union p0_0 p0_1 (b_one p1).1 (b_one p1).2).2], ofM [], 0) := by kernel_rfl
/-! armature/bits.Without -/
noncomputable def c23 (fuel g : Nat) (b_one : Int → Int × Int) (b_Minus : Int → Int → Int → Int → Int × Int) : Ctx := ⟨tab, callOf [(39, e39 b_one), (16, e16 b_Minus)], (fun k => match k with | 0 => some ⟨[], [], [1, 2, 4]⟩ | 1 => some ⟨[], [], [4]⟩ | _ => none), (fun _ => none), (fun _ => none), ⟨[], [], [0]⟩, fuel, g, 9, 0, fun _ => []⟩
noncomputable def F23 (fuel g : Nat) (b_one : Int → Int × Int) (b_Minus : Int → Int → Int → Int → Int × Int) (p0_0 : Int) (p0_1 : Int) (p1 : Int) : Option Out := runFn (c23 fuel g b_one b_Minus) (bodyOf Go.Proofs.Tryd.f23) [.cell 4 24] [.agg [.int .u64 p0_0, .int .u64 p0_1], .int .i64 p1] (memOf []) outT
theorem F23_eq (fuel g : Nat) (b_one : Int → Int × Int) (b_Minus : Int → Int → Int → Int → Int × Int) (p0_0 : Int) (p0_1 : Int) (p1 : Int) : F23 fuel g b_one b_Minus p0_0 p0_1 p1 = some (.agg [.int .u64 (b_Minus p0_0 p0_1 (b_one p1).1 (b_one p1).2).1, .int .u64 (b_Minus p0_0 p0_1 (b_one p1).1 (b_one p1).2).2], ofM [], 0) := by kernel_rfl
/-! armature/bits.Flip -/
noncomputable def c24 (fuel g : Nat) (b_one : Int → Int × Int) (b_Differ : Int → Int → Int → Int → Int × Int) : Ctx := ⟨tab, callOf [(39, e39 b_one), (17, e17 b_Differ)], (fun k => match k with | 0 => some ⟨[], [], [1, 2, 4]⟩ | 1 => some ⟨[], [], [4]⟩ | _ => none), (fun _ => none), (fun _ => none), ⟨[], [], [0]⟩, fuel, g, 9, 0, fun _ => []⟩
noncomputable def F24 (fuel g : Nat) (b_one : Int → Int × Int) (b_Differ : Int → Int → Int → Int → Int × Int) (p0_0 : Int) (p0_1 : Int) (p1 : Int) : Option Out := runFn (c24 fuel g b_one b_Differ) (bodyOf Go.Proofs.Tryd.f24) [.cell 4 24] [.agg [.int .u64 p0_0, .int .u64 p0_1], .int .i64 p1] (memOf []) outT
theorem F24_eq (fuel g : Nat) (b_one : Int → Int × Int) (b_Differ : Int → Int → Int → Int → Int × Int) (p0_0 : Int) (p0_1 : Int) (p1 : Int) : F24 fuel g b_one b_Differ p0_0 p0_1 p1 = some (.agg [.int .u64 (b_Differ p0_0 p0_1 (b_one p1).1 (b_one p1).2).1, .int .u64 (b_Differ p0_0 p0_1 (b_one p1).1 (b_one p1).2).2], ofM [], 0) := by kernel_rfl
/-! armature/bits.Below -/
noncomputable def c25 (fuel g : Nat) : Ctx := ⟨tab, callOf [], (fun k => match k with | 0 => some ⟨[], [], [0, 2]⟩ | 1 => some ⟨[], [], [0, 2, 3]⟩ | 2 => some ⟨[], [], [2]⟩ | 3 => some ⟨[], [], [0, 2, 7]⟩ | 4 => some ⟨[], [], [2]⟩ | 5 => some ⟨[], [], [0, 2, 11]⟩ | 6 => some ⟨[], [], [2]⟩ | 7 => some ⟨[], [], [2]⟩ | _ => none), (fun _ => none), (fun _ => none), ⟨[], [], [0]⟩, fuel, g, 25, 0, fun _ => []⟩
noncomputable def F25 (fuel g : Nat) (p0 : Int) : Option Out := runFn (c25 fuel g) (bodyOf Go.Proofs.Tryd.f25) [.cell 2 24] [.int .i64 p0] (memOf []) outT
theorem F25_eq (fuel g : Nat) (p0 : Int) : F25 fuel g p0 = cnd (decide (p0 ≤ (0 : Int)))
  (some (.agg [.int .u64 (0 : Int), .int .u64 (0 : Int)], ofM [], 0))
  (cnd (decide (p0 ≥ (128 : Int)))
  (some (.agg [.int .u64 (18446744073709551615 : Int), .int .u64 (18446744073709551615 : Int)], ofM [], 0))
  (cnd (decide (p0 ≥ (64 : Int)))
  (cnd (decide ((IntKind.u64.wrap (IntKind.i64.wrap (p0 - (64 : Int)))) < 0))
  none
  (some (.agg [.int .u64 (18446744073709551615 : Int), .int .u64 (IntKind.u64.wrap ((IntKind.u64.wrap ((1 : Int) * 2 ^ (min (Int.toNat (IntKind.u64.wrap (IntKind.i64.wrap (p0 - (64 : Int))))) 64))) - (1 : Int)))], ofM [], 0)))
  (cnd (decide ((IntKind.u64.wrap p0) < 0))
  none
  (some (.agg [.int .u64 (IntKind.u64.wrap ((IntKind.u64.wrap ((1 : Int) * 2 ^ (min (Int.toNat (IntKind.u64.wrap p0)) 64))) - (1 : Int))), .int .u64 (0 : Int)], ofM [], 0))))) := by kernel_rfl
/-! armature/armatureref02.Below -/
noncomputable def c26 (fuel g : Nat) (ref_Of : List Int → Int × Int) : Ctx := ⟨tab, callOf [(20, e20 ref_Of)], (fun k => match k with | 0 => some ⟨[], [], [0, 2]⟩ | 1 => some ⟨[], [], [0, 2, 3]⟩ | 2 => some ⟨[], [], [0, 2, 3, 4]⟩ | 3 => some ⟨[], [], [0, 2, 3, 4, 11]⟩ | 5 => some ⟨[], [], [0, 2, 3, 4]⟩ | 4 => some ⟨[], [], [0, 2, 3, 4]⟩ | 6 => some ⟨[], [], [2]⟩ | _ => none), (fun _ => none), (fun k => match k with | 3 => some ⟨[], [(3, 3, [.int .i64])], [0, 2, 3, 4]⟩ | _ => none), ⟨[], [], [0]⟩, fuel, g, 20, 0, fun _ => []⟩
noncomputable def F26 (fuel g : Nat) (ref_Of : List Int → Int × Int) (p0 : Int) : Option Out := runFn (c26 fuel g ref_Of) (bodyOf Go.Proofs.Tryd.f26) [.cell 2 24] [.int .i64 p0] (memOf []) outT
noncomputable def L26_0 (fuel g : Nat) (ref_Of : List Int → Int × Int) (n0 : Nat) (p0 : Int) (x0_3 : Nat) (x0_4 : Int) (x0_7 : List Int) : Option Out := iterAt (c26 fuel g ref_Of) (bodyOf Go.Proofs.Tryd.f26) [.r, .r, .l, .r, .l] n0 ⟨ofL [(0, .int .i64 p0), (2, .ptr 0 0 0), (3, .sl 1 0 x0_3), (4, .int .i64 x0_4)], ofM [(0, some ⟨true, 24, .one [.int .u64 (0 : Int), .int .u64 (0 : Int)]⟩), (1, some ⟨true, 3, .col (.int .i64) x0_7⟩)], 2⟩ (retK (c26 fuel g ref_Of) [.cell 2 24] outT)
theorem L26_0_succ (fuel g : Nat) (ref_Of : List Int → Int × Int) (n0 : Nat) (p0 : Int) (x0_3 : Nat) (x0_4 : Int) (x0_7 : List Int) : L26_0 fuel g ref_Of (n0 + 1) p0 x0_3 x0_4 x0_7 = cnd (decide (x0_4 < (128 : Int)))
  (cnd (decide (x0_4 < p0))
  (cnd (decide ((x0_3 + 1) * 8 ≤ 140737488355328))
  (L26_0 fuel g ref_Of n0 p0 (x0_3 + 1) (IntKind.i64.wrap (x0_4 + (1 : Int))) ((List.take x0_3 x0_7) ++ [x0_4]))
  none)
  (some (.agg [.int .u64 (ref_Of (List.take x0_3 x0_7)).1, .int .u64 (ref_Of (List.take x0_3 x0_7)).2], ofM [], 0)))
  (some (.agg [.int .u64 (ref_Of (List.take x0_3 x0_7)).1, .int .u64 (ref_Of (List.take x0_3 x0_7)).2], ofM [], 0)) := by kernel_rfl
theorem L26_0_zero (fuel g : Nat) (ref_Of : List Int → Int × Int) (p0 : Int) (x0_3 : Nat) (x0_4 : Int) (x0_7 : List Int) : L26_0 fuel g ref_Of 0 p0 x0_3 x0_4 x0_7 = none := by kernel_rfl
theorem F26_eq (fuel g : Nat) (ref_Of : List Int → Int × Int) (p0 : Int) : F26 fuel g ref_Of p0 = L26_0 fuel g ref_Of fuel p0 0 (0 : Int) [] := by kernel_rfl
/-! armature/bits.Of -/
noncomputable def c27 (fuel g : Nat) (b_With : Int → Int → Int → Int × Int) : Ctx := ⟨tab, callOf [(22, e22 b_With)], (fun k => match k with | 0 => some ⟨[], [], [0, 2]⟩ | 1 => some ⟨[], [], [0, 2, 3]⟩ | 2 => some ⟨[], [], [2, 3, 6, 7, 8]⟩ | 3 => some ⟨[], [], [2, 3, 6, 7, 8, 9]⟩ | 4 => some ⟨[], [], [2, 3, 5, 6, 7, 8]⟩ | 5 => some ⟨[], [], [2, 3, 6, 7, 8]⟩ | 6 => some ⟨[], [], [2, 3, 6, 7, 8]⟩ | 7 => some ⟨[], [], [2]⟩ | _ => none), (fun _ => none), (fun k => match k with | 3 => some ⟨[], [], [2, 3, 6, 7, 8]⟩ | _ => none), ⟨[], [], [0]⟩, fuel, g, 17, 1, fun _ => []⟩
noncomputable def F27 (fuel g : Nat) (b_With : Int → Int → Int → Int × Int) (p0 : List Int) : Option Out := runFn (c27 fuel g b_With) (bodyOf Go.Proofs.Tryd.f27) [.cell 2 24] [.sl 0 0 (List.length p0)] (memOf [⟨false, 3, .col (.int .i64) p0⟩]) outT
noncomputable def L27_0 (fuel g : Nat) (b_With : Int → Int → Int → Int × Int) (n0 : Nat) (p0 : List Int) (x0_5 : Int) (x0_9 : Int) (x0_10 : Int) : Option Out := iterAt (c27 fuel g b_With) (bodyOf Go.Proofs.Tryd.f27) [.r, .r, .l, .r, .l] n0 ⟨ofL [(2, .ptr 1 0 0), (3, .ptr 2 0 0), (6, .sl 0 0 (List.length p0)), (7, .int .i64 (((List.length p0) : Nat) : Int)), (8, .int .i64 x0_5)], ofM [(0, some ⟨false, 3, .col (.int .i64) p0⟩), (1, some ⟨true, 24, .one [.int .u64 (0 : Int), .int .u64 (0 : Int)]⟩), (2, some ⟨true, 24, .one [.int .u64 x0_9, .int .u64 x0_10]⟩)], 3⟩ (retK (c27 fuel g b_With) [.cell 2 24] outT)
theorem L27_0_succ (fuel g : Nat) (b_With : Int → Int → Int → Int × Int) (n0 : Nat) (p0 : List Int) (x0_5 : Int) (x0_9 : Int) (x0_10 : Int) : L27_0 fuel g b_With (n0 + 1) p0 x0_5 x0_9 x0_10 = cnd (decide (x0_5 < (((List.length p0) : Nat) : Int)))
  (cnd (decide (0 ≤ x0_5))
  (cnd (decide (x0_5 < (((List.length p0) : Nat) : Int)))
  (L27_0 fuel g b_With n0 p0 (IntKind.i64.wrap (x0_5 + (1 : Int))) (b_With x0_9 x0_10 (List.getD p0 (0 + (Int.toNat x0_5)) (0 : Int))).1 (b_With x0_9 x0_10 (List.getD p0 (0 + (Int.toNat x0_5)) (0 : Int))).2)
  none)
  none)
  (some (.agg [.int .u64 x0_9, .int .u64 x0_10], ofM [(0, some ⟨false, 3, .col (.int .i64) p0⟩)], 1)) := by kernel_rfl
theorem L27_0_zero (fuel g : Nat) (b_With : Int → Int → Int → Int × Int) (p0 : List Int) (x0_5 : Int) (x0_9 : Int) (x0_10 : Int) : L27_0 fuel g b_With 0 p0 x0_5 x0_9 x0_10 = none := by kernel_rfl
theorem F27_eq (fuel g : Nat) (b_With : Int → Int → Int → Int × Int) (p0 : List Int) : F27 fuel g b_With p0 = L27_0 fuel g b_With fuel p0 (0 : Int) (0 : Int) (0 : Int) := by kernel_rfl
/-! armature/armatureref02.Same -/
noncomputable def c28 (fuel g : Nat) : Ctx := ⟨tab, callOf [], (fun k => match k with | 0 => some ⟨[], [], [0, 1]⟩ | 1 => some ⟨[], [], [0, 1, 10]⟩ | 2 => some ⟨[], [], [4]⟩ | 3 => some ⟨[], [], [0, 1, 12, 13]⟩ | 4 => some ⟨[], [], [0, 1, 12, 13, 14]⟩ | 5 => some ⟨[], [], [0, 1, 5, 12, 13]⟩ | 6 => some ⟨[], [], [0, 1, 12, 13, 24]⟩ | 7 => some ⟨[], [], [4]⟩ | 8 => some ⟨[], [], [0, 1, 12, 13]⟩ | 9 => some ⟨[], [], [4]⟩ | _ => none), (fun _ => none), (fun k => match k with | 4 => some ⟨[], [], [0, 1, 12, 13]⟩ | _ => none), ⟨[], [], [0]⟩, fuel, g, 26, 2, fun _ => []⟩
noncomputable def F28 (fuel g : Nat) (p0 : List Int) (p1 : List Int) : Option Out := runFn (c28 fuel g) (bodyOf Go.Proofs.Tryd.f28) [.tmp 4] [.sl 0 0 (List.length p0), .sl 1 0 (List.length p1)] (memOf [⟨false, 3, .col (.int .i64) p0⟩, ⟨false, 3, .col (.int .i64) p1⟩]) outT
noncomputable def L28_0 (fuel g : Nat) (n0 : Nat) (p0 : List Int) (p1 : List Int) (x0_5 : Int) : Option Out := iterAt (c28 fuel g) (bodyOf Go.Proofs.Tryd.f28) [.r, .r, .l, .r, .l] n0 ⟨ofL [(0, .sl 0 0 (List.length p0)), (1, .sl 1 0 (List.length p1)), (12, .int .i64 (((List.length p0) : Nat) : Int)), (13, .int .i64 x0_5)], ofM [(0, some ⟨false, 3, .col (.int .i64) p0⟩), (1, some ⟨false, 3, .col (.int .i64) p1⟩)], 2⟩ (retK (c28 fuel g) [.tmp 4] outT)
theorem L28_0_succ (fuel g : Nat) (n0 : Nat) (p0 : List Int) (p1 : List Int) (x0_5 : Int) : L28_0 fuel g (n0 + 1) p0 p1 x0_5 = cnd (decide (x0_5 < (((List.length p0) : Nat) : Int)))
  (cnd (decide (0 ≤ x0_5))
  (cnd (decide (x0_5 < (((List.length p0) : Nat) : Int)))
  (cnd (decide (0 ≤ x0_5))
  (cnd (decide (x0_5 < (((List.length p1) : Nat) : Int)))
  (cnd ((List.getD p0 (0 + (Int.toNat x0_5)) (0 : Int)) != (List.getD p1 (0 + (Int.toNat x0_5)) (0 : Int)))
  (some (.bool false, ofM [(0, some ⟨false, 3, .col (.int .i64) p0⟩), (1, some ⟨false, 3, .col (.int .i64) p1⟩)], 2))
  (L28_0 fuel g n0 p0 p1 (IntKind.i64.wrap (x0_5 + (1 : Int)))))
  none)
  none)
  none)
  none)
  (some (.bool true, ofM [(0, some ⟨false, 3, .col (.int .i64) p0⟩), (1, some ⟨false, 3, .col (.int .i64) p1⟩)], 2)) := by kernel_rfl
theorem L28_0_zero (fuel g : Nat) (p0 : List Int) (p1 : List Int) (x0_5 : Int) : L28_0 fuel g 0 p0 p1 x0_5 = none := by kernel_rfl
theorem F28_eq (fuel g : Nat) (p0 : List Int) (p1 : List Int) : F28 fuel g p0 p1 = cnd ((((List.length p0) : Nat) : Int) != (((List.length p1) : Nat) : Int))
  (some (.bool false, ofM [(0, some ⟨false, 3, .col (.int .i64) p0⟩), (1, some ⟨false, 3, .col (.int .i64) p1⟩)], 2))
  (L28_0 fuel g fuel p0 p1 (0 : Int)) := by kernel_rfl
/-! armature/bits.List -/
noncomputable def c29 (fuel g : Nat) (b_Next : Int → Int → Int → Int) : Ctx := ⟨tab, callOf [(30, e30 b_Next)], (fun k => match k with | 0 => some ⟨[], [], [1]⟩ | 1 => some ⟨[], [], [1, 3]⟩ | 2 => some ⟨[], [], [1, 3, 4]⟩ | 3 => some ⟨[], [], [1, 3, 4, 8]⟩ | 5 => some ⟨[], [], [1, 3, 4]⟩ | 4 => some ⟨[], [], [1, 3, 4]⟩ | 6 => some ⟨[], [], [2]⟩ | _ => none), (fun _ => none), (fun k => match k with | 3 => some ⟨[], [(3, 3, [.int .i64])], [1, 3, 4]⟩ | _ => none), ⟨[], [], [0]⟩, fuel, g, 18, 0, fun _ => []⟩
noncomputable def F29 (fuel g : Nat) (b_Next : Int → Int → Int → Int) (p0_0 : Int) (p0_1 : Int) : Option Out := runFn (c29 fuel g b_Next) (bodyOf Go.Proofs.Tryd.f29) [.tmp 2] [.agg [.int .u64 p0_0, .int .u64 p0_1]] (memOf []) outT
noncomputable def L29_0 (fuel g : Nat) (b_Next : Int → Int → Int → Int) (n0 : Nat) (p0_0 : Int) (p0_1 : Int) (x0_2 : Nat) (x0_3 : Int) (x0_6 : List Int) : Option Out := iterAt (c29 fuel g b_Next) (bodyOf Go.Proofs.Tryd.f29) [.r, .r, .l, .r, .l] n0 ⟨ofL [(1, .ptr 0 0 0), (3, .sl 1 0 x0_2), (4, .int .i64 x0_3)], ofM [(0, some ⟨true, 24, .one [.int .u64 p0_0, .int .u64 p0_1]⟩), (1, some ⟨true, 3, .col (.int .i64) x0_6⟩)], 2⟩ (retK (c29 fuel g b_Next) [.tmp 2] outT)
theorem L29_0_succ (fuel g : Nat) (b_Next : Int → Int → Int → Int) (n0 : Nat) (p0_0 : Int) (p0_1 : Int) (x0_2 : Nat) (x0_3 : Int) (x0_6 : List Int) : L29_0 fuel g b_Next (n0 + 1) p0_0 p0_1 x0_2 x0_3 x0_6 = cnd (decide (x0_3 ≥ (0 : Int)))
  (cnd (decide ((x0_2 + 1) * 8 ≤ 140737488355328))
  (L29_0 fuel g b_Next n0 p0_0 p0_1 (x0_2 + 1) (b_Next p0_0 p0_1 (IntKind.i64.wrap (x0_3 + (1 : Int)))) ((List.take x0_2 x0_6) ++ [x0_3]))
  none)
  (some (.sl 0 0 x0_2, ofM [(0, some ⟨true, 3, .col (.int .i64) x0_6⟩)], 1)) := by kernel_rfl
theorem L29_0_zero (fuel g : Nat) (b_Next : Int → Int → Int → Int) (p0_0 : Int) (p0_1 : Int) (x0_2 : Nat) (x0_3 : Int) (x0_6 : List Int) : L29_0 fuel g b_Next 0 p0_0 p0_1 x0_2 x0_3 x0_6 = none := by kernel_rfl
theorem F29_eq (fuel g : Nat) (b_Next : Int → Int → Int → Int) (p0_0 : Int) (p0_1 : Int) : F29 fuel g b_Next p0_0 p0_1 = L29_0 fuel g b_Next fuel p0_0 p0_1 0 (b_Next p0_0 p0_1 (0 : Int)) [] := by kernel_rfl
/-! armature/bits.Next -/
noncomputable def c30 (fuel g : Nat) (b_Below : Int → Int × Int) (b_Minus : Int → Int → Int → Int → Int × Int) (tz_pre : Int → Bool) (m_TrailingZeros64 : Int → Int) : Ctx := ⟨tab, callOf [(25, e25 b_Below), (16, e16 b_Minus), (40, e40 tz_pre m_TrailingZeros64)], (fun k => match k with | 0 => some ⟨[], [], [1, 2]⟩ | 1 => some ⟨[], [], [2]⟩ | 2 => some ⟨[], [], [11, 12]⟩ | 3 => some ⟨[], [], [11, 12, 13]⟩ | 4 => some ⟨[], [], [5, 6, 11, 12]⟩ | 5 => some ⟨[], [], [5, 6, 11, 12, 17]⟩ | 6 => some ⟨[], [], [4]⟩ | 7 => some ⟨[], [], [11, 12]⟩ | 8 => some ⟨[], [], [4]⟩ | _ => none), (fun _ => none), (fun k => match k with | 3 => some ⟨[], [], [11, 12]⟩ | _ => none), ⟨[], [], [0]⟩, fuel, g, 24, 0, fun _ => []⟩
noncomputable def F30 (fuel g : Nat) (b_Below : Int → Int × Int) (b_Minus : Int → Int → Int → Int → Int × Int) (tz_pre : Int → Bool) (m_TrailingZeros64 : Int → Int) (p0_0 : Int) (p0_1 : Int) (p1 : Int) : Option Out := runFn (c30 fuel g b_Below b_Minus tz_pre m_TrailingZeros64) (bodyOf Go.Proofs.Tryd.f30) [.tmp 4] [.agg [.int .u64 p0_0, .int .u64 p0_1], .int .i64 p1] (memOf []) outT
noncomputable def L30_0 (fuel g : Nat) (b_Below : Int → Int × Int) (b_Minus : Int → Int → Int → Int → Int × Int) (tz_pre : Int → Bool) (m_TrailingZeros64 : Int → Int) (n0 : Nat) (p0_0 : Int) (p0_1 : Int) (p1 : Int) (x0_2 : Int) : Option Out := iterAt (c30 fuel g b_Below b_Minus tz_pre m_TrailingZeros64) (bodyOf Go.Proofs.Tryd.f30) [.r, .r, .l, .r, .l] n0 ⟨ofL [(11, .agg [.int .u64 (b_Minus p0_0 p0_1 (b_Below p1).1 (b_Below p1).2).1, .int .u64 (b_Minus p0_0 p0_1 (b_Below p1).1 (b_Below p1).2).2]), (12, .int .i64 x0_2)], ofM [], 0⟩ (retK (c30 fuel g b_Below b_Minus tz_pre m_TrailingZeros64) [.tmp 4] outT)
theorem L30_0_succ (fuel g : Nat) (b_Below : Int → Int × Int) (b_Minus : Int → Int → Int → Int → Int × Int) (tz_pre : Int → Bool) (m_TrailingZeros64 : Int → Int) (n0 : Nat) (p0_0 : Int) (p0_1 : Int) (p1 : Int) (x0_2 : Int) : L30_0 fuel g b_Below b_Minus tz_pre m_TrailingZeros64 (n0 + 1) p0_0 p0_1 p1 x0_2 = cnd (decide (x0_2 < (2 : Int)))
  (cnd (x0_2 == (0 : Int))
  (cnd ((b_Minus p0_0 p0_1 (b_Below p1).1 (b_Below p1).2).1 != (0 : Int))
  (cnd (tz_pre (b_Minus p0_0 p0_1 (b_Below p1).1 (b_Below p1).2).1)
  (some (.int .i64 (IntKind.i64.wrap ((IntKind.i64.wrap (x0_2 * 2 ^ (min (Int.toNat (6 : Int)) 64))) + (m_TrailingZeros64 (b_Minus p0_0 p0_1 (b_Below p1).1 (b_Below p1).2).1))), ofM [], 0))
  none)
  (L30_0 fuel g b_Below b_Minus tz_pre m_TrailingZeros64 n0 p0_0 p0_1 p1 (IntKind.i64.wrap (x0_2 + (1 : Int)))))
  (cnd (x0_2 == (1 : Int))
  (cnd ((b_Minus p0_0 p0_1 (b_Below p1).1 (b_Below p1).2).2 != (0 : Int))
  (cnd (tz_pre (b_Minus p0_0 p0_1 (b_Below p1).1 (b_Below p1).2).2)
  (some (.int .i64 (IntKind.i64.wrap ((IntKind.i64.wrap (x0_2 * 2 ^ (min (Int.toNat (6 : Int)) 64))) + (m_TrailingZeros64 (b_Minus p0_0 p0_1 (b_Below p1).1 (b_Below p1).2).2))), ofM [], 0))
  none)
  (L30_0 fuel g b_Below b_Minus tz_pre m_TrailingZeros64 n0 p0_0 p0_1 p1 (IntKind.i64.wrap (x0_2 + (1 : Int)))))
  (none)))
  (some (.int .i64 (-1 : Int), ofM [], 0)) := by kernel_rfl
theorem L30_0_zero (fuel g : Nat) (b_Below : Int → Int × Int) (b_Minus : Int → Int → Int → Int → Int × Int) (tz_pre : Int → Bool) (m_TrailingZeros64 : Int → Int) (p0_0 : Int) (p0_1 : Int) (p1 : Int) (x0_2 : Int) : L30_0 fuel g b_Below b_Minus tz_pre m_TrailingZeros64 0 p0_0 p0_1 p1 x0_2 = none := by kernel_rfl
theorem F30_eq (fuel g : Nat) (b_Below : Int → Int × Int) (b_Minus : Int → Int → Int → Int → Int × Int) (tz_pre : Int → Bool) (m_TrailingZeros64 : Int → Int) (p0_0 : Int) (p0_1 : Int) (p1 : Int) : F30 fuel g b_Below b_Minus tz_pre m_TrailingZeros64 p0_0 p0_1 p1 = L30_0 fuel g b_Below b_Minus tz_pre m_TrailingZeros64 fuel p0_0 p0_1 p1 (0 : Int) := by kernel_rfl
/-! armature/bits.Sub -/
noncomputable def c31 (fuel g : Nat) (b_Meet : Int → Int → Int → Int → Int × Int) (sub_pre : Int → Int → Int → Bool) (m_Sub64 : Int → Int → Int → Int × Int) : Ctx := ⟨tab, callOf [(15, e15 b_Meet), (41, e41 sub_pre m_Sub64)], (fun k => match k with | 0 => some ⟨[], [], [2, 3, 4]⟩ | 1 => some ⟨[], [], [2, 3, 4]⟩ | 2 => some ⟨[], [], [2, 3, 4, 15]⟩ | 3 => some ⟨[], [], [4, 5]⟩ | 4 => some ⟨[], [], [2, 3, 4, 6, 7]⟩ | 5 => some ⟨[], [], [3, 4, 6, 8]⟩ | 6 => some ⟨[], [], [4, 5]⟩ | _ => none), (fun _ => none), (fun _ => none), ⟨[], [], [0, 1]⟩, fuel, g, 39, 0, fun _ => []⟩
noncomputable def F31 (fuel g : Nat) (b_Meet : Int → Int → Int → Int → Int × Int) (sub_pre : Int → Int → Int → Bool) (m_Sub64 : Int → Int → Int → Int × Int) (p0_0 : Int) (p0_1 : Int) (p1_0 : Int) (p1_1 : Int) : Option Out := runFn (c31 fuel g b_Meet sub_pre m_Sub64) (bodyOf Go.Proofs.Tryd.f31) [.cell 4 24, .tmp 5] [.agg [.int .u64 p0_0, .int .u64 p0_1], .agg [.int .u64 p1_0, .int .u64 p1_1]] (memOf []) outT
theorem F31_eq (fuel g : Nat) (b_Meet : Int → Int → Int → Int → Int × Int) (sub_pre : Int → Int → Int → Bool) (m_Sub64 : Int → Int → Int → Int × Int) (p0_0 : Int) (p0_1 : Int) (p1_0 : Int) (p1_1 : Int) : F31 fuel g b_Meet sub_pre m_Sub64 p0_0 p0_1 p1_0 p1_1 = cnd (((b_Meet p0_0 p0_1 p1_0 p1_1).1 == p1_0) && (((b_Meet p0_0 p0_1 p1_0 p1_1).2 == p1_1) && true))
  (some (.tup [.agg [.int .u64 (0 : Int), .int .u64 (0 : Int)], .bool false], ofM [], 0))
  (cnd (sub_pre (b_Meet p0_0 p0_1 p1_0 p1_1).1 p1_0 (0 : Int))
  (cnd (sub_pre (b_Meet p0_0 p0_1 p1_0 p1_1).2 p1_1 (m_Sub64 (b_Meet p0_0 p0_1 p1_0 p1_1).1 p1_0 (0 : Int)).2)
  (some (.tup [.agg [.int .u64 (b_Meet (m_Sub64 (b_Meet p0_0 p0_1 p1_0 p1_1).1 p1_0 (0 : Int)).1 (m_Sub64 (b_Meet p0_0 p0_1 p1_0 p1_1).2 p1_1 (m_Sub64 (b_Meet p0_0 p0_1 p1_0 p1_1).1 p1_0 (0 : Int)).2).1 p1_0 p1_1).1, .int .u64 (b_Meet (m_Sub64 (b_Meet p0_0 p0_1 p1_0 p1_1).1 p1_0 (0 : Int)).1 (m_Sub64 (b_Meet p0_0 p0_1 p1_0 p1_1).2 p1_1 (m_Sub64 (b_Meet p0_0 p0_1 p1_0 p1_1).1 p1_0 (0 : Int)).2).1 p1_0 p1_1).2], .bool true], ofM [], 0))
  none)
  none) := by kernel_rfl
/-! armature/armatureref02.Compare -/
noncomputable def c32 (fuel g : Nat) (ref_Has : Int → Int → Int → Bool) : Ctx := ⟨tab, callOf [(13, e13 ref_Has)], (fun k => match k with | 0 => some ⟨[], [], [2, 3]⟩ | 1 => some ⟨[], [], [2, 3, 5]⟩ | 2 => some ⟨[], [], [2, 3, 5, 9]⟩ | 4 => some ⟨[], [], [2, 3, 5, 6, 7]⟩ | 5 => some ⟨[], [], [2, 3, 5, 6, 20]⟩ | 6 => some ⟨[], [], [21]⟩ | 7 => some ⟨[], [], [4]⟩ | 8 => some ⟨[], [], [4]⟩ | 3 => some ⟨[], [], [2, 3, 5]⟩ | 9 => some ⟨[], [], [4]⟩ | _ => none), (fun _ => none), (fun k => match k with | 2 => some ⟨[], [], [2, 3, 5]⟩ | _ => none), ⟨[], [], [0]⟩, fuel, g, 22, 0, fun _ => []⟩
noncomputable def F32 (fuel g : Nat) (ref_Has : Int → Int → Int → Bool) (p0_0 : Int) (p0_1 : Int) (p1_0 : Int) (p1_1 : Int) : Option Out := runFn (c32 fuel g ref_Has) (bodyOf Go.Proofs.Tryd.f32) [.tmp 4] [.agg [.int .u64 p0_0, .int .u64 p0_1], .agg [.int .u64 p1_0, .int .u64 p1_1]] (memOf []) outT
noncomputable def L32_0 (fuel g : Nat) (ref_Has : Int → Int → Int → Bool) (n0 : Nat) (p0_0 : Int) (p0_1 : Int) (p1_0 : Int) (p1_1 : Int) (x0_2 : Int) : Option Out := iterAt (c32 fuel g ref_Has) (bodyOf Go.Proofs.Tryd.f32) [.r, .l, .r, .l] n0 ⟨ofL [(2, .ptr 0 0 0), (3, .ptr 1 0 0), (5, .int .i64 x0_2)], ofM [(0, some ⟨true, 24, .one [.int .u64 p0_0, .int .u64 p0_1]⟩), (1, some ⟨true, 24, .one [.int .u64 p1_0, .int .u64 p1_1]⟩)], 2⟩ (retK (c32 fuel g ref_Has) [.tmp 4] outT)
theorem L32_0_succ (fuel g : Nat) (ref_Has : Int → Int → Int → Bool) (n0 : Nat) (p0_0 : Int) (p0_1 : Int) (p1_0 : Int) (p1_1 : Int) (x0_2 : Int) : L32_0 fuel g ref_Has (n0 + 1) p0_0 p0_1 p1_0 p1_1 x0_2 = cnd (decide (x0_2 ≥ (0 : Int)))
  (cnd (!((ref_Has p0_0 p0_1 x0_2) == (ref_Has p1_0 p1_1 x0_2)))
  (cnd (ref_Has p0_0 p0_1 x0_2)
  (some (.int .i64 (1 : Int), ofM [], 0))
  (some (.int .i64 (-1 : Int), ofM [], 0)))
  (L32_0 fuel g ref_Has n0 p0_0 p0_1 p1_0 p1_1 (IntKind.i64.wrap (x0_2 - (1 : Int)))))
  (some (.int .i64 (0 : Int), ofM [], 0)) := by kernel_rfl
theorem L32_0_zero (fuel g : Nat) (ref_Has : Int → Int → Int → Bool) (p0_0 : Int) (p0_1 : Int) (p1_0 : Int) (p1_1 : Int) (x0_2 : Int) : L32_0 fuel g ref_Has 0 p0_0 p0_1 p1_0 p1_1 x0_2 = none := by kernel_rfl
theorem F32_eq (fuel g : Nat) (ref_Has : Int → Int → Int → Bool) (p0_0 : Int) (p0_1 : Int) (p1_0 : Int) (p1_1 : Int) : F32 fuel g ref_Has p0_0 p0_1 p1_0 p1_1 = L32_0 fuel g ref_Has fuel p0_0 p0_1 p1_0 p1_1 (127 : Int) := by kernel_rfl
/-! armature/bits.Compare -/
noncomputable def c33 (fuel g : Nat) : Ctx := ⟨tab, callOf [], (fun k => match k with | 0 => some ⟨[], [], [2, 3]⟩ | 1 => some ⟨[], [], [2, 3, 5]⟩ | 2 => some ⟨[], [], [2, 3, 5, 7]⟩ | 4 => some ⟨[], [], [2, 3, 5, 16]⟩ | 5 => some ⟨[], [], [23]⟩ | 6 => some ⟨[], [], [4]⟩ | 7 => some ⟨[], [], [4]⟩ | 3 => some ⟨[], [], [2, 3, 5]⟩ | 8 => some ⟨[], [], [4]⟩ | _ => none), (fun _ => none), (fun k => match k with | 2 => some ⟨[], [], [2, 3, 5]⟩ | _ => none), ⟨[], [], [0]⟩, fuel, g, 24, 0, fun _ => []⟩
noncomputable def F33 (fuel g : Nat) (p0_0 : Int) (p0_1 : Int) (p1_0 : Int) (p1_1 : Int) : Option Out := runFn (c33 fuel g) (bodyOf Go.Proofs.Tryd.f33) [.tmp 4] [.agg [.int .u64 p0_0, .int .u64 p0_1], .agg [.int .u64 p1_0, .int .u64 p1_1]] (memOf []) outT
noncomputable def L33_0 (fuel g : Nat) (n0 : Nat) (p0_0 : Int) (p0_1 : Int) (p1_0 : Int) (p1_1 : Int) (x0_2 : Int) : Option Out := iterAt (c33 fuel g) (bodyOf Go.Proofs.Tryd.f33) [.r, .l, .r, .l] n0 ⟨ofL [(2, .ptr 0 0 0), (3, .ptr 1 0 0), (5, .int .i64 x0_2)], ofM [(0, some ⟨true, 24, .one [.int .u64 p0_0, .int .u64 p0_1]⟩), (1, some ⟨true, 24, .one [.int .u64 p1_0, .int .u64 p1_1]⟩)], 2⟩ (retK (c33 fuel g) [.tmp 4] outT)
theorem L33_0_succ (fuel g : Nat) (n0 : Nat) (p0_0 : Int) (p0_1 : Int) (p1_0 : Int) (p1_1 : Int) (x0_2 : Int) : L33_0 fuel g (n0 + 1) p0_0 p0_1 p1_0 p1_1 x0_2 = cnd (decide (x0_2 ≥ (0 : Int)))
  (cnd (x0_2 == (0 : Int))
  (cnd (x0_2 == (0 : Int))
  (cnd (p0_0 != p1_0)
  (cnd (x0_2 == (0 : Int))
  (cnd (x0_2 == (0 : Int))
  (cnd (decide (p0_0 > p1_0))
  (some (.int .i64 (1 : Int), ofM [], 0))
  (some (.int .i64 (-1 : Int), ofM [], 0)))
  (cnd (x0_2 == (1 : Int))
  (cnd (decide (p0_0 > p1_1))
  (some (.int .i64 (1 : Int), ofM [], 0))
  (some (.int .i64 (-1 : Int), ofM [], 0)))
  (none)))
  (cnd (x0_2 == (1 : Int))
  (cnd (x0_2 == (0 : Int))
  (cnd (decide (p0_1 > p1_0))
  (some (.int .i64 (1 : Int), ofM [], 0))
  (some (.int .i64 (-1 : Int), ofM [], 0)))
  (cnd (x0_2 == (1 : Int))
  (cnd (decide (p0_1 > p1_1))
  (some (.int .i64 (1 : Int), ofM [], 0))
  (some (.int .i64 (-1 : Int), ofM [], 0)))
  (none)))
  (none)))
  (L33_0 fuel g n0 p0_0 p0_1 p1_0 p1_1 (IntKind.i64.wrap (x0_2 - (1 : Int)))))
  (cnd (x0_2 == (1 : Int))
  (cnd (p0_0 != p1_1)
  (cnd (x0_2 == (0 : Int))
  (cnd (x0_2 == (0 : Int))
  (cnd (decide (p0_0 > p1_0))
  (some (.int .i64 (1 : Int), ofM [], 0))
  (some (.int .i64 (-1 : Int), ofM [], 0)))
  (cnd (x0_2 == (1 : Int))
  (cnd (decide (p0_0 > p1_1))
  (some (.int .i64 (1 : Int), ofM [], 0))
  (some (.int .i64 (-1 : Int), ofM [], 0)))
  (none)))
  (cnd (x0_2 == (1 : Int))
  (cnd (x0_2 == (0 : Int))
  (cnd (decide (p0_1 > p1_0))
  (some (.int .i64 (1 : Int), ofM [], 0))
  (some (.int .i64 (-1 : Int), ofM [], 0)))
  (cnd (x0_2 == (1 : Int))
  (cnd (decide (p0_1 > p1_1))
  (some (.int .i64 (1 : Int), ofM [], 0))
  (some (.int .i64 (-1 : Int), ofM [], 0)))
  (none)))
  (none)))
  (L33_0 fuel g n0 p0_0 p0_1 p1_0 p1_1 (IntKind.i64.wrap (x0_2 - (1 : Int)))))
  (none)))
  (cnd (x0_2 == (1 : Int))
  (cnd (x0_2 == (0 : Int))
  (cnd (p0_1 != p1_0)
  (cnd (x0_2 == (0 : Int))
  (cnd (x0_2 == (0 : Int))
  (cnd (decide (p0_0 > p1_0))
  (some (.int .i64 (1 : Int), ofM [], 0))
  (some (.int .i64 (-1 : Int), ofM [], 0)))
  (cnd (x0_2 == (1 : Int))
  (cnd (decide (p0_0 > p1_1))
  (some (.int .i64 (1 : Int), ofM [], 0))
  (some (.int .i64 (-1 : Int), ofM [], 0)))
  (none)))
  (cnd (x0_2 == (1 : Int))
  (cnd (x0_2 == (0 : Int))
  (cnd (decide (p0_1 > p1_0))
  (some (.int .i64 (1 : Int), ofM [], 0))
  (some (.int .i64 (-1 : Int), ofM [], 0)))
  (cnd (x0_2 == (1 : Int))
  (cnd (decide (p0_1 > p1_1))
  (some (.int .i64 (1 : Int), ofM [], 0))
  (some (.int .i64 (-1 : Int), ofM [], 0)))
  (none)))
  (none)))
  (L33_0 fuel g n0 p0_0 p0_1 p1_0 p1_1 (IntKind.i64.wrap (x0_2 - (1 : Int)))))
  (cnd (x0_2 == (1 : Int))
  (cnd (p0_1 != p1_1)
  (cnd (x0_2 == (0 : Int))
  (cnd (x0_2 == (0 : Int))
  (cnd (decide (p0_0 > p1_0))
  (some (.int .i64 (1 : Int), ofM [], 0))
  (some (.int .i64 (-1 : Int), ofM [], 0)))
  (cnd (x0_2 == (1 : Int))
  (cnd (decide (p0_0 > p1_1))
  (some (.int .i64 (1 : Int), ofM [], 0))
  (some (.int .i64 (-1 : Int), ofM [], 0)))
  (none)))
  (cnd (x0_2 == (1 : Int))
  (cnd (x0_2 == (0 : Int))
  (cnd (decide (p0_1 > p1_0))
  (some (.int .i64 (1 : Int), ofM [], 0))
  (some (.int .i64 (-1 : Int), ofM [], 0)))
  (cnd (x0_2 == (1 : Int))
  (cnd (decide (p0_1 > p1_1))
  (some (.int .i64 (1 : Int), ofM [], 0))
  (some (.int .i64 (-1 : Int), ofM [], 0)))
  (none)))
  (none)))
  (L33_0 fuel g n0 p0_0 p0_1 p1_0 p1_1 (IntKind.i64.wrap (x0_2 - (1 : Int)))))
  (none)))
  (none)))
  (some (.int .i64 (0 : Int), ofM [], 0)) := by kernel_rfl
theorem L33_0_zero (fuel g : Nat) (p0_0 : Int) (p0_1 : Int) (p1_0 : Int) (p1_1 : Int) (x0_2 : Int) : L33_0 fuel g 0 p0_0 p0_1 p1_0 p1_1 x0_2 = none := by kernel_rfl
theorem F33_eq (fuel g : Nat) (p0_0 : Int) (p0_1 : Int) (p1_0 : Int) (p1_1 : Int) : F33 fuel g p0_0 p0_1 p1_0 p1_1 = L33_0 fuel g fuel p0_0 p0_1 p1_0 p1_1 (1 : Int) := by kernel_rfl
/-! armature/bits.Shift -/
noncomputable def c34 (fuel g : Nat) : Ctx := ⟨tab, callOf [], (fun k => match k with | 0 => some ⟨[], [], [1, 2, 4]⟩ | 1 => some ⟨[], [], [1, 2, 4, 12]⟩ | 2 => some ⟨[], [], [4]⟩ | 3 => some ⟨[], [], [1, 2, 4, 15]⟩ | 4 => some ⟨[], [], [2, 4, 5]⟩ | 5 => some ⟨[], [], [2, 4, 5, 19]⟩ | 6 => some ⟨[], [], [4]⟩ | 7 => some ⟨[], [], [4]⟩ | 8 => some ⟨[], [], [2, 4, 6]⟩ | 9 => some ⟨[], [], [2, 4, 6, 45]⟩ | 10 => some ⟨[], [], [4]⟩ | 11 => some ⟨[], [], [4]⟩ | _ => none), (fun _ => none), (fun _ => none), ⟨[], [], [0]⟩, fuel, g, 67, 0, fun _ => []⟩
noncomputable def F34 (fuel g : Nat) (p0_0 : Int) (p0_1 : Int) (p1 : Int) : Option Out := runFn (c34 fuel g) (bodyOf Go.Proofs.Tryd.f34) [.cell 4 24] [.agg [.int .u64 p0_0, .int .u64 p0_1], .int .i64 p1] (memOf []) outT
theorem F34_eq (fuel g : Nat) (p0_0 : Int) (p0_1 : Int) (p1 : Int) : F34 fuel g p0_0 p0_1 p1 = cnd (decide (p1 ≤ (-128 : Int)))
  (some (.agg [.int .u64 (0 : Int), .int .u64 (0 : Int)], ofM [], 0))
  (cnd (decide (p1 ≥ (128 : Int)))
  (some (.agg [.int .u64 (0 : Int), .int .u64 (0 : Int)], ofM [], 0))
  (cnd (decide (p1 ≥ (0 : Int)))
  (cnd (decide ((IntKind.u64.wrap p1) ≥ (64 : Int)))
  (cnd (decide ((IntKind.u64.wrap ((IntKind.u64.wrap p1) - (64 : Int))) < 0))
  none
  (some (.agg [.int .u64 (0 : Int), .int .u64 (IntKind.u64.wrap (p0_0 * 2 ^ (min (Int.toNat (IntKind.u64.wrap ((IntKind.u64.wrap p1) - (64 : Int)))) 64)))], ofM [], 0)))
  (cnd (decide ((IntKind.u64.wrap p1) < 0))
  none
  (cnd (decide ((IntKind.u64.wrap p1) < 0))
  none
  (cnd (decide ((IntKind.u64.wrap ((64 : Int) - (IntKind.u64.wrap p1))) < 0))
  none
  (some (.agg [.int .u64 (IntKind.u64.wrap (p0_0 * 2 ^ (min (Int.toNat (IntKind.u64.wrap p1)) 64))), .int .u64 (orI .u64 (IntKind.u64.wrap (p0_1 * 2 ^ (min (Int.toNat (IntKind.u64.wrap p1)) 64))) (Int.fdiv p0_0 (2 ^ (min (Int.toNat (IntKind.u64.wrap ((64 : Int) - (IntKind.u64.wrap p1)))) 64))))], ofM [], 0))))))
  (cnd (decide ((IntKind.u64.wrap (IntKind.i64.wrap (0 - p1))) ≥ (64 : Int)))
  (cnd (decide ((IntKind.u64.wrap ((IntKind.u64.wrap (IntKind.i64.wrap (0 - p1))) - (64 : Int))) < 0))
  none
  (some (.agg [.int .u64 (Int.fdiv p0_1 (2 ^ (min (Int.toNat (IntKind.u64.wrap ((IntKind.u64.wrap (IntKind.i64.wrap (0 - p1))) - (64 : Int)))) 64))), .int .u64 (0 : Int)], ofM [], 0)))
  (cnd (decide ((IntKind.u64.wrap (IntKind.i64.wrap (0 - p1))) < 0))
  none
  (cnd (decide ((IntKind.u64.wrap ((64 : Int) - (IntKind.u64.wrap (IntKind.i64.wrap (0 - p1))))) < 0))
  none
  (cnd (decide ((IntKind.u64.wrap (IntKind.i64.wrap (0 - p1))) < 0))
  none
  (some (.agg [.int .u64 (orI .u64 (Int.fdiv p0_0 (2 ^ (min (Int.toNat (IntKind.u64.wrap (IntKind.i64.wrap (0 - p1)))) 64))) (IntKind.u64.wrap (p0_1 * 2 ^ (min (Int.toNat (IntKind.u64.wrap ((64 : Int) - (IntKind.u64.wrap (IntKind.i64.wrap (0 - p1)))))) 64)))), .int .u64 (Int.fdiv p0_1 (2 ^ (min (Int.toNat (IntKind.u64.wrap (IntKind.i64.wrap (0 - p1)))) 64)))], ofM [], 0)))))))) := by kernel_rfl
/-! armature/bits.Bytes -/
noncomputable def c35 (fuel g : Nat) : Ctx := ⟨tab, callOf [], (fun k => match k with | 0 => some ⟨[], [], [1]⟩ | 1 => some ⟨[], [], [1, 3]⟩ | 2 => some ⟨[], [], [1, 3, 7, 8]⟩ | 3 => some ⟨[], [], [1, 3, 7, 8, 9]⟩ | 4 => some ⟨[], [], [1, 3, 4, 7, 8]⟩ | 5 => some ⟨[], [], [1, 3, 7, 8]⟩ | 6 => some ⟨[], [], [1, 3, 7, 8]⟩ | 7 => some ⟨[], [], [2]⟩ | _ => none), (fun _ => none), (fun k => match k with | 3 => some ⟨[], [], [1, 3, 7, 8]⟩ | _ => none), ⟨[], [], [0]⟩, fuel, g, 26, 0, fun _ => []⟩
noncomputable def F35 (fuel g : Nat) (p0_0 : Int) (p0_1 : Int) : Option Out := runFn (c35 fuel g) (bodyOf Go.Proofs.Tryd.f35) [.tmp 2] [.agg [.int .u64 p0_0, .int .u64 p0_1]] (memOf []) outT
noncomputable def L35_0 (fuel g : Nat) (n0 : Nat) (p0_0 : Int) (p0_1 : Int) (x0_4 : Int) (x0_7 : List Int) : Option Out := iterAt (c35 fuel g) (bodyOf Go.Proofs.Tryd.f35) [.r, .r, .l, .r, .l] n0 ⟨ofL [(1, .ptr 0 0 0), (3, .sl 1 0 16), (7, .int .i64 (16 : Int)), (8, .int .i64 x0_4)], ofM [(0, some ⟨true, 24, .one [.int .u64 p0_0, .int .u64 p0_1]⟩), (1, some ⟨true, 5, .col (.int .u8) x0_7⟩)], 2⟩ (retK (c35 fuel g) [.tmp 2] outT)
theorem L35_0_succ (fuel g : Nat) (n0 : Nat) (p0_0 : Int) (p0_1 : Int) (x0_4 : Int) (x0_7 : List Int) : L35_0 fuel g (n0 + 1) p0_0 p0_1 x0_4 x0_7 = cnd (decide (x0_4 < (16 : Int)))
  (cnd ((Int.fdiv x0_4 (2 ^ (min (Int.toNat (3 : Int)) 64))) == (0 : Int))
  (cnd (decide ((IntKind.u64.wrap (IntKind.i64.wrap ((andI .i64 x0_4 (7 : Int)) * (8 : Int)))) < 0))
  none
  (cnd (decide (0 ≤ x0_4))
  (cnd (decide (x0_4 < ((16 : Nat) : Int)))
  (L35_0 fuel g n0 p0_0 p0_1 (IntKind.i64.wrap (x0_4 + (1 : Int))) (List.set x0_7 (0 + (Int.toNat x0_4)) (IntKind.u8.wrap (Int.fdiv p0_0 (2 ^ (min (Int.toNat (IntKind.u64.wrap (IntKind.i64.wrap ((andI .i64 x0_4 (7 : Int)) * (8 : Int))))) 64))))))
  none)
  none))
  (cnd ((Int.fdiv x0_4 (2 ^ (min (Int.toNat (3 : Int)) 64))) == (1 : Int))
  (cnd (decide ((IntKind.u64.wrap (IntKind.i64.wrap ((andI .i64 x0_4 (7 : Int)) * (8 : Int)))) < 0))
  none
  (cnd (decide (0 ≤ x0_4))
  (cnd (decide (x0_4 < ((16 : Nat) : Int)))
  (L35_0 fuel g n0 p0_0 p0_1 (IntKind.i64.wrap (x0_4 + (1 : Int))) (List.set x0_7 (0 + (Int.toNat x0_4)) (IntKind.u8.wrap (Int.fdiv p0_1 (2 ^ (min (Int.toNat (IntKind.u64.wrap (IntKind.i64.wrap ((andI .i64 x0_4 (7 : Int)) * (8 : Int))))) 64))))))
  none)
  none))
  (none)))
  (some (.sl 0 0 16, ofM [(0, some ⟨true, 5, .col (.int .u8) x0_7⟩)], 1)) := by kernel_rfl
theorem L35_0_zero (fuel g : Nat) (p0_0 : Int) (p0_1 : Int) (x0_4 : Int) (x0_7 : List Int) : L35_0 fuel g 0 p0_0 p0_1 x0_4 x0_7 = none := by kernel_rfl
theorem F35_eq (fuel g : Nat) (p0_0 : Int) (p0_1 : Int) : F35 fuel g p0_0 p0_1 = L35_0 fuel g fuel p0_0 p0_1 (0 : Int) [(0 : Int), (0 : Int), (0 : Int), (0 : Int), (0 : Int), (0 : Int), (0 : Int), (0 : Int), (0 : Int), (0 : Int), (0 : Int), (0 : Int), (0 : Int), (0 : Int), (0 : Int), (0 : Int)] := by kernel_rfl
/-! armature/bits.FromBytes -/
noncomputable def c36 (fuel g : Nat) : Ctx := ⟨tab, callOf [], (fun k => match k with | 0 => some ⟨[], [], [0, 2]⟩ | 1 => some ⟨[], [], [0, 2, 4]⟩ | 2 => some ⟨[], [], [0, 2, 4, 9]⟩ | 3 => some ⟨[], [], [2, 3]⟩ | 4 => some ⟨[], [], [2, 4, 11, 12, 13]⟩ | 5 => some ⟨[], [], [2, 4, 11, 12, 13, 14]⟩ | 6 => some ⟨[], [], [2, 4, 5, 6, 11, 12, 13]⟩ | 7 => some ⟨[], [], [2, 4, 11, 12, 13]⟩ | 8 => some ⟨[], [], [2, 4, 11, 12, 13]⟩ | 9 => some ⟨[], [], [2, 3]⟩ | _ => none), (fun _ => none), (fun k => match k with | 5 => some ⟨[], [], [2, 4, 11, 12, 13]⟩ | _ => none), ⟨[], [], [0, 1]⟩, fuel, g, 33, 1, fun _ => []⟩
noncomputable def F36 (fuel g : Nat) (p0 : List Int) : Option Out := runFn (c36 fuel g) (bodyOf Go.Proofs.Tryd.f36) [.cell 2 24, .tmp 3] [.sl 0 0 (List.length p0)] (memOf [⟨false, 5, .col (.int .u8) p0⟩]) outT
noncomputable def L36_0 (fuel g : Nat) (n0 : Nat) (p0 : List Int) (x0_5 : Int) (x0_9 : Int) (x0_10 : Int) : Option Out := iterAt (c36 fuel g) (bodyOf Go.Proofs.Tryd.f36) [.r, .r, .r, .l, .r, .l] n0 ⟨ofL [(2, .ptr 1 0 0), (4, .ptr 2 0 0), (11, .sl 0 0 (List.length p0)), (12, .int .i64 (((List.length p0) : Nat) : Int)), (13, .int .i64 x0_5)], ofM [(0, some ⟨false, 5, .col (.int .u8) p0⟩), (1, some ⟨true, 24, .one [.int .u64 (0 : Int), .int .u64 (0 : Int)]⟩), (2, some ⟨true, 24, .one [.int .u64 x0_9, .int .u64 x0_10]⟩)], 3⟩ (retK (c36 fuel g) [.cell 2 24, .tmp 3] outT)
theorem L36_0_succ (fuel g : Nat) (n0 : Nat) (p0 : List Int) (x0_5 : Int) (x0_9 : Int) (x0_10 : Int) : L36_0 fuel g (n0 + 1) p0 x0_5 x0_9 x0_10 = cnd (decide (x0_5 < (((List.length p0) : Nat) : Int)))
  (cnd (decide (0 ≤ x0_5))
  (cnd (decide (x0_5 < (((List.length p0) : Nat) : Int)))
  (cnd ((Int.fdiv x0_5 (2 ^ (min (Int.toNat (3 : Int)) 64))) == (0 : Int))
  (cnd (decide ((IntKind.u64.wrap (IntKind.i64.wrap ((andI .i64 x0_5 (7 : Int)) * (8 : Int)))) < 0))
  none
  (cnd ((Int.fdiv x0_5 (2 ^ (min (Int.toNat (3 : Int)) 64))) == (0 : Int))
  (L36_0 fuel g n0 p0 (IntKind.i64.wrap (x0_5 + (1 : Int))) (orI .u64 x0_9 (IntKind.u64.wrap ((IntKind.u64.wrap (List.getD p0 (0 + (Int.toNat x0_5)) (0 : Int))) * 2 ^ (min (Int.toNat (IntKind.u64.wrap (IntKind.i64.wrap ((andI .i64 x0_5 (7 : Int)) * (8 : Int))))) 64)))) x0_10)
  (cnd ((Int.fdiv x0_5 (2 ^ (min (Int.toNat (3 : Int)) 64))) == (1 : Int))
  (L36_0 fuel g n0 p0 (IntKind.i64.wrap (x0_5 + (1 : Int))) x0_9 (orI .u64 x0_9 (IntKind.u64.wrap ((IntKind.u64.wrap (List.getD p0 (0 + (Int.toNat x0_5)) (0 : Int))) * 2 ^ (min (Int.toNat (IntKind.u64.wrap (IntKind.i64.wrap ((andI .i64 x0_5 (7 : Int)) * (8 : Int))))) 64)))))
  (none))))
  (cnd ((Int.fdiv x0_5 (2 ^ (min (Int.toNat (3 : Int)) 64))) == (1 : Int))
  (cnd (decide ((IntKind.u64.wrap (IntKind.i64.wrap ((andI .i64 x0_5 (7 : Int)) * (8 : Int)))) < 0))
  none
  (cnd ((Int.fdiv x0_5 (2 ^ (min (Int.toNat (3 : Int)) 64))) == (0 : Int))
  (L36_0 fuel g n0 p0 (IntKind.i64.wrap (x0_5 + (1 : Int))) (orI .u64 x0_10 (IntKind.u64.wrap ((IntKind.u64.wrap (List.getD p0 (0 + (Int.toNat x0_5)) (0 : Int))) * 2 ^ (min (Int.toNat (IntKind.u64.wrap (IntKind.i64.wrap ((andI .i64 x0_5 (7 : Int)) * (8 : Int))))) 64)))) x0_10)
  (cnd ((Int.fdiv x0_5 (2 ^ (min (Int.toNat (3 : Int)) 64))) == (1 : Int))
  (L36_0 fuel g n0 p0 (IntKind.i64.wrap (x0_5 + (1 : Int))) x0_9 (orI .u64 x0_10 (IntKind.u64.wrap ((IntKind.u64.wrap (List.getD p0 (0 + (Int.toNat x0_5)) (0 : Int))) * 2 ^ (min (Int.toNat (IntKind.u64.wrap (IntKind.i64.wrap ((andI .i64 x0_5 (7 : Int)) * (8 : Int))))) 64)))))
  (none))))
  (none)))
  none)
  none)
  (some (.tup [.agg [.int .u64 x0_9, .int .u64 x0_10], .int .i64 (0 : Int)], ofM [(0, some ⟨false, 5, .col (.int .u8) p0⟩)], 1)) := by kernel_rfl
theorem L36_0_zero (fuel g : Nat) (p0 : List Int) (x0_5 : Int) (x0_9 : Int) (x0_10 : Int) : L36_0 fuel g 0 p0 x0_5 x0_9 x0_10 = none := by kernel_rfl
theorem F36_eq (fuel g : Nat) (p0 : List Int) : F36 fuel g p0 = cnd ((((List.length p0) : Nat) : Int) != (16 : Int))
  (some (.tup [.agg [.int .u64 (0 : Int), .int .u64 (0 : Int)], .int .i64 (3 : Int)], ofM [(0, some ⟨false, 5, .col (.int .u8) p0⟩)], 1))
  (L36_0 fuel g fuel p0 (0 : Int) (0 : Int) (0 : Int)) := by kernel_rfl
/-! math/bits.OnesCount64 -/
noncomputable def c37 (fuel g : Nat) : Ctx := ⟨tab, callOf [], (fun k => match k with | 0 => some ⟨[], [], [0]⟩ | 1 => some ⟨[], [], [0]⟩ | 2 => some ⟨[], [], [0]⟩ | 3 => some ⟨[], [], [0]⟩ | 4 => some ⟨[], [], [0]⟩ | 5 => some ⟨[], [], [0]⟩ | 6 => some ⟨[], [], [0]⟩ | 7 => some ⟨[], [], [2]⟩ | _ => none), (fun _ => none), (fun _ => none), ⟨[], [], [0]⟩, fuel, g, 35, 0, fun _ => []⟩
noncomputable def F37 (fuel g : Nat) (p0 : Int) : Option Out := runFn (c37 fuel g) (bodyOf Go.Proofs.Tryd.f37) [.tmp 2] [.int .u64 p0] (memOf []) outT
theorem F37_eq (fuel g : Nat) (p0 : Int) : F37 fuel g p0 = some (.int .i64 (andI .i64 (IntKind.i64.wrap (IntKind.u64.wrap ((IntKind.u64.wrap ((IntKind.u64.wrap ((andI .u64 (IntKind.u64.wrap ((Int.fdiv (IntKind.u64.wrap ((andI .u64 (Int.fdiv (IntKind.u64.wrap ((andI .u64 (Int.fdiv p0 (2 ^ (min (Int.toNat (1 : Int)) 64))) (6148914691236517205 : Int)) + (andI .u64 p0 (6148914691236517205 : Int)))) (2 ^ (min (Int.toNat (2 : Int)) 64))) (3689348814741910323 : Int)) + (andI .u64 (IntKind.u64.wrap ((andI .u64 (Int.fdiv p0 (2 ^ (min (Int.toNat (1 : Int)) 64))) (6148914691236517205 : Int)) + (andI .u64 p0 (6148914691236517205 : Int)))) (3689348814741910323 : Int)))) (2 ^ (min (Int.toNat (4 : Int)) 64))) + (IntKind.u64.wrap ((andI .u64 (Int.fdiv (IntKind.u64.wrap ((andI .u64 (Int.fdiv p0 (2 ^ (min (Int.toNat (1 : Int)) 64))) (6148914691236517205 : Int)) + (andI .u64 p0 (6148914691236517205 : Int)))) (2 ^ (min (Int.toNat (2 : Int)) 64))) (3689348814741910323 : Int)) + (andI .u64 (IntKind.u64.wrap ((andI .u64 (Int.fdiv p0 (2 ^ (min (Int.toNat (1 : Int)) 64))) (6148914691236517205 : Int)) + (andI .u64 p0 (6148914691236517205 : Int)))) (3689348814741910323 : Int)))))) (1085102592571150095 : Int)) + (Int.fdiv (andI .u64 (IntKind.u64.wrap ((Int.fdiv (IntKind.u64.wrap ((andI .u64 (Int.fdiv (IntKind.u64.wrap ((andI .u64 (Int.fdiv p0 (2 ^ (min (Int.toNat (1 : Int)) 64))) (6148914691236517205 : Int)) + (andI .u64 p0 (6148914691236517205 : Int)))) (2 ^ (min (Int.toNat (2 : Int)) 64))) (3689348814741910323 : Int)) + (andI .u64 (IntKind.u64.wrap ((andI .u64 (Int.fdiv p0 (2 ^ (min (Int.toNat (1 : Int)) 64))) (6148914691236517205 : Int)) + (andI .u64 p0 (6148914691236517205 : Int)))) (3689348814741910323 : Int)))) (2 ^ (min (Int.toNat (4 : Int)) 64))) + (IntKind.u64.wrap ((andI .u64 (Int.fdiv (IntKind.u64.wrap ((andI .u64 (Int.fdiv p0 (2 ^ (min (Int.toNat (1 : Int)) 64))) (6148914691236517205 : Int)) + (andI .u64 p0 (6148914691236517205 : Int)))) (2 ^ (min (Int.toNat (2 : Int)) 64))) (3689348814741910323 : Int)) + (andI .u64 (IntKind.u64.wrap ((andI .u64 (Int.fdiv p0 (2 ^ (min (Int.toNat (1 : Int)) 64))) (6148914691236517205 : Int)) + (andI .u64 p0 (6148914691236517205 : Int)))) (3689348814741910323 : Int)))))) (1085102592571150095 : Int)) (2 ^ (min (Int.toNat (8 : Int)) 64))))) + (Int.fdiv (IntKind.u64.wrap ((andI .u64 (IntKind.u64.wrap ((Int.fdiv (IntKind.u64.wrap ((andI .u64 (Int.fdiv (IntKind.u64.wrap ((andI .u64 (Int.fdiv p0 (2 ^ (min (Int.toNat (1 : Int)) 64))) (6148914691236517205 : Int)) + (andI .u64 p0 (6148914691236517205 : Int)))) (2 ^ (min (Int.toNat (2 : Int)) 64))) (3689348814741910323 : Int)) + (andI .u64 (IntKind.u64.wrap ((andI .u64 (Int.fdiv p0 (2 ^ (min (Int.toNat (1 : Int)) 64))) (6148914691236517205 : Int)) + (andI .u64 p0 (6148914691236517205 : Int)))) (3689348814741910323 : Int)))) (2 ^ (min (Int.toNat (4 : Int)) 64))) + (IntKind.u64.wrap ((andI .u64 (Int.fdiv (IntKind.u64.wrap ((andI .u64 (Int.fdiv p0 (2 ^ (min (Int.toNat (1 : Int)) 64))) (6148914691236517205 : Int)) + (andI .u64 p0 (6148914691236517205 : Int)))) (2 ^ (min (Int.toNat (2 : Int)) 64))) (3689348814741910323 : Int)) + (andI .u64 (IntKind.u64.wrap ((andI .u64 (Int.fdiv p0 (2 ^ (min (Int.toNat (1 : Int)) 64))) (6148914691236517205 : Int)) + (andI .u64 p0 (6148914691236517205 : Int)))) (3689348814741910323 : Int)))))) (1085102592571150095 : Int)) + (Int.fdiv (andI .u64 (IntKind.u64.wrap ((Int.fdiv (IntKind.u64.wrap ((andI .u64 (Int.fdiv (IntKind.u64.wrap ((andI .u64 (Int.fdiv p0 (2 ^ (min (Int.toNat (1 : Int)) 64))) (6148914691236517205 : Int)) + (andI .u64 p0 (6148914691236517205 : Int)))) (2 ^ (min (Int.toNat (2 : Int)) 64))) (3689348814741910323 : Int)) + (andI .u64 (IntKind.u64.wrap ((andI .u64 (Int.fdiv p0 (2 ^ (min (Int.toNat (1 : Int)) 64))) (6148914691236517205 : Int)) + (andI .u64 p0 (6148914691236517205 : Int)))) (3689348814741910323 : Int)))) (2 ^ (min (Int.toNat (4 : Int)) 64))) + (IntKind.u64.wrap ((andI .u64 (Int.fdiv (IntKind.u64.wrap ((andI .u64 (Int.fdiv p0 (2 ^ (min (Int.toNat (1 : Int)) 64))) (6148914691236517205 : Int)) + (andI .u64 p0 (6148914691236517205 : Int)))) (2 ^ (min (Int.toNat (2 : Int)) 64))) (3689348814741910323 : Int)) + (andI .u64 (IntKind.u64.wrap ((andI .u64 (Int.fdiv p0 (2 ^ (min (Int.toNat (1 : Int)) 64))) (6148914691236517205 : Int)) + (andI .u64 p0 (6148914691236517205 : Int)))) (3689348814741910323 : Int)))))) (1085102592571150095 : Int)) (2 ^ (min (Int.toNat (8 : Int)) 64))))) (2 ^ (min (Int.toNat (16 : Int)) 64))))) + (Int.fdiv (IntKind.u64.wrap ((IntKind.u64.wrap ((andI .u64 (IntKind.u64.wrap ((Int.fdiv (IntKind.u64.wrap ((andI .u64 (Int.fdiv (IntKind.u64.wrap ((andI .u64 (Int.fdiv p0 (2 ^ (min (Int.toNat (1 : Int)) 64))) (6148914691236517205 : Int)) + (andI .u64 p0 (6148914691236517205 : Int)))) (2 ^ (min (Int.toNat (2 : Int)) 64))) (3689348814741910323 : Int)) + (andI .u64 (IntKind.u64.wrap ((andI .u64 (Int.fdiv p0 (2 ^ (min (Int.toNat (1 : Int)) 64))) (6148914691236517205 : Int)) + (andI .u64 p0 (6148914691236517205 : Int)))) (3689348814741910323 : Int)))) (2 ^ (min (Int.toNat (4 : Int)) 64))) + (IntKind.u64.wrap ((andI .u64 (Int.fdiv (IntKind.u64.wrap ((andI .u64 (Int.fdiv p0 (2 ^ (min (Int.toNat (1 : Int)) 64))) (6148914691236517205 : Int)) + (andI .u64 p0 (6148914691236517205 : Int)))) (2 ^ (min (Int.toNat (2 : Int)) 64))) (3689348814741910323 : Int)) + (andI .u64 (IntKind.u64.wrap ((andI .u64 (Int.fdiv p0 (2 ^ (min (Int.toNat (1 : Int)) 64))) (6148914691236517205 : Int)) + (andI .u64 p0 (6148914691236517205 : Int)))) (3689348814741910323 : Int)))))) (1085102592571150095 : Int)) + (Int.fdiv (andI .u64 (IntKind.u64.wrap ((Int.fdiv (IntKind.u64.wrap ((andI .u64 (Int.fdiv (IntKind.u64.wrap ((andI .u64 (Int.fdiv p0 (2 ^ (min (Int.toNat (1 : Int)) 64))) (6148914691236517205 : Int)) + (andI .u64 p0 (6148914691236517205 : Int)))) (2 ^ (min (Int.toNat (2 : Int)) 64))) (3689348814741910323 : Int)) + (andI .u64 (IntKind.u64.wrap ((andI .u64 (Int.fdiv p0 (2 ^ (min (Int.toNat (1 : Int)) 64))) (6148914691236517205 : Int)) + (andI .u64 p0 (6148914691236517205 : Int)))) (3689348814741910323 : Int)))) (2 ^ (min (Int.toNat (4 : Int)) 64))) + (IntKind.u64.wrap ((andI .u64 (Int.fdiv (IntKind.u64.wrap ((andI .u64 (Int.fdiv p0 (2 ^ (min (Int.toNat (1 : Int)) 64))) (6148914691236517205 : Int)) + (andI .u64 p0 (6148914691236517205 : Int)))) (2 ^ (min (Int.toNat (2 : Int)) 64))) (3689348814741910323 : Int)) + (andI .u64 (IntKind.u64.wrap ((andI .u64 (Int.fdiv p0 (2 ^ (min (Int.toNat (1 : Int)) 64))) (6148914691236517205 : Int)) + (andI .u64 p0 (6148914691236517205 : Int)))) (3689348814741910323 : Int)))))) (1085102592571150095 : Int)) (2 ^ (min (Int.toNat (8 : Int)) 64))))) + (Int.fdiv (IntKind.u64.wrap ((andI .u64 (IntKind.u64.wrap ((Int.fdiv (IntKind.u64.wrap ((andI .u64 (Int.fdiv (IntKind.u64.wrap ((andI .u64 (Int.fdiv p0 (2 ^ (min (Int.toNat (1 : Int)) 64))) (6148914691236517205 : Int)) + (andI .u64 p0 (6148914691236517205 : Int)))) (2 ^ (min (Int.toNat (2 : Int)) 64))) (3689348814741910323 : Int)) + (andI .u64 (IntKind.u64.wrap ((andI .u64 (Int.fdiv p0 (2 ^ (min (Int.toNat (1 : Int)) 64))) (6148914691236517205 : Int)) + (andI .u64 p0 (6148914691236517205 : Int)))) (3689348814741910323 : Int)))) (2 ^ (min (Int.toNat (4 : Int)) 64))) + (IntKind.u64.wrap ((andI .u64 (Int.fdiv (IntKind.u64.wrap ((andI .u64 (Int.fdiv p0 (2 ^ (min (Int.toNat (1 : Int)) 64))) (6148914691236517205 : Int)) + (andI .u64 p0 (6148914691236517205 : Int)))) (2 ^ (min (Int.toNat (2 : Int)) 64))) (3689348814741910323 : Int)) + (andI .u64 (IntKind.u64.wrap ((andI .u64 (Int.fdiv p0 (2 ^ (min (Int.toNat (1 : Int)) 64))) (6148914691236517205 : Int)) + (andI .u64 p0 (6148914691236517205 : Int)))) (3689348814741910323 : Int)))))) (1085102592571150095 : Int)) + (Int.fdiv (andI .u64 (IntKind.u64.wrap ((Int.fdiv (IntKind.u64.wrap ((andI .u64 (Int.fdiv (IntKind.u64.wrap ((andI .u64 (Int.fdiv p0 (2 ^ (min (Int.toNat (1 : Int)) 64))) (6148914691236517205 : Int)) + (andI .u64 p0 (6148914691236517205 : Int)))) (2 ^ (min (Int.toNat (2 : Int)) 64))) (3689348814741910323 : Int)) + (andI .u64 (IntKind.u64.wrap ((andI .u64 (Int.fdiv p0 (2 ^ (min (Int.toNat (1 : Int)) 64))) (6148914691236517205 : Int)) + (andI .u64 p0 (6148914691236517205 : Int)))) (3689348814741910323 : Int)))) (2 ^ (min (Int.toNat (4 : Int)) 64))) + (IntKind.u64.wrap ((andI .u64 (Int.fdiv (IntKind.u64.wrap ((andI .u64 (Int.fdiv p0 (2 ^ (min (Int.toNat (1 : Int)) 64))) (6148914691236517205 : Int)) + (andI .u64 p0 (6148914691236517205 : Int)))) (2 ^ (min (Int.toNat (2 : Int)) 64))) (3689348814741910323 : Int)) + (andI .u64 (IntKind.u64.wrap ((andI .u64 (Int.fdiv p0 (2 ^ (min (Int.toNat (1 : Int)) 64))) (6148914691236517205 : Int)) + (andI .u64 p0 (6148914691236517205 : Int)))) (3689348814741910323 : Int)))))) (1085102592571150095 : Int)) (2 ^ (min (Int.toNat (8 : Int)) 64))))) (2 ^ (min (Int.toNat (16 : Int)) 64))))) (2 ^ (min (Int.toNat (32 : Int)) 64)))))) (127 : Int)), ofM [], 0) := by kernel_rfl
/-! armature/bits.there -/
noncomputable def c38 (fuel g : Nat) : Ctx := ⟨tab, callOf [], (fun k => match k with | 0 => some ⟨[], [], [0]⟩ | 1 => some ⟨[], [], [2]⟩ | _ => none), (fun _ => none), (fun _ => none), ⟨[], [], [0]⟩, fuel, g, 9, 0, fun _ => []⟩
noncomputable def F38 (fuel g : Nat) (p0 : Int) : Option Out := runFn (c38 fuel g) (bodyOf Go.Proofs.Tryd.f38) [.tmp 2] [.int .i64 p0] (memOf []) outT
theorem F38_eq (fuel g : Nat) (p0 : Int) : F38 fuel g p0 = cnd (decide (p0 ≥ (0 : Int)))
  (some (.bool (decide (p0 < (128 : Int))), ofM [], 0))
  (some (.bool false, ofM [], 0)) := by kernel_rfl
/-! armature/bits.one -/
noncomputable def c39 (fuel g : Nat) (b_there : Int → Bool) : Ctx := ⟨tab, callOf [(38, e38 b_there)], (fun k => match k with | 0 => some ⟨[], [], [0, 2]⟩ | 1 => some ⟨[], [], [0, 2, 3]⟩ | 2 => some ⟨[], [], [0, 2, 3, 5]⟩ | 3 => some ⟨[], [], [2, 3]⟩ | 4 => some ⟨[], [], [2]⟩ | _ => none), (fun _ => none), (fun _ => none), ⟨[], [], [0]⟩, fuel, g, 14, 0, fun _ => []⟩
noncomputable def F39 (fuel g : Nat) (b_there : Int → Bool) (p0 : Int) : Option Out := runFn (c39 fuel g b_there) (bodyOf Go.Proofs.Tryd.f39) [.cell 2 24] [.int .i64 p0] (memOf []) outT
theorem F39_eq (fuel g : Nat) (b_there : Int → Bool) (p0 : Int) : F39 fuel g b_there p0 = cnd (b_there p0)
  (cnd (decide ((IntKind.u64.wrap (andI .i64 p0 (63 : Int))) < 0))
  none
  (cnd ((Int.fdiv p0 (2 ^ (min (Int.toNat (6 : Int)) 64))) == (0 : Int))
  (some (.agg [.int .u64 (IntKind.u64.wrap ((1 : Int) * 2 ^ (min (Int.toNat (IntKind.u64.wrap (andI .i64 p0 (63 : Int)))) 64))), .int .u64 (0 : Int)], ofM [], 0))
  (cnd ((Int.fdiv p0 (2 ^ (min (Int.toNat (6 : Int)) 64))) == (1 : Int))
  (some (.agg [.int .u64 (0 : Int), .int .u64 (IntKind.u64.wrap ((1 : Int) * 2 ^ (min (Int.toNat (IntKind.u64.wrap (andI .i64 p0 (63 : Int)))) 64)))], ofM [], 0))
  (none))))
  (some (.agg [.int .u64 (0 : Int), .int .u64 (0 : Int)], ofM [], 0)) := by kernel_rfl
end Go.Vm
