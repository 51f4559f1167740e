/- Written by a program of this session (wip/xprint.py): plain Lean functions, and that the Go functions compute them. -/
import Derived.Test.YtnjheeoogglnaaaRx0
import Derived.Test.YtnjheeoogglnaaaRx5
import Derived.Test.YtnjheeoogglnaaaRx6
import Derived.Test.YtnjheeoogglnaaaRx7
import Derived.Test.YtnjheeoogglnaaaRx8
import Derived.Test.YtnjheeoogglnaaaRsF
import Derived.Test.YtnjheeoogglnaaaRsP
import Derived.Test.YtnjheeoogglnaaaRsO
import Derived.Test.YtnjheeoogglnaaaRsA
import Derived.Test.YtnjheeoogglnaaaRsN
namespace Go.Proofs.Ytnjheeoogglnaaa.R
open Go.RowKit Go.Proofs.YtnjheeoogglnaaaW.PrintWords Go.Proofs.YtnjheeoogglnaaaW.PrintLast Go.Proofs.YtnjheeoogglnaaaW.PrintMore
attribute [local go_sem] max2_int min2_int max_two min_two max_three min_three max_four min_four   -- for this text's walks alone
set_option linter.unusedVariables false
set_option linter.unusedSimpArgs false

/-! ### scrimlaw13_ResTells: function 3 -/
def scrimlaw13_ResTells.j0 : Nat → ByteArray → Bool → List (S47) → Int → Bool → List (S47) → Int → Bool → Option (Bool)
 | 0, _, _, _, _, _, _, _, _ => none
 | k + 1, x2, x32, x149000, x149001, x149002, x150000, x150001, x150002 => if x32 = true then (some true) else ((scrimlaw13_own.f k x149000 x149001 x149002).bind fun bt151 => ((scrimlaw13_own.f k x150000 x150001 x150002).bind fun bt156 => ((res_Size.f x149000 x149001 x149002 x2).bind fun bt163 => ((scrimref13_Size.f k bt151.1 bt151.2.1 bt151.2.2 x2).bind fun bt166 => ((res_True.f x149000 x149001 x149002 x2).bind fun bt169 => ((scrimref13_True.f k bt151.1 bt151.2.1 bt151.2.2 x2).bind fun bt172 => ((res_May.f k x149000 x149001 x149002).bind fun t175 => ((scrimref13_May.f k bt151.1 bt151.2.1 bt151.2.2).bind fun t176 => (if (t175 == t176) = true then (if bt163.1 = bt166.1 then (if bt163.2.1 = bt166.2.1 then (if (bt163.2.2 == bt166.2.2) = true then (if bt169.1 = bt172.1 then (if bt169.2.1 = bt172.2.1 then (if (bt169.2.2 == bt172.2.2) = true then ((res_Advance.f x149000 x149001 x149002).bind fun t177 => ((scrimref13_Advance.f bt151.1 bt151.2.1 bt151.2.2).bind fun t178 => (if t177 = t178 then ((res_Public.f x149000 x149001 x149002).bind fun bt179 => ((scrimlaw13_own.f k bt179.1 bt179.2.1 bt179.2.2).bind fun bt184 => ((scrimref13_Public.f k bt151.1 bt151.2.1 bt151.2.2).bind fun bt189 => ((scrimref13_Same.f k bt184.1 bt184.2.1 bt184.2.2 bt189.1 bt189.2.1 bt189.2.2).bind fun t194 => (if t194 = true then ((res_Alike.f k x149000 x149001 x149002 x150000 x150001 x150002).bind fun t195 => ((scrimref13_Public.f k bt151.1 bt151.2.1 bt151.2.2).bind fun bt196 => ((scrimref13_Public.f k bt156.1 bt156.2.1 bt156.2.2).bind fun bt201 => ((scrimref13_Same.f k bt196.1 bt196.2.1 bt196.2.2 bt201.1 bt201.2.1 bt201.2.2).bind fun t206 => (some (t195 == t206)))))) else (some false)))))) else (some false)))) else (some false)) else (some false)) else (some false)) else (some false)) else (some false)) else (some false)) else (some false))))))))))
def scrimlaw13_ResTells.f (k : Nat) (l0_0 : List (S47)) (a0_1 : Int) (a0_2 : Bool) (l1_0 : List (S47)) (a1_1 : Int) (a1_2 : Bool) (a2 : ByteArray) : Option (Bool) := (scrimlaw13_awake.f).bind fun t150 => (if t150 = true then (if (l0_0.length : Int) > 100 then (scrimlaw13_ResTells.j0 k a2 true l0_0 a0_1 a0_2 l1_0 a1_1 a1_2) else (scrimlaw13_ResTells.j0 k a2 (decide ((l1_0.length : Int) > 100)) l0_0 a0_1 a0_2 l1_0 a1_1 a1_2)) else (some false))
theorem scrimlaw13_ResTells.mono_l : ∀ k, (∀ y0 y1 y2 y3 y4 y5 y6 y7, LeO (scrimlaw13_ResTells.j0 k y0 y1 y2 y3 y4 y5 y6 y7) (scrimlaw13_ResTells.j0 (k + 1) y0 y1 y2 y3 y4 y5 y6 y7))
 | 0 => fun _ _ _ _ _ _ _ _ r h => by simp [scrimlaw13_ResTells.j0] at h
 | k + 1 => by
  have ih0 := scrimlaw13_ResTells.mono_l k
  ·
   intro y0 y1 y2 y3 y4 y5 y6 y7
   unfold scrimlaw13_ResTells.j0
   repeat' first
   | (with_reducible exact ih0 _ _ _ _ _ _ _ _)
   | (with_reducible exact res_Alike.mono _ _ _ _ _ _ _)
   | (with_reducible exact res_May.mono _ _ _ _)
   | (with_reducible exact scrimlaw13_own.mono _ _ _ _)
   | (with_reducible exact scrimref13_May.mono _ _ _ _)
   | (with_reducible exact scrimref13_Public.mono _ _ _ _)
   | (with_reducible exact scrimref13_Same.mono _ _ _ _ _ _ _)
   | (with_reducible exact scrimref13_Size.mono _ _ _ _ _)
   | (with_reducible exact scrimref13_True.mono _ _ _ _ _)
   | (with_reducible exact LeO.refl _)
   | (with_reducible exact LeO.none _)
   | (with_reducible refine LeO.ite ?_ ?_)
   | (with_reducible refine LeO.bind ?_ (fun _ => ?_))
   | exact ih0 _ _ _ _ _ _ _ _
   | exact res_Alike.mono _ _ _ _ _ _ _
   | exact res_May.mono _ _ _ _
   | exact scrimlaw13_own.mono _ _ _ _
   | exact scrimref13_May.mono _ _ _ _
   | exact scrimref13_Public.mono _ _ _ _
   | exact scrimref13_Same.mono _ _ _ _ _ _ _
   | exact scrimref13_Size.mono _ _ _ _ _
   | exact scrimref13_True.mono _ _ _ _ _
   | exact LeO.none _
   | refine LeO.ite ?_ ?_
   | refine LeO.bind ?_ (fun _ => ?_)
theorem scrimlaw13_ResTells.mono : ∀ a0 a1 a2 a3 a4 a5 a6 k, LeO (scrimlaw13_ResTells.f k a0 a1 a2 a3 a4 a5 a6) (scrimlaw13_ResTells.f (k + 1) a0 a1 a2 a3 a4 a5 a6) := by
 intro a0 a1 a2 a3 a4 a5 a6 k
 have ih0 := scrimlaw13_ResTells.mono_l k
 unfold scrimlaw13_ResTells.f
 repeat' first
   | (with_reducible exact ih0 _ _ _ _ _ _ _ _)
   | (with_reducible exact res_Alike.mono _ _ _ _ _ _ _)
   | (with_reducible exact res_May.mono _ _ _ _)
   | (with_reducible exact scrimlaw13_own.mono _ _ _ _)
   | (with_reducible exact scrimref13_May.mono _ _ _ _)
   | (with_reducible exact scrimref13_Public.mono _ _ _ _)
   | (with_reducible exact scrimref13_Same.mono _ _ _ _ _ _ _)
   | (with_reducible exact scrimref13_Size.mono _ _ _ _ _)
   | (with_reducible exact scrimref13_True.mono _ _ _ _ _)
   | (with_reducible exact LeO.refl _)
   | (with_reducible exact LeO.none _)
   | (with_reducible refine LeO.ite ?_ ?_)
   | (with_reducible refine LeO.bind ?_ (fun _ => ?_))
   | exact ih0 _ _ _ _ _ _ _ _
   | exact res_Alike.mono _ _ _ _ _ _ _
   | exact res_May.mono _ _ _ _
   | exact scrimlaw13_own.mono _ _ _ _
   | exact scrimref13_May.mono _ _ _ _
   | exact scrimref13_Public.mono _ _ _ _
   | exact scrimref13_Same.mono _ _ _ _ _ _ _
   | exact scrimref13_Size.mono _ _ _ _ _
   | exact scrimref13_True.mono _ _ _ _ _
   | exact LeO.none _
   | refine LeO.ite ?_ ?_
   | refine LeO.bind ?_ (fun _ => ?_)
def scrimlaw13_ResTells.T5 : Bool × List (List Nat × List Nat) := (true, [([], []), ([0], [0]), ([], []), ([2, 1], [2]), ([], []), ([], []), ([4, 1, 3, 0, 1, 4, 5], [1, 4]), ([5, 3, 6, 0, 1, 2, 3, 4, 5, 6], [3, 5])])
def scrimlaw13_ResTells.B5 : List Nat := [0, 1, 0, 7, 0, 0, 63, 127]
theorem scrimlaw13_ResTells.tab5 : rtab .any (opsOf Try.f3 5) = scrimlaw13_ResTells.T5 := by kernel_rfl
theorem scrimlaw13_ResTells.bits5 : waitsOk scrimlaw13_ResTells.T5.2 scrimlaw13_ResTells.B5 = true := by kernel_rfl
def scrimlaw13_ResTells.T10 : Bool × List (List Nat × List Nat) := (true, [([], []), ([0], [0]), ([], []), ([2, 1], [2]), ([1, 3], [1, 3]), ([4, 3], [4]), ([5], [5]), ([5], [5]), ([6, 7, 5], [5, 6, 7]), ([5, 8], [5, 8]), ([9, 5], [9]), ([10], [10]), ([10], [10]), ([11, 12, 10], [10, 11, 12]), ([10, 13], [10, 13]), ([14, 10], [14]), ([15], [15]), ([15], [15]), ([16, 17, 15], [15, 16, 17]), ([15, 18], [15, 18]), ([19, 15], [19]), ([20], [20]), ([20], [20]), ([21, 22, 20], [20, 21, 22]), ([20, 23], [20, 23]), ([24, 20], [24]), ([25], [25]), ([25], [25]), ([26, 27, 25], [25, 26, 27]), ([25, 28], [25, 28]), ([29, 25], [29]), ([30], [30]), ([30], [30]), ([31, 32, 30], [30, 31, 32]), ([30, 33], [30, 33]), ([34, 30], [34]), ([35], [35]), ([36, 35, 35], [35, 36]), ([35], [35]), ([38, 37, 35], [35, 38]), ([37, 39, 35], [35, 37, 39]), ([35, 40], [35, 40]), ([41, 39], [41]), ([42], [42]), ([43, 42, 42], [42, 43]), ([44, 44, 42], [42, 44]), ([42], [42]), ([46, 45, 42], [42, 46]), ([45, 47, 47, 42], [42, 45, 47]), ([42, 48], [42, 48]), ([49, 48], [49]), ([50], [50]), ([50], [50]), ([51, 52, 50, 50], [50, 51, 52]), ([50], [50]), ([54, 53, 50], [50, 54]), ([50], [50]), ([56, 55, 50], [50, 56]), ([55, 57, 57, 50], [50, 55, 57]), ([53, 58, 50], [50, 53, 58]), ([50, 59], [50, 59]), ([60, 58, 0, 1, 2, 3, 4, 5, 6, 7, 8, 9, 10, 11, 12, 13, 14, 15, 16, 17, 18, 19, 20, 21, 22, 23, 24, 25, 26, 27, 28, 29, 30, 31, 32, 33, 34, 35, 36, 37, 38, 39, 40, 41, 42, 43, 44, 45, 46, 47, 48, 49, 50, 51, 52, 53, 54, 55, 56, 57, 58, 59, 60], [60])])
def scrimlaw13_ResTells.B10 : List Nat := [0, 1, 0, 7, 15, 31, 63, 63, 255, 511, 1023, 2047, 2047, 8191, 16383, 32767, 65535, 65535, 262143, 524287, 1048575, 2097151, 2097151, 8388607, 16777215, 33554431, 67108863, 67108863, 268435455, 536870911, 1073741823, 2147483647, 2147483647, 8589934591, 17179869183, 34359738367, 68719476735, 137438953471, 68719476735, 549755813887, 1099511627775, 2199023255551, 4398046511103, 8796093022207, 17592186044415, 35184372088831, 8796093022207, 140737488355327, 281474976710655, 562949953421311, 1125899906842623, 2251799813685247, 2251799813685247, 9007199254740991, 2251799813685247, 36028797018963967, 2251799813685247, 144115188075855871, 288230376151711743, 576460752303423487, 1152921504606846975, 2305843009213693951]
theorem scrimlaw13_ResTells.tab10 : rtab .any (opsOf Try.f3 10) = scrimlaw13_ResTells.T10 := by kernel_rfl
theorem scrimlaw13_ResTells.bits10 : waitsOk scrimlaw13_ResTells.T10.2 scrimlaw13_ResTells.B10 = true := by kernel_rfl
end Go.Proofs.Ytnjheeoogglnaaa.R
