/- What the functions that the law reaches answer, each as a plain Lean function, with a proof that the call in memory comes to that answer. Written by wip/tools/given.py of this session out of the print.py of the kit, with stand-ins for some functions. -/
import Derived.Test.YtacncgpnimdfbaaPPipeCountsx0
import Derived.Test.YtacncgpnimdfbaaPPipeCountsx2
import Derived.Test.YtacncgpnimdfbaaPPipeCountsx3
import Derived.Test.YtacncgpnimdfbaaPPipeCountsx4
import Derived.Test.YtacncgpnimdfbaaPPipeCountsx5
namespace Go.Proofs.Ytacncgpnimdfbaa.PPipeCounts
open Go.RowKit Go.Proofs.YtacncgpnimdfbaaW.PrintWords Go.Proofs.YtacncgpnimdfbaaW.PrintLast Go.Proofs.YtacncgpnimdfbaaW.PrintMore
attribute [local go_sem] max2_int min2_int max_two min_two max_three min_three max_four min_four   -- for this text's walks alone
set_option linter.unusedVariables false
set_option linter.unusedSimpArgs false

attribute [local go_sem high] eqA36
/-! ### hopperlaw08_PipeCounts: function 5 -/
def hopperlaw08_PipeCounts.j0 : Nat → Int → Int → Bool → Int → Bool → List (S26) → Int → Bool → List (S36) → Int → Int → ByteArray → Int → Bool → List (S36) → Option (Bool)
  | 0, _, _, _, _, _, _, _, _, _, _, _, _, _, _, _ => none
  | k + 1, x9, x13, x77, x279000, x279001, x279002, x309000, x309001, x309002, x310000, x310001, x310002, x322000, x322001, x322002 => if x77 = true then (some false) else (if x9 = 0 then (if (x279002.length : Int) = 0 then (some false) else (if (x309002.length : Int) = (wrap64 ((x279002.length : Int) - 1)) then (if 0 < (x279002.length : Int) then (if (!(x310000 == ((rd_T26 x279002 0).f0)) || (!(x310001 == ((rd_T26 x279002 0).f1)) || (!(x310002.toList == (((rd_T26 x279002 0).f2).toList))))) = true then (some false) else (if x13 = 8 then (if x322001 = true then (if (x322002.length : Int) = (x279002.length : Int) then ((hopperlaw08_live.f).bind fun t337 => (some t337)) else (some false)) else (some false)) else (some false))) else (none)) else (some false))) else ((hopperlaw08_told.f k x309000 x309001 x309002).bind fun bt338 => ((hopperref08_Same.f k bt338.1 bt338.2.1 bt338.2.2 x279000 x279001 x279002).bind fun t343 => (if t343 = true then (if x13 = 8 then (if x322001 = true then (if (x322002.length : Int) = (x279002.length : Int) then ((hopperlaw08_live.f).bind fun t344 => (some t344)) else (some false)) else (some false)) else (some false)) else (some false)))))
def hopperlaw08_PipeCounts.f (k : Nat) (a0_0 : Int) (a0_1 : Bool) (l0_2 : List (S26)) (a1_0 : Int) (a1_1 : Int) (a1_2 : ByteArray) : Option (Bool) := (hopperref08_Small.f a0_0 a0_1 l0_2).bind fun t280 => (if t280 = true then ((hopperlaw08_own.f k a0_0 a0_1 l0_2).bind fun bt282 => ((pipe_Pipe_Send.f bt282.1 bt282.2.1 bt282.2.2 a1_0 a1_1 a1_2).bind fun bt287 => ((hopperlaw08_own.f k a0_0 a0_1 l0_2).bind fun bt294 => ((pipe_Pipe_Take.f bt294.1 bt294.2.1 bt294.2.2).bind fun bt299 => ((hopperlaw08_own.f k a0_0 a0_1 l0_2).bind fun bt310 => ((pipe_Pipe_Close.f bt310.1 bt310.2.1 bt310.2.2).bind fun bt315 => ((pipe_Pipe_Send.f bt315.1 bt315.2.1 bt315.2.2.1 a1_0 a1_1 a1_2).bind fun bt322 => (if bt287.2.2.2 = 0 then (if (bt287.2.2.1.length : Int) = (wrap64 ((l0_2.length : Int) + 1)) then (if 0 ≤ (l0_2.length : Int) then (if (l0_2.length : Int) < (bt287.2.2.1.length : Int) then (if (!(((rd_T36 bt287.2.2.1 (l0_2.length : Int)).f0) == a1_0) || (!(((rd_T36 bt287.2.2.1 (l0_2.length : Int)).f1) == a1_1) || (!((((rd_T36 bt287.2.2.1 (l0_2.length : Int)).f2).toList) == a1_2.toList)))) = true then (hopperlaw08_PipeCounts.j0 k bt299.2.2.2.2.2.2 bt322.2.2.2 true a0_0 a0_1 l0_2 bt299.1 bt299.2.1 bt299.2.2.1 bt299.2.2.2.1 bt299.2.2.2.2.1 bt299.2.2.2.2.2.1 bt315.1 bt315.2.1 bt315.2.2.1) else (hopperlaw08_PipeCounts.j0 k bt299.2.2.2.2.2.2 bt322.2.2.2 false a0_0 a0_1 l0_2 bt299.1 bt299.2.1 bt299.2.2.1 bt299.2.2.2.1 bt299.2.2.2.2.1 bt299.2.2.2.2.2.1 bt315.1 bt315.2.1 bt315.2.2.1)) else (none)) else (none)) else (hopperlaw08_PipeCounts.j0 k bt299.2.2.2.2.2.2 bt322.2.2.2 true a0_0 a0_1 l0_2 bt299.1 bt299.2.1 bt299.2.2.1 bt299.2.2.2.1 bt299.2.2.2.2.1 bt299.2.2.2.2.2.1 bt315.1 bt315.2.1 bt315.2.2.1)) else ((hopperlaw08_told.f k bt287.1 bt287.2.1 bt287.2.2.1).bind fun bt330 => ((hopperref08_Same.f k bt330.1 bt330.2.1 bt330.2.2 a0_0 a0_1 l0_2).bind fun t335 => (hopperlaw08_PipeCounts.j0 k bt299.2.2.2.2.2.2 bt322.2.2.2 (!t335) a0_0 a0_1 l0_2 bt299.1 bt299.2.1 bt299.2.2.1 bt299.2.2.2.1 bt299.2.2.2.2.1 bt299.2.2.2.2.2.1 bt315.1 bt315.2.1 bt315.2.2.1))))))))))) else ((hopperlaw08_live.f).bind fun t281 => (some t281)))
theorem hopperlaw08_PipeCounts.mono_l : ∀ k, (∀ y0 y1 y2 y3 y4 y5 y6 y7 y8 y9 y10 y11 y12 y13 y14, LeO (hopperlaw08_PipeCounts.j0 k y0 y1 y2 y3 y4 y5 y6 y7 y8 y9 y10 y11 y12 y13 y14) (hopperlaw08_PipeCounts.j0 (k + 1) y0 y1 y2 y3 y4 y5 y6 y7 y8 y9 y10 y11 y12 y13 y14))
  | 0 => fun _ _ _ _ _ _ _ _ _ _ _ _ _ _ _ r h => by simp [hopperlaw08_PipeCounts.j0] at h
  | k + 1 => by
    have ih0 := hopperlaw08_PipeCounts.mono_l k
    · intro y0 y1 y2 y3 y4 y5 y6 y7 y8 y9 y10 y11 y12 y13 y14
      unfold hopperlaw08_PipeCounts.j0
      repeat' first
      | (with_reducible exact ih0 _ _ _ _ _ _ _ _ _ _ _ _ _ _ _)
      | (with_reducible exact hopperlaw08_own.mono _ _ _ _)
      | (with_reducible exact hopperlaw08_told.mono _ _ _ _)
      | (with_reducible exact hopperref08_Same.mono _ _ _ _ _ _ _)
      | (with_reducible exact LeO.refl _)
      | (with_reducible exact LeO.none _)
      | (with_reducible refine LeO.ite ?_ ?_)
      | (with_reducible refine LeO.bind ?_ (fun _ => ?_))
      | exact ih0 _ _ _ _ _ _ _ _ _ _ _ _ _ _ _
      | exact hopperlaw08_own.mono _ _ _ _
      | exact hopperlaw08_told.mono _ _ _ _
      | exact hopperref08_Same.mono _ _ _ _ _ _ _
      | exact LeO.none _
      | refine LeO.ite ?_ ?_
      | refine LeO.bind ?_ (fun _ => ?_)
theorem hopperlaw08_PipeCounts.mono : ∀ a0 a1 a2 a3 a4 a5 k, LeO (hopperlaw08_PipeCounts.f k a0 a1 a2 a3 a4 a5) (hopperlaw08_PipeCounts.f (k + 1) a0 a1 a2 a3 a4 a5) := by
  intro a0 a1 a2 a3 a4 a5 k
  have ih0 := hopperlaw08_PipeCounts.mono_l k
  unfold hopperlaw08_PipeCounts.f
  repeat' first
      | (with_reducible exact ih0 _ _ _ _ _ _ _ _ _ _ _ _ _ _ _)
      | (with_reducible exact hopperlaw08_own.mono _ _ _ _)
      | (with_reducible exact hopperlaw08_told.mono _ _ _ _)
      | (with_reducible exact hopperref08_Same.mono _ _ _ _ _ _ _)
      | (with_reducible exact LeO.refl _)
      | (with_reducible exact LeO.none _)
      | (with_reducible refine LeO.ite ?_ ?_)
      | (with_reducible refine LeO.bind ?_ (fun _ => ?_))
      | exact ih0 _ _ _ _ _ _ _ _ _ _ _ _ _ _ _
      | exact hopperlaw08_own.mono _ _ _ _
      | exact hopperlaw08_told.mono _ _ _ _
      | exact hopperref08_Same.mono _ _ _ _ _ _ _
      | exact LeO.none _
      | refine LeO.ite ?_ ?_
      | refine LeO.bind ?_ (fun _ => ?_)
def hopperlaw08_PipeCounts.T3 : Bool × List (List Nat × List Nat) := (true, [([], []), ([0], [0]), ([], []), ([1, 2, 1], [1, 2]), ([3], [3]), ([4], [4]), ([4], [4]), ([], []), ([7, 5, 3, 0, 1, 2, 3, 4, 5, 7], [5, 7]), ([6, 8, 0, 1, 2, 3, 4, 5, 6, 7, 8], [6])])
def hopperlaw08_PipeCounts.B3 : List Nat := [0, 1, 0, 7, 15, 31, 31, 0, 191, 511]
theorem hopperlaw08_PipeCounts.tab3 : rtab .any (opsOf Try.f5 3) = hopperlaw08_PipeCounts.T3 := by kernel_rfl
theorem hopperlaw08_PipeCounts.bits3 : waitsOk hopperlaw08_PipeCounts.T3.2 hopperlaw08_PipeCounts.B3 = true := by kernel_rfl
def hopperlaw08_PipeCounts.T7 : Bool × List (List Nat × List Nat) := (true, [([], []), ([0], [0]), ([1], [1]), ([2], [2]), ([3, 2], [2, 3]), ([4, 2], [2, 4]), ([2], [2]), ([6, 2], [2, 6]), ([7, 2], [2, 7]), ([8, 2], [2, 8]), ([5, 9, 2], [2, 5, 9]), ([10, 2, 2], [2, 10]), ([11], [11]), ([12, 11], [11, 12]), ([11], [11]), ([14, 11], [11, 14]), ([15, 11], [11, 15]), ([13, 16, 11], [11, 13, 16]), ([17, 11], [11, 17]), ([11], [11]), ([18, 19, 11], [11, 18, 19]), ([11, 20, 2], [2, 11, 20]), ([2, 21], [2, 21]), ([22, 11], [22]), ([23], [23]), ([24, 23], [23, 24]), ([25, 23, 23], [23, 25]), ([26], [26]), ([27, 26, 26], [26, 27]), ([26], [26]), ([28, 29, 28, 26], [26, 28, 29]), ([30, 26], [26, 30]), ([26, 31, 23], [23, 26, 31]), ([23, 32], [23, 32])])
def hopperlaw08_PipeCounts.B7 : List Nat := [0, 1, 3, 7, 15, 31, 7, 71, 199, 455, 1023, 2047, 4095, 8191, 4095, 20479, 53247, 131071, 262143, 4095, 1048575, 2097151, 4194303, 8388607, 16777215, 33554431, 67108863, 134217727, 268435455, 134217727, 1073741823, 2147483647, 4294967295, 8589934591]
theorem hopperlaw08_PipeCounts.tab7 : rtab .any (opsOf Try.f5 7) = hopperlaw08_PipeCounts.T7 := by kernel_rfl
theorem hopperlaw08_PipeCounts.bits7 : waitsOk hopperlaw08_PipeCounts.T7.2 hopperlaw08_PipeCounts.B7 = true := by kernel_rfl
def hopperlaw08_PipeCounts.T9 : Bool × List (List Nat × List Nat) := (true, [([], []), ([0], [0]), ([1], [1]), ([2], [2]), ([3, 2], [2, 3]), ([4, 2], [2, 4]), ([5, 2], [2, 5]), ([6, 2, 2], [2, 6]), ([7], [7]), ([8, 7], [7, 8]), ([9, 7], [7, 9]), ([7], [7]), ([11, 7], [7, 11]), ([12, 7], [7, 12]), ([13, 7], [7, 13]), ([10, 14, 7], [7, 10, 14]), ([7, 15, 2], [2, 7, 15]), ([16, 7, 2], [2, 16]), ([17], [17]), ([17], [17]), ([19, 17], [17, 19]), ([20, 17], [17, 20]), ([21, 17], [17, 21]), ([18, 22, 17], [17, 18, 22]), ([17, 23, 2], [2, 17, 23]), ([2, 24], [2, 24]), ([25, 17], [25]), ([26], [26]), ([27, 26], [26, 27]), ([28, 26, 26], [26, 28]), ([29], [29]), ([30, 29, 29], [29, 30]), ([29], [29]), ([31, 32, 31, 29], [29, 31, 32]), ([33, 29], [29, 33]), ([29, 34, 26], [26, 29, 34]), ([26, 35], [26, 35])])
def hopperlaw08_PipeCounts.B9 : List Nat := [0, 1, 3, 7, 15, 31, 63, 127, 255, 511, 1023, 255, 2303, 6399, 14591, 32767, 65535, 131071, 262143, 262143, 786431, 1835007, 3932159, 8388607, 16777215, 33554431, 67108863, 134217727, 268435455, 536870911, 1073741823, 2147483647, 1073741823, 8589934591, 17179869183, 34359738367, 68719476735]
theorem hopperlaw08_PipeCounts.tab9 : rtab .any (opsOf Try.f5 9) = hopperlaw08_PipeCounts.T9 := by kernel_rfl
theorem hopperlaw08_PipeCounts.bits9 : waitsOk hopperlaw08_PipeCounts.T9.2 hopperlaw08_PipeCounts.B9 = true := by kernel_rfl
attribute [local go_sem] joined_ite
set_option maxHeartbeats 60000000 in
set_option maxRecDepth 100000 in
theorem hopperlaw08_PipeCounts.callsT (k : Nat) (a0_0 : Int) (a0_1 : Bool) (A0_2 : Option Addr) (c0_2 : Nat) (l0_2 : List (S26)) (a1_0 : Int) (a1_1 : Int) (a1_2 : ByteArray) (w : World) (hr0_2 : Kd.C k26 w A0_2 l0_2.length l0_2) (hc0_2 : l0_2.length ≤ c0_2) (h : hopperlaw08_PipeCounts.f k a0_0 a0_1 l0_2 a1_0 a1_1 a1_2 = some true) :
    Calls Try.prog 5 #[.agg #[.int .i64 a0_0, .bool a0_1, .slice A0_2 l0_2.length c0_2], .agg #[.int .i64 a1_0, .int .i64 a1_1, .string a1_2]] w fun e w' => e = .returned (.bool true) ∧ Below w.heap.size w w' := by
  have hu24 := Try.underlying24
  have hu26 := Try.underlying26
  have hu31 := Try.underlying31
  have hu36 := Try.underlying36
  have HR0_2 := Aside0.mk hr0_2
  have HC0_2 := Aside0.mk hc0_2
  clear hr0_2 hc0_2
  have HB := Aside0.mk (Below.refl w.heap.size w)
  have H : ((hopperref08_Small.f a0_0 a0_1 l0_2).bind fun t280 => (if t280 = true then ((hopperlaw08_own.f k a0_0 a0_1 l0_2).bind fun bt282 => ((pipe_Pipe_Send.f bt282.1 bt282.2.1 bt282.2.2 a1_0 a1_1 a1_2).bind fun bt287 => ((hopperlaw08_own.f k a0_0 a0_1 l0_2).bind fun bt294 => ((pipe_Pipe_Take.f bt294.1 bt294.2.1 bt294.2.2).bind fun bt299 => ((hopperlaw08_own.f k a0_0 a0_1 l0_2).bind fun bt310 => ((pipe_Pipe_Close.f bt310.1 bt310.2.1 bt310.2.2).bind fun bt315 => ((pipe_Pipe_Send.f bt315.1 bt315.2.1 bt315.2.2.1 a1_0 a1_1 a1_2).bind fun bt322 => (if bt287.2.2.2 = 0 then (if (bt287.2.2.1.length : Int) = (wrap64 ((l0_2.length : Int) + 1)) then (if 0 ≤ (l0_2.length : Int) then (if (l0_2.length : Int) < (bt287.2.2.1.length : Int) then (if (!(((rd_T36 bt287.2.2.1 (l0_2.length : Int)).f0) == a1_0) || (!(((rd_T36 bt287.2.2.1 (l0_2.length : Int)).f1) == a1_1) || (!((((rd_T36 bt287.2.2.1 (l0_2.length : Int)).f2).toList) == a1_2.toList)))) = true then (hopperlaw08_PipeCounts.j0 k bt299.2.2.2.2.2.2 bt322.2.2.2 true a0_0 a0_1 l0_2 bt299.1 bt299.2.1 bt299.2.2.1 bt299.2.2.2.1 bt299.2.2.2.2.1 bt299.2.2.2.2.2.1 bt315.1 bt315.2.1 bt315.2.2.1) else (hopperlaw08_PipeCounts.j0 k bt299.2.2.2.2.2.2 bt322.2.2.2 false a0_0 a0_1 l0_2 bt299.1 bt299.2.1 bt299.2.2.1 bt299.2.2.2.1 bt299.2.2.2.2.1 bt299.2.2.2.2.2.1 bt315.1 bt315.2.1 bt315.2.2.1)) else (none)) else (none)) else (hopperlaw08_PipeCounts.j0 k bt299.2.2.2.2.2.2 bt322.2.2.2 true a0_0 a0_1 l0_2 bt299.1 bt299.2.1 bt299.2.2.1 bt299.2.2.2.1 bt299.2.2.2.2.1 bt299.2.2.2.2.2.1 bt315.1 bt315.2.1 bt315.2.2.1)) else ((hopperlaw08_told.f k bt287.1 bt287.2.1 bt287.2.2.1).bind fun bt330 => ((hopperref08_Same.f k bt330.1 bt330.2.1 bt330.2.2 a0_0 a0_1 l0_2).bind fun t335 => (hopperlaw08_PipeCounts.j0 k bt299.2.2.2.2.2.2 bt322.2.2.2 (!t335) a0_0 a0_1 l0_2 bt299.1 bt299.2.1 bt299.2.2.1 bt299.2.2.2.1 bt299.2.2.2.2.1 bt299.2.2.2.2.2.1 bt315.1 bt315.2.1 bt315.2.2.1))))))))))) else ((hopperlaw08_live.f).bind fun t281 => (some t281)))) = some true := h
  clear h
  replace H := Option.bind_eq_some_iff.mp H
  obtain ⟨t280, A30, H⟩ := H
  try dsimp only at H
  have A3 := Aside0.mk A30
  clear A30
  by_cases c4 : t280 = true
  · subst c4
    have H1 : ((hopperlaw08_own.f k a0_0 a0_1 l0_2).bind fun bt282 => ((pipe_Pipe_Send.f bt282.1 bt282.2.1 bt282.2.2 a1_0 a1_1 a1_2).bind fun bt287 => ((hopperlaw08_own.f k a0_0 a0_1 l0_2).bind fun bt294 => ((pipe_Pipe_Take.f bt294.1 bt294.2.1 bt294.2.2).bind fun bt299 => ((hopperlaw08_own.f k a0_0 a0_1 l0_2).bind fun bt310 => ((pipe_Pipe_Close.f bt310.1 bt310.2.1 bt310.2.2).bind fun bt315 => ((pipe_Pipe_Send.f bt315.1 bt315.2.1 bt315.2.2.1 a1_0 a1_1 a1_2).bind fun bt322 => (if bt287.2.2.2 = 0 then (if (bt287.2.2.1.length : Int) = (wrap64 ((l0_2.length : Int) + 1)) then (if 0 ≤ (l0_2.length : Int) then (if (l0_2.length : Int) < (bt287.2.2.1.length : Int) then (if (!(((rd_T36 bt287.2.2.1 (l0_2.length : Int)).f0) == a1_0) || (!(((rd_T36 bt287.2.2.1 (l0_2.length : Int)).f1) == a1_1) || (!((((rd_T36 bt287.2.2.1 (l0_2.length : Int)).f2).toList) == a1_2.toList)))) = true then (hopperlaw08_PipeCounts.j0 k bt299.2.2.2.2.2.2 bt322.2.2.2 true a0_0 a0_1 l0_2 bt299.1 bt299.2.1 bt299.2.2.1 bt299.2.2.2.1 bt299.2.2.2.2.1 bt299.2.2.2.2.2.1 bt315.1 bt315.2.1 bt315.2.2.1) else (hopperlaw08_PipeCounts.j0 k bt299.2.2.2.2.2.2 bt322.2.2.2 false a0_0 a0_1 l0_2 bt299.1 bt299.2.1 bt299.2.2.1 bt299.2.2.2.1 bt299.2.2.2.2.1 bt299.2.2.2.2.2.1 bt315.1 bt315.2.1 bt315.2.2.1)) else (none)) else (none)) else (hopperlaw08_PipeCounts.j0 k bt299.2.2.2.2.2.2 bt322.2.2.2 true a0_0 a0_1 l0_2 bt299.1 bt299.2.1 bt299.2.2.1 bt299.2.2.2.1 bt299.2.2.2.2.1 bt299.2.2.2.2.2.1 bt315.1 bt315.2.1 bt315.2.2.1)) else ((hopperlaw08_told.f k bt287.1 bt287.2.1 bt287.2.2.1).bind fun bt330 => ((hopperref08_Same.f k bt330.1 bt330.2.1 bt330.2.2 a0_0 a0_1 l0_2).bind fun t335 => (hopperlaw08_PipeCounts.j0 k bt299.2.2.2.2.2.2 bt322.2.2.2 (!t335) a0_0 a0_1 l0_2 bt299.1 bt299.2.1 bt299.2.2.1 bt299.2.2.2.1 bt299.2.2.2.2.1 bt299.2.2.2.2.2.1 bt315.1 bt315.2.1 bt315.2.2.1))))))))))) = some true := by rw [if_pos rfl] at H; exact H
    clear H
    have H := H1
    clear H1
    replace H := Option.bind_eq_some_iff.mp H
    obtain ⟨⟨t282, t283, t284⟩, A50, H⟩ := H
    try dsimp only at H
    have A5 := Aside0.mk A50
    clear A50
    replace H := Option.bind_eq_some_iff.mp H
    obtain ⟨⟨t287, t288, t289, t292⟩, A60, H⟩ := H
    try dsimp only at H
    have A6 := Aside0.mk A60
    clear A60
    replace H := Option.bind_eq_some_iff.mp H
    obtain ⟨⟨t294, t295, t296⟩, A70, H⟩ := H
    try dsimp only at H
    have A7 := Aside0.mk A70
    clear A70
    replace H := Option.bind_eq_some_iff.mp H
    obtain ⟨⟨t299, t300, t301, t304, t305, t306, t307⟩, A80, H⟩ := H
    try dsimp only at H
    have A8 := Aside0.mk A80
    clear A80
    replace H := Option.bind_eq_some_iff.mp H
    obtain ⟨⟨t310, t311, t312⟩, A90, H⟩ := H
    try dsimp only at H
    have A9 := Aside0.mk A90
    clear A90
    replace H := Option.bind_eq_some_iff.mp H
    obtain ⟨⟨t315, t316, t317, t320⟩, A100, H⟩ := H
    try dsimp only at H
    have A10 := Aside0.mk A100
    clear A100
    replace H := Option.bind_eq_some_iff.mp H
    obtain ⟨⟨t322, t323, t324, t327⟩, A110, H⟩ := H
    try dsimp only at H
    have A11 := Aside0.mk A110
    clear A110
    have HC12 := Aside0.mk H
    clear H
    go_enter Try.func5, Try.ntmps5
    try go_wp2_with (first | ((with_reducible refine gate_dst (N := 2) rfl ?_); (try (refine gate_guard (by rfl) ?_; dsimp only)); refine box_event ?hg (N := 2) ?hd (cs := #[.int .i64 a0_0, .bool a0_1, .slice A0_2 l0_2.length c0_2]) (t := 24) ?hr ?_; (case hd => rfl); (case hg => rfl); (case hr => first | (go_simp; done) | (go_simp; rfl)); intro gb278 hg w13 hbox hb; have BK278 := Aside0.mk (hbox); have GE278 := Aside0.mk (ge1 hg (LA HB.out)); replace HB := Aside0.mk (below_step (LA HB.out) hb); clear hb hbox hg) | ((with_reducible refine gate_dst (N := 3) rfl ?_); (try (refine gate_guard (by rfl) ?_; dsimp only)); refine box_event ?hg (N := 3) ?hd (cs := #[.int .i64 a1_0, .int .i64 a1_1, .string a1_2]) (t := 26) ?hr ?_; (case hd => rfl); (case hg => rfl); (case hr => first | (go_simp; done) | (go_simp; rfl)); intro gb279 hg w14 hbox hb; have BK279 := Aside0.mk (hbox); have GE279 := Aside0.mk (ge1 hg (LA HB.out)); replace HB := Aside0.mk (below_step (LA HB.out) hb); have NB278_279 := Aside0.mk ((by rw [hg]; exact Nat.ne_of_lt (blk_lt (g := gb278) (o := .cells #[.int .i64 a0_0, .bool a0_1, .slice A0_2 l0_2.length c0_2] 24 (0, 0)) (BA BK278.out)) : gb278 ≠ gb279)); have NB279_278 := Aside0.mk ((by rw [hg]; exact Nat.ne_of_gt (blk_lt (g := gb278) (o := .cells #[.int .i64 a0_0, .bool a0_1, .slice A0_2 l0_2.length c0_2] 24 (0, 0)) (BA BK278.out)) : gb279 ≠ gb278)); replace BK278 := Aside0.mk (blk_below (BA BK278.out) hb); clear hb hbox hg; have hnb15 := NB278_279.out; have hnc15 := NB279_278.out; obtain ⟨hcz16_0, hcz16_1, hcz16_2, hfz16_0, hfz16_1, hfz16_2⟩ := cz3 BK278.out) | ((with_reducible refine gate_callee (f := 7) rfl ?_); refine goesL_ (some 15) rfl rfl Try.func7 (by kernel_rfl) rfl #[.agg #[.int .i64 a0_0, .bool a0_1, .slice A0_2 l0_2.length c0_2]] rfl (by (try simp only [List.map_toArray, List.map_cons, List.map_nil]); first | done | rfl | (simp only [List.length_drop, List.length_take]; rfl)) ?_; (with_reducible refine (hopperref08_Small.calls a0_0 a0_1 _ _ l0_2 true _ ?side1 ?side2 A3.out).mono ?_); (case side1 => exact Kd.CA (Kd.C_below HR0_2.out HB.out)); (case side2 => exact HC0_2.out); rintro e w17 ⟨rfl, hb⟩; refine ⟨_, rfl, ?_⟩; replace BK278 := Aside0.mk (blk_below (BA BK278.out) hb); replace BK279 := Aside0.mk (blk_below (BA BK279.out) hb); replace HB := Aside0.mk (below_step (LA HB.out) hb); (try clear hb); (try clear hb2); (try clear hk); (try clear hi)))
    have n0_ := Aside0.mk (blk_drew BK278.out)
    have n1_ := Aside0.mk (blk_drew BK279.out)
    have n2_ := Aside0.mk (below_drew1 HB.out)
    clear BK278
    clear BK279
    clear HB
    have BK278 := n0_
    have BK279 := n1_
    have HB := n2_
    clear n0_ n1_ n2_
    refine start_ (n := 10) (S := fun w' => w'.cell? ⟨gb278, 0, none⟩ = some (.int .i64 a0_0) ∧ w'.cell? ⟨gb278, 1, none⟩ = some (.bool a0_1) ∧ w'.cell? ⟨gb278, 2, none⟩ = some (.slice A0_2 l0_2.length c0_2) ∧ w'.cell? ⟨gb279, 0, none⟩ = some (.int .i64 a1_0) ∧ w'.cell? ⟨gb279, 1, none⟩ = some (.int .i64 a1_1) ∧ w'.cell? ⟨gb279, 2, none⟩ = some (.string a1_2)) (ds := []) (tf 0 10) (by kernel_rfl) rfl rfl ⟨(blk_cell BK278.out 0).trans rfl, (blk_cell BK278.out 1).trans rfl, (blk_cell BK278.out 2).trans rfl, (blk_cell BK279.out 0).trans rfl, (blk_cell BK279.out 1).trans rfl, (blk_cell BK279.out 2).trans rfl⟩ (fun hHeld => ?_); refine with_tabW hopperlaw08_PipeCounts.tab3 hopperlaw08_PipeCounts.bits3 (fun HT_ HW_ => ?_)
    generalize w17.drew = w18 at BK278 BK279 HB hHeld ⊢
    refine take_ (i := 0) (N := some 19) (v := ?_) (a' := ?_) (tf 1 10) rfl rfl (take_ofW HT_.out HW_.out (by kernel_rfl)) (fun _ _ _ h => h) (Or.inl ⟨by rfl, ?_⟩) hHeld ?_ ?_
    rotate_left
    · rintro w' ⟨s0, s1, s2, s3, s4, s5⟩
      go_simp
      with_reducible rfl
    rotate_left
    · simp only [Act.put, PU, i64_w, i32_w]
      rfl
    refine take_ (i := 2) (N := some 21) (v := ?_) (a' := ?_) #[true, false, true, false, false, false, false, false, false, false] rfl rfl (take_ofW HT_.out HW_.out (by kernel_rfl)) (fun _ _ _ h => h) (Or.inl ⟨by rfl, ?_⟩) hHeld ?_ ?_
    rotate_left
    · rintro w' ⟨s0, s1, s2, s3, s4, s5⟩
      go_simp
      with_reducible rfl
    rotate_left
    · simp only [Act.put, PU, i64_w, i32_w]
      rfl
    refine join_ (σ := Value × Value × Nat) 2 (tf 8 10) (fun s_ => [(20, .agg #[.int .i64 t282, .bool t283, s_.1]), (22, .tuple #[.agg #[.int .i64 t287, .bool t288, s_.2.1], .int .i64 t292]), (5, .pointer (some ⟨s_.2.2, 0, none⟩)), (18, .tuple #[.agg #[.int .i64 t287, .bool t288, s_.2.1], .int .i64 t292]), (23, .agg #[.int .i64 t287, .bool t288, s_.2.1]), (24, .int .i64 t292)]) (fun s_ w' => (w'.cell? ⟨gb278, 0, none⟩ = some (.int .i64 a0_0) ∧ w'.cell? ⟨gb278, 1, none⟩ = some (.bool a0_1) ∧ w'.cell? ⟨gb278, 2, none⟩ = some (.slice A0_2 l0_2.length c0_2) ∧ w'.cell? ⟨gb279, 0, none⟩ = some (.int .i64 a1_0) ∧ w'.cell? ⟨gb279, 1, none⟩ = some (.int .i64 a1_1) ∧ w'.cell? ⟨gb279, 2, none⟩ = some (.string a1_2)) ∧ (Kd.R k36 36 w' w.heap.size (fun _ => True) s_.1 t284) ∧ (Kd.V k36 36 w' w.heap.size (fun k_ => k_ ≠ gb278 ∧ k_ ≠ gb279 ∧ k_ ≠ s_.2.2) s_.2.1 t289) ∧ (w'.heap[gb278]? = some (.cells #[.int .i64 a0_0, .bool a0_1, .slice A0_2 l0_2.length c0_2] 24 (0, 0))) ∧ (w'.heap[gb279]? = some (.cells #[.int .i64 a1_0, .int .i64 a1_1, .string a1_2] 26 (0, 0))) ∧ (w'.heap[s_.2.2]? = some (.cells #[.int .i64 0, .bool false, .slice none 0 0] 31 (0, 0))) ∧ (w.heap.size ≤ s_.2.2) ∧ (w.heap.size ≤ s_.2.2) ∧ (gb278 ≠ s_.2.2) ∧ (s_.2.2 ≠ gb278) ∧ (gb279 ≠ s_.2.2) ∧ (s_.2.2 ≠ gb279) ∧ (Below w.heap.size w w')) ?_ ?_
    rotate_left
    · intro hCont
      refine two_ (i := 1) (j := 7) (Ni := some 20) (Nj := some 5) (tf 3 10) #[true, false, true, false, false, false, false, true, false, false] rfl rfl rfl rfl (two_of HT_.out (by kernel_rfl)) (by decide) (by decide) (fun K hK => ?_) (fun K hK => ?_)
      · skip
        refine goes_ Try.func9 (by kernel_rfl) rfl #[.agg #[.int .i64 a0_0, .bool a0_1, .slice A0_2 l0_2.length c0_2]] (by rfl) rfl rfl (by (try simp only [List.map_toArray, List.map_cons, List.map_nil]); first | done | rfl | (simp only [List.length_drop, List.length_take]; rfl)) ?_
        with_reducible refine (hopperlaw08_own.calls k a0_0 a0_1 _ _ l0_2 t282 t283 t284 _ ?side1 ?side2 A5.out).mono ?_
        (case side1 => exact Kd.CA (Kd.C_below HR0_2.out HB.out))
        (case side2 => exact HC0_2.out)
        rintro e w19 ⟨v285, rfl, ho0, hb⟩
        refine ⟨_, rfl, ?_⟩
        have n0_ := Aside0.mk (Kd.R_lower ho0 (below_size (LG HB.out (G1 GE278.out (G1 GE279.out G0)))))
        have n1_ := Aside0.mk (blk_below (BA BK278.out) hb)
        have n2_ := Aside0.mk (blk_below (BA BK279.out) hb)
        have n3_ := Aside0.mk (below_step (LG HB.out (G1 GE278.out (G1 GE279.out G0))) hb)
        clear BK278
        clear BK279
        clear HB
        have HO286 := n0_
        have BK278 := n1_
        have BK279 := n2_
        have HB := n3_
        clear n0_ n1_ n2_ n3_
        (try clear hb)
        (try clear hb2)
        (try clear hk)
        (try clear hi)
        (try clear ho0)
        obtain ⟨Ao20, co20, eo20⟩ := Kd.R_slice HO286.out
        (first | subst eo20 | (injection eo20 with f1_ f2_ f3_; have f4_ := f1_.symm; have f5_ := f3_.symm; clear f1_ f2_ f3_; subst f4_; subst f5_))
        refine hK.out _ _ ⟨(blk_cell BK278.out 0).trans rfl, (blk_cell BK278.out 1).trans rfl, (blk_cell BK278.out 2).trans rfl, (blk_cell BK279.out 0).trans rfl, (blk_cell BK279.out 1).trans rfl, (blk_cell BK279.out 2).trans rfl⟩ (fun hHeld => ?_)
        clear hK K
        refine norm_ (a' := ?_) ?_ ?_
        rotate_left
        · show Act.put _ (some 20) _ = _
          simp only [Act.put, PU, i64_w, i32_w]
          rfl
        refine two_ (i := 3) (j := 7) (Ni := some 22) (Nj := some 5) (tf 4 10) #[true, true, true, false, false, false, false, true, false, false] rfl rfl rfl rfl (two_of HT_.out (by kernel_rfl)) (by decide) (by decide) (fun K hK => ?_) (fun K hK => ?_)
        · skip
          refine goes_ Try.func10 (by kernel_rfl) rfl #[.agg #[.int .i64 t282, .bool t283, .slice Ao20 t284.length co20], .agg #[.int .i64 a1_0, .int .i64 a1_1, .string a1_2]] (by rfl) rfl rfl (by (try simp only [List.map_toArray, List.map_cons, List.map_nil]); first | done | rfl | (simp only [List.length_drop, List.length_take]; rfl)) ?_
          with_reducible refine (pipe_Pipe_Send.calls t282 t283 (fun k_ => some k_ = (.slice Ao20 t284.length co20 : Value).ownBlock) _ _ t284 a1_0 a1_1 a1_2 t287 t288 t289 t292 _ ?side1 A6.out).mono ?_
          (case side1 => exact Kd.R_V (Kd.R_tight rfl (Kd.R_types (Kd.R_types (HO286.out) BK278.out (by decide)) BK279.out (by decide))))
          rintro e w21 ⟨v290, rfl, ho0, hb⟩
          refine ⟨_, rfl, ?_⟩
          have n0_ := Aside0.mk (Kd.R_below (Kd.RA HO286.out) hb)
          have n1_ := Aside0.mk (Kd.V_lower (Kd.V_mono (ok' := fun k_ => k_ ≠ gb278 ∧ k_ ≠ gb279) ho0 (fun k_ hk_ => ⟨Or.elim hk_ (fun hs_ => ((Kd.R_types (Kd.R_types (HO286.out) BK278.out (by decide)) BK279.out (by decide)).1 k_ hs_.symm).1.2) (fun hn_ => (Kd.freshB (g := gb278) (o := .cells #[.int .i64 a0_0, .bool a0_1, .slice A0_2 l0_2.length c0_2] 24 (0, 0)) (BA BK278.out) k_ hn_)), Or.elim hk_ (fun hs_ => ((Kd.R_types (Kd.R_types (HO286.out) BK278.out (by decide)) BK279.out (by decide)).1 k_ hs_.symm).2) (fun hn_ => (Kd.freshB (g := gb279) (o := .cells #[.int .i64 a1_0, .int .i64 a1_1, .string a1_2] 26 (0, 0)) (BA BK279.out) k_ hn_))⟩)) (below_size (LG HB.out (G1 GE278.out (G1 GE279.out G0)))))
          have n2_ := Aside0.mk (blk_below (BA BK278.out) hb)
          have n3_ := Aside0.mk (blk_below (BA BK279.out) hb)
          have n4_ := Aside0.mk (below_step (LG HB.out (G1 GE278.out (G1 GE279.out G0))) hb)
          clear HO286
          clear BK278
          clear BK279
          clear HB
          have HO286 := n0_
          have HO291 := n1_
          have BK278 := n2_
          have BK279 := n3_
          have HB := n4_
          clear n0_ n1_ n2_ n3_ n4_
          (try clear hb)
          (try clear hb2)
          (try clear hk)
          (try clear hi)
          (try clear ho0)
          refine hK.out _ _ ⟨(blk_cell BK278.out 0).trans rfl, (blk_cell BK278.out 1).trans rfl, (blk_cell BK278.out 2).trans rfl, (blk_cell BK279.out 0).trans rfl, (blk_cell BK279.out 1).trans rfl, (blk_cell BK279.out 2).trans rfl⟩ (fun hHeld => ?_)
          clear hK K
          refine norm_ (a' := ?_) ?_ ?_
          rotate_left
          · show Act.put _ (some 22) _ = _
            simp only [Act.put, PU, i64_w, i32_w]
            rfl
          refine pure_ (i := 4) (N := some 18) (v := ?_) (a' := ?_) (tf 5 10) rfl rfl (any_of HT_.out (by kernel_rfl)) (fun _ _ _ h => h) (Or.inl ⟨by rfl, ?_⟩) ?_ ?_
          rotate_left
          · intro w'
            go_simp
            with_reducible rfl
          rotate_left
          · simp only [Act.put, PU, i64_w, i32_w]
            rfl
          refine pure_ (i := 5) (N := some 23) (v := ?_) (a' := ?_) (tf 6 10) rfl rfl (any_of HT_.out (by kernel_rfl)) (fun _ _ _ h => h) (Or.inl ⟨by rfl, ?_⟩) ?_ ?_
          rotate_left
          · intro w'
            go_simp
            with_reducible rfl
          rotate_left
          · simp only [Act.put, PU, i64_w, i32_w]
            rfl
          refine pure_ (i := 6) (N := some 24) (v := ?_) (a' := ?_) (tf 7 10) rfl rfl (any_of HT_.out (by kernel_rfl)) (fun _ _ _ h => h) (Or.inl ⟨by rfl, ?_⟩) ?_ ?_
          rotate_left
          · intro w'
            go_simp
            with_reducible rfl
          rotate_left
          · simp only [Act.put, PU, i64_w, i32_w]
            rfl
          refine one_ (i := 7) (N := some 5) (tf 8 10) rfl rfl (one_of HT_.out (by kernel_rfl)) (by decide) (fun K hK => ?_)
          refine box_step ?hg (N := 5) ?hd (cs := #[.int .i64 0, .bool false, .slice none 0 0]) (t := 31) ?hr ?_; (case hd => rfl); (case hg => rfl); (case hr => first | (go_simp; done) | (go_simp; rfl))
          intro gb293 hg w22 hbox hb
          have n0_ := Aside0.mk (Kd.R_below (Kd.RA HO286.out) hb)
          have n1_ := Aside0.mk (Kd.V_below (Kd.V_elderB (Kd.VA HO291.out) gb293 (Nat.le_of_eq hg.symm)) hb)
          have n2_ := Aside0.mk (blk_below (BA BK278.out) hb)
          have n3_ := Aside0.mk (blk_below (BA BK279.out) hb)
          have n4_ := Aside0.mk (below_step (LG HB.out (G1 GE278.out (G1 GE279.out G0))) hb)
          have n5_ := Aside0.mk (hbox)
          have n6_ := Aside0.mk (ge1 hg (LG HB.out (G1 GE278.out (G1 GE279.out G0))))
          have n7_ := Aside0.mk (ge1 hg (LG HB.out (G1 GE278.out (G1 GE279.out G0))))
          have n8_ := Aside0.mk ((by rw [hg]; exact Nat.ne_of_lt (blk_lt (g := gb278) (o := .cells #[.int .i64 a0_0, .bool a0_1, .slice A0_2 l0_2.length c0_2] 24 (0, 0)) (BA BK278.out)) : gb278 ≠ gb293))
          have n9_ := Aside0.mk ((by rw [hg]; exact Nat.ne_of_gt (blk_lt (g := gb278) (o := .cells #[.int .i64 a0_0, .bool a0_1, .slice A0_2 l0_2.length c0_2] 24 (0, 0)) (BA BK278.out)) : gb293 ≠ gb278))
          have n10_ := Aside0.mk ((by rw [hg]; exact Nat.ne_of_lt (blk_lt (g := gb279) (o := .cells #[.int .i64 a1_0, .int .i64 a1_1, .string a1_2] 26 (0, 0)) (BA BK279.out)) : gb279 ≠ gb293))
          have n11_ := Aside0.mk ((by rw [hg]; exact Nat.ne_of_gt (blk_lt (g := gb279) (o := .cells #[.int .i64 a1_0, .int .i64 a1_1, .string a1_2] 26 (0, 0)) (BA BK279.out)) : gb293 ≠ gb279))
          clear HO286
          clear HO291
          clear BK278
          clear BK279
          clear HB
          have HO286 := n0_
          have HO291 := n1_
          have BK278 := n2_
          have BK279 := n3_
          have HB := n4_
          have BK293 := n5_
          have GW293 := n6_
          have GE293 := n7_
          have NB278_293 := n8_
          have NB293_278 := n9_
          have NB279_293 := n10_
          have NB293_279 := n11_
          clear n0_ n1_ n2_ n3_ n4_ n5_ n6_ n7_ n8_ n9_ n10_ n11_
          clear hb hbox hg
          refine hK.out _ _ ⟨(blk_cell BK278.out 0).trans rfl, (blk_cell BK278.out 1).trans rfl, (blk_cell BK278.out 2).trans rfl, (blk_cell BK279.out 0).trans rfl, (blk_cell BK279.out 1).trans rfl, (blk_cell BK279.out 2).trans rfl⟩ (fun hHeld => ?_)
          clear hK K
          refine norm_ (a' := ?_) ?_ ?_
          rotate_left
          · show Act.put _ (some 5) _ = _
            simp only [Act.put, PU, i64_w, i32_w]
            rfl
          exact norm_ (by simp only [putAll, Act.put, PU]) (hCont (.slice Ao20 t284.length co20, v290, gb293) _ ⟨hHeld, (Kd.RA HO286.out), (Kd.VA (Kd.V_mono HO291.out (fun _ hk => ⟨hk.1.1, ⟨hk.1.2, hk.2⟩⟩))), (BA BK278.out), (BA BK279.out), (BA BK293.out), GW293.out, GE293.out, NB278_293.out, NB293_278.out, NB279_293.out, NB293_279.out, (LG HB.out (G1 GE278.out (G1 GE279.out (G1 GE293.out G0))))⟩)
        · skip
          refine box_step ?hg (N := 5) ?hd (cs := #[.int .i64 0, .bool false, .slice none 0 0]) (t := 31) ?hr ?_; (case hd => rfl); (case hg => rfl); (case hr => first | (go_simp; done) | (go_simp; rfl))
          intro gb293 hg w20 hbox hb
          have n0_ := Aside0.mk (Kd.R_below (Kd.RA HO286.out) hb)
          have n1_ := Aside0.mk (blk_below (BA BK278.out) hb)
          have n2_ := Aside0.mk (blk_below (BA BK279.out) hb)
          have n3_ := Aside0.mk (below_step (LG HB.out (G1 GE278.out (G1 GE279.out G0))) hb)
          have n4_ := Aside0.mk (hbox)
          have n5_ := Aside0.mk (ge1 hg (LG HB.out (G1 GE278.out (G1 GE279.out G0))))
          have n6_ := Aside0.mk (ge1 hg (LG HB.out (G1 GE278.out (G1 GE279.out G0))))
          have n7_ := Aside0.mk ((by rw [hg]; exact Nat.ne_of_lt (blk_lt (g := gb278) (o := .cells #[.int .i64 a0_0, .bool a0_1, .slice A0_2 l0_2.length c0_2] 24 (0, 0)) (BA BK278.out)) : gb278 ≠ gb293))
          have n8_ := Aside0.mk ((by rw [hg]; exact Nat.ne_of_gt (blk_lt (g := gb278) (o := .cells #[.int .i64 a0_0, .bool a0_1, .slice A0_2 l0_2.length c0_2] 24 (0, 0)) (BA BK278.out)) : gb293 ≠ gb278))
          have n9_ := Aside0.mk ((by rw [hg]; exact Nat.ne_of_lt (blk_lt (g := gb279) (o := .cells #[.int .i64 a1_0, .int .i64 a1_1, .string a1_2] 26 (0, 0)) (BA BK279.out)) : gb279 ≠ gb293))
          have n10_ := Aside0.mk ((by rw [hg]; exact Nat.ne_of_gt (blk_lt (g := gb279) (o := .cells #[.int .i64 a1_0, .int .i64 a1_1, .string a1_2] 26 (0, 0)) (BA BK279.out)) : gb293 ≠ gb279))
          clear HO286
          clear BK278
          clear BK279
          clear HB
          have HO286 := n0_
          have BK278 := n1_
          have BK279 := n2_
          have HB := n3_
          have BK293 := n4_
          have GW293 := n5_
          have GE293 := n6_
          have NB278_293 := n7_
          have NB293_278 := n8_
          have NB279_293 := n9_
          have NB293_279 := n10_
          clear n0_ n1_ n2_ n3_ n4_ n5_ n6_ n7_ n8_ n9_ n10_
          clear hb hbox hg
          obtain ⟨Ao21, co21, eo21⟩ := Kd.R_slice HO286.out
          (first | subst eo21 | (injection eo21 with f1_ f2_ f3_; have f4_ := f1_.symm; have f5_ := f3_.symm; clear f1_ f2_ f3_; subst f4_; subst f5_))
          refine hK.out _ _ ⟨(blk_cell BK278.out 0).trans rfl, (blk_cell BK278.out 1).trans rfl, (blk_cell BK278.out 2).trans rfl, (blk_cell BK279.out 0).trans rfl, (blk_cell BK279.out 1).trans rfl, (blk_cell BK279.out 2).trans rfl⟩ (fun hHeld => ?_)
          clear hK K
          refine norm_ (a' := ?_) ?_ ?_
          rotate_left
          · show Act.put _ (some 5) _ = _
            simp only [Act.put, PU, i64_w, i32_w]
            rfl
          refine one_ (i := 3) (N := some 22) #[true, true, true, true, false, false, false, true, false, false] rfl rfl (one_of HT_.out (by kernel_rfl)) (by decide) (fun K hK => ?_)
          refine goes_ Try.func10 (by kernel_rfl) rfl #[.agg #[.int .i64 t282, .bool t283, .slice Ao21 t284.length co21], .agg #[.int .i64 a1_0, .int .i64 a1_1, .string a1_2]] (by rfl) rfl rfl (by (try simp only [List.map_toArray, List.map_cons, List.map_nil]); first | done | rfl | (simp only [List.length_drop, List.length_take]; rfl)) ?_
          with_reducible refine (pipe_Pipe_Send.calls t282 t283 (fun k_ => some k_ = (.slice Ao21 t284.length co21 : Value).ownBlock) _ _ t284 a1_0 a1_1 a1_2 t287 t288 t289 t292 _ ?side1 A6.out).mono ?_
          (case side1 => exact Kd.R_V (Kd.R_tight rfl (Kd.R_types (Kd.R_types (Kd.R_types (HO286.out) BK278.out (by decide)) BK279.out (by decide)) BK293.out (by decide))))
          rintro e w22 ⟨v290, rfl, ho0, hb⟩
          refine ⟨_, rfl, ?_⟩
          have n0_ := Aside0.mk (Kd.R_below (Kd.RA HO286.out) hb)
          have n1_ := Aside0.mk (Kd.V_lower (Kd.V_mono (ok' := fun k_ => k_ ≠ gb278 ∧ k_ ≠ gb279 ∧ k_ ≠ gb293) ho0 (fun k_ hk_ => ⟨Or.elim hk_ (fun hs_ => ((Kd.R_types (Kd.R_types (Kd.R_types (HO286.out) BK278.out (by decide)) BK279.out (by decide)) BK293.out (by decide)).1 k_ hs_.symm).1.1.2) (fun hn_ => (Kd.freshB (g := gb278) (o := .cells #[.int .i64 a0_0, .bool a0_1, .slice A0_2 l0_2.length c0_2] 24 (0, 0)) (BA BK278.out) k_ hn_)), Or.elim hk_ (fun hs_ => ((Kd.R_types (Kd.R_types (Kd.R_types (HO286.out) BK278.out (by decide)) BK279.out (by decide)) BK293.out (by decide)).1 k_ hs_.symm).1.2) (fun hn_ => (Kd.freshB (g := gb279) (o := .cells #[.int .i64 a1_0, .int .i64 a1_1, .string a1_2] 26 (0, 0)) (BA BK279.out) k_ hn_)), Or.elim hk_ (fun hs_ => ((Kd.R_types (Kd.R_types (Kd.R_types (HO286.out) BK278.out (by decide)) BK279.out (by decide)) BK293.out (by decide)).1 k_ hs_.symm).2) (fun hn_ => (Kd.freshB (g := gb293) (o := .cells #[.int .i64 0, .bool false, .slice none 0 0] 31 (0, 0)) (BA BK293.out) k_ hn_))⟩)) (below_size (LG HB.out (G1 GE278.out (G1 GE279.out (G1 GE293.out G0))))))
          have n2_ := Aside0.mk (blk_below (BA BK278.out) hb)
          have n3_ := Aside0.mk (blk_below (BA BK279.out) hb)
          have n4_ := Aside0.mk (blk_below (BA BK293.out) hb)
          have n5_ := Aside0.mk (below_step (LG HB.out (G1 GE278.out (G1 GE279.out (G1 GE293.out G0)))) hb)
          clear HO286
          clear BK278
          clear BK279
          clear BK293
          clear HB
          have HO286 := n0_
          have HO291 := n1_
          have BK278 := n2_
          have BK279 := n3_
          have BK293 := n4_
          have HB := n5_
          clear n0_ n1_ n2_ n3_ n4_ n5_
          (try clear hb)
          (try clear hb2)
          (try clear hk)
          (try clear hi)
          (try clear ho0)
          refine hK.out _ _ ⟨(blk_cell BK278.out 0).trans rfl, (blk_cell BK278.out 1).trans rfl, (blk_cell BK278.out 2).trans rfl, (blk_cell BK279.out 0).trans rfl, (blk_cell BK279.out 1).trans rfl, (blk_cell BK279.out 2).trans rfl⟩ (fun hHeld => ?_)
          clear hK K
          refine norm_ (a' := ?_) ?_ ?_
          rotate_left
          · show Act.put _ (some 22) _ = _
            simp only [Act.put, PU, i64_w, i32_w]
            rfl
          refine pure_ (i := 4) (N := some 18) (v := ?_) (a' := ?_) #[true, true, true, true, true, false, false, true, false, false] rfl rfl (any_of HT_.out (by kernel_rfl)) (fun _ _ _ h => h) (Or.inl ⟨by rfl, ?_⟩) ?_ ?_
          rotate_left
          · intro w'
            go_simp
            with_reducible rfl
          rotate_left
          · simp only [Act.put, PU, i64_w, i32_w]
            rfl
          refine pure_ (i := 5) (N := some 23) (v := ?_) (a' := ?_) #[true, true, true, true, true, true, false, true, false, false] rfl rfl (any_of HT_.out (by kernel_rfl)) (fun _ _ _ h => h) (Or.inl ⟨by rfl, ?_⟩) ?_ ?_
          rotate_left
          · intro w'
            go_simp
            with_reducible rfl
          rotate_left
          · simp only [Act.put, PU, i64_w, i32_w]
            rfl
          refine pure_ (i := 6) (N := some 24) (v := ?_) (a' := ?_) (tf 8 10) rfl rfl (any_of HT_.out (by kernel_rfl)) (fun _ _ _ h => h) (Or.inl ⟨by rfl, ?_⟩) ?_ ?_
          rotate_left
          · intro w'
            go_simp
            with_reducible rfl
          rotate_left
          · simp only [Act.put, PU, i64_w, i32_w]
            rfl
          exact norm_ (by simp only [putAll, Act.put, PU]) (hCont (.slice Ao21 t284.length co21, v290, gb293) _ ⟨hHeld, (Kd.RA HO286.out), (Kd.VA HO291.out), (BA BK278.out), (BA BK279.out), (BA BK293.out), GW293.out, GE293.out, NB278_293.out, NB293_278.out, NB279_293.out, NB293_279.out, (LG HB.out (G1 GE278.out (G1 GE279.out (G1 GE293.out G0))))⟩)
      · skip
        refine box_step ?hg (N := 5) ?hd (cs := #[.int .i64 0, .bool false, .slice none 0 0]) (t := 31) ?hr ?_; (case hd => rfl); (case hg => rfl); (case hr => first | (go_simp; done) | (go_simp; rfl))
        intro gb293 hg w19 hbox hb
        have n0_ := Aside0.mk (blk_below (BA BK278.out) hb)
        have n1_ := Aside0.mk (blk_below (BA BK279.out) hb)
        have n2_ := Aside0.mk (below_step (LG HB.out (G1 GE278.out (G1 GE279.out G0))) hb)
        have n3_ := Aside0.mk (hbox)
        have n4_ := Aside0.mk (ge1 hg (LG HB.out (G1 GE278.out (G1 GE279.out G0))))
        have n5_ := Aside0.mk (ge1 hg (LG HB.out (G1 GE278.out (G1 GE279.out G0))))
        have n6_ := Aside0.mk ((by rw [hg]; exact Nat.ne_of_lt (blk_lt (g := gb278) (o := .cells #[.int .i64 a0_0, .bool a0_1, .slice A0_2 l0_2.length c0_2] 24 (0, 0)) (BA BK278.out)) : gb278 ≠ gb293))
        have n7_ := Aside0.mk ((by rw [hg]; exact Nat.ne_of_gt (blk_lt (g := gb278) (o := .cells #[.int .i64 a0_0, .bool a0_1, .slice A0_2 l0_2.length c0_2] 24 (0, 0)) (BA BK278.out)) : gb293 ≠ gb278))
        have n8_ := Aside0.mk ((by rw [hg]; exact Nat.ne_of_lt (blk_lt (g := gb279) (o := .cells #[.int .i64 a1_0, .int .i64 a1_1, .string a1_2] 26 (0, 0)) (BA BK279.out)) : gb279 ≠ gb293))
        have n9_ := Aside0.mk ((by rw [hg]; exact Nat.ne_of_gt (blk_lt (g := gb279) (o := .cells #[.int .i64 a1_0, .int .i64 a1_1, .string a1_2] 26 (0, 0)) (BA BK279.out)) : gb293 ≠ gb279))
        clear BK278
        clear BK279
        clear HB
        have BK278 := n0_
        have BK279 := n1_
        have HB := n2_
        have BK293 := n3_
        have GW293 := n4_
        have GE293 := n5_
        have NB278_293 := n6_
        have NB293_278 := n7_
        have NB279_293 := n8_
        have NB293_279 := n9_
        clear n0_ n1_ n2_ n3_ n4_ n5_ n6_ n7_ n8_ n9_
        clear hb hbox hg
        refine hK.out _ _ ⟨(blk_cell BK278.out 0).trans rfl, (blk_cell BK278.out 1).trans rfl, (blk_cell BK278.out 2).trans rfl, (blk_cell BK279.out 0).trans rfl, (blk_cell BK279.out 1).trans rfl, (blk_cell BK279.out 2).trans rfl⟩ (fun hHeld => ?_)
        clear hK K
        refine norm_ (a' := ?_) ?_ ?_
        rotate_left
        · show Act.put _ (some 5) _ = _
          simp only [Act.put, PU, i64_w, i32_w]
          rfl
        refine one_ (i := 1) (N := some 20) #[true, true, true, false, false, false, false, true, false, false] rfl rfl (one_of HT_.out (by kernel_rfl)) (by decide) (fun K hK => ?_)
        refine goes_ Try.func9 (by kernel_rfl) rfl #[.agg #[.int .i64 a0_0, .bool a0_1, .slice A0_2 l0_2.length c0_2]] (by rfl) rfl rfl (by (try simp only [List.map_toArray, List.map_cons, List.map_nil]); first | done | rfl | (simp only [List.length_drop, List.length_take]; rfl)) ?_
        with_reducible refine (hopperlaw08_own.calls k a0_0 a0_1 _ _ l0_2 t282 t283 t284 _ ?side1 ?side2 A5.out).mono ?_
        (case side1 => exact Kd.CA (Kd.C_below HR0_2.out HB.out))
        (case side2 => exact HC0_2.out)
        rintro e w20 ⟨v285, rfl, ho0, hb⟩
        refine ⟨_, rfl, ?_⟩
        have n0_ := Aside0.mk (Kd.R_lower ho0 (below_size (LG HB.out (G1 GE278.out (G1 GE279.out (G1 GE293.out G0))))))
        have n1_ := Aside0.mk (blk_below (BA BK278.out) hb)
        have n2_ := Aside0.mk (blk_below (BA BK279.out) hb)
        have n3_ := Aside0.mk (blk_below (BA BK293.out) hb)
        have n4_ := Aside0.mk (below_step (LG HB.out (G1 GE278.out (G1 GE279.out (G1 GE293.out G0)))) hb)
        clear BK278
        clear BK279
        clear BK293
        clear HB
        have HO286 := n0_
        have BK278 := n1_
        have BK279 := n2_
        have BK293 := n3_
        have HB := n4_
        clear n0_ n1_ n2_ n3_ n4_
        (try clear hb)
        (try clear hb2)
        (try clear hk)
        (try clear hi)
        (try clear ho0)
        obtain ⟨Ao21, co21, eo21⟩ := Kd.R_slice HO286.out
        (first | subst eo21 | (injection eo21 with f1_ f2_ f3_; have f4_ := f1_.symm; have f5_ := f3_.symm; clear f1_ f2_ f3_; subst f4_; subst f5_))
        refine hK.out _ _ ⟨(blk_cell BK278.out 0).trans rfl, (blk_cell BK278.out 1).trans rfl, (blk_cell BK278.out 2).trans rfl, (blk_cell BK279.out 0).trans rfl, (blk_cell BK279.out 1).trans rfl, (blk_cell BK279.out 2).trans rfl⟩ (fun hHeld => ?_)
        clear hK K
        refine norm_ (a' := ?_) ?_ ?_
        rotate_left
        · show Act.put _ (some 20) _ = _
          simp only [Act.put, PU, i64_w, i32_w]
          rfl
        refine one_ (i := 3) (N := some 22) #[true, true, true, true, false, false, false, true, false, false] rfl rfl (one_of HT_.out (by kernel_rfl)) (by decide) (fun K hK => ?_)
        refine goes_ Try.func10 (by kernel_rfl) rfl #[.agg #[.int .i64 t282, .bool t283, .slice Ao21 t284.length co21], .agg #[.int .i64 a1_0, .int .i64 a1_1, .string a1_2]] (by rfl) rfl rfl (by (try simp only [List.map_toArray, List.map_cons, List.map_nil]); first | done | rfl | (simp only [List.length_drop, List.length_take]; rfl)) ?_
        with_reducible refine (pipe_Pipe_Send.calls t282 t283 (fun k_ => some k_ = (.slice Ao21 t284.length co21 : Value).ownBlock) _ _ t284 a1_0 a1_1 a1_2 t287 t288 t289 t292 _ ?side1 A6.out).mono ?_
        (case side1 => exact Kd.R_V (Kd.R_tight rfl (Kd.R_types (Kd.R_types (Kd.R_types (HO286.out) BK278.out (by decide)) BK279.out (by decide)) BK293.out (by decide))))
        rintro e w22 ⟨v290, rfl, ho0, hb⟩
        refine ⟨_, rfl, ?_⟩
        have n0_ := Aside0.mk (Kd.R_below (Kd.RA HO286.out) hb)
        have n1_ := Aside0.mk (Kd.V_lower (Kd.V_mono (ok' := fun k_ => k_ ≠ gb278 ∧ k_ ≠ gb279 ∧ k_ ≠ gb293) ho0 (fun k_ hk_ => ⟨Or.elim hk_ (fun hs_ => ((Kd.R_types (Kd.R_types (Kd.R_types (HO286.out) BK278.out (by decide)) BK279.out (by decide)) BK293.out (by decide)).1 k_ hs_.symm).1.1.2) (fun hn_ => (Kd.freshB (g := gb278) (o := .cells #[.int .i64 a0_0, .bool a0_1, .slice A0_2 l0_2.length c0_2] 24 (0, 0)) (BA BK278.out) k_ hn_)), Or.elim hk_ (fun hs_ => ((Kd.R_types (Kd.R_types (Kd.R_types (HO286.out) BK278.out (by decide)) BK279.out (by decide)) BK293.out (by decide)).1 k_ hs_.symm).1.2) (fun hn_ => (Kd.freshB (g := gb279) (o := .cells #[.int .i64 a1_0, .int .i64 a1_1, .string a1_2] 26 (0, 0)) (BA BK279.out) k_ hn_)), Or.elim hk_ (fun hs_ => ((Kd.R_types (Kd.R_types (Kd.R_types (HO286.out) BK278.out (by decide)) BK279.out (by decide)) BK293.out (by decide)).1 k_ hs_.symm).2) (fun hn_ => (Kd.freshB (g := gb293) (o := .cells #[.int .i64 0, .bool false, .slice none 0 0] 31 (0, 0)) (BA BK293.out) k_ hn_))⟩)) (below_size (LG HB.out (G1 GE278.out (G1 GE279.out (G1 GE293.out G0))))))
        have n2_ := Aside0.mk (blk_below (BA BK278.out) hb)
        have n3_ := Aside0.mk (blk_below (BA BK279.out) hb)
        have n4_ := Aside0.mk (blk_below (BA BK293.out) hb)
        have n5_ := Aside0.mk (below_step (LG HB.out (G1 GE278.out (G1 GE279.out (G1 GE293.out G0)))) hb)
        clear HO286
        clear BK278
        clear BK279
        clear BK293
        clear HB
        have HO286 := n0_
        have HO291 := n1_
        have BK278 := n2_
        have BK279 := n3_
        have BK293 := n4_
        have HB := n5_
        clear n0_ n1_ n2_ n3_ n4_ n5_
        (try clear hb)
        (try clear hb2)
        (try clear hk)
        (try clear hi)
        (try clear ho0)
        refine hK.out _ _ ⟨(blk_cell BK278.out 0).trans rfl, (blk_cell BK278.out 1).trans rfl, (blk_cell BK278.out 2).trans rfl, (blk_cell BK279.out 0).trans rfl, (blk_cell BK279.out 1).trans rfl, (blk_cell BK279.out 2).trans rfl⟩ (fun hHeld => ?_)
        clear hK K
        refine norm_ (a' := ?_) ?_ ?_
        rotate_left
        · show Act.put _ (some 22) _ = _
          simp only [Act.put, PU, i64_w, i32_w]
          rfl
        refine pure_ (i := 4) (N := some 18) (v := ?_) (a' := ?_) #[true, true, true, true, true, false, false, true, false, false] rfl rfl (any_of HT_.out (by kernel_rfl)) (fun _ _ _ h => h) (Or.inl ⟨by rfl, ?_⟩) ?_ ?_
        rotate_left
        · intro w'
          go_simp
          with_reducible rfl
        rotate_left
        · simp only [Act.put, PU, i64_w, i32_w]
          rfl
        refine pure_ (i := 5) (N := some 23) (v := ?_) (a' := ?_) #[true, true, true, true, true, true, false, true, false, false] rfl rfl (any_of HT_.out (by kernel_rfl)) (fun _ _ _ h => h) (Or.inl ⟨by rfl, ?_⟩) ?_ ?_
        rotate_left
        · intro w'
          go_simp
          with_reducible rfl
        rotate_left
        · simp only [Act.put, PU, i64_w, i32_w]
          rfl
        refine pure_ (i := 6) (N := some 24) (v := ?_) (a' := ?_) (tf 8 10) rfl rfl (any_of HT_.out (by kernel_rfl)) (fun _ _ _ h => h) (Or.inl ⟨by rfl, ?_⟩) ?_ ?_
        rotate_left
        · intro w'
          go_simp
          with_reducible rfl
        rotate_left
        · simp only [Act.put, PU, i64_w, i32_w]
          rfl
        exact norm_ (by simp only [putAll, Act.put, PU]) (hCont (.slice Ao21 t284.length co21, v290, gb293) _ ⟨hHeld, (Kd.RA HO286.out), (Kd.VA HO291.out), (BA BK278.out), (BA BK279.out), (BA BK293.out), GW293.out, GE293.out, NB278_293.out, NB293_278.out, NB279_293.out, NB293_279.out, (LG HB.out (G1 GE278.out (G1 GE279.out (G1 GE293.out G0))))⟩)
    rintro ⟨v285, v290, gb293⟩ w23 ⟨hS_, h0_, h1_, h2_, h3_, h4_, h5_, h6_, h7_, h8_, h9_, h10_, h11_⟩
    have n0_ : Aside0 (Kd.R k36 36 w23 w.heap.size (fun _ => True) v285 t284) := ⟨h0_⟩
    have n1_ : Aside0 (Kd.V k36 36 w23 w.heap.size (fun k_ => k_ ≠ gb278 ∧ k_ ≠ gb279 ∧ k_ ≠ gb293) v290 t289) := ⟨h1_⟩
    have n2_ : Aside0 (w23.heap[gb278]? = some (.cells #[.int .i64 a0_0, .bool a0_1, .slice A0_2 l0_2.length c0_2] 24 (0, 0))) := ⟨h2_⟩
    have n3_ : Aside0 (w23.heap[gb279]? = some (.cells #[.int .i64 a1_0, .int .i64 a1_1, .string a1_2] 26 (0, 0))) := ⟨h3_⟩
    have n4_ : Aside0 (w23.heap[gb293]? = some (.cells #[.int .i64 0, .bool false, .slice none 0 0] 31 (0, 0))) := ⟨h4_⟩
    have n5_ : Aside0 (w.heap.size ≤ gb293) := ⟨h5_⟩
    have n6_ : Aside0 (w.heap.size ≤ gb293) := ⟨h6_⟩
    have n7_ : Aside0 (gb278 ≠ gb293) := ⟨h7_⟩
    have n8_ : Aside0 (gb293 ≠ gb278) := ⟨h8_⟩
    have n9_ : Aside0 (gb279 ≠ gb293) := ⟨h9_⟩
    have n10_ : Aside0 (gb293 ≠ gb279) := ⟨h10_⟩
    have n11_ : Aside0 (Below w.heap.size w w23) := ⟨h11_⟩
    clear BK278
    clear BK279
    clear HB
    clear h0_ h1_ h2_ h3_ h4_ h5_ h6_ h7_ h8_ h9_ h10_ h11_
    have HO286 := n0_
    have HO291 := n1_
    have BK278 := n2_
    have BK279 := n3_
    have BK293 := n4_
    have GW293 := n5_
    have GE293 := n6_
    have NB278_293 := n7_
    have NB293_278 := n8_
    have NB279_293 := n9_
    have NB293_279 := n10_
    have HB := n11_
    clear n0_ n1_ n2_ n3_ n4_ n5_ n6_ n7_ n8_ n9_ n10_ n11_
    have hHeld : w23.cell? ⟨gb278, 0, none⟩ = some (.int .i64 a0_0) ∧ w23.cell? ⟨gb278, 1, none⟩ = some (.bool a0_1) ∧ w23.cell? ⟨gb278, 2, none⟩ = some (.slice A0_2 l0_2.length c0_2) ∧ w23.cell? ⟨gb279, 0, none⟩ = some (.int .i64 a1_0) ∧ w23.cell? ⟨gb279, 1, none⟩ = some (.int .i64 a1_1) ∧ w23.cell? ⟨gb279, 2, none⟩ = some (.string a1_2) := hS_
    obtain ⟨Ao26, co26, eo26⟩ := Kd.V_slice HO291.out
    (first | subst eo26 | (injection eo26 with f1_ f2_ f3_; have f4_ := f1_.symm; have f5_ := f3_.symm; clear f1_ f2_ f3_; subst f4_; subst f5_))
    refine norm_ (a' := ?_) ?_ ?_
    rotate_left
    · simp only [putAll, Act.put, PU]
      rfl
    refine one_ (i := 8) (N := none) (tf 9 10) rfl rfl (one_of HT_.out (by kernel_rfl)) (by decide) (fun K hK => ?_)
    have hs24 : w23.cell? ⟨gb293, 0, none⟩ = some (.int .i64 0) := (blk_cell BK293.out 0).trans rfl
    have hfs24 := blk_frozen BK293.out 0
    have hns24_0 := NB278_293.out
    have hns24_1 := NB279_293.out
    have hms24_0 := NB293_278.out
    have hms24_1 := NB293_279.out
    have hs25 : w23.cell? ⟨gb293, 1, none⟩ = some (.bool false) := (blk_cell BK293.out 1).trans rfl
    have hfs25 := blk_frozen BK293.out 1
    have hns25_0 := NB278_293.out
    have hns25_1 := NB279_293.out
    have hms25_0 := NB293_278.out
    have hms25_1 := NB293_279.out
    have hs27 : w23.cell? ⟨gb293, 2, none⟩ = some (.slice none 0 0) := (blk_cell BK293.out 2).trans rfl
    have hfs27 := blk_frozen BK293.out 2
    have hns27_0 := NB278_293.out
    have hns27_1 := NB279_293.out
    have hms27_0 := NB293_278.out
    have hms27_1 := NB293_279.out
    refine skip_ (w1 := ?_) (by rfl) rfl ?_ ?_
    rotate_left
    · go_simp
      rfl
    refine hK.out _ _ ⟨((cell_far (p := ⟨gb293, _, none⟩) NB278_293.out _).trans (((cell_far (p := ⟨gb293, _, none⟩) NB278_293.out _).trans (((cell_far (p := ⟨gb293, _, none⟩) NB278_293.out _).trans (hHeld.1)))))), ((cell_far (p := ⟨gb293, _, none⟩) NB278_293.out _).trans (((cell_far (p := ⟨gb293, _, none⟩) NB278_293.out _).trans (((cell_far (p := ⟨gb293, _, none⟩) NB278_293.out _).trans (hHeld.2.1)))))), ((cell_far (p := ⟨gb293, _, none⟩) NB278_293.out _).trans (((cell_far (p := ⟨gb293, _, none⟩) NB278_293.out _).trans (((cell_far (p := ⟨gb293, _, none⟩) NB278_293.out _).trans (hHeld.2.2.1)))))), ((cell_far (p := ⟨gb293, _, none⟩) NB279_293.out _).trans (((cell_far (p := ⟨gb293, _, none⟩) NB279_293.out _).trans (((cell_far (p := ⟨gb293, _, none⟩) NB279_293.out _).trans (hHeld.2.2.2.1)))))), ((cell_far (p := ⟨gb293, _, none⟩) NB279_293.out _).trans (((cell_far (p := ⟨gb293, _, none⟩) NB279_293.out _).trans (((cell_far (p := ⟨gb293, _, none⟩) NB279_293.out _).trans (hHeld.2.2.2.2.1)))))), ((cell_far (p := ⟨gb293, _, none⟩) NB279_293.out _).trans (((cell_far (p := ⟨gb293, _, none⟩) NB279_293.out _).trans (((cell_far (p := ⟨gb293, _, none⟩) NB279_293.out _).trans (hHeld.2.2.2.2.2))))))⟩ (fun hHeld => ?_)
    clear hK K
    refine pure_ (i := 9) (N := some 6) (v := ?_) (a' := ?_) (tf 10 10) rfl rfl (any_of HT_.out (by kernel_rfl)) (fun _ _ _ h => h) (Or.inl ⟨by rfl, ?_⟩) ?_ ?_
    rotate_left
    · intro w'
      go_simp
      with_reducible rfl
    rotate_left
    · simp only [Act.put, PU, i64_w, i32_w]
      rfl
    refine done_ (done_of HT_.out (by kernel_rfl)) ?_
    have hnb28 := NB278_293.out
    have hnc28 := NB293_278.out
    have hcz29_0 : w23.cell? ⟨gb278, 0, none⟩ = some (.int .i64 a0_0) := (blk_cell BK278.out 0).trans rfl
    have hcz29_1 : w23.cell? ⟨gb278, 1, none⟩ = some (.bool a0_1) := (blk_cell BK278.out 1).trans rfl
    have hcz29_2 : w23.cell? ⟨gb278, 2, none⟩ = some (.slice A0_2 l0_2.length c0_2) := (blk_cell BK278.out 2).trans rfl
    have hfz29_0 := blk_frozen BK278.out 0
    have hfz29_1 := blk_frozen BK278.out 1
    have hfz29_2 := blk_frozen BK278.out 2
    go_upto_region 7 with (first | ((with_reducible refine gate_callee (f := 9) rfl ?_); refine goesL_ (some 27) rfl rfl Try.func9 (by kernel_rfl) rfl #[.agg #[.int .i64 a0_0, .bool a0_1, .slice A0_2 l0_2.length c0_2]] rfl (by (try simp only [List.map_toArray, List.map_cons, List.map_nil]); first | done | rfl | (simp only [List.length_drop, List.length_take]; rfl)) ?_; (with_reducible refine (hopperlaw08_own.calls k a0_0 a0_1 _ _ l0_2 t294 t295 t296 _ ?side1 ?side2 A7.out).mono ?_); (case side1 => exact Kd.C_below HR0_2.out (LG HB.out (G1 GE293.out G0))); (case side2 => exact HC0_2.out); rintro e w30 ⟨v297, rfl, ho0, hb⟩; refine ⟨_, rfl, ?_⟩; replace HO291 := Aside0.mk (Kd.V_elder' ((Kd.V_mono (Kd.V_mv (g := gb293) (Kd.V_mono HO291.out (fun k_ hk => (⟨hk, hk.2.2⟩ : _ ∧ k_ ≠ gb293))) (fun _ hk => hk.2)) (fun _ h_ => h_.1))) (Kd.R_base ho0) hb); have HO298 := Aside0.mk (Kd.R_lower (Kd.R_new' ho0 (Kd.R_lt ((Kd.R_mono (Kd.R_mv (g := gb293) (Kd.R_types HO286.out BK293.out (by decide)) (fun _ hk => hk.2)) (fun _ h_ => h_.1))))) (below_size (LG HB.out (G1 GE293.out G0)))); replace HO286 := Aside0.mk (Kd.R_elder' ((Kd.R_mono (Kd.R_mv (g := gb293) (Kd.R_types HO286.out BK293.out (by decide)) (fun _ hk => hk.2)) (fun _ h_ => h_.1))) (Kd.R_base ho0) hb); replace BK278 := Aside0.mk (blk_below (BF BK278.out NB278_293.out) hb); replace BK279 := Aside0.mk (blk_below (BF BK279.out NB279_293.out) hb); replace BK293 := Aside0.mk (blk_below (g := gb293) (o := .cells #[.int .i64 t287, .bool t288, .slice Ao26 t289.length co26] 31 (0, 0)) (BP BK293.out (by rfl)) hb); replace HB := Aside0.mk (below_step (LG HB.out (G1 GE293.out G0)) hb); (try clear hb); (try clear hb2); (try clear hk); (try clear hi); (try clear ho0); obtain ⟨Ao31, co31, eo31⟩ := Kd.R_slice HO298.out; subst eo31) | ((with_reducible refine gate_callee (f := 12) rfl ?_); refine goesL_ (some 28) rfl rfl Try.func12 (by kernel_rfl) rfl #[.agg #[.int .i64 t294, .bool t295, .slice Ao31 t296.length co31]] rfl (by (try simp only [List.map_toArray, List.map_cons, List.map_nil]); first | done | rfl | (simp only [List.length_drop, List.length_take]; rfl)) ?_; (with_reducible refine (pipe_Pipe_Take.calls t294 t295 (fun k_ => some k_ = (.slice Ao31 t296.length co31 : Value).ownBlock) _ _ t296 t299 t300 t301 t304 t305 t306 t307 _ ?side1 A8.out).mono ?_); (case side1 => exact Kd.R_V (Kd.R_tight rfl (Kd.R_types (Kd.R_types (Kd.R_types (HO298.out) BK278.out (by decide)) BK279.out (by decide)) BK293.out (by decide)))); rintro e w32 ⟨v302, rfl, ho0, hb⟩; refine ⟨_, rfl, ?_⟩; replace HO291 := Aside0.mk (Kd.V_below (Kd.VA HO291.out) hb); have HO303 := Aside0.mk (Kd.V_lower (Kd.V_mono (ok' := fun k_ => some k_ ≠ (v285 : Value).ownBlock ∧ k_ ≠ gb278 ∧ k_ ≠ gb279 ∧ k_ ≠ gb293) ho0 (fun k_ hk_ => ⟨Or.elim hk_ (fun hs_ => ((Kd.R_types (Kd.R_types (Kd.R_types (HO298.out) BK278.out (by decide)) BK279.out (by decide)) BK293.out (by decide)).1 k_ hs_.symm).1.1.1.2) (fun hn_ => (Kd.fresh' (Kd.R_lt (Kd.RA HO286.out)) k_ hn_)), Or.elim hk_ (fun hs_ => ((Kd.R_types (Kd.R_types (Kd.R_types (HO298.out) BK278.out (by decide)) BK279.out (by decide)) BK293.out (by decide)).1 k_ hs_.symm).1.1.2) (fun hn_ => (Kd.freshB (g := gb278) (o := .cells #[.int .i64 a0_0, .bool a0_1, .slice A0_2 l0_2.length c0_2] 24 (0, 0)) (BA BK278.out) k_ hn_)), Or.elim hk_ (fun hs_ => ((Kd.R_types (Kd.R_types (Kd.R_types (HO298.out) BK278.out (by decide)) BK279.out (by decide)) BK293.out (by decide)).1 k_ hs_.symm).1.2) (fun hn_ => (Kd.freshB (g := gb279) (o := .cells #[.int .i64 a1_0, .int .i64 a1_1, .string a1_2] 26 (0, 0)) (BA BK279.out) k_ hn_)), Or.elim hk_ (fun hs_ => ((Kd.R_types (Kd.R_types (Kd.R_types (HO298.out) BK278.out (by decide)) BK279.out (by decide)) BK293.out (by decide)).1 k_ hs_.symm).2) (fun hn_ => (Kd.freshB (g := gb293) (o := .cells #[.int .i64 t287, .bool t288, .slice Ao26 t289.length co26] 31 (0, 0)) (BA BK293.out) k_ hn_))⟩)) (below_size (LA HB.out))); replace HO286 := Aside0.mk (Kd.R_below (Kd.RA HO286.out) hb); replace HO298 := Aside0.mk (Kd.R_below (Kd.RA HO298.out) hb); replace BK278 := Aside0.mk (blk_below (BA BK278.out) hb); replace BK279 := Aside0.mk (blk_below (BA BK279.out) hb); replace BK293 := Aside0.mk (blk_below (BA BK293.out) hb); replace HB := Aside0.mk (below_step (LA HB.out) hb); (try clear hb); (try clear hb2); (try clear hk); (try clear hi); (try clear ho0)) | ((with_reducible refine gate_dst (N := 7) rfl ?_); (try (refine gate_guard (by rfl) ?_; dsimp only)); refine box_event ?hg (N := 7) ?hd (cs := #[.int .i64 0, .bool false, .slice none 0 0]) (t := 31) ?hr ?_; (case hd => rfl); (case hg => rfl); (case hr => first | (go_simp; done) | (go_simp; rfl)); intro gb308 hg w33 hbox hb; replace HO286 := Aside0.mk (Kd.R_below (Kd.RA HO286.out) hb); replace HO291 := Aside0.mk (Kd.V_below (Kd.V_elderB (Kd.VA HO291.out) gb308 (Nat.le_of_eq hg.symm)) hb); replace HO298 := Aside0.mk (Kd.R_below (Kd.RA HO298.out) hb); replace HO303 := Aside0.mk (Kd.V_below (Kd.V_elderB (Kd.VA HO303.out) gb308 (Nat.le_of_eq hg.symm)) hb); have BK308 := Aside0.mk (hbox); have GE308 := Aside0.mk (ge1 hg (LA HB.out)); replace HB := Aside0.mk (below_step (LA HB.out) hb); have NB278_308 := Aside0.mk ((by rw [hg]; exact Nat.ne_of_lt (blk_lt (g := gb278) (o := .cells #[.int .i64 a0_0, .bool a0_1, .slice A0_2 l0_2.length c0_2] 24 (0, 0)) (BA BK278.out)) : gb278 ≠ gb308)); have NB308_278 := Aside0.mk ((by rw [hg]; exact Nat.ne_of_gt (blk_lt (g := gb278) (o := .cells #[.int .i64 a0_0, .bool a0_1, .slice A0_2 l0_2.length c0_2] 24 (0, 0)) (BA BK278.out)) : gb308 ≠ gb278)); replace BK278 := Aside0.mk (blk_below (BA BK278.out) hb); have NB279_308 := Aside0.mk ((by rw [hg]; exact Nat.ne_of_lt (blk_lt (g := gb279) (o := .cells #[.int .i64 a1_0, .int .i64 a1_1, .string a1_2] 26 (0, 0)) (BA BK279.out)) : gb279 ≠ gb308)); have NB308_279 := Aside0.mk ((by rw [hg]; exact Nat.ne_of_gt (blk_lt (g := gb279) (o := .cells #[.int .i64 a1_0, .int .i64 a1_1, .string a1_2] 26 (0, 0)) (BA BK279.out)) : gb308 ≠ gb279)); replace BK279 := Aside0.mk (blk_below (BA BK279.out) hb); have NB293_308 := Aside0.mk ((by rw [hg]; exact Nat.ne_of_lt (blk_lt (g := gb293) (o := .cells #[.int .i64 t287, .bool t288, .slice Ao26 t289.length co26] 31 (0, 0)) (BA BK293.out)) : gb293 ≠ gb308)); have NB308_293 := Aside0.mk ((by rw [hg]; exact Nat.ne_of_gt (blk_lt (g := gb293) (o := .cells #[.int .i64 t287, .bool t288, .slice Ao26 t289.length co26] 31 (0, 0)) (BA BK293.out)) : gb308 ≠ gb293)); replace BK293 := Aside0.mk (blk_below (BA BK293.out) hb); clear hb hbox hg) | ((with_reducible refine gate_dst (N := 8) rfl ?_); (try (refine gate_guard (by rfl) ?_; dsimp only)); refine box_event ?hg (N := 8) ?hd (cs := #[.int .i64 0, .int .i64 0, .string (⟨#[]⟩ : ByteArray)]) (t := 36) ?hr ?_; (case hd => rfl); (case hg => rfl); (case hr => first | (go_simp; done) | (go_simp; rfl)); intro gb309 hg w34 hbox hb; replace HO286 := Aside0.mk (Kd.R_below (Kd.R_elderB (Kd.RA HO286.out) gb309 (Nat.le_of_eq hg.symm)) hb); replace HO291 := Aside0.mk (Kd.V_below (Kd.V_elderB (Kd.VA HO291.out) gb309 (Nat.le_of_eq hg.symm)) hb); replace HO298 := Aside0.mk (Kd.R_below (Kd.R_elderB (Kd.RA HO298.out) gb309 (Nat.le_of_eq hg.symm)) hb); replace HO303 := Aside0.mk (Kd.V_below (Kd.V_elderB (Kd.VA HO303.out) gb309 (Nat.le_of_eq hg.symm)) hb); have BK309 := Aside0.mk (hbox); have GE309 := Aside0.mk (ge1 hg (LA HB.out)); replace HB := Aside0.mk (below_step (LA HB.out) hb); have NB278_309 := Aside0.mk ((by rw [hg]; exact Nat.ne_of_lt (blk_lt (g := gb278) (o := .cells #[.int .i64 a0_0, .bool a0_1, .slice A0_2 l0_2.length c0_2] 24 (0, 0)) (BA BK278.out)) : gb278 ≠ gb309)); have NB309_278 := Aside0.mk ((by rw [hg]; exact Nat.ne_of_gt (blk_lt (g := gb278) (o := .cells #[.int .i64 a0_0, .bool a0_1, .slice A0_2 l0_2.length c0_2] 24 (0, 0)) (BA BK278.out)) : gb309 ≠ gb278)); replace BK278 := Aside0.mk (blk_below (BA BK278.out) hb); have NB279_309 := Aside0.mk ((by rw [hg]; exact Nat.ne_of_lt (blk_lt (g := gb279) (o := .cells #[.int .i64 a1_0, .int .i64 a1_1, .string a1_2] 26 (0, 0)) (BA BK279.out)) : gb279 ≠ gb309)); have NB309_279 := Aside0.mk ((by rw [hg]; exact Nat.ne_of_gt (blk_lt (g := gb279) (o := .cells #[.int .i64 a1_0, .int .i64 a1_1, .string a1_2] 26 (0, 0)) (BA BK279.out)) : gb309 ≠ gb279)); replace BK279 := Aside0.mk (blk_below (BA BK279.out) hb); have NB293_309 := Aside0.mk ((by rw [hg]; exact Nat.ne_of_lt (blk_lt (g := gb293) (o := .cells #[.int .i64 t287, .bool t288, .slice Ao26 t289.length co26] 31 (0, 0)) (BA BK293.out)) : gb293 ≠ gb309)); have NB309_293 := Aside0.mk ((by rw [hg]; exact Nat.ne_of_gt (blk_lt (g := gb293) (o := .cells #[.int .i64 t287, .bool t288, .slice Ao26 t289.length co26] 31 (0, 0)) (BA BK293.out)) : gb309 ≠ gb293)); replace BK293 := Aside0.mk (blk_below (BA BK293.out) hb); have NB308_309 := Aside0.mk ((by rw [hg]; exact Nat.ne_of_lt (blk_lt (g := gb308) (o := .cells #[.int .i64 0, .bool false, .slice none 0 0] 31 (0, 0)) (BA BK308.out)) : gb308 ≠ gb309)); have NB309_308 := Aside0.mk ((by rw [hg]; exact Nat.ne_of_gt (blk_lt (g := gb308) (o := .cells #[.int .i64 0, .bool false, .slice none 0 0] 31 (0, 0)) (BA BK308.out)) : gb309 ≠ gb308)); replace BK308 := Aside0.mk (blk_below (BA BK308.out) hb); clear hb hbox hg; have hnb35 := NB308_278.out; have hnc35 := NB278_308.out; have hnb36 := NB308_279.out; have hnc36 := NB279_308.out; have hnb37 := NB308_293.out; have hnc37 := NB293_308.out; have hnb38 := NB308_309.out; have hnc38 := NB309_308.out; obtain ⟨hcz39_0, hcz39_1, hcz39_2, hfz39_0, hfz39_1, hfz39_2⟩ := cz3 BK308.out; obtain ⟨Ao40, co40, eo40⟩ := Kd.V_slice HO303.out; subst eo40; have hnb41 := NB309_278.out; have hnc41 := NB278_309.out; have hnb42 := NB309_279.out; have hnc42 := NB279_309.out; have hnb43 := NB309_293.out; have hnc43 := NB293_309.out; obtain ⟨hcz44_0, hcz44_1, hcz44_2, hfz44_0, hfz44_1, hfz44_2⟩ := cz3 BK309.out; obtain ⟨hcz45_0, hcz45_1, hcz45_2, hfz45_0, hfz45_1, hfz45_2⟩ := cz3 BK278.out) | ((with_reducible refine gate_callee (f := 9) rfl ?_); refine goesL_ (some 34) rfl rfl Try.func9 (by kernel_rfl) rfl #[.agg #[.int .i64 a0_0, .bool a0_1, .slice A0_2 l0_2.length c0_2]] rfl (by (try simp only [List.map_toArray, List.map_cons, List.map_nil]); first | done | rfl | (simp only [List.length_drop, List.length_take]; rfl)) ?_; (with_reducible refine (hopperlaw08_own.calls k a0_0 a0_1 _ _ l0_2 t310 t311 t312 _ ?side1 ?side2 A9.out).mono ?_); (case side1 => exact Kd.C_below HR0_2.out (LG HB.out (G1 GE308.out (G1 GE309.out G0)))); (case side2 => exact HC0_2.out); rintro e w46 ⟨v313, rfl, ho0, hb⟩; refine ⟨_, rfl, ?_⟩; replace HO291 := Aside0.mk (Kd.V_elder' ((Kd.V_mono (Kd.V_mono (Kd.V_ms (gs := [gb309, gb308]) (Kd.V_mono (Kd.V_mono HO291.out (fun k_ hk => (⟨hk, hk.1.2⟩ : _ ∧ k_ ≠ gb308))) (fun k_ hk => (⟨hk, hk.1.2⟩ : _ ∧ k_ ≠ gb309))) (fun _ hk => N1 (hk.2) (N1 (hk.1.2) (N0)))) (fun _ h_ => h_.1)) (fun _ h_ => h_.1))) (Kd.R_base ho0) hb); replace HO303 := Aside0.mk (Kd.V_elder' ((Kd.V_mono (Kd.V_mono (Kd.V_ms (gs := [gb309, gb308]) (Kd.V_mono (Kd.V_mono HO303.out (fun k_ hk => (⟨hk, hk.1.2⟩ : _ ∧ k_ ≠ gb308))) (fun k_ hk => (⟨hk, hk.1.2⟩ : _ ∧ k_ ≠ gb309))) (fun _ hk => N1 (hk.2) (N1 (hk.1.2) (N0)))) (fun _ h_ => h_.1)) (fun _ h_ => h_.1))) (Kd.R_base ho0) hb); have HO314 := Aside0.mk (Kd.R_lower (Kd.R_newB (Kd.R_new' (Kd.R_new' ho0 (Kd.R_lt ((Kd.R_mono (Kd.R_mono (Kd.R_ms (gs := [gb309, gb308]) (Kd.R_mono (Kd.R_types HO286.out BK308.out (by decide)) (fun k_ hk => (⟨hk, hk.1.2⟩ : _ ∧ k_ ≠ gb309))) (fun _ hk => N1 (hk.2) (N1 (hk.1.2) (N0)))) (fun _ h_ => h_.1)) (fun _ h_ => h_.1))))) (Kd.R_lt ((Kd.R_mono (Kd.R_mono (Kd.R_ms (gs := [gb309, gb308]) (Kd.R_mono (Kd.R_types HO298.out BK308.out (by decide)) (fun k_ hk => (⟨hk, hk.1.2⟩ : _ ∧ k_ ≠ gb309))) (fun _ hk => N1 (hk.2) (N1 (hk.1.2) (N0)))) (fun _ h_ => h_.1)) (fun _ h_ => h_.1))))) (g := gb309) (o := .cells #[.int .i64 t304, .int .i64 t305, .string t306] 36 (0, 0)) (by (with_reducible repeat (first | refine blk_drewN ?_ _ | refine blk_drew ?_ | refine blk_alloc ?_ _)); refine blk_put (cs := #[.int .i64 t304, .int .i64 t305, .string (⟨#[]⟩ : ByteArray)]) ?_ 2 _ rfl; (with_reducible repeat (first | refine blk_drewN ?_ _ | refine blk_drew ?_ | refine blk_alloc ?_ _)); refine blk_put (cs := #[.int .i64 t304, .int .i64 0, .string (⟨#[]⟩ : ByteArray)]) ?_ 1 _ rfl; (with_reducible repeat (first | refine blk_drewN ?_ _ | refine blk_drew ?_ | refine blk_alloc ?_ _)); refine blk_put (cs := #[.int .i64 0, .int .i64 0, .string (⟨#[]⟩ : ByteArray)]) ?_ 0 _ rfl; exact BF BK309.out NB309_308.out)) (below_size (LG HB.out (G1 GE308.out (G1 GE309.out G0))))); replace HO286 := Aside0.mk (Kd.R_elder' ((Kd.R_mono (Kd.R_mono (Kd.R_ms (gs := [gb309, gb308]) (Kd.R_mono (Kd.R_types HO286.out BK308.out (by decide)) (fun k_ hk => (⟨hk, hk.1.2⟩ : _ ∧ k_ ≠ gb309))) (fun _ hk => N1 (hk.2) (N1 (hk.1.2) (N0)))) (fun _ h_ => h_.1)) (fun _ h_ => h_.1))) (Kd.R_base ho0) hb); replace HO298 := Aside0.mk (Kd.R_elder' ((Kd.R_mono (Kd.R_mono (Kd.R_ms (gs := [gb309, gb308]) (Kd.R_mono (Kd.R_types HO298.out BK308.out (by decide)) (fun k_ hk => (⟨hk, hk.1.2⟩ : _ ∧ k_ ≠ gb309))) (fun _ hk => N1 (hk.2) (N1 (hk.1.2) (N0)))) (fun _ h_ => h_.1)) (fun _ h_ => h_.1))) (Kd.R_base ho0) hb); replace BK278 := Aside0.mk (blk_below (BM BK278.out (N1 NB278_309.out (N1 NB278_308.out N0))) hb); replace BK279 := Aside0.mk (blk_below (BM BK279.out (N1 NB279_309.out (N1 NB279_308.out N0))) hb); replace BK293 := Aside0.mk (blk_below (BM BK293.out (N1 NB293_309.out (N1 NB293_308.out N0))) hb); replace BK308 := Aside0.mk (blk_below (g := gb308) (o := .cells #[.int .i64 t299, .bool t300, .slice Ao40 t301.length co40] 31 (0, 0)) (by (with_reducible repeat (first | refine blk_drewN ?_ _ | refine blk_drew ?_ | refine blk_alloc ?_ _)); refine blk_far ?_ NB308_309.out _; (with_reducible repeat (first | refine blk_drewN ?_ _ | refine blk_drew ?_ | refine blk_alloc ?_ _)); refine blk_far ?_ NB308_309.out _; (with_reducible repeat (first | refine blk_drewN ?_ _ | refine blk_drew ?_ | refine blk_alloc ?_ _)); refine blk_far ?_ NB308_309.out _; exact BP BK308.out (by rfl)) hb); replace BK309 := Aside0.mk (blk_below (g := gb309) (o := .cells #[.int .i64 t304, .int .i64 t305, .string t306] 36 (0, 0)) (by (with_reducible repeat (first | refine blk_drewN ?_ _ | refine blk_drew ?_ | refine blk_alloc ?_ _)); refine blk_put (cs := #[.int .i64 t304, .int .i64 t305, .string (⟨#[]⟩ : ByteArray)]) ?_ 2 _ rfl; (with_reducible repeat (first | refine blk_drewN ?_ _ | refine blk_drew ?_ | refine blk_alloc ?_ _)); refine blk_put (cs := #[.int .i64 t304, .int .i64 0, .string (⟨#[]⟩ : ByteArray)]) ?_ 1 _ rfl; (with_reducible repeat (first | refine blk_drewN ?_ _ | refine blk_drew ?_ | refine blk_alloc ?_ _)); refine blk_put (cs := #[.int .i64 0, .int .i64 0, .string (⟨#[]⟩ : ByteArray)]) ?_ 0 _ rfl; exact BF BK309.out NB309_308.out) hb); replace HB := Aside0.mk (below_step (LG HB.out (G1 GE308.out (G1 GE309.out G0))) hb); (try clear hb); (try clear hb2); (try clear hk); (try clear hi); (try clear ho0); obtain ⟨Ao47, co47, eo47⟩ := Kd.R_slice HO314.out; subst eo47) | ((with_reducible refine gate_callee (f := 14) rfl ?_); refine goesL_ (some 35) rfl rfl Try.func14 (by kernel_rfl) rfl #[.agg #[.int .i64 t310, .bool t311, .slice Ao47 t312.length co47]] rfl (by (try simp only [List.map_toArray, List.map_cons, List.map_nil]); first | done | rfl | (simp only [List.length_drop, List.length_take]; rfl)) ?_; (with_reducible refine (pipe_Pipe_Close.calls t310 t311 (fun k_ => some k_ = (.slice Ao47 t312.length co47 : Value).ownBlock) _ _ t312 t315 t316 t317 t320 _ ?side1 A10.out).mono ?_); (case side1 => exact Kd.R_V (Kd.R_tight rfl (Kd.R_types (Kd.R_types (Kd.R_types (Kd.R_types (HO314.out) BK278.out (by decide)) BK279.out (by decide)) BK293.out (by decide)) BK308.out (by decide)))); rintro e w48 ⟨v318, rfl, ho0, hb⟩; refine ⟨_, rfl, ?_⟩; replace HO291 := Aside0.mk (Kd.V_below (Kd.VA HO291.out) hb); replace HO303 := Aside0.mk (Kd.V_below (Kd.VA HO303.out) hb); have HO319 := Aside0.mk (Kd.V_lower (Kd.V_mono (ok' := fun k_ => some k_ ≠ (v285 : Value).ownBlock ∧ some k_ ≠ (.slice Ao31 t296.length co31 : Value).ownBlock ∧ k_ ≠ gb278 ∧ k_ ≠ gb279 ∧ k_ ≠ gb293 ∧ k_ ≠ gb308 ∧ k_ ≠ gb309) ho0 (fun k_ hk_ => ⟨Or.elim hk_ (fun hs_ => ((Kd.R_types (Kd.R_types (Kd.R_types (Kd.R_types (HO314.out) BK278.out (by decide)) BK279.out (by decide)) BK293.out (by decide)) BK308.out (by decide)).1 k_ hs_.symm).1.1.1.1.1.1.2) (fun hn_ => (Kd.fresh' (Kd.R_lt (Kd.RA HO286.out)) k_ hn_)), Or.elim hk_ (fun hs_ => ((Kd.R_types (Kd.R_types (Kd.R_types (Kd.R_types (HO314.out) BK278.out (by decide)) BK279.out (by decide)) BK293.out (by decide)) BK308.out (by decide)).1 k_ hs_.symm).1.1.1.1.1.2) (fun hn_ => (Kd.fresh' (Kd.R_lt (Kd.RA HO298.out)) k_ hn_)), Or.elim hk_ (fun hs_ => ((Kd.R_types (Kd.R_types (Kd.R_types (Kd.R_types (HO314.out) BK278.out (by decide)) BK279.out (by decide)) BK293.out (by decide)) BK308.out (by decide)).1 k_ hs_.symm).1.1.1.2) (fun hn_ => (Kd.freshB (g := gb278) (o := .cells #[.int .i64 a0_0, .bool a0_1, .slice A0_2 l0_2.length c0_2] 24 (0, 0)) (BA BK278.out) k_ hn_)), Or.elim hk_ (fun hs_ => ((Kd.R_types (Kd.R_types (Kd.R_types (Kd.R_types (HO314.out) BK278.out (by decide)) BK279.out (by decide)) BK293.out (by decide)) BK308.out (by decide)).1 k_ hs_.symm).1.1.2) (fun hn_ => (Kd.freshB (g := gb279) (o := .cells #[.int .i64 a1_0, .int .i64 a1_1, .string a1_2] 26 (0, 0)) (BA BK279.out) k_ hn_)), Or.elim hk_ (fun hs_ => ((Kd.R_types (Kd.R_types (Kd.R_types (Kd.R_types (HO314.out) BK278.out (by decide)) BK279.out (by decide)) BK293.out (by decide)) BK308.out (by decide)).1 k_ hs_.symm).1.2) (fun hn_ => (Kd.freshB (g := gb293) (o := .cells #[.int .i64 t287, .bool t288, .slice Ao26 t289.length co26] 31 (0, 0)) (BA BK293.out) k_ hn_)), Or.elim hk_ (fun hs_ => ((Kd.R_types (Kd.R_types (Kd.R_types (Kd.R_types (HO314.out) BK278.out (by decide)) BK279.out (by decide)) BK293.out (by decide)) BK308.out (by decide)).1 k_ hs_.symm).2) (fun hn_ => (Kd.freshB (g := gb308) (o := .cells #[.int .i64 t299, .bool t300, .slice Ao40 t301.length co40] 31 (0, 0)) (BA BK308.out) k_ hn_)), Or.elim hk_ (fun hs_ => ((Kd.R_types (Kd.R_types (Kd.R_types (Kd.R_types (HO314.out) BK278.out (by decide)) BK279.out (by decide)) BK293.out (by decide)) BK308.out (by decide)).1 k_ hs_.symm).1.1.1.1.2) (fun hn_ => (Kd.freshB (g := gb309) (o := .cells #[.int .i64 t304, .int .i64 t305, .string t306] 36 (0, 0)) (BA BK309.out) k_ hn_))⟩)) (below_size (LA HB.out))); replace HO286 := Aside0.mk (Kd.R_below (Kd.RA HO286.out) hb); replace HO298 := Aside0.mk (Kd.R_below (Kd.RA HO298.out) hb); replace HO314 := Aside0.mk (Kd.R_below (Kd.RA HO314.out) hb); replace BK278 := Aside0.mk (blk_below (BA BK278.out) hb); replace BK279 := Aside0.mk (blk_below (BA BK279.out) hb); replace BK293 := Aside0.mk (blk_below (BA BK293.out) hb); replace BK308 := Aside0.mk (blk_below (BA BK308.out) hb); replace BK309 := Aside0.mk (blk_below (BA BK309.out) hb); replace HB := Aside0.mk (below_step (LA HB.out) hb); (try clear hb); (try clear hb2); (try clear hk); (try clear hi); (try clear ho0)) | ((with_reducible refine gate_dst (N := 10) rfl ?_); (try (refine gate_guard (by rfl) ?_; dsimp only)); refine box_event ?hg (N := 10) ?hd (cs := #[.int .i64 0, .bool false, .slice none 0 0]) (t := 31) ?hr ?_; (case hd => rfl); (case hg => rfl); (case hr => first | (go_simp; done) | (go_simp; rfl)); intro gb321 hg w49 hbox hb; replace HO286 := Aside0.mk (Kd.R_below (Kd.RA HO286.out) hb); replace HO291 := Aside0.mk (Kd.V_below (Kd.V_elderB (Kd.VA HO291.out) gb321 (Nat.le_of_eq hg.symm)) hb); replace HO298 := Aside0.mk (Kd.R_below (Kd.RA HO298.out) hb); replace HO303 := Aside0.mk (Kd.V_below (Kd.V_elderB (Kd.VA HO303.out) gb321 (Nat.le_of_eq hg.symm)) hb); replace HO314 := Aside0.mk (Kd.R_below (Kd.RA HO314.out) hb); replace HO319 := Aside0.mk (Kd.V_below (Kd.V_elderB (Kd.VA HO319.out) gb321 (Nat.le_of_eq hg.symm)) hb); have BK321 := Aside0.mk (hbox); have GE321 := Aside0.mk (ge1 hg (LA HB.out)); replace HB := Aside0.mk (below_step (LA HB.out) hb); have NB278_321 := Aside0.mk ((by rw [hg]; exact Nat.ne_of_lt (blk_lt (g := gb278) (o := .cells #[.int .i64 a0_0, .bool a0_1, .slice A0_2 l0_2.length c0_2] 24 (0, 0)) (BA BK278.out)) : gb278 ≠ gb321)); have NB321_278 := Aside0.mk ((by rw [hg]; exact Nat.ne_of_gt (blk_lt (g := gb278) (o := .cells #[.int .i64 a0_0, .bool a0_1, .slice A0_2 l0_2.length c0_2] 24 (0, 0)) (BA BK278.out)) : gb321 ≠ gb278)); replace BK278 := Aside0.mk (blk_below (BA BK278.out) hb); have NB279_321 := Aside0.mk ((by rw [hg]; exact Nat.ne_of_lt (blk_lt (g := gb279) (o := .cells #[.int .i64 a1_0, .int .i64 a1_1, .string a1_2] 26 (0, 0)) (BA BK279.out)) : gb279 ≠ gb321)); have NB321_279 := Aside0.mk ((by rw [hg]; exact Nat.ne_of_gt (blk_lt (g := gb279) (o := .cells #[.int .i64 a1_0, .int .i64 a1_1, .string a1_2] 26 (0, 0)) (BA BK279.out)) : gb321 ≠ gb279)); replace BK279 := Aside0.mk (blk_below (BA BK279.out) hb); have NB293_321 := Aside0.mk ((by rw [hg]; exact Nat.ne_of_lt (blk_lt (g := gb293) (o := .cells #[.int .i64 t287, .bool t288, .slice Ao26 t289.length co26] 31 (0, 0)) (BA BK293.out)) : gb293 ≠ gb321)); have NB321_293 := Aside0.mk ((by rw [hg]; exact Nat.ne_of_gt (blk_lt (g := gb293) (o := .cells #[.int .i64 t287, .bool t288, .slice Ao26 t289.length co26] 31 (0, 0)) (BA BK293.out)) : gb321 ≠ gb293)); replace BK293 := Aside0.mk (blk_below (BA BK293.out) hb); have NB308_321 := Aside0.mk ((by rw [hg]; exact Nat.ne_of_lt (blk_lt (g := gb308) (o := .cells #[.int .i64 t299, .bool t300, .slice Ao40 t301.length co40] 31 (0, 0)) (BA BK308.out)) : gb308 ≠ gb321)); have NB321_308 := Aside0.mk ((by rw [hg]; exact Nat.ne_of_gt (blk_lt (g := gb308) (o := .cells #[.int .i64 t299, .bool t300, .slice Ao40 t301.length co40] 31 (0, 0)) (BA BK308.out)) : gb321 ≠ gb308)); replace BK308 := Aside0.mk (blk_below (BA BK308.out) hb); have NB309_321 := Aside0.mk ((by rw [hg]; exact Nat.ne_of_lt (blk_lt (g := gb309) (o := .cells #[.int .i64 t304, .int .i64 t305, .string t306] 36 (0, 0)) (BA BK309.out)) : gb309 ≠ gb321)); have NB321_309 := Aside0.mk ((by rw [hg]; exact Nat.ne_of_gt (blk_lt (g := gb309) (o := .cells #[.int .i64 t304, .int .i64 t305, .string t306] 36 (0, 0)) (BA BK309.out)) : gb321 ≠ gb309)); replace BK309 := Aside0.mk (blk_below (BA BK309.out) hb); clear hb hbox hg; have hnb50 := NB321_278.out; have hnc50 := NB278_321.out; have hnb51 := NB321_279.out; have hnc51 := NB279_321.out; have hnb52 := NB321_293.out; have hnc52 := NB293_321.out; have hnb53 := NB321_308.out; have hnc53 := NB308_321.out; have hnb54 := NB321_309.out; have hnc54 := NB309_321.out; obtain ⟨hcz55_0, hcz55_1, hcz55_2, hfz55_0, hfz55_1, hfz55_2⟩ := cz3 BK321.out; obtain ⟨Ao56, co56, eo56⟩ := Kd.V_slice HO319.out; subst eo56) | ((with_reducible refine gate_store (t := 31) (p := 10) rfl ?_); refine store_event (t := 31) (p := 10) (v := ?vo_w57) (w1 := (((w49.setCell ⟨gb321, 0, none⟩ (.int .i64 t315)).setCell ⟨gb321, 1, none⟩ (.bool t316)).setCell ⟨gb321, 2, none⟩ (.slice Ao56 t317.length co56))) ?hg ?ho ?hn ?hr ?_; (case ho => rfl); (case hg => rfl); (case hn => rfl); (case hr => first | (go_simp; done) | (go_simp; rfl)); intro w57 hw; replace HO286 : Aside0 (Kd.R k36 36 w57 w.heap.size (fun k_ => some k_ ≠ (.slice Ao31 t296.length co31 : Value).ownBlock ∧ some k_ ≠ (.slice Ao47 t312.length co47 : Value).ownBlock ∧ k_ ≠ gb309) v285 t284) := ⟨(by rw [hw]; exact (Kd.R_mono (Kd.R_mv (g := gb321) (Kd.R_types HO286.out BK321.out (by decide)) (fun _ hk => hk.2)) (fun _ hk => ⟨hk.1.1.1.2, ⟨hk.1.2, hk.1.1.2⟩⟩)))⟩; replace HO291 : Aside0 (Kd.V k36 36 w57 w.heap.size (fun k_ => some k_ ≠ (.slice Ao31 t296.length co31 : Value).ownBlock ∧ some k_ ≠ (.slice Ao47 t312.length co47 : Value).ownBlock ∧ k_ ≠ gb278 ∧ k_ ≠ gb279 ∧ k_ ≠ gb293 ∧ k_ ≠ gb308 ∧ k_ ≠ gb309 ∧ k_ ≠ gb321) (.slice Ao26 t289.length co26) t289) := ⟨(by rw [hw]; exact (Kd.V_mono (Kd.V_mv (g := gb321) (Kd.V_mono HO291.out (fun k_ hk => (⟨hk, hk.2⟩ : _ ∧ k_ ≠ gb321))) (fun _ hk => hk.2)) (fun _ hk => ⟨hk.1.1.1.1.1.2, ⟨hk.1.1.2, ⟨hk.1.1.1.1.1.1.1, ⟨hk.1.1.1.1.1.1.2.1, ⟨hk.1.1.1.1.1.1.2.2, ⟨hk.1.1.1.1.2, ⟨hk.1.1.1.2, hk.1.2⟩⟩⟩⟩⟩⟩⟩)))⟩; replace HO298 : Aside0 (Kd.R k36 36 w57 w.heap.size (fun k_ => some k_ ≠ (v285 : Value).ownBlock ∧ some k_ ≠ (.slice Ao47 t312.length co47 : Value).ownBlock ∧ k_ ≠ gb309) (.slice Ao31 t296.length co31) t296) := ⟨(by rw [hw]; exact (Kd.R_mono (Kd.R_mv (g := gb321) (Kd.R_types HO298.out BK321.out (by decide)) (fun _ hk => hk.2)) (fun _ hk => ⟨hk.1.1.1.2, ⟨hk.1.2, hk.1.1.2⟩⟩)))⟩; replace HO303 : Aside0 (Kd.V k36 36 w57 w.heap.size (fun k_ => some k_ ≠ (v285 : Value).ownBlock ∧ some k_ ≠ (.slice Ao47 t312.length co47 : Value).ownBlock ∧ k_ ≠ gb278 ∧ k_ ≠ gb279 ∧ k_ ≠ gb293 ∧ k_ ≠ gb308 ∧ k_ ≠ gb309 ∧ k_ ≠ gb321) (.slice Ao40 t301.length co40) t301) := ⟨(by rw [hw]; exact (Kd.V_mono (Kd.V_mv (g := gb321) (Kd.V_mono HO303.out (fun k_ hk => (⟨hk, hk.2⟩ : _ ∧ k_ ≠ gb321))) (fun _ hk => hk.2)) (fun _ hk => ⟨hk.1.1.1.1.1.1, ⟨hk.1.1.2, ⟨hk.1.1.1.1.1.2.1, ⟨hk.1.1.1.1.1.2.2.1, ⟨hk.1.1.1.1.1.2.2.2, ⟨hk.1.1.1.1.2, ⟨hk.1.1.1.2, hk.1.2⟩⟩⟩⟩⟩⟩⟩)))⟩; replace HO314 : Aside0 (Kd.R k36 36 w57 w.heap.size (fun k_ => some k_ ≠ (v285 : Value).ownBlock ∧ some k_ ≠ (.slice Ao31 t296.length co31 : Value).ownBlock ∧ k_ ≠ gb309) (.slice Ao47 t312.length co47) t312) := ⟨(by rw [hw]; exact (Kd.R_mono (Kd.R_mv (g := gb321) (Kd.R_types HO314.out BK321.out (by decide)) (fun _ hk => hk.2)) (fun _ hk => ⟨hk.1.1.1.2, ⟨hk.1.1.2, hk.1.2⟩⟩)))⟩; replace HO319 : Aside0 (Kd.V k36 36 w57 w.heap.size (fun k_ => some k_ ≠ (v285 : Value).ownBlock ∧ some k_ ≠ (.slice Ao31 t296.length co31 : Value).ownBlock ∧ k_ ≠ gb278 ∧ k_ ≠ gb279 ∧ k_ ≠ gb293 ∧ k_ ≠ gb308 ∧ k_ ≠ gb309 ∧ k_ ≠ gb321) (.slice Ao56 t317.length co56) t317) := ⟨(by rw [hw]; exact (Kd.V_mono (Kd.V_mv (g := gb321) (Kd.V_mono HO319.out (fun k_ hk => (⟨hk, hk.2⟩ : _ ∧ k_ ≠ gb321))) (fun _ hk => hk.2)) (fun _ hk => ⟨hk.1.1.1, ⟨hk.1.1.2.1, ⟨hk.1.1.2.2.1, ⟨hk.1.1.2.2.2.1, ⟨hk.1.1.2.2.2.2.1, ⟨hk.1.1.2.2.2.2.2.1, ⟨hk.1.1.2.2.2.2.2.2, hk.1.2⟩⟩⟩⟩⟩⟩⟩)))⟩; replace BK278 : Aside0 (w57.heap[gb278]? = some (.cells #[.int .i64 a0_0, .bool a0_1, .slice A0_2 l0_2.length c0_2] 24 (0, 0))) := ⟨(by rw [hw]; exact (BF BK278.out NB278_321.out))⟩; replace BK279 : Aside0 (w57.heap[gb279]? = some (.cells #[.int .i64 a1_0, .int .i64 a1_1, .string a1_2] 26 (0, 0))) := ⟨(by rw [hw]; exact (BF BK279.out NB279_321.out))⟩; replace BK293 : Aside0 (w57.heap[gb293]? = some (.cells #[.int .i64 t287, .bool t288, .slice Ao26 t289.length co26] 31 (0, 0))) := ⟨(by rw [hw]; exact (BF BK293.out NB293_321.out))⟩; replace BK308 : Aside0 (w57.heap[gb308]? = some (.cells #[.int .i64 t299, .bool t300, .slice Ao40 t301.length co40] 31 (0, 0))) := ⟨(by rw [hw]; exact (BF BK308.out NB308_321.out))⟩; replace BK309 : Aside0 (w57.heap[gb309]? = some (.cells #[.int .i64 t304, .int .i64 t305, .string t306] 36 (0, 0))) := ⟨(by rw [hw]; exact (BF BK309.out NB309_321.out))⟩; replace BK321 : Aside0 (w57.heap[gb321]? = some (.cells #[.int .i64 t315, .bool t316, .slice Ao56 t317.length co56] 31 (0, 0))) := ⟨(by rw [hw]; exact (BP BK321.out (by rfl)))⟩; replace HB : Aside0 (Below w.heap.size w w57) := ⟨(by rw [hw]; exact (LG HB.out (G1 GE321.out G0)))⟩; clear hw; obtain ⟨hcz58_0, hcz58_1, hcz58_2, hfz58_0, hfz58_1, hfz58_2⟩ := cz3 BK321.out; have hnb59 := NB279_293.out; have hnc59 := NB293_279.out; obtain ⟨hcz60_0, hcz60_1, hcz60_2, hfz60_0, hfz60_1, hfz60_2⟩ := cz3 BK279.out) | ((with_reducible refine gate_callee (f := 10) rfl ?_); refine goesL_ (some 41) rfl rfl Try.func10 (by kernel_rfl) rfl #[.agg #[.int .i64 t315, .bool t316, .slice Ao56 t317.length co56], .agg #[.int .i64 a1_0, .int .i64 a1_1, .string a1_2]] rfl (by (try simp only [List.map_toArray, List.map_cons, List.map_nil]); first | done | rfl | (simp only [List.length_drop, List.length_take]; rfl)) ?_; (with_reducible refine (pipe_Pipe_Send.calls t315 t316 (fun k_ => (some k_ ≠ (v285 : Value).ownBlock ∧ (some k_ ≠ (.slice Ao31 t296.length co31 : Value).ownBlock ∧ (k_ ≠ gb278 ∧ (k_ ≠ gb279 ∧ (k_ ≠ gb293 ∧ (k_ ≠ gb308 ∧ (k_ ≠ gb309 ∧ k_ ≠ gb321)))))))) _ _ t317 a1_0 a1_1 a1_2 t322 t323 t324 t327 _ ?side1 A11.out).mono ?_); (case side1 => exact HO319.out); rintro e w61 ⟨v325, rfl, ho0, hb⟩; refine ⟨_, rfl, ?_⟩; replace HO291 := Aside0.mk (Kd.V_below (Kd.VA HO291.out) hb); replace HO303 := Aside0.mk (Kd.V_below (Kd.VA HO303.out) hb); replace HO314 := Aside0.mk (Kd.R_below (Kd.RA HO314.out) hb); replace HO319 := Aside0.mk (Kd.V_below (Kd.VA HO319.out) hb); have HO326 := Aside0.mk (Kd.V_lower (Kd.V_mono (ok' := fun k_ => some k_ ≠ (v285 : Value).ownBlock ∧ some k_ ≠ (.slice Ao31 t296.length co31 : Value).ownBlock ∧ k_ ≠ gb278 ∧ k_ ≠ gb279 ∧ k_ ≠ gb293 ∧ k_ ≠ gb308 ∧ k_ ≠ gb309 ∧ k_ ≠ gb321) ho0 (fun k_ hk_ => ⟨Or.elim hk_ (fun hs_ => hs_.1) (fun hn_ => (Kd.fresh' (Kd.R_lt (Kd.RA HO286.out)) k_ hn_)), Or.elim hk_ (fun hs_ => hs_.2.1) (fun hn_ => (Kd.fresh' (Kd.R_lt (Kd.RA HO298.out)) k_ hn_)), Or.elim hk_ (fun hs_ => hs_.2.2.1) (fun hn_ => (Kd.freshB (g := gb278) (o := .cells #[.int .i64 a0_0, .bool a0_1, .slice A0_2 l0_2.length c0_2] 24 (0, 0)) (BA BK278.out) k_ hn_)), Or.elim hk_ (fun hs_ => hs_.2.2.2.1) (fun hn_ => (Kd.freshB (g := gb279) (o := .cells #[.int .i64 a1_0, .int .i64 a1_1, .string a1_2] 26 (0, 0)) (BA BK279.out) k_ hn_)), Or.elim hk_ (fun hs_ => hs_.2.2.2.2.1) (fun hn_ => (Kd.freshB (g := gb293) (o := .cells #[.int .i64 t287, .bool t288, .slice Ao26 t289.length co26] 31 (0, 0)) (BA BK293.out) k_ hn_)), Or.elim hk_ (fun hs_ => hs_.2.2.2.2.2.1) (fun hn_ => (Kd.freshB (g := gb308) (o := .cells #[.int .i64 t299, .bool t300, .slice Ao40 t301.length co40] 31 (0, 0)) (BA BK308.out) k_ hn_)), Or.elim hk_ (fun hs_ => hs_.2.2.2.2.2.2.1) (fun hn_ => (Kd.freshB (g := gb309) (o := .cells #[.int .i64 t304, .int .i64 t305, .string t306] 36 (0, 0)) (BA BK309.out) k_ hn_)), Or.elim hk_ (fun hs_ => hs_.2.2.2.2.2.2.2) (fun hn_ => (Kd.freshB (g := gb321) (o := .cells #[.int .i64 t315, .bool t316, .slice Ao56 t317.length co56] 31 (0, 0)) (BA BK321.out) k_ hn_))⟩)) (below_size (LA HB.out))); replace HO286 := Aside0.mk (Kd.R_below (Kd.RA HO286.out) hb); replace HO298 := Aside0.mk (Kd.R_below (Kd.RA HO298.out) hb); replace BK278 := Aside0.mk (blk_below (BA BK278.out) hb); replace BK279 := Aside0.mk (blk_below (BA BK279.out) hb); replace BK293 := Aside0.mk (blk_below (BA BK293.out) hb); replace BK308 := Aside0.mk (blk_below (BA BK308.out) hb); replace BK309 := Aside0.mk (blk_below (BA BK309.out) hb); replace BK321 := Aside0.mk (blk_below (BA BK321.out) hb); replace HB := Aside0.mk (below_step (LA HB.out) hb); (try clear hb); (try clear hb2); (try clear hk); (try clear hi); (try clear ho0)) | ((with_reducible refine gate_dst (N := 12) rfl ?_); (try (refine gate_guard (by rfl) ?_; dsimp only)); refine box_event ?hg (N := 12) ?hd (cs := #[.int .i64 0, .bool false, .slice none 0 0]) (t := 31) ?hr ?_; (case hd => rfl); (case hg => rfl); (case hr => first | (go_simp; done) | (go_simp; rfl)); intro gb328 hg w62 hbox hb; replace HO286 := Aside0.mk (Kd.R_below (Kd.RA HO286.out) hb); replace HO291 := Aside0.mk (Kd.V_below (Kd.V_elderB (Kd.VA HO291.out) gb328 (Nat.le_of_eq hg.symm)) hb); replace HO298 := Aside0.mk (Kd.R_below (Kd.RA HO298.out) hb); replace HO303 := Aside0.mk (Kd.V_below (Kd.V_elderB (Kd.VA HO303.out) gb328 (Nat.le_of_eq hg.symm)) hb); replace HO314 := Aside0.mk (Kd.R_below (Kd.RA HO314.out) hb); replace HO319 := Aside0.mk (Kd.V_below (Kd.V_elderB (Kd.VA HO319.out) gb328 (Nat.le_of_eq hg.symm)) hb); replace HO326 := Aside0.mk (Kd.V_below (Kd.V_elderB (Kd.VA HO326.out) gb328 (Nat.le_of_eq hg.symm)) hb); have BK328 := Aside0.mk (hbox); have GE328 := Aside0.mk (ge1 hg (LA HB.out)); replace HB := Aside0.mk (below_step (LA HB.out) hb); have NB278_328 := Aside0.mk ((by rw [hg]; exact Nat.ne_of_lt (blk_lt (g := gb278) (o := .cells #[.int .i64 a0_0, .bool a0_1, .slice A0_2 l0_2.length c0_2] 24 (0, 0)) (BA BK278.out)) : gb278 ≠ gb328)); have NB328_278 := Aside0.mk ((by rw [hg]; exact Nat.ne_of_gt (blk_lt (g := gb278) (o := .cells #[.int .i64 a0_0, .bool a0_1, .slice A0_2 l0_2.length c0_2] 24 (0, 0)) (BA BK278.out)) : gb328 ≠ gb278)); replace BK278 := Aside0.mk (blk_below (BA BK278.out) hb); have NB279_328 := Aside0.mk ((by rw [hg]; exact Nat.ne_of_lt (blk_lt (g := gb279) (o := .cells #[.int .i64 a1_0, .int .i64 a1_1, .string a1_2] 26 (0, 0)) (BA BK279.out)) : gb279 ≠ gb328)); have NB328_279 := Aside0.mk ((by rw [hg]; exact Nat.ne_of_gt (blk_lt (g := gb279) (o := .cells #[.int .i64 a1_0, .int .i64 a1_1, .string a1_2] 26 (0, 0)) (BA BK279.out)) : gb328 ≠ gb279)); replace BK279 := Aside0.mk (blk_below (BA BK279.out) hb); have NB293_328 := Aside0.mk ((by rw [hg]; exact Nat.ne_of_lt (blk_lt (g := gb293) (o := .cells #[.int .i64 t287, .bool t288, .slice Ao26 t289.length co26] 31 (0, 0)) (BA BK293.out)) : gb293 ≠ gb328)); have NB328_293 := Aside0.mk ((by rw [hg]; exact Nat.ne_of_gt (blk_lt (g := gb293) (o := .cells #[.int .i64 t287, .bool t288, .slice Ao26 t289.length co26] 31 (0, 0)) (BA BK293.out)) : gb328 ≠ gb293)); replace BK293 := Aside0.mk (blk_below (BA BK293.out) hb); have NB308_328 := Aside0.mk ((by rw [hg]; exact Nat.ne_of_lt (blk_lt (g := gb308) (o := .cells #[.int .i64 t299, .bool t300, .slice Ao40 t301.length co40] 31 (0, 0)) (BA BK308.out)) : gb308 ≠ gb328)); have NB328_308 := Aside0.mk ((by rw [hg]; exact Nat.ne_of_gt (blk_lt (g := gb308) (o := .cells #[.int .i64 t299, .bool t300, .slice Ao40 t301.length co40] 31 (0, 0)) (BA BK308.out)) : gb328 ≠ gb308)); replace BK308 := Aside0.mk (blk_below (BA BK308.out) hb); have NB309_328 := Aside0.mk ((by rw [hg]; exact Nat.ne_of_lt (blk_lt (g := gb309) (o := .cells #[.int .i64 t304, .int .i64 t305, .string t306] 36 (0, 0)) (BA BK309.out)) : gb309 ≠ gb328)); have NB328_309 := Aside0.mk ((by rw [hg]; exact Nat.ne_of_gt (blk_lt (g := gb309) (o := .cells #[.int .i64 t304, .int .i64 t305, .string t306] 36 (0, 0)) (BA BK309.out)) : gb328 ≠ gb309)); replace BK309 := Aside0.mk (blk_below (BA BK309.out) hb); have NB321_328 := Aside0.mk ((by rw [hg]; exact Nat.ne_of_lt (blk_lt (g := gb321) (o := .cells #[.int .i64 t315, .bool t316, .slice Ao56 t317.length co56] 31 (0, 0)) (BA BK321.out)) : gb321 ≠ gb328)); have NB328_321 := Aside0.mk ((by rw [hg]; exact Nat.ne_of_gt (blk_lt (g := gb321) (o := .cells #[.int .i64 t315, .bool t316, .slice Ao56 t317.length co56] 31 (0, 0)) (BA BK321.out)) : gb328 ≠ gb321)); replace BK321 := Aside0.mk (blk_below (BA BK321.out) hb); clear hb hbox hg; have hnb63 := NB328_278.out; have hnc63 := NB278_328.out; have hnb64 := NB328_279.out; have hnc64 := NB279_328.out; have hnb65 := NB328_293.out; have hnc65 := NB293_328.out; have hnb66 := NB328_308.out; have hnc66 := NB308_328.out; have hnb67 := NB328_309.out; have hnc67 := NB309_328.out; have hnb68 := NB328_321.out; have hnc68 := NB321_328.out; obtain ⟨hcz69_0, hcz69_1, hcz69_2, hfz69_0, hfz69_1, hfz69_2⟩ := cz3 BK328.out; obtain ⟨Ao70, co70, eo70⟩ := Kd.V_slice HO326.out; subst eo70))
    (try simp only [Act.put, PU])
    go_cut [77] (fun v77 wc => ∃ (kq : Nat) (x77_11 : Bool), v77 = .bool x77_11 ∧ Aside0 (hopperlaw08_PipeCounts.j0 kq t307 t327 x77_11 a0_0 a0_1 l0_2 t299 t300 t301 t304 t305 t306 t315 t316 t317 = some true) ∧ Aside0 (kq ≤ k) ∧ Aside0 (Kd.V k36 36 wc w.heap.size (fun k_ => k_ ≠ gb278 ∧ k_ ≠ gb279 ∧ k_ ≠ gb293 ∧ k_ ≠ gb308 ∧ k_ ≠ gb309 ∧ k_ ≠ gb321 ∧ k_ ≠ gb328) (.slice Ao26 t289.length co26) t289) ∧ Aside0 (Kd.V k36 36 wc w.heap.size (fun k_ => k_ ≠ gb278 ∧ k_ ≠ gb279 ∧ k_ ≠ gb293 ∧ k_ ≠ gb308 ∧ k_ ≠ gb309 ∧ k_ ≠ gb321 ∧ k_ ≠ gb328) (.slice Ao40 t301.length co40) t301) ∧ Aside0 (Kd.V k36 36 wc w.heap.size (fun k_ => k_ ≠ gb278 ∧ k_ ≠ gb279 ∧ k_ ≠ gb293 ∧ k_ ≠ gb308 ∧ k_ ≠ gb309 ∧ k_ ≠ gb321 ∧ k_ ≠ gb328) (.slice Ao56 t317.length co56) t317) ∧ Aside0 (Kd.V k36 36 wc w.heap.size (fun k_ => k_ ≠ gb278 ∧ k_ ≠ gb279 ∧ k_ ≠ gb293 ∧ k_ ≠ gb308 ∧ k_ ≠ gb309 ∧ k_ ≠ gb321 ∧ k_ ≠ gb328) (.slice Ao70 t324.length co70) t324) ∧ Aside0 (wc.heap[gb278]? = some (.cells #[.int .i64 a0_0, .bool a0_1, (.slice A0_2 l0_2.length c0_2)] 24 (0, 0))) ∧ Aside0 (wc.heap[gb279]? = some (.cells #[.int .i64 a1_0, .int .i64 a1_1, .string a1_2] 26 (0, 0))) ∧ Aside0 (wc.heap[gb293]? = some (.cells #[.int .i64 t287, .bool t288, (.slice Ao26 t289.length co26)] 31 (0, 0))) ∧ Aside0 (wc.heap[gb308]? = some (.cells #[.int .i64 t299, .bool t300, (.slice Ao40 t301.length co40)] 31 (0, 0))) ∧ Aside0 (wc.heap[gb309]? = some (.cells #[.int .i64 t304, .int .i64 t305, .string t306] 36 (0, 0))) ∧ Aside0 (wc.heap[gb321]? = some (.cells #[.int .i64 t315, .bool t316, (.slice Ao56 t317.length co56)] 31 (0, 0))) ∧ Aside0 (wc.heap[gb328]? = some (.cells #[.int .i64 t322, .bool t323, (.slice Ao70 t324.length co70)] 31 (0, 0))) ∧ Aside0 (Below w.heap.size w wc))
    case first =>
      have H := HC12.out
      clear HC12
      by_cases c71 : t292 = 0
      · rw [if_pos c71] at H
        have c71b0 : (t292 == 0) = true := beq_iff_eq.mpr c71
        have c71b1 : (t292 != 0) = false := bne_eq_false_iff_eq.mpr c71
        clear c71
        (first | rw [c71b0] | (simp only [i64_w, i32_w]; rw [c71b0]) | skip)
        by_cases c72 : (t289.length : Int) = (wrap64 ((l0_2.length : Int) + 1))
        · rw [if_pos c72] at H
          have c72b0 : ((t289.length : Int) == (wrap64 ((l0_2.length : Int) + 1))) = true := beq_iff_eq.mpr c72
          have c72b1 : ((t289.length : Int) != (wrap64 ((l0_2.length : Int) + 1))) = false := bne_eq_false_iff_eq.mpr c72
          clear c72
          by_cases c73 : 0 ≤ (l0_2.length : Int)
          rotate_left
          · rw [if_neg c73] at H
            exact absurd H (by simp)
          rw [if_pos c73] at H
          have c73b0 : decide (0 ≤ (l0_2.length : Int)) = true := decide_eq_true c73
          have c73b1 : decide (0 ≤ l0_2.length) = true := decide_eq_true (by omega)
          clear c73
          by_cases c74 : (l0_2.length : Int) < (t289.length : Int)
          rotate_left
          · rw [if_neg c74] at H
            exact absurd H (by simp)
          rw [if_pos c74] at H
          have c74b0 : decide ((l0_2.length : Int) < (t289.length : Int)) = true := decide_eq_true c74
          have c74b1 : decide (l0_2.length < t289.length) = true := decide_eq_true (Int.ofNat_lt.mp c74)
          clear c74
          by_cases c75 : (!(((rd_T36 t289 (l0_2.length : Int)).f0) == a1_0) || (!(((rd_T36 t289 (l0_2.length : Int)).f1) == a1_1) || (!((((rd_T36 t289 (l0_2.length : Int)).f2).toList) == a1_2.toList)))) = true
          · rw [if_pos c75] at H
            have c75b0 : (!(((rd_T36 t289 (l0_2.length : Int)).f0) == a1_0) || (!(((rd_T36 t289 (l0_2.length : Int)).f1) == a1_1) || (!((((rd_T36 t289 (l0_2.length : Int)).f2).toList) == a1_2.toList)))) = true := c75
            (try (have c75q : (((rd_T36 t289 (l0_2.length : Int)).f0) = a1_0 ∧ ((rd_T36 t289 (l0_2.length : Int)).f1) = a1_1 ∧ (((rd_T36 t289 (l0_2.length : Int)).f2).toList) = a1_2.toList) = False := eq_false (fun ⟨h0_, h1_, h2_⟩ => by simp [h0_, h1_, h2_] at c75b0)))
            clear c75
            have H' := Aside0.mk H
            clear H
            try go_wp2
            have n0_ : Aside0 (Kd.R k36 36 (((w62.setCell ⟨gb328, 0, none⟩ (.int .i64 t322)).setCell ⟨gb328, 1, none⟩ (.bool t323)).setCell ⟨gb328, 2, none⟩ (.slice Ao70 t324.length co70)) w.heap.size (fun k_ => some k_ ≠ (.slice Ao31 t296.length co31 : Value).ownBlock ∧ some k_ ≠ (.slice Ao47 t312.length co47 : Value).ownBlock ∧ k_ ≠ gb309) v285 t284) := ⟨by (with_reducible repeat (first | apply Kd.R_alloc | apply Kd.R_drewN | apply Kd.R_drew)); exact Kd.R_mono (Kd.R_mv (g := gb328) (Kd.R_types HO286.out BK328.out (by decide)) (fun _ hk => hk.2)) (fun _ hk => ⟨hk.1.1, ⟨hk.1.2.1, hk.1.2.2⟩⟩)⟩
            have n1_ : Aside0 (Kd.V k36 36 (((w62.setCell ⟨gb328, 0, none⟩ (.int .i64 t322)).setCell ⟨gb328, 1, none⟩ (.bool t323)).setCell ⟨gb328, 2, none⟩ (.slice Ao70 t324.length co70)) w.heap.size (fun k_ => some k_ ≠ (.slice Ao31 t296.length co31 : Value).ownBlock ∧ some k_ ≠ (.slice Ao47 t312.length co47 : Value).ownBlock ∧ k_ ≠ gb278 ∧ k_ ≠ gb279 ∧ k_ ≠ gb293 ∧ k_ ≠ gb308 ∧ k_ ≠ gb309 ∧ k_ ≠ gb321 ∧ k_ ≠ gb328) (.slice Ao26 t289.length co26) t289) := ⟨by (with_reducible repeat (first | apply Kd.V_alloc | apply Kd.V_drewN | apply Kd.V_drew)); exact Kd.V_mono (Kd.V_mv (g := gb328) (Kd.V_mono HO291.out (fun k_ hk => (⟨hk, hk.2⟩ : _ ∧ k_ ≠ gb328))) (fun _ hk => hk.2)) (fun _ hk => ⟨hk.1.1.1, ⟨hk.1.1.2.1, ⟨hk.1.1.2.2.1, ⟨hk.1.1.2.2.2.1, ⟨hk.1.1.2.2.2.2.1, ⟨hk.1.1.2.2.2.2.2.1, ⟨hk.1.1.2.2.2.2.2.2.1, ⟨hk.1.1.2.2.2.2.2.2.2, hk.1.2⟩⟩⟩⟩⟩⟩⟩⟩)⟩
            have n2_ : Aside0 (Kd.R k36 36 (((w62.setCell ⟨gb328, 0, none⟩ (.int .i64 t322)).setCell ⟨gb328, 1, none⟩ (.bool t323)).setCell ⟨gb328, 2, none⟩ (.slice Ao70 t324.length co70)) w.heap.size (fun k_ => some k_ ≠ (v285 : Value).ownBlock ∧ some k_ ≠ (.slice Ao47 t312.length co47 : Value).ownBlock ∧ k_ ≠ gb309) (.slice Ao31 t296.length co31) t296) := ⟨by (with_reducible repeat (first | apply Kd.R_alloc | apply Kd.R_drewN | apply Kd.R_drew)); exact Kd.R_mono (Kd.R_mv (g := gb328) (Kd.R_types HO298.out BK328.out (by decide)) (fun _ hk => hk.2)) (fun _ hk => ⟨hk.1.1, ⟨hk.1.2.1, hk.1.2.2⟩⟩)⟩
            have n3_ : Aside0 (Kd.V k36 36 (((w62.setCell ⟨gb328, 0, none⟩ (.int .i64 t322)).setCell ⟨gb328, 1, none⟩ (.bool t323)).setCell ⟨gb328, 2, none⟩ (.slice Ao70 t324.length co70)) w.heap.size (fun k_ => some k_ ≠ (v285 : Value).ownBlock ∧ some k_ ≠ (.slice Ao47 t312.length co47 : Value).ownBlock ∧ k_ ≠ gb278 ∧ k_ ≠ gb279 ∧ k_ ≠ gb293 ∧ k_ ≠ gb308 ∧ k_ ≠ gb309 ∧ k_ ≠ gb321 ∧ k_ ≠ gb328) (.slice Ao40 t301.length co40) t301) := ⟨by (with_reducible repeat (first | apply Kd.V_alloc | apply Kd.V_drewN | apply Kd.V_drew)); exact Kd.V_mono (Kd.V_mv (g := gb328) (Kd.V_mono HO303.out (fun k_ hk => (⟨hk, hk.2⟩ : _ ∧ k_ ≠ gb328))) (fun _ hk => hk.2)) (fun _ hk => ⟨hk.1.1.1, ⟨hk.1.1.2.1, ⟨hk.1.1.2.2.1, ⟨hk.1.1.2.2.2.1, ⟨hk.1.1.2.2.2.2.1, ⟨hk.1.1.2.2.2.2.2.1, ⟨hk.1.1.2.2.2.2.2.2.1, ⟨hk.1.1.2.2.2.2.2.2.2, hk.1.2⟩⟩⟩⟩⟩⟩⟩⟩)⟩
            have n4_ : Aside0 (Kd.R k36 36 (((w62.setCell ⟨gb328, 0, none⟩ (.int .i64 t322)).setCell ⟨gb328, 1, none⟩ (.bool t323)).setCell ⟨gb328, 2, none⟩ (.slice Ao70 t324.length co70)) w.heap.size (fun k_ => some k_ ≠ (v285 : Value).ownBlock ∧ some k_ ≠ (.slice Ao31 t296.length co31 : Value).ownBlock ∧ k_ ≠ gb309) (.slice Ao47 t312.length co47) t312) := ⟨by (with_reducible repeat (first | apply Kd.R_alloc | apply Kd.R_drewN | apply Kd.R_drew)); exact Kd.R_mono (Kd.R_mv (g := gb328) (Kd.R_types HO314.out BK328.out (by decide)) (fun _ hk => hk.2)) (fun _ hk => ⟨hk.1.1, ⟨hk.1.2.1, hk.1.2.2⟩⟩)⟩
            have n5_ : Aside0 (Kd.V k36 36 (((w62.setCell ⟨gb328, 0, none⟩ (.int .i64 t322)).setCell ⟨gb328, 1, none⟩ (.bool t323)).setCell ⟨gb328, 2, none⟩ (.slice Ao70 t324.length co70)) w.heap.size (fun k_ => some k_ ≠ (v285 : Value).ownBlock ∧ some k_ ≠ (.slice Ao31 t296.length co31 : Value).ownBlock ∧ k_ ≠ gb278 ∧ k_ ≠ gb279 ∧ k_ ≠ gb293 ∧ k_ ≠ gb308 ∧ k_ ≠ gb309 ∧ k_ ≠ gb321 ∧ k_ ≠ gb328) (.slice Ao56 t317.length co56) t317) := ⟨by (with_reducible repeat (first | apply Kd.V_alloc | apply Kd.V_drewN | apply Kd.V_drew)); exact Kd.V_mono (Kd.V_mv (g := gb328) (Kd.V_mono HO319.out (fun k_ hk => (⟨hk, hk.2⟩ : _ ∧ k_ ≠ gb328))) (fun _ hk => hk.2)) (fun _ hk => ⟨hk.1.1.1, ⟨hk.1.1.2.1, ⟨hk.1.1.2.2.1, ⟨hk.1.1.2.2.2.1, ⟨hk.1.1.2.2.2.2.1, ⟨hk.1.1.2.2.2.2.2.1, ⟨hk.1.1.2.2.2.2.2.2.1, ⟨hk.1.1.2.2.2.2.2.2.2, hk.1.2⟩⟩⟩⟩⟩⟩⟩⟩)⟩
            have n6_ : Aside0 (Kd.V k36 36 (((w62.setCell ⟨gb328, 0, none⟩ (.int .i64 t322)).setCell ⟨gb328, 1, none⟩ (.bool t323)).setCell ⟨gb328, 2, none⟩ (.slice Ao70 t324.length co70)) w.heap.size (fun k_ => some k_ ≠ (v285 : Value).ownBlock ∧ some k_ ≠ (.slice Ao31 t296.length co31 : Value).ownBlock ∧ k_ ≠ gb278 ∧ k_ ≠ gb279 ∧ k_ ≠ gb293 ∧ k_ ≠ gb308 ∧ k_ ≠ gb309 ∧ k_ ≠ gb321 ∧ k_ ≠ gb328) (.slice Ao70 t324.length co70) t324) := ⟨by (with_reducible repeat (first | apply Kd.V_alloc | apply Kd.V_drewN | apply Kd.V_drew)); exact Kd.V_mono (Kd.V_mv (g := gb328) (Kd.V_mono HO326.out (fun k_ hk => (⟨hk, hk.2⟩ : _ ∧ k_ ≠ gb328))) (fun _ hk => hk.2)) (fun _ hk => ⟨hk.1.1.1, ⟨hk.1.1.2.1, ⟨hk.1.1.2.2.1, ⟨hk.1.1.2.2.2.1, ⟨hk.1.1.2.2.2.2.1, ⟨hk.1.1.2.2.2.2.2.1, ⟨hk.1.1.2.2.2.2.2.2.1, ⟨hk.1.1.2.2.2.2.2.2.2, hk.1.2⟩⟩⟩⟩⟩⟩⟩⟩)⟩
            have n7_ : Aside0 ((((w62.setCell ⟨gb328, 0, none⟩ (.int .i64 t322)).setCell ⟨gb328, 1, none⟩ (.bool t323)).setCell ⟨gb328, 2, none⟩ (.slice Ao70 t324.length co70)).heap[gb278]? = some (.cells #[.int .i64 a0_0, .bool a0_1, .slice A0_2 l0_2.length c0_2] 24 (0, 0))) := ⟨by exact BF BK278.out NB278_328.out⟩
            have n8_ : Aside0 ((((w62.setCell ⟨gb328, 0, none⟩ (.int .i64 t322)).setCell ⟨gb328, 1, none⟩ (.bool t323)).setCell ⟨gb328, 2, none⟩ (.slice Ao70 t324.length co70)).heap[gb279]? = some (.cells #[.int .i64 a1_0, .int .i64 a1_1, .string a1_2] 26 (0, 0))) := ⟨by exact BF BK279.out NB279_328.out⟩
            have n9_ : Aside0 ((((w62.setCell ⟨gb328, 0, none⟩ (.int .i64 t322)).setCell ⟨gb328, 1, none⟩ (.bool t323)).setCell ⟨gb328, 2, none⟩ (.slice Ao70 t324.length co70)).heap[gb293]? = some (.cells #[.int .i64 t287, .bool t288, .slice Ao26 t289.length co26] 31 (0, 0))) := ⟨by exact BF BK293.out NB293_328.out⟩
            have n10_ : Aside0 ((((w62.setCell ⟨gb328, 0, none⟩ (.int .i64 t322)).setCell ⟨gb328, 1, none⟩ (.bool t323)).setCell ⟨gb328, 2, none⟩ (.slice Ao70 t324.length co70)).heap[gb308]? = some (.cells #[.int .i64 t299, .bool t300, .slice Ao40 t301.length co40] 31 (0, 0))) := ⟨by exact BF BK308.out NB308_328.out⟩
            have n11_ : Aside0 ((((w62.setCell ⟨gb328, 0, none⟩ (.int .i64 t322)).setCell ⟨gb328, 1, none⟩ (.bool t323)).setCell ⟨gb328, 2, none⟩ (.slice Ao70 t324.length co70)).heap[gb309]? = some (.cells #[.int .i64 t304, .int .i64 t305, .string t306] 36 (0, 0))) := ⟨by exact BF BK309.out NB309_328.out⟩
            have n12_ : Aside0 ((((w62.setCell ⟨gb328, 0, none⟩ (.int .i64 t322)).setCell ⟨gb328, 1, none⟩ (.bool t323)).setCell ⟨gb328, 2, none⟩ (.slice Ao70 t324.length co70)).heap[gb321]? = some (.cells #[.int .i64 t315, .bool t316, .slice Ao56 t317.length co56] 31 (0, 0))) := ⟨by exact BF BK321.out NB321_328.out⟩
            have n13_ : Aside0 ((((w62.setCell ⟨gb328, 0, none⟩ (.int .i64 t322)).setCell ⟨gb328, 1, none⟩ (.bool t323)).setCell ⟨gb328, 2, none⟩ (.slice Ao70 t324.length co70)).heap[gb328]? = some (.cells #[.int .i64 t322, .bool t323, .slice Ao70 t324.length co70] 31 (0, 0))) := ⟨by exact BP BK328.out (by rfl)⟩
            have n14_ : Aside0 (Below w.heap.size w (((w62.setCell ⟨gb328, 0, none⟩ (.int .i64 t322)).setCell ⟨gb328, 1, none⟩ (.bool t323)).setCell ⟨gb328, 2, none⟩ (.slice Ao70 t324.length co70))) := ⟨LG HB.out (G1 GE278.out (G1 GE279.out (G1 GE293.out (G1 GE308.out (G1 GE309.out (G1 GE321.out (G1 GE328.out G0)))))))⟩
            (try clear HO286)
            (try clear HO291)
            (try clear HO298)
            (try clear HO303)
            (try clear HO314)
            (try clear HO319)
            (try clear HO326)
            (try clear BK278)
            (try clear BK279)
            (try clear BK293)
            (try clear BK308)
            (try clear BK309)
            (try clear BK321)
            (try clear BK328)
            (try clear HB)
            generalize (((w62.setCell ⟨gb328, 0, none⟩ (.int .i64 t322)).setCell ⟨gb328, 1, none⟩ (.bool t323)).setCell ⟨gb328, 2, none⟩ (.slice Ao70 t324.length co70)) = w76 at n0_ n1_ n2_ n3_ n4_ n5_ n6_ n7_ n8_ n9_ n10_ n11_ n12_ n13_ n14_ ⊢
            have HO286 := n0_
            have HO291 := n1_
            have HO298 := n2_
            have HO303 := n3_
            have HO314 := n4_
            have HO319 := n5_
            have HO326 := n6_
            have BK278 := n7_
            have BK279 := n8_
            have BK293 := n9_
            have BK308 := n10_
            have BK309 := n11_
            have BK321 := n12_
            have BK328 := n13_
            have HB := n14_
            clear n0_ n1_ n2_ n3_ n4_ n5_ n6_ n7_ n8_ n9_ n10_ n11_ n12_ n13_ n14_
            have n0_ := Aside0.mk (Kd.R_drew HO286.out)
            have n1_ := Aside0.mk (Kd.V_drew HO291.out)
            have n2_ := Aside0.mk (Kd.R_drew HO298.out)
            have n3_ := Aside0.mk (Kd.V_drew HO303.out)
            have n4_ := Aside0.mk (Kd.R_drew HO314.out)
            have n5_ := Aside0.mk (Kd.V_drew HO319.out)
            have n6_ := Aside0.mk (Kd.V_drew HO326.out)
            have n7_ := Aside0.mk (blk_drew BK278.out)
            have n8_ := Aside0.mk (blk_drew BK279.out)
            have n9_ := Aside0.mk (blk_drew BK293.out)
            have n10_ := Aside0.mk (blk_drew BK308.out)
            have n11_ := Aside0.mk (blk_drew BK309.out)
            have n12_ := Aside0.mk (blk_drew BK321.out)
            have n13_ := Aside0.mk (blk_drew BK328.out)
            have n14_ := Aside0.mk (below_drew1 HB.out)
            clear HO286
            clear HO291
            clear HO298
            clear HO303
            clear HO314
            clear HO319
            clear HO326
            clear BK278
            clear BK279
            clear BK293
            clear BK308
            clear BK309
            clear BK321
            clear BK328
            clear HB
            have HO286 := n0_
            have HO291 := n1_
            have HO298 := n2_
            have HO303 := n3_
            have HO314 := n4_
            have HO319 := n5_
            have HO326 := n6_
            have BK278 := n7_
            have BK279 := n8_
            have BK293 := n9_
            have BK308 := n10_
            have BK309 := n11_
            have BK321 := n12_
            have BK328 := n13_
            have HB := n14_
            clear n0_ n1_ n2_ n3_ n4_ n5_ n6_ n7_ n8_ n9_ n10_ n11_ n12_ n13_ n14_
            have p329 : 0 ≤ ((l0_2.length : Int) : Int) := of_decide_eq_true (by first | (with_reducible assumption) | assumption)
            have q329 : (l0_2.length : Int) < (t289.length : Int) := of_decide_eq_true (by first | (with_reducible assumption) | assumption)
            obtain ⟨ad329, e329, hx329_0, hx329_1, hx329_2⟩ := at_T36 (Kd.V_reads' HO291.out).2.2 (l0_2.length : Int) p329 q329
            cases e329
            (try simp only [Go.IntWalk.toNatUp] at hx329_0)
            (try simp only [Go.IntWalk.toNatUp] at hx329_1)
            (try simp only [Go.IntWalk.toNatUp] at hx329_2)
            replace p329 := eq_true p329
            replace q329 := eq_true q329
            refine start_ (n := 34) (S := fun w' => w'.cell? ⟨gb293, 0, none⟩ = some (.int .i64 t287) ∧ w'.cell? ⟨gb293, 1, none⟩ = some (.bool t288) ∧ w'.cell? ⟨gb293, 2, none⟩ = some (.slice (some ad329) t289.length co26) ∧ w'.cell? ⟨gb278, 0, none⟩ = some (.int .i64 a0_0) ∧ w'.cell? ⟨gb278, 1, none⟩ = some (.bool a0_1) ∧ w'.cell? ⟨gb278, 2, none⟩ = some (.slice A0_2 l0_2.length c0_2) ∧ w'.cell? ⟨gb279, 0, none⟩ = some (.int .i64 a1_0) ∧ w'.cell? ⟨gb279, 1, none⟩ = some (.int .i64 a1_1) ∧ w'.cell? ⟨gb279, 2, none⟩ = some (.string a1_2) ∧ w'.cell? (ad329.add (l0_2.length * 3)) = some (.int .i64 ((rd_T36 t289 (l0_2.length : Int)).f0)) ∧ w'.cell? ⟨(ad329.add (l0_2.length * 3)).block, (ad329.add (l0_2.length * 3)).off + 1, none⟩ = some (.int .i64 ((rd_T36 t289 (l0_2.length : Int)).f1)) ∧ w'.cell? ⟨(ad329.add (l0_2.length * 3)).block, (ad329.add (l0_2.length * 3)).off + 2, none⟩ = some (.string ((rd_T36 t289 (l0_2.length : Int)).f2))) (ds := []) (tf 0 34) (by kernel_rfl) rfl rfl ⟨(blk_cell BK293.out 0).trans rfl, (blk_cell BK293.out 1).trans rfl, (blk_cell BK293.out 2).trans rfl, (blk_cell BK278.out 0).trans rfl, (blk_cell BK278.out 1).trans rfl, (blk_cell BK278.out 2).trans rfl, (blk_cell BK279.out 0).trans rfl, (blk_cell BK279.out 1).trans rfl, (blk_cell BK279.out 2).trans rfl, hx329_0, hx329_1, hx329_2⟩ (fun hHeld => ?_); refine with_tabW hopperlaw08_PipeCounts.tab7 hopperlaw08_PipeCounts.bits7 (fun HT_ HW_ => ?_)
            generalize w76.drew = w77 at HO286 HO291 HO298 HO303 HO314 HO319 HO326 BK278 BK279 BK293 BK308 BK309 BK321 BK328 HB hx329_0 hx329_1 hx329_2 hHeld ⊢
            refine pure_ (i := 0) (N := some 44) (v := ?_) (a' := ?_) (tf 1 34) rfl rfl (any_of HT_.out (by kernel_rfl)) (fun _ _ _ h => h) (Or.inl ⟨by rfl, ?_⟩) ?_ ?_
            rotate_left
            · intro w'
              go_simp
              with_reducible rfl
            rotate_left
            · simp only [Act.put, PU, i64_w, i32_w]
              rfl
            refine pure_ (i := 1) (N := some 45) (v := ?_) (a' := ?_) (tf 2 34) rfl rfl (any_of HT_.out (by kernel_rfl)) (fun _ _ _ h => h) (Or.inl ⟨by rfl, ?_⟩) ?_ ?_
            rotate_left
            · intro w'
              go_simp
              with_reducible rfl
            rotate_left
            · simp only [Act.put, PU, i64_w, i32_w]
              rfl
            refine pure_ (i := 2) (N := some 46) (v := ?_) (a' := ?_) (tf 3 34) rfl rfl (any_of HT_.out (by kernel_rfl)) (fun _ _ _ h => h) (Or.inl ⟨by rfl, ?_⟩) ?_ ?_
            rotate_left
            · intro w'
              go_simp
              with_reducible rfl
            rotate_left
            · simp only [Act.put, PU, i64_w, i32_w]
              rfl
            refine pure_ (i := 3) (N := some 47) (v := ?_) (a' := ?_) (tf 4 34) rfl rfl (any_of HT_.out (by kernel_rfl)) (fun _ _ _ h => h) (Or.inl ⟨by rfl, ?_⟩) ?_ ?_
            rotate_left
            · intro w'
              go_simp
              with_reducible rfl
            rotate_left
            · simp only [Act.put, PU, i64_w, i32_w]
              rfl
            refine pure_ (i := 6) (N := some 50) (v := ?_) (a' := ?_) #[true, true, true, true, false, false, true, false, false, false, false, false, false, false, false, false, false, false, false, false, false, false, false, false, false, false, false, false, false, false, false, false, false, false] rfl rfl (any_of HT_.out (by kernel_rfl)) (fun _ _ _ h => h) (Or.inl ⟨by rfl, ?_⟩) ?_ ?_
            rotate_left
            · intro w'
              go_simp
              with_reducible rfl
            rotate_left
            · simp only [Act.put, PU, i64_w, i32_w]
              rfl
            refine take_ (i := 4) (N := some 48) (v := ?_) (a' := ?_) #[true, true, true, true, true, false, true, false, false, false, false, false, false, false, false, false, false, false, false, false, false, false, false, false, false, false, false, false, false, false, false, false, false, false] rfl rfl (take_ofW HT_.out HW_.out (by kernel_rfl)) (fun _ _ _ h => h) (Or.inl ⟨by rfl, ?_⟩) hHeld ?_ ?_
            rotate_left
            · rintro w' ⟨s0, s1, s2, s3, s4, s5, s6, s7, s8, s9, s10, s11⟩
              go_simp
              with_reducible rfl
            rotate_left
            · simp only [Act.put, PU, i64_w, i32_w]
              rfl
            refine pure_ (i := 5) (N := some 49) (v := ?_) (a' := ?_) (tf 7 34) rfl rfl (any_of HT_.out (by kernel_rfl)) (fun _ _ _ h => h) (Or.inl ⟨by rfl, ?_⟩) ?_ ?_
            rotate_left
            · intro w'
              go_simp
              with_reducible rfl
            rotate_left
            · simp only [Act.put, PU, i64_w, i32_w]
              rfl
            refine take_ (i := 7) (N := some 51) (v := ?_) (a' := ?_) (tf 8 34) rfl rfl (take_ofW HT_.out HW_.out (by kernel_rfl)) (fun _ _ _ h => h) (Or.inl ⟨by rfl, ?_⟩) hHeld ?_ ?_
            rotate_left
            · rintro w' ⟨s0, s1, s2, s3, s4, s5, s6, s7, s8, s9, s10, s11⟩
              go_simp
              with_reducible rfl
            rotate_left
            · simp only [Act.put, PU, i64_w, i32_w]
              rfl
            refine pure_ (i := 8) (N := some 52) (v := ?_) (a' := ?_) (tf 9 34) rfl rfl (any_of HT_.out (by kernel_rfl)) (fun _ _ _ h => h) (Or.inl ⟨by rfl, ?_⟩) ?_ ?_
            rotate_left
            · intro w'
              go_simp
              with_reducible rfl
            rotate_left
            · simp only [Act.put, PU, i64_w, i32_w]
              rfl
            refine pure_ (i := 9) (N := some 53) (v := ?_) (a' := ?_) (tf 10 34) rfl rfl (any_of HT_.out (by kernel_rfl)) (fun _ _ _ h => h) (Or.inl ⟨by rfl, ?_⟩) ?_ ?_
            rotate_left
            · intro w'
              go_simp
              with_reducible rfl
            rotate_left
            · simp only [Act.put, PU, i64_w, i32_w]
              rfl
            refine pure_ (i := 10) (N := some 54) (v := ?_) (a' := ?_) (tf 11 34) rfl rfl (any_of HT_.out (by kernel_rfl)) (fun _ _ _ h => h) (Or.inl ⟨by rfl, ?_⟩) ?_ ?_
            rotate_left
            · intro w'
              go_simp
              with_reducible rfl
            rotate_left
            · simp only [Act.put, PU, i64_w, i32_w]
              rfl
            refine pure_ (i := 11) (N := some 55) (v := ?_) (a' := ?_) (tf 12 34) rfl rfl (any_of HT_.out (by kernel_rfl)) (fun _ _ _ h => h) (Or.inl ⟨by rfl, ?_⟩) ?_ ?_
            rotate_left
            · intro w'
              go_simp
              with_reducible rfl
            rotate_left
            · simp only [Act.put, PU, i64_w, i32_w]
              rfl
            refine pure_ (i := 12) (N := some 56) (v := ?_) (a' := ?_) (tf 13 34) rfl rfl (any_of HT_.out (by kernel_rfl)) (fun _ _ _ h => h) (Or.inl ⟨by rfl, ?_⟩) ?_ ?_
            rotate_left
            · intro w'
              go_simp
              with_reducible rfl
            rotate_left
            · simp only [Act.put, PU, i64_w, i32_w]
              rfl
            refine pure_ (i := 14) (N := some 58) (v := ?_) (a' := ?_) #[true, true, true, true, true, true, true, true, true, true, true, true, true, false, true, false, false, false, false, false, false, false, false, false, false, false, false, false, false, false, false, false, false, false] rfl rfl (any_of HT_.out (by kernel_rfl)) (fun _ _ _ h => h) (Or.inl ⟨by rfl, ?_⟩) ?_ ?_
            rotate_left
            · intro w'
              go_simp
              with_reducible rfl
            rotate_left
            · simp only [Act.put, PU, i64_w, i32_w]
              rfl
            refine take_ (i := 13) (N := some 57) (v := ?_) (a' := ?_) (tf 15 34) rfl rfl (take_ofW HT_.out HW_.out (by kernel_rfl)) (fun _ _ _ h => h) (Or.inl ⟨by rfl, ?_⟩) hHeld ?_ ?_
            rotate_left
            · rintro w' ⟨s0, s1, s2, s3, s4, s5, s6, s7, s8, s9, s10, s11⟩
              go_simp
              with_reducible rfl
            rotate_left
            · simp only [Act.put, PU, i64_w, i32_w]
              rfl
            refine take_ (i := 15) (N := some 59) (v := ?_) (a' := ?_) (tf 16 34) rfl rfl (take_ofW HT_.out HW_.out (by kernel_rfl)) (fun _ _ _ h => h) (Or.inl ⟨by rfl, ?_⟩) hHeld ?_ ?_
            rotate_left
            · rintro w' ⟨s0, s1, s2, s3, s4, s5, s6, s7, s8, s9, s10, s11⟩
              go_simp
              with_reducible rfl
            rotate_left
            · simp only [Act.put, PU, i64_w, i32_w]
              rfl
            refine pure_ (i := 16) (N := some 60) (v := ?_) (a' := ?_) (tf 17 34) rfl rfl (any_of HT_.out (by kernel_rfl)) (fun _ _ _ h => h) (Or.inl ⟨by rfl, ?_⟩) ?_ ?_
            rotate_left
            · intro w'
              go_simp
              with_reducible rfl
            rotate_left
            · simp only [Act.put, PU, i64_w, i32_w]
              rfl
            refine pure_ (i := 17) (N := some 61) (v := ?_) (a' := ?_) (tf 18 34) rfl rfl (any_of HT_.out (by kernel_rfl)) (fun _ _ _ h => h) (Or.inl ⟨by rfl, ?_⟩) ?_ ?_
            rotate_left
            · intro w'
              go_simp
              with_reducible rfl
            rotate_left
            · simp only [Act.put, PU, i64_w, i32_w]
              rfl
            refine take_ (i := 18) (N := some 62) (v := ?_) (a' := ?_) (tf 19 34) rfl rfl (take_ofW HT_.out HW_.out (by kernel_rfl)) (fun _ _ _ h => h) (Or.inl ⟨by rfl, ?_⟩) hHeld ?_ ?_
            rotate_left
            · rintro w' ⟨s0, s1, s2, s3, s4, s5, s6, s7, s8, s9, s10, s11⟩
              go_simp
              with_reducible rfl
            rotate_left
            · simp only [Act.put, PU, i64_w, i32_w]
              rfl
            refine take_ (i := 19) (N := some 63) (v := ?_) (a' := ?_) (tf 20 34) rfl rfl (take_ofW HT_.out HW_.out (by kernel_rfl)) (fun _ _ _ h => h) (Or.inl ⟨by rfl, ?_⟩) hHeld ?_ ?_
            rotate_left
            · rintro w' ⟨s0, s1, s2, s3, s4, s5, s6, s7, s8, s9, s10, s11⟩
              go_simp
              with_reducible rfl
            rotate_left
            · simp only [Act.put, PU, i64_w, i32_w]
              rfl
            refine pure_ (i := 20) (N := some 64) (v := ?_) (a' := ?_) (tf 21 34) rfl rfl (any_of HT_.out (by kernel_rfl)) (fun _ _ _ h => h) (Or.inl ⟨by rfl, ?_⟩) ?_ ?_
            rotate_left
            · intro w'
              go_simp
              with_reducible rfl
            rotate_left
            · simp only [Act.put, PU, i64_w, i32_w]
              rfl
            refine pure_ (i := 21) (N := some 65) (v := ?_) (a' := ?_) (tf 22 34) rfl rfl (any_of HT_.out (by kernel_rfl)) (fun _ _ _ h => h) (Or.inl ⟨by rfl, ?_⟩) ?_ ?_
            rotate_left
            · intro w'
              go_simp
              with_reducible rfl
            rotate_left
            · simp only [Act.put, PU, i64_w, i32_w]
              rfl
            refine pure_ (i := 22) (N := some 66) (v := ?_) (a' := ?_) (tf 23 34) rfl rfl (any_of HT_.out (by kernel_rfl)) (fun _ _ _ h => h) (Or.inl ⟨by rfl, ?_⟩) ?_ ?_
            rotate_left
            · intro w'
              go_simp
              with_reducible rfl
            rotate_left
            · simp only [Act.put, PU, i64_w, i32_w]
              rfl
            refine pure_ (i := 23) (N := some 67) (v := ?_) (a' := ?_) (tf 24 34) rfl rfl (any_of HT_.out (by kernel_rfl)) (fun _ _ _ h => h) (Or.inl ⟨by rfl, ?_⟩) ?_ ?_
            rotate_left
            · intro w'
              go_simp
              with_reducible rfl
            rotate_left
            · simp only [Act.put, PU, i64_w, i32_w]
              rfl
            refine pure_ (i := 24) (N := some 68) (v := undef) (a' := ?_) (tf 25 34) rfl rfl (any_of HT_.out (by kernel_rfl)) (fun _ _ _ h => h) (Or.inr ⟨by rfl, rfl⟩) ?_ ?_
            rotate_left
            · simp only [Act.put, PU, i64_w, i32_w]
              rfl
            refine pure_ (i := 25) (N := some 69) (v := undef) (a' := ?_) (tf 26 34) rfl rfl (any_of HT_.out (by kernel_rfl)) (fun _ _ _ h => h) (Or.inr ⟨by rfl, rfl⟩) ?_ ?_
            rotate_left
            · simp only [Act.put, PU, i64_w, i32_w]
              rfl
            refine pure_ (i := 26) (N := some 70) (v := undef) (a' := ?_) (tf 27 34) rfl rfl (any_of HT_.out (by kernel_rfl)) (fun _ _ _ h => h) (Or.inr ⟨by rfl, rfl⟩) ?_ ?_
            rotate_left
            · simp only [Act.put, PU, i64_w, i32_w]
              rfl
            refine pure_ (i := 27) (N := some 71) (v := undef) (a' := ?_) (tf 28 34) rfl rfl (any_of HT_.out (by kernel_rfl)) (fun _ _ _ h => h) (Or.inr ⟨by rfl, rfl⟩) ?_ ?_
            rotate_left
            · simp only [Act.put, PU, i64_w, i32_w]
              rfl
            refine pure_ (i := 28) (N := some 72) (v := undef) (a' := ?_) (tf 29 34) rfl rfl (any_of HT_.out (by kernel_rfl)) (fun _ _ _ h => h) (Or.inr ⟨by rfl, rfl⟩) ?_ ?_
            rotate_left
            · simp only [Act.put, PU, i64_w, i32_w]
              rfl
            refine pure_ (i := 29) (N := some 73) (v := undef) (a' := ?_) (tf 30 34) rfl rfl (any_of HT_.out (by kernel_rfl)) (fun _ _ _ h => h) (Or.inr ⟨by rfl, rfl⟩) ?_ ?_
            rotate_left
            · simp only [Act.put, PU, i64_w, i32_w]
              rfl
            refine pure_ (i := 30) (N := some 74) (v := undef) (a' := ?_) (tf 31 34) rfl rfl (any_of HT_.out (by kernel_rfl)) (fun _ _ _ h => h) (Or.inr ⟨by rfl, rfl⟩) ?_ ?_
            rotate_left
            · simp only [Act.put, PU, i64_w, i32_w]
              rfl
            refine pure_ (i := 31) (N := some 75) (v := undef) (a' := ?_) (tf 32 34) rfl rfl (any_of HT_.out (by kernel_rfl)) (fun _ _ _ h => h) (Or.inr ⟨by rfl, rfl⟩) ?_ ?_
            rotate_left
            · simp only [Act.put, PU, i64_w, i32_w]
              rfl
            refine pure_ (i := 32) (N := some 76) (v := undef) (a' := ?_) (tf 33 34) rfl rfl (any_of HT_.out (by kernel_rfl)) (fun _ _ _ h => h) (Or.inr ⟨by rfl, rfl⟩) ?_ ?_
            rotate_left
            · simp only [Act.put, PU, i64_w, i32_w]
              rfl
            refine pure_ (i := 33) (N := some 77) (v := ?_) (a' := ?_) (tf 34 34) rfl rfl (any_of HT_.out (by kernel_rfl)) (fun _ _ _ h => h) (Or.inl ⟨by rfl, ?_⟩) ?_ ?_
            rotate_left
            · intro w'
              go_simp
              with_reducible rfl
            rotate_left
            · simp only [Act.put, PU, i64_w, i32_w]
              rfl
            refine done_ (done_of HT_.out (by kernel_rfl)) ?_
            try go_wp2
            go_meet
            case rel => exact ⟨_, (true), (by first | (rw [HR_.out]; done) | rfl | (rw [HR_.out]; rfl) | (simp [HR_.out]; done) | (simp; done) | (simp [*]; done)), H', ⟨by first | omega | exact Nat.le_refl _⟩, ⟨by (with_reducible repeat (first | apply Kd.V_alloc | apply Kd.V_drewN | apply Kd.V_drew)); exact Kd.V_mono HO291.out (fun _ hk => ⟨hk.2.2.1, ⟨hk.2.2.2.1, ⟨hk.2.2.2.2.1, ⟨hk.2.2.2.2.2.1, ⟨hk.2.2.2.2.2.2.1, ⟨hk.2.2.2.2.2.2.2.1, hk.2.2.2.2.2.2.2.2⟩⟩⟩⟩⟩⟩)⟩, ⟨by (with_reducible repeat (first | apply Kd.V_alloc | apply Kd.V_drewN | apply Kd.V_drew)); exact Kd.V_mono HO303.out (fun _ hk => ⟨hk.2.2.1, ⟨hk.2.2.2.1, ⟨hk.2.2.2.2.1, ⟨hk.2.2.2.2.2.1, ⟨hk.2.2.2.2.2.2.1, ⟨hk.2.2.2.2.2.2.2.1, hk.2.2.2.2.2.2.2.2⟩⟩⟩⟩⟩⟩)⟩, ⟨by (with_reducible repeat (first | apply Kd.V_alloc | apply Kd.V_drewN | apply Kd.V_drew)); exact Kd.V_mono HO319.out (fun _ hk => ⟨hk.2.2.1, ⟨hk.2.2.2.1, ⟨hk.2.2.2.2.1, ⟨hk.2.2.2.2.2.1, ⟨hk.2.2.2.2.2.2.1, ⟨hk.2.2.2.2.2.2.2.1, hk.2.2.2.2.2.2.2.2⟩⟩⟩⟩⟩⟩)⟩, ⟨by (with_reducible repeat (first | apply Kd.V_alloc | apply Kd.V_drewN | apply Kd.V_drew)); exact Kd.V_mono HO326.out (fun _ hk => ⟨hk.2.2.1, ⟨hk.2.2.2.1, ⟨hk.2.2.2.2.1, ⟨hk.2.2.2.2.2.1, ⟨hk.2.2.2.2.2.2.1, ⟨hk.2.2.2.2.2.2.2.1, hk.2.2.2.2.2.2.2.2⟩⟩⟩⟩⟩⟩)⟩, ⟨by (with_reducible repeat (first | refine blk_drewN ?_ _ | refine blk_drew ?_ | refine blk_alloc ?_ _)); exact BK278.out⟩, ⟨by (with_reducible repeat (first | refine blk_drewN ?_ _ | refine blk_drew ?_ | refine blk_alloc ?_ _)); exact BK279.out⟩, ⟨by (with_reducible repeat (first | refine blk_drewN ?_ _ | refine blk_drew ?_ | refine blk_alloc ?_ _)); exact BK293.out⟩, ⟨by (with_reducible repeat (first | refine blk_drewN ?_ _ | refine blk_drew ?_ | refine blk_alloc ?_ _)); exact BK308.out⟩, ⟨by (with_reducible repeat (first | refine blk_drewN ?_ _ | refine blk_drew ?_ | refine blk_alloc ?_ _)); exact BK309.out⟩, ⟨by (with_reducible repeat (first | refine blk_drewN ?_ _ | refine blk_drew ?_ | refine blk_alloc ?_ _)); exact BK321.out⟩, ⟨by (with_reducible repeat (first | refine blk_drewN ?_ _ | refine blk_drew ?_ | refine blk_alloc ?_ _)); exact BK328.out⟩, ⟨LG HB.out (G1 GE278.out (G1 GE279.out (G1 GE293.out (G1 GE308.out (G1 GE309.out (G1 GE321.out (G1 GE328.out G0)))))))⟩⟩
          · rw [if_neg c75] at H
            have c75b0 : (!(((rd_T36 t289 (l0_2.length : Int)).f0) == a1_0) || (!(((rd_T36 t289 (l0_2.length : Int)).f1) == a1_1) || (!((((rd_T36 t289 (l0_2.length : Int)).f2).toList) == a1_2.toList)))) = false := by simpa using c75
            (try (have c75q : (((rd_T36 t289 (l0_2.length : Int)).f0) = a1_0 ∧ ((rd_T36 t289 (l0_2.length : Int)).f1) = a1_1 ∧ (((rd_T36 t289 (l0_2.length : Int)).f2).toList) = a1_2.toList) = True := eq_true (by simpa using c75b0)))
            clear c75
            have H' := Aside0.mk H
            clear H
            try go_wp2
            have n0_ : Aside0 (Kd.R k36 36 (((w62.setCell ⟨gb328, 0, none⟩ (.int .i64 t322)).setCell ⟨gb328, 1, none⟩ (.bool t323)).setCell ⟨gb328, 2, none⟩ (.slice Ao70 t324.length co70)) w.heap.size (fun k_ => some k_ ≠ (.slice Ao31 t296.length co31 : Value).ownBlock ∧ some k_ ≠ (.slice Ao47 t312.length co47 : Value).ownBlock ∧ k_ ≠ gb309) v285 t284) := ⟨by (with_reducible repeat (first | apply Kd.R_alloc | apply Kd.R_drewN | apply Kd.R_drew)); exact Kd.R_mono (Kd.R_mv (g := gb328) (Kd.R_types HO286.out BK328.out (by decide)) (fun _ hk => hk.2)) (fun _ hk => ⟨hk.1.1, ⟨hk.1.2.1, hk.1.2.2⟩⟩)⟩
            have n1_ : Aside0 (Kd.V k36 36 (((w62.setCell ⟨gb328, 0, none⟩ (.int .i64 t322)).setCell ⟨gb328, 1, none⟩ (.bool t323)).setCell ⟨gb328, 2, none⟩ (.slice Ao70 t324.length co70)) w.heap.size (fun k_ => some k_ ≠ (.slice Ao31 t296.length co31 : Value).ownBlock ∧ some k_ ≠ (.slice Ao47 t312.length co47 : Value).ownBlock ∧ k_ ≠ gb278 ∧ k_ ≠ gb279 ∧ k_ ≠ gb293 ∧ k_ ≠ gb308 ∧ k_ ≠ gb309 ∧ k_ ≠ gb321 ∧ k_ ≠ gb328) (.slice Ao26 t289.length co26) t289) := ⟨by (with_reducible repeat (first | apply Kd.V_alloc | apply Kd.V_drewN | apply Kd.V_drew)); exact Kd.V_mono (Kd.V_mv (g := gb328) (Kd.V_mono HO291.out (fun k_ hk => (⟨hk, hk.2⟩ : _ ∧ k_ ≠ gb328))) (fun _ hk => hk.2)) (fun _ hk => ⟨hk.1.1.1, ⟨hk.1.1.2.1, ⟨hk.1.1.2.2.1, ⟨hk.1.1.2.2.2.1, ⟨hk.1.1.2.2.2.2.1, ⟨hk.1.1.2.2.2.2.2.1, ⟨hk.1.1.2.2.2.2.2.2.1, ⟨hk.1.1.2.2.2.2.2.2.2, hk.1.2⟩⟩⟩⟩⟩⟩⟩⟩)⟩
            have n2_ : Aside0 (Kd.R k36 36 (((w62.setCell ⟨gb328, 0, none⟩ (.int .i64 t322)).setCell ⟨gb328, 1, none⟩ (.bool t323)).setCell ⟨gb328, 2, none⟩ (.slice Ao70 t324.length co70)) w.heap.size (fun k_ => some k_ ≠ (v285 : Value).ownBlock ∧ some k_ ≠ (.slice Ao47 t312.length co47 : Value).ownBlock ∧ k_ ≠ gb309) (.slice Ao31 t296.length co31) t296) := ⟨by (with_reducible repeat (first | apply Kd.R_alloc | apply Kd.R_drewN | apply Kd.R_drew)); exact Kd.R_mono (Kd.R_mv (g := gb328) (Kd.R_types HO298.out BK328.out (by decide)) (fun _ hk => hk.2)) (fun _ hk => ⟨hk.1.1, ⟨hk.1.2.1, hk.1.2.2⟩⟩)⟩
            have n3_ : Aside0 (Kd.V k36 36 (((w62.setCell ⟨gb328, 0, none⟩ (.int .i64 t322)).setCell ⟨gb328, 1, none⟩ (.bool t323)).setCell ⟨gb328, 2, none⟩ (.slice Ao70 t324.length co70)) w.heap.size (fun k_ => some k_ ≠ (v285 : Value).ownBlock ∧ some k_ ≠ (.slice Ao47 t312.length co47 : Value).ownBlock ∧ k_ ≠ gb278 ∧ k_ ≠ gb279 ∧ k_ ≠ gb293 ∧ k_ ≠ gb308 ∧ k_ ≠ gb309 ∧ k_ ≠ gb321 ∧ k_ ≠ gb328) (.slice Ao40 t301.length co40) t301) := ⟨by (with_reducible repeat (first | apply Kd.V_alloc | apply Kd.V_drewN | apply Kd.V_drew)); exact Kd.V_mono (Kd.V_mv (g := gb328) (Kd.V_mono HO303.out (fun k_ hk => (⟨hk, hk.2⟩ : _ ∧ k_ ≠ gb328))) (fun _ hk => hk.2)) (fun _ hk => ⟨hk.1.1.1, ⟨hk.1.1.2.1, ⟨hk.1.1.2.2.1, ⟨hk.1.1.2.2.2.1, ⟨hk.1.1.2.2.2.2.1, ⟨hk.1.1.2.2.2.2.2.1, ⟨hk.1.1.2.2.2.2.2.2.1, ⟨hk.1.1.2.2.2.2.2.2.2, hk.1.2⟩⟩⟩⟩⟩⟩⟩⟩)⟩
            have n4_ : Aside0 (Kd.R k36 36 (((w62.setCell ⟨gb328, 0, none⟩ (.int .i64 t322)).setCell ⟨gb328, 1, none⟩ (.bool t323)).setCell ⟨gb328, 2, none⟩ (.slice Ao70 t324.length co70)) w.heap.size (fun k_ => some k_ ≠ (v285 : Value).ownBlock ∧ some k_ ≠ (.slice Ao31 t296.length co31 : Value).ownBlock ∧ k_ ≠ gb309) (.slice Ao47 t312.length co47) t312) := ⟨by (with_reducible repeat (first | apply Kd.R_alloc | apply Kd.R_drewN | apply Kd.R_drew)); exact Kd.R_mono (Kd.R_mv (g := gb328) (Kd.R_types HO314.out BK328.out (by decide)) (fun _ hk => hk.2)) (fun _ hk => ⟨hk.1.1, ⟨hk.1.2.1, hk.1.2.2⟩⟩)⟩
            have n5_ : Aside0 (Kd.V k36 36 (((w62.setCell ⟨gb328, 0, none⟩ (.int .i64 t322)).setCell ⟨gb328, 1, none⟩ (.bool t323)).setCell ⟨gb328, 2, none⟩ (.slice Ao70 t324.length co70)) w.heap.size (fun k_ => some k_ ≠ (v285 : Value).ownBlock ∧ some k_ ≠ (.slice Ao31 t296.length co31 : Value).ownBlock ∧ k_ ≠ gb278 ∧ k_ ≠ gb279 ∧ k_ ≠ gb293 ∧ k_ ≠ gb308 ∧ k_ ≠ gb309 ∧ k_ ≠ gb321 ∧ k_ ≠ gb328) (.slice Ao56 t317.length co56) t317) := ⟨by (with_reducible repeat (first | apply Kd.V_alloc | apply Kd.V_drewN | apply Kd.V_drew)); exact Kd.V_mono (Kd.V_mv (g := gb328) (Kd.V_mono HO319.out (fun k_ hk => (⟨hk, hk.2⟩ : _ ∧ k_ ≠ gb328))) (fun _ hk => hk.2)) (fun _ hk => ⟨hk.1.1.1, ⟨hk.1.1.2.1, ⟨hk.1.1.2.2.1, ⟨hk.1.1.2.2.2.1, ⟨hk.1.1.2.2.2.2.1, ⟨hk.1.1.2.2.2.2.2.1, ⟨hk.1.1.2.2.2.2.2.2.1, ⟨hk.1.1.2.2.2.2.2.2.2, hk.1.2⟩⟩⟩⟩⟩⟩⟩⟩)⟩
            have n6_ : Aside0 (Kd.V k36 36 (((w62.setCell ⟨gb328, 0, none⟩ (.int .i64 t322)).setCell ⟨gb328, 1, none⟩ (.bool t323)).setCell ⟨gb328, 2, none⟩ (.slice Ao70 t324.length co70)) w.heap.size (fun k_ => some k_ ≠ (v285 : Value).ownBlock ∧ some k_ ≠ (.slice Ao31 t296.length co31 : Value).ownBlock ∧ k_ ≠ gb278 ∧ k_ ≠ gb279 ∧ k_ ≠ gb293 ∧ k_ ≠ gb308 ∧ k_ ≠ gb309 ∧ k_ ≠ gb321 ∧ k_ ≠ gb328) (.slice Ao70 t324.length co70) t324) := ⟨by (with_reducible repeat (first | apply Kd.V_alloc | apply Kd.V_drewN | apply Kd.V_drew)); exact Kd.V_mono (Kd.V_mv (g := gb328) (Kd.V_mono HO326.out (fun k_ hk => (⟨hk, hk.2⟩ : _ ∧ k_ ≠ gb328))) (fun _ hk => hk.2)) (fun _ hk => ⟨hk.1.1.1, ⟨hk.1.1.2.1, ⟨hk.1.1.2.2.1, ⟨hk.1.1.2.2.2.1, ⟨hk.1.1.2.2.2.2.1, ⟨hk.1.1.2.2.2.2.2.1, ⟨hk.1.1.2.2.2.2.2.2.1, ⟨hk.1.1.2.2.2.2.2.2.2, hk.1.2⟩⟩⟩⟩⟩⟩⟩⟩)⟩
            have n7_ : Aside0 ((((w62.setCell ⟨gb328, 0, none⟩ (.int .i64 t322)).setCell ⟨gb328, 1, none⟩ (.bool t323)).setCell ⟨gb328, 2, none⟩ (.slice Ao70 t324.length co70)).heap[gb278]? = some (.cells #[.int .i64 a0_0, .bool a0_1, .slice A0_2 l0_2.length c0_2] 24 (0, 0))) := ⟨by exact BF BK278.out NB278_328.out⟩
            have n8_ : Aside0 ((((w62.setCell ⟨gb328, 0, none⟩ (.int .i64 t322)).setCell ⟨gb328, 1, none⟩ (.bool t323)).setCell ⟨gb328, 2, none⟩ (.slice Ao70 t324.length co70)).heap[gb279]? = some (.cells #[.int .i64 a1_0, .int .i64 a1_1, .string a1_2] 26 (0, 0))) := ⟨by exact BF BK279.out NB279_328.out⟩
            have n9_ : Aside0 ((((w62.setCell ⟨gb328, 0, none⟩ (.int .i64 t322)).setCell ⟨gb328, 1, none⟩ (.bool t323)).setCell ⟨gb328, 2, none⟩ (.slice Ao70 t324.length co70)).heap[gb293]? = some (.cells #[.int .i64 t287, .bool t288, .slice Ao26 t289.length co26] 31 (0, 0))) := ⟨by exact BF BK293.out NB293_328.out⟩
            have n10_ : Aside0 ((((w62.setCell ⟨gb328, 0, none⟩ (.int .i64 t322)).setCell ⟨gb328, 1, none⟩ (.bool t323)).setCell ⟨gb328, 2, none⟩ (.slice Ao70 t324.length co70)).heap[gb308]? = some (.cells #[.int .i64 t299, .bool t300, .slice Ao40 t301.length co40] 31 (0, 0))) := ⟨by exact BF BK308.out NB308_328.out⟩
            have n11_ : Aside0 ((((w62.setCell ⟨gb328, 0, none⟩ (.int .i64 t322)).setCell ⟨gb328, 1, none⟩ (.bool t323)).setCell ⟨gb328, 2, none⟩ (.slice Ao70 t324.length co70)).heap[gb309]? = some (.cells #[.int .i64 t304, .int .i64 t305, .string t306] 36 (0, 0))) := ⟨by exact BF BK309.out NB309_328.out⟩
            have n12_ : Aside0 ((((w62.setCell ⟨gb328, 0, none⟩ (.int .i64 t322)).setCell ⟨gb328, 1, none⟩ (.bool t323)).setCell ⟨gb328, 2, none⟩ (.slice Ao70 t324.length co70)).heap[gb321]? = some (.cells #[.int .i64 t315, .bool t316, .slice Ao56 t317.length co56] 31 (0, 0))) := ⟨by exact BF BK321.out NB321_328.out⟩
            have n13_ : Aside0 ((((w62.setCell ⟨gb328, 0, none⟩ (.int .i64 t322)).setCell ⟨gb328, 1, none⟩ (.bool t323)).setCell ⟨gb328, 2, none⟩ (.slice Ao70 t324.length co70)).heap[gb328]? = some (.cells #[.int .i64 t322, .bool t323, .slice Ao70 t324.length co70] 31 (0, 0))) := ⟨by exact BP BK328.out (by rfl)⟩
            have n14_ : Aside0 (Below w.heap.size w (((w62.setCell ⟨gb328, 0, none⟩ (.int .i64 t322)).setCell ⟨gb328, 1, none⟩ (.bool t323)).setCell ⟨gb328, 2, none⟩ (.slice Ao70 t324.length co70))) := ⟨LG HB.out (G1 GE278.out (G1 GE279.out (G1 GE293.out (G1 GE308.out (G1 GE309.out (G1 GE321.out (G1 GE328.out G0)))))))⟩
            (try clear HO286)
            (try clear HO291)
            (try clear HO298)
            (try clear HO303)
            (try clear HO314)
            (try clear HO319)
            (try clear HO326)
            (try clear BK278)
            (try clear BK279)
            (try clear BK293)
            (try clear BK308)
            (try clear BK309)
            (try clear BK321)
            (try clear BK328)
            (try clear HB)
            generalize (((w62.setCell ⟨gb328, 0, none⟩ (.int .i64 t322)).setCell ⟨gb328, 1, none⟩ (.bool t323)).setCell ⟨gb328, 2, none⟩ (.slice Ao70 t324.length co70)) = w78 at n0_ n1_ n2_ n3_ n4_ n5_ n6_ n7_ n8_ n9_ n10_ n11_ n12_ n13_ n14_ ⊢
            have HO286 := n0_
            have HO291 := n1_
            have HO298 := n2_
            have HO303 := n3_
            have HO314 := n4_
            have HO319 := n5_
            have HO326 := n6_
            have BK278 := n7_
            have BK279 := n8_
            have BK293 := n9_
            have BK308 := n10_
            have BK309 := n11_
            have BK321 := n12_
            have BK328 := n13_
            have HB := n14_
            clear n0_ n1_ n2_ n3_ n4_ n5_ n6_ n7_ n8_ n9_ n10_ n11_ n12_ n13_ n14_
            have n0_ := Aside0.mk (Kd.R_drew HO286.out)
            have n1_ := Aside0.mk (Kd.V_drew HO291.out)
            have n2_ := Aside0.mk (Kd.R_drew HO298.out)
            have n3_ := Aside0.mk (Kd.V_drew HO303.out)
            have n4_ := Aside0.mk (Kd.R_drew HO314.out)
            have n5_ := Aside0.mk (Kd.V_drew HO319.out)
            have n6_ := Aside0.mk (Kd.V_drew HO326.out)
            have n7_ := Aside0.mk (blk_drew BK278.out)
            have n8_ := Aside0.mk (blk_drew BK279.out)
            have n9_ := Aside0.mk (blk_drew BK293.out)
            have n10_ := Aside0.mk (blk_drew BK308.out)
            have n11_ := Aside0.mk (blk_drew BK309.out)
            have n12_ := Aside0.mk (blk_drew BK321.out)
            have n13_ := Aside0.mk (blk_drew BK328.out)
            have n14_ := Aside0.mk (below_drew1 HB.out)
            clear HO286
            clear HO291
            clear HO298
            clear HO303
            clear HO314
            clear HO319
            clear HO326
            clear BK278
            clear BK279
            clear BK293
            clear BK308
            clear BK309
            clear BK321
            clear BK328
            clear HB
            have HO286 := n0_
            have HO291 := n1_
            have HO298 := n2_
            have HO303 := n3_
            have HO314 := n4_
            have HO319 := n5_
            have HO326 := n6_
            have BK278 := n7_
            have BK279 := n8_
            have BK293 := n9_
            have BK308 := n10_
            have BK309 := n11_
            have BK321 := n12_
            have BK328 := n13_
            have HB := n14_
            clear n0_ n1_ n2_ n3_ n4_ n5_ n6_ n7_ n8_ n9_ n10_ n11_ n12_ n13_ n14_
            have p329 : 0 ≤ ((l0_2.length : Int) : Int) := of_decide_eq_true (by first | (with_reducible assumption) | assumption)
            have q329 : (l0_2.length : Int) < (t289.length : Int) := of_decide_eq_true (by first | (with_reducible assumption) | assumption)
            obtain ⟨ad329, e329, hx329_0, hx329_1, hx329_2⟩ := at_T36 (Kd.V_reads' HO291.out).2.2 (l0_2.length : Int) p329 q329
            cases e329
            (try simp only [Go.IntWalk.toNatUp] at hx329_0)
            (try simp only [Go.IntWalk.toNatUp] at hx329_1)
            (try simp only [Go.IntWalk.toNatUp] at hx329_2)
            replace p329 := eq_true p329
            replace q329 := eq_true q329
            refine start_ (n := 34) (S := fun w' => w'.cell? ⟨gb293, 0, none⟩ = some (.int .i64 t287) ∧ w'.cell? ⟨gb293, 1, none⟩ = some (.bool t288) ∧ w'.cell? ⟨gb293, 2, none⟩ = some (.slice (some ad329) t289.length co26) ∧ w'.cell? ⟨gb278, 0, none⟩ = some (.int .i64 a0_0) ∧ w'.cell? ⟨gb278, 1, none⟩ = some (.bool a0_1) ∧ w'.cell? ⟨gb278, 2, none⟩ = some (.slice A0_2 l0_2.length c0_2) ∧ w'.cell? ⟨gb279, 0, none⟩ = some (.int .i64 a1_0) ∧ w'.cell? ⟨gb279, 1, none⟩ = some (.int .i64 a1_1) ∧ w'.cell? ⟨gb279, 2, none⟩ = some (.string a1_2) ∧ w'.cell? (ad329.add (l0_2.length * 3)) = some (.int .i64 ((rd_T36 t289 (l0_2.length : Int)).f0)) ∧ w'.cell? ⟨(ad329.add (l0_2.length * 3)).block, (ad329.add (l0_2.length * 3)).off + 1, none⟩ = some (.int .i64 ((rd_T36 t289 (l0_2.length : Int)).f1)) ∧ w'.cell? ⟨(ad329.add (l0_2.length * 3)).block, (ad329.add (l0_2.length * 3)).off + 2, none⟩ = some (.string ((rd_T36 t289 (l0_2.length : Int)).f2))) (ds := []) (tf 0 34) (by kernel_rfl) rfl rfl ⟨(blk_cell BK293.out 0).trans rfl, (blk_cell BK293.out 1).trans rfl, (blk_cell BK293.out 2).trans rfl, (blk_cell BK278.out 0).trans rfl, (blk_cell BK278.out 1).trans rfl, (blk_cell BK278.out 2).trans rfl, (blk_cell BK279.out 0).trans rfl, (blk_cell BK279.out 1).trans rfl, (blk_cell BK279.out 2).trans rfl, hx329_0, hx329_1, hx329_2⟩ (fun hHeld => ?_); refine with_tabW hopperlaw08_PipeCounts.tab7 hopperlaw08_PipeCounts.bits7 (fun HT_ HW_ => ?_)
            generalize w78.drew = w79 at HO286 HO291 HO298 HO303 HO314 HO319 HO326 BK278 BK279 BK293 BK308 BK309 BK321 BK328 HB hx329_0 hx329_1 hx329_2 hHeld ⊢
            refine pure_ (i := 0) (N := some 44) (v := ?_) (a' := ?_) (tf 1 34) rfl rfl (any_of HT_.out (by kernel_rfl)) (fun _ _ _ h => h) (Or.inl ⟨by rfl, ?_⟩) ?_ ?_
            rotate_left
            · intro w'
              go_simp
              with_reducible rfl
            rotate_left
            · simp only [Act.put, PU, i64_w, i32_w]
              rfl
            refine pure_ (i := 1) (N := some 45) (v := ?_) (a' := ?_) (tf 2 34) rfl rfl (any_of HT_.out (by kernel_rfl)) (fun _ _ _ h => h) (Or.inl ⟨by rfl, ?_⟩) ?_ ?_
            rotate_left
            · intro w'
              go_simp
              with_reducible rfl
            rotate_left
            · simp only [Act.put, PU, i64_w, i32_w]
              rfl
            refine pure_ (i := 2) (N := some 46) (v := ?_) (a' := ?_) (tf 3 34) rfl rfl (any_of HT_.out (by kernel_rfl)) (fun _ _ _ h => h) (Or.inl ⟨by rfl, ?_⟩) ?_ ?_
            rotate_left
            · intro w'
              go_simp
              with_reducible rfl
            rotate_left
            · simp only [Act.put, PU, i64_w, i32_w]
              rfl
            refine pure_ (i := 3) (N := some 47) (v := ?_) (a' := ?_) (tf 4 34) rfl rfl (any_of HT_.out (by kernel_rfl)) (fun _ _ _ h => h) (Or.inl ⟨by rfl, ?_⟩) ?_ ?_
            rotate_left
            · intro w'
              go_simp
              with_reducible rfl
            rotate_left
            · simp only [Act.put, PU, i64_w, i32_w]
              rfl
            refine pure_ (i := 6) (N := some 50) (v := ?_) (a' := ?_) #[true, true, true, true, false, false, true, false, false, false, false, false, false, false, false, false, false, false, false, false, false, false, false, false, false, false, false, false, false, false, false, false, false, false] rfl rfl (any_of HT_.out (by kernel_rfl)) (fun _ _ _ h => h) (Or.inl ⟨by rfl, ?_⟩) ?_ ?_
            rotate_left
            · intro w'
              go_simp
              with_reducible rfl
            rotate_left
            · simp only [Act.put, PU, i64_w, i32_w]
              rfl
            refine take_ (i := 4) (N := some 48) (v := ?_) (a' := ?_) #[true, true, true, true, true, false, true, false, false, false, false, false, false, false, false, false, false, false, false, false, false, false, false, false, false, false, false, false, false, false, false, false, false, false] rfl rfl (take_ofW HT_.out HW_.out (by kernel_rfl)) (fun _ _ _ h => h) (Or.inl ⟨by rfl, ?_⟩) hHeld ?_ ?_
            rotate_left
            · rintro w' ⟨s0, s1, s2, s3, s4, s5, s6, s7, s8, s9, s10, s11⟩
              go_simp
              with_reducible rfl
            rotate_left
            · simp only [Act.put, PU, i64_w, i32_w]
              rfl
            refine pure_ (i := 5) (N := some 49) (v := ?_) (a' := ?_) (tf 7 34) rfl rfl (any_of HT_.out (by kernel_rfl)) (fun _ _ _ h => h) (Or.inl ⟨by rfl, ?_⟩) ?_ ?_
            rotate_left
            · intro w'
              go_simp
              with_reducible rfl
            rotate_left
            · simp only [Act.put, PU, i64_w, i32_w]
              rfl
            refine take_ (i := 7) (N := some 51) (v := ?_) (a' := ?_) (tf 8 34) rfl rfl (take_ofW HT_.out HW_.out (by kernel_rfl)) (fun _ _ _ h => h) (Or.inl ⟨by rfl, ?_⟩) hHeld ?_ ?_
            rotate_left
            · rintro w' ⟨s0, s1, s2, s3, s4, s5, s6, s7, s8, s9, s10, s11⟩
              go_simp
              with_reducible rfl
            rotate_left
            · simp only [Act.put, PU, i64_w, i32_w]
              rfl
            refine pure_ (i := 8) (N := some 52) (v := ?_) (a' := ?_) (tf 9 34) rfl rfl (any_of HT_.out (by kernel_rfl)) (fun _ _ _ h => h) (Or.inl ⟨by rfl, ?_⟩) ?_ ?_
            rotate_left
            · intro w'
              go_simp
              with_reducible rfl
            rotate_left
            · simp only [Act.put, PU, i64_w, i32_w]
              rfl
            refine pure_ (i := 9) (N := some 53) (v := ?_) (a' := ?_) (tf 10 34) rfl rfl (any_of HT_.out (by kernel_rfl)) (fun _ _ _ h => h) (Or.inl ⟨by rfl, ?_⟩) ?_ ?_
            rotate_left
            · intro w'
              go_simp
              with_reducible rfl
            rotate_left
            · simp only [Act.put, PU, i64_w, i32_w]
              rfl
            refine pure_ (i := 10) (N := some 54) (v := ?_) (a' := ?_) (tf 11 34) rfl rfl (any_of HT_.out (by kernel_rfl)) (fun _ _ _ h => h) (Or.inl ⟨by rfl, ?_⟩) ?_ ?_
            rotate_left
            · intro w'
              go_simp
              with_reducible rfl
            rotate_left
            · simp only [Act.put, PU, i64_w, i32_w]
              rfl
            refine pure_ (i := 11) (N := some 55) (v := ?_) (a' := ?_) (tf 12 34) rfl rfl (any_of HT_.out (by kernel_rfl)) (fun _ _ _ h => h) (Or.inl ⟨by rfl, ?_⟩) ?_ ?_
            rotate_left
            · intro w'
              go_simp
              with_reducible rfl
            rotate_left
            · simp only [Act.put, PU, i64_w, i32_w]
              rfl
            refine pure_ (i := 12) (N := some 56) (v := ?_) (a' := ?_) (tf 13 34) rfl rfl (any_of HT_.out (by kernel_rfl)) (fun _ _ _ h => h) (Or.inl ⟨by rfl, ?_⟩) ?_ ?_
            rotate_left
            · intro w'
              go_simp
              with_reducible rfl
            rotate_left
            · simp only [Act.put, PU, i64_w, i32_w]
              rfl
            refine pure_ (i := 14) (N := some 58) (v := ?_) (a' := ?_) #[true, true, true, true, true, true, true, true, true, true, true, true, true, false, true, false, false, false, false, false, false, false, false, false, false, false, false, false, false, false, false, false, false, false] rfl rfl (any_of HT_.out (by kernel_rfl)) (fun _ _ _ h => h) (Or.inl ⟨by rfl, ?_⟩) ?_ ?_
            rotate_left
            · intro w'
              go_simp
              with_reducible rfl
            rotate_left
            · simp only [Act.put, PU, i64_w, i32_w]
              rfl
            refine take_ (i := 13) (N := some 57) (v := ?_) (a' := ?_) (tf 15 34) rfl rfl (take_ofW HT_.out HW_.out (by kernel_rfl)) (fun _ _ _ h => h) (Or.inl ⟨by rfl, ?_⟩) hHeld ?_ ?_
            rotate_left
            · rintro w' ⟨s0, s1, s2, s3, s4, s5, s6, s7, s8, s9, s10, s11⟩
              go_simp
              with_reducible rfl
            rotate_left
            · simp only [Act.put, PU, i64_w, i32_w]
              rfl
            refine take_ (i := 15) (N := some 59) (v := ?_) (a' := ?_) (tf 16 34) rfl rfl (take_ofW HT_.out HW_.out (by kernel_rfl)) (fun _ _ _ h => h) (Or.inl ⟨by rfl, ?_⟩) hHeld ?_ ?_
            rotate_left
            · rintro w' ⟨s0, s1, s2, s3, s4, s5, s6, s7, s8, s9, s10, s11⟩
              go_simp
              with_reducible rfl
            rotate_left
            · simp only [Act.put, PU, i64_w, i32_w]
              rfl
            refine pure_ (i := 16) (N := some 60) (v := ?_) (a' := ?_) (tf 17 34) rfl rfl (any_of HT_.out (by kernel_rfl)) (fun _ _ _ h => h) (Or.inl ⟨by rfl, ?_⟩) ?_ ?_
            rotate_left
            · intro w'
              go_simp
              with_reducible rfl
            rotate_left
            · simp only [Act.put, PU, i64_w, i32_w]
              rfl
            refine pure_ (i := 17) (N := some 61) (v := ?_) (a' := ?_) (tf 18 34) rfl rfl (any_of HT_.out (by kernel_rfl)) (fun _ _ _ h => h) (Or.inl ⟨by rfl, ?_⟩) ?_ ?_
            rotate_left
            · intro w'
              go_simp
              with_reducible rfl
            rotate_left
            · simp only [Act.put, PU, i64_w, i32_w]
              rfl
            refine take_ (i := 18) (N := some 62) (v := ?_) (a' := ?_) (tf 19 34) rfl rfl (take_ofW HT_.out HW_.out (by kernel_rfl)) (fun _ _ _ h => h) (Or.inl ⟨by rfl, ?_⟩) hHeld ?_ ?_
            rotate_left
            · rintro w' ⟨s0, s1, s2, s3, s4, s5, s6, s7, s8, s9, s10, s11⟩
              go_simp
              with_reducible rfl
            rotate_left
            · simp only [Act.put, PU, i64_w, i32_w]
              rfl
            refine take_ (i := 19) (N := some 63) (v := ?_) (a' := ?_) (tf 20 34) rfl rfl (take_ofW HT_.out HW_.out (by kernel_rfl)) (fun _ _ _ h => h) (Or.inl ⟨by rfl, ?_⟩) hHeld ?_ ?_
            rotate_left
            · rintro w' ⟨s0, s1, s2, s3, s4, s5, s6, s7, s8, s9, s10, s11⟩
              go_simp
              with_reducible rfl
            rotate_left
            · simp only [Act.put, PU, i64_w, i32_w]
              rfl
            refine pure_ (i := 20) (N := some 64) (v := ?_) (a' := ?_) (tf 21 34) rfl rfl (any_of HT_.out (by kernel_rfl)) (fun _ _ _ h => h) (Or.inl ⟨by rfl, ?_⟩) ?_ ?_
            rotate_left
            · intro w'
              go_simp
              with_reducible rfl
            rotate_left
            · simp only [Act.put, PU, i64_w, i32_w]
              rfl
            refine pure_ (i := 21) (N := some 65) (v := ?_) (a' := ?_) (tf 22 34) rfl rfl (any_of HT_.out (by kernel_rfl)) (fun _ _ _ h => h) (Or.inl ⟨by rfl, ?_⟩) ?_ ?_
            rotate_left
            · intro w'
              go_simp
              with_reducible rfl
            rotate_left
            · simp only [Act.put, PU, i64_w, i32_w]
              rfl
            refine pure_ (i := 22) (N := some 66) (v := ?_) (a' := ?_) (tf 23 34) rfl rfl (any_of HT_.out (by kernel_rfl)) (fun _ _ _ h => h) (Or.inl ⟨by rfl, ?_⟩) ?_ ?_
            rotate_left
            · intro w'
              go_simp
              with_reducible rfl
            rotate_left
            · simp only [Act.put, PU, i64_w, i32_w]
              rfl
            refine pure_ (i := 23) (N := some 67) (v := ?_) (a' := ?_) (tf 24 34) rfl rfl (any_of HT_.out (by kernel_rfl)) (fun _ _ _ h => h) (Or.inl ⟨by rfl, ?_⟩) ?_ ?_
            rotate_left
            · intro w'
              go_simp
              with_reducible rfl
            rotate_left
            · simp only [Act.put, PU, i64_w, i32_w]
              rfl
            refine pure_ (i := 24) (N := some 68) (v := ?_) (a' := ?_) (tf 25 34) rfl rfl (any_of HT_.out (by kernel_rfl)) (fun _ _ _ h => h) (Or.inl ⟨by rfl, ?_⟩) ?_ ?_
            rotate_left
            · intro w'
              go_simp
              with_reducible rfl
            rotate_left
            · simp only [Act.put, PU, i64_w, i32_w]
              rfl
            refine pure_ (i := 25) (N := some 69) (v := ?_) (a' := ?_) (tf 26 34) rfl rfl (any_of HT_.out (by kernel_rfl)) (fun _ _ _ h => h) (Or.inl ⟨by rfl, ?_⟩) ?_ ?_
            rotate_left
            · intro w'
              go_simp
              with_reducible rfl
            rotate_left
            · simp only [Act.put, PU, i64_w, i32_w]
              rfl
            refine pure_ (i := 26) (N := some 70) (v := ?_) (a' := ?_) (tf 27 34) rfl rfl (any_of HT_.out (by kernel_rfl)) (fun _ _ _ h => h) (Or.inl ⟨by rfl, ?_⟩) ?_ ?_
            rotate_left
            · intro w'
              go_simp
              with_reducible rfl
            rotate_left
            · simp only [Act.put, PU, i64_w, i32_w]
              rfl
            refine pure_ (i := 27) (N := some 71) (v := undef) (a' := ?_) (tf 28 34) rfl rfl (any_of HT_.out (by kernel_rfl)) (fun _ _ _ h => h) (Or.inr ⟨by rfl, rfl⟩) ?_ ?_
            rotate_left
            · simp only [Act.put, PU, i64_w, i32_w]
              rfl
            refine pure_ (i := 28) (N := some 72) (v := undef) (a' := ?_) (tf 29 34) rfl rfl (any_of HT_.out (by kernel_rfl)) (fun _ _ _ h => h) (Or.inr ⟨by rfl, rfl⟩) ?_ ?_
            rotate_left
            · simp only [Act.put, PU, i64_w, i32_w]
              rfl
            refine pure_ (i := 29) (N := some 73) (v := undef) (a' := ?_) (tf 30 34) rfl rfl (any_of HT_.out (by kernel_rfl)) (fun _ _ _ h => h) (Or.inr ⟨by rfl, rfl⟩) ?_ ?_
            rotate_left
            · simp only [Act.put, PU, i64_w, i32_w]
              rfl
            refine pure_ (i := 30) (N := some 74) (v := undef) (a' := ?_) (tf 31 34) rfl rfl (any_of HT_.out (by kernel_rfl)) (fun _ _ _ h => h) (Or.inr ⟨by rfl, rfl⟩) ?_ ?_
            rotate_left
            · simp only [Act.put, PU, i64_w, i32_w]
              rfl
            refine pure_ (i := 31) (N := some 75) (v := undef) (a' := ?_) (tf 32 34) rfl rfl (any_of HT_.out (by kernel_rfl)) (fun _ _ _ h => h) (Or.inr ⟨by rfl, rfl⟩) ?_ ?_
            rotate_left
            · simp only [Act.put, PU, i64_w, i32_w]
              rfl
            refine pure_ (i := 32) (N := some 76) (v := ?_) (a' := ?_) (tf 33 34) rfl rfl (any_of HT_.out (by kernel_rfl)) (fun _ _ _ h => h) (Or.inl ⟨by rfl, ?_⟩) ?_ ?_
            rotate_left
            · intro w'
              go_simp
              with_reducible rfl
            rotate_left
            · simp only [Act.put, PU, i64_w, i32_w]
              rfl
            refine pure_ (i := 33) (N := some 77) (v := ?_) (a' := ?_) (tf 34 34) rfl rfl (any_of HT_.out (by kernel_rfl)) (fun _ _ _ h => h) (Or.inl ⟨by rfl, ?_⟩) ?_ ?_
            rotate_left
            · intro w'
              go_simp
              with_reducible rfl
            rotate_left
            · simp only [Act.put, PU, i64_w, i32_w]
              rfl
            refine done_ (done_of HT_.out (by kernel_rfl)) ?_
            try go_wp2
            go_meet
            case rel => exact ⟨_, (false), (by first | (rw [HR_.out]; done) | rfl | (rw [HR_.out]; rfl) | (simp [HR_.out]; done) | (simp; done) | (simp [*]; done)), H', ⟨by first | omega | exact Nat.le_refl _⟩, ⟨by (with_reducible repeat (first | apply Kd.V_alloc | apply Kd.V_drewN | apply Kd.V_drew)); exact Kd.V_mono HO291.out (fun _ hk => ⟨hk.2.2.1, ⟨hk.2.2.2.1, ⟨hk.2.2.2.2.1, ⟨hk.2.2.2.2.2.1, ⟨hk.2.2.2.2.2.2.1, ⟨hk.2.2.2.2.2.2.2.1, hk.2.2.2.2.2.2.2.2⟩⟩⟩⟩⟩⟩)⟩, ⟨by (with_reducible repeat (first | apply Kd.V_alloc | apply Kd.V_drewN | apply Kd.V_drew)); exact Kd.V_mono HO303.out (fun _ hk => ⟨hk.2.2.1, ⟨hk.2.2.2.1, ⟨hk.2.2.2.2.1, ⟨hk.2.2.2.2.2.1, ⟨hk.2.2.2.2.2.2.1, ⟨hk.2.2.2.2.2.2.2.1, hk.2.2.2.2.2.2.2.2⟩⟩⟩⟩⟩⟩)⟩, ⟨by (with_reducible repeat (first | apply Kd.V_alloc | apply Kd.V_drewN | apply Kd.V_drew)); exact Kd.V_mono HO319.out (fun _ hk => ⟨hk.2.2.1, ⟨hk.2.2.2.1, ⟨hk.2.2.2.2.1, ⟨hk.2.2.2.2.2.1, ⟨hk.2.2.2.2.2.2.1, ⟨hk.2.2.2.2.2.2.2.1, hk.2.2.2.2.2.2.2.2⟩⟩⟩⟩⟩⟩)⟩, ⟨by (with_reducible repeat (first | apply Kd.V_alloc | apply Kd.V_drewN | apply Kd.V_drew)); exact Kd.V_mono HO326.out (fun _ hk => ⟨hk.2.2.1, ⟨hk.2.2.2.1, ⟨hk.2.2.2.2.1, ⟨hk.2.2.2.2.2.1, ⟨hk.2.2.2.2.2.2.1, ⟨hk.2.2.2.2.2.2.2.1, hk.2.2.2.2.2.2.2.2⟩⟩⟩⟩⟩⟩)⟩, ⟨by (with_reducible repeat (first | refine blk_drewN ?_ _ | refine blk_drew ?_ | refine blk_alloc ?_ _)); exact BK278.out⟩, ⟨by (with_reducible repeat (first | refine blk_drewN ?_ _ | refine blk_drew ?_ | refine blk_alloc ?_ _)); exact BK279.out⟩, ⟨by (with_reducible repeat (first | refine blk_drewN ?_ _ | refine blk_drew ?_ | refine blk_alloc ?_ _)); exact BK293.out⟩, ⟨by (with_reducible repeat (first | refine blk_drewN ?_ _ | refine blk_drew ?_ | refine blk_alloc ?_ _)); exact BK308.out⟩, ⟨by (with_reducible repeat (first | refine blk_drewN ?_ _ | refine blk_drew ?_ | refine blk_alloc ?_ _)); exact BK309.out⟩, ⟨by (with_reducible repeat (first | refine blk_drewN ?_ _ | refine blk_drew ?_ | refine blk_alloc ?_ _)); exact BK321.out⟩, ⟨by (with_reducible repeat (first | refine blk_drewN ?_ _ | refine blk_drew ?_ | refine blk_alloc ?_ _)); exact BK328.out⟩, ⟨LG HB.out (G1 GE278.out (G1 GE279.out (G1 GE293.out (G1 GE308.out (G1 GE309.out (G1 GE321.out (G1 GE328.out G0)))))))⟩⟩
        · rw [if_neg c72] at H
          have c72b0 : ((t289.length : Int) == (wrap64 ((l0_2.length : Int) + 1))) = false := beq_eq_false_iff_ne.mpr c72
          have c72b1 : ((t289.length : Int) != (wrap64 ((l0_2.length : Int) + 1))) = true := bne_iff_ne.mpr c72
          have H' := Aside0.mk H
          clear H
          try go_wp2
          have n0_ : Aside0 (Kd.R k36 36 (((w62.setCell ⟨gb328, 0, none⟩ (.int .i64 t322)).setCell ⟨gb328, 1, none⟩ (.bool t323)).setCell ⟨gb328, 2, none⟩ (.slice Ao70 t324.length co70)) w.heap.size (fun k_ => some k_ ≠ (.slice Ao31 t296.length co31 : Value).ownBlock ∧ some k_ ≠ (.slice Ao47 t312.length co47 : Value).ownBlock ∧ k_ ≠ gb309) v285 t284) := ⟨by (with_reducible repeat (first | apply Kd.R_alloc | apply Kd.R_drewN | apply Kd.R_drew)); exact Kd.R_mono (Kd.R_mv (g := gb328) (Kd.R_types HO286.out BK328.out (by decide)) (fun _ hk => hk.2)) (fun _ hk => ⟨hk.1.1, ⟨hk.1.2.1, hk.1.2.2⟩⟩)⟩
          have n1_ : Aside0 (Kd.V k36 36 (((w62.setCell ⟨gb328, 0, none⟩ (.int .i64 t322)).setCell ⟨gb328, 1, none⟩ (.bool t323)).setCell ⟨gb328, 2, none⟩ (.slice Ao70 t324.length co70)) w.heap.size (fun k_ => some k_ ≠ (.slice Ao31 t296.length co31 : Value).ownBlock ∧ some k_ ≠ (.slice Ao47 t312.length co47 : Value).ownBlock ∧ k_ ≠ gb278 ∧ k_ ≠ gb279 ∧ k_ ≠ gb293 ∧ k_ ≠ gb308 ∧ k_ ≠ gb309 ∧ k_ ≠ gb321 ∧ k_ ≠ gb328) (.slice Ao26 t289.length co26) t289) := ⟨by (with_reducible repeat (first | apply Kd.V_alloc | apply Kd.V_drewN | apply Kd.V_drew)); exact Kd.V_mono (Kd.V_mv (g := gb328) (Kd.V_mono HO291.out (fun k_ hk => (⟨hk, hk.2⟩ : _ ∧ k_ ≠ gb328))) (fun _ hk => hk.2)) (fun _ hk => ⟨hk.1.1.1, ⟨hk.1.1.2.1, ⟨hk.1.1.2.2.1, ⟨hk.1.1.2.2.2.1, ⟨hk.1.1.2.2.2.2.1, ⟨hk.1.1.2.2.2.2.2.1, ⟨hk.1.1.2.2.2.2.2.2.1, ⟨hk.1.1.2.2.2.2.2.2.2, hk.1.2⟩⟩⟩⟩⟩⟩⟩⟩)⟩
          have n2_ : Aside0 (Kd.R k36 36 (((w62.setCell ⟨gb328, 0, none⟩ (.int .i64 t322)).setCell ⟨gb328, 1, none⟩ (.bool t323)).setCell ⟨gb328, 2, none⟩ (.slice Ao70 t324.length co70)) w.heap.size (fun k_ => some k_ ≠ (v285 : Value).ownBlock ∧ some k_ ≠ (.slice Ao47 t312.length co47 : Value).ownBlock ∧ k_ ≠ gb309) (.slice Ao31 t296.length co31) t296) := ⟨by (with_reducible repeat (first | apply Kd.R_alloc | apply Kd.R_drewN | apply Kd.R_drew)); exact Kd.R_mono (Kd.R_mv (g := gb328) (Kd.R_types HO298.out BK328.out (by decide)) (fun _ hk => hk.2)) (fun _ hk => ⟨hk.1.1, ⟨hk.1.2.1, hk.1.2.2⟩⟩)⟩
          have n3_ : Aside0 (Kd.V k36 36 (((w62.setCell ⟨gb328, 0, none⟩ (.int .i64 t322)).setCell ⟨gb328, 1, none⟩ (.bool t323)).setCell ⟨gb328, 2, none⟩ (.slice Ao70 t324.length co70)) w.heap.size (fun k_ => some k_ ≠ (v285 : Value).ownBlock ∧ some k_ ≠ (.slice Ao47 t312.length co47 : Value).ownBlock ∧ k_ ≠ gb278 ∧ k_ ≠ gb279 ∧ k_ ≠ gb293 ∧ k_ ≠ gb308 ∧ k_ ≠ gb309 ∧ k_ ≠ gb321 ∧ k_ ≠ gb328) (.slice Ao40 t301.length co40) t301) := ⟨by (with_reducible repeat (first | apply Kd.V_alloc | apply Kd.V_drewN | apply Kd.V_drew)); exact Kd.V_mono (Kd.V_mv (g := gb328) (Kd.V_mono HO303.out (fun k_ hk => (⟨hk, hk.2⟩ : _ ∧ k_ ≠ gb328))) (fun _ hk => hk.2)) (fun _ hk => ⟨hk.1.1.1, ⟨hk.1.1.2.1, ⟨hk.1.1.2.2.1, ⟨hk.1.1.2.2.2.1, ⟨hk.1.1.2.2.2.2.1, ⟨hk.1.1.2.2.2.2.2.1, ⟨hk.1.1.2.2.2.2.2.2.1, ⟨hk.1.1.2.2.2.2.2.2.2, hk.1.2⟩⟩⟩⟩⟩⟩⟩⟩)⟩
          have n4_ : Aside0 (Kd.R k36 36 (((w62.setCell ⟨gb328, 0, none⟩ (.int .i64 t322)).setCell ⟨gb328, 1, none⟩ (.bool t323)).setCell ⟨gb328, 2, none⟩ (.slice Ao70 t324.length co70)) w.heap.size (fun k_ => some k_ ≠ (v285 : Value).ownBlock ∧ some k_ ≠ (.slice Ao31 t296.length co31 : Value).ownBlock ∧ k_ ≠ gb309) (.slice Ao47 t312.length co47) t312) := ⟨by (with_reducible repeat (first | apply Kd.R_alloc | apply Kd.R_drewN | apply Kd.R_drew)); exact Kd.R_mono (Kd.R_mv (g := gb328) (Kd.R_types HO314.out BK328.out (by decide)) (fun _ hk => hk.2)) (fun _ hk => ⟨hk.1.1, ⟨hk.1.2.1, hk.1.2.2⟩⟩)⟩
          have n5_ : Aside0 (Kd.V k36 36 (((w62.setCell ⟨gb328, 0, none⟩ (.int .i64 t322)).setCell ⟨gb328, 1, none⟩ (.bool t323)).setCell ⟨gb328, 2, none⟩ (.slice Ao70 t324.length co70)) w.heap.size (fun k_ => some k_ ≠ (v285 : Value).ownBlock ∧ some k_ ≠ (.slice Ao31 t296.length co31 : Value).ownBlock ∧ k_ ≠ gb278 ∧ k_ ≠ gb279 ∧ k_ ≠ gb293 ∧ k_ ≠ gb308 ∧ k_ ≠ gb309 ∧ k_ ≠ gb321 ∧ k_ ≠ gb328) (.slice Ao56 t317.length co56) t317) := ⟨by (with_reducible repeat (first | apply Kd.V_alloc | apply Kd.V_drewN | apply Kd.V_drew)); exact Kd.V_mono (Kd.V_mv (g := gb328) (Kd.V_mono HO319.out (fun k_ hk => (⟨hk, hk.2⟩ : _ ∧ k_ ≠ gb328))) (fun _ hk => hk.2)) (fun _ hk => ⟨hk.1.1.1, ⟨hk.1.1.2.1, ⟨hk.1.1.2.2.1, ⟨hk.1.1.2.2.2.1, ⟨hk.1.1.2.2.2.2.1, ⟨hk.1.1.2.2.2.2.2.1, ⟨hk.1.1.2.2.2.2.2.2.1, ⟨hk.1.1.2.2.2.2.2.2.2, hk.1.2⟩⟩⟩⟩⟩⟩⟩⟩)⟩
          have n6_ : Aside0 (Kd.V k36 36 (((w62.setCell ⟨gb328, 0, none⟩ (.int .i64 t322)).setCell ⟨gb328, 1, none⟩ (.bool t323)).setCell ⟨gb328, 2, none⟩ (.slice Ao70 t324.length co70)) w.heap.size (fun k_ => some k_ ≠ (v285 : Value).ownBlock ∧ some k_ ≠ (.slice Ao31 t296.length co31 : Value).ownBlock ∧ k_ ≠ gb278 ∧ k_ ≠ gb279 ∧ k_ ≠ gb293 ∧ k_ ≠ gb308 ∧ k_ ≠ gb309 ∧ k_ ≠ gb321 ∧ k_ ≠ gb328) (.slice Ao70 t324.length co70) t324) := ⟨by (with_reducible repeat (first | apply Kd.V_alloc | apply Kd.V_drewN | apply Kd.V_drew)); exact Kd.V_mono (Kd.V_mv (g := gb328) (Kd.V_mono HO326.out (fun k_ hk => (⟨hk, hk.2⟩ : _ ∧ k_ ≠ gb328))) (fun _ hk => hk.2)) (fun _ hk => ⟨hk.1.1.1, ⟨hk.1.1.2.1, ⟨hk.1.1.2.2.1, ⟨hk.1.1.2.2.2.1, ⟨hk.1.1.2.2.2.2.1, ⟨hk.1.1.2.2.2.2.2.1, ⟨hk.1.1.2.2.2.2.2.2.1, ⟨hk.1.1.2.2.2.2.2.2.2, hk.1.2⟩⟩⟩⟩⟩⟩⟩⟩)⟩
          have n7_ : Aside0 ((((w62.setCell ⟨gb328, 0, none⟩ (.int .i64 t322)).setCell ⟨gb328, 1, none⟩ (.bool t323)).setCell ⟨gb328, 2, none⟩ (.slice Ao70 t324.length co70)).heap[gb278]? = some (.cells #[.int .i64 a0_0, .bool a0_1, .slice A0_2 l0_2.length c0_2] 24 (0, 0))) := ⟨by exact BF BK278.out NB278_328.out⟩
          have n8_ : Aside0 ((((w62.setCell ⟨gb328, 0, none⟩ (.int .i64 t322)).setCell ⟨gb328, 1, none⟩ (.bool t323)).setCell ⟨gb328, 2, none⟩ (.slice Ao70 t324.length co70)).heap[gb279]? = some (.cells #[.int .i64 a1_0, .int .i64 a1_1, .string a1_2] 26 (0, 0))) := ⟨by exact BF BK279.out NB279_328.out⟩
          have n9_ : Aside0 ((((w62.setCell ⟨gb328, 0, none⟩ (.int .i64 t322)).setCell ⟨gb328, 1, none⟩ (.bool t323)).setCell ⟨gb328, 2, none⟩ (.slice Ao70 t324.length co70)).heap[gb293]? = some (.cells #[.int .i64 t287, .bool t288, .slice Ao26 t289.length co26] 31 (0, 0))) := ⟨by exact BF BK293.out NB293_328.out⟩
          have n10_ : Aside0 ((((w62.setCell ⟨gb328, 0, none⟩ (.int .i64 t322)).setCell ⟨gb328, 1, none⟩ (.bool t323)).setCell ⟨gb328, 2, none⟩ (.slice Ao70 t324.length co70)).heap[gb308]? = some (.cells #[.int .i64 t299, .bool t300, .slice Ao40 t301.length co40] 31 (0, 0))) := ⟨by exact BF BK308.out NB308_328.out⟩
          have n11_ : Aside0 ((((w62.setCell ⟨gb328, 0, none⟩ (.int .i64 t322)).setCell ⟨gb328, 1, none⟩ (.bool t323)).setCell ⟨gb328, 2, none⟩ (.slice Ao70 t324.length co70)).heap[gb309]? = some (.cells #[.int .i64 t304, .int .i64 t305, .string t306] 36 (0, 0))) := ⟨by exact BF BK309.out NB309_328.out⟩
          have n12_ : Aside0 ((((w62.setCell ⟨gb328, 0, none⟩ (.int .i64 t322)).setCell ⟨gb328, 1, none⟩ (.bool t323)).setCell ⟨gb328, 2, none⟩ (.slice Ao70 t324.length co70)).heap[gb321]? = some (.cells #[.int .i64 t315, .bool t316, .slice Ao56 t317.length co56] 31 (0, 0))) := ⟨by exact BF BK321.out NB321_328.out⟩
          have n13_ : Aside0 ((((w62.setCell ⟨gb328, 0, none⟩ (.int .i64 t322)).setCell ⟨gb328, 1, none⟩ (.bool t323)).setCell ⟨gb328, 2, none⟩ (.slice Ao70 t324.length co70)).heap[gb328]? = some (.cells #[.int .i64 t322, .bool t323, .slice Ao70 t324.length co70] 31 (0, 0))) := ⟨by exact BP BK328.out (by rfl)⟩
          have n14_ : Aside0 (Below w.heap.size w (((w62.setCell ⟨gb328, 0, none⟩ (.int .i64 t322)).setCell ⟨gb328, 1, none⟩ (.bool t323)).setCell ⟨gb328, 2, none⟩ (.slice Ao70 t324.length co70))) := ⟨LG HB.out (G1 GE278.out (G1 GE279.out (G1 GE293.out (G1 GE308.out (G1 GE309.out (G1 GE321.out (G1 GE328.out G0)))))))⟩
          (try clear HO286)
          (try clear HO291)
          (try clear HO298)
          (try clear HO303)
          (try clear HO314)
          (try clear HO319)
          (try clear HO326)
          (try clear BK278)
          (try clear BK279)
          (try clear BK293)
          (try clear BK308)
          (try clear BK309)
          (try clear BK321)
          (try clear BK328)
          (try clear HB)
          generalize (((w62.setCell ⟨gb328, 0, none⟩ (.int .i64 t322)).setCell ⟨gb328, 1, none⟩ (.bool t323)).setCell ⟨gb328, 2, none⟩ (.slice Ao70 t324.length co70)) = w80 at n0_ n1_ n2_ n3_ n4_ n5_ n6_ n7_ n8_ n9_ n10_ n11_ n12_ n13_ n14_ ⊢
          have HO286 := n0_
          have HO291 := n1_
          have HO298 := n2_
          have HO303 := n3_
          have HO314 := n4_
          have HO319 := n5_
          have HO326 := n6_
          have BK278 := n7_
          have BK279 := n8_
          have BK293 := n9_
          have BK308 := n10_
          have BK309 := n11_
          have BK321 := n12_
          have BK328 := n13_
          have HB := n14_
          clear n0_ n1_ n2_ n3_ n4_ n5_ n6_ n7_ n8_ n9_ n10_ n11_ n12_ n13_ n14_
          have n0_ := Aside0.mk (Kd.R_drew HO286.out)
          have n1_ := Aside0.mk (Kd.V_drew HO291.out)
          have n2_ := Aside0.mk (Kd.R_drew HO298.out)
          have n3_ := Aside0.mk (Kd.V_drew HO303.out)
          have n4_ := Aside0.mk (Kd.R_drew HO314.out)
          have n5_ := Aside0.mk (Kd.V_drew HO319.out)
          have n6_ := Aside0.mk (Kd.V_drew HO326.out)
          have n7_ := Aside0.mk (blk_drew BK278.out)
          have n8_ := Aside0.mk (blk_drew BK279.out)
          have n9_ := Aside0.mk (blk_drew BK293.out)
          have n10_ := Aside0.mk (blk_drew BK308.out)
          have n11_ := Aside0.mk (blk_drew BK309.out)
          have n12_ := Aside0.mk (blk_drew BK321.out)
          have n13_ := Aside0.mk (blk_drew BK328.out)
          have n14_ := Aside0.mk (below_drew1 HB.out)
          clear HO286
          clear HO291
          clear HO298
          clear HO303
          clear HO314
          clear HO319
          clear HO326
          clear BK278
          clear BK279
          clear BK293
          clear BK308
          clear BK309
          clear BK321
          clear BK328
          clear HB
          have HO286 := n0_
          have HO291 := n1_
          have HO298 := n2_
          have HO303 := n3_
          have HO314 := n4_
          have HO319 := n5_
          have HO326 := n6_
          have BK278 := n7_
          have BK279 := n8_
          have BK293 := n9_
          have BK308 := n10_
          have BK309 := n11_
          have BK321 := n12_
          have BK328 := n13_
          have HB := n14_
          clear n0_ n1_ n2_ n3_ n4_ n5_ n6_ n7_ n8_ n9_ n10_ n11_ n12_ n13_ n14_
          refine start_ (n := 34) (S := fun w' => w'.cell? ⟨gb293, 0, none⟩ = some (.int .i64 t287) ∧ w'.cell? ⟨gb293, 1, none⟩ = some (.bool t288) ∧ w'.cell? ⟨gb293, 2, none⟩ = some (.slice Ao26 t289.length co26) ∧ w'.cell? ⟨gb278, 0, none⟩ = some (.int .i64 a0_0) ∧ w'.cell? ⟨gb278, 1, none⟩ = some (.bool a0_1) ∧ w'.cell? ⟨gb278, 2, none⟩ = some (.slice A0_2 l0_2.length c0_2)) (ds := []) (tf 0 34) (by kernel_rfl) rfl rfl ⟨(blk_cell BK293.out 0).trans rfl, (blk_cell BK293.out 1).trans rfl, (blk_cell BK293.out 2).trans rfl, (blk_cell BK278.out 0).trans rfl, (blk_cell BK278.out 1).trans rfl, (blk_cell BK278.out 2).trans rfl⟩ (fun hHeld => ?_); refine with_tabW hopperlaw08_PipeCounts.tab7 hopperlaw08_PipeCounts.bits7 (fun HT_ HW_ => ?_)
          generalize w80.drew = w81 at HO286 HO291 HO298 HO303 HO314 HO319 HO326 BK278 BK279 BK293 BK308 BK309 BK321 BK328 HB hHeld ⊢
          refine pure_ (i := 0) (N := some 44) (v := ?_) (a' := ?_) (tf 1 34) rfl rfl (any_of HT_.out (by kernel_rfl)) (fun _ _ _ h => h) (Or.inl ⟨by rfl, ?_⟩) ?_ ?_
          rotate_left
          · intro w'
            go_simp
            with_reducible rfl
          rotate_left
          · simp only [Act.put, PU, i64_w, i32_w]
            rfl
          refine pure_ (i := 1) (N := some 45) (v := ?_) (a' := ?_) (tf 2 34) rfl rfl (any_of HT_.out (by kernel_rfl)) (fun _ _ _ h => h) (Or.inl ⟨by rfl, ?_⟩) ?_ ?_
          rotate_left
          · intro w'
            go_simp
            with_reducible rfl
          rotate_left
          · simp only [Act.put, PU, i64_w, i32_w]
            rfl
          refine pure_ (i := 2) (N := some 46) (v := ?_) (a' := ?_) (tf 3 34) rfl rfl (any_of HT_.out (by kernel_rfl)) (fun _ _ _ h => h) (Or.inl ⟨by rfl, ?_⟩) ?_ ?_
          rotate_left
          · intro w'
            go_simp
            with_reducible rfl
          rotate_left
          · simp only [Act.put, PU, i64_w, i32_w]
            rfl
          refine pure_ (i := 3) (N := some 47) (v := ?_) (a' := ?_) (tf 4 34) rfl rfl (any_of HT_.out (by kernel_rfl)) (fun _ _ _ h => h) (Or.inl ⟨by rfl, ?_⟩) ?_ ?_
          rotate_left
          · intro w'
            go_simp
            with_reducible rfl
          rotate_left
          · simp only [Act.put, PU, i64_w, i32_w]
            rfl
          refine pure_ (i := 6) (N := some 50) (v := ?_) (a' := ?_) #[true, true, true, true, false, false, true, false, false, false, false, false, false, false, false, false, false, false, false, false, false, false, false, false, false, false, false, false, false, false, false, false, false, false] rfl rfl (any_of HT_.out (by kernel_rfl)) (fun _ _ _ h => h) (Or.inl ⟨by rfl, ?_⟩) ?_ ?_
          rotate_left
          · intro w'
            go_simp
            with_reducible rfl
          rotate_left
          · simp only [Act.put, PU, i64_w, i32_w]
            rfl
          refine take_ (i := 4) (N := some 48) (v := ?_) (a' := ?_) #[true, true, true, true, true, false, true, false, false, false, false, false, false, false, false, false, false, false, false, false, false, false, false, false, false, false, false, false, false, false, false, false, false, false] rfl rfl (take_ofW HT_.out HW_.out (by kernel_rfl)) (fun _ _ _ h => h) (Or.inl ⟨by rfl, ?_⟩) hHeld ?_ ?_
          rotate_left
          · rintro w' ⟨s0, s1, s2, s3, s4, s5⟩
            go_simp
            with_reducible rfl
          rotate_left
          · simp only [Act.put, PU, i64_w, i32_w]
            rfl
          refine pure_ (i := 5) (N := some 49) (v := ?_) (a' := ?_) (tf 7 34) rfl rfl (any_of HT_.out (by kernel_rfl)) (fun _ _ _ h => h) (Or.inl ⟨by rfl, ?_⟩) ?_ ?_
          rotate_left
          · intro w'
            go_simp
            with_reducible rfl
          rotate_left
          · simp only [Act.put, PU, i64_w, i32_w]
            rfl
          refine take_ (i := 7) (N := some 51) (v := ?_) (a' := ?_) (tf 8 34) rfl rfl (take_ofW HT_.out HW_.out (by kernel_rfl)) (fun _ _ _ h => h) (Or.inl ⟨by rfl, ?_⟩) hHeld ?_ ?_
          rotate_left
          · rintro w' ⟨s0, s1, s2, s3, s4, s5⟩
            go_simp
            with_reducible rfl
          rotate_left
          · simp only [Act.put, PU, i64_w, i32_w]
            rfl
          refine pure_ (i := 8) (N := some 52) (v := ?_) (a' := ?_) (tf 9 34) rfl rfl (any_of HT_.out (by kernel_rfl)) (fun _ _ _ h => h) (Or.inl ⟨by rfl, ?_⟩) ?_ ?_
          rotate_left
          · intro w'
            go_simp
            with_reducible rfl
          rotate_left
          · simp only [Act.put, PU, i64_w, i32_w]
            rfl
          refine pure_ (i := 9) (N := some 53) (v := ?_) (a' := ?_) (tf 10 34) rfl rfl (any_of HT_.out (by kernel_rfl)) (fun _ _ _ h => h) (Or.inl ⟨by rfl, ?_⟩) ?_ ?_
          rotate_left
          · intro w'
            go_simp
            with_reducible rfl
          rotate_left
          · simp only [Act.put, PU, i64_w, i32_w]
            rfl
          refine pure_ (i := 10) (N := some 54) (v := ?_) (a' := ?_) (tf 11 34) rfl rfl (any_of HT_.out (by kernel_rfl)) (fun _ _ _ h => h) (Or.inl ⟨by rfl, ?_⟩) ?_ ?_
          rotate_left
          · intro w'
            go_simp
            with_reducible rfl
          rotate_left
          · simp only [Act.put, PU, i64_w, i32_w]
            rfl
          refine pure_ (i := 11) (N := some 55) (v := ?_) (a' := ?_) (tf 12 34) rfl rfl (any_of HT_.out (by kernel_rfl)) (fun _ _ _ h => h) (Or.inl ⟨by rfl, ?_⟩) ?_ ?_
          rotate_left
          · intro w'
            go_simp
            with_reducible rfl
          rotate_left
          · simp only [Act.put, PU, i64_w, i32_w]
            rfl
          refine pure_ (i := 12) (N := some 56) (v := undef) (a' := ?_) (tf 13 34) rfl rfl (any_of HT_.out (by kernel_rfl)) (fun _ _ _ h => h) (Or.inr ⟨by rfl, rfl⟩) ?_ ?_
          rotate_left
          · simp only [Act.put, PU, i64_w, i32_w]
            rfl
          refine pure_ (i := 13) (N := some 57) (v := undef) (a' := ?_) (tf 14 34) rfl rfl (any_of HT_.out (by kernel_rfl)) (fun _ _ _ h => h) (Or.inr ⟨by rfl, rfl⟩) ?_ ?_
          rotate_left
          · simp only [Act.put, PU, i64_w, i32_w]
            rfl
          refine pure_ (i := 14) (N := some 58) (v := undef) (a' := ?_) (tf 15 34) rfl rfl (any_of HT_.out (by kernel_rfl)) (fun _ _ _ h => h) (Or.inr ⟨by rfl, rfl⟩) ?_ ?_
          rotate_left
          · simp only [Act.put, PU, i64_w, i32_w]
            rfl
          refine pure_ (i := 15) (N := some 59) (v := undef) (a' := ?_) (tf 16 34) rfl rfl (any_of HT_.out (by kernel_rfl)) (fun _ _ _ h => h) (Or.inr ⟨by rfl, rfl⟩) ?_ ?_
          rotate_left
          · simp only [Act.put, PU, i64_w, i32_w]
            rfl
          refine pure_ (i := 16) (N := some 60) (v := undef) (a' := ?_) (tf 17 34) rfl rfl (any_of HT_.out (by kernel_rfl)) (fun _ _ _ h => h) (Or.inr ⟨by rfl, rfl⟩) ?_ ?_
          rotate_left
          · simp only [Act.put, PU, i64_w, i32_w]
            rfl
          refine pure_ (i := 17) (N := some 61) (v := undef) (a' := ?_) (tf 18 34) rfl rfl (any_of HT_.out (by kernel_rfl)) (fun _ _ _ h => h) (Or.inr ⟨by rfl, rfl⟩) ?_ ?_
          rotate_left
          · simp only [Act.put, PU, i64_w, i32_w]
            rfl
          refine pure_ (i := 18) (N := some 62) (v := undef) (a' := ?_) (tf 19 34) rfl rfl (any_of HT_.out (by kernel_rfl)) (fun _ _ _ h => h) (Or.inr ⟨by rfl, rfl⟩) ?_ ?_
          rotate_left
          · simp only [Act.put, PU, i64_w, i32_w]
            rfl
          refine pure_ (i := 19) (N := some 63) (v := undef) (a' := ?_) (tf 20 34) rfl rfl (any_of HT_.out (by kernel_rfl)) (fun _ _ _ h => h) (Or.inr ⟨by rfl, rfl⟩) ?_ ?_
          rotate_left
          · simp only [Act.put, PU, i64_w, i32_w]
            rfl
          refine pure_ (i := 20) (N := some 64) (v := undef) (a' := ?_) (tf 21 34) rfl rfl (any_of HT_.out (by kernel_rfl)) (fun _ _ _ h => h) (Or.inr ⟨by rfl, rfl⟩) ?_ ?_
          rotate_left
          · simp only [Act.put, PU, i64_w, i32_w]
            rfl
          refine pure_ (i := 21) (N := some 65) (v := ?_) (a' := ?_) (tf 22 34) rfl rfl (any_of HT_.out (by kernel_rfl)) (fun _ _ _ h => h) (Or.inl ⟨by rfl, ?_⟩) ?_ ?_
          rotate_left
          · intro w'
            go_simp
            with_reducible rfl
          rotate_left
          · simp only [Act.put, PU, i64_w, i32_w]
            rfl
          refine pure_ (i := 22) (N := some 66) (v := ?_) (a' := ?_) (tf 23 34) rfl rfl (any_of HT_.out (by kernel_rfl)) (fun _ _ _ h => h) (Or.inl ⟨by rfl, ?_⟩) ?_ ?_
          rotate_left
          · intro w'
            go_simp
            with_reducible rfl
          rotate_left
          · simp only [Act.put, PU, i64_w, i32_w]
            rfl
          refine pure_ (i := 23) (N := some 67) (v := ?_) (a' := ?_) (tf 24 34) rfl rfl (any_of HT_.out (by kernel_rfl)) (fun _ _ _ h => h) (Or.inl ⟨by rfl, ?_⟩) ?_ ?_
          rotate_left
          · intro w'
            go_simp
            with_reducible rfl
          rotate_left
          · simp only [Act.put, PU, i64_w, i32_w]
            rfl
          refine pure_ (i := 24) (N := some 68) (v := undef) (a' := ?_) (tf 25 34) rfl rfl (any_of HT_.out (by kernel_rfl)) (fun _ _ _ h => h) (Or.inr ⟨by rfl, rfl⟩) ?_ ?_
          rotate_left
          · simp only [Act.put, PU, i64_w, i32_w]
            rfl
          refine pure_ (i := 25) (N := some 69) (v := undef) (a' := ?_) (tf 26 34) rfl rfl (any_of HT_.out (by kernel_rfl)) (fun _ _ _ h => h) (Or.inr ⟨by rfl, rfl⟩) ?_ ?_
          rotate_left
          · simp only [Act.put, PU, i64_w, i32_w]
            rfl
          refine pure_ (i := 26) (N := some 70) (v := undef) (a' := ?_) (tf 27 34) rfl rfl (any_of HT_.out (by kernel_rfl)) (fun _ _ _ h => h) (Or.inr ⟨by rfl, rfl⟩) ?_ ?_
          rotate_left
          · simp only [Act.put, PU, i64_w, i32_w]
            rfl
          refine pure_ (i := 27) (N := some 71) (v := undef) (a' := ?_) (tf 28 34) rfl rfl (any_of HT_.out (by kernel_rfl)) (fun _ _ _ h => h) (Or.inr ⟨by rfl, rfl⟩) ?_ ?_
          rotate_left
          · simp only [Act.put, PU, i64_w, i32_w]
            rfl
          refine pure_ (i := 28) (N := some 72) (v := undef) (a' := ?_) (tf 29 34) rfl rfl (any_of HT_.out (by kernel_rfl)) (fun _ _ _ h => h) (Or.inr ⟨by rfl, rfl⟩) ?_ ?_
          rotate_left
          · simp only [Act.put, PU, i64_w, i32_w]
            rfl
          refine pure_ (i := 29) (N := some 73) (v := undef) (a' := ?_) (tf 30 34) rfl rfl (any_of HT_.out (by kernel_rfl)) (fun _ _ _ h => h) (Or.inr ⟨by rfl, rfl⟩) ?_ ?_
          rotate_left
          · simp only [Act.put, PU, i64_w, i32_w]
            rfl
          refine pure_ (i := 30) (N := some 74) (v := undef) (a' := ?_) (tf 31 34) rfl rfl (any_of HT_.out (by kernel_rfl)) (fun _ _ _ h => h) (Or.inr ⟨by rfl, rfl⟩) ?_ ?_
          rotate_left
          · simp only [Act.put, PU, i64_w, i32_w]
            rfl
          refine pure_ (i := 31) (N := some 75) (v := undef) (a' := ?_) (tf 32 34) rfl rfl (any_of HT_.out (by kernel_rfl)) (fun _ _ _ h => h) (Or.inr ⟨by rfl, rfl⟩) ?_ ?_
          rotate_left
          · simp only [Act.put, PU, i64_w, i32_w]
            rfl
          refine pure_ (i := 32) (N := some 76) (v := undef) (a' := ?_) (tf 33 34) rfl rfl (any_of HT_.out (by kernel_rfl)) (fun _ _ _ h => h) (Or.inr ⟨by rfl, rfl⟩) ?_ ?_
          rotate_left
          · simp only [Act.put, PU, i64_w, i32_w]
            rfl
          refine pure_ (i := 33) (N := some 77) (v := ?_) (a' := ?_) (tf 34 34) rfl rfl (any_of HT_.out (by kernel_rfl)) (fun _ _ _ h => h) (Or.inl ⟨by rfl, ?_⟩) ?_ ?_
          rotate_left
          · intro w'
            go_simp
            with_reducible rfl
          rotate_left
          · simp only [Act.put, PU, i64_w, i32_w]
            rfl
          refine done_ (done_of HT_.out (by kernel_rfl)) ?_
          try go_wp2
          go_meet
          case rel => exact ⟨_, (true), (by first | (rw [HR_.out]; done) | rfl | (rw [HR_.out]; rfl) | (simp [HR_.out]; done) | (simp; done) | (simp [*]; done)), H', ⟨by first | omega | exact Nat.le_refl _⟩, ⟨by (with_reducible repeat (first | apply Kd.V_alloc | apply Kd.V_drewN | apply Kd.V_drew)); exact Kd.V_mono HO291.out (fun _ hk => ⟨hk.2.2.1, ⟨hk.2.2.2.1, ⟨hk.2.2.2.2.1, ⟨hk.2.2.2.2.2.1, ⟨hk.2.2.2.2.2.2.1, ⟨hk.2.2.2.2.2.2.2.1, hk.2.2.2.2.2.2.2.2⟩⟩⟩⟩⟩⟩)⟩, ⟨by (with_reducible repeat (first | apply Kd.V_alloc | apply Kd.V_drewN | apply Kd.V_drew)); exact Kd.V_mono HO303.out (fun _ hk => ⟨hk.2.2.1, ⟨hk.2.2.2.1, ⟨hk.2.2.2.2.1, ⟨hk.2.2.2.2.2.1, ⟨hk.2.2.2.2.2.2.1, ⟨hk.2.2.2.2.2.2.2.1, hk.2.2.2.2.2.2.2.2⟩⟩⟩⟩⟩⟩)⟩, ⟨by (with_reducible repeat (first | apply Kd.V_alloc | apply Kd.V_drewN | apply Kd.V_drew)); exact Kd.V_mono HO319.out (fun _ hk => ⟨hk.2.2.1, ⟨hk.2.2.2.1, ⟨hk.2.2.2.2.1, ⟨hk.2.2.2.2.2.1, ⟨hk.2.2.2.2.2.2.1, ⟨hk.2.2.2.2.2.2.2.1, hk.2.2.2.2.2.2.2.2⟩⟩⟩⟩⟩⟩)⟩, ⟨by (with_reducible repeat (first | apply Kd.V_alloc | apply Kd.V_drewN | apply Kd.V_drew)); exact Kd.V_mono HO326.out (fun _ hk => ⟨hk.2.2.1, ⟨hk.2.2.2.1, ⟨hk.2.2.2.2.1, ⟨hk.2.2.2.2.2.1, ⟨hk.2.2.2.2.2.2.1, ⟨hk.2.2.2.2.2.2.2.1, hk.2.2.2.2.2.2.2.2⟩⟩⟩⟩⟩⟩)⟩, ⟨by (with_reducible repeat (first | refine blk_drewN ?_ _ | refine blk_drew ?_ | refine blk_alloc ?_ _)); exact BK278.out⟩, ⟨by (with_reducible repeat (first | refine blk_drewN ?_ _ | refine blk_drew ?_ | refine blk_alloc ?_ _)); exact BK279.out⟩, ⟨by (with_reducible repeat (first | refine blk_drewN ?_ _ | refine blk_drew ?_ | refine blk_alloc ?_ _)); exact BK293.out⟩, ⟨by (with_reducible repeat (first | refine blk_drewN ?_ _ | refine blk_drew ?_ | refine blk_alloc ?_ _)); exact BK308.out⟩, ⟨by (with_reducible repeat (first | refine blk_drewN ?_ _ | refine blk_drew ?_ | refine blk_alloc ?_ _)); exact BK309.out⟩, ⟨by (with_reducible repeat (first | refine blk_drewN ?_ _ | refine blk_drew ?_ | refine blk_alloc ?_ _)); exact BK321.out⟩, ⟨by (with_reducible repeat (first | refine blk_drewN ?_ _ | refine blk_drew ?_ | refine blk_alloc ?_ _)); exact BK328.out⟩, ⟨LG HB.out (G1 GE278.out (G1 GE279.out (G1 GE293.out (G1 GE308.out (G1 GE309.out (G1 GE321.out (G1 GE328.out G0)))))))⟩⟩
      · rw [if_neg c71] at H
        have c71b0 : (t292 == 0) = false := beq_eq_false_iff_ne.mpr c71
        have c71b1 : (t292 != 0) = true := bne_iff_ne.mpr c71
        (first | rw [c71b0] | (simp only [i64_w, i32_w]; rw [c71b0]) | skip)
        replace H := Option.bind_eq_some_iff.mp H
        obtain ⟨⟨t330, t331, t332⟩, A820, H⟩ := H
        try dsimp only at H
        have A82 := Aside0.mk A820
        clear A820
        replace H := Option.bind_eq_some_iff.mp H
        obtain ⟨t335, A830, H⟩ := H
        try dsimp only at H
        have A83 := Aside0.mk A830
        clear A830
        have H' := Aside0.mk H
        clear H
        try go_wp2
        have n0_ : Aside0 (Kd.R k36 36 (((w62.setCell ⟨gb328, 0, none⟩ (.int .i64 t322)).setCell ⟨gb328, 1, none⟩ (.bool t323)).setCell ⟨gb328, 2, none⟩ (.slice Ao70 t324.length co70)) w.heap.size (fun k_ => some k_ ≠ (.slice Ao31 t296.length co31 : Value).ownBlock ∧ some k_ ≠ (.slice Ao47 t312.length co47 : Value).ownBlock ∧ k_ ≠ gb309) v285 t284) := ⟨by (with_reducible repeat (first | apply Kd.R_alloc | apply Kd.R_drewN | apply Kd.R_drew)); exact Kd.R_mono (Kd.R_mv (g := gb328) (Kd.R_types HO286.out BK328.out (by decide)) (fun _ hk => hk.2)) (fun _ hk => ⟨hk.1.1, ⟨hk.1.2.1, hk.1.2.2⟩⟩)⟩
        have n1_ : Aside0 (Kd.V k36 36 (((w62.setCell ⟨gb328, 0, none⟩ (.int .i64 t322)).setCell ⟨gb328, 1, none⟩ (.bool t323)).setCell ⟨gb328, 2, none⟩ (.slice Ao70 t324.length co70)) w.heap.size (fun k_ => some k_ ≠ (.slice Ao31 t296.length co31 : Value).ownBlock ∧ some k_ ≠ (.slice Ao47 t312.length co47 : Value).ownBlock ∧ k_ ≠ gb278 ∧ k_ ≠ gb279 ∧ k_ ≠ gb293 ∧ k_ ≠ gb308 ∧ k_ ≠ gb309 ∧ k_ ≠ gb321 ∧ k_ ≠ gb328) (.slice Ao26 t289.length co26) t289) := ⟨by (with_reducible repeat (first | apply Kd.V_alloc | apply Kd.V_drewN | apply Kd.V_drew)); exact Kd.V_mono (Kd.V_mv (g := gb328) (Kd.V_mono HO291.out (fun k_ hk => (⟨hk, hk.2⟩ : _ ∧ k_ ≠ gb328))) (fun _ hk => hk.2)) (fun _ hk => ⟨hk.1.1.1, ⟨hk.1.1.2.1, ⟨hk.1.1.2.2.1, ⟨hk.1.1.2.2.2.1, ⟨hk.1.1.2.2.2.2.1, ⟨hk.1.1.2.2.2.2.2.1, ⟨hk.1.1.2.2.2.2.2.2.1, ⟨hk.1.1.2.2.2.2.2.2.2, hk.1.2⟩⟩⟩⟩⟩⟩⟩⟩)⟩
        have n2_ : Aside0 (Kd.R k36 36 (((w62.setCell ⟨gb328, 0, none⟩ (.int .i64 t322)).setCell ⟨gb328, 1, none⟩ (.bool t323)).setCell ⟨gb328, 2, none⟩ (.slice Ao70 t324.length co70)) w.heap.size (fun k_ => some k_ ≠ (v285 : Value).ownBlock ∧ some k_ ≠ (.slice Ao47 t312.length co47 : Value).ownBlock ∧ k_ ≠ gb309) (.slice Ao31 t296.length co31) t296) := ⟨by (with_reducible repeat (first | apply Kd.R_alloc | apply Kd.R_drewN | apply Kd.R_drew)); exact Kd.R_mono (Kd.R_mv (g := gb328) (Kd.R_types HO298.out BK328.out (by decide)) (fun _ hk => hk.2)) (fun _ hk => ⟨hk.1.1, ⟨hk.1.2.1, hk.1.2.2⟩⟩)⟩
        have n3_ : Aside0 (Kd.V k36 36 (((w62.setCell ⟨gb328, 0, none⟩ (.int .i64 t322)).setCell ⟨gb328, 1, none⟩ (.bool t323)).setCell ⟨gb328, 2, none⟩ (.slice Ao70 t324.length co70)) w.heap.size (fun k_ => some k_ ≠ (v285 : Value).ownBlock ∧ some k_ ≠ (.slice Ao47 t312.length co47 : Value).ownBlock ∧ k_ ≠ gb278 ∧ k_ ≠ gb279 ∧ k_ ≠ gb293 ∧ k_ ≠ gb308 ∧ k_ ≠ gb309 ∧ k_ ≠ gb321 ∧ k_ ≠ gb328) (.slice Ao40 t301.length co40) t301) := ⟨by (with_reducible repeat (first | apply Kd.V_alloc | apply Kd.V_drewN | apply Kd.V_drew)); exact Kd.V_mono (Kd.V_mv (g := gb328) (Kd.V_mono HO303.out (fun k_ hk => (⟨hk, hk.2⟩ : _ ∧ k_ ≠ gb328))) (fun _ hk => hk.2)) (fun _ hk => ⟨hk.1.1.1, ⟨hk.1.1.2.1, ⟨hk.1.1.2.2.1, ⟨hk.1.1.2.2.2.1, ⟨hk.1.1.2.2.2.2.1, ⟨hk.1.1.2.2.2.2.2.1, ⟨hk.1.1.2.2.2.2.2.2.1, ⟨hk.1.1.2.2.2.2.2.2.2, hk.1.2⟩⟩⟩⟩⟩⟩⟩⟩)⟩
        have n4_ : Aside0 (Kd.R k36 36 (((w62.setCell ⟨gb328, 0, none⟩ (.int .i64 t322)).setCell ⟨gb328, 1, none⟩ (.bool t323)).setCell ⟨gb328, 2, none⟩ (.slice Ao70 t324.length co70)) w.heap.size (fun k_ => some k_ ≠ (v285 : Value).ownBlock ∧ some k_ ≠ (.slice Ao31 t296.length co31 : Value).ownBlock ∧ k_ ≠ gb309) (.slice Ao47 t312.length co47) t312) := ⟨by (with_reducible repeat (first | apply Kd.R_alloc | apply Kd.R_drewN | apply Kd.R_drew)); exact Kd.R_mono (Kd.R_mv (g := gb328) (Kd.R_types HO314.out BK328.out (by decide)) (fun _ hk => hk.2)) (fun _ hk => ⟨hk.1.1, ⟨hk.1.2.1, hk.1.2.2⟩⟩)⟩
        have n5_ : Aside0 (Kd.V k36 36 (((w62.setCell ⟨gb328, 0, none⟩ (.int .i64 t322)).setCell ⟨gb328, 1, none⟩ (.bool t323)).setCell ⟨gb328, 2, none⟩ (.slice Ao70 t324.length co70)) w.heap.size (fun k_ => some k_ ≠ (v285 : Value).ownBlock ∧ some k_ ≠ (.slice Ao31 t296.length co31 : Value).ownBlock ∧ k_ ≠ gb278 ∧ k_ ≠ gb279 ∧ k_ ≠ gb293 ∧ k_ ≠ gb308 ∧ k_ ≠ gb309 ∧ k_ ≠ gb321 ∧ k_ ≠ gb328) (.slice Ao56 t317.length co56) t317) := ⟨by (with_reducible repeat (first | apply Kd.V_alloc | apply Kd.V_drewN | apply Kd.V_drew)); exact Kd.V_mono (Kd.V_mv (g := gb328) (Kd.V_mono HO319.out (fun k_ hk => (⟨hk, hk.2⟩ : _ ∧ k_ ≠ gb328))) (fun _ hk => hk.2)) (fun _ hk => ⟨hk.1.1.1, ⟨hk.1.1.2.1, ⟨hk.1.1.2.2.1, ⟨hk.1.1.2.2.2.1, ⟨hk.1.1.2.2.2.2.1, ⟨hk.1.1.2.2.2.2.2.1, ⟨hk.1.1.2.2.2.2.2.2.1, ⟨hk.1.1.2.2.2.2.2.2.2, hk.1.2⟩⟩⟩⟩⟩⟩⟩⟩)⟩
        have n6_ : Aside0 (Kd.V k36 36 (((w62.setCell ⟨gb328, 0, none⟩ (.int .i64 t322)).setCell ⟨gb328, 1, none⟩ (.bool t323)).setCell ⟨gb328, 2, none⟩ (.slice Ao70 t324.length co70)) w.heap.size (fun k_ => some k_ ≠ (v285 : Value).ownBlock ∧ some k_ ≠ (.slice Ao31 t296.length co31 : Value).ownBlock ∧ k_ ≠ gb278 ∧ k_ ≠ gb279 ∧ k_ ≠ gb293 ∧ k_ ≠ gb308 ∧ k_ ≠ gb309 ∧ k_ ≠ gb321 ∧ k_ ≠ gb328) (.slice Ao70 t324.length co70) t324) := ⟨by (with_reducible repeat (first | apply Kd.V_alloc | apply Kd.V_drewN | apply Kd.V_drew)); exact Kd.V_mono (Kd.V_mv (g := gb328) (Kd.V_mono HO326.out (fun k_ hk => (⟨hk, hk.2⟩ : _ ∧ k_ ≠ gb328))) (fun _ hk => hk.2)) (fun _ hk => ⟨hk.1.1.1, ⟨hk.1.1.2.1, ⟨hk.1.1.2.2.1, ⟨hk.1.1.2.2.2.1, ⟨hk.1.1.2.2.2.2.1, ⟨hk.1.1.2.2.2.2.2.1, ⟨hk.1.1.2.2.2.2.2.2.1, ⟨hk.1.1.2.2.2.2.2.2.2, hk.1.2⟩⟩⟩⟩⟩⟩⟩⟩)⟩
        have n7_ : Aside0 ((((w62.setCell ⟨gb328, 0, none⟩ (.int .i64 t322)).setCell ⟨gb328, 1, none⟩ (.bool t323)).setCell ⟨gb328, 2, none⟩ (.slice Ao70 t324.length co70)).heap[gb278]? = some (.cells #[.int .i64 a0_0, .bool a0_1, .slice A0_2 l0_2.length c0_2] 24 (0, 0))) := ⟨by exact BF BK278.out NB278_328.out⟩
        have n8_ : Aside0 ((((w62.setCell ⟨gb328, 0, none⟩ (.int .i64 t322)).setCell ⟨gb328, 1, none⟩ (.bool t323)).setCell ⟨gb328, 2, none⟩ (.slice Ao70 t324.length co70)).heap[gb279]? = some (.cells #[.int .i64 a1_0, .int .i64 a1_1, .string a1_2] 26 (0, 0))) := ⟨by exact BF BK279.out NB279_328.out⟩
        have n9_ : Aside0 ((((w62.setCell ⟨gb328, 0, none⟩ (.int .i64 t322)).setCell ⟨gb328, 1, none⟩ (.bool t323)).setCell ⟨gb328, 2, none⟩ (.slice Ao70 t324.length co70)).heap[gb293]? = some (.cells #[.int .i64 t287, .bool t288, .slice Ao26 t289.length co26] 31 (0, 0))) := ⟨by exact BF BK293.out NB293_328.out⟩
        have n10_ : Aside0 ((((w62.setCell ⟨gb328, 0, none⟩ (.int .i64 t322)).setCell ⟨gb328, 1, none⟩ (.bool t323)).setCell ⟨gb328, 2, none⟩ (.slice Ao70 t324.length co70)).heap[gb308]? = some (.cells #[.int .i64 t299, .bool t300, .slice Ao40 t301.length co40] 31 (0, 0))) := ⟨by exact BF BK308.out NB308_328.out⟩
        have n11_ : Aside0 ((((w62.setCell ⟨gb328, 0, none⟩ (.int .i64 t322)).setCell ⟨gb328, 1, none⟩ (.bool t323)).setCell ⟨gb328, 2, none⟩ (.slice Ao70 t324.length co70)).heap[gb309]? = some (.cells #[.int .i64 t304, .int .i64 t305, .string t306] 36 (0, 0))) := ⟨by exact BF BK309.out NB309_328.out⟩
        have n12_ : Aside0 ((((w62.setCell ⟨gb328, 0, none⟩ (.int .i64 t322)).setCell ⟨gb328, 1, none⟩ (.bool t323)).setCell ⟨gb328, 2, none⟩ (.slice Ao70 t324.length co70)).heap[gb321]? = some (.cells #[.int .i64 t315, .bool t316, .slice Ao56 t317.length co56] 31 (0, 0))) := ⟨by exact BF BK321.out NB321_328.out⟩
        have n13_ : Aside0 ((((w62.setCell ⟨gb328, 0, none⟩ (.int .i64 t322)).setCell ⟨gb328, 1, none⟩ (.bool t323)).setCell ⟨gb328, 2, none⟩ (.slice Ao70 t324.length co70)).heap[gb328]? = some (.cells #[.int .i64 t322, .bool t323, .slice Ao70 t324.length co70] 31 (0, 0))) := ⟨by exact BP BK328.out (by rfl)⟩
        have n14_ : Aside0 (Below w.heap.size w (((w62.setCell ⟨gb328, 0, none⟩ (.int .i64 t322)).setCell ⟨gb328, 1, none⟩ (.bool t323)).setCell ⟨gb328, 2, none⟩ (.slice Ao70 t324.length co70))) := ⟨LG HB.out (G1 GE278.out (G1 GE279.out (G1 GE293.out (G1 GE308.out (G1 GE309.out (G1 GE321.out (G1 GE328.out G0)))))))⟩
        (try clear HO286)
        (try clear HO291)
        (try clear HO298)
        (try clear HO303)
        (try clear HO314)
        (try clear HO319)
        (try clear HO326)
        (try clear BK278)
        (try clear BK279)
        (try clear BK293)
        (try clear BK308)
        (try clear BK309)
        (try clear BK321)
        (try clear BK328)
        (try clear HB)
        generalize (((w62.setCell ⟨gb328, 0, none⟩ (.int .i64 t322)).setCell ⟨gb328, 1, none⟩ (.bool t323)).setCell ⟨gb328, 2, none⟩ (.slice Ao70 t324.length co70)) = w84 at n0_ n1_ n2_ n3_ n4_ n5_ n6_ n7_ n8_ n9_ n10_ n11_ n12_ n13_ n14_ ⊢
        have HO286 := n0_
        have HO291 := n1_
        have HO298 := n2_
        have HO303 := n3_
        have HO314 := n4_
        have HO319 := n5_
        have HO326 := n6_
        have BK278 := n7_
        have BK279 := n8_
        have BK293 := n9_
        have BK308 := n10_
        have BK309 := n11_
        have BK321 := n12_
        have BK328 := n13_
        have HB := n14_
        clear n0_ n1_ n2_ n3_ n4_ n5_ n6_ n7_ n8_ n9_ n10_ n11_ n12_ n13_ n14_
        have n0_ := Aside0.mk (Kd.R_drew HO286.out)
        have n1_ := Aside0.mk (Kd.V_drew HO291.out)
        have n2_ := Aside0.mk (Kd.R_drew HO298.out)
        have n3_ := Aside0.mk (Kd.V_drew HO303.out)
        have n4_ := Aside0.mk (Kd.R_drew HO314.out)
        have n5_ := Aside0.mk (Kd.V_drew HO319.out)
        have n6_ := Aside0.mk (Kd.V_drew HO326.out)
        have n7_ := Aside0.mk (blk_drew BK278.out)
        have n8_ := Aside0.mk (blk_drew BK279.out)
        have n9_ := Aside0.mk (blk_drew BK293.out)
        have n10_ := Aside0.mk (blk_drew BK308.out)
        have n11_ := Aside0.mk (blk_drew BK309.out)
        have n12_ := Aside0.mk (blk_drew BK321.out)
        have n13_ := Aside0.mk (blk_drew BK328.out)
        have n14_ := Aside0.mk (below_drew1 HB.out)
        clear HO286
        clear HO291
        clear HO298
        clear HO303
        clear HO314
        clear HO319
        clear HO326
        clear BK278
        clear BK279
        clear BK293
        clear BK308
        clear BK309
        clear BK321
        clear BK328
        clear HB
        have HO286 := n0_
        have HO291 := n1_
        have HO298 := n2_
        have HO303 := n3_
        have HO314 := n4_
        have HO319 := n5_
        have HO326 := n6_
        have BK278 := n7_
        have BK279 := n8_
        have BK293 := n9_
        have BK308 := n10_
        have BK309 := n11_
        have BK321 := n12_
        have BK328 := n13_
        have HB := n14_
        clear n0_ n1_ n2_ n3_ n4_ n5_ n6_ n7_ n8_ n9_ n10_ n11_ n12_ n13_ n14_
        refine start_ (n := 34) (S := fun w' => w'.cell? ⟨gb293, 0, none⟩ = some (.int .i64 t287) ∧ w'.cell? ⟨gb293, 1, none⟩ = some (.bool t288) ∧ w'.cell? ⟨gb293, 2, none⟩ = some (.slice Ao26 t289.length co26) ∧ w'.cell? ⟨gb278, 0, none⟩ = some (.int .i64 a0_0) ∧ w'.cell? ⟨gb278, 1, none⟩ = some (.bool a0_1) ∧ w'.cell? ⟨gb278, 2, none⟩ = some (.slice A0_2 l0_2.length c0_2)) (ds := []) (tf 0 34) (by kernel_rfl) rfl rfl ⟨(blk_cell BK293.out 0).trans rfl, (blk_cell BK293.out 1).trans rfl, (blk_cell BK293.out 2).trans rfl, (blk_cell BK278.out 0).trans rfl, (blk_cell BK278.out 1).trans rfl, (blk_cell BK278.out 2).trans rfl⟩ (fun hHeld => ?_); refine with_tabW hopperlaw08_PipeCounts.tab7 hopperlaw08_PipeCounts.bits7 (fun HT_ HW_ => ?_)
        generalize w84.drew = w85 at HO286 HO291 HO298 HO303 HO314 HO319 HO326 BK278 BK279 BK293 BK308 BK309 BK321 BK328 HB hHeld ⊢
        refine pure_ (i := 0) (N := some 44) (v := ?_) (a' := ?_) (tf 1 34) rfl rfl (any_of HT_.out (by kernel_rfl)) (fun _ _ _ h => h) (Or.inl ⟨by rfl, ?_⟩) ?_ ?_
        rotate_left
        · intro w'
          go_simp
          with_reducible rfl
        rotate_left
        · simp only [Act.put, PU, i64_w, i32_w]
          rfl
        refine pure_ (i := 1) (N := some 45) (v := ?_) (a' := ?_) (tf 2 34) rfl rfl (any_of HT_.out (by kernel_rfl)) (fun _ _ _ h => h) (Or.inl ⟨by rfl, ?_⟩) ?_ ?_
        rotate_left
        · intro w'
          go_simp
          with_reducible rfl
        rotate_left
        · simp only [Act.put, PU, i64_w, i32_w]
          rfl
        refine pure_ (i := 2) (N := some 46) (v := ?_) (a' := ?_) (tf 3 34) rfl rfl (any_of HT_.out (by kernel_rfl)) (fun _ _ _ h => h) (Or.inl ⟨by rfl, ?_⟩) ?_ ?_
        rotate_left
        · intro w'
          go_simp
          with_reducible rfl
        rotate_left
        · simp only [Act.put, PU, i64_w, i32_w]
          rfl
        refine pure_ (i := 3) (N := some 47) (v := undef) (a' := ?_) (tf 4 34) rfl rfl (any_of HT_.out (by kernel_rfl)) (fun _ _ _ h => h) (Or.inr ⟨by rfl, rfl⟩) ?_ ?_
        rotate_left
        · simp only [Act.put, PU, i64_w, i32_w]
          rfl
        refine pure_ (i := 4) (N := some 48) (v := undef) (a' := ?_) (tf 5 34) rfl rfl (any_of HT_.out (by kernel_rfl)) (fun _ _ _ h => h) (Or.inr ⟨by rfl, rfl⟩) ?_ ?_
        rotate_left
        · simp only [Act.put, PU, i64_w, i32_w]
          rfl
        refine pure_ (i := 5) (N := some 49) (v := undef) (a' := ?_) (tf 6 34) rfl rfl (any_of HT_.out (by kernel_rfl)) (fun _ _ _ h => h) (Or.inr ⟨by rfl, rfl⟩) ?_ ?_
        rotate_left
        · simp only [Act.put, PU, i64_w, i32_w]
          rfl
        refine pure_ (i := 6) (N := some 50) (v := undef) (a' := ?_) (tf 7 34) rfl rfl (any_of HT_.out (by kernel_rfl)) (fun _ _ _ h => h) (Or.inr ⟨by rfl, rfl⟩) ?_ ?_
        rotate_left
        · simp only [Act.put, PU, i64_w, i32_w]
          rfl
        refine pure_ (i := 7) (N := some 51) (v := undef) (a' := ?_) (tf 8 34) rfl rfl (any_of HT_.out (by kernel_rfl)) (fun _ _ _ h => h) (Or.inr ⟨by rfl, rfl⟩) ?_ ?_
        rotate_left
        · simp only [Act.put, PU, i64_w, i32_w]
          rfl
        refine pure_ (i := 8) (N := some 52) (v := undef) (a' := ?_) (tf 9 34) rfl rfl (any_of HT_.out (by kernel_rfl)) (fun _ _ _ h => h) (Or.inr ⟨by rfl, rfl⟩) ?_ ?_
        rotate_left
        · simp only [Act.put, PU, i64_w, i32_w]
          rfl
        refine pure_ (i := 9) (N := some 53) (v := undef) (a' := ?_) (tf 10 34) rfl rfl (any_of HT_.out (by kernel_rfl)) (fun _ _ _ h => h) (Or.inr ⟨by rfl, rfl⟩) ?_ ?_
        rotate_left
        · simp only [Act.put, PU, i64_w, i32_w]
          rfl
        refine pure_ (i := 10) (N := some 54) (v := undef) (a' := ?_) (tf 11 34) rfl rfl (any_of HT_.out (by kernel_rfl)) (fun _ _ _ h => h) (Or.inr ⟨by rfl, rfl⟩) ?_ ?_
        rotate_left
        · simp only [Act.put, PU, i64_w, i32_w]
          rfl
        refine pure_ (i := 11) (N := some 55) (v := undef) (a' := ?_) (tf 12 34) rfl rfl (any_of HT_.out (by kernel_rfl)) (fun _ _ _ h => h) (Or.inr ⟨by rfl, rfl⟩) ?_ ?_
        rotate_left
        · simp only [Act.put, PU, i64_w, i32_w]
          rfl
        refine pure_ (i := 12) (N := some 56) (v := undef) (a' := ?_) (tf 13 34) rfl rfl (any_of HT_.out (by kernel_rfl)) (fun _ _ _ h => h) (Or.inr ⟨by rfl, rfl⟩) ?_ ?_
        rotate_left
        · simp only [Act.put, PU, i64_w, i32_w]
          rfl
        refine pure_ (i := 13) (N := some 57) (v := undef) (a' := ?_) (tf 14 34) rfl rfl (any_of HT_.out (by kernel_rfl)) (fun _ _ _ h => h) (Or.inr ⟨by rfl, rfl⟩) ?_ ?_
        rotate_left
        · simp only [Act.put, PU, i64_w, i32_w]
          rfl
        refine pure_ (i := 14) (N := some 58) (v := undef) (a' := ?_) (tf 15 34) rfl rfl (any_of HT_.out (by kernel_rfl)) (fun _ _ _ h => h) (Or.inr ⟨by rfl, rfl⟩) ?_ ?_
        rotate_left
        · simp only [Act.put, PU, i64_w, i32_w]
          rfl
        refine pure_ (i := 15) (N := some 59) (v := undef) (a' := ?_) (tf 16 34) rfl rfl (any_of HT_.out (by kernel_rfl)) (fun _ _ _ h => h) (Or.inr ⟨by rfl, rfl⟩) ?_ ?_
        rotate_left
        · simp only [Act.put, PU, i64_w, i32_w]
          rfl
        refine pure_ (i := 16) (N := some 60) (v := undef) (a' := ?_) (tf 17 34) rfl rfl (any_of HT_.out (by kernel_rfl)) (fun _ _ _ h => h) (Or.inr ⟨by rfl, rfl⟩) ?_ ?_
        rotate_left
        · simp only [Act.put, PU, i64_w, i32_w]
          rfl
        refine pure_ (i := 17) (N := some 61) (v := undef) (a' := ?_) (tf 18 34) rfl rfl (any_of HT_.out (by kernel_rfl)) (fun _ _ _ h => h) (Or.inr ⟨by rfl, rfl⟩) ?_ ?_
        rotate_left
        · simp only [Act.put, PU, i64_w, i32_w]
          rfl
        refine pure_ (i := 18) (N := some 62) (v := undef) (a' := ?_) (tf 19 34) rfl rfl (any_of HT_.out (by kernel_rfl)) (fun _ _ _ h => h) (Or.inr ⟨by rfl, rfl⟩) ?_ ?_
        rotate_left
        · simp only [Act.put, PU, i64_w, i32_w]
          rfl
        refine pure_ (i := 19) (N := some 63) (v := undef) (a' := ?_) (tf 20 34) rfl rfl (any_of HT_.out (by kernel_rfl)) (fun _ _ _ h => h) (Or.inr ⟨by rfl, rfl⟩) ?_ ?_
        rotate_left
        · simp only [Act.put, PU, i64_w, i32_w]
          rfl
        refine pure_ (i := 20) (N := some 64) (v := undef) (a' := ?_) (tf 21 34) rfl rfl (any_of HT_.out (by kernel_rfl)) (fun _ _ _ h => h) (Or.inr ⟨by rfl, rfl⟩) ?_ ?_
        rotate_left
        · simp only [Act.put, PU, i64_w, i32_w]
          rfl
        refine pure_ (i := 21) (N := some 65) (v := undef) (a' := ?_) (tf 22 34) rfl rfl (any_of HT_.out (by kernel_rfl)) (fun _ _ _ h => h) (Or.inr ⟨by rfl, rfl⟩) ?_ ?_
        rotate_left
        · simp only [Act.put, PU, i64_w, i32_w]
          rfl
        refine pure_ (i := 22) (N := some 66) (v := ?_) (a' := ?_) (tf 23 34) rfl rfl (any_of HT_.out (by kernel_rfl)) (fun _ _ _ h => h) (Or.inl ⟨by rfl, ?_⟩) ?_ ?_
        rotate_left
        · intro w'
          go_simp
          with_reducible rfl
        rotate_left
        · simp only [Act.put, PU, i64_w, i32_w]
          rfl
        refine pure_ (i := 23) (N := some 67) (v := ?_) (a' := ?_) (tf 24 34) rfl rfl (any_of HT_.out (by kernel_rfl)) (fun _ _ _ h => h) (Or.inl ⟨by rfl, ?_⟩) ?_ ?_
        rotate_left
        · intro w'
          go_simp
          with_reducible rfl
        rotate_left
        · simp only [Act.put, PU, i64_w, i32_w]
          rfl
        refine pure_ (i := 24) (N := some 68) (v := ?_) (a' := ?_) (tf 25 34) rfl rfl (any_of HT_.out (by kernel_rfl)) (fun _ _ _ h => h) (Or.inl ⟨by rfl, ?_⟩) ?_ ?_
        rotate_left
        · intro w'
          go_simp
          with_reducible rfl
        rotate_left
        · simp only [Act.put, PU, i64_w, i32_w]
          rfl
        refine pure_ (i := 25) (N := some 69) (v := ?_) (a' := ?_) (tf 26 34) rfl rfl (any_of HT_.out (by kernel_rfl)) (fun _ _ _ h => h) (Or.inl ⟨by rfl, ?_⟩) ?_ ?_
        rotate_left
        · intro w'
          go_simp
          with_reducible rfl
        rotate_left
        · simp only [Act.put, PU, i64_w, i32_w]
          rfl
        refine pure_ (i := 26) (N := some 70) (v := ?_) (a' := ?_) (tf 27 34) rfl rfl (any_of HT_.out (by kernel_rfl)) (fun _ _ _ h => h) (Or.inl ⟨by rfl, ?_⟩) ?_ ?_
        rotate_left
        · intro w'
          go_simp
          with_reducible rfl
        rotate_left
        · simp only [Act.put, PU, i64_w, i32_w]
          rfl
        refine take_ (i := 27) (N := some 71) (v := ?_) (a' := ?_) (tf 28 34) rfl rfl (take_ofW HT_.out HW_.out (by kernel_rfl)) (fun _ _ _ h => h) (Or.inl ⟨by rfl, ?_⟩) hHeld ?_ ?_
        rotate_left
        · rintro w' ⟨s0, s1, s2, s3, s4, s5⟩
          go_simp
          with_reducible rfl
        rotate_left
        · simp only [Act.put, PU, i64_w, i32_w]
          rfl
        refine take_ (i := 29) (N := some 73) (v := ?_) (a' := ?_) #[true, true, true, true, true, true, true, true, true, true, true, true, true, true, true, true, true, true, true, true, true, true, true, true, true, true, true, true, false, true, false, false, false, false] rfl rfl (take_ofW HT_.out HW_.out (by kernel_rfl)) (fun _ _ _ h => h) (Or.inl ⟨by rfl, ?_⟩) hHeld ?_ ?_
        rotate_left
        · rintro w' ⟨s0, s1, s2, s3, s4, s5⟩
          go_simp
          with_reducible rfl
        rotate_left
        · simp only [Act.put, PU, i64_w, i32_w]
          rfl
        refine one_ (i := 28) (N := some 72) (tf 30 34) rfl rfl (one_of HT_.out (by kernel_rfl)) (by decide) (fun K hK => ?_)
        refine goes_ Try.func19 (by kernel_rfl) rfl #[.agg #[.int .i64 t287, .bool t288, .slice Ao26 t289.length co26]] (by rfl) rfl rfl (by (try simp only [List.map_toArray, List.map_cons, List.map_nil]); first | done | rfl | (simp only [List.length_drop, List.length_take]; rfl)) ?_
        with_reducible refine (hopperlaw08_told.calls k t287 t288 _ _ t289 t330 t331 t332 _ ?side1 ?side2 A82.out).mono ?_
        (case side1 => exact Kd.CA (Kd.V_reads' HO291.out).2.2)
        (case side2 => exact (Kd.V_reads' HO291.out).2.1)
        rintro e w86 ⟨v333, rfl, ho0, hb⟩
        refine ⟨_, rfl, ?_⟩
        have n0_ := Aside0.mk (Kd.R_below (Kd.RA HO286.out) hb)
        have n1_ := Aside0.mk (Kd.V_elder' (Kd.VA HO291.out) (Kd.R_base ho0) hb)
        have n2_ := Aside0.mk (Kd.R_below (Kd.RA HO298.out) hb)
        have n3_ := Aside0.mk (Kd.V_elder' (Kd.VA HO303.out) (Kd.R_base ho0) hb)
        have n4_ := Aside0.mk (Kd.R_below (Kd.RA HO314.out) hb)
        have n5_ := Aside0.mk (Kd.V_elder' (Kd.VA HO319.out) (Kd.R_base ho0) hb)
        have n6_ := Aside0.mk (Kd.V_elder' (Kd.VA HO326.out) (Kd.R_base ho0) hb)
        have n7_ := Aside0.mk (Kd.R_lower (Kd.R_newB ho0 (g := gb279) (o := .cells #[.int .i64 a1_0, .int .i64 a1_1, .string a1_2] 26 (0, 0)) (BA BK279.out)) (below_size (LG HB.out (G1 GE278.out (G1 GE279.out (G1 GE293.out (G1 GE308.out (G1 GE309.out (G1 GE321.out (G1 GE328.out G0))))))))))
        have n8_ := Aside0.mk (blk_below (BA BK278.out) hb)
        have n9_ := Aside0.mk (blk_below (BA BK279.out) hb)
        have n10_ := Aside0.mk (blk_below (BA BK293.out) hb)
        have n11_ := Aside0.mk (blk_below (BA BK308.out) hb)
        have n12_ := Aside0.mk (blk_below (BA BK309.out) hb)
        have n13_ := Aside0.mk (blk_below (BA BK321.out) hb)
        have n14_ := Aside0.mk (blk_below (BA BK328.out) hb)
        have n15_ := Aside0.mk (below_step (LG HB.out (G1 GE278.out (G1 GE279.out (G1 GE293.out (G1 GE308.out (G1 GE309.out (G1 GE321.out (G1 GE328.out G0)))))))) hb)
        clear HO286
        clear HO291
        clear HO298
        clear HO303
        clear HO314
        clear HO319
        clear HO326
        clear BK278
        clear BK279
        clear BK293
        clear BK308
        clear BK309
        clear BK321
        clear BK328
        clear HB
        have HO286 := n0_
        have HO291 := n1_
        have HO298 := n2_
        have HO303 := n3_
        have HO314 := n4_
        have HO319 := n5_
        have HO326 := n6_
        have HO334 := n7_
        have BK278 := n8_
        have BK279 := n9_
        have BK293 := n10_
        have BK308 := n11_
        have BK309 := n12_
        have BK321 := n13_
        have BK328 := n14_
        have HB := n15_
        clear n0_ n1_ n2_ n3_ n4_ n5_ n6_ n7_ n8_ n9_ n10_ n11_ n12_ n13_ n14_ n15_
        (try clear hb)
        (try clear hb2)
        (try clear hk)
        (try clear hi)
        (try clear ho0)
        obtain ⟨Ao87, co87, eo87⟩ := Kd.R_slice HO334.out
        (first | subst eo87 | (injection eo87 with f1_ f2_ f3_; have f4_ := f1_.symm; have f5_ := f3_.symm; clear f1_ f2_ f3_; subst f4_; subst f5_))
        refine hK.out _ _ ⟨(blk_cell BK293.out 0).trans rfl, (blk_cell BK293.out 1).trans rfl, (blk_cell BK293.out 2).trans rfl, (blk_cell BK278.out 0).trans rfl, (blk_cell BK278.out 1).trans rfl, (blk_cell BK278.out 2).trans rfl⟩ (fun hHeld => ?_)
        clear hK K
        refine norm_ (a' := ?_) ?_ ?_
        rotate_left
        · show Act.put _ (some 72) _ = _
          simp only [Act.put, PU, i64_w, i32_w]
          rfl
        refine one_ (i := 30) (N := some 74) (tf 31 34) rfl rfl (one_of HT_.out (by kernel_rfl)) (by decide) (fun K hK => ?_)
        refine goes_ Try.func18 (by kernel_rfl) rfl #[.agg #[.int .i64 t330, .bool t331, .slice Ao87 t332.length co87], .agg #[.int .i64 a0_0, .bool a0_1, .slice A0_2 l0_2.length c0_2]] (by rfl) rfl rfl (by (try simp only [List.map_toArray, List.map_cons, List.map_nil]); first | done | rfl | (simp only [List.length_drop, List.length_take]; rfl)) ?_
        with_reducible refine (hopperref08_Same.calls k t330 t331 _ _ t332 a0_0 a0_1 _ _ l0_2 t335 _ ?side1 ?side2 ?side3 ?side4 A83.out).mono ?_
        (case side1 => exact Kd.CA (Kd.R_reads' HO334.out).2.2)
        (case side2 => exact (Kd.R_reads' HO334.out).2.1)
        (case side3 => exact Kd.CA (Kd.C_below HR0_2.out HB.out))
        (case side4 => exact HC0_2.out)
        rintro e w88 ⟨rfl, hb⟩
        refine ⟨_, rfl, ?_⟩
        have n0_ := Aside0.mk (Kd.R_below (Kd.RA HO286.out) hb)
        have n1_ := Aside0.mk (Kd.V_below (Kd.VA HO291.out) hb)
        have n2_ := Aside0.mk (Kd.R_below (Kd.RA HO298.out) hb)
        have n3_ := Aside0.mk (Kd.V_below (Kd.VA HO303.out) hb)
        have n4_ := Aside0.mk (Kd.R_below (Kd.RA HO314.out) hb)
        have n5_ := Aside0.mk (Kd.V_below (Kd.VA HO319.out) hb)
        have n6_ := Aside0.mk (Kd.V_below (Kd.VA HO326.out) hb)
        have n7_ := Aside0.mk (Kd.R_below (Kd.RA HO334.out) hb)
        have n8_ := Aside0.mk (blk_below (BA BK278.out) hb)
        have n9_ := Aside0.mk (blk_below (BA BK279.out) hb)
        have n10_ := Aside0.mk (blk_below (BA BK293.out) hb)
        have n11_ := Aside0.mk (blk_below (BA BK308.out) hb)
        have n12_ := Aside0.mk (blk_below (BA BK309.out) hb)
        have n13_ := Aside0.mk (blk_below (BA BK321.out) hb)
        have n14_ := Aside0.mk (blk_below (BA BK328.out) hb)
        have n15_ := Aside0.mk (below_step (LG HB.out (G1 GE278.out (G1 GE279.out (G1 GE293.out (G1 GE308.out (G1 GE309.out (G1 GE321.out (G1 GE328.out G0)))))))) hb)
        clear HO286
        clear HO291
        clear HO298
        clear HO303
        clear HO314
        clear HO319
        clear HO326
        clear HO334
        clear BK278
        clear BK279
        clear BK293
        clear BK308
        clear BK309
        clear BK321
        clear BK328
        clear HB
        have HO286 := n0_
        have HO291 := n1_
        have HO298 := n2_
        have HO303 := n3_
        have HO314 := n4_
        have HO319 := n5_
        have HO326 := n6_
        have HO334 := n7_
        have BK278 := n8_
        have BK279 := n9_
        have BK293 := n10_
        have BK308 := n11_
        have BK309 := n12_
        have BK321 := n13_
        have BK328 := n14_
        have HB := n15_
        clear n0_ n1_ n2_ n3_ n4_ n5_ n6_ n7_ n8_ n9_ n10_ n11_ n12_ n13_ n14_ n15_
        (try clear hb)
        (try clear hb2)
        (try clear hk)
        (try clear hi)
        refine hK.out _ _ ⟨(blk_cell BK293.out 0).trans rfl, (blk_cell BK293.out 1).trans rfl, (blk_cell BK293.out 2).trans rfl, (blk_cell BK278.out 0).trans rfl, (blk_cell BK278.out 1).trans rfl, (blk_cell BK278.out 2).trans rfl⟩ (fun hHeld => ?_)
        clear hK K
        refine norm_ (a' := ?_) ?_ ?_
        rotate_left
        · show Act.put _ (some 74) _ = _
          simp only [Act.put, PU, i64_w, i32_w]
          rfl
        refine pure_ (i := 31) (N := some 75) (v := ?_) (a' := ?_) (tf 32 34) rfl rfl (any_of HT_.out (by kernel_rfl)) (fun _ _ _ h => h) (Or.inl ⟨by rfl, ?_⟩) ?_ ?_
        rotate_left
        · intro w'
          go_simp
          with_reducible rfl
        rotate_left
        · simp only [Act.put, PU, i64_w, i32_w]
          rfl
        refine pure_ (i := 32) (N := some 76) (v := ?_) (a' := ?_) (tf 33 34) rfl rfl (any_of HT_.out (by kernel_rfl)) (fun _ _ _ h => h) (Or.inl ⟨by rfl, ?_⟩) ?_ ?_
        rotate_left
        · intro w'
          go_simp
          with_reducible rfl
        rotate_left
        · simp only [Act.put, PU, i64_w, i32_w]
          rfl
        refine pure_ (i := 33) (N := some 77) (v := ?_) (a' := ?_) (tf 34 34) rfl rfl (any_of HT_.out (by kernel_rfl)) (fun _ _ _ h => h) (Or.inl ⟨by rfl, ?_⟩) ?_ ?_
        rotate_left
        · intro w'
          go_simp
          with_reducible rfl
        rotate_left
        · simp only [Act.put, PU, i64_w, i32_w]
          rfl
        refine done_ (done_of HT_.out (by kernel_rfl)) ?_
        try go_wp2
        go_meet
        case rel => exact ⟨_, (!t335), (by first | (rw [HR_.out]; done) | rfl | (rw [HR_.out]; rfl) | (simp [HR_.out]; done) | (simp; done) | (simp [*]; done)), H', ⟨by first | omega | exact Nat.le_refl _⟩, ⟨by (with_reducible repeat (first | apply Kd.V_alloc | apply Kd.V_drewN | apply Kd.V_drew)); exact Kd.V_mono HO291.out (fun _ hk => ⟨hk.1.2.2.1, ⟨hk.1.2.2.2.1, ⟨hk.1.2.2.2.2.1, ⟨hk.1.2.2.2.2.2.1, ⟨hk.1.2.2.2.2.2.2.1, ⟨hk.1.2.2.2.2.2.2.2.1, hk.1.2.2.2.2.2.2.2.2⟩⟩⟩⟩⟩⟩)⟩, ⟨by (with_reducible repeat (first | apply Kd.V_alloc | apply Kd.V_drewN | apply Kd.V_drew)); exact Kd.V_mono HO303.out (fun _ hk => ⟨hk.1.2.2.1, ⟨hk.1.2.2.2.1, ⟨hk.1.2.2.2.2.1, ⟨hk.1.2.2.2.2.2.1, ⟨hk.1.2.2.2.2.2.2.1, ⟨hk.1.2.2.2.2.2.2.2.1, hk.1.2.2.2.2.2.2.2.2⟩⟩⟩⟩⟩⟩)⟩, ⟨by (with_reducible repeat (first | apply Kd.V_alloc | apply Kd.V_drewN | apply Kd.V_drew)); exact Kd.V_mono HO319.out (fun _ hk => ⟨hk.1.2.2.1, ⟨hk.1.2.2.2.1, ⟨hk.1.2.2.2.2.1, ⟨hk.1.2.2.2.2.2.1, ⟨hk.1.2.2.2.2.2.2.1, ⟨hk.1.2.2.2.2.2.2.2.1, hk.1.2.2.2.2.2.2.2.2⟩⟩⟩⟩⟩⟩)⟩, ⟨by (with_reducible repeat (first | apply Kd.V_alloc | apply Kd.V_drewN | apply Kd.V_drew)); exact Kd.V_mono HO326.out (fun _ hk => ⟨hk.1.2.2.1, ⟨hk.1.2.2.2.1, ⟨hk.1.2.2.2.2.1, ⟨hk.1.2.2.2.2.2.1, ⟨hk.1.2.2.2.2.2.2.1, ⟨hk.1.2.2.2.2.2.2.2.1, hk.1.2.2.2.2.2.2.2.2⟩⟩⟩⟩⟩⟩)⟩, ⟨by (with_reducible repeat (first | refine blk_drewN ?_ _ | refine blk_drew ?_ | refine blk_alloc ?_ _)); exact BK278.out⟩, ⟨by (with_reducible repeat (first | refine blk_drewN ?_ _ | refine blk_drew ?_ | refine blk_alloc ?_ _)); exact BK279.out⟩, ⟨by (with_reducible repeat (first | refine blk_drewN ?_ _ | refine blk_drew ?_ | refine blk_alloc ?_ _)); exact BK293.out⟩, ⟨by (with_reducible repeat (first | refine blk_drewN ?_ _ | refine blk_drew ?_ | refine blk_alloc ?_ _)); exact BK308.out⟩, ⟨by (with_reducible repeat (first | refine blk_drewN ?_ _ | refine blk_drew ?_ | refine blk_alloc ?_ _)); exact BK309.out⟩, ⟨by (with_reducible repeat (first | refine blk_drewN ?_ _ | refine blk_drew ?_ | refine blk_alloc ?_ _)); exact BK321.out⟩, ⟨by (with_reducible repeat (first | refine blk_drewN ?_ _ | refine blk_drew ?_ | refine blk_alloc ?_ _)); exact BK328.out⟩, ⟨LG HB.out (G1 GE278.out (G1 GE279.out (G1 GE293.out (G1 GE308.out (G1 GE309.out (G1 GE321.out (G1 GE328.out G0)))))))⟩⟩
    case rest =>
      clear HC12
      try clear c1
      try clear p2
      try clear c7
      try clear c18
      try clear c19
      try clear c71
      try clear c71b0
      try clear c71b1
      obtain ⟨kq, x77_11, rfl, HA, HJ11, HO_294002, HO_309002, HO_322002, HO_329002, BK278, BK279, BK293, BK308, BK309, BK321, BK328, HB⟩ := hcut
      cases kq with
      | zero => exact absurd HA.out (by simp [hopperlaw08_PipeCounts.j0])
      | succ kj11 =>
        have H := HA.out
        clear HA
        simp only [hopperlaw08_PipeCounts.j0] at H
        by_cases c89 : x77_11 = true
        · subst c89
          have H1 : (some false) = some true := by rw [if_pos rfl] at H; exact H
          clear H
          have H := H1
          clear H1
          exact absurd H (by simp)
        · replace c89 := Bool.eq_false_iff.mpr c89
          subst c89
          have H1 : (if t307 = 0 then (if (l0_2.length : Int) = 0 then (some false) else (if (t301.length : Int) = (wrap64 ((l0_2.length : Int) - 1)) then (if 0 < (l0_2.length : Int) then (if (!(t304 == ((rd_T26 l0_2 0).f0)) || (!(t305 == ((rd_T26 l0_2 0).f1)) || (!(t306.toList == (((rd_T26 l0_2 0).f2).toList))))) = true then (some false) else (if t327 = 8 then (if t316 = true then (if (t317.length : Int) = (l0_2.length : Int) then ((hopperlaw08_live.f).bind fun t337 => (some t337)) else (some false)) else (some false)) else (some false))) else (none)) else (some false))) else ((hopperlaw08_told.f kj11 t299 t300 t301).bind fun bt338 => ((hopperref08_Same.f kj11 bt338.1 bt338.2.1 bt338.2.2 a0_0 a0_1 l0_2).bind fun t343 => (if t343 = true then (if t327 = 8 then (if t316 = true then (if (t317.length : Int) = (l0_2.length : Int) then ((hopperlaw08_live.f).bind fun t344 => (some t344)) else (some false)) else (some false)) else (some false)) else (some false))))) = some true := by rw [if_neg (show ¬ (false = true) by decide)] at H; exact H
          clear H
          have H := H1
          clear H1
          by_cases c90 : t307 = 0
          · rw [if_pos c90] at H
            have c90b0 : (t307 == 0) = true := beq_iff_eq.mpr c90
            have c90b1 : (t307 != 0) = false := bne_eq_false_iff_eq.mpr c90
            clear c90
            by_cases c91 : (l0_2.length : Int) = 0
            · rw [if_pos c91] at H
              have c91b0 : ((l0_2.length : Int) == 0) = true := beq_iff_eq.mpr c91
              have c91b1 : ((l0_2.length : Int) != 0) = false := bne_eq_false_iff_eq.mpr c91
              clear c91
              exact absurd H (by simp)
            · rw [if_neg c91] at H
              have c91b0 : ((l0_2.length : Int) == 0) = false := beq_eq_false_iff_ne.mpr c91
              have c91b1 : ((l0_2.length : Int) != 0) = true := bne_iff_ne.mpr c91
              have c91b2 : ¬ (l0_2 = []) := fun h_ => c91 (by rw [h_]; rfl)
              by_cases c92 : (t301.length : Int) = (wrap64 ((l0_2.length : Int) - 1))
              rotate_left
              · rw [if_neg c92] at H
                have c92b0 : ((t301.length : Int) == (wrap64 ((l0_2.length : Int) - 1))) = false := beq_eq_false_iff_ne.mpr c92
                have c92b1 : ((t301.length : Int) != (wrap64 ((l0_2.length : Int) - 1))) = true := bne_iff_ne.mpr c92
                exact absurd H (by simp)
              rw [if_pos c92] at H
              have c92b0 : ((t301.length : Int) == (wrap64 ((l0_2.length : Int) - 1))) = true := beq_iff_eq.mpr c92
              have c92b1 : ((t301.length : Int) != (wrap64 ((l0_2.length : Int) - 1))) = false := bne_eq_false_iff_eq.mpr c92
              clear c92
              by_cases c93 : 0 < (l0_2.length : Int)
              rotate_left
              · rw [if_neg c93] at H
                exact absurd H (by simp)
              rw [if_pos c93] at H
              have c93b0 : decide (0 < (l0_2.length : Int)) = true := decide_eq_true c93
              have c93b1 : decide (0 < l0_2.length) = true := decide_eq_true (by omega)
              clear c93
              by_cases c94 : (!(t304 == ((rd_T26 l0_2 0).f0)) || (!(t305 == ((rd_T26 l0_2 0).f1)) || (!(t306.toList == (((rd_T26 l0_2 0).f2).toList))))) = true
              · rw [if_pos c94] at H
                have c94b0 : (!(t304 == ((rd_T26 l0_2 0).f0)) || (!(t305 == ((rd_T26 l0_2 0).f1)) || (!(t306.toList == (((rd_T26 l0_2 0).f2).toList))))) = true := c94
                (try (have c94q : (t304 = ((rd_T26 l0_2 0).f0) ∧ t305 = ((rd_T26 l0_2 0).f1) ∧ t306.toList = (((rd_T26 l0_2 0).f2).toList)) = False := eq_false (fun ⟨h0_, h1_, h2_⟩ => by simp [h0_, h1_, h2_] at c94b0)))
                clear c94
                exact absurd H (by simp)
              · rw [if_neg c94] at H
                have c94b0 : (!(t304 == ((rd_T26 l0_2 0).f0)) || (!(t305 == ((rd_T26 l0_2 0).f1)) || (!(t306.toList == (((rd_T26 l0_2 0).f2).toList))))) = false := by simpa using c94
                (try (have c94q : (t304 = ((rd_T26 l0_2 0).f0) ∧ t305 = ((rd_T26 l0_2 0).f1) ∧ t306.toList = (((rd_T26 l0_2 0).f2).toList)) = True := eq_true (by simpa using c94b0)))
                clear c94
                by_cases c95 : t327 = 8
                rotate_left
                · rw [if_neg c95] at H
                  have c95b0 : (t327 == 8) = false := beq_eq_false_iff_ne.mpr c95
                  have c95b1 : (t327 != 8) = true := bne_iff_ne.mpr c95
                  exact absurd H (by simp)
                rw [if_pos c95] at H
                have c95b0 : (t327 == 8) = true := beq_iff_eq.mpr c95
                have c95b1 : (t327 != 8) = false := bne_eq_false_iff_eq.mpr c95
                clear c95
                by_cases c96 : t316 = true
                rotate_left
                · replace c96 := Bool.eq_false_iff.mpr c96
                  subst c96
                  have H1 : (some false) = some true := by rw [if_neg (show ¬ (false = true) by decide)] at H; exact H
                  clear H
                  have H := H1
                  clear H1
                  exact absurd H (by simp)
                subst c96
                have H1 : (if (t317.length : Int) = (l0_2.length : Int) then ((hopperlaw08_live.f).bind fun t337 => (some t337)) else (some false)) = some true := by rw [if_pos rfl] at H; exact H
                clear H
                have H := H1
                clear H1
                by_cases c97 : (t317.length : Int) = (l0_2.length : Int)
                rotate_left
                · rw [if_neg c97] at H
                  have c97b0 : ((t317.length : Int) == (l0_2.length : Int)) = false := beq_eq_false_iff_ne.mpr c97
                  have c97b1 : ((t317.length : Int) != (l0_2.length : Int)) = true := bne_iff_ne.mpr c97
                  have c97b2 : (t317.length == l0_2.length) = false := by first | simpa using c97 | (simp at c97 ⊢; omega)
                  exact absurd H (by simp)
                rw [if_pos c97] at H
                have c97b0 : ((t317.length : Int) == (l0_2.length : Int)) = true := beq_iff_eq.mpr c97
                have c97b1 : ((t317.length : Int) != (l0_2.length : Int)) = false := bne_eq_false_iff_eq.mpr c97
                have c97b2 : (t317.length == l0_2.length) = true := by first | simpa using c97 | (simp at c97 ⊢; omega)
                clear c97
                replace H := Option.bind_eq_some_iff.mp H
                obtain ⟨t337, A980, H⟩ := H
                try dsimp only at H
                have A98 := Aside0.mk A980
                clear A980
                have HR_ := Aside0.mk (Option.some.inj H)
                clear H
                try go_wp2
                have n0_ := Aside0.mk (Kd.V_drew HO_294002.out)
                have n1_ := Aside0.mk (Kd.V_drew HO_309002.out)
                have n2_ := Aside0.mk (Kd.V_drew HO_322002.out)
                have n3_ := Aside0.mk (Kd.V_drew HO_329002.out)
                have n4_ := Aside0.mk (blk_drew BK278.out)
                have n5_ := Aside0.mk (blk_drew BK279.out)
                have n6_ := Aside0.mk (blk_drew BK293.out)
                have n7_ := Aside0.mk (blk_drew BK308.out)
                have n8_ := Aside0.mk (blk_drew BK309.out)
                have n9_ := Aside0.mk (blk_drew BK321.out)
                have n10_ := Aside0.mk (blk_drew BK328.out)
                have n11_ := Aside0.mk (below_drew1 HB.out)
                clear HO_294002
                clear HO_309002
                clear HO_322002
                clear HO_329002
                clear BK278
                clear BK279
                clear BK293
                clear BK308
                clear BK309
                clear BK321
                clear BK328
                clear HB
                have HO_294002 := n0_
                have HO_309002 := n1_
                have HO_322002 := n2_
                have HO_329002 := n3_
                have BK278 := n4_
                have BK279 := n5_
                have BK293 := n6_
                have BK308 := n7_
                have BK309 := n8_
                have BK321 := n9_
                have BK328 := n10_
                have HB := n11_
                clear n0_ n1_ n2_ n3_ n4_ n5_ n6_ n7_ n8_ n9_ n10_ n11_
                have p336 : 0 ≤ (0 : Int) := (by omega)
                have q336 : 0 < (l0_2.length : Int) := of_decide_eq_true (by first | (with_reducible assumption) | assumption)
                obtain ⟨ad336, e336, hx336_0, hx336_1, hx336_2⟩ := at_T26 HR0_2.out 0 p336 q336
                have hw336_2 := hx336_2
                (try rw [show ((0 : Int)).toNat = 0 from rfl] at hw336_2)
                (try rw [show 0 * 3 = 0 from rfl] at hw336_2)
                (try rw [Addr.add_zero'] at hw336_2)
                have hw336_1 := hx336_1
                (try rw [show ((0 : Int)).toNat = 0 from rfl] at hw336_1)
                (try rw [show 0 * 3 = 0 from rfl] at hw336_1)
                (try rw [Addr.add_zero'] at hw336_1)
                have hw336_0 := hx336_0
                (try rw [show ((0 : Int)).toNat = 0 from rfl] at hw336_0)
                (try rw [show 0 * 3 = 0 from rfl] at hw336_0)
                (try rw [Addr.add_zero'] at hw336_0)
                cases e336
                have qi336 : (0 < l0_2.length) = True := eq_true (by omega)
                (try rw [show ((0 : Int)).toNat = 0 from rfl] at hx336_0)
                (try rw [show 0 * 3 = 0 from rfl] at hx336_0)
                (try rw [Addr.add_zero'] at hx336_0)
                (try rw [show ((0 : Int)).toNat = 0 from rfl] at hx336_1)
                (try rw [show 0 * 3 = 0 from rfl] at hx336_1)
                (try rw [Addr.add_zero'] at hx336_1)
                (try rw [show ((0 : Int)).toNat = 0 from rfl] at hx336_2)
                (try rw [show 0 * 3 = 0 from rfl] at hx336_2)
                (try rw [Addr.add_zero'] at hx336_2)
                replace hx336_0 := (HB.out.cell (World.block_lt_of_cell? w _ hx336_0)).trans hx336_0
                replace hx336_1 := (HB.out.cell (World.block_lt_of_cell? w _ hx336_1)).trans hx336_1
                replace hx336_2 := (HB.out.cell (World.block_lt_of_cell? w _ hx336_2)).trans hx336_2
                replace p336 := eq_true p336
                replace q336 := eq_true q336
                refine start_ (n := 37) (S := fun w' => w'.cell? ⟨gb278, 0, none⟩ = some (.int .i64 a0_0) ∧ w'.cell? ⟨gb278, 1, none⟩ = some (.bool a0_1) ∧ w'.cell? ⟨gb278, 2, none⟩ = some (.slice (some ad336) l0_2.length c0_2) ∧ w'.cell? ⟨gb308, 0, none⟩ = some (.int .i64 t299) ∧ w'.cell? ⟨gb308, 1, none⟩ = some (.bool t300) ∧ w'.cell? ⟨gb308, 2, none⟩ = some (.slice Ao40 t301.length co40) ∧ w'.cell? ⟨gb309, 0, none⟩ = some (.int .i64 t304) ∧ w'.cell? ⟨gb309, 1, none⟩ = some (.int .i64 t305) ∧ w'.cell? ⟨gb309, 2, none⟩ = some (.string t306) ∧ w'.cell? ad336 = some (.int .i64 ((rd_T26 l0_2 0).f0)) ∧ w'.cell? ⟨ad336.block, ad336.off + 1, none⟩ = some (.int .i64 ((rd_T26 l0_2 0).f1)) ∧ w'.cell? ⟨ad336.block, ad336.off + 2, none⟩ = some (.string ((rd_T26 l0_2 0).f2))) (ds := []) (tf 0 37) (by kernel_rfl) rfl rfl ⟨(blk_cell BK278.out 0).trans rfl, (blk_cell BK278.out 1).trans rfl, (blk_cell BK278.out 2).trans rfl, (blk_cell BK308.out 0).trans rfl, (blk_cell BK308.out 1).trans rfl, (blk_cell BK308.out 2).trans rfl, (blk_cell BK309.out 0).trans rfl, (blk_cell BK309.out 1).trans rfl, (blk_cell BK309.out 2).trans rfl, ((HB.out.cell (World.block_lt_of_cell? w _ hw336_0)).trans hw336_0), ((HB.out.cell (World.block_lt_of_cell? w _ hw336_1)).trans hw336_1), ((HB.out.cell (World.block_lt_of_cell? w _ hw336_2)).trans hw336_2)⟩ (fun hHeld => ?_); refine with_tabW hopperlaw08_PipeCounts.tab9 hopperlaw08_PipeCounts.bits9 (fun HT_ HW_ => ?_)
                generalize wc.drew = w99 at HO_294002 HO_309002 HO_322002 HO_329002 BK278 BK279 BK293 BK308 BK309 BK321 BK328 HB hx336_0 hx336_1 hx336_2 hHeld ⊢
                refine pure_ (i := 0) (N := some 78) (v := ?_) (a' := ?_) (tf 1 37) rfl rfl (any_of HT_.out (by kernel_rfl)) (fun _ _ _ h => h) (Or.inl ⟨by rfl, ?_⟩) ?_ ?_
                rotate_left
                · intro w'
                  go_simp
                  with_reducible rfl
                rotate_left
                · simp only [Act.put, PU, i64_w, i32_w]
                  rfl
                refine pure_ (i := 1) (N := some 79) (v := ?_) (a' := ?_) (tf 2 37) rfl rfl (any_of HT_.out (by kernel_rfl)) (fun _ _ _ h => h) (Or.inl ⟨by rfl, ?_⟩) ?_ ?_
                rotate_left
                · intro w'
                  go_simp
                  with_reducible rfl
                rotate_left
                · simp only [Act.put, PU, i64_w, i32_w]
                  rfl
                refine pure_ (i := 2) (N := some 80) (v := ?_) (a' := ?_) (tf 3 37) rfl rfl (any_of HT_.out (by kernel_rfl)) (fun _ _ _ h => h) (Or.inl ⟨by rfl, ?_⟩) ?_ ?_
                rotate_left
                · intro w'
                  go_simp
                  with_reducible rfl
                rotate_left
                · simp only [Act.put, PU, i64_w, i32_w]
                  rfl
                refine pure_ (i := 3) (N := some 81) (v := ?_) (a' := ?_) (tf 4 37) rfl rfl (any_of HT_.out (by kernel_rfl)) (fun _ _ _ h => h) (Or.inl ⟨by rfl, ?_⟩) ?_ ?_
                rotate_left
                · intro w'
                  go_simp
                  with_reducible rfl
                rotate_left
                · simp only [Act.put, PU, i64_w, i32_w]
                  rfl
                refine take_ (i := 4) (N := some 82) (v := ?_) (a' := ?_) (tf 5 37) rfl rfl (take_ofW HT_.out HW_.out (by kernel_rfl)) (fun _ _ _ h => h) (Or.inl ⟨by rfl, ?_⟩) hHeld ?_ ?_
                rotate_left
                · rintro w' ⟨s0, s1, s2, s3, s4, s5, s6, s7, s8, s9, s10, s11⟩
                  go_simp
                  with_reducible rfl
                rotate_left
                · simp only [Act.put, PU, i64_w, i32_w]
                  rfl
                refine pure_ (i := 5) (N := some 83) (v := ?_) (a' := ?_) (tf 6 37) rfl rfl (any_of HT_.out (by kernel_rfl)) (fun _ _ _ h => h) (Or.inl ⟨by rfl, ?_⟩) ?_ ?_
                rotate_left
                · intro w'
                  go_simp
                  with_reducible rfl
                rotate_left
                · simp only [Act.put, PU, i64_w, i32_w]
                  rfl
                refine pure_ (i := 6) (N := some 84) (v := ?_) (a' := ?_) (tf 7 37) rfl rfl (any_of HT_.out (by kernel_rfl)) (fun _ _ _ h => h) (Or.inl ⟨by rfl, ?_⟩) ?_ ?_
                rotate_left
                · intro w'
                  go_simp
                  with_reducible rfl
                rotate_left
                · simp only [Act.put, PU, i64_w, i32_w]
                  rfl
                refine pure_ (i := 7) (N := some 85) (v := ?_) (a' := ?_) (tf 8 37) rfl rfl (any_of HT_.out (by kernel_rfl)) (fun _ _ _ h => h) (Or.inl ⟨by rfl, ?_⟩) ?_ ?_
                rotate_left
                · intro w'
                  go_simp
                  with_reducible rfl
                rotate_left
                · simp only [Act.put, PU, i64_w, i32_w]
                  rfl
                refine pure_ (i := 8) (N := some 86) (v := ?_) (a' := ?_) (tf 9 37) rfl rfl (any_of HT_.out (by kernel_rfl)) (fun _ _ _ h => h) (Or.inl ⟨by rfl, ?_⟩) ?_ ?_
                rotate_left
                · intro w'
                  go_simp
                  with_reducible rfl
                rotate_left
                · simp only [Act.put, PU, i64_w, i32_w]
                  rfl
                refine pure_ (i := 11) (N := some 89) (v := ?_) (a' := ?_) #[true, true, true, true, true, true, true, true, true, false, false, true, false, false, false, false, false, false, false, false, false, false, false, false, false, false, false, false, false, false, false, false, false, false, false, false, false] rfl rfl (any_of HT_.out (by kernel_rfl)) (fun _ _ _ h => h) (Or.inl ⟨by rfl, ?_⟩) ?_ ?_
                rotate_left
                · intro w'
                  go_simp
                  with_reducible rfl
                rotate_left
                · simp only [Act.put, PU, i64_w, i32_w]
                  rfl
                refine take_ (i := 9) (N := some 87) (v := ?_) (a' := ?_) #[true, true, true, true, true, true, true, true, true, true, false, true, false, false, false, false, false, false, false, false, false, false, false, false, false, false, false, false, false, false, false, false, false, false, false, false, false] rfl rfl (take_ofW HT_.out HW_.out (by kernel_rfl)) (fun _ _ _ h => h) (Or.inl ⟨by rfl, ?_⟩) hHeld ?_ ?_
                rotate_left
                · rintro w' ⟨s0, s1, s2, s3, s4, s5, s6, s7, s8, s9, s10, s11⟩
                  go_simp
                  with_reducible rfl
                rotate_left
                · simp only [Act.put, PU, i64_w, i32_w]
                  rfl
                refine pure_ (i := 10) (N := some 88) (v := ?_) (a' := ?_) (tf 12 37) rfl rfl (any_of HT_.out (by kernel_rfl)) (fun _ _ _ h => h) (Or.inl ⟨by rfl, ?_⟩) ?_ ?_
                rotate_left
                · intro w'
                  go_simp
                  with_reducible rfl
                rotate_left
                · simp only [Act.put, PU, i64_w, i32_w]
                  rfl
                refine take_ (i := 12) (N := some 90) (v := ?_) (a' := ?_) (tf 13 37) rfl rfl (take_ofW HT_.out HW_.out (by kernel_rfl)) (fun _ _ _ h => h) (Or.inl ⟨by rfl, ?_⟩) hHeld ?_ ?_
                rotate_left
                · rintro w' ⟨s0, s1, s2, s3, s4, s5, s6, s7, s8, s9, s10, s11⟩
                  go_simp
                  with_reducible rfl
                rotate_left
                · simp only [Act.put, PU, i64_w, i32_w]
                  rfl
                refine pure_ (i := 13) (N := some 91) (v := ?_) (a' := ?_) (tf 14 37) rfl rfl (any_of HT_.out (by kernel_rfl)) (fun _ _ _ h => h) (Or.inl ⟨by rfl, ?_⟩) ?_ ?_
                rotate_left
                · intro w'
                  go_simp
                  with_reducible rfl
                rotate_left
                · simp only [Act.put, PU, i64_w, i32_w]
                  rfl
                refine pure_ (i := 14) (N := some 92) (v := ?_) (a' := ?_) (tf 15 37) rfl rfl (any_of HT_.out (by kernel_rfl)) (fun _ _ _ h => h) (Or.inl ⟨by rfl, ?_⟩) ?_ ?_
                rotate_left
                · intro w'
                  go_simp
                  with_reducible rfl
                rotate_left
                · simp only [Act.put, PU, i64_w, i32_w]
                  rfl
                refine pure_ (i := 15) (N := some 93) (v := ?_) (a' := ?_) (tf 16 37) rfl rfl (any_of HT_.out (by kernel_rfl)) (fun _ _ _ h => h) (Or.inl ⟨by rfl, ?_⟩) ?_ ?_
                rotate_left
                · intro w'
                  go_simp
                  with_reducible rfl
                rotate_left
                · simp only [Act.put, PU, i64_w, i32_w]
                  rfl
                refine pure_ (i := 16) (N := some 94) (v := ?_) (a' := ?_) (tf 17 37) rfl rfl (any_of HT_.out (by kernel_rfl)) (fun _ _ _ h => h) (Or.inl ⟨by rfl, ?_⟩) ?_ ?_
                rotate_left
                · intro w'
                  go_simp
                  with_reducible rfl
                rotate_left
                · simp only [Act.put, PU, i64_w, i32_w]
                  rfl
                refine pure_ (i := 17) (N := some 95) (v := ?_) (a' := ?_) (tf 18 37) rfl rfl (any_of HT_.out (by kernel_rfl)) (fun _ _ _ h => h) (Or.inl ⟨by rfl, ?_⟩) ?_ ?_
                rotate_left
                · intro w'
                  go_simp
                  with_reducible rfl
                rotate_left
                · simp only [Act.put, PU, i64_w, i32_w]
                  rfl
                refine pure_ (i := 19) (N := some 97) (v := ?_) (a' := ?_) #[true, true, true, true, true, true, true, true, true, true, true, true, true, true, true, true, true, true, false, true, false, false, false, false, false, false, false, false, false, false, false, false, false, false, false, false, false] rfl rfl (any_of HT_.out (by kernel_rfl)) (fun _ _ _ h => h) (Or.inl ⟨by rfl, ?_⟩) ?_ ?_
                rotate_left
                · intro w'
                  go_simp
                  with_reducible rfl
                rotate_left
                · simp only [Act.put, PU, i64_w, i32_w]
                  rfl
                refine take_ (i := 18) (N := some 96) (v := ?_) (a' := ?_) (tf 20 37) rfl rfl (take_ofW HT_.out HW_.out (by kernel_rfl)) (fun _ _ _ h => h) (Or.inl ⟨by rfl, ?_⟩) hHeld ?_ ?_
                rotate_left
                · rintro w' ⟨s0, s1, s2, s3, s4, s5, s6, s7, s8, s9, s10, s11⟩
                  go_simp
                  with_reducible rfl
                rotate_left
                · simp only [Act.put, PU, i64_w, i32_w]
                  rfl
                refine take_ (i := 20) (N := some 98) (v := ?_) (a' := ?_) (tf 21 37) rfl rfl (take_ofW HT_.out HW_.out (by kernel_rfl)) (fun _ _ _ h => h) (Or.inl ⟨by rfl, ?_⟩) hHeld ?_ ?_
                rotate_left
                · rintro w' ⟨s0, s1, s2, s3, s4, s5, s6, s7, s8, s9, s10, s11⟩
                  go_simp
                  with_reducible rfl
                rotate_left
                · simp only [Act.put, PU, i64_w, i32_w]
                  rfl
                refine pure_ (i := 21) (N := some 99) (v := ?_) (a' := ?_) (tf 22 37) rfl rfl (any_of HT_.out (by kernel_rfl)) (fun _ _ _ h => h) (Or.inl ⟨by rfl, ?_⟩) ?_ ?_
                rotate_left
                · intro w'
                  go_simp
                  with_reducible rfl
                rotate_left
                · simp only [Act.put, PU, i64_w, i32_w]
                  rfl
                refine take_ (i := 22) (N := some 100) (v := ?_) (a' := ?_) (tf 23 37) rfl rfl (take_ofW HT_.out HW_.out (by kernel_rfl)) (fun _ _ _ h => h) (Or.inl ⟨by rfl, ?_⟩) hHeld ?_ ?_
                rotate_left
                · rintro w' ⟨s0, s1, s2, s3, s4, s5, s6, s7, s8, s9, s10, s11⟩
                  go_simp
                  with_reducible rfl
                rotate_left
                · simp only [Act.put, PU, i64_w, i32_w]
                  rfl
                refine pure_ (i := 23) (N := some 101) (v := ?_) (a' := ?_) (tf 24 37) rfl rfl (any_of HT_.out (by kernel_rfl)) (fun _ _ _ h => h) (Or.inl ⟨by rfl, ?_⟩) ?_ ?_
                rotate_left
                · intro w'
                  go_simp
                  with_reducible rfl
                rotate_left
                · simp only [Act.put, PU, i64_w, i32_w]
                  rfl
                refine pure_ (i := 24) (N := some 102) (v := ?_) (a' := ?_) (tf 25 37) rfl rfl (any_of HT_.out (by kernel_rfl)) (fun _ _ _ h => h) (Or.inl ⟨by rfl, ?_⟩) ?_ ?_
                rotate_left
                · intro w'
                  go_simp
                  with_reducible rfl
                rotate_left
                · simp only [Act.put, PU, i64_w, i32_w]
                  rfl
                refine pure_ (i := 25) (N := some 103) (v := ?_) (a' := ?_) (tf 26 37) rfl rfl (any_of HT_.out (by kernel_rfl)) (fun _ _ _ h => h) (Or.inl ⟨by rfl, ?_⟩) ?_ ?_
                rotate_left
                · intro w'
                  go_simp
                  with_reducible rfl
                rotate_left
                · simp only [Act.put, PU, i64_w, i32_w]
                  rfl
                refine pure_ (i := 26) (N := some 104) (v := ?_) (a' := ?_) (tf 27 37) rfl rfl (any_of HT_.out (by kernel_rfl)) (fun _ _ _ h => h) (Or.inl ⟨by rfl, ?_⟩) ?_ ?_
                rotate_left
                · intro w'
                  go_simp
                  with_reducible rfl
                rotate_left
                · simp only [Act.put, PU, i64_w, i32_w]
                  rfl
                refine pure_ (i := 27) (N := some 105) (v := ?_) (a' := ?_) (tf 28 37) rfl rfl (any_of HT_.out (by kernel_rfl)) (fun _ _ _ h => h) (Or.inl ⟨by rfl, ?_⟩) ?_ ?_
                rotate_left
                · intro w'
                  go_simp
                  with_reducible rfl
                rotate_left
                · simp only [Act.put, PU, i64_w, i32_w]
                  rfl
                refine pure_ (i := 28) (N := some 106) (v := ?_) (a' := ?_) (tf 29 37) rfl rfl (any_of HT_.out (by kernel_rfl)) (fun _ _ _ h => h) (Or.inl ⟨by rfl, ?_⟩) ?_ ?_
                rotate_left
                · intro w'
                  go_simp
                  with_reducible rfl
                rotate_left
                · simp only [Act.put, PU, i64_w, i32_w]
                  rfl
                refine pure_ (i := 29) (N := some 107) (v := ?_) (a' := ?_) (tf 30 37) rfl rfl (any_of HT_.out (by kernel_rfl)) (fun _ _ _ h => h) (Or.inl ⟨by rfl, ?_⟩) ?_ ?_
                rotate_left
                · intro w'
                  go_simp
                  with_reducible rfl
                rotate_left
                · simp only [Act.put, PU, i64_w, i32_w]
                  rfl
                refine pure_ (i := 30) (N := some 108) (v := undef) (a' := ?_) (tf 31 37) rfl rfl (any_of HT_.out (by kernel_rfl)) (fun _ _ _ h => h) (Or.inr ⟨by rfl, rfl⟩) ?_ ?_
                rotate_left
                · simp only [Act.put, PU, i64_w, i32_w]
                  rfl
                refine pure_ (i := 31) (N := some 109) (v := undef) (a' := ?_) (tf 32 37) rfl rfl (any_of HT_.out (by kernel_rfl)) (fun _ _ _ h => h) (Or.inr ⟨by rfl, rfl⟩) ?_ ?_
                rotate_left
                · simp only [Act.put, PU, i64_w, i32_w]
                  rfl
                refine pure_ (i := 32) (N := some 110) (v := undef) (a' := ?_) (tf 33 37) rfl rfl (any_of HT_.out (by kernel_rfl)) (fun _ _ _ h => h) (Or.inr ⟨by rfl, rfl⟩) ?_ ?_
                rotate_left
                · simp only [Act.put, PU, i64_w, i32_w]
                  rfl
                refine pure_ (i := 33) (N := some 111) (v := undef) (a' := ?_) (tf 34 37) rfl rfl (any_of HT_.out (by kernel_rfl)) (fun _ _ _ h => h) (Or.inr ⟨by rfl, rfl⟩) ?_ ?_
                rotate_left
                · simp only [Act.put, PU, i64_w, i32_w]
                  rfl
                refine pure_ (i := 34) (N := some 112) (v := undef) (a' := ?_) (tf 35 37) rfl rfl (any_of HT_.out (by kernel_rfl)) (fun _ _ _ h => h) (Or.inr ⟨by rfl, rfl⟩) ?_ ?_
                rotate_left
                · simp only [Act.put, PU, i64_w, i32_w]
                  rfl
                refine pure_ (i := 35) (N := some 113) (v := ?_) (a' := ?_) (tf 36 37) rfl rfl (any_of HT_.out (by kernel_rfl)) (fun _ _ _ h => h) (Or.inl ⟨by rfl, ?_⟩) ?_ ?_
                rotate_left
                · intro w'
                  go_simp
                  with_reducible rfl
                rotate_left
                · simp only [Act.put, PU, i64_w, i32_w]
                  rfl
                refine pure_ (i := 36) (N := some 114) (v := ?_) (a' := ?_) (tf 37 37) rfl rfl (any_of HT_.out (by kernel_rfl)) (fun _ _ _ h => h) (Or.inl ⟨by rfl, ?_⟩) ?_ ?_
                rotate_left
                · intro w'
                  go_simp
                  with_reducible rfl
                rotate_left
                · simp only [Act.put, PU, i64_w, i32_w]
                  rfl
                refine done_ (done_of HT_.out (by kernel_rfl)) ?_
                have hnb100 := NB321_278.out
                have hnc100 := NB278_321.out
                have hnb101 := NB321_279.out
                have hnc101 := NB279_321.out
                have hnb102 := NB321_293.out
                have hnc102 := NB293_321.out
                have hnb103 := NB321_308.out
                have hnc103 := NB308_321.out
                have hnb104 := NB321_309.out
                have hnc104 := NB309_321.out
                have hnb105 := NB321_328.out
                have hnc105 := NB328_321.out
                have hcz106_0 : w99.cell? ⟨gb321, 0, none⟩ = some (.int .i64 t315) := (blk_cell BK321.out 0).trans rfl
                have hcz106_1 : w99.cell? ⟨gb321, 1, none⟩ = some (.bool true) := (blk_cell BK321.out 1).trans rfl
                have hcz106_2 : w99.cell? ⟨gb321, 2, none⟩ = some (.slice Ao56 t317.length co56) := (blk_cell BK321.out 2).trans rfl
                have hfz106_0 := blk_frozen BK321.out 0
                have hfz106_1 := blk_frozen BK321.out 1
                have hfz106_2 := blk_frozen BK321.out 2
                have hnb107 := NB278_279.out
                have hnc107 := NB279_278.out
                have hnb108 := NB278_293.out
                have hnc108 := NB293_278.out
                have hnb109 := NB278_308.out
                have hnc109 := NB308_278.out
                have hnb110 := NB278_309.out
                have hnc110 := NB309_278.out
                have hnb111 := NB278_328.out
                have hnc111 := NB328_278.out
                have hcz112_0 : w99.cell? ⟨gb278, 0, none⟩ = some (.int .i64 a0_0) := (blk_cell BK278.out 0).trans rfl
                have hcz112_1 : w99.cell? ⟨gb278, 1, none⟩ = some (.bool a0_1) := (blk_cell BK278.out 1).trans rfl
                have hcz112_2 : w99.cell? ⟨gb278, 2, none⟩ = some (.slice (some ad336) l0_2.length c0_2) := (blk_cell BK278.out 2).trans rfl
                have hfz112_0 := blk_frozen BK278.out 0
                have hfz112_1 := blk_frozen BK278.out 1
                have hfz112_2 := blk_frozen BK278.out 2
                try go_wp2_with (first | (go_at_call 8; (with_reducible refine (hopperlaw08_live.calls  t337 _ A98.out).mono ?_); rintro e w113 ⟨rfl, hb⟩; replace HB := Aside0.mk (below_step (LA HB.out) hb); (try clear HO_294002); (try clear HO_309002); (try clear HO_322002); (try clear HO_329002); (try clear BK278); (try clear BK279); (try clear BK293); (try clear BK308); (try clear BK309); (try clear BK321); (try clear BK328); (try clear hb); (try clear hb2); (try clear hk); (try clear hi)))
                go_ret
                exact ⟨by first | (rw [HR_.out]; done) | rfl | (rw [HR_.out]; rfl) | (simp [HR_.out]; done) | (simp [errW_none, errW_some] <;> rfl) | (simp [*, errW_none, errW_some] <;> rfl), LG HB.out (G1 GE278.out (G1 GE279.out (G1 GE293.out (G1 GE308.out (G1 GE309.out (G1 GE321.out (G1 GE328.out G0)))))))⟩
          · rw [if_neg c90] at H
            have c90b0 : (t307 == 0) = false := beq_eq_false_iff_ne.mpr c90
            have c90b1 : (t307 != 0) = true := bne_iff_ne.mpr c90
            replace H := Option.bind_eq_some_iff.mp H
            obtain ⟨⟨t338, t339, t340⟩, A1140, H⟩ := H
            try dsimp only at H
            have A114 := Aside0.mk A1140
            clear A1140
            replace H := Option.bind_eq_some_iff.mp H
            obtain ⟨t343, A1150, H⟩ := H
            try dsimp only at H
            have A115 := Aside0.mk A1150
            clear A1150
            by_cases c116 : t343 = true
            rotate_left
            · replace c116 := Bool.eq_false_iff.mpr c116
              subst c116
              have H1 : (some false) = some true := by rw [if_neg (show ¬ (false = true) by decide)] at H; exact H
              clear H
              have H := H1
              clear H1
              exact absurd H (by simp)
            subst c116
            have H1 : (if t327 = 8 then (if t316 = true then (if (t317.length : Int) = (l0_2.length : Int) then ((hopperlaw08_live.f).bind fun t344 => (some t344)) else (some false)) else (some false)) else (some false)) = some true := by rw [if_pos rfl] at H; exact H
            clear H
            have H := H1
            clear H1
            by_cases c117 : t327 = 8
            rotate_left
            · rw [if_neg c117] at H
              have c117b0 : (t327 == 8) = false := beq_eq_false_iff_ne.mpr c117
              have c117b1 : (t327 != 8) = true := bne_iff_ne.mpr c117
              exact absurd H (by simp)
            rw [if_pos c117] at H
            have c117b0 : (t327 == 8) = true := beq_iff_eq.mpr c117
            have c117b1 : (t327 != 8) = false := bne_eq_false_iff_eq.mpr c117
            clear c117
            by_cases c118 : t316 = true
            rotate_left
            · replace c118 := Bool.eq_false_iff.mpr c118
              subst c118
              have H1 : (some false) = some true := by rw [if_neg (show ¬ (false = true) by decide)] at H; exact H
              clear H
              have H := H1
              clear H1
              exact absurd H (by simp)
            subst c118
            have H1 : (if (t317.length : Int) = (l0_2.length : Int) then ((hopperlaw08_live.f).bind fun t344 => (some t344)) else (some false)) = some true := by rw [if_pos rfl] at H; exact H
            clear H
            have H := H1
            clear H1
            by_cases c119 : (t317.length : Int) = (l0_2.length : Int)
            rotate_left
            · rw [if_neg c119] at H
              have c119b0 : ((t317.length : Int) == (l0_2.length : Int)) = false := beq_eq_false_iff_ne.mpr c119
              have c119b1 : ((t317.length : Int) != (l0_2.length : Int)) = true := bne_iff_ne.mpr c119
              have c119b2 : (t317.length == l0_2.length) = false := by first | simpa using c119 | (simp at c119 ⊢; omega)
              exact absurd H (by simp)
            rw [if_pos c119] at H
            have c119b0 : ((t317.length : Int) == (l0_2.length : Int)) = true := beq_iff_eq.mpr c119
            have c119b1 : ((t317.length : Int) != (l0_2.length : Int)) = false := bne_eq_false_iff_eq.mpr c119
            have c119b2 : (t317.length == l0_2.length) = true := by first | simpa using c119 | (simp at c119 ⊢; omega)
            clear c119
            replace H := Option.bind_eq_some_iff.mp H
            obtain ⟨t344, A1200, H⟩ := H
            try dsimp only at H
            have A120 := Aside0.mk A1200
            clear A1200
            have HR_ := Aside0.mk (Option.some.inj H)
            clear H
            try go_wp2
            have n0_ := Aside0.mk (Kd.V_drew HO_294002.out)
            have n1_ := Aside0.mk (Kd.V_drew HO_309002.out)
            have n2_ := Aside0.mk (Kd.V_drew HO_322002.out)
            have n3_ := Aside0.mk (Kd.V_drew HO_329002.out)
            have n4_ := Aside0.mk (blk_drew BK278.out)
            have n5_ := Aside0.mk (blk_drew BK279.out)
            have n6_ := Aside0.mk (blk_drew BK293.out)
            have n7_ := Aside0.mk (blk_drew BK308.out)
            have n8_ := Aside0.mk (blk_drew BK309.out)
            have n9_ := Aside0.mk (blk_drew BK321.out)
            have n10_ := Aside0.mk (blk_drew BK328.out)
            have n11_ := Aside0.mk (below_drew1 HB.out)
            clear HO_294002
            clear HO_309002
            clear HO_322002
            clear HO_329002
            clear BK278
            clear BK279
            clear BK293
            clear BK308
            clear BK309
            clear BK321
            clear BK328
            clear HB
            have HO_294002 := n0_
            have HO_309002 := n1_
            have HO_322002 := n2_
            have HO_329002 := n3_
            have BK278 := n4_
            have BK279 := n5_
            have BK293 := n6_
            have BK308 := n7_
            have BK309 := n8_
            have BK321 := n9_
            have BK328 := n10_
            have HB := n11_
            clear n0_ n1_ n2_ n3_ n4_ n5_ n6_ n7_ n8_ n9_ n10_ n11_
            refine start_ (n := 37) (S := fun w' => w'.cell? ⟨gb308, 0, none⟩ = some (.int .i64 t299) ∧ w'.cell? ⟨gb308, 1, none⟩ = some (.bool t300) ∧ w'.cell? ⟨gb308, 2, none⟩ = some (.slice Ao40 t301.length co40) ∧ w'.cell? ⟨gb278, 0, none⟩ = some (.int .i64 a0_0) ∧ w'.cell? ⟨gb278, 1, none⟩ = some (.bool a0_1) ∧ w'.cell? ⟨gb278, 2, none⟩ = some (.slice A0_2 l0_2.length c0_2)) (ds := []) (tf 0 37) (by kernel_rfl) rfl rfl ⟨(blk_cell BK308.out 0).trans rfl, (blk_cell BK308.out 1).trans rfl, (blk_cell BK308.out 2).trans rfl, (blk_cell BK278.out 0).trans rfl, (blk_cell BK278.out 1).trans rfl, (blk_cell BK278.out 2).trans rfl⟩ (fun hHeld => ?_); refine with_tabW hopperlaw08_PipeCounts.tab9 hopperlaw08_PipeCounts.bits9 (fun HT_ HW_ => ?_)
            generalize wc.drew = w121 at HO_294002 HO_309002 HO_322002 HO_329002 BK278 BK279 BK293 BK308 BK309 BK321 BK328 HB hHeld ⊢
            refine pure_ (i := 0) (N := some 78) (v := ?_) (a' := ?_) (tf 1 37) rfl rfl (any_of HT_.out (by kernel_rfl)) (fun _ _ _ h => h) (Or.inl ⟨by rfl, ?_⟩) ?_ ?_
            rotate_left
            · intro w'
              go_simp
              with_reducible rfl
            rotate_left
            · simp only [Act.put, PU, i64_w, i32_w]
              rfl
            refine pure_ (i := 1) (N := some 79) (v := ?_) (a' := ?_) (tf 2 37) rfl rfl (any_of HT_.out (by kernel_rfl)) (fun _ _ _ h => h) (Or.inl ⟨by rfl, ?_⟩) ?_ ?_
            rotate_left
            · intro w'
              go_simp
              with_reducible rfl
            rotate_left
            · simp only [Act.put, PU, i64_w, i32_w]
              rfl
            refine pure_ (i := 2) (N := some 80) (v := ?_) (a' := ?_) (tf 3 37) rfl rfl (any_of HT_.out (by kernel_rfl)) (fun _ _ _ h => h) (Or.inl ⟨by rfl, ?_⟩) ?_ ?_
            rotate_left
            · intro w'
              go_simp
              with_reducible rfl
            rotate_left
            · simp only [Act.put, PU, i64_w, i32_w]
              rfl
            refine pure_ (i := 3) (N := some 81) (v := undef) (a' := ?_) (tf 4 37) rfl rfl (any_of HT_.out (by kernel_rfl)) (fun _ _ _ h => h) (Or.inr ⟨by rfl, rfl⟩) ?_ ?_
            rotate_left
            · simp only [Act.put, PU, i64_w, i32_w]
              rfl
            refine pure_ (i := 4) (N := some 82) (v := undef) (a' := ?_) (tf 5 37) rfl rfl (any_of HT_.out (by kernel_rfl)) (fun _ _ _ h => h) (Or.inr ⟨by rfl, rfl⟩) ?_ ?_
            rotate_left
            · simp only [Act.put, PU, i64_w, i32_w]
              rfl
            refine pure_ (i := 5) (N := some 83) (v := undef) (a' := ?_) (tf 6 37) rfl rfl (any_of HT_.out (by kernel_rfl)) (fun _ _ _ h => h) (Or.inr ⟨by rfl, rfl⟩) ?_ ?_
            rotate_left
            · simp only [Act.put, PU, i64_w, i32_w]
              rfl
            refine pure_ (i := 6) (N := some 84) (v := undef) (a' := ?_) (tf 7 37) rfl rfl (any_of HT_.out (by kernel_rfl)) (fun _ _ _ h => h) (Or.inr ⟨by rfl, rfl⟩) ?_ ?_
            rotate_left
            · simp only [Act.put, PU, i64_w, i32_w]
              rfl
            refine pure_ (i := 7) (N := some 85) (v := undef) (a' := ?_) (tf 8 37) rfl rfl (any_of HT_.out (by kernel_rfl)) (fun _ _ _ h => h) (Or.inr ⟨by rfl, rfl⟩) ?_ ?_
            rotate_left
            · simp only [Act.put, PU, i64_w, i32_w]
              rfl
            refine pure_ (i := 8) (N := some 86) (v := undef) (a' := ?_) (tf 9 37) rfl rfl (any_of HT_.out (by kernel_rfl)) (fun _ _ _ h => h) (Or.inr ⟨by rfl, rfl⟩) ?_ ?_
            rotate_left
            · simp only [Act.put, PU, i64_w, i32_w]
              rfl
            refine pure_ (i := 9) (N := some 87) (v := undef) (a' := ?_) (tf 10 37) rfl rfl (any_of HT_.out (by kernel_rfl)) (fun _ _ _ h => h) (Or.inr ⟨by rfl, rfl⟩) ?_ ?_
            rotate_left
            · simp only [Act.put, PU, i64_w, i32_w]
              rfl
            refine pure_ (i := 10) (N := some 88) (v := undef) (a' := ?_) (tf 11 37) rfl rfl (any_of HT_.out (by kernel_rfl)) (fun _ _ _ h => h) (Or.inr ⟨by rfl, rfl⟩) ?_ ?_
            rotate_left
            · simp only [Act.put, PU, i64_w, i32_w]
              rfl
            refine pure_ (i := 11) (N := some 89) (v := undef) (a' := ?_) (tf 12 37) rfl rfl (any_of HT_.out (by kernel_rfl)) (fun _ _ _ h => h) (Or.inr ⟨by rfl, rfl⟩) ?_ ?_
            rotate_left
            · simp only [Act.put, PU, i64_w, i32_w]
              rfl
            refine pure_ (i := 12) (N := some 90) (v := undef) (a' := ?_) (tf 13 37) rfl rfl (any_of HT_.out (by kernel_rfl)) (fun _ _ _ h => h) (Or.inr ⟨by rfl, rfl⟩) ?_ ?_
            rotate_left
            · simp only [Act.put, PU, i64_w, i32_w]
              rfl
            refine pure_ (i := 13) (N := some 91) (v := undef) (a' := ?_) (tf 14 37) rfl rfl (any_of HT_.out (by kernel_rfl)) (fun _ _ _ h => h) (Or.inr ⟨by rfl, rfl⟩) ?_ ?_
            rotate_left
            · simp only [Act.put, PU, i64_w, i32_w]
              rfl
            refine pure_ (i := 14) (N := some 92) (v := undef) (a' := ?_) (tf 15 37) rfl rfl (any_of HT_.out (by kernel_rfl)) (fun _ _ _ h => h) (Or.inr ⟨by rfl, rfl⟩) ?_ ?_
            rotate_left
            · simp only [Act.put, PU, i64_w, i32_w]
              rfl
            refine pure_ (i := 15) (N := some 93) (v := undef) (a' := ?_) (tf 16 37) rfl rfl (any_of HT_.out (by kernel_rfl)) (fun _ _ _ h => h) (Or.inr ⟨by rfl, rfl⟩) ?_ ?_
            rotate_left
            · simp only [Act.put, PU, i64_w, i32_w]
              rfl
            refine pure_ (i := 16) (N := some 94) (v := undef) (a' := ?_) (tf 17 37) rfl rfl (any_of HT_.out (by kernel_rfl)) (fun _ _ _ h => h) (Or.inr ⟨by rfl, rfl⟩) ?_ ?_
            rotate_left
            · simp only [Act.put, PU, i64_w, i32_w]
              rfl
            refine pure_ (i := 17) (N := some 95) (v := undef) (a' := ?_) (tf 18 37) rfl rfl (any_of HT_.out (by kernel_rfl)) (fun _ _ _ h => h) (Or.inr ⟨by rfl, rfl⟩) ?_ ?_
            rotate_left
            · simp only [Act.put, PU, i64_w, i32_w]
              rfl
            refine pure_ (i := 18) (N := some 96) (v := undef) (a' := ?_) (tf 19 37) rfl rfl (any_of HT_.out (by kernel_rfl)) (fun _ _ _ h => h) (Or.inr ⟨by rfl, rfl⟩) ?_ ?_
            rotate_left
            · simp only [Act.put, PU, i64_w, i32_w]
              rfl
            refine pure_ (i := 19) (N := some 97) (v := undef) (a' := ?_) (tf 20 37) rfl rfl (any_of HT_.out (by kernel_rfl)) (fun _ _ _ h => h) (Or.inr ⟨by rfl, rfl⟩) ?_ ?_
            rotate_left
            · simp only [Act.put, PU, i64_w, i32_w]
              rfl
            refine pure_ (i := 20) (N := some 98) (v := undef) (a' := ?_) (tf 21 37) rfl rfl (any_of HT_.out (by kernel_rfl)) (fun _ _ _ h => h) (Or.inr ⟨by rfl, rfl⟩) ?_ ?_
            rotate_left
            · simp only [Act.put, PU, i64_w, i32_w]
              rfl
            refine pure_ (i := 21) (N := some 99) (v := undef) (a' := ?_) (tf 22 37) rfl rfl (any_of HT_.out (by kernel_rfl)) (fun _ _ _ h => h) (Or.inr ⟨by rfl, rfl⟩) ?_ ?_
            rotate_left
            · simp only [Act.put, PU, i64_w, i32_w]
              rfl
            refine pure_ (i := 22) (N := some 100) (v := undef) (a' := ?_) (tf 23 37) rfl rfl (any_of HT_.out (by kernel_rfl)) (fun _ _ _ h => h) (Or.inr ⟨by rfl, rfl⟩) ?_ ?_
            rotate_left
            · simp only [Act.put, PU, i64_w, i32_w]
              rfl
            refine pure_ (i := 23) (N := some 101) (v := undef) (a' := ?_) (tf 24 37) rfl rfl (any_of HT_.out (by kernel_rfl)) (fun _ _ _ h => h) (Or.inr ⟨by rfl, rfl⟩) ?_ ?_
            rotate_left
            · simp only [Act.put, PU, i64_w, i32_w]
              rfl
            refine pure_ (i := 24) (N := some 102) (v := undef) (a' := ?_) (tf 25 37) rfl rfl (any_of HT_.out (by kernel_rfl)) (fun _ _ _ h => h) (Or.inr ⟨by rfl, rfl⟩) ?_ ?_
            rotate_left
            · simp only [Act.put, PU, i64_w, i32_w]
              rfl
            refine pure_ (i := 25) (N := some 103) (v := ?_) (a' := ?_) (tf 26 37) rfl rfl (any_of HT_.out (by kernel_rfl)) (fun _ _ _ h => h) (Or.inl ⟨by rfl, ?_⟩) ?_ ?_
            rotate_left
            · intro w'
              go_simp
              with_reducible rfl
            rotate_left
            · simp only [Act.put, PU, i64_w, i32_w]
              rfl
            refine pure_ (i := 26) (N := some 104) (v := ?_) (a' := ?_) (tf 27 37) rfl rfl (any_of HT_.out (by kernel_rfl)) (fun _ _ _ h => h) (Or.inl ⟨by rfl, ?_⟩) ?_ ?_
            rotate_left
            · intro w'
              go_simp
              with_reducible rfl
            rotate_left
            · simp only [Act.put, PU, i64_w, i32_w]
              rfl
            refine pure_ (i := 27) (N := some 105) (v := ?_) (a' := ?_) (tf 28 37) rfl rfl (any_of HT_.out (by kernel_rfl)) (fun _ _ _ h => h) (Or.inl ⟨by rfl, ?_⟩) ?_ ?_
            rotate_left
            · intro w'
              go_simp
              with_reducible rfl
            rotate_left
            · simp only [Act.put, PU, i64_w, i32_w]
              rfl
            refine pure_ (i := 28) (N := some 106) (v := ?_) (a' := ?_) (tf 29 37) rfl rfl (any_of HT_.out (by kernel_rfl)) (fun _ _ _ h => h) (Or.inl ⟨by rfl, ?_⟩) ?_ ?_
            rotate_left
            · intro w'
              go_simp
              with_reducible rfl
            rotate_left
            · simp only [Act.put, PU, i64_w, i32_w]
              rfl
            refine pure_ (i := 29) (N := some 107) (v := ?_) (a' := ?_) (tf 30 37) rfl rfl (any_of HT_.out (by kernel_rfl)) (fun _ _ _ h => h) (Or.inl ⟨by rfl, ?_⟩) ?_ ?_
            rotate_left
            · intro w'
              go_simp
              with_reducible rfl
            rotate_left
            · simp only [Act.put, PU, i64_w, i32_w]
              rfl
            refine take_ (i := 30) (N := some 108) (v := ?_) (a' := ?_) (tf 31 37) rfl rfl (take_ofW HT_.out HW_.out (by kernel_rfl)) (fun _ _ _ h => h) (Or.inl ⟨by rfl, ?_⟩) hHeld ?_ ?_
            rotate_left
            · rintro w' ⟨s0, s1, s2, s3, s4, s5⟩
              go_simp
              with_reducible rfl
            rotate_left
            · simp only [Act.put, PU, i64_w, i32_w]
              rfl
            refine take_ (i := 32) (N := some 110) (v := ?_) (a' := ?_) #[true, true, true, true, true, true, true, true, true, true, true, true, true, true, true, true, true, true, true, true, true, true, true, true, true, true, true, true, true, true, true, false, true, false, false, false, false] rfl rfl (take_ofW HT_.out HW_.out (by kernel_rfl)) (fun _ _ _ h => h) (Or.inl ⟨by rfl, ?_⟩) hHeld ?_ ?_
            rotate_left
            · rintro w' ⟨s0, s1, s2, s3, s4, s5⟩
              go_simp
              with_reducible rfl
            rotate_left
            · simp only [Act.put, PU, i64_w, i32_w]
              rfl
            refine one_ (i := 31) (N := some 109) (tf 33 37) rfl rfl (one_of HT_.out (by kernel_rfl)) (by decide) (fun K hK => ?_)
            refine goes_ Try.func19 (by kernel_rfl) rfl #[.agg #[.int .i64 t299, .bool t300, .slice Ao40 t301.length co40]] (by rfl) rfl rfl (by (try simp only [List.map_toArray, List.map_cons, List.map_nil]); first | done | rfl | (simp only [List.length_drop, List.length_take]; rfl)) ?_
            with_reducible refine (hopperlaw08_told.calls kj11 t299 t300 _ _ t301 t338 t339 t340 _ ?side1 ?side2 A114.out).mono ?_
            (case side1 => exact Kd.CA (Kd.V_reads' HO_309002.out).2.2)
            (case side2 => exact (Kd.V_reads' HO_309002.out).2.1)
            rintro e w122 ⟨v341, rfl, ho0, hb⟩
            refine ⟨_, rfl, ?_⟩
            have n0_ := Aside0.mk (Kd.V_elder' (Kd.VA HO_294002.out) (Kd.R_base ho0) hb)
            have n1_ := Aside0.mk (Kd.V_elder' (Kd.VA HO_309002.out) (Kd.R_base ho0) hb)
            have n2_ := Aside0.mk (Kd.V_elder' (Kd.VA HO_322002.out) (Kd.R_base ho0) hb)
            have n3_ := Aside0.mk (Kd.V_elder' (Kd.VA HO_329002.out) (Kd.R_base ho0) hb)
            have n4_ := Aside0.mk (Kd.R_lower (Kd.R_newB ho0 (g := gb279) (o := .cells #[.int .i64 a1_0, .int .i64 a1_1, .string a1_2] 26 (0, 0)) (BA BK279.out)) (below_size (LG HB.out (G1 GE278.out (G1 GE279.out (G1 GE293.out (G1 GE308.out (G1 GE309.out (G1 GE321.out (G1 GE328.out G0))))))))))
            have n5_ := Aside0.mk (blk_below (BA BK278.out) hb)
            have n6_ := Aside0.mk (blk_below (BA BK279.out) hb)
            have n7_ := Aside0.mk (blk_below (BA BK293.out) hb)
            have n8_ := Aside0.mk (blk_below (BA BK308.out) hb)
            have n9_ := Aside0.mk (blk_below (BA BK309.out) hb)
            have n10_ := Aside0.mk (blk_below (BA BK321.out) hb)
            have n11_ := Aside0.mk (blk_below (BA BK328.out) hb)
            have n12_ := Aside0.mk (below_step (LG HB.out (G1 GE278.out (G1 GE279.out (G1 GE293.out (G1 GE308.out (G1 GE309.out (G1 GE321.out (G1 GE328.out G0)))))))) hb)
            clear HO_294002
            clear HO_309002
            clear HO_322002
            clear HO_329002
            clear BK278
            clear BK279
            clear BK293
            clear BK308
            clear BK309
            clear BK321
            clear BK328
            clear HB
            have HO_294002 := n0_
            have HO_309002 := n1_
            have HO_322002 := n2_
            have HO_329002 := n3_
            have HO342 := n4_
            have BK278 := n5_
            have BK279 := n6_
            have BK293 := n7_
            have BK308 := n8_
            have BK309 := n9_
            have BK321 := n10_
            have BK328 := n11_
            have HB := n12_
            clear n0_ n1_ n2_ n3_ n4_ n5_ n6_ n7_ n8_ n9_ n10_ n11_ n12_
            (try clear hb)
            (try clear hb2)
            (try clear hk)
            (try clear hi)
            (try clear ho0)
            obtain ⟨Ao123, co123, eo123⟩ := Kd.R_slice HO342.out
            (first | subst eo123 | (injection eo123 with f1_ f2_ f3_; have f4_ := f1_.symm; have f5_ := f3_.symm; clear f1_ f2_ f3_; subst f4_; subst f5_))
            refine hK.out _ _ ⟨(blk_cell BK308.out 0).trans rfl, (blk_cell BK308.out 1).trans rfl, (blk_cell BK308.out 2).trans rfl, (blk_cell BK278.out 0).trans rfl, (blk_cell BK278.out 1).trans rfl, (blk_cell BK278.out 2).trans rfl⟩ (fun hHeld => ?_)
            clear hK K
            refine norm_ (a' := ?_) ?_ ?_
            rotate_left
            · show Act.put _ (some 109) _ = _
              simp only [Act.put, PU, i64_w, i32_w]
              rfl
            refine one_ (i := 33) (N := some 111) (tf 34 37) rfl rfl (one_of HT_.out (by kernel_rfl)) (by decide) (fun K hK => ?_)
            refine goes_ Try.func18 (by kernel_rfl) rfl #[.agg #[.int .i64 t338, .bool t339, .slice Ao123 t340.length co123], .agg #[.int .i64 a0_0, .bool a0_1, .slice A0_2 l0_2.length c0_2]] (by rfl) rfl rfl (by (try simp only [List.map_toArray, List.map_cons, List.map_nil]); first | done | rfl | (simp only [List.length_drop, List.length_take]; rfl)) ?_
            with_reducible refine (hopperref08_Same.calls kj11 t338 t339 _ _ t340 a0_0 a0_1 _ _ l0_2 true _ ?side1 ?side2 ?side3 ?side4 A115.out).mono ?_
            (case side1 => exact Kd.CA (Kd.R_reads' HO342.out).2.2)
            (case side2 => exact (Kd.R_reads' HO342.out).2.1)
            (case side3 => exact Kd.CA (Kd.C_below HR0_2.out HB.out))
            (case side4 => exact HC0_2.out)
            rintro e w124 ⟨rfl, hb⟩
            refine ⟨_, rfl, ?_⟩
            have n0_ := Aside0.mk (Kd.V_below (Kd.VA HO_294002.out) hb)
            have n1_ := Aside0.mk (Kd.V_below (Kd.VA HO_309002.out) hb)
            have n2_ := Aside0.mk (Kd.V_below (Kd.VA HO_322002.out) hb)
            have n3_ := Aside0.mk (Kd.V_below (Kd.VA HO_329002.out) hb)
            have n4_ := Aside0.mk (Kd.R_below (Kd.RA HO342.out) hb)
            have n5_ := Aside0.mk (blk_below (BA BK278.out) hb)
            have n6_ := Aside0.mk (blk_below (BA BK279.out) hb)
            have n7_ := Aside0.mk (blk_below (BA BK293.out) hb)
            have n8_ := Aside0.mk (blk_below (BA BK308.out) hb)
            have n9_ := Aside0.mk (blk_below (BA BK309.out) hb)
            have n10_ := Aside0.mk (blk_below (BA BK321.out) hb)
            have n11_ := Aside0.mk (blk_below (BA BK328.out) hb)
            have n12_ := Aside0.mk (below_step (LG HB.out (G1 GE278.out (G1 GE279.out (G1 GE293.out (G1 GE308.out (G1 GE309.out (G1 GE321.out (G1 GE328.out G0)))))))) hb)
            clear HO_294002
            clear HO_309002
            clear HO_322002
            clear HO_329002
            clear HO342
            clear BK278
            clear BK279
            clear BK293
            clear BK308
            clear BK309
            clear BK321
            clear BK328
            clear HB
            have HO_294002 := n0_
            have HO_309002 := n1_
            have HO_322002 := n2_
            have HO_329002 := n3_
            have HO342 := n4_
            have BK278 := n5_
            have BK279 := n6_
            have BK293 := n7_
            have BK308 := n8_
            have BK309 := n9_
            have BK321 := n10_
            have BK328 := n11_
            have HB := n12_
            clear n0_ n1_ n2_ n3_ n4_ n5_ n6_ n7_ n8_ n9_ n10_ n11_ n12_
            (try clear hb)
            (try clear hb2)
            (try clear hk)
            (try clear hi)
            refine hK.out _ _ ⟨(blk_cell BK308.out 0).trans rfl, (blk_cell BK308.out 1).trans rfl, (blk_cell BK308.out 2).trans rfl, (blk_cell BK278.out 0).trans rfl, (blk_cell BK278.out 1).trans rfl, (blk_cell BK278.out 2).trans rfl⟩ (fun hHeld => ?_)
            clear hK K
            refine norm_ (a' := ?_) ?_ ?_
            rotate_left
            · show Act.put _ (some 111) _ = _
              simp only [Act.put, PU, i64_w, i32_w]
              rfl
            refine pure_ (i := 34) (N := some 112) (v := ?_) (a' := ?_) (tf 35 37) rfl rfl (any_of HT_.out (by kernel_rfl)) (fun _ _ _ h => h) (Or.inl ⟨by rfl, ?_⟩) ?_ ?_
            rotate_left
            · intro w'
              go_simp
              with_reducible rfl
            rotate_left
            · simp only [Act.put, PU, i64_w, i32_w]
              rfl
            refine pure_ (i := 35) (N := some 113) (v := ?_) (a' := ?_) (tf 36 37) rfl rfl (any_of HT_.out (by kernel_rfl)) (fun _ _ _ h => h) (Or.inl ⟨by rfl, ?_⟩) ?_ ?_
            rotate_left
            · intro w'
              go_simp
              with_reducible rfl
            rotate_left
            · simp only [Act.put, PU, i64_w, i32_w]
              rfl
            refine pure_ (i := 36) (N := some 114) (v := ?_) (a' := ?_) (tf 37 37) rfl rfl (any_of HT_.out (by kernel_rfl)) (fun _ _ _ h => h) (Or.inl ⟨by rfl, ?_⟩) ?_ ?_
            rotate_left
            · intro w'
              go_simp
              with_reducible rfl
            rotate_left
            · simp only [Act.put, PU, i64_w, i32_w]
              rfl
            refine done_ (done_of HT_.out (by kernel_rfl)) ?_
            have hnb125 := NB321_278.out
            have hnc125 := NB278_321.out
            have hnb126 := NB321_279.out
            have hnc126 := NB279_321.out
            have hnb127 := NB321_293.out
            have hnc127 := NB293_321.out
            have hnb128 := NB321_308.out
            have hnc128 := NB308_321.out
            have hnb129 := NB321_309.out
            have hnc129 := NB309_321.out
            have hnb130 := NB321_328.out
            have hnc130 := NB328_321.out
            have hcz131_0 : w124.cell? ⟨gb321, 0, none⟩ = some (.int .i64 t315) := (blk_cell BK321.out 0).trans rfl
            have hcz131_1 : w124.cell? ⟨gb321, 1, none⟩ = some (.bool true) := (blk_cell BK321.out 1).trans rfl
            have hcz131_2 : w124.cell? ⟨gb321, 2, none⟩ = some (.slice Ao56 t317.length co56) := (blk_cell BK321.out 2).trans rfl
            have hfz131_0 := blk_frozen BK321.out 0
            have hfz131_1 := blk_frozen BK321.out 1
            have hfz131_2 := blk_frozen BK321.out 2
            have hnb132 := NB278_279.out
            have hnc132 := NB279_278.out
            have hnb133 := NB278_293.out
            have hnc133 := NB293_278.out
            have hnb134 := NB278_308.out
            have hnc134 := NB308_278.out
            have hnb135 := NB278_309.out
            have hnc135 := NB309_278.out
            have hnb136 := NB278_328.out
            have hnc136 := NB328_278.out
            have hcz137_0 : w124.cell? ⟨gb278, 0, none⟩ = some (.int .i64 a0_0) := (blk_cell BK278.out 0).trans rfl
            have hcz137_1 : w124.cell? ⟨gb278, 1, none⟩ = some (.bool a0_1) := (blk_cell BK278.out 1).trans rfl
            have hcz137_2 : w124.cell? ⟨gb278, 2, none⟩ = some (.slice A0_2 l0_2.length c0_2) := (blk_cell BK278.out 2).trans rfl
            have hfz137_0 := blk_frozen BK278.out 0
            have hfz137_1 := blk_frozen BK278.out 1
            have hfz137_2 := blk_frozen BK278.out 2
            try go_wp2_with (first | (go_at_call 8; (with_reducible refine (hopperlaw08_live.calls  t344 _ A120.out).mono ?_); rintro e w138 ⟨rfl, hb⟩; replace HB := Aside0.mk (below_step (LA HB.out) hb); (try clear HO_294002); (try clear HO_309002); (try clear HO_322002); (try clear HO_329002); (try clear HO342); (try clear BK278); (try clear BK279); (try clear BK293); (try clear BK308); (try clear BK309); (try clear BK321); (try clear BK328); (try clear hb); (try clear hb2); (try clear hk); (try clear hi)))
            go_ret
            exact ⟨by first | (rw [HR_.out]; done) | rfl | (rw [HR_.out]; rfl) | (simp [HR_.out]; done) | (simp [errW_none, errW_some] <;> rfl) | (simp [*, errW_none, errW_some] <;> rfl), LG HB.out (G1 GE278.out (G1 GE279.out (G1 GE293.out (G1 GE308.out (G1 GE309.out (G1 GE321.out (G1 GE328.out G0)))))))⟩
  · replace c4 := Bool.eq_false_iff.mpr c4
    subst c4
    have H1 : ((hopperlaw08_live.f).bind fun t281 => (some t281)) = some true := by rw [if_neg (show ¬ (false = true) by decide)] at H; exact H
    clear H
    have H := H1
    clear H1
    replace H := Option.bind_eq_some_iff.mp H
    obtain ⟨t281, A1390, H⟩ := H
    try dsimp only at H
    have A139 := Aside0.mk A1390
    clear A1390
    have HR_ := Aside0.mk (Option.some.inj H)
    clear H
    go_enter Try.func5, Try.ntmps5
    go_wp2_with (first | ((with_reducible refine gate_dst (N := 2) rfl ?_); (try (refine gate_guard (by rfl) ?_; dsimp only)); refine box_event ?hg (N := 2) ?hd (cs := #[.int .i64 a0_0, .bool a0_1, .slice A0_2 l0_2.length c0_2]) (t := 24) ?hr ?_; (case hd => rfl); (case hg => rfl); (case hr => first | (go_simp; done) | (go_simp; rfl)); intro gb278 hg w140 hbox hb; have BK278 := Aside0.mk (hbox); have GE278 := Aside0.mk (ge1 hg (LA HB.out)); replace HB := Aside0.mk (below_step (LA HB.out) hb); clear hb hbox hg) | ((with_reducible refine gate_dst (N := 3) rfl ?_); (try (refine gate_guard (by rfl) ?_; dsimp only)); refine box_event ?hg (N := 3) ?hd (cs := #[.int .i64 a1_0, .int .i64 a1_1, .string a1_2]) (t := 26) ?hr ?_; (case hd => rfl); (case hg => rfl); (case hr => first | (go_simp; done) | (go_simp; rfl)); intro gb279 hg w141 hbox hb; have GE279 := Aside0.mk (ge1 hg (LA HB.out)); replace HB := Aside0.mk (below_step (LA HB.out) hb); have NB278_279 := Aside0.mk ((by rw [hg]; exact Nat.ne_of_lt (blk_lt (g := gb278) (o := .cells #[.int .i64 a0_0, .bool a0_1, .slice A0_2 l0_2.length c0_2] 24 (0, 0)) (BA BK278.out)) : gb278 ≠ gb279)); have NB279_278 := Aside0.mk ((by rw [hg]; exact Nat.ne_of_gt (blk_lt (g := gb278) (o := .cells #[.int .i64 a0_0, .bool a0_1, .slice A0_2 l0_2.length c0_2] 24 (0, 0)) (BA BK278.out)) : gb279 ≠ gb278)); replace BK278 := Aside0.mk (blk_below (BA BK278.out) hb); clear hb hbox hg; have hnb142 := NB278_279.out; have hnc142 := NB279_278.out; obtain ⟨hcz143_0, hcz143_1, hcz143_2, hfz143_0, hfz143_1, hfz143_2⟩ := cz3 BK278.out) | ((with_reducible refine gate_callee (f := 7) rfl ?_); refine goesL_ (some 15) rfl rfl Try.func7 (by kernel_rfl) rfl #[.agg #[.int .i64 a0_0, .bool a0_1, .slice A0_2 l0_2.length c0_2]] rfl (by (try simp only [List.map_toArray, List.map_cons, List.map_nil]); first | done | rfl | (simp only [List.length_drop, List.length_take]; rfl)) ?_; (with_reducible refine (hopperref08_Small.calls a0_0 a0_1 _ _ l0_2 false _ ?side1 ?side2 A3.out).mono ?_); (case side1 => exact Kd.CA (Kd.C_below HR0_2.out HB.out)); (case side2 => exact HC0_2.out); rintro e w144 ⟨rfl, hb⟩; refine ⟨_, rfl, ?_⟩; replace HB := Aside0.mk (below_step (LA HB.out) hb); (try clear BK278); (try clear BK279); (try clear hb); (try clear hb2); (try clear hk); (try clear hi)) | ((with_reducible refine gate_callee (f := 8) rfl ?_); refine goesL_ (some 17) rfl rfl Try.func8 (by kernel_rfl) rfl #[] rfl (by (try simp only [List.map_toArray, List.map_cons, List.map_nil]); first | done | rfl | (simp only [List.length_drop, List.length_take]; rfl)) ?_; (with_reducible refine (hopperlaw08_live.calls  t281 _ A139.out).mono ?_); rintro e w145 ⟨rfl, hb⟩; refine ⟨_, rfl, ?_⟩; replace HB := Aside0.mk (below_step (LA HB.out) hb); (try clear BK278); (try clear BK279); (try clear hb); (try clear hb2); (try clear hk); (try clear hi)))
    go_ret
    exact ⟨by first | (rw [HR_.out]; done) | rfl | (rw [HR_.out]; rfl) | (simp [HR_.out]; done) | (simp [errW_none, errW_some] <;> rfl) | (simp [*, errW_none, errW_some] <;> rfl), LG HB.out (G1 GE278.out (G1 GE279.out G0))⟩

-- GIVEN hopperlaw08_PipeCounts

end Go.Proofs.Ytacncgpnimdfbaa.PPipeCounts
