/- What the functions that the law reaches answer, each as a plain Lean function, with a proof that the call in memory comes to that answer. Written by wip/tools/given.py of this session out of the print.py of the kit, with stand-ins for some functions. -/
import Derived.Test.YtacncgpnimdfbaaPPipeTellsx0
import Derived.Test.YtacncgpnimdfbaaPPipeTellsx2
import Derived.Test.YtacncgpnimdfbaaPPipeTellsx3
import Derived.Test.YtacncgpnimdfbaaPPipeTellsx4
import Derived.Test.YtacncgpnimdfbaaPPipeTellsx5
namespace Go.Proofs.Ytacncgpnimdfbaa.PPipeTells
open Go.RowKit Go.Proofs.YtacncgpnimdfbaaW.PrintWords Go.Proofs.YtacncgpnimdfbaaW.PrintLast Go.Proofs.YtacncgpnimdfbaaW.PrintMore
attribute [local go_sem] max2_int min2_int max_two min_two max_three min_three max_four min_four   -- for this text's walks alone
set_option linter.unusedVariables false
set_option linter.unusedSimpArgs false

attribute [local go_sem high] eqA36
/-! ### hopperlaw08_PipeTells: function 3 -/
def hopperlaw08_PipeTells.f (k : Nat) (a0_0 : Int) (a0_1 : Bool) (l0_2 : List (S26)) (a1_0 : Int) (a1_1 : Int) (a1_2 : ByteArray) (a2 : Int) : Option (Bool) := (hopperref08_Small.f a0_0 a0_1 l0_2).bind fun t283 => (if t283 = true then ((hopperlaw08_own.f k a0_0 a0_1 l0_2).bind fun bt285 => ((pipe_Pipe_Send.f bt285.1 bt285.2.1 bt285.2.2 a1_0 a1_1 a1_2).bind fun bt290 => ((hopperref08_Send.f a0_0 a0_1 l0_2 a1_0 a1_1 a1_2).bind fun bt297 => ((hopperlaw08_own.f k a0_0 a0_1 l0_2).bind fun bt304 => ((pipe_Pipe_Take.f bt304.1 bt304.2.1 bt304.2.2).bind fun bt309 => ((hopperref08_Take.f a0_0 a0_1 l0_2).bind fun bt320 => ((hopperlaw08_own.f k a0_0 a0_1 l0_2).bind fun bt331 => ((pipe_Pipe_Close.f bt331.1 bt331.2.1 bt331.2.2).bind fun bt336 => ((hopperref08_Close.f a0_0 a0_1 l0_2).bind fun bt343 => ((pipe_New.f a2).bind fun bt350 => ((hopperref08_New.f a2).bind fun bt357 => ((hopperlaw08_told.f k bt290.1 bt290.2.1 bt290.2.2.1).bind fun bt364 => ((hopperref08_Same.f k bt364.1 bt364.2.1 bt364.2.2 bt297.1 bt297.2.1 bt297.2.2.1).bind fun t369 => (if t369 = true then (if bt290.2.2.2 = bt297.2.2.2 then ((hopperlaw08_told.f k bt309.1 bt309.2.1 bt309.2.2.1).bind fun bt370 => ((hopperref08_Same.f k bt370.1 bt370.2.1 bt370.2.2 bt320.1 bt320.2.1 bt320.2.2.1).bind fun t375 => (if t375 = true then (if (bt309.2.2.2.1 == bt320.2.2.2.1 && (bt309.2.2.2.2.1 == bt320.2.2.2.2.1 && (bt309.2.2.2.2.2.1.toList == bt320.2.2.2.2.2.1.toList))) = true then (if bt309.2.2.2.2.2.2 = bt320.2.2.2.2.2.2 then ((hopperlaw08_told.f k bt336.1 bt336.2.1 bt336.2.2.1).bind fun bt376 => ((hopperref08_Same.f k bt376.1 bt376.2.1 bt376.2.2 bt343.1 bt343.2.1 bt343.2.2.1).bind fun t381 => (if t381 = true then (if bt336.2.2.2 = bt343.2.2.2 then ((hopperlaw08_told.f k bt350.1 bt350.2.1 bt350.2.2.1).bind fun bt382 => ((hopperref08_Same.f k bt382.1 bt382.2.1 bt382.2.2 bt357.1 bt357.2.1 bt357.2.2.1).bind fun t387 => (if t387 = true then (if bt350.2.2.2 = bt357.2.2.2 then ((hopperlaw08_live.f).bind fun t388 => (some t388)) else (some false)) else (some false)))) else (some false)) else (some false)))) else (some false)) else (some false)) else (some false)))) else (some false)) else (some false))))))))))))))) else ((hopperlaw08_live.f).bind fun t284 => (some t284)))
theorem hopperlaw08_PipeTells.mono : ∀ a0 a1 a2 a3 a4 a5 a6 k, LeO (hopperlaw08_PipeTells.f k a0 a1 a2 a3 a4 a5 a6) (hopperlaw08_PipeTells.f (k + 1) a0 a1 a2 a3 a4 a5 a6) := by
  intro a0 a1 a2 a3 a4 a5 a6 k
  unfold hopperlaw08_PipeTells.f
  repeat' first
      | (with_reducible exact hopperlaw08_own.mono _ _ _ _)
      | (with_reducible exact hopperlaw08_told.mono _ _ _ _)
      | (with_reducible exact hopperref08_Same.mono _ _ _ _ _ _ _)
      | (with_reducible exact LeO.refl _)
      | (with_reducible exact LeO.none _)
      | (with_reducible refine LeO.ite ?_ ?_)
      | (with_reducible refine LeO.bind ?_ (fun _ => ?_))
      | exact hopperlaw08_own.mono _ _ _ _
      | exact hopperlaw08_told.mono _ _ _ _
      | exact hopperref08_Same.mono _ _ _ _ _ _ _
      | exact LeO.none _
      | refine LeO.ite ?_ ?_
      | refine LeO.bind ?_ (fun _ => ?_)
def hopperlaw08_PipeTells.T3 : Bool × List (List Nat × List Nat) := (true, [([], []), ([0], [0]), ([], []), ([1, 2, 1], [1, 2]), ([3], [3]), ([4], [4]), ([4], [4]), ([], []), ([7, 5, 3, 0, 1, 2, 3, 4, 5, 7], [5, 7]), ([6, 8, 0, 1, 2, 3, 4, 5, 6, 7, 8], [6])])
def hopperlaw08_PipeTells.B3 : List Nat := [0, 1, 0, 7, 15, 31, 31, 0, 191, 511]
theorem hopperlaw08_PipeTells.tab3 : rtab .any (opsOf Try.f3 3) = hopperlaw08_PipeTells.T3 := by kernel_rfl
theorem hopperlaw08_PipeTells.bits3 : waitsOk hopperlaw08_PipeTells.T3.2 hopperlaw08_PipeTells.B3 = true := by kernel_rfl
def hopperlaw08_PipeTells.T11 : Bool × List (List Nat × List Nat) := (true, [([], []), ([0], [0]), ([], []), ([1, 2, 1], [1, 2]), ([3, 3], [3]), ([4], [4]), ([4], [4]), ([5, 6, 4], [4, 5, 6]), ([4, 7], [4, 7]), ([8, 4], [8]), ([9], [9]), ([10, 9, 9], [9, 10]), ([9], [9]), ([11, 12, 11, 9], [9, 11, 12]), ([9, 13], [9, 13]), ([14, 13], [14]), ([15], [15]), ([15], [15]), ([16, 17, 15], [15, 16, 17]), ([15, 18], [15, 18]), ([19, 15], [19]), ([20], [20]), ([20], [20]), ([21, 22, 20], [20, 21, 22]), ([20, 23], [20, 23]), ([24, 20], [24]), ([25], [25]), ([26, 25, 25], [25, 26]), ([25], [25]), ([27, 28, 27, 25], [25, 27, 28]), ([25, 29], [25, 29]), ([30, 29], [30]), ([31], [31]), ([31], [31]), ([32, 33, 31], [31, 32, 33]), ([31, 34], [31, 34]), ([35, 31], [35]), ([36], [36]), ([37, 36, 36], [36, 37]), ([36], [36]), ([38, 39, 38, 36], [36, 38, 39]), ([36, 40], [36, 40]), ([41, 40], [41]), ([42], [42]), ([42], [42]), ([43, 44, 42], [42, 43, 44]), ([42, 45], [42, 45]), ([46, 42], [46]), ([47, 47], [47]), ([47, 48], [47, 48]), ([49, 48, 0, 1, 2, 3, 4, 5, 6, 7, 8, 9, 10, 11, 12, 13, 14, 15, 16, 17, 18, 19, 20, 21, 22, 23, 24, 25, 26, 27, 28, 29, 30, 31, 32, 33, 34, 35, 36, 37, 38, 39, 40, 41, 42, 43, 44, 45, 46, 47, 48, 49], [49])])
def hopperlaw08_PipeTells.B11 : List Nat := [0, 1, 0, 7, 15, 31, 31, 127, 255, 511, 1023, 2047, 1023, 8191, 16383, 32767, 65535, 65535, 262143, 524287, 1048575, 2097151, 2097151, 8388607, 16777215, 33554431, 67108863, 134217727, 67108863, 536870911, 1073741823, 2147483647, 4294967295, 4294967295, 17179869183, 34359738367, 68719476735, 137438953471, 274877906943, 137438953471, 1099511627775, 2199023255551, 4398046511103, 8796093022207, 8796093022207, 35184372088831, 70368744177663, 140737488355327, 281474976710655, 562949953421311, 1125899906842623]
theorem hopperlaw08_PipeTells.tab11 : rtab .any (opsOf Try.f3 11) = hopperlaw08_PipeTells.T11 := by kernel_rfl
theorem hopperlaw08_PipeTells.bits11 : waitsOk hopperlaw08_PipeTells.T11.2 hopperlaw08_PipeTells.B11 = true := by kernel_rfl
attribute [local go_sem] joined_ite
set_option maxHeartbeats 60000000 in
set_option maxRecDepth 100000 in
theorem hopperlaw08_PipeTells.callsT (k : Nat) (a0_0 : Int) (a0_1 : Bool) (A0_2 : Option Addr) (c0_2 : Nat) (l0_2 : List (S26)) (a1_0 : Int) (a1_1 : Int) (a1_2 : ByteArray) (a2 : Int) (w : World) (hr0_2 : Kd.C k26 w A0_2 l0_2.length l0_2) (hc0_2 : l0_2.length ≤ c0_2) (h : hopperlaw08_PipeTells.f k a0_0 a0_1 l0_2 a1_0 a1_1 a1_2 a2 = some true) :
    Calls Try.prog 3 #[.agg #[.int .i64 a0_0, .bool a0_1, .slice A0_2 l0_2.length c0_2], .agg #[.int .i64 a1_0, .int .i64 a1_1, .string a1_2], .int .i64 a2] w fun e w' => e = .returned (.bool true) ∧ Below w.heap.size w w' := by
  have hu24 := Try.underlying24
  have hu26 := Try.underlying26
  have hu31 := Try.underlying31
  have hu36 := Try.underlying36
  have HR0_2 := Aside0.mk hr0_2
  have HC0_2 := Aside0.mk hc0_2
  clear hr0_2 hc0_2
  have HB := Aside0.mk (Below.refl w.heap.size w)
  have H : ((hopperref08_Small.f a0_0 a0_1 l0_2).bind fun t283 => (if t283 = true then ((hopperlaw08_own.f k a0_0 a0_1 l0_2).bind fun bt285 => ((pipe_Pipe_Send.f bt285.1 bt285.2.1 bt285.2.2 a1_0 a1_1 a1_2).bind fun bt290 => ((hopperref08_Send.f a0_0 a0_1 l0_2 a1_0 a1_1 a1_2).bind fun bt297 => ((hopperlaw08_own.f k a0_0 a0_1 l0_2).bind fun bt304 => ((pipe_Pipe_Take.f bt304.1 bt304.2.1 bt304.2.2).bind fun bt309 => ((hopperref08_Take.f a0_0 a0_1 l0_2).bind fun bt320 => ((hopperlaw08_own.f k a0_0 a0_1 l0_2).bind fun bt331 => ((pipe_Pipe_Close.f bt331.1 bt331.2.1 bt331.2.2).bind fun bt336 => ((hopperref08_Close.f a0_0 a0_1 l0_2).bind fun bt343 => ((pipe_New.f a2).bind fun bt350 => ((hopperref08_New.f a2).bind fun bt357 => ((hopperlaw08_told.f k bt290.1 bt290.2.1 bt290.2.2.1).bind fun bt364 => ((hopperref08_Same.f k bt364.1 bt364.2.1 bt364.2.2 bt297.1 bt297.2.1 bt297.2.2.1).bind fun t369 => (if t369 = true then (if bt290.2.2.2 = bt297.2.2.2 then ((hopperlaw08_told.f k bt309.1 bt309.2.1 bt309.2.2.1).bind fun bt370 => ((hopperref08_Same.f k bt370.1 bt370.2.1 bt370.2.2 bt320.1 bt320.2.1 bt320.2.2.1).bind fun t375 => (if t375 = true then (if (bt309.2.2.2.1 == bt320.2.2.2.1 && (bt309.2.2.2.2.1 == bt320.2.2.2.2.1 && (bt309.2.2.2.2.2.1.toList == bt320.2.2.2.2.2.1.toList))) = true then (if bt309.2.2.2.2.2.2 = bt320.2.2.2.2.2.2 then ((hopperlaw08_told.f k bt336.1 bt336.2.1 bt336.2.2.1).bind fun bt376 => ((hopperref08_Same.f k bt376.1 bt376.2.1 bt376.2.2 bt343.1 bt343.2.1 bt343.2.2.1).bind fun t381 => (if t381 = true then (if bt336.2.2.2 = bt343.2.2.2 then ((hopperlaw08_told.f k bt350.1 bt350.2.1 bt350.2.2.1).bind fun bt382 => ((hopperref08_Same.f k bt382.1 bt382.2.1 bt382.2.2 bt357.1 bt357.2.1 bt357.2.2.1).bind fun t387 => (if t387 = true then (if bt350.2.2.2 = bt357.2.2.2 then ((hopperlaw08_live.f).bind fun t388 => (some t388)) else (some false)) else (some false)))) else (some false)) else (some false)))) else (some false)) else (some false)) else (some false)))) else (some false)) else (some false))))))))))))))) else ((hopperlaw08_live.f).bind fun t284 => (some t284)))) = some true := h
  clear h
  replace H := Option.bind_eq_some_iff.mp H
  obtain ⟨t283, A40, H⟩ := H
  try dsimp only at H
  have A4 := Aside0.mk A40
  clear A40
  by_cases c5 : t283 = true
  · subst c5
    have H1 : ((hopperlaw08_own.f k a0_0 a0_1 l0_2).bind fun bt285 => ((pipe_Pipe_Send.f bt285.1 bt285.2.1 bt285.2.2 a1_0 a1_1 a1_2).bind fun bt290 => ((hopperref08_Send.f a0_0 a0_1 l0_2 a1_0 a1_1 a1_2).bind fun bt297 => ((hopperlaw08_own.f k a0_0 a0_1 l0_2).bind fun bt304 => ((pipe_Pipe_Take.f bt304.1 bt304.2.1 bt304.2.2).bind fun bt309 => ((hopperref08_Take.f a0_0 a0_1 l0_2).bind fun bt320 => ((hopperlaw08_own.f k a0_0 a0_1 l0_2).bind fun bt331 => ((pipe_Pipe_Close.f bt331.1 bt331.2.1 bt331.2.2).bind fun bt336 => ((hopperref08_Close.f a0_0 a0_1 l0_2).bind fun bt343 => ((pipe_New.f a2).bind fun bt350 => ((hopperref08_New.f a2).bind fun bt357 => ((hopperlaw08_told.f k bt290.1 bt290.2.1 bt290.2.2.1).bind fun bt364 => ((hopperref08_Same.f k bt364.1 bt364.2.1 bt364.2.2 bt297.1 bt297.2.1 bt297.2.2.1).bind fun t369 => (if t369 = true then (if bt290.2.2.2 = bt297.2.2.2 then ((hopperlaw08_told.f k bt309.1 bt309.2.1 bt309.2.2.1).bind fun bt370 => ((hopperref08_Same.f k bt370.1 bt370.2.1 bt370.2.2 bt320.1 bt320.2.1 bt320.2.2.1).bind fun t375 => (if t375 = true then (if (bt309.2.2.2.1 == bt320.2.2.2.1 && (bt309.2.2.2.2.1 == bt320.2.2.2.2.1 && (bt309.2.2.2.2.2.1.toList == bt320.2.2.2.2.2.1.toList))) = true then (if bt309.2.2.2.2.2.2 = bt320.2.2.2.2.2.2 then ((hopperlaw08_told.f k bt336.1 bt336.2.1 bt336.2.2.1).bind fun bt376 => ((hopperref08_Same.f k bt376.1 bt376.2.1 bt376.2.2 bt343.1 bt343.2.1 bt343.2.2.1).bind fun t381 => (if t381 = true then (if bt336.2.2.2 = bt343.2.2.2 then ((hopperlaw08_told.f k bt350.1 bt350.2.1 bt350.2.2.1).bind fun bt382 => ((hopperref08_Same.f k bt382.1 bt382.2.1 bt382.2.2 bt357.1 bt357.2.1 bt357.2.2.1).bind fun t387 => (if t387 = true then (if bt350.2.2.2 = bt357.2.2.2 then ((hopperlaw08_live.f).bind fun t388 => (some t388)) else (some false)) else (some false)))) else (some false)) else (some false)))) else (some false)) else (some false)) else (some false)))) else (some false)) else (some false))))))))))))))) = some true := by rw [if_pos rfl] at H; exact H
    clear H
    have H := H1
    clear H1
    replace H := Option.bind_eq_some_iff.mp H
    obtain ⟨⟨t285, t286, t287⟩, A60, H⟩ := H
    try dsimp only at H
    have A6 := Aside0.mk A60
    clear A60
    replace H := Option.bind_eq_some_iff.mp H
    obtain ⟨⟨t290, t291, t292, t295⟩, A70, H⟩ := H
    try dsimp only at H
    have A7 := Aside0.mk A70
    clear A70
    replace H := Option.bind_eq_some_iff.mp H
    obtain ⟨⟨t297, t298, t299, t302⟩, A80, H⟩ := H
    try dsimp only at H
    have A8 := Aside0.mk A80
    clear A80
    replace H := Option.bind_eq_some_iff.mp H
    obtain ⟨⟨t304, t305, t306⟩, A90, H⟩ := H
    try dsimp only at H
    have A9 := Aside0.mk A90
    clear A90
    replace H := Option.bind_eq_some_iff.mp H
    obtain ⟨⟨t309, t310, t311, t314, t315, t316, t317⟩, A100, H⟩ := H
    try dsimp only at H
    have A10 := Aside0.mk A100
    clear A100
    replace H := Option.bind_eq_some_iff.mp H
    obtain ⟨⟨t320, t321, t322, t325, t326, t327, t328⟩, A110, H⟩ := H
    try dsimp only at H
    have A11 := Aside0.mk A110
    clear A110
    replace H := Option.bind_eq_some_iff.mp H
    obtain ⟨⟨t331, t332, t333⟩, A120, H⟩ := H
    try dsimp only at H
    have A12 := Aside0.mk A120
    clear A120
    replace H := Option.bind_eq_some_iff.mp H
    obtain ⟨⟨t336, t337, t338, t341⟩, A130, H⟩ := H
    try dsimp only at H
    have A13 := Aside0.mk A130
    clear A130
    replace H := Option.bind_eq_some_iff.mp H
    obtain ⟨⟨t343, t344, t345, t348⟩, A140, H⟩ := H
    try dsimp only at H
    have A14 := Aside0.mk A140
    clear A140
    replace H := Option.bind_eq_some_iff.mp H
    obtain ⟨⟨t350, t351, t352, t355⟩, A150, H⟩ := H
    try dsimp only at H
    have A15 := Aside0.mk A150
    clear A150
    replace H := Option.bind_eq_some_iff.mp H
    obtain ⟨⟨t357, t358, t359, t362⟩, A160, H⟩ := H
    try dsimp only at H
    have A16 := Aside0.mk A160
    clear A160
    replace H := Option.bind_eq_some_iff.mp H
    obtain ⟨⟨t364, t365, t366⟩, A170, H⟩ := H
    try dsimp only at H
    have A17 := Aside0.mk A170
    clear A170
    replace H := Option.bind_eq_some_iff.mp H
    obtain ⟨t369, A180, H⟩ := H
    try dsimp only at H
    have A18 := Aside0.mk A180
    clear A180
    by_cases c19 : t369 = true
    rotate_left
    · replace c19 := Bool.eq_false_iff.mpr c19
      subst c19
      have H1 : (some false) = some true := by rw [if_neg (show ¬ (false = true) by decide)] at H; exact H
      clear H
      have H := H1
      clear H1
      exact absurd H (by simp)
    subst c19
    have H1 : (if t295 = t302 then ((hopperlaw08_told.f k t309 t310 t311).bind fun bt370 => ((hopperref08_Same.f k bt370.1 bt370.2.1 bt370.2.2 t320 t321 t322).bind fun t375 => (if t375 = true then (if (t314 == t325 && (t315 == t326 && (t316.toList == t327.toList))) = true then (if t317 = t328 then ((hopperlaw08_told.f k t336 t337 t338).bind fun bt376 => ((hopperref08_Same.f k bt376.1 bt376.2.1 bt376.2.2 t343 t344 t345).bind fun t381 => (if t381 = true then (if t341 = t348 then ((hopperlaw08_told.f k t350 t351 t352).bind fun bt382 => ((hopperref08_Same.f k bt382.1 bt382.2.1 bt382.2.2 t357 t358 t359).bind fun t387 => (if t387 = true then (if t355 = t362 then ((hopperlaw08_live.f).bind fun t388 => (some t388)) else (some false)) else (some false)))) else (some false)) else (some false)))) else (some false)) else (some false)) else (some false)))) else (some false)) = some true := by rw [if_pos rfl] at H; exact H
    clear H
    have H := H1
    clear H1
    by_cases c20 : t295 = t302
    rotate_left
    · rw [if_neg c20] at H
      have c20b0 : (t295 == t302) = false := beq_eq_false_iff_ne.mpr c20
      have c20b1 : (t295 != t302) = true := bne_iff_ne.mpr c20
      exact absurd H (by simp)
    rw [if_pos c20] at H
    have c20b0 : (t295 == t302) = true := beq_iff_eq.mpr c20
    have c20b1 : (t295 != t302) = false := bne_eq_false_iff_eq.mpr c20
    clear c20
    replace H := Option.bind_eq_some_iff.mp H
    obtain ⟨⟨t370, t371, t372⟩, A210, H⟩ := H
    try dsimp only at H
    have A21 := Aside0.mk A210
    clear A210
    replace H := Option.bind_eq_some_iff.mp H
    obtain ⟨t375, A220, H⟩ := H
    try dsimp only at H
    have A22 := Aside0.mk A220
    clear A220
    by_cases c23 : t375 = true
    rotate_left
    · replace c23 := Bool.eq_false_iff.mpr c23
      subst c23
      have H1 : (some false) = some true := by rw [if_neg (show ¬ (false = true) by decide)] at H; exact H
      clear H
      have H := H1
      clear H1
      exact absurd H (by simp)
    subst c23
    have H1 : (if (t314 == t325 && (t315 == t326 && (t316.toList == t327.toList))) = true then (if t317 = t328 then ((hopperlaw08_told.f k t336 t337 t338).bind fun bt376 => ((hopperref08_Same.f k bt376.1 bt376.2.1 bt376.2.2 t343 t344 t345).bind fun t381 => (if t381 = true then (if t341 = t348 then ((hopperlaw08_told.f k t350 t351 t352).bind fun bt382 => ((hopperref08_Same.f k bt382.1 bt382.2.1 bt382.2.2 t357 t358 t359).bind fun t387 => (if t387 = true then (if t355 = t362 then ((hopperlaw08_live.f).bind fun t388 => (some t388)) else (some false)) else (some false)))) else (some false)) else (some false)))) else (some false)) else (some false)) = some true := by rw [if_pos rfl] at H; exact H
    clear H
    have H := H1
    clear H1
    by_cases c24 : (t314 == t325 && (t315 == t326 && (t316.toList == t327.toList))) = true
    rotate_left
    · rw [if_neg c24] at H
      have c24b0 : (t314 == t325 && (t315 == t326 && (t316.toList == t327.toList))) = false := by simpa using c24
      (try (have c24q : (t314 = t325 ∧ t315 = t326 ∧ t316.toList = t327.toList) = False := eq_false (fun ⟨h0_, h1_, h2_⟩ => by simp [h0_, h1_, h2_] at c24b0)))
      (try (have c24b1 : decide (t314 = t325 && (t315 == t326 && (t316.toList == t327.toList))) = false := by simpa using c24))
      (try (have c24b2 : (t314 == t325 && (t315 == t326 && (t316.toList == t327.toList))) = false := by simpa using c24))
      (try (have c24b3 : ¬ (t314 = t325 && (t315 == t326 && (t316.toList == t327.toList))) := by simpa using c24))
      clear c24
      exact absurd H (by simp)
    rw [if_pos c24] at H
    have c24b0 : (t314 == t325 && (t315 == t326 && (t316.toList == t327.toList))) = true := c24
    (try (have c24q : (t314 = t325 ∧ t315 = t326 ∧ t316.toList = t327.toList) = True := eq_true (by simpa using c24b0)))
    (try (have c24b1 : decide (t314 = t325 && (t315 == t326 && (t316.toList == t327.toList))) = true := by simpa using c24))
    (try (have c24b2 : (t314 == t325 && (t315 == t326 && (t316.toList == t327.toList))) = true := by simpa using c24))
    clear c24
    by_cases c25 : t317 = t328
    rotate_left
    · rw [if_neg c25] at H
      have c25b0 : (t317 == t328) = false := beq_eq_false_iff_ne.mpr c25
      have c25b1 : (t317 != t328) = true := bne_iff_ne.mpr c25
      exact absurd H (by simp)
    rw [if_pos c25] at H
    have c25b0 : (t317 == t328) = true := beq_iff_eq.mpr c25
    have c25b1 : (t317 != t328) = false := bne_eq_false_iff_eq.mpr c25
    clear c25
    replace H := Option.bind_eq_some_iff.mp H
    obtain ⟨⟨t376, t377, t378⟩, A260, H⟩ := H
    try dsimp only at H
    have A26 := Aside0.mk A260
    clear A260
    replace H := Option.bind_eq_some_iff.mp H
    obtain ⟨t381, A270, H⟩ := H
    try dsimp only at H
    have A27 := Aside0.mk A270
    clear A270
    by_cases c28 : t381 = true
    rotate_left
    · replace c28 := Bool.eq_false_iff.mpr c28
      subst c28
      have H1 : (some false) = some true := by rw [if_neg (show ¬ (false = true) by decide)] at H; exact H
      clear H
      have H := H1
      clear H1
      exact absurd H (by simp)
    subst c28
    have H1 : (if t341 = t348 then ((hopperlaw08_told.f k t350 t351 t352).bind fun bt382 => ((hopperref08_Same.f k bt382.1 bt382.2.1 bt382.2.2 t357 t358 t359).bind fun t387 => (if t387 = true then (if t355 = t362 then ((hopperlaw08_live.f).bind fun t388 => (some t388)) else (some false)) else (some false)))) else (some false)) = some true := by rw [if_pos rfl] at H; exact H
    clear H
    have H := H1
    clear H1
    by_cases c29 : t341 = t348
    rotate_left
    · rw [if_neg c29] at H
      have c29b0 : (t341 == t348) = false := beq_eq_false_iff_ne.mpr c29
      have c29b1 : (t341 != t348) = true := bne_iff_ne.mpr c29
      exact absurd H (by simp)
    rw [if_pos c29] at H
    have c29b0 : (t341 == t348) = true := beq_iff_eq.mpr c29
    have c29b1 : (t341 != t348) = false := bne_eq_false_iff_eq.mpr c29
    clear c29
    replace H := Option.bind_eq_some_iff.mp H
    obtain ⟨⟨t382, t383, t384⟩, A300, H⟩ := H
    try dsimp only at H
    have A30 := Aside0.mk A300
    clear A300
    replace H := Option.bind_eq_some_iff.mp H
    obtain ⟨t387, A310, H⟩ := H
    try dsimp only at H
    have A31 := Aside0.mk A310
    clear A310
    by_cases c32 : t387 = true
    rotate_left
    · replace c32 := Bool.eq_false_iff.mpr c32
      subst c32
      have H1 : (some false) = some true := by rw [if_neg (show ¬ (false = true) by decide)] at H; exact H
      clear H
      have H := H1
      clear H1
      exact absurd H (by simp)
    subst c32
    have H1 : (if t355 = t362 then ((hopperlaw08_live.f).bind fun t388 => (some t388)) else (some false)) = some true := by rw [if_pos rfl] at H; exact H
    clear H
    have H := H1
    clear H1
    by_cases c33 : t355 = t362
    rotate_left
    · rw [if_neg c33] at H
      have c33b0 : (t355 == t362) = false := beq_eq_false_iff_ne.mpr c33
      have c33b1 : (t355 != t362) = true := bne_iff_ne.mpr c33
      exact absurd H (by simp)
    rw [if_pos c33] at H
    have c33b0 : (t355 == t362) = true := beq_iff_eq.mpr c33
    have c33b1 : (t355 != t362) = false := bne_eq_false_iff_eq.mpr c33
    clear c33
    replace H := Option.bind_eq_some_iff.mp H
    obtain ⟨t388, A340, H⟩ := H
    try dsimp only at H
    have A34 := Aside0.mk A340
    clear A340
    have HR_ := Aside0.mk (Option.some.inj H)
    clear H
    go_enter Try.func3, Try.ntmps3
    try go_wp2_with (first | ((with_reducible refine gate_dst (N := 3) rfl ?_); refine box_event ?hg (N := 3) ?hd (cs := #[.int .i64 a0_0, .bool a0_1, .slice A0_2 l0_2.length c0_2]) (t := 24) ?hr ?_; (case hd => rfl); (case hg => rfl); (case hr => first | (go_simp; done) | (go_simp; rfl)); intro gb281 hg w35 hbox hb; have BK281 := Aside0.mk (hbox); have GW281 := Aside0.mk (ge1 hg (LA HB.out)); have GE281 := Aside0.mk (ge1 hg (LA HB.out)); replace HB := Aside0.mk (below_step (LA HB.out) hb); clear hb hbox hg) | ((with_reducible refine gate_dst (N := 4) rfl ?_); refine box_event ?hg (N := 4) ?hd (cs := #[.int .i64 a1_0, .int .i64 a1_1, .string a1_2]) (t := 26) ?hr ?_; (case hd => rfl); (case hg => rfl); (case hr => first | (go_simp; done) | (go_simp; rfl)); intro gb282 hg w36 hbox hb; have BK282 := Aside0.mk (hbox); have GW282 := Aside0.mk (ge1 hg (LA HB.out)); have GE282 := Aside0.mk (ge1 hg (LA HB.out)); replace HB := Aside0.mk (below_step (LA HB.out) hb); have NB281_282 := Aside0.mk ((by rw [hg]; exact Nat.ne_of_lt (blk_lt (g := gb281) (o := .cells #[.int .i64 a0_0, .bool a0_1, .slice A0_2 l0_2.length c0_2] 24 (0, 0)) (BA BK281.out)) : gb281 ≠ gb282)); have NB282_281 := Aside0.mk ((by rw [hg]; exact Nat.ne_of_gt (blk_lt (g := gb281) (o := .cells #[.int .i64 a0_0, .bool a0_1, .slice A0_2 l0_2.length c0_2] 24 (0, 0)) (BA BK281.out)) : gb282 ≠ gb281)); replace BK281 := Aside0.mk (blk_below (BA BK281.out) hb); clear hb hbox hg; have hnb37 := NB281_282.out; have hnc37 := NB282_281.out; obtain ⟨hcz38_0, hcz38_1, hcz38_2, hfz38_0, hfz38_1, hfz38_2⟩ := cz3 BK281.out) | ((with_reducible refine gate_callee (f := 7) rfl ?_); refine goesL_ (some 26) rfl rfl Try.func7 (by kernel_rfl) rfl #[.agg #[.int .i64 a0_0, .bool a0_1, .slice A0_2 l0_2.length c0_2]] rfl (by (try simp only [List.map_toArray, List.map_cons, List.map_nil]); first | done | rfl | (simp only [List.length_drop, List.length_take]; rfl)) ?_; (with_reducible refine (hopperref08_Small.calls a0_0 a0_1 _ _ l0_2 true _ ?side1 ?side2 A4.out).mono ?_); (case side1 => exact Kd.CA (Kd.C_below HR0_2.out HB.out)); (case side2 => exact HC0_2.out); rintro e w39 ⟨rfl, hb⟩; refine ⟨_, rfl, ?_⟩; replace BK281 := Aside0.mk (blk_below (BA BK281.out) hb); replace BK282 := Aside0.mk (blk_below (BA BK282.out) hb); replace HB := Aside0.mk (below_step (LA HB.out) hb); (try clear hb); (try clear hb2); (try clear hk); (try clear hi)))
    have n0_ := Aside0.mk (blk_drew BK281.out)
    have n1_ := Aside0.mk (blk_drew BK282.out)
    have n2_ := Aside0.mk (below_drew1 HB.out)
    clear BK281
    clear BK282
    clear HB
    have BK281 := n0_
    have BK282 := n1_
    have HB := n2_
    clear n0_ n1_ n2_
    refine start_ (n := 10) (S := fun w' => w'.cell? ⟨gb281, 0, none⟩ = some (.int .i64 a0_0) ∧ w'.cell? ⟨gb281, 1, none⟩ = some (.bool a0_1) ∧ w'.cell? ⟨gb281, 2, none⟩ = some (.slice A0_2 l0_2.length c0_2) ∧ w'.cell? ⟨gb282, 0, none⟩ = some (.int .i64 a1_0) ∧ w'.cell? ⟨gb282, 1, none⟩ = some (.int .i64 a1_1) ∧ w'.cell? ⟨gb282, 2, none⟩ = some (.string a1_2)) (ds := []) (tf 0 10) (by kernel_rfl) rfl rfl ⟨(blk_cell BK281.out 0).trans rfl, (blk_cell BK281.out 1).trans rfl, (blk_cell BK281.out 2).trans rfl, (blk_cell BK282.out 0).trans rfl, (blk_cell BK282.out 1).trans rfl, (blk_cell BK282.out 2).trans rfl⟩ (fun hHeld => ?_); refine with_tabW hopperlaw08_PipeTells.tab3 hopperlaw08_PipeTells.bits3 (fun HT_ HW_ => ?_)
    generalize w39.drew = w40 at BK281 BK282 HB hHeld ⊢
    refine take_ (i := 0) (N := some 30) (v := ?_) (a' := ?_) (tf 1 10) rfl rfl (take_ofW HT_.out HW_.out (by kernel_rfl)) (fun _ _ _ h => h) (Or.inl ⟨by rfl, ?_⟩) hHeld ?_ ?_
    rotate_left
    · rintro w' ⟨s0, s1, s2, s3, s4, s5⟩
      go_simp
      with_reducible rfl
    rotate_left
    · simp only [Act.put, PU, i64_w, i32_w]
      rfl
    refine take_ (i := 2) (N := some 32) (v := ?_) (a' := ?_) #[true, false, true, false, false, false, false, false, false, false] rfl rfl (take_ofW HT_.out HW_.out (by kernel_rfl)) (fun _ _ _ h => h) (Or.inl ⟨by rfl, ?_⟩) hHeld ?_ ?_
    rotate_left
    · rintro w' ⟨s0, s1, s2, s3, s4, s5⟩
      go_simp
      with_reducible rfl
    rotate_left
    · simp only [Act.put, PU, i64_w, i32_w]
      rfl
    refine join_ (σ := Value × Value × Nat) 2 (tf 8 10) (fun s_ => [(31, .agg #[.int .i64 t285, .bool t286, s_.1]), (33, .tuple #[.agg #[.int .i64 t290, .bool t291, s_.2.1], .int .i64 t295]), (7, .pointer (some ⟨s_.2.2, 0, none⟩)), (29, .tuple #[.agg #[.int .i64 t290, .bool t291, s_.2.1], .int .i64 t295]), (34, .agg #[.int .i64 t290, .bool t291, s_.2.1]), (35, .int .i64 t295)]) (fun s_ w' => (w'.cell? ⟨gb281, 0, none⟩ = some (.int .i64 a0_0) ∧ w'.cell? ⟨gb281, 1, none⟩ = some (.bool a0_1) ∧ w'.cell? ⟨gb281, 2, none⟩ = some (.slice A0_2 l0_2.length c0_2) ∧ w'.cell? ⟨gb282, 0, none⟩ = some (.int .i64 a1_0) ∧ w'.cell? ⟨gb282, 1, none⟩ = some (.int .i64 a1_1) ∧ w'.cell? ⟨gb282, 2, none⟩ = some (.string a1_2)) ∧ (Kd.R k36 36 w' w.heap.size (fun _ => True) s_.1 t287) ∧ (Kd.V k36 36 w' w.heap.size (fun k_ => k_ ≠ gb281 ∧ k_ ≠ gb282 ∧ k_ ≠ s_.2.2) s_.2.1 t292) ∧ (w'.heap[gb281]? = some (.cells #[.int .i64 a0_0, .bool a0_1, .slice A0_2 l0_2.length c0_2] 24 (0, 0))) ∧ (w'.heap[gb282]? = some (.cells #[.int .i64 a1_0, .int .i64 a1_1, .string a1_2] 26 (0, 0))) ∧ (w'.heap[s_.2.2]? = some (.cells #[.int .i64 0, .bool false, .slice none 0 0] 31 (0, 0))) ∧ (w.heap.size ≤ s_.2.2) ∧ (w.heap.size ≤ s_.2.2) ∧ (gb281 ≠ s_.2.2) ∧ (s_.2.2 ≠ gb281) ∧ (gb282 ≠ s_.2.2) ∧ (s_.2.2 ≠ gb282) ∧ (Below w.heap.size w w')) ?_ ?_
    rotate_left
    · intro hCont
      refine two_ (i := 1) (j := 7) (Ni := some 31) (Nj := some 7) (tf 3 10) #[true, false, true, false, false, false, false, true, false, false] rfl rfl rfl rfl (two_of HT_.out (by kernel_rfl)) (by decide) (by decide) (fun K hK => ?_) (fun K hK => ?_)
      · skip
        refine goes_ Try.func9 (by kernel_rfl) rfl #[.agg #[.int .i64 a0_0, .bool a0_1, .slice A0_2 l0_2.length c0_2]] (by rfl) rfl rfl (by (try simp only [List.map_toArray, List.map_cons, List.map_nil]); first | done | rfl | (simp only [List.length_drop, List.length_take]; rfl)) ?_
        with_reducible refine (hopperlaw08_own.calls k a0_0 a0_1 _ _ l0_2 t285 t286 t287 _ ?side1 ?side2 A6.out).mono ?_
        (case side1 => exact Kd.CA (Kd.C_below HR0_2.out HB.out))
        (case side2 => exact HC0_2.out)
        rintro e w41 ⟨v288, rfl, ho0, hb⟩
        refine ⟨_, rfl, ?_⟩
        have n0_ := Aside0.mk (Kd.R_lower ho0 (below_size (LG HB.out (G1 GE281.out (G1 GE282.out G0)))))
        have n1_ := Aside0.mk (blk_below (BA BK281.out) hb)
        have n2_ := Aside0.mk (blk_below (BA BK282.out) hb)
        have n3_ := Aside0.mk (below_step (LG HB.out (G1 GE281.out (G1 GE282.out G0))) hb)
        clear BK281
        clear BK282
        clear HB
        have HO289 := n0_
        have BK281 := n1_
        have BK282 := n2_
        have HB := n3_
        clear n0_ n1_ n2_ n3_
        (try clear hb)
        (try clear hb2)
        (try clear hk)
        (try clear hi)
        (try clear ho0)
        obtain ⟨Ao42, co42, eo42⟩ := Kd.R_slice HO289.out
        (first | subst eo42 | (injection eo42 with f1_ f2_ f3_; have f4_ := f1_.symm; have f5_ := f3_.symm; clear f1_ f2_ f3_; subst f4_; subst f5_))
        refine hK.out _ _ ⟨(blk_cell BK281.out 0).trans rfl, (blk_cell BK281.out 1).trans rfl, (blk_cell BK281.out 2).trans rfl, (blk_cell BK282.out 0).trans rfl, (blk_cell BK282.out 1).trans rfl, (blk_cell BK282.out 2).trans rfl⟩ (fun hHeld => ?_)
        clear hK K
        refine norm_ (a' := ?_) ?_ ?_
        rotate_left
        · show Act.put _ (some 31) _ = _
          simp only [Act.put, PU, i64_w, i32_w]
          rfl
        refine two_ (i := 3) (j := 7) (Ni := some 33) (Nj := some 7) (tf 4 10) #[true, true, true, false, false, false, false, true, false, false] rfl rfl rfl rfl (two_of HT_.out (by kernel_rfl)) (by decide) (by decide) (fun K hK => ?_) (fun K hK => ?_)
        · skip
          refine goes_ Try.func10 (by kernel_rfl) rfl #[.agg #[.int .i64 t285, .bool t286, .slice Ao42 t287.length co42], .agg #[.int .i64 a1_0, .int .i64 a1_1, .string a1_2]] (by rfl) rfl rfl (by (try simp only [List.map_toArray, List.map_cons, List.map_nil]); first | done | rfl | (simp only [List.length_drop, List.length_take]; rfl)) ?_
          with_reducible refine (pipe_Pipe_Send.calls t285 t286 (fun k_ => some k_ = (.slice Ao42 t287.length co42 : Value).ownBlock) _ _ t287 a1_0 a1_1 a1_2 t290 t291 t292 t295 _ ?side1 A7.out).mono ?_
          (case side1 => exact Kd.R_V (Kd.R_tight rfl (Kd.R_types (Kd.R_types (HO289.out) BK281.out (by decide)) BK282.out (by decide))))
          rintro e w43 ⟨v293, rfl, ho0, hb⟩
          refine ⟨_, rfl, ?_⟩
          have n0_ := Aside0.mk (Kd.R_below (Kd.RA HO289.out) hb)
          have n1_ := Aside0.mk (Kd.V_lower (Kd.V_mono (ok' := fun k_ => k_ ≠ gb281 ∧ k_ ≠ gb282) ho0 (fun k_ hk_ => ⟨Or.elim hk_ (fun hs_ => ((Kd.R_types (Kd.R_types (HO289.out) BK281.out (by decide)) BK282.out (by decide)).1 k_ hs_.symm).1.2) (fun hn_ => (Kd.freshB (g := gb281) (o := .cells #[.int .i64 a0_0, .bool a0_1, .slice A0_2 l0_2.length c0_2] 24 (0, 0)) (BA BK281.out) k_ hn_)), Or.elim hk_ (fun hs_ => ((Kd.R_types (Kd.R_types (HO289.out) BK281.out (by decide)) BK282.out (by decide)).1 k_ hs_.symm).2) (fun hn_ => (Kd.freshB (g := gb282) (o := .cells #[.int .i64 a1_0, .int .i64 a1_1, .string a1_2] 26 (0, 0)) (BA BK282.out) k_ hn_))⟩)) (below_size (LG HB.out (G1 GE281.out (G1 GE282.out G0)))))
          have n2_ := Aside0.mk (blk_below (BA BK281.out) hb)
          have n3_ := Aside0.mk (blk_below (BA BK282.out) hb)
          have n4_ := Aside0.mk (below_step (LG HB.out (G1 GE281.out (G1 GE282.out G0))) hb)
          clear HO289
          clear BK281
          clear BK282
          clear HB
          have HO289 := n0_
          have HO294 := n1_
          have BK281 := n2_
          have BK282 := n3_
          have HB := n4_
          clear n0_ n1_ n2_ n3_ n4_
          (try clear hb)
          (try clear hb2)
          (try clear hk)
          (try clear hi)
          (try clear ho0)
          refine hK.out _ _ ⟨(blk_cell BK281.out 0).trans rfl, (blk_cell BK281.out 1).trans rfl, (blk_cell BK281.out 2).trans rfl, (blk_cell BK282.out 0).trans rfl, (blk_cell BK282.out 1).trans rfl, (blk_cell BK282.out 2).trans rfl⟩ (fun hHeld => ?_)
          clear hK K
          refine norm_ (a' := ?_) ?_ ?_
          rotate_left
          · show Act.put _ (some 33) _ = _
            simp only [Act.put, PU, i64_w, i32_w]
            rfl
          refine pure_ (i := 4) (N := some 29) (v := ?_) (a' := ?_) (tf 5 10) rfl rfl (any_of HT_.out (by kernel_rfl)) (fun _ _ _ h => h) (Or.inl ⟨by rfl, ?_⟩) ?_ ?_
          rotate_left
          · intro w'
            go_simp
            with_reducible rfl
          rotate_left
          · simp only [Act.put, PU, i64_w, i32_w]
            rfl
          refine pure_ (i := 5) (N := some 34) (v := ?_) (a' := ?_) (tf 6 10) rfl rfl (any_of HT_.out (by kernel_rfl)) (fun _ _ _ h => h) (Or.inl ⟨by rfl, ?_⟩) ?_ ?_
          rotate_left
          · intro w'
            go_simp
            with_reducible rfl
          rotate_left
          · simp only [Act.put, PU, i64_w, i32_w]
            rfl
          refine pure_ (i := 6) (N := some 35) (v := ?_) (a' := ?_) (tf 7 10) rfl rfl (any_of HT_.out (by kernel_rfl)) (fun _ _ _ h => h) (Or.inl ⟨by rfl, ?_⟩) ?_ ?_
          rotate_left
          · intro w'
            go_simp
            with_reducible rfl
          rotate_left
          · simp only [Act.put, PU, i64_w, i32_w]
            rfl
          refine one_ (i := 7) (N := some 7) (tf 8 10) rfl rfl (one_of HT_.out (by kernel_rfl)) (by decide) (fun K hK => ?_)
          refine box_step ?hg (N := 7) ?hd (cs := #[.int .i64 0, .bool false, .slice none 0 0]) (t := 31) ?hr ?_; (case hd => rfl); (case hg => rfl); (case hr => first | (go_simp; done) | (go_simp; rfl))
          intro gb296 hg w44 hbox hb
          have n0_ := Aside0.mk (Kd.R_below (Kd.RA HO289.out) hb)
          have n1_ := Aside0.mk (Kd.V_below (Kd.V_elderB (Kd.VA HO294.out) gb296 (Nat.le_of_eq hg.symm)) hb)
          have n2_ := Aside0.mk (blk_below (BA BK281.out) hb)
          have n3_ := Aside0.mk (blk_below (BA BK282.out) hb)
          have n4_ := Aside0.mk (below_step (LG HB.out (G1 GE281.out (G1 GE282.out G0))) hb)
          have n5_ := Aside0.mk (hbox)
          have n6_ := Aside0.mk (ge1 hg (LG HB.out (G1 GE281.out (G1 GE282.out G0))))
          have n7_ := Aside0.mk (ge1 hg (LG HB.out (G1 GE281.out (G1 GE282.out G0))))
          have n8_ := Aside0.mk ((by rw [hg]; exact Nat.ne_of_lt (blk_lt (g := gb281) (o := .cells #[.int .i64 a0_0, .bool a0_1, .slice A0_2 l0_2.length c0_2] 24 (0, 0)) (BA BK281.out)) : gb281 ≠ gb296))
          have n9_ := Aside0.mk ((by rw [hg]; exact Nat.ne_of_gt (blk_lt (g := gb281) (o := .cells #[.int .i64 a0_0, .bool a0_1, .slice A0_2 l0_2.length c0_2] 24 (0, 0)) (BA BK281.out)) : gb296 ≠ gb281))
          have n10_ := Aside0.mk ((by rw [hg]; exact Nat.ne_of_lt (blk_lt (g := gb282) (o := .cells #[.int .i64 a1_0, .int .i64 a1_1, .string a1_2] 26 (0, 0)) (BA BK282.out)) : gb282 ≠ gb296))
          have n11_ := Aside0.mk ((by rw [hg]; exact Nat.ne_of_gt (blk_lt (g := gb282) (o := .cells #[.int .i64 a1_0, .int .i64 a1_1, .string a1_2] 26 (0, 0)) (BA BK282.out)) : gb296 ≠ gb282))
          clear HO289
          clear HO294
          clear BK281
          clear BK282
          clear HB
          have HO289 := n0_
          have HO294 := n1_
          have BK281 := n2_
          have BK282 := n3_
          have HB := n4_
          have BK296 := n5_
          have GW296 := n6_
          have GE296 := n7_
          have NB281_296 := n8_
          have NB296_281 := n9_
          have NB282_296 := n10_
          have NB296_282 := n11_
          clear n0_ n1_ n2_ n3_ n4_ n5_ n6_ n7_ n8_ n9_ n10_ n11_
          clear hb hbox hg
          refine hK.out _ _ ⟨(blk_cell BK281.out 0).trans rfl, (blk_cell BK281.out 1).trans rfl, (blk_cell BK281.out 2).trans rfl, (blk_cell BK282.out 0).trans rfl, (blk_cell BK282.out 1).trans rfl, (blk_cell BK282.out 2).trans rfl⟩ (fun hHeld => ?_)
          clear hK K
          refine norm_ (a' := ?_) ?_ ?_
          rotate_left
          · show Act.put _ (some 7) _ = _
            simp only [Act.put, PU, i64_w, i32_w]
            rfl
          exact norm_ (by simp only [putAll, Act.put, PU]) (hCont (.slice Ao42 t287.length co42, v293, gb296) _ ⟨hHeld, (Kd.RA HO289.out), (Kd.VA (Kd.V_mono HO294.out (fun _ hk => ⟨hk.1.1, ⟨hk.1.2, hk.2⟩⟩))), (BA BK281.out), (BA BK282.out), (BA BK296.out), GW296.out, GE296.out, NB281_296.out, NB296_281.out, NB282_296.out, NB296_282.out, (LG HB.out (G1 GE281.out (G1 GE282.out (G1 GE296.out G0))))⟩)
        · skip
          refine box_step ?hg (N := 7) ?hd (cs := #[.int .i64 0, .bool false, .slice none 0 0]) (t := 31) ?hr ?_; (case hd => rfl); (case hg => rfl); (case hr => first | (go_simp; done) | (go_simp; rfl))
          intro gb296 hg w42 hbox hb
          have n0_ := Aside0.mk (Kd.R_below (Kd.RA HO289.out) hb)
          have n1_ := Aside0.mk (blk_below (BA BK281.out) hb)
          have n2_ := Aside0.mk (blk_below (BA BK282.out) hb)
          have n3_ := Aside0.mk (below_step (LG HB.out (G1 GE281.out (G1 GE282.out G0))) hb)
          have n4_ := Aside0.mk (hbox)
          have n5_ := Aside0.mk (ge1 hg (LG HB.out (G1 GE281.out (G1 GE282.out G0))))
          have n6_ := Aside0.mk (ge1 hg (LG HB.out (G1 GE281.out (G1 GE282.out G0))))
          have n7_ := Aside0.mk ((by rw [hg]; exact Nat.ne_of_lt (blk_lt (g := gb281) (o := .cells #[.int .i64 a0_0, .bool a0_1, .slice A0_2 l0_2.length c0_2] 24 (0, 0)) (BA BK281.out)) : gb281 ≠ gb296))
          have n8_ := Aside0.mk ((by rw [hg]; exact Nat.ne_of_gt (blk_lt (g := gb281) (o := .cells #[.int .i64 a0_0, .bool a0_1, .slice A0_2 l0_2.length c0_2] 24 (0, 0)) (BA BK281.out)) : gb296 ≠ gb281))
          have n9_ := Aside0.mk ((by rw [hg]; exact Nat.ne_of_lt (blk_lt (g := gb282) (o := .cells #[.int .i64 a1_0, .int .i64 a1_1, .string a1_2] 26 (0, 0)) (BA BK282.out)) : gb282 ≠ gb296))
          have n10_ := Aside0.mk ((by rw [hg]; exact Nat.ne_of_gt (blk_lt (g := gb282) (o := .cells #[.int .i64 a1_0, .int .i64 a1_1, .string a1_2] 26 (0, 0)) (BA BK282.out)) : gb296 ≠ gb282))
          clear HO289
          clear BK281
          clear BK282
          clear HB
          have HO289 := n0_
          have BK281 := n1_
          have BK282 := n2_
          have HB := n3_
          have BK296 := n4_
          have GW296 := n5_
          have GE296 := n6_
          have NB281_296 := n7_
          have NB296_281 := n8_
          have NB282_296 := n9_
          have NB296_282 := n10_
          clear n0_ n1_ n2_ n3_ n4_ n5_ n6_ n7_ n8_ n9_ n10_
          clear hb hbox hg
          obtain ⟨Ao43, co43, eo43⟩ := Kd.R_slice HO289.out
          (first | subst eo43 | (injection eo43 with f1_ f2_ f3_; have f4_ := f1_.symm; have f5_ := f3_.symm; clear f1_ f2_ f3_; subst f4_; subst f5_))
          refine hK.out _ _ ⟨(blk_cell BK281.out 0).trans rfl, (blk_cell BK281.out 1).trans rfl, (blk_cell BK281.out 2).trans rfl, (blk_cell BK282.out 0).trans rfl, (blk_cell BK282.out 1).trans rfl, (blk_cell BK282.out 2).trans rfl⟩ (fun hHeld => ?_)
          clear hK K
          refine norm_ (a' := ?_) ?_ ?_
          rotate_left
          · show Act.put _ (some 7) _ = _
            simp only [Act.put, PU, i64_w, i32_w]
            rfl
          refine one_ (i := 3) (N := some 33) #[true, true, true, true, false, false, false, true, false, false] rfl rfl (one_of HT_.out (by kernel_rfl)) (by decide) (fun K hK => ?_)
          refine goes_ Try.func10 (by kernel_rfl) rfl #[.agg #[.int .i64 t285, .bool t286, .slice Ao43 t287.length co43], .agg #[.int .i64 a1_0, .int .i64 a1_1, .string a1_2]] (by rfl) rfl rfl (by (try simp only [List.map_toArray, List.map_cons, List.map_nil]); first | done | rfl | (simp only [List.length_drop, List.length_take]; rfl)) ?_
          with_reducible refine (pipe_Pipe_Send.calls t285 t286 (fun k_ => some k_ = (.slice Ao43 t287.length co43 : Value).ownBlock) _ _ t287 a1_0 a1_1 a1_2 t290 t291 t292 t295 _ ?side1 A7.out).mono ?_
          (case side1 => exact Kd.R_V (Kd.R_tight rfl (Kd.R_types (Kd.R_types (Kd.R_types (HO289.out) BK281.out (by decide)) BK282.out (by decide)) BK296.out (by decide))))
          rintro e w44 ⟨v293, rfl, ho0, hb⟩
          refine ⟨_, rfl, ?_⟩
          have n0_ := Aside0.mk (Kd.R_below (Kd.RA HO289.out) hb)
          have n1_ := Aside0.mk (Kd.V_lower (Kd.V_mono (ok' := fun k_ => k_ ≠ gb281 ∧ k_ ≠ gb282 ∧ k_ ≠ gb296) ho0 (fun k_ hk_ => ⟨Or.elim hk_ (fun hs_ => ((Kd.R_types (Kd.R_types (Kd.R_types (HO289.out) BK281.out (by decide)) BK282.out (by decide)) BK296.out (by decide)).1 k_ hs_.symm).1.1.2) (fun hn_ => (Kd.freshB (g := gb281) (o := .cells #[.int .i64 a0_0, .bool a0_1, .slice A0_2 l0_2.length c0_2] 24 (0, 0)) (BA BK281.out) k_ hn_)), Or.elim hk_ (fun hs_ => ((Kd.R_types (Kd.R_types (Kd.R_types (HO289.out) BK281.out (by decide)) BK282.out (by decide)) BK296.out (by decide)).1 k_ hs_.symm).1.2) (fun hn_ => (Kd.freshB (g := gb282) (o := .cells #[.int .i64 a1_0, .int .i64 a1_1, .string a1_2] 26 (0, 0)) (BA BK282.out) k_ hn_)), Or.elim hk_ (fun hs_ => ((Kd.R_types (Kd.R_types (Kd.R_types (HO289.out) BK281.out (by decide)) BK282.out (by decide)) BK296.out (by decide)).1 k_ hs_.symm).2) (fun hn_ => (Kd.freshB (g := gb296) (o := .cells #[.int .i64 0, .bool false, .slice none 0 0] 31 (0, 0)) (BA BK296.out) k_ hn_))⟩)) (below_size (LG HB.out (G1 GE281.out (G1 GE282.out (G1 GE296.out G0))))))
          have n2_ := Aside0.mk (blk_below (BA BK281.out) hb)
          have n3_ := Aside0.mk (blk_below (BA BK282.out) hb)
          have n4_ := Aside0.mk (blk_below (BA BK296.out) hb)
          have n5_ := Aside0.mk (below_step (LG HB.out (G1 GE281.out (G1 GE282.out (G1 GE296.out G0)))) hb)
          clear HO289
          clear BK281
          clear BK282
          clear BK296
          clear HB
          have HO289 := n0_
          have HO294 := n1_
          have BK281 := n2_
          have BK282 := n3_
          have BK296 := n4_
          have HB := n5_
          clear n0_ n1_ n2_ n3_ n4_ n5_
          (try clear hb)
          (try clear hb2)
          (try clear hk)
          (try clear hi)
          (try clear ho0)
          refine hK.out _ _ ⟨(blk_cell BK281.out 0).trans rfl, (blk_cell BK281.out 1).trans rfl, (blk_cell BK281.out 2).trans rfl, (blk_cell BK282.out 0).trans rfl, (blk_cell BK282.out 1).trans rfl, (blk_cell BK282.out 2).trans rfl⟩ (fun hHeld => ?_)
          clear hK K
          refine norm_ (a' := ?_) ?_ ?_
          rotate_left
          · show Act.put _ (some 33) _ = _
            simp only [Act.put, PU, i64_w, i32_w]
            rfl
          refine pure_ (i := 4) (N := some 29) (v := ?_) (a' := ?_) #[true, true, true, true, true, false, false, true, false, false] rfl rfl (any_of HT_.out (by kernel_rfl)) (fun _ _ _ h => h) (Or.inl ⟨by rfl, ?_⟩) ?_ ?_
          rotate_left
          · intro w'
            go_simp
            with_reducible rfl
          rotate_left
          · simp only [Act.put, PU, i64_w, i32_w]
            rfl
          refine pure_ (i := 5) (N := some 34) (v := ?_) (a' := ?_) #[true, true, true, true, true, true, false, true, false, false] rfl rfl (any_of HT_.out (by kernel_rfl)) (fun _ _ _ h => h) (Or.inl ⟨by rfl, ?_⟩) ?_ ?_
          rotate_left
          · intro w'
            go_simp
            with_reducible rfl
          rotate_left
          · simp only [Act.put, PU, i64_w, i32_w]
            rfl
          refine pure_ (i := 6) (N := some 35) (v := ?_) (a' := ?_) (tf 8 10) rfl rfl (any_of HT_.out (by kernel_rfl)) (fun _ _ _ h => h) (Or.inl ⟨by rfl, ?_⟩) ?_ ?_
          rotate_left
          · intro w'
            go_simp
            with_reducible rfl
          rotate_left
          · simp only [Act.put, PU, i64_w, i32_w]
            rfl
          exact norm_ (by simp only [putAll, Act.put, PU]) (hCont (.slice Ao43 t287.length co43, v293, gb296) _ ⟨hHeld, (Kd.RA HO289.out), (Kd.VA HO294.out), (BA BK281.out), (BA BK282.out), (BA BK296.out), GW296.out, GE296.out, NB281_296.out, NB296_281.out, NB282_296.out, NB296_282.out, (LG HB.out (G1 GE281.out (G1 GE282.out (G1 GE296.out G0))))⟩)
      · skip
        refine box_step ?hg (N := 7) ?hd (cs := #[.int .i64 0, .bool false, .slice none 0 0]) (t := 31) ?hr ?_; (case hd => rfl); (case hg => rfl); (case hr => first | (go_simp; done) | (go_simp; rfl))
        intro gb296 hg w41 hbox hb
        have n0_ := Aside0.mk (blk_below (BA BK281.out) hb)
        have n1_ := Aside0.mk (blk_below (BA BK282.out) hb)
        have n2_ := Aside0.mk (below_step (LG HB.out (G1 GE281.out (G1 GE282.out G0))) hb)
        have n3_ := Aside0.mk (hbox)
        have n4_ := Aside0.mk (ge1 hg (LG HB.out (G1 GE281.out (G1 GE282.out G0))))
        have n5_ := Aside0.mk (ge1 hg (LG HB.out (G1 GE281.out (G1 GE282.out G0))))
        have n6_ := Aside0.mk ((by rw [hg]; exact Nat.ne_of_lt (blk_lt (g := gb281) (o := .cells #[.int .i64 a0_0, .bool a0_1, .slice A0_2 l0_2.length c0_2] 24 (0, 0)) (BA BK281.out)) : gb281 ≠ gb296))
        have n7_ := Aside0.mk ((by rw [hg]; exact Nat.ne_of_gt (blk_lt (g := gb281) (o := .cells #[.int .i64 a0_0, .bool a0_1, .slice A0_2 l0_2.length c0_2] 24 (0, 0)) (BA BK281.out)) : gb296 ≠ gb281))
        have n8_ := Aside0.mk ((by rw [hg]; exact Nat.ne_of_lt (blk_lt (g := gb282) (o := .cells #[.int .i64 a1_0, .int .i64 a1_1, .string a1_2] 26 (0, 0)) (BA BK282.out)) : gb282 ≠ gb296))
        have n9_ := Aside0.mk ((by rw [hg]; exact Nat.ne_of_gt (blk_lt (g := gb282) (o := .cells #[.int .i64 a1_0, .int .i64 a1_1, .string a1_2] 26 (0, 0)) (BA BK282.out)) : gb296 ≠ gb282))
        clear BK281
        clear BK282
        clear HB
        have BK281 := n0_
        have BK282 := n1_
        have HB := n2_
        have BK296 := n3_
        have GW296 := n4_
        have GE296 := n5_
        have NB281_296 := n6_
        have NB296_281 := n7_
        have NB282_296 := n8_
        have NB296_282 := n9_
        clear n0_ n1_ n2_ n3_ n4_ n5_ n6_ n7_ n8_ n9_
        clear hb hbox hg
        refine hK.out _ _ ⟨(blk_cell BK281.out 0).trans rfl, (blk_cell BK281.out 1).trans rfl, (blk_cell BK281.out 2).trans rfl, (blk_cell BK282.out 0).trans rfl, (blk_cell BK282.out 1).trans rfl, (blk_cell BK282.out 2).trans rfl⟩ (fun hHeld => ?_)
        clear hK K
        refine norm_ (a' := ?_) ?_ ?_
        rotate_left
        · show Act.put _ (some 7) _ = _
          simp only [Act.put, PU, i64_w, i32_w]
          rfl
        refine one_ (i := 1) (N := some 31) #[true, true, true, false, false, false, false, true, false, false] rfl rfl (one_of HT_.out (by kernel_rfl)) (by decide) (fun K hK => ?_)
        refine goes_ Try.func9 (by kernel_rfl) rfl #[.agg #[.int .i64 a0_0, .bool a0_1, .slice A0_2 l0_2.length c0_2]] (by rfl) rfl rfl (by (try simp only [List.map_toArray, List.map_cons, List.map_nil]); first | done | rfl | (simp only [List.length_drop, List.length_take]; rfl)) ?_
        with_reducible refine (hopperlaw08_own.calls k a0_0 a0_1 _ _ l0_2 t285 t286 t287 _ ?side1 ?side2 A6.out).mono ?_
        (case side1 => exact Kd.CA (Kd.C_below HR0_2.out HB.out))
        (case side2 => exact HC0_2.out)
        rintro e w42 ⟨v288, rfl, ho0, hb⟩
        refine ⟨_, rfl, ?_⟩
        have n0_ := Aside0.mk (Kd.R_lower ho0 (below_size (LG HB.out (G1 GE281.out (G1 GE282.out (G1 GE296.out G0))))))
        have n1_ := Aside0.mk (blk_below (BA BK281.out) hb)
        have n2_ := Aside0.mk (blk_below (BA BK282.out) hb)
        have n3_ := Aside0.mk (blk_below (BA BK296.out) hb)
        have n4_ := Aside0.mk (below_step (LG HB.out (G1 GE281.out (G1 GE282.out (G1 GE296.out G0)))) hb)
        clear BK281
        clear BK282
        clear BK296
        clear HB
        have HO289 := n0_
        have BK281 := n1_
        have BK282 := n2_
        have BK296 := n3_
        have HB := n4_
        clear n0_ n1_ n2_ n3_ n4_
        (try clear hb)
        (try clear hb2)
        (try clear hk)
        (try clear hi)
        (try clear ho0)
        obtain ⟨Ao43, co43, eo43⟩ := Kd.R_slice HO289.out
        (first | subst eo43 | (injection eo43 with f1_ f2_ f3_; have f4_ := f1_.symm; have f5_ := f3_.symm; clear f1_ f2_ f3_; subst f4_; subst f5_))
        refine hK.out _ _ ⟨(blk_cell BK281.out 0).trans rfl, (blk_cell BK281.out 1).trans rfl, (blk_cell BK281.out 2).trans rfl, (blk_cell BK282.out 0).trans rfl, (blk_cell BK282.out 1).trans rfl, (blk_cell BK282.out 2).trans rfl⟩ (fun hHeld => ?_)
        clear hK K
        refine norm_ (a' := ?_) ?_ ?_
        rotate_left
        · show Act.put _ (some 31) _ = _
          simp only [Act.put, PU, i64_w, i32_w]
          rfl
        refine one_ (i := 3) (N := some 33) #[true, true, true, true, false, false, false, true, false, false] rfl rfl (one_of HT_.out (by kernel_rfl)) (by decide) (fun K hK => ?_)
        refine goes_ Try.func10 (by kernel_rfl) rfl #[.agg #[.int .i64 t285, .bool t286, .slice Ao43 t287.length co43], .agg #[.int .i64 a1_0, .int .i64 a1_1, .string a1_2]] (by rfl) rfl rfl (by (try simp only [List.map_toArray, List.map_cons, List.map_nil]); first | done | rfl | (simp only [List.length_drop, List.length_take]; rfl)) ?_
        with_reducible refine (pipe_Pipe_Send.calls t285 t286 (fun k_ => some k_ = (.slice Ao43 t287.length co43 : Value).ownBlock) _ _ t287 a1_0 a1_1 a1_2 t290 t291 t292 t295 _ ?side1 A7.out).mono ?_
        (case side1 => exact Kd.R_V (Kd.R_tight rfl (Kd.R_types (Kd.R_types (Kd.R_types (HO289.out) BK281.out (by decide)) BK282.out (by decide)) BK296.out (by decide))))
        rintro e w44 ⟨v293, rfl, ho0, hb⟩
        refine ⟨_, rfl, ?_⟩
        have n0_ := Aside0.mk (Kd.R_below (Kd.RA HO289.out) hb)
        have n1_ := Aside0.mk (Kd.V_lower (Kd.V_mono (ok' := fun k_ => k_ ≠ gb281 ∧ k_ ≠ gb282 ∧ k_ ≠ gb296) ho0 (fun k_ hk_ => ⟨Or.elim hk_ (fun hs_ => ((Kd.R_types (Kd.R_types (Kd.R_types (HO289.out) BK281.out (by decide)) BK282.out (by decide)) BK296.out (by decide)).1 k_ hs_.symm).1.1.2) (fun hn_ => (Kd.freshB (g := gb281) (o := .cells #[.int .i64 a0_0, .bool a0_1, .slice A0_2 l0_2.length c0_2] 24 (0, 0)) (BA BK281.out) k_ hn_)), Or.elim hk_ (fun hs_ => ((Kd.R_types (Kd.R_types (Kd.R_types (HO289.out) BK281.out (by decide)) BK282.out (by decide)) BK296.out (by decide)).1 k_ hs_.symm).1.2) (fun hn_ => (Kd.freshB (g := gb282) (o := .cells #[.int .i64 a1_0, .int .i64 a1_1, .string a1_2] 26 (0, 0)) (BA BK282.out) k_ hn_)), Or.elim hk_ (fun hs_ => ((Kd.R_types (Kd.R_types (Kd.R_types (HO289.out) BK281.out (by decide)) BK282.out (by decide)) BK296.out (by decide)).1 k_ hs_.symm).2) (fun hn_ => (Kd.freshB (g := gb296) (o := .cells #[.int .i64 0, .bool false, .slice none 0 0] 31 (0, 0)) (BA BK296.out) k_ hn_))⟩)) (below_size (LG HB.out (G1 GE281.out (G1 GE282.out (G1 GE296.out G0))))))
        have n2_ := Aside0.mk (blk_below (BA BK281.out) hb)
        have n3_ := Aside0.mk (blk_below (BA BK282.out) hb)
        have n4_ := Aside0.mk (blk_below (BA BK296.out) hb)
        have n5_ := Aside0.mk (below_step (LG HB.out (G1 GE281.out (G1 GE282.out (G1 GE296.out G0)))) hb)
        clear HO289
        clear BK281
        clear BK282
        clear BK296
        clear HB
        have HO289 := n0_
        have HO294 := n1_
        have BK281 := n2_
        have BK282 := n3_
        have BK296 := n4_
        have HB := n5_
        clear n0_ n1_ n2_ n3_ n4_ n5_
        (try clear hb)
        (try clear hb2)
        (try clear hk)
        (try clear hi)
        (try clear ho0)
        refine hK.out _ _ ⟨(blk_cell BK281.out 0).trans rfl, (blk_cell BK281.out 1).trans rfl, (blk_cell BK281.out 2).trans rfl, (blk_cell BK282.out 0).trans rfl, (blk_cell BK282.out 1).trans rfl, (blk_cell BK282.out 2).trans rfl⟩ (fun hHeld => ?_)
        clear hK K
        refine norm_ (a' := ?_) ?_ ?_
        rotate_left
        · show Act.put _ (some 33) _ = _
          simp only [Act.put, PU, i64_w, i32_w]
          rfl
        refine pure_ (i := 4) (N := some 29) (v := ?_) (a' := ?_) #[true, true, true, true, true, false, false, true, false, false] rfl rfl (any_of HT_.out (by kernel_rfl)) (fun _ _ _ h => h) (Or.inl ⟨by rfl, ?_⟩) ?_ ?_
        rotate_left
        · intro w'
          go_simp
          with_reducible rfl
        rotate_left
        · simp only [Act.put, PU, i64_w, i32_w]
          rfl
        refine pure_ (i := 5) (N := some 34) (v := ?_) (a' := ?_) #[true, true, true, true, true, true, false, true, false, false] rfl rfl (any_of HT_.out (by kernel_rfl)) (fun _ _ _ h => h) (Or.inl ⟨by rfl, ?_⟩) ?_ ?_
        rotate_left
        · intro w'
          go_simp
          with_reducible rfl
        rotate_left
        · simp only [Act.put, PU, i64_w, i32_w]
          rfl
        refine pure_ (i := 6) (N := some 35) (v := ?_) (a' := ?_) (tf 8 10) rfl rfl (any_of HT_.out (by kernel_rfl)) (fun _ _ _ h => h) (Or.inl ⟨by rfl, ?_⟩) ?_ ?_
        rotate_left
        · intro w'
          go_simp
          with_reducible rfl
        rotate_left
        · simp only [Act.put, PU, i64_w, i32_w]
          rfl
        exact norm_ (by simp only [putAll, Act.put, PU]) (hCont (.slice Ao43 t287.length co43, v293, gb296) _ ⟨hHeld, (Kd.RA HO289.out), (Kd.VA HO294.out), (BA BK281.out), (BA BK282.out), (BA BK296.out), GW296.out, GE296.out, NB281_296.out, NB296_281.out, NB282_296.out, NB296_282.out, (LG HB.out (G1 GE281.out (G1 GE282.out (G1 GE296.out G0))))⟩)
    rintro ⟨v288, v293, gb296⟩ w45 ⟨hS_, h0_, h1_, h2_, h3_, h4_, h5_, h6_, h7_, h8_, h9_, h10_, h11_⟩
    have n0_ : Aside0 (Kd.R k36 36 w45 w.heap.size (fun _ => True) v288 t287) := ⟨h0_⟩
    have n1_ : Aside0 (Kd.V k36 36 w45 w.heap.size (fun k_ => k_ ≠ gb281 ∧ k_ ≠ gb282 ∧ k_ ≠ gb296) v293 t292) := ⟨h1_⟩
    have n2_ : Aside0 (w45.heap[gb281]? = some (.cells #[.int .i64 a0_0, .bool a0_1, .slice A0_2 l0_2.length c0_2] 24 (0, 0))) := ⟨h2_⟩
    have n3_ : Aside0 (w45.heap[gb282]? = some (.cells #[.int .i64 a1_0, .int .i64 a1_1, .string a1_2] 26 (0, 0))) := ⟨h3_⟩
    have n4_ : Aside0 (w45.heap[gb296]? = some (.cells #[.int .i64 0, .bool false, .slice none 0 0] 31 (0, 0))) := ⟨h4_⟩
    have n5_ : Aside0 (w.heap.size ≤ gb296) := ⟨h5_⟩
    have n6_ : Aside0 (w.heap.size ≤ gb296) := ⟨h6_⟩
    have n7_ : Aside0 (gb281 ≠ gb296) := ⟨h7_⟩
    have n8_ : Aside0 (gb296 ≠ gb281) := ⟨h8_⟩
    have n9_ : Aside0 (gb282 ≠ gb296) := ⟨h9_⟩
    have n10_ : Aside0 (gb296 ≠ gb282) := ⟨h10_⟩
    have n11_ : Aside0 (Below w.heap.size w w45) := ⟨h11_⟩
    clear BK281
    clear BK282
    clear HB
    clear h0_ h1_ h2_ h3_ h4_ h5_ h6_ h7_ h8_ h9_ h10_ h11_
    have HO289 := n0_
    have HO294 := n1_
    have BK281 := n2_
    have BK282 := n3_
    have BK296 := n4_
    have GW296 := n5_
    have GE296 := n6_
    have NB281_296 := n7_
    have NB296_281 := n8_
    have NB282_296 := n9_
    have NB296_282 := n10_
    have HB := n11_
    clear n0_ n1_ n2_ n3_ n4_ n5_ n6_ n7_ n8_ n9_ n10_ n11_
    have hHeld : w45.cell? ⟨gb281, 0, none⟩ = some (.int .i64 a0_0) ∧ w45.cell? ⟨gb281, 1, none⟩ = some (.bool a0_1) ∧ w45.cell? ⟨gb281, 2, none⟩ = some (.slice A0_2 l0_2.length c0_2) ∧ w45.cell? ⟨gb282, 0, none⟩ = some (.int .i64 a1_0) ∧ w45.cell? ⟨gb282, 1, none⟩ = some (.int .i64 a1_1) ∧ w45.cell? ⟨gb282, 2, none⟩ = some (.string a1_2) := hS_
    obtain ⟨Ao48, co48, eo48⟩ := Kd.V_slice HO294.out
    (first | subst eo48 | (injection eo48 with f1_ f2_ f3_; have f4_ := f1_.symm; have f5_ := f3_.symm; clear f1_ f2_ f3_; subst f4_; subst f5_))
    refine norm_ (a' := ?_) ?_ ?_
    rotate_left
    · simp only [putAll, Act.put, PU]
      rfl
    refine one_ (i := 8) (N := none) (tf 9 10) rfl rfl (one_of HT_.out (by kernel_rfl)) (by decide) (fun K hK => ?_)
    have hs46 : w45.cell? ⟨gb296, 0, none⟩ = some (.int .i64 0) := (blk_cell BK296.out 0).trans rfl
    have hfs46 := blk_frozen BK296.out 0
    have hns46_0 := NB281_296.out
    have hns46_1 := NB282_296.out
    have hms46_0 := NB296_281.out
    have hms46_1 := NB296_282.out
    have hs47 : w45.cell? ⟨gb296, 1, none⟩ = some (.bool false) := (blk_cell BK296.out 1).trans rfl
    have hfs47 := blk_frozen BK296.out 1
    have hns47_0 := NB281_296.out
    have hns47_1 := NB282_296.out
    have hms47_0 := NB296_281.out
    have hms47_1 := NB296_282.out
    have hs49 : w45.cell? ⟨gb296, 2, none⟩ = some (.slice none 0 0) := (blk_cell BK296.out 2).trans rfl
    have hfs49 := blk_frozen BK296.out 2
    have hns49_0 := NB281_296.out
    have hns49_1 := NB282_296.out
    have hms49_0 := NB296_281.out
    have hms49_1 := NB296_282.out
    refine skip_ (w1 := ?_) (by rfl) rfl ?_ ?_
    rotate_left
    · go_simp
      rfl
    refine hK.out _ _ ⟨((cell_far (p := ⟨gb296, _, none⟩) NB281_296.out _).trans (((cell_far (p := ⟨gb296, _, none⟩) NB281_296.out _).trans (((cell_far (p := ⟨gb296, _, none⟩) NB281_296.out _).trans (hHeld.1)))))), ((cell_far (p := ⟨gb296, _, none⟩) NB281_296.out _).trans (((cell_far (p := ⟨gb296, _, none⟩) NB281_296.out _).trans (((cell_far (p := ⟨gb296, _, none⟩) NB281_296.out _).trans (hHeld.2.1)))))), ((cell_far (p := ⟨gb296, _, none⟩) NB281_296.out _).trans (((cell_far (p := ⟨gb296, _, none⟩) NB281_296.out _).trans (((cell_far (p := ⟨gb296, _, none⟩) NB281_296.out _).trans (hHeld.2.2.1)))))), ((cell_far (p := ⟨gb296, _, none⟩) NB282_296.out _).trans (((cell_far (p := ⟨gb296, _, none⟩) NB282_296.out _).trans (((cell_far (p := ⟨gb296, _, none⟩) NB282_296.out _).trans (hHeld.2.2.2.1)))))), ((cell_far (p := ⟨gb296, _, none⟩) NB282_296.out _).trans (((cell_far (p := ⟨gb296, _, none⟩) NB282_296.out _).trans (((cell_far (p := ⟨gb296, _, none⟩) NB282_296.out _).trans (hHeld.2.2.2.2.1)))))), ((cell_far (p := ⟨gb296, _, none⟩) NB282_296.out _).trans (((cell_far (p := ⟨gb296, _, none⟩) NB282_296.out _).trans (((cell_far (p := ⟨gb296, _, none⟩) NB282_296.out _).trans (hHeld.2.2.2.2.2))))))⟩ (fun hHeld => ?_)
    clear hK K
    refine pure_ (i := 9) (N := some 8) (v := ?_) (a' := ?_) (tf 10 10) rfl rfl (any_of HT_.out (by kernel_rfl)) (fun _ _ _ h => h) (Or.inl ⟨by rfl, ?_⟩) ?_ ?_
    rotate_left
    · intro w'
      go_simp
      with_reducible rfl
    rotate_left
    · simp only [Act.put, PU, i64_w, i32_w]
      rfl
    refine done_ (done_of HT_.out (by kernel_rfl)) ?_
    have n0_ : Aside0 (Kd.R k36 36 (((w45.setCell ⟨gb296, 0, none⟩ (.int .i64 t290)).setCell ⟨gb296, 1, none⟩ (.bool t291)).setCell ⟨gb296, 2, none⟩ (.slice Ao48 t292.length co48)) w.heap.size (fun _ => True) v288 t287) := ⟨by (with_reducible repeat (first | apply Kd.R_alloc | apply Kd.R_drewN | apply Kd.R_drew)); exact Kd.R_mono (Kd.R_mv (g := gb296) (Kd.R_types HO289.out BK296.out (by decide)) (fun _ hk => hk.2)) (fun _ hk => trivial)⟩
    have n1_ : Aside0 (Kd.V k36 36 (((w45.setCell ⟨gb296, 0, none⟩ (.int .i64 t290)).setCell ⟨gb296, 1, none⟩ (.bool t291)).setCell ⟨gb296, 2, none⟩ (.slice Ao48 t292.length co48)) w.heap.size (fun k_ => k_ ≠ gb281 ∧ k_ ≠ gb282 ∧ k_ ≠ gb296) (.slice Ao48 t292.length co48) t292) := ⟨by (with_reducible repeat (first | apply Kd.V_alloc | apply Kd.V_drewN | apply Kd.V_drew)); exact Kd.V_mono (Kd.V_mv (g := gb296) (Kd.V_mono HO294.out (fun k_ hk => (⟨hk, hk.2.2⟩ : _ ∧ k_ ≠ gb296))) (fun _ hk => hk.2)) (fun _ hk => ⟨hk.1.1, ⟨hk.1.2.1, hk.1.2.2⟩⟩)⟩
    have n2_ : Aside0 ((((w45.setCell ⟨gb296, 0, none⟩ (.int .i64 t290)).setCell ⟨gb296, 1, none⟩ (.bool t291)).setCell ⟨gb296, 2, none⟩ (.slice Ao48 t292.length co48)).heap[gb281]? = some (.cells #[.int .i64 a0_0, .bool a0_1, .slice A0_2 l0_2.length c0_2] 24 (0, 0))) := ⟨by exact BF BK281.out NB281_296.out⟩
    have n3_ : Aside0 ((((w45.setCell ⟨gb296, 0, none⟩ (.int .i64 t290)).setCell ⟨gb296, 1, none⟩ (.bool t291)).setCell ⟨gb296, 2, none⟩ (.slice Ao48 t292.length co48)).heap[gb282]? = some (.cells #[.int .i64 a1_0, .int .i64 a1_1, .string a1_2] 26 (0, 0))) := ⟨by exact BF BK282.out NB282_296.out⟩
    have n4_ : Aside0 ((((w45.setCell ⟨gb296, 0, none⟩ (.int .i64 t290)).setCell ⟨gb296, 1, none⟩ (.bool t291)).setCell ⟨gb296, 2, none⟩ (.slice Ao48 t292.length co48)).heap[gb296]? = some (.cells #[.int .i64 t290, .bool t291, .slice Ao48 t292.length co48] 31 (0, 0))) := ⟨by exact BP BK296.out (by rfl)⟩
    have n5_ : Aside0 (Below w.heap.size w (((w45.setCell ⟨gb296, 0, none⟩ (.int .i64 t290)).setCell ⟨gb296, 1, none⟩ (.bool t291)).setCell ⟨gb296, 2, none⟩ (.slice Ao48 t292.length co48))) := ⟨LG HB.out (G1 GE281.out (G1 GE282.out (G1 GE296.out G0)))⟩
    (try clear HO289)
    (try clear HO294)
    (try clear BK281)
    (try clear BK282)
    (try clear BK296)
    (try clear HB)
    generalize (((w45.setCell ⟨gb296, 0, none⟩ (.int .i64 t290)).setCell ⟨gb296, 1, none⟩ (.bool t291)).setCell ⟨gb296, 2, none⟩ (.slice Ao48 t292.length co48)) = w50 at n0_ n1_ n2_ n3_ n4_ n5_ ⊢
    have HO289 := n0_
    have HO294 := n1_
    have BK281 := n2_
    have BK282 := n3_
    have BK296 := n4_
    have HB := n5_
    clear n0_ n1_ n2_ n3_ n4_ n5_
    have hnb51 := NB281_296.out
    have hnc51 := NB296_281.out
    have hcz52_0 : w50.cell? ⟨gb281, 0, none⟩ = some (.int .i64 a0_0) := (blk_cell BK281.out 0).trans rfl
    have hcz52_1 : w50.cell? ⟨gb281, 1, none⟩ = some (.bool a0_1) := (blk_cell BK281.out 1).trans rfl
    have hcz52_2 : w50.cell? ⟨gb281, 2, none⟩ = some (.slice A0_2 l0_2.length c0_2) := (blk_cell BK281.out 2).trans rfl
    have hfz52_0 := blk_frozen BK281.out 0
    have hfz52_1 := blk_frozen BK281.out 1
    have hfz52_2 := blk_frozen BK281.out 2
    have hnb53 := NB282_296.out
    have hnc53 := NB296_282.out
    have hcz54_0 : w50.cell? ⟨gb282, 0, none⟩ = some (.int .i64 a1_0) := (blk_cell BK282.out 0).trans rfl
    have hcz54_1 : w50.cell? ⟨gb282, 1, none⟩ = some (.int .i64 a1_1) := (blk_cell BK282.out 1).trans rfl
    have hcz54_2 : w50.cell? ⟨gb282, 2, none⟩ = some (.string a1_2) := (blk_cell BK282.out 2).trans rfl
    have hfz54_0 := blk_frozen BK282.out 0
    have hfz54_1 := blk_frozen BK282.out 1
    have hfz54_2 := blk_frozen BK282.out 2
    try go_wp2_with (first | ((with_reducible refine gate_callee (f := 11) rfl ?_); refine goesL_ (some 39) rfl rfl Try.func11 (by kernel_rfl) rfl #[.agg #[.int .i64 a0_0, .bool a0_1, .slice A0_2 l0_2.length c0_2], .agg #[.int .i64 a1_0, .int .i64 a1_1, .string a1_2]] rfl (by (try simp only [List.map_toArray, List.map_cons, List.map_nil]); first | done | rfl | (simp only [List.length_drop, List.length_take]; rfl)) ?_; (with_reducible refine (hopperref08_Send.calls a0_0 a0_1 (fun k_ => k_ < w.heap.size) _ _ l0_2 a1_0 a1_1 a1_2 t297 t298 t299 t302 _ ?side1 A8.out).mono ?_); (case side1 => exact Kd.V_mk HC0_2.out (Kd.F_below (Kd.C_F k26_heap HR0_2.out) (LA HB.out))); rintro e w55 ⟨v300, rfl, ho0, hb⟩; refine ⟨_, rfl, ?_⟩; replace HO294 := Aside0.mk (Kd.V_below (Kd.VA HO294.out) hb); have HO301 := Aside0.mk (Kd.V_lower (Kd.V_mono (ok' := fun k_ => some k_ ≠ (v288 : Value).ownBlock ∧ k_ ≠ gb281 ∧ k_ ≠ gb282 ∧ k_ ≠ gb296) ho0 (fun k_ hk_ => ⟨Or.elim hk_ (fun hs_ => fun e_ => Nat.not_le.2 hs_ (Kd.R_base HO289.out k_ e_.symm)) (fun hn_ => (Kd.fresh' (Kd.R_lt (Kd.RA HO289.out)) k_ hn_)), Or.elim hk_ (fun hs_ => fun e_ => Nat.not_le.2 hs_ (by rw [e_]; exact GW281.out)) (fun hn_ => (Kd.freshB (g := gb281) (o := .cells #[.int .i64 a0_0, .bool a0_1, .slice A0_2 l0_2.length c0_2] 24 (0, 0)) (BA BK281.out) k_ hn_)), Or.elim hk_ (fun hs_ => fun e_ => Nat.not_le.2 hs_ (by rw [e_]; exact GW282.out)) (fun hn_ => (Kd.freshB (g := gb282) (o := .cells #[.int .i64 a1_0, .int .i64 a1_1, .string a1_2] 26 (0, 0)) (BA BK282.out) k_ hn_)), Or.elim hk_ (fun hs_ => fun e_ => Nat.not_le.2 hs_ (by rw [e_]; exact GW296.out)) (fun hn_ => (Kd.freshB (g := gb296) (o := .cells #[.int .i64 t290, .bool t291, .slice Ao48 t292.length co48] 31 (0, 0)) (BA BK296.out) k_ hn_))⟩)) (below_size (LA HB.out))); replace HO289 := Aside0.mk (Kd.R_below (Kd.RA HO289.out) hb); replace BK281 := Aside0.mk (blk_below (BA BK281.out) hb); replace BK282 := Aside0.mk (blk_below (BA BK282.out) hb); replace BK296 := Aside0.mk (blk_below (BA BK296.out) hb); replace HB := Aside0.mk (below_step (LA HB.out) hb); (try clear hb); (try clear hb2); (try clear hk); (try clear hi); (try clear ho0)) | ((with_reducible refine gate_dst (N := 9) rfl ?_); refine box_event ?hg (N := 9) ?hd (cs := #[.int .i64 0, .bool false, .slice none 0 0]) (t := 24) ?hr ?_; (case hd => rfl); (case hg => rfl); (case hr => first | (go_simp; done) | (go_simp; rfl)); intro gb303 hg w56 hbox hb; replace HO289 := Aside0.mk (Kd.R_below (Kd.RA HO289.out) hb); replace HO294 := Aside0.mk (Kd.V_below (Kd.V_elderB (Kd.VA HO294.out) gb303 (Nat.le_of_eq hg.symm)) hb); replace HO301 := Aside0.mk (Kd.V_below (Kd.V_elderB (Kd.VA HO301.out) gb303 (Nat.le_of_eq hg.symm)) hb); have BK303 := Aside0.mk (hbox); have GW303 := Aside0.mk (ge1 hg (LA HB.out)); have GE303 := Aside0.mk (ge1 hg (LA HB.out)); replace HB := Aside0.mk (below_step (LA HB.out) hb); have NB281_303 := Aside0.mk ((by rw [hg]; exact Nat.ne_of_lt (blk_lt (g := gb281) (o := .cells #[.int .i64 a0_0, .bool a0_1, .slice A0_2 l0_2.length c0_2] 24 (0, 0)) (BA BK281.out)) : gb281 ≠ gb303)); have NB303_281 := Aside0.mk ((by rw [hg]; exact Nat.ne_of_gt (blk_lt (g := gb281) (o := .cells #[.int .i64 a0_0, .bool a0_1, .slice A0_2 l0_2.length c0_2] 24 (0, 0)) (BA BK281.out)) : gb303 ≠ gb281)); replace BK281 := Aside0.mk (blk_below (BA BK281.out) hb); have NB282_303 := Aside0.mk ((by rw [hg]; exact Nat.ne_of_lt (blk_lt (g := gb282) (o := .cells #[.int .i64 a1_0, .int .i64 a1_1, .string a1_2] 26 (0, 0)) (BA BK282.out)) : gb282 ≠ gb303)); have NB303_282 := Aside0.mk ((by rw [hg]; exact Nat.ne_of_gt (blk_lt (g := gb282) (o := .cells #[.int .i64 a1_0, .int .i64 a1_1, .string a1_2] 26 (0, 0)) (BA BK282.out)) : gb303 ≠ gb282)); replace BK282 := Aside0.mk (blk_below (BA BK282.out) hb); have NB296_303 := Aside0.mk ((by rw [hg]; exact Nat.ne_of_lt (blk_lt (g := gb296) (o := .cells #[.int .i64 t290, .bool t291, .slice Ao48 t292.length co48] 31 (0, 0)) (BA BK296.out)) : gb296 ≠ gb303)); have NB303_296 := Aside0.mk ((by rw [hg]; exact Nat.ne_of_gt (blk_lt (g := gb296) (o := .cells #[.int .i64 t290, .bool t291, .slice Ao48 t292.length co48] 31 (0, 0)) (BA BK296.out)) : gb303 ≠ gb296)); replace BK296 := Aside0.mk (blk_below (BA BK296.out) hb); clear hb hbox hg; have hnb57 := NB303_281.out; have hnc57 := NB281_303.out; have hnb58 := NB303_282.out; have hnc58 := NB282_303.out; have hnb59 := NB303_296.out; have hnc59 := NB296_303.out; obtain ⟨hcz60_0, hcz60_1, hcz60_2, hfz60_0, hfz60_1, hfz60_2⟩ := cz3 BK303.out; obtain ⟨Ao61, co61, eo61⟩ := Kd.V_slice HO301.out; subst eo61; obtain ⟨hcz62_0, hcz62_1, hcz62_2, hfz62_0, hfz62_1, hfz62_2⟩ := cz3 BK281.out) | ((with_reducible refine gate_callee (f := 9) rfl ?_); refine goesL_ (some 44) rfl rfl Try.func9 (by kernel_rfl) rfl #[.agg #[.int .i64 a0_0, .bool a0_1, .slice A0_2 l0_2.length c0_2]] rfl (by (try simp only [List.map_toArray, List.map_cons, List.map_nil]); first | done | rfl | (simp only [List.length_drop, List.length_take]; rfl)) ?_; (with_reducible refine (hopperlaw08_own.calls k a0_0 a0_1 _ _ l0_2 t304 t305 t306 _ ?side1 ?side2 A9.out).mono ?_); (case side1 => exact Kd.C_below HR0_2.out (LG HB.out (G1 GE303.out G0))); (case side2 => exact HC0_2.out); rintro e w63 ⟨v307, rfl, ho0, hb⟩; refine ⟨_, rfl, ?_⟩; replace HO294 := Aside0.mk (Kd.V_elder' ((Kd.V_mono (Kd.V_mv (g := gb303) (Kd.V_mono HO294.out (fun k_ hk => (⟨hk, hk.2⟩ : _ ∧ k_ ≠ gb303))) (fun _ hk => hk.2)) (fun _ h_ => h_.1))) (Kd.R_base ho0) hb); replace HO301 := Aside0.mk (Kd.V_elder' ((Kd.V_mono (Kd.V_mv (g := gb303) (Kd.V_mono HO301.out (fun k_ hk => (⟨hk, hk.2⟩ : _ ∧ k_ ≠ gb303))) (fun _ hk => hk.2)) (fun _ h_ => h_.1))) (Kd.R_base ho0) hb); have HO308 := Aside0.mk (Kd.R_lower (Kd.R_new' ho0 (Kd.R_lt ((Kd.R_mono (Kd.R_mv (g := gb303) (Kd.R_types HO289.out BK303.out (by decide)) (fun _ hk => hk.2)) (fun _ h_ => h_.1))))) (below_size (LG HB.out (G1 GE303.out G0)))); replace HO289 := Aside0.mk (Kd.R_elder' ((Kd.R_mono (Kd.R_mv (g := gb303) (Kd.R_types HO289.out BK303.out (by decide)) (fun _ hk => hk.2)) (fun _ h_ => h_.1))) (Kd.R_base ho0) hb); replace BK281 := Aside0.mk (blk_below (BF BK281.out NB281_303.out) hb); replace BK282 := Aside0.mk (blk_below (BF BK282.out NB282_303.out) hb); replace BK296 := Aside0.mk (blk_below (BF BK296.out NB296_303.out) hb); replace BK303 := Aside0.mk (blk_below (g := gb303) (o := .cells #[.int .i64 t297, .bool t298, .slice Ao61 t299.length co61] 24 (0, 0)) (BP BK303.out (by rfl)) hb); replace HB := Aside0.mk (below_step (LG HB.out (G1 GE303.out G0)) hb); (try clear hb); (try clear hb2); (try clear hk); (try clear hi); (try clear ho0); obtain ⟨Ao64, co64, eo64⟩ := Kd.R_slice HO308.out; subst eo64) | ((with_reducible refine gate_callee (f := 12) rfl ?_); refine goesL_ (some 45) rfl rfl Try.func12 (by kernel_rfl) rfl #[.agg #[.int .i64 t304, .bool t305, .slice Ao64 t306.length co64]] rfl (by (try simp only [List.map_toArray, List.map_cons, List.map_nil]); first | done | rfl | (simp only [List.length_drop, List.length_take]; rfl)) ?_; (with_reducible refine (pipe_Pipe_Take.calls t304 t305 (fun k_ => some k_ = (.slice Ao64 t306.length co64 : Value).ownBlock) _ _ t306 t309 t310 t311 t314 t315 t316 t317 _ ?side1 A10.out).mono ?_); (case side1 => exact Kd.R_V (Kd.R_tight rfl (Kd.R_types (Kd.R_types (Kd.R_types (Kd.R_types (HO308.out) BK281.out (by decide)) BK282.out (by decide)) BK296.out (by decide)) BK303.out (by decide)))); rintro e w65 ⟨v312, rfl, ho0, hb⟩; refine ⟨_, rfl, ?_⟩; replace HO294 := Aside0.mk (Kd.V_below (Kd.VA HO294.out) hb); replace HO301 := Aside0.mk (Kd.V_below (Kd.VA HO301.out) hb); have HO313 := Aside0.mk (Kd.V_lower (Kd.V_mono (ok' := fun k_ => some k_ ≠ (v288 : Value).ownBlock ∧ k_ ≠ gb281 ∧ k_ ≠ gb282 ∧ k_ ≠ gb296 ∧ k_ ≠ gb303) ho0 (fun k_ hk_ => ⟨Or.elim hk_ (fun hs_ => ((Kd.R_types (Kd.R_types (Kd.R_types (Kd.R_types (HO308.out) BK281.out (by decide)) BK282.out (by decide)) BK296.out (by decide)) BK303.out (by decide)).1 k_ hs_.symm).1.1.1.1.2) (fun hn_ => (Kd.fresh' (Kd.R_lt (Kd.RA HO289.out)) k_ hn_)), Or.elim hk_ (fun hs_ => ((Kd.R_types (Kd.R_types (Kd.R_types (Kd.R_types (HO308.out) BK281.out (by decide)) BK282.out (by decide)) BK296.out (by decide)) BK303.out (by decide)).1 k_ hs_.symm).1.1.1.2) (fun hn_ => (Kd.freshB (g := gb281) (o := .cells #[.int .i64 a0_0, .bool a0_1, .slice A0_2 l0_2.length c0_2] 24 (0, 0)) (BA BK281.out) k_ hn_)), Or.elim hk_ (fun hs_ => ((Kd.R_types (Kd.R_types (Kd.R_types (Kd.R_types (HO308.out) BK281.out (by decide)) BK282.out (by decide)) BK296.out (by decide)) BK303.out (by decide)).1 k_ hs_.symm).1.1.2) (fun hn_ => (Kd.freshB (g := gb282) (o := .cells #[.int .i64 a1_0, .int .i64 a1_1, .string a1_2] 26 (0, 0)) (BA BK282.out) k_ hn_)), Or.elim hk_ (fun hs_ => ((Kd.R_types (Kd.R_types (Kd.R_types (Kd.R_types (HO308.out) BK281.out (by decide)) BK282.out (by decide)) BK296.out (by decide)) BK303.out (by decide)).1 k_ hs_.symm).1.2) (fun hn_ => (Kd.freshB (g := gb296) (o := .cells #[.int .i64 t290, .bool t291, .slice Ao48 t292.length co48] 31 (0, 0)) (BA BK296.out) k_ hn_)), Or.elim hk_ (fun hs_ => ((Kd.R_types (Kd.R_types (Kd.R_types (Kd.R_types (HO308.out) BK281.out (by decide)) BK282.out (by decide)) BK296.out (by decide)) BK303.out (by decide)).1 k_ hs_.symm).2) (fun hn_ => (Kd.freshB (g := gb303) (o := .cells #[.int .i64 t297, .bool t298, .slice Ao61 t299.length co61] 24 (0, 0)) (BA BK303.out) k_ hn_))⟩)) (below_size (LA HB.out))); replace HO289 := Aside0.mk (Kd.R_below (Kd.RA HO289.out) hb); replace HO308 := Aside0.mk (Kd.R_below (Kd.RA HO308.out) hb); replace BK281 := Aside0.mk (blk_below (BA BK281.out) hb); replace BK282 := Aside0.mk (blk_below (BA BK282.out) hb); replace BK296 := Aside0.mk (blk_below (BA BK296.out) hb); replace BK303 := Aside0.mk (blk_below (BA BK303.out) hb); replace HB := Aside0.mk (below_step (LA HB.out) hb); (try clear hb); (try clear hb2); (try clear hk); (try clear hi); (try clear ho0)) | ((with_reducible refine gate_dst (N := 11) rfl ?_); refine box_event ?hg (N := 11) ?hd (cs := #[.int .i64 0, .bool false, .slice none 0 0]) (t := 31) ?hr ?_; (case hd => rfl); (case hg => rfl); (case hr => first | (go_simp; done) | (go_simp; rfl)); intro gb318 hg w66 hbox hb; replace HO289 := Aside0.mk (Kd.R_below (Kd.RA HO289.out) hb); replace HO294 := Aside0.mk (Kd.V_below (Kd.V_elderB (Kd.VA HO294.out) gb318 (Nat.le_of_eq hg.symm)) hb); replace HO301 := Aside0.mk (Kd.V_below (Kd.V_elderB (Kd.VA HO301.out) gb318 (Nat.le_of_eq hg.symm)) hb); replace HO308 := Aside0.mk (Kd.R_below (Kd.RA HO308.out) hb); replace HO313 := Aside0.mk (Kd.V_below (Kd.V_elderB (Kd.VA HO313.out) gb318 (Nat.le_of_eq hg.symm)) hb); have BK318 := Aside0.mk (hbox); have GW318 := Aside0.mk (ge1 hg (LA HB.out)); have GE318 := Aside0.mk (ge1 hg (LA HB.out)); replace HB := Aside0.mk (below_step (LA HB.out) hb); have NB281_318 := Aside0.mk ((by rw [hg]; exact Nat.ne_of_lt (blk_lt (g := gb281) (o := .cells #[.int .i64 a0_0, .bool a0_1, .slice A0_2 l0_2.length c0_2] 24 (0, 0)) (BA BK281.out)) : gb281 ≠ gb318)); have NB318_281 := Aside0.mk ((by rw [hg]; exact Nat.ne_of_gt (blk_lt (g := gb281) (o := .cells #[.int .i64 a0_0, .bool a0_1, .slice A0_2 l0_2.length c0_2] 24 (0, 0)) (BA BK281.out)) : gb318 ≠ gb281)); replace BK281 := Aside0.mk (blk_below (BA BK281.out) hb); have NB282_318 := Aside0.mk ((by rw [hg]; exact Nat.ne_of_lt (blk_lt (g := gb282) (o := .cells #[.int .i64 a1_0, .int .i64 a1_1, .string a1_2] 26 (0, 0)) (BA BK282.out)) : gb282 ≠ gb318)); have NB318_282 := Aside0.mk ((by rw [hg]; exact Nat.ne_of_gt (blk_lt (g := gb282) (o := .cells #[.int .i64 a1_0, .int .i64 a1_1, .string a1_2] 26 (0, 0)) (BA BK282.out)) : gb318 ≠ gb282)); replace BK282 := Aside0.mk (blk_below (BA BK282.out) hb); have NB296_318 := Aside0.mk ((by rw [hg]; exact Nat.ne_of_lt (blk_lt (g := gb296) (o := .cells #[.int .i64 t290, .bool t291, .slice Ao48 t292.length co48] 31 (0, 0)) (BA BK296.out)) : gb296 ≠ gb318)); have NB318_296 := Aside0.mk ((by rw [hg]; exact Nat.ne_of_gt (blk_lt (g := gb296) (o := .cells #[.int .i64 t290, .bool t291, .slice Ao48 t292.length co48] 31 (0, 0)) (BA BK296.out)) : gb318 ≠ gb296)); replace BK296 := Aside0.mk (blk_below (BA BK296.out) hb); have NB303_318 := Aside0.mk ((by rw [hg]; exact Nat.ne_of_lt (blk_lt (g := gb303) (o := .cells #[.int .i64 t297, .bool t298, .slice Ao61 t299.length co61] 24 (0, 0)) (BA BK303.out)) : gb303 ≠ gb318)); have NB318_303 := Aside0.mk ((by rw [hg]; exact Nat.ne_of_gt (blk_lt (g := gb303) (o := .cells #[.int .i64 t297, .bool t298, .slice Ao61 t299.length co61] 24 (0, 0)) (BA BK303.out)) : gb318 ≠ gb303)); replace BK303 := Aside0.mk (blk_below (BA BK303.out) hb); clear hb hbox hg) | ((with_reducible refine gate_dst (N := 12) rfl ?_); refine box_event ?hg (N := 12) ?hd (cs := #[.int .i64 0, .int .i64 0, .string (⟨#[]⟩ : ByteArray)]) (t := 36) ?hr ?_; (case hd => rfl); (case hg => rfl); (case hr => first | (go_simp; done) | (go_simp; rfl)); intro gb319 hg w67 hbox hb; replace HO289 := Aside0.mk (Kd.R_below (Kd.R_elderB (Kd.RA HO289.out) gb319 (Nat.le_of_eq hg.symm)) hb); replace HO294 := Aside0.mk (Kd.V_below (Kd.V_elderB (Kd.VA HO294.out) gb319 (Nat.le_of_eq hg.symm)) hb); replace HO301 := Aside0.mk (Kd.V_below (Kd.V_elderB (Kd.VA HO301.out) gb319 (Nat.le_of_eq hg.symm)) hb); replace HO308 := Aside0.mk (Kd.R_below (Kd.R_elderB (Kd.RA HO308.out) gb319 (Nat.le_of_eq hg.symm)) hb); replace HO313 := Aside0.mk (Kd.V_below (Kd.V_elderB (Kd.VA HO313.out) gb319 (Nat.le_of_eq hg.symm)) hb); have BK319 := Aside0.mk (hbox); have GW319 := Aside0.mk (ge1 hg (LA HB.out)); have GE319 := Aside0.mk (ge1 hg (LA HB.out)); replace HB := Aside0.mk (below_step (LA HB.out) hb); have NB281_319 := Aside0.mk ((by rw [hg]; exact Nat.ne_of_lt (blk_lt (g := gb281) (o := .cells #[.int .i64 a0_0, .bool a0_1, .slice A0_2 l0_2.length c0_2] 24 (0, 0)) (BA BK281.out)) : gb281 ≠ gb319)); have NB319_281 := Aside0.mk ((by rw [hg]; exact Nat.ne_of_gt (blk_lt (g := gb281) (o := .cells #[.int .i64 a0_0, .bool a0_1, .slice A0_2 l0_2.length c0_2] 24 (0, 0)) (BA BK281.out)) : gb319 ≠ gb281)); replace BK281 := Aside0.mk (blk_below (BA BK281.out) hb); have NB282_319 := Aside0.mk ((by rw [hg]; exact Nat.ne_of_lt (blk_lt (g := gb282) (o := .cells #[.int .i64 a1_0, .int .i64 a1_1, .string a1_2] 26 (0, 0)) (BA BK282.out)) : gb282 ≠ gb319)); have NB319_282 := Aside0.mk ((by rw [hg]; exact Nat.ne_of_gt (blk_lt (g := gb282) (o := .cells #[.int .i64 a1_0, .int .i64 a1_1, .string a1_2] 26 (0, 0)) (BA BK282.out)) : gb319 ≠ gb282)); replace BK282 := Aside0.mk (blk_below (BA BK282.out) hb); have NB296_319 := Aside0.mk ((by rw [hg]; exact Nat.ne_of_lt (blk_lt (g := gb296) (o := .cells #[.int .i64 t290, .bool t291, .slice Ao48 t292.length co48] 31 (0, 0)) (BA BK296.out)) : gb296 ≠ gb319)); have NB319_296 := Aside0.mk ((by rw [hg]; exact Nat.ne_of_gt (blk_lt (g := gb296) (o := .cells #[.int .i64 t290, .bool t291, .slice Ao48 t292.length co48] 31 (0, 0)) (BA BK296.out)) : gb319 ≠ gb296)); replace BK296 := Aside0.mk (blk_below (BA BK296.out) hb); have NB303_319 := Aside0.mk ((by rw [hg]; exact Nat.ne_of_lt (blk_lt (g := gb303) (o := .cells #[.int .i64 t297, .bool t298, .slice Ao61 t299.length co61] 24 (0, 0)) (BA BK303.out)) : gb303 ≠ gb319)); have NB319_303 := Aside0.mk ((by rw [hg]; exact Nat.ne_of_gt (blk_lt (g := gb303) (o := .cells #[.int .i64 t297, .bool t298, .slice Ao61 t299.length co61] 24 (0, 0)) (BA BK303.out)) : gb319 ≠ gb303)); replace BK303 := Aside0.mk (blk_below (BA BK303.out) hb); have NB318_319 := Aside0.mk ((by rw [hg]; exact Nat.ne_of_lt (blk_lt (g := gb318) (o := .cells #[.int .i64 0, .bool false, .slice none 0 0] 31 (0, 0)) (BA BK318.out)) : gb318 ≠ gb319)); have NB319_318 := Aside0.mk ((by rw [hg]; exact Nat.ne_of_gt (blk_lt (g := gb318) (o := .cells #[.int .i64 0, .bool false, .slice none 0 0] 31 (0, 0)) (BA BK318.out)) : gb319 ≠ gb318)); replace BK318 := Aside0.mk (blk_below (BA BK318.out) hb); clear hb hbox hg; have hnb68 := NB318_281.out; have hnc68 := NB281_318.out; have hnb69 := NB318_282.out; have hnc69 := NB282_318.out; have hnb70 := NB318_296.out; have hnc70 := NB296_318.out; have hnb71 := NB318_303.out; have hnc71 := NB303_318.out; have hnb72 := NB318_319.out; have hnc72 := NB319_318.out; obtain ⟨hcz73_0, hcz73_1, hcz73_2, hfz73_0, hfz73_1, hfz73_2⟩ := cz3 BK318.out; obtain ⟨Ao74, co74, eo74⟩ := Kd.V_slice HO313.out; subst eo74) | ((with_reducible refine gate_store (t := 31) (p := 11) rfl ?_); refine store_event (t := 31) (p := 11) (v := ?vo_w75) (w1 := (((w67.setCell ⟨gb318, 0, none⟩ (.int .i64 t309)).setCell ⟨gb318, 1, none⟩ (.bool t310)).setCell ⟨gb318, 2, none⟩ (.slice Ao74 t311.length co74))) ?hg ?ho ?hn ?hr ?_; (case ho => rfl); (case hg => rfl); (case hn => rfl); (case hr => first | (go_simp; done) | (go_simp; rfl)); intro w75 hw; replace HO289 : Aside0 (Kd.R k36 36 w75 w.heap.size (fun k_ => some k_ ≠ (.slice Ao64 t306.length co64 : Value).ownBlock ∧ k_ ≠ gb319) v288 t287) := ⟨(by rw [hw]; exact (Kd.R_mono (Kd.R_mv (g := gb318) (Kd.R_types HO289.out BK318.out (by decide)) (fun _ hk => hk.2)) (fun _ hk => ⟨hk.1.1.2, hk.1.2⟩)))⟩; replace HO294 : Aside0 (Kd.V k36 36 w75 w.heap.size (fun k_ => some k_ ≠ (.slice Ao64 t306.length co64 : Value).ownBlock ∧ k_ ≠ gb281 ∧ k_ ≠ gb282 ∧ k_ ≠ gb296 ∧ k_ ≠ gb303 ∧ k_ ≠ gb318 ∧ k_ ≠ gb319) (.slice Ao48 t292.length co48) t292) := ⟨(by rw [hw]; exact (Kd.V_mono (Kd.V_mv (g := gb318) (Kd.V_mono HO294.out (fun k_ hk => (⟨hk, hk.1.2⟩ : _ ∧ k_ ≠ gb318))) (fun _ hk => hk.2)) (fun _ hk => ⟨hk.1.1.1.2, ⟨hk.1.1.1.1.1.1, ⟨hk.1.1.1.1.1.2.1, ⟨hk.1.1.1.1.1.2.2, ⟨hk.1.1.1.1.2, ⟨hk.1.1.2, hk.1.2⟩⟩⟩⟩⟩⟩)))⟩; replace HO301 : Aside0 (Kd.V k26 26 w75 w.heap.size (fun k_ => some k_ ≠ (v288 : Value).ownBlock ∧ some k_ ≠ (.slice Ao64 t306.length co64 : Value).ownBlock ∧ k_ ≠ gb281 ∧ k_ ≠ gb282 ∧ k_ ≠ gb296 ∧ k_ ≠ gb303 ∧ k_ ≠ gb318 ∧ k_ ≠ gb319) (.slice Ao61 t299.length co61) t299) := ⟨(by rw [hw]; exact (Kd.V_mono (Kd.V_mv (g := gb318) (Kd.V_mono HO301.out (fun k_ hk => (⟨hk, hk.1.2⟩ : _ ∧ k_ ≠ gb318))) (fun _ hk => hk.2)) (fun _ hk => ⟨hk.1.1.1.1.1.1, ⟨hk.1.1.1.2, ⟨hk.1.1.1.1.1.2.1, ⟨hk.1.1.1.1.1.2.2.1, ⟨hk.1.1.1.1.1.2.2.2, ⟨hk.1.1.1.1.2, ⟨hk.1.1.2, hk.1.2⟩⟩⟩⟩⟩⟩⟩)))⟩; replace HO308 : Aside0 (Kd.R k36 36 w75 w.heap.size (fun k_ => some k_ ≠ (v288 : Value).ownBlock ∧ k_ ≠ gb319) (.slice Ao64 t306.length co64) t306) := ⟨(by rw [hw]; exact (Kd.R_mono (Kd.R_mv (g := gb318) (Kd.R_types HO308.out BK318.out (by decide)) (fun _ hk => hk.2)) (fun _ hk => ⟨hk.1.1.2, hk.1.2⟩)))⟩; replace HO313 : Aside0 (Kd.V k36 36 w75 w.heap.size (fun k_ => some k_ ≠ (v288 : Value).ownBlock ∧ k_ ≠ gb281 ∧ k_ ≠ gb282 ∧ k_ ≠ gb296 ∧ k_ ≠ gb303 ∧ k_ ≠ gb318 ∧ k_ ≠ gb319) (.slice Ao74 t311.length co74) t311) := ⟨(by rw [hw]; exact (Kd.V_mono (Kd.V_mv (g := gb318) (Kd.V_mono HO313.out (fun k_ hk => (⟨hk, hk.1.2⟩ : _ ∧ k_ ≠ gb318))) (fun _ hk => hk.2)) (fun _ hk => ⟨hk.1.1.1.1, ⟨hk.1.1.1.2.1, ⟨hk.1.1.1.2.2.1, ⟨hk.1.1.1.2.2.2.1, ⟨hk.1.1.1.2.2.2.2, ⟨hk.1.1.2, hk.1.2⟩⟩⟩⟩⟩⟩)))⟩; replace BK281 : Aside0 (w75.heap[gb281]? = some (.cells #[.int .i64 a0_0, .bool a0_1, .slice A0_2 l0_2.length c0_2] 24 (0, 0))) := ⟨(by rw [hw]; exact (BF BK281.out NB281_318.out))⟩; replace BK282 : Aside0 (w75.heap[gb282]? = some (.cells #[.int .i64 a1_0, .int .i64 a1_1, .string a1_2] 26 (0, 0))) := ⟨(by rw [hw]; exact (BF BK282.out NB282_318.out))⟩; replace BK296 : Aside0 (w75.heap[gb296]? = some (.cells #[.int .i64 t290, .bool t291, .slice Ao48 t292.length co48] 31 (0, 0))) := ⟨(by rw [hw]; exact (BF BK296.out NB296_318.out))⟩; replace BK303 : Aside0 (w75.heap[gb303]? = some (.cells #[.int .i64 t297, .bool t298, .slice Ao61 t299.length co61] 24 (0, 0))) := ⟨(by rw [hw]; exact (BF BK303.out NB303_318.out))⟩; replace BK318 : Aside0 (w75.heap[gb318]? = some (.cells #[.int .i64 t309, .bool t310, .slice Ao74 t311.length co74] 31 (0, 0))) := ⟨(by rw [hw]; exact (BP BK318.out (by rfl)))⟩; replace BK319 : Aside0 (w75.heap[gb319]? = some (.cells #[.int .i64 0, .int .i64 0, .string (⟨#[]⟩ : ByteArray)] 36 (0, 0))) := ⟨(by rw [hw]; exact (BF BK319.out NB319_318.out))⟩; replace HB : Aside0 (Below w.heap.size w w75) := ⟨(by rw [hw]; exact (LG HB.out (G1 GE318.out G0)))⟩; clear hw; have hnb76 := NB319_281.out; have hnc76 := NB281_319.out; have hnb77 := NB319_282.out; have hnc77 := NB282_319.out; have hnb78 := NB319_296.out; have hnc78 := NB296_319.out; have hnb79 := NB319_303.out; have hnc79 := NB303_319.out; obtain ⟨hcz80_0, hcz80_1, hcz80_2, hfz80_0, hfz80_1, hfz80_2⟩ := cz3 BK319.out) | ((with_reducible refine gate_store (t := 36) (p := 12) rfl ?_); refine store_event (t := 36) (p := 12) (v := ?vo_w81) (w1 := (((w75.setCell ⟨gb319, 0, none⟩ (.int .i64 t314)).setCell ⟨gb319, 1, none⟩ (.int .i64 t315)).setCell ⟨gb319, 2, none⟩ (.string t316))) ?hg ?ho ?hn ?hr ?_; (case ho => rfl); (case hg => rfl); (case hn => rfl); (case hr => first | (go_simp; done) | (go_simp; rfl)); intro w81 hw; replace HO289 : Aside0 (Kd.R k36 36 w81 w.heap.size (fun k_ => some k_ ≠ (.slice Ao64 t306.length co64 : Value).ownBlock ∧ k_ ≠ gb319) v288 t287) := ⟨(by rw [hw]; exact (Kd.R_mono (Kd.R_mv (g := gb319) (Kd.R_mono HO289.out (fun k_ hk => (⟨hk, hk.2⟩ : _ ∧ k_ ≠ gb319))) (fun _ hk => hk.2)) (fun _ hk => ⟨hk.1.1, hk.1.2⟩)))⟩; replace HO294 : Aside0 (Kd.V k36 36 w81 w.heap.size (fun k_ => some k_ ≠ (.slice Ao64 t306.length co64 : Value).ownBlock ∧ k_ ≠ gb281 ∧ k_ ≠ gb282 ∧ k_ ≠ gb296 ∧ k_ ≠ gb303 ∧ k_ ≠ gb318 ∧ k_ ≠ gb319) (.slice Ao48 t292.length co48) t292) := ⟨(by rw [hw]; exact (Kd.V_mono (Kd.V_mv (g := gb319) (Kd.V_mono HO294.out (fun k_ hk => (⟨hk, hk.2.2.2.2.2.2⟩ : _ ∧ k_ ≠ gb319))) (fun _ hk => hk.2)) (fun _ hk => ⟨hk.1.1, ⟨hk.1.2.1, ⟨hk.1.2.2.1, ⟨hk.1.2.2.2.1, ⟨hk.1.2.2.2.2.1, ⟨hk.1.2.2.2.2.2.1, hk.1.2.2.2.2.2.2⟩⟩⟩⟩⟩⟩)))⟩; replace HO301 : Aside0 (Kd.V k26 26 w81 w.heap.size (fun k_ => some k_ ≠ (v288 : Value).ownBlock ∧ some k_ ≠ (.slice Ao64 t306.length co64 : Value).ownBlock ∧ k_ ≠ gb281 ∧ k_ ≠ gb282 ∧ k_ ≠ gb296 ∧ k_ ≠ gb303 ∧ k_ ≠ gb318 ∧ k_ ≠ gb319) (.slice Ao61 t299.length co61) t299) := ⟨(by rw [hw]; exact (Kd.V_mono (Kd.V_mv (g := gb319) (Kd.V_mono HO301.out (fun k_ hk => (⟨hk, hk.2.2.2.2.2.2.2⟩ : _ ∧ k_ ≠ gb319))) (fun _ hk => hk.2)) (fun _ hk => ⟨hk.1.1, ⟨hk.1.2.1, ⟨hk.1.2.2.1, ⟨hk.1.2.2.2.1, ⟨hk.1.2.2.2.2.1, ⟨hk.1.2.2.2.2.2.1, ⟨hk.1.2.2.2.2.2.2.1, hk.1.2.2.2.2.2.2.2⟩⟩⟩⟩⟩⟩⟩)))⟩; replace HO308 : Aside0 (Kd.R k36 36 w81 w.heap.size (fun k_ => some k_ ≠ (v288 : Value).ownBlock ∧ k_ ≠ gb319) (.slice Ao64 t306.length co64) t306) := ⟨(by rw [hw]; exact (Kd.R_mono (Kd.R_mv (g := gb319) (Kd.R_mono HO308.out (fun k_ hk => (⟨hk, hk.2⟩ : _ ∧ k_ ≠ gb319))) (fun _ hk => hk.2)) (fun _ hk => ⟨hk.1.1, hk.1.2⟩)))⟩; replace HO313 : Aside0 (Kd.V k36 36 w81 w.heap.size (fun k_ => some k_ ≠ (v288 : Value).ownBlock ∧ k_ ≠ gb281 ∧ k_ ≠ gb282 ∧ k_ ≠ gb296 ∧ k_ ≠ gb303 ∧ k_ ≠ gb318 ∧ k_ ≠ gb319) (.slice Ao74 t311.length co74) t311) := ⟨(by rw [hw]; exact (Kd.V_mono (Kd.V_mv (g := gb319) (Kd.V_mono HO313.out (fun k_ hk => (⟨hk, hk.2.2.2.2.2.2⟩ : _ ∧ k_ ≠ gb319))) (fun _ hk => hk.2)) (fun _ hk => ⟨hk.1.1, ⟨hk.1.2.1, ⟨hk.1.2.2.1, ⟨hk.1.2.2.2.1, ⟨hk.1.2.2.2.2.1, ⟨hk.1.2.2.2.2.2.1, hk.1.2.2.2.2.2.2⟩⟩⟩⟩⟩⟩)))⟩; replace BK281 : Aside0 (w81.heap[gb281]? = some (.cells #[.int .i64 a0_0, .bool a0_1, .slice A0_2 l0_2.length c0_2] 24 (0, 0))) := ⟨(by rw [hw]; exact (BF BK281.out NB281_319.out))⟩; replace BK282 : Aside0 (w81.heap[gb282]? = some (.cells #[.int .i64 a1_0, .int .i64 a1_1, .string a1_2] 26 (0, 0))) := ⟨(by rw [hw]; exact (BF BK282.out NB282_319.out))⟩; replace BK296 : Aside0 (w81.heap[gb296]? = some (.cells #[.int .i64 t290, .bool t291, .slice Ao48 t292.length co48] 31 (0, 0))) := ⟨(by rw [hw]; exact (BF BK296.out NB296_319.out))⟩; replace BK303 : Aside0 (w81.heap[gb303]? = some (.cells #[.int .i64 t297, .bool t298, .slice Ao61 t299.length co61] 24 (0, 0))) := ⟨(by rw [hw]; exact (BF BK303.out NB303_319.out))⟩; replace BK318 : Aside0 (w81.heap[gb318]? = some (.cells #[.int .i64 t309, .bool t310, .slice Ao74 t311.length co74] 31 (0, 0))) := ⟨(by rw [hw]; exact (BF BK318.out NB318_319.out))⟩; replace BK319 : Aside0 (w81.heap[gb319]? = some (.cells #[.int .i64 t314, .int .i64 t315, .string t316] 36 (0, 0))) := ⟨(by rw [hw]; exact (BP BK319.out (by rfl)))⟩; replace HB : Aside0 (Below w.heap.size w w81) := ⟨(by rw [hw]; exact (LG HB.out (G1 GE319.out G0)))⟩; clear hw; obtain ⟨hcz82_0, hcz82_1, hcz82_2, hfz82_0, hfz82_1, hfz82_2⟩ := cz3 BK281.out) | ((with_reducible refine gate_callee (f := 13) rfl ?_); refine goesL_ (some 51) rfl rfl Try.func13 (by kernel_rfl) rfl #[.agg #[.int .i64 a0_0, .bool a0_1, .slice A0_2 l0_2.length c0_2]] rfl (by (try simp only [List.map_toArray, List.map_cons, List.map_nil]); first | done | rfl | (simp only [List.length_drop, List.length_take]; rfl)) ?_; (with_reducible refine (hopperref08_Take.calls a0_0 a0_1 (fun k_ => k_ < w.heap.size) _ _ l0_2 t320 t321 t322 t325 t326 t327 t328 _ ?side1 A11.out).mono ?_); (case side1 => exact Kd.V_mk HC0_2.out (Kd.F_below (Kd.C_F k26_heap HR0_2.out) (LA HB.out))); rintro e w83 ⟨v323, rfl, ho0, hb⟩; refine ⟨_, rfl, ?_⟩; replace HO294 := Aside0.mk (Kd.V_below (Kd.VA HO294.out) hb); replace HO301 := Aside0.mk (Kd.V_below (Kd.VA HO301.out) hb); replace HO313 := Aside0.mk (Kd.V_below (Kd.VA HO313.out) hb); have HO324 := Aside0.mk (Kd.V_lower (Kd.V_mono (ok' := fun k_ => some k_ ≠ (v288 : Value).ownBlock ∧ some k_ ≠ (.slice Ao64 t306.length co64 : Value).ownBlock ∧ k_ ≠ gb281 ∧ k_ ≠ gb282 ∧ k_ ≠ gb296 ∧ k_ ≠ gb303 ∧ k_ ≠ gb318 ∧ k_ ≠ gb319) ho0 (fun k_ hk_ => ⟨Or.elim hk_ (fun hs_ => fun e_ => Nat.not_le.2 hs_ (Kd.R_base HO289.out k_ e_.symm)) (fun hn_ => (Kd.fresh' (Kd.R_lt (Kd.RA HO289.out)) k_ hn_)), Or.elim hk_ (fun hs_ => fun e_ => Nat.not_le.2 hs_ (Kd.R_base HO308.out k_ e_.symm)) (fun hn_ => (Kd.fresh' (Kd.R_lt (Kd.RA HO308.out)) k_ hn_)), Or.elim hk_ (fun hs_ => fun e_ => Nat.not_le.2 hs_ (by rw [e_]; exact GW281.out)) (fun hn_ => (Kd.freshB (g := gb281) (o := .cells #[.int .i64 a0_0, .bool a0_1, .slice A0_2 l0_2.length c0_2] 24 (0, 0)) (BA BK281.out) k_ hn_)), Or.elim hk_ (fun hs_ => fun e_ => Nat.not_le.2 hs_ (by rw [e_]; exact GW282.out)) (fun hn_ => (Kd.freshB (g := gb282) (o := .cells #[.int .i64 a1_0, .int .i64 a1_1, .string a1_2] 26 (0, 0)) (BA BK282.out) k_ hn_)), Or.elim hk_ (fun hs_ => fun e_ => Nat.not_le.2 hs_ (by rw [e_]; exact GW296.out)) (fun hn_ => (Kd.freshB (g := gb296) (o := .cells #[.int .i64 t290, .bool t291, .slice Ao48 t292.length co48] 31 (0, 0)) (BA BK296.out) k_ hn_)), Or.elim hk_ (fun hs_ => fun e_ => Nat.not_le.2 hs_ (by rw [e_]; exact GW303.out)) (fun hn_ => (Kd.freshB (g := gb303) (o := .cells #[.int .i64 t297, .bool t298, .slice Ao61 t299.length co61] 24 (0, 0)) (BA BK303.out) k_ hn_)), Or.elim hk_ (fun hs_ => fun e_ => Nat.not_le.2 hs_ (by rw [e_]; exact GW318.out)) (fun hn_ => (Kd.freshB (g := gb318) (o := .cells #[.int .i64 t309, .bool t310, .slice Ao74 t311.length co74] 31 (0, 0)) (BA BK318.out) k_ hn_)), Or.elim hk_ (fun hs_ => fun e_ => Nat.not_le.2 hs_ (by rw [e_]; exact GW319.out)) (fun hn_ => (Kd.freshB (g := gb319) (o := .cells #[.int .i64 t314, .int .i64 t315, .string t316] 36 (0, 0)) (BA BK319.out) k_ hn_))⟩)) (below_size (LA HB.out))); replace HO289 := Aside0.mk (Kd.R_below (Kd.RA HO289.out) hb); replace HO308 := Aside0.mk (Kd.R_below (Kd.RA HO308.out) hb); replace BK281 := Aside0.mk (blk_below (BA BK281.out) hb); replace BK282 := Aside0.mk (blk_below (BA BK282.out) hb); replace BK296 := Aside0.mk (blk_below (BA BK296.out) hb); replace BK303 := Aside0.mk (blk_below (BA BK303.out) hb); replace BK318 := Aside0.mk (blk_below (BA BK318.out) hb); replace BK319 := Aside0.mk (blk_below (BA BK319.out) hb); replace HB := Aside0.mk (below_step (LA HB.out) hb); (try clear hb); (try clear hb2); (try clear hk); (try clear hi); (try clear ho0)) | ((with_reducible refine gate_dst (N := 14) rfl ?_); refine box_event ?hg (N := 14) ?hd (cs := #[.int .i64 0, .bool false, .slice none 0 0]) (t := 24) ?hr ?_; (case hd => rfl); (case hg => rfl); (case hr => first | (go_simp; done) | (go_simp; rfl)); intro gb329 hg w84 hbox hb; replace HO289 := Aside0.mk (Kd.R_below (Kd.RA HO289.out) hb); replace HO294 := Aside0.mk (Kd.V_below (Kd.V_elderB (Kd.VA HO294.out) gb329 (Nat.le_of_eq hg.symm)) hb); replace HO301 := Aside0.mk (Kd.V_below (Kd.V_elderB (Kd.VA HO301.out) gb329 (Nat.le_of_eq hg.symm)) hb); replace HO308 := Aside0.mk (Kd.R_below (Kd.RA HO308.out) hb); replace HO313 := Aside0.mk (Kd.V_below (Kd.V_elderB (Kd.VA HO313.out) gb329 (Nat.le_of_eq hg.symm)) hb); replace HO324 := Aside0.mk (Kd.V_below (Kd.V_elderB (Kd.VA HO324.out) gb329 (Nat.le_of_eq hg.symm)) hb); have BK329 := Aside0.mk (hbox); have GW329 := Aside0.mk (ge1 hg (LA HB.out)); have GE329 := Aside0.mk (ge1 hg (LA HB.out)); replace HB := Aside0.mk (below_step (LA HB.out) hb); have NB281_329 := Aside0.mk ((by rw [hg]; exact Nat.ne_of_lt (blk_lt (g := gb281) (o := .cells #[.int .i64 a0_0, .bool a0_1, .slice A0_2 l0_2.length c0_2] 24 (0, 0)) (BA BK281.out)) : gb281 ≠ gb329)); have NB329_281 := Aside0.mk ((by rw [hg]; exact Nat.ne_of_gt (blk_lt (g := gb281) (o := .cells #[.int .i64 a0_0, .bool a0_1, .slice A0_2 l0_2.length c0_2] 24 (0, 0)) (BA BK281.out)) : gb329 ≠ gb281)); replace BK281 := Aside0.mk (blk_below (BA BK281.out) hb); have NB282_329 := Aside0.mk ((by rw [hg]; exact Nat.ne_of_lt (blk_lt (g := gb282) (o := .cells #[.int .i64 a1_0, .int .i64 a1_1, .string a1_2] 26 (0, 0)) (BA BK282.out)) : gb282 ≠ gb329)); have NB329_282 := Aside0.mk ((by rw [hg]; exact Nat.ne_of_gt (blk_lt (g := gb282) (o := .cells #[.int .i64 a1_0, .int .i64 a1_1, .string a1_2] 26 (0, 0)) (BA BK282.out)) : gb329 ≠ gb282)); replace BK282 := Aside0.mk (blk_below (BA BK282.out) hb); have NB296_329 := Aside0.mk ((by rw [hg]; exact Nat.ne_of_lt (blk_lt (g := gb296) (o := .cells #[.int .i64 t290, .bool t291, .slice Ao48 t292.length co48] 31 (0, 0)) (BA BK296.out)) : gb296 ≠ gb329)); have NB329_296 := Aside0.mk ((by rw [hg]; exact Nat.ne_of_gt (blk_lt (g := gb296) (o := .cells #[.int .i64 t290, .bool t291, .slice Ao48 t292.length co48] 31 (0, 0)) (BA BK296.out)) : gb329 ≠ gb296)); replace BK296 := Aside0.mk (blk_below (BA BK296.out) hb); have NB303_329 := Aside0.mk ((by rw [hg]; exact Nat.ne_of_lt (blk_lt (g := gb303) (o := .cells #[.int .i64 t297, .bool t298, .slice Ao61 t299.length co61] 24 (0, 0)) (BA BK303.out)) : gb303 ≠ gb329)); have NB329_303 := Aside0.mk ((by rw [hg]; exact Nat.ne_of_gt (blk_lt (g := gb303) (o := .cells #[.int .i64 t297, .bool t298, .slice Ao61 t299.length co61] 24 (0, 0)) (BA BK303.out)) : gb329 ≠ gb303)); replace BK303 := Aside0.mk (blk_below (BA BK303.out) hb); have NB318_329 := Aside0.mk ((by rw [hg]; exact Nat.ne_of_lt (blk_lt (g := gb318) (o := .cells #[.int .i64 t309, .bool t310, .slice Ao74 t311.length co74] 31 (0, 0)) (BA BK318.out)) : gb318 ≠ gb329)); have NB329_318 := Aside0.mk ((by rw [hg]; exact Nat.ne_of_gt (blk_lt (g := gb318) (o := .cells #[.int .i64 t309, .bool t310, .slice Ao74 t311.length co74] 31 (0, 0)) (BA BK318.out)) : gb329 ≠ gb318)); replace BK318 := Aside0.mk (blk_below (BA BK318.out) hb); have NB319_329 := Aside0.mk ((by rw [hg]; exact Nat.ne_of_lt (blk_lt (g := gb319) (o := .cells #[.int .i64 t314, .int .i64 t315, .string t316] 36 (0, 0)) (BA BK319.out)) : gb319 ≠ gb329)); have NB329_319 := Aside0.mk ((by rw [hg]; exact Nat.ne_of_gt (blk_lt (g := gb319) (o := .cells #[.int .i64 t314, .int .i64 t315, .string t316] 36 (0, 0)) (BA BK319.out)) : gb329 ≠ gb319)); replace BK319 := Aside0.mk (blk_below (BA BK319.out) hb); clear hb hbox hg) | ((with_reducible refine gate_dst (N := 15) rfl ?_); refine box_event ?hg (N := 15) ?hd (cs := #[.int .i64 0, .int .i64 0, .string (⟨#[]⟩ : ByteArray)]) (t := 26) ?hr ?_; (case hd => rfl); (case hg => rfl); (case hr => first | (go_simp; done) | (go_simp; rfl)); intro gb330 hg w85 hbox hb; replace HO289 := Aside0.mk (Kd.R_below (Kd.RA HO289.out) hb); replace HO294 := Aside0.mk (Kd.V_below (Kd.V_elderB (Kd.VA HO294.out) gb330 (Nat.le_of_eq hg.symm)) hb); replace HO301 := Aside0.mk (Kd.V_below (Kd.V_elderB (Kd.VA HO301.out) gb330 (Nat.le_of_eq hg.symm)) hb); replace HO308 := Aside0.mk (Kd.R_below (Kd.RA HO308.out) hb); replace HO313 := Aside0.mk (Kd.V_below (Kd.V_elderB (Kd.VA HO313.out) gb330 (Nat.le_of_eq hg.symm)) hb); replace HO324 := Aside0.mk (Kd.V_below (Kd.V_elderB (Kd.VA HO324.out) gb330 (Nat.le_of_eq hg.symm)) hb); have BK330 := Aside0.mk (hbox); have GW330 := Aside0.mk (ge1 hg (LA HB.out)); have GE330 := Aside0.mk (ge1 hg (LA HB.out)); replace HB := Aside0.mk (below_step (LA HB.out) hb); have NB281_330 := Aside0.mk ((by rw [hg]; exact Nat.ne_of_lt (blk_lt (g := gb281) (o := .cells #[.int .i64 a0_0, .bool a0_1, .slice A0_2 l0_2.length c0_2] 24 (0, 0)) (BA BK281.out)) : gb281 ≠ gb330)); have NB330_281 := Aside0.mk ((by rw [hg]; exact Nat.ne_of_gt (blk_lt (g := gb281) (o := .cells #[.int .i64 a0_0, .bool a0_1, .slice A0_2 l0_2.length c0_2] 24 (0, 0)) (BA BK281.out)) : gb330 ≠ gb281)); replace BK281 := Aside0.mk (blk_below (BA BK281.out) hb); have NB282_330 := Aside0.mk ((by rw [hg]; exact Nat.ne_of_lt (blk_lt (g := gb282) (o := .cells #[.int .i64 a1_0, .int .i64 a1_1, .string a1_2] 26 (0, 0)) (BA BK282.out)) : gb282 ≠ gb330)); have NB330_282 := Aside0.mk ((by rw [hg]; exact Nat.ne_of_gt (blk_lt (g := gb282) (o := .cells #[.int .i64 a1_0, .int .i64 a1_1, .string a1_2] 26 (0, 0)) (BA BK282.out)) : gb330 ≠ gb282)); replace BK282 := Aside0.mk (blk_below (BA BK282.out) hb); have NB296_330 := Aside0.mk ((by rw [hg]; exact Nat.ne_of_lt (blk_lt (g := gb296) (o := .cells #[.int .i64 t290, .bool t291, .slice Ao48 t292.length co48] 31 (0, 0)) (BA BK296.out)) : gb296 ≠ gb330)); have NB330_296 := Aside0.mk ((by rw [hg]; exact Nat.ne_of_gt (blk_lt (g := gb296) (o := .cells #[.int .i64 t290, .bool t291, .slice Ao48 t292.length co48] 31 (0, 0)) (BA BK296.out)) : gb330 ≠ gb296)); replace BK296 := Aside0.mk (blk_below (BA BK296.out) hb); have NB303_330 := Aside0.mk ((by rw [hg]; exact Nat.ne_of_lt (blk_lt (g := gb303) (o := .cells #[.int .i64 t297, .bool t298, .slice Ao61 t299.length co61] 24 (0, 0)) (BA BK303.out)) : gb303 ≠ gb330)); have NB330_303 := Aside0.mk ((by rw [hg]; exact Nat.ne_of_gt (blk_lt (g := gb303) (o := .cells #[.int .i64 t297, .bool t298, .slice Ao61 t299.length co61] 24 (0, 0)) (BA BK303.out)) : gb330 ≠ gb303)); replace BK303 := Aside0.mk (blk_below (BA BK303.out) hb); have NB318_330 := Aside0.mk ((by rw [hg]; exact Nat.ne_of_lt (blk_lt (g := gb318) (o := .cells #[.int .i64 t309, .bool t310, .slice Ao74 t311.length co74] 31 (0, 0)) (BA BK318.out)) : gb318 ≠ gb330)); have NB330_318 := Aside0.mk ((by rw [hg]; exact Nat.ne_of_gt (blk_lt (g := gb318) (o := .cells #[.int .i64 t309, .bool t310, .slice Ao74 t311.length co74] 31 (0, 0)) (BA BK318.out)) : gb330 ≠ gb318)); replace BK318 := Aside0.mk (blk_below (BA BK318.out) hb); have NB319_330 := Aside0.mk ((by rw [hg]; exact Nat.ne_of_lt (blk_lt (g := gb319) (o := .cells #[.int .i64 t314, .int .i64 t315, .string t316] 36 (0, 0)) (BA BK319.out)) : gb319 ≠ gb330)); have NB330_319 := Aside0.mk ((by rw [hg]; exact Nat.ne_of_gt (blk_lt (g := gb319) (o := .cells #[.int .i64 t314, .int .i64 t315, .string t316] 36 (0, 0)) (BA BK319.out)) : gb330 ≠ gb319)); replace BK319 := Aside0.mk (blk_below (BA BK319.out) hb); have NB329_330 := Aside0.mk ((by rw [hg]; exact Nat.ne_of_lt (blk_lt (g := gb329) (o := .cells #[.int .i64 0, .bool false, .slice none 0 0] 24 (0, 0)) (BA BK329.out)) : gb329 ≠ gb330)); have NB330_329 := Aside0.mk ((by rw [hg]; exact Nat.ne_of_gt (blk_lt (g := gb329) (o := .cells #[.int .i64 0, .bool false, .slice none 0 0] 24 (0, 0)) (BA BK329.out)) : gb330 ≠ gb329)); replace BK329 := Aside0.mk (blk_below (BA BK329.out) hb); clear hb hbox hg; have hnb86 := NB329_281.out; have hnc86 := NB281_329.out; have hnb87 := NB329_282.out; have hnc87 := NB282_329.out; have hnb88 := NB329_296.out; have hnc88 := NB296_329.out; have hnb89 := NB329_303.out; have hnc89 := NB303_329.out; have hnb90 := NB329_318.out; have hnc90 := NB318_329.out; have hnb91 := NB329_319.out; have hnc91 := NB319_329.out; have hnb92 := NB329_330.out; have hnc92 := NB330_329.out; obtain ⟨hcz93_0, hcz93_1, hcz93_2, hfz93_0, hfz93_1, hfz93_2⟩ := cz3 BK329.out; obtain ⟨Ao94, co94, eo94⟩ := Kd.V_slice HO324.out; subst eo94; have hnb95 := NB330_281.out; have hnc95 := NB281_330.out; have hnb96 := NB330_282.out; have hnc96 := NB282_330.out; have hnb97 := NB330_296.out; have hnc97 := NB296_330.out; have hnb98 := NB330_303.out; have hnc98 := NB303_330.out; have hnb99 := NB330_318.out; have hnc99 := NB318_330.out; have hnb100 := NB330_319.out; have hnc100 := NB319_330.out; obtain ⟨hcz101_0, hcz101_1, hcz101_2, hfz101_0, hfz101_1, hfz101_2⟩ := cz3 BK330.out; obtain ⟨hcz102_0, hcz102_1, hcz102_2, hfz102_0, hfz102_1, hfz102_2⟩ := cz3 BK281.out) | ((with_reducible refine gate_callee (f := 9) rfl ?_); refine goesL_ (some 57) rfl rfl Try.func9 (by kernel_rfl) rfl #[.agg #[.int .i64 a0_0, .bool a0_1, .slice A0_2 l0_2.length c0_2]] rfl (by (try simp only [List.map_toArray, List.map_cons, List.map_nil]); first | done | rfl | (simp only [List.length_drop, List.length_take]; rfl)) ?_; (with_reducible refine (hopperlaw08_own.calls k a0_0 a0_1 _ _ l0_2 t331 t332 t333 _ ?side1 ?side2 A12.out).mono ?_); (case side1 => exact Kd.C_below HR0_2.out (LG HB.out (G1 GE329.out (G1 GE330.out G0)))); (case side2 => exact HC0_2.out); rintro e w103 ⟨v334, rfl, ho0, hb⟩; refine ⟨_, rfl, ?_⟩; replace HO294 := Aside0.mk (Kd.V_elder' ((Kd.V_mono (Kd.V_mono (Kd.V_ms (gs := [gb330, gb329]) (Kd.V_mono (Kd.V_mono HO294.out (fun k_ hk => (⟨hk, hk.1.2⟩ : _ ∧ k_ ≠ gb329))) (fun k_ hk => (⟨hk, hk.1.2⟩ : _ ∧ k_ ≠ gb330))) (fun _ hk => N1 (hk.2) (N1 (hk.1.2) (N0)))) (fun _ h_ => h_.1)) (fun _ h_ => h_.1))) (Kd.R_base ho0) hb); replace HO301 := Aside0.mk (Kd.V_elder' ((Kd.V_mono (Kd.V_mono (Kd.V_ms (gs := [gb330, gb329]) (Kd.V_mono (Kd.V_mono HO301.out (fun k_ hk => (⟨hk, hk.1.2⟩ : _ ∧ k_ ≠ gb329))) (fun k_ hk => (⟨hk, hk.1.2⟩ : _ ∧ k_ ≠ gb330))) (fun _ hk => N1 (hk.2) (N1 (hk.1.2) (N0)))) (fun _ h_ => h_.1)) (fun _ h_ => h_.1))) (Kd.R_base ho0) hb); replace HO313 := Aside0.mk (Kd.V_elder' ((Kd.V_mono (Kd.V_mono (Kd.V_ms (gs := [gb330, gb329]) (Kd.V_mono (Kd.V_mono HO313.out (fun k_ hk => (⟨hk, hk.1.2⟩ : _ ∧ k_ ≠ gb329))) (fun k_ hk => (⟨hk, hk.1.2⟩ : _ ∧ k_ ≠ gb330))) (fun _ hk => N1 (hk.2) (N1 (hk.1.2) (N0)))) (fun _ h_ => h_.1)) (fun _ h_ => h_.1))) (Kd.R_base ho0) hb); replace HO324 := Aside0.mk (Kd.V_elder' ((Kd.V_mono (Kd.V_mono (Kd.V_ms (gs := [gb330, gb329]) (Kd.V_mono (Kd.V_mono HO324.out (fun k_ hk => (⟨hk, hk.1.2⟩ : _ ∧ k_ ≠ gb329))) (fun k_ hk => (⟨hk, hk.1.2⟩ : _ ∧ k_ ≠ gb330))) (fun _ hk => N1 (hk.2) (N1 (hk.1.2) (N0)))) (fun _ h_ => h_.1)) (fun _ h_ => h_.1))) (Kd.R_base ho0) hb); have HO335 := Aside0.mk (Kd.R_lower (Kd.R_newB (Kd.R_new' (Kd.R_new' ho0 (Kd.R_lt ((Kd.R_mono (Kd.R_mono (Kd.R_ms (gs := [gb330, gb329]) (Kd.R_types (Kd.R_types HO289.out BK329.out (by decide)) BK330.out (by decide)) (fun _ hk => N1 (hk.2) (N1 (hk.1.2) (N0)))) (fun _ h_ => h_.1)) (fun _ h_ => h_.1))))) (Kd.R_lt ((Kd.R_mono (Kd.R_mono (Kd.R_ms (gs := [gb330, gb329]) (Kd.R_types (Kd.R_types HO308.out BK329.out (by decide)) BK330.out (by decide)) (fun _ hk => N1 (hk.2) (N1 (hk.1.2) (N0)))) (fun _ h_ => h_.1)) (fun _ h_ => h_.1))))) (g := gb319) (o := .cells #[.int .i64 t314, .int .i64 t315, .string t316] 36 (0, 0)) (BM BK319.out (N1 NB319_330.out (N1 NB319_329.out N0)))) (below_size (LG HB.out (G1 GE329.out (G1 GE330.out G0))))); replace HO289 := Aside0.mk (Kd.R_elder' ((Kd.R_mono (Kd.R_mono (Kd.R_ms (gs := [gb330, gb329]) (Kd.R_types (Kd.R_types HO289.out BK329.out (by decide)) BK330.out (by decide)) (fun _ hk => N1 (hk.2) (N1 (hk.1.2) (N0)))) (fun _ h_ => h_.1)) (fun _ h_ => h_.1))) (Kd.R_base ho0) hb); replace HO308 := Aside0.mk (Kd.R_elder' ((Kd.R_mono (Kd.R_mono (Kd.R_ms (gs := [gb330, gb329]) (Kd.R_types (Kd.R_types HO308.out BK329.out (by decide)) BK330.out (by decide)) (fun _ hk => N1 (hk.2) (N1 (hk.1.2) (N0)))) (fun _ h_ => h_.1)) (fun _ h_ => h_.1))) (Kd.R_base ho0) hb); replace BK281 := Aside0.mk (blk_below (BM BK281.out (N1 NB281_330.out (N1 NB281_329.out N0))) hb); replace BK282 := Aside0.mk (blk_below (BM BK282.out (N1 NB282_330.out (N1 NB282_329.out N0))) hb); replace BK296 := Aside0.mk (blk_below (BM BK296.out (N1 NB296_330.out (N1 NB296_329.out N0))) hb); replace BK303 := Aside0.mk (blk_below (BM BK303.out (N1 NB303_330.out (N1 NB303_329.out N0))) hb); replace BK318 := Aside0.mk (blk_below (BM BK318.out (N1 NB318_330.out (N1 NB318_329.out N0))) hb); replace BK319 := Aside0.mk (blk_below (BM BK319.out (N1 NB319_330.out (N1 NB319_329.out N0))) hb); replace BK329 := Aside0.mk (blk_below (g := gb329) (o := .cells #[.int .i64 t320, .bool t321, .slice Ao94 t322.length co94] 24 (0, 0)) (by (with_reducible repeat (first | refine blk_drewN ?_ _ | refine blk_drew ?_ | refine blk_alloc ?_ _)); refine blk_far ?_ NB329_330.out _; (with_reducible repeat (first | refine blk_drewN ?_ _ | refine blk_drew ?_ | refine blk_alloc ?_ _)); refine blk_far ?_ NB329_330.out _; (with_reducible repeat (first | refine blk_drewN ?_ _ | refine blk_drew ?_ | refine blk_alloc ?_ _)); refine blk_far ?_ NB329_330.out _; exact BP BK329.out (by rfl)) hb); replace BK330 := Aside0.mk (blk_below (g := gb330) (o := .cells #[.int .i64 t325, .int .i64 t326, .string t327] 26 (0, 0)) (by (with_reducible repeat (first | refine blk_drewN ?_ _ | refine blk_drew ?_ | refine blk_alloc ?_ _)); refine blk_put (cs := #[.int .i64 t325, .int .i64 t326, .string (⟨#[]⟩ : ByteArray)]) ?_ 2 _ rfl; (with_reducible repeat (first | refine blk_drewN ?_ _ | refine blk_drew ?_ | refine blk_alloc ?_ _)); refine blk_put (cs := #[.int .i64 t325, .int .i64 0, .string (⟨#[]⟩ : ByteArray)]) ?_ 1 _ rfl; (with_reducible repeat (first | refine blk_drewN ?_ _ | refine blk_drew ?_ | refine blk_alloc ?_ _)); refine blk_put (cs := #[.int .i64 0, .int .i64 0, .string (⟨#[]⟩ : ByteArray)]) ?_ 0 _ rfl; exact BF BK330.out NB330_329.out) hb); replace HB := Aside0.mk (below_step (LG HB.out (G1 GE329.out (G1 GE330.out G0))) hb); (try clear hb); (try clear hb2); (try clear hk); (try clear hi); (try clear ho0); obtain ⟨Ao104, co104, eo104⟩ := Kd.R_slice HO335.out; subst eo104) | ((with_reducible refine gate_callee (f := 14) rfl ?_); refine goesL_ (some 58) rfl rfl Try.func14 (by kernel_rfl) rfl #[.agg #[.int .i64 t331, .bool t332, .slice Ao104 t333.length co104]] rfl (by (try simp only [List.map_toArray, List.map_cons, List.map_nil]); first | done | rfl | (simp only [List.length_drop, List.length_take]; rfl)) ?_; (with_reducible refine (pipe_Pipe_Close.calls t331 t332 (fun k_ => some k_ = (.slice Ao104 t333.length co104 : Value).ownBlock) _ _ t333 t336 t337 t338 t341 _ ?side1 A13.out).mono ?_); (case side1 => exact Kd.R_V (Kd.R_tight rfl (Kd.R_types (Kd.R_types (Kd.R_types (Kd.R_types (Kd.R_types (Kd.R_types (Kd.R_types (HO335.out) BK281.out (by decide)) BK282.out (by decide)) BK296.out (by decide)) BK303.out (by decide)) BK318.out (by decide)) BK329.out (by decide)) BK330.out (by decide)))); rintro e w105 ⟨v339, rfl, ho0, hb⟩; refine ⟨_, rfl, ?_⟩; replace HO294 := Aside0.mk (Kd.V_below (Kd.VA HO294.out) hb); replace HO301 := Aside0.mk (Kd.V_below (Kd.VA HO301.out) hb); replace HO313 := Aside0.mk (Kd.V_below (Kd.VA HO313.out) hb); replace HO324 := Aside0.mk (Kd.V_below (Kd.VA HO324.out) hb); have HO340 := Aside0.mk (Kd.V_lower (Kd.V_mono (ok' := fun k_ => some k_ ≠ (v288 : Value).ownBlock ∧ some k_ ≠ (.slice Ao64 t306.length co64 : Value).ownBlock ∧ k_ ≠ gb281 ∧ k_ ≠ gb282 ∧ k_ ≠ gb296 ∧ k_ ≠ gb303 ∧ k_ ≠ gb318 ∧ k_ ≠ gb319 ∧ k_ ≠ gb329 ∧ k_ ≠ gb330) ho0 (fun k_ hk_ => ⟨Or.elim hk_ (fun hs_ => ((Kd.R_types (Kd.R_types (Kd.R_types (Kd.R_types (Kd.R_types (Kd.R_types (Kd.R_types (HO335.out) BK281.out (by decide)) BK282.out (by decide)) BK296.out (by decide)) BK303.out (by decide)) BK318.out (by decide)) BK329.out (by decide)) BK330.out (by decide)).1 k_ hs_.symm).1.1.1.1.1.1.1.1.1.2) (fun hn_ => (Kd.fresh' (Kd.R_lt (Kd.RA HO289.out)) k_ hn_)), Or.elim hk_ (fun hs_ => ((Kd.R_types (Kd.R_types (Kd.R_types (Kd.R_types (Kd.R_types (Kd.R_types (Kd.R_types (HO335.out) BK281.out (by decide)) BK282.out (by decide)) BK296.out (by decide)) BK303.out (by decide)) BK318.out (by decide)) BK329.out (by decide)) BK330.out (by decide)).1 k_ hs_.symm).1.1.1.1.1.1.1.1.2) (fun hn_ => (Kd.fresh' (Kd.R_lt (Kd.RA HO308.out)) k_ hn_)), Or.elim hk_ (fun hs_ => ((Kd.R_types (Kd.R_types (Kd.R_types (Kd.R_types (Kd.R_types (Kd.R_types (Kd.R_types (HO335.out) BK281.out (by decide)) BK282.out (by decide)) BK296.out (by decide)) BK303.out (by decide)) BK318.out (by decide)) BK329.out (by decide)) BK330.out (by decide)).1 k_ hs_.symm).1.1.1.1.1.1.2) (fun hn_ => (Kd.freshB (g := gb281) (o := .cells #[.int .i64 a0_0, .bool a0_1, .slice A0_2 l0_2.length c0_2] 24 (0, 0)) (BA BK281.out) k_ hn_)), Or.elim hk_ (fun hs_ => ((Kd.R_types (Kd.R_types (Kd.R_types (Kd.R_types (Kd.R_types (Kd.R_types (Kd.R_types (HO335.out) BK281.out (by decide)) BK282.out (by decide)) BK296.out (by decide)) BK303.out (by decide)) BK318.out (by decide)) BK329.out (by decide)) BK330.out (by decide)).1 k_ hs_.symm).1.1.1.1.1.2) (fun hn_ => (Kd.freshB (g := gb282) (o := .cells #[.int .i64 a1_0, .int .i64 a1_1, .string a1_2] 26 (0, 0)) (BA BK282.out) k_ hn_)), Or.elim hk_ (fun hs_ => ((Kd.R_types (Kd.R_types (Kd.R_types (Kd.R_types (Kd.R_types (Kd.R_types (Kd.R_types (HO335.out) BK281.out (by decide)) BK282.out (by decide)) BK296.out (by decide)) BK303.out (by decide)) BK318.out (by decide)) BK329.out (by decide)) BK330.out (by decide)).1 k_ hs_.symm).1.1.1.1.2) (fun hn_ => (Kd.freshB (g := gb296) (o := .cells #[.int .i64 t290, .bool t291, .slice Ao48 t292.length co48] 31 (0, 0)) (BA BK296.out) k_ hn_)), Or.elim hk_ (fun hs_ => ((Kd.R_types (Kd.R_types (Kd.R_types (Kd.R_types (Kd.R_types (Kd.R_types (Kd.R_types (HO335.out) BK281.out (by decide)) BK282.out (by decide)) BK296.out (by decide)) BK303.out (by decide)) BK318.out (by decide)) BK329.out (by decide)) BK330.out (by decide)).1 k_ hs_.symm).1.1.1.2) (fun hn_ => (Kd.freshB (g := gb303) (o := .cells #[.int .i64 t297, .bool t298, .slice Ao61 t299.length co61] 24 (0, 0)) (BA BK303.out) k_ hn_)), Or.elim hk_ (fun hs_ => ((Kd.R_types (Kd.R_types (Kd.R_types (Kd.R_types (Kd.R_types (Kd.R_types (Kd.R_types (HO335.out) BK281.out (by decide)) BK282.out (by decide)) BK296.out (by decide)) BK303.out (by decide)) BK318.out (by decide)) BK329.out (by decide)) BK330.out (by decide)).1 k_ hs_.symm).1.1.2) (fun hn_ => (Kd.freshB (g := gb318) (o := .cells #[.int .i64 t309, .bool t310, .slice Ao74 t311.length co74] 31 (0, 0)) (BA BK318.out) k_ hn_)), Or.elim hk_ (fun hs_ => ((Kd.R_types (Kd.R_types (Kd.R_types (Kd.R_types (Kd.R_types (Kd.R_types (Kd.R_types (HO335.out) BK281.out (by decide)) BK282.out (by decide)) BK296.out (by decide)) BK303.out (by decide)) BK318.out (by decide)) BK329.out (by decide)) BK330.out (by decide)).1 k_ hs_.symm).1.1.1.1.1.1.1.2) (fun hn_ => (Kd.freshB (g := gb319) (o := .cells #[.int .i64 t314, .int .i64 t315, .string t316] 36 (0, 0)) (BA BK319.out) k_ hn_)), Or.elim hk_ (fun hs_ => ((Kd.R_types (Kd.R_types (Kd.R_types (Kd.R_types (Kd.R_types (Kd.R_types (Kd.R_types (HO335.out) BK281.out (by decide)) BK282.out (by decide)) BK296.out (by decide)) BK303.out (by decide)) BK318.out (by decide)) BK329.out (by decide)) BK330.out (by decide)).1 k_ hs_.symm).1.2) (fun hn_ => (Kd.freshB (g := gb329) (o := .cells #[.int .i64 t320, .bool t321, .slice Ao94 t322.length co94] 24 (0, 0)) (BA BK329.out) k_ hn_)), Or.elim hk_ (fun hs_ => ((Kd.R_types (Kd.R_types (Kd.R_types (Kd.R_types (Kd.R_types (Kd.R_types (Kd.R_types (HO335.out) BK281.out (by decide)) BK282.out (by decide)) BK296.out (by decide)) BK303.out (by decide)) BK318.out (by decide)) BK329.out (by decide)) BK330.out (by decide)).1 k_ hs_.symm).2) (fun hn_ => (Kd.freshB (g := gb330) (o := .cells #[.int .i64 t325, .int .i64 t326, .string t327] 26 (0, 0)) (BA BK330.out) k_ hn_))⟩)) (below_size (LA HB.out))); replace HO289 := Aside0.mk (Kd.R_below (Kd.RA HO289.out) hb); replace HO308 := Aside0.mk (Kd.R_below (Kd.RA HO308.out) hb); replace HO335 := Aside0.mk (Kd.R_below (Kd.RA HO335.out) hb); replace BK281 := Aside0.mk (blk_below (BA BK281.out) hb); replace BK282 := Aside0.mk (blk_below (BA BK282.out) hb); replace BK296 := Aside0.mk (blk_below (BA BK296.out) hb); replace BK303 := Aside0.mk (blk_below (BA BK303.out) hb); replace BK318 := Aside0.mk (blk_below (BA BK318.out) hb); replace BK319 := Aside0.mk (blk_below (BA BK319.out) hb); replace BK329 := Aside0.mk (blk_below (BA BK329.out) hb); replace BK330 := Aside0.mk (blk_below (BA BK330.out) hb); replace HB := Aside0.mk (below_step (LA HB.out) hb); (try clear hb); (try clear hb2); (try clear hk); (try clear hi); (try clear ho0)) | ((with_reducible refine gate_dst (N := 17) rfl ?_); refine box_event ?hg (N := 17) ?hd (cs := #[.int .i64 0, .bool false, .slice none 0 0]) (t := 31) ?hr ?_; (case hd => rfl); (case hg => rfl); (case hr => first | (go_simp; done) | (go_simp; rfl)); intro gb342 hg w106 hbox hb; replace HO289 := Aside0.mk (Kd.R_below (Kd.RA HO289.out) hb); replace HO294 := Aside0.mk (Kd.V_below (Kd.V_elderB (Kd.VA HO294.out) gb342 (Nat.le_of_eq hg.symm)) hb); replace HO301 := Aside0.mk (Kd.V_below (Kd.V_elderB (Kd.VA HO301.out) gb342 (Nat.le_of_eq hg.symm)) hb); replace HO308 := Aside0.mk (Kd.R_below (Kd.RA HO308.out) hb); replace HO313 := Aside0.mk (Kd.V_below (Kd.V_elderB (Kd.VA HO313.out) gb342 (Nat.le_of_eq hg.symm)) hb); replace HO324 := Aside0.mk (Kd.V_below (Kd.V_elderB (Kd.VA HO324.out) gb342 (Nat.le_of_eq hg.symm)) hb); replace HO335 := Aside0.mk (Kd.R_below (Kd.RA HO335.out) hb); replace HO340 := Aside0.mk (Kd.V_below (Kd.V_elderB (Kd.VA HO340.out) gb342 (Nat.le_of_eq hg.symm)) hb); have BK342 := Aside0.mk (hbox); have GW342 := Aside0.mk (ge1 hg (LA HB.out)); have GE342 := Aside0.mk (ge1 hg (LA HB.out)); replace HB := Aside0.mk (below_step (LA HB.out) hb); have NB281_342 := Aside0.mk ((by rw [hg]; exact Nat.ne_of_lt (blk_lt (g := gb281) (o := .cells #[.int .i64 a0_0, .bool a0_1, .slice A0_2 l0_2.length c0_2] 24 (0, 0)) (BA BK281.out)) : gb281 ≠ gb342)); have NB342_281 := Aside0.mk ((by rw [hg]; exact Nat.ne_of_gt (blk_lt (g := gb281) (o := .cells #[.int .i64 a0_0, .bool a0_1, .slice A0_2 l0_2.length c0_2] 24 (0, 0)) (BA BK281.out)) : gb342 ≠ gb281)); replace BK281 := Aside0.mk (blk_below (BA BK281.out) hb); have NB282_342 := Aside0.mk ((by rw [hg]; exact Nat.ne_of_lt (blk_lt (g := gb282) (o := .cells #[.int .i64 a1_0, .int .i64 a1_1, .string a1_2] 26 (0, 0)) (BA BK282.out)) : gb282 ≠ gb342)); have NB342_282 := Aside0.mk ((by rw [hg]; exact Nat.ne_of_gt (blk_lt (g := gb282) (o := .cells #[.int .i64 a1_0, .int .i64 a1_1, .string a1_2] 26 (0, 0)) (BA BK282.out)) : gb342 ≠ gb282)); replace BK282 := Aside0.mk (blk_below (BA BK282.out) hb); have NB296_342 := Aside0.mk ((by rw [hg]; exact Nat.ne_of_lt (blk_lt (g := gb296) (o := .cells #[.int .i64 t290, .bool t291, .slice Ao48 t292.length co48] 31 (0, 0)) (BA BK296.out)) : gb296 ≠ gb342)); have NB342_296 := Aside0.mk ((by rw [hg]; exact Nat.ne_of_gt (blk_lt (g := gb296) (o := .cells #[.int .i64 t290, .bool t291, .slice Ao48 t292.length co48] 31 (0, 0)) (BA BK296.out)) : gb342 ≠ gb296)); replace BK296 := Aside0.mk (blk_below (BA BK296.out) hb); have NB303_342 := Aside0.mk ((by rw [hg]; exact Nat.ne_of_lt (blk_lt (g := gb303) (o := .cells #[.int .i64 t297, .bool t298, .slice Ao61 t299.length co61] 24 (0, 0)) (BA BK303.out)) : gb303 ≠ gb342)); have NB342_303 := Aside0.mk ((by rw [hg]; exact Nat.ne_of_gt (blk_lt (g := gb303) (o := .cells #[.int .i64 t297, .bool t298, .slice Ao61 t299.length co61] 24 (0, 0)) (BA BK303.out)) : gb342 ≠ gb303)); replace BK303 := Aside0.mk (blk_below (BA BK303.out) hb); have NB318_342 := Aside0.mk ((by rw [hg]; exact Nat.ne_of_lt (blk_lt (g := gb318) (o := .cells #[.int .i64 t309, .bool t310, .slice Ao74 t311.length co74] 31 (0, 0)) (BA BK318.out)) : gb318 ≠ gb342)); have NB342_318 := Aside0.mk ((by rw [hg]; exact Nat.ne_of_gt (blk_lt (g := gb318) (o := .cells #[.int .i64 t309, .bool t310, .slice Ao74 t311.length co74] 31 (0, 0)) (BA BK318.out)) : gb342 ≠ gb318)); replace BK318 := Aside0.mk (blk_below (BA BK318.out) hb); have NB319_342 := Aside0.mk ((by rw [hg]; exact Nat.ne_of_lt (blk_lt (g := gb319) (o := .cells #[.int .i64 t314, .int .i64 t315, .string t316] 36 (0, 0)) (BA BK319.out)) : gb319 ≠ gb342)); have NB342_319 := Aside0.mk ((by rw [hg]; exact Nat.ne_of_gt (blk_lt (g := gb319) (o := .cells #[.int .i64 t314, .int .i64 t315, .string t316] 36 (0, 0)) (BA BK319.out)) : gb342 ≠ gb319)); replace BK319 := Aside0.mk (blk_below (BA BK319.out) hb); have NB329_342 := Aside0.mk ((by rw [hg]; exact Nat.ne_of_lt (blk_lt (g := gb329) (o := .cells #[.int .i64 t320, .bool t321, .slice Ao94 t322.length co94] 24 (0, 0)) (BA BK329.out)) : gb329 ≠ gb342)); have NB342_329 := Aside0.mk ((by rw [hg]; exact Nat.ne_of_gt (blk_lt (g := gb329) (o := .cells #[.int .i64 t320, .bool t321, .slice Ao94 t322.length co94] 24 (0, 0)) (BA BK329.out)) : gb342 ≠ gb329)); replace BK329 := Aside0.mk (blk_below (BA BK329.out) hb); have NB330_342 := Aside0.mk ((by rw [hg]; exact Nat.ne_of_lt (blk_lt (g := gb330) (o := .cells #[.int .i64 t325, .int .i64 t326, .string t327] 26 (0, 0)) (BA BK330.out)) : gb330 ≠ gb342)); have NB342_330 := Aside0.mk ((by rw [hg]; exact Nat.ne_of_gt (blk_lt (g := gb330) (o := .cells #[.int .i64 t325, .int .i64 t326, .string t327] 26 (0, 0)) (BA BK330.out)) : gb342 ≠ gb330)); replace BK330 := Aside0.mk (blk_below (BA BK330.out) hb); clear hb hbox hg; have hnb107 := NB342_281.out; have hnc107 := NB281_342.out; have hnb108 := NB342_282.out; have hnc108 := NB282_342.out; have hnb109 := NB342_296.out; have hnc109 := NB296_342.out; have hnb110 := NB342_303.out; have hnc110 := NB303_342.out; have hnb111 := NB342_318.out; have hnc111 := NB318_342.out; have hnb112 := NB342_319.out; have hnc112 := NB319_342.out; have hnb113 := NB342_329.out; have hnc113 := NB329_342.out; have hnb114 := NB342_330.out; have hnc114 := NB330_342.out; obtain ⟨hcz115_0, hcz115_1, hcz115_2, hfz115_0, hfz115_1, hfz115_2⟩ := cz3 BK342.out; obtain ⟨Ao116, co116, eo116⟩ := Kd.V_slice HO340.out; subst eo116) | ((with_reducible refine gate_store (t := 31) (p := 17) rfl ?_); refine store_event (t := 31) (p := 17) (v := ?vo_w117) (w1 := (((w106.setCell ⟨gb342, 0, none⟩ (.int .i64 t336)).setCell ⟨gb342, 1, none⟩ (.bool t337)).setCell ⟨gb342, 2, none⟩ (.slice Ao116 t338.length co116))) ?hg ?ho ?hn ?hr ?_; (case ho => rfl); (case hg => rfl); (case hn => rfl); (case hr => first | (go_simp; done) | (go_simp; rfl)); intro w117 hw; replace HO289 : Aside0 (Kd.R k36 36 w117 w.heap.size (fun k_ => some k_ ≠ (.slice Ao64 t306.length co64 : Value).ownBlock ∧ some k_ ≠ (.slice Ao104 t333.length co104 : Value).ownBlock ∧ k_ ≠ gb319) v288 t287) := ⟨(by rw [hw]; exact (Kd.R_mono (Kd.R_mv (g := gb342) (Kd.R_types HO289.out BK342.out (by decide)) (fun _ hk => hk.2)) (fun _ hk => ⟨hk.1.1.1, ⟨hk.1.2, hk.1.1.2⟩⟩)))⟩; replace HO294 : Aside0 (Kd.V k36 36 w117 w.heap.size (fun k_ => some k_ ≠ (.slice Ao64 t306.length co64 : Value).ownBlock ∧ some k_ ≠ (.slice Ao104 t333.length co104 : Value).ownBlock ∧ k_ ≠ gb281 ∧ k_ ≠ gb282 ∧ k_ ≠ gb296 ∧ k_ ≠ gb303 ∧ k_ ≠ gb318 ∧ k_ ≠ gb319 ∧ k_ ≠ gb329 ∧ k_ ≠ gb330 ∧ k_ ≠ gb342) (.slice Ao48 t292.length co48) t292) := ⟨(by rw [hw]; exact (Kd.V_mono (Kd.V_mv (g := gb342) (Kd.V_mono HO294.out (fun k_ hk => (⟨hk, hk.2⟩ : _ ∧ k_ ≠ gb342))) (fun _ hk => hk.2)) (fun _ hk => ⟨hk.1.1.1.1.1.1, ⟨hk.1.1.2, ⟨hk.1.1.1.1.1.2.1, ⟨hk.1.1.1.1.1.2.2.1, ⟨hk.1.1.1.1.1.2.2.2.1, ⟨hk.1.1.1.1.1.2.2.2.2.1, ⟨hk.1.1.1.1.1.2.2.2.2.2.1, ⟨hk.1.1.1.1.1.2.2.2.2.2.2, ⟨hk.1.1.1.1.2, ⟨hk.1.1.1.2, hk.1.2⟩⟩⟩⟩⟩⟩⟩⟩⟩⟩)))⟩; replace HO301 : Aside0 (Kd.V k26 26 w117 w.heap.size (fun k_ => some k_ ≠ (v288 : Value).ownBlock ∧ some k_ ≠ (.slice Ao64 t306.length co64 : Value).ownBlock ∧ some k_ ≠ (.slice Ao104 t333.length co104 : Value).ownBlock ∧ k_ ≠ gb281 ∧ k_ ≠ gb282 ∧ k_ ≠ gb296 ∧ k_ ≠ gb303 ∧ k_ ≠ gb318 ∧ k_ ≠ gb319 ∧ k_ ≠ gb329 ∧ k_ ≠ gb330 ∧ k_ ≠ gb342) (.slice Ao61 t299.length co61) t299) := ⟨(by rw [hw]; exact (Kd.V_mono (Kd.V_mv (g := gb342) (Kd.V_mono HO301.out (fun k_ hk => (⟨hk, hk.2⟩ : _ ∧ k_ ≠ gb342))) (fun _ hk => hk.2)) (fun _ hk => ⟨hk.1.1.1.1.1.1, ⟨hk.1.1.1.1.1.2.1, ⟨hk.1.1.2, ⟨hk.1.1.1.1.1.2.2.1, ⟨hk.1.1.1.1.1.2.2.2.1, ⟨hk.1.1.1.1.1.2.2.2.2.1, ⟨hk.1.1.1.1.1.2.2.2.2.2.1, ⟨hk.1.1.1.1.1.2.2.2.2.2.2.1, ⟨hk.1.1.1.1.1.2.2.2.2.2.2.2, ⟨hk.1.1.1.1.2, ⟨hk.1.1.1.2, hk.1.2⟩⟩⟩⟩⟩⟩⟩⟩⟩⟩⟩)))⟩; replace HO308 : Aside0 (Kd.R k36 36 w117 w.heap.size (fun k_ => some k_ ≠ (v288 : Value).ownBlock ∧ some k_ ≠ (.slice Ao104 t333.length co104 : Value).ownBlock ∧ k_ ≠ gb319) (.slice Ao64 t306.length co64) t306) := ⟨(by rw [hw]; exact (Kd.R_mono (Kd.R_mv (g := gb342) (Kd.R_types HO308.out BK342.out (by decide)) (fun _ hk => hk.2)) (fun _ hk => ⟨hk.1.1.1, ⟨hk.1.2, hk.1.1.2⟩⟩)))⟩; replace HO313 : Aside0 (Kd.V k36 36 w117 w.heap.size (fun k_ => some k_ ≠ (v288 : Value).ownBlock ∧ some k_ ≠ (.slice Ao104 t333.length co104 : Value).ownBlock ∧ k_ ≠ gb281 ∧ k_ ≠ gb282 ∧ k_ ≠ gb296 ∧ k_ ≠ gb303 ∧ k_ ≠ gb318 ∧ k_ ≠ gb319 ∧ k_ ≠ gb329 ∧ k_ ≠ gb330 ∧ k_ ≠ gb342) (.slice Ao74 t311.length co74) t311) := ⟨(by rw [hw]; exact (Kd.V_mono (Kd.V_mv (g := gb342) (Kd.V_mono HO313.out (fun k_ hk => (⟨hk, hk.2⟩ : _ ∧ k_ ≠ gb342))) (fun _ hk => hk.2)) (fun _ hk => ⟨hk.1.1.1.1.1.1, ⟨hk.1.1.2, ⟨hk.1.1.1.1.1.2.1, ⟨hk.1.1.1.1.1.2.2.1, ⟨hk.1.1.1.1.1.2.2.2.1, ⟨hk.1.1.1.1.1.2.2.2.2.1, ⟨hk.1.1.1.1.1.2.2.2.2.2.1, ⟨hk.1.1.1.1.1.2.2.2.2.2.2, ⟨hk.1.1.1.1.2, ⟨hk.1.1.1.2, hk.1.2⟩⟩⟩⟩⟩⟩⟩⟩⟩⟩)))⟩; replace HO324 : Aside0 (Kd.V k26 26 w117 w.heap.size (fun k_ => some k_ ≠ (v288 : Value).ownBlock ∧ some k_ ≠ (.slice Ao64 t306.length co64 : Value).ownBlock ∧ some k_ ≠ (.slice Ao104 t333.length co104 : Value).ownBlock ∧ k_ ≠ gb281 ∧ k_ ≠ gb282 ∧ k_ ≠ gb296 ∧ k_ ≠ gb303 ∧ k_ ≠ gb318 ∧ k_ ≠ gb319 ∧ k_ ≠ gb329 ∧ k_ ≠ gb330 ∧ k_ ≠ gb342) (.slice Ao94 t322.length co94) t322) := ⟨(by rw [hw]; exact (Kd.V_mono (Kd.V_mv (g := gb342) (Kd.V_mono HO324.out (fun k_ hk => (⟨hk, hk.2⟩ : _ ∧ k_ ≠ gb342))) (fun _ hk => hk.2)) (fun _ hk => ⟨hk.1.1.1.1.1.1, ⟨hk.1.1.1.1.1.2.1, ⟨hk.1.1.2, ⟨hk.1.1.1.1.1.2.2.1, ⟨hk.1.1.1.1.1.2.2.2.1, ⟨hk.1.1.1.1.1.2.2.2.2.1, ⟨hk.1.1.1.1.1.2.2.2.2.2.1, ⟨hk.1.1.1.1.1.2.2.2.2.2.2.1, ⟨hk.1.1.1.1.1.2.2.2.2.2.2.2, ⟨hk.1.1.1.1.2, ⟨hk.1.1.1.2, hk.1.2⟩⟩⟩⟩⟩⟩⟩⟩⟩⟩⟩)))⟩; replace HO335 : Aside0 (Kd.R k36 36 w117 w.heap.size (fun k_ => some k_ ≠ (v288 : Value).ownBlock ∧ some k_ ≠ (.slice Ao64 t306.length co64 : Value).ownBlock ∧ k_ ≠ gb319) (.slice Ao104 t333.length co104) t333) := ⟨(by rw [hw]; exact (Kd.R_mono (Kd.R_mv (g := gb342) (Kd.R_types HO335.out BK342.out (by decide)) (fun _ hk => hk.2)) (fun _ hk => ⟨hk.1.1.1.2, ⟨hk.1.1.2, hk.1.2⟩⟩)))⟩; replace HO340 : Aside0 (Kd.V k36 36 w117 w.heap.size (fun k_ => some k_ ≠ (v288 : Value).ownBlock ∧ some k_ ≠ (.slice Ao64 t306.length co64 : Value).ownBlock ∧ k_ ≠ gb281 ∧ k_ ≠ gb282 ∧ k_ ≠ gb296 ∧ k_ ≠ gb303 ∧ k_ ≠ gb318 ∧ k_ ≠ gb319 ∧ k_ ≠ gb329 ∧ k_ ≠ gb330 ∧ k_ ≠ gb342) (.slice Ao116 t338.length co116) t338) := ⟨(by rw [hw]; exact (Kd.V_mono (Kd.V_mv (g := gb342) (Kd.V_mono HO340.out (fun k_ hk => (⟨hk, hk.2⟩ : _ ∧ k_ ≠ gb342))) (fun _ hk => hk.2)) (fun _ hk => ⟨hk.1.1.1, ⟨hk.1.1.2.1, ⟨hk.1.1.2.2.1, ⟨hk.1.1.2.2.2.1, ⟨hk.1.1.2.2.2.2.1, ⟨hk.1.1.2.2.2.2.2.1, ⟨hk.1.1.2.2.2.2.2.2.1, ⟨hk.1.1.2.2.2.2.2.2.2.1, ⟨hk.1.1.2.2.2.2.2.2.2.2.1, ⟨hk.1.1.2.2.2.2.2.2.2.2.2, hk.1.2⟩⟩⟩⟩⟩⟩⟩⟩⟩⟩)))⟩; replace BK281 : Aside0 (w117.heap[gb281]? = some (.cells #[.int .i64 a0_0, .bool a0_1, .slice A0_2 l0_2.length c0_2] 24 (0, 0))) := ⟨(by rw [hw]; exact (BF BK281.out NB281_342.out))⟩; replace BK282 : Aside0 (w117.heap[gb282]? = some (.cells #[.int .i64 a1_0, .int .i64 a1_1, .string a1_2] 26 (0, 0))) := ⟨(by rw [hw]; exact (BF BK282.out NB282_342.out))⟩; replace BK296 : Aside0 (w117.heap[gb296]? = some (.cells #[.int .i64 t290, .bool t291, .slice Ao48 t292.length co48] 31 (0, 0))) := ⟨(by rw [hw]; exact (BF BK296.out NB296_342.out))⟩; replace BK303 : Aside0 (w117.heap[gb303]? = some (.cells #[.int .i64 t297, .bool t298, .slice Ao61 t299.length co61] 24 (0, 0))) := ⟨(by rw [hw]; exact (BF BK303.out NB303_342.out))⟩; replace BK318 : Aside0 (w117.heap[gb318]? = some (.cells #[.int .i64 t309, .bool t310, .slice Ao74 t311.length co74] 31 (0, 0))) := ⟨(by rw [hw]; exact (BF BK318.out NB318_342.out))⟩; replace BK319 : Aside0 (w117.heap[gb319]? = some (.cells #[.int .i64 t314, .int .i64 t315, .string t316] 36 (0, 0))) := ⟨(by rw [hw]; exact (BF BK319.out NB319_342.out))⟩; replace BK329 : Aside0 (w117.heap[gb329]? = some (.cells #[.int .i64 t320, .bool t321, .slice Ao94 t322.length co94] 24 (0, 0))) := ⟨(by rw [hw]; exact (BF BK329.out NB329_342.out))⟩; replace BK330 : Aside0 (w117.heap[gb330]? = some (.cells #[.int .i64 t325, .int .i64 t326, .string t327] 26 (0, 0))) := ⟨(by rw [hw]; exact (BF BK330.out NB330_342.out))⟩; replace BK342 : Aside0 (w117.heap[gb342]? = some (.cells #[.int .i64 t336, .bool t337, .slice Ao116 t338.length co116] 31 (0, 0))) := ⟨(by rw [hw]; exact (BP BK342.out (by rfl)))⟩; replace HB : Aside0 (Below w.heap.size w w117) := ⟨(by rw [hw]; exact (LG HB.out (G1 GE342.out G0)))⟩; clear hw; obtain ⟨hcz118_0, hcz118_1, hcz118_2, hfz118_0, hfz118_1, hfz118_2⟩ := cz3 BK281.out) | ((with_reducible refine gate_callee (f := 15) rfl ?_); refine goesL_ (some 63) rfl rfl Try.func15 (by kernel_rfl) rfl #[.agg #[.int .i64 a0_0, .bool a0_1, .slice A0_2 l0_2.length c0_2]] rfl (by (try simp only [List.map_toArray, List.map_cons, List.map_nil]); first | done | rfl | (simp only [List.length_drop, List.length_take]; rfl)) ?_; (with_reducible refine (hopperref08_Close.calls a0_0 a0_1 (fun k_ => k_ < w.heap.size) _ _ l0_2 t343 t344 t345 t348 _ ?side1 A14.out).mono ?_); (case side1 => exact Kd.V_mk HC0_2.out (Kd.F_below (Kd.C_F k26_heap HR0_2.out) (LA HB.out))); rintro e w119 ⟨v346, rfl, ho0, hb⟩; refine ⟨_, rfl, ?_⟩; replace HO294 := Aside0.mk (Kd.V_below (Kd.VA HO294.out) hb); replace HO301 := Aside0.mk (Kd.V_below (Kd.VA HO301.out) hb); replace HO313 := Aside0.mk (Kd.V_below (Kd.VA HO313.out) hb); replace HO324 := Aside0.mk (Kd.V_below (Kd.VA HO324.out) hb); replace HO340 := Aside0.mk (Kd.V_below (Kd.VA HO340.out) hb); have HO347 := Aside0.mk (Kd.V_lower (Kd.V_mono (ok' := fun k_ => some k_ ≠ (v288 : Value).ownBlock ∧ some k_ ≠ (.slice Ao64 t306.length co64 : Value).ownBlock ∧ some k_ ≠ (.slice Ao104 t333.length co104 : Value).ownBlock ∧ k_ ≠ gb281 ∧ k_ ≠ gb282 ∧ k_ ≠ gb296 ∧ k_ ≠ gb303 ∧ k_ ≠ gb318 ∧ k_ ≠ gb319 ∧ k_ ≠ gb329 ∧ k_ ≠ gb330 ∧ k_ ≠ gb342) ho0 (fun k_ hk_ => ⟨Or.elim hk_ (fun hs_ => fun e_ => Nat.not_le.2 hs_ (Kd.R_base HO289.out k_ e_.symm)) (fun hn_ => (Kd.fresh' (Kd.R_lt (Kd.RA HO289.out)) k_ hn_)), Or.elim hk_ (fun hs_ => fun e_ => Nat.not_le.2 hs_ (Kd.R_base HO308.out k_ e_.symm)) (fun hn_ => (Kd.fresh' (Kd.R_lt (Kd.RA HO308.out)) k_ hn_)), Or.elim hk_ (fun hs_ => fun e_ => Nat.not_le.2 hs_ (Kd.R_base HO335.out k_ e_.symm)) (fun hn_ => (Kd.fresh' (Kd.R_lt (Kd.RA HO335.out)) k_ hn_)), Or.elim hk_ (fun hs_ => fun e_ => Nat.not_le.2 hs_ (by rw [e_]; exact GW281.out)) (fun hn_ => (Kd.freshB (g := gb281) (o := .cells #[.int .i64 a0_0, .bool a0_1, .slice A0_2 l0_2.length c0_2] 24 (0, 0)) (BA BK281.out) k_ hn_)), Or.elim hk_ (fun hs_ => fun e_ => Nat.not_le.2 hs_ (by rw [e_]; exact GW282.out)) (fun hn_ => (Kd.freshB (g := gb282) (o := .cells #[.int .i64 a1_0, .int .i64 a1_1, .string a1_2] 26 (0, 0)) (BA BK282.out) k_ hn_)), Or.elim hk_ (fun hs_ => fun e_ => Nat.not_le.2 hs_ (by rw [e_]; exact GW296.out)) (fun hn_ => (Kd.freshB (g := gb296) (o := .cells #[.int .i64 t290, .bool t291, .slice Ao48 t292.length co48] 31 (0, 0)) (BA BK296.out) k_ hn_)), Or.elim hk_ (fun hs_ => fun e_ => Nat.not_le.2 hs_ (by rw [e_]; exact GW303.out)) (fun hn_ => (Kd.freshB (g := gb303) (o := .cells #[.int .i64 t297, .bool t298, .slice Ao61 t299.length co61] 24 (0, 0)) (BA BK303.out) k_ hn_)), Or.elim hk_ (fun hs_ => fun e_ => Nat.not_le.2 hs_ (by rw [e_]; exact GW318.out)) (fun hn_ => (Kd.freshB (g := gb318) (o := .cells #[.int .i64 t309, .bool t310, .slice Ao74 t311.length co74] 31 (0, 0)) (BA BK318.out) k_ hn_)), Or.elim hk_ (fun hs_ => fun e_ => Nat.not_le.2 hs_ (by rw [e_]; exact GW319.out)) (fun hn_ => (Kd.freshB (g := gb319) (o := .cells #[.int .i64 t314, .int .i64 t315, .string t316] 36 (0, 0)) (BA BK319.out) k_ hn_)), Or.elim hk_ (fun hs_ => fun e_ => Nat.not_le.2 hs_ (by rw [e_]; exact GW329.out)) (fun hn_ => (Kd.freshB (g := gb329) (o := .cells #[.int .i64 t320, .bool t321, .slice Ao94 t322.length co94] 24 (0, 0)) (BA BK329.out) k_ hn_)), Or.elim hk_ (fun hs_ => fun e_ => Nat.not_le.2 hs_ (by rw [e_]; exact GW330.out)) (fun hn_ => (Kd.freshB (g := gb330) (o := .cells #[.int .i64 t325, .int .i64 t326, .string t327] 26 (0, 0)) (BA BK330.out) k_ hn_)), Or.elim hk_ (fun hs_ => fun e_ => Nat.not_le.2 hs_ (by rw [e_]; exact GW342.out)) (fun hn_ => (Kd.freshB (g := gb342) (o := .cells #[.int .i64 t336, .bool t337, .slice Ao116 t338.length co116] 31 (0, 0)) (BA BK342.out) k_ hn_))⟩)) (below_size (LA HB.out))); replace HO289 := Aside0.mk (Kd.R_below (Kd.RA HO289.out) hb); replace HO308 := Aside0.mk (Kd.R_below (Kd.RA HO308.out) hb); replace HO335 := Aside0.mk (Kd.R_below (Kd.RA HO335.out) hb); replace BK281 := Aside0.mk (blk_below (BA BK281.out) hb); replace BK282 := Aside0.mk (blk_below (BA BK282.out) hb); replace BK296 := Aside0.mk (blk_below (BA BK296.out) hb); replace BK303 := Aside0.mk (blk_below (BA BK303.out) hb); replace BK318 := Aside0.mk (blk_below (BA BK318.out) hb); replace BK319 := Aside0.mk (blk_below (BA BK319.out) hb); replace BK329 := Aside0.mk (blk_below (BA BK329.out) hb); replace BK330 := Aside0.mk (blk_below (BA BK330.out) hb); replace BK342 := Aside0.mk (blk_below (BA BK342.out) hb); replace HB := Aside0.mk (below_step (LA HB.out) hb); (try clear hb); (try clear hb2); (try clear hk); (try clear hi); (try clear ho0)) | ((with_reducible refine gate_dst (N := 19) rfl ?_); refine box_event ?hg (N := 19) ?hd (cs := #[.int .i64 0, .bool false, .slice none 0 0]) (t := 24) ?hr ?_; (case hd => rfl); (case hg => rfl); (case hr => first | (go_simp; done) | (go_simp; rfl)); intro gb349 hg w120 hbox hb; replace HO289 := Aside0.mk (Kd.R_below (Kd.RA HO289.out) hb); replace HO294 := Aside0.mk (Kd.V_below (Kd.V_elderB (Kd.VA HO294.out) gb349 (Nat.le_of_eq hg.symm)) hb); replace HO301 := Aside0.mk (Kd.V_below (Kd.V_elderB (Kd.VA HO301.out) gb349 (Nat.le_of_eq hg.symm)) hb); replace HO308 := Aside0.mk (Kd.R_below (Kd.RA HO308.out) hb); replace HO313 := Aside0.mk (Kd.V_below (Kd.V_elderB (Kd.VA HO313.out) gb349 (Nat.le_of_eq hg.symm)) hb); replace HO324 := Aside0.mk (Kd.V_below (Kd.V_elderB (Kd.VA HO324.out) gb349 (Nat.le_of_eq hg.symm)) hb); replace HO335 := Aside0.mk (Kd.R_below (Kd.RA HO335.out) hb); replace HO340 := Aside0.mk (Kd.V_below (Kd.V_elderB (Kd.VA HO340.out) gb349 (Nat.le_of_eq hg.symm)) hb); replace HO347 := Aside0.mk (Kd.V_below (Kd.V_elderB (Kd.VA HO347.out) gb349 (Nat.le_of_eq hg.symm)) hb); have BK349 := Aside0.mk (hbox); have GE349 := Aside0.mk (ge1 hg (LA HB.out)); replace HB := Aside0.mk (below_step (LA HB.out) hb); have NB281_349 := Aside0.mk ((by rw [hg]; exact Nat.ne_of_lt (blk_lt (g := gb281) (o := .cells #[.int .i64 a0_0, .bool a0_1, .slice A0_2 l0_2.length c0_2] 24 (0, 0)) (BA BK281.out)) : gb281 ≠ gb349)); have NB349_281 := Aside0.mk ((by rw [hg]; exact Nat.ne_of_gt (blk_lt (g := gb281) (o := .cells #[.int .i64 a0_0, .bool a0_1, .slice A0_2 l0_2.length c0_2] 24 (0, 0)) (BA BK281.out)) : gb349 ≠ gb281)); replace BK281 := Aside0.mk (blk_below (BA BK281.out) hb); have NB282_349 := Aside0.mk ((by rw [hg]; exact Nat.ne_of_lt (blk_lt (g := gb282) (o := .cells #[.int .i64 a1_0, .int .i64 a1_1, .string a1_2] 26 (0, 0)) (BA BK282.out)) : gb282 ≠ gb349)); have NB349_282 := Aside0.mk ((by rw [hg]; exact Nat.ne_of_gt (blk_lt (g := gb282) (o := .cells #[.int .i64 a1_0, .int .i64 a1_1, .string a1_2] 26 (0, 0)) (BA BK282.out)) : gb349 ≠ gb282)); replace BK282 := Aside0.mk (blk_below (BA BK282.out) hb); have NB296_349 := Aside0.mk ((by rw [hg]; exact Nat.ne_of_lt (blk_lt (g := gb296) (o := .cells #[.int .i64 t290, .bool t291, .slice Ao48 t292.length co48] 31 (0, 0)) (BA BK296.out)) : gb296 ≠ gb349)); have NB349_296 := Aside0.mk ((by rw [hg]; exact Nat.ne_of_gt (blk_lt (g := gb296) (o := .cells #[.int .i64 t290, .bool t291, .slice Ao48 t292.length co48] 31 (0, 0)) (BA BK296.out)) : gb349 ≠ gb296)); replace BK296 := Aside0.mk (blk_below (BA BK296.out) hb); have NB303_349 := Aside0.mk ((by rw [hg]; exact Nat.ne_of_lt (blk_lt (g := gb303) (o := .cells #[.int .i64 t297, .bool t298, .slice Ao61 t299.length co61] 24 (0, 0)) (BA BK303.out)) : gb303 ≠ gb349)); have NB349_303 := Aside0.mk ((by rw [hg]; exact Nat.ne_of_gt (blk_lt (g := gb303) (o := .cells #[.int .i64 t297, .bool t298, .slice Ao61 t299.length co61] 24 (0, 0)) (BA BK303.out)) : gb349 ≠ gb303)); replace BK303 := Aside0.mk (blk_below (BA BK303.out) hb); have NB318_349 := Aside0.mk ((by rw [hg]; exact Nat.ne_of_lt (blk_lt (g := gb318) (o := .cells #[.int .i64 t309, .bool t310, .slice Ao74 t311.length co74] 31 (0, 0)) (BA BK318.out)) : gb318 ≠ gb349)); have NB349_318 := Aside0.mk ((by rw [hg]; exact Nat.ne_of_gt (blk_lt (g := gb318) (o := .cells #[.int .i64 t309, .bool t310, .slice Ao74 t311.length co74] 31 (0, 0)) (BA BK318.out)) : gb349 ≠ gb318)); replace BK318 := Aside0.mk (blk_below (BA BK318.out) hb); have NB319_349 := Aside0.mk ((by rw [hg]; exact Nat.ne_of_lt (blk_lt (g := gb319) (o := .cells #[.int .i64 t314, .int .i64 t315, .string t316] 36 (0, 0)) (BA BK319.out)) : gb319 ≠ gb349)); have NB349_319 := Aside0.mk ((by rw [hg]; exact Nat.ne_of_gt (blk_lt (g := gb319) (o := .cells #[.int .i64 t314, .int .i64 t315, .string t316] 36 (0, 0)) (BA BK319.out)) : gb349 ≠ gb319)); replace BK319 := Aside0.mk (blk_below (BA BK319.out) hb); have NB329_349 := Aside0.mk ((by rw [hg]; exact Nat.ne_of_lt (blk_lt (g := gb329) (o := .cells #[.int .i64 t320, .bool t321, .slice Ao94 t322.length co94] 24 (0, 0)) (BA BK329.out)) : gb329 ≠ gb349)); have NB349_329 := Aside0.mk ((by rw [hg]; exact Nat.ne_of_gt (blk_lt (g := gb329) (o := .cells #[.int .i64 t320, .bool t321, .slice Ao94 t322.length co94] 24 (0, 0)) (BA BK329.out)) : gb349 ≠ gb329)); replace BK329 := Aside0.mk (blk_below (BA BK329.out) hb); have NB330_349 := Aside0.mk ((by rw [hg]; exact Nat.ne_of_lt (blk_lt (g := gb330) (o := .cells #[.int .i64 t325, .int .i64 t326, .string t327] 26 (0, 0)) (BA BK330.out)) : gb330 ≠ gb349)); have NB349_330 := Aside0.mk ((by rw [hg]; exact Nat.ne_of_gt (blk_lt (g := gb330) (o := .cells #[.int .i64 t325, .int .i64 t326, .string t327] 26 (0, 0)) (BA BK330.out)) : gb349 ≠ gb330)); replace BK330 := Aside0.mk (blk_below (BA BK330.out) hb); have NB342_349 := Aside0.mk ((by rw [hg]; exact Nat.ne_of_lt (blk_lt (g := gb342) (o := .cells #[.int .i64 t336, .bool t337, .slice Ao116 t338.length co116] 31 (0, 0)) (BA BK342.out)) : gb342 ≠ gb349)); have NB349_342 := Aside0.mk ((by rw [hg]; exact Nat.ne_of_gt (blk_lt (g := gb342) (o := .cells #[.int .i64 t336, .bool t337, .slice Ao116 t338.length co116] 31 (0, 0)) (BA BK342.out)) : gb349 ≠ gb342)); replace BK342 := Aside0.mk (blk_below (BA BK342.out) hb); clear hb hbox hg; have hnb121 := NB349_281.out; have hnc121 := NB281_349.out; have hnb122 := NB349_282.out; have hnc122 := NB282_349.out; have hnb123 := NB349_296.out; have hnc123 := NB296_349.out; have hnb124 := NB349_303.out; have hnc124 := NB303_349.out; have hnb125 := NB349_318.out; have hnc125 := NB318_349.out; have hnb126 := NB349_319.out; have hnc126 := NB319_349.out; have hnb127 := NB349_329.out; have hnc127 := NB329_349.out; have hnb128 := NB349_330.out; have hnc128 := NB330_349.out; have hnb129 := NB349_342.out; have hnc129 := NB342_349.out; obtain ⟨hcz130_0, hcz130_1, hcz130_2, hfz130_0, hfz130_1, hfz130_2⟩ := cz3 BK349.out; obtain ⟨Ao131, co131, eo131⟩ := Kd.V_slice HO347.out; subst eo131) | ((with_reducible refine gate_callee (f := 16) rfl ?_); refine goesL_ (some 68) rfl rfl Try.func16 (by kernel_rfl) rfl #[.int .i64 a2] rfl (by (try simp only [List.map_toArray, List.map_cons, List.map_nil]); first | done | rfl | (simp only [List.length_drop, List.length_take]; rfl)) ?_; (with_reducible refine (pipe_New.calls a2 t350 t351 t352 t355 _ A15.out).mono ?_); rintro e w132 ⟨v353, rfl, ho0, hb⟩; refine ⟨_, rfl, ?_⟩; replace HO294 := Aside0.mk (Kd.V_elder' ((Kd.V_mono (Kd.V_mv (g := gb349) (Kd.V_mono HO294.out (fun k_ hk => (⟨hk, hk.2⟩ : _ ∧ k_ ≠ gb349))) (fun _ hk => hk.2)) (fun _ h_ => h_.1))) (Kd.R_base ho0) hb); replace HO301 := Aside0.mk (Kd.V_elder' ((Kd.V_mono (Kd.V_mv (g := gb349) (Kd.V_mono HO301.out (fun k_ hk => (⟨hk, hk.2⟩ : _ ∧ k_ ≠ gb349))) (fun _ hk => hk.2)) (fun _ h_ => h_.1))) (Kd.R_base ho0) hb); replace HO313 := Aside0.mk (Kd.V_elder' ((Kd.V_mono (Kd.V_mv (g := gb349) (Kd.V_mono HO313.out (fun k_ hk => (⟨hk, hk.2⟩ : _ ∧ k_ ≠ gb349))) (fun _ hk => hk.2)) (fun _ h_ => h_.1))) (Kd.R_base ho0) hb); replace HO324 := Aside0.mk (Kd.V_elder' ((Kd.V_mono (Kd.V_mv (g := gb349) (Kd.V_mono HO324.out (fun k_ hk => (⟨hk, hk.2⟩ : _ ∧ k_ ≠ gb349))) (fun _ hk => hk.2)) (fun _ h_ => h_.1))) (Kd.R_base ho0) hb); replace HO340 := Aside0.mk (Kd.V_elder' ((Kd.V_mono (Kd.V_mv (g := gb349) (Kd.V_mono HO340.out (fun k_ hk => (⟨hk, hk.2⟩ : _ ∧ k_ ≠ gb349))) (fun _ hk => hk.2)) (fun _ h_ => h_.1))) (Kd.R_base ho0) hb); replace HO347 := Aside0.mk (Kd.V_elder' ((Kd.V_mono (Kd.V_mv (g := gb349) (Kd.V_mono HO347.out (fun k_ hk => (⟨hk, hk.2⟩ : _ ∧ k_ ≠ gb349))) (fun _ hk => hk.2)) (fun _ h_ => h_.1))) (Kd.R_base ho0) hb); have HO354 := Aside0.mk (Kd.R_lower (Kd.R_newB (Kd.R_new' (Kd.R_new' (Kd.R_new' ho0 (Kd.R_lt ((Kd.R_mono (Kd.R_mv (g := gb349) (Kd.R_types HO289.out BK349.out (by decide)) (fun _ hk => hk.2)) (fun _ h_ => h_.1))))) (Kd.R_lt ((Kd.R_mono (Kd.R_mv (g := gb349) (Kd.R_types HO308.out BK349.out (by decide)) (fun _ hk => hk.2)) (fun _ h_ => h_.1))))) (Kd.R_lt ((Kd.R_mono (Kd.R_mv (g := gb349) (Kd.R_types HO335.out BK349.out (by decide)) (fun _ hk => hk.2)) (fun _ h_ => h_.1))))) (g := gb319) (o := .cells #[.int .i64 t314, .int .i64 t315, .string t316] 36 (0, 0)) (BF BK319.out NB319_349.out)) (below_size (LG HB.out (G1 GE349.out G0)))); replace HO289 := Aside0.mk (Kd.R_elder' ((Kd.R_mono (Kd.R_mv (g := gb349) (Kd.R_types HO289.out BK349.out (by decide)) (fun _ hk => hk.2)) (fun _ h_ => h_.1))) (Kd.R_base ho0) hb); replace HO308 := Aside0.mk (Kd.R_elder' ((Kd.R_mono (Kd.R_mv (g := gb349) (Kd.R_types HO308.out BK349.out (by decide)) (fun _ hk => hk.2)) (fun _ h_ => h_.1))) (Kd.R_base ho0) hb); replace HO335 := Aside0.mk (Kd.R_elder' ((Kd.R_mono (Kd.R_mv (g := gb349) (Kd.R_types HO335.out BK349.out (by decide)) (fun _ hk => hk.2)) (fun _ h_ => h_.1))) (Kd.R_base ho0) hb); replace BK281 := Aside0.mk (blk_below (BF BK281.out NB281_349.out) hb); replace BK282 := Aside0.mk (blk_below (BF BK282.out NB282_349.out) hb); replace BK296 := Aside0.mk (blk_below (BF BK296.out NB296_349.out) hb); replace BK303 := Aside0.mk (blk_below (BF BK303.out NB303_349.out) hb); replace BK318 := Aside0.mk (blk_below (BF BK318.out NB318_349.out) hb); replace BK319 := Aside0.mk (blk_below (BF BK319.out NB319_349.out) hb); replace BK329 := Aside0.mk (blk_below (BF BK329.out NB329_349.out) hb); replace BK330 := Aside0.mk (blk_below (BF BK330.out NB330_349.out) hb); replace BK342 := Aside0.mk (blk_below (BF BK342.out NB342_349.out) hb); replace BK349 := Aside0.mk (blk_below (g := gb349) (o := .cells #[.int .i64 t343, .bool t344, .slice Ao131 t345.length co131] 24 (0, 0)) (BP BK349.out (by rfl)) hb); replace HB := Aside0.mk (below_step (LG HB.out (G1 GE349.out G0)) hb); (try clear hb); (try clear hb2); (try clear hk); (try clear hi); (try clear ho0)) | ((with_reducible refine gate_dst (N := 21) rfl ?_); refine box_event ?hg (N := 21) ?hd (cs := #[.int .i64 0, .bool false, .slice none 0 0]) (t := 31) ?hr ?_; (case hd => rfl); (case hg => rfl); (case hr => first | (go_simp; done) | (go_simp; rfl)); intro gb356 hg w133 hbox hb; replace HO289 := Aside0.mk (Kd.R_below (Kd.RA HO289.out) hb); replace HO294 := Aside0.mk (Kd.V_below (Kd.V_elderB (Kd.VA HO294.out) gb356 (Nat.le_of_eq hg.symm)) hb); replace HO301 := Aside0.mk (Kd.V_below (Kd.V_elderB (Kd.VA HO301.out) gb356 (Nat.le_of_eq hg.symm)) hb); replace HO308 := Aside0.mk (Kd.R_below (Kd.RA HO308.out) hb); replace HO313 := Aside0.mk (Kd.V_below (Kd.V_elderB (Kd.VA HO313.out) gb356 (Nat.le_of_eq hg.symm)) hb); replace HO324 := Aside0.mk (Kd.V_below (Kd.V_elderB (Kd.VA HO324.out) gb356 (Nat.le_of_eq hg.symm)) hb); replace HO335 := Aside0.mk (Kd.R_below (Kd.RA HO335.out) hb); replace HO340 := Aside0.mk (Kd.V_below (Kd.V_elderB (Kd.VA HO340.out) gb356 (Nat.le_of_eq hg.symm)) hb); replace HO347 := Aside0.mk (Kd.V_below (Kd.V_elderB (Kd.VA HO347.out) gb356 (Nat.le_of_eq hg.symm)) hb); replace HO354 := Aside0.mk (Kd.R_below (Kd.RA HO354.out) hb); have BK356 := Aside0.mk (hbox); have GE356 := Aside0.mk (ge1 hg (LA HB.out)); replace HB := Aside0.mk (below_step (LA HB.out) hb); have NB281_356 := Aside0.mk ((by rw [hg]; exact Nat.ne_of_lt (blk_lt (g := gb281) (o := .cells #[.int .i64 a0_0, .bool a0_1, .slice A0_2 l0_2.length c0_2] 24 (0, 0)) (BA BK281.out)) : gb281 ≠ gb356)); have NB356_281 := Aside0.mk ((by rw [hg]; exact Nat.ne_of_gt (blk_lt (g := gb281) (o := .cells #[.int .i64 a0_0, .bool a0_1, .slice A0_2 l0_2.length c0_2] 24 (0, 0)) (BA BK281.out)) : gb356 ≠ gb281)); replace BK281 := Aside0.mk (blk_below (BA BK281.out) hb); have NB282_356 := Aside0.mk ((by rw [hg]; exact Nat.ne_of_lt (blk_lt (g := gb282) (o := .cells #[.int .i64 a1_0, .int .i64 a1_1, .string a1_2] 26 (0, 0)) (BA BK282.out)) : gb282 ≠ gb356)); have NB356_282 := Aside0.mk ((by rw [hg]; exact Nat.ne_of_gt (blk_lt (g := gb282) (o := .cells #[.int .i64 a1_0, .int .i64 a1_1, .string a1_2] 26 (0, 0)) (BA BK282.out)) : gb356 ≠ gb282)); replace BK282 := Aside0.mk (blk_below (BA BK282.out) hb); have NB296_356 := Aside0.mk ((by rw [hg]; exact Nat.ne_of_lt (blk_lt (g := gb296) (o := .cells #[.int .i64 t290, .bool t291, .slice Ao48 t292.length co48] 31 (0, 0)) (BA BK296.out)) : gb296 ≠ gb356)); have NB356_296 := Aside0.mk ((by rw [hg]; exact Nat.ne_of_gt (blk_lt (g := gb296) (o := .cells #[.int .i64 t290, .bool t291, .slice Ao48 t292.length co48] 31 (0, 0)) (BA BK296.out)) : gb356 ≠ gb296)); replace BK296 := Aside0.mk (blk_below (BA BK296.out) hb); have NB303_356 := Aside0.mk ((by rw [hg]; exact Nat.ne_of_lt (blk_lt (g := gb303) (o := .cells #[.int .i64 t297, .bool t298, .slice Ao61 t299.length co61] 24 (0, 0)) (BA BK303.out)) : gb303 ≠ gb356)); have NB356_303 := Aside0.mk ((by rw [hg]; exact Nat.ne_of_gt (blk_lt (g := gb303) (o := .cells #[.int .i64 t297, .bool t298, .slice Ao61 t299.length co61] 24 (0, 0)) (BA BK303.out)) : gb356 ≠ gb303)); replace BK303 := Aside0.mk (blk_below (BA BK303.out) hb); have NB318_356 := Aside0.mk ((by rw [hg]; exact Nat.ne_of_lt (blk_lt (g := gb318) (o := .cells #[.int .i64 t309, .bool t310, .slice Ao74 t311.length co74] 31 (0, 0)) (BA BK318.out)) : gb318 ≠ gb356)); have NB356_318 := Aside0.mk ((by rw [hg]; exact Nat.ne_of_gt (blk_lt (g := gb318) (o := .cells #[.int .i64 t309, .bool t310, .slice Ao74 t311.length co74] 31 (0, 0)) (BA BK318.out)) : gb356 ≠ gb318)); replace BK318 := Aside0.mk (blk_below (BA BK318.out) hb); have NB319_356 := Aside0.mk ((by rw [hg]; exact Nat.ne_of_lt (blk_lt (g := gb319) (o := .cells #[.int .i64 t314, .int .i64 t315, .string t316] 36 (0, 0)) (BA BK319.out)) : gb319 ≠ gb356)); have NB356_319 := Aside0.mk ((by rw [hg]; exact Nat.ne_of_gt (blk_lt (g := gb319) (o := .cells #[.int .i64 t314, .int .i64 t315, .string t316] 36 (0, 0)) (BA BK319.out)) : gb356 ≠ gb319)); replace BK319 := Aside0.mk (blk_below (BA BK319.out) hb); have NB329_356 := Aside0.mk ((by rw [hg]; exact Nat.ne_of_lt (blk_lt (g := gb329) (o := .cells #[.int .i64 t320, .bool t321, .slice Ao94 t322.length co94] 24 (0, 0)) (BA BK329.out)) : gb329 ≠ gb356)); have NB356_329 := Aside0.mk ((by rw [hg]; exact Nat.ne_of_gt (blk_lt (g := gb329) (o := .cells #[.int .i64 t320, .bool t321, .slice Ao94 t322.length co94] 24 (0, 0)) (BA BK329.out)) : gb356 ≠ gb329)); replace BK329 := Aside0.mk (blk_below (BA BK329.out) hb); have NB330_356 := Aside0.mk ((by rw [hg]; exact Nat.ne_of_lt (blk_lt (g := gb330) (o := .cells #[.int .i64 t325, .int .i64 t326, .string t327] 26 (0, 0)) (BA BK330.out)) : gb330 ≠ gb356)); have NB356_330 := Aside0.mk ((by rw [hg]; exact Nat.ne_of_gt (blk_lt (g := gb330) (o := .cells #[.int .i64 t325, .int .i64 t326, .string t327] 26 (0, 0)) (BA BK330.out)) : gb356 ≠ gb330)); replace BK330 := Aside0.mk (blk_below (BA BK330.out) hb); have NB342_356 := Aside0.mk ((by rw [hg]; exact Nat.ne_of_lt (blk_lt (g := gb342) (o := .cells #[.int .i64 t336, .bool t337, .slice Ao116 t338.length co116] 31 (0, 0)) (BA BK342.out)) : gb342 ≠ gb356)); have NB356_342 := Aside0.mk ((by rw [hg]; exact Nat.ne_of_gt (blk_lt (g := gb342) (o := .cells #[.int .i64 t336, .bool t337, .slice Ao116 t338.length co116] 31 (0, 0)) (BA BK342.out)) : gb356 ≠ gb342)); replace BK342 := Aside0.mk (blk_below (BA BK342.out) hb); have NB349_356 := Aside0.mk ((by rw [hg]; exact Nat.ne_of_lt (blk_lt (g := gb349) (o := .cells #[.int .i64 t343, .bool t344, .slice Ao131 t345.length co131] 24 (0, 0)) (BA BK349.out)) : gb349 ≠ gb356)); have NB356_349 := Aside0.mk ((by rw [hg]; exact Nat.ne_of_gt (blk_lt (g := gb349) (o := .cells #[.int .i64 t343, .bool t344, .slice Ao131 t345.length co131] 24 (0, 0)) (BA BK349.out)) : gb356 ≠ gb349)); replace BK349 := Aside0.mk (blk_below (BA BK349.out) hb); clear hb hbox hg; have hnb134 := NB356_281.out; have hnc134 := NB281_356.out; have hnb135 := NB356_282.out; have hnc135 := NB282_356.out; have hnb136 := NB356_296.out; have hnc136 := NB296_356.out; have hnb137 := NB356_303.out; have hnc137 := NB303_356.out; have hnb138 := NB356_318.out; have hnc138 := NB318_356.out; have hnb139 := NB356_319.out; have hnc139 := NB319_356.out; have hnb140 := NB356_329.out; have hnc140 := NB329_356.out; have hnb141 := NB356_330.out; have hnc141 := NB330_356.out; have hnb142 := NB356_342.out; have hnc142 := NB342_356.out; have hnb143 := NB356_349.out; have hnc143 := NB349_356.out; obtain ⟨hcz144_0, hcz144_1, hcz144_2, hfz144_0, hfz144_1, hfz144_2⟩ := cz3 BK356.out; obtain ⟨Ao145, co145, eo145⟩ := Kd.R_slice HO354.out; subst eo145) | ((with_reducible refine gate_callee (f := 17) rfl ?_); refine goesL_ (some 73) rfl rfl Try.func17 (by kernel_rfl) rfl #[.int .i64 a2] rfl (by (try simp only [List.map_toArray, List.map_cons, List.map_nil]); first | done | rfl | (simp only [List.length_drop, List.length_take]; rfl)) ?_; (with_reducible refine (hopperref08_New.calls a2 t357 t358 t359 t362 _ A16.out).mono ?_); rintro e w146 ⟨v360, rfl, ho0, hb⟩; refine ⟨_, rfl, ?_⟩; replace HO289 := Aside0.mk (Kd.R_below ((Kd.R_mono (Kd.R_mv (g := gb356) (Kd.R_types HO289.out BK356.out (by decide)) (fun _ hk => hk.2)) (fun _ h_ => h_.1))) hb); replace HO294 := Aside0.mk (Kd.V_elder' ((Kd.V_mono (Kd.V_mv (g := gb356) (Kd.V_mono HO294.out (fun k_ hk => (⟨hk, hk.2⟩ : _ ∧ k_ ≠ gb356))) (fun _ hk => hk.2)) (fun _ h_ => h_.1))) (Kd.R_base ho0) hb); replace HO301 := Aside0.mk (Kd.V_elder' ((Kd.V_mono (Kd.V_mv (g := gb356) (Kd.V_mono HO301.out (fun k_ hk => (⟨hk, hk.2⟩ : _ ∧ k_ ≠ gb356))) (fun _ hk => hk.2)) (fun _ h_ => h_.1))) (Kd.R_base ho0) hb); replace HO308 := Aside0.mk (Kd.R_below ((Kd.R_mono (Kd.R_mv (g := gb356) (Kd.R_types HO308.out BK356.out (by decide)) (fun _ hk => hk.2)) (fun _ h_ => h_.1))) hb); replace HO313 := Aside0.mk (Kd.V_elder' ((Kd.V_mono (Kd.V_mv (g := gb356) (Kd.V_mono HO313.out (fun k_ hk => (⟨hk, hk.2⟩ : _ ∧ k_ ≠ gb356))) (fun _ hk => hk.2)) (fun _ h_ => h_.1))) (Kd.R_base ho0) hb); replace HO324 := Aside0.mk (Kd.V_elder' ((Kd.V_mono (Kd.V_mv (g := gb356) (Kd.V_mono HO324.out (fun k_ hk => (⟨hk, hk.2⟩ : _ ∧ k_ ≠ gb356))) (fun _ hk => hk.2)) (fun _ h_ => h_.1))) (Kd.R_base ho0) hb); replace HO335 := Aside0.mk (Kd.R_below ((Kd.R_mono (Kd.R_mv (g := gb356) (Kd.R_types HO335.out BK356.out (by decide)) (fun _ hk => hk.2)) (fun _ h_ => h_.1))) hb); replace HO340 := Aside0.mk (Kd.V_elder' ((Kd.V_mono (Kd.V_mv (g := gb356) (Kd.V_mono HO340.out (fun k_ hk => (⟨hk, hk.2⟩ : _ ∧ k_ ≠ gb356))) (fun _ hk => hk.2)) (fun _ h_ => h_.1))) (Kd.R_base ho0) hb); replace HO347 := Aside0.mk (Kd.V_elder' ((Kd.V_mono (Kd.V_mv (g := gb356) (Kd.V_mono HO347.out (fun k_ hk => (⟨hk, hk.2⟩ : _ ∧ k_ ≠ gb356))) (fun _ hk => hk.2)) (fun _ h_ => h_.1))) (Kd.R_base ho0) hb); replace HO354 := Aside0.mk (Kd.R_below ((Kd.R_mono (Kd.R_mv (g := gb356) (Kd.R_types HO354.out BK356.out (by decide)) (fun _ hk => hk.2)) (fun _ h_ => h_.1))) hb); have HO361 := Aside0.mk (Kd.R_lower (Kd.R_newB (Kd.R_newB ho0 (g := gb282) (o := .cells #[.int .i64 a1_0, .int .i64 a1_1, .string a1_2] 26 (0, 0)) (BF BK282.out NB282_356.out)) (g := gb330) (o := .cells #[.int .i64 t325, .int .i64 t326, .string t327] 26 (0, 0)) (BF BK330.out NB330_356.out)) (below_size (LG HB.out (G1 GE356.out G0)))); replace BK281 := Aside0.mk (blk_below (BF BK281.out NB281_356.out) hb); replace BK282 := Aside0.mk (blk_below (BF BK282.out NB282_356.out) hb); replace BK296 := Aside0.mk (blk_below (BF BK296.out NB296_356.out) hb); replace BK303 := Aside0.mk (blk_below (BF BK303.out NB303_356.out) hb); replace BK318 := Aside0.mk (blk_below (BF BK318.out NB318_356.out) hb); replace BK319 := Aside0.mk (blk_below (BF BK319.out NB319_356.out) hb); replace BK329 := Aside0.mk (blk_below (BF BK329.out NB329_356.out) hb); replace BK330 := Aside0.mk (blk_below (BF BK330.out NB330_356.out) hb); replace BK342 := Aside0.mk (blk_below (BF BK342.out NB342_356.out) hb); replace BK349 := Aside0.mk (blk_below (BF BK349.out NB349_356.out) hb); replace BK356 := Aside0.mk (blk_below (g := gb356) (o := .cells #[.int .i64 t350, .bool t351, .slice Ao145 t352.length co145] 31 (0, 0)) (BP BK356.out (by rfl)) hb); replace HB := Aside0.mk (below_step (LG HB.out (G1 GE356.out G0)) hb); (try clear hb); (try clear hb2); (try clear hk); (try clear hi); (try clear ho0)) | ((with_reducible refine gate_dst (N := 23) rfl ?_); refine box_event ?hg (N := 23) ?hd (cs := #[.int .i64 0, .bool false, .slice none 0 0]) (t := 24) ?hr ?_; (case hd => rfl); (case hg => rfl); (case hr => first | (go_simp; done) | (go_simp; rfl)); intro gb363 hg w147 hbox hb; replace HO289 := Aside0.mk (Kd.R_below (Kd.RA HO289.out) hb); replace HO294 := Aside0.mk (Kd.V_below (Kd.V_elderB (Kd.VA HO294.out) gb363 (Nat.le_of_eq hg.symm)) hb); replace HO301 := Aside0.mk (Kd.V_below (Kd.V_elderB (Kd.VA HO301.out) gb363 (Nat.le_of_eq hg.symm)) hb); replace HO308 := Aside0.mk (Kd.R_below (Kd.RA HO308.out) hb); replace HO313 := Aside0.mk (Kd.V_below (Kd.V_elderB (Kd.VA HO313.out) gb363 (Nat.le_of_eq hg.symm)) hb); replace HO324 := Aside0.mk (Kd.V_below (Kd.V_elderB (Kd.VA HO324.out) gb363 (Nat.le_of_eq hg.symm)) hb); replace HO335 := Aside0.mk (Kd.R_below (Kd.RA HO335.out) hb); replace HO340 := Aside0.mk (Kd.V_below (Kd.V_elderB (Kd.VA HO340.out) gb363 (Nat.le_of_eq hg.symm)) hb); replace HO347 := Aside0.mk (Kd.V_below (Kd.V_elderB (Kd.VA HO347.out) gb363 (Nat.le_of_eq hg.symm)) hb); replace HO354 := Aside0.mk (Kd.R_below (Kd.RA HO354.out) hb); replace HO361 := Aside0.mk (Kd.R_below (Kd.RA HO361.out) hb); have BK363 := Aside0.mk (hbox); have GE363 := Aside0.mk (ge1 hg (LA HB.out)); replace HB := Aside0.mk (below_step (LA HB.out) hb); have NB281_363 := Aside0.mk ((by rw [hg]; exact Nat.ne_of_lt (blk_lt (g := gb281) (o := .cells #[.int .i64 a0_0, .bool a0_1, .slice A0_2 l0_2.length c0_2] 24 (0, 0)) (BA BK281.out)) : gb281 ≠ gb363)); have NB363_281 := Aside0.mk ((by rw [hg]; exact Nat.ne_of_gt (blk_lt (g := gb281) (o := .cells #[.int .i64 a0_0, .bool a0_1, .slice A0_2 l0_2.length c0_2] 24 (0, 0)) (BA BK281.out)) : gb363 ≠ gb281)); replace BK281 := Aside0.mk (blk_below (BA BK281.out) hb); have NB282_363 := Aside0.mk ((by rw [hg]; exact Nat.ne_of_lt (blk_lt (g := gb282) (o := .cells #[.int .i64 a1_0, .int .i64 a1_1, .string a1_2] 26 (0, 0)) (BA BK282.out)) : gb282 ≠ gb363)); have NB363_282 := Aside0.mk ((by rw [hg]; exact Nat.ne_of_gt (blk_lt (g := gb282) (o := .cells #[.int .i64 a1_0, .int .i64 a1_1, .string a1_2] 26 (0, 0)) (BA BK282.out)) : gb363 ≠ gb282)); replace BK282 := Aside0.mk (blk_below (BA BK282.out) hb); have NB296_363 := Aside0.mk ((by rw [hg]; exact Nat.ne_of_lt (blk_lt (g := gb296) (o := .cells #[.int .i64 t290, .bool t291, .slice Ao48 t292.length co48] 31 (0, 0)) (BA BK296.out)) : gb296 ≠ gb363)); have NB363_296 := Aside0.mk ((by rw [hg]; exact Nat.ne_of_gt (blk_lt (g := gb296) (o := .cells #[.int .i64 t290, .bool t291, .slice Ao48 t292.length co48] 31 (0, 0)) (BA BK296.out)) : gb363 ≠ gb296)); replace BK296 := Aside0.mk (blk_below (BA BK296.out) hb); have NB303_363 := Aside0.mk ((by rw [hg]; exact Nat.ne_of_lt (blk_lt (g := gb303) (o := .cells #[.int .i64 t297, .bool t298, .slice Ao61 t299.length co61] 24 (0, 0)) (BA BK303.out)) : gb303 ≠ gb363)); have NB363_303 := Aside0.mk ((by rw [hg]; exact Nat.ne_of_gt (blk_lt (g := gb303) (o := .cells #[.int .i64 t297, .bool t298, .slice Ao61 t299.length co61] 24 (0, 0)) (BA BK303.out)) : gb363 ≠ gb303)); replace BK303 := Aside0.mk (blk_below (BA BK303.out) hb); have NB318_363 := Aside0.mk ((by rw [hg]; exact Nat.ne_of_lt (blk_lt (g := gb318) (o := .cells #[.int .i64 t309, .bool t310, .slice Ao74 t311.length co74] 31 (0, 0)) (BA BK318.out)) : gb318 ≠ gb363)); have NB363_318 := Aside0.mk ((by rw [hg]; exact Nat.ne_of_gt (blk_lt (g := gb318) (o := .cells #[.int .i64 t309, .bool t310, .slice Ao74 t311.length co74] 31 (0, 0)) (BA BK318.out)) : gb363 ≠ gb318)); replace BK318 := Aside0.mk (blk_below (BA BK318.out) hb); have NB319_363 := Aside0.mk ((by rw [hg]; exact Nat.ne_of_lt (blk_lt (g := gb319) (o := .cells #[.int .i64 t314, .int .i64 t315, .string t316] 36 (0, 0)) (BA BK319.out)) : gb319 ≠ gb363)); have NB363_319 := Aside0.mk ((by rw [hg]; exact Nat.ne_of_gt (blk_lt (g := gb319) (o := .cells #[.int .i64 t314, .int .i64 t315, .string t316] 36 (0, 0)) (BA BK319.out)) : gb363 ≠ gb319)); replace BK319 := Aside0.mk (blk_below (BA BK319.out) hb); have NB329_363 := Aside0.mk ((by rw [hg]; exact Nat.ne_of_lt (blk_lt (g := gb329) (o := .cells #[.int .i64 t320, .bool t321, .slice Ao94 t322.length co94] 24 (0, 0)) (BA BK329.out)) : gb329 ≠ gb363)); have NB363_329 := Aside0.mk ((by rw [hg]; exact Nat.ne_of_gt (blk_lt (g := gb329) (o := .cells #[.int .i64 t320, .bool t321, .slice Ao94 t322.length co94] 24 (0, 0)) (BA BK329.out)) : gb363 ≠ gb329)); replace BK329 := Aside0.mk (blk_below (BA BK329.out) hb); have NB330_363 := Aside0.mk ((by rw [hg]; exact Nat.ne_of_lt (blk_lt (g := gb330) (o := .cells #[.int .i64 t325, .int .i64 t326, .string t327] 26 (0, 0)) (BA BK330.out)) : gb330 ≠ gb363)); have NB363_330 := Aside0.mk ((by rw [hg]; exact Nat.ne_of_gt (blk_lt (g := gb330) (o := .cells #[.int .i64 t325, .int .i64 t326, .string t327] 26 (0, 0)) (BA BK330.out)) : gb363 ≠ gb330)); replace BK330 := Aside0.mk (blk_below (BA BK330.out) hb); have NB342_363 := Aside0.mk ((by rw [hg]; exact Nat.ne_of_lt (blk_lt (g := gb342) (o := .cells #[.int .i64 t336, .bool t337, .slice Ao116 t338.length co116] 31 (0, 0)) (BA BK342.out)) : gb342 ≠ gb363)); have NB363_342 := Aside0.mk ((by rw [hg]; exact Nat.ne_of_gt (blk_lt (g := gb342) (o := .cells #[.int .i64 t336, .bool t337, .slice Ao116 t338.length co116] 31 (0, 0)) (BA BK342.out)) : gb363 ≠ gb342)); replace BK342 := Aside0.mk (blk_below (BA BK342.out) hb); have NB349_363 := Aside0.mk ((by rw [hg]; exact Nat.ne_of_lt (blk_lt (g := gb349) (o := .cells #[.int .i64 t343, .bool t344, .slice Ao131 t345.length co131] 24 (0, 0)) (BA BK349.out)) : gb349 ≠ gb363)); have NB363_349 := Aside0.mk ((by rw [hg]; exact Nat.ne_of_gt (blk_lt (g := gb349) (o := .cells #[.int .i64 t343, .bool t344, .slice Ao131 t345.length co131] 24 (0, 0)) (BA BK349.out)) : gb363 ≠ gb349)); replace BK349 := Aside0.mk (blk_below (BA BK349.out) hb); have NB356_363 := Aside0.mk ((by rw [hg]; exact Nat.ne_of_lt (blk_lt (g := gb356) (o := .cells #[.int .i64 t350, .bool t351, .slice Ao145 t352.length co145] 31 (0, 0)) (BA BK356.out)) : gb356 ≠ gb363)); have NB363_356 := Aside0.mk ((by rw [hg]; exact Nat.ne_of_gt (blk_lt (g := gb356) (o := .cells #[.int .i64 t350, .bool t351, .slice Ao145 t352.length co145] 31 (0, 0)) (BA BK356.out)) : gb363 ≠ gb356)); replace BK356 := Aside0.mk (blk_below (BA BK356.out) hb); clear hb hbox hg; have hnb148 := NB363_281.out; have hnc148 := NB281_363.out; have hnb149 := NB363_282.out; have hnc149 := NB282_363.out; have hnb150 := NB363_296.out; have hnc150 := NB296_363.out; have hnb151 := NB363_303.out; have hnc151 := NB303_363.out; have hnb152 := NB363_318.out; have hnc152 := NB318_363.out; have hnb153 := NB363_319.out; have hnc153 := NB319_363.out; have hnb154 := NB363_329.out; have hnc154 := NB329_363.out; have hnb155 := NB363_330.out; have hnc155 := NB330_363.out; have hnb156 := NB363_342.out; have hnc156 := NB342_363.out; have hnb157 := NB363_349.out; have hnc157 := NB349_363.out; have hnb158 := NB363_356.out; have hnc158 := NB356_363.out; obtain ⟨hcz159_0, hcz159_1, hcz159_2, hfz159_0, hfz159_1, hfz159_2⟩ := cz3 BK363.out; obtain ⟨Ao160, co160, eo160⟩ := Kd.R_slice HO361.out; subst eo160))
    have n0_ : Aside0 (Kd.R k36 36 (((w147.setCell ⟨gb363, 0, none⟩ (.int .i64 t357)).setCell ⟨gb363, 1, none⟩ (.bool t358)).setCell ⟨gb363, 2, none⟩ (.slice Ao160 t359.length co160)) w.heap.size (fun k_ => some k_ ≠ (.slice Ao64 t306.length co64 : Value).ownBlock ∧ some k_ ≠ (.slice Ao104 t333.length co104 : Value).ownBlock ∧ some k_ ≠ (.slice Ao145 t352.length co145 : Value).ownBlock ∧ k_ ≠ gb319) v288 t287) := ⟨by (with_reducible repeat (first | apply Kd.R_alloc | apply Kd.R_drewN | apply Kd.R_drew)); exact Kd.R_mono (Kd.R_mv (g := gb363) (Kd.R_types HO289.out BK363.out (by decide)) (fun _ hk => hk.2)) (fun _ hk => ⟨hk.1.1.1, ⟨hk.1.1.2.1, ⟨hk.1.2, hk.1.1.2.2⟩⟩⟩)⟩
    have n1_ : Aside0 (Kd.V k36 36 (((w147.setCell ⟨gb363, 0, none⟩ (.int .i64 t357)).setCell ⟨gb363, 1, none⟩ (.bool t358)).setCell ⟨gb363, 2, none⟩ (.slice Ao160 t359.length co160)) w.heap.size (fun k_ => some k_ ≠ (.slice Ao64 t306.length co64 : Value).ownBlock ∧ some k_ ≠ (.slice Ao104 t333.length co104 : Value).ownBlock ∧ some k_ ≠ (.slice Ao145 t352.length co145 : Value).ownBlock ∧ some k_ ≠ (.slice Ao160 t359.length co160 : Value).ownBlock ∧ k_ ≠ gb281 ∧ k_ ≠ gb282 ∧ k_ ≠ gb296 ∧ k_ ≠ gb303 ∧ k_ ≠ gb318 ∧ k_ ≠ gb319 ∧ k_ ≠ gb329 ∧ k_ ≠ gb330 ∧ k_ ≠ gb342 ∧ k_ ≠ gb349 ∧ k_ ≠ gb356 ∧ k_ ≠ gb363) (.slice Ao48 t292.length co48) t292) := ⟨by (with_reducible repeat (first | apply Kd.V_alloc | apply Kd.V_drewN | apply Kd.V_drew)); exact Kd.V_mono (Kd.V_mv (g := gb363) (Kd.V_mono HO294.out (fun k_ hk => (⟨hk, hk.2⟩ : _ ∧ k_ ≠ gb363))) (fun _ hk => hk.2)) (fun _ hk => ⟨hk.1.1.1.1.1.1.1, ⟨hk.1.1.1.1.1.1.2.1, ⟨hk.1.1.1.1.2, ⟨hk.1.1.2, ⟨hk.1.1.1.1.1.1.2.2.1, ⟨hk.1.1.1.1.1.1.2.2.2.1, ⟨hk.1.1.1.1.1.1.2.2.2.2.1, ⟨hk.1.1.1.1.1.1.2.2.2.2.2.1, ⟨hk.1.1.1.1.1.1.2.2.2.2.2.2.1, ⟨hk.1.1.1.1.1.1.2.2.2.2.2.2.2.1, ⟨hk.1.1.1.1.1.1.2.2.2.2.2.2.2.2.1, ⟨hk.1.1.1.1.1.1.2.2.2.2.2.2.2.2.2.1, ⟨hk.1.1.1.1.1.1.2.2.2.2.2.2.2.2.2.2, ⟨hk.1.1.1.1.1.2, ⟨hk.1.1.1.2, hk.1.2⟩⟩⟩⟩⟩⟩⟩⟩⟩⟩⟩⟩⟩⟩⟩)⟩
    have n2_ : Aside0 (Kd.V k26 26 (((w147.setCell ⟨gb363, 0, none⟩ (.int .i64 t357)).setCell ⟨gb363, 1, none⟩ (.bool t358)).setCell ⟨gb363, 2, none⟩ (.slice Ao160 t359.length co160)) w.heap.size (fun k_ => some k_ ≠ (v288 : Value).ownBlock ∧ some k_ ≠ (.slice Ao64 t306.length co64 : Value).ownBlock ∧ some k_ ≠ (.slice Ao104 t333.length co104 : Value).ownBlock ∧ some k_ ≠ (.slice Ao145 t352.length co145 : Value).ownBlock ∧ some k_ ≠ (.slice Ao160 t359.length co160 : Value).ownBlock ∧ k_ ≠ gb281 ∧ k_ ≠ gb282 ∧ k_ ≠ gb296 ∧ k_ ≠ gb303 ∧ k_ ≠ gb318 ∧ k_ ≠ gb319 ∧ k_ ≠ gb329 ∧ k_ ≠ gb330 ∧ k_ ≠ gb342 ∧ k_ ≠ gb349 ∧ k_ ≠ gb356 ∧ k_ ≠ gb363) (.slice Ao61 t299.length co61) t299) := ⟨by (with_reducible repeat (first | apply Kd.V_alloc | apply Kd.V_drewN | apply Kd.V_drew)); exact Kd.V_mono (Kd.V_mv (g := gb363) (Kd.V_mono HO301.out (fun k_ hk => (⟨hk, hk.2⟩ : _ ∧ k_ ≠ gb363))) (fun _ hk => hk.2)) (fun _ hk => ⟨hk.1.1.1.1.1.1.1, ⟨hk.1.1.1.1.1.1.2.1, ⟨hk.1.1.1.1.1.1.2.2.1, ⟨hk.1.1.1.1.2, ⟨hk.1.1.2, ⟨hk.1.1.1.1.1.1.2.2.2.1, ⟨hk.1.1.1.1.1.1.2.2.2.2.1, ⟨hk.1.1.1.1.1.1.2.2.2.2.2.1, ⟨hk.1.1.1.1.1.1.2.2.2.2.2.2.1, ⟨hk.1.1.1.1.1.1.2.2.2.2.2.2.2.1, ⟨hk.1.1.1.1.1.1.2.2.2.2.2.2.2.2.1, ⟨hk.1.1.1.1.1.1.2.2.2.2.2.2.2.2.2.1, ⟨hk.1.1.1.1.1.1.2.2.2.2.2.2.2.2.2.2.1, ⟨hk.1.1.1.1.1.1.2.2.2.2.2.2.2.2.2.2.2, ⟨hk.1.1.1.1.1.2, ⟨hk.1.1.1.2, hk.1.2⟩⟩⟩⟩⟩⟩⟩⟩⟩⟩⟩⟩⟩⟩⟩⟩)⟩
    have n3_ : Aside0 (Kd.R k36 36 (((w147.setCell ⟨gb363, 0, none⟩ (.int .i64 t357)).setCell ⟨gb363, 1, none⟩ (.bool t358)).setCell ⟨gb363, 2, none⟩ (.slice Ao160 t359.length co160)) w.heap.size (fun k_ => some k_ ≠ (v288 : Value).ownBlock ∧ some k_ ≠ (.slice Ao104 t333.length co104 : Value).ownBlock ∧ some k_ ≠ (.slice Ao145 t352.length co145 : Value).ownBlock ∧ k_ ≠ gb319) (.slice Ao64 t306.length co64) t306) := ⟨by (with_reducible repeat (first | apply Kd.R_alloc | apply Kd.R_drewN | apply Kd.R_drew)); exact Kd.R_mono (Kd.R_mv (g := gb363) (Kd.R_types HO308.out BK363.out (by decide)) (fun _ hk => hk.2)) (fun _ hk => ⟨hk.1.1.1, ⟨hk.1.1.2.1, ⟨hk.1.2, hk.1.1.2.2⟩⟩⟩)⟩
    have n4_ : Aside0 (Kd.V k36 36 (((w147.setCell ⟨gb363, 0, none⟩ (.int .i64 t357)).setCell ⟨gb363, 1, none⟩ (.bool t358)).setCell ⟨gb363, 2, none⟩ (.slice Ao160 t359.length co160)) w.heap.size (fun k_ => some k_ ≠ (v288 : Value).ownBlock ∧ some k_ ≠ (.slice Ao104 t333.length co104 : Value).ownBlock ∧ some k_ ≠ (.slice Ao145 t352.length co145 : Value).ownBlock ∧ some k_ ≠ (.slice Ao160 t359.length co160 : Value).ownBlock ∧ k_ ≠ gb281 ∧ k_ ≠ gb282 ∧ k_ ≠ gb296 ∧ k_ ≠ gb303 ∧ k_ ≠ gb318 ∧ k_ ≠ gb319 ∧ k_ ≠ gb329 ∧ k_ ≠ gb330 ∧ k_ ≠ gb342 ∧ k_ ≠ gb349 ∧ k_ ≠ gb356 ∧ k_ ≠ gb363) (.slice Ao74 t311.length co74) t311) := ⟨by (with_reducible repeat (first | apply Kd.V_alloc | apply Kd.V_drewN | apply Kd.V_drew)); exact Kd.V_mono (Kd.V_mv (g := gb363) (Kd.V_mono HO313.out (fun k_ hk => (⟨hk, hk.2⟩ : _ ∧ k_ ≠ gb363))) (fun _ hk => hk.2)) (fun _ hk => ⟨hk.1.1.1.1.1.1.1, ⟨hk.1.1.1.1.1.1.2.1, ⟨hk.1.1.1.1.2, ⟨hk.1.1.2, ⟨hk.1.1.1.1.1.1.2.2.1, ⟨hk.1.1.1.1.1.1.2.2.2.1, ⟨hk.1.1.1.1.1.1.2.2.2.2.1, ⟨hk.1.1.1.1.1.1.2.2.2.2.2.1, ⟨hk.1.1.1.1.1.1.2.2.2.2.2.2.1, ⟨hk.1.1.1.1.1.1.2.2.2.2.2.2.2.1, ⟨hk.1.1.1.1.1.1.2.2.2.2.2.2.2.2.1, ⟨hk.1.1.1.1.1.1.2.2.2.2.2.2.2.2.2.1, ⟨hk.1.1.1.1.1.1.2.2.2.2.2.2.2.2.2.2, ⟨hk.1.1.1.1.1.2, ⟨hk.1.1.1.2, hk.1.2⟩⟩⟩⟩⟩⟩⟩⟩⟩⟩⟩⟩⟩⟩⟩)⟩
    have n5_ : Aside0 (Kd.V k26 26 (((w147.setCell ⟨gb363, 0, none⟩ (.int .i64 t357)).setCell ⟨gb363, 1, none⟩ (.bool t358)).setCell ⟨gb363, 2, none⟩ (.slice Ao160 t359.length co160)) w.heap.size (fun k_ => some k_ ≠ (v288 : Value).ownBlock ∧ some k_ ≠ (.slice Ao64 t306.length co64 : Value).ownBlock ∧ some k_ ≠ (.slice Ao104 t333.length co104 : Value).ownBlock ∧ some k_ ≠ (.slice Ao145 t352.length co145 : Value).ownBlock ∧ some k_ ≠ (.slice Ao160 t359.length co160 : Value).ownBlock ∧ k_ ≠ gb281 ∧ k_ ≠ gb282 ∧ k_ ≠ gb296 ∧ k_ ≠ gb303 ∧ k_ ≠ gb318 ∧ k_ ≠ gb319 ∧ k_ ≠ gb329 ∧ k_ ≠ gb330 ∧ k_ ≠ gb342 ∧ k_ ≠ gb349 ∧ k_ ≠ gb356 ∧ k_ ≠ gb363) (.slice Ao94 t322.length co94) t322) := ⟨by (with_reducible repeat (first | apply Kd.V_alloc | apply Kd.V_drewN | apply Kd.V_drew)); exact Kd.V_mono (Kd.V_mv (g := gb363) (Kd.V_mono HO324.out (fun k_ hk => (⟨hk, hk.2⟩ : _ ∧ k_ ≠ gb363))) (fun _ hk => hk.2)) (fun _ hk => ⟨hk.1.1.1.1.1.1.1, ⟨hk.1.1.1.1.1.1.2.1, ⟨hk.1.1.1.1.1.1.2.2.1, ⟨hk.1.1.1.1.2, ⟨hk.1.1.2, ⟨hk.1.1.1.1.1.1.2.2.2.1, ⟨hk.1.1.1.1.1.1.2.2.2.2.1, ⟨hk.1.1.1.1.1.1.2.2.2.2.2.1, ⟨hk.1.1.1.1.1.1.2.2.2.2.2.2.1, ⟨hk.1.1.1.1.1.1.2.2.2.2.2.2.2.1, ⟨hk.1.1.1.1.1.1.2.2.2.2.2.2.2.2.1, ⟨hk.1.1.1.1.1.1.2.2.2.2.2.2.2.2.2.1, ⟨hk.1.1.1.1.1.1.2.2.2.2.2.2.2.2.2.2.1, ⟨hk.1.1.1.1.1.1.2.2.2.2.2.2.2.2.2.2.2, ⟨hk.1.1.1.1.1.2, ⟨hk.1.1.1.2, hk.1.2⟩⟩⟩⟩⟩⟩⟩⟩⟩⟩⟩⟩⟩⟩⟩⟩)⟩
    have n6_ : Aside0 (Kd.R k36 36 (((w147.setCell ⟨gb363, 0, none⟩ (.int .i64 t357)).setCell ⟨gb363, 1, none⟩ (.bool t358)).setCell ⟨gb363, 2, none⟩ (.slice Ao160 t359.length co160)) w.heap.size (fun k_ => some k_ ≠ (v288 : Value).ownBlock ∧ some k_ ≠ (.slice Ao64 t306.length co64 : Value).ownBlock ∧ some k_ ≠ (.slice Ao145 t352.length co145 : Value).ownBlock ∧ k_ ≠ gb319) (.slice Ao104 t333.length co104) t333) := ⟨by (with_reducible repeat (first | apply Kd.R_alloc | apply Kd.R_drewN | apply Kd.R_drew)); exact Kd.R_mono (Kd.R_mv (g := gb363) (Kd.R_types HO335.out BK363.out (by decide)) (fun _ hk => hk.2)) (fun _ hk => ⟨hk.1.1.1, ⟨hk.1.1.2.1, ⟨hk.1.2, hk.1.1.2.2⟩⟩⟩)⟩
    have n7_ : Aside0 (Kd.V k36 36 (((w147.setCell ⟨gb363, 0, none⟩ (.int .i64 t357)).setCell ⟨gb363, 1, none⟩ (.bool t358)).setCell ⟨gb363, 2, none⟩ (.slice Ao160 t359.length co160)) w.heap.size (fun k_ => some k_ ≠ (v288 : Value).ownBlock ∧ some k_ ≠ (.slice Ao64 t306.length co64 : Value).ownBlock ∧ some k_ ≠ (.slice Ao145 t352.length co145 : Value).ownBlock ∧ some k_ ≠ (.slice Ao160 t359.length co160 : Value).ownBlock ∧ k_ ≠ gb281 ∧ k_ ≠ gb282 ∧ k_ ≠ gb296 ∧ k_ ≠ gb303 ∧ k_ ≠ gb318 ∧ k_ ≠ gb319 ∧ k_ ≠ gb329 ∧ k_ ≠ gb330 ∧ k_ ≠ gb342 ∧ k_ ≠ gb349 ∧ k_ ≠ gb356 ∧ k_ ≠ gb363) (.slice Ao116 t338.length co116) t338) := ⟨by (with_reducible repeat (first | apply Kd.V_alloc | apply Kd.V_drewN | apply Kd.V_drew)); exact Kd.V_mono (Kd.V_mv (g := gb363) (Kd.V_mono HO340.out (fun k_ hk => (⟨hk, hk.2⟩ : _ ∧ k_ ≠ gb363))) (fun _ hk => hk.2)) (fun _ hk => ⟨hk.1.1.1.1.1.1.1, ⟨hk.1.1.1.1.1.1.2.1, ⟨hk.1.1.1.1.2, ⟨hk.1.1.2, ⟨hk.1.1.1.1.1.1.2.2.1, ⟨hk.1.1.1.1.1.1.2.2.2.1, ⟨hk.1.1.1.1.1.1.2.2.2.2.1, ⟨hk.1.1.1.1.1.1.2.2.2.2.2.1, ⟨hk.1.1.1.1.1.1.2.2.2.2.2.2.1, ⟨hk.1.1.1.1.1.1.2.2.2.2.2.2.2.1, ⟨hk.1.1.1.1.1.1.2.2.2.2.2.2.2.2.1, ⟨hk.1.1.1.1.1.1.2.2.2.2.2.2.2.2.2.1, ⟨hk.1.1.1.1.1.1.2.2.2.2.2.2.2.2.2.2, ⟨hk.1.1.1.1.1.2, ⟨hk.1.1.1.2, hk.1.2⟩⟩⟩⟩⟩⟩⟩⟩⟩⟩⟩⟩⟩⟩⟩)⟩
    have n8_ : Aside0 (Kd.V k26 26 (((w147.setCell ⟨gb363, 0, none⟩ (.int .i64 t357)).setCell ⟨gb363, 1, none⟩ (.bool t358)).setCell ⟨gb363, 2, none⟩ (.slice Ao160 t359.length co160)) w.heap.size (fun k_ => some k_ ≠ (v288 : Value).ownBlock ∧ some k_ ≠ (.slice Ao64 t306.length co64 : Value).ownBlock ∧ some k_ ≠ (.slice Ao104 t333.length co104 : Value).ownBlock ∧ some k_ ≠ (.slice Ao145 t352.length co145 : Value).ownBlock ∧ some k_ ≠ (.slice Ao160 t359.length co160 : Value).ownBlock ∧ k_ ≠ gb281 ∧ k_ ≠ gb282 ∧ k_ ≠ gb296 ∧ k_ ≠ gb303 ∧ k_ ≠ gb318 ∧ k_ ≠ gb319 ∧ k_ ≠ gb329 ∧ k_ ≠ gb330 ∧ k_ ≠ gb342 ∧ k_ ≠ gb349 ∧ k_ ≠ gb356 ∧ k_ ≠ gb363) (.slice Ao131 t345.length co131) t345) := ⟨by (with_reducible repeat (first | apply Kd.V_alloc | apply Kd.V_drewN | apply Kd.V_drew)); exact Kd.V_mono (Kd.V_mv (g := gb363) (Kd.V_mono HO347.out (fun k_ hk => (⟨hk, hk.2⟩ : _ ∧ k_ ≠ gb363))) (fun _ hk => hk.2)) (fun _ hk => ⟨hk.1.1.1.1.1.1.1, ⟨hk.1.1.1.1.1.1.2.1, ⟨hk.1.1.1.1.1.1.2.2.1, ⟨hk.1.1.1.1.2, ⟨hk.1.1.2, ⟨hk.1.1.1.1.1.1.2.2.2.1, ⟨hk.1.1.1.1.1.1.2.2.2.2.1, ⟨hk.1.1.1.1.1.1.2.2.2.2.2.1, ⟨hk.1.1.1.1.1.1.2.2.2.2.2.2.1, ⟨hk.1.1.1.1.1.1.2.2.2.2.2.2.2.1, ⟨hk.1.1.1.1.1.1.2.2.2.2.2.2.2.2.1, ⟨hk.1.1.1.1.1.1.2.2.2.2.2.2.2.2.2.1, ⟨hk.1.1.1.1.1.1.2.2.2.2.2.2.2.2.2.2.1, ⟨hk.1.1.1.1.1.1.2.2.2.2.2.2.2.2.2.2.2, ⟨hk.1.1.1.1.1.2, ⟨hk.1.1.1.2, hk.1.2⟩⟩⟩⟩⟩⟩⟩⟩⟩⟩⟩⟩⟩⟩⟩⟩)⟩
    have n9_ : Aside0 (Kd.R k36 36 (((w147.setCell ⟨gb363, 0, none⟩ (.int .i64 t357)).setCell ⟨gb363, 1, none⟩ (.bool t358)).setCell ⟨gb363, 2, none⟩ (.slice Ao160 t359.length co160)) w.heap.size (fun k_ => some k_ ≠ (v288 : Value).ownBlock ∧ some k_ ≠ (.slice Ao64 t306.length co64 : Value).ownBlock ∧ some k_ ≠ (.slice Ao104 t333.length co104 : Value).ownBlock ∧ k_ ≠ gb319) (.slice Ao145 t352.length co145) t352) := ⟨by (with_reducible repeat (first | apply Kd.R_alloc | apply Kd.R_drewN | apply Kd.R_drew)); exact Kd.R_mono (Kd.R_mv (g := gb363) (Kd.R_types HO354.out BK363.out (by decide)) (fun _ hk => hk.2)) (fun _ hk => ⟨hk.1.1.1.1.2, ⟨hk.1.1.1.2, ⟨hk.1.1.2, hk.1.2⟩⟩⟩)⟩
    have n10_ : Aside0 (Kd.R k26 26 (((w147.setCell ⟨gb363, 0, none⟩ (.int .i64 t357)).setCell ⟨gb363, 1, none⟩ (.bool t358)).setCell ⟨gb363, 2, none⟩ (.slice Ao160 t359.length co160)) w.heap.size (fun k_ => k_ ≠ gb282 ∧ k_ ≠ gb330) (.slice Ao160 t359.length co160) t359) := ⟨by (with_reducible repeat (first | apply Kd.R_alloc | apply Kd.R_drewN | apply Kd.R_drew)); exact Kd.R_mono (Kd.R_mv (g := gb363) (Kd.R_types HO361.out BK363.out (by decide)) (fun _ hk => hk.2)) (fun _ hk => ⟨hk.1.1.2, hk.1.2⟩)⟩
    have n11_ : Aside0 ((((w147.setCell ⟨gb363, 0, none⟩ (.int .i64 t357)).setCell ⟨gb363, 1, none⟩ (.bool t358)).setCell ⟨gb363, 2, none⟩ (.slice Ao160 t359.length co160)).heap[gb281]? = some (.cells #[.int .i64 a0_0, .bool a0_1, .slice A0_2 l0_2.length c0_2] 24 (0, 0))) := ⟨by exact BF BK281.out NB281_363.out⟩
    have n12_ : Aside0 ((((w147.setCell ⟨gb363, 0, none⟩ (.int .i64 t357)).setCell ⟨gb363, 1, none⟩ (.bool t358)).setCell ⟨gb363, 2, none⟩ (.slice Ao160 t359.length co160)).heap[gb282]? = some (.cells #[.int .i64 a1_0, .int .i64 a1_1, .string a1_2] 26 (0, 0))) := ⟨by exact BF BK282.out NB282_363.out⟩
    have n13_ : Aside0 ((((w147.setCell ⟨gb363, 0, none⟩ (.int .i64 t357)).setCell ⟨gb363, 1, none⟩ (.bool t358)).setCell ⟨gb363, 2, none⟩ (.slice Ao160 t359.length co160)).heap[gb296]? = some (.cells #[.int .i64 t290, .bool t291, .slice Ao48 t292.length co48] 31 (0, 0))) := ⟨by exact BF BK296.out NB296_363.out⟩
    have n14_ : Aside0 ((((w147.setCell ⟨gb363, 0, none⟩ (.int .i64 t357)).setCell ⟨gb363, 1, none⟩ (.bool t358)).setCell ⟨gb363, 2, none⟩ (.slice Ao160 t359.length co160)).heap[gb303]? = some (.cells #[.int .i64 t297, .bool t298, .slice Ao61 t299.length co61] 24 (0, 0))) := ⟨by exact BF BK303.out NB303_363.out⟩
    have n15_ : Aside0 ((((w147.setCell ⟨gb363, 0, none⟩ (.int .i64 t357)).setCell ⟨gb363, 1, none⟩ (.bool t358)).setCell ⟨gb363, 2, none⟩ (.slice Ao160 t359.length co160)).heap[gb318]? = some (.cells #[.int .i64 t309, .bool t310, .slice Ao74 t311.length co74] 31 (0, 0))) := ⟨by exact BF BK318.out NB318_363.out⟩
    have n16_ : Aside0 ((((w147.setCell ⟨gb363, 0, none⟩ (.int .i64 t357)).setCell ⟨gb363, 1, none⟩ (.bool t358)).setCell ⟨gb363, 2, none⟩ (.slice Ao160 t359.length co160)).heap[gb319]? = some (.cells #[.int .i64 t314, .int .i64 t315, .string t316] 36 (0, 0))) := ⟨by exact BF BK319.out NB319_363.out⟩
    have n17_ : Aside0 ((((w147.setCell ⟨gb363, 0, none⟩ (.int .i64 t357)).setCell ⟨gb363, 1, none⟩ (.bool t358)).setCell ⟨gb363, 2, none⟩ (.slice Ao160 t359.length co160)).heap[gb329]? = some (.cells #[.int .i64 t320, .bool t321, .slice Ao94 t322.length co94] 24 (0, 0))) := ⟨by exact BF BK329.out NB329_363.out⟩
    have n18_ : Aside0 ((((w147.setCell ⟨gb363, 0, none⟩ (.int .i64 t357)).setCell ⟨gb363, 1, none⟩ (.bool t358)).setCell ⟨gb363, 2, none⟩ (.slice Ao160 t359.length co160)).heap[gb330]? = some (.cells #[.int .i64 t325, .int .i64 t326, .string t327] 26 (0, 0))) := ⟨by exact BF BK330.out NB330_363.out⟩
    have n19_ : Aside0 ((((w147.setCell ⟨gb363, 0, none⟩ (.int .i64 t357)).setCell ⟨gb363, 1, none⟩ (.bool t358)).setCell ⟨gb363, 2, none⟩ (.slice Ao160 t359.length co160)).heap[gb342]? = some (.cells #[.int .i64 t336, .bool t337, .slice Ao116 t338.length co116] 31 (0, 0))) := ⟨by exact BF BK342.out NB342_363.out⟩
    have n20_ : Aside0 ((((w147.setCell ⟨gb363, 0, none⟩ (.int .i64 t357)).setCell ⟨gb363, 1, none⟩ (.bool t358)).setCell ⟨gb363, 2, none⟩ (.slice Ao160 t359.length co160)).heap[gb349]? = some (.cells #[.int .i64 t343, .bool t344, .slice Ao131 t345.length co131] 24 (0, 0))) := ⟨by exact BF BK349.out NB349_363.out⟩
    have n21_ : Aside0 ((((w147.setCell ⟨gb363, 0, none⟩ (.int .i64 t357)).setCell ⟨gb363, 1, none⟩ (.bool t358)).setCell ⟨gb363, 2, none⟩ (.slice Ao160 t359.length co160)).heap[gb356]? = some (.cells #[.int .i64 t350, .bool t351, .slice Ao145 t352.length co145] 31 (0, 0))) := ⟨by exact BF BK356.out NB356_363.out⟩
    have n22_ : Aside0 ((((w147.setCell ⟨gb363, 0, none⟩ (.int .i64 t357)).setCell ⟨gb363, 1, none⟩ (.bool t358)).setCell ⟨gb363, 2, none⟩ (.slice Ao160 t359.length co160)).heap[gb363]? = some (.cells #[.int .i64 t357, .bool t358, .slice Ao160 t359.length co160] 24 (0, 0))) := ⟨by exact BP BK363.out (by rfl)⟩
    have n23_ : Aside0 (Below w.heap.size w (((w147.setCell ⟨gb363, 0, none⟩ (.int .i64 t357)).setCell ⟨gb363, 1, none⟩ (.bool t358)).setCell ⟨gb363, 2, none⟩ (.slice Ao160 t359.length co160))) := ⟨LG HB.out (G1 GE281.out (G1 GE282.out (G1 GE296.out (G1 GE303.out (G1 GE318.out (G1 GE319.out (G1 GE329.out (G1 GE330.out (G1 GE342.out (G1 GE349.out (G1 GE356.out (G1 GE363.out G0))))))))))))⟩
    (try clear HO289)
    (try clear HO294)
    (try clear HO301)
    (try clear HO308)
    (try clear HO313)
    (try clear HO324)
    (try clear HO335)
    (try clear HO340)
    (try clear HO347)
    (try clear HO354)
    (try clear HO361)
    (try clear BK281)
    (try clear BK282)
    (try clear BK296)
    (try clear BK303)
    (try clear BK318)
    (try clear BK319)
    (try clear BK329)
    (try clear BK330)
    (try clear BK342)
    (try clear BK349)
    (try clear BK356)
    (try clear BK363)
    (try clear HB)
    generalize (((w147.setCell ⟨gb363, 0, none⟩ (.int .i64 t357)).setCell ⟨gb363, 1, none⟩ (.bool t358)).setCell ⟨gb363, 2, none⟩ (.slice Ao160 t359.length co160)) = w161 at n0_ n1_ n2_ n3_ n4_ n5_ n6_ n7_ n8_ n9_ n10_ n11_ n12_ n13_ n14_ n15_ n16_ n17_ n18_ n19_ n20_ n21_ n22_ n23_ ⊢
    have HO289 := n0_
    have HO294 := n1_
    have HO301 := n2_
    have HO308 := n3_
    have HO313 := n4_
    have HO324 := n5_
    have HO335 := n6_
    have HO340 := n7_
    have HO347 := n8_
    have HO354 := n9_
    have HO361 := n10_
    have BK281 := n11_
    have BK282 := n12_
    have BK296 := n13_
    have BK303 := n14_
    have BK318 := n15_
    have BK319 := n16_
    have BK329 := n17_
    have BK330 := n18_
    have BK342 := n19_
    have BK349 := n20_
    have BK356 := n21_
    have BK363 := n22_
    have HB := n23_
    clear n0_ n1_ n2_ n3_ n4_ n5_ n6_ n7_ n8_ n9_ n10_ n11_ n12_ n13_ n14_ n15_ n16_ n17_ n18_ n19_ n20_ n21_ n22_ n23_
    have n0_ := Aside0.mk (Kd.R_drew HO289.out)
    have n1_ := Aside0.mk (Kd.V_drew HO294.out)
    have n2_ := Aside0.mk (Kd.V_drew HO301.out)
    have n3_ := Aside0.mk (Kd.R_drew HO308.out)
    have n4_ := Aside0.mk (Kd.V_drew HO313.out)
    have n5_ := Aside0.mk (Kd.V_drew HO324.out)
    have n6_ := Aside0.mk (Kd.R_drew HO335.out)
    have n7_ := Aside0.mk (Kd.V_drew HO340.out)
    have n8_ := Aside0.mk (Kd.V_drew HO347.out)
    have n9_ := Aside0.mk (Kd.R_drew HO354.out)
    have n10_ := Aside0.mk (Kd.R_drew HO361.out)
    have n11_ := Aside0.mk (blk_drew BK281.out)
    have n12_ := Aside0.mk (blk_drew BK282.out)
    have n13_ := Aside0.mk (blk_drew BK296.out)
    have n14_ := Aside0.mk (blk_drew BK303.out)
    have n15_ := Aside0.mk (blk_drew BK318.out)
    have n16_ := Aside0.mk (blk_drew BK319.out)
    have n17_ := Aside0.mk (blk_drew BK329.out)
    have n18_ := Aside0.mk (blk_drew BK330.out)
    have n19_ := Aside0.mk (blk_drew BK342.out)
    have n20_ := Aside0.mk (blk_drew BK349.out)
    have n21_ := Aside0.mk (blk_drew BK356.out)
    have n22_ := Aside0.mk (blk_drew BK363.out)
    have n23_ := Aside0.mk (below_drew1 HB.out)
    clear HO289
    clear HO294
    clear HO301
    clear HO308
    clear HO313
    clear HO324
    clear HO335
    clear HO340
    clear HO347
    clear HO354
    clear HO361
    clear BK281
    clear BK282
    clear BK296
    clear BK303
    clear BK318
    clear BK319
    clear BK329
    clear BK330
    clear BK342
    clear BK349
    clear BK356
    clear BK363
    clear HB
    have HO289 := n0_
    have HO294 := n1_
    have HO301 := n2_
    have HO308 := n3_
    have HO313 := n4_
    have HO324 := n5_
    have HO335 := n6_
    have HO340 := n7_
    have HO347 := n8_
    have HO354 := n9_
    have HO361 := n10_
    have BK281 := n11_
    have BK282 := n12_
    have BK296 := n13_
    have BK303 := n14_
    have BK318 := n15_
    have BK319 := n16_
    have BK329 := n17_
    have BK330 := n18_
    have BK342 := n19_
    have BK349 := n20_
    have BK356 := n21_
    have BK363 := n22_
    have HB := n23_
    clear n0_ n1_ n2_ n3_ n4_ n5_ n6_ n7_ n8_ n9_ n10_ n11_ n12_ n13_ n14_ n15_ n16_ n17_ n18_ n19_ n20_ n21_ n22_ n23_
    refine start_ (n := 51) (S := fun w' => w'.cell? ⟨gb296, 0, none⟩ = some (.int .i64 t290) ∧ w'.cell? ⟨gb296, 1, none⟩ = some (.bool t291) ∧ w'.cell? ⟨gb296, 2, none⟩ = some (.slice Ao48 t292.length co48) ∧ w'.cell? ⟨gb303, 0, none⟩ = some (.int .i64 t297) ∧ w'.cell? ⟨gb303, 1, none⟩ = some (.bool t298) ∧ w'.cell? ⟨gb303, 2, none⟩ = some (.slice Ao61 t299.length co61) ∧ w'.cell? ⟨gb318, 0, none⟩ = some (.int .i64 t309) ∧ w'.cell? ⟨gb318, 1, none⟩ = some (.bool t310) ∧ w'.cell? ⟨gb318, 2, none⟩ = some (.slice Ao74 t311.length co74) ∧ w'.cell? ⟨gb329, 0, none⟩ = some (.int .i64 t320) ∧ w'.cell? ⟨gb329, 1, none⟩ = some (.bool t321) ∧ w'.cell? ⟨gb329, 2, none⟩ = some (.slice Ao94 t322.length co94) ∧ w'.cell? ⟨gb319, 0, none⟩ = some (.int .i64 t314) ∧ w'.cell? ⟨gb319, 1, none⟩ = some (.int .i64 t315) ∧ w'.cell? ⟨gb319, 2, none⟩ = some (.string t316) ∧ w'.cell? ⟨gb330, 0, none⟩ = some (.int .i64 t325) ∧ w'.cell? ⟨gb330, 1, none⟩ = some (.int .i64 t326) ∧ w'.cell? ⟨gb330, 2, none⟩ = some (.string t327) ∧ w'.cell? ⟨gb342, 0, none⟩ = some (.int .i64 t336) ∧ w'.cell? ⟨gb342, 1, none⟩ = some (.bool t337) ∧ w'.cell? ⟨gb342, 2, none⟩ = some (.slice Ao116 t338.length co116) ∧ w'.cell? ⟨gb349, 0, none⟩ = some (.int .i64 t343) ∧ w'.cell? ⟨gb349, 1, none⟩ = some (.bool t344) ∧ w'.cell? ⟨gb349, 2, none⟩ = some (.slice Ao131 t345.length co131) ∧ w'.cell? ⟨gb356, 0, none⟩ = some (.int .i64 t350) ∧ w'.cell? ⟨gb356, 1, none⟩ = some (.bool t351) ∧ w'.cell? ⟨gb356, 2, none⟩ = some (.slice Ao145 t352.length co145) ∧ w'.cell? ⟨gb363, 0, none⟩ = some (.int .i64 t357) ∧ w'.cell? ⟨gb363, 1, none⟩ = some (.bool t358) ∧ w'.cell? ⟨gb363, 2, none⟩ = some (.slice Ao160 t359.length co160)) (ds := []) (tf 0 51) (by kernel_rfl) rfl rfl ⟨(blk_cell BK296.out 0).trans rfl, (blk_cell BK296.out 1).trans rfl, (blk_cell BK296.out 2).trans rfl, (blk_cell BK303.out 0).trans rfl, (blk_cell BK303.out 1).trans rfl, (blk_cell BK303.out 2).trans rfl, (blk_cell BK318.out 0).trans rfl, (blk_cell BK318.out 1).trans rfl, (blk_cell BK318.out 2).trans rfl, (blk_cell BK329.out 0).trans rfl, (blk_cell BK329.out 1).trans rfl, (blk_cell BK329.out 2).trans rfl, (blk_cell BK319.out 0).trans rfl, (blk_cell BK319.out 1).trans rfl, (blk_cell BK319.out 2).trans rfl, (blk_cell BK330.out 0).trans rfl, (blk_cell BK330.out 1).trans rfl, (blk_cell BK330.out 2).trans rfl, (blk_cell BK342.out 0).trans rfl, (blk_cell BK342.out 1).trans rfl, (blk_cell BK342.out 2).trans rfl, (blk_cell BK349.out 0).trans rfl, (blk_cell BK349.out 1).trans rfl, (blk_cell BK349.out 2).trans rfl, (blk_cell BK356.out 0).trans rfl, (blk_cell BK356.out 1).trans rfl, (blk_cell BK356.out 2).trans rfl, (blk_cell BK363.out 0).trans rfl, (blk_cell BK363.out 1).trans rfl, (blk_cell BK363.out 2).trans rfl⟩ (fun hHeld => ?_); refine with_tabW hopperlaw08_PipeTells.tab11 hopperlaw08_PipeTells.bits11 (fun HT_ HW_ => ?_)
    generalize w161.drew = w162 at HO289 HO294 HO301 HO308 HO313 HO324 HO335 HO340 HO347 HO354 HO361 BK281 BK282 BK296 BK303 BK318 BK319 BK329 BK330 BK342 BK349 BK356 BK363 HB hHeld ⊢
    refine take_ (i := 0) (N := some 76) (v := ?_) (a' := ?_) (tf 1 51) rfl rfl (take_ofW HT_.out HW_.out (by kernel_rfl)) (fun _ _ _ h => h) (Or.inl ⟨by rfl, ?_⟩) hHeld ?_ ?_
    rotate_left
    · rintro w' ⟨s0, s1, s2, s3, s4, s5, s6, s7, s8, s9, s10, s11, s12, s13, s14, s15, s16, s17, s18, s19, s20, s21, s22, s23, s24, s25, s26, s27, s28, s29⟩
      go_simp
      with_reducible rfl
    rotate_left
    · simp only [Act.put, PU, i64_w, i32_w]
      rfl
    refine take_ (i := 2) (N := some 78) (v := ?_) (a' := ?_) #[true, false, true, false, false, false, false, false, false, false, false, false, false, false, false, false, false, false, false, false, false, false, false, false, false, false, false, false, false, false, false, false, false, false, false, false, false, false, false, false, false, false, false, false, false, false, false, false, false, false, false] rfl rfl (take_ofW HT_.out HW_.out (by kernel_rfl)) (fun _ _ _ h => h) (Or.inl ⟨by rfl, ?_⟩) hHeld ?_ ?_
    rotate_left
    · rintro w' ⟨s0, s1, s2, s3, s4, s5, s6, s7, s8, s9, s10, s11, s12, s13, s14, s15, s16, s17, s18, s19, s20, s21, s22, s23, s24, s25, s26, s27, s28, s29⟩
      go_simp
      with_reducible rfl
    rotate_left
    · simp only [Act.put, PU, i64_w, i32_w]
      rfl
    refine one_ (i := 1) (N := some 77) (tf 3 51) rfl rfl (one_of HT_.out (by kernel_rfl)) (by decide) (fun K hK => ?_)
    refine goes_ Try.func19 (by kernel_rfl) rfl #[.agg #[.int .i64 t290, .bool t291, .slice Ao48 t292.length co48]] (by rfl) rfl rfl (by (try simp only [List.map_toArray, List.map_cons, List.map_nil]); first | done | rfl | (simp only [List.length_drop, List.length_take]; rfl)) ?_
    with_reducible refine (hopperlaw08_told.calls k t290 t291 _ _ t292 t364 t365 t366 _ ?side1 ?side2 A17.out).mono ?_
    (case side1 => exact Kd.CA (Kd.V_reads' HO294.out).2.2)
    (case side2 => exact (Kd.V_reads' HO294.out).2.1)
    rintro e w163 ⟨v367, rfl, ho0, hb⟩
    refine ⟨_, rfl, ?_⟩
    have n0_ := Aside0.mk (Kd.R_below (Kd.RA HO289.out) hb)
    have n1_ := Aside0.mk (Kd.V_elder' (Kd.VA HO294.out) (Kd.R_base ho0) hb)
    have n2_ := Aside0.mk (Kd.V_elder' (Kd.VA HO301.out) (Kd.R_base ho0) hb)
    have n3_ := Aside0.mk (Kd.R_below (Kd.RA HO308.out) hb)
    have n4_ := Aside0.mk (Kd.V_elder' (Kd.VA HO313.out) (Kd.R_base ho0) hb)
    have n5_ := Aside0.mk (Kd.V_elder' (Kd.VA HO324.out) (Kd.R_base ho0) hb)
    have n6_ := Aside0.mk (Kd.R_below (Kd.RA HO335.out) hb)
    have n7_ := Aside0.mk (Kd.V_elder' (Kd.VA HO340.out) (Kd.R_base ho0) hb)
    have n8_ := Aside0.mk (Kd.V_elder' (Kd.VA HO347.out) (Kd.R_base ho0) hb)
    have n9_ := Aside0.mk (Kd.R_below (Kd.RA HO354.out) hb)
    have n10_ := Aside0.mk (Kd.R_elder' (Kd.RA HO361.out) (Kd.R_base ho0) hb)
    have n11_ := Aside0.mk (Kd.R_lower (Kd.R_newB (Kd.R_newB (Kd.R_new' ho0 (Kd.R_lt (Kd.RA HO361.out))) (g := gb282) (o := .cells #[.int .i64 a1_0, .int .i64 a1_1, .string a1_2] 26 (0, 0)) (BA BK282.out)) (g := gb330) (o := .cells #[.int .i64 t325, .int .i64 t326, .string t327] 26 (0, 0)) (BA BK330.out)) (below_size (LG HB.out (G1 GE281.out (G1 GE282.out (G1 GE296.out (G1 GE303.out (G1 GE318.out (G1 GE319.out (G1 GE329.out (G1 GE330.out (G1 GE342.out (G1 GE349.out (G1 GE356.out (G1 GE363.out G0)))))))))))))))
    have n12_ := Aside0.mk (blk_below (BA BK281.out) hb)
    have n13_ := Aside0.mk (blk_below (BA BK282.out) hb)
    have n14_ := Aside0.mk (blk_below (BA BK296.out) hb)
    have n15_ := Aside0.mk (blk_below (BA BK303.out) hb)
    have n16_ := Aside0.mk (blk_below (BA BK318.out) hb)
    have n17_ := Aside0.mk (blk_below (BA BK319.out) hb)
    have n18_ := Aside0.mk (blk_below (BA BK329.out) hb)
    have n19_ := Aside0.mk (blk_below (BA BK330.out) hb)
    have n20_ := Aside0.mk (blk_below (BA BK342.out) hb)
    have n21_ := Aside0.mk (blk_below (BA BK349.out) hb)
    have n22_ := Aside0.mk (blk_below (BA BK356.out) hb)
    have n23_ := Aside0.mk (blk_below (BA BK363.out) hb)
    have n24_ := Aside0.mk (below_step (LG HB.out (G1 GE281.out (G1 GE282.out (G1 GE296.out (G1 GE303.out (G1 GE318.out (G1 GE319.out (G1 GE329.out (G1 GE330.out (G1 GE342.out (G1 GE349.out (G1 GE356.out (G1 GE363.out G0))))))))))))) hb)
    clear HO289
    clear HO294
    clear HO301
    clear HO308
    clear HO313
    clear HO324
    clear HO335
    clear HO340
    clear HO347
    clear HO354
    clear HO361
    clear BK281
    clear BK282
    clear BK296
    clear BK303
    clear BK318
    clear BK319
    clear BK329
    clear BK330
    clear BK342
    clear BK349
    clear BK356
    clear BK363
    clear HB
    have HO289 := n0_
    have HO294 := n1_
    have HO301 := n2_
    have HO308 := n3_
    have HO313 := n4_
    have HO324 := n5_
    have HO335 := n6_
    have HO340 := n7_
    have HO347 := n8_
    have HO354 := n9_
    have HO361 := n10_
    have HO368 := n11_
    have BK281 := n12_
    have BK282 := n13_
    have BK296 := n14_
    have BK303 := n15_
    have BK318 := n16_
    have BK319 := n17_
    have BK329 := n18_
    have BK330 := n19_
    have BK342 := n20_
    have BK349 := n21_
    have BK356 := n22_
    have BK363 := n23_
    have HB := n24_
    clear n0_ n1_ n2_ n3_ n4_ n5_ n6_ n7_ n8_ n9_ n10_ n11_ n12_ n13_ n14_ n15_ n16_ n17_ n18_ n19_ n20_ n21_ n22_ n23_ n24_
    (try clear hb)
    (try clear hb2)
    (try clear hk)
    (try clear hi)
    (try clear ho0)
    obtain ⟨Ao164, co164, eo164⟩ := Kd.R_slice HO368.out
    (first | subst eo164 | (injection eo164 with f1_ f2_ f3_; have f4_ := f1_.symm; have f5_ := f3_.symm; clear f1_ f2_ f3_; subst f4_; subst f5_))
    refine hK.out _ _ ⟨(blk_cell BK296.out 0).trans rfl, (blk_cell BK296.out 1).trans rfl, (blk_cell BK296.out 2).trans rfl, (blk_cell BK303.out 0).trans rfl, (blk_cell BK303.out 1).trans rfl, (blk_cell BK303.out 2).trans rfl, (blk_cell BK318.out 0).trans rfl, (blk_cell BK318.out 1).trans rfl, (blk_cell BK318.out 2).trans rfl, (blk_cell BK329.out 0).trans rfl, (blk_cell BK329.out 1).trans rfl, (blk_cell BK329.out 2).trans rfl, (blk_cell BK319.out 0).trans rfl, (blk_cell BK319.out 1).trans rfl, (blk_cell BK319.out 2).trans rfl, (blk_cell BK330.out 0).trans rfl, (blk_cell BK330.out 1).trans rfl, (blk_cell BK330.out 2).trans rfl, (blk_cell BK342.out 0).trans rfl, (blk_cell BK342.out 1).trans rfl, (blk_cell BK342.out 2).trans rfl, (blk_cell BK349.out 0).trans rfl, (blk_cell BK349.out 1).trans rfl, (blk_cell BK349.out 2).trans rfl, (blk_cell BK356.out 0).trans rfl, (blk_cell BK356.out 1).trans rfl, (blk_cell BK356.out 2).trans rfl, (blk_cell BK363.out 0).trans rfl, (blk_cell BK363.out 1).trans rfl, (blk_cell BK363.out 2).trans rfl⟩ (fun hHeld => ?_)
    clear hK K
    refine norm_ (a' := ?_) ?_ ?_
    rotate_left
    · show Act.put _ (some 77) _ = _
      simp only [Act.put, PU, i64_w, i32_w]
      rfl
    refine one_ (i := 3) (N := some 79) (tf 4 51) rfl rfl (one_of HT_.out (by kernel_rfl)) (by decide) (fun K hK => ?_)
    refine goes_ Try.func18 (by kernel_rfl) rfl #[.agg #[.int .i64 t364, .bool t365, .slice Ao164 t366.length co164], .agg #[.int .i64 t297, .bool t298, .slice Ao61 t299.length co61]] (by rfl) rfl rfl (by (try simp only [List.map_toArray, List.map_cons, List.map_nil]); first | done | rfl | (simp only [List.length_drop, List.length_take]; rfl)) ?_
    with_reducible refine (hopperref08_Same.calls k t364 t365 _ _ t366 t297 t298 _ _ t299 true _ ?side1 ?side2 ?side3 ?side4 A18.out).mono ?_
    (case side1 => exact Kd.CA (Kd.R_reads' HO368.out).2.2)
    (case side2 => exact (Kd.R_reads' HO368.out).2.1)
    (case side3 => exact Kd.CA (Kd.V_reads' HO301.out).2.2)
    (case side4 => exact (Kd.V_reads' HO301.out).2.1)
    rintro e w165 ⟨rfl, hb⟩
    refine ⟨_, rfl, ?_⟩
    have n0_ := Aside0.mk (Kd.R_below (Kd.RA HO289.out) hb)
    have n1_ := Aside0.mk (Kd.V_below (Kd.VA HO294.out) hb)
    have n2_ := Aside0.mk (Kd.V_below (Kd.VA HO301.out) hb)
    have n3_ := Aside0.mk (Kd.R_below (Kd.RA HO308.out) hb)
    have n4_ := Aside0.mk (Kd.V_below (Kd.VA HO313.out) hb)
    have n5_ := Aside0.mk (Kd.V_below (Kd.VA HO324.out) hb)
    have n6_ := Aside0.mk (Kd.R_below (Kd.RA HO335.out) hb)
    have n7_ := Aside0.mk (Kd.V_below (Kd.VA HO340.out) hb)
    have n8_ := Aside0.mk (Kd.V_below (Kd.VA HO347.out) hb)
    have n9_ := Aside0.mk (Kd.R_below (Kd.RA HO354.out) hb)
    have n10_ := Aside0.mk (Kd.R_below (Kd.RA HO361.out) hb)
    have n11_ := Aside0.mk (Kd.R_below (Kd.RA HO368.out) hb)
    have n12_ := Aside0.mk (blk_below (BA BK281.out) hb)
    have n13_ := Aside0.mk (blk_below (BA BK282.out) hb)
    have n14_ := Aside0.mk (blk_below (BA BK296.out) hb)
    have n15_ := Aside0.mk (blk_below (BA BK303.out) hb)
    have n16_ := Aside0.mk (blk_below (BA BK318.out) hb)
    have n17_ := Aside0.mk (blk_below (BA BK319.out) hb)
    have n18_ := Aside0.mk (blk_below (BA BK329.out) hb)
    have n19_ := Aside0.mk (blk_below (BA BK330.out) hb)
    have n20_ := Aside0.mk (blk_below (BA BK342.out) hb)
    have n21_ := Aside0.mk (blk_below (BA BK349.out) hb)
    have n22_ := Aside0.mk (blk_below (BA BK356.out) hb)
    have n23_ := Aside0.mk (blk_below (BA BK363.out) hb)
    have n24_ := Aside0.mk (below_step (LG HB.out (G1 GE281.out (G1 GE282.out (G1 GE296.out (G1 GE303.out (G1 GE318.out (G1 GE319.out (G1 GE329.out (G1 GE330.out (G1 GE342.out (G1 GE349.out (G1 GE356.out (G1 GE363.out G0))))))))))))) hb)
    clear HO289
    clear HO294
    clear HO301
    clear HO308
    clear HO313
    clear HO324
    clear HO335
    clear HO340
    clear HO347
    clear HO354
    clear HO361
    clear HO368
    clear BK281
    clear BK282
    clear BK296
    clear BK303
    clear BK318
    clear BK319
    clear BK329
    clear BK330
    clear BK342
    clear BK349
    clear BK356
    clear BK363
    clear HB
    have HO289 := n0_
    have HO294 := n1_
    have HO301 := n2_
    have HO308 := n3_
    have HO313 := n4_
    have HO324 := n5_
    have HO335 := n6_
    have HO340 := n7_
    have HO347 := n8_
    have HO354 := n9_
    have HO361 := n10_
    have HO368 := n11_
    have BK281 := n12_
    have BK282 := n13_
    have BK296 := n14_
    have BK303 := n15_
    have BK318 := n16_
    have BK319 := n17_
    have BK329 := n18_
    have BK330 := n19_
    have BK342 := n20_
    have BK349 := n21_
    have BK356 := n22_
    have BK363 := n23_
    have HB := n24_
    clear n0_ n1_ n2_ n3_ n4_ n5_ n6_ n7_ n8_ n9_ n10_ n11_ n12_ n13_ n14_ n15_ n16_ n17_ n18_ n19_ n20_ n21_ n22_ n23_ n24_
    (try clear hb)
    (try clear hb2)
    (try clear hk)
    (try clear hi)
    refine hK.out _ _ ⟨(blk_cell BK296.out 0).trans rfl, (blk_cell BK296.out 1).trans rfl, (blk_cell BK296.out 2).trans rfl, (blk_cell BK303.out 0).trans rfl, (blk_cell BK303.out 1).trans rfl, (blk_cell BK303.out 2).trans rfl, (blk_cell BK318.out 0).trans rfl, (blk_cell BK318.out 1).trans rfl, (blk_cell BK318.out 2).trans rfl, (blk_cell BK329.out 0).trans rfl, (blk_cell BK329.out 1).trans rfl, (blk_cell BK329.out 2).trans rfl, (blk_cell BK319.out 0).trans rfl, (blk_cell BK319.out 1).trans rfl, (blk_cell BK319.out 2).trans rfl, (blk_cell BK330.out 0).trans rfl, (blk_cell BK330.out 1).trans rfl, (blk_cell BK330.out 2).trans rfl, (blk_cell BK342.out 0).trans rfl, (blk_cell BK342.out 1).trans rfl, (blk_cell BK342.out 2).trans rfl, (blk_cell BK349.out 0).trans rfl, (blk_cell BK349.out 1).trans rfl, (blk_cell BK349.out 2).trans rfl, (blk_cell BK356.out 0).trans rfl, (blk_cell BK356.out 1).trans rfl, (blk_cell BK356.out 2).trans rfl, (blk_cell BK363.out 0).trans rfl, (blk_cell BK363.out 1).trans rfl, (blk_cell BK363.out 2).trans rfl⟩ (fun hHeld => ?_)
    clear hK K
    refine norm_ (a' := ?_) ?_ ?_
    rotate_left
    · show Act.put _ (some 79) _ = _
      simp only [Act.put, PU, i64_w, i32_w]
      rfl
    refine pure_ (i := 4) (N := some 80) (v := ?_) (a' := ?_) (tf 5 51) rfl rfl (any_of HT_.out (by kernel_rfl)) (fun _ _ _ h => h) (Or.inl ⟨by rfl, ?_⟩) ?_ ?_
    rotate_left
    · intro w'
      go_simp
      with_reducible rfl
    rotate_left
    · simp only [Act.put, PU, i64_w, i32_w]
      rfl
    refine pure_ (i := 5) (N := some 81) (v := ?_) (a' := ?_) (tf 6 51) rfl rfl (any_of HT_.out (by kernel_rfl)) (fun _ _ _ h => h) (Or.inl ⟨by rfl, ?_⟩) ?_ ?_
    rotate_left
    · intro w'
      go_simp
      with_reducible rfl
    rotate_left
    · simp only [Act.put, PU, i64_w, i32_w]
      rfl
    refine pure_ (i := 6) (N := some 82) (v := ?_) (a' := ?_) (tf 7 51) rfl rfl (any_of HT_.out (by kernel_rfl)) (fun _ _ _ h => h) (Or.inl ⟨by rfl, ?_⟩) ?_ ?_
    rotate_left
    · intro w'
      go_simp
      with_reducible rfl
    rotate_left
    · simp only [Act.put, PU, i64_w, i32_w]
      rfl
    refine pure_ (i := 7) (N := some 83) (v := ?_) (a' := ?_) (tf 8 51) rfl rfl (any_of HT_.out (by kernel_rfl)) (fun _ _ _ h => h) (Or.inl ⟨by rfl, ?_⟩) ?_ ?_
    rotate_left
    · intro w'
      go_simp
      with_reducible rfl
    rotate_left
    · simp only [Act.put, PU, i64_w, i32_w]
      rfl
    refine pure_ (i := 8) (N := some 84) (v := ?_) (a' := ?_) (tf 9 51) rfl rfl (any_of HT_.out (by kernel_rfl)) (fun _ _ _ h => h) (Or.inl ⟨by rfl, ?_⟩) ?_ ?_
    rotate_left
    · intro w'
      go_simp
      with_reducible rfl
    rotate_left
    · simp only [Act.put, PU, i64_w, i32_w]
      rfl
    refine pure_ (i := 9) (N := some 85) (v := ?_) (a' := ?_) (tf 10 51) rfl rfl (any_of HT_.out (by kernel_rfl)) (fun _ _ _ h => h) (Or.inl ⟨by rfl, ?_⟩) ?_ ?_
    rotate_left
    · intro w'
      go_simp
      with_reducible rfl
    rotate_left
    · simp only [Act.put, PU, i64_w, i32_w]
      rfl
    refine take_ (i := 10) (N := some 86) (v := ?_) (a' := ?_) (tf 11 51) rfl rfl (take_ofW HT_.out HW_.out (by kernel_rfl)) (fun _ _ _ h => h) (Or.inl ⟨by rfl, ?_⟩) hHeld ?_ ?_
    rotate_left
    · rintro w' ⟨s0, s1, s2, s3, s4, s5, s6, s7, s8, s9, s10, s11, s12, s13, s14, s15, s16, s17, s18, s19, s20, s21, s22, s23, s24, s25, s26, s27, s28, s29⟩
      go_simp
      with_reducible rfl
    rotate_left
    · simp only [Act.put, PU, i64_w, i32_w]
      rfl
    refine take_ (i := 12) (N := some 88) (v := ?_) (a' := ?_) #[true, true, true, true, true, true, true, true, true, true, true, false, true, false, false, false, false, false, false, false, false, false, false, false, false, false, false, false, false, false, false, false, false, false, false, false, false, false, false, false, false, false, false, false, false, false, false, false, false, false, false] rfl rfl (take_ofW HT_.out HW_.out (by kernel_rfl)) (fun _ _ _ h => h) (Or.inl ⟨by rfl, ?_⟩) hHeld ?_ ?_
    rotate_left
    · rintro w' ⟨s0, s1, s2, s3, s4, s5, s6, s7, s8, s9, s10, s11, s12, s13, s14, s15, s16, s17, s18, s19, s20, s21, s22, s23, s24, s25, s26, s27, s28, s29⟩
      go_simp
      with_reducible rfl
    rotate_left
    · simp only [Act.put, PU, i64_w, i32_w]
      rfl
    refine one_ (i := 11) (N := some 87) (tf 13 51) rfl rfl (one_of HT_.out (by kernel_rfl)) (by decide) (fun K hK => ?_)
    refine goes_ Try.func19 (by kernel_rfl) rfl #[.agg #[.int .i64 t309, .bool t310, .slice Ao74 t311.length co74]] (by rfl) rfl rfl (by (try simp only [List.map_toArray, List.map_cons, List.map_nil]); first | done | rfl | (simp only [List.length_drop, List.length_take]; rfl)) ?_
    with_reducible refine (hopperlaw08_told.calls k t309 t310 _ _ t311 t370 t371 t372 _ ?side1 ?side2 A21.out).mono ?_
    (case side1 => exact Kd.CA (Kd.V_reads' HO313.out).2.2)
    (case side2 => exact (Kd.V_reads' HO313.out).2.1)
    rintro e w166 ⟨v373, rfl, ho0, hb⟩
    refine ⟨_, rfl, ?_⟩
    have n0_ := Aside0.mk (Kd.R_below (Kd.RA HO289.out) hb)
    have n1_ := Aside0.mk (Kd.V_elder' (Kd.VA HO294.out) (Kd.R_base ho0) hb)
    have n2_ := Aside0.mk (Kd.V_elder' (Kd.VA HO301.out) (Kd.R_base ho0) hb)
    have n3_ := Aside0.mk (Kd.R_below (Kd.RA HO308.out) hb)
    have n4_ := Aside0.mk (Kd.V_elder' (Kd.VA HO313.out) (Kd.R_base ho0) hb)
    have n5_ := Aside0.mk (Kd.V_elder' (Kd.VA HO324.out) (Kd.R_base ho0) hb)
    have n6_ := Aside0.mk (Kd.R_below (Kd.RA HO335.out) hb)
    have n7_ := Aside0.mk (Kd.V_elder' (Kd.VA HO340.out) (Kd.R_base ho0) hb)
    have n8_ := Aside0.mk (Kd.V_elder' (Kd.VA HO347.out) (Kd.R_base ho0) hb)
    have n9_ := Aside0.mk (Kd.R_below (Kd.RA HO354.out) hb)
    have n10_ := Aside0.mk (Kd.R_elder' (Kd.RA HO361.out) (Kd.R_base ho0) hb)
    have n11_ := Aside0.mk (Kd.R_elder' (Kd.RA HO368.out) (Kd.R_base ho0) hb)
    have n12_ := Aside0.mk (Kd.R_lower (Kd.R_newB (Kd.R_newB (Kd.R_new' (Kd.R_new' ho0 (Kd.R_lt (Kd.RA HO361.out))) (Kd.R_lt (Kd.RA HO368.out))) (g := gb282) (o := .cells #[.int .i64 a1_0, .int .i64 a1_1, .string a1_2] 26 (0, 0)) (BA BK282.out)) (g := gb330) (o := .cells #[.int .i64 t325, .int .i64 t326, .string t327] 26 (0, 0)) (BA BK330.out)) (below_size (LG HB.out (G1 GE281.out (G1 GE282.out (G1 GE296.out (G1 GE303.out (G1 GE318.out (G1 GE319.out (G1 GE329.out (G1 GE330.out (G1 GE342.out (G1 GE349.out (G1 GE356.out (G1 GE363.out G0)))))))))))))))
    have n13_ := Aside0.mk (blk_below (BA BK281.out) hb)
    have n14_ := Aside0.mk (blk_below (BA BK282.out) hb)
    have n15_ := Aside0.mk (blk_below (BA BK296.out) hb)
    have n16_ := Aside0.mk (blk_below (BA BK303.out) hb)
    have n17_ := Aside0.mk (blk_below (BA BK318.out) hb)
    have n18_ := Aside0.mk (blk_below (BA BK319.out) hb)
    have n19_ := Aside0.mk (blk_below (BA BK329.out) hb)
    have n20_ := Aside0.mk (blk_below (BA BK330.out) hb)
    have n21_ := Aside0.mk (blk_below (BA BK342.out) hb)
    have n22_ := Aside0.mk (blk_below (BA BK349.out) hb)
    have n23_ := Aside0.mk (blk_below (BA BK356.out) hb)
    have n24_ := Aside0.mk (blk_below (BA BK363.out) hb)
    have n25_ := Aside0.mk (below_step (LG HB.out (G1 GE281.out (G1 GE282.out (G1 GE296.out (G1 GE303.out (G1 GE318.out (G1 GE319.out (G1 GE329.out (G1 GE330.out (G1 GE342.out (G1 GE349.out (G1 GE356.out (G1 GE363.out G0))))))))))))) hb)
    clear HO289
    clear HO294
    clear HO301
    clear HO308
    clear HO313
    clear HO324
    clear HO335
    clear HO340
    clear HO347
    clear HO354
    clear HO361
    clear HO368
    clear BK281
    clear BK282
    clear BK296
    clear BK303
    clear BK318
    clear BK319
    clear BK329
    clear BK330
    clear BK342
    clear BK349
    clear BK356
    clear BK363
    clear HB
    have HO289 := n0_
    have HO294 := n1_
    have HO301 := n2_
    have HO308 := n3_
    have HO313 := n4_
    have HO324 := n5_
    have HO335 := n6_
    have HO340 := n7_
    have HO347 := n8_
    have HO354 := n9_
    have HO361 := n10_
    have HO368 := n11_
    have HO374 := n12_
    have BK281 := n13_
    have BK282 := n14_
    have BK296 := n15_
    have BK303 := n16_
    have BK318 := n17_
    have BK319 := n18_
    have BK329 := n19_
    have BK330 := n20_
    have BK342 := n21_
    have BK349 := n22_
    have BK356 := n23_
    have BK363 := n24_
    have HB := n25_
    clear n0_ n1_ n2_ n3_ n4_ n5_ n6_ n7_ n8_ n9_ n10_ n11_ n12_ n13_ n14_ n15_ n16_ n17_ n18_ n19_ n20_ n21_ n22_ n23_ n24_ n25_
    (try clear hb)
    (try clear hb2)
    (try clear hk)
    (try clear hi)
    (try clear ho0)
    obtain ⟨Ao167, co167, eo167⟩ := Kd.R_slice HO374.out
    (first | subst eo167 | (injection eo167 with f1_ f2_ f3_; have f4_ := f1_.symm; have f5_ := f3_.symm; clear f1_ f2_ f3_; subst f4_; subst f5_))
    refine hK.out _ _ ⟨(blk_cell BK296.out 0).trans rfl, (blk_cell BK296.out 1).trans rfl, (blk_cell BK296.out 2).trans rfl, (blk_cell BK303.out 0).trans rfl, (blk_cell BK303.out 1).trans rfl, (blk_cell BK303.out 2).trans rfl, (blk_cell BK318.out 0).trans rfl, (blk_cell BK318.out 1).trans rfl, (blk_cell BK318.out 2).trans rfl, (blk_cell BK329.out 0).trans rfl, (blk_cell BK329.out 1).trans rfl, (blk_cell BK329.out 2).trans rfl, (blk_cell BK319.out 0).trans rfl, (blk_cell BK319.out 1).trans rfl, (blk_cell BK319.out 2).trans rfl, (blk_cell BK330.out 0).trans rfl, (blk_cell BK330.out 1).trans rfl, (blk_cell BK330.out 2).trans rfl, (blk_cell BK342.out 0).trans rfl, (blk_cell BK342.out 1).trans rfl, (blk_cell BK342.out 2).trans rfl, (blk_cell BK349.out 0).trans rfl, (blk_cell BK349.out 1).trans rfl, (blk_cell BK349.out 2).trans rfl, (blk_cell BK356.out 0).trans rfl, (blk_cell BK356.out 1).trans rfl, (blk_cell BK356.out 2).trans rfl, (blk_cell BK363.out 0).trans rfl, (blk_cell BK363.out 1).trans rfl, (blk_cell BK363.out 2).trans rfl⟩ (fun hHeld => ?_)
    clear hK K
    refine norm_ (a' := ?_) ?_ ?_
    rotate_left
    · show Act.put _ (some 87) _ = _
      simp only [Act.put, PU, i64_w, i32_w]
      rfl
    refine one_ (i := 13) (N := some 89) (tf 14 51) rfl rfl (one_of HT_.out (by kernel_rfl)) (by decide) (fun K hK => ?_)
    refine goes_ Try.func18 (by kernel_rfl) rfl #[.agg #[.int .i64 t370, .bool t371, .slice Ao167 t372.length co167], .agg #[.int .i64 t320, .bool t321, .slice Ao94 t322.length co94]] (by rfl) rfl rfl (by (try simp only [List.map_toArray, List.map_cons, List.map_nil]); first | done | rfl | (simp only [List.length_drop, List.length_take]; rfl)) ?_
    with_reducible refine (hopperref08_Same.calls k t370 t371 _ _ t372 t320 t321 _ _ t322 true _ ?side1 ?side2 ?side3 ?side4 A22.out).mono ?_
    (case side1 => exact Kd.CA (Kd.R_reads' HO374.out).2.2)
    (case side2 => exact (Kd.R_reads' HO374.out).2.1)
    (case side3 => exact Kd.CA (Kd.V_reads' HO324.out).2.2)
    (case side4 => exact (Kd.V_reads' HO324.out).2.1)
    rintro e w168 ⟨rfl, hb⟩
    refine ⟨_, rfl, ?_⟩
    have n0_ := Aside0.mk (Kd.R_below (Kd.RA HO289.out) hb)
    have n1_ := Aside0.mk (Kd.V_below (Kd.VA HO294.out) hb)
    have n2_ := Aside0.mk (Kd.V_below (Kd.VA HO301.out) hb)
    have n3_ := Aside0.mk (Kd.R_below (Kd.RA HO308.out) hb)
    have n4_ := Aside0.mk (Kd.V_below (Kd.VA HO313.out) hb)
    have n5_ := Aside0.mk (Kd.V_below (Kd.VA HO324.out) hb)
    have n6_ := Aside0.mk (Kd.R_below (Kd.RA HO335.out) hb)
    have n7_ := Aside0.mk (Kd.V_below (Kd.VA HO340.out) hb)
    have n8_ := Aside0.mk (Kd.V_below (Kd.VA HO347.out) hb)
    have n9_ := Aside0.mk (Kd.R_below (Kd.RA HO354.out) hb)
    have n10_ := Aside0.mk (Kd.R_below (Kd.RA HO361.out) hb)
    have n11_ := Aside0.mk (Kd.R_below (Kd.RA HO368.out) hb)
    have n12_ := Aside0.mk (Kd.R_below (Kd.RA HO374.out) hb)
    have n13_ := Aside0.mk (blk_below (BA BK281.out) hb)
    have n14_ := Aside0.mk (blk_below (BA BK282.out) hb)
    have n15_ := Aside0.mk (blk_below (BA BK296.out) hb)
    have n16_ := Aside0.mk (blk_below (BA BK303.out) hb)
    have n17_ := Aside0.mk (blk_below (BA BK318.out) hb)
    have n18_ := Aside0.mk (blk_below (BA BK319.out) hb)
    have n19_ := Aside0.mk (blk_below (BA BK329.out) hb)
    have n20_ := Aside0.mk (blk_below (BA BK330.out) hb)
    have n21_ := Aside0.mk (blk_below (BA BK342.out) hb)
    have n22_ := Aside0.mk (blk_below (BA BK349.out) hb)
    have n23_ := Aside0.mk (blk_below (BA BK356.out) hb)
    have n24_ := Aside0.mk (blk_below (BA BK363.out) hb)
    have n25_ := Aside0.mk (below_step (LG HB.out (G1 GE281.out (G1 GE282.out (G1 GE296.out (G1 GE303.out (G1 GE318.out (G1 GE319.out (G1 GE329.out (G1 GE330.out (G1 GE342.out (G1 GE349.out (G1 GE356.out (G1 GE363.out G0))))))))))))) hb)
    clear HO289
    clear HO294
    clear HO301
    clear HO308
    clear HO313
    clear HO324
    clear HO335
    clear HO340
    clear HO347
    clear HO354
    clear HO361
    clear HO368
    clear HO374
    clear BK281
    clear BK282
    clear BK296
    clear BK303
    clear BK318
    clear BK319
    clear BK329
    clear BK330
    clear BK342
    clear BK349
    clear BK356
    clear BK363
    clear HB
    have HO289 := n0_
    have HO294 := n1_
    have HO301 := n2_
    have HO308 := n3_
    have HO313 := n4_
    have HO324 := n5_
    have HO335 := n6_
    have HO340 := n7_
    have HO347 := n8_
    have HO354 := n9_
    have HO361 := n10_
    have HO368 := n11_
    have HO374 := n12_
    have BK281 := n13_
    have BK282 := n14_
    have BK296 := n15_
    have BK303 := n16_
    have BK318 := n17_
    have BK319 := n18_
    have BK329 := n19_
    have BK330 := n20_
    have BK342 := n21_
    have BK349 := n22_
    have BK356 := n23_
    have BK363 := n24_
    have HB := n25_
    clear n0_ n1_ n2_ n3_ n4_ n5_ n6_ n7_ n8_ n9_ n10_ n11_ n12_ n13_ n14_ n15_ n16_ n17_ n18_ n19_ n20_ n21_ n22_ n23_ n24_ n25_
    (try clear hb)
    (try clear hb2)
    (try clear hk)
    (try clear hi)
    refine hK.out _ _ ⟨(blk_cell BK296.out 0).trans rfl, (blk_cell BK296.out 1).trans rfl, (blk_cell BK296.out 2).trans rfl, (blk_cell BK303.out 0).trans rfl, (blk_cell BK303.out 1).trans rfl, (blk_cell BK303.out 2).trans rfl, (blk_cell BK318.out 0).trans rfl, (blk_cell BK318.out 1).trans rfl, (blk_cell BK318.out 2).trans rfl, (blk_cell BK329.out 0).trans rfl, (blk_cell BK329.out 1).trans rfl, (blk_cell BK329.out 2).trans rfl, (blk_cell BK319.out 0).trans rfl, (blk_cell BK319.out 1).trans rfl, (blk_cell BK319.out 2).trans rfl, (blk_cell BK330.out 0).trans rfl, (blk_cell BK330.out 1).trans rfl, (blk_cell BK330.out 2).trans rfl, (blk_cell BK342.out 0).trans rfl, (blk_cell BK342.out 1).trans rfl, (blk_cell BK342.out 2).trans rfl, (blk_cell BK349.out 0).trans rfl, (blk_cell BK349.out 1).trans rfl, (blk_cell BK349.out 2).trans rfl, (blk_cell BK356.out 0).trans rfl, (blk_cell BK356.out 1).trans rfl, (blk_cell BK356.out 2).trans rfl, (blk_cell BK363.out 0).trans rfl, (blk_cell BK363.out 1).trans rfl, (blk_cell BK363.out 2).trans rfl⟩ (fun hHeld => ?_)
    clear hK K
    refine norm_ (a' := ?_) ?_ ?_
    rotate_left
    · show Act.put _ (some 89) _ = _
      simp only [Act.put, PU, i64_w, i32_w]
      rfl
    refine pure_ (i := 14) (N := some 90) (v := ?_) (a' := ?_) (tf 15 51) rfl rfl (any_of HT_.out (by kernel_rfl)) (fun _ _ _ h => h) (Or.inl ⟨by rfl, ?_⟩) ?_ ?_
    rotate_left
    · intro w'
      go_simp
      with_reducible rfl
    rotate_left
    · simp only [Act.put, PU, i64_w, i32_w]
      rfl
    refine pure_ (i := 15) (N := some 91) (v := ?_) (a' := ?_) (tf 16 51) rfl rfl (any_of HT_.out (by kernel_rfl)) (fun _ _ _ h => h) (Or.inl ⟨by rfl, ?_⟩) ?_ ?_
    rotate_left
    · intro w'
      go_simp
      with_reducible rfl
    rotate_left
    · simp only [Act.put, PU, i64_w, i32_w]
      rfl
    refine take_ (i := 16) (N := some 92) (v := ?_) (a' := ?_) (tf 17 51) rfl rfl (take_ofW HT_.out HW_.out (by kernel_rfl)) (fun _ _ _ h => h) (Or.inl ⟨by rfl, ?_⟩) hHeld ?_ ?_
    rotate_left
    · rintro w' ⟨s0, s1, s2, s3, s4, s5, s6, s7, s8, s9, s10, s11, s12, s13, s14, s15, s16, s17, s18, s19, s20, s21, s22, s23, s24, s25, s26, s27, s28, s29⟩
      go_simp
      with_reducible rfl
    rotate_left
    · simp only [Act.put, PU, i64_w, i32_w]
      rfl
    refine take_ (i := 17) (N := some 93) (v := ?_) (a' := ?_) (tf 18 51) rfl rfl (take_ofW HT_.out HW_.out (by kernel_rfl)) (fun _ _ _ h => h) (Or.inl ⟨by rfl, ?_⟩) hHeld ?_ ?_
    rotate_left
    · rintro w' ⟨s0, s1, s2, s3, s4, s5, s6, s7, s8, s9, s10, s11, s12, s13, s14, s15, s16, s17, s18, s19, s20, s21, s22, s23, s24, s25, s26, s27, s28, s29⟩
      go_simp
      with_reducible rfl
    rotate_left
    · simp only [Act.put, PU, i64_w, i32_w]
      rfl
    refine pure_ (i := 18) (N := some 94) (v := ?_) (a' := ?_) (tf 19 51) rfl rfl (any_of HT_.out (by kernel_rfl)) (fun _ _ _ h => h) (Or.inl ⟨by rfl, ?_⟩) ?_ ?_
    rotate_left
    · intro w'
      go_simp
      with_reducible rfl
    rotate_left
    · simp only [Act.put, PU, i64_w, i32_w]
      rfl
    refine pure_ (i := 19) (N := some 95) (v := ?_) (a' := ?_) (tf 20 51) rfl rfl (any_of HT_.out (by kernel_rfl)) (fun _ _ _ h => h) (Or.inl ⟨by rfl, ?_⟩) ?_ ?_
    rotate_left
    · intro w'
      go_simp
      with_reducible rfl
    rotate_left
    · simp only [Act.put, PU, i64_w, i32_w]
      rfl
    refine pure_ (i := 20) (N := some 96) (v := ?_) (a' := ?_) (tf 21 51) rfl rfl (any_of HT_.out (by kernel_rfl)) (fun _ _ _ h => h) (Or.inl ⟨by rfl, ?_⟩) ?_ ?_
    rotate_left
    · intro w'
      go_simp
      with_reducible rfl
    rotate_left
    · simp only [Act.put, PU, i64_w, i32_w]
      rfl
    refine pure_ (i := 21) (N := some 97) (v := ?_) (a' := ?_) (tf 22 51) rfl rfl (any_of HT_.out (by kernel_rfl)) (fun _ _ _ h => h) (Or.inl ⟨by rfl, ?_⟩) ?_ ?_
    rotate_left
    · intro w'
      go_simp
      with_reducible rfl
    rotate_left
    · simp only [Act.put, PU, i64_w, i32_w]
      rfl
    refine pure_ (i := 22) (N := some 98) (v := ?_) (a' := ?_) (tf 23 51) rfl rfl (any_of HT_.out (by kernel_rfl)) (fun _ _ _ h => h) (Or.inl ⟨by rfl, ?_⟩) ?_ ?_
    rotate_left
    · intro w'
      go_simp
      with_reducible rfl
    rotate_left
    · simp only [Act.put, PU, i64_w, i32_w]
      rfl
    refine pure_ (i := 23) (N := some 99) (v := ?_) (a' := ?_) (tf 24 51) rfl rfl (any_of HT_.out (by kernel_rfl)) (fun _ _ _ h => h) (Or.inl ⟨by rfl, ?_⟩) ?_ ?_
    rotate_left
    · intro w'
      go_simp
      with_reducible rfl
    rotate_left
    · simp only [Act.put, PU, i64_w, i32_w]
      rfl
    refine pure_ (i := 24) (N := some 100) (v := ?_) (a' := ?_) (tf 25 51) rfl rfl (any_of HT_.out (by kernel_rfl)) (fun _ _ _ h => h) (Or.inl ⟨by rfl, ?_⟩) ?_ ?_
    rotate_left
    · intro w'
      go_simp
      with_reducible rfl
    rotate_left
    · simp only [Act.put, PU, i64_w, i32_w]
      rfl
    refine pure_ (i := 25) (N := some 101) (v := ?_) (a' := ?_) (tf 26 51) rfl rfl (any_of HT_.out (by kernel_rfl)) (fun _ _ _ h => h) (Or.inl ⟨by rfl, ?_⟩) ?_ ?_
    rotate_left
    · intro w'
      go_simp
      with_reducible rfl
    rotate_left
    · simp only [Act.put, PU, i64_w, i32_w]
      rfl
    refine take_ (i := 26) (N := some 102) (v := ?_) (a' := ?_) (tf 27 51) rfl rfl (take_ofW HT_.out HW_.out (by kernel_rfl)) (fun _ _ _ h => h) (Or.inl ⟨by rfl, ?_⟩) hHeld ?_ ?_
    rotate_left
    · rintro w' ⟨s0, s1, s2, s3, s4, s5, s6, s7, s8, s9, s10, s11, s12, s13, s14, s15, s16, s17, s18, s19, s20, s21, s22, s23, s24, s25, s26, s27, s28, s29⟩
      go_simp
      with_reducible rfl
    rotate_left
    · simp only [Act.put, PU, i64_w, i32_w]
      rfl
    refine take_ (i := 28) (N := some 104) (v := ?_) (a' := ?_) #[true, true, true, true, true, true, true, true, true, true, true, true, true, true, true, true, true, true, true, true, true, true, true, true, true, true, true, false, true, false, false, false, false, false, false, false, false, false, false, false, false, false, false, false, false, false, false, false, false, false, false] rfl rfl (take_ofW HT_.out HW_.out (by kernel_rfl)) (fun _ _ _ h => h) (Or.inl ⟨by rfl, ?_⟩) hHeld ?_ ?_
    rotate_left
    · rintro w' ⟨s0, s1, s2, s3, s4, s5, s6, s7, s8, s9, s10, s11, s12, s13, s14, s15, s16, s17, s18, s19, s20, s21, s22, s23, s24, s25, s26, s27, s28, s29⟩
      go_simp
      with_reducible rfl
    rotate_left
    · simp only [Act.put, PU, i64_w, i32_w]
      rfl
    refine one_ (i := 27) (N := some 103) (tf 29 51) rfl rfl (one_of HT_.out (by kernel_rfl)) (by decide) (fun K hK => ?_)
    refine goes_ Try.func19 (by kernel_rfl) rfl #[.agg #[.int .i64 t336, .bool t337, .slice Ao116 t338.length co116]] (by rfl) rfl rfl (by (try simp only [List.map_toArray, List.map_cons, List.map_nil]); first | done | rfl | (simp only [List.length_drop, List.length_take]; rfl)) ?_
    with_reducible refine (hopperlaw08_told.calls k t336 t337 _ _ t338 t376 t377 t378 _ ?side1 ?side2 A26.out).mono ?_
    (case side1 => exact Kd.CA (Kd.V_reads' HO340.out).2.2)
    (case side2 => exact (Kd.V_reads' HO340.out).2.1)
    rintro e w169 ⟨v379, rfl, ho0, hb⟩
    refine ⟨_, rfl, ?_⟩
    have n0_ := Aside0.mk (Kd.R_below (Kd.RA HO289.out) hb)
    have n1_ := Aside0.mk (Kd.V_elder' (Kd.VA HO294.out) (Kd.R_base ho0) hb)
    have n2_ := Aside0.mk (Kd.V_elder' (Kd.VA HO301.out) (Kd.R_base ho0) hb)
    have n3_ := Aside0.mk (Kd.R_below (Kd.RA HO308.out) hb)
    have n4_ := Aside0.mk (Kd.V_elder' (Kd.VA HO313.out) (Kd.R_base ho0) hb)
    have n5_ := Aside0.mk (Kd.V_elder' (Kd.VA HO324.out) (Kd.R_base ho0) hb)
    have n6_ := Aside0.mk (Kd.R_below (Kd.RA HO335.out) hb)
    have n7_ := Aside0.mk (Kd.V_elder' (Kd.VA HO340.out) (Kd.R_base ho0) hb)
    have n8_ := Aside0.mk (Kd.V_elder' (Kd.VA HO347.out) (Kd.R_base ho0) hb)
    have n9_ := Aside0.mk (Kd.R_below (Kd.RA HO354.out) hb)
    have n10_ := Aside0.mk (Kd.R_elder' (Kd.RA HO361.out) (Kd.R_base ho0) hb)
    have n11_ := Aside0.mk (Kd.R_elder' (Kd.RA HO368.out) (Kd.R_base ho0) hb)
    have n12_ := Aside0.mk (Kd.R_elder' (Kd.RA HO374.out) (Kd.R_base ho0) hb)
    have n13_ := Aside0.mk (Kd.R_lower (Kd.R_newB (Kd.R_newB (Kd.R_new' (Kd.R_new' (Kd.R_new' ho0 (Kd.R_lt (Kd.RA HO361.out))) (Kd.R_lt (Kd.RA HO368.out))) (Kd.R_lt (Kd.RA HO374.out))) (g := gb282) (o := .cells #[.int .i64 a1_0, .int .i64 a1_1, .string a1_2] 26 (0, 0)) (BA BK282.out)) (g := gb330) (o := .cells #[.int .i64 t325, .int .i64 t326, .string t327] 26 (0, 0)) (BA BK330.out)) (below_size (LG HB.out (G1 GE281.out (G1 GE282.out (G1 GE296.out (G1 GE303.out (G1 GE318.out (G1 GE319.out (G1 GE329.out (G1 GE330.out (G1 GE342.out (G1 GE349.out (G1 GE356.out (G1 GE363.out G0)))))))))))))))
    have n14_ := Aside0.mk (blk_below (BA BK281.out) hb)
    have n15_ := Aside0.mk (blk_below (BA BK282.out) hb)
    have n16_ := Aside0.mk (blk_below (BA BK296.out) hb)
    have n17_ := Aside0.mk (blk_below (BA BK303.out) hb)
    have n18_ := Aside0.mk (blk_below (BA BK318.out) hb)
    have n19_ := Aside0.mk (blk_below (BA BK319.out) hb)
    have n20_ := Aside0.mk (blk_below (BA BK329.out) hb)
    have n21_ := Aside0.mk (blk_below (BA BK330.out) hb)
    have n22_ := Aside0.mk (blk_below (BA BK342.out) hb)
    have n23_ := Aside0.mk (blk_below (BA BK349.out) hb)
    have n24_ := Aside0.mk (blk_below (BA BK356.out) hb)
    have n25_ := Aside0.mk (blk_below (BA BK363.out) hb)
    have n26_ := Aside0.mk (below_step (LG HB.out (G1 GE281.out (G1 GE282.out (G1 GE296.out (G1 GE303.out (G1 GE318.out (G1 GE319.out (G1 GE329.out (G1 GE330.out (G1 GE342.out (G1 GE349.out (G1 GE356.out (G1 GE363.out G0))))))))))))) hb)
    clear HO289
    clear HO294
    clear HO301
    clear HO308
    clear HO313
    clear HO324
    clear HO335
    clear HO340
    clear HO347
    clear HO354
    clear HO361
    clear HO368
    clear HO374
    clear BK281
    clear BK282
    clear BK296
    clear BK303
    clear BK318
    clear BK319
    clear BK329
    clear BK330
    clear BK342
    clear BK349
    clear BK356
    clear BK363
    clear HB
    have HO289 := n0_
    have HO294 := n1_
    have HO301 := n2_
    have HO308 := n3_
    have HO313 := n4_
    have HO324 := n5_
    have HO335 := n6_
    have HO340 := n7_
    have HO347 := n8_
    have HO354 := n9_
    have HO361 := n10_
    have HO368 := n11_
    have HO374 := n12_
    have HO380 := n13_
    have BK281 := n14_
    have BK282 := n15_
    have BK296 := n16_
    have BK303 := n17_
    have BK318 := n18_
    have BK319 := n19_
    have BK329 := n20_
    have BK330 := n21_
    have BK342 := n22_
    have BK349 := n23_
    have BK356 := n24_
    have BK363 := n25_
    have HB := n26_
    clear n0_ n1_ n2_ n3_ n4_ n5_ n6_ n7_ n8_ n9_ n10_ n11_ n12_ n13_ n14_ n15_ n16_ n17_ n18_ n19_ n20_ n21_ n22_ n23_ n24_ n25_ n26_
    (try clear hb)
    (try clear hb2)
    (try clear hk)
    (try clear hi)
    (try clear ho0)
    obtain ⟨Ao170, co170, eo170⟩ := Kd.R_slice HO380.out
    (first | subst eo170 | (injection eo170 with f1_ f2_ f3_; have f4_ := f1_.symm; have f5_ := f3_.symm; clear f1_ f2_ f3_; subst f4_; subst f5_))
    refine hK.out _ _ ⟨(blk_cell BK296.out 0).trans rfl, (blk_cell BK296.out 1).trans rfl, (blk_cell BK296.out 2).trans rfl, (blk_cell BK303.out 0).trans rfl, (blk_cell BK303.out 1).trans rfl, (blk_cell BK303.out 2).trans rfl, (blk_cell BK318.out 0).trans rfl, (blk_cell BK318.out 1).trans rfl, (blk_cell BK318.out 2).trans rfl, (blk_cell BK329.out 0).trans rfl, (blk_cell BK329.out 1).trans rfl, (blk_cell BK329.out 2).trans rfl, (blk_cell BK319.out 0).trans rfl, (blk_cell BK319.out 1).trans rfl, (blk_cell BK319.out 2).trans rfl, (blk_cell BK330.out 0).trans rfl, (blk_cell BK330.out 1).trans rfl, (blk_cell BK330.out 2).trans rfl, (blk_cell BK342.out 0).trans rfl, (blk_cell BK342.out 1).trans rfl, (blk_cell BK342.out 2).trans rfl, (blk_cell BK349.out 0).trans rfl, (blk_cell BK349.out 1).trans rfl, (blk_cell BK349.out 2).trans rfl, (blk_cell BK356.out 0).trans rfl, (blk_cell BK356.out 1).trans rfl, (blk_cell BK356.out 2).trans rfl, (blk_cell BK363.out 0).trans rfl, (blk_cell BK363.out 1).trans rfl, (blk_cell BK363.out 2).trans rfl⟩ (fun hHeld => ?_)
    clear hK K
    refine norm_ (a' := ?_) ?_ ?_
    rotate_left
    · show Act.put _ (some 103) _ = _
      simp only [Act.put, PU, i64_w, i32_w]
      rfl
    refine one_ (i := 29) (N := some 105) (tf 30 51) rfl rfl (one_of HT_.out (by kernel_rfl)) (by decide) (fun K hK => ?_)
    refine goes_ Try.func18 (by kernel_rfl) rfl #[.agg #[.int .i64 t376, .bool t377, .slice Ao170 t378.length co170], .agg #[.int .i64 t343, .bool t344, .slice Ao131 t345.length co131]] (by rfl) rfl rfl (by (try simp only [List.map_toArray, List.map_cons, List.map_nil]); first | done | rfl | (simp only [List.length_drop, List.length_take]; rfl)) ?_
    with_reducible refine (hopperref08_Same.calls k t376 t377 _ _ t378 t343 t344 _ _ t345 true _ ?side1 ?side2 ?side3 ?side4 A27.out).mono ?_
    (case side1 => exact Kd.CA (Kd.R_reads' HO380.out).2.2)
    (case side2 => exact (Kd.R_reads' HO380.out).2.1)
    (case side3 => exact Kd.CA (Kd.V_reads' HO347.out).2.2)
    (case side4 => exact (Kd.V_reads' HO347.out).2.1)
    rintro e w171 ⟨rfl, hb⟩
    refine ⟨_, rfl, ?_⟩
    have n0_ := Aside0.mk (Kd.R_below (Kd.RA HO289.out) hb)
    have n1_ := Aside0.mk (Kd.V_below (Kd.VA HO294.out) hb)
    have n2_ := Aside0.mk (Kd.V_below (Kd.VA HO301.out) hb)
    have n3_ := Aside0.mk (Kd.R_below (Kd.RA HO308.out) hb)
    have n4_ := Aside0.mk (Kd.V_below (Kd.VA HO313.out) hb)
    have n5_ := Aside0.mk (Kd.V_below (Kd.VA HO324.out) hb)
    have n6_ := Aside0.mk (Kd.R_below (Kd.RA HO335.out) hb)
    have n7_ := Aside0.mk (Kd.V_below (Kd.VA HO340.out) hb)
    have n8_ := Aside0.mk (Kd.V_below (Kd.VA HO347.out) hb)
    have n9_ := Aside0.mk (Kd.R_below (Kd.RA HO354.out) hb)
    have n10_ := Aside0.mk (Kd.R_below (Kd.RA HO361.out) hb)
    have n11_ := Aside0.mk (Kd.R_below (Kd.RA HO368.out) hb)
    have n12_ := Aside0.mk (Kd.R_below (Kd.RA HO374.out) hb)
    have n13_ := Aside0.mk (Kd.R_below (Kd.RA HO380.out) hb)
    have n14_ := Aside0.mk (blk_below (BA BK281.out) hb)
    have n15_ := Aside0.mk (blk_below (BA BK282.out) hb)
    have n16_ := Aside0.mk (blk_below (BA BK296.out) hb)
    have n17_ := Aside0.mk (blk_below (BA BK303.out) hb)
    have n18_ := Aside0.mk (blk_below (BA BK318.out) hb)
    have n19_ := Aside0.mk (blk_below (BA BK319.out) hb)
    have n20_ := Aside0.mk (blk_below (BA BK329.out) hb)
    have n21_ := Aside0.mk (blk_below (BA BK330.out) hb)
    have n22_ := Aside0.mk (blk_below (BA BK342.out) hb)
    have n23_ := Aside0.mk (blk_below (BA BK349.out) hb)
    have n24_ := Aside0.mk (blk_below (BA BK356.out) hb)
    have n25_ := Aside0.mk (blk_below (BA BK363.out) hb)
    have n26_ := Aside0.mk (below_step (LG HB.out (G1 GE281.out (G1 GE282.out (G1 GE296.out (G1 GE303.out (G1 GE318.out (G1 GE319.out (G1 GE329.out (G1 GE330.out (G1 GE342.out (G1 GE349.out (G1 GE356.out (G1 GE363.out G0))))))))))))) hb)
    clear HO289
    clear HO294
    clear HO301
    clear HO308
    clear HO313
    clear HO324
    clear HO335
    clear HO340
    clear HO347
    clear HO354
    clear HO361
    clear HO368
    clear HO374
    clear HO380
    clear BK281
    clear BK282
    clear BK296
    clear BK303
    clear BK318
    clear BK319
    clear BK329
    clear BK330
    clear BK342
    clear BK349
    clear BK356
    clear BK363
    clear HB
    have HO289 := n0_
    have HO294 := n1_
    have HO301 := n2_
    have HO308 := n3_
    have HO313 := n4_
    have HO324 := n5_
    have HO335 := n6_
    have HO340 := n7_
    have HO347 := n8_
    have HO354 := n9_
    have HO361 := n10_
    have HO368 := n11_
    have HO374 := n12_
    have HO380 := n13_
    have BK281 := n14_
    have BK282 := n15_
    have BK296 := n16_
    have BK303 := n17_
    have BK318 := n18_
    have BK319 := n19_
    have BK329 := n20_
    have BK330 := n21_
    have BK342 := n22_
    have BK349 := n23_
    have BK356 := n24_
    have BK363 := n25_
    have HB := n26_
    clear n0_ n1_ n2_ n3_ n4_ n5_ n6_ n7_ n8_ n9_ n10_ n11_ n12_ n13_ n14_ n15_ n16_ n17_ n18_ n19_ n20_ n21_ n22_ n23_ n24_ n25_ n26_
    (try clear hb)
    (try clear hb2)
    (try clear hk)
    (try clear hi)
    refine hK.out _ _ ⟨(blk_cell BK296.out 0).trans rfl, (blk_cell BK296.out 1).trans rfl, (blk_cell BK296.out 2).trans rfl, (blk_cell BK303.out 0).trans rfl, (blk_cell BK303.out 1).trans rfl, (blk_cell BK303.out 2).trans rfl, (blk_cell BK318.out 0).trans rfl, (blk_cell BK318.out 1).trans rfl, (blk_cell BK318.out 2).trans rfl, (blk_cell BK329.out 0).trans rfl, (blk_cell BK329.out 1).trans rfl, (blk_cell BK329.out 2).trans rfl, (blk_cell BK319.out 0).trans rfl, (blk_cell BK319.out 1).trans rfl, (blk_cell BK319.out 2).trans rfl, (blk_cell BK330.out 0).trans rfl, (blk_cell BK330.out 1).trans rfl, (blk_cell BK330.out 2).trans rfl, (blk_cell BK342.out 0).trans rfl, (blk_cell BK342.out 1).trans rfl, (blk_cell BK342.out 2).trans rfl, (blk_cell BK349.out 0).trans rfl, (blk_cell BK349.out 1).trans rfl, (blk_cell BK349.out 2).trans rfl, (blk_cell BK356.out 0).trans rfl, (blk_cell BK356.out 1).trans rfl, (blk_cell BK356.out 2).trans rfl, (blk_cell BK363.out 0).trans rfl, (blk_cell BK363.out 1).trans rfl, (blk_cell BK363.out 2).trans rfl⟩ (fun hHeld => ?_)
    clear hK K
    refine norm_ (a' := ?_) ?_ ?_
    rotate_left
    · show Act.put _ (some 105) _ = _
      simp only [Act.put, PU, i64_w, i32_w]
      rfl
    refine pure_ (i := 30) (N := some 106) (v := ?_) (a' := ?_) (tf 31 51) rfl rfl (any_of HT_.out (by kernel_rfl)) (fun _ _ _ h => h) (Or.inl ⟨by rfl, ?_⟩) ?_ ?_
    rotate_left
    · intro w'
      go_simp
      with_reducible rfl
    rotate_left
    · simp only [Act.put, PU, i64_w, i32_w]
      rfl
    refine pure_ (i := 31) (N := some 107) (v := ?_) (a' := ?_) (tf 32 51) rfl rfl (any_of HT_.out (by kernel_rfl)) (fun _ _ _ h => h) (Or.inl ⟨by rfl, ?_⟩) ?_ ?_
    rotate_left
    · intro w'
      go_simp
      with_reducible rfl
    rotate_left
    · simp only [Act.put, PU, i64_w, i32_w]
      rfl
    refine pure_ (i := 32) (N := some 108) (v := ?_) (a' := ?_) (tf 33 51) rfl rfl (any_of HT_.out (by kernel_rfl)) (fun _ _ _ h => h) (Or.inl ⟨by rfl, ?_⟩) ?_ ?_
    rotate_left
    · intro w'
      go_simp
      with_reducible rfl
    rotate_left
    · simp only [Act.put, PU, i64_w, i32_w]
      rfl
    refine pure_ (i := 33) (N := some 109) (v := ?_) (a' := ?_) (tf 34 51) rfl rfl (any_of HT_.out (by kernel_rfl)) (fun _ _ _ h => h) (Or.inl ⟨by rfl, ?_⟩) ?_ ?_
    rotate_left
    · intro w'
      go_simp
      with_reducible rfl
    rotate_left
    · simp only [Act.put, PU, i64_w, i32_w]
      rfl
    refine pure_ (i := 34) (N := some 110) (v := ?_) (a' := ?_) (tf 35 51) rfl rfl (any_of HT_.out (by kernel_rfl)) (fun _ _ _ h => h) (Or.inl ⟨by rfl, ?_⟩) ?_ ?_
    rotate_left
    · intro w'
      go_simp
      with_reducible rfl
    rotate_left
    · simp only [Act.put, PU, i64_w, i32_w]
      rfl
    refine pure_ (i := 35) (N := some 111) (v := ?_) (a' := ?_) (tf 36 51) rfl rfl (any_of HT_.out (by kernel_rfl)) (fun _ _ _ h => h) (Or.inl ⟨by rfl, ?_⟩) ?_ ?_
    rotate_left
    · intro w'
      go_simp
      with_reducible rfl
    rotate_left
    · simp only [Act.put, PU, i64_w, i32_w]
      rfl
    refine pure_ (i := 36) (N := some 112) (v := ?_) (a' := ?_) (tf 37 51) rfl rfl (any_of HT_.out (by kernel_rfl)) (fun _ _ _ h => h) (Or.inl ⟨by rfl, ?_⟩) ?_ ?_
    rotate_left
    · intro w'
      go_simp
      with_reducible rfl
    rotate_left
    · simp only [Act.put, PU, i64_w, i32_w]
      rfl
    refine take_ (i := 37) (N := some 113) (v := ?_) (a' := ?_) (tf 38 51) rfl rfl (take_ofW HT_.out HW_.out (by kernel_rfl)) (fun _ _ _ h => h) (Or.inl ⟨by rfl, ?_⟩) hHeld ?_ ?_
    rotate_left
    · rintro w' ⟨s0, s1, s2, s3, s4, s5, s6, s7, s8, s9, s10, s11, s12, s13, s14, s15, s16, s17, s18, s19, s20, s21, s22, s23, s24, s25, s26, s27, s28, s29⟩
      go_simp
      with_reducible rfl
    rotate_left
    · simp only [Act.put, PU, i64_w, i32_w]
      rfl
    refine take_ (i := 39) (N := some 115) (v := ?_) (a' := ?_) #[true, true, true, true, true, true, true, true, true, true, true, true, true, true, true, true, true, true, true, true, true, true, true, true, true, true, true, true, true, true, true, true, true, true, true, true, true, true, false, true, false, false, false, false, false, false, false, false, false, false, false] rfl rfl (take_ofW HT_.out HW_.out (by kernel_rfl)) (fun _ _ _ h => h) (Or.inl ⟨by rfl, ?_⟩) hHeld ?_ ?_
    rotate_left
    · rintro w' ⟨s0, s1, s2, s3, s4, s5, s6, s7, s8, s9, s10, s11, s12, s13, s14, s15, s16, s17, s18, s19, s20, s21, s22, s23, s24, s25, s26, s27, s28, s29⟩
      go_simp
      with_reducible rfl
    rotate_left
    · simp only [Act.put, PU, i64_w, i32_w]
      rfl
    refine one_ (i := 38) (N := some 114) (tf 40 51) rfl rfl (one_of HT_.out (by kernel_rfl)) (by decide) (fun K hK => ?_)
    refine goes_ Try.func19 (by kernel_rfl) rfl #[.agg #[.int .i64 t350, .bool t351, .slice Ao145 t352.length co145]] (by rfl) rfl rfl (by (try simp only [List.map_toArray, List.map_cons, List.map_nil]); first | done | rfl | (simp only [List.length_drop, List.length_take]; rfl)) ?_
    with_reducible refine (hopperlaw08_told.calls k t350 t351 _ _ t352 t382 t383 t384 _ ?side1 ?side2 A30.out).mono ?_
    (case side1 => exact Kd.CA (Kd.R_reads' HO354.out).2.2)
    (case side2 => exact (Kd.R_reads' HO354.out).2.1)
    rintro e w172 ⟨v385, rfl, ho0, hb⟩
    refine ⟨_, rfl, ?_⟩
    have n0_ := Aside0.mk (Kd.R_below (Kd.RA HO289.out) hb)
    have n1_ := Aside0.mk (Kd.V_elder' (Kd.VA HO294.out) (Kd.R_base ho0) hb)
    have n2_ := Aside0.mk (Kd.V_elder' (Kd.VA HO301.out) (Kd.R_base ho0) hb)
    have n3_ := Aside0.mk (Kd.R_below (Kd.RA HO308.out) hb)
    have n4_ := Aside0.mk (Kd.V_elder' (Kd.VA HO313.out) (Kd.R_base ho0) hb)
    have n5_ := Aside0.mk (Kd.V_elder' (Kd.VA HO324.out) (Kd.R_base ho0) hb)
    have n6_ := Aside0.mk (Kd.R_below (Kd.RA HO335.out) hb)
    have n7_ := Aside0.mk (Kd.V_elder' (Kd.VA HO340.out) (Kd.R_base ho0) hb)
    have n8_ := Aside0.mk (Kd.V_elder' (Kd.VA HO347.out) (Kd.R_base ho0) hb)
    have n9_ := Aside0.mk (Kd.R_below (Kd.RA HO354.out) hb)
    have n10_ := Aside0.mk (Kd.R_elder' (Kd.RA HO361.out) (Kd.R_base ho0) hb)
    have n11_ := Aside0.mk (Kd.R_elder' (Kd.RA HO368.out) (Kd.R_base ho0) hb)
    have n12_ := Aside0.mk (Kd.R_elder' (Kd.RA HO374.out) (Kd.R_base ho0) hb)
    have n13_ := Aside0.mk (Kd.R_elder' (Kd.RA HO380.out) (Kd.R_base ho0) hb)
    have n14_ := Aside0.mk (Kd.R_lower (Kd.R_newB (Kd.R_newB (Kd.R_new' (Kd.R_new' (Kd.R_new' (Kd.R_new' ho0 (Kd.R_lt (Kd.RA HO361.out))) (Kd.R_lt (Kd.RA HO368.out))) (Kd.R_lt (Kd.RA HO374.out))) (Kd.R_lt (Kd.RA HO380.out))) (g := gb282) (o := .cells #[.int .i64 a1_0, .int .i64 a1_1, .string a1_2] 26 (0, 0)) (BA BK282.out)) (g := gb330) (o := .cells #[.int .i64 t325, .int .i64 t326, .string t327] 26 (0, 0)) (BA BK330.out)) (below_size (LG HB.out (G1 GE281.out (G1 GE282.out (G1 GE296.out (G1 GE303.out (G1 GE318.out (G1 GE319.out (G1 GE329.out (G1 GE330.out (G1 GE342.out (G1 GE349.out (G1 GE356.out (G1 GE363.out G0)))))))))))))))
    have n15_ := Aside0.mk (blk_below (BA BK281.out) hb)
    have n16_ := Aside0.mk (blk_below (BA BK282.out) hb)
    have n17_ := Aside0.mk (blk_below (BA BK296.out) hb)
    have n18_ := Aside0.mk (blk_below (BA BK303.out) hb)
    have n19_ := Aside0.mk (blk_below (BA BK318.out) hb)
    have n20_ := Aside0.mk (blk_below (BA BK319.out) hb)
    have n21_ := Aside0.mk (blk_below (BA BK329.out) hb)
    have n22_ := Aside0.mk (blk_below (BA BK330.out) hb)
    have n23_ := Aside0.mk (blk_below (BA BK342.out) hb)
    have n24_ := Aside0.mk (blk_below (BA BK349.out) hb)
    have n25_ := Aside0.mk (blk_below (BA BK356.out) hb)
    have n26_ := Aside0.mk (blk_below (BA BK363.out) hb)
    have n27_ := Aside0.mk (below_step (LG HB.out (G1 GE281.out (G1 GE282.out (G1 GE296.out (G1 GE303.out (G1 GE318.out (G1 GE319.out (G1 GE329.out (G1 GE330.out (G1 GE342.out (G1 GE349.out (G1 GE356.out (G1 GE363.out G0))))))))))))) hb)
    clear HO289
    clear HO294
    clear HO301
    clear HO308
    clear HO313
    clear HO324
    clear HO335
    clear HO340
    clear HO347
    clear HO354
    clear HO361
    clear HO368
    clear HO374
    clear HO380
    clear BK281
    clear BK282
    clear BK296
    clear BK303
    clear BK318
    clear BK319
    clear BK329
    clear BK330
    clear BK342
    clear BK349
    clear BK356
    clear BK363
    clear HB
    have HO289 := n0_
    have HO294 := n1_
    have HO301 := n2_
    have HO308 := n3_
    have HO313 := n4_
    have HO324 := n5_
    have HO335 := n6_
    have HO340 := n7_
    have HO347 := n8_
    have HO354 := n9_
    have HO361 := n10_
    have HO368 := n11_
    have HO374 := n12_
    have HO380 := n13_
    have HO386 := n14_
    have BK281 := n15_
    have BK282 := n16_
    have BK296 := n17_
    have BK303 := n18_
    have BK318 := n19_
    have BK319 := n20_
    have BK329 := n21_
    have BK330 := n22_
    have BK342 := n23_
    have BK349 := n24_
    have BK356 := n25_
    have BK363 := n26_
    have HB := n27_
    clear n0_ n1_ n2_ n3_ n4_ n5_ n6_ n7_ n8_ n9_ n10_ n11_ n12_ n13_ n14_ n15_ n16_ n17_ n18_ n19_ n20_ n21_ n22_ n23_ n24_ n25_ n26_ n27_
    (try clear hb)
    (try clear hb2)
    (try clear hk)
    (try clear hi)
    (try clear ho0)
    obtain ⟨Ao173, co173, eo173⟩ := Kd.R_slice HO386.out
    (first | subst eo173 | (injection eo173 with f1_ f2_ f3_; have f4_ := f1_.symm; have f5_ := f3_.symm; clear f1_ f2_ f3_; subst f4_; subst f5_))
    refine hK.out _ _ ⟨(blk_cell BK296.out 0).trans rfl, (blk_cell BK296.out 1).trans rfl, (blk_cell BK296.out 2).trans rfl, (blk_cell BK303.out 0).trans rfl, (blk_cell BK303.out 1).trans rfl, (blk_cell BK303.out 2).trans rfl, (blk_cell BK318.out 0).trans rfl, (blk_cell BK318.out 1).trans rfl, (blk_cell BK318.out 2).trans rfl, (blk_cell BK329.out 0).trans rfl, (blk_cell BK329.out 1).trans rfl, (blk_cell BK329.out 2).trans rfl, (blk_cell BK319.out 0).trans rfl, (blk_cell BK319.out 1).trans rfl, (blk_cell BK319.out 2).trans rfl, (blk_cell BK330.out 0).trans rfl, (blk_cell BK330.out 1).trans rfl, (blk_cell BK330.out 2).trans rfl, (blk_cell BK342.out 0).trans rfl, (blk_cell BK342.out 1).trans rfl, (blk_cell BK342.out 2).trans rfl, (blk_cell BK349.out 0).trans rfl, (blk_cell BK349.out 1).trans rfl, (blk_cell BK349.out 2).trans rfl, (blk_cell BK356.out 0).trans rfl, (blk_cell BK356.out 1).trans rfl, (blk_cell BK356.out 2).trans rfl, (blk_cell BK363.out 0).trans rfl, (blk_cell BK363.out 1).trans rfl, (blk_cell BK363.out 2).trans rfl⟩ (fun hHeld => ?_)
    clear hK K
    refine norm_ (a' := ?_) ?_ ?_
    rotate_left
    · show Act.put _ (some 114) _ = _
      simp only [Act.put, PU, i64_w, i32_w]
      rfl
    refine one_ (i := 40) (N := some 116) (tf 41 51) rfl rfl (one_of HT_.out (by kernel_rfl)) (by decide) (fun K hK => ?_)
    refine goes_ Try.func18 (by kernel_rfl) rfl #[.agg #[.int .i64 t382, .bool t383, .slice Ao173 t384.length co173], .agg #[.int .i64 t357, .bool t358, .slice Ao160 t359.length co160]] (by rfl) rfl rfl (by (try simp only [List.map_toArray, List.map_cons, List.map_nil]); first | done | rfl | (simp only [List.length_drop, List.length_take]; rfl)) ?_
    with_reducible refine (hopperref08_Same.calls k t382 t383 _ _ t384 t357 t358 _ _ t359 true _ ?side1 ?side2 ?side3 ?side4 A31.out).mono ?_
    (case side1 => exact Kd.CA (Kd.R_reads' HO386.out).2.2)
    (case side2 => exact (Kd.R_reads' HO386.out).2.1)
    (case side3 => exact Kd.CA (Kd.R_reads' HO361.out).2.2)
    (case side4 => exact (Kd.R_reads' HO361.out).2.1)
    rintro e w174 ⟨rfl, hb⟩
    refine ⟨_, rfl, ?_⟩
    have n0_ := Aside0.mk (Kd.R_below (Kd.RA HO289.out) hb)
    have n1_ := Aside0.mk (Kd.V_below (Kd.VA HO294.out) hb)
    have n2_ := Aside0.mk (Kd.V_below (Kd.VA HO301.out) hb)
    have n3_ := Aside0.mk (Kd.R_below (Kd.RA HO308.out) hb)
    have n4_ := Aside0.mk (Kd.V_below (Kd.VA HO313.out) hb)
    have n5_ := Aside0.mk (Kd.V_below (Kd.VA HO324.out) hb)
    have n6_ := Aside0.mk (Kd.R_below (Kd.RA HO335.out) hb)
    have n7_ := Aside0.mk (Kd.V_below (Kd.VA HO340.out) hb)
    have n8_ := Aside0.mk (Kd.V_below (Kd.VA HO347.out) hb)
    have n9_ := Aside0.mk (Kd.R_below (Kd.RA HO354.out) hb)
    have n10_ := Aside0.mk (Kd.R_below (Kd.RA HO361.out) hb)
    have n11_ := Aside0.mk (Kd.R_below (Kd.RA HO368.out) hb)
    have n12_ := Aside0.mk (Kd.R_below (Kd.RA HO374.out) hb)
    have n13_ := Aside0.mk (Kd.R_below (Kd.RA HO380.out) hb)
    have n14_ := Aside0.mk (Kd.R_below (Kd.RA HO386.out) hb)
    have n15_ := Aside0.mk (blk_below (BA BK281.out) hb)
    have n16_ := Aside0.mk (blk_below (BA BK282.out) hb)
    have n17_ := Aside0.mk (blk_below (BA BK296.out) hb)
    have n18_ := Aside0.mk (blk_below (BA BK303.out) hb)
    have n19_ := Aside0.mk (blk_below (BA BK318.out) hb)
    have n20_ := Aside0.mk (blk_below (BA BK319.out) hb)
    have n21_ := Aside0.mk (blk_below (BA BK329.out) hb)
    have n22_ := Aside0.mk (blk_below (BA BK330.out) hb)
    have n23_ := Aside0.mk (blk_below (BA BK342.out) hb)
    have n24_ := Aside0.mk (blk_below (BA BK349.out) hb)
    have n25_ := Aside0.mk (blk_below (BA BK356.out) hb)
    have n26_ := Aside0.mk (blk_below (BA BK363.out) hb)
    have n27_ := Aside0.mk (below_step (LG HB.out (G1 GE281.out (G1 GE282.out (G1 GE296.out (G1 GE303.out (G1 GE318.out (G1 GE319.out (G1 GE329.out (G1 GE330.out (G1 GE342.out (G1 GE349.out (G1 GE356.out (G1 GE363.out G0))))))))))))) hb)
    clear HO289
    clear HO294
    clear HO301
    clear HO308
    clear HO313
    clear HO324
    clear HO335
    clear HO340
    clear HO347
    clear HO354
    clear HO361
    clear HO368
    clear HO374
    clear HO380
    clear HO386
    clear BK281
    clear BK282
    clear BK296
    clear BK303
    clear BK318
    clear BK319
    clear BK329
    clear BK330
    clear BK342
    clear BK349
    clear BK356
    clear BK363
    clear HB
    have HO289 := n0_
    have HO294 := n1_
    have HO301 := n2_
    have HO308 := n3_
    have HO313 := n4_
    have HO324 := n5_
    have HO335 := n6_
    have HO340 := n7_
    have HO347 := n8_
    have HO354 := n9_
    have HO361 := n10_
    have HO368 := n11_
    have HO374 := n12_
    have HO380 := n13_
    have HO386 := n14_
    have BK281 := n15_
    have BK282 := n16_
    have BK296 := n17_
    have BK303 := n18_
    have BK318 := n19_
    have BK319 := n20_
    have BK329 := n21_
    have BK330 := n22_
    have BK342 := n23_
    have BK349 := n24_
    have BK356 := n25_
    have BK363 := n26_
    have HB := n27_
    clear n0_ n1_ n2_ n3_ n4_ n5_ n6_ n7_ n8_ n9_ n10_ n11_ n12_ n13_ n14_ n15_ n16_ n17_ n18_ n19_ n20_ n21_ n22_ n23_ n24_ n25_ n26_ n27_
    (try clear hb)
    (try clear hb2)
    (try clear hk)
    (try clear hi)
    refine hK.out _ _ ⟨(blk_cell BK296.out 0).trans rfl, (blk_cell BK296.out 1).trans rfl, (blk_cell BK296.out 2).trans rfl, (blk_cell BK303.out 0).trans rfl, (blk_cell BK303.out 1).trans rfl, (blk_cell BK303.out 2).trans rfl, (blk_cell BK318.out 0).trans rfl, (blk_cell BK318.out 1).trans rfl, (blk_cell BK318.out 2).trans rfl, (blk_cell BK329.out 0).trans rfl, (blk_cell BK329.out 1).trans rfl, (blk_cell BK329.out 2).trans rfl, (blk_cell BK319.out 0).trans rfl, (blk_cell BK319.out 1).trans rfl, (blk_cell BK319.out 2).trans rfl, (blk_cell BK330.out 0).trans rfl, (blk_cell BK330.out 1).trans rfl, (blk_cell BK330.out 2).trans rfl, (blk_cell BK342.out 0).trans rfl, (blk_cell BK342.out 1).trans rfl, (blk_cell BK342.out 2).trans rfl, (blk_cell BK349.out 0).trans rfl, (blk_cell BK349.out 1).trans rfl, (blk_cell BK349.out 2).trans rfl, (blk_cell BK356.out 0).trans rfl, (blk_cell BK356.out 1).trans rfl, (blk_cell BK356.out 2).trans rfl, (blk_cell BK363.out 0).trans rfl, (blk_cell BK363.out 1).trans rfl, (blk_cell BK363.out 2).trans rfl⟩ (fun hHeld => ?_)
    clear hK K
    refine norm_ (a' := ?_) ?_ ?_
    rotate_left
    · show Act.put _ (some 116) _ = _
      simp only [Act.put, PU, i64_w, i32_w]
      rfl
    refine pure_ (i := 41) (N := some 117) (v := ?_) (a' := ?_) (tf 42 51) rfl rfl (any_of HT_.out (by kernel_rfl)) (fun _ _ _ h => h) (Or.inl ⟨by rfl, ?_⟩) ?_ ?_
    rotate_left
    · intro w'
      go_simp
      with_reducible rfl
    rotate_left
    · simp only [Act.put, PU, i64_w, i32_w]
      rfl
    refine pure_ (i := 42) (N := some 118) (v := ?_) (a' := ?_) (tf 43 51) rfl rfl (any_of HT_.out (by kernel_rfl)) (fun _ _ _ h => h) (Or.inl ⟨by rfl, ?_⟩) ?_ ?_
    rotate_left
    · intro w'
      go_simp
      with_reducible rfl
    rotate_left
    · simp only [Act.put, PU, i64_w, i32_w]
      rfl
    refine pure_ (i := 43) (N := some 119) (v := ?_) (a' := ?_) (tf 44 51) rfl rfl (any_of HT_.out (by kernel_rfl)) (fun _ _ _ h => h) (Or.inl ⟨by rfl, ?_⟩) ?_ ?_
    rotate_left
    · intro w'
      go_simp
      with_reducible rfl
    rotate_left
    · simp only [Act.put, PU, i64_w, i32_w]
      rfl
    refine pure_ (i := 44) (N := some 120) (v := ?_) (a' := ?_) (tf 45 51) rfl rfl (any_of HT_.out (by kernel_rfl)) (fun _ _ _ h => h) (Or.inl ⟨by rfl, ?_⟩) ?_ ?_
    rotate_left
    · intro w'
      go_simp
      with_reducible rfl
    rotate_left
    · simp only [Act.put, PU, i64_w, i32_w]
      rfl
    refine pure_ (i := 45) (N := some 121) (v := ?_) (a' := ?_) (tf 46 51) rfl rfl (any_of HT_.out (by kernel_rfl)) (fun _ _ _ h => h) (Or.inl ⟨by rfl, ?_⟩) ?_ ?_
    rotate_left
    · intro w'
      go_simp
      with_reducible rfl
    rotate_left
    · simp only [Act.put, PU, i64_w, i32_w]
      rfl
    refine pure_ (i := 46) (N := some 122) (v := ?_) (a' := ?_) (tf 47 51) rfl rfl (any_of HT_.out (by kernel_rfl)) (fun _ _ _ h => h) (Or.inl ⟨by rfl, ?_⟩) ?_ ?_
    rotate_left
    · intro w'
      go_simp
      with_reducible rfl
    rotate_left
    · simp only [Act.put, PU, i64_w, i32_w]
      rfl
    refine pure_ (i := 47) (N := some 123) (v := ?_) (a' := ?_) (tf 48 51) rfl rfl (any_of HT_.out (by kernel_rfl)) (fun _ _ _ h => h) (Or.inl ⟨by rfl, ?_⟩) ?_ ?_
    rotate_left
    · intro w'
      go_simp
      with_reducible rfl
    rotate_left
    · simp only [Act.put, PU, i64_w, i32_w]
      rfl
    refine one_ (i := 48) (N := some 124) (tf 49 51) rfl rfl (one_of HT_.out (by kernel_rfl)) (by decide) (fun K hK => ?_)
    refine goes_ Try.func8 (by kernel_rfl) rfl #[] (by rfl) rfl rfl (by (try simp only [List.map_toArray, List.map_cons, List.map_nil]); first | done | rfl | (simp only [List.length_drop, List.length_take]; rfl)) ?_
    with_reducible refine (hopperlaw08_live.calls  t388 _ A34.out).mono ?_
    rintro e w175 ⟨rfl, hb⟩
    refine ⟨_, rfl, ?_⟩
    have n0_ := Aside0.mk (Kd.R_below (Kd.RA HO289.out) hb)
    have n1_ := Aside0.mk (Kd.V_below (Kd.VA HO294.out) hb)
    have n2_ := Aside0.mk (Kd.V_below (Kd.VA HO301.out) hb)
    have n3_ := Aside0.mk (Kd.R_below (Kd.RA HO308.out) hb)
    have n4_ := Aside0.mk (Kd.V_below (Kd.VA HO313.out) hb)
    have n5_ := Aside0.mk (Kd.V_below (Kd.VA HO324.out) hb)
    have n6_ := Aside0.mk (Kd.R_below (Kd.RA HO335.out) hb)
    have n7_ := Aside0.mk (Kd.V_below (Kd.VA HO340.out) hb)
    have n8_ := Aside0.mk (Kd.V_below (Kd.VA HO347.out) hb)
    have n9_ := Aside0.mk (Kd.R_below (Kd.RA HO354.out) hb)
    have n10_ := Aside0.mk (Kd.R_below (Kd.RA HO361.out) hb)
    have n11_ := Aside0.mk (Kd.R_below (Kd.RA HO368.out) hb)
    have n12_ := Aside0.mk (Kd.R_below (Kd.RA HO374.out) hb)
    have n13_ := Aside0.mk (Kd.R_below (Kd.RA HO380.out) hb)
    have n14_ := Aside0.mk (Kd.R_below (Kd.RA HO386.out) hb)
    have n15_ := Aside0.mk (blk_below (BA BK281.out) hb)
    have n16_ := Aside0.mk (blk_below (BA BK282.out) hb)
    have n17_ := Aside0.mk (blk_below (BA BK296.out) hb)
    have n18_ := Aside0.mk (blk_below (BA BK303.out) hb)
    have n19_ := Aside0.mk (blk_below (BA BK318.out) hb)
    have n20_ := Aside0.mk (blk_below (BA BK319.out) hb)
    have n21_ := Aside0.mk (blk_below (BA BK329.out) hb)
    have n22_ := Aside0.mk (blk_below (BA BK330.out) hb)
    have n23_ := Aside0.mk (blk_below (BA BK342.out) hb)
    have n24_ := Aside0.mk (blk_below (BA BK349.out) hb)
    have n25_ := Aside0.mk (blk_below (BA BK356.out) hb)
    have n26_ := Aside0.mk (blk_below (BA BK363.out) hb)
    have n27_ := Aside0.mk (below_step (LG HB.out (G1 GE281.out (G1 GE282.out (G1 GE296.out (G1 GE303.out (G1 GE318.out (G1 GE319.out (G1 GE329.out (G1 GE330.out (G1 GE342.out (G1 GE349.out (G1 GE356.out (G1 GE363.out G0))))))))))))) hb)
    clear HO289
    clear HO294
    clear HO301
    clear HO308
    clear HO313
    clear HO324
    clear HO335
    clear HO340
    clear HO347
    clear HO354
    clear HO361
    clear HO368
    clear HO374
    clear HO380
    clear HO386
    clear BK281
    clear BK282
    clear BK296
    clear BK303
    clear BK318
    clear BK319
    clear BK329
    clear BK330
    clear BK342
    clear BK349
    clear BK356
    clear BK363
    clear HB
    have HO289 := n0_
    have HO294 := n1_
    have HO301 := n2_
    have HO308 := n3_
    have HO313 := n4_
    have HO324 := n5_
    have HO335 := n6_
    have HO340 := n7_
    have HO347 := n8_
    have HO354 := n9_
    have HO361 := n10_
    have HO368 := n11_
    have HO374 := n12_
    have HO380 := n13_
    have HO386 := n14_
    have BK281 := n15_
    have BK282 := n16_
    have BK296 := n17_
    have BK303 := n18_
    have BK318 := n19_
    have BK319 := n20_
    have BK329 := n21_
    have BK330 := n22_
    have BK342 := n23_
    have BK349 := n24_
    have BK356 := n25_
    have BK363 := n26_
    have HB := n27_
    clear n0_ n1_ n2_ n3_ n4_ n5_ n6_ n7_ n8_ n9_ n10_ n11_ n12_ n13_ n14_ n15_ n16_ n17_ n18_ n19_ n20_ n21_ n22_ n23_ n24_ n25_ n26_ n27_
    (try clear hb)
    (try clear hb2)
    (try clear hk)
    (try clear hi)
    refine hK.out _ _ ⟨(blk_cell BK296.out 0).trans rfl, (blk_cell BK296.out 1).trans rfl, (blk_cell BK296.out 2).trans rfl, (blk_cell BK303.out 0).trans rfl, (blk_cell BK303.out 1).trans rfl, (blk_cell BK303.out 2).trans rfl, (blk_cell BK318.out 0).trans rfl, (blk_cell BK318.out 1).trans rfl, (blk_cell BK318.out 2).trans rfl, (blk_cell BK329.out 0).trans rfl, (blk_cell BK329.out 1).trans rfl, (blk_cell BK329.out 2).trans rfl, (blk_cell BK319.out 0).trans rfl, (blk_cell BK319.out 1).trans rfl, (blk_cell BK319.out 2).trans rfl, (blk_cell BK330.out 0).trans rfl, (blk_cell BK330.out 1).trans rfl, (blk_cell BK330.out 2).trans rfl, (blk_cell BK342.out 0).trans rfl, (blk_cell BK342.out 1).trans rfl, (blk_cell BK342.out 2).trans rfl, (blk_cell BK349.out 0).trans rfl, (blk_cell BK349.out 1).trans rfl, (blk_cell BK349.out 2).trans rfl, (blk_cell BK356.out 0).trans rfl, (blk_cell BK356.out 1).trans rfl, (blk_cell BK356.out 2).trans rfl, (blk_cell BK363.out 0).trans rfl, (blk_cell BK363.out 1).trans rfl, (blk_cell BK363.out 2).trans rfl⟩ (fun hHeld => ?_)
    clear hK K
    refine norm_ (a' := ?_) ?_ ?_
    rotate_left
    · show Act.put _ (some 124) _ = _
      simp only [Act.put, PU, i64_w, i32_w]
      rfl
    refine pure_ (i := 49) (N := some 125) (v := ?_) (a' := ?_) (tf 50 51) rfl rfl (any_of HT_.out (by kernel_rfl)) (fun _ _ _ h => h) (Or.inl ⟨by rfl, ?_⟩) ?_ ?_
    rotate_left
    · intro w'
      go_simp
      with_reducible rfl
    rotate_left
    · simp only [Act.put, PU, i64_w, i32_w]
      rfl
    refine pure_ (i := 50) (N := some 6) (v := ?_) (a' := ?_) (tf 51 51) rfl rfl (any_of HT_.out (by kernel_rfl)) (fun _ _ _ h => h) (Or.inl ⟨by rfl, ?_⟩) ?_ ?_
    rotate_left
    · intro w'
      go_simp
      with_reducible rfl
    rotate_left
    · simp only [Act.put, PU, i64_w, i32_w]
      rfl
    refine done_ (done_of HT_.out (by kernel_rfl)) ?_
    try go_wp2
    go_ret
    exact ⟨by first | (rw [HR_.out]; done) | rfl | (rw [HR_.out]; rfl) | (simp [HR_.out]; done) | (simp [errW_none, errW_some] <;> rfl) | (simp [*, errW_none, errW_some] <;> rfl), LG HB.out (G1 GE281.out (G1 GE282.out (G1 GE296.out (G1 GE303.out (G1 GE318.out (G1 GE319.out (G1 GE329.out (G1 GE330.out (G1 GE342.out (G1 GE349.out (G1 GE356.out (G1 GE363.out G0))))))))))))⟩
  · replace c5 := Bool.eq_false_iff.mpr c5
    subst c5
    have H1 : ((hopperlaw08_live.f).bind fun t284 => (some t284)) = some true := by rw [if_neg (show ¬ (false = true) by decide)] at H; exact H
    clear H
    have H := H1
    clear H1
    replace H := Option.bind_eq_some_iff.mp H
    obtain ⟨t284, A1760, H⟩ := H
    try dsimp only at H
    have A176 := Aside0.mk A1760
    clear A1760
    have HR_ := Aside0.mk (Option.some.inj H)
    clear H
    go_enter Try.func3, Try.ntmps3
    go_wp2_with (first | ((with_reducible refine gate_dst (N := 3) rfl ?_); refine box_event ?hg (N := 3) ?hd (cs := #[.int .i64 a0_0, .bool a0_1, .slice A0_2 l0_2.length c0_2]) (t := 24) ?hr ?_; (case hd => rfl); (case hg => rfl); (case hr => first | (go_simp; done) | (go_simp; rfl)); intro gb281 hg w177 hbox hb; have BK281 := Aside0.mk (hbox); have GE281 := Aside0.mk (ge1 hg (LA HB.out)); replace HB := Aside0.mk (below_step (LA HB.out) hb); clear hb hbox hg) | ((with_reducible refine gate_dst (N := 4) rfl ?_); refine box_event ?hg (N := 4) ?hd (cs := #[.int .i64 a1_0, .int .i64 a1_1, .string a1_2]) (t := 26) ?hr ?_; (case hd => rfl); (case hg => rfl); (case hr => first | (go_simp; done) | (go_simp; rfl)); intro gb282 hg w178 hbox hb; have GE282 := Aside0.mk (ge1 hg (LA HB.out)); replace HB := Aside0.mk (below_step (LA HB.out) hb); have NB281_282 := Aside0.mk ((by rw [hg]; exact Nat.ne_of_lt (blk_lt (g := gb281) (o := .cells #[.int .i64 a0_0, .bool a0_1, .slice A0_2 l0_2.length c0_2] 24 (0, 0)) (BA BK281.out)) : gb281 ≠ gb282)); have NB282_281 := Aside0.mk ((by rw [hg]; exact Nat.ne_of_gt (blk_lt (g := gb281) (o := .cells #[.int .i64 a0_0, .bool a0_1, .slice A0_2 l0_2.length c0_2] 24 (0, 0)) (BA BK281.out)) : gb282 ≠ gb281)); replace BK281 := Aside0.mk (blk_below (BA BK281.out) hb); clear hb hbox hg; have hnb179 := NB281_282.out; have hnc179 := NB282_281.out; obtain ⟨hcz180_0, hcz180_1, hcz180_2, hfz180_0, hfz180_1, hfz180_2⟩ := cz3 BK281.out) | ((with_reducible refine gate_callee (f := 7) rfl ?_); refine goesL_ (some 26) rfl rfl Try.func7 (by kernel_rfl) rfl #[.agg #[.int .i64 a0_0, .bool a0_1, .slice A0_2 l0_2.length c0_2]] rfl (by (try simp only [List.map_toArray, List.map_cons, List.map_nil]); first | done | rfl | (simp only [List.length_drop, List.length_take]; rfl)) ?_; (with_reducible refine (hopperref08_Small.calls a0_0 a0_1 _ _ l0_2 false _ ?side1 ?side2 A4.out).mono ?_); (case side1 => exact Kd.CA (Kd.C_below HR0_2.out HB.out)); (case side2 => exact HC0_2.out); rintro e w181 ⟨rfl, hb⟩; refine ⟨_, rfl, ?_⟩; replace HB := Aside0.mk (below_step (LA HB.out) hb); (try clear BK281); (try clear BK282); (try clear hb); (try clear hb2); (try clear hk); (try clear hi)) | ((with_reducible refine gate_callee (f := 8) rfl ?_); refine goesL_ (some 28) rfl rfl Try.func8 (by kernel_rfl) rfl #[] rfl (by (try simp only [List.map_toArray, List.map_cons, List.map_nil]); first | done | rfl | (simp only [List.length_drop, List.length_take]; rfl)) ?_; (with_reducible refine (hopperlaw08_live.calls  t284 _ A176.out).mono ?_); rintro e w182 ⟨rfl, hb⟩; refine ⟨_, rfl, ?_⟩; replace HB := Aside0.mk (below_step (LA HB.out) hb); (try clear BK281); (try clear BK282); (try clear hb); (try clear hb2); (try clear hk); (try clear hi)))
    go_ret
    exact ⟨by first | (rw [HR_.out]; done) | rfl | (rw [HR_.out]; rfl) | (simp [HR_.out]; done) | (simp [errW_none, errW_some] <;> rfl) | (simp [*, errW_none, errW_some] <;> rfl), LG HB.out (G1 GE281.out (G1 GE282.out G0))⟩

-- GIVEN hopperlaw08_PipeTells

end Go.Proofs.Ytacncgpnimdfbaa.PPipeTells
