/- What the functions that the law reaches answer, each as a plain Lean function, with a proof that the call in memory comes to that answer. Written by wip/tools/given.py of this session out of the print.py of the kit, with stand-ins for some functions. -/
import Derived.Test.YthmnedlaecekkaaPFeedPartsx0
import Derived.Test.YthmnedlaecekkaaPFeedPartsx1
import Derived.Test.YthmnedlaecekkaaPFeedPartsx2
import Derived.Test.YthmnedlaecekkaaPFeedPartsx3
import Derived.Test.YthmnedlaecekkaaPFeedPartsx4
namespace Go.Proofs.Ythmnedlaecekkaa.PFeedParts
open Go.RowKit Go.Proofs.YthmnedlaecekkaaW.PrintWords Go.Proofs.YthmnedlaecekkaaW.PrintLast Go.Proofs.YthmnedlaecekkaaW.PrintMore
attribute [local go_sem] max2_int min2_int max_two min_two max_three min_three max_four min_four   -- for this text's walks alone
set_option linter.unusedVariables false
set_option linter.unusedSimpArgs false

attribute [local go_sem high] eqA36
/-! ### hopperlaw14_live: function 10 -/
def hopperlaw14_live.j0 : Nat → Int → Int → Int → Int → List (S36) → Int → Bool → Int → List (S36) → Int → Int → Int → Int → Int → Int → Int → ByteArray → Int → Int → Int → Int → Int → Int → Int → ByteArray → Int → Option (Bool)
  | 0, _, _, _, _, _, _, _, _, _, _, _, _, _, _, _, _, _, _, _, _, _, _, _, _, _, _ => none
  | k + 1, x2, x6, x9, x12, x14, x16, x62, x208000, x208001, x208002, x224000, x224001, x224002, x224003, x224004, x224005, x224006, x224007, x240000, x240001, x240002, x240003, x240004, x240005, x240006, x240007 => if x62 = true then (some false) else (if x2 = 0 then (if x208002 = 2 then ((hopperlaw14_event.f 1).bind fun bt272 => (if (x224000 == bt272.1 && ((x224001 == bt272.2.1 && (x224002 == bt272.2.2.1 && (x224003 == bt272.2.2.2.1 && (x224004 == bt272.2.2.2.2.1 && (x224005 == bt272.2.2.2.2.2.1 && (x224006.toList == bt272.2.2.2.2.2.2.1.toList)))))) && (x224007 == bt272.2.2.2.2.2.2.2))) = true then (if x6 = 0 then (if (x240000 == 4 && ((x240001 == 0 && (x240002 == 0 && (x240003 == 0 && (x240004 == 0 && (x240005 == 0 && (x240006.toList == ([] : List UInt8))))))) && (x240007 == 2))) = true then (if x9 = 0 then (if x12 = 7 then (if x16 = 1 then ((hopperlaw14_event.f 1).bind fun bt280 => ((hopperlaw14_event.f 2).bind fun bt288 => ((hopperlaw14_event.f 3).bind fun bt296 => ((feed_Covers.f k x14 (([(⟨bt280.1, (⟨bt280.2.1, bt280.2.2.1, bt280.2.2.2.1, bt280.2.2.2.2.1, bt280.2.2.2.2.2.1, bt280.2.2.2.2.2.2.1⟩ : S34), bt280.2.2.2.2.2.2.2⟩ : S36), (⟨bt288.1, (⟨bt288.2.1, bt288.2.2.1, bt288.2.2.2.1, bt288.2.2.2.2.1, bt288.2.2.2.2.2.1, bt288.2.2.2.2.2.2.1⟩ : S34), bt288.2.2.2.2.2.2.2⟩ : S36), (⟨bt296.1, (⟨bt296.2.1, bt296.2.2.1, bt296.2.2.2.1, bt296.2.2.2.2.1, bt296.2.2.2.2.2.1, bt296.2.2.2.2.2.2.1⟩ : S34), bt296.2.2.2.2.2.2.2⟩ : S36)] : List (S36)))).bind fun t307 => (if t307 = true then ((hopperlaw14_event.f 1).bind fun bt308 => ((hopperlaw14_event.f 2).bind fun bt316 => ((feed_Covers.f k x14 (([(⟨bt308.1, (⟨bt308.2.1, bt308.2.2.1, bt308.2.2.2.1, bt308.2.2.2.2.1, bt308.2.2.2.2.2.1, bt308.2.2.2.2.2.2.1⟩ : S34), bt308.2.2.2.2.2.2.2⟩ : S36), (⟨bt316.1, (⟨bt316.2.1, bt316.2.2.1, bt316.2.2.2.1, bt316.2.2.2.2.1, bt316.2.2.2.2.2.1, bt316.2.2.2.2.2.2.1⟩ : S34), bt316.2.2.2.2.2.2.2⟩ : S36)] : List (S36)))).bind fun t327 => (if t327 = true then (some false) else ((feed_Covers.f k ([] : List (S36)) x14).bind fun t328 => (some (!t328))))))) else (some false)))))) else (some false)) else (some false)) else (some false)) else (some false)) else (some false)) else (some false))) else (some false)) else (some false))
def hopperlaw14_live.f (k : Nat)  : Option (Bool) := (feed_New.f 1).bind fun bt168 => ((hopperlaw14_event.f 1).bind fun bt175 => ((hopperlaw14_event.f 2).bind fun bt183 => ((hopperlaw14_event.f 3).bind fun bt191 => ((feed_Tell.f k bt168.1 bt168.2.1 bt168.2.2.1 (([(⟨bt175.1, (⟨bt175.2.1, bt175.2.2.1, bt175.2.2.2.1, bt175.2.2.2.2.1, bt175.2.2.2.2.2.1, bt175.2.2.2.2.2.2.1⟩ : S34), bt175.2.2.2.2.2.2.2⟩ : S36), (⟨bt183.1, (⟨bt183.2.1, bt183.2.2.1, bt183.2.2.2.1, bt183.2.2.2.2.1, bt183.2.2.2.2.2.1, bt183.2.2.2.2.2.2.1⟩ : S34), bt183.2.2.2.2.2.2.2⟩ : S36), (⟨bt191.1, (⟨bt191.2.1, bt191.2.2.1, bt191.2.2.2.1, bt191.2.2.2.2.1, bt191.2.2.2.2.2.1, bt191.2.2.2.2.2.2.1⟩ : S34), bt191.2.2.2.2.2.2.2⟩ : S36)] : List (S36)))).bind fun bt202 => ((feed_Read.f bt202.1 bt202.2.1 bt202.2.2).bind fun bt208 => ((feed_Read.f bt208.1 bt208.2.1 bt208.2.2.1).bind fun bt224 => ((feed_Read.f bt224.1 bt224.2.1 bt224.2.2.1).bind fun bt240 => ((feed_All.f k bt202.1 bt202.2.1 bt202.2.2).bind fun bt256 => ((feed_New.f 17).bind fun bt265 => (if (bt256.2.2.2.length : Int) = 2 then (hopperlaw14_live.j0 k bt168.2.2.2 bt208.2.2.2.2.2.2.2.2.2.2.2 bt224.2.2.2.2.2.2.2.2.2.2.2 bt240.2.2.2.2.2.2.2.2.2.2.2 bt256.2.2.2 bt265.2.2.2 ((bt202.2.1.length : Int) != 1) bt202.1 bt202.2.1 bt202.2.2 bt208.2.2.2.1 bt208.2.2.2.2.1 bt208.2.2.2.2.2.1 bt208.2.2.2.2.2.2.1 bt208.2.2.2.2.2.2.2.1 bt208.2.2.2.2.2.2.2.2.1 bt208.2.2.2.2.2.2.2.2.2.1 bt208.2.2.2.2.2.2.2.2.2.2.1 bt224.2.2.2.1 bt224.2.2.2.2.1 bt224.2.2.2.2.2.1 bt224.2.2.2.2.2.2.1 bt224.2.2.2.2.2.2.2.1 bt224.2.2.2.2.2.2.2.2.1 bt224.2.2.2.2.2.2.2.2.2.1 bt224.2.2.2.2.2.2.2.2.2.2.1) else (hopperlaw14_live.j0 k bt168.2.2.2 bt208.2.2.2.2.2.2.2.2.2.2.2 bt224.2.2.2.2.2.2.2.2.2.2.2 bt240.2.2.2.2.2.2.2.2.2.2.2 bt256.2.2.2 bt265.2.2.2 true bt202.1 bt202.2.1 bt202.2.2 bt208.2.2.2.1 bt208.2.2.2.2.1 bt208.2.2.2.2.2.1 bt208.2.2.2.2.2.2.1 bt208.2.2.2.2.2.2.2.1 bt208.2.2.2.2.2.2.2.2.1 bt208.2.2.2.2.2.2.2.2.2.1 bt208.2.2.2.2.2.2.2.2.2.2.1 bt224.2.2.2.1 bt224.2.2.2.2.1 bt224.2.2.2.2.2.1 bt224.2.2.2.2.2.2.1 bt224.2.2.2.2.2.2.2.1 bt224.2.2.2.2.2.2.2.2.1 bt224.2.2.2.2.2.2.2.2.2.1 bt224.2.2.2.2.2.2.2.2.2.2.1)))))))))))
theorem hopperlaw14_live.mono_l : ∀ k, (∀ y0 y1 y2 y3 y4 y5 y6 y7 y8 y9 y10 y11 y12 y13 y14 y15 y16 y17 y18 y19 y20 y21 y22 y23 y24 y25, LeO (hopperlaw14_live.j0 k y0 y1 y2 y3 y4 y5 y6 y7 y8 y9 y10 y11 y12 y13 y14 y15 y16 y17 y18 y19 y20 y21 y22 y23 y24 y25) (hopperlaw14_live.j0 (k + 1) y0 y1 y2 y3 y4 y5 y6 y7 y8 y9 y10 y11 y12 y13 y14 y15 y16 y17 y18 y19 y20 y21 y22 y23 y24 y25))
  | 0 => fun _ _ _ _ _ _ _ _ _ _ _ _ _ _ _ _ _ _ _ _ _ _ _ _ _ _ r h => by simp [hopperlaw14_live.j0] at h
  | k + 1 => by
    have ih0 := hopperlaw14_live.mono_l k
    · intro y0 y1 y2 y3 y4 y5 y6 y7 y8 y9 y10 y11 y12 y13 y14 y15 y16 y17 y18 y19 y20 y21 y22 y23 y24 y25
      unfold hopperlaw14_live.j0
      repeat' first
      | (with_reducible exact ih0 _ _ _ _ _ _ _ _ _ _ _ _ _ _ _ _ _ _ _ _ _ _ _ _ _ _)
      | (with_reducible exact feed_All.mono _ _ _ _)
      | (with_reducible exact feed_Covers.mono _ _ _)
      | (with_reducible exact feed_Tell.mono _ _ _ _ _)
      | (with_reducible exact LeO.refl _)
      | (with_reducible exact LeO.none _)
      | (with_reducible refine LeO.ite ?_ ?_)
      | (with_reducible refine LeO.bind ?_ (fun _ => ?_))
      | exact ih0 _ _ _ _ _ _ _ _ _ _ _ _ _ _ _ _ _ _ _ _ _ _ _ _ _ _
      | exact feed_All.mono _ _ _ _
      | exact feed_Covers.mono _ _ _
      | exact feed_Tell.mono _ _ _ _ _
      | exact LeO.none _
      | refine LeO.ite ?_ ?_
      | refine LeO.bind ?_ (fun _ => ?_)
theorem hopperlaw14_live.mono : ∀ k, LeO (hopperlaw14_live.f k ) (hopperlaw14_live.f (k + 1) ) := by
  intro  k
  have ih0 := hopperlaw14_live.mono_l k
  unfold hopperlaw14_live.f
  repeat' first
      | (with_reducible exact ih0 _ _ _ _ _ _ _ _ _ _ _ _ _ _ _ _ _ _ _ _ _ _ _ _ _ _)
      | (with_reducible exact feed_All.mono _ _ _ _)
      | (with_reducible exact feed_Covers.mono _ _ _)
      | (with_reducible exact feed_Tell.mono _ _ _ _ _)
      | (with_reducible exact LeO.refl _)
      | (with_reducible exact LeO.none _)
      | (with_reducible refine LeO.ite ?_ ?_)
      | (with_reducible refine LeO.bind ?_ (fun _ => ?_))
      | exact ih0 _ _ _ _ _ _ _ _ _ _ _ _ _ _ _ _ _ _ _ _ _ _ _ _ _ _
      | exact feed_All.mono _ _ _ _
      | exact feed_Covers.mono _ _ _
      | exact feed_Tell.mono _ _ _ _ _
      | exact LeO.none _
      | refine LeO.ite ?_ ?_
      | refine LeO.bind ?_ (fun _ => ?_)
def hopperlaw14_live.T2 : Bool × List (List Nat × List Nat) := (true, [([], []), ([], []), ([1], []), ([2], []), ([1, 2, 3], [1, 2, 3]), ([0, 4, 3], [0, 4]), ([], []), ([6, 5, 5, 0, 1, 2, 3, 4, 5, 6], [5, 6])])
def hopperlaw14_live.B2 : List Nat := [0, 0, 2, 6, 14, 31, 0, 127]
theorem hopperlaw14_live.tab2 : rtab .any (opsOf Try.f10 2) = hopperlaw14_live.T2 := by kernel_rfl
theorem hopperlaw14_live.bits2 : waitsOk hopperlaw14_live.T2.2 hopperlaw14_live.B2 = true := by kernel_rfl
def hopperlaw14_live.T10 : Bool × List (List Nat × List Nat) := (true, [([], []), ([0], [0]), ([1], [1]), ([2], [2]), ([3, 2], [2, 3]), ([4, 2], [2, 4]), ([2, 5], [2, 5]), ([6, 2], [6]), ([7], [7]), ([7, 7], [7]), ([8, 9, 7], [7, 8, 9]), ([7, 10], [7, 10]), ([11, 9], [11]), ([12], [12]), ([13, 12], [12, 13]), ([12, 14], [12, 14]), ([15, 12], [15]), ([16], [16]), ([16], [16]), ([17, 18, 16], [16, 17, 18]), ([16, 19], [16, 19]), ([20, 16], [20]), ([21], [21]), ([22, 21], [21, 22]), ([21, 23], [21, 23]), ([24, 21], [24]), ([25], [25]), ([26, 25], [25, 26]), ([25, 27], [25, 27]), ([28, 25], [28]), ([29], [29]), ([30, 29], [29, 30]), ([29, 31], [29, 31]), ([32, 29], [32]), ([33], [33]), ([33, 33], [33]), ([35, 33], [33]), ([36, 33], [33]), ([35, 36, 37, 33], [33, 35, 36, 37]), ([34, 38, 37, 33], [33, 34, 38]), ([33, 39], [33, 39]), ([40, 39], [40]), ([41], [41]), ([41, 41], [41]), ([43, 41], [41]), ([43, 44, 41], [41, 43, 44]), ([42, 45, 44, 41], [41, 42, 45]), ([46, 41], [41, 46]), ([41, 47], [41, 47]), ([48, 46], [48]), ([49], [49]), ([50, 49, 49], [49, 50]), ([51, 49], [49, 51]), ([49, 52], [49, 52]), ([53, 51, 0, 1, 2, 3, 4, 5, 6, 7, 8, 9, 10, 11, 12, 13, 14, 15, 16, 17, 18, 19, 20, 21, 22, 23, 24, 25, 26, 27, 28, 29, 30, 31, 32, 33, 34, 35, 36, 37, 38, 39, 40, 41, 42, 43, 44, 45, 46, 47, 48, 49, 50, 51, 52, 53], [53])])
def hopperlaw14_live.B10 : List Nat := [0, 1, 3, 7, 15, 31, 63, 127, 255, 255, 1023, 2047, 4095, 8191, 16383, 32767, 65535, 131071, 131071, 524287, 1048575, 2097151, 4194303, 8388607, 16777215, 33554431, 67108863, 134217727, 268435455, 536870911, 1073741823, 2147483647, 4294967295, 8589934591, 17179869183, 17179869183, 51539607551, 120259084287, 257698037759, 549755813887, 1099511627775, 2199023255551, 4398046511103, 4398046511103, 13194139533311, 30786325577727, 70368744177663, 140737488355327, 281474976710655, 562949953421311, 1125899906842623, 2251799813685247, 4503599627370495, 9007199254740991, 18014398509481983]
theorem hopperlaw14_live.tab10 : rtab .any (opsOf Try.f10 10) = hopperlaw14_live.T10 := by kernel_rfl
theorem hopperlaw14_live.bits10 : waitsOk hopperlaw14_live.T10.2 hopperlaw14_live.B10 = true := by kernel_rfl
attribute [local go_sem] joined_ite
set_option maxHeartbeats 60000000 in
set_option maxRecDepth 100000 in
theorem hopperlaw14_live.callsT (k : Nat)  (w : World) (h : hopperlaw14_live.f k  = some true) :
    Calls Try.prog 10 #[] w fun e w' => e = .returned (.bool true) ∧ Below w.heap.size w w' := by
  have hu27 := Try.underlying27
  have hu36 := Try.underlying36
  have HB := Aside0.mk (Below.refl w.heap.size w)
  have H : ((feed_New.f 1).bind fun bt168 => ((hopperlaw14_event.f 1).bind fun bt175 => ((hopperlaw14_event.f 2).bind fun bt183 => ((hopperlaw14_event.f 3).bind fun bt191 => ((feed_Tell.f k bt168.1 bt168.2.1 bt168.2.2.1 (([(⟨bt175.1, (⟨bt175.2.1, bt175.2.2.1, bt175.2.2.2.1, bt175.2.2.2.2.1, bt175.2.2.2.2.2.1, bt175.2.2.2.2.2.2.1⟩ : S34), bt175.2.2.2.2.2.2.2⟩ : S36), (⟨bt183.1, (⟨bt183.2.1, bt183.2.2.1, bt183.2.2.2.1, bt183.2.2.2.2.1, bt183.2.2.2.2.2.1, bt183.2.2.2.2.2.2.1⟩ : S34), bt183.2.2.2.2.2.2.2⟩ : S36), (⟨bt191.1, (⟨bt191.2.1, bt191.2.2.1, bt191.2.2.2.1, bt191.2.2.2.2.1, bt191.2.2.2.2.2.1, bt191.2.2.2.2.2.2.1⟩ : S34), bt191.2.2.2.2.2.2.2⟩ : S36)] : List (S36)))).bind fun bt202 => ((feed_Read.f bt202.1 bt202.2.1 bt202.2.2).bind fun bt208 => ((feed_Read.f bt208.1 bt208.2.1 bt208.2.2.1).bind fun bt224 => ((feed_Read.f bt224.1 bt224.2.1 bt224.2.2.1).bind fun bt240 => ((feed_All.f k bt202.1 bt202.2.1 bt202.2.2).bind fun bt256 => ((feed_New.f 17).bind fun bt265 => (if (bt256.2.2.2.length : Int) = 2 then (hopperlaw14_live.j0 k bt168.2.2.2 bt208.2.2.2.2.2.2.2.2.2.2.2 bt224.2.2.2.2.2.2.2.2.2.2.2 bt240.2.2.2.2.2.2.2.2.2.2.2 bt256.2.2.2 bt265.2.2.2 ((bt202.2.1.length : Int) != 1) bt202.1 bt202.2.1 bt202.2.2 bt208.2.2.2.1 bt208.2.2.2.2.1 bt208.2.2.2.2.2.1 bt208.2.2.2.2.2.2.1 bt208.2.2.2.2.2.2.2.1 bt208.2.2.2.2.2.2.2.2.1 bt208.2.2.2.2.2.2.2.2.2.1 bt208.2.2.2.2.2.2.2.2.2.2.1 bt224.2.2.2.1 bt224.2.2.2.2.1 bt224.2.2.2.2.2.1 bt224.2.2.2.2.2.2.1 bt224.2.2.2.2.2.2.2.1 bt224.2.2.2.2.2.2.2.2.1 bt224.2.2.2.2.2.2.2.2.2.1 bt224.2.2.2.2.2.2.2.2.2.2.1) else (hopperlaw14_live.j0 k bt168.2.2.2 bt208.2.2.2.2.2.2.2.2.2.2.2 bt224.2.2.2.2.2.2.2.2.2.2.2 bt240.2.2.2.2.2.2.2.2.2.2.2 bt256.2.2.2 bt265.2.2.2 true bt202.1 bt202.2.1 bt202.2.2 bt208.2.2.2.1 bt208.2.2.2.2.1 bt208.2.2.2.2.2.1 bt208.2.2.2.2.2.2.1 bt208.2.2.2.2.2.2.2.1 bt208.2.2.2.2.2.2.2.2.1 bt208.2.2.2.2.2.2.2.2.2.1 bt208.2.2.2.2.2.2.2.2.2.2.1 bt224.2.2.2.1 bt224.2.2.2.2.1 bt224.2.2.2.2.2.1 bt224.2.2.2.2.2.2.1 bt224.2.2.2.2.2.2.2.1 bt224.2.2.2.2.2.2.2.2.1 bt224.2.2.2.2.2.2.2.2.2.1 bt224.2.2.2.2.2.2.2.2.2.2.1)))))))))))) = some true := h
  clear h
  replace H := Option.bind_eq_some_iff.mp H
  obtain ⟨⟨t168, t169, t172, t173⟩, A10, H⟩ := H
  try dsimp only at H
  have A1 := Aside0.mk A10
  clear A10
  replace H := Option.bind_eq_some_iff.mp H
  obtain ⟨⟨t175, t176, t177, t178, t179, t180, t181, t182⟩, A20, H⟩ := H
  try dsimp only at H
  have A2 := Aside0.mk A20
  clear A20
  replace H := Option.bind_eq_some_iff.mp H
  obtain ⟨⟨t183, t184, t185, t186, t187, t188, t189, t190⟩, A30, H⟩ := H
  try dsimp only at H
  have A3 := Aside0.mk A30
  clear A30
  replace H := Option.bind_eq_some_iff.mp H
  obtain ⟨⟨t191, t192, t193, t194, t195, t196, t197, t198⟩, A40, H⟩ := H
  try dsimp only at H
  have A4 := Aside0.mk A40
  clear A40
  obtain ⟨y199, hy199⟩ : ∃ y_ : List (S36), y_ = (([(⟨t175, (⟨t176, t177, t178, t179, t180, t181⟩ : S34), t182⟩ : S36), (⟨t183, (⟨t184, t185, t186, t187, t188, t189⟩ : S34), t190⟩ : S36), (⟨t191, (⟨t192, t193, t194, t195, t196, t197⟩ : S34), t198⟩ : S36)] : List (S36))) := ⟨_, rfl⟩
  replace H : ((feed_Tell.f k t168 t169 t172 y199).bind fun bt202 => ((feed_Read.f bt202.1 bt202.2.1 bt202.2.2).bind fun bt208 => ((feed_Read.f bt208.1 bt208.2.1 bt208.2.2.1).bind fun bt224 => ((feed_Read.f bt224.1 bt224.2.1 bt224.2.2.1).bind fun bt240 => ((feed_All.f k bt202.1 bt202.2.1 bt202.2.2).bind fun bt256 => ((feed_New.f 17).bind fun bt265 => (if (bt256.2.2.2.length : Int) = 2 then (hopperlaw14_live.j0 k t173 bt208.2.2.2.2.2.2.2.2.2.2.2 bt224.2.2.2.2.2.2.2.2.2.2.2 bt240.2.2.2.2.2.2.2.2.2.2.2 bt256.2.2.2 bt265.2.2.2 ((bt202.2.1.length : Int) != 1) bt202.1 bt202.2.1 bt202.2.2 bt208.2.2.2.1 bt208.2.2.2.2.1 bt208.2.2.2.2.2.1 bt208.2.2.2.2.2.2.1 bt208.2.2.2.2.2.2.2.1 bt208.2.2.2.2.2.2.2.2.1 bt208.2.2.2.2.2.2.2.2.2.1 bt208.2.2.2.2.2.2.2.2.2.2.1 bt224.2.2.2.1 bt224.2.2.2.2.1 bt224.2.2.2.2.2.1 bt224.2.2.2.2.2.2.1 bt224.2.2.2.2.2.2.2.1 bt224.2.2.2.2.2.2.2.2.1 bt224.2.2.2.2.2.2.2.2.2.1 bt224.2.2.2.2.2.2.2.2.2.2.1) else (hopperlaw14_live.j0 k t173 bt208.2.2.2.2.2.2.2.2.2.2.2 bt224.2.2.2.2.2.2.2.2.2.2.2 bt240.2.2.2.2.2.2.2.2.2.2.2 bt256.2.2.2 bt265.2.2.2 true bt202.1 bt202.2.1 bt202.2.2 bt208.2.2.2.1 bt208.2.2.2.2.1 bt208.2.2.2.2.2.1 bt208.2.2.2.2.2.2.1 bt208.2.2.2.2.2.2.2.1 bt208.2.2.2.2.2.2.2.2.1 bt208.2.2.2.2.2.2.2.2.2.1 bt208.2.2.2.2.2.2.2.2.2.2.1 bt224.2.2.2.1 bt224.2.2.2.2.1 bt224.2.2.2.2.2.1 bt224.2.2.2.2.2.2.1 bt224.2.2.2.2.2.2.2.1 bt224.2.2.2.2.2.2.2.2.1 bt224.2.2.2.2.2.2.2.2.2.1 bt224.2.2.2.2.2.2.2.2.2.2.1)))))))) = some true := by first | (rw [hy199]; with_reducible exact H) | (have H2_ := (Option.bind_some _ _).symm.trans H; rw [hy199]; with_reducible exact H2_) | (have H2_ := (Option.bind_some _ _).symm.trans H; with_reducible exact H2_) | with_reducible exact H | (rw [hy199]; exact H) | exact H
  have Ny199 := Aside0.mk hy199
  clear hy199
  replace H := Option.bind_eq_some_iff.mp H
  obtain ⟨⟨t202, t203, t206⟩, A50, H⟩ := H
  try dsimp only at H
  have A5 := Aside0.mk A50
  clear A50
  replace H := Option.bind_eq_some_iff.mp H
  obtain ⟨⟨t208, t209, t212, t213, t214, t215, t216, t217, t218, t219, t220, t221⟩, A60, H⟩ := H
  try dsimp only at H
  have A6 := Aside0.mk A60
  clear A60
  replace H := Option.bind_eq_some_iff.mp H
  obtain ⟨⟨t224, t225, t228, t229, t230, t231, t232, t233, t234, t235, t236, t237⟩, A70, H⟩ := H
  try dsimp only at H
  have A7 := Aside0.mk A70
  clear A70
  replace H := Option.bind_eq_some_iff.mp H
  obtain ⟨⟨t240, t241, t244, t245, t246, t247, t248, t249, t250, t251, t252, t253⟩, A80, H⟩ := H
  try dsimp only at H
  have A8 := Aside0.mk A80
  clear A80
  replace H := Option.bind_eq_some_iff.mp H
  obtain ⟨⟨t256, t257, t260, t261⟩, A90, H⟩ := H
  try dsimp only at H
  have A9 := Aside0.mk A90
  clear A90
  replace H := Option.bind_eq_some_iff.mp H
  obtain ⟨⟨t265, t266, t269, t270⟩, A100, H⟩ := H
  try dsimp only at H
  have A10 := Aside0.mk A100
  clear A100
  have HC11 := Aside0.mk H
  clear H
  go_enter Try.func10, Try.ntmps10
  try go_wp2_with (first | ((with_reducible refine gate_callee (f := 11) rfl ?_); refine goesL_ (some 18) rfl rfl Try.func11 (by kernel_rfl) rfl #[.int .i64 1] rfl (by (try simp only [List.map_toArray, List.map_cons, List.map_nil]); first | done | rfl | (simp only [List.length_drop, List.length_take]; rfl)) ?_; (with_reducible refine (feed_New.calls 1 t168 t169 t172 t173 _ A1.out).mono ?_); rintro e w12 ⟨v170, rfl, ho0, hb⟩; refine ⟨_, rfl, ?_⟩; have HO171 := Aside0.mk (Kd.R_lower ho0 (below_size (LA HB.out))); replace HB := Aside0.mk (below_step (LA HB.out) hb); (try clear hb); (try clear hb2); (try clear hk); (try clear hi); (try clear ho0)) | ((with_reducible refine gate_dst (N := 1) rfl ?_); (try (refine gate_guard (by rfl) ?_; dsimp only)); refine box_event ?hg (N := 1) ?hd (cs := #[.int .i64 0, .slice none 0 0, .int .i64 0]) (t := 27) ?hr ?_; (case hd => rfl); (case hg => rfl); (case hr => first | (go_simp; done) | (go_simp; rfl)); intro gb174 hg w13 hbox hb; replace HO171 := Aside0.mk (Kd.R_below (Kd.RA HO171.out) hb); have BK174 := Aside0.mk (hbox); have GE174 := Aside0.mk (ge1 hg (LA HB.out)); replace HB := Aside0.mk (below_step (LA HB.out) hb); clear hb hbox hg; obtain ⟨hcz14_0, hcz14_1, hcz14_2, hfz14_0, hfz14_1, hfz14_2⟩ := cz3 BK174.out; obtain ⟨Ao15, co15, eo15⟩ := Kd.R_slice HO171.out; subst eo15))
  have n0_ : Aside0 (Kd.R k36 36 (((w13.setCell ⟨gb174, 0, none⟩ (.int .i64 t168)).setCell ⟨gb174, 1, none⟩ (.slice Ao15 t169.length co15)).setCell ⟨gb174, 2, none⟩ (.int .i64 t172)) w.heap.size (fun _ => True) (.slice Ao15 t169.length co15) t169) := ⟨by (with_reducible repeat (first | apply Kd.R_alloc | apply Kd.R_drewN | apply Kd.R_drew)); exact Kd.R_mono (Kd.R_mv (g := gb174) (Kd.R_types HO171.out BK174.out (by decide)) (fun _ hk => hk.2)) (fun _ hk => trivial)⟩
  have n1_ : Aside0 ((((w13.setCell ⟨gb174, 0, none⟩ (.int .i64 t168)).setCell ⟨gb174, 1, none⟩ (.slice Ao15 t169.length co15)).setCell ⟨gb174, 2, none⟩ (.int .i64 t172)).heap[gb174]? = some (.cells #[.int .i64 t168, .slice Ao15 t169.length co15, .int .i64 t172] 27 (0, 0))) := ⟨by exact BP BK174.out (by rfl)⟩
  have n2_ : Aside0 (Below w.heap.size w (((w13.setCell ⟨gb174, 0, none⟩ (.int .i64 t168)).setCell ⟨gb174, 1, none⟩ (.slice Ao15 t169.length co15)).setCell ⟨gb174, 2, none⟩ (.int .i64 t172))) := ⟨LG HB.out (G1 GE174.out G0)⟩
  (try clear HO171)
  (try clear BK174)
  (try clear HB)
  generalize (((w13.setCell ⟨gb174, 0, none⟩ (.int .i64 t168)).setCell ⟨gb174, 1, none⟩ (.slice Ao15 t169.length co15)).setCell ⟨gb174, 2, none⟩ (.int .i64 t172)) = w16 at n0_ n1_ n2_ ⊢
  have HO171 := n0_
  have BK174 := n1_
  have HB := n2_
  clear n0_ n1_ n2_
  have n0_ := Aside0.mk (Kd.R_drew HO171.out)
  have n1_ := Aside0.mk (blk_drew BK174.out)
  have n2_ := Aside0.mk (below_drew1 HB.out)
  clear HO171
  clear BK174
  clear HB
  have HO171 := n0_
  have BK174 := n1_
  have HB := n2_
  clear n0_ n1_ n2_
  refine start_ (n := 8) (S := fun w' => w'.cell? ⟨gb174, 0, none⟩ = some (.int .i64 t168) ∧ w'.cell? ⟨gb174, 1, none⟩ = some (.slice Ao15 t169.length co15) ∧ w'.cell? ⟨gb174, 2, none⟩ = some (.int .i64 t172)) (ds := []) (tf 0 8) (by kernel_rfl) rfl rfl ⟨(blk_cell BK174.out 0).trans rfl, (blk_cell BK174.out 1).trans rfl, (blk_cell BK174.out 2).trans rfl⟩ (fun hHeld => ?_); refine with_tabW hopperlaw14_live.tab2 hopperlaw14_live.bits2 (fun HT_ HW_ => ?_)
  generalize w16.drew = w17 at HO171 BK174 HB hHeld ⊢
  refine take_ (i := 0) (N := some 21) (v := ?_) (a' := ?_) (tf 1 8) rfl rfl (take_ofW HT_.out HW_.out (by kernel_rfl)) (fun _ _ _ h => h) (Or.inl ⟨by rfl, ?_⟩) hHeld ?_ ?_
  rotate_left
  · rintro w' ⟨s0, s1, s2⟩
    go_simp
    with_reducible rfl
  rotate_left
  · simp only [Act.put, PU, i64_w, i32_w]
    rfl
  refine join_ (σ := Value × Value × Nat) 1 (tf 7 8) (fun s_ => [(22, .agg #[.int .i64 t175, .int .i64 t176, .int .i64 t177, .int .i64 t178, .int .i64 t179, .int .i64 t180, .string t181, .int .i64 t182]), (23, .agg #[.int .i64 t183, .int .i64 t184, .int .i64 t185, .int .i64 t186, .int .i64 t187, .int .i64 t188, .string t189, .int .i64 t190]), (24, .agg #[.int .i64 t191, .int .i64 t192, .int .i64 t193, .int .i64 t194, .int .i64 t195, .int .i64 t196, .string t197, .int .i64 t198]), (25, s_.1), (26, .agg #[.int .i64 t202, s_.2.1, .int .i64 t206]), (3, .pointer (some ⟨s_.2.2, 0, none⟩))]) (fun s_ w' => (w'.cell? ⟨gb174, 0, none⟩ = some (.int .i64 t168) ∧ w'.cell? ⟨gb174, 1, none⟩ = some (.slice Ao15 t169.length co15) ∧ w'.cell? ⟨gb174, 2, none⟩ = some (.int .i64 t172)) ∧ (Kd.R k36 36 w' w.heap.size (fun k_ => some k_ ≠ (s_.1 : Value).ownBlock ∧ some k_ ≠ (s_.2.1 : Value).ownBlock) (.slice Ao15 t169.length co15) t169) ∧ (Kd.R k36 36 w' w.heap.size (fun k_ => some k_ ≠ (.slice Ao15 t169.length co15 : Value).ownBlock ∧ some k_ ≠ (s_.2.1 : Value).ownBlock) s_.1 y199) ∧ (Kd.R k36 36 w' w.heap.size (fun k_ => some k_ ≠ (.slice Ao15 t169.length co15 : Value).ownBlock ∧ some k_ ≠ (s_.1 : Value).ownBlock) s_.2.1 t203) ∧ (w'.heap[gb174]? = some (.cells #[.int .i64 t168, .slice Ao15 t169.length co15, .int .i64 t172] 27 (0, 0))) ∧ (w'.heap[s_.2.2]? = some (.cells #[.int .i64 0, .slice none 0 0, .int .i64 0] 27 (0, 0))) ∧ (w.heap.size ≤ s_.2.2) ∧ (w.heap.size ≤ s_.2.2) ∧ (gb174 ≠ s_.2.2) ∧ (s_.2.2 ≠ gb174) ∧ (Below w.heap.size w w')) ?_ ?_
  rotate_left
  · intro hJ1_2_3_4_5_6
    refine join_ (σ := Value × Value) 2 (tf 6 8) (fun s_ => [(22, .agg #[.int .i64 t175, .int .i64 t176, .int .i64 t177, .int .i64 t178, .int .i64 t179, .int .i64 t180, .string t181, .int .i64 t182]), (23, .agg #[.int .i64 t183, .int .i64 t184, .int .i64 t185, .int .i64 t186, .int .i64 t187, .int .i64 t188, .string t189, .int .i64 t190]), (24, .agg #[.int .i64 t191, .int .i64 t192, .int .i64 t193, .int .i64 t194, .int .i64 t195, .int .i64 t196, .string t197, .int .i64 t198]), (25, s_.1), (26, .agg #[.int .i64 t202, s_.2, .int .i64 t206])]) (fun s_ w' => (w'.cell? ⟨gb174, 0, none⟩ = some (.int .i64 t168) ∧ w'.cell? ⟨gb174, 1, none⟩ = some (.slice Ao15 t169.length co15) ∧ w'.cell? ⟨gb174, 2, none⟩ = some (.int .i64 t172)) ∧ (Kd.R k36 36 w' w.heap.size (fun k_ => some k_ ≠ (s_.1 : Value).ownBlock ∧ some k_ ≠ (s_.2 : Value).ownBlock) (.slice Ao15 t169.length co15) t169) ∧ (Kd.R k36 36 w' w.heap.size (fun k_ => some k_ ≠ (.slice Ao15 t169.length co15 : Value).ownBlock ∧ some k_ ≠ (s_.2 : Value).ownBlock) s_.1 y199) ∧ (Kd.R k36 36 w' w.heap.size (fun k_ => some k_ ≠ (.slice Ao15 t169.length co15 : Value).ownBlock ∧ some k_ ≠ (s_.1 : Value).ownBlock) s_.2 t203) ∧ (w'.heap[gb174]? = some (.cells #[.int .i64 t168, .slice Ao15 t169.length co15, .int .i64 t172] 27 (0, 0))) ∧ (Below w.heap.size w w')) ?_ ?_
    rotate_left
    · intro hJ1_2_3_4_5
      refine join_ (σ := Value × Nat) 2 #[true, true, true, true, true, false, true, false] (fun s_ => [(22, .agg #[.int .i64 t175, .int .i64 t176, .int .i64 t177, .int .i64 t178, .int .i64 t179, .int .i64 t180, .string t181, .int .i64 t182]), (23, .agg #[.int .i64 t183, .int .i64 t184, .int .i64 t185, .int .i64 t186, .int .i64 t187, .int .i64 t188, .string t189, .int .i64 t190]), (24, .agg #[.int .i64 t191, .int .i64 t192, .int .i64 t193, .int .i64 t194, .int .i64 t195, .int .i64 t196, .string t197, .int .i64 t198]), (25, s_.1), (3, .pointer (some ⟨s_.2, 0, none⟩))]) (fun s_ w' => (w'.cell? ⟨gb174, 0, none⟩ = some (.int .i64 t168) ∧ w'.cell? ⟨gb174, 1, none⟩ = some (.slice Ao15 t169.length co15) ∧ w'.cell? ⟨gb174, 2, none⟩ = some (.int .i64 t172)) ∧ (Kd.R k36 36 w' w.heap.size (fun k_ => some k_ ≠ (s_.1 : Value).ownBlock) (.slice Ao15 t169.length co15) t169) ∧ (Kd.R k36 36 w' w.heap.size (fun k_ => some k_ ≠ (.slice Ao15 t169.length co15 : Value).ownBlock) s_.1 y199) ∧ (w'.heap[gb174]? = some (.cells #[.int .i64 t168, .slice Ao15 t169.length co15, .int .i64 t172] 27 (0, 0))) ∧ (w'.heap[s_.2]? = some (.cells #[.int .i64 0, .slice none 0 0, .int .i64 0] 27 (0, 0))) ∧ (w.heap.size ≤ s_.2) ∧ (w.heap.size ≤ s_.2) ∧ (gb174 ≠ s_.2) ∧ (s_.2 ≠ gb174) ∧ (Below w.heap.size w w')) ?_ ?_
      rotate_left
      · intro hJ1_2_3_4_6
        refine join_ (σ := Value) 3 (tf 5 8) (fun s_ => [(22, .agg #[.int .i64 t175, .int .i64 t176, .int .i64 t177, .int .i64 t178, .int .i64 t179, .int .i64 t180, .string t181, .int .i64 t182]), (23, .agg #[.int .i64 t183, .int .i64 t184, .int .i64 t185, .int .i64 t186, .int .i64 t187, .int .i64 t188, .string t189, .int .i64 t190]), (24, .agg #[.int .i64 t191, .int .i64 t192, .int .i64 t193, .int .i64 t194, .int .i64 t195, .int .i64 t196, .string t197, .int .i64 t198]), (25, s_)]) (fun s_ w' => (w'.cell? ⟨gb174, 0, none⟩ = some (.int .i64 t168) ∧ w'.cell? ⟨gb174, 1, none⟩ = some (.slice Ao15 t169.length co15) ∧ w'.cell? ⟨gb174, 2, none⟩ = some (.int .i64 t172)) ∧ (Kd.R k36 36 w' w.heap.size (fun k_ => some k_ ≠ (s_ : Value).ownBlock) (.slice Ao15 t169.length co15) t169) ∧ (Kd.R k36 36 w' w.heap.size (fun k_ => some k_ ≠ (.slice Ao15 t169.length co15 : Value).ownBlock) s_ y199) ∧ (w'.heap[gb174]? = some (.cells #[.int .i64 t168, .slice Ao15 t169.length co15, .int .i64 t172] 27 (0, 0))) ∧ (Below w.heap.size w w')) ?_ ?_
        rotate_left
        · intro hJ1_2_3_4
          refine join_ (σ := Nat) 3 #[true, true, true, true, false, false, true, false] (fun s_ => [(22, .agg #[.int .i64 t175, .int .i64 t176, .int .i64 t177, .int .i64 t178, .int .i64 t179, .int .i64 t180, .string t181, .int .i64 t182]), (23, .agg #[.int .i64 t183, .int .i64 t184, .int .i64 t185, .int .i64 t186, .int .i64 t187, .int .i64 t188, .string t189, .int .i64 t190]), (24, .agg #[.int .i64 t191, .int .i64 t192, .int .i64 t193, .int .i64 t194, .int .i64 t195, .int .i64 t196, .string t197, .int .i64 t198]), (3, .pointer (some ⟨s_, 0, none⟩))]) (fun s_ w' => (w'.cell? ⟨gb174, 0, none⟩ = some (.int .i64 t168) ∧ w'.cell? ⟨gb174, 1, none⟩ = some (.slice Ao15 t169.length co15) ∧ w'.cell? ⟨gb174, 2, none⟩ = some (.int .i64 t172)) ∧ (Kd.R k36 36 w' w.heap.size (fun _ => True) (.slice Ao15 t169.length co15) t169) ∧ (w'.heap[gb174]? = some (.cells #[.int .i64 t168, .slice Ao15 t169.length co15, .int .i64 t172] 27 (0, 0))) ∧ (w'.heap[s_]? = some (.cells #[.int .i64 0, .slice none 0 0, .int .i64 0] 27 (0, 0))) ∧ (w.heap.size ≤ s_) ∧ (w.heap.size ≤ s_) ∧ (gb174 ≠ s_) ∧ (s_ ≠ gb174) ∧ (Below w.heap.size w w')) ?_ ?_
          rotate_left
          · intro hJ1_2_3_6
            refine join_ (σ := Unit) 4 (tf 4 8) (fun s_ => [(22, .agg #[.int .i64 t175, .int .i64 t176, .int .i64 t177, .int .i64 t178, .int .i64 t179, .int .i64 t180, .string t181, .int .i64 t182]), (23, .agg #[.int .i64 t183, .int .i64 t184, .int .i64 t185, .int .i64 t186, .int .i64 t187, .int .i64 t188, .string t189, .int .i64 t190]), (24, .agg #[.int .i64 t191, .int .i64 t192, .int .i64 t193, .int .i64 t194, .int .i64 t195, .int .i64 t196, .string t197, .int .i64 t198])]) (fun s_ w' => (w'.cell? ⟨gb174, 0, none⟩ = some (.int .i64 t168) ∧ w'.cell? ⟨gb174, 1, none⟩ = some (.slice Ao15 t169.length co15) ∧ w'.cell? ⟨gb174, 2, none⟩ = some (.int .i64 t172)) ∧ (Kd.R k36 36 w' w.heap.size (fun _ => True) (.slice Ao15 t169.length co15) t169) ∧ (w'.heap[gb174]? = some (.cells #[.int .i64 t168, .slice Ao15 t169.length co15, .int .i64 t172] 27 (0, 0))) ∧ (Below w.heap.size w w')) ?_ ?_
            rotate_left
            · intro hJ1_2_3
              refine join_ (σ := Nat) 4 #[true, true, true, false, false, false, true, false] (fun s_ => [(22, .agg #[.int .i64 t175, .int .i64 t176, .int .i64 t177, .int .i64 t178, .int .i64 t179, .int .i64 t180, .string t181, .int .i64 t182]), (23, .agg #[.int .i64 t183, .int .i64 t184, .int .i64 t185, .int .i64 t186, .int .i64 t187, .int .i64 t188, .string t189, .int .i64 t190]), (3, .pointer (some ⟨s_, 0, none⟩))]) (fun s_ w' => (w'.cell? ⟨gb174, 0, none⟩ = some (.int .i64 t168) ∧ w'.cell? ⟨gb174, 1, none⟩ = some (.slice Ao15 t169.length co15) ∧ w'.cell? ⟨gb174, 2, none⟩ = some (.int .i64 t172)) ∧ (Kd.R k36 36 w' w.heap.size (fun _ => True) (.slice Ao15 t169.length co15) t169) ∧ (w'.heap[gb174]? = some (.cells #[.int .i64 t168, .slice Ao15 t169.length co15, .int .i64 t172] 27 (0, 0))) ∧ (w'.heap[s_]? = some (.cells #[.int .i64 0, .slice none 0 0, .int .i64 0] 27 (0, 0))) ∧ (w.heap.size ≤ s_) ∧ (w.heap.size ≤ s_) ∧ (gb174 ≠ s_) ∧ (s_ ≠ gb174) ∧ (Below w.heap.size w w')) ?_ ?_
              rotate_left
              · intro hJ1_2_6
                refine join_ (σ := Unit) 5 (tf 3 8) (fun s_ => [(22, .agg #[.int .i64 t175, .int .i64 t176, .int .i64 t177, .int .i64 t178, .int .i64 t179, .int .i64 t180, .string t181, .int .i64 t182]), (23, .agg #[.int .i64 t183, .int .i64 t184, .int .i64 t185, .int .i64 t186, .int .i64 t187, .int .i64 t188, .string t189, .int .i64 t190])]) (fun s_ w' => (w'.cell? ⟨gb174, 0, none⟩ = some (.int .i64 t168) ∧ w'.cell? ⟨gb174, 1, none⟩ = some (.slice Ao15 t169.length co15) ∧ w'.cell? ⟨gb174, 2, none⟩ = some (.int .i64 t172)) ∧ (Kd.R k36 36 w' w.heap.size (fun _ => True) (.slice Ao15 t169.length co15) t169) ∧ (w'.heap[gb174]? = some (.cells #[.int .i64 t168, .slice Ao15 t169.length co15, .int .i64 t172] 27 (0, 0))) ∧ (Below w.heap.size w w')) ?_ ?_
                rotate_left
                · intro hJ1_2
                  refine join_ (σ := Nat) 5 #[true, true, false, false, false, false, true, false] (fun s_ => [(22, .agg #[.int .i64 t175, .int .i64 t176, .int .i64 t177, .int .i64 t178, .int .i64 t179, .int .i64 t180, .string t181, .int .i64 t182]), (3, .pointer (some ⟨s_, 0, none⟩))]) (fun s_ w' => (w'.cell? ⟨gb174, 0, none⟩ = some (.int .i64 t168) ∧ w'.cell? ⟨gb174, 1, none⟩ = some (.slice Ao15 t169.length co15) ∧ w'.cell? ⟨gb174, 2, none⟩ = some (.int .i64 t172)) ∧ (Kd.R k36 36 w' w.heap.size (fun _ => True) (.slice Ao15 t169.length co15) t169) ∧ (w'.heap[gb174]? = some (.cells #[.int .i64 t168, .slice Ao15 t169.length co15, .int .i64 t172] 27 (0, 0))) ∧ (w'.heap[s_]? = some (.cells #[.int .i64 0, .slice none 0 0, .int .i64 0] 27 (0, 0))) ∧ (w.heap.size ≤ s_) ∧ (w.heap.size ≤ s_) ∧ (gb174 ≠ s_) ∧ (s_ ≠ gb174) ∧ (Below w.heap.size w w')) ?_ ?_
                  rotate_left
                  · intro hJ1_6
                    refine join_ (σ := Unit) 6 (tf 2 8) (fun s_ => [(22, .agg #[.int .i64 t175, .int .i64 t176, .int .i64 t177, .int .i64 t178, .int .i64 t179, .int .i64 t180, .string t181, .int .i64 t182])]) (fun s_ w' => (w'.cell? ⟨gb174, 0, none⟩ = some (.int .i64 t168) ∧ w'.cell? ⟨gb174, 1, none⟩ = some (.slice Ao15 t169.length co15) ∧ w'.cell? ⟨gb174, 2, none⟩ = some (.int .i64 t172)) ∧ (Kd.R k36 36 w' w.heap.size (fun _ => True) (.slice Ao15 t169.length co15) t169) ∧ (w'.heap[gb174]? = some (.cells #[.int .i64 t168, .slice Ao15 t169.length co15, .int .i64 t172] 27 (0, 0))) ∧ (Below w.heap.size w w')) ?_ ?_
                    rotate_left
                    · intro hJ1
                      refine join_ (σ := Nat) 6 #[true, false, false, false, false, false, true, false] (fun s_ => [(3, .pointer (some ⟨s_, 0, none⟩))]) (fun s_ w' => (w'.cell? ⟨gb174, 0, none⟩ = some (.int .i64 t168) ∧ w'.cell? ⟨gb174, 1, none⟩ = some (.slice Ao15 t169.length co15) ∧ w'.cell? ⟨gb174, 2, none⟩ = some (.int .i64 t172)) ∧ (Kd.R k36 36 w' w.heap.size (fun _ => True) (.slice Ao15 t169.length co15) t169) ∧ (w'.heap[gb174]? = some (.cells #[.int .i64 t168, .slice Ao15 t169.length co15, .int .i64 t172] 27 (0, 0))) ∧ (w'.heap[s_]? = some (.cells #[.int .i64 0, .slice none 0 0, .int .i64 0] 27 (0, 0))) ∧ (w.heap.size ≤ s_) ∧ (w.heap.size ≤ s_) ∧ (gb174 ≠ s_) ∧ (s_ ≠ gb174) ∧ (Below w.heap.size w w')) ?_ ?_
                      rotate_left
                      · intro hJ6
                        refine two_ (i := 1) (j := 6) (Ni := some 22) (Nj := some 3) (tf 2 8) #[true, false, false, false, false, false, true, false] rfl rfl rfl rfl (two_of HT_.out (by kernel_rfl)) (by decide) (by decide) (fun K hK => ?_) (fun K hK => ?_)
                        · skip
                          refine goes_ Try.func23 (by kernel_rfl) rfl #[.int .i64 1] (by rfl) rfl rfl (by (try simp only [List.map_toArray, List.map_cons, List.map_nil]); first | done | rfl | (simp only [List.length_drop, List.length_take]; rfl)) ?_
                          with_reducible refine (hopperlaw14_event.calls 1 t175 t176 t177 t178 t179 t180 t181 t182 _ A2.out).mono ?_
                          rintro e w18 ⟨rfl, hb⟩
                          refine ⟨_, rfl, ?_⟩
                          have n0_ := Aside0.mk (Kd.R_below (Kd.RA HO171.out) hb)
                          have n1_ := Aside0.mk (blk_below (BA BK174.out) hb)
                          have n2_ := Aside0.mk (below_step (LG HB.out (G1 GE174.out G0)) hb)
                          clear HO171
                          clear BK174
                          clear HB
                          have HO171 := n0_
                          have BK174 := n1_
                          have HB := n2_
                          clear n0_ n1_ n2_
                          (try clear hb)
                          (try clear hb2)
                          (try clear hk)
                          (try clear hi)
                          refine hK.out _ _ ⟨(blk_cell BK174.out 0).trans rfl, (blk_cell BK174.out 1).trans rfl, (blk_cell BK174.out 2).trans rfl⟩ (fun hHeld => ?_)
                          clear hK K
                          refine norm_ (a' := ?_) ?_ ?_
                          rotate_left
                          · show Act.put _ (some 22) _ = _
                            simp only [Act.put, PU, i64_w, i32_w]
                            rfl
                          exact norm_ (by first | (simp only [putAll, Act.put, PU]; done) | (simp only [putAll, Act.put, PU]; rfl)) (hJ1 () _ ⟨hHeld, (Kd.RA HO171.out), (BA BK174.out), (LG HB.out (G1 GE174.out G0))⟩)
                        · skip
                          refine box_step ?hg (N := 3) ?hd (cs := #[.int .i64 0, .slice none 0 0, .int .i64 0]) (t := 27) ?hr ?_; (case hd => rfl); (case hg => rfl); (case hr => first | (go_simp; done) | (go_simp; rfl))
                          intro gb207 hg w18 hbox hb
                          have n0_ := Aside0.mk (Kd.R_below (Kd.RA HO171.out) hb)
                          have n1_ := Aside0.mk (blk_below (BA BK174.out) hb)
                          have n2_ := Aside0.mk (below_step (LG HB.out (G1 GE174.out G0)) hb)
                          have n3_ := Aside0.mk (hbox)
                          have n4_ := Aside0.mk (ge1 hg (LG HB.out (G1 GE174.out G0)))
                          have n5_ := Aside0.mk (ge1 hg (LG HB.out (G1 GE174.out G0)))
                          have n6_ := Aside0.mk ((by rw [hg]; exact Nat.ne_of_lt (blk_lt (g := gb174) (o := .cells #[.int .i64 t168, .slice Ao15 t169.length co15, .int .i64 t172] 27 (0, 0)) (BA BK174.out)) : gb174 ≠ gb207))
                          have n7_ := Aside0.mk ((by rw [hg]; exact Nat.ne_of_gt (blk_lt (g := gb174) (o := .cells #[.int .i64 t168, .slice Ao15 t169.length co15, .int .i64 t172] 27 (0, 0)) (BA BK174.out)) : gb207 ≠ gb174))
                          clear HO171
                          clear BK174
                          clear HB
                          have HO171 := n0_
                          have BK174 := n1_
                          have HB := n2_
                          have BK207 := n3_
                          have GW207 := n4_
                          have GE207 := n5_
                          have NB174_207 := n6_
                          have NB207_174 := n7_
                          clear n0_ n1_ n2_ n3_ n4_ n5_ n6_ n7_
                          clear hb hbox hg
                          refine hK.out _ _ ⟨(blk_cell BK174.out 0).trans rfl, (blk_cell BK174.out 1).trans rfl, (blk_cell BK174.out 2).trans rfl⟩ (fun hHeld => ?_)
                          clear hK K
                          refine norm_ (a' := ?_) ?_ ?_
                          rotate_left
                          · show Act.put _ (some 3) _ = _
                            simp only [Act.put, PU, i64_w, i32_w]
                            rfl
                          exact norm_ (by first | (simp only [putAll, Act.put, PU]; done) | (simp only [putAll, Act.put, PU]; rfl)) (hJ6 (gb207) _ ⟨hHeld, (Kd.RA HO171.out), (BA BK174.out), (BA BK207.out), GW207.out, GE207.out, NB174_207.out, NB207_174.out, (LG HB.out (G1 GE174.out (G1 GE207.out G0)))⟩)
                      · skip
                        rintro gb207 w19 ⟨hS_, h0_, h1_, h2_, h3_, h4_, h5_, h6_, h7_⟩
                        have n0_ : Aside0 (Kd.R k36 36 w19 w.heap.size (fun _ => True) (.slice Ao15 t169.length co15) t169) := ⟨h0_⟩
                        have n1_ : Aside0 (w19.heap[gb174]? = some (.cells #[.int .i64 t168, .slice Ao15 t169.length co15, .int .i64 t172] 27 (0, 0))) := ⟨h1_⟩
                        have n2_ : Aside0 (w19.heap[gb207]? = some (.cells #[.int .i64 0, .slice none 0 0, .int .i64 0] 27 (0, 0))) := ⟨h2_⟩
                        have n3_ : Aside0 (w.heap.size ≤ gb207) := ⟨h3_⟩
                        have n4_ : Aside0 (w.heap.size ≤ gb207) := ⟨h4_⟩
                        have n5_ : Aside0 (gb174 ≠ gb207) := ⟨h5_⟩
                        have n6_ : Aside0 (gb207 ≠ gb174) := ⟨h6_⟩
                        have n7_ : Aside0 (Below w.heap.size w w19) := ⟨h7_⟩
                        clear HO171
                        clear BK174
                        clear HB
                        clear h0_ h1_ h2_ h3_ h4_ h5_ h6_ h7_
                        have HO171 := n0_
                        have BK174 := n1_
                        have BK207 := n2_
                        have GW207 := n3_
                        have GE207 := n4_
                        have NB174_207 := n5_
                        have NB207_174 := n6_
                        have HB := n7_
                        clear n0_ n1_ n2_ n3_ n4_ n5_ n6_ n7_
                        have hHeld : w19.cell? ⟨gb174, 0, none⟩ = some (.int .i64 t168) ∧ w19.cell? ⟨gb174, 1, none⟩ = some (.slice Ao15 t169.length co15) ∧ w19.cell? ⟨gb174, 2, none⟩ = some (.int .i64 t172) := hS_
                        refine norm_ (a' := ?_) ?_ ?_
                        rotate_left
                        · simp only [putAll, Act.put, PU]
                          rfl
                        refine one_ (i := 1) (N := some 22) #[true, true, false, false, false, false, true, false] rfl rfl (one_of HT_.out (by kernel_rfl)) (by decide) (fun K hK => ?_)
                        refine goes_ Try.func23 (by kernel_rfl) rfl #[.int .i64 1] (by rfl) rfl rfl (by (try simp only [List.map_toArray, List.map_cons, List.map_nil]); first | done | rfl | (simp only [List.length_drop, List.length_take]; rfl)) ?_
                        with_reducible refine (hopperlaw14_event.calls 1 t175 t176 t177 t178 t179 t180 t181 t182 _ A2.out).mono ?_
                        rintro e w20 ⟨rfl, hb⟩
                        refine ⟨_, rfl, ?_⟩
                        have n0_ := Aside0.mk (Kd.R_below (Kd.RA HO171.out) hb)
                        have n1_ := Aside0.mk (blk_below (BA BK174.out) hb)
                        have n2_ := Aside0.mk (blk_below (BA BK207.out) hb)
                        have n3_ := Aside0.mk (below_step (LG HB.out (G1 GE174.out (G1 GE207.out G0))) hb)
                        clear HO171
                        clear BK174
                        clear BK207
                        clear HB
                        have HO171 := n0_
                        have BK174 := n1_
                        have BK207 := n2_
                        have HB := n3_
                        clear n0_ n1_ n2_ n3_
                        (try clear hb)
                        (try clear hb2)
                        (try clear hk)
                        (try clear hi)
                        refine hK.out _ _ ⟨(blk_cell BK174.out 0).trans rfl, (blk_cell BK174.out 1).trans rfl, (blk_cell BK174.out 2).trans rfl⟩ (fun hHeld => ?_)
                        clear hK K
                        refine norm_ (a' := ?_) ?_ ?_
                        rotate_left
                        · show Act.put _ (some 22) _ = _
                          simp only [Act.put, PU, i64_w, i32_w]
                          rfl
                        exact norm_ (by first | (simp only [putAll, Act.put, PU]; done) | (simp only [putAll, Act.put, PU]; rfl)) (hJ1_6 (gb207) _ ⟨hHeld, (Kd.RA HO171.out), (BA BK174.out), (BA BK207.out), GW207.out, GE207.out, NB174_207.out, NB207_174.out, (LG HB.out (G1 GE174.out (G1 GE207.out G0)))⟩)
                    · skip
                      rintro _ w19 ⟨hS_, h0_, h1_, h2_⟩
                      have n0_ : Aside0 (Kd.R k36 36 w19 w.heap.size (fun _ => True) (.slice Ao15 t169.length co15) t169) := ⟨h0_⟩
                      have n1_ : Aside0 (w19.heap[gb174]? = some (.cells #[.int .i64 t168, .slice Ao15 t169.length co15, .int .i64 t172] 27 (0, 0))) := ⟨h1_⟩
                      have n2_ : Aside0 (Below w.heap.size w w19) := ⟨h2_⟩
                      clear HO171
                      clear BK174
                      clear HB
                      clear h0_ h1_ h2_
                      have HO171 := n0_
                      have BK174 := n1_
                      have HB := n2_
                      clear n0_ n1_ n2_
                      have hHeld : w19.cell? ⟨gb174, 0, none⟩ = some (.int .i64 t168) ∧ w19.cell? ⟨gb174, 1, none⟩ = some (.slice Ao15 t169.length co15) ∧ w19.cell? ⟨gb174, 2, none⟩ = some (.int .i64 t172) := hS_
                      refine norm_ (a' := ?_) ?_ ?_
                      rotate_left
                      · simp only [putAll, Act.put, PU]
                        rfl
                      refine two_ (i := 2) (j := 6) (Ni := some 23) (Nj := some 3) (tf 3 8) #[true, true, false, false, false, false, true, false] rfl rfl rfl rfl (two_of HT_.out (by kernel_rfl)) (by decide) (by decide) (fun K hK => ?_) (fun K hK => ?_)
                      · skip
                        refine goes_ Try.func23 (by kernel_rfl) rfl #[.int .i64 2] (by rfl) rfl rfl (by (try simp only [List.map_toArray, List.map_cons, List.map_nil]); first | done | rfl | (simp only [List.length_drop, List.length_take]; rfl)) ?_
                        with_reducible refine (hopperlaw14_event.calls 2 t183 t184 t185 t186 t187 t188 t189 t190 _ A3.out).mono ?_
                        rintro e w20 ⟨rfl, hb⟩
                        refine ⟨_, rfl, ?_⟩
                        have n0_ := Aside0.mk (Kd.R_below (Kd.RA HO171.out) hb)
                        have n1_ := Aside0.mk (blk_below (BA BK174.out) hb)
                        have n2_ := Aside0.mk (below_step (LG HB.out (G1 GE174.out G0)) hb)
                        clear HO171
                        clear BK174
                        clear HB
                        have HO171 := n0_
                        have BK174 := n1_
                        have HB := n2_
                        clear n0_ n1_ n2_
                        (try clear hb)
                        (try clear hb2)
                        (try clear hk)
                        (try clear hi)
                        refine hK.out _ _ ⟨(blk_cell BK174.out 0).trans rfl, (blk_cell BK174.out 1).trans rfl, (blk_cell BK174.out 2).trans rfl⟩ (fun hHeld => ?_)
                        clear hK K
                        refine norm_ (a' := ?_) ?_ ?_
                        rotate_left
                        · show Act.put _ (some 23) _ = _
                          simp only [Act.put, PU, i64_w, i32_w]
                          rfl
                        exact norm_ (by first | (simp only [putAll, Act.put, PU]; done) | (simp only [putAll, Act.put, PU]; rfl)) (hJ1_2 () _ ⟨hHeld, (Kd.RA HO171.out), (BA BK174.out), (LG HB.out (G1 GE174.out G0))⟩)
                      · skip
                        refine box_step ?hg (N := 3) ?hd (cs := #[.int .i64 0, .slice none 0 0, .int .i64 0]) (t := 27) ?hr ?_; (case hd => rfl); (case hg => rfl); (case hr => first | (go_simp; done) | (go_simp; rfl))
                        intro gb207 hg w20 hbox hb
                        have n0_ := Aside0.mk (Kd.R_below (Kd.RA HO171.out) hb)
                        have n1_ := Aside0.mk (blk_below (BA BK174.out) hb)
                        have n2_ := Aside0.mk (below_step (LG HB.out (G1 GE174.out G0)) hb)
                        have n3_ := Aside0.mk (hbox)
                        have n4_ := Aside0.mk (ge1 hg (LG HB.out (G1 GE174.out G0)))
                        have n5_ := Aside0.mk (ge1 hg (LG HB.out (G1 GE174.out G0)))
                        have n6_ := Aside0.mk ((by rw [hg]; exact Nat.ne_of_lt (blk_lt (g := gb174) (o := .cells #[.int .i64 t168, .slice Ao15 t169.length co15, .int .i64 t172] 27 (0, 0)) (BA BK174.out)) : gb174 ≠ gb207))
                        have n7_ := Aside0.mk ((by rw [hg]; exact Nat.ne_of_gt (blk_lt (g := gb174) (o := .cells #[.int .i64 t168, .slice Ao15 t169.length co15, .int .i64 t172] 27 (0, 0)) (BA BK174.out)) : gb207 ≠ gb174))
                        clear HO171
                        clear BK174
                        clear HB
                        have HO171 := n0_
                        have BK174 := n1_
                        have HB := n2_
                        have BK207 := n3_
                        have GW207 := n4_
                        have GE207 := n5_
                        have NB174_207 := n6_
                        have NB207_174 := n7_
                        clear n0_ n1_ n2_ n3_ n4_ n5_ n6_ n7_
                        clear hb hbox hg
                        refine hK.out _ _ ⟨(blk_cell BK174.out 0).trans rfl, (blk_cell BK174.out 1).trans rfl, (blk_cell BK174.out 2).trans rfl⟩ (fun hHeld => ?_)
                        clear hK K
                        refine norm_ (a' := ?_) ?_ ?_
                        rotate_left
                        · show Act.put _ (some 3) _ = _
                          simp only [Act.put, PU, i64_w, i32_w]
                          rfl
                        exact norm_ (by first | (simp only [putAll, Act.put, PU]; done) | (simp only [putAll, Act.put, PU]; rfl)) (hJ1_6 (gb207) _ ⟨hHeld, (Kd.RA HO171.out), (BA BK174.out), (BA BK207.out), GW207.out, GE207.out, NB174_207.out, NB207_174.out, (LG HB.out (G1 GE174.out (G1 GE207.out G0)))⟩)
                  · skip
                    rintro gb207 w20 ⟨hS_, h0_, h1_, h2_, h3_, h4_, h5_, h6_, h7_⟩
                    have n0_ : Aside0 (Kd.R k36 36 w20 w.heap.size (fun _ => True) (.slice Ao15 t169.length co15) t169) := ⟨h0_⟩
                    have n1_ : Aside0 (w20.heap[gb174]? = some (.cells #[.int .i64 t168, .slice Ao15 t169.length co15, .int .i64 t172] 27 (0, 0))) := ⟨h1_⟩
                    have n2_ : Aside0 (w20.heap[gb207]? = some (.cells #[.int .i64 0, .slice none 0 0, .int .i64 0] 27 (0, 0))) := ⟨h2_⟩
                    have n3_ : Aside0 (w.heap.size ≤ gb207) := ⟨h3_⟩
                    have n4_ : Aside0 (w.heap.size ≤ gb207) := ⟨h4_⟩
                    have n5_ : Aside0 (gb174 ≠ gb207) := ⟨h5_⟩
                    have n6_ : Aside0 (gb207 ≠ gb174) := ⟨h6_⟩
                    have n7_ : Aside0 (Below w.heap.size w w20) := ⟨h7_⟩
                    clear HO171
                    clear BK174
                    clear HB
                    clear h0_ h1_ h2_ h3_ h4_ h5_ h6_ h7_
                    have HO171 := n0_
                    have BK174 := n1_
                    have BK207 := n2_
                    have GW207 := n3_
                    have GE207 := n4_
                    have NB174_207 := n5_
                    have NB207_174 := n6_
                    have HB := n7_
                    clear n0_ n1_ n2_ n3_ n4_ n5_ n6_ n7_
                    have hHeld : w20.cell? ⟨gb174, 0, none⟩ = some (.int .i64 t168) ∧ w20.cell? ⟨gb174, 1, none⟩ = some (.slice Ao15 t169.length co15) ∧ w20.cell? ⟨gb174, 2, none⟩ = some (.int .i64 t172) := hS_
                    refine norm_ (a' := ?_) ?_ ?_
                    rotate_left
                    · simp only [putAll, Act.put, PU]
                      rfl
                    refine one_ (i := 2) (N := some 23) #[true, true, true, false, false, false, true, false] rfl rfl (one_of HT_.out (by kernel_rfl)) (by decide) (fun K hK => ?_)
                    refine goes_ Try.func23 (by kernel_rfl) rfl #[.int .i64 2] (by rfl) rfl rfl (by (try simp only [List.map_toArray, List.map_cons, List.map_nil]); first | done | rfl | (simp only [List.length_drop, List.length_take]; rfl)) ?_
                    with_reducible refine (hopperlaw14_event.calls 2 t183 t184 t185 t186 t187 t188 t189 t190 _ A3.out).mono ?_
                    rintro e w21 ⟨rfl, hb⟩
                    refine ⟨_, rfl, ?_⟩
                    have n0_ := Aside0.mk (Kd.R_below (Kd.RA HO171.out) hb)
                    have n1_ := Aside0.mk (blk_below (BA BK174.out) hb)
                    have n2_ := Aside0.mk (blk_below (BA BK207.out) hb)
                    have n3_ := Aside0.mk (below_step (LG HB.out (G1 GE174.out (G1 GE207.out G0))) hb)
                    clear HO171
                    clear BK174
                    clear BK207
                    clear HB
                    have HO171 := n0_
                    have BK174 := n1_
                    have BK207 := n2_
                    have HB := n3_
                    clear n0_ n1_ n2_ n3_
                    (try clear hb)
                    (try clear hb2)
                    (try clear hk)
                    (try clear hi)
                    refine hK.out _ _ ⟨(blk_cell BK174.out 0).trans rfl, (blk_cell BK174.out 1).trans rfl, (blk_cell BK174.out 2).trans rfl⟩ (fun hHeld => ?_)
                    clear hK K
                    refine norm_ (a' := ?_) ?_ ?_
                    rotate_left
                    · show Act.put _ (some 23) _ = _
                      simp only [Act.put, PU, i64_w, i32_w]
                      rfl
                    exact norm_ (by first | (simp only [putAll, Act.put, PU]; done) | (simp only [putAll, Act.put, PU]; rfl)) (hJ1_2_6 (gb207) _ ⟨hHeld, (Kd.RA HO171.out), (BA BK174.out), (BA BK207.out), GW207.out, GE207.out, NB174_207.out, NB207_174.out, (LG HB.out (G1 GE174.out (G1 GE207.out G0)))⟩)
                · skip
                  rintro _ w20 ⟨hS_, h0_, h1_, h2_⟩
                  have n0_ : Aside0 (Kd.R k36 36 w20 w.heap.size (fun _ => True) (.slice Ao15 t169.length co15) t169) := ⟨h0_⟩
                  have n1_ : Aside0 (w20.heap[gb174]? = some (.cells #[.int .i64 t168, .slice Ao15 t169.length co15, .int .i64 t172] 27 (0, 0))) := ⟨h1_⟩
                  have n2_ : Aside0 (Below w.heap.size w w20) := ⟨h2_⟩
                  clear HO171
                  clear BK174
                  clear HB
                  clear h0_ h1_ h2_
                  have HO171 := n0_
                  have BK174 := n1_
                  have HB := n2_
                  clear n0_ n1_ n2_
                  have hHeld : w20.cell? ⟨gb174, 0, none⟩ = some (.int .i64 t168) ∧ w20.cell? ⟨gb174, 1, none⟩ = some (.slice Ao15 t169.length co15) ∧ w20.cell? ⟨gb174, 2, none⟩ = some (.int .i64 t172) := hS_
                  refine norm_ (a' := ?_) ?_ ?_
                  rotate_left
                  · simp only [putAll, Act.put, PU]
                    rfl
                  refine two_ (i := 3) (j := 6) (Ni := some 24) (Nj := some 3) (tf 4 8) #[true, true, true, false, false, false, true, false] rfl rfl rfl rfl (two_of HT_.out (by kernel_rfl)) (by decide) (by decide) (fun K hK => ?_) (fun K hK => ?_)
                  · skip
                    refine goes_ Try.func23 (by kernel_rfl) rfl #[.int .i64 3] (by rfl) rfl rfl (by (try simp only [List.map_toArray, List.map_cons, List.map_nil]); first | done | rfl | (simp only [List.length_drop, List.length_take]; rfl)) ?_
                    with_reducible refine (hopperlaw14_event.calls 3 t191 t192 t193 t194 t195 t196 t197 t198 _ A4.out).mono ?_
                    rintro e w21 ⟨rfl, hb⟩
                    refine ⟨_, rfl, ?_⟩
                    have n0_ := Aside0.mk (Kd.R_below (Kd.RA HO171.out) hb)
                    have n1_ := Aside0.mk (blk_below (BA BK174.out) hb)
                    have n2_ := Aside0.mk (below_step (LG HB.out (G1 GE174.out G0)) hb)
                    clear HO171
                    clear BK174
                    clear HB
                    have HO171 := n0_
                    have BK174 := n1_
                    have HB := n2_
                    clear n0_ n1_ n2_
                    (try clear hb)
                    (try clear hb2)
                    (try clear hk)
                    (try clear hi)
                    refine hK.out _ _ ⟨(blk_cell BK174.out 0).trans rfl, (blk_cell BK174.out 1).trans rfl, (blk_cell BK174.out 2).trans rfl⟩ (fun hHeld => ?_)
                    clear hK K
                    refine norm_ (a' := ?_) ?_ ?_
                    rotate_left
                    · show Act.put _ (some 24) _ = _
                      simp only [Act.put, PU, i64_w, i32_w]
                      rfl
                    exact norm_ (by first | (simp only [putAll, Act.put, PU]; done) | (simp only [putAll, Act.put, PU]; rfl)) (hJ1_2_3 () _ ⟨hHeld, (Kd.RA HO171.out), (BA BK174.out), (LG HB.out (G1 GE174.out G0))⟩)
                  · skip
                    refine box_step ?hg (N := 3) ?hd (cs := #[.int .i64 0, .slice none 0 0, .int .i64 0]) (t := 27) ?hr ?_; (case hd => rfl); (case hg => rfl); (case hr => first | (go_simp; done) | (go_simp; rfl))
                    intro gb207 hg w21 hbox hb
                    have n0_ := Aside0.mk (Kd.R_below (Kd.RA HO171.out) hb)
                    have n1_ := Aside0.mk (blk_below (BA BK174.out) hb)
                    have n2_ := Aside0.mk (below_step (LG HB.out (G1 GE174.out G0)) hb)
                    have n3_ := Aside0.mk (hbox)
                    have n4_ := Aside0.mk (ge1 hg (LG HB.out (G1 GE174.out G0)))
                    have n5_ := Aside0.mk (ge1 hg (LG HB.out (G1 GE174.out G0)))
                    have n6_ := Aside0.mk ((by rw [hg]; exact Nat.ne_of_lt (blk_lt (g := gb174) (o := .cells #[.int .i64 t168, .slice Ao15 t169.length co15, .int .i64 t172] 27 (0, 0)) (BA BK174.out)) : gb174 ≠ gb207))
                    have n7_ := Aside0.mk ((by rw [hg]; exact Nat.ne_of_gt (blk_lt (g := gb174) (o := .cells #[.int .i64 t168, .slice Ao15 t169.length co15, .int .i64 t172] 27 (0, 0)) (BA BK174.out)) : gb207 ≠ gb174))
                    clear HO171
                    clear BK174
                    clear HB
                    have HO171 := n0_
                    have BK174 := n1_
                    have HB := n2_
                    have BK207 := n3_
                    have GW207 := n4_
                    have GE207 := n5_
                    have NB174_207 := n6_
                    have NB207_174 := n7_
                    clear n0_ n1_ n2_ n3_ n4_ n5_ n6_ n7_
                    clear hb hbox hg
                    refine hK.out _ _ ⟨(blk_cell BK174.out 0).trans rfl, (blk_cell BK174.out 1).trans rfl, (blk_cell BK174.out 2).trans rfl⟩ (fun hHeld => ?_)
                    clear hK K
                    refine norm_ (a' := ?_) ?_ ?_
                    rotate_left
                    · show Act.put _ (some 3) _ = _
                      simp only [Act.put, PU, i64_w, i32_w]
                      rfl
                    exact norm_ (by first | (simp only [putAll, Act.put, PU]; done) | (simp only [putAll, Act.put, PU]; rfl)) (hJ1_2_6 (gb207) _ ⟨hHeld, (Kd.RA HO171.out), (BA BK174.out), (BA BK207.out), GW207.out, GE207.out, NB174_207.out, NB207_174.out, (LG HB.out (G1 GE174.out (G1 GE207.out G0)))⟩)
              · skip
                rintro gb207 w21 ⟨hS_, h0_, h1_, h2_, h3_, h4_, h5_, h6_, h7_⟩
                have n0_ : Aside0 (Kd.R k36 36 w21 w.heap.size (fun _ => True) (.slice Ao15 t169.length co15) t169) := ⟨h0_⟩
                have n1_ : Aside0 (w21.heap[gb174]? = some (.cells #[.int .i64 t168, .slice Ao15 t169.length co15, .int .i64 t172] 27 (0, 0))) := ⟨h1_⟩
                have n2_ : Aside0 (w21.heap[gb207]? = some (.cells #[.int .i64 0, .slice none 0 0, .int .i64 0] 27 (0, 0))) := ⟨h2_⟩
                have n3_ : Aside0 (w.heap.size ≤ gb207) := ⟨h3_⟩
                have n4_ : Aside0 (w.heap.size ≤ gb207) := ⟨h4_⟩
                have n5_ : Aside0 (gb174 ≠ gb207) := ⟨h5_⟩
                have n6_ : Aside0 (gb207 ≠ gb174) := ⟨h6_⟩
                have n7_ : Aside0 (Below w.heap.size w w21) := ⟨h7_⟩
                clear HO171
                clear BK174
                clear HB
                clear h0_ h1_ h2_ h3_ h4_ h5_ h6_ h7_
                have HO171 := n0_
                have BK174 := n1_
                have BK207 := n2_
                have GW207 := n3_
                have GE207 := n4_
                have NB174_207 := n5_
                have NB207_174 := n6_
                have HB := n7_
                clear n0_ n1_ n2_ n3_ n4_ n5_ n6_ n7_
                have hHeld : w21.cell? ⟨gb174, 0, none⟩ = some (.int .i64 t168) ∧ w21.cell? ⟨gb174, 1, none⟩ = some (.slice Ao15 t169.length co15) ∧ w21.cell? ⟨gb174, 2, none⟩ = some (.int .i64 t172) := hS_
                refine norm_ (a' := ?_) ?_ ?_
                rotate_left
                · simp only [putAll, Act.put, PU]
                  rfl
                refine one_ (i := 3) (N := some 24) #[true, true, true, true, false, false, true, false] rfl rfl (one_of HT_.out (by kernel_rfl)) (by decide) (fun K hK => ?_)
                refine goes_ Try.func23 (by kernel_rfl) rfl #[.int .i64 3] (by rfl) rfl rfl (by (try simp only [List.map_toArray, List.map_cons, List.map_nil]); first | done | rfl | (simp only [List.length_drop, List.length_take]; rfl)) ?_
                with_reducible refine (hopperlaw14_event.calls 3 t191 t192 t193 t194 t195 t196 t197 t198 _ A4.out).mono ?_
                rintro e w22 ⟨rfl, hb⟩
                refine ⟨_, rfl, ?_⟩
                have n0_ := Aside0.mk (Kd.R_below (Kd.RA HO171.out) hb)
                have n1_ := Aside0.mk (blk_below (BA BK174.out) hb)
                have n2_ := Aside0.mk (blk_below (BA BK207.out) hb)
                have n3_ := Aside0.mk (below_step (LG HB.out (G1 GE174.out (G1 GE207.out G0))) hb)
                clear HO171
                clear BK174
                clear BK207
                clear HB
                have HO171 := n0_
                have BK174 := n1_
                have BK207 := n2_
                have HB := n3_
                clear n0_ n1_ n2_ n3_
                (try clear hb)
                (try clear hb2)
                (try clear hk)
                (try clear hi)
                refine hK.out _ _ ⟨(blk_cell BK174.out 0).trans rfl, (blk_cell BK174.out 1).trans rfl, (blk_cell BK174.out 2).trans rfl⟩ (fun hHeld => ?_)
                clear hK K
                refine norm_ (a' := ?_) ?_ ?_
                rotate_left
                · show Act.put _ (some 24) _ = _
                  simp only [Act.put, PU, i64_w, i32_w]
                  rfl
                exact norm_ (by first | (simp only [putAll, Act.put, PU]; done) | (simp only [putAll, Act.put, PU]; rfl)) (hJ1_2_3_6 (gb207) _ ⟨hHeld, (Kd.RA HO171.out), (BA BK174.out), (BA BK207.out), GW207.out, GE207.out, NB174_207.out, NB207_174.out, (LG HB.out (G1 GE174.out (G1 GE207.out G0)))⟩)
            · skip
              rintro _ w21 ⟨hS_, h0_, h1_, h2_⟩
              have n0_ : Aside0 (Kd.R k36 36 w21 w.heap.size (fun _ => True) (.slice Ao15 t169.length co15) t169) := ⟨h0_⟩
              have n1_ : Aside0 (w21.heap[gb174]? = some (.cells #[.int .i64 t168, .slice Ao15 t169.length co15, .int .i64 t172] 27 (0, 0))) := ⟨h1_⟩
              have n2_ : Aside0 (Below w.heap.size w w21) := ⟨h2_⟩
              clear HO171
              clear BK174
              clear HB
              clear h0_ h1_ h2_
              have HO171 := n0_
              have BK174 := n1_
              have HB := n2_
              clear n0_ n1_ n2_
              have hHeld : w21.cell? ⟨gb174, 0, none⟩ = some (.int .i64 t168) ∧ w21.cell? ⟨gb174, 1, none⟩ = some (.slice Ao15 t169.length co15) ∧ w21.cell? ⟨gb174, 2, none⟩ = some (.int .i64 t172) := hS_
              refine norm_ (a' := ?_) ?_ ?_
              rotate_left
              · simp only [putAll, Act.put, PU]
                rfl
              refine two_ (i := 4) (j := 6) (Ni := some 25) (Nj := some 3) (tf 5 8) #[true, true, true, true, false, false, true, false] rfl rfl rfl rfl (two_of HT_.out (by kernel_rfl)) (by decide) (by decide) (fun K hK => ?_) (fun K hK => ?_)
              · skip
                refine Kd.R_lit_step k36 _ 36 ?hg (N := 25) ?hd (xs := ([(⟨t175, (⟨t176, t177, t178, t179, t180, t181⟩ : S34), t182⟩ : S36), (⟨t183, (⟨t184, t185, t186, t187, t188, t189⟩ : S34), t190⟩ : S36), (⟨t191, (⟨t192, t193, t194, t195, t196, t197⟩ : S34), t198⟩ : S36)] : List (S36))) (inner := [.int .i64 t175, .int .i64 t176, .int .i64 t177, .int .i64 t178, .int .i64 t179, .int .i64 t180, .string t181, .int .i64 t182, .int .i64 t183, .int .i64 t184, .int .i64 t185, .int .i64 t186, .int .i64 t187, .int .i64 t188, .string t189, .int .i64 t190, .int .i64 t191, .int .i64 t192, .int .i64 t193, .int .i64 t194, .int .i64 t195, .int .i64 t196, .string t197, .int .i64 t198]) (ok := fun _ => True) (okp := fun _ => True) ?hr ?hp (fun _ hk => hk) trivial (Below.refl _ _) (Nat.le_refl _) (by simp) ?_; (case hd => rfl); (case hg => rfl); (case hr => first | (go_simp; done) | (go_simp; rfl)); (case hp => exact (Reps.c8 (show Kd.M k36 _ _ _ (⟨t175, (⟨t176, t177, t178, t179, t180, t181⟩ : S34), t182⟩ : S36) [.int .i64 t175, .int .i64 t176, .int .i64 t177, .int .i64 t178, .int .i64 t179, .int .i64 t180, .string t181, .int .i64 t182] from (k36_mkM _ _ _ (⟨t175, (⟨t176, t177, t178, t179, t180, t181⟩ : S34), t182⟩ : S36) )) (Reps.c8 (show Kd.M k36 _ _ _ (⟨t183, (⟨t184, t185, t186, t187, t188, t189⟩ : S34), t190⟩ : S36) [.int .i64 t183, .int .i64 t184, .int .i64 t185, .int .i64 t186, .int .i64 t187, .int .i64 t188, .string t189, .int .i64 t190] from (k36_mkM _ _ _ (⟨t183, (⟨t184, t185, t186, t187, t188, t189⟩ : S34), t190⟩ : S36) )) (Reps.c8 (show Kd.M k36 _ _ _ (⟨t191, (⟨t192, t193, t194, t195, t196, t197⟩ : S34), t198⟩ : S36) [.int .i64 t191, .int .i64 t192, .int .i64 t193, .int .i64 t194, .int .i64 t195, .int .i64 t196, .string t197, .int .i64 t198] from (k36_mkM _ _ _ (⟨t191, (⟨t192, t193, t194, t195, t196, t197⟩ : S34), t198⟩ : S36) )) (Reps.none _ _)))))
                intro v200 w22 ho23 hb hg_ hnew_
                clear hg_ hnew_
                (first | rw [← Ny199.out] at ho23 | (simp only [Int.reduceToNat] at ho23; rw [← Ny199.out] at ho23))
                have n0_ := Aside0.mk (Kd.R_elder' (Kd.RA HO171.out) (Kd.R_base ho23) hb)
                have n1_ := Aside0.mk (Kd.R_lower (Kd.R_new' ho23 (Kd.R_lt (Kd.RA HO171.out))) (below_size (LG HB.out (G1 GE174.out G0))))
                have n2_ := Aside0.mk (blk_below (BA BK174.out) hb)
                have n3_ := Aside0.mk (below_step (LG HB.out (G1 GE174.out G0)) hb)
                clear HO171
                clear BK174
                clear HB
                have HO171 := n0_
                have HO201 := n1_
                have BK174 := n2_
                have HB := n3_
                clear n0_ n1_ n2_ n3_
                clear hb ho23
                refine hK.out _ _ ⟨(blk_cell BK174.out 0).trans rfl, (blk_cell BK174.out 1).trans rfl, (blk_cell BK174.out 2).trans rfl⟩ (fun hHeld => ?_)
                clear hK K
                refine norm_ (a' := ?_) ?_ ?_
                rotate_left
                · show Act.put _ (some 25) _ = _
                  simp only [Act.put, PU, i64_w, i32_w]
                  rfl
                exact norm_ (by first | (simp only [putAll, Act.put, PU]; done) | (simp only [putAll, Act.put, PU]; rfl)) (hJ1_2_3_4 (v200) _ ⟨hHeld, (Kd.RA (Kd.R_mono HO171.out (fun _ hk => hk.2))), (Kd.RA (Kd.R_mono HO201.out (fun _ hk => hk.2))), (BA BK174.out), (LG HB.out (G1 GE174.out G0))⟩)
              · skip
                refine box_step ?hg (N := 3) ?hd (cs := #[.int .i64 0, .slice none 0 0, .int .i64 0]) (t := 27) ?hr ?_; (case hd => rfl); (case hg => rfl); (case hr => first | (go_simp; done) | (go_simp; rfl))
                intro gb207 hg w22 hbox hb
                have n0_ := Aside0.mk (Kd.R_below (Kd.RA HO171.out) hb)
                have n1_ := Aside0.mk (blk_below (BA BK174.out) hb)
                have n2_ := Aside0.mk (below_step (LG HB.out (G1 GE174.out G0)) hb)
                have n3_ := Aside0.mk (hbox)
                have n4_ := Aside0.mk (ge1 hg (LG HB.out (G1 GE174.out G0)))
                have n5_ := Aside0.mk (ge1 hg (LG HB.out (G1 GE174.out G0)))
                have n6_ := Aside0.mk ((by rw [hg]; exact Nat.ne_of_lt (blk_lt (g := gb174) (o := .cells #[.int .i64 t168, .slice Ao15 t169.length co15, .int .i64 t172] 27 (0, 0)) (BA BK174.out)) : gb174 ≠ gb207))
                have n7_ := Aside0.mk ((by rw [hg]; exact Nat.ne_of_gt (blk_lt (g := gb174) (o := .cells #[.int .i64 t168, .slice Ao15 t169.length co15, .int .i64 t172] 27 (0, 0)) (BA BK174.out)) : gb207 ≠ gb174))
                clear HO171
                clear BK174
                clear HB
                have HO171 := n0_
                have BK174 := n1_
                have HB := n2_
                have BK207 := n3_
                have GW207 := n4_
                have GE207 := n5_
                have NB174_207 := n6_
                have NB207_174 := n7_
                clear n0_ n1_ n2_ n3_ n4_ n5_ n6_ n7_
                clear hb hbox hg
                refine hK.out _ _ ⟨(blk_cell BK174.out 0).trans rfl, (blk_cell BK174.out 1).trans rfl, (blk_cell BK174.out 2).trans rfl⟩ (fun hHeld => ?_)
                clear hK K
                refine norm_ (a' := ?_) ?_ ?_
                rotate_left
                · show Act.put _ (some 3) _ = _
                  simp only [Act.put, PU, i64_w, i32_w]
                  rfl
                exact norm_ (by first | (simp only [putAll, Act.put, PU]; done) | (simp only [putAll, Act.put, PU]; rfl)) (hJ1_2_3_6 (gb207) _ ⟨hHeld, (Kd.RA HO171.out), (BA BK174.out), (BA BK207.out), GW207.out, GE207.out, NB174_207.out, NB207_174.out, (LG HB.out (G1 GE174.out (G1 GE207.out G0)))⟩)
          · skip
            rintro gb207 w22 ⟨hS_, h0_, h1_, h2_, h3_, h4_, h5_, h6_, h7_⟩
            have n0_ : Aside0 (Kd.R k36 36 w22 w.heap.size (fun _ => True) (.slice Ao15 t169.length co15) t169) := ⟨h0_⟩
            have n1_ : Aside0 (w22.heap[gb174]? = some (.cells #[.int .i64 t168, .slice Ao15 t169.length co15, .int .i64 t172] 27 (0, 0))) := ⟨h1_⟩
            have n2_ : Aside0 (w22.heap[gb207]? = some (.cells #[.int .i64 0, .slice none 0 0, .int .i64 0] 27 (0, 0))) := ⟨h2_⟩
            have n3_ : Aside0 (w.heap.size ≤ gb207) := ⟨h3_⟩
            have n4_ : Aside0 (w.heap.size ≤ gb207) := ⟨h4_⟩
            have n5_ : Aside0 (gb174 ≠ gb207) := ⟨h5_⟩
            have n6_ : Aside0 (gb207 ≠ gb174) := ⟨h6_⟩
            have n7_ : Aside0 (Below w.heap.size w w22) := ⟨h7_⟩
            clear HO171
            clear BK174
            clear HB
            clear h0_ h1_ h2_ h3_ h4_ h5_ h6_ h7_
            have HO171 := n0_
            have BK174 := n1_
            have BK207 := n2_
            have GW207 := n3_
            have GE207 := n4_
            have NB174_207 := n5_
            have NB207_174 := n6_
            have HB := n7_
            clear n0_ n1_ n2_ n3_ n4_ n5_ n6_ n7_
            have hHeld : w22.cell? ⟨gb174, 0, none⟩ = some (.int .i64 t168) ∧ w22.cell? ⟨gb174, 1, none⟩ = some (.slice Ao15 t169.length co15) ∧ w22.cell? ⟨gb174, 2, none⟩ = some (.int .i64 t172) := hS_
            refine norm_ (a' := ?_) ?_ ?_
            rotate_left
            · simp only [putAll, Act.put, PU]
              rfl
            refine one_ (i := 4) (N := some 25) #[true, true, true, true, true, false, true, false] rfl rfl (one_of HT_.out (by kernel_rfl)) (by decide) (fun K hK => ?_)
            refine Kd.R_lit_step k36 _ 36 ?hg (N := 25) ?hd (xs := ([(⟨t175, (⟨t176, t177, t178, t179, t180, t181⟩ : S34), t182⟩ : S36), (⟨t183, (⟨t184, t185, t186, t187, t188, t189⟩ : S34), t190⟩ : S36), (⟨t191, (⟨t192, t193, t194, t195, t196, t197⟩ : S34), t198⟩ : S36)] : List (S36))) (inner := [.int .i64 t175, .int .i64 t176, .int .i64 t177, .int .i64 t178, .int .i64 t179, .int .i64 t180, .string t181, .int .i64 t182, .int .i64 t183, .int .i64 t184, .int .i64 t185, .int .i64 t186, .int .i64 t187, .int .i64 t188, .string t189, .int .i64 t190, .int .i64 t191, .int .i64 t192, .int .i64 t193, .int .i64 t194, .int .i64 t195, .int .i64 t196, .string t197, .int .i64 t198]) (ok := fun _ => True) (okp := fun _ => True) ?hr ?hp (fun _ hk => hk) trivial (Below.refl _ _) (Nat.le_refl _) (by simp) ?_; (case hd => rfl); (case hg => rfl); (case hr => first | (go_simp; done) | (go_simp; rfl)); (case hp => exact (Reps.c8 (show Kd.M k36 _ _ _ (⟨t175, (⟨t176, t177, t178, t179, t180, t181⟩ : S34), t182⟩ : S36) [.int .i64 t175, .int .i64 t176, .int .i64 t177, .int .i64 t178, .int .i64 t179, .int .i64 t180, .string t181, .int .i64 t182] from (k36_mkM _ _ _ (⟨t175, (⟨t176, t177, t178, t179, t180, t181⟩ : S34), t182⟩ : S36) )) (Reps.c8 (show Kd.M k36 _ _ _ (⟨t183, (⟨t184, t185, t186, t187, t188, t189⟩ : S34), t190⟩ : S36) [.int .i64 t183, .int .i64 t184, .int .i64 t185, .int .i64 t186, .int .i64 t187, .int .i64 t188, .string t189, .int .i64 t190] from (k36_mkM _ _ _ (⟨t183, (⟨t184, t185, t186, t187, t188, t189⟩ : S34), t190⟩ : S36) )) (Reps.c8 (show Kd.M k36 _ _ _ (⟨t191, (⟨t192, t193, t194, t195, t196, t197⟩ : S34), t198⟩ : S36) [.int .i64 t191, .int .i64 t192, .int .i64 t193, .int .i64 t194, .int .i64 t195, .int .i64 t196, .string t197, .int .i64 t198] from (k36_mkM _ _ _ (⟨t191, (⟨t192, t193, t194, t195, t196, t197⟩ : S34), t198⟩ : S36) )) (Reps.none _ _)))))
            intro v200 w23 ho24 hb hg_ hnew_
            clear hg_ hnew_
            (first | rw [← Ny199.out] at ho24 | (simp only [Int.reduceToNat] at ho24; rw [← Ny199.out] at ho24))
            have n0_ := Aside0.mk (Kd.R_elder' (Kd.RA HO171.out) (Kd.R_base ho24) hb)
            have n1_ := Aside0.mk (Kd.R_lower (Kd.R_new' ho24 (Kd.R_lt (Kd.RA HO171.out))) (below_size (LG HB.out (G1 GE174.out (G1 GE207.out G0)))))
            have n2_ := Aside0.mk (blk_below (BA BK174.out) hb)
            have n3_ := Aside0.mk (blk_below (BA BK207.out) hb)
            have n4_ := Aside0.mk (below_step (LG HB.out (G1 GE174.out (G1 GE207.out G0))) hb)
            clear HO171
            clear BK174
            clear BK207
            clear HB
            have HO171 := n0_
            have HO201 := n1_
            have BK174 := n2_
            have BK207 := n3_
            have HB := n4_
            clear n0_ n1_ n2_ n3_ n4_
            clear hb ho24
            refine hK.out _ _ ⟨(blk_cell BK174.out 0).trans rfl, (blk_cell BK174.out 1).trans rfl, (blk_cell BK174.out 2).trans rfl⟩ (fun hHeld => ?_)
            clear hK K
            refine norm_ (a' := ?_) ?_ ?_
            rotate_left
            · show Act.put _ (some 25) _ = _
              simp only [Act.put, PU, i64_w, i32_w]
              rfl
            exact norm_ (by first | (simp only [putAll, Act.put, PU]; done) | (simp only [putAll, Act.put, PU]; rfl)) (hJ1_2_3_4_6 (v200, gb207) _ ⟨hHeld, (Kd.RA (Kd.R_mono HO171.out (fun _ hk => hk.2))), (Kd.RA (Kd.R_mono HO201.out (fun _ hk => hk.2))), (BA BK174.out), (BA BK207.out), GW207.out, GE207.out, NB174_207.out, NB207_174.out, (LG HB.out (G1 GE174.out (G1 GE207.out G0)))⟩)
        · skip
          rintro v200 w23 ⟨hS_, h0_, h1_, h2_, h3_⟩
          have n0_ : Aside0 (Kd.R k36 36 w23 w.heap.size (fun k_ => some k_ ≠ (v200 : Value).ownBlock) (.slice Ao15 t169.length co15) t169) := ⟨h0_⟩
          have n1_ : Aside0 (Kd.R k36 36 w23 w.heap.size (fun k_ => some k_ ≠ (.slice Ao15 t169.length co15 : Value).ownBlock) v200 y199) := ⟨h1_⟩
          have n2_ : Aside0 (w23.heap[gb174]? = some (.cells #[.int .i64 t168, .slice Ao15 t169.length co15, .int .i64 t172] 27 (0, 0))) := ⟨h2_⟩
          have n3_ : Aside0 (Below w.heap.size w w23) := ⟨h3_⟩
          clear HO171
          clear BK174
          clear HB
          clear h0_ h1_ h2_ h3_
          have HO171 := n0_
          have HO201 := n1_
          have BK174 := n2_
          have HB := n3_
          clear n0_ n1_ n2_ n3_
          have hHeld : w23.cell? ⟨gb174, 0, none⟩ = some (.int .i64 t168) ∧ w23.cell? ⟨gb174, 1, none⟩ = some (.slice Ao15 t169.length co15) ∧ w23.cell? ⟨gb174, 2, none⟩ = some (.int .i64 t172) := hS_
          obtain ⟨Ao24, co24, eo24⟩ := Kd.R_slice HO201.out
          (first | subst eo24 | (injection eo24 with f1_ f2_ f3_; have f4_ := f1_.symm; have f5_ := f3_.symm; clear f1_ f2_ f3_; subst f4_; subst f5_))
          refine norm_ (a' := ?_) ?_ ?_
          rotate_left
          · simp only [putAll, Act.put, PU]
            rfl
          refine two_ (i := 5) (j := 6) (Ni := some 26) (Nj := some 3) (tf 6 8) #[true, true, true, true, true, false, true, false] rfl rfl rfl rfl (two_of HT_.out (by kernel_rfl)) (by decide) (by decide) (fun K hK => ?_) (fun K hK => ?_)
          · skip
            refine goes_ Try.func19 (by kernel_rfl) rfl #[.agg #[.int .i64 t168, .slice Ao15 t169.length co15, .int .i64 t172], .slice Ao24 y199.length co24] (by rfl) rfl rfl (by (try simp only [List.map_toArray, List.map_cons, List.map_nil]); first | done | rfl | (simp only [List.length_drop, List.length_take]; rfl)) ?_
            with_reducible refine (feed_Tell.calls k t168 _ _ t169 t172 _ _ y199 t202 t203 t206 _ ?side1 ?side2 ?side3 ?side4 A5.out).mono ?_
            (case side1 => exact Kd.CA (Kd.R_reads' HO171.out).2.2)
            (case side2 => exact (Kd.R_reads' HO171.out).2.1)
            (case side3 => exact Kd.CA (Kd.R_reads' HO201.out).2.2)
            (case side4 => exact (Kd.R_reads' HO201.out).2.1)
            rintro e w25 ⟨v204, rfl, ho0, hb⟩
            refine ⟨_, rfl, ?_⟩
            have n0_ := Aside0.mk (Kd.R_elder' (Kd.RA HO171.out) (Kd.R_base ho0) hb)
            have n1_ := Aside0.mk (Kd.R_elder' (Kd.RA HO201.out) (Kd.R_base ho0) hb)
            have n2_ := Aside0.mk (Kd.R_lower (Kd.R_new' (Kd.R_new' ho0 (Kd.R_lt (Kd.RA HO171.out))) (Kd.R_lt (Kd.RA HO201.out))) (below_size (LG HB.out (G1 GE174.out G0))))
            have n3_ := Aside0.mk (blk_below (BA BK174.out) hb)
            have n4_ := Aside0.mk (below_step (LG HB.out (G1 GE174.out G0)) hb)
            clear HO171
            clear HO201
            clear BK174
            clear HB
            have HO171 := n0_
            have HO201 := n1_
            have HO205 := n2_
            have BK174 := n3_
            have HB := n4_
            clear n0_ n1_ n2_ n3_ n4_
            (try clear hb)
            (try clear hb2)
            (try clear hk)
            (try clear hi)
            (try clear ho0)
            refine hK.out _ _ ⟨(blk_cell BK174.out 0).trans rfl, (blk_cell BK174.out 1).trans rfl, (blk_cell BK174.out 2).trans rfl⟩ (fun hHeld => ?_)
            clear hK K
            refine norm_ (a' := ?_) ?_ ?_
            rotate_left
            · show Act.put _ (some 26) _ = _
              simp only [Act.put, PU, i64_w, i32_w]
              rfl
            exact norm_ (by first | (simp only [putAll, Act.put, PU]; done) | (simp only [putAll, Act.put, PU]; rfl)) (hJ1_2_3_4_5 (.slice Ao24 y199.length co24, v204) _ ⟨hHeld, (Kd.RA HO171.out), (Kd.RA HO201.out), (Kd.RA (Kd.R_mono HO205.out (fun _ hk => ⟨hk.1.2, hk.2⟩))), (BA BK174.out), (LG HB.out (G1 GE174.out G0))⟩)
          · skip
            refine box_step ?hg (N := 3) ?hd (cs := #[.int .i64 0, .slice none 0 0, .int .i64 0]) (t := 27) ?hr ?_; (case hd => rfl); (case hg => rfl); (case hr => first | (go_simp; done) | (go_simp; rfl))
            intro gb207 hg w24 hbox hb
            have n0_ := Aside0.mk (Kd.R_below (Kd.RA HO171.out) hb)
            have n1_ := Aside0.mk (Kd.R_below (Kd.RA HO201.out) hb)
            have n2_ := Aside0.mk (blk_below (BA BK174.out) hb)
            have n3_ := Aside0.mk (below_step (LG HB.out (G1 GE174.out G0)) hb)
            have n4_ := Aside0.mk (hbox)
            have n5_ := Aside0.mk (ge1 hg (LG HB.out (G1 GE174.out G0)))
            have n6_ := Aside0.mk (ge1 hg (LG HB.out (G1 GE174.out G0)))
            have n7_ := Aside0.mk ((by rw [hg]; exact Nat.ne_of_lt (blk_lt (g := gb174) (o := .cells #[.int .i64 t168, .slice Ao15 t169.length co15, .int .i64 t172] 27 (0, 0)) (BA BK174.out)) : gb174 ≠ gb207))
            have n8_ := Aside0.mk ((by rw [hg]; exact Nat.ne_of_gt (blk_lt (g := gb174) (o := .cells #[.int .i64 t168, .slice Ao15 t169.length co15, .int .i64 t172] 27 (0, 0)) (BA BK174.out)) : gb207 ≠ gb174))
            clear HO171
            clear HO201
            clear BK174
            clear HB
            have HO171 := n0_
            have HO201 := n1_
            have BK174 := n2_
            have HB := n3_
            have BK207 := n4_
            have GW207 := n5_
            have GE207 := n6_
            have NB174_207 := n7_
            have NB207_174 := n8_
            clear n0_ n1_ n2_ n3_ n4_ n5_ n6_ n7_ n8_
            clear hb hbox hg
            refine hK.out _ _ ⟨(blk_cell BK174.out 0).trans rfl, (blk_cell BK174.out 1).trans rfl, (blk_cell BK174.out 2).trans rfl⟩ (fun hHeld => ?_)
            clear hK K
            refine norm_ (a' := ?_) ?_ ?_
            rotate_left
            · show Act.put _ (some 3) _ = _
              simp only [Act.put, PU, i64_w, i32_w]
              rfl
            exact norm_ (by first | (simp only [putAll, Act.put, PU]; done) | (simp only [putAll, Act.put, PU]; rfl)) (hJ1_2_3_4_6 ((.slice Ao24 y199.length co24), gb207) _ ⟨hHeld, (Kd.RA HO171.out), (Kd.RA HO201.out), (BA BK174.out), (BA BK207.out), GW207.out, GE207.out, NB174_207.out, NB207_174.out, (LG HB.out (G1 GE174.out (G1 GE207.out G0)))⟩)
      · skip
        rintro ⟨v200, gb207⟩ w24 ⟨hS_, h0_, h1_, h2_, h3_, h4_, h5_, h6_, h7_, h8_⟩
        have n0_ : Aside0 (Kd.R k36 36 w24 w.heap.size (fun k_ => some k_ ≠ (v200 : Value).ownBlock) (.slice Ao15 t169.length co15) t169) := ⟨h0_⟩
        have n1_ : Aside0 (Kd.R k36 36 w24 w.heap.size (fun k_ => some k_ ≠ (.slice Ao15 t169.length co15 : Value).ownBlock) v200 y199) := ⟨h1_⟩
        have n2_ : Aside0 (w24.heap[gb174]? = some (.cells #[.int .i64 t168, .slice Ao15 t169.length co15, .int .i64 t172] 27 (0, 0))) := ⟨h2_⟩
        have n3_ : Aside0 (w24.heap[gb207]? = some (.cells #[.int .i64 0, .slice none 0 0, .int .i64 0] 27 (0, 0))) := ⟨h3_⟩
        have n4_ : Aside0 (w.heap.size ≤ gb207) := ⟨h4_⟩
        have n5_ : Aside0 (w.heap.size ≤ gb207) := ⟨h5_⟩
        have n6_ : Aside0 (gb174 ≠ gb207) := ⟨h6_⟩
        have n7_ : Aside0 (gb207 ≠ gb174) := ⟨h7_⟩
        have n8_ : Aside0 (Below w.heap.size w w24) := ⟨h8_⟩
        clear HO171
        clear BK174
        clear HB
        clear h0_ h1_ h2_ h3_ h4_ h5_ h6_ h7_ h8_
        have HO171 := n0_
        have HO201 := n1_
        have BK174 := n2_
        have BK207 := n3_
        have GW207 := n4_
        have GE207 := n5_
        have NB174_207 := n6_
        have NB207_174 := n7_
        have HB := n8_
        clear n0_ n1_ n2_ n3_ n4_ n5_ n6_ n7_ n8_
        have hHeld : w24.cell? ⟨gb174, 0, none⟩ = some (.int .i64 t168) ∧ w24.cell? ⟨gb174, 1, none⟩ = some (.slice Ao15 t169.length co15) ∧ w24.cell? ⟨gb174, 2, none⟩ = some (.int .i64 t172) := hS_
        obtain ⟨Ao25, co25, eo25⟩ := Kd.R_slice HO201.out
        (first | subst eo25 | (injection eo25 with f1_ f2_ f3_; have f4_ := f1_.symm; have f5_ := f3_.symm; clear f1_ f2_ f3_; subst f4_; subst f5_))
        refine norm_ (a' := ?_) ?_ ?_
        rotate_left
        · simp only [putAll, Act.put, PU]
          rfl
        refine one_ (i := 5) (N := some 26) (tf 7 8) rfl rfl (one_of HT_.out (by kernel_rfl)) (by decide) (fun K hK => ?_)
        refine goes_ Try.func19 (by kernel_rfl) rfl #[.agg #[.int .i64 t168, .slice Ao15 t169.length co15, .int .i64 t172], .slice Ao25 y199.length co25] (by rfl) rfl rfl (by (try simp only [List.map_toArray, List.map_cons, List.map_nil]); first | done | rfl | (simp only [List.length_drop, List.length_take]; rfl)) ?_
        with_reducible refine (feed_Tell.calls k t168 _ _ t169 t172 _ _ y199 t202 t203 t206 _ ?side1 ?side2 ?side3 ?side4 A5.out).mono ?_
        (case side1 => exact Kd.CA (Kd.R_reads' HO171.out).2.2)
        (case side2 => exact (Kd.R_reads' HO171.out).2.1)
        (case side3 => exact Kd.CA (Kd.R_reads' HO201.out).2.2)
        (case side4 => exact (Kd.R_reads' HO201.out).2.1)
        rintro e w26 ⟨v204, rfl, ho0, hb⟩
        refine ⟨_, rfl, ?_⟩
        have n0_ := Aside0.mk (Kd.R_elder' (Kd.RA HO171.out) (Kd.R_base ho0) hb)
        have n1_ := Aside0.mk (Kd.R_elder' (Kd.RA HO201.out) (Kd.R_base ho0) hb)
        have n2_ := Aside0.mk (Kd.R_lower (Kd.R_new' (Kd.R_new' ho0 (Kd.R_lt (Kd.RA HO171.out))) (Kd.R_lt (Kd.RA HO201.out))) (below_size (LG HB.out (G1 GE174.out (G1 GE207.out G0)))))
        have n3_ := Aside0.mk (blk_below (BA BK174.out) hb)
        have n4_ := Aside0.mk (blk_below (BA BK207.out) hb)
        have n5_ := Aside0.mk (below_step (LG HB.out (G1 GE174.out (G1 GE207.out G0))) hb)
        clear HO171
        clear HO201
        clear BK174
        clear BK207
        clear HB
        have HO171 := n0_
        have HO201 := n1_
        have HO205 := n2_
        have BK174 := n3_
        have BK207 := n4_
        have HB := n5_
        clear n0_ n1_ n2_ n3_ n4_ n5_
        (try clear hb)
        (try clear hb2)
        (try clear hk)
        (try clear hi)
        (try clear ho0)
        refine hK.out _ _ ⟨(blk_cell BK174.out 0).trans rfl, (blk_cell BK174.out 1).trans rfl, (blk_cell BK174.out 2).trans rfl⟩ (fun hHeld => ?_)
        clear hK K
        refine norm_ (a' := ?_) ?_ ?_
        rotate_left
        · show Act.put _ (some 26) _ = _
          simp only [Act.put, PU, i64_w, i32_w]
          rfl
        exact norm_ (by first | (simp only [putAll, Act.put, PU]; done) | (simp only [putAll, Act.put, PU]; rfl)) (hJ1_2_3_4_5_6 (.slice Ao25 y199.length co25, v204, gb207) _ ⟨hHeld, (Kd.RA HO171.out), (Kd.RA HO201.out), (Kd.RA (Kd.R_mono HO205.out (fun _ hk => ⟨hk.1.2, hk.2⟩))), (BA BK174.out), (BA BK207.out), GW207.out, GE207.out, NB174_207.out, NB207_174.out, (LG HB.out (G1 GE174.out (G1 GE207.out G0)))⟩)
    · skip
      rintro ⟨v200, v204⟩ w25 ⟨hS_, h0_, h1_, h2_, h3_, h4_⟩
      have n0_ : Aside0 (Kd.R k36 36 w25 w.heap.size (fun k_ => some k_ ≠ (v200 : Value).ownBlock ∧ some k_ ≠ (v204 : Value).ownBlock) (.slice Ao15 t169.length co15) t169) := ⟨h0_⟩
      have n1_ : Aside0 (Kd.R k36 36 w25 w.heap.size (fun k_ => some k_ ≠ (.slice Ao15 t169.length co15 : Value).ownBlock ∧ some k_ ≠ (v204 : Value).ownBlock) v200 y199) := ⟨h1_⟩
      have n2_ : Aside0 (Kd.R k36 36 w25 w.heap.size (fun k_ => some k_ ≠ (.slice Ao15 t169.length co15 : Value).ownBlock ∧ some k_ ≠ (v200 : Value).ownBlock) v204 t203) := ⟨h2_⟩
      have n3_ : Aside0 (w25.heap[gb174]? = some (.cells #[.int .i64 t168, .slice Ao15 t169.length co15, .int .i64 t172] 27 (0, 0))) := ⟨h3_⟩
      have n4_ : Aside0 (Below w.heap.size w w25) := ⟨h4_⟩
      clear HO171
      clear BK174
      clear HB
      clear h0_ h1_ h2_ h3_ h4_
      have HO171 := n0_
      have HO201 := n1_
      have HO205 := n2_
      have BK174 := n3_
      have HB := n4_
      clear n0_ n1_ n2_ n3_ n4_
      have hHeld : w25.cell? ⟨gb174, 0, none⟩ = some (.int .i64 t168) ∧ w25.cell? ⟨gb174, 1, none⟩ = some (.slice Ao15 t169.length co15) ∧ w25.cell? ⟨gb174, 2, none⟩ = some (.int .i64 t172) := hS_
      refine norm_ (a' := ?_) ?_ ?_
      rotate_left
      · simp only [putAll, Act.put, PU]
        rfl
      refine one_ (i := 6) (N := some 3) (tf 7 8) rfl rfl (one_of HT_.out (by kernel_rfl)) (by decide) (fun K hK => ?_)
      refine box_step ?hg (N := 3) ?hd (cs := #[.int .i64 0, .slice none 0 0, .int .i64 0]) (t := 27) ?hr ?_; (case hd => rfl); (case hg => rfl); (case hr => first | (go_simp; done) | (go_simp; rfl))
      intro gb207 hg w26 hbox hb
      have n0_ := Aside0.mk (Kd.R_below (Kd.RA HO171.out) hb)
      have n1_ := Aside0.mk (Kd.R_below (Kd.RA HO201.out) hb)
      have n2_ := Aside0.mk (Kd.R_below (Kd.RA HO205.out) hb)
      have n3_ := Aside0.mk (blk_below (BA BK174.out) hb)
      have n4_ := Aside0.mk (below_step (LG HB.out (G1 GE174.out G0)) hb)
      have n5_ := Aside0.mk (hbox)
      have n6_ := Aside0.mk (ge1 hg (LG HB.out (G1 GE174.out G0)))
      have n7_ := Aside0.mk (ge1 hg (LG HB.out (G1 GE174.out G0)))
      have n8_ := Aside0.mk ((by rw [hg]; exact Nat.ne_of_lt (blk_lt (g := gb174) (o := .cells #[.int .i64 t168, .slice Ao15 t169.length co15, .int .i64 t172] 27 (0, 0)) (BA BK174.out)) : gb174 ≠ gb207))
      have n9_ := Aside0.mk ((by rw [hg]; exact Nat.ne_of_gt (blk_lt (g := gb174) (o := .cells #[.int .i64 t168, .slice Ao15 t169.length co15, .int .i64 t172] 27 (0, 0)) (BA BK174.out)) : gb207 ≠ gb174))
      clear HO171
      clear HO201
      clear HO205
      clear BK174
      clear HB
      have HO171 := n0_
      have HO201 := n1_
      have HO205 := n2_
      have BK174 := n3_
      have HB := n4_
      have BK207 := n5_
      have GW207 := n6_
      have GE207 := n7_
      have NB174_207 := n8_
      have NB207_174 := n9_
      clear n0_ n1_ n2_ n3_ n4_ n5_ n6_ n7_ n8_ n9_
      clear hb hbox hg
      refine hK.out _ _ ⟨(blk_cell BK174.out 0).trans rfl, (blk_cell BK174.out 1).trans rfl, (blk_cell BK174.out 2).trans rfl⟩ (fun hHeld => ?_)
      clear hK K
      refine norm_ (a' := ?_) ?_ ?_
      rotate_left
      · show Act.put _ (some 3) _ = _
        simp only [Act.put, PU, i64_w, i32_w]
        rfl
      exact norm_ (by first | (simp only [putAll, Act.put, PU]; done) | (simp only [putAll, Act.put, PU]; rfl)) (hJ1_2_3_4_5_6 (v200, v204, gb207) _ ⟨hHeld, (Kd.RA HO171.out), (Kd.RA HO201.out), (Kd.RA HO205.out), (BA BK174.out), (BA BK207.out), GW207.out, GE207.out, NB174_207.out, NB207_174.out, (LG HB.out (G1 GE174.out (G1 GE207.out G0)))⟩)
  rintro ⟨v200, v204, gb207⟩ w26 ⟨hS_, h0_, h1_, h2_, h3_, h4_, h5_, h6_, h7_, h8_, h9_⟩
  have n0_ : Aside0 (Kd.R k36 36 w26 w.heap.size (fun k_ => some k_ ≠ (v200 : Value).ownBlock ∧ some k_ ≠ (v204 : Value).ownBlock) (.slice Ao15 t169.length co15) t169) := ⟨h0_⟩
  have n1_ : Aside0 (Kd.R k36 36 w26 w.heap.size (fun k_ => some k_ ≠ (.slice Ao15 t169.length co15 : Value).ownBlock ∧ some k_ ≠ (v204 : Value).ownBlock) v200 y199) := ⟨h1_⟩
  have n2_ : Aside0 (Kd.R k36 36 w26 w.heap.size (fun k_ => some k_ ≠ (.slice Ao15 t169.length co15 : Value).ownBlock ∧ some k_ ≠ (v200 : Value).ownBlock) v204 t203) := ⟨h2_⟩
  have n3_ : Aside0 (w26.heap[gb174]? = some (.cells #[.int .i64 t168, .slice Ao15 t169.length co15, .int .i64 t172] 27 (0, 0))) := ⟨h3_⟩
  have n4_ : Aside0 (w26.heap[gb207]? = some (.cells #[.int .i64 0, .slice none 0 0, .int .i64 0] 27 (0, 0))) := ⟨h4_⟩
  have n5_ : Aside0 (w.heap.size ≤ gb207) := ⟨h5_⟩
  have n6_ : Aside0 (w.heap.size ≤ gb207) := ⟨h6_⟩
  have n7_ : Aside0 (gb174 ≠ gb207) := ⟨h7_⟩
  have n8_ : Aside0 (gb207 ≠ gb174) := ⟨h8_⟩
  have n9_ : Aside0 (Below w.heap.size w w26) := ⟨h9_⟩
  clear HO171
  clear BK174
  clear HB
  clear h0_ h1_ h2_ h3_ h4_ h5_ h6_ h7_ h8_ h9_
  have HO171 := n0_
  have HO201 := n1_
  have HO205 := n2_
  have BK174 := n3_
  have BK207 := n4_
  have GW207 := n5_
  have GE207 := n6_
  have NB174_207 := n7_
  have NB207_174 := n8_
  have HB := n9_
  clear n0_ n1_ n2_ n3_ n4_ n5_ n6_ n7_ n8_ n9_
  have hHeld : w26.cell? ⟨gb174, 0, none⟩ = some (.int .i64 t168) ∧ w26.cell? ⟨gb174, 1, none⟩ = some (.slice Ao15 t169.length co15) ∧ w26.cell? ⟨gb174, 2, none⟩ = some (.int .i64 t172) := hS_
  obtain ⟨Ao28, co28, eo28⟩ := Kd.R_slice HO205.out
  (first | subst eo28 | (injection eo28 with f1_ f2_ f3_; have f4_ := f1_.symm; have f5_ := f3_.symm; clear f1_ f2_ f3_; subst f4_; subst f5_))
  refine norm_ (a' := ?_) ?_ ?_
  rotate_left
  · simp only [putAll, Act.put, PU]
    rfl
  refine one_ (i := 7) (N := none) (tf 8 8) rfl rfl (one_of HT_.out (by kernel_rfl)) (by decide) (fun K hK => ?_)
  have hs27 : w26.cell? ⟨gb207, 0, none⟩ = some (.int .i64 0) := (blk_cell BK207.out 0).trans rfl
  have hfs27 := blk_frozen BK207.out 0
  have hns27_0 := NB174_207.out
  have hms27_0 := NB207_174.out
  have hs29 : w26.cell? ⟨gb207, 1, none⟩ = some (.slice none 0 0) := (blk_cell BK207.out 1).trans rfl
  have hfs29 := blk_frozen BK207.out 1
  have hns29_0 := NB174_207.out
  have hms29_0 := NB207_174.out
  have hs30 : w26.cell? ⟨gb207, 2, none⟩ = some (.int .i64 0) := (blk_cell BK207.out 2).trans rfl
  have hfs30 := blk_frozen BK207.out 2
  have hns30_0 := NB174_207.out
  have hms30_0 := NB207_174.out
  refine skip_ (w1 := ?_) (by rfl) rfl ?_ ?_
  rotate_left
  · go_simp
    rfl
  refine hK.out _ _ ⟨((cell_far (p := ⟨gb207, _, none⟩) NB174_207.out _).trans (((cell_far (p := ⟨gb207, _, none⟩) NB174_207.out _).trans (((cell_far (p := ⟨gb207, _, none⟩) NB174_207.out _).trans (hHeld.1)))))), ((cell_far (p := ⟨gb207, _, none⟩) NB174_207.out _).trans (((cell_far (p := ⟨gb207, _, none⟩) NB174_207.out _).trans (((cell_far (p := ⟨gb207, _, none⟩) NB174_207.out _).trans (hHeld.2.1)))))), ((cell_far (p := ⟨gb207, _, none⟩) NB174_207.out _).trans (((cell_far (p := ⟨gb207, _, none⟩) NB174_207.out _).trans (((cell_far (p := ⟨gb207, _, none⟩) NB174_207.out _).trans (hHeld.2.2))))))⟩ (fun hHeld => ?_)
  clear hK K
  refine done_ (done_of HT_.out (by kernel_rfl)) ?_
  have n0_ : Aside0 (Kd.R k36 36 (((w26.setCell ⟨gb207, 0, none⟩ (.int .i64 t202)).setCell ⟨gb207, 1, none⟩ (.slice Ao28 t203.length co28)).setCell ⟨gb207, 2, none⟩ (.int .i64 t206)) w.heap.size (fun k_ => some k_ ≠ (v200 : Value).ownBlock ∧ some k_ ≠ (.slice Ao28 t203.length co28 : Value).ownBlock) (.slice Ao15 t169.length co15) t169) := ⟨by (with_reducible repeat (first | apply Kd.R_alloc | apply Kd.R_drewN | apply Kd.R_drew)); exact Kd.R_mono (Kd.R_mv (g := gb207) (Kd.R_types HO171.out BK207.out (by decide)) (fun _ hk => hk.2)) (fun _ hk => ⟨hk.1.1, hk.1.2⟩)⟩
  have n1_ : Aside0 (Kd.R k36 36 (((w26.setCell ⟨gb207, 0, none⟩ (.int .i64 t202)).setCell ⟨gb207, 1, none⟩ (.slice Ao28 t203.length co28)).setCell ⟨gb207, 2, none⟩ (.int .i64 t206)) w.heap.size (fun k_ => some k_ ≠ (.slice Ao15 t169.length co15 : Value).ownBlock ∧ some k_ ≠ (.slice Ao28 t203.length co28 : Value).ownBlock) v200 y199) := ⟨by (with_reducible repeat (first | apply Kd.R_alloc | apply Kd.R_drewN | apply Kd.R_drew)); exact Kd.R_mono (Kd.R_mv (g := gb207) (Kd.R_types HO201.out BK207.out (by decide)) (fun _ hk => hk.2)) (fun _ hk => ⟨hk.1.1, hk.1.2⟩)⟩
  have n2_ : Aside0 (Kd.R k36 36 (((w26.setCell ⟨gb207, 0, none⟩ (.int .i64 t202)).setCell ⟨gb207, 1, none⟩ (.slice Ao28 t203.length co28)).setCell ⟨gb207, 2, none⟩ (.int .i64 t206)) w.heap.size (fun k_ => some k_ ≠ (.slice Ao15 t169.length co15 : Value).ownBlock ∧ some k_ ≠ (v200 : Value).ownBlock) (.slice Ao28 t203.length co28) t203) := ⟨by (with_reducible repeat (first | apply Kd.R_alloc | apply Kd.R_drewN | apply Kd.R_drew)); exact Kd.R_mono (Kd.R_mv (g := gb207) (Kd.R_types HO205.out BK207.out (by decide)) (fun _ hk => hk.2)) (fun _ hk => ⟨hk.1.1, hk.1.2⟩)⟩
  have n3_ : Aside0 ((((w26.setCell ⟨gb207, 0, none⟩ (.int .i64 t202)).setCell ⟨gb207, 1, none⟩ (.slice Ao28 t203.length co28)).setCell ⟨gb207, 2, none⟩ (.int .i64 t206)).heap[gb174]? = some (.cells #[.int .i64 t168, .slice Ao15 t169.length co15, .int .i64 t172] 27 (0, 0))) := ⟨by exact BF BK174.out NB174_207.out⟩
  have n4_ : Aside0 ((((w26.setCell ⟨gb207, 0, none⟩ (.int .i64 t202)).setCell ⟨gb207, 1, none⟩ (.slice Ao28 t203.length co28)).setCell ⟨gb207, 2, none⟩ (.int .i64 t206)).heap[gb207]? = some (.cells #[.int .i64 t202, .slice Ao28 t203.length co28, .int .i64 t206] 27 (0, 0))) := ⟨by exact BP BK207.out (by rfl)⟩
  have n5_ : Aside0 (Below w.heap.size w (((w26.setCell ⟨gb207, 0, none⟩ (.int .i64 t202)).setCell ⟨gb207, 1, none⟩ (.slice Ao28 t203.length co28)).setCell ⟨gb207, 2, none⟩ (.int .i64 t206))) := ⟨LG HB.out (G1 GE174.out (G1 GE207.out G0))⟩
  (try clear HO171)
  (try clear HO201)
  (try clear HO205)
  (try clear BK174)
  (try clear BK207)
  (try clear HB)
  generalize (((w26.setCell ⟨gb207, 0, none⟩ (.int .i64 t202)).setCell ⟨gb207, 1, none⟩ (.slice Ao28 t203.length co28)).setCell ⟨gb207, 2, none⟩ (.int .i64 t206)) = w31 at n0_ n1_ n2_ n3_ n4_ n5_ ⊢
  have HO171 := n0_
  have HO201 := n1_
  have HO205 := n2_
  have BK174 := n3_
  have BK207 := n4_
  have HB := n5_
  clear n0_ n1_ n2_ n3_ n4_ n5_
  have hnb32 := NB207_174.out
  have hnc32 := NB174_207.out
  have hcz33_0 : w31.cell? ⟨gb207, 0, none⟩ = some (.int .i64 t202) := (blk_cell BK207.out 0).trans rfl
  have hcz33_1 : w31.cell? ⟨gb207, 1, none⟩ = some (.slice Ao28 t203.length co28) := (blk_cell BK207.out 1).trans rfl
  have hcz33_2 : w31.cell? ⟨gb207, 2, none⟩ = some (.int .i64 t206) := (blk_cell BK207.out 2).trans rfl
  have hfz33_0 := blk_frozen BK207.out 0
  have hfz33_1 := blk_frozen BK207.out 1
  have hfz33_2 := blk_frozen BK207.out 2
  go_upto_region 8 with (first | ((with_reducible refine gate_callee (f := 13) rfl ?_); refine goesL_ (some 29) rfl rfl Try.func13 (by kernel_rfl) rfl #[.agg #[.int .i64 t202, .slice Ao28 t203.length co28, .int .i64 t206]] rfl (by (try simp only [List.map_toArray, List.map_cons, List.map_nil]); first | done | rfl | (simp only [List.length_drop, List.length_take]; rfl)) ?_; (with_reducible refine (feed_Read.calls t202 (fun k_ => some k_ = (.slice Ao28 t203.length co28 : Value).ownBlock) _ _ t203 t206 t208 t209 t212 t213 t214 t215 t216 t217 t218 t219 t220 t221 _ ?side1 A6.out).mono ?_); (case side1 => exact Kd.R_V (Kd.R_tight rfl (Kd.R_types (Kd.R_types (HO205.out) BK174.out (by decide)) BK207.out (by decide)))); rintro e w34 ⟨v210, rfl, ho0, hb⟩; refine ⟨_, rfl, ?_⟩; have HO211 := Aside0.mk (Kd.V_lower (Kd.V_mono (ok' := fun k_ => some k_ ≠ (.slice Ao15 t169.length co15 : Value).ownBlock ∧ some k_ ≠ (v200 : Value).ownBlock ∧ k_ ≠ gb174 ∧ k_ ≠ gb207) ho0 (fun k_ hk_ => ⟨Or.elim hk_ (fun hs_ => ((Kd.R_types (Kd.R_types (HO205.out) BK174.out (by decide)) BK207.out (by decide)).1 k_ hs_.symm).1.1.1) (fun hn_ => (Kd.fresh' (Kd.R_lt (Kd.RA HO171.out)) k_ hn_)), Or.elim hk_ (fun hs_ => ((Kd.R_types (Kd.R_types (HO205.out) BK174.out (by decide)) BK207.out (by decide)).1 k_ hs_.symm).1.1.2) (fun hn_ => (Kd.fresh' (Kd.R_lt (Kd.RA HO201.out)) k_ hn_)), Or.elim hk_ (fun hs_ => ((Kd.R_types (Kd.R_types (HO205.out) BK174.out (by decide)) BK207.out (by decide)).1 k_ hs_.symm).1.2) (fun hn_ => (Kd.freshB (g := gb174) (o := .cells #[.int .i64 t168, .slice Ao15 t169.length co15, .int .i64 t172] 27 (0, 0)) (BA BK174.out) k_ hn_)), Or.elim hk_ (fun hs_ => ((Kd.R_types (Kd.R_types (HO205.out) BK174.out (by decide)) BK207.out (by decide)).1 k_ hs_.symm).2) (fun hn_ => (Kd.freshB (g := gb207) (o := .cells #[.int .i64 t202, .slice Ao28 t203.length co28, .int .i64 t206] 27 (0, 0)) (BA BK207.out) k_ hn_))⟩)) (below_size (LA HB.out))); replace HO171 := Aside0.mk (Kd.R_below (Kd.RA HO171.out) hb); replace HO201 := Aside0.mk (Kd.R_below (Kd.RA HO201.out) hb); replace HO205 := Aside0.mk (Kd.R_below (Kd.RA HO205.out) hb); replace BK174 := Aside0.mk (blk_below (BA BK174.out) hb); replace BK207 := Aside0.mk (blk_below (BA BK207.out) hb); replace HB := Aside0.mk (below_step (LA HB.out) hb); (try clear hb); (try clear hb2); (try clear hk); (try clear hi); (try clear ho0)) | ((with_reducible refine gate_dst (N := 4) rfl ?_); (try (refine gate_guard (by rfl) ?_; dsimp only)); refine box_event ?hg (N := 4) ?hd (cs := #[.int .i64 0, .slice none 0 0, .int .i64 0]) (t := 27) ?hr ?_; (case hd => rfl); (case hg => rfl); (case hr => first | (go_simp; done) | (go_simp; rfl)); intro gb222 hg w35 hbox hb; replace HO171 := Aside0.mk (Kd.R_below (Kd.RA HO171.out) hb); replace HO201 := Aside0.mk (Kd.R_below (Kd.RA HO201.out) hb); replace HO205 := Aside0.mk (Kd.R_below (Kd.RA HO205.out) hb); replace HO211 := Aside0.mk (Kd.V_below (Kd.V_elderB (Kd.VA HO211.out) gb222 (Nat.le_of_eq hg.symm)) hb); have BK222 := Aside0.mk (hbox); have GE222 := Aside0.mk (ge1 hg (LA HB.out)); replace HB := Aside0.mk (below_step (LA HB.out) hb); have NB174_222 := Aside0.mk ((by rw [hg]; exact Nat.ne_of_lt (blk_lt (g := gb174) (o := .cells #[.int .i64 t168, .slice Ao15 t169.length co15, .int .i64 t172] 27 (0, 0)) (BA BK174.out)) : gb174 ≠ gb222)); have NB222_174 := Aside0.mk ((by rw [hg]; exact Nat.ne_of_gt (blk_lt (g := gb174) (o := .cells #[.int .i64 t168, .slice Ao15 t169.length co15, .int .i64 t172] 27 (0, 0)) (BA BK174.out)) : gb222 ≠ gb174)); replace BK174 := Aside0.mk (blk_below (BA BK174.out) hb); have NB207_222 := Aside0.mk ((by rw [hg]; exact Nat.ne_of_lt (blk_lt (g := gb207) (o := .cells #[.int .i64 t202, .slice Ao28 t203.length co28, .int .i64 t206] 27 (0, 0)) (BA BK207.out)) : gb207 ≠ gb222)); have NB222_207 := Aside0.mk ((by rw [hg]; exact Nat.ne_of_gt (blk_lt (g := gb207) (o := .cells #[.int .i64 t202, .slice Ao28 t203.length co28, .int .i64 t206] 27 (0, 0)) (BA BK207.out)) : gb222 ≠ gb207)); replace BK207 := Aside0.mk (blk_below (BA BK207.out) hb); clear hb hbox hg) | ((with_reducible refine gate_dst (N := 5) rfl ?_); (try (refine gate_guard (by rfl) ?_; dsimp only)); refine box_event ?hg (N := 5) ?hd (cs := #[.int .i64 0, .int .i64 0, .int .i64 0, .int .i64 0, .int .i64 0, .int .i64 0, .string (⟨#[]⟩ : ByteArray), .int .i64 0]) (t := 36) ?hr ?_; (case hd => rfl); (case hg => rfl); (case hr => first | (go_simp; done) | (go_simp; rfl)); intro gb223 hg w36 hbox hb; replace HO171 := Aside0.mk (Kd.R_below (Kd.R_elderB (Kd.RA HO171.out) gb223 (Nat.le_of_eq hg.symm)) hb); replace HO201 := Aside0.mk (Kd.R_below (Kd.R_elderB (Kd.RA HO201.out) gb223 (Nat.le_of_eq hg.symm)) hb); replace HO205 := Aside0.mk (Kd.R_below (Kd.R_elderB (Kd.RA HO205.out) gb223 (Nat.le_of_eq hg.symm)) hb); replace HO211 := Aside0.mk (Kd.V_below (Kd.V_elderB (Kd.VA HO211.out) gb223 (Nat.le_of_eq hg.symm)) hb); have BK223 := Aside0.mk (hbox); have GE223 := Aside0.mk (ge1 hg (LA HB.out)); replace HB := Aside0.mk (below_step (LA HB.out) hb); have NB174_223 := Aside0.mk ((by rw [hg]; exact Nat.ne_of_lt (blk_lt (g := gb174) (o := .cells #[.int .i64 t168, .slice Ao15 t169.length co15, .int .i64 t172] 27 (0, 0)) (BA BK174.out)) : gb174 ≠ gb223)); have NB223_174 := Aside0.mk ((by rw [hg]; exact Nat.ne_of_gt (blk_lt (g := gb174) (o := .cells #[.int .i64 t168, .slice Ao15 t169.length co15, .int .i64 t172] 27 (0, 0)) (BA BK174.out)) : gb223 ≠ gb174)); replace BK174 := Aside0.mk (blk_below (BA BK174.out) hb); have NB207_223 := Aside0.mk ((by rw [hg]; exact Nat.ne_of_lt (blk_lt (g := gb207) (o := .cells #[.int .i64 t202, .slice Ao28 t203.length co28, .int .i64 t206] 27 (0, 0)) (BA BK207.out)) : gb207 ≠ gb223)); have NB223_207 := Aside0.mk ((by rw [hg]; exact Nat.ne_of_gt (blk_lt (g := gb207) (o := .cells #[.int .i64 t202, .slice Ao28 t203.length co28, .int .i64 t206] 27 (0, 0)) (BA BK207.out)) : gb223 ≠ gb207)); replace BK207 := Aside0.mk (blk_below (BA BK207.out) hb); have NB222_223 := Aside0.mk ((by rw [hg]; exact Nat.ne_of_lt (blk_lt (g := gb222) (o := .cells #[.int .i64 0, .slice none 0 0, .int .i64 0] 27 (0, 0)) (BA BK222.out)) : gb222 ≠ gb223)); have NB223_222 := Aside0.mk ((by rw [hg]; exact Nat.ne_of_gt (blk_lt (g := gb222) (o := .cells #[.int .i64 0, .slice none 0 0, .int .i64 0] 27 (0, 0)) (BA BK222.out)) : gb223 ≠ gb222)); replace BK222 := Aside0.mk (blk_below (BA BK222.out) hb); clear hb hbox hg; have hnb37 := NB222_174.out; have hnc37 := NB174_222.out; have hnb38 := NB222_207.out; have hnc38 := NB207_222.out; have hnb39 := NB222_223.out; have hnc39 := NB223_222.out; obtain ⟨hcz40_0, hcz40_1, hcz40_2, hfz40_0, hfz40_1, hfz40_2⟩ := cz3 BK222.out; obtain ⟨Ao41, co41, eo41⟩ := Kd.V_slice HO211.out; subst eo41) | ((with_reducible refine gate_store (t := 27) (p := 4) rfl ?_); refine store_event (t := 27) (p := 4) (v := ?vo_w42) (w1 := (((w36.setCell ⟨gb222, 0, none⟩ (.int .i64 t208)).setCell ⟨gb222, 1, none⟩ (.slice Ao41 t209.length co41)).setCell ⟨gb222, 2, none⟩ (.int .i64 t212))) ?hg ?ho ?hn ?hr ?_; (case ho => rfl); (case hg => rfl); (case hn => rfl); (case hr => first | (go_simp; done) | (go_simp; rfl)); intro w42 hw; replace HO171 : Aside0 (Kd.R k36 36 w42 w.heap.size (fun k_ => some k_ ≠ (v200 : Value).ownBlock ∧ some k_ ≠ (.slice Ao28 t203.length co28 : Value).ownBlock ∧ k_ ≠ gb223) (.slice Ao15 t169.length co15) t169) := ⟨(by rw [hw]; exact (Kd.R_mono (Kd.R_mv (g := gb222) (Kd.R_types HO171.out BK222.out (by decide)) (fun _ hk => hk.2)) (fun _ hk => ⟨hk.1.1.1, ⟨hk.1.1.2, hk.1.2⟩⟩)))⟩; replace HO201 : Aside0 (Kd.R k36 36 w42 w.heap.size (fun k_ => some k_ ≠ (.slice Ao15 t169.length co15 : Value).ownBlock ∧ some k_ ≠ (.slice Ao28 t203.length co28 : Value).ownBlock ∧ k_ ≠ gb223) v200 y199) := ⟨(by rw [hw]; exact (Kd.R_mono (Kd.R_mv (g := gb222) (Kd.R_types HO201.out BK222.out (by decide)) (fun _ hk => hk.2)) (fun _ hk => ⟨hk.1.1.1, ⟨hk.1.1.2, hk.1.2⟩⟩)))⟩; replace HO205 : Aside0 (Kd.R k36 36 w42 w.heap.size (fun k_ => some k_ ≠ (.slice Ao15 t169.length co15 : Value).ownBlock ∧ some k_ ≠ (v200 : Value).ownBlock ∧ k_ ≠ gb223) (.slice Ao28 t203.length co28) t203) := ⟨(by rw [hw]; exact (Kd.R_mono (Kd.R_mv (g := gb222) (Kd.R_types HO205.out BK222.out (by decide)) (fun _ hk => hk.2)) (fun _ hk => ⟨hk.1.1.1, ⟨hk.1.1.2, hk.1.2⟩⟩)))⟩; replace HO211 : Aside0 (Kd.V k36 36 w42 w.heap.size (fun k_ => some k_ ≠ (.slice Ao15 t169.length co15 : Value).ownBlock ∧ some k_ ≠ (v200 : Value).ownBlock ∧ k_ ≠ gb174 ∧ k_ ≠ gb207 ∧ k_ ≠ gb222 ∧ k_ ≠ gb223) (.slice Ao41 t209.length co41) t209) := ⟨(by rw [hw]; exact (Kd.V_mono (Kd.V_mv (g := gb222) (Kd.V_mono HO211.out (fun k_ hk => (⟨hk, hk.1.2⟩ : _ ∧ k_ ≠ gb222))) (fun _ hk => hk.2)) (fun _ hk => ⟨hk.1.1.1.1, ⟨hk.1.1.1.2.1, ⟨hk.1.1.1.2.2.1, ⟨hk.1.1.1.2.2.2, ⟨hk.1.1.2, hk.1.2⟩⟩⟩⟩⟩)))⟩; replace BK174 : Aside0 (w42.heap[gb174]? = some (.cells #[.int .i64 t168, .slice Ao15 t169.length co15, .int .i64 t172] 27 (0, 0))) := ⟨(by rw [hw]; exact (BF BK174.out NB174_222.out))⟩; replace BK207 : Aside0 (w42.heap[gb207]? = some (.cells #[.int .i64 t202, .slice Ao28 t203.length co28, .int .i64 t206] 27 (0, 0))) := ⟨(by rw [hw]; exact (BF BK207.out NB207_222.out))⟩; replace BK222 : Aside0 (w42.heap[gb222]? = some (.cells #[.int .i64 t208, .slice Ao41 t209.length co41, .int .i64 t212] 27 (0, 0))) := ⟨(by rw [hw]; exact (BP BK222.out (by rfl)))⟩; replace BK223 : Aside0 (w42.heap[gb223]? = some (.cells #[.int .i64 0, .int .i64 0, .int .i64 0, .int .i64 0, .int .i64 0, .int .i64 0, .string (⟨#[]⟩ : ByteArray), .int .i64 0] 36 (0, 0))) := ⟨(by rw [hw]; exact (BF BK223.out NB223_222.out))⟩; replace HB : Aside0 (Below w.heap.size w w42) := ⟨(by rw [hw]; exact (LG HB.out (G1 GE222.out G0)))⟩; clear hw; have hnb43 := NB223_174.out; have hnc43 := NB174_223.out; have hnb44 := NB223_207.out; have hnc44 := NB207_223.out; obtain ⟨hcz45_0, hcz45_1, hcz45_2, hcz45_3, hcz45_4, hcz45_5, hcz45_6, hcz45_7, hfz45_0, hfz45_1, hfz45_2, hfz45_3, hfz45_4, hfz45_5, hfz45_6, hfz45_7⟩ := cz8 BK223.out) | ((with_reducible refine gate_store (t := 36) (p := 5) rfl ?_); refine store_event (t := 36) (p := 5) (v := ?vo_w46) (w1 := ((((((((w42.setCell ⟨gb223, 0, none⟩ (.int .i64 t213)).setCell ⟨gb223, 1, none⟩ (.int .i64 t214)).setCell ⟨gb223, 2, none⟩ (.int .i64 t215)).setCell ⟨gb223, 3, none⟩ (.int .i64 t216)).setCell ⟨gb223, 4, none⟩ (.int .i64 t217)).setCell ⟨gb223, 5, none⟩ (.int .i64 t218)).setCell ⟨gb223, 6, none⟩ (.string t219)).setCell ⟨gb223, 7, none⟩ (.int .i64 t220))) ?hg ?ho ?hn ?hr ?_; (case ho => rfl); (case hg => rfl); (case hn => rfl); (case hr => first | (go_simp; done) | (go_simp; rfl)); intro w46 hw; replace HO171 : Aside0 (Kd.R k36 36 w46 w.heap.size (fun k_ => some k_ ≠ (v200 : Value).ownBlock ∧ some k_ ≠ (.slice Ao28 t203.length co28 : Value).ownBlock ∧ k_ ≠ gb223) (.slice Ao15 t169.length co15) t169) := ⟨(by rw [hw]; exact (Kd.R_mono (Kd.R_mv (g := gb223) (Kd.R_mono HO171.out (fun k_ hk => (⟨hk, hk.2.2⟩ : _ ∧ k_ ≠ gb223))) (fun _ hk => hk.2)) (fun _ hk => ⟨hk.1.1, ⟨hk.1.2.1, hk.1.2.2⟩⟩)))⟩; replace HO201 : Aside0 (Kd.R k36 36 w46 w.heap.size (fun k_ => some k_ ≠ (.slice Ao15 t169.length co15 : Value).ownBlock ∧ some k_ ≠ (.slice Ao28 t203.length co28 : Value).ownBlock ∧ k_ ≠ gb223) v200 y199) := ⟨(by rw [hw]; exact (Kd.R_mono (Kd.R_mv (g := gb223) (Kd.R_mono HO201.out (fun k_ hk => (⟨hk, hk.2.2⟩ : _ ∧ k_ ≠ gb223))) (fun _ hk => hk.2)) (fun _ hk => ⟨hk.1.1, ⟨hk.1.2.1, hk.1.2.2⟩⟩)))⟩; replace HO205 : Aside0 (Kd.R k36 36 w46 w.heap.size (fun k_ => some k_ ≠ (.slice Ao15 t169.length co15 : Value).ownBlock ∧ some k_ ≠ (v200 : Value).ownBlock ∧ k_ ≠ gb223) (.slice Ao28 t203.length co28) t203) := ⟨(by rw [hw]; exact (Kd.R_mono (Kd.R_mv (g := gb223) (Kd.R_mono HO205.out (fun k_ hk => (⟨hk, hk.2.2⟩ : _ ∧ k_ ≠ gb223))) (fun _ hk => hk.2)) (fun _ hk => ⟨hk.1.1, ⟨hk.1.2.1, hk.1.2.2⟩⟩)))⟩; replace HO211 : Aside0 (Kd.V k36 36 w46 w.heap.size (fun k_ => some k_ ≠ (.slice Ao15 t169.length co15 : Value).ownBlock ∧ some k_ ≠ (v200 : Value).ownBlock ∧ k_ ≠ gb174 ∧ k_ ≠ gb207 ∧ k_ ≠ gb222 ∧ k_ ≠ gb223) (.slice Ao41 t209.length co41) t209) := ⟨(by rw [hw]; exact (Kd.V_mono (Kd.V_mv (g := gb223) (Kd.V_mono HO211.out (fun k_ hk => (⟨hk, hk.2.2.2.2.2⟩ : _ ∧ k_ ≠ gb223))) (fun _ hk => hk.2)) (fun _ hk => ⟨hk.1.1, ⟨hk.1.2.1, ⟨hk.1.2.2.1, ⟨hk.1.2.2.2.1, ⟨hk.1.2.2.2.2.1, hk.1.2.2.2.2.2⟩⟩⟩⟩⟩)))⟩; replace BK174 : Aside0 (w46.heap[gb174]? = some (.cells #[.int .i64 t168, .slice Ao15 t169.length co15, .int .i64 t172] 27 (0, 0))) := ⟨(by rw [hw]; exact (BF BK174.out NB174_223.out))⟩; replace BK207 : Aside0 (w46.heap[gb207]? = some (.cells #[.int .i64 t202, .slice Ao28 t203.length co28, .int .i64 t206] 27 (0, 0))) := ⟨(by rw [hw]; exact (BF BK207.out NB207_223.out))⟩; replace BK222 : Aside0 (w46.heap[gb222]? = some (.cells #[.int .i64 t208, .slice Ao41 t209.length co41, .int .i64 t212] 27 (0, 0))) := ⟨(by rw [hw]; exact (BF BK222.out NB222_223.out))⟩; replace BK223 : Aside0 (w46.heap[gb223]? = some (.cells #[.int .i64 t213, .int .i64 t214, .int .i64 t215, .int .i64 t216, .int .i64 t217, .int .i64 t218, .string t219, .int .i64 t220] 36 (0, 0))) := ⟨(by rw [hw]; exact (BP BK223.out (by rfl)))⟩; replace HB : Aside0 (Below w.heap.size w w46) := ⟨(by rw [hw]; exact (LG HB.out (G1 GE223.out G0)))⟩; clear hw; obtain ⟨hcz47_0, hcz47_1, hcz47_2, hfz47_0, hfz47_1, hfz47_2⟩ := cz3 BK222.out) | ((with_reducible refine gate_callee (f := 13) rfl ?_); refine goesL_ (some 35) rfl rfl Try.func13 (by kernel_rfl) rfl #[.agg #[.int .i64 t208, .slice Ao41 t209.length co41, .int .i64 t212]] rfl (by (try simp only [List.map_toArray, List.map_cons, List.map_nil]); first | done | rfl | (simp only [List.length_drop, List.length_take]; rfl)) ?_; (with_reducible refine (feed_Read.calls t208 (fun k_ => (some k_ ≠ (.slice Ao15 t169.length co15 : Value).ownBlock ∧ (some k_ ≠ (v200 : Value).ownBlock ∧ (k_ ≠ gb174 ∧ (k_ ≠ gb207 ∧ (k_ ≠ gb222 ∧ k_ ≠ gb223)))))) _ _ t209 t212 t224 t225 t228 t229 t230 t231 t232 t233 t234 t235 t236 t237 _ ?side1 A7.out).mono ?_); (case side1 => exact HO211.out); rintro e w48 ⟨v226, rfl, ho0, hb⟩; refine ⟨_, rfl, ?_⟩; replace HO205 := Aside0.mk (Kd.R_below (Kd.RA HO205.out) hb); replace HO211 := Aside0.mk (Kd.V_below (Kd.VA HO211.out) hb); have HO227 := Aside0.mk (Kd.V_lower (Kd.V_mono (ok' := fun k_ => some k_ ≠ (.slice Ao15 t169.length co15 : Value).ownBlock ∧ some k_ ≠ (v200 : Value).ownBlock ∧ k_ ≠ gb174 ∧ k_ ≠ gb207 ∧ k_ ≠ gb222 ∧ k_ ≠ gb223) ho0 (fun k_ hk_ => ⟨Or.elim hk_ (fun hs_ => hs_.1) (fun hn_ => (Kd.fresh' (Kd.R_lt (Kd.RA HO171.out)) k_ hn_)), Or.elim hk_ (fun hs_ => hs_.2.1) (fun hn_ => (Kd.fresh' (Kd.R_lt (Kd.RA HO201.out)) k_ hn_)), Or.elim hk_ (fun hs_ => hs_.2.2.1) (fun hn_ => (Kd.freshB (g := gb174) (o := .cells #[.int .i64 t168, .slice Ao15 t169.length co15, .int .i64 t172] 27 (0, 0)) (BA BK174.out) k_ hn_)), Or.elim hk_ (fun hs_ => hs_.2.2.2.1) (fun hn_ => (Kd.freshB (g := gb207) (o := .cells #[.int .i64 t202, .slice Ao28 t203.length co28, .int .i64 t206] 27 (0, 0)) (BA BK207.out) k_ hn_)), Or.elim hk_ (fun hs_ => hs_.2.2.2.2.1) (fun hn_ => (Kd.freshB (g := gb222) (o := .cells #[.int .i64 t208, .slice Ao41 t209.length co41, .int .i64 t212] 27 (0, 0)) (BA BK222.out) k_ hn_)), Or.elim hk_ (fun hs_ => hs_.2.2.2.2.2) (fun hn_ => (Kd.freshB (g := gb223) (o := .cells #[.int .i64 t213, .int .i64 t214, .int .i64 t215, .int .i64 t216, .int .i64 t217, .int .i64 t218, .string t219, .int .i64 t220] 36 (0, 0)) (BA BK223.out) k_ hn_))⟩)) (below_size (LA HB.out))); replace HO171 := Aside0.mk (Kd.R_below (Kd.RA HO171.out) hb); replace HO201 := Aside0.mk (Kd.R_below (Kd.RA HO201.out) hb); replace BK174 := Aside0.mk (blk_below (BA BK174.out) hb); replace BK207 := Aside0.mk (blk_below (BA BK207.out) hb); replace BK222 := Aside0.mk (blk_below (BA BK222.out) hb); replace BK223 := Aside0.mk (blk_below (BA BK223.out) hb); replace HB := Aside0.mk (below_step (LA HB.out) hb); (try clear hb); (try clear hb2); (try clear hk); (try clear hi); (try clear ho0)) | ((with_reducible refine gate_dst (N := 7) rfl ?_); (try (refine gate_guard (by rfl) ?_; dsimp only)); refine box_event ?hg (N := 7) ?hd (cs := #[.int .i64 0, .slice none 0 0, .int .i64 0]) (t := 27) ?hr ?_; (case hd => rfl); (case hg => rfl); (case hr => first | (go_simp; done) | (go_simp; rfl)); intro gb238 hg w49 hbox hb; replace HO171 := Aside0.mk (Kd.R_below (Kd.RA HO171.out) hb); replace HO201 := Aside0.mk (Kd.R_below (Kd.RA HO201.out) hb); replace HO205 := Aside0.mk (Kd.R_below (Kd.RA HO205.out) hb); replace HO211 := Aside0.mk (Kd.V_below (Kd.V_elderB (Kd.VA HO211.out) gb238 (Nat.le_of_eq hg.symm)) hb); replace HO227 := Aside0.mk (Kd.V_below (Kd.V_elderB (Kd.VA HO227.out) gb238 (Nat.le_of_eq hg.symm)) hb); have BK238 := Aside0.mk (hbox); have GE238 := Aside0.mk (ge1 hg (LA HB.out)); replace HB := Aside0.mk (below_step (LA HB.out) hb); have NB174_238 := Aside0.mk ((by rw [hg]; exact Nat.ne_of_lt (blk_lt (g := gb174) (o := .cells #[.int .i64 t168, .slice Ao15 t169.length co15, .int .i64 t172] 27 (0, 0)) (BA BK174.out)) : gb174 ≠ gb238)); have NB238_174 := Aside0.mk ((by rw [hg]; exact Nat.ne_of_gt (blk_lt (g := gb174) (o := .cells #[.int .i64 t168, .slice Ao15 t169.length co15, .int .i64 t172] 27 (0, 0)) (BA BK174.out)) : gb238 ≠ gb174)); replace BK174 := Aside0.mk (blk_below (BA BK174.out) hb); have NB207_238 := Aside0.mk ((by rw [hg]; exact Nat.ne_of_lt (blk_lt (g := gb207) (o := .cells #[.int .i64 t202, .slice Ao28 t203.length co28, .int .i64 t206] 27 (0, 0)) (BA BK207.out)) : gb207 ≠ gb238)); have NB238_207 := Aside0.mk ((by rw [hg]; exact Nat.ne_of_gt (blk_lt (g := gb207) (o := .cells #[.int .i64 t202, .slice Ao28 t203.length co28, .int .i64 t206] 27 (0, 0)) (BA BK207.out)) : gb238 ≠ gb207)); replace BK207 := Aside0.mk (blk_below (BA BK207.out) hb); have NB222_238 := Aside0.mk ((by rw [hg]; exact Nat.ne_of_lt (blk_lt (g := gb222) (o := .cells #[.int .i64 t208, .slice Ao41 t209.length co41, .int .i64 t212] 27 (0, 0)) (BA BK222.out)) : gb222 ≠ gb238)); have NB238_222 := Aside0.mk ((by rw [hg]; exact Nat.ne_of_gt (blk_lt (g := gb222) (o := .cells #[.int .i64 t208, .slice Ao41 t209.length co41, .int .i64 t212] 27 (0, 0)) (BA BK222.out)) : gb238 ≠ gb222)); replace BK222 := Aside0.mk (blk_below (BA BK222.out) hb); have NB223_238 := Aside0.mk ((by rw [hg]; exact Nat.ne_of_lt (blk_lt (g := gb223) (o := .cells #[.int .i64 t213, .int .i64 t214, .int .i64 t215, .int .i64 t216, .int .i64 t217, .int .i64 t218, .string t219, .int .i64 t220] 36 (0, 0)) (BA BK223.out)) : gb223 ≠ gb238)); have NB238_223 := Aside0.mk ((by rw [hg]; exact Nat.ne_of_gt (blk_lt (g := gb223) (o := .cells #[.int .i64 t213, .int .i64 t214, .int .i64 t215, .int .i64 t216, .int .i64 t217, .int .i64 t218, .string t219, .int .i64 t220] 36 (0, 0)) (BA BK223.out)) : gb238 ≠ gb223)); replace BK223 := Aside0.mk (blk_below (BA BK223.out) hb); clear hb hbox hg) | ((with_reducible refine gate_dst (N := 8) rfl ?_); (try (refine gate_guard (by rfl) ?_; dsimp only)); refine box_event ?hg (N := 8) ?hd (cs := #[.int .i64 0, .int .i64 0, .int .i64 0, .int .i64 0, .int .i64 0, .int .i64 0, .string (⟨#[]⟩ : ByteArray), .int .i64 0]) (t := 36) ?hr ?_; (case hd => rfl); (case hg => rfl); (case hr => first | (go_simp; done) | (go_simp; rfl)); intro gb239 hg w50 hbox hb; replace HO171 := Aside0.mk (Kd.R_below (Kd.R_elderB (Kd.RA HO171.out) gb239 (Nat.le_of_eq hg.symm)) hb); replace HO201 := Aside0.mk (Kd.R_below (Kd.R_elderB (Kd.RA HO201.out) gb239 (Nat.le_of_eq hg.symm)) hb); replace HO205 := Aside0.mk (Kd.R_below (Kd.R_elderB (Kd.RA HO205.out) gb239 (Nat.le_of_eq hg.symm)) hb); replace HO211 := Aside0.mk (Kd.V_below (Kd.V_elderB (Kd.VA HO211.out) gb239 (Nat.le_of_eq hg.symm)) hb); replace HO227 := Aside0.mk (Kd.V_below (Kd.V_elderB (Kd.VA HO227.out) gb239 (Nat.le_of_eq hg.symm)) hb); have BK239 := Aside0.mk (hbox); have GE239 := Aside0.mk (ge1 hg (LA HB.out)); replace HB := Aside0.mk (below_step (LA HB.out) hb); have NB174_239 := Aside0.mk ((by rw [hg]; exact Nat.ne_of_lt (blk_lt (g := gb174) (o := .cells #[.int .i64 t168, .slice Ao15 t169.length co15, .int .i64 t172] 27 (0, 0)) (BA BK174.out)) : gb174 ≠ gb239)); have NB239_174 := Aside0.mk ((by rw [hg]; exact Nat.ne_of_gt (blk_lt (g := gb174) (o := .cells #[.int .i64 t168, .slice Ao15 t169.length co15, .int .i64 t172] 27 (0, 0)) (BA BK174.out)) : gb239 ≠ gb174)); replace BK174 := Aside0.mk (blk_below (BA BK174.out) hb); have NB207_239 := Aside0.mk ((by rw [hg]; exact Nat.ne_of_lt (blk_lt (g := gb207) (o := .cells #[.int .i64 t202, .slice Ao28 t203.length co28, .int .i64 t206] 27 (0, 0)) (BA BK207.out)) : gb207 ≠ gb239)); have NB239_207 := Aside0.mk ((by rw [hg]; exact Nat.ne_of_gt (blk_lt (g := gb207) (o := .cells #[.int .i64 t202, .slice Ao28 t203.length co28, .int .i64 t206] 27 (0, 0)) (BA BK207.out)) : gb239 ≠ gb207)); replace BK207 := Aside0.mk (blk_below (BA BK207.out) hb); have NB222_239 := Aside0.mk ((by rw [hg]; exact Nat.ne_of_lt (blk_lt (g := gb222) (o := .cells #[.int .i64 t208, .slice Ao41 t209.length co41, .int .i64 t212] 27 (0, 0)) (BA BK222.out)) : gb222 ≠ gb239)); have NB239_222 := Aside0.mk ((by rw [hg]; exact Nat.ne_of_gt (blk_lt (g := gb222) (o := .cells #[.int .i64 t208, .slice Ao41 t209.length co41, .int .i64 t212] 27 (0, 0)) (BA BK222.out)) : gb239 ≠ gb222)); replace BK222 := Aside0.mk (blk_below (BA BK222.out) hb); have NB223_239 := Aside0.mk ((by rw [hg]; exact Nat.ne_of_lt (blk_lt (g := gb223) (o := .cells #[.int .i64 t213, .int .i64 t214, .int .i64 t215, .int .i64 t216, .int .i64 t217, .int .i64 t218, .string t219, .int .i64 t220] 36 (0, 0)) (BA BK223.out)) : gb223 ≠ gb239)); have NB239_223 := Aside0.mk ((by rw [hg]; exact Nat.ne_of_gt (blk_lt (g := gb223) (o := .cells #[.int .i64 t213, .int .i64 t214, .int .i64 t215, .int .i64 t216, .int .i64 t217, .int .i64 t218, .string t219, .int .i64 t220] 36 (0, 0)) (BA BK223.out)) : gb239 ≠ gb223)); replace BK223 := Aside0.mk (blk_below (BA BK223.out) hb); have NB238_239 := Aside0.mk ((by rw [hg]; exact Nat.ne_of_lt (blk_lt (g := gb238) (o := .cells #[.int .i64 0, .slice none 0 0, .int .i64 0] 27 (0, 0)) (BA BK238.out)) : gb238 ≠ gb239)); have NB239_238 := Aside0.mk ((by rw [hg]; exact Nat.ne_of_gt (blk_lt (g := gb238) (o := .cells #[.int .i64 0, .slice none 0 0, .int .i64 0] 27 (0, 0)) (BA BK238.out)) : gb239 ≠ gb238)); replace BK238 := Aside0.mk (blk_below (BA BK238.out) hb); clear hb hbox hg; have hnb51 := NB238_174.out; have hnc51 := NB174_238.out; have hnb52 := NB238_207.out; have hnc52 := NB207_238.out; have hnb53 := NB238_222.out; have hnc53 := NB222_238.out; have hnb54 := NB238_223.out; have hnc54 := NB223_238.out; have hnb55 := NB238_239.out; have hnc55 := NB239_238.out; obtain ⟨hcz56_0, hcz56_1, hcz56_2, hfz56_0, hfz56_1, hfz56_2⟩ := cz3 BK238.out; obtain ⟨Ao57, co57, eo57⟩ := Kd.V_slice HO227.out; subst eo57) | ((with_reducible refine gate_store (t := 27) (p := 7) rfl ?_); refine store_event (t := 27) (p := 7) (v := ?vo_w58) (w1 := (((w50.setCell ⟨gb238, 0, none⟩ (.int .i64 t224)).setCell ⟨gb238, 1, none⟩ (.slice Ao57 t225.length co57)).setCell ⟨gb238, 2, none⟩ (.int .i64 t228))) ?hg ?ho ?hn ?hr ?_; (case ho => rfl); (case hg => rfl); (case hn => rfl); (case hr => first | (go_simp; done) | (go_simp; rfl)); intro w58 hw; replace HO171 : Aside0 (Kd.R k36 36 w58 w.heap.size (fun k_ => some k_ ≠ (v200 : Value).ownBlock ∧ some k_ ≠ (.slice Ao28 t203.length co28 : Value).ownBlock ∧ k_ ≠ gb223 ∧ k_ ≠ gb239) (.slice Ao15 t169.length co15) t169) := ⟨(by rw [hw]; exact (Kd.R_mono (Kd.R_mv (g := gb238) (Kd.R_types HO171.out BK238.out (by decide)) (fun _ hk => hk.2)) (fun _ hk => ⟨hk.1.1.1, ⟨hk.1.1.2.1, ⟨hk.1.1.2.2, hk.1.2⟩⟩⟩)))⟩; replace HO201 : Aside0 (Kd.R k36 36 w58 w.heap.size (fun k_ => some k_ ≠ (.slice Ao15 t169.length co15 : Value).ownBlock ∧ some k_ ≠ (.slice Ao28 t203.length co28 : Value).ownBlock ∧ k_ ≠ gb223 ∧ k_ ≠ gb239) v200 y199) := ⟨(by rw [hw]; exact (Kd.R_mono (Kd.R_mv (g := gb238) (Kd.R_types HO201.out BK238.out (by decide)) (fun _ hk => hk.2)) (fun _ hk => ⟨hk.1.1.1, ⟨hk.1.1.2.1, ⟨hk.1.1.2.2, hk.1.2⟩⟩⟩)))⟩; replace HO205 : Aside0 (Kd.R k36 36 w58 w.heap.size (fun k_ => some k_ ≠ (.slice Ao15 t169.length co15 : Value).ownBlock ∧ some k_ ≠ (v200 : Value).ownBlock ∧ k_ ≠ gb223 ∧ k_ ≠ gb239) (.slice Ao28 t203.length co28) t203) := ⟨(by rw [hw]; exact (Kd.R_mono (Kd.R_mv (g := gb238) (Kd.R_types HO205.out BK238.out (by decide)) (fun _ hk => hk.2)) (fun _ hk => ⟨hk.1.1.1, ⟨hk.1.1.2.1, ⟨hk.1.1.2.2, hk.1.2⟩⟩⟩)))⟩; replace HO211 : Aside0 (Kd.V k36 36 w58 w.heap.size (fun k_ => some k_ ≠ (.slice Ao15 t169.length co15 : Value).ownBlock ∧ some k_ ≠ (v200 : Value).ownBlock ∧ k_ ≠ gb174 ∧ k_ ≠ gb207 ∧ k_ ≠ gb222 ∧ k_ ≠ gb223 ∧ k_ ≠ gb238 ∧ k_ ≠ gb239) (.slice Ao41 t209.length co41) t209) := ⟨(by rw [hw]; exact (Kd.V_mono (Kd.V_mv (g := gb238) (Kd.V_mono HO211.out (fun k_ hk => (⟨hk, hk.1.2⟩ : _ ∧ k_ ≠ gb238))) (fun _ hk => hk.2)) (fun _ hk => ⟨hk.1.1.1.1, ⟨hk.1.1.1.2.1, ⟨hk.1.1.1.2.2.1, ⟨hk.1.1.1.2.2.2.1, ⟨hk.1.1.1.2.2.2.2.1, ⟨hk.1.1.1.2.2.2.2.2, ⟨hk.1.1.2, hk.1.2⟩⟩⟩⟩⟩⟩⟩)))⟩; replace HO227 : Aside0 (Kd.V k36 36 w58 w.heap.size (fun k_ => some k_ ≠ (.slice Ao15 t169.length co15 : Value).ownBlock ∧ some k_ ≠ (v200 : Value).ownBlock ∧ k_ ≠ gb174 ∧ k_ ≠ gb207 ∧ k_ ≠ gb222 ∧ k_ ≠ gb223 ∧ k_ ≠ gb238 ∧ k_ ≠ gb239) (.slice Ao57 t225.length co57) t225) := ⟨(by rw [hw]; exact (Kd.V_mono (Kd.V_mv (g := gb238) (Kd.V_mono HO227.out (fun k_ hk => (⟨hk, hk.1.2⟩ : _ ∧ k_ ≠ gb238))) (fun _ hk => hk.2)) (fun _ hk => ⟨hk.1.1.1.1, ⟨hk.1.1.1.2.1, ⟨hk.1.1.1.2.2.1, ⟨hk.1.1.1.2.2.2.1, ⟨hk.1.1.1.2.2.2.2.1, ⟨hk.1.1.1.2.2.2.2.2, ⟨hk.1.1.2, hk.1.2⟩⟩⟩⟩⟩⟩⟩)))⟩; replace BK174 : Aside0 (w58.heap[gb174]? = some (.cells #[.int .i64 t168, .slice Ao15 t169.length co15, .int .i64 t172] 27 (0, 0))) := ⟨(by rw [hw]; exact (BF BK174.out NB174_238.out))⟩; replace BK207 : Aside0 (w58.heap[gb207]? = some (.cells #[.int .i64 t202, .slice Ao28 t203.length co28, .int .i64 t206] 27 (0, 0))) := ⟨(by rw [hw]; exact (BF BK207.out NB207_238.out))⟩; replace BK222 : Aside0 (w58.heap[gb222]? = some (.cells #[.int .i64 t208, .slice Ao41 t209.length co41, .int .i64 t212] 27 (0, 0))) := ⟨(by rw [hw]; exact (BF BK222.out NB222_238.out))⟩; replace BK223 : Aside0 (w58.heap[gb223]? = some (.cells #[.int .i64 t213, .int .i64 t214, .int .i64 t215, .int .i64 t216, .int .i64 t217, .int .i64 t218, .string t219, .int .i64 t220] 36 (0, 0))) := ⟨(by rw [hw]; exact (BF BK223.out NB223_238.out))⟩; replace BK238 : Aside0 (w58.heap[gb238]? = some (.cells #[.int .i64 t224, .slice Ao57 t225.length co57, .int .i64 t228] 27 (0, 0))) := ⟨(by rw [hw]; exact (BP BK238.out (by rfl)))⟩; replace BK239 : Aside0 (w58.heap[gb239]? = some (.cells #[.int .i64 0, .int .i64 0, .int .i64 0, .int .i64 0, .int .i64 0, .int .i64 0, .string (⟨#[]⟩ : ByteArray), .int .i64 0] 36 (0, 0))) := ⟨(by rw [hw]; exact (BF BK239.out NB239_238.out))⟩; replace HB : Aside0 (Below w.heap.size w w58) := ⟨(by rw [hw]; exact (LG HB.out (G1 GE238.out G0)))⟩; clear hw; have hnb59 := NB239_174.out; have hnc59 := NB174_239.out; have hnb60 := NB239_207.out; have hnc60 := NB207_239.out; have hnb61 := NB239_222.out; have hnc61 := NB222_239.out; have hnb62 := NB239_223.out; have hnc62 := NB223_239.out; obtain ⟨hcz63_0, hcz63_1, hcz63_2, hcz63_3, hcz63_4, hcz63_5, hcz63_6, hcz63_7, hfz63_0, hfz63_1, hfz63_2, hfz63_3, hfz63_4, hfz63_5, hfz63_6, hfz63_7⟩ := cz8 BK239.out) | ((with_reducible refine gate_store (t := 36) (p := 8) rfl ?_); refine store_event (t := 36) (p := 8) (v := ?vo_w64) (w1 := ((((((((w58.setCell ⟨gb239, 0, none⟩ (.int .i64 t229)).setCell ⟨gb239, 1, none⟩ (.int .i64 t230)).setCell ⟨gb239, 2, none⟩ (.int .i64 t231)).setCell ⟨gb239, 3, none⟩ (.int .i64 t232)).setCell ⟨gb239, 4, none⟩ (.int .i64 t233)).setCell ⟨gb239, 5, none⟩ (.int .i64 t234)).setCell ⟨gb239, 6, none⟩ (.string t235)).setCell ⟨gb239, 7, none⟩ (.int .i64 t236))) ?hg ?ho ?hn ?hr ?_; (case ho => rfl); (case hg => rfl); (case hn => rfl); (case hr => first | (go_simp; done) | (go_simp; rfl)); intro w64 hw; replace HO171 : Aside0 (Kd.R k36 36 w64 w.heap.size (fun k_ => some k_ ≠ (v200 : Value).ownBlock ∧ some k_ ≠ (.slice Ao28 t203.length co28 : Value).ownBlock ∧ k_ ≠ gb223 ∧ k_ ≠ gb239) (.slice Ao15 t169.length co15) t169) := ⟨(by rw [hw]; exact (Kd.R_mono (Kd.R_mv (g := gb239) (Kd.R_mono HO171.out (fun k_ hk => (⟨hk, hk.2.2.2⟩ : _ ∧ k_ ≠ gb239))) (fun _ hk => hk.2)) (fun _ hk => ⟨hk.1.1, ⟨hk.1.2.1, ⟨hk.1.2.2.1, hk.1.2.2.2⟩⟩⟩)))⟩; replace HO201 : Aside0 (Kd.R k36 36 w64 w.heap.size (fun k_ => some k_ ≠ (.slice Ao15 t169.length co15 : Value).ownBlock ∧ some k_ ≠ (.slice Ao28 t203.length co28 : Value).ownBlock ∧ k_ ≠ gb223 ∧ k_ ≠ gb239) v200 y199) := ⟨(by rw [hw]; exact (Kd.R_mono (Kd.R_mv (g := gb239) (Kd.R_mono HO201.out (fun k_ hk => (⟨hk, hk.2.2.2⟩ : _ ∧ k_ ≠ gb239))) (fun _ hk => hk.2)) (fun _ hk => ⟨hk.1.1, ⟨hk.1.2.1, ⟨hk.1.2.2.1, hk.1.2.2.2⟩⟩⟩)))⟩; replace HO205 : Aside0 (Kd.R k36 36 w64 w.heap.size (fun k_ => some k_ ≠ (.slice Ao15 t169.length co15 : Value).ownBlock ∧ some k_ ≠ (v200 : Value).ownBlock ∧ k_ ≠ gb223 ∧ k_ ≠ gb239) (.slice Ao28 t203.length co28) t203) := ⟨(by rw [hw]; exact (Kd.R_mono (Kd.R_mv (g := gb239) (Kd.R_mono HO205.out (fun k_ hk => (⟨hk, hk.2.2.2⟩ : _ ∧ k_ ≠ gb239))) (fun _ hk => hk.2)) (fun _ hk => ⟨hk.1.1, ⟨hk.1.2.1, ⟨hk.1.2.2.1, hk.1.2.2.2⟩⟩⟩)))⟩; replace HO211 : Aside0 (Kd.V k36 36 w64 w.heap.size (fun k_ => some k_ ≠ (.slice Ao15 t169.length co15 : Value).ownBlock ∧ some k_ ≠ (v200 : Value).ownBlock ∧ k_ ≠ gb174 ∧ k_ ≠ gb207 ∧ k_ ≠ gb222 ∧ k_ ≠ gb223 ∧ k_ ≠ gb238 ∧ k_ ≠ gb239) (.slice Ao41 t209.length co41) t209) := ⟨(by rw [hw]; exact (Kd.V_mono (Kd.V_mv (g := gb239) (Kd.V_mono HO211.out (fun k_ hk => (⟨hk, hk.2.2.2.2.2.2.2⟩ : _ ∧ k_ ≠ gb239))) (fun _ hk => hk.2)) (fun _ hk => ⟨hk.1.1, ⟨hk.1.2.1, ⟨hk.1.2.2.1, ⟨hk.1.2.2.2.1, ⟨hk.1.2.2.2.2.1, ⟨hk.1.2.2.2.2.2.1, ⟨hk.1.2.2.2.2.2.2.1, hk.1.2.2.2.2.2.2.2⟩⟩⟩⟩⟩⟩⟩)))⟩; replace HO227 : Aside0 (Kd.V k36 36 w64 w.heap.size (fun k_ => some k_ ≠ (.slice Ao15 t169.length co15 : Value).ownBlock ∧ some k_ ≠ (v200 : Value).ownBlock ∧ k_ ≠ gb174 ∧ k_ ≠ gb207 ∧ k_ ≠ gb222 ∧ k_ ≠ gb223 ∧ k_ ≠ gb238 ∧ k_ ≠ gb239) (.slice Ao57 t225.length co57) t225) := ⟨(by rw [hw]; exact (Kd.V_mono (Kd.V_mv (g := gb239) (Kd.V_mono HO227.out (fun k_ hk => (⟨hk, hk.2.2.2.2.2.2.2⟩ : _ ∧ k_ ≠ gb239))) (fun _ hk => hk.2)) (fun _ hk => ⟨hk.1.1, ⟨hk.1.2.1, ⟨hk.1.2.2.1, ⟨hk.1.2.2.2.1, ⟨hk.1.2.2.2.2.1, ⟨hk.1.2.2.2.2.2.1, ⟨hk.1.2.2.2.2.2.2.1, hk.1.2.2.2.2.2.2.2⟩⟩⟩⟩⟩⟩⟩)))⟩; replace BK174 : Aside0 (w64.heap[gb174]? = some (.cells #[.int .i64 t168, .slice Ao15 t169.length co15, .int .i64 t172] 27 (0, 0))) := ⟨(by rw [hw]; exact (BF BK174.out NB174_239.out))⟩; replace BK207 : Aside0 (w64.heap[gb207]? = some (.cells #[.int .i64 t202, .slice Ao28 t203.length co28, .int .i64 t206] 27 (0, 0))) := ⟨(by rw [hw]; exact (BF BK207.out NB207_239.out))⟩; replace BK222 : Aside0 (w64.heap[gb222]? = some (.cells #[.int .i64 t208, .slice Ao41 t209.length co41, .int .i64 t212] 27 (0, 0))) := ⟨(by rw [hw]; exact (BF BK222.out NB222_239.out))⟩; replace BK223 : Aside0 (w64.heap[gb223]? = some (.cells #[.int .i64 t213, .int .i64 t214, .int .i64 t215, .int .i64 t216, .int .i64 t217, .int .i64 t218, .string t219, .int .i64 t220] 36 (0, 0))) := ⟨(by rw [hw]; exact (BF BK223.out NB223_239.out))⟩; replace BK238 : Aside0 (w64.heap[gb238]? = some (.cells #[.int .i64 t224, .slice Ao57 t225.length co57, .int .i64 t228] 27 (0, 0))) := ⟨(by rw [hw]; exact (BF BK238.out NB238_239.out))⟩; replace BK239 : Aside0 (w64.heap[gb239]? = some (.cells #[.int .i64 t229, .int .i64 t230, .int .i64 t231, .int .i64 t232, .int .i64 t233, .int .i64 t234, .string t235, .int .i64 t236] 36 (0, 0))) := ⟨(by rw [hw]; exact (BP BK239.out (by rfl)))⟩; replace HB : Aside0 (Below w.heap.size w w64) := ⟨(by rw [hw]; exact (LG HB.out (G1 GE239.out G0)))⟩; clear hw; obtain ⟨hcz65_0, hcz65_1, hcz65_2, hfz65_0, hfz65_1, hfz65_2⟩ := cz3 BK238.out) | ((with_reducible refine gate_callee (f := 13) rfl ?_); refine goesL_ (some 41) rfl rfl Try.func13 (by kernel_rfl) rfl #[.agg #[.int .i64 t224, .slice Ao57 t225.length co57, .int .i64 t228]] rfl (by (try simp only [List.map_toArray, List.map_cons, List.map_nil]); first | done | rfl | (simp only [List.length_drop, List.length_take]; rfl)) ?_; (with_reducible refine (feed_Read.calls t224 (fun k_ => (some k_ ≠ (.slice Ao15 t169.length co15 : Value).ownBlock ∧ (some k_ ≠ (v200 : Value).ownBlock ∧ (k_ ≠ gb174 ∧ (k_ ≠ gb207 ∧ (k_ ≠ gb222 ∧ (k_ ≠ gb223 ∧ (k_ ≠ gb238 ∧ k_ ≠ gb239)))))))) _ _ t225 t228 t240 t241 t244 t245 t246 t247 t248 t249 t250 t251 t252 t253 _ ?side1 A8.out).mono ?_); (case side1 => exact HO227.out); rintro e w66 ⟨v242, rfl, ho0, hb⟩; refine ⟨_, rfl, ?_⟩; replace HO205 := Aside0.mk (Kd.R_below (Kd.RA HO205.out) hb); replace HO211 := Aside0.mk (Kd.V_below (Kd.VA HO211.out) hb); replace HO227 := Aside0.mk (Kd.V_below (Kd.VA HO227.out) hb); have HO243 := Aside0.mk (Kd.V_lower (Kd.V_mono (ok' := fun k_ => some k_ ≠ (.slice Ao15 t169.length co15 : Value).ownBlock ∧ some k_ ≠ (v200 : Value).ownBlock ∧ k_ ≠ gb174 ∧ k_ ≠ gb207 ∧ k_ ≠ gb222 ∧ k_ ≠ gb223 ∧ k_ ≠ gb238 ∧ k_ ≠ gb239) ho0 (fun k_ hk_ => ⟨Or.elim hk_ (fun hs_ => hs_.1) (fun hn_ => (Kd.fresh' (Kd.R_lt (Kd.RA HO171.out)) k_ hn_)), Or.elim hk_ (fun hs_ => hs_.2.1) (fun hn_ => (Kd.fresh' (Kd.R_lt (Kd.RA HO201.out)) k_ hn_)), Or.elim hk_ (fun hs_ => hs_.2.2.1) (fun hn_ => (Kd.freshB (g := gb174) (o := .cells #[.int .i64 t168, .slice Ao15 t169.length co15, .int .i64 t172] 27 (0, 0)) (BA BK174.out) k_ hn_)), Or.elim hk_ (fun hs_ => hs_.2.2.2.1) (fun hn_ => (Kd.freshB (g := gb207) (o := .cells #[.int .i64 t202, .slice Ao28 t203.length co28, .int .i64 t206] 27 (0, 0)) (BA BK207.out) k_ hn_)), Or.elim hk_ (fun hs_ => hs_.2.2.2.2.1) (fun hn_ => (Kd.freshB (g := gb222) (o := .cells #[.int .i64 t208, .slice Ao41 t209.length co41, .int .i64 t212] 27 (0, 0)) (BA BK222.out) k_ hn_)), Or.elim hk_ (fun hs_ => hs_.2.2.2.2.2.1) (fun hn_ => (Kd.freshB (g := gb223) (o := .cells #[.int .i64 t213, .int .i64 t214, .int .i64 t215, .int .i64 t216, .int .i64 t217, .int .i64 t218, .string t219, .int .i64 t220] 36 (0, 0)) (BA BK223.out) k_ hn_)), Or.elim hk_ (fun hs_ => hs_.2.2.2.2.2.2.1) (fun hn_ => (Kd.freshB (g := gb238) (o := .cells #[.int .i64 t224, .slice Ao57 t225.length co57, .int .i64 t228] 27 (0, 0)) (BA BK238.out) k_ hn_)), Or.elim hk_ (fun hs_ => hs_.2.2.2.2.2.2.2) (fun hn_ => (Kd.freshB (g := gb239) (o := .cells #[.int .i64 t229, .int .i64 t230, .int .i64 t231, .int .i64 t232, .int .i64 t233, .int .i64 t234, .string t235, .int .i64 t236] 36 (0, 0)) (BA BK239.out) k_ hn_))⟩)) (below_size (LA HB.out))); replace HO171 := Aside0.mk (Kd.R_below (Kd.RA HO171.out) hb); replace HO201 := Aside0.mk (Kd.R_below (Kd.RA HO201.out) hb); replace BK174 := Aside0.mk (blk_below (BA BK174.out) hb); replace BK207 := Aside0.mk (blk_below (BA BK207.out) hb); replace BK222 := Aside0.mk (blk_below (BA BK222.out) hb); replace BK223 := Aside0.mk (blk_below (BA BK223.out) hb); replace BK238 := Aside0.mk (blk_below (BA BK238.out) hb); replace BK239 := Aside0.mk (blk_below (BA BK239.out) hb); replace HB := Aside0.mk (below_step (LA HB.out) hb); (try clear hb); (try clear hb2); (try clear hk); (try clear hi); (try clear ho0)) | ((with_reducible refine gate_dst (N := 10) rfl ?_); (try (refine gate_guard (by rfl) ?_; dsimp only)); refine box_event ?hg (N := 10) ?hd (cs := #[.int .i64 0, .slice none 0 0, .int .i64 0]) (t := 27) ?hr ?_; (case hd => rfl); (case hg => rfl); (case hr => first | (go_simp; done) | (go_simp; rfl)); intro gb254 hg w67 hbox hb; replace HO171 := Aside0.mk (Kd.R_below (Kd.RA HO171.out) hb); replace HO201 := Aside0.mk (Kd.R_below (Kd.RA HO201.out) hb); replace HO205 := Aside0.mk (Kd.R_below (Kd.RA HO205.out) hb); replace HO211 := Aside0.mk (Kd.V_below (Kd.V_elderB (Kd.VA HO211.out) gb254 (Nat.le_of_eq hg.symm)) hb); replace HO227 := Aside0.mk (Kd.V_below (Kd.V_elderB (Kd.VA HO227.out) gb254 (Nat.le_of_eq hg.symm)) hb); replace HO243 := Aside0.mk (Kd.V_below (Kd.V_elderB (Kd.VA HO243.out) gb254 (Nat.le_of_eq hg.symm)) hb); have BK254 := Aside0.mk (hbox); have GE254 := Aside0.mk (ge1 hg (LA HB.out)); replace HB := Aside0.mk (below_step (LA HB.out) hb); have NB174_254 := Aside0.mk ((by rw [hg]; exact Nat.ne_of_lt (blk_lt (g := gb174) (o := .cells #[.int .i64 t168, .slice Ao15 t169.length co15, .int .i64 t172] 27 (0, 0)) (BA BK174.out)) : gb174 ≠ gb254)); have NB254_174 := Aside0.mk ((by rw [hg]; exact Nat.ne_of_gt (blk_lt (g := gb174) (o := .cells #[.int .i64 t168, .slice Ao15 t169.length co15, .int .i64 t172] 27 (0, 0)) (BA BK174.out)) : gb254 ≠ gb174)); replace BK174 := Aside0.mk (blk_below (BA BK174.out) hb); have NB207_254 := Aside0.mk ((by rw [hg]; exact Nat.ne_of_lt (blk_lt (g := gb207) (o := .cells #[.int .i64 t202, .slice Ao28 t203.length co28, .int .i64 t206] 27 (0, 0)) (BA BK207.out)) : gb207 ≠ gb254)); have NB254_207 := Aside0.mk ((by rw [hg]; exact Nat.ne_of_gt (blk_lt (g := gb207) (o := .cells #[.int .i64 t202, .slice Ao28 t203.length co28, .int .i64 t206] 27 (0, 0)) (BA BK207.out)) : gb254 ≠ gb207)); replace BK207 := Aside0.mk (blk_below (BA BK207.out) hb); have NB222_254 := Aside0.mk ((by rw [hg]; exact Nat.ne_of_lt (blk_lt (g := gb222) (o := .cells #[.int .i64 t208, .slice Ao41 t209.length co41, .int .i64 t212] 27 (0, 0)) (BA BK222.out)) : gb222 ≠ gb254)); have NB254_222 := Aside0.mk ((by rw [hg]; exact Nat.ne_of_gt (blk_lt (g := gb222) (o := .cells #[.int .i64 t208, .slice Ao41 t209.length co41, .int .i64 t212] 27 (0, 0)) (BA BK222.out)) : gb254 ≠ gb222)); replace BK222 := Aside0.mk (blk_below (BA BK222.out) hb); have NB223_254 := Aside0.mk ((by rw [hg]; exact Nat.ne_of_lt (blk_lt (g := gb223) (o := .cells #[.int .i64 t213, .int .i64 t214, .int .i64 t215, .int .i64 t216, .int .i64 t217, .int .i64 t218, .string t219, .int .i64 t220] 36 (0, 0)) (BA BK223.out)) : gb223 ≠ gb254)); have NB254_223 := Aside0.mk ((by rw [hg]; exact Nat.ne_of_gt (blk_lt (g := gb223) (o := .cells #[.int .i64 t213, .int .i64 t214, .int .i64 t215, .int .i64 t216, .int .i64 t217, .int .i64 t218, .string t219, .int .i64 t220] 36 (0, 0)) (BA BK223.out)) : gb254 ≠ gb223)); replace BK223 := Aside0.mk (blk_below (BA BK223.out) hb); have NB238_254 := Aside0.mk ((by rw [hg]; exact Nat.ne_of_lt (blk_lt (g := gb238) (o := .cells #[.int .i64 t224, .slice Ao57 t225.length co57, .int .i64 t228] 27 (0, 0)) (BA BK238.out)) : gb238 ≠ gb254)); have NB254_238 := Aside0.mk ((by rw [hg]; exact Nat.ne_of_gt (blk_lt (g := gb238) (o := .cells #[.int .i64 t224, .slice Ao57 t225.length co57, .int .i64 t228] 27 (0, 0)) (BA BK238.out)) : gb254 ≠ gb238)); replace BK238 := Aside0.mk (blk_below (BA BK238.out) hb); have NB239_254 := Aside0.mk ((by rw [hg]; exact Nat.ne_of_lt (blk_lt (g := gb239) (o := .cells #[.int .i64 t229, .int .i64 t230, .int .i64 t231, .int .i64 t232, .int .i64 t233, .int .i64 t234, .string t235, .int .i64 t236] 36 (0, 0)) (BA BK239.out)) : gb239 ≠ gb254)); have NB254_239 := Aside0.mk ((by rw [hg]; exact Nat.ne_of_gt (blk_lt (g := gb239) (o := .cells #[.int .i64 t229, .int .i64 t230, .int .i64 t231, .int .i64 t232, .int .i64 t233, .int .i64 t234, .string t235, .int .i64 t236] 36 (0, 0)) (BA BK239.out)) : gb254 ≠ gb239)); replace BK239 := Aside0.mk (blk_below (BA BK239.out) hb); clear hb hbox hg) | ((with_reducible refine gate_dst (N := 11) rfl ?_); (try (refine gate_guard (by rfl) ?_; dsimp only)); refine box_event ?hg (N := 11) ?hd (cs := #[.int .i64 0, .int .i64 0, .int .i64 0, .int .i64 0, .int .i64 0, .int .i64 0, .string (⟨#[]⟩ : ByteArray), .int .i64 0]) (t := 36) ?hr ?_; (case hd => rfl); (case hg => rfl); (case hr => first | (go_simp; done) | (go_simp; rfl)); intro gb255 hg w68 hbox hb; replace HO171 := Aside0.mk (Kd.R_below (Kd.R_elderB (Kd.RA HO171.out) gb255 (Nat.le_of_eq hg.symm)) hb); replace HO201 := Aside0.mk (Kd.R_below (Kd.R_elderB (Kd.RA HO201.out) gb255 (Nat.le_of_eq hg.symm)) hb); replace HO205 := Aside0.mk (Kd.R_below (Kd.R_elderB (Kd.RA HO205.out) gb255 (Nat.le_of_eq hg.symm)) hb); replace HO211 := Aside0.mk (Kd.V_below (Kd.V_elderB (Kd.VA HO211.out) gb255 (Nat.le_of_eq hg.symm)) hb); replace HO227 := Aside0.mk (Kd.V_below (Kd.V_elderB (Kd.VA HO227.out) gb255 (Nat.le_of_eq hg.symm)) hb); replace HO243 := Aside0.mk (Kd.V_below (Kd.V_elderB (Kd.VA HO243.out) gb255 (Nat.le_of_eq hg.symm)) hb); have BK255 := Aside0.mk (hbox); have GE255 := Aside0.mk (ge1 hg (LA HB.out)); replace HB := Aside0.mk (below_step (LA HB.out) hb); have NB174_255 := Aside0.mk ((by rw [hg]; exact Nat.ne_of_lt (blk_lt (g := gb174) (o := .cells #[.int .i64 t168, .slice Ao15 t169.length co15, .int .i64 t172] 27 (0, 0)) (BA BK174.out)) : gb174 ≠ gb255)); have NB255_174 := Aside0.mk ((by rw [hg]; exact Nat.ne_of_gt (blk_lt (g := gb174) (o := .cells #[.int .i64 t168, .slice Ao15 t169.length co15, .int .i64 t172] 27 (0, 0)) (BA BK174.out)) : gb255 ≠ gb174)); replace BK174 := Aside0.mk (blk_below (BA BK174.out) hb); have NB207_255 := Aside0.mk ((by rw [hg]; exact Nat.ne_of_lt (blk_lt (g := gb207) (o := .cells #[.int .i64 t202, .slice Ao28 t203.length co28, .int .i64 t206] 27 (0, 0)) (BA BK207.out)) : gb207 ≠ gb255)); have NB255_207 := Aside0.mk ((by rw [hg]; exact Nat.ne_of_gt (blk_lt (g := gb207) (o := .cells #[.int .i64 t202, .slice Ao28 t203.length co28, .int .i64 t206] 27 (0, 0)) (BA BK207.out)) : gb255 ≠ gb207)); replace BK207 := Aside0.mk (blk_below (BA BK207.out) hb); have NB222_255 := Aside0.mk ((by rw [hg]; exact Nat.ne_of_lt (blk_lt (g := gb222) (o := .cells #[.int .i64 t208, .slice Ao41 t209.length co41, .int .i64 t212] 27 (0, 0)) (BA BK222.out)) : gb222 ≠ gb255)); have NB255_222 := Aside0.mk ((by rw [hg]; exact Nat.ne_of_gt (blk_lt (g := gb222) (o := .cells #[.int .i64 t208, .slice Ao41 t209.length co41, .int .i64 t212] 27 (0, 0)) (BA BK222.out)) : gb255 ≠ gb222)); replace BK222 := Aside0.mk (blk_below (BA BK222.out) hb); have NB223_255 := Aside0.mk ((by rw [hg]; exact Nat.ne_of_lt (blk_lt (g := gb223) (o := .cells #[.int .i64 t213, .int .i64 t214, .int .i64 t215, .int .i64 t216, .int .i64 t217, .int .i64 t218, .string t219, .int .i64 t220] 36 (0, 0)) (BA BK223.out)) : gb223 ≠ gb255)); have NB255_223 := Aside0.mk ((by rw [hg]; exact Nat.ne_of_gt (blk_lt (g := gb223) (o := .cells #[.int .i64 t213, .int .i64 t214, .int .i64 t215, .int .i64 t216, .int .i64 t217, .int .i64 t218, .string t219, .int .i64 t220] 36 (0, 0)) (BA BK223.out)) : gb255 ≠ gb223)); replace BK223 := Aside0.mk (blk_below (BA BK223.out) hb); have NB238_255 := Aside0.mk ((by rw [hg]; exact Nat.ne_of_lt (blk_lt (g := gb238) (o := .cells #[.int .i64 t224, .slice Ao57 t225.length co57, .int .i64 t228] 27 (0, 0)) (BA BK238.out)) : gb238 ≠ gb255)); have NB255_238 := Aside0.mk ((by rw [hg]; exact Nat.ne_of_gt (blk_lt (g := gb238) (o := .cells #[.int .i64 t224, .slice Ao57 t225.length co57, .int .i64 t228] 27 (0, 0)) (BA BK238.out)) : gb255 ≠ gb238)); replace BK238 := Aside0.mk (blk_below (BA BK238.out) hb); have NB239_255 := Aside0.mk ((by rw [hg]; exact Nat.ne_of_lt (blk_lt (g := gb239) (o := .cells #[.int .i64 t229, .int .i64 t230, .int .i64 t231, .int .i64 t232, .int .i64 t233, .int .i64 t234, .string t235, .int .i64 t236] 36 (0, 0)) (BA BK239.out)) : gb239 ≠ gb255)); have NB255_239 := Aside0.mk ((by rw [hg]; exact Nat.ne_of_gt (blk_lt (g := gb239) (o := .cells #[.int .i64 t229, .int .i64 t230, .int .i64 t231, .int .i64 t232, .int .i64 t233, .int .i64 t234, .string t235, .int .i64 t236] 36 (0, 0)) (BA BK239.out)) : gb255 ≠ gb239)); replace BK239 := Aside0.mk (blk_below (BA BK239.out) hb); have NB254_255 := Aside0.mk ((by rw [hg]; exact Nat.ne_of_lt (blk_lt (g := gb254) (o := .cells #[.int .i64 0, .slice none 0 0, .int .i64 0] 27 (0, 0)) (BA BK254.out)) : gb254 ≠ gb255)); have NB255_254 := Aside0.mk ((by rw [hg]; exact Nat.ne_of_gt (blk_lt (g := gb254) (o := .cells #[.int .i64 0, .slice none 0 0, .int .i64 0] 27 (0, 0)) (BA BK254.out)) : gb255 ≠ gb254)); replace BK254 := Aside0.mk (blk_below (BA BK254.out) hb); clear hb hbox hg; have hnb69 := NB254_174.out; have hnc69 := NB174_254.out; have hnb70 := NB254_207.out; have hnc70 := NB207_254.out; have hnb71 := NB254_222.out; have hnc71 := NB222_254.out; have hnb72 := NB254_223.out; have hnc72 := NB223_254.out; have hnb73 := NB254_238.out; have hnc73 := NB238_254.out; have hnb74 := NB254_239.out; have hnc74 := NB239_254.out; have hnb75 := NB254_255.out; have hnc75 := NB255_254.out; obtain ⟨hcz76_0, hcz76_1, hcz76_2, hfz76_0, hfz76_1, hfz76_2⟩ := cz3 BK254.out; obtain ⟨Ao77, co77, eo77⟩ := Kd.V_slice HO243.out; subst eo77) | ((with_reducible refine gate_store (t := 27) (p := 10) rfl ?_); refine store_event (t := 27) (p := 10) (v := ?vo_w78) (w1 := (((w68.setCell ⟨gb254, 0, none⟩ (.int .i64 t240)).setCell ⟨gb254, 1, none⟩ (.slice Ao77 t241.length co77)).setCell ⟨gb254, 2, none⟩ (.int .i64 t244))) ?hg ?ho ?hn ?hr ?_; (case ho => rfl); (case hg => rfl); (case hn => rfl); (case hr => first | (go_simp; done) | (go_simp; rfl)); intro w78 hw; replace HO171 : Aside0 (Kd.R k36 36 w78 w.heap.size (fun k_ => some k_ ≠ (v200 : Value).ownBlock ∧ some k_ ≠ (.slice Ao28 t203.length co28 : Value).ownBlock ∧ k_ ≠ gb223 ∧ k_ ≠ gb239 ∧ k_ ≠ gb255) (.slice Ao15 t169.length co15) t169) := ⟨(by rw [hw]; exact (Kd.R_mono (Kd.R_mv (g := gb254) (Kd.R_types HO171.out BK254.out (by decide)) (fun _ hk => hk.2)) (fun _ hk => ⟨hk.1.1.1, ⟨hk.1.1.2.1, ⟨hk.1.1.2.2.1, ⟨hk.1.1.2.2.2, hk.1.2⟩⟩⟩⟩)))⟩; replace HO201 : Aside0 (Kd.R k36 36 w78 w.heap.size (fun k_ => some k_ ≠ (.slice Ao15 t169.length co15 : Value).ownBlock ∧ some k_ ≠ (.slice Ao28 t203.length co28 : Value).ownBlock ∧ k_ ≠ gb223 ∧ k_ ≠ gb239 ∧ k_ ≠ gb255) v200 y199) := ⟨(by rw [hw]; exact (Kd.R_mono (Kd.R_mv (g := gb254) (Kd.R_types HO201.out BK254.out (by decide)) (fun _ hk => hk.2)) (fun _ hk => ⟨hk.1.1.1, ⟨hk.1.1.2.1, ⟨hk.1.1.2.2.1, ⟨hk.1.1.2.2.2, hk.1.2⟩⟩⟩⟩)))⟩; replace HO205 : Aside0 (Kd.R k36 36 w78 w.heap.size (fun k_ => some k_ ≠ (.slice Ao15 t169.length co15 : Value).ownBlock ∧ some k_ ≠ (v200 : Value).ownBlock ∧ k_ ≠ gb223 ∧ k_ ≠ gb239 ∧ k_ ≠ gb255) (.slice Ao28 t203.length co28) t203) := ⟨(by rw [hw]; exact (Kd.R_mono (Kd.R_mv (g := gb254) (Kd.R_types HO205.out BK254.out (by decide)) (fun _ hk => hk.2)) (fun _ hk => ⟨hk.1.1.1, ⟨hk.1.1.2.1, ⟨hk.1.1.2.2.1, ⟨hk.1.1.2.2.2, hk.1.2⟩⟩⟩⟩)))⟩; replace HO211 : Aside0 (Kd.V k36 36 w78 w.heap.size (fun k_ => some k_ ≠ (.slice Ao15 t169.length co15 : Value).ownBlock ∧ some k_ ≠ (v200 : Value).ownBlock ∧ k_ ≠ gb174 ∧ k_ ≠ gb207 ∧ k_ ≠ gb222 ∧ k_ ≠ gb223 ∧ k_ ≠ gb238 ∧ k_ ≠ gb239 ∧ k_ ≠ gb254 ∧ k_ ≠ gb255) (.slice Ao41 t209.length co41) t209) := ⟨(by rw [hw]; exact (Kd.V_mono (Kd.V_mv (g := gb254) (Kd.V_mono HO211.out (fun k_ hk => (⟨hk, hk.1.2⟩ : _ ∧ k_ ≠ gb254))) (fun _ hk => hk.2)) (fun _ hk => ⟨hk.1.1.1.1, ⟨hk.1.1.1.2.1, ⟨hk.1.1.1.2.2.1, ⟨hk.1.1.1.2.2.2.1, ⟨hk.1.1.1.2.2.2.2.1, ⟨hk.1.1.1.2.2.2.2.2.1, ⟨hk.1.1.1.2.2.2.2.2.2.1, ⟨hk.1.1.1.2.2.2.2.2.2.2, ⟨hk.1.1.2, hk.1.2⟩⟩⟩⟩⟩⟩⟩⟩⟩)))⟩; replace HO227 : Aside0 (Kd.V k36 36 w78 w.heap.size (fun k_ => some k_ ≠ (.slice Ao15 t169.length co15 : Value).ownBlock ∧ some k_ ≠ (v200 : Value).ownBlock ∧ k_ ≠ gb174 ∧ k_ ≠ gb207 ∧ k_ ≠ gb222 ∧ k_ ≠ gb223 ∧ k_ ≠ gb238 ∧ k_ ≠ gb239 ∧ k_ ≠ gb254 ∧ k_ ≠ gb255) (.slice Ao57 t225.length co57) t225) := ⟨(by rw [hw]; exact (Kd.V_mono (Kd.V_mv (g := gb254) (Kd.V_mono HO227.out (fun k_ hk => (⟨hk, hk.1.2⟩ : _ ∧ k_ ≠ gb254))) (fun _ hk => hk.2)) (fun _ hk => ⟨hk.1.1.1.1, ⟨hk.1.1.1.2.1, ⟨hk.1.1.1.2.2.1, ⟨hk.1.1.1.2.2.2.1, ⟨hk.1.1.1.2.2.2.2.1, ⟨hk.1.1.1.2.2.2.2.2.1, ⟨hk.1.1.1.2.2.2.2.2.2.1, ⟨hk.1.1.1.2.2.2.2.2.2.2, ⟨hk.1.1.2, hk.1.2⟩⟩⟩⟩⟩⟩⟩⟩⟩)))⟩; replace HO243 : Aside0 (Kd.V k36 36 w78 w.heap.size (fun k_ => some k_ ≠ (.slice Ao15 t169.length co15 : Value).ownBlock ∧ some k_ ≠ (v200 : Value).ownBlock ∧ k_ ≠ gb174 ∧ k_ ≠ gb207 ∧ k_ ≠ gb222 ∧ k_ ≠ gb223 ∧ k_ ≠ gb238 ∧ k_ ≠ gb239 ∧ k_ ≠ gb254 ∧ k_ ≠ gb255) (.slice Ao77 t241.length co77) t241) := ⟨(by rw [hw]; exact (Kd.V_mono (Kd.V_mv (g := gb254) (Kd.V_mono HO243.out (fun k_ hk => (⟨hk, hk.1.2⟩ : _ ∧ k_ ≠ gb254))) (fun _ hk => hk.2)) (fun _ hk => ⟨hk.1.1.1.1, ⟨hk.1.1.1.2.1, ⟨hk.1.1.1.2.2.1, ⟨hk.1.1.1.2.2.2.1, ⟨hk.1.1.1.2.2.2.2.1, ⟨hk.1.1.1.2.2.2.2.2.1, ⟨hk.1.1.1.2.2.2.2.2.2.1, ⟨hk.1.1.1.2.2.2.2.2.2.2, ⟨hk.1.1.2, hk.1.2⟩⟩⟩⟩⟩⟩⟩⟩⟩)))⟩; replace BK174 : Aside0 (w78.heap[gb174]? = some (.cells #[.int .i64 t168, .slice Ao15 t169.length co15, .int .i64 t172] 27 (0, 0))) := ⟨(by rw [hw]; exact (BF BK174.out NB174_254.out))⟩; replace BK207 : Aside0 (w78.heap[gb207]? = some (.cells #[.int .i64 t202, .slice Ao28 t203.length co28, .int .i64 t206] 27 (0, 0))) := ⟨(by rw [hw]; exact (BF BK207.out NB207_254.out))⟩; replace BK222 : Aside0 (w78.heap[gb222]? = some (.cells #[.int .i64 t208, .slice Ao41 t209.length co41, .int .i64 t212] 27 (0, 0))) := ⟨(by rw [hw]; exact (BF BK222.out NB222_254.out))⟩; replace BK223 : Aside0 (w78.heap[gb223]? = some (.cells #[.int .i64 t213, .int .i64 t214, .int .i64 t215, .int .i64 t216, .int .i64 t217, .int .i64 t218, .string t219, .int .i64 t220] 36 (0, 0))) := ⟨(by rw [hw]; exact (BF BK223.out NB223_254.out))⟩; replace BK238 : Aside0 (w78.heap[gb238]? = some (.cells #[.int .i64 t224, .slice Ao57 t225.length co57, .int .i64 t228] 27 (0, 0))) := ⟨(by rw [hw]; exact (BF BK238.out NB238_254.out))⟩; replace BK239 : Aside0 (w78.heap[gb239]? = some (.cells #[.int .i64 t229, .int .i64 t230, .int .i64 t231, .int .i64 t232, .int .i64 t233, .int .i64 t234, .string t235, .int .i64 t236] 36 (0, 0))) := ⟨(by rw [hw]; exact (BF BK239.out NB239_254.out))⟩; replace BK254 : Aside0 (w78.heap[gb254]? = some (.cells #[.int .i64 t240, .slice Ao77 t241.length co77, .int .i64 t244] 27 (0, 0))) := ⟨(by rw [hw]; exact (BP BK254.out (by rfl)))⟩; replace BK255 : Aside0 (w78.heap[gb255]? = some (.cells #[.int .i64 0, .int .i64 0, .int .i64 0, .int .i64 0, .int .i64 0, .int .i64 0, .string (⟨#[]⟩ : ByteArray), .int .i64 0] 36 (0, 0))) := ⟨(by rw [hw]; exact (BF BK255.out NB255_254.out))⟩; replace HB : Aside0 (Below w.heap.size w w78) := ⟨(by rw [hw]; exact (LG HB.out (G1 GE254.out G0)))⟩; clear hw; have hnb79 := NB255_174.out; have hnc79 := NB174_255.out; have hnb80 := NB255_207.out; have hnc80 := NB207_255.out; have hnb81 := NB255_222.out; have hnc81 := NB222_255.out; have hnb82 := NB255_223.out; have hnc82 := NB223_255.out; have hnb83 := NB255_238.out; have hnc83 := NB238_255.out; have hnb84 := NB255_239.out; have hnc84 := NB239_255.out; obtain ⟨hcz85_0, hcz85_1, hcz85_2, hcz85_3, hcz85_4, hcz85_5, hcz85_6, hcz85_7, hfz85_0, hfz85_1, hfz85_2, hfz85_3, hfz85_4, hfz85_5, hfz85_6, hfz85_7⟩ := cz8 BK255.out) | ((with_reducible refine gate_store (t := 36) (p := 11) rfl ?_); refine store_event (t := 36) (p := 11) (v := ?vo_w86) (w1 := ((((((((w78.setCell ⟨gb255, 0, none⟩ (.int .i64 t245)).setCell ⟨gb255, 1, none⟩ (.int .i64 t246)).setCell ⟨gb255, 2, none⟩ (.int .i64 t247)).setCell ⟨gb255, 3, none⟩ (.int .i64 t248)).setCell ⟨gb255, 4, none⟩ (.int .i64 t249)).setCell ⟨gb255, 5, none⟩ (.int .i64 t250)).setCell ⟨gb255, 6, none⟩ (.string t251)).setCell ⟨gb255, 7, none⟩ (.int .i64 t252))) ?hg ?ho ?hn ?hr ?_; (case ho => rfl); (case hg => rfl); (case hn => rfl); (case hr => first | (go_simp; done) | (go_simp; rfl)); intro w86 hw; replace HO171 : Aside0 (Kd.R k36 36 w86 w.heap.size (fun k_ => some k_ ≠ (v200 : Value).ownBlock ∧ some k_ ≠ (.slice Ao28 t203.length co28 : Value).ownBlock ∧ k_ ≠ gb223 ∧ k_ ≠ gb239 ∧ k_ ≠ gb255) (.slice Ao15 t169.length co15) t169) := ⟨(by rw [hw]; exact (Kd.R_mono (Kd.R_mv (g := gb255) (Kd.R_mono HO171.out (fun k_ hk => (⟨hk, hk.2.2.2.2⟩ : _ ∧ k_ ≠ gb255))) (fun _ hk => hk.2)) (fun _ hk => ⟨hk.1.1, ⟨hk.1.2.1, ⟨hk.1.2.2.1, ⟨hk.1.2.2.2.1, hk.1.2.2.2.2⟩⟩⟩⟩)))⟩; replace HO201 : Aside0 (Kd.R k36 36 w86 w.heap.size (fun k_ => some k_ ≠ (.slice Ao15 t169.length co15 : Value).ownBlock ∧ some k_ ≠ (.slice Ao28 t203.length co28 : Value).ownBlock ∧ k_ ≠ gb223 ∧ k_ ≠ gb239 ∧ k_ ≠ gb255) v200 y199) := ⟨(by rw [hw]; exact (Kd.R_mono (Kd.R_mv (g := gb255) (Kd.R_mono HO201.out (fun k_ hk => (⟨hk, hk.2.2.2.2⟩ : _ ∧ k_ ≠ gb255))) (fun _ hk => hk.2)) (fun _ hk => ⟨hk.1.1, ⟨hk.1.2.1, ⟨hk.1.2.2.1, ⟨hk.1.2.2.2.1, hk.1.2.2.2.2⟩⟩⟩⟩)))⟩; replace HO205 : Aside0 (Kd.R k36 36 w86 w.heap.size (fun k_ => some k_ ≠ (.slice Ao15 t169.length co15 : Value).ownBlock ∧ some k_ ≠ (v200 : Value).ownBlock ∧ k_ ≠ gb223 ∧ k_ ≠ gb239 ∧ k_ ≠ gb255) (.slice Ao28 t203.length co28) t203) := ⟨(by rw [hw]; exact (Kd.R_mono (Kd.R_mv (g := gb255) (Kd.R_mono HO205.out (fun k_ hk => (⟨hk, hk.2.2.2.2⟩ : _ ∧ k_ ≠ gb255))) (fun _ hk => hk.2)) (fun _ hk => ⟨hk.1.1, ⟨hk.1.2.1, ⟨hk.1.2.2.1, ⟨hk.1.2.2.2.1, hk.1.2.2.2.2⟩⟩⟩⟩)))⟩; replace HO211 : Aside0 (Kd.V k36 36 w86 w.heap.size (fun k_ => some k_ ≠ (.slice Ao15 t169.length co15 : Value).ownBlock ∧ some k_ ≠ (v200 : Value).ownBlock ∧ k_ ≠ gb174 ∧ k_ ≠ gb207 ∧ k_ ≠ gb222 ∧ k_ ≠ gb223 ∧ k_ ≠ gb238 ∧ k_ ≠ gb239 ∧ k_ ≠ gb254 ∧ k_ ≠ gb255) (.slice Ao41 t209.length co41) t209) := ⟨(by rw [hw]; exact (Kd.V_mono (Kd.V_mv (g := gb255) (Kd.V_mono HO211.out (fun k_ hk => (⟨hk, hk.2.2.2.2.2.2.2.2.2⟩ : _ ∧ k_ ≠ gb255))) (fun _ hk => hk.2)) (fun _ hk => ⟨hk.1.1, ⟨hk.1.2.1, ⟨hk.1.2.2.1, ⟨hk.1.2.2.2.1, ⟨hk.1.2.2.2.2.1, ⟨hk.1.2.2.2.2.2.1, ⟨hk.1.2.2.2.2.2.2.1, ⟨hk.1.2.2.2.2.2.2.2.1, ⟨hk.1.2.2.2.2.2.2.2.2.1, hk.1.2.2.2.2.2.2.2.2.2⟩⟩⟩⟩⟩⟩⟩⟩⟩)))⟩; replace HO227 : Aside0 (Kd.V k36 36 w86 w.heap.size (fun k_ => some k_ ≠ (.slice Ao15 t169.length co15 : Value).ownBlock ∧ some k_ ≠ (v200 : Value).ownBlock ∧ k_ ≠ gb174 ∧ k_ ≠ gb207 ∧ k_ ≠ gb222 ∧ k_ ≠ gb223 ∧ k_ ≠ gb238 ∧ k_ ≠ gb239 ∧ k_ ≠ gb254 ∧ k_ ≠ gb255) (.slice Ao57 t225.length co57) t225) := ⟨(by rw [hw]; exact (Kd.V_mono (Kd.V_mv (g := gb255) (Kd.V_mono HO227.out (fun k_ hk => (⟨hk, hk.2.2.2.2.2.2.2.2.2⟩ : _ ∧ k_ ≠ gb255))) (fun _ hk => hk.2)) (fun _ hk => ⟨hk.1.1, ⟨hk.1.2.1, ⟨hk.1.2.2.1, ⟨hk.1.2.2.2.1, ⟨hk.1.2.2.2.2.1, ⟨hk.1.2.2.2.2.2.1, ⟨hk.1.2.2.2.2.2.2.1, ⟨hk.1.2.2.2.2.2.2.2.1, ⟨hk.1.2.2.2.2.2.2.2.2.1, hk.1.2.2.2.2.2.2.2.2.2⟩⟩⟩⟩⟩⟩⟩⟩⟩)))⟩; replace HO243 : Aside0 (Kd.V k36 36 w86 w.heap.size (fun k_ => some k_ ≠ (.slice Ao15 t169.length co15 : Value).ownBlock ∧ some k_ ≠ (v200 : Value).ownBlock ∧ k_ ≠ gb174 ∧ k_ ≠ gb207 ∧ k_ ≠ gb222 ∧ k_ ≠ gb223 ∧ k_ ≠ gb238 ∧ k_ ≠ gb239 ∧ k_ ≠ gb254 ∧ k_ ≠ gb255) (.slice Ao77 t241.length co77) t241) := ⟨(by rw [hw]; exact (Kd.V_mono (Kd.V_mv (g := gb255) (Kd.V_mono HO243.out (fun k_ hk => (⟨hk, hk.2.2.2.2.2.2.2.2.2⟩ : _ ∧ k_ ≠ gb255))) (fun _ hk => hk.2)) (fun _ hk => ⟨hk.1.1, ⟨hk.1.2.1, ⟨hk.1.2.2.1, ⟨hk.1.2.2.2.1, ⟨hk.1.2.2.2.2.1, ⟨hk.1.2.2.2.2.2.1, ⟨hk.1.2.2.2.2.2.2.1, ⟨hk.1.2.2.2.2.2.2.2.1, ⟨hk.1.2.2.2.2.2.2.2.2.1, hk.1.2.2.2.2.2.2.2.2.2⟩⟩⟩⟩⟩⟩⟩⟩⟩)))⟩; replace BK174 : Aside0 (w86.heap[gb174]? = some (.cells #[.int .i64 t168, .slice Ao15 t169.length co15, .int .i64 t172] 27 (0, 0))) := ⟨(by rw [hw]; exact (BF BK174.out NB174_255.out))⟩; replace BK207 : Aside0 (w86.heap[gb207]? = some (.cells #[.int .i64 t202, .slice Ao28 t203.length co28, .int .i64 t206] 27 (0, 0))) := ⟨(by rw [hw]; exact (BF BK207.out NB207_255.out))⟩; replace BK222 : Aside0 (w86.heap[gb222]? = some (.cells #[.int .i64 t208, .slice Ao41 t209.length co41, .int .i64 t212] 27 (0, 0))) := ⟨(by rw [hw]; exact (BF BK222.out NB222_255.out))⟩; replace BK223 : Aside0 (w86.heap[gb223]? = some (.cells #[.int .i64 t213, .int .i64 t214, .int .i64 t215, .int .i64 t216, .int .i64 t217, .int .i64 t218, .string t219, .int .i64 t220] 36 (0, 0))) := ⟨(by rw [hw]; exact (BF BK223.out NB223_255.out))⟩; replace BK238 : Aside0 (w86.heap[gb238]? = some (.cells #[.int .i64 t224, .slice Ao57 t225.length co57, .int .i64 t228] 27 (0, 0))) := ⟨(by rw [hw]; exact (BF BK238.out NB238_255.out))⟩; replace BK239 : Aside0 (w86.heap[gb239]? = some (.cells #[.int .i64 t229, .int .i64 t230, .int .i64 t231, .int .i64 t232, .int .i64 t233, .int .i64 t234, .string t235, .int .i64 t236] 36 (0, 0))) := ⟨(by rw [hw]; exact (BF BK239.out NB239_255.out))⟩; replace BK254 : Aside0 (w86.heap[gb254]? = some (.cells #[.int .i64 t240, .slice Ao77 t241.length co77, .int .i64 t244] 27 (0, 0))) := ⟨(by rw [hw]; exact (BF BK254.out NB254_255.out))⟩; replace BK255 : Aside0 (w86.heap[gb255]? = some (.cells #[.int .i64 t245, .int .i64 t246, .int .i64 t247, .int .i64 t248, .int .i64 t249, .int .i64 t250, .string t251, .int .i64 t252] 36 (0, 0))) := ⟨(by rw [hw]; exact (BP BK255.out (by rfl)))⟩; replace HB : Aside0 (Below w.heap.size w w86) := ⟨(by rw [hw]; exact (LG HB.out (G1 GE255.out G0)))⟩; clear hw; obtain ⟨hcz87_0, hcz87_1, hcz87_2, hfz87_0, hfz87_1, hfz87_2⟩ := cz3 BK207.out) | ((with_reducible refine gate_callee (f := 15) rfl ?_); refine goesL_ (some 47) rfl rfl Try.func15 (by kernel_rfl) rfl #[.agg #[.int .i64 t202, .slice Ao28 t203.length co28, .int .i64 t206]] rfl (by (try simp only [List.map_toArray, List.map_cons, List.map_nil]); first | done | rfl | (simp only [List.length_drop, List.length_take]; rfl)) ?_; (with_reducible refine (feed_All.calls k t202 (fun k_ => some k_ = (.slice Ao28 t203.length co28 : Value).ownBlock) _ _ t203 t206 t256 t257 t260 t261 _ ?side1 A9.out).mono ?_); (case side1 => exact Kd.R_V (Kd.R_tight rfl (Kd.R_types (Kd.R_types (Kd.R_types (Kd.R_types (Kd.R_types (HO205.out) BK174.out (by decide)) BK207.out (by decide)) BK222.out (by decide)) BK238.out (by decide)) BK254.out (by decide)))); rintro e w88 ⟨v258, v262, rfl, ho0, ho1, hb⟩; refine ⟨_, rfl, ?_⟩; replace HO211 := Aside0.mk (Kd.V_elder' (Kd.VA HO211.out) (Kd.R_base ho1) hb); replace HO227 := Aside0.mk (Kd.V_elder' (Kd.VA HO227.out) (Kd.R_base ho1) hb); replace HO243 := Aside0.mk (Kd.V_elder' (Kd.VA HO243.out) (Kd.R_base ho1) hb); have HO259 := Aside0.mk (Kd.V_lower (Kd.V_mono (ok' := fun k_ => some k_ ≠ (v262 : Value).ownBlock ∧ some k_ ≠ (.slice Ao15 t169.length co15 : Value).ownBlock ∧ some k_ ≠ (v200 : Value).ownBlock ∧ k_ ≠ gb174 ∧ k_ ≠ gb207 ∧ k_ ≠ gb222 ∧ k_ ≠ gb223 ∧ k_ ≠ gb238 ∧ k_ ≠ gb239 ∧ k_ ≠ gb254 ∧ k_ ≠ gb255) ho0 (fun k_ hk_ => ⟨hk_.2, Or.elim hk_.1 (fun hs_ => ((Kd.R_types (Kd.R_types (Kd.R_types (Kd.R_types (Kd.R_types (HO205.out) BK174.out (by decide)) BK207.out (by decide)) BK222.out (by decide)) BK238.out (by decide)) BK254.out (by decide)).1 k_ hs_.symm).1.1.1.1.1.1) (fun hn_ => (Kd.fresh' (Kd.R_lt (Kd.RA HO171.out)) k_ hn_)), Or.elim hk_.1 (fun hs_ => ((Kd.R_types (Kd.R_types (Kd.R_types (Kd.R_types (Kd.R_types (HO205.out) BK174.out (by decide)) BK207.out (by decide)) BK222.out (by decide)) BK238.out (by decide)) BK254.out (by decide)).1 k_ hs_.symm).1.1.1.1.1.2.1) (fun hn_ => (Kd.fresh' (Kd.R_lt (Kd.RA HO201.out)) k_ hn_)), Or.elim hk_.1 (fun hs_ => ((Kd.R_types (Kd.R_types (Kd.R_types (Kd.R_types (Kd.R_types (HO205.out) BK174.out (by decide)) BK207.out (by decide)) BK222.out (by decide)) BK238.out (by decide)) BK254.out (by decide)).1 k_ hs_.symm).1.1.1.1.2) (fun hn_ => (Kd.freshB (g := gb174) (o := .cells #[.int .i64 t168, .slice Ao15 t169.length co15, .int .i64 t172] 27 (0, 0)) (BA BK174.out) k_ hn_)), Or.elim hk_.1 (fun hs_ => ((Kd.R_types (Kd.R_types (Kd.R_types (Kd.R_types (Kd.R_types (HO205.out) BK174.out (by decide)) BK207.out (by decide)) BK222.out (by decide)) BK238.out (by decide)) BK254.out (by decide)).1 k_ hs_.symm).1.1.1.2) (fun hn_ => (Kd.freshB (g := gb207) (o := .cells #[.int .i64 t202, .slice Ao28 t203.length co28, .int .i64 t206] 27 (0, 0)) (BA BK207.out) k_ hn_)), Or.elim hk_.1 (fun hs_ => ((Kd.R_types (Kd.R_types (Kd.R_types (Kd.R_types (Kd.R_types (HO205.out) BK174.out (by decide)) BK207.out (by decide)) BK222.out (by decide)) BK238.out (by decide)) BK254.out (by decide)).1 k_ hs_.symm).1.1.2) (fun hn_ => (Kd.freshB (g := gb222) (o := .cells #[.int .i64 t208, .slice Ao41 t209.length co41, .int .i64 t212] 27 (0, 0)) (BA BK222.out) k_ hn_)), Or.elim hk_.1 (fun hs_ => ((Kd.R_types (Kd.R_types (Kd.R_types (Kd.R_types (Kd.R_types (HO205.out) BK174.out (by decide)) BK207.out (by decide)) BK222.out (by decide)) BK238.out (by decide)) BK254.out (by decide)).1 k_ hs_.symm).1.1.1.1.1.2.2.1) (fun hn_ => (Kd.freshB (g := gb223) (o := .cells #[.int .i64 t213, .int .i64 t214, .int .i64 t215, .int .i64 t216, .int .i64 t217, .int .i64 t218, .string t219, .int .i64 t220] 36 (0, 0)) (BA BK223.out) k_ hn_)), Or.elim hk_.1 (fun hs_ => ((Kd.R_types (Kd.R_types (Kd.R_types (Kd.R_types (Kd.R_types (HO205.out) BK174.out (by decide)) BK207.out (by decide)) BK222.out (by decide)) BK238.out (by decide)) BK254.out (by decide)).1 k_ hs_.symm).1.2) (fun hn_ => (Kd.freshB (g := gb238) (o := .cells #[.int .i64 t224, .slice Ao57 t225.length co57, .int .i64 t228] 27 (0, 0)) (BA BK238.out) k_ hn_)), Or.elim hk_.1 (fun hs_ => ((Kd.R_types (Kd.R_types (Kd.R_types (Kd.R_types (Kd.R_types (HO205.out) BK174.out (by decide)) BK207.out (by decide)) BK222.out (by decide)) BK238.out (by decide)) BK254.out (by decide)).1 k_ hs_.symm).1.1.1.1.1.2.2.2.1) (fun hn_ => (Kd.freshB (g := gb239) (o := .cells #[.int .i64 t229, .int .i64 t230, .int .i64 t231, .int .i64 t232, .int .i64 t233, .int .i64 t234, .string t235, .int .i64 t236] 36 (0, 0)) (BA BK239.out) k_ hn_)), Or.elim hk_.1 (fun hs_ => ((Kd.R_types (Kd.R_types (Kd.R_types (Kd.R_types (Kd.R_types (HO205.out) BK174.out (by decide)) BK207.out (by decide)) BK222.out (by decide)) BK238.out (by decide)) BK254.out (by decide)).1 k_ hs_.symm).2) (fun hn_ => (Kd.freshB (g := gb254) (o := .cells #[.int .i64 t240, .slice Ao77 t241.length co77, .int .i64 t244] 27 (0, 0)) (BA BK254.out) k_ hn_)), Or.elim hk_.1 (fun hs_ => ((Kd.R_types (Kd.R_types (Kd.R_types (Kd.R_types (Kd.R_types (HO205.out) BK174.out (by decide)) BK207.out (by decide)) BK222.out (by decide)) BK238.out (by decide)) BK254.out (by decide)).1 k_ hs_.symm).1.1.1.1.1.2.2.2.2) (fun hn_ => (Kd.freshB (g := gb255) (o := .cells #[.int .i64 t245, .int .i64 t246, .int .i64 t247, .int .i64 t248, .int .i64 t249, .int .i64 t250, .string t251, .int .i64 t252] 36 (0, 0)) (BA BK255.out) k_ hn_))⟩)) (below_size (LA HB.out))); have HO263 := Aside0.mk (Kd.R_lower (Kd.R_newB (Kd.R_newB (Kd.R_newB (Kd.R_new' (Kd.R_new' (Kd.R_new' (Kd.R_mono (ok' := fun k_ => True) ho1 (fun _ hk_ => trivial)) (Kd.R_lt (Kd.RA HO171.out))) (Kd.R_lt (Kd.RA HO201.out))) (Kd.R_lt (Kd.RA HO205.out))) (g := gb223) (o := .cells #[.int .i64 t213, .int .i64 t214, .int .i64 t215, .int .i64 t216, .int .i64 t217, .int .i64 t218, .string t219, .int .i64 t220] 36 (0, 0)) (BA BK223.out)) (g := gb239) (o := .cells #[.int .i64 t229, .int .i64 t230, .int .i64 t231, .int .i64 t232, .int .i64 t233, .int .i64 t234, .string t235, .int .i64 t236] 36 (0, 0)) (BA BK239.out)) (g := gb255) (o := .cells #[.int .i64 t245, .int .i64 t246, .int .i64 t247, .int .i64 t248, .int .i64 t249, .int .i64 t250, .string t251, .int .i64 t252] 36 (0, 0)) (BA BK255.out)) (below_size (LA HB.out))); replace HO171 := Aside0.mk (Kd.R_elder' (Kd.RA HO171.out) (Kd.R_base ho1) hb); replace HO201 := Aside0.mk (Kd.R_elder' (Kd.RA HO201.out) (Kd.R_base ho1) hb); replace HO205 := Aside0.mk (Kd.R_elder' (Kd.RA HO205.out) (Kd.R_base ho1) hb); replace BK174 := Aside0.mk (blk_below (BA BK174.out) hb); replace BK207 := Aside0.mk (blk_below (BA BK207.out) hb); replace BK222 := Aside0.mk (blk_below (BA BK222.out) hb); replace BK223 := Aside0.mk (blk_below (BA BK223.out) hb); replace BK238 := Aside0.mk (blk_below (BA BK238.out) hb); replace BK239 := Aside0.mk (blk_below (BA BK239.out) hb); replace BK254 := Aside0.mk (blk_below (BA BK254.out) hb); replace BK255 := Aside0.mk (blk_below (BA BK255.out) hb); replace HB := Aside0.mk (below_step (LA HB.out) hb); (try clear hb); (try clear hb2); (try clear hk); (try clear hi); (try clear ho0); (try clear ho1)) | ((with_reducible refine gate_dst (N := 13) rfl ?_); (try (refine gate_guard (by rfl) ?_; dsimp only)); refine box_event ?hg (N := 13) ?hd (cs := #[.int .i64 0, .slice none 0 0, .int .i64 0]) (t := 27) ?hr ?_; (case hd => rfl); (case hg => rfl); (case hr => first | (go_simp; done) | (go_simp; rfl)); intro gb264 hg w89 hbox hb; replace HO171 := Aside0.mk (Kd.R_below (Kd.RA HO171.out) hb); replace HO201 := Aside0.mk (Kd.R_below (Kd.RA HO201.out) hb); replace HO205 := Aside0.mk (Kd.R_below (Kd.RA HO205.out) hb); replace HO211 := Aside0.mk (Kd.V_below (Kd.V_elderB (Kd.VA HO211.out) gb264 (Nat.le_of_eq hg.symm)) hb); replace HO227 := Aside0.mk (Kd.V_below (Kd.V_elderB (Kd.VA HO227.out) gb264 (Nat.le_of_eq hg.symm)) hb); replace HO243 := Aside0.mk (Kd.V_below (Kd.V_elderB (Kd.VA HO243.out) gb264 (Nat.le_of_eq hg.symm)) hb); replace HO259 := Aside0.mk (Kd.V_below (Kd.V_elderB (Kd.VA HO259.out) gb264 (Nat.le_of_eq hg.symm)) hb); replace HO263 := Aside0.mk (Kd.R_below (Kd.RA HO263.out) hb); have BK264 := Aside0.mk (hbox); have GE264 := Aside0.mk (ge1 hg (LA HB.out)); replace HB := Aside0.mk (below_step (LA HB.out) hb); have NB174_264 := Aside0.mk ((by rw [hg]; exact Nat.ne_of_lt (blk_lt (g := gb174) (o := .cells #[.int .i64 t168, .slice Ao15 t169.length co15, .int .i64 t172] 27 (0, 0)) (BA BK174.out)) : gb174 ≠ gb264)); have NB264_174 := Aside0.mk ((by rw [hg]; exact Nat.ne_of_gt (blk_lt (g := gb174) (o := .cells #[.int .i64 t168, .slice Ao15 t169.length co15, .int .i64 t172] 27 (0, 0)) (BA BK174.out)) : gb264 ≠ gb174)); replace BK174 := Aside0.mk (blk_below (BA BK174.out) hb); have NB207_264 := Aside0.mk ((by rw [hg]; exact Nat.ne_of_lt (blk_lt (g := gb207) (o := .cells #[.int .i64 t202, .slice Ao28 t203.length co28, .int .i64 t206] 27 (0, 0)) (BA BK207.out)) : gb207 ≠ gb264)); have NB264_207 := Aside0.mk ((by rw [hg]; exact Nat.ne_of_gt (blk_lt (g := gb207) (o := .cells #[.int .i64 t202, .slice Ao28 t203.length co28, .int .i64 t206] 27 (0, 0)) (BA BK207.out)) : gb264 ≠ gb207)); replace BK207 := Aside0.mk (blk_below (BA BK207.out) hb); have NB222_264 := Aside0.mk ((by rw [hg]; exact Nat.ne_of_lt (blk_lt (g := gb222) (o := .cells #[.int .i64 t208, .slice Ao41 t209.length co41, .int .i64 t212] 27 (0, 0)) (BA BK222.out)) : gb222 ≠ gb264)); have NB264_222 := Aside0.mk ((by rw [hg]; exact Nat.ne_of_gt (blk_lt (g := gb222) (o := .cells #[.int .i64 t208, .slice Ao41 t209.length co41, .int .i64 t212] 27 (0, 0)) (BA BK222.out)) : gb264 ≠ gb222)); replace BK222 := Aside0.mk (blk_below (BA BK222.out) hb); have NB223_264 := Aside0.mk ((by rw [hg]; exact Nat.ne_of_lt (blk_lt (g := gb223) (o := .cells #[.int .i64 t213, .int .i64 t214, .int .i64 t215, .int .i64 t216, .int .i64 t217, .int .i64 t218, .string t219, .int .i64 t220] 36 (0, 0)) (BA BK223.out)) : gb223 ≠ gb264)); have NB264_223 := Aside0.mk ((by rw [hg]; exact Nat.ne_of_gt (blk_lt (g := gb223) (o := .cells #[.int .i64 t213, .int .i64 t214, .int .i64 t215, .int .i64 t216, .int .i64 t217, .int .i64 t218, .string t219, .int .i64 t220] 36 (0, 0)) (BA BK223.out)) : gb264 ≠ gb223)); replace BK223 := Aside0.mk (blk_below (BA BK223.out) hb); have NB238_264 := Aside0.mk ((by rw [hg]; exact Nat.ne_of_lt (blk_lt (g := gb238) (o := .cells #[.int .i64 t224, .slice Ao57 t225.length co57, .int .i64 t228] 27 (0, 0)) (BA BK238.out)) : gb238 ≠ gb264)); have NB264_238 := Aside0.mk ((by rw [hg]; exact Nat.ne_of_gt (blk_lt (g := gb238) (o := .cells #[.int .i64 t224, .slice Ao57 t225.length co57, .int .i64 t228] 27 (0, 0)) (BA BK238.out)) : gb264 ≠ gb238)); replace BK238 := Aside0.mk (blk_below (BA BK238.out) hb); have NB239_264 := Aside0.mk ((by rw [hg]; exact Nat.ne_of_lt (blk_lt (g := gb239) (o := .cells #[.int .i64 t229, .int .i64 t230, .int .i64 t231, .int .i64 t232, .int .i64 t233, .int .i64 t234, .string t235, .int .i64 t236] 36 (0, 0)) (BA BK239.out)) : gb239 ≠ gb264)); have NB264_239 := Aside0.mk ((by rw [hg]; exact Nat.ne_of_gt (blk_lt (g := gb239) (o := .cells #[.int .i64 t229, .int .i64 t230, .int .i64 t231, .int .i64 t232, .int .i64 t233, .int .i64 t234, .string t235, .int .i64 t236] 36 (0, 0)) (BA BK239.out)) : gb264 ≠ gb239)); replace BK239 := Aside0.mk (blk_below (BA BK239.out) hb); have NB254_264 := Aside0.mk ((by rw [hg]; exact Nat.ne_of_lt (blk_lt (g := gb254) (o := .cells #[.int .i64 t240, .slice Ao77 t241.length co77, .int .i64 t244] 27 (0, 0)) (BA BK254.out)) : gb254 ≠ gb264)); have NB264_254 := Aside0.mk ((by rw [hg]; exact Nat.ne_of_gt (blk_lt (g := gb254) (o := .cells #[.int .i64 t240, .slice Ao77 t241.length co77, .int .i64 t244] 27 (0, 0)) (BA BK254.out)) : gb264 ≠ gb254)); replace BK254 := Aside0.mk (blk_below (BA BK254.out) hb); have NB255_264 := Aside0.mk ((by rw [hg]; exact Nat.ne_of_lt (blk_lt (g := gb255) (o := .cells #[.int .i64 t245, .int .i64 t246, .int .i64 t247, .int .i64 t248, .int .i64 t249, .int .i64 t250, .string t251, .int .i64 t252] 36 (0, 0)) (BA BK255.out)) : gb255 ≠ gb264)); have NB264_255 := Aside0.mk ((by rw [hg]; exact Nat.ne_of_gt (blk_lt (g := gb255) (o := .cells #[.int .i64 t245, .int .i64 t246, .int .i64 t247, .int .i64 t248, .int .i64 t249, .int .i64 t250, .string t251, .int .i64 t252] 36 (0, 0)) (BA BK255.out)) : gb264 ≠ gb255)); replace BK255 := Aside0.mk (blk_below (BA BK255.out) hb); clear hb hbox hg; have hnb90 := NB264_174.out; have hnc90 := NB174_264.out; have hnb91 := NB264_207.out; have hnc91 := NB207_264.out; have hnb92 := NB264_222.out; have hnc92 := NB222_264.out; have hnb93 := NB264_223.out; have hnc93 := NB223_264.out; have hnb94 := NB264_238.out; have hnc94 := NB238_264.out; have hnb95 := NB264_239.out; have hnc95 := NB239_264.out; have hnb96 := NB264_254.out; have hnc96 := NB254_264.out; have hnb97 := NB264_255.out; have hnc97 := NB255_264.out; obtain ⟨hcz98_0, hcz98_1, hcz98_2, hfz98_0, hfz98_1, hfz98_2⟩ := cz3 BK264.out; obtain ⟨Ao99, co99, eo99⟩ := Kd.V_slice HO259.out; subst eo99) | ((with_reducible refine gate_callee (f := 11) rfl ?_); refine goesL_ (some 51) rfl rfl Try.func11 (by kernel_rfl) rfl #[.int .i64 17] rfl (by (try simp only [List.map_toArray, List.map_cons, List.map_nil]); first | done | rfl | (simp only [List.length_drop, List.length_take]; rfl)) ?_; (with_reducible refine (feed_New.calls 17 t265 t266 t269 t270 _ A10.out).mono ?_); rintro e w100 ⟨v267, rfl, ho0, hb⟩; refine ⟨_, rfl, ?_⟩; replace HO211 := Aside0.mk (Kd.V_elder' ((Kd.V_mono (Kd.V_mv (g := gb264) (Kd.V_mono HO211.out (fun k_ hk => (⟨hk, hk.2⟩ : _ ∧ k_ ≠ gb264))) (fun _ hk => hk.2)) (fun _ h_ => h_.1))) (Kd.R_base ho0) hb); replace HO227 := Aside0.mk (Kd.V_elder' ((Kd.V_mono (Kd.V_mv (g := gb264) (Kd.V_mono HO227.out (fun k_ hk => (⟨hk, hk.2⟩ : _ ∧ k_ ≠ gb264))) (fun _ hk => hk.2)) (fun _ h_ => h_.1))) (Kd.R_base ho0) hb); replace HO243 := Aside0.mk (Kd.V_elder' ((Kd.V_mono (Kd.V_mv (g := gb264) (Kd.V_mono HO243.out (fun k_ hk => (⟨hk, hk.2⟩ : _ ∧ k_ ≠ gb264))) (fun _ hk => hk.2)) (fun _ h_ => h_.1))) (Kd.R_base ho0) hb); replace HO259 := Aside0.mk (Kd.V_elder' ((Kd.V_mono (Kd.V_mv (g := gb264) (Kd.V_mono HO259.out (fun k_ hk => (⟨hk, hk.2⟩ : _ ∧ k_ ≠ gb264))) (fun _ hk => hk.2)) (fun _ h_ => h_.1))) (Kd.R_base ho0) hb); have HO268 := Aside0.mk (Kd.R_lower (Kd.R_newB (Kd.R_newB (Kd.R_newB (Kd.R_new' (Kd.R_new' (Kd.R_new' (Kd.R_new' ho0 (Kd.R_lt ((Kd.R_mono (Kd.R_mv (g := gb264) (Kd.R_types HO171.out BK264.out (by decide)) (fun _ hk => hk.2)) (fun _ h_ => h_.1))))) (Kd.R_lt ((Kd.R_mono (Kd.R_mv (g := gb264) (Kd.R_types HO201.out BK264.out (by decide)) (fun _ hk => hk.2)) (fun _ h_ => h_.1))))) (Kd.R_lt ((Kd.R_mono (Kd.R_mv (g := gb264) (Kd.R_types HO205.out BK264.out (by decide)) (fun _ hk => hk.2)) (fun _ h_ => h_.1))))) (Kd.R_lt ((Kd.R_mono (Kd.R_mv (g := gb264) (Kd.R_types HO263.out BK264.out (by decide)) (fun _ hk => hk.2)) (fun _ h_ => h_.1))))) (g := gb223) (o := .cells #[.int .i64 t213, .int .i64 t214, .int .i64 t215, .int .i64 t216, .int .i64 t217, .int .i64 t218, .string t219, .int .i64 t220] 36 (0, 0)) (BF BK223.out NB223_264.out)) (g := gb239) (o := .cells #[.int .i64 t229, .int .i64 t230, .int .i64 t231, .int .i64 t232, .int .i64 t233, .int .i64 t234, .string t235, .int .i64 t236] 36 (0, 0)) (BF BK239.out NB239_264.out)) (g := gb255) (o := .cells #[.int .i64 t245, .int .i64 t246, .int .i64 t247, .int .i64 t248, .int .i64 t249, .int .i64 t250, .string t251, .int .i64 t252] 36 (0, 0)) (BF BK255.out NB255_264.out)) (below_size (LG HB.out (G1 GE264.out G0)))); replace HO171 := Aside0.mk (Kd.R_elder' ((Kd.R_mono (Kd.R_mv (g := gb264) (Kd.R_types HO171.out BK264.out (by decide)) (fun _ hk => hk.2)) (fun _ h_ => h_.1))) (Kd.R_base ho0) hb); replace HO205 := Aside0.mk (Kd.R_elder' ((Kd.R_mono (Kd.R_mv (g := gb264) (Kd.R_types HO205.out BK264.out (by decide)) (fun _ hk => hk.2)) (fun _ h_ => h_.1))) (Kd.R_base ho0) hb); replace HO263 := Aside0.mk (Kd.R_elder' ((Kd.R_mono (Kd.R_mv (g := gb264) (Kd.R_types HO263.out BK264.out (by decide)) (fun _ hk => hk.2)) (fun _ h_ => h_.1))) (Kd.R_base ho0) hb); replace BK174 := Aside0.mk (blk_below (BF BK174.out NB174_264.out) hb); replace BK207 := Aside0.mk (blk_below (BF BK207.out NB207_264.out) hb); replace BK222 := Aside0.mk (blk_below (BF BK222.out NB222_264.out) hb); replace BK223 := Aside0.mk (blk_below (BF BK223.out NB223_264.out) hb); replace BK238 := Aside0.mk (blk_below (BF BK238.out NB238_264.out) hb); replace BK239 := Aside0.mk (blk_below (BF BK239.out NB239_264.out) hb); replace BK254 := Aside0.mk (blk_below (BF BK254.out NB254_264.out) hb); replace BK255 := Aside0.mk (blk_below (BF BK255.out NB255_264.out) hb); replace BK264 := Aside0.mk (blk_below (g := gb264) (o := .cells #[.int .i64 t256, .slice Ao99 t257.length co99, .int .i64 t260] 27 (0, 0)) (BP BK264.out (by rfl)) hb); replace HB := Aside0.mk (below_step (LG HB.out (G1 GE264.out G0)) hb); clear HO201; (try clear hb); (try clear hb2); (try clear hk); (try clear hi); (try clear ho0)) | ((with_reducible refine gate_dst (N := 15) rfl ?_); (try (refine gate_guard (by rfl) ?_; dsimp only)); refine box_event ?hg (N := 15) ?hd (cs := #[.int .i64 0, .slice none 0 0, .int .i64 0]) (t := 27) ?hr ?_; (case hd => rfl); (case hg => rfl); (case hr => first | (go_simp; done) | (go_simp; rfl)); intro gb271 hg w101 hbox hb; replace HO171 := Aside0.mk (Kd.R_below (Kd.RA HO171.out) hb); replace HO205 := Aside0.mk (Kd.R_below (Kd.RA HO205.out) hb); replace HO211 := Aside0.mk (Kd.V_below (Kd.V_elderB (Kd.VA HO211.out) gb271 (Nat.le_of_eq hg.symm)) hb); replace HO227 := Aside0.mk (Kd.V_below (Kd.V_elderB (Kd.VA HO227.out) gb271 (Nat.le_of_eq hg.symm)) hb); replace HO243 := Aside0.mk (Kd.V_below (Kd.V_elderB (Kd.VA HO243.out) gb271 (Nat.le_of_eq hg.symm)) hb); replace HO259 := Aside0.mk (Kd.V_below (Kd.V_elderB (Kd.VA HO259.out) gb271 (Nat.le_of_eq hg.symm)) hb); replace HO263 := Aside0.mk (Kd.R_below (Kd.RA HO263.out) hb); replace HO268 := Aside0.mk (Kd.R_below (Kd.RA HO268.out) hb); have BK271 := Aside0.mk (hbox); have GE271 := Aside0.mk (ge1 hg (LA HB.out)); replace HB := Aside0.mk (below_step (LA HB.out) hb); have NB174_271 := Aside0.mk ((by rw [hg]; exact Nat.ne_of_lt (blk_lt (g := gb174) (o := .cells #[.int .i64 t168, .slice Ao15 t169.length co15, .int .i64 t172] 27 (0, 0)) (BA BK174.out)) : gb174 ≠ gb271)); have NB271_174 := Aside0.mk ((by rw [hg]; exact Nat.ne_of_gt (blk_lt (g := gb174) (o := .cells #[.int .i64 t168, .slice Ao15 t169.length co15, .int .i64 t172] 27 (0, 0)) (BA BK174.out)) : gb271 ≠ gb174)); replace BK174 := Aside0.mk (blk_below (BA BK174.out) hb); have NB207_271 := Aside0.mk ((by rw [hg]; exact Nat.ne_of_lt (blk_lt (g := gb207) (o := .cells #[.int .i64 t202, .slice Ao28 t203.length co28, .int .i64 t206] 27 (0, 0)) (BA BK207.out)) : gb207 ≠ gb271)); have NB271_207 := Aside0.mk ((by rw [hg]; exact Nat.ne_of_gt (blk_lt (g := gb207) (o := .cells #[.int .i64 t202, .slice Ao28 t203.length co28, .int .i64 t206] 27 (0, 0)) (BA BK207.out)) : gb271 ≠ gb207)); replace BK207 := Aside0.mk (blk_below (BA BK207.out) hb); have NB222_271 := Aside0.mk ((by rw [hg]; exact Nat.ne_of_lt (blk_lt (g := gb222) (o := .cells #[.int .i64 t208, .slice Ao41 t209.length co41, .int .i64 t212] 27 (0, 0)) (BA BK222.out)) : gb222 ≠ gb271)); have NB271_222 := Aside0.mk ((by rw [hg]; exact Nat.ne_of_gt (blk_lt (g := gb222) (o := .cells #[.int .i64 t208, .slice Ao41 t209.length co41, .int .i64 t212] 27 (0, 0)) (BA BK222.out)) : gb271 ≠ gb222)); replace BK222 := Aside0.mk (blk_below (BA BK222.out) hb); have NB223_271 := Aside0.mk ((by rw [hg]; exact Nat.ne_of_lt (blk_lt (g := gb223) (o := .cells #[.int .i64 t213, .int .i64 t214, .int .i64 t215, .int .i64 t216, .int .i64 t217, .int .i64 t218, .string t219, .int .i64 t220] 36 (0, 0)) (BA BK223.out)) : gb223 ≠ gb271)); have NB271_223 := Aside0.mk ((by rw [hg]; exact Nat.ne_of_gt (blk_lt (g := gb223) (o := .cells #[.int .i64 t213, .int .i64 t214, .int .i64 t215, .int .i64 t216, .int .i64 t217, .int .i64 t218, .string t219, .int .i64 t220] 36 (0, 0)) (BA BK223.out)) : gb271 ≠ gb223)); replace BK223 := Aside0.mk (blk_below (BA BK223.out) hb); have NB238_271 := Aside0.mk ((by rw [hg]; exact Nat.ne_of_lt (blk_lt (g := gb238) (o := .cells #[.int .i64 t224, .slice Ao57 t225.length co57, .int .i64 t228] 27 (0, 0)) (BA BK238.out)) : gb238 ≠ gb271)); have NB271_238 := Aside0.mk ((by rw [hg]; exact Nat.ne_of_gt (blk_lt (g := gb238) (o := .cells #[.int .i64 t224, .slice Ao57 t225.length co57, .int .i64 t228] 27 (0, 0)) (BA BK238.out)) : gb271 ≠ gb238)); replace BK238 := Aside0.mk (blk_below (BA BK238.out) hb); have NB239_271 := Aside0.mk ((by rw [hg]; exact Nat.ne_of_lt (blk_lt (g := gb239) (o := .cells #[.int .i64 t229, .int .i64 t230, .int .i64 t231, .int .i64 t232, .int .i64 t233, .int .i64 t234, .string t235, .int .i64 t236] 36 (0, 0)) (BA BK239.out)) : gb239 ≠ gb271)); have NB271_239 := Aside0.mk ((by rw [hg]; exact Nat.ne_of_gt (blk_lt (g := gb239) (o := .cells #[.int .i64 t229, .int .i64 t230, .int .i64 t231, .int .i64 t232, .int .i64 t233, .int .i64 t234, .string t235, .int .i64 t236] 36 (0, 0)) (BA BK239.out)) : gb271 ≠ gb239)); replace BK239 := Aside0.mk (blk_below (BA BK239.out) hb); have NB254_271 := Aside0.mk ((by rw [hg]; exact Nat.ne_of_lt (blk_lt (g := gb254) (o := .cells #[.int .i64 t240, .slice Ao77 t241.length co77, .int .i64 t244] 27 (0, 0)) (BA BK254.out)) : gb254 ≠ gb271)); have NB271_254 := Aside0.mk ((by rw [hg]; exact Nat.ne_of_gt (blk_lt (g := gb254) (o := .cells #[.int .i64 t240, .slice Ao77 t241.length co77, .int .i64 t244] 27 (0, 0)) (BA BK254.out)) : gb271 ≠ gb254)); replace BK254 := Aside0.mk (blk_below (BA BK254.out) hb); have NB255_271 := Aside0.mk ((by rw [hg]; exact Nat.ne_of_lt (blk_lt (g := gb255) (o := .cells #[.int .i64 t245, .int .i64 t246, .int .i64 t247, .int .i64 t248, .int .i64 t249, .int .i64 t250, .string t251, .int .i64 t252] 36 (0, 0)) (BA BK255.out)) : gb255 ≠ gb271)); have NB271_255 := Aside0.mk ((by rw [hg]; exact Nat.ne_of_gt (blk_lt (g := gb255) (o := .cells #[.int .i64 t245, .int .i64 t246, .int .i64 t247, .int .i64 t248, .int .i64 t249, .int .i64 t250, .string t251, .int .i64 t252] 36 (0, 0)) (BA BK255.out)) : gb271 ≠ gb255)); replace BK255 := Aside0.mk (blk_below (BA BK255.out) hb); have NB264_271 := Aside0.mk ((by rw [hg]; exact Nat.ne_of_lt (blk_lt (g := gb264) (o := .cells #[.int .i64 t256, .slice Ao99 t257.length co99, .int .i64 t260] 27 (0, 0)) (BA BK264.out)) : gb264 ≠ gb271)); have NB271_264 := Aside0.mk ((by rw [hg]; exact Nat.ne_of_gt (blk_lt (g := gb264) (o := .cells #[.int .i64 t256, .slice Ao99 t257.length co99, .int .i64 t260] 27 (0, 0)) (BA BK264.out)) : gb271 ≠ gb264)); replace BK264 := Aside0.mk (blk_below (BA BK264.out) hb); (try clear HO201); clear hb hbox hg; have hnb102 := NB271_174.out; have hnc102 := NB174_271.out; have hnb103 := NB271_207.out; have hnc103 := NB207_271.out; have hnb104 := NB271_222.out; have hnc104 := NB222_271.out; have hnb105 := NB271_223.out; have hnc105 := NB223_271.out; have hnb106 := NB271_238.out; have hnc106 := NB238_271.out; have hnb107 := NB271_239.out; have hnc107 := NB239_271.out; have hnb108 := NB271_254.out; have hnc108 := NB254_271.out; have hnb109 := NB271_255.out; have hnc109 := NB255_271.out; have hnb110 := NB271_264.out; have hnc110 := NB264_271.out; obtain ⟨hcz111_0, hcz111_1, hcz111_2, hfz111_0, hfz111_1, hfz111_2⟩ := cz3 BK271.out; obtain ⟨Ao112, co112, eo112⟩ := Kd.R_slice HO268.out; subst eo112))
  (try simp only [Act.put, PU])
  go_cut [62] (fun v62 wc => ∃ (kq : Nat) (x62_10 : Bool), v62 = .bool x62_10 ∧ Aside0 (hopperlaw14_live.j0 kq t173 t221 t237 t253 t261 t270 x62_10 t202 t203 t206 t213 t214 t215 t216 t217 t218 t219 t220 t229 t230 t231 t232 t233 t234 t235 t236 = some true) ∧ Aside0 (kq ≤ k) ∧ Aside0 (Kd.R k36 36 wc w.heap.size (fun k_ => some k_ ≠ ((.slice Ao15 t169.length co15) : Value).ownBlock ∧ some k_ ≠ ((.slice Ao28 t203.length co28) : Value).ownBlock ∧ some k_ ≠ ((.slice Ao112 t266.length co112) : Value).ownBlock ∧ k_ ≠ gb223 ∧ k_ ≠ gb239 ∧ k_ ≠ gb255) v262 t261) ∧ Aside0 (Kd.R k36 36 wc w.heap.size (fun k_ => some k_ ≠ (v262 : Value).ownBlock ∧ some k_ ≠ ((.slice Ao28 t203.length co28) : Value).ownBlock ∧ some k_ ≠ ((.slice Ao112 t266.length co112) : Value).ownBlock ∧ k_ ≠ gb223 ∧ k_ ≠ gb239 ∧ k_ ≠ gb255) (.slice Ao15 t169.length co15) t169) ∧ Aside0 (Kd.R k36 36 wc w.heap.size (fun k_ => some k_ ≠ (v262 : Value).ownBlock ∧ some k_ ≠ ((.slice Ao15 t169.length co15) : Value).ownBlock ∧ some k_ ≠ ((.slice Ao112 t266.length co112) : Value).ownBlock ∧ k_ ≠ gb223 ∧ k_ ≠ gb239 ∧ k_ ≠ gb255) (.slice Ao28 t203.length co28) t203) ∧ Aside0 (Kd.V k36 36 wc w.heap.size (fun k_ => some k_ ≠ (v262 : Value).ownBlock ∧ some k_ ≠ ((.slice Ao15 t169.length co15) : Value).ownBlock ∧ some k_ ≠ ((.slice Ao112 t266.length co112) : Value).ownBlock ∧ k_ ≠ gb174 ∧ k_ ≠ gb207 ∧ k_ ≠ gb222 ∧ k_ ≠ gb223 ∧ k_ ≠ gb238 ∧ k_ ≠ gb239 ∧ k_ ≠ gb254 ∧ k_ ≠ gb255 ∧ k_ ≠ gb264 ∧ k_ ≠ gb271) (.slice Ao41 t209.length co41) t209) ∧ Aside0 (Kd.V k36 36 wc w.heap.size (fun k_ => some k_ ≠ (v262 : Value).ownBlock ∧ some k_ ≠ ((.slice Ao15 t169.length co15) : Value).ownBlock ∧ some k_ ≠ ((.slice Ao112 t266.length co112) : Value).ownBlock ∧ k_ ≠ gb174 ∧ k_ ≠ gb207 ∧ k_ ≠ gb222 ∧ k_ ≠ gb223 ∧ k_ ≠ gb238 ∧ k_ ≠ gb239 ∧ k_ ≠ gb254 ∧ k_ ≠ gb255 ∧ k_ ≠ gb264 ∧ k_ ≠ gb271) (.slice Ao57 t225.length co57) t225) ∧ Aside0 (Kd.V k36 36 wc w.heap.size (fun k_ => some k_ ≠ (v262 : Value).ownBlock ∧ some k_ ≠ ((.slice Ao15 t169.length co15) : Value).ownBlock ∧ some k_ ≠ ((.slice Ao112 t266.length co112) : Value).ownBlock ∧ k_ ≠ gb174 ∧ k_ ≠ gb207 ∧ k_ ≠ gb222 ∧ k_ ≠ gb223 ∧ k_ ≠ gb238 ∧ k_ ≠ gb239 ∧ k_ ≠ gb254 ∧ k_ ≠ gb255 ∧ k_ ≠ gb264 ∧ k_ ≠ gb271) (.slice Ao77 t241.length co77) t241) ∧ Aside0 (Kd.V k36 36 wc w.heap.size (fun k_ => some k_ ≠ (v262 : Value).ownBlock ∧ some k_ ≠ ((.slice Ao15 t169.length co15) : Value).ownBlock ∧ some k_ ≠ ((.slice Ao112 t266.length co112) : Value).ownBlock ∧ k_ ≠ gb174 ∧ k_ ≠ gb207 ∧ k_ ≠ gb222 ∧ k_ ≠ gb223 ∧ k_ ≠ gb238 ∧ k_ ≠ gb239 ∧ k_ ≠ gb254 ∧ k_ ≠ gb255 ∧ k_ ≠ gb264 ∧ k_ ≠ gb271) (.slice Ao99 t257.length co99) t257) ∧ Aside0 (Kd.R k36 36 wc w.heap.size (fun k_ => some k_ ≠ (v262 : Value).ownBlock ∧ some k_ ≠ ((.slice Ao15 t169.length co15) : Value).ownBlock ∧ some k_ ≠ ((.slice Ao28 t203.length co28) : Value).ownBlock ∧ k_ ≠ gb223 ∧ k_ ≠ gb239 ∧ k_ ≠ gb255) (.slice Ao112 t266.length co112) t266) ∧ Aside0 (wc.heap[gb174]? = some (.cells #[.int .i64 t168, (.slice Ao15 t169.length co15), .int .i64 t172] 27 (0, 0))) ∧ Aside0 (wc.heap[gb207]? = some (.cells #[.int .i64 t202, (.slice Ao28 t203.length co28), .int .i64 t206] 27 (0, 0))) ∧ Aside0 (wc.heap[gb222]? = some (.cells #[.int .i64 t208, (.slice Ao41 t209.length co41), .int .i64 t212] 27 (0, 0))) ∧ Aside0 (wc.heap[gb223]? = some (.cells #[.int .i64 t213, .int .i64 t214, .int .i64 t215, .int .i64 t216, .int .i64 t217, .int .i64 t218, .string t219, .int .i64 t220] 36 (0, 0))) ∧ Aside0 (wc.heap[gb238]? = some (.cells #[.int .i64 t224, (.slice Ao57 t225.length co57), .int .i64 t228] 27 (0, 0))) ∧ Aside0 (wc.heap[gb239]? = some (.cells #[.int .i64 t229, .int .i64 t230, .int .i64 t231, .int .i64 t232, .int .i64 t233, .int .i64 t234, .string t235, .int .i64 t236] 36 (0, 0))) ∧ Aside0 (wc.heap[gb254]? = some (.cells #[.int .i64 t240, (.slice Ao77 t241.length co77), .int .i64 t244] 27 (0, 0))) ∧ Aside0 (wc.heap[gb255]? = some (.cells #[.int .i64 t245, .int .i64 t246, .int .i64 t247, .int .i64 t248, .int .i64 t249, .int .i64 t250, .string t251, .int .i64 t252] 36 (0, 0))) ∧ Aside0 (wc.heap[gb264]? = some (.cells #[.int .i64 t256, (.slice Ao99 t257.length co99), .int .i64 t260] 27 (0, 0))) ∧ Aside0 (wc.heap[gb271]? = some (.cells #[.int .i64 t265, (.slice Ao112 t266.length co112), .int .i64 t269] 27 (0, 0))) ∧ Aside0 (Below w.heap.size w wc))
  case first =>
    have H := HC11.out
    clear HC11
    by_cases c113 : (t261.length : Int) = 2
    · rw [if_pos c113] at H
      have c113b0 : ((t261.length : Int) == 2) = true := beq_iff_eq.mpr c113
      have c113b1 : ((t261.length : Int) != 2) = false := bne_eq_false_iff_eq.mpr c113
      clear c113
      (first | rw [c113b0] | (simp only [i64_w, i32_w]; rw [c113b0]) | skip)
      have H' := Aside0.mk H
      clear H
      obtain ⟨Ao114, co114, eo114⟩ := Kd.R_slice HO263.out
      subst eo114
      have hnb115 := NB207_174.out
      have hnc115 := NB174_207.out
      have hnb116 := NB207_222.out
      have hnc116 := NB222_207.out
      have hnb117 := NB207_223.out
      have hnc117 := NB223_207.out
      have hnb118 := NB207_238.out
      have hnc118 := NB238_207.out
      have hnb119 := NB207_239.out
      have hnc119 := NB239_207.out
      have hnb120 := NB207_254.out
      have hnc120 := NB254_207.out
      have hnb121 := NB207_255.out
      have hnc121 := NB255_207.out
      have hnb122 := NB207_264.out
      have hnc122 := NB264_207.out
      have hnb123 := NB207_271.out
      have hnc123 := NB271_207.out
      have hcz124_0 : w101.cell? ⟨gb207, 0, none⟩ = some (.int .i64 t202) := (blk_cell BK207.out 0).trans rfl
      have hcz124_1 : w101.cell? ⟨gb207, 1, none⟩ = some (.slice Ao28 t203.length co28) := (blk_cell BK207.out 1).trans rfl
      have hcz124_2 : w101.cell? ⟨gb207, 2, none⟩ = some (.int .i64 t206) := (blk_cell BK207.out 2).trans rfl
      have hfz124_0 := blk_frozen BK207.out 0
      have hfz124_1 := blk_frozen BK207.out 1
      have hfz124_2 := blk_frozen BK207.out 2
      go_wp2
      go_meet
      case rel => exact ⟨_, (((t203.length : Int) != 1)), (by first | (rw [HR_.out]; done) | rfl | (rw [HR_.out]; rfl) | (simp [HR_.out]; done) | (simp; done) | (simp [*]; done)), H', ⟨by first | omega | exact Nat.le_refl _⟩, ⟨by (with_reducible repeat (first | apply Kd.R_alloc | apply Kd.R_drewN | apply Kd.R_drew)); exact Kd.R_mono (Kd.R_mv (g := gb271) (Kd.R_types HO263.out BK271.out (by decide)) (fun _ hk => hk.2)) (fun _ hk => ⟨hk.1.1.1.1.1.1.1.2, ⟨hk.1.1.1.1.1.2, ⟨hk.1.2, ⟨hk.1.1.1.1.2, ⟨hk.1.1.1.2, hk.1.1.2⟩⟩⟩⟩⟩)⟩, ⟨by (with_reducible repeat (first | apply Kd.R_alloc | apply Kd.R_drewN | apply Kd.R_drew)); exact Kd.R_mono (Kd.R_mv (g := gb271) (Kd.R_types HO171.out BK271.out (by decide)) (fun _ hk => hk.2)) (fun _ hk => ⟨hk.1.1.2, ⟨hk.1.1.1.2.1, ⟨hk.1.2, ⟨hk.1.1.1.2.2.1, ⟨hk.1.1.1.2.2.2.1, hk.1.1.1.2.2.2.2⟩⟩⟩⟩⟩)⟩, ⟨by (with_reducible repeat (first | apply Kd.R_alloc | apply Kd.R_drewN | apply Kd.R_drew)); exact Kd.R_mono (Kd.R_mv (g := gb271) (Kd.R_types HO205.out BK271.out (by decide)) (fun _ hk => hk.2)) (fun _ hk => ⟨hk.1.1.2, ⟨hk.1.1.1.1, ⟨hk.1.2, ⟨hk.1.1.1.2.2.1, ⟨hk.1.1.1.2.2.2.1, hk.1.1.1.2.2.2.2⟩⟩⟩⟩⟩)⟩, ⟨by (with_reducible repeat (first | apply Kd.V_alloc | apply Kd.V_drewN | apply Kd.V_drew)); exact Kd.V_mono (Kd.V_mv (g := gb271) (Kd.V_mono HO211.out (fun k_ hk => (⟨hk, hk.2⟩ : _ ∧ k_ ≠ gb271))) (fun _ hk => hk.2)) (fun _ hk => ⟨hk.1.1.1.1.2, ⟨hk.1.1.1.1.1.1, ⟨hk.1.1.2, ⟨hk.1.1.1.1.1.2.2.1, ⟨hk.1.1.1.1.1.2.2.2.1, ⟨hk.1.1.1.1.1.2.2.2.2.1, ⟨hk.1.1.1.1.1.2.2.2.2.2.1, ⟨hk.1.1.1.1.1.2.2.2.2.2.2.1, ⟨hk.1.1.1.1.1.2.2.2.2.2.2.2.1, ⟨hk.1.1.1.1.1.2.2.2.2.2.2.2.2.1, ⟨hk.1.1.1.1.1.2.2.2.2.2.2.2.2.2, ⟨hk.1.1.1.2, hk.1.2⟩⟩⟩⟩⟩⟩⟩⟩⟩⟩⟩⟩)⟩, ⟨by (with_reducible repeat (first | apply Kd.V_alloc | apply Kd.V_drewN | apply Kd.V_drew)); exact Kd.V_mono (Kd.V_mv (g := gb271) (Kd.V_mono HO227.out (fun k_ hk => (⟨hk, hk.2⟩ : _ ∧ k_ ≠ gb271))) (fun _ hk => hk.2)) (fun _ hk => ⟨hk.1.1.1.1.2, ⟨hk.1.1.1.1.1.1, ⟨hk.1.1.2, ⟨hk.1.1.1.1.1.2.2.1, ⟨hk.1.1.1.1.1.2.2.2.1, ⟨hk.1.1.1.1.1.2.2.2.2.1, ⟨hk.1.1.1.1.1.2.2.2.2.2.1, ⟨hk.1.1.1.1.1.2.2.2.2.2.2.1, ⟨hk.1.1.1.1.1.2.2.2.2.2.2.2.1, ⟨hk.1.1.1.1.1.2.2.2.2.2.2.2.2.1, ⟨hk.1.1.1.1.1.2.2.2.2.2.2.2.2.2, ⟨hk.1.1.1.2, hk.1.2⟩⟩⟩⟩⟩⟩⟩⟩⟩⟩⟩⟩)⟩, ⟨by (with_reducible repeat (first | apply Kd.V_alloc | apply Kd.V_drewN | apply Kd.V_drew)); exact Kd.V_mono (Kd.V_mv (g := gb271) (Kd.V_mono HO243.out (fun k_ hk => (⟨hk, hk.2⟩ : _ ∧ k_ ≠ gb271))) (fun _ hk => hk.2)) (fun _ hk => ⟨hk.1.1.1.1.2, ⟨hk.1.1.1.1.1.1, ⟨hk.1.1.2, ⟨hk.1.1.1.1.1.2.2.1, ⟨hk.1.1.1.1.1.2.2.2.1, ⟨hk.1.1.1.1.1.2.2.2.2.1, ⟨hk.1.1.1.1.1.2.2.2.2.2.1, ⟨hk.1.1.1.1.1.2.2.2.2.2.2.1, ⟨hk.1.1.1.1.1.2.2.2.2.2.2.2.1, ⟨hk.1.1.1.1.1.2.2.2.2.2.2.2.2.1, ⟨hk.1.1.1.1.1.2.2.2.2.2.2.2.2.2, ⟨hk.1.1.1.2, hk.1.2⟩⟩⟩⟩⟩⟩⟩⟩⟩⟩⟩⟩)⟩, ⟨by (with_reducible repeat (first | apply Kd.V_alloc | apply Kd.V_drewN | apply Kd.V_drew)); exact Kd.V_mono (Kd.V_mv (g := gb271) (Kd.V_mono HO259.out (fun k_ hk => (⟨hk, hk.2⟩ : _ ∧ k_ ≠ gb271))) (fun _ hk => hk.2)) (fun _ hk => ⟨hk.1.1.1.1.1, ⟨hk.1.1.1.1.2.1, ⟨hk.1.1.2, ⟨hk.1.1.1.1.2.2.2.1, ⟨hk.1.1.1.1.2.2.2.2.1, ⟨hk.1.1.1.1.2.2.2.2.2.1, ⟨hk.1.1.1.1.2.2.2.2.2.2.1, ⟨hk.1.1.1.1.2.2.2.2.2.2.2.1, ⟨hk.1.1.1.1.2.2.2.2.2.2.2.2.1, ⟨hk.1.1.1.1.2.2.2.2.2.2.2.2.2.1, ⟨hk.1.1.1.1.2.2.2.2.2.2.2.2.2.2, ⟨hk.1.1.1.2, hk.1.2⟩⟩⟩⟩⟩⟩⟩⟩⟩⟩⟩⟩)⟩, ⟨by (with_reducible repeat (first | apply Kd.R_alloc | apply Kd.R_drewN | apply Kd.R_drew)); exact Kd.R_mono (Kd.R_mv (g := gb271) (Kd.R_types HO268.out BK271.out (by decide)) (fun _ hk => hk.2)) (fun _ hk => ⟨hk.1.1.1.1.2, ⟨hk.1.1.1.1.1.1.1.2, ⟨hk.1.1.1.1.1.2, ⟨hk.1.1.1.2, ⟨hk.1.1.2, hk.1.2⟩⟩⟩⟩⟩)⟩, ⟨by exact BF BK174.out NB174_271.out⟩, ⟨by exact BF BK207.out NB207_271.out⟩, ⟨by exact BF BK222.out NB222_271.out⟩, ⟨by exact BF BK223.out NB223_271.out⟩, ⟨by exact BF BK238.out NB238_271.out⟩, ⟨by exact BF BK239.out NB239_271.out⟩, ⟨by exact BF BK254.out NB254_271.out⟩, ⟨by exact BF BK255.out NB255_271.out⟩, ⟨by exact BF BK264.out NB264_271.out⟩, ⟨by exact BP BK271.out (by rfl)⟩, ⟨LG HB.out (G1 GE174.out (G1 GE207.out (G1 GE222.out (G1 GE223.out (G1 GE238.out (G1 GE239.out (G1 GE254.out (G1 GE255.out (G1 GE264.out (G1 GE271.out G0))))))))))⟩⟩
    · rw [if_neg c113] at H
      have c113b0 : ((t261.length : Int) == 2) = false := beq_eq_false_iff_ne.mpr c113
      have c113b1 : ((t261.length : Int) != 2) = true := bne_iff_ne.mpr c113
      (first | rw [c113b0] | (simp only [i64_w, i32_w]; rw [c113b0]) | skip)
      have H' := Aside0.mk H
      clear H
      obtain ⟨Ao125, co125, eo125⟩ := Kd.R_slice HO263.out
      subst eo125
      go_wp2
      go_meet
      case rel => exact ⟨_, (true), (by first | (rw [HR_.out]; done) | rfl | (rw [HR_.out]; rfl) | (simp [HR_.out]; done) | (simp; done) | (simp [*]; done)), H', ⟨by first | omega | exact Nat.le_refl _⟩, ⟨by (with_reducible repeat (first | apply Kd.R_alloc | apply Kd.R_drewN | apply Kd.R_drew)); exact Kd.R_mono (Kd.R_mv (g := gb271) (Kd.R_types HO263.out BK271.out (by decide)) (fun _ hk => hk.2)) (fun _ hk => ⟨hk.1.1.1.1.1.1.1.2, ⟨hk.1.1.1.1.1.2, ⟨hk.1.2, ⟨hk.1.1.1.1.2, ⟨hk.1.1.1.2, hk.1.1.2⟩⟩⟩⟩⟩)⟩, ⟨by (with_reducible repeat (first | apply Kd.R_alloc | apply Kd.R_drewN | apply Kd.R_drew)); exact Kd.R_mono (Kd.R_mv (g := gb271) (Kd.R_types HO171.out BK271.out (by decide)) (fun _ hk => hk.2)) (fun _ hk => ⟨hk.1.1.2, ⟨hk.1.1.1.2.1, ⟨hk.1.2, ⟨hk.1.1.1.2.2.1, ⟨hk.1.1.1.2.2.2.1, hk.1.1.1.2.2.2.2⟩⟩⟩⟩⟩)⟩, ⟨by (with_reducible repeat (first | apply Kd.R_alloc | apply Kd.R_drewN | apply Kd.R_drew)); exact Kd.R_mono (Kd.R_mv (g := gb271) (Kd.R_types HO205.out BK271.out (by decide)) (fun _ hk => hk.2)) (fun _ hk => ⟨hk.1.1.2, ⟨hk.1.1.1.1, ⟨hk.1.2, ⟨hk.1.1.1.2.2.1, ⟨hk.1.1.1.2.2.2.1, hk.1.1.1.2.2.2.2⟩⟩⟩⟩⟩)⟩, ⟨by (with_reducible repeat (first | apply Kd.V_alloc | apply Kd.V_drewN | apply Kd.V_drew)); exact Kd.V_mono (Kd.V_mv (g := gb271) (Kd.V_mono HO211.out (fun k_ hk => (⟨hk, hk.2⟩ : _ ∧ k_ ≠ gb271))) (fun _ hk => hk.2)) (fun _ hk => ⟨hk.1.1.1.1.2, ⟨hk.1.1.1.1.1.1, ⟨hk.1.1.2, ⟨hk.1.1.1.1.1.2.2.1, ⟨hk.1.1.1.1.1.2.2.2.1, ⟨hk.1.1.1.1.1.2.2.2.2.1, ⟨hk.1.1.1.1.1.2.2.2.2.2.1, ⟨hk.1.1.1.1.1.2.2.2.2.2.2.1, ⟨hk.1.1.1.1.1.2.2.2.2.2.2.2.1, ⟨hk.1.1.1.1.1.2.2.2.2.2.2.2.2.1, ⟨hk.1.1.1.1.1.2.2.2.2.2.2.2.2.2, ⟨hk.1.1.1.2, hk.1.2⟩⟩⟩⟩⟩⟩⟩⟩⟩⟩⟩⟩)⟩, ⟨by (with_reducible repeat (first | apply Kd.V_alloc | apply Kd.V_drewN | apply Kd.V_drew)); exact Kd.V_mono (Kd.V_mv (g := gb271) (Kd.V_mono HO227.out (fun k_ hk => (⟨hk, hk.2⟩ : _ ∧ k_ ≠ gb271))) (fun _ hk => hk.2)) (fun _ hk => ⟨hk.1.1.1.1.2, ⟨hk.1.1.1.1.1.1, ⟨hk.1.1.2, ⟨hk.1.1.1.1.1.2.2.1, ⟨hk.1.1.1.1.1.2.2.2.1, ⟨hk.1.1.1.1.1.2.2.2.2.1, ⟨hk.1.1.1.1.1.2.2.2.2.2.1, ⟨hk.1.1.1.1.1.2.2.2.2.2.2.1, ⟨hk.1.1.1.1.1.2.2.2.2.2.2.2.1, ⟨hk.1.1.1.1.1.2.2.2.2.2.2.2.2.1, ⟨hk.1.1.1.1.1.2.2.2.2.2.2.2.2.2, ⟨hk.1.1.1.2, hk.1.2⟩⟩⟩⟩⟩⟩⟩⟩⟩⟩⟩⟩)⟩, ⟨by (with_reducible repeat (first | apply Kd.V_alloc | apply Kd.V_drewN | apply Kd.V_drew)); exact Kd.V_mono (Kd.V_mv (g := gb271) (Kd.V_mono HO243.out (fun k_ hk => (⟨hk, hk.2⟩ : _ ∧ k_ ≠ gb271))) (fun _ hk => hk.2)) (fun _ hk => ⟨hk.1.1.1.1.2, ⟨hk.1.1.1.1.1.1, ⟨hk.1.1.2, ⟨hk.1.1.1.1.1.2.2.1, ⟨hk.1.1.1.1.1.2.2.2.1, ⟨hk.1.1.1.1.1.2.2.2.2.1, ⟨hk.1.1.1.1.1.2.2.2.2.2.1, ⟨hk.1.1.1.1.1.2.2.2.2.2.2.1, ⟨hk.1.1.1.1.1.2.2.2.2.2.2.2.1, ⟨hk.1.1.1.1.1.2.2.2.2.2.2.2.2.1, ⟨hk.1.1.1.1.1.2.2.2.2.2.2.2.2.2, ⟨hk.1.1.1.2, hk.1.2⟩⟩⟩⟩⟩⟩⟩⟩⟩⟩⟩⟩)⟩, ⟨by (with_reducible repeat (first | apply Kd.V_alloc | apply Kd.V_drewN | apply Kd.V_drew)); exact Kd.V_mono (Kd.V_mv (g := gb271) (Kd.V_mono HO259.out (fun k_ hk => (⟨hk, hk.2⟩ : _ ∧ k_ ≠ gb271))) (fun _ hk => hk.2)) (fun _ hk => ⟨hk.1.1.1.1.1, ⟨hk.1.1.1.1.2.1, ⟨hk.1.1.2, ⟨hk.1.1.1.1.2.2.2.1, ⟨hk.1.1.1.1.2.2.2.2.1, ⟨hk.1.1.1.1.2.2.2.2.2.1, ⟨hk.1.1.1.1.2.2.2.2.2.2.1, ⟨hk.1.1.1.1.2.2.2.2.2.2.2.1, ⟨hk.1.1.1.1.2.2.2.2.2.2.2.2.1, ⟨hk.1.1.1.1.2.2.2.2.2.2.2.2.2.1, ⟨hk.1.1.1.1.2.2.2.2.2.2.2.2.2.2, ⟨hk.1.1.1.2, hk.1.2⟩⟩⟩⟩⟩⟩⟩⟩⟩⟩⟩⟩)⟩, ⟨by (with_reducible repeat (first | apply Kd.R_alloc | apply Kd.R_drewN | apply Kd.R_drew)); exact Kd.R_mono (Kd.R_mv (g := gb271) (Kd.R_types HO268.out BK271.out (by decide)) (fun _ hk => hk.2)) (fun _ hk => ⟨hk.1.1.1.1.2, ⟨hk.1.1.1.1.1.1.1.2, ⟨hk.1.1.1.1.1.2, ⟨hk.1.1.1.2, ⟨hk.1.1.2, hk.1.2⟩⟩⟩⟩⟩)⟩, ⟨by exact BF BK174.out NB174_271.out⟩, ⟨by exact BF BK207.out NB207_271.out⟩, ⟨by exact BF BK222.out NB222_271.out⟩, ⟨by exact BF BK223.out NB223_271.out⟩, ⟨by exact BF BK238.out NB238_271.out⟩, ⟨by exact BF BK239.out NB239_271.out⟩, ⟨by exact BF BK254.out NB254_271.out⟩, ⟨by exact BF BK255.out NB255_271.out⟩, ⟨by exact BF BK264.out NB264_271.out⟩, ⟨by exact BP BK271.out (by rfl)⟩, ⟨LG HB.out (G1 GE174.out (G1 GE207.out (G1 GE222.out (G1 GE223.out (G1 GE238.out (G1 GE239.out (G1 GE254.out (G1 GE255.out (G1 GE264.out (G1 GE271.out G0))))))))))⟩⟩
  case rest =>
    clear HC11
    try clear c1
    try clear c2
    try clear p2
    try clear c3
    try clear c4
    try clear c5
    try clear c6
    try clear c7
    try clear c8
    try clear c9
    try clear c10
    try clear c11
    try clear c12
    try clear c13
    try clear c15
    try clear c19
    try clear c23
    try clear c32
    try clear c37
    try clear c38
    try clear c39
    try clear c43
    try clear c44
    try clear c51
    try clear c52
    try clear c53
    try clear c54
    try clear c55
    try clear c59
    try clear c60
    try clear c61
    try clear c62
    try clear c69
    try clear c70
    try clear c71
    try clear c72
    try clear c73
    try clear c74
    try clear c75
    try clear c79
    try clear c80
    try clear c81
    try clear c82
    try clear c83
    try clear c84
    try clear c90
    try clear c91
    try clear c92
    try clear c93
    try clear c94
    try clear c95
    try clear c96
    try clear c97
    try clear c102
    try clear c103
    try clear c104
    try clear c105
    try clear c106
    try clear c107
    try clear c108
    try clear c109
    try clear c110
    try clear c113
    try clear c113b0
    try clear c113b1
    try clear c115
    try clear c116
    try clear c117
    try clear c118
    try clear c119
    try clear c120
    try clear c121
    try clear c122
    try clear c123
    try clear hcz111_0
    try clear hcz111_1
    try clear hcz111_2
    try clear hcz124_0
    try clear hcz124_1
    try clear hcz124_2
    try clear hcz33_0
    try clear hcz33_1
    try clear hcz33_2
    try clear hcz40_0
    try clear hcz40_1
    try clear hcz40_2
    try clear hcz45_0
    try clear hcz45_1
    try clear hcz45_2
    try clear hcz45_3
    try clear hcz45_4
    try clear hcz45_5
    try clear hcz45_6
    try clear hcz45_7
    try clear hcz47_0
    try clear hcz47_1
    try clear hcz47_2
    try clear hcz56_0
    try clear hcz56_1
    try clear hcz56_2
    try clear hcz63_0
    try clear hcz63_1
    try clear hcz63_2
    try clear hcz63_3
    try clear hcz63_4
    try clear hcz63_5
    try clear hcz63_6
    try clear hcz63_7
    try clear hcz65_0
    try clear hcz65_1
    try clear hcz65_2
    try clear hcz76_0
    try clear hcz76_1
    try clear hcz76_2
    try clear hcz85_0
    try clear hcz85_1
    try clear hcz85_2
    try clear hcz85_3
    try clear hcz85_4
    try clear hcz85_5
    try clear hcz85_6
    try clear hcz85_7
    try clear hcz87_0
    try clear hcz87_1
    try clear hcz87_2
    try clear hcz98_0
    try clear hcz98_1
    try clear hcz98_2
    try clear hfz111_0
    try clear hfz111_1
    try clear hfz111_2
    try clear hfz124_0
    try clear hfz124_1
    try clear hfz124_2
    try clear hfz33_0
    try clear hfz33_1
    try clear hfz33_2
    try clear hfz40_0
    try clear hfz40_1
    try clear hfz40_2
    try clear hfz45_0
    try clear hfz45_1
    try clear hfz45_2
    try clear hfz45_3
    try clear hfz45_4
    try clear hfz45_5
    try clear hfz45_6
    try clear hfz45_7
    try clear hfz47_0
    try clear hfz47_1
    try clear hfz47_2
    try clear hfz56_0
    try clear hfz56_1
    try clear hfz56_2
    try clear hfz63_0
    try clear hfz63_1
    try clear hfz63_2
    try clear hfz63_3
    try clear hfz63_4
    try clear hfz63_5
    try clear hfz63_6
    try clear hfz63_7
    try clear hfz65_0
    try clear hfz65_1
    try clear hfz65_2
    try clear hfz76_0
    try clear hfz76_1
    try clear hfz76_2
    try clear hfz85_0
    try clear hfz85_1
    try clear hfz85_2
    try clear hfz85_3
    try clear hfz85_4
    try clear hfz85_5
    try clear hfz85_6
    try clear hfz85_7
    try clear hfz87_0
    try clear hfz87_1
    try clear hfz87_2
    try clear hfz98_0
    try clear hfz98_1
    try clear hfz98_2
    obtain ⟨kq, x62_10, rfl, HA, HJ10, HO_14, HO_175001, HO_208001, HO_223001, HO_239001, HO_255001, HO_265001, HO_272001, BK174, BK207, BK222, BK223, BK238, BK239, BK254, BK255, BK264, BK271, HB⟩ := hcut
    cases kq with
    | zero => exact absurd HA.out (by simp [hopperlaw14_live.j0])
    | succ kj10 =>
      have H := HA.out
      clear HA
      simp only [hopperlaw14_live.j0] at H
      by_cases c126 : x62_10 = true
      · subst c126
        have H1 : (some false) = some true := by rw [if_pos rfl] at H; exact H
        clear H
        have H := H1
        clear H1
        exact absurd H (by simp)
      · replace c126 := Bool.eq_false_iff.mpr c126
        subst c126
        have H1 : (if t173 = 0 then (if t206 = 2 then ((hopperlaw14_event.f 1).bind fun bt272 => (if (t213 == bt272.1 && ((t214 == bt272.2.1 && (t215 == bt272.2.2.1 && (t216 == bt272.2.2.2.1 && (t217 == bt272.2.2.2.2.1 && (t218 == bt272.2.2.2.2.2.1 && (t219.toList == bt272.2.2.2.2.2.2.1.toList)))))) && (t220 == bt272.2.2.2.2.2.2.2))) = true then (if t221 = 0 then (if (t229 == 4 && ((t230 == 0 && (t231 == 0 && (t232 == 0 && (t233 == 0 && (t234 == 0 && (t235.toList == ([] : List UInt8))))))) && (t236 == 2))) = true then (if t237 = 0 then (if t253 = 7 then (if t270 = 1 then ((hopperlaw14_event.f 1).bind fun bt280 => ((hopperlaw14_event.f 2).bind fun bt288 => ((hopperlaw14_event.f 3).bind fun bt296 => ((feed_Covers.f kj10 t261 (([(⟨bt280.1, (⟨bt280.2.1, bt280.2.2.1, bt280.2.2.2.1, bt280.2.2.2.2.1, bt280.2.2.2.2.2.1, bt280.2.2.2.2.2.2.1⟩ : S34), bt280.2.2.2.2.2.2.2⟩ : S36), (⟨bt288.1, (⟨bt288.2.1, bt288.2.2.1, bt288.2.2.2.1, bt288.2.2.2.2.1, bt288.2.2.2.2.2.1, bt288.2.2.2.2.2.2.1⟩ : S34), bt288.2.2.2.2.2.2.2⟩ : S36), (⟨bt296.1, (⟨bt296.2.1, bt296.2.2.1, bt296.2.2.2.1, bt296.2.2.2.2.1, bt296.2.2.2.2.2.1, bt296.2.2.2.2.2.2.1⟩ : S34), bt296.2.2.2.2.2.2.2⟩ : S36)] : List (S36)))).bind fun t307 => (if t307 = true then ((hopperlaw14_event.f 1).bind fun bt308 => ((hopperlaw14_event.f 2).bind fun bt316 => ((feed_Covers.f kj10 t261 (([(⟨bt308.1, (⟨bt308.2.1, bt308.2.2.1, bt308.2.2.2.1, bt308.2.2.2.2.1, bt308.2.2.2.2.2.1, bt308.2.2.2.2.2.2.1⟩ : S34), bt308.2.2.2.2.2.2.2⟩ : S36), (⟨bt316.1, (⟨bt316.2.1, bt316.2.2.1, bt316.2.2.2.1, bt316.2.2.2.2.1, bt316.2.2.2.2.2.1, bt316.2.2.2.2.2.2.1⟩ : S34), bt316.2.2.2.2.2.2.2⟩ : S36)] : List (S36)))).bind fun t327 => (if t327 = true then (some false) else ((feed_Covers.f kj10 ([] : List (S36)) t261).bind fun t328 => (some (!t328))))))) else (some false)))))) else (some false)) else (some false)) else (some false)) else (some false)) else (some false)) else (some false))) else (some false)) else (some false)) = some true := by rw [if_neg (show ¬ (false = true) by decide)] at H; exact H
        clear H
        have H := H1
        clear H1
        by_cases c127 : t173 = 0
        rotate_left
        · rw [if_neg c127] at H
          have c127b0 : (t173 == 0) = false := beq_eq_false_iff_ne.mpr c127
          have c127b1 : (t173 != 0) = true := bne_iff_ne.mpr c127
          exact absurd H (by simp)
        rw [if_pos c127] at H
        have c127b0 : (t173 == 0) = true := beq_iff_eq.mpr c127
        have c127b1 : (t173 != 0) = false := bne_eq_false_iff_eq.mpr c127
        clear c127
        by_cases c128 : t206 = 2
        rotate_left
        · rw [if_neg c128] at H
          have c128b0 : (t206 == 2) = false := beq_eq_false_iff_ne.mpr c128
          have c128b1 : (t206 != 2) = true := bne_iff_ne.mpr c128
          exact absurd H (by simp)
        rw [if_pos c128] at H
        have c128b0 : (t206 == 2) = true := beq_iff_eq.mpr c128
        have c128b1 : (t206 != 2) = false := bne_eq_false_iff_eq.mpr c128
        clear c128
        replace H := Option.bind_eq_some_iff.mp H
        obtain ⟨⟨t272, t273, t274, t275, t276, t277, t278, t279⟩, A1290, H⟩ := H
        try dsimp only at H
        have A129 := Aside0.mk A1290
        clear A1290
        by_cases c130 : (t213 == t272 && ((t214 == t273 && (t215 == t274 && (t216 == t275 && (t217 == t276 && (t218 == t277 && (t219.toList == t278.toList)))))) && (t220 == t279))) = true
        rotate_left
        · rw [if_neg c130] at H
          have c130b0 : (t213 == t272 && ((t214 == t273 && (t215 == t274 && (t216 == t275 && (t217 == t276 && (t218 == t277 && (t219.toList == t278.toList)))))) && (t220 == t279))) = false := by simpa using c130
          (try (have c130q : (t213 = t272 ∧ t214 = t273 ∧ t215 = t274 ∧ t216 = t275 ∧ t217 = t276 ∧ t218 = t277 ∧ t219.toList = t278.toList ∧ t220 = t279) = False := eq_false (fun ⟨h0_, h1_, h2_, h3_, h4_, h5_, h6_, h7_⟩ => by simp [h0_, h1_, h2_, h3_, h4_, h5_, h6_, h7_] at c130b0)))
          (try (have c130b1 : decide (t213 = t272 && ((t214 == t273 && (t215 == t274 && (t216 == t275 && (t217 == t276 && (t218 == t277 && (t219.toList == t278.toList)))))) && (t220 == t279))) = false := by simpa using c130))
          (try (have c130b2 : (t213 == t272 && ((t214 == t273 && (t215 == t274 && (t216 == t275 && (t217 == t276 && (t218 == t277 && (t219.toList == t278.toList)))))) && (t220 == t279))) = false := by simpa using c130))
          (try (have c130b3 : ¬ (t213 = t272 && ((t214 == t273 && (t215 == t274 && (t216 == t275 && (t217 == t276 && (t218 == t277 && (t219.toList == t278.toList)))))) && (t220 == t279))) := by simpa using c130))
          clear c130
          exact absurd H (by simp)
        rw [if_pos c130] at H
        have c130b0 : (t213 == t272 && ((t214 == t273 && (t215 == t274 && (t216 == t275 && (t217 == t276 && (t218 == t277 && (t219.toList == t278.toList)))))) && (t220 == t279))) = true := c130
        (try (have c130q : (t213 = t272 ∧ t214 = t273 ∧ t215 = t274 ∧ t216 = t275 ∧ t217 = t276 ∧ t218 = t277 ∧ t219.toList = t278.toList ∧ t220 = t279) = True := eq_true (by simpa using c130b0)))
        (try (have c130b1 : decide (t213 = t272 && ((t214 == t273 && (t215 == t274 && (t216 == t275 && (t217 == t276 && (t218 == t277 && (t219.toList == t278.toList)))))) && (t220 == t279))) = true := by simpa using c130))
        (try (have c130b2 : (t213 == t272 && ((t214 == t273 && (t215 == t274 && (t216 == t275 && (t217 == t276 && (t218 == t277 && (t219.toList == t278.toList)))))) && (t220 == t279))) = true := by simpa using c130))
        clear c130
        by_cases c131 : t221 = 0
        rotate_left
        · rw [if_neg c131] at H
          have c131b0 : (t221 == 0) = false := beq_eq_false_iff_ne.mpr c131
          have c131b1 : (t221 != 0) = true := bne_iff_ne.mpr c131
          exact absurd H (by simp)
        rw [if_pos c131] at H
        have c131b0 : (t221 == 0) = true := beq_iff_eq.mpr c131
        have c131b1 : (t221 != 0) = false := bne_eq_false_iff_eq.mpr c131
        clear c131
        by_cases c132 : (t229 == 4 && ((t230 == 0 && (t231 == 0 && (t232 == 0 && (t233 == 0 && (t234 == 0 && (t235.toList == ([] : List UInt8))))))) && (t236 == 2))) = true
        rotate_left
        · rw [if_neg c132] at H
          have c132b0 : (t229 == 4 && ((t230 == 0 && (t231 == 0 && (t232 == 0 && (t233 == 0 && (t234 == 0 && (t235.toList == ([] : List UInt8))))))) && (t236 == 2))) = false := by simpa using c132
          (try (have c132e : (t229 == 4 && ((t230 == 0 && (t231 == 0 && (t232 == 0 && (t233 == 0 && (t234 == 0 && (t235.toList.isEmpty)))))) && (t236 == 2))) = false := by simpa using c132b0))
          (try (have c132q : (t229 = 4 ∧ t230 = 0 ∧ t231 = 0 ∧ t232 = 0 ∧ t233 = 0 ∧ t234 = 0 ∧ t235.toList = ([] : List UInt8) ∧ t236 = 2) = False := eq_false (fun ⟨h0_, h1_, h2_, h3_, h4_, h5_, h6_, h7_⟩ => by simp [h0_, h1_, h2_, h3_, h4_, h5_, h6_, h7_] at c132b0)))
          (try (have c132b1 : decide (t229 = 4 && ((t230 == 0 && (t231 == 0 && (t232 == 0 && (t233 == 0 && (t234 == 0 && (t235.toList == ([] : List UInt8))))))) && (t236 == 2))) = false := by simpa using c132))
          (try (have c132b2 : (t229 == 4 && ((t230 == 0 && (t231 == 0 && (t232 == 0 && (t233 == 0 && (t234 == 0 && (t235.toList == ([] : List UInt8))))))) && (t236 == 2))) = false := by simpa using c132))
          (try (have c132b3 : ¬ (t229 = 4 && ((t230 == 0 && (t231 == 0 && (t232 == 0 && (t233 == 0 && (t234 == 0 && (t235.toList == ([] : List UInt8))))))) && (t236 == 2))) := by simpa using c132))
          clear c132
          exact absurd H (by simp)
        rw [if_pos c132] at H
        have c132b0 : (t229 == 4 && ((t230 == 0 && (t231 == 0 && (t232 == 0 && (t233 == 0 && (t234 == 0 && (t235.toList == ([] : List UInt8))))))) && (t236 == 2))) = true := c132
        (try (have c132e : (t229 == 4 && ((t230 == 0 && (t231 == 0 && (t232 == 0 && (t233 == 0 && (t234 == 0 && (t235.toList.isEmpty)))))) && (t236 == 2))) = true := by simpa using c132b0))
        (try (have c132q : (t229 = 4 ∧ t230 = 0 ∧ t231 = 0 ∧ t232 = 0 ∧ t233 = 0 ∧ t234 = 0 ∧ t235.toList = ([] : List UInt8) ∧ t236 = 2) = True := eq_true (by simpa using c132b0)))
        (try (have c132b1 : decide (t229 = 4 && ((t230 == 0 && (t231 == 0 && (t232 == 0 && (t233 == 0 && (t234 == 0 && (t235.toList == ([] : List UInt8))))))) && (t236 == 2))) = true := by simpa using c132))
        (try (have c132b2 : (t229 == 4 && ((t230 == 0 && (t231 == 0 && (t232 == 0 && (t233 == 0 && (t234 == 0 && (t235.toList == ([] : List UInt8))))))) && (t236 == 2))) = true := by simpa using c132))
        clear c132
        by_cases c133 : t237 = 0
        rotate_left
        · rw [if_neg c133] at H
          have c133b0 : (t237 == 0) = false := beq_eq_false_iff_ne.mpr c133
          have c133b1 : (t237 != 0) = true := bne_iff_ne.mpr c133
          exact absurd H (by simp)
        rw [if_pos c133] at H
        have c133b0 : (t237 == 0) = true := beq_iff_eq.mpr c133
        have c133b1 : (t237 != 0) = false := bne_eq_false_iff_eq.mpr c133
        clear c133
        by_cases c134 : t253 = 7
        rotate_left
        · rw [if_neg c134] at H
          have c134b0 : (t253 == 7) = false := beq_eq_false_iff_ne.mpr c134
          have c134b1 : (t253 != 7) = true := bne_iff_ne.mpr c134
          exact absurd H (by simp)
        rw [if_pos c134] at H
        have c134b0 : (t253 == 7) = true := beq_iff_eq.mpr c134
        have c134b1 : (t253 != 7) = false := bne_eq_false_iff_eq.mpr c134
        clear c134
        by_cases c135 : t270 = 1
        rotate_left
        · rw [if_neg c135] at H
          have c135b0 : (t270 == 1) = false := beq_eq_false_iff_ne.mpr c135
          have c135b1 : (t270 != 1) = true := bne_iff_ne.mpr c135
          exact absurd H (by simp)
        rw [if_pos c135] at H
        have c135b0 : (t270 == 1) = true := beq_iff_eq.mpr c135
        have c135b1 : (t270 != 1) = false := bne_eq_false_iff_eq.mpr c135
        clear c135
        replace H := Option.bind_eq_some_iff.mp H
        obtain ⟨⟨t280, t281, t282, t283, t284, t285, t286, t287⟩, A1360, H⟩ := H
        try dsimp only at H
        have A136 := Aside0.mk A1360
        clear A1360
        replace H := Option.bind_eq_some_iff.mp H
        obtain ⟨⟨t288, t289, t290, t291, t292, t293, t294, t295⟩, A1370, H⟩ := H
        try dsimp only at H
        have A137 := Aside0.mk A1370
        clear A1370
        replace H := Option.bind_eq_some_iff.mp H
        obtain ⟨⟨t296, t297, t298, t299, t300, t301, t302, t303⟩, A1380, H⟩ := H
        try dsimp only at H
        have A138 := Aside0.mk A1380
        clear A1380
        obtain ⟨y304, hy304⟩ : ∃ y_ : List (S36), y_ = (([(⟨t280, (⟨t281, t282, t283, t284, t285, t286⟩ : S34), t287⟩ : S36), (⟨t288, (⟨t289, t290, t291, t292, t293, t294⟩ : S34), t295⟩ : S36), (⟨t296, (⟨t297, t298, t299, t300, t301, t302⟩ : S34), t303⟩ : S36)] : List (S36))) := ⟨_, rfl⟩
        replace H : ((feed_Covers.f kj10 t261 y304).bind fun t307 => (if t307 = true then ((hopperlaw14_event.f 1).bind fun bt308 => ((hopperlaw14_event.f 2).bind fun bt316 => ((feed_Covers.f kj10 t261 (([(⟨bt308.1, (⟨bt308.2.1, bt308.2.2.1, bt308.2.2.2.1, bt308.2.2.2.2.1, bt308.2.2.2.2.2.1, bt308.2.2.2.2.2.2.1⟩ : S34), bt308.2.2.2.2.2.2.2⟩ : S36), (⟨bt316.1, (⟨bt316.2.1, bt316.2.2.1, bt316.2.2.2.1, bt316.2.2.2.2.1, bt316.2.2.2.2.2.1, bt316.2.2.2.2.2.2.1⟩ : S34), bt316.2.2.2.2.2.2.2⟩ : S36)] : List (S36)))).bind fun t327 => (if t327 = true then (some false) else ((feed_Covers.f kj10 ([] : List (S36)) t261).bind fun t328 => (some (!t328))))))) else (some false))) = some true := by first | (rw [hy304]; with_reducible exact H) | (have H2_ := (Option.bind_some _ _).symm.trans H; rw [hy304]; with_reducible exact H2_) | (have H2_ := (Option.bind_some _ _).symm.trans H; with_reducible exact H2_) | with_reducible exact H | (rw [hy304]; exact H) | exact H
        have Ny304 := Aside0.mk hy304
        clear hy304
        replace H := Option.bind_eq_some_iff.mp H
        obtain ⟨t307, A1390, H⟩ := H
        try dsimp only at H
        have A139 := Aside0.mk A1390
        clear A1390
        by_cases c140 : t307 = true
        rotate_left
        · replace c140 := Bool.eq_false_iff.mpr c140
          subst c140
          have H1 : (some false) = some true := by rw [if_neg (show ¬ (false = true) by decide)] at H; exact H
          clear H
          have H := H1
          clear H1
          exact absurd H (by simp)
        subst c140
        have H1 : ((hopperlaw14_event.f 1).bind fun bt308 => ((hopperlaw14_event.f 2).bind fun bt316 => ((feed_Covers.f kj10 t261 (([(⟨bt308.1, (⟨bt308.2.1, bt308.2.2.1, bt308.2.2.2.1, bt308.2.2.2.2.1, bt308.2.2.2.2.2.1, bt308.2.2.2.2.2.2.1⟩ : S34), bt308.2.2.2.2.2.2.2⟩ : S36), (⟨bt316.1, (⟨bt316.2.1, bt316.2.2.1, bt316.2.2.2.1, bt316.2.2.2.2.1, bt316.2.2.2.2.2.1, bt316.2.2.2.2.2.2.1⟩ : S34), bt316.2.2.2.2.2.2.2⟩ : S36)] : List (S36)))).bind fun t327 => (if t327 = true then (some false) else ((feed_Covers.f kj10 ([] : List (S36)) t261).bind fun t328 => (some (!t328))))))) = some true := by rw [if_pos rfl] at H; exact H
        clear H
        have H := H1
        clear H1
        replace H := Option.bind_eq_some_iff.mp H
        obtain ⟨⟨t308, t309, t310, t311, t312, t313, t314, t315⟩, A1410, H⟩ := H
        try dsimp only at H
        have A141 := Aside0.mk A1410
        clear A1410
        replace H := Option.bind_eq_some_iff.mp H
        obtain ⟨⟨t316, t317, t318, t319, t320, t321, t322, t323⟩, A1420, H⟩ := H
        try dsimp only at H
        have A142 := Aside0.mk A1420
        clear A1420
        obtain ⟨y324, hy324⟩ : ∃ y_ : List (S36), y_ = (([(⟨t308, (⟨t309, t310, t311, t312, t313, t314⟩ : S34), t315⟩ : S36), (⟨t316, (⟨t317, t318, t319, t320, t321, t322⟩ : S34), t323⟩ : S36)] : List (S36))) := ⟨_, rfl⟩
        replace H : ((feed_Covers.f kj10 t261 y324).bind fun t327 => (if t327 = true then (some false) else ((feed_Covers.f kj10 ([] : List (S36)) t261).bind fun t328 => (some (!t328))))) = some true := by first | (rw [hy324]; with_reducible exact H) | (have H2_ := (Option.bind_some _ _).symm.trans H; rw [hy324]; with_reducible exact H2_) | (have H2_ := (Option.bind_some _ _).symm.trans H; with_reducible exact H2_) | with_reducible exact H | (rw [hy324]; exact H) | exact H
        have Ny324 := Aside0.mk hy324
        clear hy324
        replace H := Option.bind_eq_some_iff.mp H
        obtain ⟨t327, A1430, H⟩ := H
        try dsimp only at H
        have A143 := Aside0.mk A1430
        clear A1430
        by_cases c144 : t327 = true
        · subst c144
          have H1 : (some false) = some true := by rw [if_pos rfl] at H; exact H
          clear H
          have H := H1
          clear H1
          exact absurd H (by simp)
        · replace c144 := Bool.eq_false_iff.mpr c144
          subst c144
          have H1 : ((feed_Covers.f kj10 ([] : List (S36)) t261).bind fun t328 => (some (!t328))) = some true := by rw [if_neg (show ¬ (false = true) by decide)] at H; exact H
          clear H
          have H := H1
          clear H1
          replace H := Option.bind_eq_some_iff.mp H
          obtain ⟨t328, A1450, H⟩ := H
          try dsimp only at H
          have A145 := Aside0.mk A1450
          clear A1450
          have HR_ := Aside0.mk (Option.some.inj H)
          clear H
          try go_wp2
          have n0_ := Aside0.mk (Kd.R_drew HO_14.out)
          have n1_ := Aside0.mk (Kd.R_drew HO_175001.out)
          have n2_ := Aside0.mk (Kd.R_drew HO_208001.out)
          have n3_ := Aside0.mk (Kd.V_drew HO_223001.out)
          have n4_ := Aside0.mk (Kd.V_drew HO_239001.out)
          have n5_ := Aside0.mk (Kd.V_drew HO_255001.out)
          have n6_ := Aside0.mk (Kd.V_drew HO_265001.out)
          have n7_ := Aside0.mk (Kd.R_drew HO_272001.out)
          have n8_ := Aside0.mk (blk_drew BK174.out)
          have n9_ := Aside0.mk (blk_drew BK207.out)
          have n10_ := Aside0.mk (blk_drew BK222.out)
          have n11_ := Aside0.mk (blk_drew BK223.out)
          have n12_ := Aside0.mk (blk_drew BK238.out)
          have n13_ := Aside0.mk (blk_drew BK239.out)
          have n14_ := Aside0.mk (blk_drew BK254.out)
          have n15_ := Aside0.mk (blk_drew BK255.out)
          have n16_ := Aside0.mk (blk_drew BK264.out)
          have n17_ := Aside0.mk (blk_drew BK271.out)
          have n18_ := Aside0.mk (below_drew1 HB.out)
          clear HO_14
          clear HO_175001
          clear HO_208001
          clear HO_223001
          clear HO_239001
          clear HO_255001
          clear HO_265001
          clear HO_272001
          clear BK174
          clear BK207
          clear BK222
          clear BK223
          clear BK238
          clear BK239
          clear BK254
          clear BK255
          clear BK264
          clear BK271
          clear HB
          have HO_14 := n0_
          have HO_175001 := n1_
          have HO_208001 := n2_
          have HO_223001 := n3_
          have HO_239001 := n4_
          have HO_255001 := n5_
          have HO_265001 := n6_
          have HO_272001 := n7_
          have BK174 := n8_
          have BK207 := n9_
          have BK222 := n10_
          have BK223 := n11_
          have BK238 := n12_
          have BK239 := n13_
          have BK254 := n14_
          have BK255 := n15_
          have BK264 := n16_
          have BK271 := n17_
          have HB := n18_
          clear n0_ n1_ n2_ n3_ n4_ n5_ n6_ n7_ n8_ n9_ n10_ n11_ n12_ n13_ n14_ n15_ n16_ n17_ n18_
          refine start_ (n := 55) (S := fun w' => w'.cell? ⟨gb207, 0, none⟩ = some (.int .i64 t202) ∧ w'.cell? ⟨gb207, 1, none⟩ = some (.slice Ao28 t203.length co28) ∧ w'.cell? ⟨gb207, 2, none⟩ = some (.int .i64 t206) ∧ w'.cell? ⟨gb223, 0, none⟩ = some (.int .i64 t213) ∧ w'.cell? ⟨gb223, 1, none⟩ = some (.int .i64 t214) ∧ w'.cell? ⟨gb223, 2, none⟩ = some (.int .i64 t215) ∧ w'.cell? ⟨gb223, 3, none⟩ = some (.int .i64 t216) ∧ w'.cell? ⟨gb223, 4, none⟩ = some (.int .i64 t217) ∧ w'.cell? ⟨gb223, 5, none⟩ = some (.int .i64 t218) ∧ w'.cell? ⟨gb223, 6, none⟩ = some (.string t219) ∧ w'.cell? ⟨gb223, 7, none⟩ = some (.int .i64 t220) ∧ w'.cell? ⟨gb239, 0, none⟩ = some (.int .i64 t229) ∧ w'.cell? ⟨gb239, 1, none⟩ = some (.int .i64 t230) ∧ w'.cell? ⟨gb239, 2, none⟩ = some (.int .i64 t231) ∧ w'.cell? ⟨gb239, 3, none⟩ = some (.int .i64 t232) ∧ w'.cell? ⟨gb239, 4, none⟩ = some (.int .i64 t233) ∧ w'.cell? ⟨gb239, 5, none⟩ = some (.int .i64 t234) ∧ w'.cell? ⟨gb239, 6, none⟩ = some (.string t235) ∧ w'.cell? ⟨gb239, 7, none⟩ = some (.int .i64 t236)) (ds := []) (tf 0 55) (by kernel_rfl) rfl rfl ⟨(blk_cell BK207.out 0).trans rfl, (blk_cell BK207.out 1).trans rfl, (blk_cell BK207.out 2).trans rfl, (blk_cell BK223.out 0).trans rfl, (blk_cell BK223.out 1).trans rfl, (blk_cell BK223.out 2).trans rfl, (blk_cell BK223.out 3).trans rfl, (blk_cell BK223.out 4).trans rfl, (blk_cell BK223.out 5).trans rfl, (blk_cell BK223.out 6).trans rfl, (blk_cell BK223.out 7).trans rfl, (blk_cell BK239.out 0).trans rfl, (blk_cell BK239.out 1).trans rfl, (blk_cell BK239.out 2).trans rfl, (blk_cell BK239.out 3).trans rfl, (blk_cell BK239.out 4).trans rfl, (blk_cell BK239.out 5).trans rfl, (blk_cell BK239.out 6).trans rfl, (blk_cell BK239.out 7).trans rfl⟩ (fun hHeld => ?_); refine with_tabW hopperlaw14_live.tab10 hopperlaw14_live.bits10 (fun HT_ HW_ => ?_)
          generalize wc.drew = w146 at HO_14 HO_175001 HO_208001 HO_223001 HO_239001 HO_255001 HO_265001 HO_272001 BK174 BK207 BK222 BK223 BK238 BK239 BK254 BK255 BK264 BK271 HB hHeld ⊢
          refine pure_ (i := 0) (N := some 63) (v := ?_) (a' := ?_) (tf 1 55) rfl rfl (any_of HT_.out (by kernel_rfl)) (fun _ _ _ h => h) (Or.inl ⟨by rfl, ?_⟩) ?_ ?_
          rotate_left
          · intro w'
            go_simp
            with_reducible rfl
          rotate_left
          · simp only [Act.put, PU, i64_w, i32_w]
            rfl
          refine pure_ (i := 1) (N := some 64) (v := ?_) (a' := ?_) (tf 2 55) rfl rfl (any_of HT_.out (by kernel_rfl)) (fun _ _ _ h => h) (Or.inl ⟨by rfl, ?_⟩) ?_ ?_
          rotate_left
          · intro w'
            go_simp
            with_reducible rfl
          rotate_left
          · simp only [Act.put, PU, i64_w, i32_w]
            rfl
          refine pure_ (i := 2) (N := some 65) (v := ?_) (a' := ?_) (tf 3 55) rfl rfl (any_of HT_.out (by kernel_rfl)) (fun _ _ _ h => h) (Or.inl ⟨by rfl, ?_⟩) ?_ ?_
          rotate_left
          · intro w'
            go_simp
            with_reducible rfl
          rotate_left
          · simp only [Act.put, PU, i64_w, i32_w]
            rfl
          refine pure_ (i := 3) (N := some 66) (v := ?_) (a' := ?_) (tf 4 55) rfl rfl (any_of HT_.out (by kernel_rfl)) (fun _ _ _ h => h) (Or.inl ⟨by rfl, ?_⟩) ?_ ?_
          rotate_left
          · intro w'
            go_simp
            with_reducible rfl
          rotate_left
          · simp only [Act.put, PU, i64_w, i32_w]
            rfl
          refine take_ (i := 4) (N := some 67) (v := ?_) (a' := ?_) (tf 5 55) rfl rfl (take_ofW HT_.out HW_.out (by kernel_rfl)) (fun _ _ _ h => h) (Or.inl ⟨by rfl, ?_⟩) hHeld ?_ ?_
          rotate_left
          · rintro w' ⟨s0, s1, s2, s3, s4, s5, s6, s7, s8, s9, s10, s11, s12, s13, s14, s15, s16, s17, s18⟩
            go_simp
            with_reducible rfl
          rotate_left
          · simp only [Act.put, PU, i64_w, i32_w]
            rfl
          refine pure_ (i := 5) (N := some 68) (v := ?_) (a' := ?_) (tf 6 55) rfl rfl (any_of HT_.out (by kernel_rfl)) (fun _ _ _ h => h) (Or.inl ⟨by rfl, ?_⟩) ?_ ?_
          rotate_left
          · intro w'
            go_simp
            with_reducible rfl
          rotate_left
          · simp only [Act.put, PU, i64_w, i32_w]
            rfl
          refine pure_ (i := 6) (N := some 69) (v := ?_) (a' := ?_) (tf 7 55) rfl rfl (any_of HT_.out (by kernel_rfl)) (fun _ _ _ h => h) (Or.inl ⟨by rfl, ?_⟩) ?_ ?_
          rotate_left
          · intro w'
            go_simp
            with_reducible rfl
          rotate_left
          · simp only [Act.put, PU, i64_w, i32_w]
            rfl
          refine pure_ (i := 7) (N := some 70) (v := ?_) (a' := ?_) (tf 8 55) rfl rfl (any_of HT_.out (by kernel_rfl)) (fun _ _ _ h => h) (Or.inl ⟨by rfl, ?_⟩) ?_ ?_
          rotate_left
          · intro w'
            go_simp
            with_reducible rfl
          rotate_left
          · simp only [Act.put, PU, i64_w, i32_w]
            rfl
          refine take_ (i := 8) (N := some 71) (v := ?_) (a' := ?_) (tf 9 55) rfl rfl (take_ofW HT_.out HW_.out (by kernel_rfl)) (fun _ _ _ h => h) (Or.inl ⟨by rfl, ?_⟩) hHeld ?_ ?_
          rotate_left
          · rintro w' ⟨s0, s1, s2, s3, s4, s5, s6, s7, s8, s9, s10, s11, s12, s13, s14, s15, s16, s17, s18⟩
            go_simp
            with_reducible rfl
          rotate_left
          · simp only [Act.put, PU, i64_w, i32_w]
            rfl
          refine one_ (i := 9) (N := some 72) (tf 10 55) rfl rfl (one_of HT_.out (by kernel_rfl)) (by decide) (fun K hK => ?_)
          refine goes_ Try.func23 (by kernel_rfl) rfl #[.int .i64 1] (by rfl) rfl rfl (by (try simp only [List.map_toArray, List.map_cons, List.map_nil]); first | done | rfl | (simp only [List.length_drop, List.length_take]; rfl)) ?_
          with_reducible refine (hopperlaw14_event.calls 1 t272 t273 t274 t275 t276 t277 t278 t279 _ A129.out).mono ?_
          rintro e w147 ⟨rfl, hb⟩
          refine ⟨_, rfl, ?_⟩
          have n0_ := Aside0.mk (Kd.R_below (Kd.RA HO_14.out) hb)
          have n1_ := Aside0.mk (Kd.R_below (Kd.RA HO_175001.out) hb)
          have n2_ := Aside0.mk (Kd.R_below (Kd.RA HO_208001.out) hb)
          have n3_ := Aside0.mk (Kd.V_below (Kd.VA HO_223001.out) hb)
          have n4_ := Aside0.mk (Kd.V_below (Kd.VA HO_239001.out) hb)
          have n5_ := Aside0.mk (Kd.V_below (Kd.VA HO_255001.out) hb)
          have n6_ := Aside0.mk (Kd.V_below (Kd.VA HO_265001.out) hb)
          have n7_ := Aside0.mk (Kd.R_below (Kd.RA HO_272001.out) hb)
          have n8_ := Aside0.mk (blk_below (BA BK174.out) hb)
          have n9_ := Aside0.mk (blk_below (BA BK207.out) hb)
          have n10_ := Aside0.mk (blk_below (BA BK222.out) hb)
          have n11_ := Aside0.mk (blk_below (BA BK223.out) hb)
          have n12_ := Aside0.mk (blk_below (BA BK238.out) hb)
          have n13_ := Aside0.mk (blk_below (BA BK239.out) hb)
          have n14_ := Aside0.mk (blk_below (BA BK254.out) hb)
          have n15_ := Aside0.mk (blk_below (BA BK255.out) hb)
          have n16_ := Aside0.mk (blk_below (BA BK264.out) hb)
          have n17_ := Aside0.mk (blk_below (BA BK271.out) hb)
          have n18_ := Aside0.mk (below_step (LG HB.out (G1 GE174.out (G1 GE207.out (G1 GE222.out (G1 GE223.out (G1 GE238.out (G1 GE239.out (G1 GE254.out (G1 GE255.out (G1 GE264.out (G1 GE271.out G0))))))))))) hb)
          clear HO_14
          clear HO_175001
          clear HO_208001
          clear HO_223001
          clear HO_239001
          clear HO_255001
          clear HO_265001
          clear HO_272001
          clear BK174
          clear BK207
          clear BK222
          clear BK223
          clear BK238
          clear BK239
          clear BK254
          clear BK255
          clear BK264
          clear BK271
          clear HB
          have HO_14 := n0_
          have HO_175001 := n1_
          have HO_208001 := n2_
          have HO_223001 := n3_
          have HO_239001 := n4_
          have HO_255001 := n5_
          have HO_265001 := n6_
          have HO_272001 := n7_
          have BK174 := n8_
          have BK207 := n9_
          have BK222 := n10_
          have BK223 := n11_
          have BK238 := n12_
          have BK239 := n13_
          have BK254 := n14_
          have BK255 := n15_
          have BK264 := n16_
          have BK271 := n17_
          have HB := n18_
          clear n0_ n1_ n2_ n3_ n4_ n5_ n6_ n7_ n8_ n9_ n10_ n11_ n12_ n13_ n14_ n15_ n16_ n17_ n18_
          (try clear hb)
          (try clear hb2)
          (try clear hk)
          (try clear hi)
          refine hK.out _ _ ⟨(blk_cell BK207.out 0).trans rfl, (blk_cell BK207.out 1).trans rfl, (blk_cell BK207.out 2).trans rfl, (blk_cell BK223.out 0).trans rfl, (blk_cell BK223.out 1).trans rfl, (blk_cell BK223.out 2).trans rfl, (blk_cell BK223.out 3).trans rfl, (blk_cell BK223.out 4).trans rfl, (blk_cell BK223.out 5).trans rfl, (blk_cell BK223.out 6).trans rfl, (blk_cell BK223.out 7).trans rfl, (blk_cell BK239.out 0).trans rfl, (blk_cell BK239.out 1).trans rfl, (blk_cell BK239.out 2).trans rfl, (blk_cell BK239.out 3).trans rfl, (blk_cell BK239.out 4).trans rfl, (blk_cell BK239.out 5).trans rfl, (blk_cell BK239.out 6).trans rfl, (blk_cell BK239.out 7).trans rfl⟩ (fun hHeld => ?_)
          clear hK K
          refine norm_ (a' := ?_) ?_ ?_
          rotate_left
          · show Act.put _ (some 72) _ = _
            simp only [Act.put, PU, i64_w, i32_w]
            rfl
          refine pure_ (i := 10) (N := some 73) (v := ?_) (a' := ?_) (tf 11 55) rfl rfl (any_of HT_.out (by kernel_rfl)) (fun _ _ _ h => h) (Or.inl ⟨by rfl, ?_⟩) ?_ ?_
          rotate_left
          · intro w'
            go_simp
            with_reducible rfl
          rotate_left
          · simp only [Act.put, PU, i64_w, i32_w]
            rfl
          refine pure_ (i := 11) (N := some 74) (v := ?_) (a' := ?_) (tf 12 55) rfl rfl (any_of HT_.out (by kernel_rfl)) (fun _ _ _ h => h) (Or.inl ⟨by rfl, ?_⟩) ?_ ?_
          rotate_left
          · intro w'
            go_simp
            with_reducible rfl
          rotate_left
          · simp only [Act.put, PU, i64_w, i32_w]
            rfl
          refine pure_ (i := 12) (N := some 75) (v := ?_) (a' := ?_) (tf 13 55) rfl rfl (any_of HT_.out (by kernel_rfl)) (fun _ _ _ h => h) (Or.inl ⟨by rfl, ?_⟩) ?_ ?_
          rotate_left
          · intro w'
            go_simp
            with_reducible rfl
          rotate_left
          · simp only [Act.put, PU, i64_w, i32_w]
            rfl
          refine pure_ (i := 13) (N := some 76) (v := ?_) (a' := ?_) (tf 14 55) rfl rfl (any_of HT_.out (by kernel_rfl)) (fun _ _ _ h => h) (Or.inl ⟨by rfl, ?_⟩) ?_ ?_
          rotate_left
          · intro w'
            go_simp
            with_reducible rfl
          rotate_left
          · simp only [Act.put, PU, i64_w, i32_w]
            rfl
          refine pure_ (i := 14) (N := some 77) (v := ?_) (a' := ?_) (tf 15 55) rfl rfl (any_of HT_.out (by kernel_rfl)) (fun _ _ _ h => h) (Or.inl ⟨by rfl, ?_⟩) ?_ ?_
          rotate_left
          · intro w'
            go_simp
            with_reducible rfl
          rotate_left
          · simp only [Act.put, PU, i64_w, i32_w]
            rfl
          refine pure_ (i := 15) (N := some 78) (v := ?_) (a' := ?_) (tf 16 55) rfl rfl (any_of HT_.out (by kernel_rfl)) (fun _ _ _ h => h) (Or.inl ⟨by rfl, ?_⟩) ?_ ?_
          rotate_left
          · intro w'
            go_simp
            with_reducible rfl
          rotate_left
          · simp only [Act.put, PU, i64_w, i32_w]
            rfl
          refine pure_ (i := 16) (N := some 79) (v := ?_) (a' := ?_) (tf 17 55) rfl rfl (any_of HT_.out (by kernel_rfl)) (fun _ _ _ h => h) (Or.inl ⟨by rfl, ?_⟩) ?_ ?_
          rotate_left
          · intro w'
            go_simp
            with_reducible rfl
          rotate_left
          · simp only [Act.put, PU, i64_w, i32_w]
            rfl
          refine pure_ (i := 18) (N := some 81) (v := ?_) (a' := ?_) #[true, true, true, true, true, true, true, true, true, true, true, true, true, true, true, true, true, false, true, false, false, false, false, false, false, false, false, false, false, false, false, false, false, false, false, false, false, false, false, false, false, false, false, false, false, false, false, false, false, false, false, false, false, false, false] rfl rfl (any_of HT_.out (by kernel_rfl)) (fun _ _ _ h => h) (Or.inl ⟨by rfl, ?_⟩) ?_ ?_
          rotate_left
          · intro w'
            go_simp
            with_reducible rfl
          rotate_left
          · simp only [Act.put, PU, i64_w, i32_w]
            rfl
          refine take_ (i := 17) (N := some 80) (v := ?_) (a' := ?_) (tf 19 55) rfl rfl (take_ofW HT_.out HW_.out (by kernel_rfl)) (fun _ _ _ h => h) (Or.inl ⟨by rfl, ?_⟩) hHeld ?_ ?_
          rotate_left
          · rintro w' ⟨s0, s1, s2, s3, s4, s5, s6, s7, s8, s9, s10, s11, s12, s13, s14, s15, s16, s17, s18⟩
            go_simp
            with_reducible rfl
          rotate_left
          · simp only [Act.put, PU, i64_w, i32_w]
            rfl
          refine pure_ (i := 19) (N := some 82) (v := ?_) (a' := ?_) (tf 20 55) rfl rfl (any_of HT_.out (by kernel_rfl)) (fun _ _ _ h => h) (Or.inl ⟨by rfl, ?_⟩) ?_ ?_
          rotate_left
          · intro w'
            go_simp
            with_reducible rfl
          rotate_left
          · simp only [Act.put, PU, i64_w, i32_w]
            rfl
          refine pure_ (i := 20) (N := some 83) (v := ?_) (a' := ?_) (tf 21 55) rfl rfl (any_of HT_.out (by kernel_rfl)) (fun _ _ _ h => h) (Or.inl ⟨by rfl, ?_⟩) ?_ ?_
          rotate_left
          · intro w'
            go_simp
            with_reducible rfl
          rotate_left
          · simp only [Act.put, PU, i64_w, i32_w]
            rfl
          refine pure_ (i := 21) (N := some 84) (v := ?_) (a' := ?_) (tf 22 55) rfl rfl (any_of HT_.out (by kernel_rfl)) (fun _ _ _ h => h) (Or.inl ⟨by rfl, ?_⟩) ?_ ?_
          rotate_left
          · intro w'
            go_simp
            with_reducible rfl
          rotate_left
          · simp only [Act.put, PU, i64_w, i32_w]
            rfl
          refine pure_ (i := 22) (N := some 85) (v := ?_) (a' := ?_) (tf 23 55) rfl rfl (any_of HT_.out (by kernel_rfl)) (fun _ _ _ h => h) (Or.inl ⟨by rfl, ?_⟩) ?_ ?_
          rotate_left
          · intro w'
            go_simp
            with_reducible rfl
          rotate_left
          · simp only [Act.put, PU, i64_w, i32_w]
            rfl
          refine pure_ (i := 23) (N := some 86) (v := ?_) (a' := ?_) (tf 24 55) rfl rfl (any_of HT_.out (by kernel_rfl)) (fun _ _ _ h => h) (Or.inl ⟨by rfl, ?_⟩) ?_ ?_
          rotate_left
          · intro w'
            go_simp
            with_reducible rfl
          rotate_left
          · simp only [Act.put, PU, i64_w, i32_w]
            rfl
          refine pure_ (i := 24) (N := some 87) (v := ?_) (a' := ?_) (tf 25 55) rfl rfl (any_of HT_.out (by kernel_rfl)) (fun _ _ _ h => h) (Or.inl ⟨by rfl, ?_⟩) ?_ ?_
          rotate_left
          · intro w'
            go_simp
            with_reducible rfl
          rotate_left
          · simp only [Act.put, PU, i64_w, i32_w]
            rfl
          refine pure_ (i := 25) (N := some 88) (v := ?_) (a' := ?_) (tf 26 55) rfl rfl (any_of HT_.out (by kernel_rfl)) (fun _ _ _ h => h) (Or.inl ⟨by rfl, ?_⟩) ?_ ?_
          rotate_left
          · intro w'
            go_simp
            with_reducible rfl
          rotate_left
          · simp only [Act.put, PU, i64_w, i32_w]
            rfl
          refine pure_ (i := 26) (N := some 89) (v := ?_) (a' := ?_) (tf 27 55) rfl rfl (any_of HT_.out (by kernel_rfl)) (fun _ _ _ h => h) (Or.inl ⟨by rfl, ?_⟩) ?_ ?_
          rotate_left
          · intro w'
            go_simp
            with_reducible rfl
          rotate_left
          · simp only [Act.put, PU, i64_w, i32_w]
            rfl
          refine pure_ (i := 27) (N := some 90) (v := ?_) (a' := ?_) (tf 28 55) rfl rfl (any_of HT_.out (by kernel_rfl)) (fun _ _ _ h => h) (Or.inl ⟨by rfl, ?_⟩) ?_ ?_
          rotate_left
          · intro w'
            go_simp
            with_reducible rfl
          rotate_left
          · simp only [Act.put, PU, i64_w, i32_w]
            rfl
          refine pure_ (i := 28) (N := some 91) (v := ?_) (a' := ?_) (tf 29 55) rfl rfl (any_of HT_.out (by kernel_rfl)) (fun _ _ _ h => h) (Or.inl ⟨by rfl, ?_⟩) ?_ ?_
          rotate_left
          · intro w'
            go_simp
            with_reducible rfl
          rotate_left
          · simp only [Act.put, PU, i64_w, i32_w]
            rfl
          refine pure_ (i := 29) (N := some 92) (v := ?_) (a' := ?_) (tf 30 55) rfl rfl (any_of HT_.out (by kernel_rfl)) (fun _ _ _ h => h) (Or.inl ⟨by rfl, ?_⟩) ?_ ?_
          rotate_left
          · intro w'
            go_simp
            with_reducible rfl
          rotate_left
          · simp only [Act.put, PU, i64_w, i32_w]
            rfl
          refine pure_ (i := 30) (N := some 93) (v := ?_) (a' := ?_) (tf 31 55) rfl rfl (any_of HT_.out (by kernel_rfl)) (fun _ _ _ h => h) (Or.inl ⟨by rfl, ?_⟩) ?_ ?_
          rotate_left
          · intro w'
            go_simp
            with_reducible rfl
          rotate_left
          · simp only [Act.put, PU, i64_w, i32_w]
            rfl
          refine pure_ (i := 31) (N := some 94) (v := ?_) (a' := ?_) (tf 32 55) rfl rfl (any_of HT_.out (by kernel_rfl)) (fun _ _ _ h => h) (Or.inl ⟨by rfl, ?_⟩) ?_ ?_
          rotate_left
          · intro w'
            go_simp
            with_reducible rfl
          rotate_left
          · simp only [Act.put, PU, i64_w, i32_w]
            rfl
          refine pure_ (i := 32) (N := some 95) (v := ?_) (a' := ?_) (tf 33 55) rfl rfl (any_of HT_.out (by kernel_rfl)) (fun _ _ _ h => h) (Or.inl ⟨by rfl, ?_⟩) ?_ ?_
          rotate_left
          · intro w'
            go_simp
            with_reducible rfl
          rotate_left
          · simp only [Act.put, PU, i64_w, i32_w]
            rfl
          refine pure_ (i := 33) (N := some 96) (v := ?_) (a' := ?_) (tf 34 55) rfl rfl (any_of HT_.out (by kernel_rfl)) (fun _ _ _ h => h) (Or.inl ⟨by rfl, ?_⟩) ?_ ?_
          rotate_left
          · intro w'
            go_simp
            with_reducible rfl
          rotate_left
          · simp only [Act.put, PU, i64_w, i32_w]
            rfl
          refine pure_ (i := 34) (N := some 97) (v := ?_) (a' := ?_) (tf 35 55) rfl rfl (any_of HT_.out (by kernel_rfl)) (fun _ _ _ h => h) (Or.inl ⟨by rfl, ?_⟩) ?_ ?_
          rotate_left
          · intro w'
            go_simp
            with_reducible rfl
          rotate_left
          · simp only [Act.put, PU, i64_w, i32_w]
            rfl
          refine one_ (i := 35) (N := some 98) (tf 36 55) rfl rfl (one_of HT_.out (by kernel_rfl)) (by decide) (fun K hK => ?_)
          refine goes_ Try.func23 (by kernel_rfl) rfl #[.int .i64 1] (by rfl) rfl rfl (by (try simp only [List.map_toArray, List.map_cons, List.map_nil]); first | done | rfl | (simp only [List.length_drop, List.length_take]; rfl)) ?_
          with_reducible refine (hopperlaw14_event.calls 1 t280 t281 t282 t283 t284 t285 t286 t287 _ A136.out).mono ?_
          rintro e w148 ⟨rfl, hb⟩
          refine ⟨_, rfl, ?_⟩
          have n0_ := Aside0.mk (Kd.R_below (Kd.RA HO_14.out) hb)
          have n1_ := Aside0.mk (Kd.R_below (Kd.RA HO_175001.out) hb)
          have n2_ := Aside0.mk (Kd.R_below (Kd.RA HO_208001.out) hb)
          have n3_ := Aside0.mk (Kd.V_below (Kd.VA HO_223001.out) hb)
          have n4_ := Aside0.mk (Kd.V_below (Kd.VA HO_239001.out) hb)
          have n5_ := Aside0.mk (Kd.V_below (Kd.VA HO_255001.out) hb)
          have n6_ := Aside0.mk (Kd.V_below (Kd.VA HO_265001.out) hb)
          have n7_ := Aside0.mk (Kd.R_below (Kd.RA HO_272001.out) hb)
          have n8_ := Aside0.mk (blk_below (BA BK174.out) hb)
          have n9_ := Aside0.mk (blk_below (BA BK207.out) hb)
          have n10_ := Aside0.mk (blk_below (BA BK222.out) hb)
          have n11_ := Aside0.mk (blk_below (BA BK223.out) hb)
          have n12_ := Aside0.mk (blk_below (BA BK238.out) hb)
          have n13_ := Aside0.mk (blk_below (BA BK239.out) hb)
          have n14_ := Aside0.mk (blk_below (BA BK254.out) hb)
          have n15_ := Aside0.mk (blk_below (BA BK255.out) hb)
          have n16_ := Aside0.mk (blk_below (BA BK264.out) hb)
          have n17_ := Aside0.mk (blk_below (BA BK271.out) hb)
          have n18_ := Aside0.mk (below_step (LG HB.out (G1 GE174.out (G1 GE207.out (G1 GE222.out (G1 GE223.out (G1 GE238.out (G1 GE239.out (G1 GE254.out (G1 GE255.out (G1 GE264.out (G1 GE271.out G0))))))))))) hb)
          clear HO_14
          clear HO_175001
          clear HO_208001
          clear HO_223001
          clear HO_239001
          clear HO_255001
          clear HO_265001
          clear HO_272001
          clear BK174
          clear BK207
          clear BK222
          clear BK223
          clear BK238
          clear BK239
          clear BK254
          clear BK255
          clear BK264
          clear BK271
          clear HB
          have HO_14 := n0_
          have HO_175001 := n1_
          have HO_208001 := n2_
          have HO_223001 := n3_
          have HO_239001 := n4_
          have HO_255001 := n5_
          have HO_265001 := n6_
          have HO_272001 := n7_
          have BK174 := n8_
          have BK207 := n9_
          have BK222 := n10_
          have BK223 := n11_
          have BK238 := n12_
          have BK239 := n13_
          have BK254 := n14_
          have BK255 := n15_
          have BK264 := n16_
          have BK271 := n17_
          have HB := n18_
          clear n0_ n1_ n2_ n3_ n4_ n5_ n6_ n7_ n8_ n9_ n10_ n11_ n12_ n13_ n14_ n15_ n16_ n17_ n18_
          (try clear hb)
          (try clear hb2)
          (try clear hk)
          (try clear hi)
          refine hK.out _ _ ⟨(blk_cell BK207.out 0).trans rfl, (blk_cell BK207.out 1).trans rfl, (blk_cell BK207.out 2).trans rfl, (blk_cell BK223.out 0).trans rfl, (blk_cell BK223.out 1).trans rfl, (blk_cell BK223.out 2).trans rfl, (blk_cell BK223.out 3).trans rfl, (blk_cell BK223.out 4).trans rfl, (blk_cell BK223.out 5).trans rfl, (blk_cell BK223.out 6).trans rfl, (blk_cell BK223.out 7).trans rfl, (blk_cell BK239.out 0).trans rfl, (blk_cell BK239.out 1).trans rfl, (blk_cell BK239.out 2).trans rfl, (blk_cell BK239.out 3).trans rfl, (blk_cell BK239.out 4).trans rfl, (blk_cell BK239.out 5).trans rfl, (blk_cell BK239.out 6).trans rfl, (blk_cell BK239.out 7).trans rfl⟩ (fun hHeld => ?_)
          clear hK K
          refine norm_ (a' := ?_) ?_ ?_
          rotate_left
          · show Act.put _ (some 98) _ = _
            simp only [Act.put, PU, i64_w, i32_w]
            rfl
          refine one_ (i := 36) (N := some 99) (tf 37 55) rfl rfl (one_of HT_.out (by kernel_rfl)) (by decide) (fun K hK => ?_)
          refine goes_ Try.func23 (by kernel_rfl) rfl #[.int .i64 2] (by rfl) rfl rfl (by (try simp only [List.map_toArray, List.map_cons, List.map_nil]); first | done | rfl | (simp only [List.length_drop, List.length_take]; rfl)) ?_
          with_reducible refine (hopperlaw14_event.calls 2 t288 t289 t290 t291 t292 t293 t294 t295 _ A137.out).mono ?_
          rintro e w149 ⟨rfl, hb⟩
          refine ⟨_, rfl, ?_⟩
          have n0_ := Aside0.mk (Kd.R_below (Kd.RA HO_14.out) hb)
          have n1_ := Aside0.mk (Kd.R_below (Kd.RA HO_175001.out) hb)
          have n2_ := Aside0.mk (Kd.R_below (Kd.RA HO_208001.out) hb)
          have n3_ := Aside0.mk (Kd.V_below (Kd.VA HO_223001.out) hb)
          have n4_ := Aside0.mk (Kd.V_below (Kd.VA HO_239001.out) hb)
          have n5_ := Aside0.mk (Kd.V_below (Kd.VA HO_255001.out) hb)
          have n6_ := Aside0.mk (Kd.V_below (Kd.VA HO_265001.out) hb)
          have n7_ := Aside0.mk (Kd.R_below (Kd.RA HO_272001.out) hb)
          have n8_ := Aside0.mk (blk_below (BA BK174.out) hb)
          have n9_ := Aside0.mk (blk_below (BA BK207.out) hb)
          have n10_ := Aside0.mk (blk_below (BA BK222.out) hb)
          have n11_ := Aside0.mk (blk_below (BA BK223.out) hb)
          have n12_ := Aside0.mk (blk_below (BA BK238.out) hb)
          have n13_ := Aside0.mk (blk_below (BA BK239.out) hb)
          have n14_ := Aside0.mk (blk_below (BA BK254.out) hb)
          have n15_ := Aside0.mk (blk_below (BA BK255.out) hb)
          have n16_ := Aside0.mk (blk_below (BA BK264.out) hb)
          have n17_ := Aside0.mk (blk_below (BA BK271.out) hb)
          have n18_ := Aside0.mk (below_step (LG HB.out (G1 GE174.out (G1 GE207.out (G1 GE222.out (G1 GE223.out (G1 GE238.out (G1 GE239.out (G1 GE254.out (G1 GE255.out (G1 GE264.out (G1 GE271.out G0))))))))))) hb)
          clear HO_14
          clear HO_175001
          clear HO_208001
          clear HO_223001
          clear HO_239001
          clear HO_255001
          clear HO_265001
          clear HO_272001
          clear BK174
          clear BK207
          clear BK222
          clear BK223
          clear BK238
          clear BK239
          clear BK254
          clear BK255
          clear BK264
          clear BK271
          clear HB
          have HO_14 := n0_
          have HO_175001 := n1_
          have HO_208001 := n2_
          have HO_223001 := n3_
          have HO_239001 := n4_
          have HO_255001 := n5_
          have HO_265001 := n6_
          have HO_272001 := n7_
          have BK174 := n8_
          have BK207 := n9_
          have BK222 := n10_
          have BK223 := n11_
          have BK238 := n12_
          have BK239 := n13_
          have BK254 := n14_
          have BK255 := n15_
          have BK264 := n16_
          have BK271 := n17_
          have HB := n18_
          clear n0_ n1_ n2_ n3_ n4_ n5_ n6_ n7_ n8_ n9_ n10_ n11_ n12_ n13_ n14_ n15_ n16_ n17_ n18_
          (try clear hb)
          (try clear hb2)
          (try clear hk)
          (try clear hi)
          refine hK.out _ _ ⟨(blk_cell BK207.out 0).trans rfl, (blk_cell BK207.out 1).trans rfl, (blk_cell BK207.out 2).trans rfl, (blk_cell BK223.out 0).trans rfl, (blk_cell BK223.out 1).trans rfl, (blk_cell BK223.out 2).trans rfl, (blk_cell BK223.out 3).trans rfl, (blk_cell BK223.out 4).trans rfl, (blk_cell BK223.out 5).trans rfl, (blk_cell BK223.out 6).trans rfl, (blk_cell BK223.out 7).trans rfl, (blk_cell BK239.out 0).trans rfl, (blk_cell BK239.out 1).trans rfl, (blk_cell BK239.out 2).trans rfl, (blk_cell BK239.out 3).trans rfl, (blk_cell BK239.out 4).trans rfl, (blk_cell BK239.out 5).trans rfl, (blk_cell BK239.out 6).trans rfl, (blk_cell BK239.out 7).trans rfl⟩ (fun hHeld => ?_)
          clear hK K
          refine norm_ (a' := ?_) ?_ ?_
          rotate_left
          · show Act.put _ (some 99) _ = _
            simp only [Act.put, PU, i64_w, i32_w]
            rfl
          refine one_ (i := 37) (N := some 100) (tf 38 55) rfl rfl (one_of HT_.out (by kernel_rfl)) (by decide) (fun K hK => ?_)
          refine goes_ Try.func23 (by kernel_rfl) rfl #[.int .i64 3] (by rfl) rfl rfl (by (try simp only [List.map_toArray, List.map_cons, List.map_nil]); first | done | rfl | (simp only [List.length_drop, List.length_take]; rfl)) ?_
          with_reducible refine (hopperlaw14_event.calls 3 t296 t297 t298 t299 t300 t301 t302 t303 _ A138.out).mono ?_
          rintro e w150 ⟨rfl, hb⟩
          refine ⟨_, rfl, ?_⟩
          have n0_ := Aside0.mk (Kd.R_below (Kd.RA HO_14.out) hb)
          have n1_ := Aside0.mk (Kd.R_below (Kd.RA HO_175001.out) hb)
          have n2_ := Aside0.mk (Kd.R_below (Kd.RA HO_208001.out) hb)
          have n3_ := Aside0.mk (Kd.V_below (Kd.VA HO_223001.out) hb)
          have n4_ := Aside0.mk (Kd.V_below (Kd.VA HO_239001.out) hb)
          have n5_ := Aside0.mk (Kd.V_below (Kd.VA HO_255001.out) hb)
          have n6_ := Aside0.mk (Kd.V_below (Kd.VA HO_265001.out) hb)
          have n7_ := Aside0.mk (Kd.R_below (Kd.RA HO_272001.out) hb)
          have n8_ := Aside0.mk (blk_below (BA BK174.out) hb)
          have n9_ := Aside0.mk (blk_below (BA BK207.out) hb)
          have n10_ := Aside0.mk (blk_below (BA BK222.out) hb)
          have n11_ := Aside0.mk (blk_below (BA BK223.out) hb)
          have n12_ := Aside0.mk (blk_below (BA BK238.out) hb)
          have n13_ := Aside0.mk (blk_below (BA BK239.out) hb)
          have n14_ := Aside0.mk (blk_below (BA BK254.out) hb)
          have n15_ := Aside0.mk (blk_below (BA BK255.out) hb)
          have n16_ := Aside0.mk (blk_below (BA BK264.out) hb)
          have n17_ := Aside0.mk (blk_below (BA BK271.out) hb)
          have n18_ := Aside0.mk (below_step (LG HB.out (G1 GE174.out (G1 GE207.out (G1 GE222.out (G1 GE223.out (G1 GE238.out (G1 GE239.out (G1 GE254.out (G1 GE255.out (G1 GE264.out (G1 GE271.out G0))))))))))) hb)
          clear HO_14
          clear HO_175001
          clear HO_208001
          clear HO_223001
          clear HO_239001
          clear HO_255001
          clear HO_265001
          clear HO_272001
          clear BK174
          clear BK207
          clear BK222
          clear BK223
          clear BK238
          clear BK239
          clear BK254
          clear BK255
          clear BK264
          clear BK271
          clear HB
          have HO_14 := n0_
          have HO_175001 := n1_
          have HO_208001 := n2_
          have HO_223001 := n3_
          have HO_239001 := n4_
          have HO_255001 := n5_
          have HO_265001 := n6_
          have HO_272001 := n7_
          have BK174 := n8_
          have BK207 := n9_
          have BK222 := n10_
          have BK223 := n11_
          have BK238 := n12_
          have BK239 := n13_
          have BK254 := n14_
          have BK255 := n15_
          have BK264 := n16_
          have BK271 := n17_
          have HB := n18_
          clear n0_ n1_ n2_ n3_ n4_ n5_ n6_ n7_ n8_ n9_ n10_ n11_ n12_ n13_ n14_ n15_ n16_ n17_ n18_
          (try clear hb)
          (try clear hb2)
          (try clear hk)
          (try clear hi)
          refine hK.out _ _ ⟨(blk_cell BK207.out 0).trans rfl, (blk_cell BK207.out 1).trans rfl, (blk_cell BK207.out 2).trans rfl, (blk_cell BK223.out 0).trans rfl, (blk_cell BK223.out 1).trans rfl, (blk_cell BK223.out 2).trans rfl, (blk_cell BK223.out 3).trans rfl, (blk_cell BK223.out 4).trans rfl, (blk_cell BK223.out 5).trans rfl, (blk_cell BK223.out 6).trans rfl, (blk_cell BK223.out 7).trans rfl, (blk_cell BK239.out 0).trans rfl, (blk_cell BK239.out 1).trans rfl, (blk_cell BK239.out 2).trans rfl, (blk_cell BK239.out 3).trans rfl, (blk_cell BK239.out 4).trans rfl, (blk_cell BK239.out 5).trans rfl, (blk_cell BK239.out 6).trans rfl, (blk_cell BK239.out 7).trans rfl⟩ (fun hHeld => ?_)
          clear hK K
          refine norm_ (a' := ?_) ?_ ?_
          rotate_left
          · show Act.put _ (some 100) _ = _
            simp only [Act.put, PU, i64_w, i32_w]
            rfl
          refine one_ (i := 38) (N := some 101) (tf 39 55) rfl rfl (one_of HT_.out (by kernel_rfl)) (by decide) (fun K hK => ?_)
          refine Kd.R_lit_step k36 _ 36 ?hg (N := 101) ?hd (xs := ([(⟨t280, (⟨t281, t282, t283, t284, t285, t286⟩ : S34), t287⟩ : S36), (⟨t288, (⟨t289, t290, t291, t292, t293, t294⟩ : S34), t295⟩ : S36), (⟨t296, (⟨t297, t298, t299, t300, t301, t302⟩ : S34), t303⟩ : S36)] : List (S36))) (inner := [.int .i64 t280, .int .i64 t281, .int .i64 t282, .int .i64 t283, .int .i64 t284, .int .i64 t285, .string t286, .int .i64 t287, .int .i64 t288, .int .i64 t289, .int .i64 t290, .int .i64 t291, .int .i64 t292, .int .i64 t293, .string t294, .int .i64 t295, .int .i64 t296, .int .i64 t297, .int .i64 t298, .int .i64 t299, .int .i64 t300, .int .i64 t301, .string t302, .int .i64 t303]) (ok := fun _ => True) (okp := fun _ => True) ?hr ?hp (fun _ hk => hk) trivial (Below.refl _ _) (Nat.le_refl _) (by simp) ?_; (case hd => rfl); (case hg => rfl); (case hr => first | (go_simp; done) | (go_simp; rfl)); (case hp => exact (Reps.c8 (show Kd.M k36 _ _ _ (⟨t280, (⟨t281, t282, t283, t284, t285, t286⟩ : S34), t287⟩ : S36) [.int .i64 t280, .int .i64 t281, .int .i64 t282, .int .i64 t283, .int .i64 t284, .int .i64 t285, .string t286, .int .i64 t287] from (k36_mkM _ _ _ (⟨t280, (⟨t281, t282, t283, t284, t285, t286⟩ : S34), t287⟩ : S36) )) (Reps.c8 (show Kd.M k36 _ _ _ (⟨t288, (⟨t289, t290, t291, t292, t293, t294⟩ : S34), t295⟩ : S36) [.int .i64 t288, .int .i64 t289, .int .i64 t290, .int .i64 t291, .int .i64 t292, .int .i64 t293, .string t294, .int .i64 t295] from (k36_mkM _ _ _ (⟨t288, (⟨t289, t290, t291, t292, t293, t294⟩ : S34), t295⟩ : S36) )) (Reps.c8 (show Kd.M k36 _ _ _ (⟨t296, (⟨t297, t298, t299, t300, t301, t302⟩ : S34), t303⟩ : S36) [.int .i64 t296, .int .i64 t297, .int .i64 t298, .int .i64 t299, .int .i64 t300, .int .i64 t301, .string t302, .int .i64 t303] from (k36_mkM _ _ _ (⟨t296, (⟨t297, t298, t299, t300, t301, t302⟩ : S34), t303⟩ : S36) )) (Reps.none _ _)))))
          intro v305 w151 ho152 hb hg_ hnew_
          clear hg_ hnew_
          (first | rw [← Ny304.out] at ho152 | (simp only [Int.reduceToNat] at ho152; rw [← Ny304.out] at ho152))
          have n0_ := Aside0.mk (Kd.R_elder' (Kd.RA HO_14.out) (Kd.R_base ho152) hb)
          have n1_ := Aside0.mk (Kd.R_elder' (Kd.RA HO_175001.out) (Kd.R_base ho152) hb)
          have n2_ := Aside0.mk (Kd.R_elder' (Kd.RA HO_208001.out) (Kd.R_base ho152) hb)
          have n3_ := Aside0.mk (Kd.V_elder' (Kd.VA HO_223001.out) (Kd.R_base ho152) hb)
          have n4_ := Aside0.mk (Kd.V_elder' (Kd.VA HO_239001.out) (Kd.R_base ho152) hb)
          have n5_ := Aside0.mk (Kd.V_elder' (Kd.VA HO_255001.out) (Kd.R_base ho152) hb)
          have n6_ := Aside0.mk (Kd.V_elder' (Kd.VA HO_265001.out) (Kd.R_base ho152) hb)
          have n7_ := Aside0.mk (Kd.R_elder' (Kd.RA HO_272001.out) (Kd.R_base ho152) hb)
          have n8_ := Aside0.mk (Kd.R_lower (Kd.R_newB (Kd.R_newB (Kd.R_newB (Kd.R_new' (Kd.R_new' (Kd.R_new' (Kd.R_new' ho152 (Kd.R_lt (Kd.RA HO_14.out))) (Kd.R_lt (Kd.RA HO_175001.out))) (Kd.R_lt (Kd.RA HO_208001.out))) (Kd.R_lt (Kd.RA HO_272001.out))) (g := gb223) (o := .cells #[.int .i64 t213, .int .i64 t214, .int .i64 t215, .int .i64 t216, .int .i64 t217, .int .i64 t218, .string t219, .int .i64 t220] 36 (0, 0)) (BA BK223.out)) (g := gb239) (o := .cells #[.int .i64 t229, .int .i64 t230, .int .i64 t231, .int .i64 t232, .int .i64 t233, .int .i64 t234, .string t235, .int .i64 t236] 36 (0, 0)) (BA BK239.out)) (g := gb255) (o := .cells #[.int .i64 t245, .int .i64 t246, .int .i64 t247, .int .i64 t248, .int .i64 t249, .int .i64 t250, .string t251, .int .i64 t252] 36 (0, 0)) (BA BK255.out)) (below_size (LG HB.out (G1 GE174.out (G1 GE207.out (G1 GE222.out (G1 GE223.out (G1 GE238.out (G1 GE239.out (G1 GE254.out (G1 GE255.out (G1 GE264.out (G1 GE271.out G0)))))))))))))
          have n9_ := Aside0.mk (blk_below (BA BK174.out) hb)
          have n10_ := Aside0.mk (blk_below (BA BK207.out) hb)
          have n11_ := Aside0.mk (blk_below (BA BK222.out) hb)
          have n12_ := Aside0.mk (blk_below (BA BK223.out) hb)
          have n13_ := Aside0.mk (blk_below (BA BK238.out) hb)
          have n14_ := Aside0.mk (blk_below (BA BK239.out) hb)
          have n15_ := Aside0.mk (blk_below (BA BK254.out) hb)
          have n16_ := Aside0.mk (blk_below (BA BK255.out) hb)
          have n17_ := Aside0.mk (blk_below (BA BK264.out) hb)
          have n18_ := Aside0.mk (blk_below (BA BK271.out) hb)
          have n19_ := Aside0.mk (below_step (LG HB.out (G1 GE174.out (G1 GE207.out (G1 GE222.out (G1 GE223.out (G1 GE238.out (G1 GE239.out (G1 GE254.out (G1 GE255.out (G1 GE264.out (G1 GE271.out G0))))))))))) hb)
          clear HO_14
          clear HO_175001
          clear HO_208001
          clear HO_223001
          clear HO_239001
          clear HO_255001
          clear HO_265001
          clear HO_272001
          clear BK174
          clear BK207
          clear BK222
          clear BK223
          clear BK238
          clear BK239
          clear BK254
          clear BK255
          clear BK264
          clear BK271
          clear HB
          have HO_14 := n0_
          have HO_175001 := n1_
          have HO_208001 := n2_
          have HO_223001 := n3_
          have HO_239001 := n4_
          have HO_255001 := n5_
          have HO_265001 := n6_
          have HO_272001 := n7_
          have HO306 := n8_
          have BK174 := n9_
          have BK207 := n10_
          have BK222 := n11_
          have BK223 := n12_
          have BK238 := n13_
          have BK239 := n14_
          have BK254 := n15_
          have BK255 := n16_
          have BK264 := n17_
          have BK271 := n18_
          have HB := n19_
          clear n0_ n1_ n2_ n3_ n4_ n5_ n6_ n7_ n8_ n9_ n10_ n11_ n12_ n13_ n14_ n15_ n16_ n17_ n18_ n19_
          clear hb ho152
          obtain ⟨Ao153, co153, eo153⟩ := Kd.R_slice HO_14.out
          (first | subst eo153 | (injection eo153 with f1_ f2_ f3_; have f4_ := f1_.symm; have f5_ := f3_.symm; clear f1_ f2_ f3_; subst f4_; subst f5_))
          obtain ⟨Ao154, co154, eo154⟩ := Kd.R_slice HO306.out
          (first | subst eo154 | (injection eo154 with f1_ f2_ f3_; have f4_ := f1_.symm; have f5_ := f3_.symm; clear f1_ f2_ f3_; subst f4_; subst f5_))
          refine hK.out _ _ ⟨(blk_cell BK207.out 0).trans rfl, (blk_cell BK207.out 1).trans rfl, (blk_cell BK207.out 2).trans rfl, (blk_cell BK223.out 0).trans rfl, (blk_cell BK223.out 1).trans rfl, (blk_cell BK223.out 2).trans rfl, (blk_cell BK223.out 3).trans rfl, (blk_cell BK223.out 4).trans rfl, (blk_cell BK223.out 5).trans rfl, (blk_cell BK223.out 6).trans rfl, (blk_cell BK223.out 7).trans rfl, (blk_cell BK239.out 0).trans rfl, (blk_cell BK239.out 1).trans rfl, (blk_cell BK239.out 2).trans rfl, (blk_cell BK239.out 3).trans rfl, (blk_cell BK239.out 4).trans rfl, (blk_cell BK239.out 5).trans rfl, (blk_cell BK239.out 6).trans rfl, (blk_cell BK239.out 7).trans rfl⟩ (fun hHeld => ?_)
          clear hK K
          refine norm_ (a' := ?_) ?_ ?_
          rotate_left
          · show Act.put _ (some 101) _ = _
            simp only [Act.put, PU, i64_w, i32_w]
            rfl
          refine one_ (i := 39) (N := some 102) (tf 40 55) rfl rfl (one_of HT_.out (by kernel_rfl)) (by decide) (fun K hK => ?_)
          refine goes_ Try.func21 (by kernel_rfl) rfl #[.slice Ao153 t261.length co153, .slice Ao154 y304.length co154] (by rfl) rfl rfl (by (try simp only [List.map_toArray, List.map_cons, List.map_nil]); first | done | rfl | (simp only [List.length_drop, List.length_take]; rfl)) ?_
          with_reducible refine (feed_Covers.calls kj10 _ _ t261 (fun k_ => some k_ = (.slice Ao154 y304.length co154 : Value).ownBlock) _ _ y304 true _ ?side1 ?side2 ?side3 A139.out).mono ?_
          (case side1 => exact Kd.CA (Kd.R_reads' HO_14.out).2.2)
          (case side2 => exact (Kd.R_reads' HO_14.out).2.1)
          (case side3 => exact Kd.R_V (Kd.R_tight rfl (Kd.R_types (Kd.R_types (Kd.R_types (Kd.R_types (Kd.R_types (Kd.R_types (Kd.R_types (HO306.out) BK174.out (by decide)) BK207.out (by decide)) BK222.out (by decide)) BK238.out (by decide)) BK254.out (by decide)) BK264.out (by decide)) BK271.out (by decide))))
          rintro e w155 ⟨rfl, hb⟩
          refine ⟨_, rfl, ?_⟩
          have n0_ := Aside0.mk (Kd.R_below (Kd.RA HO_14.out) hb)
          have n1_ := Aside0.mk (Kd.R_below (Kd.RA HO_175001.out) hb)
          have n2_ := Aside0.mk (Kd.R_below (Kd.RA HO_208001.out) hb)
          have n3_ := Aside0.mk (Kd.V_below (Kd.VA HO_223001.out) hb)
          have n4_ := Aside0.mk (Kd.V_below (Kd.VA HO_239001.out) hb)
          have n5_ := Aside0.mk (Kd.V_below (Kd.VA HO_255001.out) hb)
          have n6_ := Aside0.mk (Kd.V_below (Kd.VA HO_265001.out) hb)
          have n7_ := Aside0.mk (Kd.R_below (Kd.RA HO_272001.out) hb)
          have n8_ := Aside0.mk (Kd.R_below (Kd.RA HO306.out) hb)
          have n9_ := Aside0.mk (blk_below (BA BK174.out) hb)
          have n10_ := Aside0.mk (blk_below (BA BK207.out) hb)
          have n11_ := Aside0.mk (blk_below (BA BK222.out) hb)
          have n12_ := Aside0.mk (blk_below (BA BK223.out) hb)
          have n13_ := Aside0.mk (blk_below (BA BK238.out) hb)
          have n14_ := Aside0.mk (blk_below (BA BK239.out) hb)
          have n15_ := Aside0.mk (blk_below (BA BK254.out) hb)
          have n16_ := Aside0.mk (blk_below (BA BK255.out) hb)
          have n17_ := Aside0.mk (blk_below (BA BK264.out) hb)
          have n18_ := Aside0.mk (blk_below (BA BK271.out) hb)
          have n19_ := Aside0.mk (below_step (LG HB.out (G1 GE174.out (G1 GE207.out (G1 GE222.out (G1 GE223.out (G1 GE238.out (G1 GE239.out (G1 GE254.out (G1 GE255.out (G1 GE264.out (G1 GE271.out G0))))))))))) hb)
          clear HO_14
          clear HO_175001
          clear HO_208001
          clear HO_223001
          clear HO_239001
          clear HO_255001
          clear HO_265001
          clear HO_272001
          clear HO306
          clear BK174
          clear BK207
          clear BK222
          clear BK223
          clear BK238
          clear BK239
          clear BK254
          clear BK255
          clear BK264
          clear BK271
          clear HB
          have HO_14 := n0_
          have HO_175001 := n1_
          have HO_208001 := n2_
          have HO_223001 := n3_
          have HO_239001 := n4_
          have HO_255001 := n5_
          have HO_265001 := n6_
          have HO_272001 := n7_
          have HO306 := n8_
          have BK174 := n9_
          have BK207 := n10_
          have BK222 := n11_
          have BK223 := n12_
          have BK238 := n13_
          have BK239 := n14_
          have BK254 := n15_
          have BK255 := n16_
          have BK264 := n17_
          have BK271 := n18_
          have HB := n19_
          clear n0_ n1_ n2_ n3_ n4_ n5_ n6_ n7_ n8_ n9_ n10_ n11_ n12_ n13_ n14_ n15_ n16_ n17_ n18_ n19_
          (try clear hb)
          (try clear hb2)
          (try clear hk)
          (try clear hi)
          refine hK.out _ _ ⟨(blk_cell BK207.out 0).trans rfl, (blk_cell BK207.out 1).trans rfl, (blk_cell BK207.out 2).trans rfl, (blk_cell BK223.out 0).trans rfl, (blk_cell BK223.out 1).trans rfl, (blk_cell BK223.out 2).trans rfl, (blk_cell BK223.out 3).trans rfl, (blk_cell BK223.out 4).trans rfl, (blk_cell BK223.out 5).trans rfl, (blk_cell BK223.out 6).trans rfl, (blk_cell BK223.out 7).trans rfl, (blk_cell BK239.out 0).trans rfl, (blk_cell BK239.out 1).trans rfl, (blk_cell BK239.out 2).trans rfl, (blk_cell BK239.out 3).trans rfl, (blk_cell BK239.out 4).trans rfl, (blk_cell BK239.out 5).trans rfl, (blk_cell BK239.out 6).trans rfl, (blk_cell BK239.out 7).trans rfl⟩ (fun hHeld => ?_)
          clear hK K
          refine norm_ (a' := ?_) ?_ ?_
          rotate_left
          · show Act.put _ (some 102) _ = _
            simp only [Act.put, PU, i64_w, i32_w]
            rfl
          refine pure_ (i := 40) (N := some 103) (v := ?_) (a' := ?_) (tf 41 55) rfl rfl (any_of HT_.out (by kernel_rfl)) (fun _ _ _ h => h) (Or.inl ⟨by rfl, ?_⟩) ?_ ?_
          rotate_left
          · intro w'
            go_simp
            with_reducible rfl
          rotate_left
          · simp only [Act.put, PU, i64_w, i32_w]
            rfl
          refine pure_ (i := 41) (N := some 104) (v := ?_) (a' := ?_) (tf 42 55) rfl rfl (any_of HT_.out (by kernel_rfl)) (fun _ _ _ h => h) (Or.inl ⟨by rfl, ?_⟩) ?_ ?_
          rotate_left
          · intro w'
            go_simp
            with_reducible rfl
          rotate_left
          · simp only [Act.put, PU, i64_w, i32_w]
            rfl
          refine pure_ (i := 42) (N := some 105) (v := ?_) (a' := ?_) (tf 43 55) rfl rfl (any_of HT_.out (by kernel_rfl)) (fun _ _ _ h => h) (Or.inl ⟨by rfl, ?_⟩) ?_ ?_
          rotate_left
          · intro w'
            go_simp
            with_reducible rfl
          rotate_left
          · simp only [Act.put, PU, i64_w, i32_w]
            rfl
          refine one_ (i := 43) (N := some 106) (tf 44 55) rfl rfl (one_of HT_.out (by kernel_rfl)) (by decide) (fun K hK => ?_)
          refine goes_ Try.func23 (by kernel_rfl) rfl #[.int .i64 1] (by rfl) rfl rfl (by (try simp only [List.map_toArray, List.map_cons, List.map_nil]); first | done | rfl | (simp only [List.length_drop, List.length_take]; rfl)) ?_
          with_reducible refine (hopperlaw14_event.calls 1 t308 t309 t310 t311 t312 t313 t314 t315 _ A141.out).mono ?_
          rintro e w156 ⟨rfl, hb⟩
          refine ⟨_, rfl, ?_⟩
          have n0_ := Aside0.mk (Kd.R_below (Kd.RA HO_14.out) hb)
          have n1_ := Aside0.mk (Kd.R_below (Kd.RA HO_175001.out) hb)
          have n2_ := Aside0.mk (Kd.R_below (Kd.RA HO_208001.out) hb)
          have n3_ := Aside0.mk (Kd.V_below (Kd.VA HO_223001.out) hb)
          have n4_ := Aside0.mk (Kd.V_below (Kd.VA HO_239001.out) hb)
          have n5_ := Aside0.mk (Kd.V_below (Kd.VA HO_255001.out) hb)
          have n6_ := Aside0.mk (Kd.V_below (Kd.VA HO_265001.out) hb)
          have n7_ := Aside0.mk (Kd.R_below (Kd.RA HO_272001.out) hb)
          have n8_ := Aside0.mk (Kd.R_below (Kd.RA HO306.out) hb)
          have n9_ := Aside0.mk (blk_below (BA BK174.out) hb)
          have n10_ := Aside0.mk (blk_below (BA BK207.out) hb)
          have n11_ := Aside0.mk (blk_below (BA BK222.out) hb)
          have n12_ := Aside0.mk (blk_below (BA BK223.out) hb)
          have n13_ := Aside0.mk (blk_below (BA BK238.out) hb)
          have n14_ := Aside0.mk (blk_below (BA BK239.out) hb)
          have n15_ := Aside0.mk (blk_below (BA BK254.out) hb)
          have n16_ := Aside0.mk (blk_below (BA BK255.out) hb)
          have n17_ := Aside0.mk (blk_below (BA BK264.out) hb)
          have n18_ := Aside0.mk (blk_below (BA BK271.out) hb)
          have n19_ := Aside0.mk (below_step (LG HB.out (G1 GE174.out (G1 GE207.out (G1 GE222.out (G1 GE223.out (G1 GE238.out (G1 GE239.out (G1 GE254.out (G1 GE255.out (G1 GE264.out (G1 GE271.out G0))))))))))) hb)
          clear HO_14
          clear HO_175001
          clear HO_208001
          clear HO_223001
          clear HO_239001
          clear HO_255001
          clear HO_265001
          clear HO_272001
          clear HO306
          clear BK174
          clear BK207
          clear BK222
          clear BK223
          clear BK238
          clear BK239
          clear BK254
          clear BK255
          clear BK264
          clear BK271
          clear HB
          have HO_14 := n0_
          have HO_175001 := n1_
          have HO_208001 := n2_
          have HO_223001 := n3_
          have HO_239001 := n4_
          have HO_255001 := n5_
          have HO_265001 := n6_
          have HO_272001 := n7_
          have HO306 := n8_
          have BK174 := n9_
          have BK207 := n10_
          have BK222 := n11_
          have BK223 := n12_
          have BK238 := n13_
          have BK239 := n14_
          have BK254 := n15_
          have BK255 := n16_
          have BK264 := n17_
          have BK271 := n18_
          have HB := n19_
          clear n0_ n1_ n2_ n3_ n4_ n5_ n6_ n7_ n8_ n9_ n10_ n11_ n12_ n13_ n14_ n15_ n16_ n17_ n18_ n19_
          (try clear hb)
          (try clear hb2)
          (try clear hk)
          (try clear hi)
          refine hK.out _ _ ⟨(blk_cell BK207.out 0).trans rfl, (blk_cell BK207.out 1).trans rfl, (blk_cell BK207.out 2).trans rfl, (blk_cell BK223.out 0).trans rfl, (blk_cell BK223.out 1).trans rfl, (blk_cell BK223.out 2).trans rfl, (blk_cell BK223.out 3).trans rfl, (blk_cell BK223.out 4).trans rfl, (blk_cell BK223.out 5).trans rfl, (blk_cell BK223.out 6).trans rfl, (blk_cell BK223.out 7).trans rfl, (blk_cell BK239.out 0).trans rfl, (blk_cell BK239.out 1).trans rfl, (blk_cell BK239.out 2).trans rfl, (blk_cell BK239.out 3).trans rfl, (blk_cell BK239.out 4).trans rfl, (blk_cell BK239.out 5).trans rfl, (blk_cell BK239.out 6).trans rfl, (blk_cell BK239.out 7).trans rfl⟩ (fun hHeld => ?_)
          clear hK K
          refine norm_ (a' := ?_) ?_ ?_
          rotate_left
          · show Act.put _ (some 106) _ = _
            simp only [Act.put, PU, i64_w, i32_w]
            rfl
          refine one_ (i := 44) (N := some 107) (tf 45 55) rfl rfl (one_of HT_.out (by kernel_rfl)) (by decide) (fun K hK => ?_)
          refine goes_ Try.func23 (by kernel_rfl) rfl #[.int .i64 2] (by rfl) rfl rfl (by (try simp only [List.map_toArray, List.map_cons, List.map_nil]); first | done | rfl | (simp only [List.length_drop, List.length_take]; rfl)) ?_
          with_reducible refine (hopperlaw14_event.calls 2 t316 t317 t318 t319 t320 t321 t322 t323 _ A142.out).mono ?_
          rintro e w157 ⟨rfl, hb⟩
          refine ⟨_, rfl, ?_⟩
          have n0_ := Aside0.mk (Kd.R_below (Kd.RA HO_14.out) hb)
          have n1_ := Aside0.mk (Kd.R_below (Kd.RA HO_175001.out) hb)
          have n2_ := Aside0.mk (Kd.R_below (Kd.RA HO_208001.out) hb)
          have n3_ := Aside0.mk (Kd.V_below (Kd.VA HO_223001.out) hb)
          have n4_ := Aside0.mk (Kd.V_below (Kd.VA HO_239001.out) hb)
          have n5_ := Aside0.mk (Kd.V_below (Kd.VA HO_255001.out) hb)
          have n6_ := Aside0.mk (Kd.V_below (Kd.VA HO_265001.out) hb)
          have n7_ := Aside0.mk (Kd.R_below (Kd.RA HO_272001.out) hb)
          have n8_ := Aside0.mk (Kd.R_below (Kd.RA HO306.out) hb)
          have n9_ := Aside0.mk (blk_below (BA BK174.out) hb)
          have n10_ := Aside0.mk (blk_below (BA BK207.out) hb)
          have n11_ := Aside0.mk (blk_below (BA BK222.out) hb)
          have n12_ := Aside0.mk (blk_below (BA BK223.out) hb)
          have n13_ := Aside0.mk (blk_below (BA BK238.out) hb)
          have n14_ := Aside0.mk (blk_below (BA BK239.out) hb)
          have n15_ := Aside0.mk (blk_below (BA BK254.out) hb)
          have n16_ := Aside0.mk (blk_below (BA BK255.out) hb)
          have n17_ := Aside0.mk (blk_below (BA BK264.out) hb)
          have n18_ := Aside0.mk (blk_below (BA BK271.out) hb)
          have n19_ := Aside0.mk (below_step (LG HB.out (G1 GE174.out (G1 GE207.out (G1 GE222.out (G1 GE223.out (G1 GE238.out (G1 GE239.out (G1 GE254.out (G1 GE255.out (G1 GE264.out (G1 GE271.out G0))))))))))) hb)
          clear HO_14
          clear HO_175001
          clear HO_208001
          clear HO_223001
          clear HO_239001
          clear HO_255001
          clear HO_265001
          clear HO_272001
          clear HO306
          clear BK174
          clear BK207
          clear BK222
          clear BK223
          clear BK238
          clear BK239
          clear BK254
          clear BK255
          clear BK264
          clear BK271
          clear HB
          have HO_14 := n0_
          have HO_175001 := n1_
          have HO_208001 := n2_
          have HO_223001 := n3_
          have HO_239001 := n4_
          have HO_255001 := n5_
          have HO_265001 := n6_
          have HO_272001 := n7_
          have HO306 := n8_
          have BK174 := n9_
          have BK207 := n10_
          have BK222 := n11_
          have BK223 := n12_
          have BK238 := n13_
          have BK239 := n14_
          have BK254 := n15_
          have BK255 := n16_
          have BK264 := n17_
          have BK271 := n18_
          have HB := n19_
          clear n0_ n1_ n2_ n3_ n4_ n5_ n6_ n7_ n8_ n9_ n10_ n11_ n12_ n13_ n14_ n15_ n16_ n17_ n18_ n19_
          (try clear hb)
          (try clear hb2)
          (try clear hk)
          (try clear hi)
          refine hK.out _ _ ⟨(blk_cell BK207.out 0).trans rfl, (blk_cell BK207.out 1).trans rfl, (blk_cell BK207.out 2).trans rfl, (blk_cell BK223.out 0).trans rfl, (blk_cell BK223.out 1).trans rfl, (blk_cell BK223.out 2).trans rfl, (blk_cell BK223.out 3).trans rfl, (blk_cell BK223.out 4).trans rfl, (blk_cell BK223.out 5).trans rfl, (blk_cell BK223.out 6).trans rfl, (blk_cell BK223.out 7).trans rfl, (blk_cell BK239.out 0).trans rfl, (blk_cell BK239.out 1).trans rfl, (blk_cell BK239.out 2).trans rfl, (blk_cell BK239.out 3).trans rfl, (blk_cell BK239.out 4).trans rfl, (blk_cell BK239.out 5).trans rfl, (blk_cell BK239.out 6).trans rfl, (blk_cell BK239.out 7).trans rfl⟩ (fun hHeld => ?_)
          clear hK K
          refine norm_ (a' := ?_) ?_ ?_
          rotate_left
          · show Act.put _ (some 107) _ = _
            simp only [Act.put, PU, i64_w, i32_w]
            rfl
          refine one_ (i := 45) (N := some 108) (tf 46 55) rfl rfl (one_of HT_.out (by kernel_rfl)) (by decide) (fun K hK => ?_)
          refine Kd.R_lit_step k36 _ 36 ?hg (N := 108) ?hd (xs := ([(⟨t308, (⟨t309, t310, t311, t312, t313, t314⟩ : S34), t315⟩ : S36), (⟨t316, (⟨t317, t318, t319, t320, t321, t322⟩ : S34), t323⟩ : S36)] : List (S36))) (inner := [.int .i64 t308, .int .i64 t309, .int .i64 t310, .int .i64 t311, .int .i64 t312, .int .i64 t313, .string t314, .int .i64 t315, .int .i64 t316, .int .i64 t317, .int .i64 t318, .int .i64 t319, .int .i64 t320, .int .i64 t321, .string t322, .int .i64 t323]) (ok := fun _ => True) (okp := fun _ => True) ?hr ?hp (fun _ hk => hk) trivial (Below.refl _ _) (Nat.le_refl _) (by simp) ?_; (case hd => rfl); (case hg => rfl); (case hr => first | (go_simp; done) | (go_simp; rfl)); (case hp => exact (Reps.c8 (show Kd.M k36 _ _ _ (⟨t308, (⟨t309, t310, t311, t312, t313, t314⟩ : S34), t315⟩ : S36) [.int .i64 t308, .int .i64 t309, .int .i64 t310, .int .i64 t311, .int .i64 t312, .int .i64 t313, .string t314, .int .i64 t315] from (k36_mkM _ _ _ (⟨t308, (⟨t309, t310, t311, t312, t313, t314⟩ : S34), t315⟩ : S36) )) (Reps.c8 (show Kd.M k36 _ _ _ (⟨t316, (⟨t317, t318, t319, t320, t321, t322⟩ : S34), t323⟩ : S36) [.int .i64 t316, .int .i64 t317, .int .i64 t318, .int .i64 t319, .int .i64 t320, .int .i64 t321, .string t322, .int .i64 t323] from (k36_mkM _ _ _ (⟨t316, (⟨t317, t318, t319, t320, t321, t322⟩ : S34), t323⟩ : S36) )) (Reps.none _ _))))
          intro v325 w158 ho159 hb hg_ hnew_
          clear hg_ hnew_
          (first | rw [← Ny324.out] at ho159 | (simp only [Int.reduceToNat] at ho159; rw [← Ny324.out] at ho159))
          have n0_ := Aside0.mk (Kd.R_elder' (Kd.RA HO_14.out) (Kd.R_base ho159) hb)
          have n1_ := Aside0.mk (Kd.R_elder' (Kd.RA HO_175001.out) (Kd.R_base ho159) hb)
          have n2_ := Aside0.mk (Kd.R_elder' (Kd.RA HO_208001.out) (Kd.R_base ho159) hb)
          have n3_ := Aside0.mk (Kd.V_elder' (Kd.VA HO_223001.out) (Kd.R_base ho159) hb)
          have n4_ := Aside0.mk (Kd.V_elder' (Kd.VA HO_239001.out) (Kd.R_base ho159) hb)
          have n5_ := Aside0.mk (Kd.V_elder' (Kd.VA HO_255001.out) (Kd.R_base ho159) hb)
          have n6_ := Aside0.mk (Kd.V_elder' (Kd.VA HO_265001.out) (Kd.R_base ho159) hb)
          have n7_ := Aside0.mk (Kd.R_elder' (Kd.RA HO_272001.out) (Kd.R_base ho159) hb)
          have n8_ := Aside0.mk (Kd.R_elder' (Kd.RA HO306.out) (Kd.R_base ho159) hb)
          have n9_ := Aside0.mk (Kd.R_lower (Kd.R_newB (Kd.R_newB (Kd.R_newB (Kd.R_new' (Kd.R_new' (Kd.R_new' (Kd.R_new' (Kd.R_new' ho159 (Kd.R_lt (Kd.RA HO_14.out))) (Kd.R_lt (Kd.RA HO_175001.out))) (Kd.R_lt (Kd.RA HO_208001.out))) (Kd.R_lt (Kd.RA HO_272001.out))) (Kd.R_lt (Kd.RA HO306.out))) (g := gb223) (o := .cells #[.int .i64 t213, .int .i64 t214, .int .i64 t215, .int .i64 t216, .int .i64 t217, .int .i64 t218, .string t219, .int .i64 t220] 36 (0, 0)) (BA BK223.out)) (g := gb239) (o := .cells #[.int .i64 t229, .int .i64 t230, .int .i64 t231, .int .i64 t232, .int .i64 t233, .int .i64 t234, .string t235, .int .i64 t236] 36 (0, 0)) (BA BK239.out)) (g := gb255) (o := .cells #[.int .i64 t245, .int .i64 t246, .int .i64 t247, .int .i64 t248, .int .i64 t249, .int .i64 t250, .string t251, .int .i64 t252] 36 (0, 0)) (BA BK255.out)) (below_size (LG HB.out (G1 GE174.out (G1 GE207.out (G1 GE222.out (G1 GE223.out (G1 GE238.out (G1 GE239.out (G1 GE254.out (G1 GE255.out (G1 GE264.out (G1 GE271.out G0)))))))))))))
          have n10_ := Aside0.mk (blk_below (BA BK174.out) hb)
          have n11_ := Aside0.mk (blk_below (BA BK207.out) hb)
          have n12_ := Aside0.mk (blk_below (BA BK222.out) hb)
          have n13_ := Aside0.mk (blk_below (BA BK223.out) hb)
          have n14_ := Aside0.mk (blk_below (BA BK238.out) hb)
          have n15_ := Aside0.mk (blk_below (BA BK239.out) hb)
          have n16_ := Aside0.mk (blk_below (BA BK254.out) hb)
          have n17_ := Aside0.mk (blk_below (BA BK255.out) hb)
          have n18_ := Aside0.mk (blk_below (BA BK264.out) hb)
          have n19_ := Aside0.mk (blk_below (BA BK271.out) hb)
          have n20_ := Aside0.mk (below_step (LG HB.out (G1 GE174.out (G1 GE207.out (G1 GE222.out (G1 GE223.out (G1 GE238.out (G1 GE239.out (G1 GE254.out (G1 GE255.out (G1 GE264.out (G1 GE271.out G0))))))))))) hb)
          clear HO_14
          clear HO_175001
          clear HO_208001
          clear HO_223001
          clear HO_239001
          clear HO_255001
          clear HO_265001
          clear HO_272001
          clear HO306
          clear BK174
          clear BK207
          clear BK222
          clear BK223
          clear BK238
          clear BK239
          clear BK254
          clear BK255
          clear BK264
          clear BK271
          clear HB
          have HO_14 := n0_
          have HO_175001 := n1_
          have HO_208001 := n2_
          have HO_223001 := n3_
          have HO_239001 := n4_
          have HO_255001 := n5_
          have HO_265001 := n6_
          have HO_272001 := n7_
          have HO306 := n8_
          have HO326 := n9_
          have BK174 := n10_
          have BK207 := n11_
          have BK222 := n12_
          have BK223 := n13_
          have BK238 := n14_
          have BK239 := n15_
          have BK254 := n16_
          have BK255 := n17_
          have BK264 := n18_
          have BK271 := n19_
          have HB := n20_
          clear n0_ n1_ n2_ n3_ n4_ n5_ n6_ n7_ n8_ n9_ n10_ n11_ n12_ n13_ n14_ n15_ n16_ n17_ n18_ n19_ n20_
          clear hb ho159
          obtain ⟨Ao160, co160, eo160⟩ := Kd.R_slice HO326.out
          (first | subst eo160 | (injection eo160 with f1_ f2_ f3_; have f4_ := f1_.symm; have f5_ := f3_.symm; clear f1_ f2_ f3_; subst f4_; subst f5_))
          refine hK.out _ _ ⟨(blk_cell BK207.out 0).trans rfl, (blk_cell BK207.out 1).trans rfl, (blk_cell BK207.out 2).trans rfl, (blk_cell BK223.out 0).trans rfl, (blk_cell BK223.out 1).trans rfl, (blk_cell BK223.out 2).trans rfl, (blk_cell BK223.out 3).trans rfl, (blk_cell BK223.out 4).trans rfl, (blk_cell BK223.out 5).trans rfl, (blk_cell BK223.out 6).trans rfl, (blk_cell BK223.out 7).trans rfl, (blk_cell BK239.out 0).trans rfl, (blk_cell BK239.out 1).trans rfl, (blk_cell BK239.out 2).trans rfl, (blk_cell BK239.out 3).trans rfl, (blk_cell BK239.out 4).trans rfl, (blk_cell BK239.out 5).trans rfl, (blk_cell BK239.out 6).trans rfl, (blk_cell BK239.out 7).trans rfl⟩ (fun hHeld => ?_)
          clear hK K
          refine norm_ (a' := ?_) ?_ ?_
          rotate_left
          · show Act.put _ (some 108) _ = _
            simp only [Act.put, PU, i64_w, i32_w]
            rfl
          refine one_ (i := 46) (N := some 109) (tf 47 55) rfl rfl (one_of HT_.out (by kernel_rfl)) (by decide) (fun K hK => ?_)
          refine goes_ Try.func21 (by kernel_rfl) rfl #[.slice Ao153 t261.length co153, .slice Ao160 y324.length co160] (by rfl) rfl rfl (by (try simp only [List.map_toArray, List.map_cons, List.map_nil]); first | done | rfl | (simp only [List.length_drop, List.length_take]; rfl)) ?_
          with_reducible refine (feed_Covers.calls kj10 _ _ t261 (fun k_ => some k_ = (.slice Ao160 y324.length co160 : Value).ownBlock) _ _ y324 false _ ?side1 ?side2 ?side3 A143.out).mono ?_
          (case side1 => exact Kd.CA (Kd.R_reads' HO_14.out).2.2)
          (case side2 => exact (Kd.R_reads' HO_14.out).2.1)
          (case side3 => exact Kd.R_V (Kd.R_tight rfl (Kd.R_types (Kd.R_types (Kd.R_types (Kd.R_types (Kd.R_types (Kd.R_types (Kd.R_types (HO326.out) BK174.out (by decide)) BK207.out (by decide)) BK222.out (by decide)) BK238.out (by decide)) BK254.out (by decide)) BK264.out (by decide)) BK271.out (by decide))))
          rintro e w161 ⟨rfl, hb⟩
          refine ⟨_, rfl, ?_⟩
          have n0_ := Aside0.mk (Kd.R_below (Kd.RA HO_14.out) hb)
          have n1_ := Aside0.mk (Kd.R_below (Kd.RA HO_175001.out) hb)
          have n2_ := Aside0.mk (Kd.R_below (Kd.RA HO_208001.out) hb)
          have n3_ := Aside0.mk (Kd.V_below (Kd.VA HO_223001.out) hb)
          have n4_ := Aside0.mk (Kd.V_below (Kd.VA HO_239001.out) hb)
          have n5_ := Aside0.mk (Kd.V_below (Kd.VA HO_255001.out) hb)
          have n6_ := Aside0.mk (Kd.V_below (Kd.VA HO_265001.out) hb)
          have n7_ := Aside0.mk (Kd.R_below (Kd.RA HO_272001.out) hb)
          have n8_ := Aside0.mk (Kd.R_below (Kd.RA HO306.out) hb)
          have n9_ := Aside0.mk (Kd.R_below (Kd.RA HO326.out) hb)
          have n10_ := Aside0.mk (blk_below (BA BK174.out) hb)
          have n11_ := Aside0.mk (blk_below (BA BK207.out) hb)
          have n12_ := Aside0.mk (blk_below (BA BK222.out) hb)
          have n13_ := Aside0.mk (blk_below (BA BK223.out) hb)
          have n14_ := Aside0.mk (blk_below (BA BK238.out) hb)
          have n15_ := Aside0.mk (blk_below (BA BK239.out) hb)
          have n16_ := Aside0.mk (blk_below (BA BK254.out) hb)
          have n17_ := Aside0.mk (blk_below (BA BK255.out) hb)
          have n18_ := Aside0.mk (blk_below (BA BK264.out) hb)
          have n19_ := Aside0.mk (blk_below (BA BK271.out) hb)
          have n20_ := Aside0.mk (below_step (LG HB.out (G1 GE174.out (G1 GE207.out (G1 GE222.out (G1 GE223.out (G1 GE238.out (G1 GE239.out (G1 GE254.out (G1 GE255.out (G1 GE264.out (G1 GE271.out G0))))))))))) hb)
          clear HO_14
          clear HO_175001
          clear HO_208001
          clear HO_223001
          clear HO_239001
          clear HO_255001
          clear HO_265001
          clear HO_272001
          clear HO306
          clear HO326
          clear BK174
          clear BK207
          clear BK222
          clear BK223
          clear BK238
          clear BK239
          clear BK254
          clear BK255
          clear BK264
          clear BK271
          clear HB
          have HO_14 := n0_
          have HO_175001 := n1_
          have HO_208001 := n2_
          have HO_223001 := n3_
          have HO_239001 := n4_
          have HO_255001 := n5_
          have HO_265001 := n6_
          have HO_272001 := n7_
          have HO306 := n8_
          have HO326 := n9_
          have BK174 := n10_
          have BK207 := n11_
          have BK222 := n12_
          have BK223 := n13_
          have BK238 := n14_
          have BK239 := n15_
          have BK254 := n16_
          have BK255 := n17_
          have BK264 := n18_
          have BK271 := n19_
          have HB := n20_
          clear n0_ n1_ n2_ n3_ n4_ n5_ n6_ n7_ n8_ n9_ n10_ n11_ n12_ n13_ n14_ n15_ n16_ n17_ n18_ n19_ n20_
          (try clear hb)
          (try clear hb2)
          (try clear hk)
          (try clear hi)
          refine hK.out _ _ ⟨(blk_cell BK207.out 0).trans rfl, (blk_cell BK207.out 1).trans rfl, (blk_cell BK207.out 2).trans rfl, (blk_cell BK223.out 0).trans rfl, (blk_cell BK223.out 1).trans rfl, (blk_cell BK223.out 2).trans rfl, (blk_cell BK223.out 3).trans rfl, (blk_cell BK223.out 4).trans rfl, (blk_cell BK223.out 5).trans rfl, (blk_cell BK223.out 6).trans rfl, (blk_cell BK223.out 7).trans rfl, (blk_cell BK239.out 0).trans rfl, (blk_cell BK239.out 1).trans rfl, (blk_cell BK239.out 2).trans rfl, (blk_cell BK239.out 3).trans rfl, (blk_cell BK239.out 4).trans rfl, (blk_cell BK239.out 5).trans rfl, (blk_cell BK239.out 6).trans rfl, (blk_cell BK239.out 7).trans rfl⟩ (fun hHeld => ?_)
          clear hK K
          refine norm_ (a' := ?_) ?_ ?_
          rotate_left
          · show Act.put _ (some 109) _ = _
            simp only [Act.put, PU, i64_w, i32_w]
            rfl
          refine pure_ (i := 47) (N := some 110) (v := ?_) (a' := ?_) (tf 48 55) rfl rfl (any_of HT_.out (by kernel_rfl)) (fun _ _ _ h => h) (Or.inl ⟨by rfl, ?_⟩) ?_ ?_
          rotate_left
          · intro w'
            go_simp
            with_reducible rfl
          rotate_left
          · simp only [Act.put, PU, i64_w, i32_w]
            rfl
          refine pure_ (i := 48) (N := some 111) (v := ?_) (a' := ?_) (tf 49 55) rfl rfl (any_of HT_.out (by kernel_rfl)) (fun _ _ _ h => h) (Or.inl ⟨by rfl, ?_⟩) ?_ ?_
          rotate_left
          · intro w'
            go_simp
            with_reducible rfl
          rotate_left
          · simp only [Act.put, PU, i64_w, i32_w]
            rfl
          refine pure_ (i := 49) (N := some 112) (v := ?_) (a' := ?_) (tf 50 55) rfl rfl (any_of HT_.out (by kernel_rfl)) (fun _ _ _ h => h) (Or.inl ⟨by rfl, ?_⟩) ?_ ?_
          rotate_left
          · intro w'
            go_simp
            with_reducible rfl
          rotate_left
          · simp only [Act.put, PU, i64_w, i32_w]
            rfl
          refine pure_ (i := 50) (N := some 113) (v := ?_) (a' := ?_) (tf 51 55) rfl rfl (any_of HT_.out (by kernel_rfl)) (fun _ _ _ h => h) (Or.inl ⟨by rfl, ?_⟩) ?_ ?_
          rotate_left
          · intro w'
            go_simp
            with_reducible rfl
          rotate_left
          · simp only [Act.put, PU, i64_w, i32_w]
            rfl
          refine one_ (i := 51) (N := some 114) (tf 52 55) rfl rfl (one_of HT_.out (by kernel_rfl)) (by decide) (fun K hK => ?_)
          refine goes_ Try.func21 (by kernel_rfl) rfl #[.slice none 0 0, .slice Ao153 t261.length co153] (by rfl) rfl rfl (by (try simp only [List.map_toArray, List.map_cons, List.map_nil]); first | done | rfl | (simp only [List.length_drop, List.length_take]; rfl)) ?_
          refine (feed_Covers.calls kj10 _ _ ([] : List (S36)) (fun k_ => some k_ = (.slice Ao153 t261.length co153 : Value).ownBlock) _ _ t261 t328 _ ?side1 ?side2 ?side3 A145.out).mono ?_
          (case side1 => exact Kd.C_nil _ _)
          (case side2 => exact Nat.le_refl _)
          (case side3 => exact Kd.R_V (Kd.R_tight rfl (Kd.R_types (Kd.R_types (Kd.R_types (Kd.R_types (Kd.R_types (Kd.R_types (Kd.R_types (HO_14.out) BK174.out (by decide)) BK207.out (by decide)) BK222.out (by decide)) BK238.out (by decide)) BK254.out (by decide)) BK264.out (by decide)) BK271.out (by decide))))
          rintro e w162 ⟨rfl, hb⟩
          refine ⟨_, rfl, ?_⟩
          have n0_ := Aside0.mk (Kd.R_below (Kd.RA HO_14.out) hb)
          have n1_ := Aside0.mk (Kd.R_below (Kd.RA HO_175001.out) hb)
          have n2_ := Aside0.mk (Kd.R_below (Kd.RA HO_208001.out) hb)
          have n3_ := Aside0.mk (Kd.V_below (Kd.VA HO_223001.out) hb)
          have n4_ := Aside0.mk (Kd.V_below (Kd.VA HO_239001.out) hb)
          have n5_ := Aside0.mk (Kd.V_below (Kd.VA HO_255001.out) hb)
          have n6_ := Aside0.mk (Kd.V_below (Kd.VA HO_265001.out) hb)
          have n7_ := Aside0.mk (Kd.R_below (Kd.RA HO_272001.out) hb)
          have n8_ := Aside0.mk (Kd.R_below (Kd.RA HO306.out) hb)
          have n9_ := Aside0.mk (Kd.R_below (Kd.RA HO326.out) hb)
          have n10_ := Aside0.mk (blk_below (BA BK174.out) hb)
          have n11_ := Aside0.mk (blk_below (BA BK207.out) hb)
          have n12_ := Aside0.mk (blk_below (BA BK222.out) hb)
          have n13_ := Aside0.mk (blk_below (BA BK223.out) hb)
          have n14_ := Aside0.mk (blk_below (BA BK238.out) hb)
          have n15_ := Aside0.mk (blk_below (BA BK239.out) hb)
          have n16_ := Aside0.mk (blk_below (BA BK254.out) hb)
          have n17_ := Aside0.mk (blk_below (BA BK255.out) hb)
          have n18_ := Aside0.mk (blk_below (BA BK264.out) hb)
          have n19_ := Aside0.mk (blk_below (BA BK271.out) hb)
          have n20_ := Aside0.mk (below_step (LG HB.out (G1 GE174.out (G1 GE207.out (G1 GE222.out (G1 GE223.out (G1 GE238.out (G1 GE239.out (G1 GE254.out (G1 GE255.out (G1 GE264.out (G1 GE271.out G0))))))))))) hb)
          clear HO_14
          clear HO_175001
          clear HO_208001
          clear HO_223001
          clear HO_239001
          clear HO_255001
          clear HO_265001
          clear HO_272001
          clear HO306
          clear HO326
          clear BK174
          clear BK207
          clear BK222
          clear BK223
          clear BK238
          clear BK239
          clear BK254
          clear BK255
          clear BK264
          clear BK271
          clear HB
          have HO_14 := n0_
          have HO_175001 := n1_
          have HO_208001 := n2_
          have HO_223001 := n3_
          have HO_239001 := n4_
          have HO_255001 := n5_
          have HO_265001 := n6_
          have HO_272001 := n7_
          have HO306 := n8_
          have HO326 := n9_
          have BK174 := n10_
          have BK207 := n11_
          have BK222 := n12_
          have BK223 := n13_
          have BK238 := n14_
          have BK239 := n15_
          have BK254 := n16_
          have BK255 := n17_
          have BK264 := n18_
          have BK271 := n19_
          have HB := n20_
          clear n0_ n1_ n2_ n3_ n4_ n5_ n6_ n7_ n8_ n9_ n10_ n11_ n12_ n13_ n14_ n15_ n16_ n17_ n18_ n19_ n20_
          (try clear hb)
          (try clear hb2)
          (try clear hk)
          (try clear hi)
          refine hK.out _ _ ⟨(blk_cell BK207.out 0).trans rfl, (blk_cell BK207.out 1).trans rfl, (blk_cell BK207.out 2).trans rfl, (blk_cell BK223.out 0).trans rfl, (blk_cell BK223.out 1).trans rfl, (blk_cell BK223.out 2).trans rfl, (blk_cell BK223.out 3).trans rfl, (blk_cell BK223.out 4).trans rfl, (blk_cell BK223.out 5).trans rfl, (blk_cell BK223.out 6).trans rfl, (blk_cell BK223.out 7).trans rfl, (blk_cell BK239.out 0).trans rfl, (blk_cell BK239.out 1).trans rfl, (blk_cell BK239.out 2).trans rfl, (blk_cell BK239.out 3).trans rfl, (blk_cell BK239.out 4).trans rfl, (blk_cell BK239.out 5).trans rfl, (blk_cell BK239.out 6).trans rfl, (blk_cell BK239.out 7).trans rfl⟩ (fun hHeld => ?_)
          clear hK K
          refine norm_ (a' := ?_) ?_ ?_
          rotate_left
          · show Act.put _ (some 114) _ = _
            simp only [Act.put, PU, i64_w, i32_w]
            rfl
          refine pure_ (i := 52) (N := some 115) (v := ?_) (a' := ?_) (tf 53 55) rfl rfl (any_of HT_.out (by kernel_rfl)) (fun _ _ _ h => h) (Or.inl ⟨by rfl, ?_⟩) ?_ ?_
          rotate_left
          · intro w'
            go_simp
            with_reducible rfl
          rotate_left
          · simp only [Act.put, PU, i64_w, i32_w]
            rfl
          refine pure_ (i := 53) (N := some 116) (v := ?_) (a' := ?_) (tf 54 55) rfl rfl (any_of HT_.out (by kernel_rfl)) (fun _ _ _ h => h) (Or.inl ⟨by rfl, ?_⟩) ?_ ?_
          rotate_left
          · intro w'
            go_simp
            with_reducible rfl
          rotate_left
          · simp only [Act.put, PU, i64_w, i32_w]
            rfl
          refine pure_ (i := 54) (N := some 0) (v := ?_) (a' := ?_) (tf 55 55) rfl rfl (any_of HT_.out (by kernel_rfl)) (fun _ _ _ h => h) (Or.inl ⟨by rfl, ?_⟩) ?_ ?_
          rotate_left
          · intro w'
            go_simp
            with_reducible rfl
          rotate_left
          · simp only [Act.put, PU, i64_w, i32_w]
            rfl
          refine done_ (done_of HT_.out (by kernel_rfl)) ?_
          try go_wp2
          go_ret
          exact ⟨by first | exact (congrArg (fun b => Ending.returned (.bool b)) HR_.out) | (rw [HR_.out]; done) | rfl | (rw [HR_.out]; rfl) | (simp [HR_.out]; done) | (simp [errW_none, errW_some] <;> rfl) | (simp [*, errW_none, errW_some] <;> rfl), LG HB.out (G1 GE174.out (G1 GE207.out (G1 GE222.out (G1 GE223.out (G1 GE238.out (G1 GE239.out (G1 GE254.out (G1 GE255.out (G1 GE264.out (G1 GE271.out G0))))))))))⟩

theorem hopperlaw14_live.only (k : Nat) (r : Bool) (h : hopperlaw14_live.f k = some r) : r = true := by
  have h60 : hopperlaw14_live.f 60 = some true := by decide +kernel
  have up : ∀ a b v, hopperlaw14_live.f a = some v → hopperlaw14_live.f (a + b) = some v := fun a b v hv => by
    induction b with
    | zero => exact hv
    | succ b ih => exact hopperlaw14_live.mono _ _ ih
  have e1 := up k 60 r h
  have e2 := up 60 k true h60
  rw [Nat.add_comm, e1] at e2
  exact Option.some.inj e2
theorem hopperlaw14_live.calls (k : Nat)  (r : Bool) (w : World) (h : hopperlaw14_live.f k  = some r) :
    Calls Try.prog 10 #[] w fun e w' => e = .returned (.bool r) ∧ Below w.heap.size w w' := by
  obtain rfl := hopperlaw14_live.only k r h
  exact hopperlaw14_live.callsT k w h

-- GIVEN hopperlaw14_live

end Go.Proofs.Ythmnedlaecekkaa.PFeedParts
